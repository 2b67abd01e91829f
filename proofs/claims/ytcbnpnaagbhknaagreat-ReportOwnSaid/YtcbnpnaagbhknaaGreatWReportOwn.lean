/- A part of the walk. -/
import Derived.Test.YtcbnpnaagbhknaaGreatQ6
set_option linter.unusedVariables false
set_option linter.unusedSimpArgs false
namespace Go.Proofs.YtcbnpnaagbhknaaGreat
noncomputable section
open Go Go.Proofs.YtcbnpnaagbhknaaGreat.Ev
set_option maxRecDepth 20000
def xQ:List Par:=[(true,[.int .i64,.int .i64,.int .i64,.int .i64,.int .i64,.int .i64,.int .i64,.int .i64,.int .i64,.int .i64,.int .i64,.int .i64,.int .i64,.ints .i64,.ints .i64,.ints .i64,.ints .i64,.ints .i64,.ints .i64,.ints .i64]),(false,[.ab [.ints .i64,.ints .i64,.ints .i64,.ints .i64,.ints .i64,.ints .i64]])]
def N5:aE:=⟨jO.tab,5,⟨List.map Par.vp xQ,[],0⟩,⟨[.bool],[],0⟩,[]⟩
abbrev Pe:Type:=List Dat × Int × Int × List Dat × Int × Int × aw × ax × aw × ax × ao × List Dat × List Dat × List Dat × List Dat × List Dat × List Dat × List Dat × List Dat × List Dat × List Dat × List Dat × List Dat × List Dat
abbrev MJ:Type:=List Dat × Int × Int × Int × Int × aw × ax × aw × ax × ao × List Dat × List Dat × List Int × List Dat × List Dat × List Dat × List Dat × List Dat × List Dat × List Dat × List Dat × List Dat × List Dat × List Dat × List Dat × List Dat
abbrev rJ:Type:=List Dat × Int × Int × aw × ax × aw × ax × ao × List Dat × List Dat × List Dat × List Dat × List Dat × List Dat × List Dat × List Dat × List Dat × List Dat × List Dat × List Dat × List Dat
def G4 (m:Nat) (k0:rJ->Option (List Un)) (k:Pe->Option (List Un)):Pe->Option (List Un):=fun(a0,a1,a2,a3,a4,a5,a6,a7,a8,a9,a10,a11,a12,a13,a14,a15,a16,a17,a18,a19,a20,a21,a22,a23)=>
 bif decide (a5<a4)then
 chk (inb a5 a3.length)<|
 chk (decide (a5.toNat<a3.length))<|
 lt (af a3 a5.toNat:Dat) fun d19=>
 chk (decide (a11.length<=1000000)&&a11.all (fun r=>decide ((r.d 11).length<=1000000)))<|
 chk (inb a5 a13.length)<|
 chk (decide (a5.toNat<a13.length))<|
 bif (w64 ((d19.i 0)+(d19.i 2))) !=(w64 (((af a13 a5.toNat).i 1)-((toV a5 a11).2)))then
 some ([.b false])
 else
 k (a0,a1,a2,a3,a4,(w64 (a5+1)),a6,a7,a8,a9,a10,a11,a12,a13,a14,a15,a16,a17,a18,a19,a20,a21,a22,a23)
 else
 k0 (a0,a1,(w64 (a2+1)),a6,a7,a8,a9,a10,a11,a12,a13,a14,a15,a16,a17,a18,a19,a20,a21,a22,a23)
def Iu (m:Nat) (k0:rJ->Option (List Un)):Nat->Pe->Option (List Un):=bg (G4 m k0)
theorem z8 (m:Nat) (k0:rJ->Option (List Un)) (n:Nat):Iu m k0 (n+1)=G4 m k0 (Iu m k0 n):=rfl
def Sk (F:Pe->Option (List Un)):aQ:=⟨[.lp [0,1,1,1,1,1,1,1,1,0,0,1,0,0,1,0,1,1,1,1,1],.blk 4,.blk 1,.code [1,1,0,0,1,0,1,1,1,1,1],.lp [0,1,0,1,1,1,1,1],.blk 0,.code [1,1,1,1,1,1]],⟨frm 180 [(1,.ab [.ints .i64,.ints .i64,.ints .i64,.ints .i64,.ints .i64,.ints .i64]),(5,.ptr 0 0 0),(6,.np 1 0 0),(8,.buf 2 19),(9,.int .i64),(126,.ab (sI 3)),(127,.int .i64),(128,.int .i64)],[.cells [.int .i64,.int .i64,.int .i64,.buf 3 2,.buf 4 3,.int .i64,.int .i64,.int .i64,.int .i64,.int .i64,.int .i64,.int .i64,.int .i64,.int .i64,.int .i64,.buf 5 2,.buf 6 2,.buf 7 2],.cells [.int .i64,.int .i64,.int .i64,.buf 8 2,.buf 9 3,.int .i64,.int .i64,.int .i64,.int .i64,.int .i64,.int .i64,.int .i64,.int .i64,.int .i64,.int .i64,.buf 10 2,.buf 11 2,.buf 12 2,.ptr 13 0 0,.buf 14 7,.int .i64,.int .i64,.int .i64,.int .i64,.int .i64,.int .i64,.int .i64,.int .i64,.int .i64,.bool],.ab [.bool,.int .i64,.int .i64,.int .i64,.int .i64,.int .i64,.int .i64,.int .i64,.int .i64,.int .i64,.int .i64,.ab (sI 4),.int .i64,.int .i64,.int .i64,.int .i64,.int .i64,.ab (sI 3),.int .i64],.ab (sI 2),.ab (sI 3),.ab (sI 2),.ab (sI 2),.ab (sI 2),.ab (sI 2),.ab (sI 3),.ab (sI 2),.ab (sI 2),.ab (sI 2),.cells [.buf 15 5],.ab (sI 7),.ab (sB 4)],0⟩,onU F⟩
def y5 (m:Nat) (k0:rJ->Option (List Un)) (k:MJ->Option (List Un)):MJ->Option (List Un):=fun(a0,a1,a2,a3,a4,a5,a6,a7,a8,a9,a10,a11,a12,a13,a14,a15,a16,a17,a18,a19,a20,a21,a22,a23,a24,a25)=>
 bif decide (a4<a3)then
 chk (inb a4 a13.length)<|
 chk (decide (a4.toNat<a13.length))<|
 lt (af a13 a4.toNat:Dat) fun d10=>
 chk (fits (a11.length+1) 16)<|
 chk (fits (a12.length+1) 8)<|
 k (a0,a1,a2,a3,(w64 (a4+1)),a5,a6,a7,a8,a9,a10,(a11++([.r [.n (d10.i 0),.n (d10.i 1)]])),(a12++([(d10.i 2)])),a13,a14,a15,a16,a17,a18,a19,a20,a21,a22,a23,a24,a25)
 else
 chk (inb a2 a0.length)<|
 chk (decide (a2.toNat<a0.length))<|
 lt (af a0 a2.toNat:Dat) fun d12=>
 chk (decide (a11.length<1000000)&&(a11.all (fun d=>decide (d.i 1<=1152921504606846976))&&a12.all fun y=>decide (y<=2305843009213693952)))<|
 chk (decide (0<=a1)&&mN (⟨a7,a8,a9,a19,a20,a21,a22,a23,a25,a24⟩:ae))<|
 bd ((aJ (⟨a7,a8,a9,a19,a20,a21,a22,a23,a25,a24⟩:ae) (ofL (d12.l 0) (d12.l 1) (d12.l 2) (d12.l 3) (d12.l 4) (d12.l 5) a12 0 a11)):pN) fun r14=>
 chk (decide (r14.aK.length<=1000000)&&decide (r14.notes.length<=1000000))<|
 chk (decide ((cH r14.ra r14.aK r14.rb r14.notes r14.next).length<=1000000))<|
 bd ((bu (cH r14.ra r14.aK r14.rb r14.notes r14.next)):yr) fun r15=>
 bif r14.e !=0 then
 some ([.b false])
 else
 chk (decide (r14.aK.length<=1000000)&&decide (r14.notes.length<=1000000))<|
 bif !(cu r14.ra r14.aK r14.rb r14.notes r14.next)then
 some ([.b false])
 else
 bif !r15.ok then
 some ([.b false])
 else
 chk (decide (r15.aK.length<1099511627776)&&decide (r15.notes.length<1099511627776))<|
 bif !(wI r15.ra r15.aK r15.rb r15.notes r15.next r14.ra r14.aK r14.rb r14.notes r14.next)then
 some ([.b false])
 else
 bif ((r14.notes.length:Int) !=(a15.length:Int))then
 some ([.b false])
 else
 chk (fits (a10.length+1) 184)<|
 Iu m k0 m (a0,a1,a2,r14.notes,(r14.notes.length:Int),0,a5,a6,r14.t.a,r14.t.b,r14.t.n,(a10++([.r [.n (bI r14.ra.call),.n r14.ra.period,.n r14.ra.mode,.n r14.ra.ak,.n r14.ra.bP,.n r14.ra.aF,.n r14.ra.aR,.n r14.ra.draw,.n r14.ra.advance,.n r14.ra.fee,.n r14.ra.due,.r r14.aK,.n r14.rb.bq,.n r14.rb.aL,.n r14.rb.aX,.n r14.rb.out,.n r14.rb.jl,.r r14.notes,.n r14.next]])),a14,a15,a16,a17,a18,r14.t.aP,r14.t.notes,r14.t.s0,r14.t.s1,r14.t.s2,r14.t.tr,r14.t.aL)
def Iq (m:Nat) (k0:rJ->Option (List Un)):Nat->MJ->Option (List Un):=bg (y5 m k0)
theorem z9 (m:Nat) (k0:rJ->Option (List Un)) (n:Nat):Iq m k0 (n+1)=y5 m k0 (Iq m k0 n):=rfl
def Rj (F:MJ->Option (List Un)):aQ:=⟨[.lp [0,1,0,1,1,0,0,1,0,0,1,0,1,1,1,1,1],.blk 2,.code [1,1,1,0,0,1,0,0,1,0,1,1,1,1,1],.blk 1,.code [1,1,0,0,1,0,1,1,1,1,1],.lp [0,1,0,1,1,1,1,1],.blk 0,.code [1,1,1,1,1,1]],⟨frm 180 [(1,.ab [.ints .i64,.ints .i64,.ints .i64,.ints .i64,.ints .i64,.ints .i64]),(5,.ptr 0 0 0),(6,.np 1 0 0),(8,.buf 2 19),(9,.int .i64),(10,.buf 3 2),(11,.buf 4 1),(60,.buf 5 5),(61,.int .i64),(62,.int .i64)],[.cells [.int .i64,.int .i64,.int .i64,.buf 6 2,.buf 7 3,.int .i64,.int .i64,.int .i64,.int .i64,.int .i64,.int .i64,.int .i64,.int .i64,.int .i64,.int .i64,.buf 8 2,.buf 9 2,.buf 10 2],.cells [.int .i64,.int .i64,.int .i64,.buf 11 2,.buf 12 3,.int .i64,.int .i64,.int .i64,.int .i64,.int .i64,.int .i64,.int .i64,.int .i64,.int .i64,.int .i64,.buf 13 2,.buf 14 2,.buf 15 2,.ptr 16 0 0,.buf 17 7,.int .i64,.int .i64,.int .i64,.int .i64,.int .i64,.int .i64,.int .i64,.int .i64,.int .i64,.bool],.ab [.bool,.int .i64,.int .i64,.int .i64,.int .i64,.int .i64,.int .i64,.int .i64,.int .i64,.int .i64,.int .i64,.ab (sI 4),.int .i64,.int .i64,.int .i64,.int .i64,.int .i64,.ab (sI 3),.int .i64],.ab (sI 2),.ints .i64,.ab (sB 4),.ab (sI 2),.ab (sI 3),.ab (sI 2),.ab (sI 2),.ab (sI 2),.ab (sI 2),.ab (sI 3),.ab (sI 2),.ab (sI 2),.ab (sI 2),.cells [.buf 18 5],.ab (sI 7),.ab (sB 4)],0⟩,onU F⟩
def Hr (m:Nat) (k:rJ->Option (List Un)):rJ->Option (List Un):=fun(a0,a1,a2,a3,a4,a5,a6,a7,a8,a9,a10,a11,a12,a13,a14,a15,a16,a17,a18,a19,a20)=>
 bif (decide (a2<(a0.length:Int)))then
 bif decide (a2<8)then
 chk (decide (0<=a1))<|
 chk (decide (0<([.r [.r a20]]:List Dat).length)&&decide (((af ([.r [.r a20]]:List Dat) 0).d 0).length<1000000))<|
 lt (((af ([.r [.r a20]]:List Dat) 0).d 0):List Dat) fun l5=>
 Iq m k m (a0,a1,a2,(l5.length:Int),0,a3,a4,a5,a6,a7,a8,[],[],l5,a9,a10,a11,a12,a13,a14,a15,a16,a17,a18,a19,a20)
 else
 chk (decide (a8.length<=1000000)&&a8.all (fun r=>decide ((r.d 11).length<=1000000)))<|
 chk (decide (([]:List Dat).length<=1000000)&&([]:List Dat).all (fun r=>decide ((r.d 11).length<=1000000)))<|
 bif ((toV (-1) a8).1)==0 then
 bif ((toV (-1) a8).2)==0 then
 bif ((toV 0 ([]:List Dat)).1)==0 then
 bif ((toV 0 ([]:List Dat)).2)==0 then
 some ([.b true])
 else
 some ([.b false])
 else
 some ([.b false])
 else
 some ([.b false])
 else
 some ([.b false])
 else
 chk (decide (a8.length<=1000000)&&a8.all (fun r=>decide ((r.d 11).length<=1000000)))<|
 chk (decide (([]:List Dat).length<=1000000)&&([]:List Dat).all (fun r=>decide ((r.d 11).length<=1000000)))<|
 bif ((toV (-1) a8).1)==0 then
 bif ((toV (-1) a8).2)==0 then
 bif ((toV 0 ([]:List Dat)).1)==0 then
 bif ((toV 0 ([]:List Dat)).2)==0 then
 some ([.b true])
 else
 some ([.b false])
 else
 some ([.b false])
 else
 some ([.b false])
 else
 some ([.b false])
def Bl (m:Nat):Nat->rJ->Option (List Un):=bg (Hr m)
theorem yM (m:Nat) (n:Nat):Bl m (n+1)=Hr m (Bl m n):=rfl
def IC (F:rJ->Option (List Un)):aQ:=⟨[.lp [0,1,0,1,1,1,1,1],.blk 0,.code [1,1,1,1,1,1]],⟨frm 180 [(1,.ab [.ints .i64,.ints .i64,.ints .i64,.ints .i64,.ints .i64,.ints .i64]),(5,.ptr 0 0 0),(6,.np 1 0 0),(8,.buf 2 19),(9,.int .i64)],[.cells [.int .i64,.int .i64,.int .i64,.buf 3 2,.buf 4 3,.int .i64,.int .i64,.int .i64,.int .i64,.int .i64,.int .i64,.int .i64,.int .i64,.int .i64,.int .i64,.buf 5 2,.buf 6 2,.buf 7 2],.cells [.int .i64,.int .i64,.int .i64,.buf 8 2,.buf 9 3,.int .i64,.int .i64,.int .i64,.int .i64,.int .i64,.int .i64,.int .i64,.int .i64,.int .i64,.int .i64,.buf 10 2,.buf 11 2,.buf 12 2,.ptr 13 0 0,.buf 14 7,.int .i64,.int .i64,.int .i64,.int .i64,.int .i64,.int .i64,.int .i64,.int .i64,.int .i64,.bool],.ab [.bool,.int .i64,.int .i64,.int .i64,.int .i64,.int .i64,.int .i64,.int .i64,.int .i64,.int .i64,.int .i64,.ab (sI 4),.int .i64,.int .i64,.int .i64,.int .i64,.int .i64,.ab (sI 3),.int .i64],.ab (sI 2),.ab (sI 3),.ab (sI 2),.ab (sI 2),.ab (sI 2),.ab (sI 2),.ab (sI 3),.ab (sI 2),.ab (sI 2),.ab (sI 2),.cells [.buf 15 5],.ab (sI 7),.ab (sB 4)],0⟩,onU F⟩
theorem Wx (m:Nat) (k0:rJ->Option (List Un)) (h0:HO N5 (IC k0)):∀n,HO N5 (Sk (Iu m k0 n)):=ar ah jO.right (fun k=>[IC k0,Sk k]) (fun k h=>(aH h0 (aH h aA))) fun k a=>by kernel_rfl
theorem V1 (m:Nat) (k0:rJ->Option (List Un)) (h0:HO N5 (IC k0)):∀n,HO N5 (Rj (Iq m k0 n)):=ar ah jO.right (fun k=>[Rj k,Sk (Iu m k0 m)]) (fun k h=>(aH h (aH (Wx m _ h0 m) aA))) fun k a=>by kernel_rfl
theorem VK (m:Nat):∀n,HO N5 (IC (Bl m n)):=ar ah jO.right (fun k=>[Rj (Iq m (k) m)]) (fun k h=>(aH (V1 m _ h m) aA)) fun k a=>by kernel_rfl
def t5 (m:Nat):cI × List Dat->Option (List Un):=fun(a0,a1)=>
 chk (decide (a0.notes.length<=140737488355328))<|
 chk (decide ((aS a0).aP.length<1000000/\(aS a0).notes.length<1000000/\(aS a0).s0.length<1000000/\(aS a0).s1.length<1000000/\(aS a0).s2.length<1000000))<|
 lt (((if (cr (aS a0)).isSome then 0 else-1):Int):Int) fun x1=>
 bif ((decide (x1<0))&&true)then
 some ([.b false])
 else
 bif ((if (cr (aS a0)).isSome then 0 else 2):Int) !=0 then
 some ([.b false])
 else
 chk (decide (0<=x1))<|
 Bl m m (a1,x1,0,((aS a0).a),((aS a0).b),((dI (aS a0)).a),((dI (aS a0)).b),((dI (aS a0)).n),[],(aS a0).aP,(aS a0).notes,(aS a0).s0,(aS a0).s1,(aS a0).s2,((dI (aS a0)).aP),((dI (aS a0)).notes),((dI (aS a0)).s0),((dI (aS a0)).s1),((dI (aS a0)).s2),((dI (aS a0)).tr),((dI (aS a0)).aL))
section
variable (m : Nat) (k0 : rJ -> Option (List Un)) (ts : List Dat) (x i : Int) (xa : aw) (xb : ax) (ya : aw) (yb : ax) (yn : ao) (al dl dn d0 d1 d2 z1 z2 z3 z4 z5 z6 z7 : List Dat)
theorem VE:∀(rest pre:List Dat) (n:Nat),rest.length<n->(pre++rest).length<1000->
 Iq m k0 n (ts,x,i,((pre++rest).length:Int),(pre.length:Int),xa,xb,ya,yb,yn,al,pre.map ky,pre.map (fun d=>d.i 2),pre++rest,dl,dn,d0,d1,d2,z1,z2,z3,z4,z5,z6,z7)=y5 m k0 (fun _=>none) (ts,x,i,((pre++rest).length:Int),((pre++rest).length:Int),xa,xb,ya,yb,yn,al,(pre++rest).map ky,(pre++rest).map (fun d=>d.i 2),pre++rest,dl,dn,d0,d1,d2,z1,z2,z3,z4,z5,z6,z7):=by
 intro rest
 induction rest with
 |nil=>
  intro pre n hn hl;obtain⟨n,rfl⟩:=ai n (by simp at hn;omega);rw[z9];simp only[zaS];unfold y5;dsimp only;rw[az (by omega),az (by omega)]
 |cons y rest ih=>
  intro pre n hn hl;obtain⟨n,rfl⟩:=ai n (by simp at hn;omega);have:=ih (pre++[y]) n (by simp at hn;omega) (by simpa using hl);simp only[zac,zad]at hn hl;rw[zbP,zbP,show[y].map ky=[.r [.n (y.i 0),.n (y.i 1)]] from rfl,show[y].map (fun d=>d.i 2)=[y.i 2] from rfl]at this;rw[z9]
  conv=>lhs;unfold y5;dsimp only
  simp(disch:=omega) only[TRa,TRi,aa,LNl,LNi,zaa,au];simp only[LNl,LNi,zaa]at this⊢;exact this
theorem Vc (nt:List Dat) (hl:nt.length<=1000) (hd:dn.length=nt.length) (hk:(decide (al.length<=1000000)&&al.all (fun r=>decide ((r.d 11).length<=1000000)))=true)
 (hr:∀j,j<nt.length->(af nt j).i 0+(af nt j).i 2=(af dn j).i 1-(toV j al).2/\(0<=(af nt j).i 0+(af nt j).i 2/\(af nt j).i 0+(af nt j).i 2<=1152921504606846976)):
 ∀(k j n:Nat),j+k=nt.length->k<n->Iu m k0 n (ts,x,i,nt,(nt.length:Int),(j:Int),xa,xb,ya,yb,yn,al,dl,dn,d0,d1,d2,z1,z2,z3,z4,z5,z6,z7)=k0 (ts,x,w64 (i+1),xa,xb,ya,yb,yn,al,dl,dn,d0,d1,d2,z1,z2,z3,z4,z5,z6,z7):=by
 intro k
 induction k with
 |zero=>
  intro j n hj hn;obtain⟨n,rfl⟩:=ai n (by omega);rw[z8];unfold G4;dsimp only;rw[az (by omega)]
 |succ k ih=>
  intro j n hj hn;obtain⟨n,rfl⟩:=ai n (by omega);have:=ih (j+1) n (by omega) (by omega);obtain⟨r1,r2,r3⟩:=hr j (by omega);rw[z8];unfold G4;dsimp only;rw[ba (by omega),cq (by omega) (by omega),aI (by omega)];simp only[lt_eq,zaz];refine aV hk ?_
  rw[cq (by omega) (by omega),aI (by omega),aa (n:=(af nt j).i 0+(af nt j).i 2) (by omega) (by omega),aa (n:=(af dn j).i 1-(toV j al).2) (by omega) (by omega),fq r1,aa (n:=(j:Int)+1) (by omega) (by omega)];exact this
end
theorem TC (m:Nat) (hm:130000<=m) (ts:List Dat) (xa:aw) (xb:ax) (dl d0 d1 d2:List Dat):∀(c n:Nat) (i:Nat) (T:ae) (al:List Dat),i+c=min ts.length 8->c<n->fU T->T.n.j9=false->T.n.period=(i:Int)->al.length=i->(∀r∈al,pH T.tr.length r)->(∀j,j<T.tr.length->dr (toB j) al=(af T.tr j).i 3)->
 Bl m n (ts,0,(i:Int),xa,xb,T.a,T.b,T.n,al,dl,T.notes,d0,d1,d2,T.aP,T.notes,T.s0,T.s1,T.s2,T.tr,T.aL)=some [.b true]:=by
 intro c
 induction c with
 |zero=>
  intro n i T al hi hn h ho hp ha hq hs;obtain⟨n,rfl⟩:=ai n (by omega);rw[yM];unfold Hr;dsimp only;have ck:=qx hq (by omega)
  by_cases h1:i<ts.length
  . rw[ba (by omega),az (by omega)];refine aV ck (aV rfl rfl)
  . rw[az (by omega)];refine aV ck (aV rfl rfl)
 |succ c ih=>
  intro n i T al hi hn h ho hp ha hq hs;obtain⟨n,rfl⟩:=ai n (by omega);have tp:=kE h;have ts':=ev h;have tl:=o7 h;rw[yM];unfold Hr;dsimp only;rw[ba (by omega),ba (by omega)];refine aV rfl (aV (zar.2 ⟨rfl,zae (show T.aL.length<1000000 by omega)⟩) ?_);dsimp only[lt];have e1:=VE m (Bl m n) ts 0 i xa xb T.a T.b T.n al dl T.notes d0 d1 d2 T.aP T.notes T.s0 T.s1 T.s2 T.tr T.aL T.aL [] m (by omega) (by rw[zaC];omega);rw[zaC]at e1;refine e1.trans ?_
  unfold y5;dsimp only;rw[az (by omega),cq (by omega) (by omega),aI (by omega)];refine kV fun d _=> ?_
  have h1:(T.aL.map ky).all (fun d=>decide (d.i 1<=1152921504606846976))=true:=zal.2 fun d hd=>by
   obtain⟨x,hx,rfl⟩:=za6.1 hd;exact zae (by have:=h.yo x hx;unfold ga at this;show x.i 1<=_;omega)
  have h2:(T.aL.map (fun d=>d.i 2)).all (fun y=>decide (y<=2305843009213693952))=true:=zal.2 fun d hd=>by
   obtain⟨x,hx,rfl⟩:=za6.1 hd;exact zae (by have:=h.yo x hx;unfold ga at this;omega)
  rw[h1,h2,zbO,za9,aI (by rw[zaR];omega)];have eT:(⟨T.a,T.b,T.n,T.aP,T.notes,T.s0,T.s1,T.s2,T.aL,T.tr⟩:ae)=T:=rfl;rw[eT];refine aV (zar.2 ⟨rfl,mH.2 h⟩) ?_
  obtain⟨l,hl⟩:∃l,ofL (d.l 0) (d.l 1) (d.l 2) (d.l 3) (d.l 4) (d.l 5) (T.aL.map fun d=>d.i 2) 0 (T.aL.map ky)=l:=⟨_,rfl⟩
  have he:(cP T l).e=0:=by rw[<-hl];exact Ej h _ _ _ _ _ _
  rw[hl];clear hl e1;obtain⟨hC,hN,hO,hPd,_⟩:=xX h ho (by omega) he;have hR:=DX h he (by omega);have hD:=decode_encode hR;have hE:=EF hR;obtain⟨q,ql⟩:=pK h he;obtain⟨r1,r2⟩:=oM h he;have g2:=(mn h he).1;have hterm:=h.L4;have nl:(aC T l).notes.length=T.tr.length:=by show((gO T l).map si).length=_;rw[zaR,r1]
  have pl:(aC T l).aK.length<=144:=ql;have lens:(decide ((aC T l).aK.length<=1000000)&&decide ((aC T l).notes.length<=1000000))=true:=by
   rw[zae (show(aC T l).aK.length<=1000000 by omega),zae (show(aC T l).notes.length<=1000000 by omega)];rfl
  dsimp only[bd];rw[hC];refine aV lens (aV (zae hE.2) ?_);rw[hD,fq (show(aC T l).e=0 from rfl)];refine aV lens (jE (by rw[hR];rfl) (jE rfl (aV ?_ (jE (by rw[IB.2 ⟨rfl,RZ _,rfl,S5 _,rfl⟩];rfl) ?_))))
  . dsimp only;rw[zaR,zaR,zae (show(aC T l).aK.length<1099511627776 by omega),zae (show(aC T l).notes.length<1099511627776 by omega)];rfl
  rw[fq (by omega),dP (by omega) (by omega)];obtain⟨R,hRd⟩:∃R:Dat,R= .r [.n (bI (aC T l).ra.call),.n (aC T l).ra.period,.n (aC T l).ra.mode,.n (aC T l).ra.ak,.n (aC T l).ra.bP,.n (aC T l).ra.aF,.n (aC T l).ra.aR,.n (aC T l).ra.draw,.n (aC T l).ra.advance,.n (aC T l).ra.fee,.n (aC T l).ra.due,.r (aC T l).aK,.n (aC T l).rb.bq,.n (aC T l).rb.aL,.n (aC T l).rb.aX,.n (aC T l).rb.out,.n (aC T l).rb.jl,.r (aC T l).notes,.n (aC T l).next]:=⟨_,rfl⟩
  rw[<-hRd];have hR11:R.d 11=(cn T l).2.2:=by rw[hRd];rfl
  have hq2:∀r∈al++[R],pH T.tr.length r:=fun r hr=>by
   rcases zbp.1 hr with hr|hr
   . exact hq r hr
   . rw[zbW.1 hr];unfold pH;rw[hR11];exact⟨ql,q⟩
  have hs2:∀j,j<T.tr.length->dr (toB j) (al++[R])=(af (gO T l) j).i 3:=fun j hj=>by
   obtain⟨_,_,_,e3,_⟩:=r2 j hj;rw[og,hs j hj,e3];simp only[dr,hR11];omega
  have hdn:∀j,j<T.tr.length->(af T.notes j).i 1=(af T.tr j).i 1:=fun j hj=>by
   have:=congrArg (fun l=>l[j]?) hterm;simp only[zca,zah hj,zah (show j<T.notes.length by omega),zba,zak,zaL]at this;rw[gg hj,gg (show j<T.notes.length by omega)];exact this.2.1.symm
  refine(Vc m (Bl m n) ts 0 i xa xb (aC T l).t.a (aC T l).t.b (aC T l).t.n (al++[R]) dl T.notes d0 d1 d2 (aC T l).t.aP (aC T l).t.notes (aC T l).t.s0 (aC T l).t.s1 (aC T l).t.s2 (aC T l).t.tr (aC T l).t.aL (aC T l).notes (by omega) (by omega) (qx hq2 (by simp;omega)) (fun j hj=> ?_) T.tr.length 0 m (by omega) (by omega)).trans ?_
  . have hj:j<T.tr.length:=by omega
    have hj2:j<(gO T l).length:=by omega
    have g0:=cz (cD hj2 g2.2);obtain⟨_,e1,_⟩:=r2 j hj;rw[B8 j _ hq2 (by simp;omega),hs2 j hj,hdn j hj,<-e1];have q0:(af (aC T l).notes j)=si (af (gO T l) j):=qX _ hj2;rw[q0];show bo (af (gO T l) j)+(af (gO T l) j).i 6=_/\0<=bo (af (gO T l) j)+(af (gO T l) j).i 6/\bo (af (gO T l) j)+(af (gO T l) j).i 6<=1152921504606846976;unfold bo;omega
  . rw[aa (n:=(i:Int)+1) (by omega) (by omega)];exact ih n (i+1) (aC T l).t (al++[R]) (by omega) (by omega) hN hO (by omega) (by simp;omega) (fun r hr=>by rw[show(aC T l).t.tr.length=T.tr.length from r1];exact hq2 r hr) (fun j hj=>hs2 j (by have:(aC T l).t.tr.length=T.tr.length:=r1;omega))
set_option maxHeartbeats 8000000 in
theorem VC (b0:Int) (wb0:(Lit.int .i64 b0).wf=true) (b1:Int) (wb1:(Lit.int .i64 b1).wf=true) (b2:Int) (wb2:(Lit.int .i64 b2).wf=true) (b3:Int) (wb3:(Lit.int .i64 b3).wf=true) (b4:Int) (wb4:(Lit.int .i64 b4).wf=true) (b5:Int) (wb5:(Lit.int .i64 b5).wf=true) (b6:Int) (wb6:(Lit.int .i64 b6).wf=true) (b7:Int) (wb7:(Lit.int .i64 b7).wf=true) (b8:Int) (wb8:(Lit.int .i64 b8).wf=true) (b9:Int) (wb9:(Lit.int .i64 b9).wf=true) (b10:Int) (wb10:(Lit.int .i64 b10).wf=true) (b11:Int) (wb11:(Lit.int .i64 b11).wf=true) (b12:Int) (wb12:(Lit.int .i64 b12).wf=true) (b13:List Int) (wb13:b13.length<=140737488355328/\∀x∈b13,(Lit.int .i64 x).wf=true) (b14:List Int) (wb14:b14.length<=140737488355328/\∀x∈b14,(Lit.int .i64 x).wf=true) (b15:List Int) (wb15:b15.length<=140737488355328/\∀x∈b15,(Lit.int .i64 x).wf=true) (b16:List Int) (wb16:b16.length<=140737488355328/\∀x∈b16,(Lit.int .i64 x).wf=true) (b17:List Int) (wb17:b17.length<=140737488355328/\∀x∈b17,(Lit.int .i64 x).wf=true) (b18:List Int) (wb18:b18.length<=140737488355328/\∀x∈b18,(Lit.int .i64 x).wf=true) (b19:List Int) (wb19:b19.length<=140737488355328/\∀x∈b19,(Lit.int .i64 x).wf=true) (b20:List Dat) (wb20:b20.length<=140737488355328/\∀x∈b20,WfR [.ints .i64,.ints .i64,.ints .i64,.ints .i64,.ints .i64,.ints .i64] x.sub):∃m,t5 m ((⟨(⟨b0,b1,b2⟩:aw),(⟨b3,b4,b5,b6,b7,b8,b9,b10,b11,b12⟩:ax),b13,b14,b15,b16,b17,b18,b19⟩:cI),b20)=some [.b true]:=by
 have hn:(⟨⟨b0,b1,b2⟩,⟨b3,b4,b5,b6,b7,b8,b9,b10,b11,b12⟩,b13,b14,b15,b16,b17,b18,b19⟩:cI).notes.length<=140737488355328:=wb14.1;generalize (⟨⟨b0,b1,b2⟩,⟨b3,b4,b5,b6,b7,b8,b9,b10,b11,b12⟩,b13,b14,b15,b16,b17,b18,b19⟩:cI)=k at hn;have h:=G2 k;have hT:dI (aS k)=cy (aS k):=Ag k;refine⟨130000, ?_⟩;unfold t5;dsimp only[lt];rw[aI hn,aI (tz k),mr k,if_pos rfl,if_pos rfl];refine jE rfl (jE rfl (aV rfl ?_));rw[hT];refine TC 130000 (by omega) b20 (aS k).a (aS k).b (aS k).aP (aS k).s0 (aS k).s1 (aS k).s2 (min b20.length 8) 130000 0 (cy (aS k)) [] (by omega) (by omega) h rfl rfl rfl (fun r hr=>by simp at hr) (fun j hj=> ?_);show 0=(af ((aS k).notes.map po) j).i 3;have hj:j<(aS k).notes.length:=by
  have:(cy (aS k)).tr=(aS k).notes.map po:=rfl;rw[this,zaR]at hj;exact hj
 rw[qX _ hj];rfl
set_option maxRecDepth 20000 in
theorem yz {HH:Type} {enc:TypeId × Value->HH} {w:World} {base:Nat} {vs:List Value} {ds:List (DataW HH)} {ps:List MemPlace} (hsh:w.ShapedOpen Tryz.prog)
 (hd:DataW.TrodAll enc Tryz.prog w 0 (fun _=>true) true Tryz.f5.params.toList vs ds ps) {us':List TypeId} {gs:List (DataW HH)} (hz:(DataW.weightsEach Tryz.prog (Tryz.f5.params.toList++us') (ds++gs)).all (·<=reachBytes)=true) (hval:∀(j:Nat) t v,Tryz.f5.params.toList[j]? =some t->vs[j]? =some v->Value.okWide Tryz.prog w .any base t v):
 Calls Tryz.prog 5 vs.toArray w fun e w'=>e= .returned (.bool true)/\RowKit.Below w.heap.size w w':=
 xl Seat.mix Seat.names wN HZ (pars:=xQ) (by kernel_rfl) (fun us h=>by
  change WfU [.int .i64,.int .i64,.int .i64,.int .i64,.int .i64,.int .i64,.int .i64,.int .i64,.int .i64,.int .i64,.int .i64,.int .i64,.int .i64,.ints .i64,.ints .i64,.ints .i64,.ints .i64,.ints .i64,.ints .i64,.ints .i64,.ab [.ints .i64,.ints .i64,.ints .i64,.ints .i64,.ints .i64,.ints .i64]] us at h;obtain⟨b0,u,rfl,wb0,h⟩:=bD h;obtain⟨b1,u,rfl,wb1,h⟩:=bD h;obtain⟨b2,u,rfl,wb2,h⟩:=bD h;obtain⟨b3,u,rfl,wb3,h⟩:=bD h;obtain⟨b4,u,rfl,wb4,h⟩:=bD h;obtain⟨b5,u,rfl,wb5,h⟩:=bD h;obtain⟨b6,u,rfl,wb6,h⟩:=bD h;obtain⟨b7,u,rfl,wb7,h⟩:=bD h;obtain⟨b8,u,rfl,wb8,h⟩:=bD h;obtain⟨b9,u,rfl,wb9,h⟩:=bD h;obtain⟨b10,u,rfl,wb10,h⟩:=bD h;obtain⟨b11,u,rfl,wb11,h⟩:=bD h;obtain⟨b12,u,rfl,wb12,h⟩:=bD h;obtain⟨b13,u,rfl,wb13,h⟩:=eH h;obtain⟨b14,u,rfl,wb14,h⟩:=eH h;obtain⟨b15,u,rfl,wb15,h⟩:=eH h;obtain⟨b16,u,rfl,wb16,h⟩:=eH h;obtain⟨b17,u,rfl,wb17,h⟩:=eH h;obtain⟨b18,u,rfl,wb18,h⟩:=eH h;obtain⟨b19,u,rfl,wb19,h⟩:=eH h;obtain⟨b20,u,rfl,wb20,h⟩:=qK h;obtain rfl:=A2 h;obtain⟨m,hm⟩:=VC b0 wb0 b1 wb1 b2 wb2 b3 wb3 b4 wb4 b5 wb5 b6 wb6 b7 wb7 b8 wb8 b9 wb9 b10 wb10 b11 wb11 b12 wb12 b13 wb13 b14 wb14 b15 wb15 b16 wb16 b17 wb17 b18 wb18 b19 wb19 b20 wb20;have G:N5.Cr Tryz.prog LQ KN (Uns.enc ((⟨(⟨b0,b1,b2⟩:aw),(⟨b3,b4,b5,b6,b7,b8,b9,b10,b11,b12⟩:ax),b13,b14,b15,b16,b17,b18,b19⟩:cI),b20)) ([IC (Bl m m)])=t5 m ((⟨(⟨b0,b1,b2⟩:aw),(⟨b3,b4,b5,b6,b7,b8,b9,b10,b11,b12⟩:ax),b13,b14,b15,b16,b17,b18,b19⟩:cI),b20):=by kernel_rfl
  exact N5.Gk ah jO.right (W:=[IC (Bl m m)]) (by kernel_rfl) (by kernel_rfl) (by kernel_rfl) (aH (VK m m) aA) (G.trans hm)) hsh hd hz hval
end
end Go.Proofs.YtcbnpnaagbhknaaGreat
