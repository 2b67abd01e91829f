/- A part of the walk. -/
import Derived.Test.YtcbnpnaagbhknaaGreatQ6
set_option linter.unusedVariables false
set_option linter.unusedSimpArgs false
namespace Go.Proofs.YtcbnpnaagbhknaaGreat
noncomputable section
open Go Go.Proofs.YtcbnpnaagbhknaaGreat.Ev
set_option maxRecDepth 20000
def tt:List Par:=[(true,[.int .i64,.int .i64,.int .i64,.int .i64,.int .i64,.int .i64,.int .i64,.int .i64,.int .i64,.int .i64,.int .i64,.int .i64,.int .i64,.ints .i64,.ints .i64,.ints .i64,.ints .i64,.ints .i64,.ints .i64,.ints .i64]),(false,[.ab [.ints .i64,.ints .i64,.ints .i64,.ints .i64,.ints .i64,.ints .i64]]),(false,[.int .i64])]
def N8:aE:=⟨jO.tab,8,⟨List.map Par.vp tt,[],0⟩,⟨[.bool],[],0⟩,[]⟩
abbrev PO:Type:=Int × Int × Int × Int × Int × List Dat
abbrev Nb:Type:=Int × Int × Int × Int × Int × Int × List Dat × Int × Int × List Dat
abbrev AP:Type:=Int × Int × Int × Int × Int × Int × List Dat
abbrev N2:Type:=List Dat × Int × Int × Int × Int × Int × Int × aw × ax × ao × List Dat × List Dat × List Int × List Dat × List Dat × List Dat × List Dat × List Dat × List Dat × List Dat × List Dat
abbrev Bm:Type:=List Dat × Int × Int × Int × Int × aw × ax × ao × List Dat × List Dat × List Dat × List Dat × List Dat × List Dat × List Dat × List Dat
def GC (m:Nat) (k:PO->Option (List Un)):PO->Option (List Un):=fun(a0,a1,a2,a3,a4,a5)=>
 bif decide (a4<8)then
 chk (decide (a5.length<=1000000)&&a5.all (fun r=>decide ((r.d 11).length<=1000000)))<|
 chk (decide (0<=a1)&&(true&&decide (0<=a1.toNat/\a1.toNat<=a5.length)))<|
 chk (decide ((List.take a1.toNat a5).length<=1000000)&&(List.take a1.toNat a5).all (fun r=>decide ((r.d 11).length<=1000000)))<|
 chk (true&&(decide (0<=a1)&&decide (a1.toNat<=a5.length/\a5.length<=a5.length)))<|
 chk (decide ((List.take (a5.length-a1.toNat) (List.drop a1.toNat a5)).length<=1000000)&&(List.take (a5.length-a1.toNat) (List.drop a1.toNat a5)).all (fun r=>decide ((r.d 11).length<=1000000)))<|
 bif (w64 (((toV a4 (List.take a1.toNat a5)).1)+((toV a4 (List.take (a5.length-a1.toNat) (List.drop a1.toNat a5))).1))) !=((toV a4 a5).1)then
 some ([.b false])
 else
 bif (w64 (((toV a4 (List.take a1.toNat a5)).2)+((toV a4 (List.take (a5.length-a1.toNat) (List.drop a1.toNat a5))).2))) !=((toV a4 a5).2)then
 some ([.b false])
 else
 k (a0,a1,a2,(w64 ((w64 (a3+((toV a4 a5).1)))+((toV a4 a5).2))),(w64 (a4+1)),a5)
 else
 bif (w64 (a3+a2))==a0 then
 some ([.b true])
 else
 some ([.b false])
def Ir (m:Nat):Nat->PO->Option (List Un):=bg (GC m)
theorem zG (m:Nat) (n:Nat):Ir m (n+1)=GC m (Ir m n):=rfl
def S8 (F:PO->Option (List Un)):aQ:=⟨[.lp [0,1,0,1,1,1,1,1,1,1,1,1],.blk 8,.code [1,1,1,1,1,1,1,1,1,1]],⟨frm 184 [(9,.buf 0 19),(10,.int .i64),(18,.int .i64),(19,.int .i64),(20,.int .i64),(25,.int .i64)],[.ab [.bool,.int .i64,.int .i64,.int .i64,.int .i64,.int .i64,.int .i64,.int .i64,.int .i64,.int .i64,.int .i64,.ab (sI 4),.int .i64,.int .i64,.int .i64,.int .i64,.int .i64,.ab (sI 3),.int .i64]],0⟩,onU F⟩
def GL (m:Nat) (k2:AP->Option (List Un)) (k:Nb->Option (List Un)):Nb->Option (List Un):=fun(a0,a1,a2,a3,a4,a5,a6,a7,a8,a9)=>
 bif decide (a8<a7)then
 chk (inb a8 a6.length)<|
 chk (decide (a8.toNat<a6.length))<|
 lt (af a6 a8.toNat:Dat) fun d17=>
 bif decide ((d17.i 2)<0)then
 k (a0,a1,(w64 (a2+(d17.i 3))),a3,a4,a5,a6,a7,(w64 (a8+1)),a9)
 else
 k (a0,a1,a2,a3,a4,a5,a6,a7,(w64 (a8+1)),a9)
 else
 k2 (a0,a1,a2,a3,a4,(w64 (a5+1)),a9)
def I8 (m:Nat) (k2:AP->Option (List Un)):Nat->Nb->Option (List Un):=bg (GL m k2)
theorem Ad (m:Nat) (k2:AP->Option (List Un)) (n:Nat):I8 m k2 (n+1)=GL m k2 (I8 m k2 n):=rfl
def Th (F:Nb->Option (List Un)):aQ:=⟨[.lp [0,1,1,0,0,1,1,0,0,1,0,1,1,1,1,1,1,1,1],.blk 6,.blk 5,.code [1,1,1,0,0,1,0,1,1,1,1,1,1,1,1],.lp [0,1,0,1,1,1,1,1,1,1,1],.blk 4,.code [1,1,1,1,1,1,1,1,1]],⟨frm 184 [(9,.buf 0 19),(10,.int .i64),(18,.int .i64),(19,.int .i64),(20,.int .i64),(111,.buf 0 19),(112,.int .i64),(113,.int .i64),(118,.ab (sI 4)),(119,.int .i64),(120,.int .i64)],[.ab [.bool,.int .i64,.int .i64,.int .i64,.int .i64,.int .i64,.int .i64,.int .i64,.int .i64,.int .i64,.int .i64,.ab (sI 4),.int .i64,.int .i64,.int .i64,.int .i64,.int .i64,.ab (sI 3),.int .i64]],0⟩,onU F⟩
def HT (m:Nat) (k:AP->Option (List Un)):AP->Option (List Un):=fun(a0,a1,a2,a3,a4,a5,a6)=>
 bif decide (a5<a4)then
 chk (inb a5 a6.length)<|
 chk (decide (a5.toNat<a6.length))<|
 lt (af a6 a5.toNat:Dat) fun d16=>
 I8 m k m (a0,a1,a2,a3,a4,a5,(d16.d 11),((d16.d 11).length:Int),0,a6)
 else
 Ir m m (a0,a1,a2,a3,0,a6)
def DY (m:Nat):Nat->AP->Option (List Un):=bg (HT m)
theorem zj (m:Nat) (n:Nat):DY m (n+1)=HT m (DY m n):=rfl
def O5 (F:AP->Option (List Un)):aQ:=⟨[.lp [0,1,0,1,1,1,1,1,1,1,1],.blk 4,.code [1,1,1,1,1,1,1,1,1]],⟨frm 184 [(9,.buf 0 19),(10,.int .i64),(18,.int .i64),(19,.int .i64),(20,.int .i64),(111,.buf 0 19),(112,.int .i64),(113,.int .i64)],[.ab [.bool,.int .i64,.int .i64,.int .i64,.int .i64,.int .i64,.int .i64,.int .i64,.int .i64,.int .i64,.int .i64,.ab (sI 4),.int .i64,.int .i64,.int .i64,.int .i64,.int .i64,.ab (sI 3),.int .i64]],0⟩,onU F⟩
def yK (m:Nat) (k0:Bm->Option (List Un)) (k:N2->Option (List Un)):N2->Option (List Un):=fun(a0,a1,a2,a3,a4,a5,a6,a7,a8,a9,a10,a11,a12,a13,a14,a15,a16,a17,a18,a19,a20)=>
 bif decide (a6<a5)then
 chk (inb a6 a13.length)<|
 chk (decide (a6.toNat<a13.length))<|
 lt (af a13 a6.toNat:Dat) fun d8=>
 chk (fits (a11.length+1) 16)<|
 chk (fits (a12.length+1) 8)<|
 k (a0,a1,a2,a3,a4,a5,(w64 (a6+1)),a7,a8,a9,a10,(a11++([.r [.n (d8.i 0),.n (d8.i 1)]])),(a12++([(d8.i 2)])),a13,a14,a15,a16,a17,a18,a19,a20)
 else
 chk (inb a4 a0.length)<|
 chk (decide (a4.toNat<a0.length))<|
 lt (af a0 a4.toNat:Dat) fun d10=>
 chk (decide (a11.length<1000000)&&(a11.all (fun d=>decide (d.i 1<=1152921504606846976))&&a12.all fun y=>decide (y<=2305843009213693952)))<|
 chk (decide (0<=a2)&&mN (⟨a7,a8,a9,a14,a15,a16,a17,a18,a20,a19⟩:ae))<|
 bd ((aJ (⟨a7,a8,a9,a14,a15,a16,a17,a18,a20,a19⟩:ae) (ofL (d10.l 0) (d10.l 1) (d10.l 2) (d10.l 3) (d10.l 4) (d10.l 5) a12 0 a11)):pN) fun r12=>
 bif r12.e !=0 then
 some ([.b false])
 else
 chk (fits (a10.length+1) 184)<|
 chk (decide (r12.aK.length<=1000000)&&(r12.aK.all zd&&decide (an 3 r12.aK<=1152921504606846976)))<|
 k0 (a0,a1,a2,(w64 ((w64 (a3+(w64 ((an 3 r12.aK)+r12.rb.bq))))-r12.rb.bq)),(w64 (a4+1)),r12.t.a,r12.t.b,r12.t.n,(a10++([.r [.n (bI r12.ra.call),.n r12.ra.period,.n r12.ra.mode,.n r12.ra.ak,.n r12.ra.bP,.n r12.ra.aF,.n r12.ra.aR,.n r12.ra.draw,.n r12.ra.advance,.n r12.ra.fee,.n r12.ra.due,.r r12.aK,.n r12.rb.bq,.n r12.rb.aL,.n r12.rb.aX,.n r12.rb.out,.n r12.rb.jl,.r r12.notes,.n r12.next]])),r12.t.aP,r12.t.notes,r12.t.s0,r12.t.s1,r12.t.s2,r12.t.tr,r12.t.aL)
def Is (m:Nat) (k0:Bm->Option (List Un)):Nat->N2->Option (List Un):=bg (yK m k0)
theorem zN (m:Nat) (k0:Bm->Option (List Un)) (n:Nat):Is m k0 (n+1)=yK m k0 (Is m k0 n):=rfl
def Rr (F:N2->Option (List Un)):aQ:=⟨[.lp [0,1,0,1,1,0,0,1,0,0,1,0,1,1,1,1,1],.blk 2,.code [1,1,1,0,0,1,0,0,1,0,1,1,1,1,1],.blk 1,.code [1,1,0,0,1,0,1,1,1,1,1],.lp [0,1,0,1,1,1,1,1],.blk 0,.code [1,1,1,1,1,1]],⟨frm 184 [(1,.ab [.ints .i64,.ints .i64,.ints .i64,.ints .i64,.ints .i64,.ints .i64]),(2,.int .i64),(7,.np 0 0 0),(9,.buf 1 19),(10,.int .i64),(11,.int .i64),(12,.buf 2 2),(13,.buf 3 1),(65,.buf 4 5),(66,.int .i64),(67,.int .i64)],[.cells [.int .i64,.int .i64,.int .i64,.buf 5 2,.buf 6 3,.int .i64,.int .i64,.int .i64,.int .i64,.int .i64,.int .i64,.int .i64,.int .i64,.int .i64,.int .i64,.buf 7 2,.buf 8 2,.buf 9 2,.ptr 10 0 0,.buf 11 7,.int .i64,.int .i64,.int .i64,.int .i64,.int .i64,.int .i64,.int .i64,.int .i64,.int .i64,.bool],.ab [.bool,.int .i64,.int .i64,.int .i64,.int .i64,.int .i64,.int .i64,.int .i64,.int .i64,.int .i64,.int .i64,.ab (sI 4),.int .i64,.int .i64,.int .i64,.int .i64,.int .i64,.ab (sI 3),.int .i64],.ab (sI 2),.ints .i64,.ab (sB 4),.ab (sI 2),.ab (sI 3),.ab (sI 2),.ab (sI 2),.ab (sI 2),.cells [.buf 12 5],.ab (sI 7),.ab (sB 4)],0⟩,onU F⟩
def HF (m:Nat) (k:Bm->Option (List Un)):Bm->Option (List Un):=fun(a0,a1,a2,a3,a4,a5,a6,a7,a8,a9,a10,a11,a12,a13,a14,a15)=>
 bif (decide (a4<(a0.length:Int)))then
 bif decide (a4<8)then
 chk (decide (0<=a2))<|
 chk (decide (0<([.r [.r a15]]:List Dat).length)&&decide (((af ([.r [.r a15]]:List Dat) 0).d 0).length<1000000))<|
 lt (((af ([.r [.r a15]]:List Dat) 0).d 0):List Dat) fun l5=>
 Is m k m (a0,a1,a2,a3,a4,(l5.length:Int),0,a5,a6,a7,a8,[],[],l5,a9,a10,a11,a12,a13,a14,a15)
 else
 bif decide (-2305843009213693952<=0/\0<=(a8.length:Int)/\(a8.length:Int)<=2305843009213693952)then
 DY m m (a3,(within a1 0 (a8.length:Int)),0,0,(a8.length:Int),0,a8)
 else
 none
 else
 bif decide (-2305843009213693952<=0/\0<=(a8.length:Int)/\(a8.length:Int)<=2305843009213693952)then
 DY m m (a3,(within a1 0 (a8.length:Int)),0,0,(a8.length:Int),0,a8)
 else
 none
def DD (m:Nat):Nat->Bm->Option (List Un):=bg (HF m)
theorem Ao (m:Nat) (n:Nat):DD m (n+1)=HF m (DD m n):=rfl
def KP (F:Bm->Option (List Un)):aQ:=⟨[.lp [0,1,0,1,1,1,1,1],.blk 0,.code [1,1,1,1,1,1]],⟨frm 184 [(1,.ab [.ints .i64,.ints .i64,.ints .i64,.ints .i64,.ints .i64,.ints .i64]),(2,.int .i64),(7,.np 0 0 0),(9,.buf 1 19),(10,.int .i64),(11,.int .i64)],[.cells [.int .i64,.int .i64,.int .i64,.buf 2 2,.buf 3 3,.int .i64,.int .i64,.int .i64,.int .i64,.int .i64,.int .i64,.int .i64,.int .i64,.int .i64,.int .i64,.buf 4 2,.buf 5 2,.buf 6 2,.ptr 7 0 0,.buf 8 7,.int .i64,.int .i64,.int .i64,.int .i64,.int .i64,.int .i64,.int .i64,.int .i64,.int .i64,.bool],.ab [.bool,.int .i64,.int .i64,.int .i64,.int .i64,.int .i64,.int .i64,.int .i64,.int .i64,.int .i64,.int .i64,.ab (sI 4),.int .i64,.int .i64,.int .i64,.int .i64,.int .i64,.ab (sI 3),.int .i64],.ab (sI 2),.ab (sI 3),.ab (sI 2),.ab (sI 2),.ab (sI 2),.cells [.buf 9 5],.ab (sI 7),.ab (sB 4)],0⟩,onU F⟩
theorem V6 (m:Nat):∀n,HO N8 (S8 (Ir m n)):=ar ah jO.right (fun k=>[S8 k]) (fun k h=>(aH h aA)) fun k a=>by kernel_rfl
theorem Wb (m:Nat) (k2:AP->Option (List Un)) (h2:HO N8 (O5 k2)):∀n,HO N8 (Th (I8 m k2 n)):=ar ah jO.right (fun k=>[O5 k2,Th k]) (fun k h=>(aH h2 (aH h aA))) fun k a=>by kernel_rfl
theorem VI (m:Nat):∀n,HO N8 (O5 (DY m n)):=ar ah jO.right (fun k=>[Th (I8 m (k) m),S8 (Ir m m)]) (fun k h=>(aH (Wb m _ h m) (aH (V6 m m) aA))) fun k a=>by kernel_rfl
theorem VH (m:Nat) (k0:Bm->Option (List Un)) (h0:HO N8 (KP k0)):∀n,HO N8 (Rr (Is m k0 n)):=ar ah jO.right (fun k=>[KP k0,Rr k]) (fun k h=>(aH h0 (aH h aA))) fun k a=>by kernel_rfl
theorem VV (m:Nat):∀n,HO N8 (KP (DD m n)):=ar ah jO.right (fun k=>[Rr (Is m (k) m),O5 (DY m m)]) (fun k h=>(aH (VH m _ h m) (aH (VI m m) aA))) fun k a=>by kernel_rfl
def t8 (m:Nat):cI × List Dat × Int->Option (List Un):=fun(a0,a1,a2)=>
 chk (decide (a0.notes.length<=140737488355328))<|
 chk (decide ((aS a0).aP.length<1000000/\(aS a0).notes.length<1000000/\(aS a0).s0.length<1000000/\(aS a0).s1.length<1000000/\(aS a0).s2.length<1000000))<|
 lt (((if (cr (aS a0)).isSome then 0 else-1):Int):Int) fun x1=>
 bif ((decide (x1<0))&&true)then
 some ([.b false])
 else
 bif ((if (cr (aS a0)).isSome then 0 else 2):Int) !=0 then
 some ([.b false])
 else
 chk (decide (0<=x1))<|
 DD m m (a1,a2,x1,0,0,((dI (aS a0)).a),((dI (aS a0)).b),((dI (aS a0)).n),[],((dI (aS a0)).aP),((dI (aS a0)).notes),((dI (aS a0)).s0),((dI (aS a0)).s1),((dI (aS a0)).s2),((dI (aS a0)).tr),((dI (aS a0)).aL))
def iI (_:Dat):Bool:=true
def toNeg (x:Dat):Bool:=decide (x.i 2<0)
def ig (j:Nat) (x:Dat):Bool:=decide (0<=x.i 2/\x.i 2<(j:Int))
theorem Of {K:Nat} {x:Dat} (j:Nat) (h:AF K x):amt (ig j) x+amt (toI j) x+amt (toB j) x=amt (ig (j+1)) x:=by
 obtain⟨_,q2,q3,q4,q5⟩:=h
 by_cases hj:x.i 2=(j:Int)
 . have b1:(x.i 2==(j:Int))=true:=sZ hj;have f0:ig j x=false:=zaH (by omega);have f1:ig (j+1) x=true:=zae (by omega)
   by_cases h3:x.i 1=3
   . simp only[amt,toI,toB,kB,kI,sZ h3,b1,f0,f1,zbB,zb7,zbs,zbO,zau,zao];omega
   . have hB:kB x=true:=by simp only[kB,kF,kR,kT,kI,zab,zb9,zbD];omega
     simp only[amt,toI,toB,hB,kI,lZ h3,b1,f0,f1,zbs,zbO,zau,zao];omega
 . have b1:(x.i 2==(j:Int))=false:=lZ hj;have e:ig j x=ig (j+1) x:=by
    unfold ig
    by_cases h:0<=x.i 2/\x.i 2<(j:Int)
    . rw[zae h,zae (by omega)]
    . rw[zaH h,zaH (by omega)]
   simp only[amt,toI,toB,b1,e,zb7,zao];omega
theorem M1 {K:Nat} {x:Dat} (hK:K<=8) (h:AF K x):amt (ig 8) x+amt toNeg x+amt (ig 0) x=amt iI x:=by
 obtain⟨_,q2,q3,q4,q5⟩:=h;have f0:ig 0 x=false:=zaH (by omega)
 by_cases hj:x.i 2<0
 . have f1:ig 8 x=false:=zaH (by omega);have f2:toNeg x=true:=zae hj;simp only[amt,f0,f1,f2,iI,zau,zao];omega
 . have f1:ig 8 x=true:=zae (by omega);have f2:toNeg x=false:=zaH hj;simp only[amt,f0,f1,f2,iI,zau,zao];omega
theorem vQ {f g h e:Dat->Bool}:∀{l:List Dat},(∀x∈l,amt f x+amt g x+amt h x=amt e x)->bj f l+bj g l+bj h l=bj e l
 |[],_=>rfl
 |x::l,k=>by
  have i:=vQ (f:=f) (g:=g) (h:=h) (e:=e) fun y hy=>k y (zaG x hy)
  have:=k x (by simp);simp only[dx];omega
theorem qb {f g h e:Dat->Bool}:∀{l:List Dat},(∀r∈l,∀x∈r.d 11,amt f x+amt g x+amt h x=amt e x)->dr f l+dr g l+dr h l=dr e l
 |[],_=>rfl
 |r::l,k=>by
  have i:=qb (f:=f) (g:=g) (h:=h) (e:=e) fun y hy=>k y (zaG r hy)
  have:=vQ (k r (by simp));simp only[dr];omega
theorem DS {f:Dat->Bool}:∀{l:List Dat},(∀x∈l,f x=false)->bj f l=0
 |[],_=>rfl
 |x::l,k=>by
  rw[dx,DS fun y hy=>k y (zaG x hy)];simp only[amt,k x (by simp),zao];rfl
theorem sQ {f:Dat->Bool}:∀{l:List Dat},(∀r∈l,∀x∈r.d 11,f x=false)->dr f l=0
 |[],_=>rfl
 |r::l,k=>by
  rw[dr,DS (k r (by simp)),sQ fun y hy=>k y (zaG r hy)];rfl
theorem Gy:∀l:List Dat,bj iI l=an 3 l
 |[]=>rfl
 |x::l=>by rw[dx,Gy l];rfl
theorem SO (m:Nat) (K:Nat) (hK:K<=8) (al:List Dat) (hq:∀r∈al,pH K r) (hl:al.length<=8) (c ot:Int) (hc:0<=c/\c<=(al.length:Int)) (ho:ot=dr toNeg al):∀(k j n:Nat) (s:Int),j+k=8->k<n->s=dr (ig j) al->
 Ir m n (dr iI al,c,ot,s,(j:Int),al)=some [.b true]:=by
 have eE:=qb (f:=ig 8) (g:=toNeg) (h:=ig 0) (e:=iI) (l:=al) fun r hr x hx=>M1 hK ((hq r hr).2 x hx)
 have e0:dr (ig 0) al=0:=sQ fun r hr x hx=>zaH (by omega)
 have bA:=gq iI K al hq;have bF:=fun j=>gq (ig j) K al hq
 have qt:∀r∈al.take c.toNat,pH K r:=fun r hr=>hq r (List.mem_of_mem_take hr)
 have qd:∀r∈al.drop c.toNat,pH K r:=fun r hr=>hq r (List.mem_of_mem_drop hr)
 have lt':(al.take c.toNat).length<=40:=by rw[zap];omega
 have ld:(al.drop c.toNat).length<=40:=by rw[zbj];omega
 have ed:List.take (al.length-c.toNat) (List.drop c.toNat al)=al.drop c.toNat:=zbm (by rw[zbj];omega);have es:=fun f=>og f (al.take c.toNat) (al.drop c.toNat)
 simp only[zb6]at es;intro k
 induction k with
 |zero=>
  intro j n s hj hn hs;obtain⟨n,rfl⟩:=ai n (by omega);obtain rfl:j=8:=by omega
  have:=bF 8;have:=gq toNeg K al hq;rw[zG];unfold GC;dsimp only;rw[az (by omega),aa (n:=s+ot) (by omega) (by omega),dS (by omega)]
 |succ k ih=>
  intro j n s hj hn hs;obtain⟨n,rfl⟩:=ai n (by omega);have e1:=qb (f:=ig j) (g:=toI j) (h:=toB j) (e:=ig (j+1)) (l:=al) fun r hr x hx=>Of j ((hq r hr).2 x hx)
  have b1:=bF j;have b2:=bF (j+1);have bi:=gq (toI j) K al hq;have bb:=gq (toB j) K al hq;have ei:=es (toI j);have eb:=es (toB j);have bt:=gq (toI j) K _ qt;have bd':=gq (toI j) K _ qd;have bt2:=gq (toB j) K _ qt;have bd2:=gq (toB j) K _ qd;have:=ih (j+1) n (s+dr (toI j) al+dr (toB j) al) (by omega) (by omega) (by omega);rw[zG];unfold GC;dsimp only;rw[ed,ba (by omega)];refine aV (qx hq (by omega)) (aV ?_ (aV (qx qt lt') (aV ?_ (aV (qx qd ld) ?_))))
  . rw[zae hc.1,zae (show 0<=c.toNat/\c.toNat<=al.length by omega)];rfl
  . rw[zae hc.1,zae (show c.toNat<=al.length/\al.length<=al.length by omega)];rfl
  rw[B8 j K hq (by omega),B8 j K qt lt',B8 j K qd ld];simp only;rw[aa (n:=dr (toI j) (al.take c.toNat)+dr (toI j) (al.drop c.toNat)) (by omega) (by omega),aa (n:=dr (toB j) (al.take c.toNat)+dr (toB j) (al.drop c.toNat)) (by omega) (by omega),fq (by omega),fq (by omega),aa (n:=s+dr (toI j) al) (by omega) (by omega),aa (n:=s+dr (toI j) al+dr (toB j) al) (by omega) (by omega),aa (n:=(j:Int)+1) (by omega) (by omega)];exact this
section
variable (m : Nat) (k2 : AP -> Option (List Un)) (p c no len i : Int) (al : List Dat)
theorem SM (K:Nat):∀(rest pre:List Dat) (n:Nat) (s:Int),rest.length<n->(pre++rest).length<=1000->(∀x∈rest,AF K x)->(0<=s/\s+bj toNeg rest<=1152921504606846976)->
 I8 m k2 n (p,c,s,no,len,i,pre++rest,((pre++rest).length:Int),(pre.length:Int),al)=k2 (p,c,s+bj toNeg rest,no,len,w64 (i+1),al):=by
 intro rest
 induction rest with
 |nil=>
  intro pre n s hn hl hq hs;obtain⟨n,rfl⟩:=ai n (by simp at hn;omega);rw[Ad];unfold GL;dsimp only;rw[az (by simp)];simp[bj]
 |cons x rest ih=>
  intro pre n s hn hl hq hs;obtain⟨n,rfl⟩:=ai n (by simp at hn;omega);have hr:=fun y hy=>hq y (zaG _ hy)
  have h3:=(hq x (by simp)).2.2.1;have hw:=oF toNeg K rest hr;rw[dx]at hs⊢;have hx:0<=amt toNeg x:=by unfold amt;cases toNeg x<;>simp only[zau,zao]<;>omega
  have:=ih (pre++[x]) n (s+amt toNeg x) (by simp at hn;omega) (by simpa using hl) hr (by omega);simp only[zac,zad]at hn hl;simp only[zat,zaN,zaC,zad,zac,zas]at this;rw[Ad];unfold GL;dsimp only;have hl2:(pre++x::rest).length=pre.length+(rest.length+1):=by simp
  rw[hl2,ba (by omega),cq (by omega) (by omega),aI (by omega),aa (n:=(pre.length:Int)+1) (by omega) (by omega)];simp only[lt_eq,zaz,au]
  by_cases hn2:x.i 2<0
  . have ha:amt toNeg x=x.i 3:=by simp only[amt,show toNeg x=true from zae hn2,zau]
    rw[ha]at this hs hx⊢;rw[ba hn2,aa (n:=s+x.i 3) (by omega) (by omega),show s+(x.i 3+bj toNeg rest)=s+x.i 3+bj toNeg rest by omega];exact this
  . have ha:amt toNeg x=0:=by simp only[amt,show toNeg x=false from zaH hn2,zao]
    rw[ha]at this⊢;rw[az hn2,za0];rw[zbU]at this;exact this
end
theorem Rw (m:Nat) (hm:2000<=m) (K:Nat) (hK:K<=8) (al:List Dat) (hq:∀r∈al,pH K r) (hl:al.length<=8) (c:Int) (hc:0<=c/\c<=(al.length:Int)):∀(rest pre:List Dat) (n:Nat) (s:Int),rest.length<n->pre++rest=al->s=dr toNeg pre->
 DY m n (dr iI al,c,s,0,(al.length:Int),(pre.length:Int),al)=some [.b true]:=by
 intro rest
 induction rest with
 |nil=>
  intro pre n s hn ha hs;obtain⟨n,rfl⟩:=ai n (by simp at hn;omega);rw[zaS]at ha;subst ha;rw[zj];unfold HT;dsimp only;rw[az (by omega)];exact SO m K hK pre hq hl c s hc hs 8 0 m 0 (by omega) (by omega) (sQ fun r hr x hx=>zaH (by omega)).symm
 |cons r rest ih=>
  intro pre n s hn ha hs;obtain⟨n,rfl⟩:=ai n (by simp at hn;omega);have hal:al.length=pre.length+(rest.length+1):=by rw[<-ha];simp
  have hr:af al pre.length=r:=by rw[<-ha];simp[au]
  have q:=hq r (by rw[<-ha];simp);have q1:=q.1;have hp:∀r∈pre,pH K r:=fun x hx=>hq x (by rw[<-ha];simp[hx])
  have b0:=gq toNeg K pre hp;have b1:=oF toNeg K (r.d 11) q.2;have:=ih (pre++[r]) n (s+bj toNeg (r.d 11)) (by simp at hn;omega) (by rw[<-ha];simp) (by rw[og,hs];simp[dr]);simp only[zac]at hn;rw[zj];unfold HT;dsimp only;rw[ba (by omega),cq (by omega) (by omega),aI (by omega)];simp only[lt_eq,zaz,hr];refine(SM m (DY m n) (dr iI al) c 0 (al.length:Int) (pre.length:Int) al K (r.d 11) [] m s (by omega) (by rw[zaC];omega) q.2 (by omega)).trans ?_
  rw[aa (n:=(pre.length:Int)+1) (by omega) (by omega)];simp only[zad,zac,zas,zaD,zaa,zaI]at this;exact this
section
variable (m : Nat) (k0 : Bm -> Option (List Un)) (ts : List Dat) (ct x p i : Int) (ya : aw) (yb : ax) (yn : ao) (al z1 z2 z3 z4 z5 z6 z7 : List Dat)
theorem SU:∀(rest pre:List Dat) (n:Nat),rest.length<n->(pre++rest).length<1000->
 Is m k0 n (ts,ct,x,p,i,((pre++rest).length:Int),(pre.length:Int),ya,yb,yn,al,pre.map ky,pre.map (fun d=>d.i 2),pre++rest,z1,z2,z3,z4,z5,z6,z7)=yK m k0 (fun _=>none) (ts,ct,x,p,i,((pre++rest).length:Int),((pre++rest).length:Int),ya,yb,yn,al,(pre++rest).map ky,(pre++rest).map (fun d=>d.i 2),pre++rest,z1,z2,z3,z4,z5,z6,z7):=by
 intro rest
 induction rest with
 |nil=>
  intro pre n hn hl;obtain⟨n,rfl⟩:=ai n (by simp at hn;omega);rw[zN];simp only[zaS];unfold yK;dsimp only;rw[az (by omega),az (by omega)]
 |cons y rest ih=>
  intro pre n hn hl;obtain⟨n,rfl⟩:=ai n (by simp at hn;omega);have:=ih (pre++[y]) n (by simp at hn;omega) (by simpa using hl);simp only[zac,zad]at hn hl;rw[zbP,zbP,show[y].map ky=[.r [.n (y.i 0),.n (y.i 1)]] from rfl,show[y].map (fun d=>d.i 2)=[y.i 2] from rfl]at this;rw[zN]
  conv=>lhs;unfold yK;dsimp only
  simp(disch:=omega) only[TRa,TRi,aa,LNl,LNi,zaa,au];simp only[LNl,LNi,zaa]at this⊢;exact this
end
theorem RK (m:Nat) (hm:130000<=m) (ts:List Dat) (ct:Int):∀(c n:Nat) (i:Nat) (T:ae) (al:List Dat),i+c=min ts.length 8->c<n->fU T->T.n.j9=false->T.n.period=(i:Int)->al.length=i->(∀r∈al,pH T.tr.length r)->
 DD m n (ts,ct,0,dr iI al,(i:Int),T.a,T.b,T.n,al,T.aP,T.notes,T.s0,T.s1,T.s2,T.tr,T.aL)=some [.b true]:=by
 intro c
 induction c with
 |zero=>
  intro n i T al hi hn h ho hp ha hq;obtain⟨n,rfl⟩:=ai n (by omega);have tl:=ev h;have w:=aZ (a:=ct) (lo:=0) (hi:=(al.length:Int)) (by omega);have:=Rw m (by omega) T.tr.length tl.1 al hq (by omega) (within ct 0 (al.length:Int)) w al [] m 0 (by omega) rfl rfl;rw[Ao];unfold HF;dsimp only
  by_cases h1:i<ts.length
  . rw[ba (by omega),az (by omega)];exact tP (zae ⟨by decide,by omega,by omega⟩) this
  . rw[az (by omega)];exact tP (zae ⟨by decide,by omega,by omega⟩) this
 |succ c ih=>
  intro n i T al hi hn h ho hp ha hq;obtain⟨n,rfl⟩:=ai n (by omega);have tp:=kE h;have tl:=o7 h;have bA:=gq iI T.tr.length al hq;rw[Ao];unfold HF;dsimp only;rw[ba (by omega),ba (by omega)];refine aV rfl (aV (zar.2 ⟨rfl,zae (show T.aL.length<1000000 by omega)⟩) ?_);dsimp only[lt];have e1:=SU m (DD m n) ts ct 0 (dr iI al) i T.a T.b T.n al T.aP T.notes T.s0 T.s1 T.s2 T.tr T.aL T.aL [] m (by omega) (by rw[zaC];omega);rw[zaC]at e1;refine e1.trans ?_
  unfold yK;dsimp only;rw[az (by omega),cq (by omega) (by omega),aI (by omega)];refine kV fun d _=> ?_
  have h1:(T.aL.map ky).all (fun d=>decide (d.i 1<=1152921504606846976))=true:=zal.2 fun d hd=>by
   obtain⟨x,hx,rfl⟩:=za6.1 hd;exact zae (by have:=h.yo x hx;unfold ga at this;show x.i 1<=_;omega)
  have h2:(T.aL.map (fun d=>d.i 2)).all (fun y=>decide (y<=2305843009213693952))=true:=zal.2 fun d hd=>by
   obtain⟨x,hx,rfl⟩:=za6.1 hd;exact zae (by have:=h.yo x hx;unfold ga at this;omega)
  rw[h1,h2,zbO,za9,aI (by rw[zaR];omega)];have eT:(⟨T.a,T.b,T.n,T.aP,T.notes,T.s0,T.s1,T.s2,T.aL,T.tr⟩:ae)=T:=rfl;rw[eT];refine aV (zar.2 ⟨rfl,mH.2 h⟩) ?_
  obtain⟨l,hl⟩:∃l,ofL (d.l 0) (d.l 1) (d.l 2) (d.l 3) (d.l 4) (d.l 5) (T.aL.map fun d=>d.i 2) 0 (T.aL.map ky)=l:=⟨_,rfl⟩
  have he:(cP T l).e=0:=by rw[<-hl];exact Ej h _ _ _ _ _ _
  rw[hl];clear hl e1;obtain⟨hC,hN,hO,hPd,_⟩:=xX h ho (by omega) he;obtain⟨q,ql⟩:=pK h he;obtain⟨r1,r2⟩:=oM h he;obtain⟨s1,s2,_⟩:=kG h he;have rg:=o9 (lY h he).2.2.1;have s0:0<=an 3 (cn T l).2.2:=eP 3 _ fun d hd=>by have:=(s1 d hd).1;omega
  dsimp only[bd];rw[hC,fq (show(aC T l).e=0 from rfl),dP (by omega) (by omega)];refine aV ?_ ?_
  . rw[zab,zab,zal];exact⟨zae (show(cn T l).2.2.length<=1000000 by omega),fun d hd=>zae (by have:=(s1 d hd).1;omega),zae (show an 3 (cn T l).2.2<=1152921504606846976 by omega)⟩
  obtain⟨R,hRd⟩:∃R:Dat,R= .r [.n (bI (aC T l).ra.call),.n (aC T l).ra.period,.n (aC T l).ra.mode,.n (aC T l).ra.ak,.n (aC T l).ra.bP,.n (aC T l).ra.aF,.n (aC T l).ra.aR,.n (aC T l).ra.draw,.n (aC T l).ra.advance,.n (aC T l).ra.fee,.n (aC T l).ra.due,.r (aC T l).aK,.n (aC T l).rb.bq,.n (aC T l).rb.aL,.n (aC T l).rb.aX,.n (aC T l).rb.out,.n (aC T l).rb.jl,.r (aC T l).notes,.n (aC T l).next]:=⟨_,rfl⟩
  rw[<-hRd];have hR11:R.d 11=(cn T l).2.2:=by rw[hRd];rfl
  have hq2:∀r∈al++[R],pH T.tr.length r:=fun r hr=>by
   rcases zbp.1 hr with hr|hr
   . exact hq r hr
   . rw[zbW.1 hr];unfold pH;rw[hR11];exact⟨ql,q⟩
  have hs2:dr iI (al++[R])=dr iI al+an 3 (cn T l).2.2:=by
   rw[og];simp only[dr,hR11,Gy];omega
  have e3:(aC T l).aK=(cn T l).2.2:=rfl;have e4:(aC T l).rb.bq=(cn T l).1.ay:=rfl;rw[e3,e4,aa (n:=an 3 (cn T l).2.2+(cn T l).1.ay) (by omega) (by omega),aa (n:=dr iI al+(an 3 (cn T l).2.2+(cn T l).1.ay)) (by omega) (by omega),aa (n:=dr iI al+(an 3 (cn T l).2.2+(cn T l).1.ay)-(cn T l).1.ay) (by omega) (by omega),aa (n:=(i:Int)+1) (by omega) (by omega),show dr iI al+(an 3 (cn T l).2.2+(cn T l).1.ay)-(cn T l).1.ay=dr iI (al++[R]) by omega];exact ih n (i+1) (aC T l).t (al++[R]) (by omega) (by omega) hN hO (by omega) (by simp;omega) (fun r hr=>by rw[show(aC T l).t.tr.length=T.tr.length from r1];exact hq2 r hr)
set_option maxHeartbeats 8000000 in
theorem UZ (b0:Int) (wb0:(Lit.int .i64 b0).wf=true) (b1:Int) (wb1:(Lit.int .i64 b1).wf=true) (b2:Int) (wb2:(Lit.int .i64 b2).wf=true) (b3:Int) (wb3:(Lit.int .i64 b3).wf=true) (b4:Int) (wb4:(Lit.int .i64 b4).wf=true) (b5:Int) (wb5:(Lit.int .i64 b5).wf=true) (b6:Int) (wb6:(Lit.int .i64 b6).wf=true) (b7:Int) (wb7:(Lit.int .i64 b7).wf=true) (b8:Int) (wb8:(Lit.int .i64 b8).wf=true) (b9:Int) (wb9:(Lit.int .i64 b9).wf=true) (b10:Int) (wb10:(Lit.int .i64 b10).wf=true) (b11:Int) (wb11:(Lit.int .i64 b11).wf=true) (b12:Int) (wb12:(Lit.int .i64 b12).wf=true) (b13:List Int) (wb13:b13.length<=140737488355328/\∀x∈b13,(Lit.int .i64 x).wf=true) (b14:List Int) (wb14:b14.length<=140737488355328/\∀x∈b14,(Lit.int .i64 x).wf=true) (b15:List Int) (wb15:b15.length<=140737488355328/\∀x∈b15,(Lit.int .i64 x).wf=true) (b16:List Int) (wb16:b16.length<=140737488355328/\∀x∈b16,(Lit.int .i64 x).wf=true) (b17:List Int) (wb17:b17.length<=140737488355328/\∀x∈b17,(Lit.int .i64 x).wf=true) (b18:List Int) (wb18:b18.length<=140737488355328/\∀x∈b18,(Lit.int .i64 x).wf=true) (b19:List Int) (wb19:b19.length<=140737488355328/\∀x∈b19,(Lit.int .i64 x).wf=true) (b20:List Dat) (wb20:b20.length<=140737488355328/\∀x∈b20,WfR [.ints .i64,.ints .i64,.ints .i64,.ints .i64,.ints .i64,.ints .i64] x.sub) (b21:Int) (wb21:(Lit.int .i64 b21).wf=true):∃m,t8 m ((⟨(⟨b0,b1,b2⟩:aw),(⟨b3,b4,b5,b6,b7,b8,b9,b10,b11,b12⟩:ax),b13,b14,b15,b16,b17,b18,b19⟩:cI),b20,b21)=some [.b true]:=by
 have hn:(⟨⟨b0,b1,b2⟩,⟨b3,b4,b5,b6,b7,b8,b9,b10,b11,b12⟩,b13,b14,b15,b16,b17,b18,b19⟩:cI).notes.length<=140737488355328:=wb14.1;generalize (⟨⟨b0,b1,b2⟩,⟨b3,b4,b5,b6,b7,b8,b9,b10,b11,b12⟩,b13,b14,b15,b16,b17,b18,b19⟩:cI)=k at hn;have h:=G2 k;have hT:dI (aS k)=cy (aS k):=Ag k;refine⟨130000, ?_⟩;unfold t8;dsimp only[lt];rw[aI hn,aI (tz k),mr k,if_pos rfl,if_pos rfl];refine jE rfl (jE rfl (aV rfl ?_));rw[hT];exact RK 130000 (by omega) b20 b21 (min b20.length 8) 130000 0 (cy (aS k)) [] (by omega) (by omega) h rfl rfl rfl (fun r hr=>by simp at hr)
set_option maxRecDepth 20000 in
theorem xW {HH:Type} {enc:TypeId × Value->HH} {w:World} {base:Nat} {vs:List Value} {ds:List (DataW HH)} {ps:List MemPlace} (hsh:w.ShapedOpen Tryz.prog)
 (hd:DataW.TrodAll enc Tryz.prog w 0 (fun _=>true) true Tryz.f8.params.toList vs ds ps) {us':List TypeId} {gs:List (DataW HH)} (hz:(DataW.weightsEach Tryz.prog (Tryz.f8.params.toList++us') (ds++gs)).all (·<=reachBytes)=true) (hval:∀(j:Nat) t v,Tryz.f8.params.toList[j]? =some t->vs[j]? =some v->Value.okWide Tryz.prog w .any base t v):
 Calls Tryz.prog 8 vs.toArray w fun e w'=>e= .returned (.bool true)/\RowKit.Below w.heap.size w w':=
 xl Seat.mix Seat.names wN HZ (pars:=tt) (by kernel_rfl) (fun us h=>by
  change WfU [.int .i64,.int .i64,.int .i64,.int .i64,.int .i64,.int .i64,.int .i64,.int .i64,.int .i64,.int .i64,.int .i64,.int .i64,.int .i64,.ints .i64,.ints .i64,.ints .i64,.ints .i64,.ints .i64,.ints .i64,.ints .i64,.ab [.ints .i64,.ints .i64,.ints .i64,.ints .i64,.ints .i64,.ints .i64],.int .i64] us at h;obtain⟨b0,u,rfl,wb0,h⟩:=bD h;obtain⟨b1,u,rfl,wb1,h⟩:=bD h;obtain⟨b2,u,rfl,wb2,h⟩:=bD h;obtain⟨b3,u,rfl,wb3,h⟩:=bD h;obtain⟨b4,u,rfl,wb4,h⟩:=bD h;obtain⟨b5,u,rfl,wb5,h⟩:=bD h;obtain⟨b6,u,rfl,wb6,h⟩:=bD h;obtain⟨b7,u,rfl,wb7,h⟩:=bD h;obtain⟨b8,u,rfl,wb8,h⟩:=bD h;obtain⟨b9,u,rfl,wb9,h⟩:=bD h;obtain⟨b10,u,rfl,wb10,h⟩:=bD h;obtain⟨b11,u,rfl,wb11,h⟩:=bD h;obtain⟨b12,u,rfl,wb12,h⟩:=bD h;obtain⟨b13,u,rfl,wb13,h⟩:=eH h;obtain⟨b14,u,rfl,wb14,h⟩:=eH h;obtain⟨b15,u,rfl,wb15,h⟩:=eH h;obtain⟨b16,u,rfl,wb16,h⟩:=eH h;obtain⟨b17,u,rfl,wb17,h⟩:=eH h;obtain⟨b18,u,rfl,wb18,h⟩:=eH h;obtain⟨b19,u,rfl,wb19,h⟩:=eH h;obtain⟨b20,u,rfl,wb20,h⟩:=qK h;obtain⟨b21,u,rfl,wb21,h⟩:=bD h;obtain rfl:=A2 h;obtain⟨m,hm⟩:=UZ b0 wb0 b1 wb1 b2 wb2 b3 wb3 b4 wb4 b5 wb5 b6 wb6 b7 wb7 b8 wb8 b9 wb9 b10 wb10 b11 wb11 b12 wb12 b13 wb13 b14 wb14 b15 wb15 b16 wb16 b17 wb17 b18 wb18 b19 wb19 b20 wb20 b21 wb21;have G:N8.Cr Tryz.prog LQ KN (Uns.enc ((⟨(⟨b0,b1,b2⟩:aw),(⟨b3,b4,b5,b6,b7,b8,b9,b10,b11,b12⟩:ax),b13,b14,b15,b16,b17,b18,b19⟩:cI),b20,b21)) ([KP (DD m m)])=t8 m ((⟨(⟨b0,b1,b2⟩:aw),(⟨b3,b4,b5,b6,b7,b8,b9,b10,b11,b12⟩:ax),b13,b14,b15,b16,b17,b18,b19⟩:cI),b20,b21):=by kernel_rfl
  exact N8.Gk ah jO.right (W:=[KP (DD m m)]) (by kernel_rfl) (by kernel_rfl) (by kernel_rfl) (aH (VV m m) aA) (G.trans hm)) hsh hd hz hval
end
end Go.Proofs.YtcbnpnaagbhknaaGreat
