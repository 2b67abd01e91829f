/- A part of the walk. -/
import Derived.Test.YtcbnpnaagbhknaaGreatQ6
set_option linter.unusedVariables false
set_option linter.unusedSimpArgs false
namespace Go.Proofs.YtcbnpnaagbhknaaGreat
noncomputable section
open Go Go.Proofs.YtcbnpnaagbhknaaGreat.Ev
set_option maxRecDepth 20000
def tX:List Par:=[(true,[.bool,.int .i64,.int .i64,.int .i64,.int .i64,.int .i64,.int .i64,.int .i64,.int .i64,.int .i64,.int .i64,.ab [.int .i64,.int .i64,.int .i64,.int .i64],.int .i64,.int .i64,.int .i64,.int .i64,.int .i64,.ab [.int .i64,.int .i64,.int .i64],.int .i64]),(false,[.ints .u8]),(false,[.int .i64]),(false,[.int .u8]),(false,[.int .i64])]
def N6:aE:=⟨jO.tab,6,⟨List.map Par.vp tX,[],0⟩,⟨[.bool],[],0⟩,[[9,0,1,1,1,1],[9,0,1,1,1,1,1,1]]⟩
abbrev Vg:Type:=List Int
abbrev Tt:Type:=List Int × Int × Int × Int × List Int
def Df (m:Nat):Vg->Option (List Un):=fun a0=>
 chk (decide (a0.length<=1000000))<|
 lt ((a0++List.replicate 80 7):List Int) fun l14=>
 chk (decide (0<=(a0.length:Int))&&(true&&decide (0<=a0.length/\a0.length<=l14.length)))<|
 chk (decide ((List.take a0.length l14).length<=1000000))<|
 bd ((bu (List.take a0.length l14)):yr) fun r15=>
 chk (decide (l14.length<=2000000)&&decide (a0.length<=1000000))<|
 bif !(oO l14 a0 7)then
 some ([.b false])
 else
 bif r15.ok then
 chk (decide (r15.aK.length<=1000000)&&decide (r15.notes.length<=1000000))<|
 chk (decide ((cH r15.ra r15.aK r15.rb r15.notes r15.next).length<1099511627776))<|
 bif (iC (cH r15.ra r15.aK r15.rb r15.notes r15.next) a0)then
 some ([.b true])
 else
 some ([.b false])
 else
 chk (decide (r15.aK.length<1099511627776)&&decide (r15.notes.length<1099511627776))<|
 bif (wI r15.ra r15.aK r15.rb r15.notes r15.next (⟨false,0,0,0,0,0,0,0,0,0,0⟩:bE) ([]:List Dat) (⟨0,0,0,0,0⟩:bw) ([]:List Dat) 0)then
 some ([.b true])
 else
 some ([.b false])
def T4 (F:Vg->Option (List Un)):aQ:=⟨[.code [0,1,1,1,1,1,1],.code [1,1,1,1,1,1,1]],⟨frm 103 [(11,.ints .u8)],[],0⟩,onU F⟩
def E1 (m:Nat):Tt->Option (List Un):=fun(a0,a1,a2,a3,a4)=>
 lt ((w64 ((a4.length:Int)-1)):Int) fun x8=>
 bif decide (-2305843009213693952<=0/\0<=x8/\x8<=2305843009213693952)then
 bif (within a3 0 3)==0 then
 chk (inb (within a1 0 x8) a4.length)<|
 chk (decide ((within a1 0 x8).toNat<a4.length))<|
 chk (inb (within a1 0 x8) a4.length)<|
 chk (decide ((within a1 0 x8).toNat<a4.length))<|
 Df m ((List.set a4 ((within a1 0 x8).toNat) (wu8 ((BitVec.ofInt 8 (a4.getD ((within a1 0 x8).toNat) 0)^^^BitVec.ofInt 8 a2).toNat))))
 else
 bif (within a3 0 3)==1 then
 chk (decide (0<=(within a1 0 x8))&&(true&&decide (0<=(within a1 0 x8).toNat/\(within a1 0 x8).toNat<=a4.length)))<|
 Df m ((List.take ((within a1 0 x8).toNat) a4))
 else
 bif (within a3 0 3)==2 then
 lt ((if 20<(a0.length:Int)then 20 else(a0.length:Int)):Int) fun x12=>
 chk (decide (0<=x12)&&(true&&decide (0<=x12.toNat/\x12.toNat<=a0.length)))<|
 lt ((List.take x12.toNat a0):List Int) fun l13=>
 chk (fits (a4.length+l13.length) 1)<|
 Df m ((a4++l13))
 else
 Df m a4
 else
 none
def QA (F:Tt->Option (List Un)):aQ:=⟨[.code [0,1,1,1,1],.code [1,1,1,1,1]],⟨frm 103 [(1,.ints .u8),(2,.int .i64),(3,.int .u8),(4,.int .i64),(11,.buf 0 1)],[.ints .u8],0⟩,onU F⟩
theorem Wg (m:Nat):HO N6 (T4 (Df m)):=An ah jO.right [] aA fun a=>by kernel_rfl
theorem Wr (m:Nat):HO N6 (QA (E1 m)):=An ah jO.right [T4 (Df m)] (aH (Wg m) aA) fun a=>by kernel_rfl
def t6 (m:Nat):bE × List Dat × bw × List Dat × Int × List Int × Int × Int × Int->Option (List Un):=fun(a0,a1,a2,a3,a4,a5,a6,a7,a8)=>
 lt ((if 12<(a1.length:Int)then 12 else(a1.length:Int)):Int) fun x1=>
 chk (decide (0<=x1)&&(true&&decide (0<=x1.toNat/\x1.toNat<=a1.length)))<|
 chk (fits (0+(List.take x1.toNat a1).length) 32)<|
 lt ((if 9<(a3.length:Int)then 9 else(a3.length:Int)):Int) fun x2=>
 chk (decide (0<=x2)&&(true&&decide (0<=x2.toNat/\x2.toNat<=a3.length)))<|
 chk (fits (0+(List.take x2.toNat a3).length) 24)<|
 chk (decide ((List.take x1.toNat a1).length<=1000000)&&decide ((List.take x2.toNat a3).length<=1000000))<|
 lt ((cH a0 (List.take x1.toNat a1) a2 (List.take x2.toNat a3) a4):List Int) fun l3=>
 chk (fits (0+l3.length) 1)<|
 bif (l3.length:Int)==0 then
 lt ((if 250<(a5.length:Int)then 250 else(a5.length:Int)):Int) fun x4=>
 chk (decide (0<=x4)&&(true&&decide (0<=x4.toNat/\x4.toNat<=a5.length)))<|
 chk (fits (l3.length+(List.take x4.toNat a5).length) 1)<|
 lt ((l3++(List.take x4.toNat a5)):List Int) fun l5=>
 bif (l5.length:Int)==0 then
 chk (decide (([]:List Int).length<=1000000))<|
 bd ((bu ([]:List Int)):yr) fun r6=>
 bif !r6.ok then
 some ([.b true])
 else
 some ([.b false])
 else
 E1 m (a5,a6,a7,a8,l5)
 else
 bif (l3.length:Int)==0 then
 chk (decide (([]:List Int).length<=1000000))<|
 bd ((bu ([]:List Int)):yr) fun r7=>
 bif !r7.ok then
 some ([.b true])
 else
 some ([.b false])
 else
 E1 m (a5,a6,a7,a8,l3)
theorem oP (m:Nat) {b:List Int} (hl:b.length<=1000000) (hb:∀x∈b,0<=x/\x<256):Df m b=some [.b true]:=by
 unfold Df;dsimp only[lt,bd];have hc:List.take b.length (b++List.replicate 80 7)=b:=by simp
 have hf:(b++List.replicate 80 (7:Int)).length=b.length+80:=by simp
 rw[hc];have fw:=CR b;refine aV (zae hl) (aV ?_ (aV (zae hl) (aV ?_ (jE (by rw[B7];rfl) ?_))))
 . rw[hf,zae (show(0:Int)<=(b.length:Int) by omega),zae (show 0<=b.length/\b.length<=b.length+80 by omega)];rfl
 . rw[hf,zae (show b.length+80<=2000000 by omega),zae hl];rfl
 cases h:(bu b).ok with
 |true=>
  rw[zau,encode_decode hb h];refine aV ?_ (aV (zae (by omega)) (tP ((sC _ _).2 rfl) rfl));rw[zae (show(bu b).aK.length<=1000000 by omega),zae (show(bu b).notes.length<=1000000 by omega)];rfl
 |false=>
  rw[zao,vT h];rfl
theorem F8 (l:List Int):∀x∈cR l,0<=x/\x<256:=by
 have u8:∀x:Int,wu8 x=x%256:=fun x=>by show IntKind.u8.wrap x=_;simp[IntKind.wrap,IntKind.bits,IntKind.signed]
 intro x hx;simp only[cR,List.mem_flatMap,nf,zaY,zcf,or_false,u8]at hx;obtain⟨n,_,h⟩:=hx;omega
theorem Kh (ra:bE) (aK:List Dat) (rb:bw) (notes:List Dat) (next:Int):∀x∈cH ra aK rb notes next,0<=x/\x<256:=by
 unfold cH;cases cu ra aK rb notes next with
 |true=>exact F8 _
 |false=>exact fun x hx=>absurd hx zcf
theorem Vv (x:Int):0<=wu8 x/\wu8 x<256:=by
 have u8:wu8 x=x%256:=by show IntKind.u8.wrap x=_;simp[IntKind.wrap,IntKind.bits,IntKind.signed]
 omega
theorem rC {b:List Int} (n:Nat) (hb:∀x∈b,0<=x/\x<256):∀x∈b.take n,0<=x/\x<256:=fun x hx=>hb x (List.mem_of_mem_take hx)
theorem Ap (m:Nat) {raw b:List Int} (at_ x how:Int) (h0:0<b.length) (hl:b.length<=900000) (hb:∀x∈b,0<=x/\x<256) (hr:∀x∈raw,0<=x/\x<256):E1 m (raw,at_,x,how,b)=some [.b true]:=by
 unfold E1;dsimp only[lt];have w:=aZ (a:=at_) (lo:=0) (hi:=(b.length:Int)-1) (by omega);rw[aa (n:=(b.length:Int)-1) (by omega) (by omega)];refine tP (zae ⟨by decide,by omega,by omega⟩) ?_
 generalize within at_ 0 ((b.length:Int)-1)=i at*
 have hi:i.toNat<b.length:=by omega
 by_cases k0:within how 0 3=0
 . rw[dS k0,cq (by omega) (by omega),aI hi,cq (by omega) (by omega),aI hi];refine oP m (by rw[zbf];omega) fun y hy=> ?_
   rcases zbL hy with hy|rfl
   . exact hb y hy
   . exact Vv _
 rw[dR k0]
 by_cases k1:within how 0 3=1
 . rw[dS k1];refine aV ?_ (oP m (by rw[zap];omega) (rC _ hb));rw[zae w.1,zae (show 0<=i.toNat/\i.toNat<=b.length by omega)];rfl
 rw[dR k1]
 by_cases k2:within how 0 3=2
 . rw[dS k2];have hx:∃z:Int,(if 20<(raw.length:Int)then 20 else(raw.length:Int))=z/\0<=z/\z<=20/\z<=(raw.length:Int):=⟨_,rfl,by split<;>omega,by split<;>omega,by split<;>omega⟩
   obtain⟨z,hz,z0,z1,z2⟩:=hx;rw[hz];have ht:(List.take z.toNat raw).length<=20:=by rw[zap];omega
   refine aV ?_ ?_
   . rw[zae z0,zae (show 0<=z.toNat/\z.toNat<=raw.length by omega)];rfl
   rw[dP (by omega) (by omega)];refine oP m (by rw[zad];omega) fun y hy=> ?_
   rcases zbp.1 hy with hy|hy
   . exact hb y hy
   . exact rC _ hr y hy
 rw[dR k2];exact oP m (by omega) hb
theorem To {x:Int} (h:(Lit.int .u8 x).wf=true):0<=x/\x<256:=by
 simp[Lit.wf,IntKind.min,IntKind.max,IntKind.bits,IntKind.signed]at h;omega
theorem F5 {c:Int} (n:Nat) (hc:0<=c):∃z:Int,(if c<(n:Int)then c else(n:Int))=z/\0<=z/\z<=c/\z.toNat<=n:=⟨_,rfl,by split<;>omega,by split<;>omega,by split<;>omega⟩
theorem Ce {α:Type} {z:Int} {n:Nat} {r:Option α} (h0:0<=z) (h1:z.toNat<=n):(chk (decide (0<=z)&&(true&&decide (0<=z.toNat/\z.toNat<=n))) r)=r:=by
 rw[zae h0,zae (show 0<=z.toNat/\z.toNat<=n from⟨zbJ _,h1⟩)];rfl
set_option maxHeartbeats 2000000 in
theorem Ud (b0:Bool) (b1:Int) (wb1:(Lit.int .i64 b1).wf=true) (b2:Int) (wb2:(Lit.int .i64 b2).wf=true) (b3:Int) (wb3:(Lit.int .i64 b3).wf=true) (b4:Int) (wb4:(Lit.int .i64 b4).wf=true) (b5:Int) (wb5:(Lit.int .i64 b5).wf=true) (b6:Int) (wb6:(Lit.int .i64 b6).wf=true) (b7:Int) (wb7:(Lit.int .i64 b7).wf=true) (b8:Int) (wb8:(Lit.int .i64 b8).wf=true) (b9:Int) (wb9:(Lit.int .i64 b9).wf=true) (b10:Int) (wb10:(Lit.int .i64 b10).wf=true) (b11:List Dat) (wb11:b11.length<=140737488355328/\∀x∈b11,WfR [.int .i64,.int .i64,.int .i64,.int .i64] x.sub) (b12:Int) (wb12:(Lit.int .i64 b12).wf=true) (b13:Int) (wb13:(Lit.int .i64 b13).wf=true) (b14:Int) (wb14:(Lit.int .i64 b14).wf=true) (b15:Int) (wb15:(Lit.int .i64 b15).wf=true) (b16:Int) (wb16:(Lit.int .i64 b16).wf=true) (b17:List Dat) (wb17:b17.length<=140737488355328/\∀x∈b17,WfR [.int .i64,.int .i64,.int .i64] x.sub) (b18:Int) (wb18:(Lit.int .i64 b18).wf=true) (b19:List Int) (wb19:b19.length<=140737488355328/\∀x∈b19,(Lit.int .u8 x).wf=true) (b20:Int) (wb20:(Lit.int .i64 b20).wf=true) (b21:Int) (wb21:(Lit.int .u8 b21).wf=true) (b22:Int) (wb22:(Lit.int .i64 b22).wf=true):∃m,t6 m ((⟨b0,b1,b2,b3,b4,b5,b6,b7,b8,b9,b10⟩:bE),b11,(⟨b12,b13,b14,b15,b16⟩:bw),b17,b18,b19,b20,b21,b22)=some [.b true]:=by
 have hu:∀x∈b19,0<=x/\x<256:=fun x hx=>To (wb19.2 x hx)
 refine⟨0, ?_⟩;unfold t6;dsimp only[lt];obtain⟨y,hy,y0,y1,y2⟩:=F5 (c:=12) b11.length (by decide);obtain⟨z,hz,z0,z1,z2⟩:=F5 (c:=9) b17.length (by decide);rw[hy,hz];have ly:(List.take y.toNat b11).length<=12:=by rw[zap];omega
 have lz:(List.take z.toNat b17).length<=9:=by rw[zap];omega
 rw[Ce y0 y2,dP (by omega) (by omega),Ce z0 z2,dP (by omega) (by omega)];generalize List.take y.toNat b11=p at*
 generalize List.take z.toNat b17=q at*
 refine aV (by rw[zae (show p.length<=1000000 by omega),zae (show q.length<=1000000 by omega)];rfl) ?_
 generalize (⟨b0,b1,b2,b3,b4,b5,b6,b7,b8,b9,b10⟩:bE)=ra;generalize (⟨b12,b13,b14,b15,b16⟩:bw)=rb;have hE:=Kh ra p rb q b18;have hL:(cH ra p rb q b18).length<=6000:=by
  cases hr:cu ra p rb q b18 with
  |true=>exact(qi hr).2
  |false=>rw[FU hr];simp
 generalize cH ra p rb q b18=e at*
 rw[dP (by omega) (by omega)]
 by_cases h0:e.length=0
 . have he:=zax h0;subst he;obtain⟨x,hx,x0,x1,x2⟩:=F5 (c:=250) b19.length (by decide);have lx:(List.take x.toNat b19).length<=250:=by rw[zap];omega
   have bx:=rC x.toNat hu;rw[dS (by simp),hx,Ce x0 x2];generalize List.take x.toNat b19=w at*
   rw[dP (by simp only[zas];omega) (by simp only[zas];omega),zaC]
   by_cases h1:w.length=0
   . rw[dS (by omega)];refine aV rfl ?_
     rw[DG];rfl
   . rw[dR (by omega)];exact Ap 0 b20 b21 b22 (by omega) (by omega) bx hu
 . rw[dR (by omega),dR (by omega)];exact Ap 0 b20 b21 b22 (by omega) (by omega) hE hu
set_option maxRecDepth 20000 in
theorem w7 {HH:Type} {enc:TypeId × Value->HH} {w:World} {base:Nat} {vs:List Value} {ds:List (DataW HH)} {ps:List MemPlace} (hsh:w.ShapedOpen Tryz.prog)
 (hd:DataW.TrodAll enc Tryz.prog w 0 (fun _=>true) true Tryz.f6.params.toList vs ds ps) {us':List TypeId} {gs:List (DataW HH)} (hz:(DataW.weightsEach Tryz.prog (Tryz.f6.params.toList++us') (ds++gs)).all (·<=reachBytes)=true) (hval:∀(j:Nat) t v,Tryz.f6.params.toList[j]? =some t->vs[j]? =some v->Value.okWide Tryz.prog w .any base t v):
 Calls Tryz.prog 6 vs.toArray w fun e w'=>e= .returned (.bool true)/\RowKit.Below w.heap.size w w':=
 xl Seat.mix Seat.names wN HZ (pars:=tX) (by kernel_rfl) (fun us h=>by
  change WfU [.bool,.int .i64,.int .i64,.int .i64,.int .i64,.int .i64,.int .i64,.int .i64,.int .i64,.int .i64,.int .i64,.ab [.int .i64,.int .i64,.int .i64,.int .i64],.int .i64,.int .i64,.int .i64,.int .i64,.int .i64,.ab [.int .i64,.int .i64,.int .i64],.int .i64,.ints .u8,.int .i64,.int .u8,.int .i64] us at h;obtain⟨b0,u,rfl,hh⟩:=HV h
  replace h:=hh
  clear hh;obtain⟨b1,u,rfl,wb1,h⟩:=bD h;obtain⟨b2,u,rfl,wb2,h⟩:=bD h;obtain⟨b3,u,rfl,wb3,h⟩:=bD h;obtain⟨b4,u,rfl,wb4,h⟩:=bD h;obtain⟨b5,u,rfl,wb5,h⟩:=bD h;obtain⟨b6,u,rfl,wb6,h⟩:=bD h;obtain⟨b7,u,rfl,wb7,h⟩:=bD h;obtain⟨b8,u,rfl,wb8,h⟩:=bD h;obtain⟨b9,u,rfl,wb9,h⟩:=bD h;obtain⟨b10,u,rfl,wb10,h⟩:=bD h;obtain⟨b11,u,rfl,wb11,h⟩:=qK h;obtain⟨b12,u,rfl,wb12,h⟩:=bD h;obtain⟨b13,u,rfl,wb13,h⟩:=bD h;obtain⟨b14,u,rfl,wb14,h⟩:=bD h;obtain⟨b15,u,rfl,wb15,h⟩:=bD h;obtain⟨b16,u,rfl,wb16,h⟩:=bD h;obtain⟨b17,u,rfl,wb17,h⟩:=qK h;obtain⟨b18,u,rfl,wb18,h⟩:=bD h;obtain⟨b19,u,rfl,wb19,h⟩:=eH h;obtain⟨b20,u,rfl,wb20,h⟩:=bD h;obtain⟨b21,u,rfl,wb21,h⟩:=bD h;obtain⟨b22,u,rfl,wb22,h⟩:=bD h;obtain rfl:=A2 h;obtain⟨m,hm⟩:=Ud b0 b1 wb1 b2 wb2 b3 wb3 b4 wb4 b5 wb5 b6 wb6 b7 wb7 b8 wb8 b9 wb9 b10 wb10 b11 wb11 b12 wb12 b13 wb13 b14 wb14 b15 wb15 b16 wb16 b17 wb17 b18 wb18 b19 wb19 b20 wb20 b21 wb21 b22 wb22;have G:N6.Cr Tryz.prog LQ KN (Uns.enc ((⟨b0,b1,b2,b3,b4,b5,b6,b7,b8,b9,b10⟩:bE),b11,(⟨b12,b13,b14,b15,b16⟩:bw),b17,b18,b19,b20,b21,b22)) ([QA (E1 m)])=t6 m ((⟨b0,b1,b2,b3,b4,b5,b6,b7,b8,b9,b10⟩:bE),b11,(⟨b12,b13,b14,b15,b16⟩:bw),b17,b18,b19,b20,b21,b22):=by kernel_rfl
  exact N6.Gk ah jO.right (W:=[QA (E1 m)]) (by kernel_rfl) (by kernel_rfl) (by kernel_rfl) (aH (Wr m) aA) (G.trans hm)) hsh hd hz hval
end
end Go.Proofs.YtcbnpnaagbhknaaGreat
