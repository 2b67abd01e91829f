/- Part of a proof: DealDoc, TapeDoc, TheDesk, DeskOpen, Docs, Replay, DeskRuns, WDeskRuns. Conditions: none. -/
import Derived.Test.YtfaojedfnjdnnaaGreatQ6
set_option linter.unusedVariables false
set_option linter.unusedSimpArgs false
set_option linter.unnecessarySimpa false
set_option linter.unusedSectionVars false
namespace Go.Proofs.YtfaojedfnjdnnaaGreat
noncomputable section
open Go Go.Proofs.YtfaojedfnjdnnaaGreat.Ev
set_option maxRecDepth 20000
def dr (d:Dat):List Int:=[d.i 0,d.i 1]
def k8 (d:Dat):List Int:=[d.i 0,d.i 1,d.i 2]
def bU (f:Dat->List Int) (l:List Dat):List Int:=(l.length:Int)::l.flatMap f
def jk (d:bc):List Int:=[d.a.year,d.a.month,d.a.basis,d.b.fee,d.b.bC,d.b.target,d.b.advance,d.b.fm,d.b.oc,d.b.ic,d.b.late,d.b.mf,d.b.clean]++(bU dr d.aK++(bU k8 d.notes++(bU dr d.s0++(bU dr d.s1++bU dr d.s2))))
def fW (d:bc):List Int:=bif (bW d).isSome then cF (jk d)else[]
def N15:aC:=⟨Ho.tab,15,⟨[.agg [.int .i64,.int .i64,.int .i64,.af (sI 2),.af (sI 3),.int .i64,.int .i64,.int .i64,.int .i64,.int .i64,.int .i64,.int .i64,.int .i64,.int .i64,.int .i64,.af (sI 2),.af (sI 2),.af (sI 2)]],[],0⟩,⟨[.buf 0 1],[.ints .u8],0⟩,[]⟩
abbrev Ja:Type:=List Dat × List Dat × List Dat × Int × List Dat × Int × Int × List Int
abbrev pS:Type:=List Dat × List Dat × List Dat × Int × List Int
abbrev Jc:Type:=List Dat × Int × Int × bc × List Int
abbrev Js:Type:=List Dat × Int × Int × bc × List Int
def Bf (m:Nat) (k2:pS->Option (List Un)) (k:Ja->Option (List Un)):Ja->Option (List Un):=fun(a0,a1,a2,a3,a4,a5,a6,a7)=>
 bif decide (a6<a5)then
 chk (inb a6 a4.length)<|
 chk (decide (a6.toNat<a4.length))<|
 lt (ag a4 a6.toNat:Dat) fun d7=>
 chk (fits (a7.length+2) 8)<|
 k (a0,a1,a2,a3,a4,a5,(w64 (a6+1)),(a7++([(d7.i 0),(d7.i 1)])))
 else
 k2 (a0,a1,a2,(w64 (a3+1)),a7)
def yD (m:Nat) (k2:pS->Option (List Un)):Nat->Ja->Option (List Un):=bq (Bf m k2)
theorem xv (m:Nat) (k2:pS->Option (List Un)) (n:Nat):yD m k2 (n+1)=Bf m k2 (yD m k2 n):=rfl
def Nv (F:Ja->Option (List Un)):aU:=⟨[.lp [0,1,1,1,0,0,1,1,0,0,1,0,1,1,1,1,1,1,1,1],.blk 6,.blk 5,.code [1,1,1,0,0,1,0,1,1,1,1,1,1,1,1],.lp [0,1,0,1,1,1,1,1,1,1,1],.blk 4,.code [1,1,1,1,1,1,1,1,1]],⟨frm 116 [(4,.buf 0 1),(90,.agg [.af (sI 2),.af (sI 2),.af (sI 2)]),(91,.int .i64),(99,.af (sI 2)),(100,.int .i64),(101,.int .i64)],[.ints .i64],0⟩,onU F⟩
def tx (m:Nat) (k:pS->Option (List Un)):pS->Option (List Un):=fun(a0,a1,a2,a3,a4)=>
 bif decide (a3<3)then
 chk (inb a3 3)<|
 chk (decide (a3.toNat<3))<|
 chk (fits (a4.length+1) 8)<|
 yD m k m (a0,a1,a2,a3,(List.getD [a0,a1,a2] a3.toNat []),((List.getD [a0,a1,a2] a3.toNat []).length:Int),0,(a4++([((List.getD [a0,a1,a2] a3.toNat []).length:Int)])))
 else
 chk (decide (a4.length<=1000000))<|
 some ([.l (cF a4)])
def xM (m:Nat):Nat->pS->Option (List Un):=bq (tx m)
theorem nC (m:Nat) (n:Nat):xM m (n+1)=tx m (xM m n):=rfl
def IB (F:pS->Option (List Un)):aU:=⟨[.lp [0,1,0,1,1,1,1,1,1,1,1],.blk 4,.code [1,1,1,1,1,1,1,1,1]],⟨frm 116 [(4,.buf 0 1),(90,.agg [.af (sI 2),.af (sI 2),.af (sI 2)]),(91,.int .i64)],[.ints .i64],0⟩,onU F⟩
def C0 (m:Nat) (k:Jc->Option (List Un)):Jc->Option (List Un):=fun(a0,a1,a2,a3,a4)=>
 bif decide (a2<a1)then
 chk (inb a2 a0.length)<|
 chk (decide (a2.toNat<a0.length))<|
 lt (ag a0 a2.toNat:Dat) fun d4=>
 chk (fits (a4.length+3) 8)<|
 k (a0,a1,(w64 (a2+1)),a3,(a4++([(d4.i 0),(d4.i 1),(d4.i 2)])))
 else
 xM m m (a3.s0,a3.s1,a3.s2,0,a4)
def zA (m:Nat):Nat->Jc->Option (List Un):=bq (C0 m)
theorem yL (m:Nat) (n:Nat):zA m (n+1)=C0 m (zA m n):=rfl
def Og (F:Jc->Option (List Un)):aU:=⟨[.lp [0,1,0,1,1,1,1,1,1,1],.blk 2,.code [1,1,1,1,1,1,1,1]],⟨frm 116 [(1,.ptr 0 0 0),(4,.buf 1 1),(73,.af (sI 3)),(74,.int .i64),(75,.int .i64)],[.cells [.int .i64,.int .i64,.int .i64,.af (sI 2),.af (sI 3),.int .i64,.int .i64,.int .i64,.int .i64,.int .i64,.int .i64,.int .i64,.int .i64,.int .i64,.int .i64,.af (sI 2),.af (sI 2),.af (sI 2)],.ints .i64],0⟩,onU F⟩
def B1 (m:Nat) (k:Js->Option (List Un)):Js->Option (List Un):=fun(a0,a1,a2,a3,a4)=>
 bif decide (a2<a1)then
 chk (inb a2 a0.length)<|
 chk (decide (a2.toNat<a0.length))<|
 lt (ag a0 a2.toNat:Dat) fun d1=>
 chk (fits (a4.length+2) 8)<|
 k (a0,a1,(w64 (a2+1)),a3,(a4++([(d1.i 0),(d1.i 1)])))
 else
 chk (fits (a4.length+1) 8)<|
 zA m m (a3.notes,(a3.notes.length:Int),0,a3,(a4++([(a3.notes.length:Int)])))
def Ba (m:Nat):Nat->Js->Option (List Un):=bq (B1 m)
theorem yP (m:Nat) (n:Nat):Ba m (n+1)=B1 m (Ba m n):=rfl
def Lu (F:Js->Option (List Un)):aU:=⟨[.lp [0,1,0,1,1,1,1,1],.blk 0,.code [1,1,1,1,1,1]],⟨frm 116 [(1,.ptr 0 0 0),(4,.buf 1 1),(52,.af (sI 2)),(53,.int .i64),(54,.int .i64)],[.cells [.int .i64,.int .i64,.int .i64,.af (sI 2),.af (sI 3),.int .i64,.int .i64,.int .i64,.int .i64,.int .i64,.int .i64,.int .i64,.int .i64,.int .i64,.int .i64,.af (sI 2),.af (sI 2),.af (sI 2)],.ints .i64],0⟩,onU F⟩
theorem XT (m:Nat) (k2:pS->Option (List Un)) (h2:HO N15 (IB k2)):∀n,HO N15 (Nv (yD m k2 n)):=au ae Ho.right (fun k=>[IB k2,Nv k]) (fun k h=>(aH h2 (aH h aB))) fun k a=>by kernel_rfl
theorem XI (m:Nat):∀n,HO N15 (IB (xM m n)):=au ae Ho.right (fun k=>[Nv (yD m (k) m)]) (fun k h=>(aH (XT m _ h m) aB)) fun k a=>by kernel_rfl
theorem Xw (m:Nat):∀n,HO N15 (Og (zA m n)):=au ae Ho.right (fun k=>[Og k,IB (xM m m)]) (fun k h=>(aH h (aH (XI m m) aB))) fun k a=>by kernel_rfl
theorem W9 (m:Nat):∀n,HO N15 (Lu (Ba m n)):=au ae Ho.right (fun k=>[Lu k,Og (zA m m)]) (fun k h=>(aH h (aH (Xw m m) aB))) fun k a=>by kernel_rfl
def t15 (m:Nat):bc->Option (List Un):=fun a0=>
 bif !((bW a0).isSome)then
 some ([.l ([])])
 else
 Ba m m (a0.aK,(a0.aK.length:Int),0,a0,([a0.a.year,a0.a.month,a0.a.basis,a0.b.fee,a0.b.bC,a0.b.target,a0.b.advance,a0.b.fm,a0.b.oc,a0.b.ic,a0.b.late,a0.b.mf,a0.b.clean,(a0.aK.length:Int)]:List Int))
theorem ZT (m:Nat) (d:bc):∀(rest pre:List Dat) (n:Nat) (acc:List Int),rest.length<n->(pre++rest).length<=1000000->acc.length+2*rest.length<=1000000->Ba m n (pre++rest,((pre++rest).length:Int),(pre.length:Int),d,acc)=zA m m (d.notes,(d.notes.length:Int),0,d,acc++rest.flatMap dr++[(d.notes.length:Int)]):=by
 intro rest
 induction rest with
 |nil=>
  intro pre n acc hn hl ha;obtain⟨n,rfl⟩:=ak n (by simp at hn;omega);simp only[zar]at ha;rw[yP];unfold B1;dsimp only;rw[az (by simp),bL (by omega) (by omega)];simp
 |cons x rest ih=>
  intro pre n acc hn hl ha;obtain⟨n,rfl⟩:=ak n (by simp at hn;omega);simp only[zac]at hn ha;have:=ih (pre++[x]) n (acc++dr x) (by omega) (by simpa using hl) (by simp[dr];omega);simp only[zab,zac]at hl;rw[yP];unfold B1;dsimp only;rw[aQ (by simp only[zab,zac];omega),cJ (by omega) (by simp only[zab,zac];omega),aP (by simp),ab (n:=(pre.length:Int)+1) (by omega) (by omega)];simp only[lt_eq,zay,aD];rw[bL (by omega) (by omega)];rw[show acc++[x.i 0,x.i 1]=acc++dr x from rfl];simp only[zaZ,zaq,zaI,zat,zab,zac,zar,zaC]at this⊢;exact this
theorem ZU (m:Nat) (d:bc):∀(rest pre:List Dat) (n:Nat) (acc:List Int),rest.length<n->(pre++rest).length<=1000000->acc.length+3*rest.length<=1000000->zA m n (pre++rest,((pre++rest).length:Int),(pre.length:Int),d,acc)=xM m m (d.s0,d.s1,d.s2,0,acc++rest.flatMap k8):=by
 intro rest
 induction rest with
 |nil=>
  intro pre n acc hn hl ha;obtain⟨n,rfl⟩:=ak n (by simp at hn;omega);rw[yL];unfold C0;dsimp only;rw[az (by simp)];simp
 |cons x rest ih=>
  intro pre n acc hn hl ha;obtain⟨n,rfl⟩:=ak n (by simp at hn;omega);simp only[zac]at hn ha;have:=ih (pre++[x]) n (acc++k8 x) (by omega) (by simpa using hl) (by simp[k8];omega);simp only[zab,zac]at hl;rw[yL];unfold C0;dsimp only;rw[aQ (by simp only[zab,zac];omega),cJ (by omega) (by simp only[zab,zac];omega),aP (by simp),ab (n:=(pre.length:Int)+1) (by omega) (by omega)];simp only[lt_eq,zay,aD];rw[bL (by omega) (by omega)];rw[show acc++[x.i 0,x.i 1,x.i 2]=acc++k8 x from rfl];simp only[zaZ,zaq,zaI,zat,zab,zac,zar,zaC]at this⊢;exact this
theorem ZC (m:Nat) (k2:pS->Option (List Un)) (x0 x1 x2:List Dat) (j:Int):∀(rest pre:List Dat) (n:Nat) (acc:List Int),rest.length<n->(pre++rest).length<=1000000->acc.length+2*rest.length<=1000000->yD m k2 n (x0,x1,x2,j,pre++rest,((pre++rest).length:Int),(pre.length:Int),acc)=k2 (x0,x1,x2,w64 (j+1),acc++rest.flatMap dr):=by
 intro rest
 induction rest with
 |nil=>
  intro pre n acc hn hl ha;obtain⟨n,rfl⟩:=ak n (by simp at hn;omega);rw[xv];unfold Bf;dsimp only;rw[az (by simp)];simp
 |cons x rest ih=>
  intro pre n acc hn hl ha;obtain⟨n,rfl⟩:=ak n (by simp at hn;omega);simp only[zac]at hn ha;have:=ih (pre++[x]) n (acc++dr x) (by omega) (by simpa using hl) (by simp[dr];omega);simp only[zab,zac]at hl;rw[xv];unfold Bf;dsimp only;rw[aQ (by simp only[zab,zac];omega),cJ (by omega) (by simp only[zab,zac];omega),aP (by simp),ab (n:=(pre.length:Int)+1) (by omega) (by omega)];simp only[lt_eq,zay,aD];rw[bL (by omega) (by omega)];rw[show acc++[x.i 0,x.i 1]=acc++dr x from rfl];simp only[zaZ,zaq,zaI,zat,zab,zac,zar,zaC]at this⊢;exact this
theorem ZB (m:Nat) (hm:100<m) (x0 x1 x2:List Dat) (h0:x0.length<=16) (h1:x1.length<=16) (h2:x2.length<=16) (n:Nat) (acc:List Int) (ha:acc.length<=900000):xM m (n+4) (x0,x1,x2,0,acc)=some [.l (cF (acc++bU dr x0++bU dr x1++bU dr x2))]:=by
 have fl:∀x:List Dat,(bU dr x).length=2*x.length+1:=fun x=>by
  have:∀l:List Dat,(l.flatMap dr).length=2*l.length:=fun l=>by
   induction l with
   |nil=>rfl
   |cons y l ih=>simp only[zaZ,zab,ih,dr,zac,zar];omega
  simp only[bU,zac,this]
 have e:∀(x:List Dat) (z:List Int),z++[(x.length:Int)]++x.flatMap dr=z++bU dr x:=fun x z=>by simp[bU]
 have go:∀(x:List Dat) (z:List Int) (j:Int) (k2:pS->Option (List Un)),x.length<=16->z.length<=990000->(chk (fits (z.length+1) 8)<|yD m k2 m (x0,x1,x2,j,x,(x.length:Int),0,z++[(x.length:Int)]))=k2 (x0,x1,x2,w64 (j+1),z++bU dr x):=fun x z j k2 hx hz=>by
  rw[bL (by omega) (by omega)];have:=ZC m k2 x0 x1 x2 j x [] m (z++[(x.length:Int)]) (by omega) (by simp;omega) (by simp;omega);rw[e]at this;exact this
 rw[nC];unfold tx;dsimp only;refine(gv rfl (av rfl (av rfl (go x0 acc 0 _ h0 (by omega))))).trans ?_
 rw[show w64 ((0:Int)+1)=1 by decide,nC];unfold tx;dsimp only;refine(gv rfl (av rfl (av rfl (go x1 _ 1 _ h1 (by have:=fl x0;simp only[zab];omega))))).trans ?_
 rw[show w64 ((1:Int)+1)=2 by decide,nC];unfold tx;dsimp only;refine(gv rfl (av rfl (av rfl (go x2 _ 2 _ h2 (by have:=fl x0;have:=fl x1;simp only[zab];omega))))).trans ?_
 rw[show w64 ((2:Int)+1)=3 by decide,nC];unfold tx;dsimp only;exact dV rfl (av (zaa (by have:=fl x0;have:=fl x1;have:=fl x2;simp only[zab];omega)) rfl)
def f15:bc->Bool × List Un:=fun a0=>(true,[.l (fW a0)])
theorem Uf (a0:bc):∃m,t15 m a0=some ([.l (fW a0)]):=by
 refine⟨2000, ?_⟩;unfold t15 fW
 try dsimp only
 cases hs:(bW a0).isSome
 case false=>rfl
 have D:=dg hs;have h1:=D.Kc;have h2:=D.Nw;have h3:=b9 D.s0;have h4:=b9 D.s1;have h5:=b9 D.s2;dsimp only[Bool.not_true,cond_false,cond_true];have e0:=ZT 2000 a0 a0.aK [] 2000 [a0.a.year,a0.a.month,a0.a.basis,a0.b.fee,a0.b.bC,a0.b.target,a0.b.advance,a0.b.fm,a0.b.oc,a0.b.ic,a0.b.late,a0.b.mf,a0.b.clean,(a0.aK.length:Int)] (by omega) (by simp;omega) (by simp;omega);refine e0.trans ?_
 have fl:∀l:List Dat,(l.flatMap dr).length=2*l.length:=fun l=>by
  induction l with
  |nil=>rfl
  |cons y l ih=>simp only[zaZ,zab,ih,dr,zac,zar];omega
 have fl3:∀l:List Dat,(l.flatMap k8).length=3*l.length:=fun l=>by
  induction l with
  |nil=>rfl
  |cons y l ih=>simp only[zaZ,zab,ih,k8,zac,zar];omega
 refine(ZU 2000 a0 a0.notes [] 2000 _ (by omega) (by simp;omega) (by simp only[zab,zac,zar,fl];omega)).trans ?_
 refine(ZB 2000 (by omega) a0.s0 a0.s1 a0.s2 h3.2 h4.2 h5.2 1996 _ (by simp only[zab,zac,zar,fl,fl3];omega)).trans ?_
 simp[jk,bU]
theorem Sv:ER 15 (mkE N15.en N15.ex f15):=an ae Ho.right (fun m=>[Lu (Ba m m)]) (t:=t15) (by kernel_rfl) (fun m=>(aH (W9 m m) aB)) (fun m a=>by kernel_rfl) fun a0 hc=>Uf a0
def T15:Tb Tryz.prog LQ TE XX:=Ho.add 15 _ Sv
def ct:Nat->RdR->List Dat × RdR
 |0,r=>([],r)
 |k+1,r=>(.r [.n (nx r).v,.n (nx (nx r)).v]::(ct k (nx (nx r))).1,(ct k (nx (nx r))).2)
theorem Jd:∀(k:Nat) {r:RdR},RdI r->RdI (ct k r).2
 |0,r,h=>h
 |k+1,r,h=>Jd k (bD (bD h))
structure Fl where
 d:bc
 r:RdR
def dL (r:RdR) (most:Int):List Dat × RdR:=ct (mx r most).v.toNat (mx r most)
def rN (r:RdR) (most:Int):List Dat × RdR:=eJ (mx r most).v.toNat (mx r most)
def Dh (r1:RdR):ao × aq:=
 let r2:=nx r1;let r3:=nx r2;let r4:=nx r3;let r5:=nx r4;let r6:=nx r5;let r7:=nx r6;let r8:=nx r7;let r9:=nx r8;let r10:=nx r9;let r11:=nx r10;let r12:=nx r11;let r13:=nx r12
 (⟨r1.v,r2.v,r3.v⟩,⟨r4.v,r5.v,r6.v,r7.v,r8.v,r9.v,r10.v,r11.v,r12.v,r13.v⟩)
def KQ (a:ao) (b:aq) (r13:RdR):Fl:=
 let p:=dL r13 64
 let q:=rN p.2 8
 let u:=dL q.2 16
 let v:=dL u.2 16
 let w:=dL v.2 16
 ⟨⟨a,p.1,q.1,b,u.1,v.1,w.1⟩,w.2⟩
def cg (o n:Int) (bad:Bool) (l:List Int):Fl:=
 KQ (Dh (rdN o n bad l)).1 (Dh (rdN o n bad l)).2 (nx (nx (nx (nx (nx (nx (nx (nx (nx (nx (nx (nx (rdN o n bad l)))))))))))))
theorem J4 {r:RdR} {most:Int} (h:0<=most):0<=(mx r most).v/\(mx r most).v<=most:=Fg h
theorem lV {r:RdR} {most:Int} (h:RdI r):RdI (dL r most).2:=Jd _ (tE h)
theorem Jp {r:RdR} {most:Int} (h:RdI r):RdI (rN r most).2:=BC _ (tE h)
def BF:aC:=⟨T15.tab,124,⟨[.ptr 0 0 0],[.cells [.sl 1 1,.bool],.ints .i64],0⟩,⟨[.agg [.int .i64,.int .i64,.int .i64,.buf 2 2,.buf 3 3,.int .i64,.int .i64,.int .i64,.int .i64,.int .i64,.int .i64,.int .i64,.int .i64,.int .i64,.int .i64,.buf 4 2,.buf 5 2,.buf 6 2]],[.cells [.sl 1 1,.bool],.ints .i64,.af (sI 2),.af (sI 3),.af (sI 2),.af (sI 2),.af (sI 2)],0⟩,[[0,1,0,1,1]]⟩
abbrev BJ:Type:=Int × Int × Int × Int × Int × Int × Bool × List Int × ao × aq × ao × aq × List Dat × List Dat × List Dat × List Dat × List Dat × List Dat × List Dat × List Dat × List Dat × List Dat
abbrev lx:Type:=Int × Int × Int × Bool × List Int × ao × aq × ao × aq × List Dat × List Dat × List Dat × List Dat × List Dat × List Dat × List Dat × List Dat × List Dat × List Dat
abbrev Cs:Type:=Int × Int × Int × Int × Bool × List Int × ao × aq × ao × aq × List Dat × List Dat × List Dat × List Dat × List Dat × List Dat × List Dat × List Dat × List Dat × List Dat
abbrev CN:Type:=Int × Int × Int × Int × Bool × List Int × ao × aq × ao × aq × List Dat × List Dat × List Dat × List Dat × List Dat × List Dat × List Dat × List Dat × List Dat × List Dat
def lS (m:Nat) (k3:lx->Option (List Un)) (k:BJ->Option (List Un)):BJ->Option (List Un):=fun(a0,a1,a2,a3,a4,a5,a6,a7,a8,a9,a10,a11,a12,a13,a14,a15,a16,a17,a18,a19,a20,a21)=>
 bif decide (a3<a2)then
 chk (decide ((a4.toNat:Int).toNat+(a5.toNat:Int).toNat<=a7.length))<|
 bd ((rdN (a4.toNat:Int) (a5.toNat:Int) a6 a7):RdR) fun r24=>
 bif decide (a0=0)then
 chk (decide ((r24.o.toNat:Int).toNat+(r24.n.toNat:Int).toNat<=r24.l.length))<|
 bd ((rdN (r24.o.toNat:Int) (r24.n.toNat:Int) r24.bad r24.l):RdR) fun r25=>
 chk (fits (a19.length+1) 16)<|
 bif decide (a0=0)then
 k (a0,a1,a2,(w64 (a3+1)),(r25.o.toNat:Int),(r25.n.toNat:Int),r25.bad,r25.l,a8,a9,a10,a11,a12,a13,a14,a15,a16,a17,a18,(a19++([.r [.n r24.v,.n r25.v]])),a20,a21)
 else
 bif decide (a0=1)then
 none
 else
 bif decide (a0=2)then
 none
 else
 none
 else
 bif decide (a0=1)then
 chk (decide ((r24.o.toNat:Int).toNat+(r24.n.toNat:Int).toNat<=r24.l.length))<|
 bd ((rdN (r24.o.toNat:Int) (r24.n.toNat:Int) r24.bad r24.l):RdR) fun r27=>
 chk (fits (a20.length+1) 16)<|
 bif decide (a0=0)then
 none
 else
 bif decide (a0=1)then
 k (a0,a1,a2,(w64 (a3+1)),(r27.o.toNat:Int),(r27.n.toNat:Int),r27.bad,r27.l,a8,a9,a10,a11,a12,a13,a14,a15,a16,a17,a18,a19,(a20++([.r [.n r24.v,.n r27.v]])),a21)
 else
 bif decide (a0=2)then
 none
 else
 none
 else
 bif decide (a0=2)then
 chk (decide ((r24.o.toNat:Int).toNat+(r24.n.toNat:Int).toNat<=r24.l.length))<|
 bd ((rdN (r24.o.toNat:Int) (r24.n.toNat:Int) r24.bad r24.l):RdR) fun r29=>
 chk (fits (a21.length+1) 16)<|
 bif decide (a0=0)then
 none
 else
 bif decide (a0=1)then
 none
 else
 bif decide (a0=2)then
 k (a0,a1,a2,(w64 (a3+1)),(r29.o.toNat:Int),(r29.n.toNat:Int),r29.bad,r29.l,a8,a9,a10,a11,a12,a13,a14,a15,a16,a17,a18,a19,a20,(a21++([.r [.n r24.v,.n r29.v]])))
 else
 none
 else
 none
 else
 k3 ((w64 (a1+1)),(a4.toNat:Int),(a5.toNat:Int),a6,a7,a8,a9,a10,a11,a12,a13,a14,a15,a16,a17,a18,a19,a20,a21)
def oC (m:Nat) (k3:lx->Option (List Un)):Nat->BJ->Option (List Un):=bq (lS m k3)
theorem iA (m:Nat) (k3:lx->Option (List Un)) (n:Nat):oC m k3 (n+1)=lS m k3 (oC m k3 n):=rfl
def GM (F:BJ->Option (List Un)):aU:=⟨[.lp [0,1,1,0,0,1,1,0,0,1,0,1,1,1,1,1],.blk 8,.blk 7,.code [1,1,1,0,0,1,0,1,1,1,1,1],.lp [0,1,0,1,1,1,1,1],.blk 6,.code [1,1,1,1,1,1]],⟨frm 100 [(0,.ptr 0 0 0),(2,.ptr 2 0 0),(3,.ptr 3 0 0),(9,.int .i64),(75,.int .i64),(79,.int .i64),(80,.int .i64)],[.cells [.sl 1 1,.bool],.ints .i64,.cells [.int .i64,.int .i64,.int .i64,.buf 4 2,.buf 5 3,.int .i64,.int .i64,.int .i64,.int .i64,.int .i64,.int .i64,.int .i64,.int .i64,.int .i64,.int .i64,.buf 6 2,.buf 7 2,.buf 8 2],.cells [.int .i64,.int .i64,.int .i64,.buf 9 2,.buf 10 3,.int .i64,.int .i64,.int .i64,.int .i64,.int .i64,.int .i64,.int .i64,.int .i64,.int .i64,.int .i64,.buf 11 2,.buf 12 2,.buf 13 2],.af (sI 2),.af (sI 3),.af (sI 2),.af (sI 2),.af (sI 2),.af (sI 2),.af (sI 3),.af (sI 2),.af (sI 2),.af (sI 2)],0⟩,onU F⟩
def pw (m:Nat) (k:lx->Option (List Un)):lx->Option (List Un):=fun(a0,a1,a2,a3,a4,a5,a6,a7,a8,a9,a10,a11,a12,a13,a14,a15,a16,a17,a18)=>
 bif decide (a0<3)then
 chk (decide ((a1.toNat:Int).toNat+(a2.toNat:Int).toNat<=a4.length))<|
 bd ((rdM (a1.toNat:Int) (a2.toNat:Int) a3 a4 16):RdR) fun r23=>
 oC m k m (a0,a0,r23.v,0,(r23.o.toNat:Int),(r23.n.toNat:Int),r23.bad,r23.l,a5,a6,a7,a8,a9,a10,a11,a12,a13,a14,a15,a16,a17,a18)
 else
 some (Uns.enc (a7:ao)++Uns.enc (a8:aq)++[.i (a1.toNat:Int),.i (a2.toNat:Int),.b a3,.l a4,.d a14,.d a15,.d a16,.d a17,.d a18])
def kW (m:Nat):Nat->lx->Option (List Un):=bq (pw m)
theorem lO (m:Nat) (n:Nat):kW m (n+1)=pw m (kW m n):=rfl
def Co (F:lx->Option (List Un)):aU:=⟨[.lp [0,1,0,1,1,1,1,1],.blk 6,.code [1,1,1,1,1,1]],⟨frm 100 [(0,.ptr 0 0 0),(2,.ptr 2 0 0),(3,.ptr 3 0 0),(75,.int .i64)],[.cells [.sl 1 1,.bool],.ints .i64,.cells [.int .i64,.int .i64,.int .i64,.buf 4 2,.buf 5 3,.int .i64,.int .i64,.int .i64,.int .i64,.int .i64,.int .i64,.int .i64,.int .i64,.int .i64,.int .i64,.buf 6 2,.buf 7 2,.buf 8 2],.cells [.int .i64,.int .i64,.int .i64,.buf 9 2,.buf 10 3,.int .i64,.int .i64,.int .i64,.int .i64,.int .i64,.int .i64,.int .i64,.int .i64,.int .i64,.int .i64,.buf 11 2,.buf 12 2,.buf 13 2],.af (sI 2),.af (sI 3),.af (sI 2),.af (sI 2),.af (sI 2),.af (sI 2),.af (sI 3),.af (sI 2),.af (sI 2),.af (sI 2)],0⟩,onU F⟩
def vX (m:Nat) (k:Cs->Option (List Un)):Cs->Option (List Un):=fun(a0,a1,a2,a3,a4,a5,a6,a7,a8,a9,a10,a11,a12,a13,a14,a15,a16,a17,a18,a19)=>
 bif decide (a1<a0)then
 chk (decide ((a2.toNat:Int).toNat+(a3.toNat:Int).toNat<=a5.length))<|
 bd ((rdN (a2.toNat:Int) (a3.toNat:Int) a4 a5):RdR) fun r19=>
 chk (decide ((r19.o.toNat:Int).toNat+(r19.n.toNat:Int).toNat<=r19.l.length))<|
 bd ((rdN (r19.o.toNat:Int) (r19.n.toNat:Int) r19.bad r19.l):RdR) fun r20=>
 chk (decide ((r20.o.toNat:Int).toNat+(r20.n.toNat:Int).toNat<=r20.l.length))<|
 bd ((rdN (r20.o.toNat:Int) (r20.n.toNat:Int) r20.bad r20.l):RdR) fun r21=>
 chk (fits (a16.length+1) 24)<|
 k (a0,(w64 (a1+1)),(r21.o.toNat:Int),(r21.n.toNat:Int),r21.bad,r21.l,a6,a7,a8,a9,a10,a11,a12,a13,a14,a15,(a16++([.r [.n r19.v,.n r20.v,.n r21.v]])),a17,a18,a19)
 else
 kW m m (0,(a2.toNat:Int),(a3.toNat:Int),a4,a5,a6,a7,a8,a9,a10,a11,a12,a13,a14,a15,a16,a17,a18,a19)
def sw (m:Nat):Nat->Cs->Option (List Un):=bq (vX m)
theorem uj (m:Nat) (n:Nat):sw m (n+1)=vX m (sw m n):=rfl
def F7 (F:Cs->Option (List Un)):aU:=⟨[.lp [0,1,0,1,1,1,1],.blk 4,.code [1,1,1,1,1]],⟨frm 100 [(0,.ptr 0 0 0),(2,.ptr 2 0 0),(3,.ptr 3 0 0),(57,.int .i64),(58,.int .i64)],[.cells [.sl 1 1,.bool],.ints .i64,.cells [.int .i64,.int .i64,.int .i64,.buf 4 2,.buf 5 3,.int .i64,.int .i64,.int .i64,.int .i64,.int .i64,.int .i64,.int .i64,.int .i64,.int .i64,.int .i64,.buf 6 2,.buf 7 2,.buf 8 2],.cells [.int .i64,.int .i64,.int .i64,.buf 9 2,.buf 10 3,.int .i64,.int .i64,.int .i64,.int .i64,.int .i64,.int .i64,.int .i64,.int .i64,.int .i64,.int .i64,.buf 11 2,.buf 12 2,.buf 13 2],.af (sI 2),.af (sI 3),.af (sI 2),.af (sI 2),.af (sI 2),.af (sI 2),.af (sI 3),.af (sI 2),.af (sI 2),.af (sI 2)],0⟩,onU F⟩
def wQ (m:Nat) (k:CN->Option (List Un)):CN->Option (List Un):=fun(a0,a1,a2,a3,a4,a5,a6,a7,a8,a9,a10,a11,a12,a13,a14,a15,a16,a17,a18,a19)=>
 bif decide (a1<a0)then
 chk (decide ((a2.toNat:Int).toNat+(a3.toNat:Int).toNat<=a5.length))<|
 bd ((rdN (a2.toNat:Int) (a3.toNat:Int) a4 a5):RdR) fun r15=>
 chk (decide ((r15.o.toNat:Int).toNat+(r15.n.toNat:Int).toNat<=r15.l.length))<|
 bd ((rdN (r15.o.toNat:Int) (r15.n.toNat:Int) r15.bad r15.l):RdR) fun r16=>
 chk (fits (a15.length+1) 16)<|
 k (a0,(w64 (a1+1)),(r16.o.toNat:Int),(r16.n.toNat:Int),r16.bad,r16.l,a6,a7,a8,a9,a10,a11,a12,a13,a14,(a15++([.r [.n r15.v,.n r16.v]])),a16,a17,a18,a19)
 else
 chk (decide ((a2.toNat:Int).toNat+(a3.toNat:Int).toNat<=a5.length))<|
 bd ((rdM (a2.toNat:Int) (a3.toNat:Int) a4 a5 8):RdR) fun r18=>
 sw m m (r18.v,0,(r18.o.toNat:Int),(r18.n.toNat:Int),r18.bad,r18.l,a6,a7,a8,a9,a10,a11,a12,a13,a14,a15,a16,a17,a18,a19)
def sh (m:Nat):Nat->CN->Option (List Un):=bq (wQ m)
theorem vl (m:Nat) (n:Nat):sh m (n+1)=wQ m (sh m n):=rfl
def FC (F:CN->Option (List Un)):aU:=⟨[.lp [0,1,0,1,1,1],.blk 2,.code [1,1,1,1]],⟨frm 100 [(0,.ptr 0 0 0),(2,.ptr 2 0 0),(3,.ptr 3 0 0),(41,.int .i64),(42,.int .i64)],[.cells [.sl 1 1,.bool],.ints .i64,.cells [.int .i64,.int .i64,.int .i64,.buf 4 2,.buf 5 3,.int .i64,.int .i64,.int .i64,.int .i64,.int .i64,.int .i64,.int .i64,.int .i64,.int .i64,.int .i64,.buf 6 2,.buf 7 2,.buf 8 2],.cells [.int .i64,.int .i64,.int .i64,.buf 9 2,.buf 10 3,.int .i64,.int .i64,.int .i64,.int .i64,.int .i64,.int .i64,.int .i64,.int .i64,.int .i64,.int .i64,.buf 11 2,.buf 12 2,.buf 13 2],.af (sI 2),.af (sI 3),.af (sI 2),.af (sI 2),.af (sI 2),.af (sI 2),.af (sI 3),.af (sI 2),.af (sI 2),.af (sI 2)],0⟩,onU F⟩
theorem Vw (m:Nat) (k3:lx->Option (List Un)) (h3:HO BF (Co k3)):∀n,HO BF (GM (oC m k3 n)):=au ae T15.right (fun k=>[Co k3,GM k]) (fun k h=>(aH h3 (aH h aB))) fun k a=>by kernel_rfl
theorem Wi (m:Nat):∀n,HO BF (Co (kW m n)):=au ae T15.right (fun k=>[GM (oC m (k) m)]) (fun k h=>(aH (Vw m _ h m) aB)) fun k a=>by kernel_rfl
theorem VC (m:Nat):∀n,HO BF (F7 (sw m n)):=au ae T15.right (fun k=>[F7 k,Co (kW m m)]) (fun k h=>(aH h (aH (Wi m m) aB))) fun k a=>by kernel_rfl
theorem VK (m:Nat):∀n,HO BF (FC (sh m n)):=au ae T15.right (fun k=>[FC k,F7 (sw m m)]) (fun k h=>(aH h (aH (VC m m) aB))) fun k a=>by kernel_rfl
def t124 (m:Nat):Int × Int × Bool × List Int->Option (List Un):=fun(a0,a1,a2,a3)=>
 chk (decide ((a0.toNat:Int).toNat+(a1.toNat:Int).toNat<=a3.length))<|
 bd ((rdN (a0.toNat:Int) (a1.toNat:Int) a2 a3):RdR) fun r1=>
 chk (decide ((r1.o.toNat:Int).toNat+(r1.n.toNat:Int).toNat<=r1.l.length))<|
 bd ((rdN (r1.o.toNat:Int) (r1.n.toNat:Int) r1.bad r1.l):RdR) fun r2=>
 chk (decide ((r2.o.toNat:Int).toNat+(r2.n.toNat:Int).toNat<=r2.l.length))<|
 bd ((rdN (r2.o.toNat:Int) (r2.n.toNat:Int) r2.bad r2.l):RdR) fun r3=>
 chk (decide ((r3.o.toNat:Int).toNat+(r3.n.toNat:Int).toNat<=r3.l.length))<|
 bd ((rdN (r3.o.toNat:Int) (r3.n.toNat:Int) r3.bad r3.l):RdR) fun r4=>
 chk (decide ((r4.o.toNat:Int).toNat+(r4.n.toNat:Int).toNat<=r4.l.length))<|
 bd ((rdN (r4.o.toNat:Int) (r4.n.toNat:Int) r4.bad r4.l):RdR) fun r5=>
 chk (decide ((r5.o.toNat:Int).toNat+(r5.n.toNat:Int).toNat<=r5.l.length))<|
 bd ((rdN (r5.o.toNat:Int) (r5.n.toNat:Int) r5.bad r5.l):RdR) fun r6=>
 chk (decide ((r6.o.toNat:Int).toNat+(r6.n.toNat:Int).toNat<=r6.l.length))<|
 bd ((rdN (r6.o.toNat:Int) (r6.n.toNat:Int) r6.bad r6.l):RdR) fun r7=>
 chk (decide ((r7.o.toNat:Int).toNat+(r7.n.toNat:Int).toNat<=r7.l.length))<|
 bd ((rdN (r7.o.toNat:Int) (r7.n.toNat:Int) r7.bad r7.l):RdR) fun r8=>
 chk (decide ((r8.o.toNat:Int).toNat+(r8.n.toNat:Int).toNat<=r8.l.length))<|
 bd ((rdN (r8.o.toNat:Int) (r8.n.toNat:Int) r8.bad r8.l):RdR) fun r9=>
 chk (decide ((r9.o.toNat:Int).toNat+(r9.n.toNat:Int).toNat<=r9.l.length))<|
 bd ((rdN (r9.o.toNat:Int) (r9.n.toNat:Int) r9.bad r9.l):RdR) fun r10=>
 chk (decide ((r10.o.toNat:Int).toNat+(r10.n.toNat:Int).toNat<=r10.l.length))<|
 bd ((rdN (r10.o.toNat:Int) (r10.n.toNat:Int) r10.bad r10.l):RdR) fun r11=>
 chk (decide ((r11.o.toNat:Int).toNat+(r11.n.toNat:Int).toNat<=r11.l.length))<|
 bd ((rdN (r11.o.toNat:Int) (r11.n.toNat:Int) r11.bad r11.l):RdR) fun r12=>
 chk (decide ((r12.o.toNat:Int).toNat+(r12.n.toNat:Int).toNat<=r12.l.length))<|
 bd ((rdN (r12.o.toNat:Int) (r12.n.toNat:Int) r12.bad r12.l):RdR) fun r13=>
 chk (decide ((r13.o.toNat:Int).toNat+(r13.n.toNat:Int).toNat<=r13.l.length))<|
 bd ((rdM (r13.o.toNat:Int) (r13.n.toNat:Int) r13.bad r13.l 64):RdR) fun r14=>
 sh m m (r14.v,0,(r14.o.toNat:Int),(r14.n.toNat:Int),r14.bad,r14.l,(⟨0,0,0⟩:ao),(⟨0,0,0,0,0,0,0,0,0,0⟩:aq),(⟨r1.v,r2.v,r3.v⟩:ao),(⟨r4.v,r5.v,r6.v,r7.v,r8.v,r9.v,r10.v,r11.v,r12.v,r13.v⟩:aq),[],[],[],[],[],[],[],[],[],[])
theorem Ms (m:Nat) (k3:lx->Option (List Un)) (xa:ao) (xb:aq) (ya:ao) (yb:aq) (z1 z2 z3 z4 z5 p q s0 s1 s2:List Dat):∀(c n k:Nat) (r:RdR) (acc:List Dat),c<n->k+c<=16->acc.length<=k->RdI r->
 oC m k3 n (0,0,((k+c:Nat):Int),(k:Int),r.o,r.n,r.bad,r.l,xa,xb,ya,yb,z1,z2,z3,z4,z5,p,q,acc,s1,s2)=k3 (1,(ct c r).2.o,(ct c r).2.n,(ct c r).2.bad,(ct c r).2.l,xa,xb,ya,yb,z1,z2,z3,z4,z5,p,q,(acc++(ct c r).1),s1,s2):=by
 intro c
 induction c with
 |zero=>
  intro n k r acc hn hk ha hr;obtain⟨n,rfl⟩:=ak n (by omega);rw[iA];unfold lS;dsimp only;rw[az (by omega),hr.1,hr.2.1];rw[show w64 ((0:Int)+1)=1 by decide];simp[ct]
 |succ c ih=>
  intro n k r acc hn hk ha hr;obtain⟨n,rfl⟩:=ak n (by omega);rw[iA];unfold lS;dsimp only;have h1:=bD hr;have h2:=bD h1;rw[aQ (by omega)];dsimp only[bd];rw[hr.1,hr.2.1];refine av (zaa hr.2.2) ?_
  rw[show rdN r.o r.n r.bad r.l=nx r from rfl,h1.1,h1.2.1];refine gv rfl (av (zaa h1.2.2) ?_);rw[show rdN (nx r).o (nx r).n (nx r).bad (nx r).l=nx (nx r) from rfl];rw[bL (by omega) (by omega)];refine(gv rfl ?_);have:=ih n (k+1) (nx (nx r)) (acc++[.r [.n (nx r).v,.n (nx (nx r)).v]]) (by omega) (by omega) (by simp;omega) h2;have e:w64 ((k:Int)+1)=((k+1:Nat):Int):=by rw[ab (by omega) (by omega)];simp
  rw[e,h2.1,h2.2.1,show k+(c+1)=k+1+c by omega];simp only[ct];rw[show acc++(Dat.r [.n (nx r).v,.n (nx (nx r)).v]::(ct c (nx (nx r))).1)=acc++[Dat.r [.n (nx r).v,.n (nx (nx r)).v]]++(ct c (nx (nx r))).1 by simp];exact this
theorem LV (m:Nat) (k3:lx->Option (List Un)) (xa:ao) (xb:aq) (ya:ao) (yb:aq) (z1 z2 z3 z4 z5 p q s0 s1 s2:List Dat):∀(c n k:Nat) (r:RdR) (acc:List Dat),c<n->k+c<=16->acc.length<=k->RdI r->
 oC m k3 n (1,1,((k+c:Nat):Int),(k:Int),r.o,r.n,r.bad,r.l,xa,xb,ya,yb,z1,z2,z3,z4,z5,p,q,s0,acc,s2)=k3 (2,(ct c r).2.o,(ct c r).2.n,(ct c r).2.bad,(ct c r).2.l,xa,xb,ya,yb,z1,z2,z3,z4,z5,p,q,s0,(acc++(ct c r).1),s2):=by
 intro c
 induction c with
 |zero=>
  intro n k r acc hn hk ha hr;obtain⟨n,rfl⟩:=ak n (by omega);rw[iA];unfold lS;dsimp only;rw[az (by omega),hr.1,hr.2.1];rw[show w64 ((1:Int)+1)=2 by decide];simp[ct]
 |succ c ih=>
  intro n k r acc hn hk ha hr;obtain⟨n,rfl⟩:=ak n (by omega);rw[iA];unfold lS;dsimp only;have h1:=bD hr;have h2:=bD h1;rw[aQ (by omega)];dsimp only[bd];rw[hr.1,hr.2.1];refine av (zaa hr.2.2) ?_
  rw[show rdN r.o r.n r.bad r.l=nx r from rfl,h1.1,h1.2.1];refine dV rfl (gv rfl (av (zaa h1.2.2) ?_));rw[show rdN (nx r).o (nx r).n (nx r).bad (nx r).l=nx (nx r) from rfl];rw[bL (by omega) (by omega)];refine(dV rfl (gv rfl ?_));have:=ih n (k+1) (nx (nx r)) (acc++[.r [.n (nx r).v,.n (nx (nx r)).v]]) (by omega) (by omega) (by simp;omega) h2;have e:w64 ((k:Int)+1)=((k+1:Nat):Int):=by rw[ab (by omega) (by omega)];simp
  rw[e,h2.1,h2.2.1,show k+(c+1)=k+1+c by omega];simp only[ct];rw[show acc++(Dat.r [.n (nx r).v,.n (nx (nx r)).v]::(ct c (nx (nx r))).1)=acc++[Dat.r [.n (nx r).v,.n (nx (nx r)).v]]++(ct c (nx (nx r))).1 by simp];exact this
theorem Nd (m:Nat) (k3:lx->Option (List Un)) (xa:ao) (xb:aq) (ya:ao) (yb:aq) (z1 z2 z3 z4 z5 p q s0 s1 s2:List Dat):∀(c n k:Nat) (r:RdR) (acc:List Dat),c<n->k+c<=16->acc.length<=k->RdI r->
 oC m k3 n (2,2,((k+c:Nat):Int),(k:Int),r.o,r.n,r.bad,r.l,xa,xb,ya,yb,z1,z2,z3,z4,z5,p,q,s0,s1,acc)=k3 (3,(ct c r).2.o,(ct c r).2.n,(ct c r).2.bad,(ct c r).2.l,xa,xb,ya,yb,z1,z2,z3,z4,z5,p,q,s0,s1,(acc++(ct c r).1)):=by
 intro c
 induction c with
 |zero=>
  intro n k r acc hn hk ha hr;obtain⟨n,rfl⟩:=ak n (by omega);rw[iA];unfold lS;dsimp only;rw[az (by omega),hr.1,hr.2.1];rw[show w64 ((2:Int)+1)=3 by decide];simp[ct]
 |succ c ih=>
  intro n k r acc hn hk ha hr;obtain⟨n,rfl⟩:=ak n (by omega);rw[iA];unfold lS;dsimp only;have h1:=bD hr;have h2:=bD h1;rw[aQ (by omega)];dsimp only[bd];rw[hr.1,hr.2.1];refine av (zaa hr.2.2) ?_
  rw[show rdN r.o r.n r.bad r.l=nx r from rfl,h1.1,h1.2.1];refine dV rfl (dV rfl (gv rfl (av (zaa h1.2.2) ?_)));rw[show rdN (nx r).o (nx r).n (nx r).bad (nx r).l=nx (nx r) from rfl];rw[bL (by omega) (by omega)];refine(dV rfl (dV rfl (gv rfl ?_)));have:=ih n (k+1) (nx (nx r)) (acc++[.r [.n (nx r).v,.n (nx (nx r)).v]]) (by omega) (by omega) (by simp;omega) h2;have e:w64 ((k:Int)+1)=((k+1:Nat):Int):=by rw[ab (by omega) (by omega)];simp
  rw[e,h2.1,h2.2.1,show k+(c+1)=k+1+c by omega];simp only[ct];rw[show acc++(Dat.r [.n (nx r).v,.n (nx (nx r)).v]::(ct c (nx (nx r))).1)=acc++[Dat.r [.n (nx r).v,.n (nx (nx r)).v]]++(ct c (nx (nx r))).1 by simp];exact this
theorem Vk (m:Nat) (hm:100<m) (xa:ao) (xb:aq) (ya:ao) (yb:aq) (z1 z2 z3 z4 z5 p q:List Dat) (r:RdR) (hr:RdI r) (n:Nat):
 kW m (n+4) (0,r.o,r.n,r.bad,r.l,xa,xb,ya,yb,z1,z2,z3,z4,z5,p,q,[],[],[])=some (Uns.enc ya++Uns.enc yb++[.i (dL (dL (dL r 16).2 16).2 16).2.o,.i (dL (dL (dL r 16).2 16).2 16).2.n,.b (dL (dL (dL r 16).2 16).2 16).2.bad,.l (dL (dL (dL r 16).2 16).2 16).2.l,.d p,.d q,.d (dL r 16).1,.d (dL (dL r 16).2 16).1,.d (dL (dL (dL r 16).2 16).2 16).1]):=by
 have i0:=lV (most:=16) hr;have i1:=lV (most:=16) i0;have i2:=lV (most:=16) i1;have go:∀(r:RdR),RdI r->∀{β:Type} (f:RdR->Option β),(chk (decide ((r.o.toNat:Int).toNat+(r.n.toNat:Int).toNat<=r.l.length))<|bd (rdM (r.o.toNat:Int) (r.n.toNat:Int) r.bad r.l 16) f)=f (mx r 16):=fun r h β f=>by
  rw[h.1,h.2.1];exact av (zaa h.2.2) rfl
 rw[lO];unfold pw;dsimp only;refine gv rfl ((go r hr _).trans ?_);have v0:=J4 (r:=r) (most:=16) (by decide);have m0:=tE (most:=16) hr;have e0:=Ms m (kW m (n+3)) xa xb ya yb z1 z2 z3 z4 z5 p q [] [] [] (mx r 16).v.toNat m 0 (mx r 16) [] (by omega) (by omega) (by simp) m0;rw[show(((0+(mx r 16).v.toNat:Nat)):Int)=(mx r 16).v by omega,zat]at e0;rw[m0.1,m0.2.1];refine e0.trans ?_
 rw[show(ct (mx r 16).v.toNat (mx r 16))=dL r 16 from rfl];generalize dL r 16=u at*
 rw[lO];unfold pw;dsimp only;refine gv rfl ((go u.2 i0 _).trans ?_);have v1:=J4 (r:=u.2) (most:=16) (by decide);have m1:=tE (most:=16) i0;have e1:=LV m (kW m (n+2)) xa xb ya yb z1 z2 z3 z4 z5 p q u.1 [] [] (mx u.2 16).v.toNat m 0 (mx u.2 16) [] (by omega) (by omega) (by simp) m1;rw[show(((0+(mx u.2 16).v.toNat:Nat)):Int)=(mx u.2 16).v by omega,zat]at e1;rw[m1.1,m1.2.1];refine e1.trans ?_
 rw[show(ct (mx u.2 16).v.toNat (mx u.2 16))=dL u.2 16 from rfl];generalize dL u.2 16=v at*
 rw[lO];unfold pw;dsimp only;refine gv rfl ((go v.2 i1 _).trans ?_);have v2:=J4 (r:=v.2) (most:=16) (by decide);have m2:=tE (most:=16) i1;have e2:=Nd m (kW m (n+1)) xa xb ya yb z1 z2 z3 z4 z5 p q u.1 v.1 [] (mx v.2 16).v.toNat m 0 (mx v.2 16) [] (by omega) (by omega) (by simp) m2;rw[show(((0+(mx v.2 16).v.toNat:Nat)):Int)=(mx v.2 16).v by omega,zat]at e2;rw[m2.1,m2.2.1];refine e2.trans ?_
 rw[show(ct (mx v.2 16).v.toNat (mx v.2 16))=dL v.2 16 from rfl];generalize dL v.2 16=w at*
 rw[lO];unfold pw;dsimp only;refine dV rfl ?_
 rw[i2.1,i2.2.1]
theorem WS (m:Nat) (hm:100<m) (xa:ao) (xb:aq) (ya:ao) (yb:aq) (z1 z2 z3 z4 z5 p:List Dat):∀(c n k:Nat) (r:RdR) (acc:List Dat),c<n->k+c<=64->acc.length<=k->RdI r->
 sw m n (((k+c:Nat):Int),(k:Int),r.o,r.n,r.bad,r.l,xa,xb,ya,yb,z1,z2,z3,z4,z5,p,acc,[],[],[])=kW m m (0,(eJ c r).2.o,(eJ c r).2.n,(eJ c r).2.bad,(eJ c r).2.l,xa,xb,ya,yb,z1,z2,z3,z4,z5,p,acc++(eJ c r).1,[],[],[]):=by
 intro c
 induction c with
 |zero=>
  intro n k r acc hn hk ha hr;obtain⟨n,rfl⟩:=ak n (by omega);rw[uj];unfold vX;dsimp only;rw[az (by omega),hr.1,hr.2.1];simp[eJ]
 |succ c ih=>
  intro n k r acc hn hk ha hr;obtain⟨n,rfl⟩:=ak n (by omega);rw[uj];unfold vX;dsimp only;have h1:=bD hr;have h2:=bD h1;have h3:=bD h2;rw[aQ (by omega)];dsimp only[bd];rw[hr.1,hr.2.1];refine av (zaa hr.2.2) ?_
  rw[show rdN r.o r.n r.bad r.l=nx r from rfl,h1.1,h1.2.1];refine av (zaa h1.2.2) ?_
  rw[show rdN (nx r).o (nx r).n (nx r).bad (nx r).l=nx (nx r) from rfl,h2.1,h2.2.1];refine av (zaa h2.2.2) ?_
  rw[show rdN (nx (nx r)).o (nx (nx r)).n (nx (nx r)).bad (nx (nx r)).l=nx (nx (nx r)) from rfl,h3.1,h3.2.1];rw[bL (by omega) (by omega)];have:=ih n (k+1) (nx (nx (nx r))) (acc++[.r [.n (nx r).v,.n (nx (nx r)).v,.n (nx (nx (nx r))).v]]) (by omega) (by omega) (by simp;omega) h3;have e:w64 ((k:Int)+1)=((k+1:Nat):Int):=by rw[ab (by omega) (by omega)];simp
  rw[e,show k+(c+1)=k+1+c by omega];simp only[eJ];rw[show acc++(Dat.r [.n (nx r).v,.n (nx (nx r)).v,.n (nx (nx (nx r))).v]::(eJ c (nx (nx (nx r)))).1)=acc++[Dat.r [.n (nx r).v,.n (nx (nx r)).v,.n (nx (nx (nx r))).v]]++(eJ c (nx (nx (nx r)))).1 by simp];exact this
theorem TS (m:Nat) (hm:100<m) (xa:ao) (xb:aq) (ya:ao) (yb:aq) (z1 z2 z3 z4 z5:List Dat):∀(c n k:Nat) (r:RdR) (acc:List Dat),c<n->k+c<=64->acc.length<=k->RdI r->
 sh m n (((k+c:Nat):Int),(k:Int),r.o,r.n,r.bad,r.l,xa,xb,ya,yb,z1,z2,z3,z4,z5,acc,[],[],[],[])=kW m m (0,(rN (ct c r).2 8).2.o,(rN (ct c r).2 8).2.n,(rN (ct c r).2 8).2.bad,(rN (ct c r).2 8).2.l,xa,xb,ya,yb,z1,z2,z3,z4,z5,acc++(ct c r).1,(rN (ct c r).2 8).1,[],[],[]):=by
 intro c
 induction c with
 |zero=>
  intro n k r acc hn hk ha hr;obtain⟨n,rfl⟩:=ak n (by omega);rw[vl];unfold wQ;dsimp only;rw[az (by omega),hr.1,hr.2.1];dsimp only[bd];refine av (zaa hr.2.2) ?_
  have m0:=tE (most:=8) hr;rw[show rdM r.o r.n r.bad r.l 8=mx r 8 from rfl,m0.1,m0.2.1];have v0:=J4 (r:=r) (most:=8) (by decide);have:=WS m hm xa xb ya yb z1 z2 z3 z4 z5 acc (mx r 8).v.toNat m 0 (mx r 8) [] (by omega) (by omega) (by simp) m0;rw[show(((0+(mx r 8).v.toNat:Nat)):Int)=(mx r 8).v by omega,zat]at this;simp only[ct,zaK];exact this
 |succ c ih=>
  intro n k r acc hn hk ha hr;obtain⟨n,rfl⟩:=ak n (by omega);rw[vl];unfold wQ;dsimp only;have h1:=bD hr;have h2:=bD h1;rw[aQ (by omega)];dsimp only[bd];rw[hr.1,hr.2.1];refine av (zaa hr.2.2) ?_
  rw[show rdN r.o r.n r.bad r.l=nx r from rfl,h1.1,h1.2.1];refine av (zaa h1.2.2) ?_
  rw[show rdN (nx r).o (nx r).n (nx r).bad (nx r).l=nx (nx r) from rfl,h2.1,h2.2.1];rw[bL (by omega) (by omega)];have:=ih n (k+1) (nx (nx r)) (acc++[.r [.n (nx r).v,.n (nx (nx r)).v]]) (by omega) (by omega) (by simp;omega) h2;have e:w64 ((k:Int)+1)=((k+1:Nat):Int):=by rw[ab (by omega) (by omega)];simp
  rw[e,show k+(c+1)=k+1+c by omega];simp only[ct];rw[show acc++(Dat.r [.n (nx r).v,.n (nx (nx r)).v]::(ct c (nx (nx r))).1)=acc++[Dat.r [.n (nx r).v,.n (nx (nx r)).v]]++(ct c (nx (nx r))).1 by simp];exact this
def f124:Int × Int × Bool × List Int->Bool × List Un:=fun(a0,a1,a2,a3)=>(decide (a0.toNat+a1.toNat<=a3.length),Uns.enc (((cg a0 a1 a2 a3).d.a):ao)++Uns.enc (((cg a0 a1 a2 a3).d.b):aq)++[.i ((cg a0 a1 a2 a3).r.o),.i ((cg a0 a1 a2 a3).r.n),.b ((cg a0 a1 a2 a3).r.bad),.l ((cg a0 a1 a2 a3).r.l),.d ((cg a0 a1 a2 a3).d.aK),.d ((cg a0 a1 a2 a3).d.notes),.d ((cg a0 a1 a2 a3).d.s0),.d ((cg a0 a1 a2 a3).d.s1),.d ((cg a0 a1 a2 a3).d.s2)])
set_option maxHeartbeats 4000000 in
theorem SN (a0:Int) (a1:Int) (a2:Bool) (a3:List Int) (hc:(decide (a0.toNat+a1.toNat<=a3.length))=true):∃m,t124 m (a0,a1,a2,a3)=some (Uns.enc (((cg a0 a1 a2 a3).d.a):ao)++Uns.enc (((cg a0 a1 a2 a3).d.b):aq)++[.i ((cg a0 a1 a2 a3).r.o),.i ((cg a0 a1 a2 a3).r.n),.b ((cg a0 a1 a2 a3).r.bad),.l ((cg a0 a1 a2 a3).r.l),.d ((cg a0 a1 a2 a3).d.aK),.d ((cg a0 a1 a2 a3).d.notes),.d ((cg a0 a1 a2 a3).d.s0),.d ((cg a0 a1 a2 a3).d.s1),.d ((cg a0 a1 a2 a3).d.s2)]):=by
 have hl:=zaj hc;refine⟨200, ?_⟩;unfold t124 cg Dh
 try dsimp only
 have i1:RdI (rdN a0 a1 a2 a3):=(Ee hl).1;refine av (zaa hl) ?_
 rw[show bd (rdN (a0.toNat:Int) (a1.toNat:Int) a2 a3)=bd (rdN a0 a1 a2 a3) from rfl];have e1:∀{β:Type} (f:RdR->Option β),bd (rdN a0 a1 a2 a3) f=f (rdN a0 a1 a2 a3):=fun f=>rfl
 rw[e1];generalize rdN a0 a1 a2 a3=r1 at*
 have i2:=bD i1;have i3:=bD i2;have i4:=bD i3;have i5:=bD i4;have i6:=bD i5;have i7:=bD i6;have i8:=bD i7;have i9:=bD i8;have i10:=bD i9;have i11:=bD i10;have i12:=bD i11;have i13:=bD i12;rw[eX i1,eX i2,eX i3,eX i4,eX i5,eX i6,eX i7,eX i8,eX i9,eX i10,eX i11,eX i12];rw[i13.1,i13.2.1];refine av (zaa i13.2.2) ?_
 dsimp only[bd];generalize nx (nx (nx (nx (nx (nx (nx (nx (nx (nx (nx (nx r1)))))))))))=r13 at*
 have m0:=tE (most:=64) i13;rw[show rdM r13.o r13.n r13.bad r13.l 64=mx r13 64 from rfl,m0.1,m0.2.1];have v0:=J4 (r:=r13) (most:=64) (by decide);have:=TS 200 (by decide) (⟨0,0,0⟩:ao) (⟨0,0,0,0,0,0,0,0,0,0⟩:aq) (⟨r1.v,(nx r1).v,(nx (nx r1)).v⟩:ao) (⟨(nx (nx (nx r1))).v,(nx (nx (nx (nx r1)))).v,(nx (nx (nx (nx (nx r1))))).v,(nx (nx (nx (nx (nx (nx r1)))))).v,(nx (nx (nx (nx (nx (nx (nx r1))))))).v,(nx (nx (nx (nx (nx (nx (nx (nx r1)))))))).v,(nx (nx (nx (nx (nx (nx (nx (nx (nx r1))))))))).v,(nx (nx (nx (nx (nx (nx (nx (nx (nx (nx r1)))))))))).v,(nx (nx (nx (nx (nx (nx (nx (nx (nx (nx (nx r1))))))))))).v,r13.v⟩:aq) [] [] [] [] [] (mx r13 64).v.toNat 200 0 (mx r13 64) [] (by omega) (by omega) (by simp) m0;rw[show(((0+(mx r13 64).v.toNat:Nat)):Int)=(mx r13 64).v by omega,zat]at this;refine this.trans ?_
 rw[show ct (mx r13 64).v.toNat (mx r13 64)=dL r13 64 from rfl];exact Vk 200 (by decide) _ _ _ _ _ _ _ _ _ _ _ _ (Jp (lV i13)) 196
theorem ED:ER 124 (mkE BF.en BF.ex f124):=an ae T15.right (fun m=>[FC (sh m m)]) (t:=t124) (by kernel_rfl) (fun m=>(aH (VK m m) aB)) (fun m a=>by kernel_rfl) fun(a0,a1,a2,a3) hc=>SN a0 a1 a2 a3 hc
def aah:Tb Tryz.prog LQ TE XX:=T15.add 124 _ ED
def Y8:Fl->List Un:=fun r=>Uns.enc (r.d.a:ao)++Uns.enc (r.d.b:aq)++[.i r.r.o,.i r.r.n,.b r.r.bad,.l r.r.l,.d r.d.aK,.d r.d.notes,.d r.d.s0,.d r.d.s1,.d r.d.s2]
def Y6:Int × Int × Bool × List Int->Bool × Fl:=fun(a0,a1,a2,a3)=>(decide (a0.toNat+a1.toNat<=a3.length),(cg a0 a1 a2 a3))
theorem Ka:ER 124 (mkB BF.en BF.ex Y6 Y8):=rebind ED fun(a0,a1,a2,a3)=>rfl
def KV:Tb Tryz.prog LQ TE XX:=aah.add 124 _ Ka
structure DdR where
 e:Int
 d:bc
def Gk:bc:=⟨⟨0,0,0⟩,[],[],⟨0,0,0,0,0,0,0,0,0,0⟩,[],[],[]⟩
def ddV (l:List Int):DdR:=
 bif !(!(cg 0 (l.length:Int) false l).r.bad&&(cg 0 (l.length:Int) false l).r.n==0)then⟨1,Gk⟩
 else bif !(bW (cg 0 (l.length:Int) false l).d).isSome then⟨2,Gk⟩else⟨0,(cg 0 (l.length:Int) false l).d⟩
def cG (b:List Int):DdR:=bif !(b.length%8==0)then⟨1,Gk⟩else ddV (bT b)
theorem Np {o n:Int} {b:Bool} {l:List Int} (h:o.toNat+n.toNat<=l.length):RdI (cg o n b l).r:=by
 have i1:RdI (rdN o n b l):=(Ee h).1;exact lV (lV (lV (Jp (lV (bD (bD (bD (bD (bD (bD (bD (bD (bD (bD (bD (bD i1))))))))))))))))
def N91:aC:=⟨KV.tab,91,⟨[.ints .u8],[],0⟩,⟨[.agg [.int .i64,.int .i64,.int .i64,.buf 0 2,.buf 1 3,.int .i64,.int .i64,.int .i64,.int .i64,.int .i64,.int .i64,.int .i64,.int .i64,.int .i64,.int .i64,.buf 2 2,.buf 3 2,.buf 4 2],.int .i64],[.af (sI 2),.af (sI 3),.af (sI 2),.af (sI 2),.af (sI 2)],0⟩,[]⟩
def t91 (m:Nat):List Int->Option (List Un):=fun a0=>
 chk (decide (a0.length<=140737488351232))<|
 bif !(a0.length%8==0)then
 some (Uns.enc ((⟨0,0,0⟩:ao):ao)++Uns.enc ((⟨0,0,0,0,0,0,0,0,0,0⟩:aq):aq)++[.i 1,.d ([]),.d ([]),.d ([]),.d ([]),.d ([])])
 else
 chk (decide ((eV a0).length<1000000))<|
 lt (((eV a0).length:Int):Int) fun x1=>
 chk (decide ((0:Int).toNat+(x1.toNat:Int).toNat<=(eV a0).length))<|
 bd ((cg 0 (x1.toNat:Int) false (eV a0)):Fl) fun r2=>
 bif !(!r2.r.bad&&((r2.r.n.toNat:Int).toNat:Int)==0)then
 some (Uns.enc ((⟨0,0,0⟩:ao):ao)++Uns.enc ((⟨0,0,0,0,0,0,0,0,0,0⟩:aq):aq)++[.i 1,.d ([]),.d ([]),.d ([]),.d ([]),.d ([])])
 else
 bif !((bW r2.d).isSome)then
 some (Uns.enc ((⟨0,0,0⟩:ao):ao)++Uns.enc ((⟨0,0,0,0,0,0,0,0,0,0⟩:aq):aq)++[.i 2,.d ([]),.d ([]),.d ([]),.d ([]),.d ([])])
 else
 some (Uns.enc (r2.d.a:ao)++Uns.enc (r2.d.b:aq)++[.i 0,.d r2.d.aK,.d r2.d.notes,.d r2.d.s0,.d r2.d.s1,.d r2.d.s2])
def f91:List Int->Bool × List Un:=fun a0=>(decide (a0.length<=1000000),Uns.enc (((cG a0).d.a):ao)++Uns.enc (((cG a0).d.b):aq)++[.i ((cG a0).e),.d ((cG a0).d.aK),.d ((cG a0).d.notes),.d ((cG a0).d.s0),.d ((cG a0).d.s1),.d ((cG a0).d.s2)])
theorem TY (a0:List Int) (hc:(decide (a0.length<=1000000))=true):∃m,t91 m a0=some (Uns.enc (((cG a0).d.a):ao)++Uns.enc (((cG a0).d.b):aq)++[.i ((cG a0).e),.d ((cG a0).d.aK),.d ((cG a0).d.notes),.d ((cG a0).d.s0),.d ((cG a0).d.s1),.d ((cG a0).d.s2)]):=by
 have hl:=zaj hc;refine⟨0, ?_⟩;unfold t91 cG
 try dsimp only
 refine av (zaa (by omega)) ?_
 cases h8:(a0.length%8==0)with
 |false=>rfl
 |true=>
  have e:eV a0=bT a0:=by unfold eV;rw[h8];rfl
  rw[e];have hw:=pN a0;refine dV rfl (av (zaa (by omega)) ?_);dsimp only[lt,bd];refine av (zaa (by simp)) ?_
  rw[show(((bT a0).length:Int).toNat:Int)=((bT a0).length:Int) from rfl];have hI:=Np (o:=0) (n:=((bT a0).length:Int)) (b:=false) (l:=bT a0) (by simp);unfold ddV
  try dsimp only[Bool.not_true,cond_false]
  generalize cg 0 ((bT a0).length:Int) false (bT a0)=r at*
  rw[hI.2.1,hI.2.1];cases (!r.r.bad&&r.r.n==0)
  case false=>rfl
  cases (bW r.d).isSome<;>rfl
theorem Qo:ER 91 (mkE N91.en N91.ex f91):=an ae KV.right (fun m=>[]) (t:=t91) (by kernel_rfl) (fun m=>aB) (fun m a=>by kernel_rfl) fun a0 hc=>TY a0 hc
def T91:Tb Tryz.prog LQ TE XX:=KV.add 91 _ Qo
def kA (p:Int) (l:List Dat):Bool:=decide (1<=p/\p<=600)&&mA l
def N56:aC:=⟨T91.tab,56,⟨[.int .i64,.af (sB 6)],[],0⟩,⟨[.bool],[],0⟩,[]⟩
def t56 (m:Nat):Int × List Dat->Option (List Un):=fun(a0,a1)=>
 bif decide (a0>=1)then
 bif decide (a0<=600)then
 some ([.b (mA a1)])
 else
 some ([.b false])
 else
 some ([.b false])
def f56:Int × List Dat->Bool × List Un:=fun(a0,a1)=>(true,[.b (kA a0 a1)])
theorem Ud (a0:Int) (a1:List Dat):∃m,t56 m (a0,a1)=some ([.b (kA a0 a1)]):=by
 refine⟨0, ?_⟩;unfold t56 kA
 try dsimp only
 by_cases h1:a0>=1
 . by_cases h2:a0<=600
   . rw[aQ h1,aQ h2,zaa ⟨h1,h2⟩];rfl
   . rw[aQ h1,az h2,zap (fun h=>h2 h.2)];rfl
 . rw[az h1,zap (fun h=>h1 h.1)];rfl
theorem PQ:ER 56 (mkE N56.en N56.ex f56):=an ae T91.right (fun m=>[]) (t:=t56) (by kernel_rfl) (fun m=>aB) (fun m a=>by kernel_rfl) fun(a0,a1) hc=>Ud a0 a1
def T56:Tb Tryz.prog LQ TE XX:=T91.add 56 _ PQ
def my (d:Dat):List Int:=[d.i 0,d.i 1,d.i 2,d.i 3,d.i 4,d.i 5,bI (d.b 6)]
def gR (p:Int) (l:List Dat):List Int:=p::(l.length:Int)::l.flatMap my
def ft (p:Int) (l:List Dat):List Int:=bif kA p l then cF (gR p l)else[]
theorem pE {p:Int} {l:List Dat} (h:kA p l=true):(1<=p/\p<=600)/\l.length<=64:=by
 simp only[kA,mA,zae,zaf]at h;omega
def N18:aC:=⟨T56.tab,18,⟨[.int .i64,.af (sB 6)],[],0⟩,⟨[.buf 0 1],[.ints .u8],0⟩,[]⟩
abbrev IZ:Type:=List Dat × Int × Int × List Int
def CB (m:Nat) (k:IZ->Option (List Un)):IZ->Option (List Un):=fun(a0,a1,a2,a3)=>
 bif decide (a2<a1)then
 chk (inb a2 a0.length)<|
 chk (decide (a2.toNat<a0.length))<|
 lt (ag a0 a2.toNat:Dat) fun d1=>
 bif (d1.b 6)then
 chk (fits (a3.length+7) 8)<|
 k (a0,a1,(w64 (a2+1)),(a3++([(d1.i 0),(d1.i 1),(d1.i 2),(d1.i 3),(d1.i 4),(d1.i 5),1])))
 else
 chk (fits (a3.length+7) 8)<|
 k (a0,a1,(w64 (a2+1)),(a3++([(d1.i 0),(d1.i 1),(d1.i 2),(d1.i 3),(d1.i 4),(d1.i 5),0])))
 else
 chk (decide (a3.length<=1000000))<|
 some ([.l (cF a3)])
def Ag (m:Nat):Nat->IZ->Option (List Un):=bq (CB m)
theorem zw (m:Nat) (n:Nat):Ag m (n+1)=CB m (Ag m n):=rfl
def KP (F:IZ->Option (List Un)):aU:=⟨[.lp [0,1,0,1,1,1],.blk 0,.code [1,1,1,1]],⟨frm 44 [(5,.buf 0 1),(17,.af (sB 6)),(18,.int .i64),(19,.int .i64)],[.ints .i64],0⟩,onU F⟩
theorem W8 (m:Nat):∀n,HO N18 (KP (Ag m n)):=au ae T56.right (fun k=>[KP k]) (fun k h=>(aH h aB)) fun k a=>by kernel_rfl
def t18 (m:Nat):Int × List Dat->Option (List Un):=fun(a0,a1)=>
 bif !(kA a0 a1)then
 some ([.l ([])])
 else
 Ag m m (a1,(a1.length:Int),0,([a0,(a1.length:Int)]:List Int))
theorem U7 (m:Nat):∀(rest pre:List Dat) (n:Nat) (acc:List Int),rest.length<n->(pre++rest).length<=1000->acc.length+7*rest.length<=100000->Ag m n (pre++rest,((pre++rest).length:Int),(pre.length:Int),acc)=some [.l (cF (acc++rest.flatMap my))]:=by
 intro rest
 induction rest with
 |nil=>
  intro pre n acc hn hl ha;obtain⟨n,rfl⟩:=ak n (by simp at hn;omega);simp only[zar]at ha;rw[zw];unfold CB;dsimp only;rw[az (by simp)];refine av (zaa (by omega)) ?_
  simp
 |cons x rest ih=>
  intro pre n acc hn hl ha;obtain⟨n,rfl⟩:=ak n (by simp at hn;omega);simp only[zac]at hn ha;have:=ih (pre++[x]) n (acc++my x) (by omega) (by simpa using hl) (by simp[my];omega);simp only[zab,zac]at hl;rw[zw];unfold CB;dsimp only;rw[aQ (by simp only[zab,zac];omega),cJ (by omega) (by simp only[zab,zac];omega),aP (by simp),ab (n:=(pre.length:Int)+1) (by omega) (by omega)];simp only[lt_eq,zay,aD];have e:∀k,acc++[x.i 0,x.i 1,x.i 2,x.i 3,x.i 4,x.i 5,k]=acc++([x.i 0,x.i 1,x.i 2,x.i 3,x.i 4,x.i 5]++[k]):=fun k=>rfl
  rw[bL (by omega) (by omega),bL (by omega) (by omega)];have e7:my x=[x.i 0,x.i 1,x.i 2,x.i 3,x.i 4,x.i 5,bI (x.b 6)]:=rfl;simp only[zaZ,zaq,zaI,zat,zab,zac,zar,zaC,e7]at this⊢;cases h6:x.b 6
  . rw[h6]at this;exact this
  . rw[h6]at this;exact this
def f18:Int × List Dat->Bool × List Un:=fun(a0,a1)=>(true,[.l (ft a0 a1)])
theorem VM (a0:Int) (a1:List Dat):∃m,t18 m (a0,a1)=some ([.l (ft a0 a1)]):=by
 refine⟨100, ?_⟩;unfold t18 ft
 try dsimp only
 cases hB:kA a0 a1 with
 |false=>rfl
 |true=>
  have hl:=(pE hB).2;exact U7 100 a1 [] 100 [a0,(a1.length:Int)] (by omega) (by simp;omega) (by simp;omega)
theorem Pz:ER 18 (mkE N18.en N18.ex f18):=an ae T56.right (fun m=>[KP (Ag m m)]) (t:=t18) (by kernel_rfl) (fun m=>(aH (W8 m m) aB)) (fun m a=>by kernel_rfl) fun(a0,a1) hc=>VM a0 a1
def T18:Tb Tryz.prog LQ TE XX:=T56.add 18 _ Pz
structure TdR where
 p:Int
 e:Int
 l:List Dat
def lN:Nat->RdR->List Dat × RdR
 |0,r=>([],r)
 |k+1,r=>let s:=nx (nx (nx (nx (nx (nx r)))));(.r [.n (nx r).v,.n (nx (nx r)).v,.n (nx (nx (nx r))).v,.n (nx (nx (nx (nx r)))).v,.n (nx (nx (nx (nx (nx r))))).v,.n s.v,.n (bI ((mx s 1).v==1))]::(lN k (mx s 1)).1,(lN k (mx s 1)).2)
def vv (l:List Int):RdR:=rdN 0 (l.length:Int) false l
def yJ (l:List Int):List Dat × RdR:=lN (mx (vv l) 64).v.toNat (mx (vv l) 64)
def Hq (l:List Int):TdR:=
 bif !(!(yJ l).2.bad&&(yJ l).2.n==0)then⟨0,1,[]⟩
 else bif kA (vv l).v (yJ l).1 then⟨(vv l).v,0,(yJ l).1⟩else⟨0,3,[]⟩
def aX (b:List Int):TdR:=bif !(b.length%8==0)then⟨0,1,[]⟩else Hq (bT b)
def N53:aC:=⟨T18.tab,53,⟨[.ints .u8],[],0⟩,⟨[.int .i64,.buf 0 7,.int .i64],[.af (sB 6)],0⟩,[[0,1,0,1,0,0,1,1,0,0,1,0,1,1,1,1,1,1]]⟩
abbrev H4:Type:=Int × Int × Int × Int × Int × Bool × List Dat × List Int
def Bw (m:Nat) (k:H4->Option (List Un)):H4->Option (List Un):=fun(a0,a1,a2,a3,a4,a5,a6,a7)=>
 bif decide (a2<a1)then
 chk (decide ((a3.toNat:Int).toNat+(a4.toNat:Int).toNat<=a7.length))<|
 bd ((rdN (a3.toNat:Int) (a4.toNat:Int) a5 a7):RdR) fun r4=>
 chk (decide ((r4.o.toNat:Int).toNat+(r4.n.toNat:Int).toNat<=r4.l.length))<|
 bd ((rdN (r4.o.toNat:Int) (r4.n.toNat:Int) r4.bad r4.l):RdR) fun r5=>
 chk (decide ((r5.o.toNat:Int).toNat+(r5.n.toNat:Int).toNat<=r5.l.length))<|
 bd ((rdN (r5.o.toNat:Int) (r5.n.toNat:Int) r5.bad r5.l):RdR) fun r6=>
 chk (decide ((r6.o.toNat:Int).toNat+(r6.n.toNat:Int).toNat<=r6.l.length))<|
 bd ((rdN (r6.o.toNat:Int) (r6.n.toNat:Int) r6.bad r6.l):RdR) fun r7=>
 chk (decide ((r7.o.toNat:Int).toNat+(r7.n.toNat:Int).toNat<=r7.l.length))<|
 bd ((rdN (r7.o.toNat:Int) (r7.n.toNat:Int) r7.bad r7.l):RdR) fun r8=>
 chk (decide ((r8.o.toNat:Int).toNat+(r8.n.toNat:Int).toNat<=r8.l.length))<|
 bd ((rdN (r8.o.toNat:Int) (r8.n.toNat:Int) r8.bad r8.l):RdR) fun r9=>
 chk (decide ((r9.o.toNat:Int).toNat+(r9.n.toNat:Int).toNat<=r9.l.length))<|
 bd ((rdM (r9.o.toNat:Int) (r9.n.toNat:Int) r9.bad r9.l 1):RdR) fun r10=>
 chk (fits (a6.length+1) 56)<|
 k (a0,a1,(w64 (a2+1)),(r10.o.toNat:Int),(r10.n.toNat:Int),r10.bad,(a6++([.r [.n r4.v,.n r5.v,.n r6.v,.n r7.v,.n r8.v,.n r9.v,.n (bI (r10.v==1))]])),r10.l)
 else
 bif !(!a5&&((a4.toNat:Int).toNat:Int)==0)then
 some ([.i 0,.i 1,.d ([])])
 else
 bif !(kA a0 a6)then
 some ([.i 0,.i 3,.d ([])])
 else
 some ([.i a0,.i 0,.d a6])
def zZ (m:Nat):Nat->H4->Option (List Un):=bq (Bw m)
theorem zz (m:Nat) (n:Nat):zZ m (n+1)=Bw m (zZ m n):=rfl
def ND (F:H4->Option (List Un)):aU:=⟨[.lp [0,1,0,1,1,1,1,1,1],.blk 0,.code [1,1,1,1,1,1,1]],⟨frm 65 [(7,.ptr 0 0 0),(8,.int .i64),(9,.buf 1 7),(25,.int .i64),(26,.int .i64)],[.cells [.sl 2 1,.bool],.af (sB 6),.ints .i64],0⟩,onU F⟩
theorem YO (m:Nat):∀n,HO N53 (ND (zZ m n)):=au ae T18.right (fun k=>[ND k]) (fun k h=>(aH h aB)) fun k a=>by kernel_rfl
def t53 (m:Nat):List Int->Option (List Un):=fun a0=>
 chk (decide (a0.length<=140737488351232))<|
 bif !(a0.length%8==0)then
 some ([.i 0,.i 1,.d ([])])
 else
 chk (decide ((eV a0).length<1000000))<|
 lt (((eV a0).length:Int):Int) fun x1=>
 chk (decide ((0:Int).toNat+(x1.toNat:Int).toNat<=(eV a0).length))<|
 bd ((rdN 0 (x1.toNat:Int) false (eV a0)):RdR) fun r2=>
 chk (decide ((r2.o.toNat:Int).toNat+(r2.n.toNat:Int).toNat<=r2.l.length))<|
 bd ((rdM (r2.o.toNat:Int) (r2.n.toNat:Int) r2.bad r2.l 64):RdR) fun r3=>
 zZ m m (r2.v,r3.v,0,(r3.o.toNat:Int),(r3.n.toNat:Int),r3.bad,[],r3.l)
theorem aap (m:Nat) (p:Int):∀(c n k:Nat) (r:RdR) (acc:List Dat),c<n->k+c<=64->acc.length<=k->RdI r->
 zZ m n (p,((k+c:Nat):Int),(k:Int),r.o,r.n,r.bad,acc,r.l)=(bif !(!(lN c r).2.bad&&(lN c r).2.n==0)then some [.i 0,.i 1,.d []]else bif kA p (acc++(lN c r).1)then some [.i p,.i 0,.d (acc++(lN c r).1)]else some [.i 0,.i 3,.d []]):=by
 intro c
 induction c with
 |zero=>
  intro n k r acc hn hk ha hr;obtain⟨n,rfl⟩:=ak n (by omega);rw[zz];unfold Bw;dsimp only;rw[az (by omega),hr.2.1,hr.2.1];simp only[lN,zaK];cases (!r.bad&&r.n==0)
  . rfl
  . simp only[zbf,zal];cases kA p acc<;>rfl
 |succ c ih=>
  intro n k r acc hn hk ha hr;obtain⟨n,rfl⟩:=ak n (by omega);rw[zz];unfold Bw;dsimp only;have h1:=bD hr;have h2:=bD h1;have h3:=bD h2;have h4:=bD h3;have h5:=bD h4;have h6:=bD h5;have h7:=tE (most:=1) h6;rw[aQ (by omega)];dsimp only[bd];rw[hr.1,hr.2.1];refine av (zaa hr.2.2) ?_
  rw[show rdN r.o r.n r.bad r.l=nx r from rfl,h1.1,h1.2.1];refine av (zaa h1.2.2) ?_
  rw[show rdN (nx r).o (nx r).n (nx r).bad (nx r).l=nx (nx r) from rfl,h2.1,h2.2.1];refine av (zaa h2.2.2) ?_
  rw[show rdN (nx (nx r)).o (nx (nx r)).n (nx (nx r)).bad (nx (nx r)).l=nx (nx (nx r)) from rfl,h3.1,h3.2.1];refine av (zaa h3.2.2) ?_
  rw[show rdN (nx (nx (nx r))).o (nx (nx (nx r))).n (nx (nx (nx r))).bad (nx (nx (nx r))).l=nx (nx (nx (nx r))) from rfl,h4.1,h4.2.1];refine av (zaa h4.2.2) ?_
  rw[show rdN (nx (nx (nx (nx r)))).o (nx (nx (nx (nx r)))).n (nx (nx (nx (nx r)))).bad (nx (nx (nx (nx r)))).l=nx (nx (nx (nx (nx r)))) from rfl,h5.1,h5.2.1];refine av (zaa h5.2.2) ?_
  rw[show rdN (nx (nx (nx (nx (nx r))))).o (nx (nx (nx (nx (nx r))))).n (nx (nx (nx (nx (nx r))))).bad (nx (nx (nx (nx (nx r))))).l=nx (nx (nx (nx (nx (nx r))))) from rfl,h6.1,h6.2.1];refine av (zaa h6.2.2) ?_
  simp only[lN];generalize nx (nx (nx (nx (nx (nx r)))))=s at*
  rw[show rdM s.o s.n s.bad s.l 1=mx s 1 from rfl,h7.1,h7.2.1,bL (by omega) (by omega)];have e:w64 ((k:Int)+1)=((k+1:Nat):Int):=by rw[ab (by omega) (by omega)];simp
  rw[e,show k+(c+1)=k+1+c by omega,ih n (k+1) (mx s 1) _ (by omega) (by omega) (by simp;omega) h7];simp only[zaq,zaI,zat]
def f53:List Int->Bool × List Un:=fun a0=>(decide (a0.length<=1000000),[.i ((aX a0).p),.i ((aX a0).e),.d ((aX a0).l)])
theorem VH (a0:List Int) (hc:(decide (a0.length<=1000000))=true):∃m,t53 m a0=some ([.i ((aX a0).p),.i ((aX a0).e),.d ((aX a0).l)]):=by
 have hl:=zaj hc;refine⟨100, ?_⟩;unfold t53 aX
 try dsimp only
 refine av (zaa (by omega)) ?_
 cases h8:(a0.length%8==0)with
 |false=>rfl
 |true=>
  have e:eV a0=bT a0:=by unfold eV;rw[h8];rfl
  rw[e];have hw:=pN a0;refine dV rfl (av (zaa (by omega)) ?_);dsimp only[lt,bd];refine av (zaa (by simp)) ?_
  rw[show(((bT a0).length:Int).toNat:Int)=((bT a0).length:Int) from rfl];have i1:RdI (vv (bT a0)):=(Ee (by simp)).1;rw[show rdN 0 ((bT a0).length:Int) false (bT a0)=vv (bT a0) from rfl];unfold Hq yJ
  try dsimp only[Bool.not_true,cond_false]
  generalize vv (bT a0)=r at*
  rw[i1.1,i1.2.1];refine av (zaa i1.2.2) ?_
  have i2:=tE (most:=64) i1;rw[show rdM r.o r.n r.bad r.l 64=mx r 64 from rfl,i2.1,i2.2.1];have v0:=J4 (r:=r) (most:=64) (by decide);have:=aap 100 r.v (mx r 64).v.toNat 100 0 (mx r 64) [] (by omega) (by omega) (by simp) i2;rw[show(((0+(mx r 64).v.toNat:Nat)):Int)=(mx r 64).v by omega,zat]at this;refine this.trans ?_
  cases (!(!(lN (mx r 64).v.toNat (mx r 64)).2.bad&&(lN (mx r 64).v.toNat (mx r 64)).2.n==0))
  . simp only[zal];cases kA r.v (lN (mx r 64).v.toNat (mx r 64)).1<;>rfl
  . rfl
theorem Pk:ER 53 (mkE N53.en N53.ex f53):=an ae T18.right (fun m=>[ND (zZ m m)]) (t:=t53) (by kernel_rfl) (fun m=>(aH (YO m m) aB)) (fun m a=>by kernel_rfl) fun a0 hc=>VH a0 hc
def T53:Tb Tryz.prog LQ TE XX:=T18.add 53 _ Pk
instance : Uns aa := Uns.via (B := ao × aq × ai × List Dat × List Dat × List Dat × List Dat × List Dat × List Dat × List Dat) (fun x => (x.a, x.b, x.n, x.aK, x.notes, x.s0, x.s1, x.s2, x.aJ, x.tr)) (fun x => match x with | (a, b, n, aK, notes, s0, s1, s2, aJ, tr) => ⟨a, b, n, aK, notes, s0, s1, s2, aJ, tr⟩) (fun _ => rfl)
@[ext] structure ay where
 has:Int
 c:eE
 n:bn
 b:List Int
 bg:List Dat
 t:aa
instance : Uns ay := Uns.via (B := Int × eE × bn × List Int × List Dat × aa) (fun x => (x.has, x.c, x.n, x.b, x.bg, x.t)) (fun x => match x with | (has, c, n, b, bg, t) => ⟨has, c, n, b, bg, t⟩) (fun _ => rfl)
@[ext] structure gB where
 has:Int
 c:eE
 bg:List Dat
 t:aa
instance : Uns gB := Uns.via (B := Int × eE × List Dat × aa) (fun x => (x.has, x.c, x.bg, x.t)) (fun x => match x with | (has, c, bg, t) => ⟨has, c, bg, t⟩) (fun _ => rfl)
def W0:jq->List Un:=fun r=>Uns.enc (r.ra:bM)++Uns.enc (r.rb:bF)++[.i r.next,.i r.e]++Uns.enc (r.t.a:ao)++Uns.enc (r.t.b:aq)++Uns.enc (r.t.n:ai)++[.d r.t.aK,.d r.t.notes,.d r.t.s0,.d r.t.s1,.d r.t.s2,.d r.t.tr,.d r.t.aJ,.d r.aZ,.d r.notes]
def XB:Int × ao × aq × ai × List Dat × List Dat × List Dat × List Dat × List Dat × List Dat × List Dat->Bool × jq:=fun(a0,a1,a2,a3,a4,a5,a6,a7,a8,a9,a10)=>(decide (0<=a0)&&dX (⟨a1,a2,a3,a4,a5,a6,a7,a8,a9,a10⟩:aa),(bV (⟨a1,a2,a3,a4,a5,a6,a7,a8,a9,a10⟩:aa)))
theorem KH:ER 120 (mkB Sm.en Sm.ex XB W0):=rebind D4 fun(a0,a1,a2,a3,a4,a5,a6,a7,a8,a9,a10)=>rfl
def LN:Tb Tryz.prog LQ TE XX:=T53.add 120 _ KH
structure KD where
 j:Int
 txt:List Int
 e:Int
 t:aa
def noT:aa:=⟨⟨0,0,0⟩,⟨0,0,0,0,0,0,0,0,0,0⟩,⟨0,0,0,0,0,0,0,0,0,false⟩,[],[],[],[],[],[],[]⟩
def noA (e:Int):KD:=⟨-1,[],e,noT⟩
def oq (r:jq):List Int:=gz r.ra r.aZ r.rb r.notes r.next
def cq (b:List Int) (s:ay):KD:=bif decide (s.has<0)then bif (cG b).e !=0 then noA (cG b).e else⟨0,[],0,dy (cG b).d⟩else noA 4
def bw (p:Int) (l:List Dat) (s:ay):KD:=bif p !=(s.bg.length:Int)+1 then noA 4 else bif (aG s.t l).e !=0 then noA (aG s.t l).e else⟨0,oq (aG s.t l),0,(aG s.t l).t⟩
def cL (s:ay):KD:=bif decide (s.has<0)then noA 4 else bif (bV s.t).e !=0 then noA (bV s.t).e else⟨0,oq (bV s.t),0,(bV s.t).t⟩
theorem DW {b:List Int} (h:(cG b).e=0):(bW (cG b).d).isSome=true:=by
 unfold cG at h⊢;cases c:(!(b.length%8==0))
 . rw[c]at h;simp only[zal]at h⊢;unfold ddV at h⊢;cases c2:(!(!(cg 0 ((bT b).length:Int) false (bT b)).r.bad&&(cg 0 ((bT b).length:Int) false (bT b)).r.n==0))
   . rw[c2]at h;simp only[zal]at h⊢;cases c3:(bW (cg 0 ((bT b).length:Int) false (bT b)).d).isSome
     . rw[c3]at h;cases h
     . exact c3
   . rw[c2]at h;cases h
 . rw[c]at h;cases h
theorem Fc {T:aa} {l:List Dat} (h:(aG T l).e=0):T.n.fc=false/\T.n.period<600/\(cP T l).e=0/\aG T l=qw T l:=by
 unfold aG at h⊢;cases ho:T.n.fc
 case true=>rw[ho]at h;cases h
 rw[ho]at h;simp only[zal]at h⊢
 by_cases hp:T.n.period>=600
 . rw[zaa hp]at h;cases h
 rw[zap hp]at h⊢;simp only[zal]at h⊢
 by_cases he:(cP T l).e=0
 . rw[cK he];exact⟨trivial,by omega,he,rfl⟩
 . rw[cI he]at h;exact absurd h he
theorem Il {T:aa} (h:(bV T).e=0):T.n.fc=false/\yz T=true/\al 3 (vP T)<=al 1 T.aJ+(T.n.rin-T.n.aR)/\bV T=xB T:=by
 unfold bV at h⊢;cases ho:T.n.fc
 case true=>rw[ho]at h;cases h
 rw[ho]at h;simp only[zal]at h⊢;cases hc:yz T
 case false=>rw[hc]at h;cases h
 rw[hc]at h;simp only[zbf,zal]at h⊢
 by_cases hp:al 1 T.aJ+(T.n.rin-T.n.aR)<al 3 (vP T)
 . rw[zaa hp]at h;cases h
 rw[zap hp];exact⟨trivial,trivial,by omega,rfl⟩
def N49:aC:=⟨LN.tab,49,⟨[.ptr 0 0 0,.ints .u8],[.cells [.ptr 1 0 0,.np 5 0 0,.buf 4 1,.any],.cells [.ptr 2 0 0,.int .i64,.bool],.cells [.buf 3 1,.int .i64,.bool,.int .i64,.bool],.ints .u8,.af [.ints .u8]]++bf 5,14⟩,⟨[.np 14 0 0,.int .i64],[.cells [.ptr 1 0 0,.np 5 0 0,.buf 4 1,.any],.cells [.ptr 2 0 0,.int .i64,.bool],.cells [.buf 3 1,.int .i64,.bool,.int .i64,.bool],.ints .u8,.af [.ints .u8]]++bf 5++bf 14,14⟩,[]⟩
def t49 (m:Nat):List Int × ay->Option (List Un):=fun(a0,a1)=>
 bif (!((decide (a1.has<0))&&true))then
 some ([.i (-1),.i 4]++Uns.enc (a1:ay)++Uns.enc ((⟨(⟨0,0,0⟩:ao),(⟨0,0,0,0,0,0,0,0,0,0⟩:aq),(⟨0,0,0,0,0,0,0,0,0,false⟩:ai),[],[],[],[],[],[],[]⟩:aa):aa))
 else
 chk (decide (a0.length<=1000000))<|
 bif ((cG a0).e) !=0 then
 some ([.i (-1),.i ((cG a0).e)]++Uns.enc (a1:ay)++Uns.enc ((⟨(⟨0,0,0⟩:ao),(⟨0,0,0,0,0,0,0,0,0,0⟩:aq),(⟨0,0,0,0,0,0,0,0,0,false⟩:ai),[],[],[],[],[],[],[]⟩:aa):aa))
 else
 chk (decide (((cG a0).d).aK.length<1000000/\((cG a0).d).notes.length<1000000/\((cG a0).d).s0.length<1000000/\((cG a0).d).s1.length<1000000/\((cG a0).d).s2.length<1000000))<|
 some ([.i ((if (bW ((cG a0).d)).isSome then 0 else-1):Int),.i ((if (bW ((cG a0).d)).isSome then 0 else 2):Int)]++Uns.enc (a1:ay)++Uns.enc ((kJ ((cG a0).d)):aa))
def f49:List Int × ay->Bool × List Un:=fun(a0,a1)=>(decide (a0.length<=1000000),[.i ((cq a0 a1).j),.i ((cq a0 a1).e)]++Uns.enc ((a1):ay)++Uns.enc (((cq a0 a1).t):aa))
theorem Tz (a0:List Int) (a1:ay) (hc:(decide (a0.length<=1000000))=true):∃m,t49 m (a0,a1)=some ([.i ((cq a0 a1).j),.i ((cq a0 a1).e)]++Uns.enc ((a1):ay)++Uns.enc (((cq a0 a1).t):aa)):=by
 refine⟨0, ?_⟩;unfold t49 cq
 try dsimp only
 by_cases h:a1.has<0
 case neg=>rw[zap h];rfl
 rw[zaa h];refine dV rfl (av hc ?_)
 by_cases he:(cG a0).e=0
 case neg=>rw[cI he,zaw,cI he];rfl
 have hs:=DW he;have D:=dg hs;have h1:=D.Kc;have h2:=D.Nw;have h3:=b9 D.s0;have h4:=b9 D.s1;have h5:=b9 D.s2;rw[cK he,zaw,cK he];refine av (zaa ⟨by omega,by omega,by omega,by omega,by omega⟩) ?_
 have hT:kJ (cG a0).d=dy (cG a0).d:=by unfold kJ;rw[hs];rfl
 rw[hs,hT];rfl
theorem RV:ER 49 (mkE N49.en N49.ex f49):=an ae LN.right (fun m=>[]) (t:=t49) (by kernel_rfl) (fun m=>aB) (fun m a=>by kernel_rfl) fun(a0,a1) hc=>Tz a0 a1 hc
def T49:Tb Tryz.prog LQ TE XX:=LN.add 49 _ RV
def N54:aC:=⟨T49.tab,54,⟨[.ptr 0 0 0,.int .i64,.af (sB 6)],[.cells [.ptr 1 0 0,.np 5 0 0,.buf 4 1,.any],.cells [.ptr 2 0 0,.int .i64,.bool],.cells [.buf 3 1,.int .i64,.bool,.int .i64,.bool],.ints .u8,.af [.ints .u8]]++bf 5,14⟩,⟨[.np 14 0 0,.ints .u8,.int .i64],[.cells [.ptr 1 0 0,.np 5 0 0,.buf 4 1,.any],.cells [.ptr 2 0 0,.int .i64,.bool],.cells [.buf 3 1,.int .i64,.bool,.int .i64,.bool],.ints .u8,.af [.ints .u8]]++bf 5++bf 14,14⟩,[]⟩
def t54 (m:Nat):Int × List Dat × ay->Option (List Un):=fun(a0,a1,a2)=>
 bif a0 !=(w64 ((a2.bg.length:Int)+1))then
 some ([.i (-1),.l ([]:List Int),.i 4]++Uns.enc (a2:ay)++Uns.enc ((⟨(⟨0,0,0⟩:ao),(⟨0,0,0,0,0,0,0,0,0,0⟩:aq),(⟨0,0,0,0,0,0,0,0,0,false⟩:ai),[],[],[],[],[],[],[]⟩:aa):aa))
 else
 chk (decide (0<=a2.has)&&decide (a2.t.aK.length<1000000/\a2.t.notes.length<1000000/\a2.t.s0.length<1000000/\a2.t.s1.length<1000000/\a2.t.s2.length<1000000/\a2.t.aJ.length<1000000/\a2.t.tr.length<1000000))<|
 chk (decide (0<=0)&&dX a2.t)<|
 bd ((aG a2.t a1):jq) fun r2=>
 bif r2.e !=0 then
 some ([.i (-1),.l ([]:List Int),.i r2.e]++Uns.enc (a2:ay)++Uns.enc ((⟨(⟨0,0,0⟩:ao),(⟨0,0,0,0,0,0,0,0,0,0⟩:aq),(⟨0,0,0,0,0,0,0,0,0,false⟩:ai),[],[],[],[],[],[],[]⟩:aa):aa))
 else
 chk (decide (r2.aZ.length<=1000000)&&decide (r2.notes.length<=1000000))<|
 some ([.i 0,.l (gz r2.ra r2.aZ r2.rb r2.notes r2.next),.i 0]++Uns.enc (a2:ay)++Uns.enc (r2.t:aa))
def f54:Int × List Dat × ay->Bool × List Un:=fun(a0,a1,a2)=>(decide (0<=a2.has/\a2.bg.length<1000000)&&dX a2.t,[.i ((bw a0 a1 a2).j),.l ((bw a0 a1 a2).txt),.i ((bw a0 a1 a2).e)]++Uns.enc ((a2):ay)++Uns.enc (((bw a0 a1 a2).t):aa))
theorem U0 (a0:Int) (a1:List Dat) (a2:ay) (hc:(decide (0<=a2.has/\a2.bg.length<1000000)&&dX a2.t)=true):∃m,t54 m (a0,a1,a2)=some ([.i ((bw a0 a1 a2).j),.l ((bw a0 a1 a2).txt),.i ((bw a0 a1 a2).e)]++Uns.enc ((a2):ay)++Uns.enc (((bw a0 a1 a2).t):aa)):=by
 rw[zae]at hc;obtain⟨h0,h1⟩:=zaj hc.1;have h:=gg.1 hc.2;have hl:=nf h;refine⟨0, ?_⟩;unfold t54 bw
 try dsimp only
 rw[ab (n:=(a2.bg.length:Int)+1) (by omega) (by omega)];cases (a0 !=(a2.bg.length:Int)+1)
 case true=>rfl
 rw[zal,zal];refine av (by rw[zaa h0,zaa hl];rfl) (av hc.2 ?_)
 try dsimp only[bd]
 by_cases he:(aG a2.t a1).e=0
 case neg=>rw[cI he,cI he];rfl
 rw[cK he,cK he];obtain⟨c1,c2,c3,c4⟩:=Fc he;refine av ?_ rfl;rw[c4];have p1:=(FU h c3).2;have p2:=(AW h c3).1;have p3:=dt h;rw[zaa (show(qw a2.t a1).aZ.length<=1000000 by show(dH a2.t a1).2.2.length<=_;omega),zaa (show(qw a2.t a1).notes.length<=1000000 by show((mu a2.t a1).map yW).length<=_;rw[zaW];omega)];rfl
theorem RK:ER 54 (mkE N54.en N54.ex f54):=an ae T49.right (fun m=>[]) (t:=t54) (by kernel_rfl) (fun m=>aB) (fun m a=>by kernel_rfl) fun(a0,a1,a2) hc=>U0 a0 a1 a2 hc
def T54:Tb Tryz.prog LQ TE XX:=T49.add 54 _ RK
def N85:aC:=⟨T54.tab,85,⟨[.ptr 0 0 0],[.cells [.ptr 1 0 0,.np 5 0 0,.buf 4 1,.any],.cells [.ptr 2 0 0,.int .i64,.bool],.cells [.buf 3 1,.int .i64,.bool,.int .i64,.bool],.ints .u8,.af [.ints .u8]]++bf 5,14⟩,⟨[.np 14 0 0,.ints .u8,.int .i64],[.cells [.ptr 1 0 0,.np 5 0 0,.buf 4 1,.any],.cells [.ptr 2 0 0,.int .i64,.bool],.cells [.buf 3 1,.int .i64,.bool,.int .i64,.bool],.ints .u8,.af [.ints .u8]]++bf 5++bf 14,14⟩,[]⟩
def t85 (m:Nat):ay->Option (List Un):=fun a0=>
 bif ((decide (a0.has<0))&&true)then
 some ([.i (-1),.l ([]:List Int),.i 4]++Uns.enc (a0:ay)++Uns.enc ((⟨(⟨0,0,0⟩:ao),(⟨0,0,0,0,0,0,0,0,0,0⟩:aq),(⟨0,0,0,0,0,0,0,0,0,false⟩:ai),[],[],[],[],[],[],[]⟩:aa):aa))
 else
 chk (decide (0<=a0.has)&&decide (a0.t.aK.length<1000000/\a0.t.notes.length<1000000/\a0.t.s0.length<1000000/\a0.t.s1.length<1000000/\a0.t.s2.length<1000000/\a0.t.aJ.length<1000000/\a0.t.tr.length<1000000))<|
 chk (decide (0<=0)&&dX a0.t)<|
 bd ((bV a0.t):jq) fun r2=>
 bif r2.e !=0 then
 some ([.i (-1),.l ([]:List Int),.i r2.e]++Uns.enc (a0:ay)++Uns.enc ((⟨(⟨0,0,0⟩:ao),(⟨0,0,0,0,0,0,0,0,0,0⟩:aq),(⟨0,0,0,0,0,0,0,0,0,false⟩:ai),[],[],[],[],[],[],[]⟩:aa):aa))
 else
 chk (decide (r2.aZ.length<=1000000)&&decide (r2.notes.length<=1000000))<|
 some ([.i 0,.l (gz r2.ra r2.aZ r2.rb r2.notes r2.next),.i 0]++Uns.enc (a0:ay)++Uns.enc (r2.t:aa))
def f85:ay->Bool × List Un:=fun a0=>((decide (a0.has<0)||dX a0.t),[.i ((cL a0).j),.l ((cL a0).txt),.i ((cL a0).e)]++Uns.enc ((a0):ay)++Uns.enc (((cL a0).t):aa))
theorem Wy (a0:ay) (hc:((decide (a0.has<0)||dX a0.t))=true):∃m,t85 m a0=some ([.i ((cL a0).j),.l ((cL a0).txt),.i ((cL a0).e)]++Uns.enc ((a0):ay)++Uns.enc (((cL a0).t):aa)):=by
 refine⟨0, ?_⟩;unfold t85 cL
 try dsimp only
 by_cases h0:a0.has<0
 . rw[zaa h0];rfl
 rw[zap h0,zb7]at hc;have h:=gg.1 hc;have hl:=nf h;rw[zap h0];refine dV rfl (av (by rw[zaa (show 0<=a0.has by omega),zaa hl];rfl) (av hc ?_))
 try dsimp only[bd]
 rw[zal]
 by_cases he:(bV a0.t).e=0
 case neg=>rw[cI he,cI he];rfl
 rw[cK he,cK he];obtain⟨c1,c2,c3,c4⟩:=Il he;refine av ?_ rfl;rw[c4];have p1:=(yK h).2.2.1;have p2:=(mE h).2.1;have p3:=dt h;rw[zaa (show(xB a0.t).aZ.length<=1000000 by show(vP a0.t).length<=_;omega),zaa (show(xB a0.t).notes.length<=1000000 by show((vD a0.t).2.map yW).length<=_;rw[zaW];omega)];rfl
theorem RD:ER 85 (mkE N85.en N85.ex f85):=an ae T54.right (fun m=>[]) (t:=t85) (by kernel_rfl) (fun m=>aB) (fun m a=>by kernel_rfl) fun a0 hc=>Wy a0 hc
def T85:Tb Tryz.prog LQ TE XX:=T54.add 85 _ RD
def vG (x:List Int) (s:ay):Int:=(nP x s.c s.n s.b).e
def DJ (x:List Int) (s:ay):ay:={s with c:=(nP x s.c s.n s.b).c,n:=(nP x s.c s.n s.b).n,b:=(nP x s.c s.n s.b).b}
structure sW where
 txt:List Int
 e:Int
 d:ay
def A6 (x:List Int) (a:KD) (bg:List Dat) (s:ay):sW:=
 bif a.e !=0 then⟨[],a.e,s⟩else bif vG x s !=0 then⟨[],vG x s,DJ x s⟩else⟨a.txt,0,{DJ x s with has:=a.j,bg:=bg,t:=a.t}⟩
def pW (b:List Int) (s:ay):sW:=A6 (1::b) (cq b s) s.bg s
def jH (p:Int) (s:ay):sW:=bif decide (p<1)||decide (p>(s.bg.length:Int))then⟨[],4,s⟩else⟨(ag s.bg (p-1).toNat).l 0,0,s⟩
theorem Kl (p:Int) (s:ay):(jH p s).d=s:=by
 unfold jH;cases (decide (p<1)||decide (p>(s.bg.length:Int)))<;>rfl
def ee (b:List Int) (s:ay):sW:=
 bif decide (s.has<0)then⟨[],4,s⟩
 else bif (aX b).e !=0 then⟨[],(aX b).e,s⟩
 else bif decide ((aX b).p<=(s.bg.length:Int))then jH (aX b).p s
 else A6 (2::b) (bw (aX b).p (aX b).l s) (s.bg++[qC (bw (aX b).p (aX b).l s).txt]) s
def iz (s:ay):Bool:=decide (0<=s.c.count/\s.c.count<1000000/\s.b.length<900000/\s.bg.length<1000000)&&((s.bg.all fun d=>decide ((d.l 0).length<1000000))&&(decide (s.has<0)||dX s.t))
theorem mQ {s:ay}:iz s=true↔(0<=s.c.count/\s.c.count<1000000/\s.b.length<900000/\s.bg.length<1000000)/\(∀d∈s.bg,(d.l 0).length<1000000)/\(s.has<0\/ff s.t):=by
 unfold iz;rw[zae,zae,zaf,zao,zba,zaf,gg];simp only[zaf]
def qF (b:List Int):Bool:=decide (b.length<=59000)&&dF b
theorem nY {b:List Int}:qF b=true↔b.length<=59000/\∀x∈b,0<=x/\x<256:=by
 unfold qF;rw[zae,zaf,fN];exact⟨fun h=>⟨h.1,h.2.2⟩,fun h=>⟨h.1,by omega,h.2⟩⟩
theorem A0 {k:Int} {b:List Int} (hk:0<=k/\k<256) (h:qF b=true):dF (k::b)=true:=by
 obtain⟨h1,h2⟩:=nY.1 h;refine fN.2 ⟨by simp;omega,fun x hx=> ?_⟩;rcases zaT.1 hx with rfl|hx
 . exact hk
 . exact h2 x hx
theorem Ea (r:jq):(oq r).length<=6000:=by
 unfold oq;cases h:eT r.ra r.aZ r.rb r.notes r.next with
 |true=>exact(BS h).2
 |false=>rw[Gr h];simp
theorem vm (p:Int) (l:List Dat) (s:ay):(bw p l s).txt.length<=6000:=by
 unfold bw;cases (p !=(s.bg.length:Int)+1)<;>cases ((aG s.t l).e !=0)<;>first|exact Ea _|exact zbq _
def N50:aC:=⟨T85.tab,50,⟨[.ptr 0 0 0,.int .u8,.ints .u8],[.cells [.ptr 1 0 0,.np 5 0 0,.buf 4 1,.any],.cells [.ptr 2 0 0,.int .i64,.bool],.cells [.buf 3 1,.int .i64,.bool,.int .i64,.bool],.ints .u8,.af [.ints .u8]]++bf 5,0⟩,⟨[.int .i64],[.cells [.ptr 1 0 0,.np 16 0 0,.buf 15 1,.any],.cells [.ptr 2 0 0,.int .i64,.bool],.cells [.buf 14 1,.int .i64,.bool,.int .i64,.bool],.gone,.gone,.gone,.gone,.gone,.gone,.gone,.gone,.gone,.gone,.gone,.ints .u8,.af [.ints .u8]]++bf 16,0⟩,[]⟩
def t50 (m:Nat):Int × List Int × ay->Option (List Un):=fun(a0,a1,a2)=>
 chk (fits (1+a1.length) 1)<|
 bif decide (a1.length=0)then
 chk (decide (0<=a2.c.count/\a2.c.count<1000000/\([a0]:List Int).length<=60000/\a2.b.length<900000)&&dF ([a0]:List Int))<|
 bd ((nP ([a0]:List Int) a2.c a2.n a2.b):Ld) fun r1=>
 some ([.i r1.e]++Uns.enc (({a2 with c:=r1.c,n:=r1.n,b:=r1.b}:ay):ay))
 else
 chk (decide (0<=a2.c.count/\a2.c.count<1000000/\(([a0])++a1).length<=60000/\a2.b.length<900000)&&dF (([a0])++a1))<|
 bd ((nP (([a0])++a1) a2.c a2.n a2.b):Ld) fun r2=>
 some ([.i r2.e]++Uns.enc (({a2 with c:=r2.c,n:=r2.n,b:=r2.b}:ay):ay))
def f50:Int × List Int × ay->Bool × List Un:=fun(a0,a1,a2)=>(decide (0<=a2.c.count/\a2.c.count<1000000/\a1.length<=59000/\a2.b.length<900000)&&dF (a0::a1),[.i (vG (a0::a1) a2)]++Uns.enc ((DJ (a0::a1) a2):ay))
theorem T1 (a0:Int) (a1:List Int) (a2:ay) (hc:(decide (0<=a2.c.count/\a2.c.count<1000000/\a1.length<=59000/\a2.b.length<900000)&&dF (a0::a1))=true):∃m,t50 m (a0,a1,a2)=some ([.i (vG (a0::a1) a2)]++Uns.enc ((DJ (a0::a1) a2):ay)):=by
 rw[zae]at hc;obtain⟨h0,h1,h2,h3⟩:=zaj hc.1;refine⟨0, ?_⟩;unfold t50
 try dsimp only
 rw[bL (by omega) (by omega)]
 by_cases h:a1.length=0
 . have e:=zaH h;subst e;refine gv rfl (av (by rw[hc.2,zaa (show 0<=a2.c.count/\a2.c.count<1000000/\([a0]:List Int).length<=60000/\a2.b.length<900000 from⟨h0,h1,by simp,h3⟩)];rfl) rfl)
 . refine dV (zap h) (av ?_ rfl);rw[show([a0]++a1)=a0::a1 from rfl,hc.2,zaa (show 0<=a2.c.count/\a2.c.count<1000000/\(a0::a1).length<=60000/\a2.b.length<900000 from⟨h0,h1,by simp;omega,h3⟩)];rfl
theorem Rx:ER 50 (mkE N50.en N50.ex f50):=an ae T85.right (fun m=>[]) (t:=t50) (by kernel_rfl) (fun m=>aB) (fun m a=>by kernel_rfl) fun(a0,a1,a2) hc=>T1 a0 a1 a2 hc
def T50:Tb Tryz.prog LQ TE XX:=T85.add 50 _ Rx
def N14:aC:=⟨T50.tab,14,⟨[.ptr 0 0 0,.ints .u8],[.cells [.ptr 1 0 0,.np 5 0 0,.buf 4 1,.any],.cells [.ptr 2 0 0,.int .i64,.bool],.cells [.buf 3 1,.int .i64,.bool,.int .i64,.bool],.ints .u8,.af [.ints .u8]]++bf 5,0⟩,⟨[.int .i64],[.cells [.ptr 1 0 0,.np 16 0 0,.buf 15 1,.any],.cells [.ptr 2 0 0,.int .i64,.bool],.cells [.buf 14 1,.int .i64,.bool,.int .i64,.bool],.gone,.gone,.gone,.gone,.gone,.gone,.gone,.gone,.gone,.gone,.gone,.ints .u8,.af [.ints .u8]]++bf 16,0⟩,[]⟩
def t14 (m:Nat):List Int × ay->Option (List Un):=fun(a0,a1)=>
 chk (decide (a0.length<=1000000))<|
 bif (((cq a0 a1).e)==0)then
 chk (decide (0<=a1.c.count/\a1.c.count<1000000/\a0.length<=59000/\a1.b.length<900000)&&dF (1::a0))<|
 lt ((DJ (1::a0) a1):ay) fun g2=>
 bif ((vG (1::a0) a1)==0)then
 some ([.i (vG (1::a0) a1)]++Uns.enc (({g2 with has:=(cq a0 a1).j,t:=(cq a0 a1).t}:ay):ay))
 else
 some ([.i (vG (1::a0) a1)]++Uns.enc (g2:ay))
 else
 bif (((cq a0 a1).e)==0)then
 some ([.i ((cq a0 a1).e)]++Uns.enc (({a1 with has:=(cq a0 a1).j,t:=(cq a0 a1).t}:ay):ay))
 else
 some ([.i ((cq a0 a1).e)]++Uns.enc (a1:ay))
def f14:List Int × ay->Bool × List Un:=fun(a0,a1)=>(qF a0&&iz a1,[.i ((pW a0 a1).e)]++Uns.enc (((pW a0 a1).d):ay))
theorem TU (a0:List Int) (a1:ay) (hc:(qF a0&&iz a1)=true):∃m,t14 m (a0,a1)=some ([.i ((pW a0 a1).e)]++Uns.enc (((pW a0 a1).d):ay)):=by
 rw[zae]at hc;obtain⟨k1,k2⟩:=nY.1 hc.1;obtain⟨⟨d1,d2,d3,d4⟩,_⟩:=mQ.1 hc.2;refine⟨0, ?_⟩;unfold t14 pW A6
 try dsimp only
 refine av (zaa (by omega)) ?_
 by_cases h:(cq a0 a1).e=0
 case neg=>rw[dB h,dB h,cI h]
 rw[eg h,cK h];refine av (by rw[A0 (by decide) hc.1,zaa (show 0<=a1.c.count/\a1.c.count<1000000/\a0.length<=59000/\a1.b.length<900000 from⟨d1,d2,k1,d3⟩)];rfl) ?_
 try dsimp only[lt]
 by_cases h2:vG (1::a0) a1=0
 . rw[eg h2,cK h2,h2];rfl
 . rw[dB h2,cI h2]
theorem Jj:ER 14 (mkE N14.en N14.ex f14):=an ae T50.right (fun m=>[]) (t:=t14) (by kernel_rfl) (fun m=>aB) (fun m a=>by kernel_rfl) fun(a0,a1) hc=>TU a0 a1 hc
def T14:Tb Tryz.prog LQ TE XX:=T50.add 14 _ Jj
def N27:aC:=⟨T14.tab,27,⟨[.ptr 0 0 0,.int .i64],[.cells [.ptr 1 0 0,.np 5 0 0,.buf 4 1,.any],.cells [.ptr 2 0 0,.int .i64,.bool],.cells [.buf 3 1,.int .i64,.bool,.int .i64,.bool],.ints .u8,.af [.ints .u8]]++bf 5,14⟩,⟨[.ints .u8,.int .i64],[.cells [.ptr 1 0 0,.np 5 0 0,.buf 4 1,.any],.cells [.ptr 2 0 0,.int .i64,.bool],.cells [.buf 3 1,.int .i64,.bool,.int .i64,.bool],.ints .u8,.af [.ints .u8]]++bf 5,14⟩,[]⟩
def t27 (m:Nat):Int × ay->Option (List Un):=fun(a0,a1)=>
 bif decide (a0<1)then
 some ([.l ([]:List Int),.i 4]++Uns.enc (a1:ay))
 else
 bif (decide (a0>(a1.bg.length:Int)))then
 some ([.l ([]:List Int),.i 4]++Uns.enc (a1:ay))
 else
 chk (inb (w64 (a0-1)) a1.bg.length)<|
 chk (decide ((w64 (a0-1)).toNat<a1.bg.length))<|
 lt (ag a1.bg ((w64 (a0-1)).toNat):Dat) fun d2=>
 chk (decide ((d2.l 0).length<1000000))<|
 some ([.l (d2.l 0),.i 0]++Uns.enc (a1:ay))
def f27:Int × ay->Bool × List Un:=fun(a0,a1)=>(iz a1,[.l ((jH a0 a1).txt),.i ((jH a0 a1).e)]++Uns.enc ((a1):ay))
theorem VW (a0:Int) (a1:ay) (hc:(iz a1)=true):∃m,t27 m (a0,a1)=some ([.l ((jH a0 a1).txt),.i ((jH a0 a1).e)]++Uns.enc ((a1):ay)):=by
 obtain⟨⟨d1,d2,d3,d4⟩,d5,_⟩:=mQ.1 hc;refine⟨0, ?_⟩;unfold t27 jH
 try dsimp only
 by_cases h1:a0<1
 . rw[aQ h1,zaa h1];rfl
 rw[az h1,zap h1]
 by_cases h2:a0>(a1.bg.length:Int)
 . rw[aQ h2,zaa h2];rfl
 rw[az h2,zap h2,ab (n:=a0-1) (by omega) (by omega),cJ (by omega) (by omega),aP (by omega)];exact av (zaa (d5 _ (lH (by omega)))) rfl
theorem QF:ER 27 (mkE N27.en N27.ex f27):=an ae T14.right (fun m=>[]) (t:=t27) (by kernel_rfl) (fun m=>aB) (fun m a=>by kernel_rfl) fun(a0,a1) hc=>VW a0 a1 hc
def T27:Tb Tryz.prog LQ TE XX:=T14.add 27 _ QF
def N17:aC:=⟨T27.tab,17,⟨[.ptr 0 0 0,.ints .u8],[.cells [.ptr 1 0 0,.np 5 0 0,.buf 4 1,.any],.cells [.ptr 2 0 0,.int .i64,.bool],.cells [.buf 3 1,.int .i64,.bool,.int .i64,.bool],.ints .u8,.af [.ints .u8]]++bf 5,0⟩,⟨[.ints .u8,.int .i64],[.cells [.ptr 1 0 0,.np 16 0 0,.buf 15 1,.any],.cells [.ptr 2 0 0,.int .i64,.bool],.cells [.buf 14 1,.int .i64,.bool,.int .i64,.bool],.gone,.gone,.gone,.gone,.gone,.gone,.gone,.gone,.gone,.gone,.gone,.ints .u8,.af [.ints .u8]]++bf 16,0⟩,[]⟩
def t17 (m:Nat):List Int × ay->Option (List Un):=fun(a0,a1)=>
 bif ((decide (a1.has<0))&&true)then
 some ([.l ([]:List Int),.i 4]++Uns.enc (a1:ay))
 else
 chk (decide (a0.length<=1000000))<|
 bif ((aX a0).e) !=0 then
 some ([.l ([]:List Int),.i ((aX a0).e)]++Uns.enc (a1:ay))
 else
 bif (decide (((aX a0).p)<=(a1.bg.length:Int)))then
 chk (iz a1)<|
 some ([.l ((jH ((aX a0).p) a1).txt),.i ((jH ((aX a0).p) a1).e)]++Uns.enc (a1:ay))
 else
 chk (decide (0<=a1.has/\a1.bg.length<1000000)&&dX a1.t)<|
 bif (((bw ((aX a0).p) ((aX a0).l) a1).e)==0)then
 chk (decide (0<=a1.c.count/\a1.c.count<1000000/\a0.length<=59000/\a1.b.length<900000)&&dF (2::a0))<|
 lt ((DJ (2::a0) a1):ay) fun g4=>
 bif ((vG (2::a0) a1) !=0)then
 some ([.l ([]:List Int),.i (vG (2::a0) a1)]++Uns.enc (g4:ay))
 else
 chk (fits (g4.bg.length+1) 24)<|
 chk (decide (((bw ((aX a0).p) ((aX a0).l) a1).txt).length<1000000))<|
 some ([.l ((bw ((aX a0).p) ((aX a0).l) a1).txt),.i 0]++Uns.enc (({g4 with has:=(bw ((aX a0).p) ((aX a0).l) a1).j,bg:=(g4.bg++([.r [.r (List.map .n ((bw ((aX a0).p) ((aX a0).l) a1).txt))]])),t:=(bw ((aX a0).p) ((aX a0).l) a1).t}:ay):ay))
 else
 bif (((bw ((aX a0).p) ((aX a0).l) a1).e) !=0)then
 some ([.l ([]:List Int),.i ((bw ((aX a0).p) ((aX a0).l) a1).e)]++Uns.enc (a1:ay))
 else
 chk (fits (a1.bg.length+1) 24)<|
 chk (decide (((bw ((aX a0).p) ((aX a0).l) a1).txt).length<1000000))<|
 some ([.l ((bw ((aX a0).p) ((aX a0).l) a1).txt),.i 0]++Uns.enc (({a1 with has:=(bw ((aX a0).p) ((aX a0).l) a1).j,bg:=(a1.bg++([.r [.r (List.map .n ((bw ((aX a0).p) ((aX a0).l) a1).txt))]])),t:=(bw ((aX a0).p) ((aX a0).l) a1).t}:ay):ay))
def f17:List Int × ay->Bool × List Un:=fun(a0,a1)=>(qF a0&&iz a1,[.l ((ee a0 a1).txt),.i ((ee a0 a1).e)]++Uns.enc (((ee a0 a1).d):ay))
theorem Um (a0:List Int) (a1:ay) (hc:(qF a0&&iz a1)=true):∃m,t17 m (a0,a1)=some ([.l ((ee a0 a1).txt),.i ((ee a0 a1).e)]++Uns.enc (((ee a0 a1).d):ay)):=by
 rw[zae]at hc;obtain⟨k1,k2⟩:=nY.1 hc.1;obtain⟨⟨d1,d2,d3,d4⟩,d5,d6⟩:=mQ.1 hc.2;refine⟨0, ?_⟩;unfold t17 ee
 try dsimp only
 by_cases h0:a1.has<0
 . rw[zaa h0];rfl
 rw[zap h0];refine dV rfl (av (zaa (by omega)) ?_);rw[zal]
 by_cases h1:(aX a0).e=0
 case neg=>rw[cI h1,cI h1]
 rw[cK h1,cK h1]
 by_cases h2:(aX a0).p<=(a1.bg.length:Int)
 . rw[aQ h2,aQ h2];exact av hc.2 (by rw[Kl])
 rw[az h2,az h2];have hT:dX a1.t=true:=by
  rcases d6 with h|h
  . exact absurd h h0
  . exact gg.2 h
 refine av (by rw[hT,zaa (show 0<=a1.has/\a1.bg.length<1000000 by omega)];rfl) ?_
 unfold A6
 try dsimp only[lt]
 have hl:=vm (aX a0).p (aX a0).l a1
 by_cases h3:(bw (aX a0).p (aX a0).l a1).e=0
 case neg=>rw[dB h3,cI h3,cI h3]
 rw[eg h3,cK h3];refine av (by rw[A0 (by decide) hc.1,zaa (show 0<=a1.c.count/\a1.c.count<1000000/\a0.length<=59000/\a1.b.length<900000 from⟨d1,d2,k1,d3⟩)];rfl) ?_
 by_cases h4:vG (2::a0) a1=0
 . rw[cK h4,cK h4];rw[show(DJ (2::a0) a1).bg=a1.bg from rfl];refine(bL (by omega) (by omega)).trans (av (zaa (by omega)) rfl)
 . rw[cI h4,cI h4]
theorem Ih:ER 17 (mkE N17.en N17.ex f17):=an ae T27.right (fun m=>[]) (t:=t17) (by kernel_rfl) (fun m=>aB) (fun m a=>by kernel_rfl) fun(a0,a1) hc=>Um a0 a1 hc
def T17:Tb Tryz.prog LQ TE XX:=T27.add 17 _ Ih
structure AgR where
 ok:Bool
 d:ay
def cB (b:List Int) (s:ay):AgR:=
 bif (b.length:Int)==0 then⟨false,s⟩
 else bif b.getD 0 0==1 then⟨(cq (b.drop 1) s).e==0,{s with has:=(cq (b.drop 1) s).j,t:=(cq (b.drop 1) s).t}⟩
 else bif b.getD 0 0==2&& !decide (s.has<0)then
  bif (aX (b.drop 1)).e !=0 then⟨false,s⟩
  else⟨(bw (aX (b.drop 1)).p (aX (b.drop 1)).l s).e==0,{s with has:=(bw (aX (b.drop 1)).p (aX (b.drop 1)).l s).j,bg:=s.bg++[qC (bw (aX (b.drop 1)).p (aX (b.drop 1)).l s).txt],t:=(bw (aX (b.drop 1)).p (aX (b.drop 1)).l s).t}⟩
 else bif b.getD 0 0==3&&((b.drop 1).length:Int)==0 then⟨(cL s).e==0,{s with has:=(cL s).j,t:=(cL s).t}⟩
 else⟨false,s⟩
def N48:aC:=⟨T17.tab,48,⟨[.ptr 0 0 0,.ints .u8],[.cells [.ptr 1 0 0,.np 5 0 0,.buf 4 1,.any],.cells [.ptr 2 0 0,.int .i64,.bool],.cells [.buf 3 1,.int .i64,.bool,.int .i64,.bool],.ints .u8,.af [.ints .u8]]++bf 5,0⟩,⟨[.bool],[.cells [.ptr 1 0 0,.np 16 0 0,.buf 15 1,.any],.cells [.ptr 2 0 0,.int .i64,.bool],.cells [.buf 14 1,.int .i64,.bool,.int .i64,.bool],.gone,.gone,.gone,.gone,.gone,.gone,.gone,.gone,.gone,.gone,.gone,.ints .u8,.af [.ints .u8]]++bf 16,0⟩,[]⟩
def t48 (m:Nat):List Int × ay->Option (List Un):=fun(a0,a1)=>
 bif (a0.length:Int)==0 then
 some ([.b false]++Uns.enc (a1:ay))
 else
 chk (inb 0 a0.length)<|
 chk (decide (0<a0.length))<|
 chk (true&&(true&&decide (1<=a0.length/\a0.length<=a0.length)))<|
 lt ((List.take (a0.length-1) (List.drop 1 a0)):List Int) fun l1=>
 bif (a0.getD 0 0)==1 then
 chk (decide (l1.length<=1000000))<|
 some ([.b (((cq l1 a1).e)==0)]++Uns.enc (({a1 with has:=(cq l1 a1).j,t:=(cq l1 a1).t}:ay):ay))
 else
 bif (a0.getD 0 0)==2 then
 bif (!((decide (a1.has<0))&&true))then
 chk (decide (l1.length<=1000000))<|
 bif ((aX l1).e) !=0 then
 some ([.b false]++Uns.enc (a1:ay))
 else
 chk (decide (0<=a1.has/\a1.bg.length<1000000)&&dX a1.t)<|
 chk (fits (a1.bg.length+1) 24)<|
 some ([.b (((bw ((aX l1).p) ((aX l1).l) a1).e)==0)]++Uns.enc (({a1 with has:=(bw ((aX l1).p) ((aX l1).l) a1).j,bg:=(a1.bg++([.r [.r (List.map .n ((bw ((aX l1).p) ((aX l1).l) a1).txt))]])),t:=(bw ((aX l1).p) ((aX l1).l) a1).t}:ay):ay))
 else
 bif (a0.getD 0 0)==3 then
 bif (l1.length:Int)==0 then
 chk ((decide (a1.has<0)||dX a1.t))<|
 some ([.b (((cL a1).e)==0)]++Uns.enc (({a1 with has:=(cL a1).j,t:=(cL a1).t}:ay):ay))
 else
 some ([.b false]++Uns.enc (a1:ay))
 else
 some ([.b false]++Uns.enc (a1:ay))
 else
 bif (a0.getD 0 0)==3 then
 bif (l1.length:Int)==0 then
 chk ((decide (a1.has<0)||dX a1.t))<|
 some ([.b (((cL a1).e)==0)]++Uns.enc (({a1 with has:=(cL a1).j,t:=(cL a1).t}:ay):ay))
 else
 some ([.b false]++Uns.enc (a1:ay))
 else
 some ([.b false]++Uns.enc (a1:ay))
def f48:List Int × ay->Bool × List Un:=fun(a0,a1)=>(decide (a0.length<=1000000)&&iz a1,[.b ((cB a0 a1).ok)]++Uns.enc (((cB a0 a1).d):ay))
theorem Tw (a0:List Int) (a1:ay) (hc:(decide (a0.length<=1000000)&&iz a1)=true):∃m,t48 m (a0,a1)=some ([.b ((cB a0 a1).ok)]++Uns.enc (((cB a0 a1).d):ay)):=by
 rw[zae]at hc;have hl:=zaj hc.1;obtain⟨⟨d1,d2,d3,d4⟩,d5,d6⟩:=mQ.1 hc.2;have hE:(decide (a1.has<0)||dX a1.t)=true:=by rw[zba,zaf,gg];exact d6
 refine⟨0, ?_⟩;unfold t48 cB
 try dsimp only
 by_cases h:(a0.length:Int)=0
 . rw[eg h,eg h]
 rw[dB h,dB h];refine(cJ (by omega) (by omega)).trans (av (zaa (by omega)) (av (by rw[zaa (show 1<=a0.length/\a0.length<=a0.length by omega)];rfl) ?_))
 try dsimp only[lt]
 rw[zbl (show(List.drop 1 a0).length<=a0.length-1 by rw[za6];omega)];have hr:(List.drop 1 a0).length<=1000000:=by rw[za6];omega
 generalize List.drop 1 a0=r at*
 generalize a0.getD 0 0=k
 by_cases k1:k=1
 . rw[eg k1,eg k1];exact av (zaa hr) rfl
 rw[dB k1,dB k1];have third:∀(G:Option (List Un)),(bif k==3 then bif (r.length:Int)==0 then chk ((decide (a1.has<0)||dX a1.t)) (some ([Un.b ((cL a1).e==0)]++Uns.enc ({a1 with has:=(cL a1).j,t:=(cL a1).t}:ay)))else some ([Un.b false]++Uns.enc a1)else some ([Un.b false]++Uns.enc a1))=some ([Un.b (bif k==3&&(r.length:Int)==0 then(⟨(cL a1).e==0,{a1 with has:=(cL a1).j,t:=(cL a1).t}⟩:AgR)else⟨false,a1⟩).ok]++Uns.enc (bif k==3&&(r.length:Int)==0 then(⟨(cL a1).e==0,{a1 with has:=(cL a1).j,t:=(cL a1).t}⟩:AgR)else⟨false,a1⟩).d):=fun _=>by
  cases (k==3)
  . rfl
  cases ((r.length:Int)==0)
  . rfl
  exact av hE rfl
 by_cases k2:k=2
 . rw[eg k2]
   by_cases h0:a1.has<0
   . rw[zaa h0,mw k2];rw[zaa h0]at third;exact third none
   . rw[zap h0,mw k2];refine gv rfl (av (zaa hr) ?_);rw[show(true&& !false)=true from rfl,zaw]
     by_cases he:(aX r).e=0
     case neg=>rw[cI he,cI he]
     rw[cK he,cK he];have h:ff a1.t:=d6.resolve_left h0;refine av (by rw[gg.2 h,zaa (show 0<=a1.has/\a1.bg.length<1000000 by omega)];rfl) ((bL (by omega) (by omega)).trans rfl)
 . rw[dB k2,jh k2,zbL,zal];exact third none
theorem QB:ER 48 (mkE N48.en N48.ex f48):=an ae T17.right (fun m=>[]) (t:=t48) (by kernel_rfl) (fun m=>aB) (fun m a=>by kernel_rfl) fun(a0,a1) hc=>Tw a0 a1 hc
def T48:Tb Tryz.prog LQ TE XX:=T17.add 48 _ QB
theorem BR (l:List Int):(qC l).l 0=l:=by
 show(l.map Dat.n).map Dat.int=l;rw[List.map_map];exact(List.map_congr_left fun x _=>rfl).trans (List.map_id l)
def jN:List Dat->ay->AgR
 |[],s=>⟨true,s⟩
 |d::l,s=>bif !(cB (d.l 0) s).ok then⟨false,(cB (d.l 0) s).d⟩else jN l (cB (d.l 0) s).d
theorem B4 (b:List Int) (s:ay):(cB b s).d.n=s.n/\(cB b s).d.b=s.b/\(cB b s).d.c=s.c:=by
 unfold cB;cases ((b.length:Int)==0)<;>cases (b.getD 0 0==1)<;>cases (b.getD 0 0==2&& !decide (s.has<0))<;>cases (b.getD 0 0==3&&((b.drop 1).length:Int)==0)<;>cases ((aX (b.drop 1)).e !=0)<;>exact⟨rfl,rfl,rfl⟩
theorem J8 (b:List Int) (s:ay):(cq b s).j<0\/ff (cq b s).t:=by
 unfold cq;cases decide (s.has<0)
 case false=>exact .inl (by show(-1:Int)<0;decide)
 by_cases h:(cG b).e=0
 . rw[zaw,cK h];exact .inr (NF (DW h))
 . rw[zaw,cI h];exact .inl (by show(-1:Int)<0;decide)
theorem Kg {p:Int} {l:List Dat} {s:ay} (h:ff s.t):(bw p l s).j<0\/ff (bw p l s).t:=by
 unfold bw;cases (p !=(s.bg.length:Int)+1)
 case true=>exact .inl (by show(-1:Int)<0;decide)
 by_cases he:(aG s.t l).e=0
 . rw[zal,cK he];obtain⟨c1,c2,c3,c4⟩:=Fc he;rw[c4];exact .inr (Hl h c2 c3)
 . rw[zal,cI he];exact .inl (by show(-1:Int)<0;decide)
theorem Nu {s:ay} (h:s.has<0\/ff s.t):(cL s).j<0\/ff (cL s).t:=by
 unfold cL
 by_cases h0:s.has<0
 . rw[zaa h0];exact .inl (by show(-1:Int)<0;decide)
 rw[zap h0]
 by_cases he:(bV s.t).e=0
 . rw[zal,cK he];obtain⟨c1,c2,c3,c4⟩:=Il he;rw[c4];exact .inr (A7 (h.resolve_left h0))
 . rw[zal,cI he];exact .inl (by show(-1:Int)<0;decide)
structure AA (s : ay) : Prop where
 bg:∀d∈s.bg,(d.l 0).length<=6000
 Ft:s.has<0\/ff s.t
theorem AA.okD {s:ay} (h:AA s) (h1:0<=s.c.count/\s.c.count<1000000) (h2:s.b.length<900000) (h3:s.bg.length<1000000):iz s=true:=
 mQ.2 ⟨⟨h1.1,h1.2,h2,h3⟩,fun d hd=>by have:=h.bg d hd;omega,h.Ft⟩
theorem H8 {s:ay} (b:List Int) (h:AA s):AA (cB b s).d/\(cB b s).d.bg.length<=s.bg.length+1:=by
 unfold cB;cases ((b.length:Int)==0)
 case true=>exact⟨h,zbS _⟩
 cases (b.getD 0 0==1)
 case true=>exact⟨⟨h.bg,J8 _ _⟩,zbS _⟩
 cases c2:(b.getD 0 0==2&& !decide (s.has<0))
 case true=>
  cases ((aX (b.drop 1)).e !=0)
  case true=>exact⟨h,zbS _⟩
  have h0:¬s.has<0:=fun hn=>by rw[zaa hn,zbf,Bool.and_false]at c2;cases c2
  refine⟨⟨fun d hd=> ?_,Kg (h.Ft.resolve_left h0)⟩,by show(s.bg++[_]).length<=_;simp⟩;rcases zbe.1 (show d∈s.bg++[_] from hd)with hd|hd
  . exact h.bg d hd
  . rw[zbz.1 hd];have:=vm (aX (b.drop 1)).p (aX (b.drop 1)).l s;rw[BR];exact this
 cases (b.getD 0 0==3&&((b.drop 1).length:Int)==0)
 case true=>exact⟨⟨h.bg,Nu h.Ft⟩,zbS _⟩
 exact⟨h,zbS _⟩
theorem JL (b:List Int) (a:Int):(dx b a).text.length<=b.length:=by
 unfold dx o7;cases (decide (a<0)||decide (a>(b.length:Int)))
 case true=>exact zbq _
 rw[zal];generalize hr:b.drop a.toNat=r;have hl:r.length<=b.length:=by rw[<-hr,za6];omega
 cases decide ((r.length:Int)<8)
 case true=>exact zbq _
 cases (dO (r.take 6) !=ez ((r.drop 6).take 2))
 case true=>exact zbq _
 cases decide (ez (r.take 2)>60000)
 case true=>exact zbq _
 cases decide ((r.length:Int)-8<ez (r.take 2)+2)
 case true=>exact zbq _
 cases (dO ((r.drop 8).take (ez (r.take 2)).toNat) !=ez ((r.drop (8+(ez (r.take 2)).toNat)).take 2))
 case true=>exact zbq _
 show((r.drop 8).take (ez (r.take 2)).toNat).length<=_;rw[zav,za6];omega
theorem A8 {b:List Int} (hb:∀x∈b,0<=x/\x<256):∀(k:Nat) (a:Int) (acc:List Dat),0<=a->a<=(b.length:Int)->(acc.length:Int)<=a->(∀d∈acc,(d.l 0).length<=b.length)->(kj k b a acc).l.length<=b.length/\∀d∈(kj k b a acc).l,(d.l 0).length<=b.length
 |0,a,acc,h0,h1,h2,h3=>⟨by show acc.length<=_;omega,h3⟩
 |k+1,a,acc,h0,h1,h2,h3=>by
  have hN:([]:List Dat).length<=b.length/\∀d∈([]:List Dat),(d.l 0).length<=b.length:=⟨zbq _,fun d hd=>absurd hd (by simp)⟩
  simp only[kj]
  by_cases c:a<(b.length:Int)
  . rw[zaa c,zaw]
    by_cases k1:(dx b a).how=1
    . rw[mw k1];exact⟨by show acc.length<=_;omega,h3⟩
    rw[jh k1,zal]
    by_cases k2:(dx b a).how=2
    . rw[mw k2,zaw];exact hN
    rw[jh k2,zal];cases ((dx b a).seq !=(acc.length:Int)+1)
    . rw[zal];obtain⟨n1,n2⟩:=qt hb h0 h1 k1 k2;refine A8 hb k _ _ (by omega) n2 (by simp;omega) fun d hd=> ?_
      rcases zbe.1 hd with hd|hd
      . exact h3 d hd
      . rw[zbz.1 hd,BR];exact JL b a
    . exact hN
  . rw[zap c];exact⟨by show acc.length<=_;omega,h3⟩
theorem KE {b:List Int} (hb:∀x∈b,0<=x/\x<256):(cD b).l.length<=b.length/\∀d∈(cD b).l,(d.l 0).length<=b.length:=
 A8 hb _ 0 [] (by omega) (by omega) (by simp) fun d hd=>absurd hd (by simp)
structure JW where
 j:Int
 e:Int
 n:bn
 b:List Int
 o:gB
def noO:gB:=⟨-1,⟨0,false⟩,[],noT⟩
def I5 (s:ay):gB:=⟨s.has,s.c,s.bg,s.t⟩
def Pb (r:AgR) (n:bn) (b:List Int):JW:=bif r.ok then⟨0,0,n,b,I5 r.d⟩else⟨-1,8,n,b,noO⟩
def J9 (c:eE) (n:bn) (b:List Int):ay:=⟨-1,c,n,b,[],noT⟩
def ki (m:bn) (b:List Int):JW:=
 bif (tR m b).e !=0 then⟨-1,(tR m b).e,(tR m b).n,(tR m b).b,noO⟩else Pb (jN (tR m b).l (J9 (tR m b).c (tR m b).n (tR m b).b)) (tR m b).n (tR m b).b
def N13:aC:=⟨T48.tab,13,⟨[.ptr 0 0 0],[.cells [.buf 1 1,.int .i64,.bool,.int .i64,.bool],.ints .u8],0⟩,⟨[.np 3 0 0,.int .i64],[.cells [.buf 2 1,.int .i64,.bool,.int .i64,.bool],.gone,.ints .u8,.cells [.ptr 4 0 0,.np 6 0 0,.buf 5 1,.any],.cells [.ptr 0 0 0,.int .i64,.bool],.af [.ints .u8]]++bf 6,0⟩,[]⟩
abbrev IV:Type:=List Dat × Int × Int × bn × gB × List Int
def CT (m:Nat) (k:IV->Option (List Un)):IV->Option (List Un):=fun(a0,a1,a2,a3,a4,a5)=>
 bif decide (a2<a1)then
 chk (inb a2 a0.length)<|
 chk (decide (a2.toNat<a0.length))<|
 lt (ag a0 a2.toNat:Dat) fun d6=>
 chk (decide ((d6.l 0).length<=1000000)&&iz (⟨a4.has,a4.c,a3,a5,a4.bg,a4.t⟩:ay))<|
 lt (((cB (d6.l 0) (⟨a4.has,a4.c,a3,a5,a4.bg,a4.t⟩:ay)).d):ay) fun g8=>
 bif !((cB (d6.l 0) (⟨a4.has,a4.c,a3,a5,a4.bg,a4.t⟩:ay)).ok)then
 some ([.i (-1),.i 8]++Uns.enc (g8.n:bn)++[.l g8.b]++Uns.enc ((⟨(-1),(⟨0,false⟩:eE),[],(⟨(⟨0,0,0⟩:ao),(⟨0,0,0,0,0,0,0,0,0,0⟩:aq),(⟨0,0,0,0,0,0,0,0,0,false⟩:ai),[],[],[],[],[],[],[]⟩:aa)⟩:gB):gB))
 else
 k (a0,a1,(w64 (a2+1)),g8.n,(⟨g8.has,g8.c,g8.bg,g8.t⟩:gB),g8.b)
 else
 some ([.i 0,.i 0]++Uns.enc (a3:bn)++[.l a5]++Uns.enc (a4:gB))
def vk (m:Nat):Nat->IV->Option (List Un):=bq (CT m)
theorem xP (m:Nat) (n:Nat):vk m (n+1)=CT m (vk m n):=rfl
def Ov (F:IV->Option (List Un)):aU:=⟨[.lp [0,1,0,1,1,1,1],.blk 0,.code [1,1,1,1,1]],⟨frm 34 [(7,.ptr 2 0 0),(22,.af [.ints .u8]),(23,.int .i64),(24,.int .i64)],[.cells [.buf 14 1,.int .i64,.bool,.int .i64,.bool],.gone,.cells [.ptr 3 0 0,.np 5 0 0,.buf 4 1,.any],.cells [.ptr 0 0 0,.int .i64,.bool],.af [.ints .u8]]++bf 5++[.ints .u8],0⟩,onU F⟩
theorem X1 (m:Nat):∀n,HO N13 (Ov (vk m n)):=au ae T48.right (fun k=>[Ov k]) (fun k h=>(aH h aB)) fun k a=>by kernel_rfl
def t13 (m:Nat):bn × List Int->Option (List Un):=fun(a0,a1)=>
 bif a0.off then
 some ([.i (-1),.i 7]++Uns.enc (a0:bn)++[.l a1]++Uns.enc ((⟨(-1),(⟨0,false⟩:eE),[],(⟨(⟨0,0,0⟩:ao),(⟨0,0,0,0,0,0,0,0,0,0⟩:aq),(⟨0,0,0,0,0,0,0,0,0,false⟩:ai),[],[],[],[],[],[],[]⟩:aa)⟩:gB):gB))
 else
 chk (decide (a1.length<1000000))<|
 lt ((bif a0.off then[]else a1):List Int) fun l1=>
 chk (dF l1)<|
 bif !((cD l1).ok)then
 some ([.i (-1),.i 8]++Uns.enc (a0:bn)++[.l a1]++Uns.enc ((⟨(-1),(⟨0,false⟩:eE),[],(⟨(⟨0,0,0⟩:ao),(⟨0,0,0,0,0,0,0,0,0,0⟩:aq),(⟨0,0,0,0,0,0,0,0,0,false⟩:ai),[],[],[],[],[],[],[]⟩:aa)⟩:gB):gB))
 else
 bif (decide (((cD l1).pos)<(l1.length:Int)))then
 chk (decide (0<=((cD l1).pos)/\((cD l1).pos)<=(a1.length:Int)/\a1.length<1000000))<|
 lt ((bif (bh a0).1 then 0 else 7:Int):Int) fun x3=>
 lt ((bif (bh a0).1 then {(bh a0).2 with mC:=((cD l1).pos)}else(bh a0).2):bn) fun g4=>
 lt ((bif (bh a0).1 then a1.take ((cD l1).pos).toNat else a1):List Int) fun l5=>
 bif x3 !=0 then
 bif x3 !=0 then
 some ([.i (-1),.i x3]++Uns.enc (g4:bn)++[.l l5]++Uns.enc ((⟨(-1),(⟨0,false⟩:eE),[],(⟨(⟨0,0,0⟩:ao),(⟨0,0,0,0,0,0,0,0,0,0⟩:aq),(⟨0,0,0,0,0,0,0,0,0,false⟩:ai),[],[],[],[],[],[],[]⟩:aa)⟩:gB):gB))
 else
 none
 else
 vk m m ((cD l1).l,(((cD l1).l).length:Int),0,g4,(⟨(-1),(⟨(((cD l1).l).length:Int),false⟩:eE),[],(⟨(⟨0,0,0⟩:ao),(⟨0,0,0,0,0,0,0,0,0,0⟩:aq),(⟨0,0,0,0,0,0,0,0,0,false⟩:ai),[],[],[],[],[],[],[]⟩:aa)⟩:gB),l5)
 else
 vk m m ((cD l1).l,(((cD l1).l).length:Int),0,a0,(⟨(-1),(⟨(((cD l1).l).length:Int),false⟩:eE),[],(⟨(⟨0,0,0⟩:ao),(⟨0,0,0,0,0,0,0,0,0,0⟩:aq),(⟨0,0,0,0,0,0,0,0,0,false⟩:ai),[],[],[],[],[],[],[]⟩:aa)⟩:gB),a1)
def Zi (r:JW):List Un:=[.i r.j,.i r.e]++Uns.enc r.n++[.l r.b]++Uns.enc r.o
theorem Ub (m:Nat):∀(rest pre:List Dat) (n:Nat) (s:ay),rest.length<n->AA s->(0<=s.c.count/\s.c.count<1000000)->s.b.length<900000->s.bg.length<=pre.length->(pre++rest).length<1000000->(∀d∈rest,(d.l 0).length<=1000000)->
 vk m n (pre++rest,((pre++rest).length:Int),(pre.length:Int),s.n,({has:=s.has,c:=s.c,bg:=s.bg,t:=s.t}:gB),s.b)=some (Zi (Pb (jN rest s) s.n s.b)):=by
 intro rest
 induction rest with
 |nil=>
  intro pre n s hn hI hc hb hr hl hx;obtain⟨n,rfl⟩:=ak n (by simp at hn;omega);rw[xP];unfold CT;dsimp only;rw[az (by simp)];rfl
 |cons d rest ih=>
  intro pre n s hn hI hc hb hr hl hx;obtain⟨n,rfl⟩:=ak n (by simp at hn;omega);have hl2:pre.length+rest.length+1<1000000:=by simp only[zab,zac]at hl;omega
  rw[xP];unfold CT;dsimp only;rw[aQ (by simp only[zab,zac];omega),cJ (by omega) (by simp only[zab,zac];omega),aP (by simp)];have hg:ag (pre++d::rest) (pre.length:Int).toNat=d:=by rw[zay];exact aD _ _ _
  rw[hg];have hs:({has:=s.has,c:=s.c,n:=s.n,b:=s.b,bg:=s.bg,t:=s.t}:ay)=s:=rfl;refine av (by rw[zaa (hx d (by simp)),zbg];exact hI.okD hc hb (by omega)) ?_
  dsimp only[lt];obtain⟨k1,k2,k3⟩:=B4 (d.l 0) s;obtain⟨i1,i2⟩:=H8 (d.l 0) hI;simp only[jN];cases (cB (d.l 0) s).ok
  case false=>rw[show(!false)=true from rfl,zaw,zaw,k1,k2];rfl
  rw[show(!true)=false from rfl,zal,zal];have e:w64 ((pre.length:Int)+1)=((pre++[d]).length:Int):=by
   rw[ab (by omega) (by omega)];simp
  have:=ih (pre++[d]) n (cB (d.l 0) s).d (by simp at hn;omega) i1 (by rw[k3];exact hc) (by rw[k2];exact hb) (by rw[zab,List.length_singleton];omega) (by simpa using hl) (fun x hx'=>hx x (zaN _ hx'));rw[e,show pre++d::rest=(pre++[d])++rest by simp,this,k1,k2]
def f13:bn × List Int->Bool × List Un:=fun(a0,a1)=>(decide (a1.length<900000)&&dF a1,[.i ((ki a0 a1).j),.i ((ki a0 a1).e)]++Uns.enc (((ki a0 a1).n):bn)++[.l ((ki a0 a1).b)]++Uns.enc (((ki a0 a1).o):gB))
theorem Wh (a0:bn) (a1:List Int) (hc:(decide (a1.length<900000)&&dF a1)=true):∃m,t13 m (a0,a1)=some ([.i ((ki a0 a1).j),.i ((ki a0 a1).e)]++Uns.enc (((ki a0 a1).n):bn)++[.l ((ki a0 a1).b)]++Uns.enc (((ki a0 a1).o):gB)):=by
 rw[zae]at hc;obtain⟨hl0,hB⟩:=hc;have hl:=zaj hl0;obtain⟨_,hb⟩:=fN.1 hB;have ha:=N4 hb;obtain⟨r1,r2⟩:=KE hb;refine⟨900010, ?_⟩;unfold t13 ki tR
 try dsimp only
 cases ho:a0.off
 case true=>rfl
 dsimp only[lt,cond_false];refine av (zaa (by omega)) (av hB ?_);cases (cD a1).ok
 case false=>rfl
 have D:∀(n:bn) (b:List Int),b.length<900000->vk 900010 900010 ((cD a1).l,((cD a1).l.length:Int),0,n,({has:= -1,c:={count:=((cD a1).l.length:Int),bad:=false},bg:=[],t:=noT}:gB),b)=some (Zi (Pb (jN (cD a1).l (J9 {count:=((cD a1).l.length:Int),bad:=false} n b)) n b)):=fun n b h=>
  Ub 900010 (cD a1).l [] 900010 (J9 {count:=((cD a1).l.length:Int),bad:=false} n b) (by omega) {bg:=fun d hd=>absurd (show d∈([]:List Dat) from hd) (by simp),Ft:= .inl (by show(-1:Int)<0;decide)} ⟨by show 0<=((cD a1).l.length:Int);omega,by show((cD a1).l.length:Int)<1000000;omega⟩ h (zam _) (by rw[zat];omega) fun d hd=>by have:=r2 d hd;omega
 by_cases h:(cD a1).pos<(a1.length:Int)
 . rw[zaa h];dsimp only[Bool.not_true,cond_false,cond_true];refine av (zaa ⟨ha.1,ha.2,by omega⟩) ?_
   cases (bh a0).1
   . rfl
   . exact D _ _ (by show(a1.take _).length<900000;rw[zav];omega)
 . rw[zap h];exact D _ _ hl
theorem Ji:ER 13 (mkE N13.en N13.ex f13):=an ae T48.right (fun m=>[Ov (vk m m)]) (t:=t13) (by kernel_rfl) (fun m=>(aH (X1 m m) aB)) (fun m a=>by kernel_rfl) fun(a0,a1) hc=>Wh a0 a1 hc
def T13:Tb Tryz.prog LQ TE XX:=T48.add 13 _ Ji
theorem Yj {A:Type} [Uns A] {P:Program} {L:List FuncId} {O:br} {g:FuncId} {j col:Nat} {vs:List VP} {bs:List BP} {lk:Nat} {en en' ex:Pn} {f:A->Bool × List Un} {f':Int × A->Bool × List Un}
 (e1:en=⟨.ptr j 0 col::vs,bs,lk⟩) (e2:en'=⟨.np j 0 col::vs,bs,lk⟩) (h:eI P L O g (mkE en ex f)) (e:∀n a,f' (n,a)=(decide (0<=n)&&(f a).1,(f a).2)):eI P L O g (mkE en' ex f'):=by
 subst e1 e2;intro us Y hY;have hY:onU (fun p=>some ((f' p).1,Ys.now (f' p).2)) us=some (true,Y):=hY;unfold onU at hY
 split at hY
 case h_2=>cases hY
 rename_i p r hd;obtain⟨n,a⟩:=p
 split at hY
 case h_2=>cases hY
 have hY:some ((f' (n,a)).1,Ys.now (f' (n,a)).2)=some (true,Y):=hY;rw[e n a]at hY;simp only[zak,zaR,zae,zaf]at hY;obtain⟨⟨h0,h1⟩,rfl⟩:=hY;unfold Uns.dec instUnsProd at hd;dsimp only at hd
 split at hd
 case h_2=>cases hd
 rename_i n' r1 hn
 split at hd
 case h_2=>cases hd
 rename_i a' r2 ha;cases hd;have hu:us= .i n::r1:=Uns.ok _ _ _ hn;subst hu;have t:=h r1 (.now (f a).2) (by
  show onU (fun a=>some ((f a).1,Ys.now (f a).2)) r1=_;unfold onU;rw[ha];simp only[h1])
 intro φ H ws hnb hS hD;have hz:(⟨.np j 0 col::vs,bs,lk⟩:Pn).bB (.i n::r1)=(⟨.ptr j 0 col::vs,bs,lk⟩:Pn).bB r1:=by
  show({gu (dk bs ((Un.i n::r1).drop (1+VP.ly vs)))with lock:=lk}:aj)={gu (dk bs (r1.drop (0+VP.ly vs)))with lock:=lk}
  rw[Nat.add_comm 1,List.drop_succ_cons,zaC]
 have hS':Sim φ ((⟨.ptr j 0 col::vs,bs,lk⟩:Pn).bB r1) H:=hz▸hS;have hB':NB φ ((⟨.ptr j 0 col::vs,bs,lk⟩:Pn).bB r1) H:=hz▸hnb;obtain⟨v,vs',rfl,k1,k2⟩:=DVL.ga (show DVL φ H (Ev.Own φ ((⟨.np j 0 col::vs,bs,lk⟩:Pn).bB (.i n::r1))) (.np j 0 col n::VP.tos vs r1) ws from hD);rw[hz]at k1 k2;have k1':DV φ H (Ev.Own φ ((⟨.ptr j 0 col::vs,bs,lk⟩:Pn).bB r1)) (.ptr j 0 0 col) v:=by
  cases k1 with
  |jK _ _ _ _ hn=>omega
  |np _ _ _ x _ _ hx=>
   have:n.toNat*0+col=0*0+col:=by omega
   rw[this];exact .ptr _ _ _ _ _ hx
 obtain⟨N,y,H',φ',c1,c2,c3⟩:=t φ H (v::vs') hB' hS' (.cons k1' k2);refine⟨N,y,H',φ',c1, ?_,c3⟩;show kp (bz ⟨.np j 0 col::vs,bs,lk⟩ ex) φ ((⟨.np j 0 col::vs,bs,lk⟩:Pn).bB (.i n::r1)) H φ' _ H';rw[hz];exact c2
def ZV:JW->List Un:=fun r=>[.i r.j,.i r.e]++Uns.enc (r.n:bn)++[.l r.b]++Uns.enc (r.o:gB)
def aaj:bn × List Int->Bool × JW:=fun(a0,a1)=>(decide (a1.length<900000)&&dF a1,(ki a0 a1))
theorem Mf:ER 13 (mkB N13.en N13.ex aaj ZV):=rebind Ji fun(a0,a1)=>rfl
def ZZ:Tb Tryz.prog LQ TE XX:=T13.add 13 _ Mf
def ZG:Int × List Int × ay->Bool × List Un:=fun(a0,a1,a2)=>(decide (0<=a0)&&(f14 (a1,a2)).1,(f14 (a1,a2)).2)
def WV:Pn:=⟨[.np 0 0 0,.ints .u8],[.cells [.ptr 1 0 0,.np 5 0 0,.buf 4 1,.any],.cells [.ptr 2 0 0,.int .i64,.bool],.cells [.buf 3 1,.int .i64,.bool,.int .i64,.bool],.ints .u8,.af [.ints .u8]]++bf 5,0⟩
theorem DA:ER 14 (mkE WV N14.ex ZG):=Yj (en:=N14.en) rfl rfl Jj fun n (a0,a1)=>rfl
def Z1:Tb Tryz.prog LQ TE XX:=ZZ.add 14 _ DA
def Z9:Int × List Int × ay->Bool × List Un:=fun(a0,a1,a2)=>(decide (0<=a0)&&(f17 (a1,a2)).1,(f17 (a1,a2)).2)
def Yr:Pn:=⟨[.np 0 0 0,.ints .u8],[.cells [.ptr 1 0 0,.np 5 0 0,.buf 4 1,.any],.cells [.ptr 2 0 0,.int .i64,.bool],.cells [.buf 3 1,.int .i64,.bool,.int .i64,.bool],.ints .u8,.af [.ints .u8]]++bf 5,0⟩
theorem Eu:ER 17 (mkE Yr N17.ex Z9):=Yj (en:=N17.en) rfl rfl Ih fun n (a0,a1)=>rfl
def aaa:Tb Tryz.prog LQ TE XX:=Z1.add 17 _ Eu
def YC:sW->List Un:=fun r=>[.i r.e]++Uns.enc (r.d:ay)
def XA:Int × List Int × ay->Bool × sW:=fun(a0,a1,a2)=>(decide (0<=a0)&&(qF a1&&iz a2),(pW a1 a2))
theorem JD:ER 14 (mkB WV N14.ex XA YC):=rebind DA fun(a0,a1,a2)=>rfl
def Xq:Tb Tryz.prog LQ TE XX:=aaa.add 14 _ JD
def YQ:sW->List Un:=fun r=>[.l r.txt,.i r.e]++Uns.enc (r.d:ay)
def X5:Int × List Int × ay->Bool × sW:=fun(a0,a1,a2)=>(decide (0<=a0)&&(qF a1&&iz a2),(ee a1 a2))
theorem JB:ER 17 (mkB Yr N17.ex X5 YQ):=rebind Eu fun(a0,a1,a2)=>rfl
def S7:Tb Tryz.prog LQ TE XX:=Xq.add 17 _ JB
def nr2 (d:Dat):Dat:= .r [.n (d.i 0),.n (d.i 1)]
def nr7 (d:Dat):Dat:= .r [.n (d.i 0),.n (d.i 1),.n (d.i 2),.n (d.i 3),.n (d.i 4),.n (d.i 5),.n (bI (d.b 6))]
def I64 (n:Int):Prop:= -9223372036854775808<=n/\n<=9223372036854775807
theorem rX (f:Dat->List Int) (k:Nat) (hf:∀d,(f d).length=k):∀l:List Dat,(l.flatMap f).length=k*l.length
 |[]=>by simp
 |x::l=>by rw[zaZ,zab,hf,rX f k hf l,zac,Nat.mul_succ];omega
theorem A1 (f:Dat->List Int) (k:Nat) (hf:∀d,(f d).length=k) (l:List Dat):(bU f l).length=1+k*l.length:=by
 rw[bU,zac,rX f k hf];omega
theorem j9 {l A B:List Int} {x:Int} (v:Int) (h:l=A++x::B):nx (rdS l A.length v)=rdS l (A++[x]).length x:=by
 rw[yG v (by rw[h];simp)];rw[show l.getD A.length 0=x by rw[h];exact bK _ _ _,zab];rfl
theorem CG {l A B:List Int} {x:Int} (v most:Int) (h:l=A++x::B) (h0:0<=x) (h1:x<=most):mx (rdS l A.length v) most=rdS l (A++[x]).length x:=by
 have e:l.getD A.length 0=x:=by rw[h];exact bK _ _ _
 rw[PG v most (by rw[h];simp) (by rw[e];exact h0) (by rw[e];exact h1),e,zab];rfl
theorem Iv (l:List Int):∀(x:List Dat) (A B:List Int) (v:Int),l=A++(x.flatMap dr++B)->∃v',ct x.length (rdS l A.length v)=(x.map nr2,rdS l (A++x.flatMap dr).length v')
 |[],A,B,v,_=>⟨v,by rw[List.flatMap_nil,zaK];rfl⟩
 |d::x,A,B,v,h=>by
  have h:l=A++d.i 0::d.i 1::(x.flatMap dr++B):=by rw[h];simp[dr]
  have e0:=j9 (A:=A) (x:=d.i 0) v h;have e1:=j9 (l:=l) (A:=A++[d.i 0]) (x:=d.i 1) (B:=x.flatMap dr++B) (d.i 0) (by rw[h];simp);obtain⟨v',ih⟩:=Iv l x (A++[d.i 0]++[d.i 1]) B (d.i 1) (by rw[h];simp);refine⟨v', ?_⟩;simp only[zac,ct];rw[e0,e1,ih];simp only[zaS,nr2,rdS,zaZ,dr,zaq,zaI,zat]
theorem Ib (l:List Int):∀(x:List Dat) (A B:List Int) (v:Int),l=A++(x.flatMap k8++B)->∃v',eJ x.length (rdS l A.length v)=(x.map nrN,rdS l (A++x.flatMap k8).length v')
 |[],A,B,v,_=>⟨v,by rw[List.flatMap_nil,zaK];rfl⟩
 |d::x,A,B,v,h=>by
  have h:l=A++d.i 0::d.i 1::d.i 2::(x.flatMap k8++B):=by rw[h];simp[k8]
  have e0:=j9 (A:=A) (x:=d.i 0) v h;have e1:=j9 (l:=l) (A:=A++[d.i 0]) (x:=d.i 1) (B:=d.i 2::(x.flatMap k8++B)) (d.i 0) (by rw[h];simp);have e2:=j9 (l:=l) (A:=A++[d.i 0]++[d.i 1]) (x:=d.i 2) (B:=x.flatMap k8++B) (d.i 1) (by rw[h];simp);obtain⟨v',ih⟩:=Ib l x (A++[d.i 0]++[d.i 1]++[d.i 2]) B (d.i 2) (by rw[h];simp);refine⟨v', ?_⟩;simp only[zac,eJ];rw[e0,e1,e2,ih];simp only[zaS,nrN,rdS,zaZ,k8,zaq,zaI,zat]
theorem wZ {l:List Int} {x:List Dat} {A B:List Int} (v most:Int) (h:l=A++(bU dr x++B)) (hm:(x.length:Int)<=most):∃v',dL (rdS l A.length v) most=(x.map nr2,rdS l (A++bU dr x).length v'):=by
 have e:=CG (l:=l) (A:=A) (x:=(x.length:Int)) (B:=x.flatMap dr++B) v most (by rw[h];simp[bU]) (by omega) hm;obtain⟨v',ih⟩:=Iv l x (A++[(x.length:Int)]) B (x.length:Int) (by rw[h];simp[bU]);refine⟨v', ?_⟩;unfold dL;rw[e,show(rdS l (A++[(x.length:Int)]).length (x.length:Int)).v.toNat=x.length from rfl,ih];simp only[bU,zaq,zaI,zat]
theorem QD {l:List Int} {x:List Dat} {A B:List Int} (v most:Int) (h:l=A++(bU k8 x++B)) (hm:(x.length:Int)<=most):∃v',rN (rdS l A.length v) most=(x.map nrN,rdS l (A++bU k8 x).length v'):=by
 have e:=CG (l:=l) (A:=A) (x:=(x.length:Int)) (B:=x.flatMap k8++B) v most (by rw[h];simp[bU]) (by omega) hm;obtain⟨v',ih⟩:=Ib l x (A++[(x.length:Int)]) B (x.length:Int) (by rw[h];simp[bU]);refine⟨v', ?_⟩;unfold rN;rw[e,show(rdS l (A++[(x.length:Int)]).length (x.length:Int)).v.toNat=x.length from rfl,ih];simp only[bU,zaq,zaI,zat]
def headD (d:bc):List Int:=[d.a.year,d.a.month,d.a.basis,d.b.fee,d.b.bC,d.b.target,d.b.advance,d.b.fm,d.b.oc,d.b.ic,d.b.late,d.b.mf,d.b.clean]
def nrD (d:bc):bc:=⟨d.a,d.aK.map nr2,d.notes.map nrN,d.b,d.s0.map nr2,d.s1.map nr2,d.s2.map nr2⟩
theorem Gu {d:bc} {l:List Int} (hl:jk d=l) (h0:d.aK.length<=64) (h1:d.notes.length<=8) (h2:d.s0.length<=16) (h3:d.s1.length<=16) (h4:d.s2.length<=16):∃v,cg 0 (l.length:Int) false l=⟨nrD d,rdS l l.length v⟩:=by
 have hlen:13<=l.length:=by rw[<-hl];simp[jk]
 have hd:∀i,i<13->l.getD i 0=(headD d).getD i 0:=fun i hi=>by
  rw[<-hl];unfold jk;simp only[zag];rw[zax (by simpa using hi)];rfl
 have nxk:∀(k:Nat) (v:Int),k<13->nx (rdS l k v)=rdS l (k+1) ((headD d).getD k 0):=fun k v hk=>by rw[yG v (by omega),hd k hk]
 have n1:rdN 0 (l.length:Int) false l=rdS l 1 d.a.year:=nxk 0 0 (by decide);obtain⟨v1,p1⟩:=wZ (l:=l) (x:=d.aK) (A:=headD d) (B:=bU k8 d.notes++(bU dr d.s0++(bU dr d.s1++bU dr d.s2))) d.b.clean 64 hl.symm (by omega);obtain⟨v2,p2⟩:=QD (l:=l) (x:=d.notes) (A:=headD d++bU dr d.aK) (B:=bU dr d.s0++(bU dr d.s1++bU dr d.s2)) v1 8 (by rw[<-hl];simp only[jk,headD,zaq]) (by omega);obtain⟨v3,p3⟩:=wZ (l:=l) (x:=d.s0) (A:=headD d++bU dr d.aK++bU k8 d.notes) (B:=bU dr d.s1++bU dr d.s2) v2 16 (by rw[<-hl];simp only[jk,headD,zaq]) (by omega);obtain⟨v4,p4⟩:=wZ (l:=l) (x:=d.s1) (A:=headD d++bU dr d.aK++bU k8 d.notes++bU dr d.s0) (B:=bU dr d.s2) v3 16 (by rw[<-hl];simp only[jk,headD,zaq]) (by omega);obtain⟨v5,p5⟩:=wZ (l:=l) (x:=d.s2) (A:=headD d++bU dr d.aK++bU k8 d.notes++bU dr d.s0++bU dr d.s1) (B:=[]) v4 16 (by rw[<-hl];simp only[jk,headD,zaq,zaK]) (by omega);have he:headD d++bU dr d.aK++bU k8 d.notes++bU dr d.s0++bU dr d.s1++bU dr d.s2=l:=by rw[<-hl];simp only[jk,headD,zaq]
 rw[he]at p5;refine⟨v5, ?_⟩;unfold cg Dh;rw[n1];simp(disch:=omega) only[nxk,Nat.reduceAdd];unfold KQ;have p1:dL (rdS l 13 ((headD d).getD 12 0)) 64=(d.aK.map nr2,rdS l (headD d++bU dr d.aK).length v1):=p1;simp only[p1,p2,p3,p4,p5];rfl
theorem M1 {d:bc} (D:S0 d):(jk d).length<=300:=by
 have h1:=D.Kc;have h2:=D.Nw;have h3:=b9 D.s0;have h4:=b9 D.s1;have h5:=b9 D.s2;simp only[jk,zab,A1 dr 2 (fun _=>rfl),A1 k8 3 (fun _=>rfl),zac,zar];omega
theorem JJ {d:bc} (hs:(bW d).isSome=true) (hn:∀n∈jk d,I64 n) (hd:nrD d=d):cG (fW d)=⟨0,d⟩:=by
 have D:=dg hs;have h1:=D.Kc;have h2:=D.Nw;have h3:=b9 D.s0;have h4:=b9 D.s1;have h5:=b9 D.s2;obtain⟨v,e⟩:=Gu (d:=d) rfl (by omega) (by omega) h3.2 h4.2 h5.2;rw[hd]at e;unfold cG fW;rw[hs,zaw,gq,show(8*(jk d).length%8==0)=true by rw[Nat.mul_mod_right];rfl,sU hn];unfold ddV;rw[e];dsimp only;rw[hs];have:(rdS (jk d) (jk d).length v).n=0:=by show(((jk d).length-(jk d).length:Nat):Int)=0;omega
 rw[this];rfl
theorem Au {d:bc}:(fW d).length<=2400:=by
 unfold fW;cases hs:(bW d).isSome
 . exact zbq _
 . rw[zaw,gq];have:=M1 (dg hs);omega
theorem u8_in (x:Int):0<=wu8 x/\wu8 x<256:=by rw[u8m];omega
theorem u7 (l:List Int):∀x∈cF l,0<=x/\x<256:=by
 intro x hx;obtain⟨n,_,h⟩:=List.mem_flatMap.1 (show x∈l.flatMap ow from hx);simp only[ow,zaT,List.not_mem_nil,or_false]at h;rcases h with h|h|h|h|h|h|h|h<;>rw[h]<;>exact u8_in _
theorem JN (d:bc):qF (fW d)=true:=by
 refine nY.2 ⟨by have:=Au (d:=d);omega,fun x hx=> ?_⟩;unfold fW at hx;cases hs:(bW d).isSome
 . rw[hs]at hx;exact absurd hx (by simp)
 . rw[hs]at hx;exact u7 _ x hx
theorem ZI (b:Bool):(0<=bI b/\bI b<=1)/\((bI b==1)=b):=by cases b<;>decide
theorem HV (l:List Int):∀(x:List Dat) (A B:List Int) (v:Int),l=A++(x.flatMap my++B)->∃v',lN x.length (rdS l A.length v)=(x.map nr7,rdS l (A++x.flatMap my).length v')
 |[],A,B,v,_=>⟨v,by rw[List.flatMap_nil,zaK];rfl⟩
 |d::x,A,B,v,h=>by
  have h:l=A++d.i 0::d.i 1::d.i 2::d.i 3::d.i 4::d.i 5::bI (d.b 6)::(x.flatMap my++B):=by rw[h];simp[my]
  obtain⟨b1,b2⟩:=ZI (d.b 6);have e0:=j9 (A:=A) (x:=d.i 0) v h;have e1:=j9 (l:=l) (A:=A++[d.i 0]) (x:=d.i 1) (B:=d.i 2::d.i 3::d.i 4::d.i 5::bI (d.b 6)::(x.flatMap my++B)) (d.i 0) (by rw[h];simp);have e2:=j9 (l:=l) (A:=A++[d.i 0]++[d.i 1]) (x:=d.i 2) (B:=d.i 3::d.i 4::d.i 5::bI (d.b 6)::(x.flatMap my++B)) (d.i 1) (by rw[h];simp);have e3:=j9 (l:=l) (A:=A++[d.i 0]++[d.i 1]++[d.i 2]) (x:=d.i 3) (B:=d.i 4::d.i 5::bI (d.b 6)::(x.flatMap my++B)) (d.i 2) (by rw[h];simp);have e4:=j9 (l:=l) (A:=A++[d.i 0]++[d.i 1]++[d.i 2]++[d.i 3]) (x:=d.i 4) (B:=d.i 5::bI (d.b 6)::(x.flatMap my++B)) (d.i 3) (by rw[h];simp);have e5:=j9 (l:=l) (A:=A++[d.i 0]++[d.i 1]++[d.i 2]++[d.i 3]++[d.i 4]) (x:=d.i 5) (B:=bI (d.b 6)::(x.flatMap my++B)) (d.i 4) (by rw[h];simp);have e6:=CG (l:=l) (A:=A++[d.i 0]++[d.i 1]++[d.i 2]++[d.i 3]++[d.i 4]++[d.i 5]) (x:=bI (d.b 6)) (B:=x.flatMap my++B) (d.i 5) 1 (by rw[h];simp) b1.1 b1.2;obtain⟨v',ih⟩:=HV l x (A++[d.i 0]++[d.i 1]++[d.i 2]++[d.i 3]++[d.i 4]++[d.i 5]++[bI (d.b 6)]) B (bI (d.b 6)) (by rw[h];simp);refine⟨v', ?_⟩;simp only[zac,lN];rw[e0,e1,e2,e3,e4,e5,e6,ih];simp only[zaS,nr7,rdS,b2,zaZ,my,zaq,zaI,zat]
theorem tf {p:Int} {l:List Dat} (hT:kA p l=true) (hn:∀n∈gR p l,I64 n) (hd:l.map nr7=l):aX (ft p l)=⟨p,0,l⟩:=by
 obtain⟨_,hl⟩:=pE hT;unfold aX ft;rw[hT,zaw,gq,show(8*(gR p l).length%8==0)=true by rw[Nat.mul_mod_right];rfl,sU hn];have n1:vv (gR p l)=rdS (gR p l) 1 p:=j9 (l:=gR p l) (A:=[]) (x:=p) (B:=(l.length:Int)::l.flatMap my) 0 rfl;have n2:mx (rdS (gR p l) 1 p) 64=rdS (gR p l) 2 (l.length:Int):=CG (l:=gR p l) (A:=[p]) (x:=(l.length:Int)) (B:=l.flatMap my) p 64 rfl (by omega) (by omega);obtain⟨v,e⟩:=HV (gR p l) l [p,(l.length:Int)] [] (l.length:Int) (by rw[zaK];rfl);have hw:yJ (gR p l)=(l,rdS (gR p l) (gR p l).length v):=by
  unfold yJ;rw[n1,n2,show(rdS (gR p l) 2 (l.length:Int)).v.toNat=l.length from rfl];refine e.trans ?_
  rw[hd];rfl
 unfold Hq;rw[hw,n1];dsimp only;rw[show(rdS (gR p l) 1 p).v=p from rfl,hT];have:(rdS (gR p l) (gR p l).length v).n=0:=by show(((gR p l).length-(gR p l).length:Nat):Int)=0;omega
 rw[this];rfl
theorem s8 (p:Int) (l:List Dat):qF (ft p l)=true:=by
 unfold ft;cases hT:kA p l
 . rfl
 . obtain⟨_,hl⟩:=pE hT;rw[zaw];refine nY.2 ⟨?_,u7 _⟩;rw[gq];simp only[gR,zac,rX my 7 (fun _=>rfl)];omega
theorem xq (n:Int):ez (gD n)=n%65536:=by
 show(0*256+n/256%256)*256+n%256=n%65536;omega
theorem Ky {s:Int} (h0:0<=s) (h1:s<4294967296):ez (gD (s/65536)++gD s)=s:=by
 show(((0*256+s/65536/256%256)*256+s/65536%256)*256+s/256%256)*256+s%256=s;omega
theorem Ir (l:List Int):0<=dO l/\dO l<65536:=by unfold dO;omega
theorem mD (s:Int) (x rest:List Int):dR s x++rest=dW s x++(gD (dO (dW s x))++(x++(gD (dO x)++rest))):=by simp[dR]
theorem Hn {s:Int} {x:List Int} (rest:List Int) (a:Int) (h0:0<=s) (h1:s<4294967296) (hx:x.length<=60000):o7 (dR s x++rest) a=⟨x,s,a+10+(x.length:Int),0⟩:=by
 have e6:(dR s x++rest).take 6=dW s x:=by rw[mD];rfl
 have e2:((dR s x++rest).drop 6).take 2=gD (dO (dW s x)):=by rw[mD];rfl
 have el:(dR s x++rest).take 2=gD (x.length:Int):=by rw[mD];rfl
 have es:((dR s x++rest).drop 2).take 4=gD (s/65536)++gD s:=by rw[mD];rfl
 have e8:(dR s x++rest).drop 8=x++(gD (dO x)++rest):=by rw[mD];rfl
 have hlen:(dR s x++rest).length=x.length+10+rest.length:=by rw[zab,mM]
 have n2:ez (gD (x.length:Int))=(x.length:Int):=by rw[xq];omega
 have n6:ez (gD (dO (dW s x)))=dO (dW s x):=by rw[xq];have:=Ir (dW s x);omega
 have nx:ez (gD (dO x))=dO x:=by rw[xq];have:=Ir x;omega
 have et:((dR s x++rest).drop 8).take x.length=x:=by rw[e8];exact List.take_left
 have eu:((dR s x++rest).drop (8+x.length)).take 2=gD (dO x):=by
  rw[<-List.drop_drop,e8,zbr];rfl
 unfold o7;rw[e6,e2,el,es,n2,n6,zay,et,eu,nx,Ky h0 h1,hlen,zap (by omega),bne_self_eq_false,zap (by omega),zap (by omega),bne_self_eq_false];rfl
def ck:Nat->List (List Int)->List Int
 |_,[]=>[]
 |n,x::xs=>dR ((n:Int)+1) x++ck (n+1) xs
theorem sf (y:List Int):∀(xs:List (List Int)) (n:Nat),ck n (xs++[y])=ck n xs++dR (((n+xs.length:Nat):Int)+1) y
 |[],n=>by simp[ck]
 |x::xs,n=>by
  rw[zaI,ck,sf y xs (n+1),ck,zaq,zac,show n+1+xs.length=n+(xs.length+1) by omega]
theorem oM {M:Nat}:∀(xs:List (List Int)) (n:Nat),(∀x∈xs,x.length<=M)->xs.length*10<=(ck n xs).length/\(ck n xs).length<=xs.length*(M+10)
 |[],n,_=>by simp[ck]
 |x::xs,n,h=>by
  obtain⟨h1,h2⟩:=oM xs (n+1) fun y hy=>h y (zaN _ hy)
  have:=h x (by simp);rw[ck,zab,mM,zac,za0,za0];omega
theorem Ek {b:List Int}:∀(xs:List (List Int)) (n:Nat) (acc:List Dat) (pre tail:List Int) (j:Nat),b=pre++(ck n xs++tail)->acc.length=n->n+xs.length<4294967295->(∀x∈xs,x.length<=60000)->
 kj (xs.length+j) b (pre.length:Int) acc=kj j b ((pre++ck n xs).length:Int) (acc++xs.map qC)
 |[],n,acc,pre,tail,j,_,_,_,_=>by simp[ck]
 |x::xs,n,acc,pre,tail,j,hb,ha,hn,hx=>by
  have hb:b=pre++(dR ((n:Int)+1) x++(ck (n+1) xs++tail)):=by rw[hb,ck,zaq]
  have hl:=hx x (by simp);rw[zac]at hn;have hlen:pre.length+10<=b.length:=by rw[hb,zab,zab,mM];omega
  have ho:dx b (pre.length:Int)=⟨x,(n:Int)+1,(pre.length:Int)+10+(x.length:Int),0⟩:=by
   rw[xS (by omega) (by omega),zay]
   conv=>lhs;rw[hb,zbr]
   exact Hn _ _ (by omega) (by omega) hl
  have ih:=Ek (b:=b) xs (n+1) (acc++[qC x]) (pre++dR ((n:Int)+1) x) tail j (by rw[hb,zaq]) (by simp[ha]) (by omega) fun y hy=>hx y (zaN _ hy)
  rw[zac,show xs.length+1+j=xs.length+j+1 by omega];simp only[kj];rw[ho];dsimp only;rw[zaa (show(pre.length:Int)<(b.length:Int) by omega),zaw,show((0:Int)==1)=false from rfl,show((0:Int)==2)=false from rfl,zal,zal,ha,bne_self_eq_false,zal];have e:(pre.length:Int)+10+(x.length:Int)=((pre++dR ((n:Int)+1) x).length:Int):=by rw[zab,mM];omega
  rw[e,ih,ck,zaq,zaq,zaS];rfl
theorem Jt {xs:List (List Int)} (tail:List Int) (hn:xs.length<1000000) (hx:∀x∈xs,x.length<=60000) (ht:∀a,tail=[]\/(o7 tail a).how=1):cD (ck 0 xs++tail)=⟨xs.map qC,((ck 0 xs).length:Int),true⟩:=by
 have hl:=(oM xs 0 hx).1;have hL:(ck 0 xs++tail).length=(ck 0 xs).length+tail.length:=zab;obtain⟨j,hj⟩:∃j,(ck 0 xs++tail).length+1=xs.length+j:=⟨(ck 0 xs++tail).length+1-xs.length,by omega⟩
 have e:=Ek (b:=ck 0 xs++tail) xs 0 [] [] tail j rfl rfl (by omega) hx;rw[zat,zat]at e;unfold cD;rw[hj];refine e.trans ?_
 cases j with
 |zero=>rfl
 |succ j=>
  simp only[kj]
  by_cases ht0:tail=[]
  . subst ht0;rw[zaK,zap (Int.lt_irrefl _)];rfl
  . have hp:0<tail.length:=List.length_pos_iff.2 ht0;rw[zaa (show((ck 0 xs).length:Int)<((ck 0 xs++tail).length:Int) by omega),zaw];have ho:(dx (ck 0 xs++tail) ((ck 0 xs).length:Int)).how=1:=by
     rw[xS (by omega) (by omega),zay,zbr];exact(ht _).resolve_left ht0
    rw[ho];rfl
theorem y7 (x:List Int) (s:ay) (c:eE) (n:bn) (b:List Int):cB x {s with c:=c,n:=n,b:=b}=⟨(cB x s).ok,{(cB x s).d with c:=c,n:=n,b:=b}⟩:=by
 unfold cB;cases ((x.length:Int)==0)
 case true=>rfl
 cases (x.getD 0 0==1)
 case true=>rfl
 rw[zal,zal,zal,zal];dsimp only;cases (x.getD 0 0==2&& !decide (s.has<0))
 case true=>cases ((aX (x.drop 1)).e !=0)<;>rfl
 cases (x.getD 0 0==3&&((x.drop 1).length:Int)==0)<;>rfl
theorem zU (c:eE) (n:bn) (b:List Int):∀(l:List Dat) (s:ay),jN l {s with c:=c,n:=n,b:=b}=⟨(jN l s).ok,{(jN l s).d with c:=c,n:=n,b:=b}⟩
 |[],s=>rfl
 |d::l,s=>by
  simp only[jN];rw[y7];dsimp only;cases (cB (d.l 0) s).ok
  . rfl
  . exact zU c n b l _
theorem Ah (x:List Int):∀(l:List Dat) (s:ay),(jN l s).ok=true->jN (l++[qC x]) s=⟨(cB x (jN l s).d).ok,(cB x (jN l s).d).d⟩
 |[],s,_=>by
  simp only[zat,jN,BR];cases h:(cB x s).ok<;>rfl
 |d::l,s,h=>by
  simp only[zaI,jN]at h⊢;cases hk:(cB (d.l 0) s).ok
  . rw[hk]at h;cases h
  . rw[hk]at h;exact Ah x l _ h
def fV:ay:=J9 ⟨0,false⟩ ⟨0,false,0,false⟩ []
structure Live (s : ay) (xs : List (List Int)) : Prop where
 bytes:s.b=ck 0 xs
 count:s.c=⟨(xs.length:Int),false⟩
 short:∀x∈xs,x.length<=3601
 many:xs.length<=240
 bg:s.bg.length<=xs.length
 ok:AA s
 SQ:jN (xs.map qC) fV=⟨true,{fV with has:=s.has,bg:=s.bg,t:=s.t}⟩
theorem Live.len {s:ay} {xs:List (List Int)} (h:Live s xs):s.b.length<=880000:=by
 have:=(oM xs 0 h.short).2;rw[h.bytes];have:=h.many;omega
theorem Live.okD {s:ay} {xs:List (List Int)} (h:Live s xs):iz s=true:=by
 have:=h.len;have:=h.many;have:=h.bg;exact h.ok.okD (by rw[h.count];dsimp only;omega) (by omega) (by omega)
theorem Live.new (n:bn):Live (J9 ⟨0,false⟩ n []) [] where
 bytes:=rfl
 count:=rfl
 short:=fun x hx=>absurd hx (by simp)
 many:=by simp
 bg:=zam _
 ok:=⟨fun d hd=>absurd (show d∈([]:List Dat) from hd) (by simp),.inl (by show(-1:Int)<0;decide)⟩
 SQ:=rfl
theorem Live.fC {s s':ay} {xs:List (List Int)} {x:List Int} (h:Live s xs) (ha:cB x s=⟨true,{s with has:=s'.has,bg:=s'.bg,t:=s'.t}⟩) (hb:s'.b=s.b++dR ((xs.length:Int)+1) x) (hc:s'.c=⟨(xs.length:Int)+1,false⟩) (hx:x.length<=3601) (hn:xs.length<240):Live s' (xs++[x]):=by
 have hI:=H8 x h.ok;rw[ha]at hI;obtain⟨i1,i2⟩:=hI;refine⟨?_, ?_, ?_, ?_, ?_,⟨i1.bg,i1.Ft⟩, ?_⟩
 . rw[hb,h.bytes,sf,zaC]
 . rw[hc,zab];simp
 . intro y hy;rcases zbe.1 hy with hy|hy
   . exact h.short y hy
   . rw[zbz.1 hy];exact hx
 . rw[zab,List.length_singleton];omega
 . rw[zab,List.length_singleton];have i2:s'.bg.length<=s.bg.length+1:=i2;have:=h.bg;omega
 . rw[List.map_append,List.map_singleton,Ah x _ _ (by rw[h.SQ]),h.SQ];have e:=y7 x s fV.c fV.n fV.b;rw[ha]at e;have e:cB x {fV with has:=s.has,bg:=s.bg,t:=s.t}=⟨true,{fV with has:=s'.has,bg:=s'.bg,t:=s'.t}⟩:=e;rw[e]
theorem Live.opened {s:ay} {xs:List (List Int)} (h:Live s xs) (m:bn) (ho:m.off=false):ki m s.b=⟨0,0,m,s.b,I5 s⟩:=by
 have hx:∀x∈xs,x.length<=60000:=fun x hx=>by have:=h.short x hx;omega
 have e:=Jt (xs:=xs) [] (by have:=h.many;omega) hx fun _=> .inl rfl
 rw[zaK]at e;have hj:tR m s.b=⟨0,xs.map qC,0,m,s.b,⟨(xs.length:Int),false⟩⟩:=by
  unfold tR;rw[ho,h.bytes,e];dsimp only;rw[zap (Int.lt_irrefl _),zaW];rfl
 unfold ki;rw[hj];dsimp only;have:=zU ⟨(xs.length:Int),false⟩ m s.b (xs.map qC) fV;rw[h.SQ]at this;have:jN (xs.map qC) (J9 ⟨(xs.length:Int),false⟩ m s.b)=⟨true,{s with c:=⟨(xs.length:Int),false⟩,n:=m,b:=s.b}⟩:=this;rw[this];unfold Pb I5;rw[h.count];rfl
def Up (m:bn):Prop:=m.off=false/\m.lit=false
theorem Up.Zj {m:bn} (h:Up m):bh m=(true,m):=by unfold bh;rw[h.1,h.2];rfl
theorem Wx {s:ay} (x:List Int) (hu:Up s.n) (hb:s.c.bad=false):nP x s.c s.n s.b=⟨0,⟨s.c.count+1,false⟩,{s.n with mC:=((s.b++dR (s.c.count+1) x).length:Int)},s.b++dR (s.c.count+1) x⟩:=by
 unfold nP;rw[hb,hu.Zj];dsimp only[cond_false,cond_true];rw[hu.Zj];rfl
def kept (x:List Int) (s:ay):ay:={s with c:=⟨s.c.count+1,false⟩,n:={s.n with mC:=((s.b++dR (s.c.count+1) x).length:Int)},b:=s.b++dR (s.c.count+1) x}
theorem I7 {s:ay} {x:List Int} {a:KD} {bg:List Dat} (hu:Up s.n) (hb:s.c.bad=false) (ha:a.e=0):A6 x a bg s=⟨a.txt,0,{kept x s with has:=a.j,bg:=bg,t:=a.t}⟩:=by
 unfold A6 vG DJ;rw[Wx x hu hb,ha];rfl
theorem Live.bad {s:ay} {xs:List (List Int)} (h:Live s xs):s.c.bad=false:=by rw[h.count]
theorem Live.load {s:ay} {xs:List (List Int)} {d:bc} (h:Live s xs) (hu:Up s.n) (h0:s.has<0) (hd:cG (fW d)=⟨0,d⟩) (hn:xs.length<240):
 pW (fW d) s=⟨[],0,{kept (1::fW d) s with has:=0,t:=dy d}⟩/\Live {kept (1::fW d) s with has:=0,t:=dy d} (xs++[1::fW d]):=by
 have hl:cq (fW d) s=⟨0,[],0,dy d⟩:=by
  unfold cq;rw[zaa h0,hd];rfl
 have hlen:=Au (d:=d);refine⟨?_,h.fC (x:=1::fW d) ?_ ?_ ?_ (by rw[zac];omega) hn⟩
 . unfold pW;rw[hl,I7 hu h.bad rfl];rfl
 . unfold cB;rw[show(((1::fW d).length:Int)==0)=false by rw[zbR,zac];omega];simp only[zaO,List.drop_succ_cons,zbN];rw[hl];rfl
 . show s.b++dR (s.c.count+1) _=_;rw[h.count]
 . show eE.mk (s.c.count+1) false=_;rw[h.count]
theorem Live.VB {s:ay} {xs:List (List Int)} {l:List Dat} (h:Live s xs) (hu:Up s.n) (h0:¬s.has<0) (hd:aX (ft ((s.bg.length:Int)+1) l)=⟨(s.bg.length:Int)+1,0,l⟩) (he:(aG s.t l).e=0) (hn:xs.length<240):
 ee (ft ((s.bg.length:Int)+1) l) s=⟨oq (aG s.t l),0,{kept (2::ft ((s.bg.length:Int)+1) l) s with has:=0,bg:=s.bg++[qC (oq (aG s.t l))],t:=(aG s.t l).t}⟩/\Live {kept (2::ft ((s.bg.length:Int)+1) l) s with has:=0,bg:=s.bg++[qC (oq (aG s.t l))],t:=(aG s.t l).t} (xs++[2::ft ((s.bg.length:Int)+1) l]):=by
 have hcl:bw ((s.bg.length:Int)+1) l s=⟨0,oq (aG s.t l),0,(aG s.t l).t⟩:=by
  unfold bw;rw[bne_self_eq_false,zal,cK he]
 have hlen:(ft ((s.bg.length:Int)+1) l).length<=3600:=by
  unfold ft;cases hT:kA ((s.bg.length:Int)+1) l
  . exact zbq _
  . obtain⟨_,hl⟩:=pE hT;rw[zaw,gq];simp only[gR,zac,rX my 7 (fun _=>rfl)];omega
 generalize ft ((s.bg.length:Int)+1) l=y at*
 refine⟨?_,h.fC (x:=2::y) ?_ ?_ ?_ (by rw[zac];omega) hn⟩
 . unfold ee;rw[zap h0,zal,hd];dsimp only;rw[zap (show ¬(s.bg.length:Int)+1<=(s.bg.length:Int) by omega),hcl,I7 hu h.bad rfl];rfl
 . unfold cB;rw[show(((2::y).length:Int)==0)=false by rw[zbR,zac];omega];simp only[zaO,List.drop_succ_cons,zbN];rw[hd];dsimp only;rw[hcl,zap h0];rfl
 . show s.b++dR (s.c.count+1) _=_;rw[h.count]
 . show eE.mk (s.c.count+1) false=_;rw[h.count]
theorem vV {l:List Int} (h:l.all (fun n=>decide (-9223372036854775808<=n/\n<=9223372036854775807))=true):∀n∈l,I64 n:=fun n hn=>by
 have:=zao.1 h n hn;rw[zaf]at this;exact this
theorem NL:cG (fW fo)=⟨0,fo⟩:=JJ FZ (vV (by kernel_rfl)) rfl
theorem Mn:aX (ft 1 lE)=⟨1,0,lE⟩:=tf (by kernel_rfl) (vV (by kernel_rfl)) rfl
def Gz:List Dat:=[.r [.n 1,.n 50,.n 0,.n 0,.n 0,.n 0,.n (bI false)]]
theorem JO:aX (ft 1 Gz)=⟨1,0,Gz⟩:=tf (by kernel_rfl) (vV (by kernel_rfl)) rfl
theorem Kz:aX (ft 3 [])=⟨3,0,[]⟩:=tf (by kernel_rfl) (vV (by kernel_rfl)) rfl
theorem MS:ki ⟨0,false,0,false⟩ []=⟨0,0,⟨0,false,0,false⟩,[],I5 fV⟩:=(Live.new ⟨0,false,0,false⟩).opened ⟨0,false,0,false⟩ rfl
def Jo:ay:={kept (1::fW fo) fV with has:=0,t:=dy fo}
theorem Ei:pW (fW fo) fV=⟨[],0,Jo⟩/\Live Jo [1::fW fo]:=
 (Live.new ⟨0,false,0,false⟩).load ⟨rfl,rfl⟩ (by show(-1:Int)<0;decide) NL (by decide)
def pQ:ay:={kept (2::ft 1 lE) Jo with has:=0,bg:=[qC (oq (aG (dy fo) lE))],t:=(aG (dy fo) lE).t}
theorem FQ:ee (ft 1 lE) Jo=⟨oq (aG (dy fo) lE),0,pQ⟩/\Live pQ ([1::fW fo]++[2::ft 1 lE]):=
 Ei.2.VB (l:=lE) ⟨rfl,rfl⟩ (by show ¬(0:Int)<0;decide) Mn AD.2.2.2.1 (by decide)
theorem JV:ee (ft 1 Gz) pQ=⟨oq (aG (dy fo) lE),0,pQ⟩:=by
 unfold ee;rw[JO];exact congrArg (fun x=>sW.mk x 0 pQ) (BR _)
theorem Kq:ee (ft 3 []) pQ=⟨[],4,pQ⟩:=by
 unfold ee;rw[Kz];rfl
theorem He:dZ (oq (aG (dy fo) lE))=⟨⟨false,1,0,40,0,0,0,0,0,0,0⟩,⟨0,60,0,0,0⟩,0,true,[.r [.n 1,.n 7,.n 0,.n 40]],[.r [.n 60,.n 0,.n 0]]⟩:=by
 obtain⟨o1,o2,o3,o4,o5,o6⟩:=AD;unfold oq;rw[o1,o2,o3,o5,o6,decode_encode (by kernel_rfl)];rfl
def zY:List Par:=[]
def N3w:aC:=⟨S7.tab,3,⟨List.map Par.vp zY,[],0⟩,⟨[.bool],[],0⟩,[]⟩
def t3w (m:Nat):Unit->Option (List Un):=fun _=>
 chk (decide (([]:List Int).length<900000)&&dF ([]:List Int))<|
 bd ((ki (⟨0,false,0,false⟩:bn) ([]:List Int)):JW) fun r2=>
 bif ((decide (r2.j<0))&&true)then
 some ([.b false])
 else
 bif r2.e !=0 then
 some ([.b false])
 else
 chk (decide (0<=r2.j)&&(qF (fW fo)&&iz (⟨r2.o.has,r2.o.c,r2.n,r2.b,r2.o.bg,r2.o.t⟩:ay)))<|
 bd ((pW (fW fo) (⟨r2.o.has,r2.o.c,r2.n,r2.b,r2.o.bg,r2.o.t⟩:ay)):sW) fun r4=>
 bif r4.e !=0 then
 some ([.b false])
 else
 lt ((ft 1 ([.r [.n 1,.n 40,.n 0,.n 0,.n 0,.n 0,.n (bI false)]]:List Dat)):List Int) fun l5=>
 chk (decide (0<=r2.j)&&(qF l5&&iz r4.d))<|
 bd ((ee l5 r4.d):sW) fun r6=>
 lt ((ft 1 ([.r [.n 1,.n 50,.n 0,.n 0,.n 0,.n 0,.n (bI false)]]:List Dat)):List Int) fun l7=>
 chk (decide (0<=r2.j)&&(qF l7&&iz r6.d))<|
 bd ((ee l7 r6.d):sW) fun r8=>
 lt ((ft 3 ([]:List Dat)):List Int) fun l9=>
 chk (decide (0<=r2.j)&&(qF l9&&iz r8.d))<|
 bd ((ee l9 r8.d):sW) fun r10=>
 chk (decide (r6.txt.length<=1000000))<|
 bd ((dZ r6.txt):Jv) fun r11=>
 bif r6.e==0 then
 bif r8.e==0 then
 chk (decide (r6.txt.length<1099511627776))<|
 bif (lM r6.txt r8.txt)then
 bif r10.e==4 then
 bif r11.ok then
 bif r11.ra.ar==40 then
 chk (decide (0<=r2.j))<|
 some ([.b ((r10.d.bg.length:Int)==1)])
 else
 some ([.b false])
 else
 some ([.b false])
 else
 some ([.b false])
 else
 some ([.b false])
 else
 some ([.b false])
 else
 some ([.b false])
theorem UI  :∃m,t3w m ()=some [.b true]:=by
 refine⟨0, ?_⟩;unfold t3w;obtain⟨a1,a2⟩:=Ei;obtain⟨b1,b2⟩:=FQ;refine av rfl (KF fun r2 h2=> ?_);rw[MS]at h2;refine dV (by rw[h2];rfl) (dV (by rw[h2];rfl) ?_);have e2:({has:=r2.o.has,c:=r2.o.c,n:=r2.n,b:=r2.b,bg:=r2.o.bg,t:=r2.o.t}:ay)=fV:=by rw[h2];rfl
 have j2:decide (0<=r2.j)=true:=by rw[h2];rfl
 rw[e2,j2];refine av (by rw[JN];exact(Live.new ⟨0,false,0,false⟩).okD) (KF fun r4 h4=> ?_);rw[a1]at h4;refine dV (by rw[h4];rfl) ?_
 refine av (by rw[s8,h4];exact a2.okD) (KF fun r6 h6=> ?_);have h6:r6=⟨oq (aG (dy fo) lE),0,pQ⟩:=by rw[h6,h4];exact b1
 refine av (by rw[s8,h6];exact b2.okD) (KF fun r8 h8=> ?_);have h8:r8=⟨oq (aG (dy fo) lE),0,pQ⟩:=by rw[h8,h6];exact JV
 refine av (by rw[s8,h8];exact b2.okD) (KF fun r10 h10=> ?_);have h10:r10=⟨[],4,pQ⟩:=by rw[h10,h8];exact Kq
 have hl:=Ea (aG (dy fo) lE);refine av (by rw[h6];exact zaa (show(oq (aG (dy fo) lE)).length<=1000000 by omega)) (KF fun r11 h11=> ?_);rw[h6]at h11;have h11:=h11.trans He;refine gv (by rw[h6];rfl) (gv (by rw[h8];rfl) (av (by rw[h6];exact zaa (show(oq (aG (dy fo) lE)).length<1099511627776 by omega)) (gv (by rw[h6,h8];exact(AG _ _).2 rfl) ?_)));exact gv (by rw[h10];rfl) (gv (by rw[h11]) (gv (by rw[h11];rfl) (av rfl (by rw[h10];rfl))))
set_option maxRecDepth 20000 in
theorem Ds {HH:Type} {enc:TypeId × Value->HH} {w:World} {base:Nat} {vs:List Value} {ds:List (DataW HH)} {ps:List MemPlace} (hsh:w.ShapedOpen Tryz.prog)
 (hd:DataW.TrodAll enc Tryz.prog w 0 (fun _=>true) true Tryz.f3.params.toList vs ds ps) {us':List TypeId} {gs:List (DataW HH)} (hz:(DataW.weightsEach Tryz.prog (Tryz.f3.params.toList++us') (ds++gs)).all (·<=reachBytes)=true) (hval:∀(j:Nat) t v,Tryz.f3.params.toList[j]? =some t->vs[j]? =some v->Value.okWide Tryz.prog w .any base t v):
 Calls Tryz.prog 3 vs.toArray w fun e w'=>e= .returned (.bool true)/\RowKit.Below w.heap.size w w':=
 L8 Seat.mix Seat.names LK S8 (pars:=zY) (by kernel_rfl) (fun us h=>by
  change WfU [] us at h;obtain rfl:=L4 h;obtain⟨m,hm⟩:=UI;have G:N3w.HN Tryz.prog LQ KN (Uns.enc ()) ([])=t3w m ():=by kernel_rfl
  exact N3w.Ta ae S7.right (W:=[]) (by kernel_rfl) (by kernel_rfl) (by kernel_rfl) aB (G.trans hm)) hsh hd hz hval
end
end Go.Proofs.YtfaojedfnjdnnaaGreat
