/- Part of a proof: Deal, Right, Trust, Notes, View, Same, Begins, Pool, Pro, Flow, FlowAid, FlowPlain, Loss. Conditions: none. -/
import Derived.Test.YtfaojedfnjdnnaaGreatQ4
set_option linter.unusedVariables false
set_option linter.unusedSimpArgs false
set_option linter.unnecessarySimpa false
set_option linter.unusedSectionVars false
namespace Go.Proofs.YtfaojedfnjdnnaaGreat
noncomputable section
open Go Go.Proofs.YtfaojedfnjdnnaaGreat.Ev
set_option maxRecDepth 20000
def XM:aC:=⟨T57.tab,173,⟨[.int .i64,.int .i64,.int .i64],[],0⟩,⟨[.bool],[],0⟩,[]⟩
def t173 (m:Nat):Int × Int × Int->Option (List Un):=fun(a0,a1,a2)=>
 bif decide (a0>=a1)then
 some ([.b (decide (a0<=a2))])
 else
 some ([.b false])
def f173:Int × Int × Int->Bool × List Un:=fun(a0,a1,a2)=>(true,[.b (decide (a1<=a0/\a0<=a2))])
theorem Q2 (a0:Int) (a1:Int) (a2:Int):∃m,t173 m (a0,a1,a2)=some ([.b (decide (a1<=a0/\a0<=a2))]):=by
 refine⟨0, ?_⟩;unfold t173
 by_cases h:a1<=a0<;>by_cases h2:a0<=a2<;>simp[h,h2]
theorem KY:ER 173 (mkE XM.en XM.ex f173):=an ae T57.right (fun m=>[]) (t:=t173) (by kernel_rfl) (fun m=>aB) (fun m a=>by kernel_rfl) fun(a0,a1,a2) hc=>Q2 a0 a1 a2
def R8:Tb Tryz.prog LQ TE XX:=T57.add 173 _ KY
def zL (a b:Int):List Dat->Int->Int
 |[],_=> -1
 |d::l,i=>if a=d.i 0/\b=d.i 1 then i else zL a b l (i+1)
theorem Ff (a b:Int):∀(l:List Dat) (i:Int),0<=i->(0<=zL a b l i↔iR l a b=true)
 |[],i,h=>by simp[zL,iR]
 |d::l,i,h=>by
  have:=Ff a b l (i+1) (by omega);simp only[iR,List.any_cons,zba,zae,zaE]at this⊢;unfold zL
  by_cases hc:a=d.i 0/\b=d.i 1
  . rw[if_pos hc];exact⟨fun _=> .inl ⟨hc.1.symm,hc.2.symm⟩,fun _=>h⟩
  . rw[if_neg hc,this];exact⟨.inr,fun h=>h.resolve_left fun e=>hc ⟨e.1.symm,e.2.symm⟩⟩
def Uh:aC:=⟨R8.tab,199,⟨[.af (sI 2),.agg [.int .i64,.int .i64]],[],0⟩,⟨[.int .i64],[],0⟩,[]⟩
abbrev CE:Type:=List Dat × Int × Int × Int × Int
def wy (m:Nat) (k:CE->Option (List Un)):CE->Option (List Un):=fun(a0,a1,a2,a3,a4)=>
 bif decide (a2<a1)then
 chk (inb a2 a0.length)<|
 chk (decide (a2.toNat<a0.length))<|
 lt (ag a0 a2.toNat:Dat) fun d1=>
 bif ((a3==(d1.i 0))&&((a4==(d1.i 1))&&true))then
 some ([.i a2])
 else
 k (a0,a1,(w64 (a2+1)),a3,a4)
 else
 some ([.i (-1)])
def s9 (m:Nat):Nat->CE->Option (List Un):=bq (wy m)
theorem ui (m:Nat) (n:Nat):s9 m (n+1)=wy m (s9 m n):=rfl
def GY (F:CE->Option (List Un)):aU:=⟨[.lp [0,1,0,1],.blk 0,.code [1,1]],⟨frm 19 [(0,.af (sI 2)),(3,.ptr 0 0 0),(7,.int .i64),(8,.int .i64)],[.cells [.int .i64,.int .i64]],0⟩,onU F⟩
theorem Wt (m:Nat):∀n,HO Uh (GY (s9 m n)):=au ae R8.right (fun k=>[GY k]) (fun k h=>(aH h aB)) fun k a=>by kernel_rfl
def t199 (m:Nat):List Dat × Int × Int->Option (List Un):=fun(a0,a1,a2)=>
 s9 m m (a0,(a0.length:Int),0,a1,a2)
theorem aad (m:Nat) (a b:Int):∀(rest pre:List Dat) (n:Nat),rest.length<n->(pre++rest).length<1099511627776->
 s9 m n (pre++rest,((pre++rest).length:Int),(pre.length:Int),a,b)=some [.i (zL a b rest pre.length)]:=by
 intro rest
 induction rest with
 |nil=>
  intro pre n hn hl;obtain⟨n,rfl⟩:=ak n (by simp at hn;omega);rw[ui];unfold wy;dsimp only;simp[az,zL]
 |cons x rest ih=>
  intro pre n hn hl;obtain⟨n,rfl⟩:=ak n (by simp at hn;omega);simp only[zac,zab]at hn hl;have:=ih (pre++[x]) n (by omega) (by simp;omega);rw[ui];unfold wy;dsimp only;simp only[zL]
  by_cases h1:a=x.i 0
  . by_cases h2:b=x.i 1
    . rw[if_pos ⟨h1,h2⟩];simp(disch:=omega) only[TRa,TRi,ab,LNl,LNi,zad,aD]
    . rw[if_neg (fun h=>h2 h.2)];simp(disch:=omega) only[TRa,TRi,ab,LNl,LNi,zad,aD];simp only[LNl,LNi,zad]at this⊢;exact this
  . rw[if_neg (fun h=>h1 h.1)];simp(disch:=omega) only[TRa,TRi,ab,LNl,LNi,zad,aD];simp only[LNl,LNi,zad]at this⊢;exact this
def f199:List Dat × Int × Int->Bool × List Un:=fun(a0,a1,a2)=>(decide (a0.length<1099511627776),[.i (zL a1 a2 a0 0)])
theorem Sf (a0:List Dat) (a1:Int) (a2:Int) (hc:(decide (a0.length<1099511627776))=true):∃m,t199 m (a0,a1,a2)=some ([.i (zL a1 a2 a0 0)]):=by
 refine⟨a0.length+1, ?_⟩;exact aad _ a1 a2 a0 [] _ (by omega) (zaj hc)
theorem KZ:ER 199 (mkE Uh.en Uh.ex f199):=an ae R8.right (fun m=>[GY (s9 m m)]) (t:=t199) (by kernel_rfl) (fun m=>(aH (Wt m m) aB)) (fun m a=>by kernel_rfl) fun(a0,a1,a2) hc=>Sf a0 a1 a2 hc
def Tn:Tb Tryz.prog LQ TE XX:=R8.add 199 _ KZ
def Yg:aC:=⟨Tn.tab,174,⟨[.af (sI 2),.agg [.int .i64,.int .i64]],[],0⟩,⟨[.bool],[],0⟩,[]⟩
def t174 (m:Nat):List Dat × Int × Int->Option (List Un):=fun(a0,a1,a2)=>
 chk (decide (a0.length<1099511627776))<|
 some ([.b (decide ((zL a1 a2 a0 0)>=0))])
def f174:List Dat × Int × Int->Bool × List Un:=fun(a0,a1,a2)=>(decide (a0.length<1099511627776),[.b (iR a0 a1 a2)])
theorem PY (a0:List Dat) (a1:Int) (a2:Int) (hc:(decide (a0.length<1099511627776))=true):∃m,t174 m (a0,a1,a2)=some ([.b (iR a0 a1 a2)]):=by
 refine⟨0, ?_⟩;have e:=Ff a1 a2 a0 0 (zb5 0);have h:=zaj hc;unfold t174;simp(disch:=omega) only[TRa,TRi,ab];cases h:iR a0 a1 a2<;>simp[h]at e⊢<;>omega
theorem MM:ER 174 (mkE Yg.en Yg.ex f174):=an ae Tn.right (fun m=>[]) (t:=t174) (by kernel_rfl) (fun m=>aB) (fun m a=>by kernel_rfl) fun(a0,a1,a2) hc=>PY a0 a1 a2 hc
def Qx:Tb Tryz.prog LQ TE XX:=Tn.add 174 _ MM
theorem QP {c y:Bool}:(bif c then some [Un.b y]else some [.b false])=some [.b (c&&y)]:=by cases c<;>rfl
def qz (d:bc):Bool:=
 decide (0<=d.b.oc/\d.b.oc<=100000)&&(decide (0<=d.b.ic/\d.b.ic<=100000)&&(decide (0<=d.b.late/\d.b.late<=100000)&&(decide (0<=d.b.mf/\d.b.mf<=100000)&&(decide (0<=d.b.clean/\d.b.clean<=100000)&&
 (decide (1<=d.a.year/\d.a.year<=9000)&&(decide (1<=d.a.month/\d.a.month<=12)&&(decide (0<=d.a.basis/\d.a.basis<=2)&&(decide (0<=d.b.fee/\d.b.fee<=5000)&&(decide (0<=d.b.bC/\d.b.bC<=1099511627776)&&
 (decide (0<=d.b.target/\d.b.target<=10000)&&(decide (0<=d.b.advance/\d.b.advance<=1099511627776)&&decide (0<=d.b.fm/\d.b.fm<=600))))))))))))
def TO:aC:=⟨Qx.tab,134,⟨[.agg [.int .i64,.int .i64,.int .i64,.af (sI 2),.af (sI 3),.int .i64,.int .i64,.int .i64,.int .i64,.int .i64,.int .i64,.int .i64,.int .i64,.int .i64,.int .i64,.af (sI 2),.af (sI 2),.af (sI 2)]],[],0⟩,⟨[.bool],[],0⟩,[]⟩
abbrev CI:Type:=Int × Int × bc × List Int
def BX (m:Nat) (k:CI->Option (List Un)):CI->Option (List Un):=fun(a0,a1,a2,a3)=>
 bif decide (a1<a0)then
 chk (inb a1 a3.length)<|
 chk (decide (a1.toNat<a3.length))<|
 bif !(decide (0<=(a3.getD a1.toNat 0)/\(a3.getD a1.toNat 0)<=100000))then
 some ([.b false])
 else
 k (a0,(w64 (a1+1)),a2,a3)
 else
 bif (decide (1<=a2.a.year/\a2.a.year<=9000))then
 bif (decide (1<=a2.a.month/\a2.a.month<=12))then
 bif (decide (0<=a2.a.basis/\a2.a.basis<=2))then
 bif (decide (0<=a2.b.fee/\a2.b.fee<=5000))then
 bif (decide (0<=a2.b.bC/\a2.b.bC<=1099511627776))then
 bif (decide (0<=a2.b.target/\a2.b.target<=10000))then
 bif (decide (0<=a2.b.advance/\a2.b.advance<=1099511627776))then
 some ([.b (decide (0<=a2.b.fm/\a2.b.fm<=600))])
 else
 some ([.b false])
 else
 some ([.b false])
 else
 some ([.b false])
 else
 some ([.b false])
 else
 some ([.b false])
 else
 some ([.b false])
 else
 some ([.b false])
def qd (m:Nat):Nat->CI->Option (List Un):=bq (BX m)
theorem EF (m:Nat) (n:Nat):qd m (n+1)=BX m (qd m n):=rfl
def HA (F:CI->Option (List Un)):aU:=⟨[.lp [0,1,0,1],.blk 0,.code [1,1]],⟨frm 68 [(1,.ptr 0 0 0),(20,.buf 1 1),(21,.int .i64),(22,.int .i64)],[.cells [.int .i64,.int .i64,.int .i64,.af (sI 2),.af (sI 3),.int .i64,.int .i64,.int .i64,.int .i64,.int .i64,.int .i64,.int .i64,.int .i64,.int .i64,.int .i64,.af (sI 2),.af (sI 2),.af (sI 2)],.ints .i64],0⟩,onU F⟩
theorem Ty (m:Nat):∀n,HO TO (HA (qd m n)):=au ae Qx.right (fun k=>[HA k]) (fun k h=>(aH h aB)) fun k a=>by kernel_rfl
def t134 (m:Nat):bc->Option (List Un):=fun a0=>
 qd m m (5,0,a0,([a0.b.oc,a0.b.ic,a0.b.late,a0.b.mf,a0.b.clean]:List Int))
def f134:bc->Bool × List Un:=fun a0=>(true,[.b (qz a0)])
set_option maxHeartbeats 2000000 in
theorem Rn (a0:bc):∃m,t134 m a0=some ([.b (qz a0)]):=by
 refine⟨6, ?_⟩;unfold t134;rw[show qd 6 6=qd 6 (0+1+1+1+1+1+1) from rfl];simp only[EF];unfold BX;dsimp only;simp(disch:=omega) only[TRa,TRi,ab,zac,zar,zaO,zaD,Int.reduceToNat,Nat.reduceAdd,za3,Int.reduceAdd,za1,zaY,Int.reduceLT];simp only[QP];rfl
theorem Ls:ER 134 (mkE TO.en TO.ex f134):=an ae Qx.right (fun m=>[HA (qd m m)]) (t:=t134) (by kernel_rfl) (fun m=>(aH (Ty m m) aB)) (fun m a=>by kernel_rfl) fun a0 hc=>Rn a0
def QQ:Tb Tryz.prog LQ TE XX:=Qx.add 134 _ Ls
def kZ:Int->Int->List Dat->Option Int
 |_,all,[]=>some all
 |last,all,d::l=>if d.i 0<=last then none else if 0<=d.i 1/\d.i 1<=1099511627776-all then kZ (d.i 0) (all+d.i 1) l else none
def gM (l:List Dat):Option Int:=if 1<=l.length/\l.length<=64 then kZ 0 0 l else none
def Rs (o:Option Int):Option (List Un):=some [.i (o.getD 0),.b o.isSome]
def Wj:aC:=⟨QQ.tab,132,⟨[.af (sI 2)],[],0⟩,⟨[.int .i64,.bool],[],0⟩,[]⟩
abbrev C5:Type:=Int × Int × List Dat × Int × Int
def wq (m:Nat) (k:C5->Option (List Un)):C5->Option (List Un):=fun(a0,a1,a2,a3,a4)=>
 bif decide (a4<a3)then
 chk (inb a4 a2.length)<|
 chk (decide (a4.toNat<a2.length))<|
 lt (ag a2 a4.toNat:Dat) fun d2=>
 bif decide ((d2.i 0)<=a0)then
 some ([.i 0,.b false])
 else
 bif !(decide (0<=(d2.i 1)/\(d2.i 1)<=(w64 (1099511627776-a1))))then
 some ([.i 0,.b false])
 else
 k ((d2.i 0),(w64 (a1+(d2.i 1))),a2,a3,(w64 (a4+1)))
 else
 some ([.i a1,.b true])
def sA (m:Nat):Nat->C5->Option (List Un):=bq (wq m)
theorem uC (m:Nat) (n:Nat):sA m (n+1)=wq m (sA m n):=rfl
def Hr (F:C5->Option (List Un)):aU:=⟨[.lp [0,1,0,1,1,1],.blk 0,.code [1,1,1,1]],⟨frm 38 [(4,.int .i64),(5,.int .i64),(12,.af (sI 2)),(13,.int .i64),(14,.int .i64)],[],0⟩,onU F⟩
theorem Wb (m:Nat):∀n,HO Wj (Hr (sA m n)):=au ae QQ.right (fun k=>[Hr k]) (fun k h=>(aH h aB)) fun k a=>by kernel_rfl
def t132 (m:Nat):List Dat->Option (List Un):=fun a0=>
 bif !(decide (1<=(a0.length:Int)/\(a0.length:Int)<=64))then
 some ([.i 0,.b false])
 else
 sA m m (0,0,a0,(a0.length:Int),0)
theorem ON (m:Nat):∀(rest pre:List Dat) (n:Nat) (last all:Int),rest.length<n->(pre++rest).length<=64->0<=all->all<=1099511627776->
 sA m n (last,all,pre++rest,((pre++rest).length:Int),(pre.length:Int))=Rs (kZ last all rest):=by
 intro rest
 induction rest with
 |nil=>
  intro pre n last all hn hl h0 h1;obtain⟨n,rfl⟩:=ak n (by simp at hn;omega);rw[uC];unfold wq;dsimp only;simp[az,kZ,Rs]
 |cons x rest ih=>
  intro pre n last all hn hl h0 h1;obtain⟨n,rfl⟩:=ak n (by simp at hn;omega);simp only[zac,zab]at hn hl;rw[uC];unfold wq;dsimp only;simp only[kZ]
  by_cases c1:x.i 0<=last
  . rw[if_pos c1];simp(disch:=omega) only[TRa,TRi,ab,LNl,LNi,zad,aD];rfl
  . rw[if_neg c1]
    by_cases c2:0<=x.i 1/\x.i 1<=1099511627776-all
    . rw[if_pos c2];have:=ih (pre++[x]) n (x.i 0) (all+x.i 1) (by omega) (by simp;omega) (by omega) (by omega);simp(disch:=omega) only[TRa,TRi,ab,LNl,LNi,zad,aD];simp only[LNl,LNi,zad]at this⊢;exact this
    . rw[if_neg c2];simp(disch:=omega) only[TRa,TRi,ab,LNl,LNi,zad,aD];rfl
def f132:List Dat->Bool × List Un:=fun a0=>(true,[.i ((gM a0).getD 0),.b ((gM a0).isSome)])
theorem SU (a0:List Dat):∃m,t132 m a0=some ([.i ((gM a0).getD 0),.b ((gM a0).isSome)]):=by
 refine⟨65, ?_⟩;unfold t132 gM
 by_cases h:1<=a0.length/\a0.length<=64
 . rw[if_pos h];simp(disch:=omega) only[TRa,TRi,ab];exact ON 65 a0 [] 65 0 0 (by omega) h.2 (by omega) (by omega)
 . rw[if_neg h];simp(disch:=omega) only[TRa,TRi,ab];rfl
theorem K8:ER 132 (mkE Wj.en Wj.ex f132):=an ae QQ.right (fun m=>[Hr (sA m m)]) (t:=t132) (by kernel_rfl) (fun m=>(aH (Wb m m) aB)) (fun m a=>by kernel_rfl) fun a0 hc=>SU a0
def Rj:Tb Tryz.prog LQ TE XX:=QQ.add 132 _ K8
def om (most:Int):Int->List Dat->Option Int
 |all,[]=>some all
 |all,d::l=>if (0<=d.i 0/\d.i 0<=7)/\(1<=d.i 1/\d.i 1<=most-all)/\(0<=d.i 2/\d.i 2<=5000)then om most (all+d.i 1) l else none
def mg (most:Int) (l:List Dat):Option Int:=if 1<=l.length/\l.length<=8 then om most 0 l else none
def WL:aC:=⟨Rj.tab,133,⟨[.af (sI 3),.int .i64],[],0⟩,⟨[.int .i64,.bool],[],0⟩,[]⟩
abbrev Dq:Type:=Int × Int × List Dat × Int × Int
def w5 (m:Nat) (k:Dq->Option (List Un)):Dq->Option (List Un):=fun(a0,a1,a2,a3,a4)=>
 bif decide (a4<a3)then
 chk (inb a4 a2.length)<|
 chk (decide (a4.toNat<a2.length))<|
 lt (ag a2 a4.toNat:Dat) fun d2=>
 bif !(decide (0<=(d2.i 0)/\(d2.i 0)<=7))then
 some ([.i 0,.b false])
 else
 bif !(decide (1<=(d2.i 1)/\(d2.i 1)<=(w64 (a0-a1))))then
 some ([.i 0,.b false])
 else
 bif !(decide (0<=(d2.i 2)/\(d2.i 2)<=5000))then
 some ([.i 0,.b false])
 else
 k (a0,(w64 (a1+(d2.i 1))),a2,a3,(w64 (a4+1)))
 else
 some ([.i a1,.b true])
def sm (m:Nat):Nat->Dq->Option (List Un):=bq (w5 m)
theorem uX (m:Nat) (n:Nat):sm m (n+1)=w5 m (sm m n):=rfl
def G3 (F:Dq->Option (List Un)):aU:=⟨[.lp [0,1,0,1,1,1],.blk 0,.code [1,1,1,1]],⟨frm 44 [(1,.int .i64),(6,.int .i64),(13,.af (sI 3)),(14,.int .i64),(15,.int .i64)],[],0⟩,onU F⟩
theorem Us (m:Nat):∀n,HO WL (G3 (sm m n)):=au ae Rj.right (fun k=>[G3 k]) (fun k h=>(aH h aB)) fun k a=>by kernel_rfl
def t133 (m:Nat):List Dat × Int->Option (List Un):=fun(a0,a1)=>
 bif !(decide (1<=(a0.length:Int)/\(a0.length:Int)<=8))then
 some ([.i 0,.b false])
 else
 sm m m (a1,0,a0,(a0.length:Int),0)
theorem Sz (m:Nat) (most:Int) (hm:0<=most/\most<=1099511627776):∀(rest pre:List Dat) (n:Nat) (all:Int),rest.length<n->(pre++rest).length<=8->0<=all->all<=most->
 sm m n (most,all,pre++rest,((pre++rest).length:Int),(pre.length:Int))=Rs (om most all rest):=by
 intro rest
 induction rest with
 |nil=>
  intro pre n all hn hl h0 h1;obtain⟨n,rfl⟩:=ak n (by simp at hn;omega);rw[uX];unfold w5;dsimp only;simp[az,om,Rs]
 |cons x rest ih=>
  intro pre n all hn hl h0 h1;obtain⟨n,rfl⟩:=ak n (by simp at hn;omega);simp only[zac,zab]at hn hl;rw[uX];unfold w5;dsimp only;simp only[om]
  by_cases c1:0<=x.i 0/\x.i 0<=7
  . by_cases c2:1<=x.i 1/\x.i 1<=most-all
    . by_cases c3:0<=x.i 2/\x.i 2<=5000
      . rw[if_pos ⟨c1,c2,c3⟩];have:=ih (pre++[x]) n (all+x.i 1) (by omega) (by simp;omega) (by omega) (by omega);simp(disch:=omega) only[TRa,TRi,ab,LNl,LNi,zad,aD];simp only[LNl,LNi,zad]at this⊢;exact this
      . rw[if_neg (fun h=>c3 h.2.2)];simp(disch:=omega) only[TRa,TRi,ab,LNl,LNi,zad,aD];rfl
    . rw[if_neg (fun h=>c2 h.2.1)];simp(disch:=omega) only[TRa,TRi,ab,LNl,LNi,zad,aD];rfl
  . rw[if_neg (fun h=>c1 h.1)];simp(disch:=omega) only[TRa,TRi,ab,LNl,LNi,zad,aD];rfl
def f133:List Dat × Int->Bool × List Un:=fun(a0,a1)=>(decide (0<=a1/\a1<=1099511627776),[.i ((mg a1 a0).getD 0),.b ((mg a1 a0).isSome)])
theorem PK (a0:List Dat) (a1:Int) (hc:(decide (0<=a1/\a1<=1099511627776))=true):∃m,t133 m (a0,a1)=some ([.i ((mg a1 a0).getD 0),.b ((mg a1 a0).isSome)]):=by
 have hm:=zaj hc;refine⟨65, ?_⟩;unfold t133 mg
 by_cases h:1<=a0.length/\a0.length<=8
 . rw[if_pos h];simp(disch:=omega) only[TRa,TRi,ab];exact Sz 65 a1 hm a0 [] 65 0 (by omega) h.2 (by omega) (by omega)
 . rw[if_neg h];simp(disch:=omega) only[TRa,TRi,ab];rfl
theorem Oy:ER 133 (mkE WL.en WL.ex f133):=an ae Rj.right (fun m=>[G3 (sm m m)]) (t:=t133) (by kernel_rfl) (fun m=>(aH (Us m m) aB)) (fun m a=>by kernel_rfl) fun(a0,a1) hc=>PK a0 a1 hc
def Rz:Tb Tryz.prog LQ TE XX:=Rj.add 133 _ Oy
def zf (d:Dat):Bool:=decide (1<=d.i 0/\d.i 0<=7)&&decide (0<=d.i 1/\d.i 1<=(if d.i 0=3 then 7 else 0))
def qn:List Dat->List Dat->Bool
 |_,[]=>true
 |pre,d::l=>zf d&&(!iR pre (d.i 0) (d.i 1)&&qn (pre++[d]) l)
def fA (l:List Dat):Bool:=decide (1<=(l.length:Int)/\(l.length:Int)<=16)&&qn [] l
def TT:aC:=⟨Rz.tab,135,⟨[.af (sI 2)],[],0⟩,⟨[.bool],[],0⟩,[]⟩
abbrev CA:Type:=List Dat × List Dat × Int × Int
def we (m:Nat) (k:CA->Option (List Un)):CA->Option (List Un):=fun(a0,a1,a2,a3)=>
 bif decide (a3<a2)then
 chk (inb a3 a1.length)<|
 chk (decide (a3.toNat<a1.length))<|
 lt (ag a1 a3.toNat:Dat) fun d2=>
 bif (d2.i 0)==3 then
 bif !(decide (1<=(d2.i 0)/\(d2.i 0)<=7))then
 some ([.b false])
 else
 bif !(decide (0<=(d2.i 1)/\(d2.i 1)<=7))then
 some ([.b false])
 else
 chk (decide (0<=a3)&&(true&&decide (0<=a3.toNat/\a3.toNat<=a0.length)))<|
 chk (decide ((List.take a3.toNat a0).length<1099511627776))<|
 bif (iR (List.take a3.toNat a0) (d2.i 0) (d2.i 1))then
 some ([.b false])
 else
 k (a0,a1,a2,(w64 (a3+1)))
 else
 bif !(decide (1<=(d2.i 0)/\(d2.i 0)<=7))then
 some ([.b false])
 else
 bif !(decide (0<=(d2.i 1)/\(d2.i 1)<=0))then
 some ([.b false])
 else
 chk (decide (0<=a3)&&(true&&decide (0<=a3.toNat/\a3.toNat<=a0.length)))<|
 chk (decide ((List.take a3.toNat a0).length<1099511627776))<|
 bif (iR (List.take a3.toNat a0) (d2.i 0) (d2.i 1))then
 some ([.b false])
 else
 k (a0,a1,a2,(w64 (a3+1)))
 else
 some ([.b true])
def tc (m:Nat):Nat->CA->Option (List Un):=bq (we m)
theorem uG (m:Nat) (n:Nat):tc m (n+1)=we m (tc m n):=rfl
def GH (F:CA->Option (List Un)):aU:=⟨[.lp [0,1,0,1,1],.blk 0,.code [1,1,1]],⟨frm 39 [(0,.af (sI 2)),(10,.af (sI 2)),(11,.int .i64),(12,.int .i64)],[],0⟩,onU F⟩
theorem Th (m:Nat):∀n,HO TT (GH (tc m n)):=au ae Rz.right (fun k=>[GH k]) (fun k h=>(aH h aB)) fun k a=>by kernel_rfl
def t135 (m:Nat):List Dat->Option (List Un):=fun a0=>
 bif !(decide (1<=(a0.length:Int)/\(a0.length:Int)<=16))then
 some ([.b false])
 else
 tc m m (a0,a0,(a0.length:Int),0)
theorem Qc (m:Nat):∀(rest pre:List Dat) (n:Nat),rest.length<n->(pre++rest).length<=16->
 tc m n (pre++rest,pre++rest,((pre++rest).length:Int),(pre.length:Int))=some [.b (qn pre rest)]:=by
 intro rest
 induction rest with
 |nil=>
  intro pre n hn hl;obtain⟨n,rfl⟩:=ak n (by simp at hn;omega);rw[uG];unfold we;dsimp only;simp[az,qn]
 |cons x rest ih=>
  intro pre n hn hl;obtain⟨n,rfl⟩:=ak n (by simp at hn;omega);simp only[zac,zab]at hn hl;rw[uG];unfold we;dsimp only;have:=ih (pre++[x]) n (by omega) (by simp;omega);simp only[qn,zf]
  by_cases c1:1<=x.i 0/\x.i 0<=7
  . by_cases c3:x.i 0=3
    . by_cases c2:0<=x.i 1/\x.i 1<=7
      . cases h:iR pre (x.i 0) (x.i 1)
        . simp(disch:=omega) only[TRa,TRi,ab,LNl,LNi,zad,aD,zav];simp only[List.take_left,h,zal,if_pos c3,zaa c1,zaa c2,zbg,Bool.not_false]
          (try simp(disch:=omega) only[TRa,TRi,ab,LNl,LNi,zad,aD,zav])
          simp only[LNl,LNi,zad]at this⊢;exact this
        . simp(disch:=omega) only[TRa,TRi,ab,LNl,LNi,zad,aD,zav];simp only[List.take_left,h,zaw,if_pos c3,zaa c1,zaa c2,zbg,zbf,zbL]
      . simp(disch:=omega) only[TRa,TRi,ab,LNl,LNi,zad,aD,zav];simp only[if_pos c3,zap c2,Bool.and_false,zbL]
    . by_cases c2:0<=x.i 1/\x.i 1<=0
      . cases h:iR pre (x.i 0) (x.i 1)
        . simp(disch:=omega) only[TRa,TRi,ab,LNl,LNi,zad,aD,zav];simp only[List.take_left,h,zal,if_neg c3,zaa c1,zaa c2,zbg,Bool.not_false]
          (try simp(disch:=omega) only[TRa,TRi,ab,LNl,LNi,zad,aD,zav])
          simp only[LNl,LNi,zad]at this⊢;exact this
        . simp(disch:=omega) only[TRa,TRi,ab,LNl,LNi,zad,aD,zav];simp only[List.take_left,h,zaw,if_neg c3,zaa c1,zaa c2,zbg,zbf,zbL]
      . simp(disch:=omega) only[TRa,TRi,ab,LNl,LNi,zad,aD,zav];simp only[if_neg c3,zap c2,Bool.and_false,zbL]
  . by_cases c3:x.i 0=3
    . omega
    . simp(disch:=omega) only[TRa,TRi,ab,LNl,LNi,zad,aD,zav];simp only[zap c1,zbL]
def f135:List Dat->Bool × List Un:=fun a0=>(true,[.b (fA a0)])
theorem Si (a0:List Dat):∃m,t135 m a0=some ([.b (fA a0)]):=by
 refine⟨17, ?_⟩;unfold t135 fA
 by_cases h:1<=(a0.length:Int)/\(a0.length:Int)<=16
 . rw[zaa h,zbg];simp(disch:=omega) only[TRa,TRi,ab];exact Qc 17 a0 [] 17 (by omega) (by simp;omega)
 . rw[zap h,zbL];simp(disch:=omega) only[TRa,TRi,ab]
theorem L5:ER 135 (mkE TT.en TT.ex f135):=an ae Rz.right (fun m=>[GH (tc m m)]) (t:=t135) (by kernel_rfl) (fun m=>(aH (Th m m) aB)) (fun m a=>by kernel_rfl) fun a0 hc=>Si a0
def U6:Tb Tryz.prog LQ TE XX:=Rz.add 135 _ L5
def bW (d:bc):Option (Int × Int):=
 match gM d.aK with
 |none=>none
 |some p=>match mg p d.notes with
  |none=>none
  |some n=>if qz d&&(fA d.s0&&(fA d.s1&&fA d.s2))then some (p,n)else none
theorem AL:∀(l:List Dat) (last all r:Int),0<=all->all<=1099511627776->kZ last all l=some r->all<=r/\r<=1099511627776
 |[],last,all,r,h0,h1,h=>by simp[kZ]at h;omega
 |d::l,last,all,r,h0,h1,h=>by
  unfold kZ at h
  split at h
  . cases h
  . split at h
    . have:=AL l _ _ r (by omega) (by omega) h;omega
    . cases h
theorem Kb {l:List Dat} {r:Int} (h:gM l=some r):0<=r/\r<=1099511627776:=by
 unfold gM at h
 split at h
 . exact AL l 0 0 r (by omega) (by omega) h
 . cases h
def N94:aC:=⟨U6.tab,94,⟨[.agg [.int .i64,.int .i64,.int .i64,.af (sI 2),.af (sI 3),.int .i64,.int .i64,.int .i64,.int .i64,.int .i64,.int .i64,.int .i64,.int .i64,.int .i64,.int .i64,.af (sI 2),.af (sI 2),.af (sI 2)]],[],0⟩,⟨[.int .i64,.int .i64,.bool],[],0⟩,[[0,1,0,1,1,1,1]]⟩
def t94 (m:Nat):bc->Option (List Un):=fun a0=>
 chk (decide (0<=((gM a0.aK).getD 0)/\((gM a0.aK).getD 0)<=1099511627776))<|
 bif !((gM a0.aK).isSome)then
 some ([.i 0,.i 0,.b false])
 else
 bif !((mg ((gM a0.aK).getD 0) a0.notes).isSome)then
 some ([.i 0,.i 0,.b false])
 else
 bif !(qz a0)then
 some ([.i 0,.i 0,.b false])
 else
 bif !(fA a0.s0)then
 some ([.i 0,.i 0,.b false])
 else
 bif !(fA a0.s1)then
 some ([.i 0,.i 0,.b false])
 else
 bif !(fA a0.s2)then
 some ([.i 0,.i 0,.b false])
 else
 some ([.i ((gM a0.aK).getD 0),.i ((mg ((gM a0.aK).getD 0) a0.notes).getD 0),.b true])
def f94:bc->Bool × List Un:=fun a0=>(true,[.i (((bW a0).getD (0,0)).1),.i (((bW a0).getD (0,0)).2),.b ((bW a0).isSome)])
theorem Ws (a0:bc):∃m,t94 m a0=some ([.i (((bW a0).getD (0,0)).1),.i (((bW a0).getD (0,0)).2),.b ((bW a0).isSome)]):=by
 refine⟨0, ?_⟩;unfold t94 bW;cases hl:gM a0.aK with
 |none=>simp[lt,chk]
 |some p=>
  have hb:=Kb hl;simp only[lt_eq,zbx,Option.isSome_some,zbf,zal];rw[aP hb];cases hn:mg p a0.notes with
  |none=>simp
  |some n=>
   simp only[Option.isSome_some,zbf,zal,zbx];cases qz a0<;>cases fA a0.s0<;>cases fA a0.s1<;>cases fA a0.s2<;>rfl
theorem Qk:ER 94 (mkE N94.en N94.ex f94):=an ae U6.right (fun m=>[]) (t:=t94) (by kernel_rfl) (fun m=>aB) (fun m a=>by kernel_rfl) fun a0 hc=>Ws a0
def T94:Tb Tryz.prog LQ TE XX:=U6.add 94 _ Qk
def N51:aC:=⟨T94.tab,51,⟨[.agg [.int .i64,.int .i64,.int .i64,.af (sI 2),.af (sI 3),.int .i64,.int .i64,.int .i64,.int .i64,.int .i64,.int .i64,.int .i64,.int .i64,.int .i64,.int .i64,.af (sI 2),.af (sI 2),.af (sI 2)]],[],0⟩,⟨[.bool],[],0⟩,[]⟩
def t51 (m:Nat):bc->Option (List Un):=fun a0=>
 some ([.b ((bW a0).isSome)])
def f51:bc->Bool × List Un:=fun a0=>(true,[.b ((bW a0).isSome)])
theorem V8 (a0:bc):∃m,t51 m a0=some ([.b ((bW a0).isSome)]):=by
 exact⟨0,rfl⟩
theorem QH:ER 51 (mkE N51.en N51.ex f51):=an ae T94.right (fun m=>[]) (t:=t51) (by kernel_rfl) (fun m=>aB) (fun m a=>by kernel_rfl) fun a0 hc=>V8 a0
def T51:Tb Tryz.prog LQ TE XX:=T94.add 51 _ QH
def Xb:aC:=⟨T51.tab,194,⟨[.agg [.int .i64,.int .i64,.int .i64,.af (sI 2),.af (sI 3),.int .i64,.int .i64,.int .i64,.int .i64,.int .i64,.int .i64,.int .i64,.int .i64,.int .i64,.int .i64,.af (sI 2),.af (sI 2),.af (sI 2)]],[],0⟩,⟨[.int .i64],[],0⟩,[]⟩
def t194 (m:Nat):bc->Option (List Un):=fun a0=>
 some ([.i (((bW a0).getD (0,0)).1)])
def f194:bc->Bool × List Un:=fun a0=>(true,[.i (((bW a0).getD (0,0)).1)])
theorem PC (a0:bc):∃m,t194 m a0=some ([.i (((bW a0).getD (0,0)).1)]):=by
 exact⟨0,rfl⟩
theorem L7:ER 194 (mkE Xb.en Xb.ex f194):=an ae T51.right (fun m=>[]) (t:=t194) (by kernel_rfl) (fun m=>aB) (fun m a=>by kernel_rfl) fun a0 hc=>PC a0
def UT:Tb Tryz.prog LQ TE XX:=T51.add 194 _ L7
def N55:aC:=⟨UT.tab,55,⟨[.ints .u8],[],0⟩,⟨[.buf 0 1],[.ints .u8],0⟩,[]⟩
def t55 (m:Nat):List Int->Option (List Un):=fun a0=>
 bif decide (a0.length=0)then
 both (
 some ([.l ([])])) (
 chk (fits (0+a0.length) 1)<|
 some ([.l a0]))
 else
 chk (fits (0+a0.length) 1)<|
 some ([.l a0])
def f55:List Int->Bool × List Un:=fun a0=>(decide (a0.length<1000000),[.l (a0)])
theorem T2 (a0:List Int) (hc:(decide (a0.length<1000000))=true):∃m,t55 m a0=some ([.l (a0)]):=by
 have h:=zaj hc;refine⟨0, ?_⟩;unfold t55;cases a0 with
 |nil=>simp(disch:=omega) only[TRa,TRi,ab,zar,ig,za5,iD]
 |cons x l=>
  simp only[zac]at h⊢;simp(disch:=omega) only[TRa,TRi,ab]
theorem O8:ER 55 (mkE N55.en N55.ex f55):=an ae UT.right (fun m=>[]) (t:=t55) (by kernel_rfl) (fun m=>aB) (fun m a=>by kernel_rfl) fun a0 hc=>T2 a0 hc
def T55:Tb Tryz.prog LQ TE XX:=UT.add 55 _ O8
def Yu:aC:=⟨T55.tab,102,⟨[.ints .i64],[],0⟩,⟨[.buf 0 1],[.ints .i64],0⟩,[]⟩
def t102 (m:Nat):List Int->Option (List Un):=fun a0=>
 bif decide (a0.length=0)then
 both (
 some ([.l ([])])) (
 chk (fits (0+a0.length) 8)<|
 some ([.l a0]))
 else
 chk (fits (0+a0.length) 8)<|
 some ([.l a0])
def f102:List Int->Bool × List Un:=fun a0=>(decide (a0.length<1000000),[.l (a0)])
theorem SC (a0:List Int) (hc:(decide (a0.length<1000000))=true):∃m,t102 m a0=some ([.l (a0)]):=by
 have h:=zaj hc;refine⟨0, ?_⟩;unfold t102;cases a0 with
 |nil=>simp(disch:=omega) only[TRa,TRi,ab,zar,ig,za5,iD]
 |cons x l=>
  simp only[zac]at h⊢;simp(disch:=omega) only[TRa,TRi,ab]
theorem NQ:ER 102 (mkE Yu.en Yu.ex f102):=an ae T55.right (fun m=>[]) (t:=t102) (by kernel_rfl) (fun m=>aB) (fun m a=>by kernel_rfl) fun a0 hc=>SC a0 hc
def UE:Tb Tryz.prog LQ TE XX:=T55.add 102 _ NQ
def Zr:aC:=⟨UE.tab,137,⟨[.af (sI 7)],[],0⟩,⟨[.buf 0 7],[.af (sI 7)],0⟩,[]⟩
def t137 (m:Nat):List Dat->Option (List Un):=fun a0=>
 bif decide (a0.length=0)then
 both (
 some ([.d ([])])) (
 chk (fits (0+a0.length) 56)<|
 some ([.d a0]))
 else
 chk (fits (0+a0.length) 56)<|
 some ([.d a0])
def f137:List Dat->Bool × List Un:=fun a0=>(decide (a0.length<1000000),[.d (a0)])
theorem Pd (a0:List Dat) (hc:(decide (a0.length<1000000))=true):∃m,t137 m a0=some ([.d (a0)]):=by
 have h:=zaj hc;refine⟨0, ?_⟩;unfold t137;cases a0 with
 |nil=>simp(disch:=omega) only[TRa,TRi,ab,zar,ig,za5,iD]
 |cons x l=>
  simp only[zac]at h⊢;simp(disch:=omega) only[TRa,TRi,ab]
theorem LW:ER 137 (mkE Zr.en Zr.ex f137):=an ae UE.right (fun m=>[]) (t:=t137) (by kernel_rfl) (fun m=>aB) (fun m a=>by kernel_rfl) fun a0 hc=>Pd a0 hc
def Uo:Tb Tryz.prog LQ TE XX:=UE.add 137 _ LW
def YH:aC:=⟨Uo.tab,155,⟨[.af (sB 4)],[],0⟩,⟨[.buf 0 5],[.af (sB 4)],0⟩,[]⟩
def t155 (m:Nat):List Dat->Option (List Un):=fun a0=>
 bif decide (a0.length=0)then
 both (
 some ([.d ([])])) (
 chk (fits (0+a0.length) 40)<|
 some ([.d a0]))
 else
 chk (fits (0+a0.length) 40)<|
 some ([.d a0])
def f155:List Dat->Bool × List Un:=fun a0=>(decide (a0.length<1000000),[.d (a0)])
theorem Q5 (a0:List Dat) (hc:(decide (a0.length<1000000))=true):∃m,t155 m a0=some ([.d (a0)]):=by
 have h:=zaj hc;refine⟨0, ?_⟩;unfold t155;cases a0 with
 |nil=>simp(disch:=omega) only[TRa,TRi,ab,zar,ig,za5,iD]
 |cons x l=>
  simp only[zac]at h⊢;simp(disch:=omega) only[TRa,TRi,ab]
theorem NU:ER 155 (mkE YH.en YH.ex f155):=an ae Uo.right (fun m=>[]) (t:=t155) (by kernel_rfl) (fun m=>aB) (fun m a=>by kernel_rfl) fun a0 hc=>Q5 a0 hc
def Tx:Tb Tryz.prog LQ TE XX:=Uo.add 155 _ NU
def XO:aC:=⟨Tx.tab,167,⟨[.af (sI 2)],[],0⟩,⟨[.buf 0 2],[.af (sI 2)],0⟩,[]⟩
def t167 (m:Nat):List Dat->Option (List Un):=fun a0=>
 bif decide (a0.length=0)then
 both (
 some ([.d ([])])) (
 chk (fits (0+a0.length) 16)<|
 some ([.d a0]))
 else
 chk (fits (0+a0.length) 16)<|
 some ([.d a0])
def f167:List Dat->Bool × List Un:=fun a0=>(decide (a0.length<1000000),[.d (a0)])
theorem OQ (a0:List Dat) (hc:(decide (a0.length<1000000))=true):∃m,t167 m a0=some ([.d (a0)]):=by
 have h:=zaj hc;refine⟨0, ?_⟩;unfold t167;cases a0 with
 |nil=>simp(disch:=omega) only[TRa,TRi,ab,zar,ig,za5,iD]
 |cons x l=>
  simp only[zac]at h⊢;simp(disch:=omega) only[TRa,TRi,ab]
theorem On:ER 167 (mkE XO.en XO.ex f167):=an ae Tx.right (fun m=>[]) (t:=t167) (by kernel_rfl) (fun m=>aB) (fun m a=>by kernel_rfl) fun a0 hc=>OQ a0 hc
def Vs:Tb Tryz.prog LQ TE XX:=Tx.add 167 _ On
def W4:aC:=⟨Vs.tab,168,⟨[.af (sI 3)],[],0⟩,⟨[.buf 0 3],[.af (sI 3)],0⟩,[]⟩
def t168 (m:Nat):List Dat->Option (List Un):=fun a0=>
 bif decide (a0.length=0)then
 both (
 some ([.d ([])])) (
 chk (fits (0+a0.length) 24)<|
 some ([.d a0]))
 else
 chk (fits (0+a0.length) 24)<|
 some ([.d a0])
def f168:List Dat->Bool × List Un:=fun a0=>(decide (a0.length<1000000),[.d (a0)])
theorem RC (a0:List Dat) (hc:(decide (a0.length<1000000))=true):∃m,t168 m a0=some ([.d (a0)]):=by
 have h:=zaj hc;refine⟨0, ?_⟩;unfold t168;cases a0 with
 |nil=>simp(disch:=omega) only[TRa,TRi,ab,zar,ig,za5,iD]
 |cons x l=>
  simp only[zac]at h⊢;simp(disch:=omega) only[TRa,TRi,ab]
theorem Oo:ER 168 (mkE W4.en W4.ex f168):=an ae Vs.right (fun m=>[]) (t:=t168) (by kernel_rfl) (fun m=>aB) (fun m a=>by kernel_rfl) fun a0 hc=>RC a0 hc
def V0:Tb Tryz.prog LQ TE XX:=Vs.add 168 _ Oo
def Yo:aC:=⟨V0.tab,169,⟨[.af (sI 2)],[],0⟩,⟨[.buf 0 2],[.af (sI 2)],0⟩,[]⟩
def t169 (m:Nat):List Dat->Option (List Un):=fun a0=>
 bif decide (a0.length=0)then
 both (
 some ([.d ([])])) (
 chk (fits (0+a0.length) 16)<|
 some ([.d a0]))
 else
 chk (fits (0+a0.length) 16)<|
 some ([.d a0])
def f169:List Dat->Bool × List Un:=fun a0=>(decide (a0.length<1000000),[.d (a0)])
theorem Q3 (a0:List Dat) (hc:(decide (a0.length<1000000))=true):∃m,t169 m a0=some ([.d (a0)]):=by
 have h:=zaj hc;refine⟨0, ?_⟩;unfold t169;cases a0 with
 |nil=>simp(disch:=omega) only[TRa,TRi,ab,zar,ig,za5,iD]
 |cons x l=>
  simp only[zac]at h⊢;simp(disch:=omega) only[TRa,TRi,ab]
theorem KU:ER 169 (mkE Yo.en Yo.ex f169):=an ae V0.right (fun m=>[]) (t:=t169) (by kernel_rfl) (fun m=>aB) (fun m a=>by kernel_rfl) fun a0 hc=>Q3 a0 hc
def Vc:Tb Tryz.prog LQ TE XX:=V0.add 169 _ KU
def YD:aC:=⟨Vc.tab,184,⟨[.af (sI 3)],[],0⟩,⟨[.buf 0 3],[.af (sI 3)],0⟩,[]⟩
def t184 (m:Nat):List Dat->Option (List Un):=fun a0=>
 bif decide (a0.length=0)then
 both (
 some ([.d ([])])) (
 chk (fits (0+a0.length) 24)<|
 some ([.d a0]))
 else
 chk (fits (0+a0.length) 24)<|
 some ([.d a0])
def f184:List Dat->Bool × List Un:=fun a0=>(decide (a0.length<1000000),[.d (a0)])
theorem SD (a0:List Dat) (hc:(decide (a0.length<1000000))=true):∃m,t184 m a0=some ([.d (a0)]):=by
 have h:=zaj hc;refine⟨0, ?_⟩;unfold t184;cases a0 with
 |nil=>simp(disch:=omega) only[TRa,TRi,ab,zar,ig,za5,iD]
 |cons x l=>
  simp only[zac]at h⊢;simp(disch:=omega) only[TRa,TRi,ab]
theorem Mi:ER 184 (mkE YD.en YD.ex f184):=an ae Vc.right (fun m=>[]) (t:=t184) (by kernel_rfl) (fun m=>aB) (fun m a=>by kernel_rfl) fun a0 hc=>SD a0 hc
def TD:Tb Tryz.prog LQ TE XX:=Vc.add 184 _ Mi
def Y7:aC:=⟨TD.tab,125,⟨[.agg [.int .i64,.int .i64,.int .i64,.af (sI 2),.af (sI 3),.int .i64,.int .i64,.int .i64,.int .i64,.int .i64,.int .i64,.int .i64,.int .i64,.int .i64,.int .i64,.af (sI 2),.af (sI 2),.af (sI 2)]],[],0⟩,⟨[.agg [.int .i64,.int .i64,.int .i64,.buf 0 2,.buf 1 3,.int .i64,.int .i64,.int .i64,.int .i64,.int .i64,.int .i64,.int .i64,.int .i64,.int .i64,.int .i64,.buf 2 2,.buf 3 2,.buf 4 2]],[.af (sI 2),.af (sI 3),.af (sI 2),.af (sI 2),.af (sI 2)],0⟩,[[0,1,0,1,1,1]]⟩
def t125 (m:Nat):bc->Option (List Un):=fun a0=>
 chk (decide (a0.aK.length<1000000))<|
 chk (decide (a0.notes.length<1000000))<|
 chk (decide (a0.s0.length<1000000))<|
 chk (decide (a0.s1.length<1000000))<|
 chk (decide (a0.s2.length<1000000))<|
 some (Uns.enc (a0.a:ao)++Uns.enc (a0.b:aq)++[.d a0.aK,.d a0.notes,.d a0.s0,.d a0.s1,.d a0.s2])
def f125:bc->Bool × List Un:=fun a0=>(decide (a0.aK.length<1000000/\a0.notes.length<1000000/\a0.s0.length<1000000/\a0.s1.length<1000000/\a0.s2.length<1000000),Uns.enc ((a0.a):ao)++Uns.enc ((a0.b):aq)++[.d (a0.aK),.d (a0.notes),.d (a0.s0),.d (a0.s1),.d (a0.s2)])
theorem SX (a0:bc) (hc:(decide (a0.aK.length<1000000/\a0.notes.length<1000000/\a0.s0.length<1000000/\a0.s1.length<1000000/\a0.s2.length<1000000))=true):∃m,t125 m a0=some (Uns.enc ((a0.a):ao)++Uns.enc ((a0.b):aq)++[.d (a0.aK),.d (a0.notes),.d (a0.s0),.d (a0.s1),.d (a0.s2)]):=by
 obtain⟨h1,h2,h3,h4,h5⟩:=zaj hc;refine⟨0, ?_⟩;unfold t125;simp(disch:=omega) only[TRa,TRi,ab]
theorem MI:ER 125 (mkE Y7.en Y7.ex f125):=an ae TD.right (fun m=>[]) (t:=t125) (by kernel_rfl) (fun m=>aB) (fun m a=>by kernel_rfl) fun a0 hc=>SX a0 hc
def TQ:Tb Tryz.prog LQ TE XX:=TD.add 125 _ MI
def YI:aC:=⟨TQ.tab,127,⟨[.int .i64],[],0⟩,⟨[.agg [.int .i64,.int .i64]],[],0⟩,[]⟩
def t127 (m:Nat):Int->Option (List Un):=fun a0=>
 bif (decide ((([0,a0]).getD 0 0)<0))then
 some ([.i 0,.i 0])
 else
 bif (decide ((([0,a0]).getD 0 0)>1152921504606846976))then
 some ([.i 0,.i 0])
 else
 lt ((w64 (0+(([0,a0]).getD 0 0))):Int) fun x3=>
 bif (decide ((([0,a0]).getD 1 0)<0))then
 some ([.i 0,.i 0])
 else
 bif (decide ((([0,a0]).getD 1 0)>(w64 (1152921504606846976-x3))))then
 some ([.i 0,.i 0])
 else
 some ([.i (w64 (x3+(([0,a0]).getD 1 0))),.i 0])
def f127:Int->Bool × List Un:=fun a0=>(decide (0<=a0/\a0<=1152921504606846976),[.i (a0),.i (0)])
theorem Rh (a0:Int) (hc:(decide (0<=a0/\a0<=1152921504606846976))=true):∃m,t127 m a0=some ([.i (a0),.i (0)]):=by
 have h:=zaj hc;refine⟨0, ?_⟩;unfold t127;simp only[zaO,zaD];simp(disch:=omega) only[TRa,TRi,ab,za3,zbs]
theorem LG:ER 127 (mkE YI.en YI.ex f127):=an ae TQ.right (fun m=>[]) (t:=t127) (by kernel_rfl) (fun m=>aB) (fun m a=>by kernel_rfl) fun a0 hc=>Rh a0 hc
def TP:Tb Tryz.prog LQ TE XX:=TQ.add 127 _ LG
def Zb:aC:=⟨TP.tab,128,⟨[.agg [.int .i64,.int .i64,.int .i64]],[],0⟩,⟨[.agg [.int .i64,.int .i64,.int .i64,.int .i64,.int .i64,.int .i64,.int .i64]],[],0⟩,[]⟩
def t128 (m:Nat):Int × Int × Int->Option (List Un):=fun(a0,a1,a2)=>
 some ([.i a0,.i a1,.i a2,.i 0,.i 0,.i 0,.i 0])
def f128:Int × Int × Int->Bool × List Un:=fun(a0,a1,a2)=>(true,[.i (a0),.i (a1),.i (a2),.i (0),.i (0),.i (0),.i (0)])
theorem P5 (a0:Int) (a1:Int) (a2:Int):∃m,t128 m (a0,a1,a2)=some ([.i (a0),.i (a1),.i (a2),.i (0),.i (0),.i (0),.i (0)]):=by
 exact⟨0,rfl⟩
theorem Lv:ER 128 (mkE Zb.en Zb.ex f128):=an ae TP.right (fun m=>[]) (t:=t128) (by kernel_rfl) (fun m=>aB) (fun m a=>by kernel_rfl) fun(a0,a1,a2) hc=>P5 a0 a1 a2
def RX:Tb Tryz.prog LQ TE XX:=TP.add 128 _ Lv
def jm (d:Dat):Dat:= .r [.n (d.i 0),.n (d.i 1),.n 0,.n 0,.n (bI false)]
def Wo:aC:=⟨RX.tab,126,⟨[.af (sI 2)],[],0⟩,⟨[.ptr 0 0 0],[.cells [.buf 1 5],.af (sB 4)],0⟩,[]⟩
abbrev Cu:Type:=List Dat × Int × Int × List Dat
def w6 (m:Nat) (k:Cu->Option (List Un)):Cu->Option (List Un):=fun(a0,a1,a2,a3)=>
 bif decide (a2<a1)then
 chk (inb a2 a0.length)<|
 chk (decide (a2.toNat<a0.length))<|
 lt (ag a0 a2.toNat:Dat) fun d1=>
 chk (fits (a3.length+1) 40)<|
 k (a0,a1,(w64 (a2+1)),(a3++([.r [.n (d1.i 0),.n (d1.i 1),.n 0,.n 0,.n (bI false)]])))
 else
 some ([.d a3])
def te (m:Nat):Nat->Cu->Option (List Un):=bq (w6 m)
theorem vC (m:Nat) (n:Nat):te m (n+1)=w6 m (te m n):=rfl
def GI (F:Cu->Option (List Un)):aU:=⟨[.lp [0,1,0,1,1],.blk 0,.code [1,1,1]],⟨frm 27 [(3,.ptr 0 0 0),(8,.af (sI 2)),(9,.int .i64),(10,.int .i64)],[.cells [.buf 1 5],.af (sB 4)],0⟩,onU F⟩
theorem Vm (m:Nat):∀n,HO Wo (GI (te m n)):=au ae RX.right (fun k=>[GI k]) (fun k h=>(aH h aB)) fun k a=>by kernel_rfl
def t126 (m:Nat):List Dat->Option (List Un):=fun a0=>
 te m m (a0,(a0.length:Int),0,[])
theorem L9 (m:Nat):∀(rest pre:List Dat) (n:Nat),rest.length<n->(pre++rest).length<1000000->
 te m n (pre++rest,((pre++rest).length:Int),(pre.length:Int),pre.map jm)=some [.d ((pre++rest).map jm)]:=by
 intro rest
 induction rest with
 |nil=>
  intro pre n hn hl;obtain⟨n,rfl⟩:=ak n (by simp at hn;omega);rw[vC];unfold w6;dsimp only;simp[az]
 |cons x rest ih=>
  intro pre n hn hl;obtain⟨n,rfl⟩:=ak n (by simp at hn;omega);simp only[zac,zab]at hn hl;rw[vC];unfold w6;dsimp only;have:=ih (pre++[x]) n (by omega) (by simp;omega);rw[List.map_append]at this;simp(disch:=omega) only[TRa,TRi,ab,LNl,LNi,zad,aD];simp only[LNl,LNi,zad]at this⊢;exact this
def f126:List Dat->Bool × List Un:=fun a0=>(decide (a0.length<1000000),[.d (a0.map jm)])
theorem O0 (a0:List Dat) (hc:(decide (a0.length<1000000))=true):∃m,t126 m a0=some ([.d (a0.map jm)]):=by
 exact⟨a0.length+1,L9 _ a0 [] _ (by omega) (zaj hc)⟩
theorem NG:ER 126 (mkE Wo.en Wo.ex f126):=an ae RX.right (fun m=>[GI (te m m)]) (t:=t126) (by kernel_rfl) (fun m=>(aH (Vm m m) aB)) (fun m a=>by kernel_rfl) fun a0 hc=>O0 a0 hc
def P2:Tb Tryz.prog LQ TE XX:=RX.add 126 _ NG
@[ext] structure ai where
 rin:Int
 aR:Int
 out:Int
 fee:Int
 mode:Int
 bp:Int
 period:Int
 aM:Int
 aT:Int
 fc:Bool
instance : Uns ai := Uns.via (B := Int × Int × Int × Int × Int × Int × Int × Int × Int × Bool) (fun x => (x.rin, x.aR, x.out, x.fee, x.mode, x.bp, x.period, x.aM, x.aT, x.fc)) (fun x => match x with | (rin, aR, out, fee, mode, bp, period, aM, aT, fc) => ⟨rin, aR, out, fee, mode, bp, period, aM, aT, fc⟩) (fun _ => rfl)
def bf (p:Nat):List BP:=[.cells [.int .i64,.int .i64,.int .i64,.buf (p+1) 2,.buf (p+2) 3,.int .i64,.int .i64,.int .i64,.int .i64,.int .i64,.int .i64,.int .i64,.int .i64,.int .i64,.int .i64,.buf (p+3) 2,.buf (p+4) 2,.buf (p+5) 2,.ptr (p+6) 0 0,.buf (p+8) 7,.int .i64,.int .i64,.int .i64,.int .i64,.int .i64,.int .i64,.int .i64,.int .i64,.int .i64,.bool],.af (sI 2),.af (sI 3),.af (sI 2),.af (sI 2),.af (sI 2),.cells [.buf (p+7) 5],.af (sB 4),.af (sI 7)]
structure aa where
 a:ao
 b:aq
 n:ai
 aK:List Dat
 notes:List Dat
 s0:List Dat
 s1:List Dat
 s2:List Dat
 aJ:List Dat
 tr:List Dat
def vu (d:Dat):Dat:= .r [.n (d.i 0),.n (d.i 1),.n (d.i 2),.n 0,.n 0,.n 0,.n 0]
def dy (d:bc):aa:=⟨d.a,d.b,⟨d.b.bC,0,0,0,0,0,0,0,0,false⟩,d.aK,d.notes,d.s0,d.s1,d.s2,d.aK.map jm,d.notes.map vu⟩
def kJ (d:bc):aa:=if (bW d).isSome then dy d else⟨⟨0,0,0⟩,⟨0,0,0,0,0,0,0,0,0,0⟩,⟨0,0,0,0,0,0,0,0,0,false⟩,[],[],[],[],[],[],[]⟩
theorem zR {d:bc} (h:(bW d).isSome=true):0<=d.b.bC/\d.b.bC<=1099511627776:=by
 unfold bW at h
 split at h
 . cases h
 . split at h
   . cases h
   . split at h
     . rename_i hc;simp only[zae,qz,zaf]at hc;omega
     . cases h
def N92:aC:=⟨P2.tab,92,⟨[.agg [.int .i64,.int .i64,.int .i64,.af (sI 2),.af (sI 3),.int .i64,.int .i64,.int .i64,.int .i64,.int .i64,.int .i64,.int .i64,.int .i64,.int .i64,.int .i64,.af (sI 2),.af (sI 2),.af (sI 2)]],[],0⟩,⟨[.np 0 0 0,.int .i64],bf 0,0⟩,[]⟩
abbrev Ig:Type:=List Dat × Int × Int × ao × aq × ai × List Dat × List Dat × List Dat × List Dat × List Dat × List Dat × List Dat
def Cn (m:Nat) (k:Ig->Option (List Un)):Ig->Option (List Un):=fun(a0,a1,a2,a3,a4,a5,a6,a7,a8,a9,a10,a11,a12)=>
 bif decide (a2<a1)then
 chk (inb a2 a0.length)<|
 chk (decide (a2.toNat<a0.length))<|
 lt (ag a0 a2.toNat:Dat) fun d1=>
 chk (fits (a11.length+1) 56)<|
 k (a0,a1,(w64 (a2+1)),a3,a4,a5,a6,a7,a8,a9,a10,(a11++([.r [.n (d1.i 0),.n (d1.i 1),.n (d1.i 2),.n 0,.n 0,.n 0,.n 0]])),a12)
 else
 some ([.i 0,.i 0]++Uns.enc (a3:ao)++Uns.enc (a4:aq)++Uns.enc (a5:ai)++[.d a6,.d a7,.d a8,.d a9,.d a10,.d a12,.d a11])
def AI (m:Nat):Nat->Ig->Option (List Un):=bq (Cn m)
theorem zv (m:Nat) (n:Nat):AI m (n+1)=Cn m (AI m n):=rfl
def MQ (F:Ig->Option (List Un)):aU:=⟨[.lp [0,1,0,1,1,1],.blk 0,.code [1,1,1,1]],⟨frm 40 [(4,.ptr 0 0 0),(21,.af (sI 3)),(22,.int .i64),(23,.int .i64)],[.cells [.int .i64,.int .i64,.int .i64,.buf 1 2,.buf 2 3,.int .i64,.int .i64,.int .i64,.int .i64,.int .i64,.int .i64,.int .i64,.int .i64,.int .i64,.int .i64,.buf 3 2,.buf 4 2,.buf 5 2,.ptr 6 0 0,.buf 7 7,.int .i64,.int .i64,.int .i64,.int .i64,.int .i64,.int .i64,.int .i64,.int .i64,.int .i64,.bool],.af (sI 2),.af (sI 3),.af (sI 2),.af (sI 2),.af (sI 2),.cells [.buf 8 5],.af (sI 7),.af (sB 4)],0⟩,onU F⟩
theorem Zo (m:Nat):∀n,HO N92 (MQ (AI m n)):=au ae P2.right (fun k=>[MQ k]) (fun k h=>(aH h aB)) fun k a=>by kernel_rfl
def t92 (m:Nat):bc->Option (List Un):=fun a0=>
 bif !((bW a0).isSome)then
 some ([.i (-1),.i 2]++Uns.enc ((⟨0,0,0⟩:ao):ao)++Uns.enc ((⟨0,0,0,0,0,0,0,0,0,0⟩:aq):aq)++Uns.enc ((⟨0,0,0,0,0,0,0,0,0,false⟩:ai):ai)++[.d ([]),.d ([]),.d ([]),.d ([]),.d ([]),.d ([]),.d ([])])
 else
 chk (decide (a0.aK.length<1000000/\a0.notes.length<1000000/\a0.s0.length<1000000/\a0.s1.length<1000000/\a0.s2.length<1000000))<|
 chk (decide (a0.aK.length<1000000))<|
 chk (decide (0<=a0.b.bC/\a0.b.bC<=1152921504606846976))<|
 AI m m (a0.notes,(a0.notes.length:Int),0,a0.a,a0.b,(⟨a0.b.bC,0,0,0,0,0,0,0,0,false⟩:ai),a0.aK,a0.notes,a0.s0,a0.s1,a0.s2,[],(a0.aK.map jm))
theorem JH (m:Nat) (a:ao) (b:aq) (n0:ai) (x1 x2 x3 x4 x5 x6:List Dat):∀(rest pre:List Dat) (n:Nat),rest.length<n->(pre++rest).length<1000000->
 AI m n (pre++rest,((pre++rest).length:Int),(pre.length:Int),a,b,n0,x1,x2,x3,x4,x5,pre.map vu,x6)=some ([.i 0,.i 0]++Uns.enc (a:ao)++Uns.enc (b:aq)++Uns.enc (n0:ai)++[.d x1,.d x2,.d x3,.d x4,.d x5,.d x6,.d ((pre++rest).map vu)]):=by
 intro rest
 induction rest with
 |nil=>
  intro pre n hn hl;obtain⟨n,rfl⟩:=ak n (by simp at hn;omega);rw[zv];unfold Cn;dsimp only;simp[az]
 |cons x rest ih=>
  intro pre n hn hl;obtain⟨n,rfl⟩:=ak n (by simp at hn;omega);simp only[zac,zab]at hn hl;rw[zv];unfold Cn;dsimp only;have:=ih (pre++[x]) n (by omega) (by simp;omega);rw[List.map_append]at this;simp(disch:=omega) only[TRa,TRi,ab,LNl,LNi,zad,aD];simp only[LNl,LNi,zad]at this⊢;exact this
def f92:bc->Bool × List Un:=fun a0=>(decide (a0.aK.length<1000000/\a0.notes.length<1000000/\a0.s0.length<1000000/\a0.s1.length<1000000/\a0.s2.length<1000000),[.i (((if (bW a0).isSome then 0 else-1):Int)),.i (((if (bW a0).isSome then 0 else 2):Int))]++Uns.enc (((kJ a0).a):ao)++Uns.enc (((kJ a0).b):aq)++Uns.enc (((kJ a0).n):ai)++[.d ((kJ a0).aK),.d ((kJ a0).notes),.d ((kJ a0).s0),.d ((kJ a0).s1),.d ((kJ a0).s2),.d ((kJ a0).aJ),.d ((kJ a0).tr)])
theorem U1 (a0:bc) (hc:(decide (a0.aK.length<1000000/\a0.notes.length<1000000/\a0.s0.length<1000000/\a0.s1.length<1000000/\a0.s2.length<1000000))=true):∃m,t92 m a0=some ([.i (((if (bW a0).isSome then 0 else-1):Int)),.i (((if (bW a0).isSome then 0 else 2):Int))]++Uns.enc (((kJ a0).a):ao)++Uns.enc (((kJ a0).b):aq)++Uns.enc (((kJ a0).n):ai)++[.d ((kJ a0).aK),.d ((kJ a0).notes),.d ((kJ a0).s0),.d ((kJ a0).s1),.d ((kJ a0).s2),.d ((kJ a0).aJ),.d ((kJ a0).tr)]):=by
 have h:=zaj hc;refine⟨a0.notes.length+1, ?_⟩;unfold t92 kJ;cases hs:(bW a0).isSome
 . rfl
 . have hr:=zR hs;simp only[zbf,zal,zbd];rw[aP h,aP (by omega),aP (by omega)];exact JH _ _ _ _ _ _ _ _ _ _ a0.notes [] _ (by omega) (by simp;omega)
theorem RU:ER 92 (mkE N92.en N92.ex f92):=an ae P2.right (fun m=>[MQ (AI m m)]) (t:=t92) (by kernel_rfl) (fun m=>(aH (Zo m m) aB)) (fun m a=>by kernel_rfl) fun a0 hc=>U1 a0 hc
def T92:Tb Tryz.prog LQ TE XX:=P2.add 92 _ RU
def Yk:aC:=⟨T92.tab,110,⟨[.agg [.int .i64,.int .i64]],[],0⟩,⟨[.int .i64],[],0⟩,[]⟩
def t110 (m:Nat):Int × Int->Option (List Un):=fun(a0,a1)=>
 some ([.i (w64 (a0-a1))])
def f110:Int × Int->Bool × List Un:=fun(a0,a1)=>(true,[.i (w64 (a0-a1))])
theorem Rv (a0:Int) (a1:Int):∃m,t110 m (a0,a1)=some ([.i (w64 (a0-a1))]):=by
 exact⟨0,rfl⟩
theorem Lf:ER 110 (mkE Yk.en Yk.ex f110):=an ae T92.right (fun m=>[]) (t:=t110) (by kernel_rfl) (fun m=>aB) (fun m a=>by kernel_rfl) fun(a0,a1) hc=>Rv a0 a1
def Uu:Tb Tryz.prog LQ TE XX:=T92.add 110 _ Lf
def Xh:aC:=⟨Uu.tab,180,⟨[.agg [.int .i64,.int .i64,.int .i64,.int .i64,.int .i64,.int .i64,.int .i64]],[],0⟩,⟨[.int .i64],[],0⟩,[]⟩
def t180 (m:Nat):Int × Int × Int × Int × Int × Int × Int->Option (List Un):=fun(a0,a1,a2,a3,a4,a5,a6)=>
 some ([.i (w64 ((w64 (a1-(w64 (a3-a4))))-a6))])
def f180:Int × Int × Int × Int × Int × Int × Int->Bool × List Un:=fun(a0,a1,a2,a3,a4,a5,a6)=>(true,[.i (w64 (w64 (a1-w64 (a3-a4))-a6))])
theorem Ry (a0:Int) (a1:Int) (a2:Int) (a3:Int) (a4:Int) (a5:Int) (a6:Int):∃m,t180 m (a0,a1,a2,a3,a4,a5,a6)=some ([.i (w64 (w64 (a1-w64 (a3-a4))-a6))]):=by
 exact⟨0,rfl⟩
theorem MC:ER 180 (mkE Xh.en Xh.ex f180):=an ae Uu.right (fun m=>[]) (t:=t180) (by kernel_rfl) (fun m=>aB) (fun m a=>by kernel_rfl) fun(a0,a1,a2,a3,a4,a5,a6) hc=>Ry a0 a1 a2 a3 a4 a5 a6
def Vb:Tb Tryz.prog LQ TE XX:=Uu.add 180 _ MC
def aW (d:Dat):Int:=d.i 1-(d.i 3-d.i 4)-d.i 6
def aO (d:Dat):Bool:=decide (0<=d.i 1/\d.i 1<=1099511627776/\0<=d.i 3/\d.i 4=0/\0<=d.i 6/\d.i 3+d.i 6<=d.i 1/\0<=d.i 5/\d.i 5<=1125899906842624)
def oL (c:Int) (d:Dat):Int:=max (min c (aW d)) 0
def vK (c:Int) (d:Dat):Dat:= .r [.n (d.i 0),.n (d.i 1),.n (d.i 2),.n (d.i 3+oL c d),.n (d.i 4),.n (d.i 5),.n (d.i 6)]
def fk (c:Int) (d:Dat):Dat:= .r [.n (d.i 0),.n (d.i 1),.n (d.i 2),.n (d.i 3),.n (d.i 4),.n (d.i 5),.n (d.i 6+oL c d)]
def oz (c:Int) (d:Dat):Int:=max (min c (d.i 6)) 0
def iE (c:Int) (d:Dat):Dat:= .r [.n (d.i 0),.n (d.i 1),.n (d.i 2),.n (d.i 3),.n (d.i 4),.n (d.i 5),.n (d.i 6-oz c d)]
def BQ (c:Int) (d:Dat):Dat:= .r [.n (d.i 0),.n (d.i 1),.n (d.i 2),.n (d.i 3),.n (d.i 4),.n (d.i 5+c),.n (d.i 6)]
def Ye:aC:=⟨Vb.tab,188,⟨[.np 0 7 0,.int .i64],[.af (sI 7)],0⟩,⟨[.int .i64],[.af (sI 7)],0⟩,[]⟩
def t188 (m:Nat):Int × Int × List Dat->Option (List Un):=fun(a0,a1,a2)=>
 chk (decide (0<=a0))<|
 chk (decide (a0.toNat<a2.length))<|
 lt (ag a2 a0.toNat:Dat) fun d1=>
 lt ((w64 (w64 ((d1.i 1)-w64 ((d1.i 3)-(d1.i 4)))-(d1.i 6))):Int) fun x2=>
 lt ((if x2<a1 then x2 else a1):Int) fun x3=>
 lt ((if x3<0 then 0 else x3):Int) fun x4=>
 chk (decide (0<=a0))<|
 chk (decide (a0.toNat<a2.length))<|
 lt (ag a2 a0.toNat:Dat) fun d5=>
 lt ((([(d5.i 3),x4]).getD 0 0):Int) fun x6=>
 bif decide (x6<0)then
 some ([.i 0,.d a2])
 else
 bif (decide (x6>1152921504606846976))then
 some ([.i 0,.d a2])
 else
 lt ((([(d5.i 3),x4]).getD 1 0):Int) fun x8=>
 bif decide (x8<0)then
 some ([.i 0,.d a2])
 else
 bif decide (x8>(w64 (1152921504606846976-(w64 (0+x6)))))then
 some ([.i 0,.d a2])
 else
 chk (decide (a0.toNat<a2.length))<|
 lt (ag a2 a0.toNat:Dat) fun d11=>
 some ([.i x4,.d (List.set a2 a0.toNat (.r [.n (d11.i 0),.n (d11.i 1),.n (d11.i 2),.n (w64 ((w64 (0+x6))+x8)),.n (d11.i 4),.n (d11.i 5),.n (d11.i 6)]))])
def f188:Int × Int × List Dat->Bool × List Un:=fun(a0,a1,a2)=>(decide (0<=a0/\a0.toNat<a2.length)&&aO (ag a2 a0.toNat),[.i (oL a1 (ag a2 a0.toNat)),.d (a2.set a0.toNat (vK a1 (ag a2 a0.toNat)))])
theorem Qd (a0:Int) (a1:Int) (a2:List Dat) (hc:(decide (0<=a0/\a0.toNat<a2.length)&&aO (ag a2 a0.toNat))=true):∃m,t188 m (a0,a1,a2)=some ([.i (oL a1 (ag a2 a0.toNat)),.d (a2.set a0.toNat (vK a1 (ag a2 a0.toNat)))]):=by
 simp only[zae,zaf,aO]at hc;obtain⟨⟨h1,h2⟩,h⟩:=hc;refine⟨0, ?_⟩;unfold t188;dsimp only;simp only[lt_eq];generalize ag a2 a0.toNat=d at*
 have hv:∀c,oL c d=max (min c (aW d)) 0:=fun _=>rfl
 simp only[vK,fk,iE,BQ,oz,hv,aW];simp only[zaO,zaD,lt_eq,lX,mZ];simp(disch:=omega) only[TRa,TRi,ab,za3]
theorem KW:ER 188 (mkE Ye.en Ye.ex f188):=an ae Vb.right (fun m=>[]) (t:=t188) (by kernel_rfl) (fun m=>aB) (fun m a=>by kernel_rfl) fun(a0,a1,a2) hc=>Qd a0 a1 a2 hc
def T9:Tb Tryz.prog LQ TE XX:=Vb.add 188 _ KW
def Xd:aC:=⟨T9.tab,216,⟨[.np 0 7 0,.int .i64],[.af (sI 7)],0⟩,⟨[.int .i64],[.af (sI 7)],0⟩,[]⟩
def t216 (m:Nat):Int × Int × List Dat->Option (List Un):=fun(a0,a1,a2)=>
 chk (decide (0<=a0))<|
 chk (decide (a0.toNat<a2.length))<|
 lt (ag a2 a0.toNat:Dat) fun d1=>
 lt ((w64 (w64 ((d1.i 1)-w64 ((d1.i 3)-(d1.i 4)))-(d1.i 6))):Int) fun x2=>
 lt ((if x2<a1 then x2 else a1):Int) fun x3=>
 lt ((if x3<0 then 0 else x3):Int) fun x4=>
 chk (decide (0<=a0))<|
 chk (decide (a0.toNat<a2.length))<|
 chk (decide (0<=a0))<|
 chk (decide (a0.toNat<a2.length))<|
 lt (ag a2 a0.toNat:Dat) fun d6=>
 some ([.i x4,.d (List.set a2 a0.toNat (.r [.n (d6.i 0),.n (d6.i 1),.n (d6.i 2),.n (d6.i 3),.n (d6.i 4),.n (d6.i 5),.n (w64 (((ag a2 a0.toNat).i 6)+x4))]))])
def f216:Int × Int × List Dat->Bool × List Un:=fun(a0,a1,a2)=>(decide (0<=a0/\a0.toNat<a2.length)&&aO (ag a2 a0.toNat),[.i (oL a1 (ag a2 a0.toNat)),.d (a2.set a0.toNat (fk a1 (ag a2 a0.toNat)))])
theorem RF (a0:Int) (a1:Int) (a2:List Dat) (hc:(decide (0<=a0/\a0.toNat<a2.length)&&aO (ag a2 a0.toNat))=true):∃m,t216 m (a0,a1,a2)=some ([.i (oL a1 (ag a2 a0.toNat)),.d (a2.set a0.toNat (fk a1 (ag a2 a0.toNat)))]):=by
 simp only[zae,zaf,aO]at hc;obtain⟨⟨h1,h2⟩,h⟩:=hc;refine⟨0, ?_⟩;unfold t216;dsimp only;simp only[lt_eq];generalize ag a2 a0.toNat=d at*
 have hv:∀c,oL c d=max (min c (aW d)) 0:=fun _=>rfl
 simp only[vK,fk,iE,BQ,oz,hv,aW];simp only[zaO,zaD,lt_eq,lX,mZ];simp(disch:=omega) only[TRa,TRi,ab,za3]
theorem Ot:ER 216 (mkE Xd.en Xd.ex f216):=an ae T9.right (fun m=>[]) (t:=t216) (by kernel_rfl) (fun m=>aB) (fun m a=>by kernel_rfl) fun(a0,a1,a2) hc=>RF a0 a1 a2 hc
def UR:Tb Tryz.prog LQ TE XX:=T9.add 216 _ Ot
def W5:aC:=⟨UR.tab,218,⟨[.np 0 7 0,.int .i64],[.af (sI 7)],0⟩,⟨[.int .i64],[.af (sI 7)],0⟩,[]⟩
def t218 (m:Nat):Int × Int × List Dat->Option (List Un):=fun(a0,a1,a2)=>
 chk (decide (0<=a0))<|
 chk (decide (a0.toNat<a2.length))<|
 lt (ag a2 a0.toNat:Dat) fun d1=>
 lt ((if (d1.i 6)<a1 then(d1.i 6)else a1):Int) fun x2=>
 lt ((if x2<0 then 0 else x2):Int) fun x3=>
 chk (decide (0<=a0))<|
 chk (decide (a0.toNat<a2.length))<|
 chk (decide (0<=a0))<|
 chk (decide (a0.toNat<a2.length))<|
 lt (ag a2 a0.toNat:Dat) fun d5=>
 some ([.i x3,.d (List.set a2 a0.toNat (.r [.n (d5.i 0),.n (d5.i 1),.n (d5.i 2),.n (d5.i 3),.n (d5.i 4),.n (d5.i 5),.n (w64 (((ag a2 a0.toNat).i 6)-x3))]))])
def f218:Int × Int × List Dat->Bool × List Un:=fun(a0,a1,a2)=>(decide (0<=a0/\a0.toNat<a2.length)&&aO (ag a2 a0.toNat),[.i (oz a1 (ag a2 a0.toNat)),.d (a2.set a0.toNat (iE a1 (ag a2 a0.toNat)))])
theorem QL (a0:Int) (a1:Int) (a2:List Dat) (hc:(decide (0<=a0/\a0.toNat<a2.length)&&aO (ag a2 a0.toNat))=true):∃m,t218 m (a0,a1,a2)=some ([.i (oz a1 (ag a2 a0.toNat)),.d (a2.set a0.toNat (iE a1 (ag a2 a0.toNat)))]):=by
 simp only[zae,zaf,aO]at hc;obtain⟨⟨h1,h2⟩,h⟩:=hc;refine⟨0, ?_⟩;unfold t218;dsimp only;simp only[lt_eq];generalize ag a2 a0.toNat=d at*
 have hv:∀c,oL c d=max (min c (aW d)) 0:=fun _=>rfl
 simp only[vK,fk,iE,BQ,oz,hv,aW];simp only[zaO,zaD,lt_eq,lX,mZ];simp(disch:=omega) only[TRa,TRi,ab,za3]
theorem MV:ER 218 (mkE W5.en W5.ex f218):=an ae UR.right (fun m=>[]) (t:=t218) (by kernel_rfl) (fun m=>aB) (fun m a=>by kernel_rfl) fun(a0,a1,a2) hc=>QL a0 a1 a2 hc
def Uj:Tb Tryz.prog LQ TE XX:=UR.add 218 _ MV
def XE:aC:=⟨Uj.tab,181,⟨[.np 0 7 0,.int .i64],[.af (sI 7)],0⟩,⟨[.bool],[.af (sI 7)],0⟩,[]⟩
def t181 (m:Nat):Int × Int × List Dat->Option (List Un):=fun(a0,a1,a2)=>
 chk (decide (0<=a0))<|
 chk (decide (a0.toNat<a2.length))<|
 lt (ag a2 a0.toNat:Dat) fun d1=>
 lt ((([(d1.i 5),a1]).getD 0 0):Int) fun x2=>
 bif decide (x2<0)then
 some ([.b false,.d a2])
 else
 bif (decide (x2>1152921504606846976))then
 some ([.b false,.d a2])
 else
 lt ((([(d1.i 5),a1]).getD 1 0):Int) fun x4=>
 bif decide (x4<0)then
 some ([.b false,.d a2])
 else
 bif decide (x4>(w64 (1152921504606846976-(w64 (0+x2)))))then
 some ([.b false,.d a2])
 else
 chk (decide (0<=a0))<|
 chk (decide (a0.toNat<a2.length))<|
 lt (ag a2 a0.toNat:Dat) fun d7=>
 some ([.b true,.d (List.set a2 a0.toNat (.r [.n (d7.i 0),.n (d7.i 1),.n (d7.i 2),.n (d7.i 3),.n (d7.i 4),.n (w64 ((w64 (0+x2))+x4)),.n (d7.i 6)]))])
def f181:Int × Int × List Dat->Bool × List Un:=fun(a0,a1,a2)=>(decide (0<=a1/\a1<=1125899906842624)&&(decide (0<=a0/\a0.toNat<a2.length)&&aO (ag a2 a0.toNat)),[.b (true),.d (a2.set a0.toNat (BQ a1 (ag a2 a0.toNat)))])
theorem PT (a0:Int) (a1:Int) (a2:List Dat) (hc:(decide (0<=a1/\a1<=1125899906842624)&&(decide (0<=a0/\a0.toNat<a2.length)&&aO (ag a2 a0.toNat)))=true):∃m,t181 m (a0,a1,a2)=some ([.b (true),.d (a2.set a0.toNat (BQ a1 (ag a2 a0.toNat)))]):=by
 simp only[zae,zaf,aO]at hc;obtain⟨h0,⟨h1,h2⟩,h⟩:=hc;refine⟨0, ?_⟩;unfold t181;dsimp only;simp only[lt_eq];generalize ag a2 a0.toNat=d at*
 have hv:∀c,oL c d=max (min c (aW d)) 0:=fun _=>rfl
 simp only[vK,fk,iE,BQ,oz,hv,aW];simp only[zaO,zaD,lt_eq,lX,mZ];simp(disch:=omega) only[TRa,TRi,ab,za3]
theorem KJ:ER 181 (mkE XE.en XE.ex f181):=an ae Uj.right (fun m=>[]) (t:=t181) (by kernel_rfl) (fun m=>aB) (fun m a=>by kernel_rfl) fun(a0,a1,a2) hc=>PT a0 a1 a2 hc
def Sx:Tb Tryz.prog LQ TE XX:=Uj.add 181 _ KJ
def bE (f:Dat->Int):List Dat->Int
 |[]=>0
 |d::l=>f d+bE f l
theorem cC {d:Dat} (h:aO d=true):0<=d.i 1/\d.i 1<=1099511627776/\0<=d.i 3/\d.i 4=0/\0<=d.i 6/\d.i 3+d.i 6<=d.i 1/\0<=d.i 5/\d.i 5<=1125899906842624:=zaj h
def Vz:aC:=⟨Sx.tab,182,⟨[.af (sI 7)],[],0⟩,⟨[.int .i64,.int .i64,.int .i64],[],0⟩,[]⟩
abbrev BU:Type:=Int × Int × Int × List Dat × Int × Int
def wL (m:Nat) (k:BU->Option (List Un)):BU->Option (List Un):=fun(a0,a1,a2,a3,a4,a5)=>
 bif decide (a5<a4)then
 chk (inb a5 a3.length)<|
 chk (decide (a5.toNat<a3.length))<|
 lt (ag a3 a5.toNat:Dat) fun d1=>
 k ((w64 (a0+(w64 (w64 ((d1.i 1)-w64 ((d1.i 3)-(d1.i 4)))-(d1.i 6))))),(w64 (a1+(d1.i 5))),(w64 (a2+(d1.i 6))),a3,a4,(w64 (a5+1)))
 else
 some ([.i a0,.i a1,.i a2])
def so (m:Nat):Nat->BU->Option (List Un):=bq (wL m)
theorem uQ (m:Nat) (n:Nat):so m (n+1)=wL m (so m n):=rfl
def Ht (F:BU->Option (List Un)):aU:=⟨[.lp [0,1,0,1],.blk 0,.code [1,1]],⟨frm 29 [(2,.int .i64),(3,.int .i64),(4,.int .i64),(7,.af (sI 7)),(8,.int .i64),(9,.int .i64)],[],0⟩,onU F⟩
theorem UA (m:Nat):∀n,HO Vz (Ht (so m n)):=au ae Sx.right (fun k=>[Ht k]) (fun k h=>(aH h aB)) fun k a=>by kernel_rfl
def t182 (m:Nat):List Dat->Option (List Un):=fun a0=>
 so m m (0,0,0,a0,(a0.length:Int),0)
theorem Nj (m:Nat):∀(rest pre:List Dat) (n:Nat) (b s t:Int),rest.length<n->(pre++rest).length<=1000->(∀d∈rest,aO d=true)->0<=b->b<=1099511627776*pre.length->0<=s->s<=1125899906842624*pre.length->0<=t->t<=1099511627776*pre.length->
 so m n (b,s,t,pre++rest,((pre++rest).length:Int),(pre.length:Int))=some [.i (b+bE aW rest),.i (s+al 5 rest),.i (t+al 6 rest)]:=by
 intro rest
 induction rest with
 |nil=>
  intro pre n b s t hn hl hg b0 b1 s0 s1 t0 t1;obtain⟨n,rfl⟩:=ak n (by simp at hn;omega);rw[uQ];unfold wL;dsimp only;simp[az,bE,al]
 |cons x rest ih=>
  intro pre n b s t hn hl hg b0 b1 s0 s1 t0 t1;obtain⟨n,rfl⟩:=ak n (by simp at hn;omega);simp only[zac,zab]at hn hl;have hx:=cC (hg x (by simp));rw[uQ];unfold wL;dsimp only;have:=ih (pre++[x]) n (b+aW x) (s+x.i 5) (t+x.i 6) (by omega) (by simp;omega) (fun d hd=>hg d (by simp[hd])) (by unfold aW;omega) (by simp[aW];omega) (by omega) (by simp;omega) (by omega) (by simp;omega);simp only[bE,al,aW]at this⊢;simp(disch:=omega) only[TRa,TRi,ab,LNl,LNi,zad,aD];simp only[LNl,LNi,zad]at this⊢;exact this
def f182:List Dat->Bool × List Un:=fun a0=>(decide (a0.length<=1000)&&a0.all aO,[.i (bE aW a0),.i (al 5 a0),.i (al 6 a0)])
theorem Q7 (a0:List Dat) (hc:(decide (a0.length<=1000)&&a0.all aO)=true):∃m,t182 m a0=some ([.i (bE aW a0),.i (al 5 a0),.i (al 6 a0)]):=by
 simp only[zae,zaf,zao]at hc;refine⟨a0.length+1, ?_⟩;exact(Nj (a0.length+1) a0 [] (a0.length+1) 0 0 0 (by omega) (by simpa using hc.1) hc.2 (by omega) (by simp) (by omega) (by simp) (by omega) (by simp)).trans (by simp only[za3])
theorem Mv:ER 182 (mkE Vz.en Vz.ex f182):=an ae Sx.right (fun m=>[Ht (so m m)]) (t:=t182) (by kernel_rfl) (fun m=>(aH (UA m m) aB)) (fun m a=>by kernel_rfl) fun a0 hc=>Q7 a0 hc
def PL:Tb Tryz.prog LQ TE XX:=Sx.add 182 _ Mv
def unD (d:Dat):Int:=d.i 1-(d.i 3-d.i 4)
def UK:aC:=⟨PL.tab,141,⟨[.np 0 0 0],bf 0,9⟩,⟨[.int .i64,.int .i64,.int .i64,.int .i64],bf 0,9⟩,[]⟩
abbrev Da:Type:=Int × Int × Int × Int × Int × Int × ao × aq × ai × List Dat × List Dat × List Dat × List Dat × List Dat × List Dat × List Dat
def wI (m:Nat) (k:Da->Option (List Un)):Da->Option (List Un):=fun(a0,a1,a2,a3,a4,a5,a6,a7,a8,a9,a10,a11,a12,a13,a14,a15)=>
 bif decide (a5<a4)then
 chk (inb a5 a15.length)<|
 chk (decide (a5.toNat<a15.length))<|
 lt (ag a15 a5.toNat:Dat) fun d1=>
 k (a0,a1,a2,(w64 (a3+(w64 ((d1.i 1)-(w64 ((d1.i 3)-(d1.i 4))))))),a4,(w64 (a5+1)),a6,a7,a8,a9,a10,a11,a12,a13,a14,a15)
 else
 some ([.i a0,.i a1,.i a2,.i a3]++Uns.enc (a6:ao)++Uns.enc (a7:aq)++Uns.enc (a8:ai)++[.d a9,.d a10,.d a11,.d a12,.d a13,.d a14,.d a15])
def sK (m:Nat):Nat->Da->Option (List Un):=bq (wI m)
theorem uW (m:Nat) (n:Nat):sK m (n+1)=wI m (sK m n):=rfl
def FF (F:Da->Option (List Un)):aU:=⟨[.lp [0,1,0,1,1],.blk 0,.code [1,1,1]],⟨frm 40 [(2,.int .i64),(3,.int .i64),(4,.int .i64),(5,.int .i64),(20,.buf 8 7),(21,.int .i64),(22,.int .i64)],bf 0,9⟩,onU F⟩
theorem Uz (m:Nat):∀n,HO UK (FF (sK m n)):=au ae PL.right (fun k=>[FF k]) (fun k h=>(aH h aB)) fun k a=>by kernel_rfl
def t141 (m:Nat):Int × ao × aq × ai × List Dat × List Dat × List Dat × List Dat × List Dat × List Dat × List Dat->Option (List Un):=fun(a0,a1,a2,a3,a4,a5,a6,a7,a8,a9,a10)=>
 chk (decide (0<=a0))<|
 chk (decide (a10.length<=1000)&&a10.all aO)<|
 chk (decide (0<=a0))<|
 sK m m ((bE aW a10),(al 5 a10),(al 6 a10),0,(a10.length:Int),0,a1,a2,a3,a4,a5,a6,a7,a8,a9,a10)
theorem Ks (m:Nat) (b s t:Int) (xa:ao) (xb:aq) (xn:ai) (x1 x2 x3 x4 x5 x6:List Dat):∀(rest pre:List Dat) (n:Nat) (u:Int),rest.length<n->(pre++rest).length<=1000->(∀d∈rest,aO d=true)->0<=u->u<=1099511627776*pre.length->
 sK m n (b,s,t,u,((pre++rest).length:Int),(pre.length:Int),xa,xb,xn,x1,x2,x3,x4,x5,x6,pre++rest)=some ([.i b,.i s,.i t,.i (u+bE unD rest)]++Uns.enc xa++Uns.enc xb++Uns.enc xn++[.d x1,.d x2,.d x3,.d x4,.d x5,.d x6,.d (pre++rest)]):=by
 intro rest
 induction rest with
 |nil=>
  intro pre n u hn hl hg u0 u1;obtain⟨n,rfl⟩:=ak n (by simp at hn;omega);rw[uW];unfold wI;dsimp only;simp[az,bE]
 |cons x rest ih=>
  intro pre n u hn hl hg u0 u1;obtain⟨n,rfl⟩:=ak n (by simp at hn;omega);simp only[zac,zab]at hn hl;have hx:=cC (hg x (by simp));rw[uW];unfold wI;dsimp only;have:=ih (pre++[x]) n (u+unD x) (by omega) (by simp;omega) (fun d hd=>hg d (by simp[hd])) (by unfold unD;omega) (by simp[unD];omega);simp only[bE,unD]at this⊢;simp(disch:=omega) only[TRa,TRi,ab,LNl,LNi,zad,aD];simp only[LNl,LNi,zad]at this⊢;exact this
def f141:Int × ao × aq × ai × List Dat × List Dat × List Dat × List Dat × List Dat × List Dat × List Dat->Bool × List Un:=fun(a0,a1,a2,a3,a4,a5,a6,a7,a8,a9,a10)=>(decide (0<=a0)&&(decide (a10.length<=1000)&&a10.all aO),[.i (bE aW a10),.i (al 5 a10),.i (al 6 a10),.i (bE unD a10)]++Uns.enc ((a1):ao)++Uns.enc ((a2):aq)++Uns.enc ((a3):ai)++[.d (a4),.d (a5),.d (a6),.d (a7),.d (a8),.d (a9),.d (a10)])
theorem OS (a0:Int) (a1:ao) (a2:aq) (a3:ai) (a4:List Dat) (a5:List Dat) (a6:List Dat) (a7:List Dat) (a8:List Dat) (a9:List Dat) (a10:List Dat) (hc:(decide (0<=a0)&&(decide (a10.length<=1000)&&a10.all aO))=true):∃m,t141 m (a0,a1,a2,a3,a4,a5,a6,a7,a8,a9,a10)=some ([.i (bE aW a10),.i (al 5 a10),.i (al 6 a10),.i (bE unD a10)]++Uns.enc ((a1):ao)++Uns.enc ((a2):aq)++Uns.enc ((a3):ai)++[.d (a4),.d (a5),.d (a6),.d (a7),.d (a8),.d (a9),.d (a10)]):=by
 have hc':=hc;simp only[zae,zaf,zao]at hc';refine⟨a10.length+1, ?_⟩;unfold t141;dsimp only;rw[(zas.1 hc).2,kh];simp(disch:=omega) only[aP];exact(Ks (a10.length+1) _ _ _ _ _ _ _ _ _ _ _ _ a10 [] (a10.length+1) 0 (by omega) (by simpa using hc'.2.1) hc'.2.2 (by omega) (by simp)).trans (by simp only[za3,zat])
theorem Nr:ER 141 (mkE UK.en UK.ex f141):=an ae PL.right (fun m=>[FF (sK m m)]) (t:=t141) (by kernel_rfl) (fun m=>(aH (Uz m m) aB)) (fun m a=>by kernel_rfl) fun(a0,a1,a2,a3,a4,a5,a6,a7,a8,a9,a10) hc=>OS a0 a1 a2 a3 a4 a5 a6 a7 a8 a9 a10 hc
def Ve:Tb Tryz.prog LQ TE XX:=PL.add 141 _ Nr
theorem J6 {d:Dat} (c:Int) (h:aO d=true):aO (vK c d)=true:=by
 have:=cC h;refine zaa ?_
 simp only[vK,oL,aW,fP,gL,yu,qm,qM];omega
theorem EW {d:Dat} (c:Int) (h:aO d=true):aO (fk c d)=true:=by
 have:=cC h;refine zaa ?_
 simp only[fk,oL,aW,fP,gL,yu,qm,qM];omega
theorem GN {d:Dat} (c:Int) (h:aO d=true):aO (iE c d)=true:=by
 have:=cC h;refine zaa ?_
 simp only[iE,oz,fP,gL,yu,qm,qM];omega
theorem iW:∀l:List Dat,(∀d∈l,aO d=true)->(0<=bE aW l/\bE aW l<=1099511627776*l.length)/\(0<=al 5 l/\al 5 l<=1125899906842624*l.length)/\(0<=al 6 l/\al 6 l<=1099511627776*l.length)/\(0<=bE unD l/\bE unD l<=1099511627776*l.length)/\bE unD l=bE aW l+al 6 l
 |[],_=>by simp[bE,al]
 |d::l,h=>by
  have h1:=cC (h d (by simp));have h2:=iW l fun x hx=>h x (by simp[hx])
  simp only[bE,al,zac,zaG,aW,unD]at h2⊢;omega
theorem E2 (f:Dat->Int) (y:Dat):∀(l:List Dat) (j:Nat),j<l.length->bE f (l.set j y)=bE f l-f (ag l j)+f y
 |[],j,h=>by simp at h
 |d::l,0,h=>by simp only[List.set_cons_zero,bE,ag,zaO];omega
 |d::l,j+1,h=>by
  have:=E2 f y l j (by simpa using h);simp only[ag]at this;simp only[zbZ,bE,ag,zaD,this];omega
theorem IU {p:Dat->Prop} {l:List Dat} {j:Nat} {y:Dat} (h:∀d∈l,p d) (hy:p y):∀d∈l.set j y,p d:=fun d hd=>by
 rcases zbT hd with h1|rfl
 . exact h d h1
 . exact hy
theorem rA {l:List Dat} {j:Nat} (h:j<l.length):ag l j∈l:=by rw[gm h];exact zbD h
def YJ:aC:=⟨Ve.tab,191,⟨[.agg [.bool,.bool,.bool,.bool]],[],0⟩,⟨[.bool],[],0⟩,[]⟩
def t191 (m:Nat):Bool × Bool × Bool × Bool->Option (List Un):=fun(a0,a1,a2,a3)=>
 bif !a0 then
 some ([.b true])
 else
 bif !a2 then
 some ([.b true])
 else
 some ([.b !a3])
def f191:Bool × Bool × Bool × Bool->Bool × List Un:=fun(a0,a1,a2,a3)=>(true,[.b (!a0||(!a2|| !a3))])
theorem P7 (a0:Bool) (a1:Bool) (a2:Bool) (a3:Bool):∃m,t191 m (a0,a1,a2,a3)=some ([.b (!a0||(!a2|| !a3))]):=by
 refine⟨0, ?_⟩;unfold t191;cases a0<;>cases a2<;>cases a3<;>rfl
theorem N3:ER 191 (mkE YJ.en YJ.ex f191):=an ae Ve.right (fun m=>[]) (t:=t191) (by kernel_rfl) (fun m=>aB) (fun m a=>by kernel_rfl) fun(a0,a1,a2,a3) hc=>P7 a0 a1 a2 a3
def Ue:Tb Tryz.prog LQ TE XX:=Ve.add 191 _ N3
def dS (mode bp fm:Int) (oc ic late mf:Bool):Int × Int:=
 if mode=2\/ic=false then(2,0)
 else if oc=false\/late=false\/mf=false then(1,0)
 else if mode≠1\/fm<=bp\/bp+1=fm then(0,0)
 else(1,bp+1)
def YB:aC:=⟨Ue.tab,149,⟨[.agg [.int .i64,.int .i64],.int .i64,.agg [.bool,.bool,.bool,.bool]],[],0⟩,⟨[.agg [.int .i64,.int .i64]],[],0⟩,[]⟩
def t149 (m:Nat):Int × Int × Int × Bool × Bool × Bool × Bool->Option (List Un):=fun(a0,a1,a2,a3,a4,a5,a6)=>
 bif a0==2 then
 some ([.i 2,.i 0])
 else
 bif !a4 then
 some ([.i 2,.i 0])
 else
 bif (!a3||(!a5|| !a6))then
 some ([.i 1,.i 0])
 else
 bif a0 !=1 then
 some ([.i 0,.i 0])
 else
 bif decide (a1>=a2)then
 some ([.i 0,.i 0])
 else
 bif (w64 (a1+1))==a2 then
 some ([.i 0,.i 0])
 else
 some ([.i 1,.i (w64 (a1+1))])
def f149:Int × Int × Int × Bool × Bool × Bool × Bool->Bool × List Un:=fun(a0,a1,a2,a3,a4,a5,a6)=>(decide (0<=a1/\a1<=1000000),[.i ((dS a0 a1 a2 a3 a4 a5 a6).1),.i ((dS a0 a1 a2 a3 a4 a5 a6).2)])
theorem QI (a0:Int) (a1:Int) (a2:Int) (a3:Bool) (a4:Bool) (a5:Bool) (a6:Bool) (hc:(decide (0<=a1/\a1<=1000000))=true):∃m,t149 m (a0,a1,a2,a3,a4,a5,a6)=some ([.i ((dS a0 a1 a2 a3 a4 a5 a6).1),.i ((dS a0 a1 a2 a3 a4 a5 a6).2)]):=by
 have h:=zaj hc;refine⟨0, ?_⟩;unfold t149 dS
 by_cases h1:a0=2
 . simp(disch:=omega) only[TRa,TRi,ab];simp[h1]
 . cases a4
   . simp(disch:=omega) only[TRa,TRi,ab];simp
   . cases a3<;>cases a5<;>cases a6<;>simp[h1,dB]<;>by_cases h2:a0=1<;>by_cases h3:a2<=a1<;>by_cases h4:a1+1=a2<;>simp(disch:=omega) only[TRa,TRi,ab]<;>simp[h2,h3,h4]
theorem Mo:ER 149 (mkE YB.en YB.ex f149):=an ae Ue.right (fun m=>[]) (t:=t149) (by kernel_rfl) (fun m=>aB) (fun m a=>by kernel_rfl) fun(a0,a1,a2,a3,a4,a5,a6) hc=>QI a0 a1 a2 a3 a4 a5 a6 hc
def Vl:Tb Tryz.prog LQ TE XX:=Ue.add 149 _ Mo
def eh (n:Int):Int:=if n<1 then 0 else if n<3 then 1 else if n<6 then 2 else 3
def Xr:aC:=⟨Vl.tab,220,⟨[.int .i64],[],0⟩,⟨[.int .i64],[],0⟩,[]⟩
def t220 (m:Nat):Int->Option (List Un):=fun a0=>
 bif decide (a0<1)then
 some ([.i 0])
 else
 bif decide (a0<3)then
 some ([.i 1])
 else
 bif decide (a0<6)then
 some ([.i 2])
 else
 some ([.i 3])
def f220:Int->Bool × List Un:=fun a0=>(true,[.i (eh a0)])
theorem Pa (a0:Int):∃m,t220 m a0=some ([.i (eh a0)]):=by
 refine⟨0, ?_⟩;unfold t220 eh
 by_cases h1:a0<1<;>by_cases h2:a0<3<;>by_cases h3:a0<6<;>simp[h1,h2,h3]
theorem LI:ER 220 (mkE Xr.en Xr.ex f220):=an ae Vl.right (fun m=>[]) (t:=t220) (by kernel_rfl) (fun m=>aB) (fun m a=>by kernel_rfl) fun a0 hc=>Pa a0
def PN:Tb Tryz.prog LQ TE XX:=Vl.add 220 _ LI
def dw (d:Dat):Bool:=decide (0<=d.i 1/\d.i 1<=1099511627776)
def cN (j:Int) (l:List Dat):Int:=bE (fun d=>if eh (d.i 3)=j then d.i 1 else 0) l
theorem Kf (n:Int):eh n=0\/eh n=1\/eh n=2\/eh n=3:=by
 unfold eh
 split
 . exact .inl rfl
 . split
   . exact .inr (.inl rfl)
   . split
     . exact .inr (.inr (.inl rfl))
     . exact .inr (.inr (.inr rfl))
theorem rJ {d:Dat} (h:dw d=true):0<=d.i 1/\d.i 1<=1099511627776:=zaj h
def V1:aC:=⟨PN.tab,195,⟨[.af (sB 4)],[],0⟩,⟨[.agg [.int .i64,.int .i64,.int .i64,.int .i64]],[],0⟩,[]⟩
abbrev Cw:Type:=List Dat × Int × Int × Int × Int × Int × Int × Int × Int × Int × Int
def wD (m:Nat) (k:Cw->Option (List Un)):Cw->Option (List Un):=fun(a0,a1,a2,a3,a4,a5,a6,a7,a8,a9,a10)=>
 bif decide (a2<a1)then
 chk (inb a2 a0.length)<|
 chk (decide (a2.toNat<a0.length))<|
 lt (ag a0 a2.toNat:Dat) fun d1=>
 chk (inb (eh (d1.i 3)) 4)<|
 chk (decide ((eh (d1.i 3)).toNat<4))<|
 lt ((List.getD [a7,a8,a9,a10] ((eh (d1.i 3)).toNat) 0):Int) fun x2=>
 chk (inb (eh (d1.i 3)) 4)<|
 chk (decide ((eh (d1.i 3)).toNat<4))<|
 k (a0,a1,(w64 (a2+1)),a3,a4,a5,a6,(bif decide ((eh (d1.i 3)).toNat=0)then(w64 (x2+(d1.i 1)))else a7),(bif decide ((eh (d1.i 3)).toNat=1)then(w64 (x2+(d1.i 1)))else a8),(bif decide ((eh (d1.i 3)).toNat=2)then(w64 (x2+(d1.i 1)))else a9),(bif decide ((eh (d1.i 3)).toNat=3)then(w64 (x2+(d1.i 1)))else a10))
 else
 some ([.i a7,.i a8,.i a9,.i a10])
def sg (m:Nat):Nat->Cw->Option (List Un):=bq (wD m)
theorem ua (m:Nat) (n:Nat):sg m (n+1)=wD m (sg m n):=rfl
def Hw (F:Cw->Option (List Un)):aU:=⟨[.lp [0,1,0,1,1],.blk 0,.code [1,1,1]],⟨frm 24 [(2,.ptr 0 0 0),(3,.ptr 1 0 0),(6,.af (sB 4)),(7,.int .i64),(8,.int .i64)],[.cells [.int .i64,.int .i64,.int .i64,.int .i64],.cells [.int .i64,.int .i64,.int .i64,.int .i64]],0⟩,onU F⟩
theorem UZ (m:Nat):∀n,HO V1 (Hw (sg m n)):=au ae PN.right (fun k=>[Hw k]) (fun k h=>(aH h aB)) fun k a=>by kernel_rfl
def t195 (m:Nat):List Dat->Option (List Un):=fun a0=>
 sg m m (a0,(a0.length:Int),0,0,0,0,0,0,0,0,0)
set_option maxHeartbeats 2000000 in
theorem SF (m:Nat) (z0 z1 z2 z3:Int):∀(rest pre:List Dat) (n:Nat) (b0 b1 b2 b3:Int),rest.length<n->(pre++rest).length<=1000->(∀d∈rest,dw d=true)->(0<=b0/\b0<=1099511627776*pre.length)->(0<=b1/\b1<=1099511627776*pre.length)->(0<=b2/\b2<=1099511627776*pre.length)->(0<=b3/\b3<=1099511627776*pre.length)->
 sg m n (pre++rest,((pre++rest).length:Int),(pre.length:Int),z0,z1,z2,z3,b0,b1,b2,b3)=some [.i (b0+cN 0 rest),.i (b1+cN 1 rest),.i (b2+cN 2 rest),.i (b3+cN 3 rest)]:=by
 intro rest
 induction rest with
 |nil=>
  intro pre n b0 b1 b2 b3 hn hl hg h0 h1 h2 h3;obtain⟨n,rfl⟩:=ak n (by simp at hn;omega);rw[ua];unfold wD;dsimp only;simp[az,bE,cN]
 |cons x rest ih=>
  intro pre n b0 b1 b2 b3 hn hl hg h0 h1 h2 h3;obtain⟨n,rfl⟩:=ak n (by simp at hn;omega);simp only[zac,zab]at hn hl;have hx:=rJ (hg x (by simp));have ih':=fun b0 b1 b2 b3=>ih (pre++[x]) n b0 b1 b2 b3 (by omega) (by simp;omega) (fun d hd=>hg d (by simp[hd]))
  rw[ua];unfold wD;dsimp only;simp only[cN,bE]at ih'⊢;rcases Kf (x.i 3)with hb|hb|hb|hb
  . have:=ih' (b0+x.i 1) b1 b2 b3 (by simp;omega) (by simp;omega) (by simp;omega) (by simp;omega);simp(disch:=omega) only[TRa,TRi,ab,LNl,LNi,zad,aD,hb,Int.reduceToNat,zaO,zaD,zbd,Int.reduceEq,zbn];simp only[Nat.reduceEqDiff,za1,zaY,zaw,zal,reduceCtorEq,Nat.zero_ne_one,Nat.one_ne_zero,zbd,zbn,Int.reduceEq,za3];simp only[LNl,LNi,zad]at this⊢;exact this
  . have:=ih' b0 (b1+x.i 1) b2 b3 (by simp;omega) (by simp;omega) (by simp;omega) (by simp;omega);simp(disch:=omega) only[TRa,TRi,ab,LNl,LNi,zad,aD,hb,Int.reduceToNat,zaO,zaD,zbd,Int.reduceEq,zbn];simp only[Nat.reduceEqDiff,za1,zaY,zaw,zal,reduceCtorEq,Nat.zero_ne_one,Nat.one_ne_zero,zbd,zbn,Int.reduceEq,za3];simp only[LNl,LNi,zad]at this⊢;exact this
  . have:=ih' b0 b1 (b2+x.i 1) b3 (by simp;omega) (by simp;omega) (by simp;omega) (by simp;omega);simp(disch:=omega) only[TRa,TRi,ab,LNl,LNi,zad,aD,hb,Int.reduceToNat,zaO,zaD,zbd,Int.reduceEq,zbn];simp only[Nat.reduceEqDiff,za1,zaY,zaw,zal,reduceCtorEq,Nat.zero_ne_one,Nat.one_ne_zero,zbd,zbn,Int.reduceEq,za3];simp only[LNl,LNi,zad]at this⊢;exact this
  . have:=ih' b0 b1 b2 (b3+x.i 1) (by simp;omega) (by simp;omega) (by simp;omega) (by simp;omega);simp(disch:=omega) only[TRa,TRi,ab,LNl,LNi,zad,aD,hb,Int.reduceToNat,zaO,zaD,zbd,Int.reduceEq,zbn];simp only[Nat.reduceEqDiff,za1,zaY,zaw,zal,reduceCtorEq,Nat.zero_ne_one,Nat.one_ne_zero,zbd,zbn,Int.reduceEq,za3];simp only[LNl,LNi,zad]at this⊢;exact this
def f195:List Dat->Bool × List Un:=fun a0=>(decide (a0.length<=1000)&&a0.all dw,[.i (cN 0 a0),.i (cN 1 a0),.i (cN 2 a0),.i (cN 3 a0)])
theorem PZ (a0:List Dat) (hc:(decide (a0.length<=1000)&&a0.all dw)=true):∃m,t195 m a0=some ([.i (cN 0 a0),.i (cN 1 a0),.i (cN 2 a0),.i (cN 3 a0)]):=by
 simp only[zae,zaf,zao]at hc;refine⟨a0.length+1, ?_⟩;exact(SF (a0.length+1) _ _ _ _ a0 [] (a0.length+1) 0 0 0 0 (by omega) (by simpa using hc.1) hc.2 (by simp) (by simp) (by simp) (by simp)).trans (by simp only[za3])
theorem Ml:ER 195 (mkE V1.en V1.ex f195):=an ae PN.right (fun m=>[Hw (sg m m)]) (t:=t195) (by kernel_rfl) (fun m=>(aH (UZ m m) aB)) (fun m a=>by kernel_rfl) fun a0 hc=>PZ a0 hc
def Rr:Tb Tryz.prog LQ TE XX:=PN.add 195 _ Ml
def Dw (a b c d k:Int):Int:=(if k<=0 then a else 0)+(if k<=1 then b else 0)+(if k<=2 then c else 0)+(if k<=3 then d else 0)
def T3:aC:=⟨Rr.tab,196,⟨[.agg [.int .i64,.int .i64,.int .i64,.int .i64],.int .i64],[],0⟩,⟨[.int .i64],[],0⟩,[]⟩
abbrev Bn:Type:=Int × Int × Int × Int × Int × Int
def ni (m:Nat) (k:Bn->Option (List Un)):Bn->Option (List Un):=fun(a0,a1,a2,a3,a4,a5)=>
 bif decide (a1<4)then
 chk (inb a1 4)<|
 chk (decide (a1.toNat<4))<|
 k ((w64 (a0+(List.getD [a2,a3,a4,a5] a1.toNat 0))),(w64 (a1+1)),a2,a3,a4,a5)
 else
 some ([.i a0])
def fD (m:Nat):Nat->Bn->Option (List Un):=bq (ni m)
theorem jX (m:Nat) (n:Nat):fD m (n+1)=ni m (fD m n):=rfl
def FA (F:Bn->Option (List Un)):aU:=⟨[.lp [0,1,0,1,1],.blk 0,.code [1,1,1]],⟨frm 19 [(2,.ptr 0 0 0),(5,.int .i64),(6,.int .i64)],[.cells [.int .i64,.int .i64,.int .i64,.int .i64]],0⟩,onU F⟩
theorem Wp (m:Nat):∀n,HO T3 (FA (fD m n)):=au ae Rr.right (fun k=>[FA k]) (fun k h=>(aH h aB)) fun k a=>by kernel_rfl
def t196 (m:Nat):Int × Int × Int × Int × Int->Option (List Un):=fun(a0,a1,a2,a3,a4)=>
 fD m m (0,(if a4<0 then 0 else a4),a0,a1,a2,a3)
def f196:Int × Int × Int × Int × Int->Bool × List Un:=fun(a0,a1,a2,a3,a4)=>(decide (0<=a0/\a0<=1152921504606846976/\0<=a1/\a1<=1152921504606846976/\0<=a2/\a2<=1152921504606846976/\0<=a3/\a3<=1152921504606846976),[.i (Dw a0 a1 a2 a3 a4)])
theorem Qf (a0:Int) (a1:Int) (a2:Int) (a3:Int) (a4:Int) (hc:(decide (0<=a0/\a0<=1152921504606846976/\0<=a1/\a1<=1152921504606846976/\0<=a2/\a2<=1152921504606846976/\0<=a3/\a3<=1152921504606846976))=true):∃m,t196 m (a0,a1,a2,a3,a4)=some ([.i (Dw a0 a1 a2 a3 a4)]):=by
 have h:=zaj hc;refine⟨6, ?_⟩;unfold t196 Dw;dsimp only;have f0:∀(n:Nat) (i s:Int),4<=i->fD 6 (n+1) (s,i,a0,a1,a2,a3)=some [.i s]:=by
  intro n i s hi;rw[jX];unfold ni;dsimp only;rw[az (by omega)]
 have f3:∀(n:Nat) (s:Int),0<=s->s<=3458764513820540928->fD 6 (n+2) (s,3,a0,a1,a2,a3)=some [.i (s+a3)]:=by
  intro n s h1 h2;rw[jX];unfold ni;dsimp only;simp(disch:=omega) only[aQ,cJ,aP,Int.reduceToNat,zaO,zaD,ab,Int.reduceAdd,f0]
 have f2:∀(n:Nat) (s:Int),0<=s->s<=2305843009213693952->fD 6 (n+3) (s,2,a0,a1,a2,a3)=some [.i (s+a2+a3)]:=by
  intro n s h1 h2;rw[jX];unfold ni;dsimp only;simp(disch:=omega) only[aQ,cJ,aP,Int.reduceToNat,zaO,zaD,ab,Int.reduceAdd,f3]
 have f1:∀(n:Nat) (s:Int),0<=s->s<=1152921504606846976->fD 6 (n+4) (s,1,a0,a1,a2,a3)=some [.i (s+a1+a2+a3)]:=by
  intro n s h1 h2;rw[jX];unfold ni;dsimp only;simp(disch:=omega) only[aQ,cJ,aP,Int.reduceToNat,zaO,zaD,ab,Int.reduceAdd,f2]
 by_cases k0:a4<=0
 . rw[show(if a4<0 then 0 else a4)=(0:Int) by split<;>omega,show fD 6 6=fD 6 (5+1) from rfl,jX];unfold ni;dsimp only;simp(disch:=omega) only[aQ,cJ,aP,Int.reduceToNat,zaO,zaD,ab,Int.reduceAdd,za3];rw[show fD 6 5=fD 6 (1+4) from rfl,f1 _ _ (by omega) (by omega),if_pos k0,if_pos (by omega),if_pos (by omega),if_pos (by omega)]
 . rw[if_neg (show ¬a4<0 by omega),if_neg k0]
   by_cases k1:a4=1
   . subst k1;rw[show fD 6 6=fD 6 (2+4) from rfl,f1 _ _ (by omega) (by omega)];simp
   . by_cases k2:a4=2
     . subst k2;rw[show fD 6 6=fD 6 (3+3) from rfl,f2 _ _ (by omega) (by omega)];simp
     . by_cases k3:a4=3
       . subst k3;rw[show fD 6 6=fD 6 (4+2) from rfl,f3 _ _ (by omega) (by omega)];simp
       . rw[f0 _ _ _ (by omega),if_neg (by omega),if_neg (by omega),if_neg (by omega)];simp
theorem NR:ER 196 (mkE T3.en T3.ex f196):=an ae Rr.right (fun m=>[FA (fD m m)]) (t:=t196) (by kernel_rfl) (fun m=>(aH (Wp m m) aB)) (fun m a=>by kernel_rfl) fun(a0,a1,a2,a3,a4) hc=>Qf a0 a1 a2 a3 a4 hc
def Pw:Tb Tryz.prog LQ TE XX:=Rr.add 196 _ NR
theorem aab (a:List Dat):(ag [.r [.r a]] 0).d 0=a:=rfl
def Vy:aC:=⟨Pw.tab,138,⟨[.dpt [.af (sB 4)]],[],0⟩,⟨[.int .i64],[],0⟩,[]⟩
abbrev Dm:Type:=Int × List Dat × Int × Int
def wk (m:Nat) (k:Dm->Option (List Un)):Dm->Option (List Un):=fun(a0,a1,a2,a3)=>
 bif decide (a3<a2)then
 chk (inb a3 a1.length)<|
 chk (decide (a3.toNat<a1.length))<|
 k ((w64 (a0+((ag a1 a3.toNat).i 1))),a1,a2,(w64 (a3+1)))
 else
 some ([.i a0])
def su (m:Nat):Nat->Dm->Option (List Un):=bq (wk m)
theorem ue (m:Nat) (n:Nat):su m (n+1)=wk m (su m n):=rfl
def GK (F:Dm->Option (List Un)):aU:=⟨[.lp [0,1,0,1,1],.blk 0,.code [1,1,1]],⟨frm 22 [(3,.int .i64),(9,.af (sB 4)),(10,.int .i64),(11,.int .i64)],[],0⟩,onU F⟩
theorem UU (m:Nat):∀n,HO Vy (GK (su m n)):=au ae Pw.right (fun k=>[GK k]) (fun k h=>(aH h aB)) fun k a=>by kernel_rfl
def t138 (m:Nat):List Dat->Option (List Un):=fun a0=>
 chk (decide (0<a0.length))<|
 su m m (0,((ag a0 0).d 0),(((ag a0 0).d 0).length:Int),0)
theorem M0 (m:Nat):∀(rest pre:List Dat) (n:Nat) (b:Int),rest.length<n->(pre++rest).length<=1000->(∀d∈rest,dw d=true)->0<=b->b<=1099511627776*pre.length->
 su m n (b,pre++rest,((pre++rest).length:Int),(pre.length:Int))=some [.i (b+al 1 rest)]:=by
 intro rest
 induction rest with
 |nil=>
  intro pre n b hn hl hg h0 h1;obtain⟨n,rfl⟩:=ak n (by simp at hn;omega);rw[ue];unfold wk;dsimp only;simp[az,al]
 |cons x rest ih=>
  intro pre n b hn hl hg h0 h1;obtain⟨n,rfl⟩:=ak n (by simp at hn;omega);simp only[zac,zab]at hn hl;have hx:=rJ (hg x (by simp));rw[ue];unfold wk;dsimp only;have:=ih (pre++[x]) n (b+x.i 1) (by omega) (by simp;omega) (fun d hd=>hg d (by simp[hd])) (by omega) (by simp;omega);simp only[al]at this⊢;simp(disch:=omega) only[TRa,TRi,ab,LNl,LNi,zad,aD];simp only[LNl,LNi,zad]at this⊢;exact this
def f138:List Dat->Bool × List Un:=fun a0=>(decide (0<a0.length)&&(decide (((ag a0 0).d 0).length<=1000)&&((ag a0 0).d 0).all dw),[.i (al 1 ((ag a0 0).d 0))])
theorem QY (a0:List Dat) (hc:(decide (0<a0.length)&&(decide (((ag a0 0).d 0).length<=1000)&&((ag a0 0).d 0).all dw))=true):∃m,t138 m a0=some ([.i (al 1 ((ag a0 0).d 0))]):=by
 simp only[zae,zaf,zao]at hc;refine⟨((ag a0 0).d 0).length+1, ?_⟩;unfold t138;rw[aP hc.1];exact(M0 _ ((ag a0 0).d 0) [] (((ag a0 0).d 0).length+1) 0 (by omega) (by simpa using hc.2.1) hc.2.2 (by omega) (by simp)).trans (by simp only[za3])
theorem KT:ER 138 (mkE Vy.en Vy.ex f138):=an ae Pw.right (fun m=>[GK (su m m)]) (t:=t138) (by kernel_rfl) (fun m=>(aH (UU m m) aB)) (fun m a=>by kernel_rfl) fun a0 hc=>QY a0 hc
def Wc:Tb Tryz.prog LQ TE XX:=Pw.add 138 _ KT
def Yi:aC:=⟨Wc.tab,109,⟨[.dpt [.af (sB 4)]],[],0⟩,⟨[.buf 0 5],[.af (sB 4)],0⟩,[]⟩
def t109 (m:Nat):List Dat->Option (List Un):=fun a0=>
 chk (decide (0<a0.length))<|
 chk (decide (((ag a0 0).d 0).length<1000000))<|
 some ([.d ((ag a0 0).d 0)])
def f109:List Dat->Bool × List Un:=fun a0=>(decide (0<a0.length)&&decide (((ag a0 0).d 0).length<1000000),[.d ((ag a0 0).d 0)])
theorem QV (a0:List Dat) (hc:(decide (0<a0.length)&&decide (((ag a0 0).d 0).length<1000000))=true):∃m,t109 m a0=some ([.d ((ag a0 0).d 0)]):=by
 simp only[zae,zaf]at hc;refine⟨0, ?_⟩;unfold t109;rw[aP hc.1,aP hc.2]
theorem ME:ER 109 (mkE Yi.en Yi.ex f109):=an ae Wc.right (fun m=>[]) (t:=t109) (by kernel_rfl) (fun m=>aB) (fun m a=>by kernel_rfl) fun a0 hc=>QV a0 hc
def Tt:Tb Tryz.prog LQ TE XX:=Wc.add 109 _ ME
theorem og (j:Int):∀(l:List Dat),(∀d∈l,dw d=true)->0<=cN j l/\cN j l<=1099511627776*l.length
 |[],_=>by simp[cN,bE]
 |x::l,h=>by
  have h1:=rJ (h x (by simp));have h2:=og j l fun d hd=>h d (by simp[hd])
  simp only[cN,bE,zac,zaG,zad]at h2⊢
  split<;>omega
def XQ:aC:=⟨Tt.tab,151,⟨[.np 0 0 0,.int .i64,.int .i64],bf 0,9⟩,⟨[.agg [.int .i64,.int .i64,.int .i64,.int .i64,.int .i64,.int .i64,.int .i64]],bf 0,9⟩,[]⟩
def t151 (m:Nat):Int × Int × Int × ao × aq × ai × List Dat × List Dat × List Dat × List Dat × List Dat × List Dat × List Dat->Option (List Un):=fun(a0,a1,a2,a3,a4,a5,a6,a7,a8,a9,a10,a11,a12)=>
 chk (decide (0<=a0)&&(decide (a12.length<=1000)&&a12.all aO))<|
 chk (decide (0<=a0))<|
 chk (decide (0<([.r [.r a11]]:List Dat).length)&&(decide (((ag ([.r [.r a11]]:List Dat) 0).d 0).length<=1000)&&((ag ([.r [.r a11]]:List Dat) 0).d 0).all dw))<|
 chk (decide (0<=a0))<|
 chk (decide (0<=a0))<|
 chk (decide (0<([.r [.r a11]]:List Dat).length)&&decide (((ag ([.r [.r a11]]:List Dat) 0).d 0).length<1000000))<|
 lt (((ag ([.r [.r a11]]:List Dat) 0).d 0):List Dat) fun l5=>
 chk (decide (l5.length<=1000)&&l5.all dw)<|
 chk (decide (0<=(cN 0 l5)/\(cN 0 l5)<=1152921504606846976/\0<=(cN 1 l5)/\(cN 1 l5)<=1152921504606846976/\0<=(cN 2 l5)/\(cN 2 l5)<=1152921504606846976/\0<=(cN 3 l5)/\(cN 3 l5)<=1152921504606846976))<|
 chk (decide (0<=a0))<|
 chk (decide (0<=a0))<|
 some ([.i (al 1 ((ag ([.r [.r a11]]:List Dat) 0).d 0)),.i (((bW (⟨a3,a6,a7,a4,a8,a9,a10⟩:bc)).getD (0,0)).1),.i (bE aW a12),.i (if 1099511627776<a1 then 1099511627776 else a1),.i (if 1099511627776<a2 then 1099511627776 else a2),.i (Dw (cN 0 l5) (cN 1 l5) (cN 2 l5) (cN 3 l5) 2),.i (w64 (a5.aM-a5.aT))]++Uns.enc (a3:ao)++Uns.enc (a4:aq)++Uns.enc (a5:ai)++[.d a6,.d a7,.d a8,.d a9,.d a10,.d a11,.d a12])
def f151:Int × Int × Int × ao × aq × ai × List Dat × List Dat × List Dat × List Dat × List Dat × List Dat × List Dat->Bool × List Un:=fun(a0,a1,a2,a3,a4,a5,a6,a7,a8,a9,a10,a11,a12)=>(decide (0<=a0)&&((decide (a11.length<=1000)&&a11.all dw)&&(decide (a12.length<=1000)&&a12.all aO)),[.i (al 1 a11),.i (((bW (⟨a3,a6,a7,a4,a8,a9,a10⟩:bc)).getD (0,0)).1),.i (bE aW a12),.i (min a1 1099511627776),.i (min a2 1099511627776),.i (cN 2 a11+cN 3 a11),.i (w64 (a5.aM-a5.aT))]++Uns.enc ((a3):ao)++Uns.enc ((a4):aq)++Uns.enc ((a5):ai)++[.d (a6),.d (a7),.d (a8),.d (a9),.d (a10),.d (a11),.d (a12)])
theorem Px (a0:Int) (a1:Int) (a2:Int) (a3:ao) (a4:aq) (a5:ai) (a6:List Dat) (a7:List Dat) (a8:List Dat) (a9:List Dat) (a10:List Dat) (a11:List Dat) (a12:List Dat) (hc:(decide (0<=a0)&&((decide (a11.length<=1000)&&a11.all dw)&&(decide (a12.length<=1000)&&a12.all aO)))=true):∃m,t151 m (a0,a1,a2,a3,a4,a5,a6,a7,a8,a9,a10,a11,a12)=some ([.i (al 1 a11),.i (((bW (⟨a3,a6,a7,a4,a8,a9,a10⟩:bc)).getD (0,0)).1),.i (bE aW a12),.i (min a1 1099511627776),.i (min a2 1099511627776),.i (cN 2 a11+cN 3 a11),.i (w64 (a5.aM-a5.aT))]++Uns.enc ((a3):ao)++Uns.enc ((a4):aq)++Uns.enc ((a5):ai)++[.d (a6),.d (a7),.d (a8),.d (a9),.d (a10),.d (a11),.d (a12)]):=by
 have hc':=hc;simp only[zae,zaf,zao]at hc';obtain⟨h0,⟨h1,h2⟩,h3,h4⟩:=hc';have q1:(decide (a11.length<=1000)&&a11.all dw)=true:=(zas.1 (zas.1 hc).2).1;have q2:(decide (a12.length<=1000)&&a12.all aO)=true:=(zas.1 (zas.1 hc).2).2;have l0:=og 0 a11 h2;have l1:=og 1 a11 h2;have l2:=og 2 a11 h2;have l3:=og 3 a11 h2;refine⟨0, ?_⟩;unfold t151;dsimp only[lt,aab,List.length_cons,List.length_nil];simp only[zaa h0,q1,q2,Bool.and_self,kh,show decide (0<0+1)=true from rfl,zaa (show a11.length<1000000 by omega)];rw[aP (by omega)];simp only[lX,Dw,Int.reduceLE,zbd,zbn,za3,zbg];exact av (by rw[zae];exact⟨@zaa _ _ h1,zao.2 h2⟩) (av (@zaa _ _ (by omega)) rfl)
theorem No:ER 151 (mkE XQ.en XQ.ex f151):=an ae Tt.right (fun m=>[]) (t:=t151) (by kernel_rfl) (fun m=>aB) (fun m a=>by kernel_rfl) fun(a0,a1,a2,a3,a4,a5,a6,a7,a8,a9,a10,a11,a12) hc=>Px a0 a1 a2 a3 a4 a5 a6 a7 a8 a9 a10 a11 a12 hc
def P8:Tb Tryz.prog LQ TE XX:=Tt.add 151 _ No
def S9:Nat->Nat->Dat->Dat->Bool
 |_,0,_,_=>true
 |j,n+1,x,y=>x.i j==y.i j&&S9 (j+1) n x y
def L3:Nat->Nat->Dat->Dat->Bool
 |j,0,x,y=>x.b j==y.b j
 |j,n+1,x,y=>x.i j==y.i j&&L3 (j+1) n x y
def lM:List Int->List Int->Bool
 |[],[]=>true
 |x::a,y::b=>x==y&&lM a b
 |_,_=>false
theorem AE:∀(a b:List Int),a.length≠b.length->lM a b=false
 |[],[],h=>absurd rfl h
 |[],_::_,_=>rfl
 |_::_,[],_=>rfl
 |x::a,y::b,h=>by simp[lM,AE a b (by simpa using h)]
def N20:aC:=⟨P8.tab,20,⟨[.ints .u8,.ints .u8],[],0⟩,⟨[.bool],[],0⟩,[]⟩
abbrev Jk:Type:=List Int × List Int × Int
def Bq (m:Nat) (k:Jk->Option (List Un)):Jk->Option (List Un):=fun(a0,a1,a2)=>
 bif (decide (a2<(a0.length:Int)))then
 chk (inb a2 a0.length)<|
 chk (decide (a2.toNat<a0.length))<|
 chk (inb a2 a1.length)<|
 chk (decide (a2.toNat<a1.length))<|
 bif ((a0.getD a2.toNat 0) !=(a1.getD a2.toNat 0))then
 some ([.b false])
 else
 k (a0,a1,(w64 (a2+1)))
 else
 some ([.b true])
def Ax (m:Nat):Nat->Jk->Option (List Un):=bq (Bq m)
theorem yH (m:Nat) (n:Nat):Ax m (n+1)=Bq m (Ax m n):=rfl
def Mg (F:Jk->Option (List Un)):aU:=⟨[.lp [0,1,0,1,1],.blk 0,.code [1,1,1]],⟨frm 26 [(0,.ints .u8),(1,.ints .u8),(5,.int .i64)],[],0⟩,onU F⟩
theorem Yf (m:Nat):∀n,HO N20 (Mg (Ax m n)):=au ae P8.right (fun k=>[Mg k]) (fun k h=>(aH h aB)) fun k a=>by kernel_rfl
def t20 (m:Nat):List Int × List Int->Option (List Un):=fun(a0,a1)=>
 bif ((a0.length:Int) !=(a1.length:Int))then
 some ([.b false])
 else
 Ax m m (a0,a1,0)
theorem Sl (m:Nat):∀(rest rest' pre pre':List Int) (n:Nat),rest.length<n->pre'.length=pre.length->rest'.length=rest.length->(pre++rest).length<1099511627776->
 Ax m n (pre++rest,pre'++rest',(pre.length:Int))=some [.b (lM rest rest')]:=by
 intro rest
 induction rest with
 |nil=>
  intro rest' pre pre' n hn hp hr hl;obtain⟨n,rfl⟩:=ak n (by simp at hn;omega);obtain rfl:rest'=[]:=zaH (by simpa using hr);rw[yH];unfold Bq;dsimp only;simp[az,lM]
 |cons x rest ih=>
  intro rest' pre pre' n hn hp hr hl;obtain⟨n,rfl⟩:=ak n (by simp at hn;omega);obtain⟨y,rest',rfl⟩:∃y l,rest'=y::l:=by cases rest' with|nil=>simp at hr|cons y l=>exact⟨y,l,rfl⟩
  simp only[zac,zab]at hn hl hr;have:=ih rest' (pre++[x]) (pre'++[y]) n (by omega) (by simp[hp]) (by omega) (by simp;omega);rw[yH];unfold Bq;dsimp only;simp only[lM,S9,L3,Nat.reduceAdd];simp(disch:=omega) only[TRa,TRi,ab,LNl,LNi,zad,bK,An _ _ _ _ _ hp];simp only[LNl,LNi,zad]at this⊢
  (try simp only[bne,cond_not])
  cases (x==y)
  all_goals (first|exact this|rfl)
def f20:List Int × List Int->Bool × List Un:=fun(a0,a1)=>(decide (a0.length<1099511627776),[.b (lM a0 a1)])
theorem V6 (a0:List Int) (a1:List Int) (hc:(decide (a0.length<1099511627776))=true):∃m,t20 m (a0,a1)=some ([.b (lM a0 a1)]):=by
 have hs:=zaj hc;refine⟨a0.length+1, ?_⟩;unfold t20;dsimp only
 by_cases h:a0.length=a1.length
 . rw[cK (by omega)];exact Sl _ a0 a1 [] [] _ (by omega) rfl h.symm (by simpa using hs)
 . rw[cI (by omega),AE _ _ h]
theorem Qt:ER 20 (mkE N20.en N20.ex f20):=an ae P8.right (fun m=>[Mg (Ax m m)]) (t:=t20) (by kernel_rfl) (fun m=>(aH (Yf m m) aB)) (fun m a=>by kernel_rfl) fun(a0,a1) hc=>V6 a0 a1 hc
def T20:Tb Tryz.prog LQ TE XX:=P8.add 20 _ Qt
section
variable (m : Nat) (xa : ao) (xb : aq) (xn : ai) (x1 x2 x3 x4 x5 x6 : List Dat)
end
def nL (p q r s l:Int):Bool:=decide (0<=p)&&(decide (p<=1099511627776)&&(decide (0<=q)&&(decide (q<=1099511627776)&&(decide (0<=r)&&(decide (r<=1099511627776)&&(decide (0<=s)&&(decide (s<=1099511627776)&&(decide (0<=l)&&decide (l<=12)))))))))
theorem Eo {α:Type} {x:Int} {a b:α}:(bif decide (x<0)then a else b)=bif decide (0<=x)then b else a:=by
 by_cases h:x<0
 . rw[zaa h,zap (show ¬0<=x by omega)];rfl
 . rw[zap h,zaa (show 0<=x by omega)];rfl
theorem Dn {α:Type} {x y:Int} {a b:α}:(bif decide (x>y)then a else b)=bif decide (x<=y)then b else a:=by
 by_cases h:x>y
 . rw[zaa h,zap (show ¬x<=y by omega)];rfl
 . rw[zap h,zaa (show x<=y by omega)];rfl
theorem pz {c y:Bool}:(bif c then some [Un.b y]else some [Un.b false])=some [.b (c&&y)]:=by cases c<;>rfl
def XY:aC:=⟨T20.tab,153,⟨[.agg [.int .i64,.int .i64,.int .i64,.int .i64,.int .i64,.int .i64,.bool]],[],0⟩,⟨[.bool],[],0⟩,[[0,1,0,1]]⟩
def t153 (m:Nat):Int × Int × Int × Int × Int × Int × Bool->Option (List Un):=fun(a0,a1,a2,a3,a4,a5,a6)=>
 lt ((([a1,a2,a3,a4]).getD 0 0):Int) fun x1=>
 bif decide (x1<0)then
 some ([.b false])
 else
 bif (decide (x1>1099511627776))then
 some ([.b false])
 else
 lt ((([a1,a2,a3,a4]).getD 1 0):Int) fun x3=>
 bif decide (x3<0)then
 some ([.b false])
 else
 bif (decide (x3>1099511627776))then
 some ([.b false])
 else
 lt ((([a1,a2,a3,a4]).getD 2 0):Int) fun x5=>
 bif decide (x5<0)then
 some ([.b false])
 else
 bif (decide (x5>1099511627776))then
 some ([.b false])
 else
 lt ((([a1,a2,a3,a4]).getD 3 0):Int) fun x7=>
 bif decide (x7<0)then
 some ([.b false])
 else
 bif (decide (x7>1099511627776))then
 some ([.b false])
 else
 bif decide (a5>=0)then
 some ([.b (decide (a5<=12))])
 else
 some ([.b false])
def f153:Int × Int × Int × Int × Int × Int × Bool->Bool × List Un:=fun(a0,a1,a2,a3,a4,a5,a6)=>(true,[.b (nL a1 a2 a3 a4 a5)])
theorem Qq (a0:Int) (a1:Int) (a2:Int) (a3:Int) (a4:Int) (a5:Int) (a6:Bool):∃m,t153 m (a0,a1,a2,a3,a4,a5,a6)=some ([.b (nL a1 a2 a3 a4 a5)]):=by
 refine⟨0, ?_⟩;unfold t153 nL;simp only[lt_eq,zaO,zaD,Eo,Dn];simp only[ge_iff_le,pz]
theorem N8:ER 153 (mkE XY.en XY.ex f153):=an ae T20.right (fun m=>[]) (t:=t153) (by kernel_rfl) (fun m=>aB) (fun m a=>by kernel_rfl) fun(a0,a1,a2,a3,a4,a5,a6) hc=>Qq a0 a1 a2 a3 a4 a5 a6
def O5:Tb Tryz.prog LQ TE XX:=T20.add 153 _ N8
def nF:Int->List Dat->Bool
 |_,[]=>true
 |last,d::l=>if d.i 0<=last then false else if nL (d.i 1) (d.i 2) (d.i 3) (d.i 4) (d.i 5)then nF (d.i 0) l else false
def mA (l:List Dat):Bool:=decide (l.length<=64)&&nF 0 l
def WA:aC:=⟨O5.tab,100,⟨[.af (sB 6)],[],0⟩,⟨[.bool],[],0⟩,[]⟩
abbrev Bi:Type:=Int × List Dat × Int × Int
def wT (m:Nat) (k:Bi->Option (List Un)):Bi->Option (List Un):=fun(a0,a1,a2,a3)=>
 bif decide (a3<a2)then
 chk (inb a3 a1.length)<|
 chk (decide (a3.toNat<a1.length))<|
 lt (ag a1 a3.toNat:Dat) fun d2=>
 bif decide ((d2.i 0)<=a0)then
 some ([.b false])
 else
 bif !(nL (d2.i 1) (d2.i 2) (d2.i 3) (d2.i 4) (d2.i 5))then
 some ([.b false])
 else
 k ((d2.i 0),a1,a2,(w64 (a3+1)))
 else
 some ([.b true])
def sJ (m:Nat):Nat->Bi->Option (List Un):=bq (wT m)
theorem u9 (m:Nat) (n:Nat):sJ m (n+1)=wT m (sJ m n):=rfl
def HC (F:Bi->Option (List Un)):aU:=⟨[.lp [0,1,0,1,1,1],.blk 0,.code [1,1,1,1]],⟨frm 27 [(3,.int .i64),(9,.af (sB 6)),(10,.int .i64),(11,.int .i64)],[],0⟩,onU F⟩
theorem T5 (m:Nat):∀n,HO WA (HC (sJ m n)):=au ae O5.right (fun k=>[HC k]) (fun k h=>(aH h aB)) fun k a=>by kernel_rfl
def t100 (m:Nat):List Dat->Option (List Un):=fun a0=>
 bif (decide ((a0.length:Int)>64))then
 some ([.b false])
 else
 sJ m m (0,a0,(a0.length:Int),0)
theorem YZ (m:Nat):∀(rest pre:List Dat) (n:Nat) (last:Int),rest.length<n->(pre++rest).length<=64->
 sJ m n (last,pre++rest,((pre++rest).length:Int),(pre.length:Int))=some [.b (nF last rest)]:=by
 intro rest
 induction rest with
 |nil=>
  intro pre n last hn hl;obtain⟨n,rfl⟩:=ak n (by simp at hn;omega);rw[u9];unfold wT;dsimp only;simp[az,nF]
 |cons x rest ih=>
  intro pre n last hn hl;obtain⟨n,rfl⟩:=ak n (by simp at hn;omega);simp only[zac,zab]at hn hl;have:=ih (pre++[x]) n (x.i 0) (by omega) (by simp;omega);rw[u9];unfold wT;dsimp only;simp only[LNl,LNi,zad]at this⊢;unfold nF
  by_cases h1:x.i 0<=last
  . simp(disch:=omega) only[TRa,TRi,ab,LNl,LNi,zad,aD];rw[if_pos h1]
  . rw[if_neg h1]
    by_cases h2:nL (x.i 1) (x.i 2) (x.i 3) (x.i 4) (x.i 5)=true
    . rw[if_pos h2];simp(disch:=omega) only[TRa,TRi,ab,LNl,LNi,zad,aD,h2];exact this
    . rw[if_neg h2];have h2:nL (x.i 1) (x.i 2) (x.i 3) (x.i 4) (x.i 5)=false:=by simpa using h2
      simp(disch:=omega) only[TRa,TRi,ab,LNl,LNi,zad,aD,h2]
def f100:List Dat->Bool × List Un:=fun a0=>(true,[.b (mA a0)])
theorem Rl (a0:List Dat):∃m,t100 m a0=some ([.b (mA a0)]):=by
 unfold mA
 by_cases h:a0.length<=64
 . refine⟨a0.length+1, ?_⟩;have:=YZ (a0.length+1) a0 [] (a0.length+1) 0 (by omega) (by simpa using h);unfold t100;rw[az (by omega),zaa h,zbg];exact this
 . refine⟨0, ?_⟩;unfold t100;rw[aQ (by omega),zap h];rfl
theorem Ma:ER 100 (mkE WA.en WA.ex f100):=an ae O5.right (fun m=>[HC (sJ m m)]) (t:=t100) (by kernel_rfl) (fun m=>(aH (T5 m m) aB)) (fun m a=>by kernel_rfl) fun a0 hc=>Rl a0
def TM:Tb Tryz.prog LQ TE XX:=O5.add 100 _ Ma
def BH (bal lost:Int) (fc:Bool) (pr pp it rc lt:Int) (df:Bool):Bool:=
 bif fc then(pr==0)&&((pp==0)&&((it==0)&&((lt==0)&&(!df&&decide (rc<=lost)))))
 else bif decide (w64 (w64 (bal-pr)-pp)<0)then false
 else bif df then(bif decide (rc<=w64 (lost+w64 (w64 (bal-pr)-pp)))then true else rc==0)else rc==0
theorem KA {c x y:Bool}:(bif c then some [Un.b x]else some [Un.b y])=some [.b (bif c then x else y)]:=by cases c<;>rfl
def Ze:aC:=⟨TM.tab,176,⟨[.agg [.int .i64,.int .i64,.int .i64,.int .i64,.bool],.agg [.int .i64,.int .i64,.int .i64,.int .i64,.int .i64,.int .i64,.bool]],[],0⟩,⟨[.bool],[],0⟩,[]⟩
def t176 (m:Nat):Int × Int × Int × Int × Bool × Int × Int × Int × Int × Int × Int × Bool->Option (List Un):=fun(a0,a1,a2,a3,a4,a5,a6,a7,a8,a9,a10,a11)=>
 bif a4 then
 bif a6==0 then
 bif a7==0 then
 bif a8==0 then
 bif a10==0 then
 bif !a11 then
 some ([.b (decide (a9<=a2))])
 else
 some ([.b false])
 else
 some ([.b false])
 else
 some ([.b false])
 else
 some ([.b false])
 else
 some ([.b false])
 else
 lt ((w64 ((w64 (a1-a6))-a7)):Int) fun x1=>
 bif decide (x1<0)then
 some ([.b false])
 else
 bif a11 then
 bif (decide (a9<=(w64 (a2+x1))))then
 some ([.b true])
 else
 some ([.b (a9==0)])
 else
 some ([.b (a9==0)])
def f176:Int × Int × Int × Int × Bool × Int × Int × Int × Int × Int × Int × Bool->Bool × List Un:=fun(a0,a1,a2,a3,a4,a5,a6,a7,a8,a9,a10,a11)=>(true,[.b (BH a1 a2 a4 a6 a7 a8 a9 a10 a11)])
theorem RQ (a0:Int) (a1:Int) (a2:Int) (a3:Int) (a4:Bool) (a5:Int) (a6:Int) (a7:Int) (a8:Int) (a9:Int) (a10:Int) (a11:Bool):∃m,t176 m (a0,a1,a2,a3,a4,a5,a6,a7,a8,a9,a10,a11)=some ([.b (BH a1 a2 a4 a6 a7 a8 a9 a10 a11)]):=by
 refine⟨0, ?_⟩;unfold t176 BH;simp only[lt_eq,KA];cases a4<;>simp only[zaw,zal]
 cases (a6==0)<;>cases (a7==0)<;>cases (a8==0)<;>cases (a10==0)<;>cases a11<;>rfl
theorem MP:ER 176 (mkE Ze.en Ze.ex f176):=an ae TM.right (fun m=>[]) (t:=t176) (by kernel_rfl) (fun m=>aB) (fun m a=>by kernel_rfl) fun(a0,a1,a2,a3,a4,a5,a6,a7,a8,a9,a10,a11) hc=>RQ a0 a1 a2 a3 a4 a5 a6 a7 a8 a9 a10 a11
def TA:Tb Tryz.prog LQ TE XX:=TM.add 176 _ MP
def rW (bal pr pp:Int) (df:Bool):Int:=bif df then 0 else w64 (bal-w64 (pr+pp))
def gX (bal pr pp:Int) (df:Bool):Int:=bif df then w64 (bal-w64 (pr+pp))else 0
def qK (bal lost pr pp rc:Int) (df:Bool):Int:=bif df then w64 (w64 (lost+w64 (bal-w64 (pr+pp)))-rc)else w64 (lost-rc)
def qv (bal:Int) (fc:Bool) (pr pp lt:Int) (df:Bool):Int:=bif df then 0 else bif fc then 0 else bif w64 (bal-w64 (pr+pp))==0 then 0 else lt
def Xm:aC:=⟨TA.tab,177,⟨[.agg [.int .i64,.int .i64,.int .i64,.int .i64,.bool],.agg [.int .i64,.int .i64,.int .i64,.int .i64,.int .i64,.int .i64,.bool]],[],0⟩,⟨[.agg [.int .i64,.int .i64,.int .i64,.int .i64,.bool],.agg [.int .i64,.int .i64,.int .i64,.int .i64]],[],0⟩,[]⟩
def t177 (m:Nat):Int × Int × Int × Int × Bool × Int × Int × Int × Int × Int × Int × Bool->Option (List Un):=fun(a0,a1,a2,a3,a4,a5,a6,a7,a8,a9,a10,a11)=>
 lt ((w64 (a1-(w64 (a6+a7)))):Int) fun x1=>
 bif a11 then
 some ([.i a0,.i 0,.i (w64 ((w64 (a2+x1))-a9)),.i 0,.b true,.i (w64 (a6+a7)),.i a8,.i x1,.i a9])
 else
 bif a4 then
 some ([.i a0,.i x1,.i (w64 (a2-a9)),.i 0,.b a4,.i (w64 (a6+a7)),.i a8,.i 0,.i a9])
 else
 bif x1==0 then
 some ([.i a0,.i x1,.i (w64 (a2-a9)),.i 0,.b a4,.i (w64 (a6+a7)),.i a8,.i 0,.i a9])
 else
 some ([.i a0,.i x1,.i (w64 (a2-a9)),.i a10,.b a4,.i (w64 (a6+a7)),.i a8,.i 0,.i a9])
def f177:Int × Int × Int × Int × Bool × Int × Int × Int × Int × Int × Int × Bool->Bool × List Un:=fun(a0,a1,a2,a3,a4,a5,a6,a7,a8,a9,a10,a11)=>(true,[.i (a0),.i (rW a1 a6 a7 a11),.i (qK a1 a2 a6 a7 a9 a11),.i (qv a1 a4 a6 a7 a10 a11),.b ((a11||a4)),.i (w64 (a6+a7)),.i (a8),.i (gX a1 a6 a7 a11),.i (a9)])
theorem Qi (a0:Int) (a1:Int) (a2:Int) (a3:Int) (a4:Bool) (a5:Int) (a6:Int) (a7:Int) (a8:Int) (a9:Int) (a10:Int) (a11:Bool):∃m,t177 m (a0,a1,a2,a3,a4,a5,a6,a7,a8,a9,a10,a11)=some ([.i (a0),.i (rW a1 a6 a7 a11),.i (qK a1 a2 a6 a7 a9 a11),.i (qv a1 a4 a6 a7 a10 a11),.b ((a11||a4)),.i (w64 (a6+a7)),.i (a8),.i (gX a1 a6 a7 a11),.i (a9)]):=by
 refine⟨0, ?_⟩;unfold t177 rW qK qv gX;simp only[lt_eq];cases a11<;>cases a4<;>simp only[zaw,zal,Bool.or_true,Bool.or_false]<;>first|rfl|(cases (w64 (a1-w64 (a6+a7))==0)<;>rfl)
theorem NN:ER 177 (mkE Xm.en Xm.ex f177):=an ae TA.right (fun m=>[]) (t:=t177) (by kernel_rfl) (fun m=>aB) (fun m a=>by kernel_rfl) fun(a0,a1,a2,a3,a4,a5,a6,a7,a8,a9,a10,a11) hc=>Qi a0 a1 a2 a3 a4 a5 a6 a7 a8 a9 a10 a11
def Sb:Tb Tryz.prog LQ TE XX:=TA.add 177 _ NN
def fY (id:Int):Int->List Dat->Int
 |_,[]=> -1
 |i,d::l=>if d.i 0=id then i else fY id (i+1) l
def Vj:aC:=⟨Sb.tab,200,⟨[.af (sB 4),.fn 201 [] [.ptr 0 0 0]],[.cells [.int .i64]],1⟩,⟨[.int .i64],[.cells [.int .i64]],1⟩,[]⟩
abbrev Bv:Type:=List Dat × Int × Int × Int
def wi (m:Nat) (k:Bv->Option (List Un)):Bv->Option (List Un):=fun(a0,a1,a2,a3)=>
 bif decide (a2<a1)then
 chk (inb a2 a0.length)<|
 chk (decide (a2.toNat<a0.length))<|
 bif ((ag a0 a2.toNat).i 0)==a3 then
 some ([.i a2,.i a3])
 else
 k (a0,a1,(w64 (a2+1)),a3)
 else
 some ([.i (-1),.i a3])
def tF (m:Nat):Nat->Bv->Option (List Un):=bq (wi m)
theorem ug (m:Nat) (n:Nat):tF m (n+1)=wi m (tF m n):=rfl
def G6 (F:Bv->Option (List Un)):aU:=⟨[.lp [0,1,0,1],.blk 0,.code [1,1]],⟨frm 19 [(0,.af (sB 4)),(1,.fn 201 [] [.ptr 0 0 0]),(7,.int .i64),(8,.int .i64)],[.cells [.int .i64]],1⟩,onU F⟩
theorem Wa (m:Nat):∀n,HO Vj (G6 (tF m n)):=au ae Sb.right (fun k=>[G6 k]) (fun k h=>(aH h aB)) fun k a=>by kernel_rfl
def t200 (m:Nat):List Dat × Int->Option (List Un):=fun(a0,a1)=>
 tF m m (a0,(a0.length:Int),0,a1)
theorem YR (m:Nat) (id:Int):∀(rest pre:List Dat) (n:Nat),rest.length<n->(pre++rest).length<1000000->
 tF m n (pre++rest,((pre++rest).length:Int),(pre.length:Int),id)=some [.i (fY id pre.length rest),.i id]:=by
 intro rest
 induction rest with
 |nil=>
  intro pre n hn hl;obtain⟨n,rfl⟩:=ak n (by simp at hn;omega);rw[ug];unfold wi;dsimp only;simp[az,fY]
 |cons x rest ih=>
  intro pre n hn hl;obtain⟨n,rfl⟩:=ak n (by simp at hn;omega);simp only[zac,zab]at hn hl;have:=ih (pre++[x]) n (by omega) (by simp;omega);rw[ug];unfold wi;dsimp only;simp only[LNl,LNi,zad]at this⊢;unfold fY
  by_cases h1:x.i 0=id
  . simp(disch:=omega) only[TRa,TRi,ab,LNl,LNi,zad,aD];rw[if_pos h1]
  . rw[if_neg h1];simp(disch:=omega) only[TRa,TRi,ab,LNl,LNi,zad,aD];exact this
def f200:List Dat × Int->Bool × List Un:=fun(a0,a1)=>(decide (a0.length<1000000),[.i (fY a1 0 a0),.i (a1)])
theorem Pu (a0:List Dat) (a1:Int) (hc:(decide (a0.length<1000000))=true):∃m,t200 m (a0,a1)=some ([.i (fY a1 0 a0),.i (a1)]):=by
 have h:=zaj hc;exact⟨a0.length+1,YR _ a1 a0 [] _ (by omega) (by simpa using h)⟩
theorem OB:ER 200 (mkE Vj.en Vj.ex f200):=an ae Sb.right (fun m=>[G6 (tF m m)]) (t:=t200) (by kernel_rfl) (fun m=>(aH (Wa m m) aB)) (fun m a=>by kernel_rfl) fun(a0,a1) hc=>Pu a0 a1 hc
def SH:Tb Tryz.prog LQ TE XX:=Sb.add 200 _ OB
def mB (x d:Dat):Dat:= .r [.n (x.i 0),.n (rW (x.i 1) (d.i 1) (d.i 2) (d.b 6)),.n (qK (x.i 1) (x.i 2) (d.i 1) (d.i 2) (d.i 4) (d.b 6)),.n (qv (x.i 1) (x.b 4) (d.i 1) (d.i 2) (d.i 5) (d.b 6)),.n (bI (d.b 6||x.b 4))]
structure NA where
 p:Int
 q:Int
 l:Int
 r:Int
 e:Int
 aJ:List Dat
def Gi (x d:Dat):Bool:=BH (x.i 1) (x.i 2) (x.b 4) (d.i 1) (d.i 2) (d.i 3) (d.i 4) (d.i 5) (d.b 6)
def gZ:List Dat->Int->Int->Int->Int->List Dat->Option NA
 |l,p,q,s,r,[]=>some ⟨p,q,s,r,0,l⟩
 |l,p,q,s,r,d::t=>if fY (d.i 0) 0 l<0 then none else
  if Gi (ag l (fY (d.i 0) 0 l).toNat) d=true then
   gZ (l.set (fY (d.i 0) 0 l).toNat (mB (ag l (fY (d.i 0) 0 l).toNat) d)) (w64 (p+w64 (d.i 1+d.i 2))) (w64 (q+d.i 3)) (w64 (s+gX ((ag l (fY (d.i 0) 0 l).toNat).i 1) (d.i 1) (d.i 2) (d.b 6))) (w64 (r+d.i 4)) t
  else none
def ax (lines l:List Dat):NA:=if mA lines=true then(gZ l 0 0 0 0 lines).getD ⟨0,0,0,0,3,l⟩else⟨0,0,0,0,3,l⟩
theorem CH (id:Int):∀(l:List Dat) (i:Int),fY id i l= -1\/(i<=fY id i l/\fY id i l<i+l.length)
 |[],i=> .inl rfl
 |d::l,i=>by
  unfold fY
  by_cases h:d.i 0=id
  . rw[if_pos h];exact .inr ⟨by omega,by simp;omega⟩
  . rw[if_neg h];rcases CH id l (i+1)with h|⟨h1,h2⟩
    . exact .inl h
    . refine .inr ⟨by omega, ?_⟩;simp only[zac];omega
def WK:aC:=⟨SH.tab,139,⟨[.ptr 0 0 0,.af (sB 6)],[.cells [.buf 1 5],.af (sB 4)],0⟩,⟨[.agg [.int .i64,.int .i64,.int .i64,.int .i64],.int .i64],[.cells [.buf 2 5],.gone,.af (sB 4)],0⟩,[]⟩
abbrev C3:Type:=List Dat × Int × Int × Int × Int × Int × Int × Int × Int × Int × Int × List Dat × List Dat
def wR (m:Nat) (k:C3->Option (List Un)):C3->Option (List Un):=fun(a0,a1,a2,a3,a4,a5,a6,a7,a8,a9,a10,a11,a12)=>
 bif decide (a2<a1)then
 chk (inb a2 a0.length)<|
 chk (decide (a2.toNat<a0.length))<|
 lt (ag a0 a2.toNat:Dat) fun d1=>
 chk (decide (a12.length<1000000))<|
 bif (decide ((fY (d1.i 0) 0 a12)<0))then
 some ([.i 0,.i 0,.i 0,.i 0,.i 3,.d a11])
 else
 chk (inb (fY (d1.i 0) 0 a12) a12.length)<|
 chk (decide ((fY (d1.i 0) 0 a12).toNat<a12.length))<|
 lt (ag a12 ((fY (d1.i 0) 0 a12).toNat):Dat) fun d3=>
 bif !(BH (d3.i 1) (d3.i 2) (d3.b 4) (d1.i 1) (d1.i 2) (d1.i 3) (d1.i 4) (d1.i 5) (d1.b 6))then
 some ([.i 0,.i 0,.i 0,.i 0,.i 3,.d a11])
 else
 chk (inb (fY (d1.i 0) 0 a12) a12.length)<|
 chk (decide ((fY (d1.i 0) 0 a12).toNat<a12.length))<|
 lt (ag a12 ((fY (d1.i 0) 0 a12).toNat):Dat) fun d5=>
 chk (inb (fY (d1.i 0) 0 a12) a12.length)<|
 chk (decide ((fY (d1.i 0) 0 a12).toNat<a12.length))<|
 k (a0,a1,(w64 (a2+1)),a3,a4,a5,a6,(w64 (a7+(w64 ((d1.i 1)+(d1.i 2))))),(w64 (a8+(d1.i 3))),(w64 (a9+(gX (d5.i 1) (d1.i 1) (d1.i 2) (d1.b 6)))),(w64 (a10+(d1.i 4))),a11,(List.set a12 ((fY (d1.i 0) 0 a12).toNat) (.r [.n (d5.i 0),.n (rW (d5.i 1) (d1.i 1) (d1.i 2) (d1.b 6)),.n (qK (d5.i 1) (d5.i 2) (d1.i 1) (d1.i 2) (d1.i 4) (d1.b 6)),.n (qv (d5.i 1) (d5.b 4) (d1.i 1) (d1.i 2) (d1.i 5) (d1.b 6)),.n (bI ((d1.b 6)||(d5.b 4)))])))
 else
 some ([.i a7,.i a8,.i a9,.i a10,.i 0,.d a12])
def tN (m:Nat):Nat->C3->Option (List Un):=bq (wR m)
theorem vn (m:Nat) (n:Nat):tN m (n+1)=wR m (tN m n):=rfl
def HF (F:C3->Option (List Un)):aU:=⟨[.lp [0,1,0,1,1,1,1],.blk 0,.code [1,1,1,1,1]],⟨frm 89 [(0,.ptr 0 0 0),(4,.ptr 2 0 0),(6,.ptr 3 0 0),(7,.ptr 4 0 0),(18,.af (sB 6)),(19,.int .i64),(20,.int .i64)],[.cells [.buf 5 5],.gone,.cells [.int .i64,.int .i64,.int .i64,.int .i64],.cells [.buf 6 5],.cells [.int .i64,.int .i64,.int .i64,.int .i64],.af (sB 4),.af (sB 4)],0⟩,onU F⟩
theorem V3 (m:Nat):∀n,HO WK (HF (tN m n)):=au ae SH.right (fun k=>[HF k]) (fun k h=>(aH h aB)) fun k a=>by kernel_rfl
def t139 (m:Nat):List Dat × List Dat->Option (List Un):=fun(a0,a1)=>
 bif !(mA a0)then
 some ([.i 0,.i 0,.i 0,.i 0,.i 3,.d a1])
 else
 chk (decide (a1.length<1000000))<|
 tN m m (a0,(a0.length:Int),0,0,0,0,0,0,0,0,0,a1,a1)
def K9 (l0:List Dat) (o:Option NA):List Un:=match o with|some x=>[.i x.p,.i x.q,.i x.l,.i x.r,.i x.e,.d x.aJ]|none=>[.i 0,.i 0,.i 0,.i 0,.i 3,.d l0]
theorem Ug (m:Nat) (l0:List Dat):∀(rest pre:List Dat) (n:Nat) (p q s r:Int) (l:List Dat),rest.length<n->(pre++rest).length<=64->l.length<1000000->
 tN m n (pre++rest,((pre++rest).length:Int),(pre.length:Int),0,0,0,0,p,q,s,r,l0,l)=some (K9 l0 (gZ l p q s r rest)):=by
 intro rest
 induction rest with
 |nil=>
  intro pre n p q s r l hn hl hll;obtain⟨n,rfl⟩:=ak n (by simp at hn;omega);rw[vn];unfold wR;dsimp only;simp[az,gZ,K9]
 |cons x rest ih=>
  intro pre n p q s r l hn hl hll;obtain⟨n,rfl⟩:=ak n (by simp at hn;omega);simp only[zac,zab]at hn hl;rw[vn];unfold wR;dsimp only;simp(disch:=omega) only[TRa,TRi,ab,LNl,LNi,zad,aD];unfold gZ;rcases CH (x.i 0) l 0 with h1|⟨h1,h2⟩
  . rw[aQ (by omega),if_pos (by omega)];rfl
  . rw[az (by omega),if_neg (by omega)];simp(disch:=omega) only[TRa,TRi,ab,LNl,LNi,zad,aD]
    by_cases h3:Gi (ag l (fY (x.i 0) 0 l).toNat) x=true
    . rw[if_pos h3];have h4:=h3;unfold Gi at h4;rw[h4];have:=ih (pre++[x]) n (w64 (p+w64 (x.i 1+x.i 2))) (w64 (q+x.i 3)) (w64 (s+gX ((ag l (fY (x.i 0) 0 l).toNat).i 1) (x.i 1) (x.i 2) (x.b 6))) (w64 (r+x.i 4)) (l.set (fY (x.i 0) 0 l).toNat (mB (ag l (fY (x.i 0) 0 l).toNat) x)) (by omega) (by simp;omega) (by simpa using hll)
      try simp(disch:=omega) only[TRa,TRi,ab,LNl,LNi,zad,aD]
      simp only[LNl,LNi,zad]at this⊢;exact this
    . rw[if_neg h3];have h4:=h3;unfold Gi at h4;rw[show BH _ _ _ _ _ _ _ _ _=false from Bool.eq_false_iff.2 h4];rfl
def f139:List Dat × List Dat->Bool × List Un:=fun(a0,a1)=>(decide (a1.length<1000000),[.i ((ax a0 a1).p),.i ((ax a0 a1).q),.i ((ax a0 a1).l),.i ((ax a0 a1).r),.i ((ax a0 a1).e),.d ((ax a0 a1).aJ)])
theorem Pr (a0:List Dat) (a1:List Dat) (hc:(decide (a1.length<1000000))=true):∃m,t139 m (a0,a1)=some ([.i ((ax a0 a1).p),.i ((ax a0 a1).q),.i ((ax a0 a1).l),.i ((ax a0 a1).r),.i ((ax a0 a1).e),.d ((ax a0 a1).aJ)]):=by
 have h:=zaj hc;unfold ax;cases ht:mA a0 with
 |false=>
  refine⟨0, ?_⟩;unfold t139;dsimp only;rw[ht];rfl
 |true=>
  have hl:a0.length<=64:=by
   simp only[mA,zae,zaf]at ht;exact ht.1
  refine⟨a0.length+1, ?_⟩;have:=Ug (a0.length+1) a1 a0 [] (a0.length+1) 0 0 0 0 a1 (by omega) (by simpa using hl) h;unfold t139;dsimp only;rw[ht];simp only[zbf,zal,zbd];rw[aP h];refine this.trans ?_
  cases gZ a1 0 0 0 0 a0<;>rfl
theorem L6:ER 139 (mkE WK.en WK.ex f139):=an ae SH.right (fun m=>[HF (tN m m)]) (t:=t139) (by kernel_rfl) (fun m=>(aH (V3 m m) aB)) (fun m a=>by kernel_rfl) fun(a0,a1) hc=>Pr a0 a1 hc
def VD:Tb Tryz.prog LQ TE XX:=SH.add 139 _ L6
def N97:aC:=⟨VD.tab,97,⟨[.np 0 0 0],bf 0,9⟩,⟨[.ptr 9 0 0],bf 0++bf 9,9⟩,[]⟩
def t97 (m:Nat):Int × ao × aq × ai × List Dat × List Dat × List Dat × List Dat × List Dat × List Dat × List Dat->Option (List Un):=fun(a0,a1,a2,a3,a4,a5,a6,a7,a8,a9,a10)=>
 chk (decide (0<=a0))<|
 chk (decide (0<=a0))<|
 chk (decide ((⟨a1,a4,a5,a2,a6,a7,a8⟩:bc).aK.length<1000000/\(⟨a1,a4,a5,a2,a6,a7,a8⟩:bc).notes.length<1000000/\(⟨a1,a4,a5,a2,a6,a7,a8⟩:bc).s0.length<1000000/\(⟨a1,a4,a5,a2,a6,a7,a8⟩:bc).s1.length<1000000/\(⟨a1,a4,a5,a2,a6,a7,a8⟩:bc).s2.length<1000000))<|
 chk (decide (0<=a0))<|
 chk (decide (a9.length<1000000))<|
 chk (decide (0<=a0))<|
 chk (decide (a10.length<1000000))<|
 some (Uns.enc (a1:ao)++Uns.enc (a2:aq)++Uns.enc (a3:ai)++[.d a4,.d a5,.d a6,.d a7,.d a8,.d a9,.d a10]++Uns.enc (((⟨a1,a4,a5,a2,a6,a7,a8⟩:bc).a):ao)++Uns.enc (((⟨a1,a4,a5,a2,a6,a7,a8⟩:bc).b):aq)++Uns.enc (a3:ai)++[.d ((⟨a1,a4,a5,a2,a6,a7,a8⟩:bc).aK),.d ((⟨a1,a4,a5,a2,a6,a7,a8⟩:bc).notes),.d ((⟨a1,a4,a5,a2,a6,a7,a8⟩:bc).s0),.d ((⟨a1,a4,a5,a2,a6,a7,a8⟩:bc).s1),.d ((⟨a1,a4,a5,a2,a6,a7,a8⟩:bc).s2),.d a9,.d a10])
def f97:Int × ao × aq × ai × List Dat × List Dat × List Dat × List Dat × List Dat × List Dat × List Dat->Bool × List Un:=fun(a0,a1,a2,a3,a4,a5,a6,a7,a8,a9,a10)=>(decide (0<=a0)&&decide (a4.length<1000000/\a5.length<1000000/\a6.length<1000000/\a7.length<1000000/\a8.length<1000000/\a9.length<1000000/\a10.length<1000000),Uns.enc ((a1):ao)++Uns.enc ((a2):aq)++Uns.enc ((a3):ai)++[.d (a4),.d (a5),.d (a6),.d (a7),.d (a8),.d (a9),.d (a10)]++Uns.enc ((a1):ao)++Uns.enc ((a2):aq)++Uns.enc ((a3):ai)++[.d (a4),.d (a5),.d (a6),.d (a7),.d (a8),.d (a9),.d (a10)])
theorem Tk (a0:Int) (a1:ao) (a2:aq) (a3:ai) (a4:List Dat) (a5:List Dat) (a6:List Dat) (a7:List Dat) (a8:List Dat) (a9:List Dat) (a10:List Dat) (hc:(decide (0<=a0)&&decide (a4.length<1000000/\a5.length<1000000/\a6.length<1000000/\a7.length<1000000/\a8.length<1000000/\a9.length<1000000/\a10.length<1000000))=true):∃m,t97 m (a0,a1,a2,a3,a4,a5,a6,a7,a8,a9,a10)=some (Uns.enc ((a1):ao)++Uns.enc ((a2):aq)++Uns.enc ((a3):ai)++[.d (a4),.d (a5),.d (a6),.d (a7),.d (a8),.d (a9),.d (a10)]++Uns.enc ((a1):ao)++Uns.enc ((a2):aq)++Uns.enc ((a3):ai)++[.d (a4),.d (a5),.d (a6),.d (a7),.d (a8),.d (a9),.d (a10)]):=by
 simp only[zae,zaf]at hc;obtain⟨h0,h1,h2,h3,h4,h5,h6,h7⟩:=hc;refine⟨0, ?_⟩;unfold t97;dsimp only;simp(disch:=omega) only[lt_eq,aP,kh]
theorem Rb:ER 97 (mkE N97.en N97.ex f97):=an ae VD.right (fun m=>[]) (t:=t97) (by kernel_rfl) (fun m=>aB) (fun m a=>by kernel_rfl) fun(a0,a1,a2,a3,a4,a5,a6,a7,a8,a9,a10) hc=>Tk a0 a1 a2 a3 a4 a5 a6 a7 a8 a9 a10 hc
def T97:Tb Tryz.prog LQ TE XX:=VD.add 97 _ Rb
def Zn:aC:=⟨T97.tab,170,⟨[.np 0 0 20,.int .i64],bf 0,0⟩,⟨[.bool],bf 0,0⟩,[]⟩
def t170 (m:Nat):Int × Int × ao × aq × ai × List Dat × List Dat × List Dat × List Dat × List Dat × List Dat × List Dat->Option (List Un):=fun(a0,a1,a2,a3,a4,a5,a6,a7,a8,a9,a10,a11)=>
 chk (decide (0<=a0))<|
 lt ((([a4.rin,a1]).getD 0 0):Int) fun x1=>
 bif decide (x1<0)then
 some ([.b false]++Uns.enc (a2:ao)++Uns.enc (a3:aq)++Uns.enc (a4:ai)++[.d a5,.d a6,.d a7,.d a8,.d a9,.d a10,.d a11])
 else
 bif (decide (x1>1152921504606846976))then
 some ([.b false]++Uns.enc (a2:ao)++Uns.enc (a3:aq)++Uns.enc (a4:ai)++[.d a5,.d a6,.d a7,.d a8,.d a9,.d a10,.d a11])
 else
 lt ((([a4.rin,a1]).getD 1 0):Int) fun x3=>
 bif decide (x3<0)then
 some ([.b false]++Uns.enc (a2:ao)++Uns.enc (a3:aq)++Uns.enc (a4:ai)++[.d a5,.d a6,.d a7,.d a8,.d a9,.d a10,.d a11])
 else
 bif decide (x3>(w64 (1152921504606846976-(w64 (0+x1)))))then
 some ([.b false]++Uns.enc (a2:ao)++Uns.enc (a3:aq)++Uns.enc (a4:ai)++[.d a5,.d a6,.d a7,.d a8,.d a9,.d a10,.d a11])
 else
 chk (decide (0<=a0))<|
 some ([.b true]++Uns.enc (a2:ao)++Uns.enc (a3:aq)++Uns.enc (({a4 with rin:=(w64 ((w64 (0+x1))+x3))}:ai):ai)++[.d a5,.d a6,.d a7,.d a8,.d a9,.d a10,.d a11])
def f170:Int × Int × ao × aq × ai × List Dat × List Dat × List Dat × List Dat × List Dat × List Dat × List Dat->Bool × List Un:=fun(a0,a1,a2,a3,a4,a5,a6,a7,a8,a9,a10,a11)=>(decide (0<=a0)&&decide ((0:Int)<=a4.rin/\(0:Int)<=a1/\a4.rin+a1<=(1152921504606846976:Int)),[.b (true)]++Uns.enc ((a2):ao)++Uns.enc ((a3):aq)++Uns.enc (({a4 with rin:=a4.rin+a1}):ai)++[.d (a5),.d (a6),.d (a7),.d (a8),.d (a9),.d (a10),.d (a11)])
theorem Sq (a0:Int) (a1:Int) (a2:ao) (a3:aq) (a4:ai) (a5:List Dat) (a6:List Dat) (a7:List Dat) (a8:List Dat) (a9:List Dat) (a10:List Dat) (a11:List Dat) (hc:(decide (0<=a0)&&decide ((0:Int)<=a4.rin/\(0:Int)<=a1/\a4.rin+a1<=(1152921504606846976:Int)))=true):∃m,t170 m (a0,a1,a2,a3,a4,a5,a6,a7,a8,a9,a10,a11)=some ([.b (true)]++Uns.enc ((a2):ao)++Uns.enc ((a3):aq)++Uns.enc (({a4 with rin:=a4.rin+a1}):ai)++[.d (a5),.d (a6),.d (a7),.d (a8),.d (a9),.d (a10),.d (a11)]):=by
 simp only[zae,zaf]at hc;obtain⟨h0,h1,h2,h3⟩:=hc;refine⟨0, ?_⟩;unfold t170;dsimp only;simp only[lt_eq,zaO,zaD];simp(disch:=omega) only[TRa,TRi,ab,za3]
theorem LX:ER 170 (mkE Zn.en Zn.ex f170):=an ae T97.right (fun m=>[]) (t:=t170) (by kernel_rfl) (fun m=>aB) (fun m a=>by kernel_rfl) fun(a0,a1,a2,a3,a4,a5,a6,a7,a8,a9,a10,a11) hc=>Sq a0 a1 a2 a3 a4 a5 a6 a7 a8 a9 a10 a11 hc
def Po:Tb Tryz.prog LQ TE XX:=T97.add 170 _ LX
def qR:List Int->Int->Int × Bool
 |[],s=>(s,true)
 |x::l,s=>bif (decide (x<0)||decide (x>1152921504606846976-s))then(0,false)else qR l (s+x)
def jA (l:List Int):Int:=(qR l 0).1
def mn (l:List Int):Bool:=(qR l 0).2
def sk (l:List Int):Bool:=l.all fun x=>decide (0<=x/\x<=1152921504606846976)
theorem I2:∀(l:List Int) (s b:Int),0<=s->0<=b->(∀x∈l,0<=x/\x<=b)->s+l.length*b<=1152921504606846976->qR l s=(s+l.sum,true)
 |[],s,b,_,_,_,_=>by simp[qR]
 |x::l,s,b,h1,h2,h3,h4=>by
  have hx:=h3 x (by simp);have hm:0<=(l.length:Int)*b:=za7 (by omega) h2;have e:((x::l).length:Int)*b=l.length*b+b:=by rw[zac,zaG,zb1];simp
  rw[e]at h4;have:=I2 l (s+x) b (by omega) h2 (fun y hy=>h3 y (by simp[hy])) (by omega);simp only[qR];rw[show(decide (x<0)||decide (x>1152921504606846976-s))=false by simp;omega,zal,this,zbt]
  congr 1
  omega
theorem sY:∀(l:List Int) (b:Int),0<=b->(∀x∈l,0<=x/\x<=b)->0<=l.sum/\l.sum<=l.length*b
 |[],b,_,_=>by simp
 |x::l,b,h2,h3=>by
  have hx:=h3 x (by simp);have e:((x::l).length:Int)*b=l.length*b+b:=by rw[zac,zaG,zb1];simp
  have:=sY l b h2 (fun y hy=>h3 y (by simp[hy]));rw[e,zbt];omega
theorem vM {l:List Int} {b:Int} (h2:0<=b) (h3:∀x∈l,0<=x/\x<=b) (h4:l.length*b<=1152921504606846976):jA l=l.sum/\mn l=true:=by
 have:=I2 l 0 b (by omega) h2 h3 (by omega);unfold jA mn;rw[this];simp
def b8 (n s:Int) (l:List Int):List Int:=l.map fun c=>n*c/s
def jY (n s:Int) (l:List Int):List Int:=l.map fun c=>n*c%s
theorem xN {l:List Int}:sk l=true↔∀x∈l,0<=x/\x<=1152921504606846976:=by simp[sk]
def lQ (l:List Int):List Int->Nat->Nat->Nat
 |[],_,b=>b
 |x::r,i,b=>lQ l r (i+1) (bif decide (x>l.getD b 0)then i else b)
def eQ (l:List Int):Nat:=lQ l l 0 0
def jg (z:Int):Nat->List Int->List Int->List Int
 |0,o,_=>o
 |k+1,o,l=>jg z k (o.set (eQ l) (o.getD (eQ l) 0+1)) (l.set (eQ l) z)
def de (n:Int) (l:List Int):List Int:=
 bif !(mn l)then List.replicate l.length 0 else
 bif decide (max n 0>=jA l)then l else
 jg 0 (max n 0-(b8 (max n 0) (jA l) l).sum).toNat (b8 (max n 0) (jA l) l) (jY (max n 0) (jA l) l)
theorem D7 (l:List Int):∀(r:List Int) (i b:Nat),b<l.length->i+r.length<=l.length->lQ l r i b<l.length
 |[],_,b,h,_=>h
 |x::r,i,b,h,h2=>by
  simp only[zac]at h2;unfold lQ;refine D7 l r (i+1) _ ?_ (by omega);cases decide (x>l.getD b 0)
  . exact h
  . show i<l.length;omega
theorem mR {l:List Int} (h:l≠[]):eQ l<l.length:=D7 l l 0 0 (List.length_pos_iff.2 h) (by simp)
theorem EB:∀(l:List Int) (s:Int),0<=s->s<=1152921504606846976->(qR l s).2=true->(∀x∈l,0<=x/\x<=1152921504606846976)/\(qR l s).1=s+l.sum/\s+l.sum<=1152921504606846976
 |[],s,h1,h2,_=>by simp[qR,h2]
 |x::l,s,h1,h2,h3=>by
  simp only[qR]at h3⊢
  by_cases hx:x<0\/x>1152921504606846976-s
  . rw[show(decide (x<0)||decide (x>1152921504606846976-s))=true by simpa using hx]at h3;cases h3
  . rw[show(decide (x<0)||decide (x>1152921504606846976-s))=false by simp;omega]at h3⊢;simp only[zal]at h3⊢;obtain⟨a,b,c⟩:=EB l (s+x) (by omega) (by omega) h3;refine⟨fun y hy=> ?_,by rw[b,zbt];omega,by rw[zbt];omega⟩;rcases zaT.1 hy with rfl|hy
    . omega
    . exact a y hy
theorem mo {l:List Int} (h:mn l=true):(∀x∈l,0<=x/\x<=1152921504606846976)/\jA l=l.sum/\l.sum<=1152921504606846976:=by
 obtain⟨a,b,c⟩:=EB l 0 (by omega) (by omega) h;exact⟨a,by unfold jA;omega,by omega⟩
theorem fE:∀(l:List Int),(∀x∈l,0<=x)->0<=l.sum
 |[],_=>by simp
 |x::l,h=>by
  have:=h x (by simp);have:=fE l (fun y hy=>h y (by simp[hy]));rw[zbt];omega
theorem yy {f g:Int->Int}:∀(l:List Int),(∀x∈l,f x<=g x)->(l.map f).sum<=(l.map g).sum
 |[],_=>by simp
 |x::l,h=>by
  have:=h x (by simp);have:=yy l (fun y hy=>h y (by simp[hy]));simp only[zaS,zbt];omega
theorem B2 {n s:Int} {l:List Int} (h1:0<=n) (h2:n<s) (hb:∀x∈l,0<=x/\x<=1152921504606846976):(∀y∈b8 n s l,0<=y/\y<=1152921504606846976)/\0<=(b8 n s l).sum/\(b8 n s l).sum<=l.sum:=by
 have e:∀x∈l,0<=n*x/s/\n*x/s<=x:=fun x hx=>by
  have hx:=hb x hx;refine⟨zbC (za7 h1 hx.1) (by omega), ?_⟩;have:n*x<=s*x:=zbb (by omega) hx.1;exact Int.ediv_le_of_le_mul (by omega) (by rw[zbc x s];exact this)
 have a:∀y∈b8 n s l,0<=y/\y<=1152921504606846976:=by
  intro y hy;obtain⟨x,hx,rfl⟩:=zbo.1 hy;have:=e x hx;have:=hb x hx;omega
 refine⟨a,fE _ (fun y hy=>(a y hy).1), ?_⟩;have:=yy (f:=fun c=>n*c/s) (g:=id) l (fun x hx=>(e x hx).2);simpa[b8]using this
theorem lj {l:List Int} {i:Nat} (h:i<l.length):l.getD i 0∈l:=by
 rw[zag,zah h];exact zbD h
theorem Ac (z:Int):∀(k:Nat) (o l:List Int),(jg z k o l).length=o.length
 |0,_,_=>rfl
 |k+1,o,l=>by simp[jg,Ac z k]
theorem xU (n:Int) (l:List Int):(de n l).length=l.length:=by
 unfold de;cases mn l
 . simp
 . cases decide (max n 0>=jA l)
   . simp[Ac,b8]
   . simp
theorem w7:∀(l:List Int) (b:Nat) (v:Int),b<l.length->(l.set b v).sum=l.sum-l.getD b 0+v
 |[],b,v,h=>by simp at h
 |x::l,0,v,_=>by simp;omega
 |x::l,b+1,v,h=>by
  have:=w7 l b v (by simpa using h);simp only[zbZ,zbt,zaD];omega
theorem jP (l:List Int) (b i:Nat) (v:Int) (h:b<l.length):(l.set b v).getD i 0=if i=b then v else l.getD i 0:=by
 simp only[zag,zbm]
 by_cases e:b=i
 . subst e;simp[h]
 . rw[if_neg e,if_neg (zcd e)]
theorem sC (l:List Int):∀(r pre:List Int) (b:Nat),l=pre++r->b<l.length->(∀j,j<pre.length->l.getD j 0<=l.getD b 0)->(∀j,j<b->l.getD j 0<l.getD b 0)->b<=pre.length->
 (∀j,j<l.length->l.getD j 0<=l.getD (lQ l r pre.length b) 0)/\∀j,j<lQ l r pre.length b->l.getD j 0<l.getD (lQ l r pre.length b) 0
 |[],pre,b,he,hb,h1,h2,_=>by
  have:pre.length=l.length:=by rw[he];simp
  exact⟨fun j hj=>h1 j (by omega),h2⟩
 |x::r,pre,b,he,hb,h1,h2,h3=>by
  have hg:l.getD pre.length 0=x:=by rw[he];simp
  have hl:l.length=pre.length+(r.length+1):=by rw[he];simp
  have hp:(pre++[x]).length=pre.length+1:=by simp
  simp only[lQ];rw[<-hp]
  by_cases hx:x>l.getD b 0
  . rw[show decide (x>l.getD b 0)=true from zaa hx,zaw];refine sC l r (pre++[x]) pre.length (by rw[he];simp) (by omega) (fun j hj=> ?_) (fun j hj=> ?_) (by omega)
    . rw[hp]at hj
      by_cases e:j=pre.length
      . subst e;omega
      . have:=h1 j (by omega);omega
    . have:=h1 j hj;omega
  . rw[show decide (x>l.getD b 0)=false from zap hx,zal];refine sC l r (pre++[x]) b (by rw[he];simp) hb (fun j hj=> ?_) h2 (by omega);rw[hp]at hj
    by_cases e:j=pre.length
    . subst e;omega
    . exact h1 j (by omega)
theorem nv {l:List Int} (h:l≠[]):(∀j,j<l.length->l.getD j 0<=l.getD (eQ l) 0)/\∀j,j<eQ l->l.getD j 0<l.getD (eQ l) 0:=
 sC l l [] 0 rfl (List.length_pos_iff.2 h) (fun j hj=>by simp at hj) (fun j hj=>by omega) (by simp)
theorem oy:∀(l:List Int),(∀x∈l,x<=0)->l.sum<=0
 |[],_=>by simp
 |x::l,h=>by
  have:=h x (by simp);have:=oy l (fun y hy=>h y (by simp[hy]));rw[zbt];omega
theorem rl {l:List Int} {x:Int} (h:x∈l):∃j,j<l.length/\l.getD j 0=x:=by
 obtain⟨j,hj,rfl⟩:=List.getElem_of_mem h;exact⟨j,hj,by rw[zag,zah hj];rfl⟩
theorem AX {s:Int} (hs:0<s):∀(k:Nat) (o l:List Int),o.length=l.length->(∀x∈l,0<=x/\x<s)->s*(k:Int)<=l.sum->
 (jg 0 k o l).sum=o.sum+k/\(∀i,i<l.length->(jg 0 k o l).getD i 0=o.getD i 0\/((jg 0 k o l).getD i 0=o.getD i 0+1/\0<l.getD i 0))/\
 ∀i j,i<j->j<l.length->l.getD j 0<=l.getD i 0->(jg 0 k o l).getD j 0-o.getD j 0<=(jg 0 k o l).getD i 0-o.getD i 0
 |0,o,l,hl,hb,hk=>by simp[jg]
 |k+1,o,l,hl,hb,hk=>by
  have e1:s*((k+1:Nat):Int)=s*k+s:=by rw[zaG,zb8];simp
  rw[e1]at hk;have hk0:0<=s*(k:Int):=za7 (by omega) (by omega);have hne:l≠[]:=by rintro rfl;simp at hk;omega
  have hB:=mR hne;obtain⟨hm,hf⟩:=nv hne;have hpos:0<l.getD (eQ l) 0:=by
   rcases Int.lt_or_le 0 (l.getD (eQ l) 0)with h|h
   . exact h
   . have:=oy l (fun x hx=>by
      obtain⟨j,hj,rfl⟩:=rl hx;have:=hm j hj;omega)
     omega
  have hmem:=hb _ (lj hB);simp only[jg];generalize hbb:eQ l=b at*
  have hs':=w7 l b 0 hB;have ho':=w7 o b (o.getD b 0+1) (by omega);obtain⟨g1,g2,g3⟩:=AX hs k (o.set b (o.getD b 0+1)) (l.set b 0) (by simp[hl]) (fun x hx=>by
   rcases zbT hx with h|h
   . exact hb x h
   . omega) (by omega)
  generalize jg 0 k (o.set b (o.getD b 0+1)) (l.set b 0)=y at*
  simp only[zbk]at g2 g3;refine⟨by rw[g1,ho'];simp only[zaG];omega,fun i hi=> ?_,fun i j hij hj hle=> ?_⟩
  . have:=g2 i hi;rw[jP _ _ _ _ (by omega),jP _ _ _ _ hB]at this
    by_cases e:i=b
    . subst e;simp only[↓reduceIte]at this;right;omega
    . simpa[e]using this
  . have a1:=g2 i (by omega);have a2:=g2 j hj;have a3:=g3 i j hij hj;rw[jP _ _ _ _ (by omega),jP _ _ _ _ hB]at a1 a2;rw[jP _ _ _ _ hB,jP _ _ _ _ hB,jP _ _ _ _ (by omega),jP _ _ _ _ (by omega)]at a3
    by_cases ei:i=b
    . subst ei;have ne:¬j=i:=by omega
      simp only[↓reduceIte,ne]at a1 a2 a3;omega
    . by_cases ej:j=b
      . subst ej;have:=hf i hij;omega
      . simp only[ei,ej,zbn]at a1 a2 a3;exact a3 hle
theorem yF (a s:Int):∀l:List Int,s*(b8 a s l).sum+(jY a s l).sum=a*l.sum
 |[]=>by simp[b8,jY]
 |x::l=>by
  have:=yF a s l;have e:=zbi (a*x) s;show s*(a*x/s+(b8 a s l).sum)+(a*x%s+(jY a s l).sum)=a*(x+l.sum)
  rw[zb8,zb8];omega
theorem AV (f:Int->Int) {l:List Int} {b:Nat} (h:b<l.length):(l.map f).getD b 0=f (l.getD b 0):=by
 simp[zag,zah h]
theorem JA {a:Int} {l:List Int} (ha:0<=a) (hok:mn l=true) (hlt:a<l.sum):(de a l).sum=a/\
 (∀i,i<l.length->(de a l).getD i 0=a*l.getD i 0/l.sum\/((de a l).getD i 0=a*l.getD i 0/l.sum+1/\0<a*l.getD i 0%l.sum))/\
 ∀i j,i<j->j<l.length->a*l.getD j 0%l.sum<=a*l.getD i 0%l.sum->(de a l).getD j 0-a*l.getD j 0/l.sum<=(de a l).getD i 0-a*l.getD i 0/l.sum:=by
 obtain⟨hb,hs,hs2⟩:=mo hok;have hr:∀x∈jY a l.sum l,0<=x/\x<l.sum:=by
  intro y hy;obtain⟨x,hx,rfl⟩:=zbo.1 hy;exact⟨zbK _ (by omega),zbw _ (by omega)⟩
 have hsum:=yF a l.sum l;have hr0:=fE _ (fun x hx=>(hr x hx).1);have hk:0<=a-(b8 a l.sum l).sum:=by
  have:l.sum*(b8 a l.sum l).sum<=l.sum*a:=by rw[zbc l.sum a];omega
  have:=Int.le_of_mul_le_mul_left this (by omega);omega
 have he:de a l=jg 0 (a-(b8 a l.sum l).sum).toNat (b8 a l.sum l) (jY a l.sum l):=by
  unfold de;rw[hok,hs,show max a 0=a by omega,show decide (a>=l.sum)=false from zap (by omega)];rfl
 have hl1:(b8 a l.sum l).length=l.length:=by simp[b8]
 have hl2:(jY a l.sum l).length=l.length:=by simp[jY]
 have d:=AX (s:=l.sum) (by omega) (a-(b8 a l.sum l).sum).toNat (b8 a l.sum l) (jY a l.sum l) (by omega) hr (by
  rw[Int.toNat_of_nonneg hk,Int.mul_sub,zbc l.sum a];omega)
 rw[<-he,hl2]at d;obtain⟨d1,d2,d3⟩:=d;have ef:∀i,i<l.length->(b8 a l.sum l).getD i 0=a*l.getD i 0/l.sum:=fun i hi=>AV _ hi
 have er:∀i,i<l.length->(jY a l.sum l).getD i 0=a*l.getD i 0%l.sum:=fun i hi=>AV _ hi
 refine⟨by rw[d1,Int.toNat_of_nonneg hk];omega,fun i hi=> ?_,fun i j hij hj hle=> ?_⟩
 . have:=d2 i hi
   rwa [ef i hi,er i hi]at this
 . have:=d3 i j hij hj (by rw[er i (by omega),er j hj];exact hle)
   rwa [ef i (by omega),ef j hj]at this
theorem JT {a:Int} {l:List Int} (hok:mn l=true) (hge:l.sum<=max a 0):de a l=l:=by
 obtain⟨hb,hs,hs2⟩:=mo hok;unfold de;rw[hok,hs,show decide (max a 0>=l.sum)=true from zaa hge];rfl
theorem Rp {a x s:Int} (ha:0<=a) (hlt:a<s) (hx:0<=x):0<=a*x/s/\a*x/s<=x/\(0<a*x%s->a*x/s+1<=x):=by
 have e:=zbi (a*x) s;have hm:a*x<=(s-1)*x:=zbb (by omega) hx;have hsx:(s-1)*x=s*x-x:=by rw[Int.sub_mul,Int.one_mul]
 refine⟨zbC (za7 ha hx) (by omega),Int.ediv_le_of_le_mul (by omega) (by rw[zbc x s];omega),fun h=> ?_⟩;have:s*(a*x/s)<s*x:=by omega
 have:=Int.lt_of_mul_lt_mul_left this (by omega);omega
theorem DL {a:Int} {l:List Int} (ha:0<=a) (hok:mn l=true):(de a l).sum=min a l.sum/\∀i,i<l.length->0<=(de a l).getD i 0/\(de a l).getD i 0<=l.getD i 0:=by
 obtain⟨hb,hs,hs2⟩:=mo hok
 by_cases h:l.sum<=a
 . rw[JT hok (by omega)];exact⟨by omega,fun i hi=>⟨(hb _ (lj hi)).1,zb5 _⟩⟩
 . obtain⟨h1,h2,_⟩:=JA ha hok (by omega);refine⟨by omega,fun i hi=> ?_⟩;have hx:=hb _ (lj hi);have:=Rp (a:=a) (s:=l.sum) ha (by omega) hx.1;rcases h2 i hi with h|⟨h,h'⟩<;>omega
def bY:List Bool->List Int->List Int
 |[],_=>[]
 |false::ms,l=>0::bY ms l
 |true::ms,l=>l.headD 0::bY ms l.tail
def kK:List Bool->Nat->Nat
 |[],_=>0
 |false::ms,i=>kK ms i+1
 |true::_,0=>0
 |true::ms,i+1=>kK ms i+1
def bZ:List Bool->Nat
 |[]=>0
 |false::ms=>bZ ms
 |true::ms=>bZ ms+1
theorem mJ:∀(ms:List Bool) (l:List Int),(bY ms l).length=ms.length
 |[],_=>rfl
 |false::ms,l=>by simp[bY,mJ ms l]
 |true::ms,l=>by simp[bY,mJ ms l.tail]
theorem wA:∀(ms:List Bool) (i:Nat),i<bZ ms->kK ms i<ms.length
 |[],i,h=>by simp[bZ]at h
 |false::ms,i,h=>by have:=wA ms i h;simp[kK];omega
 |true::ms,0,_=>by simp[kK]
 |true::ms,i+1,h=>by have:=wA ms i (by simpa[bZ]using h);simp[kK];omega
theorem sN:∀(ms:List Bool) (i j:Nat),i<j->j<bZ ms->kK ms i<kK ms j
 |[],i,j,_,h=>by simp[bZ]at h
 |false::ms,i,j,h,h2=>by have:=sN ms i j h h2;simp[kK];omega
 |true::ms,0,j+1,_,_=>by simp[kK]
 |true::ms,i+1,j+1,h,h2=>by have:=sN ms i j (by omega) (by simpa[bZ]using h2);simp[kK];omega
theorem ju:∀(ms:List Bool) (l:List Int) (i:Nat),l.length=bZ ms->i<bZ ms->(bY ms l).getD (kK ms i) 0=l.getD i 0
 |[],l,i,_,h=>by simp[bZ]at h
 |false::ms,l,i,h,h2=>by simp only[bY,kK,zaD];exact ju ms l i h h2
 |true::ms,[],i,h,_=>by simp[bZ]at h
 |true::ms,x::l,0,h,_=>by simp[bY,kK]
 |true::ms,x::l,i+1,h,h2=>by
  simp only[bY,kK,zaD,List.tail_cons];exact ju ms l i (by simpa[bZ]using h) (by simpa[bZ]using h2)
theorem rD:∀(ms:List Bool) (l:List Int) (i:Nat) (v:Int),l.length=bZ ms->i<bZ ms->(bY ms l).set (kK ms i) v=bY ms (l.set i v)
 |[],l,i,v,_,h=>by simp[bZ]at h
 |false::ms,l,i,v,h,h2=>by simp only[bY,kK,zbZ];rw[rD ms l i v h h2]
 |true::ms,[],i,v,h,_=>by simp[bZ]at h
 |true::ms,x::l,0,v,h,_=>by simp[bY,kK]
 |true::ms,x::l,i+1,v,h,h2=>by
  simp only[bY,kK,zbZ,List.tail_cons,List.headD_cons];rw[rD ms l i v (by simpa[bZ]using h) (by simpa[bZ]using h2)]
theorem wv:∀(ms:List Bool) (p:Nat),p<ms.length->(∃i,i<bZ ms/\p=kK ms i)\/∀l,(bY ms l).getD p 0=0
 |[],p,h=>by simp at h
 |false::ms,0,_=> .inr fun l=>by simp[bY]
 |true::ms,0,_=> .inl ⟨0,by simp[bZ],by simp[kK]⟩
 |false::ms,p+1,h=>by
  rcases wv ms p (by simpa using h)with⟨i,h1,h2⟩|h2
  . exact .inl ⟨i,h1,by simp[kK,h2]⟩
  . exact .inr fun l=>by simp only[bY,zaD];exact h2 l
 |true::ms,p+1,h=>by
  rcases wv ms p (by simpa using h)with⟨i,h1,h2⟩|h2
  . exact .inl ⟨i+1,by simp[bZ,h1],by simp[kK,h2]⟩
  . exact .inr fun l=>by simp only[bY,zaD];exact h2 _
theorem E1 {l:List Int} {b:Nat} (hb:b<l.length) (h1:∀j,j<l.length->l.getD j 0<=l.getD b 0) (h2:∀j,j<b->l.getD j 0<l.getD b 0):eQ l=b:=by
 have hne:l≠[]:=by rintro rfl;simp at hb
 obtain⟨m1,m2⟩:=nv hne;have hB:=mR hne;rcases Nat.lt_trichotomy (eQ l) b with h|h|h
 . have:=h2 _ h;have:=m1 b hb;omega
 . exact h
 . have:=m2 _ h;have:=h1 _ hB;omega
theorem ES (ms:List Bool) (l:List Int) (hl:l.length=bZ ms) (hp:0<l.getD (eQ l) 0):eQ (bY ms l)=kK ms (eQ l):=by
 have hne:l≠[]:=by rintro rfl;simp at hp
 obtain⟨m1,m2⟩:=nv hne;have hB:=mR hne;rw[hl]at hB;refine E1 (by rw[mJ];exact wA ms _ hB) (fun j hj=> ?_) (fun j hj=> ?_)
 . rw[ju ms l _ hl hB];rw[mJ]at hj;rcases wv ms j hj with⟨i,h1,rfl⟩|h2
   . rw[ju ms l i hl h1];exact m1 i (by omega)
   . rw[h2];omega
 . rw[ju ms l _ hl hB];have hj2:j<ms.length:=Nat.lt_trans hj (wA ms _ hB);rcases wv ms j hj2 with⟨i,h1,rfl⟩|h2
   . rw[ju ms l i hl h1];refine m2 i ?_
     rcases Nat.lt_trichotomy i (eQ l)with h|h|h
     . exact h
     . subst h;omega
     . have:=sN ms _ _ h h1;omega
   . rw[h2];exact hp
theorem AY {s:Int} (hs:0<s) (ms:List Bool):∀(k:Nat) (o l:List Int),o.length=bZ ms->l.length=bZ ms->(∀x∈l,0<=x/\x<s)->s*(k:Int)<=l.sum->
 jg 0 k (bY ms o) (bY ms l)=bY ms (jg 0 k o l)
 |0,o,l,_,_,_,_=>rfl
 |k+1,o,l,ho,hl,hb,hk=>by
  have e1:s*((k+1:Nat):Int)=s*k+s:=by rw[zaG,zb8];simp
  rw[e1]at hk;have hk0:0<=s*(k:Int):=za7 (by omega) (by omega);have hne:l≠[]:=by rintro rfl;simp at hk;omega
  have hB:=mR hne;obtain⟨hm,hf⟩:=nv hne;have hpos:0<l.getD (eQ l) 0:=by
   rcases Int.lt_or_le 0 (l.getD (eQ l) 0)with h|h
   . exact h
   . have:=oy l (fun x hx=>by
      obtain⟨j,hj,rfl⟩:=rl hx;have:=hm j hj;omega)
     omega
  have hmem:=hb _ (lj hB);have hs':=w7 l (eQ l) 0 hB;simp only[jg];rw[ES ms l hl hpos,ju ms o _ ho (by omega),rD ms o _ _ ho (by omega),rD ms l _ _ hl (by omega)];refine AY hs ms k _ _ (by simpa using ho) (by simpa using hl) (fun x hx=> ?_) (by omega);rcases zbT hx with h|h
  . exact hb x h
  . omega
theorem ry (f:Int->Int) (h0:f 0=0):∀(ms:List Bool) (l:List Int),(bY ms l).map f=bY ms (l.map f)
 |[],_=>rfl
 |false::ms,l=>by simp[bY,h0,ry f h0 ms l]
 |true::ms,l=>by
  simp only[bY,zaS,ry f h0 ms l.tail];cases l with
  |nil=>simp[h0]
  |cons x l=>simp
theorem oB:∀(ms:List Bool) (l:List Int),l.length=bZ ms->(bY ms l).sum=l.sum
 |[],l,h=>by rw[zaH h];rfl
 |false::ms,l,h=>by simp[bY,oB ms l h]
 |true::ms,[],h=>by simp[bZ]at h
 |true::ms,x::l,h=>by simp[bY,oB ms l (by simpa[bZ]using h)]
theorem yx:∀(ms:List Bool) (l:List Int) (y:Int),y∈bY ms l->y=0\/y∈l
 |[],_,y,h=>by simp[bY]at h
 |false::ms,l,y,h=>by
  simp only[bY,zaT]at h;rcases h with h|h
  . exact .inl h
  . exact yx ms l y h
 |true::ms,l,y,h=>by
  simp only[bY,zaT]at h;rcases h with h|h
  . cases l with
    |nil=>exact .inl (by simpa using h)
    |cons x l=>exact .inr (by simp at h;simp[h])
  . rcases yx ms l.tail y h with h|h
    . exact .inl h
    . exact .inr (List.mem_of_mem_tail h)
theorem JY (ms:List Bool) (n:Int) (l:List Int) (hl:l.length=bZ ms) (b:Int) (hb0:0<=b) (hb:∀x∈l,0<=x/\x<=b) (h4:ms.length*b<=1152921504606846976):
 de n (bY ms l)=bY ms (de n l):=by
 have hlm:bZ ms<=ms.length:=by
  clear hl h4
  induction ms with
  |nil=>simp[bZ]
  |cons c ms ih=>cases c<;>simp[bZ]<;>omega
 have hlb:(l.length:Int)*b<=ms.length*b:=zbb (by omega) hb0;obtain⟨s1,o1⟩:=vM hb0 hb (by omega);have hb2:∀x∈bY ms l,0<=x/\x<=b:=fun x hx=>by
  rcases yx ms l x hx with h|h
  . omega
  . exact hb x h
 obtain⟨s2,o2⟩:=vM hb0 hb2 (by rw[mJ];exact h4);rw[oB ms l hl]at s2;obtain⟨hB,_,hs2⟩:=mo o1;have h0:=fE l (fun x hx=>(hb x hx).1);unfold de;rw[o1,o2,s1,s2];simp only[zbf,zal]
 by_cases h:max n 0>=l.sum
 . rw[zaa h,zaw,zaw]
 . rw[zap h,zal,zal];have ef:b8 (max n 0) l.sum (bY ms l)=bY ms (b8 (max n 0) l.sum l):=ry (fun c=>max n 0*c/l.sum) (by simp) ms l;have er:jY (max n 0) l.sum (bY ms l)=bY ms (jY (max n 0) l.sum l):=ry (fun c=>max n 0*c%l.sum) (by simp) ms l;have lf:(b8 (max n 0) l.sum l).length=bZ ms:=by simpa[b8]using hl
   have lr:(jY (max n 0) l.sum l).length=bZ ms:=by simpa[jY]using hl
   rw[ef,er,oB ms _ lf];have hr:∀x∈jY (max n 0) l.sum l,0<=x/\x<l.sum:=by
    intro y hy;obtain⟨x,hx,rfl⟩:=zbo.1 hy;exact⟨zbK _ (by omega),zbw _ (by omega)⟩
   have hsum:=yF (max n 0) l.sum l;have hr0:=fE _ (fun x hx=>(hr x hx).1);have hk:0<=max n 0-(b8 (max n 0) l.sum l).sum:=by
    have:l.sum*(b8 (max n 0) l.sum l).sum<=l.sum*max n 0:=by rw[zbc l.sum (max n 0)];omega
    have:=Int.le_of_mul_le_mul_left this (by omega);omega
   exact AY (s:=l.sum) (by omega) ms _ _ _ lf lr hr (by rw[Int.toNat_of_nonneg hk,Int.mul_sub,zbc l.sum (max n 0)];omega)
theorem VR {n c p:Int} (h1:0<=n) (h2:n<p) (h3:p<=1152921504606846976) (h4:0<=c) (h5:c<=1152921504606846976):mdV n c p 0=n*c/p/\qp n c p 0=true/\0<=n*c/p/\n*c/p<=c:=by
 have h:n*c/p<=c:=by
  have:n*c<=p*c:=zbb (by omega) h4;exact Int.ediv_le_of_le_mul (by omega) (by rw[zbc c p];exact this)
 have ok:qp n c p 0=true:=by rw[H9 h1 (by omega) h4 h5 (by omega) h3 (by omega) (by omega),WQ];simp;omega
 exact⟨by unfold mdV;rw[ok,WQ];rfl,ok,zbC (za7 h1 h4) (by omega),h⟩
theorem QR {n c s q:Int} (hq:q=n*c/s) (h1:0<=n) (h2:0<s) (h3:s<=1152921504606846976) (h4:0<=c):
 rS (rS (rS n*rS c)-rS (rS q*rS s))=n*c%s:=by
 show IntKind.u64.wrap (IntKind.u64.wrap (IntKind.u64.wrap n*IntKind.u64.wrap c)-IntKind.u64.wrap (IntKind.u64.wrap q*IntKind.u64.wrap s))=n*c%s;simp only[oO];rw[<-Int.mul_emod,<-Int.mul_emod,<-Int.sub_emod];have e:=zbi (n*c) s;have a:=zbK (n*c) (show s≠0 by omega);have b:=zbw (n*c) h2;rw[<-hq]at e;rw[show n*c-q*s=n*c%s by rw[zbc q s];omega];exact Int.emod_eq_of_lt a (by omega)
theorem Em {α:Type} (pre done:List α) (x y:α) (rest:List α) (h:done.length=pre.length):List.set (done++x::rest) pre.length y=done++y::rest:=by rw[<-h];simp
def VY:aC:=⟨Po.tab,197,⟨[.ints .i64],[],0⟩,⟨[.int .i64,.bool],[],0⟩,[]⟩
abbrev BE:Type:=Int × List Int × Int × Int
def vZ (m:Nat) (k:BE->Option (List Un)):BE->Option (List Un):=fun(a0,a1,a2,a3)=>
 bif decide (a3<a2)then
 chk (inb a3 a1.length)<|
 chk (decide (a3.toNat<a1.length))<|
 bif (decide ((a1.getD a3.toNat 0)<0))then
 some ([.i 0,.b false])
 else
 bif (decide ((a1.getD a3.toNat 0)>(w64 (1152921504606846976-a0))))then
 some ([.i 0,.b false])
 else
 k ((w64 (a0+(a1.getD a3.toNat 0))),a1,a2,(w64 (a3+1)))
 else
 some ([.i a0,.b true])
def tX (m:Nat):Nat->BE->Option (List Un):=bq (vZ m)
theorem uU (m:Nat) (n:Nat):tX m (n+1)=vZ m (tX m n):=rfl
def Gm (F:BE->Option (List Un)):aU:=⟨[.lp [0,1,0,1,1],.blk 0,.code [1,1,1]],⟨frm 26 [(4,.int .i64),(7,.ints .i64),(8,.int .i64),(9,.int .i64)],[],0⟩,onU F⟩
theorem VQ (m:Nat):∀n,HO VY (Gm (tX m n)):=au ae Po.right (fun k=>[Gm k]) (fun k h=>(aH h aB)) fun k a=>by kernel_rfl
def t197 (m:Nat):List Int->Option (List Un):=fun a0=>
 tX m m (0,a0,(a0.length:Int),0)
theorem PI (m:Nat):∀(rest pre:List Int) (s:Int) (n:Nat),rest.length<n->0<=s->s<=1152921504606846976->(pre++rest).length<1099511627776->
 tX m n (s,pre++rest,((pre++rest).length:Int),(pre.length:Int))=some [.i (qR rest s).1,.b (qR rest s).2]:=by
 intro rest
 induction rest with
 |nil=>
  intro pre s n hn h1 h2 h3;obtain⟨n,rfl⟩:=ak n (by simp at hn;omega);rw[uU];unfold vZ;dsimp only;simp[az,qR]
 |cons x rest ih=>
  intro pre s n hn h1 h2 h3;obtain⟨n,rfl⟩:=ak n (by simp at hn;omega);simp only[zab,zac]at h3 hn;rw[uU];unfold vZ;dsimp only;simp only[qR]
  by_cases c1:x<0
  . rw[zaa c1,Bool.true_or,zaw];simp(disch:=omega) only[TRa,TRi,ab,LNl,LNi,zad,bK]
  . by_cases c2:x>1152921504606846976-s
    . rw[zaa c2,Bool.or_true,zaw];simp(disch:=omega) only[TRa,TRi,ab,LNl,LNi,zad,bK]
    . rw[zap c1,zap c2,zb7,zal];have:=ih (pre++[x]) (s+x) n (by omega) (by omega) (by omega) (by simp;omega);simp(disch:=omega) only[TRa,TRi,ab,LNl,LNi,zad,bK];simp only[LNl,LNi,zad]at this⊢;exact this
def f197:List Int->Bool × List Un:=fun a0=>(decide (a0.length<1099511627776),[.i (jA a0),.b (mn a0)])
theorem OY (a0:List Int) (hc:(decide (a0.length<1099511627776))=true):∃m,t197 m a0=some ([.i (jA a0),.b (mn a0)]):=by
 exact⟨a0.length+1,PI _ a0 [] 0 _ (by omega) (by omega) (by omega) (by simpa using zaj hc)⟩
theorem LA:ER 197 (mkE VY.en VY.ex f197):=an ae Po.right (fun m=>[Gm (tX m m)]) (t:=t197) (by kernel_rfl) (fun m=>(aH (VQ m m) aB)) (fun m a=>by kernel_rfl) fun a0 hc=>OY a0 hc
def Sg:Tb Tryz.prog LQ TE XX:=Po.add 197 _ LA
def Tl:aC:=⟨Sg.tab,234,⟨[.int .i64,.int .i64,.ints .i64],[],0⟩,⟨[.buf 0 1,.buf 1 1],[.ints .i64,.ints .u64],0⟩,[]⟩
abbrev CL:Type:=Int × Int × List Int × Int × Int × List Int × List Int
def wB (m:Nat) (k:CL->Option (List Un)):CL->Option (List Un):=fun(a0,a1,a2,a3,a4,a5,a6)=>
 bif decide (a4<a3)then
 chk (inb a4 a2.length)<|
 chk (decide (a4.toNat<a2.length))<|
 chk (inb a4 a5.length)<|
 chk (decide (a4.toNat<a5.length))<|
 lt ((List.set a5 a4.toNat (mdV a0 (a2.getD a4.toNat 0) a1 0)):List Int) fun l5=>
 chk (inb a4 l5.length)<|
 chk (decide (a4.toNat<l5.length))<|
 chk (inb a4 a6.length)<|
 chk (decide (a4.toNat<a6.length))<|
 k (a0,a1,a2,a3,(w64 (a4+1)),l5,(List.set a6 a4.toNat (rS ((rS ((rS a0)*(rS (a2.getD a4.toNat 0))))-(rS ((rS (l5.getD a4.toNat 0))*(rS a1)))))))
 else
 some ([.l a5,.l a6])
def sP (m:Nat):Nat->CL->Option (List Un):=bq (wB m)
theorem uf (m:Nat) (n:Nat):sP m (n+1)=wB m (sP m n):=rfl
def FE (F:CL->Option (List Un)):aU:=⟨[.lp [0,1,0,1,1],.blk 0,.code [1,1,1]],⟨frm 55 [(0,.int .i64),(1,.int .i64),(8,.buf 0 1),(9,.buf 1 1),(18,.ints .i64),(19,.int .i64),(20,.int .i64)],[.ints .i64,.ints .u64],0⟩,onU F⟩
theorem UL (m:Nat):∀n,HO Tl (FE (sP m n)):=au ae Sg.right (fun k=>[FE k]) (fun k h=>(aH h aB)) fun k a=>by kernel_rfl
def t234 (m:Nat):Int × Int × List Int->Option (List Un):=fun(a0,a1,a2)=>
 chk (nB (a2.length:Int) 8)<|
 chk (nB (a2.length:Int) 8)<|
 sP m m (a0,a1,a2,(a2.length:Int),0,(List.replicate a2.length 0),(List.replicate a2.length 0))
theorem TF (m:Nat) (a s:Int) (h1:0<=a) (h2:a<s) (h3:s<=1152921504606846976):∀(rest pre d1 d2:List Int) (n:Nat),rest.length<n->d1.length=pre.length->d2.length=pre.length->(∀x∈rest,0<=x/\x<=1152921504606846976)->(pre++rest).length<1099511627776->
 sP m n (a,s,pre++rest,((pre++rest).length:Int),(pre.length:Int),d1++List.replicate rest.length 0,d2++List.replicate rest.length 0)=some [.l (d1++b8 a s rest),.l (d2++jY a s rest)]:=by
 intro rest
 induction rest with
 |nil=>
  intro pre d1 d2 n hn p1 p2 hb h4;obtain⟨n,rfl⟩:=ak n (by simp at hn;omega);rw[uf];unfold wB;dsimp only;simp[az,b8,jY]
 |cons x rest ih=>
  intro pre d1 d2 n hn p1 p2 hb h4;obtain⟨n,rfl⟩:=ak n (by simp at hn;omega);simp only[zab,zac]at h4 hn;rw[uf];unfold wB;dsimp only;simp only[zac,zbB];have hx:=hb x (by simp);obtain⟨e1,_,_,_⟩:=VR h1 h2 h3 hx.1 hx.2;have:=ih (pre++[x]) (d1++[a*x/s]) (d2++[a*x%s]) n (by omega) (by simp;omega) (by simp;omega) (fun y hy=>hb y (by simp[hy])) (by simp;omega);have le:=QR (n:=a) (c:=x) (s:=s) rfl h1 (by omega) h3 hx.1;simp(disch:=omega) only[TRa,TRi,ab,LNl,LNi,zad,bK,e1,Em _ _ _ _ _ p1,An _ _ _ _ _ p1,Em _ _ _ _ _ p2];rw[le];simp only[LNl,LNi,zad]at this⊢;refine this.trans ?_
  simp[b8,jY]
def f234:Int × Int × List Int->Bool × List Un:=fun(a0,a1,a2)=>(decide (0<=a0/\a0<a1/\a1<=1152921504606846976/\a2.length<1099511627776)&&sk a2,[.l (b8 a0 a1 a2),.l (jY a0 a1 a2)])
theorem R3 (a0:Int) (a1:Int) (a2:List Int) (hc:(decide (0<=a0/\a0<a1/\a1<=1152921504606846976/\a2.length<1099511627776)&&sk a2)=true):∃m,t234 m (a0,a1,a2)=some ([.l (b8 a0 a1 a2),.l (jY a0 a1 a2)]):=by
 simp only[zae,zaf,xN]at hc;obtain⟨⟨h1,h2,h3,h4⟩,hb⟩:=hc;refine⟨a2.length+1, ?_⟩;unfold t234;simp(disch:=omega) only[TRa,TRi,ab];exact TF (a2.length+1) a0 a1 h1 h2 h3 a2 [] [] [] (a2.length+1) (by omega) rfl rfl hb (by simpa using h4)
theorem La:ER 234 (mkE Tl.en Tl.ex f234):=an ae Sg.right (fun m=>[FE (sP m m)]) (t:=t234) (by kernel_rfl) (fun m=>(aH (UL m m) aB)) (fun m a=>by kernel_rfl) fun(a0,a1,a2) hc=>R3 a0 a1 a2 hc
def KG:Tb Tryz.prog LQ TE XX:=Sg.add 234 _ La
def Kk:aC:=⟨KG.tab,229,⟨[.int .i64,.ints .i64],[],0⟩,⟨[.buf 0 1],[.ints .i64],0⟩,[]⟩
abbrev Dk:Type:=Int × Int × Int × Int × List Int × List Int
abbrev nm:Type:=Int × List Int × List Int
abbrev Bh:Type:=Int × Int × Int × List Int × List Int
def vT (m:Nat) (k1:nm->Option (List Un)) (k:Dk->Option (List Un)):Dk->Option (List Un):=fun(a0,a1,a2,a3,a4,a5)=>
 bif decide (a3<a2)then
 chk (inb a3 a5.length)<|
 chk (decide (a3.toNat<a5.length))<|
 chk (inb a1 a5.length)<|
 chk (decide (a1.toNat<a5.length))<|
 bif (decide ((a5.getD a3.toNat 0)>(a5.getD a1.toNat 0)))then
 k (a0,a3,a2,(w64 (a3+1)),a4,a5)
 else
 k (a0,a1,a2,(w64 (a3+1)),a4,a5)
 else
 chk (inb a1 a4.length)<|
 chk (decide (a1.toNat<a4.length))<|
 chk (inb a1 a4.length)<|
 chk (decide (a1.toNat<a4.length))<|
 chk (inb a1 a5.length)<|
 chk (decide (a1.toNat<a5.length))<|
 k1 ((w64 (a0-1)),(List.set a4 a1.toNat (w64 ((a4.getD a1.toNat 0)+1))),(List.set a5 a1.toNat 0))
def tH (m:Nat) (k1:nm->Option (List Un)):Nat->Dk->Option (List Un):=bq (vT m k1)
theorem uv (m:Nat) (k1:nm->Option (List Un)) (n:Nat):tH m k1 (n+1)=vT m k1 (tH m k1 n):=rfl
def Gp (F:Dk->Option (List Un)):aU:=⟨[.lp [0,1,0,1,0,0,1,0,0,0,1,1,1,1,1,1,1,1],.blk 4,.code [1,1,0,0,1,0,0,0,1,1,1,1,1,1,1,1],.blk 3,.code [1,1,0,0,0,1,1,1,1,1,1,1,1],.lp [0,0,1,1,1,1,1,1,1,1],.blk 2,.code [1,1,1,1,1,1,1,1,1]],⟨frm 80 [(7,.buf 0 1),(8,.buf 1 1),(9,.int .i64),(12,.int .i64),(55,.int .i64),(56,.int .i64)],[.ints .i64,.ints .u64],0⟩,onU F⟩
def wj (m:Nat) (k:nm->Option (List Un)):nm->Option (List Un):=fun(a0,a1,a2)=>
 bif decide (a0>0)then
 tH m k m (a0,0,(a2.length:Int),0,a1,a2)
 else
 some ([.l a1])
def nX (m:Nat):Nat->nm->Option (List Un):=bq (wj m)
theorem uI (m:Nat) (n:Nat):nX m (n+1)=wj m (nX m n):=rfl
def B9 (F:nm->Option (List Un)):aU:=⟨[.lp [0,0,1,1,1,1,1,1,1,1],.blk 2,.code [1,1,1,1,1,1,1,1,1]],⟨frm 80 [(7,.buf 0 1),(8,.buf 1 1),(9,.int .i64)],[.ints .i64,.ints .u64],0⟩,onU F⟩
def wP (m:Nat) (k:Bh->Option (List Un)):Bh->Option (List Un):=fun(a0,a1,a2,a3,a4)=>
 bif decide (a2<a1)then
 chk (inb a2 a3.length)<|
 chk (decide (a2.toNat<a3.length))<|
 k ((w64 (a0-(a3.getD a2.toNat 0))),a1,(w64 (a2+1)),a3,a4)
 else
 nX m m (a0,a3,a4)
def sM (m:Nat):Nat->Bh->Option (List Un):=bq (wP m)
theorem uK (m:Nat) (n:Nat):sM m (n+1)=wP m (sM m n):=rfl
def F8 (F:Bh->Option (List Un)):aU:=⟨[.lp [0,1,0,1,1,1,1,1,1,1],.blk 0,.code [1,1,1,1,1,1,1,1]],⟨frm 80 [(7,.buf 0 1),(8,.buf 1 1),(9,.int .i64),(40,.buf 0 1),(41,.int .i64),(42,.int .i64)],[.ints .i64,.ints .u64],0⟩,onU F⟩
theorem VV (m:Nat) (k1:nm->Option (List Un)) (h1:HO Kk (B9 k1)):∀n,HO Kk (Gp (tH m k1 n)):=au ae KG.right (fun k=>[B9 k1,Gp k]) (fun k h=>(aH h1 (aH h aB))) fun k a=>by kernel_rfl
theorem WO (m:Nat):∀n,HO Kk (B9 (nX m n)):=au ae KG.right (fun k=>[Gp (tH m (k) m)]) (fun k h=>(aH (VV m _ h m) aB)) fun k a=>by kernel_rfl
theorem T4 (m:Nat):∀n,HO Kk (F8 (sM m n)):=au ae KG.right (fun k=>[F8 k,B9 (nX m m)]) (fun k h=>(aH h (aH (WO m m) aB))) fun k a=>by kernel_rfl
def t229 (m:Nat):Int × List Int->Option (List Un):=fun(a0,a1)=>
 chk (decide (a1.length<1099511627776))<|
 bif !(mn a1)then
 chk (nB (a1.length:Int) 8)<|
 some ([.l (List.replicate a1.length 0)])
 else
 lt ((if a0<0 then 0 else a0):Int) fun x2=>
 bif decide (x2>=(jA a1))then
 chk (fits (0+a1.length) 8)<|
 some ([.l a1])
 else
 chk (decide (0<=x2/\x2<(jA a1)/\(jA a1)<=1152921504606846976/\a1.length<1099511627776)&&sk a1)<|
 lt ((b8 x2 (jA a1) a1):List Int) fun l3=>
 sM m m (x2,(l3.length:Int),0,l3,(jY x2 (jA a1) a1))
theorem KR (m:Nat) (k1:nm->Option (List Un)) (left:Int) (out lost:List Int) (h1:0<left) (h2:left<4611686018427387904) (hl:out.length=lost.length) (hs:lost.length<1099511627776)
 (hb:∀x∈out,0<=x/\x<4611686018427387904):∀(rest pre:List Int) (b n:Nat),rest.length<n->lost=pre++rest->b<lost.length->
 tH m k1 n (left,(b:Int),(lost.length:Int),(pre.length:Int),out,lost)=
  k1 (left-1,out.set (lQ lost rest pre.length b) (out.getD (lQ lost rest pre.length b) 0+1),lost.set (lQ lost rest pre.length b) 0):=by
 intro rest
 induction rest with
 |nil=>
  intro pre b n hn he hlt;obtain⟨n,rfl⟩:=ak n (by simp at hn;omega);have hp:pre.length=lost.length:=by rw[he];simp
  have hm:=hb _ (lj (l:=out) (i:=b) (by omega));rw[uv];unfold vT;dsimp only;simp only[lQ,zay];simp(disch:=omega) only[TRa,TRi,ab]
 |cons x rest ih=>
  intro pre b n hn he hlt;obtain⟨n,rfl⟩:=ak n (by simp at hn;omega);have hp:lost.length=pre.length+(rest.length+1):=by rw[he];simp
  have hg:lost.getD pre.length 0=x:=by rw[he];simp
  rw[uv];unfold vT;dsimp only;simp only[lQ,zay,hg];have i1:=ih (pre++[x]) pre.length n (by simp at hn;omega) (by rw[he];simp) (by omega);have i2:=ih (pre++[x]) b n (by simp at hn;omega) (by rw[he];simp) hlt;simp only[zab,zac,zar,zaG,zaC,zad]at i1 i2
  by_cases c:x>lost.getD b 0
  . simp(disch:=omega) only[TRa,TRi,ab];exact i1
  . simp(disch:=omega) only[TRa,TRi,ab];exact i2
theorem K0 (m:Nat):∀(k:Nat) (left:Int) (out lost:List Int) (n:Nat),left.toNat=k->k<n->left<4611686018427387904->out.length=lost.length->lost.length<1099511627776->lost.length<m->lost≠[]->(∀x∈out,0<=x/\x+left<4611686018427387904)->
 nX m n (left,out,lost)=some [.l (jg 0 k out lost)]:=by
 intro k
 induction k with
 |zero=>
  intro left out lost n hk hn h2 hl hs hm hne hb;obtain⟨n,rfl⟩:=ak n (by omega);rw[uI];unfold wj;dsimp only;simp only[jg];rw[az (by omega)]
 |succ k ih=>
  intro left out lost n hk hn h2 hl hs hm hne hb;obtain⟨n,rfl⟩:=ak n (by omega);rw[uI];unfold wj;dsimp only;have hB:=mR hne;rw[aQ (by omega)];have:=KR m (nX m n) left out lost (by omega) h2 hl hs (fun x hx=>by have:=hb x hx;omega) lost [] 0 m hm rfl (List.length_pos_iff.2 hne);simp only[zar,Int.natCast_zero]at this;refine this.trans ?_
  have hq:=hb _ (lj (l:=out) (i:=eQ lost) (by omega));rw[show lQ lost lost 0 0=eQ lost from rfl];refine ih _ _ _ _ (by omega) (by omega) (by omega) (by simp[hl]) (by simpa using hs) (by simpa using hm) (by intro h;simp at h;exact hne h) (fun x hx=> ?_);rcases zbT hx with h|h
  . have:=hb x h;omega
  . omega
theorem Zl (m:Nat) (lost:List Int):∀(rest pre:List Int) (left:Int) (n:Nat),rest.length<n->(∀x∈rest,0<=x/\x<=1152921504606846976)-> -1152921504606846976<=left-rest.sum->left<=1152921504606846976->(pre++rest).length<1099511627776->
 sM m n (left,((pre++rest).length:Int),(pre.length:Int),pre++rest,lost)=nX m m (left-rest.sum,pre++rest,lost):=by
 intro rest
 induction rest with
 |nil=>
  intro pre left n hn hb h1 h2 h3;obtain⟨n,rfl⟩:=ak n (by simp at hn;omega);rw[uK];unfold wP;dsimp only;simp[az]
 |cons x rest ih=>
  intro pre left n hn hb h1 h2 h3;obtain⟨n,rfl⟩:=ak n (by simp at hn;omega);simp only[zab,zac]at h3 hn;have hx:=hb x (by simp);have hs:=fE rest (fun y hy=>(hb y (by simp[hy])).1);rw[zbt]at h1⊢;rw[uK];unfold wP;dsimp only;have:=ih (pre++[x]) (left-x) n (by omega) (fun y hy=>hb y (by simp[hy])) (by omega) (by omega) (by simp;omega);rw[show left-(x+rest.sum)=left-x-rest.sum by omega];simp(disch:=omega) only[TRa,TRi,ab,LNl,LNi,zad,bK];simp only[LNl,LNi,zad]at this⊢;exact this
def f229:Int × List Int->Bool × List Un:=fun(a0,a1)=>(decide (a0<=9223372036854775807/\a1.length<1099511627776),[.l (de a0 a1)])
theorem Qr (a0:Int) (a1:List Int) (hc:(decide (a0<=9223372036854775807/\a1.length<1099511627776))=true):∃m,t229 m (a0,a1)=some ([.l (de a0 a1)]):=by
 obtain⟨h1,h2⟩:=zaj hc;clear hc;refine⟨1152921504606846976+a1.length+2, ?_⟩;unfold t229 de;dsimp only;rw[aP h2];cases hok:mn a1 with
 |false=>
  simp only[Bool.not_false,zaw];simp(disch:=omega) only[TRa,TRi,ab]
 |true=>
  simp only[zbf,zal];obtain⟨hb,hs,hs2⟩:=mo hok;simp only[lt_eq];rw[mZ a0 0];generalize hn:max a0 0=a;have ha:0<=a:=by omega
  have hr:sk a1=true:=xN.2 hb
  by_cases hge:a>=jA a1
  . simp only[show decide (a>=jA a1)=true by simpa using hge,zaw];simp(disch:=omega) only[TRa,TRi,ab,zaC]
  . simp only[show decide (a>=jA a1)=false by simpa using hge,zal];obtain⟨f1,f2,f3⟩:=B2 (l:=a1) ha (show a<jA a1 by omega) hb;have hlf:(b8 a (jA a1) a1).length=a1.length:=by simp[b8]
    have hlr:(jY a (jA a1) a1).length=a1.length:=by simp[jY]
    have hne:a1≠[]:=by rintro rfl;simp at hs;omega
    have e1:=Zl (1152921504606846976+a1.length+2) (jY a (jA a1) a1) (b8 a (jA a1) a1) [] a (1152921504606846976+a1.length+2) (by omega) f1 (by omega) (by omega) (by simp;omega);have e2:=K0 (1152921504606846976+a1.length+2) _ (a-(b8 a (jA a1) a1).sum) (b8 a (jA a1) a1) (jY a (jA a1) a1) (1152921504606846976+a1.length+2) rfl (by omega) (by omega) (by omega) (by omega) (by omega)
     (by intro h;have:=congrArg List.length h;rw[hlr]at this;exact hne (zaH this)) (fun x hx=>by have:=f1 x hx;omega)
    rw[hr,zbh];simp(disch:=omega) only[aP];exact e1.trans e2
theorem Mx:ER 229 (mkE Kk.en Kk.ex f229):=an ae KG.right (fun m=>[F8 (sM m m)]) (t:=t229) (by kernel_rfl) (fun m=>(aH (T4 m m) aB)) (fun m a=>by kernel_rfl) fun(a0,a1) hc=>Qr a0 a1 hc
def MY:Tb Tryz.prog LQ TE XX:=KG.add 229 _ Mx
@[ext] structure bu where
 aA:Int
 fee:Int
 ca:Int
 ar:Int
 room:Int
instance : Uns bu := Uns.via (B := Int × Int × Int × Int × Int) (fun x => (x.aA, x.fee, x.ca, x.ar, x.room)) (fun x => match x with | (aA, fee, ca, ar, room) => ⟨aA, fee, ca, ar, room⟩) (fun _ => rfl)
def isN:Dat->Bool
 | .n _=>true
 | .r _=>false
def nH (k:Nat):Dat->Bool
 | .r l=>l.length==k&&l.all isN
 | .n _=>false
theorem Gh:∀{d:Dat},isN d=true->d= .n d.int
 | .n _,_=>rfl
 | .r _,h=>by cases h
theorem FH {d:Dat} (h:nH 3 d=true):d= .r [.n (d.i 0),.n (d.i 1),.n (d.i 2)]:=by
 match d,h with
 | .r [a,b,c],h=>
  simp[nH]at h;obtain⟨h1,h2,h3⟩:=h;show Dat.r [a,b,c]= .r [.n a.int,.n b.int,.n c.int];rw[<-Gh h1,<-Gh h2,<-Gh h3]
 | .r [],h=>simp[nH]at h
 | .r [a],h=>simp[nH]at h
 | .r [a,b],h=>simp[nH]at h
 | .r (a::b::c::d::l),h=>simp[nH]at h
def me (d:Dat):Bool:=nH 3 d&&decide (0<=d.i 1/\d.i 1<=1125899906842624/\0<=d.i 2/\d.i 2<=1125899906842624)
theorem cW {d:Dat} (h:me d=true):nH 3 d=true/\0<=d.i 1/\d.i 1<=1125899906842624/\0<=d.i 2/\d.i 2<=1125899906842624:=by
 simp only[me,zae,zaf]at h;exact h
def aV (c:List Dat):Bool:=decide (c.length<=1000)&&c.all me
theorem cv {c:List Dat} (h:aV c=true):c.length<=1000/\∀d∈c,me d=true:=by
 simp only[aV,zae,zaf,zao]at h;exact h
theorem yS {c:List Dat} (h1:c.length<=1000) (h2:∀d∈c,me d=true):aV c=true:=by
 simp only[aV,zae,zaf,zao];exact⟨h1,h2⟩
def cH (j:Nat) (x:Int) (d:Dat):Dat:=if j=1 then .r [.n (d.i 0),.n (d.i 1-x),.n (d.i 2)]else .r [.n (d.i 0),.n (d.i 1),.n (d.i 2-x)]
def bX (j:Nat):List Int->List Dat->List Dat
 |x::xs,d::c=>cH j x d::bX j xs c
 |_,_=>[]
def bR (at_ kind:Int):Int->List Int->List Dat
 |_,[]=>[]
 |i,x::xs=>(if 0<x then[.r [.n at_,.n kind,.n i,.n x]]else[])++bR at_ kind (i+1) xs
def lZ (at_ kind n:Int):List Dat:=if 0<n then[.r [.n at_,.n kind,.n (-1),.n n]]else[]
def aw (sel:Dat->Bool) (j:Nat) (n:Int) (c:List Dat):List Int:=de n (c.map fun d=>bif sel d then d.i j else 0)
def aL (r:Int) (d:Dat):Bool:=d.i 0==r
def bG (at_ kind:Int):Nat->Int->Int->List Dat->List Dat × List Dat × Int
 |0,_,_,c=>(c,[],0)
 |k+1,r,n,c=>
  ((bG at_ kind k (r+1) (n-(aw (aL r) 1 n c).sum) (bX 1 (aw (aL r) 1 n c) c)).1,
   bR at_ kind 0 (aw (aL r) 1 n c)++(bG at_ kind k (r+1) (n-(aw (aL r) 1 n c).sum) (bX 1 (aw (aL r) 1 n c) c)).2.1,
   (aw (aL r) 1 n c).sum+(bG at_ kind k (r+1) (n-(aw (aL r) 1 n c).sum) (bX 1 (aw (aL r) 1 n c) c)).2.2)
def dU (at_ kind rank:Int) (x:bu) (c:List Dat):bu × List Dat × List Dat:=
 if kind=1 then({x with aA:=x.aA-min x.fee x.aA,fee:=x.fee-min x.fee x.aA},c,lZ at_ kind (min x.fee x.aA))
 else if kind=2 then({x with aA:=x.aA-min x.ca x.aA,ca:=x.ca-min x.ca x.aA},c,lZ at_ kind (min x.ca x.aA))
 else if kind=6 then({x with aA:=x.aA-min x.room x.aA,room:=x.room-min x.room x.aA},c,lZ at_ kind (min x.room x.aA))
 else if kind=3 then({x with aA:=x.aA-(aw (aL rank) 2 x.aA c).sum},bX 2 (aw (aL rank) 2 x.aA c) c,bR at_ kind 0 (aw (aL rank) 2 x.aA c))
 else if kind=4 then({x with aA:=x.aA-(bG at_ kind 8 0 (min x.ar x.aA) c).2.2,ar:=x.ar-(bG at_ kind 8 0 (min x.ar x.aA) c).2.2},(bG at_ kind 8 0 (min x.ar x.aA) c).1,(bG at_ kind 8 0 (min x.ar x.aA) c).2.1)
 else if kind=5 then({x with aA:=x.aA-(aw (fun _=>true) 1 (min x.ar x.aA) c).sum,ar:=x.ar-(aw (fun _=>true) 1 (min x.ar x.aA) c).sum},bX 1 (aw (fun _=>true) 1 (min x.ar x.aA) c) c,bR at_ kind 0 (aw (fun _=>true) 1 (min x.ar x.aA) c))
 else if kind=7 then({x with aA:=x.aA-(bG at_ kind 8 0 x.aA c).2.2},(bG at_ kind 8 0 x.aA c).1,(bG at_ kind 8 0 x.aA c).2.1)
 else(x,c,[])
def eD:Int->List Dat->bu->List Dat->bu × List Dat × List Dat
 |_,[],x,c=>(x,c,[])
 |at_,s::l,x,c=>((eD (at_+1) l (dU at_ (s.i 0) (s.i 1) x c).1 (dU at_ (s.i 0) (s.i 1) x c).2.1).1,(eD (at_+1) l (dU at_ (s.i 0) (s.i 1) x c).1 (dU at_ (s.i 0) (s.i 1) x c).2.1).2.1,(dU at_ (s.i 0) (s.i 1) x c).2.2++(eD (at_+1) l (dU at_ (s.i 0) (s.i 1) x c).1 (dU at_ (s.i 0) (s.i 1) x c).2.1).2.2)
def ot (x:bu):Bool:=decide ((0<=x.aA/\x.aA<=1152921504606846976)/\(0<=x.fee/\x.fee<=1152921504606846976)/\(0<=x.ca/\x.ca<=1152921504606846976)/\(0<=x.ar/\x.ar<=1152921504606846976)/\(0<=x.room/\x.room<=1152921504606846976))
theorem wJ {x:bu} (h:ot x=true):(0<=x.aA/\x.aA<=1152921504606846976)/\(0<=x.fee/\x.fee<=1152921504606846976)/\(0<=x.ca/\x.ca<=1152921504606846976)/\(0<=x.ar/\x.ar<=1152921504606846976)/\(0<=x.room/\x.room<=1152921504606846976):=zaj h
def Ie (sel:Dat->Bool) (j:Nat) (c:List Dat):Int:=(c.map fun d=>bif sel d then d.i j else 0).sum
theorem oY {c:List Dat} (sel:Dat->Bool) {j:Nat} (hj:j=1\/j=2) (h:aV c=true):(∀x∈(c.map fun d=>bif sel d then d.i j else 0),0<=x/\x<=1125899906842624)/\mn (c.map fun d=>bif sel d then d.i j else 0)=true/\0<=Ie sel j c/\Ie sel j c<=1125899906842624*c.length:=by
 obtain⟨h1,h2⟩:=cv h;have hb:∀x∈(c.map fun d=>bif sel d then d.i j else 0),0<=x/\x<=1125899906842624:=by
  intro x hx;obtain⟨d,hd,rfl⟩:=zbo.1 hx;have:=cW (h2 d hd);cases sel d
  . simp only[zal];omega
  . rcases hj with rfl|rfl<;>simp only[zaw]<;>omega
 have hl:(c.map fun d=>bif sel d then d.i j else 0).length=c.length:=by simp
 have hm:((c.map fun d=>bif sel d then d.i j else 0).length:Int)*1125899906842624<=1152921504606846976:=by rw[hl];omega
 have hs:=sY _ 1125899906842624 (by decide) hb;rw[hl]at hs;exact⟨hb,(vM (by decide) hb hm).2,hs.1,by unfold Ie;omega⟩
theorem EN {n:Int} {l:List Int} (h:n<=0):de n l=de 0 l:=by
 unfold de;rw[show max n 0=max 0 0 by omega]
theorem dG {c:List Dat} (sel:Dat->Bool) {j:Nat} (hj:j=1\/j=2) (n:Int) (h:aV c=true):(aw sel j n c).length=c.length/\(aw sel j n c).sum=min (max n 0) (Ie sel j c)/\∀i,i<c.length->0<=(aw sel j n c).getD i 0/\(aw sel j n c).getD i 0<=bif sel (ag c i)then(ag c i).i j else 0:=by
 obtain⟨hb,ho,hw0,hw1⟩:=oY sel hj h;have e:aw sel j n c=de (max n 0) (c.map fun d=>bif sel d then d.i j else 0):=by
  by_cases hn:0<=n
  . rw[show max n 0=n by omega];rfl
  . rw[show max n 0=0 by omega];exact EN (by omega)
 rw[e];obtain⟨h1,h2⟩:=DL (a:=max n 0) (by omega) ho;refine⟨by rw[xU];simp,h1,fun i hi=> ?_⟩;have:=h2 i (by simpa using hi)
 rwa [show(c.map fun d=>bif sel d then d.i j else 0).getD i 0=bif sel (ag c i)then(ag c i).i j else 0 by simp[zag,hi,ag]]at this
theorem oI (j:Nat):∀(xs:List Int) (c:List Dat),xs.length=c.length->(bX j xs c).length=c.length
 |[],[],_=>rfl
 |x::xs,d::c,h=>by simp[bX,oI j xs c (by simpa using h)]
 |[],_::_,h=>by simp at h
 |_::_,[],h=>by simp at h
theorem nV (j:Nat):∀(xs:List Int) (c:List Dat) (i:Nat),xs.length=c.length->i<c.length->ag (bX j xs c) i=cH j (xs.getD i 0) (ag c i)
 |[],[],i,_,h=>by simp at h
 |x::xs,d::c,0,_,_=>rfl
 |x::xs,d::c,i+1,h,hi=>nV j xs c i (by simpa using h) (by simpa using hi)
 |[],_::_,_,h,_=>by simp at h
 |_::_,[],_,h,_=>by simp at h
theorem lu {l:List Dat} {d:Dat} (h:d∈l):∃i,i<l.length/\ag l i=d:=by
 obtain⟨i,hi,rfl⟩:=List.getElem_of_mem h;exact⟨i,hi,gm hi⟩
theorem lH {l:List Dat} {i:Nat} (h:i<l.length):ag l i∈l:=by rw[gm h];exact zbD h
theorem Dz {d:Dat} {j:Nat} {x:Int} (hj:j=1\/j=2) (h:me d=true) (h0:0<=x) (h1:x<=d.i j):me (cH j x d)=true:=by
 have:=cW h;rcases hj with rfl|rfl
 . simp only[cH,zbd,me,zae,zaf,fP,j8];exact⟨rfl,by omega⟩
 . simp only[cH,show ¬(2:Nat)=1 by decide,zbn,me,zae,zaf,fP,j8];exact⟨rfl,by omega⟩
theorem pC {c:List Dat} (sel:Dat->Bool) {j:Nat} (hj:j=1\/j=2) (n:Int) (h:aV c=true):aV (bX j (aw sel j n c) c)=true/\(bX j (aw sel j n c) c).length=c.length:=by
 obtain⟨l1,l2,l3⟩:=dG sel hj n h;obtain⟨h1,h2⟩:=cv h;have hl:=oI j _ c l1;refine⟨yS (by omega) fun d hd=> ?_,hl⟩;obtain⟨i,hi,rfl⟩:=lu hd;rw[hl]at hi;rw[nV j _ c i l1 hi];have:=l3 i hi;have hg:=h2 _ (lH hi);refine Dz hj hg this.1 ?_
 have h4:=cW hg;cases hs:sel (ag c i)<;>rw[hs]at this
 . rcases hj with rfl|rfl<;>simp only[zal]at this<;>omega
 . exact this.2
theorem jz (a k:Int):∀(xs:List Int) (i:Int),(bR a k i xs).length<=xs.length
 |[],i=>by simp[bR]
 |x::xs,i=>by
  have:=jz a k xs (i+1);simp only[bR,zab,zac]
  split<;>simp<;>omega
theorem yT (a k n:Int):(lZ a k n).length<=1:=by unfold lZ;split<;>simp
theorem yg (a kd:Int):∀(k:Nat) (r n:Int) (c:List Dat),aV c=true->aV (bG a kd k r n c).1=true/\(bG a kd k r n c).1.length=c.length/\(bG a kd k r n c).2.1.length<=k*c.length/\0<=(bG a kd k r n c).2.2/\(bG a kd k r n c).2.2<=max n 0
 |0,r,n,c,h=>⟨h,rfl,by simp[bG],by simp[bG],by simp only[bG];omega⟩
 |k+1,r,n,c,h=>by
  obtain⟨g1,g2⟩:=pC (aL r) (j:=1) (.inl rfl) n h;obtain⟨l1,l2,l3⟩:=dG (aL r) (j:=1) (.inl rfl) n h;obtain⟨_,_,w0,w1⟩:=oY (aL r) (j:=1) (.inl rfl) h;obtain⟨i1,i2,i3,i4,i5⟩:=yg a kd k (r+1) (n-(aw (aL r) 1 n c).sum) _ g1;have hp:=jz a kd (aw (aL r) 1 n c) 0;simp only[bG];refine⟨i1,by omega, ?_,by omega,by omega⟩;rw[zab,za0];rw[g2]at i3;omega
theorem rV (a kd rk:Int) {x:bu} {c:List Dat} (hx:ot x=true) (h:aV c=true):ot (dU a kd rk x c).1=true/\aV (dU a kd rk x c).2.1=true/\(dU a kd rk x c).2.1.length=c.length/\(dU a kd rk x c).2.2.length<=8000:=by
 have hx':=wJ hx;have hc:=(cv h).1;have p1:=yT a kd;have s2:=fun sel j hj n=>dG (c:=c) sel (j:=j) hj n h
 have w2:=fun sel j hj=>(oY (c:=c) sel (j:=j) hj h).2.2
 have g2:=fun sel j hj n=>pC (c:=c) sel (j:=j) hj n h
 have r2:=fun n=>yg a kd 8 0 n c h
 unfold dU
 by_cases k1:kd=1
 . rw[if_pos k1];exact⟨zaa (by simp only;omega),h,rfl,by have:=p1 (min x.fee x.aA);simp only;omega⟩
 rw[if_neg k1]
 by_cases k1:kd=2
 . rw[if_pos k1];exact⟨zaa (by simp only;omega),h,rfl,by have:=p1 (min x.ca x.aA);simp only;omega⟩
 rw[if_neg k1]
 by_cases k1:kd=6
 . rw[if_pos k1];exact⟨zaa (by simp only;omega),h,rfl,by have:=p1 (min x.room x.aA);simp only;omega⟩
 rw[if_neg k1]
 by_cases k1:kd=3
 . rw[if_pos k1];have q1:=s2 (aL rk) 2 (.inr rfl) x.aA;have q2:=w2 (aL rk) 2 (.inr rfl);have q3:=g2 (aL rk) 2 (.inr rfl) x.aA;have q4:=jz a kd (aw (aL rk) 2 x.aA c) 0;exact⟨zaa (by simp only;omega),q3.1,q3.2,by simp only;omega⟩
 rw[if_neg k1]
 by_cases k1:kd=4
 . rw[if_pos k1];have q:=r2 (min x.ar x.aA);generalize bG a kd 8 0 (min x.ar x.aA) c=y at*
   exact⟨zaa (by simp only;omega),q.1,q.2.1,by simp only;omega⟩
 rw[if_neg k1]
 by_cases k1:kd=5
 . rw[if_pos k1];have q1:=s2 (fun _=>true) 1 (.inl rfl) (min x.ar x.aA);have q2:=w2 (fun _=>true) 1 (.inl rfl);have q3:=g2 (fun _=>true) 1 (.inl rfl) (min x.ar x.aA);have q4:=jz a kd (aw (fun _=>true) 1 (min x.ar x.aA) c) 0;exact⟨zaa (by simp only;omega),q3.1,q3.2,by simp only;omega⟩
 rw[if_neg k1]
 by_cases k1:kd=7
 . rw[if_pos k1];have q:=r2 x.aA;generalize bG a kd 8 0 x.aA c=y at*
   exact⟨zaa (by simp only;omega),q.1,q.2.1,by simp only;omega⟩
 rw[if_neg k1];exact⟨hx,h,rfl,by simp⟩
theorem Jm:∀(l:List Dat) (a:Int) (x:bu) (c:List Dat),ot x=true->aV c=true->ot (eD a l x c).1=true/\aV (eD a l x c).2.1=true/\(eD a l x c).2.1.length=c.length/\(eD a l x c).2.2.length<=8000*l.length
 |[],a,x,c,hx,h=>⟨hx,h,rfl,by simp[eD]⟩
 |s::l,a,x,c,hx,h=>by
  obtain⟨h1,h2,h3,h4⟩:=rV a (s.i 0) (s.i 1) hx h;obtain⟨i1,i2,i3,i4⟩:=Jm l (a+1) _ _ h1 h2;simp only[eD,zab,zac];exact⟨i1,i2,by omega,by omega⟩
def je (sel:Dat->Bool):Int->List Dat->List Int
 |_,[]=>[]
 |i,d::c=>bif sel d then i::je sel (i+1) c else je sel (i+1) c
def eG (sel:Dat->Bool) (j:Nat):List Dat->List Int
 |[]=>[]
 |d::c=>bif sel d then d.i j::eG sel j c else eG sel j c
def ml (j:Nat):List Int->List Int->List Dat->List Dat
 |w::ws,x::xs,c=>ml j ws xs (c.set w.toNat (cH j x (ag c w.toNat)))
 |_,_,c=>c
def vI (at_ kind:Int):List Int->List Int->List Dat
 |w::ws,x::xs=>(if 0<x then[.r [.n at_,.n kind,.n w,.n x]]else[])++vI at_ kind ws xs
 |_,_=>[]
theorem Jz {j:Nat} {d:Dat} (h:nH 3 d=true):cH j 0 d=d:=by
 have e:=FH h;unfold cH;rw[zbs,zbs,<-e]
 split<;>rfl
theorem pH (sel:Dat->Bool) (j:Nat):∀(rest pre:List Dat) (xs:List Int),xs.length=bZ (rest.map sel)->(∀d∈rest,nH 3 d=true)->
 ml j (je sel pre.length rest) xs (pre++rest)=pre++bX j (bY (rest.map sel) xs) rest
 |[],pre,xs,h,_=>by rw[zaH h];simp[je,ml,bX,bY]
 |d::rest,pre,xs,h,hr=>by
  have ih:=fun xs h y=>pH sel j rest (pre++[y]) xs h (fun z hz=>hr z (by simp[hz]))
  simp only[zab,zac,zar,zaq,zaI,zat,zaG,zad,zaC]at ih;simp only[zaS]at h;cases hs:sel d
  . rw[hs]at h;simp only[je,hs,zal,zaS,bY,bX];rw[Jz (hr d (by simp)),<-ih xs h d]
  . rw[hs]at h;cases xs with
    |nil=>simp[bZ]at h
    |cons x xs=>
     simp only[je,hs,zaw,zaS,bY,bX,ml,zay,Ca,aD,List.headD_cons,List.tail_cons];exact ih xs (by simpa[bZ]using h) _
theorem qS (a k:Int) (sel:Dat->Bool):∀(rest:List Dat) (i:Int) (xs:List Int),xs.length=bZ (rest.map sel)->vI a k (je sel i rest) xs=bR a k i (bY (rest.map sel) xs)
 |[],i,xs,h=>by rw[zaH h];rfl
 |d::rest,i,xs,h=>by
  have ih:=fun xs h=>qS a k sel rest (i+1) xs h
  simp only[zaS]at h;cases hs:sel d
  . rw[hs]at h;simp only[je,hs,zal,zaS,bY,bR];rw[ih xs h];rfl
  . rw[hs]at h;cases xs with
    |nil=>simp[bZ]at h
    |cons x xs=>
     simp only[je,hs,zaw,zaS,bY,bR,vI,List.headD_cons,List.tail_cons];rw[ih xs (by simpa[bZ]using h)]
theorem Af (sel:Dat->Bool) (j:Nat):∀c:List Dat,(c.map fun d=>bif sel d then d.i j else 0)=bY (c.map sel) (eG sel j c)
 |[]=>rfl
 |d::c=>by
  have:=Af sel j c;simp only[zaS,eG];cases hs:sel d<;>simp[bY,this]
theorem zo (sel:Dat->Bool) (j:Nat):∀c:List Dat,(eG sel j c).length=bZ (c.map sel)
 |[]=>rfl
 |d::c=>by
  have:=zo sel j c;cases hs:sel d<;>simp[eG,hs,bZ,this]
theorem ri (sel:Dat->Bool):∀(c:List Dat) (i:Int),(je sel i c).length=bZ (c.map sel)
 |[],_=>rfl
 |d::c,i=>by
  have:=ri sel c (i+1);cases hs:sel d<;>simp[je,hs,bZ,this]
theorem mN:∀ms:List Bool,bZ ms<=ms.length
 |[]=>zam _
 |false::ms=>by have:=mN ms;simp[bZ];omega
 |true::ms=>by have:=mN ms;simp[bZ];omega
theorem rI (sel:Dat->Bool):∀(c:List Dat) (i:Int),∀w∈je sel i c,i<=w/\w<i+c.length
 |[],i,w,h=>by simp[je]at h
 |d::c,i,w,h=>by
  have ih:=rI sel c (i+1) w;simp only[zac,zaG];cases hs:sel d<;>simp only[je,hs,zal,zaw,zaT]at h
  . have:=ih h;omega
  . rcases h with h|h
    . omega
    . have:=ih h;omega
theorem rn (sel:Dat->Bool) (j:Nat):∀c:List Dat,∀x∈eG sel j c,∃d∈c,x=d.i j
 |[],x,h=>by simp[eG]at h
 |d::c,x,h=>by
  cases hs:sel d<;>simp only[eG,hs,zal,zaw,zaT]at h
  . obtain⟨e,h1,h2⟩:=rn sel j c x h;exact⟨e,by simp[h1],h2⟩
  . rcases h with h|h
    . exact⟨d,by simp,h⟩
    . obtain⟨e,h1,h2⟩:=rn sel j c x h;exact⟨e,by simp[h1],h2⟩
theorem lG (sel:Dat->Bool) {j:Nat} (hj:j=1\/j=2) (n:Int) {c:List Dat} (h:aV c=true):aw sel j n c=bY (c.map sel) (de n (eG sel j c)):=by
 obtain⟨h1,h2⟩:=cv h;unfold aw;rw[Af];refine JY (c.map sel) n (eG sel j c) (zo sel j c) 1125899906842624 (by decide) (fun x hx=> ?_) (by simp;omega);obtain⟨d,hd,rfl⟩:=rn sel j c x hx;have:=cW (h2 d hd);rcases hj with rfl|rfl<;>omega
theorem yZ (sel:Dat->Bool) {j:Nat} (hj:j=1\/j=2) (n:Int) {c:List Dat} (h:aV c=true):(de n (eG sel j c)).length=bZ (c.map sel)/\(∀x∈de n (eG sel j c),0<=x/\x<=1125899906842624)/\0<=(de n (eG sel j c)).sum/\(de n (eG sel j c)).sum<=1125899906842624000/\(de n (eG sel j c)).sum=(aw sel j n c).sum:=by
 obtain⟨h1,h2⟩:=cv h;have hb:∀x∈eG sel j c,0<=x/\x<=1125899906842624:=fun x hx=>by
  obtain⟨d,hd,rfl⟩:=rn sel j c x hx;have:=cW (h2 d hd);rcases hj with rfl|rfl<;>omega
 have hl:=zo sel j c;have ht:=mN (c.map sel);rw[zaW]at ht;have hok:=(vM (l:=eG sel j c) (b:=1125899906842624) (by decide) hb (by omega)).2;have e:de n (eG sel j c)=de (max n 0) (eG sel j c):=by
  by_cases hn:0<=n
  . rw[show max n 0=n by omega]
  . rw[show max n 0=0 by omega];exact EN (by omega)
 obtain⟨p1,p2⟩:=DL (a:=max n 0) (by omega) hok;have hm:∀x∈de n (eG sel j c),0<=x/\x<=1125899906842624:=by
  intro x hx;obtain⟨i,hi,rfl⟩:=rl hx;rw[xU]at hi;rw[e];have:=p2 i hi;have:=hb _ (lj hi);omega
 have hlen:(de n (eG sel j c)).length=bZ (c.map sel):=by rw[xU,hl]
 have hs:=sY _ _ (by decide) hm;rw[hlen]at hs;refine⟨hlen,hm,hs.1,by omega, ?_⟩;rw[lG sel hj n h,oB _ _ hlen]
def Re:aC:=⟨MY.tab,206,⟨[.ptr 0 0 0,.int .i64,.fn 230 [] [.ptr 3 0 0],.fn 208 [] []],[.cells [.int .i64,.int .i64,.int .i64,.int .i64,.int .i64,.buf 1 3,.int .i64,.int .i64,.buf 2 4],.af (sI 3),.af (sI 4),.cells [.int .i64]],0⟩,⟨[.int .i64],[.cells [.int .i64,.int .i64,.int .i64,.int .i64,.int .i64,.buf 1 3,.int .i64,.int .i64,.buf 4 4],.af (sI 3),.gone,.gone,.af (sI 4)],0⟩,[]⟩
abbrev CO:Type:=Int × Int × Int × bu × Int × Int × List Dat × List Int × List Int × List Dat
abbrev Br:Type:=Int × Int × Int × bu × Int × Int × List Dat × Int × List Int × List Int × List Dat
def wH (m:Nat) (k:CO->Option (List Un)):CO->Option (List Un):=fun(a0,a1,a2,a3,a4,a5,a6,a7,a8,a9)=>
 bif decide (a2<a1)then
 chk (inb a2 a8.length)<|
 chk (decide (a2.toNat<a8.length))<|
 chk (inb a2 a7.length)<|
 chk (decide (a2.toNat<a7.length))<|
 chk (inb (a7.getD a2.toNat 0) a6.length)<|
 chk (decide ((a7.getD a2.toNat 0).toNat<a6.length))<|
 chk (decide ((a7.getD a2.toNat 0).toNat<a6.length))<|
 lt (ag a6 ((a7.getD a2.toNat 0).toNat):Dat) fun d4=>
 lt ((List.set a6 ((a7.getD a2.toNat 0).toNat) (.r [.n (d4.i 0),.n (d4.i 1),.n (w64 (((ag a6 ((a7.getD a2.toNat 0).toNat)).i 2)-(a8.getD a2.toNat 0)))])):List Dat) fun l5=>
 lt ((w64 (a0+(a8.getD a2.toNat 0))):Int) fun x6=>
 chk (inb a2 a7.length)<|
 chk (decide (a2.toNat<a7.length))<|
 bif (decide ((a8.getD a2.toNat 0)>0))then
 chk (fits (a9.length+1) 32)<|
 k (x6,a1,(w64 (a2+1)),a3,a4,a5,l5,a7,a8,(a9++([.r [.n a4,.n a5,.n (a7.getD a2.toNat 0),.n (a8.getD a2.toNat 0)]])))
 else
 k (x6,a1,(w64 (a2+1)),a3,a4,a5,l5,a7,a8,a9)
 else
 some ([.i a0]++Uns.enc (({a3 with aA:=(w64 (a3.aA-a0))}:bu):bu)++[.i a4,.i a5,.d a6,.d a9])
def qb (m:Nat):Nat->CO->Option (List Un):=bq (wH m)
theorem uu (m:Nat) (n:Nat):qb m (n+1)=wH m (qb m n):=rfl
def Gs (F:CO->Option (List Un)):aU:=⟨[.lp [0,1,0,1,1,1,1],.blk 2,.code [1,1,1,1,1]],⟨frm 88 [(0,.ptr 0 0 0),(3,.fn 208 [] []),(9,.buf 4 1),(13,.int .i64),(44,.buf 5 1),(45,.int .i64),(46,.int .i64)],[.cells [.int .i64,.int .i64,.int .i64,.int .i64,.int .i64,.buf 1 3,.int .i64,.int .i64,.buf 6 4],.af (sI 3),.gone,.gone,.ints .i64,.ints .i64,.af (sI 4)],0⟩,onU F⟩
def wz (m:Nat) (k:Br->Option (List Un)):Br->Option (List Un):=fun(a0,a1,a2,a3,a4,a5,a6,a7,a8,a9,a10)=>
 bif decide (a2<a1)then
 chk (inb a2 a6.length)<|
 chk (decide (a2.toNat<a6.length))<|
 lt (ag a6 a2.toNat:Dat) fun d1=>
 bif (d1.i 0)==a7 then
 chk (fits (a8.length+1) 8)<|
 chk (fits (a9.length+1) 8)<|
 k (a0,a1,(w64 (a2+1)),a3,a4,a5,a6,a7,(a8++([a2])),(a9++([(d1.i 2)])),a10)
 else
 k (a0,a1,(w64 (a2+1)),a3,a4,a5,a6,a7,a8,a9,a10)
 else
 chk (decide (a0<=9223372036854775807/\a9.length<1099511627776))<|
 qb m m (0,((de a0 a9).length:Int),0,a3,a4,a5,a6,a8,(de a0 a9),a10)
def tP (m:Nat):Nat->Br->Option (List Un):=bq (wz m)
theorem uR (m:Nat) (n:Nat):tP m (n+1)=wz m (tP m n):=rfl
def GJ (F:Br->Option (List Un)):aU:=⟨[.lp [0,1,0,1,1],.blk 0,.code [1,1,1]],⟨frm 88 [(0,.ptr 0 0 0),(1,.int .i64),(2,.fn 230 [] [.ptr 4 0 0]),(3,.fn 208 [] []),(9,.buf 5 1),(10,.buf 6 1),(20,.buf 1 3),(21,.int .i64),(22,.int .i64)],[.cells [.int .i64,.int .i64,.int .i64,.int .i64,.int .i64,.buf 1 3,.int .i64,.int .i64,.buf 7 4],.af (sI 3),.gone,.gone,.cells [.int .i64],.ints .i64,.ints .i64,.af (sI 4)],0⟩,onU F⟩
theorem UH (m:Nat):∀n,HO Re (Gs (qb m n)):=au ae MY.right (fun k=>[Gs k]) (fun k h=>(aH h aB)) fun k a=>by kernel_rfl
theorem TI (m:Nat):∀n,HO Re (GJ (tP m n)):=au ae MY.right (fun k=>[GJ k,Gs (qb m m)]) (fun k h=>(aH h (aH (UH m m) aB))) fun k a=>by kernel_rfl
def We (m:Nat):Int × bu × Int × Int × List Dat × List Dat × Int->Option (List Un):=fun(a0,a1,a2,a3,a4,a5,a6)=>
 tP m m (a0,(a4.length:Int),0,a1,a2,a3,a4,a6,[],[],a5)
theorem O3 (m:Nat) (nn:Int) (hnn:nn<=9223372036854775807) (y:bu) (q kd:Int) (rk:Int) (out:List Dat):∀(rest pre:List Dat) (n:Nat) (who what:List Int),rest.length<n->(pre++rest).length<=1000->who.length<=pre.length->what.length<=pre.length->
 tP m n (nn,((pre++rest).length:Int),(pre.length:Int),y,q,kd,pre++rest,rk,who,what,out)=
  qb m m (0,((de nn (what++eG (aL rk) 2 rest)).length:Int),0,y,q,kd,pre++rest,who++je (aL rk) pre.length rest,de nn (what++eG (aL rk) 2 rest),out):=by
 intro rest
 induction rest with
 |nil=>
  intro pre n who what hn hl h1 h2;obtain⟨n,rfl⟩:=ak n (by simp at hn;omega);rw[uR];unfold wz;dsimp only;simp only[zaK,je,eG]at hl⊢;rw[az (by omega),aP ⟨hnn,by omega⟩]
 |cons x rest ih=>
  intro pre n who what hn hl h1 h2;obtain⟨n,rfl⟩:=ak n (by simp at hn;omega);simp only[zab,zac]at hl hn;rw[uR];unfold wz;dsimp only;simp only[lt_eq]
  by_cases hs:x.i 0=rk
  . have:=ih (pre++[x]) n (who++[(pre.length:Int)]) (what++[x.i 2]) (by omega) (by simp;omega) (by simp;omega) (by simp;omega);simp only[je,eG,aL,mw hs,zaw]at this⊢;simp(disch:=omega) only[TRa,TRi,ab,LNl,LNi,zad,aD,bK];simp only[LNl,LNi,zad]at this⊢;exact this
  . have:=ih (pre++[x]) n who what (by omega) (by simp;omega) (by simp;omega) (by simp;omega);simp only[je,eG,aL,jh hs,zal]at this⊢;simp(disch:=omega) only[TRa,TRi,ab,LNl,LNi,zad,aD,bK];simp only[LNl,LNi,zad]at this⊢;exact this
theorem SP (m:Nat) (y:bu) (hy:0<=y.aA/\y.aA<=1152921504606846976) (q kd:Int):∀(rest done ws wd:List Int) (c out:List Dat) (n:Nat) (paid:Int),rest.length<n->ws.length=rest.length->wd.length=done.length->(done++rest).length<=1000->(∀w∈ws,0<=w/\w<c.length)->(∀x∈rest,0<=x/\x<=1152921504606846976)->0<=paid->paid+rest.sum<=1152921504606846976->(∀i,i<c.length-> -paid<=(ag c i).i 2/\(ag c i).i 2<=1152921504606846976)->c.length<=1000->out.length+rest.length<=137438953472->
 qb m n (paid,((done++rest).length:Int),(done.length:Int),y,q,kd,c,wd++ws,done++rest,out)=
  some ([.i (paid+rest.sum)]++Uns.enc (({y with aA:=y.aA-(paid+rest.sum)}:bu):bu)++[.i q,.i kd,.d (ml 2 ws rest c),.d (out++vI q kd ws rest)]):=by
 intro rest
 induction rest with
 |nil=>
  intro done ws wd c out n paid hn e1 e2 hl hw hx p0 p1 hc cl ol;obtain⟨n,rfl⟩:=ak n (by simp at hn;omega);obtain rfl:=zaH e1;rw[uu];unfold wH;dsimp only;simp only[zaK,ml,vI,List.sum_nil,zbQ]at p1⊢;rw[az (by omega),ab (by omega) (by omega)]
 |cons x rest ih=>
  intro done ws wd c out n paid hn e1 e2 hl hw hx p0 p1 hc cl ol;obtain⟨n,rfl⟩:=ak n (by simp at hn;omega);cases ws with
  |nil=>simp at e1
  |cons w ws=>
  simp only[zab,zac,zbt]at hl hn e1 p1 ol;have hx0:=hx x (by simp);have hw0:=hw w (by simp);have hs0:=fE rest (fun z hz=>(hx z (by simp[hz])).1);obtain⟨v,rfl⟩:∃v:Nat,w=(v:Int):=⟨w.toNat,by omega⟩
  have hr:=hc v (by omega);have gw:(wd++(v:Int)::ws).getD done.length 0=v:=by rw[<-e2];exact bK _ _ _ _
  have hset:∀i,i<(c.set v (cH 2 x (ag c v))).length-> -(paid+x)<=(ag (c.set v (cH 2 x (ag c v))) i).i 2/\(ag (c.set v (cH 2 x (ag c v))) i).i 2<=1152921504606846976:=by
   intro i hi;rw[zbk]at hi
   by_cases e:i=v
   . subst e;have e3:ag (c.set i (cH 2 x (ag c i))) i=cH 2 x (ag c i):=by simp[ag,hi]
     rw[e3];simp only[cH,show ¬(2:Nat)=1 by decide,zbn,j8];omega
   . have e3:ag (c.set v (cH 2 x (ag c v))) i=ag c i:=by simp[ag,zbm,zcd e]
     rw[e3];have:=hc i hi;omega
  have:=ih (done++[x]) ws (wd++[(v:Int)]) (c.set v (cH 2 x (ag c v))) (out++if 0<x then[.r [.n q,.n kd,.n v,.n x]]else[]) n (paid+x) (by omega) (by omega) (by simp[e2]) (by simp;omega) (fun z hz=>by have:=hw z (by simp[hz]);simpa using this) (fun z hz=>hx z (by simp[hz])) (by omega) (by omega) hset (by simpa using cl) (by split<;>simp<;>omega);simp only[ml,vI,zbt,zay];rw[show paid+(x+rest.sum)=paid+x+rest.sum by omega];rw[<-zaq,<-this];rw[uu];unfold wH;dsimp only;have ec:done++[x]++rest=done++x::rest:=by simp
  have ew:wd++[(v:Int)]++ws=wd++(v:Int)::ws:=by simp
  rw[ec,ew];have e5:(cH 2 x (ag c v))=Dat.r [.n ((ag c v).i 0),.n ((ag c v).i 1),.n ((ag c v).i 2-x)]:=by simp only[cH,show ¬(2:Nat)=1 by decide,zbn]
  rw[e5];simp only[lt_eq,zay,gw,bK,zab,zac,zar,zaC,zaG,zad]
  by_cases h0:0<x
  . rw[if_pos h0];simp(disch:=omega) only[TRa,TRi,ab,zaG]
  . rw[if_neg h0];simp(disch:=omega) only[TRa,TRi,ab,zaG,zaK]
def aaf:Int × bu × Int × Int × List Dat × List Dat × Int->Bool × List Un:=fun(a0,a1,a2,a3,a4,a5,a6)=>(decide (a0<=9223372036854775807/\0<=a1.aA/\a1.aA<=1152921504606846976/\a5.length<=68719476736)&&aV a4,[.i ((aw (aL a6) 2 a0 a4).sum)]++Uns.enc (({a1 with aA:=a1.aA-(aw (aL a6) 2 a0 a4).sum}):bu)++[.i (a2),.i (a3),.d (bX 2 (aw (aL a6) 2 a0 a4) a4),.d (a5++bR a2 a3 0 (aw (aL a6) 2 a0 a4))])
theorem Qn (a0:Int) (a1:bu) (a2:Int) (a3:Int) (a4:List Dat) (a5:List Dat) (a6:Int) (hc:(decide (a0<=9223372036854775807/\0<=a1.aA/\a1.aA<=1152921504606846976/\a5.length<=68719476736)&&aV a4)=true):∃m,We m (a0,a1,a2,a3,a4,a5,a6)=some ([.i ((aw (aL a6) 2 a0 a4).sum)]++Uns.enc (({a1 with aA:=a1.aA-(aw (aL a6) 2 a0 a4).sum}):bu)++[.i (a2),.i (a3),.d (bX 2 (aw (aL a6) 2 a0 a4) a4),.d (a5++bR a2 a3 0 (aw (aL a6) 2 a0 a4))]):=by
 simp only[zae,zaf]at hc;obtain⟨⟨h1,h2,h3,h4⟩,h5⟩:=hc;obtain⟨c1,c2⟩:=cv h5;obtain⟨p1,p2,p3,p4,p5⟩:=yZ (aL a6) (j:=2) (.inr rfl) a0 h5;refine⟨2000, ?_⟩;unfold We;refine(O3 2000 a0 h1 a1 a2 a3 a6 a5 a4 [] 2000 [] [] (by omega) (by simpa using c1) (by simp) (by simp)).trans ?_
 simp only[zat,zar];have ht:=mN (a4.map (aL a6));rw[zaW]at ht;have e:=SP 2000 a1 ⟨h2,h3⟩ a2 a3 (de a0 (eG (aL a6) 2 a4)) [] (je (aL a6) 0 a4) [] a4 a5 2000 0 (by omega) (by rw[p1,ri]) rfl (by simp;omega) (fun w hw=>by have:=rI _ _ _ w hw;omega) (fun x hx=>by have:=p2 x hx;omega) (by omega) (by omega) (fun i hi=>by have:=cW (c2 _ (lH hi));omega) c1 (by omega);refine e.trans ?_
 have g1:=pH (aL a6) 2 a4 [] (de a0 (eG (aL a6) 2 a4)) p1 (fun d hd=>(cW (c2 d hd)).1);have g2:=qS a2 a3 (aL a6) a4 0 (de a0 (eG (aL a6) 2 a4)) p1;simp only[zat,zar,zad]at g1 g2;rw[g1,g2,za3,p5,lG (aL a6) (j:=2) (.inr rfl) a0 h5]
theorem MW:ER 206 (mkE Re.en Re.ex aaf):=an ae MY.right (fun m=>[GJ (tP m m)]) (t:=We) (by kernel_rfl) (fun m=>(aH (TI m m) aB)) (fun m a=>by kernel_rfl) fun(a0,a1,a2,a3,a4,a5,a6) hc=>Qn a0 a1 a2 a3 a4 a5 a6 hc
def MF:Tb Tryz.prog LQ TE XX:=MY.add 206 _ MW
def So:aC:=⟨MF.tab,206,⟨[.ptr 0 0 0,.int .i64,.fn 230 [] [.ptr 3 0 0],.fn 211 [] []],[.cells [.int .i64,.int .i64,.int .i64,.int .i64,.int .i64,.buf 1 3,.int .i64,.int .i64,.buf 2 4],.af (sI 3),.af (sI 4),.cells [.int .i64]],0⟩,⟨[.int .i64],[.cells [.int .i64,.int .i64,.int .i64,.int .i64,.int .i64,.buf 1 3,.int .i64,.int .i64,.buf 4 4],.af (sI 3),.gone,.gone,.af (sI 4)],0⟩,[]⟩
abbrev BT:Type:=Int × Int × Int × bu × Int × Int × List Dat × List Int × List Int × List Dat
abbrev BD:Type:=Int × Int × Int × bu × Int × Int × List Dat × Int × List Int × List Int × List Dat
def wm (m:Nat) (k:BT->Option (List Un)):BT->Option (List Un):=fun(a0,a1,a2,a3,a4,a5,a6,a7,a8,a9)=>
 bif decide (a2<a1)then
 chk (inb a2 a8.length)<|
 chk (decide (a2.toNat<a8.length))<|
 chk (inb a2 a7.length)<|
 chk (decide (a2.toNat<a7.length))<|
 chk (inb (a7.getD a2.toNat 0) a6.length)<|
 chk (decide ((a7.getD a2.toNat 0).toNat<a6.length))<|
 chk (decide ((a7.getD a2.toNat 0).toNat<a6.length))<|
 lt (ag a6 ((a7.getD a2.toNat 0).toNat):Dat) fun d4=>
 lt ((List.set a6 ((a7.getD a2.toNat 0).toNat) (.r [.n (d4.i 0),.n (w64 (((ag a6 ((a7.getD a2.toNat 0).toNat)).i 1)-(a8.getD a2.toNat 0))),.n (d4.i 2)])):List Dat) fun l5=>
 lt ((w64 (a0+(a8.getD a2.toNat 0))):Int) fun x6=>
 chk (inb a2 a7.length)<|
 chk (decide (a2.toNat<a7.length))<|
 bif (decide ((a8.getD a2.toNat 0)>0))then
 chk (fits (a9.length+1) 32)<|
 k (x6,a1,(w64 (a2+1)),a3,a4,a5,l5,a7,a8,(a9++([.r [.n a4,.n a5,.n (a7.getD a2.toNat 0),.n (a8.getD a2.toNat 0)]])))
 else
 k (x6,a1,(w64 (a2+1)),a3,a4,a5,l5,a7,a8,a9)
 else
 some ([.i a0]++Uns.enc (({a3 with aA:=(w64 (a3.aA-a0))}:bu):bu)++[.i a4,.i a5,.d a6,.d a9])
def qc (m:Nat):Nat->BT->Option (List Un):=bq (wm m)
theorem ve (m:Nat) (n:Nat):qc m (n+1)=wm m (qc m n):=rfl
def Hv (F:BT->Option (List Un)):aU:=⟨[.lp [0,1,0,1,1,1,1],.blk 2,.code [1,1,1,1,1]],⟨frm 88 [(0,.ptr 0 0 0),(3,.fn 211 [] []),(9,.buf 4 1),(13,.int .i64),(44,.buf 5 1),(45,.int .i64),(46,.int .i64)],[.cells [.int .i64,.int .i64,.int .i64,.int .i64,.int .i64,.buf 1 3,.int .i64,.int .i64,.buf 6 4],.af (sI 3),.gone,.gone,.ints .i64,.ints .i64,.af (sI 4)],0⟩,onU F⟩
def wc (m:Nat) (k:BD->Option (List Un)):BD->Option (List Un):=fun(a0,a1,a2,a3,a4,a5,a6,a7,a8,a9,a10)=>
 bif decide (a2<a1)then
 chk (inb a2 a6.length)<|
 chk (decide (a2.toNat<a6.length))<|
 lt (ag a6 a2.toNat:Dat) fun d1=>
 bif (d1.i 0)==a7 then
 chk (fits (a8.length+1) 8)<|
 chk (fits (a9.length+1) 8)<|
 k (a0,a1,(w64 (a2+1)),a3,a4,a5,a6,a7,(a8++([a2])),(a9++([(d1.i 1)])),a10)
 else
 k (a0,a1,(w64 (a2+1)),a3,a4,a5,a6,a7,a8,a9,a10)
 else
 chk (decide (a0<=9223372036854775807/\a9.length<1099511627776))<|
 qc m m (0,((de a0 a9).length:Int),0,a3,a4,a5,a6,a8,(de a0 a9),a10)
def tG (m:Nat):Nat->BD->Option (List Un):=bq (wc m)
theorem ub (m:Nat) (n:Nat):tG m (n+1)=wc m (tG m n):=rfl
def Ga (F:BD->Option (List Un)):aU:=⟨[.lp [0,1,0,1,1],.blk 0,.code [1,1,1]],⟨frm 88 [(0,.ptr 0 0 0),(1,.int .i64),(2,.fn 230 [] [.ptr 4 0 0]),(3,.fn 211 [] []),(9,.buf 5 1),(10,.buf 6 1),(20,.buf 1 3),(21,.int .i64),(22,.int .i64)],[.cells [.int .i64,.int .i64,.int .i64,.int .i64,.int .i64,.buf 1 3,.int .i64,.int .i64,.buf 7 4],.af (sI 3),.gone,.gone,.cells [.int .i64],.ints .i64,.ints .i64,.af (sI 4)],0⟩,onU F⟩
theorem U4 (m:Nat):∀n,HO So (Hv (qc m n)):=au ae MF.right (fun k=>[Hv k]) (fun k h=>(aH h aB)) fun k a=>by kernel_rfl
theorem Tm (m:Nat):∀n,HO So (Ga (tG m n)):=au ae MF.right (fun k=>[Ga k,Hv (qc m m)]) (fun k h=>(aH h (aH (U4 m m) aB))) fun k a=>by kernel_rfl
def Ti (m:Nat):Int × bu × Int × Int × List Dat × List Dat × Int->Option (List Un):=fun(a0,a1,a2,a3,a4,a5,a6)=>
 tG m m (a0,(a4.length:Int),0,a1,a2,a3,a4,a6,[],[],a5)
theorem Sp (m:Nat) (nn:Int) (hnn:nn<=9223372036854775807) (y:bu) (q kd:Int) (rk:Int) (out:List Dat):∀(rest pre:List Dat) (n:Nat) (who what:List Int),rest.length<n->(pre++rest).length<=1000->who.length<=pre.length->what.length<=pre.length->
 tG m n (nn,((pre++rest).length:Int),(pre.length:Int),y,q,kd,pre++rest,rk,who,what,out)=
  qc m m (0,((de nn (what++eG (aL rk) 1 rest)).length:Int),0,y,q,kd,pre++rest,who++je (aL rk) pre.length rest,de nn (what++eG (aL rk) 1 rest),out):=by
 intro rest
 induction rest with
 |nil=>
  intro pre n who what hn hl h1 h2;obtain⟨n,rfl⟩:=ak n (by simp at hn;omega);rw[ub];unfold wc;dsimp only;simp only[zaK,je,eG]at hl⊢;rw[az (by omega),aP ⟨hnn,by omega⟩]
 |cons x rest ih=>
  intro pre n who what hn hl h1 h2;obtain⟨n,rfl⟩:=ak n (by simp at hn;omega);simp only[zab,zac]at hl hn;rw[ub];unfold wc;dsimp only;simp only[lt_eq]
  by_cases hs:x.i 0=rk
  . have:=ih (pre++[x]) n (who++[(pre.length:Int)]) (what++[x.i 1]) (by omega) (by simp;omega) (by simp;omega) (by simp;omega);simp only[je,eG,aL,mw hs,zaw]at this⊢;simp(disch:=omega) only[TRa,TRi,ab,LNl,LNi,zad,aD,bK];simp only[LNl,LNi,zad]at this⊢;exact this
  . have:=ih (pre++[x]) n who what (by omega) (by simp;omega) (by simp;omega) (by simp;omega);simp only[je,eG,aL,jh hs,zal]at this⊢;simp(disch:=omega) only[TRa,TRi,ab,LNl,LNi,zad,aD,bK];simp only[LNl,LNi,zad]at this⊢;exact this
theorem Ql (m:Nat) (y:bu) (hy:0<=y.aA/\y.aA<=1152921504606846976) (q kd:Int):∀(rest done ws wd:List Int) (c out:List Dat) (n:Nat) (paid:Int),rest.length<n->ws.length=rest.length->wd.length=done.length->(done++rest).length<=1000->(∀w∈ws,0<=w/\w<c.length)->(∀x∈rest,0<=x/\x<=1152921504606846976)->0<=paid->paid+rest.sum<=1152921504606846976->(∀i,i<c.length-> -paid<=(ag c i).i 1/\(ag c i).i 1<=1152921504606846976)->c.length<=1000->out.length+rest.length<=137438953472->
 qc m n (paid,((done++rest).length:Int),(done.length:Int),y,q,kd,c,wd++ws,done++rest,out)=
  some ([.i (paid+rest.sum)]++Uns.enc (({y with aA:=y.aA-(paid+rest.sum)}:bu):bu)++[.i q,.i kd,.d (ml 1 ws rest c),.d (out++vI q kd ws rest)]):=by
 intro rest
 induction rest with
 |nil=>
  intro done ws wd c out n paid hn e1 e2 hl hw hx p0 p1 hc cl ol;obtain⟨n,rfl⟩:=ak n (by simp at hn;omega);obtain rfl:=zaH e1;rw[ve];unfold wm;dsimp only;simp only[zaK,ml,vI,List.sum_nil,zbQ]at p1⊢;rw[az (by omega),ab (by omega) (by omega)]
 |cons x rest ih=>
  intro done ws wd c out n paid hn e1 e2 hl hw hx p0 p1 hc cl ol;obtain⟨n,rfl⟩:=ak n (by simp at hn;omega);cases ws with
  |nil=>simp at e1
  |cons w ws=>
  simp only[zab,zac,zbt]at hl hn e1 p1 ol;have hx0:=hx x (by simp);have hw0:=hw w (by simp);have hs0:=fE rest (fun z hz=>(hx z (by simp[hz])).1);obtain⟨v,rfl⟩:∃v:Nat,w=(v:Int):=⟨w.toNat,by omega⟩
  have hr:=hc v (by omega);have gw:(wd++(v:Int)::ws).getD done.length 0=v:=by rw[<-e2];exact bK _ _ _ _
  have hset:∀i,i<(c.set v (cH 1 x (ag c v))).length-> -(paid+x)<=(ag (c.set v (cH 1 x (ag c v))) i).i 1/\(ag (c.set v (cH 1 x (ag c v))) i).i 1<=1152921504606846976:=by
   intro i hi;rw[zbk]at hi
   by_cases e:i=v
   . subst e;have e3:ag (c.set i (cH 1 x (ag c i))) i=cH 1 x (ag c i):=by simp[ag,hi]
     rw[e3];simp only[cH,zbd,fP];omega
   . have e3:ag (c.set v (cH 1 x (ag c v))) i=ag c i:=by simp[ag,zbm,zcd e]
     rw[e3];have:=hc i hi;omega
  have:=ih (done++[x]) ws (wd++[(v:Int)]) (c.set v (cH 1 x (ag c v))) (out++if 0<x then[.r [.n q,.n kd,.n v,.n x]]else[]) n (paid+x) (by omega) (by omega) (by simp[e2]) (by simp;omega) (fun z hz=>by have:=hw z (by simp[hz]);simpa using this) (fun z hz=>hx z (by simp[hz])) (by omega) (by omega) hset (by simpa using cl) (by split<;>simp<;>omega);simp only[ml,vI,zbt,zay];rw[show paid+(x+rest.sum)=paid+x+rest.sum by omega];rw[<-zaq,<-this];rw[ve];unfold wm;dsimp only;have ec:done++[x]++rest=done++x::rest:=by simp
  have ew:wd++[(v:Int)]++ws=wd++(v:Int)::ws:=by simp
  rw[ec,ew];have e5:(cH 1 x (ag c v))=Dat.r [.n ((ag c v).i 0),.n ((ag c v).i 1-x),.n ((ag c v).i 2)]:=by simp only[cH,zbd]
  rw[e5];simp only[lt_eq,zay,gw,bK,zab,zac,zar,zaC,zaG,zad]
  by_cases h0:0<x
  . rw[if_pos h0];simp(disch:=omega) only[TRa,TRi,ab,zaG]
  . rw[if_neg h0];simp(disch:=omega) only[TRa,TRi,ab,zaG,zaK]
def aag:Int × bu × Int × Int × List Dat × List Dat × Int->Bool × List Un:=fun(a0,a1,a2,a3,a4,a5,a6)=>(decide (a0<=9223372036854775807/\0<=a1.aA/\a1.aA<=1152921504606846976/\a5.length<=68719476736)&&aV a4,[.i ((aw (aL a6) 1 a0 a4).sum)]++Uns.enc (({a1 with aA:=a1.aA-(aw (aL a6) 1 a0 a4).sum}):bu)++[.i (a2),.i (a3),.d (bX 1 (aw (aL a6) 1 a0 a4) a4),.d (a5++bR a2 a3 0 (aw (aL a6) 1 a0 a4))])
theorem P4 (a0:Int) (a1:bu) (a2:Int) (a3:Int) (a4:List Dat) (a5:List Dat) (a6:Int) (hc:(decide (a0<=9223372036854775807/\0<=a1.aA/\a1.aA<=1152921504606846976/\a5.length<=68719476736)&&aV a4)=true):∃m,Ti m (a0,a1,a2,a3,a4,a5,a6)=some ([.i ((aw (aL a6) 1 a0 a4).sum)]++Uns.enc (({a1 with aA:=a1.aA-(aw (aL a6) 1 a0 a4).sum}):bu)++[.i (a2),.i (a3),.d (bX 1 (aw (aL a6) 1 a0 a4) a4),.d (a5++bR a2 a3 0 (aw (aL a6) 1 a0 a4))]):=by
 simp only[zae,zaf]at hc;obtain⟨⟨h1,h2,h3,h4⟩,h5⟩:=hc;obtain⟨c1,c2⟩:=cv h5;obtain⟨p1,p2,p3,p4,p5⟩:=yZ (aL a6) (j:=1) (.inl rfl) a0 h5;refine⟨2000, ?_⟩;unfold Ti;refine(Sp 2000 a0 h1 a1 a2 a3 a6 a5 a4 [] 2000 [] [] (by omega) (by simpa using c1) (by simp) (by simp)).trans ?_
 simp only[zat,zar];have ht:=mN (a4.map (aL a6));rw[zaW]at ht;have e:=Ql 2000 a1 ⟨h2,h3⟩ a2 a3 (de a0 (eG (aL a6) 1 a4)) [] (je (aL a6) 0 a4) [] a4 a5 2000 0 (by omega) (by rw[p1,ri]) rfl (by simp;omega) (fun w hw=>by have:=rI _ _ _ w hw;omega) (fun x hx=>by have:=p2 x hx;omega) (by omega) (by omega) (fun i hi=>by have:=cW (c2 _ (lH hi));omega) c1 (by omega);refine e.trans ?_
 have g1:=pH (aL a6) 1 a4 [] (de a0 (eG (aL a6) 1 a4)) p1 (fun d hd=>(cW (c2 d hd)).1);have g2:=qS a2 a3 (aL a6) a4 0 (de a0 (eG (aL a6) 1 a4)) p1;simp only[zat,zar,zad]at g1 g2;rw[g1,g2,za3,p5,lG (aL a6) (j:=1) (.inl rfl) a0 h5]
theorem OJ:ER 206 (mkE So.en So.ex aag):=an ae MF.right (fun m=>[Ga (tG m m)]) (t:=Ti) (by kernel_rfl) (fun m=>(aH (Tm m m) aB)) (fun m a=>by kernel_rfl) fun(a0,a1,a2,a3,a4,a5,a6) hc=>P4 a0 a1 a2 a3 a4 a5 a6 hc
def N0:Tb Tryz.prog LQ TE XX:=MF.add 206 _ OJ
def QT:aC:=⟨N0.tab,206,⟨[.ptr 0 0 0,.int .i64,.fn 210 [] [],.fn 211 [] []],[.cells [.int .i64,.int .i64,.int .i64,.int .i64,.int .i64,.buf 1 3,.int .i64,.int .i64,.buf 2 4],.af (sI 3),.af (sI 4)],0⟩,⟨[.int .i64],[.cells [.int .i64,.int .i64,.int .i64,.int .i64,.int .i64,.buf 1 3,.int .i64,.int .i64,.buf 3 4],.af (sI 3),.gone,.af (sI 4)],0⟩,[]⟩
abbrev Bx:Type:=Int × Int × Int × bu × Int × Int × List Dat × List Int × List Int × List Dat
abbrev Cd:Type:=Int × Int × Int × bu × Int × Int × List Dat × List Int × List Int × List Dat
def wX (m:Nat) (k:Bx->Option (List Un)):Bx->Option (List Un):=fun(a0,a1,a2,a3,a4,a5,a6,a7,a8,a9)=>
 bif decide (a2<a1)then
 chk (inb a2 a8.length)<|
 chk (decide (a2.toNat<a8.length))<|
 chk (inb a2 a7.length)<|
 chk (decide (a2.toNat<a7.length))<|
 chk (inb (a7.getD a2.toNat 0) a6.length)<|
 chk (decide ((a7.getD a2.toNat 0).toNat<a6.length))<|
 chk (decide ((a7.getD a2.toNat 0).toNat<a6.length))<|
 lt (ag a6 ((a7.getD a2.toNat 0).toNat):Dat) fun d4=>
 lt ((List.set a6 ((a7.getD a2.toNat 0).toNat) (.r [.n (d4.i 0),.n (w64 (((ag a6 ((a7.getD a2.toNat 0).toNat)).i 1)-(a8.getD a2.toNat 0))),.n (d4.i 2)])):List Dat) fun l5=>
 lt ((w64 (a0+(a8.getD a2.toNat 0))):Int) fun x6=>
 chk (inb a2 a7.length)<|
 chk (decide (a2.toNat<a7.length))<|
 bif (decide ((a8.getD a2.toNat 0)>0))then
 chk (fits (a9.length+1) 32)<|
 k (x6,a1,(w64 (a2+1)),a3,a4,a5,l5,a7,a8,(a9++([.r [.n a4,.n a5,.n (a7.getD a2.toNat 0),.n (a8.getD a2.toNat 0)]])))
 else
 k (x6,a1,(w64 (a2+1)),a3,a4,a5,l5,a7,a8,a9)
 else
 some ([.i a0]++Uns.enc (({a3 with aA:=(w64 (a3.aA-a0))}:bu):bu)++[.i a4,.i a5,.d a6,.d a9])
def qJ (m:Nat):Nat->Bx->Option (List Un):=bq (wX m)
theorem uA (m:Nat) (n:Nat):qJ m (n+1)=wX m (qJ m n):=rfl
def F1 (F:Bx->Option (List Un)):aU:=⟨[.lp [0,1,0,1,1,1,1],.blk 2,.code [1,1,1,1,1]],⟨frm 88 [(0,.ptr 0 0 0),(3,.fn 211 [] []),(9,.buf 3 1),(13,.int .i64),(44,.buf 4 1),(45,.int .i64),(46,.int .i64)],[.cells [.int .i64,.int .i64,.int .i64,.int .i64,.int .i64,.buf 1 3,.int .i64,.int .i64,.buf 5 4],.af (sI 3),.gone,.ints .i64,.ints .i64,.af (sI 4)],0⟩,onU F⟩
def wG (m:Nat) (k:Cd->Option (List Un)):Cd->Option (List Un):=fun(a0,a1,a2,a3,a4,a5,a6,a7,a8,a9)=>
 bif decide (a2<a1)then
 chk (inb a2 a6.length)<|
 chk (decide (a2.toNat<a6.length))<|
 chk (fits (a7.length+1) 8)<|
 chk (fits (a8.length+1) 8)<|
 k (a0,a1,(w64 (a2+1)),a3,a4,a5,a6,(a7++([a2])),(a8++([((ag a6 a2.toNat).i 1)])),a9)
 else
 chk (decide (a0<=9223372036854775807/\a8.length<1099511627776))<|
 qJ m m (0,((de a0 a8).length:Int),0,a3,a4,a5,a6,a7,(de a0 a8),a9)
def sn (m:Nat):Nat->Cd->Option (List Un):=bq (wG m)
theorem uT (m:Nat) (n:Nat):sn m (n+1)=wG m (sn m n):=rfl
def FI (F:Cd->Option (List Un)):aU:=⟨[.lp [0,1,0,1,1],.blk 0,.code [1,1,1]],⟨frm 88 [(0,.ptr 0 0 0),(1,.int .i64),(2,.fn 210 [] []),(3,.fn 211 [] []),(9,.buf 3 1),(10,.buf 4 1),(20,.buf 1 3),(21,.int .i64),(22,.int .i64)],[.cells [.int .i64,.int .i64,.int .i64,.int .i64,.int .i64,.buf 1 3,.int .i64,.int .i64,.buf 5 4],.af (sI 3),.gone,.ints .i64,.ints .i64,.af (sI 4)],0⟩,onU F⟩
theorem VS (m:Nat):∀n,HO QT (F1 (qJ m n)):=au ae N0.right (fun k=>[F1 k]) (fun k h=>(aH h aB)) fun k a=>by kernel_rfl
theorem WM (m:Nat):∀n,HO QT (FI (sn m n)):=au ae N0.right (fun k=>[FI k,F1 (qJ m m)]) (fun k h=>(aH h (aH (VS m m) aB))) fun k a=>by kernel_rfl
def V5 (m:Nat):Int × bu × Int × Int × List Dat × List Dat->Option (List Un):=fun(a0,a1,a2,a3,a4,a5)=>
 sn m m (a0,(a4.length:Int),0,a1,a2,a3,a4,[],[],a5)
theorem RS (m:Nat) (nn:Int) (hnn:nn<=9223372036854775807) (y:bu) (q kd:Int) (out:List Dat):∀(rest pre:List Dat) (n:Nat) (who what:List Int),rest.length<n->(pre++rest).length<=1000->who.length<=pre.length->what.length<=pre.length->
 sn m n (nn,((pre++rest).length:Int),(pre.length:Int),y,q,kd,pre++rest,who,what,out)=
  qJ m m (0,((de nn (what++eG (fun _=>true) 1 rest)).length:Int),0,y,q,kd,pre++rest,who++je (fun _=>true) pre.length rest,de nn (what++eG (fun _=>true) 1 rest),out):=by
 intro rest
 induction rest with
 |nil=>
  intro pre n who what hn hl h1 h2;obtain⟨n,rfl⟩:=ak n (by simp at hn;omega);rw[uT];unfold wG;dsimp only;simp only[zaK,je,eG]at hl⊢;rw[az (by omega),aP ⟨hnn,by omega⟩]
 |cons x rest ih=>
  intro pre n who what hn hl h1 h2;obtain⟨n,rfl⟩:=ak n (by simp at hn;omega);simp only[zab,zac]at hl hn;rw[uT];unfold wG;dsimp only;have:=ih (pre++[x]) n (who++[(pre.length:Int)]) (what++[x.i 1]) (by omega) (by simp;omega) (by simp;omega) (by simp;omega);simp only[je,eG,zaw]at this⊢;simp(disch:=omega) only[TRa,TRi,ab,LNl,LNi,zad,aD,bK];simp only[LNl,LNi,zad]at this⊢;exact this
theorem SG (m:Nat) (y:bu) (hy:0<=y.aA/\y.aA<=1152921504606846976) (q kd:Int):∀(rest done ws wd:List Int) (c out:List Dat) (n:Nat) (paid:Int),rest.length<n->ws.length=rest.length->wd.length=done.length->(done++rest).length<=1000->(∀w∈ws,0<=w/\w<c.length)->(∀x∈rest,0<=x/\x<=1152921504606846976)->0<=paid->paid+rest.sum<=1152921504606846976->(∀i,i<c.length-> -paid<=(ag c i).i 1/\(ag c i).i 1<=1152921504606846976)->c.length<=1000->out.length+rest.length<=137438953472->
 qJ m n (paid,((done++rest).length:Int),(done.length:Int),y,q,kd,c,wd++ws,done++rest,out)=
  some ([.i (paid+rest.sum)]++Uns.enc (({y with aA:=y.aA-(paid+rest.sum)}:bu):bu)++[.i q,.i kd,.d (ml 1 ws rest c),.d (out++vI q kd ws rest)]):=by
 intro rest
 induction rest with
 |nil=>
  intro done ws wd c out n paid hn e1 e2 hl hw hx p0 p1 hc cl ol;obtain⟨n,rfl⟩:=ak n (by simp at hn;omega);obtain rfl:=zaH e1;rw[uA];unfold wX;dsimp only;simp only[zaK,ml,vI,List.sum_nil,zbQ]at p1⊢;rw[az (by omega),ab (by omega) (by omega)]
 |cons x rest ih=>
  intro done ws wd c out n paid hn e1 e2 hl hw hx p0 p1 hc cl ol;obtain⟨n,rfl⟩:=ak n (by simp at hn;omega);cases ws with
  |nil=>simp at e1
  |cons w ws=>
  simp only[zab,zac,zbt]at hl hn e1 p1 ol;have hx0:=hx x (by simp);have hw0:=hw w (by simp);have hs0:=fE rest (fun z hz=>(hx z (by simp[hz])).1);obtain⟨v,rfl⟩:∃v:Nat,w=(v:Int):=⟨w.toNat,by omega⟩
  have hr:=hc v (by omega);have gw:(wd++(v:Int)::ws).getD done.length 0=v:=by rw[<-e2];exact bK _ _ _ _
  have hset:∀i,i<(c.set v (cH 1 x (ag c v))).length-> -(paid+x)<=(ag (c.set v (cH 1 x (ag c v))) i).i 1/\(ag (c.set v (cH 1 x (ag c v))) i).i 1<=1152921504606846976:=by
   intro i hi;rw[zbk]at hi
   by_cases e:i=v
   . subst e;have e3:ag (c.set i (cH 1 x (ag c i))) i=cH 1 x (ag c i):=by simp[ag,hi]
     rw[e3];simp only[cH,zbd,fP];omega
   . have e3:ag (c.set v (cH 1 x (ag c v))) i=ag c i:=by simp[ag,zbm,zcd e]
     rw[e3];have:=hc i hi;omega
  have:=ih (done++[x]) ws (wd++[(v:Int)]) (c.set v (cH 1 x (ag c v))) (out++if 0<x then[.r [.n q,.n kd,.n v,.n x]]else[]) n (paid+x) (by omega) (by omega) (by simp[e2]) (by simp;omega) (fun z hz=>by have:=hw z (by simp[hz]);simpa using this) (fun z hz=>hx z (by simp[hz])) (by omega) (by omega) hset (by simpa using cl) (by split<;>simp<;>omega);simp only[ml,vI,zbt,zay];rw[show paid+(x+rest.sum)=paid+x+rest.sum by omega];rw[<-zaq,<-this];rw[uA];unfold wX;dsimp only;have ec:done++[x]++rest=done++x::rest:=by simp
  have ew:wd++[(v:Int)]++ws=wd++(v:Int)::ws:=by simp
  rw[ec,ew];have e5:(cH 1 x (ag c v))=Dat.r [.n ((ag c v).i 0),.n ((ag c v).i 1-x),.n ((ag c v).i 2)]:=by simp only[cH,zbd]
  rw[e5];simp only[lt_eq,zay,gw,bK,zab,zac,zar,zaC,zaG,zad]
  by_cases h0:0<x
  . rw[if_pos h0];simp(disch:=omega) only[TRa,TRi,ab,zaG]
  . rw[if_neg h0];simp(disch:=omega) only[TRa,TRi,ab,zaG,zaK]
def Z6:Int × bu × Int × Int × List Dat × List Dat->Bool × List Un:=fun(a0,a1,a2,a3,a4,a5)=>(decide (a0<=9223372036854775807/\0<=a1.aA/\a1.aA<=1152921504606846976/\a5.length<=68719476736)&&aV a4,[.i ((aw (fun _=>true) 1 a0 a4).sum)]++Uns.enc (({a1 with aA:=a1.aA-(aw (fun _=>true) 1 a0 a4).sum}):bu)++[.i (a2),.i (a3),.d (bX 1 (aw (fun _=>true) 1 a0 a4) a4),.d (a5++bR a2 a3 0 (aw (fun _=>true) 1 a0 a4))])
theorem QO (a0:Int) (a1:bu) (a2:Int) (a3:Int) (a4:List Dat) (a5:List Dat) (hc:(decide (a0<=9223372036854775807/\0<=a1.aA/\a1.aA<=1152921504606846976/\a5.length<=68719476736)&&aV a4)=true):∃m,V5 m (a0,a1,a2,a3,a4,a5)=some ([.i ((aw (fun _=>true) 1 a0 a4).sum)]++Uns.enc (({a1 with aA:=a1.aA-(aw (fun _=>true) 1 a0 a4).sum}):bu)++[.i (a2),.i (a3),.d (bX 1 (aw (fun _=>true) 1 a0 a4) a4),.d (a5++bR a2 a3 0 (aw (fun _=>true) 1 a0 a4))]):=by
 simp only[zae,zaf]at hc;obtain⟨⟨h1,h2,h3,h4⟩,h5⟩:=hc;obtain⟨c1,c2⟩:=cv h5;obtain⟨p1,p2,p3,p4,p5⟩:=yZ (fun _=>true) (j:=1) (.inl rfl) a0 h5;refine⟨2000, ?_⟩;unfold V5;refine(RS 2000 a0 h1 a1 a2 a3 a5 a4 [] 2000 [] [] (by omega) (by simpa using c1) (by simp) (by simp)).trans ?_
 simp only[zat,zar];have ht:=mN (a4.map (fun _=>true));rw[zaW]at ht;have e:=SG 2000 a1 ⟨h2,h3⟩ a2 a3 (de a0 (eG (fun _=>true) 1 a4)) [] (je (fun _=>true) 0 a4) [] a4 a5 2000 0 (by omega) (by rw[p1,ri]) rfl (by simp;omega) (fun w hw=>by have:=rI _ _ _ w hw;omega) (fun x hx=>by have:=p2 x hx;omega) (by omega) (by omega) (fun i hi=>by have:=cW (c2 _ (lH hi));omega) c1 (by omega);refine e.trans ?_
 have g1:=pH (fun _=>true) 1 a4 [] (de a0 (eG (fun _=>true) 1 a4)) p1 (fun d hd=>(cW (c2 d hd)).1);have g2:=qS a2 a3 (fun _=>true) a4 0 (de a0 (eG (fun _=>true) 1 a4)) p1;simp only[zat,zar,zad]at g1 g2;rw[g1,g2,za3,p5,lG (fun _=>true) (j:=1) (.inl rfl) a0 h5]
theorem OE:ER 206 (mkE QT.en QT.ex Z6):=an ae N0.right (fun m=>[FI (sn m m)]) (t:=V5) (by kernel_rfl) (fun m=>(aH (WM m m) aB)) (fun m a=>by kernel_rfl) fun(a0,a1,a2,a3,a4,a5) hc=>QO a0 a1 a2 a3 a4 a5 hc
def Ph:Tb Tryz.prog LQ TE XX:=N0.add 206 _ OE
def V2:aC:=⟨Ph.tab,209,⟨[.ptr 0 0 0,.int .i64],[.cells [.int .i64,.int .i64,.int .i64,.int .i64,.int .i64,.buf 1 3,.int .i64,.int .i64,.buf 2 4],.af (sI 3),.af (sI 4)],0⟩,⟨[.int .i64],[.cells [.int .i64,.int .i64,.int .i64,.int .i64,.int .i64,.buf 1 3,.int .i64,.int .i64,.buf 3 4],.af (sI 3),.gone,.af (sI 4)],0⟩,[]⟩
abbrev Dp:Type:=Int × Int × Int × bu × Int × Int × List Dat × List Dat
def wg (m:Nat) (k:Dp->Option (List Un)):Dp->Option (List Un):=fun(a0,a1,a2,a3,a4,a5,a6,a7)=>
 bif decide (a2<8)then
 chk (decide ((w64 (a0-a1))<=9223372036854775807/\0<=a3.aA/\a3.aA<=1152921504606846976/\a7.length<=68719476736)&&aV a6)<|
 k (a0,(w64 (a1+((aw (aL a2) 1 (w64 (a0-a1)) a6).sum))),(w64 (a2+1)),({a3 with aA:=a3.aA-(aw (aL a2) 1 (w64 (a0-a1)) a6).sum}),a4,a5,(bX 1 (aw (aL a2) 1 (w64 (a0-a1)) a6) a6),(a7++bR a4 a5 0 (aw (aL a2) 1 (w64 (a0-a1)) a6)))
 else
 some ([.i a1]++Uns.enc (a3:bu)++[.i a4,.i a5,.d a6,.d a7])
def sE (m:Nat):Nat->Dp->Option (List Un):=bq (wg m)
theorem uE (m:Nat) (n:Nat):sE m (n+1)=wg m (sE m n):=rfl
def G4 (F:Dp->Option (List Un)):aU:=⟨[.lp [0,1,0,1,1],.blk 0,.code [1,1,1]],⟨frm 21 [(0,.ptr 0 0 0),(1,.int .i64),(5,.int .i64),(7,.int .i64)],[.cells [.int .i64,.int .i64,.int .i64,.int .i64,.int .i64,.buf 1 3,.int .i64,.int .i64,.buf 3 4],.af (sI 3),.gone,.af (sI 4)],0⟩,onU F⟩
theorem US (m:Nat):∀n,HO V2 (G4 (sE m n)):=au ae Ph.right (fun k=>[G4 k]) (fun k h=>(aH h aB)) fun k a=>by kernel_rfl
def t209 (m:Nat):Int × bu × Int × Int × List Dat × List Dat->Option (List Un):=fun(a0,a1,a2,a3,a4,a5)=>
 sE m m (a0,0,0,a1,a2,a3,a4,a5)
theorem XG (m:Nat) (nn q kd:Int):∀(k n:Nat) (r paid:Int) (y:bu) (c out:List Dat),k<n->r+k=8->0<=r->aV c=true->0<=paid->paid<=nn->nn-paid<=y.aA->y.aA<=1152921504606846976->nn<=1152921504606846976->out.length+1000*k<=68719476736->
 sE m n (nn,paid,r,y,q,kd,c,out)=some ([.i (paid+(bG q kd k r (nn-paid) c).2.2)]++Uns.enc (({y with aA:=y.aA-(bG q kd k r (nn-paid) c).2.2}:bu):bu)++[.i q,.i kd,.d (bG q kd k r (nn-paid) c).1,.d (out++(bG q kd k r (nn-paid) c).2.1)]):=by
 intro k
 induction k with
 |zero=>
  intro n r paid y c out hn hr h0 hc p0 p1 p2 p3 p4 ho;obtain⟨n,rfl⟩:=ak n (by omega);rw[uE];unfold wg;dsimp only;simp only[bG,zbQ,zbs,zaK];rw[az (by omega)]
 |succ k ih=>
  intro n r paid y c out hn hr h0 hc p0 p1 p2 p3 p4 ho;obtain⟨n,rfl⟩:=ak n (by omega);rw[uE];unfold wg;dsimp only;obtain⟨l1,l2,l3⟩:=dG (aL r) (j:=1) (.inl rfl) (nn-paid) hc;obtain⟨_,_,w0,w1⟩:=oY (aL r) (j:=1) (.inl rfl) hc;obtain⟨g1,g2⟩:=pC (aL r) (j:=1) (.inl rfl) (nn-paid) hc;have hpl:=jz q kd (aw (aL r) 1 (nn-paid) c) 0;have hcl:=(cv hc).1;rw[aQ (by omega),ab (n:=nn-paid) (by omega) (by omega),hc,zbh,aP ⟨by omega,by omega,by omega,by omega⟩];have:=ih n (r+1) (paid+(aw (aL r) 1 (nn-paid) c).sum) {y with aA:=y.aA-(aw (aL r) 1 (nn-paid) c).sum} (bX 1 (aw (aL r) 1 (nn-paid) c) c) (out++bR q kd 0 (aw (aL r) 1 (nn-paid) c)) (by omega) (by omega) (by omega) g1 (by omega) (by omega) (by simp only;omega) (by simp only;omega) p4 (by rw[zab];omega);rw[ab (n:=r+1) (by omega) (by omega),ab (n:=paid+(aw (aL r) 1 (nn-paid) c).sum) (by omega) (by omega),this];simp only[bG];rw[show nn-(paid+(aw (aL r) 1 (nn-paid) c).sum)=nn-paid-(aw (aL r) 1 (nn-paid) c).sum by omega];simp only[Int.add_assoc,zaq,Int.sub_sub]
def f209:Int × bu × Int × Int × List Dat × List Dat->Bool × List Un:=fun(a0,a1,a2,a3,a4,a5)=>(decide (0<=a0/\a0<=a1.aA/\a1.aA<=1152921504606846976/\a5.length<=34359738368)&&aV a4,[.i ((bG a2 a3 8 0 a0 a4).2.2)]++Uns.enc (({a1 with aA:=a1.aA-(bG a2 a3 8 0 a0 a4).2.2}):bu)++[.i (a2),.i (a3),.d ((bG a2 a3 8 0 a0 a4).1),.d (a5++(bG a2 a3 8 0 a0 a4).2.1)])
theorem OL (a0:Int) (a1:bu) (a2:Int) (a3:Int) (a4:List Dat) (a5:List Dat) (hc:(decide (0<=a0/\a0<=a1.aA/\a1.aA<=1152921504606846976/\a5.length<=34359738368)&&aV a4)=true):∃m,t209 m (a0,a1,a2,a3,a4,a5)=some ([.i ((bG a2 a3 8 0 a0 a4).2.2)]++Uns.enc (({a1 with aA:=a1.aA-(bG a2 a3 8 0 a0 a4).2.2}):bu)++[.i (a2),.i (a3),.d ((bG a2 a3 8 0 a0 a4).1),.d (a5++(bG a2 a3 8 0 a0 a4).2.1)]):=by
 simp only[zae,zaf]at hc;obtain⟨⟨h1,h2,h3,h4⟩,h5⟩:=hc;refine⟨20, ?_⟩;have:=XG 20 a0 a2 a3 8 20 0 0 a1 a4 a5 (by omega) (by omega) (by omega) h5 (by omega) (by omega) (by omega) h3 (by omega) (by omega);simp only[zbs,za3]at this;exact this
theorem NJ:ER 209 (mkE V2.en V2.ex f209):=an ae Ph.right (fun m=>[G4 (sE m m)]) (t:=t209) (by kernel_rfl) (fun m=>(aH (US m m) aB)) (fun m a=>by kernel_rfl) fun(a0,a1,a2,a3,a4,a5) hc=>OL a0 a1 a2 a3 a4 a5 hc
def P0:Tb Tryz.prog LQ TE XX:=Ph.add 209 _ NJ
def vg (d:Dat):Bool:=decide (0<=d.i 3)
theorem Fo {d:Dat} (h:vg d=true):0<=d.i 3:=zaj h
theorem Az:∀l:List Dat,(∀d∈l,vg d=true)->0<=al 3 l
 |[],_=>by simp[al]
 |d::l,h=>by
  have:=Az l fun x hx=>h x (by simp[hx])
  have:=Fo (h d (by simp));simp only[al];omega
def UQ:aC:=⟨P0.tab,162,⟨[.af (sI 4)],[],0⟩,⟨[.int .i64],[],0⟩,[]⟩
abbrev BK:Type:=Int × List Dat × Int × Int
def wW (m:Nat) (k:BK->Option (List Un)):BK->Option (List Un):=fun(a0,a1,a2,a3)=>
 bif decide (a3<a2)then
 chk (inb a3 a1.length)<|
 chk (decide (a3.toNat<a1.length))<|
 k ((w64 (a0+((ag a1 a3.toNat).i 3))),a1,a2,(w64 (a3+1)))
 else
 some ([.i a0])
def sy (m:Nat):Nat->BK->Option (List Un):=bq (wW m)
theorem uL (m:Nat) (n:Nat):sy m (n+1)=wW m (sy m n):=rfl
def GO (F:BK->Option (List Un)):aU:=⟨[.lp [0,1,0,1,1],.blk 0,.code [1,1,1]],⟨frm 18 [(3,.int .i64),(6,.af (sI 4)),(7,.int .i64),(8,.int .i64)],[],0⟩,onU F⟩
theorem Uv (m:Nat):∀n,HO UQ (GO (sy m n)):=au ae P0.right (fun k=>[GO k]) (fun k h=>(aH h aB)) fun k a=>by kernel_rfl
def t162 (m:Nat):List Dat->Option (List Un):=fun a0=>
 sy m m (0,a0,(a0.length:Int),0)
theorem Yn (m:Nat):∀(rest pre:List Dat) (n:Nat) (b:Int),rest.length<n->(pre++rest).length<=1000000->(∀d∈rest,vg d=true)->0<=b->b+al 3 rest<=1152921504606846976->
 sy m n (b,pre++rest,((pre++rest).length:Int),(pre.length:Int))=some [.i (b+al 3 rest)]:=by
 intro rest
 induction rest with
 |nil=>
  intro pre n b hn hl hg h0 h1;obtain⟨n,rfl⟩:=ak n (by simp at hn;omega);rw[uL];unfold wW;dsimp only;simp[az,al]
 |cons x rest ih=>
  intro pre n b hn hl hg h0 h1;obtain⟨n,rfl⟩:=ak n (by simp at hn;omega);simp only[zac,zab]at hn hl;have hx:=Fo (hg x (by simp));have hr:=Az rest fun d hd=>hg d (by simp[hd])
  simp only[al]at h1;rw[uL];unfold wW;dsimp only;have:=ih (pre++[x]) n (b+x.i 3) (by omega) (by simp;omega) (fun d hd=>hg d (by simp[hd])) (by omega) (by omega);simp only[al]at this⊢;simp(disch:=omega) only[TRa,TRi,ab,LNl,LNi,zad,aD];simp only[LNl,LNi,zad]at this⊢;exact this
def f162:List Dat->Bool × List Un:=fun a0=>(decide (a0.length<=1000000)&&(a0.all vg&&decide (al 3 a0<=1152921504606846976)),[.i (al 3 a0)])
theorem Q8 (a0:List Dat) (hc:(decide (a0.length<=1000000)&&(a0.all vg&&decide (al 3 a0<=1152921504606846976)))=true):∃m,t162 m a0=some ([.i (al 3 a0)]):=by
 simp only[zae,zaf,zao]at hc;refine⟨a0.length+1, ?_⟩;exact(Yn _ a0 [] (a0.length+1) 0 (by omega) (by simpa using hc.1) hc.2.1 (by omega) (by simpa using hc.2.2)).trans (by simp only[za3])
theorem Lp:ER 162 (mkE UQ.en UQ.ex f162):=an ae P0.right (fun m=>[GO (sy m m)]) (t:=t162) (by kernel_rfl) (fun m=>(aH (Uv m m) aB)) (fun m a=>by kernel_rfl) fun a0 hc=>Q8 a0 hc
def VU:Tb Tryz.prog LQ TE XX:=P0.add 162 _ Lp
def Yp:aC:=⟨VU.tab,185,⟨[.ptr 0 0 0,.agg [.int .i64,.int .i64]],[.cells [.int .i64,.int .i64,.int .i64,.int .i64,.int .i64,.buf 1 3,.int .i64,.int .i64,.buf 2 4],.af (sI 3),.af (sI 4)],0⟩,⟨[],[.cells [.int .i64,.int .i64,.int .i64,.int .i64,.int .i64,.buf 1 3,.int .i64,.int .i64,.buf 3 4],.af (sI 3),.gone,.af (sI 4)],0⟩,[]⟩
def t185 (m:Nat):Int × Int × bu × Int × Int × List Dat × List Dat->Option (List Un):=fun(a0,a1,a2,a3,a4,a5,a6)=>
 bif a0==1 then
 lt ((if a2.aA<a2.fee then a2.aA else a2.fee):Int) fun x1=>
 lt ((if x1<0 then 0 else x1):Int) fun x2=>
 bif decide (x2>0)then
 chk (fits (a6.length+1) 32)<|
 some (Uns.enc (({a2 with aA:=(w64 (a2.aA-x2)),fee:=(w64 (a2.fee-x2))}:bu):bu)++[.i a3,.i a4,.d a5,.d (a6++([.r [.n a3,.n a4,.n (-1),.n x2]]))])
 else
 some (Uns.enc (({a2 with aA:=(w64 (a2.aA-x2)),fee:=(w64 (a2.fee-x2))}:bu):bu)++[.i a3,.i a4,.d a5,.d a6])
 else
 bif a0==2 then
 lt ((if a2.aA<a2.ca then a2.aA else a2.ca):Int) fun x4=>
 lt ((if x4<0 then 0 else x4):Int) fun x5=>
 bif decide (x5>0)then
 chk (fits (a6.length+1) 32)<|
 some (Uns.enc (({a2 with aA:=(w64 (a2.aA-x5)),ca:=(w64 (a2.ca-x5))}:bu):bu)++[.i a3,.i a4,.d a5,.d (a6++([.r [.n a3,.n a4,.n (-1),.n x5]]))])
 else
 some (Uns.enc (({a2 with aA:=(w64 (a2.aA-x5)),ca:=(w64 (a2.ca-x5))}:bu):bu)++[.i a3,.i a4,.d a5,.d a6])
 else
 bif a0==6 then
 lt ((if a2.aA<a2.room then a2.aA else a2.room):Int) fun x7=>
 lt ((if x7<0 then 0 else x7):Int) fun x8=>
 bif decide (x8>0)then
 chk (fits (a6.length+1) 32)<|
 some (Uns.enc (({a2 with aA:=(w64 (a2.aA-x8)),room:=(w64 (a2.room-x8))}:bu):bu)++[.i a3,.i a4,.d a5,.d (a6++([.r [.n a3,.n a4,.n (-1),.n x8]]))])
 else
 some (Uns.enc (({a2 with aA:=(w64 (a2.aA-x8)),room:=(w64 (a2.room-x8))}:bu):bu)++[.i a3,.i a4,.d a5,.d a6])
 else
 bif a0==3 then
 chk (decide (a2.aA<=9223372036854775807/\0<=a2.aA/\a2.aA<=1152921504606846976/\a6.length<=68719476736)&&aV a5)<|
 some (Uns.enc (({a2 with aA:=a2.aA-(aw (aL a1) 2 a2.aA a5).sum}):bu)++[.i a3,.i a4,.d (bX 2 (aw (aL a1) 2 a2.aA a5) a5),.d (a6++bR a3 a4 0 (aw (aL a1) 2 a2.aA a5))])
 else
 bif a0==4 then
 lt ((if a2.aA<a2.ar then a2.aA else a2.ar):Int) fun x12=>
 chk (decide (0<=x12/\x12<=a2.aA/\a2.aA<=1152921504606846976/\a6.length<=34359738368)&&aV a5)<|
 lt (({a2 with aA:=a2.aA-(bG a3 a4 8 0 x12 a5).2.2}):bu) fun g13=>
 chk (decide (a2.ar=g13.ar))<|
 some (Uns.enc (({g13 with ar:=(w64 (a2.ar-((bG a3 a4 8 0 x12 a5).2.2)))}:bu):bu)++[.i a3,.i a4,.d ((bG a3 a4 8 0 x12 a5).1),.d (a6++(bG a3 a4 8 0 x12 a5).2.1)])
 else
 bif a0==5 then
 lt ((if a2.aA<a2.ar then a2.aA else a2.ar):Int) fun x16=>
 chk (decide (x16<=9223372036854775807/\0<=a2.aA/\a2.aA<=1152921504606846976/\a6.length<=68719476736)&&aV a5)<|
 lt (({a2 with aA:=a2.aA-(aw (fun _=>true) 1 x16 a5).sum}):bu) fun g18=>
 chk (decide (a2.ar=g18.ar))<|
 some (Uns.enc (({g18 with ar:=(w64 (a2.ar-((aw (fun _=>true) 1 x16 a5).sum)))}:bu):bu)++[.i a3,.i a4,.d (bX 1 (aw (fun _=>true) 1 x16 a5) a5),.d (a6++bR a3 a4 0 (aw (fun _=>true) 1 x16 a5))])
 else
 bif a0==7 then
 chk (decide (0<=a2.aA/\a2.aA<=a2.aA/\a2.aA<=1152921504606846976/\a6.length<=34359738368)&&aV a5)<|
 some (Uns.enc (({a2 with aA:=a2.aA-(bG a3 a4 8 0 a2.aA a5).2.2}):bu)++[.i a3,.i a4,.d ((bG a3 a4 8 0 a2.aA a5).1),.d (a6++(bG a3 a4 8 0 a2.aA a5).2.1)])
 else
 some (Uns.enc (a2:bu)++[.i a3,.i a4,.d a5,.d a6])
def f185:Int × Int × bu × Int × Int × List Dat × List Dat->Bool × List Un:=fun(a0,a1,a2,a3,a4,a5,a6)=>(decide (a4=a0/\a6.length<=17179869184)&&(ot a2&&aV a5),Uns.enc (((dU a3 a0 a1 a2 a5).1):bu)++[.i (a3),.i (a4),.d ((dU a3 a0 a1 a2 a5).2.1),.d (a6++(dU a3 a0 a1 a2 a5).2.2)])
set_option maxHeartbeats 2000000 in
theorem RG (a0:Int) (a1:Int) (a2:bu) (a3:Int) (a4:Int) (a5:List Dat) (a6:List Dat) (hc:(decide (a4=a0/\a6.length<=17179869184)&&(ot a2&&aV a5))=true):∃m,t185 m (a0,a1,a2,a3,a4,a5,a6)=some (Uns.enc (((dU a3 a0 a1 a2 a5).1):bu)++[.i (a3),.i (a4),.d ((dU a3 a0 a1 a2 a5).2.1),.d (a6++(dU a3 a0 a1 a2 a5).2.2)]):=by
 simp only[zae,zaf]at hc;obtain⟨⟨rfl,ho⟩,hx,hc⟩:=hc;have hx':=wJ hx;have hcl:=(cv hc).1;have w2:=fun sel j hj=>(oY (c:=a5) sel (j:=j) hj hc).2.2
 have s2:=fun sel j hj n=>(dG (c:=a5) sel (j:=j) hj n hc).2.1
 have mm:∀a b:Int,(if b<a then b else a)=min a b:=fun a b=>by omega
 have mx:∀a:Int,(if a<0 then 0 else a)=max a 0:=fun a=>by omega
 refine⟨0, ?_⟩;unfold t185 dU;dsimp only;simp only[lt_eq,mm,mx];have one:∀(z:Int) (u:bu) (o2:List Dat),0<=z->∀v:bu,u=v->(bif decide (z>0)then chk (fits (a6.length+1) 32) (some (Uns.enc (u:bu)++[.i a3,.i a4,.d a5,.d (a6++([.r [.n a3,.n a4,.n (-1),.n z]]))]))else some (Uns.enc (u:bu)++[.i a3,.i a4,.d a5,.d a6]))=some (Uns.enc (v:bu)++[.i a3,.i a4,.d a5,.d (a6++lZ a3 a4 z)]):=by
  intro z u o2 hz v huv;subst huv;unfold lZ
  by_cases h:z>0
  . rw[aQ h,bL (by omega) (by omega),if_pos (by omega)]
  . rw[az h,if_neg (by omega),zaK]
 by_cases k1:a4=1
 . rw[eg k1,if_pos k1];rw[show max (min a2.fee a2.aA) 0=min a2.fee a2.aA by omega];exact one _ _ [] (by omega) _ (by rw[ab (by omega) (by omega),ab (by omega) (by omega)])
 rw[dB k1,if_neg k1]
 by_cases k2:a4=2
 . rw[eg k2,if_pos k2];rw[show max (min a2.ca a2.aA) 0=min a2.ca a2.aA by omega];exact one _ _ [] (by omega) _ (by rw[ab (by omega) (by omega),ab (by omega) (by omega)])
 rw[dB k2,if_neg k2]
 by_cases k6:a4=6
 . rw[eg k6,if_pos k6];rw[show max (min a2.room a2.aA) 0=min a2.room a2.aA by omega];exact one _ _ [] (by omega) _ (by rw[ab (by omega) (by omega),ab (by omega) (by omega)])
 rw[dB k6,if_neg k6]
 by_cases k3:a4=3
 . rw[eg k3,if_pos k3,hc,zbh,aP (by omega)]
 rw[dB k3,if_neg k3]
 by_cases k4:a4=4
 . rw[eg k4,if_pos k4,hc,zbh,aP (by omega),aP trivial];have q:=yg a3 a4 8 0 (min a2.ar a2.aA) a5 hc;generalize bG a3 a4 8 0 (min a2.ar a2.aA) a5=y at*
   rw[ab (by omega) (by omega)]
 rw[dB k4,if_neg k4]
 by_cases k5:a4=5
 . rw[eg k5,if_pos k5,hc,zbh,aP (by omega),aP trivial];have q1:=s2 (fun _=>true) 1 (.inl rfl) (min a2.ar a2.aA);have q2:=w2 (fun _=>true) 1 (.inl rfl);rw[ab (n:=a2.ar-_) (by omega) (by omega)]
 rw[dB k5,if_neg k5]
 by_cases k7:a4=7
 . rw[eg k7,if_pos k7,hc,zbh,aP (by omega)]
 rw[dB k7,if_neg k7,zaK]
theorem Om:ER 185 (mkE Yp.en Yp.ex f185):=an ae VU.right (fun m=>[]) (t:=t185) (by kernel_rfl) (fun m=>aB) (fun m a=>by kernel_rfl) fun(a0,a1,a2,a3,a4,a5,a6) hc=>RG a0 a1 a2 a3 a4 a5 a6 hc
def Sw:Tb Tryz.prog LQ TE XX:=VU.add 185 _ Om
def UO:aC:=⟨Sw.tab,144,⟨[.int .i64,.agg [.int .i64,.int .i64,.int .i64,.int .i64,.af (sI 3)],.af (sI 2)],[],0⟩,⟨[.buf 0 4,.int .i64,.agg [.int .i64,.int .i64,.int .i64,.int .i64,.buf 1 3]],[.af (sI 4),.af (sI 3)],0⟩,[]⟩
abbrev BI:Type:=List Dat × Int × Int × Int × Int × Int × Int × bu × Int × Int × List Dat × List Dat × List Dat
def wY (m:Nat) (k:BI->Option (List Un)):BI->Option (List Un):=fun(a0,a1,a2,a3,a4,a5,a6,a7,a8,a9,a10,a11,a12)=>
 bif decide (a2<a1)then
 chk (inb a2 a0.length)<|
 chk (decide (a2.toNat<a0.length))<|
 lt (ag a0 a2.toNat:Dat) fun d1=>
 chk (decide ((d1.i 0)=(d1.i 0)/\a12.length<=17179869184)&&(ot a7&&aV a11))<|
 k (a0,a1,(w64 (a2+1)),a3,a4,a5,a6,((dU a2 (d1.i 0) (d1.i 1) a7 a11).1),a2,(d1.i 0),a10,((dU a2 (d1.i 0) (d1.i 1) a7 a11).2.1),(a12++(dU a2 (d1.i 0) (d1.i 1) a7 a11).2.2))
 else
 some ([.i a7.aA,.i a7.fee,.i a7.ca,.i a7.ar,.i a7.room,.d a12,.d a11])
def tV (m:Nat):Nat->BI->Option (List Un):=bq (wY m)
theorem uc (m:Nat) (n:Nat):tV m (n+1)=wY m (tV m n):=rfl
def Hh (F:BI->Option (List Un)):aU:=⟨[.lp [0,1,0,1,1,1],.blk 0,.code [1,1,1,1]],⟨frm 52 [(8,.ptr 0 0 0),(9,.ptr 1 0 0),(20,.af (sI 2)),(21,.int .i64),(22,.int .i64)],[.cells [.int .i64,.int .i64,.int .i64,.int .i64,.buf 2 3],.cells [.int .i64,.int .i64,.int .i64,.int .i64,.int .i64,.buf 3 3,.int .i64,.int .i64,.buf 4 4],.af (sI 3),.af (sI 3),.af (sI 4)],0⟩,onU F⟩
theorem TX (m:Nat):∀n,HO UO (Hh (tV m n)):=au ae Sw.right (fun k=>[Hh k]) (fun k h=>(aH h aB)) fun k a=>by kernel_rfl
def t144 (m:Nat):Int × Int × Int × Int × Int × List Dat × List Dat->Option (List Un):=fun(a0,a1,a2,a3,a4,a5,a6)=>
 chk (decide (a5.length<1000000))<|
 tV m m (a6,(a6.length:Int),0,0,0,0,0,(⟨a0,a1,a2,a3,a4⟩:bu),0,0,[],a5,[])
theorem Y2 (m:Nat) (z1 z2 z3 z4:Int) (zl:List Dat):∀(rest pre:List Dat) (n:Nat) (y:bu) (q kd:Int) (c out:List Dat),rest.length<n->(pre++rest).length<=1000000->ot y=true->aV c=true->out.length<=8000*pre.length->
 tV m n (pre++rest,((pre++rest).length:Int),(pre.length:Int),z1,z2,z3,z4,y,q,kd,zl,c,out)=some [.i (eD pre.length rest y c).1.aA,.i (eD pre.length rest y c).1.fee,.i (eD pre.length rest y c).1.ca,.i (eD pre.length rest y c).1.ar,.i (eD pre.length rest y c).1.room,.d (out++(eD pre.length rest y c).2.2),.d (eD pre.length rest y c).2.1]:=by
 intro rest
 induction rest with
 |nil=>
  intro pre n y q kd c out hn hl hy hc ho;obtain⟨n,rfl⟩:=ak n (by simp at hn;omega);rw[uc];unfold wY;dsimp only;simp[az,eD]
 |cons x rest ih=>
  intro pre n y q kd c out hn hl hy hc ho;obtain⟨n,rfl⟩:=ak n (by simp at hn;omega);simp only[zac,zab]at hn hl;obtain⟨s1,s2,s3,s4⟩:=rV pre.length (x.i 0) (x.i 1) hy hc;have:=ih (pre++[x]) n _ (pre.length:Int) (x.i 0) _ (out++(dU pre.length (x.i 0) (x.i 1) y c).2.2) (by omega) (by simp;omega) s1 s2 (by simp;omega);simp only[eD];rw[uc];unfold wY;dsimp only;simp only[hy,hc,Bool.and_self,zbh];simp only[zay,aD,lt_eq];generalize dU pre.length (x.i 0) (x.i 1) y c=u at*
  simp only[hy,hc,Bool.and_self,zbh,za1,true_and];simp(disch:=omega) only[TRa,TRi,ab,LNl,LNi,zad,aD];simp only[LNl,LNi,zad]at this⊢;exact this
def f144:Int × Int × Int × Int × Int × List Dat × List Dat->Bool × List Un:=fun(a0,a1,a2,a3,a4,a5,a6)=>(decide (a6.length<=1000000)&&(ot ⟨a0,a1,a2,a3,a4⟩&&aV a5),[.i ((eD 0 a6 ⟨a0,a1,a2,a3,a4⟩ a5).1.aA),.i ((eD 0 a6 ⟨a0,a1,a2,a3,a4⟩ a5).1.fee),.i ((eD 0 a6 ⟨a0,a1,a2,a3,a4⟩ a5).1.ca),.i ((eD 0 a6 ⟨a0,a1,a2,a3,a4⟩ a5).1.ar),.i ((eD 0 a6 ⟨a0,a1,a2,a3,a4⟩ a5).1.room),.d ((eD 0 a6 ⟨a0,a1,a2,a3,a4⟩ a5).2.2),.d ((eD 0 a6 ⟨a0,a1,a2,a3,a4⟩ a5).2.1)])
theorem Q6 (a0:Int) (a1:Int) (a2:Int) (a3:Int) (a4:Int) (a5:List Dat) (a6:List Dat) (hc:(decide (a6.length<=1000000)&&(ot ⟨a0,a1,a2,a3,a4⟩&&aV a5))=true):∃m,t144 m (a0,a1,a2,a3,a4,a5,a6)=some ([.i ((eD 0 a6 ⟨a0,a1,a2,a3,a4⟩ a5).1.aA),.i ((eD 0 a6 ⟨a0,a1,a2,a3,a4⟩ a5).1.fee),.i ((eD 0 a6 ⟨a0,a1,a2,a3,a4⟩ a5).1.ca),.i ((eD 0 a6 ⟨a0,a1,a2,a3,a4⟩ a5).1.ar),.i ((eD 0 a6 ⟨a0,a1,a2,a3,a4⟩ a5).1.room),.d ((eD 0 a6 ⟨a0,a1,a2,a3,a4⟩ a5).2.2),.d ((eD 0 a6 ⟨a0,a1,a2,a3,a4⟩ a5).2.1)]):=by
 simp only[zae,zaf]at hc;obtain⟨h1,h2,h3⟩:=hc;have hl:=(cv h3).1;refine⟨a6.length+1, ?_⟩;unfold t144;dsimp only;rw[aP (by omega)];exact Y2 _ 0 0 0 0 [] a6 [] (a6.length+1) _ 0 0 a5 [] (by omega) (by simpa using h1) h2 h3 (by simp)
theorem N2:ER 144 (mkE UO.en UO.ex f144):=an ae Sw.right (fun m=>[Hh (tV m m)]) (t:=t144) (by kernel_rfl) (fun m=>(aH (TX m m) aB)) (fun m a=>by kernel_rfl) fun(a0,a1,a2,a3,a4,a5,a6) hc=>Q6 a0 a1 a2 a3 a4 a5 a6 hc
def TZ:Tb Tryz.prog LQ TE XX:=Sw.add 144 _ N2
theorem fw (j:Nat):∀l:List Dat,(∀d∈l,0<=d.i j)->0<=al j l
 |[],_=>by simp[al]
 |d::l,h=>by
  have:=h d (by simp);have:=fw j l fun x hx=>h x (by simp[hx])
  simp only[al];omega
theorem yv (j:Nat):∀a b:List Dat,al j (a++b)=al j a+al j b
 |[],b=>by simp[al]
 |d::a,b=>by simp only[zaI,al,yv j a b];omega
theorem yj (a k:Int):∀(xs:List Int) (i:Int),(∀x∈xs,0<=x)->al 3 (bR a k i xs)=xs.sum
 |[],i,_=>rfl
 |x::xs,i,h=>by
  have:=yj a k xs (i+1) fun y hy=>h y (by simp[hy])
  have h0:=h x (by simp);simp only[bR,yv,zbt,this]
  by_cases hx:0<x
  . rw[if_pos hx];simp[al,gL]
  . rw[if_neg hx];simp only[al];omega
theorem FL {c:List Dat} (sel:Dat->Bool) {j:Nat} (hj:j=1\/j=2) (n:Int) (h:aV c=true):∀x∈aw sel j n c,0<=x:=fun x hx=>by
 obtain⟨l1,l2,l3⟩:=dG sel hj n h;obtain⟨i,hi,rfl⟩:=rl hx;rw[l1]at hi;exact(l3 i hi).1
def aY (f:Dat->Bool):List Dat->Int
 |[]=>0
 |d::l=>(bif f d then d.i 3 else 0)+aY f l
theorem jO (f:Dat->Bool):∀a b:List Dat,aY f (a++b)=aY f a+aY f b
 |[],b=>by simp[aY]
 |d::a,b=>by simp only[zaI,aY,jO f a b];omega
theorem ir (f:Dat->Bool):∀l:List Dat,(∀d∈l,f d=false)->aY f l=0
 |[],_=>rfl
 |d::l,h=>by simp only[aY,h d (by simp),ir f l (fun x hx=>h x (by simp[hx])),zal];rfl
theorem DU (f:Dat->Bool):∀l:List Dat,(∀d∈l,f d=true)->aY f l=al 3 l
 |[],_=>rfl
 |d::l,h=>by simp only[aY,al,h d (by simp),DU f l (fun x hx=>h x (by simp[hx])),zaw]
theorem tD {f g:Dat->Bool}:∀l:List Dat,(∀d∈l,f d=g d)->aY f l=aY g l
 |[],_=>rfl
 |d::l,h=>by simp only[aY,h d (by simp),tD l (fun x hx=>h x (by simp[hx]))]
def kF (d:Dat):Bool:=d.i 1==1
def kR (d:Dat):Bool:=d.i 1==2
def kT (d:Dat):Bool:=d.i 1==6
def kI (d:Dat):Bool:=d.i 1==3
def kB (d:Dat):Bool:= !kF d&& !kR d&& !kT d&& !kI d
def kP (d:Dat):Bool:=kB d&&d.i 1 !=7
def toI (i:Nat) (d:Dat):Bool:=kI d&&d.i 2==(i:Int)
def toB (i:Nat) (d:Dat):Bool:=kB d&&d.i 2==(i:Int)
theorem m9 (a k:Int):∀(xs:List Int) (i:Int),∀d∈bR a k i xs,d.i 0=a/\d.i 1=k/\(i<=d.i 2/\d.i 2<i+xs.length)/\1<=d.i 3/\d.i 3=xs.getD (d.i 2-i).toNat 0
 |[],i,d,h=>by simp[bR]at h
 |x::xs,i,d,h=>by
  simp only[bR,zbe]at h;rcases h with h|h
  . by_cases hx:0<x
    . rw[if_pos hx]at h;rw[zbz.1 h];refine⟨rfl,rfl, ?_, ?_, ?_⟩
      . simp only[j8,zac,zaG];omega
      . simp only[gL];omega
      . simp only[j8,gL,Int.sub_self,Int.toNat_zero,zaO]
    . rw[if_neg hx]at h;cases h
  . obtain⟨h1,h2,h3,h4,h5⟩:=m9 a k xs (i+1) d h;simp only[zac,zaG];refine⟨h1,h2,by omega,h4, ?_⟩;rw[show(d.i 2-i).toNat=(d.i 2-(i+1)).toNat+1 by omega,zaD];exact h5
theorem AP (a k:Int):∀(xs:List Int) (i:Int) (j:Nat),(∀x∈xs,0<=x)->aY (fun d=>d.i 2==i+j) (bR a k i xs)=xs.getD j 0
 |[],i,j,_=>by simp[bR,aY]
 |x::xs,i,j,h=>by
  have h0:=h x (by simp);simp only[bR,jO];cases j with
  |zero=>
   have e:aY (fun d=>d.i 2==i+((0:Nat):Int)) (bR a k (i+1) xs)=0:=ir _ _ fun d hd=>by
    have:=m9 a k xs (i+1) d hd;simp only[zbR];omega
   rw[e,zaO]
   by_cases hx:0<x
   . rw[if_pos hx];simp[aY,j8,gL]
   . rw[if_neg hx];simp only[aY];omega
  |succ j=>
   have:=AP a k xs (i+1) j fun y hy=>h y (by simp[hy])
   rw[show i+1+(j:Int)=i+((j+1:Nat):Int) by omega]at this;rw[this,zaD]
   by_cases hx:0<x
   . rw[if_pos hx];simp only[aY,j8];rw[show(i==i+((j+1:Nat):Int))=false by simp only[zbR];omega];simp
   . rw[if_neg hx];simp[aY]
structure Kept (x : bu) (c ps : List Dat) (x' : bu) (c' : List Dat) : Prop where
 aA:x'.aA=x.aA-al 3 ps
 fee:x'.fee=x.fee-aY kF ps
 ca:x'.ca=x.ca-aY kR ps
 room:x'.room=x.room-aY kT ps
 pri:x'.ar=x.ar-aY kP ps
 len:c'.length=c.length
 row:∀i,i<c.length->ag c' i= .r [.n ((ag c i).i 0),.n ((ag c i).i 1-aY (toB i) ps),.n ((ag c i).i 2-aY (toI i) ps)]
theorem Kept.refl {x:bu} {c:List Dat} (h:∀d∈c,nH 3 d=true):Kept x c [] x c:=by
 refine⟨by simp[al],by simp[aY],by simp[aY],by simp[aY],by simp[aY],rfl,fun i hi=> ?_⟩;simp only[aY,zbs];exact FH (h _ (lH hi))
theorem Kept.trans {x x' x'':bu} {c c' c'' ps qs:List Dat} (a:Kept x c ps x' c') (b:Kept x' c' qs x'' c''):Kept x c (ps++qs) x'' c'':=by
 refine⟨?_, ?_, ?_, ?_, ?_,b.len.trans a.len,fun i hi=> ?_⟩
 . rw[b.aA,a.aA,yv];omega
 . rw[b.fee,a.fee,jO];omega
 . rw[b.ca,a.ca,jO];omega
 . rw[b.room,a.room,jO];omega
 . rw[b.pri,a.pri,jO];omega
 . rw[b.row i (by rw[a.len];exact hi),a.row i hi,jO,jO];simp only[VJ,fP,j8];rw[show(ag c i).i 1-aY (toB i) ps-aY (toB i) qs=(ag c i).i 1-(aY (toB i) ps+aY (toB i) qs) by omega,show(ag c i).i 2-aY (toI i) ps-aY (toI i) qs=(ag c i).i 2-(aY (toI i) ps+aY (toI i) qs) by omega]
theorem Kept.shares {c:List Dat} (sel:Dat->Bool) (n:Int) (h:aV c=true) (x:bu) (a:Int) {j:Nat} {kd:Int} (hk:(j=2/\kd=3)\/(j=1/\(kd=4\/kd=5\/kd=7))):
 Kept x c (bR a kd 0 (aw sel j n c)) {x with aA:=x.aA-(aw sel j n c).sum,ar:=if kd=4\/kd=5 then x.ar-(aw sel j n c).sum else x.ar} (bX j (aw sel j n c) c):=by
 have hj:j=1\/j=2:=by omega
 obtain⟨l1,l2,l3⟩:=dG sel hj n h;obtain⟨h1,h2⟩:=cv h;have hm:=FL sel hj n h;have hp:=m9 a kd (aw sel j n c) 0;have hs:=yj a kd (aw sel j n c) 0 hm;have hat:=fun i=>AP a kd (aw sel j n c) 0 i hm
 have kk:∀d∈bR a kd 0 (aw sel j n c),kF d=false/\kR d=false/\kT d=false/\kI d=(kd==3)/\kB d= !(kd==3):=fun d hd=>by
  have:=(hp d hd).2.1;simp only[kB,kF,kR,kT,kI,this];rcases hk with⟨_,rfl⟩|⟨_,rfl|rfl|rfl⟩<;>decide
 refine⟨by rw[hs], ?_, ?_, ?_, ?_,oI j _ c l1,fun i hi=> ?_⟩
 . rw[ir kF _ fun d hd=>(kk d hd).1];simp
 . rw[ir kR _ fun d hd=>(kk d hd).2.1];simp
 . rw[ir kT _ fun d hd=>(kk d hd).2.2.1];simp
 . by_cases h45:kd=4\/kd=5
   . simp only[if_pos h45];rw[DU kP _ fun d hd=>by
      have:=(kk d hd).2.2.2.2;have h6:=(hp d hd).2.1;simp only[kP,this,h6];rcases h45 with rfl|rfl<;>rfl,hs]
   . simp only[if_neg h45];rw[ir kP _ fun d hd=>by
      have:=(kk d hd).2.2.2.2;have h6:=(hp d hd).2.1;simp only[kP,this,h6];rcases hk with⟨_,rfl⟩|⟨_,rfl|rfl|rfl⟩
      . rfl
      . exact absurd (.inl rfl) h45
      . exact absurd (.inr rfl) h45
      . rfl]
     simp
 . rw[nV j _ c i l1 hi];have e2:=hat i;simp only[za3]at e2;rcases hk with⟨rfl,rfl⟩|⟨rfl,hk⟩
   . have a1:aY (toB i) (bR a 3 0 (aw sel 2 n c))=0:=ir _ _ fun d hd=>by simp only[toB,(kk d hd).2.2.2.2];rfl
     have a2:aY (toI i) (bR a 3 0 (aw sel 2 n c))=(aw sel 2 n c).getD i 0:=by
      rw[<-e2];exact tD _ fun d hd=>by simp only[toI,(kk d hd).2.2.2.1];rfl
     rw[a1,a2];simp only[cH,show ¬(2:Nat)=1 by decide,zbn,zbs]
   . have k3:(kd==3)=false:=by rcases hk with rfl|rfl|rfl<;>rfl
     have a1:aY (toI i) (bR a kd 0 (aw sel 1 n c))=0:=ir _ _ fun d hd=>by simp only[toI,(kk d hd).2.2.2.1,k3];rfl
     have a2:aY (toB i) (bR a kd 0 (aw sel 1 n c))=(aw sel 1 n c).getD i 0:=by
      rw[<-e2];exact tD _ fun d hd=>by simp only[toB,(kk d hd).2.2.2.2,k3];rfl
     rw[a1,a2];simp only[cH,zbd,zbs]
theorem Kept.yd {a kd:Int} (hk:kd=4\/kd=7):∀(k:Nat) (r n:Int) (x:bu) (c:List Dat),aV c=true->
 Kept x c (bG a kd k r n c).2.1 {x with aA:=x.aA-(bG a kd k r n c).2.2,ar:=if kd=4 then x.ar-(bG a kd k r n c).2.2 else x.ar} (bG a kd k r n c).1
 |0,r,n,x,c,h=>by
  have:=Kept.refl (x:=x) fun d hd=>(cW ((cv h).2 d hd)).1
  simp only[bG,zbs,ite_self];exact this
 |k+1,r,n,x,c,h=>by
  obtain⟨g1,g2⟩:=pC (aL r) (j:=1) (.inl rfl) n h;have a1:=Kept.shares (aL r) n h x a (j:=1) (kd:=kd) (.inr ⟨rfl,by omega⟩);have a2:=Kept.yd (a:=a) hk k (r+1) (n-(aw (aL r) 1 n c).sum) {x with aA:=x.aA-(aw (aL r) 1 n c).sum,ar:=if kd=4\/kd=5 then x.ar-(aw (aL r) 1 n c).sum else x.ar} _ g1;have:=a1.trans a2;simp only[bG];have e:(if kd=4\/kd=5 then x.ar-(aw (aL r) 1 n c).sum else x.ar)=if kd=4 then x.ar-(aw (aL r) 1 n c).sum else x.ar:=by
   rcases hk with rfl|rfl<;>simp
  simp only[e]at this;generalize (bG a kd k (r+1) (n-(aw (aL r) 1 n c).sum) (bX 1 (aw (aL r) 1 n c) c)).2.2=y at*
  by_cases h4:kd=4
  . simp only[if_pos h4,Int.sub_sub]at this⊢;exact this
  . simp only[if_neg h4,Int.sub_sub]at this⊢;exact this
def Fj (n:Nat) (a kd:Int) (d:Dat):Prop:=d.i 0=a/\d.i 1=kd/\1<=d.i 3/\(-1<=d.i 2/\d.i 2<n)/\(d.i 2<0↔(kd=1\/kd=2\/kd=6))
theorem sj {a kd:Int} {xs:List Int} {n:Nat} (hl:xs.length=n) (hk:¬(kd=1\/kd=2\/kd=6)):∀d∈bR a kd 0 xs,Fj n a kd d:=fun d hd=>by
 obtain⟨h1,h2,h3,h4,h5⟩:=m9 a kd xs 0 d hd;exact⟨h1,h2,h4,by omega,by omega⟩
theorem qD {a kd:Int} (hk:¬(kd=1\/kd=2\/kd=6)):∀(k:Nat) (r n:Int) (c:List Dat),aV c=true->∀d∈(bG a kd k r n c).2.1,Fj c.length a kd d
 |0,r,n,c,h,d,hd=>by simp[bG]at hd
 |k+1,r,n,c,h,d,hd=>by
  obtain⟨g1,g2⟩:=pC (aL r) (j:=1) (.inl rfl) n h;obtain⟨l1,l2,l3⟩:=dG (aL r) (j:=1) (.inl rfl) n h;simp only[bG]at hd;rcases zbe.1 hd with hd|hd
  . exact sj l1 hk d hd
  . have:=qD hk k (r+1) _ _ g1 d hd
    rwa [g2]at this
theorem oE {x:bu} {c:List Dat} (h:aV c=true) (a kd n:Int) (h0:0<=n) (hk:kd=1\/kd=2\/kd=6):
 Kept x c (lZ a kd n) {x with aA:=x.aA-n,fee:=if kd=1 then x.fee-n else x.fee,ca:=if kd=2 then x.ca-n else x.ca,room:=if kd=6 then x.room-n else x.room} c/\∀d∈lZ a kd n,Fj c.length a kd d:=by
 have hr:∀d∈c,nH 3 d=true:=fun d hd=>(cW ((cv h).2 d hd)).1
 unfold lZ
 by_cases hn:0<n
 . rw[if_pos hn];refine⟨⟨by simp[al,gL], ?_, ?_, ?_, ?_,rfl,fun i hi=> ?_⟩,fun d hd=> ?_⟩
   . simp only[aY,kF,fP,gL];rcases hk with rfl|rfl|rfl<;>simp
   . simp only[aY,kR,fP,gL];rcases hk with rfl|rfl|rfl<;>simp
   . simp only[aY,kT,fP,gL];rcases hk with rfl|rfl|rfl<;>simp
   . simp only[aY,kP,kB,kF,kR,kT,kI,fP,gL];rcases hk with rfl|rfl|rfl<;>simp
   . have a1:aY (toB i) [Dat.r [.n a,.n kd,.n (-1),.n n]]=0:=by simp only[aY,toB,kB,kF,kR,kT,kI,fP,j8];rcases hk with rfl|rfl|rfl<;>simp
     have a2:aY (toI i) [Dat.r [.n a,.n kd,.n (-1),.n n]]=0:=by simp only[aY,toI,kI,fP,j8];rcases hk with rfl|rfl|rfl<;>simp
     rw[a1,a2,zbs,zbs];exact FH (hr _ (lH hi))
   . rw[zbz.1 hd];refine⟨rfl,rfl, ?_, ?_, ?_⟩
     . show(1:Int)<=n;exact hn
     . exact⟨zb5 (-1),by show(-1:Int)<(c.length:Int);omega⟩
     . show(-1:Int)<0↔_;exact⟨fun _=>hk,fun _=>by decide⟩
 . rw[if_neg hn];obtain rfl:n=0:=by omega
   simp only[zbs,ite_self];exact⟨Kept.refl hr,fun d hd=>by cases hd⟩
theorem Hi (a kd rk:Int) {x:bu} {c:List Dat} (hx:ot x=true) (h:aV c=true):Kept x c (dU a kd rk x c).2.2 (dU a kd rk x c).1 (dU a kd rk x c).2.1/\∀d∈(dU a kd rk x c).2.2,Fj c.length a kd d:=by
 have hx':=wJ hx;have s1:=fun sel j hj n=>(dG (c:=c) sel (j:=j) hj n h).1
 unfold dU
 by_cases k1:kd=1
 . rw[if_pos k1];have:=oE (x:=x) h a kd (min x.fee x.aA) (by omega) (.inl k1);subst k1;exact this
 rw[if_neg k1]
 by_cases k2:kd=2
 . rw[if_pos k2];have:=oE (x:=x) h a kd (min x.ca x.aA) (by omega) (.inr (.inl k2));subst k2;exact this
 rw[if_neg k2]
 by_cases k6:kd=6
 . rw[if_pos k6];have:=oE (x:=x) h a kd (min x.room x.aA) (by omega) (.inr (.inr k6));subst k6;exact this
 rw[if_neg k6];have hk:¬(kd=1\/kd=2\/kd=6):=by omega
 by_cases k3:kd=3
 . rw[if_pos k3];have:=Kept.shares (aL rk) x.aA h x a (j:=2) (kd:=kd) (.inl ⟨rfl,k3⟩);rw[if_neg (by omega)]at this;exact⟨this,sj (s1 (aL rk) 2 (.inr rfl) x.aA) hk⟩
 rw[if_neg k3]
 by_cases k4:kd=4
 . rw[if_pos k4];have:=Kept.yd (a:=a) (kd:=kd) (.inl k4) 8 0 (min x.ar x.aA) x c h;simp only[if_pos k4]at this;have hp:=qD (a:=a) hk 8 0 (min x.ar x.aA) c h;generalize bG a kd 8 0 (min x.ar x.aA) c=y at*
   exact⟨this,hp⟩
 rw[if_neg k4]
 by_cases k5:kd=5
 . rw[if_pos k5];have:=Kept.shares (fun _=>true) (min x.ar x.aA) h x a (j:=1) (kd:=kd) (.inr ⟨rfl,by omega⟩);rw[if_pos (by omega)]at this;exact⟨this,sj (s1 (fun _=>true) 1 (.inl rfl) _) hk⟩
 rw[if_neg k5]
 by_cases k7:kd=7
 . rw[if_pos k7];have:=Kept.yd (a:=a) (kd:=kd) (.inr k7) 8 0 x.aA x c h;simp only[if_neg k4]at this;have hp:=qD (a:=a) hk 8 0 x.aA c h;generalize bG a kd 8 0 x.aA c=y at*
   exact⟨this,hp⟩
 rw[if_neg k7];exact⟨Kept.refl fun d hd=>(cW ((cv h).2 d hd)).1,fun d hd=>by cases hd⟩
def Lw (n:Nat) (a:Int) (l:List Dat) (d:Dat):Prop:=(a<=d.i 0/\d.i 0<a+l.length)/\Fj n (d.i 0) (ag l (d.i 0-a).toNat |>.i 0) d
theorem z7:∀(l:List Dat) (a:Int) (x:bu) (c:List Dat),ot x=true->aV c=true->Kept x c (eD a l x c).2.2 (eD a l x c).1 (eD a l x c).2.1/\(∀d∈(eD a l x c).2.2,Lw c.length a l d)/\(eD a l x c).2.2.Pairwise fun d e=>d.i 0<=e.i 0
 |[],a,x,c,hx,h=>⟨Kept.refl fun d hd=>(cW ((cv h).2 d hd)).1,fun d hd=>by simp[eD]at hd,List.Pairwise.nil⟩
 |s::l,a,x,c,hx,h=>by
  obtain⟨h1,h2,h3,h4⟩:=rV a (s.i 0) (s.i 1) hx h;obtain⟨k1,k2⟩:=Hi a (s.i 0) (s.i 1) hx h;obtain⟨i1,i2,i3⟩:=z7 l (a+1) _ _ h1 h2;simp only[eD];refine⟨k1.trans i1,fun d hd=> ?_, ?_⟩
  . rcases zbe.1 hd with hd|hd
    . obtain⟨g0,g1,g2,g3,g4⟩:=k2 d hd;refine⟨by rw[g0,zac];omega, ?_⟩;rw[g0,Int.sub_self];exact⟨g0,g1,g2,g3,g4⟩
    . obtain⟨g0,g1⟩:=i2 d hd;rw[h3]at g1;refine⟨by rw[zac];omega, ?_⟩;rw[show(d.i 0-a).toNat=(d.i 0-(a+1)).toNat+1 by omega];exact g1
  . rw[List.pairwise_append];refine⟨?_,i3,fun d hd e he=> ?_⟩
    . refine List.Pairwise.imp_of_mem (R:=fun _ _=>True) (fun {d e} hd he _=> ?_) (List.pairwise_of_forall fun _ _=>trivial);rw[(k2 d hd).1,(k2 e he).1];exact zb5 _
    . have:=(k2 d hd).1;have:=(i2 e he).1;omega
def dA (u p l r:Int):Int:=min (min (max (u-p) 0) (max (l-r) 0)) (max u 0)
def Xj:aC:=⟨TZ.tab,190,⟨[.int .i64,.int .i64,.int .i64,.int .i64],[],0⟩,⟨[.int .i64],[],0⟩,[]⟩
def t190 (m:Nat):Int × Int × Int × Int->Option (List Un):=fun(a0,a1,a2,a3)=>
 lt ((if (w64 (a0-a1))<0 then 0 else(w64 (a0-a1))):Int) fun x1=>
 lt ((if (w64 (a2-a3))<0 then 0 else(w64 (a2-a3))):Int) fun x2=>
 lt ((if a0<0 then 0 else a0):Int) fun x3=>
 some ([.i (if x3<(if x2<x1 then x2 else x1)then x3 else(if x2<x1 then x2 else x1))])
def f190:Int × Int × Int × Int->Bool × List Un:=fun(a0,a1,a2,a3)=>(decide ((-1152921504606846976<=a0/\a0<=1152921504606846976)/\(-1152921504606846976<=a1/\a1<=1152921504606846976)/\(-1152921504606846976<=a2/\a2<=1152921504606846976)/\(-1152921504606846976<=a3/\a3<=1152921504606846976)),[.i (dA a0 a1 a2 a3)])
theorem RH (a0:Int) (a1:Int) (a2:Int) (a3:Int) (hc:(decide ((-1152921504606846976<=a0/\a0<=1152921504606846976)/\(-1152921504606846976<=a1/\a1<=1152921504606846976)/\(-1152921504606846976<=a2/\a2<=1152921504606846976)/\(-1152921504606846976<=a3/\a3<=1152921504606846976)))=true):∃m,t190 m (a0,a1,a2,a3)=some ([.i (dA a0 a1 a2 a3)]):=by
 have h:=zaj hc;refine⟨0, ?_⟩;unfold t190 dA;simp only[lt_eq];rw[ab (n:=a0-a1) (by omega) (by omega),ab (n:=a2-a3) (by omega) (by omega)]
 congr 3
 omega
theorem N5:ER 190 (mkE Xj.en Xj.ex f190):=an ae TZ.right (fun m=>[]) (t:=t190) (by kernel_rfl) (fun m=>aB) (fun m a=>by kernel_rfl) fun(a0,a1,a2,a3) hc=>RH a0 a1 a2 a3 hc
def Pp:Tb Tryz.prog LQ TE XX:=TZ.add 190 _ N5
def cM (n:Int):Nat->List Int
 |0=>[]
 |k+1=>n::cM (n+1) k
theorem iu:∀(k:Nat) (n:Int),(cM n k).length=k
 |0,_=>rfl
 |k+1,n=>by simp[cM,iu k]
theorem Aq:∀(k j:Nat) (n:Int),j<k->(cM n k).getD j 0=n+j
 |0,j,n,h=>by omega
 |k+1,0,n,h=>by simp[cM]
 |k+1,j+1,n,h=>by
  simp only[cM,zaD,Aq k j (n+1) (by omega)];omega
theorem Dj {c:List Dat} {i:Nat} (h:i<c.length):(cM 0 c.length).getD i 0=(i:Int):=by rw[Aq _ _ _ h];omega
theorem cA {c:List Dat} {i:Nat} (h:i<c.length) (hg:∀d∈c,aO d=true):aO (ag c i)=true:=hg _ (rA h)
theorem Mq {d:Dat} (h:aO d=true):w64 (w64 (d.i 1-w64 (d.i 3-d.i 4))-d.i 6)=aW d:=by
 have:=cC h;rw[ab (n:=d.i 3-d.i 4) (by omega) (by omega),ab (n:=d.i 1-_) (by omega) (by omega),ab (by omega) (by omega)];rfl
theorem Ak (j:Nat):∀(c:List Dat) (i:Nat),i<c.length->al j (c.drop i)=(ag c i).i j+al j (c.drop (i+1))
 |[],i,h=>by simp at h
 |d::c,0,_=>by simp[al,ag]
 |d::c,i+1,h=>by
  have:=Ak j c i (by simpa using h);simpa[ag]using this
def Tg:aC:=⟨Pp.tab,214,⟨[.buf 0 1],[.eS 1 7 0,.af (sI 7)],2⟩,⟨[.int .i64],[.eS 1 7 0,.af (sI 7)],2⟩,[]⟩
abbrev Dr:Type:=Int × Int × Int × List Int × List Dat
def wO (m:Nat) (k:Dr->Option (List Un)):Dr->Option (List Un):=fun(a0,a1,a2,a3,a4)=>
 bif decide (a2<a1)then
 chk (inb a2 a3.length)<|
 chk (decide (a2.toNat<a3.length))<|
 bif (!((decide ((a3.getD a2.toNat 0)<0))&&true))then
 chk (decide (0<=(a3.getD a2.toNat 0)))<|
 chk (decide ((a3.getD a2.toNat 0).toNat<a4.length))<|
 k ((w64 (a0+((ag a4 ((a3.getD a2.toNat 0).toNat)).i 6))),a1,(w64 (a2+1)),a3,a4)
 else
 k (a0,a1,(w64 (a2+1)),a3,a4)
 else
 some ([.i a0,.l a3,.d a4])
def tL (m:Nat):Nat->Dr->Option (List Un):=bq (wO m)
theorem ud (m:Nat) (n:Nat):tL m (n+1)=wO m (tL m n):=rfl
def Hz (F:Dr->Option (List Un)):aU:=⟨[.lp [0,1,0,1,1],.blk 0,.code [1,1,1]],⟨frm 22 [(3,.int .i64),(6,.buf 0 1),(7,.int .i64),(8,.int .i64)],[.eS 1 7 0,.af (sI 7)],2⟩,onU F⟩
theorem Ui (m:Nat):∀n,HO Tg (Hz (tL m n)):=au ae Pp.right (fun k=>[Hz k]) (fun k h=>(aH h aB)) fun k a=>by kernel_rfl
def t214 (m:Nat):List Int × List Dat->Option (List Un):=fun(a0,a1)=>
 tL m m (0,(a0.length:Int),0,a0,a1)
theorem UW (m:Nat) (c:List Dat) (hl:c.length<=1000) (hg:∀d∈c,aO d=true):∀(k i n:Nat) (s:Int),i+k=c.length->k<n->0<=s->s<=1099511627776*i->
 tL m n (s,(c.length:Int),(i:Int),cM 0 c.length,c)=some [.i (s+al 6 (c.drop i)),.l (cM 0 c.length),.d c]:=by
 intro k
 induction k with
 |zero=>
  intro i n s hi hn s0 s1;obtain⟨n,rfl⟩:=ak n (by omega);rw[ud];unfold wO;dsimp only;rw[az (by omega),List.drop_eq_nil_of_le (by omega)];simp[al]
 |succ k ih=>
  intro i n s hi hn s0 s1;obtain⟨n,rfl⟩:=ak n (by omega);have hk:=Dj (c:=c) (i:=i) (by omega);have hL:=iu c.length 0;have hx:=cC (cA (i:=i) (by omega) hg);have:=ih (i+1) n (s+(ag c i).i 6) (by omega) (by omega) (by omega) (by omega);rw[Ak 6 c i (by omega),<-Int.add_assoc];rw[ud];unfold wO;dsimp only;simp only[zay,hk,hL,zbh,za1];simp(disch:=omega) only[TRa,TRi,ab,LNl,LNi,zad];simp only[LNl,LNi,zad]at this⊢;exact this
def f214:List Int × List Dat->Bool × List Un:=fun(a0,a1)=>((decide (a0=cM 0 a1.length))&&(decide (a1.length<=1000)&&a1.all aO),[.i (al 6 a1),.l (a0),.d (a1)])
theorem R0 (a0:List Int) (a1:List Dat) (hc:((decide (a0=cM 0 a1.length))&&(decide (a1.length<=1000)&&a1.all aO))=true):∃m,t214 m (a0,a1)=some ([.i (al 6 a1),.l (a0),.d (a1)]):=by
 simp only[zae,zaf,zao]at hc;obtain⟨rfl,h1,h2⟩:=hc;refine⟨a1.length+1, ?_⟩;unfold t214;dsimp only;rw[iu];exact(UW _ a1 h1 h2 a1.length 0 _ 0 (by omega) (by omega) (by omega) (by simp)).trans (by simp only[za3,zbN])
theorem NI:ER 214 (mkE Tg.en Tg.ex f214):=an ae Pp.right (fun m=>[Hz (tL m m)]) (t:=t214) (by kernel_rfl) (fun m=>(aH (Ui m m) aB)) (fun m a=>by kernel_rfl) fun(a0,a1) hc=>R0 a0 a1 hc
def Se:Tb Tryz.prog LQ TE XX:=Pp.add 214 _ NI
def gU (c:List Dat):Nat->Nat->Int->Int
 |0,_,o=>o
 |k+1,i,o=>gU c k (i+1) (if 0<aW (ag c i)/\(o<0\/(ag c o.toNat).i 0<=(ag c i).i 0)then(i:Int)else o)
theorem Ce (c:List Dat):∀(k i:Nat) (o:Int),i+k=c.length-> -1<=o->o<c.length-> -1<=gU c k i o/\gU c k i o<c.length
 |0,_,o,_,h1,h2=>⟨h1,h2⟩
 |k+1,i,o,h,h1,h2=>by
  unfold gU
  split
  . exact Ce c k (i+1) _ (by omega) (by omega) (by omega)
  . exact Ce c k (i+1) _ (by omega) (by omega) (by omega)
def TC:aC:=⟨Se.tab,215,⟨[.buf 0 1],[.eS 1 7 0,.af (sI 7)],2⟩,⟨[.np 1 7 0],[.eS 1 7 0,.af (sI 7)],2⟩,[]⟩
abbrev Ck:Type:=Int × Int × Int × List Int × List Dat
def v8 (m:Nat) (k:Ck->Option (List Un)):Ck->Option (List Un):=fun(a0,a1,a2,a3,a4)=>
 bif decide (a2<a1)then
 chk (inb a2 a3.length)<|
 chk (decide (a2.toNat<a3.length))<|
 bif (!((decide ((a3.getD a2.toNat 0)<0))&&true))then
 chk (decide (0<=(a3.getD a2.toNat 0)))<|
 chk (decide ((a3.getD a2.toNat 0).toNat<a4.length))<|
 lt (ag a4 ((a3.getD a2.toNat 0).toNat):Dat) fun d2=>
 bif decide ((w64 (w64 ((d2.i 1)-w64 ((d2.i 3)-(d2.i 4)))-(d2.i 6)))>0)then
 bif ((decide (a0<0))&&true)then
 k ((a3.getD a2.toNat 0),a1,(w64 (a2+1)),a3,a4)
 else
 chk (decide (0<=(a3.getD a2.toNat 0)))<|
 chk (decide ((a3.getD a2.toNat 0).toNat<a4.length))<|
 chk (decide (0<=a0))<|
 chk (decide (a0.toNat<a4.length))<|
 bif (decide (((ag a4 ((a3.getD a2.toNat 0).toNat)).i 0)>=((ag a4 a0.toNat).i 0)))then
 k ((a3.getD a2.toNat 0),a1,(w64 (a2+1)),a3,a4)
 else
 k (a0,a1,(w64 (a2+1)),a3,a4)
 else
 k (a0,a1,(w64 (a2+1)),a3,a4)
 else
 k (a0,a1,(w64 (a2+1)),a3,a4)
 else
 some ([.i a0,.l a3,.d a4])
def tA (m:Nat):Nat->Ck->Option (List Un):=bq (v8 m)
theorem ur (m:Nat) (n:Nat):tA m (n+1)=v8 m (tA m n):=rfl
def FG (F:Ck->Option (List Un)):aU:=⟨[.lp [0,1,0,1,1],.blk 0,.code [1,1,1]],⟨frm 41 [(3,.np 1 7 0),(6,.buf 0 1),(7,.int .i64),(8,.int .i64)],[.eS 1 7 0,.af (sI 7)],2⟩,onU F⟩
theorem Vv (m:Nat):∀n,HO TC (FG (tA m n)):=au ae Se.right (fun k=>[FG k]) (fun k h=>(aH h aB)) fun k a=>by kernel_rfl
def t215 (m:Nat):List Int × List Dat->Option (List Un):=fun(a0,a1)=>
 tA m m ((-1),(a0.length:Int),0,a0,a1)
theorem X7 (m:Nat) (c:List Dat) (hl:c.length<=1000) (hg:∀d∈c,aO d=true):∀(k i n:Nat) (o:Int),i+k=c.length->k<n-> -1<=o->o<c.length->
 tA m n (o,(c.length:Int),(i:Int),cM 0 c.length,c)=some [.i (gU c k i o),.l (cM 0 c.length),.d c]:=by
 intro k
 induction k with
 |zero=>
  intro i n o hi hn o0 o1;obtain⟨n,rfl⟩:=ak n (by omega);rw[ur];unfold v8;dsimp only;rw[az (by omega)];rfl
 |succ k ih=>
  intro i n o hi hn o0 o1;obtain⟨n,rfl⟩:=ak n (by omega);have hk:=Dj (c:=c) (i:=i) (by omega);have hL:=iu c.length 0;have hx:=cC (cA (i:=i) (by omega) hg);have ia:=ih (i+1) n (i:Int) (by omega) (by omega) (by omega) (by omega);have ib:=ih (i+1) n o (by omega) (by omega) (by omega) (by omega);rw[ur];unfold v8;dsimp only;unfold gU;have e:=Mq (cA (c:=c) (i:=i) (by omega) hg);simp only[lt_eq,zay,hk,hL,zbh,za1,e,ge_iff_le,gt_iff_lt]
  by_cases h1:0<aW (ag c i)
  . by_cases h2:o<0
    . have hc:0<aW (ag c i)/\(o<0\/(ag c o.toNat).i 0<=(ag c i).i 0):=⟨h1,.inl h2⟩
      rw[if_pos hc];simp(disch:=omega) only[TRa,TRi,ab,LNl,LNi,zad];simp only[zaG,zad]at ia ib⊢;exact ia
    . by_cases h3:(ag c o.toNat).i 0<=(ag c i).i 0
      . have hc:0<aW (ag c i)/\(o<0\/(ag c o.toNat).i 0<=(ag c i).i 0):=⟨h1,.inr h3⟩
        rw[if_pos hc];simp(disch:=omega) only[TRa,TRi,ab,LNl,LNi,zad];simp only[zaG,zad]at ia ib⊢;exact ia
      . have hc:¬(0<aW (ag c i)/\(o<0\/(ag c o.toNat).i 0<=(ag c i).i 0)):=fun h=>h.2.elim h2 h3
        rw[if_neg hc];simp(disch:=omega) only[TRa,TRi,ab,LNl,LNi,zad];simp only[zaG,zad]at ia ib⊢;exact ib
  . have hc:¬(0<aW (ag c i)/\(o<0\/(ag c o.toNat).i 0<=(ag c i).i 0)):=fun h=>h1 h.1
    rw[if_neg hc];simp(disch:=omega) only[TRa,TRi,ab,LNl,LNi,zad];simp only[zaG,zad]at ia ib⊢;exact ib
def f215:List Int × List Dat->Bool × List Un:=fun(a0,a1)=>((decide (a0=cM 0 a1.length))&&(decide (a1.length<=1000)&&a1.all aO),[.i (gU a1 a1.length 0 (-1)),.l (a0),.d (a1)])
theorem PA (a0:List Int) (a1:List Dat) (hc:((decide (a0=cM 0 a1.length))&&(decide (a1.length<=1000)&&a1.all aO))=true):∃m,t215 m (a0,a1)=some ([.i (gU a1 a1.length 0 (-1)),.l (a0),.d (a1)]):=by
 simp only[zae,zaf,zao]at hc;obtain⟨rfl,h1,h2⟩:=hc;refine⟨a1.length+1, ?_⟩;unfold t215;dsimp only;rw[iu];exact X7 _ a1 h1 h2 a1.length 0 _ (-1) (by omega) (by omega) (by omega) (by omega)
theorem NO:ER 215 (mkE TC.en TC.ex f215):=an ae Se.right (fun m=>[FG (tA m m)]) (t:=t215) (by kernel_rfl) (fun m=>(aH (Vv m m) aB)) (fun m a=>by kernel_rfl) fun(a0,a1) hc=>PA a0 a1 hc
def O4:Tb Tryz.prog LQ TE XX:=Se.add 215 _ NO
def gW (c:List Dat):Nat->Nat->Int->Int
 |0,_,o=>o
 |k+1,i,o=>gW c k (i+1) (if 0<(ag c i).i 6/\(o<0\/(ag c i).i 0<(ag c o.toNat).i 0)then(i:Int)else o)
theorem Bj (c:List Dat):∀(k i:Nat) (o:Int),i+k=c.length-> -1<=o->o<c.length-> -1<=gW c k i o/\gW c k i o<c.length
 |0,_,o,_,h1,h2=>⟨h1,h2⟩
 |k+1,i,o,h,h1,h2=>by
  unfold gW
  split
  . exact Bj c k (i+1) _ (by omega) (by omega) (by omega)
  . exact Bj c k (i+1) _ (by omega) (by omega) (by omega)
def UY:aC:=⟨O4.tab,217,⟨[.buf 0 1],[.eS 1 7 0,.af (sI 7)],2⟩,⟨[.np 1 7 0],[.eS 1 7 0,.af (sI 7)],2⟩,[]⟩
abbrev Cq:Type:=Int × Int × Int × List Int × List Dat
def wK (m:Nat) (k:Cq->Option (List Un)):Cq->Option (List Un):=fun(a0,a1,a2,a3,a4)=>
 bif decide (a2<a1)then
 chk (inb a2 a3.length)<|
 chk (decide (a2.toNat<a3.length))<|
 bif (!((decide ((a3.getD a2.toNat 0)<0))&&true))then
 chk (decide (0<=(a3.getD a2.toNat 0)))<|
 chk (decide ((a3.getD a2.toNat 0).toNat<a4.length))<|
 bif decide (((ag a4 ((a3.getD a2.toNat 0).toNat)).i 6)>0)then
 bif ((decide (a0<0))&&true)then
 k ((a3.getD a2.toNat 0),a1,(w64 (a2+1)),a3,a4)
 else
 chk (decide (0<=(a3.getD a2.toNat 0)))<|
 chk (decide ((a3.getD a2.toNat 0).toNat<a4.length))<|
 chk (decide (0<=a0))<|
 chk (decide (a0.toNat<a4.length))<|
 bif (decide (((ag a4 ((a3.getD a2.toNat 0).toNat)).i 0)<((ag a4 a0.toNat).i 0)))then
 k ((a3.getD a2.toNat 0),a1,(w64 (a2+1)),a3,a4)
 else
 k (a0,a1,(w64 (a2+1)),a3,a4)
 else
 k (a0,a1,(w64 (a2+1)),a3,a4)
 else
 k (a0,a1,(w64 (a2+1)),a3,a4)
 else
 some ([.i a0,.l a3,.d a4])
def sZ (m:Nat):Nat->Cq->Option (List Un):=bq (wK m)
theorem um (m:Nat) (n:Nat):sZ m (n+1)=wK m (sZ m n):=rfl
def Hg (F:Cq->Option (List Un)):aU:=⟨[.lp [0,1,0,1,1],.blk 0,.code [1,1,1]],⟨frm 41 [(3,.np 1 7 0),(6,.buf 0 1),(7,.int .i64),(8,.int .i64)],[.eS 1 7 0,.af (sI 7)],2⟩,onU F⟩
theorem WH (m:Nat):∀n,HO UY (Hg (sZ m n)):=au ae O4.right (fun k=>[Hg k]) (fun k h=>(aH h aB)) fun k a=>by kernel_rfl
def t217 (m:Nat):List Int × List Dat->Option (List Un):=fun(a0,a1)=>
 sZ m m ((-1),(a0.length:Int),0,a0,a1)
theorem Yt (m:Nat) (c:List Dat) (hl:c.length<=1000) (hg:∀d∈c,aO d=true):∀(k i n:Nat) (o:Int),i+k=c.length->k<n-> -1<=o->o<c.length->
 sZ m n (o,(c.length:Int),(i:Int),cM 0 c.length,c)=some [.i (gW c k i o),.l (cM 0 c.length),.d c]:=by
 intro k
 induction k with
 |zero=>
  intro i n o hi hn o0 o1;obtain⟨n,rfl⟩:=ak n (by omega);rw[um];unfold wK;dsimp only;rw[az (by omega)];rfl
 |succ k ih=>
  intro i n o hi hn o0 o1;obtain⟨n,rfl⟩:=ak n (by omega);have hk:=Dj (c:=c) (i:=i) (by omega);have hL:=iu c.length 0;have hx:=cC (cA (i:=i) (by omega) hg);have ia:=ih (i+1) n (i:Int) (by omega) (by omega) (by omega) (by omega);have ib:=ih (i+1) n o (by omega) (by omega) (by omega) (by omega);rw[um];unfold wK;dsimp only;unfold gW;have e:=Mq (cA (c:=c) (i:=i) (by omega) hg);simp only[lt_eq,zay,hk,hL,zbh,za1,e,ge_iff_le,gt_iff_lt]
  by_cases h1:0<(ag c i).i 6
  . by_cases h2:o<0
    . have hc:0<(ag c i).i 6/\(o<0\/(ag c i).i 0<(ag c o.toNat).i 0):=⟨h1,.inl h2⟩
      rw[if_pos hc];simp(disch:=omega) only[TRa,TRi,ab,LNl,LNi,zad];simp only[zaG,zad]at ia ib⊢;exact ia
    . by_cases h3:(ag c i).i 0<(ag c o.toNat).i 0
      . have hc:0<(ag c i).i 6/\(o<0\/(ag c i).i 0<(ag c o.toNat).i 0):=⟨h1,.inr h3⟩
        rw[if_pos hc];simp(disch:=omega) only[TRa,TRi,ab,LNl,LNi,zad];simp only[zaG,zad]at ia ib⊢;exact ia
      . have hc:¬(0<(ag c i).i 6/\(o<0\/(ag c i).i 0<(ag c o.toNat).i 0)):=fun h=>h.2.elim h2 h3
        rw[if_neg hc];simp(disch:=omega) only[TRa,TRi,ab,LNl,LNi,zad];simp only[zaG,zad]at ia ib⊢;exact ib
  . have hc:¬(0<(ag c i).i 6/\(o<0\/(ag c i).i 0<(ag c o.toNat).i 0)):=fun h=>h1 h.1
    rw[if_neg hc];simp(disch:=omega) only[TRa,TRi,ab,LNl,LNi,zad];simp only[zaG,zad]at ia ib⊢;exact ib
def f217:List Int × List Dat->Bool × List Un:=fun(a0,a1)=>((decide (a0=cM 0 a1.length))&&(decide (a1.length<=1000)&&a1.all aO),[.i (gW a1 a1.length 0 (-1)),.l (a0),.d (a1)])
theorem QJ (a0:List Int) (a1:List Dat) (hc:((decide (a0=cM 0 a1.length))&&(decide (a1.length<=1000)&&a1.all aO))=true):∃m,t217 m (a0,a1)=some ([.i (gW a1 a1.length 0 (-1)),.l (a0),.d (a1)]):=by
 simp only[zae,zaf,zao]at hc;obtain⟨rfl,h1,h2⟩:=hc;refine⟨a1.length+1, ?_⟩;unfold t217;dsimp only;rw[iu];exact Yt _ a1 h1 h2 a1.length 0 _ (-1) (by omega) (by omega) (by omega) (by omega)
theorem LJ:ER 217 (mkE UY.en UY.ex f217):=an ae O4.right (fun m=>[Hg (sZ m m)]) (t:=t217) (by kernel_rfl) (fun m=>(aH (WH m m) aB)) (fun m a=>by kernel_rfl) fun(a0,a1) hc=>QJ a0 a1 hc
def OD:Tb Tryz.prog LQ TE XX:=O4.add 217 _ LJ
theorem oN (i:Nat) (y:Dat):∀(l:List Dat) (j:Nat),j<l.length->al i (l.set j y)=al i l-(ag l j).i i+y.i i
 |[],j,h=>by simp at h
 |d::l,0,h=>by simp only[List.set_cons_zero,al,ag,zaO];omega
 |d::l,j+1,h=>by
  have:=oN i y l j (by simpa using h);simp only[ag]at this;simp only[zbZ,al,ag,zaD,this];omega
theorem yE {l:List Dat} {j:Nat} {y:Dat} (h:j<l.length):ag (l.set j y) j=y:=by
 unfold ag;rw[zag,List.getElem?_set_self h];rfl
theorem oT {l:List Dat} {j i:Nat} {y:Dat} (h:i≠j):ag (l.set j y) i=ag l i:=by
 unfold ag;rw[zag,zag,List.getElem?_set_ne (by omega)]
def BG (p:Dat->Prop) [DecidablePred p]:List Dat->Nat
 |[]=>0
 |d::l=>(if p d then 1 else 0)+BG p l
theorem Bt (p:Dat->Prop) [DecidablePred p]:∀l:List Dat,BG p l<=l.length
 |[]=>zam _
 |d::l=>by have:=Bt p l;simp only[BG,zac];split<;>omega
theorem yQ (p:Dat->Prop) [DecidablePred p] (y:Dat) (hy:¬p y):∀(l:List Dat) (j:Nat),j<l.length->p (ag l j)->BG p (l.set j y)+1=BG p l
 |[],j,h,_=>by simp at h
 |d::l,0,h,hp=>by
  have hp:p d:=hp;simp only[List.set_cons_zero,BG,if_neg hy,if_pos hp];omega
 |d::l,j+1,h,hp=>by
  have:=yQ p y hy l j (by simpa using h) hp;simp only[zbZ,BG];omega
def eB (c:List Dat):Prop:=c.length<=1000/\∀d∈c,aO d=true
theorem eL {c:List Dat} (h:eB c):(decide (c.length<=1000)&&c.all aO)=true:=by
 rw[zae,zao];exact⟨zaa h.1,h.2⟩
theorem pt {c:List Dat} {j:Nat} {y:Dat} (h:eB c) (hy:aO y=true):eB (c.set j y):=⟨by rw[zbk];exact h.1,IU h.2 hy⟩
theorem wb (c:List Dat):∀(k i:Nat) (o:Int),i+k=c.length->(o<0\/0<aW (ag c o.toNat))->(gU c k i o<0->o<0/\∀j,i<=j->j<c.length->aW (ag c j)<=0)/\(0<=gU c k i o->0<aW (ag c (gU c k i o).toNat))
 |0,i,o,h,ho=>⟨fun h1=>⟨h1,fun j h2 h3=>by omega⟩,fun h1=>by simp only[gU]at h1⊢;omega⟩
 |k+1,i,o,h,ho=>by
  unfold gU
  split
  . rename_i hc;obtain⟨a,b⟩:=wb c k (i+1) (i:Int) (by omega) (.inr (by rw[zay];exact hc.1));exact⟨fun h1=>by have:=(a h1).1;omega,b⟩
  . rename_i hc;obtain⟨a,b⟩:=wb c k (i+1) o (by omega) ho;refine⟨fun h1=>⟨(a h1).1,fun j h2 h3=> ?_⟩,b⟩
    by_cases hj:j=i
    . subst hj;have:=(a h1).1;omega
    . exact(a h1).2 j (by omega) h3
theorem vS (c:List Dat):∀(k i:Nat) (o:Int),i+k=c.length->(o<0\/0<(ag c o.toNat).i 6)->(gW c k i o<0->o<0/\∀j,i<=j->j<c.length->(ag c j).i 6<=0)/\(0<=gW c k i o->0<(ag c (gW c k i o).toNat).i 6)
 |0,i,o,h,ho=>⟨fun h1=>⟨h1,fun j h2 h3=>by omega⟩,fun h1=>by simp only[gW]at h1⊢;omega⟩
 |k+1,i,o,h,ho=>by
  unfold gW
  split
  . rename_i hc;obtain⟨a,b⟩:=vS c k (i+1) (i:Int) (by omega) (.inr (by rw[zay];exact hc.1));exact⟨fun h1=>by have:=(a h1).1;omega,b⟩
  . rename_i hc;obtain⟨a,b⟩:=vS c k (i+1) o (by omega) ho;refine⟨fun h1=>⟨(a h1).1,fun j h2 h3=> ?_⟩,b⟩
    by_cases hj:j=i
    . subst hj;have:=(a h1).1;omega
    . exact(a h1).2 j (by omega) h3
def vJ:Nat->Int->List Dat->List Dat
 |0,_,c=>c
 |k+1,t,c=>if al 6 c<t then(if gU c c.length 0 (-1)<0 then c else vJ k t (c.set (gU c c.length 0 (-1)).toNat (fk (t-al 6 c) (ag c (gU c c.length 0 (-1)).toNat))))else c
def sH:Nat->Int->List Dat->List Dat
 |0,_,c=>c
 |k+1,t,c=>if t<al 6 c then(if gW c c.length 0 (-1)<0 then c else sH k t (c.set (gW c c.length 0 (-1)).toNat (iE (al 6 c-t) (ag c (gW c c.length 0 (-1)).toNat))))else c
def hG (t:Int) (c:List Dat):List Dat:=sH (c.length+2) (max t 0) (vJ (c.length+2) (max t 0) c)
theorem Na (w:Int) (d:Dat):(fk w d).i 6=d.i 6+oL w d/\aW (fk w d)=aW d-oL w d:=by
 simp only[fk,aW,fP,gL,yu,qM];exact⟨trivial,by omega⟩
theorem RP (w:Int) (d:Dat):(iE w d).i 6=d.i 6-oz w d:=by
 simp only[iE,qM]
def yr (t:Int) (c:List Dat):Nat:=if al 6 c<t then BG (fun d=>0<aW d) c+1 else 0
def zy (t:Int) (c:List Dat):Nat:=if t<al 6 c then BG (fun d=>0<d.i 6) c+1 else 0
theorem SZ {t:Int} {c:List Dat} (hg:eB c) (hs:al 6 c<t) (hj:0<=gU c c.length 0 (-1)):
 (gU c c.length 0 (-1)).toNat<c.length/\eB (c.set (gU c c.length 0 (-1)).toNat (fk (t-al 6 c) (ag c (gU c c.length 0 (-1)).toNat)))/\yr t (c.set (gU c c.length 0 (-1)).toNat (fk (t-al 6 c) (ag c (gU c c.length 0 (-1)).toNat)))<yr t c/\
 al 6 (c.set (gU c c.length 0 (-1)).toNat (fk (t-al 6 c) (ag c (gU c c.length 0 (-1)).toNat)))<=t:=by
 have h1:=Ce c c.length 0 (-1) (by omega) (by omega) (by omega);have h2:=(wb c c.length 0 (-1) (by omega) (.inl (by omega))).2 hj;generalize gU c c.length 0 (-1)=o at*
 have h3:o.toNat<c.length:=by omega
 have hn:=cA h3 hg.2;have e6:=Na (t-al 6 c) (ag c o.toNat);have es:=oN 6 (fk (t-al 6 c) (ag c o.toNat)) c o.toNat h3;have hp:oL (t-al 6 c) (ag c o.toNat)=min (t-al 6 c) (aW (ag c o.toNat)):=by unfold oL;omega
 refine⟨h3,pt hg (EW _ hn), ?_,by omega⟩;unfold yr;rw[if_pos hs]
 split
 . rename_i hlt;have:=yQ (fun d=>0<aW d) (fk (t-al 6 c) (ag c o.toNat)) (by show ¬0<aW _;omega) c o.toNat h3 h2;omega
 . omega
theorem Te {t:Int} {c:List Dat} (hg:eB c) (hs:t<al 6 c) (hj:0<=gW c c.length 0 (-1)):
 (gW c c.length 0 (-1)).toNat<c.length/\eB (c.set (gW c c.length 0 (-1)).toNat (iE (al 6 c-t) (ag c (gW c c.length 0 (-1)).toNat)))/\zy t (c.set (gW c c.length 0 (-1)).toNat (iE (al 6 c-t) (ag c (gW c c.length 0 (-1)).toNat)))<zy t c/\
 t<=al 6 (c.set (gW c c.length 0 (-1)).toNat (iE (al 6 c-t) (ag c (gW c c.length 0 (-1)).toNat))):=by
 have h1:=Bj c c.length 0 (-1) (by omega) (by omega) (by omega);have h2:=(vS c c.length 0 (-1) (by omega) (.inl (by omega))).2 hj;generalize gW c c.length 0 (-1)=o at*
 have h3:o.toNat<c.length:=by omega
 have hn:=cA h3 hg.2;have e6:=RP (al 6 c-t) (ag c o.toNat);have es:=oN 6 (iE (al 6 c-t) (ag c o.toNat)) c o.toNat h3;have hp:oz (al 6 c-t) (ag c o.toNat)=min (al 6 c-t) ((ag c o.toNat).i 6):=by unfold oz;omega
 refine⟨h3,pt hg (GN _ hn), ?_,by omega⟩;unfold zy;rw[if_pos hs]
 split
 . rename_i hlt;have:=yQ (fun d=>0<d.i 6) (iE (al 6 c-t) (ag c o.toNat)) (by show ¬0<(iE _ _).i 6;omega) c o.toNat h3 h2;omega
 . omega
theorem Dv (t:Int) (c:List Dat):yr t c<c.length+2:=by
 have:=Bt (fun d=>0<aW d) c;unfold yr;split<;>omega
theorem EA (t:Int) (c:List Dat):zy t c<c.length+2:=by
 have:=Bt (fun d=>0<d.i 6) c;unfold zy;split<;>omega
theorem E6 {c:List Dat} (hg:eB c):0<=al 6 c/\al 6 c<=1125899906842624000:=by
 have:=(iW c hg.2).2.2.1;have:=hg.1;omega
def Sr:aC:=⟨OD.tab,189,⟨[.int .i64,.buf 0 1],[.eS 1 7 0,.af (sI 7)],0⟩,⟨[.int .i64],[.eS 1 7 0,.af (sI 7)],0⟩,[]⟩
abbrev C9:Type:=Int × Int × List Int × List Dat
abbrev Dc:Type:=Int × Int × List Int × List Dat
def C1 (m:Nat) (k:C9->Option (List Un)):C9->Option (List Un):=fun(a0,a1,a2,a3)=>
 bif decide (a1>a0)then
 chk ((decide (a2=cM 0 a3.length))&&(decide (a3.length<=1000)&&a3.all aO))<|
 lt ((gW a3 a3.length 0 (-1)):Int) fun x6=>
 bif ((decide (x6<0))&&true)then
 some ([.i a1,.l a2,.d a3])
 else
 chk (decide (0<=x6/\x6.toNat<a3.length)&&aO (ag a3 x6.toNat))<|
 lt ((a3.set x6.toNat (iE (w64 (a1-a0)) (ag a3 x6.toNat))):List Dat) fun l9=>
 chk ((decide (a2=cM 0 l9.length))&&(decide (l9.length<=1000)&&l9.all aO))<|
 k (a0,(al 6 l9),a2,l9)
 else
 chk ((decide (a2=cM 0 a3.length))&&(decide (a3.length<=1000)&&a3.all aO))<|
 some ([.i (al 6 a3),.l a2,.d a3])
def sX (m:Nat):Nat->C9->Option (List Un):=bq (C1 m)
theorem DG (m:Nat) (n:Nat):sX m (n+1)=C1 m (sX m n):=rfl
def HP (F:C9->Option (List Un)):aU:=⟨[.lp [0,1,0,1,1,1],.blk 2,.code [1,1,1,1]],⟨frm 47 [(0,.int .i64),(1,.buf 0 1),(7,.int .i64)],[.eS 1 7 0,.af (sI 7)],0⟩,onU F⟩
def Cp (m:Nat) (k:Dc->Option (List Un)):Dc->Option (List Un):=fun(a0,a1,a2,a3)=>
 bif decide (a1<a0)then
 chk ((decide (a2=cM 0 a3.length))&&(decide (a3.length<=1000)&&a3.all aO))<|
 lt ((gU a3 a3.length 0 (-1)):Int) fun x2=>
 bif ((decide (x2<0))&&true)then
 some ([.i a1,.l a2,.d a3])
 else
 chk (decide (0<=x2/\x2.toNat<a3.length)&&aO (ag a3 x2.toNat))<|
 lt ((a3.set x2.toNat (fk (w64 (a0-a1)) (ag a3 x2.toNat))):List Dat) fun l5=>
 chk ((decide (a2=cM 0 l5.length))&&(decide (l5.length<=1000)&&l5.all aO))<|
 k (a0,(al 6 l5),a2,l5)
 else
 chk ((decide (a2=cM 0 a3.length))&&(decide (a3.length<=1000)&&a3.all aO))<|
 sX m m (a0,(al 6 a3),a2,a3)
def sV (m:Nat):Nat->Dc->Option (List Un):=bq (Cp m)
theorem Fu (m:Nat) (n:Nat):sV m (n+1)=Cp m (sV m n):=rfl
def FK (F:Dc->Option (List Un)):aU:=⟨[.lp [0,1,0,1,1],.blk 0,.code [1,1,1]],⟨frm 47 [(0,.int .i64),(1,.buf 0 1),(5,.int .i64)],[.eS 1 7 0,.af (sI 7)],0⟩,onU F⟩
theorem U5 (m:Nat):∀n,HO Sr (HP (sX m n)):=au ae OD.right (fun k=>[HP k]) (fun k h=>(aH h aB)) fun k a=>by kernel_rfl
theorem Wg (m:Nat):∀n,HO Sr (FK (sV m n)):=au ae OD.right (fun k=>[FK k,HP (sX m m)]) (fun k h=>(aH h (aH (U5 m m) aB))) fun k a=>by kernel_rfl
def t189 (m:Nat):Int × List Int × List Dat->Option (List Un):=fun(a0,a1,a2)=>
 chk ((decide (a1=cM 0 a2.length))&&(decide (a2.length<=1000)&&a2.all aO))<|
 sV m m ((if a0<0 then 0 else a0),(al 6 a2),a1,a2)
theorem YN (m:Nat) (t:Int) (h0:0<=t) (h1:t<=1152921504606846976):∀(k n:Nat) (c:List Dat),zy t c<k->k<=n->eB c->
 sX m n (t,al 6 c,cM 0 c.length,c)=some [.i (al 6 (sH k t c)),.l (cM 0 c.length),.d (sH k t c)]:=by
 intro k
 induction k with
 |zero=>intro n c h;omega
 |succ k ih=>
  intro n c hm hn hg;obtain⟨n,rfl⟩:=ak n (by omega);have hgb:=eL hg;have hb:=E6 hg;unfold sH;rw[DG];unfold C1;dsimp only;simp only[hgb,zbh,za1,gt_iff_lt]
  by_cases hs:t<al 6 c
  . rw[if_pos hs,aQ hs,kh]
    by_cases hj:gW c c.length 0 (-1)<0
    . rw[if_pos hj];simp only[lt_eq];rw[aQ hj]
    . rw[if_neg hj];obtain⟨a1,a2,a3,a4⟩:=Te hg hs (by omega);have a5:=eL a2;have:=ih n _ (by omega) (by omega) a2;rw[zbk]at this;simp only[lt_eq];have hnr:=cA a1 hg.2;rw[az hj,ab (n:=al 6 c-t) (by omega) (by omega),hnr,zbh,aP ⟨by omega,a1⟩,a5,zbk,zaa rfl,zbg,kh];exact this
  . rw[if_neg hs,az hs,kh]
theorem XF (m:Nat) (t:Int) (h0:0<=t) (h1:t<=1152921504606846976):∀(k n:Nat) (c:List Dat),yr t c<k->k<=n->c.length+2<=m->eB c->
 sV m n (t,al 6 c,cM 0 c.length,c)=some [.i (al 6 (sH (c.length+2) t (vJ k t c))),.l (cM 0 c.length),.d (sH (c.length+2) t (vJ k t c))]:=by
 intro k
 induction k with
 |zero=>intro n c h;omega
 |succ k ih=>
  intro n c hm hn hml hg;obtain⟨n,rfl⟩:=ak n (by omega);have hgb:=eL hg;have hb:=E6 hg;unfold vJ;rw[Fu];unfold Cp;dsimp only;simp only[hgb,zbh,za1]
  by_cases hs:al 6 c<t
  . rw[if_pos hs,aQ hs,kh]
    by_cases hj:gU c c.length 0 (-1)<0
    . rw[if_pos hj];simp only[lt_eq];rw[aQ hj,sH,if_neg (by omega)]
    . rw[if_neg hj];obtain⟨a1,a2,a3,a4⟩:=SZ hg hs (by omega);have a5:=eL a2;have:=ih n _ (by omega) (by omega) (by rw[zbk];exact hml) a2;rw[zbk]at this;simp only[lt_eq];have hnr:=cA a1 hg.2;rw[az hj,ab (n:=t-al 6 c) (by omega) (by omega),hnr,zbh,aP ⟨by omega,a1⟩,a5,zbk,zaa rfl,zbg,kh];exact this
  . rw[if_neg hs,az hs,kh];exact YN m t h0 h1 (c.length+2) m c (EA t c) hml hg
def f189:Int × List Int × List Dat->Bool × List Un:=fun(a0,a1,a2)=>(decide (a0<=1152921504606846976)&&((decide (a1=cM 0 a2.length))&&(decide (a2.length<=1000)&&a2.all aO)),[.i (al 6 (hG a0 a2)),.l (a1),.d (hG a0 a2)])
theorem OK (a0:Int) (a1:List Int) (a2:List Dat) (hc:(decide (a0<=1152921504606846976)&&((decide (a1=cM 0 a2.length))&&(decide (a2.length<=1000)&&a2.all aO)))=true):∃m,t189 m (a0,a1,a2)=some ([.i (al 6 (hG a0 a2)),.l (a1),.d (hG a0 a2)]):=by
 simp only[zae,zaf,zao]at hc;obtain⟨h0,rfl,h1,h2⟩:=hc;have hg:eB a2:=⟨h1,h2⟩
 refine⟨a2.length+2, ?_⟩;unfold t189 hG;dsimp only;rw[eL hg,zaa rfl,mZ,zbg,kh];exact XF _ (max a0 0) (by omega) (by omega) (a2.length+2) _ a2 (Dv _ _) (by omega) (by omega) hg
theorem Nm:ER 189 (mkE Sr.en Sr.ex f189):=an ae OD.right (fun m=>[FK (sV m m)]) (t:=t189) (by kernel_rfl) (fun m=>(aH (Wg m m) aB)) (fun m a=>by kernel_rfl) fun(a0,a1,a2) hc=>OK a0 a1 a2 hc
def Pm:Tb Tryz.prog LQ TE XX:=OD.add 189 _ Nm
end
end Go.Proofs.YtfaojedfnjdnnaaGreat
