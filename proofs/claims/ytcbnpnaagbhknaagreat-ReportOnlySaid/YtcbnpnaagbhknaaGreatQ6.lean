/- Part of a proof: Loss, Closing, ClosePlain, Close, Runs, Lines, TheWord, Record, ReportRuns, Back, Roomy, Only, Own. Conditions: none. -/
import Derived.Test.YtcbnpnaagbhknaaGreatQ5
set_option linter.unusedVariables false
set_option linter.unusedSimpArgs false
set_option linter.unnecessarySimpa false
set_option linter.unusedSectionVars false
namespace Go.Proofs.YtcbnpnaagbhknaaGreat
noncomputable section
open Go Go.Proofs.YtcbnpnaagbhknaaGreat.Ev
set_option maxRecDepth 20000
def dw (u p l r:Int):Int:=min (min (max (u-p) 0) (max (l-r) 0)) (max u 0)
def N85:aE:=⟨T38.tab,85,⟨[.int .i64,.int .i64,.int .i64,.int .i64],[],0⟩,⟨[.int .i64],[],0⟩,[]⟩
def t85 (m:Nat):Int × Int × Int × Int->Option (List Un):=fun(a0,a1,a2,a3)=>
 lt ((if (w64 (a0-a1))<0 then 0 else(w64 (a0-a1))):Int) fun x1=>
 lt ((if (w64 (a2-a3))<0 then 0 else(w64 (a2-a3))):Int) fun x2=>
 lt ((if a0<0 then 0 else a0):Int) fun x3=>
 some ([.i (if x3<(if x2<x1 then x2 else x1)then x3 else(if x2<x1 then x2 else x1))])
def f85:Int × Int × Int × Int->Bool × List Un:=fun(a0,a1,a2,a3)=>(decide ((-1152921504606846976<=a0/\a0<=1152921504606846976)/\(-1152921504606846976<=a1/\a1<=1152921504606846976)/\(-1152921504606846976<=a2/\a2<=1152921504606846976)/\(-1152921504606846976<=a3/\a3<=1152921504606846976)),[.i (dw a0 a1 a2 a3)])
theorem RE (a0:Int) (a1:Int) (a2:Int) (a3:Int) (hc:(decide ((-1152921504606846976<=a0/\a0<=1152921504606846976)/\(-1152921504606846976<=a1/\a1<=1152921504606846976)/\(-1152921504606846976<=a2/\a2<=1152921504606846976)/\(-1152921504606846976<=a3/\a3<=1152921504606846976)))=true):∃m,t85 m (a0,a1,a2,a3)=some ([.i (dw a0 a1 a2 a3)]):=by
 have h:=zaj hc;refine⟨0, ?_⟩;unfold t85 dw;simp only[lt_eq];rw[aa (n:=a0-a1) (by omega) (by omega),aa (n:=a2-a3) (by omega) (by omega)]
 congr 3
 omega
theorem NA:ER 85 (mkE N85.en N85.ex f85):=aq ah T38.right (fun m=>[]) (t:=t85) (by kernel_rfl) (fun m=>aA) (fun m a=>by kernel_rfl) fun(a0,a1,a2,a3) hc=>RE a0 a1 a2 a3 hc
def T85:Tb Tryz.prog LQ TE XX:=T38.add 85 _ NA
def cK (n:Int):Nat->List Int
 |0=>[]
 |k+1=>n::cK (n+1) k
theorem gH:∀(k:Nat) (n:Int),(cK n k).length=k
 |0,_=>rfl
 |k+1,n=>by simp[cK,gH k]
theorem zm:∀(k j:Nat) (n:Int),j<k->(cK n k).getD j 0=n+j
 |0,j,n,h=>by omega
 |k+1,0,n,h=>by simp[cK]
 |k+1,j+1,n,h=>by
  simp only[cK,zaE,zm k j (n+1) (by omega)];omega
theorem Bb {c:List Dat} {i:Nat} (h:i<c.length):(cK 0 c.length).getD i 0=(i:Int):=by rw[zm _ _ _ h];omega
theorem cD {c:List Dat} {i:Nat} (h:i<c.length) (hg:∀d∈c,aU d=true):aU (af c i)=true:=hg _ (qZ h)
theorem NS {d:Dat} (h:aU d=true):w64 (w64 (d.i 1-w64 (d.i 3-d.i 4))-d.i 6)=bo d:=by
 have:=cz h;rw[aa (n:=d.i 3-d.i 4) (by omega) (by omega),aa (n:=d.i 1-_) (by omega) (by omega),aa (by omega) (by omega)];rfl
theorem Ak (j:Nat):∀(c:List Dat) (i:Nat),i<c.length->an j (c.drop i)=(af c i).i j+an j (c.drop (i+1))
 |[],i,h=>by simp at h
 |d::c,0,_=>by simp[an,af]
 |d::c,i+1,h=>by
  have:=Ak j c i (by simpa using h);simpa[af]using this
def RT:aE:=⟨T85.tab,116,⟨[.buf 0 1],[.eB 1 7 0,.ab (sI 7)],2⟩,⟨[.int .i64],[.eB 1 7 0,.ab (sI 7)],2⟩,[]⟩
abbrev Bq:Type:=Int × Int × Int × List Int × List Dat
def uj (m:Nat) (k:Bq->Option (List Un)):Bq->Option (List Un):=fun(a0,a1,a2,a3,a4)=>
 bif decide (a2<a1)then
 chk (inb a2 a3.length)<|
 chk (decide (a2.toNat<a3.length))<|
 bif (!((decide ((a3.getD a2.toNat 0)<0))&&true))then
 chk (decide (0<=(a3.getD a2.toNat 0)))<|
 chk (decide ((a3.getD a2.toNat 0).toNat<a4.length))<|
 k ((w64 (a0+((af a4 ((a3.getD a2.toNat 0).toNat)).i 6))),a1,(w64 (a2+1)),a3,a4)
 else
 k (a0,a1,(w64 (a2+1)),a3,a4)
 else
 some ([.i a0,.l a3,.d a4])
def sm (m:Nat):Nat->Bq->Option (List Un):=bg (uj m)
theorem tM (m:Nat) (n:Nat):sm m (n+1)=uj m (sm m n):=rfl
def ES (F:Bq->Option (List Un)):aQ:=⟨[.lp [0,1,0,1,1],.blk 0,.code [1,1,1]],⟨frm 22 [(3,.int .i64),(6,.buf 0 1),(7,.int .i64),(8,.int .i64)],[.eB 1 7 0,.ab (sI 7)],2⟩,onU F⟩
theorem R5 (m:Nat):∀n,HO RT (ES (sm m n)):=ar ah T85.right (fun k=>[ES k]) (fun k h=>(aH h aA)) fun k a=>by kernel_rfl
def t116 (m:Nat):List Int × List Dat->Option (List Un):=fun(a0,a1)=>
 sm m m (0,(a0.length:Int),0,a0,a1)
theorem SZ (m:Nat) (c:List Dat) (hl:c.length<=1000) (hg:∀d∈c,aU d=true):∀(k i n:Nat) (s:Int),i+k=c.length->k<n->0<=s->s<=1099511627776*i->
 sm m n (s,(c.length:Int),(i:Int),cK 0 c.length,c)=some [.i (s+an 6 (c.drop i)),.l (cK 0 c.length),.d c]:=by
 intro k
 induction k with
 |zero=>
  intro i n s hi hn s0 s1;obtain⟨n,rfl⟩:=ai n (by omega);rw[tM];unfold uj;dsimp only;rw[az (by omega),List.drop_eq_nil_of_le (by omega)];simp[an]
 |succ k ih=>
  intro i n s hi hn s0 s1;obtain⟨n,rfl⟩:=ai n (by omega);have hk:=Bb (c:=c) (i:=i) (by omega);have hL:=gH c.length 0;have hx:=cz (cD (i:=i) (by omega) hg);have:=ih (i+1) n (s+(af c i).i 6) (by omega) (by omega) (by omega) (by omega);rw[Ak 6 c i (by omega),<-Int.add_assoc];rw[tM];unfold uj;dsimp only;simp only[zaz,hk,hL,za9,zaZ];simp(disch:=omega) only[TRa,TRi,aa,LNl,LNi,zaa];simp only[LNl,LNi,zaa]at this⊢;exact this
def f116:List Int × List Dat->Bool × List Un:=fun(a0,a1)=>((decide (a0=cK 0 a1.length))&&(decide (a1.length<=1000)&&a1.all aU),[.i (an 6 a1),.l (a0),.d (a1)])
theorem PD (a0:List Int) (a1:List Dat) (hc:((decide (a0=cK 0 a1.length))&&(decide (a1.length<=1000)&&a1.all aU))=true):∃m,t116 m (a0,a1)=some ([.i (an 6 a1),.l (a0),.d (a1)]):=by
 simp only[zab,zag,zal]at hc;obtain⟨rfl,h1,h2⟩:=hc;refine⟨a1.length+1, ?_⟩;unfold t116;dsimp only;rw[gH];exact(SZ _ a1 h1 h2 a1.length 0 _ 0 (by omega) (by omega) (by omega) (by simp)).trans (by simp only[za0,zb0])
theorem JN:ER 116 (mkE RT.en RT.ex f116):=aq ah T85.right (fun m=>[ES (sm m m)]) (t:=t116) (by kernel_rfl) (fun m=>(aH (R5 m m) aA)) (fun m a=>by kernel_rfl) fun(a0,a1) hc=>PD a0 a1 hc
def OS:Tb Tryz.prog LQ TE XX:=T85.add 116 _ JN
def gz (c:List Dat):Nat->Nat->Int->Int
 |0,_,o=>o
 |k+1,i,o=>gz c k (i+1) (if 0<bo (af c i)/\(o<0\/(af c o.toNat).i 0<=(af c i).i 0)then(i:Int)else o)
theorem CA (c:List Dat):∀(k i:Nat) (o:Int),i+k=c.length-> -1<=o->o<c.length-> -1<=gz c k i o/\gz c k i o<c.length
 |0,_,o,_,h1,h2=>⟨h1,h2⟩
 |k+1,i,o,h,h1,h2=>by
  unfold gz
  split
  . exact CA c k (i+1) _ (by omega) (by omega) (by omega)
  . exact CA c k (i+1) _ (by omega) (by omega) (by omega)
def Qr:aE:=⟨OS.tab,117,⟨[.buf 0 1],[.eB 1 7 0,.ab (sI 7)],2⟩,⟨[.np 1 7 0],[.eB 1 7 0,.ab (sI 7)],2⟩,[]⟩
abbrev CE:Type:=Int × Int × Int × List Int × List Dat
def uM (m:Nat) (k:CE->Option (List Un)):CE->Option (List Un):=fun(a0,a1,a2,a3,a4)=>
 bif decide (a2<a1)then
 chk (inb a2 a3.length)<|
 chk (decide (a2.toNat<a3.length))<|
 bif (!((decide ((a3.getD a2.toNat 0)<0))&&true))then
 chk (decide (0<=(a3.getD a2.toNat 0)))<|
 chk (decide ((a3.getD a2.toNat 0).toNat<a4.length))<|
 lt (af a4 ((a3.getD a2.toNat 0).toNat):Dat) fun d2=>
 bif decide ((w64 (w64 ((d2.i 1)-w64 ((d2.i 3)-(d2.i 4)))-(d2.i 6)))>0)then
 bif ((decide (a0<0))&&true)then
 k ((a3.getD a2.toNat 0),a1,(w64 (a2+1)),a3,a4)
 else
 chk (decide (0<=(a3.getD a2.toNat 0)))<|
 chk (decide ((a3.getD a2.toNat 0).toNat<a4.length))<|
 chk (decide (0<=a0))<|
 chk (decide (a0.toNat<a4.length))<|
 bif (decide (((af a4 ((a3.getD a2.toNat 0).toNat)).i 0)>=((af a4 a0.toNat).i 0)))then
 k ((a3.getD a2.toNat 0),a1,(w64 (a2+1)),a3,a4)
 else
 k (a0,a1,(w64 (a2+1)),a3,a4)
 else
 k (a0,a1,(w64 (a2+1)),a3,a4)
 else
 k (a0,a1,(w64 (a2+1)),a3,a4)
 else
 some ([.i a0,.l a3,.d a4])
def sE (m:Nat):Nat->CE->Option (List Un):=bg (uM m)
theorem te (m:Nat) (n:Nat):sE m (n+1)=uM m (sE m n):=rfl
def EJ (F:CE->Option (List Un)):aQ:=⟨[.lp [0,1,0,1,1],.blk 0,.code [1,1,1]],⟨frm 41 [(3,.np 1 7 0),(6,.buf 0 1),(7,.int .i64),(8,.int .i64)],[.eB 1 7 0,.ab (sI 7)],2⟩,onU F⟩
theorem QM (m:Nat):∀n,HO Qr (EJ (sE m n)):=ar ah OS.right (fun k=>[EJ k]) (fun k h=>(aH h aA)) fun k a=>by kernel_rfl
def t117 (m:Nat):List Int × List Dat->Option (List Un):=fun(a0,a1)=>
 sE m m ((-1),(a0.length:Int),0,a0,a1)
theorem VA (m:Nat) (c:List Dat) (hl:c.length<=1000) (hg:∀d∈c,aU d=true):∀(k i n:Nat) (o:Int),i+k=c.length->k<n-> -1<=o->o<c.length->
 sE m n (o,(c.length:Int),(i:Int),cK 0 c.length,c)=some [.i (gz c k i o),.l (cK 0 c.length),.d c]:=by
 intro k
 induction k with
 |zero=>
  intro i n o hi hn o0 o1;obtain⟨n,rfl⟩:=ai n (by omega);rw[te];unfold uM;dsimp only;rw[az (by omega)];rfl
 |succ k ih=>
  intro i n o hi hn o0 o1;obtain⟨n,rfl⟩:=ai n (by omega);have hk:=Bb (c:=c) (i:=i) (by omega);have hL:=gH c.length 0;have hx:=cz (cD (i:=i) (by omega) hg);have ia:=ih (i+1) n (i:Int) (by omega) (by omega) (by omega) (by omega);have ib:=ih (i+1) n o (by omega) (by omega) (by omega) (by omega);rw[te];unfold uM;dsimp only;unfold gz;have e:=NS (cD (c:=c) (i:=i) (by omega) hg);simp only[lt_eq,zaz,hk,hL,za9,zaZ,e,ge_iff_le,gt_iff_lt]
  by_cases h1:0<bo (af c i)
  . by_cases h2:o<0
    . have hc:0<bo (af c i)/\(o<0\/(af c o.toNat).i 0<=(af c i).i 0):=⟨h1,.inl h2⟩
      rw[if_pos hc];simp(disch:=omega) only[TRa,TRi,aa,LNl,LNi,zaa];simp only[zaD,zaa]at ia ib⊢;exact ia
    . by_cases h3:(af c o.toNat).i 0<=(af c i).i 0
      . have hc:0<bo (af c i)/\(o<0\/(af c o.toNat).i 0<=(af c i).i 0):=⟨h1,.inr h3⟩
        rw[if_pos hc];simp(disch:=omega) only[TRa,TRi,aa,LNl,LNi,zaa];simp only[zaD,zaa]at ia ib⊢;exact ia
      . have hc:¬(0<bo (af c i)/\(o<0\/(af c o.toNat).i 0<=(af c i).i 0)):=fun h=>h.2.elim h2 h3
        rw[if_neg hc];simp(disch:=omega) only[TRa,TRi,aa,LNl,LNi,zaa];simp only[zaD,zaa]at ia ib⊢;exact ib
  . have hc:¬(0<bo (af c i)/\(o<0\/(af c o.toNat).i 0<=(af c i).i 0)):=fun h=>h1 h.1
    rw[if_neg hc];simp(disch:=omega) only[TRa,TRi,aa,LNl,LNi,zaa];simp only[zaD,zaa]at ia ib⊢;exact ib
def f117:List Int × List Dat->Bool × List Un:=fun(a0,a1)=>((decide (a0=cK 0 a1.length))&&(decide (a1.length<=1000)&&a1.all aU),[.i (gz a1 a1.length 0 (-1)),.l (a0),.d (a1)])
theorem OD (a0:List Int) (a1:List Dat) (hc:((decide (a0=cK 0 a1.length))&&(decide (a1.length<=1000)&&a1.all aU))=true):∃m,t117 m (a0,a1)=some ([.i (gz a1 a1.length 0 (-1)),.l (a0),.d (a1)]):=by
 simp only[zab,zag,zal]at hc;obtain⟨rfl,h1,h2⟩:=hc;refine⟨a1.length+1, ?_⟩;unfold t117;dsimp only;rw[gH];exact VA _ a1 h1 h2 a1.length 0 _ (-1) (by omega) (by omega) (by omega) (by omega)
theorem J7:ER 117 (mkE Qr.en Qr.ex f117):=aq ah OS.right (fun m=>[EJ (sE m m)]) (t:=t117) (by kernel_rfl) (fun m=>(aH (QM m m) aA)) (fun m a=>by kernel_rfl) fun(a0,a1) hc=>OD a0 a1 hc
def Ml:Tb Tryz.prog LQ TE XX:=OS.add 117 _ J7
def gu (c:List Dat):Nat->Nat->Int->Int
 |0,_,o=>o
 |k+1,i,o=>gu c k (i+1) (if 0<(af c i).i 6/\(o<0\/(af c i).i 0<(af c o.toNat).i 0)then(i:Int)else o)
theorem AU (c:List Dat):∀(k i:Nat) (o:Int),i+k=c.length-> -1<=o->o<c.length-> -1<=gu c k i o/\gu c k i o<c.length
 |0,_,o,_,h1,h2=>⟨h1,h2⟩
 |k+1,i,o,h,h1,h2=>by
  unfold gu
  split
  . exact AU c k (i+1) _ (by omega) (by omega) (by omega)
  . exact AU c k (i+1) _ (by omega) (by omega) (by omega)
def Qh:aE:=⟨Ml.tab,119,⟨[.buf 0 1],[.eB 1 7 0,.ab (sI 7)],2⟩,⟨[.np 1 7 0],[.eB 1 7 0,.ab (sI 7)],2⟩,[]⟩
abbrev Co:Type:=Int × Int × Int × List Int × List Dat
def ux (m:Nat) (k:Co->Option (List Un)):Co->Option (List Un):=fun(a0,a1,a2,a3,a4)=>
 bif decide (a2<a1)then
 chk (inb a2 a3.length)<|
 chk (decide (a2.toNat<a3.length))<|
 bif (!((decide ((a3.getD a2.toNat 0)<0))&&true))then
 chk (decide (0<=(a3.getD a2.toNat 0)))<|
 chk (decide ((a3.getD a2.toNat 0).toNat<a4.length))<|
 bif decide (((af a4 ((a3.getD a2.toNat 0).toNat)).i 6)>0)then
 bif ((decide (a0<0))&&true)then
 k ((a3.getD a2.toNat 0),a1,(w64 (a2+1)),a3,a4)
 else
 chk (decide (0<=(a3.getD a2.toNat 0)))<|
 chk (decide ((a3.getD a2.toNat 0).toNat<a4.length))<|
 chk (decide (0<=a0))<|
 chk (decide (a0.toNat<a4.length))<|
 bif (decide (((af a4 ((a3.getD a2.toNat 0).toNat)).i 0)<((af a4 a0.toNat).i 0)))then
 k ((a3.getD a2.toNat 0),a1,(w64 (a2+1)),a3,a4)
 else
 k (a0,a1,(w64 (a2+1)),a3,a4)
 else
 k (a0,a1,(w64 (a2+1)),a3,a4)
 else
 k (a0,a1,(w64 (a2+1)),a3,a4)
 else
 some ([.i a0,.l a3,.d a4])
def sH (m:Nat):Nat->Co->Option (List Un):=bg (ux m)
theorem tZ (m:Nat) (n:Nat):sH m (n+1)=ux m (sH m n):=rfl
def Fv (F:Co->Option (List Un)):aQ:=⟨[.lp [0,1,0,1,1],.blk 0,.code [1,1,1]],⟨frm 41 [(3,.np 1 7 0),(6,.buf 0 1),(7,.int .i64),(8,.int .i64)],[.eB 1 7 0,.ab (sI 7)],2⟩,onU F⟩
theorem SG (m:Nat):∀n,HO Qh (Fv (sH m n)):=ar ah Ml.right (fun k=>[Fv k]) (fun k h=>(aH h aA)) fun k a=>by kernel_rfl
def t119 (m:Nat):List Int × List Dat->Option (List Un):=fun(a0,a1)=>
 sH m m ((-1),(a0.length:Int),0,a0,a1)
theorem UH (m:Nat) (c:List Dat) (hl:c.length<=1000) (hg:∀d∈c,aU d=true):∀(k i n:Nat) (o:Int),i+k=c.length->k<n-> -1<=o->o<c.length->
 sH m n (o,(c.length:Int),(i:Int),cK 0 c.length,c)=some [.i (gu c k i o),.l (cK 0 c.length),.d c]:=by
 intro k
 induction k with
 |zero=>
  intro i n o hi hn o0 o1;obtain⟨n,rfl⟩:=ai n (by omega);rw[tZ];unfold ux;dsimp only;rw[az (by omega)];rfl
 |succ k ih=>
  intro i n o hi hn o0 o1;obtain⟨n,rfl⟩:=ai n (by omega);have hk:=Bb (c:=c) (i:=i) (by omega);have hL:=gH c.length 0;have hx:=cz (cD (i:=i) (by omega) hg);have ia:=ih (i+1) n (i:Int) (by omega) (by omega) (by omega) (by omega);have ib:=ih (i+1) n o (by omega) (by omega) (by omega) (by omega);rw[tZ];unfold ux;dsimp only;unfold gu;have e:=NS (cD (c:=c) (i:=i) (by omega) hg);simp only[lt_eq,zaz,hk,hL,za9,zaZ,e,ge_iff_le,gt_iff_lt]
  by_cases h1:0<(af c i).i 6
  . by_cases h2:o<0
    . have hc:0<(af c i).i 6/\(o<0\/(af c i).i 0<(af c o.toNat).i 0):=⟨h1,.inl h2⟩
      rw[if_pos hc];simp(disch:=omega) only[TRa,TRi,aa,LNl,LNi,zaa];simp only[zaD,zaa]at ia ib⊢;exact ia
    . by_cases h3:(af c i).i 0<(af c o.toNat).i 0
      . have hc:0<(af c i).i 6/\(o<0\/(af c i).i 0<(af c o.toNat).i 0):=⟨h1,.inr h3⟩
        rw[if_pos hc];simp(disch:=omega) only[TRa,TRi,aa,LNl,LNi,zaa];simp only[zaD,zaa]at ia ib⊢;exact ia
      . have hc:¬(0<(af c i).i 6/\(o<0\/(af c i).i 0<(af c o.toNat).i 0)):=fun h=>h.2.elim h2 h3
        rw[if_neg hc];simp(disch:=omega) only[TRa,TRi,aa,LNl,LNi,zaa];simp only[zaD,zaa]at ia ib⊢;exact ib
  . have hc:¬(0<(af c i).i 6/\(o<0\/(af c i).i 0<(af c o.toNat).i 0)):=fun h=>h1 h.1
    rw[if_neg hc];simp(disch:=omega) only[TRa,TRi,aa,LNl,LNi,zaa];simp only[zaD,zaa]at ia ib⊢;exact ib
def f119:List Int × List Dat->Bool × List Un:=fun(a0,a1)=>((decide (a0=cK 0 a1.length))&&(decide (a1.length<=1000)&&a1.all aU),[.i (gu a1 a1.length 0 (-1)),.l (a0),.d (a1)])
theorem MX (a0:List Int) (a1:List Dat) (hc:((decide (a0=cK 0 a1.length))&&(decide (a1.length<=1000)&&a1.all aU))=true):∃m,t119 m (a0,a1)=some ([.i (gu a1 a1.length 0 (-1)),.l (a0),.d (a1)]):=by
 simp only[zab,zag,zal]at hc;obtain⟨rfl,h1,h2⟩:=hc;refine⟨a1.length+1, ?_⟩;unfold t119;dsimp only;rw[gH];exact UH _ a1 h1 h2 a1.length 0 _ (-1) (by omega) (by omega) (by omega) (by omega)
theorem Jr:ER 119 (mkE Qh.en Qh.ex f119):=aq ah Ml.right (fun m=>[Fv (sH m m)]) (t:=t119) (by kernel_rfl) (fun m=>(aH (SG m m) aA)) (fun m a=>by kernel_rfl) fun(a0,a1) hc=>MX a0 a1 hc
def LY:Tb Tryz.prog LQ TE XX:=Ml.add 119 _ Jr
theorem nP (i:Nat) (y:Dat):∀(l:List Dat) (j:Nat),j<l.length->an i (l.set j y)=an i l-(af l j).i i+y.i i
 |[],j,h=>by simp at h
 |d::l,0,h=>by simp only[List.set_cons_zero,an,af,zaQ];omega
 |d::l,j+1,h=>by
  have:=nP i y l j (by simpa using h);simp only[af]at this;simp only[zbX,an,af,zaE,this];omega
theorem w6 {l:List Dat} {j:Nat} {y:Dat} (h:j<l.length):af (l.set j y) j=y:=by
 unfold af;rw[zaf,List.getElem?_set_self h];rfl
theorem nj {l:List Dat} {j i:Nat} {y:Dat} (h:i≠j):af (l.set j y) i=af l i:=by
 unfold af;rw[zaf,zaf,List.getElem?_set_ne (by omega)]
def Cy (p:Dat->Prop) [DecidablePred p]:List Dat->Nat
 |[]=>0
 |d::l=>(if p d then 1 else 0)+Cy p l
theorem CC (p:Dat->Prop) [DecidablePred p]:∀l:List Dat,Cy p l<=l.length
 |[]=>zan _
 |d::l=>by have:=CC p l;simp only[Cy,zac];split<;>omega
theorem vB (p:Dat->Prop) [DecidablePred p] (y:Dat) (hy:¬p y):∀(l:List Dat) (j:Nat),j<l.length->p (af l j)->Cy p (l.set j y)+1=Cy p l
 |[],j,h,_=>by simp at h
 |d::l,0,h,hp=>by
  have hp:p d:=hp;simp only[List.set_cons_zero,Cy,if_neg hy,if_pos hp];omega
 |d::l,j+1,h,hp=>by
  have:=vB p y hy l j (by simpa using h) hp;simp only[zbX,Cy];omega
def eC (c:List Dat):Prop:=c.length<=1000/\∀d∈c,aU d=true
theorem fA {c:List Dat} (h:eC c):(decide (c.length<=1000)&&c.all aU)=true:=by
 rw[zab,zal];exact⟨zae h.1,h.2⟩
theorem oZ {c:List Dat} {j:Nat} {y:Dat} (h:eC c) (hy:aU y=true):eC (c.set j y):=⟨by rw[zbf];exact h.1,Gq h.2 hy⟩
theorem uC (c:List Dat):∀(k i:Nat) (o:Int),i+k=c.length->(o<0\/0<bo (af c o.toNat))->(gz c k i o<0->o<0/\∀j,i<=j->j<c.length->bo (af c j)<=0)/\(0<=gz c k i o->0<bo (af c (gz c k i o).toNat))
 |0,i,o,h,ho=>⟨fun h1=>⟨h1,fun j h2 h3=>by omega⟩,fun h1=>by simp only[gz]at h1⊢;omega⟩
 |k+1,i,o,h,ho=>by
  unfold gz
  split
  . rename_i hc;obtain⟨a,b⟩:=uC c k (i+1) (i:Int) (by omega) (.inr (by rw[zaz];exact hc.1));exact⟨fun h1=>by have:=(a h1).1;omega,b⟩
  . rename_i hc;obtain⟨a,b⟩:=uC c k (i+1) o (by omega) ho;refine⟨fun h1=>⟨(a h1).1,fun j h2 h3=> ?_⟩,b⟩
    by_cases hj:j=i
    . subst hj;have:=(a h1).1;omega
    . exact(a h1).2 j (by omega) h3
theorem uz (c:List Dat):∀(k i:Nat) (o:Int),i+k=c.length->(o<0\/0<(af c o.toNat).i 6)->(gu c k i o<0->o<0/\∀j,i<=j->j<c.length->(af c j).i 6<=0)/\(0<=gu c k i o->0<(af c (gu c k i o).toNat).i 6)
 |0,i,o,h,ho=>⟨fun h1=>⟨h1,fun j h2 h3=>by omega⟩,fun h1=>by simp only[gu]at h1⊢;omega⟩
 |k+1,i,o,h,ho=>by
  unfold gu
  split
  . rename_i hc;obtain⟨a,b⟩:=uz c k (i+1) (i:Int) (by omega) (.inr (by rw[zaz];exact hc.1));exact⟨fun h1=>by have:=(a h1).1;omega,b⟩
  . rename_i hc;obtain⟨a,b⟩:=uz c k (i+1) o (by omega) ho;refine⟨fun h1=>⟨(a h1).1,fun j h2 h3=> ?_⟩,b⟩
    by_cases hj:j=i
    . subst hj;have:=(a h1).1;omega
    . exact(a h1).2 j (by omega) h3
def ue:Nat->Int->List Dat->List Dat
 |0,_,c=>c
 |k+1,t,c=>if an 6 c<t then(if gz c c.length 0 (-1)<0 then c else ue k t (c.set (gz c c.length 0 (-1)).toNat (eL (t-an 6 c) (af c (gz c c.length 0 (-1)).toNat))))else c
def sf:Nat->Int->List Dat->List Dat
 |0,_,c=>c
 |k+1,t,c=>if t<an 6 c then(if gu c c.length 0 (-1)<0 then c else sf k t (c.set (gu c c.length 0 (-1)).toNat (gE (an 6 c-t) (af c (gu c c.length 0 (-1)).toNat))))else c
def gr (t:Int) (c:List Dat):List Dat:=sf (c.length+2) (max t 0) (ue (c.length+2) (max t 0) c)
theorem KO (w:Int) (d:Dat):(eL w d).i 6=d.i 6+oy w d/\bo (eL w d)=bo d-oy w d:=by
 simp only[eL,bo,fa,fY,xe,qc];exact⟨trivial,by omega⟩
theorem Nf (w:Int) (d:Dat):(gE w d).i 6=d.i 6-nX w d:=by
 simp only[gE,qc]
def yh (t:Int) (c:List Dat):Nat:=if an 6 c<t then Cy (fun d=>0<bo d) c+1 else 0
def v8 (t:Int) (c:List Dat):Nat:=if t<an 6 c then Cy (fun d=>0<d.i 6) c+1 else 0
theorem P5 {t:Int} {c:List Dat} (hg:eC c) (hs:an 6 c<t) (hj:0<=gz c c.length 0 (-1)):
 (gz c c.length 0 (-1)).toNat<c.length/\eC (c.set (gz c c.length 0 (-1)).toNat (eL (t-an 6 c) (af c (gz c c.length 0 (-1)).toNat)))/\yh t (c.set (gz c c.length 0 (-1)).toNat (eL (t-an 6 c) (af c (gz c c.length 0 (-1)).toNat)))<yh t c/\
 an 6 (c.set (gz c c.length 0 (-1)).toNat (eL (t-an 6 c) (af c (gz c c.length 0 (-1)).toNat)))<=t:=by
 have h1:=CA c c.length 0 (-1) (by omega) (by omega) (by omega);have h2:=(uC c c.length 0 (-1) (by omega) (.inl (by omega))).2 hj;generalize gz c c.length 0 (-1)=o at*
 have h3:o.toNat<c.length:=by omega
 have hn:=cD h3 hg.2;have e6:=KO (t-an 6 c) (af c o.toNat);have es:=nP 6 (eL (t-an 6 c) (af c o.toNat)) c o.toNat h3;have hp:oy (t-an 6 c) (af c o.toNat)=min (t-an 6 c) (bo (af c o.toNat)):=by unfold oy;omega
 refine⟨h3,oZ hg (CK _ hn), ?_,by omega⟩;unfold yh;rw[if_pos hs]
 split
 . rename_i hlt;have:=vB (fun d=>0<bo d) (eL (t-an 6 c) (af c o.toNat)) (by show ¬0<bo _;omega) c o.toNat h3 h2;omega
 . omega
theorem P4 {t:Int} {c:List Dat} (hg:eC c) (hs:t<an 6 c) (hj:0<=gu c c.length 0 (-1)):
 (gu c c.length 0 (-1)).toNat<c.length/\eC (c.set (gu c c.length 0 (-1)).toNat (gE (an 6 c-t) (af c (gu c c.length 0 (-1)).toNat)))/\v8 t (c.set (gu c c.length 0 (-1)).toNat (gE (an 6 c-t) (af c (gu c c.length 0 (-1)).toNat)))<v8 t c/\
 t<=an 6 (c.set (gu c c.length 0 (-1)).toNat (gE (an 6 c-t) (af c (gu c c.length 0 (-1)).toNat))):=by
 have h1:=AU c c.length 0 (-1) (by omega) (by omega) (by omega);have h2:=(uz c c.length 0 (-1) (by omega) (.inl (by omega))).2 hj;generalize gu c c.length 0 (-1)=o at*
 have h3:o.toNat<c.length:=by omega
 have hn:=cD h3 hg.2;have e6:=Nf (an 6 c-t) (af c o.toNat);have es:=nP 6 (gE (an 6 c-t) (af c o.toNat)) c o.toNat h3;have hp:nX (an 6 c-t) (af c o.toNat)=min (an 6 c-t) ((af c o.toNat).i 6):=by unfold nX;omega
 refine⟨h3,oZ hg (E4 _ hn), ?_,by omega⟩;unfold v8;rw[if_pos hs]
 split
 . rename_i hlt;have:=vB (fun d=>0<d.i 6) (gE (an 6 c-t) (af c o.toNat)) (by show ¬0<(gE _ _).i 6;omega) c o.toNat h3 h2;omega
 . omega
theorem En (t:Int) (c:List Dat):yh t c<c.length+2:=by
 have:=CC (fun d=>0<bo d) c;unfold yh;split<;>omega
theorem CX (t:Int) (c:List Dat):v8 t c<c.length+2:=by
 have:=CC (fun d=>0<d.i 6) c;unfold v8;split<;>omega
theorem D8 {c:List Dat} (hg:eC c):0<=an 6 c/\an 6 c<=1125899906842624000:=by
 have:=(jg c hg.2).2.2.1;have:=hg.1;omega
def N84:aE:=⟨LY.tab,84,⟨[.int .i64,.buf 0 1],[.eB 1 7 0,.ab (sI 7)],0⟩,⟨[.int .i64],[.eB 1 7 0,.ab (sI 7)],0⟩,[]⟩
abbrev G1:Type:=Int × Int × List Int × List Dat
abbrev Hv:Type:=Int × Int × List Int × List Dat
def FA (m:Nat) (k:G1->Option (List Un)):G1->Option (List Un):=fun(a0,a1,a2,a3)=>
 bif decide (a1>a0)then
 chk ((decide (a2=cK 0 a3.length))&&(decide (a3.length<=1000)&&a3.all aU))<|
 lt ((gu a3 a3.length 0 (-1)):Int) fun x6=>
 bif ((decide (x6<0))&&true)then
 some ([.i a1,.l a2,.d a3])
 else
 chk (decide (0<=x6/\x6.toNat<a3.length)&&aU (af a3 x6.toNat))<|
 lt ((a3.set x6.toNat (gE (w64 (a1-a0)) (af a3 x6.toNat))):List Dat) fun l9=>
 chk ((decide (a2=cK 0 l9.length))&&(decide (l9.length<=1000)&&l9.all aU))<|
 k (a0,(an 6 l9),a2,l9)
 else
 chk ((decide (a2=cK 0 a3.length))&&(decide (a3.length<=1000)&&a3.all aU))<|
 some ([.i (an 6 a3),.l a2,.d a3])
def zA (m:Nat):Nat->G1->Option (List Un):=bg (FA m)
theorem Ff (m:Nat) (n:Nat):zA m (n+1)=FA m (zA m n):=rfl
def LZ (F:G1->Option (List Un)):aQ:=⟨[.lp [0,1,0,1,1,1],.blk 2,.code [1,1,1,1]],⟨frm 47 [(0,.int .i64),(1,.buf 0 1),(7,.int .i64)],[.eB 1 7 0,.ab (sI 7)],0⟩,onU F⟩
def F6 (m:Nat) (k:Hv->Option (List Un)):Hv->Option (List Un):=fun(a0,a1,a2,a3)=>
 bif decide (a1<a0)then
 chk ((decide (a2=cK 0 a3.length))&&(decide (a3.length<=1000)&&a3.all aU))<|
 lt ((gz a3 a3.length 0 (-1)):Int) fun x2=>
 bif ((decide (x2<0))&&true)then
 some ([.i a1,.l a2,.d a3])
 else
 chk (decide (0<=x2/\x2.toNat<a3.length)&&aU (af a3 x2.toNat))<|
 lt ((a3.set x2.toNat (eL (w64 (a0-a1)) (af a3 x2.toNat))):List Dat) fun l5=>
 chk ((decide (a2=cK 0 l5.length))&&(decide (l5.length<=1000)&&l5.all aU))<|
 k (a0,(an 6 l5),a2,l5)
 else
 chk ((decide (a2=cK 0 a3.length))&&(decide (a3.length<=1000)&&a3.all aU))<|
 zA m m (a0,(an 6 a3),a2,a3)
def Ac (m:Nat):Nat->Hv->Option (List Un):=bg (F6 m)
theorem FZ (m:Nat) (n:Nat):Ac m (n+1)=F6 m (Ac m n):=rfl
def K1 (F:Hv->Option (List Un)):aQ:=⟨[.lp [0,1,0,1,1],.blk 0,.code [1,1,1]],⟨frm 47 [(0,.int .i64),(1,.buf 0 1),(5,.int .i64)],[.eB 1 7 0,.ab (sI 7)],0⟩,onU F⟩
theorem Vb (m:Nat):∀n,HO N84 (LZ (zA m n)):=ar ah LY.right (fun k=>[LZ k]) (fun k h=>(aH h aA)) fun k a=>by kernel_rfl
theorem Ux (m:Nat):∀n,HO N84 (K1 (Ac m n)):=ar ah LY.right (fun k=>[K1 k,LZ (zA m m)]) (fun k h=>(aH h (aH (Vb m m) aA))) fun k a=>by kernel_rfl
def t84 (m:Nat):Int × List Int × List Dat->Option (List Un):=fun(a0,a1,a2)=>
 chk ((decide (a1=cK 0 a2.length))&&(decide (a2.length<=1000)&&a2.all aU))<|
 Ac m m ((if a0<0 then 0 else a0),(an 6 a2),a1,a2)
theorem VF (m:Nat) (t:Int) (h0:0<=t) (h1:t<=1152921504606846976):∀(k n:Nat) (c:List Dat),v8 t c<k->k<=n->eC c->
 zA m n (t,an 6 c,cK 0 c.length,c)=some [.i (an 6 (sf k t c)),.l (cK 0 c.length),.d (sf k t c)]:=by
 intro k
 induction k with
 |zero=>intro n c h;omega
 |succ k ih=>
  intro n c hm hn hg;obtain⟨n,rfl⟩:=ai n (by omega);have hgb:=fA hg;have hb:=D8 hg;unfold sf;rw[Ff];unfold FA;dsimp only;simp only[hgb,za9,zaZ,gt_iff_lt]
  by_cases hs:t<an 6 c
  . rw[if_pos hs,ba hs,jJ]
    by_cases hj:gu c c.length 0 (-1)<0
    . rw[if_pos hj];simp only[lt_eq];rw[ba hj]
    . rw[if_neg hj];obtain⟨a1,a2,a3,a4⟩:=P4 hg hs (by omega);have a5:=fA a2;have:=ih n _ (by omega) (by omega) a2;rw[zbf]at this;simp only[lt_eq];have hnr:=cD a1 hg.2;rw[az hj,aa (n:=an 6 c-t) (by omega) (by omega),hnr,za9,aI ⟨by omega,a1⟩,a5,zbf,zae rfl,za8,jJ];exact this
  . rw[if_neg hs,az hs,jJ]
theorem T2 (m:Nat) (t:Int) (h0:0<=t) (h1:t<=1152921504606846976):∀(k n:Nat) (c:List Dat),yh t c<k->k<=n->c.length+2<=m->eC c->
 Ac m n (t,an 6 c,cK 0 c.length,c)=some [.i (an 6 (sf (c.length+2) t (ue k t c))),.l (cK 0 c.length),.d (sf (c.length+2) t (ue k t c))]:=by
 intro k
 induction k with
 |zero=>intro n c h;omega
 |succ k ih=>
  intro n c hm hn hml hg;obtain⟨n,rfl⟩:=ai n (by omega);have hgb:=fA hg;have hb:=D8 hg;unfold ue;rw[FZ];unfold F6;dsimp only;simp only[hgb,za9,zaZ]
  by_cases hs:an 6 c<t
  . rw[if_pos hs,ba hs,jJ]
    by_cases hj:gz c c.length 0 (-1)<0
    . rw[if_pos hj];simp only[lt_eq];rw[ba hj,sf,if_neg (by omega)]
    . rw[if_neg hj];obtain⟨a1,a2,a3,a4⟩:=P5 hg hs (by omega);have a5:=fA a2;have:=ih n _ (by omega) (by omega) (by rw[zbf];exact hml) a2;rw[zbf]at this;simp only[lt_eq];have hnr:=cD a1 hg.2;rw[az hj,aa (n:=t-an 6 c) (by omega) (by omega),hnr,za9,aI ⟨by omega,a1⟩,a5,zbf,zae rfl,za8,jJ];exact this
  . rw[if_neg hs,az hs,jJ];exact VF m t h0 h1 (c.length+2) m c (CX t c) hml hg
def f84:Int × List Int × List Dat->Bool × List Un:=fun(a0,a1,a2)=>(decide (a0<=1152921504606846976)&&((decide (a1=cK 0 a2.length))&&(decide (a2.length<=1000)&&a2.all aU)),[.i (an 6 (gr a0 a2)),.l (a1),.d (gr a0 a2)])
theorem Tc (a0:Int) (a1:List Int) (a2:List Dat) (hc:(decide (a0<=1152921504606846976)&&((decide (a1=cK 0 a2.length))&&(decide (a2.length<=1000)&&a2.all aU)))=true):∃m,t84 m (a0,a1,a2)=some ([.i (an 6 (gr a0 a2)),.l (a1),.d (gr a0 a2)]):=by
 simp only[zab,zag,zal]at hc;obtain⟨h0,rfl,h1,h2⟩:=hc;have hg:eC a2:=⟨h1,h2⟩
 refine⟨a2.length+2, ?_⟩;unfold t84 gr;dsimp only;rw[fA hg,zae rfl,mZ,za8,jJ];exact T2 _ (max a0 0) (by omega) (by omega) (a2.length+2) _ a2 (En _ _) (by omega) (by omega) hg
theorem M8:ER 84 (mkE N84.en N84.ex f84):=aq ah LY.right (fun m=>[K1 (Ac m m)]) (t:=t84) (by kernel_rfl) (fun m=>(aH (Ux m m) aA)) (fun m a=>by kernel_rfl) fun(a0,a1,a2) hc=>Tc a0 a1 a2 hc
def T84:Tb Tryz.prog LQ TE XX:=LY.add 84 _ M8
@[ext] structure bE where
 call:Bool
 period:Int
 mode:Int
 ak:Int
 bP:Int
 aF:Int
 aR:Int
 draw:Int
 advance:Int
 fee:Int
 due:Int
instance : Uns bE := Uns.via (B := Bool × Int × Int × Int × Int × Int × Int × Int × Int × Int × Int) (fun x => (x.call, x.period, x.mode, x.ak, x.bP, x.aF, x.aR, x.draw, x.advance, x.fee, x.due)) (fun x => match x with | (call, period, mode, ak, bP, aF, aR, draw, advance, fee, due) => ⟨call, period, mode, ak, bP, aF, aR, draw, advance, fee, due⟩) (fun _ => rfl)
@[ext] structure bw where
 bq:Int
 aL:Int
 aX:Int
 out:Int
 jl:Int
instance : Uns bw := Uns.via (B := Int × Int × Int × Int × Int) (fun x => (x.bq, x.aL, x.aX, x.out, x.jl)) (fun x => match x with | (bq, aL, aX, out, jl) => ⟨bq, aL, aX, out, jl⟩) (fun _ => rfl)
def dt (a:aw) (p bal r:Int):Int:=Dp bal r a.basis (fZ a.year a.month 1 p) (fX a.year a.month 1 p) (gY a.year a.month 1 p) (fZ a.year a.month 1 (p+1)) (fX a.year a.month 1 (p+1)) (gY a.year a.month 1 (p+1))
theorem tU {y m p:Int} (h1:1<=y) (h2:y<=9000) (h3:1<=m) (h4:m<=12) (h5:0<=p) (h6:p<=700):1<=fZ y m 1 p/\fZ y m 1 p<=9999/\1<=fX y m 1 p/\fX y m 1 p<=12/\gY y m 1 p=1/\cv (fZ y m 1 p) (fX y m 1 p) (gY y m 1 p)=true/\12*fZ y m 1 p+fX y m 1 p=12*y+m+p:=by
 have l1:=nR (y:=y) (m:=m) h1 (by omega) h3 h4;have hs:ik y m 1 p=true:=by
  unfold ik;rw[show cv y m 1=true from dM.2 ⟨by omega,by omega⟩];simp only[za8,zag];omega
 unfold fZ fX gY;rw[hs,if_pos rfl,if_pos rfl,if_pos rfl];have l2:=nR (y:=(12*y+m-1+p)/12) (m:=(12*y+m-1+p)%12+1) (by omega) (by omega) (by omega) (by omega);have hd:min 1 (dk ((12*y+m-1+p)/12) ((12*y+m-1+p)%12+1))=1:=by omega
 rw[hd];exact⟨by omega,by omega,by omega,by omega,rfl,dM.2 ⟨by omega,by omega⟩,by omega⟩
theorem El {b y m y' m':Int} (h1:1<=y) (h2:y<=9999) (h3:1<=m) (h4:m<=12) (h5:12*y'+m'=12*y+m+1) (h6:1<=m') (h7:m'<=12) (r1:cv y m 1=true) (r2:cv y' m' 1=true):0<=kA b y m 1 y' m' 1/\kA b y m 1 y' m' 1<=731:=by
 have n1:=rM r1;have n2:=rM r2;have a1:=pP h1;have a2:=pP (y:=y+1) (by omega);have q1:=qJ y;have q2:=qJ (y+1);unfold kA
 split
 . split
   . unfold com;rw[if_neg (by omega)];omega
   . split
     . rename_i h _ _;have hy:y'=y\/y'=y+1:=by omega
       rcases hy with rfl|rfl<;>omega
     . omega
 . omega
theorem Jd {n b:Int} (p:Int) (hp:p=3600000\/p=3650000) (h1:0<=n) (h2:n<=1099511627776) (h3:0<=b) (h4:b<=3655000):0<=mdV n b p 2/\mdV n b p 2<=1200000000000:=by
 unfold mdV
 split
 . have hm:=zbZ h4 h1;have hz:=za4 h1 h3;have e:=zbg (n*b) p;have r0:=zbq (n*b) (show p≠0 by omega);have d0:0<=n*b/p:=zbE hz (by omega);have d1:n*b/p<=1117000000000:=by
    have:n*b<4018800800000000001:=by omega
    rcases hp with rfl|rfl<;>omega
   unfold mdQ
   split<;>omega
 . omega
theorem rl {a:aw} {p bal:Int} (r:Int) (h1:1<=a.year) (h2:a.year<=9000) (h3:1<=a.month) (h4:a.month<=12) (h5:0<=p) (h6:p<=650) (b0:0<=bal) (b1:bal<=1099511627776):0<=dt a p bal r/\dt a p bal r<=1200000000000:=by
 obtain⟨s1,s2,s3,s4,s5,s6,s7⟩:=tU h1 h2 h3 h4 h5 (by omega);obtain⟨t1,t2,t3,t4,t5,t6,t7⟩:=tU h1 h2 h3 h4 (show 0<=p+1 by omega) (by omega);unfold dt Dp;rw[s5]at s6⊢;rw[t5]at t6⊢
 split
 . rename_i hr;have hd:=El (b:=a.basis) s1 s2 s3 s4 (by omega) t3 t4 s6 t6;have k0:=za4 hr.1 hd.1;have k1:=Int.mul_le_mul hr.2 hd.2 hd.1 (show(0:Int)<=5000 by omega);exact Jd _ (by unfold xC;split<;>omega) b0 b1 k0 (by omega)
 . omega
def eF (a:aw) (p:Int) (d:Dat):Dat:=A1 (dt a p (bo d) (d.i 2)) d
theorem Fl {d:Dat} (h:aU d=true):0<=bo d/\bo d<=1099511627776:=by
 have:=cz h;unfold bo;omega
def N34:aE:=⟨T84.tab,34,⟨[.ptr 0 0 0,.int .i64],cL 0,0⟩,⟨[.int .i64,.int .i64],cL 0,0⟩,[]⟩
abbrev Gl:Type:=Int × Int × Int × Int × aw × ax × ao × List Dat × List Dat × List Dat × List Dat × List Dat × List Dat × List Dat × Int × Int × Int × Int × Int × Int
def A9 (m:Nat) (k:Gl->Option (List Un)):Gl->Option (List Un):=fun(a0,a1,a2,a3,a4,a5,a6,a7,a8,a9,a10,a11,a12,a13,a14,a15,a16,a17,a18,a19)=>
 bif decide (a3<a2)then
 chk (inb a3 a13.length)<|
 chk (decide (a3.toNat<a13.length))<|
 lt (af a13 a3.toNat:Dat) fun d9=>
 chk (decide (a3.toNat<a13.length))<|
 lt ((Dp (w64 (w64 ((d9.i 1)-w64 ((d9.i 3)-(d9.i 4)))-(d9.i 6))) ((af a13 a3.toNat).i 2) a4.basis a14 a15 a16 a17 a18 a19):Int) fun x12=>
 chk (decide (0<=x12/\x12<=1125899906842624)&&(decide (0<=(a3.toNat:Int)/\(a3.toNat:Int).toNat<a13.length)&&aU (af a13 (a3.toNat:Int).toNat)))<|
 k (a0,(w64 (a1+x12)),a2,(w64 (a3+1)),a4,a5,a6,a7,a8,a9,a10,a11,a12,(a13.set (a3.toNat:Int).toNat (A1 x12 (af a13 (a3.toNat:Int).toNat))),a14,a15,a16,a17,a18,a19)
 else
 some ([.i a0,.i a1]++Uns.enc (a4:aw)++Uns.enc (a5:ax)++Uns.enc (a6:ao)++[.d a7,.d a8,.d a9,.d a10,.d a11,.d a12,.d a13])
def wX (m:Nat):Nat->Gl->Option (List Un):=bg (A9 m)
theorem yc (m:Nat) (n:Nat):wX m (n+1)=A9 m (wX m n):=rfl
def Mj (F:Gl->Option (List Un)):aQ:=⟨[.lp [0,1,0,1,1,1,1,1],.blk 0,.code [1,1,1,1,1,1]],⟨frm 88 [(0,.ptr 0 0 0),(6,.ptr 9 0 0),(7,.ptr 10 0 0),(8,.int .i64),(10,.int .i64),(49,.int .i64),(50,.int .i64)],cL 0++[.cells [.int .i64,.int .i64,.int .i64],.cells [.int .i64,.int .i64,.int .i64]],0⟩,onU F⟩
theorem UT (m:Nat):∀n,HO N34 (Mj (wX m n)):=ar ah T84.right (fun k=>[Mj k]) (fun k h=>(aH h aA)) fun k a=>by kernel_rfl
def t34 (m:Nat):Int × aw × ax × ao × List Dat × List Dat × List Dat × List Dat × List Dat × List Dat × List Dat->Option (List Un):=fun(a0,a1,a2,a3,a4,a5,a6,a7,a8,a9,a10)=>
 lt ((fZ a1.year a1.month 1 a3.period):Int) fun x1=>
 lt ((fX a1.year a1.month 1 a3.period):Int) fun x2=>
 lt ((gY a1.year a1.month 1 a3.period):Int) fun x3=>
 lt ((fZ a1.year a1.month 1 (w64 (a3.period+1))):Int) fun x4=>
 lt ((fX a1.year a1.month 1 (w64 (a3.period+1))):Int) fun x5=>
 lt ((gY a1.year a1.month 1 (w64 (a3.period+1))):Int) fun x6=>
 lt ((Dp a0 a2.fee a1.basis x1 x2 x3 x4 x5 x6):Int) fun x7=>
 wX m m (x7,0,(a10.length:Int),0,a1,a2,({a3 with fee:=(w64 (a3.fee+x7))}:ao),a4,a5,a6,a7,a8,a9,a10,x1,x2,x3,x4,x5,x6)
theorem MW (m:Nat) (fe:Int) (xa:aw) (xb:ax) (xn:ao) (x1 x2 x3 x4 x5 x6:List Dat) (p:Int) (hf:∀d,aU d=true->0<=dt xa p (bo d) (d.i 2)/\dt xa p (bo d) (d.i 2)<=1200000000000):∀(rest pre:List Dat) (n:Nat) (s:Int),rest.length<n->(pre++rest).length<=1000->(∀d∈rest,aU d=true)->0<=s->s<=1200000000000*pre.length->
 wX m n (fe,s,((pre++rest).length:Int),(pre.length:Int),xa,xb,xn,x1,x2,x3,x4,x5,x6,pre++rest,fZ xa.year xa.month 1 p,fX xa.year xa.month 1 p,gY xa.year xa.month 1 p,fZ xa.year xa.month 1 (p+1),fX xa.year xa.month 1 (p+1),gY xa.year xa.month 1 (p+1))=
  some ([.i fe,.i (s+bM (fun d=>dt xa p (bo d) (d.i 2)) rest)]++Uns.enc xa++Uns.enc xb++Uns.enc xn++[.d x1,.d x2,.d x3,.d x4,.d x5,.d x6,.d (pre++rest.map (eF xa p))]):=by
 intro rest
 induction rest with
 |nil=>
  intro pre n s hn hl hg s0 s1;obtain⟨n,rfl⟩:=ai n (by simp at hn;omega);rw[yc];unfold A9;dsimp only;simp[az,bM]
 |cons x rest ih=>
  intro pre n s hn hl hg s0 s1;obtain⟨n,rfl⟩:=ai n (by simp at hn;omega);simp only[zac,zad]at hn hl;have hx:=cz (hg x (by simp));have hb:=hf x (hg x (by simp));have hgx:=hg x (by simp);have:=ih (pre++[eF xa p x]) n (s+dt xa p (bo x) (x.i 2)) (by omega) (by simp;omega) (fun d hd=>hg d (by simp[hd])) (by omega) (by simp;omega);have e:w64 (w64 (x.i 1-w64 (x.i 3-x.i 4))-x.i 6)=bo x:=by rw[aa (n:=x.i 3-x.i 4) (by omega) (by omega),aa (n:=x.i 1-_) (by omega) (by omega),aa (by omega) (by omega)];rfl
  have e2:∀z,Dp z (x.i 2) xa.basis (fZ xa.year xa.month 1 p) (fX xa.year xa.month 1 p) (gY xa.year xa.month 1 p) (fZ xa.year xa.month 1 (p+1)) (fX xa.year xa.month 1 (p+1)) (gY xa.year xa.month 1 (p+1))=dt xa p z (x.i 2):=fun z=>rfl
  rw[yc];unfold A9;dsimp only;simp only[bM,zaV,LNi,au,lt_eq,e,e2,hgx,za9,Bp];rw[show A1 (dt xa p (bo x) (x.i 2)) x=eF xa p x from rfl];simp(disch:=omega) only[TRa,TRi,aa,LNl,LNi,zaa,au];simp only[LNl,LNi,zaa]at this⊢;exact this
def f34:Int × aw × ax × ao × List Dat × List Dat × List Dat × List Dat × List Dat × List Dat × List Dat->Bool × List Un:=fun(a0,a1,a2,a3,a4,a5,a6,a7,a8,a9,a10)=>(decide ((1<=a1.year/\a1.year<=9000/\1<=a1.month/\a1.month<=12)/\(0<=a3.period/\a3.period<=600)/\(0<=a3.fee/\a3.fee<=1125899906842624)/\(0<=a0/\a0<=1099511627776))&&(decide (a10.length<=1000)&&a10.all aU),[.i (dt a1 a3.period a0 a2.fee),.i (bM (fun d=>dt a1 a3.period (bo d) (d.i 2)) a10)]++Uns.enc ((a1):aw)++Uns.enc ((a2):ax)++Uns.enc (({a3 with fee:=a3.fee+dt a1 a3.period a0 a2.fee}):ao)++[.d (a4),.d (a5),.d (a6),.d (a7),.d (a8),.d (a9),.d (a10.map (eF a1 a3.period))])
theorem QE (a0:Int) (a1:aw) (a2:ax) (a3:ao) (a4:List Dat) (a5:List Dat) (a6:List Dat) (a7:List Dat) (a8:List Dat) (a9:List Dat) (a10:List Dat) (hc:(decide ((1<=a1.year/\a1.year<=9000/\1<=a1.month/\a1.month<=12)/\(0<=a3.period/\a3.period<=600)/\(0<=a3.fee/\a3.fee<=1125899906842624)/\(0<=a0/\a0<=1099511627776))&&(decide (a10.length<=1000)&&a10.all aU))=true):∃m,t34 m (a0,a1,a2,a3,a4,a5,a6,a7,a8,a9,a10)=some ([.i (dt a1 a3.period a0 a2.fee),.i (bM (fun d=>dt a1 a3.period (bo d) (d.i 2)) a10)]++Uns.enc ((a1):aw)++Uns.enc ((a2):ax)++Uns.enc (({a3 with fee:=a3.fee+dt a1 a3.period a0 a2.fee}):ao)++[.d (a4),.d (a5),.d (a6),.d (a7),.d (a8),.d (a9),.d (a10.map (eF a1 a3.period))]):=by
 simp only[zab,zag,zal]at hc;obtain⟨⟨⟨h1,h2,h3,h4⟩,⟨h5,h6⟩,⟨h7,h8⟩,h9,h10⟩,h11,h12⟩:=hc;have hs:=rl a2.fee h1 h2 h3 h4 h5 (show a3.period<=650 by omega) h9 h10;have hf:∀d,aU d=true->0<=dt a1 a3.period (bo d) (d.i 2)/\dt a1 a3.period (bo d) (d.i 2)<=1200000000000:=fun d hd=>rl _ h1 h2 h3 h4 h5 (by omega) (Fl hd).1 (Fl hd).2
 refine⟨a10.length+1, ?_⟩;unfold t34;dsimp only[lt];rw[aa (n:=a3.period+1) (by omega) (by omega)];refine(show wX _ _ (dt a1 a3.period a0 a2.fee,0,(a10.length:Int),0,a1,a2,{a3 with fee:=w64 (a3.fee+dt a1 a3.period a0 a2.fee)},a4,a5,a6,a7,a8,a9,a10,_,_,_,_,_,_)=_ from ?_);rw[aa (n:=a3.fee+_) (by omega) (by omega)];exact(MW _ _ a1 a2 _ a4 a5 a6 a7 a8 a9 a3.period hf a10 [] (a10.length+1) 0 (by omega) (by simpa using h11) h12 (by omega) (by simp)).trans (by simp only[za0,zaC])
theorem Ni:ER 34 (mkE N34.en N34.ex f34):=aq ah T84.right (fun m=>[Mj (wX m m)]) (t:=t34) (by kernel_rfl) (fun m=>(aH (UT m m) aA)) (fun m a=>by kernel_rfl) fun(a0,a1,a2,a3,a4,a5,a6,a7,a8,a9,a10) hc=>QE a0 a1 a2 a3 a4 a5 a6 a7 a8 a9 a10 hc
def T34:Tb Tryz.prog LQ TE XX:=T84.add 34 _ Ni
def DK (x:Int) (d:Dat):Int:=max (min x (d.i 5)) 0
def oE (x:Int) (d:Dat):Dat:= .r [.n (d.i 0),.n (d.i 1),.n (d.i 2),.n (d.i 3),.n (d.i 4),.n (d.i 5-DK x d),.n (d.i 6)]
def jP (n:ao) (p:Dat):ao:=if p.i 1=1 then {n with fee:=n.fee-p.i 3}else if p.i 1=2 then {n with out:=n.out-p.i 3}else if p.i 1=6 then {n with rin:=n.rin+p.i 3}else n
def lO (c:List Dat) (p:Dat):List Dat:=if p.i 1=1 then c else if p.i 1=2 then c else if p.i 1=6 then c else if p.i 1=3 then c.set (p.i 2).toNat (oE (p.i 3) (af c (p.i 2).toNat))else c.set (p.i 2).toNat (ug (p.i 3) (af c (p.i 2).toNat))
def dG:List Dat->ao->List Dat->ao × List Dat
 |[],n,c=>(n,c)
 |p::l,n,c=>dG l (jP n p) (lO c p)
def Ix (k:Nat) (p:Dat):Bool:=decide (0<=p.i 3)&&(decide (p.i 1=1\/p.i 1=2\/p.i 1=6)||decide (0<=p.i 2/\p.i 2<(k:Int)))
theorem uw {k:Nat} {p:Dat} (h:Ix k p=true):0<=p.i 3/\((p.i 1=1\/p.i 1=2\/p.i 1=6)\/(0<=p.i 2/\p.i 2<(k:Int))):=by
 simp only[Ix,zab,zbk,zag]at h;exact h
def zV (l:List Dat) (n:ao) (c:List Dat):Bool:=decide (l.length<=1000000)&&(l.all (Ix c.length)&&(decide (an 3 l<=144115188075855872/\(0<=n.fee/\n.fee<=144115188075855872)/\(0<=n.out/\n.out<=144115188075855872)/\(0<=n.rin/\n.rin<=144115188075855872))&&(decide (c.length<=1000)&&c.all aU)))
theorem zt (c:List Dat) (p:Dat):(lO c p).length=c.length:=by
 unfold lO;repeat' split
 all_goals simp
theorem AV {d:Dat} (x:Int) (h:aU d=true):aU (oE x d)=true:=by
 have:=cz h;refine zae ?_
 simp only[oE,DK,fa,fY,xe,pO,qc];omega
theorem Ft {c:List Dat} {p:Dat} (hp:Ix c.length p=true) (h:eC c):eC (lO c p):=by
 have hp:=uw hp;unfold lO
 by_cases h1:p.i 1=1
 . rw[if_pos h1];exact h
 rw[if_neg h1]
 by_cases h2:p.i 1=2
 . rw[if_pos h2];exact h
 rw[if_neg h2]
 by_cases h3:p.i 1=6
 . rw[if_pos h3];exact h
 rw[if_neg h3];have hj:(p.i 2).toNat<c.length:=by omega
 split
 . exact oZ h (AV _ (cD hj h.2))
 . exact oZ h (Ih _ (cD hj h.2))
def N41:aE:=⟨T34.tab,41,⟨[.np 0 0 0,.ab (sI 4)],cL 0,0⟩,⟨[],cL 0,0⟩,[]⟩
abbrev Gx:Type:=Int × List Dat × Int × Int × aw × ax × ao × List Dat × List Dat × List Dat × List Dat × List Dat × List Dat × List Dat
def Bx (m:Nat) (k:Gx->Option (List Un)):Gx->Option (List Un):=fun(a0,a1,a2,a3,a4,a5,a6,a7,a8,a9,a10,a11,a12,a13)=>
 bif decide (a3<a2)then
 chk (inb a3 a1.length)<|
 chk (decide (a3.toNat<a1.length))<|
 lt (af a1 a3.toNat:Dat) fun d1=>
 bif (d1.i 1)==1 then
 chk (decide (0<=a0))<|
 chk (decide (0<=a0))<|
 k (a0,a1,a2,(w64 (a3+1)),a4,a5,({a6 with fee:=(w64 (a6.fee-(d1.i 3)))}:ao),a7,a8,a9,a10,a11,a12,a13)
 else
 bif (d1.i 1)==2 then
 chk (decide (0<=a0))<|
 chk (decide (0<=a0))<|
 k (a0,a1,a2,(w64 (a3+1)),a4,a5,({a6 with out:=(w64 (a6.out-(d1.i 3)))}:ao),a7,a8,a9,a10,a11,a12,a13)
 else
 bif (d1.i 1)==6 then
 chk (decide (0<=a0))<|
 chk (decide (0<=0)&&decide ((0:Int)<=a6.rin/\(0:Int)<=(d1.i 3)/\a6.rin+(d1.i 3)<=(1152921504606846976:Int)))<|
 k (a0,a1,a2,(w64 (a3+1)),a4,a5,({a6 with rin:=a6.rin+(d1.i 3)}),a7,a8,a9,a10,a11,a12,a13)
 else
 bif (d1.i 1)==3 then
 chk (decide (0<=a0))<|
 chk (inb (d1.i 2) a13.length)<|
 chk (decide ((d1.i 2).toNat<a13.length))<|
 lt (af a13 ((d1.i 2).toNat):Dat) fun d5=>
 lt ((if (d5.i 5)<(d1.i 3)then(d5.i 5)else(d1.i 3)):Int) fun x6=>
 chk (decide ((d1.i 2).toNat<a13.length))<|
 chk (decide ((d1.i 2).toNat<a13.length))<|
 lt (af a13 ((d1.i 2).toNat):Dat) fun d9=>
 k (a0,a1,a2,(w64 (a3+1)),a4,a5,a6,a7,a8,a9,a10,a11,a12,(List.set a13 ((d1.i 2).toNat) (.r [.n (d9.i 0),.n (d9.i 1),.n (d9.i 2),.n (d9.i 3),.n (d9.i 4),.n (w64 (((af a13 ((d1.i 2).toNat)).i 5)-(if x6<0 then 0 else x6))),.n (d9.i 6)])))
 else
 chk (decide (0<=a0))<|
 chk (inb (d1.i 2) a13.length)<|
 chk (decide (0<=((d1.i 2).toNat:Int)/\((d1.i 2).toNat:Int).toNat<a13.length)&&aU (af a13 ((d1.i 2).toNat:Int).toNat))<|
 k (a0,a1,a2,(w64 (a3+1)),a4,a5,a6,a7,a8,a9,a10,a11,a12,(a13.set ((d1.i 2).toNat:Int).toNat (ug (d1.i 3) (af a13 ((d1.i 2).toNat:Int).toNat))))
 else
 some (Uns.enc (a4:aw)++Uns.enc (a5:ax)++Uns.enc (a6:ao)++[.d a7,.d a8,.d a9,.d a10,.d a11,.d a12,.d a13])
def zU (m:Nat):Nat->Gx->Option (List Un):=bg (Bx m)
theorem vH (m:Nat) (n:Nat):zU m (n+1)=Bx m (zU m n):=rfl
def Lu (F:Gx->Option (List Un)):aQ:=⟨[.lp [0,1],.blk 0],⟨frm 67 [(0,.np 0 0 0),(6,.ab (sI 4)),(7,.int .i64),(8,.int .i64)],cL 0,0⟩,onU F⟩
theorem Ul (m:Nat):∀n,HO N41 (Lu (zU m n)):=ar ah T34.right (fun k=>[Lu k]) (fun k h=>(aH h aA)) fun k a=>by kernel_rfl
def t41 (m:Nat):Int × List Dat × aw × ax × ao × List Dat × List Dat × List Dat × List Dat × List Dat × List Dat × List Dat->Option (List Un):=fun(a0,a1,a2,a3,a4,a5,a6,a7,a8,a9,a10,a11)=>
 zU m m (a0,a1,(a1.length:Int),0,a2,a3,a4,a5,a6,a7,a8,a9,a10,a11)
theorem QD (m:Nat) (p0:Int) (hp0:0<=p0) (xa:aw) (xb:ax) (x1 x2 x3 x4 x5 x6:List Dat):∀(rest pre:List Dat) (n:Nat) (y:ao) (c:List Dat),rest.length<n->(pre++rest).length<=1000000->(∀d∈rest,Ix c.length d=true)->eC c->
 (-288230376151711744<=y.fee-an 3 rest/\y.fee<=288230376151711744)->(-288230376151711744<=y.out-an 3 rest/\y.out<=288230376151711744)->(0<=y.rin/\y.rin+an 3 rest<=576460752303423488)->
 zU m n (p0,pre++rest,((pre++rest).length:Int),(pre.length:Int),xa,xb,y,x1,x2,x3,x4,x5,x6,c)=some (Uns.enc xa++Uns.enc xb++Uns.enc (dG rest y c).1++[.d x1,.d x2,.d x3,.d x4,.d x5,.d x6,.d (dG rest y c).2]):=by
 intro rest
 induction rest with
 |nil=>
  intro pre n y c hn hl hp hg f1 f2 f3;obtain⟨n,rfl⟩:=ai n (by simp at hn;omega);rw[vH];unfold Bx;dsimp only;simp[az,dG]
 |cons x rest ih=>
  intro pre n y c hn hl hp hg f1 f2 f3;obtain⟨n,rfl⟩:=ai n (by simp at hn;omega);simp only[zac,zad]at hn hl;have hx:=uw (hp x (by simp));have hr:=fun d hd=>hp d (zaG _ hd)
  have hs:=eP 3 rest fun d hd=>(uw (hr d hd)).1
  have hT:=Ft (hp x (by simp)) hg;have hN:(-288230376151711744<=(jP y x).fee-an 3 rest/\(jP y x).fee<=288230376151711744)/\(-288230376151711744<=(jP y x).out-an 3 rest/\(jP y x).out<=288230376151711744)/\(0<=(jP y x).rin/\(jP y x).rin+an 3 rest<=576460752303423488):=by
   simp only[an]at f1 f2 f3;unfold jP
   by_cases h1:x.i 1=1
   . rw[if_pos h1];simp only;omega
   rw[if_neg h1]
   by_cases h2:x.i 1=2
   . rw[if_pos h2];simp only;omega
   rw[if_neg h2]
   by_cases h3:x.i 1=6
   . rw[if_pos h3];simp only;omega
   rw[if_neg h3];omega
  have:=ih (pre++[x]) n (jP y x) (lO c x) (by omega) (by simp;omega) (by rw[zt];exact hr) hT hN.1 hN.2.1 hN.2.2;simp only[an]at f1 f2 f3;simp only[dG];rw[vH];unfold Bx;dsimp only;unfold jP lO at this⊢
  by_cases h1:x.i 1=1
  . simp only[if_pos h1]at this⊢;simp(disch:=omega) only[TRa,TRi,aa,LNl,LNi,zaa,au];simp only[LNl,LNi,zaa]at this⊢;exact this
  simp only[if_neg h1]at this⊢
  by_cases h2:x.i 1=2
  . simp only[if_pos h2]at this⊢;simp(disch:=omega) only[TRa,TRi,aa,LNl,LNi,zaa,au];simp only[LNl,LNi,zaa]at this⊢;exact this
  simp only[if_neg h2]at this⊢
  by_cases h6:x.i 1=6
  . simp only[if_pos h6]at this⊢;simp only[show decide ((0:Nat)<=0)=true from rfl,za8];simp(disch:=omega) only[TRa,TRi,aa,LNl,LNi,zaa,au];simp only[LNl,LNi,zaa]at this⊢;exact this
  simp only[if_neg h6]at this⊢;have hj:(x.i 2).toNat<c.length:=by omega
  have hd:=cz (cD hj hg.2);have hd2:=cD hj hg.2;have hjn:(((x.i 2).toNat:Int)).toNat=(x.i 2).toNat:=zaz _
  by_cases h3:x.i 1=3
  . simp only[if_pos h3]at this⊢;have e:(if (if (af c (x.i 2).toNat).i 5<x.i 3 then(af c (x.i 2).toNat).i 5 else x.i 3)<0 then 0 else(if (af c (x.i 2).toNat).i 5<x.i 3 then(af c (x.i 2).toNat).i 5 else x.i 3))=DK (x.i 3) (af c (x.i 2).toNat):=by unfold DK;omega
    have hv:0<=DK (x.i 3) (af c (x.i 2).toNat)/\DK (x.i 3) (af c (x.i 2).toNat)<=(af c (x.i 2).toNat).i 5:=by unfold DK;omega
    simp(disch:=omega) only[lt_eq,cq,aI,ba,dS,dR,LNl,LNi,zaa,au,e];rw[aa (n:=(af c (x.i 2).toNat).i 5-_) (by omega) (by omega),aa (by omega) (by omega)];unfold oE at this;simp only[LNl,LNi,zaa]at this⊢;exact this
  . simp only[if_neg h3]at this⊢;simp(disch:=omega) only[lt_eq,cq,aI,ba,dS,dR,LNl,LNi,zaa,au,hd2,za9];rw[aa (by omega) (by omega)];simp only[LNl,LNi,zaa]at this⊢;exact this
def f41:Int × List Dat × aw × ax × ao × List Dat × List Dat × List Dat × List Dat × List Dat × List Dat × List Dat->Bool × List Un:=fun(a0,a1,a2,a3,a4,a5,a6,a7,a8,a9,a10,a11)=>(decide (0<=a0)&&zV a1 a4 a11,Uns.enc ((a2):aw)++Uns.enc ((a3):ax)++Uns.enc (((dG a1 a4 a11).1):ao)++[.d (a5),.d (a6),.d (a7),.d (a8),.d (a9),.d (a10),.d ((dG a1 a4 a11).2)])
theorem Sp (a0:Int) (a1:List Dat) (a2:aw) (a3:ax) (a4:ao) (a5:List Dat) (a6:List Dat) (a7:List Dat) (a8:List Dat) (a9:List Dat) (a10:List Dat) (a11:List Dat) (hc:(decide (0<=a0)&&zV a1 a4 a11)=true):∃m,t41 m (a0,a1,a2,a3,a4,a5,a6,a7,a8,a9,a10,a11)=some (Uns.enc ((a2):aw)++Uns.enc ((a3):ax)++Uns.enc (((dG a1 a4 a11).1):ao)++[.d (a5),.d (a6),.d (a7),.d (a8),.d (a9),.d (a10),.d ((dG a1 a4 a11).2)]):=by
 simp only[zV,zab,zag,zal]at hc;obtain⟨h0,h1,h2,⟨h3,h4,h5,h6⟩,h7,h8⟩:=hc;have hs:=eP 3 a1 fun d hd=>(uw (h2 d hd)).1
 refine⟨a1.length+1, ?_⟩;exact QD _ a0 h0 a2 a3 a5 a6 a7 a8 a9 a10 a1 [] (a1.length+1) a4 a11 (by omega) (by simpa using h1) h2 ⟨h7,h8⟩ (by omega) (by omega) (by omega)
theorem NL:ER 41 (mkE N41.en N41.ex f41):=aq ah T34.right (fun m=>[Lu (zU m m)]) (t:=t41) (by kernel_rfl) (fun m=>(aH (Ul m m) aA)) (fun m a=>by kernel_rfl) fun(a0,a1,a2,a3,a4,a5,a6,a7,a8,a9,a10,a11) hc=>Sp a0 a1 a2 a3 a4 a5 a6 a7 a8 a9 a10 a11 hc
def T41:Tb Tryz.prog LQ TE XX:=T34.add 41 _ NL
def vC (parts aL has:Int):Int:=max (mdV aL parts 10000 0-has) 0
def fF (d:Dat):Dat:= .r [.n (d.i 0),.n (bo d),.n (d.i 5)]
theorem Qz (n b p h:Int):0<=mdV n b p h/\mdV n b p h<=1152921504606846976:=by
 unfold mdV
 split
 . rename_i hk;simp only[pV,zag]at hk;have:0<=n*b/p:=zbE (za4 hk.1 (by omega)) (by omega);refine⟨?_,by omega⟩;unfold mdQ
   split<;>omega
 . omega
theorem Cw {l:List Dat} (h1:l.length<=1000) (h2:∀d∈l,dH d=true):0<=an 1 l/\an 1 l<=1099511627776000:=by
 have:=qo 1 1099511627776 l fun d hd=>qu (h2 d hd)
 omega
def N39:aE:=⟨T41.tab,39,⟨[.ptr 0 0 0,.agg [.int .i64,.int .i64,.int .i64,.int .i64]],cL 0,9⟩,⟨[.agg [.int .i64,.int .i64,.int .i64,.int .i64,.buf 9 3]],cL 0++[.ab (sI 3)],9⟩,[]⟩
abbrev GM:Type:=Int × Int × aw × ax × ao × List Dat × List Dat × List Dat × List Dat × List Dat × List Dat × List Dat × Int × Int × Int × Int × Int × Int × Int × Int × List Dat × List Dat
def AS (m:Nat) (k:GM->Option (List Un)):GM->Option (List Un):=fun(a0,a1,a2,a3,a4,a5,a6,a7,a8,a9,a10,a11,a12,a13,a14,a15,a16,a17,a18,a19,a20,a21)=>
 bif decide (a1<a0)then
 chk (inb a1 a11.length)<|
 chk (decide (a1.toNat<a11.length))<|
 lt (af a11 a1.toNat:Dat) fun d8=>
 chk (fits (a21.length+1) 24)<|
 k (a0,(w64 (a1+1)),a2,a3,a4,a5,a6,a7,a8,a9,a10,a11,a12,a13,a14,a15,a16,a17,a18,a19,a20,(a21++([.r [.n (d8.i 0),.n (w64 (w64 ((d8.i 1)-w64 ((d8.i 3)-(d8.i 4)))-(d8.i 6))),.n (d8.i 5)]])))
 else
 some ([.i a16,.i a17,.i a18,.i a19]++Uns.enc (a2:aw)++Uns.enc (a3:ax)++Uns.enc (a4:ao)++[.d a5,.d a6,.d a7,.d a8,.d a9,.d a10,.d a11,.d a21])
def vX (m:Nat):Nat->GM->Option (List Un):=bg (AS m)
theorem wT (m:Nat) (n:Nat):vX m (n+1)=AS m (vX m n):=rfl
def Kr (F:GM->Option (List Un)):aQ:=⟨[.lp [0,1,0,1,1,1],.blk 0,.code [1,1,1,1]],⟨frm 78 [(4,.ptr 9 0 0),(9,.ptr 10 0 0),(57,.buf 8 7),(58,.int .i64),(59,.int .i64)],cL 0++[.cells [.int .i64,.int .i64,.int .i64,.int .i64,.buf 11 3],.cells [.int .i64,.int .i64,.int .i64,.int .i64,.buf 12 3],.ab (sI 3),.ab (sI 3)],9⟩,onU F⟩
theorem T1 (m:Nat):∀n,HO N39 (Kr (vX m n)):=ar ah T41.right (fun k=>[Kr k]) (fun k h=>(aH h aA)) fun k a=>by kernel_rfl
def t39 (m:Nat):Int × Int × Int × Int × aw × ax × ao × List Dat × List Dat × List Dat × List Dat × List Dat × List Dat × List Dat->Option (List Un):=fun(a0,a1,a2,a3,a4,a5,a6,a7,a8,a9,a10,a11,a12,a13)=>
 chk (decide (0<=0)&&(decide (a13.length<=1000)&&a13.all aU))<|
 lt ((w64 ((w64 (a0+a3))+a2)):Int) fun x1=>
 chk (decide (0<([.r [.r a12]]:List Dat).length)&&(decide (((af ([.r [.r a12]]:List Dat) 0).d 0).length<=1000)&&((af ([.r [.r a12]]:List Dat) 0).d 0).all dH))<|
 lt ((w64 (a6.rin-a6.bC)):Int) fun x4=>
 lt ((mdV (an 1 ((af ([.r [.r a12]]:List Dat) 0).d 0)) a5.target 10000 0):Int) fun x5=>
 vX m m ((a13.length:Int),0,a4,a5,a6,a7,a8,a9,a10,a11,a12,a13,0,0,0,0,a6.fee,a6.out,(if (bM bo a13)<x1 then(bM bo a13)else x1),(if (w64 (x5-x4))<0 then 0 else(w64 (x5-x4))),[],[])
theorem UA (m:Nat) (xa:aw) (xb:ax) (xn:ao) (x1 x2 x3 x4 x5 x6 z0:List Dat) (z1 z2 z3 z4 w1 w2 w3 w4:Int):∀(rest pre:List Dat) (n:Nat),rest.length<n->(pre++rest).length<=1000->(∀d∈rest,aU d=true)->
 vX m n (((pre++rest).length:Int),(pre.length:Int),xa,xb,xn,x1,x2,x3,x4,x5,x6,pre++rest,z1,z2,z3,z4,w1,w2,w3,w4,z0,pre.map fF)=
  some ([.i w1,.i w2,.i w3,.i w4]++Uns.enc xa++Uns.enc xb++Uns.enc xn++[.d x1,.d x2,.d x3,.d x4,.d x5,.d x6,.d (pre++rest),.d ((pre++rest).map fF)]):=by
 intro rest
 induction rest with
 |nil=>
  intro pre n hn hl hg;obtain⟨n,rfl⟩:=ai n (by simp at hn;omega);rw[wT];unfold AS;dsimp only;simp[az]
 |cons x rest ih=>
  intro pre n hn hl hg;obtain⟨n,rfl⟩:=ai n (by simp at hn;omega);simp only[zac,zad]at hn hl;have e:=NS (hg x (by simp));have:=ih (pre++[x]) n (by omega) (by simp;omega) (fun d hd=>hg d (by simp[hd]));rw[zbP,show[x].map fF=[.r [.n (x.i 0),.n (bo x),.n (x.i 5)]] from rfl]at this;rw[wT];unfold AS;dsimp only;simp only[LNi,au,lt_eq,e];simp(disch:=omega) only[TRa,TRi,aa,LNl,LNi,zaa,au];simp only[LNl,LNi,zaa]at this⊢;exact this
def f39:Int × Int × Int × Int × aw × ax × ao × List Dat × List Dat × List Dat × List Dat × List Dat × List Dat × List Dat->Bool × List Un:=fun(a0,a1,a2,a3,a4,a5,a6,a7,a8,a9,a10,a11,a12,a13)=>(decide (((0<=a0/\a0<=1125899906842624)/\(0<=a2/\a2<=1125899906842624)/\(0<=a3/\a3<=1125899906842624))/\(0<=a6.bC/\a6.bC<=a6.rin/\a6.rin<=1152921504606846976))&&((decide (a12.length<=1000)&&a12.all dH)&&(decide (a13.length<=1000)&&a13.all aU)),[.i (a6.fee),.i (a6.out),.i (min (a0+a3+a2) (bM bo a13)),.i (vC a5.target (an 1 a12) (a6.rin-a6.bC))]++Uns.enc ((a4):aw)++Uns.enc ((a5):ax)++Uns.enc ((a6):ao)++[.d (a7),.d (a8),.d (a9),.d (a10),.d (a11),.d (a12),.d (a13),.d (a13.map fF)])
theorem SN (a0:Int) (a1:Int) (a2:Int) (a3:Int) (a4:aw) (a5:ax) (a6:ao) (a7:List Dat) (a8:List Dat) (a9:List Dat) (a10:List Dat) (a11:List Dat) (a12:List Dat) (a13:List Dat) (hc:(decide (((0<=a0/\a0<=1125899906842624)/\(0<=a2/\a2<=1125899906842624)/\(0<=a3/\a3<=1125899906842624))/\(0<=a6.bC/\a6.bC<=a6.rin/\a6.rin<=1152921504606846976))&&((decide (a12.length<=1000)&&a12.all dH)&&(decide (a13.length<=1000)&&a13.all aU)))=true):∃m,t39 m (a0,a1,a2,a3,a4,a5,a6,a7,a8,a9,a10,a11,a12,a13)=some ([.i (a6.fee),.i (a6.out),.i (min (a0+a3+a2) (bM bo a13)),.i (vC a5.target (an 1 a12) (a6.rin-a6.bC))]++Uns.enc ((a4):aw)++Uns.enc ((a5):ax)++Uns.enc ((a6):ao)++[.d (a7),.d (a8),.d (a9),.d (a10),.d (a11),.d (a12),.d (a13),.d (a13.map fF)]):=by
 simp only[zab,zag,zal]at hc;obtain⟨⟨⟨h1,h2,h3⟩,h4,h5,h6⟩,⟨h7,h8⟩,h9,h10⟩:=hc;have hg:eC a13:=⟨h9,h10⟩
 have hb:=Cw h7 h8;have hs:=(jg a13 h10).1;have hm:=Qz (an 1 a12) a5.target 10000 0;have hlb:(decide (a12.length<=1000)&&a12.all dH)=true:=by rw[zab,zal];exact⟨zae h7,h8⟩
 refine⟨a13.length+1, ?_⟩;unfold t39 vC;dsimp only[lt];refine aV (by rw[fA hg];rfl) ?_
 refine aV (zar.2 ⟨rfl,hlb⟩) ?_
 change vX _ _ (_,_,_,_,_,_,_,_,_,_,_,_,_,_,_,_,_,_,(if bM bo a13<w64 (w64 (a0+a3)+a2)then bM bo a13 else w64 (w64 (a0+a3)+a2)),(if w64 (mdV (an 1 a12) a5.target 10000 0-w64 (a6.rin-a6.bC))<0 then 0 else w64 (mdV (an 1 a12) a5.target 10000 0-w64 (a6.rin-a6.bC))),_,_)=_;rw[aa (n:=a0+a3) (by omega) (by omega),aa (n:=a0+a3+a2) (by omega) (by omega),aa (n:=a6.rin-a6.bC) (by omega) (by omega),aa (n:=mdV _ _ _ _-_) (by omega) (by omega)];rw[show(if bM bo a13<a0+a3+a2 then bM bo a13 else a0+a3+a2)=min (a0+a3+a2) (bM bo a13) by omega,show ∀z:Int,(if z<0 then 0 else z)=max z 0 from fun z=>by omega];exact UA _ a4 a5 a6 a7 a8 a9 a10 a11 a12 _ _ _ _ _ _ _ _ _ a13 [] (a13.length+1) (by omega) (by simpa using h9) h10
theorem PN:ER 39 (mkE N39.en N39.ex f39):=aq ah T41.right (fun m=>[Kr (vX m m)]) (t:=t39) (by kernel_rfl) (fun m=>(aH (T1 m m) aA)) (fun m a=>by kernel_rfl) fun(a0,a1,a2,a3,a4,a5,a6,a7,a8,a9,a10,a11,a12,a13) hc=>SN a0 a1 a2 a3 a4 a5 a6 a7 a8 a9 a10 a11 a12 a13 hc
def T39:Tb Tryz.prog LQ TE XX:=T41.add 39 _ PN
theorem vS:∀(k:Nat) (n:Int),cK n k++[n+k]=cK n (k+1)
 |0,n=>by simp[cK]
 |k+1,n=>by
  have:=vS k (n+1);simp only[cK,zaN,zaD,zaa]at this⊢;rw[<-this,show n+1+(k:Int)=n+((k:Int)+1) by omega]
theorem xK (u p l r:Int):0<=dw u p l r/\dw u p l r<=max u 0/\dw u p l r<=max (u-p) 0/\dw u p l r<=max (l-r) 0:=by unfold dw;omega
def N42:aE:=⟨T39.tab,42,⟨[.ptr 0 0 0,.agg [.int .i64,.int .i64,.int .i64,.int .i64]],cL 0,0⟩,⟨[],cL 0,0⟩,[]⟩
abbrev GF:Type:=Int × Int × Int × aw × ax × ao × List Dat × List Dat × List Dat × List Dat × List Dat × List Dat × List Dat × List Int
def A0 (m:Nat) (k:GF->Option (List Un)):GF->Option (List Un):=fun(a0,a1,a2,a3,a4,a5,a6,a7,a8,a9,a10,a11,a12,a13)=>
 bif decide (a2<a1)then
 chk (inb a2 a12.length)<|
 chk (fits (a13.length+([(a2.toNat:Int)]).length) 8)<|
 k (a0,a1,(w64 (a2+1)),a3,a4,a5,a6,a7,a8,a9,a10,a11,a12,(a13++([(a2.toNat:Int)])))
 else
 chk (decide (0<([.r [.r a11]]:List Dat).length)&&(decide (((af ([.r [.r a11]]:List Dat) 0).d 0).length<=1000)&&((af ([.r [.r a11]]:List Dat) 0).d 0).all dH))<|
 lt ((an 1 ((af ([.r [.r a11]]:List Dat) 0).d 0)):Int) fun x1=>
 chk (decide ((-1152921504606846976<=a0/\a0<=1152921504606846976)/\(-1152921504606846976<=x1/\x1<=1152921504606846976)/\(-1152921504606846976<=a5.aF/\a5.aF<=1152921504606846976)/\(-1152921504606846976<=a5.aR/\a5.aR<=1152921504606846976)))<|
 chk (decide ((dw a0 x1 a5.aF a5.aR)<=1152921504606846976)&&((decide (a13=cK 0 a12.length))&&(decide (a12.length<=1000)&&a12.all aU)))<|
 some (Uns.enc (a3:aw)++Uns.enc (a4:ax)++Uns.enc (a5:ao)++[.d a6,.d a7,.d a8,.d a9,.d a10,.d a11,.d (gr (dw a0 x1 a5.aF a5.aR) a12)])
def zI (m:Nat):Nat->GF->Option (List Un):=bg (A0 m)
theorem yi (m:Nat) (n:Nat):zI m (n+1)=A0 m (zI m n):=rfl
def K5 (F:GF->Option (List Un)):aQ:=⟨[.lp [0,1,0,1,1,1,1,1],.blk 0,.code [1,1,1,1,1,1]],⟨frm 70 [(0,.ptr 0 0 0),(7,.int .i64),(8,.buf 9 1),(39,.int .i64),(40,.int .i64)],cL 0++[.eB 8 7 0],0⟩,onU F⟩
theorem U0 (m:Nat):∀n,HO N42 (K5 (zI m n)):=ar ah T39.right (fun k=>[K5 k]) (fun k h=>(aH h aA)) fun k a=>by kernel_rfl
def t42 (m:Nat):Int × Int × Int × Int × aw × ax × ao × List Dat × List Dat × List Dat × List Dat × List Dat × List Dat × List Dat->Option (List Un):=fun(a0,a1,a2,a3,a4,a5,a6,a7,a8,a9,a10,a11,a12,a13)=>
 chk (decide (0<=0)&&(decide (a13.length<=1000)&&a13.all aU))<|
 zI m m ((bM unD a13),(a13.length:Int),0,a4,a5,({a6 with aF:=(w64 (a6.aF+a2)),aR:=(w64 (a6.aR+a3))}:ao),a7,a8,a9,a10,a11,a12,a13,[])
theorem TR (m:Nat) (u:Int) (xa:aw) (xb:ax) (y:ao) (x1 x2 x3 x4 x5 x6 x7:List Dat) (hu:0<=u/\u<=1099511627776000) (h1:0<=y.aF/\y.aF<=1152921504606846976) (h2:0<=y.aR/\y.aR<=1152921504606846976) (h3:(decide (x6.length<=1000)&&x6.all dH)=true) (hb:0<=an 1 x6/\an 1 x6<=1099511627776000) (hg:eC x7):∀(k i n:Nat),i+k=x7.length->k<n->
 zI m n (u,(x7.length:Int),(i:Int),xa,xb,y,x1,x2,x3,x4,x5,x6,x7,cK 0 i)=some (Uns.enc xa++Uns.enc xb++Uns.enc y++[.d x1,.d x2,.d x3,.d x4,.d x5,.d x6,.d (gr (dw u (an 1 x6) y.aF y.aR) x7)]):=by
 intro k
 induction k with
 |zero=>
  intro i n hi hn;obtain⟨n,rfl⟩:=ai n (by omega);have ht:=xK u (an 1 x6) y.aF y.aR;have hgb:=fA hg;obtain rfl:i=x7.length:=by omega
  rw[yi];unfold A0;dsimp only;rw[az (by omega)];dsimp only[lt];refine aV (zar.2 ⟨rfl,h3⟩) ?_
  change chk (decide ((-1152921504606846976<=u/\u<=1152921504606846976)/\(-1152921504606846976<=an 1 x6/\an 1 x6<=1152921504606846976)/\(-1152921504606846976<=y.aF/\y.aF<=1152921504606846976)/\(-1152921504606846976<=y.aR/\y.aR<=1152921504606846976))) (chk (decide (dw u (an 1 x6) y.aF y.aR<=1152921504606846976)&&(decide (cK 0 x7.length=cK 0 x7.length)&&(decide (x7.length<=1000)&&x7.all aU))) _)=_;rw[aI (by omega)];exact aV (by rw[zab,zab];exact⟨@zae _ _ (by omega),@zae _ _ rfl,hgb⟩) rfl
 |succ k ih=>
  intro i n hi hn;obtain⟨n,rfl⟩:=ai n (by omega);have hg1:=hg.1;have hL:=gH i 0;have:=ih (i+1) n (by omega) (by omega);rw[<-vS i 0]at this;rw[yi];unfold A0;dsimp only;simp(disch:=omega) only[TRa,TRi,aa,LNl,LNi,zaa,hL];simp only[LNl,LNi,zaa]at this⊢;exact this
def f42:Int × Int × Int × Int × aw × ax × ao × List Dat × List Dat × List Dat × List Dat × List Dat × List Dat × List Dat->Bool × List Un:=fun(a0,a1,a2,a3,a4,a5,a6,a7,a8,a9,a10,a11,a12,a13)=>(decide (((0<=a0/\a0<=1125899906842624)/\(0<=a2/\a2<=1125899906842624)/\(0<=a3/\a3<=1125899906842624))/\(0<=a6.aF/\a6.aF<=1125899906842624)/\(0<=a6.aR/\a6.aR<=1125899906842624))&&((decide (a12.length<=1000)&&a12.all dH)&&(decide (a13.length<=1000)&&a13.all aU)),Uns.enc ((a4):aw)++Uns.enc ((a5):ax)++Uns.enc (({a6 with aF:=a6.aF+a2,aR:=a6.aR+a3}):ao)++[.d (a7),.d (a8),.d (a9),.d (a10),.d (a11),.d (a12),.d (gr (dw (bM unD a13) (an 1 a12) (a6.aF+a2) (a6.aR+a3)) a13)])
theorem QS (a0:Int) (a1:Int) (a2:Int) (a3:Int) (a4:aw) (a5:ax) (a6:ao) (a7:List Dat) (a8:List Dat) (a9:List Dat) (a10:List Dat) (a11:List Dat) (a12:List Dat) (a13:List Dat) (hc:(decide (((0<=a0/\a0<=1125899906842624)/\(0<=a2/\a2<=1125899906842624)/\(0<=a3/\a3<=1125899906842624))/\(0<=a6.aF/\a6.aF<=1125899906842624)/\(0<=a6.aR/\a6.aR<=1125899906842624))&&((decide (a12.length<=1000)&&a12.all dH)&&(decide (a13.length<=1000)&&a13.all aU)))=true):∃m,t42 m (a0,a1,a2,a3,a4,a5,a6,a7,a8,a9,a10,a11,a12,a13)=some (Uns.enc ((a4):aw)++Uns.enc ((a5):ax)++Uns.enc (({a6 with aF:=a6.aF+a2,aR:=a6.aR+a3}):ao)++[.d (a7),.d (a8),.d (a9),.d (a10),.d (a11),.d (a12),.d (gr (dw (bM unD a13) (an 1 a12) (a6.aF+a2) (a6.aR+a3)) a13)]):=by
 simp only[zab,zag,zal]at hc;obtain⟨⟨⟨h1,h2,h3⟩,h4,h5⟩,⟨h7,h8⟩,h9,h10⟩:=hc;have hg:eC a13:=⟨h9,h10⟩
 have hb:=Cw h7 h8;have hs:=(jg a13 h10).2.2.2.1;refine⟨a13.length+1, ?_⟩;unfold t42;dsimp only;refine aV (by rw[fA hg];rfl) ?_
 rw[aa (n:=a6.aF+a2) (by omega) (by omega),aa (n:=a6.aR+a3) (by omega) (by omega)];exact TR _ _ a4 a5 {a6 with aF:=a6.aF+a2,aR:=a6.aR+a3} a7 a8 a9 a10 a11 a12 a13 (by omega) (by simp only;omega) (by simp only;omega) (by rw[zab,zal];exact⟨zae h7,h8⟩) hb hg a13.length 0 (a13.length+1) (by omega) (by omega)
theorem NP:ER 42 (mkE N42.en N42.ex f42):=aq ah T39.right (fun m=>[K5 (zI m m)]) (t:=t42) (by kernel_rfl) (fun m=>(aH (U0 m m) aA)) (fun m a=>by kernel_rfl) fun(a0,a1,a2,a3,a4,a5,a6,a7,a8,a9,a10,a11,a12,a13) hc=>QS a0 a1 a2 a3 a4 a5 a6 a7 a8 a9 a10 a11 a12 a13 hc
def T42:Tb Tryz.prog LQ TE XX:=T39.add 42 _ NP
def si (d:Dat):Dat:= .r [.n (bo d),.n (d.i 5),.n (d.i 6)]
def N46:aE:=⟨T42.tab,46,⟨[.agg [.bool,.int .i64,.int .i64,.int .i64,.int .i64,.int .i64,.int .i64,.int .i64,.int .i64,.int .i64,.int .i64,.buf 9 4,.int .i64,.int .i64,.int .i64,.int .i64,.int .i64,.dX,.int .i64],.np 0 0 0],cL 0++[.ab (sI 4)],10⟩,⟨[.agg [.bool,.int .i64,.int .i64,.int .i64,.int .i64,.int .i64,.int .i64,.int .i64,.int .i64,.int .i64,.int .i64,.buf 9 4,.int .i64,.int .i64,.int .i64,.int .i64,.int .i64,.buf 10 3,.int .i64]],cL 0++[.ab (sI 4),.ab (sI 3)],10⟩,[]⟩
abbrev GN:Type:=Int × Int × aw × ax × ao × List Dat × List Dat × List Dat × List Dat × List Dat × List Dat × List Dat × List Dat × bE × bw × Int × bE × bw × Int × List Dat × List Dat × List Dat
def CB (m:Nat) (k:GN->Option (List Un)):GN->Option (List Un):=fun(a0,a1,a2,a3,a4,a5,a6,a7,a8,a9,a10,a11,a12,a13,a14,a15,a16,a17,a18,a19,a20,a21)=>
 bif decide (a1<a0)then
 chk (inb a1 a11.length)<|
 chk (decide (a1.toNat<a11.length))<|
 lt (af a11 a1.toNat:Dat) fun d3=>
 chk (fits (a19.length+1) 24)<|
 k (a0,(w64 (a1+1)),a2,a3,a4,a5,a6,a7,a8,a9,a10,a11,a12,a13,a14,a15,a16,a17,a18,(a19++([.r [.n (w64 (w64 ((d3.i 1)-w64 ((d3.i 3)-(d3.i 4)))-(d3.i 6))),.n (d3.i 5),.n (d3.i 6)]])),a20,a21)
 else
 some (Uns.enc (a13:bE)++Uns.enc (a14:bw)++[.i a15]++Uns.enc (a2:aw)++Uns.enc (a3:ax)++Uns.enc (a4:ao)++[.d a5,.d a6,.d a7,.d a8,.d a9,.d a10,.d a11,.d a12,.d a19])
def As (m:Nat):Nat->GN->Option (List Un):=bg (CB m)
theorem vI (m:Nat) (n:Nat):As m (n+1)=CB m (As m n):=rfl
def KM (F:GN->Option (List Un)):aQ:=⟨[.lp [0,1,0,1,1],.blk 0,.code [1,1,1]],⟨frm 58 [(2,.ptr 10 0 0),(4,.ptr 11 0 0),(38,.buf 8 7),(39,.int .i64),(40,.int .i64)],cL 0++[.ab (sI 4),.cells [.bool,.int .i64,.int .i64,.int .i64,.int .i64,.int .i64,.int .i64,.int .i64,.int .i64,.int .i64,.int .i64,.buf 9 4,.int .i64,.int .i64,.int .i64,.int .i64,.int .i64,.buf 12 3,.int .i64],.cells [.bool,.int .i64,.int .i64,.int .i64,.int .i64,.int .i64,.int .i64,.int .i64,.int .i64,.int .i64,.int .i64,.buf 13 4,.int .i64,.int .i64,.int .i64,.int .i64,.int .i64,.buf 14 3,.int .i64],.ab (sI 3),.ab (sI 4),.ab (sI 3)],10⟩,onU F⟩
theorem Vh (m:Nat):∀n,HO N46 (KM (As m n)):=ar ah T42.right (fun k=>[KM k]) (fun k h=>(aH h aA)) fun k a=>by kernel_rfl
def t46 (m:Nat):bE × bw × Int × Int × aw × ax × ao × List Dat × List Dat × List Dat × List Dat × List Dat × List Dat × List Dat × List Dat->Option (List Un):=fun(a0,a1,a2,a3,a4,a5,a6,a7,a8,a9,a10,a11,a12,a13,a14)=>
 chk (decide (0<=a3))<|
 chk (decide (0<([.r [.r a12]]:List Dat).length)&&(decide (((af ([.r [.r a12]]:List Dat) 0).d 0).length<=1000)&&((af ([.r [.r a12]]:List Dat) 0).d 0).all dH))<|
 chk (decide (0<=a3))<|
 chk (decide (0<=a3))<|
 chk (decide (0<=a3))<|
 chk (decide (0<=a3))<|
 chk (decide (0<=a3))<|
 As m m ((a13.length:Int),0,a4,a5,a6,a7,a8,a9,a10,a11,a12,a13,a14,a0,(⟨a1.bq,(an 1 ((af ([.r [.r a12]]:List Dat) 0).d 0)),(w64 (a6.rin-a6.bC)),a6.out,a6.fee⟩:bw),a6.mode,(⟨false,0,0,0,0,0,0,0,0,0,0⟩:bE),(⟨0,0,0,0,0⟩:bw),0,[],[],[])
theorem Mx (m:Nat) (xa:aw) (xb:ax) (xn:ao) (x1 x2 x3 x4 x5 x6 py:List Dat) (ra za:bE) (rb zb:bw) (nx zx:Int) (z1 z2:List Dat):∀(rest pre:List Dat) (n:Nat),rest.length<n->(pre++rest).length<=1000->(∀d∈rest,aU d=true)->
 As m n (((pre++rest).length:Int),(pre.length:Int),xa,xb,xn,x1,x2,x3,x4,x5,x6,pre++rest,py,ra,rb,nx,za,zb,zx,pre.map si,z1,z2)=
  some (Uns.enc ra++Uns.enc rb++[.i nx]++Uns.enc xa++Uns.enc xb++Uns.enc xn++[.d x1,.d x2,.d x3,.d x4,.d x5,.d x6,.d (pre++rest),.d py,.d ((pre++rest).map si)]):=by
 intro rest
 induction rest with
 |nil=>
  intro pre n hn hl hg;obtain⟨n,rfl⟩:=ai n (by simp at hn;omega);rw[vI];unfold CB;dsimp only;simp[az]
 |cons x rest ih=>
  intro pre n hn hl hg;obtain⟨n,rfl⟩:=ai n (by simp at hn;omega);simp only[zac,zad]at hn hl;have e:=NS (hg x (by simp));have:=ih (pre++[x]) n (by omega) (by simp;omega) (fun d hd=>hg d (by simp[hd]));rw[zbP,show[x].map si=[.r [.n (bo x),.n (x.i 5),.n (x.i 6)]] from rfl]at this;rw[vI];unfold CB;dsimp only;simp only[LNi,au,lt_eq,e];simp(disch:=omega) only[TRa,TRi,aa,LNl,LNi,zaa,au];simp only[LNl,LNi,zaa]at this⊢;exact this
def f46:bE × bw × Int × Int × aw × ax × ao × List Dat × List Dat × List Dat × List Dat × List Dat × List Dat × List Dat × List Dat->Bool × List Un:=fun(a0,a1,a2,a3,a4,a5,a6,a7,a8,a9,a10,a11,a12,a13,a14)=>(decide (0<=a3)&&(decide (0<=a6.bC/\a6.bC<=a6.rin/\a6.rin<=1152921504606846976)&&((decide (a12.length<=1000)&&a12.all dH)&&(decide (a13.length<=1000)&&a13.all aU))),Uns.enc ((a0):bE)++Uns.enc (((⟨a1.bq,an 1 a12,a6.rin-a6.bC,a6.out,a6.fee⟩:bw)):bw)++[.i (a6.mode)]++Uns.enc ((a4):aw)++Uns.enc ((a5):ax)++Uns.enc ((a6):ao)++[.d (a7),.d (a8),.d (a9),.d (a10),.d (a11),.d (a12),.d (a13),.d (a14),.d (a13.map si)])
theorem SW (a0:bE) (a1:bw) (a2:Int) (a3:Int) (a4:aw) (a5:ax) (a6:ao) (a7:List Dat) (a8:List Dat) (a9:List Dat) (a10:List Dat) (a11:List Dat) (a12:List Dat) (a13:List Dat) (a14:List Dat) (hc:(decide (0<=a3)&&(decide (0<=a6.bC/\a6.bC<=a6.rin/\a6.rin<=1152921504606846976)&&((decide (a12.length<=1000)&&a12.all dH)&&(decide (a13.length<=1000)&&a13.all aU))))=true):∃m,t46 m (a0,a1,a2,a3,a4,a5,a6,a7,a8,a9,a10,a11,a12,a13,a14)=some (Uns.enc ((a0):bE)++Uns.enc (((⟨a1.bq,an 1 a12,a6.rin-a6.bC,a6.out,a6.fee⟩:bw)):bw)++[.i (a6.mode)]++Uns.enc ((a4):aw)++Uns.enc ((a5):ax)++Uns.enc ((a6):ao)++[.d (a7),.d (a8),.d (a9),.d (a10),.d (a11),.d (a12),.d (a13),.d (a14),.d (a13.map si)]):=by
 simp only[zab,zag,zal]at hc;obtain⟨h0,⟨h4,h5,h6⟩,⟨h7,h8⟩,h9,h10⟩:=hc;have hb:=Cw h7 h8;have hlb:(decide (a12.length<=1000)&&a12.all dH)=true:=by rw[zab,zal];exact⟨zae h7,h8⟩
 refine⟨a13.length+1, ?_⟩;unfold t46;dsimp only[lt];simp only[aI h0];refine aV (zar.2 ⟨rfl,hlb⟩) ?_
 rw[aa (n:=a6.rin-a6.bC) (by omega) (by omega)];exact Mx _ a4 a5 a6 a7 a8 a9 a10 a11 a12 a14 a0 _ _ _ _ _ _ _ a13 [] (a13.length+1) (by omega) (by simpa using h9) h10
theorem PF:ER 46 (mkE N46.en N46.ex f46):=aq ah T42.right (fun m=>[KM (As m m)]) (t:=t46) (by kernel_rfl) (fun m=>(aH (Vh m m) aA)) (fun m a=>by kernel_rfl) fun(a0,a1,a2,a3,a4,a5,a6,a7,a8,a9,a10,a11,a12,a13,a14) hc=>SW a0 a1 a2 a3 a4 a5 a6 a7 a8 a9 a10 a11 a12 a13 a14 hc
def T46:Tb Tryz.prog LQ TE XX:=T42.add 46 _ PF
def NZ (a b p:Int):Bool:=decide (0<=a/\a<=1099511627776/\0<=b/\b<=1099511627776/\0<=p/\p<=100000)
def ca (a b p:Int):Bool:=NZ a b p&&decide (b*p<=a*10000)
def cS (a b p:Int):Bool:=NZ a b p&&decide (a*10000<=b*p)
def N87:aE:=⟨T46.tab,87,⟨[.int .i64,.int .i64,.int .i64],[],0⟩,⟨[.bool],[],0⟩,[]⟩
def t87 (m:Nat):Int × Int × Int->Option (List Un):=fun(a0,a1,a2)=>
 bif decide (a0>=0)then
 bif (decide (a0<=1099511627776))then
 bif decide (a1>=0)then
 bif (decide (a1<=1099511627776))then
 bif decide (a2>=0)then
 bif decide (a2<=100000)then
 some ([.b (decide ((w64 (a0*10000))>=(w64 (a1*a2))))])
 else
 some ([.b false])
 else
 some ([.b false])
 else
 some ([.b false])
 else
 some ([.b false])
 else
 some ([.b false])
 else
 some ([.b false])
def f87:Int × Int × Int->Bool × List Un:=fun(a0,a1,a2)=>(true,[.b (ca a0 a1 a2)])
theorem S3 (a0:Int) (a1:Int) (a2:Int):∃m,t87 m (a0,a1,a2)=some ([.b (ca a0 a1 a2)]):=by
 unfold t87 ca NZ;dsimp only[ge_iff_le]
 by_cases h:0<=a0/\a0<=1099511627776/\0<=a1/\a1<=1099511627776/\0<=a2/\a2<=100000
 . obtain⟨h1,h2,h3,h4,h5,h6⟩:=h;have hm:=Int.mul_le_mul h4 h6 h5 (show(0:Int)<=1099511627776 by omega);have hm0:=za4 h3 h5;refine⟨0, ?_⟩;rw[zae (show 0<=a0/\a0<=1099511627776/\0<=a1/\a1<=1099511627776/\0<=a2/\a2<=100000 from⟨h1,h2,h3,h4,h5,h6⟩)];simp(disch:=omega) only[TRa,aa,za8]
 . refine⟨0, ?_⟩;rw[zaH h]
   by_cases h1:0<=a0
   . by_cases h2:a0<=1099511627776
     . by_cases h3:0<=a1
       . by_cases h4:a1<=1099511627776
         . by_cases h5:0<=a2
           . simp[h1,h2,h3,h4,h5,show ¬a2<=100000 by omega]
           . simp[h1,h2,h3,h4,h5]
         . simp[h1,h2,h3,h4]
       . simp[h1,h2,h3]
     . simp[h1,h2]
   . simp[h1]
theorem Ms:ER 87 (mkE N87.en N87.ex f87):=aq ah T46.right (fun m=>[]) (t:=t87) (by kernel_rfl) (fun m=>aA) (fun m a=>by kernel_rfl) fun(a0,a1,a2) hc=>S3 a0 a1 a2
def T87:Tb Tryz.prog LQ TE XX:=T46.add 87 _ Ms
def N88:aE:=⟨T87.tab,88,⟨[.int .i64,.int .i64,.int .i64],[],0⟩,⟨[.bool],[],0⟩,[]⟩
def t88 (m:Nat):Int × Int × Int->Option (List Un):=fun(a0,a1,a2)=>
 bif decide (a0>=0)then
 bif (decide (a0<=1099511627776))then
 bif decide (a1>=0)then
 bif (decide (a1<=1099511627776))then
 bif decide (a2>=0)then
 bif decide (a2<=100000)then
 some ([.b (decide ((w64 (a0*10000))<=(w64 (a1*a2))))])
 else
 some ([.b false])
 else
 some ([.b false])
 else
 some ([.b false])
 else
 some ([.b false])
 else
 some ([.b false])
 else
 some ([.b false])
def f88:Int × Int × Int->Bool × List Un:=fun(a0,a1,a2)=>(true,[.b (cS a0 a1 a2)])
theorem Q4 (a0:Int) (a1:Int) (a2:Int):∃m,t88 m (a0,a1,a2)=some ([.b (cS a0 a1 a2)]):=by
 unfold t88 cS NZ;dsimp only[ge_iff_le]
 by_cases h:0<=a0/\a0<=1099511627776/\0<=a1/\a1<=1099511627776/\0<=a2/\a2<=100000
 . obtain⟨h1,h2,h3,h4,h5,h6⟩:=h;have hm:=Int.mul_le_mul h4 h6 h5 (show(0:Int)<=1099511627776 by omega);have hm0:=za4 h3 h5;refine⟨0, ?_⟩;rw[zae (show 0<=a0/\a0<=1099511627776/\0<=a1/\a1<=1099511627776/\0<=a2/\a2<=100000 from⟨h1,h2,h3,h4,h5,h6⟩)];simp(disch:=omega) only[TRa,aa,za8]
 . refine⟨0, ?_⟩;rw[zaH h]
   by_cases h1:0<=a0
   . by_cases h2:a0<=1099511627776
     . by_cases h3:0<=a1
       . by_cases h4:a1<=1099511627776
         . by_cases h5:0<=a2
           . simp[h1,h2,h3,h4,h5,show ¬a2<=100000 by omega]
           . simp[h1,h2,h3,h4,h5]
         . simp[h1,h2,h3,h4]
       . simp[h1,h2,h3]
     . simp[h1,h2]
   . simp[h1]
theorem Ol:ER 88 (mkE N88.en N88.ex f88):=aq ah T87.right (fun m=>[]) (t:=t88) (by kernel_rfl) (fun m=>aA) (fun m a=>by kernel_rfl) fun(a0,a1,a2) hc=>Q4 a0 a1 a2
def T88:Tb Tryz.prog LQ TE XX:=T87.add 88 _ Ol
def N44:aE:=⟨T88.tab,44,⟨[.agg [.int .i64,.int .i64,.int .i64,.int .i64,.int .i64],.agg [.int .i64,.int .i64,.int .i64,.int .i64,.int .i64,.int .i64,.int .i64]],[],0⟩,⟨[.agg [.bool,.bool,.bool,.bool]],[],0⟩,[]⟩
def t44 (m:Nat):Int × Int × Int × Int × Int × Int × Int × Int × Int × Int × Int × Int->Option (List Un):=fun(a0,a1,a2,a3,a4,a5,a6,a7,a8,a9,a10,a11)=>
 bif a0==0 then
 bif a1==0 then
 bif a2==0 then
 bif a3==0 then
 some ([.b true,.b true,.b true,.b true])
 else
 some ([.b true,.b true,.b true,.b (cS a11 a6 a3)])
 else
 bif a3==0 then
 some ([.b true,.b true,.b (cS a10 a5 a2),.b true])
 else
 some ([.b true,.b true,.b (cS a10 a5 a2),.b (cS a11 a6 a3)])
 else
 bif a2==0 then
 bif a3==0 then
 some ([.b true,.b (ca a8 a9 a1),.b true,.b true])
 else
 some ([.b true,.b (ca a8 a9 a1),.b true,.b (cS a11 a6 a3)])
 else
 bif a3==0 then
 some ([.b true,.b (ca a8 a9 a1),.b (cS a10 a5 a2),.b true])
 else
 some ([.b true,.b (ca a8 a9 a1),.b (cS a10 a5 a2),.b (cS a11 a6 a3)])
 else
 bif a1==0 then
 bif a2==0 then
 bif a3==0 then
 some ([.b (ca a5 a7 a0),.b true,.b true,.b true])
 else
 some ([.b (ca a5 a7 a0),.b true,.b true,.b (cS a11 a6 a3)])
 else
 bif a3==0 then
 some ([.b (ca a5 a7 a0),.b true,.b (cS a10 a5 a2),.b true])
 else
 some ([.b (ca a5 a7 a0),.b true,.b (cS a10 a5 a2),.b (cS a11 a6 a3)])
 else
 bif a2==0 then
 bif a3==0 then
 some ([.b (ca a5 a7 a0),.b (ca a8 a9 a1),.b true,.b true])
 else
 some ([.b (ca a5 a7 a0),.b (ca a8 a9 a1),.b true,.b (cS a11 a6 a3)])
 else
 bif a3==0 then
 some ([.b (ca a5 a7 a0),.b (ca a8 a9 a1),.b (cS a10 a5 a2),.b true])
 else
 some ([.b (ca a5 a7 a0),.b (ca a8 a9 a1),.b (cS a10 a5 a2),.b (cS a11 a6 a3)])
def f44:Int × Int × Int × Int × Int × Int × Int × Int × Int × Int × Int × Int->Bool × List Un:=fun(a0,a1,a2,a3,a4,a5,a6,a7,a8,a9,a10,a11)=>(true,[.b ((a0==0||ca a5 a7 a0)),.b ((a1==0||ca a8 a9 a1)),.b ((a2==0||cS a10 a5 a2)),.b ((a3==0||cS a11 a6 a3))])
theorem RO (a0:Int) (a1:Int) (a2:Int) (a3:Int) (a4:Int) (a5:Int) (a6:Int) (a7:Int) (a8:Int) (a9:Int) (a10:Int) (a11:Int):∃m,t44 m (a0,a1,a2,a3,a4,a5,a6,a7,a8,a9,a10,a11)=some ([.b ((a0==0||ca a5 a7 a0)),.b ((a1==0||ca a8 a9 a1)),.b ((a2==0||cS a10 a5 a2)),.b ((a3==0||cS a11 a6 a3))]):=by
 refine⟨0, ?_⟩;unfold t44;dsimp only;cases a0==0<;>cases a1==0<;>cases a2==0<;>cases a3==0<;>rfl
theorem MM:ER 44 (mkE N44.en N44.ex f44):=aq ah T88.right (fun m=>[]) (t:=t44) (by kernel_rfl) (fun m=>aA) (fun m a=>by kernel_rfl) fun(a0,a1,a2,a3,a4,a5,a6,a7,a8,a9,a10,a11) hc=>RO a0 a1 a2 a3 a4 a5 a6 a7 a8 a9 a10 a11
def T44:Tb Tryz.prog LQ TE XX:=T88.add 44 _ MM
def gK (need has:Int):Int:=max (min (max need 0) has) 0
def Fw (need has may:Int):Int:=max (min (max need 0-gK need has) may) 0
def N36:aE:=⟨T44.tab,36,⟨[.int .i64,.np 0 0 20,.int .i64,.int .i64],cL 0,0⟩,⟨[.int .i64,.int .i64],cL 0,0⟩,[]⟩
def t36 (m:Nat):Int × Int × Int × Int × aw × ax × ao × List Dat × List Dat × List Dat × List Dat × List Dat × List Dat × List Dat->Option (List Un):=fun(a0,a1,a2,a3,a4,a5,a6,a7,a8,a9,a10,a11,a12,a13)=>
 lt ((if a0<0 then 0 else a0):Int) fun x1=>
 bif (!((decide (a1<0))&&true))then
 chk (decide (0<=a1))<|
 lt ((w64 (a6.rin-a6.bC)):Int) fun x3=>
 lt ((if x3<x1 then x3 else x1):Int) fun x4=>
 lt ((if x4<0 then 0 else x4):Int) fun x5=>
 chk (decide (0<=a1))<|
 chk (decide (0<=a1))<|
 lt ((if (w64 (a3-a2))<(w64 (x1-x5))then(w64 (a3-a2))else(w64 (x1-x5))):Int) fun x6=>
 some ([.i x5,.i (if x6<0 then 0 else x6)]++Uns.enc (a4:aw)++Uns.enc (a5:ax)++Uns.enc (({a6 with bC:=(w64 (a6.bC+x5))}:ao):ao)++[.d a7,.d a8,.d a9,.d a10,.d a11,.d a12,.d a13])
 else
 lt ((if (w64 (a3-a2))<(w64 (x1-0))then(w64 (a3-a2))else(w64 (x1-0))):Int) fun x8=>
 some ([.i 0,.i (if x8<0 then 0 else x8)]++Uns.enc (a4:aw)++Uns.enc (a5:ax)++Uns.enc (a6:ao)++[.d a7,.d a8,.d a9,.d a10,.d a11,.d a12,.d a13])
def f36:Int × Int × Int × Int × aw × ax × ao × List Dat × List Dat × List Dat × List Dat × List Dat × List Dat × List Dat->Bool × List Un:=fun(a0,a1,a2,a3,a4,a5,a6,a7,a8,a9,a10,a11,a12,a13)=>(decide (0<=a1)&&decide ((-1152921504606846976<=a0/\a0<=1152921504606846976)/\((0:Int)<=a6.bC/\a6.bC<=a6.rin/\a6.rin<=(1152921504606846976:Int))/\(0<=a2/\a2<=1152921504606846976)/\(0<=a3/\a3<=1152921504606846976)),[.i (gK a0 (a6.rin-a6.bC)),.i (Fw a0 (a6.rin-a6.bC) (a3-a2))]++Uns.enc ((a4):aw)++Uns.enc ((a5):ax)++Uns.enc (({a6 with bC:=a6.bC+gK a0 (a6.rin-a6.bC)}):ao)++[.d (a7),.d (a8),.d (a9),.d (a10),.d (a11),.d (a12),.d (a13)])
theorem QX (a0:Int) (a1:Int) (a2:Int) (a3:Int) (a4:aw) (a5:ax) (a6:ao) (a7:List Dat) (a8:List Dat) (a9:List Dat) (a10:List Dat) (a11:List Dat) (a12:List Dat) (a13:List Dat) (hc:(decide (0<=a1)&&decide ((-1152921504606846976<=a0/\a0<=1152921504606846976)/\((0:Int)<=a6.bC/\a6.bC<=a6.rin/\a6.rin<=(1152921504606846976:Int))/\(0<=a2/\a2<=1152921504606846976)/\(0<=a3/\a3<=1152921504606846976)))=true):∃m,t36 m (a0,a1,a2,a3,a4,a5,a6,a7,a8,a9,a10,a11,a12,a13)=some ([.i (gK a0 (a6.rin-a6.bC)),.i (Fw a0 (a6.rin-a6.bC) (a3-a2))]++Uns.enc ((a4):aw)++Uns.enc ((a5):ax)++Uns.enc (({a6 with bC:=a6.bC+gK a0 (a6.rin-a6.bC)}):ao)++[.d (a7),.d (a8),.d (a9),.d (a10),.d (a11),.d (a12),.d (a13)]):=by
 simp only[zab,zag]at hc;obtain⟨h0,⟨h1,h2⟩,⟨h3,h4,h5⟩,⟨h6,h7⟩,h8,h9⟩:=hc;refine⟨0, ?_⟩;unfold t36;dsimp only;simp only[za9,lt_eq,zaH (show ¬a1<0 by omega),Bool.not_false,zau,zae h0,jJ];rw[aa (n:=a6.rin-a6.bC) (by omega) (by omega),aa (n:=a3-a2) (by omega) (by omega)];have e:(if (if a6.rin-a6.bC<(if a0<0 then 0 else a0)then a6.rin-a6.bC else(if a0<0 then 0 else a0))<0 then 0 else(if a6.rin-a6.bC<(if a0<0 then 0 else a0)then a6.rin-a6.bC else(if a0<0 then 0 else a0)))=gK a0 (a6.rin-a6.bC):=by unfold gK;omega
 have hd:0<=gK a0 (a6.rin-a6.bC)/\gK a0 (a6.rin-a6.bC)<=1152921504606846976/\gK a0 (a6.rin-a6.bC)<=max a0 0/\gK a0 (a6.rin-a6.bC)<=a6.rin-a6.bC:=by unfold gK;omega
 rw[e,show(if a0<0 then 0 else a0)=max a0 0 by omega,aa (n:=max a0 0-_) (by omega) (by omega),aa (n:=a6.bC+_) (by omega) (by omega)];rw[show(if (if a3-a2<max a0 0-gK a0 (a6.rin-a6.bC)then a3-a2 else max a0 0-gK a0 (a6.rin-a6.bC))<0 then 0 else(if a3-a2<max a0 0-gK a0 (a6.rin-a6.bC)then a3-a2 else max a0 0-gK a0 (a6.rin-a6.bC)))=Fw a0 (a6.rin-a6.bC) (a3-a2) by unfold Fw;omega]
theorem Pb:ER 36 (mkE N36.en N36.ex f36):=aq ah T44.right (fun m=>[]) (t:=t36) (by kernel_rfl) (fun m=>aA) (fun m a=>by kernel_rfl) fun(a0,a1,a2,a3,a4,a5,a6,a7,a8,a9,a10,a11,a12,a13) hc=>QX a0 a1 a2 a3 a4 a5 a6 a7 a8 a9 a10 a11 a12 a13 hc
def T36:Tb Tryz.prog LQ TE XX:=T44.add 36 _ Pb
def eU (d:bJ) (m:Int):List Dat:=if m=0 then d.s0 else if m=1 then d.s1 else if m=2 then d.s2 else[]
def N40:aE:=⟨T36.tab,40,⟨[.agg [.int .i64,.int .i64,.int .i64,.ab (sI 2),.ab (sI 3),.int .i64,.int .i64,.int .i64,.int .i64,.int .i64,.int .i64,.int .i64,.int .i64,.int .i64,.int .i64,.ab (sI 2),.ab (sI 2),.ab (sI 2)],.agg [.int .i64,.int .i64]],[],0⟩,⟨[.buf 0 2],[.ab (sI 2)],0⟩,[]⟩
def t40 (m:Nat):bJ × Int × Int->Option (List Un):=fun(a0,a1,a2)=>
 bif decide (a1<0)then
 some ([.d ([])])
 else
 bif decide (a1>=3)then
 some ([.d ([])])
 else
 chk (inb a1 3)<|
 chk (decide (a1.toNat<3))<|
 chk (decide ((List.getD [a0.s0,a0.s1,a0.s2] a1.toNat []).length<1000000))<|
 some ([.d (List.getD [a0.s0,a0.s1,a0.s2] a1.toNat [])])
def f40:bJ × Int × Int->Bool × List Un:=fun(a0,a1,a2)=>(decide (a0.s0.length<1000000/\a0.s1.length<1000000/\a0.s2.length<1000000),[.d (eU a0 a1)])
theorem SP (a0:bJ) (a1:Int) (a2:Int) (hc:(decide (a0.s0.length<1000000/\a0.s1.length<1000000/\a0.s2.length<1000000))=true):∃m,t40 m (a0,a1,a2)=some ([.d (eU a0 a1)]):=by
 obtain⟨h1,h2,h3⟩:=zaj hc;refine⟨0, ?_⟩;unfold t40 eU;dsimp only
 by_cases c0:a1<0
 . rw[ba c0,if_neg (by omega),if_neg (by omega),if_neg (by omega)]
 by_cases c3:a1>=3
 . rw[az c0,ba c3,if_neg (by omega),if_neg (by omega),if_neg (by omega)]
 rw[az c0,az c3,cq (by omega) (by omega),aI (by omega)];obtain rfl|rfl|rfl:a1=0\/a1=1\/a1=2:=by omega
 . exact(aI h1).trans rfl
 . exact(aI h2).trans rfl
 . exact(aI h3).trans rfl
theorem Pa:ER 40 (mkE N40.en N40.ex f40):=aq ah T36.right (fun m=>[]) (t:=t40) (by kernel_rfl) (fun m=>aA) (fun m a=>by kernel_rfl) fun(a0,a1,a2) hc=>SP a0 a1 a2 hc
def T40:Tb Tryz.prog LQ TE XX:=T36.add 40 _ Pa
def ga (d:Dat):Prop:=0<=d.i 1/\0<=d.i 2/\d.i 1+d.i 2<=1099511627776/\(0<=d.i 3/\d.i 3<=12)/\(d.b 4=true->d.i 1=0)/\(d.b 4=false->d.i 2=0)
theorem D9 {p q r s l:Int} (h:jy p q r s l=true):(0<=p/\p<=1099511627776)/\(0<=q/\q<=1099511627776)/\(0<=r/\r<=1099511627776)/\(0<=s/\s<=1099511627776)/\0<=l/\l<=12:=by
 simp only[jy,zab,zag]at h;omega
theorem Lk {x d:Dat} (hx:ga x) (hl:jy (d.i 1) (d.i 2) (d.i 3) (d.i 4) (d.i 5)=true) (hm:BJ x d=true):ga (m6 x d)/\(m6 x d).i 1=x.i 1-(d.i 1+d.i 2)-jd (x.i 1) (d.i 1) (d.i 2) (d.b 6)/\(m6 x d).i 2=x.i 2+jd (x.i 1) (d.i 1) (d.i 2) (d.b 6)-d.i 4/\
 0<=jd (x.i 1) (d.i 1) (d.i 2) (d.b 6)/\d.i 1+d.i 2+jd (x.i 1) (d.i 1) (d.i 2) (d.b 6)<=x.i 1/\d.i 4<=x.i 2+jd (x.i 1) (d.i 1) (d.i 2) (d.b 6):=by
 obtain⟨x1,x2,x3,x4,x5,x6⟩:=hx;have l:=D9 hl;have e1:(m6 x d).i 1=wW (x.i 1) (d.i 1) (d.i 2) (d.b 6):=rfl;have e2:(m6 x d).i 2=pR (x.i 1) (x.i 2) (d.i 1) (d.i 2) (d.i 4) (d.b 6):=rfl;have e3:(m6 x d).i 3=pX (x.i 1) (x.b 4) (d.i 1) (d.i 2) (d.i 5) (d.b 6):=rfl;have e4:(m6 x d).b 4=(d.b 6||x.b 4):=Qn _;unfold ga;rw[e1,e2,e3,e4];unfold BJ xt at hm;unfold wW pR pX jd;generalize d.i 1=p at*
 generalize d.i 2=q at*
 generalize d.i 3=r at*
 generalize d.i 4=s at*
 generalize d.i 5=t at*
 generalize x.i 1=b at*
 generalize x.i 2=o at*
 clear e1 e2 e3 e4 hl;cases hb:x.b 4
 . have:=x6 hb;simp only[hb,zao,show w64 (b-p)=b-p from aa (by omega) (by omega),show w64 (b-p-q)=b-p-q from aa (by omega) (by omega)]at hm;simp only[show w64 (p+q)=p+q from aa (by omega) (by omega),show w64 (b-(p+q))=b-(p+q) from aa (by omega) (by omega)]
   by_cases hn:b-p-q<0
   . rw[zae hn]at hm;cases hm
   rw[zaH hn,zao]at hm;cases hd:d.b 6
   . simp only[hd,zao,zay]at hm;subst hm;simp only[zao,Bool.or_self,zbt,zbU,show w64 o=o from aa (by omega) (by omega)];have hz:0<=(bif b-(p+q)==0 then 0 else t)/\(bif b-(p+q)==0 then 0 else t)<=12:=by cases (b-(p+q)==0)<;>simp only[zau,zao]<;>omega
     and_intros<;>first|trivial|omega|(intro h;cases h;done)|(intro _;omega)
   . simp only[hd,zau,show w64 (o+(b-p-q))=o+(b-p-q) from aa (by omega) (by omega)]at hm;have hr:s<=o+(b-p-q):=by
      by_cases hs:s<=o+(b-p-q)
      . exact hs
      . rw[zaH hs,zao,zay]at hm;omega
     simp only[zau,Bool.or_false,show w64 (o+(b-(p+q)))=o+(b-(p+q)) from aa (by omega) (by omega),show w64 (o+(b-(p+q))-s)=o+(b-(p+q))-s from aa (by omega) (by omega)]
     and_intros<;>first|trivial|omega|(intro h;cases h;done)|(intro _;omega)
 . have:=x5 hb;subst this;rw[hb]at hm;simp only[zau,zab,zay,zb9,zag]at hm;obtain⟨rfl,rfl,h3,h4,h5,h6⟩:=hm;rw[h5];simp only[zau,zao,zck,show w64 0=0 by decide,zbt,zbU,show w64 (o-s)=o-s from aa (by omega) (by omega)]
   and_intros<;>first|trivial|omega|(intro h;cases h;done)|(intro _;omega)
theorem rq {β:Type} (f:Dat->β) (y:Dat):∀(l:List Dat) (j:Nat),j<l.length->f y=f (af l j)->(l.set j y).map f=l.map f
 |[],j,h,_=>by simp at h
 |d::l,0,_,h=>by simp only[List.set_cons_zero,zaV,h];rfl
 |d::l,j+1,h,hy=>by simp only[zbX,zaV,rq f y l j (by simpa using h) hy]
theorem fN {l:List Dat} (h:∀d∈l,ga d):0<=an 1 l/\0<=an 2 l:=⟨eP 1 l fun d hd=>(h d hd).1,eP 2 l fun d hd=>(h d hd).2.1⟩
theorem Am:∀(t l:List Dat) (last p q s r:Int) (x:JC),(∀d∈l,ga d)->kL last t=true->fV l p q s r t=some x->an 1 l+an 2 l<=1099511627776->(0<=p/\p+an 1 l<=4398046511104)->(0<=s/\s+an 1 l<=4398046511104)->(0<=r/\r+an 1 l+an 2 l<=4398046511104)->(0<=q/\q+1099511627776*t.length<=1125899906842624)->
 (∀d∈x.aL,ga d)/\x.aL.map (fun d=>d.i 0)=l.map (fun d=>d.i 0)/\an 1 x.aL=an 1 l-(x.p-p)-(x.l-s)/\an 2 x.aL=an 2 l+(x.l-s)-(x.r-r)/\p<=x.p/\s<=x.l/\r<=x.r/\(q<=x.q/\x.q<=q+1099511627776*t.length)/\x.e=0
 |[],l,last,p,q,s,r,x,hl,ht,h,b1,b2,b3,b4,b5=>by
  simp only[fV,zak]at h;subst h;exact⟨hl,rfl,by simp,by simp,by simp,by simp,by simp,by simp,rfl⟩
 |d::t,l,last,p,q,s,r,x,hl,ht,h,b1,b2,b3,b4,b5=>by
  simp only[kL]at ht
  split at ht
  . cases ht
  . split at ht
    . rename_i hT;unfold fV at h
      split at h
      . cases h
      . rename_i hi
        split at h
        . rename_i hm;rcases BD (d.i 0) l 0 with hj|⟨hj1,hj2⟩
          . omega
          . have hj:(fE (d.i 0) 0 l).toNat<l.length:=by omega
            generalize (fE (d.i 0) 0 l).toNat=j at*
            obtain⟨r1,r2,r3,r4,r5,r6⟩:=Lk (hl _ (qZ hj)) hT hm;have lt:=D9 hT;have s1:=nP 1 (m6 (af l j) d) l j hj;have s2:=nP 2 (m6 (af l j) d) l j hj;have hl':=Gq (p:=ga) (j:=j) hl r1;obtain⟨n1,n2⟩:=fN hl;obtain⟨n3,n4⟩:=fN hl';rw[r2]at s1;rw[r3]at s2;simp only[zac,zaD,zaa]at b5;generalize jd ((af l j).i 1) (d.i 1) (d.i 2) (d.b 6)=z at*
            rw[show w64 (d.i 1+d.i 2)=d.i 1+d.i 2 from aa (by omega) (by omega),show w64 (p+(d.i 1+d.i 2))=p+(d.i 1+d.i 2) from aa (by omega) (by omega),show w64 (q+d.i 3)=q+d.i 3 from aa (by omega) (by omega),show w64 (s+z)=s+z from aa (by omega) (by omega),show w64 (r+d.i 4)=r+d.i 4 from aa (by omega) (by omega)]at h;obtain⟨c1,c2,c3,c4,c5,c6,c7,c8,c9⟩:=Am t _ _ _ _ _ _ x hl' ht h (by omega) (by omega) (by omega) (by omega) (by omega);refine⟨c1,c2.trans (rq _ _ _ _ hj rfl),by omega,by omega,by omega,by omega,by omega, ?_,c9⟩;simp only[zac,zaD,zaa];omega
        . cases h
    . cases ht
theorem Jj {t l:List Dat} (hl:∀d∈l,ga d) (b:an 1 l+an 2 l<=1099511627776) (he:(aG t l).e=0):
 (∀d∈(aG t l).aL,ga d)/\(aG t l).aL.map (fun d=>d.i 0)=l.map (fun d=>d.i 0)/\an 1 (aG t l).aL=an 1 l-(aG t l).p-(aG t l).l/\an 2 (aG t l).aL=an 2 l+(aG t l).l-(aG t l).r/\
 0<=(aG t l).p/\0<=(aG t l).l/\0<=(aG t l).r/\0<=(aG t l).q/\(aG t l).q<=70368744177664:=by
 unfold aG at he⊢
 split at he
 . rename_i ht;rw[if_pos ht];simp only[pc,zab,zag]at ht;cases hx:fV l 0 0 0 0 t with
   |none=>rw[hx]at he;cases he
   |some x=>
    obtain⟨n1,n2⟩:=fN hl;obtain⟨c1,c2,c3,c4,c5,c6,c7,c8,c9⟩:=Am t l 0 0 0 0 0 x hl ht.2 hx b (by omega) (by omega) (by omega) (by omega);simp only[zbw];exact⟨c1,c2,by omega,by omega,c5,c6,c7,c8.1,by omega⟩
 . cases he
theorem nI (f:Dat->Bool):∀l:List Dat,(∀d∈l,0<=d.i 3)->0<=bj f l
 |[],_=>zcj 0
 |d::l,h=>by
  have:=h d (by simp);have:=nI f l fun x hx=>h x (by simp[hx])
  simp only[bj];cases f d<;>simp only[zau,zao]<;>omega
def uJ (d e:Dat) (b s:Int):Prop:=e.i 0=d.i 0/\e.i 1=d.i 1/\e.i 2=d.i 2/\e.i 3=d.i 3+b/\e.i 4=d.i 4/\e.i 5=d.i 5-s/\e.i 6=d.i 6
def amt (f:Dat->Bool) (d:Dat):Int:=bif f d then d.i 3 else 0
theorem dx (f:Dat->Bool) (d:Dat) (l:List Dat):bj f (d::l)=amt f d+bj f l:=rfl
theorem JY {n:ao} {x:Dat} {c:List Dat} (h3:0<=x.i 3) (hk:(x.i 1=1\/x.i 1=2\/x.i 1=6)\/(0<=x.i 2/\x.i 2<(c.length:Int))) (hb:∀i,i<c.length->amt (toB i) x<=bo (af c i)/\amt (toI i) x<=(af c i).i 5):
 jP n x={n with fee:=n.fee-amt kF x,out:=n.out-amt kR x,rin:=n.rin+amt kT x}/\∀i,i<c.length->uJ (af c i) (af (lO c x) i) (amt (toB i) x) (amt (toI i) x):=by
 have zero:∀i,kI x=false->kB x=false->uJ (af c i) (af c i) (amt (toB i) x) (amt (toI i) x):=fun i h1 h2=>by
  simp only[amt,toB,toI,h1,h2,zbs,zao];exact⟨rfl,rfl,rfl,by omega,rfl,by omega,rfl⟩
 unfold jP lO
 by_cases h1:x.i 1=1
 . have a1:kF x=true:=by simp[kF,h1]
   have a2:kR x=false:=by simp[kR,h1]
   have a3:kT x=false:=by simp[kT,h1]
   have a4:kI x=false:=by simp[kI,h1]
   have a5:kB x=false:=by simp[kB,a1]
   rw[if_pos h1,if_pos h1];refine⟨?_,fun i hi=>zero i a4 a5⟩;simp only[amt,a1,a2,a3,zau,zao,zbt,zbU]
 rw[if_neg h1,if_neg h1];have a1:kF x=false:=lZ h1
 by_cases h2:x.i 1=2
 . have a2:kR x=true:=by simp[kR,h2]
   have a3:kT x=false:=by simp[kT,h2]
   have a4:kI x=false:=by simp[kI,h2]
   have a5:kB x=false:=by simp[kB,a2]
   rw[if_pos h2,if_pos h2];refine⟨?_,fun i hi=>zero i a4 a5⟩;simp only[amt,a1,a2,a3,zau,zao,zbt,zbU]
 rw[if_neg h2,if_neg h2];have a2:kR x=false:=lZ h2
 by_cases h6:x.i 1=6
 . have a3:kT x=true:=by simp[kT,h6]
   have a4:kI x=false:=by simp[kI,h6]
   have a5:kB x=false:=by simp[kB,a3]
   rw[if_pos h6,if_pos h6];refine⟨?_,fun i hi=>zero i a4 a5⟩;simp only[amt,a1,a2,a3,zau,zao,zbt,zbU]
 rw[if_neg h6,if_neg h6];have a3:kT x=false:=lZ h6;refine⟨by simp only[amt,a1,a2,a3,zao,zbt,zbU],fun i hi=> ?_⟩;have hj:(x.i 2).toNat<c.length:=by omega
 have hx2:x.i 2=((x.i 2).toNat:Int):=by omega
 generalize (x.i 2).toNat=j at*
 have hbj:=hb j hj
 by_cases h3':x.i 1=3
 . have a4:kI x=true:=by simp[kI,h3']
   have a5:kB x=false:=by simp[kB,a4]
   rw[if_pos h3'];simp only[amt,toB,toI,a4,a5,zbs,za8,zao,hx2]at hbj⊢
   by_cases hij:i=j
   . subst hij;rw[beq_self_eq_true,zau]at hbj⊢;rw[w6 hj];refine⟨rfl,rfl,rfl,by simp only[oE,fY];omega,rfl, ?_,rfl⟩;simp only[oE,pO,DK];omega
   . rw[show((j:Int)==(i:Int))=false from lZ (by omega),zao,nj hij];exact⟨rfl,rfl,rfl,by omega,rfl,by omega,rfl⟩
 . have a4:kI x=false:=lZ h3';have a5:kB x=true:=by simp[kB,a1,a2,a3,a4]
   rw[if_neg h3'];simp only[amt,toB,toI,a4,a5,zbs,za8,zao,hx2]at hbj⊢
   by_cases hij:i=j
   . subst hij;rw[beq_self_eq_true,zau]at hbj⊢;rw[w6 hj];refine⟨rfl,rfl,rfl, ?_,rfl,by simp only[ug,pO];omega,rfl⟩;simp only[ug,fY,oy];omega
   . rw[show((j:Int)==(i:Int))=false from lZ (by omega),zao,nj hij];exact⟨rfl,rfl,rfl,by omega,rfl,by omega,rfl⟩
theorem zE:∀(p:List Dat) (n:ao) (c:List Dat),(∀d∈p,0<=d.i 3)->(∀d∈p,(d.i 1=1\/d.i 1=2\/d.i 1=6)\/(0<=d.i 2/\d.i 2<(c.length:Int)))->(∀i,i<c.length->bj (toB i) p<=bo (af c i)/\bj (toI i) p<=(af c i).i 5)->
 (dG p n c).1={n with fee:=n.fee-bj kF p,out:=n.out-bj kR p,rin:=n.rin+bj kT p}/\(dG p n c).2.length=c.length/\∀i,i<c.length->uJ (af c i) (af (dG p n c).2 i) (bj (toB i) p) (bj (toI i) p)
 |[],n,c,_,_,_=>by
  refine⟨by simp[dG,bj],rfl,fun i hi=>⟨rfl,rfl,rfl, ?_,rfl, ?_,rfl⟩⟩<;>simp[dG,bj]
 |x::p,n,c,h0,hk,hb=>by
  have n0:=fun f=>nI f p fun d hd=>h0 d (zaG _ hd)
  have hx0:=h0 x (by simp);have m0:∀f,0<=amt f x:=fun f=>by unfold amt;cases f x<;>simp only[zau,zao]<;>omega
  obtain⟨o1,o2⟩:=JY (n:=n) hx0 (hk x (by simp)) fun i hi=>by
   have:=hb i hi;rw[dx,dx]at this;have:=n0 (toB i);have:=n0 (toI i);omega
  have hl:=zt c x;obtain⟨i1,i2,i3⟩:=zE p (jP n x) (lO c x) (fun d hd=>h0 d (zaG _ hd)) (fun d hd=>by rw[hl];exact hk d (zaG _ hd)) fun i hi=>by
   rw[hl]at hi;have:=hb i hi;rw[dx,dx]at this;obtain⟨_,e1,_,e3,e4,e5,e6⟩:=o2 i hi;unfold bo at this⊢;omega
  refine⟨?_,i2.trans hl,fun i hi=> ?_⟩
  . show(dG p (jP n x) (lO c x)).1=_;rw[i1,o1];simp only[dx,Int.sub_sub,Int.add_assoc]
  . obtain⟨e0,e1,e2,e3,e4,e5,e6⟩:=o2 i hi;obtain⟨f0,f1,f2,f3,f4,f5,f6⟩:=i3 i (by rw[hl];exact hi);rw[dx,dx];exact⟨f0.trans e0,f1.trans e1,f2.trans e2,by show(af (dG p (jP n x) (lO c x)).2 i).i 3=_;omega,f4.trans e4,by show(af (dG p (jP n x) (lO c x)).2 i).i 5=_;omega,f6.trans e6⟩
def g9 (d e:Dat):Prop:=e.i 0=d.i 0/\e.i 1=d.i 1/\e.i 2=d.i 2/\e.i 3=d.i 3/\e.i 4=d.i 4/\e.i 5=d.i 5
theorem g9.refl (d:Dat):g9 d d:=⟨rfl,rfl,rfl,rfl,rfl,rfl⟩
theorem g9.trans {a b c:Dat} (h:g9 a b) (k:g9 b c):g9 a c:=⟨k.1.trans h.1,k.2.1.trans h.2.1,k.2.2.1.trans h.2.2.1,k.2.2.2.1.trans h.2.2.2.1,k.2.2.2.2.1.trans h.2.2.2.2.1,k.2.2.2.2.2.trans h.2.2.2.2.2⟩
structure fz (c c' : List Dat) : Prop where
 len:c'.length=c.length
 row:∀i,i<c.length->g9 (af c i) (af c' i)
theorem fz.refl (c:List Dat):fz c c:=⟨rfl,fun _ _=> .refl _⟩
theorem fz.trans {a b c:List Dat} (h:fz a b) (k:fz b c):fz a c:=⟨k.len.trans h.len,fun i hi=>(h.row i hi).trans (k.row i (by rw[h.len];exact hi))⟩
theorem fz.set {c:List Dat} {j:Nat} {y:Dat} (hj:j<c.length) (h:g9 (af c j) y):fz c (c.set j y):=⟨zbf,fun i hi=>by
 by_cases e:i=j
 . subst e;rw[w6 hj];exact h
 . rw[nj e];exact .refl _⟩
theorem Em (w:Int) (d:Dat):g9 d (eL w d):=⟨rfl,rfl,rfl,rfl,rfl,rfl⟩
theorem Gc (w:Int) (d:Dat):g9 d (gE w d):=⟨rfl,rfl,rfl,rfl,rfl,rfl⟩
theorem y8 (f:Dat->Int):∀c:List Dat,(∀d∈c,f d=0)->bM f c=0
 |[],_=>rfl
 |d::c,h=>by simp only[bM,h d (by simp),y8 f c fun x hx=>h x (by simp[hx])];rfl
theorem Av (j:Nat):∀c:List Dat,(∀d∈c,d.i j=0)->an j c=0
 |[],_=>rfl
 |d::c,h=>by simp only[an,h d (by simp),Av j c fun x hx=>h x (by simp[hx])];rfl
theorem Pv {c:List Dat} {j:Nat} {y:Dat} (hj:j<c.length) (h:g9 (af c j) y):bM unD (c.set j y)=bM unD c:=by
 obtain⟨_,h1,_,h3,h4,_⟩:=h;rw[CS _ _ _ _ hj];unfold unD;omega
theorem GR (t:Int):∀(k:Nat) (c:List Dat),eC c->yh t c<k->eC (ue k t c)/\fz c (ue k t c)/\(an 6 c<=t->an 6 (ue k t c)=min t (bM unD c))/\(t<=an 6 c->ue k t c=c)
 |0,c,_,h=>by omega
 |k+1,c,hg,h=>by
  have hu:=jg c hg.2;unfold ue
  by_cases hs:an 6 c<t
  . rw[if_pos hs]
    by_cases hj:gz c c.length 0 (-1)<0
    . rw[if_pos hj];refine⟨hg,.refl c,fun _=> ?_,fun _=>rfl⟩;have h0:=((uC c c.length 0 (-1) (by omega) (.inl (by omega))).1 hj).2;have:bM bo c=0:=y8 _ _ fun d hd=>by
       obtain⟨i,hi,rfl⟩:=nF hd;have:=h0 i (by omega) hi;have:=(Fl (cD hi hg.2)).1;omega
      omega
    . rw[if_neg hj];obtain⟨a1,a2,a3,a4⟩:=P5 hg hs (by omega);have hw:=Em (t-an 6 c) (af c (gz c c.length 0 (-1)).toNat);have hun:=Pv a1 hw;have has:=fz.set a1 hw;generalize c.set (gz c c.length 0 (-1)).toNat (eL (t-an 6 c) (af c (gz c c.length 0 (-1)).toNat))=c' at*
      obtain⟨b1,b2,b3,b4⟩:=GR t k c' a2 (by omega);exact⟨b1,has.trans b2,fun _=>by rw[b3 a4,hun],fun _=>by omega⟩
  . rw[if_neg hs];exact⟨hg,.refl c,fun _=>by omega,fun _=>rfl⟩
theorem GA (t:Int) (h0:0<=t):∀(k:Nat) (c:List Dat),eC c->v8 t c<k->eC (sf k t c)/\fz c (sf k t c)/\(t<=an 6 c->an 6 (sf k t c)=t)/\(an 6 c<=t->sf k t c=c)
 |0,c,_,h=>by omega
 |k+1,c,hg,h=>by
  have hu:=jg c hg.2;unfold sf
  by_cases hs:t<an 6 c
  . rw[if_pos hs]
    by_cases hj:gu c c.length 0 (-1)<0
    . have h0:=((uz c c.length 0 (-1) (by omega) (.inl (by omega))).1 hj).2;have:an 6 c=0:=Av _ _ fun d hd=>by
       obtain⟨i,hi,rfl⟩:=nF hd;have:=h0 i (by omega) hi;have:=(cz (cD hi hg.2)).2.2.2.2.1;omega
      omega
    . rw[if_neg hj];obtain⟨a1,a2,a3,a4⟩:=P4 hg hs (by omega);have has:=fz.set a1 (Gc (an 6 c-t) (af c (gu c c.length 0 (-1)).toNat));generalize c.set (gu c c.length 0 (-1)).toNat (gE (an 6 c-t) (af c (gu c c.length 0 (-1)).toNat))=c' at*
      obtain⟨b1,b2,b3,b4⟩:=GA t h0 k c' a2 (by omega);exact⟨b1,has.trans b2,fun _=>b3 a4,fun _=>by omega⟩
  . rw[if_neg hs];exact⟨hg,.refl c,fun _=>by omega,fun _=>rfl⟩
theorem Il {t:Int} {c:List Dat} (hg:eC c) (h0:0<=t) (h1:t<=bM unD c):eC (gr t c)/\fz c (gr t c)/\an 6 (gr t c)=t:=by
 obtain⟨a1,a2,a3,a4⟩:=GR t (c.length+2) c hg (En t c);unfold gr;rw[show max t 0=t by omega];obtain⟨b1,b2,b3,b4⟩:=GA t h0 (c.length+2) (ue (c.length+2) t c) a1 (by have:=CX t (ue (c.length+2) t c);rwa [a2.len]at this);refine⟨b1,a2.trans b2, ?_⟩
 by_cases hs:an 6 c<=t
 . have:=a3 hs;rw[b4 (by omega)];omega
 . rw[a4 (by omega)]at b3⊢;exact b3 (by omega)
structure Tx (d : bJ) : Prop where
 year:1<=d.a.year/\d.a.year<=9000
 month:1<=d.a.month/\d.a.month<=12
 basis:0<=d.a.basis/\d.a.basis<=2
 fee:0<=d.b.fee/\d.b.fee<=5000
 aX:0<=d.b.aX/\d.b.aX<=1099511627776
 target:0<=d.b.target/\d.b.target<=10000
 advance:0<=d.b.advance/\d.b.advance<=1099511627776
 eY:0<=d.b.eY/\d.b.eY<=600
 oc:0<=d.b.oc/\d.b.oc<=100000
 ic:0<=d.b.ic/\d.b.ic<=100000
 late:0<=d.b.late/\d.b.late<=100000
 l7:0<=d.b.l7/\d.b.l7<=100000
 clean:0<=d.b.clean/\d.b.clean<=100000
 V8:((cr d).getD (0,0)).1=an 1 d.aP
 aL:0<=an 1 d.aP/\an 1 d.aP<=1099511627776
 UR:1<=d.aP.length/\d.aP.length<=64
 yo:∀x∈d.aP,0<=x.i 1/\x.i 1<=1099511627776
 ids:(d.aP.map fun x=>x.i 0).Pairwise (·<·)
 pos:∀x∈d.aP,0<x.i 0
 Wy:1<=d.notes.length/\d.notes.length<=8
 note:∀x∈d.notes,(0<=x.i 0/\x.i 0<=7)/\(1<=x.i 1/\x.i 1<=1099511627776)/\(0<=x.i 2/\x.i 2<=5000)
 sumn:an 1 d.notes<=an 1 d.aP
 s0:dF d.s0=true
 s1:dF d.s1=true
 s2:dF d.s2=true
theorem yQ:∀(l:List Dat) (last all r:Int),0<=all->iq last all l=some r->r=all+an 1 l/\(all<=1099511627776->r<=1099511627776)/\(∀x∈l,0<=x.i 1/\x.i 1<=1099511627776/\last<x.i 0)/\(l.map fun x=>x.i 0).Pairwise (·<·)
 |[],last,all,r,h0,h=>by
  simp only[iq,zak]at h;subst h;exact⟨by simp[an],fun h=>h,fun x hx=>by simp at hx,List.Pairwise.nil⟩
 |d::l,last,all,r,h0,h=>by
  unfold iq at h
  split at h
  . cases h
  . rename_i hl
    split at h
    . rename_i hb;obtain⟨h1,h2,h3,h4⟩:=yQ l _ _ _ (by omega) h;refine⟨by simp only[an];omega,fun _=>h2 (by omega),fun x hx=> ?_, ?_⟩
      . rcases zaY.1 hx with rfl|hx
        . omega
        . have:=h3 x hx;omega
      . simp only[zaV,List.pairwise_cons];refine⟨fun y hy=> ?_,h4⟩;obtain⟨x,hx,rfl⟩:=za6.1 hy;exact(h3 x hx).2.2
    . cases h
theorem Ab (most:Int) (hm:most<=1099511627776):∀(l:List Dat) (all r:Int),0<=all->kO most all l=some r->r=all+an 1 l/\(all<=most->r<=most)/\∀x∈l,(0<=x.i 0/\x.i 0<=7)/\(1<=x.i 1/\x.i 1<=1099511627776)/\(0<=x.i 2/\x.i 2<=5000)
 |[],all,r,h0,h=>by
  simp only[kO,zak]at h;subst h;exact⟨by simp[an],fun h=>h,fun x hx=>by simp at hx⟩
 |d::l,all,r,h0,h=>by
  unfold kO at h
  split at h
  . rename_i hb;obtain⟨h1,h2,h3⟩:=Ab most hm l _ _ (by omega) h;refine⟨by simp only[an];omega,fun _=>h2 (by omega),fun x hx=> ?_⟩;rcases zaY.1 hx with rfl|hx
    . omega
    . exact h3 x hx
  . cases h
theorem fh {d:bJ} (h:(cr d).isSome=true):Tx d:=by
 unfold cr at h
 split at h
 . cases h
 . rename_i p hp
   split at h
   . cases h
   . rename_i n hn
     split at h
     . rename_i hc;have hs:cr d=some (p,n):=by unfold cr;simp only[hp,hn,if_pos hc]
       simp only[zab,mz,zag]at hc;obtain⟨⟨t1,t2,t3,t4,t5,t6,t7,t8,t9,t10,t11,t12,t13⟩,s0,s1,s2⟩:=hc;unfold fg at hp
       split at hp
       . rename_i hl;obtain⟨l1,l2,l3,l4⟩:=yQ _ _ _ _ (by omega) hp;have l2:=l2 (by omega);unfold jf at hn
         split at hn
         . rename_i hnl;obtain⟨n1,n2,n3⟩:=Ab p (by omega) _ _ _ (by omega) hn;have h0:=eP 1 d.aP fun x hx=>(l3 x hx).1
           have n2:=n2 (by omega);exact⟨t6,t7,t8,t9,t10,t11,t12,t13,t1,t2,t3,t4,t5,by rw[hs];show p=_;omega,by omega,hl,fun x hx=>⟨(l3 x hx).1,(l3 x hx).2.1⟩,l4,fun x hx=>(l3 x hx).2.2,hnl,n3,by omega,s0,s1,s2⟩
         . cases hn
       . cases hp
     . cases h
def gv (T:ae):bJ:=⟨T.a,T.aP,T.notes,T.b,T.s0,T.s1,T.s2⟩
structure fU (T : ae) : Prop where
 uh:(cr (gv T)).isSome=true
 L4:T.tr.map (fun d=>(d.i 0,d.i 1,d.i 2))=T.notes.map (fun d=>(d.i 0,d.i 1,d.i 2))
 Ny:∀d∈T.tr,aU d=true/\d.i 5<=1200000000000*T.n.period
 ids:T.aL.map (fun d=>d.i 0)=T.aP.map (fun d=>d.i 0)
 yo:∀d∈T.aL,ga d
 bal:an 1 T.aL+an 2 T.aL+T.n.aR<=an 1 T.aP
 lost:T.n.aF-T.n.aR=an 2 T.aL
 EH:0<=T.n.aR
 period:0<=T.n.period/\T.n.period<=600
 mode:0<=T.n.mode/\T.n.mode<=2
 bm:0<=T.n.bm/\T.n.bm<=T.n.period
 fee:0<=T.n.fee/\T.n.fee<=1200000000000*T.n.period
 out:0<=T.n.out/\T.n.out<=T.b.advance
 res:0<=T.n.bC/\T.n.bC<=T.n.rin/\T.n.rin<=1200000000000*(T.n.period+1)
 down:an 6 T.tr<=an 2 T.aL
section
variable (T : ae) (l : List Dat)
def cP:JC:=aG l T.aL
def pb:Int:=dt T.a T.n.period (an 1 T.aL) T.b.fee
def Ch:Int:=bM (fun d=>dt T.a T.n.period (bo d) (d.i 2)) T.tr
def cTr:List Dat:=T.tr.map (eF T.a T.n.period)
def cIn:Int:=(cP T l).p+(cP T l).q+(cP T l).r
def nJ:Int:=T.n.fee+pb T+an 5 (cTr T)-cIn T l
def fQ:Int:=gK (nJ T l) (T.n.rin-T.n.bC)
def od:Int:=Fw (nJ T l) (T.n.rin-T.n.bC) (T.b.advance-T.n.out)
def cN1:ao:={T.n with fee:=T.n.fee+pb T,bC:=T.n.bC+fQ T l}
def cX:bp:=⟨cIn T l+fQ T l+od T l,T.n.fee+pb T,T.n.out,min ((cP T l).p+(cP T l).r+(cP T l).l) (bM bo (cTr T)),vC T.b.target (an 1 (cP T l).aL) (T.n.rin-(T.n.bC+fQ T l))⟩
def cn:bp × List Dat × List Dat:=dY 0 (eU (gv T) T.n.mode) (cX T l) ((cTr T).map fF)
def dU:ao × List Dat:=dG (cn T l).2.2 (cN1 T l) (cTr T)
def cN2:ao:={(dU T l).1 with out:=(dU T l).1.out+od T l,aF:=(dU T l).1.aF+(cP T l).l,aR:=(dU T l).1.aR+(cP T l).r}
def gO:List Dat:=gr (dw (bM unD (dU T l).2) (an 1 (cP T l).aL) (cN2 T l).aF (cN2 T l).aR) (dU T l).2
def u7:Int × Int:=du T.n.mode T.n.bm T.b.eY (T.b.oc==0||ca (an 1 (cP T l).aL) (bM bo (gO T l)) T.b.oc) (T.b.ic==0||ca (min (cP T l).q 1099511627776) (min (Ch T) 1099511627776) T.b.ic)
 (T.b.late==0||cS (cJ 2 (cP T l).aL+cJ 3 (cP T l).aL) (an 1 (cP T l).aL) T.b.late) (T.b.l7==0||cS ((cN2 T l).aF-(cN2 T l).aR) (an 1 T.aP) T.b.l7)
def cN3:ao:={cN2 T l with mode:=(u7 T l).1,bm:=(u7 T l).2,period:=T.n.period+1}
end
structure pN where
 ra:bE
 rb:bw
 next:Int
 e:Int
 t:ae
 aK:List Dat
 notes:List Dat
def noR (e:Int) (T:ae):pN:=⟨⟨false,0,0,0,0,0,0,0,0,0,0⟩,⟨0,0,0,0,0⟩,0,e,T,[],[]⟩
def aC (T:ae) (l:List Dat):pN:=
 ⟨⟨false,T.n.period+1,T.n.mode,(cP T l).p,(cP T l).q,(cP T l).l,(cP T l).r,fQ T l,od T l,pb T,Ch T⟩,⟨(cn T l).1.ay,an 1 (cP T l).aL,(cN2 T l).rin-(cN2 T l).bC,(cN2 T l).out,(cN2 T l).fee⟩,(u7 T l).1,0,
  {T with n:=cN3 T l,aL:=(cP T l).aL,tr:=gO T l},(cn T l).2.2,(gO T l).map si⟩
def aJ (T:ae) (l:List Dat):pN:=bif T.n.j9 then noR 5 T else bif decide (T.n.period>=600)then noR 4 T else bif (cP T l).e !=0 then noR (cP T l).e T else aC T l
theorem qX (f:Dat->Dat) {l:List Dat} {i:Nat} (h:i<l.length):af (l.map f) i=f (af l i):=by
 rw[gg (by simpa using h),gg h,List.getElem_map]
theorem D2 (a:aw) (p:Int):∀l:List Dat,an 5 (l.map (eF a p))=an 5 l+bM (fun d=>dt a p (bo d) (d.i 2)) l/\an 6 (l.map (eF a p))=an 6 l/\bM bo (l.map (eF a p))=bM bo l
 |[]=>⟨rfl,rfl,rfl⟩
 |d::l=>by
  obtain⟨h1,h2,h3⟩:=D2 a p l;have e5:(eF a p d).i 5=d.i 5+dt a p (bo d) (d.i 2):=rfl;have e6:(eF a p d).i 6=d.i 6:=rfl;have eb:bo (eF a p d)=bo d:=rfl;simp only[zaV,an,bM,h1,h2,h3,e5,e6,eb]
  and_intros<;>first|trivial|omega
theorem GO (f:Dat->Int) (b:Int):∀l:List Dat,(∀d∈l,0<=f d/\f d<=b)->0<=bM f l/\bM f l<=b*l.length
 |[],_=>by simp[bM]
 |d::l,h=>by
  have h1:=h d (by simp);have h2:=GO f b l fun x hx=>h x (by simp[hx])
  simp only[bM,zac,zaD,zcb];omega
theorem L8 {n b:Int} (h1:0<=n) (h2:n<=1099511627776) (h3:0<=b) (h4:b<=10000):mdV n b 10000 0=n*b/10000/\0<=mdV n b 10000 0/\mdV n b 10000 0<=n:=by
 have hm:=zbZ h4 h1;have hz:=za4 h1 h3;have i:=Ui (n:=n) (b:=b) (p:=10000) (h:=0) h1 (by omega) h3 (by omega) (by omega) (by omega) (by omega) (by omega) (by omega);rw[i.2.1,Sb];omega
theorem iX {l:List Dat} (h:dF l=true):1<=l.length/\l.length<=16:=by
 simp only[dF,zab,zag]at h;omega
theorem IW {T:ae} {i:Nat} (hi:i<(cTr T).length):af ((cTr T).map fF) i=fF (af (cTr T) i):=qX _ hi
section
variable {T : ae} {l : List Dat} (h : fU T) (hp : T.n.period < 600) (he : (cP T l).e = 0)
include h
theorem o7:T.tr.length=T.notes.length:=by
 have:=congrArg List.length h.L4;simpa using this
theorem ev:T.tr.length<=8/\1<=T.tr.length:=by
 have:=(fh h.uh).Wy;rw[o7 h];exact⟨this.2,this.1⟩
theorem CJ:eC T.tr:=⟨by have:=ev h;omega,fun d hd=>(h.Ny d hd).1⟩
theorem kE:T.aL.length=T.aP.length/\T.aL.length<=64:=by
 have:=congrArg List.length h.ids;have:=(fh h.uh).UR;simp only[zaR,gv]at*
 omega
theorem ke:0<=an 1 T.aL/\0<=an 2 T.aL/\an 1 T.aL+an 2 T.aL+T.n.aR<=1099511627776:=by
 have h1:=fN h.yo;have h2:=(fh h.uh).aL.2;have h3:=h.bal;have:an 1 (gv T).aP=an 1 T.aP:=rfl;omega
theorem kh:(0<=pb T/\pb T<=1200000000000)/\eC (cTr T)/\(∀d∈cTr T,d.i 5<=1200000000000*(T.n.period+1))/\(Ch T=an 5 (cTr T)-an 5 T.tr/\0<=Ch T/\Ch T<=1200000000000*T.tr.length)/\bM bo (cTr T)=bM bo T.tr/\an 6 (cTr T)=an 6 T.tr:=by
 have D:=fh h.uh;obtain⟨b1,b2,b3⟩:=ke h;have r0:=h.EH;have hs:∀d∈T.tr,0<=dt T.a T.n.period (bo d) (d.i 2)/\dt T.a T.n.period (bo d) (d.i 2)<=1200000000000:=fun d hd=>
  rl _ D.year.1 D.year.2 D.month.1 D.month.2 h.period.1 (by have:=h.period.2;omega) (Fl (h.Ny d hd).1).1 (Fl (h.Ny d hd).1).2
 obtain⟨a1,a2,a3⟩:=D2 T.a T.n.period T.tr;have sd:=GO (fun d=>dt T.a T.n.period (bo d) (d.i 2)) 1200000000000 T.tr hs;have hsh:∀d∈cTr T,aU d=true/\d.i 5<=1200000000000*(T.n.period+1):=fun d hd=>by
  obtain⟨x,hx,rfl⟩:=za6.1 hd;obtain⟨g,g5⟩:=h.Ny x hx;have g':=cz g;have:=hs x hx;have:=h.period;have e5:(eF T.a T.n.period x).i 5=x.i 5+dt T.a T.n.period (bo x) (x.i 2):=rfl;refine⟨zae ?_,by omega⟩;rw[e5];show(0<=x.i 1/\x.i 1<=1099511627776/\0<=x.i 3/\x.i 4=0/\0<=x.i 6/\x.i 3+x.i 6<=x.i 1/\_);omega
 refine⟨rl _ D.year.1 D.year.2 D.month.1 D.month.2 h.period.1 (by have:=h.period.2;omega) b1 (by omega),⟨by simp only[cTr,zaR];have:=ev h;omega,fun d hd=>(hsh d hd).1⟩,fun d hd=>(hsh d hd).2,⟨?_,sd.1,sd.2⟩,a3,a2⟩;show bM _ T.tr=an 5 (T.tr.map (eF T.a T.n.period))-an 5 T.tr;omega
theorem o8:(cTr T).length=T.tr.length:=by simp[cTr]
include he
theorem oH:(∀d∈(cP T l).aL,ga d)/\(cP T l).aL.map (fun d=>d.i 0)=T.aL.map (fun d=>d.i 0)/\an 1 (cP T l).aL=an 1 T.aL-(cP T l).p-(cP T l).l/\an 2 (cP T l).aL=an 2 T.aL+(cP T l).l-(cP T l).r/\
 0<=(cP T l).p/\0<=(cP T l).l/\0<=(cP T l).r/\0<=(cP T l).q/\(cP T l).q<=70368744177664:=by
 have b:=ke h;have r0:=h.EH;exact Jj h.yo (by omega) he
theorem kq:(0<=cIn T l/\cIn T l<=75000000000000)/\(-1000000000000000<=nJ T l/\nJ T l<=10000000000000000)/\(0<=fQ T l/\fQ T l<=T.n.rin-T.n.bC/\fQ T l<=max (nJ T l) 0)/\(0<=od T l/\od T l<=T.b.advance-T.n.out):=by
 obtain⟨p1,p2,p3,p4,p5,p6,p7,p8,p9⟩:=oH h he;obtain⟨a1,a2,a3,a4,a5⟩:=kh h;have n1:=fN p1;have b:=ke h;have r0:=h.EH;have hi:0<=cIn T l/\cIn T l<=75000000000000:=by unfold cIn;omega
 have s5:=(jg (cTr T) a2.2).2.1;have hl:=ev h;have f:=h.fee;have p:=h.period;have s5':an 5 (cTr T)<=1200000000000*601*8:=by
  have:=qo 5 (1200000000000*601) (cTr T) fun d hd=>⟨(cz (a2.2 d hd)).2.2.2.2.2.2.1,by have:=a3 d hd;omega⟩
  have:=o8 h;omega
 have hn: -1000000000000000<=nJ T l/\nJ T l<=10000000000000000:=by unfold nJ;omega
 have r:=h.res;have o:=h.out;refine⟨hi,hn, ?_, ?_⟩
 . unfold fQ gK;omega
 . unfold od Fw;omega
theorem qm:nv (cX T l)=true/\aW ((cTr T).map fF)=true/\((cX T l).room<=1099511627776/\(cX T l).ay<=800000000000000):=by
 obtain⟨p1,p2,p3,p4,p5,p6,p7,p8,p9⟩:=oH h he;obtain⟨a1,a2,a3,a4,a5⟩:=kh h;obtain⟨c1,c2,c3,c4⟩:=kq h he;have n1:=fN p1;have b:=ke h;have D:=fh h.uh;have r:=h.res;have o:=h.out;have hpe:=h.period;have f:=h.fee;have r0:=h.EH;have sb:=(jg (cTr T) a2.2).1;have tg:0<=T.b.target/\T.b.target<=10000:=D.target;have ad:T.b.advance<=1099511627776:=D.advance.2;have g:=L8 (n:=an 1 (cP T l).aL) (b:=T.b.target) n1.1 (by omega) tg.1 tg.2;refine⟨zae ?_,uU (by rw[zaR];exact a2.1) fun d hd=> ?_, ?_, ?_⟩
 . simp only[cX,vC];omega
 . obtain⟨x,hx,rfl⟩:=za6.1 hd;have g:=cz (a2.2 x hx);have gb:=Fl (a2.2 x hx);simp only[lF,fF,zab,fa,iM];clear p1 p2 p3 p4 p5 p6 p7 p8 p9 a1 a3 a4 a5 c1 c2 c3 c4 D r o f r0 sb tg ad b n1 hpe;exact⟨rfl,zae (by omega)⟩
 . simp only[cX,vC];omega
 . simp only[cX];omega
end
theorem C1 {m p c:Int} {o i a s:Bool} (hm:0<=m/\m<=2) (hp:0<=p):(0<=(du m p c o i a s).1/\(du m p c o i a s).1<=2)/\0<=(du m p c o i a s).2/\(du m p c o i a s).2<=p+1:=by
 unfold du
 repeat' split
 all_goals (simp only;omega)
section
variable {T : ae} {l : List Dat} (h : fU T) (hp : T.n.period < 600) (he : (cP T l).e = 0)
include h
theorem nO:dF (eU (gv T) T.n.mode)=true:=by
 have D:=fh h.uh;have m:=h.mode;unfold eU
 by_cases m0:T.n.mode=0
 . rw[if_pos m0];exact D.s0
 rw[if_neg m0]
 by_cases m1:T.n.mode=1
 . rw[if_pos m1];exact D.s1
 rw[if_neg m1,if_pos (by omega)];exact D.s2
include he
theorem lY:Kept (cX T l) ((cTr T).map fF) (cn T l).2.2 (cn T l).1 (cn T l).2.1/\(∀d∈(cn T l).2.2,JD T.tr.length 0 (eU (gv T) T.n.mode) d)/\nv (cn T l).1=true/\aW (cn T l).2.1=true/\(cn T l).2.2.length<=128000:=by
 obtain⟨x1,x2,x3,x4⟩:=qm h he;have k:=Aw (eU (gv T) T.n.mode) 0 (cX T l) _ x1 x2;have o:=Hp (eU (gv T) T.n.mode) 0 (cX T l) _ x1 x2;have sl:=iX (nO h);have e:((cTr T).map fF).length=T.tr.length:=by rw[zaR,o8 h]
 rw[e]at k;exact⟨k.1,k.2.1,o.1,o.2.1,by have:=o.2.2.2;unfold cn;omega⟩
theorem kG:(∀d∈(cn T l).2.2,1<=d.i 3/\((d.i 1=1\/d.i 1=2\/d.i 1=6)\/(0<=d.i 2/\d.i 2<(T.tr.length:Int))))/\an 3 (cn T l).2.2<=800000000000000/\
 (0<=bj kF (cn T l).2.2/\bj kF (cn T l).2.2<=T.n.fee+pb T)/\(0<=bj kR (cn T l).2.2/\bj kR (cn T l).2.2<=T.n.out)/\(0<=bj kT (cn T l).2.2/\bj kT (cn T l).2.2<=(cX T l).room)/\
 ∀i,i<T.tr.length->(0<=bj (toB i) (cn T l).2.2/\bj (toB i) (cn T l).2.2<=bo (af (cTr T) i))/\(0<=bj (toI i) (cn T l).2.2/\bj (toI i) (cn T l).2.2<=(af (cTr T) i).i 5):=by
 obtain⟨k,p,g,c,_⟩:=lY h he;obtain⟨x1,x2,x3,x4⟩:=qm h he;have g:=o9 g;have hpp:∀d∈(cn T l).2.2,1<=d.i 3/\((d.i 1=1\/d.i 1=2\/d.i 1=6)\/(0<=d.i 2/\d.i 2<(T.tr.length:Int))):=fun d hd=>by
  obtain⟨_,_,h1,h2,h3,h4⟩:=p d hd;refine⟨h2, ?_⟩;rw[<-h1]at h4
  by_cases hn:d.i 2<0
  . exact .inl (h4.1 hn)
  . exact .inr (by omega)
 have n0:=fun f=>nI f (cn T l).2.2 fun d hd=>by have:=(hpp d hd).1;omega
 have kf:=k.fee;have kr:=k.bY;have kt:=k.room;have kc:=k.ay;have e1:(cX T l).fee=T.n.fee+pb T:=rfl;have e2:(cX T l).bY=T.n.out:=rfl;refine⟨hpp,by omega,⟨n0 _,by omega⟩,⟨n0 _,by omega⟩,⟨n0 _,by omega⟩,fun i hi=> ?_⟩;have hl:=o8 h;have hr:=k.row i (by rw[zaR];omega);rw[IW (by omega)]at hr;have hc:=cT ((cg c).2 _ (qZ (l:=(cn T l).2.1) (j:=i) (by rw[k.len,zaR];omega)));rw[hr]at hc;have b1:(fF (af (cTr T) i)).i 1=bo (af (cTr T) i):=rfl;have b2:(fF (af (cTr T) i)).i 2=(af (cTr T) i).i 5:=rfl;simp only[fa,iM,b1,b2]at hc;exact⟨⟨n0 _,by omega⟩,⟨n0 _,by omega⟩⟩
theorem ki:(dU T l).1={T.n with fee:=T.n.fee+pb T-bj kF (cn T l).2.2,out:=T.n.out-bj kR (cn T l).2.2,rin:=T.n.rin+bj kT (cn T l).2.2,bC:=T.n.bC+fQ T l}/\(dU T l).2.length=T.tr.length/\eC (dU T l).2/\
 (∀i,i<T.tr.length->uJ (af (cTr T) i) (af (dU T l).2 i) (bj (toB i) (cn T l).2.2) (bj (toI i) (cn T l).2.2))/\zV (cn T l).2.2 (cN1 T l) (cTr T)=true:=by
 obtain⟨s1,s2,s3,s4,s5,s6⟩:=kG h he;obtain⟨k,p,g,c,pl⟩:=lY h he;obtain⟨a1,a2,a3,a4,a5⟩:=kh h;obtain⟨c1,c2,c3,c4⟩:=kq h he;have hl:=o8 h;obtain⟨d1,d2,d3⟩:=zE (cn T l).2.2 (cN1 T l) (cTr T) (fun d hd=>by have:=(s1 d hd).1;omega) (fun d hd=>by rw[hl];exact(s1 d hd).2) (fun i hi=>by have:=s6 i (by omega);omega);have f:=h.fee;have o:=h.out;have r:=h.res;have hpe:=h.period;have ad:T.b.advance<=1099511627776:=(fh h.uh).advance.2;have hg:eC (dU T l).2:=by
  have hdl:(dU T l).2.length=(cTr T).length:=d2;refine⟨by have:=a2.1;omega,fun d hd=> ?_⟩;obtain⟨i,hi,rfl⟩:=nF hd;obtain⟨_,e1,_,e3,e4,e5,e6⟩:=d3 i (by omega);have:=s6 i (by omega);have gi:=cz (cD (c:=cTr T) (i:=i) (by omega) a2.2);have e1':(af (dU T l).2 i).i 1=(af (cTr T) i).i 1:=e1;have e3':(af (dU T l).2 i).i 3=(af (cTr T) i).i 3+bj (toB i) (cn T l).2.2:=e3;have e4':(af (dU T l).2 i).i 4=(af (cTr T) i).i 4:=e4;have e5':(af (dU T l).2 i).i 5=(af (cTr T) i).i 5-bj (toI i) (cn T l).2.2:=e5;have e6':(af (dU T l).2 i).i 6=(af (cTr T) i).i 6:=e6;refine zae ?_
  rw[e1',e3',e4',e5',e6'];unfold bo at this;omega
 refine⟨d1,d2.trans hl,hg,fun i hi=>d3 i (by omega), ?_⟩;simp only[zV,zab,zag,zal];refine⟨by omega,fun d hd=> ?_,⟨by omega, ?_⟩,a2⟩
 . have:=s1 d hd;simp only[Ix,zab,zbk,zag,hl];exact⟨by omega,this.2⟩
 . simp only[cN1];omega
theorem qp:cN2 T l={T.n with fee:=T.n.fee+pb T-bj kF (cn T l).2.2,out:=T.n.out-bj kR (cn T l).2.2+od T l,rin:=T.n.rin+bj kT (cn T l).2.2,bC:=T.n.bC+fQ T l,aF:=T.n.aF+(cP T l).l,aR:=T.n.aR+(cP T l).r}:=by
 unfold cN2;rw[(ki h he).1]
theorem sJ:0<=dw (bM unD (dU T l).2) (an 1 (cP T l).aL) (cN2 T l).aF (cN2 T l).aR/\dw (bM unD (dU T l).2) (an 1 (cP T l).aL) (cN2 T l).aF (cN2 T l).aR<=bM unD (dU T l).2/\
 dw (bM unD (dU T l).2) (an 1 (cP T l).aL) (cN2 T l).aF (cN2 T l).aR<=an 2 (cP T l).aL/\(cN2 T l).aF-(cN2 T l).aR=an 2 (cP T l).aL:=by
 obtain⟨p1,p2,p3,p4,p5,p6,p7,p8,p9⟩:=oH h he;have g:=(ki h he).2.2.1;have u:=(jg _ g.2).2.2.2.1;have t:=xK (bM unD (dU T l).2) (an 1 (cP T l).aL) (cN2 T l).aF (cN2 T l).aR;have n1:=fN p1;have hl:=h.lost;have e:(cN2 T l).aF-(cN2 T l).aR=an 2 (cP T l).aL:=by rw[qp h he];simp only;omega
 omega
theorem mn:eC (gO T l)/\fz (dU T l).2 (gO T l)/\an 6 (gO T l)=dw (bM unD (dU T l).2) (an 1 (cP T l).aL) (cN2 T l).aF (cN2 T l).aR:=by
 have t:=sJ h he;exact Il (ki h he).2.2.1 t.1 t.2.1
theorem oM:(gO T l).length=T.tr.length/\∀i,i<T.tr.length->(af (gO T l) i).i 0=(af T.tr i).i 0/\(af (gO T l) i).i 1=(af T.tr i).i 1/\(af (gO T l) i).i 2=(af T.tr i).i 2/\(af (gO T l) i).i 3=(af T.tr i).i 3+bj (toB i) (cn T l).2.2/\(af (gO T l) i).i 4=(af T.tr i).i 4/\
 (af (gO T l) i).i 5=(af T.tr i).i 5+dt T.a T.n.period (bo (af T.tr i)) ((af T.tr i).i 2)-bj (toI i) (cn T l).2.2/\af (cTr T) i=eF T.a T.n.period (af T.tr i):=by
 obtain⟨d1,d2,d3,d4,d5⟩:=ki h he;obtain⟨g,s,_⟩:=mn h he;refine⟨s.len.trans d2,fun i hi=> ?_⟩;obtain⟨r0,r1,r2,r3,r4,r5⟩:=s.row i (by omega);obtain⟨e0,e1,e2,e3,e4,e5,e6⟩:=d4 i hi;have hr:af (cTr T) i=eF T.a T.n.period (af T.tr i):=qX _ hi;rw[hr]at e0 e1 e2 e3 e4 e5;have q5:(eF T.a T.n.period (af T.tr i)).i 5=(af T.tr i).i 5+dt T.a T.n.period (bo (af T.tr i)) ((af T.tr i).i 2):=rfl;rw[q5]at e5;exact⟨r0.trans e0,r1.trans e1,r2.trans e2,r3.trans e3,r4.trans e4,r5.trans e5,hr⟩
include hp
theorem wF:fU (aC T l).t:=by
 obtain⟨p1,p2,p3,p4,p5,p6,p7,p8,p9⟩:=oH h he;obtain⟨a1,a2,a3,a4,a5⟩:=kh h;obtain⟨c1,c2,c3,c4⟩:=kq h he;obtain⟨s1,s2,s3,s4,s5,s6⟩:=kG h he;obtain⟨x1,x2,x3,x4⟩:=qm h he;obtain⟨t1,t2,t3⟩:=mn h he;obtain⟨g1,g2,g3,g4⟩:=sJ h he;obtain⟨r1,r2⟩:=oM h he;have e:=qp h he;have n:=C1 (c:=T.b.eY) (o:=(T.b.oc==0||ca (an 1 (cP T l).aL) (bM bo (gO T l)) T.b.oc)) (i:=(T.b.ic==0||ca (min (cP T l).q 1099511627776) (min (Ch T) 1099511627776) T.b.ic))
  (a:=(T.b.late==0||cS (cJ 2 (cP T l).aL+cJ 3 (cP T l).aL) (an 1 (cP T l).aL) T.b.late)) (s:=(T.b.l7==0||cS ((cN2 T l).aF-(cN2 T l).aR) (an 1 T.aP) T.b.l7)) h.mode h.bm.1
 have bl:=h.bal;have r0:=h.EH;have pe:=h.period;have pa:=h.bm;have fe:=h.fee;have ou:=h.out;have re:=h.res;refine⟨h.uh, ?_,fun d hd=> ?_,p2.trans h.ids,p1, ?_,g4, ?_, ?_,n.1, ?_, ?_, ?_, ?_, ?_⟩
 . refine Eq.trans ?_ h.L4;refine List.ext_getElem (by simp[aC,r1]) fun i h1 h2=> ?_
   simp only[zaR]at h1 h2;have hi:i<T.tr.length:=h2;have:=r2 i hi;rw[gg (show i<(gO T l).length by omega),gg hi]at this;simp only[List.getElem_map];exact Prod.ext this.1 (Prod.ext this.2.1 this.2.2.1)
 . refine⟨t1.2 d hd, ?_⟩;obtain⟨i,hi,rfl⟩:=nF (show d∈gO T l from hd);have hi:i<T.tr.length:=by omega
   have:=(r2 i hi).2.2.2.2.2.1;have q:=a3 _ (qZ (l:=cTr T) (j:=i) (by rw[o8 h];exact hi));rw[(r2 i hi).2.2.2.2.2.2]at q;have q5:(eF T.a T.n.period (af T.tr i)).i 5=(af T.tr i).i 5+dt T.a T.n.period (bo (af T.tr i)) ((af T.tr i).i 2):=rfl;rw[q5]at q;have:=(s6 i hi).2.1;show(af (gO T l) i).i 5<=1200000000000*(T.n.period+1)
   omega
 . show an 1 (cP T l).aL+an 2 (cP T l).aL+(cN2 T l).aR<=an 1 T.aP;rw[e];simp only;omega
 . show 0<=(cN2 T l).aR;rw[e];simp only;omega
 . show 0<=T.n.period+1/\T.n.period+1<=600;omega
 . show 0<=(u7 T l).2/\(u7 T l).2<=T.n.period+1;exact⟨n.2.1,by have:=n.2.2;unfold u7;omega⟩
 . show 0<=(cN2 T l).fee/\(cN2 T l).fee<=1200000000000*(T.n.period+1)
   rw[e];simp only;omega
 . show 0<=(cN2 T l).out/\(cN2 T l).out<=T.b.advance;rw[e];simp only;omega
 . show 0<=(cN2 T l).bC/\(cN2 T l).bC<=(cN2 T l).rin/\(cN2 T l).rin<=1200000000000*(T.n.period+1+1)
   rw[e];simp only;omega
 . show an 6 (gO T l)<=an 2 (cP T l).aL;omega
end
def mN (T:ae):Bool:= @decide (fU T) (Classical.propDecidable _)
theorem mH {T:ae}:mN T=true↔fU T:=by unfold mN;simp
theorem Ha {l:List Dat} (h:∀d∈l,ga d) (hl:l.length<=1000):(decide (l.length<=1000)&&l.all dH)=true:=by
 rw[zab,zal];exact⟨zae hl,fun d hd=>zae (by have:=h d hd;unfold ga at this;omega)⟩
theorem Eu {T:ae} (h:fU T):T.aP.length<1000000/\T.notes.length<1000000/\T.s0.length<1000000/\T.s1.length<1000000/\T.s2.length<1000000/\T.aL.length<1000000/\T.tr.length<1000000:=by
 have D:=fh h.uh;have h0:=iX D.s0;have h1:=iX D.s1;have h2:=iX D.s2;have h3:=kE h;have h4:=ev h;have h5:=o7 h;have:(gv T).aP=T.aP:=rfl;have:=D.UR;simp only[gv]at*
 omega
theorem DC {T:ae} (h:fU T):(eU (gv T) T.n.mode).length<=16:=(iX (nO h)).2
def N11:aE:=⟨T40.tab,11,⟨[.np 0 0 0,.ab (sB 6)],cL 0,0⟩,⟨[.agg [.bool,.int .i64,.int .i64,.int .i64,.int .i64,.int .i64,.int .i64,.int .i64,.int .i64,.int .i64,.int .i64,.buf 17 4,.int .i64,.int .i64,.int .i64,.int .i64,.int .i64,.buf 18 3,.int .i64],.int .i64],[.cells [.int .i64,.int .i64,.int .i64,.buf 9 2,.buf 10 3,.int .i64,.int .i64,.int .i64,.int .i64,.int .i64,.int .i64,.int .i64,.int .i64,.int .i64,.int .i64,.buf 11 2,.buf 12 2,.buf 13 2,.ptr 14 0 0,.buf 16 7,.int .i64,.int .i64,.int .i64,.int .i64,.int .i64,.int .i64,.int .i64,.int .i64,.int .i64,.bool],.gone,.gone,.gone,.gone,.gone,.gone,.gone,.gone,.ab (sI 2),.ab (sI 3),.ab (sI 2),.ab (sI 2),.ab (sI 2),.cells [.buf 15 5],.ab (sB 4),.ab (sI 7),.ab (sI 4),.ab (sI 3)],0⟩,[]⟩
def t11 (m:Nat):Int × List Dat × aw × ax × ao × List Dat × List Dat × List Dat × List Dat × List Dat × List Dat × List Dat->Option (List Un):=fun(a0,a1,a2,a3,a4,a5,a6,a7,a8,a9,a10,a11)=>
 chk (decide (0<=a0))<|
 bif a4.j9 then
 some (Uns.enc ((⟨false,0,0,0,0,0,0,0,0,0,0⟩:bE):bE)++Uns.enc ((⟨0,0,0,0,0⟩:bw):bw)++[.i 0,.i 5]++Uns.enc (a2:aw)++Uns.enc (a3:ax)++Uns.enc (a4:ao)++[.d a5,.d a6,.d a7,.d a8,.d a9,.d a10,.d a11,.d ([]),.d ([])])
 else
 chk (decide (0<=a0))<|
 bif (decide (a4.period>=600))then
 some (Uns.enc ((⟨false,0,0,0,0,0,0,0,0,0,0⟩:bE):bE)++Uns.enc ((⟨0,0,0,0,0⟩:bw):bw)++[.i 0,.i 4]++Uns.enc (a2:aw)++Uns.enc (a3:ax)++Uns.enc (a4:ao)++[.d a5,.d a6,.d a7,.d a8,.d a9,.d a10,.d a11,.d ([]),.d ([])])
 else
 chk (decide (0<=a0)&&decide (a5.length<1000000/\a6.length<1000000/\a7.length<1000000/\a8.length<1000000/\a9.length<1000000/\a10.length<1000000/\a11.length<1000000))<|
 chk (decide (0<([.r [.r a10]]:List Dat).length)&&(decide (((af ([.r [.r a10]]:List Dat) 0).d 0).length<=1000)&&((af ([.r [.r a10]]:List Dat) 0).d 0).all dH))<|
 lt ((an 1 ((af ([.r [.r a10]]:List Dat) 0).d 0)):Int) fun x2=>
 chk (decide (a10.length<1000000))<|
 bif (((aG a1 a10).e) !=0)then
 some (Uns.enc ((⟨false,0,0,0,0,0,0,0,0,0,0⟩:bE):bE)++Uns.enc ((⟨0,0,0,0,0⟩:bw):bw)++[.i 0,.i ((aG a1 a10).e)]++Uns.enc (a2:aw)++Uns.enc (a3:ax)++Uns.enc (a4:ao)++[.d a5,.d a6,.d a7,.d a8,.d a9,.d a10,.d a11,.d ([]),.d ([])])
 else
 chk (decide ((1<=a2.year/\a2.year<=9000/\1<=a2.month/\a2.month<=12)/\(0<=a4.period/\a4.period<=600)/\(0<=a4.fee/\a4.fee<=1125899906842624)/\(0<=x2/\x2<=1099511627776))&&(decide (a11.length<=1000)&&a11.all aU))<|
 lt ((bM (fun d=>dt a2 a4.period (bo d) (d.i 2)) a11):Int) fun x4=>
 lt (({a4 with fee:=a4.fee+dt a2 a4.period x2 a3.fee}):ao) fun g5=>
 chk (decide (0<=0)&&(decide ((a11.map (eF a2 a4.period)).length<=1000)&&(a11.map (eF a2 a4.period)).all aU))<|
 lt ((w64 (g5.fee+(an 5 (a11.map (eF a2 a4.period))))):Int) fun x6=>
 lt ((w64 ((w64 ((w64 ((w64 (((aG a1 a10).p)+((aG a1 a10).q)))+((aG a1 a10).r)))+0))+0)):Int) fun x9=>
 chk (decide (0<=0)&&decide ((-1152921504606846976<=(w64 (x6-x9))/\(w64 (x6-x9))<=1152921504606846976)/\((0:Int)<=g5.bC/\g5.bC<=g5.rin/\g5.rin<=(1152921504606846976:Int))/\(0<=g5.out/\g5.out<=1152921504606846976)/\(0<=a3.advance/\a3.advance<=1152921504606846976)))<|
 lt ((gK (w64 (x6-x9)) (g5.rin-g5.bC)):Int) fun x10=>
 lt ((Fw (w64 (x6-x9)) (g5.rin-g5.bC) (a3.advance-g5.out)):Int) fun x11=>
 lt (({g5 with bC:=g5.bC+gK (w64 (x6-x9)) (g5.rin-g5.bC)}):ao) fun g12=>
 lt ((w64 ((w64 ((w64 ((w64 (((aG a1 a10).p)+((aG a1 a10).q)))+((aG a1 a10).r)))+x10))+x11)):Int) fun x15=>
 chk (decide (((0<=((aG a1 a10).p)/\((aG a1 a10).p)<=1125899906842624)/\(0<=((aG a1 a10).l)/\((aG a1 a10).l)<=1125899906842624)/\(0<=((aG a1 a10).r)/\((aG a1 a10).r)<=1125899906842624))/\(0<=g12.bC/\g12.bC<=g12.rin/\g12.rin<=1152921504606846976))&&((decide (((aG a1 a10).aL).length<=1000)&&((aG a1 a10).aL).all dH)&&(decide ((a11.map (eF a2 a4.period)).length<=1000)&&(a11.map (eF a2 a4.period)).all aU)))<|
 lt ((min (((aG a1 a10).p)+((aG a1 a10).r)+((aG a1 a10).l)) (bM bo (a11.map (eF a2 a4.period)))):Int) fun x16=>
 lt ((vC a3.target (an 1 ((aG a1 a10).aL)) (g12.rin-g12.bC)):Int) fun x17=>
 chk (decide ((⟨a2,a5,a6,a3,a7,a8,a9⟩:bJ).s0.length<1000000/\(⟨a2,a5,a6,a3,a7,a8,a9⟩:bJ).s1.length<1000000/\(⟨a2,a5,a6,a3,a7,a8,a9⟩:bJ).s2.length<1000000))<|
 lt ((eU (⟨a2,a5,a6,a3,a7,a8,a9⟩:bJ) g12.mode):List Dat) fun l18=>
 chk (decide (l18.length<=1000000)&&(nv ⟨x15,g12.fee,g12.out,x16,x17⟩&&aW ((a11.map (eF a2 a4.period)).map fF)))<|
 lt (((dY 0 l18 ⟨x15,g12.fee,g12.out,x16,x17⟩ ((a11.map (eF a2 a4.period)).map fF)).2.2):List Dat) fun l24=>
 chk (decide (0<=0)&&zV l24 g12 (a11.map (eF a2 a4.period)))<|
 lt (((dG l24 g12 (a11.map (eF a2 a4.period))).1).out:Int) fun x26=>
 chk (decide (((0<=((aG a1 a10).p)/\((aG a1 a10).p)<=1125899906842624)/\(0<=((aG a1 a10).l)/\((aG a1 a10).l)<=1125899906842624)/\(0<=((aG a1 a10).r)/\((aG a1 a10).r)<=1125899906842624))/\(0<=({((dG l24 g12 (a11.map (eF a2 a4.period))).1)with out:=(w64 (x26+x11))}:ao).aF/\({((dG l24 g12 (a11.map (eF a2 a4.period))).1)with out:=(w64 (x26+x11))}:ao).aF<=1125899906842624)/\(0<=({((dG l24 g12 (a11.map (eF a2 a4.period))).1)with out:=(w64 (x26+x11))}:ao).aR/\({((dG l24 g12 (a11.map (eF a2 a4.period))).1)with out:=(w64 (x26+x11))}:ao).aR<=1125899906842624))&&((decide (((aG a1 a10).aL).length<=1000)&&((aG a1 a10).aL).all dH)&&(decide (((dG l24 g12 (a11.map (eF a2 a4.period))).2).length<=1000)&&((dG l24 g12 (a11.map (eF a2 a4.period))).2).all aU)))<|
 lt (({({((dG l24 g12 (a11.map (eF a2 a4.period))).1)with out:=(w64 (x26+x11))}:ao)with aF:=({((dG l24 g12 (a11.map (eF a2 a4.period))).1)with out:=(w64 (x26+x11))}:ao).aF+((aG a1 a10).l),aR:=({((dG l24 g12 (a11.map (eF a2 a4.period))).1)with out:=(w64 (x26+x11))}:ao).aR+((aG a1 a10).r)}):ao) fun g27=>
 lt ((gr (dw (bM unD ((dG l24 g12 (a11.map (eF a2 a4.period))).2)) (an 1 ((aG a1 a10).aL)) (({((dG l24 g12 (a11.map (eF a2 a4.period))).1)with out:=(w64 (x26+x11))}:ao).aF+((aG a1 a10).l)) (({((dG l24 g12 (a11.map (eF a2 a4.period))).1)with out:=(w64 (x26+x11))}:ao).aR+((aG a1 a10).r))) ((dG l24 g12 (a11.map (eF a2 a4.period))).2)):List Dat) fun l28=>
 chk (decide (0<=0)&&((decide (((aG a1 a10).aL).length<=1000)&&((aG a1 a10).aL).all dH)&&(decide (l28.length<=1000)&&l28.all aU)))<|
 lt ((a3.oc==0||ca (an 1 ((aG a1 a10).aL)) (bM bo l28) a3.oc):Bool) fun x32=>
 lt ((a3.ic==0||ca (min ((aG a1 a10).q) 1099511627776) (min x4 1099511627776) a3.ic):Bool) fun x33=>
 lt ((a3.late==0||cS (cJ 2 ((aG a1 a10).aL)+cJ 3 ((aG a1 a10).aL)) (an 1 ((aG a1 a10).aL)) a3.late):Bool) fun x34=>
 lt ((a3.l7==0||cS (w64 (g27.aF-g27.aR)) (((cr (⟨a2,a5,a6,a3,a7,a8,a9⟩:bJ)).getD (0,0)).1) a3.l7):Bool) fun x35=>
 chk (decide (0<=g27.bm/\g27.bm<=1000000))<|
 chk (decide (0<=a0))<|
 chk (decide (0<=a0)&&(decide (0<=({g27 with mode:=(du g27.mode g27.bm a3.eY x32 x33 x34 x35).1,bm:=(du g27.mode g27.bm a3.eY x32 x33 x34 x35).2,period:=(w64 (g27.period+1))}:ao).bC/\({g27 with mode:=(du g27.mode g27.bm a3.eY x32 x33 x34 x35).1,bm:=(du g27.mode g27.bm a3.eY x32 x33 x34 x35).2,period:=(w64 (g27.period+1))}:ao).bC<=({g27 with mode:=(du g27.mode g27.bm a3.eY x32 x33 x34 x35).1,bm:=(du g27.mode g27.bm a3.eY x32 x33 x34 x35).2,period:=(w64 (g27.period+1))}:ao).rin/\({g27 with mode:=(du g27.mode g27.bm a3.eY x32 x33 x34 x35).1,bm:=(du g27.mode g27.bm a3.eY x32 x33 x34 x35).2,period:=(w64 (g27.period+1))}:ao).rin<=1152921504606846976)&&((decide (((aG a1 a10).aL).length<=1000)&&((aG a1 a10).aL).all dH)&&(decide (l28.length<=1000)&&l28.all aU))))<|
 some (Uns.enc ((⟨false,(w64 (a4.period+1)),a4.mode,(aG a1 a10).p,(aG a1 a10).q,(aG a1 a10).l,(aG a1 a10).r,x10,x11,(dt a2 a4.period x2 a3.fee),x4⟩:bE):bE)++Uns.enc ((⟨(⟨((dY 0 l18 ⟨x15,g12.fee,g12.out,x16,x17⟩ ((a11.map (eF a2 a4.period)).map fF)).1.ay),0,0,0,0⟩:bw).bq,an 1 ((aG a1 a10).aL),({g27 with mode:=(du g27.mode g27.bm a3.eY x32 x33 x34 x35).1,bm:=(du g27.mode g27.bm a3.eY x32 x33 x34 x35).2,period:=(w64 (g27.period+1))}:ao).rin-({g27 with mode:=(du g27.mode g27.bm a3.eY x32 x33 x34 x35).1,bm:=(du g27.mode g27.bm a3.eY x32 x33 x34 x35).2,period:=(w64 (g27.period+1))}:ao).bC,({g27 with mode:=(du g27.mode g27.bm a3.eY x32 x33 x34 x35).1,bm:=(du g27.mode g27.bm a3.eY x32 x33 x34 x35).2,period:=(w64 (g27.period+1))}:ao).out,({g27 with mode:=(du g27.mode g27.bm a3.eY x32 x33 x34 x35).1,bm:=(du g27.mode g27.bm a3.eY x32 x33 x34 x35).2,period:=(w64 (g27.period+1))}:ao).fee⟩:bw):bw)++[.i (({g27 with mode:=(du g27.mode g27.bm a3.eY x32 x33 x34 x35).1,bm:=(du g27.mode g27.bm a3.eY x32 x33 x34 x35).2,period:=(w64 (g27.period+1))}:ao).mode),.i 0]++Uns.enc (a2:aw)++Uns.enc (a3:ax)++Uns.enc (({g27 with mode:=(du g27.mode g27.bm a3.eY x32 x33 x34 x35).1,bm:=(du g27.mode g27.bm a3.eY x32 x33 x34 x35).2,period:=(w64 (g27.period+1))}:ao):ao)++[.d a5,.d a6,.d a7,.d a8,.d a9,.d ((aG a1 a10).aL),.d l28,.d l24,.d (l28.map si)])
def f11:Int × List Dat × aw × ax × ao × List Dat × List Dat × List Dat × List Dat × List Dat × List Dat × List Dat->Bool × List Un:=fun(a0,a1,a2,a3,a4,a5,a6,a7,a8,a9,a10,a11)=>(decide (0<=a0)&&mN (⟨a2,a3,a4,a5,a6,a7,a8,a9,a10,a11⟩:ae),Uns.enc (((aJ (⟨a2,a3,a4,a5,a6,a7,a8,a9,a10,a11⟩:ae) a1).ra):bE)++Uns.enc (((aJ (⟨a2,a3,a4,a5,a6,a7,a8,a9,a10,a11⟩:ae) a1).rb):bw)++[.i ((aJ (⟨a2,a3,a4,a5,a6,a7,a8,a9,a10,a11⟩:ae) a1).next),.i ((aJ (⟨a2,a3,a4,a5,a6,a7,a8,a9,a10,a11⟩:ae) a1).e)]++Uns.enc (((aJ (⟨a2,a3,a4,a5,a6,a7,a8,a9,a10,a11⟩:ae) a1).t.a):aw)++Uns.enc (((aJ (⟨a2,a3,a4,a5,a6,a7,a8,a9,a10,a11⟩:ae) a1).t.b):ax)++Uns.enc (((aJ (⟨a2,a3,a4,a5,a6,a7,a8,a9,a10,a11⟩:ae) a1).t.n):ao)++[.d ((aJ (⟨a2,a3,a4,a5,a6,a7,a8,a9,a10,a11⟩:ae) a1).t.aP),.d ((aJ (⟨a2,a3,a4,a5,a6,a7,a8,a9,a10,a11⟩:ae) a1).t.notes),.d ((aJ (⟨a2,a3,a4,a5,a6,a7,a8,a9,a10,a11⟩:ae) a1).t.s0),.d ((aJ (⟨a2,a3,a4,a5,a6,a7,a8,a9,a10,a11⟩:ae) a1).t.s1),.d ((aJ (⟨a2,a3,a4,a5,a6,a7,a8,a9,a10,a11⟩:ae) a1).t.s2),.d ((aJ (⟨a2,a3,a4,a5,a6,a7,a8,a9,a10,a11⟩:ae) a1).t.aL),.d ((aJ (⟨a2,a3,a4,a5,a6,a7,a8,a9,a10,a11⟩:ae) a1).t.tr),.d ((aJ (⟨a2,a3,a4,a5,a6,a7,a8,a9,a10,a11⟩:ae) a1).aK),.d ((aJ (⟨a2,a3,a4,a5,a6,a7,a8,a9,a10,a11⟩:ae) a1).notes)])
set_option maxHeartbeats 4000000 in
theorem Rq (a0:Int) (a1:List Dat) (a2:aw) (a3:ax) (a4:ao) (a5:List Dat) (a6:List Dat) (a7:List Dat) (a8:List Dat) (a9:List Dat) (a10:List Dat) (a11:List Dat) (hc:(decide (0<=a0)&&mN (⟨a2,a3,a4,a5,a6,a7,a8,a9,a10,a11⟩:ae))=true):∃m,t11 m (a0,a1,a2,a3,a4,a5,a6,a7,a8,a9,a10,a11)=some (Uns.enc (((aJ (⟨a2,a3,a4,a5,a6,a7,a8,a9,a10,a11⟩:ae) a1).ra):bE)++Uns.enc (((aJ (⟨a2,a3,a4,a5,a6,a7,a8,a9,a10,a11⟩:ae) a1).rb):bw)++[.i ((aJ (⟨a2,a3,a4,a5,a6,a7,a8,a9,a10,a11⟩:ae) a1).next),.i ((aJ (⟨a2,a3,a4,a5,a6,a7,a8,a9,a10,a11⟩:ae) a1).e)]++Uns.enc (((aJ (⟨a2,a3,a4,a5,a6,a7,a8,a9,a10,a11⟩:ae) a1).t.a):aw)++Uns.enc (((aJ (⟨a2,a3,a4,a5,a6,a7,a8,a9,a10,a11⟩:ae) a1).t.b):ax)++Uns.enc (((aJ (⟨a2,a3,a4,a5,a6,a7,a8,a9,a10,a11⟩:ae) a1).t.n):ao)++[.d ((aJ (⟨a2,a3,a4,a5,a6,a7,a8,a9,a10,a11⟩:ae) a1).t.aP),.d ((aJ (⟨a2,a3,a4,a5,a6,a7,a8,a9,a10,a11⟩:ae) a1).t.notes),.d ((aJ (⟨a2,a3,a4,a5,a6,a7,a8,a9,a10,a11⟩:ae) a1).t.s0),.d ((aJ (⟨a2,a3,a4,a5,a6,a7,a8,a9,a10,a11⟩:ae) a1).t.s1),.d ((aJ (⟨a2,a3,a4,a5,a6,a7,a8,a9,a10,a11⟩:ae) a1).t.s2),.d ((aJ (⟨a2,a3,a4,a5,a6,a7,a8,a9,a10,a11⟩:ae) a1).t.aL),.d ((aJ (⟨a2,a3,a4,a5,a6,a7,a8,a9,a10,a11⟩:ae) a1).t.tr),.d ((aJ (⟨a2,a3,a4,a5,a6,a7,a8,a9,a10,a11⟩:ae) a1).aK),.d ((aJ (⟨a2,a3,a4,a5,a6,a7,a8,a9,a10,a11⟩:ae) a1).notes)]):=by
 have h0:=zaj (zar.1 hc).1;have h:=mH.1 (zar.1 hc).2;clear hc;have hl:=Eu h;have hpl:=kE h;have hts:=ev h;have hpe:0<=a4.period/\a4.period<=600:=h.period;have hpa:0<=a4.bm/\a4.bm<=a4.period:=h.bm;refine⟨0, ?_⟩;unfold t11;cases ho:a4.j9 with
 |true=>
  have hC:aJ (⟨a2,a3,a4,a5,a6,a7,a8,a9,a10,a11⟩:ae) a1=noR 5 (⟨a2,a3,a4,a5,a6,a7,a8,a9,a10,a11⟩:ae):=by unfold aJ;rw[show((⟨a2,a3,a4,a5,a6,a7,a8,a9,a10,a11⟩:ae)).n.j9=true from ho];rfl
  rw[hC];dsimp only;exact aV (zae h0) (tP ho rfl)
 |false=>
 dsimp only;refine aV (zae h0) (jE ho (aV (zae h0) ?_))
 by_cases hp:a4.period>=600
 . have hC:aJ (⟨a2,a3,a4,a5,a6,a7,a8,a9,a10,a11⟩:ae) a1=noR 4 (⟨a2,a3,a4,a5,a6,a7,a8,a9,a10,a11⟩:ae):=by unfold aJ;rw[show((⟨a2,a3,a4,a5,a6,a7,a8,a9,a10,a11⟩:ae)).n.j9=false from ho,rh,ba hp]
   rw[hC,ba hp];rfl
 rw[az hp];refine aV (zar.2 ⟨zae h0,zae hl⟩) ?_
 refine aV (zar.2 ⟨rfl,Ha (l:=a10) h.yo (zaM hpl.2 (by decide))⟩) ?_
 refine kV fun x2 e2=> ?_
 obtain rfl:x2=an 1 a10:=e2;refine aV (zae hl.2.2.2.2.2.1) ?_
 by_cases he:(cP (⟨a2,a3,a4,a5,a6,a7,a8,a9,a10,a11⟩:ae) a1).e=0
 case neg=>
  have hC:aJ (⟨a2,a3,a4,a5,a6,a7,a8,a9,a10,a11⟩:ae) a1=noR (cP (⟨a2,a3,a4,a5,a6,a7,a8,a9,a10,a11⟩:ae) a1).e (⟨a2,a3,a4,a5,a6,a7,a8,a9,a10,a11⟩:ae):=by unfold aJ;rw[show((⟨a2,a3,a4,a5,a6,a7,a8,a9,a10,a11⟩:ae)).n.j9=false from ho,rh,az hp,mY he]
  rw[hC];exact mY he
 have hC:aJ (⟨a2,a3,a4,a5,a6,a7,a8,a9,a10,a11⟩:ae) a1=aC (⟨a2,a3,a4,a5,a6,a7,a8,a9,a10,a11⟩:ae) a1:=by unfold aJ;rw[show((⟨a2,a3,a4,a5,a6,a7,a8,a9,a10,a11⟩:ae)).n.j9=false from ho,rh,az hp,fq he]
 rw[hC];refine Eq.trans (fq he) ?_
 have hp':((⟨a2,a3,a4,a5,a6,a7,a8,a9,a10,a11⟩:ae)).n.period<600:=by simp only;omega
 have D:=fh h.uh;have b:0<=an 1 a10/\0<=an 2 a10/\an 1 a10+an 2 a10+a4.aR<=1099511627776:=ke h;have r0:0<=a4.aR:=h.EH;have f:0<=a4.fee/\a4.fee<=1200000000000*a4.period:=h.fee;have o:0<=a4.out/\a4.out<=a3.advance:=h.out;have r:0<=a4.bC/\a4.bC<=a4.rin/\a4.rin<=1200000000000*(a4.period+1):=h.res;have lo:a4.aF-a4.aR=an 2 a10:=h.lost;obtain⟨q1,q2,q3,q4,q5,q6,q7,q8,q9⟩:=oH h he;obtain⟨c1,c2,c3,c4,c5⟩:=kh h;obtain⟨m1,m2,m3,m4⟩:=kq h he;have m3:0<=fQ (⟨a2,a3,a4,a5,a6,a7,a8,a9,a10,a11⟩:ae) a1/\fQ (⟨a2,a3,a4,a5,a6,a7,a8,a9,a10,a11⟩:ae) a1<=a4.rin-a4.bC:=⟨m3.1,m3.2.1⟩
 have m4:0<=od (⟨a2,a3,a4,a5,a6,a7,a8,a9,a10,a11⟩:ae) a1/\od (⟨a2,a3,a4,a5,a6,a7,a8,a9,a10,a11⟩:ae) a1<=a3.advance-a4.out:=m4;obtain⟨x1,x2,x3,x4⟩:=qm h he;obtain⟨d1,d2,d3,d4,d5⟩:=ki h he;obtain⟨t1,t2,t3⟩:=mn h he;have u2:=qp h he;have k:=DC h;have ad:0<=a3.advance/\a3.advance<=1099511627776:=D.advance;have nq:=fN q1;have hpa9:a10.length<=64:=hpl.2;have hqlen:(cP (⟨a2,a3,a4,a5,a6,a7,a8,a9,a10,a11⟩:ae) a1).aL.length<=1000:=by
  have hq:(cP (⟨a2,a3,a4,a5,a6,a7,a8,a9,a10,a11⟩:ae) a1).aL.length=a10.length:=by have:=congrArg List.length q2;simpa using this
  omega
 have hpo:=Ha q1 hqlen;have s5:=(jg _ c2.2).2.1;have st:=kG h he;have q3:an 1 (cP (⟨a2,a3,a4,a5,a6,a7,a8,a9,a10,a11⟩:ae) a1).aL=an 1 a10-(cP (⟨a2,a3,a4,a5,a6,a7,a8,a9,a10,a11⟩:ae) a1).p-(cP (⟨a2,a3,a4,a5,a6,a7,a8,a9,a10,a11⟩:ae) a1).l:=q3;have q4:an 2 (cP (⟨a2,a3,a4,a5,a6,a7,a8,a9,a10,a11⟩:ae) a1).aL=an 2 a10+(cP (⟨a2,a3,a4,a5,a6,a7,a8,a9,a10,a11⟩:ae) a1).l-(cP (⟨a2,a3,a4,a5,a6,a7,a8,a9,a10,a11⟩:ae) a1).r:=q4;have stT:=st.2.2.2.2.1;have stR:0<=bj kR (cn (⟨a2,a3,a4,a5,a6,a7,a8,a9,a10,a11⟩:ae) a1).2.2/\bj kR (cn (⟨a2,a3,a4,a5,a6,a7,a8,a9,a10,a11⟩:ae) a1).2.2<=a4.out:=st.2.2.2.1;have s5l:an 5 (cTr (⟨a2,a3,a4,a5,a6,a7,a8,a9,a10,a11⟩:ae))<=1125899906842624000:=by have:=c2.1;omega
 refine aV (zar.2 ⟨zae ⟨⟨D.year.1,D.year.2,D.month.1,D.month.2⟩,hpe,⟨f.1,by omega⟩,b.1,by omega⟩,fA (CJ h)⟩) ?_
 refine kV fun x3' e3=> ?_
 obtain rfl:x3'=Ch (⟨a2,a3,a4,a5,a6,a7,a8,a9,a10,a11⟩:ae):=e3;refine kV fun g4 e4=> ?_
 obtain rfl:g4={a4 with fee:=a4.fee+pb (⟨a2,a3,a4,a5,a6,a7,a8,a9,a10,a11⟩:ae)}:=e4;refine aV (zar.2 ⟨rfl,fA c2⟩) ?_
 refine kV fun x5 e5=> ?_
 obtain rfl:x5=a4.fee+pb (⟨a2,a3,a4,a5,a6,a7,a8,a9,a10,a11⟩:ae)+an 5 (cTr (⟨a2,a3,a4,a5,a6,a7,a8,a9,a10,a11⟩:ae)):=e5.trans (aa (n:=a4.fee+pb (⟨a2,a3,a4,a5,a6,a7,a8,a9,a10,a11⟩:ae)+an 5 (cTr (⟨a2,a3,a4,a5,a6,a7,a8,a9,a10,a11⟩:ae))) (by omega) (by omega));refine kV fun x8 e8=> ?_
 obtain rfl:x8=cIn (⟨a2,a3,a4,a5,a6,a7,a8,a9,a10,a11⟩:ae) a1:=e8.trans (by
  have i:=m1;unfold cIn at i⊢;rw[show w64 ((aG a1 a10).p+(aG a1 a10).q)=(cP (⟨a2,a3,a4,a5,a6,a7,a8,a9,a10,a11⟩:ae) a1).p+(cP (⟨a2,a3,a4,a5,a6,a7,a8,a9,a10,a11⟩:ae) a1).q from aa (by show _<=(cP (⟨a2,a3,a4,a5,a6,a7,a8,a9,a10,a11⟩:ae) a1).p+(cP (⟨a2,a3,a4,a5,a6,a7,a8,a9,a10,a11⟩:ae) a1).q;omega) (by show(cP (⟨a2,a3,a4,a5,a6,a7,a8,a9,a10,a11⟩:ae) a1).p+(cP (⟨a2,a3,a4,a5,a6,a7,a8,a9,a10,a11⟩:ae) a1).q<=_;omega)];rw[show w64 ((cP (⟨a2,a3,a4,a5,a6,a7,a8,a9,a10,a11⟩:ae) a1).p+(cP (⟨a2,a3,a4,a5,a6,a7,a8,a9,a10,a11⟩:ae) a1).q+(aG a1 a10).r)=(cP (⟨a2,a3,a4,a5,a6,a7,a8,a9,a10,a11⟩:ae) a1).p+(cP (⟨a2,a3,a4,a5,a6,a7,a8,a9,a10,a11⟩:ae) a1).q+(cP (⟨a2,a3,a4,a5,a6,a7,a8,a9,a10,a11⟩:ae) a1).r from aa (by show _<=(cP (⟨a2,a3,a4,a5,a6,a7,a8,a9,a10,a11⟩:ae) a1).p+(cP (⟨a2,a3,a4,a5,a6,a7,a8,a9,a10,a11⟩:ae) a1).q+(cP (⟨a2,a3,a4,a5,a6,a7,a8,a9,a10,a11⟩:ae) a1).r;omega) (by show(cP (⟨a2,a3,a4,a5,a6,a7,a8,a9,a10,a11⟩:ae) a1).p+(cP (⟨a2,a3,a4,a5,a6,a7,a8,a9,a10,a11⟩:ae) a1).q+(cP (⟨a2,a3,a4,a5,a6,a7,a8,a9,a10,a11⟩:ae) a1).r<=_;omega)];have w:w64 ((cP (⟨a2,a3,a4,a5,a6,a7,a8,a9,a10,a11⟩:ae) a1).p+(cP (⟨a2,a3,a4,a5,a6,a7,a8,a9,a10,a11⟩:ae) a1).q+(cP (⟨a2,a3,a4,a5,a6,a7,a8,a9,a10,a11⟩:ae) a1).r)=(cP (⟨a2,a3,a4,a5,a6,a7,a8,a9,a10,a11⟩:ae) a1).p+(cP (⟨a2,a3,a4,a5,a6,a7,a8,a9,a10,a11⟩:ae) a1).q+(cP (⟨a2,a3,a4,a5,a6,a7,a8,a9,a10,a11⟩:ae) a1).r:=aa (by omega) (by omega);simp only[zbU,w])
 have en:w64 (a4.fee+pb (⟨a2,a3,a4,a5,a6,a7,a8,a9,a10,a11⟩:ae)+an 5 (cTr (⟨a2,a3,a4,a5,a6,a7,a8,a9,a10,a11⟩:ae))-cIn (⟨a2,a3,a4,a5,a6,a7,a8,a9,a10,a11⟩:ae) a1)=nJ (⟨a2,a3,a4,a5,a6,a7,a8,a9,a10,a11⟩:ae) a1:=aa (by show _<=nJ (⟨a2,a3,a4,a5,a6,a7,a8,a9,a10,a11⟩:ae) a1;omega) (by show nJ (⟨a2,a3,a4,a5,a6,a7,a8,a9,a10,a11⟩:ae) a1<=_;omega);rw[en];refine aV (zar.2 ⟨rfl,zae ⟨by omega,⟨r.1,r.2.1,by show a4.rin<=_;omega⟩,⟨o.1,by show a4.out<=_;omega⟩,D.advance.1,by omega⟩⟩) ?_
 refine kV fun x9 e9=> ?_
 obtain rfl:x9=fQ (⟨a2,a3,a4,a5,a6,a7,a8,a9,a10,a11⟩:ae) a1:=e9;refine kV fun x10 e10=> ?_
 obtain rfl:x10=od (⟨a2,a3,a4,a5,a6,a7,a8,a9,a10,a11⟩:ae) a1:=e10;refine kV fun g11 e11=> ?_
 obtain rfl:g11=cN1 (⟨a2,a3,a4,a5,a6,a7,a8,a9,a10,a11⟩:ae) a1:=e11;refine kV fun x14 e14=> ?_
 obtain rfl:x14=(cX (⟨a2,a3,a4,a5,a6,a7,a8,a9,a10,a11⟩:ae) a1).ay:=e14.trans (by
  have i:=m1;have z:(cX (⟨a2,a3,a4,a5,a6,a7,a8,a9,a10,a11⟩:ae) a1).ay=cIn (⟨a2,a3,a4,a5,a6,a7,a8,a9,a10,a11⟩:ae) a1+fQ (⟨a2,a3,a4,a5,a6,a7,a8,a9,a10,a11⟩:ae) a1+od (⟨a2,a3,a4,a5,a6,a7,a8,a9,a10,a11⟩:ae) a1:=rfl;rw[z];unfold cIn at i⊢;rw[show w64 ((aG a1 a10).p+(aG a1 a10).q)=(cP (⟨a2,a3,a4,a5,a6,a7,a8,a9,a10,a11⟩:ae) a1).p+(cP (⟨a2,a3,a4,a5,a6,a7,a8,a9,a10,a11⟩:ae) a1).q from aa (by show _<=(cP (⟨a2,a3,a4,a5,a6,a7,a8,a9,a10,a11⟩:ae) a1).p+(cP (⟨a2,a3,a4,a5,a6,a7,a8,a9,a10,a11⟩:ae) a1).q;omega) (by show(cP (⟨a2,a3,a4,a5,a6,a7,a8,a9,a10,a11⟩:ae) a1).p+(cP (⟨a2,a3,a4,a5,a6,a7,a8,a9,a10,a11⟩:ae) a1).q<=_;omega)];rw[show w64 ((cP (⟨a2,a3,a4,a5,a6,a7,a8,a9,a10,a11⟩:ae) a1).p+(cP (⟨a2,a3,a4,a5,a6,a7,a8,a9,a10,a11⟩:ae) a1).q+(aG a1 a10).r)=(cP (⟨a2,a3,a4,a5,a6,a7,a8,a9,a10,a11⟩:ae) a1).p+(cP (⟨a2,a3,a4,a5,a6,a7,a8,a9,a10,a11⟩:ae) a1).q+(cP (⟨a2,a3,a4,a5,a6,a7,a8,a9,a10,a11⟩:ae) a1).r from aa (by show _<=(cP (⟨a2,a3,a4,a5,a6,a7,a8,a9,a10,a11⟩:ae) a1).p+(cP (⟨a2,a3,a4,a5,a6,a7,a8,a9,a10,a11⟩:ae) a1).q+(cP (⟨a2,a3,a4,a5,a6,a7,a8,a9,a10,a11⟩:ae) a1).r;omega) (by show(cP (⟨a2,a3,a4,a5,a6,a7,a8,a9,a10,a11⟩:ae) a1).p+(cP (⟨a2,a3,a4,a5,a6,a7,a8,a9,a10,a11⟩:ae) a1).q+(cP (⟨a2,a3,a4,a5,a6,a7,a8,a9,a10,a11⟩:ae) a1).r<=_;omega)];rw[aa (n:=(cP (⟨a2,a3,a4,a5,a6,a7,a8,a9,a10,a11⟩:ae) a1).p+(cP (⟨a2,a3,a4,a5,a6,a7,a8,a9,a10,a11⟩:ae) a1).q+(cP (⟨a2,a3,a4,a5,a6,a7,a8,a9,a10,a11⟩:ae) a1).r+fQ (⟨a2,a3,a4,a5,a6,a7,a8,a9,a10,a11⟩:ae) a1) (by omega) (by omega),aa (n:=(cP (⟨a2,a3,a4,a5,a6,a7,a8,a9,a10,a11⟩:ae) a1).p+(cP (⟨a2,a3,a4,a5,a6,a7,a8,a9,a10,a11⟩:ae) a1).q+(cP (⟨a2,a3,a4,a5,a6,a7,a8,a9,a10,a11⟩:ae) a1).r+fQ (⟨a2,a3,a4,a5,a6,a7,a8,a9,a10,a11⟩:ae) a1+od (⟨a2,a3,a4,a5,a6,a7,a8,a9,a10,a11⟩:ae) a1) (by omega) (by omega)])
 have c1r:(0<=(cN1 (⟨a2,a3,a4,a5,a6,a7,a8,a9,a10,a11⟩:ae) a1).bC/\(cN1 (⟨a2,a3,a4,a5,a6,a7,a8,a9,a10,a11⟩:ae) a1).bC<=(cN1 (⟨a2,a3,a4,a5,a6,a7,a8,a9,a10,a11⟩:ae) a1).rin/\(cN1 (⟨a2,a3,a4,a5,a6,a7,a8,a9,a10,a11⟩:ae) a1).rin<=1152921504606846976):=by
  show 0<=a4.bC+fQ (⟨a2,a3,a4,a5,a6,a7,a8,a9,a10,a11⟩:ae) a1/\a4.bC+fQ (⟨a2,a3,a4,a5,a6,a7,a8,a9,a10,a11⟩:ae) a1<=a4.rin/\a4.rin<=_;omega
 refine aV (zar.2 ⟨zae ⟨⟨⟨q5,by show(cP (⟨a2,a3,a4,a5,a6,a7,a8,a9,a10,a11⟩:ae) a1).p<=_;omega⟩,⟨q6,by show(cP (⟨a2,a3,a4,a5,a6,a7,a8,a9,a10,a11⟩:ae) a1).l<=_;omega⟩,q7,by show(cP (⟨a2,a3,a4,a5,a6,a7,a8,a9,a10,a11⟩:ae) a1).r<=_;omega⟩,c1r⟩,zar.2 ⟨hpo,fA c2⟩⟩) ?_
 refine kV fun x15 e15=> ?_
 obtain rfl:x15=(cX (⟨a2,a3,a4,a5,a6,a7,a8,a9,a10,a11⟩:ae) a1).ak:=e15;refine kV fun x16 e16=> ?_
 obtain rfl:x16=(cX (⟨a2,a3,a4,a5,a6,a7,a8,a9,a10,a11⟩:ae) a1).room:=e16;refine aV (zae ⟨hl.2.2.1,hl.2.2.2.1,hl.2.2.2.2.1⟩) ?_
 refine kV fun l17 e17=> ?_
 obtain rfl:l17=eU (gv (⟨a2,a3,a4,a5,a6,a7,a8,a9,a10,a11⟩:ae)) ((⟨a2,a3,a4,a5,a6,a7,a8,a9,a10,a11⟩:ae)).n.mode:=e17;refine aV (zar.2 ⟨zae (by omega),zar.2 ⟨x1,x2⟩⟩) ?_
 refine kV fun l23 e23=> ?_
 obtain rfl:l23=(cn (⟨a2,a3,a4,a5,a6,a7,a8,a9,a10,a11⟩:ae) a1).2.2:=e23;refine aV d5 ?_
 refine kV fun x25 e25=> ?_
 obtain rfl:x25=(dU (⟨a2,a3,a4,a5,a6,a7,a8,a9,a10,a11⟩:ae) a1).1.out:=e25;have eo:w64 ((dU (⟨a2,a3,a4,a5,a6,a7,a8,a9,a10,a11⟩:ae) a1).1.out+od (⟨a2,a3,a4,a5,a6,a7,a8,a9,a10,a11⟩:ae) a1)=(cN2 (⟨a2,a3,a4,a5,a6,a7,a8,a9,a10,a11⟩:ae) a1).out:=by
  refine Eq.trans (aa ?_ ?_) rfl
  . rw[d1];show _<=a4.out-bj kR (cn (⟨a2,a3,a4,a5,a6,a7,a8,a9,a10,a11⟩:ae) a1).2.2+od (⟨a2,a3,a4,a5,a6,a7,a8,a9,a10,a11⟩:ae) a1;omega
  . rw[d1];show a4.out-bj kR (cn (⟨a2,a3,a4,a5,a6,a7,a8,a9,a10,a11⟩:ae) a1).2.2+od (⟨a2,a3,a4,a5,a6,a7,a8,a9,a10,a11⟩:ae) a1<=_;omega
 rw[eo];refine aV (zar.2 ⟨zae ⟨⟨⟨q5,by show(cP (⟨a2,a3,a4,a5,a6,a7,a8,a9,a10,a11⟩:ae) a1).p<=_;omega⟩,⟨q6,by show(cP (⟨a2,a3,a4,a5,a6,a7,a8,a9,a10,a11⟩:ae) a1).l<=_;omega⟩,q7,by show(cP (⟨a2,a3,a4,a5,a6,a7,a8,a9,a10,a11⟩:ae) a1).r<=_;omega⟩,⟨by show 0<=(dU (⟨a2,a3,a4,a5,a6,a7,a8,a9,a10,a11⟩:ae) a1).1.aF;rw[d1];show 0<=a4.aF;omega,by show(dU (⟨a2,a3,a4,a5,a6,a7,a8,a9,a10,a11⟩:ae) a1).1.aF<=_;rw[d1];show a4.aF<=_;omega⟩,by show 0<=(dU (⟨a2,a3,a4,a5,a6,a7,a8,a9,a10,a11⟩:ae) a1).1.aR;rw[d1];exact r0,by show(dU (⟨a2,a3,a4,a5,a6,a7,a8,a9,a10,a11⟩:ae) a1).1.aR<=_;rw[d1];show a4.aR<=_;omega⟩,zar.2 ⟨hpo,fA d3⟩⟩) ?_
 refine kV fun g26 e26=> ?_
 obtain rfl:g26=cN2 (⟨a2,a3,a4,a5,a6,a7,a8,a9,a10,a11⟩:ae) a1:=e26;refine kV fun l27 e27=> ?_
 obtain rfl:l27=gO (⟨a2,a3,a4,a5,a6,a7,a8,a9,a10,a11⟩:ae) a1:=e27;refine aV (zar.2 ⟨rfl,zar.2 ⟨hpo,fA t1⟩⟩) ?_
 refine kV fun x31 e31=> ?_
 refine kV fun x32 e32=> ?_
 refine kV fun x33 e33=> ?_
 refine kV fun x34 e34=> ?_
 have g4:=(sJ h he).2.2.2;have el:w64 ((cN2 (⟨a2,a3,a4,a5,a6,a7,a8,a9,a10,a11⟩:ae) a1).aF-(cN2 (⟨a2,a3,a4,a5,a6,a7,a8,a9,a10,a11⟩:ae) a1).aR)=(cN2 (⟨a2,a3,a4,a5,a6,a7,a8,a9,a10,a11⟩:ae) a1).aF-(cN2 (⟨a2,a3,a4,a5,a6,a7,a8,a9,a10,a11⟩:ae) a1).aR:=aa (by omega) (by omega);rw[el,show((cr (⟨a2,a5,a6,a3,a7,a8,a9⟩:bJ)).getD (0,0)).1=an 1 a5 from D.V8]at e34;have n2m:(cN2 (⟨a2,a3,a4,a5,a6,a7,a8,a9,a10,a11⟩:ae) a1).mode=a4.mode/\(cN2 (⟨a2,a3,a4,a5,a6,a7,a8,a9,a10,a11⟩:ae) a1).bm=a4.bm/\(cN2 (⟨a2,a3,a4,a5,a6,a7,a8,a9,a10,a11⟩:ae) a1).period=a4.period:=by rw[u2];exact⟨rfl,rfl,rfl⟩
 have ep:w64 ((cN2 (⟨a2,a3,a4,a5,a6,a7,a8,a9,a10,a11⟩:ae) a1).period+1)=a4.period+1:=by rw[n2m.2.2];exact aa (by omega) (by omega)
 have ex:du (cN2 (⟨a2,a3,a4,a5,a6,a7,a8,a9,a10,a11⟩:ae) a1).mode (cN2 (⟨a2,a3,a4,a5,a6,a7,a8,a9,a10,a11⟩:ae) a1).bm a3.eY x31 x32 x33 x34=u7 (⟨a2,a3,a4,a5,a6,a7,a8,a9,a10,a11⟩:ae) a1:=by rw[n2m.1,n2m.2.1,e31,e32,e33,e34];rfl
 rw[ep,ex];refine aV (zae ?_) ?_
 . rw[n2m.2.1];omega
 have c2r:(0<=(cN2 (⟨a2,a3,a4,a5,a6,a7,a8,a9,a10,a11⟩:ae) a1).bC/\(cN2 (⟨a2,a3,a4,a5,a6,a7,a8,a9,a10,a11⟩:ae) a1).bC<=(cN2 (⟨a2,a3,a4,a5,a6,a7,a8,a9,a10,a11⟩:ae) a1).rin/\(cN2 (⟨a2,a3,a4,a5,a6,a7,a8,a9,a10,a11⟩:ae) a1).rin<=1152921504606846976):=by
  rw[u2];show 0<=a4.bC+fQ (⟨a2,a3,a4,a5,a6,a7,a8,a9,a10,a11⟩:ae) a1/\a4.bC+fQ (⟨a2,a3,a4,a5,a6,a7,a8,a9,a10,a11⟩:ae) a1<=a4.rin+bj kT (cn (⟨a2,a3,a4,a5,a6,a7,a8,a9,a10,a11⟩:ae) a1).2.2/\a4.rin+bj kT (cn (⟨a2,a3,a4,a5,a6,a7,a8,a9,a10,a11⟩:ae) a1).2.2<=_;omega
 refine aV (zae h0) ?_
 refine aV (zar.2 ⟨zae h0,zar.2 ⟨zae c2r,zar.2 ⟨hpo,fA t1⟩⟩⟩) ?_
 rw[show w64 (a4.period+1)=a4.period+1 from aa (by omega) (by omega)];rfl
theorem B6:ER 11 (mkE N11.en N11.ex f11):=aq ah T40.right (fun m=>[]) (t:=t11) (by kernel_rfl) (fun m=>aA) (fun m a=>by kernel_rfl) fun(a0,a1,a2,a3,a4,a5,a6,a7,a8,a9,a10,a11) hc=>Rq a0 a1 a2 a3 a4 a5 a6 a7 a8 a9 a10 a11 hc
def T11:Tb Tryz.prog LQ TE XX:=T40.add 11 _ B6
theorem wL (d:Dat):(iH d).i 0=d.i 0/\(iH d).i 1=d.i 1/\(iH d).i 2=0/\(iH d).i 3=0/\(iH d).b 4=false:=⟨rfl,rfl,rfl,rfl,rfl⟩
theorem zO:∀l:List Dat,an 1 (l.map iH)=an 1 l/\an 2 (l.map iH)=0
 |[]=>⟨rfl,rfl⟩
 |d::l=>by
  obtain⟨h1,h2⟩:=zO l;simp only[zaV,an,h1,h2,(wL d).2.1,(wL d).2.2.1];exact⟨trivial,rfl⟩
theorem zH:∀l:List Dat,an 5 (l.map po)=0/\an 6 (l.map po)=0
 |[]=>⟨rfl,rfl⟩
 |d::l=>by
  obtain⟨h1,h2⟩:=zH l;simp only[zaV,an,h1,h2,po,pO,qc]
  decide
theorem Dc {d:bJ} (h:(cr d).isSome=true):fU (cy d):=by
 have D:=fh h;obtain⟨s1,s2⟩:=zO d.aP;obtain⟨n5,n6⟩:=zH d.notes;refine⟨h, ?_,fun x hx=> ?_, ?_,fun x hx=> ?_, ?_, ?_,zcj _, ?_, ?_, ?_, ?_, ?_, ?_, ?_⟩
 . simp only[cy,zcg];rfl
 . obtain⟨y,hy,rfl⟩:=za6.1 (show x∈d.notes.map po from hx);have:=D.note y hy;refine⟨zae ?_, ?_⟩
   . show(0<=y.i 1/\y.i 1<=1099511627776/\(0:Int)<=0/\(0:Int)=0/\(0:Int)<=0/\(0:Int)+0<=y.i 1/\(0:Int)<=0/\(0:Int)<=1125899906842624);omega
   . show(0:Int)<=1200000000000*0;omega
 . simp only[cy,zcg];rfl
 . obtain⟨y,hy,rfl⟩:=za6.1 (show x∈d.aP.map iH from hx);have:=D.yo y hy;obtain⟨_,e1,e2,e3,e4⟩:=wL y;unfold ga;rw[e1,e2,e3,e4]
   and_intros<;>first|omega|(intro h;cases h;done)|(intro _;rfl)
 . show an 1 (d.aP.map iH)+an 2 (d.aP.map iH)+0<=an 1 d.aP;omega
 . show(0:Int)-0=an 2 (d.aP.map iH);omega
 . show(0:Int)<=0/\(0:Int)<=600;omega
 . show(0:Int)<=0/\(0:Int)<=2;omega
 . show(0:Int)<=0/\(0:Int)<=0;omega
 . show(0:Int)<=0/\(0:Int)<=1200000000000*0;omega
 . exact⟨zcj _,D.advance.1⟩
 . show(0:Int)<=0/\0<=d.b.aX/\d.b.aX<=1200000000000*(0+1)
   have:=D.aX;omega
 . show an 6 (d.notes.map po)<=an 2 (d.aP.map iH);omega
theorem Ll {d:bJ} (h:(cr d).isSome=true):dI d=cy d:=by unfold dI;rw[if_pos h]
def et:bJ:=⟨⟨2024,1,0⟩,[.r [.n 1,.n 100]],[.r [.n 0,.n 100,.n 0]],⟨0,0,0,0,0,0,0,0,0,0⟩,[.r [.n 3,.n 0],.r [.n 7,.n 0]],[.r [.n 3,.n 0],.r [.n 7,.n 0]],[.r [.n 3,.n 0],.r [.n 7,.n 0]]⟩
theorem vk:(cr et).isSome=true:=by kernel_rfl
theorem La:dI et=cy et:=Ll vk
theorem Us:fU (cy et):=Dc vk
def nh:List Dat:=[.r [.n 1,.n 40,.n 0,.n 0,.n 0,.n 0,.n (bI false)]]
theorem Jb:(aJ (cy et) nh).ra=⟨false,1,0,40,0,0,0,0,0,0,0⟩/\(aJ (cy et) nh).rb=⟨0,60,0,0,0⟩/\(aJ (cy et) nh).next=0/\(aJ (cy et) nh).e=0/\(aJ (cy et) nh).aK=[.r [.n 1,.n 7,.n 0,.n 40]]/\(aJ (cy et) nh).notes=[.r [.n 60,.n 0,.n 0]]:=by
 refine⟨?_, ?_, ?_, ?_, ?_, ?_⟩<;>kernel_rfl
def N10:aE:=⟨T11.tab,10,⟨[],[],0⟩,⟨[.agg [.int .i64,.int .i64,.int .i64,.buf 0 2,.buf 1 3,.int .i64,.int .i64,.int .i64,.int .i64,.int .i64,.int .i64,.int .i64,.int .i64,.int .i64,.int .i64,.buf 2 2,.buf 3 2,.buf 4 2]],[.ab (sI 2),.ab (sI 3),.ab (sI 2),.ab (sI 2),.ab (sI 2)],0⟩,[]⟩
def t10 (m:Nat):Unit->Option (List Un):=fun _=>
 some (Uns.enc ((⟨2024,1,0⟩:aw):aw)++Uns.enc ((⟨0,0,0,0,0,0,0,0,0,0⟩:ax):ax)++[.d ([.r [.n 1,.n 100]]:List Dat),.d ([.r [.n 0,.n 100,.n 0]]:List Dat),.d ([.r [.n 3,.n 0],.r [.n 7,.n 0]]:List Dat),.d ([.r [.n 3,.n 0],.r [.n 7,.n 0]]:List Dat),.d ([.r [.n 3,.n 0],.r [.n 7,.n 0]]:List Dat)])
def f10:Unit->Bool × List Un:=fun _=>(true,Uns.enc ((et.a):aw)++Uns.enc ((et.b):ax)++[.d (et.aP),.d (et.notes),.d (et.s0),.d (et.s1),.d (et.s2)])
theorem QF:∃m,t10 m ()=some (Uns.enc ((et.a):aw)++Uns.enc ((et.b):ax)++[.d (et.aP),.d (et.notes),.d (et.s0),.d (et.s1),.d (et.s2)]):=by
 exact⟨0,rfl⟩
theorem Na:ER 10 (mkE N10.en N10.ex f10):=aq ah T11.right (fun m=>[]) (t:=t10) (by kernel_rfl) (fun m=>aA) (fun m a=>by kernel_rfl) fun _ hc=>QF
def T10:Tb Tryz.prog LQ TE XX:=T11.add 10 _ Na
theorem mr (k:cI):(cr (aS k)).isSome=true:=by rw[Dr];rfl
theorem Ag (k:cI):dI (aS k)=cy (aS k):=Ll (mr k)
theorem G2 (k:cI):fU (cy (aS k)):=Dc (mr k)
theorem Ku {T:ae} {l:List Dat} (ho:T.n.j9=false) (hp:T.n.period<600) (he:(cP T l).e=0):aJ T l=aC T l:=by
 unfold aJ;rw[ho,rh,az (by omega),fq he]
def ky (d:Dat):Dat:= .r [.n (d.i 0),.n (d.i 1)]
def Kq (p q r s t u:List Int) (l:List Dat):List Dat:=ofL p q r s t u (l.map fun d=>d.i 2) 0 (l.map ky)
theorem DR (id:Int) (x:Dat) (hx:x.i 0=id):∀(pre:List Dat) (rest:List Dat) (i:Int),(∀d∈pre,d.i 0≠id)->fE id i (pre++x::rest)=i+pre.length
 |[],rest,i,_=>by simp only[zaC,fE,if_pos hx,zas];omega
 |d::pre,rest,i,h=>by
  have:=DR id x hx pre rest (i+1) fun y hy=>h y (by simp[hy])
  simp only[zaN,fE,if_neg (h d (by simp)),this,zac,zaD];omega
theorem TI {p q r s t u:List Int} {i:Int} {x n:Dat} (hx:ga x) (hb:0<x.i 1) (hn:n.i 0=x.i 0/\n.i 1=x.i 1):jy ((lG p q r s t u i n).i 1) ((lG p q r s t u i n).i 2) ((lG p q r s t u i n).i 3) ((lG p q r s t u i n).i 4) ((lG p q r s t u i n).i 5)=true/\BJ x (lG p q r s t u i n)=true/\(lG p q r s t u i n).i 0=x.i 0:=by
 obtain⟨n0,n1⟩:=hn;obtain⟨x1,x2,x3,x4,x5,x6⟩:=hx;have h4:x.b 4=false:=by
  cases hc:x.b 4
  . rfl
  . have:=x5 hc;omega
 unfold lG;rw[n0,n1];dsimp only;have b1:=aZ (a:=bB p i) (show(0:Int)<=x.i 1/4 by omega);generalize within (bB p i) 0 (x.i 1/4)=y at*
 have b2:0<=(if within (bB q i) 0 (2*(x.i 1-y))>x.i 1-y then 0 else within (bB q i) 0 (2*(x.i 1-y)))/\(if within (bB q i) 0 (2*(x.i 1-y))>x.i 1-y then 0 else within (bB q i) 0 (2*(x.i 1-y)))<=x.i 1-y:=by
  have:=aZ (a:=bB q i) (show(0:Int)<=2*(x.i 1-y) by omega)
  split<;>omega
 generalize (if within (bB q i) 0 (2*(x.i 1-y))>x.i 1-y then 0 else within (bB q i) 0 (2*(x.i 1-y)))=z at*
 have b3:=aZ (a:=bB r i) (show(0:Int)<=1+x.i 1/50 by omega);generalize within (bB r i) 0 (1+x.i 1/50)=v at*
 have b4:=aZ (a:=bB s i) (show(0:Int)<=x.i 1-y-z by omega);generalize within (bB s i) 0 (x.i 1-y-z)=c at*
 have b5:=aZ (a:=bB t i) (show(0:Int)<=24 by omega);generalize within (bB t i) 0 24=w at*
 generalize w64 ((BitVec.ofInt 64 (bB u i)&&&BitVec.ofInt 64 7).toNat)=e;refine⟨?_, ?_,rfl⟩
 . show jy y z v (if e=7 then c else 0) (if 0<w-12 then w-12 else 0)=true;simp only[jy,zab,zag];refine⟨by omega,by omega,by omega,by omega,by omega,by omega, ?_, ?_, ?_, ?_⟩<;>split<;>omega
 . show xt (x.i 1) (x.i 2) (x.b 4) y z v (if e=7 then c else 0) (if 0<w-12 then w-12 else 0) (bI (decide (e=7)) !=0)=true;rw[Qn,h4];unfold xt;rw[zao,show w64 (x.i 1-y)=x.i 1-y from aa (by omega) (by omega),show w64 (x.i 1-y-z)=x.i 1-y-z from aa (by omega) (by omega),zaH (show ¬x.i 1-y-z<0 by omega),zao,show w64 (x.i 2+(x.i 1-y-z))=x.i 2+(x.i 1-y-z) from aa (by omega) (by omega)]
   by_cases he:e=7
   . rw[zae he,zau,if_pos he,zae (show c<=x.i 2+(x.i 1-y-z) by omega)];rfl
   . rw[zaH he,zao,if_neg he];rfl
theorem T6 {s lost:List Int} {j:Nat} {x n:Dat} (hx:ga x) (hb:¬0<x.i 1) (hn:n.i 0=x.i 0) (hl:lost.getD j 0=x.i 2):jy ((lE s lost j n).i 1) ((lE s lost j n).i 2) ((lE s lost j n).i 3) ((lE s lost j n).i 4) ((lE s lost j n).i 5)=true/\BJ x (lE s lost j n)=true/\(lE s lost j n).i 0=x.i 0:=by
 obtain⟨x1,x2,x3,x4,x5,x6⟩:=hx;have e0:x.i 1=0:=by omega
 unfold lE;rw[hn,zaz,hl];have hc:∃c,(if (j:Int)<(lost.length:Int)/\0<x.i 2 then within (bB s j) 0 (x.i 2)else 0)=c/\0<=c/\c<=x.i 2:=by
  refine⟨_,rfl, ?_, ?_⟩<;>split
  . exact(aZ x2).1
  . omega
  . exact(aZ x2).2
  . omega
 obtain⟨c,hc,c0,c1⟩:=hc;rw[hc];refine⟨?_, ?_,rfl⟩
 . show jy 0 0 0 c 0=true;simp only[jy,zab,zag]
   and_intros<;>omega
 . show xt (x.i 1) (x.i 2) (x.b 4) 0 0 0 c 0 (bI false !=0)=true;rw[Qn];unfold xt;cases h4:x.b 4
   . have:=x6 h4;have:c=0:=by omega
     subst this;rw[e0];rfl
   . simp only[zau,beq_self_eq_true,za8,Bool.not_false];exact zae c1
theorem Fq (p q r s t u lost:List Int):∀(rest pre:List Dat) (last a b c d:Int),(∀x∈rest,ga x)->(∀x∈pre,x.i 0<=last)->((pre++rest).map fun x=>x.i 0).Pairwise (·<·)->(∀x∈rest,last<x.i 0/\0<x.i 0)->(∀j,j<rest.length->lost.getD (pre.length+j) 0=(af rest j).i 2)->0<=last->
 kL last (ofL p q r s t u lost pre.length (rest.map ky))=true/\∃y,fV (pre++rest) a b c d (ofL p q r s t u lost pre.length (rest.map ky))=some y/\y.e=0
 |[],pre,last,a,b,c,d,_,_,_,_,_,_=>⟨rfl,⟨a,b,c,d,0,pre++[]⟩,rfl,rfl⟩
 |x::rest,pre,last,a,b,c,d,hl,hp,hw,hlt,hlo,h0=>by
  have hx:=hl x (by simp);have hx0:=hlt x (by simp);have hlo':∀j,j<rest.length->lost.getD (pre.length+1+j) 0=(af rest j).i 2:=fun j hj=>by
   have:=hlo (j+1) (by simpa using hj);rw[show pre.length+1+j=pre.length+(j+1) by omega,this];rfl
  have hl0:lost.getD pre.length 0=x.i 2:=hlo 0 (by simp);have hw2:∀z∈rest,x.i 0<z.i 0:=by
   rw[zbP,List.pairwise_append]at hw;have:=(List.pairwise_cons.1 hw.2.1).1;intro z hz;exact this _ (za6.2 ⟨z,hz,rfl⟩)
  have step:∀(y:Dat) (a b c d:Int),y.i 0=x.i 0->kL (x.i 0) (ofL p q r s t u lost ((pre.length:Int)+1) (rest.map ky))=true/\∃z,fV (pre++y::rest) a b c d (ofL p q r s t u lost ((pre.length:Int)+1) (rest.map ky))=some z/\z.e=0:=fun y a b c d hy=>by
   have:=Fq p q r s t u lost rest (pre++[y]) (x.i 0) a b c d (fun z hz=>hl z (by simp[hz])) (fun z hz=>by
    rcases zbp.1 hz with hz|hz
    . have:=hp z hz;omega
    . rw[zbW.1 hz];omega) (by simpa[hy]using hw) (fun z hz=>by have:=hw2 z hz;omega) (by simpa using hlo') (by omega)
   simpa using this
  have skip:kL last (ofL p q r s t u lost ((pre.length:Int)+1) (rest.map ky))=true/\∃z,fV (pre++x::rest) a b c d (ofL p q r s t u lost ((pre.length:Int)+1) (rest.map ky))=some z/\z.e=0:=by
   have h1:=Fq p q r s t u lost rest (pre++[x]) last a b c d;refine⟨?_,(step x a b c d rfl).2⟩;have tm:∀(l:List Dat),kL (x.i 0) l=true->kL last l=true:=fun l h=>by
    cases l with
    |nil=>rfl
    |cons w l=>
     unfold kL at h⊢
     split at h
     . cases h
     . rw[if_neg (by omega)];exact h
   exact tm _ (step x a b c d rfl).1
  have line:∀e:Dat,jy (e.i 1) (e.i 2) (e.i 3) (e.i 4) (e.i 5)=true/\BJ x e=true/\e.i 0=x.i 0->kL last (e::ofL p q r s t u lost ((pre.length:Int)+1) (rest.map ky))=true/\∃y,fV (pre++x::rest) a b c d (e::ofL p q r s t u lost ((pre.length:Int)+1) (rest.map ky))=some y/\y.e=0:=fun e he=>by
   obtain⟨e1,e2,e3⟩:=he;have hi:fE (e.i 0) 0 (pre++x::rest)=(pre.length:Int):=by
    rw[e3,DR (x.i 0) x rfl pre rest 0 fun z hz=>by have:=hp z hz;omega];omega
   refine⟨?_, ?_⟩
   . unfold kL;rw[e3,if_neg (by omega),if_pos e1];exact(step x a b c d rfl).1
   . unfold fV;rw[hi,if_neg (by omega),zaz,au,if_pos e2,Bp];exact(step (m6 x e) _ _ _ _ rfl).2
  simp only[zaV];unfold ofL
  split
  . simpa using skip
  . by_cases hb:0<(ky x).i 1
    . rw[if_pos hb,List.singleton_append];exact line _ (TI hx hb ⟨rfl,rfl⟩)
    . rw[if_neg hb,List.singleton_append];exact line _ (T6 hx hb rfl hl0)
theorem Ej {T:ae} (h:fU T) (p q r s t u:List Int):(cP T (Kq p q r s t u T.aL)).e=0:=by
 have D:=fh h.uh;have hl:=kE h;have hpos:∀x∈T.aL,0<x.i 0:=fun x hx=>by
  have hm:x.i 0∈T.aL.map (fun d=>d.i 0):=za6.2 ⟨x,hx,rfl⟩;rw[h.ids]at hm;obtain⟨y,hy,e⟩:=za6.1 hm;have:=D.pos y hy;omega
 obtain⟨a1,y,a2,a3⟩:=Fq p q r s t u (T.aL.map fun d=>d.i 2) T.aL [] 0 0 0 0 0 h.yo (fun x hx=>by cases hx) (by
  have e:=h.ids;rw[zaC,e];exact D.ids) (fun x hx=>by have:=hpos x hx;omega) (fun j hj=>by
   rw[zas,zaI,gg hj,zaf];simp[hj]) (by omega)
 have hlen:=GP p q r s t u (T.aL.map fun d=>d.i 2) (T.aL.map ky) 0;unfold cP aG Kq;have ht:pc (ofL p q r s t u (T.aL.map fun d=>d.i 2) 0 (T.aL.map ky))=true:=by
  simp only[pc,zab,zag];exact⟨by rw[zaR]at hlen;omega,a1⟩
 rw[if_pos ht];rw[show fV T.aL 0 0 0 0 (ofL p q r s t u (T.aL.map fun d=>d.i 2) 0 (T.aL.map ky))=some y from a2];exact a3
theorem xX {T:ae} (h:fU T) (ho:T.n.j9=false) (hp:T.n.period<600) {l:List Dat} (he:(cP T l).e=0):aJ T l=aC T l/\fU (aC T l).t/\(aC T l).t.n.j9=false/\(aC T l).t.n.period=T.n.period+1/\(aC T l).t.n.mode=(aC T l).next/\(0<=(aC T l).next/\(aC T l).next<=2)/\(T.n.mode=2->(aC T l).next=2)/\(aC T l).ra.mode=T.n.mode/\(aC T l).ra.period=T.n.period+1:=by
 have u:=qp h he;refine⟨Ku ho hp he,wF h hp he, ?_,rfl,rfl,(C1 h.mode h.bm.1).1,fun hm=> ?_,rfl,rfl⟩
 . show(cN2 T l).j9=false;rw[u];exact ho
 . show(du _ _ _ _ _ _ _).1=2;unfold du;rw[if_pos (.inl hm)]
def nf (n:Int):List Int:=[wu8 (Int.fdiv n 72057594037927936),wu8 (Int.fdiv n 281474976710656),wu8 (Int.fdiv n 1099511627776),wu8 (Int.fdiv n 4294967296),wu8 (Int.fdiv n 16777216),wu8 (Int.fdiv n 65536),wu8 (Int.fdiv n 256),wu8 (Int.fdiv n 1)]
def cR (l:List Int):List Int:=l.flatMap nf
theorem Ln:(2:Int)^(min (56:Int).toNat 64)=72057594037927936/\(2:Int)^(min (48:Int).toNat 64)=281474976710656/\(2:Int)^(min (40:Int).toNat 64)=1099511627776/\(2:Int)^(min (32:Int).toNat 64)=4294967296/\(2:Int)^(min (24:Int).toNat 64)=16777216/\(2:Int)^(min (16:Int).toNat 64)=65536/\(2:Int)^(min (8:Int).toNat 64)=256/\(2:Int)^(min (0:Int).toNat 64)=1:=by decide
def N48:aE:=⟨T10.tab,48,⟨[.ints .i64],[],0⟩,⟨[.buf 0 1],[.ints .u8],0⟩,[[0,1,1,0,0,1,1,0,0,1,0,1,1]]⟩
abbrev GX:Type:=List Int × Int × Int × List Int
def AB (m:Nat) (k:GX->Option (List Un)):GX->Option (List Un):=fun(a0,a1,a2,a3)=>
 bif decide (a2<a1)then
 chk (inb a2 a0.length)<|
 chk (decide (a2.toNat<a0.length))<|
 lt ((Int.fdiv (a0.getD a2.toNat 0) (2^(min (56:Int).toNat 64))):Int) fun x1=>
 chk (fits (a3.length+1) 1)<|
 chk (fits ((a3++([(wu8 x1)])).length+1) 1)<|
 lt (((a3++([(wu8 x1)]))++([(wu8 (Int.fdiv (a0.getD a2.toNat 0) (2^(min (48:Int).toNat 64))))])):List Int) fun l3=>
 lt ((Int.fdiv (a0.getD a2.toNat 0) (2^(min (40:Int).toNat 64))):Int) fun x4=>
 chk (fits (l3.length+1) 1)<|
 chk (fits ((l3++([(wu8 x4)])).length+1) 1)<|
 lt (((l3++([(wu8 x4)]))++([(wu8 (Int.fdiv (a0.getD a2.toNat 0) (2^(min (32:Int).toNat 64))))])):List Int) fun l6=>
 lt ((Int.fdiv (a0.getD a2.toNat 0) (2^(min (24:Int).toNat 64))):Int) fun x7=>
 chk (fits (l6.length+1) 1)<|
 chk (fits ((l6++([(wu8 x7)])).length+1) 1)<|
 lt (((l6++([(wu8 x7)]))++([(wu8 (Int.fdiv (a0.getD a2.toNat 0) (2^(min (16:Int).toNat 64))))])):List Int) fun l9=>
 lt ((Int.fdiv (a0.getD a2.toNat 0) (2^(min (8:Int).toNat 64))):Int) fun x10=>
 chk (fits (l9.length+1) 1)<|
 chk (fits ((l9++([(wu8 x10)])).length+1) 1)<|
 k (a0,a1,(w64 (a2+1)),((l9++([(wu8 x10)]))++([(wu8 (Int.fdiv (a0.getD a2.toNat 0) (2^(min (0:Int).toNat 64))))])))
 else
 some ([.l a3])
def zM (m:Nat):Nat->GX->Option (List Un):=bg (AB m)
theorem wm (m:Nat) (n:Nat):zM m (n+1)=AB m (zM m n):=rfl
def K9 (F:GX->Option (List Un)):aQ:=⟨[.lp [0,1,0,1,1],.blk 0,.code [1,1,1]],⟨frm 27 [(3,.buf 0 1),(7,.ints .i64),(8,.int .i64),(9,.int .i64)],[.ints .u8],0⟩,onU F⟩
theorem TK (m:Nat):∀n,HO N48 (K9 (zM m n)):=ar ah T10.right (fun k=>[K9 k]) (fun k h=>(aH h aA)) fun k a=>by kernel_rfl
def t48 (m:Nat):List Int->Option (List Un):=fun a0=>
 zM m m (a0,(a0.length:Int),0,[])
theorem OK (m:Nat):∀(rest pre acc:List Int) (n:Nat),rest.length<n->(pre++rest).length<=1000000->acc.length=8*pre.length->zM m n (pre++rest,((pre++rest).length:Int),(pre.length:Int),acc)=some [.l (acc++cR rest)]:=by
 intro rest
 induction rest with
 |nil=>
  intro pre acc n hn hl ha;obtain⟨n,rfl⟩:=ai n (by simp at hn;omega);rw[wm];unfold AB;dsimp only;rw[az (by simp)];simp[cR]
 |cons x rest ih=>
  intro pre acc n hn hl ha;obtain⟨n,rfl⟩:=ai n (by simp at hn;omega);simp only[zac,zad]at hn hl;rw[wm];unfold AB;dsimp only;rw[ba (by simp only[zad,zac];omega),cq (by omega) (by simp only[zad,zac];omega),aI (by simp)];have hx:(pre++x::rest).getD (pre.length:Int).toNat 0=x:=by simp
  obtain⟨p1,p2,p3,p4,p5,p6,p7,p8⟩:=Ln;have f:∀k,k<=8->fits (acc.length+k) 1=true:=fun k hk=>zae (by omega)
  dsimp only[lt];simp only[hx,p1,p2,p3,p4,p5,p6,p7,p8,zad,zac,zas,zaI,za7,Nat.reduceAdd,f 1 (by decide),f 2 (by decide),f 3 (by decide),f 4 (by decide),f 5 (by decide),f 6 (by decide),f 7 (by decide),f 8 (by decide),chk,zau];have:=ih (pre++[x]) (acc++nf x) n (by omega) (by simp;omega) (by simp[nf,ha];omega);have e:w64 ((pre.length:Int)+1)=((pre++[x]).length:Int):=by
   rw[aa (by omega) (by omega)];simp
  rw[e];have e2:acc++cR (x::rest)=(acc++nf x)++cR rest:=by simp[cR]
  rw[e2,<-this];simp only[zat,zaN,zaC,nf,zad,zac,zas,zaI,za7,Nat.add_comm 1]
def f48:List Int->Bool × List Un:=fun a0=>(decide (a0.length<=1000000),[.l (cR a0)])
theorem RQ (a0:List Int) (hc:(decide (a0.length<=1000000))=true):∃m,t48 m a0=some ([.l (cR a0)]):=by
 have hl:=zaj hc;refine⟨a0.length+1, ?_⟩;have:=OK (a0.length+1) a0 [] [] (a0.length+1) (by omega) (by simpa using hl) rfl;simp only[zaC]at this;exact this
theorem O3:ER 48 (mkE N48.en N48.ex f48):=aq ah T10.right (fun m=>[K9 (zM m m)]) (t:=t48) (by kernel_rfl) (fun m=>(aH (TK m m) aA)) (fun m a=>by kernel_rfl) fun a0 hc=>RQ a0 hc
def T48:Tb Tryz.prog LQ TE XX:=T10.add 48 _ O3
structure RdR where
 v:Int
 o:Int
 n:Int
 bad:Bool
 l:List Int
def rdN (o n:Int) (bad:Bool) (l:List Int):RdR:=bif bad||(n.toNat:Int)==0 then⟨0,o.toNat,n.toNat,true,l⟩else⟨l.getD o.toNat 0,((o.toNat+1:Nat):Int),((n.toNat-1:Nat):Int),bad,l⟩
def rdM (o n:Int) (bad:Bool) (l:List Int) (most:Int):RdR:=let r:=rdN o n bad l;bif decide (r.v<0)||decide (r.v>most)then {r with v:=0,bad:=true}else r
def N95:aE:=⟨T48.tab,95,⟨[.ptr 0 0 0],[.cells [.sl 1 1,.bool],.ints .i64],0⟩,⟨[.int .i64],[.cells [.sl 1 1,.bool],.ints .i64],0⟩,[]⟩
def t95 (m:Nat):Int × Int × Bool × List Int->Option (List Un):=fun(a0,a1,a2,a3)=>
 bif a2 then
 some ([.i 0,.i (a0.toNat:Int),.i (a1.toNat:Int),.b true,.l a3])
 else
 bif (a1.toNat:Int)==0 then
 some ([.i 0,.i (a0.toNat:Int),.i (a1.toNat:Int),.b true,.l a3])
 else
 chk (inb 0 a1.toNat)<|
 chk (decide (a0.toNat<a3.length))<|
 chk (true&&(true&&decide (1<=a1.toNat/\a1.toNat<=a1.toNat)))<|
 some ([.i (a3.getD a0.toNat 0),.i (((a0.toNat+1):Nat):Int),.i (((a1.toNat-1):Nat):Int),.b a2,.l a3])
def f95:Int × Int × Bool × List Int->Bool × List Un:=fun(a0,a1,a2,a3)=>(decide (a0.toNat+a1.toNat<=a3.length),[.i ((rdN a0 a1 a2 a3).v),.i ((rdN a0 a1 a2 a3).o),.i ((rdN a0 a1 a2 a3).n),.b ((rdN a0 a1 a2 a3).bad),.l ((rdN a0 a1 a2 a3).l)])
theorem Qm (a0:Int) (a1:Int) (a2:Bool) (a3:List Int) (hc:(decide (a0.toNat+a1.toNat<=a3.length))=true):∃m,t95 m (a0,a1,a2,a3)=some ([.i ((rdN a0 a1 a2 a3).v),.i ((rdN a0 a1 a2 a3).o),.i ((rdN a0 a1 a2 a3).n),.b ((rdN a0 a1 a2 a3).bad),.l ((rdN a0 a1 a2 a3).l)]):=by
 have hl:=zaj hc;refine⟨0, ?_⟩;unfold t95 rdN;dsimp only;cases a2 with
 |true=>rfl
 |false=>
  rw[zck];cases h:((a1.toNat:Int)==0)with
  |true=>rfl
  |false=>
   have h:¬(a1.toNat:Int)=0:=by simpa using h
   rw[zao,zao,zao,cq (by decide) (by omega),aI (by omega)];exact aV (by simp;omega) rfl
theorem GH:ER 95 (mkE N95.en N95.ex f95):=aq ah T48.right (fun m=>[]) (t:=t95) (by kernel_rfl) (fun m=>aA) (fun m a=>by kernel_rfl) fun(a0,a1,a2,a3) hc=>Qm a0 a1 a2 a3 hc
def T95:Tb Tryz.prog LQ TE XX:=T48.add 95 _ GH
def VN:RdR->List Un:=fun r=>[.i r.v,.i r.o,.i r.n,.b r.bad,.l r.l]
def VZ:Int × Int × Bool × List Int->Bool × RdR:=fun(a0,a1,a2,a3)=>(decide (a0.toNat+a1.toNat<=a3.length),(rdN a0 a1 a2 a3))
theorem Lt:ER 95 (mkB N95.en N95.ex VZ VN):=rebind GH fun(a0,a1,a2,a3)=>rfl
def Rg:Tb Tryz.prog LQ TE XX:=T95.add 95 _ Lt
def N52:aE:=⟨Rg.tab,52,⟨[.ptr 0 0 0],[.cells [.sl 1 1,.bool],.ints .i64],2⟩,⟨[.bool],[.cells [.sl 1 1,.bool],.ints .i64],2⟩,[]⟩
def t52 (m:Nat):Int × Int × Bool × List Int->Option (List Un):=fun(a0,a1,a2,a3)=>
 bif !a2 then
 some ([.b ((a1.toNat:Int)==0),.i (a0.toNat:Int),.i (a1.toNat:Int),.b a2,.l a3])
 else
 some ([.b false,.i (a0.toNat:Int),.i (a1.toNat:Int),.b a2,.l a3])
def f52:Int × Int × Bool × List Int->Bool × List Un:=fun(a0,a1,a2,a3)=>(true,[.b ((!a2&&(a1.toNat:Int)==0)),.i ((a0.toNat:Int)),.i ((a1.toNat:Int)),.b (a2),.l (a3)])
theorem RM (a0:Int) (a1:Int) (a2:Bool) (a3:List Int):∃m,t52 m (a0,a1,a2,a3)=some ([.b ((!a2&&(a1.toNat:Int)==0)),.i ((a0.toNat:Int)),.i ((a1.toNat:Int)),.b (a2),.l (a3)]):=by
 refine⟨0, ?_⟩;unfold t52;cases a2<;>rfl
theorem Nq:ER 52 (mkE N52.en N52.ex f52):=aq ah Rg.right (fun m=>[]) (t:=t52) (by kernel_rfl) (fun m=>aA) (fun m a=>by kernel_rfl) fun(a0,a1,a2,a3) hc=>RM a0 a1 a2 a3
def T52:Tb Tryz.prog LQ TE XX:=Rg.add 52 _ Nq
def N50:aE:=⟨T52.tab,50,⟨[.ints .i64],[],0⟩,⟨[.ptr 0 0 0],[.cells [.sl 1 1,.bool],.ints .i64],0⟩,[]⟩
def t50 (m:Nat):List Int->Option (List Un):=fun a0=>
 chk (decide (a0.length<1000000))<|
 some ([.i 0,.i (a0.length:Int),.b false,.l a0])
def f50:List Int->Bool × List Un:=fun a0=>(decide (a0.length<1000000),[.i (0),.i ((a0.length:Int)),.b (false),.l (a0)])
theorem Sy (a0:List Int) (hc:(decide (a0.length<1000000))=true):∃m,t50 m a0=some ([.i (0),.i ((a0.length:Int)),.b (false),.l (a0)]):=by
 refine⟨0, ?_⟩;unfold t50;exact aV hc rfl
theorem M9:ER 50 (mkE N50.en N50.ex f50):=aq ah T52.right (fun m=>[]) (t:=t50) (by kernel_rfl) (fun m=>aA) (fun m a=>by kernel_rfl) fun a0 hc=>Sy a0 hc
def T50:Tb Tryz.prog LQ TE XX:=T52.add 50 _ M9
def N94:aE:=⟨T50.tab,94,⟨[.ptr 0 0 0,.int .i64],[.cells [.sl 1 1,.bool],.ints .i64],0⟩,⟨[.int .i64],[.cells [.sl 1 1,.bool],.ints .i64],0⟩,[]⟩
def t94 (m:Nat):Int × Int × Int × Bool × List Int->Option (List Un):=fun(a0,a1,a2,a3,a4)=>
 chk (decide ((a1.toNat:Int).toNat+(a2.toNat:Int).toNat<=a4.length))<|
 bd ((rdN (a1.toNat:Int) (a2.toNat:Int) a3 a4):RdR) fun r1=>
 bif decide (r1.v<0)then
 some ([.i 0,.i (r1.o.toNat:Int),.i (r1.n.toNat:Int),.b true,.l r1.l])
 else
 bif decide (r1.v>a0)then
 some ([.i 0,.i (r1.o.toNat:Int),.i (r1.n.toNat:Int),.b true,.l r1.l])
 else
 some ([.i r1.v,.i (r1.o.toNat:Int),.i (r1.n.toNat:Int),.b r1.bad,.l r1.l])
theorem M4 (o n:Int) (b:Bool) (l:List Int):((rdN o n b l).o.toNat:Int)=(rdN o n b l).o/\((rdN o n b l).n.toNat:Int)=(rdN o n b l).n:=by
 unfold rdN;cases (b||(n.toNat:Int)==0)with
 |true=>exact⟨rfl,rfl⟩
 |false=>exact⟨rfl,rfl⟩
theorem Iy (o n:Int) (b:Bool) (l:List Int):rdN (o.toNat:Int) (n.toNat:Int) b l=rdN o n b l:=rfl
def f94:Int × Int × Int × Bool × List Int->Bool × List Un:=fun(a0,a1,a2,a3,a4)=>(decide (a1.toNat+a2.toNat<=a4.length),[.i ((rdM a1 a2 a3 a4 a0).v),.i ((rdM a1 a2 a3 a4 a0).o),.i ((rdM a1 a2 a3 a4 a0).n),.b ((rdM a1 a2 a3 a4 a0).bad),.l ((rdM a1 a2 a3 a4 a0).l)])
theorem S9 (a0:Int) (a1:Int) (a2:Int) (a3:Bool) (a4:List Int) (hc:(decide (a1.toNat+a2.toNat<=a4.length))=true):∃m,t94 m (a0,a1,a2,a3,a4)=some ([.i ((rdM a1 a2 a3 a4 a0).v),.i ((rdM a1 a2 a3 a4 a0).o),.i ((rdM a1 a2 a3 a4 a0).n),.b ((rdM a1 a2 a3 a4 a0).bad),.l ((rdM a1 a2 a3 a4 a0).l)]):=by
 have hl:=zaj hc;refine⟨0, ?_⟩;unfold t94;dsimp only[bd];refine aV (zae (by omega)) ?_
 rw[Iy];obtain⟨n1,n2⟩:=M4 a1 a2 a3 a4;rw[n1,n2];unfold rdM;dsimp only;cases decide ((rdN a1 a2 a3 a4).v<0)with
 |true=>rfl
 |false=>cases decide ((rdN a1 a2 a3 a4).v>a0)<;>rfl
theorem HI:ER 94 (mkE N94.en N94.ex f94):=aq ah T50.right (fun m=>[]) (t:=t94) (by kernel_rfl) (fun m=>aA) (fun m a=>by kernel_rfl) fun(a0,a1,a2,a3,a4) hc=>S9 a0 a1 a2 a3 a4 hc
def T94:Tb Tryz.prog LQ TE XX:=T50.add 94 _ HI
def VW:RdR->List Un:=fun r=>[.i r.v,.i r.o,.i r.n,.b r.bad,.l r.l]
def Wh:Int × Int × Int × Bool × List Int->Bool × RdR:=fun(a0,a1,a2,a3,a4)=>(decide (a1.toNat+a2.toNat<=a4.length),(rdM a1 a2 a3 a4 a0))
theorem JG:ER 94 (mkB N94.en N94.ex Wh VW):=rebind HI fun(a0,a1,a2,a3,a4)=>rfl
def Oh:Tb Tryz.prog LQ TE XX:=T94.add 94 _ JG
def uf (n:Int):Bool:=decide (0<=n)&&decide (n<=1152921504606846976)
def N54:aE:=⟨Oh.tab,54,⟨[.ints .i64],[],0⟩,⟨[.bool],[],0⟩,[]⟩
abbrev Gp:Type:=List Int × Int × Int
def Ci (m:Nat) (k:Gp->Option (List Un)):Gp->Option (List Un):=fun(a0,a1,a2)=>
 bif decide (a2<a1)then
 chk (inb a2 a0.length)<|
 chk (decide (a2.toNat<a0.length))<|
 bif (decide ((a0.getD a2.toNat 0)<0))then
 some ([.b false])
 else
 bif (decide ((a0.getD a2.toNat 0)>1152921504606846976))then
 some ([.b false])
 else
 k (a0,a1,(w64 (a2+1)))
 else
 some ([.b true])
def zo (m:Nat):Nat->Gp->Option (List Un):=bg (Ci m)
theorem xF (m:Nat) (n:Nat):zo m (n+1)=Ci m (zo m n):=rfl
def JM (F:Gp->Option (List Un)):aQ:=⟨[.lp [0,1,0,1],.blk 0,.code [1,1]],⟨frm 18 [(5,.ints .i64),(6,.int .i64),(7,.int .i64)],[],0⟩,onU F⟩
theorem Vt (m:Nat):∀n,HO N54 (JM (zo m n)):=ar ah Oh.right (fun k=>[JM k]) (fun k h=>(aH h aA)) fun k a=>by kernel_rfl
def t54 (m:Nat):List Int->Option (List Un):=fun a0=>
 zo m m (a0,(a0.length:Int),0)
theorem UJ (m:Nat):∀(rest pre:List Int) (n:Nat),rest.length<n->(pre++rest).length<=1000000->zo m n (pre++rest,((pre++rest).length:Int),(pre.length:Int))=some [.b (rest.all uf)]:=by
 intro rest
 induction rest with
 |nil=>
  intro pre n hn hl;obtain⟨n,rfl⟩:=ai n (by simp at hn;omega);rw[xF];unfold Ci;dsimp only;rw[az (by simp)];rfl
 |cons x rest ih=>
  intro pre n hn hl;obtain⟨n,rfl⟩:=ai n (by simp at hn;omega);simp only[zac,zad]at hn hl;rw[xF];unfold Ci;dsimp only;rw[ba (by simp only[zad,zac];omega),cq (by omega) (by simp only[zad,zac];omega),aI (by simp)];have hx:(pre++x::rest).getD (pre.length:Int).toNat 0=x:=by simp
  have:=ih (pre++[x]) n (by omega) (by simp;omega);have e:w64 ((pre.length:Int)+1)=((pre++[x]).length:Int):=by
   rw[aa (by omega) (by omega)];simp
  have e3:pre++x::rest=(pre++[x])++rest:=by simp
  rw[hx,CQ,B3,e,e3,this,mS,mS];simp only[zcl,uf,Bool.and_assoc]
def f54:List Int->Bool × List Un:=fun a0=>(decide (a0.length<=1000000),[.b (a0.all uf)])
theorem R7 (a0:List Int) (hc:(decide (a0.length<=1000000))=true):∃m,t54 m a0=some ([.b (a0.all uf)]):=by
 have hl:=zaj hc;refine⟨a0.length+1, ?_⟩;exact UJ (a0.length+1) a0 [] (a0.length+1) (by omega) (by simpa using hl)
theorem Pc:ER 54 (mkE N54.en N54.ex f54):=aq ah Oh.right (fun m=>[JM (zo m m)]) (t:=t54) (by kernel_rfl) (fun m=>(aH (Vt m m) aA)) (fun m a=>by kernel_rfl) fun a0 hc=>R7 a0 hc
def T54:Tb Tryz.prog LQ TE XX:=Oh.add 54 _ Pc
structure Gt where
 ra:bE
 rb:bw
 next:Int
 aK:List Dat
 notes:List Dat
 r:RdR
def nx (r:RdR):RdR:=rdN r.o r.n r.bad r.l
def mx (r:RdR) (most:Int):RdR:=rdM r.o r.n r.bad r.l most
def fP:Nat->RdR->List Dat × RdR
 |0,r=>([],r)
 |k+1,r=>let s:=nx (nx (nx (nx r)));(.r [.n (nx r).v,.n (nx (nx r)).v,.n (nx (nx (nx r))).v,.n s.v]::(fP k s).1,(fP k s).2)
def fi:Nat->RdR->List Dat × RdR
 |0,r=>([],r)
 |k+1,r=>let s:=nx (nx (nx r));(.r [.n (nx r).v,.n (nx (nx r)).v,.n s.v]::(fi k s).1,(fi k s).2)
def zg (r1 r17:RdR):bE × bw × Int:=
 let r2:=nx r1;let r3:=nx r2;let r4:=nx r3;let r5:=nx r4;let r6:=nx r5;let r7:=nx r6;let r8:=nx r7;let r9:=nx r8;let r10:=nx r9;let r11:=nx r10;let r12:=nx r11;let r13:=nx r12;let r14:=nx r13;let r15:=nx r14;let r16:=nx r15
 (⟨r1.v==1,r2.v,r3.v,r4.v,r5.v,r6.v,r7.v,r8.v,r9.v,r10.v,r11.v⟩,⟨r12.v,r13.v,r14.v,r15.v,r16.v⟩,r17.v)
def bU (o n:Int) (bad:Bool) (l:List Int):Gt:=
 let r1:=rdM o n bad l 1
 let r17:=nx (nx (nx (nx (nx (nx (nx (nx (nx (nx (nx (nx (nx (nx (nx (nx r1)))))))))))))))
 let h:=zg r1 r17
 let r18:=mx r17 160
 let p:=fP r18.v.toNat r18
 let r24:=mx p.2 8
 let q:=fi r24.v.toNat r24
 ⟨h.1,h.2.1,h.2.2,p.1,q.1,q.2⟩
def RdI (r:RdR):Prop:=(r.o.toNat:Int)=r.o/\(r.n.toNat:Int)=r.n/\r.o.toNat+r.n.toNat<=r.l.length
theorem P8 {o n:Int} {b:Bool} {l:List Int} (h:o.toNat+n.toNat<=l.length):RdI (rdN o n b l)/\(rdN o n b l).l=l:=by
 unfold rdN RdI;cases hb:(b||(n.toNat:Int)==0)with
 |true=>exact⟨⟨rfl,rfl,h⟩,rfl⟩
 |false=>
  simp only[zbA,zbD]at hb;refine⟨⟨rfl,rfl, ?_⟩,rfl⟩;simp only[zao,zaz];omega
theorem dT {r:RdR} (h:RdI r):RdI (nx r):=(P8 h.2.2).1
theorem KZ {o n:Int} {b:Bool} {l:List Int} {most:Int} (h:o.toNat+n.toNat<=l.length):RdI (rdM o n b l most):=by
 have:=(P8 (b:=b) h).1;unfold rdM;dsimp only;cases (decide ((rdN o n b l).v<0)||decide ((rdN o n b l).v>most))<;>exact this
theorem PY {r:RdR} {most:Int} (h:RdI r):RdI (mx r most):=KZ h.2.2
theorem Gg {o n:Int} {b:Bool} {l:List Int} {most:Int} (hm:0<=most):0<=(rdM o n b l most).v/\(rdM o n b l most).v<=most:=by
 unfold rdM;dsimp only;cases h:(decide ((rdN o n b l).v<0)||decide ((rdN o n b l).v>most))with
 |true=>exact⟨zcj _,hm⟩
 |false=>
  simp only[zbA,decide_eq_false_iff_not]at h;simp only[zao];omega
theorem Gu:∀(k:Nat) {r:RdR},RdI r->RdI (fP k r).2
 |0,r,h=>h
 |k+1,r,h=>Gu k (dT (dT (dT (dT h))))
theorem GW:∀(k:Nat) {r:RdR},RdI r->RdI (fi k r).2
 |0,r,h=>h
 |k+1,r,h=>GW k (dT (dT (dT h)))
def N51:aE:=⟨T54.tab,51,⟨[.ptr 0 0 0],[.cells [.sl 1 1,.bool],.ints .i64],0⟩,⟨[.agg [.bool,.int .i64,.int .i64,.int .i64,.int .i64,.int .i64,.int .i64,.int .i64,.int .i64,.int .i64,.int .i64,.buf 2 4,.int .i64,.int .i64,.int .i64,.int .i64,.int .i64,.buf 3 3,.int .i64]],[.cells [.sl 1 1,.bool],.ints .i64,.ab (sI 4),.ab (sI 3)],0⟩,[[0,1,0,1,1,1],[0,1,0,1,0,0,1,1,0,0,1,0,1,1,1,1],[0,1,0,1,0,0,1,1,0,0,1,0,1,1,1,1,1]]⟩
abbrev Ie:Type:=Int × Int × Int × Int × Bool × List Int × bE × bw × Int × bE × bw × Int × List Dat × List Dat × List Dat × List Dat
abbrev Hq:Type:=Int × Int × Int × Int × Bool × List Int × bE × bw × Int × bE × bw × Int × List Dat × List Dat × List Dat × List Dat
def Bz (m:Nat) (k:Ie->Option (List Un)):Ie->Option (List Un):=fun(a0,a1,a2,a3,a4,a5,a6,a7,a8,a9,a10,a11,a12,a13,a14,a15)=>
 bif decide (a1<a0)then
 chk (decide ((a2.toNat:Int).toNat+(a3.toNat:Int).toNat<=a5.length))<|
 bd ((rdN (a2.toNat:Int) (a3.toNat:Int) a4 a5):RdR) fun r25=>
 chk (decide ((r25.o.toNat:Int).toNat+(r25.n.toNat:Int).toNat<=r25.l.length))<|
 bd ((rdN (r25.o.toNat:Int) (r25.n.toNat:Int) r25.bad r25.l):RdR) fun r26=>
 chk (decide ((r26.o.toNat:Int).toNat+(r26.n.toNat:Int).toNat<=r26.l.length))<|
 bd ((rdN (r26.o.toNat:Int) (r26.n.toNat:Int) r26.bad r26.l):RdR) fun r27=>
 chk (fits (a15.length+1) 24)<|
 k (a0,(w64 (a1+1)),(r27.o.toNat:Int),(r27.n.toNat:Int),r27.bad,r27.l,a6,a7,a8,a9,a10,a11,a12,a13,a14,(a15++([.r [.n r25.v,.n r26.v,.n r27.v]])))
 else
 some (Uns.enc (a9:bE)++Uns.enc (a10:bw)++[.i a11,.i (a2.toNat:Int),.i (a3.toNat:Int),.b a4,.l a5,.d a14,.d a15])
def yI (m:Nat):Nat->Ie->Option (List Un):=bg (Bz m)
theorem vU (m:Nat) (n:Nat):yI m (n+1)=Bz m (yI m n):=rfl
def KL (F:Ie->Option (List Un)):aQ:=⟨[.lp [0,1,0,1,1,1,1,1],.blk 6,.code [1,1,1,1,1,1]],⟨frm 92 [(0,.ptr 0 0 0),(2,.ptr 2 0 0),(3,.ptr 3 0 0),(73,.int .i64),(74,.int .i64)],[.cells [.sl 1 1,.bool],.ints .i64,.cells [.bool,.int .i64,.int .i64,.int .i64,.int .i64,.int .i64,.int .i64,.int .i64,.int .i64,.int .i64,.int .i64,.buf 4 4,.int .i64,.int .i64,.int .i64,.int .i64,.int .i64,.buf 5 3,.int .i64],.cells [.bool,.int .i64,.int .i64,.int .i64,.int .i64,.int .i64,.int .i64,.int .i64,.int .i64,.int .i64,.int .i64,.buf 6 4,.int .i64,.int .i64,.int .i64,.int .i64,.int .i64,.buf 7 3,.int .i64],.ab (sI 4),.ab (sI 3),.ab (sI 4),.ab (sI 3)],0⟩,onU F⟩
def Ct (m:Nat) (k:Hq->Option (List Un)):Hq->Option (List Un):=fun(a0,a1,a2,a3,a4,a5,a6,a7,a8,a9,a10,a11,a12,a13,a14,a15)=>
 bif decide (a1<a0)then
 chk (decide ((a2.toNat:Int).toNat+(a3.toNat:Int).toNat<=a5.length))<|
 bd ((rdN (a2.toNat:Int) (a3.toNat:Int) a4 a5):RdR) fun r19=>
 chk (decide ((r19.o.toNat:Int).toNat+(r19.n.toNat:Int).toNat<=r19.l.length))<|
 bd ((rdN (r19.o.toNat:Int) (r19.n.toNat:Int) r19.bad r19.l):RdR) fun r20=>
 chk (decide ((r20.o.toNat:Int).toNat+(r20.n.toNat:Int).toNat<=r20.l.length))<|
 bd ((rdN (r20.o.toNat:Int) (r20.n.toNat:Int) r20.bad r20.l):RdR) fun r21=>
 chk (decide ((r21.o.toNat:Int).toNat+(r21.n.toNat:Int).toNat<=r21.l.length))<|
 bd ((rdN (r21.o.toNat:Int) (r21.n.toNat:Int) r21.bad r21.l):RdR) fun r22=>
 chk (fits (a14.length+1) 32)<|
 k (a0,(w64 (a1+1)),(r22.o.toNat:Int),(r22.n.toNat:Int),r22.bad,r22.l,a6,a7,a8,a9,a10,a11,a12,a13,(a14++([.r [.n r19.v,.n r20.v,.n r21.v,.n r22.v]])),a15)
 else
 chk (decide ((a2.toNat:Int).toNat+(a3.toNat:Int).toNat<=a5.length))<|
 bd ((rdM (a2.toNat:Int) (a3.toNat:Int) a4 a5 8):RdR) fun r24=>
 yI m m (r24.v,0,(r24.o.toNat:Int),(r24.n.toNat:Int),r24.bad,r24.l,a6,a7,a8,a9,a10,a11,a12,a13,a14,a15)
def zq (m:Nat):Nat->Hq->Option (List Un):=bg (Ct m)
theorem wV (m:Nat) (n:Nat):zq m (n+1)=Ct m (zq m n):=rfl
def Js (F:Hq->Option (List Un)):aQ:=⟨[.lp [0,1,0,1,1,1,1],.blk 2,.code [1,1,1,1,1]],⟨frm 92 [(0,.ptr 0 0 0),(2,.ptr 2 0 0),(3,.ptr 3 0 0),(47,.int .i64),(48,.int .i64)],[.cells [.sl 1 1,.bool],.ints .i64,.cells [.bool,.int .i64,.int .i64,.int .i64,.int .i64,.int .i64,.int .i64,.int .i64,.int .i64,.int .i64,.int .i64,.buf 4 4,.int .i64,.int .i64,.int .i64,.int .i64,.int .i64,.buf 5 3,.int .i64],.cells [.bool,.int .i64,.int .i64,.int .i64,.int .i64,.int .i64,.int .i64,.int .i64,.int .i64,.int .i64,.int .i64,.buf 6 4,.int .i64,.int .i64,.int .i64,.int .i64,.int .i64,.buf 7 3,.int .i64],.ab (sI 4),.ab (sI 3),.ab (sI 4),.ab (sI 3)],0⟩,onU F⟩
theorem UU (m:Nat):∀n,HO N51 (KL (yI m n)):=ar ah T54.right (fun k=>[KL k]) (fun k h=>(aH h aA)) fun k a=>by kernel_rfl
theorem Uh (m:Nat):∀n,HO N51 (Js (zq m n)):=ar ah T54.right (fun k=>[Js k,KL (yI m m)]) (fun k h=>(aH h (aH (UU m m) aA))) fun k a=>by kernel_rfl
def t51 (m:Nat):Int × Int × Bool × List Int->Option (List Un):=fun(a0,a1,a2,a3)=>
 chk (decide ((a0.toNat:Int).toNat+(a1.toNat:Int).toNat<=a3.length))<|
 bd ((rdM (a0.toNat:Int) (a1.toNat:Int) a2 a3 1):RdR) fun r1=>
 chk (decide ((r1.o.toNat:Int).toNat+(r1.n.toNat:Int).toNat<=r1.l.length))<|
 bd ((rdN (r1.o.toNat:Int) (r1.n.toNat:Int) r1.bad r1.l):RdR) fun r2=>
 chk (decide ((r2.o.toNat:Int).toNat+(r2.n.toNat:Int).toNat<=r2.l.length))<|
 bd ((rdN (r2.o.toNat:Int) (r2.n.toNat:Int) r2.bad r2.l):RdR) fun r3=>
 chk (decide ((r3.o.toNat:Int).toNat+(r3.n.toNat:Int).toNat<=r3.l.length))<|
 bd ((rdN (r3.o.toNat:Int) (r3.n.toNat:Int) r3.bad r3.l):RdR) fun r4=>
 chk (decide ((r4.o.toNat:Int).toNat+(r4.n.toNat:Int).toNat<=r4.l.length))<|
 bd ((rdN (r4.o.toNat:Int) (r4.n.toNat:Int) r4.bad r4.l):RdR) fun r5=>
 chk (decide ((r5.o.toNat:Int).toNat+(r5.n.toNat:Int).toNat<=r5.l.length))<|
 bd ((rdN (r5.o.toNat:Int) (r5.n.toNat:Int) r5.bad r5.l):RdR) fun r6=>
 chk (decide ((r6.o.toNat:Int).toNat+(r6.n.toNat:Int).toNat<=r6.l.length))<|
 bd ((rdN (r6.o.toNat:Int) (r6.n.toNat:Int) r6.bad r6.l):RdR) fun r7=>
 chk (decide ((r7.o.toNat:Int).toNat+(r7.n.toNat:Int).toNat<=r7.l.length))<|
 bd ((rdN (r7.o.toNat:Int) (r7.n.toNat:Int) r7.bad r7.l):RdR) fun r8=>
 chk (decide ((r8.o.toNat:Int).toNat+(r8.n.toNat:Int).toNat<=r8.l.length))<|
 bd ((rdN (r8.o.toNat:Int) (r8.n.toNat:Int) r8.bad r8.l):RdR) fun r9=>
 chk (decide ((r9.o.toNat:Int).toNat+(r9.n.toNat:Int).toNat<=r9.l.length))<|
 bd ((rdN (r9.o.toNat:Int) (r9.n.toNat:Int) r9.bad r9.l):RdR) fun r10=>
 chk (decide ((r10.o.toNat:Int).toNat+(r10.n.toNat:Int).toNat<=r10.l.length))<|
 bd ((rdN (r10.o.toNat:Int) (r10.n.toNat:Int) r10.bad r10.l):RdR) fun r11=>
 chk (decide ((r11.o.toNat:Int).toNat+(r11.n.toNat:Int).toNat<=r11.l.length))<|
 bd ((rdN (r11.o.toNat:Int) (r11.n.toNat:Int) r11.bad r11.l):RdR) fun r12=>
 chk (decide ((r12.o.toNat:Int).toNat+(r12.n.toNat:Int).toNat<=r12.l.length))<|
 bd ((rdN (r12.o.toNat:Int) (r12.n.toNat:Int) r12.bad r12.l):RdR) fun r13=>
 chk (decide ((r13.o.toNat:Int).toNat+(r13.n.toNat:Int).toNat<=r13.l.length))<|
 bd ((rdN (r13.o.toNat:Int) (r13.n.toNat:Int) r13.bad r13.l):RdR) fun r14=>
 chk (decide ((r14.o.toNat:Int).toNat+(r14.n.toNat:Int).toNat<=r14.l.length))<|
 bd ((rdN (r14.o.toNat:Int) (r14.n.toNat:Int) r14.bad r14.l):RdR) fun r15=>
 chk (decide ((r15.o.toNat:Int).toNat+(r15.n.toNat:Int).toNat<=r15.l.length))<|
 bd ((rdN (r15.o.toNat:Int) (r15.n.toNat:Int) r15.bad r15.l):RdR) fun r16=>
 chk (decide ((r16.o.toNat:Int).toNat+(r16.n.toNat:Int).toNat<=r16.l.length))<|
 bd ((rdN (r16.o.toNat:Int) (r16.n.toNat:Int) r16.bad r16.l):RdR) fun r17=>
 chk (decide ((r17.o.toNat:Int).toNat+(r17.n.toNat:Int).toNat<=r17.l.length))<|
 bd ((rdM (r17.o.toNat:Int) (r17.n.toNat:Int) r17.bad r17.l 160):RdR) fun r18=>
 zq m m (r18.v,0,(r18.o.toNat:Int),(r18.n.toNat:Int),r18.bad,r18.l,(⟨false,0,0,0,0,0,0,0,0,0,0⟩:bE),(⟨0,0,0,0,0⟩:bw),0,(⟨r1.v==1,r2.v,r3.v,r4.v,r5.v,r6.v,r7.v,r8.v,r9.v,r10.v,r11.v⟩:bE),(⟨r12.v,r13.v,r14.v,r15.v,r16.v⟩:bw),r17.v,[],[],[],[])
theorem Sg (m:Nat) (xa:bE) (xb:bw) (xn:Int) (ya:bE) (yb:bw) (yn:Int) (z1 z2 p:List Dat):∀(c:Nat) (n:Nat) (k:Nat) (r:RdR) (acc:List Dat),c<n->k+c<=8->acc.length<=k->RdI r->
 yI m n (((k+c:Nat):Int),(k:Int),r.o,r.n,r.bad,r.l,xa,xb,xn,ya,yb,yn,z1,z2,p,acc)=some (Uns.enc ya++Uns.enc yb++[.i yn,.i (fi c r).2.o,.i (fi c r).2.n,.b (fi c r).2.bad,.l (fi c r).2.l,.d p,.d (acc++(fi c r).1)]):=by
 intro c
 induction c with
 |zero=>
  intro n k r acc hn hk ha hr;obtain⟨n,rfl⟩:=ai n (by omega);rw[vU];unfold Bz;dsimp only;rw[az (by omega),hr.1,hr.2.1];simp[fi]
 |succ c ih=>
  intro n k r acc hn hk ha hr;obtain⟨n,rfl⟩:=ai n (by omega);rw[vU];unfold Bz;dsimp only;have h1:=dT hr;have h2:=dT h1;have h3:=dT h2;rw[ba (by omega)];dsimp only[bd];rw[hr.1,hr.2.1];refine aV (zae hr.2.2) ?_
  rw[show rdN r.o r.n r.bad r.l=nx r from rfl,h1.1,h1.2.1];refine aV (zae h1.2.2) ?_
  rw[show rdN (nx r).o (nx r).n (nx r).bad (nx r).l=nx (nx r) from rfl,h2.1,h2.2.1];refine aV (zae h2.2.2) ?_
  rw[show rdN (nx (nx r)).o (nx (nx r)).n (nx (nx r)).bad (nx (nx r)).l=nx (nx (nx r)) from rfl,h3.1,h3.2.1];rw[dP (by omega) (by omega)];have:=ih n (k+1) (nx (nx (nx r))) (acc++[.r [.n (nx r).v,.n (nx (nx r)).v,.n (nx (nx (nx r))).v]]) (by omega) (by omega) (by simp;omega) h3;have e:w64 ((k:Int)+1)=((k+1:Nat):Int):=by rw[aa (by omega) (by omega)];simp
  rw[e,show k+(c+1)=k+1+c by omega,this];simp only[fi,zat,zaN,zaC]
theorem Qk (m:Nat) (hm:9<=m) (xa:bE) (xb:bw) (xn:Int) (ya:bE) (yb:bw) (yn:Int) (z1 z2:List Dat):∀(c:Nat) (n:Nat) (k:Nat) (r:RdR) (acc:List Dat),c<n->k+c<=160->acc.length<=k->RdI r->
 zq m n (((k+c:Nat):Int),(k:Int),r.o,r.n,r.bad,r.l,xa,xb,xn,ya,yb,yn,z1,z2,acc,[])=
  (let p:=fP c r;let t:=mx p.2 8;let q:=fi t.v.toNat t;some (Uns.enc ya++Uns.enc yb++[.i yn,.i q.2.o,.i q.2.n,.b q.2.bad,.l q.2.l,.d (acc++p.1),.d q.1])):=by
 intro c
 induction c with
 |zero=>
  intro n k r acc hn hk ha hr;obtain⟨n,rfl⟩:=ai n (by omega);rw[wV];unfold Ct;dsimp only;rw[az (by omega),hr.1,hr.2.1];dsimp only[bd];refine aV (zae hr.2.2) ?_
  have ht:=PY (most:=8) hr;rw[show rdM r.o r.n r.bad r.l 8=mx r 8 from rfl,ht.1,ht.2.1];have hv:0<=(mx r 8).v/\(mx r 8).v<=8:=Gg (by decide);have:=Sg m xa xb xn ya yb yn z1 z2 acc (mx r 8).v.toNat m 0 (mx r 8) [] (by omega) (by omega) (by simp) ht;rw[show(((0+(mx r 8).v.toNat:Nat)):Int)=(mx r 8).v by omega]at this;simp only[fP,zaS];exact this
 |succ c ih=>
  intro n k r acc hn hk ha hr;obtain⟨n,rfl⟩:=ai n (by omega);rw[wV];unfold Ct;dsimp only;have h1:=dT hr;have h2:=dT h1;have h3:=dT h2;have h4:=dT h3;rw[ba (by omega)];dsimp only[bd];rw[hr.1,hr.2.1];refine aV (zae hr.2.2) ?_
  rw[show rdN r.o r.n r.bad r.l=nx r from rfl,h1.1,h1.2.1];refine aV (zae h1.2.2) ?_
  rw[show rdN (nx r).o (nx r).n (nx r).bad (nx r).l=nx (nx r) from rfl,h2.1,h2.2.1];refine aV (zae h2.2.2) ?_
  rw[show rdN (nx (nx r)).o (nx (nx r)).n (nx (nx r)).bad (nx (nx r)).l=nx (nx (nx r)) from rfl,h3.1,h3.2.1];refine aV (zae h3.2.2) ?_
  rw[show rdN (nx (nx (nx r))).o (nx (nx (nx r))).n (nx (nx (nx r))).bad (nx (nx (nx r))).l=nx (nx (nx (nx r))) from rfl,h4.1,h4.2.1];rw[dP (by omega) (by omega)];have:=ih n (k+1) (nx (nx (nx (nx r)))) (acc++[.r [.n (nx r).v,.n (nx (nx r)).v,.n (nx (nx (nx r))).v,.n (nx (nx (nx (nx r)))).v]]) (by omega) (by omega) (by simp;omega) h4;have e:w64 ((k:Int)+1)=((k+1:Nat):Int):=by rw[aa (by omega) (by omega)];simp
  rw[e,show k+(c+1)=k+1+c by omega,this];simp only[fP,zat,zaN,zaC]
theorem jT {r:RdR} (h:RdI r) {β:Type} (f:RdR->Option β):(chk (decide ((r.o.toNat:Int).toNat+(r.n.toNat:Int).toNat<=r.l.length))<|bd (rdN (r.o.toNat:Int) (r.n.toNat:Int) r.bad r.l) f)=f (nx r):=by
 rw[h.1,h.2.1];exact aV (zae h.2.2) rfl
def f51:Int × Int × Bool × List Int->Bool × List Un:=fun(a0,a1,a2,a3)=>(decide (a0.toNat+a1.toNat<=a3.length),Uns.enc (((bU a0 a1 a2 a3).ra):bE)++Uns.enc (((bU a0 a1 a2 a3).rb):bw)++[.i ((bU a0 a1 a2 a3).next),.i ((bU a0 a1 a2 a3).r.o),.i ((bU a0 a1 a2 a3).r.n),.b ((bU a0 a1 a2 a3).r.bad),.l ((bU a0 a1 a2 a3).r.l),.d ((bU a0 a1 a2 a3).aK),.d ((bU a0 a1 a2 a3).notes)])
set_option maxHeartbeats 2000000 in
theorem RJ (a0:Int) (a1:Int) (a2:Bool) (a3:List Int) (hc:(decide (a0.toNat+a1.toNat<=a3.length))=true):∃m,t51 m (a0,a1,a2,a3)=some (Uns.enc (((bU a0 a1 a2 a3).ra):bE)++Uns.enc (((bU a0 a1 a2 a3).rb):bw)++[.i ((bU a0 a1 a2 a3).next),.i ((bU a0 a1 a2 a3).r.o),.i ((bU a0 a1 a2 a3).r.n),.b ((bU a0 a1 a2 a3).r.bad),.l ((bU a0 a1 a2 a3).r.l),.d ((bU a0 a1 a2 a3).aK),.d ((bU a0 a1 a2 a3).notes)]):=by
 have hl:=zaj hc;refine⟨200, ?_⟩;unfold t51;have i1:RdI (rdM a0 a1 a2 a3 1):=KZ hl;refine aV (zae hl) ?_
 rw[show bd (rdM (a0.toNat:Int) (a1.toNat:Int) a2 a3 1)=bd (rdM a0 a1 a2 a3 1) from rfl];have e1:∀{β:Type} (f:RdR->Option β),bd (rdM a0 a1 a2 a3 1) f=f (rdM a0 a1 a2 a3 1):=fun f=>rfl
 rw[e1];have i2:=dT i1;have i3:=dT i2;have i4:=dT i3;have i5:=dT i4;have i6:=dT i5;have i7:=dT i6;have i8:=dT i7;have i9:=dT i8;have i10:=dT i9;have i11:=dT i10;have i12:=dT i11;have i13:=dT i12;have i14:=dT i13;have i15:=dT i14;have i16:=dT i15;have i17:=dT i16;rw[jT i1,jT i2,jT i3,jT i4,jT i5,jT i6,jT i7,jT i8,jT i9,jT i10,jT i11,jT i12,jT i13,jT i14,jT i15,jT i16];rw[i17.1,i17.2.1];refine aV (zae i17.2.2) ?_
 dsimp only[bd];have i18:=PY (most:=160) i17;unfold bU;dsimp only;generalize nx (nx (nx (nx (nx (nx (nx (nx (nx (nx (nx (nx (nx (nx (nx (nx (rdM a0 a1 a2 a3 1))))))))))))))))=r17 at*
 rw[show rdM r17.o r17.n r17.bad r17.l 160=mx r17 160 from rfl,i18.1,i18.2.1];have hv:0<=(mx r17 160).v/\(mx r17 160).v<=160:=Gg (by decide);have:=Qk 200 (by decide) (⟨false,0,0,0,0,0,0,0,0,0,0⟩:bE) (⟨0,0,0,0,0⟩:bw) 0 (zg (rdM a0 a1 a2 a3 1) r17).1 (zg (rdM a0 a1 a2 a3 1) r17).2.1 (zg (rdM a0 a1 a2 a3 1) r17).2.2 [] [] (mx r17 160).v.toNat 200 0 (mx r17 160) [] (by omega) (by omega) (by simp) i18;rw[show(((0+(mx r17 160).v.toNat:Nat)):Int)=(mx r17 160).v by omega]at this;exact this
theorem GD:ER 51 (mkE N51.en N51.ex f51):=aq ah T54.right (fun m=>[Js (zq m m)]) (t:=t51) (by kernel_rfl) (fun m=>(aH (Uh m m) aA)) (fun m a=>by kernel_rfl) fun(a0,a1,a2,a3) hc=>RJ a0 a1 a2 a3 hc
def T51:Tb Tryz.prog LQ TE XX:=T54.add 51 _ GD
def Wv:Gt->List Un:=fun r=>Uns.enc (r.ra:bE)++Uns.enc (r.rb:bw)++[.i r.next,.i r.r.o,.i r.r.n,.b r.r.bad,.l r.r.l,.d r.aK,.d r.notes]
def Wp:Int × Int × Bool × List Int->Bool × Gt:=fun(a0,a1,a2,a3)=>(decide (a0.toNat+a1.toNat<=a3.length),(bU a0 a1 a2 a3))
theorem LJ:ER 51 (mkB N51.en N51.ex Wp Wv):=rebind GD fun(a0,a1,a2,a3)=>rfl
def Jp:Tb Tryz.prog LQ TE XX:=T51.add 51 _ LJ
theorem Dx {α:Type} {c d:Bool} {F Y:α}:(bif c then(bif !d then F else Y)else F)=bif c&&d then Y else F:=by cases c<;>cases d<;>rfl
theorem cond_not {α:Type} {d:Bool} {F Y:α}:(bif !d then F else Y)=bif d then Y else F:=by cases d<;>rfl
def tS (d:Dat):Bool:=decide (d.i 0>=0)&&(decide (d.i 0<=15)&&(decide (d.i 1>=1)&&(decide (d.i 1<=7)&&(decide (d.i 2>= -1)&&(decide (d.i 2<=7)&&(decide (d.i 3>=1)&&decide (d.i 3<=1152921504606846976)))))))
def qL (d:Dat):Bool:=([d.i 0,d.i 1,d.i 2]:List Int).all uf
def qC (ra:bE) (rb:bw):List Int:=[ra.ak,ra.bP,ra.aF,ra.aR,ra.draw,ra.advance,ra.fee,ra.due,rb.bq,rb.aL,rb.aX,rb.out,rb.jl]
def cu (ra:bE) (aK:List Dat) (rb:bw) (notes:List Dat) (next:Int):Bool:=
 decide (ra.period>=0)&&(decide (ra.period<=600)&&(decide (ra.mode>=0)&&(decide (ra.mode<=2)&&(decide (next>=0)&&(decide (next<=2)&&((qC ra rb).all uf&&(decide ((aK.length:Int)<=160)&&(decide ((notes.length:Int)<=8)&&(aK.all tS&&notes.all qL)))))))))
def N15:aE:=⟨Jp.tab,15,⟨[.agg [.bool,.int .i64,.int .i64,.int .i64,.int .i64,.int .i64,.int .i64,.int .i64,.int .i64,.int .i64,.int .i64,.ab (sI 4),.int .i64,.int .i64,.int .i64,.int .i64,.int .i64,.ab (sI 3),.int .i64]],[],0⟩,⟨[.bool],[],0⟩,[]⟩
abbrev HA:Type:=List Dat × Int × Int
abbrev GJ:Type:=List Dat × Int × Int × bE × List Dat × bw × List Dat × Int
def BW (m:Nat) (k:HA->Option (List Un)):HA->Option (List Un):=fun(a0,a1,a2)=>
 bif decide (a2<a1)then
 chk (inb a2 a0.length)<|
 chk (decide (a2.toNat<a0.length))<|
 lt (af a0 a2.toNat:Dat) fun d8=>
 chk (decide (([(d8.i 0),(d8.i 1),(d8.i 2)]:List Int).length<=1000000))<|
 bif !(([(d8.i 0),(d8.i 1),(d8.i 2)]:List Int).all uf)then
 some ([.b false])
 else
 k (a0,a1,(w64 (a2+1)))
 else
 some ([.b true])
def yP (m:Nat):Nat->HA->Option (List Un):=bg (BW m)
theorem xJ (m:Nat) (n:Nat):yP m (n+1)=BW m (yP m n):=rfl
def K3 (F:HA->Option (List Un)):aQ:=⟨[.lp [0,1,0,1,1,1],.blk 2,.code [1,1,1,1]],⟨frm 82 [(72,.ab (sI 3)),(73,.int .i64),(74,.int .i64)],[],0⟩,onU F⟩
def BL (m:Nat) (k:GJ->Option (List Un)):GJ->Option (List Un):=fun(a0,a1,a2,a3,a4,a5,a6,a7)=>
 bif decide (a2<a1)then
 chk (inb a2 a0.length)<|
 chk (decide (a2.toNat<a0.length))<|
 lt (af a0 a2.toNat:Dat) fun d5=>
 bif decide ((d5.i 0)>=0)then
 bif !(decide ((d5.i 0)<=15))then
 some ([.b false])
 else
 bif decide ((d5.i 1)>=1)then
 bif !(decide ((d5.i 1)<=7))then
 some ([.b false])
 else
 bif (decide ((d5.i 2)>=(-1)))then
 bif !(decide ((d5.i 2)<=7))then
 some ([.b false])
 else
 bif decide ((d5.i 3)>=1)then
 bif !(decide ((d5.i 3)<=1152921504606846976))then
 some ([.b false])
 else
 k (a0,a1,(w64 (a2+1)),a3,a4,a5,a6,a7)
 else
 some ([.b false])
 else
 some ([.b false])
 else
 some ([.b false])
 else
 some ([.b false])
 else
 yP m m (a6,(a6.length:Int),0)
def vP (m:Nat):Nat->GJ->Option (List Un):=bg (BL m)
theorem xL (m:Nat) (n:Nat):vP m (n+1)=BL m (vP m n):=rfl
def J5 (F:GJ->Option (List Un)):aQ:=⟨[.lp [0,1,0,1,1],.blk 0,.code [1,1,1]],⟨frm 82 [(1,.ptr 0 0 0),(42,.ab (sI 4)),(43,.int .i64),(44,.int .i64)],[.cells [.bool,.int .i64,.int .i64,.int .i64,.int .i64,.int .i64,.int .i64,.int .i64,.int .i64,.int .i64,.int .i64,.ab (sI 4),.int .i64,.int .i64,.int .i64,.int .i64,.int .i64,.ab (sI 3),.int .i64]],0⟩,onU F⟩
theorem UO (m:Nat):∀n,HO N15 (K3 (yP m n)):=ar ah Jp.right (fun k=>[K3 k]) (fun k h=>(aH h aA)) fun k a=>by kernel_rfl
theorem UQ (m:Nat):∀n,HO N15 (J5 (vP m n)):=ar ah Jp.right (fun k=>[J5 k,K3 (yP m m)]) (fun k h=>(aH h (aH (UO m m) aA))) fun k a=>by kernel_rfl
def t15 (m:Nat):bE × List Dat × bw × List Dat × Int->Option (List Un):=fun(a0,a1,a2,a3,a4)=>
 bif decide (a0.period>=0)then
 bif !(decide (a0.period<=600))then
 some ([.b false])
 else
 bif decide (a0.mode>=0)then
 bif !(decide (a0.mode<=2))then
 some ([.b false])
 else
 bif decide (a4>=0)then
 bif !(decide (a4<=2))then
 some ([.b false])
 else
 chk (decide (([a0.ak,a0.bP,a0.aF,a0.aR,a0.draw,a0.advance,a0.fee,a0.due,a2.bq,a2.aL,a2.aX,a2.out,a2.jl]:List Int).length<=1000000))<|
 bif !(([a0.ak,a0.bP,a0.aF,a0.aR,a0.draw,a0.advance,a0.fee,a0.due,a2.bq,a2.aL,a2.aX,a2.out,a2.jl]:List Int).all uf)then
 some ([.b false])
 else
 bif (decide ((a1.length:Int)>160))then
 some ([.b false])
 else
 bif (decide ((a3.length:Int)>8))then
 some ([.b false])
 else
 vP m m (a1,(a1.length:Int),0,a0,a1,a2,a3,a4)
 else
 some ([.b false])
 else
 some ([.b false])
 else
 some ([.b false])
theorem NN (m:Nat):∀(rest pre:List Dat) (n:Nat),rest.length<n->(pre++rest).length<=1000000->yP m n (pre++rest,((pre++rest).length:Int),(pre.length:Int))=some [.b (rest.all qL)]:=by
 intro rest
 induction rest with
 |nil=>
  intro pre n hn hl;obtain⟨n,rfl⟩:=ai n (by simp at hn;omega);rw[xJ];unfold BW;dsimp only;rw[az (by simp)];rfl
 |cons x rest ih=>
  intro pre n hn hl;obtain⟨n,rfl⟩:=ai n (by simp at hn;omega);simp only[zac,zad]at hn hl;rw[xJ];unfold BW;dsimp only;rw[ba (by simp only[zad,zac];omega),cq (by omega) (by simp only[zad,zac];omega),aI (by simp)];have hx:af (pre++x::rest) (pre.length:Int).toNat=x:=by simp[af]
  have:=ih (pre++[x]) n (by omega) (by simp;omega);have e:w64 ((pre.length:Int)+1)=((pre++[x]).length:Int):=by
   rw[aa (by omega) (by omega)];simp
  have e3:pre++x::rest=(pre++[x])++rest:=by simp
  rw[hx];dsimp only[lt];refine aV rfl ?_
  rw[cond_not,e,e3,this,mS];simp only[zcl,qL]
theorem Ov (m:Nat) (ra:bE) (xp:List Dat) (rb:bw) (notes:List Dat) (xn:Int) (hm:notes.length<m) (hn9:notes.length<=1000000):∀(rest pre:List Dat) (n:Nat),rest.length<n->(pre++rest).length<=1000000->vP m n (pre++rest,((pre++rest).length:Int),(pre.length:Int),ra,xp,rb,notes,xn)=some [.b (rest.all tS&&notes.all qL)]:=by
 intro rest
 induction rest with
 |nil=>
  intro pre n hn hl;obtain⟨n,rfl⟩:=ai n (by simp at hn;omega);rw[xL];unfold BL;dsimp only;rw[az (by simp)];exact NN m notes [] m hm hn9
 |cons x rest ih=>
  intro pre n hn hl;obtain⟨n,rfl⟩:=ai n (by simp at hn;omega);simp only[zac,zad]at hn hl;rw[xL];unfold BL;dsimp only;rw[ba (by simp only[zad,zac];omega),cq (by omega) (by simp only[zad,zac];omega),aI (by simp)];have hx:af (pre++x::rest) (pre.length:Int).toNat=x:=by simp[af]
  have:=ih (pre++[x]) n (by omega) (by simp;omega);have e:w64 ((pre.length:Int)+1)=((pre++[x]).length:Int):=by
   rw[aa (by omega) (by omega)];simp
  have e3:pre++x::rest=(pre++[x])++rest:=by simp
  rw[hx];dsimp only[lt];rw[e,e3,this];simp only[Dx,mS,zcl,tS,Bool.and_assoc]
def f15:bE × List Dat × bw × List Dat × Int->Bool × List Un:=fun(a0,a1,a2,a3,a4)=>(decide (a1.length<=1000000)&&decide (a3.length<=1000000),[.b ((cu a0 a1 a2 a3 a4))])
theorem Q3 (a0:bE) (a1:List Dat) (a2:bw) (a3:List Dat) (a4:Int) (hc:(decide (a1.length<=1000000)&&decide (a3.length<=1000000))=true):∃m,t15 m (a0,a1,a2,a3,a4)=some ([.b ((cu a0 a1 a2 a3 a4))]):=by
 have hc':=hc;simp only[zab,zag]at hc';obtain⟨h1,h2⟩:=hc';refine⟨a1.length+a3.length+1, ?_⟩;have this:vP (a1.length+a3.length+1) (a1.length+a3.length+1) (a1,(a1.length:Int),0,a0,a1,a2,a3,a4)=some [.b (a1.all tS&&a3.all qL)]:=Ov (a1.length+a3.length+1) a0 a1 a2 a3 a4 (by omega) h2 a1 [] (a1.length+a3.length+1) (by omega) (by simpa using h1);unfold t15;dsimp only;rw[this];simp only[Dx,cond_not,B3];rw[show(decide (([a0.ak,a0.bP,a0.aF,a0.aR,a0.draw,a0.advance,a0.fee,a0.due,a2.bq,a2.aL,a2.aX,a2.out,a2.jl]:List Int).length<=1000000))=true from rfl];simp only[chk,zau,mS,cu,qC,Bool.and_assoc]
theorem NH:ER 15 (mkE N15.en N15.ex f15):=aq ah Jp.right (fun m=>[J5 (vP m m)]) (t:=t15) (by kernel_rfl) (fun m=>(aH (UQ m m) aA)) (fun m a=>by kernel_rfl) fun(a0,a1,a2,a3,a4) hc=>Q3 a0 a1 a2 a3 a4 hc
def T15:Tb Tryz.prog LQ TE XX:=Jp.add 15 _ NH
def gP (d:Dat):List Int:=[d.i 0,d.i 1,d.i 2,d.i 3]
def jB (d:Dat):List Int:=[d.i 0,d.i 1,d.i 2]
def kJ (ra:bE) (aK:List Dat) (rb:bw) (next:Int):List Int:=[bI ra.call,ra.period,ra.mode,ra.ak,ra.bP,ra.aF,ra.aR,ra.draw,ra.advance,ra.fee,ra.due,rb.bq,rb.aL,rb.aX,rb.out,rb.jl,next,(aK.length:Int)]
def jQ (ra:bE) (aK:List Dat) (rb:bw) (notes:List Dat) (next:Int):List Int:=kJ ra aK rb next++(aK.flatMap gP++((notes.length:Int)::notes.flatMap jB))
def cH (ra:bE) (aK:List Dat) (rb:bw) (notes:List Dat) (next:Int):List Int:=bif cu ra aK rb notes next then cR (jQ ra aK rb notes next)else[]
def N12:aE:=⟨T15.tab,12,⟨[.agg [.bool,.int .i64,.int .i64,.int .i64,.int .i64,.int .i64,.int .i64,.int .i64,.int .i64,.int .i64,.int .i64,.ab (sI 4),.int .i64,.int .i64,.int .i64,.int .i64,.int .i64,.ab (sI 3),.int .i64]],[],0⟩,⟨[.buf 0 1],[.ints .u8],0⟩,[]⟩
abbrev HM:Type:=List Dat × Int × Int × List Int
abbrev Hc:Type:=List Dat × Int × Int × bE × List Dat × bw × List Dat × Int × List Int
def AD (m:Nat) (k:HM->Option (List Un)):HM->Option (List Un):=fun(a0,a1,a2,a3)=>
 bif decide (a2<a1)then
 chk (inb a2 a0.length)<|
 chk (decide (a2.toNat<a0.length))<|
 lt (af a0 a2.toNat:Dat) fun d4=>
 chk (fits (a3.length+3) 8)<|
 k (a0,a1,(w64 (a2+1)),(a3++([(d4.i 0),(d4.i 1),(d4.i 2)])))
 else
 chk (decide (a3.length<=1000000))<|
 some ([.l (cR a3)])
def zF (m:Nat):Nat->HM->Option (List Un):=bg (AD m)
theorem wg (m:Nat) (n:Nat):zF m (n+1)=AD m (zF m n):=rfl
def J2 (F:HM->Option (List Un)):aQ:=⟨[.lp [0,1,0,1,1,1,1,1,1,1,1],.blk 2,.code [1,1,1,1,1,1,1,1,1]],⟨frm 69 [(4,.buf 0 1),(57,.ab (sI 3)),(58,.int .i64),(59,.int .i64)],[.ints .i64],0⟩,onU F⟩
def Bt (m:Nat) (k:Hc->Option (List Un)):Hc->Option (List Un):=fun(a0,a1,a2,a3,a4,a5,a6,a7,a8)=>
 bif decide (a2<a1)then
 chk (inb a2 a0.length)<|
 chk (decide (a2.toNat<a0.length))<|
 lt (af a0 a2.toNat:Dat) fun d1=>
 chk (fits (a8.length+4) 8)<|
 k (a0,a1,(w64 (a2+1)),a3,a4,a5,a6,a7,(a8++([(d1.i 0),(d1.i 1),(d1.i 2),(d1.i 3)])))
 else
 chk (fits (a8.length+1) 8)<|
 zF m m (a6,(a6.length:Int),0,(a8++([(a6.length:Int)])))
def sT (m:Nat):Nat->Hc->Option (List Un):=bg (Bt m)
theorem wZ (m:Nat) (n:Nat):sT m (n+1)=Bt m (sT m n):=rfl
def JU (F:Hc->Option (List Un)):aQ:=⟨[.lp [0,1,0,1,1,1,1,1,1],.blk 0,.code [1,1,1,1,1,1,1]],⟨frm 69 [(1,.ptr 0 0 0),(4,.buf 1 1),(32,.ab (sI 4)),(33,.int .i64),(34,.int .i64)],[.cells [.bool,.int .i64,.int .i64,.int .i64,.int .i64,.int .i64,.int .i64,.int .i64,.int .i64,.int .i64,.int .i64,.ab (sI 4),.int .i64,.int .i64,.int .i64,.int .i64,.int .i64,.ab (sI 3),.int .i64],.ints .i64],0⟩,onU F⟩
theorem Ug (m:Nat):∀n,HO N12 (J2 (zF m n)):=ar ah T15.right (fun k=>[J2 k]) (fun k h=>(aH h aA)) fun k a=>by kernel_rfl
theorem T5 (m:Nat):∀n,HO N12 (JU (sT m n)):=ar ah T15.right (fun k=>[JU k,J2 (zF m m)]) (fun k h=>(aH h (aH (Ug m m) aA))) fun k a=>by kernel_rfl
def t12 (m:Nat):bE × List Dat × bw × List Dat × Int->Option (List Un):=fun(a0,a1,a2,a3,a4)=>
 chk (decide (a1.length<=1000000)&&decide (a3.length<=1000000))<|
 bif !(cu a0 a1 a2 a3 a4)then
 some ([.l ([])])
 else
 bif a0.call then
 sT m m (a1,(a1.length:Int),0,a0,a1,a2,a3,a4,([1,a0.period,a0.mode,a0.ak,a0.bP,a0.aF,a0.aR,a0.draw,a0.advance,a0.fee,a0.due,a2.bq,a2.aL,a2.aX,a2.out,a2.jl,a4,(a1.length:Int)]:List Int))
 else
 sT m m (a1,(a1.length:Int),0,a0,a1,a2,a3,a4,([0,a0.period,a0.mode,a0.ak,a0.bP,a0.aF,a0.aR,a0.draw,a0.advance,a0.fee,a0.due,a2.bq,a2.aL,a2.aX,a2.out,a2.jl,a4,(a1.length:Int)]:List Int))
theorem TT (m:Nat):∀(rest pre:List Dat) (acc:List Int) (n:Nat),rest.length<n->(pre++rest).length<=8->acc.length+3*rest.length<=1000->zF m n (pre++rest,((pre++rest).length:Int),(pre.length:Int),acc)=some [.l (cR (acc++rest.flatMap jB))]:=by
 intro rest
 induction rest with
 |nil=>
  intro pre acc n hn hl ha;obtain⟨n,rfl⟩:=ai n (by simp at hn;omega);rw[wg];unfold AD;dsimp only;rw[az (by simp)];refine(aV (zae (by simp at ha;omega)) rfl).trans ?_
  simp
 |cons x rest ih=>
  intro pre acc n hn hl ha;obtain⟨n,rfl⟩:=ai n (by simp at hn;omega);simp only[zac,zad]at hn hl ha;rw[wg];unfold AD;dsimp only;rw[ba (by simp only[zad,zac];omega),cq (by omega) (by simp only[zad,zac];omega),aI (by simp)];have hx:af (pre++x::rest) (pre.length:Int).toNat=x:=by simp[af]
  have:=ih (pre++[x]) (acc++jB x) n (by omega) (by simp;omega) (by simp[jB];omega);have e:w64 ((pre.length:Int)+1)=((pre++[x]).length:Int):=by
   rw[aa (by omega) (by omega)];simp
  have e3:pre++x::rest=(pre++[x])++rest:=by simp
  rw[hx];dsimp only[lt];rw[dP (by omega) (by omega),e,e3];refine Eq.trans this ?_
  simp
theorem U1 (m:Nat) (ra:bE) (xp:List Dat) (rb:bw) (notes:List Dat) (xn:Int) (hm:notes.length<m) (h8:notes.length<=8):∀(rest pre:List Dat) (acc:List Int) (n:Nat),rest.length<n->(pre++rest).length<=160->acc.length+4*rest.length<=700->sT m n (pre++rest,((pre++rest).length:Int),(pre.length:Int),ra,xp,rb,notes,xn,acc)=some [.l (cR (acc++(rest.flatMap gP++((notes.length:Int)::notes.flatMap jB))))]:=by
 intro rest
 induction rest with
 |nil=>
  intro pre acc n hn hl ha;obtain⟨n,rfl⟩:=ai n (by simp at hn;omega);rw[wZ];unfold Bt;dsimp only;rw[az (by simp)];simp only[zas]at ha;rw[dP (by omega) (by omega)];have:=TT m notes [] (acc++[(notes.length:Int)]) m hm (by simpa using h8) (by simp;omega);refine Eq.trans this ?_
  simp
 |cons x rest ih=>
  intro pre acc n hn hl ha;obtain⟨n,rfl⟩:=ai n (by simp at hn;omega);simp only[zac,zad]at hn hl ha;rw[wZ];unfold Bt;dsimp only;rw[ba (by simp only[zad,zac];omega),cq (by omega) (by simp only[zad,zac];omega),aI (by simp)];have hx:af (pre++x::rest) (pre.length:Int).toNat=x:=by simp[af]
  have:=ih (pre++[x]) (acc++gP x) n (by omega) (by simp;omega) (by simp[gP];omega);have e:w64 ((pre.length:Int)+1)=((pre++[x]).length:Int):=by
   rw[aa (by omega) (by omega)];simp
  have e3:pre++x::rest=(pre++[x])++rest:=by simp
  rw[hx];dsimp only[lt];rw[dP (by omega) (by omega),e,e3];refine Eq.trans this ?_
  simp
def f12:bE × List Dat × bw × List Dat × Int->Bool × List Un:=fun(a0,a1,a2,a3,a4)=>(decide (a1.length<=1000000)&&decide (a3.length<=1000000),[.l (cH a0 a1 a2 a3 a4)])
theorem RS (a0:bE) (a1:List Dat) (a2:bw) (a3:List Dat) (a4:Int) (hc:(decide (a1.length<=1000000)&&decide (a3.length<=1000000))=true):∃m,t12 m (a0,a1,a2,a3,a4)=some ([.l (cH a0 a1 a2 a3 a4)]):=by
 refine⟨200, ?_⟩;unfold t12 cH;refine aV hc ?_
 cases hr:cu a0 a1 a2 a3 a4 with
 |false=>rfl
 |true=>
  have hb:a1.length<=160/\a3.length<=8:=by
   unfold cu at hr;simp only[zab,zag]at hr;omega
  have key:∀c:Int,sT 200 200 (a1,(a1.length:Int),0,a0,a1,a2,a3,a4,([c,a0.period,a0.mode,a0.ak,a0.bP,a0.aF,a0.aR,a0.draw,a0.advance,a0.fee,a0.due,a2.bq,a2.aL,a2.aX,a2.out,a2.jl,a4,(a1.length:Int)]:List Int))=some [.l (cR (([c,a0.period,a0.mode,a0.ak,a0.bP,a0.aF,a0.aR,a0.draw,a0.advance,a0.fee,a0.due,a2.bq,a2.aL,a2.aX,a2.out,a2.jl,a4,(a1.length:Int)]:List Int)++(a1.flatMap gP++((a3.length:Int)::a3.flatMap jB))))]:=fun c=>
   U1 200 a0 a1 a2 a3 a4 (by omega) hb.2 a1 [] _ 200 (by omega) (by simpa using hb.1) (by simp;omega)
  refine jE rfl ?_
  unfold jQ kJ;cases hcall:a0.call with
  |true=>exact key 1
  |false=>exact key 0
theorem Ob:ER 12 (mkE N12.en N12.ex f12):=aq ah T15.right (fun m=>[JU (sT m m)]) (t:=t12) (by kernel_rfl) (fun m=>(aH (T5 m m) aA)) (fun m a=>by kernel_rfl) fun(a0,a1,a2,a3,a4) hc=>RS a0 a1 a2 a3 a4 hc
def T12:Tb Tryz.prog LQ TE XX:=T15.add 12 _ Ob
structure yr where
 ra:bE
 rb:bw
 next:Int
 ok:Bool
 aK:List Dat
 notes:List Dat
def qV:yr:=⟨⟨false,0,0,0,0,0,0,0,0,0,0⟩,⟨0,0,0,0,0⟩,0,false,[],[]⟩
def dE (l:List Int):yr:=
 let r:=bU 0 (l.length:Int) false l
 bif !r.r.bad&&r.r.n==0 then(bif cu r.ra r.aK r.rb r.notes r.next then⟨r.ra,r.rb,r.next,true,r.aK,r.notes⟩else qV)else qV
def bu (xs:List Int):yr:=bif xs.length%8==0 then dE (cW xs)else qV
def N13:aE:=⟨T12.tab,13,⟨[.ints .u8],[],0⟩,⟨[.agg [.bool,.int .i64,.int .i64,.int .i64,.int .i64,.int .i64,.int .i64,.int .i64,.int .i64,.int .i64,.int .i64,.buf 0 4,.int .i64,.int .i64,.int .i64,.int .i64,.int .i64,.buf 1 3,.int .i64],.bool],[.ab (sI 4),.ab (sI 3)],0⟩,[]⟩
def t13 (m:Nat):List Int->Option (List Un):=fun a0=>
 chk (decide (a0.length<=140737488351232))<|
 bif !(a0.length%8==0)then
 some (Uns.enc ((⟨false,0,0,0,0,0,0,0,0,0,0⟩:bE):bE)++Uns.enc ((⟨0,0,0,0,0⟩:bw):bw)++[.i 0,.b false,.d ([]),.d ([])])
 else
 chk (decide ((jS a0).length<1000000))<|
 lt (((jS a0).length:Int):Int) fun x1=>
 chk (decide ((0:Int).toNat+(x1.toNat:Int).toNat<=(jS a0).length))<|
 bd ((bU 0 (x1.toNat:Int) false (jS a0)):Gt) fun r2=>
 bif !(!r2.r.bad&&((r2.r.n.toNat:Int).toNat:Int)==0)then
 some (Uns.enc ((⟨false,0,0,0,0,0,0,0,0,0,0⟩:bE):bE)++Uns.enc ((⟨0,0,0,0,0⟩:bw):bw)++[.i 0,.b false,.d ([]),.d ([])])
 else
 chk (decide (r2.aK.length<=1000000)&&decide (r2.notes.length<=1000000))<|
 bif !(cu r2.ra r2.aK r2.rb r2.notes r2.next)then
 some (Uns.enc ((⟨false,0,0,0,0,0,0,0,0,0,0⟩:bE):bE)++Uns.enc ((⟨0,0,0,0,0⟩:bw):bw)++[.i 0,.b false,.d ([]),.d ([])])
 else
 some (Uns.enc (r2.ra:bE)++Uns.enc (r2.rb:bw)++[.i r2.next,.b true,.d r2.aK,.d r2.notes])
theorem sP (xs:List Int):(cW xs).length=xs.length/8:=by simp[cW]
theorem zB:∀(k:Nat) (r:RdR),(fP k r).1.length=k
 |0,r=>rfl
 |k+1,r=>by simp only[fP,zac,zB k]
theorem zr:∀(k:Nat) (r:RdR),(fi k r).1.length=k
 |0,r=>rfl
 |k+1,r=>by simp only[fi,zac,zr k]
theorem PG {o n:Int} {b:Bool} {l:List Int} (h:o.toNat+n.toNat<=l.length):RdI (bU o n b l).r/\(bU o n b l).aK.length<=160/\(bU o n b l).notes.length<=8:=by
 have i1:RdI (rdM o n b l 1):=KZ h;have i17:=dT (dT (dT (dT (dT (dT (dT (dT (dT (dT (dT (dT (dT (dT (dT (dT i1)))))))))))))));have i18:=PY (most:=160) i17;unfold bU;dsimp only;generalize nx (nx (nx (nx (nx (nx (nx (nx (nx (nx (nx (nx (nx (nx (nx (nx (rdM o n b l 1))))))))))))))))=r17 at*
 have hv:0<=(mx r17 160).v/\(mx r17 160).v<=160:=Gg (by decide);have iP:=Gu (mx r17 160).v.toNat i18;have i24:=PY (most:=8) iP;have hw:0<=(mx (fP (mx r17 160).v.toNat (mx r17 160)).2 8).v/\(mx (fP (mx r17 160).v.toNat (mx r17 160)).2 8).v<=8:=Gg (by decide);refine⟨GW _ i24, ?_, ?_⟩
 . rw[zB];omega
 . rw[zr];omega
def f13:List Int->Bool × List Un:=fun a0=>(decide (a0.length<=1000000),Uns.enc (((bu a0).ra):bE)++Uns.enc (((bu a0).rb):bw)++[.i ((bu a0).next),.b ((bu a0).ok),.d ((bu a0).aK),.d ((bu a0).notes)])
theorem R0 (a0:List Int) (hc:(decide (a0.length<=1000000))=true):∃m,t13 m a0=some (Uns.enc (((bu a0).ra):bE)++Uns.enc (((bu a0).rb):bw)++[.i ((bu a0).next),.b ((bu a0).ok),.d ((bu a0).aK),.d ((bu a0).notes)]):=by
 have hl:=zaj hc;refine⟨0, ?_⟩;unfold t13 bu;refine aV (zae (by omega)) ?_
 cases h8:(a0.length%8==0)with
 |false=>rfl
 |true=>
  have e:jS a0=cW a0:=by unfold jS;rw[h8];rfl
  rw[e];have hw:=sP a0;refine jE rfl (aV (zae (by omega)) ?_);dsimp only[lt,bd];refine aV (zae (by simp)) ?_
  rw[show(((cW a0).length:Int).toNat:Int)=((cW a0).length:Int) from rfl];obtain⟨hI,hp,hn⟩:=PG (o:=0) (n:=((cW a0).length:Int)) (b:=false) (l:=cW a0) (by simp);rw[zau];unfold dE;dsimp only;generalize bU 0 ((cW a0).length:Int) false (cW a0)=r at*
  rw[show((r.r.n.toNat:Int).toNat:Int)=r.r.n from hI.2.1];cases hb:(!r.r.bad&&r.r.n==0)with
  |false=>rfl
  |true=>
   refine jE rfl (aV (zar.2 ⟨zae (by omega),zae (by omega)⟩) ?_);cases hr:cu r.ra r.aK r.rb r.notes r.next with
   |false=>rfl
   |true=>rfl
theorem Ht:ER 13 (mkE N13.en N13.ex f13):=aq ah T12.right (fun m=>[]) (t:=t13) (by kernel_rfl) (fun m=>aA) (fun m a=>by kernel_rfl) fun a0 hc=>R0 a0 hc
def T13:Tb Tryz.prog LQ TE XX:=T12.add 13 _ Ht
def V4:yr->List Un:=fun r=>Uns.enc (r.ra:bE)++Uns.enc (r.rb:bw)++[.i r.next,.b r.ok,.d r.aK,.d r.notes]
def Wu:List Int->Bool × yr:=fun a0=>(decide (a0.length<=1000000),(bu a0))
theorem LH:ER 13 (mkB N13.en N13.ex Wu V4):=rebind Ht fun a0=>rfl
def J8:Tb Tryz.prog LQ TE XX:=T13.add 13 _ LH
def toP (note:Int):List Dat->Int × Int->Int × Int
 |[],s=>s
 |d::l,s=>toP note l (bif d.i 2 !=note then s else bif d.i 1==3 then(w64 (s.1+d.i 3),s.2)else(s.1,w64 (s.2+d.i 3)))
def toR (note:Int):List Dat->Int × Int->Int × Int
 |[],s=>s
 |r::l,s=>toR note l (toP note (r.d 11) s)
def toV (note:Int) (l:List Dat):Int × Int:=bif decide (note<0)then(0,0)else toR note l (0,0)
def N14:aE:=⟨J8.tab,14,⟨[.int .i64,.ab [.bool,.int .i64,.int .i64,.int .i64,.int .i64,.int .i64,.int .i64,.int .i64,.int .i64,.int .i64,.int .i64,.ab (sI 4),.int .i64,.int .i64,.int .i64,.int .i64,.int .i64,.ab (sI 3),.int .i64]],[],0⟩,⟨[.int .i64,.int .i64],[],0⟩,[]⟩
abbrev Ia:Type:=Int × Int × Int × List Dat × Int × Int × List Dat × Int × Int
abbrev qU:Type:=Int × Int × Int × List Dat × Int × Int
def Cs (m:Nat) (k0:qU->Option (List Un)) (k:Ia->Option (List Un)):Ia->Option (List Un):=fun(a0,a1,a2,a3,a4,a5,a6,a7,a8)=>
 bif decide (a8<a7)then
 chk (inb a8 a6.length)<|
 chk (decide (a8.toNat<a6.length))<|
 lt (af a6 a8.toNat:Dat) fun d2=>
 bif (d2.i 2) !=a0 then
 k (a0,a1,a2,a3,a4,a5,a6,a7,(w64 (a8+1)))
 else
 bif (d2.i 1)==3 then
 k (a0,(w64 (a1+(d2.i 3))),a2,a3,a4,a5,a6,a7,(w64 (a8+1)))
 else
 k (a0,a1,(w64 (a2+(d2.i 3))),a3,a4,a5,a6,a7,(w64 (a8+1)))
 else
 k0 (a0,a1,a2,a3,a4,(w64 (a5+1)))
def zS (m:Nat) (k0:qU->Option (List Un)):Nat->Ia->Option (List Un):=bg (Cs m k0)
theorem vv (m:Nat) (k0:qU->Option (List Un)) (n:Nat):zS m k0 (n+1)=Cs m k0 (zS m k0 n):=rfl
def JA (F:Ia->Option (List Un)):aQ:=⟨[.lp [0,1,1,0,0,1,1,0,0,1,0,1,1],.blk 2,.blk 1,.code [1,1,1,0,0,1,0,1,1],.lp [0,1,0,1,1],.blk 0,.code [1,1,1]],⟨frm 46 [(0,.int .i64),(4,.int .i64),(5,.int .i64),(12,.ab [.bool,.int .i64,.int .i64,.int .i64,.int .i64,.int .i64,.int .i64,.int .i64,.int .i64,.int .i64,.int .i64,.ab (sI 4),.int .i64,.int .i64,.int .i64,.int .i64,.int .i64,.ab (sI 3),.int .i64]),(13,.int .i64),(14,.int .i64),(19,.ab (sI 4)),(20,.int .i64),(21,.int .i64)],[],0⟩,onU F⟩
def A4 (m:Nat) (k:qU->Option (List Un)):qU->Option (List Un):=fun(a0,a1,a2,a3,a4,a5)=>
 bif decide (a5<a4)then
 chk (inb a5 a3.length)<|
 chk (decide (a5.toNat<a3.length))<|
 lt (af a3 a5.toNat:Dat) fun d1=>
 zS m k m (a0,a1,a2,a3,a4,a5,(d1.d 11),((d1.d 11).length:Int),0)
 else
 some ([.i a1,.i a2])
def yg (m:Nat):Nat->qU->Option (List Un):=bg (A4 m)
theorem xy (m:Nat) (n:Nat):yg m (n+1)=A4 m (yg m n):=rfl
def Hb (F:qU->Option (List Un)):aQ:=⟨[.lp [0,1,0,1,1],.blk 0,.code [1,1,1]],⟨frm 46 [(0,.int .i64),(4,.int .i64),(5,.int .i64),(12,.ab [.bool,.int .i64,.int .i64,.int .i64,.int .i64,.int .i64,.int .i64,.int .i64,.int .i64,.int .i64,.int .i64,.ab (sI 4),.int .i64,.int .i64,.int .i64,.int .i64,.int .i64,.ab (sI 3),.int .i64]),(13,.int .i64),(14,.int .i64)],[],0⟩,onU F⟩
theorem UC (m:Nat) (k0:qU->Option (List Un)) (h0:HO N14 (Hb k0)):∀n,HO N14 (JA (zS m k0 n)):=ar ah J8.right (fun k=>[Hb k0,JA k]) (fun k h=>(aH h0 (aH h aA))) fun k a=>by kernel_rfl
theorem Tl (m:Nat):∀n,HO N14 (Hb (yg m n)):=ar ah J8.right (fun k=>[JA (zS m (k) m)]) (fun k h=>(aH (UC m _ h m) aA)) fun k a=>by kernel_rfl
def t14 (m:Nat):Int × List Dat->Option (List Un):=fun(a0,a1)=>
 bif decide (a0<0)then
 some ([.i 0,.i 0])
 else
 yg m m (a0,0,0,a1,(a1.length:Int),0)
theorem Wk (m:Nat) (k0:qU->Option (List Un)) (note:Int) (ab:List Dat) (len i:Int):∀(rest pre:List Dat) (n:Nat) (s:Int × Int),rest.length<n->(pre++rest).length<=1000000->zS m k0 n (note,s.1,s.2,ab,len,i,pre++rest,((pre++rest).length:Int),(pre.length:Int))=k0 (note,(toP note rest s).1,(toP note rest s).2,ab,len,w64 (i+1)):=by
 intro rest
 induction rest with
 |nil=>
  intro pre n s hn hl;obtain⟨n,rfl⟩:=ai n (by simp at hn;omega);rw[vv];unfold Cs;dsimp only;rw[az (by simp)];rfl
 |cons x rest ih=>
  intro pre n s hn hl;obtain⟨n,rfl⟩:=ai n (by simp at hn;omega);simp only[zac,zad]at hn hl;rw[vv];unfold Cs;dsimp only;rw[ba (by simp only[zad,zac];omega),cq (by omega) (by simp only[zad,zac];omega),aI (by simp)];have hx:af (pre++x::rest) (pre.length:Int).toNat=x:=by simp[af]
  have ih:=fun s=>ih (pre++[x]) n s (by omega) (by simp;omega)
  have e:w64 ((pre.length:Int)+1)=((pre++[x]).length:Int):=by
   rw[aa (by omega) (by omega)];simp
  have e3:pre++x::rest=(pre++[x])++rest:=by simp
  rw[hx];dsimp only[lt];rw[e,e3];unfold toP;cases (x.i 2 !=note)with
  |true=>exact ih s
  |false=>
   cases (x.i 1==3)with
   |true=>exact ih (w64 (s.1+x.i 3),s.2)
   |false=>exact ih (s.1,w64 (s.2+x.i 3))
theorem VY (m:Nat) (note:Int):∀(rest pre:List Dat) (n:Nat) (s:Int × Int),rest.length<n->(pre++rest).length<=1000000->(∀r∈rest,(r.d 11).length<=1000000)->1000000<m->yg m n (note,s.1,s.2,pre++rest,((pre++rest).length:Int),(pre.length:Int))=some [.i (toR note rest s).1,.i (toR note rest s).2]:=by
 intro rest
 induction rest with
 |nil=>
  intro pre n s hn hl hr hm;obtain⟨n,rfl⟩:=ai n (by simp at hn;omega);rw[xy];unfold A4;dsimp only;rw[az (by simp)];rfl
 |cons x rest ih=>
  intro pre n s hn hl hr hm;obtain⟨n,rfl⟩:=ai n (by simp at hn;omega);simp only[zac,zad]at hn hl;rw[xy];unfold A4;dsimp only;rw[ba (by simp only[zad,zac];omega),cq (by omega) (by simp only[zad,zac];omega),aI (by simp)];have hx:af (pre++x::rest) (pre.length:Int).toNat=x:=by simp[af]
  have hx1:=hr x (by simp);have ih:=ih (pre++[x]) n (toP note (x.d 11) s) (by omega) (by simp;omega) (fun r h=>hr r (by simp[h])) hm;have e:w64 ((pre.length:Int)+1)=((pre++[x]).length:Int):=by
   rw[aa (by omega) (by omega)];simp
  have e3:pre++x::rest=(pre++[x])++rest:=by simp
  rw[hx];dsimp only[lt];have l1:=Wk m (yg m n) note (pre++x::rest) ((pre++x::rest).length:Int) (pre.length:Int) (x.d 11) [] m s (by omega) (by simpa using hx1);simp only[zaC,zas]at l1;refine Eq.trans l1 ?_
  rw[e,e3];exact ih
def f14:Int × List Dat->Bool × List Un:=fun(a0,a1)=>(decide (a1.length<=1000000)&&a1.all (fun r=>decide ((r.d 11).length<=1000000)),[.i ((toV a0 a1).1),.i ((toV a0 a1).2)])
theorem SE (a0:Int) (a1:List Dat) (hc:(decide (a1.length<=1000000)&&a1.all (fun r=>decide ((r.d 11).length<=1000000)))=true):∃m,t14 m (a0,a1)=some ([.i ((toV a0 a1).1),.i ((toV a0 a1).2)]):=by
 have hc':=hc;simp only[zab,zag,zal]at hc';obtain⟨h1,h2⟩:=hc';refine⟨1000001, ?_⟩;unfold t14 toV;dsimp only;cases decide (a0<0)with
 |true=>rfl
 |false=>exact VY 1000001 a0 a1 [] 1000001 (0,0) (by omega) (by simpa using h1) h2 (by omega)
theorem Nt:ER 14 (mkE N14.en N14.ex f14):=aq ah J8.right (fun m=>[Hb (yg m m)]) (t:=t14) (by kernel_rfl) (fun m=>(aH (Tl m m) aA)) (fun m a=>by kernel_rfl) fun(a0,a1) hc=>SE a0 a1 hc
def T14:Tb Tryz.prog LQ TE XX:=J8.add 14 _ Nt
def L3 (T:ae) (l:List Dat):Bool:= @decide (T=cy et/\l=nh) (Classical.propDecidable _)
theorem Eh {T:ae} {l:List Dat}:L3 T l=true↔T=cy et/\l=nh:=by unfold L3;simp
def TS:Int × List Dat × aw × ax × ao × List Dat × List Dat × List Dat × List Dat × List Dat × List Dat × List Dat->Bool × List Un:=fun(a0,a1,a2,a3,a4,a5,a6,a7,a8,a9,a10,a11)=>(decide (0<=a0)&&L3 (⟨a2,a3,a4,a5,a6,a7,a8,a9,a10,a11⟩:ae) a1,Uns.enc (((⟨false,1,0,40,0,0,0,0,0,0,0⟩:bE)):bE)++Uns.enc (((⟨0,60,0,0,0⟩:bw)):bw)++[.i (0),.i (0)]++Uns.enc (((aJ (cy et) nh).t.a):aw)++Uns.enc (((aJ (cy et) nh).t.b):ax)++Uns.enc (((aJ (cy et) nh).t.n):ao)++[.d ((aJ (cy et) nh).t.aP),.d ((aJ (cy et) nh).t.notes),.d ((aJ (cy et) nh).t.s0),.d ((aJ (cy et) nh).t.s1),.d ((aJ (cy et) nh).t.s2),.d ((aJ (cy et) nh).t.aL),.d ((aJ (cy et) nh).t.tr),.d (([.r [.n 1,.n 7,.n 0,.n 40]]:List Dat)),.d (([.r [.n 60,.n 0,.n 0]]:List Dat))])
theorem KI:ER 11 (mkE N11.en N11.ex TS):=weaken B6 fun(a0,a1,a2,a3,a4,a5,a6,a7,a8,a9,a10,a11) hc=>by
 have hc:(decide (0<=a0)&&L3 (⟨a2,a3,a4,a5,a6,a7,a8,a9,a10,a11⟩:ae) a1)=true:=hc;have h0:=(zar.1 hc).1;obtain⟨e1,e2⟩:=Eh.1 (zar.1 hc).2;have hq:(decide (0<=a0)&&mN (⟨a2,a3,a4,a5,a6,a7,a8,a9,a10,a11⟩:ae))=true:=zar.2 ⟨h0,by rw[e1];exact mH.2 Us⟩;obtain⟨o1,o2,o3,o4,o5,o6⟩:=Jb;refine Prod.ext (hq.trans hc.symm) ?_
 unfold f11 TS;dsimp only;rw[e1,e2,o1,o2,o3,o4,o5,o6]
def Ro:Tb Tryz.prog LQ TE XX:=T14.add 11 _ KI
def N3:aE:=⟨Ro.tab,3,⟨[],[],0⟩,⟨[.bool],[],0⟩,[]⟩
def t3 (m:Nat):Unit->Option (List Un):=fun _=>
 chk (decide (et.aP.length<1000000/\et.notes.length<1000000/\et.s0.length<1000000/\et.s1.length<1000000/\et.s2.length<1000000))<|
 lt (((if (cr et).isSome then 0 else-1):Int):Int) fun x1=>
 bif ((decide (x1<0))&&true)then
 some ([.b false])
 else
 bif ((if (cr et).isSome then 0 else 2):Int) !=0 then
 some ([.b false])
 else
 chk (decide (0<=x1)&&L3 (dI et) ([.r [.n 1,.n 40,.n 0,.n 0,.n 0,.n 0,.n (bI false)]]:List Dat))<|
 lt ((⟨false,1,0,40,0,0,0,0,0,0,0⟩:bE):bE) fun g4=>
 lt ((⟨0,60,0,0,0⟩:bw):bw) fun g5=>
 chk (decide (([.r [.n 1,.n 7,.n 0,.n 40]]:List Dat).length<=1000000)&&decide (([.r [.n 60,.n 0,.n 0]]:List Dat).length<=1000000))<|
 lt ((cH g4 ([.r [.n 1,.n 7,.n 0,.n 40]]:List Dat) g5 ([.r [.n 60,.n 0,.n 0]]:List Dat) 0):List Int) fun l6=>
 chk (decide (l6.length<=1000000))<|
 bd ((bu l6):yr) fun r7=>
 lt (af ([.r [.n 1,.n 7,.n 0,.n 40]]:List Dat) 0:Dat) fun d8=>
 bif (d8.i 2) !=0 then
 chk (decide (([.r [.n 1,.n 7,.n 0,.n 40]]:List Dat).length<=1000000)&&decide (([.r [.n 60,.n 0,.n 0]]:List Dat).length<=1000000))<|
 bif (cu g4 ([.r [.n 1,.n 7,.n 0,.n 40]]:List Dat) g5 ([.r [.n 60,.n 0,.n 0]]:List Dat) 0)then
 bif ((l6.length:Int)==208)then
 bif r7.ok then
 bif r7.ra.call==g4.call then
 bif (r7.ra.period==g4.period)then
 bif r7.ra.mode==g4.mode then
 bif ((r7.ra.ak==g4.ak)&&((r7.ra.bP==g4.bP)&&((r7.ra.aF==g4.aF)&&((r7.ra.aR==g4.aR)&&true))))then
 bif r7.ra.draw==g4.draw then
 bif (r7.ra.advance==g4.advance)then
 bif r7.ra.fee==g4.fee then
 bif r7.ra.due==g4.due then
 chk (decide (r7.aK.length<1099511627776))<|
 bif (dA 4 r7.aK ([.r [.n 1,.n 7,.n 0,.n 40]]:List Dat))then
 bif (r7.rb.bq==g5.bq)then
 bif r7.rb.aL==g5.aL then
 bif (r7.rb.aX==g5.aX)then
 bif r7.rb.out==g5.out then
 bif r7.rb.jl==g5.jl then
 chk (decide (r7.notes.length<1099511627776))<|
 bif (dA 3 r7.notes ([.r [.n 60,.n 0,.n 0]]:List Dat))then
 bif r7.next==0 then
 some ([.b false])
 else
 some ([.b false])
 else
 some ([.b false])
 else
 some ([.b false])
 else
 some ([.b false])
 else
 some ([.b false])
 else
 some ([.b false])
 else
 some ([.b false])
 else
 some ([.b false])
 else
 some ([.b false])
 else
 some ([.b false])
 else
 some ([.b false])
 else
 some ([.b false])
 else
 some ([.b false])
 else
 some ([.b false])
 else
 some ([.b false])
 else
 some ([.b false])
 else
 some ([.b false])
 else
 some ([.b false])
 else
 some ([.b false])
 else
 bif (d8.i 1)==3 then
 chk (decide (([.r [.n 1,.n 7,.n 0,.n 40]]:List Dat).length<=1000000)&&decide (([.r [.n 60,.n 0,.n 0]]:List Dat).length<=1000000))<|
 bif (cu g4 ([.r [.n 1,.n 7,.n 0,.n 40]]:List Dat) g5 ([.r [.n 60,.n 0,.n 0]]:List Dat) 0)then
 bif ((l6.length:Int)==208)then
 bif r7.ok then
 bif r7.ra.call==g4.call then
 bif (r7.ra.period==g4.period)then
 bif r7.ra.mode==g4.mode then
 bif ((r7.ra.ak==g4.ak)&&((r7.ra.bP==g4.bP)&&((r7.ra.aF==g4.aF)&&((r7.ra.aR==g4.aR)&&true))))then
 bif r7.ra.draw==g4.draw then
 bif (r7.ra.advance==g4.advance)then
 bif r7.ra.fee==g4.fee then
 bif r7.ra.due==g4.due then
 chk (decide (r7.aK.length<1099511627776))<|
 bif (dA 4 r7.aK ([.r [.n 1,.n 7,.n 0,.n 40]]:List Dat))then
 bif (r7.rb.bq==g5.bq)then
 bif r7.rb.aL==g5.aL then
 bif (r7.rb.aX==g5.aX)then
 bif r7.rb.out==g5.out then
 bif r7.rb.jl==g5.jl then
 chk (decide (r7.notes.length<1099511627776))<|
 bif (dA 3 r7.notes ([.r [.n 60,.n 0,.n 0]]:List Dat))then
 bif r7.next==0 then
 bif ((w64 (0+(d8.i 3)))==0)then
 some ([.b false])
 else
 some ([.b false])
 else
 some ([.b false])
 else
 some ([.b false])
 else
 some ([.b false])
 else
 some ([.b false])
 else
 some ([.b false])
 else
 some ([.b false])
 else
 some ([.b false])
 else
 some ([.b false])
 else
 some ([.b false])
 else
 some ([.b false])
 else
 some ([.b false])
 else
 some ([.b false])
 else
 some ([.b false])
 else
 some ([.b false])
 else
 some ([.b false])
 else
 some ([.b false])
 else
 some ([.b false])
 else
 some ([.b false])
 else
 some ([.b false])
 else
 chk (decide (([.r [.n 1,.n 7,.n 0,.n 40]]:List Dat).length<=1000000)&&decide (([.r [.n 60,.n 0,.n 0]]:List Dat).length<=1000000))<|
 bif (cu g4 ([.r [.n 1,.n 7,.n 0,.n 40]]:List Dat) g5 ([.r [.n 60,.n 0,.n 0]]:List Dat) 0)then
 bif ((l6.length:Int)==208)then
 bif r7.ok then
 bif r7.ra.call==g4.call then
 bif (r7.ra.period==g4.period)then
 bif r7.ra.mode==g4.mode then
 bif ((r7.ra.ak==g4.ak)&&((r7.ra.bP==g4.bP)&&((r7.ra.aF==g4.aF)&&((r7.ra.aR==g4.aR)&&true))))then
 bif r7.ra.draw==g4.draw then
 bif (r7.ra.advance==g4.advance)then
 bif r7.ra.fee==g4.fee then
 bif r7.ra.due==g4.due then
 chk (decide (r7.aK.length<1099511627776))<|
 bif (dA 4 r7.aK ([.r [.n 1,.n 7,.n 0,.n 40]]:List Dat))then
 bif (r7.rb.bq==g5.bq)then
 bif r7.rb.aL==g5.aL then
 bif (r7.rb.aX==g5.aX)then
 bif r7.rb.out==g5.out then
 bif r7.rb.jl==g5.jl then
 chk (decide (r7.notes.length<1099511627776))<|
 bif (dA 3 r7.notes ([.r [.n 60,.n 0,.n 0]]:List Dat))then
 bif r7.next==0 then
 some ([.b ((w64 (0+(d8.i 3)))==40)])
 else
 some ([.b false])
 else
 some ([.b false])
 else
 some ([.b false])
 else
 some ([.b false])
 else
 some ([.b false])
 else
 some ([.b false])
 else
 some ([.b false])
 else
 some ([.b false])
 else
 some ([.b false])
 else
 some ([.b false])
 else
 some ([.b false])
 else
 some ([.b false])
 else
 some ([.b false])
 else
 some ([.b false])
 else
 some ([.b false])
 else
 some ([.b false])
 else
 some ([.b false])
 else
 some ([.b false])
 else
 some ([.b false])
def f3:Unit->Bool × List Un:=fun _=>(true,[.b (true)])
theorem TW:∃m,t3 m ()=some ([.b (true)]):=by
 refine⟨0, ?_⟩;unfold t3;dsimp only[lt];refine aV (by kernel_rfl) ?_
 refine jE (by kernel_rfl) (jE (by kernel_rfl) (aV (zar.2 ⟨by kernel_rfl,Eh.2 ⟨La,rfl⟩⟩) ?_))
 kernel_rfl
theorem RL:ER 3 (mkE N3.en N3.ex f3):=aq ah Ro.right (fun m=>[]) (t:=t3) (by kernel_rfl) (fun m=>aA) (fun m a=>by kernel_rfl) fun _ hc=>TW
def T3:Tb Tryz.prog LQ TE XX:=Ro.add 3 _ RL
theorem Ox (a c:Nat) (h:c<256):(256*a)|||c=256*a+c:=by
 have:=Nat.two_pow_add_eq_or_of_lt (i:=8) (b:=c) (by simpa using h) a;simpa using this.symm
theorem fS (n c:Int) (h0:0<=c) (h1:c<256):Iw.stp n c=RowKit.wrap64 (n*256+c):=by
 unfold Iw.stp Go.bits;simp only[RowKit.wrap64];rw[IntKind.wrap_i64,BitVec.toNat_or,zb4,zb4];rw[show((2^IntKind.i64.bits:Nat):Int)=18446744073709551616 from rfl];have e1:(((n*256+9223372036854775808)%18446744073709551616-9223372036854775808)%18446744073709551616).toNat=256*(n%72057594037927936).toNat:=by omega
 have e2:(((c+9223372036854775808)%18446744073709551616-9223372036854775808)%18446744073709551616).toNat=c.toNat:=by omega
 rw[e1,e2,Ox _ _ (by omega)];omega
theorem LB {n:Int} (h: -9223372036854775808<=n/\n<=9223372036854775807) (f:Nat->Int) (hf:∀i,i<8->f i=(nf n).getD i 0):Iw.val f 8=n:=by
 have b0:=hf 0 (by decide);have b1:=hf 1 (by decide);have b2:=hf 2 (by decide);have b3:=hf 3 (by decide);have b4:=hf 4 (by decide);have b5:=hf 5 (by decide);have b6:=hf 6 (by decide);have b7:=hf 7 (by decide);simp only[nf,zaQ,zaE]at b0 b1 b2 b3 b4 b5 b6 b7;have u8:∀x:Int,wu8 x=x%256:=fun x=>by show IntKind.u8.wrap x=_;simp[IntKind.wrap,IntKind.bits,IntKind.signed]
 rw[u8]at b0 b1 b2 b3 b4 b5 b6 b7;have fd:∀(x k:Int),0<k->Int.fdiv x k=x/k:=fun x k hk=>Int.fdiv_eq_ediv_of_nonneg _ (by omega)
 rw[fd _ _ (by decide)]at b0 b1 b2 b3 b4 b5 b6 b7;simp only[Iw.val,b0,b1,b2,b3,b4,b5,b6,b7];rw[fS _ _ (by omega) (by omega),fS _ _ (by omega) (by omega),fS _ _ (by omega) (by omega),fS _ _ (by omega) (by omega),fS _ _ (by omega) (by omega),fS _ _ (by omega) (by omega),fS _ _ (by omega) (by omega),fS _ _ (by omega) (by omega)];simp only[RowKit.wrap64];omega
theorem oY (n:Int):(nf n).length=8:=rfl
theorem mX (l:List Int):(cR l).length=8*l.length:=by
 induction l with
 |nil=>rfl
 |cons x l ih=>simp only[cR,zbG,zad,oY,zac]at ih⊢;omega
theorem sy:∀(l:List Int) (k i:Nat),k<l.length->i<8->(cR l).getD (k*8+i) 0=(nf (l.getD k 0)).getD i 0
 |[],k,i,h,_=>by simp at h
 |x::l,0,i,_,hi=>by
  simp only[cR,zbG,zb5,zaI,zaf,zbl,zbw];rw[zaw (by rw[oY];exact hi)]
 |x::l,k+1,i,h,hi=>by
  have:=sy l k i (by simpa using h) hi;simp only[cR,zbG,zaE,zaf]at this⊢;rw[zaJ (by rw[oY];omega),oY,show(k+1)*8+i-8=k*8+i by omega];exact this
theorem II {l:List Int} (h:∀n∈l,-9223372036854775808<=n/\n<=9223372036854775807):cW (cR l)=l:=by
 have hl:(cR l).length/8=l.length:=by rw[mX];omega
 apply List.ext_getElem
 . rw[sP,hl]
 . intro k h1 h2;have e0:(cW (cR l))[k]=Iw.val (fun i=>(cR l).getD (k*8+i) 0) 8:=by simp[cW]
   rw[e0];have e:=LB (h l[k] (zbn h2)) (fun i=>(cR l).getD (k*8+i) 0) (fun i hi=>by
    show(cR l).getD (k*8+i) 0=_;rw[sy l k i h2 hi];simp[h2])
   exact e
def rdS (l:List Int) (k:Nat) (v:Int):RdR:=⟨v,(k:Int),((l.length-k:Nat):Int),false,l⟩
theorem yv {l:List Int} {k:Nat} (v:Int) (h:k<l.length):nx (rdS l k v)=rdS l (k+1) (l.getD k 0):=by
 unfold nx rdN rdS;have e:(((((l.length-k:Nat):Int).toNat:Nat):Int)==0)=false:=by
  rw[zbD];simp;omega
 rw[zck,e,zao];simp only[zaz];rw[show l.length-k-1=l.length-(k+1) by omega]
theorem Tg {l:List Int} {k:Nat} (v most:Int) (h:k<l.length) (h0:0<=l.getD k 0) (h1:l.getD k 0<=most):mx (rdS l k v) most=rdS l (k+1) (l.getD k 0):=by
 have:=yv v h;unfold nx at this;unfold mx rdM;dsimp only;rw[this];rw[show(rdS l (k+1) (l.getD k 0)).v=l.getD k 0 from rfl,zaH (show ¬l.getD k 0<0 by omega),zaH (show ¬l.getD k 0>most by omega)];rfl
def nrP (d:Dat):Dat:= .r [.n (d.i 0),.n (d.i 1),.n (d.i 2),.n (d.i 3)]
def nrN (d:Dat):Dat:= .r [.n (d.i 0),.n (d.i 1),.n (d.i 2)]
theorem bL (A:List Int) (x:Int) (B:List Int):(A++x::B).getD A.length 0=x:=by simp
theorem HE (l:List Int):∀(aK:List Dat) (A B:List Int) (v:Int),l=A++(aK.flatMap gP++B)->∃v',fP aK.length (rdS l A.length v)=(aK.map nrP,rdS l (A.length+4*aK.length) v')
 |[],A,B,v,_=>⟨v,rfl⟩
 |d::aK,A,B,v,h=>by
  have hl:l=A++(d.i 0::d.i 1::d.i 2::d.i 3::(aK.flatMap gP++B)):=by rw[h];simp[gP]
  have hlen:l.length=A.length+4+(aK.flatMap gP++B).length:=by rw[hl];simp only[zad,zac];omega
  have g0:l.getD A.length 0=d.i 0:=by rw[hl];exact bL _ _ _
  have g1:l.getD (A.length+1) 0=d.i 1:=by
   rw[hl,show A++(d.i 0::d.i 1::d.i 2::d.i 3::(aK.flatMap gP++B))=(A++[d.i 0])++(d.i 1::d.i 2::d.i 3::(aK.flatMap gP++B)) by simp];rw[show A.length+1=(A++[d.i 0]).length by simp];exact bL _ _ _
  have g2:l.getD (A.length+1+1) 0=d.i 2:=by
   rw[hl,show A++(d.i 0::d.i 1::d.i 2::d.i 3::(aK.flatMap gP++B))=(A++[d.i 0,d.i 1])++(d.i 2::d.i 3::(aK.flatMap gP++B)) by simp];rw[show A.length+1+1=(A++[d.i 0,d.i 1]).length by simp];exact bL _ _ _
  have g3:l.getD (A.length+1+1+1) 0=d.i 3:=by
   rw[hl,show A++(d.i 0::d.i 1::d.i 2::d.i 3::(aK.flatMap gP++B))=(A++[d.i 0,d.i 1,d.i 2])++(d.i 3::(aK.flatMap gP++B)) by simp];rw[show A.length+1+1+1=(A++[d.i 0,d.i 1,d.i 2]).length by simp];exact bL _ _ _
  obtain⟨v',ih⟩:=HE l aK (A++gP d) B (d.i 3) (by rw[h];simp);rw[show(A++gP d).length=A.length+1+1+1+1 by simp[gP]]at ih;refine⟨v', ?_⟩;simp only[zac,fP];rw[yv v (by omega),g0,yv _ (by omega),g1,yv _ (by omega),g2,yv _ (by omega),g3,ih];simp only[zaV,nrP];rw[show A.length+1+1+1+1+4*aK.length=A.length+4*(aK.length+1) by omega];rfl
theorem HP (l:List Int):∀(ns:List Dat) (A B:List Int) (v:Int),l=A++(ns.flatMap jB++B)->∃v',fi ns.length (rdS l A.length v)=(ns.map nrN,rdS l (A.length+3*ns.length) v')
 |[],A,B,v,_=>⟨v,rfl⟩
 |d::ns,A,B,v,h=>by
  have hl:l=A++(d.i 0::d.i 1::d.i 2::(ns.flatMap jB++B)):=by rw[h];simp[jB]
  have hlen:l.length=A.length+3+(ns.flatMap jB++B).length:=by rw[hl];simp only[zad,zac];omega
  have g0:l.getD A.length 0=d.i 0:=by rw[hl];exact bL _ _ _
  have g1:l.getD (A.length+1) 0=d.i 1:=by
   rw[hl,show A++(d.i 0::d.i 1::d.i 2::(ns.flatMap jB++B))=(A++[d.i 0])++(d.i 1::d.i 2::(ns.flatMap jB++B)) by simp];rw[show A.length+1=(A++[d.i 0]).length by simp];exact bL _ _ _
  have g2:l.getD (A.length+1+1) 0=d.i 2:=by
   rw[hl,show A++(d.i 0::d.i 1::d.i 2::(ns.flatMap jB++B))=(A++[d.i 0,d.i 1])++(d.i 2::(ns.flatMap jB++B)) by simp];rw[show A.length+1+1=(A++[d.i 0,d.i 1]).length by simp];exact bL _ _ _
  obtain⟨v',ih⟩:=HP l ns (A++jB d) B (d.i 2) (by rw[h];simp);rw[show(A++jB d).length=A.length+1+1+1 by simp[jB]]at ih;refine⟨v', ?_⟩;simp only[zac,fi];rw[yv v (by omega),g0,yv _ (by omega),g1,yv _ (by omega),g2,ih];simp only[zaV,nrN];rw[show A.length+1+1+1+3*ns.length=A.length+3*(ns.length+1) by omega];rfl
theorem Dl {ra:bE} {aK:List Dat} {rb:bw} {notes:List Dat} {next:Int} (hr:cu ra aK rb notes next=true):dE (jQ ra aK rb notes next)=⟨ra,rb,next,true,aK.map nrP,notes.map nrN⟩:=by
 have hb:aK.length<=160/\notes.length<=8:=by
  unfold cu at hr;simp only[zab,zag]at hr;omega
 generalize hl:jQ ra aK rb notes next=l;have hlen:l.length=18+(4*aK.length+(1+3*notes.length)):=by
  have h1:∀p:List Dat,(p.flatMap gP).length=4*p.length:=fun p=>by
   induction p with
   |nil=>rfl
   |cons x p ih=>simp only[zbG,zad,ih,gP,zac,zas];omega
  have h2:∀p:List Dat,(p.flatMap jB).length=3*p.length:=fun p=>by
   induction p with
   |nil=>rfl
   |cons x p ih=>simp only[zbG,zad,ih,jB,zac,zas];omega
  rw[<-hl];simp only[jQ,kJ,zad,zac,zas,h1,h2];omega
 have s0:(⟨0,0,(l.length:Int),false,l⟩:RdR)=rdS l 0 0:=rfl;have hd:∀i,i<18->l.getD i 0=(kJ ra aK rb next).getD i 0:=fun i hi=>by
  rw[<-hl];unfold jQ;simp only[zaf];rw[zaw (by simpa[kJ]using hi)]
 have m1:rdM 0 (l.length:Int) false l 1=rdS l 1 (bI ra.call):=by
  have e:l.getD 0 0=bI ra.call:=hd 0 (by omega);have:=Tg (l:=l) (k:=0) 0 1 (by omega) (by rw[e];cases ra.call<;>decide) (by rw[e];cases ra.call<;>decide);rw[e]at this;exact this
 have nxk:∀(k:Nat) (v:Int),k<18->nx (rdS l k v)=rdS l (k+1) ((kJ ra aK rb next).getD k 0):=fun k v hk=>by rw[yv v (by omega),hd k hk]
 have m18:mx (rdS l 17 next) 160=rdS l 18 (aK.length:Int):=by
  have e:l.getD 17 0=(aK.length:Int):=hd 17 (by omega);have:=Tg (l:=l) (k:=17) next 160 (by omega) (by rw[e];omega) (by rw[e];omega)
  rwa [e]at this
 have h1:∀p:List Dat,(p.flatMap gP).length=4*p.length:=fun p=>by
  induction p with
  |nil=>rfl
  |cons x p ih=>simp only[zbG,zad,ih,gP,zac,zas];omega
 obtain⟨v1,p1⟩:=HE l aK (kJ ra aK rb next) ((notes.length:Int)::notes.flatMap jB) (aK.length:Int) hl.symm;have p1:fP aK.length (rdS l 18 (aK.length:Int))=(aK.map nrP,rdS l (18+4*aK.length) v1):=p1;have hA:(kJ ra aK rb next++aK.flatMap gP).length=18+4*aK.length:=by rw[zad,h1];rfl
 have m24:mx (rdS l (18+4*aK.length) v1) 8=rdS l (18+4*aK.length+1) (notes.length:Int):=by
  have e:l.getD (18+4*aK.length) 0=(notes.length:Int):=by
   rw[<-hl];unfold jQ;rw[show kJ ra aK rb next++(aK.flatMap gP++(notes.length:Int)::notes.flatMap jB)=(kJ ra aK rb next++aK.flatMap gP)++(notes.length:Int)::notes.flatMap jB by simp,<-hA];exact bL _ _ _
  have:=Tg (l:=l) (k:=18+4*aK.length) v1 8 (by omega) (by rw[e];omega) (by rw[e];omega)
  rwa [e]at this
 obtain⟨v2,p2⟩:=HP l notes (kJ ra aK rb next++aK.flatMap gP++[(notes.length:Int)]) [] (notes.length:Int) (by rw[<-hl];simp[jQ]);rw[zad,hA]at p2;have p2:fi notes.length (rdS l (18+4*aK.length+1) (notes.length:Int))=(notes.map nrN,rdS l (18+4*aK.length+1+3*notes.length) v2):=p2;have key:bU 0 (l.length:Int) false l=⟨ra,rb,next,aK.map nrP,notes.map nrN,rdS l (18+4*aK.length+1+3*notes.length) v2⟩:=by
  unfold bU zg;dsimp only;rw[m1];simp(disch:=omega) only[nxk,Nat.reduceAdd];rw[show(kJ ra aK rb next).getD 16 0=next from rfl,m18];rw[show(rdS l 18 (aK.length:Int)).v.toNat=aK.length from rfl,p1];dsimp only;rw[m24];rw[show(rdS l (18+4*aK.length+1) (notes.length:Int)).v.toNat=notes.length from rfl,p2];have hc:((rdS l 1 (bI ra.call)).v==1)=ra.call:=by cases h:ra.call<;>simp[rdS,bI,h]
  rw[hc];rfl
 have hq:∀d:Dat,(nrP d).i 0=d.i 0/\(nrP d).i 1=d.i 1/\(nrP d).i 2=d.i 2/\(nrP d).i 3=d.i 3:=fun d=>⟨rfl,rfl,rfl,rfl⟩
 have hr2:cu ra (aK.map nrP) rb (notes.map nrN) next=true:=by
  unfold cu at hr⊢;have a1:(aK.map nrP).all tS=aK.all tS:=by
   rw[List.all_map];rfl
  have a2:(notes.map nrN).all qL=notes.all qL:=by
   rw[List.all_map];rfl
  rw[zaR,zaR,a1,a2];exact hr
 unfold dE;rw[key];dsimp only;have hn:(rdS l (18+4*aK.length+1+3*notes.length) v2).n=0:=by
  show((l.length-(18+4*aK.length+1+3*notes.length):Nat):Int)=0;omega
 rw[hn,hr2];rfl
def wI (a0:bE) (a1:List Dat) (a2:bw) (a3:List Dat) (a4:Int) (a5:bE) (a6:List Dat) (a7:bw) (a8:List Dat) (a9:Int):Bool:=
 (a0.call==a5.call)&&((a0.period==a5.period)&&((a0.mode==a5.mode)&&(((a0.ak==a5.ak)&&((a0.bP==a5.bP)&&((a0.aF==a5.aF)&&((a0.aR==a5.aR)&&true))))&&((a0.draw==a5.draw)&&((a0.advance==a5.advance)&&((a0.fee==a5.fee)&&((a0.due==a5.due)&&((dA 4 a1 a6)&&((a2.bq==a7.bq)&&((a2.aL==a7.aL)&&((a2.aX==a7.aX)&&((a2.out==a7.out)&&((a2.jl==a7.jl)&&((dA 3 a3 a8)&&(a4==a9)))))))))))))))
def N16:aE:=⟨T3.tab,16,⟨[.agg [.bool,.int .i64,.int .i64,.int .i64,.int .i64,.int .i64,.int .i64,.int .i64,.int .i64,.int .i64,.int .i64,.ab (sI 4),.int .i64,.int .i64,.int .i64,.int .i64,.int .i64,.ab (sI 3),.int .i64],.agg [.bool,.int .i64,.int .i64,.int .i64,.int .i64,.int .i64,.int .i64,.int .i64,.int .i64,.int .i64,.int .i64,.ab (sI 4),.int .i64,.int .i64,.int .i64,.int .i64,.int .i64,.ab (sI 3),.int .i64]],[],0⟩,⟨[.bool],[],0⟩,[]⟩
def t16 (m:Nat):bE × List Dat × bw × List Dat × Int × bE × List Dat × bw × List Dat × Int->Option (List Un):=fun(a0,a1,a2,a3,a4,a5,a6,a7,a8,a9)=>
 bif a0.call==a5.call then
 bif a0.period==a5.period then
 bif a0.mode==a5.mode then
 bif ((a0.ak==a5.ak)&&((a0.bP==a5.bP)&&((a0.aF==a5.aF)&&((a0.aR==a5.aR)&&true))))then
 bif a0.draw==a5.draw then
 bif (a0.advance==a5.advance)then
 bif a0.fee==a5.fee then
 bif a0.due==a5.due then
 chk (decide (a1.length<1099511627776))<|
 bif (dA 4 a1 a6)then
 bif (a2.bq==a7.bq)then
 bif a2.aL==a7.aL then
 bif (a2.aX==a7.aX)then
 bif a2.out==a7.out then
 bif a2.jl==a7.jl then
 chk (decide (a3.length<1099511627776))<|
 bif (dA 3 a3 a8)then
 some ([.b (a4==a9)])
 else
 some ([.b false])
 else
 some ([.b false])
 else
 some ([.b false])
 else
 some ([.b false])
 else
 some ([.b false])
 else
 some ([.b false])
 else
 some ([.b false])
 else
 some ([.b false])
 else
 some ([.b false])
 else
 some ([.b false])
 else
 some ([.b false])
 else
 some ([.b false])
 else
 some ([.b false])
 else
 some ([.b false])
 else
 some ([.b false])
def f16:bE × List Dat × bw × List Dat × Int × bE × List Dat × bw × List Dat × Int->Bool × List Un:=fun(a0,a1,a2,a3,a4,a5,a6,a7,a8,a9)=>(decide (a1.length<1099511627776)&&decide (a3.length<1099511627776),[.b (wI a0 a1 a2 a3 a4 a5 a6 a7 a8 a9)])
theorem Rx (a0:bE) (a1:List Dat) (a2:bw) (a3:List Dat) (a4:Int) (a5:bE) (a6:List Dat) (a7:bw) (a8:List Dat) (a9:Int) (hc:(decide (a1.length<1099511627776)&&decide (a3.length<1099511627776))=true):∃m,t16 m (a0,a1,a2,a3,a4,a5,a6,a7,a8,a9)=some ([.b (wI a0 a1 a2 a3 a4 a5 a6 a7 a8 a9)]):=by
 have hc':=hc;simp only[zab,zag]at hc';obtain⟨h1,h2⟩:=hc';refine⟨0, ?_⟩;unfold t16;dsimp only;rw[zae h1,zae h2];simp only[chk,zau,mS,wI]
theorem NK:ER 16 (mkE N16.en N16.ex f16):=aq ah T3.right (fun m=>[]) (t:=t16) (by kernel_rfl) (fun m=>aA) (fun m a=>by kernel_rfl) fun(a0,a1,a2,a3,a4,a5,a6,a7,a8,a9) hc=>Rx a0 a1 a2 a3 a4 a5 a6 a7 a8 a9 hc
def T16:Tb Tryz.prog LQ TE XX:=T3.add 16 _ NK
theorem xU:∀(a b:List Dat),dA 4 a b=true↔a.map nrP=b.map nrP
 |[],[]=>by simp[dA]
 |[],_::_=>by simp[dA]
 |_::_,[]=>by simp[dA]
 |x::a,y::b=>by
  have ih:=xU a b;simp only[dA,zab,ih,zaV,List.cons.injEq];refine and_congr_left fun _=> ?_
  simp[xY,nrP]
theorem vw:∀(a b:List Dat),dA 3 a b=true↔a.map nrN=b.map nrN
 |[],[]=>by simp[dA]
 |[],_::_=>by simp[dA]
 |_::_,[]=>by simp[dA]
 |x::a,y::b=>by
  have ih:=vw a b;simp only[dA,zab,ih,zaV,List.cons.injEq];refine and_congr_left fun _=> ?_
  simp[xY,nrN]
theorem sC:∀(a b:List Int),iC a b=true↔a=b
 |[],[]=>by simp[iC]
 |[],_::_=>by simp[iC]
 |_::_,[]=>by simp[iC]
 |x::a,y::b=>by
  have ih:=sC a b;simp only[iC,zab,ih,zay,List.cons.injEq]
theorem IB {a0:bE} {a1:List Dat} {a2:bw} {a3:List Dat} {a4:Int} {a5:bE} {a6:List Dat} {a7:bw} {a8:List Dat} {a9:Int}:wI a0 a1 a2 a3 a4 a5 a6 a7 a8 a9=true↔(a0=a5/\a1.map nrP=a6.map nrP/\a2=a7/\a3.map nrN=a8.map nrN/\a4=a9):=by
 unfold wI;simp only[zab,zay,xU,vw];constructor
 . rintro⟨h1,h2,h3,⟨h4,h5,h6,h7,_⟩,h8,h9,h10,h11,h12,h13,h14,h15,h16,h17,h18,h19⟩
   exact⟨bE.ext h1 h2 h3 h4 h5 h6 h7 h8 h9 h10 h11,h12,bw.ext h13 h14 h15 h16 h17,h18,h19⟩
 . rintro⟨rfl,h12,rfl,h18,rfl⟩
   exact⟨rfl,rfl,rfl,⟨rfl,rfl,rfl,rfl,trivial⟩,rfl,rfl,rfl,rfl,h12,rfl,rfl,rfl,rfl,rfl,h18,rfl⟩
theorem Ga {ra:bE} {aK:List Dat} {rb:bw} {notes:List Dat} {next:Int} (hr:cu ra aK rb notes next=true):∀n∈jQ ra aK rb notes next,-9223372036854775808<=n/\n<=9223372036854775807:=by
 unfold cu qC at hr;simp only[zcl,List.all_nil,uf,zab,zag,zal]at hr;obtain⟨h1,h2,h3,h4,h5,h6,⟨q1,q2,q3,q4,q5,q6,q7,q8,q9,q10,q11,q12,q13,_⟩,h8,h9,h10,h11⟩:=hr;have hb:0<=bI ra.call/\bI ra.call<=1:=by cases ra.call<;>decide
 intro n hn;unfold jQ kJ at hn;simp only[zbp,zaY,List.mem_flatMap,zcf,or_false]at hn;rcases hn with(rfl|rfl|rfl|rfl|rfl|rfl|rfl|rfl|rfl|rfl|rfl|rfl|rfl|rfl|rfl|rfl|rfl|rfl)|⟨d,hd,hn⟩|rfl|⟨d,hd,hn⟩
 all_goals try omega
 . have hp:=h10 d hd;unfold tS at hp;simp only[zab,zag]at hp;simp only[gP,zaY,zcf,or_false]at hn;rcases hn with rfl|rfl|rfl|rfl<;>omega
 . have hp:=h11 d hd;unfold qL at hp;simp only[zcl,List.all_nil,uf,zab,zag]at hp;simp only[jB,zaY,zcf,or_false]at hn;rcases hn with rfl|rfl|rfl<;>omega
theorem decode_encode {ra:bE} {aK:List Dat} {rb:bw} {notes:List Dat} {next:Int} (hr:cu ra aK rb notes next=true):bu (cH ra aK rb notes next)=⟨ra,rb,next,true,aK.map nrP,notes.map nrN⟩:=by
 unfold cH;rw[hr,zau];unfold bu;have hl:=mX (jQ ra aK rb notes next);have e:((cR (jQ ra aK rb notes next)).length%8==0)=true:=by rw[zay];omega
 rw[e,zau,II (Ga hr)];exact Dl hr
theorem DG:bu []=qV:=by kernel_rfl
theorem FU {ra:bE} {aK:List Dat} {rb:bw} {notes:List Dat} {next:Int} (hr:cu ra aK rb notes next=false):cH ra aK rb notes next=[]:=by unfold cH;rw[hr];rfl
theorem qi {ra:bE} {aK:List Dat} {rb:bw} {notes:List Dat} {next:Int} (hr:cu ra aK rb notes next=true):0<(cH ra aK rb notes next).length/\(cH ra aK rb notes next).length<=6000:=by
 have hb:aK.length<=160/\notes.length<=8:=by
  unfold cu at hr;simp only[zab,zag]at hr;omega
 unfold cH;rw[hr,zau,mX];have h1:∀p:List Dat,(p.flatMap gP).length=4*p.length:=fun p=>by
  induction p with
  |nil=>rfl
  |cons x p ih=>simp only[zbG,zad,ih,gP,zac,zas];omega
 have h2:∀p:List Dat,(p.flatMap jB).length=3*p.length:=fun p=>by
  induction p with
  |nil=>rfl
  |cons x p ih=>simp only[zbG,zad,ih,jB,zac,zas];omega
 simp only[jQ,kJ,zad,zac,zas,h1,h2];omega
theorem EF {ra:bE} {aK:List Dat} {rb:bw} {notes:List Dat} {next:Int} (hr:cu ra aK rb notes next=true):0<(cH ra aK rb notes next).length/\(cH ra aK rb notes next).length<=1000000:=by
 have:=qi hr;omega
theorem RZ (l:List Dat):(l.map nrP).map nrP=l.map nrP:=by rw[zcg];rfl
theorem S5 (l:List Dat):(l.map nrN).map nrN=l.map nrN:=by rw[zcg];rfl
def N23:aE:=⟨T16.tab,23,⟨[.ints .u8,.int .u8],[],0⟩,⟨[.buf 0 1],[.ints .u8],0⟩,[]⟩
abbrev Hj:Type:=Int × Int × List Int
def Bo (m:Nat) (k:Hj->Option (List Un)):Hj->Option (List Un):=fun(a0,a1,a2)=>
 bif (decide (a1<(a2.length:Int)))then
 chk (inb a1 a2.length)<|
 chk (decide (a1.toNat<a2.length))<|
 k (a0,(w64 (a1+1)),(List.set a2 a1.toNat a0))
 else
 some ([.l a2])
def zk (m:Nat):Nat->Hj->Option (List Un):=bg (Bo m)
theorem yd (m:Nat) (n:Nat):zk m (n+1)=Bo m (zk m n):=rfl
def L0 (F:Hj->Option (List Un)):aQ:=⟨[.lp [0,1,0,1,1,1],.blk 0,.code [1,1,1,1]],⟨frm 27 [(1,.int .u8),(5,.buf 0 1),(6,.int .i64)],[.ints .u8],0⟩,onU F⟩
theorem TG (m:Nat):∀n,HO N23 (L0 (zk m n)):=ar ah T16.right (fun k=>[L0 k]) (fun k h=>(aH h aA)) fun k a=>by kernel_rfl
def t23 (m:Nat):List Int × Int->Option (List Un):=fun(a0,a1)=>
 lt ((w64 ((a0.length:Int)+80)):Int) fun x1=>
 chk (lB x1 1)<|
 lt ((List.replicate x1.toNat 0):List Int) fun l2=>
 zk m m (a1,(a0.length:Int),(List.take (min a0.length l2.length) a0++List.drop (min a0.length l2.length) l2))
theorem Rf (m:Nat) (mark:Int):∀(rest pre:List Int) (n:Nat),rest.length<n->(pre++rest).length<=2000000->zk m n (mark,(pre.length:Int),pre++rest)=some [.l (pre++List.replicate rest.length mark)]:=by
 intro rest
 induction rest with
 |nil=>
  intro pre n hn hl;obtain⟨n,rfl⟩:=ai n (by simp at hn;omega);rw[yd];unfold Bo;dsimp only;rw[az (by simp)];simp
 |cons x rest ih=>
  intro pre n hn hl;obtain⟨n,rfl⟩:=ai n (by simp at hn;omega);simp only[zac,zad]at hn hl;rw[yd];unfold Bo;dsimp only;rw[ba (by simp only[zad,zac];omega),cq (by omega) (by simp only[zad,zac];omega),aI (by simp)];have:=ih (pre++[mark]) n (by omega) (by simp;omega);have e:w64 ((pre.length:Int)+1)=((pre++[mark]).length:Int):=by
   rw[aa (by omega) (by omega)];simp
  have e2:List.set (pre++x::rest) (pre.length:Int).toNat mark=(pre++[mark])++rest:=by simp
  rw[e,e2,this];simp[zbu]
def f23:List Int × Int->Bool × List Un:=fun(a0,a1)=>(decide (a0.length<=1000000),[.l (a0++List.replicate 80 a1)])
theorem SL (a0:List Int) (a1:Int) (hc:(decide (a0.length<=1000000))=true):∃m,t23 m (a0,a1)=some ([.l (a0++List.replicate 80 a1)]):=by
 have hl:=zaj hc;refine⟨100, ?_⟩;unfold t23;dsimp only[lt];have e:w64 ((a0.length:Int)+80)=((a0.length+80:Nat):Int):=by rw[aa (by omega) (by omega)];simp
 rw[e,zaz];refine aV (zae (by omega)) ?_
 rw[List.length_replicate,zbM (by omega),List.take_length,List.drop_replicate,Nat.add_sub_cancel_left];have:=Rf 100 a1 (List.replicate 80 0) a0 100 (by simp) (by simp;omega);rw[List.length_replicate]at this;exact this
theorem Nm:ER 23 (mkE N23.en N23.ex f23):=aq ah T16.right (fun m=>[L0 (zk m m)]) (t:=t23) (by kernel_rfl) (fun m=>(aH (TG m m) aA)) (fun m a=>by kernel_rfl) fun(a0,a1) hc=>SL a0 a1 hc
def T23:Tb Tryz.prog LQ TE XX:=T16.add 23 _ Nm
def oO (full was:List Int) (mark:Int):Bool:=bif full.length==was.length+80 then iC (full.take was.length) was&&(full.drop was.length).all (fun x=>x==mark)else false
def N24:aE:=⟨T23.tab,24,⟨[.ints .u8,.ints .u8,.int .u8],[],0⟩,⟨[.bool],[],0⟩,[]⟩
abbrev Ic:Type:=List Int × Int × Int
def Cf (m:Nat) (k:Ic->Option (List Un)):Ic->Option (List Un):=fun(a0,a1,a2)=>
 bif (decide (a2<(a0.length:Int)))then
 chk (inb a2 a0.length)<|
 chk (decide (a2.toNat<a0.length))<|
 bif ((a0.getD a2.toNat 0) !=a1)then
 some ([.b false])
 else
 k (a0,a1,(w64 (a2+1)))
 else
 some ([.b true])
def yX (m:Nat):Nat->Ic->Option (List Un):=bg (Cf m)
theorem vz (m:Nat) (n:Nat):yX m (n+1)=Cf m (yX m n):=rfl
def KG (F:Ic->Option (List Un)):aQ:=⟨[.lp [0,1,0,1,1],.blk 0,.code [1,1,1]],⟨frm 37 [(0,.ints .u8),(2,.int .u8),(7,.int .i64)],[],0⟩,onU F⟩
theorem Tq (m:Nat):∀n,HO N24 (KG (yX m n)):=ar ah T23.right (fun k=>[KG k]) (fun k h=>(aH h aA)) fun k a=>by kernel_rfl
def t24 (m:Nat):List Int × List Int × Int->Option (List Un):=fun(a0,a1,a2)=>
 bif (a0.length:Int) !=(w64 ((a1.length:Int)+80))then
 some ([.b false])
 else
 chk (decide (0<=(a1.length:Int))&&(true&&decide (0<=a1.length/\a1.length<=a0.length)))<|
 lt ((List.take a1.length a0):List Int) fun l2=>
 chk (decide (l2.length<1099511627776))<|
 bif !(iC l2 a1)then
 some ([.b false])
 else
 yX m m (a0,a2,(a1.length:Int))
theorem Mr (m:Nat) (mark:Int):∀(rest pre:List Int) (n:Nat),rest.length<n->(pre++rest).length<=2000000->yX m n (pre++rest,mark,(pre.length:Int))=some [.b (rest.all (fun x=>x==mark))]:=by
 intro rest
 induction rest with
 |nil=>
  intro pre n hn hl;obtain⟨n,rfl⟩:=ai n (by simp at hn;omega);rw[vz];unfold Cf;dsimp only;rw[az (by simp)];rfl
 |cons x rest ih=>
  intro pre n hn hl;obtain⟨n,rfl⟩:=ai n (by simp at hn;omega);simp only[zac,zad]at hn hl;rw[vz];unfold Cf;dsimp only;rw[ba (by simp only[zad,zac];omega),cq (by omega) (by simp only[zad,zac];omega),aI (by simp)];have hx:(pre++x::rest).getD (pre.length:Int).toNat 0=x:=by simp
  rw[hx];have:=ih (pre++[x]) n (by omega) (by simp;omega);have e:w64 ((pre.length:Int)+1)=((pre++[x]).length:Int):=by
   rw[aa (by omega) (by omega)];simp
  rw[zcl];cases hm:(x==mark)with
  |false=>exact tP (by rw[bne,hm];rfl) (by simp)
  |true=>
   refine jE (by rw[bne,hm];rfl) ?_
   rw[e,show pre++x::rest=(pre++[x])++rest by simp,this];simp
def f24:List Int × List Int × Int->Bool × List Un:=fun(a0,a1,a2)=>(decide (a0.length<=2000000)&&decide (a1.length<=1000000),[.b (oO a0 a1 a2)])
theorem Qw (a0:List Int) (a1:List Int) (a2:Int) (hc:(decide (a0.length<=2000000)&&decide (a1.length<=1000000))=true):∃m,t24 m (a0,a1,a2)=some ([.b (oO a0 a1 a2)]):=by
 simp only[zab,zag]at hc;refine⟨100, ?_⟩;unfold t24 oO;dsimp only[lt];have e:w64 ((a1.length:Int)+80)=((a1.length+80:Nat):Int):=by rw[aa (by omega) (by omega)];simp
 rw[e];cases hn:(a0.length==a1.length+80)with
 |false=>
  rw[zbD]at hn;exact tP (by rw[bne_iff_ne];omega) rfl
 |true=>
  rw[zay]at hn;refine jE (by rw[hn];simp) ?_
  rw[zau];refine aV (by simp;omega) (aV (zae (by rw[zap];omega)) ?_);cases hs:iC (List.take a1.length a0) a1 with
  |false=>exact tP rfl rfl
  |true=>
   refine jE rfl ?_
   rw[za8];have:=Mr 100 a2 (List.drop a1.length a0) (List.take a1.length a0) 100 (by rw[zbj];omega) (by rw[zb6];omega);rw[zb6,zap,zbM (by omega)]at this;exact this
theorem Oa:ER 24 (mkE N24.en N24.ex f24):=aq ah T23.right (fun m=>[KG (yX m m)]) (t:=t24) (by kernel_rfl) (fun m=>(aH (Tq m m) aA)) (fun m a=>by kernel_rfl) fun(a0,a1,a2) hc=>Qw a0 a1 a2 hc
def T24:Tb Tryz.prog LQ TE XX:=T23.add 24 _ Oa
theorem cA {r:RdR} (h:(nx r).bad=false):r.bad=false/\r.n.toNat≠0:=by
 unfold nx rdN at h;cases hb:(r.bad||(r.n.toNat:Int)==0)with
 |true=>rw[hb]at h;exact absurd h (by simp)
 |false=>
  simp only[zbA,zbD]at hb;exact⟨hb.1,by omega⟩
theorem sh {r:RdR} {m:Int} (h:(mx r m).bad=false):(nx r).bad=false/\0<=(nx r).v/\(nx r).v<=m/\mx r m=nx r:=by
 have e:mx r m=bif decide ((nx r).v<0)||decide ((nx r).v>m)then {nx r with v:=0,bad:=true}else nx r:=rfl
 cases hb:(decide ((nx r).v<0)||decide ((nx r).v>m))with
 |true=>rw[e,hb]at h;exact absurd h (by simp)
 |false=>
  rw[hb,zao]at e;simp only[zbA,decide_eq_false_iff_not]at hb;rw[e]at h;exact⟨h,by omega,by omega,e⟩
theorem sn:∀(c:Nat) (r:RdR),(fP c r).2.bad=false->r.bad=false
 |0,r,h=>h
 |c+1,r,h=>(cA (cA (cA (cA (sn c _ h)).1).1).1).1
theorem rG:∀(c:Nat) (r:RdR),(fi c r).2.bad=false->r.bad=false
 |0,r,h=>h
 |c+1,r,h=>(cA (cA (cA (rG c _ h)).1).1).1
theorem jD {l:List Int} {k:Nat} {v:Int} (h:(nx (rdS l k v)).bad=false):k<l.length/\nx (rdS l k v)=rdS l (k+1) (l.getD k 0)/\l.take (k+1)=l.take k++[l.getD k 0]:=by
 have h2:=(cA h).2;have hk:k<l.length:=by
  have:(rdS l k v).n.toNat=l.length-k:=by show((l.length-k:Nat):Int).toNat=_;omega
  omega
 refine⟨hk,yv v hk, ?_⟩;rw[List.take_succ_eq_append_getElem hk];simp[zaf,hk]
theorem H4 (l:List Int):∀(c k:Nat) (v:Int),(fP c (rdS l k v)).2.bad=false->∃v',(fP c (rdS l k v)).2=rdS l (k+4*c) v'/\(fP c (rdS l k v)).1.length=c/\l.take (k+4*c)=l.take k++(fP c (rdS l k v)).1.flatMap gP
 |0,k,v,h=>⟨v,rfl,rfl,by simp[fP]⟩
 |c+1,k,v,h=>by
  have b4:=sn c _ h;have b3:=(cA b4).1;have b2:=(cA b3).1;have b1:=(cA b2).1;obtain⟨k1,e1,t1⟩:=jD b1;rw[e1]at b2 b3 b4;obtain⟨k2,e2,t2⟩:=jD b2;rw[e2]at b3 b4;obtain⟨k3,e3,t3⟩:=jD b3;rw[e3]at b4;obtain⟨k4,e4,t4⟩:=jD b4;simp only[fP]at h⊢;simp only[e1,e2,e3,e4]at h⊢;obtain⟨v',p1,p2,p3⟩:=H4 l c _ _ h;refine⟨v', ?_,by rw[zac,p2], ?_⟩
  . rw[p1];congr 1;omega
  . rw[show k+4*(c+1)=k+1+1+1+1+4*c by omega,p3,t4,t3,t2,t1];simp only[zbG,zat,zaN,zaC];rfl
theorem Gh (l:List Int):∀(c k:Nat) (v:Int),(fi c (rdS l k v)).2.bad=false->∃v',(fi c (rdS l k v)).2=rdS l (k+3*c) v'/\(fi c (rdS l k v)).1.length=c/\l.take (k+3*c)=l.take k++(fi c (rdS l k v)).1.flatMap jB
 |0,k,v,h=>⟨v,rfl,rfl,by simp[fi]⟩
 |c+1,k,v,h=>by
  have b3:=rG c _ h;have b2:=(cA b3).1;have b1:=(cA b2).1;obtain⟨k1,e1,t1⟩:=jD b1;rw[e1]at b2 b3;obtain⟨k2,e2,t2⟩:=jD b2;rw[e2]at b3;obtain⟨k3,e3,t3⟩:=jD b3;simp only[fi]at h⊢;simp only[e1,e2,e3]at h⊢;obtain⟨v',p1,p2,p3⟩:=Gh l c _ _ h;refine⟨v', ?_,by rw[zac,p2], ?_⟩
  . rw[p1];congr 1;omega
  . rw[show k+3*(c+1)=k+1+1+1+3*c by omega,p3,t3,t2,t1];simp only[zbG,zat,zaN,zaC];rfl
theorem IF {l:List Int} (hb:(bU 0 (l.length:Int) false l).r.bad=false) (hn:(bU 0 (l.length:Int) false l).r.n=0):
 jQ (bU 0 (l.length:Int) false l).ra (bU 0 (l.length:Int) false l).aK (bU 0 (l.length:Int) false l).rb (bU 0 (l.length:Int) false l).notes (bU 0 (l.length:Int) false l).next=l:=by
 unfold bU zg at hb hn⊢;dsimp only at hb hn⊢;have s0:rdM 0 (l.length:Int) false l 1=mx (rdS l 0 0) 1:=rfl;rw[s0]at hb hn⊢;have c24:=rG _ _ hb;have d24:=sh c24;have c23:=sn _ _ (cA d24.1).1;have d18:=sh c23;have b17:=(cA d18.1).1;have b16:=(cA b17).1;have b15:=(cA b16).1;have b14:=(cA b15).1;have b13:=(cA b14).1;have b12:=(cA b13).1;have b11:=(cA b12).1;have b10:=(cA b11).1;have b9:=(cA b10).1;have b8:=(cA b9).1;have b7:=(cA b8).1;have b6:=(cA b7).1;have b5:=(cA b6).1;have b4:=(cA b5).1;have b3:=(cA b4).1;have b2:=(cA b3).1;have b1:=(cA b2).1;obtain⟨f1,f2,f3,f4⟩:=sh b1;obtain⟨k1,e1,t1⟩:=jD f1;rw[e1]at f2 f3 f4;rw[f4]at b2 b3 b4 b5 b6 b7 b8 b9 b10 b11 b12 b13 b14 b15 b16 b17 hb hn⊢;obtain⟨k2,e2,t2⟩:=jD b2;rw[e2]at b3 b4 b5 b6 b7 b8 b9 b10 b11 b12 b13 b14 b15 b16 b17;obtain⟨k3,e3,t3⟩:=jD b3;rw[e3]at b4 b5 b6 b7 b8 b9 b10 b11 b12 b13 b14 b15 b16 b17;obtain⟨k4,e4,t4⟩:=jD b4;rw[e4]at b5 b6 b7 b8 b9 b10 b11 b12 b13 b14 b15 b16 b17;obtain⟨k5,e5,t5⟩:=jD b5;rw[e5]at b6 b7 b8 b9 b10 b11 b12 b13 b14 b15 b16 b17;obtain⟨k6,e6,t6⟩:=jD b6;rw[e6]at b7 b8 b9 b10 b11 b12 b13 b14 b15 b16 b17;obtain⟨k7,e7,t7⟩:=jD b7;rw[e7]at b8 b9 b10 b11 b12 b13 b14 b15 b16 b17;obtain⟨k8,e8,t8⟩:=jD b8;rw[e8]at b9 b10 b11 b12 b13 b14 b15 b16 b17;obtain⟨k9,e9,t9⟩:=jD b9;rw[e9]at b10 b11 b12 b13 b14 b15 b16 b17;obtain⟨k10,e10,t10⟩:=jD b10;rw[e10]at b11 b12 b13 b14 b15 b16 b17;obtain⟨k11,e11,t11⟩:=jD b11;rw[e11]at b12 b13 b14 b15 b16 b17;obtain⟨k12,e12,t12⟩:=jD b12;rw[e12]at b13 b14 b15 b16 b17;obtain⟨k13,e13,t13⟩:=jD b13;rw[e13]at b14 b15 b16 b17;obtain⟨k14,e14,t14⟩:=jD b14;rw[e14]at b15 b16 b17;obtain⟨k15,e15,t15⟩:=jD b15;rw[e15]at b16 b17;obtain⟨k16,e16,t16⟩:=jD b16;rw[e16]at b17;obtain⟨k17,e17,t17⟩:=jD b17;simp only[f4,e2,e3,e4,e5,e6,e7,e8,e9,e10,e11,e12,e13,e14,e15,e16,e17]at c23 c24 hb hn⊢;simp only[Nat.reduceAdd,zaI]at t1 t2 t3 t4 t5 t6 t7 t8 t9 t10 t11 t12 t13 t14 t15 t16 t17 k17 c23 c24 hb hn f2 f3 f4⊢;have T:l.take 17=[l.getD 0 0,l.getD 1 0,l.getD 2 0,l.getD 3 0,l.getD 4 0,l.getD 5 0,l.getD 6 0,l.getD 7 0,l.getD 8 0,l.getD 9 0,l.getD 10 0,l.getD 11 0,l.getD 12 0,l.getD 13 0,l.getD 14 0,l.getD 15 0,l.getD 16 0]:=by
  rw[t17,t16,t15,t14,t13,t12,t11,t10,t9,t8,t7,t6,t5,t4,t3,t2,t1];rfl
 clear t1 t2 t3 t4 t5 t6 t7 t8 t9 t10 t11 t12 t13 t14 t15 t16 t17 e1 e2 e3 e4 e5 e6 e7 e8 e9 e10 e11 e12 e13 e14 e15 e16 e17;obtain⟨g1,g2,g3,g4⟩:=sh c23;obtain⟨k18,e18,t18⟩:=jD g1;rw[e18]at g2 g3 g4;simp only[g4]at c24 hb hn⊢;have hP:=(cA (sh c24).1).1;obtain⟨v1,p1,p2,p3⟩:=H4 l _ _ _ hP;simp only[p1]at c24 hb hn⊢;obtain⟨j1,j2,j3,j4⟩:=sh c24;obtain⟨k24,e24,t24⟩:=jD j1;rw[e24]at j2 j3 j4;simp only[j4]at hb hn⊢;obtain⟨v2,q1,q2,q3⟩:=Gh l _ _ _ hb;rw[q1]at hn;have zv:∀k v,(rdS l k v).v=v:=fun _ _=>rfl
 simp only[zv]at hn q1 q2 q3 g2 g3 j2 j3 p1 p2 p3 t24 t18 hb f2 f3⊢;have hn:((l.length-(17+1+4*(l.getD 17 0).toNat+1+3*(l.getD (17+1+4*(l.getD 17 0).toNat) 0).toNat):Nat):Int)=0:=hn;have hl:=zbm (show l.length<=17+1+4*(l.getD 17 0).toNat+1+3*(l.getD (17+1+4*(l.getD 17 0).toNat) 0).toNat by omega);clear p1 q1 hn hb c24 j1 j4 k24 e24 hP g1 g4 k18 e18 c23 b2 b3 b4 b5 b6 b7 b8 b9 b10 b11 b12 b13 b14 b15 b16 b17 f1 f4 b1;generalize (fi (l.getD (17+1+4*(l.getD 17 0).toNat) 0).toNat (rdS l (17+1+4*(l.getD 17 0).toNat+1) (l.getD (17+1+4*(l.getD 17 0).toNat) 0))).1=Q at*
 generalize (fP (l.getD 17 0).toNat (rdS l (17+1) (l.getD 17 0))).1=P at*
 refine Eq.trans ?_ hl;rw[q3,t24,p3,t18,T];have h0:bI (l.getD 0 0==1)=l.getD 0 0:=by
  rcases(show l.getD 0 0=0\/l.getD 0 0=1 by omega)with h|h<;>rw[h]<;>rfl
 have hp:(P.length:Int)=l.getD 17 0:=by rw[p2];omega
 have hq:(Q.length:Int)=l.getD (17+1+4*(l.getD 17 0).toNat) 0:=by rw[q2];omega
 unfold jQ kJ;rw[hp,hq,h0];simp only[zat,zaN,zaC]
theorem yW {l:List Int} (h:(dE l).ok=true):cu (dE l).ra (dE l).aK (dE l).rb (dE l).notes (dE l).next=true/\jQ (dE l).ra (dE l).aK (dE l).rb (dE l).notes (dE l).next=l:=by
 unfold dE at h⊢;dsimp only at h⊢;cases h1:(!(bU 0 (l.length:Int) false l).r.bad&&(bU 0 (l.length:Int) false l).r.n==0)with
 |false=>rw[h1]at h;exact absurd h (by simp[qV])
 |true=>
  simp only[h1,zau]at h⊢;simp only[zab,zb9,zay]at h1;cases h2:cu (bU 0 (l.length:Int) false l).ra (bU 0 (l.length:Int) false l).aK (bU 0 (l.length:Int) false l).rb (bU 0 (l.length:Int) false l).notes (bU 0 (l.length:Int) false l).next with
  |false=>rw[h2]at h;exact absurd h (by simp[qV])
  |true=>
   simp only[zau];exact⟨h2,IF h1.1 h1.2⟩
theorem IV {l:List Int} (h:(dE l).ok=false):dE l=qV:=by
 unfold dE at h⊢;dsimp only at h⊢;cases h1:(!(bU 0 (l.length:Int) false l).r.bad&&(bU 0 (l.length:Int) false l).r.n==0)with
 |false=>rfl
 |true=>
  rw[h1,zau]at h;rw[zau];cases h2:cu (bU 0 (l.length:Int) false l).ra (bU 0 (l.length:Int) false l).aK (bU 0 (l.length:Int) false l).rb (bU 0 (l.length:Int) false l).notes (bU 0 (l.length:Int) false l).next with
  |true=>rw[h2]at h;exact absurd h (by simp)
  |false=>rfl
theorem Ma (f:Nat->Int) (hf:∀i,i<8->0<=f i/\f i<256):nf (Iw.val f 8)=[f 0,f 1,f 2,f 3,f 4,f 5,f 6,f 7]:=by
 have b0:=hf 0 (by decide);have b1:=hf 1 (by decide);have b2:=hf 2 (by decide);have b3:=hf 3 (by decide);have b4:=hf 4 (by decide);have b5:=hf 5 (by decide);have b6:=hf 6 (by decide);have b7:=hf 7 (by decide);have hv:Iw.val f 8=RowKit.wrap64 (72057594037927936*f 0+281474976710656*f 1+1099511627776*f 2+4294967296*f 3+16777216*f 4+65536*f 5+256*f 6+f 7):=by
  simp only[Iw.val];rw[fS _ _ (by omega) (by omega),fS _ _ (by omega) (by omega),fS _ _ (by omega) (by omega),fS _ _ (by omega) (by omega),fS _ _ (by omega) (by omega),fS _ _ (by omega) (by omega),fS _ _ (by omega) (by omega),fS _ _ (by omega) (by omega)];simp only[RowKit.wrap64];omega
 rw[hv];generalize f 0=x0 at*
 generalize f 1=x1 at*
 generalize f 2=x2 at*
 generalize f 3=x3 at*
 generalize f 4=x4 at*
 generalize f 5=x5 at*
 generalize f 6=x6 at*
 generalize f 7=x7 at*
 have u8:∀x:Int,wu8 x=x%256:=fun x=>by show IntKind.u8.wrap x=_;simp[IntKind.wrap,IntKind.bits,IntKind.signed]
 have fd:∀(x k:Int),0<k->Int.fdiv x k=x/k:=fun x k hk=>Int.fdiv_eq_ediv_of_nonneg _ (by omega)
 unfold nf;simp only[u8];rw[fd _ _ (by decide),fd _ _ (by decide),fd _ _ (by decide),fd _ _ (by decide),fd _ _ (by decide),fd _ _ (by decide),fd _ _ (by decide),fd _ _ (by decide)];simp only[RowKit.wrap64,List.cons.injEq,and_true];refine⟨?_, ?_, ?_, ?_, ?_, ?_, ?_, ?_⟩<;>omega
theorem Gf:∀(n:Nat) (xs:List Int),xs.length=8*n->(∀x∈xs,0<=x/\x<256)->cR (cW xs)=xs:=by
 intro n xs hl hb;have hn:xs.length/8=n:=by omega
 have e:(cW xs).length=n:=by rw[sP,hn]
 apply List.ext_getElem
 . rw[mX,e,hl]
 . intro i h1 h2;have hk:i/8<(cW xs).length:=by omega
   have:=sy (cW xs) (i/8) (i%8) hk (by omega);rw[show i/8*8+i%8=i by omega]at this;have e0:(cW xs).getD (i/8) 0=Iw.val (fun j=>xs.getD (i/8*8+j) 0) 8:=by
    simp only[cW,zaf];rw[zah (by simp;omega)];simp
   rw[e0,Ma _ (fun j hj=>by
    show 0<=xs.getD (i/8*8+j) 0/\xs.getD (i/8*8+j) 0<256;have hi:i/8*8+j<xs.length:=by omega
    rw[zaf,zah hi];exact hb _ (zbn hi))]at this
   have e1:(cR (cW xs))[i]=(cR (cW xs)).getD i 0:=by
    rw[zaf,zah h1];rfl
   have e2:xs[i]=xs.getD (i/8*8+i%8) 0:=by
    rw[show i/8*8+i%8=i by omega,zaf,zah h2];rfl
   rw[e1,this,e2];have hm:i%8<8:=by omega
   generalize i%8=j at*
   match j,hm with
   |0,_=>rfl
   |1,_=>rfl
   |2,_=>rfl
   |3,_=>rfl
   |4,_=>rfl
   |5,_=>rfl
   |6,_=>rfl
   |7,_=>rfl
theorem encode_decode {xs:List Int} (hb:∀x∈xs,0<=x/\x<256) (h:(bu xs).ok=true):cH (bu xs).ra (bu xs).aK (bu xs).rb (bu xs).notes (bu xs).next=xs:=by
 unfold bu at h⊢;cases h8:(xs.length%8==0)with
 |false=>rw[h8]at h;exact absurd h (by simp[qV])
 |true=>
  simp only[h8,zau]at h⊢;obtain⟨h1,h2⟩:=yW h;unfold cH;rw[h1,zau,h2];rw[zay]at h8;exact Gf (xs.length/8) xs (by omega) hb
theorem vT {xs:List Int} (h:(bu xs).ok=false):bu xs=qV:=by
 unfold bu at h⊢;cases h8:(xs.length%8==0)with
 |false=>rfl
 |true=>
  simp only[h8,zau]at h⊢;exact IV h
theorem CR (xs:List Int):(bu xs).aK.length<=160/\(bu xs).notes.length<=8:=by
 cases h:(bu xs).ok with
 |false=>rw[vT h];exact⟨zbJ _,zbJ _⟩
 |true=>
  unfold bu at h⊢;cases h8:(xs.length%8==0)with
  |false=>exact⟨zbJ _,zbJ _⟩
  |true=>
   simp only[h8,zau]at h⊢;have:=(yW h).1;unfold cu at this;simp only[zab,zag]at this;omega
theorem B7 (b:List Int) (m:Int):oO (b++List.replicate 80 m) b m=true:=by
 unfold oO;have e:((b++List.replicate 80 m).length==b.length+80)=true:=by rw[zay,zad,List.length_replicate]
 rw[e,zau,List.take_left,zby];have:iC b b=true:=(sC b b).2 rfl;rw[this,za8];simp
def Wd:Int × List Dat × aw × ax × ao × List Dat × List Dat × List Dat × List Dat × List Dat × List Dat × List Dat->Bool × List Un:=fun(a0,a1,a2,a3,a4,a5,a6,a7,a8,a9,a10,a11)=>(decide (0<=a0)&&mN (⟨a2,a3,a4,a5,a6,a7,a8,a9,a10,a11⟩:ae),Uns.enc ((aJ (⟨a2,a3,a4,a5,a6,a7,a8,a9,a10,a11⟩:ae) a1).ra:bE)++[.d ((aJ (⟨a2,a3,a4,a5,a6,a7,a8,a9,a10,a11⟩:ae) a1).aK)]++Uns.enc ((aJ (⟨a2,a3,a4,a5,a6,a7,a8,a9,a10,a11⟩:ae) a1).rb:bw)++[.d ((aJ (⟨a2,a3,a4,a5,a6,a7,a8,a9,a10,a11⟩:ae) a1).notes),.i ((aJ (⟨a2,a3,a4,a5,a6,a7,a8,a9,a10,a11⟩:ae) a1).next),.i ((aJ (⟨a2,a3,a4,a5,a6,a7,a8,a9,a10,a11⟩:ae) a1).e)]++Uns.enc ((aJ (⟨a2,a3,a4,a5,a6,a7,a8,a9,a10,a11⟩:ae) a1).t.a:aw)++Uns.enc ((aJ (⟨a2,a3,a4,a5,a6,a7,a8,a9,a10,a11⟩:ae) a1).t.b:ax)++Uns.enc ((aJ (⟨a2,a3,a4,a5,a6,a7,a8,a9,a10,a11⟩:ae) a1).t.n:ao)++[.d ((aJ (⟨a2,a3,a4,a5,a6,a7,a8,a9,a10,a11⟩:ae) a1).t.aP),.d ((aJ (⟨a2,a3,a4,a5,a6,a7,a8,a9,a10,a11⟩:ae) a1).t.notes),.d ((aJ (⟨a2,a3,a4,a5,a6,a7,a8,a9,a10,a11⟩:ae) a1).t.s0),.d ((aJ (⟨a2,a3,a4,a5,a6,a7,a8,a9,a10,a11⟩:ae) a1).t.s1),.d ((aJ (⟨a2,a3,a4,a5,a6,a7,a8,a9,a10,a11⟩:ae) a1).t.s2),.d ((aJ (⟨a2,a3,a4,a5,a6,a7,a8,a9,a10,a11⟩:ae) a1).t.aL),.d ((aJ (⟨a2,a3,a4,a5,a6,a7,a8,a9,a10,a11⟩:ae) a1).t.tr)])
def Uv:Pn:=⟨[.agg [.bool,.int .i64,.int .i64,.int .i64,.int .i64,.int .i64,.int .i64,.int .i64,.int .i64,.int .i64,.int .i64,.ab (sI 4),.int .i64,.int .i64,.int .i64,.int .i64,.int .i64,.ab (sI 3),.int .i64],.int .i64],[.cells [.int .i64,.int .i64,.int .i64,.buf 9 2,.buf 10 3,.int .i64,.int .i64,.int .i64,.int .i64,.int .i64,.int .i64,.int .i64,.int .i64,.int .i64,.int .i64,.buf 11 2,.buf 12 2,.buf 13 2,.ptr 14 0 0,.buf 16 7,.int .i64,.int .i64,.int .i64,.int .i64,.int .i64,.int .i64,.int .i64,.int .i64,.int .i64,.bool],.gone,.gone,.gone,.gone,.gone,.gone,.gone,.gone,.ab (sI 2),.ab (sI 3),.ab (sI 2),.ab (sI 2),.ab (sI 2),.cells [.buf 15 5],.ab (sB 4),.ab (sI 7)],0⟩
theorem CU:ER 11 (mkE N11.en Uv Wd):=S6 B6 (by kernel_rfl) fun(a0,a1,a2,a3,a4,a5,a6,a7,a8,a9,a10,a11)=>⟨rfl,by kernel_rfl⟩
def Wt:Tb Tryz.prog LQ TE XX:=T24.add 11 _ CU
def Ts:pN->List Un:=fun r=>Uns.enc (r.ra:bE)++[.d r.aK]++Uns.enc (r.rb:bw)++[.d r.notes,.i r.next,.i r.e]++Uns.enc (r.t.a:aw)++Uns.enc (r.t.b:ax)++Uns.enc (r.t.n:ao)++[.d r.t.aP,.d r.t.notes,.d r.t.s0,.d r.t.s1,.d r.t.s2,.d r.t.aL,.d r.t.tr]
def VD:Int × List Dat × aw × ax × ao × List Dat × List Dat × List Dat × List Dat × List Dat × List Dat × List Dat->Bool × pN:=fun(a0,a1,a2,a3,a4,a5,a6,a7,a8,a9,a10,a11)=>(decide (0<=a0)&&mN (⟨a2,a3,a4,a5,a6,a7,a8,a9,a10,a11⟩:ae),(aJ (⟨a2,a3,a4,a5,a6,a7,a8,a9,a10,a11⟩:ae) a1))
theorem Ja:ER 11 (mkB N11.en Uv VD Ts):=rebind CU fun(a0,a1,a2,a3,a4,a5,a6,a7,a8,a9,a10,a11)=>rfl
def jO:Tb Tryz.prog LQ TE XX:=Wt.add 11 _ Ja
def Dv (q:Int->Bool) (c:List Dat):Nat:=((c.map fun d=>d.i 0).filter q).length
theorem wU (a k:Int) (q:Int->Bool):∀(xs:List Int) (c:List Dat) (i:Int),xs.length=c.length->(∀j,j<c.length->q ((af c j).i 0)=false->xs.getD j 0<=0)->(bT a k i xs).length<=Dv q c
 |[],_,_,_,_=>by simp[bT]
 |x::xs,[],_,h,_=>by simp at h
 |x::xs,d::c,i,h,hx=>by
  have ih:=wU a k q xs c (i+1) (by simpa using h) fun j hj hs=>hx (j+1) (by simpa using hj) hs
  have h0:=hx 0 (by simp);rw[show af (d::c) 0=d from rfl,show(x::xs).getD 0 0=x from rfl]at h0;unfold Dv at ih⊢;simp only[bT,zad,zaV,List.filter_cons];cases hs:q (d.i 0)with
  |true=>
   rw[if_pos rfl,zac]
   split<;>simp only[zac,zas]<;>omega
  |false=>
   rw[if_neg (by have:=h0 hs;omega),if_neg (by simp)];simpa using ih
theorem LV (j:Nat) (q:Int->Bool) {xs:List Int} {c:List Dat} (h:xs.length=c.length):Dv q (bV j xs c)=Dv q c:=by
 have:∀(xs:List Int) (c:List Dat),xs.length=c.length->(bV j xs c).map (fun d=>d.i 0)=c.map fun d=>d.i 0:=by
  intro xs
  induction xs with
  |nil=>intro c h;rw[zax h.symm];rfl
  |cons x xs ih=>
   intro c h;cases c with
   |nil=>simp at h
   |cons d c=>
    simp only[bV,zaV,ih c (by simpa using h)]
    congr 1
    unfold cE
    split<;>rfl
 unfold Dv;rw[this xs c h]
theorem DM (r:Int):∀l:List Int,(l.filter fun y=>y==r).length+(l.filter fun y=>decide (r+1<=y)).length<=(l.filter fun y=>decide (r<=y)).length
 |[]=>by simp
 |y::l=>by
  have:=DM r l;simp only[List.filter_cons,zay,zag]
  by_cases h1:y=r
  . rw[if_pos h1,if_neg (by omega),if_pos (by omega)];simp only[zac];omega
  . rw[if_neg h1]
    by_cases h2:r+1<=y
    . rw[if_pos h2,if_pos (by omega)];simp only[zac];omega
    . rw[if_neg h2,if_neg (by omega)];omega
theorem NV (q:Int->Bool) (c:List Dat):Dv q c<=c.length:=by
 have:=List.length_filter_le q (c.map fun d=>d.i 0)
 rwa [zaR]at this
theorem F2 {c:List Dat} {sel:Dat->Bool} {j:Nat} (hj:j=1\/j=2) (n:Int) (h:aW c=true):∀i,i<c.length->sel (af c i)=false->(av sel j n c).getD i 0<=0:=fun i hi hs=>by
 have:=(dy sel hj n h).2.2 i hi;rw[hs,zao]at this;exact this.2
theorem zn (a kd:Int):∀(k:Nat) (r n:Int) (c:List Dat),aW c=true->(bG a kd k r n c).2.1.length<=Dv (fun y=>decide (r<=y)) c
 |0,r,n,c,h=>by simp[bG]
 |k+1,r,n,c,h=>by
  have g:=(oX (aN r) (j:=1) (.inl rfl) n h).1;have l:=(dy (aN r) (j:=1) (.inl rfl) n h).1;have i:=zn a kd k (r+1) (n-(av (aN r) 1 n c).sum) _ g;rw[LV 1 _ l]at i;have p:=wU a kd (fun y=>y==r) (av (aN r) 1 n c) c 0 l fun j hj hs=>F2 (.inl rfl) n h j hj hs
  have f:=DM r (c.map fun d=>d.i 0);simp only[bG,zad];unfold Dv at*
  omega
theorem IT (a kd rk:Int) {x:bp} {c:List Dat} (h:aW c=true):(dJ a kd rk x c).2.2.length<=c.length+1:=by
 have p1:=uW a kd;have r2:=fun n=>zaM (zn a kd 8 0 n c h) (NV _ c)
 have q:=fun sel j n hj=>(dy (c:=c) sel (j:=j) hj n h).1
 have q4:=fun xs=>iN a kd xs 0
 unfold dJ
 split
 . have:=p1 (min x.fee x.ay);simp only;omega
 split
 . have:=p1 (min x.bY x.ay);simp only;omega
 split
 . have:=p1 (min x.room x.ay);simp only;omega
 split
 . have:=q (aN rk) 2 x.ay (.inr rfl);have:=q4 (av (aN rk) 2 x.ay c);simp only;omega
 split
 . have:=r2 (min x.ak x.ay);simp only;omega
 split
 . have:=q (fun _=>true) 1 (min x.ak x.ay) (.inl rfl);have:=q4 (av (fun _=>true) 1 (min x.ak x.ay) c);simp only;omega
 split
 . have:=r2 x.ay;simp only;omega
 simp
theorem CG:∀(l:List Dat) (a:Int) (x:bp) (c:List Dat),nv x=true->aW c=true->(dY a l x c).2.2.length<=(c.length+1)*l.length
 |[],a,x,c,_,_=>by simp[dY]
 |s::l,a,x,c,hx,h=>by
  obtain⟨h1,h2,h3,_⟩:=rm a (s.i 0) (s.i 1) hx h;have i:=CG l (a+1) _ _ h1 h2;have p:=IT a (s.i 0) (s.i 1) (x:=x) h;simp only[dY,zad,zac,Nat.mul_add,zcc];rw[h3]at i;omega
theorem vg:∀(l pre:List Dat),iY pre l=true->∀d∈l,pZ d=true
 |[],_,_,d,hd=>by simp at hd
 |x::l,pre,h,d,hd=>by
  simp only[iY,zab]at h;rcases zaY.1 hd with rfl|hd
  . exact h.1
  . exact vg l _ h.2.2 d hd
theorem Dm (j:Nat):∀(l:List Dat),(∀d∈l,0<=d.i j)->∀d∈l,d.i j<=an j l
 |[],_,d,hd=>by simp at hd
 |x::l,h,d,hd=>by
  have h0:=h x (by simp);have hr:=fun y hy=>h y (zaG x hy)
  have hs:=eP j l hr;simp only[an];rcases zaY.1 hd with rfl|hd
  . omega
  . have:=Dm j l hr d hd;omega
def AF (k:Nat) (x:Dat):Prop:=(0<=x.i 0/\x.i 0<=15)/\(1<=x.i 1/\x.i 1<=7)/\(1<=x.i 3/\x.i 3<=800000000000000)/\(-1<=x.i 2/\x.i 2<(k:Int))/\(x.i 2<0↔(x.i 1=1\/x.i 1=2\/x.i 1=6))
section
variable {T : ae} {l : List Dat} (h : fU T) (he : (cP T l).e = 0)
include h he
theorem pK:(∀d∈(cn T l).2.2,AF T.tr.length d)/\(cn T l).2.2.length<=144:=by
 obtain⟨k,p,g,c,_⟩:=lY h he;obtain⟨s1,s2,_⟩:=kG h he;obtain⟨x1,x2,_⟩:=qm h he;have st:=nO h;have sl:=iX st;have tl:=ev h;have sr:∀d∈eU (gv T) T.n.mode,pZ d=true:=vg _ [] (by simp only[dF,zab]at st;exact st.2);refine⟨fun d hd=> ?_, ?_⟩
 . obtain⟨q1,_,q2,q3,q4,q5⟩:=p d hd;have:=Dm 3 _ (fun d hd=>by have:=(s1 d hd).1;omega) d hd;have:=sr _ (mQ (l:=eU (gv T) T.n.mode) (i:=(d.i 0-0).toNat) (by omega));simp only[pZ,zab,zag]at this;unfold AF;rw[<-q2]at q5 this;exact⟨by omega,this.1,by omega,q4,q5⟩
 . have:=CG (eU (gv T) T.n.mode) 0 (cX T l) _ x1 x2;rw[zaR,o8 h]at this;have m:=Nat.mul_le_mul (show T.tr.length+1<=9 by omega) sl.2;unfold cn;omega
theorem DX (hp:T.n.period<600):cu (aC T l).ra (aC T l).aK (aC T l).rb (aC T l).notes (aC T l).next=true:=by
 obtain⟨q,ql⟩:=pK h he;obtain⟨p1,p2,p3,p4,p5,p6,p7,p8,p9⟩:=oH h he;obtain⟨m1,m2,m3,m4⟩:=kq h he;obtain⟨a1,_,_,a4,_⟩:=kh h;obtain⟨r1,_⟩:=oM h he;have rg:=o9 (lY h he).2.2.1;have g2:=(mn h he).1;have tl:=ev h;have bal:=ke h;have nq:=fN p1;have r0:=h.EH;have hN:=wF h hp he;have D:=fh h.uh;have e1:=hN.res;have e2:=hN.out;have e3:=hN.fee;have adv:T.b.advance<=1099511627776:=D.advance.2;have pr:=h.period;have md:=h.mode;unfold cu;simp only[zab,zag,zal];refine⟨?_, ?_, ?_, ?_, ?_, ?_, ?_, ?_, ?_, ?_, ?_⟩
 . show 0<=T.n.period+1;omega
 . show T.n.period+1<=600;omega
 . exact md.1
 . exact md.2
 . exact hN.mode.1
 . exact hN.mode.2
 . intro n hn;have f1:(aC T l).t.n.period=T.n.period+1:=rfl;have f2:(aC T l).t.b.advance=T.b.advance:=rfl;rw[f1]at e1 e3;rw[f2]at e2;unfold cIn at m1;simp only[qC,zaY,zcf,or_false]at hn;unfold uf;simp only[zab,zag];rcases hn with rfl|rfl|rfl|rfl|rfl|rfl|rfl|rfl|rfl|rfl|rfl|rfl|rfl
   . show 0<=(cP T l).p/\(cP T l).p<=1152921504606846976;omega
   . show 0<=(cP T l).q/\(cP T l).q<=1152921504606846976;omega
   . show 0<=(cP T l).l/\(cP T l).l<=1152921504606846976;omega
   . show 0<=(cP T l).r/\(cP T l).r<=1152921504606846976;omega
   . show 0<=fQ T l/\fQ T l<=1152921504606846976;have:=h.res;omega
   . show 0<=od T l/\od T l<=1152921504606846976;have:=h.out;omega
   . show 0<=pb T/\pb T<=1152921504606846976;omega
   . show 0<=Ch T/\Ch T<=1152921504606846976;omega
   . exact rg.1
   . show 0<=an 1 (cP T l).aL/\an 1 (cP T l).aL<=1152921504606846976;omega
   . show 0<=(aC T l).t.n.rin-(aC T l).t.n.bC/\(aC T l).t.n.rin-(aC T l).t.n.bC<=1152921504606846976;omega
   . show 0<=(aC T l).t.n.out/\(aC T l).t.n.out<=1152921504606846976;omega
   . show 0<=(aC T l).t.n.fee/\(aC T l).t.n.fee<=1152921504606846976;omega
 . show((cn T l).2.2.length:Int)<=160;omega
 . show(((gO T l).map si).length:Int)<=8;rw[zaR];omega
 . intro d hd;have:=q d hd;unfold AF at this;simp only[tS,zab,zag];omega
 . intro d hd;obtain⟨x,hx,rfl⟩:=za6.1 hd;have g:=cz (g2.2 x hx);have gb:=Fl (g2.2 x hx);have i0:(si x).i 0=bo x:=rfl;have i1:(si x).i 1=x.i 5:=rfl;have i2:(si x).i 2=x.i 6:=rfl;simp only[qL,zcl,List.all_nil,uf,zab,zag,i0,i1,i2]
   and_intros<;>first|trivial|omega
end
def dr (f:Dat->Bool):List Dat->Int
 |[]=>0
 |r::l=>bj f (r.d 11)+dr f l
theorem og (f:Dat->Bool):∀a b:List Dat,dr f (a++b)=dr f a+dr f b
 |[],b=>by simp[dr]
 |r::a,b=>by simp only[zaN,dr,og f a b];omega
def pH (K:Nat) (r:Dat):Prop:=(r.d 11).length<=144/\∀x∈r.d 11,AF K x
theorem oF (f:Dat->Bool) (K:Nat):∀l:List Dat,(∀x∈l,AF K x)->0<=bj f l/\bj f l<=800000000000000*l.length
 |[],_=>by simp[bj]
 |x::l,h=>by
  have i:=oF f K l fun y hy=>h y (zaG _ hy)
  have:=(h x (by simp)).2.2.1;rw[dx,zac];unfold amt;cases f x<;>simp only[zau,zao]<;>omega
theorem gq (f:Dat->Bool) (K:Nat):∀l:List Dat,(∀r∈l,pH K r)->0<=dr f l/\dr f l<=115200000000000000*l.length
 |[],_=>by simp[dr]
 |r::l,h=>by
  have i:=gq f K l fun y hy=>h y (zaG _ hy)
  have q:=h r (by simp);have w:=oF f K (r.d 11) q.2;have:=q.1;simp only[dr,zac];omega
theorem Bh (j K:Nat):∀(l:List Dat) (s:Int × Int),(∀x∈l,AF K x)->(0<=s.1/\s.1+800000000000000*l.length<=4611686018427387904)->(0<=s.2/\s.2+800000000000000*l.length<=4611686018427387904)->toP j l s=(s.1+bj (toI j) l,s.2+bj (toB j) l)
 |[],s,_,_,_=>by simp[toP,bj]
 |x::l,s,h,h1,h2=>by
  have hl:=fun y hy=>h y (zaG x hy)
  obtain⟨_,q2,q3,q4,q5⟩:=h x (by simp);simp only[zac]at h1 h2;simp only[toP];rw[dx,dx]
  by_cases hj:x.i 2=(j:Int)
  . rw[fq hj];have hk:¬(x.i 1=1\/x.i 1=2\/x.i 1=6):=by omega
    have b1:(x.i 2==(j:Int))=true:=sZ hj
    by_cases h3:x.i 1=3
    . have a1:amt (toI j) x=x.i 3:=by simp only[amt,toI,kI,b1,sZ h3,zbO,zau]
      have a2:amt (toB j) x=0:=by simp only[amt,toB,kB,kI,sZ h3,zbB,zb7,zbs,zao]
      rw[dS h3,aa (n:=s.1+x.i 3) (by omega) (by omega),Bh j K l _ hl ⟨by simp only;omega,by simp only;omega⟩ ⟨by simp only;omega,by simp only;omega⟩,a1,a2];simp only[zaL];omega
    . have hB:kB x=true:=by simp only[kB,kF,kR,kT,kI,zab,zb9,zbD];omega
      have a1:amt (toI j) x=0:=by simp only[amt,toI,kI,lZ h3,zbs,zao]
      have a2:amt (toB j) x=x.i 3:=by simp only[amt,toB,hB,b1,zbO,zau]
      rw[dR h3,aa (n:=s.2+x.i 3) (by omega) (by omega),Bh j K l _ hl ⟨by simp only;omega,by simp only;omega⟩ ⟨by simp only;omega,by simp only;omega⟩,a1,a2];simp only[zaL];omega
  . have b1:(x.i 2==(j:Int))=false:=lZ hj;have a1:amt (toI j) x=0:=by simp only[amt,toI,b1,zb7,zao]
    have a2:amt (toB j) x=0:=by simp only[amt,toB,b1,zb7,zao]
    rw[mY hj,Bh j K l s hl (by omega) (by omega),a1,a2];simp only[zaL];omega
theorem LL (j K:Nat):∀(l:List Dat) (s:Int × Int),(∀r∈l,pH K r)->(0<=s.1/\s.1+115200000000000000*l.length<=4611686018427387904)->(0<=s.2/\s.2+115200000000000000*l.length<=4611686018427387904)->toR j l s=(s.1+dr (toI j) l,s.2+dr (toB j) l)
 |[],s,_,_,_=>by simp[toR,dr]
 |r::l,s,h,h1,h2=>by
  have hl:=fun y hy=>h y (zaG r hy)
  have q:=h r (by simp);have q1:=q.1;have w1:=oF (toI j) K (r.d 11) q.2;have w2:=oF (toB j) K (r.d 11) q.2;simp only[zac]at h1 h2;simp only[toR,dr];rw[Bh j K (r.d 11) s q.2 (by omega) (by omega),LL j K l _ hl ⟨by simp only;omega,by simp only;omega⟩ ⟨by simp only;omega,by simp only;omega⟩];simp only[zaL];omega
theorem B8 (j K:Nat) {l:List Dat} (h:∀r∈l,pH K r) (hl:l.length<=40):toV j l=(dr (toI j) l,dr (toB j) l):=by
 unfold toV;rw[az (by omega),LL j K l (0,0) h ⟨by simp,by simp only;omega⟩ ⟨by simp,by simp only;omega⟩];simp
theorem qx {K:Nat} {l:List Dat} (h:∀r∈l,pH K r) (hl:l.length<=40):(decide (l.length<=1000000)&&l.all (fun r=>decide ((r.d 11).length<=1000000)))=true:=by
 rw[zab,zal];exact⟨zae (by omega),fun r hr=>zae (by have:=(h r hr).1;omega)⟩
end
end Go.Proofs.YtcbnpnaagbhknaaGreat
