/- Part of a proof: F8, F9, F10, F11, F12, F13, F14, F15, F16, F17, F18, F19, IntsA, IntsB, IntsC, Keep. Conditions: none. -/
import Derived.HandedShaped
import Derived.LoopIn
import Derived.LoopNIn
import Derived.Maps.AppendAt
import Derived.OwnWalkIn
import Derived.RangeFuncBox
import Derived.RangeFuncLeaves
import Derived.RangeFuncNested
import Derived.Shelf.Abstract
import Derived.TacticsInMore
import Derived.Test.YtfaojedfnjdnnaaGreatProg
import Derived.Test.YtfaojedfnjdnnaaGreatQ1
import Derived.Test.YtfaojedfnjdnnaaGreatQ2
import Derived.Test.YtfaojedfnjdnnaaGreatQ3
import Derived.WalkKit
set_option linter.unusedVariables false
set_option linter.unusedSimpArgs false
set_option linter.unnecessarySimpa false
set_option linter.unusedSectionVars false
namespace Go.Proofs.YtfaojedfnjdnnaaGreat.Ev
noncomputable section
noncomputable section
open Go
structure eZ where
 kind:Kd
 n0:Nat
 n1:Nat
 ld:Option Nat
 tgt:Option Nat
 v:SV
 re:Option (TypeId × SV)
 ok:List Nat
 hm:List (Nat × Nat)
def fS (p:Nat->Bool):List eZ->Nat->List (Nat × Nat)
 |[],_=>[(0,0)]
 |r::rs,k=>if p k then fS p rs (k+1)else(r.n0,r.n1)::fS p rs (k+1)
def gO (S:aj) (M:List (Nat × Nat)):aj:={S with hid:=M++S.hid}
def rE (S:aj) (p:Nat->Bool) (rs:List eZ):aj:={S with lock:=S.size,hid:=fS p rs 0++S.hid}
def cm (S S':aj):aj:={S' with lock:=S.lock,hid:=S.hid}
mutual
def ZX:SV->List Nat
 | .ptr id _ _ _=>[id]
 | .buf id _ _=>[id]
 | .sl id _ _ _ _=>[id]
 | .np id _ _ _=>[id]
 | .fn _ x y=>Hy x++Hy y
 | .agg l=>Hy l
 | .tup l=>Hy l
 |_=>[]
def Hy:List SV->List Nat
 |[]=>[]
 |s::l=>ZX s++Hy l
end
def ZJ:aS->List Nat
 | .cells l=>Hy l
 | .cont _=>[]
 | .eS id _ _ _=>[id]
def CQ (S:aj):Nat->List Nat->List Nat->List Nat
 |0,_,seen=>seen
 |_+1,[],seen=>seen
 |f+1,k::r,seen=>match seen.contains k with
  |true=>CQ S f r seen
  |false=>(match S.root.get k with|some B=>CQ S f (ZJ B++r) (k::seen)|none=>CQ S f r (k::seen))
def Xn (S:aj) (ss:List SV):List (Nat × Nat):=
 (fun seen=>(List.range S.size).filterMap fun k=>match seen.contains k with|true=>none|false=>some (k,k+1)) (CQ S 1000 (Hy ss) [])
def rC (S:aj) (fr:List SV) (o:Oper):List (Nat × Nat):=
 match o.op with
 | .call c=>(match c.callee with
  | .value a=>Xn S ((a::c.args.toList).filterMap (ji fr))
  |_=>[])
 |_=>[]
def JF (c:eZ) (y:Nat):Bool:=(match c.tgt with|some x=>x !=y|none=>false)||hidden c.hm y
def Eg:SV->Bool
 | .i _ _=>true
 | .b _=>true
 | .jd=>true
 | .ev=>true
 | .mi=>true
 | .ptr _ _ _ _=>true
 | .buf _ _ _=>true
 | .sl _ _ _ _ _=>true
 | .deep _=>true
 | .dp _ _ _=>true
 |_=>false
def rP:SV->Bool
 | .agg l=>l.all Eg
 |v=>Eg v
def pR:SV->Option Nat
 | .ptr id _ _ _=>some id
 |_=>none
def LF (fr:List SV) (o:Oper):Bool:=
 match o.op with
 | .call c=>(match c.callee,c.args.toList with
  | .builtin .append,s::_=>(match ji fr s with|some v=>Mt v|none=>false)
  |_,_=>true)
 |_=>true
def Vf (l:List SV):Nat->SV->List SV:=
 List.rec (motive:=fun _=>Nat->SV->List SV) (fun _ _=>[]) (fun a ts ih n v=>Nat.rec (motive:=fun _=>List SV) (v::ts) (fun m _=>a::ih m v) n) l
theorem IH:∀(l:List SV) (n:Nat) (v:SV),Vf l n v=l.set n v
 |[],_,_=>rfl
 |_::_,0,_=>rfl
 |a::l,n+1,v=>congrArg (a::·) (IH l n v)
def BL (fr:List SV):Option Tmp->SV->List SV
 |none,_=>fr
 |some d,v=>Vf fr d v
def Cy (A:Array Nat) (B:Nat->Bool) (rs:List eZ) (i:Nat) (a:eZ) (j:Nat) (b:eZ):Bool:=
 match b.kind with
 | .dj=>
  (match a.kind with
   | .pure=>true
   | .load=>ba A i j||(ba A j i||(b.ok.contains i||(decide (i<j)&&(match a.ld with
    |some y=>rP a.v&&((rs.take (j+1)).drop i).all fun r=>match r.kind with
     | .dj=>JF r y
     |_=>true
    |none=>false))||(decide (j<i)&&(match a.ld with
    |some y=>(rP a.v&&decide (y<b.n0))&&((rs.take (i+1)).drop j).all fun r=>match r.kind with
     | .dj=>JF r y
     |_=>true
    |none=>false))))
   | .quiet=>i==j||(ba A i j||(ba A j i||(decide (j<i)&&B i)))
   | .dj=>i==j||(ba A i j||ba A j i))
 |_=>true
def yI (A:Array Nat) (B:Nat->Bool) (rs:List eZ):Bool:=rs.zipIdx.all fun(a,i)=>rs.zipIdx.all fun(b,j)=>Cy A B rs i a j b
def vW (A:Array Nat) (n:Nat):Bool:=(List.range n).all fun i=>(List.range n).all fun j=> !ba A i j||((A.getD i 0)|||(A.getD j 0)==A.getD i 0)
def IY {R:Type} (a b:SV) (r:Option R):Option R:=
 match a,b with
 | .i k x,.i k' y=>(match k==k' with|true=>(bif decide (x=y)then r else none)|false=>none)
 | .b x,.b y=>(bif x==y then r else none)
 |_,_=>none
def Ao {R:Type}:List SV->List SV->Option R->Option R
 |[],[],r=>r
 |a::l,b::m,r=>IY a b (Ao l m r)
 |_,_,_=>none
def LO {R:Type} (a b:SV) (r:Option R):Option R:=
 match a with
 | .agg l=>(match b with| .agg m=>Ao l m r|_=>none)
 |_=>IY a b r
def Yl:SV->Bool
 | .i _ _=>true
 | .b _=>true
 |_=>false
def ZH:SV->Bool
 | .agg l=>l.all Yl
 |v=>Yl v
def Y5 (M:List (Nat × Nat)) (a:eZ):Bool:=match a.ld with|some y=>hidden M y&&(rP a.v&& !ZH a.v)|none=>false
def reS {R:Type} (P:Program) (S:aj) (A:Array Nat) (j:Nat) (M:List (Nat × Nat)):List eZ->Nat->(List Nat->Option R)->Option R
 |[],_,k=>k []
 |a::l,i,k=>
  match a.re with
  |some (t,p)=>
   (match ba A j i||(ba A i j||Y5 M a)with
    |true=>reS P S A j M l (i+1) k
    |false=>uZ P S t p fun v=>LO a.v v (reS P S A j M l (i+1) fun oks=>k (i::oks)))
  |none=>reS P S A j M l (i+1) k
def reL {R:Type} (P:Program) (S:aj) (A:Array Nat) (j:Nat) (M:List (Nat × Nat)) (o:Oper) (rs:List eZ) (k:List Nat->Option R):Option R:=
 match o.op with
 | .store _ _ _=>k []
 |_=>reS P S A j M rs 0 k
section
variable {R : Type} (P : Program) (L : List FuncId) (T : rB) (cx : rK R)
def Pq (A:Array Oper) (fr:List SV) (o:Oper) (yes no:List SV->Option R):Option R:=
 match o.guard with
 |none=>yes fr
 |some (j,want)=>
  match (A[j]?).bind (·.dst)with
  |some d=>
   match fr[d]? with
   |some (.b x)=>(match x with
    |true=>(match want with|true=>yes (fr.set d (.b true))|false=>no (fr.set d (.b true)))
    |false=>(match want with|true=>no (fr.set d (.b false))|false=>yes (fr.set d (.b false))))
   |some (.tup _)=>no fr
   |_=>none
  |none=>none
def NC (A:Array Oper):List Oper->SSt->(SSt->Option R)->Option R
 |[],s,k=>k s
 |o::r,s,k=>
  Pq A s.fr o (fun fr=>opS P T cx (ji fr) o s.hp fun v S=>NC A r ⟨BL fr o.dst v,S⟩ k)
   (fun fr=>NC A r ⟨BL fr o.dst (.tup []),s.hp⟩ k)
def nK (ops:Array Oper) (A:Array Nat):List Oper->Nat->SSt->List eZ->(SSt->Option R)->Option R
 |[],_,s,rs,k=>(match yI A (fQ ops) rs with|true=>k s|false=>none)
 |o::l,i,s,rs,k=>
  Pq ops s.fr o
   (fun fr=>match gE L o with
    | .pure=>opS P T cx (ji fr) o s.hp fun v _=>nK ops A l (i+1) ⟨BL fr o.dst v,s.hp⟩ (rs++[⟨.pure,s.hp.size,s.hp.size,none,none,.any,none,[],[]⟩]) k
    | .load=>
     (match o.op with
      | .load t a=>
       (match ji fr a with
        |some p=>uZ P (rE s.hp (ba A i) rs) t p fun v=>nK ops A l (i+1) ⟨BL fr o.dst v,s.hp⟩ (rs++[⟨.load,s.hp.size,s.hp.size,pR p,none,v,some (t,p),[],[]⟩]) k
        |none=>none)
      |_=>none)
    | .quiet=>
     (match LF fr o with
      |true=>opS P T cx (ji fr) o (rE s.hp (ba A i) rs) fun v S'=>nK ops A l (i+1) ⟨BL fr o.dst v,cm s.hp S'⟩ (rs++[⟨.quiet,s.hp.size,S'.size,none,none,.any,none,[],[]⟩]) k
      |false=>opS P T cx (ji fr) o (gO s.hp (fS (ba A i) rs 0)) fun v S'=>nK ops A l (i+1) ⟨BL fr o.dst v,cm s.hp S'⟩ (rs++[⟨.dj,s.hp.size,S'.size,none,none,.any,none,[],[]⟩]) k)
    | .dj=>opS P T cx (ji fr) o (gO s.hp (rC s.hp fr o++fS (ba A i) rs 0)) fun v S'=>reL P (cm s.hp S') A i (rC s.hp fr o) o rs fun oks=>nK ops A l (i+1) ⟨BL fr o.dst v,cm s.hp S'⟩
     (rs++[⟨.dj,s.hp.size,S'.size,none,(match o.op with| .store _ a _=>(match ji fr a with|some p=>pR p|none=>none)|_=>none),.any,none,oks,rC s.hp fr o⟩]) k)
   (fun fr=>nK ops A l (i+1) ⟨BL fr o.dst (.tup []),s.hp⟩ (rs++[⟨.pure,s.hp.size,s.hp.size,none,none,.any,none,[],[]⟩]) k)
variable (stop : List Nat -> Bool)
def iF:Nat->List Item->SSt->(List Item->SSt->Option R)->Option R
 |0,_,_,_=>none
 |n+1,its,s,k=>
  match its with
  |[]=>k [] s
  | .code p c::r=>
   match stop (9::p)with
   |true=>k (.code p c::r) s
   |false=>
   match c with
   | .skip=>iF n r s k
   | .label _=>iF n r s k
   | .region _ ops d=>
    (match d with
     |false=>NC P T cx ops ops.toList s fun s'=>iF n r s' k
     |true=>
      (match iS ops (Region.before ops) s.fr.length&&vW (Region.before ops) ops.size with
       |true=>nK P L T cx ops (Region.before ops) ops.toList 0 s [] fun s'=>iF n r s' k
       |false=>none))
   | .seq a b=>iF n (.code (0::p) a:: .code (1::p) b::r) s k
   | .cond x a b=>
    (match ji s.fr x with
     |some (.b t)=>(match t with|true=>iF n (.code (0::p) a::r) s k|false=>iF n (.code (1::p) b::r) s k)
     |_=>none)
   | .block id b=>iF n (.code (0::p) b:: .blk id::r) s k
   | .loop b=>iF n (.lp p b::r) s k
   | .exit id=>(match leave id r with|some r'=>iF n r' s k|none=>none)
   | .ret=>k [] s
   |_=>none
  | .lp p b::r=>(match stop p with|true=>k (.lp p b::r) s|false=>iF n (.code (0::p) b:: .lp p b::r) s k)
  | .blk _::r=>iF n r s k
  | .ops .. ::_=>none
def rM (S:aj) (fr:List SV):List ResultVar->(List SV->Option R)->Option R
 |[],k=>k []
 | .tmp t::r,k=>rM S fr r fun vs=>k (fr.getD t (.tup [])::vs)
 | .cell a t::r,k=>uZ P S t (fr.getD a (.tup [])) fun v=>rM S fr r fun vs=>k (v::vs)
def lF:List SV->SV
 |[v]=>v
 |vs=> .tup vs
end
def zC {R:Type} (P:Program) (L:List FuncId) (T:rB) (kn:FuncId->Bool):Nat->rK R
 |0,_,_,_,_=>none
 |n+1,g,args,S,k=>
  match kn g with
  |true=>none
  |false=>
  match P.funcs[g]? with
  |some fn=>
   match fn.body with
   |some c=>
    iF P L T (zC P L T kn n) (fun _=>false) 100000 [.code [] c] ⟨args++List.replicate (fn.ntmps-args.length) (.tup []),S⟩ fun its s=>
     match its with
     |[]=>rM P s.hp s.fr fn.results.toList fun vs=>k (lF vs) s.hp
     |_=>none
   |none=>none
  |none=>none
section
variable {R : Type} {P : Program} {L : List FuncId} {O : br} {T : rB} {φ : Phi} {H : ah} {own : Nat -> Prop} {S : aj}
theorem xC {A:Array Oper} {fr:List SV} {fv:List Value} (hf:DVL φ H own fr fv) {o:Oper} {a b:List SV->Option R} {r:R} (h:Pq A fr o a b=some r):
 ∃fr',DVL φ H own fr' fv/\((eK A fv o=true/\a fr'=some r)\/(eK A fv o=false/\b fr'=some r)):=by
 unfold Pq at h;unfold eK
 split at h
 . rename_i hg;simp only[hg];exact⟨fr,hf,.inl ⟨trivial,h⟩⟩
 . rename_i j want hg;simp only[hg]
   split at h
   . rename_i d hd;rw[hd];dsimp only[Option.bind]
     split at h
     . rename_i x hx;obtain⟨v,h1,h2⟩:=hf.get hx;cases h2;rw[h1];have hset:∀t,t=x->DVL φ H own (fr.set d (.b t)) fv:=by
        rintro t rfl
        have:fr.set d (.b t)=fr:=by
         apply zby;intro m;rw[zbm]
         split
         . rename_i hm;subst hm
           split
           . exact hx.symm
           . rename_i hlt;rw[zaV (by omega)]at hx;cases hx
         . rfl
        rw[this];exact hf
       cases x<;>cases want<;>simp only at h
       . exact⟨_,hset false rfl,.inl ⟨rfl,h⟩⟩
       . exact⟨_,hset false rfl,.inr ⟨rfl,h⟩⟩
       . exact⟨_,hset true rfl,.inr ⟨rfl,h⟩⟩
       . exact⟨_,hset true rfl,.inl ⟨rfl,h⟩⟩
     . rename_i l hx;obtain⟨v,h1,h2⟩:=hf.get hx;cases h2;rw[h1];exact⟨fr,hf,.inr ⟨rfl,h⟩⟩
     . cases h
   . cases h
theorem jT {fr:List SV} {fv:List Value} (hf:DVL φ H own fr fv) (d:Option Tmp) {s:SV} {v:Value} (hv:DV φ H own s v):DVL φ H own (BL fr d s) (iX fv d v):=by
 cases d with
 |none=>exact hf
 |some d=>show DVL φ H own (Vf fr d s) _;rw[IH];exact hf.set d hv
theorem DV.undef:DV φ H own (.tup []) undef:= .tup [] #[] rfl (fun i s v h=>by simp at h)
theorem qj {cx:rK R} (hT:fi P L O T) (hcx:pn P L O cx) {A:Array Oper}:∀{l:List Oper} {fr:List SV} {S:aj} {fv:List Value} {H:ah} {φ:Phi} {k:SSt->Option R} {r:R},
 NBh φ S H->Sim φ S H->DVL φ H (Own φ S) fr fv->NC P T cx A l ⟨fr,S⟩ k=some r->
 ∃φ' fr' S' fv' H',k ⟨fr',S'⟩=some r/\Step φ S H φ' S' H'/\DVL φ' H' (Own φ' S') fr' fv'/\∀its q,di P L O its ⟨fv',H'⟩ q->di P L O (.ops A l::its) ⟨fv,H⟩ q
 |[],fr,S,fv,H,φ,k,r,hnb,hS,hf,h=>⟨φ,fr,S,fv,H,h,Step.refl hS,hf,fun _ _ hm=> .LU hm⟩
 |o::l,fr,S,fv,H,φ,k,r,hnb,hS,hf,h=>by
  unfold NC at h;obtain⟨fr1,hf1,⟨hw,h⟩|⟨hw,h⟩⟩:=xC hf h
  . obtain⟨s,S1,v,H1,ho,⟨φ1,hst,hv⟩,_,hk,_⟩:=mO hT hcx hS (fun x s hs=>jJ hf1 hs) (fun _=>hnb) h;have hext:=hst.ext hS;obtain⟨φ2,fr2,S2,fv2,H2,g1,g2,g3,g4⟩:=qj hT hcx (hnb.step hst) hst.sim (jT (hf1.mono hext) o.dst hv) hk;exact⟨φ2,fr2,S2,fv2,H2,g1,hst.trans g2,g3,fun its q hm=> .op hw ho (g4 its q hm)⟩
  . obtain⟨φ2,fr2,S2,fv2,H2,g1,g2,g3,g4⟩:=qj hT hcx hnb hS (jT hf1 o.dst DV.undef) h;exact⟨φ2,fr2,S2,fv2,H2,g1,g2,g3,fun its q hm=> .Ok hw (g4 its q hm)⟩
end
end
end
end Go.Proofs.YtfaojedfnjdnnaaGreat.Ev
namespace Go.Proofs.YtfaojedfnjdnnaaGreat.Ev
noncomputable section
noncomputable section
open Go
theorem kL (p:Nat->Bool):∀(rs:List eZ) (k x:Nat),hidden (fS p rs k) x=true↔∃j r,rs[j]? =some r/\p (k+j)=false/\r.n0<=x/\x<r.n1:=by
 intro rs
 induction rs with
 |nil=>intro k x;simp[fS,hidden]
 |cons r rs ih=>
  intro k x;have hcons:(∃j r',(r::rs)[j]? =some r'/\p (k+j)=false/\r'.n0<=x/\x<r'.n1)↔(p k=false/\r.n0<=x/\x<r.n1)\/∃j r',rs[j]? =some r'/\p (k+1+j)=false/\r'.n0<=x/\x<r'.n1:=by
   constructor
   . rintro⟨j,r',h1,h2,h3,h4⟩
     cases j with
     |zero=>simp at h1;subst h1;exact .inl ⟨by simpa using h2,h3,h4⟩
     |succ j=>exact .inr ⟨j,r',by simpa using h1,by rw[show k+1+j=k+(j+1) by omega];exact h2,h3,h4⟩
   . rintro(⟨h1,h2,h3⟩|⟨j,r',h1,h2,h3,h4⟩)
     . exact⟨0,r,by simp,by simpa using h1,h2,h3⟩
     . exact⟨j+1,r',by simpa using h1,by rw[show k+(j+1)=k+1+j by omega];exact h2,h3,h4⟩
  rw[hcons];unfold fS;cases hp:p k with
  |true=>simp only[zbd];rw[ih];simp
  |false=>
   simp only[Bool.false_eq_true,zbn,hidden,zba,zae,zaf];rw[ih];simp
theorem rz (p:Nat->Bool):∀(rs:List eZ) (k:Nat) (l:List (Nat × Nat)),fS p rs k++l≠[]
 |[],_,_=>by simp[fS]
 |r::rs,k,l=>by
  unfold fS
  split
  . exact rz p rs _ l
  . simp
section
variable {R : Type} {P : Program} {L : List FuncId} {O : br} {T : rB} {A : Array Nat}
def SR (rs:List eZ) (j id:Nat):Prop:=∃r,rs[j]? =some r/\r.n0<=id/\id<r.n1
def ER (rs:List Rec) (j x:Nat):Prop:=∃r,rs[j]? =some r/\r.h0.size<=x/\x<r.h1.size
def kindOk:Kd->Kd->Prop
 | .dj,.quiet=>True
 | .dj,.dj=>True
 | .quiet,.quiet=>True
 | .pure,.pure=>True
 | .load,.load=>True
 |_,_=>False
def calm (rs:List eZ) (i k y:Nat):Prop:=∀(j:Nat) (c:eZ),i<=j->j<=k->rs[j]? =some c->c.kind= .dj->JF c y=true
structure RI (P : Program) (A : Array Nat) (base : Nat) (φ : Phi) (S : aj) (H : ah) (rsS : List eZ) (rsE : List Rec) : Prop where
 sim:Sim φ S H
 len:rsS.length=rsE.length
 ban:∀x,base<=x->φ.ban x
 SA:∀id B x,S.get id=some B->φ id=some (some x)->x<base\/∃j m,SR rsS j id/\ER rsE m x/\(m=j\/ba A j m=true)
 esz:∀(j:Nat) (r:Rec),rsE[j]? =some r->base<=r.h0.size/\r.h0.size<=r.h1.size/\r.h1.size<=H.size
 Lo:∀(j j':Nat) (r r':Rec),j<j'->rsE[j]? =some r->rsE[j']? =some r'->r.h1.size<=r'.h0.size
 ssz:∀(j:Nat) (r:eZ),rsS[j]? =some r->r.n0<=S.size/\r.n1<=S.size
 Td:base<=H.size
 kinds:∀(j:Nat) (a:eZ) (b:Rec),rsS[j]? =some a->rsE[j]? =some b->kindOk a.kind b.kind
 MD:∀(i:Nat) (a:eZ) (b:Rec),rsS[i]? =some a->rsE[i]? =some b->a.kind= .load->∃t p,b.ld=some (t,p)/\(rP a.v=true->eqv b.v b.v=true)/\
  ∀y,a.ld=some y->∃x0 o,p= .pointer (some ⟨x0,o,none⟩)/\φ y=some (some x0)/\(calm rsS i rsS.length y->(∃B,S.get y=some B)/\cE P H t p=some b.v)/\
   ∀(k:Nat) (d:Rec),i<k->rsE[k]? =some d->calm rsS i k y->cE P d.h1 t p=some b.v
 res:∀(i:Nat) (a:eZ) (b:Rec) (t:TypeId) (p:SV),rsS[i]? =some a->rsE[i]? =some b->a.re=some (t,p)->∃pv,b.ld=some (t,pv)/\DV φ H (Own φ S) p pv/\DV φ H (Own φ S) a.v b.v
 back:∀(j:Nat) (c:eZ) (d:Rec),rsS[j]? =some c->rsE[j]? =some d->∀y B x0,S.get y=some B->φ y=some (some x0)->y<c.n0->calm rsS j rsS.length y->d.h0.get x0=H.get x0
 Tf:∀(i:Nat) (a:eZ) (b:Rec),rsS[i]? =some a->rsE[i]? =some b->a.kind= .load->∀y,a.ld=some y->∀(j:Nat) (c:eZ) (d:Rec),j<i->rsS[j]? =some c->rsE[j]? =some d->y<c.n0->calm rsS j i y->
  ∃t p,b.ld=some (t,p)/\cE P (Ev.dh d.h0 (ba A i) (rsE.take j)) t p=some b.v
 oks:∀(j:Nat) (c:eZ) (d:Rec),rsS[j]? =some c->rsE[j]? =some d->∀i∈c.ok,i<j/\∃b t pv v,rsE[i]? =some b/\b.ld=some (t,pv)/\cE P d.h1 t pv=some v/\eqv b.v v=true
variable {base : Nat} {φ : Phi} {S : aj} {H : ah} {rsS : List eZ} {rsE : List Rec}
def wM (A:Array Nat) (n:Nat):Prop:=∀i j m,i<n->j<n->ba A i j=true->ba A j m=true->ba A i m=true
theorem FM {n:Nat} (h:vW A n=true):wM A n:=by
 intro i j m hi hj h1 h2;unfold vW at h;rw[zao]at h;have h:=h i (zbE.2 hi);rw[zao]at h;have h:=h j (zbE.2 hj);rw[h1]at h;simp only[zbf,zb7,zaE]at h;unfold ba at h2⊢;rw[<-h,Nat.testBit_or,h2,Bool.or_true]
def Phi.shut (φ:Phi) (S:aj):Phi:=⟨φ.m,Own φ S⟩
theorem RI.Sn (I:RI P A base φ S H rsS rsE) (p:Nat->Bool) {x:Nat} (hx:x<base\/H.size<=x):hidden (eH p rsE 0) x=false:=by
 cases hh:hidden (eH p rsE 0) x with
 |false=>rfl
 |true=>
  obtain⟨j,r,h1,_,h2,h3⟩:=(fI p rsE 0 x).1 hh;have:=I.esz j r h1;omega
theorem RI.WB (I:RI P A base φ S H rsS rsE) (p:Nat->Bool) {id:Nat} (hx:S.size<=id):hidden (fS p rsS 0) id=false:=by
 cases hh:hidden (fS p rsS 0) id with
 |false=>rfl
 |true=>
  obtain⟨j,r,h1,_,h2,h3⟩:=(kL p rsS 0 id).1 hh;have:=I.ssz j r h1;omega
theorem zj:∀{l:List (Nat × Nat)} {x:Nat},hidden l x=true->∃p∈l,p.1<=x/\x<p.2
 |[],x,h=>by cases h
 |(a,b)::l,x,h=>by
  simp only[hidden,zba,zae,zaf]at h;rcases h with h|h
  . exact⟨(a,b),by simp,h⟩
  . obtain⟨p,h1,h2⟩:=zj h;exact⟨p,zaN _ h1,h2⟩
theorem NK {S:aj} {fr:List SV} {o:Oper} {id:Nat} (h:S.size<=id):hidden (rC S fr o) id=false:=by
 cases hh:hidden (rC S fr o) id with
 |false=>rfl
 |true=>
  obtain⟨p,h1,h2,h3⟩:=zj hh;unfold rC at h1
  split at h1
  . split at h1
    . unfold Xn at h1;obtain⟨k,hk,hk2⟩:=zbY.1 h1;have hk:=zbE.1 hk
      split at hk2
      . cases hk2
      . cases hk2;have h3:id<k+1:=h3;omega
    . cases h1
  . cases h1
theorem uo {K:ah} {p:Nat->Bool} {rs:List Rec} {x:Nat} {c:Blk} (h:K.get x=some c) (hh:hidden (eH p rs 0) x=false):(dh K p rs).get x=some c:=by
 obtain⟨h1,h2⟩:=ah.aI h;unfold ah.get;rw[if_pos (show x<(dh K p rs).size by have:x<K.size:=ah.bo h;exact this),show hidden (dh K p rs).hid x=false by
  show hidden (eH p rs 0++K.hid) x=false;rw[gP,hh,h2];rfl]
 exact h1
theorem DH {p:Nat->Bool} {rs:List Rec} {j x:Nat} (h:hidden (eH p rs 0) x=false):hidden (eH p (rs.take j) 0) x=false:=by
 cases hh:hidden (eH p (rs.take j) 0) x with
 |false=>rfl
 |true=>
  obtain⟨k,r,h1,h2,h3⟩:=(fI p _ 0 x).1 hh;rw[zau]at h1
  split at h1
  . rw[(fI p rs 0 x).2 ⟨k,r,h1,h2,h3⟩]at h;cases h
  . cases h1
theorem RI.seen (I:RI P A base φ S H rsS rsE) {i n:Nat} (hn:wM A n) (hi:i<n) (hlen:rsS.length<=n) {id x:Nat} {B:aS} (hB:S.get id=some B) (hv:hidden (fS (ba A i) rsS 0) id=false) (hx:φ id=some (some x)):
 hidden (eH (ba A i) rsE 0) x=false:=by
 rcases I.SA id B x hB hx with h|⟨j,m,⟨a,h1,h2,h3⟩,⟨b,h4,h5,h6⟩,hjm⟩
 . exact I.Sn _ (.inl h)
 . cases hh:hidden (eH (ba A i) rsE 0) x with
   |false=>rfl
   |true=>
    exfalso;obtain⟨j',r,g1,g2,g3,g4⟩:=(fI _ rsE 0 x).1 hh;rw[zaC]at g2;have hm:j'=m:=by
     rcases Nat.lt_trichotomy j' m with h|h|h
     . have:=I.Lo j' m r b h g1 h4;omega
     . exact h
     . have:=I.Lo m j' b r h h4 g1;omega
    subst hm;have hpj:ba A i j=true:=by
     cases hp:ba A i j with
     |true=>rfl
     |false=>
      have:=(kL (ba A i) rsS 0 id).2 ⟨j,a,h1,by rw[zaC];exact hp,h2,h3⟩;rw[this]at hv;cases hv
    have hj:j<n:=by
     have:=(zan.1 h1).1;omega
    rcases hjm with rfl|hjm
    . rw[hpj]at g2;cases g2
    . rw[hn i j j' hi hj hpj hjm]at g2;cases g2
theorem jv {a b:List (Nat × Nat)} {x:Nat} (h1:hidden a x=false) (h2:hidden b x=false):hidden (a++b) x=false:=by rw[gP,h1,h2];rfl
theorem ik {a b:List (Nat × Nat)} {x:Nat} (h:hidden (a++b) x=false):hidden a x=false/\hidden b x=false:=by
 rw[gP,zbO]at h;exact h
theorem ah.fz {H:ah} {k:Nat} (h1:k<H.size) (h2:hidden H.hid k=false):H.get k=H.root.get k:=by
 unfold ah.get;rw[if_pos h1,h2];rfl
theorem RI.nT (I:RI P A base φ S H rsS rsE) (p:Nat->Bool) {x:Nat} {c:Blk} (h:H.get x=some c) (hh:hidden (eH p rsE 0) x=false):(dh H p rsE).get x=some c:=by
 obtain⟨h1,h2⟩:=ah.aI h;exact(ah.fz (H:=dh H p rsE) (show x<H.size from ah.bo h) (jv hh h2)).trans h1
theorem mY {p:Nat->Bool} {x:Nat} {c:Blk} (h:(dh H p rsE).get x=some c):H.get x=some c/\hidden (eH p rsE 0) x=false:=by
 obtain⟨h1,h2⟩:=ah.aI h;obtain⟨h3,h4⟩:=ik h2;have hlt:x<H.size:=ah.bo (H:=dh H p rsE) h;exact⟨(ah.fz (H:=H) hlt h4).trans h1,h3⟩
theorem cd {M:List (Nat × Nat)} {id:Nat} {B:aS} (h:(gO S M).get id=some B):S.get id=some B/\hidden M id=false:=by
 obtain⟨h1,h2⟩:=aj.aI h;obtain⟨h3,h4⟩:=ik h2;have hlt:id<S.size:=aj.bo (S:=gO S M) h;exact⟨(aj.fz (S:=S) hlt h4).trans h1,h3⟩
theorem fJ {p:Nat->Bool} {id:Nat} {B:aS} (h:(rE S p rsS).get id=some B):S.get id=some B/\hidden (fS p rsS 0) id=false:=by
 obtain⟨h1,h2⟩:=aj.aI h;obtain⟨h3,h4⟩:=ik h2;have hlt:id<S.size:=aj.bo (S:=rE S p rsS) h;exact⟨(aj.fz (S:=S) hlt h4).trans h1,h3⟩
theorem RI.dh (I:RI P A base φ S H rsS rsE) {i n:Nat} (hn:wM A n) (hi:i<n) (hlen:rsS.length<=n):
 Ext φ H (Own φ S) (φ.shut S) (dh H (ba A i) rsE) (Own (φ.shut S) (rE S (ba A i) rsS))/\Sim (φ.shut S) (rE S (ba A i) rsS) (dh H (ba A i) rsE):=by
 have hown:∀x,Own (φ.shut S) (rE S (ba A i) rsS) x->Own φ S x:=by
  rintro x (h|⟨id,B,h1,h2⟩)
  . exact h
  . exact .inr ⟨id,B,(fJ h1).1,h2⟩
 have hext:Ext φ H (Own φ S) (φ.shut S) (Ev.dh H (ba A i) rsE) (Own (φ.shut S) (rE S (ba A i) rsS)):=by
  refine⟨fun _ _ h=>h,fun x c h1 h2=>⟨?_,fun h=>h2 (hown x h)⟩,fun id x c' _ h=>⟨c',h,rfl⟩⟩;have hb:x<base:=by
   rcases zcc x base with h|h
   . exact h
   . exact absurd (.inl (I.ban x h)) h2
  exact I.nT _ h1 (I.Sn _ (.inl hb))
 refine⟨hext,⟨?_, ?_,I.sim.fresh,I.sim.lt,zam _,zam _, ?_⟩⟩
 . intro id B h;obtain⟨h1,h2⟩:=fJ h;rcases I.sim.blk id B h1 with h3|⟨x,c,h3,h4,h5,h6⟩
   . exact .inl h3
   . refine .inr ⟨x,c,h3,I.nT _ h4 (I.seen hn hi hlen h1 h2 h3),fun hl=> ?_,h6.mono hext⟩;have:id<S.size:=aj.bo h1;have:S.size<=id:=hl;omega
 . intro id id' B B' x h1 h2 h3 h4;exact I.sim.inj id id' B B' x (fJ h1).1 (fJ h2).1 h3 h4
 . intro x hx;exact jv (I.Sn _ (.inr hx)) (I.sim.gQ x hx)
theorem RI.Xs (I:RI P A base φ S H rsS rsE) (M:List (Nat × Nat)):
 Ext φ H (Own φ S) (φ.shut S) H (Own (φ.shut S) (gO S M))/\Sim (φ.shut S) (gO S M) H:=by
 have hown:∀x,Own (φ.shut S) (gO S M) x->Own φ S x:=by
  rintro x (h|⟨id,B,h1,h2⟩)
  . exact h
  . exact .inr ⟨id,B,(cd h1).1,h2⟩
 have hext:Ext φ H (Own φ S) (φ.shut S) H (Own (φ.shut S) (gO S M)):=
  ⟨fun _ _ h=>h,fun x c h1 h2=>⟨h1,fun h=>h2 (hown x h)⟩,fun id x c' _ h=>⟨c',h,rfl⟩⟩
 refine⟨hext,⟨?_, ?_,I.sim.fresh,I.sim.lt,I.sim.iZ,I.sim.dK,I.sim.gQ⟩⟩
 . intro id B h;rcases I.sim.blk id B (cd h).1 with h3|⟨x,c,h3,h4,h5,h6⟩
   . exact .inl h3
   . exact .inr ⟨x,c,h3,h4,h5,h6.mono hext⟩
 . intro id id' B B' x h1 h2 h3 h4;exact I.sim.inj id id' B B' x (cd h1).1 (cd h2).1 h3 h4
theorem Sim.at {S':aj} {φ':Phi} (hS:Sim φ S H) (hle:∀id y,φ id=some y->φ' id=some y) {id x:Nat} {B:aS} (hB:S.get id=some B) (h:φ' id=some (some x)):φ id=some (some x):=by
 rcases hS.blk id B hB with⟨h1,_⟩|⟨y,c,h1,_⟩
 . rw[hle _ _ h1]at h;cases h
 . rw[hle _ _ h1]at h;rw[h1];exact h
theorem RI.cR (I:RI P A base φ S H rsS rsE) {i:Nat} {φ1:Phi} {S1:aj} {H1:ah} (hst:Step (φ.shut S) (rE S (ba A i) rsS) (Ev.dh H (ba A i) rsE) φ1 S1 H1) (hfr:Fr (Ev.dh H (ba A i) rsE) H1):
 Step φ S H ⟨φ1.m,φ.ban⟩ (cm S S1) (Ev.cR H H1)/\(∀s v,DV φ1 H1 (Own φ1 S1) s v->DV ⟨φ1.m,φ.ban⟩ (Ev.cR H H1) (Own ⟨φ1.m,φ.ban⟩ (cm S S1)) s v)/\
 (∀x,x<H.size->(Ev.cR H H1).get x=H.get x)/\
 (∀id B x,(cm S S1).get id=some B->φ1 id=some (some x)->(id<S.size/\S.get id=some B/\φ id=some (some x))\/(S.size<=id/\id<S1.size/\H.size<=x/\x<H1.size))/\
 (∀id,id<S.size->(cm S S1).get id=S.get id):=by
 have hHs:H.size<=H1.size:=hst.eU;have hSs:S.size<=S1.size:=hst.ssize;have hE1:∀x,x<H.size->(Ev.cR H H1).get x=H.get x:=by
  intro x hx;unfold ah.get;rw[if_pos (show x<(Ev.cR H H1).size from zaB hx hHs),if_pos hx];show(if hidden H.hid x=true then none else H1.root.get x)=_;rw[hfr.root x hx hx];rfl
 have hH1hid:H1.hid=eH (ba A i) rsE 0++H.hid:=hst.gQ;have hS1hid:S1.hid=fS (ba A i) rsS 0++S.hid:=hst.zH;have hE2:∀x,H.size<=x->(Ev.cR H H1).get x=H1.get x:=by
  intro x hx;unfold ah.get;have e1:=I.sim.gQ x hx;have e2:hidden H1.hid x=false:=by rw[hH1hid];exact jv (I.Sn _ (.inr hx)) e1
  show(if x<H1.size then(if hidden H.hid x=true then none else H1.root.get x)else none)=_;rw[e1,e2]
 have hE3:∀x c,H1.get x=some c->(Ev.cR H H1).get x=some c:=by
  intro x c h;obtain⟨h1,h2⟩:=ah.aI h;rw[hH1hid]at h2;exact(ah.fz (H:=Ev.cR H H1) (show x<H1.size from ah.bo h) (ik h2).2).trans h1
 have hS1:∀id,id<S.size->(cm S S1).get id=S.get id:=by
  intro id hid;unfold aj.get;rw[if_pos (show id<(cm S S1).size from zaB hid hSs),if_pos hid];show(if hidden S.hid id=true then none else S1.root.get id)=_;rw[hst.oJ id hid (.inl hid)];rfl
 have hS2:∀id B,S.size<=id->(cm S S1).get id=some B->S1.get id=some B:=by
  intro id B hid h;obtain⟨h1,h2⟩:=aj.aI h;exact(aj.fz (S:=S1) (show id<S1.size from aj.bo (S:=cm S S1) h) (by rw[hS1hid];exact jv (I.WB _ hid) h2)).trans h1
 have hle:∀id y,φ id=some y->φ1 id=some y:=hst.le;have hnew:∀id B x,S.size<=id->S1.get id=some B->φ1 id=some (some x)->H.size<=x/\x<H1.size:=by
  intro id B x h1 h2 h3;rcases hst.sim.blk id B h2 with⟨h4,_⟩|⟨y,c,h4,h5,h6,_⟩
  . rw[h3]at h4;cases h4
  . rw[h3]at h4;cases h4;refine⟨?_,ah.bo h5⟩;have:=h6 (by rw[hst.iZ];exact h1);rw[hst.dK]at this;exact this
 have hold:∀id B x,S.get id=some B->φ1 id=some (some x)->φ id=some (some x):=fun id B x h1 h2=>Sim.at (S':=S) (φ':=φ1) I.sim hle h1 h2
 have hbanv:φ1.ban=Own φ S:=hst.ban
 let φ':Phi:=⟨φ1.m,φ.ban⟩
 have hownI:∀x,fp φ' (cm S S1) x->fp φ S x\/fp φ1 S1 x/\H.size<=x:=by
  rintro x ⟨id,B,h1,h2⟩
  by_cases hid:id<S.size
  . rw[hS1 id hid]at h1;exact .inl ⟨id,B,h1,hold id B x h1 h2⟩
  . have h3:=hS2 id B (by omega) h1;exact .inr ⟨⟨id,B,h3,h2⟩,(hnew id B x (by omega) h3 h2).1⟩
 have hext:Ext φ H (Own φ S) φ' (Ev.cR H H1) (Own φ' (cm S S1)):=by
  refine⟨hle,fun x c h1 h2=> ?_,fun id x c' h1 h2=> ?_⟩
  . have hlt:=ah.bo h1;refine⟨by rw[hE1 x hlt];exact h1, ?_⟩
    rintro(h|h)
    . exact h2 (.inl h)
    . rcases hownI x h with h|⟨_,h⟩
      . exact h2 (.inr h)
      . omega
  . have hlt:=I.sim.lt id x h1;refine⟨c', ?_,rfl⟩;have:=hfr.root x hlt hlt;exact this.symm.trans h2
 have hext1:Ext φ1 H1 (Own φ1 S1) φ' (Ev.cR H H1) (Own φ' (cm S S1)):=by
  refine⟨fun _ _ h=>h,fun x c h1 h2=>⟨hE3 x c h1, ?_⟩,fun id x c' _ h=>⟨c',h,rfl⟩⟩
  rintro(h|h)
  . exact h2 (.inl (by rw[hbanv];exact .inl h))
  . rcases hownI x h with h|⟨h,_⟩
    . exact h2 (.inl (by rw[hbanv];exact .inr h))
    . exact h2 (.inr h)
 refine⟨⟨⟨?_, ?_, ?_, ?_, ?_, ?_, ?_⟩,hle,rfl, ?_,fun x hx _=>hE1 x hx, ?_,hHs,rfl,rfl,hSs,rfl,rfl, ?_⟩,fun s v h=>h.mono hext1,hE1, ?_,hS1⟩
 . intro id B h
   by_cases hid:id<S.size
   . rw[hS1 id hid]at h;rcases I.sim.blk id B h with h3|⟨x,c,h3,h4,h5,h6⟩
     . exact .inl ⟨hle _ _ h3.1,h3.2⟩
     . exact .inr ⟨x,c,hle _ _ h3,by rw[hE1 x (ah.bo h4)];exact h4,h5,h6.mono hext⟩
   . have h1:=hS2 id B (by omega) h;rcases hst.sim.blk id B h1 with h3|⟨x,c,h3,h4,h5,h6⟩
     . exact .inl h3
     . refine .inr ⟨x,c,h3,hE3 x c h4,fun _=> ?_,h6.mono hext1⟩;have:=(hnew id B x (by omega) h1 h3).1;exact zaM I.sim.dK this
 . intro id id' B B' x h1 h2 h3 h4
   by_cases hid:id<S.size
   . rw[hS1 id hid]at h1;have g1:=hold id B x h1 h3
     by_cases hid':id'<S.size
     . rw[hS1 id' hid']at h2;exact I.sim.inj id id' B B' x h1 h2 g1 (hold id' B' x h2 h4)
     . have:=(hnew id' B' x (by omega) (hS2 id' B' (by omega) h2) h4).1;have:=I.sim.lt id x g1;omega
   . have g1:=hS2 id B (by omega) h1
     by_cases hid':id'<S.size
     . rw[hS1 id' hid']at h2;have:=(hnew id B x (by omega) g1 h3).1;have:=I.sim.lt id' x (hold id' B' x h2 h4);omega
     . exact hst.sim.inj id id' B B' x g1 (hS2 id' B' (by omega) h2) h3 h4
 . exact hst.sim.fresh
 . exact hst.sim.lt
 . exact zaM I.sim.iZ hSs
 . exact zaM I.sim.dK hHs
 . intro x hx;exact I.sim.gQ x (zaM hHs hx)
 . intro x hx h;rcases hownI x h with h|⟨_,h⟩
   . exact h
   . omega
 . intro x c' hx h;exact⟨c',(hfr.root x hx hx).symm.trans h,rfl⟩
 . intro id h1 _;exact hst.oJ id h1 (.inl h1)
 . intro id B x h1 h2
   by_cases hid:id<S.size
   . rw[hS1 id hid]at h1;exact .inl ⟨hid,h1,hold id B x h1 h2⟩
   . have g1:=hS2 id B (by omega) h1;obtain⟨g2,g3⟩:=hnew id B x (by omega) g1 h2;exact .inr ⟨by omega,aj.bo g1,g2,g3⟩
theorem RI.LY (I:RI P A base φ S H rsS rsE) {M:List (Nat × Nat)} (hM:∀id,S.size<=id->hidden M id=false) {φ1:Phi} {S1:aj} {H1:ah} (hst:Step (φ.shut S) (gO S M) H φ1 S1 H1):
 Step φ S H ⟨φ1.m,φ.ban⟩ (cm S S1) H1/\(∀s v,DV φ1 H1 (Own φ1 S1) s v->DV ⟨φ1.m,φ.ban⟩ H1 (Own ⟨φ1.m,φ.ban⟩ (cm S S1)) s v)/\
 (∀id B x,(cm S S1).get id=some B->φ1 id=some (some x)->(id<S.size/\(∃B,S.get id=some B)/\φ id=some (some x))\/
  (S.size<=id/\id<S1.size/\((H.size<=x/\x<H1.size)\/∃id0 B0,S.get id0=some B0/\hidden (M) id0=false/\φ id0=some (some x)))):=by
 have hSs:S.size<=S1.size:=hst.ssize;have hS1hid:S1.hid=M++S.hid:=hst.zH;have hle:∀id y,φ id=some y->φ1 id=some y:=hst.le;have hbanv:φ1.ban=Own φ S:=hst.ban;have hold:∀id B x,S.get id=some B->φ1 id=some (some x)->φ id=some (some x):=fun id B x h1 h2=>Sim.at (S':=S) (φ':=φ1) I.sim hle h1 h2
 have hcase:∀id B,(cm S S1).get id=some B->(id<S.size/\hidden (M) id=true/\S.get id=some B)\/(hidden (M) id=false/\S1.get id=some B):=by
  intro id B h;obtain⟨h1,h2⟩:=aj.aI h;have h1:S1.root.get id=some B:=h1;have h2:hidden S.hid id=false:=h2;have hlt:id<S1.size:=aj.bo (S:=cm S S1) h;cases hm:hidden (M) id with
  |false=>exact .inr ⟨rfl,(aj.fz (S:=S1) hlt (by rw[hS1hid];exact jv hm h2)).trans h1⟩
  |true=>
   have hid:id<S.size:=by
    rcases zcc id S.size with h|h
    . exact h
    . rw[hM id h]at hm;cases hm
   refine .inl ⟨hid,rfl, ?_⟩;have hn:(gO S M).get id=none:=by
    cases hg:(gO S M).get id with
    |none=>rfl
    |some C=>rw[(cd hg).2]at hm;cases hm
   have:=hst.oJ id hid (.inr hn);rw[aj.fz hid h2];exact this.symm.trans h1
 have hseen:∀id B,id<S.size->hidden (M) id=false->S1.get id=some B->∃C,S.get id=some C:=by
  intro id B h1 h2 h3;cases hg:(gO S M).get id with
  |some C=>exact⟨C,(cd hg).1⟩
  |none=>
   have e:=hst.oJ id h1 (.inr hg);rw[aj.Iy hg h1 hst.zH e]at h3;cases h3
 let φ':Phi:=⟨φ1.m,φ.ban⟩
 have hownI:∀x,fp φ' (cm S S1) x->fp φ S x\/fp φ1 S1 x:=by
  rintro x ⟨id,B,h1,h2⟩
  rcases hcase id B h1 with⟨_,_,h⟩|⟨_,h⟩
  . exact .inl ⟨id,B,h,hold id B x h h2⟩
  . exact .inr ⟨id,B,h,h2⟩
 have hhidden:∀id B x,S.get id=some B->hidden (M) id=true->φ id=some (some x)->¬fp (φ.shut S) (gO S M) x:=by
  rintro id B x h1 h2 h3 ⟨id',B',h4,h5⟩
  obtain⟨h6,h7⟩:=cd h4;have:=I.sim.inj id id' B B' x h1 h6 h3 h5;subst this;rw[h7]at h2;cases h2
 have hsub:∀x,fp (φ.shut S) (gO S M) x->fp φ S x:=fun x ⟨id,B,h1,h2⟩=>⟨id,B,(cd h1).1,h2⟩
 have hsubW:∀x,ox (φ.shut S) (gO S M) x->ox φ S x:=fun x ⟨id,B,h0,h1,h2⟩=>⟨id,B,h0,(cd h1).1,h2⟩
 have hext:Ext φ H (Own φ S) φ' H1 (Own φ' (cm S S1)):=by
  refine⟨hle,fun x c h1 h2=> ?_,fun id x c' h1 h2=>hst.len x c' (I.sim.lt id x h1) h2⟩;have hlt:=ah.bo h1;refine⟨by rw[hst.fC x hlt (fun h=>h2 (.inr (hsub x h.toI)))];exact h1, ?_⟩
  rintro(h|h)
  . exact h2 (.inl h)
  . rcases hownI x h with h|h
    . exact h2 (.inr h)
    . exact h2 (.inr (hsub x (hst.own x hlt h)))
 have hext1:Ext φ1 H1 (Own φ1 S1) φ' H1 (Own φ' (cm S S1)):=by
  refine⟨fun _ _ h=>h,fun x c h1 h2=>⟨h1, ?_⟩,fun id x c' _ h=>⟨c',h,rfl⟩⟩
  rintro(h|h)
  . exact h2 (.inl (by rw[hbanv];exact .inl h))
  . rcases hownI x h with h|h
    . exact h2 (.inl (by rw[hbanv];exact .inr h))
    . exact h2 (.inr h)
 refine⟨⟨⟨?_, ?_,hst.sim.fresh,hst.sim.lt,zaM I.sim.iZ hSs,hst.sim.dK,hst.sim.gQ⟩,hle,rfl, ?_,fun x hx h=>hst.fC x hx (fun h'=>h (hsubW x h')),hst.len,hst.eU,hst.dK,hst.gQ,hSs,rfl,rfl, ?_⟩,fun s v h=>h.mono hext1, ?_⟩
 . intro id B h;rcases hcase id B h with⟨hid,hm,h1⟩|⟨hm,h1⟩
   . rcases I.sim.blk id B h1 with h3|⟨x,c,h3,h4,h5,h6⟩
     . exact .inl ⟨hle _ _ h3.1,h3.2⟩
     . exact .inr ⟨x,c,hle _ _ h3,by rw[hst.fC x (ah.bo h4) (fun h=>hhidden id B x h1 hm h3 h.toI)];exact h4,by rw[hst.dK];exact h5,h6.mono hext⟩
   . rcases hst.sim.blk id B h1 with h3|⟨x,c,h3,h4,h5,h6⟩
     . exact .inl h3
     . exact .inr ⟨x,c,h3,h4,fun hl=>h5 (by rw[hst.iZ];exact hl),h6.mono hext1⟩
 . intro id id' B B' x h1 h2 h3 h4;have mix:∀id id' B B',S.get id=some B->hidden (M) id=true->φ1 id=some (some x)->S1.get id'=some B'->φ1 id'=some (some x)->False:=by
    intro id id' B B' g1 g2 g3 g4 g5;have g6:=hold id B x g1 g3;exact hhidden id B x g1 g2 g6 (hst.own x (I.sim.lt id x g6) ⟨id',B',g4,g5⟩)
   rcases hcase id B h1 with⟨hid,hm,g1⟩|⟨hm,g1⟩
   . rcases hcase id' B' h2 with⟨hid',hm',g2⟩|⟨hm',g2⟩
     . exact I.sim.inj id id' B B' x g1 g2 (hold id B x g1 h3) (hold id' B' x g2 h4)
     . exact(mix id id' B B' g1 hm h3 g2 h4).elim
   . rcases hcase id' B' h2 with⟨hid',hm',g2⟩|⟨hm',g2⟩
     . exact(mix id' id B' B g2 hm' h4 g1 h3).elim
     . exact hst.sim.inj id id' B B' x g1 g2 h3 h4
 . intro x hx h;rcases hownI x h with h|h
   . exact h
   . exact hsub x (hst.own x hx h)
 . intro id h1 h2;refine hst.oJ id h1 ?_
   rcases h2 with h2|h2
   . exact .inl h2
   . refine .inr ?_
     cases hg:(gO S M).get id with
     |none=>rfl
     |some C=>rw[(cd hg).1]at h2;cases h2
 . intro id B x h1 h2;rcases hcase id B h1 with⟨hid,hm,g1⟩|⟨hm,g1⟩
   . exact .inl ⟨hid,⟨B,g1⟩,hold id B x g1 h2⟩
   . by_cases hid:id<S.size
     . obtain⟨C,g2⟩:=hseen id B hid hm g1;exact .inl ⟨hid,⟨C,g2⟩,hold id C x g2 h2⟩
     . refine .inr ⟨by omega,aj.bo g1, ?_⟩;have hlt:=hst.sim.lt id x h2
       by_cases hx:x<H.size
       . obtain⟨id0,B0,g3,g4⟩:=hst.own x hx ⟨id,B,g1,h2⟩;obtain⟨g5,g6⟩:=cd g3;exact .inr ⟨id0,B0,g5,g6,g4⟩
       . exact .inl ⟨by omega,hlt⟩
end
end
end
end Go.Proofs.YtfaojedfnjdnnaaGreat.Ev
namespace Go.Proofs.YtfaojedfnjdnnaaGreat.Ev
noncomputable section
noncomputable section
open Go
section
variable {R : Type} {P : Program} {L : List FuncId} {O : br} {T : rB} {A : Array Nat} {base : Nat} {φ : Phi} {S : aj} {H : ah} {rsS : List eZ} {rsE : List Rec}
theorem vw {H H':ah} {t:TypeId} {x0 o:Nat} (h:H'.get x0=H.get x0):cE P H' t (.pointer (some ⟨x0,o,none⟩))=cE P H t (.pointer (some ⟨x0,o,none⟩)):=by
 unfold cE cT;simp only[h]
theorem SR.ext {j id:Nat} {a:eZ} (h:SR rsS j id):SR (rsS++[a]) j id:=by
 obtain⟨r,h1,h2,h3⟩:=h;exact⟨r,by rw[zax (zan.1 h1).1];exact h1,h2,h3⟩
theorem ER.ext {j x:Nat} {b:Rec} (h:ER rsE j x):ER (rsE++[b]) j x:=by
 obtain⟨r,h1,h2,h3⟩:=h;exact⟨r,by rw[zax (zan.1 h1).1];exact h1,h2,h3⟩
theorem bP {α:Type} {l:List α} {a x:α} {j:Nat} (h:(l++[a])[j]? =some x):(j<l.length/\l[j]? =some x)\/(j=l.length/\x=a):=by
 rw[zaU]at h
 split at h
 . rename_i hj;exact .inl ⟨hj,h⟩
 . rename_i hj;have hlt:=(zan.1 h).1;have:j=l.length:=by simp at hlt;omega
   subst this;simp at h;exact .inr ⟨rfl,h.symm⟩
theorem RI.add (I:RI P A base φ S H rsS rsE) {φ':Phi} {S':aj} {H':ah} {a:eZ} {b:Rec} (hst:Step φ S H φ' S' H') (hb0:b.h0=H) (hb1:b.h1=H') (ha0:a.n0=S.size) (ha1:a.n1=S'.size) (hk:kindOk a.kind b.kind)
 (hcorr:∀id B x,S'.get id=some B->φ' id=some (some x)->(id<S.size/\(∃B,S.get id=some B)/\φ id=some (some x))\/
  (S.size<=id/\id<S'.size/\((H.size<=x/\x<H'.size)\/x<base\/∃m,ER rsE m x/\ba A rsS.length m=true)))
 (hld:a.kind= .load->∃t p,b.ld=some (t,p)/\(rP a.v=true->eqv b.v b.v=true)/\∀y,a.ld=some y->∃x0 o,p= .pointer (some ⟨x0,o,none⟩)/\φ' y=some (some x0)/\(∃B,S'.get y=some B)/\cE P H' t p=some b.v)
 (hstill:∀y B x0,S.get y=some B->φ y=some (some x0)->(a.kind= .dj->JF a y=true)->(∃B',S'.get y=some B')/\H'.get x0=H.get x0)
 (hre:∀t p,a.re=some (t,p)->∃pv,b.ld=some (t,pv)/\DV φ' H' (Own φ' S') p pv/\DV φ' H' (Own φ' S') a.v b.v) (hok:∀i∈a.ok,∃b' t pv v,rsE[i]? =some b'/\b'.ld=some (t,pv)/\cE P b.h1 t pv=some v/\eqv b'.v v=true)
 (hlate:a.kind= .load->∀y,a.ld=some y->∀(j:Nat) (c:eZ) (d:Rec),rsS[j]? =some c->rsE[j]? =some d->y<c.n0->calm rsS j rsS.length y->∃t p,b.ld=some (t,p)/\cE P (Ev.dh d.h0 (ba A rsS.length) (rsE.take j)) t p=some b.v):
 RI P A base φ' S' H' (rsS++[a]) (rsE++[b]):=by
 have hl:=I.len;have hext':=hst.ext I.sim;have hres:∀(i:Nat) (x:eZ) (y:Rec) (t:TypeId) (p:SV),(rsS++[a])[i]? =some x->(rsE++[b])[i]? =some y->x.re=some (t,p)->∃pv,y.ld=some (t,pv)/\DV φ' H' (Own φ' S') p pv/\DV φ' H' (Own φ' S') x.v y.v:=by
  intro i x y t p h1 h2 h3;rcases bP h1 with⟨g1,h1⟩|⟨g1,rfl⟩
  . rcases bP h2 with⟨_,h2⟩|⟨g2,_⟩
    . obtain⟨pv,q1,q2,q3⟩:=I.res i x y t p h1 h2 h3;exact⟨pv,q1,q2.mono hext',q3.mono hext'⟩
    . omega
  . rcases bP h2 with⟨g2,_⟩|⟨_,rfl⟩
    . omega
    . exact hre t p h3
 have hoks:∀(j:Nat) (c:eZ) (d:Rec),(rsS++[a])[j]? =some c->(rsE++[b])[j]? =some d->∀i∈c.ok,i<j/\∃b' t pv v,(rsE++[b])[i]? =some b'/\b'.ld=some (t,pv)/\cE P d.h1 t pv=some v/\eqv b'.v v=true:=by
  intro j c d h1 h2 i hi;have up:∀b',rsE[i]? =some b'->i<rsE.length/\(rsE++[b])[i]? =some b':=fun b' h=>by
   have hlt:=(zan.1 h).1;exact⟨hlt,by rw[zax hlt];exact h⟩
  rcases bP h1 with⟨g1,h1⟩|⟨g1,rfl⟩
  . rcases bP h2 with⟨_,h2⟩|⟨g2,_⟩
    . obtain⟨q0,b',t,pv,v,q1,q2⟩:=I.oks j c d h1 h2 i hi;exact⟨q0,b',t,pv,v,(up b' q1).2,q2⟩
    . omega
  . rcases bP h2 with⟨g2,_⟩|⟨_,rfl⟩
    . omega
    . obtain⟨b',t,pv,v,q1,q2⟩:=hok i hi;exact⟨by have:=(up b' q1).1;omega,b',t,pv,v,(up b' q1).2,q2⟩
 have hback:∀(j:Nat) (c:eZ) (d:Rec),(rsS++[a])[j]? =some c->(rsE++[b])[j]? =some d->∀y B x0,S'.get y=some B->φ' y=some (some x0)->y<c.n0->calm (rsS++[a]) j (rsS++[a]).length y->d.h0.get x0=H'.get x0:=by
  intro j c d h1 h2 y B x0 hB hx hy hc;have hj:j<=rsS.length:=by
   have:=(zan.1 h1).1;simp at this;omega
  have hold:y<S.size->(∃B0,S.get y=some B0)/\φ y=some (some x0):=by
   intro hlt;rcases hcorr y B x0 hB hx with⟨_,g2,g3⟩|⟨g1,_⟩
   . exact⟨g2,g3⟩
   . omega
  have hnow:y<S.size->H'.get x0=H.get x0:=by
   intro hlt;obtain⟨⟨B0,g1⟩,g2⟩:=hold hlt;exact(hstill y B0 x0 g1 g2 (fun hl2=>hc rsS.length a hj (by simp) (by simp) hl2)).2
  rcases bP h1 with⟨g1,h1⟩|⟨g1,rfl⟩
  . rcases bP h2 with⟨_,h2⟩|⟨g2,_⟩
    . have hs:=I.ssz j c h1;have hlt:y<S.size:=by omega
      obtain⟨⟨B0,g3⟩,g4⟩:=hold hlt;rw[hnow hlt];exact I.back j c d h1 h2 y B0 x0 g3 g4 hy (fun m q e1 e2 e3 e4=>hc m q e1 (by simp;omega) (by rw[zax (zan.1 e3).1];exact e3) e4)
    . omega
  . rcases bP h2 with⟨g2,_⟩|⟨_,rfl⟩
    . omega
    . rw[hb0];exact(hnow (by rw[<-ha0];exact hy)).symm
 have hlates:∀(i:Nat) (x:eZ) (y:Rec),(rsS++[a])[i]? =some x->(rsE++[b])[i]? =some y->x.kind= .load->∀z,x.ld=some z->∀(j:Nat) (c:eZ) (d:Rec),j<i->(rsS++[a])[j]? =some c->(rsE++[b])[j]? =some d->z<c.n0->calm (rsS++[a]) j i z->
  ∃t p,y.ld=some (t,p)/\cE P (Ev.dh d.h0 (ba A i) ((rsE++[b]).take j)) t p=some y.v:=by
  intro i x y h1 h2 hk2 z hz j c d hji h3 h4 hlt hc;have hi:i<=rsS.length:=by
   have:=(zan.1 h1).1;simp at this;omega
  have tk:(rsE++[b]).take j=rsE.take j:=List.take_append_of_le_length (by omega);rw[tk];have h5:rsS[j]? =some c:=by
   rcases bP h3 with⟨_,h⟩|⟨h,_⟩
   . exact h
   . omega
  have h6:rsE[j]? =some d:=by
   rcases bP h4 with⟨_,h⟩|⟨h,_⟩
   . exact h
   . omega
  have hc':∀k,k<=i->calm rsS j k z:=fun k hk m q e1 e2 e3 e4=>hc m q e1 (by omega) (by rw[zax (zan.1 e3).1];exact e3) e4
  rcases bP h1 with⟨g1,h1⟩|⟨g1,rfl⟩
  . rcases bP h2 with⟨_,h2⟩|⟨g2,_⟩
    . exact I.Tf i x y h1 h2 hk2 z hz j c d hji h5 h6 hlt (hc' i (zam _))
    . omega
  . rcases bP h2 with⟨g2,_⟩|⟨_,rfl⟩
    . omega
    . subst g1;exact hlate hk2 z hz j c d h5 h6 hlt (hc' _ (zam _))
 refine⟨hst.sim,by simp[hl],fun x hx=>by rw[hst.ban];exact I.ban x hx, ?_, ?_, ?_, ?_,zaM I.Td hst.eU, ?_, ?_,hres,hback,hlates,hoks⟩
 . intro id B x h1 h2;rcases hcorr id B x h1 h2 with⟨_,⟨B0,g2⟩,g3⟩|⟨g1,g2,g3⟩
   . rcases I.SA id B0 x g2 g3 with h|⟨j,m,h3,h4,h5⟩
     . exact .inl h
     . exact .inr ⟨j,m,h3.ext,h4.ext,h5⟩
   . have hnew:SR (rsS++[a]) rsS.length id:=⟨a,by simp,by rw[ha0];exact g1,by rw[ha1];exact g2⟩
     rcases g3 with g3|g3|⟨m,g3,g4⟩
     . exact .inr ⟨rsS.length,rsS.length,hnew,⟨b,by rw[hl];simp,by rw[hb0];exact g3.1,by rw[hb1];exact g3.2⟩,.inl rfl⟩
     . exact .inl g3
     . exact .inr ⟨rsS.length,m,hnew,g3.ext,.inr g4⟩
 . intro j r h;rcases bP h with⟨_,h⟩|⟨_,rfl⟩
   . obtain⟨h1,h2,h3⟩:=I.esz j r h;exact⟨h1,h2,zaM h3 hst.eU⟩
   . rw[hb0,hb1];exact⟨I.Td,hst.eU,zam _⟩
 . intro j j' r r' hjj h h';rcases bP h' with⟨hlt,h'⟩|⟨_,rfl⟩
   . rcases bP h with⟨_,h⟩|⟨h0,_⟩
     . exact I.Lo j j' r r' hjj h h'
     . omega
   . rcases bP h with⟨_,h⟩|⟨h0,_⟩
     . rw[hb0];exact(I.esz j r h).2.2
     . omega
 . intro j r h;rcases bP h with⟨_,h⟩|⟨_,rfl⟩
   . exact⟨zaM (I.ssz j r h).1 hst.ssize,zaM (I.ssz j r h).2 hst.ssize⟩
   . exact⟨by rw[ha0];exact hst.ssize,by rw[ha1];exact zam _⟩
 . intro j x y h1 h2;rcases bP h1 with⟨g1,h1⟩|⟨g1,rfl⟩
   . rcases bP h2 with⟨_,h2⟩|⟨g2,_⟩
     . exact I.kinds j x y h1 h2
     . omega
   . rcases bP h2 with⟨g2,_⟩|⟨_,rfl⟩
     . omega
     . exact hk
 . intro i x y h1 h2 hkl;rcases bP h1 with⟨g1,h1⟩|⟨g1,rfl⟩
   . rcases bP h2 with⟨_,h2⟩|⟨g2,_⟩
     . obtain⟨t,p,e1,e2,e3⟩:=I.MD i x y h1 h2 hkl;refine⟨t,p,e1,e2,fun z hz=> ?_⟩;obtain⟨x0,o,rfl,e4,e5,e6⟩:=e3 z hz;have key:calm (rsS++[a]) i rsS.length z->(∃B,S'.get z=some B)/\cE P H' t (.pointer (some ⟨x0,o,none⟩))=some y.v:=by
        intro hc;have hc':calm rsS i rsS.length z:=fun j c h1 h2 h3 h4=>hc j c h1 h2 (by rw[zax (zan.1 h3).1];exact h3) h4
        obtain⟨⟨B,f1⟩,f2⟩:=e5 hc';obtain⟨f3,f4⟩:=hstill z B x0 f1 e4 (fun hl=>hc rsS.length a (by omega) (zam _) (by simp) hl);exact⟨f3,by rw[vw f4];exact f2⟩
       refine⟨x0,o,rfl,hst.le _ _ e4,fun hc=>key (fun j c h1 h2 h3 h4=>hc j c h1 (by simp;omega) h3 h4),fun k d hik hd hc=> ?_⟩;rcases bP hd with⟨f1,hd⟩|⟨f1,rfl⟩
       . exact e6 k d hik hd (fun j c h1 h2 h3 h4=>hc j c h1 h2 (by rw[zax (zan.1 h3).1];exact h3) h4)
       . rw[hb1];exact(key (fun j c h1 h2 h3 h4=>hc j c h1 (by omega) h3 h4)).2
     . omega
   . rcases bP h2 with⟨g2,_⟩|⟨_,rfl⟩
     . omega
     . obtain⟨t,p,e1,e2,e3⟩:=hld hkl;refine⟨t,p,e1,e2,fun z hz=> ?_⟩;obtain⟨x0,o,e4,e5,e6,e7⟩:=e3 z hz;refine⟨x0,o,e4,e5,fun _=>⟨e6,e7⟩,fun k d hik hd _=> ?_⟩;have:=(zan.1 hd).1;simp at this;omega
theorem RI.same (I:RI P A base φ S H rsS rsE) {a:eZ} {b:Rec} (hb0:b.h0=H) (hb1:b.h1=H) (ha0:a.n0=S.size) (ha1:a.n1=S.size) (hk:kindOk a.kind b.kind) (hnl:a.kind≠.dj)
 (hld:a.kind= .load->∃t p,b.ld=some (t,p)/\(rP a.v=true->eqv b.v b.v=true)/\∀y,a.ld=some y->∃x0 o,p= .pointer (some ⟨x0,o,none⟩)/\φ y=some (some x0)/\(∃B,S.get y=some B)/\cE P H t p=some b.v)
 (hre:∀t p,a.re=some (t,p)->∃pv,b.ld=some (t,pv)/\DV φ H (Own φ S) p pv/\DV φ H (Own φ S) a.v b.v) (hok:a.ok=[])
 (hlate:a.kind= .load->∀y,a.ld=some y->∀(j:Nat) (c:eZ) (d:Rec),rsS[j]? =some c->rsE[j]? =some d->y<c.n0->calm rsS j rsS.length y->∃t p,b.ld=some (t,p)/\cE P (Ev.dh d.h0 (ba A rsS.length) (rsE.take j)) t p=some b.v):
 RI P A base φ S H (rsS++[a]) (rsE++[b]):=
 I.add (Step.refl I.sim) hb0 hb1 ha0 ha1 hk (fun id B x h1 h2=> .inl ⟨aj.bo h1,⟨B,h1⟩,h2⟩) hld (fun y B x0 h1 _ _=>⟨⟨B,h1⟩,rfl⟩) hre (fun i hi=>by rw[hok]at hi;cases hi) hlate
theorem Lq {own:Nat->Prop} {s:SV} {v:Value} (hv:DV φ H own s v) (h:Eg s=true):eqc v v=true:=by
 cases hv<;>simp_all [Eg,eqc]
theorem zX:∀{vs:List Value},(∀v∈vs,eqc v v=true)->zP vs vs=true
 |[],_=>rfl
 |v::vs,h=>by
  simp only[zP,zae];exact⟨h v (by simp),zX (fun u hu=>h u (by simp[hu]))⟩
theorem LP {own:Nat->Prop} {s:SV} {v:Value} (hv:DV φ H own s v) (h:rP s=true):eqv v v=true:=by
 cases hv with
 |agg l x' hx vx=>
  simp only[rP,zao]at h;simp only[eqv];refine zX fun u hu=> ?_
  obtain⟨i,hi⟩:=zbH hu;have hlt:i<l.length:=by
   have:=(zan.1 hi).1;simp at this;omega
  have h1:=zah hlt;exact Lq (vx i _ u h1 (by simpa using hi)) (h _ (zaP h1))
 |_=>simp_all [rP,Eg,eqv,eqc]
theorem Fz {own:Nat->Prop} {p:SV} {v:Value} {y:Nat} (hp:DV φ H own p v) (h:pR p=some y):∃x0 o,v= .pointer (some ⟨x0,o,none⟩)/\φ y=some (some x0):=by
 unfold pR at h
 split at h
 . cases h;cases hp with
   |ptr _ _ _ _ x hx=>exact⟨x,_,rfl,hx⟩
 . cases h
theorem zB {t:TypeId} {p:SV} {k:SV->Option R} {r:R} {y:Nat} (h:uZ P S t p k=some r) (hy:pR p=some y):∃B,S.get y=some B:=by
 unfold pR at hy
 split at hy
 . cases hy;unfold uZ at h
   split at h
   . unfold IE at h;simp only at h
     split at h
     . exact⟨_,by assumption⟩
     . exact⟨_,by assumption⟩
     . exact⟨_,by assumption⟩
     . cases h
   . cases h
 . cases hy
theorem zG {p:Nat->Bool} {t u:TypeId} {s x v:Value} {H2:ah} (h:dN P (dh H p rsE) t u s x=some (v,H2)):dN P H t u s x=some (v,cR H H2):=by
 have hc:∀b off n cs,cT (dh H p rsE) b off n=some cs->cT H b off n=some cs:=by
  intro b off n cs hg;unfold cT at hg⊢;cases hb:(dh H p rsE).get b with
  |none=>simp[hb]at hg
  |some q=>rw[(mY hb).1];simpa[hb]using hg
 have hs:∀size n x cs,bj (dh H p rsE) size n x=some cs->bj H size n x=some cs:=by
  intro size n x cs h;unfold bj at h⊢
  split at h
  . exact h
  . exact hc _ _ _ _ h
  . cases h
 have hset:∀b off vs H',setCells (dh H p rsE) b off vs=some H'->False:=by
  intro b off vs H' h;unfold setCells at h
  split at h
  . rename_i k hk;have hlt:b<H.size:=ah.bo (H:=dh H p rsE) hk
    split at h
    . rename_i hm;simp only[zae,aN]at hm;have:H.size<=b:=hm.1.1;omega
    . cases h
  . cases h
 unfold dN at h⊢
 split at h
 . rename_i htu;rw[if_pos htu]
   split at h
   . rename_i elem base sLen sCap a n c hu
     try simp only[hu]
     split at h
     . rename_i i hi
       try simp only[hi]
       split at h
       . rename_i z hz
         try simp only[hz]
         split at h
         . rename_i zc new hzc hnew
           try simp only[hzc,hs _ _ _ _ hnew]
           split at h
           . rename_i hcond;rw[if_pos hcond]
             split at h
             . cases h;rfl
             . split at h
               . cases h;rfl
               . rename_i b off sp
                 split at h
                 . rename_i hd;simp only[zai]at h;obtain⟨H',h1,_⟩:=h;exact(hset _ _ _ _ h1).elim
                 . rename_i hd
                   try simp only[hd]
                   split at h
                   . rename_i old hold
                     try simp only[hs _ _ _ _ hold]
                     split at h
                     . split at h
                       . rename_i k hk;have hlt:b<H.size:=ah.bo (H:=dh H p rsE) hk
                         split at h
                         . rename_i hm;simp only[zae,aN]at hm;have:H.size<=b:=hm.1.1.1.1;omega
                         . cases h
                       . cases h
                     . cases h;rfl
                   . cases h
           . cases h
         . cases h
       . cases h
     . cases h
   . cases h
 . rename_i htu;rw[if_neg htu];unfold xr at h⊢
   split at h
   . rename_i hu hun
     try simp only[hu,hun]
     split at h
     . rename_i i hi
       try simp only[hi]
       split at h
       . rename_i z hz
         try simp only[hz]
         split at h
         . rename_i zc hzc
           try simp only[hzc]
           split at h
           . rename_i hcond;rw[if_pos hcond]
             split at h
             . cases h;rfl
             . cases h;rfl
           . cases h
         . cases h
       . cases h
     . cases h
   . cases h
theorem qT {p:Nat->Bool} {cl:Cl} {ρ:Operand->Option Value} {o:Oper} (ha:jI o=true) {v:Value} {H2:ah} (h:opE P cl ρ o (dh H p rsE)=some (v,H2)):opE P cl ρ o H=some (v,cR H H2):=by
 unfold jI at ha
 split at ha
 . rename_i c hc;unfold opE at h⊢;rw[hc]at h⊢
   split at ha
   . rename_i hb
     try simp only[hb]at h⊢
     split at h
     . rename_i args hargs
       try simp only[jb]at h⊢
       split at h
       . exact zG h
       . cases h
     . cases h
   . cases ha
 . cases ha
theorem uJ {own:Nat->Prop} {a b:SV} {u v:Value} {x:Option R} {r:R} (ha:DV φ H own a u) (hb:DV φ H own b v) (h:IY a b x=some r):x=some r/\eqc u v=true:=by
 unfold IY at h
 split at h
 . split at h
   . rename_i n k' m bb hk;cases ha;cases hb
     by_cases e:n=m
     . subst e;rw[zaa rfl,zaw]at h;exact⟨h,by simp only[eqc,hk,zbg,beq_self_eq_true]⟩
     . rw[zap e,zal]at h;cases h
   . cases h
 . cases ha;cases hb;rename_i x y;cases x<;>cases y<;>simp at h<;>exact⟨h,rfl⟩
 . cases h
theorem uy {own:Nat->Prop}:∀{l m:List SV} {us vs:List Value} {x:Option R} {r:R},us.length=l.length->(∀(i:Nat) s u,l[i]? =some s->us[i]? =some u->DV φ H own s u)->vs.length=m.length->(∀(i:Nat) s v,m[i]? =some s->vs[i]? =some v->DV φ H own s v)->Ao l m x=some r->x=some r/\zP us vs=true
 |[],[],us,vs,x,r,h1,_,h2,_,h=>by
  rw[zaH h1,zaH h2];exact⟨h,rfl⟩
 |a::l,b::m,u::us,v::vs,x,r,h1,g1,h2,g2,h=>by
  unfold Ao at h;obtain⟨h3,h4⟩:=uJ (g1 0 a u rfl rfl) (g2 0 b v rfl rfl) h;obtain⟨h5,h6⟩:=uy (by simpa using h1) (fun i s w e1 e2=>g1 (i+1) s w e1 e2) (by simpa using h2) (fun i s w e1 e2=>g2 (i+1) s w e1 e2) h3;exact⟨h5,by simp only[zP,h4,h6,Bool.and_self]⟩
 |[],_::_,_,_,_,_,_,_,_,_,h=>by simp[Ao]at h
 |_::_,[],_,_,_,_,_,_,_,_,h=>by simp[Ao]at h
 |_::_,_::_,[],_,_,_,h1,_,_,_,_=>by simp at h1
 |_::_,_::_,_::_,[],_,_,_,_,h2,_,_=>by simp at h2
theorem My {u v:Value} (h:eqc u v=true):eqv u v=true:=by
 unfold eqv
 split
 . simp[eqc]at h
 . exact h
theorem D6 {own:Nat->Prop} {a b:SV} {u v:Value} {x:Option R} {r:R} (ha:DV φ H own a u) (hb:DV φ H own b v) (h:LO a b x=some r):x=some r/\eqv u v=true:=by
 unfold LO at h
 split at h
 . split at h
   . cases ha with
     |agg l x1 hx vx=>
     cases hb with
     |agg m x2 hy vy=>
     exact uy (by simpa using hx.symm) (fun i s u e1 e2=>vx i s u e1 (by simpa using e2)) (by simpa using hy.symm) (fun i s u e1 e2=>vy i s u e1 (by simpa using e2)) h
   . cases h
 . obtain⟨h1,h2⟩:=uJ ha hb h;exact⟨h1,My h2⟩
theorem pD {φ':Phi} {S':aj} {H':ah} (I:RI P A base φ S H rsS rsE) (he:Ext φ H (Own φ S) φ' H' (Own φ' S')) (hS:Sim φ' S' H') {j:Nat} {M:List (Nat × Nat)}:∀{l:List eZ} {i:Nat} {k:List Nat->Option R} {r:R},l=rsS.drop i->reS P S' A j M l i k=some r->
 ∃oks,k oks=some r/\∀m∈oks,∃b t pv v,rsE[m]? =some b/\b.ld=some (t,pv)/\cE P H' t pv=some v/\eqv b.v v=true
 |[],i,k,r,_,h=>⟨[],h,fun m hm=>by cases hm⟩
 |a::l,i,k,r,hl,h=>by
  have ha:rsS[i]? =some a:=by
   have:(rsS.drop i)[0]? =some a:=by rw[<-hl];rfl
   rwa [zaA,za5]at this
  have hl':l=rsS.drop (i+1):=by rw[<-List.drop_drop,<-hl];rfl
  unfold reS at h
  split at h
  . rename_i t p hre
    split at h
    . exact pD I he hS hl' h
    . have hi:i<rsE.length:=by rw[<-I.len];exact(zan.1 ha).1
      obtain⟨pv,q1,q2,q3⟩:=I.res i a _ t p ha (zah hi) hre;obtain⟨s,u,g1,g2,g3⟩:=lP hS (q2.mono he) h;obtain⟨h5,h6⟩:=D6 (q3.mono he) g2 g3;obtain⟨oks,h7,h8⟩:=pD I he hS hl' h5;refine⟨i::oks,h7,fun m hm=> ?_⟩;rcases zaT.1 hm with rfl|hm
      . exact⟨_,t,pv,u,zah hi,q1,g1,h6⟩
      . exact h8 m hm
  . exact pD I he hS hl' h
theorem JU {φ':Phi} {S':aj} {H':ah} (I:RI P A base φ S H rsS rsE) (he:Ext φ H (Own φ S) φ' H' (Own φ' S')) (hS:Sim φ' S' H') {j:Nat} {M:List (Nat × Nat)} {o:Oper} {k:List Nat->Option R} {r:R} (h:reL P S' A j M o rsS k=some r):
 ∃oks,k oks=some r/\∀m∈oks,∃b t pv v,rsE[m]? =some b/\b.ld=some (t,pv)/\cE P H' t pv=some v/\eqv b.v v=true:=by
 unfold reL at h
 split at h
 . exact⟨[],h,fun m hm=>by cases hm⟩
 . exact pD I he hS (by simp) h
theorem uq {cx:rK R} (hT:fi P L O T) (hcx:pn P L O cx) {ops:Array Oper} (htr:wM A ops.size):∀{l:List Oper} {i:Nat} {fr:List SV} {S:aj} {rsS:List eZ} {k:SSt->Option R} {r:R} {φ:Phi} {H:ah} {rsE:List Rec} {fv:List Value},
 nK P L T cx ops A l i ⟨fr,S⟩ rsS k=some r->RI P A base φ S H rsS rsE->DVL φ H (Own φ S) fr fv->rsS.length=i->i+l.length=ops.size->
 ∃φ' fr' S' fv' H' rsS' rsE',k ⟨fr',S'⟩=some r/\RI P A base φ' S' H' rsS' rsE'/\Step φ S H φ' S' H'/\DVL φ' H' (Own φ' S') fr' fv'/\yI A (fQ ops) rsS'=true/\
  ∃N,fT P L (bH P L O N) ops A l i ⟨fv,H⟩ rsE=some (⟨fv',H'⟩,rsE')
 |[],i,fr,S,rsS,k,r,φ,H,rsE,fv,h,I,hf,hi,hn=>by
  unfold nK at h
  split at h
  . rename_i hl;exact⟨φ,fr,S,fv,H,rsS,rsE,h,I,Step.refl I.sim,hf,hl,0,rfl⟩
  . cases h
 |o::l,i,fr,S,rsS,k,r,φ,H,rsE,fv,h,I,hf,hi,hn=>by
  unfold nK at h;have hilt:i<ops.size:=by simp at hn;omega
  have hlen:rsS.length<=ops.size:=by omega
  have step:∀{φ1:Phi} {fr1:List SV} {S1:aj} {H1:ah} {fv1:List Value} {a:eZ} {b:Rec},RI P A base φ1 S1 H1 (rsS++[a]) (rsE++[b])->Step φ S H φ1 S1 H1->DVL φ1 H1 (Own φ1 S1) fr1 fv1->
   (∃N,fx P L (bH P L O N) ops A i o ⟨fv,H⟩ rsE=some b)->b.h1=H1->fv1=iX fv o.dst b.v->nK P L T cx ops A l (i+1) ⟨fr1,S1⟩ (rsS++[a]) k=some r->
   ∃φ' fr' S' fv' H' rsS' rsE',k ⟨fr',S'⟩=some r/\RI P A base φ' S' H' rsS' rsE'/\Step φ S H φ' S' H'/\DVL φ' H' (Own φ' S') fr' fv'/\yI A (fQ ops) rsS'=true/\
    ∃N,fT P L (bH P L O N) ops A (o::l) i ⟨fv,H⟩ rsE=some (⟨fv',H'⟩,rsE'):=by
   rintro φ1 fr1 S1 H1 fv1 a b I1 hst hf1 ⟨N,hrec⟩ rfl rfl hd
   obtain⟨φ',fr',S',fv',H',rsS',rsE',g1,g2,g3,g4,g5,M,g6⟩:=uq hT hcx htr hd I1 hf1 (by simp[hi]) (by simp at hn⊢;omega);refine⟨φ',fr',S',fv',H',rsS',rsE',g1,g2,hst.trans g3,g4,g5,max N M, ?_⟩;rw[fT,qH (dI (Nat.le_max_left N M)) hrec];exact kH (dI (Nat.le_max_right N M)) g6
  obtain⟨fr1,hf1,⟨hw,h⟩|⟨hw,h⟩⟩:=xC hf h
  . have hρ:∀x s,ji fr1 x=some s->∃v,dM fv x=some v/\DV φ H (Own φ S) s v:=fun x s hs=>jJ hf1 hs
    split at h
    ·
     rename_i hk;obtain⟨s,S1,v,H1,⟨N,ho⟩,_,hpure,hd,_⟩:=mO (L:=L) hT hcx I.sim hρ (fun hp=>absurd hk hp) h;obtain⟨rfl,hv⟩:=hpure hk;exact step (a:=⟨.pure,S1.size,S1.size,none,none,.any,none,[],[]⟩) (b:=⟨.pure,v,H,H,none⟩) (I.same rfl rfl rfl rfl trivial (by simp) (fun h=>by cases h) (fun _ _ h=>by cases h) rfl (fun h=>by cases h)) (Step.refl I.sim) (jT hf1 o.dst hv) ⟨N,by unfold fx;simp only[hw,hk,ho]⟩ rfl rfl hd
    ·
     rename_i hk
     split at h
     . rename_i t a hop
       split at h
       . rename_i p hp;obtain⟨pv,hpv,hdp⟩:=hρ a p hp;obtain⟨he,hs⟩:=I.dh htr hilt hlen;obtain⟨s,u,g1,g2,g3⟩:=lP hs (hdp.mono he) h;have hfull:cE P H t pv=some u/\DV φ H (Own φ S) s u:=by
          have hmono:cE P H t pv=some u:=by
           unfold cE at g1⊢
           split at g1
           . split at g1
             . rename_i hu hinf;have hc:∀b off n cs,cT (Ev.dh H (ba A i) rsE) b off n=some cs->cT H b off n=some cs:=by
                intro b off n cs hg;unfold cT at hg⊢;cases hb:(Ev.dh H (ba A i) rsE).get b with
                |none=>simp[hb]at hg
                |some q=>rw[(mY hb).1];simpa[hb]using hg
               split at g1
               . rename_i ha
                 try simp only[ha]
                 simp only[zai]at g1⊢;obtain⟨cs,c1,c2⟩:=g1;exact⟨cs,hc _ _ _ _ c1,c2⟩
               . rename_i ha
                 try simp only[ha]
                 split at g1
                 . rename_i hcs;rw[hc _ _ _ _ hcs];exact g1
                 . cases g1
             . cases g1
           . cases g1
          refine⟨hmono,DV.mono (φ:=φ.shut S) (φ':=φ) (H':=H) (own':=Own φ S) ⟨fun _ _ h=>h,fun x c h1 h2=>⟨(mY h1).1,fun h3=>h2 (.inl h3)⟩,fun id x c' _ h=>⟨c',h,rfl⟩⟩ g2⟩
         have hlate:∀y,pR p=some y->∀(j:Nat) (c:eZ) (d:Rec),rsS[j]? =some c->rsE[j]? =some d->y<c.n0->calm rsS j rsS.length y->∃t' p',some (t,pv)=some (t',p')/\cE P (Ev.dh d.h0 (ba A rsS.length) (rsE.take j)) t' p'=some u:=by
          intro y hy j c d hc hd hlt hcalm;obtain⟨x0,o',e1,e2⟩:=Fz hdp hy;obtain⟨B,hB⟩:=zB h hy;obtain⟨hB1,hB2⟩:=fJ hB;have hv:=I.seen htr hilt hlen hB1 hB2 e2;have hbk:=I.back j c d hc hd y B x0 hB1 e2 hlt hcalm;refine⟨t,pv,rfl, ?_⟩;subst e1;rw[vw (H:=Ev.dh H (ba A i) rsE) ?_]
          . exact g1
          . rcases I.sim.blk y B hB1 with⟨q1,_⟩|⟨x1,cc,q1,q2,_⟩
            . rw[e2]at q1;cases q1
            . rw[e2]at q1;cases q1;rw[uo q2 hv,hi];exact uo (by rw[hbk];exact q2) (DH hv)
         exact step (a:=⟨.load,S.size,S.size,pR p,none,s,some (t,p),[],[]⟩) (b:=⟨.load,u,H,H,some (t,pv)⟩) (I.same rfl rfl rfl rfl trivial (by simp) (fun _=>⟨t,pv,rfl,fun hself=>LP hfull.2 hself,fun y hy=>by
          obtain⟨x0,o,e1,e2⟩:=Fz hdp hy;refine⟨x0,o,e1,e2, ?_,hfull.1⟩;obtain⟨B,hB⟩:=zB h hy;exact⟨B,(fJ hB).1⟩⟩) (fun t' p' h=>by cases h;exact⟨pv,rfl,hdp,hfull.2⟩) rfl (fun _ y hy j c d hc hd hlt hcalm=>hlate y hy j c d hc hd hlt hcalm)) (Step.refl I.sim) (jT hf1 o.dst hfull.2) ⟨0,by unfold fx;simp only[hw,hk,hop,hpv,g1]⟩ rfl rfl g3
       . cases h
     . cases h
    ·
     rename_i hk
     split at h
     . obtain⟨he,hs⟩:=I.dh htr hilt hlen;obtain⟨s,S1,v,H1,⟨N,ho⟩,⟨φ1,hst,hv⟩,_,hd,_⟩:=mO (L:=L) hT hcx hs (fun x s hs=>by
        obtain⟨v,h1,h2⟩:=hρ x s hs;exact⟨v,h1,h2.mono he⟩) (fun _ e=>absurd e (rz _ _ _ _)) h
       have hfr:=oi (E3 hT.1 N) ho;obtain⟨u1,u2,u3,u4,u5⟩:=I.cR hst hfr;have hext:=u1.ext I.sim;refine step (φ1:=⟨φ1.m,φ.ban⟩) (S1:=cm S S1) (H1:=Ev.cR H H1) (a:=⟨.quiet,S.size,S1.size,none,none,.any,none,[],[]⟩) (b:=⟨.quiet,v,H,Ev.cR H H1,none⟩) ?_ u1 (jT (hf1.mono hext) o.dst (u2 s v hv)) ⟨N,by unfold fx;simp only[hw,hk,ho]⟩ rfl rfl hd;refine I.add u1 rfl rfl rfl rfl trivial (fun id B x h1 h2=> ?_) (fun h=>by cases h) (fun y B x0 h1 h2 _=>⟨⟨B,by rw[u5 y (aj.bo h1)];exact h1⟩,u3 x0 (I.sim.lt y x0 h2)⟩) (fun _ _ h=>by cases h) (fun _ h=>by cases h) (fun h=>by cases h);rcases u4 id B x h1 h2 with⟨g1,g2,g3⟩|⟨g1,g2,g3,g4⟩
       . exact .inl ⟨g1,⟨B,g2⟩,g3⟩
       . exact .inr ⟨g1,g2,.inl ⟨g3,g4⟩⟩
     ·
      rename_i hq;obtain⟨he,hs⟩:=I.Xs (fS (ba A i) rsS 0);obtain⟨s,S1,v,H1,⟨N,ho⟩,⟨φ1,hst,hv⟩,_,hd,_⟩:=mO (L:=L) hT hcx hs (fun x s hs=>by
       obtain⟨v,h1,h2⟩:=hρ x s hs;exact⟨v,h1,h2.mono he⟩) (fun _ e=>absurd e (rz _ _ _ _)) h
      obtain⟨u1,u2,u3⟩:=I.LY (fun id h=>I.WB _ h) hst;have hext:=u1.ext I.sim;have happ:jI o=true:=by
       unfold LF at hq
       split at hq
       . rename_i c hc
         split at hq
         . rename_i hb _;unfold jI;rw[hc];simp only[hb]
         . cases hq
       . cases hq
      have hrec:∃b:Rec,(∃N,fx P L (bH P L O N) ops A i o ⟨fv,H⟩ rsE=some b)/\b.h0=H/\b.h1=H1/\b.v=v/\kindOk .dj b.kind:=by
       cases hv2:opE P (bH P L O N) (dM fv) o (Ev.dh H (ba A i) rsE)with
       |none=>exact⟨⟨.dj,v,H,H1,none⟩,⟨N,by unfold fx;simp only[hw,hk,hv2,happ,zbd,ho]⟩,rfl,rfl,rfl,trivial⟩
       |some q=>
        obtain⟨v2,H2⟩:=q;have:=qT happ hv2;rw[ho]at this;cases this;exact⟨⟨.quiet,v,H,Ev.cR H H2,none⟩,⟨N,by unfold fx;simp only[hw,hk,hv2]⟩,rfl,rfl,rfl,trivial⟩
      obtain⟨b,hrec,hb0,hb1,hbv,hbk⟩:=hrec;refine step (φ1:=⟨φ1.m,φ.ban⟩) (S1:=cm S S1) (H1:=H1) (a:=⟨.dj,S.size,S1.size,none,none,.any,none,[],[]⟩) (b:=b) ?_ u1 (jT (hf1.mono hext) o.dst (u2 s v hv)) hrec hb1 (by rw[hbv]) hd;refine I.add u1 hb0 hb1 rfl rfl hbk (fun id B x h1 h2=> ?_) (fun h=>by cases h) (fun y B x0 h1 h2 h3=>by have h4:=h3 rfl;simp[JF,hidden]at h4) (fun _ _ h=>by cases h) (fun _ h=>by cases h) (fun h=>by cases h);rcases u3 id B x h1 h2 with h|⟨g1,g2,g3|⟨id0,B0,g3,g4,g5⟩⟩
      . exact .inl h
      . exact .inr ⟨g1,g2,.inl g3⟩
      . refine .inr ⟨g1,g2,.inr ?_⟩;rcases I.SA id0 B0 x g3 g5 with g6|⟨j,m,⟨r0,q1,q2,q3⟩,g7,g8⟩
        . exact .inl g6
        . refine .inr ⟨m,g7, ?_⟩;have hij:ba A i j=true:=by
           cases hp:ba A i j with
           |true=>rfl
           |false=>
            have:=(kL (ba A i) rsS 0 id0).2 ⟨j,r0,q1,by rw[zaC];exact hp,q2,q3⟩;rw[this]at g4;cases g4
          have hjn:j<ops.size:=by
           have:=(zan.1 q1).1;omega
          rw[hi];rcases g8 with rfl|g8
          . exact hij
          . exact htr i j m hilt hjn hij g8
    ·
     rename_i hk;obtain⟨he,hs⟩:=I.Xs (rC S fr1 o++fS (ba A i) rsS 0);obtain⟨s,S1,v,H1,⟨N,ho⟩,⟨φ1,hst,hv⟩,_,hd,hstore⟩:=mO (L:=L) hT hcx hs (fun x s hs=>by
      obtain⟨v,h1,h2⟩:=hρ x s hs;exact⟨v,h1,h2.mono he⟩) (fun _ e=>by
      have e:(rC S fr1 o++fS (ba A i) rsS 0)++S.hid=[]:=e;simp only[List.append_eq_nil_iff]at e;exact(rz _ _ _ [] (by rw[zaK];exact e.1.2)).elim) h
     obtain⟨u1,u2,u3⟩:=I.LY (fun id h=>jv (NK h) (I.WB _ h)) hst;have hext:=u1.ext I.sim;obtain⟨oks,hd,hoks⟩:=JU I hext u1.sim hd;refine step (φ1:=⟨φ1.m,φ.ban⟩) (S1:=cm S S1) (H1:=H1) (b:=⟨.dj,v,H,H1,none⟩) ?_ u1 (jT (hf1.mono hext) o.dst (u2 s v hv)) ⟨N,by unfold fx;simp only[hw,hk,ho]⟩ rfl rfl hd;refine I.add u1 rfl rfl rfl rfl trivial (fun id B x h1 h2=> ?_) (fun h=>by cases h) (fun y B x0 h1 h2 h3=> ?_) (fun _ _ h=>by cases h) hoks (fun h=>by cases h)
     . rcases u3 id B x h1 h2 with h|⟨g1,g2,g3|⟨id0,B0,g3,g4,g5⟩⟩
       . exact .inl h
       . exact .inr ⟨g1,g2,.inl g3⟩
       . refine .inr ⟨g1,g2,.inr ?_⟩;rcases I.SA id0 B0 x g3 g5 with g6|⟨j,m,⟨r0,q1,q2,q3⟩,g7,g8⟩
         . exact .inl g6
         . refine .inr ⟨m,g7, ?_⟩;have hij:ba A i j=true:=by
            cases hp:ba A i j with
            |true=>rfl
            |false=>
             have:=(kL (ba A i) rsS 0 id0).2 ⟨j,r0,q1,by rw[zaC];exact hp,q2,q3⟩;rw[(ik g4).2]at this;cases this
           have hjn:j<ops.size:=by
            have:=(zan.1 q1).1;omega
           rw[hi];rcases g8 with rfl|g8
           . exact hij
           . exact htr i j m hilt hjn hij g8
     . have hfar:=h3 rfl;unfold JF at hfar;rw[zba]at hfar;rcases hfar with hfar|hfar
       case inr=>
        have hnone:(gO S (rC S fr1 o++fS (ba A i) rsS 0)).get y=none:=by
         cases hg:(gO S (rC S fr1 o++fS (ba A i) rsS 0)).get y with
         |none=>rfl
         |some C=>
          have:=(ik (cd hg).2).1;have hfar:hidden (rC S fr1 o) y=true:=hfar;rw[hfar]at this;cases this
        have hno:¬ox (φ.shut S) (gO S (rC S fr1 o++fS (ba A i) rsS 0)) x0:=by
         rintro⟨id',B',_,q2,q3⟩
         have:=I.sim.inj id' y B' B x0 (cd q2).1 h1 q3 h2;subst this;rw[q2]at hnone;cases hnone
        have hroot:=hst.oJ y (show y<S.size from aj.bo h1) (.inr hnone);refine⟨⟨B, ?_⟩,hst.fC x0 (I.sim.lt y x0 h2) hno⟩;obtain⟨r1,r2⟩:=aj.aI h1;exact(aj.fz (S:=cm S S1) (show y<S1.size from zaB (aj.bo h1) hst.ssize) r2).trans (hroot.trans r1)
       obtain⟨z,hz,hzy⟩:∃z,(match o.op with| .store _ a _=>(match ji fr1 a with|some p=>pR p|none=>none)|_=>none)=some z/\z≠y:=by
        split at hfar
        . rename_i z hz;exact⟨z,hz,by simpa using hfar⟩
        . cases hfar
       have hz2:(match o.op with| .store _ a _=>(match ji fr1 a with|some p=>pR p|none=>none)|_=>none)=some z:=hz;clear hz
       split at hz2
       . rename_i t a x hop
         split at hz2
         . rename_i p hp;obtain⟨id,row,w,col,B',xz,rfl,rfl,g3,⟨B0,g4⟩,g5⟩:=hstore t a x p hop hp;have hz3:id=z:=zbJ hz2;subst hz3;have g6:=(cd g4).1;have hne:x0≠xz:=by
            rintro rfl
            exact hzy (I.sim.inj id y B0 B x0 g6 h1 g3 h2)
           refine⟨⟨B, ?_⟩,g5 x0 hne⟩;obtain⟨r1,r2⟩:=aj.aI h1;refine(aj.fz (S:=cm S ((gO S (rC S fr1 o++fS (ba A i) rsS 0)).put id (some B'))) (show y<S.size from aj.bo h1) r2).trans ?_
           show((gO S (rC S fr1 o++fS (ba A i) rsS 0)).put id (some B')).root.get y=some B;rw[aj.cQ,if_neg (zcd hzy)];exact r1
         . cases hz2
       . cases hz2
  . exact step (a:=⟨.pure,S.size,S.size,none,none,.any,none,[],[]⟩) (b:=⟨.pure,undef,H,H,none⟩) (I.same rfl rfl rfl rfl trivial (by simp) (fun h=>by cases h) (fun _ _ h=>by cases h) rfl (fun h=>by cases h)) (Step.refl I.sim) (jT hf1 o.dst DV.undef) ⟨0,by unfold fx;simp only[hw]⟩ rfl rfl h
end
end
end
end Go.Proofs.YtfaojedfnjdnnaaGreat.Ev
namespace Go.Proofs.YtfaojedfnjdnnaaGreat.Ev
noncomputable section
noncomputable section
open Go
section
variable {R : Type} {P : Program} {L : List FuncId} {O : br} {T : rB} {A : Array Nat} {base : Nat} {φ : Phi} {S : aj} {H : ah} {rsS : List eZ} {rsE : List Rec}
theorem zu {B:Nat->Bool} (I:RI P A base φ S H rsS rsE) (h:yI A B rsS=true):pB P A B rsE=true:=by
 unfold pB;rw[zao]
 rintro⟨b,i⟩ hb
 rw[zao]
 rintro⟨d,j⟩ hd
 have hbi:rsE[i]? =some b:=by
  have:=za2.1 hb;simpa using this
 have hdj:rsE[j]? =some d:=by
  have:=za2.1 hd;simpa using this
 have hi:i<rsS.length:=by rw[I.len];exact(zan.1 hbi).1
 have hj:j<rsS.length:=by rw[I.len];exact(zan.1 hdj).1
 have ha:=zah hi;have hc:=zah hj;generalize rsS[i]=a at ha;generalize rsS[j]=c at hc;have k1:=I.kinds i a b ha hbi;have k2:=I.kinds j c d hc hdj;have hp:Cy A B rsS i a j c=true:=by
  unfold yI at h;rw[zao]at h;have h:=h (a,i) (za2.2 (by simpa using ha));rw[zao]at h;exact h (c,j) (za2.2 (by simpa using hc))
 simp only;unfold xi;cases hdk:d.kind with
 |dj=>
  have hck:c.kind= .dj:=by
   rw[hdk]at k2;cases hck:c.kind<;>rw[hck]at k2<;>first|rfl|exact k2.elim
  unfold Cy at hp;rw[hck]at hp;simp only at hp⊢;cases hbk:b.kind with
  |pure=>rfl
  |load=>
   have hak:a.kind= .load:=by
    rw[hbk]at k1;cases hak:a.kind<;>rw[hak]at k1<;>first|rfl|exact k1.elim
   rw[hak]at hp;simp only[zba]at hp⊢;rcases hp with hp|hp|(hp|hp)|hp
   . exact .inl (.inl hp)
   . exact .inl (.inr hp)
   . refine .inr ?_
     obtain⟨hij,b',t,pv,v,e1,e2,e3,e4⟩:=I.oks j c d hc hdj i (by simpa using hp);rw[hbi]at e1;cases e1;rw[e2];simp only;rw[if_neg (by omega),e3];exact e4
   . refine .inr ?_
     simp only[zae,zaf]at hp;obtain⟨hij,hp⟩:=hp;obtain⟨t,p,e1,e2,e3⟩:=I.MD i a b ha hbi hak
     split at hp
     . rename_i y hy;simp only[zae,zao]at hp;obtain⟨hself,hall⟩:=hp;obtain⟨x0,o,rfl,_,_,e6⟩:=e3 y hy;have hcalm:calm rsS i j y:=by
        intro m q h1 h2 h3 h4;have hmem:q∈(rsS.take (j+1)).drop i:=by
         refine zaP (i:=m-i) ?_
         rw[zaA,zau,if_pos (by omega),show i+(m-i)=m by omega];exact h3
        have:=hall q hmem;rw[h4]at this;exact this
       rw[e1];simp only;rw[if_neg (by omega),e6 j d hij hdj hcalm];exact e2 hself
     . cases hp
   . refine .inr ?_
     simp only[zae,zaf]at hp;obtain⟨hij,hp⟩:=hp
     split at hp
     . rename_i y hy;simp only[zae,zao,zaf]at hp;obtain⟨⟨hself,hyn⟩,hall⟩:=hp;have hcalm:calm rsS j i y:=by
        intro m q h1 h2 h3 h4;have hmem:q∈(rsS.take (i+1)).drop j:=by
         refine zaP (i:=m-j) ?_
         rw[zaA,zau,if_pos (by omega),show j+(m-j)=m by omega];exact h3
        have:=hall q hmem;rw[h4]at this;exact this
       obtain⟨t,p,e1,e2⟩:=I.Tf i a b ha hbi hak y hy j c d hij hc hdj hyn hcalm;obtain⟨_,_,_,e3,_⟩:=I.MD i a b ha hbi hak;rw[e1];simp only;rw[if_pos hij,e2];exact e3 hself
     . cases hp
  |quiet=>
   have hak:a.kind= .quiet\/a.kind= .dj:=by
    rw[hbk]at k1;cases hak:a.kind<;>rw[hak]at k1<;>first|exact .inl rfl|exact .inr rfl|exact k1.elim
   simp only;rcases hak with hak|hak<;>(rw[hak]at hp;dsimp only at hp)
   . simpa[Bool.or_assoc]using hp
   . rw[<-Bool.or_assoc]at hp;rw[hp,Bool.true_or]
  |dj=>
   have hak:a.kind= .dj:=by
    rw[hbk]at k1;cases hak:a.kind<;>rw[hak]at k1<;>first|rfl|exact k1.elim
   simp only;rw[hak]at hp;simpa[Bool.or_assoc]using hp
 |_=>rfl
theorem Step.Oe {b:Nat->Prop} (hb:∀x,φ.ban x->b x) {φ':Phi} {S':aj} {H':ah} (hst:Step ⟨φ.m,b⟩ S H φ' S' H'):
 Step φ S H ⟨φ'.m,φ.ban⟩ S' H'/\∀s v,DV φ' H' (Own φ' S') s v->DV ⟨φ'.m,φ.ban⟩ H' (Own ⟨φ'.m,φ.ban⟩ S') s v:=by
 have hext:Ext φ' H' (Own φ' S') ⟨φ'.m,φ.ban⟩ H' (Own ⟨φ'.m,φ.ban⟩ S'):=by
  refine⟨fun _ _ h=>h,fun x c h1 h2=>⟨h1,fun h=>h2 ?_⟩,fun id x c' _ h=>⟨c',h,rfl⟩⟩;rcases h with h|h
  . exact .inl (by rw[hst.ban];exact hb x h)
  . exact .inr h
 refine⟨⟨⟨?_,hst.sim.inj,hst.sim.fresh,hst.sim.lt,hst.sim.iZ,hst.sim.dK,hst.sim.gQ⟩,hst.le,rfl,hst.own,hst.fC,hst.len,hst.eU,hst.dK,hst.gQ,hst.ssize,hst.iZ,hst.zH,hst.oJ⟩,fun s v h=>h.mono hext⟩;intro id B h;rcases hst.sim.blk id B h with h3|⟨x,c,h3,h4,h5,h6⟩
 . exact .inl h3
 . exact .inr ⟨x,c,h3,h4,h5,h6.mono hext⟩
theorem Sim.Oe (hS:Sim φ S H) {b:Nat->Prop} (hb:∀x,b x->φ.ban x\/H.size<=x):
 Ext φ H (Own φ S) ⟨φ.m,b⟩ H (Own ⟨φ.m,b⟩ S)/\Sim ⟨φ.m,b⟩ S H:=by
 have hext:Ext φ H (Own φ S) ⟨φ.m,b⟩ H (Own ⟨φ.m,b⟩ S):=by
  refine⟨fun _ _ h=>h,fun x c h1 h2=>⟨h1,fun h=> ?_⟩,fun id x c' _ h=>⟨c',h,rfl⟩⟩;have hlt:=ah.bo h1;rcases h with h|h
  . rcases hb x h with h|h
    . exact h2 (.inl h)
    . omega
  . exact h2 (.inr h)
 refine⟨hext,⟨?_,hS.inj,hS.fresh,hS.lt,hS.iZ,hS.dK,hS.gQ⟩⟩;intro id B h;rcases hS.blk id B h with h3|⟨x,c,h3,h4,h5,h6⟩
 . exact .inl h3
 . exact .inr ⟨x,c,h3,h4,h5,h6.mono hext⟩
theorem EO {cx:rK R} (hT:fi P L O T) (hcx:pn P L O cx) {ops:Array Oper} {fr:List SV} {fv:List Value} {k:SSt->Option R} {r:R} (hS:Sim φ S H) (hf:DVL φ H (Own φ S) fr fv)
 (hst:iS ops (Region.before ops) fr.length=true) (htr:vW (Region.before ops) ops.size=true) (h:nK P L T cx ops (Region.before ops) ops.toList 0 ⟨fr,S⟩ [] k=some r):
 ∃φ' fr' S' fv' H',k ⟨fr',S'⟩=some r/\Step φ S H φ' S' H'/\DVL φ' H' (Own φ' S') fr' fv'/\∃N,kS P L (bH P L O N) ops ⟨fv,H⟩=some ⟨fv',H'⟩:=by
 have hb:∀x,(φ.ban x\/H.size<=x)->φ.ban x\/H.size<=x:=fun _ h=>h
 obtain⟨he,hs⟩:=hS.Oe (b:=fun x=>φ.ban x\/H.size<=x) hb;have I:RI P (Region.before ops) H.size ⟨φ.m,fun x=>φ.ban x\/H.size<=x⟩ S H [] []:=by
  refine⟨hs,rfl,fun x hx=> .inr hx,fun id B x _ h=> .inl (hS.lt id x h), ?_, ?_, ?_,zam _, ?_, ?_, ?_, ?_, ?_, ?_⟩
  all_goals (intros;simp_all)
 obtain⟨φ',fr',S',fv',H',rsS',rsE',g1,g2,g3,g4,g5,N,g6⟩:=uq hT hcx (FM htr) h I (hf.mono he) rfl (by simp);obtain⟨h1,h2⟩:=Step.Oe (φ:=φ) (b:=fun x=>φ.ban x\/H.size<=x) (fun x hx=> .inl hx) g3;refine⟨⟨φ'.m,φ.ban⟩,fr',S',fv',H',g1,h1,⟨g4.1,fun i s v a b=>h2 s v (g4.2 i s v a b)⟩,N, ?_⟩;unfold kS;rw[show(⟨fv,H⟩:St).fr.length=fr.length from hf.1.symm,hst];simp only[g6,zu g2 g5,zbd]
theorem jM {cx:rK R} (hT:fi P L O T) (hcx:pn P L O cx) {stop:List Nat->Bool} {body:Code}:∀{n:Nat} {its:List Item} {fr:List SV} {S:aj} {k:List Item->SSt->Option R} {r:R} {φ:Phi} {H:ah} {fv:List Value},
 iF P L T cx stop n its ⟨fr,S⟩ k=some r->dQ body its->NBh φ S H->Sim φ S H->DVL φ H (Own φ S) fr fv->
 ∃its' φ' fr' S' fv' H',k its' ⟨fr',S'⟩=some r/\dQ body its'/\Step φ S H φ' S' H'/\DVL φ' H' (Own φ' S') fr' fv'/\∀rv w,kx P L O rv its' ⟨fv',H'⟩ w->kx P L O rv its ⟨fv,H⟩ w
 |0,_,_,_,_,_,_,_,_,h,_,_,_,_=>by cases h
 |n+1,its,fr,S,k,r,φ,H,fv,h,ha,hnb,hS,hf=>by
  unfold iF at h;have same:∀{its2:List Item},dQ body its2->iF P L T cx stop n its2 ⟨fr,S⟩ k=some r->(∀q,di P L O its2 ⟨fv,H⟩ q->di P L O its ⟨fv,H⟩ q)->
   ∃its' φ' fr' S' fv' H',k its' ⟨fr',S'⟩=some r/\dQ body its'/\Step φ S H φ' S' H'/\DVL φ' H' (Own φ' S') fr' fv'/\∀rv w,kx P L O rv its' ⟨fv',H'⟩ w->kx P L O rv its ⟨fv,H⟩ w:=by
   intro its2 ha2 h2 hm;obtain⟨i,φ',fr',S',fv',H',h1,h2,h3,h4,h5⟩:=jM hT hcx h2 ha2 hnb hS hf;exact⟨i,φ',fr',S',fv',H',h1,h2,h3,h4,fun rv w hw=>(h5 rv w hw).of hm⟩
  split at h
  . exact⟨[],φ,fr,S,fv,H,h,ha,Step.refl hS,hf,fun _ _ h=>h⟩
  . rename_i p c rest;have hc:nav body p=some c:=by
     have:=ha (.code p c) (by simp);simp only[Item.tag,Tag.item]at this;cases hn:nav body p with
     |none=>rw[hn]at this;cases this
     |some c'=>rw[hn]at this;cases this;rfl
    split at h
    . exact⟨_,φ,fr,S,fv,H,h,ha,Step.refl hS,hf,fun _ _ h=>h⟩
    split at h
    . exact same ha.tail h (fun q=> .skip)
    . exact same ha.tail h (fun q=> .label)
    . rename_i id ops d
      split at h
      . obtain⟨φ1,fr1,S1,fv1,H1,g1,g2,g3,g4⟩:=qj hT hcx hnb hS hf h;obtain⟨i,φ',fr',S',fv',H',h1,h2,h3,h4,h5⟩:=jM hT hcx g1 ha.tail (hnb.step g2) g2.sim g3;exact⟨i,φ',fr',S',fv',H',h1,h2,g2.trans h3,h4,fun rv w hw=>(h5 rv w hw).of fun q hq=> .region (g4 _ q hq)⟩
      . split at h
        . rename_i hst;simp only[zae]at hst;obtain⟨φ1,fr1,S1,fv1,H1,g1,g2,g3,g4⟩:=EO hT hcx hS hf hst.1 hst.2 h;obtain⟨i,φ',fr',S',fv',H',h1,h2,h3,h4,h5⟩:=jM hT hcx g1 ha.tail (hnb.step g2) g2.sim g3;exact⟨i,φ',fr',S',fv',H',h1,h2,g2.trans h3,h4,fun rv w hw=>(h5 rv w hw).of fun q hq=> .draw g4 hq⟩
        . cases h
    . rename_i a b;exact same (.cons (by simp[Item.tag,Tag.item,nav,hc,child]) (.cons (by simp[Item.tag,Tag.item,nav,hc,child]) ha.tail)) h (fun q=> .seq)
    . rename_i x a b
      split at h
      . rename_i t hx;obtain⟨v,hv,hd⟩:=jJ hf hx;cases hd
        split at h
        . exact same (.cons (by simp[Item.tag,Tag.item,nav,hc,child]) ha.tail) h (fun q=> .cond (t:=true) hv)
        . exact same (.cons (by simp[Item.tag,Tag.item,nav,hc,child]) ha.tail) h (fun q=> .cond (t:=false) hv)
      . cases h
    . rename_i id b;exact same (.cons (by simp[Item.tag,Tag.item,nav,hc,child]) (.cons (by simp[Item.tag,Tag.item]) ha.tail)) h (fun q=> .block)
    . rename_i b;exact same (.cons (by simp[Item.tag,Tag.item,nav,hc,child]) ha.tail) h (fun q=> .loop)
    . split at h
      . rename_i id r' hr;exact same (dQ.leave hr ha.tail) h (fun q=> .exit hr)
      . cases h
    . refine⟨[],φ,fr,S,fv,H,h,(fun _ hi=>by cases hi),Step.refl hS,hf,fun rv w hw=> ?_⟩;obtain⟨q,⟨N,h1⟩,h2⟩:=hw;rw[cz]at h1;cases h1;exact⟨_,.ret,h2⟩
    . cases h
  . rename_i p b rest;have hb:nav body (0::p)=some b:=by
     have:=ha (.lp p b) (by simp);simp only[Item.tag,Tag.item]at this;cases hn:nav body (0::p)with
     |none=>rw[hn]at this;cases this
     |some c'=>rw[hn]at this;cases this;rfl
    split at h
    . exact⟨_,φ,fr,S,fv,H,h,ha,Step.refl hS,hf,fun _ _ h=>h⟩
    . exact same (.cons (by simp only[Item.tag,Tag.item,hb];rfl) ha) h (fun q=> .round)
  . exact same ha.tail h (fun q=> .blk)
  . cases h
theorem jE (hS:Sim φ S H) {fr:List SV} {fv:List Value} (hf:DVL φ H (Own φ S) fr fv):∀{rv:List ResultVar} {k:List SV->Option R} {r:R},rM P S fr rv k=some r->
 ∃ss vs,fy P H fv rv=some vs/\DVL φ H (Own φ S) ss vs/\k ss=some r
 |[],k,r,h=>⟨[],[],rfl,.nil,h⟩
 | .tmp t::rv,k,r,h=>by
  obtain⟨ss,vs,h1,h2,h3⟩:=jE hS hf (rv:=rv) h;obtain⟨v,h4,h5⟩:=jJ (x:= .tmp t) hf rfl;cases h4;exact⟨_,_,by simp only[fy,h1],.cons h5 h2,h3⟩
 | .cell a t::rv,k,r,h=>by
  obtain⟨v,h4,h5⟩:=jJ (x:= .tmp a) hf rfl;cases h4;obtain⟨s,u,g1,g2,g3⟩:=lP hS h5 h;obtain⟨ss,vs,h1,h2,h3⟩:=jE hS hf (rv:=rv) g3;exact⟨_,_,by simp only[fy,g1,h1],.cons g2 h2,h3⟩
theorem lR {own:Nat->Prop} {ss:List SV} {vs:List Value} (h:DVL φ H own ss vs):DV φ H own (lF ss) (ky vs):=by
 match ss,vs,h with
 |[],vs,h=>
  rw[h.pI];exact .tup [] #[] rfl (fun i s v h=>by simp at h)
 |[s],vs,h=>
  obtain⟨v,rfl,h1⟩:=h.one;exact h1
 |a::b::ss,vs,h=>
  obtain⟨v,vs1,rfl,h1,h2⟩:=h.ga;obtain⟨w,vs2,rfl,h3,h4⟩:=h2.ga;exact .tup _ _ (by simpa using h.1) (fun i s v g1 g2=>h.2 i s v g1 (by simpa using g2))
theorem AM {own:Nat->Prop} {args:List SV} {vs:List Value} (h:DVL φ H own args vs) (n:Nat):DVL φ H own (args++List.replicate (n-args.length) (.tup [])) (vs++List.replicate (n-vs.length) undef):=by
 rw[h.1];refine h.append ⟨by simp,fun i s v h1 h2=> ?_⟩;rw[List.getElem?_replicate]at h1 h2
 split at h1
 . rename_i hi;rw[if_pos hi]at h2;cases h1;cases h2;exact DV.undef
 . cases h1
theorem uM {kn:FuncId->Bool} (hkn:∀g,kn g=false->∀args H,O g args H=none) (hT:fi P L O T):∀(n:Nat),pn P L O (zC (R:=R) P L T kn n)
 |0,_,_,_,_,_,h,_,_,_,_,_,_=>by cases h
 |n+1,g,args,S,k,r,h,φ,H,vs,hnb,hS,hd=>by
  unfold zC at h
  split at h
  . cases h
  rename_i hk0
  split at h
  . rename_i fn hg
    split at h
    . rename_i c hb;obtain⟨its,φ',fr',S',fv',H',hk,_,hst,hf,hm⟩:=jM hT (uM hkn hT n) h wE hnb hS (AM hd fn.ntmps)
      split at hk
      . obtain⟨ss,vs',g1,g2,g3⟩:=jE hst.sim hf hk;have hw:kx P L O fn.results.toList [] ⟨fv',H'⟩ (ky vs',H'):=⟨(.normal,⟨fv',H'⟩),.nil,by simp only[fin,g1];rfl⟩
        obtain⟨N,hN⟩:=kG (hkn g hk0 _ _) hg hb (hm _ _ hw);exact⟨lF ss,S',N,ky vs',H',hN,⟨φ',hst,lR g2⟩,g3⟩
      . cases hk
    . cases h
  . cases h
end
end
end
end Go.Proofs.YtfaojedfnjdnnaaGreat.Ev
namespace Go.Proofs.YtfaojedfnjdnnaaGreat.Ev
noncomputable section
noncomputable section
open Go
inductive Un where
 |i (n:Int)
 |b (x:Bool)
 |l (xs:List Int)
 |d (xs:List Dat)
inductive VP where
 |any
 |int (k:IntKind)
 |bool
 |jd
 |ev
 |mi
 |ptr (j w col:Nat)
 |np (j w col:Nat)
 |buf (j w:Nat)
 |sl (j w:Nat)
 |ints (k:IntKind)
 |af (l:List Sch)
 |dpt (l:List Sch)
 |fn (g:Nat) (x y:List VP)
 |agg (l:List VP)
mutual
def VP.size:VP->Nat
 | .int _=>1
 | .np _ _ _=>1
 | .sl _ _=>2
 | .bool=>1
 | .ints _=>1
 | .af _=>1
 | .dpt _=>1
 | .fn _ x y=>VP.ly x+VP.ly y
 | .agg l=>VP.ly l
 |_=>0
def VP.ly:List VP->Nat
 |[]=>0
 |p::ps=>p.size+VP.ly ps
end
mutual
def VP.to:VP->List Un->SV
 | .any,_=> .any
 | .int k,.i n::_=> .i k n
 | .bool,.b x::_=> .b x
 | .jd,_=> .jd
 | .ev,_=> .ev
 | .mi,_=> .mi
 | .ptr j w col,_=> .ptr j 0 w col
 | .np j w col,.i n::_=> .np j w col n
 | .buf j w,_=> .buf j w false
 | .sl j w,.i off:: .i len::_=> .sl j off.toNat len.toNat w false
 | .ints k,.l xs::_=> .deep (.ints k xs)
 | .af s,.d xs::_=> .deep (.af s xs)
 | .dpt s,.d xs::_=> .dp (.af s xs) 0 0
 | .fn g x y,us=> .fn g (VP.tos x us) (VP.tos y (us.drop (VP.ly x)))
 | .agg l,us=> .agg (VP.tos l us)
 |_,_=> .any
def VP.tos:List VP->List Un->List SV
 |[],_=>[]
 |p::ps,us=>p.to us::VP.tos ps (us.drop p.size)
end
abbrev Sub:=List (Nat × Option Nat)
def Sub.get:Sub->Nat->Option (Option Nat)
 |[],_=>none
 |(j,x)::r,k=>if k=j then some x else Sub.get r k
def Sub.bind (σ:Sub) (j:Nat) (x:Option Nat):Option Sub:=
 match σ.get j with
 |none=>some ((j,x)::σ)
 |some y=>match x,y with
  |some a,some b=>if a=b then some σ else none
  |none,none=>some σ
  |_,_=>none
def seen:SV->Sub->Option Sub
 | .buf id _ _,σ=>σ.bind (1000000+id) (some id)
 | .sl id _ _ _ _,σ=>σ.bind (1000000+id) (some id)
 |_,σ=>some σ
def Cx (S:aj) (k:IntKind):SV->Option (List Int)
 | .ev=>some []
 | .deep (.ints k' xs)=>if k=k' then some xs else none
 | .buf id w ex=>match nJ S (.buf id w ex)with|some (.ints k' xs)=>if k=k' then some xs else none|_=>none
 | .sl id off len w p=>match nJ S (.sl id off len w p)with|some (.ints k' xs)=>if k=k' then some xs else none|_=>none
 |_=>none
def CZ (S:aj) (l:List Sch):SV->Option (List Dat)
 | .ev=>some []
 | .deep (.af l' xs)=>match fh l l' with|true=>some xs|false=>none
 | .buf id w ex=>match nJ S (.buf id w ex)with|some (.af l' xs)=>(match fh l l' with|true=>some xs|false=>none)|_=>none
 | .sl id off len w p=>match nJ S (.sl id off len w p)with|some (.af l' xs)=>(match fh l l' with|true=>some xs|false=>none)|_=>none
 |_=>none
def Cz (S:aj):Sch->SV->Option Dat
 | .int k,.i k' n=>if k=k' then some (.n n)else none
 | .bool,.b x=>some (.n (bif x then 1 else 0))
 | .ints k,s=>(match Cx S k s with|some xs=>some (.r (xs.map .n))|none=>none)
 | .af l,s=>(match CZ S l s with|some xs=>some (.r xs)|none=>none)
 |_,_=>none
def Ik (S:aj):List Sch->List SV->Option (List Dat)
 |[],[]=>some []
 |a::l,s::ss=>(match Cz S a s,Ik S l ss with|some d,some r=>some (d::r)|_,_=>none)
 |_,_=>none
def I9:List SV->Sub->Option Sub
 |[],σ=>some σ
 |s::ss,σ=>(match seen s σ with|some τ=>I9 ss τ|none=>none)
section
variable (S : aj)
mutual
def VP.of:VP->SV->Sub->Option (List Un × Sub)
 | .any,_,σ=>some ([],σ)
 | .int k,.i k' n,σ=>if k=k' then some ([.i n],σ)else none
 | .bool,.b x,σ=>some ([.b x],σ)
 | .jd,.jd,σ=>some ([],σ)
 | .ev,.ev,σ=>some ([],σ)
 | .mi,.mi,σ=>some ([],σ)
 | .ptr j w col,.ptr id row w' col',σ=>if row=0/\w=w'/\col=col'/\j<1000000 then(match σ.bind j (some id)with|some τ=>some ([],τ)|none=>none)else none
 | .np _ _ _,.jd,σ=>some ([.i (-1)],σ)
 | .np j w col,.ptr id row w' col',σ=>if w=w'/\col=col'/\j<1000000 then(match σ.bind j (some id)with|some τ=>some ([.i (row:Int)],τ)|none=>none)else none
 | .np j w col,.np id w' col' n,σ=>if w=w'/\col=col'/\j<1000000 then(match σ.bind j (some id)with|some τ=>some ([.i n],τ)|none=>none)else none
 | .buf j w,.buf id w' _,σ=>if w=w'/\j<1000000 then(match σ.bind j (some id)with|some τ=>some ([],τ)|none=>none)else none
 | .sl j w,.sl id off len w' _,σ=>if w=w'/\j<1000000 then(match σ.bind j (some id)with|some τ=>some ([.i (off:Int),.i (len:Int)],τ)|none=>none)else none
 | .sl j w,.buf id w' ex,σ=>if w=w'/\j<1000000 then(match yX S (.buf id w' ex),σ.bind j (some id)with|some k,some τ=>some ([.i 0,.i (k:Int)],τ)|_,_=>none)else none
 | .buf j _,.ev,σ=>if j<1000000 then(match σ.bind j none with|some τ=>some ([],τ)|none=>none)else none
 | .ints k,s,σ=>(match Cx S k s,seen s σ with|some xs,some τ=>some ([.l xs],τ)|_,_=>none)
 | .af l,s,σ=>(match CZ S l s,seen s σ with|some xs,some τ=>some ([.d xs],τ)|_,_=>none)
 | .dpt l,.dp c row col,σ=>if row=0/\col=0 then(match c with| .af l' xs=>(match fh l l' with|true=>some ([.d xs],σ)|false=>none)|_=>none)else none
 | .dpt l,.ptr id row w col,σ=>if row=0/\col=0 then(match S.get id with
  |some (.cells cs)=>(match Ik S l cs,I9 (.buf id w true::cs) σ with|some r,some τ=>some ([.d [.r r]],τ)|_,_=>none)
  |_=>none)else none
 | .fn g x y,.fn g' x' y',σ=>if g=g' then
  (match VP.ofs x x' σ with
   |some (a,τ)=>(match VP.ofs y y' τ with|some (c,υ)=>some (a++c,υ)|none=>none)
   |none=>none)else none
 | .agg l,.agg l',σ=>VP.ofs l l' σ
 |_,_,_=>none
def VP.ofs:List VP->List SV->Sub->Option (List Un × Sub)
 |[],[],σ=>some ([],σ)
 |p::ps,s::ss,σ=>
  (match p.of s σ with
   |some (a,τ)=>(match VP.ofs ps ss τ with|some (c,υ)=>some (a++c,υ)|none=>none)
   |none=>none)
 |_,_,_=>none
end
end
inductive BP where
 |cells (l:List VP)
 |ints (k:IntKind)
 |af (l:List Sch)
 |eS (j w col:Nat)
 |gone
def BP.size:BP->Nat
 | .cells l=>VP.ly l
 | .gone=>0
 |_=>1
def BP.to:BP->List Un->Option aS
 | .cells l,us=>some (.cells (VP.tos l us))
 | .ints k,.l xs::_=>some (.cont (.ints k xs))
 | .af s,.d xs::_=>some (.cont (.af s xs))
 | .eS j w col,.l xs::_=>some (.eS j w col xs)
 | .gone,_=>none
 |_,_=>some (.cells [])
def BP.of (S:aj):BP->aS->Sub->Option (List Un × Sub)
 | .cells l,.cells l',σ=>VP.ofs S l l' σ
 | .ints k,.cont (.ints k' xs),σ=>if k=k' then some ([.l xs],σ)else none
 | .af l,.cont (.af l' xs),σ=>(match fh l l' with|true=>some ([.d xs],σ)|false=>none)
 | .eS j w col,.eS id w' col' xs,σ=>if w=w'/\col=col'/\j<1000000 then(match σ.bind j (some id)with|some τ=>some ([.l xs],τ)|none=>none)else none
 |_,_,_=>none
mutual
def VP.Qm:VP->List Un
 | .int _=>[.i 0]
 | .np _ _ _=>[.i (-1)]
 | .sl _ _=>[.i 0,.i 0]
 | .bool=>[.b false]
 | .ints _=>[.l []]
 | .af _=>[.d []]
 | .dpt _=>[.d []]
 | .fn _ x y=>VP.xY x++VP.xY y
 | .agg l=>VP.xY l
 |_=>[]
def VP.xY:List VP->List Un
 |[]=>[]
 |p::ps=>p.Qm++VP.xY ps
end
def BP.nil:BP->List Un
 | .cells l=>VP.xY l
 | .ints _=>[.l []]
 | .af _=>[.d []]
 | .eS _ _ _=>[.l []]
 | .gone=>[]
def BP.jo:BP->Bool
 | .gone=>true
 |_=>false
def oK (S:aj):Nat->List BP->Sub->Option (List Un × Sub)
 |_,[],σ=>some ([],σ)
 |j,p::ps,σ=>
  match p.jo with
  |true=>oK S (j+1) ps σ
  |false=>
   match σ.get j with
   |some (some id)=>
    (match S.get id with
     |some B=>(match p.of S B σ with
      |some (a,τ)=>(match oK S (j+1) ps τ with|some (c,υ)=>some (a++c,υ)|none=>none)
      |none=>none)
     |none=>none)
   |some none=>(match oK S (j+1) ps σ with|some (c,υ)=>some (p.nil++c,υ)|none=>none)
   |none=>(match oK S (j+1) ps ((j,none)::σ)with|some (c,υ)=>some (p.nil++c,υ)|none=>none)
def dk:List BP->List Un->List (Option aS)
 |[],_=>[]
 |p::ps,us=>p.to us::dk ps (us.drop p.size)
def aj.pP (S:aj) (b:Option aS):aj:={S with size:=S.size+1,root:=S.root.put b (S.size+1) S.size}
def gu (l:List (Option aS)):aj:=l.foldl aj.pP ⟨0,.e,0,[]⟩
def Sub.keys (σ:Sub) (n lk lock:Nat):Bool:=σ.all fun p=>decide (1000000<=p.1)||(decide (p.1<n)&&(match p.2 with|some id=>(decide (p.1<lk)||decide (lock<=id))|none=>true))
def Sub.apart:Sub->Bool
 |[]=>true
 |(j,x)::r=>(match x with
  |some a=>r.all fun p=>(match p.2 with|some c=>a !=c|none=>true)||p.1==j
  |none=>true)&&Sub.apart r
def idn (K:List Nat):Sub:=K.map fun j=>(j,some j)
structure Pn where
 Qw:List VP
 cr:List BP
 lk:Nat
def Pn.size (p:Pn):Nat:=VP.ly p.Qw
def Pn.of (p:Pn) (σ0:Sub) (vs:List SV) (S:aj):Option (List Un × Sub):=
 match VP.ofs S p.Qw vs σ0 with
 |some (a,σ)=>
  (match oK S 0 p.cr σ with
   |some (c,τ)=>if Sub.keys τ p.cr.length p.lk S.lock=true/\Sub.apart τ=true/\(p.cr.length<=1000000/\p.lk<=p.cr.length)/\(σ0.all fun q=>decide (q.1<p.cr.length))=true then some (a++c,τ)else none
   |none=>none)
 |none=>none
def Pn.fj (p:Pn) (us:List Un):List SV:=VP.tos p.Qw us
def Pn.bB (p:Pn) (us:List Un):aj:={gu (dk p.cr (us.drop p.size))with lock:=p.lk}
def bz (en ex:Pn):List Nat:=(List.range en.cr.length).filter fun j=>match ex.cr[j]? with|some b=> !b.jo|none=>false
def Sub.le (σ τ:Sub):Prop:=∀j x,σ.get j=some x->τ.get j=some x
theorem Sub.le_refl (σ:Sub):Sub.le σ σ:=fun _ _ h=>h
theorem Sub.le_trans {a b c:Sub} (h:Sub.le a b) (k:Sub.le b c):Sub.le a c:=fun j x hx=>k j x (h j x hx)
theorem Sub.jF {σ τ:Sub} {j:Nat} {x:Option Nat} (h:σ.bind j x=some τ):Sub.le σ τ/\τ.get j=some x:=by
 unfold Sub.bind at h
 split at h
 . rename_i hn;cases h;refine⟨fun k y hk=> ?_,by simp[Sub.get]⟩;simp only[Sub.get]
   split
   . rename_i e;subst e;rw[hn]at hk;cases hk
   . exact hk
 . rename_i y hy
   split at h
   . split at h
     . rename_i e;cases h;subst e;exact⟨Sub.le_refl _,hy⟩
     . cases h
   . cases h;exact⟨Sub.le_refl _,hy⟩
   . cases h
section
variable {φ : Phi} {S : aj} {H : ah}
def Phi.sub (φ:Phi) (ban:Nat->Prop) (τ:Sub) (n:Nat):Phi:=⟨fun j=>if j<n then(match τ.get j with|some (some id)=>φ id|some none=>some none|none=>none)else none,ban⟩
def flat:SV->Prop
 | .i _ _=>True
 | .b _=>True
 | .deep _=>True
 |_=>False
theorem Ow (s:Sch) (d:Dat):flat (qO s d):=by cases s<;>trivial
theorem jW {c:aE} {r j:Nat} {s:SV} (h:(c.row r)[j]? =some s):flat s:=by
 cases c with
 |ints k xs=>
  simp only[aE.row]at h;cases j with
  |zero=>simp at h;subst h;trivial
  |succ j=>simp at h
 |af l xs=>
  simp only[aE.row]at h;rw[iI]at h;cases hl:l[j]? with
  |none=>rw[hl]at h;cases h
  |some sc=>rw[hl]at h;cases h;exact Ow _ _
theorem DV.na {own own':Nat->Prop} {φ':Phi} (ho:∀x,own' x->own x) {s:SV} {v:Value} (h:DV φ H own s v):flat s->DV φ' H own' s v:=by
 induction h with
 |i k n=>intro _;exact .i k n
 |b x=>intro _;exact .b x
 |cY c h=>intro _;exact .cY c h
 |deep c x o sp cap blk hs hc hb hx hl _ ih=>
  intro _;exact .deep c x o sp cap blk hs hc hb (fun h=>hx (ho x h)) hl (fun r hr j s hj v hv=>ih r hr j s hj v hv (jW hj))
 |_=>intro h;exact h.elim
theorem kD (hS:Sim φ S H) {s:SV} {v:Value} {c:aE} (hv:DV φ H (Own φ S) s v) (h:nJ S s=some c) (hs:∀c,s≠.deep c) {φ':Phi} {own':Nat->Prop}
 (hcell:∀s v,flat s->DV φ H (Own φ S) s v->DV φ' H own' s v) (hout:∀id x,(∃B,S.get id=some B)->φ id=some (some x)->(∃w ex,s= .buf id w ex)\/(∃o n w p,s= .sl id o n w p)->¬own' x):DV φ' H own' (.deep c) v:=by
 have reg:∀(c:aE) (x o:Nat) (sp:Option Nat) (cap:Nat) (blk:Blk),H.get x=some blk->Rgn φ H (Own φ S) c blk.cells o->c.len<=cap->(sp=none\/sp=some c.w)->¬own' x->DV φ' H own' (.deep c) (.slice (some ⟨x,o,sp⟩) c.len cap):=by
  intro c x o sp cap blk hb hr hc hsp hx;exact .deep c x o sp cap blk hsp hc hb hx hr.1 (fun r hr' j s hs v hv=>hcell s v (jW hs) (hr.2 r hr' j s hs v hv))
 unfold nJ at h
 split at h
 . rename_i id w ex
   split at h
   . rename_i d hB
     split at h
     . rename_i hw;simp only[zae,zaE,zaf]at hw;cases h;cases hv with
       |buf _ _ _ x n sp hx hn hsp=>
        rcases hS.blk _ _ hB with⟨h0,_⟩|⟨y,d,h1,h2,_,h4⟩
        . rw[hx]at h0;cases h0
        . rw[hx]at h1;cases h1;have e1:=hn d (ah.aI h2).1;have e2:=h4.1;have:n=c.len:=by
           rw[e1,hw.1]at e2;exact zbG (by omega) e2
          subst this;refine reg c x 0 sp _ d h2 (BV.rgn h4) (zam _) ?_ (hout id x ⟨_,hB⟩ hx (.inl ⟨w,ex,rfl⟩));rcases hsp with h|⟨_,h,_⟩
          . exact .inl h
          . exact .inr (by rw[h,hw.1])
       |dP _ _ hx=>
        rcases hS.blk _ _ hB with⟨_,h0⟩|⟨y,d,h1,_⟩
        . exact .cY _ h0
        . rw[hx]at h1;cases h1
     . cases h
   . rename_i k n0 r hB
     split at h
     . rename_i ys hc hy;simp only[zae,zaE]at hc;obtain⟨rfl,rfl⟩:=hc;cases h;cases hv with
       |buf _ _ _ x n sp hx hn hsp=>
        rcases hS.blk _ _ hB with⟨h0,_⟩|⟨y,d,h1,h2,_,h4⟩
        . rw[hx]at h0;cases h0
        . rw[hx]at h1;cases h1;have h4:=BV.II h4 hy;have e1:=hn d (ah.aI h2).1;have e2:=h4.1;have:n=(aE.ints k ys).len:=by
           rw[e1]at e2;simpa[aE.w]using e2
          subst this;refine reg (.ints k ys) x 0 sp _ d h2 (BV.rgn h4) (zam _) ?_ (hout id x ⟨_,hB⟩ hx (.inl ⟨1,true,rfl⟩));rcases hsp with h|⟨h,_⟩
          . exact .inl h
          . cases h
     . cases h
   . cases h
 . rename_i id off len w pre0
   split at h
   . rename_i d hB
     split at h
     . rename_i hw;simp only[zae,zaE,zaf]at hw;cases h;cases hv with
       |sl _ _ _ _ _ x o sp cap hx ho hsp hc hin hp=>
        rcases hS.blk _ _ hB with⟨h0,_⟩|⟨y,b,h1,h2,_,h4⟩
        . rw[hx]at h0;cases h0
        . rw[hx]at h1;cases h1;obtain⟨i1,i2⟩:=hin b (ah.aI h2).1;have e2:=h4.1;have hle:off+len<=d.len:=by
           rw[e2,hw.1,<-za0]at i2;exact Nat.le_of_mul_le_mul_right i2 (by omega)
          have hcut:=(BV.rgn h4).cut hle;have hl:=d.jG hle;have hsp':sp=none\/sp=some (d.cut off len).w:=by rw[d.Ij,<-hw.1];exact hsp
          have hx':=hout id x ⟨_,hB⟩ hx (.inr ⟨off,len,w,pre0,rfl⟩);rcases ho with h0|h0
          . subst h0;have:=reg (d.cut off 0) x o sp cap b h2 ⟨by rw[hl];omega,fun r hr=>by rw[hl]at hr;omega⟩ (by rw[hl];omega) hsp' hx';rw[hl]at this;exact this
          . rw[zaC,<-hw.1,<-h0]at hcut;have:=reg (d.cut off len) x o sp cap b h2 hcut (by rw[hl];exact hc) hsp' hx';rw[hl]at this;exact this
       |cZ _ _ _ hx=>
        rcases hS.blk _ _ hB with⟨_,h0⟩|⟨y,b,h1,_⟩
        . have h0:d.len=0:=h0;exact .cY _ (d.jG (by omega))
        . rw[hx]at h1;cases h1
     . cases h
   . cases h
 . exact absurd rfl (hs _)
 . cases h
theorem CD {s:SV} {σ τ:Sub} (h:seen s σ=some τ):Sub.le σ τ/\∀id,((∃w ex,s= .buf id w ex)\/(∃o n w p,s= .sl id o n w p))->τ.get (1000000+id)=some (some id):=by
 unfold seen at h
 split at h
 . obtain⟨h1,h2⟩:=Sub.jF h;refine⟨h1, ?_⟩
   rintro id (⟨w,ex,e⟩|⟨o,n,w,p,e⟩)
   . cases e;exact h2
   . cases e
 . obtain⟨h1,h2⟩:=Sub.jF h;refine⟨h1, ?_⟩
   rintro id (⟨w,ex,e⟩|⟨o,n,w,p,e⟩)
   . cases e
   . cases e;exact h2
 . rename_i h1 h2;cases h;refine⟨Sub.le_refl _, ?_⟩
   rintro id (⟨w,ex,e⟩|⟨o,n,w,p,e⟩)
   . exact absurd e (h1 id w ex)
   . exact absurd e (h2 id o n w p)
theorem rH (hS:Sim φ S H) {k:IntKind} {s:SV} {xs:List Int} (h:Cx S k s=some xs) {φ':Phi} {own':Nat->Prop} (ho:∀x,own' x->Own φ S x)
 (hout:∀id x,(∃B,S.get id=some B)->φ id=some (some x)->(∃w ex,s= .buf id w ex)\/(∃o n w p,s= .sl id o n w p)->¬own' x) {v:Value} (hv:DV φ H (Own φ S) s v):DV φ' H own' (.deep (.ints k xs)) v:=by
 have hcell:∀s v,flat s->DV φ H (Own φ S) s v->DV φ' H own' s v:=fun s v hf hd=>hd.na ho hf
 unfold Cx at h
 split at h
 . cases h;cases hv;exact .cY _ rfl
 . split at h
   . rename_i e;cases h;subst e;exact hv.na ho trivial
   . cases h
 . split at h
   . rename_i hvw
     split at h
     . rename_i e;cases h;subst e;exact kD hS hv hvw (fun c e=>by cases e) hcell hout
     . cases h
   . cases h
 . split at h
   . rename_i hvw
     split at h
     . rename_i e;cases h;subst e;exact kD hS hv hvw (fun c e=>by cases e) hcell hout
     . cases h
   . cases h
 . cases h
theorem rm (hS:Sim φ S H) {l:List Sch} {s:SV} {xs:List Dat} (h:CZ S l s=some xs) {φ':Phi} {own':Nat->Prop} (ho:∀x,own' x->Own φ S x)
 (hout:∀id x,(∃B,S.get id=some B)->φ id=some (some x)->(∃w ex,s= .buf id w ex)\/(∃o n w p,s= .sl id o n w p)->¬own' x) {v:Value} (hv:DV φ H (Own φ S) s v):DV φ' H own' (.deep (.af l xs)) v:=by
 have hcell:∀s v,flat s->DV φ H (Own φ S) s v->DV φ' H own' s v:=fun s v hf hd=>hd.na ho hf
 unfold CZ at h
 split at h
 . cases h;cases hv;exact .cY _ rfl
 . split at h
   . rename_i e;cases h;have:=gN.2 _ _ e;subst this;exact hv.na ho trivial
   . cases h
 . split at h
   . rename_i hvw
     split at h
     . rename_i e;cases h;have:=gN.2 _ _ e;subst this;exact kD hS hv hvw (fun c e=>by cases e) hcell hout
     . cases h
   . cases h
 . split at h
   . rename_i hvw
     split at h
     . rename_i e;cases h;have:=gN.2 _ _ e;subst this;exact kD hS hv hvw (fun c e=>by cases e) hcell hout
     . cases h
   . cases h
 . cases h
theorem DI:∀{ss:List SV} {σ τ:Sub},I9 ss σ=some τ->Sub.le σ τ/\∀s∈ss,∀id,((∃w ex,s= .buf id w ex)\/(∃o n w p,s= .sl id o n w p))->τ.get (1000000+id)=some (some id)
 |[],σ,τ,h=>by cases h;exact⟨Sub.le_refl _,fun s hs=>by simp at hs⟩
 |a::ss,σ,τ,h=>by
  simp only[I9]at h
  split at h
  . rename_i τ' h1;obtain⟨a1,a2⟩:=CD h1;obtain⟨b1,b2⟩:=DI h;refine⟨Sub.le_trans a1 b1,fun s hs id he=> ?_⟩;rcases zaT.1 hs with rfl|hs
    . exact b1 _ _ (a2 id he)
    . exact b2 s hs id he
  . cases h
theorem By (hS:Sim φ S H) {c:Sch} {s:SV} {d:Dat} (h:Cz S c s=some d) {φ':Phi} {own':Nat->Prop} (ho:∀x,own' x->Own φ S x)
 (hout:∀id x,(∃B,S.get id=some B)->φ id=some (some x)->(∃w ex,s= .buf id w ex)\/(∃o n w p,s= .sl id o n w p)->¬own' x) {v:Value} (hv:DV φ H (Own φ S) s v):DV φ' H own' (qO c d) v:=by
 unfold Cz at h
 split at h
 . split at h
   . rename_i e;subst e;cases h;cases hv;exact .i _ _
   . cases h
 . rename_i x;cases h;cases hv;have:(Dat.int (.n (bif x then 1 else 0)) !=0)=x:=by cases x<;>rfl
   simp only[qO,this];exact .b x
 . split at h
   . rename_i xs h1;cases h;have:=rH hS h1 (φ':=φ') ho hout hv;have e:(xs.map Dat.n).map Dat.int=xs:=by rw[List.map_map];exact List.map_id xs
     simp only[qO,Dat.sub,e];exact this
   . cases h
 . split at h
   . rename_i xs h1;cases h;exact rm hS h1 (φ':=φ') ho hout hv
   . cases h
 . cases h
theorem E7:∀{l:List Sch} {ss:List SV} {r:List Dat},Ik S l ss=some r->l.length=ss.length/\r.length=ss.length/\∀(j:Nat) c s d,l[j]? =some c->ss[j]? =some s->r[j]? =some d->Cz S c s=some d
 |[],[],r,h=>by cases h;exact⟨rfl,rfl,fun j c s d h=>by simp at h⟩
 |[],_::_,_,h=>by cases h
 |_::_,[],_,h=>by cases h
 |a::l,s::ss,r,h=>by
  simp only[Ik]at h
  split at h
  . rename_i d q h1 h2;cases h;obtain⟨g1,g2,g3⟩:=E7 h2;refine⟨by simp[g1],by simp[g2],fun j c s' d' a1 a2 a3=> ?_⟩;cases j with
    |zero=>simp at a1 a2 a3;subst a1;subst a2;subst a3;exact h1
    |succ j=>exact g3 j c s' d' (by simpa using a1) (by simpa using a2) (by simpa using a3)
  . cases h
structure J3 (φ : Phi) (S : aj) (own' : Nat -> Prop) (n : Nat) (υ : Sub) : Prop where
 keys:∀(j:Nat) y,υ.get j=some y->j<n\/1000000<=j
 out:∀(id x:Nat),υ.get (1000000+id)=some (some id)->(∃B,S.get id=some B)->φ id=some (some x)->¬own' x
def Fits (φ:Phi) (S:aj) (H:ah) (ban:Nat->Prop) (n:Nat) (own':Nat->Prop) (υ:Sub) (s s':SV):Prop:=∀v,DV φ H (Own φ S) s v->DV (φ.sub ban υ n) H own' s' v
theorem Phi.nU {ban:Nat->Prop} {υ:Sub} {n j:Nat} {y:Option Nat} {own':Nat->Prop} (hf:J3 φ S own' n υ) (hj:j<1000000) (h:υ.get j=some y):(φ.sub ban υ n) j=(match y with|some id=>φ id|none=>some none):=by
 have hn:j<n:=by
  rcases hf.keys j y h with h|h<;>omega
 unfold Phi.sub;simp only[if_pos hn,h];cases y<;>rfl
section
variable {ban : Nat -> Prop} {n : Nat} {own' : Nat -> Prop}
theorem Fits.agg {υ:Sub} {ss ss':List SV} (hl:ss'.length=ss.length) (h:∀(i:Nat) s s',ss[i]? =some s->ss'[i]? =some s'->Fits φ S H ban n own' υ s s'):Fits φ S H ban n own' υ (.agg ss) (.agg ss'):=by
 intro v hv;cases hv with
 |agg l x' hx vx=>
  refine .agg _ _ (by rw[hl];exact hx) (fun i s v h1 h2=> ?_);have hi:i<ss.length:=by rw[<-hl];exact(zan.1 h1).1
  exact h i _ s (zah hi) h1 v (vx i _ v (zah hi) h2)
theorem Fits.fn {υ:Sub} {g:Nat} {x y x2 y2:List SV} (hl:x2.length=x.length) (hm:y2.length=y.length) (h:∀(i:Nat) s s',x[i]? =some s->x2[i]? =some s'->Fits φ S H ban n own' υ s s')
 (k:∀(i:Nat) s s',y[i]? =some s->y2[i]? =some s'->Fits φ S H ban n own' υ s s'):Fits φ S H ban n own' υ (.fn g x y) (.fn g x2 y2):=by
 intro v hv;cases hv with
 |fn _ _ _ x' y' hx hy vx vy=>
  refine .fn g _ _ _ _ (by rw[hl];exact hx) (by rw[hm];exact hy) (fun i s v h1 h2=> ?_) (fun i s v h1 h2=> ?_)
  . have hi:i<x.length:=by rw[<-hl];exact(zan.1 h1).1
    exact h i _ s (zah hi) h1 v (vx i _ v (zah hi) h2)
  . have hi:i<y.length:=by rw[<-hm];exact(zan.1 h1).1
    exact k i _ s (zah hi) h1 v (vy i _ v (zah hi) h2)
def Tq (φ:Phi) (S:aj) (H:ah) (ban:Nat->Prop) (n:Nat) (own':Nat->Prop) (υ:Sub) (ss ss':List SV):Prop:=ss'.length=ss.length/\∀(i:Nat) s s',ss[i]? =some s->ss'[i]? =some s'->Fits φ S H ban n own' υ s s'
mutual
theorem YX (hS:Sim φ S H) (ho:∀x,own' x->Own φ S x):∀(p:VP) (s:SV) (σ τ:Sub) (a:List Un),VP.of S p s σ=some (a,τ)->
 Sub.le σ τ/\a.length=p.size/\∀υ,Sub.le τ υ->J3 φ S own' n υ->∀rest,Fits φ S H ban n own' υ s (p.to (a++rest))
 | .any,s,σ,τ,a,h=>by
  simp only[VP.of,zak,zaR]at h;obtain⟨rfl,rfl⟩:=h;exact⟨Sub.le_refl _,rfl,fun _ _ _ _ v _=> .any v⟩
 | .int k,s,σ,τ,a,h=>by
  cases s<;>simp only[VP.of]at h<;>try (cases h;done)
  split at h
  . rename_i e;cases h;subst e;exact⟨Sub.le_refl _,rfl,fun _ _ _ _ v hv=>by cases hv;exact .i _ _⟩
  . cases h
 | .bool,s,σ,τ,a,h=>by
  cases s<;>simp only[VP.of]at h<;>try (cases h;done)
  cases h;exact⟨Sub.le_refl _,rfl,fun _ _ _ _ v hv=>by cases hv;exact .b _⟩
 | .jd,s,σ,τ,a,h=>by
  cases s<;>simp only[VP.of]at h<;>try (cases h;done)
  cases h;exact⟨Sub.le_refl _,rfl,fun _ _ _ _ v hv=>by cases hv;exact .jd⟩
 | .ev,s,σ,τ,a,h=>by
  cases s<;>simp only[VP.of]at h<;>try (cases h;done)
  cases h;exact⟨Sub.le_refl _,rfl,fun _ _ _ _ v hv=>by cases hv;exact .ev⟩
 | .mi,s,σ,τ,a,h=>by
  cases s<;>simp only[VP.of]at h<;>try (cases h;done)
  cases h;exact⟨Sub.le_refl _,rfl,fun _ _ _ _ v hv=>by cases hv;exact .mi⟩
 | .ptr j w col,s,σ,τ,a,h=>by
  cases s<;>simp only[VP.of]at h<;>try (cases h;done)
  split at h
  . rename_i e;obtain⟨rfl,rfl,rfl,hj⟩:=e
    split at h
    . rename_i τ' hb;cases h;obtain⟨h1,h2⟩:=Sub.jF hb;refine⟨h1,rfl,fun υ hle hf rest v hv=> ?_⟩;cases hv with
      |ptr _ _ _ _ x hx=>exact .ptr j 0 w col x (by rw[Phi.nU hf hj (hle _ _ h2)];exact hx)
    . cases h
  . cases h
 | .np j w col,s,σ,τ,a,h=>by
  cases s<;>simp only[VP.of]at h<;>try (cases h;done)
  . cases h;exact⟨Sub.le_refl _,rfl,fun _ _ _ _ v hv=>by cases hv;exact .jK _ _ _ _ (by omega)⟩
  . split at h
    . rename_i e;obtain⟨rfl,rfl,hj⟩:=e
      split at h
      . rename_i τ' hb;cases h;obtain⟨h1,h2⟩:=Sub.jF hb;refine⟨h1,rfl,fun υ hle hf rest v hv=> ?_⟩;cases hv with
        |ptr _ _ _ _ x hx=>exact .np j w col x _ (by omega) (by rw[Phi.nU hf hj (hle _ _ h2)];exact hx)
      . cases h
    . cases h
  . split at h
    . rename_i e;obtain⟨rfl,rfl,hj⟩:=e
      split at h
      . rename_i τ' hb;cases h;obtain⟨h1,h2⟩:=Sub.jF hb;refine⟨h1,rfl,fun υ hle hf rest v hv=> ?_⟩;cases hv with
        |jK _ _ _ _ hn=>exact .jK j w col _ hn
        |np _ _ _ x _ hn hx=>exact .np j w col x _ hn (by rw[Phi.nU hf hj (hle _ _ h2)];exact hx)
      . cases h
    . cases h
 | .sl j w,s,σ,τ,a,h=>by
  cases s<;>simp only[VP.of]at h<;>try (cases h;done)
  . split at h
    . rename_i e;obtain⟨rfl,hj⟩:=e
      split at h
      . rename_i k τ' hk hb;cases h;obtain⟨h1,h2⟩:=Sub.jF hb;refine⟨h1,rfl,fun υ hle hf rest v hv=> ?_⟩;have hat:=Phi.nU (ban:=ban) hf hj (hle _ _ h2);obtain⟨a,cap,rfl,hcap,_⟩:=lB hS hv hk;cases hv with
        |buf _ _ _ x _ sp hx hn' hs=>
         exact .sl j 0 _ _ false x 0 sp _ (by rw[hat];exact hx) (.inr (by simp)) (hs.imp id fun h=>h.2.1) (zam _) (fun c hc=>by have:=hn' c hc;simp only[zay];omega) (fun h=>by cases h)
        |dP _ _ hx=>exact .cZ j _ _ (by rw[hat];exact hx)
      . cases h
    . cases h
  . split at h
    . rename_i e;obtain⟨rfl,hj⟩:=e
      split at h
      . rename_i τ' hb;cases h;obtain⟨h1,h2⟩:=Sub.jF hb;refine⟨h1,rfl,fun υ hle hf rest v hv=> ?_⟩;have hat:=Phi.nU (ban:=ban) hf hj (hle _ _ h2);cases hv with
        |sl _ _ _ _ _ x o sp cap hx ho hs hc hin=>exact .sl j _ _ w false x o sp cap (by rw[hat];exact hx) ho hs hc hin (fun h=>by cases h)
        |cZ _ _ _ hx=>exact .cZ j w _ (by rw[hat];exact hx)
      . cases h
    . cases h
 | .buf j w,s,σ,τ,a,h=>by
  cases s<;>simp only[VP.of]at h<;>try (cases h;done)
  . split at h
    . rename_i hj
      split at h
      . rename_i τ' hb;cases h;obtain⟨h1,h2⟩:=Sub.jF hb;refine⟨h1,rfl,fun υ hle hf rest v hv=> ?_⟩;cases hv;exact .dP j w (by rw[Phi.nU hf hj (hle _ _ h2)])
      . cases h
    . cases h
  . split at h
    . rename_i e;obtain⟨rfl,hj⟩:=e
      split at h
      . rename_i τ' hb;cases h;obtain⟨h1,h2⟩:=Sub.jF hb;refine⟨h1,rfl,fun υ hle hf rest v hv=> ?_⟩;have hat:=Phi.nU (ban:=ban) hf hj (hle _ _ h2);cases hv with
        |buf _ _ _ x n sp hx hn hs=>
         refine .buf j _ false x n sp (by rw[hat];exact hx) hn ?_
         rcases hs with h|⟨_,h⟩
         . exact .inl h
         . exact .inr ⟨rfl,h⟩
        |dP _ _ hx=>exact .dP j _ (by rw[hat];exact hx)
      . cases h
    . cases h
 | .ints k,s,σ,τ,a,h=>by
  simp only[VP.of]at h
  split at h
  . rename_i xs τ' h1 h2;cases h;obtain⟨g1,g2⟩:=CD h2;refine⟨g1,rfl,fun υ hle hf rest v hv=> ?_⟩;exact rH hS h1 ho (fun id x hB hx hs=>hf.out id x (hle _ _ (g2 id hs)) hB hx) hv
  . cases h
 | .af l,s,σ,τ,a,h=>by
  simp only[VP.of]at h
  split at h
  . rename_i xs τ' h1 h2;cases h;obtain⟨g1,g2⟩:=CD h2;refine⟨g1,rfl,fun υ hle hf rest v hv=> ?_⟩;exact rm hS h1 ho (fun id x hB hx hs=>hf.out id x (hle _ _ (g2 id hs)) hB hx) hv
  . cases h
 | .dpt l,s,σ,τ,a,h=>by
  cases s<;>simp only[VP.of]at h<;>try (cases h;done)
  . rename_i id row w col
    split at h
    . rename_i e;obtain⟨rfl,rfl⟩:=e
      split at h
      . rename_i cs hB
        split at h
        . rename_i r τ' h1 h2;cases h;obtain⟨g1,g2⟩:=DI h2;obtain⟨k1,k2,k3⟩:=E7 h1;refine⟨g1,rfl,fun υ hle hf rest v hv=> ?_⟩;cases hv with
          |ptr _ _ _ _ x hx=>
           rcases hS.blk _ _ hB with⟨q0,_⟩|⟨y,c,q1,q2,_,q4⟩
           . rw[hx]at q0;cases q0
           . rw[hx]at q1;cases q1;have hout:∀s∈cs,∀id x,(∃B,S.get id=some B)->φ id=some (some x)->(∃w ex,s= .buf id w ex)\/(∃o n w p,s= .sl id o n w p)->¬own' x:=
              fun s hs id x hB hx he=>hf.out id x (hle _ _ (g2 s (zaN _ hs) id he)) hB hx
             have hno:¬own' x:=hf.out id x (hle _ _ (g2 _ (List.mem_cons_self ..) id (.inl ⟨_,_,rfl⟩))) ⟨_,hB⟩ hx;have hcl:cs.length=c.cells.length:=q4.1;rw[show 0*w+0=0+0*(aE.af l [.r r]).w+0 by simp];refine .dp (.af l [.r r]) 0 0 x 0 c q2 hno (by simp[aE.len,aE.w];omega) (fun rr hr j s' hs' u hu=> ?_);have hr:rr=0:=by simp[aE.len]at hr;exact hr
             subst hr;simp only[aE.row,zaO,iI,zb4,zaC]at hs' hu;have hj:j<cs.length:=by rw[hcl];exact(zan.1 hu).1
             have hlj:l[j]? =some l[j]:=zah (by omega);rw[hlj,za9]at hs';cases hs';have hrj:r[j]? =some r[j]:=zah (by omega);have hd:(Dat.r r).fld j=r[j]:=by simp[Dat.fld,Dat.sub,zag,hrj]
             have hsj:cs[j]? =some cs[j]:=zah hj
             try rw[hd]
             exact By hS (k3 j _ _ _ hlj hsj hrj) ho (hout _ (zbD _)) (q4.2 j _ u hsj hu)
        . cases h
      . cases h
    . cases h
  . split at h
    . rename_i e;obtain⟨rfl,rfl⟩:=e
      split at h
      . split at h
        . rename_i e;cases h;have:=gN.2 _ _ e;subst this;refine⟨Sub.le_refl _,rfl,fun _ _ _ _ v hv=> ?_⟩;cases hv with
          |dp _ _ _ x o blk hb hno hl hc=>exact .dp _ 0 0 x o blk hb (fun h=>hno (ho x h)) hl (fun r hr j s hs v hv=>(hc r hr j s hs v hv).na ho (jW hs))
        . cases h
      . cases h
    . cases h
 | .fn g x y,s,σ,τ,a,h=>by
  cases s<;>simp only[VP.of]at h<;>try (cases h;done)
  split at h
  . rename_i e;subst e
    split at h
    . rename_i c τ1 h1
      split at h
      . rename_i d τ2 h2;cases h;obtain⟨a1,a2,a3⟩:=tC hS ho x _ _ _ _ h1;obtain⟨b1,b2,b3⟩:=tC hS ho y _ _ _ _ h2;refine⟨Sub.le_trans a1 b1,by simp[VP.size,a2,b2],fun υ hle hf rest=> ?_⟩;simp only[VP.to,zaq];rw[<-a2,zbr];obtain⟨c1,c2⟩:=a3 υ (Sub.le_trans b1 hle) hf (d++rest);obtain⟨d1,d2⟩:=b3 υ hle hf rest;exact Fits.fn c1 d1 c2 d2
      . cases h
    . cases h
  . cases h
 | .agg l,s,σ,τ,a,h=>by
  cases s<;>simp only[VP.of]at h<;>try (cases h;done)
  obtain⟨a1,a2,a3⟩:=tC hS ho l _ _ _ _ h;refine⟨a1,by simp[VP.size,a2],fun υ hle hf rest=> ?_⟩;obtain⟨c1,c2⟩:=a3 υ hle hf rest;exact Fits.agg c1 c2
theorem tC (hS:Sim φ S H) (ho:∀x,own' x->Own φ S x):∀(ps:List VP) (ss:List SV) (σ τ:Sub) (a:List Un),VP.ofs S ps ss σ=some (a,τ)->
 Sub.le σ τ/\a.length=VP.ly ps/\∀υ,Sub.le τ υ->J3 φ S own' n υ->∀rest,Tq φ S H ban n own' υ ss (VP.tos ps (a++rest))
 |[],ss,σ,τ,a,h=>by
  cases ss<;>simp only[VP.ofs]at h<;>try (cases h;done)
  cases h;exact⟨Sub.le_refl _,rfl,fun _ _ _ _=>⟨rfl,fun i s s' h1 h2=>by simp at h1⟩⟩
 |p::ps,ss,σ,τ,a,h=>by
  cases ss<;>simp only[VP.ofs]at h<;>try (cases h;done)
  rename_i s ss
  split at h
  . rename_i c τ1 h1
    split at h
    . rename_i d τ2 h2;cases h;obtain⟨a1,a2,a3⟩:=YX hS ho p _ _ _ _ h1;obtain⟨b1,b2,b3⟩:=tC hS ho ps _ _ _ _ h2;refine⟨Sub.le_trans a1 b1,by simp[VP.ly,a2,b2],fun υ hle hf rest=> ?_⟩;simp only[VP.tos,zaq];rw[<-a2,zbr];have c1:=a3 υ (Sub.le_trans b1 hle) hf (d++rest);obtain⟨d1,d2⟩:=b3 υ hle hf rest;refine⟨by simp[d1],fun i u u' h3 h4=> ?_⟩;cases i with
      |zero=>
       simp at h3 h4;subst h3;subst h4;exact c1
      |succ i=>
       simp only[zaX]at h3 h4;exact d2 i u u' h3 h4
    . cases h
  . cases h
end
end
end
end
end
end Go.Proofs.YtfaojedfnjdnnaaGreat.Ev
namespace Go.Proofs.YtfaojedfnjdnnaaGreat.Ev
noncomputable section
noncomputable section
open Go
theorem aj.HK (S:aj) (b:Option aS) (k:Nat):(S.pP b).root.get k=if k=S.size then b else S.root.get k:=
 STr.fG _ _ _ _ _ (Nat.lt_succ_self _)
theorem foldl_push:∀(l:List (Option aS)) (S:aj),(l.foldl aj.pP S).size=S.size+l.length/\(l.foldl aj.pP S).lock=S.lock/\(l.foldl aj.pP S).hid=S.hid/\
 ∀j,(l.foldl aj.pP S).root.get j=if S.size<=j/\j<S.size+l.length then(l[j-S.size]?).join else S.root.get j
 |[],S=>by
  refine⟨by simp,rfl,rfl,fun j=> ?_⟩;rw[if_neg (by simp)];rfl
 |b::l,S=>by
  obtain⟨h1,h2,h3,h4⟩:=foldl_push l (S.pP b);have hs:(S.pP b).size=S.size+1:=rfl;refine⟨by simp only[zbV,zac];rw[h1,hs];omega,h2,h3,fun j=> ?_⟩;simp only[zbV,zac];rw[h4,hs,aj.HK]
  by_cases h:S.size+1<=j/\j<S.size+1+l.length
  . rw[if_pos h,if_pos (by omega),show j-S.size=(j-(S.size+1))+1 by omega,zaX]
  . rw[if_neg h]
    by_cases e:j=S.size
    . rw[if_pos e,if_pos (by omega),e];simp
    . rw[if_neg e,if_neg (by omega)]
theorem lU (l:List (Option aS)):(gu l).size=l.length:=by
 have:=(foldl_push l ⟨0,.e,0,[]⟩).1;simpa[gu]using this
theorem Gj (l:List (Option aS)):(gu l).hid=[]:=(foldl_push l ⟨0,.e,0,[]⟩).2.2.1
theorem xw (l:List (Option aS)) (j:Nat):(gu l).get j=(l[j]?).join:=by
 by_cases h:j<l.length
 . rw[aj.fz (by rw[lU];exact h) (by rw[Gj];rfl)];have:=(foldl_push l ⟨0,.e,0,[]⟩).2.2.2 j;unfold gu;rw[this,if_pos ⟨zbq _,by simpa using h⟩];simp
 . rw[zaV (by omega)];unfold aj.get;rw[if_neg (by rw[lU];exact h)];rfl
theorem oh {l:List (Option aS)} {j:Nat} {B:aS} (h:(gu l).get j=some B):l[j]? =some (some B):=by
 rw[xw]at h;cases hl:l[j]? with
 |none=>rw[hl]at h;cases h
 |some x=>rw[hl]at h;simp at h;rw[h]
section
variable {φ : Phi} {S : aj} {H : ah} {ban : Nat -> Prop} {n : Nat} {own' : Nat -> Prop}
def Told (φ:Phi) (S:aj) (H:ah) (ban:Nat->Prop) (n:Nat) (own':Nat->Prop) (υ:Sub) (B:aS) (B':Option aS):Prop:=
 ∀C,B'=some C->(∀cs,BV φ H (Own φ S) B cs->BV (φ.sub ban υ n) H own' C cs)/\(B.empty->C.empty)
theorem ML (hS:Sim φ S H) (ho:∀x,own' x->Own φ S x) {p:BP} {B:aS} {σ τ:Sub} {a:List Un} (h:BP.of S p B σ=some (a,τ)):
 Sub.le σ τ/\a.length=p.size/\∀υ,Sub.le τ υ->J3 φ S own' n υ->∀rest,Told φ S H ban n own' υ B (p.to (a++rest)):=by
 unfold BP.of at h
 split at h
 . rename_i l l';obtain⟨h1,h2,h3⟩:=tC (n:=n) (ban:=ban) hS ho l l' _ _ _ h;refine⟨h1,h2,fun υ hle hf rest C hC=> ?_⟩;cases hC;refine⟨fun cs hB=> ?_,fun _=>trivial⟩;obtain⟨c1,c2⟩:=h3 υ hle hf rest;refine⟨by rw[c1];exact hB.1,fun i s v g1 g2=> ?_⟩;have hi:i<l'.length:=by rw[<-c1];exact(zan.1 g1).1
   exact c2 i _ s (zah hi) g1 v (hB.2 i _ v (zah hi) g2)
 . split at h
   . rename_i e;cases h;subst e;refine⟨Sub.le_refl _,rfl,fun υ hle hf rest C hC=> ?_⟩;cases hC;refine⟨fun cs hB=> ?_,fun e=>e⟩;exact⟨hB.1,fun r hr j s hs v hv=>(hB.2 r hr j s hs v hv).na ho (jW hs)⟩
   . cases h
 . split at h
   . rename_i e;cases h;have:=gN.2 _ _ e;subst this;refine⟨Sub.le_refl _,rfl,fun υ hle hf rest C hC=> ?_⟩;cases hC;refine⟨fun cs hB=> ?_,fun e=>e⟩;exact⟨hB.1,fun r hr j s hs v hv=>(hB.2 r hr j s hs v hv).na ho (jW hs)⟩
   . cases h
 . split at h
   . rename_i e;obtain⟨rfl,rfl,hj⟩:=e
     split at h
     . rename_i τ' hb;cases h;obtain⟨h1,h2⟩:=Sub.jF hb;refine⟨h1,rfl,fun υ hle hf rest C hC=> ?_⟩;cases hC;refine⟨fun cs hB=>⟨hB.1,fun r v hr hv=> ?_⟩,fun e=>e⟩;have:=hB.2 r v hr hv;cases this with
       |jK _ _ _ _ hn=>exact .jK _ _ _ _ hn
       |np _ _ _ x _ hn hx=>exact .np _ _ _ x _ hn (by rw[Phi.nU hf hj (hle _ _ h2)];exact hx)
     . cases h
   . cases h
 . cases h
mutual
theorem Nn:∀(p:VP),p.Qm.length=p.size
 | .int _=>rfl
 | .np _ _ _=>rfl
 | .sl _ _=>rfl
 | .bool=>rfl
 | .ints _=>rfl
 | .af _=>rfl
 | .dpt _=>rfl
 | .fn _ x y=>by simp[VP.Qm,VP.size,mK x,mK y]
 | .agg l=>by simp[VP.Qm,VP.size,mK l]
 | .any=>rfl
 | .jd=>rfl
 | .ev=>rfl
 | .mi=>rfl
 | .ptr _ _ _=>rfl
 | .buf _ _=>rfl
theorem mK:∀(l:List VP),(VP.xY l).length=VP.ly l
 |[]=>rfl
 |p::ps=>by simp[VP.xY,VP.ly,Nn p,mK ps]
end
theorem Lc (p:BP):p.nil.length=p.size/\∀rest C,p.to (p.nil++rest)=some C->C.empty:=by
 cases p with
 |cells l=>exact⟨mK l,fun rest C h=>by cases h;trivial⟩
 |ints k=>exact⟨rfl,fun rest C h=>by cases h;rfl⟩
 |af l=>exact⟨rfl,fun rest C h=>by cases h;rfl⟩
 |eS j w col=>exact⟨rfl,fun rest C h=>by cases h;rfl⟩
 |gone=>exact⟨rfl,fun rest C h=>by cases h⟩
theorem sO:∀(ps:List BP) (us:List Un),(dk ps us).length=ps.length
 |[],_=>rfl
 |p::ps,us=>by simp[dk,sO ps]
theorem Bb {p:BP} (h:p.jo=true) (us:List Un):p.size=0/\p.to us=none:=by
 cases p<;>simp[BP.jo]at h
 exact⟨rfl,rfl⟩
theorem bind_none {σ:Sub} {j:Nat} (h:σ.get j=none):Sub.le σ ((j,none)::σ)/\Sub.get ((j,none)::σ) j=some none:=by
 refine⟨fun k y hk=> ?_,by simp[Sub.get]⟩;simp only[Sub.get]
 split
 . rename_i e;subst e;rw[h]at hk;cases hk
 . exact hk
theorem jS (hS:Sim φ S H) (ho:∀x,own' x->Own φ S x):∀{ps:List BP} {j:Nat} {σ τ:Sub} {a:List Un},oK S j ps σ=some (a,τ)->
 Sub.le σ τ/\∀υ,Sub.le τ υ->J3 φ S own' n υ->∀rest,∀i B',(dk ps (a++rest))[i]? =some (some B')->
  (υ.get (j+i)=some none/\B'.empty)\/∃id B,υ.get (j+i)=some (some id)/\S.get id=some B/\(∀cs,BV φ H (Own φ S) B cs->BV (φ.sub ban υ n) H own' B' cs)/\(B.empty->B'.empty)
 |[],j,σ,τ,a,h=>by
  simp only[oK,zak,zaR]at h;obtain⟨rfl,rfl⟩:=h;exact⟨Sub.le_refl _,fun υ _ _ rest i B' hi=>by simp[dk]at hi⟩
 |p::ps,j,σ,τ,a,h=>by
  simp only[oK]at h
  split at h
  . rename_i hg;obtain⟨b1,b2⟩:=jS hS ho h;refine⟨b1,fun υ hle hf rest i B' hi=> ?_⟩;obtain⟨g1,g2⟩:=Bb hg (a++rest);cases i with
    |zero=>
     simp only[dk,zbp,zak,g2]at hi;cases hi
    |succ i=>
     simp only[dk,zaX,g1,zbN]at hi;have:=b2 υ hle hf rest i B' hi
     rwa [show j+1+i=j+(i+1) by omega]at this
  . split at h
    . rename_i id hid
      split at h
      . rename_i B hB
        split at h
        . rename_i c τ1 h1
          split at h
          . rename_i d τ2 h2;cases h;obtain⟨a1,a2,a3⟩:=ML (n:=n) (ban:=ban) hS ho h1;obtain⟨b1,b2⟩:=jS hS ho h2;refine⟨Sub.le_trans a1 b1,fun υ hle hf rest i B' hi=> ?_⟩;cases i with
            |zero=>
             simp only[dk,zbp,zak]at hi;rw[zaq]at hi;obtain⟨c1,c2⟩:=a3 υ (Sub.le_trans b1 hle) hf (d++rest) B' hi;exact .inr ⟨id,B,hle _ _ (b1 _ _ (a1 _ _ hid)),hB,c1,c2⟩
            |succ i=>
             simp only[dk,zaX]at hi;rw[zaq,<-a2,zbr]at hi;have:=b2 υ hle hf rest i B' hi
             rwa [show j+1+i=j+(i+1) by omega]at this
          . cases h
        . cases h
      . cases h
    . rename_i hid
      split at h
      . rename_i d τ2 h2;cases h;obtain⟨a2,a3⟩:=Lc p;obtain⟨b1,b2⟩:=jS hS ho h2;refine⟨b1,fun υ hle hf rest i B' hi=> ?_⟩;cases i with
        |zero=>
         simp only[dk,zbp,zak]at hi;rw[zaq]at hi;exact .inl ⟨hle _ _ (b1 _ _ hid),a3 _ _ hi⟩
        |succ i=>
         simp only[dk,zaX]at hi;rw[zaq,<-a2,zbr]at hi;have:=b2 υ hle hf rest i B' hi
         rwa [show j+1+i=j+(i+1) by omega]at this
      . cases h
    . rename_i hid
      split at h
      . rename_i d τ2 h2;cases h;obtain⟨a2,a3⟩:=Lc p;obtain⟨b1,b2⟩:=jS hS ho h2;obtain⟨e1,e2⟩:=bind_none hid;refine⟨Sub.le_trans e1 b1,fun υ hle hf rest i B' hi=> ?_⟩;cases i with
        |zero=>
         simp only[dk,zbp,zak]at hi;rw[zaq]at hi;exact .inl ⟨hle _ _ (b1 _ _ e2),a3 _ _ hi⟩
        |succ i=>
         simp only[dk,zaX]at hi;rw[zaq,<-a2,zbr]at hi;have:=b2 υ hle hf rest i B' hi
         rwa [show j+1+i=j+(i+1) by omega]at this
      . cases h
theorem Iq:∀{σ:Sub} {j:Nat} {y:Option Nat},σ.get j=some y->(j,y)∈σ
 |[],j,y,h=>by cases h
 |(i,x)::σ,j,y,h=>by
  simp only[Sub.get]at h
  split at h
  . rename_i e;cases h;subst e;simp
  . exact zaN _ (Iq h)
theorem sq:∀{σ:Sub},Sub.apart σ=true->∀{j k id:Nat},σ.get j=some (some id)->σ.get k=some (some id)->j=k
 |[],_,_,_,_,h,_=>by cases h
 |(i,x)::r,ha,j,k,id,h1,h2=>by
  simp only[Sub.apart,zae]at ha;obtain⟨ha1,ha2⟩:=ha;have mem:∀{σ:Sub} {j:Nat} {y:Option Nat},σ.get j=some y->(j,y)∈σ:=by
   intro σ
   induction σ with
   |nil=>intro j y h;cases h
   |cons p σ ih=>
    intro j y h;obtain⟨i,x⟩:=p;simp only[Sub.get]at h
    split at h
    . rename_i e;cases h;subst e;simp
    . exact zaN _ (ih h)
  simp only[Sub.get]at h1 h2
  by_cases e1:j=i
  . by_cases e2:k=i
    . rw[e1,e2]
    . rw[if_pos e1]at h1;rw[if_neg e2]at h2;cases h1;simp only[zao,zba,zaE]at ha1;rcases ha1 _ (mem h2)with h|h
      . simp at h
      . exact absurd h e2
  . rw[if_neg e1]at h1
    by_cases e2:k=i
    . rw[if_pos e2]at h2;cases h2;simp only[zao,zba,zaE]at ha1;rcases ha1 _ (mem h1)with h|h
      . simp at h
      . exact absurd h e1
    . rw[if_neg e2]at h2;exact sq ha2 h1 h2
theorem w8 {σ:Sub} {n lk lock:Nat} (h:Sub.keys σ n lk lock=true) {j:Nat} {y:Option Nat} (hj:σ.get j=some y):1000000<=j\/(j<n/\∀id,y=some id->lk<=j->lock<=id):=by
 have mem:∀{σ:Sub} {j:Nat} {y:Option Nat},σ.get j=some y->(j,y)∈σ:=by
  intro σ
  induction σ with
  |nil=>intro j y h;cases h
  |cons p σ ih=>
   intro j y h;obtain⟨i,x⟩:=p;simp only[Sub.get]at h
   split at h
   . rename_i e;cases h;subst e;simp
   . exact zaN _ (ih h)
 simp only[Sub.keys,zao]at h;have:=h _ (mem hj);simp only[zba,zae,zaf]at this;rcases this with h|⟨h1,h2⟩
 . exact .inl h
 . refine .inr ⟨h1, ?_⟩
   rintro id rfl hlk
   have h2:j<lk\/lock<=id:=by simpa using h2
   omega
theorem kN:∀{ps:List BP} {j:Nat} {σ τ:Sub} {a:List Un},oK S j ps σ=some (a,τ)->(∀σ1 σ2 p B b,BP.of S p B σ1=some (b,σ2)->Sub.le σ1 σ2)->
 Sub.le σ τ/\∀i p,ps[i]? =some p->p.jo=false->τ.get (j+i)=some none\/∃id B,τ.get (j+i)=some (some id)/\S.get id=some B
 |[],j,σ,τ,a,h,_=>by
  simp only[oK,zak,zaR]at h;obtain⟨rfl,rfl⟩:=h;exact⟨Sub.le_refl _,fun i p hi=>by simp at hi⟩
 |p::ps,j,σ,τ,a,h,hle=>by
  simp only[oK]at h
  split at h
  . rename_i hg;obtain⟨b1,b2⟩:=kN h hle;refine⟨b1,fun i q hi hq=> ?_⟩;cases i with
    |zero=>simp at hi;subst hi;rw[hg]at hq;cases hq
    |succ i=>
     have:=b2 i q (by simpa using hi) hq
     rwa [show j+1+i=j+(i+1) by omega]at this
  . split at h
    . rename_i id hid
      split at h
      . rename_i B hB
        split at h
        . rename_i c τ1 h1
          split at h
          . rename_i d τ2 h2;cases h;have a1:=hle _ _ _ _ _ h1;obtain⟨b1,b2⟩:=kN h2 hle;refine⟨Sub.le_trans a1 b1,fun i q hi hq=> ?_⟩;cases i with
            |zero=>exact .inr ⟨id,B,b1 _ _ (a1 _ _ hid),hB⟩
            |succ i=>
             have:=b2 i q (by simpa using hi) hq
             rwa [show j+1+i=j+(i+1) by omega]at this
          . cases h
        . cases h
      . cases h
    . rename_i hid
      split at h
      . rename_i d τ2 h2;cases h;obtain⟨b1,b2⟩:=kN h2 hle;refine⟨b1,fun i q hi hq=> ?_⟩;cases i with
        |zero=>exact .inl (b1 _ _ hid)
        |succ i=>
         have:=b2 i q (by simpa using hi) hq
         rwa [show j+1+i=j+(i+1) by omega]at this
      . cases h
    . rename_i hid
      split at h
      . rename_i d τ2 h2;cases h;obtain⟨b1,b2⟩:=kN h2 hle;obtain⟨e1,e2⟩:=bind_none hid;refine⟨Sub.le_trans e1 b1,fun i q hi hq=> ?_⟩;cases i with
        |zero=>exact .inl (b1 _ _ e2)
        |succ i=>
         have:=b2 i q (by simpa using hi) hq
         rwa [show j+1+i=j+(i+1) by omega]at this
      . cases h
theorem pY:∀{ps:List BP} {us:List Un} {j:Nat} {B:aS},(dk ps us)[j]? =some (some B)->∃p,ps[j]? =some p/\p.jo=false
 |[],us,j,B,h=>by simp[dk]at h
 |p::ps,us,0,B,h=>by
  simp only[dk,zbp,zak]at h;refine⟨p,by simp, ?_⟩;cases hg:p.jo with
  |false=>rfl
  |true=>rw[(Bb hg us).2]at h;cases h
 |p::ps,us,j+1,B,h=>by
  simp only[dk,zaX]at h;simpa using pY h
theorem S3 {p:Pn} {σ0:Sub} {vs:List SV} {us:List Un} {τ:Sub} (h:p.of σ0 vs S=some (us,τ)) (hS:Sim φ S H) (hban:∀x,ban x->Own φ S x)
 (hv:∀(id x:Nat) B,τ.get (1000000+id)=some (some id)->S.get id=some B->φ id=some (some x)->¬ban x):
 Sim (φ.sub ban τ p.cr.length) (p.bB us) H/\(∀ws,DVL φ H (Own φ S) vs ws->DVL (φ.sub ban τ p.cr.length) H (Own (φ.sub ban τ p.cr.length) (p.bB us)) (p.fj us) ws)/\
 (∀x,fp (φ.sub ban τ p.cr.length) (p.bB us) x->∃(j id:Nat) (B:aS),j<p.cr.length/\τ.get j=some (some id)/\S.get id=some B/\φ id=some (some x))/\
 (∀j id,j<p.cr.length->τ.get j=some (some id)->(φ.sub ban τ p.cr.length) j=φ id)/\Sub.le σ0 τ/\Sub.apart τ=true/\Sub.keys τ p.cr.length p.lk S.lock=true/\(∀q∈σ0,q.1<p.cr.length)/\
 (∀x,ox (φ.sub ban τ p.cr.length) (p.bB us) x->∃(j id:Nat) (B:aS),p.lk<=j/\j<p.cr.length/\τ.get j=some (some id)/\S.lock<=id/\S.get id=some B/\φ id=some (some x)):=by
 unfold Pn.of at h
 split at h
 . rename_i a σ h1
   split at h
   . rename_i c τ' h2
     split at h
     . rename_i hc;obtain⟨hk,hap,hn,hin⟩:=hc;cases h;have hdummy:∀σ1 σ2 (p:BP) B b,BP.of S p B σ1=some (b,σ2)->Sub.le σ1 σ2:=fun σ1 σ2 p B b hb=>
        (ML (φ:=φ) (H:=H) (ban:=fun _=>False) (n:=0) (own':=fun _=>False) hS (fun _ h=>h.elim) hb).1
       obtain⟨hle2,hids⟩:=kN h2 hdummy;have hsz:(p.bB (a++c)).size=p.cr.length:=by show(gu _).size=_;rw[lU,sO]
       have hgetn:∀j B,(p.bB (a++c)).get j=some B->j<p.cr.length:=fun j B h=>by have:=aj.bo h;omega
       have hat:∀j,j<p.cr.length->∀y,τ.get j=some y->(φ.sub ban τ p.cr.length) j=(match y with|some id=>φ id|none=>some none):=by
        intro j hj y hy;unfold Phi.sub;simp only[if_pos hj,hy];cases y<;>rfl
       have hownw:∀x,ox (φ.sub ban τ p.cr.length) (p.bB (a++c)) x->∃(j id:Nat) (B:aS),p.lk<=j/\j<p.cr.length/\τ.get j=some (some id)/\S.lock<=id/\S.get id=some B/\φ id=some (some x):=by
        rintro x ⟨j,B,g0,g1,g2⟩
        have hj:=hgetn j B g1;obtain⟨q,q1,q2⟩:=pY (oh g1);rcases hids j q q1 q2 with g3|⟨id,B0,g3,g4⟩
        . rw[zaC]at g3;rw[hat j hj _ g3]at g2;cases g2
        . rw[zaC]at g3;rw[hat j hj _ g3]at g2;have g0:p.lk<=j:=g0;refine⟨j,id,B0,g0,hj,g3, ?_,g4,g2⟩;rcases w8 hk g3 with h|⟨_,h⟩
          . have:=hn.1;omega
          . exact h id rfl g0
       have hown0:∀x,fp (φ.sub ban τ p.cr.length) (p.bB (a++c)) x->∃(j id:Nat) (B:aS),j<p.cr.length/\τ.get j=some (some id)/\S.get id=some B/\φ id=some (some x):=by
        rintro x ⟨j,B,g1,g2⟩
        have hj:=hgetn j B g1;obtain⟨q,q1,q2⟩:=pY (oh g1);rcases hids j q q1 q2 with g3|⟨id,B0,g3,g4⟩
        . rw[zaC]at g3;rw[hat j hj _ g3]at g2;cases g2
        . rw[zaC]at g3;rw[hat j hj _ g3]at g2;exact⟨j,id,B0,hj,g3,g4,g2⟩
       have hown:∀x,Own (φ.sub ban τ p.cr.length) (p.bB (a++c)) x->Own φ S x:=by
        rintro x (hx|hx)
        . exact hban x hx
        . obtain⟨j,id,B,_,_,g1,g2⟩:=hown0 x hx;exact .inr ⟨id,B,g1,g2⟩
       have hfine:J3 φ S (Own (φ.sub ban τ p.cr.length) (p.bB (a++c))) p.cr.length τ:=by
        refine⟨fun j y hy=> ?_,fun id x hid ⟨B,hB⟩ hx=> ?_⟩
        . rcases w8 hk hy with h|⟨h,_⟩
          . exact .inr h
          . exact .inl h
        . rintro(hb|hb)
          . exact hv id x B hid hB hx hb
          . obtain⟨j,id',B',g0,g1,g2,g3⟩:=hown0 x hb;have:=hS.inj id id' B B' x hB g2 hx g3;subst this;have:=sq hap hid g1;omega
       obtain⟨hle1,ha,hvals⟩:=tC (n:=p.cr.length) (ban:=ban) hS hown p.Qw vs _ _ _ h1;obtain⟨_,hblks⟩:=jS (n:=p.cr.length) (ban:=ban) hS hown h2;have hblk:∀j B',(p.bB (a++c)).get j=some B'->(τ.get j=some none/\B'.empty)\/∃id B,τ.get j=some (some id)/\S.get id=some B/\
        (∀cs,BV φ H (Own φ S) B cs->BV (φ.sub ban τ p.cr.length) H (Own (φ.sub ban τ p.cr.length) (p.bB (a++c))) B' cs)/\(B.empty->B'.empty):=by
        intro j B' hB';have hB':=oh hB';have:=hblks τ (Sub.le_refl _) hfine [] j B' (by
         rw[zaK];have e:(a++c).drop p.size=c:=by
          unfold Pn.size;rw[<-ha,zbr]
         rw[e]at hB';exact hB')
        rwa [zaC]at this
       refine⟨⟨?_, ?_, ?_, ?_, ?_,hS.dK,hS.gQ⟩, ?_,hown0,fun j id hj hid=>hat j hj _ hid,Sub.le_trans hle1 hle2,hap,hk,fun q hq=>by simpa using zao.1 hin q hq,hownw⟩
       . intro j B' hB';have hj:=hgetn j B' hB';rcases hblk j B' hB' with⟨g1,g2⟩|⟨id,B,g1,g2,g3,g4⟩
         . exact .inl ⟨hat j hj _ g1,g2⟩
         . have e:=hat j hj _ g1;rcases hS.blk id B g2 with⟨g5,g6⟩|⟨x,d,g5,g6,g7,g8⟩
           . exact .inl ⟨by rw[e];exact g5,g4 g6⟩
           . refine .inr ⟨x,d,by rw[e];exact g5,g6,fun hlk=>g7 ?_,g3 _ g8⟩;have hlk:p.lk<=j:=hlk;rcases w8 hk g1 with h|⟨_,h⟩
             . have:=hn.1;omega
             . exact h id rfl hlk
       . intro j j' B B' x g1 g2 g3 g4;have hj:=hgetn j B g1;have hj':=hgetn j' B' g2;rcases hblk j B g1 with⟨e1,_⟩|⟨id,C,e1,e2,_⟩
         . rw[hat j hj _ e1]at g3;cases g3
         . rcases hblk j' B' g2 with⟨f1,_⟩|⟨id',C',f1,f2,_⟩
           . rw[hat j' hj' _ f1]at g4;cases g4
           . rw[hat j hj _ e1]at g3;rw[hat j' hj' _ f1]at g4;have:=hS.inj id id' C C' x e2 f2 g3 g4;subst this;exact sq hap e1 f1
       . intro j hj;rw[hsz]at hj;unfold Phi.sub;simp only[if_neg (show ¬j<p.cr.length by omega)]
       . intro j x hx;unfold Phi.sub at hx;simp only at hx
         split at hx
         . split at hx
           . rename_i id _;exact hS.lt id x hx
           . cases hx
           . cases hx
         . cases hx
       . rw[hsz];exact hn.2
       . intro ws hws;obtain⟨c1,c2⟩:=hvals τ hle2 hfine c;refine⟨by unfold Pn.fj;rw[c1];exact hws.1,fun i s v g1 g2=> ?_⟩;have hi:i<vs.length:=by rw[<-c1];exact(zan.1 g1).1
         exact c2 i _ s (zah hi) g1 v (hws.2 i _ v (zah hi) g2)
     . cases h
   . cases h
 . cases h
theorem Lg {p:Pn} {σ0:Sub} {vs:List SV} {us:List Un} {τ:Sub} (h:p.of σ0 vs S=some (us,τ)):p.cr.length<=1000000:=by
 unfold Pn.of at h
 split at h
 . split at h
   . split at h
     . rename_i hc;exact hc.2.2.1.1
     . cases h
   . cases h
 . cases h
theorem Ps {p:Pn} {σ0:Sub} {vs:List SV} {us:List Un} {τ:Sub} (h:p.of σ0 vs S=some (us,τ)) (hS:Sim φ S H) (hgn:p.cr.any BP.jo=false) {j id:Nat} (hj:j<p.cr.length) (hid:τ.get j=some (some id)):∃B,S.get id=some B:=by
 unfold Pn.of at h
 split at h
 . rename_i a σ h1
   split at h
   . rename_i c τ' h2
     split at h
     . rename_i hc;cases h;have hdummy:∀σ1 σ2 (p:BP) B b,BP.of S p B σ1=some (b,σ2)->Sub.le σ1 σ2:=fun σ1 σ2 p B b hb=>
        (ML (φ:=φ) (H:=H) (ban:=fun _=>False) (n:=0) (own':=fun _=>False) hS (fun _ h=>h.elim) hb).1
       obtain⟨_,hids⟩:=kN h2 hdummy;have hq:p.cr[j]? =some p.cr[j]:=zah hj;cases hg:(p.cr[j]).jo with
       |false=>
        rcases hids j _ hq hg with g3|⟨id',B0,g3,g4⟩
        . rw[zaC,hid]at g3;cases g3
        . rw[zaC,hid]at g3;cases g3;exact⟨B0,g4⟩
       |true=>
        have:=List.any_eq_false.1 hgn _ (zbD hj);exact absurd hg this
     . cases h
   . cases h
 . cases h
end
end
end
end Go.Proofs.YtfaojedfnjdnnaaGreat.Ev
namespace Go.Proofs.YtfaojedfnjdnnaaGreat.Ev
noncomputable section
noncomputable section
open Go
structure kp (K : List Nat) (φ : Phi) (S : aj) (H : ah) (φ' : Phi) (S' : aj) (H' : ah) : Prop where
 sim:Sim φ' S' H'
 ban:φ'.ban=φ.ban
 own:∀x,x<H.size->fp φ' S' x->fp φ S x
 Bk:∀x,x<H.size->ox φ' S' x->ox φ S x
 fC:∀x,x<H.size->¬ox φ S x->H'.get x=H.get x
 len:∀x c',x<H.size->H'.root.get x=some c'->∃c,H.root.get x=some c/\c'.cells.length=c.cells.length
 eU:H.size<=H'.size
 dK:H'.lock=H.lock
 gQ:H'.hid=H.hid
 ent:∀j,j∈K->∀y,φ j=some y->φ' j=some y
section
variable {K : List Nat} {φ φ' φ'' : Phi} {S S' S'' : aj} {H H' H'' : ah}
theorem kp.trans (a:kp K φ S H φ' S' H') (b:kp K φ' S' H' φ'' S'' H''):kp K φ S H φ'' S'' H'' where
 sim:=b.sim
 ban:=b.ban.trans a.ban
 own x h1 h2:=a.own x h1 (b.own x (zaB h1 a.eU) h2)
 Bk x h1 h2:=a.Bk x h1 (b.Bk x (zaB h1 a.eU) h2)
 fC x h1 h2:=(b.fC x (zaB h1 a.eU) (fun h=>h2 (a.Bk x h1 h))).trans (a.fC x h1 h2)
 len x c' h1 h2:=by
  obtain⟨c1,h3,h4⟩:=b.len x c' (zaB h1 a.eU) h2;obtain⟨c2,h5,h6⟩:=a.len x c1 h1 h3;exact⟨c2,h5,h4.trans h6⟩
 eU:=zaM a.eU b.eU
 dK:=b.dK.trans a.dK
 gQ:=b.gQ.trans a.gQ
 ent j hj y h:=b.ent j hj y (a.ent j hj y h)
theorem Step.since (h:Step φ S H φ' S' H'):kp K φ S H φ' S' H':=
 ⟨h.sim,h.ban,h.own,fun x hx=>h.Bk hx,h.fC,h.len,h.eU,h.dK,h.gQ,fun j _ y hy=>h.le j y hy⟩
theorem NB.since (hn:NB φ S H) (h:kp K φ S H φ' S' H'):NB φ' S' H':=fun x hx=>by
 rw[h.ban]at hx;obtain⟨a,b⟩:=hn x hx;exact⟨zaB a h.eU,fun ho=>b (h.own x a ho)⟩
theorem H6:∀{K:List Nat} {j:Nat},j∈K->(idn K).get j=some (some j)
 |i::K,j,h=>by
  simp only[idn,zaS,Sub.get]
  by_cases e:j=i
  . rw[if_pos e,e]
  . rw[if_neg e];refine H6 (K:=K) ?_
    rcases zaT.1 h with h|h
    . exact absurd h e
    . exact h
theorem rY {p:Pn} {vs:List SV} {us:List Un} {τ:Sub} (h:p.of (idn K) vs S=some (us,τ)) (hnb:NB φ S H) (hS:Sim φ S H):
 ∃φ',kp K φ S H φ' (p.bB us) H/\∀ws,DVL φ H (Own φ S) vs ws->DVL φ' H (Own φ' (p.bB us)) (p.fj us) ws:=by
 obtain⟨h1,h2,h3,h4,h5,_,h6,h7,h8⟩:=S3 (ban:=φ.ban) h hS (fun x hx=> .inl hx) (fun id x B _ hB hx hb=>(hnb x hb).2 ⟨id,B,hB,hx⟩);refine⟨_,⟨h1,rfl,fun x _ hx=> ?_,fun x _ hx=> ?_,fun _ _ _=>rfl,fun x c' _ h=>⟨c',h,rfl⟩,zam _,rfl,rfl,fun j hj y hy=> ?_⟩,h2⟩
 . obtain⟨j,id,B,_,_,g1,g2⟩:=h3 x hx;exact⟨id,B,g1,g2⟩
 . obtain⟨j,id,B,_,_,_,g0,g1,g2⟩:=h8 x hx;exact⟨id,B,g0,g1,g2⟩
 . rw[h4 j j (h7 (j,some j) (zbo.2 ⟨j,hj,rfl⟩)) (h5 _ _ (H6 hj))];exact hy
end
structure aU where
 tags:List Tag
 pat:Pn
 F:List Un->Option (List Un)
def HZ (ex:Pn) (K:List Nat) (vs:List SV) (S:aj):Option (List Un):=
 match ex.of (idn K) vs S with
 |some (us,_)=>some us
 |none=>none
def aU.at (t:aU) (K:List Nat) (s:SSt):Option (List Un):=
 match t.pat.of (idn K) s.fr s.hp with
 |some (us,_)=>t.F us
 |none=>none
def Ke (P:Program) (rv:List ResultVar) (ex:Pn) (K:List Nat) (W:List aU) (its:List Item) (s:SSt):Option (List Un):=
 match its with
 |[]=>rM P s.hp s.fr rv fun vs=>HZ ex K vs s.hp
 |_=>
  match W.find? fun t=>decide (t.tags=its.map Item.tag)with
  |some t=>t.at K s
  |none=>none
section
variable {P : Program} {L : List FuncId} {O : br} {kn : FuncId -> Bool} {T : rB} {K : List Nat} {ex : Pn} {rv : List ResultVar} {body : Code}
def Wl (P:Program) (L:List FuncId) (O:br) (rv:List ResultVar) (ex:Pn) (K:List Nat) (its:List Item) (fv:List Value) (H:ah) (φ:Phi) (S:aj) (ys:List Un):Prop:=
 ∃y H' φ',kx P L O rv its ⟨fv,H⟩ (y,H')/\kp K φ S H φ' (ex.bB ys) H'/\DV φ' H' (Own φ' (ex.bB ys)) (lF (ex.fj ys)) y
def yk (P:Program) (L:List FuncId) (O:br) (rv:List ResultVar) (ex:Pn) (K:List Nat) (body:Code) (t:aU):Prop:=
 ∀its φ fr S fv H ys,dQ body its->its.map Item.tag=t.tags->NB φ S H->Sim φ S H->DVL φ H (Own φ S) fr fv->t.at K ⟨fr,S⟩=some ys->Wl P L O rv ex K its fv H φ S ys
theorem Gq {W:List aU} (hW:∀t∈W,yk P L O rv ex K body t) {its:List Item} {φ:Phi} {fr:List SV} {S:aj} {fv:List Value} {H:ah} {ys:List Un}
 (ha:dQ body its) (hnb:NB φ S H) (hS:Sim φ S H) (hf:DVL φ H (Own φ S) fr fv) (h:Ke P rv ex K W its ⟨fr,S⟩=some ys):Wl P L O rv ex K its fv H φ S ys:=by
 unfold Ke at h
 split at h
 . obtain⟨ss,vs,h1,h2,h3⟩:=jE hS hf h;unfold HZ at h3
   split at h3
   . rename_i us τ hof;cases h3;obtain⟨φ',g1,g2⟩:=rY hof hnb hS;exact⟨ky vs,H,φ',⟨(.normal,⟨fv,H⟩),.nil,by simp only[fin,h1];rfl⟩,g1,lR (g2 vs h2)⟩
   . cases h3
 . split at h
   . rename_i t ht;have hd:=List.find?_some ht;exact hW t (List.mem_of_find?_eq_some ht) its φ fr S fv H ys ha (zaj hd).symm hnb hS hf h
   . cases h
theorem S4 (hkn:∀g,kn g=false->∀args H,O g args H=none) (hT:fi P L O T) {W:List aU} (hW:∀t∈W,yk P L O rv ex K body t) {d n:Nat} {stop:List Nat->Bool} {its:List Item} {φ:Phi} {fr:List SV} {S:aj} {fv:List Value} {H:ah} {ys:List Un}
 (ha:dQ body its) (hnb:NB φ S H) (hS:Sim φ S H) (hf:DVL φ H (Own φ S) fr fv) (h:iF P L T (zC P L T kn d) stop n its ⟨fr,S⟩ (Ke P rv ex K W)=some ys):Wl P L O rv ex K its fv H φ S ys:=by
 obtain⟨its',φ1,fr1,S1,fv1,H1,hk,ha1,hst,hf1,hm⟩:=jM hT (uM hkn hT d) h ha (fun _=>hnb) hS hf;obtain⟨y,H',φ',g1,g2,g3⟩:=Gq hW ha1 (hnb.step hst) hst.sim hf1 hk;exact⟨y,H',φ',hm _ _ g1,hst.since.trans g2,g3⟩
theorem aU.step (hkn:∀g,kn g=false->∀args H,O g args H=none) (hT:fi P L O T) {W:List aU} {t:aU} {p:List Nat} {rest:List Tag} {its:List Item} {b:Code} {d n:Nat} {stop:List Nat->Bool}
 (ht:t.tags= .lp p::rest) (hi:gT body rest=some its) (hb:nav body (0::p)=some b) (hW:∀t∈W,yk P L O rv ex K body t)
 (h:∀us ys,t.F us=some ys->iF P L T (zC P L T kn d) stop n (.code (0::p) b:: .lp p b::its) ⟨t.pat.fj us,t.pat.bB us⟩ (Ke P rv ex K W)=some ys):yk P L O rv ex K body t:=by
 intro its' φ fr S fv H ys ha htag hnb hS hf hat;obtain⟨a1,a2⟩:=lY hi;have hl:Tag.item body (.lp p)=some (.lp p b):=by simp[Tag.item,hb]
 have:its'= .lp p b::its:=by
  refine dQ.same ha (.cons (i:= .lp p b) hl a1) ?_
  rw[htag,ht];simp[Item.tag,a2]
 subst this;unfold aU.at at hat
 split at hat
 . rename_i us τ hof;obtain⟨φ1,g1,g2⟩:=rY hof hnb hS;obtain⟨y,H',φ',k1,k2,k3⟩:=S4 hkn hT hW (.cons (by simp[Item.tag,Tag.item,hb]) (.cons (i:= .lp p b) hl a1)) (hnb.since g1) g1.sim (g2 fv hf) (h us ys hat);exact⟨y,H',φ',k1.of fun q hq=> .round hq,g1.trans k2,k3⟩
 . cases hat
def tQ (P:Program) (L:List FuncId) (O:br) (g:FuncId) (en ex:Pn) (us ys:List Un):Prop:=
 ∀φ H vs,NB φ (en.bB us) H->Sim φ (en.bB us) H->DVL φ H (Own φ (en.bB us)) (en.fj us) vs->
  ∃N y H' φ',bH P L O N g vs H=some (y,H')/\kp (bz en ex) φ (en.bB us) H φ' (ex.bB ys) H'/\DV φ' H' (Own φ' (ex.bB ys)) (lF (ex.fj ys)) y
end
class Uns (A:Type) where
 enc:A->List Un
 dec:List Un->Option (A × List Un)
 ok:∀us a r,dec us=some (a,r)->us=enc a++r
instance : Uns Int := ⟨fun n => [.i n], fun us => match us with | .i n :: r => some (n, r) | _ => none, fun us a r h => by split at h <;> simp_all⟩
instance : Uns Bool := ⟨fun n => [.b n], fun us => match us with | .b n :: r => some (n, r) | _ => none, fun us a r h => by split at h <;> simp_all⟩
instance : Uns (List Int) := ⟨fun n => [.l n], fun us => match us with | .l n :: r => some (n, r) | _ => none, fun us a r h => by split at h <;> simp_all⟩
instance : Uns (List Dat) := ⟨fun n => [.d n], fun us => match us with | .d n :: r => some (n, r) | _ => none, fun us a r h => by split at h <;> simp_all⟩
instance : Uns Unit := ⟨fun _ => [], fun us => some ((), us), fun us a r h => by simp_all⟩
instance {A B : Type} [Uns A] [Uns B] : Uns (A × B) := ⟨fun p => Uns.enc p.1 ++ Uns.enc p.2,
 fun us=>match (Uns.dec us:Option (A × List Un))with|some (a,r)=>(match (Uns.dec r:Option (B × List Un))with|some (b,s)=>some ((a,b),s)|none=>none)|none=>none,
 fun us p r h=>by
  split at h
  . rename_i a r1 h1
    split at h
    . rename_i b s h2;cases h;rw[Uns.ok _ _ _ h1,Uns.ok _ _ _ h2,zaq]
    . cases h
  . cases h⟩
abbrev Uns.via {A B:Type} [Uns B] (f:A->B) (g:B->A) (h:∀b,f (g b)=b):Uns A:=⟨fun a=>Uns.enc (f a),fun us=>match (Uns.dec us:Option (B × List Un))with|some (b,r)=>some (g b,r)|none=>none,fun us a r e=>by
 split at e
 . rename_i b r1 h1;cases e;rw[Uns.ok _ _ _ h1,h]
 . cases e⟩
def onU {A:Type} {R:Type _} [Uns A] (f:A->Option R) (us:List Un):Option R:=
 match (Uns.dec us:Option (A × List Un))with
 |some (a,r)=>(match r with|[]=>f a|_=>none)
 |none=>none
theorem oR {A:Type} {R:Type _} [Uns A] {f:A->Option R} {us:List Un} {r:R} (h:onU f us=some r):∃a,us=Uns.enc a/\f a=some r:=by
 unfold onU at h
 split at h
 . rename_i a s h1
   split at h
   . exact⟨a,by rw[Uns.ok _ _ _ h1];simp,h⟩
   . cases h
 . cases h
structure aC where
 T:rB
 g:FuncId
 en:Pn
 ex:Pn
 un:List (List Nat)
def TJ:List Nat->List Nat->Bool
 |[],[]=>true
 |a::r,b::s=>a==b&&TJ r s
 |_,_=>false
def Zg:List Nat->Bool
 |d::_=>d==9
 |[]=>false
def HE (un:List (List Nat)) (p:List Nat):Bool:=
 match Zg p with
 |true=>un.any fun q=>TJ p q
 |false=> !(un.any fun q=>TJ p q)
def frm (n:Nat) (l:List (Nat × VP)):List VP:=(List.range n).map fun i=>(l.lookup i).getD .any
section
variable (P : Program) (L : List FuncId) (O : br) (kn : FuncId -> Bool) (F : aC)
def aC.body:Code:=jr (dm P F.g)
def aC.rv:List ResultVar:=(dm P F.g).results.toList
def aC.K:List Nat:=bz F.en F.ex
def aC.gC (t:aU):Prop:=yk P L O (F.rv P) F.ex F.K (F.body P) t
def aC.GV (tg:List Tag) (pat:Pn) (us:List Un) (W:List aU):Option (List Un):=
 match tg with
 | .lp p::rest=>
  (match nav (F.body P) (0::p),gT (F.body P) rest with
   |some b,some its=>iF P L F.T (zC P L F.T kn 20) (HE F.un) 100000 (.code (0::p) b:: .lp p b::its) ⟨pat.fj us,pat.bB us⟩ (Ke P (F.rv P) F.ex F.K W)
   |_,_=>none)
 |_=>none
def aC.HN (us:List Un) (W:List aU):Option (List Un):=
 iF P L F.T (zC P L F.T kn 20) (HE F.un) 100000 [.code [] (F.body P)] ⟨F.en.fj us++List.replicate ((dm P F.g).ntmps-(F.en.fj us).length) (.tup []),F.en.bB us⟩ (Ke P (F.rv P) F.ex F.K W)
end
def bq {A:Type} (Fs:(A->Option (List Un))->A->Option (List Un)):Nat->A->Option (List Un)
 |0=>fun _=>none
 |n+1=>Fs (bq Fs n)
section
variable {P : Program} {L : List FuncId} {O : br} {kn : FuncId -> Bool} {F : aC}
theorem au {A:Type} [Uns A] (hkn:∀g,kn g=false->∀args H,O g args H=none) (hT:fi P L O F.T) {tg:List Tag} {pat:Pn} {Fs:(A->Option (List Un))->A->Option (List Un)} (W:(A->Option (List Un))->List aU)
 (hW:∀k,F.gC P L O ⟨tg,pat,onU k⟩->∀t∈W k,F.gC P L O t)
 (G:∀k a,F.GV P L kn tg pat (Uns.enc a) (W k)=Fs k a) (n:Nat):F.gC P L O ⟨tg,pat,onU (bq Fs n)⟩:=by
 induction n with
 |zero=>
  intro its φ fr S fv H ys _ _ _ _ _ hv;unfold aU.at at hv
  split at hv
  . obtain⟨a,_,h⟩:=oR hv;cases h
  . cases hv
 |succ n ih=>
  intro its φ fr S fv H ys ha htag hnb hS hf hat;have hat0:=hat;unfold aU.at at hat
  split at hat
  . obtain⟨a,_,h⟩:=oR hat;have h:Fs (bq Fs n) a=some ys:=h;rw[<-G]at h;unfold aC.GV at h
    split at h
    . rename_i p rest
      split at h
      . rename_i b its2 hb hi;refine aU.step (W:=W (bq Fs n)) (d:=20) (n:=100000) (stop:=HE F.un) hkn hT rfl hi hb (hW _ ih) (fun us zs hv=> ?_) its φ fr S fv H ys ha htag hnb hS hf hat0;obtain⟨a',e,hv2⟩:=oR (f:=bq Fs (n+1)) hv;have hv2:Fs (bq Fs n) a'=some zs:=hv2;rw[<-G]at hv2;unfold aC.GV at hv2;simp only[hb,hi]at hv2;rw[e];exact hv2
      . cases h
    . cases h
  . cases hat
theorem aC.Ta (hkn:∀g,kn g=false->∀args H,O g args H=none) (hT:fi P L O F.T) {us ys:List Un} {W:List aU} (hk:kn F.g=false) (hg:(P.funcs[F.g]?).isSome=true) (hb:(dm P F.g).body.isSome=true)
 (hW:∀t∈W,F.gC P L O t) (h:F.HN P L kn us W=some ys):tQ P L O F.g F.en F.ex us ys:=by
 obtain⟨fn,hg⟩:=zbA.1 hg;have hf:dm P F.g=fn:=by simp[dm,hg]
 unfold aC.gC aC.body aC.rv aC.K at hW;unfold aC.HN aC.body aC.rv aC.K at h;rw[hf]at hb hW h;obtain⟨c,hb⟩:=zbA.1 hb;have hc:jr fn=c:=by simp[jr,hb]
 rw[hc]at hW h;intro φ H vs hnb hS hd;obtain⟨y,H',φ',h1,h2,h3⟩:=S4 hkn hT hW wE hnb hS (AM hd fn.ntmps) h;obtain⟨N,hN⟩:=kG (hkn F.g hk _ _) hg hb h1;exact⟨N,y,H',φ',hN,h2,h3⟩
end
end
end
end Go.Proofs.YtfaojedfnjdnnaaGreat.Ev
namespace Go.Proofs.YtfaojedfnjdnnaaGreat.Ev
noncomputable section
noncomputable section
open Go
mutual
def zO (ρ:Nat->Nat):SV->SV
 | .ptr id row w col=> .ptr (ρ id) row w col
 | .buf id w ex=> .buf (ρ id) w ex
 | .sl id off len w p=> .sl (ρ id) off len w p
 | .np id w col n=> .np (ρ id) w col n
 | .fn g x y=> .fn g (nG ρ x) (nG ρ y)
 | .agg l=> .agg (nG ρ l)
 | .tup l=> .tup (nG ρ l)
 |v=>v
def nG (ρ:Nat->Nat):List SV->List SV
 |[]=>[]
 |v::l=>zO ρ v::nG ρ l
end
mutual
def y6:SV->Bool
 | .deep _=>false
 | .dp _ _ _=>false
 | .fn _ x y=>jt x&&jt y
 | .agg l=>jt l
 | .tup l=>jt l
 |_=>true
def jt:List SV->Bool
 |[]=>true
 |v::l=>y6 v&&jt l
end
def Sch.flat:Sch->Bool
 | .int _=>true
 | .bool=>true
 |_=>false
def N7:aE->Bool
 | .ints _ _=>true
 | .af l _=>l.all Sch.flat
def Df (ρ:Nat->Nat):aS->aS
 | .cells l=> .cells (nG ρ l)
 | .cont c=> .cont c
 | .eS id w col rows=> .eS (ρ id) w col rows
def Nf:aS->Bool
 | .cells l=>jt l
 | .cont c=>N7 c
 | .eS _ _ _ _=>true
theorem fO (ρ:Nat->Nat):∀(l:List SV) (i:Nat),(nG ρ l)[i]? =(l[i]?).map (zO ρ)
 |[],i=>by simp[nG]
 |v::l,0=>by simp[nG]
 |v::l,i+1=>by simp only[nG,zaX];exact fO ρ l i
theorem fK (ρ:Nat->Nat):∀(l:List SV),(nG ρ l).length=l.length
 |[]=>rfl
 |v::l=>by simp[nG,fK ρ l]
theorem js:∀{l:List SV} {i:Nat} {s:SV},jt l=true->l[i]? =some s->y6 s=true
 |[],i,s,_,h=>by simp at h
 |v::l,0,s,hl,h=>by simp only[jt,zae]at hl;simp at h;subst h;exact hl.1
 |v::l,i+1,s,hl,h=>by simp only[jt,zae]at hl;exact js hl.2 (by simpa using h)
theorem LR {c:aE} (h:N7 c=true) {r j:Nat} {s:SV} (hs:(c.row r)[j]? =some s):(∃k n,s= .i k n)\/∃x,s= .b x:=by
 cases c with
 |ints k xs=>
  simp only[aE.row]at hs;cases j with
  |zero=>simp at hs;subst hs;exact .inl ⟨_,_,rfl⟩
  |succ j=>simp at hs
 |af l xs=>
  simp only[aE.row]at hs;rw[iI]at hs;cases hl:l[j]? with
  |none=>rw[hl]at hs;cases hs
  |some sc=>
   rw[hl]at hs;cases hs;simp only[N7,zao]at h;have:=h sc (zaP hl);cases sc with
   |int k=>exact .inl ⟨_,_,rfl⟩
   |bool=>exact .inr ⟨_,rfl⟩
   |ints k=>cases this
   |af l=>cases this
section
variable {φ φ' φ'' : Phi} {H H' : ah} {own own' : Nat -> Prop} {ρ : Nat -> Nat}
theorem DV.ren (hρ:∀j y,φ j=some y->φ' (ρ j)=some y) {s:SV} {v:Value} (h:DV φ H own s v):y6 s=true->DV φ' H own' (zO ρ s) v:=by
 induction h with
 |any v=>intro _;exact .any v
 |i k n=>intro _;exact .i k n
 |b x=>intro _;exact .b x
 |str s=>intro _;exact .str s
 |jd=>intro _;exact .jd
 |ev=>intro _;exact .ev
 |mi=>intro _;exact .mi
 |xW=>intro _;exact .xW
 |ptr id row w col x h=>intro _;exact .ptr _ row w col x (hρ _ _ h)
 |buf id w ex x n sp h hn hs=>intro _;exact .buf _ w ex x n sp (hρ _ _ h) hn hs
 |dP id w h=>intro _;exact .dP _ w (hρ _ _ h)
 |sl id off len w p x o sp cap h ho hs hc hin hp=>intro _;exact .sl _ off len w p x o sp cap (hρ _ _ h) ho hs hc hin hp
 |cZ id w p h=>intro _;exact .cZ _ w p (hρ _ _ h)
 |cY c h=>intro h;cases h
 |deep c x o sp cap blk hs hc hb ho hl _ ih=>intro h;cases h
 |dp c row col x o blk hb ho hl _ ih=>intro h;cases h
 |jK id w col n hn=>intro _;exact .jK _ w col n hn
 |np id w col x n hn h=>intro _;exact .np _ w col x n hn (hρ _ _ h)
 |fn g x y x' y' hx hy _ _ ix iy=>
  intro h;simp only[y6,zae]at h;refine .fn g _ _ x' y' (by rw[fK];exact hx) (by rw[fK];exact hy) (fun i s v h1 h2=> ?_) (fun i s v h1 h2=> ?_)
  . rw[fO,zai]at h1;obtain⟨u,h3,rfl⟩:=h1;exact ix i u v h3 h2 (js h.1 h3)
  . rw[fO,zai]at h1;obtain⟨u,h3,rfl⟩:=h1;exact iy i u v h3 h2 (js h.2 h3)
 |agg l x' hx _ ix=>
  intro h;refine .agg _ x' (by rw[fK];exact hx) (fun i s v h1 h2=> ?_);rw[fO,zai]at h1;obtain⟨u,h3,rfl⟩:=h1;exact ix i u v h3 h2 (js (by simpa[y6]using h) h3)
 |tup l x' hx _ ix=>
  intro h;refine .tup _ x' (by rw[fK];exact hx) (fun i s v h1 h2=> ?_);rw[fO,zai]at h1;obtain⟨u,h3,rfl⟩:=h1;exact ix i u v h3 h2 (js (by simpa[y6]using h) h3)
theorem yo {s:SV} (h:flat s):zO ρ s=s:=by cases s<;>first|rfl|exact h.elim
theorem DV.U3 (hρ:∀j y,φ j=some y->φ' (ρ j)=some y) (ho:∀x c,H.get x=some c->¬own x->¬own' x) {s:SV} {v:Value} (h:DV φ H own s v):DV φ' H own' (zO ρ s) v:=by
 induction h with
 |any v=>exact .any v
 |i k n=>exact .i k n
 |b x=>exact .b x
 |str s=>exact .str s
 |jd=>exact .jd
 |ev=>exact .ev
 |mi=>exact .mi
 |xW=>exact .xW
 |ptr id row w col x h=>exact .ptr _ row w col x (hρ _ _ h)
 |buf id w ex x n sp h hn hs=>exact .buf _ w ex x n sp (hρ _ _ h) hn hs
 |dP id w h=>exact .dP _ w (hρ _ _ h)
 |sl id off len w p x o sp cap h h1 hs hc hin hp=>exact .sl _ off len w p x o sp cap (hρ _ _ h) h1 hs hc hin hp
 |cZ id w p h=>exact .cZ _ w p (hρ _ _ h)
 |cY c h=>exact .cY c h
 |deep c x o sp cap blk hs hc hb h1 hl _ ih=>
  refine .deep c x o sp cap blk hs hc hb (ho x blk hb h1) hl (fun r hr j s hj v hv=> ?_);have:=ih r hr j s hj v hv
  rwa [yo (jW hj)]at this
 |dp c row col x o blk hb h1 hl _ ih=>
  refine .dp c row col x o blk hb (ho x blk hb h1) hl (fun r hr j s hj v hv=> ?_);have:=ih r hr j s hj v hv
  rwa [yo (jW hj)]at this
 |jK id w col n hn=>exact .jK _ w col n hn
 |np id w col x n hn h=>exact .np _ w col x n hn (hρ _ _ h)
 |fn g x y x' y' hx hy _ _ ix iy=>
  refine .fn g _ _ x' y' (by rw[fK];exact hx) (by rw[fK];exact hy) (fun i s v h1 h2=> ?_) (fun i s v h1 h2=> ?_)
  . rw[fO,zai]at h1;obtain⟨u,h3,rfl⟩:=h1;exact ix i u v h3 h2
  . rw[fO,zai]at h1;obtain⟨u,h3,rfl⟩:=h1;exact iy i u v h3 h2
 |agg l x' hx _ ix=>
  refine .agg _ x' (by rw[fK];exact hx) (fun i s v h1 h2=> ?_);rw[fO,zai]at h1;obtain⟨u,h3,rfl⟩:=h1;exact ix i u v h3 h2
 |tup l x' hx _ ix=>
  refine .tup _ x' (by rw[fK];exact hx) (fun i s v h1 h2=> ?_);rw[fO,zai]at h1;obtain⟨u,h3,rfl⟩:=h1;exact ix i u v h3 h2
theorem BV.ren (hρ:∀j y,φ j=some y->φ' (ρ j)=some y) {B:aS} {cs:List Value} (h:BV φ H own B cs) (hl:Nf B=true\/∀x c,H.get x=some c->¬own x->¬own' x):BV φ' H own' (Df ρ B) cs:=by
 cases B with
 |cells l=>
  refine⟨by rw[fK];exact h.1,fun i s v h1 h2=> ?_⟩;rw[fO,zai]at h1;obtain⟨u,h3,rfl⟩:=h1;rcases hl with hl|hl
  . exact(h.2 i u v h3 h2).ren hρ (js hl h3)
  . exact(h.2 i u v h3 h2).U3 hρ hl
 |cont c=>
  refine⟨h.1,fun r hr j s hs v hv=> ?_⟩;have:=h.2 r hr j s hs v hv;rcases hl with hl|hl
  . rcases LR hl hs with⟨k,n,rfl⟩|⟨x,rfl⟩
    . cases this;exact .i _ _
    . cases this;exact .b _
  . have:=this.U3 (ρ:=ρ) hρ hl
    rwa [yo (jW hs)]at this
 |eS id w col rows=>
  refine⟨h.1,fun r v hr hv=> ?_⟩;have:=h.2 r v hr hv;cases this with
  |jK _ _ _ _ hn=>exact .jK _ _ _ _ hn
  |np _ _ _ x _ hn hx=>exact .np _ _ _ x _ hn (hρ _ _ hx)
theorem Gw {B:aS} (h:B.empty):(Df ρ B).empty:=by cases B<;>exact h
end
def fU:List (Nat × Option aS)->Nat->Option (Option aS)
 |[],_=>none
 |(j,b)::r,k=>if k=j then some b else fU r k
def kC:List (Nat × Option aS)->aj->aj
 |[],S=>S
 |(j,b)::r,S=>(kC r S).put j b
theorem pU:∀(l:List (Nat × Option aS)) (S:aj),(kC l S).size=S.size/\(kC l S).lock=S.lock/\(kC l S).hid=S.hid
 |[],S=>⟨rfl,rfl,rfl⟩
 |p::r,S=>pU r S
theorem ny:∀(l:List (Nat × Option aS)) (S:aj) (k:Nat),(kC l S).root.get k=match fU l k with|some b=>b|none=>S.root.get k
 |[],S,k=>rfl
 |(j,b)::r,S,k=>by
  simp only[kC,fU];rw[aj.cQ]
  split
  . rfl
  . exact ny r S k
theorem ov:∀{l:List (Nat × Option aS)} {k:Nat} {b:Option aS},fU l k=some b->(k,b)∈l
 |[],k,b,h=>by cases h
 |(j,c)::r,k,b,h=>by
  simp only[fU]at h
  split at h
  . rename_i e;cases h;subst e;simp
  . exact zaN _ (ov h)
theorem iU:∀{l:List (Nat × Option aS)} {k:Nat},fU l k=none->∀b,(k,b)∉l
 |[],k,h,b=>by simp
 |(j,c)::r,k,h,b=>by
  simp only[fU]at h
  split at h
  . cases h
  . rename_i e;intro hm;rcases zaT.1 hm with hm|hm
    . cases hm;exact e rfl
    . exact iU h b hm
def zJ (K:List Nat) (τ:Sub) (j:Nat):Option Nat:=match K.contains j with|true=>(match τ.get j with|some (some id)=>some id|_=>none)|false=>none
def jj (K:List Nat) (τ:Sub) (n j:Nat):Nat:=match zJ K τ j with|some id=>id|none=>n+j
def zr (lk:Nat) (K:List Nat) (τ:Sub) (ρ:Nat->Nat) (Bs:List (Option aS)) (n:Nat):List (Nat × Option aS):=
 (List.range n).filterMap fun j=>match decide (lk<=j)with
  |true=>(match τ.get j with|some (some id)=>some (id,match K.contains j with|true=>((Bs[j]?).join).map (Df ρ)|false=>none)|_=>none)
  |false=>none
def pJ (τ:Sub):List (Nat × Option aS):=τ.filterMap fun p=>match decide (1000000<=p.1)with|true=>(match p.2 with|some id=>some (id,none)|none=>none)|false=>none
def Fb (τ:Sub) (S:aj):Bool:=(pJ τ).all fun p=>decide (S.lock<=p.1)&&(S.get p.1).isSome
def kq (lk:Nat) (K:List Nat) (τ:Sub) (ρ:Nat->Nat):Nat->List (Option aS)->List (Option aS)
 |_,[]=>[]
 |j,b::r=>(match decide (lk<=j)with
  |true=>(match zJ K τ j with|some _=>none|none=>b.map (Df ρ))
  |false=>none)::kq lk K τ ρ (j+1) r
theorem Aa (lk:Nat) (K:List Nat) (τ:Sub) (ρ:Nat->Nat):∀(j:Nat) (l:List (Option aS)),(kq lk K τ ρ j l).length=l.length
 |_,[]=>rfl
 |j,b::r=>by simp[kq,Aa lk K τ ρ]
theorem At {lk:Nat} {K:List Nat} {τ:Sub} {ρ:Nat->Nat}:∀{l:List (Option aS)} {j i:Nat} {B:aS},(kq lk K τ ρ j l)[i]? =some (some B)->(zJ K τ (j+i)=none/\lk<=j+i)/\∃C,l[i]? =some (some C)/\B=Df ρ C
 |[],j,i,B,h=>by simp[kq]at h
 |b::r,j,0,B,h=>by
  simp only[kq,zbp,zak]at h
  split at h
  . rename_i hl
    split at h
    . cases h
    . rename_i e;rw[zai]at h;obtain⟨C,rfl,rfl⟩:=h;exact⟨⟨e,zaj hl⟩,C,by simp,rfl⟩
  . cases h
 |b::r,j,i+1,B,h=>by
  simp only[kq,zaX]at h;obtain⟨h1,C,h2,h3⟩:=At h;exact⟨by rw[show j+(i+1)=j+1+i by omega];exact h1,C,by simpa using h2,h3⟩
theorem xZ:∀{ps:List BP} {us:List Un} {j:Nat} {p:BP},ps[j]? =some p->p.jo=false->∃B,(dk ps us)[j]? =some (some B)
 |[],us,j,p,h,_=>by simp at h
 |q::ps,us,0,p,h,hg=>by
  simp only[zbp,zak]at h;subst h;simp only[dk,zbp,zak];unfold BP.to
  split<;>first|exact⟨_,rfl⟩|cases hg
 |q::ps,us,j+1,p,h,hg=>by
  simp only[dk,zaX];exact xZ (by simpa using h) hg
def mS (iH:List (Nat × Option aS)) (news:List (Option aS)) (S:aj):aj:=news.foldl aj.pP (kC iH S)
inductive Ys : Type 1 where
 |now (ys:List Un)
 |bind (B:Type) (b:B) (enc:B->List Un)
def Ys.us:Ys->List Un
 | .now ys=>ys
 | .bind _ b enc=>enc b
structure nO where
 en:Pn
 ex:Pn
 f:List Un->Option (Bool × Ys)
def S5:Option aS->Bool
 |some B=>Nf B
 |none=>true
def nO.lean (e:nO) (ys:List Un):Bool:=jt (e.ex.fj ys)&&(dk e.ex.cr (ys.drop e.ex.size)).all S5
def T8 (en ex:Pn):Bool:=(List.range en.lk).all (fun j=>(bz en ex).contains j)&&decide (ex.lk<=en.lk)
def nO.run (e:nO) (args:List SV) (S:aj):Option (Bool × FB):=
 match e.en.cr.any BP.jo|| !T8 e.en e.ex,e.en.of [] args S with
 |false,some (us,τ)=>
  (match e.f us with
   |some (c,.bind B b enc)=>
    (match e.lean (enc b)with
     |true=>some (c,.bind B b fun u=>(zO (jj (bz e.en e.ex) τ S.size) (lF (e.ex.fj (enc u))),
      mS (zr e.en.lk (bz e.en e.ex) τ (jj (bz e.en e.ex) τ S.size) (dk e.ex.cr ((enc u).drop e.ex.size)) e.en.cr.length) (kq e.en.lk (bz e.en e.ex) τ (jj (bz e.en e.ex) τ S.size) 0 (dk e.ex.cr ((enc u).drop e.ex.size))) S))
     |false=>
      (match S.hid.isEmpty&&Fb τ S with
       |true=>some (c,.bind B b fun u=>(zO (jj (bz e.en e.ex) τ S.size) (lF (e.ex.fj (enc u))),
        mS (zr e.en.lk (bz e.en e.ex) τ (jj (bz e.en e.ex) τ S.size) (dk e.ex.cr ((enc u).drop e.ex.size)) e.en.cr.length++pJ τ) (kq e.en.lk (bz e.en e.ex) τ (jj (bz e.en e.ex) τ S.size) 0 (dk e.ex.cr ((enc u).drop e.ex.size))) S))
       |false=>none))
   |some (c,.now ys)=>
    (match e.lean ys with
     |true=>some (c,.now (zO (jj (bz e.en e.ex) τ S.size) (lF (e.ex.fj ys)))
      (mS (zr e.en.lk (bz e.en e.ex) τ (jj (bz e.en e.ex) τ S.size) (dk e.ex.cr (ys.drop e.ex.size)) e.en.cr.length) (kq e.en.lk (bz e.en e.ex) τ (jj (bz e.en e.ex) τ S.size) 0 (dk e.ex.cr (ys.drop e.ex.size))) S))
     |false=>
      (match S.hid.isEmpty&&Fb τ S with
       |true=>some (c,.now (zO (jj (bz e.en e.ex) τ S.size) (lF (e.ex.fj ys)))
        (mS (zr e.en.lk (bz e.en e.ex) τ (jj (bz e.en e.ex) τ S.size) (dk e.ex.cr (ys.drop e.ex.size)) e.en.cr.length++pJ τ) (kq e.en.lk (bz e.en e.ex) τ (jj (bz e.en e.ex) τ S.size) 0 (dk e.ex.cr (ys.drop e.ex.size))) S))
       |false=>none))
   |none=>none)
 |_,_=>none
section
variable {P : Program} {L : List FuncId} {O : br} {φ : Phi} {S : aj} {H : ah}
theorem F0 {l:List SV} (h:jt l=true):y6 (lF l)=true:=by
 match l,h with
 |[],_=>rfl
 |[s],h=>simp only[jt,zbh]at h;exact h
 |a::b::l,h=>exact h
theorem IM {en ex:Pn} {j:Nat} (h:j∈bz en ex):j<en.cr.length/\∃b,ex.cr[j]? =some b/\b.jo=false:=by
 simp only[bz,List.mem_filter,zbE]at h;refine⟨h.1, ?_⟩;have h2:=h.2
 split at h2
 . rename_i b hb;exact⟨b,hb,by simpa using h2⟩
 . cases h2
theorem nz {en ex:Pn} {g:FuncId} {us ys:List Un} {τ:Sub} {args:List SV} (hE:tQ P L O g en ex us ys) (hof:en.of [] args S=some (us,τ)) (hgn:en.cr.any BP.jo=false) (hlo:T8 en ex=true) (ln:Bool) (iH:List (Nat × Option aS))
 (hln:ln=true->jt (ex.fj ys)=true/\(dk ex.cr (ys.drop ex.size)).all S5=true)
 (hnl:ln=false->NB φ S H/\(∀p∈pJ τ,S.lock<=p.1/\(S.get p.1).isSome=true))
 (hpairs:iH=zr en.lk (bz en ex) τ (jj (bz en ex) τ S.size) (dk ex.cr (ys.drop ex.size)) en.cr.length++(bif ln then[]else pJ τ))
 {vs:List Value} (hS:Sim φ S H) (hd:DVL φ H (Own φ S) args vs):
 ∃N y H',bH P L O N g vs H=some (y,H')/\Got φ S H (mS iH (kq en.lk (bz en ex) τ (jj (bz en ex) τ S.size) 0 (dk ex.cr (ys.drop ex.size))) S) (zO (jj (bz en ex) τ S.size) (lF (ex.fj ys))) H' y:=by
 generalize hρ:jj (bz en ex) τ S.size=ρ at hpairs⊢;generalize hBs:dk ex.cr (ys.drop ex.size)=Bs at hpairs hln⊢;simp only[T8,zae,zaf]at hlo;obtain⟨hlo1,hlo2⟩:=hlo;have hlkK:∀j,j<en.lk->j∈bz en ex:=fun j hj=>by
  have:=zao.1 hlo1 j (zbE.2 hj);simpa using this
 have hmemH:∀j id,en.lk<=j->j<en.cr.length->τ.get j=some (some id)->∃b,(id,b)∈iH:=by
  intro j id hl hj hid;refine⟨(match (bz en ex).contains j with|true=>((Bs[j]?).join).map (Df ρ)|false=>none), ?_⟩;rw[hpairs];refine zbP _ (zbY.2 ⟨j,zbE.2 hj, ?_⟩);rw[zaa hl,hid]
 have hmemV:ln=false->∀id,τ.get (1000000+id)=some (some id)->(id,none)∈iH:=by
  intro hl id hid;rw[hpairs,hl];refine zbX _ (zbY.2 ⟨(1000000+id,some id),Iq hid, ?_⟩);simp
 let ban1:Nat->Prop:=fun x=>ln=false/\(φ.ban x\/∃k C,S.get k=some C/\φ k=some (some x)/\fU iH k=none/\∀j,j<en.cr.length->τ.get j≠some (some k))
 obtain⟨hS1,hd1,ho1,hp1,_,hap,hkeys,_,ho1W⟩:=S3 (ban:=ban1) hof hS (fun x hx=>by
  rcases hx.2 with h|⟨k,C,h1,h2,_⟩
  . exact .inl h
  . exact .inr ⟨k,C,h1,h2⟩) (fun id x B hid hB hx hb=>by
  obtain⟨hl,hb⟩:=hb;rcases hb with hb|⟨k,C,h1,h2,h3,_⟩
  . exact((hnl hl).1 x hb).2 ⟨id,B,hB,hx⟩
  . have:=hS.inj id k B C x hB h1 hx h2;subst this;exact iU h3 _ (hmemV hl id hid))
 generalize hφ1:φ.sub ban1 τ en.cr.length=φ1 at hS1 hd1 ho1 hp1 ho1W;have hb1:φ1.ban=ban1:=by rw[<-hφ1];rfl
 have hnb1:NB φ1 (en.bB us) H:=by
  intro x hx;rw[hb1]at hx;obtain⟨hl,hx⟩:=hx;rcases hx with hx|⟨k,C,h1,h2,h3,h9⟩
  . obtain⟨a,b⟩:=(hnl hl).1 x hx;refine⟨a,fun h=>b ?_⟩;obtain⟨j,id,B,_,_,g3,g4⟩:=ho1 x h;exact⟨id,B,g3,g4⟩
  . refine⟨hS.lt k x h2,fun h=> ?_⟩;obtain⟨j,id,B,g1,g2,g3,g4⟩:=ho1 x h;have:=hS.inj k id C B x h1 g3 h2 g4;subst this;exact h9 j g1 g2
 obtain⟨N,y,H',φ',hcall,hsin,hdv⟩:=hE φ1 H vs hnb1 hS1 (hd1 vs hd);refine⟨N,y,H',hcall, ?_⟩;have hBl:Bs.length=ex.cr.length:=by rw[<-hBs,sO]
 have hxh:ex.bB ys={gu Bs with lock:=ex.lk}:=by unfold Pn.bB;rw[hBs]
 rw[hxh]at hsin hdv;have hS2:=hsin.sim;have hgetB:∀(j:Nat) (B:aS),Bs[j]? =some (some B)->({gu Bs with lock:=ex.lk}:aj).get j=some B:=fun j B h=>by
  show(gu Bs).get j=some B;rw[xw,h];rfl
 have hpl:∀j id,zJ (bz en ex) τ j=some id->j∈bz en ex/\j<en.cr.length/\τ.get j=some (some id)/\ρ j=id:=by
  intro j id h;have h0:=h;unfold zJ at h
  split at h
  . rename_i hk;have hk:j∈bz en ex:=by simpa using hk
    split at h
    . rename_i id' hid;cases h;refine⟨hk,(IM hk).1,hid, ?_⟩;rw[<-hρ];unfold jj;rw[h0]
    . cases h
  . cases h
 have hnp:∀j,zJ (bz en ex) τ j=none->ρ j=S.size+j:=by
  intro j h;rw[<-hρ];unfold jj;rw[h]
 have hid:∀j id,j<en.cr.length->τ.get j=some (some id)->(en.lk<=j->S.lock<=id)/\(∃B,S.get id=some B):=by
  intro j id hj h;refine⟨fun hl=> ?_, ?_⟩
  . rcases w8 hkeys h with h|⟨_,h⟩
    . have:=Lg hof;omega
    . exact h id rfl hl
  . exact Ps hof hS hgn hj h
 let φ2:Phi:=⟨fun k=>if k<S.size then φ k else φ' (k-S.size),φ.ban⟩
 have hφ2lt:∀k,k<S.size->φ2 k=φ k:=fun k h=>if_pos h
 have hφ2ge:∀k,S.size<=k->φ2 k=φ' (k-S.size):=fun k h=>if_neg (by omega)
 have hlt2:∀z y,φ z=some y->z<S.size:=by
  intro z y h;rcases zcc z S.size with h1|h1
  . exact h1
  . rw[hS.fresh z h1]at h;cases h
 have hsame:∀j id,zJ (bz en ex) τ j=some id->∃y,φ id=some y/\φ' j=some y:=by
  intro j id h;obtain⟨h1,h2,h3,h4⟩:=hpl j id h;obtain⟨_,B,hB⟩:=hid j id h2 h3;have e:=hp1 j id h2 h3;rcases hS.blk id B hB with⟨k1,_⟩|⟨x,d,k1,_⟩
  . exact⟨_,k1,hsin.ent j h1 _ (by rw[e];exact k1)⟩
  . exact⟨_,k1,hsin.ent j h1 _ (by rw[e];exact k1)⟩
 have hρφ:∀j y,φ' j=some y->φ2 (ρ j)=some y:=by
  intro j y h;cases hi:zJ (bz en ex) τ j with
  |some id=>
   obtain⟨y',k1,k2⟩:=hsame j id hi;rw[(hpl j id hi).2.2.2,hφ2lt _ (hlt2 _ _ k1),k1];rw[k2]at h;exact h
  |none=>
   rw[hnp j hi,hφ2ge _ (by omega),show S.size+j-S.size=j by omega];exact h
 have hle:∀z y,φ z=some y->φ2 z=some y:=fun z y h=>by rw[hφ2lt z (hlt2 z y h)];exact h
 generalize hSS:mS iH (kq en.lk (bz en ex) τ ρ 0 Bs) S=SS;obtain⟨f1,f2,f3⟩:=pU iH S;have fr:=foldl_push (kq en.lk (bz en ex) τ ρ 0 Bs) (kC iH S);rw[show(kq en.lk (bz en ex) τ ρ 0 Bs).foldl aj.pP (kC iH S)=SS from hSS]at fr;obtain⟨r1,r2,r3,r4⟩:=fr;rw[f1]at r1 r4;rw[f2]at r2;rw[f3]at r3;rw[Aa]at r1 r4;have hget:∀(k:Nat) (C:aS),SS.get k=some C->(∃(j:Nat) (B:aS),(Bs[j]? =some (some B)/\en.lk<=j)/\C=Df ρ B/\ρ j=k)\/(k<S.size/\fU iH k=none/\S.get k=some C):=by
  intro k C hk;have h1:=aj.bo hk;obtain⟨h2,h3⟩:=aj.aI hk;rw[r4]at h2;rw[r3]at h3
  by_cases hge:S.size<=k
  . rw[if_pos ⟨hge,by rw[r1]at h1;exact h1⟩]at h2;obtain⟨g1,B,g2,g3⟩:=At (i:=k-S.size) (B:=C) (by
     cases hx:(kq en.lk (bz en ex) τ ρ 0 Bs)[k-S.size]? with
     |none=>rw[hx]at h2;cases h2
     |some o=>rw[hx]at h2;simp at h2;rw[h2])
    rw[zaC]at g1;exact .inl ⟨_,B,⟨g2,g1.2⟩,g3,by rw[hnp _ g1.1];omega⟩
  . rw[if_neg (by omega),ny]at h2;cases hl:fU iH k with
    |none=>
     rw[hl]at h2;exact .inr ⟨by omega,rfl,(aj.fz (by omega) h3).trans h2⟩
    |some b=>
     rw[hl]at h2;have h2:b=some C:=h2;subst h2;have hm:=ov hl;rw[hpairs]at hm;rcases zbe.1 hm with hm|hm
     . obtain⟨j,hj,hj2⟩:=zbY.1 hm;have hj:=zbE.1 hj
       split at hj2
       . rename_i hlj;have hlj:=zaj hlj
         split at hj2
         . rename_i id hid';simp only[zak,zaR]at hj2;obtain⟨rfl,hj3⟩:=hj2
           split at hj3
           . rename_i hk;rw[zai]at hj3;obtain⟨B,g1,g2⟩:=hj3;have hi:zJ (bz en ex) τ j=some id:=by unfold zJ;rw[hk,hid']
             refine .inl ⟨j,B,⟨?_,hlj⟩,g2.symm,(hpl j id hi).2.2.2⟩;cases hx:Bs[j]? with
             |none=>rw[hx]at g1;cases g1
             |some o=>rw[hx]at g1;simp at g1;rw[g1]
           . cases hj3
         . cases hj2
       . cases hj2
     . exfalso;cases ln with
       |true=>simp at hm
       |false=>
        have hm:(k,some C)∈pJ τ:=hm;obtain⟨p,_,hp⟩:=zbY.1 hm
        split at hp
        . split at hp
          . simp at hp
          . cases hp
        . cases hp
 have hownC:∀x,x<H.size->fp φ' {gu Bs with lock:=ex.lk} x->∃(j id:Nat) (B:aS),j<en.cr.length/\τ.get j=some (some id)/\S.get id=some B/\φ id=some (some x):=fun x hx h=>ho1 x (hsin.own x hx h)
 have hcls:∀(k:Nat) (C:aS) (x:Nat),SS.get k=some C->φ2 k=some (some x)->(∃(j:Nat) (B:aS),(Bs[j]? =some (some B)/\en.lk<=j)/\φ' j=some (some x)/\ρ j=k)\/(k<S.size/\fU iH k=none/\S.get k=some C/\φ k=some (some x)):=by
  intro k C x hk hx;rcases hget k C hk with⟨j,B,h1,_,h3⟩|⟨hlt,hno,h2⟩
  . refine .inl ⟨j,B,h1, ?_,h3⟩;rcases hS2.blk j B (hgetB j B h1.1)with⟨g1,_⟩|⟨x',_,g1,_⟩
    . have:=hρφ j _ g1;rw[h3,hx]at this;cases this
    . have:=hρφ j _ g1;rw[h3,hx]at this;cases this;exact g1
  . rw[hφ2lt k hlt]at hx;exact .inr ⟨hlt,hno,h2,hx⟩
 have hown:∀x,x<H.size->fp φ2 SS x->fp φ S x:=by
  rintro x hx ⟨k,C,g1,g2⟩
  rcases hcls k C x g1 g2 with⟨j,B,h1,h2,_⟩|⟨_,_,h2,h3⟩
  . obtain⟨_,id,B',_,_,h5,h6⟩:=hownC x hx ⟨j,B,hgetB j B h1.1,h2⟩;exact⟨id,B',h5,h6⟩
  . exact⟨k,C,h2,h3⟩
 have ho1':∀x,ox φ1 (en.bB us) x->ox φ S x:=fun x h=>by
  obtain⟨_,id,B',_,_,_,h4,h5,h6⟩:=ho1W x h;exact⟨id,B',h4,h5,h6⟩
 have hkeep:∀x,x<H.size->¬ox φ S x->H'.get x=H.get x:=fun x hx h=>hsin.fC x hx (fun h'=>h (ho1' x h'))
 have hext:Ext φ H (Own φ S) φ2 H' (Own φ2 SS):=by
  refine⟨hle,fun x c h1 h2=> ?_,fun id x c' h1 h2=>hsin.len x c' (hS.lt id x h1) h2⟩;have hx:=ah.bo h1;refine⟨by rw[hkeep x hx (fun h=>h2 (.inr h.toI))];exact h1, ?_⟩
  rintro(h|h)
  . exact h2 (.inl h)
  . exact h2 (.inr (hown x hx h))
 have hdeep:ln=false->∀x c,H'.get x=some c->¬Own φ' {gu Bs with lock:=ex.lk} x->¬Own φ2 SS x:=by
  intro hl x c _ hno ho;have hbn:φ'.ban=ban1:=hsin.ban.trans hb1;rcases ho with ho|⟨k,C,g1,g2⟩
  . exact hno (.inl (by rw[hbn];exact⟨hl,.inl ho⟩))
  . rcases hcls k C x g1 g2 with⟨j,B,h1,h2,_⟩|⟨_,h1,h2,h3⟩
    . exact hno (.inr ⟨j,B,hgetB j B h1.1,h2⟩)
    . by_cases hj:∃j,j<en.cr.length/\τ.get j=some (some k)
      . obtain⟨j,g3,g4⟩:=hj;rcases zcc j en.lk with hlj|hlj
        . have hK:=hlkK j hlj;obtain⟨_,b,hb,hbg⟩:=IM hK;obtain⟨B,hB⟩:=xZ (us:=ys.drop ex.size) hb hbg;rw[hBs]at hB;exact hno (.inr ⟨j,B,hgetB j B hB,hsin.ent j hK _ (by rw[hp1 j k g3 g4];exact h3)⟩)
        . obtain⟨b,hb⟩:=hmemH j k hlj g3 g4;exact iU h1 b hb
      . exact hno (.inl (by rw[hbn];exact⟨hl,.inr ⟨k,C,h2,h3,h1,fun j g3 g4=>hj ⟨j,g3,g4⟩⟩⟩))
 have hleanB:∀(j:Nat) (B:aS),Bs[j]? =some (some B)->Nf B=true\/∀x c,H'.get x=some c->¬Own φ' {gu Bs with lock:=ex.lk} x->¬Own φ2 SS x:=by
  intro j B hj;cases ln with
  |true=>exact .inl (zao.1 (hln rfl).2 _ (zaP hj))
  |false=>exact .inr (hdeep rfl)
 have hnew:∀(j:Nat) (B:aS),Bs[j]? =some (some B)->en.lk<=j->(φ2 (ρ j)=some none/\(Df ρ B).empty)\/∃x c,φ2 (ρ j)=some (some x)/\φ' j=some (some x)/\H'.get x=some c/\H'.lock<=x/\BV φ2 H' (Own φ2 SS) (Df ρ B) c.cells:=by
  intro j B hj hlj;rcases hS2.blk j B (hgetB j B hj)with⟨h1,h2⟩|⟨x,c,h1,h2,h3,h4⟩
  . exact .inl ⟨hρφ j _ h1,Gw h2⟩
  . exact .inr ⟨x,c,hρφ j _ h1,h1,h2,h3 (zaM hlo2 hlj),h4.ren hρφ (hleanB j B hj)⟩
 have hstay:∀(k:Nat) (C:aS) (x:Nat) (c:Blk),fU iH k=none->S.get k=some C->φ k=some (some x)->H.get x=some c->H'.get x=some c:=by
  intro k C x c hno h1 h2 h3;rw[hsin.fC x (hS.lt k x h2) ?_]
  . exact h3
  . intro h;obtain⟨j,id,B,g0,g1,g2,_,g3,g4⟩:=ho1W x h;have:=hS.inj k id C B x h1 g3 h2 g4;subst this;obtain⟨b,hb⟩:=hmemH j k g0 g1 g2;exact iU hno b hb
 have hcross:∀(j:Nat) (B:aS) (k:Nat) (C:aS) (x:Nat),(Bs[j]? =some (some B)/\en.lk<=j)->φ' j=some (some x)->fU iH k=none->S.get k=some C->φ k=some (some x)->False:=by
  intro j B k C x h1 h2 h4 h5 h6;obtain⟨i,z,B',gl,g0,g1,_,g2,g3⟩:=ho1W x (hsin.Bk x (hS.lt k x h6) ⟨j,B,zaM hlo2 h1.2,hgetB j B h1.1,h2⟩);have:=hS.inj k z C B' x h5 g2 h6 g3;subst this;obtain⟨b,hb⟩:=hmemH i k gl g0 g1;exact iU h4 b hb
 have hstep:Step φ S H φ2 SS H':=by
  refine⟨⟨?_, ?_, ?_, ?_, ?_,by rw[hsin.dK];exact zaM hS.dK hsin.eU,fun x hx=>by rw[hsin.gQ];exact hS.gQ x (zaM hsin.eU hx)⟩,hle,rfl,hown,hkeep,hsin.len,hsin.eU,hsin.dK,hsin.gQ,by omega,r2,r3, ?_⟩
  . intro k C hk;rcases hget k C hk with⟨j,B,h1,rfl,h3⟩|⟨hlt,hno,h2⟩
    . rw[<-h3];rcases hnew j B h1.1 h1.2 with⟨g1,g2⟩|⟨x,c,g1,_,g2,g4,g3⟩
      . exact .inl ⟨g1,g2⟩
      . exact .inr ⟨x,c,g1,g2,fun _=>g4,g3⟩
    . rcases hS.blk k C h2 with⟨g1,g2⟩|⟨x,c,g1,g2,g3,g4⟩
      . exact .inl ⟨hle _ _ g1,g2⟩
      . exact .inr ⟨x,c,hle _ _ g1,hstay k C x c hno h2 g1 g2,fun h=>by rw[hsin.dK];exact g3 (by rw[<-r2];exact h),g4.mono hext⟩
  . intro k k' C C' x h1 h2 h3 h4;rcases hcls k C x h1 h3 with⟨j,B,a1,a2,a3⟩|⟨a1,a2,a3,a4⟩
    . rcases hcls k' C' x h2 h4 with⟨j',B',b1,b2,b3⟩|⟨b1,b2,b3,b4⟩
      . have:=hS2.inj j j' B B' x (hgetB _ _ a1.1) (hgetB _ _ b1.1) a2 b2;subst this;rw[<-a3,<-b3]
      . exact(hcross j B k' C' x a1 a2 b2 b3 b4).elim
    . rcases hcls k' C' x h2 h4 with⟨j',B',b1,b2,b3⟩|⟨b1,b2,b3,b4⟩
      . exact(hcross j' B' k C x b1 b2 a2 a3 a4).elim
      . exact hS.inj k k' C C' x a3 b3 a4 b4
  . intro k hk;rw[r1]at hk;rw[hφ2ge k (by omega)];exact hS2.fresh _ (by show(gu Bs).size<=_;rw[lU];omega)
  . intro k x hx
    by_cases hk:k<S.size
    . rw[hφ2lt k hk]at hx;exact zaB (hS.lt k x hx) hsin.eU
    . rw[hφ2ge k (by omega)]at hx;exact hS2.lt _ x hx
  . rw[r1,r2];have:=hS.iZ;omega
  . intro k h1 h2;rw[r4,if_neg (by omega),ny];cases hl:fU iH k with
    |none=>rfl
    |some b=>
     exfalso;have hm:=ov hl;rw[hpairs]at hm;have hbad:S.lock<=k/\∃B,S.get k=some B:=by
      rcases zbe.1 hm with hm|hm
      . obtain⟨j,hj,hj2⟩:=zbY.1 hm;have hj:=zbE.1 hj
        split at hj2
        . rename_i hlj
          split at hj2
          . rename_i id hid';simp only[zak,zaR]at hj2;obtain⟨rfl,_⟩:=hj2;exact⟨(hid j id hj hid').1 (zaj hlj),(hid j id hj hid').2⟩
          . cases hj2
        . cases hj2
      . cases ln with
        |true=>simp at hm
        |false=>
         obtain⟨g1,g2⟩:=(hnl rfl).2 _ hm;exact⟨g1,zbA.1 g2⟩
     obtain⟨b1,B0,b2⟩:=hbad;rcases h2 with h2|h2
     . omega
     . rw[b2]at h2;cases h2
 refine⟨φ2,hstep, ?_⟩;cases ln with
 |true=>exact hdv.ren hρφ (F0 (hln rfl).1)
 |false=>exact hdv.U3 hρφ (hdeep rfl)
theorem nO.sound {e:nO} {g:FuncId} (hE:∀us Y,e.f us=some (true,Y)->tQ P L O g e.en e.ex us Y.us) {args:List SV} {a:FB} (h:e.run args S=some (true,a))
 {vs:List Value} (hnb:NBh φ S H) (hS:Sim φ S H) (hd:DVL φ H (Own φ S) args vs):∃N y H',bH P L O N g vs H=some (y,H')/\Got φ S H a.hp a.val H' y:=by
 unfold nO.run at h
 split at h
 case h_2=>cases h
 rename_i us τ hgn0 hof;simp only[zbO,Bool.not_eq_false']at hgn0;obtain⟨hgn,hlo⟩:=hgn0
 split at h
 case h_3=>cases h
 case h_1=>
  rename_i c B b enc hf
  split at h
  . rename_i hl;simp only[zak,zaR]at h;obtain⟨rfl,rfl⟩:=h;simp only[nO.lean,zae]at hl;exact nz (hE us _ hf) hof hgn hlo true _ (fun _=>hl) (fun h=>by cases h) (by simp[Ys.us]) hS hd
  . split at h
    . rename_i hv;simp only[zae,List.isEmpty_iff]at hv;simp only[zak,zaR]at h;obtain⟨rfl,rfl⟩:=h;refine nz (hE us _ hf) hof hgn hlo false _ (fun h=>by cases h) (fun _=>⟨hnb hv.1,fun p hp=> ?_⟩) rfl hS hd;have:=zao.1 hv.2 p hp;simpa using this
    . cases h
 rename_i c ys hf
 split at h
 . rename_i hl;simp only[zak,zaR]at h;obtain⟨rfl,rfl⟩:=h;simp only[nO.lean,zae]at hl;exact nz (hE us _ hf) hof hgn hlo true _ (fun _=>hl) (fun h=>by cases h) (by simp[Ys.us]) hS hd
 . split at h
   . rename_i hv;simp only[zae,List.isEmpty_iff]at hv;simp only[zak,zaR]at h;obtain⟨rfl,rfl⟩:=h;refine nz (hE us _ hf) hof hgn hlo false _ (fun h=>by cases h) (fun _=>⟨hnb hv.1,fun p hp=> ?_⟩) rfl hS hd;have:=zao.1 hv.2 p hp;simpa using this
   . cases h
end
end
end
end Go.Proofs.YtfaojedfnjdnnaaGreat.Ev
namespace Go.Proofs.YtfaojedfnjdnnaaGreat.Ev
noncomputable section
noncomputable section
open Go
def scE:SV->Option Value
 | .i k n=>some (.int k n)
 | .b x=>some (.bool x)
 |_=>none
def P6:List SV->Option (List Value)
 |[]=>some []
 |s::l=>match scE s with|some v=>(match P6 l with|some vs=>some (v::vs)|none=>none)|none=>none
def Vg:SV->Option Value
 | .agg l=>match P6 l with|some vs=>some (.agg vs.toArray)|none=>none
 |s=>scE s
def IT:List SV->Option (List Value)
 |[]=>some []
 |s::l=>match Vg s with|some v=>(match IT l with|some vs=>some (v::vs)|none=>none)|none=>none
def scS:Value->Option SV
 | .int k n=>some (.i k n)
 | .bool x=>some (.b x)
 |_=>none
def RT:List Value->Option (List SV)
 |[]=>some []
 |v::l=>match scS v with|some s=>(match RT l with|some r=>some (s::r)|none=>none)|none=>none
def RR:Value->Option SV
 | .agg vs=>match RT vs.toList with|some l=>some (.agg l)|none=>none
 |v=>scS v
def Iu:List Value->Option (List SV)
 |[]=>some []
 |v::l=>match RR v with|some s=>(match Iu l with|some r=>some (s::r)|none=>none)|none=>none
def TN:Value->Option SV
 | .tuple vs=>match Iu vs.toList with|some l=>some (.tup l)|none=>none
 |v=>RR v
section
variable {φ : Phi} {H : ah} {own : Nat -> Prop}
theorem K5 {s:SV} {v w:Value} (h:scE s=some w) (hd:DV φ H own s v):v=w:=by
 cases s<;>simp only[scE,zak]at h<;>first|(cases h;done)|(subst h;cases hd;rfl)
theorem ID:∀{l:List SV} {vs ws:List Value},P6 l=some ws->DVL φ H own l vs->vs=ws
 |[],vs,ws,h,hd=>by cases h;exact hd.pI
 |s::l,vs,ws,h,hd=>by
  obtain⟨v,vs',rfl,h1,h2⟩:=hd.ga;simp only[P6]at h
  split at h
  . rename_i w hw
    split at h
    . rename_i ws' hws;cases h;rw[K5 hw h1,ID hws h2]
    . cases h
  . cases h
theorem Qg {s:SV} {v w:Value} (h:Vg s=some w) (hd:DV φ H own s v):v=w:=by
 unfold Vg at h
 split at h
 . rename_i l
   split at h
   . rename_i vs hvs;cases h;cases hd with
     |agg _ x' hx vx=>
      have:x'.toList=vs:=ID hvs ⟨by simpa using hx,fun i s v a b=>vx i s v a (by simpa using b)⟩;subst this;rfl
   . cases h
 . exact K5 h hd
theorem Fi:∀{l:List SV} {vs ws:List Value},IT l=some ws->DVL φ H own l vs->vs=ws
 |[],vs,ws,h,hd=>by cases h;exact hd.pI
 |s::l,vs,ws,h,hd=>by
  obtain⟨v,vs',rfl,h1,h2⟩:=hd.ga;simp only[IT]at h
  split at h
  . rename_i w hw
    split at h
    . rename_i ws' hws;cases h;rw[Qg hw h1,Fi hws h2]
    . cases h
  . cases h
theorem MA {s:SV} {v:Value} (h:scS v=some s):DV φ H own s v:=by
 cases v<;>simp only[scS,zak]at h<;>first|(cases h;done)|(subst h;constructor)
theorem IK:∀{l:List SV} {vs:List Value},RT vs=some l->DVL φ H own l vs
 |l,[],h=>by cases h;exact .nil
 |l,v::vs,h=>by
  simp only[RT]at h
  split at h
  . rename_i s hs
    split at h
    . rename_i r hr;cases h;exact .cons (MA hs) (IK hr)
    . cases h
  . cases h
theorem DVL.agg {l:List SV} {x:Array Value} (h:DVL φ H own l x.toList):DV φ H own (.agg l) (.agg x):=
 .agg l x (by simpa using h.1) (fun i s v a b=>h.2 i s v a (by simpa using b))
theorem DVL.tup {l:List SV} {x:Array Value} (h:DVL φ H own l x.toList):DV φ H own (.tup l) (.tuple x):=
 .tup l x (by simpa using h.1) (fun i s v a b=>h.2 i s v a (by simpa using b))
theorem Io {s:SV} {v:Value} (h:RR v=some s):DV φ H own s v:=by
 unfold RR at h
 split at h
 . split at h
   . rename_i l hl;cases h;exact(IK hl).agg
   . cases h
 . exact MA h
theorem EG:∀{l:List SV} {vs:List Value},Iu vs=some l->DVL φ H own l vs
 |l,[],h=>by cases h;exact .nil
 |l,v::vs,h=>by
  simp only[Iu]at h
  split at h
  . rename_i s hs
    split at h
    . rename_i r hr;cases h;exact .cons (Io hs) (EG hr)
    . cases h
  . cases h
theorem Qy {s:SV} {v:Value} (h:TN v=some s):DV φ H own s v:=by
 unfold TN at h
 split at h
 . split at h
   . rename_i l hl;cases h;exact(EG hl).tup
   . cases h
 . exact Io h
end
def ofE (TE:Tab):rB:=fun g args S=>
 match IT args with
 |some vs=>(match TE g vs with|some (c,v)=>(match TN v with|some s=>some (c,.now s S)|none=>none)|none=>none)
 |none=>none
def iK (TE:Tab) (X:br):br:=fun g args H=>match cw TE g args H with|some r=>some r|none=>X g args H
theorem Lr {P:Program} {TE:Tab} {X:br} (h:br.right P TE) (hX:kM P X):kM P (iK TE X):=by
 have hT:=br.an h;refine⟨fun g args H v H' hv=> ?_,fun g args H v H' hv=> ?_⟩
 . unfold iK at hv
   split at hv
   . rename_i r hr;cases hv;exact hT.fr _ _ _ _ _ hr
   . exact hX.fr _ _ _ _ _ hv
 . unfold iK at hv
   split at hv
   . rename_i r hr;cases hv;exact hT.ok _ _ _ _ _ hr
   . exact hX.ok _ _ _ _ _ hv
def JG (TE:Tab):List (FuncId × nO)->rB
 |[],g,args,S=>ofE TE g args S
 |(h,e)::r,g,args,S=>match g==h with
  |true=>(match e.run args S with|some x=>some x|none=>JG TE r g args S)
  |false=>JG TE r g args S
section
variable {P : Program} {L : List FuncId} {TE : Tab} {X : br}
def eI (P:Program) (L:List FuncId) (O:br) (g:FuncId) (e:nO):Prop:=∀us Y,e.f us=some (true,Y)->tQ P L O g e.en e.ex us Y.us
theorem Lj (hX:gY X):gY (iK TE X):=by
 intro g args H v H' hv;unfold iK cw at hv
 split at hv
 . rename_i r hr;cases hv
   split at hr
   . cases hr;exact .refl H
   . cases hr
 . exact hX _ _ _ _ _ hv
theorem yl (hX:gY X):∀{l:List (FuncId × nO)},(∀p∈l,eI P L (iK TE X) p.1 p.2)->fi P L (iK TE X) (JG TE l)
 |[],_=>by
  refine⟨Lj hX, ?_⟩;intro g args S a h φ H vs _ hS hd;unfold JG ofE at h
  split at h
  . rename_i ws hws
    split at h
    . rename_i c w hw
      split at h
      . rename_i s hs;cases h;have:=Fi hws hd;subst this;exact⟨1,w,H,lq (by unfold iK cw;rw[hw]),.same hS (Qy hs)⟩
      . cases h
    . cases h
  . cases h
 |(i,e)::r,hl=>by
  have hr:=yl hX (l:=r) (fun p hp=>hl p (zaN _ hp));refine⟨hr.1, ?_⟩;intro g args S a h φ H vs hnb hS hd;unfold JG at h
  split at h
  . rename_i hg;rw[zaE]at hg;subst hg
    split at h
    . rename_i x hx;cases h;exact nO.sound (hl (g,e) (by simp)) hx hnb hS hd
    . exact hr.2 g args S a h φ H vs hnb hS hd
  . exact hr.2 g args S a h φ H vs hnb hS hd
def Md (l:List (FuncId × (List Value->Option (Bool × Value)))) (xs:List FuncId):FuncId->Bool:=fun g=>(l.any fun p=>g==p.1)||xs.any fun x=>g==x
theorem Av {xs:List FuncId} (hX:∀g args H,(xs.any fun x=>g==x)=false->X g args H=none):∀{l:List (FuncId × (List Value->Option (Bool × Value)))} (g:FuncId),Md l xs g=false->∀args H,iK (ij l) X g args H=none
 |[],g,h,args,H=>hX g args H (by simpa[Md]using h)
 |(i,e)::r,g,h,args,H=>by
  simp only[Md,List.any_cons,zbO]at h;have:=Av hX (l:=r) g (by simp only[Md,zbO];exact⟨h.1.2,h.2⟩) args H;unfold iK cw at this⊢;unfold ij;rw[h.1.1];exact this
def mkE {A:Type} [Uns A] (en ex:Pn) (f:A->Bool × List Un):nO:=⟨en,ex,onU fun a=>match f a with|(c,ys)=>some (c,.now ys)⟩
def mkB {A B:Type} [Uns A] (en ex:Pn) (f:A->Bool × B) (enc:B->List Un):nO:=⟨en,ex,onU fun a=>match f a with|(c,b)=>some (c,.bind B b enc)⟩
theorem an {A:Type} [Uns A] {O:br} {kn:FuncId->Bool} (hkn:∀g,kn g=false->∀args H,O g args H=none) {F:aC} (hT:fi P L O F.T) (W:Nat->List aU) {t:Nat->A->Option (List Un)} {f:A->Bool × List Un}
 (hb:(!(kn F.g)&&((P.funcs[F.g]?).isSome&&(dm P F.g).body.isSome))=true) (hW:∀m,∀t∈W m,F.gC P L O t) (G:∀m a,F.HN P L kn (Uns.enc a) (W m)=t m a)
 (spec:∀a,(f a).1=true->∃m,t m a=some (f a).2):eI P L O F.g (mkE F.en F.ex f):=by
 intro us Y h;obtain⟨a,rfl,h2⟩:=oR h;simp only[zae,Bool.not_eq_true']at hb;have h2:some ((f a).1,Ys.now (f a).2)=some (true,Y):=h2;simp only[zak,zaR]at h2;obtain⟨h3,rfl⟩:=h2;obtain⟨m,hm⟩:=spec a h3;exact aC.Ta hkn hT hb.1 hb.2.1 hb.2.2 (hW m) ((G m a).trans hm)
theorem kp.Xg {K K':List Nat} {φ φ':Phi} {S S':aj} {H H':ah} (h:∀j,j∈K'->j∈K) (a:kp K φ S H φ' S' H'):kp K' φ S H φ' S' H':=
 ⟨a.sim,a.ban,a.own,a.Bk,a.fC,a.len,a.eU,a.dK,a.gQ,fun j hj=>a.ent j (h j hj)⟩
theorem unpack {φ:Phi} {H:ah} {own:Nat->Prop} {l:List SV} {y:Value} (h:DV φ H own (lF l) y):∃ws,DVL φ H own l ws/\ky ws=y:=by
 match l,h with
 |[],h=>
  cases h with
  |tup _ x hx _=>
   have:x= #[]:=Array.eq_empty_of_size_eq_zero (by simpa using hx.symm);subst this;exact⟨[],.nil,rfl⟩
 |[s],h=>exact⟨[y],.cons h .nil,rfl⟩
 |a::b::l,h=>
  cases h with
  |tup _ x hx vx=>
   have hd:DVL φ H own (a::b::l) x.toList:=⟨by simpa using hx,fun i s v h1 h2=>vx i s v h1 (by simpa using h2)⟩
   refine⟨x.toList,hd, ?_⟩;obtain⟨v,vs,e,_,h2⟩:=hd.ga;obtain⟨w,ws,e2,_,_⟩:=h2.ga;subst e2;have:ky x.toList= .tuple x.toList.toArray:=by rw[e];rfl
   rw[this,Array.toArray_toList]
theorem LB {A:Type} [Uns A] {O:br} {g:FuncId} {en ex ex':Pn} {f f':A->Bool × List Un} (h:eI P L O g (mkE en ex f)) (hK:(bz en ex').all (fun j=>(bz en ex).contains j)=true)
 (e:∀a,(f a).1=(f' a).1/\HZ ex' (bz en ex') (ex.fj (f a).2) (ex.bB (f a).2)=some (f' a).2):eI P L O g (mkE en ex' f'):=by
 intro us Y hY;have hY:onU (fun a=>some ((f' a).1,Ys.now (f' a).2)) us=some (true,Y):=hY;unfold onU at hY
 split at hY
 . rename_i a r hd
   split at hY
   . simp only[zak,zaR]at hY;obtain⟨h3,rfl⟩:=hY;obtain⟨e1,e2⟩:=e a;have ht:=h us (.now (f a).2) (by
      show onU (fun a=>some ((f a).1,Ys.now (f a).2)) us=_;unfold onU;rw[hd];simp only[e1,h3])
     intro φ H vs hnb hS hD;obtain⟨N,y,H',φ',c1,c2,c3⟩:=ht φ H vs hnb hS hD;unfold HZ at e2
     split at e2
     . rename_i us' τ hof;cases e2;obtain⟨φ2,g1,g2⟩:=rY hof (hnb.since c2) c2.sim;obtain⟨ws,k1,rfl⟩:=unpack c3;refine⟨N,_,H',φ2,c1,(c2.Xg fun j hj=> ?_).trans g1,lR (g2 ws k1)⟩;have:=zao.1 hK j hj;show j∈bz en ex;simpa using this
     . cases e2
   . cases hY
 . cases hY
theorem rebind {A B:Type} [Uns A] {O:br} {g:FuncId} {en ex:Pn} {f:A->Bool × List Un} {fb:A->Bool × B} {enc:B->List Un} (h:eI P L O g (mkE en ex f)) (e:∀a,f a=((fb a).1,enc (fb a).2)):eI P L O g (mkB en ex fb enc):=by
 intro us Y hY;have hY:onU (fun a=>some ((fb a).1,Ys.bind B (fb a).2 enc)) us=some (true,Y):=hY;unfold onU at hY
 split at hY
 . rename_i a r hd
   split at hY
   . simp only[zak,zaR]at hY;obtain⟨h3,rfl⟩:=hY;have t:=h us (.now (f a).2) (by
      show onU (fun a=>some ((f a).1,Ys.now (f a).2)) us=_;unfold onU;rw[hd];simp only[e a,h3])
     rw[e a]at t;exact t
   . cases hY
 . cases hY
structure Tb (P : Program) (L : List FuncId) (TE : Tab) (X : br) where
 l:List (FuncId × nO)
 fr:gY X
 ok:∀p∈l,eI P L (iK TE X) p.1 p.2
def Tb.nil (h:gY X):Tb P L TE X:=⟨[],h,fun _ h=>by cases h⟩
def Tb.add (T:Tb P L TE X) (g:FuncId) (e:nO) (h:eI P L (iK TE X) g e):Tb P L TE X:=⟨(g,e)::T.l,T.fr,fun p hp=>by
 rcases zaT.1 hp with rfl|hp
 . exact h
 . exact T.ok p hp⟩
def Tb.tab (T:Tb P L TE X):rB:=JG TE T.l
theorem Tb.right (T:Tb P L TE X):fi P L (iK TE X) T.tab:=yl T.fr T.ok
end
end
end
end Go.Proofs.YtfaojedfnjdnnaaGreat.Ev
namespace Go.Proofs.YtfaojedfnjdnnaaGreat.Ev
noncomputable section
noncomputable section
open Go
open Go.RowKit (Below)
def tM:Phi:=⟨fun _=>none,fun _=>False⟩
def hp0:aj:=⟨0,.e,0,[]⟩
theorem ZE (x:Nat):¬Own tM hp0 x:=by
 rintro(h|⟨id,B,h,_⟩)
 . exact h
 . have:=aj.bo h;simp[hp0]at this
theorem Z2 {H:ah} (hl:H.lock<=H.size) (hh:H.hid=[]):Sim tM hp0 H:=by
 refine⟨fun id B h=> ?_,fun id id' B B' x h=> ?_,fun _ _=>rfl,(fun id x h=>by cases h),zam _,hl,fun x _=>by rw[hh];rfl⟩
 . have:=aj.bo h;simp[hp0]at this
 . have:=aj.bo h;simp[hp0]at this
mutual
def WfS:Sch->Dat->Prop
 | .int k,d=>(Lit.int k d.int).wf=true
 | .bool,_=>True
 | .ints k,d=>d.sub.length<=140737488355328/\∀x∈d.sub,(Lit.int k x.int).wf=true
 | .af l,d=>d.sub.length<=140737488355328/\∀x∈d.sub,WfR l x.sub
def WfR:List Sch->List Dat->Prop
 |[],[]=>True
 |s::l,d::r=>WfS s d/\WfR l r
 |_,_=>False
end
theorem WfR.len:∀{l:List Sch} {r:List Dat},WfR l r->r.length=l.length
 |[],[],_=>rfl
 |s::l,d::r,h=>by simp[WfR]at h;simp[h.2.len]
 |[],_::_,h=>by simp[WfR]at h
 |_::_,[],h=>by simp[WfR]at h
theorem WfR.append:∀{a b:List Sch} {r s:List Dat},WfR a r->WfR b s->WfR (a++b) (r++s)
 |[],_,[],_,_,h=>h
 |x::a,_,d::r,_,h,k=>by simp only[WfR,zaI]at h⊢;exact⟨h.1,h.2.append k⟩
 |[],_,_::_,_,h,_=>by simp[WfR]at h
 |_::_,_,[],_,h,_=>by simp[WfR]at h
def svs:List Sch->List Dat->List SV
 |s::l,d::r=>qO s d::svs l r
 |_,_=>[]
theorem xL:∀{a b:List Sch} {r s:List Dat},r.length=a.length->svs (a++b) (r++s)=svs a r++svs b s
 |[],_,[],_,_=>rfl
 |x::a,_,d::r,_,h=>by simp only[zaI,svs];rw[xL (by simpa using h)]
 |[],_,_::_,_,h=>by simp at h
 |_::_,_,[],_,h=>by simp at h
theorem wh:∀{a:List Sch} {r:List Dat} (j:Nat),r.length=a.length->(svs a r)[j]? =(a[j]?).map fun s=>qO s (r.getD j (.n 0))
 |[],[],j,_=>by simp[svs]
 |x::a,d::r,0,_=>by simp[svs]
 |x::a,d::r,j+1,h=>by simpa[svs]using wh (a:=a) (r:=r) j (by simpa using h)
 |[],_::_,_,h=>by simp at h
 |_::_,[],_,h=>by simp at h
structure RW (f : Fm) (H : ah) (w : World) : Prop where
 r:R f H w
 lock:H.lock=H.size
 hid:H.hid=[]
 free:∀j,H.size<=j->f j=none
theorem RW.nil (w:World):RW (fun _=>none) Ev.nil w:=⟨R.nil w,rfl,rfl,fun _ _=>rfl⟩
def y4 (f:Fm) (H:ah) (f':Fm) (H':ah):Prop:=Le f f'/\∀x c,H.get x=some c->H'.get x=some c
theorem y4.refl (f:Fm) (H:ah):y4 f H f H:=⟨Le.refl f,fun _ _ h=>h⟩
theorem y4.trans {f g h:Fm} {H K M:ah} (a:y4 f H g K) (b:y4 g K h M):y4 f H h M:=⟨a.1.trans b.1,fun x c hx=>b.2 x c (a.2 x c hx)⟩
theorem y4.ext {f f':Fm} {H H':ah} (g:y4 f H f' H'):Ext tM H (Own tM hp0) tM H' (Own tM hp0):=
 ⟨fun _ _ h=>h,fun x c h1 h2=>⟨g.2 x c h1,h2⟩,fun id x c' h1=>by cases h1⟩
theorem RW.push {f:Fm} {H:ah} {w:World} (h:RW f H w) (cs:List Value) (l:Loc) {C:Array Value} {e:TypeId} {fr:Nat × Nat} (hl:w.heap[l.blk]? =some (.cells C e fr))
 (hc:∀(i:Nat) v,cs[i]? =some v->bm v=true/\∃v',C[l.off+i]? =some v'/\V f v v'):
 ∃f' H',RW f' H' w/\y4 f H f' H'/\H'.get H.size=some ⟨cs⟩/\f' H.size=some l:=by
 let f':Fm:=fun x=>if x=H.size then some l else f x
 let H':ah:={aF H cs with lock:=H.size+1}
 have hle:Le f f':=fun x m hx=>by
  have:x≠H.size:=by rintro rfl;rw[h.free _ (zam _)]at hx;cases hx
  show(if x=H.size then _ else _)=_;rw[if_neg this];exact hx
 have hnew:f' H.size=some l:=if_pos rfl;have hroot:∀x,H'.root.get x=if x=H.size then some ⟨cs⟩else H.root.get x:=fun x=>ah.bQ _ _ _
 have hsz:H'.size=H.size+1:=rfl;have hhid:H'.hid=[]:=h.hid;have hget:∀x,H'.get x=if x=H.size then some ⟨cs⟩else H.get x:=by
  intro x
  by_cases e:x=H.size
  . subst e;rw[if_pos rfl];unfold ah.get;rw[if_pos (by omega),hhid,hroot,if_pos rfl];rfl
  . rw[if_neg e];unfold ah.get
    by_cases hx:x<H.size
    . rw[if_pos (by omega),if_pos hx,hhid,h.hid,hroot,if_neg e]
    . rw[if_neg (by omega),if_neg hx]
 refine⟨f',H',⟨⟨?_, ?_,zam _, ?_⟩,rfl,hhid, ?_⟩,⟨hle,fun x c hx=> ?_⟩,by rw[hget,if_pos rfl],hnew⟩
 . intro x B hx;rw[hget]at hx
   split at hx
   . rename_i e1;cases hx;subst e1;refine⟨l,C,e,fr,hnew,hl,fun i v hi=> ?_,fun hm=> ?_⟩
     . obtain⟨h1,v',h2,h3⟩:=hc i v hi;exact⟨h1,v',h2,h3.mono hle⟩
     . rw[aN]at hm;have:H.size+1<=H.size:=hm;omega
   . obtain⟨m,C',e',fr',g1,g2,g3,g4⟩:=h.r.blk x B hx;refine⟨m,C',e',fr',hle _ _ g1,g2,fun i v hi=> ?_,fun hm=> ?_⟩
     . obtain⟨g5,v',g6,g7⟩:=g3 i v hi;exact⟨g5,v',g6,g7.mono hle⟩
     . rw[aN]at hm;have h5:H.size+1<=x:=hm;have:=ah.bo hx;omega
 . intro x m hx;have hx:(if x=H.size then some l else f x)=some m:=hx
   split at hx
   . cases hx;obtain⟨hlt,_⟩:=zaF.1 hl;exact hlt
   . exact h.r.big x m hx
 . intro x y B B' m m' hx _ hm;rw[aN]at hm;have h5:H.size+1<=x:=hm;have:x<H.size+1:=ah.bo hx;omega
 . intro j hj;have hj:H.size+1<=j:=hj;show(if j=H.size then _ else _)=_;rw[if_neg (by omega)];exact h.free j (by omega)
 . have:=ah.bo hx;rw[hget,if_neg (by omega)];exact hx
def Good (w:World) (ss:List Sch) (cs:List Value):Prop:=∀f H,RW f H w->∃f' H' cs' r,RW f' H' w/\y4 f H f' H'/\VL f' cs' cs/\(∀v∈cs',bm v=true)/\
 DVL tM H' (Own tM hp0) (svs ss r) cs'/\WfR ss r
theorem Good.nil (w:World):Good w [] []:=fun f H h=>⟨f,H,[],[],h,.refl f H,.nil f,by simp,.nil,trivial⟩
theorem Good.append {w:World} {a b:List Sch} {c d:List Value} (h:Good w a c) (k:Good w b d):Good w (a++b) (c++d):=by
 intro f H hR;obtain⟨f1,H1,c1,r1,a1,a2,a3,a4,a5,a6⟩:=h f H hR;obtain⟨f2,H2,c2,r2,b1,b2,b3,b4,b5,b6⟩:=k f1 H1 a1;refine⟨f2,H2,c1++c2,r1++r2,b1,a2.trans b2,(a3.mono b2.1).append b3,fun v hv=> ?_, ?_,a6.append b6⟩
 . rcases zbe.1 hv with h|h
   . exact a4 v h
   . exact b4 v h
 . rw[xL a6.len];exact(a5.mono b2.ext).append b5
theorem Good.flatten {w:World}:∀{l:List (List Sch × List Value)},(∀p∈l,Good w p.1 p.2)->Good w (l.map (·.1)).flatten (l.map (·.2)).flatten
 |[],_=>Good.nil w
 |p::l,h=>by
  simp only[zaS,zbu];exact(h p (by simp)).append (Good.flatten fun q hq=>h q (by simp[hq]))
section
variable (P : Program)
def Ic (r:TypeId->Option (List Sch)):List Field->Nat->Option (List Sch × Nat)
 |[],n=>some ([],n)
 |f::fs,n=>
  match r f.type with
  |some l=>(match decide (f.offset=n/\l.length=P.cellsOf f.type)with
   |true=>(match Ic r fs (n+l.length)with|some (m,k)=>some (l++m,k)|none=>none)
   |false=>none)
  |none=>none
def Gc:Nat->TypeId->Option (List Sch)
 |0,_=>none
 |d+1,t=>
  match P.underlying t with
  |some (.int k)=>some [.int k]
  |some .bool=>some [.bool]
  |some (.slice e)=>
   (match P.underlying e with
    |some (.int k)=>(match decide (P.cellsOf e=1/\0<P.bytesOf e)with|true=>some [.ints k]|false=>none)
    |_=>(match Gc d e with
     |some l=>(match decide (l.length=P.cellsOf e/\0<l.length/\0<P.bytesOf e)with|true=>some [.af l]|false=>none)
     |none=>none))
  |some (.struct fs)=>(match Ic P (Gc d) fs.toList 0 with|some (l,n)=>(match decide (n=P.cellsOf t)with|true=>some l|false=>none)|none=>none)
  |some (.array n e)=>(match Gc d e with
   |some l=>(match decide (l.length=P.cellsOf e/\P.cellsOf t=n*l.length)with|true=>some (List.replicate n l).flatten|false=>none)
   |none=>none)
  |_=>none
end
theorem mapM_mem {α β:Type} {g:α->Option β}:∀{l:List α} {r:List β},l.mapM g=some r->∀x∈l,∃y∈r,g x=some y
 |[],_,_,x,hx=>by simp at hx
 |a::l,r,h,x,hx=>by
  rw[List.mapM_cons]at h;cases ha:g a with
  |none=>rw[ha]at h;cases h
  |some y=>
   rw[ha]at h;cases hl:l.mapM g with
   |none=>simp[hl]at h
   |some s=>
    simp[hl]at h;subst h;rcases zaT.1 hx with rfl|hx
    . exact⟨y,by simp,ha⟩
    . obtain⟨z,h1,h2⟩:=mapM_mem hl x hx;exact⟨z,by simp[h1],h2⟩
theorem iV {HH:Type} {P:Program} {e:TypeId} {n:Nat} {d:DataW HH}:∀{l:List (DataW HH)},d∈l->n∈d.weights P e->n∈DataW.weightsAll P e l
 |[],h,_=>by simp at h
 |x::l,h,hn=>by
  rw[DataW.weightsAll];rcases zaT.1 h with rfl|h
  . exact zbP _ hn
  . exact zbX _ (iV h hn)
def tw {HH:Type} (P:Program) (t:TypeId) (d:DataW HH):Prop:=∀n∈d.weights P t,n<=reachBytes
theorem Ap {HH α:Type} {P:Program} {T:α->TypeId} {g:α->Option (DataW HH × List MemPlace)}:∀{l:List α} {r:List (DataW HH × List MemPlace)},l.mapM g=some r->(∀n∈DataW.weightsEach P (l.map T) (r.map (·.1)),n<=reachBytes)->∀x∈l,∃y,g x=some y/\tw P (T x) y.1
 |[],_,_,_,x,hx=>by simp at hx
 |a::l,r,h,hz,x,hx=>by
  rw[List.mapM_cons]at h;cases ha:g a with
  |none=>rw[ha]at h;cases h
  |some y=>
   rw[ha]at h;cases hl:l.mapM g with
   |none=>simp[hl]at h
   |some s=>
    simp[hl]at h;subst h;simp only[zaS,DataW.weightsEach]at hz;rcases zaT.1 hx with rfl|hx
    . exact⟨y,ha,fun n hn=>hz n (zbP _ hn)⟩
    . exact Ap hl (fun n hn=>hz n (zbX _ hn)) x hx
theorem rQ {α β:Type} {g:α->Option β}:∀{l:List α} {r:List β},l.mapM g=some r->r.length=l.length/\∀(i:Nat) x,l[i]? =some x->∃y,r[i]? =some y/\g x=some y
 |[],r,h=>by
  rw[List.mapM_nil]at h;cases h;exact⟨rfl,fun i x hx=>by simp at hx⟩
 |a::l,r,h=>by
  rw[List.mapM_cons]at h;cases ha:g a with
  |none=>rw[ha]at h;cases h
  |some y=>
   rw[ha]at h;cases hl:l.mapM g with
   |none=>simp[hl]at h
   |some s=>
    rw[hl]at h;have h:some (y::s)=some r:=h;cases h;obtain⟨h1,h2⟩:=rQ hl;refine⟨by simp[h1],fun i x hx=> ?_⟩;cases i with
    |zero=>simp at hx;subst hx;exact⟨y,by simp,ha⟩
    |succ i=>simpa using h2 i x (by simpa using hx)
theorem xJ {w:World} {a:Addr} {n:Nat} {cs:List Value} (h:w.cells? 0 a n=some cs):cs.length=n/\∀j,j<n->w.cell? (a.add j)=cs[j]? :=by
 unfold World.cells? at h;rw[if_pos (zbq _)]at h;obtain⟨h1,h2⟩:=rQ h;refine⟨by rw[h1];simp,fun j hj=> ?_⟩;obtain⟨y,h3,h4⟩:=h2 j j (by simp[hj]);rw[h4,h3]
theorem DN:∀{l:List (List Value)} {n:Nat},(∀x∈l,x.length=n)->l.flatten.length=l.length*n/\∀(i j:Nat) x,l[i]? =some x->j<n->l.flatten[i*n+j]? =x[j]?
 |[],n,_=>⟨by simp,fun i j x h=>by simp at h⟩
 |a::l,n,h=>by
  have ha:a.length=n:=h a (by simp);obtain⟨h1,h2⟩:=DN (l:=l) (n:=n) fun x hx=>h x (by simp[hx])
  refine⟨by simp only[zbu,zab,zac];rw[h1,ha,za0];omega,fun i j x hi hj=> ?_⟩;simp only[zbu];cases i with
  |zero=>
   simp at hi;subst hi;rw[zb4,zaC,zax (by omega)]
  |succ i=>
   rw[zaJ (by rw[ha,za0];omega),ha];rw[show(i+1)*n+j-n=i*n+j by rw[za0];omega];exact h2 i j x (by simpa using hi) hj
def nI (n:Nat):Nat->List Dat->List Dat
 |0,_=>[]
 |m+1,r=> .r (r.take n)::nI n m (r.drop n)
theorem tT (n:Nat):∀(m:Nat) (r:List Dat),(nI n m r).length=m
 |0,_=>rfl
 |m+1,r=>by simp[nI,tT n m]
theorem sL (n:Nat):∀(m:Nat) (r:List Dat) (i:Nat),i<m->(nI n m r)[i]? =some (.r ((r.drop (i*n)).take n))
 |m+1,r,0,_=>by simp[nI]
 |m+1,r,i+1,h=>by
  simp only[nI,zaX];rw[sL n m _ i (by omega),List.drop_drop,za0,Nat.one_mul,Nat.add_comm n]
theorem WfR.split:∀{a b:List Sch} {r:List Dat},WfR (a++b) r->WfR a (r.take a.length)/\WfR b (r.drop a.length)
 |[],b,r,h=>by simpa[WfR]using h
 |x::a,b,d::r,h=>by
  simp only[zaI,WfR]at h;obtain⟨h1,h2⟩:=WfR.split h.2;simp only[zac,List.take_succ_cons,List.drop_succ_cons,WfR];exact⟨⟨h.1,h1⟩,h2⟩
 |x::a,b,[],h=>by simp[WfR]at h
theorem WfR.rows {l:List Sch}:∀(m:Nat) {r:List Dat},WfR (List.replicate m l).flatten r->∀d∈nI l.length m r,WfR l d.sub
 |0,r,_,d,hd=>by simp[nI]at hd
 |m+1,r,h,d,hd=>by
  rw[zbB,zbu]at h;obtain⟨h1,h2⟩:=h.split;simp only[nI,zaT]at hd;rcases hd with rfl|hd
  . exact h1
  . exact WfR.rows m h2 d hd
section
variable {P : Program} {HH : Type} {enc : TypeId × Value -> HH} {w : World}
theorem xQ {r:TypeId->Option (List Sch)} {g:TypeId->List Value->Option (DataW HH × List MemPlace)} (ih:∀t cs x ss,g t cs=some x->tw P t x.1->r t=some ss->Good w ss cs/\cs.length=ss.length) (cs:List Value):
 ∀{fs:List Field} {n m:Nat} {l:List Sch},Ic P r fs n=some (l,m)->(∀f∈fs,∃y,g f.type ((cs.drop f.offset).take (P.cellsOf f.type))=some y/\tw P f.type y.1)->n+l.length=m/\(m<=cs.length->Good w l ((cs.drop n).take l.length))
 |[],n,m,l,h,_=>by cases h;exact⟨by simp,fun _=>by simpa using Good.nil w⟩
 |f::fs,n,m,l,h,hg=>by
  simp only[Ic]at h
  split at h
  . rename_i a ha
    split at h
    . rename_i hc;obtain⟨h1,h2⟩:=zaj hc
      split at h
      . rename_i b k hb;cases h;obtain⟨y,hy⟩:=hg f (by simp);obtain⟨g1,g2⟩:=ih _ _ _ _ hy.1 hy.2 ha;obtain⟨e1,e2⟩:=xQ ih cs hb (fun q hq=>hg q (by simp[hq]));refine⟨by simp;omega,fun hle=> ?_⟩;have:=g1.append (e2 hle);rw[h1,<-h2]at this;rw[zab];have e:(cs.drop n).take (a.length+b.length)=(cs.drop n).take a.length++(cs.drop (n+a.length)).take b.length:=by
         rw[List.take_add,List.drop_drop]
        rw[e];exact this
      . cases h
    . cases h
  . cases h
theorem trod_int {fuel:Nat} {t:TypeId} {k:IntKind} {cs:List Value} {x:DataW HH × List MemPlace} (hu:P.underlying t=some (.int k)) (h:DataW.trod enc P w 0 (fun _=>true) true (fuel+1) t cs=some x):
 ∃n,cs=[.int k n]/\(Lit.int k n).wf=true:=by
 rcases cs with _|⟨v,_|⟨v2,tl⟩⟩
 . simp[DataW.trod,hu]at h
 . cases v<;>simp only[DataW.trod,hu,reduceCtorEq]at h
   split at h
   . rename_i hc;exact⟨_,by rw[hc.1],hc.2⟩
   . cases h
 . simp[DataW.trod,hu]at h
theorem trod_bool {fuel:Nat} {t:TypeId} {cs:List Value} {x:DataW HH × List MemPlace} (hu:P.underlying t=some .bool) (h:DataW.trod enc P w 0 (fun _=>true) true (fuel+1) t cs=some x):
 ∃b,cs=[.bool b]:=by
 rcases cs with _|⟨v,_|⟨v2,tl⟩⟩
 . simp[DataW.trod,hu]at h
 . cases v<;>simp only[DataW.trod,hu,reduceCtorEq]at h
   exact⟨_,rfl⟩
 . simp[DataW.trod,hu]at h
theorem trod_slice {fuel:Nat} {t e:TypeId} {cs:List Value} {x:DataW HH × List MemPlace} (hu:P.underlying t=some (.slice e)) (h:DataW.trod enc P w 0 (fun _=>true) true (fuel+1) t cs=some x):
 cs=[.slice none 0 0]\/∃a len cap,cs=[.slice (some a) len cap]/\len<=cap/\(tw P t x.1->cap*P.bytesOf e<=reachBytes)/\∀i,i<cap->∃c y,w.cells? 0 (a.add (i*P.cellsOf e)) (P.cellsOf e)=some c/\DataW.trod enc P w 0 (fun _=>true) true fuel e c=some y/\(tw P t x.1->tw P e y.1):=by
 rcases cs with _|⟨v,_|⟨v2,tl⟩⟩
 . simp[DataW.trod,hu]at h
 . cases v<;>simp only[DataW.trod,hu,reduceCtorEq]at h
   rename_i a len cap;cases a with
   |none=>
    left
    cases len<;>cases cap<;>simp[DataW.trod,hu]at h
    rfl
   |some a=>
    right
    simp only[DataW.trod,hu]at h
    split at h
    . rename_i hc;rw[zaL]at h;obtain⟨elems,h1,h2⟩:=h;rw[zai]at h2;obtain⟨rest,h2,hx⟩:=h2;simp only[zbd]at h2;have hw:x.1.weights P t=((elems.map (·.1)).length+(rest.map (·.1)).length)*P.bytesOf e::(DataW.weightsAll P e (elems.map (·.1))++DataW.weightsAll P e (rest.map (·.1))):=by
       rw[<-hx];simp only[DataW.weights,hu]
      have l1:=(rQ h1).1;have l2:=(rQ h2).1;rw[List.length_range]at l1 l2;refine⟨a,len,cap,rfl,hc.2.1,fun hs=> ?_,fun i hi=> ?_⟩
      . have:=hs _ (by rw[hw];exact List.mem_cons_self ..);rw[zaW,zaW,l1,l2]at this
        rwa [show len+(cap-len)=cap by omega]at this
      have key:∃y,(w.cells? 0 (a.add (i*P.cellsOf e)) (P.cellsOf e)).bind (DataW.trod enc P w 0 (fun _=>true) true fuel e)=some y/\(tw P t x.1->tw P e y.1):=by
       by_cases hl:i<len
       . obtain⟨y,hm,hy⟩:=mapM_mem h1 i (zbE.2 hl);exact⟨y,hy,fun hs n hn=>hs n (by rw[hw];exact zaN _ (zbP _ (iV (zbo.2 ⟨y,hm,rfl⟩) hn)))⟩
       . obtain⟨y,hm,hy⟩:=mapM_mem h2 (i-len) (zbE.2 (by omega));rw[show len+(i-len)=i by omega]at hy;exact⟨y,hy,fun hs n hn=>hs n (by rw[hw];exact zaN _ (zbX _ (iV (zbo.2 ⟨y,hm,rfl⟩) hn)))⟩
      obtain⟨y,hy,hys⟩:=key;rw[zaL]at hy;obtain⟨c,g1,g2⟩:=hy;exact⟨c,y,g1,g2,hys⟩
    . cases h
 . simp[DataW.trod,hu]at h
theorem trod_struct {fuel:Nat} {t:TypeId} {fs:Array Field} {cs:List Value} {x:DataW HH × List MemPlace} (hu:P.underlying t=some (.struct fs)) (h:DataW.trod enc P w 0 (fun _=>true) true (fuel+1) t cs=some x):
 cs.length=P.cellsOf t/\(tw P t x.1->∀f∈fs.toList,∃y,DataW.trod enc P w 0 (fun _=>true) true fuel f.type ((cs.drop f.offset).take (P.cellsOf f.type))=some y/\tw P f.type y.1):=by
 simp only[DataW.trod,hu]at h
 split at h
 . rename_i hc;rw[zai]at h;obtain⟨xs,h1,hx⟩:=h;refine⟨hc,fun hs f hf=>Ap (T:=fun f=>f.type) h1 (fun n hn=>hs n ?_) f hf⟩;rw[<-hx];simp only[DataW.weights,hu];exact hn
 . cases h
theorem Gd {fuel n:Nat} {t e:TypeId} {cs:List Value} {x:DataW HH × List MemPlace} (hu:P.underlying t=some (.array n e)) (h:DataW.trod enc P w 0 (fun _=>true) true (fuel+1) t cs=some x):
 cs.length=P.cellsOf t/\∀i,i<n->∃y,DataW.trod enc P w 0 (fun _=>true) true fuel e ((cs.drop (i*P.cellsOf e)).take (P.cellsOf e))=some y/\(tw P t x.1->tw P e y.1):=by
 simp only[DataW.trod,hu]at h
 split at h
 . rename_i hc;rw[zai]at h;obtain⟨xs,h1,hx⟩:=h;refine⟨hc,fun i hi=> ?_⟩;obtain⟨y,hm,hy⟩:=mapM_mem h1 i (zbE.2 hi);refine⟨y,hy,fun hs n hn=>hs n ?_⟩;rw[<-hx];simp only[DataW.weights,hu];exact iV (zbo.2 ⟨y,hm,rfl⟩) hn
 . cases h
theorem Good.rows {l:List Sch} {cs:List Value}:∀(n:Nat),cs.length=n*l.length->(∀i,i<n->Good w l ((cs.drop (i*l.length)).take l.length))->Good w (List.replicate n l).flatten cs
 |0,hl,_=>by
  have:cs=[]:=by simpa using hl
  subst this;exact Good.nil w
 |n+1,hl,h=>by
  rw[zbB,zbu];have h0:=h 0 (by omega);have hr:=Good.rows (l:=l) (cs:=cs.drop l.length) n (by rw[za6,hl,za0];omega) (fun i hi=>by
   have:=h (i+1) (by omega)
   rwa [za0,Nat.one_mul,Nat.add_comm,<-List.drop_drop]at this)
  have:=h0.append hr
  rwa [zb4,zbN,List.take_append_drop]at this
theorem IS {α:Type} {l:List α} {n j:Nat} (hn:l.length=n) (hj:j<n):∀{m i:Nat},i<m->((List.replicate m l).flatten)[i*n+j]? =l[j]?
 |m+1,0,_=>by
  rw[zbB,zbu,zb4,zaC,zax (by omega)]
 |m+1,i+1,h=>by
  rw[zbB,zbu,zaJ (by rw[hn,za0];omega),hn,
   show(i+1)*n+j-n=i*n+j by rw[za0];omega]
  exact IS hn hj (by omega)
theorem Good.slice (hblk:∃(k0:Nat) (C:Array Value) (e:TypeId) (fr:Nat × Nat),w.heap[k0]? =some (.cells C e fr)) {l:List Sch} {s:Sch} {a:Addr} {len cap n:Nat} (hcap:len<=cap) (hn:l.length=n) (hn1:0<n)
 (hrows:∀i,i<cap->∃c,w.cells? 0 (a.add (i*n)) n=some c/\Good w l c)
 (hs:∀(r:List Dat),WfR (List.replicate len l).flatten r->∃(d:Dat) (c:aE),qO s d= .deep c/\WfS s d/\c.len=len/\c.w=n/\∀i,i<len->c.row i=svs l ((r.drop (i*n)).take n)):
 Good w [s] [.slice (some a) len cap]:=by
 have hall:∃css:List (List Value),css.length=len/\∀(i:Nat) c,css[i]? =some c->w.cells? 0 (a.add (i*n)) n=some c/\Good w l c:=by
  have:∀m,m<=len->∃css:List (List Value),css.length=m/\∀(i:Nat) c,css[i]? =some c->w.cells? 0 (a.add (i*n)) n=some c/\Good w l c:=by
   intro m
   induction m with
   |zero=>intro _;exact⟨[],rfl,fun i c h=>by simp at h⟩
   |succ m ih=>
    intro hm;obtain⟨css,h1,h2⟩:=ih (by omega);obtain⟨c,h3,h4⟩:=hrows m (by omega);refine⟨css++[c],by simp[h1],fun i d hd=> ?_⟩;rw[zaU]at hd
    split at hd
    . exact h2 i d hd
    . rename_i hi;have:i=m:=by
       have:=(zan.1 hd).1;simp at this;omega
      subst this;rw[h1]at hd;simp at hd;subst hd;exact⟨h3,h4⟩
  exact this len (zam _)
 obtain⟨css,hcl,hcss⟩:=hall;have hlen:∀c∈css,c.length=n:=by
  intro c hc;obtain⟨i,hi⟩:=zbH hc;exact(xJ (hcss i c hi).1).1
 obtain⟨hfl,hfg⟩:=DN hlen;rw[hcl]at hfl;have hg:Good w (List.replicate len l).flatten css.flatten:=by
  refine Good.rows len (by rw[hfl,hn]) (fun i hi=> ?_);have hi':css[i]? =some css[i]:=zah (by omega);have e:(css.flatten.drop (i*l.length)).take l.length=css[i]:=by
   apply zby;intro j;rw[zau,zaA,hn];have hci:(css[i]).length=n:=hlen _ (zbD _)
   split
   . rename_i hj;exact hfg i j _ hi' hj
   . rw[zaV (by omega)]
  rw[e];exact(hcss i _ hi').2
 intro f H hR;obtain⟨f1,H1,cs',r,a1,a2,a3,a4,a5,a6⟩:=hg f H hR;obtain⟨d,c,hd1,hd2,hd3,hd4,hd5⟩:=hs r a6;have hcl':cs'.length=len*n:=by rw[a3.1,hfl]
 have hloc:∃(lo:Loc) (C:Array Value) (e:TypeId) (fr:Nat × Nat),w.heap[lo.blk]? =some (.cells C e fr)/\(∀(i:Nat) v,cs'[i]? =some v->bm v=true/\∃v',C[lo.off+i]? =some v'/\V f1 v v')/\(a=⟨lo.blk,lo.off+0,none⟩\/(len=0/\cap=0)):=by
  by_cases hz:cap=0
  . obtain⟨k0,C,e,fr,hk⟩:=hblk;have:cs'=[]:=by
     apply zaH;rw[hcl'];have:len=0:=by omega
     rw[this];simp
    subst this;exact⟨⟨k0,0,0⟩,C,e,fr,hk,fun i v h=>by simp at h,.inr ⟨by omega,hz⟩⟩
  . have hn0:n≠0:=by omega
    . obtain⟨c0,h0,_⟩:=hrows 0 (by omega);obtain⟨h1,h2⟩:=xJ h0;have h3:=h2 0 (by omega);rw[zb4]at h3;have h3:w.cell? a=c0[0]? :=by simpa[Addr.add]using h3
      rw[zah (by omega)]at h3;unfold World.cell? at h3
      split at h3
      . rename_i C e fr hC
        split at h3
        . cases h3
        . rename_i hsp;obtain⟨b,off,sp⟩:=a;have:sp=none:=by cases sp<;>simp at hsp⊢
          subst this;refine⟨⟨b,off,0⟩,C,e,fr,hC,fun j v hv=> ?_,.inl rfl⟩;refine⟨a4 v (zaP hv), ?_⟩;have hj:j<len*n:=by rw[<-hcl'];exact(zan.1 hv).1
          have hn':0<n:=by omega
          have hi:j/n<len:=by rw[Nat.div_lt_iff_lt_mul hn'];exact hj
          have hjm:=Nat.mod_lt j hn';have hjd:j/n*n+j%n=j:=by rw[Nat.mul_comm];exact Nat.div_add_mod j n
          obtain⟨v',h4,h5⟩:=a3.get hv;refine⟨v', ?_,h5⟩;have hci:css[j/n]? =some css[j/n]:=zah (by omega);have h6:=hfg (j/n) (j%n) _ hci hjm;rw[hjd,h4]at h6;obtain⟨h7,h8⟩:=xJ (hcss _ _ hci).1;have h9:=h8 (j%n) hjm;rw[<-h6]at h9;have hadd:((⟨b,off,none⟩:Addr).add (j/n*n)).add (j%n)=⟨b,off+j,none⟩:=by
           rw[Addr.add_eq,Addr.add_eq,za8,hjd]
          rw[hadd]at h9;unfold World.cell? at h9;have hC':w.heap[b]? =some (.cells C e fr):=hC;simp only[hC']at h9;simpa using h9
      . cases h3
 obtain⟨lo,C,e,fr,b1,b2,b3⟩:=hloc;obtain⟨f2,H2,c1,c2,c3,c4⟩:=a1.push cs' lo b1 b2;refine⟨f2,H2,[.slice (some ⟨H1.size,0,none⟩) len cap],[d],c1,a2.trans c2,.cons (.slX H1.size 0 len cap lo a c4 b3) (.nil f2),by simp[bm], ?_,⟨hd2,trivial⟩⟩;have hDV:DV tM H2 (Own tM hp0) (.deep c) (.slice (some ⟨H1.size,0,none⟩) c.len cap):=by
  refine .deep c H1.size 0 none cap ⟨cs'⟩ (.inl rfl) (by omega) c3 (ZE _) (by rw[hd3,hd4,zaC];exact Nat.le_of_eq hcl'.symm) (fun i hi j sv hsv v hv=> ?_);rw[hd3]at hi;rw[hd5 i hi]at hsv;rw[hd4,zaC]at hv;have ha6:=a6.len;have hrl:r.length=len*n:=by rw[ha6];simp[hn]
  have hin:=jC (w:=n) hi;have hsg:=wh (a:=l) (r:=(r.drop (i*n)).take n) j (by simp;omega);rw[hsg]at hsv;have hjl:j<n:=by
   rw[<-hn];cases hlj:l[j]? with
   |none=>rw[hlj]at hsv;cases hsv
   |some q=>exact(zan.1 hlj).1
  refine(a5.2 (i*n+j) sv v ?_ hv).mono c2.ext;rw[wh _ ha6];have e1:((List.replicate len l).flatten)[i*n+j]? =l[j]? :=IS hn hjl hi;rw[e1];rw[<-hsv]
  congr 1
  funext q
  congr 1
  rw[zag,zag,zau,if_pos hjl,zaA]
 rw[hd3]at hDV;simp only[svs];rw[hd1];exact .cons hDV .nil
theorem A2 {n z:Nat} (hz:0<z) (h:n*z<=reachBytes):n<=140737488355328:=by
 have:n*1<=n*z:=Nat.mul_le_mul_left n hz;have:reachBytes<=140737488355328:=by decide
 omega
theorem zn (hblk:∃(k0:Nat) (C:Array Value) (e:TypeId) (fr:Nat × Nat),w.heap[k0]? =some (.cells C e fr)):∀(fuel:Nat) (t:TypeId) (cs:List Value) x (D:Nat) (ss:List Sch),
 DataW.trod enc P w 0 (fun _=>true) true fuel t cs=some x->tw P t x.1->Gc P D t=some ss->Good w ss cs/\cs.length=ss.length
 |0,_,_,_,_,_,h,_,_=>by cases h
 |fuel+1,t,cs,x,0,ss,_,_,hf=>by cases hf
 |fuel+1,t,cs,x,D+1,ss,h,hz,hf=>by
  have ih:=zn hblk fuel;unfold Gc at hf
  split at hf
  ·
   rename_i k hu;cases hf;obtain⟨n,rfl,hw⟩:=trod_int hu h;refine⟨fun f H hR=>⟨f,H,[.int k n],[.n n],hR,.refl f H,.cons (.int _ _) (.nil f),by simp[bm],.cons (.i _ _) .nil, ?_⟩,rfl⟩;exact⟨hw,trivial⟩
  . rename_i hu;cases hf;obtain⟨b,rfl⟩:=trod_bool hu h;refine⟨fun f H hR=>⟨f,H,[.bool b],[.n (if b then 1 else 0)],hR,.refl f H,.cons (.bool _) (.nil f),by simp[bm],.cons ?_ .nil,⟨trivial,trivial⟩⟩,rfl⟩;cases b
    . exact .b false
    . exact .b true
  ·
   rename_i e hu
   split at hf
   . rename_i k he
     split at hf
     . rename_i hc;obtain⟨hc,hbyte⟩:=zaj hc;cases hf;rcases trod_slice hu h with rfl|⟨a,len,cap,rfl,hcap,hreach,hrows⟩
       . exact⟨fun f H hR=>⟨f,H,[.slice none 0 0],[.r []],hR,.refl f H,.cons .cZ (.nil f),by simp[bm],.cons (.cY _ rfl) .nil,⟨⟨by simp[Dat.sub],fun x hx=>by simp[Dat.sub]at hx⟩,trivial⟩⟩,rfl⟩
       . refine⟨Good.slice (l:=[.int k]) (n:=1) hblk hcap rfl (by omega) (fun i hi=> ?_) (fun r hr=> ?_),rfl⟩
         . obtain⟨c,y,h1,h2,h3⟩:=hrows i hi;rw[hc]at h1;exact⟨c,h1,(ih _ _ _ 1 [.int k] h2 (h3 hz) (by simp[Gc,he])).1⟩
         . have hrl:r.length=len:=by rw[hr.len];simp
           refine⟨.r r,.ints k (r.map Dat.int),rfl,⟨zaM (by show r.length<=cap;omega) (A2 hbyte (hreach hz)), ?_⟩,by simp[aE.len,hrl],rfl,fun i hi=> ?_⟩
           . intro x hx;have:=WfR.rows (l:=[.int k]) len hr;obtain⟨i,hi⟩:=zbH (show x∈r from hx);have hil:i<len:=by rw[<-hrl];exact(zan.1 hi).1
             have:=this (.r ((r.drop (i*1)).take 1)) (zaP (sL 1 len r i hil));have e:(r.drop (i*1)).take 1=[x]:=by
              rw[zb9];apply zby;intro j;rw[zau,zaA];cases j with
              |zero=>simpa using hi
              |succ j=>simp
             rw[e]at this;exact this.1
           . have e:(r.drop (i*1)).take 1=[r.getD i (.n 0)]:=by
              rw[zb9];apply zby;intro j;rw[zau,zaA];cases j with
              |zero=>simp[zag,zah (show i<r.length by omega)]
              |succ j=>simp
             rw[e];simp only[aE.row,svs,qO,zag,List.getElem?_map];rw[zah (show i<r.length by omega)];rfl
     . cases hf
   . split at hf
     . rename_i l hl
       split at hf
       . rename_i hc;obtain⟨hc,hc1,hbyte⟩:=zaj hc;cases hf;rcases trod_slice hu h with rfl|⟨a,len,cap,rfl,hcap,hreach,hrows⟩
         . exact⟨fun f H hR=>⟨f,H,[.slice none 0 0],[.r []],hR,.refl f H,.cons .cZ (.nil f),by simp[bm],.cons (.cY _ rfl) .nil,⟨⟨by simp[Dat.sub],fun x hx=>by simp[Dat.sub]at hx⟩,trivial⟩⟩,rfl⟩
         . refine⟨Good.slice (l:=l) (n:=P.cellsOf e) hblk hcap hc (by omega) (fun i hi=> ?_) (fun r hr=> ?_),rfl⟩
           . obtain⟨c,y,h1,h2,h3⟩:=hrows i hi;exact⟨c,h1,(ih _ _ _ D l h2 (h3 hz) hl).1⟩
           . refine⟨.r (nI l.length len r),.af l (nI l.length len r),rfl,⟨zaM (by show(nI l.length len r).length<=cap;rw[tT];exact hcap) (A2 hbyte (hreach hz)),WfR.rows len hr⟩,tT _ _ _,hc,fun i hi=> ?_⟩;simp only[aE.row];rw[zag,sL _ _ _ _ hi,zbx,<-hc];have hrl:r.length=len*l.length:=by rw[hr.len];simp
             have hin:=jC (w:=l.length) hi;apply zby;intro j;rw[iI,wh j (by simp;omega),zaC];rfl
       . cases hf
     . cases hf
  ·
   rename_i fs hu
   split at hf
   . rename_i l n hl
     split at hf
     . rename_i hc;have hc:=zaj hc;cases hf;obtain⟨h1,h2⟩:=trod_struct hu h;obtain⟨g1,g2⟩:=xQ (fun t cs x ss a z b=>ih t cs x D ss a z b) cs hl (h2 hz);have:=g2 (by omega);rw[zbN,zbl (by omega)]at this;exact⟨this,by omega⟩
     . cases hf
   . cases hf
  ·
   rename_i n e hu
   split at hf
   . rename_i l hl
     split at hf
     . rename_i hc;obtain⟨h0,hc⟩:=zaj hc;cases hf;obtain⟨h1,h2⟩:=Gd hu h;refine⟨Good.rows n (by rw[h1,hc]) (fun i hi=> ?_),by rw[h1,hc];simp⟩;obtain⟨y,hy,hys⟩:=h2 i hi;rw[h0];exact(ih _ _ _ D l hy (hys hz) hl).1
     . cases hf
   . cases hf
  . cases hf
end
end
end
end Go.Proofs.YtfaojedfnjdnnaaGreat.Ev
namespace Go.Proofs.YtfaojedfnjdnnaaGreat.Ev
noncomputable section
noncomputable section
open Go
open Go.RowKit (Below)
theorem zE {P:Program} {w:World} (h:w.ShapedOpen P):∃(k0:Nat) (C:Array Value) (e:TypeId) (fr:Nat × Nat),w.heap[k0]? =some (.cells C e fr):=by
 obtain⟨o,o₀,h1,h2,h3⟩:=h.2 P.globals.size (zam _) (by simp[begin];omega);rw[Nat.sub_self,if_neg (by decide)]at h3;have h4:∃C e fr,o₀= .cells C e fr:=by
  simp only[begin,Array.getElem?_push,Array.size_push,Array.size_mapIdx]at h2;rw[if_neg (by omega),if_neg (by omega),if_neg (by omega),if_neg (by omega),if_pos trivial]at h2;exact⟨_,_,_,(zbJ h2).symm⟩
 obtain⟨C,e,fr,h5⟩:=h4;exact⟨_,C,e,fr,by rw[h1,h3,h5]⟩
def vpS:Sch->VP
 | .int k=> .int k
 | .bool=> .bool
 | .ints k=> .ints k
 | .af l=> .af l
def Yh:Sch->Dat->Un
 | .int _,d=> .i d.int
 | .bool,d=> .b (d.int !=0)
 | .ints _,d=> .l (d.sub.map Dat.int)
 | .af _,d=> .d d.sub
def uns:List Sch->List Dat->List Un
 |s::l,d::r=>Yh s d::uns l r
 |_,_=>[]
def WfU:List Sch->List Un->Prop
 |[],[]=>True
 | .int k::l,.i n::r=>(Lit.int k n).wf=true/\WfU l r
 | .bool::l,.b _::r=>WfU l r
 | .ints k::l,.l xs::r=>(xs.length<=140737488355328/\∀x∈xs,(Lit.int k x).wf=true)/\WfU l r
 | .af s::l,.d xs::r=>(xs.length<=140737488355328/\∀x∈xs,WfR s x.sub)/\WfU l r
 |_,_=>False
theorem L4 {us:List Un} (h:WfU [] us):us=[]:=by cases us with|nil=>rfl|cons u us=>exact h.elim
theorem T7 {k:IntKind} {l:List Sch} {us:List Un} (h:WfU (.int k::l) us):∃a r,us= .i a::r/\(Lit.int k a).wf=true/\WfU l r:=by
 cases us with
 |nil=>exact h.elim
 |cons u us=>cases u<;>first|exact⟨_,_,rfl,h.1,h.2⟩|exact h.elim
theorem QX {l:List Sch} {us:List Un} (h:WfU (.bool::l) us):∃a r,us= .b a::r/\WfU l r:=by
 cases us with
 |nil=>exact h.elim
 |cons u us=>cases u<;>first|exact⟨_,_,rfl,h⟩|exact h.elim
theorem QA {k:IntKind} {l:List Sch} {us:List Un} (h:WfU (.ints k::l) us):∃a r,us= .l a::r/\(a.length<=140737488355328/\∀x∈a,(Lit.int k x).wf=true)/\WfU l r:=by
 cases us with
 |nil=>exact h.elim
 |cons u us=>cases u<;>first|exact⟨_,_,rfl,h.1,h.2⟩|exact h.elim
theorem RY {s l:List Sch} {us:List Un} (h:WfU (.af s::l) us):∃a r,us= .d a::r/\(a.length<=140737488355328/\∀x∈a,WfR s x.sub)/\WfU l r:=by
 cases us with
 |nil=>exact h.elim
 |cons u us=>cases u<;>first|exact⟨_,_,rfl,h.1,h.2⟩|exact h.elim
theorem WfR.uns:∀{l:List Sch} {r:List Dat},WfR l r->WfU l (uns l r)
 |[],[],_=>trivial
 |s::l,d::r,h=>by
  simp only[WfR]at h;have:=WfR.uns h.2;cases s with
  |int k=>exact⟨h.1,this⟩
  |bool=>exact this
  |ints k=>
   refine⟨⟨by rw[zaW];exact h.1.1,fun x hx=> ?_⟩,this⟩;obtain⟨d',hd,rfl⟩:=zbo.1 hx;exact h.1.2 d' hd
  |af s=>exact⟨h.1,this⟩
 |[],_::_,h=>by simp[WfR]at h
 |_::_,[],h=>by simp[WfR]at h
theorem WfU.append:∀{a b:List Sch} {r s:List Un},WfU a r->WfU b s->WfU (a++b) (r++s)
 |[],b,r,s,h,k=>by rw[L4 h];exact k
 | .int _::a,b,r,s,h,k=>by obtain⟨x,q,rfl,h1,h2⟩:=T7 h;exact⟨h1,h2.append k⟩
 | .bool::a,b,r,s,h,k=>by obtain⟨x,q,rfl,h2⟩:=QX h;exact h2.append k
 | .ints _::a,b,r,s,h,k=>by obtain⟨x,q,rfl,h1,h2⟩:=QA h;exact⟨h1,h2.append k⟩
 | .af _::a,b,r,s,h,k=>by obtain⟨x,q,rfl,h1,h2⟩:=RY h;exact⟨h1,h2.append k⟩
theorem Jq:∀{l:List Sch} {r:List Dat},r.length=l.length->(uns l r).length=l.length
 |[],[],_=>rfl
 |s::l,d::r,h=>by simp[uns,Jq (l:=l) (r:=r) (by simpa using h)]
 |[],_::_,h=>by simp at h
 |_::_,[],h=>by simp at h
theorem xj (s:Sch):(vpS s).size=1:=by cases s<;>rfl
theorem Mc (s:Sch) (d:Dat) (rest:List Un):(vpS s).to (Yh s d::rest)=qO s d:=by cases s<;>rfl
theorem A5:∀(l:List Sch),VP.ly (l.map vpS)=l.length
 |[]=>rfl
 |s::l=>by simp[VP.ly,xj,A5 l];omega
theorem IN:∀{l:List Sch} {r:List Dat} (rest:List Un),r.length=l.length->VP.tos (l.map vpS) (uns l r++rest)=svs l r
 |[],[],rest,_=>rfl
 |s::l,d::r,rest,h=>by
  simp only[zaS,uns,zaI,VP.tos,svs];rw[Mc,xj,List.drop_one,List.tail_cons,IN rest (by simpa using h)]
 |[],_::_,_,h=>by simp at h
 |_::_,[],_,h=>by simp at h
abbrev Par:=Bool × List Sch
def Par.vp:Par->VP
 |(true,l)=> .agg (l.map vpS)
 |(false,s::_)=>vpS s
 |(false,[])=> .any
def Cf (P:Program):List TypeId->Option (List Par)
 |[]=>some []
 |t::ts=>
  match P.underlying t,Gc P 20 t,Cf P ts with
  |some d,some ss,some r=>(match mb d||decide (ss.length=1)with|true=>some ((mb d,ss)::r)|false=>none)
  |_,_,_=>none
section
variable {P : Program} {HH : Type} {enc : TypeId × Value -> HH} {w : World}
theorem DR (hblk:∃(k0:Nat) (C:Array Value) (e:TypeId) (fr:Nat × Nat),w.heap[k0]? =some (.cells C e fr)) {base:Nat}:∀{ts:List TypeId} {vs:List Value} {ds:List (DataW HH)} {ps:List MemPlace} {pars:List Par},
 Cf P ts=some pars->DataW.TrodAll enc P w 0 (fun _=>true) true ts vs ds ps->(∀n∈DataW.weightsEach P ts ds,n<=reachBytes)->(∀(j:Nat) t v,ts[j]? =some t->vs[j]? =some v->Value.okWide P w .any base t v)->
 ∀f H,RW f H w->∃f' H' vs' us,RW f' H' w/\y4 f H f' H'/\VL f' vs' vs/\DVL tM H' (Own tM hp0) (VP.tos (pars.map Par.vp) us) vs'/\WfU (pars.map (·.2)).flatten us
 |[],vs,ds,ps,pars,hp,hd,hz,hv,f,H,hR=>by
  cases hp;cases vs with
  |nil=>exact⟨f,H,[],[],hR,.refl f H,.nil f,.nil,trivial⟩
  |cons v vs=>cases ds<;>exact hd.elim
 |t::ts,vs,ds,ps,pars,hp,hd,hz,hv,f,H,hR=>by
  simp only[Cf]at hp
  split at hp
  . rename_i d ss r hu hf hr
    split at hp
    . rename_i hc;cases hp;cases vs with
      |nil=>cases ds<;>exact hd.elim
      |cons v vs=>
       cases ds with
       |nil=>exact hd.elim
       |cons d0 ds=>
        obtain⟨p,q,⟨fuel,h1⟩,h2,rfl⟩:=hd;obtain⟨hg,hlen⟩:=zn hblk fuel t _ _ 20 ss h1 (fun n hn=>hz n (by rw[DataW.weightsEach];exact zbP _ hn)) hf;obtain⟨f1,H1,cs',rr,a1,a2,a3,a4,a5,a6⟩:=hg f H hR;obtain⟨f2,H2,vs',us,b1,b2,b3,b4,b5⟩:=DR hblk hr h2 (fun n hn=>hz n (by rw[DataW.weightsEach];exact zbX _ hn)) (fun j t v g1 g2=>hv (j+1) t v (by simpa using g1) (by simpa using g2)) f1 H1 a1;have hok:=hv 0 t v (by simp) (by simp);have hul:=Jq a6.len;have a3':=a3.mono b2.1;have a5':=a5.mono b2.ext;have hcl:cs'.length=ss.length:=by rw[a3.1,hlen]
        have htail:VP.tos (r.map Par.vp) ((Ev.uns ss rr++us).drop (Par.vp (mb d,ss)).size)=VP.tos (r.map Par.vp) us:=by
         have:(Par.vp (mb d,ss)).size=ss.length:=by
          cases ha:mb d with
          |true=>exact A5 ss
          |false=>
           rw[ha]at hc;have hc:ss.length=1:=by simpa using hc
           match ss,hc with
           |[s],_=>exact xj s
         rw[this,<-hul,zbr]
        refine⟨f2,H2,(match mb d with|true=>Value.agg cs'.toArray|false=>cs'.headD undef)::vs',Ev.uns ss rr++us,b1,a2.trans b2,.cons ?_ b3, ?_, ?_⟩
        . cases ha:mb d with
          |true=>
           have:∃cs,v= .agg cs:=by
            unfold Value.okWide at hok;rw[hu]at hok;cases d<;>simp only[mb,Bool.false_eq_true]at ha<;>(obtain⟨cs,h,_⟩:=hok;exact⟨cs,h⟩)
           obtain⟨cs,rfl⟩:=this;simp only;have e:(Value.agg cs).cells.toList=cs.toList:=rfl;rw[e]at a3';exact .agg cs'.toArray cs (by simpa using a3'.1) (fun i u hu'=>a4 u (zaP (by simpa using hu'))) (fun i u u' g1 g2=>a3'.2 i u u' (by simpa using g1) (by simpa using g2))
          |false=>
           rw[ha]at hc;have hc:ss.length=1:=by simpa using hc
           have hnot:∀cs,v≠.agg cs:=by
            rintro cs rfl
            unfold Value.okWide at hok;rw[hu]at hok;cases d<;>simp only[mb,reduceCtorEq]at ha<;>simp[Cell.okWide,hu,Cell.ok]at hok
           match cs',hcl.trans hc with
           |[c],_=>
            simp only[List.headD_cons];have hv1:v.cells.toList=[v]:=by
             cases v<;>first|rfl|exact absurd rfl (hnot _)
            rw[hv1]at a3';exact a3'.2 0 c v (by simp) (by simp)
        . simp only[zaS,VP.tos];rw[htail];refine .cons ?_ b4;cases ha:mb d with
          |true=>
           simp only[Par.vp,VP.to];rw[IN _ a6.len];exact .agg _ _ (by simpa using a5'.1) (fun i s u g1 g2=>a5'.2 i s u g1 (by simpa using g2))
          |false=>
           rw[ha]at hc;have hc:ss.length=1:=by simpa using hc
           have hrl:=a6.len
           match ss,rr,cs',hc,hrl,hcl.trans hc with
           |[s],[dd],[c],_,_,_=>
            simp only[Par.vp,Ev.uns,zaI,zat,Mc,List.headD_cons];exact a5'.2 0 _ c (by simp[svs]) (by simp)
        . simp only[zaS,zbu];exact a6.uns.append b5
    . cases hp
  . cases hp
theorem pb:∀{ts:List TypeId} {vs:List Value} {ds:List (DataW HH)} {ps:List MemPlace},DataW.TrodAll enc P w 0 (fun _=>true) true ts vs ds ps->ds.length=ts.length
 |[],[],[],_,_=>rfl
 |t::ts,v::vs,d::ds,ps,⟨_,_,_,h,_⟩=>by simp[pb h]
theorem mL:∀{ts us:List TypeId} {ds gs:List (DataW HH)} {n:Nat},ds.length=ts.length->n∈DataW.weightsEach P ts ds->n∈DataW.weightsEach P (ts++us) (ds++gs)
 |[],us,ds,gs,n,hl,h=>by rw[DataW.weightsEach]at h;simp at h;simp
 |t::ts,us,[],gs,n,hl,h=>by simp at hl
 |t::ts,us,d::ds,gs,n,hl,h=>by
  simp only[zaI,DataW.weightsEach]at h⊢;rcases zbe.1 h with h|h
  . exact zbP _ h
  . exact zbX _ (mL (by simpa using hl) h)
variable {L : List FuncId} {TE : Tab} {X : br}
theorem L8 (hmix:P.follows .mixedOrders=true) (hname:nj P=true) (hT:br.right P TE) (hX:kM P X) {g:FuncId} {ts:List TypeId} {pars:List Par} (hp:Cf P ts=some pars)
 (h:∀us,WfU (pars.map (·.2)).flatten us->tQ P L (iK TE X) g ⟨pars.map Par.vp,[],0⟩ ⟨[.bool],[],0⟩ us [.b true]) (hsh:w.ShapedOpen P) {base:Nat} {vs:List Value} {ds:List (DataW HH)} {ps:List MemPlace}
 (hd:DataW.TrodAll enc P w 0 (fun _=>true) true ts vs ds ps) {us':List TypeId} {gs:List (DataW HH)} (hz:(DataW.weightsEach P (ts++us') (ds++gs)).all (·<=reachBytes)=true) (hval:∀(j:Nat) t v,ts[j]? =some t->vs[j]? =some v->Value.okWide P w .any base t v):
 Calls P g vs.toArray w fun e w'=>e= .returned (.bool true)/\Below w.heap.size w w':=by
 obtain⟨f,H,vs',us,hR,_,hv,hdv,hwf⟩:=DR (zE hsh) hp hd (fun n hn=>by simpa using zao.1 hz n (mL (pb hd) hn)) hval _ _ (RW.nil w);obtain⟨N,y,H',φ',h1,_,h3⟩:=h us hwf tM H vs' (fun x hx=>hx.elim) (Z2 (Nat.le_of_eq hR.lock) hR.hid) hdv;have:y= .bool true:=by
  simp only[Pn.fj,VP.tos,VP.to,lF]at h3;cases h3;rfl
 subst this;exact L1 hmix hname (Lr hT hX) h1 hR.r hR.lock hR.free hv
end
end
end
end Go.Proofs.YtfaojedfnjdnnaaGreat.Ev
namespace Go.Proofs.YtfaojedfnjdnnaaGreat.Ev
noncomputable section
noncomputable section
open Go
abbrev w64 (n:Int):Int:=IntKind.i64.wrap n
abbrev rS (n:Int):Int:=IntKind.u64.wrap n
abbrev wu8 (n:Int):Int:=IntKind.u8.wrap n
def ltN:Nat:=Nat.succ (Nat.succ 0)+1
def lt {α β:Type} (v:α) (f:α->β):β:=(fun _:Nat=>f v) ltN
def chk {α:Type} (c:Bool) (t:Option α):Option α:=bif c then t else none
def XZ {α:Type} (c:Bool) (t:Option α):Option α:=bif c then none else t
def inb (i:Int) (n:Nat):Bool:=decide (0<=i/\i<(n:Int))
def fits (n z:Nat):Bool:=decide (n<1099511627776/\n*z<35184372088832)
def nB (v:Int) (z:Nat):Bool:=decide (0<=v/\(z:Int)*v<=140737488355328/\v<=9223372036854775807)
def bI (b:Bool):Int:=bif b then 1 else 0
def Dat.i (d:Dat) (j:Nat):Int:=(d.fld j).int
def Dat.b (d:Dat) (j:Nat):Bool:=(d.fld j).int !=0
def Dat.l (d:Dat) (j:Nat):List Int:=List.map Dat.int (d.fld j).sub
def Dat.d (d:Dat) (j:Nat):List Dat:=(d.fld j).sub
def ag (l:List Dat) (i:Nat):Dat:=l.getD i (.r [])
theorem ab {n:Int} (h1: -9223372036854775808<=n) (h2:n<=9223372036854775807):w64 n=n:=by show IntKind.i64.wrap n=n;rw[IntKind.wrap_i64];omega
theorem KF {α β:Type} {v:α} {f:α->β} {r:β} (h:∀x,x=v->f x=r):bd v f=r:=h v rfl
theorem jU {α β:Type} {v:α} {f:α->β} {r:β} (h:∀x,x=v->f x=r):lt v f=r:=h v rfl
theorem av {α:Type} {c:Bool} {a r:Option α} (h:c=true) (k:a=r):chk c a=r:=by rw[h];exact k
theorem gv {α:Type} {c:Bool} {a b r:α} (h:c=true) (k:a=r):(bif c then a else b)=r:=by rw[h];exact k
theorem dV {α:Type} {c:Bool} {a b r:α} (h:c=false) (k:b=r):(bif c then a else b)=r:=by rw[h];exact k
theorem Tu {i:Int} {n:Nat}:inb i n=true↔0<=i/\i<(n:Int):=by simp[inb]
theorem RA {n z:Nat}:fits n z=true↔n<1099511627776/\n*z<35184372088832:=by simp[fits]
theorem F6 {v:Int} {z:Nat}:nB v z=true↔0<=v/\(z:Int)*v<=140737488355328/\v<=9223372036854775807:=by simp[nB]
theorem lX (a b:Int):(if b<a then b else a)=min a b:=by omega
theorem mZ (a b:Int):(if a<b then b else a)=max a b:=by omega
theorem mw {a b:Int} (h:a=b):(a==b)=true:=by simp[h]
theorem jh {a b:Int} (h:a≠b):(a==b)=false:=by simp[h]
theorem Xa {a b:Int} (h:a≠b):(a !=b)=true:=by simp[h]
theorem WZ {a b:Int} (h:a=b):(a !=b)=false:=by simp[h]
theorem ak (n:Nat) (h:0<n):∃k,n=k+1:=⟨n-1,by omega⟩
theorem aD (pre:List Dat) (x:Dat) (rest:List Dat):ag (pre++x::rest) pre.length=x:=by simp[ag]
theorem bK (pre:List Int) (x:Int) (rest:List Int) (d:Int):(pre++x::rest).getD pre.length d=x:=by simp
theorem An (pre pre':List Int) (x:Int) (rest:List Int) (d:Int) (h:pre'.length=pre.length):(pre'++x::rest).getD pre.length d=x:=by rw[<-h];simp
theorem Ca {α:Type} (pre:List α) (x y:α) (rest:List α):List.set (pre++x::rest) pre.length y=pre++y::rest:=by simp
theorem Pg (b:Bool):(bI b !=0)=b:=by cases b<;>rfl
section
variable (a b c d e f g h : Dat) (r : List Dat)
theorem VJ (x:Int):(Dat.r (.n x::r)).i 0=x:=rfl
theorem fP (x:Int):(Dat.r (a:: .n x::r)).i 1=x:=rfl
theorem j8 (x:Int):(Dat.r (a::b:: .n x::r)).i 2=x:=rfl
theorem gL (x:Int):(Dat.r (a::b::c:: .n x::r)).i 3=x:=rfl
theorem yu (x:Int):(Dat.r (a::b::c::d:: .n x::r)).i 4=x:=rfl
theorem qm (x:Int):(Dat.r (a::b::c::d::e:: .n x::r)).i 5=x:=rfl
theorem qM (x:Int):(Dat.r (a::b::c::d::e::f:: .n x::r)).i 6=x:=rfl
end
section
variable {α : Type} {a b : α} {o : Option α} {p : Prop} [Decidable p] {c d : Bool}
theorem lt_eq {β:Type} (v:β) (f:β->α):lt v f=f v:=rfl
theorem aP (h:p):chk (decide p) o=o:=by rw[zaa h];rfl
theorem kh:chk true o=o:=rfl
theorem PO:chk (c&&d) o=chk c (chk d o):=by cases c<;>rfl
theorem cJ {i:Int} {n:Nat} (h1:0<=i) (h2:i<(n:Int)):chk (inb i n) o=o:=by rw[Tu.2 ⟨h1,h2⟩];rfl
theorem bL {n z:Nat} (h1:n<1099511627776) (h2:n*z<35184372088832):chk (fits n z) o=o:=by rw[RA.2 ⟨h1,h2⟩];rfl
theorem LC {v:Int} {z:Nat} (h1:0<=v) (h2:(z:Int)*v<=140737488355328) (h3:v<=9223372036854775807):chk (nB v z) o=o:=by rw[F6.2 ⟨h1,h2,h3⟩];rfl
theorem OG (h:¬p):XZ (decide p) o=o:=by rw[zap h];rfl
theorem aQ (h:p):(bif decide p then a else b)=a:=by rw[zaa h];rfl
theorem az (h:¬p):(bif decide p then a else b)=b:=by rw[zap h];rfl
theorem eg {x y:Int} (h:x=y):(bif x==y then a else b)=a:=by rw[mw h];rfl
theorem dB {x y:Int} (h:x≠y):(bif x==y then a else b)=b:=by rw[jh h];rfl
theorem cI {x y:Int} (h:x≠y):(bif x !=y then a else b)=a:=by rw[Xa h];rfl
theorem cK {x y:Int} (h:x=y):(bif x !=y then a else b)=b:=by rw[WZ h];rfl
theorem cond_not:(bif !c then a else b)=(bif c then b else a):=by cases c<;>rfl
theorem NX:(bif c&&d then a else b)=(bif c then(bif d then a else b)else b):=by cases c<;>rfl
theorem Qj:(bif c||d then a else b)=(bif c then a else(bif d then a else b)):=by cases c<;>rfl
theorem Ra:(bif true then a else b)=a:=rfl
theorem wa:(bif false then a else b)=b:=rfl
theorem iD:(bif c then a else a)=a:=by cases c<;>rfl
theorem gm {l:List Dat} {i:Nat} (h:i<l.length):ag l i=l[i]:=by simp[ag,h]
end
def sI (k:Nat):List Sch:=List.replicate k (.int .i64)
def sB (k:Nat):List Sch:=List.replicate k (.int .i64)++[.bool]
theorem TRa {α:Type}:(∀{β:Type} (v:β) (f:β->α),lt v f=f v)/\(∀{o:Option α} {p:Prop} [Decidable p],p->chk (decide p) o=o)/\(∀{o:Option α},chk true o=o)/\(∀{o:Option α} {c d:Bool},chk (c&&d) o=chk c (chk d o))/\(∀{o:Option α} {i:Int} {n:Nat},0<=i->i<(n:Int)->chk (inb i n) o=o)/\(∀{o:Option α} {n z:Nat},n<1099511627776->n*z<35184372088832->chk (fits n z) o=o)/\(∀{o:Option α} {v:Int} {z:Nat},0<=v->(z:Int)*v<=140737488355328->v<=9223372036854775807->chk (nB v z) o=o)/\(∀{o:Option α} {p:Prop} [Decidable p],¬p->XZ (decide p) o=o)/\(∀{a b:α} {p:Prop} [Decidable p],p->(bif decide p then a else b)=a)/\(∀{a b:α} {p:Prop} [Decidable p],¬p->(bif decide p then a else b)=b)/\(∀{a b:α} {x y:Int},x=y->(bif x==y then a else b)=a)/\(∀{a b:α} {x y:Int},x≠y->(bif x==y then a else b)=b)/\(∀{a b:α} {x y:Int},x≠y->(bif x !=y then a else b)=a)/\(∀{a b:α} {x y:Int},x=y->(bif x !=y then a else b)=b)/\(∀{a b:α} {c:Bool},(bif !c then a else b)=(bif c then b else a))/\(∀{a b:α} {c d:Bool},(bif c&&d then a else b)=(bif c then(bif d then a else b)else b))/\(∀{a b:α} {c d:Bool},(bif c||d then a else b)=(bif c then a else(bif d then a else b)))/\(∀{a b:α},(bif true then a else b)=a)/\(∀{a b:α},(bif false then a else b)=b):=
 ⟨fun v f=>lt_eq v f,aP,kh,PO,cJ,bL,LC,OG,aQ,az,eg,dB,cI,cK,cond_not,NX,Qj,Ra,wa⟩
theorem TRi:(∀a b:Int,(if b<a then b else a)=min a b)/\(∀a b:Int,(if a<b then b else a)=max a b):=⟨lX,mZ⟩
theorem LNl {α:Type}:(∀a b:List α,(a++b).length=a.length+b.length)/\(∀(x:α) (a:List α),(x::a).length=a.length+1)/\(([]:List α).length=0)/\(∀(n:Nat) (x:α),(List.replicate n x).length=n)/\(∀(l:List α) (i:Nat) (x:α),(l.set i x).length=l.length)/\(∀{β:Type} (f:β->α) (l:List β),(l.map f).length=l.length)/\(∀a b c:List α,a++b++c=a++(b++c))/\(∀(x:α) (a b:List α),x::a++b=x::(a++b))/\(∀a:List α,[]++a=a):=
 ⟨fun a b=>zab,fun x a=>zac,zar,fun n x=>zbj,fun l i x=>zbk,fun f l=>zaW f,fun a b c=>zaq a b c,fun x a b=>zaI,fun a=>zat a⟩
theorem LNi:(∀n:Nat,(List.range n).length=n)/\(∀a b:Nat,((a+b:Nat):Int)=(a:Int)+(b:Int))/\(∀n:Nat,((n:Int)).toNat=n)/\(∀a b c:Int,a+b+c=a+(b+c))/\(∀n:Nat,0+n=n)/\(∀n:Int,0+n=n):=
 ⟨fun n=>List.length_range,fun a b=>zaG a b,fun n=>zay n,fun a b c=>Int.add_assoc a b c,fun n=>zaC n,fun n=>za3 n⟩
end
end
end Go.Proofs.YtfaojedfnjdnnaaGreat.Ev
namespace Go.Proofs.YtfaojedfnjdnnaaGreat
noncomputable section
open Go
open Go.RowKit Go.Shelf
attribute [local go_sem] Oper.semAt_some
def Iw.upto (N k:Nat):List (Fin N):=(List.finRange N).take k
theorem Iw.Ai {N k:Nat} (h:k<N):Iw.upto N (k+1)=Iw.upto N k++[⟨k,h⟩]:=by
 unfold Iw.upto;rw[List.take_add_one];simp[h]
theorem Iw.DS {N k:Nat} (h:k<=N):(Iw.upto N k).length=k:=by simp[Iw.upto,h]
def Iw.Kp (n₀:Nat) (W W':World):Prop:=Below n₀ W W'/\W'.cell? ⟨n₀+1,0,none⟩=W.cell? ⟨n₀+1,0,none⟩/\W'.cell? ⟨n₀+1+1,0,none⟩=W.cell? ⟨n₀+1+1,0,none⟩
set_option maxRecDepth 100000 in
set_option maxHeartbeats 2000000 in
theorem Iw.Kh (F:Fence) (n:Nat) (h7:F.fn 154) (hro:F.round=none) (hn:1<=n) (l n₀ b off N cap:Nat) (a:Option Addr) (ha:0<N->a=some ⟨b,off,none⟩) (hcap:N*8<=cap) (hreach:N*8<=140737488351232) (J Jx:List (Fin N)->World->Prop)
 (hY:∀pre x W,J pre W->pre.length<N->YieldAt F (n-1) Tryz.prog l #[.slice (some ⟨b,off+x.1*8,none⟩) 8 8] W fun e W'=>
  (e= .returned (.bool true)/\J (pre++[x]) W'/\Iw.Kp n₀ W W')\/(e= .returned (.bool false)/\Jx (pre++[x]) W'))
 (hJd:∀pre W,J pre W->J pre W.drew) (W:World) (hBs:W.cell? ⟨n₀+1,0,none⟩=some (.slice a (N*8) cap)) (hBn:W.cell? ⟨n₀+1+1,0,none⟩=some (.int .i64 8)) (h0:J [] W):
 CallsIn F n Tryz.prog 154 #[.func (.yield l) #[] #[],.pointer (some ⟨n₀+1,0,none⟩),.pointer (some ⟨n₀+1+1,0,none⟩)] W fun e W'=>(∃v,e= .returned v)/\
  ((∃ys,ys=Iw.upto N N/\J ys W')\/(∃pre,(∃k,k<=N/\pre=Iw.upto N k)/\Jx pre W')):=by
 refine callsIn_of_wp Tryz.func154 rfl h7 ?_ hro;simp only[Tryz.ntmps154,zb6,zac,zar,Nat.reduceAdd,Nat.reduceSub,Array.replicate_succ,Array.replicate_zero,List.push_toArray,List.append_toArray,zat,zaI]
 gi_wp2
 gi_loopw [4] (fun i wr=>∃k:Nat,k<=N/\i= .int .i64 (k*8:Nat)/\J (Iw.upto N k) wr/\Iw.Kp n₀ W wr)
  (fun i _=>N*8-(intOf i).toNat)
 case atStart=>exact⟨0,zbq _,rfl,by simpa[Iw.upto]using h0,Below.refl _ _,rfl,rfl⟩
 case round=>
  obtain⟨k,hk,rfl,hJs,hnx⟩:=hrel;have hs:=hnx.2.1.trans hBs;have hn8:=hnx.2.2.trans hBn
  by_cases hlt:k<N
  . obtain rfl:=ha (by omega);obtain⟨fn,tmps,assign,body,hy,hR⟩:=hY _ ⟨k,hlt⟩ wr.drew (hJd _ _ hJs) (by rw[Iw.DS hk];exact hlt);dsimp only at hy
    gi_wp2
    gi_region
    all_goals gi_wp2
    all_goals try omega
    all_goals
     refine hR.mono ?_
     rintro e W3 (⟨rfl,hJ3,hk3⟩|⟨rfl,hJx3⟩)
     . have hn8':=hk3.2.2.trans ((World.cell?_drew _ _).trans hn8)
       gi_wp2
       go_roundw
       case rel=>exact⟨k+1,by omega,by simp;omega,by rw[Iw.Ai hlt];exact hJ3,(hnx.1.drew).trans hk3.1,by rw[hk3.2.1];exact hnx.2.1,by rw[hk3.2.2];exact hnx.2.2⟩
       case measure=>simp[intOf];omega
     . gi_wp2
       refine bodyPost_ret (results_none rfl _ _ _) rfl ?_
       exact⟨⟨_,rfl⟩,.inr ⟨_,⟨k+1,by omega,(Iw.Ai hlt).symm⟩,hJx3⟩⟩
  . obtain rfl:k=N:=by omega
    gi_wp2
    go_end0
    exact⟨⟨_,rfl⟩,.inl ⟨_,rfl,hJs⟩⟩
set_option maxHeartbeats 1000000 in
theorem Iw.N6 (F:Fence) (n:Nat) (h5:F.fn 101) (hro:F.round=none) (a:Option Addr) (len cap:Nat) (w:World):
 CallsIn F n Tryz.prog 101 #[.slice a len cap,.int .i64 8] w fun e w'=>e= .returned (.func (.func 154) #[] #[.pointer (some ⟨w.heap.size,0,none⟩),.pointer (some ⟨w.heap.size+1,0,none⟩)])/\w'=(w.alloc (.cells #[.slice a len cap] 29)).alloc (.cells #[.int .i64 8] 3):=by
 refine callsIn_of_wp Tryz.func101 rfl h5 ?_ hro;simp only[Tryz.ntmps101,zb6,zac,zar,Nat.reduceAdd,Nat.reduceSub,Array.replicate_succ,Array.replicate_zero,List.push_toArray,List.append_toArray,zat,zaI]
 gi_wp2
 go_ret
 exact⟨by simp,rfl⟩
theorem Iw.Ew (F:Fence) (n:Nat) (h7:F.fn 154) (hro:F.round=none) (hn:1<=n) (n₀ b off N cap:Nat) (a:Option Addr) (ha:0<N->a=some ⟨b,off,none⟩) (hcap:N*8<=cap) (hreach:N*8<=140737488351232) (w:World) (hn₀:n₀+1+1<w.heap.size)
 (hBs:w.cell? ⟨n₀+1,0,none⟩=some (.slice a (N*8) cap)) (hBn:w.cell? ⟨n₀+1+1,0,none⟩=some (.int .i64 8)):
 SeqStopsK F n Tryz.prog 154 #[.pointer (some ⟨n₀+1,0,none⟩),.pointer (some ⟨n₀+1+1,0,none⟩)] (fun x:Fin N=> #[Value.slice (some ⟨b,off+x.1*8,none⟩) 8 8]) (Iw.Kp n₀) (fun ys=>ys=Iw.upto N N) (fun pre=>∃k,k<=N/\pre=Iw.upto N k) N w:=fun l J Jx W hW hJ _ hY h0=>
 Iw.Kh F n h7 hro hn l n₀ b off N cap a ha hcap hreach J Jx hY (fun pre W1 h=>hJ pre W1 W1.drew none h ⟨rfl,rfl,rfl,zam _,fun _ _ _=>rfl⟩ (fun _ h=>by cases h)) W
  ((hW.cell (p:=⟨n₀+1,0,none⟩) (by show n₀+1<_;omega)).trans hBs) ((hW.cell (p:=⟨n₀+1+1,0,none⟩) (by show n₀+1+1<_;omega)).trans hBn) h0
theorem Iw.Zq:(Tryz.prog.info? 3).map (fun i=>(i.zero,i.size,i.bytes))=some (some (.int .i64 0),1,8):=by kernel_rfl
theorem Iw.EV (N:Nat):Iw.upto N N=List.finRange N:=zbl (by simp)
def Iw.stp (n c:Int):Int:=bits BinOp.or IntKind.i64 (wrap64 (n*256)) (wrap64 c)
def Iw.val (f:Nat->Int):Nat->Int
 |0=>0
 |i+1=>Iw.stp (Iw.val f i) (f i)
theorem Iw.aac {n₀:Nat} {A B C:World} (h:Iw.Kp n₀ A B) (k:Iw.Kp n₀ B C):Iw.Kp n₀ A C:=⟨h.1.trans k.1,k.2.1.trans h.2.1,k.2.2.trans h.2.2⟩
theorem Iw.ZS {n₀:Nat} {w:World} (hn:n₀+1+1<w.heap.size) (W:World) (l:Nat) (o o':Obj) (hl:w.heap.size<=l) (h:W.heap[l]? =some o) (h1:o.isCells=false) (h2:o.isWalk=false):Iw.Kp n₀ W (W.putObj l o'):=by
 refine⟨belowK_b (w:=w) (by omega) W l o o' hl h h1 h2, ?_, ?_⟩
 . unfold World.cell?;rw[World.putObj_heap_other (by show n₀+1≠l;omega)]
 . unfold World.cell?;rw[World.putObj_heap_other (by show n₀+1+1≠l;omega)]
def Iw.I (n₀ N:Nat) (sv:Value) (f:Fin N->Int) (w:World) (pre:List (Fin N)) (W:World):Prop:=
 (∃v,Boxed W n₀ 58 v/\W.ownsRow (n₀+3) 3 1 v pre.length (pre.map fun x=> .int .i64 (f x))/\(v= .slice none 0 0↔pre=[]))/\(Boxed W (n₀+1) 29 sv/\Boxed W (n₀+1+1) 3 (.int .i64 8))/\Below n₀ w W
theorem Iw.Y4 {n₀ N B:Nat} {sv:Value} {f:Fin N->Int} {w:World} (h1:n₀<=w.heap.size) (h2:n₀<=B):OwnFrom B (Iw.I n₀ N sv f w):=
 OwnFrom.and (Own.from (holdsRow_own (n₀+3) n₀ 58 3 1 (fun(pre:List (Fin N))=>pre.length) (fun pre=>pre.map fun x=> .int .i64 (f x)) (fun pre v=>v= .slice none 0 0↔pre=[])) _)
  (OwnFrom.and (OwnFrom.and (Own.from (boxed_own _ _ fun _=>sv) _) (Own.from (boxed_own _ _ fun _=> .int .i64 8) _)) (ownFrom_below h1 h2))
theorem Iw.appended {W w1:World} {n₀ k m:Nat} {sv:Value} {v v':Value} {xs ys:List Value} {tmp:Obj}
 (hv:Boxed W n₀ 58 v) (hS:Boxed W (n₀+1) 29 sv) (hN:Boxed W (n₀+1+1) 3 (.int .i64 8)) (hrow:W.ownsRow (n₀+3) 3 1 v k xs)
 (hown':w1.ownsRow (n₀+3) 3 1 v' m ys) (hgrow:(W.alloc tmp).grownBy w1 v.ownBlock):
 Boxed w1 n₀ 58 v/\Boxed (w1.setCell ⟨n₀,0,none⟩ v') n₀ 58 v'/\(w1.setCell ⟨n₀,0,none⟩ v').ownsRow (n₀+3) 3 1 v' m ys/\KeepsOthers W (w1.setCell ⟨n₀,0,none⟩ v')/\Iw.Kp n₀ W (w1.setCell ⟨n₀,0,none⟩ v')/\
  Boxed (w1.setCell ⟨n₀,0,none⟩ v') (n₀+1) 29 sv/\Boxed (w1.setCell ⟨n₀,0,none⟩ v') (n₀+1+1) 3 (.int .i64 8):=by
 have hsz:=hN.lt;have hne:∀j,v.ownBlock=some j->n₀+3<=j:=fun j ej=>by
  rcases hrow.2 with⟨rfl,_⟩|⟨g,cap,cur,rfl,hb,_,_⟩
  . simp[Value.ownBlock]at ej
  . obtain rfl:g=j:=by simpa[Value.ownBlock]using ej
    exact hb
 have hv1:Boxed w1 n₀ 58 v:=(hv.alloc tmp).kept hgrow (fun e=>by have:=hne _ e.symm;omega);have hS1:Boxed w1 (n₀+1) 29 sv:=(hS.alloc tmp).kept hgrow (fun e=>by have:=hne _ e.symm;omega);have hN1:Boxed w1 (n₀+1+1) 3 (.int .i64 8):=(hN.alloc tmp).kept hgrow (fun e=>by have:=hne _ e.symm;omega);have hS2:=hS1.other (B':=n₀) (by omega) v';have hN2:=hN1.other (B':=n₀) (by omega) v';refine⟨hv1,hv1.set v',hown'.kept (grownBy_setCell' w1 n₀ v') ?_, ?_,⟨?_,hS2.cell.trans hS.cell.symm,hN2.cell.trans hN.cell.symm⟩,hS2,hN2⟩
 . rcases hown'.2 with⟨rfl,_⟩|⟨g,cap,cur,rfl,hb,_,_⟩
   . exact .inl rfl
   . exact .inr fun e=>by simp[Value.ownBlock]at e;omega
 . refine((KeepsOthers.alloc W tmp).trans (KeepsOthers.of_grownBy hgrow fun j o ej hj=> ?_)).trans (KeepsOthers.setCell _ _ _);rcases(hrow.alloc tmp).2 with⟨rfl,_⟩|⟨g,cap,cur,rfl,_,hgb,_⟩
   . simp[Value.ownBlock]at ej
   . obtain rfl:g=j:=by simpa[Value.ownBlock]using ej
     rw[hgb]at hj;cases hj;rfl
 . refine(((Below.refl n₀ W).alloc (by omega) tmp).grown hgrow (by simp;omega) fun j ej=> ?_).setCell (p:=⟨n₀,0,none⟩) (zam _) v';have:=hne j ej;omega
set_option maxRecDepth 100000 in
set_option maxHeartbeats 4000000 in
theorem Iw.Qe (F:Fence) (n:Nat) (h49:F.fn 57) (h92:F.fn 101) (h123:F.fn 154) (hro:F.round=none) (hn:3<=n) (b off N cap:Nat) (a:Option Addr) (ha:0<N->a=some ⟨b,off,none⟩) (hcap:N*8<=cap) (hreach:N*8<=140737488351232)
 (bs:Nat->Int) (w:World) (hb:0<N->b<w.heap.size) (hc:∀j,j<N*8->w.cell? ⟨b,off+j,none⟩=some (.int .u8 (bs j))):
 CallsIn F n Tryz.prog 57 #[.slice a (N*8) cap] w fun e W'=>∃v,e= .returned (.tuple #[v,.bool true])/\W'.ownsRow (w.heap.size+3) 3 1 v N ((List.finRange N).map fun x=> .int .i64 (Iw.val (fun i=>bs (x.1*8+i)) 8))/\(v= .slice none 0 0↔N=0)/\Below w.heap.size w W':=by
 have h1:1<=n:=by omega
 obtain⟨i0,hi,hz0,hz1,hz2⟩:=info_parts Iw.Zq;refine callsIn_of_wp_marks Tryz.func57 rfl h49 ?_ hro;simp only[Tryz.ntmps57,zb6,zac,zar,Nat.reduceAdd,Nat.reduceSub,Array.replicate_succ,Array.replicate_zero,List.push_toArray,List.append_toArray,zat,zaI]
 gi_wp2_with (gi_at_call 101;refine(Iw.N6 F (n-1) h92 hro _ _ _ _).mono ?_;rintro e w' ⟨rfl,rfl⟩)
 have bO:=Boxed.new w 58 (.slice none 0 0);have bS:=Boxed.new (w.alloc (.cells #[.slice none 0 0] 58)) 29 (.slice a (N*8) cap);have bN:=Boxed.new ((w.alloc (.cells #[.slice none 0 0] 58)).alloc (.cells #[.slice a (N*8) cap] 29)) 3 (.int .i64 8);rw[World.size_alloc]at bS bN;rw[World.size_alloc]at bN;have hB0:Below w.heap.size w (((w.alloc (.cells #[.slice none 0 0] 58)).alloc (.cells #[.slice a (N*8) cap] 29)).alloc (.cells #[.int .i64 8] 3)):=(((Below.refl _ w).alloc (zam _) _).alloc (by simp) _).alloc (by simp;omega) _;refine wpIn_rangeFunc_ownG hro h1 (gf:=154) (lb:= #[.pointer (some ⟨w.heap.size+1,0,none⟩),.pointer (some ⟨w.heap.size+1+1,0,none⟩)]) rfl h123 (enters_of Tryz.func154 (by kernel_rfl) rfl)
  (Iw.Ew F (n-1) h123 hro (by omega) w.heap.size b off N cap a ha hcap hreach _ (by simp) (bS.alloc _).cell bN.cell) Iw.aac (Iw.ZS (by simp)) (Below.refl _ _) (fun _=>rfl)
  (Iw.I w.heap.size N (.slice a (N*8) cap) (fun x=>Iw.val (fun i=>bs (x.1*8+i)) 8) w)
  (fun _ _ _=>False)
  (Iw.Y4 (zam _) (by simp;omega))
  (fun _ _ _ _ _ hs _ _=>hs)
  ⟨⟨_,(bO.alloc _).alloc _,World.ownsRow_nil _ _ _ _,by simp⟩,⟨bS.alloc _,bN⟩,hB0⟩
  (fun x=>{tmps:= #[.slice a (N*8) cap,undef,.slice none 0 0,.bool false,.pointer (some ⟨w.heap.size,0,none⟩),.slice (some ⟨b,off+x.1*8,none⟩) 8 8,undef,undef,undef,.slice a (N*8) cap,.int .i64 (↑N*8),.int .i64 0,.bool false,.slice a (N*8) cap,
   .func (.func 154) #[] #[.pointer (some ⟨w.heap.size+1,0,none⟩),.pointer (some ⟨w.heap.size+1+1,0,none⟩)],.slice (some ⟨b,off+x.1*8,none⟩) 8 8,undef,undef,undef,undef,undef,undef,undef,undef,undef,undef,undef,undef,undef,undef,undef,undef,undef],defers:=[]}) ?assign ?body ?done ?stop
 case assign=>
  intro l x W K hK
  gi_wp2
  exact hK
 case body=>
  rintro l pre x W ⟨⟨v,hv,hrow,hnil⟩,⟨hS,hN⟩,hB⟩ hlt
  have hcv:=hv.cell;have hbb:=hb (by have:=x.2;omega);have hcx:∀j,j<8->W.cell? ⟨b,off+x.1*8+j,none⟩=some (.int .u8 (bs (x.1*8+j))):=fun j hj=>(hB.cell (p:=⟨b,off+x.1*8+j,none⟩) hbb).trans (by rw[za8];exact hc _ (by have:=x.2;omega))
  gi_wp2
  gi_loopw [18,6] (fun i m wr=>∃k:Nat,k<=8/\i= .int .i64 k/\m= .int .i64 (Iw.val (fun i=>bs (x.1*8+i)) k)/\wr=W)
   (fun i m _=>8-(intOf i).toNat)
  case atStart=>exact⟨0,by omega,rfl,rfl,rfl⟩
  case round=>
   obtain⟨k,hk,rfl,rfl,rfl⟩:=hrel
   by_cases hk8:k<8
   . have hck:=hcx k hk8
     gi_wp2
     exact⟨⟨k+1,by omega,by simp,rfl,trivial⟩,by simp[intOf];omega⟩
   . obtain rfl:k=8:=by omega
     have hml:pre.length+1<=maxLen:=by unfold maxLen;omega
     gi_wp2_with (gi_at_builtin;refine wpListIn_append_own _ rfl _ _ 58 rfl (w.heap.size+3) 3 i0 (.int .i64 0) 1 8 Tryz.underlying58 hi hz0 hz1 hz2 rfl (by decide) _ _ _ rfl (hrow.alloc _) ⟨wr.heap.size,0,none⟩ 1 1 [.int .i64 (Iw.val (fun i=>bs (x.1*8+i)) 8)] rfl rfl (cell_one_new _ _ _) (by simp[Value.oneCell']) (by omega) (by omega) (by have:=hN.lt;simp;omega) ?_;intro v' w1 hown' hgrow _;obtain⟨g',cap',rfl⟩:=ownsRow_succ hown';obtain⟨hv1,hv2,hr2,hk2,hKp,hS2,hN2⟩:=Iw.appended hv hS hN hrow hown' hgrow;have hc1:=hv1.cell;have hf1:=hv1.frozen)
     exact⟨hk2.from _,hKp,⟨⟨_,hv2,by simpa using hr2,by simp⟩,⟨hS2,hN2⟩,hB.trans hKp.1⟩⟩
 case done=>
  rintro D ys W hD rfl ⟨⟨v,hv,hrow,hnil⟩,⟨hS,hN⟩,hB⟩ hK
  have hc:=hv.cell
  gi_wp2
  refine⟨by simp,.inl ⟨_,_,rfl,run_takeDeferred hK, ?_⟩⟩;refine⟨_,results_tmp2 rfl _ _ _,v,rfl, ?_, ?_,hB.trans (belowK_b (w:=w) (zam _) W D _ _ (by simp at hD;omega) hK rfl rfl)⟩
  . have:=ownsRow_putObj hrow (.deferred none) hK rfl;rw[Iw.EV,List.length_finRange]at this;exact this
  . rw[Iw.EV]at hnil;rw[hnil,<-List.length_eq_zero_iff,List.length_finRange]
 case stop=>
  rintro D c pre W _ _ h _
  exact h.elim
set_option maxRecDepth 100000 in
theorem Iw.PU (F:Fence) (n:Nat) (h49:F.fn 57) (hro:F.round=none) (len cap:Nat) (a:Option Addr) (hm:len%8≠0) (hreach:len<=140737488351232) (w:World):
 CallsIn F n Tryz.prog 57 #[.slice a len cap] w fun e W'=>e= .returned (.tuple #[.slice none 0 0,.bool false])/\W'=w:=by
 refine callsIn_of_wp Tryz.func57 rfl h49 ?_ hro;simp only[Tryz.ntmps57,zb6,zac,zar,Nat.reduceAdd,Nat.reduceSub,Array.replicate_succ,Array.replicate_zero,List.push_toArray,List.append_toArray,zat,zaI]
 gi_wp2
 refine bodyPost_ret (results_tmp2 rfl _ _ _) rfl ?_
 exact⟨rfl,rfl⟩
end
end Go.Proofs.YtfaojedfnjdnnaaGreat
namespace Go.Proofs.YtfaojedfnjdnnaaGreat.Ev
noncomputable section
open Go Go.RowKit
theorem R.Zp {f:Fm} {H:ah} {w w':World} (h:R f H w) (hfree:f H.size=none) (hb:Below w.heap.size w w') (g room:Nat) (cs:List Value) (C:Array Value) (e:TypeId) (hg:w.heap.size<=g) (hC:w'.heap[g]? =some (.cells C e (0,0)))
 (hc:∀u∈cs,bm u=true) (hv:∀(i:Nat) v,cs[i]? =some v->∃v',C[i]? =some v'/\V f v v') (hr:room<=C.size):
 ∃f',f' H.size=some ⟨g,0,room⟩/\Stp f H w f' (aF H cs) w'/\R f' (aF H cs) w':=by
 let f':Fm:=fun x=>if x=H.size then some ⟨g,0,room⟩else f x
 have hle:Le f f':=by
  intro x l hx
  by_cases e:x=H.size
  . subst e;rw[hfree]at hx;cases hx
  . simp[f',e,hx]
 have hgl:g<w'.heap.size:=(zaF.1 hC).1;have hold:∀x b,(aF H cs).get x=some b->x≠H.size->H.get x=some b/\f' x=f x:=by
  intro x b hx hne;have hlt:x<H.size:=by have:=ah.bo hx;simp[aF]at this;omega
  refine⟨?_,by simp[f',hne]⟩
  rwa [aF,ah.eM _ _ _ hlt]at hx
 have hnew:∀b,(aF H cs).get H.size=some b->b=⟨cs⟩:=by
  intro b hb;have:=(ah.aI hb).1;rw[aF,ah.bQ]at this;simpa using this.symm
 have hf0:f' H.size=some ⟨g,0,room⟩:=by simp[f']
 refine⟨f',hf0,⟨hle, ?_, ?_,rfl,rfl, ?_,hb.size,hb.os,hb.tape,hb.output, ?_, ?_⟩,⟨?_, ?_, ?_, ?_⟩⟩
 . intro x hx;simp[aF]at hx
   by_cases e:x=H.size
   . omega
   . simp[f',e]
 . simp[aF]
 . intro x hx _;rw[aF,ah.bQ,if_neg (by omega)]
 . intro cb hcb _;exact hb.block cb hcb
 . intro cb hcb ⟨x,b,l,hx,hm,hl,hb⟩
   by_cases e:x=H.size
   . subst e;rw[hf0]at hl;cases hl;simp at hb;omega
   . obtain⟨h1,h2⟩:=hold x b hx e;exact⟨x,b,l,h1,by simpa[aN,aF]using hm,by rw[<-h2];exact hl,hb⟩
 . intro x b hx
   by_cases e:x=H.size
   . subst e;have:=hnew b hx;subst this;refine⟨_,C,_,_,hf0,hC, ?_, ?_⟩
     . intro i v hi;obtain⟨v',h1,h2⟩:=hv i v hi;exact⟨hc v (zaP hi),v',by simpa using h1,h2.mono hle⟩
     . intro _;exact⟨rfl,hr⟩
   . obtain⟨h1,h2⟩:=hold x b hx e;obtain⟨l,C',e',fr,hf,hw,hcs,hm⟩:=h.blk x b h1;refine⟨l,C',e',fr,by rw[h2];exact hf, ?_, ?_, ?_⟩
     . rw[hb.block _ (h.big x l hf)];exact hw
     . intro i v hi;obtain⟨a1,v',a2,a3⟩:=hcs i v hi;exact⟨a1,v',a2,a3.mono hle⟩
     . intro hmm;exact hm (by simpa[aN,aF]using hmm)
 . intro x l hx
   by_cases e:x=H.size
   . subst e;rw[hf0]at hx;cases hx;exact hgl
   . exact zaB (h.big x l (by simpa[f',e]using hx)) hb.size
 . have:=h.lk;simp[aF];omega
 . intro x y b c l m hx hy hm hne hl hmm
   by_cases ex:x=H.size
   . subst ex;rw[hf0]at hl;cases hl;obtain⟨h1,h2⟩:=hold y c hy (zcd hne);have:=h.big y m (by rw[<-h2];exact hmm);simp;omega
   . obtain⟨h1,h2⟩:=hold x b hx ex
     by_cases ey:y=H.size
     . subst ey;rw[hf0]at hmm;cases hmm;have:=h.big x l (by rw[<-h2];exact hl);simp;omega
     . obtain⟨h3,h4⟩:=hold y c hy ey;exact h.inj x y b c l m h1 h3 (by simpa[aN,aF]using hm) hne (by rw[<-h2];exact hl) (by rw[<-h4];exact hmm)
def tj:List Value->Option (List Int)
 |[]=>some []
 | .int .u8 n::r=>(tj r).map (n::·)
 |_::_=>none
theorem yB:∀{cs:List Value} {xs:List Int},tj cs=some xs->xs.length=cs.length/\∀j,j<xs.length->cs[j]? =some (.int .u8 (xs.getD j 0))
 |[],xs,h=>by cases h;exact⟨rfl,fun j hj=>by simp at hj⟩
 |c::cs,xs,h=>by
  unfold tj at h
  split at h
  . rename_i e;cases e
  . rename_i n r e;cases e;rw[zai]at h;obtain⟨ys,h1,rfl⟩:=h;obtain⟨h2,h3⟩:=yB h1;refine⟨by simp[h2],fun j hj=> ?_⟩;cases j with
    |zero=>rfl
    |succ j=>
     have:=h3 j (by simpa using hj);simpa using this
  . cases h
def sx (H:ah):Value->Option (List Int)
 | .slice none 0 0=>some []
 | .slice (some ⟨b,off,sp⟩) n c=>
  match H.get b with
  |some B=>if n<=c/\off+n<=B.cells.length/\(sp=none\/sp=some 1)then tj ((B.cells.drop off).take n)else none
  |none=>none
 |_=>none
def bT (xs:List Int):List Int:=(List.finRange (xs.length/8)).map fun k=>Iw.val (fun i=>xs.getD (k.1*8+i) 0) 8
def o9 (g:FuncId):br:=fun h args H=>
 match h==g,args with
 |true,[v]=>
  (match sx H v with
   |some xs=>
    if xs.length<=140737488351232 then
     if xs.length%8=0 then
      if xs.length=0 then some (.tuple #[.slice none 0 0,.bool true],H)
      else some (.tuple #[.slice (some ⟨H.size,0,some 1⟩) (xs.length/8) (xs.length/8),.bool true],aF H ((bT xs).map (Value.int .i64)))
     else some (.tuple #[.slice none 0 0,.bool false],H)
    else none
   |none=>none)
 |_,_=>none
theorem BZ {f:Fm} {H:ah} {w:World} (hR:R f H w) {v v':Value} {xs:List Int} (hv:V f v v') (h:sx H v=some xs):
 ∃(a:Option Addr) (b off cap:Nat),v'= .slice a xs.length cap/\(0<xs.length->a=some ⟨b,off,none⟩/\b<w.heap.size)/\xs.length<=cap/\∀j,j<xs.length->w.cell? ⟨b,off+j,none⟩=some (.int .u8 (xs.getD j 0)):=by
 unfold sx at h
 split at h
 . cases h;cases hv;exact⟨none,0,0,0,rfl,fun h=>by simp at h,zam _,fun j hj=>by simp at hj⟩
 . rename_i b off sp n c
   split at h
   . rename_i B hB
     split at h
     . rename_i hc;obtain⟨h1,h2,h3⟩:=hc;obtain⟨h4,h5⟩:=yB h;have hl:xs.length=n:=by rw[h4,zav,za6];omega
       obtain⟨l,C,e,fr,g1,g2,g3,_⟩:=hR.blk b B hB;have hcell:∀j,j<xs.length->w.cell? ⟨l.blk,l.off+off+j,none⟩=some (.int .u8 (xs.getD j 0)):=by
        intro j hj;have:=h5 j hj;rw[zau,if_pos (by omega),zaA]at this;obtain⟨_,v',q1,q2⟩:=g3 _ _ this;cases q2;simp only[World.cell?,g2];rw[show l.off+off+j=l.off+(off+j) by omega,q1];rfl
       have hbig:=hR.big b l g1;cases hv with
       |slX _ _ _ _ l' a hl' ha=>
        rw[g1]at hl';cases hl';refine⟨some a,l.blk,l.off+off,c,by rw[hl],fun hp=>⟨?_,hbig⟩,by omega,hcell⟩;rcases ha with rfl|ha
        . rfl
        . omega
       |slL _ _ e' _ _ off' c' l' hl' hn hc' hr ho=>
        rw[g1]at hl';cases hl';refine⟨_,l.blk,l.off+off,c',by rw[hl],fun hp=>⟨?_,hbig⟩,by omega,hcell⟩;rw[ho (by omega)]
     . cases h
   . cases h
 . cases h
theorem U8 {f:Fm} {a b a' b':Value} (h:V f a a') (k:V f b b'):V f (.tuple #[a,b]) (.tuple #[a',b']):=by
 refine .tuple _ _ rfl fun i v v' h1 h2=> ?_
 match i with
 |0=>simp at h1 h2;subst h1;subst h2;exact h
 |1=>simp at h1 h2;subst h1;subst h2;exact k
 |i+2=>simp at h1
theorem Ob:kM Tryz.prog (o9 57):=by
 refine⟨fun g args H v H' h=> ?_,fun g args H v H' h=> ?_⟩
 . unfold o9 at h
   repeat' split at h
   all_goals first|(cases h;done)|(cases h;exact .refl H)|(cases h;exact .push H _)
 . unfold o9 at h
   split at h
   case h_2=>cases h
   rename_i v0 hg;rw[zaE]at hg;subst hg
   split at h
   case h_2=>cases h
   rename_i xs hx
   split at h
   case isFalse=>cases h
   rename_i hreach;refine⟨⟨Tryz.f57,_,Tryz.func57,rfl,by decide⟩,fun f w args' hR hfree hvl=> ?_⟩;obtain⟨v',rfl,hv⟩:=hvl.one;obtain⟨a,b,off,cap,rfl,ha,hcap,hc⟩:=BZ hR hv hx
   split at h
   . rename_i hm;have hN:xs.length/8*8=xs.length:=by omega
     have key:=callsIn_wide.1 (Iw.Qe Fence.wide 3 trivial trivial trivial rfl (zam _) b off (xs.length/8) cap a (fun h=>(ha (by omega)).1) (by omega) (by omega) (fun j=>xs.getD j 0) w (fun h=>(ha (by omega)).2) (fun j hj=>hc j (by omega)));rw[hN]at key;have hlist:((List.finRange (xs.length/8)).map fun x=>Value.int .i64 (Iw.val (fun i=>xs.getD (x.1*8+i) 0) 8))=(bT xs).map (Value.int .i64):=by
      simp[bT,List.map_map,Function.comp_def]
     rw[hlist]at key;refine key.mono ?_
     rintro e w' ⟨u,rfl,hown,hnil,hB⟩
     split at h
     . rename_i h0;cases h;obtain rfl:=hnil.2 (by omega);obtain⟨s1,s2⟩:=hR.below hB;exact⟨f,_,rfl,U8 .cZ (.bool true),s1,s2⟩
     . rename_i h0;cases h;obtain⟨hlen,h2⟩:=hown;rcases h2 with⟨rfl,h3⟩|⟨g,cp,cur,rfl,hb,hgb,hle,hmax,hsz,htake⟩
       . omega
       . obtain⟨f',hf0,s1,s2⟩:=hR.Zp (hfree H.size (zam _) (by simp[aF])) hB g cp ((bT xs).map (Value.int .i64)) cur 3 (by omega) hgb (fun u hu=>by
          obtain⟨z,_,rfl⟩:=zbo.1 hu;rfl) (fun i u hi=>by
          refine⟨u, ?_, ?_⟩
          . rw[<-htake]at hi;rw[zau]at hi
            split at hi
            . simpa using hi
            . cases hi
          . obtain⟨z,_,rfl⟩:=zbo.1 (zaP hi);exact .int _ _) (by omega)
         exact⟨f',_,rfl,U8 (.slL H.size 0 1 _ _ 0 cp _ hf0 (zam _) hle (by simp) (fun _=>rfl)) (.bool true),s1,s2⟩
   . rename_i hm;cases h;refine(callsIn_wide.1 (Iw.PU Fence.wide 3 trivial rfl xs.length cap a hm hreach w)).mono ?_
     rintro e w' ⟨rfl,rfl⟩
     exact⟨f,_,rfl,U8 .cZ (.bool false),.refl _ _ _,hR⟩
end
end Go.Proofs.YtfaojedfnjdnnaaGreat.Ev
namespace Go.Proofs.YtfaojedfnjdnnaaGreat
noncomputable section
noncomputable section
open Go Go.RowKit Go.Proofs.YtfaojedfnjdnnaaGreat.Ev
def eV (xs:List Int):List Int:=bif xs.length%8==0 then bT xs else[]
def mj:Pn:=⟨[.ints .u8],[],0⟩
def ze:Pn:=⟨[.buf 0 1,.bool],[.ints .i64],0⟩
theorem xl:∀xs:List Int,tj (xs.map (Value.int .u8))=some xs
 |[]=>rfl
 |a::l=>by
  show(tj (l.map (Value.int .u8))).map (a::·)=_;rw[xl l];rfl
theorem Ha {φ:Phi} {H:ah} {own:Nat->Prop} {xs:List Int} {v:Value} (h:DV φ H own (.deep (.ints .u8 xs)) v):sx H v=some xs:=by
 rcases h.rF with⟨hc,rfl⟩|⟨x,o,sp,cap,blk,rfl,hs,hcap,hb,ho,hr⟩
 . have:xs=[]:=List.length_eq_zero_iff.1 hc;subst this;rfl
 . have hl:o+xs.length<=blk.cells.length:=by have:=hr.1;simpa[aE.len,aE.w]using this
   unfold sx;simp only[hb];rw[if_pos ⟨hcap,hl,hs⟩];have key:(blk.cells.drop o).take xs.length=xs.map (Value.int .u8):=by
    apply List.ext_getElem
    . simp;omega
    . intro i h1 h2;simp only[zaW]at h2;have:=hr.2 i h2 0 (.i .u8 xs[i]) (by simp[aE.row,h2]) (blk.cells[o+i]'(by omega)) (by simp[aE.w]);simp only[List.getElem_take,List.getElem_drop,List.getElem_map];generalize blk.cells[o+i]'(by omega)=z at this⊢;cases this;rfl
   have e:(aE.ints IntKind.u8 xs).len=xs.length:=rfl;rw[e,key];exact xl xs
theorem qe {H:ah} {v:Value} {xs:List Int} (hb:sx H v=some xs) (hl:xs.length<=140737488351232):o9 57 57 [v] H=
 if xs.length%8=0 then
  if xs.length=0 then some (.tuple #[.slice none 0 0,.bool true],H)
  else some (.tuple #[.slice (some ⟨H.size,0,some 1⟩) (xs.length/8) (xs.length/8),.bool true],aF H ((bT xs).map (Value.int .i64)))
 else some (.tuple #[.slice none 0 0,.bool false],H):=by
 unfold o9;rw[show(57==57)=true from rfl];simp only[hb,if_pos hl]
theorem FT {L:List FuncId} {TE:Tab} (h49:∀args,TE 57 args=none) {xs:List Int} (hl:xs.length<=140737488351232):
 tQ Tryz.prog L (iK TE (o9 57)) 57 mj ze [.l xs] [.b (xs.length%8==0),.l (eV xs)]:=by
 intro φ H vs hnb hS hd;have hd:DVL φ H (Ev.Own φ (mj.bB [.l xs])) [.deep (.ints .u8 xs)] vs:=hd;obtain⟨v,rfl,hv⟩:=hd.one;have hb:=Ha hv;have hO:∀r,o9 57 57 [v] H=some r->bH Tryz.prog L (iK TE (o9 57)) 1 57 [v] H=some r:=fun r hr=>lq (by
  unfold iK cw;rw[h49];exact hr)
 have hK:bz mj ze=[]:=rfl;rw[hK];have back:∀(φ1:Phi) (S1:aj) (H1:ah) (s:SV) (y1:Value) (ok:Bool),kp [] φ (mj.bB [.l xs]) H φ1 S1 H1->DV φ1 H1 (Ev.Own φ1 S1) s y1->
  (∃τ,ze.of (idn []) [s,.b ok] S1=some ([.b (xs.length%8==0),.l (eV xs)],τ))->NB φ1 S1 H1->
  ∃φ',kp [] φ (mj.bB [.l xs]) H φ' (ze.bB [.b (xs.length%8==0),.l (eV xs)]) H1/\DV φ' H1 (Ev.Own φ' (ze.bB [.b (xs.length%8==0),.l (eV xs)])) (lF (ze.fj [.b (xs.length%8==0),.l (eV xs)])) (ky [y1,.bool ok]):=by
  intro φ1 S1 H1 s y1 ok hst hy ⟨τ,hof⟩ hnb1;obtain⟨φ',g1,g2⟩:=rY hof hnb1 hst.sim;exact⟨φ',hst.trans g1,lR (g2 _ (.cons hy (.cons (.b ok) .nil)))⟩
 have r0:kp [] φ (mj.bB [.l xs]) H φ (mj.bB [.l xs]) H:=(Step.refl hS).since
 by_cases hm:xs.length%8=0
 . by_cases h0:xs.length=0
   . obtain rfl:xs=[]:=List.length_eq_zero_iff.1 h0;obtain⟨φ',g1,g2⟩:=back φ _ H .ev (.slice none 0 0) true r0 .ev ⟨_,rfl⟩ hnb;exact⟨1,_,H,φ',hO _ (by rw[qe hb hl];rfl),g1,g2⟩
   . have hlen:(bT xs).length=xs.length/8:=by simp[bT]
     have hB:BV φ H (Ev.Own φ (mj.bB [.l xs])) (.cont (.ints .i64 (bT xs))) ((bT xs).map (Value.int .i64)):=by
      refine⟨by simp[aE.len,aE.w],fun r hr j s hs v hv=> ?_⟩;have hr:r<(bT xs).length:=hr
      match j with
      |0=>
       simp[aE.row,hr]at hs;simp[aE.w,hr]at hv;subst hs;subst hv;exact .i _ _
      |j+1=>simp[aE.row]at hs
     have hst:=Step.push hS (.cont (.ints .i64 (bT xs))) ((bT xs).map (Value.int .i64)) hB;have hy:DV (φ.add (mj.bB [.l xs]).size (some H.size)) (aF H ((bT xs).map (Value.int .i64))) (Ev.Own (φ.add (mj.bB [.l xs]).size (some H.size)) ((mj.bB [.l xs]).push (.cont (.ints .i64 (bT xs))))) (.buf (mj.bB [.l xs]).size 1 false) (.slice (some ⟨H.size,0,some 1⟩) (xs.length/8) (xs.length/8)):=
      .buf _ 1 false H.size _ (some 1) (by simp[Phi.add]) (fun c hc=>by rw[(ah.aI (ym hS _)).1]at hc;cases hc;simp[hlen]) (.inr ⟨rfl,rfl,by omega⟩)
     have e1:(xs.length%8==0)=true:=by simpa using hm
     have e2:eV xs=bT xs:=by unfold eV;rw[e1];rfl
     rw[e1,e2]at back⊢;obtain⟨φ',g1,g2⟩:=back _ _ _ _ _ true hst.since hy ⟨_,rfl⟩ (hnb.step hst);exact⟨1,_,_,φ',hO _ (by rw[qe hb hl,if_pos hm,if_neg h0];rfl),g1,g2⟩
 . have e1:(xs.length%8==0)=false:=by simpa using hm
   have e2:eV xs=[]:=by unfold eV;rw[e1];rfl
   rw[e1,e2]at back⊢;obtain⟨φ',g1,g2⟩:=back φ _ H .ev (.slice none 0 0) false r0 .ev ⟨_,rfl⟩ hnb;exact⟨1,_,H,φ',hO _ (by rw[qe hb hl,if_neg hm];rfl),g1,g2⟩
def Nk:List Int->Bool × List Un:=fun xs=>(decide (xs.length<=140737488351232),[.b (xs.length%8==0),.l (eV xs)])
theorem Gn {L:List FuncId} {TE:Tab} (h49:∀args,TE 57 args=none):eI Tryz.prog L (iK TE (o9 57)) 57 (mkE mj ze Nk):=by
 intro us Y h;obtain⟨xs,rfl,h2⟩:=oR h;have h2:some ((Nk xs).1,Ys.now (Nk xs).2)=some (true,Y):=h2;simp only[zak,zaR]at h2;obtain⟨h3,rfl⟩:=h2;exact FT h49 (zaj h3)
end
end
end Go.Proofs.YtfaojedfnjdnnaaGreat
namespace Go.Proofs.YtfaojedfnjdnnaaGreat
noncomputable section
open Go Go.Proofs.YtfaojedfnjdnnaaGreat.Ev
set_option maxRecDepth 20000
def XS:List FuncId:=[57]
def XX:br:=o9 57
theorem S8:kM Tryz.prog XX:=Ob
theorem Rq (g:FuncId) (args:List Value) (H:ah) (h:(XS.any fun x=>g==x)=false):XX g args H=none:=by
 have h:(g==57)=false:=by simpa[XS]using h
 unfold XX o9;rw[h]
def LQ:List FuncId:=[13,14,17,23,26,32,35,40,43,47,48,50,59,65,86,87,90,93,95,96,98,120,123,124,130,131,139,140,142,147,148,163,164,170,181,183,185,187,188,189,205,206,209,216,218,228]
def teL:List (FuncId × (List Value->Option (Bool × Value))):=[(179,Xc),(202,Xk),(204,Vx)]
def TE:Tab:=ij teL
def KN:FuncId->Bool:=Md teL XS
theorem LK:br.right Tryz.prog TE:=cV (aH Ns (aH Mu (aH DK aB)))
abbrev OO:br:=iK TE XX
theorem ae:∀g,KN g=false->∀args H,OO g args H=none:=Av Rq
def T0:Tb Tryz.prog LQ TE XX:= .nil S8.fr
abbrev HO (F:aC) (t:aU):Prop:=F.gC Tryz.prog LQ OO t
abbrev ER (g:FuncId) (e:nO):Prop:=eI Tryz.prog LQ OO g e
def T57:Tb Tryz.prog LQ TE XX:=T0.add 57 _ (Gn fun _=>rfl)
@[ext] structure ao where
 year:Int
 month:Int
 basis:Int
instance : Uns ao := Uns.via (B := Int × Int × Int) (fun x => (x.year, x.month, x.basis)) (fun x => match x with | (year, month, basis) => ⟨year, month, basis⟩) (fun _ => rfl)
@[ext] structure aq where
 fee:Int
 bC:Int
 target:Int
 advance:Int
 fm:Int
 oc:Int
 ic:Int
 late:Int
 mf:Int
 clean:Int
instance : Uns aq := Uns.via (B := Int × Int × Int × Int × Int × Int × Int × Int × Int × Int) (fun x => (x.fee, x.bC, x.target, x.advance, x.fm, x.oc, x.ic, x.late, x.mf, x.clean)) (fun x => match x with | (fee, bC, target, advance, fm, oc, ic, late, mf, clean) => ⟨fee, bC, target, advance, fm, oc, ic, late, mf, clean⟩) (fun _ => rfl)
@[ext] structure bc where
 a:ao
 aK:List Dat
 notes:List Dat
 b:aq
 s0:List Dat
 s1:List Dat
 s2:List Dat
instance : Uns bc := Uns.via (B := ao × List Dat × List Dat × aq × List Dat × List Dat × List Dat) (fun x => (x.a, x.aK, x.notes, x.b, x.s0, x.s1, x.s2)) (fun x => match x with | (a, aK, notes, b, s0, s1, s2) => ⟨a, aK, notes, b, s0, s1, s2⟩) (fun _ => rfl)
@[ext] structure Tc where
 a:ao
 b:aq
 aK:List Int
 notes:List Int
 yd:List Int
 Mz:List Int
 s0:List Int
 s1:List Int
 s2:List Int
instance : Uns Tc := Uns.via (B := ao × aq × List Int × List Int × List Int × List Int × List Int × List Int × List Int) (fun x => (x.a, x.b, x.aK, x.notes, x.yd, x.Mz, x.s0, x.s1, x.s2)) (fun x => match x with | (a, b, aK, notes, yd, Mz, s0, s1, s2) => ⟨a, b, aK, notes, yd, Mz, s0, s1, s2⟩) (fun _ => rfl)
def al (j:Nat):List Dat->Int
 |[]=>0
 |d::l=>d.i j+al j l
def iR (l:List Dat) (a b:Int):Bool:=l.any fun d=>d.i 0==a&&d.i 1==b
theorem Bu (j:Nat) (b:Int):∀(l:List Dat),(∀d∈l,0<=d.i j/\d.i j<=b)->0<=al j l/\al j l<=b*l.length
 |[],_=>by simp[al]
 |x::l,h=>by
  have h1:=h x (by simp);have h2:=Bu j b l fun d hd=>h d (by simp[hd])
  simp only[al,zac,zaG,zb8];omega
section
variable (m : Nat) (k : Tc) (za da : ao) (zb db : aq) (x1 x2 x3 x4 x5 x6 x7 x8 x9 : List Dat)
end
end
end Go.Proofs.YtfaojedfnjdnnaaGreat
