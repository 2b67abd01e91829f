/- Part of a proof: F8, F9, F10, F11, F12, F13, F14, F15, F16, F17, F18, F19, IntsA, IntsB, IntsC. Conditions: none. -/
import Derived.HandedShaped
import Derived.LoopIn
import Derived.LoopNIn
import Derived.Maps.AppendAt
import Derived.OwnWalkIn
import Derived.RangeFuncBox
import Derived.RangeFuncLeaves
import Derived.RangeFuncNested
import Derived.Shelf.Abstract
import Derived.TacticsInMore
import Derived.Test.YtfaojedfnjdnnaaGreatProg
import Derived.Test.YtfaojedfnjdnnaaGreatQ1
import Derived.Test.YtfaojedfnjdnnaaGreatQ3
import Derived.WalkKit
set_option linter.unusedVariables false
set_option linter.unusedSimpArgs false
set_option linter.unnecessarySimpa false
set_option linter.unusedSectionVars false
namespace Go.Proofs.YtfaojedfnjdnnaaGreat.Ev
noncomputable section
noncomputable section
open Go
structure fi where
 kind:Kd
 n0:Nat
 n1:Nat
 ld:Option Nat
 tgt:Option Nat
 v:SV
 re:Option (TypeId × SV)
 ok:List Nat
 hm:List (Nat × Nat)
def gp (p:Nat->Bool):List fi->Nat->List (Nat × Nat)
 |[],_=>[(0,0)]
 |r::rs,k=>if p k then gp p rs (k+1)else(r.n0,r.n1)::gp p rs (k+1)
def gX (S:aj) (M:List (Nat × Nat)):aj:={S with hid:=M++S.hid}
def tD (S:aj) (p:Nat->Bool) (rs:List fi):aj:={S with lock:=S.size,hid:=gp p rs 0++S.hid}
def cn (S S':aj):aj:={S' with lock:=S.lock,hid:=S.hid}
mutual
def aeD:SV->List Nat
 | .ptr id _ _ _=>[id]
 | .buf id _ _=>[id]
 | .sl id _ _ _ _=>[id]
 | .np id _ _ _=>[id]
 | .fn _ x y=>I0 x++I0 y
 | .agg l=>I0 l
 | .tup l=>I0 l
 |_=>[]
def I0:List SV->List Nat
 |[]=>[]
 |s::l=>aeD s++I0 l
end
def aeU:aS->List Nat
 | .cells l=>I0 l
 | .cont _=>[]
 | .fh id _ _ _=>[id]
def EN (S:aj):Nat->List Nat->List Nat->List Nat
 |0,_,seen=>seen
 |_+1,[],seen=>seen
 |f+1,k::r,seen=>match seen.contains k with
  |true=>EN S f r seen
  |false=>(match S.root.get k with|some B=>EN S f (aeU B++r) (k::seen)|none=>EN S f r (k::seen))
def abo (S:aj) (ss:List SV):List (Nat × Nat):=
 (fun seen=>(List.range S.size).filterMap fun k=>match seen.contains k with|true=>none|false=>some (k,k+1)) (EN S 1000 (I0 ss) [])
def tB (S:aj) (fr:List SV) (o:Oper):List (Nat × Nat):=
 match o.op with
 | .call c=>(match c.callee with
  | .value a=>abo S ((a::c.args.toList).filterMap (js fr))
  |_=>[])
 |_=>[]
def JR (c:fi) (y:Nat):Bool:=(match c.tgt with|some x=>x !=y|none=>false)||hidden c.hm y
def Hb:SV->Bool
 | .i _ _=>true
 | .b _=>true
 | .jy=>true
 | .eM=>true
 | .nP=>true
 | .ptr _ _ _ _=>true
 | .buf _ _ _=>true
 | .sl _ _ _ _ _=>true
 | .deep _=>true
 | .dp _ _ _=>true
 |_=>false
def sO:SV->Bool
 | .agg l=>l.all Hb
 |v=>Hb v
def rq:SV->Option Nat
 | .ptr id _ _ _=>some id
 |_=>none
def Qn (fr:List SV) (o:Oper):Bool:=
 match o.op with
 | .call c=>(match c.callee,c.args.toList with
  | .builtin .append,s::_=>(match js fr s with|some v=>QW v|none=>false)
  |_,_=>true)
 |_=>true
def Zx (l:List SV):Nat->SV->List SV:=
 List.rec (motive:=fun _=>Nat->SV->List SV) (fun _ _=>[]) (fun a ts ih n v=>Nat.rec (motive:=fun _=>List SV) (v::ts) (fun m _=>a::ih m v) n) l
theorem Lj:∀(l:List SV) (n:Nat) (v:SV),Zx l n v=l.set n v
 |[],_,_=>rfl
 |_::_,0,_=>rfl
 |a::l,n+1,v=>zcm (a::·) (Lj l n v)
def BX (fr:List SV):Option Tmp->SV->List SV
 |none,_=>fr
 |some d,v=>Zx fr d v
def E6 (A:Array Nat) (B:Nat->Bool) (rs:List fi) (i:Nat) (a:fi) (j:Nat) (b:fi):Bool:=
 match b.kind with
 | .dj=>
  (match a.kind with
   | .pure=>true
   | .load=>aX A i j||(aX A j i||(b.ok.contains i||(decide (i<j)&&(match a.ld with
    |some y=>sO a.v&&((rs.take (j+1)).drop i).all fun r=>match r.kind with
     | .dj=>JR r y
     |_=>true
    |none=>false))||(decide (j<i)&&(match a.ld with
    |some y=>(sO a.v&&decide (y<b.n0))&&((rs.take (i+1)).drop j).all fun r=>match r.kind with
     | .dj=>JR r y
     |_=>true
    |none=>false))))
   | .quiet=>i==j||(aX A i j||(aX A j i||(decide (j<i)&&B i)))
   | .dj=>i==j||(aX A i j||aX A j i))
 |_=>true
def uz (A:Array Nat) (B:Nat->Bool) (rs:List fi):Bool:=rs.zipIdx.all fun(a,i)=>rs.zipIdx.all fun(b,j)=>E6 A B rs i a j b
def yR (A:Array Nat) (n:Nat):Bool:=(List.range n).all fun i=>(List.range n).all fun j=> !aX A i j||((A.getD i 0)|||(A.getD j 0)==A.getD i 0)
def Mr {R:Type} (a b:SV) (r:Option R):Option R:=
 match a,b with
 | .i k x,.i k' y=>(match k==k' with|true=>(bif decide (x=y)then r else none)|false=>none)
 | .b x,.b y=>(bif x==y then r else none)
 |_,_=>none
def CL {R:Type}:List SV->List SV->Option R->Option R
 |[],[],r=>r
 |a::l,b::m,r=>Mr a b (CL l m r)
 |_,_,_=>none
def Q7 {R:Type} (a b:SV) (r:Option R):Option R:=
 match a with
 | .agg l=>(match b with| .agg m=>CL l m r|_=>none)
 |_=>Mr a b r
def aaD:SV->Bool
 | .i _ _=>true
 | .b _=>true
 |_=>false
def aer:SV->Bool
 | .agg l=>l.all aaD
 |v=>aaD v
def ab1 (M:List (Nat × Nat)) (a:fi):Bool:=match a.ld with|some y=>hidden M y&&(sO a.v&& !aer a.v)|none=>false
def reS {R:Type} (P:Program) (S:aj) (A:Array Nat) (j:Nat) (M:List (Nat × Nat)):List fi->Nat->(List Nat->Option R)->Option R
 |[],_,k=>k []
 |a::l,i,k=>
  match a.re with
  |some (t,p)=>
   (match aX A j i||(aX A i j||ab1 M a)with
    |true=>reS P S A j M l (i+1) k
    |false=>xv P S t p fun v=>Q7 a.v v (reS P S A j M l (i+1) fun oks=>k (i::oks)))
  |none=>reS P S A j M l (i+1) k
def reL {R:Type} (P:Program) (S:aj) (A:Array Nat) (j:Nat) (M:List (Nat × Nat)) (o:Oper) (rs:List fi) (k:List Nat->Option R):Option R:=
 match o.op with
 | .store _ _ _=>k []
 |_=>reS P S A j M rs 0 k
section
variable {R : Type} (P : Program) (L : List FuncId) (T : tz) (cx : tV R)
def Wd (A:Array Oper) (fr:List SV) (o:Oper) (yes no:List SV->Option R):Option R:=
 match o.guard with
 |none=>yes fr
 |some (j,want)=>
  match (A[j]?).bind (·.dst)with
  |some d=>
   match fr[d]? with
   |some (.b x)=>(match x with
    |true=>(match want with|true=>yes (fr.set d (.b true))|false=>no (fr.set d (.b true)))
    |false=>(match want with|true=>no (fr.set d (.b false))|false=>yes (fr.set d (.b false))))
   |some (.tup _)=>no fr
   |_=>none
  |none=>none
def Ro (A:Array Oper):List Oper->SSt->(SSt->Option R)->Option R
 |[],s,k=>k s
 |o::r,s,k=>
  Wd A s.fr o (fun fr=>opS P T cx (js fr) o s.hp fun v S=>Ro A r ⟨BX fr o.dst v,S⟩ k)
   (fun fr=>Ro A r ⟨BX fr o.dst (.tup []),s.hp⟩ k)
def YM (A:Array Nat) (i:Nat) (l:List Oper):Bool:=(List.range i).all (fun j=>aX A i j)&&l.all (fun o=>match ff L o with| .pure=>true|_=>false)
def mV (ops:Array Oper) (A:Array Nat):List Oper->Nat->SSt->List fi->(SSt->Option R)->Option R
 |[],_,s,rs,k=>(match uz A (fK ops) rs with|true=>k s|false=>none)
 |o::l,i,s,rs,k=>
  Wd ops s.fr o
   (fun fr=>match ff L o with
    | .pure=>opS P T cx (js fr) o s.hp fun v _=>mV ops A l (i+1) ⟨BX fr o.dst v,s.hp⟩ (rs++[⟨.pure,s.hp.size,s.hp.size,none,none,.any,none,[],[]⟩]) k
    | .load=>
     (match o.op with
      | .load t a=>
       (match js fr a with
        |some p=>xv P (tD s.hp (aX A i) rs) t p fun v=>mV ops A l (i+1) ⟨BX fr o.dst v,s.hp⟩ (rs++[⟨.load,s.hp.size,s.hp.size,rq p,none,v,some (t,p),[],[]⟩]) k
        |none=>none)
      |_=>none)
    | .quiet=>
     (match Qn fr o with
      |true=>opS P T cx (js fr) o (tD s.hp (aX A i) rs) fun v S'=>mV ops A l (i+1) ⟨BX fr o.dst v,cn s.hp S'⟩ (rs++[⟨.quiet,s.hp.size,S'.size,none,none,.any,none,[],[]⟩]) k
      |false=>opS P T cx (js fr) o (gX s.hp (gp (aX A i) rs 0)) fun v S'=>mV ops A l (i+1) ⟨BX fr o.dst v,cn s.hp S'⟩ (rs++[⟨.dj,s.hp.size,S'.size,none,none,.any,none,[],[]⟩]) k)
    | .dj=>
     (match YM L A i l with
      |true=>opS P T cx (js fr) o s.hp fun v S'=>mV ops A l (i+1) ⟨BX fr o.dst v,S'⟩ (rs++[⟨.dj,s.hp.size,S'.size,none,none,.any,none,[],[]⟩]) k
      |false=>opS P T cx (js fr) o (gX s.hp (tB s.hp fr o++gp (aX A i) rs 0)) fun v S'=>reL P (cn s.hp S') A i (tB s.hp fr o) o rs fun oks=>mV ops A l (i+1) ⟨BX fr o.dst v,cn s.hp S'⟩
       (rs++[⟨.dj,s.hp.size,S'.size,none,(match o.op with| .store _ a _=>(match js fr a with|some p=>rq p|none=>none)|_=>none),.any,none,oks,tB s.hp fr o⟩]) k))
   (fun fr=>mV ops A l (i+1) ⟨BX fr o.dst (.tup []),s.hp⟩ (rs++[⟨.pure,s.hp.size,s.hp.size,none,none,.any,none,[],[]⟩]) k)
variable (stop : List Nat -> Bool)
def iI:Nat->List Item->SSt->(List Item->SSt->Option R)->Option R
 |0,_,_,_=>none
 |n+1,its,s,k=>
  match its with
  |[]=>k [] s
  | .code p c::r=>
   match stop (9::p)with
   |true=>k (.code p c::r) s
   |false=>
   match c with
   | .skip=>iI n r s k
   | .label _=>iI n r s k
   | .region _ ops d=>
    (match d with
     |false=>Ro P T cx ops ops.toList s fun s'=>iI n r s' k
     |true=>
      (match jd ops (Region.before ops) s.fr.length&&yR (Region.before ops) ops.size with
       |true=>mV P L T cx ops (Region.before ops) ops.toList 0 s [] fun s'=>iI n r s' k
       |false=>none))
   | .seq a b=>iI n (.code (0::p) a:: .code (1::p) b::r) s k
   | .cond x a b=>
    (match js s.fr x with
     |some (.b t)=>(match t with|true=>iI n (.code (0::p) a::r) s k|false=>iI n (.code (1::p) b::r) s k)
     |_=>none)
   | .block id b=>iI n (.code (0::p) b:: .blk id::r) s k
   | .loop b=>iI n (.lp p b::r) s k
   | .exit id=>(match leave id r with|some r'=>iI n r' s k|none=>none)
   | .ret=>k [] s
   |_=>none
  | .lp p b::r=>(match stop p with|true=>k (.lp p b::r) s|false=>iI n (.code (0::p) b:: .lp p b::r) s k)
  | .blk _::r=>iI n r s k
  | .ops .. ::_=>none
def tc (S:aj) (fr:List SV):List ResultVar->(List SV->Option R)->Option R
 |[],k=>k []
 | .tmp t::r,k=>tc S fr r fun vs=>k (fr.getD t (.tup [])::vs)
 | .cell a t::r,k=>xv P S t (fr.getD a (.tup [])) fun v=>tc S fr r fun vs=>k (v::vs)
def nc:List SV->SV
 |[v]=>v
 |vs=> .tup vs
end
def zV {R:Type} (P:Program) (L:List FuncId) (T:tz) (kn:FuncId->Bool):Nat->tV R
 |0,_,_,_,_=>none
 |n+1,g,args,S,k=>
  match kn g with
  |true=>none
  |false=>
  match P.funcs[g]? with
  |some fn=>
   match fn.body with
   |some c=>
    iI P L T (zV P L T kn n) (fun _=>false) 100000 [.code [] c] ⟨args++List.replicate (fn.ntmps-args.length) (.tup []),S⟩ fun its s=>
     match its with
     |[]=>tc P s.hp s.fr fn.results.toList fun vs=>k (nc vs) s.hp
     |_=>none
   |none=>none
  |none=>none
section
variable {R : Type} {P : Program} {L : List FuncId} {O : bp} {T : tz} {φ : Phi} {H : ag} {own : Nat -> Prop} {S : aj}
theorem y7 {A:Array Oper} {fr:List SV} {fv:List Value} (hf:DVL φ H own fr fv) {o:Oper} {a b:List SV->Option R} {r:R} (h:Wd A fr o a b=some r):
 ∃fr',DVL φ H own fr' fv/\((eZ A fv o=true/\a fr'=some r)\/(eZ A fv o=false/\b fr'=some r)):=by
 unfold Wd at h;unfold eZ
 split at h
 . rename_i hg;simp only[hg];exact⟨fr,hf,.inl ⟨trivial,h⟩⟩
 . rename_i j want hg;simp only[hg]
   split at h
   . rename_i d hd;rw[hd];dsimp only[Option.bind]
     split at h
     . rename_i x hx;obtain⟨v,h1,h2⟩:=hf.get hx;cases h2;rw[h1];have mJ:∀t,t=x->DVL φ H own (fr.set d (.b t)) fv:=by
        rintro t rfl
        have:fr.set d (.b t)=fr:=by
         apply zby;intro m;rw[zbo]
         split
         . rename_i hm;subst hm
           split
           . exact hx.symm
           . rename_i hlt;rw[zaW (by omega)]at hx;cases hx
         . rfl
        rw[this];exact hf
       cases x<;>cases want<;>simp only at h
       . exact⟨_,mJ false rfl,.inl ⟨rfl,h⟩⟩
       . exact⟨_,mJ false rfl,.inr ⟨rfl,h⟩⟩
       . exact⟨_,mJ true rfl,.inr ⟨rfl,h⟩⟩
       . exact⟨_,mJ true rfl,.inl ⟨rfl,h⟩⟩
     . rename_i l hx;obtain⟨v,h1,h2⟩:=hf.get hx;cases h2;rw[h1];exact⟨fr,hf,.inr ⟨rfl,h⟩⟩
     . cases h
   . cases h
theorem jq {fr:List SV} {fv:List Value} (hf:DVL φ H own fr fv) (d:Option Tmp) {s:SV} {v:Value} (hv:DV φ H own s v):DVL φ H own (BX fr d s) (iR fv d v):=by
 cases d with
 |none=>exact hf
 |some d=>show DVL φ H own (Zx fr d s) _;rw[Lj];exact hf.set d hv
theorem DV.undef:DV φ H own (.tup []) undef:= .tup [] #[] rfl (fun i s v h=>by simp at h)
theorem rO {cx:tV R} (hT:fC P L O T) (hcx:qP P L O cx) {A:Array Oper}:∀{l:List Oper} {fr:List SV} {S:aj} {fv:List Value} {H:ag} {φ:Phi} {k:SSt->Option R} {r:R},
 NBh φ S H->Sim φ S H->DVL φ H (Own φ S) fr fv->Ro P T cx A l ⟨fr,S⟩ k=some r->
 ∃φ' fr' S' fv' H',k ⟨fr',S'⟩=some r/\Step φ S H φ' S' H'/\DVL φ' H' (Own φ' S') fr' fv'/\∀its q,dx P L O its ⟨fv',H'⟩ q->dx P L O (.ops A l::its) ⟨fv,H⟩ q
 |[],fr,S,fv,H,φ,k,r,hnb,hS,hf,h=>⟨φ,fr,S,fv,H,h,Step.refl hS,hf,fun _ _ hm=> .Pm hm⟩
 |o::l,fr,S,fv,H,φ,k,r,hnb,hS,hf,h=>by
  unfold Ro at h;obtain⟨fr1,hf1,⟨hw,h⟩|⟨hw,h⟩⟩:=y7 hf h
  . obtain⟨s,S1,v,H1,ho,⟨φ1,hst,hv⟩,_,hk,_⟩:=lX hT hcx hS (fun x s hs=>kS hf1 hs) (fun _=>hnb) h;have fW:=hst.ext hS;obtain⟨φ2,fr2,S2,fv2,H2,g1,g2,g3,g4⟩:=rO hT hcx (hnb.step hst) hst.sim (jq (hf1.mono fW) o.dst hv) hk;exact⟨φ2,fr2,S2,fv2,H2,g1,hst.trans g2,g3,fun its q hm=> .op hw ho (g4 its q hm)⟩
  . obtain⟨φ2,fr2,S2,fv2,H2,g1,g2,g3,g4⟩:=rO hT hcx hnb hS (jq hf1 o.dst DV.undef) h;exact⟨φ2,fr2,S2,fv2,H2,g1,g2,g3,fun its q hm=> .Q2 hw (g4 its q hm)⟩
end
end
end
end Go.Proofs.YtfaojedfnjdnnaaGreat.Ev
namespace Go.Proofs.YtfaojedfnjdnnaaGreat.Ev
noncomputable section
noncomputable section
open Go
theorem lO (p:Nat->Bool):∀(rs:List fi) (k x:Nat),hidden (gp p rs k) x=true↔∃j r,rs[j]? =some r/\p (k+j)=false/\r.n0<=x/\x<r.n1:=by
 intro rs
 induction rs with
 |nil=>intro k x;simp[gp,hidden]
 |cons r rs ih=>
  intro k x;have adG:(∃j r',(r::rs)[j]? =some r'/\p (k+j)=false/\r'.n0<=x/\x<r'.n1)↔(p k=false/\r.n0<=x/\x<r.n1)\/∃j r',rs[j]? =some r'/\p (k+1+j)=false/\r'.n0<=x/\x<r'.n1:=by
   constructor
   . rintro⟨j,r',h1,h2,h3,h4⟩
     cases j with
     |zero=>simp at h1;subst h1;exact .inl ⟨by simpa using h2,h3,h4⟩
     |succ j=>exact .inr ⟨j,r',by simpa using h1,by rw[show k+1+j=k+(j+1) by omega];exact h2,h3,h4⟩
   . rintro(⟨h1,h2,h3⟩|⟨j,r',h1,h2,h3,h4⟩)
     . exact⟨0,r,by simp,by simpa using h1,h2,h3⟩
     . exact⟨j+1,r',by simpa using h1,by rw[show k+(j+1)=k+1+j by omega];exact h2,h3,h4⟩
  rw[adG];unfold gp;cases hp:p k with
  |true=>simp only[zbh];rw[ih];simp
  |false=>
   simp only[zb9,zbp,hidden,zbj,zae,zag];rw[ih];simp
theorem tL (p:Nat->Bool):∀(rs:List fi) (k:Nat) (l:List (Nat × Nat)),gp p rs k++l≠[]
 |[],_,_=>by simp[gp]
 |r::rs,k,l=>by
  unfold gp
  split
  . exact tL p rs _ l
  . simp
section
variable {R : Type} {P : Program} {L : List FuncId} {O : bp} {T : tz} {A : Array Nat}
def SR (rs:List fi) (j id:Nat):Prop:=∃r,rs[j]? =some r/\r.n0<=id/\id<r.n1
def ER (rs:List Rec) (j x:Nat):Prop:=∃r,rs[j]? =some r/\r.h0.size<=x/\x<r.h1.size
def kindOk:Kd->Kd->Prop
 | .dj,.quiet=>True
 | .dj,.dj=>True
 | .quiet,.quiet=>True
 | .pure,.pure=>True
 | .load,.load=>True
 |_,_=>False
def calm (rs:List fi) (i k y:Nat):Prop:=∀(j:Nat) (c:fi),i<=j->j<=k->rs[j]? =some c->c.kind= .dj->JR c y=true
structure RI (P : Program) (A : Array Nat) (base : Nat) (φ : Phi) (S : aj) (H : ag) (rsS : List fi) (rsE : List Rec) : Prop where
 sim:Sim φ S H
 len:rsS.length=rsE.length
 Od:∀id B x,S.get id=some B->φ id=some (some x)->x<base\/∃j m,SR rsS j id/\ER rsE m x/\(m=j\/aX A j m=true)
 esz:∀(j:Nat) (r:Rec),rsE[j]? =some r->base<=r.h0.size/\r.h0.size<=r.h1.size/\r.h1.size<=H.size
 Md:∀(j j':Nat) (r r':Rec),j<j'->rsE[j]? =some r->rsE[j']? =some r'->r.h1.size<=r'.h0.size
 ssz:∀(j:Nat) (r:fi),rsS[j]? =some r->r.n0<=S.size/\r.n1<=S.size
 O8:base<=H.size
 kinds:∀(j:Nat) (a:fi) (b:Rec),rsS[j]? =some a->rsE[j]? =some b->kindOk a.kind b.kind
 Lw:∀(i:Nat) (a:fi) (b:Rec),rsS[i]? =some a->rsE[i]? =some b->a.kind= .load->∃t p,b.ld=some (t,p)/\(sO a.v=true->eqv b.v b.v=true)/\
  ∀y,a.ld=some y->∃x0 o,p= .pointer (some ⟨x0,o,none⟩)/\φ y=some (some x0)/\(calm rsS i rsS.length y->(∃B,S.get y=some B)/\cL P H t p=some b.v)/\
   ∀(k:Nat) (d:Rec),i<k->rsE[k]? =some d->calm rsS i k y->cL P d.h1 t p=some b.v
 res:∀(i:Nat) (a:fi) (b:Rec) (t:TypeId) (p:SV),rsS[i]? =some a->rsE[i]? =some b->a.re=some (t,p)->∃pv,b.ld=some (t,pv)/\DV φ H (Own φ S) p pv/\DV φ H (Own φ S) a.v b.v
 back:∀(j:Nat) (c:fi) (d:Rec),rsS[j]? =some c->rsE[j]? =some d->∀y B x0,S.get y=some B->φ y=some (some x0)->y<c.n0->calm rsS j rsS.length y->d.h0.get x0=H.get x0
 Su:∀(i:Nat) (a:fi) (b:Rec),rsS[i]? =some a->rsE[i]? =some b->a.kind= .load->∀y,a.ld=some y->∀(j:Nat) (c:fi) (d:Rec),j<i->rsS[j]? =some c->rsE[j]? =some d->y<c.n0->calm rsS j i y->
  ∃t p,b.ld=some (t,p)/\cL P (Ev.dv d.h0 (aX A i) (rsE.take j)) t p=some b.v
 oks:∀(j:Nat) (c:fi) (d:Rec),rsS[j]? =some c->rsE[j]? =some d->∀i∈c.ok,i<j/\∃b t pv v,rsE[i]? =some b/\b.ld=some (t,pv)/\cL P d.h1 t pv=some v/\eqv b.v v=true
variable {base : Nat} {φ : Phi} {S : aj} {H : ag} {rsS : List fi} {rsE : List Rec}
def yK (A:Array Nat) (n:Nat):Prop:=∀i j m,i<n->j<n->aX A i j=true->aX A j m=true->aX A i m=true
theorem Kt {n:Nat} (h:yR A n=true):yK A n:=by
 intro i j m hi hj h1 h2;unfold yR at h;rw[zam]at h;have h:=h i (zbC.2 hi);rw[zam]at h;have h:=h j (zbC.2 hj);rw[h1]at h;simp only[zbr,zcj,zaI]at h;unfold aX at h2⊢;rw[<-h,Nat.testBit_or,h2,Bool.or_true]
def Phi.shut (φ:Phi) (S:aj):Phi:=⟨φ.m,Own φ S⟩
theorem RI.Uy (I:RI P A base φ S H rsS rsE) (p:Nat->Bool) {x:Nat} (hx:x<base\/H.size<=x):hidden (eS p rsE 0) x=false:=by
 cases hh:hidden (eS p rsE 0) x with
 |false=>rfl
 |true=>
  obtain⟨j,r,h1,_,h2,h3⟩:=(fX p rsE 0 x).1 hh;have:=I.esz j r h1;omega
theorem RI.YV (I:RI P A base φ S H rsS rsE) (p:Nat->Bool) {id:Nat} (hx:S.size<=id):hidden (gp p rsS 0) id=false:=by
 cases hh:hidden (gp p rsS 0) id with
 |false=>rfl
 |true=>
  obtain⟨j,r,h1,_,h2,h3⟩:=(lO p rsS 0 id).1 hh;have:=I.ssz j r h1;omega
theorem zT:∀{l:List (Nat × Nat)} {x:Nat},hidden l x=true->∃p∈l,p.1<=x/\x<p.2
 |[],x,h=>by cases h
 |(a,b)::l,x,h=>by
  simp only[hidden,zbj,zae,zag]at h;rcases h with h|h
  . exact⟨(a,b),by simp,h⟩
  . obtain⟨p,h1,h2⟩:=zT h;exact⟨p,zay _ h1,h2⟩
theorem Q8 {S:aj} {fr:List SV} {o:Oper} {id:Nat} (h:S.size<=id):hidden (tB S fr o) id=false:=by
 cases hh:hidden (tB S fr o) id with
 |false=>rfl
 |true=>
  obtain⟨p,h1,h2,h3⟩:=zT hh;unfold tB at h1
  split at h1
  . split at h1
    . unfold abo at h1;obtain⟨k,hk,hk2⟩:=zb0.1 h1;have hk:=zbC.1 hk
      split at hk2
      . cases hk2
      . cases hk2;have h3:id<k+1:=h3;omega
    . cases h1
  . cases h1
theorem v9 {K:ag} {p:Nat->Bool} {rs:List Rec} {x:Nat} {c:Blk} (h:K.get x=some c) (hh:hidden (eS p rs 0) x=false):(dv K p rs).get x=some c:=by
 obtain⟨h1,h2⟩:=ag.aM h;unfold ag.get;rw[if_pos (show x<(dv K p rs).size by have:x<K.size:=ag.ba h;exact this),show hidden (dv K p rs).hid x=false by
  show hidden (eS p rs 0++K.hid) x=false;rw[gV,hh,h2];rfl]
 exact h1
theorem GD {p:Nat->Bool} {rs:List Rec} {j x:Nat} (h:hidden (eS p rs 0) x=false):hidden (eS p (rs.take j) 0) x=false:=by
 cases hh:hidden (eS p (rs.take j) 0) x with
 |false=>rfl
 |true=>
  obtain⟨k,r,h1,h2,h3⟩:=(fX p _ 0 x).1 hh;rw[zav]at h1
  split at h1
  . rw[(fX p rs 0 x).2 ⟨k,r,h1,h2,h3⟩]at h;cases h
  . cases h1
theorem RI.seen (I:RI P A base φ S H rsS rsE) {i n:Nat} (hn:yK A n) (hi:i<n) (hlen:rsS.length<=n) {id x:Nat} {B:aS} (hB:S.get id=some B) (hv:hidden (gp (aX A i) rsS 0) id=false) (hx:φ id=some (some x)):
 hidden (eS (aX A i) rsE 0) x=false:=by
 rcases I.Od id B x hB hx with h|⟨j,m,⟨a,h1,h2,h3⟩,⟨b,h4,h5,h6⟩,hjm⟩
 . exact I.Uy _ (.inl h)
 . cases hh:hidden (eS (aX A i) rsE 0) x with
   |false=>rfl
   |true=>
    exfalso;obtain⟨j',r,g1,g2,g3,g4⟩:=(fX _ rsE 0 x).1 hh;rw[zaF]at g2;have hm:j'=m:=by
     rcases Nat.lt_trichotomy j' m with h|h|h
     . have:=I.Md j' m r b h g1 h4;omega
     . exact h
     . have:=I.Md m j' b r h h4 g1;omega
    subst hm;have hpj:aX A i j=true:=by
     cases hp:aX A i j with
     |true=>rfl
     |false=>
      have:=(lO (aX A i) rsS 0 id).2 ⟨j,a,h1,by rw[zaF];exact hp,h2,h3⟩;rw[this]at hv;cases hv
    have hj:j<n:=by
     have:=(zao.1 h1).1;omega
    rcases hjm with rfl|hjm
    . rw[hpj]at g2;cases g2
    . rw[hn i j j' hi hj hpj hjm]at g2;cases g2
theorem j4 {a b:List (Nat × Nat)} {x:Nat} (h1:hidden a x=false) (h2:hidden b x=false):hidden (a++b) x=false:=by rw[gV,h1,h2];rfl
theorem iJ {a b:List (Nat × Nat)} {x:Nat} (h:hidden (a++b) x=false):hidden a x=false/\hidden b x=false:=by
 rw[gV,zbS]at h;exact h
theorem ag.fN {H:ag} {k:Nat} (h1:k<H.size) (h2:hidden H.hid k=false):H.get k=H.root.get k:=by
 unfold ag.get;rw[if_pos h1,h2];rfl
theorem RI.pQ (I:RI P A base φ S H rsS rsE) (p:Nat->Bool) {x:Nat} {c:Blk} (h:H.get x=some c) (hh:hidden (eS p rsE 0) x=false):(dv H p rsE).get x=some c:=by
 obtain⟨h1,h2⟩:=ag.aM h;exact(ag.fN (H:=dv H p rsE) (show x<H.size from ag.ba h) (j4 hh h2)).trans h1
theorem oz {p:Nat->Bool} {x:Nat} {c:Blk} (h:(dv H p rsE).get x=some c):H.get x=some c/\hidden (eS p rsE 0) x=false:=by
 obtain⟨h1,h2⟩:=ag.aM h;obtain⟨h3,h4⟩:=iJ h2;have hlt:x<H.size:=ag.ba (H:=dv H p rsE) h;exact⟨(ag.fN (H:=H) hlt h4).trans h1,h3⟩
theorem cd {M:List (Nat × Nat)} {id:Nat} {B:aS} (h:(gX S M).get id=some B):S.get id=some B/\hidden M id=false:=by
 obtain⟨h1,h2⟩:=aj.aM h;obtain⟨h3,h4⟩:=iJ h2;have hlt:id<S.size:=aj.ba (S:=gX S M) h;exact⟨(aj.fN (S:=S) hlt h4).trans h1,h3⟩
theorem fZ {p:Nat->Bool} {id:Nat} {B:aS} (h:(tD S p rsS).get id=some B):S.get id=some B/\hidden (gp p rsS 0) id=false:=by
 obtain⟨h1,h2⟩:=aj.aM h;obtain⟨h3,h4⟩:=iJ h2;have hlt:id<S.size:=aj.ba (S:=tD S p rsS) h;exact⟨(aj.fN (S:=S) hlt h4).trans h1,h3⟩
theorem RI.dv (I:RI P A base φ S H rsS rsE) (Ot:∀x,base<=x->φ.ban x) {i n:Nat} (hn:yK A n) (hi:i<n) (hlen:rsS.length<=n):
 Ext φ H (Own φ S) (φ.shut S) (dv H (aX A i) rsE) (Own (φ.shut S) (tD S (aX A i) rsS))/\Sim (φ.shut S) (tD S (aX A i) rsS) (dv H (aX A i) rsE):=by
 have lA:∀x,Own (φ.shut S) (tD S (aX A i) rsS) x->Own φ S x:=by
  rintro x (h|⟨id,B,h1,h2⟩)
  . exact h
  . exact .inr ⟨id,B,(fZ h1).1,h2⟩
 have fW:Ext φ H (Own φ S) (φ.shut S) (Ev.dv H (aX A i) rsE) (Own (φ.shut S) (tD S (aX A i) rsS)):=by
  refine⟨fun _ _ h=>h,fun x c h1 h2=>⟨?_,fun h=>h2 (lA x h)⟩,fun id x c' _ h=>⟨c',h,rfl⟩⟩;have hb:x<base:=by
   rcases zci x base with h|h
   . exact h
   . exact absurd (.inl (Ot x h)) h2
  exact I.pQ _ h1 (I.Uy _ (.inl hb))
 refine⟨fW,⟨?_, ?_,I.sim.fresh,I.sim.lt,zap _,zap _, ?_⟩⟩
 . intro id B h;obtain⟨h1,h2⟩:=fZ h;rcases I.sim.blk id B h1 with h3|⟨x,c,h3,h4,h5,h6⟩
   . exact .inl h3
   . refine .inr ⟨x,c,h3,I.pQ _ h4 (I.seen hn hi hlen h1 h2 h3),fun hl=> ?_,h6.mono fW⟩;have:id<S.size:=aj.ba h1;have:S.size<=id:=hl;omega
 . intro id id' B B' x h1 h2 h3 h4;exact I.sim.inj id id' B B' x (fZ h1).1 (fZ h2).1 h3 h4
 . intro x hx;exact j4 (I.Uy _ (.inr hx)) (I.sim.gW x hx)
theorem RI.abt (I:RI P A base φ S H rsS rsE) (M:List (Nat × Nat)):
 Ext φ H (Own φ S) (φ.shut S) H (Own (φ.shut S) (gX S M))/\Sim (φ.shut S) (gX S M) H:=by
 have lA:∀x,Own (φ.shut S) (gX S M) x->Own φ S x:=by
  rintro x (h|⟨id,B,h1,h2⟩)
  . exact h
  . exact .inr ⟨id,B,(cd h1).1,h2⟩
 have fW:Ext φ H (Own φ S) (φ.shut S) H (Own (φ.shut S) (gX S M)):=
  ⟨fun _ _ h=>h,fun x c h1 h2=>⟨h1,fun h=>h2 (lA x h)⟩,fun id x c' _ h=>⟨c',h,rfl⟩⟩
 refine⟨fW,⟨?_, ?_,I.sim.fresh,I.sim.lt,I.sim.jl,I.sim.dT,I.sim.gW⟩⟩
 . intro id B h;rcases I.sim.blk id B (cd h).1 with h3|⟨x,c,h3,h4,h5,h6⟩
   . exact .inl h3
   . exact .inr ⟨x,c,h3,h4,h5,h6.mono fW⟩
 . intro id id' B B' x h1 h2 h3 h4;exact I.sim.inj id id' B B' x (cd h1).1 (cd h2).1 h3 h4
theorem Sim.at {S':aj} {φ':Phi} (hS:Sim φ S H) (hle:∀id y,φ id=some y->φ' id=some y) {id x:Nat} {B:aS} (hB:S.get id=some B) (h:φ' id=some (some x)):φ id=some (some x):=by
 rcases hS.blk id B hB with⟨h1,_⟩|⟨y,c,h1,_⟩
 . rw[hle _ _ h1]at h;cases h
 . rw[hle _ _ h1]at h;rw[h1];exact h
theorem RI.cW (I:RI P A base φ S H rsS rsE) {i:Nat} {φ1:Phi} {S1:aj} {H1:ag} (hst:Step (φ.shut S) (tD S (aX A i) rsS) (Ev.dv H (aX A i) rsE) φ1 S1 H1) (hfr:Fr (Ev.dv H (aX A i) rsE) H1):
 Step φ S H ⟨φ1.m,φ.ban⟩ (cn S S1) (Ev.cW H H1)/\(∀s v,DV φ1 H1 (Own φ1 S1) s v->DV ⟨φ1.m,φ.ban⟩ (Ev.cW H H1) (Own ⟨φ1.m,φ.ban⟩ (cn S S1)) s v)/\
 (∀x,x<H.size->(Ev.cW H H1).get x=H.get x)/\
 (∀id B x,(cn S S1).get id=some B->φ1 id=some (some x)->(id<S.size/\S.get id=some B/\φ id=some (some x))\/(S.size<=id/\id<S1.size/\H.size<=x/\x<H1.size))/\
 (∀id,id<S.size->(cn S S1).get id=S.get id):=by
 have hHs:H.size<=H1.size:=hst.ft;have hSs:S.size<=S1.size:=hst.ssize;have hE1:∀x,x<H.size->(Ev.cW H H1).get x=H.get x:=by
  intro x hx;unfold ag.get;rw[if_pos (show x<(Ev.cW H H1).size from zaD hx hHs),if_pos hx];show(if hidden H.hid x=true then none else H1.root.get x)=_;rw[hfr.root x hx hx];rfl
 have S4:H1.hid=eS (aX A i) rsE 0++H.hid:=hst.gW;have KV:S1.hid=gp (aX A i) rsS 0++S.hid:=hst.zX;have hE2:∀x,H.size<=x->(Ev.cW H H1).get x=H1.get x:=by
  intro x hx;unfold ag.get;have e1:=I.sim.gW x hx;have e2:hidden H1.hid x=false:=by rw[S4];exact j4 (I.Uy _ (.inr hx)) e1
  show(if x<H1.size then(if hidden H.hid x=true then none else H1.root.get x)else none)=_;rw[e1,e2]
 have hE3:∀x c,H1.get x=some c->(Ev.cW H H1).get x=some c:=by
  intro x c h;obtain⟨h1,h2⟩:=ag.aM h;rw[S4]at h2;exact(ag.fN (H:=Ev.cW H H1) (show x<H1.size from ag.ba h) (iJ h2).2).trans h1
 have hS1:∀id,id<S.size->(cn S S1).get id=S.get id:=by
  intro id hid;unfold aj.get;rw[if_pos (show id<(cn S S1).size from zaD hid hSs),if_pos hid];show(if hidden S.hid id=true then none else S1.root.get id)=_;rw[hst.pd id hid (.inl hid)];rfl
 have hS2:∀id B,S.size<=id->(cn S S1).get id=some B->S1.get id=some B:=by
  intro id B hid h;obtain⟨h1,h2⟩:=aj.aM h;exact(aj.fN (S:=S1) (show id<S1.size from aj.ba (S:=cn S S1) h) (by rw[KV];exact j4 (I.YV _ hid) h2)).trans h1
 have hle:∀id y,φ id=some y->φ1 id=some y:=hst.le;have fk:∀id B x,S.size<=id->S1.get id=some B->φ1 id=some (some x)->H.size<=x/\x<H1.size:=by
  intro id B x h1 h2 h3;rcases hst.sim.blk id B h2 with⟨h4,_⟩|⟨y,c,h4,h5,h6,_⟩
  . rw[h3]at h4;cases h4
  . rw[h3]at h4;cases h4;refine⟨?_,ag.ba h5⟩;have:=h6 (by rw[hst.jl];exact h1);rw[hst.dT]at this;exact this
 have hold:∀id B x,S.get id=some B->φ1 id=some (some x)->φ id=some (some x):=fun id B x h1 h2=>Sim.at (S':=S) (φ':=φ1) I.sim hle h1 h2
 have Ik:φ1.ban=Own φ S:=hst.ban
 let φ':Phi:=⟨φ1.m,φ.ban⟩
 have BH:∀x,fE φ' (cn S S1) x->fE φ S x\/fE φ1 S1 x/\H.size<=x:=by
  rintro x ⟨id,B,h1,h2⟩
  by_cases hid:id<S.size
  . rw[hS1 id hid]at h1;exact .inl ⟨id,B,h1,hold id B x h1 h2⟩
  . have h3:=hS2 id B (by omega) h1;exact .inr ⟨⟨id,B,h3,h2⟩,(fk id B x (by omega) h3 h2).1⟩
 have fW:Ext φ H (Own φ S) φ' (Ev.cW H H1) (Own φ' (cn S S1)):=by
  refine⟨hle,fun x c h1 h2=> ?_,fun id x c' h1 h2=> ?_⟩
  . have hlt:=ag.ba h1;refine⟨by rw[hE1 x hlt];exact h1, ?_⟩
    rintro(h|h)
    . exact h2 (.inl h)
    . rcases BH x h with h|⟨_,h⟩
      . exact h2 (.inr h)
      . omega
  . have hlt:=I.sim.lt id x h1;refine⟨c', ?_,rfl⟩;have:=hfr.root x hlt hlt;exact this.symm.trans h2
 have Il:Ext φ1 H1 (Own φ1 S1) φ' (Ev.cW H H1) (Own φ' (cn S S1)):=by
  refine⟨fun _ _ h=>h,fun x c h1 h2=>⟨hE3 x c h1, ?_⟩,fun id x c' _ h=>⟨c',h,rfl⟩⟩
  rintro(h|h)
  . exact h2 (.inl (by rw[Ik];exact .inl h))
  . rcases BH x h with h|⟨h,_⟩
    . exact h2 (.inl (by rw[Ik];exact .inr h))
    . exact h2 (.inr h)
 refine⟨⟨⟨?_, ?_, ?_, ?_, ?_, ?_, ?_⟩,hle,rfl, ?_,fun x hx _=>hE1 x hx, ?_,hHs,rfl,rfl,hSs,rfl,rfl, ?_⟩,fun s v h=>h.mono Il,hE1, ?_,hS1⟩
 . intro id B h
   by_cases hid:id<S.size
   . rw[hS1 id hid]at h;rcases I.sim.blk id B h with h3|⟨x,c,h3,h4,h5,h6⟩
     . exact .inl ⟨hle _ _ h3.1,h3.2⟩
     . exact .inr ⟨x,c,hle _ _ h3,by rw[hE1 x (ag.ba h4)];exact h4,h5,h6.mono fW⟩
   . have h1:=hS2 id B (by omega) h;rcases hst.sim.blk id B h1 with h3|⟨x,c,h3,h4,h5,h6⟩
     . exact .inl h3
     . refine .inr ⟨x,c,h3,hE3 x c h4,fun _=> ?_,h6.mono Il⟩;have:=(fk id B x (by omega) h1 h3).1;exact zaP I.sim.dT this
 . intro id id' B B' x h1 h2 h3 h4
   by_cases hid:id<S.size
   . rw[hS1 id hid]at h1;have g1:=hold id B x h1 h3
     by_cases B3:id'<S.size
     . rw[hS1 id' B3]at h2;exact I.sim.inj id id' B B' x h1 h2 g1 (hold id' B' x h2 h4)
     . have:=(fk id' B' x (by omega) (hS2 id' B' (by omega) h2) h4).1;have:=I.sim.lt id x g1;omega
   . have g1:=hS2 id B (by omega) h1
     by_cases B3:id'<S.size
     . rw[hS1 id' B3]at h2;have:=(fk id B x (by omega) g1 h3).1;have:=I.sim.lt id' x (hold id' B' x h2 h4);omega
     . exact hst.sim.inj id id' B B' x g1 (hS2 id' B' (by omega) h2) h3 h4
 . exact hst.sim.fresh
 . exact hst.sim.lt
 . exact zaP I.sim.jl hSs
 . exact zaP I.sim.dT hHs
 . intro x hx;exact I.sim.gW x (zaP hHs hx)
 . intro x hx h;rcases BH x h with h|⟨_,h⟩
   . exact h
   . omega
 . intro x c' hx h;exact⟨c',(hfr.root x hx hx).symm.trans h,rfl⟩
 . intro id h1 _;exact hst.pd id h1 (.inl h1)
 . intro id B x h1 h2
   by_cases hid:id<S.size
   . rw[hS1 id hid]at h1;exact .inl ⟨hid,h1,hold id B x h1 h2⟩
   . have g1:=hS2 id B (by omega) h1;obtain⟨g2,g3⟩:=fk id B x (by omega) g1 h2;exact .inr ⟨by omega,aj.ba g1,g2,g3⟩
theorem RI.Rl (I:RI P A base φ S H rsS rsE) {M:List (Nat × Nat)} (hM:∀id,S.size<=id->hidden M id=false) {φ1:Phi} {S1:aj} {H1:ag} (hst:Step (φ.shut S) (gX S M) H φ1 S1 H1):
 Step φ S H ⟨φ1.m,φ.ban⟩ (cn S S1) H1/\(∀s v,DV φ1 H1 (Own φ1 S1) s v->DV ⟨φ1.m,φ.ban⟩ H1 (Own ⟨φ1.m,φ.ban⟩ (cn S S1)) s v)/\
 (∀id B x,(cn S S1).get id=some B->φ1 id=some (some x)->(id<S.size/\(∃B,S.get id=some B)/\φ id=some (some x))\/
  (S.size<=id/\id<S1.size/\((H.size<=x/\x<H1.size)\/∃id0 B0,S.get id0=some B0/\hidden (M) id0=false/\φ id0=some (some x)))):=by
 have hSs:S.size<=S1.size:=hst.ssize;have KV:S1.hid=M++S.hid:=hst.zX;have hle:∀id y,φ id=some y->φ1 id=some y:=hst.le;have Ik:φ1.ban=Own φ S:=hst.ban;have hold:∀id B x,S.get id=some B->φ1 id=some (some x)->φ id=some (some x):=fun id B x h1 h2=>Sim.at (S':=S) (φ':=φ1) I.sim hle h1 h2
 have ub:∀id B,(cn S S1).get id=some B->(id<S.size/\hidden (M) id=true/\S.get id=some B)\/(hidden (M) id=false/\S1.get id=some B):=by
  intro id B h;obtain⟨h1,h2⟩:=aj.aM h;have h1:S1.root.get id=some B:=h1;have h2:hidden S.hid id=false:=h2;have hlt:id<S1.size:=aj.ba (S:=cn S S1) h;cases hm:hidden (M) id with
  |false=>exact .inr ⟨rfl,(aj.fN (S:=S1) hlt (by rw[KV];exact j4 hm h2)).trans h1⟩
  |true=>
   have hid:id<S.size:=by
    rcases zci id S.size with h|h
    . exact h
    . rw[hM id h]at hm;cases hm
   refine .inl ⟨hid,rfl, ?_⟩;have hn:(gX S M).get id=none:=by
    cases hg:(gX S M).get id with
    |none=>rfl
    |some C=>rw[(cd hg).2]at hm;cases hm
   have:=hst.pd id hid (.inr hn);rw[aj.fN hid h2];exact this.symm.trans h1
 have adH:∀id B,id<S.size->hidden (M) id=false->S1.get id=some B->∃C,S.get id=some C:=by
  intro id B h1 h2 h3;cases hg:(gX S M).get id with
  |some C=>exact⟨C,(cd hg).1⟩
  |none=>
   have e:=hst.pd id h1 (.inr hg);rw[aj.EC hg h1 hst.zX e]at h3;cases h3
 let φ':Phi:=⟨φ1.m,φ.ban⟩
 have BH:∀x,fE φ' (cn S S1) x->fE φ S x\/fE φ1 S1 x:=by
  rintro x ⟨id,B,h1,h2⟩
  rcases ub id B h1 with⟨_,_,h⟩|⟨_,h⟩
  . exact .inl ⟨id,B,h,hold id B x h h2⟩
  . exact .inr ⟨id,B,h,h2⟩
 have MW:∀id B x,S.get id=some B->hidden (M) id=true->φ id=some (some x)->¬fE (φ.shut S) (gX S M) x:=by
  rintro id B x h1 h2 h3 ⟨id',B',h4,h5⟩
  obtain⟨h6,h7⟩:=cd h4;have:=I.sim.inj id id' B B' x h1 h6 h3 h5;subst this;rw[h7]at h2;cases h2
 have jv:∀x,fE (φ.shut S) (gX S M) x->fE φ S x:=fun x ⟨id,B,h1,h2⟩=>⟨id,B,(cd h1).1,h2⟩
 have adI:∀x,pJ (φ.shut S) (gX S M) x->pJ φ S x:=fun x ⟨id,B,h0,h1,h2⟩=>⟨id,B,h0,(cd h1).1,h2⟩
 have fW:Ext φ H (Own φ S) φ' H1 (Own φ' (cn S S1)):=by
  refine⟨hle,fun x c h1 h2=> ?_,fun id x c' h1 h2=>hst.len x c' (I.sim.lt id x h1) h2⟩;have hlt:=ag.ba h1;refine⟨by rw[hst.fw x hlt (fun h=>h2 (.inr (jv x h.toI)))];exact h1, ?_⟩
  rintro(h|h)
  . exact h2 (.inl h)
  . rcases BH x h with h|h
    . exact h2 (.inr h)
    . exact h2 (.inr (jv x (hst.own x hlt h)))
 have Il:Ext φ1 H1 (Own φ1 S1) φ' H1 (Own φ' (cn S S1)):=by
  refine⟨fun _ _ h=>h,fun x c h1 h2=>⟨h1, ?_⟩,fun id x c' _ h=>⟨c',h,rfl⟩⟩
  rintro(h|h)
  . exact h2 (.inl (by rw[Ik];exact .inl h))
  . rcases BH x h with h|h
    . exact h2 (.inl (by rw[Ik];exact .inr h))
    . exact h2 (.inr h)
 refine⟨⟨⟨?_, ?_,hst.sim.fresh,hst.sim.lt,zaP I.sim.jl hSs,hst.sim.dT,hst.sim.gW⟩,hle,rfl, ?_,fun x hx h=>hst.fw x hx (fun h'=>h (adI x h')),hst.len,hst.ft,hst.dT,hst.gW,hSs,rfl,rfl, ?_⟩,fun s v h=>h.mono Il, ?_⟩
 . intro id B h;rcases ub id B h with⟨hid,hm,h1⟩|⟨hm,h1⟩
   . rcases I.sim.blk id B h1 with h3|⟨x,c,h3,h4,h5,h6⟩
     . exact .inl ⟨hle _ _ h3.1,h3.2⟩
     . exact .inr ⟨x,c,hle _ _ h3,by rw[hst.fw x (ag.ba h4) (fun h=>MW id B x h1 hm h3 h.toI)];exact h4,by rw[hst.dT];exact h5,h6.mono fW⟩
   . rcases hst.sim.blk id B h1 with h3|⟨x,c,h3,h4,h5,h6⟩
     . exact .inl h3
     . exact .inr ⟨x,c,h3,h4,fun hl=>h5 (by rw[hst.jl];exact hl),h6.mono Il⟩
 . intro id id' B B' x h1 h2 h3 h4;have mix:∀id id' B B',S.get id=some B->hidden (M) id=true->φ1 id=some (some x)->S1.get id'=some B'->φ1 id'=some (some x)->False:=by
    intro id id' B B' g1 g2 g3 g4 g5;have g6:=hold id B x g1 g3;exact MW id B x g1 g2 g6 (hst.own x (I.sim.lt id x g6) ⟨id',B',g4,g5⟩)
   rcases ub id B h1 with⟨hid,hm,g1⟩|⟨hm,g1⟩
   . rcases ub id' B' h2 with⟨B3,hm',g2⟩|⟨hm',g2⟩
     . exact I.sim.inj id id' B B' x g1 g2 (hold id B x g1 h3) (hold id' B' x g2 h4)
     . exact(mix id id' B B' g1 hm h3 g2 h4).elim
   . rcases ub id' B' h2 with⟨B3,hm',g2⟩|⟨hm',g2⟩
     . exact(mix id' id B' B g2 hm' h4 g1 h3).elim
     . exact hst.sim.inj id id' B B' x g1 g2 h3 h4
 . intro x hx h;rcases BH x h with h|h
   . exact h
   . exact jv x (hst.own x hx h)
 . intro id h1 h2;refine hst.pd id h1 ?_
   rcases h2 with h2|h2
   . exact .inl h2
   . refine .inr ?_
     cases hg:(gX S M).get id with
     |none=>rfl
     |some C=>rw[(cd hg).1]at h2;cases h2
 . intro id B x h1 h2;rcases ub id B h1 with⟨hid,hm,g1⟩|⟨hm,g1⟩
   . exact .inl ⟨hid,⟨B,g1⟩,hold id B x g1 h2⟩
   . by_cases hid:id<S.size
     . obtain⟨C,g2⟩:=adH id B hid hm g1;exact .inl ⟨hid,⟨C,g2⟩,hold id C x g2 h2⟩
     . refine .inr ⟨by omega,aj.ba g1, ?_⟩;have hlt:=hst.sim.lt id x h2
       by_cases hx:x<H.size
       . obtain⟨id0,B0,g3,g4⟩:=hst.own x hx ⟨id,B,g1,h2⟩;obtain⟨g5,g6⟩:=cd g3;exact .inr ⟨id0,B0,g5,g6,g4⟩
       . exact .inl ⟨by omega,hlt⟩
end
end
end
end Go.Proofs.YtfaojedfnjdnnaaGreat.Ev
namespace Go.Proofs.YtfaojedfnjdnnaaGreat.Ev
noncomputable section
noncomputable section
open Go
section
variable {R : Type} {P : Program} {L : List FuncId} {O : bp} {T : tz} {A : Array Nat} {base : Nat} {φ : Phi} {S : aj} {H : ag} {rsS : List fi} {rsE : List Rec}
theorem w9 {H H':ag} {t:TypeId} {x0 o:Nat} (h:H'.get x0=H.get x0):cL P H' t (.pointer (some ⟨x0,o,none⟩))=cL P H t (.pointer (some ⟨x0,o,none⟩)):=by
 unfold cL cV;simp only[h]
theorem SR.ext {j id:Nat} {a:fi} (h:SR rsS j id):SR (rsS++[a]) j id:=by
 obtain⟨r,h1,h2,h3⟩:=h;exact⟨r,by rw[zax (zao.1 h1).1];exact h1,h2,h3⟩
theorem ER.ext {j x:Nat} {b:Rec} (h:ER rsE j x):ER (rsE++[b]) j x:=by
 obtain⟨r,h1,h2,h3⟩:=h;exact⟨r,by rw[zax (zao.1 h1).1];exact h1,h2,h3⟩
theorem bV {α:Type} {l:List α} {a x:α} {j:Nat} (h:(l++[a])[j]? =some x):(j<l.length/\l[j]? =some x)\/(j=l.length/\x=a):=by
 rw[zaV]at h
 split at h
 . rename_i hj;exact .inl ⟨hj,h⟩
 . rename_i hj;have hlt:=(zao.1 h).1;have:j=l.length:=by simp at hlt;omega
   subst this;simp at h;exact .inr ⟨rfl,h.symm⟩
theorem RI.add (I:RI P A base φ S H rsS rsE) {φ':Phi} {S':aj} {H':ag} {a:fi} {b:Rec} (hst:Step φ S H φ' S' H') (hb0:b.h0=H) (hb1:b.h1=H') (ha0:a.n0=S.size) (ha1:a.n1=S'.size) (hk:kindOk a.kind b.kind)
 (WW:∀id B x,S'.get id=some B->φ' id=some (some x)->(id<S.size/\(∃B,S.get id=some B)/\φ id=some (some x))\/
  (S.size<=id/\id<S'.size/\((H.size<=x/\x<H'.size)\/x<base\/∃m,ER rsE m x/\aX A rsS.length m=true)))
 (hld:a.kind= .load->∃t p,b.ld=some (t,p)/\(sO a.v=true->eqv b.v b.v=true)/\∀y,a.ld=some y->∃x0 o,p= .pointer (some ⟨x0,o,none⟩)/\φ' y=some (some x0)/\(∃B,S'.get y=some B)/\cL P H' t p=some b.v)
 (S5:∀y B x0,S.get y=some B->φ y=some (some x0)->(a.kind= .dj->JR a y=true)->(∃B',S'.get y=some B')/\H'.get x0=H.get x0)
 (hre:∀t p,a.re=some (t,p)->∃pv,b.ld=some (t,pv)/\DV φ' H' (Own φ' S') p pv/\DV φ' H' (Own φ' S') a.v b.v) (hok:∀i∈a.ok,∃b' t pv v,rsE[i]? =some b'/\b'.ld=some (t,pv)/\cL P b.h1 t pv=some v/\eqv b'.v v=true)
 (Im:a.kind= .load->∀y,a.ld=some y->∀(j:Nat) (c:fi) (d:Rec),rsS[j]? =some c->rsE[j]? =some d->y<c.n0->calm rsS j rsS.length y->∃t p,b.ld=some (t,p)/\cL P (Ev.dv d.h0 (aX A rsS.length) (rsE.take j)) t p=some b.v):
 RI P A base φ' S' H' (rsS++[a]) (rsE++[b]):=by
 have hl:=I.len;have WX:=hst.ext I.sim;have Oo:∀(i:Nat) (x:fi) (y:Rec) (t:TypeId) (p:SV),(rsS++[a])[i]? =some x->(rsE++[b])[i]? =some y->x.re=some (t,p)->∃pv,y.ld=some (t,pv)/\DV φ' H' (Own φ' S') p pv/\DV φ' H' (Own φ' S') x.v y.v:=by
  intro i x y t p h1 h2 h3;rcases bV h1 with⟨g1,h1⟩|⟨g1,rfl⟩
  . rcases bV h2 with⟨_,h2⟩|⟨g2,_⟩
    . obtain⟨pv,q1,q2,q3⟩:=I.res i x y t p h1 h2 h3;exact⟨pv,q1,q2.mono WX,q3.mono WX⟩
    . omega
  . rcases bV h2 with⟨g2,_⟩|⟨_,rfl⟩
    . omega
    . exact hre t p h3
 have aak:∀(j:Nat) (c:fi) (d:Rec),(rsS++[a])[j]? =some c->(rsE++[b])[j]? =some d->∀i∈c.ok,i<j/\∃b' t pv v,(rsE++[b])[i]? =some b'/\b'.ld=some (t,pv)/\cL P d.h1 t pv=some v/\eqv b'.v v=true:=by
  intro j c d h1 h2 i hi;have up:∀b',rsE[i]? =some b'->i<rsE.length/\(rsE++[b])[i]? =some b':=fun b' h=>by
   have hlt:=(zao.1 h).1;exact⟨hlt,by rw[zax hlt];exact h⟩
  rcases bV h1 with⟨g1,h1⟩|⟨g1,rfl⟩
  . rcases bV h2 with⟨_,h2⟩|⟨g2,_⟩
    . obtain⟨q0,b',t,pv,v,q1,q2⟩:=I.oks j c d h1 h2 i hi;exact⟨q0,b',t,pv,v,(up b' q1).2,q2⟩
    . omega
  . rcases bV h2 with⟨g2,_⟩|⟨_,rfl⟩
    . omega
    . obtain⟨b',t,pv,v,q1,q2⟩:=hok i hi;exact⟨by have:=(up b' q1).1;omega,b',t,pv,v,(up b' q1).2,q2⟩
 have adJ:∀(j:Nat) (c:fi) (d:Rec),(rsS++[a])[j]? =some c->(rsE++[b])[j]? =some d->∀y B x0,S'.get y=some B->φ' y=some (some x0)->y<c.n0->calm (rsS++[a]) j (rsS++[a]).length y->d.h0.get x0=H'.get x0:=by
  intro j c d h1 h2 y B x0 hB hx hy hc;have hj:j<=rsS.length:=by
   have:=(zao.1 h1).1;simp at this;omega
  have hold:y<S.size->(∃B0,S.get y=some B0)/\φ y=some (some x0):=by
   intro hlt;rcases WW y B x0 hB hx with⟨_,g2,g3⟩|⟨g1,_⟩
   . exact⟨g2,g3⟩
   . omega
  have adK:y<S.size->H'.get x0=H.get x0:=by
   intro hlt;obtain⟨⟨B0,g1⟩,g2⟩:=hold hlt;exact(S5 y B0 x0 g1 g2 (fun hl2=>hc rsS.length a hj (by simp) (by simp) hl2)).2
  rcases bV h1 with⟨g1,h1⟩|⟨g1,rfl⟩
  . rcases bV h2 with⟨_,h2⟩|⟨g2,_⟩
    . have hs:=I.ssz j c h1;have hlt:y<S.size:=by omega
      obtain⟨⟨B0,g3⟩,g4⟩:=hold hlt;rw[adK hlt];exact I.back j c d h1 h2 y B0 x0 g3 g4 hy (fun m q e1 e2 e3 e4=>hc m q e1 (by simp;omega) (by rw[zax (zao.1 e3).1];exact e3) e4)
    . omega
  . rcases bV h2 with⟨g2,_⟩|⟨_,rfl⟩
    . omega
    . rw[hb0];exact(adK (by rw[<-ha0];exact hy)).symm
 have aal:∀(i:Nat) (x:fi) (y:Rec),(rsS++[a])[i]? =some x->(rsE++[b])[i]? =some y->x.kind= .load->∀z,x.ld=some z->∀(j:Nat) (c:fi) (d:Rec),j<i->(rsS++[a])[j]? =some c->(rsE++[b])[j]? =some d->z<c.n0->calm (rsS++[a]) j i z->
  ∃t p,y.ld=some (t,p)/\cL P (Ev.dv d.h0 (aX A i) ((rsE++[b]).take j)) t p=some y.v:=by
  intro i x y h1 h2 hk2 z hz j c d hji h3 h4 hlt hc;have hi:i<=rsS.length:=by
   have:=(zao.1 h1).1;simp at this;omega
  have tk:(rsE++[b]).take j=rsE.take j:=zb1 (by omega);rw[tk];have h5:rsS[j]? =some c:=by
   rcases bV h3 with⟨_,h⟩|⟨h,_⟩
   . exact h
   . omega
  have h6:rsE[j]? =some d:=by
   rcases bV h4 with⟨_,h⟩|⟨h,_⟩
   . exact h
   . omega
  have hc':∀k,k<=i->calm rsS j k z:=fun k hk m q e1 e2 e3 e4=>hc m q e1 (by omega) (by rw[zax (zao.1 e3).1];exact e3) e4
  rcases bV h1 with⟨g1,h1⟩|⟨g1,rfl⟩
  . rcases bV h2 with⟨_,h2⟩|⟨g2,_⟩
    . exact I.Su i x y h1 h2 hk2 z hz j c d hji h5 h6 hlt (hc' i (zap _))
    . omega
  . rcases bV h2 with⟨g2,_⟩|⟨_,rfl⟩
    . omega
    . subst g1;exact Im hk2 z hz j c d h5 h6 hlt (hc' _ (zap _))
 refine⟨hst.sim,by simp[hl], ?_, ?_, ?_, ?_,zaP I.O8 hst.ft, ?_, ?_,Oo,adJ,aal,aak⟩
 . intro id B x h1 h2;rcases WW id B x h1 h2 with⟨_,⟨B0,g2⟩,g3⟩|⟨g1,g2,g3⟩
   . rcases I.Od id B0 x g2 g3 with h|⟨j,m,h3,h4,h5⟩
     . exact .inl h
     . exact .inr ⟨j,m,h3.ext,h4.ext,h5⟩
   . have fk:SR (rsS++[a]) rsS.length id:=⟨a,by simp,by rw[ha0];exact g1,by rw[ha1];exact g2⟩
     rcases g3 with g3|g3|⟨m,g3,g4⟩
     . exact .inr ⟨rsS.length,rsS.length,fk,⟨b,by rw[hl];simp,by rw[hb0];exact g3.1,by rw[hb1];exact g3.2⟩,.inl rfl⟩
     . exact .inl g3
     . exact .inr ⟨rsS.length,m,fk,g3.ext,.inr g4⟩
 . intro j r h;rcases bV h with⟨_,h⟩|⟨_,rfl⟩
   . obtain⟨h1,h2,h3⟩:=I.esz j r h;exact⟨h1,h2,zaP h3 hst.ft⟩
   . rw[hb0,hb1];exact⟨I.O8,hst.ft,zap _⟩
 . intro j j' r r' hjj h h';rcases bV h' with⟨hlt,h'⟩|⟨_,rfl⟩
   . rcases bV h with⟨_,h⟩|⟨h0,_⟩
     . exact I.Md j j' r r' hjj h h'
     . omega
   . rcases bV h with⟨_,h⟩|⟨h0,_⟩
     . rw[hb0];exact(I.esz j r h).2.2
     . omega
 . intro j r h;rcases bV h with⟨_,h⟩|⟨_,rfl⟩
   . exact⟨zaP (I.ssz j r h).1 hst.ssize,zaP (I.ssz j r h).2 hst.ssize⟩
   . exact⟨by rw[ha0];exact hst.ssize,by rw[ha1];exact zap _⟩
 . intro j x y h1 h2;rcases bV h1 with⟨g1,h1⟩|⟨g1,rfl⟩
   . rcases bV h2 with⟨_,h2⟩|⟨g2,_⟩
     . exact I.kinds j x y h1 h2
     . omega
   . rcases bV h2 with⟨g2,_⟩|⟨_,rfl⟩
     . omega
     . exact hk
 . intro i x y h1 h2 hkl;rcases bV h1 with⟨g1,h1⟩|⟨g1,rfl⟩
   . rcases bV h2 with⟨_,h2⟩|⟨g2,_⟩
     . obtain⟨t,p,e1,e2,e3⟩:=I.Lw i x y h1 h2 hkl;refine⟨t,p,e1,e2,fun z hz=> ?_⟩;obtain⟨x0,o,rfl,e4,e5,e6⟩:=e3 z hz;have key:calm (rsS++[a]) i rsS.length z->(∃B,S'.get z=some B)/\cL P H' t (.pointer (some ⟨x0,o,none⟩))=some y.v:=by
        intro hc;have hc':calm rsS i rsS.length z:=fun j c h1 h2 h3 h4=>hc j c h1 h2 (by rw[zax (zao.1 h3).1];exact h3) h4
        obtain⟨⟨B,f1⟩,f2⟩:=e5 hc';obtain⟨f3,f4⟩:=S5 z B x0 f1 e4 (fun hl=>hc rsS.length a (by omega) (zap _) (by simp) hl);exact⟨f3,by rw[w9 f4];exact f2⟩
       refine⟨x0,o,rfl,hst.le _ _ e4,fun hc=>key (fun j c h1 h2 h3 h4=>hc j c h1 (by simp;omega) h3 h4),fun k d hik hd hc=> ?_⟩;rcases bV hd with⟨f1,hd⟩|⟨f1,rfl⟩
       . exact e6 k d hik hd (fun j c h1 h2 h3 h4=>hc j c h1 h2 (by rw[zax (zao.1 h3).1];exact h3) h4)
       . rw[hb1];exact(key (fun j c h1 h2 h3 h4=>hc j c h1 (by omega) h3 h4)).2
     . omega
   . rcases bV h2 with⟨g2,_⟩|⟨_,rfl⟩
     . omega
     . obtain⟨t,p,e1,e2,e3⟩:=hld hkl;refine⟨t,p,e1,e2,fun z hz=> ?_⟩;obtain⟨x0,o,e4,e5,e6,e7⟩:=e3 z hz;refine⟨x0,o,e4,e5,fun _=>⟨e6,e7⟩,fun k d hik hd _=> ?_⟩;have:=(zao.1 hd).1;simp at this;omega
theorem RI.same (I:RI P A base φ S H rsS rsE) {a:fi} {b:Rec} (hb0:b.h0=H) (hb1:b.h1=H) (ha0:a.n0=S.size) (ha1:a.n1=S.size) (hk:kindOk a.kind b.kind) (hnl:a.kind≠.dj)
 (hld:a.kind= .load->∃t p,b.ld=some (t,p)/\(sO a.v=true->eqv b.v b.v=true)/\∀y,a.ld=some y->∃x0 o,p= .pointer (some ⟨x0,o,none⟩)/\φ y=some (some x0)/\(∃B,S.get y=some B)/\cL P H t p=some b.v)
 (hre:∀t p,a.re=some (t,p)->∃pv,b.ld=some (t,pv)/\DV φ H (Own φ S) p pv/\DV φ H (Own φ S) a.v b.v) (hok:a.ok=[])
 (Im:a.kind= .load->∀y,a.ld=some y->∀(j:Nat) (c:fi) (d:Rec),rsS[j]? =some c->rsE[j]? =some d->y<c.n0->calm rsS j rsS.length y->∃t p,b.ld=some (t,p)/\cL P (Ev.dv d.h0 (aX A rsS.length) (rsE.take j)) t p=some b.v):
 RI P A base φ S H (rsS++[a]) (rsE++[b]):=
 I.add (Step.refl I.sim) hb0 hb1 ha0 ha1 hk (fun id B x h1 h2=> .inl ⟨aj.ba h1,⟨B,h1⟩,h2⟩) hld (fun y B x0 h1 _ _=>⟨⟨B,h1⟩,rfl⟩) hre (fun i hi=>by rw[hok]at hi;cases hi) Im
theorem OH {own:Nat->Prop} {s:SV} {v:Value} (hv:DV φ H own s v) (h:Hb s=true):eqc v v=true:=by
 cases hv<;>simp_all [Hb,eqc]
theorem Cc:∀{vs:List Value},(∀v∈vs,eqc v v=true)->BT vs vs=true
 |[],_=>rfl
 |v::vs,h=>by
  simp only[BT,zae];exact⟨h v (by simp),Cc (fun u hu=>h u (by simp[hu]))⟩
theorem PE {own:Nat->Prop} {s:SV} {v:Value} (hv:DV φ H own s v) (h:sO s=true):eqv v v=true:=by
 cases hv with
 |agg l x' hx vx=>
  simp only[sO,zam]at h;simp only[eqv];refine Cc fun u hu=> ?_
  obtain⟨i,hi⟩:=zbK hu;have hlt:i<l.length:=by
   have:=(zao.1 hi).1;simp at this;omega
  have h1:=zah hlt;exact OH (vx i _ u h1 (by simpa using hi)) (h _ (zaQ h1))
 |_=>simp_all [sO,Hb,eqv,eqc]
theorem HF {own:Nat->Prop} {p:SV} {v:Value} {y:Nat} (hp:DV φ H own p v) (h:rq p=some y):∃x0 o,v= .pointer (some ⟨x0,o,none⟩)/\φ y=some (some x0):=by
 unfold rq at h
 split at h
 . cases h;cases hp with
   |ptr _ _ _ _ x hx=>exact⟨x,_,rfl,hx⟩
 . cases h
theorem zk {t:TypeId} {p:SV} {k:SV->Option R} {r:R} {y:Nat} (h:xv P S t p k=some r) (hy:rq p=some y):∃B,S.get y=some B:=by
 unfold rq at hy
 split at hy
 . cases hy;unfold xv at h
   split at h
   . unfold Lz at h;simp only at h
     split at h
     . exact⟨_,by assumption⟩
     . exact⟨_,by assumption⟩
     . exact⟨_,by assumption⟩
     . cases h
   . cases h
 . cases hy
theorem BZ {p:Nat->Bool} {t u:TypeId} {s x v:Value} {H2:ag} (h:eg P (dv H p rsE) t u s x=some (v,H2)):eg P H t u s x=some (v,cW H H2):=by
 have hc:∀b off n cs,cV (dv H p rsE) b off n=some cs->cV H b off n=some cs:=by
  intro b off n cs hg;unfold cV at hg⊢;cases hb:(dv H p rsE).get b with
  |none=>simp[hb]at hg
  |some q=>rw[(oz hb).1];simpa[hb]using hg
 have hs:∀size n x cs,bg (dv H p rsE) size n x=some cs->bg H size n x=some cs:=by
  intro size n x cs h;unfold bg at h⊢
  split at h
  . exact h
  . exact hc _ _ _ _ h
  . cases h
 have mJ:∀b off vs H',setCells (dv H p rsE) b off vs=some H'->False:=by
  intro b off vs H' h;unfold setCells at h
  split at h
  . rename_i k hk;have hlt:b<H.size:=ag.ba (H:=dv H p rsE) hk
    split at h
    . rename_i hm;simp only[zae,aO]at hm;have:H.size<=b:=hm.1.1;omega
    . cases h
  . cases h
 unfold eg at h⊢
 split at h
 . rename_i htu;rw[if_pos htu]
   split at h
   . rename_i elem base sLen sCap a n c hu
     try simp only[hu]
     split at h
     . rename_i i hi
       try simp only[hi]
       split at h
       . rename_i z hz
         try simp only[hz]
         split at h
         . rename_i zc new hzc fk
           try simp only[hzc,hs _ _ _ _ fk]
           split at h
           . rename_i eK;rw[if_pos eK]
             split at h
             . cases h;rfl
             . split at h
               . cases h;rfl
               . rename_i b off sp
                 split at h
                 . rename_i hd;simp only[zai]at h;obtain⟨H',h1,_⟩:=h;exact(mJ _ _ _ _ h1).elim
                 . rename_i hd
                   try simp only[hd]
                   split at h
                   . rename_i old hold
                     try simp only[hs _ _ _ _ hold]
                     split at h
                     . split at h
                       . rename_i k hk;have hlt:b<H.size:=ag.ba (H:=dv H p rsE) hk
                         split at h
                         . rename_i hm;simp only[zae,aO]at hm;have:H.size<=b:=hm.1.1.1.1;omega
                         . cases h
                       . cases h
                     . cases h;rfl
                   . cases h
           . cases h
         . cases h
       . cases h
     . cases h
   . cases h
 . rename_i htu;rw[if_neg htu];unfold AH at h⊢
   split at h
   . rename_i hu hun
     try simp only[hu,hun]
     split at h
     . rename_i i hi
       try simp only[hi]
       split at h
       . rename_i z hz
         try simp only[hz]
         split at h
         . rename_i zc hzc
           try simp only[hzc]
           split at h
           . rename_i eK;rw[if_pos eK]
             split at h
             . cases h;rfl
             . cases h;rfl
           . cases h
         . cases h
       . cases h
     . cases h
   . cases h
theorem tK {p:Nat->Bool} {cl:Cl} {ρ:Operand->Option Value} {o:Oper} (ha:kM o=true) {v:Value} {H2:ag} (h:opE P cl ρ o (dv H p rsE)=some (v,H2)):opE P cl ρ o H=some (v,cW H H2):=by
 unfold kM at ha
 split at ha
 . rename_i c hc;unfold opE at h⊢;rw[hc]at h⊢
   split at ha
   . rename_i hb
     try simp only[hb]at h⊢
     split at h
     . rename_i args tZ
       try simp only[jh]at h⊢
       split at h
       . exact BZ h
       . cases h
     . cases h
   . cases ha
 . cases ha
theorem wP {own:Nat->Prop} {a b:SV} {u v:Value} {x:Option R} {r:R} (ha:DV φ H own a u) (hb:DV φ H own b v) (h:Mr a b x=some r):x=some r/\eqc u v=true:=by
 unfold Mr at h
 split at h
 . split at h
   . rename_i n k' m bb hk;cases ha;cases hb
     by_cases e:n=m
     . subst e;rw[zaa rfl,zaw]at h;exact⟨h,by simp only[eqc,hk,zbb,beq_self_eq_true]⟩
     . rw[zan e,zal]at h;cases h
   . cases h
 . cases ha;cases hb;rename_i x y;cases x<;>cases y<;>simp at h<;>exact⟨h,rfl⟩
 . cases h
theorem w5 {own:Nat->Prop}:∀{l m:List SV} {us vs:List Value} {x:Option R} {r:R},us.length=l.length->(∀(i:Nat) s u,l[i]? =some s->us[i]? =some u->DV φ H own s u)->vs.length=m.length->(∀(i:Nat) s v,m[i]? =some s->vs[i]? =some v->DV φ H own s v)->CL l m x=some r->x=some r/\BT us vs=true
 |[],[],us,vs,x,r,h1,_,h2,_,h=>by
  rw[zaB h1,zaB h2];exact⟨h,rfl⟩
 |a::l,b::m,u::us,v::vs,x,r,h1,g1,h2,g2,h=>by
  unfold CL at h;obtain⟨h3,h4⟩:=wP (g1 0 a u rfl rfl) (g2 0 b v rfl rfl) h;obtain⟨h5,h6⟩:=w5 (by simpa using h1) (fun i s w e1 e2=>g1 (i+1) s w e1 e2) (by simpa using h2) (fun i s w e1 e2=>g2 (i+1) s w e1 e2) h3;exact⟨h5,by simp only[BT,h4,h6,zck]⟩
 |[],_::_,_,_,_,_,_,_,_,_,h=>by simp[CL]at h
 |_::_,[],_,_,_,_,_,_,_,_,h=>by simp[CL]at h
 |_::_,_::_,[],_,_,_,h1,_,_,_,_=>by simp at h1
 |_::_,_::_,_::_,[],_,_,_,_,h2,_,_=>by simp at h2
theorem O9 {u v:Value} (h:eqc u v=true):eqv u v=true:=by
 unfold eqv
 split
 . simp[eqc]at h
 . exact h
theorem Hr {own:Nat->Prop} {a b:SV} {u v:Value} {x:Option R} {r:R} (ha:DV φ H own a u) (hb:DV φ H own b v) (h:Q7 a b x=some r):x=some r/\eqv u v=true:=by
 unfold Q7 at h
 split at h
 . split at h
   . cases ha with
     |agg l x1 hx vx=>
     cases hb with
     |agg m x2 hy vy=>
     exact w5 (by simpa using hx.symm) (fun i s u e1 e2=>vx i s u e1 (by simpa using e2)) (by simpa using hy.symm) (fun i s u e1 e2=>vy i s u e1 (by simpa using e2)) h
   . cases h
 . obtain⟨h1,h2⟩:=wP ha hb h;exact⟨h1,O9 h2⟩
theorem qC {φ':Phi} {S':aj} {H':ag} (I:RI P A base φ S H rsS rsE) (he:Ext φ H (Own φ S) φ' H' (Own φ' S')) (hS:Sim φ' S' H') {j:Nat} {M:List (Nat × Nat)}:∀{l:List fi} {i:Nat} {k:List Nat->Option R} {r:R},l=rsS.drop i->reS P S' A j M l i k=some r->
 ∃oks,k oks=some r/\∀m∈oks,∃b t pv v,rsE[m]? =some b/\b.ld=some (t,pv)/\cL P H' t pv=some v/\eqv b.v v=true
 |[],i,k,r,_,h=>⟨[],h,fun m hm=>by cases hm⟩
 |a::l,i,k,r,hl,h=>by
  have ha:rsS[i]? =some a:=by
   have:(rsS.drop i)[0]? =some a:=by rw[<-hl];rfl
   rwa [zaA,zbc]at this
  have hl':l=rsS.drop (i+1):=by rw[<-zcb,<-hl];rfl
  unfold reS at h
  split at h
  . rename_i t p hre
    split at h
    . exact qC I he hS hl' h
    . have hi:i<rsE.length:=by rw[<-I.len];exact(zao.1 ha).1
      obtain⟨pv,q1,q2,q3⟩:=I.res i a _ t p ha (zah hi) hre;obtain⟨s,u,g1,g2,g3⟩:=m5 hS (q2.mono he) h;obtain⟨h5,h6⟩:=Hr (q3.mono he) g2 g3;obtain⟨oks,h7,h8⟩:=qC I he hS hl' h5;refine⟨i::oks,h7,fun m hm=> ?_⟩;rcases zaN.1 hm with rfl|hm
      . exact⟨_,t,pv,u,zah hi,q1,g1,h6⟩
      . exact h8 m hm
  . exact qC I he hS hl' h
theorem Nc {φ':Phi} {S':aj} {H':ag} (I:RI P A base φ S H rsS rsE) (he:Ext φ H (Own φ S) φ' H' (Own φ' S')) (hS:Sim φ' S' H') {j:Nat} {M:List (Nat × Nat)} {o:Oper} {k:List Nat->Option R} {r:R} (h:reL P S' A j M o rsS k=some r):
 ∃oks,k oks=some r/\∀m∈oks,∃b t pv v,rsE[m]? =some b/\b.ld=some (t,pv)/\cL P H' t pv=some v/\eqv b.v v=true:=by
 unfold reL at h
 split at h
 . exact⟨[],h,fun m hm=>by cases hm⟩
 . exact qC I he hS (by simp) h
theorem Step.Gj {b:Nat->Prop} (hb:∀x,φ.ban x->b x) {φ':Phi} {S':aj} {H':ag} (hst:Step ⟨φ.m,b⟩ S H φ' S' H'):
 Step φ S H ⟨φ'.m,φ.ban⟩ S' H'/\∀s v,DV φ' H' (Own φ' S') s v->DV ⟨φ'.m,φ.ban⟩ H' (Own ⟨φ'.m,φ.ban⟩ S') s v:=by
 have fW:Ext φ' H' (Own φ' S') ⟨φ'.m,φ.ban⟩ H' (Own ⟨φ'.m,φ.ban⟩ S'):=by
  refine⟨fun _ _ h=>h,fun x c h1 h2=>⟨h1,fun h=>h2 ?_⟩,fun id x c' _ h=>⟨c',h,rfl⟩⟩;rcases h with h|h
  . exact .inl (by rw[hst.ban];exact hb x h)
  . exact .inr h
 refine⟨⟨⟨?_,hst.sim.inj,hst.sim.fresh,hst.sim.lt,hst.sim.jl,hst.sim.dT,hst.sim.gW⟩,hst.le,rfl,hst.own,hst.fw,hst.len,hst.ft,hst.dT,hst.gW,hst.ssize,hst.jl,hst.zX,hst.pd⟩,fun s v h=>h.mono fW⟩;intro id B h;rcases hst.sim.blk id B h with h3|⟨x,c,h3,h4,h5,h6⟩
 . exact .inl h3
 . exact .inr ⟨x,c,h3,h4,h5,h6.mono fW⟩
theorem Sim.Gj (hS:Sim φ S H) {b:Nat->Prop} (hb:∀x,b x->φ.ban x\/H.size<=x):
 Ext φ H (Own φ S) ⟨φ.m,b⟩ H (Own ⟨φ.m,b⟩ S)/\Sim ⟨φ.m,b⟩ S H:=by
 have fW:Ext φ H (Own φ S) ⟨φ.m,b⟩ H (Own ⟨φ.m,b⟩ S):=by
  refine⟨fun _ _ h=>h,fun x c h1 h2=>⟨h1,fun h=> ?_⟩,fun id x c' _ h=>⟨c',h,rfl⟩⟩;have hlt:=ag.ba h1;rcases h with h|h
  . rcases hb x h with h|h
    . exact h2 (.inl h)
    . omega
  . exact h2 (.inr h)
 refine⟨fW,⟨?_,hS.inj,hS.fresh,hS.lt,hS.jl,hS.dT,hS.gW⟩⟩;intro id B h;rcases hS.blk id B h with h3|⟨x,c,h3,h4,h5,h6⟩
 . exact .inl h3
 . exact .inr ⟨x,c,h3,h4,h5,h6.mono fW⟩
theorem wQ {cx:tV R} (hT:fC P L O T) (hcx:qP P L O cx) {ops:Array Oper} (htr:yK A ops.size) {b0:Nat->Prop}:∀{l:List Oper} {i:Nat} {fr:List SV} {S:aj} {rsS:List fi} {k:SSt->Option R} {r:R} {φ:Phi} {H:ag} {rsE:List Rec} {fv:List Value},
 mV P L T cx ops A l i ⟨fr,S⟩ rsS k=some r->RI P A base φ S H rsS rsE->DVL φ H (Own φ S) fr fv->rsS.length=i->i+l.length=ops.size->
 ((∀o∈l,ff L o= .pure)\/∀x,base<=x->φ.ban x)->(∀x,b0 x->φ.ban x)->NBh ⟨φ.m,b0⟩ S H->
 ∃φ' fr' S' fv' H' rsS' rsE',k ⟨fr',S'⟩=some r/\RI P A base φ' S' H' rsS' rsE'/\Step ⟨φ.m,b0⟩ S H ⟨φ'.m,b0⟩ S' H'/\DVL ⟨φ'.m,b0⟩ H' (Own ⟨φ'.m,b0⟩ S') fr' fv'/\uz A (fK ops) rsS'=true/\
  ∃N,fM P L (bJ P L O N) ops A l i ⟨fv,H⟩ rsE=some (⟨fv',H'⟩,rsE')
 |[],i,fr,S,rsS,k,r,φ,H,rsE,fv,h,I,hf,hi,hn,hpv,hbb,hnb=>by
  unfold mV at h
  split at h
  . rename_i hl;obtain⟨he,hs⟩:=I.sim.Gj (b:=b0) fun x hx=> .inl (hbb x hx)
    exact⟨φ,fr,S,fv,H,rsS,rsE,h,I,Step.refl hs,hf.mono he,hl,0,rfl⟩
  . cases h
 |o::l,i,fr,S,rsS,k,r,φ,H,rsE,fv,h,I,hf,hi,hn,hpv,hbb,hnb=>by
  unfold mV at h;have Ou:i<ops.size:=by simp at hn;omega
  have hlen:rsS.length<=ops.size:=by omega
  have WY:∀{φ1:Phi} {fr1:List SV} {S1:aj} {H1:ag} {fv1:List Value} {a:fi} {b:Rec},RI P A base φ1 S1 H1 (rsS++[a]) (rsE++[b])->Step ⟨φ.m,b0⟩ S H ⟨φ1.m,b0⟩ S1 H1->DVL φ1 H1 (Own φ1 S1) fr1 fv1->
   ((∀o∈l,ff L o= .pure)\/∀x,base<=x->φ1.ban x)->(∀x,b0 x->φ1.ban x)->
   (∃N,fq P L (bJ P L O N) ops A i o ⟨fv,H⟩ rsE=some b)->b.h1=H1->fv1=iR fv o.dst b.v->mV P L T cx ops A l (i+1) ⟨fr1,S1⟩ (rsS++[a]) k=some r->
   ∃φ' fr' S' fv' H' rsS' rsE',k ⟨fr',S'⟩=some r/\RI P A base φ' S' H' rsS' rsE'/\Step ⟨φ.m,b0⟩ S H ⟨φ'.m,b0⟩ S' H'/\DVL ⟨φ'.m,b0⟩ H' (Own ⟨φ'.m,b0⟩ S') fr' fv'/\uz A (fK ops) rsS'=true/\
    ∃N,fM P L (bJ P L O N) ops A (o::l) i ⟨fv,H⟩ rsE=some (⟨fv',H'⟩,rsE'):=by
   rintro φ1 fr1 S1 H1 fv1 a b I1 hst hf1 hp1 hb1 ⟨N,ri⟩ rfl rfl hd
   obtain⟨φ',fr',S',fv',H',rsS',rsE',g1,g2,g3,g4,g5,M,g6⟩:=wQ hT hcx htr hd I1 hf1 (by simp[hi]) (by simp at hn⊢;omega) hp1 hb1 (hnb.step hst);refine⟨φ',fr',S',fv',H',rsS',rsE',g1,g2,hst.trans g3,g4,g5,max N M, ?_⟩;rw[fM,sx (dR (Nat.le_max_left N M)) ri];exact lL (dR (Nat.le_max_right N M)) g6
  have step:∀{φ1:Phi} {fr1:List SV} {S1:aj} {H1:ag} {fv1:List Value} {a:fi} {b:Rec},RI P A base φ1 S1 H1 (rsS++[a]) (rsE++[b])->Step φ S H φ1 S1 H1->DVL φ1 H1 (Own φ1 S1) fr1 fv1->
   (∃N,fq P L (bJ P L O N) ops A i o ⟨fv,H⟩ rsE=some b)->b.h1=H1->fv1=iR fv o.dst b.v->mV P L T cx ops A l (i+1) ⟨fr1,S1⟩ (rsS++[a]) k=some r->
   ∃φ' fr' S' fv' H' rsS' rsE',k ⟨fr',S'⟩=some r/\RI P A base φ' S' H' rsS' rsE'/\Step ⟨φ.m,b0⟩ S H ⟨φ'.m,b0⟩ S' H'/\DVL ⟨φ'.m,b0⟩ H' (Own ⟨φ'.m,b0⟩ S') fr' fv'/\uz A (fK ops) rsS'=true/\
    ∃N,fM P L (bJ P L O N) ops A (o::l) i ⟨fv,H⟩ rsE=some (⟨fv',H'⟩,rsE'):=by
   intro φ1 fr1 S1 H1 fv1 a b I1 hst hf1 ri hb hfv hd;refine WY I1 (Step.Gj (φ:=⟨φ.m,b0⟩) (b:=φ.ban) hbb hst).1 hf1 ?_ (fun x hx=>by rw[hst.ban];exact hbb x hx) ri hb hfv hd;rcases hpv with hp|hp
   . exact .inl fun o ho=>hp o (zay _ ho)
   . exact .inr fun x hx=>by rw[hst.ban];exact hp x hx
  have Ot:ff L o≠.pure->∀x,base<=x->φ.ban x:=fun hk=>hpv.resolve_left fun h=>hk (h o (by simp))
  obtain⟨fr1,hf1,⟨hw,h⟩|⟨hw,h⟩⟩:=y7 hf h
  . have hρ:∀x s,js fr1 x=some s->∃v,dV fv x=some v/\DV φ H (Own φ S) s v:=fun x s hs=>kS hf1 hs
    split at h
    ·
     rename_i hk;obtain⟨s,S1,v,H1,⟨N,ho⟩,_,Io,hd,_⟩:=lX (L:=L) hT hcx I.sim hρ (fun hp=>absurd hk hp) h;obtain⟨rfl,hv⟩:=Io hk;exact step (a:=⟨.pure,S1.size,S1.size,none,none,.any,none,[],[]⟩) (b:=⟨.pure,v,H,H,none⟩) (I.same rfl rfl rfl rfl trivial (by simp) (fun h=>by cases h) (fun _ _ h=>by cases h) rfl (fun h=>by cases h)) (Step.refl I.sim) (jq hf1 o.dst hv) ⟨N,by unfold fq;simp only[hw,hk,ho]⟩ rfl rfl hd
    ·
     rename_i hk
     split at h
     . rename_i t a hop
       split at h
       . rename_i p hp;obtain⟨pv,hpv,hdp⟩:=hρ a p hp;obtain⟨he,hs⟩:=I.dv (Ot (by rw[hk];exact fun h=>by cases h)) htr Ou hlen;obtain⟨s,u,g1,g2,g3⟩:=m5 hs (hdp.mono he) h;have MX:cL P H t pv=some u/\DV φ H (Own φ S) s u:=by
          have fJ:cL P H t pv=some u:=by
           unfold cL at g1⊢
           split at g1
           . split at g1
             . rename_i hu hinf;have hc:∀b off n cs,cV (Ev.dv H (aX A i) rsE) b off n=some cs->cV H b off n=some cs:=by
                intro b off n cs hg;unfold cV at hg⊢;cases hb:(Ev.dv H (aX A i) rsE).get b with
                |none=>simp[hb]at hg
                |some q=>rw[(oz hb).1];simpa[hb]using hg
               split at g1
               . rename_i ha
                 try simp only[ha]
                 simp only[zai]at g1⊢;obtain⟨cs,c1,c2⟩:=g1;exact⟨cs,hc _ _ _ _ c1,c2⟩
               . rename_i ha
                 try simp only[ha]
                 split at g1
                 . rename_i hcs;rw[hc _ _ _ _ hcs];exact g1
                 . cases g1
             . cases g1
           . cases g1
          refine⟨fJ,DV.mono (φ:=φ.shut S) (φ':=φ) (H':=H) (own':=Own φ S) ⟨fun _ _ h=>h,fun x c h1 h2=>⟨(oz h1).1,fun h3=>h2 (.inl h3)⟩,fun id x c' _ h=>⟨c',h,rfl⟩⟩ g2⟩
         have Im:∀y,rq p=some y->∀(j:Nat) (c:fi) (d:Rec),rsS[j]? =some c->rsE[j]? =some d->y<c.n0->calm rsS j rsS.length y->∃t' p',some (t,pv)=some (t',p')/\cL P (Ev.dv d.h0 (aX A rsS.length) (rsE.take j)) t' p'=some u:=by
          intro y hy j c d hc hd hlt BI;obtain⟨x0,o',e1,e2⟩:=HF hdp hy;obtain⟨B,hB⟩:=zk h hy;obtain⟨hB1,hB2⟩:=fZ hB;have hv:=I.seen htr Ou hlen hB1 hB2 e2;have hbk:=I.back j c d hc hd y B x0 hB1 e2 hlt BI;refine⟨t,pv,rfl, ?_⟩;subst e1;rw[w9 (H:=Ev.dv H (aX A i) rsE) ?_]
          . exact g1
          . rcases I.sim.blk y B hB1 with⟨q1,_⟩|⟨x1,cc,q1,q2,_⟩
            . rw[e2]at q1;cases q1
            . rw[e2]at q1;cases q1;rw[v9 q2 hv,hi];exact v9 (by rw[hbk];exact q2) (GD hv)
         exact step (a:=⟨.load,S.size,S.size,rq p,none,s,some (t,p),[],[]⟩) (b:=⟨.load,u,H,H,some (t,pv)⟩) (I.same rfl rfl rfl rfl trivial (by simp) (fun _=>⟨t,pv,rfl,fun Ip=>PE MX.2 Ip,fun y hy=>by
          obtain⟨x0,o,e1,e2⟩:=HF hdp hy;refine⟨x0,o,e1,e2, ?_,MX.1⟩;obtain⟨B,hB⟩:=zk h hy;exact⟨B,(fZ hB).1⟩⟩) (fun t' p' h=>by cases h;exact⟨pv,rfl,hdp,MX.2⟩) rfl (fun _ y hy j c d hc hd hlt BI=>Im y hy j c d hc hd hlt BI)) (Step.refl I.sim) (jq hf1 o.dst MX.2) ⟨0,by unfold fq;simp only[hw,hk,hop,hpv,g1]⟩ rfl rfl g3
       . cases h
     . cases h
    ·
     rename_i hk
     split at h
     . obtain⟨he,hs⟩:=I.dv (Ot (by rw[hk];exact fun h=>by cases h)) htr Ou hlen;obtain⟨s,S1,v,H1,⟨N,ho⟩,⟨φ1,hst,hv⟩,_,hd,_⟩:=lX (L:=L) hT hcx hs (fun x s hs=>by
        obtain⟨v,h1,h2⟩:=hρ x s hs;exact⟨v,h1,h2.mono he⟩) (fun _ e=>absurd e (tL _ _ _ _)) h
       have hfr:=qm (GU hT.1 N) ho;obtain⟨u1,u2,u3,u4,u5⟩:=I.cW hst hfr;have fW:=u1.ext I.sim;refine step (φ1:=⟨φ1.m,φ.ban⟩) (S1:=cn S S1) (H1:=Ev.cW H H1) (a:=⟨.quiet,S.size,S1.size,none,none,.any,none,[],[]⟩) (b:=⟨.quiet,v,H,Ev.cW H H1,none⟩) ?_ u1 (jq (hf1.mono fW) o.dst (u2 s v hv)) ⟨N,by unfold fq;simp only[hw,hk,ho]⟩ rfl rfl hd;refine I.add u1 rfl rfl rfl rfl trivial (fun id B x h1 h2=> ?_) (fun h=>by cases h) (fun y B x0 h1 h2 _=>⟨⟨B,by rw[u5 y (aj.ba h1)];exact h1⟩,u3 x0 (I.sim.lt y x0 h2)⟩) (fun _ _ h=>by cases h) (fun _ h=>by cases h) (fun h=>by cases h);rcases u4 id B x h1 h2 with⟨g1,g2,g3⟩|⟨g1,g2,g3,g4⟩
       . exact .inl ⟨g1,⟨B,g2⟩,g3⟩
       . exact .inr ⟨g1,g2,.inl ⟨g3,g4⟩⟩
     ·
      rename_i hq;obtain⟨he,hs⟩:=I.abt (gp (aX A i) rsS 0);obtain⟨s,S1,v,H1,⟨N,ho⟩,⟨φ1,hst,hv⟩,_,hd,_⟩:=lX (L:=L) hT hcx hs (fun x s hs=>by
       obtain⟨v,h1,h2⟩:=hρ x s hs;exact⟨v,h1,h2.mono he⟩) (fun _ e=>absurd e (tL _ _ _ _)) h
      obtain⟨u1,u2,u3⟩:=I.Rl (fun id h=>I.YV _ h) hst;have fW:=u1.ext I.sim;have adL:kM o=true:=by
       unfold Qn at hq
       split at hq
       . rename_i c hc
         split at hq
         . rename_i hb _;unfold kM;rw[hc];simp only[hb]
         . cases hq
       . cases hq
      have ri:∃b:Rec,(∃N,fq P L (bJ P L O N) ops A i o ⟨fv,H⟩ rsE=some b)/\b.h0=H/\b.h1=H1/\b.v=v/\kindOk .dj b.kind:=by
       cases hv2:opE P (bJ P L O N) (dV fv) o (Ev.dv H (aX A i) rsE)with
       |none=>exact⟨⟨.dj,v,H,H1,none⟩,⟨N,by unfold fq;simp only[hw,hk,hv2,adL,zbh,ho]⟩,rfl,rfl,rfl,trivial⟩
       |some q=>
        obtain⟨v2,H2⟩:=q;have:=tK adL hv2;rw[ho]at this;cases this;exact⟨⟨.quiet,v,H,Ev.cW H H2,none⟩,⟨N,by unfold fq;simp only[hw,hk,hv2]⟩,rfl,rfl,rfl,trivial⟩
      obtain⟨b,ri,hb0,hb1,hbv,hbk⟩:=ri;refine step (φ1:=⟨φ1.m,φ.ban⟩) (S1:=cn S S1) (H1:=H1) (a:=⟨.dj,S.size,S1.size,none,none,.any,none,[],[]⟩) (b:=b) ?_ u1 (jq (hf1.mono fW) o.dst (u2 s v hv)) ri hb1 (by rw[hbv]) hd;refine I.add u1 hb0 hb1 rfl rfl hbk (fun id B x h1 h2=> ?_) (fun h=>by cases h) (fun y B x0 h1 h2 h3=>by have h4:=h3 rfl;simp[JR,hidden]at h4) (fun _ _ h=>by cases h) (fun _ h=>by cases h) (fun h=>by cases h);rcases u3 id B x h1 h2 with h|⟨g1,g2,g3|⟨id0,B0,g3,g4,g5⟩⟩
      . exact .inl h
      . exact .inr ⟨g1,g2,.inl g3⟩
      . refine .inr ⟨g1,g2,.inr ?_⟩;rcases I.Od id0 B0 x g3 g5 with g6|⟨j,m,⟨r0,q1,q2,q3⟩,g7,g8⟩
        . exact .inl g6
        . refine .inr ⟨m,g7, ?_⟩;have hij:aX A i j=true:=by
           cases hp:aX A i j with
           |true=>rfl
           |false=>
            have:=(lO (aX A i) rsS 0 id0).2 ⟨j,r0,q1,by rw[zaF];exact hp,q2,q3⟩;rw[this]at g4;cases g4
          have hjn:j<ops.size:=by
           have:=(zao.1 q1).1;omega
          rw[hi];rcases g8 with rfl|g8
          . exact hij
          . exact htr i j m Ou hjn hij g8
    ·
     rename_i hk
     split at h
     . rename_i adM;obtain⟨kW,Io⟩:=zaG.1 adM;have Io:∀o∈l,ff L o= .pure:=fun o ho=>by
        have:=zam.1 Io o ho
        split at this
        . assumption
        . cases this
       obtain⟨he,hs⟩:=I.sim.Gj (b:=b0) fun x hx=> .inl (hbb x hx)
       obtain⟨s,S1,v,H1,⟨N,ho⟩,⟨φ1,hst,hv⟩,_,hd,_⟩:=lX (L:=L) hT hcx hs (fun x s hs=>by
        obtain⟨v,h1,h2⟩:=hρ x s hs;exact⟨v,h1,h2.mono he⟩) (fun _=>hnb) h
       have I':RI P A base ⟨φ.m,b0⟩ S H rsS rsE:=⟨hs,I.len,I.Od,I.esz,I.Md,I.ssz,I.O8,I.kinds,I.Lw,fun i a b t p h1 h2 h3=>by
        obtain⟨pv,q1,q2,q3⟩:=I.res i a b t p h1 h2 h3;exact⟨pv,q1,q2.mono he,q3.mono he⟩,I.back,I.Su,I.oks⟩
       have fW:=hst.ext hs;have hb1:φ1.ban=b0:=hst.ban;refine WY (φ1:=φ1) (S1:=S1) (H1:=H1) (a:=⟨.dj,S.size,S1.size,none,none,.any,none,[],[]⟩) (b:=⟨.dj,v,H,H1,none⟩) ?_ (by
        obtain⟨m1,c1⟩:=φ1;have e:c1=b0:=hb1;subst e;exact hst) (jq ((hf1.mono he).mono fW) o.dst hv) (.inl Io) (fun x hx=>by rw[hb1];exact hx) ⟨N,by unfold fq;simp only[hw,hk,ho]⟩ rfl rfl hd
       refine I'.add hst rfl rfl rfl rfl trivial (fun id B x h1 h2=> ?_) (fun h=>by cases h) (fun y B x0 h1 h2 h3=>by have h4:=h3 rfl;simp[JR,hidden]at h4) (fun _ _ h=>by cases h) (fun _ h=>by cases h) (fun h=>by cases h)
       by_cases hid:id<S.size
       . have hC:∃C,S.get id=some C:=by
          cases hg:S.get id with
          |some C=>exact⟨C,rfl⟩
          |none=>
           have e:=hst.pd id hid (.inr hg);rw[aj.EC hg hid hst.zX e]at h1;cases h1
         obtain⟨C,g2⟩:=hC;exact .inl ⟨hid,⟨C,g2⟩,Sim.at (S':=S) (φ':=φ1) hs hst.le g2 h2⟩
       . have hlt:=hst.sim.lt id x h2
         by_cases hx:x<H.size
         . obtain⟨id0,B0,g3,g4⟩:=hst.own x hx ⟨id,B,h1,h2⟩;rcases I.Od id0 B0 x g3 g4 with g6|⟨j,m,⟨r0,q1,q2,q3⟩,g7,g8⟩
           . exact .inr ⟨by omega,aj.ba h1,.inr (.inl g6)⟩
           . refine .inr ⟨by omega,aj.ba h1,.inr (.inr ⟨m,g7, ?_⟩)⟩;have hj:=(zao.1 q1).1;have hij:aX A i j=true:=zam.1 kW j (zbC.2 (by omega));rw[hi];rcases g8 with rfl|g8
             . exact hij
             . exact htr i j m Ou (by omega) hij g8
         . exact .inr ⟨by omega,aj.ba h1,.inl ⟨by omega,hlt⟩⟩
     . rename_i adM;obtain⟨he,hs⟩:=I.abt (tB S fr1 o++gp (aX A i) rsS 0);obtain⟨s,S1,v,H1,⟨N,ho⟩,⟨φ1,hst,hv⟩,_,hd,aam⟩:=lX (L:=L) hT hcx hs (fun x s hs=>by
        obtain⟨v,h1,h2⟩:=hρ x s hs;exact⟨v,h1,h2.mono he⟩) (fun _ e=>by
        have e:(tB S fr1 o++gp (aX A i) rsS 0)++S.hid=[]:=e;simp only[List.append_eq_nil_iff]at e;exact(tL _ _ _ [] (by rw[zaH];exact e.1.2)).elim) h
       obtain⟨u1,u2,u3⟩:=I.Rl (fun id h=>j4 (Q8 h) (I.YV _ h)) hst;have fW:=u1.ext I.sim;obtain⟨oks,hd,aak⟩:=Nc I fW u1.sim hd;refine step (φ1:=⟨φ1.m,φ.ban⟩) (S1:=cn S S1) (H1:=H1) (b:=⟨.dj,v,H,H1,none⟩) ?_ u1 (jq (hf1.mono fW) o.dst (u2 s v hv)) ⟨N,by unfold fq;simp only[hw,hk,ho]⟩ rfl rfl hd;refine I.add u1 rfl rfl rfl rfl trivial (fun id B x h1 h2=> ?_) (fun h=>by cases h) (fun y B x0 h1 h2 h3=> ?_) (fun _ _ h=>by cases h) aak (fun h=>by cases h)
       . rcases u3 id B x h1 h2 with h|⟨g1,g2,g3|⟨id0,B0,g3,g4,g5⟩⟩
         . exact .inl h
         . exact .inr ⟨g1,g2,.inl g3⟩
         . refine .inr ⟨g1,g2,.inr ?_⟩;rcases I.Od id0 B0 x g3 g5 with g6|⟨j,m,⟨r0,q1,q2,q3⟩,g7,g8⟩
           . exact .inl g6
           . refine .inr ⟨m,g7, ?_⟩;have hij:aX A i j=true:=by
              cases hp:aX A i j with
              |true=>rfl
              |false=>
               have:=(lO (aX A i) rsS 0 id0).2 ⟨j,r0,q1,by rw[zaF];exact hp,q2,q3⟩;rw[(iJ g4).2]at this;cases this
             have hjn:j<ops.size:=by
              have:=(zao.1 q1).1;omega
             rw[hi];rcases g8 with rfl|g8
             . exact hij
             . exact htr i j m Ou hjn hij g8
       . have BJ:=h3 rfl;unfold JR at BJ;rw[zbj]at BJ;rcases BJ with BJ|BJ
         case inr=>
          have S6:(gX S (tB S fr1 o++gp (aX A i) rsS 0)).get y=none:=by
           cases hg:(gX S (tB S fr1 o++gp (aX A i) rsS 0)).get y with
           |none=>rfl
           |some C=>
            have:=(iJ (cd hg).2).1;have BJ:hidden (tB S fr1 o) y=true:=BJ;rw[BJ]at this;cases this
          have hno:¬pJ (φ.shut S) (gX S (tB S fr1 o++gp (aX A i) rsS 0)) x0:=by
           rintro⟨id',B',_,q2,q3⟩
           have:=I.sim.inj id' y B' B x0 (cd q2).1 h1 q3 h2;subst this;rw[q2]at S6;cases S6
          have ua:=hst.pd y (show y<S.size from aj.ba h1) (.inr S6);refine⟨⟨B, ?_⟩,hst.fw x0 (I.sim.lt y x0 h2) hno⟩;obtain⟨r1,r2⟩:=aj.aM h1;exact(aj.fN (S:=cn S S1) (show y<S1.size from zaD (aj.ba h1) hst.ssize) r2).trans (ua.trans r1)
         obtain⟨z,hz,hzy⟩:∃z,(match o.op with| .store _ a _=>(match js fr1 a with|some p=>rq p|none=>none)|_=>none)=some z/\z≠y:=by
          split at BJ
          . rename_i z hz;exact⟨z,hz,by simpa using BJ⟩
          . cases BJ
         have hz2:(match o.op with| .store _ a _=>(match js fr1 a with|some p=>rq p|none=>none)|_=>none)=some z:=hz;clear hz
         split at hz2
         . rename_i t a x hop
           split at hz2
           . rename_i p hp;obtain⟨id,row,w,col,B',xz,rfl,rfl,g3,⟨B0,g4⟩,g5⟩:=aam t a x p hop hp;have hz3:id=z:=zbL hz2;subst hz3;have g6:=(cd g4).1;have hne:x0≠xz:=by
              rintro rfl
              exact hzy (I.sim.inj id y B0 B x0 g6 h1 g3 h2)
             refine⟨⟨B, ?_⟩,g5 x0 hne⟩;obtain⟨r1,r2⟩:=aj.aM h1;refine(aj.fN (S:=cn S ((gX S (tB S fr1 o++gp (aX A i) rsS 0)).put id (some B'))) (show y<S.size from aj.ba h1) r2).trans ?_
             show((gX S (tB S fr1 o++gp (aX A i) rsS 0)).put id (some B')).root.get y=some B;rw[aj.cT,if_neg (zcn hzy)];exact r1
           . cases hz2
         . cases hz2
  . exact step (a:=⟨.pure,S.size,S.size,none,none,.any,none,[],[]⟩) (b:=⟨.pure,undef,H,H,none⟩) (I.same rfl rfl rfl rfl trivial (by simp) (fun h=>by cases h) (fun _ _ h=>by cases h) rfl (fun h=>by cases h)) (Step.refl I.sim) (jq hf1 o.dst DV.undef) ⟨0,by unfold fq;simp only[hw]⟩ rfl rfl h
end
end
end
end Go.Proofs.YtfaojedfnjdnnaaGreat.Ev
namespace Go.Proofs.YtfaojedfnjdnnaaGreat.Ev
noncomputable section
noncomputable section
open Go
section
variable {R : Type} {P : Program} {L : List FuncId} {O : bp} {T : tz} {A : Array Nat} {base : Nat} {φ : Phi} {S : aj} {H : ag} {rsS : List fi} {rsE : List Rec}
theorem Ai {B:Nat->Bool} (I:RI P A base φ S H rsS rsE) (h:uz A B rsS=true):qB P A B rsE=true:=by
 unfold qB;rw[zam]
 rintro⟨b,i⟩ hb
 rw[zam]
 rintro⟨d,j⟩ hd
 have hbi:rsE[i]? =some b:=by
  have:=za5.1 hb;simpa using this
 have hdj:rsE[j]? =some d:=by
  have:=za5.1 hd;simpa using this
 have hi:i<rsS.length:=by rw[I.len];exact(zao.1 hbi).1
 have hj:j<rsS.length:=by rw[I.len];exact(zao.1 hdj).1
 have ha:=zah hi;have hc:=zah hj;generalize rsS[i]=a at ha;generalize rsS[j]=c at hc;have k1:=I.kinds i a b ha hbi;have k2:=I.kinds j c d hc hdj;have hp:E6 A B rsS i a j c=true:=by
  unfold uz at h;rw[zam]at h;have h:=h (a,i) (za5.2 (by simpa using ha));rw[zam]at h;exact h (c,j) (za5.2 (by simpa using hc))
 simp only;unfold AO;cases hdk:d.kind with
 |dj=>
  have hck:c.kind= .dj:=by
   rw[hdk]at k2;cases hck:c.kind<;>rw[hck]at k2<;>first|rfl|exact k2.elim
  unfold E6 at hp;rw[hck]at hp;simp only at hp⊢;cases hbk:b.kind with
  |pure=>rfl
  |load=>
   have hak:a.kind= .load:=by
    rw[hbk]at k1;cases hak:a.kind<;>rw[hak]at k1<;>first|rfl|exact k1.elim
   rw[hak]at hp;simp only[zbj]at hp⊢;rcases hp with hp|hp|(hp|hp)|hp
   . exact .inl (.inl hp)
   . exact .inl (.inr hp)
   . refine .inr ?_
     obtain⟨hij,b',t,pv,v,e1,e2,e3,e4⟩:=I.oks j c d hc hdj i (by simpa using hp);rw[hbi]at e1;cases e1;rw[e2];simp only;rw[if_neg (by omega),e3];exact e4
   . refine .inr ?_
     simp only[zae,zag]at hp;obtain⟨hij,hp⟩:=hp;obtain⟨t,p,e1,e2,e3⟩:=I.Lw i a b ha hbi hak
     split at hp
     . rename_i y hy;simp only[zae,zam]at hp;obtain⟨Ip,kW⟩:=hp;obtain⟨x0,o,rfl,_,_,e6⟩:=e3 y hy;have BI:calm rsS i j y:=by
        intro m q h1 h2 h3 h4;have KP:q∈(rsS.take (j+1)).drop i:=by
         refine zaQ (i:=m-i) ?_
         rw[zaA,zav,if_pos (by omega),show i+(m-i)=m by omega];exact h3
        have:=kW q KP;rw[h4]at this;exact this
       rw[e1];simp only;rw[if_neg (by omega),e6 j d hij hdj BI];exact e2 Ip
     . cases hp
   . refine .inr ?_
     simp only[zae,zag]at hp;obtain⟨hij,hp⟩:=hp
     split at hp
     . rename_i y hy;simp only[zae,zam,zag]at hp;obtain⟨⟨Ip,hyn⟩,kW⟩:=hp;have BI:calm rsS j i y:=by
        intro m q h1 h2 h3 h4;have KP:q∈(rsS.take (i+1)).drop j:=by
         refine zaQ (i:=m-j) ?_
         rw[zaA,zav,if_pos (by omega),show j+(m-j)=m by omega];exact h3
        have:=kW q KP;rw[h4]at this;exact this
       obtain⟨t,p,e1,e2⟩:=I.Su i a b ha hbi hak y hy j c d hij hc hdj hyn BI;obtain⟨_,_,_,e3,_⟩:=I.Lw i a b ha hbi hak;rw[e1];simp only;rw[if_pos hij,e2];exact e3 Ip
     . cases hp
  |quiet=>
   have hak:a.kind= .quiet\/a.kind= .dj:=by
    rw[hbk]at k1;cases hak:a.kind<;>rw[hak]at k1<;>first|exact .inl rfl|exact .inr rfl|exact k1.elim
   simp only;rcases hak with hak|hak<;>(rw[hak]at hp;dsimp only at hp)
   . simpa[Bool.or_assoc]using hp
   . rw[<-Bool.or_assoc]at hp;rw[hp,Bool.true_or]
  |dj=>
   have hak:a.kind= .dj:=by
    rw[hbk]at k1;cases hak:a.kind<;>rw[hak]at k1<;>first|rfl|exact k1.elim
   simp only;rw[hak]at hp;simpa[Bool.or_assoc]using hp
 |_=>rfl
theorem HY {cx:tV R} (hT:fC P L O T) (hcx:qP P L O cx) (hnb:NBh φ S H) {ops:Array Oper} {fr:List SV} {fv:List Value} {k:SSt->Option R} {r:R} (hS:Sim φ S H) (hf:DVL φ H (Own φ S) fr fv)
 (hst:jd ops (Region.before ops) fr.length=true) (htr:yR (Region.before ops) ops.size=true) (h:mV P L T cx ops (Region.before ops) ops.toList 0 ⟨fr,S⟩ [] k=some r):
 ∃φ' fr' S' fv' H',k ⟨fr',S'⟩=some r/\Step φ S H φ' S' H'/\DVL φ' H' (Own φ' S') fr' fv'/\∃N,mC P L (bJ P L O N) ops ⟨fv,H⟩=some ⟨fv',H'⟩:=by
 have hb:∀x,(φ.ban x\/H.size<=x)->φ.ban x\/H.size<=x:=fun _ h=>h
 obtain⟨he,hs⟩:=hS.Gj (b:=fun x=>φ.ban x\/H.size<=x) hb;have I:RI P (Region.before ops) H.size ⟨φ.m,fun x=>φ.ban x\/H.size<=x⟩ S H [] []:=by
  refine⟨hs,rfl,fun id B x _ h=> .inl (hS.lt id x h), ?_, ?_, ?_,zap _, ?_, ?_, ?_, ?_, ?_, ?_⟩
  all_goals (intros;simp_all)
 obtain⟨φ',fr',S',fv',H',rsS',rsE',g1,g2,g3,g4,g5,N,g6⟩:=wQ hT hcx (Kt htr) (b0:=φ.ban) h I (hf.mono he) rfl (by simp) (.inr fun x hx=> .inr hx) (fun x hx=> .inl hx) hnb;refine⟨⟨φ'.m,φ.ban⟩,fr',S',fv',H',g1,g3,g4,N, ?_⟩;unfold mC;rw[show(⟨fv,H⟩:St).fr.length=fr.length from hf.1.symm,hst];simp only[g6,Ai g2 g5,zbh]
theorem kq {cx:tV R} (hT:fC P L O T) (hcx:qP P L O cx) {stop:List Nat->Bool} {body:Code}:∀{n:Nat} {its:List Item} {fr:List SV} {S:aj} {k:List Item->SSt->Option R} {r:R} {φ:Phi} {H:ag} {fv:List Value},
 iI P L T cx stop n its ⟨fr,S⟩ k=some r->eA body its->NBh φ S H->Sim φ S H->DVL φ H (Own φ S) fr fv->
 ∃qz φ' fr' S' fv' H',k qz ⟨fr',S'⟩=some r/\eA body qz/\Step φ S H φ' S' H'/\DVL φ' H' (Own φ' S') fr' fv'/\∀rv w,lD P L O rv qz ⟨fv',H'⟩ w->lD P L O rv its ⟨fv,H⟩ w
 |0,_,_,_,_,_,_,_,_,h,_,_,_,_=>by cases h
 |n+1,its,fr,S,k,r,φ,H,fv,h,ha,hnb,hS,hf=>by
  unfold iI at h;have same:∀{S7:List Item},eA body S7->iI P L T cx stop n S7 ⟨fr,S⟩ k=some r->(∀q,dx P L O S7 ⟨fv,H⟩ q->dx P L O its ⟨fv,H⟩ q)->
   ∃qz φ' fr' S' fv' H',k qz ⟨fr',S'⟩=some r/\eA body qz/\Step φ S H φ' S' H'/\DVL φ' H' (Own φ' S') fr' fv'/\∀rv w,lD P L O rv qz ⟨fv',H'⟩ w->lD P L O rv its ⟨fv,H⟩ w:=by
   intro S7 ha2 h2 hm;obtain⟨i,φ',fr',S',fv',H',h1,h2,h3,h4,h5⟩:=kq hT hcx h2 ha2 hnb hS hf;exact⟨i,φ',fr',S',fv',H',h1,h2,h3,h4,fun rv w hw=>(h5 rv w hw).of hm⟩
  split at h
  . exact⟨[],φ,fr,S,fv,H,h,ha,Step.refl hS,hf,fun _ _ h=>h⟩
  . rename_i p c rest;have hc:nav body p=some c:=by
     have:=ha (.code p c) (by simp);simp only[Item.tag,Tag.item]at this;cases hn:nav body p with
     |none=>rw[hn]at this;cases this
     |some c'=>rw[hn]at this;cases this;rfl
    split at h
    . exact⟨_,φ,fr,S,fv,H,h,ha,Step.refl hS,hf,fun _ _ h=>h⟩
    split at h
    . exact same ha.tail h (fun q=> .skip)
    . exact same ha.tail h (fun q=> .label)
    . rename_i id ops d
      split at h
      . obtain⟨φ1,fr1,S1,fv1,H1,g1,g2,g3,g4⟩:=rO hT hcx hnb hS hf h;obtain⟨i,φ',fr',S',fv',H',h1,h2,h3,h4,h5⟩:=kq hT hcx g1 ha.tail (hnb.step g2) g2.sim g3;exact⟨i,φ',fr',S',fv',H',h1,h2,g2.trans h3,h4,fun rv w hw=>(h5 rv w hw).of fun q hq=> .region (g4 _ q hq)⟩
      . split at h
        . rename_i hst;simp only[zae]at hst;obtain⟨φ1,fr1,S1,fv1,H1,g1,g2,g3,g4⟩:=HY hT hcx hnb hS hf hst.1 hst.2 h;obtain⟨i,φ',fr',S',fv',H',h1,h2,h3,h4,h5⟩:=kq hT hcx g1 ha.tail (hnb.step g2) g2.sim g3;exact⟨i,φ',fr',S',fv',H',h1,h2,g2.trans h3,h4,fun rv w hw=>(h5 rv w hw).of fun q hq=> .draw g4 hq⟩
        . cases h
    . rename_i a b;exact same (.cons (by simp[Item.tag,Tag.item,nav,hc,child]) (.cons (by simp[Item.tag,Tag.item,nav,hc,child]) ha.tail)) h (fun q=> .seq)
    . rename_i x a b
      split at h
      . rename_i t hx;obtain⟨v,hv,hd⟩:=kS hf hx;cases hd
        split at h
        . exact same (.cons (by simp[Item.tag,Tag.item,nav,hc,child]) ha.tail) h (fun q=> .cond (t:=true) hv)
        . exact same (.cons (by simp[Item.tag,Tag.item,nav,hc,child]) ha.tail) h (fun q=> .cond (t:=false) hv)
      . cases h
    . rename_i id b;exact same (.cons (by simp[Item.tag,Tag.item,nav,hc,child]) (.cons (by simp[Item.tag,Tag.item]) ha.tail)) h (fun q=> .block)
    . rename_i b;exact same (.cons (by simp[Item.tag,Tag.item,nav,hc,child]) ha.tail) h (fun q=> .loop)
    . split at h
      . rename_i id r' hr;exact same (eA.leave hr ha.tail) h (fun q=> .exit hr)
      . cases h
    . refine⟨[],φ,fr,S,fv,H,h,(fun _ hi=>by cases hi),Step.refl hS,hf,fun rv w hw=> ?_⟩;obtain⟨q,⟨N,h1⟩,h2⟩:=hw;rw[cE]at h1;cases h1;exact⟨_,.ret,h2⟩
    . cases h
  . rename_i p b rest;have hb:nav body (0::p)=some b:=by
     have:=ha (.lp p b) (by simp);simp only[Item.tag,Tag.item]at this;cases hn:nav body (0::p)with
     |none=>rw[hn]at this;cases this
     |some c'=>rw[hn]at this;cases this;rfl
    split at h
    . exact⟨_,φ,fr,S,fv,H,h,ha,Step.refl hS,hf,fun _ _ h=>h⟩
    . exact same (.cons (by simp only[Item.tag,Tag.item,hb];rfl) ha) h (fun q=> .round)
  . exact same ha.tail h (fun q=> .blk)
  . cases h
theorem kh (hS:Sim φ S H) {fr:List SV} {fv:List Value} (hf:DVL φ H (Own φ S) fr fv):∀{rv:List ResultVar} {k:List SV->Option R} {r:R},tc P S fr rv k=some r->
 ∃ss vs,fP P H fv rv=some vs/\DVL φ H (Own φ S) ss vs/\k ss=some r
 |[],k,r,h=>⟨[],[],rfl,.nil,h⟩
 | .tmp t::rv,k,r,h=>by
  obtain⟨ss,vs,h1,h2,h3⟩:=kh hS hf (rv:=rv) h;obtain⟨v,h4,h5⟩:=kS (x:= .tmp t) hf rfl;cases h4;exact⟨_,_,by simp only[fP,h1],.cons h5 h2,h3⟩
 | .cell a t::rv,k,r,h=>by
  obtain⟨v,h4,h5⟩:=kS (x:= .tmp a) hf rfl;cases h4;obtain⟨s,u,g1,g2,g3⟩:=m5 hS h5 h;obtain⟨ss,vs,h1,h2,h3⟩:=kh hS hf (rv:=rv) g3;exact⟨_,_,by simp only[fP,g1,h1],.cons g2 h2,h3⟩
theorem m8 {own:Nat->Prop} {ss:List SV} {vs:List Value} (h:DVL φ H own ss vs):DV φ H own (nc ss) (lC vs):=by
 match ss,vs,h with
 |[],vs,h=>
  rw[h.qS];exact .tup [] #[] rfl (fun i s v h=>by simp at h)
 |[s],vs,h=>
  obtain⟨v,rfl,h1⟩:=h.one;exact h1
 |a::b::ss,vs,h=>
  obtain⟨v,vs1,rfl,h1,h2⟩:=h.gG;obtain⟨w,vs2,rfl,h3,h4⟩:=h2.gG;exact .tup _ _ (by simpa using h.1) (fun i s v g1 g2=>h.2 i s v g1 (by simpa using g2))
theorem CF {own:Nat->Prop} {args:List SV} {vs:List Value} (h:DVL φ H own args vs) (n:Nat):DVL φ H own (args++List.replicate (n-args.length) (.tup [])) (vs++List.replicate (n-vs.length) undef):=by
 rw[h.1];refine h.append ⟨by simp,fun i s v h1 h2=> ?_⟩;rw[List.getElem?_replicate]at h1 h2
 split at h1
 . rename_i hi;rw[if_pos hi]at h2;cases h1;cases h2;exact DV.undef
 . cases h1
theorem xt {kn:FuncId->Bool} (hkn:∀g,kn g=false->∀args H,O g args H=none) (hT:fC P L O T):∀(n:Nat),qP P L O (zV (R:=R) P L T kn n)
 |0,_,_,_,_,_,h,_,_,_,_,_,_=>by cases h
 |n+1,g,args,S,k,r,h,φ,H,vs,hnb,hS,hd=>by
  unfold zV at h
  split at h
  . cases h
  rename_i hk0
  split at h
  . rename_i fn hg
    split at h
    . rename_i c hb;obtain⟨its,φ',fr',S',fv',H',hk,_,hst,hf,hm⟩:=kq hT (xt hkn hT n) h yU hnb hS (CF hd fn.ntmps)
      split at hk
      . obtain⟨ss,vs',g1,g2,g3⟩:=kh hst.sim hf hk;have hw:lD P L O fn.results.toList [] ⟨fv',H'⟩ (lC vs',H'):=⟨(.normal,⟨fv',H'⟩),.nil,by simp only[fin,g1];rfl⟩
        obtain⟨N,hN⟩:=lN (hkn g hk0 _ _) hg hb (hm _ _ hw);exact⟨nc ss,S',N,lC vs',H',hN,⟨φ',hst,m8 g2⟩,g3⟩
      . cases hk
    . cases h
  . cases h
end
end
end
end Go.Proofs.YtfaojedfnjdnnaaGreat.Ev
namespace Go.Proofs.YtfaojedfnjdnnaaGreat.Ev
noncomputable section
noncomputable section
open Go
inductive Un where
 |i (n:Int)
 |b (x:Bool)
 |l (xs:List Int)
 |d (xs:List Dat)
inductive VP where
 |any
 |int (k:IntKind)
 |bool
 |jy
 |eM
 |nP
 |ptr (j w col:Nat)
 |np (j w col:Nat)
 |buf (j w:Nat)
 |sl (j w:Nat)
 |ints (k:IntKind)
 |ab (l:List Sch)
 |dpt (l:List Sch)
 |fn (g:Nat) (x y:List VP)
 |agg (l:List VP)
mutual
def VP.size:VP->Nat
 | .int _=>1
 | .np _ _ _=>1
 | .sl _ _=>2
 | .bool=>1
 | .ints _=>1
 | .ab _=>1
 | .dpt _=>1
 | .fn _ x y=>VP.mB x+VP.mB y
 | .agg l=>VP.mB l
 |_=>0
def VP.mB:List VP->Nat
 |[]=>0
 |p::ps=>p.size+VP.mB ps
end
mutual
def VP.to:VP->List Un->SV
 | .any,_=> .any
 | .int k,.i n::_=> .i k n
 | .bool,.b x::_=> .b x
 | .jy,_=> .jy
 | .eM,_=> .eM
 | .nP,_=> .nP
 | .ptr j w col,_=> .ptr j 0 w col
 | .np j w col,.i n::_=> .np j w col n
 | .buf j w,_=> .buf j w false
 | .sl j w,.i off:: .i len::_=> .sl j off.toNat len.toNat w false
 | .ints k,.l xs::_=> .deep (.ints k xs)
 | .ab s,.d xs::_=> .deep (.ab s xs)
 | .dpt s,.d xs::_=> .dp (.ab s xs) 0 0
 | .fn g x y,us=> .fn g (VP.tos x us) (VP.tos y (us.drop (VP.mB x)))
 | .agg l,us=> .agg (VP.tos l us)
 |_,_=> .any
def VP.tos:List VP->List Un->List SV
 |[],_=>[]
 |p::ps,us=>p.to us::VP.tos ps (us.drop p.size)
end
abbrev Sub:=List (Nat × Option Nat)
def Sub.get:Sub->Nat->Option (Option Nat)
 |[],_=>none
 |(j,x)::r,k=>if k=j then some x else Sub.get r k
def Sub.bind (σ:Sub) (j:Nat) (x:Option Nat):Option Sub:=
 match σ.get j with
 |none=>some ((j,x)::σ)
 |some y=>match x,y with
  |some a,some b=>if a=b then some σ else none
  |none,none=>some σ
  |_,_=>none
def seen:SV->Sub->Option Sub
 | .buf id _ _,σ=>σ.bind (1000000+id) (some id)
 | .sl id _ _ _ _,σ=>σ.bind (1000000+id) (some id)
 |_,σ=>some σ
def EI (S:aj) (k:IntKind):SV->Option (List Int)
 | .eM=>some []
 | .deep (.ints k' xs)=>if k=k' then some xs else none
 | .buf id w ex=>match pg S (.buf id w ex)with|some (.ints k' xs)=>if k=k' then some xs else none|_=>none
 | .sl id off len w p=>match pg S (.sl id off len w p)with|some (.ints k' xs)=>if k=k' then some xs else none|_=>none
 |_=>none
def Fw (S:aj) (l:List Sch):SV->Option (List Dat)
 | .eM=>some []
 | .deep (.ab l' xs)=>match fz l l' with|true=>some xs|false=>none
 | .buf id w ex=>match pg S (.buf id w ex)with|some (.ab l' xs)=>(match fz l l' with|true=>some xs|false=>none)|_=>none
 | .sl id off len w p=>match pg S (.sl id off len w p)with|some (.ab l' xs)=>(match fz l l' with|true=>some xs|false=>none)|_=>none
 |_=>none
def Eb (S:aj):Sch->SV->Option Dat
 | .int k,.i k' n=>if k=k' then some (.n n)else none
 | .bool,.b x=>some (.n (bif x then 1 else 0))
 | .ints k,s=>(match EI S k s with|some xs=>some (.r (xs.map .n))|none=>none)
 | .ab l,s=>(match Fw S l s with|some xs=>some (.r xs)|none=>none)
 |_,_=>none
def LO (S:aj):List Sch->List SV->Option (List Dat)
 |[],[]=>some []
 |a::l,s::ss=>(match Eb S a s,LO S l ss with|some d,some r=>some (d::r)|_,_=>none)
 |_,_=>none
def MN:List SV->Sub->Option Sub
 |[],σ=>some σ
 |s::ss,σ=>(match seen s σ with|some τ=>MN ss τ|none=>none)
section
variable (S : aj)
mutual
def VP.of:VP->SV->Sub->Option (List Un × Sub)
 | .any,_,σ=>some ([],σ)
 | .int k,.i k' n,σ=>if k=k' then some ([.i n],σ)else none
 | .bool,.b x,σ=>some ([.b x],σ)
 | .jy,.jy,σ=>some ([],σ)
 | .eM,.eM,σ=>some ([],σ)
 | .nP,.nP,σ=>some ([],σ)
 | .ptr j w col,.ptr id row w' KW,σ=>if row=0/\w=w'/\col=KW/\j<1000000 then(match σ.bind j (some id)with|some τ=>some ([],τ)|none=>none)else none
 | .np _ _ _,.jy,σ=>some ([.i (-1)],σ)
 | .np j w col,.ptr id row w' KW,σ=>if w=w'/\col=KW/\j<1000000 then(match σ.bind j (some id)with|some τ=>some ([.i (row:Int)],τ)|none=>none)else none
 | .np j w col,.np id w' KW n,σ=>if w=w'/\col=KW/\j<1000000 then(match σ.bind j (some id)with|some τ=>some ([.i n],τ)|none=>none)else none
 | .buf j w,.buf id w' _,σ=>if w=w'/\j<1000000 then(match σ.bind j (some id)with|some τ=>some ([],τ)|none=>none)else none
 | .sl j w,.sl id off len w' _,σ=>if w=w'/\j<1000000 then(match σ.bind j (some id)with|some τ=>some ([.i (off:Int),.i (len:Int)],τ)|none=>none)else none
 | .sl j w,.buf id w' ex,σ=>if w=w'/\j<1000000 then(match zQ S (.buf id w' ex),σ.bind j (some id)with|some k,some τ=>some ([.i 0,.i (k:Int)],τ)|_,_=>none)else none
 | .buf j _,.eM,σ=>if j<1000000 then(match σ.bind j none with|some τ=>some ([],τ)|none=>none)else none
 | .ints k,s,σ=>(match EI S k s,seen s σ with|some xs,some τ=>some ([.l xs],τ)|_,_=>none)
 | .ab l,s,σ=>(match Fw S l s,seen s σ with|some xs,some τ=>some ([.d xs],τ)|_,_=>none)
 | .dpt l,.dp c row col,σ=>if row=0/\col=0 then(match c with| .ab l' xs=>(match fz l l' with|true=>some ([.d xs],σ)|false=>none)|_=>none)else none
 | .dpt l,.ptr id row w col,σ=>if row=0/\col=0 then(match S.get id with
  |some (.cells cs)=>(match LO S l cs,MN (.buf id w true::cs) σ with|some r,some τ=>some ([.d [.r r]],τ)|_,_=>none)
  |_=>none)else none
 | .fn g x y,.fn g' x' y',σ=>if g=g' then
  (match VP.ofs x x' σ with
   |some (a,τ)=>(match VP.ofs y y' τ with|some (c,υ)=>some (a++c,υ)|none=>none)
   |none=>none)else none
 | .agg l,.agg l',σ=>VP.ofs l l' σ
 |_,_,_=>none
def VP.ofs:List VP->List SV->Sub->Option (List Un × Sub)
 |[],[],σ=>some ([],σ)
 |p::ps,s::ss,σ=>
  (match p.of s σ with
   |some (a,τ)=>(match VP.ofs ps ss τ with|some (c,υ)=>some (a++c,υ)|none=>none)
   |none=>none)
 |_,_,_=>none
end
end
inductive BP where
 |cells (l:List VP)
 |ints (k:IntKind)
 |ab (l:List Sch)
 |fh (j w col:Nat)
 |gone
def BP.size:BP->Nat
 | .cells l=>VP.mB l
 | .gone=>0
 |_=>1
def BP.to:BP->List Un->Option aS
 | .cells l,us=>some (.cells (VP.tos l us))
 | .ints k,.l xs::_=>some (.cont (.ints k xs))
 | .ab s,.d xs::_=>some (.cont (.ab s xs))
 | .fh j w col,.l xs::_=>some (.fh j w col xs)
 | .gone,_=>none
 |_,_=>some (.cells [])
def BP.of (S:aj):BP->aS->Sub->Option (List Un × Sub)
 | .cells l,.cells l',σ=>VP.ofs S l l' σ
 | .ints k,.cont (.ints k' xs),σ=>if k=k' then some ([.l xs],σ)else none
 | .ab l,.cont (.ab l' xs),σ=>(match fz l l' with|true=>some ([.d xs],σ)|false=>none)
 | .fh j w col,.fh id w' KW xs,σ=>if w=w'/\col=KW/\j<1000000 then(match σ.bind j (some id)with|some τ=>some ([.l xs],τ)|none=>none)else none
 |_,_,_=>none
mutual
def VP.T9:VP->List Un
 | .int _=>[.i 0]
 | .np _ _ _=>[.i (-1)]
 | .sl _ _=>[.i 0,.i 0]
 | .bool=>[.b false]
 | .ints _=>[.l []]
 | .ab _=>[.d []]
 | .dpt _=>[.d []]
 | .fn _ x y=>VP.Aa x++VP.Aa y
 | .agg l=>VP.Aa l
 |_=>[]
def VP.Aa:List VP->List Un
 |[]=>[]
 |p::ps=>p.T9++VP.Aa ps
end
def BP.nil:BP->List Un
 | .cells l=>VP.Aa l
 | .ints _=>[.l []]
 | .ab _=>[.d []]
 | .fh _ _ _=>[.l []]
 | .gone=>[]
def BP.jQ:BP->Bool
 | .gone=>true
 |_=>false
def pW (S:aj):Nat->List BP->Sub->Option (List Un × Sub)
 |_,[],σ=>some ([],σ)
 |j,p::ps,σ=>
  match p.jQ with
  |true=>pW S (j+1) ps σ
  |false=>
   match σ.get j with
   |some (some id)=>
    (match S.get id with
     |some B=>(match p.of S B σ with
      |some (a,τ)=>(match pW S (j+1) ps τ with|some (c,υ)=>some (a++c,υ)|none=>none)
      |none=>none)
     |none=>none)
   |some none=>(match pW S (j+1) ps σ with|some (c,υ)=>some (p.nil++c,υ)|none=>none)
   |none=>(match pW S (j+1) ps ((j,none)::σ)with|some (c,υ)=>some (p.nil++c,υ)|none=>none)
def dA:List BP->List Un->List (Option aS)
 |[],_=>[]
 |p::ps,us=>p.to us::dA ps (us.drop p.size)
def aj.rl (S:aj) (b:Option aS):aj:={S with size:=S.size+1,root:=S.root.put b (S.size+1) S.size}
def gH (l:List (Option aS)):aj:=l.foldl aj.rl ⟨0,.e,0,[]⟩
def Sub.keys (σ:Sub) (n lk lock:Nat):Bool:=σ.all fun p=>decide (1000000<=p.1)||(decide (p.1<n)&&(match p.2 with|some id=>(decide (p.1<lk)||decide (lock<=id))|none=>true))
def Sub.apart:Sub->Bool
 |[]=>true
 |(j,x)::r=>(match x with
  |some a=>r.all fun p=>(match p.2 with|some c=>a !=c|none=>true)||p.1==j
  |none=>true)&&Sub.apart r
def idn (K:List Nat):Sub:=K.map fun j=>(j,some j)
structure Pn where
 VT:List VP
 ct:List BP
 lk:Nat
def Pn.size (p:Pn):Nat:=VP.mB p.VT
def Pn.of (p:Pn) (σ0:Sub) (vs:List SV) (S:aj):Option (List Un × Sub):=
 match VP.ofs S p.VT vs σ0 with
 |some (a,σ)=>
  (match pW S 0 p.ct σ with
   |some (c,τ)=>if Sub.keys τ p.ct.length p.lk S.lock=true/\Sub.apart τ=true/\(p.ct.length<=1000000/\p.lk<=p.ct.length)/\(σ0.all fun q=>decide (q.1<p.ct.length))=true then some (a++c,τ)else none
   |none=>none)
 |none=>none
def Pn.fx (p:Pn) (us:List Un):List SV:=VP.tos p.VT us
def Pn.bx (p:Pn) (us:List Un):aj:={gH (dA p.ct (us.drop p.size))with lock:=p.lk}
def bw (en ex:Pn):List Nat:=(List.range en.ct.length).filter fun j=>match ex.ct[j]? with|some b=> !b.jQ|none=>false
def Sub.le (σ τ:Sub):Prop:=∀j x,σ.get j=some x->τ.get j=some x
theorem Sub.le_refl (σ:Sub):Sub.le σ σ:=fun _ _ h=>h
theorem Sub.le_trans {a b c:Sub} (h:Sub.le a b) (k:Sub.le b c):Sub.le a c:=fun j x hx=>k j x (h j x hx)
theorem Sub.ke {σ τ:Sub} {j:Nat} {x:Option Nat} (h:σ.bind j x=some τ):Sub.le σ τ/\τ.get j=some x:=by
 unfold Sub.bind at h
 split at h
 . rename_i hn;cases h;refine⟨fun k y hk=> ?_,by simp[Sub.get]⟩;simp only[Sub.get]
   split
   . rename_i e;subst e;rw[hn]at hk;cases hk
   . exact hk
 . rename_i y hy
   split at h
   . split at h
     . rename_i e;cases h;subst e;exact⟨Sub.le_refl _,hy⟩
     . cases h
   . cases h;exact⟨Sub.le_refl _,hy⟩
   . cases h
section
variable {φ : Phi} {S : aj} {H : ag}
def Phi.sub (φ:Phi) (ban:Nat->Prop) (τ:Sub) (n:Nat):Phi:=⟨fun j=>if j<n then(match τ.get j with|some (some id)=>φ id|some none=>some none|none=>none)else none,ban⟩
def flat:SV->Prop
 | .i _ _=>True
 | .b _=>True
 | .deep _=>True
 |_=>False
theorem Sp (s:Sch) (d:Dat):flat (s9 s d):=by cases s<;>trivial
theorem kO {c:aE} {r j:Nat} {s:SV} (h:(c.row r)[j]? =some s):flat s:=by
 cases c with
 |ints k xs=>
  simp only[aE.row]at h;cases j with
  |zero=>simp at h;subst h;trivial
  |succ j=>simp at h
 |ab l xs=>
  simp only[aE.row]at h;rw[iH]at h;cases hl:l[j]? with
  |none=>rw[hl]at h;cases h
  |some sc=>rw[hl]at h;cases h;exact Sp _ _
theorem DV.oj {own own':Nat->Prop} {φ':Phi} (ho:∀x,own' x->own x) {s:SV} {v:Value} (h:DV φ H own s v):flat s->DV φ' H own' s v:=by
 induction h with
 |i k n=>intro _;exact .i k n
 |b x=>intro _;exact .b x
 |dq c h=>intro _;exact .dq c h
 |deep c x o sp cap blk hs hc hb hx hl _ ih=>
  intro _;exact .deep c x o sp cap blk hs hc hb (fun h=>hx (ho x h)) hl (fun r hr j s hj v hv=>ih r hr j s hj v hv (kO hj))
 |_=>intro h;exact h.elim
theorem lS (hS:Sim φ S H) {s:SV} {v:Value} {c:aE} (hv:DV φ H (Own φ S) s v) (h:pg S s=some c) (hs:∀c,s≠.deep c) {φ':Phi} {own':Nat->Prop}
 (dN:∀s v,flat s->DV φ H (Own φ S) s v->DV φ' H own' s v) (mK:∀id x,(∃B,S.get id=some B)->φ id=some (some x)->(∃w ex,s= .buf id w ex)\/(∃o n w p,s= .sl id o n w p)->¬own' x):DV φ' H own' (.deep c) v:=by
 have reg:∀(c:aE) (x o:Nat) (sp:Option Nat) (cap:Nat) (blk:Blk),H.get x=some blk->Rgn φ H (Own φ S) c blk.cells o->c.len<=cap->(sp=none\/sp=some c.w)->¬own' x->DV φ' H own' (.deep c) (.slice (some ⟨x,o,sp⟩) c.len cap):=by
  intro c x o sp cap blk hb hr hc hsp hx;exact .deep c x o sp cap blk hsp hc hb hx hr.1 (fun r hr' j s hs v hv=>dN s v (kO hs) (hr.2 r hr' j s hs v hv))
 unfold pg at h
 split at h
 . rename_i id w ex
   split at h
   . rename_i d hB
     split at h
     . rename_i hw;simp only[zae,zaI,zag]at hw;cases h;cases hv with
       |buf _ _ _ x n sp hx hn hsp=>
        rcases hS.blk _ _ hB with⟨h0,_⟩|⟨y,d,h1,h2,_,h4⟩
        . rw[hx]at h0;cases h0
        . rw[hx]at h1;cases h1;have e1:=hn d (ag.aM h2).1;have e2:=h4.1;have:n=c.len:=by
           rw[e1,hw.1]at e2;exact zbJ (by omega) e2
          subst this;refine reg c x 0 sp _ d h2 (BV.rgn h4) (zap _) ?_ (mK id x ⟨_,hB⟩ hx (.inl ⟨w,ex,rfl⟩));rcases hsp with h|⟨_,h,_⟩
          . exact .inl h
          . exact .inr (by rw[h,hw.1])
       |eh _ _ hx=>
        rcases hS.blk _ _ hB with⟨_,h0⟩|⟨y,d,h1,_⟩
        . exact .dq _ h0
        . rw[hx]at h1;cases h1
     . cases h
   . rename_i k n0 r hB
     split at h
     . rename_i ys hc hy;simp only[zae,zaI]at hc;obtain⟨rfl,rfl⟩:=hc;cases h;cases hv with
       |buf _ _ _ x n sp hx hn hsp=>
        rcases hS.blk _ _ hB with⟨h0,_⟩|⟨y,d,h1,h2,_,h4⟩
        . rw[hx]at h0;cases h0
        . rw[hx]at h1;cases h1;have h4:=BV.MD h4 hy;have e1:=hn d (ag.aM h2).1;have e2:=h4.1;have:n=(aE.ints k ys).len:=by
           rw[e1]at e2;simpa[aE.w]using e2
          subst this;refine reg (.ints k ys) x 0 sp _ d h2 (BV.rgn h4) (zap _) ?_ (mK id x ⟨_,hB⟩ hx (.inl ⟨1,true,rfl⟩));rcases hsp with h|⟨h,_⟩
          . exact .inl h
          . cases h
     . cases h
   . cases h
 . rename_i id off len w pre0
   split at h
   . rename_i d hB
     split at h
     . rename_i hw;simp only[zae,zaI,zag]at hw;cases h;cases hv with
       |sl _ _ _ _ _ x o sp cap hx ho hsp hc hin hp=>
        rcases hS.blk _ _ hB with⟨h0,_⟩|⟨y,b,h1,h2,_,h4⟩
        . rw[hx]at h0;cases h0
        . rw[hx]at h1;cases h1;obtain⟨i1,i2⟩:=hin b (ag.aM h2).1;have e2:=h4.1;have hle:off+len<=d.len:=by
           rw[e2,hw.1,<-za2]at i2;exact Nat.le_of_mul_le_mul_right i2 (by omega)
          have BG:=(BV.rgn h4).cut hle;have hl:=d.ki hle;have Wz:sp=none\/sp=some (d.cut off len).w:=by rw[d.LY,<-hw.1];exact hsp
          have hx':=mK id x ⟨_,hB⟩ hx (.inr ⟨off,len,w,pre0,rfl⟩);rcases ho with h0|h0
          . subst h0;have:=reg (d.cut off 0) x o sp cap b h2 ⟨by rw[hl];omega,fun r hr=>by rw[hl]at hr;omega⟩ (by rw[hl];omega) Wz hx';rw[hl]at this;exact this
          . rw[zaF,<-hw.1,<-h0]at BG;have:=reg (d.cut off len) x o sp cap b h2 BG (by rw[hl];exact hc) Wz hx';rw[hl]at this;exact this
       |du _ _ _ hx=>
        rcases hS.blk _ _ hB with⟨_,h0⟩|⟨y,b,h1,_⟩
        . have h0:d.len=0:=h0;exact .dq _ (d.ki (by omega))
        . rw[hx]at h1;cases h1
     . cases h
   . cases h
 . exact absurd rfl (hs _)
 . cases h
theorem Ed {s:SV} {σ τ:Sub} (h:seen s σ=some τ):Sub.le σ τ/\∀id,((∃w ex,s= .buf id w ex)\/(∃o n w p,s= .sl id o n w p))->τ.get (1000000+id)=some (some id):=by
 unfold seen at h
 split at h
 . obtain⟨h1,h2⟩:=Sub.ke h;refine⟨h1, ?_⟩
   rintro id (⟨w,ex,e⟩|⟨o,n,w,p,e⟩)
   . cases e;exact h2
   . cases e
 . obtain⟨h1,h2⟩:=Sub.ke h;refine⟨h1, ?_⟩
   rintro id (⟨w,ex,e⟩|⟨o,n,w,p,e⟩)
   . cases e
   . cases e;exact h2
 . rename_i h1 h2;cases h;refine⟨Sub.le_refl _, ?_⟩
   rintro id (⟨w,ex,e⟩|⟨o,n,w,p,e⟩)
   . exact absurd e (h1 id w ex)
   . exact absurd e (h2 id o n w p)
theorem tT (hS:Sim φ S H) {k:IntKind} {s:SV} {xs:List Int} (h:EI S k s=some xs) {φ':Phi} {own':Nat->Prop} (ho:∀x,own' x->Own φ S x)
 (mK:∀id x,(∃B,S.get id=some B)->φ id=some (some x)->(∃w ex,s= .buf id w ex)\/(∃o n w p,s= .sl id o n w p)->¬own' x) {v:Value} (hv:DV φ H (Own φ S) s v):DV φ' H own' (.deep (.ints k xs)) v:=by
 have dN:∀s v,flat s->DV φ H (Own φ S) s v->DV φ' H own' s v:=fun s v hf hd=>hd.oj ho hf
 unfold EI at h
 split at h
 . cases h;cases hv;exact .dq _ rfl
 . split at h
   . rename_i e;cases h;subst e;exact hv.oj ho trivial
   . cases h
 . split at h
   . rename_i hvw
     split at h
     . rename_i e;cases h;subst e;exact lS hS hv hvw (fun c e=>by cases e) dN mK
     . cases h
   . cases h
 . split at h
   . rename_i hvw
     split at h
     . rename_i e;cases h;subst e;exact lS hS hv hvw (fun c e=>by cases e) dN mK
     . cases h
   . cases h
 . cases h
theorem tt (hS:Sim φ S H) {l:List Sch} {s:SV} {xs:List Dat} (h:Fw S l s=some xs) {φ':Phi} {own':Nat->Prop} (ho:∀x,own' x->Own φ S x)
 (mK:∀id x,(∃B,S.get id=some B)->φ id=some (some x)->(∃w ex,s= .buf id w ex)\/(∃o n w p,s= .sl id o n w p)->¬own' x) {v:Value} (hv:DV φ H (Own φ S) s v):DV φ' H own' (.deep (.ab l xs)) v:=by
 have dN:∀s v,flat s->DV φ H (Own φ S) s v->DV φ' H own' s v:=fun s v hf hd=>hd.oj ho hf
 unfold Fw at h
 split at h
 . cases h;cases hv;exact .dq _ rfl
 . split at h
   . rename_i e;cases h;have:=gY.2 _ _ e;subst this;exact hv.oj ho trivial
   . cases h
 . split at h
   . rename_i hvw
     split at h
     . rename_i e;cases h;have:=gY.2 _ _ e;subst this;exact lS hS hv hvw (fun c e=>by cases e) dN mK
     . cases h
   . cases h
 . split at h
   . rename_i hvw
     split at h
     . rename_i e;cases h;have:=gY.2 _ _ e;subst this;exact lS hS hv hvw (fun c e=>by cases e) dN mK
     . cases h
   . cases h
 . cases h
theorem G6:∀{ss:List SV} {σ τ:Sub},MN ss σ=some τ->Sub.le σ τ/\∀s∈ss,∀id,((∃w ex,s= .buf id w ex)\/(∃o n w p,s= .sl id o n w p))->τ.get (1000000+id)=some (some id)
 |[],σ,τ,h=>by cases h;exact⟨Sub.le_refl _,fun s hs=>by simp at hs⟩
 |a::ss,σ,τ,h=>by
  simp only[MN]at h
  split at h
  . rename_i τ' h1;obtain⟨a1,a2⟩:=Ed h1;obtain⟨b1,b2⟩:=G6 h;refine⟨Sub.le_trans a1 b1,fun s hs id he=> ?_⟩;rcases zaN.1 hs with rfl|hs
    . exact b1 _ _ (a2 id he)
    . exact b2 s hs id he
  . cases h
theorem Fu (hS:Sim φ S H) {c:Sch} {s:SV} {d:Dat} (h:Eb S c s=some d) {φ':Phi} {own':Nat->Prop} (ho:∀x,own' x->Own φ S x)
 (mK:∀id x,(∃B,S.get id=some B)->φ id=some (some x)->(∃w ex,s= .buf id w ex)\/(∃o n w p,s= .sl id o n w p)->¬own' x) {v:Value} (hv:DV φ H (Own φ S) s v):DV φ' H own' (s9 c d) v:=by
 unfold Eb at h
 split at h
 . split at h
   . rename_i e;subst e;cases h;cases hv;exact .i _ _
   . cases h
 . rename_i x;cases h;cases hv;have:(Dat.int (.n (bif x then 1 else 0)) !=0)=x:=by cases x<;>rfl
   simp only[s9,this];exact .b x
 . split at h
   . rename_i xs h1;cases h;have:=tT hS h1 (φ':=φ') ho mK hv;have e:(xs.map Dat.n).map Dat.int=xs:=by rw[List.map_map];exact List.map_id xs
     simp only[s9,Dat.sub,e];exact this
   . cases h
 . split at h
   . rename_i xs h1;cases h;exact tt hS h1 (φ':=φ') ho mK hv
   . cases h
 . cases h
theorem HA:∀{l:List Sch} {ss:List SV} {r:List Dat},LO S l ss=some r->l.length=ss.length/\r.length=ss.length/\∀(j:Nat) c s d,l[j]? =some c->ss[j]? =some s->r[j]? =some d->Eb S c s=some d
 |[],[],r,h=>by cases h;exact⟨rfl,rfl,fun j c s d h=>by simp at h⟩
 |[],_::_,_,h=>by cases h
 |_::_,[],_,h=>by cases h
 |a::l,s::ss,r,h=>by
  simp only[LO]at h
  split at h
  . rename_i d q h1 h2;cases h;obtain⟨g1,g2,g3⟩:=HA h2;refine⟨by simp[g1],by simp[g2],fun j c s' d' a1 a2 a3=> ?_⟩;cases j with
    |zero=>simp at a1 a2 a3;subst a1;subst a2;subst a3;exact h1
    |succ j=>exact g3 j c s' d' (by simpa using a1) (by simpa using a2) (by simpa using a3)
  . cases h
structure Np (φ : Phi) (S : aj) (own' : Nat -> Prop) (n : Nat) (υ : Sub) : Prop where
 keys:∀(j:Nat) y,υ.get j=some y->j<n\/1000000<=j
 out:∀(id x:Nat),υ.get (1000000+id)=some (some id)->(∃B,S.get id=some B)->φ id=some (some x)->¬own' x
def Fits (φ:Phi) (S:aj) (H:ag) (ban:Nat->Prop) (n:Nat) (own':Nat->Prop) (υ:Sub) (s s':SV):Prop:=∀v,DV φ H (Own φ S) s v->DV (φ.sub ban υ n) H own' s' v
theorem Phi.pL {ban:Nat->Prop} {υ:Sub} {n j:Nat} {y:Option Nat} {own':Nat->Prop} (hf:Np φ S own' n υ) (hj:j<1000000) (h:υ.get j=some y):(φ.sub ban υ n) j=(match y with|some id=>φ id|none=>some none):=by
 have hn:j<n:=by
  rcases hf.keys j y h with h|h<;>omega
 unfold Phi.sub;simp only[if_pos hn,h];cases y<;>rfl
section
variable {ban : Nat -> Prop} {n : Nat} {own' : Nat -> Prop}
theorem Fits.agg {υ:Sub} {ss ss':List SV} (hl:ss'.length=ss.length) (h:∀(i:Nat) s s',ss[i]? =some s->ss'[i]? =some s'->Fits φ S H ban n own' υ s s'):Fits φ S H ban n own' υ (.agg ss) (.agg ss'):=by
 intro v hv;cases hv with
 |agg l x' hx vx=>
  refine .agg _ _ (by rw[hl];exact hx) (fun i s v h1 h2=> ?_);have hi:i<ss.length:=by rw[<-hl];exact(zao.1 h1).1
  exact h i _ s (zah hi) h1 v (vx i _ v (zah hi) h2)
theorem Fits.fn {υ:Sub} {g:Nat} {x y x2 y2:List SV} (hl:x2.length=x.length) (hm:y2.length=y.length) (h:∀(i:Nat) s s',x[i]? =some s->x2[i]? =some s'->Fits φ S H ban n own' υ s s')
 (k:∀(i:Nat) s s',y[i]? =some s->y2[i]? =some s'->Fits φ S H ban n own' υ s s'):Fits φ S H ban n own' υ (.fn g x y) (.fn g x2 y2):=by
 intro v hv;cases hv with
 |fn _ _ _ x' y' hx hy vx vy=>
  refine .fn g _ _ _ _ (by rw[hl];exact hx) (by rw[hm];exact hy) (fun i s v h1 h2=> ?_) (fun i s v h1 h2=> ?_)
  . have hi:i<x.length:=by rw[<-hl];exact(zao.1 h1).1
    exact h i _ s (zah hi) h1 v (vx i _ v (zah hi) h2)
  . have hi:i<y.length:=by rw[<-hm];exact(zao.1 h1).1
    exact k i _ s (zah hi) h1 v (vy i _ v (zah hi) h2)
def Yr (φ:Phi) (S:aj) (H:ag) (ban:Nat->Prop) (n:Nat) (own':Nat->Prop) (υ:Sub) (ss ss':List SV):Prop:=ss'.length=ss.length/\∀(i:Nat) s s',ss[i]? =some s->ss'[i]? =some s'->Fits φ S H ban n own' υ s s'
mutual
theorem ac2 (hS:Sim φ S H) (ho:∀x,own' x->Own φ S x):∀(p:VP) (s:SV) (σ τ:Sub) (a:List Un),VP.of S p s σ=some (a,τ)->
 Sub.le σ τ/\a.length=p.size/\∀υ,Sub.le τ υ->Np φ S own' n υ->∀rest,Fits φ S H ban n own' υ s (p.to (a++rest))
 | .any,s,σ,τ,a,h=>by
  simp only[VP.of,zak,zaT]at h;obtain⟨rfl,rfl⟩:=h;exact⟨Sub.le_refl _,rfl,fun _ _ _ _ v _=> .any v⟩
 | .int k,s,σ,τ,a,h=>by
  cases s<;>simp only[VP.of]at h<;>try (cases h;done)
  split at h
  . rename_i e;cases h;subst e;exact⟨Sub.le_refl _,rfl,fun _ _ _ _ v hv=>by cases hv;exact .i _ _⟩
  . cases h
 | .bool,s,σ,τ,a,h=>by
  cases s<;>simp only[VP.of]at h<;>try (cases h;done)
  cases h;exact⟨Sub.le_refl _,rfl,fun _ _ _ _ v hv=>by cases hv;exact .b _⟩
 | .jy,s,σ,τ,a,h=>by
  cases s<;>simp only[VP.of]at h<;>try (cases h;done)
  cases h;exact⟨Sub.le_refl _,rfl,fun _ _ _ _ v hv=>by cases hv;exact .jy⟩
 | .eM,s,σ,τ,a,h=>by
  cases s<;>simp only[VP.of]at h<;>try (cases h;done)
  cases h;exact⟨Sub.le_refl _,rfl,fun _ _ _ _ v hv=>by cases hv;exact .eM⟩
 | .nP,s,σ,τ,a,h=>by
  cases s<;>simp only[VP.of]at h<;>try (cases h;done)
  cases h;exact⟨Sub.le_refl _,rfl,fun _ _ _ _ v hv=>by cases hv;exact .nP⟩
 | .ptr j w col,s,σ,τ,a,h=>by
  cases s<;>simp only[VP.of]at h<;>try (cases h;done)
  split at h
  . rename_i e;obtain⟨rfl,rfl,rfl,hj⟩:=e
    split at h
    . rename_i τ' hb;cases h;obtain⟨h1,h2⟩:=Sub.ke hb;refine⟨h1,rfl,fun υ hle hf rest v hv=> ?_⟩;cases hv with
      |ptr _ _ _ _ x hx=>exact .ptr j 0 w col x (by rw[Phi.pL hf hj (hle _ _ h2)];exact hx)
    . cases h
  . cases h
 | .np j w col,s,σ,τ,a,h=>by
  cases s<;>simp only[VP.of]at h<;>try (cases h;done)
  . cases h;exact⟨Sub.le_refl _,rfl,fun _ _ _ _ v hv=>by cases hv;exact .kU _ _ _ _ (by omega)⟩
  . split at h
    . rename_i e;obtain⟨rfl,rfl,hj⟩:=e
      split at h
      . rename_i τ' hb;cases h;obtain⟨h1,h2⟩:=Sub.ke hb;refine⟨h1,rfl,fun υ hle hf rest v hv=> ?_⟩;cases hv with
        |ptr _ _ _ _ x hx=>exact .np j w col x _ (by omega) (by rw[Phi.pL hf hj (hle _ _ h2)];exact hx)
      . cases h
    . cases h
  . split at h
    . rename_i e;obtain⟨rfl,rfl,hj⟩:=e
      split at h
      . rename_i τ' hb;cases h;obtain⟨h1,h2⟩:=Sub.ke hb;refine⟨h1,rfl,fun υ hle hf rest v hv=> ?_⟩;cases hv with
        |kU _ _ _ _ hn=>exact .kU j w col _ hn
        |np _ _ _ x _ hn hx=>exact .np j w col x _ hn (by rw[Phi.pL hf hj (hle _ _ h2)];exact hx)
      . cases h
    . cases h
 | .sl j w,s,σ,τ,a,h=>by
  cases s<;>simp only[VP.of]at h<;>try (cases h;done)
  . split at h
    . rename_i e;obtain⟨rfl,hj⟩:=e
      split at h
      . rename_i k τ' hk hb;cases h;obtain⟨h1,h2⟩:=Sub.ke hb;refine⟨h1,rfl,fun υ hle hf rest v hv=> ?_⟩;have hat:=Phi.pL (ban:=ban) hf hj (hle _ _ h2);obtain⟨a,cap,rfl,hcap,_⟩:=me hS hv hk;cases hv with
        |buf _ _ _ x _ sp hx hn' hs=>
         exact .sl j 0 _ _ false x 0 sp _ (by rw[hat];exact hx) (.inr (by simp)) (hs.imp id fun h=>h.2.1) (zap _) (fun c hc=>by have:=hn' c hc;simp only[zau];omega) (fun h=>by cases h)
        |eh _ _ hx=>exact .du j _ _ (by rw[hat];exact hx)
      . cases h
    . cases h
  . split at h
    . rename_i e;obtain⟨rfl,hj⟩:=e
      split at h
      . rename_i τ' hb;cases h;obtain⟨h1,h2⟩:=Sub.ke hb;refine⟨h1,rfl,fun υ hle hf rest v hv=> ?_⟩;have hat:=Phi.pL (ban:=ban) hf hj (hle _ _ h2);cases hv with
        |sl _ _ _ _ _ x o sp cap hx ho hs hc hin=>exact .sl j _ _ w false x o sp cap (by rw[hat];exact hx) ho hs hc hin (fun h=>by cases h)
        |du _ _ _ hx=>exact .du j w _ (by rw[hat];exact hx)
      . cases h
    . cases h
 | .buf j w,s,σ,τ,a,h=>by
  cases s<;>simp only[VP.of]at h<;>try (cases h;done)
  . split at h
    . rename_i hj
      split at h
      . rename_i τ' hb;cases h;obtain⟨h1,h2⟩:=Sub.ke hb;refine⟨h1,rfl,fun υ hle hf rest v hv=> ?_⟩;cases hv;exact .eh j w (by rw[Phi.pL hf hj (hle _ _ h2)])
      . cases h
    . cases h
  . split at h
    . rename_i e;obtain⟨rfl,hj⟩:=e
      split at h
      . rename_i τ' hb;cases h;obtain⟨h1,h2⟩:=Sub.ke hb;refine⟨h1,rfl,fun υ hle hf rest v hv=> ?_⟩;have hat:=Phi.pL (ban:=ban) hf hj (hle _ _ h2);cases hv with
        |buf _ _ _ x n sp hx hn hs=>
         refine .buf j _ false x n sp (by rw[hat];exact hx) hn ?_
         rcases hs with h|⟨_,h⟩
         . exact .inl h
         . exact .inr ⟨rfl,h⟩
        |eh _ _ hx=>exact .eh j _ (by rw[hat];exact hx)
      . cases h
    . cases h
 | .ints k,s,σ,τ,a,h=>by
  simp only[VP.of]at h
  split at h
  . rename_i xs τ' h1 h2;cases h;obtain⟨g1,g2⟩:=Ed h2;refine⟨g1,rfl,fun υ hle hf rest v hv=> ?_⟩;exact tT hS h1 ho (fun id x hB hx hs=>hf.out id x (hle _ _ (g2 id hs)) hB hx) hv
  . cases h
 | .ab l,s,σ,τ,a,h=>by
  simp only[VP.of]at h
  split at h
  . rename_i xs τ' h1 h2;cases h;obtain⟨g1,g2⟩:=Ed h2;refine⟨g1,rfl,fun υ hle hf rest v hv=> ?_⟩;exact tt hS h1 ho (fun id x hB hx hs=>hf.out id x (hle _ _ (g2 id hs)) hB hx) hv
  . cases h
 | .dpt l,s,σ,τ,a,h=>by
  cases s<;>simp only[VP.of]at h<;>try (cases h;done)
  . rename_i id row w col
    split at h
    . rename_i e;obtain⟨rfl,rfl⟩:=e
      split at h
      . rename_i cs hB
        split at h
        . rename_i r τ' h1 h2;cases h;obtain⟨g1,g2⟩:=G6 h2;obtain⟨k1,k2,k3⟩:=HA h1;refine⟨g1,rfl,fun υ hle hf rest v hv=> ?_⟩;cases hv with
          |ptr _ _ _ _ x hx=>
           rcases hS.blk _ _ hB with⟨q0,_⟩|⟨y,c,q1,q2,_,q4⟩
           . rw[hx]at q0;cases q0
           . rw[hx]at q1;cases q1;have mK:∀s∈cs,∀id x,(∃B,S.get id=some B)->φ id=some (some x)->(∃w ex,s= .buf id w ex)\/(∃o n w p,s= .sl id o n w p)->¬own' x:=
              fun s hs id x hB hx he=>hf.out id x (hle _ _ (g2 s (zay _ hs) id he)) hB hx
             have hno:¬own' x:=hf.out id x (hle _ _ (g2 _ (List.mem_cons_self ..) id (.inl ⟨_,_,rfl⟩))) ⟨_,hB⟩ hx;have hcl:cs.length=c.cells.length:=q4.1;rw[show 0*w+0=0+0*(aE.ab l [.r r]).w+0 by simp];refine .dp (.ab l [.r r]) 0 0 x 0 c q2 hno (by simp[aE.len,aE.w];omega) (fun rr hr j s' hs' u hu=> ?_);have hr:rr=0:=by simp[aE.len]at hr;exact hr
             subst hr;simp only[aE.row,zaO,iH,zca,zaF]at hs' hu;have hj:j<cs.length:=by rw[hcl];exact(zao.1 hu).1
             have hlj:l[j]? =some l[j]:=zah (by omega);rw[hlj,zbi]at hs';cases hs';have hrj:r[j]? =some r[j]:=zah (by omega);have hd:(Dat.r r).fld j=r[j]:=by simp[Dat.fld,Dat.sub,zaf,hrj]
             have hsj:cs[j]? =some cs[j]:=zah hj
             try rw[hd]
             exact Fu hS (k3 j _ _ _ hlj hsj hrj) ho (mK _ (zbw _)) (q4.2 j _ u hsj hu)
        . cases h
      . cases h
    . cases h
  . split at h
    . rename_i e;obtain⟨rfl,rfl⟩:=e
      split at h
      . split at h
        . rename_i e;cases h;have:=gY.2 _ _ e;subst this;refine⟨Sub.le_refl _,rfl,fun _ _ _ _ v hv=> ?_⟩;cases hv with
          |dp _ _ _ x o blk hb hno hl hc=>exact .dp _ 0 0 x o blk hb (fun h=>hno (ho x h)) hl (fun r hr j s hs v hv=>(hc r hr j s hs v hv).oj ho (kO hs))
        . cases h
      . cases h
    . cases h
 | .fn g x y,s,σ,τ,a,h=>by
  cases s<;>simp only[VP.of]at h<;>try (cases h;done)
  split at h
  . rename_i e;subst e
    split at h
    . rename_i c τ1 h1
      split at h
      . rename_i d τ2 h2;cases h;obtain⟨a1,a2,a3⟩:=uF hS ho x _ _ _ _ h1;obtain⟨b1,b2,b3⟩:=uF hS ho y _ _ _ _ h2;refine⟨Sub.le_trans a1 b1,by simp[VP.size,a2,b2],fun υ hle hf rest=> ?_⟩;simp only[VP.to,zaq];rw[<-a2,za8];obtain⟨c1,c2⟩:=a3 υ (Sub.le_trans b1 hle) hf (d++rest);obtain⟨d1,d2⟩:=b3 υ hle hf rest;exact Fits.fn c1 d1 c2 d2
      . cases h
    . cases h
  . cases h
 | .agg l,s,σ,τ,a,h=>by
  cases s<;>simp only[VP.of]at h<;>try (cases h;done)
  obtain⟨a1,a2,a3⟩:=uF hS ho l _ _ _ _ h;refine⟨a1,by simp[VP.size,a2],fun υ hle hf rest=> ?_⟩;obtain⟨c1,c2⟩:=a3 υ hle hf rest;exact Fits.agg c1 c2
theorem uF (hS:Sim φ S H) (ho:∀x,own' x->Own φ S x):∀(ps:List VP) (ss:List SV) (σ τ:Sub) (a:List Un),VP.ofs S ps ss σ=some (a,τ)->
 Sub.le σ τ/\a.length=VP.mB ps/\∀υ,Sub.le τ υ->Np φ S own' n υ->∀rest,Yr φ S H ban n own' υ ss (VP.tos ps (a++rest))
 |[],ss,σ,τ,a,h=>by
  cases ss<;>simp only[VP.ofs]at h<;>try (cases h;done)
  cases h;exact⟨Sub.le_refl _,rfl,fun _ _ _ _=>⟨rfl,fun i s s' h1 h2=>by simp at h1⟩⟩
 |p::ps,ss,σ,τ,a,h=>by
  cases ss<;>simp only[VP.ofs]at h<;>try (cases h;done)
  rename_i s ss
  split at h
  . rename_i c τ1 h1
    split at h
    . rename_i d τ2 h2;cases h;obtain⟨a1,a2,a3⟩:=ac2 hS ho p _ _ _ _ h1;obtain⟨b1,b2,b3⟩:=uF hS ho ps _ _ _ _ h2;refine⟨Sub.le_trans a1 b1,by simp[VP.mB,a2,b2],fun υ hle hf rest=> ?_⟩;simp only[VP.tos,zaq];rw[<-a2,za8];have c1:=a3 υ (Sub.le_trans b1 hle) hf (d++rest);obtain⟨d1,d2⟩:=b3 υ hle hf rest;refine⟨by simp[d1],fun i u u' h3 h4=> ?_⟩;cases i with
      |zero=>
       simp at h3 h4;subst h3;subst h4;exact c1
      |succ i=>
       simp only[zaZ]at h3 h4;exact d2 i u u' h3 h4
    . cases h
  . cases h
end
end
end
end
end
end Go.Proofs.YtfaojedfnjdnnaaGreat.Ev
namespace Go.Proofs.YtfaojedfnjdnnaaGreat.Ev
noncomputable section
noncomputable section
open Go
theorem aj.Jg (S:aj) (b:Option aS) (k:Nat):(S.rl b).root.get k=if k=S.size then b else S.root.get k:=
 STr.fS _ _ _ _ _ (Nat.lt_succ_self _)
theorem foldl_push:∀(l:List (Option aS)) (S:aj),(l.foldl aj.rl S).size=S.size+l.length/\(l.foldl aj.rl S).lock=S.lock/\(l.foldl aj.rl S).hid=S.hid/\
 ∀j,(l.foldl aj.rl S).root.get j=if S.size<=j/\j<S.size+l.length then(l[j-S.size]?).join else S.root.get j
 |[],S=>by
  refine⟨by simp,rfl,rfl,fun j=> ?_⟩;rw[if_neg (by simp)];rfl
 |b::l,S=>by
  obtain⟨h1,h2,h3,h4⟩:=foldl_push l (S.rl b);have hs:(S.rl b).size=S.size+1:=rfl;refine⟨by simp only[zbX,zac];rw[h1,hs];omega,h2,h3,fun j=> ?_⟩;simp only[zbX,zac];rw[h4,hs,aj.Jg]
  by_cases h:S.size+1<=j/\j<S.size+1+l.length
  . rw[if_pos h,if_pos (by omega),show j-S.size=(j-(S.size+1))+1 by omega,zaZ]
  . rw[if_neg h]
    by_cases e:j=S.size
    . rw[if_pos e,if_pos (by omega),e];simp
    . rw[if_neg e,if_neg (by omega)]
theorem m9 (l:List (Option aS)):(gH l).size=l.length:=by
 have:=(foldl_push l ⟨0,.e,0,[]⟩).1;simpa[gH]using this
theorem Kj (l:List (Option aS)):(gH l).hid=[]:=(foldl_push l ⟨0,.e,0,[]⟩).2.2.1
theorem AW (l:List (Option aS)) (j:Nat):(gH l).get j=(l[j]?).join:=by
 by_cases h:j<l.length
 . rw[aj.fN (by rw[m9];exact h) (by rw[Kj];rfl)];have:=(foldl_push l ⟨0,.e,0,[]⟩).2.2.2 j;unfold gH;rw[this,if_pos ⟨zbt _,by simpa using h⟩];simp
 . rw[zaW (by omega)];unfold aj.get;rw[if_neg (by rw[m9];exact h)];rfl
theorem pV {l:List (Option aS)} {j:Nat} {B:aS} (h:(gH l).get j=some B):l[j]? =some (some B):=by
 rw[AW]at h;cases hl:l[j]? with
 |none=>rw[hl]at h;cases h
 |some x=>rw[hl]at h;simp at h;rw[h]
section
variable {φ : Phi} {S : aj} {H : ag} {ban : Nat -> Prop} {n : Nat} {own' : Nat -> Prop}
def Told (φ:Phi) (S:aj) (H:ag) (ban:Nat->Prop) (n:Nat) (own':Nat->Prop) (υ:Sub) (B:aS) (B':Option aS):Prop:=
 ∀C,B'=some C->(∀cs,BV φ H (Own φ S) B cs->BV (φ.sub ban υ n) H own' C cs)/\(B.empty->C.empty)
theorem RQ (hS:Sim φ S H) (ho:∀x,own' x->Own φ S x) {p:BP} {B:aS} {σ τ:Sub} {a:List Un} (h:BP.of S p B σ=some (a,τ)):
 Sub.le σ τ/\a.length=p.size/\∀υ,Sub.le τ υ->Np φ S own' n υ->∀rest,Told φ S H ban n own' υ B (p.to (a++rest)):=by
 unfold BP.of at h
 split at h
 . rename_i l l';obtain⟨h1,h2,h3⟩:=uF (n:=n) (ban:=ban) hS ho l l' _ _ _ h;refine⟨h1,h2,fun υ hle hf rest C hC=> ?_⟩;cases hC;refine⟨fun cs hB=> ?_,fun _=>trivial⟩;obtain⟨c1,c2⟩:=h3 υ hle hf rest;refine⟨by rw[c1];exact hB.1,fun i s v g1 g2=> ?_⟩;have hi:i<l'.length:=by rw[<-c1];exact(zao.1 g1).1
   exact c2 i _ s (zah hi) g1 v (hB.2 i _ v (zah hi) g2)
 . split at h
   . rename_i e;cases h;subst e;refine⟨Sub.le_refl _,rfl,fun υ hle hf rest C hC=> ?_⟩;cases hC;refine⟨fun cs hB=> ?_,fun e=>e⟩;exact⟨hB.1,fun r hr j s hs v hv=>(hB.2 r hr j s hs v hv).oj ho (kO hs)⟩
   . cases h
 . split at h
   . rename_i e;cases h;have:=gY.2 _ _ e;subst this;refine⟨Sub.le_refl _,rfl,fun υ hle hf rest C hC=> ?_⟩;cases hC;refine⟨fun cs hB=> ?_,fun e=>e⟩;exact⟨hB.1,fun r hr j s hs v hv=>(hB.2 r hr j s hs v hv).oj ho (kO hs)⟩
   . cases h
 . split at h
   . rename_i e;obtain⟨rfl,rfl,hj⟩:=e
     split at h
     . rename_i τ' hb;cases h;obtain⟨h1,h2⟩:=Sub.ke hb;refine⟨h1,rfl,fun υ hle hf rest C hC=> ?_⟩;cases hC;refine⟨fun cs hB=>⟨hB.1,fun r v hr hv=> ?_⟩,fun e=>e⟩;have:=hB.2 r v hr hv;cases this with
       |kU _ _ _ _ hn=>exact .kU _ _ _ _ hn
       |np _ _ _ x _ hn hx=>exact .np _ _ _ x _ hn (by rw[Phi.pL hf hj (hle _ _ h2)];exact hx)
     . cases h
   . cases h
 . cases h
mutual
theorem Qv:∀(p:VP),p.T9.length=p.size
 | .int _=>rfl
 | .np _ _ _=>rfl
 | .sl _ _=>rfl
 | .bool=>rfl
 | .ints _=>rfl
 | .ab _=>rfl
 | .dpt _=>rfl
 | .fn _ x y=>by simp[VP.T9,VP.size,nU x,nU y]
 | .agg l=>by simp[VP.T9,VP.size,nU l]
 | .any=>rfl
 | .jy=>rfl
 | .eM=>rfl
 | .nP=>rfl
 | .ptr _ _ _=>rfl
 | .buf _ _=>rfl
theorem nU:∀(l:List VP),(VP.Aa l).length=VP.mB l
 |[]=>rfl
 |p::ps=>by simp[VP.Aa,VP.mB,Qv p,nU ps]
end
theorem OG (p:BP):p.nil.length=p.size/\∀rest C,p.to (p.nil++rest)=some C->C.empty:=by
 cases p with
 |cells l=>exact⟨nU l,fun rest C h=>by cases h;trivial⟩
 |ints k=>exact⟨rfl,fun rest C h=>by cases h;rfl⟩
 |ab l=>exact⟨rfl,fun rest C h=>by cases h;rfl⟩
 |fh j w col=>exact⟨rfl,fun rest C h=>by cases h;rfl⟩
 |gone=>exact⟨rfl,fun rest C h=>by cases h⟩
theorem uA:∀(ps:List BP) (us:List Un),(dA ps us).length=ps.length
 |[],_=>rfl
 |p::ps,us=>by simp[dA,uA ps]
theorem B9 {p:BP} (h:p.jQ=true) (us:List Un):p.size=0/\p.to us=none:=by
 cases p<;>simp[BP.jQ]at h
 exact⟨rfl,rfl⟩
theorem bind_none {σ:Sub} {j:Nat} (h:σ.get j=none):Sub.le σ ((j,none)::σ)/\Sub.get ((j,none)::σ) j=some none:=by
 refine⟨fun k y hk=> ?_,by simp[Sub.get]⟩;simp only[Sub.get]
 split
 . rename_i e;subst e;rw[h]at hk;cases hk
 . exact hk
theorem kv (hS:Sim φ S H) (ho:∀x,own' x->Own φ S x):∀{ps:List BP} {j:Nat} {σ τ:Sub} {a:List Un},pW S j ps σ=some (a,τ)->
 Sub.le σ τ/\∀υ,Sub.le τ υ->Np φ S own' n υ->∀rest,∀i B',(dA ps (a++rest))[i]? =some (some B')->
  (υ.get (j+i)=some none/\B'.empty)\/∃id B,υ.get (j+i)=some (some id)/\S.get id=some B/\(∀cs,BV φ H (Own φ S) B cs->BV (φ.sub ban υ n) H own' B' cs)/\(B.empty->B'.empty)
 |[],j,σ,τ,a,h=>by
  simp only[pW,zak,zaT]at h;obtain⟨rfl,rfl⟩:=h;exact⟨Sub.le_refl _,fun υ _ _ rest i B' hi=>by simp[dA]at hi⟩
 |p::ps,j,σ,τ,a,h=>by
  simp only[pW]at h
  split at h
  . rename_i hg;obtain⟨b1,b2⟩:=kv hS ho h;refine⟨b1,fun υ hle hf rest i B' hi=> ?_⟩;obtain⟨g1,g2⟩:=B9 hg (a++rest);cases i with
    |zero=>
     simp only[dA,zbu,zak,g2]at hi;cases hi
    |succ i=>
     simp only[dA,zaZ,g1,zbQ]at hi;have:=b2 υ hle hf rest i B' hi
     rwa [show j+1+i=j+(i+1) by omega]at this
  . split at h
    . rename_i id hid
      split at h
      . rename_i B hB
        split at h
        . rename_i c τ1 h1
          split at h
          . rename_i d τ2 h2;cases h;obtain⟨a1,a2,a3⟩:=RQ (n:=n) (ban:=ban) hS ho h1;obtain⟨b1,b2⟩:=kv hS ho h2;refine⟨Sub.le_trans a1 b1,fun υ hle hf rest i B' hi=> ?_⟩;cases i with
            |zero=>
             simp only[dA,zbu,zak]at hi;rw[zaq]at hi;obtain⟨c1,c2⟩:=a3 υ (Sub.le_trans b1 hle) hf (d++rest) B' hi;exact .inr ⟨id,B,hle _ _ (b1 _ _ (a1 _ _ hid)),hB,c1,c2⟩
            |succ i=>
             simp only[dA,zaZ]at hi;rw[zaq,<-a2,za8]at hi;have:=b2 υ hle hf rest i B' hi
             rwa [show j+1+i=j+(i+1) by omega]at this
          . cases h
        . cases h
      . cases h
    . rename_i hid
      split at h
      . rename_i d τ2 h2;cases h;obtain⟨a2,a3⟩:=OG p;obtain⟨b1,b2⟩:=kv hS ho h2;refine⟨b1,fun υ hle hf rest i B' hi=> ?_⟩;cases i with
        |zero=>
         simp only[dA,zbu,zak]at hi;rw[zaq]at hi;exact .inl ⟨hle _ _ (b1 _ _ hid),a3 _ _ hi⟩
        |succ i=>
         simp only[dA,zaZ]at hi;rw[zaq,<-a2,za8]at hi;have:=b2 υ hle hf rest i B' hi
         rwa [show j+1+i=j+(i+1) by omega]at this
      . cases h
    . rename_i hid
      split at h
      . rename_i d τ2 h2;cases h;obtain⟨a2,a3⟩:=OG p;obtain⟨b1,b2⟩:=kv hS ho h2;obtain⟨e1,e2⟩:=bind_none hid;refine⟨Sub.le_trans e1 b1,fun υ hle hf rest i B' hi=> ?_⟩;cases i with
        |zero=>
         simp only[dA,zbu,zak]at hi;rw[zaq]at hi;exact .inl ⟨hle _ _ (b1 _ _ e2),a3 _ _ hi⟩
        |succ i=>
         simp only[dA,zaZ]at hi;rw[zaq,<-a2,za8]at hi;have:=b2 υ hle hf rest i B' hi
         rwa [show j+1+i=j+(i+1) by omega]at this
      . cases h
theorem Mx:∀{σ:Sub} {j:Nat} {y:Option Nat},σ.get j=some y->(j,y)∈σ
 |[],j,y,h=>by cases h
 |(i,x)::σ,j,y,h=>by
  simp only[Sub.get]at h
  split at h
  . rename_i e;cases h;subst e;simp
  . exact zay _ (Mx h)
theorem vM:∀{σ:Sub},Sub.apart σ=true->∀{j k id:Nat},σ.get j=some (some id)->σ.get k=some (some id)->j=k
 |[],_,_,_,_,h,_=>by cases h
 |(i,x)::r,ha,j,k,id,h1,h2=>by
  simp only[Sub.apart,zae]at ha;obtain⟨ha1,ha2⟩:=ha;have mem:∀{σ:Sub} {j:Nat} {y:Option Nat},σ.get j=some y->(j,y)∈σ:=by
   intro σ
   induction σ with
   |nil=>intro j y h;cases h
   |cons p σ ih=>
    intro j y h;obtain⟨i,x⟩:=p;simp only[Sub.get]at h
    split at h
    . rename_i e;cases h;subst e;simp
    . exact zay _ (ih h)
  simp only[Sub.get]at h1 h2
  by_cases e1:j=i
  . by_cases e2:k=i
    . rw[e1,e2]
    . rw[if_pos e1]at h1;rw[if_neg e2]at h2;cases h1;simp only[zam,zbj,zaI]at ha1;rcases ha1 _ (mem h2)with h|h
      . simp at h
      . exact absurd h e2
  . rw[if_neg e1]at h1
    by_cases e2:k=i
    . rw[if_pos e2]at h2;cases h2;simp only[zam,zbj,zaI]at ha1;rcases ha1 _ (mem h1)with h|h
      . simp at h
      . exact absurd h e1
    . rw[if_neg e2]at h2;exact vM ha2 h1 h2
theorem xJ {σ:Sub} {n lk lock:Nat} (h:Sub.keys σ n lk lock=true) {j:Nat} {y:Option Nat} (hj:σ.get j=some y):1000000<=j\/(j<n/\∀id,y=some id->lk<=j->lock<=id):=by
 have mem:∀{σ:Sub} {j:Nat} {y:Option Nat},σ.get j=some y->(j,y)∈σ:=by
  intro σ
  induction σ with
  |nil=>intro j y h;cases h
  |cons p σ ih=>
   intro j y h;obtain⟨i,x⟩:=p;simp only[Sub.get]at h
   split at h
   . rename_i e;cases h;subst e;simp
   . exact zay _ (ih h)
 simp only[Sub.keys,zam]at h;have:=h _ (mem hj);simp only[zbj,zae,zag]at this;rcases this with h|⟨h1,h2⟩
 . exact .inl h
 . refine .inr ⟨h1, ?_⟩
   rintro id rfl hlk
   have h2:j<lk\/lock<=id:=by simpa using h2
   omega
theorem lV:∀{ps:List BP} {j:Nat} {σ τ:Sub} {a:List Un},pW S j ps σ=some (a,τ)->(∀σ1 σ2 p B b,BP.of S p B σ1=some (b,σ2)->Sub.le σ1 σ2)->
 Sub.le σ τ/\∀i p,ps[i]? =some p->p.jQ=false->τ.get (j+i)=some none\/∃id B,τ.get (j+i)=some (some id)/\S.get id=some B
 |[],j,σ,τ,a,h,_=>by
  simp only[pW,zak,zaT]at h;obtain⟨rfl,rfl⟩:=h;exact⟨Sub.le_refl _,fun i p hi=>by simp at hi⟩
 |p::ps,j,σ,τ,a,h,hle=>by
  simp only[pW]at h
  split at h
  . rename_i hg;obtain⟨b1,b2⟩:=lV h hle;refine⟨b1,fun i q hi hq=> ?_⟩;cases i with
    |zero=>simp at hi;subst hi;rw[hg]at hq;cases hq
    |succ i=>
     have:=b2 i q (by simpa using hi) hq
     rwa [show j+1+i=j+(i+1) by omega]at this
  . split at h
    . rename_i id hid
      split at h
      . rename_i B hB
        split at h
        . rename_i c τ1 h1
          split at h
          . rename_i d τ2 h2;cases h;have a1:=hle _ _ _ _ _ h1;obtain⟨b1,b2⟩:=lV h2 hle;refine⟨Sub.le_trans a1 b1,fun i q hi hq=> ?_⟩;cases i with
            |zero=>exact .inr ⟨id,B,b1 _ _ (a1 _ _ hid),hB⟩
            |succ i=>
             have:=b2 i q (by simpa using hi) hq
             rwa [show j+1+i=j+(i+1) by omega]at this
          . cases h
        . cases h
      . cases h
    . rename_i hid
      split at h
      . rename_i d τ2 h2;cases h;obtain⟨b1,b2⟩:=lV h2 hle;refine⟨b1,fun i q hi hq=> ?_⟩;cases i with
        |zero=>exact .inl (b1 _ _ hid)
        |succ i=>
         have:=b2 i q (by simpa using hi) hq
         rwa [show j+1+i=j+(i+1) by omega]at this
      . cases h
    . rename_i hid
      split at h
      . rename_i d τ2 h2;cases h;obtain⟨b1,b2⟩:=lV h2 hle;obtain⟨e1,e2⟩:=bind_none hid;refine⟨Sub.le_trans e1 b1,fun i q hi hq=> ?_⟩;cases i with
        |zero=>exact .inl (b1 _ _ e2)
        |succ i=>
         have:=b2 i q (by simpa using hi) hq
         rwa [show j+1+i=j+(i+1) by omega]at this
      . cases h
theorem rP:∀{ps:List BP} {us:List Un} {j:Nat} {B:aS},(dA ps us)[j]? =some (some B)->∃p,ps[j]? =some p/\p.jQ=false
 |[],us,j,B,h=>by simp[dA]at h
 |p::ps,us,0,B,h=>by
  simp only[dA,zbu,zak]at h;refine⟨p,by simp, ?_⟩;cases hg:p.jQ with
  |false=>rfl
  |true=>rw[(B9 hg us).2]at h;cases h
 |p::ps,us,j+1,B,h=>by
  simp only[dA,zaZ]at h;simpa using rP h
theorem WG {p:Pn} {σ0:Sub} {vs:List SV} {us:List Un} {τ:Sub} (h:p.of σ0 vs S=some (us,τ)) (hS:Sim φ S H) (Ot:∀x,ban x->Own φ S x)
 (hv:∀(id x:Nat) B,τ.get (1000000+id)=some (some id)->S.get id=some B->φ id=some (some x)->¬ban x):
 Sim (φ.sub ban τ p.ct.length) (p.bx us) H/\(∀ws,DVL φ H (Own φ S) vs ws->DVL (φ.sub ban τ p.ct.length) H (Own (φ.sub ban τ p.ct.length) (p.bx us)) (p.fx us) ws)/\
 (∀x,fE (φ.sub ban τ p.ct.length) (p.bx us) x->∃(j id:Nat) (B:aS),j<p.ct.length/\τ.get j=some (some id)/\S.get id=some B/\φ id=some (some x))/\
 (∀j id,j<p.ct.length->τ.get j=some (some id)->(φ.sub ban τ p.ct.length) j=φ id)/\Sub.le σ0 τ/\Sub.apart τ=true/\Sub.keys τ p.ct.length p.lk S.lock=true/\(∀q∈σ0,q.1<p.ct.length)/\
 (∀x,pJ (φ.sub ban τ p.ct.length) (p.bx us) x->∃(j id:Nat) (B:aS),p.lk<=j/\j<p.ct.length/\τ.get j=some (some id)/\S.lock<=id/\S.get id=some B/\φ id=some (some x)):=by
 unfold Pn.of at h
 split at h
 . rename_i a σ h1
   split at h
   . rename_i c τ' h2
     split at h
     . rename_i hc;obtain⟨hk,hap,hn,hin⟩:=hc;cases h;have KX:∀σ1 σ2 (p:BP) B b,BP.of S p B σ1=some (b,σ2)->Sub.le σ1 σ2:=fun σ1 σ2 p B b hb=>
        (RQ (φ:=φ) (H:=H) (ban:=fun _=>False) (n:=0) (own':=fun _=>False) hS (fun _ h=>h.elim) hb).1
       obtain⟨aai,WA⟩:=lV h2 KX;have hsz:(p.bx (a++c)).size=p.ct.length:=by show(gH _).size=_;rw[m9,uA]
       have Iq:∀j B,(p.bx (a++c)).get j=some B->j<p.ct.length:=fun j B h=>by have:=aj.ba h;omega
       have hat:∀j,j<p.ct.length->∀y,τ.get j=some y->(φ.sub ban τ p.ct.length) j=(match y with|some id=>φ id|none=>some none):=by
        intro j hj y hy;unfold Phi.sub;simp only[if_pos hj,hy];cases y<;>rfl
       have adN:∀x,pJ (φ.sub ban τ p.ct.length) (p.bx (a++c)) x->∃(j id:Nat) (B:aS),p.lk<=j/\j<p.ct.length/\τ.get j=some (some id)/\S.lock<=id/\S.get id=some B/\φ id=some (some x):=by
        rintro x ⟨j,B,g0,g1,g2⟩
        have hj:=Iq j B g1;obtain⟨q,q1,q2⟩:=rP (pV g1);rcases WA j q q1 q2 with g3|⟨id,B0,g3,g4⟩
        . rw[zaF]at g3;rw[hat j hj _ g3]at g2;cases g2
        . rw[zaF]at g3;rw[hat j hj _ g3]at g2;have g0:p.lk<=j:=g0;refine⟨j,id,B0,g0,hj,g3, ?_,g4,g2⟩;rcases xJ hk g3 with h|⟨_,h⟩
          . have:=hn.1;omega
          . exact h id rfl g0
       have S8:∀x,fE (φ.sub ban τ p.ct.length) (p.bx (a++c)) x->∃(j id:Nat) (B:aS),j<p.ct.length/\τ.get j=some (some id)/\S.get id=some B/\φ id=some (some x):=by
        rintro x ⟨j,B,g1,g2⟩
        have hj:=Iq j B g1;obtain⟨q,q1,q2⟩:=rP (pV g1);rcases WA j q q1 q2 with g3|⟨id,B0,g3,g4⟩
        . rw[zaF]at g3;rw[hat j hj _ g3]at g2;cases g2
        . rw[zaF]at g3;rw[hat j hj _ g3]at g2;exact⟨j,id,B0,hj,g3,g4,g2⟩
       have lA:∀x,Own (φ.sub ban τ p.ct.length) (p.bx (a++c)) x->Own φ S x:=by
        rintro x (hx|hx)
        . exact Ot x hx
        . obtain⟨j,id,B,_,_,g1,g2⟩:=S8 x hx;exact .inr ⟨id,B,g1,g2⟩
       have WZ:Np φ S (Own (φ.sub ban τ p.ct.length) (p.bx (a++c))) p.ct.length τ:=by
        refine⟨fun j y hy=> ?_,fun id x hid ⟨B,hB⟩ hx=> ?_⟩
        . rcases xJ hk hy with h|⟨h,_⟩
          . exact .inr h
          . exact .inl h
        . rintro(hb|hb)
          . exact hv id x B hid hB hx hb
          . obtain⟨j,id',B',g0,g1,g2,g3⟩:=S8 x hb;have:=hS.inj id id' B B' x hB g2 hx g3;subst this;have:=vM hap hid g1;omega
       obtain⟨afE,ha,adO⟩:=uF (n:=p.ct.length) (ban:=ban) hS lA p.VT vs _ _ _ h1;obtain⟨_,adP⟩:=kv (n:=p.ct.length) (ban:=ban) hS lA h2;have xH:∀j B',(p.bx (a++c)).get j=some B'->(τ.get j=some none/\B'.empty)\/∃id B,τ.get j=some (some id)/\S.get id=some B/\
        (∀cs,BV φ H (Own φ S) B cs->BV (φ.sub ban τ p.ct.length) H (Own (φ.sub ban τ p.ct.length) (p.bx (a++c))) B' cs)/\(B.empty->B'.empty):=by
        intro j B' hB';have hB':=pV hB';have:=adP τ (Sub.le_refl _) WZ [] j B' (by
         rw[zaH];have e:(a++c).drop p.size=c:=by
          unfold Pn.size;rw[<-ha,za8]
         rw[e]at hB';exact hB')
        rwa [zaF]at this
       refine⟨⟨?_, ?_, ?_, ?_, ?_,hS.dT,hS.gW⟩, ?_,S8,fun j id hj hid=>hat j hj _ hid,Sub.le_trans afE aai,hap,hk,fun q hq=>by simpa using zam.1 hin q hq,adN⟩
       . intro j B' hB';have hj:=Iq j B' hB';rcases xH j B' hB' with⟨g1,g2⟩|⟨id,B,g1,g2,g3,g4⟩
         . exact .inl ⟨hat j hj _ g1,g2⟩
         . have e:=hat j hj _ g1;rcases hS.blk id B g2 with⟨g5,g6⟩|⟨x,d,g5,g6,g7,g8⟩
           . exact .inl ⟨by rw[e];exact g5,g4 g6⟩
           . refine .inr ⟨x,d,by rw[e];exact g5,g6,fun hlk=>g7 ?_,g3 _ g8⟩;have hlk:p.lk<=j:=hlk;rcases xJ hk g1 with h|⟨_,h⟩
             . have:=hn.1;omega
             . exact h id rfl hlk
       . intro j j' B B' x g1 g2 g3 g4;have hj:=Iq j B g1;have hj':=Iq j' B' g2;rcases xH j B g1 with⟨e1,_⟩|⟨id,C,e1,e2,_⟩
         . rw[hat j hj _ e1]at g3;cases g3
         . rcases xH j' B' g2 with⟨f1,_⟩|⟨id',C',f1,f2,_⟩
           . rw[hat j' hj' _ f1]at g4;cases g4
           . rw[hat j hj _ e1]at g3;rw[hat j' hj' _ f1]at g4;have:=hS.inj id id' C C' x e2 f2 g3 g4;subst this;exact vM hap e1 f1
       . intro j hj;rw[hsz]at hj;unfold Phi.sub;simp only[if_neg (show ¬j<p.ct.length by omega)]
       . intro j x hx;unfold Phi.sub at hx;simp only at hx
         split at hx
         . split at hx
           . rename_i id _;exact hS.lt id x hx
           . cases hx
           . cases hx
         . cases hx
       . rw[hsz];exact hn.2
       . intro ws hws;obtain⟨c1,c2⟩:=adO τ aai WZ c;refine⟨by unfold Pn.fx;rw[c1];exact hws.1,fun i s v g1 g2=> ?_⟩;have hi:i<vs.length:=by rw[<-c1];exact(zao.1 g1).1
         exact c2 i _ s (zah hi) g1 v (hws.2 i _ v (zah hi) g2)
     . cases h
   . cases h
 . cases h
theorem Rr {p:Pn} {σ0:Sub} {vs:List SV} {us:List Un} {τ:Sub} (h:p.of σ0 vs S=some (us,τ)):p.ct.length<=1000000:=by
 unfold Pn.of at h
 split at h
 . split at h
   . split at h
     . rename_i hc;exact hc.2.2.1.1
     . cases h
   . cases h
 . cases h
theorem UE {p:Pn} {σ0:Sub} {vs:List SV} {us:List Un} {τ:Sub} (h:p.of σ0 vs S=some (us,τ)) (hS:Sim φ S H) (hgn:p.ct.any BP.jQ=false) {j id:Nat} (hj:j<p.ct.length) (hid:τ.get j=some (some id)):∃B,S.get id=some B:=by
 unfold Pn.of at h
 split at h
 . rename_i a σ h1
   split at h
   . rename_i c τ' h2
     split at h
     . rename_i hc;cases h;have KX:∀σ1 σ2 (p:BP) B b,BP.of S p B σ1=some (b,σ2)->Sub.le σ1 σ2:=fun σ1 σ2 p B b hb=>
        (RQ (φ:=φ) (H:=H) (ban:=fun _=>False) (n:=0) (own':=fun _=>False) hS (fun _ h=>h.elim) hb).1
       obtain⟨_,WA⟩:=lV h2 KX;have hq:p.ct[j]? =some p.ct[j]:=zah hj;cases hg:(p.ct[j]).jQ with
       |false=>
        rcases WA j _ hq hg with g3|⟨id',B0,g3,g4⟩
        . rw[zaF,hid]at g3;cases g3
        . rw[zaF,hid]at g3;cases g3;exact⟨B0,g4⟩
       |true=>
        have:=List.any_eq_false.1 hgn _ (zbw hj);exact absurd hg this
     . cases h
   . cases h
 . cases h
end
end
end
end Go.Proofs.YtfaojedfnjdnnaaGreat.Ev
namespace Go.Proofs.YtfaojedfnjdnnaaGreat.Ev
noncomputable section
noncomputable section
open Go
structure lH (K : List Nat) (φ : Phi) (S : aj) (H : ag) (φ' : Phi) (S' : aj) (H' : ag) : Prop where
 sim:Sim φ' S' H'
 ban:φ'.ban=φ.ban
 own:∀x,x<H.size->fE φ' S' x->fE φ S x
 FH:∀x,x<H.size->pJ φ' S' x->pJ φ S x
 fw:∀x,x<H.size->¬pJ φ S x->H'.get x=H.get x
 len:∀x c',x<H.size->H'.root.get x=some c'->∃c,H.root.get x=some c/\c'.cells.length=c.cells.length
 ft:H.size<=H'.size
 dT:H'.lock=H.lock
 gW:H'.hid=H.hid
 ent:∀j,j∈K->∀y,φ j=some y->φ' j=some y
section
variable {K : List Nat} {φ φ' φ'' : Phi} {S S' S'' : aj} {H H' H'' : ag}
theorem lH.trans (a:lH K φ S H φ' S' H') (b:lH K φ' S' H' φ'' S'' H''):lH K φ S H φ'' S'' H'' where
 sim:=b.sim
 ban:=b.ban.trans a.ban
 own x h1 h2:=a.own x h1 (b.own x (zaD h1 a.ft) h2)
 FH x h1 h2:=a.FH x h1 (b.FH x (zaD h1 a.ft) h2)
 fw x h1 h2:=(b.fw x (zaD h1 a.ft) (fun h=>h2 (a.FH x h1 h))).trans (a.fw x h1 h2)
 len x c' h1 h2:=by
  obtain⟨c1,h3,h4⟩:=b.len x c' (zaD h1 a.ft) h2;obtain⟨c2,h5,h6⟩:=a.len x c1 h1 h3;exact⟨c2,h5,h4.trans h6⟩
 ft:=zaP a.ft b.ft
 dT:=b.dT.trans a.dT
 gW:=b.gW.trans a.gW
 ent j hj y h:=b.ent j hj y (a.ent j hj y h)
theorem Step.since (h:Step φ S H φ' S' H'):lH K φ S H φ' S' H':=
 ⟨h.sim,h.ban,h.own,fun x hx=>h.FH hx,h.fw,h.len,h.ft,h.dT,h.gW,fun j _ y hy=>h.le j y hy⟩
theorem NB.since (hn:NB φ S H) (h:lH K φ S H φ' S' H'):NB φ' S' H':=fun x hx=>by
 rw[h.ban]at hx;obtain⟨a,b⟩:=hn x hx;exact⟨zaD a h.ft,fun ho=>b (h.own x a ho)⟩
theorem L0:∀{K:List Nat} {j:Nat},j∈K->(idn K).get j=some (some j)
 |i::K,j,h=>by
  simp only[idn,zaS,Sub.get]
  by_cases e:j=i
  . rw[if_pos e,e]
  . rw[if_neg e];refine L0 (K:=K) ?_
    rcases zaN.1 h with h|h
    . exact absurd h e
    . exact h
theorem tX {p:Pn} {vs:List SV} {us:List Un} {τ:Sub} (h:p.of (idn K) vs S=some (us,τ)) (hnb:NB φ S H) (hS:Sim φ S H):
 ∃φ',lH K φ S H φ' (p.bx us) H/\∀ws,DVL φ H (Own φ S) vs ws->DVL φ' H (Own φ' (p.bx us)) (p.fx us) ws:=by
 obtain⟨h1,h2,h3,h4,h5,_,h6,h7,h8⟩:=WG (ban:=φ.ban) h hS (fun x hx=> .inl hx) (fun id x B _ hB hx hb=>(hnb x hb).2 ⟨id,B,hB,hx⟩);refine⟨_,⟨h1,rfl,fun x _ hx=> ?_,fun x _ hx=> ?_,fun _ _ _=>rfl,fun x c' _ h=>⟨c',h,rfl⟩,zap _,rfl,rfl,fun j hj y hy=> ?_⟩,h2⟩
 . obtain⟨j,id,B,_,_,g1,g2⟩:=h3 x hx;exact⟨id,B,g1,g2⟩
 . obtain⟨j,id,B,_,_,_,g0,g1,g2⟩:=h8 x hx;exact⟨id,B,g0,g1,g2⟩
 . rw[h4 j j (h7 (j,some j) (za7.2 ⟨j,hj,rfl⟩)) (h5 _ _ (L0 hj))];exact hy
end
structure aQ where
 tags:List Tag
 pat:Pn
 F:List Un->Option (List Un)
def LP (ex:Pn) (K:List Nat) (vs:List SV) (S:aj):Option (List Un):=
 match ex.of (idn K) vs S with
 |some (us,_)=>some us
 |none=>none
def aQ.at (t:aQ) (K:List Nat) (s:SSt):Option (List Un):=
 match t.pat.of (idn K) s.fr s.hp with
 |some (us,_)=>t.F us
 |none=>none
def NQ (P:Program) (rv:List ResultVar) (ex:Pn) (K:List Nat) (W:List aQ) (its:List Item) (s:SSt):Option (List Un):=
 match its with
 |[]=>tc P s.hp s.fr rv fun vs=>LP ex K vs s.hp
 |_=>
  match W.find? fun t=>decide (t.tags=its.map Item.tag)with
  |some t=>t.at K s
  |none=>none
section
variable {P : Program} {L : List FuncId} {O : bp} {kn : FuncId -> Bool} {T : tz} {K : List Nat} {ex : Pn} {rv : List ResultVar} {body : Code}
def XU (P:Program) (L:List FuncId) (O:bp) (rv:List ResultVar) (ex:Pn) (K:List Nat) (its:List Item) (fv:List Value) (H:ag) (φ:Phi) (S:aj) (ys:List Un):Prop:=
 ∃y H' φ',lD P L O rv its ⟨fv,H⟩ (y,H')/\lH K φ S H φ' (ex.bx ys) H'/\DV φ' H' (Own φ' (ex.bx ys)) (nc (ex.fx ys)) y
def As (P:Program) (L:List FuncId) (O:bp) (rv:List ResultVar) (ex:Pn) (K:List Nat) (body:Code) (t:aQ):Prop:=
 ∀its φ fr S fv H ys,eA body its->its.map Item.tag=t.tags->NB φ S H->Sim φ S H->DVL φ H (Own φ S) fr fv->t.at K ⟨fr,S⟩=some ys->XU P L O rv ex K its fv H φ S ys
theorem IC {W:List aQ} (hW:∀t∈W,As P L O rv ex K body t) {its:List Item} {φ:Phi} {fr:List SV} {S:aj} {fv:List Value} {H:ag} {ys:List Un}
 (ha:eA body its) (hnb:NB φ S H) (hS:Sim φ S H) (hf:DVL φ H (Own φ S) fr fv) (h:NQ P rv ex K W its ⟨fr,S⟩=some ys):XU P L O rv ex K its fv H φ S ys:=by
 unfold NQ at h
 split at h
 . obtain⟨ss,vs,h1,h2,h3⟩:=kh hS hf h;unfold LP at h3
   split at h3
   . rename_i us τ hof;cases h3;obtain⟨φ',g1,g2⟩:=tX hof hnb hS;exact⟨lC vs,H,φ',⟨(.normal,⟨fv,H⟩),.nil,by simp only[fin,h1];rfl⟩,g1,m8 (g2 vs h2)⟩
   . cases h3
 . split at h
   . rename_i t ht;have hd:=List.find?_some ht;exact hW t (List.mem_of_find?_eq_some ht) its φ fr S fv H ys ha (zaj hd).symm hnb hS hf h
   . cases h
theorem WL (hkn:∀g,kn g=false->∀args H,O g args H=none) (hT:fC P L O T) {W:List aQ} (hW:∀t∈W,As P L O rv ex K body t) {d n:Nat} {stop:List Nat->Bool} {its:List Item} {φ:Phi} {fr:List SV} {S:aj} {fv:List Value} {H:ag} {ys:List Un}
 (ha:eA body its) (hnb:NB φ S H) (hS:Sim φ S H) (hf:DVL φ H (Own φ S) fr fv) (h:iI P L T (zV P L T kn d) stop n its ⟨fr,S⟩ (NQ P rv ex K W)=some ys):XU P L O rv ex K its fv H φ S ys:=by
 obtain⟨qz,φ1,fr1,S1,fv1,H1,hk,ha1,hst,hf1,hm⟩:=kq hT (xt hkn hT d) h ha (fun _=>hnb) hS hf;obtain⟨y,H',φ',g1,g2,g3⟩:=IC hW ha1 (hnb.step hst) hst.sim hf1 hk;exact⟨y,H',φ',hm _ _ g1,hst.since.trans g2,g3⟩
theorem aQ.step (hkn:∀g,kn g=false->∀args H,O g args H=none) (hT:fC P L O T) {W:List aQ} {t:aQ} {p:List Nat} {rest:List Tag} {its:List Item} {b:Code} {d n:Nat} {stop:List Nat->Bool}
 (ht:t.tags= .lp p::rest) (hi:hP body rest=some its) (hb:nav body (0::p)=some b) (hW:∀t∈W,As P L O rv ex K body t)
 (h:∀us ys,t.F us=some ys->iI P L T (zV P L T kn d) stop n (.code (0::p) b:: .lp p b::its) ⟨t.pat.fx us,t.pat.bx us⟩ (NQ P rv ex K W)=some ys):As P L O rv ex K body t:=by
 intro qz φ fr S fv H ys ha SZ hnb hS hf hat;obtain⟨a1,a2⟩:=nm hi;have hl:Tag.item body (.lp p)=some (.lp p b):=by simp[Tag.item,hb]
 have:qz= .lp p b::its:=by
  refine eA.same ha (.cons (i:= .lp p b) hl a1) ?_
  rw[SZ,ht];simp[Item.tag,a2]
 subst this;unfold aQ.at at hat
 split at hat
 . rename_i us τ hof;obtain⟨φ1,g1,g2⟩:=tX hof hnb hS;obtain⟨y,H',φ',k1,k2,k3⟩:=WL hkn hT hW (.cons (by simp[Item.tag,Tag.item,hb]) (.cons (i:= .lp p b) hl a1)) (hnb.since g1) g1.sim (g2 fv hf) (h us ys hat);exact⟨y,H',φ',k1.of fun q hq=> .round hq,g1.trans k2,k3⟩
 . cases hat
def ve (P:Program) (L:List FuncId) (O:bp) (g:FuncId) (en ex:Pn) (us ys:List Un):Prop:=
 ∀φ H vs,NB φ (en.bx us) H->Sim φ (en.bx us) H->DVL φ H (Own φ (en.bx us)) (en.fx us) vs->
  ∃N y H' φ',bJ P L O N g vs H=some (y,H')/\lH (bw en ex) φ (en.bx us) H φ' (ex.bx ys) H'/\DV φ' H' (Own φ' (ex.bx ys)) (nc (ex.fx ys)) y
end
class Uns (A:Type) where
 enc:A->List Un
 dec:List Un->Option (A × List Un)
 ok:∀us a r,dec us=some (a,r)->us=enc a++r
instance : Uns Int := ⟨fun n => [.i n], fun us => match us with | .i n :: r => some (n, r) | _ => none, fun us a r h => by split at h <;> simp_all⟩
instance : Uns Bool := ⟨fun n => [.b n], fun us => match us with | .b n :: r => some (n, r) | _ => none, fun us a r h => by split at h <;> simp_all⟩
instance : Uns (List Int) := ⟨fun n => [.l n], fun us => match us with | .l n :: r => some (n, r) | _ => none, fun us a r h => by split at h <;> simp_all⟩
instance : Uns (List Dat) := ⟨fun n => [.d n], fun us => match us with | .d n :: r => some (n, r) | _ => none, fun us a r h => by split at h <;> simp_all⟩
instance : Uns Unit := ⟨fun _ => [], fun us => some ((), us), fun us a r h => by simp_all⟩
instance {A B : Type} [Uns A] [Uns B] : Uns (A × B) := ⟨fun p => Uns.enc p.1 ++ Uns.enc p.2,
 fun us=>match (Uns.dec us:Option (A × List Un))with|some (a,r)=>(match (Uns.dec r:Option (B × List Un))with|some (b,s)=>some ((a,b),s)|none=>none)|none=>none,
 fun us p r h=>by
  split at h
  . rename_i a r1 h1
    split at h
    . rename_i b s h2;cases h;rw[Uns.ok _ _ _ h1,Uns.ok _ _ _ h2,zaq]
    . cases h
  . cases h⟩
abbrev Uns.via {A B:Type} [Uns B] (f:A->B) (g:B->A) (h:∀b,f (g b)=b):Uns A:=⟨fun a=>Uns.enc (f a),fun us=>match (Uns.dec us:Option (B × List Un))with|some (b,r)=>some (g b,r)|none=>none,fun us a r e=>by
 split at e
 . rename_i b r1 h1;cases e;rw[Uns.ok _ _ _ h1,h]
 . cases e⟩
def onU {A:Type} {R:Type _} [Uns A] (f:A->Option R) (us:List Un):Option R:=
 match (Uns.dec us:Option (A × List Un))with
 |some (a,r)=>(match r with|[]=>f a|_=>none)
 |none=>none
theorem pt {A:Type} {R:Type _} [Uns A] {f:A->Option R} {us:List Un} {r:R} (h:onU f us=some r):∃a,us=Uns.enc a/\f a=some r:=by
 unfold onU at h
 split at h
 . rename_i a s h1
   split at h
   . exact⟨a,by rw[Uns.ok _ _ _ h1];simp,h⟩
   . cases h
 . cases h
structure aA where
 T:tz
 g:FuncId
 en:Pn
 ex:Pn
 un:List (List Nat)
def XR:List Nat->List Nat->Bool
 |[],[]=>true
 |a::r,b::s=>a==b&&XR r s
 |_,_=>false
def abP:List Nat->Bool
 |d::_=>d==9
 |[]=>false
def IG (un:List (List Nat)) (p:List Nat):Bool:=
 match abP p with
 |true=>un.any fun q=>XR p q
 |false=> !(un.any fun q=>XR p q)
def frm (n:Nat) (l:List (Nat × VP)):List VP:=(List.range n).map fun i=>(l.lookup i).getD .any
section
variable (P : Program) (L : List FuncId) (O : bp) (kn : FuncId -> Bool) (F : aA)
def aA.body:Code:=j5 (dt P F.g)
def aA.rv:List ResultVar:=(dt P F.g).results.toList
def aA.K:List Nat:=bw F.en F.ex
def aA.gL (t:aQ):Prop:=As P L O (F.rv P) F.ex F.K (F.body P) t
def aA.Kn (tg:List Tag) (pat:Pn) (us:List Un) (W:List aQ):Option (List Un):=
 match tg with
 | .lp p::rest=>
  (match nav (F.body P) (0::p),hP (F.body P) rest with
   |some b,some its=>iI P L F.T (zV P L F.T kn 20) (IG F.un) 100000 (.code (0::p) b:: .lp p b::its) ⟨pat.fx us,pat.bx us⟩ (NQ P (F.rv P) F.ex F.K W)
   |_,_=>none)
 |_=>none
def aA.Gf (us:List Un) (W:List aQ):Option (List Un):=
 iI P L F.T (zV P L F.T kn 20) (IG F.un) 100000 [.code [] (F.body P)] ⟨F.en.fx us++List.replicate ((dt P F.g).ntmps-(F.en.fx us).length) (.tup []),F.en.bx us⟩ (NQ P (F.rv P) F.ex F.K W)
end
def aZ {A:Type} (Fs:(A->Option (List Un))->A->Option (List Un)):Nat->A->Option (List Un)
 |0=>fun _=>none
 |n+1=>Fs (aZ Fs n)
section
variable {P : Program} {L : List FuncId} {O : bp} {kn : FuncId -> Bool} {F : aA}
theorem an {A:Type} [Uns A] (hkn:∀g,kn g=false->∀args H,O g args H=none) (hT:fC P L O F.T) {tg:List Tag} {pat:Pn} {Fs:(A->Option (List Un))->A->Option (List Un)} (W:(A->Option (List Un))->List aQ)
 (hW:∀k,F.gL P L O ⟨tg,pat,onU k⟩->∀t∈W k,F.gL P L O t)
 (G:∀k a,F.Kn P L kn tg pat (Uns.enc a) (W k)=Fs k a) (n:Nat):F.gL P L O ⟨tg,pat,onU (aZ Fs n)⟩:=by
 induction n with
 |zero=>
  intro its φ fr S fv H ys _ _ _ _ _ hv;unfold aQ.at at hv
  split at hv
  . obtain⟨a,_,h⟩:=pt hv;cases h
  . cases hv
 |succ n ih=>
  intro its φ fr S fv H ys ha SZ hnb hS hf hat;have afF:=hat;unfold aQ.at at hat
  split at hat
  . obtain⟨a,_,h⟩:=pt hat;have h:Fs (aZ Fs n) a=some ys:=h;rw[<-G]at h;unfold aA.Kn at h
    split at h
    . rename_i p rest
      split at h
      . rename_i b S7 hb hi;refine aQ.step (W:=W (aZ Fs n)) (d:=20) (n:=100000) (stop:=IG F.un) hkn hT rfl hi hb (hW _ ih) (fun us zs hv=> ?_) its φ fr S fv H ys ha SZ hnb hS hf afF;obtain⟨a',e,hv2⟩:=pt (f:=aZ Fs (n+1)) hv;have hv2:Fs (aZ Fs n) a'=some zs:=hv2;rw[<-G]at hv2;unfold aA.Kn at hv2;simp only[hb,hi]at hv2;rw[e];exact hv2
      . cases h
    . cases h
  . cases hat
theorem aA.R3 (hkn:∀g,kn g=false->∀args H,O g args H=none) (hT:fC P L O F.T) {us ys:List Un} {W:List aQ} (hk:kn F.g=false) (hg:(P.funcs[F.g]?).isSome=true) (hb:(dt P F.g).body.isSome=true)
 (hW:∀t∈W,F.gL P L O t) (h:F.Gf P L kn us W=some ys):ve P L O F.g F.en F.ex us ys:=by
 obtain⟨fn,hg⟩:=zbE.1 hg;have hf:dt P F.g=fn:=by simp[dt,hg]
 unfold aA.gL aA.body aA.rv aA.K at hW;unfold aA.Gf aA.body aA.rv aA.K at h;rw[hf]at hb hW h;obtain⟨c,hb⟩:=zbE.1 hb;have hc:j5 fn=c:=by simp[j5,hb]
 rw[hc]at hW h;intro φ H vs hnb hS hd;obtain⟨y,H',φ',h1,h2,h3⟩:=WL hkn hT hW yU hnb hS (CF hd fn.ntmps) h;obtain⟨N,hN⟩:=lN (hkn F.g hk _ _) hg hb h1;exact⟨N,y,H',φ',hN,h2,h3⟩
end
end
end
end Go.Proofs.YtfaojedfnjdnnaaGreat.Ev
namespace Go.Proofs.YtfaojedfnjdnnaaGreat.Ev
noncomputable section
noncomputable section
open Go
mutual
def BU (ρ:Nat->Nat):SV->SV
 | .ptr id row w col=> .ptr (ρ id) row w col
 | .buf id w ex=> .buf (ρ id) w ex
 | .sl id off len w p=> .sl (ρ id) off len w p
 | .np id w col n=> .np (ρ id) w col n
 | .fn g x y=> .fn g (pc ρ x) (pc ρ y)
 | .agg l=> .agg (pc ρ l)
 | .tup l=> .tup (pc ρ l)
 |v=>v
def pc (ρ:Nat->Nat):List SV->List SV
 |[]=>[]
 |v::l=>BU ρ v::pc ρ l
end
mutual
def Bn:SV->Bool
 | .deep _=>false
 | .dp _ _ _=>false
 | .fn _ x y=>jS x&&jS y
 | .agg l=>jS l
 | .tup l=>jS l
 |_=>true
def jS:List SV->Bool
 |[]=>true
 |v::l=>Bn v&&jS l
end
def Sch.flat:Sch->Bool
 | .int _=>true
 | .bool=>true
 |_=>false
def Rw:aE->Bool
 | .ints _ _=>true
 | .ab l _=>l.all Sch.flat
def E9 (ρ:Nat->Nat):aS->aS
 | .cells l=> .cells (pc ρ l)
 | .cont c=> .cont c
 | .fh id w col rows=> .fh (ρ id) w col rows
def QH:aS->Bool
 | .cells l=>jS l
 | .cont c=>Rw c
 | .fh _ _ _ _=>true
theorem gg (ρ:Nat->Nat):∀(l:List SV) (i:Nat),(pc ρ l)[i]? =(l[i]?).map (BU ρ)
 |[],i=>by simp[pc]
 |v::l,0=>by simp[pc]
 |v::l,i+1=>by simp only[pc,zaZ];exact gg ρ l i
theorem gd (ρ:Nat->Nat):∀(l:List SV),(pc ρ l).length=l.length
 |[]=>rfl
 |v::l=>by simp[pc,gd ρ l]
theorem jM:∀{l:List SV} {i:Nat} {s:SV},jS l=true->l[i]? =some s->Bn s=true
 |[],i,s,_,h=>by simp at h
 |v::l,0,s,hl,h=>by simp only[jS,zae]at hl;simp at h;subst h;exact hl.1
 |v::l,i+1,s,hl,h=>by simp only[jS,zae]at hl;exact jM hl.2 (by simpa using h)
theorem PB {c:aE} (h:Rw c=true) {r j:Nat} {s:SV} (hs:(c.row r)[j]? =some s):(∃k n,s= .i k n)\/∃x,s= .b x:=by
 cases c with
 |ints k xs=>
  simp only[aE.row]at hs;cases j with
  |zero=>simp at hs;subst hs;exact .inl ⟨_,_,rfl⟩
  |succ j=>simp at hs
 |ab l xs=>
  simp only[aE.row]at hs;rw[iH]at hs;cases hl:l[j]? with
  |none=>rw[hl]at hs;cases hs
  |some sc=>
   rw[hl]at hs;cases hs;simp only[Rw,zam]at h;have:=h sc (zaQ hl);cases sc with
   |int k=>exact .inl ⟨_,_,rfl⟩
   |bool=>exact .inr ⟨_,rfl⟩
   |ints k=>cases this
   |ab l=>cases this
section
variable {φ φ' φ'' : Phi} {H H' : ag} {own own' : Nat -> Prop} {ρ : Nat -> Nat}
theorem DV.ren (hρ:∀j y,φ j=some y->φ' (ρ j)=some y) {s:SV} {v:Value} (h:DV φ H own s v):Bn s=true->DV φ' H own' (BU ρ s) v:=by
 induction h with
 |any v=>intro _;exact .any v
 |i k n=>intro _;exact .i k n
 |b x=>intro _;exact .b x
 |str s=>intro _;exact .str s
 |jy=>intro _;exact .jy
 |eM=>intro _;exact .eM
 |nP=>intro _;exact .nP
 |AX=>intro _;exact .AX
 |ptr id row w col x h=>intro _;exact .ptr _ row w col x (hρ _ _ h)
 |buf id w ex x n sp h hn hs=>intro _;exact .buf _ w ex x n sp (hρ _ _ h) hn hs
 |eh id w h=>intro _;exact .eh _ w (hρ _ _ h)
 |sl id off len w p x o sp cap h ho hs hc hin hp=>intro _;exact .sl _ off len w p x o sp cap (hρ _ _ h) ho hs hc hin hp
 |du id w p h=>intro _;exact .du _ w p (hρ _ _ h)
 |dq c h=>intro h;cases h
 |deep c x o sp cap blk hs hc hb ho hl _ ih=>intro h;cases h
 |dp c row col x o blk hb ho hl _ ih=>intro h;cases h
 |kU id w col n hn=>intro _;exact .kU _ w col n hn
 |np id w col x n hn h=>intro _;exact .np _ w col x n hn (hρ _ _ h)
 |fn g x y x' y' hx hy _ _ ix iy=>
  intro h;simp only[Bn,zae]at h;refine .fn g _ _ x' y' (by rw[gd];exact hx) (by rw[gd];exact hy) (fun i s v h1 h2=> ?_) (fun i s v h1 h2=> ?_)
  . rw[gg,zai]at h1;obtain⟨u,h3,rfl⟩:=h1;exact ix i u v h3 h2 (jM h.1 h3)
  . rw[gg,zai]at h1;obtain⟨u,h3,rfl⟩:=h1;exact iy i u v h3 h2 (jM h.2 h3)
 |agg l x' hx _ ix=>
  intro h;refine .agg _ x' (by rw[gd];exact hx) (fun i s v h1 h2=> ?_);rw[gg,zai]at h1;obtain⟨u,h3,rfl⟩:=h1;exact ix i u v h3 h2 (jM (by simpa[Bn]using h) h3)
 |tup l x' hx _ ix=>
  intro h;refine .tup _ x' (by rw[gd];exact hx) (fun i s v h1 h2=> ?_);rw[gg,zai]at h1;obtain⟨u,h3,rfl⟩:=h1;exact ix i u v h3 h2 (jM (by simpa[Bn]using h) h3)
theorem Au {s:SV} (h:flat s):BU ρ s=s:=by cases s<;>first|rfl|exact h.elim
theorem DV.X6 (hρ:∀j y,φ j=some y->φ' (ρ j)=some y) (ho:∀x c,H.get x=some c->¬own x->¬own' x) {s:SV} {v:Value} (h:DV φ H own s v):DV φ' H own' (BU ρ s) v:=by
 induction h with
 |any v=>exact .any v
 |i k n=>exact .i k n
 |b x=>exact .b x
 |str s=>exact .str s
 |jy=>exact .jy
 |eM=>exact .eM
 |nP=>exact .nP
 |AX=>exact .AX
 |ptr id row w col x h=>exact .ptr _ row w col x (hρ _ _ h)
 |buf id w ex x n sp h hn hs=>exact .buf _ w ex x n sp (hρ _ _ h) hn hs
 |eh id w h=>exact .eh _ w (hρ _ _ h)
 |sl id off len w p x o sp cap h h1 hs hc hin hp=>exact .sl _ off len w p x o sp cap (hρ _ _ h) h1 hs hc hin hp
 |du id w p h=>exact .du _ w p (hρ _ _ h)
 |dq c h=>exact .dq c h
 |deep c x o sp cap blk hs hc hb h1 hl _ ih=>
  refine .deep c x o sp cap blk hs hc hb (ho x blk hb h1) hl (fun r hr j s hj v hv=> ?_);have:=ih r hr j s hj v hv
  rwa [Au (kO hj)]at this
 |dp c row col x o blk hb h1 hl _ ih=>
  refine .dp c row col x o blk hb (ho x blk hb h1) hl (fun r hr j s hj v hv=> ?_);have:=ih r hr j s hj v hv
  rwa [Au (kO hj)]at this
 |kU id w col n hn=>exact .kU _ w col n hn
 |np id w col x n hn h=>exact .np _ w col x n hn (hρ _ _ h)
 |fn g x y x' y' hx hy _ _ ix iy=>
  refine .fn g _ _ x' y' (by rw[gd];exact hx) (by rw[gd];exact hy) (fun i s v h1 h2=> ?_) (fun i s v h1 h2=> ?_)
  . rw[gg,zai]at h1;obtain⟨u,h3,rfl⟩:=h1;exact ix i u v h3 h2
  . rw[gg,zai]at h1;obtain⟨u,h3,rfl⟩:=h1;exact iy i u v h3 h2
 |agg l x' hx _ ix=>
  refine .agg _ x' (by rw[gd];exact hx) (fun i s v h1 h2=> ?_);rw[gg,zai]at h1;obtain⟨u,h3,rfl⟩:=h1;exact ix i u v h3 h2
 |tup l x' hx _ ix=>
  refine .tup _ x' (by rw[gd];exact hx) (fun i s v h1 h2=> ?_);rw[gg,zai]at h1;obtain⟨u,h3,rfl⟩:=h1;exact ix i u v h3 h2
theorem BV.ren (hρ:∀j y,φ j=some y->φ' (ρ j)=some y) {B:aS} {cs:List Value} (h:BV φ H own B cs) (hl:QH B=true\/∀x c,H.get x=some c->¬own x->¬own' x):BV φ' H own' (E9 ρ B) cs:=by
 cases B with
 |cells l=>
  refine⟨by rw[gd];exact h.1,fun i s v h1 h2=> ?_⟩;rw[gg,zai]at h1;obtain⟨u,h3,rfl⟩:=h1;rcases hl with hl|hl
  . exact(h.2 i u v h3 h2).ren hρ (jM hl h3)
  . exact(h.2 i u v h3 h2).X6 hρ hl
 |cont c=>
  refine⟨h.1,fun r hr j s hs v hv=> ?_⟩;have:=h.2 r hr j s hs v hv;rcases hl with hl|hl
  . rcases PB hl hs with⟨k,n,rfl⟩|⟨x,rfl⟩
    . cases this;exact .i _ _
    . cases this;exact .b _
  . have:=this.X6 (ρ:=ρ) hρ hl
    rwa [Au (kO hs)]at this
 |fh id w col rows=>
  refine⟨h.1,fun r v hr hv=> ?_⟩;have:=h.2 r v hr hv;cases this with
  |kU _ _ _ _ hn=>exact .kU _ _ _ _ hn
  |np _ _ _ x _ hn hx=>exact .np _ _ _ x _ hn (hρ _ _ hx)
theorem Jw {B:aS} (h:B.empty):(E9 ρ B).empty:=by cases B<;>exact h
end
def gn:List (Nat × Option aS)->Nat->Option (Option aS)
 |[],_=>none
 |(j,b)::r,k=>if k=j then some b else gn r k
def lQ:List (Nat × Option aS)->aj->aj
 |[],S=>S
 |(j,b)::r,S=>(lQ r S).put j b
theorem rp:∀(l:List (Nat × Option aS)) (S:aj),(lQ l S).size=S.size/\(lQ l S).lock=S.lock/\(lQ l S).hid=S.hid
 |[],S=>⟨rfl,rfl,rfl⟩
 |p::r,S=>rp r S
theorem oG:∀(l:List (Nat × Option aS)) (S:aj) (k:Nat),(lQ l S).root.get k=match gn l k with|some b=>b|none=>S.root.get k
 |[],S,k=>rfl
 |(j,b)::r,S,k=>by
  simp only[lQ,gn];rw[aj.cT]
  split
  . rfl
  . exact oG r S k
theorem pz:∀{l:List (Nat × Option aS)} {k:Nat} {b:Option aS},gn l k=some b->(k,b)∈l
 |[],k,b,h=>by cases h
 |(j,c)::r,k,b,h=>by
  simp only[gn]at h
  split at h
  . rename_i e;cases h;subst e;simp
  . exact zay _ (pz h)
theorem jm:∀{l:List (Nat × Option aS)} {k:Nat},gn l k=none->∀b,(k,b)∉l
 |[],k,h,b=>by simp
 |(j,c)::r,k,h,b=>by
  simp only[gn]at h
  split at h
  . cases h
  . rename_i e;intro hm;rcases zaN.1 hm with hm|hm
    . cases hm;exact e rfl
    . exact jm h b hm
def B1 (K:List Nat) (τ:Sub) (j:Nat):Option Nat:=match K.contains j with|true=>(match τ.get j with|some (some id)=>some id|_=>none)|false=>none
def jC (K:List Nat) (τ:Sub) (n j:Nat):Nat:=match B1 K τ j with|some id=>id|none=>n+j
def Az (lk:Nat) (K:List Nat) (τ:Sub) (ρ:Nat->Nat) (Bs:List (Option aS)) (n:Nat):List (Nat × Option aS):=
 (List.range n).filterMap fun j=>match decide (lk<=j)with
  |true=>(match τ.get j with|some (some id)=>some (id,match K.contains j with|true=>((Bs[j]?).join).map (E9 ρ)|false=>none)|_=>none)
  |false=>none
def qN (τ:Sub):List (Nat × Option aS):=τ.filterMap fun p=>match decide (1000000<=p.1)with|true=>(match p.2 with|some id=>some (id,none)|none=>none)|false=>none
def Ga (τ:Sub) (S:aj):Bool:=(qN τ).all fun p=>decide (S.lock<=p.1)&&(S.get p.1).isSome
def lE (lk:Nat) (K:List Nat) (τ:Sub) (ρ:Nat->Nat):Nat->List (Option aS)->List (Option aS)
 |_,[]=>[]
 |j,b::r=>(match decide (lk<=j)with
  |true=>(match B1 K τ j with|some _=>none|none=>b.map (E9 ρ))
  |false=>none)::lE lk K τ ρ (j+1) r
theorem Cj (lk:Nat) (K:List Nat) (τ:Sub) (ρ:Nat->Nat):∀(j:Nat) (l:List (Option aS)),(lE lk K τ ρ j l).length=l.length
 |_,[]=>rfl
 |j,b::r=>by simp[lE,Cj lk K τ ρ]
theorem CU {lk:Nat} {K:List Nat} {τ:Sub} {ρ:Nat->Nat}:∀{l:List (Option aS)} {j i:Nat} {B:aS},(lE lk K τ ρ j l)[i]? =some (some B)->(B1 K τ (j+i)=none/\lk<=j+i)/\∃C,l[i]? =some (some C)/\B=E9 ρ C
 |[],j,i,B,h=>by simp[lE]at h
 |b::r,j,0,B,h=>by
  simp only[lE,zbu,zak]at h
  split at h
  . rename_i hl
    split at h
    . cases h
    . rename_i e;rw[zai]at h;obtain⟨C,rfl,rfl⟩:=h;exact⟨⟨e,zaj hl⟩,C,by simp,rfl⟩
  . cases h
 |b::r,j,i+1,B,h=>by
  simp only[lE,zaZ]at h;obtain⟨h1,C,h2,h3⟩:=CU h;exact⟨by rw[show j+(i+1)=j+1+i by omega];exact h1,C,by simpa using h2,h3⟩
theorem AP:∀{ps:List BP} {us:List Un} {j:Nat} {p:BP},ps[j]? =some p->p.jQ=false->∃B,(dA ps us)[j]? =some (some B)
 |[],us,j,p,h,_=>by simp at h
 |q::ps,us,0,p,h,hg=>by
  simp only[zbu,zak]at h;subst h;simp only[dA,zbu,zak];unfold BP.to
  split<;>first|exact⟨_,rfl⟩|cases hg
 |q::ps,us,j+1,p,h,hg=>by
  simp only[dA,zaZ];exact AP (by simpa using h) hg
def nC (iK:List (Nat × Option aS)) (news:List (Option aS)) (S:aj):aj:=news.foldl aj.rl (lQ iK S)
inductive Ys : Type 1 where
 |now (ys:List Un)
 |bind (B:Type) (b:B) (enc:B->List Un)
def Ys.us:Ys->List Un
 | .now ys=>ys
 | .bind _ b enc=>enc b
structure oU where
 en:Pn
 ex:Pn
 f:List Un->Option (Bool × Ys)
def Oz:Option aS->Bool
 |some B=>QH B
 |none=>true
def oU.lean (e:oU) (ys:List Un):Bool:=jS (e.ex.fx ys)&&((dA e.ex.ct (ys.drop e.ex.size)).drop e.en.lk).all Oz
def Xh (en ex:Pn):Bool:=(List.range en.lk).all (fun j=>(bw en ex).contains j)&&decide (ex.lk<=en.lk)
def oU.run (e:oU) (args:List SV) (S:aj):Option (Bool × Is):=
 match e.en.ct.any BP.jQ|| !Xh e.en e.ex,e.en.of [] args S with
 |false,some (us,τ)=>
  (match e.f us with
   |some (c,.bind B b enc)=>
    (match e.lean (enc b)with
     |true=>some (c,.bind B b fun u=>(BU (jC (bw e.en e.ex) τ S.size) (nc (e.ex.fx (enc u))),
      nC (Az e.en.lk (bw e.en e.ex) τ (jC (bw e.en e.ex) τ S.size) (dA e.ex.ct ((enc u).drop e.ex.size)) e.en.ct.length) (lE e.en.lk (bw e.en e.ex) τ (jC (bw e.en e.ex) τ S.size) 0 (dA e.ex.ct ((enc u).drop e.ex.size))) S))
     |false=>
      (match S.hid.isEmpty&&Ga τ S with
       |true=>some (c,.bind B b fun u=>(BU (jC (bw e.en e.ex) τ S.size) (nc (e.ex.fx (enc u))),
        nC (Az e.en.lk (bw e.en e.ex) τ (jC (bw e.en e.ex) τ S.size) (dA e.ex.ct ((enc u).drop e.ex.size)) e.en.ct.length++qN τ) (lE e.en.lk (bw e.en e.ex) τ (jC (bw e.en e.ex) τ S.size) 0 (dA e.ex.ct ((enc u).drop e.ex.size))) S))
       |false=>none))
   |some (c,.now ys)=>
    (match e.lean ys with
     |true=>some (c,.now (BU (jC (bw e.en e.ex) τ S.size) (nc (e.ex.fx ys)))
      (nC (Az e.en.lk (bw e.en e.ex) τ (jC (bw e.en e.ex) τ S.size) (dA e.ex.ct (ys.drop e.ex.size)) e.en.ct.length) (lE e.en.lk (bw e.en e.ex) τ (jC (bw e.en e.ex) τ S.size) 0 (dA e.ex.ct (ys.drop e.ex.size))) S))
     |false=>
      (match S.hid.isEmpty&&Ga τ S with
       |true=>some (c,.now (BU (jC (bw e.en e.ex) τ S.size) (nc (e.ex.fx ys)))
        (nC (Az e.en.lk (bw e.en e.ex) τ (jC (bw e.en e.ex) τ S.size) (dA e.ex.ct (ys.drop e.ex.size)) e.en.ct.length++qN τ) (lE e.en.lk (bw e.en e.ex) τ (jC (bw e.en e.ex) τ S.size) 0 (dA e.ex.ct (ys.drop e.ex.size))) S))
       |false=>none))
   |none=>none)
 |_,_=>none
section
variable {P : Program} {L : List FuncId} {O : bp} {φ : Phi} {S : aj} {H : ag}
theorem I9 {l:List SV} (h:jS l=true):Bn (nc l)=true:=by
 match l,h with
 |[],_=>rfl
 |[s],h=>simp only[jS,zbf]at h;exact h
 |a::b::l,h=>exact h
theorem Lg {en ex:Pn} {j:Nat} (h:j∈bw en ex):j<en.ct.length/\∃b,ex.ct[j]? =some b/\b.jQ=false:=by
 simp only[bw,List.mem_filter,zbC]at h;refine⟨h.1, ?_⟩;have h2:=h.2
 split at h2
 . rename_i b hb;exact⟨b,hb,by simpa using h2⟩
 . cases h2
theorem oW {en ex:Pn} {g:FuncId} {us ys:List Un} {τ:Sub} {args:List SV} (hE:ve P L O g en ex us ys) (hof:en.of [] args S=some (us,τ)) (hgn:en.ct.any BP.jQ=false) (hlo:Xh en ex=true) (ln:Bool) (iK:List (Nat × Option aS))
 (hln:ln=true->jS (ex.fx ys)=true/\((dA ex.ct (ys.drop ex.size)).drop en.lk).all Oz=true)
 (hnl:ln=false->NB φ S H/\(∀p∈qN τ,S.lock<=p.1/\(S.get p.1).isSome=true))
 (lB:iK=Az en.lk (bw en ex) τ (jC (bw en ex) τ S.size) (dA ex.ct (ys.drop ex.size)) en.ct.length++(bif ln then[]else qN τ))
 {vs:List Value} (hS:Sim φ S H) (hd:DVL φ H (Own φ S) args vs):
 ∃N y H',bJ P L O N g vs H=some (y,H')/\Got φ S H (nC iK (lE en.lk (bw en ex) τ (jC (bw en ex) τ S.size) 0 (dA ex.ct (ys.drop ex.size))) S) (BU (jC (bw en ex) τ S.size) (nc (ex.fx ys))) H' y:=by
 generalize hρ:jC (bw en ex) τ S.size=ρ at lB⊢;generalize hBs:dA ex.ct (ys.drop ex.size)=Bs at lB hln⊢;simp only[Xh,zae,zag]at hlo;obtain⟨afG,adQ⟩:=hlo;have afH:∀j,j<en.lk->j∈bw en ex:=fun j hj=>by
  have:=zam.1 afG j (zbC.2 hj);simpa using this
 have S9:∀j id,en.lk<=j->j<en.ct.length->τ.get j=some (some id)->∃b,(id,b)∈iK:=by
  intro j id hl hj hid;refine⟨(match (bw en ex).contains j with|true=>((Bs[j]?).join).map (E9 ρ)|false=>none), ?_⟩;rw[lB];refine zbT _ (zb0.2 ⟨j,zbC.2 hj, ?_⟩);rw[zaa hl,hid]
 have adR:ln=false->∀id,τ.get (1000000+id)=some (some id)->(id,none)∈iK:=by
  intro hl id hid;rw[lB,hl];refine zbZ _ (zb0.2 ⟨(1000000+id,some id),Mx hid, ?_⟩);simp
 let WB:Nat->Prop:=fun x=>ln=false/\(φ.ban x\/∃k C,S.get k=some C/\φ k=some (some x)/\gn iK k=none/\∀j,j<en.ct.length->τ.get j≠some (some k))
 obtain⟨hS1,hd1,ho1,hp1,_,hap,adS,_,WC⟩:=WG (ban:=WB) hof hS (fun x hx=>by
  rcases hx.2 with h|⟨k,C,h1,h2,_⟩
  . exact .inl h
  . exact .inr ⟨k,C,h1,h2⟩) (fun id x B hid hB hx hb=>by
  obtain⟨hl,hb⟩:=hb;rcases hb with hb|⟨k,C,h1,h2,h3,_⟩
  . exact((hnl hl).1 x hb).2 ⟨id,B,hB,hx⟩
  . have:=hS.inj id k B C x hB h1 hx h2;subst this;exact jm h3 _ (adR hl id hid))
 generalize hφ1:φ.sub WB τ en.ct.length=φ1 at hS1 hd1 ho1 hp1 WC;have hb1:φ1.ban=WB:=by rw[<-hφ1];rfl
 have aan:NB φ1 (en.bx us) H:=by
  intro x hx;rw[hb1]at hx;obtain⟨hl,hx⟩:=hx;rcases hx with hx|⟨k,C,h1,h2,h3,h9⟩
  . obtain⟨a,b⟩:=(hnl hl).1 x hx;refine⟨a,fun h=>b ?_⟩;obtain⟨j,id,B,_,_,g3,g4⟩:=ho1 x h;exact⟨id,B,g3,g4⟩
  . refine⟨hS.lt k x h2,fun h=> ?_⟩;obtain⟨j,id,B,g1,g2,g3,g4⟩:=ho1 x h;have:=hS.inj k id C B x h1 g3 h2 g4;subst this;exact h9 j g1 g2
 obtain⟨N,y,H',φ',MT,ny,hdv⟩:=hE φ1 H vs aan hS1 (hd1 vs hd);refine⟨N,y,H',MT, ?_⟩;have hBl:Bs.length=ex.ct.length:=by rw[<-hBs,uA]
 have hxh:ex.bx ys={gH Bs with lock:=ex.lk}:=by unfold Pn.bx;rw[hBs]
 rw[hxh]at ny hdv;have hS2:=ny.sim;have xx:∀(j:Nat) (B:aS),Bs[j]? =some (some B)->({gH Bs with lock:=ex.lk}:aj).get j=some B:=fun j B h=>by
  show(gH Bs).get j=some B;rw[AW,h];rfl
 have hpl:∀j id,B1 (bw en ex) τ j=some id->j∈bw en ex/\j<en.ct.length/\τ.get j=some (some id)/\ρ j=id:=by
  intro j id h;have h0:=h;unfold B1 at h
  split at h
  . rename_i hk;have hk:j∈bw en ex:=by simpa using hk
    split at h
    . rename_i id' hid;cases h;refine⟨hk,(Lg hk).1,hid, ?_⟩;rw[<-hρ];unfold jC;rw[h0]
    . cases h
  . cases h
 have hnp:∀j,B1 (bw en ex) τ j=none->ρ j=S.size+j:=by
  intro j h;rw[<-hρ];unfold jC;rw[h]
 have hid:∀j id,j<en.ct.length->τ.get j=some (some id)->(en.lk<=j->S.lock<=id)/\(∃B,S.get id=some B):=by
  intro j id hj h;refine⟨fun hl=> ?_, ?_⟩
  . rcases xJ adS h with h|⟨_,h⟩
    . have:=Rr hof;omega
    . exact h id rfl hl
  . exact UE hof hS hgn hj h
 let φ2:Phi:=⟨fun k=>if k<S.size then φ k else φ' (k-S.size),φ.ban⟩
 have FX:∀k,k<S.size->φ2 k=φ k:=fun k h=>if_pos h
 have KY:∀k,S.size<=k->φ2 k=φ' (k-S.size):=fun k h=>if_neg (by omega)
 have adT:∀z y,φ z=some y->z<S.size:=by
  intro z y h;rcases zci z S.size with h1|h1
  . exact h1
  . rw[hS.fresh z h1]at h;cases h
 have SO:∀j id,B1 (bw en ex) τ j=some id->∃y,φ id=some y/\φ' j=some y:=by
  intro j id h;obtain⟨h1,h2,h3,h4⟩:=hpl j id h;obtain⟨_,B,hB⟩:=hid j id h2 h3;have e:=hp1 j id h2 h3;rcases hS.blk id B hB with⟨k1,_⟩|⟨x,d,k1,_⟩
  . exact⟨_,k1,ny.ent j h1 _ (by rw[e];exact k1)⟩
  . exact⟨_,k1,ny.ent j h1 _ (by rw[e];exact k1)⟩
 have hρφ:∀j y,φ' j=some y->φ2 (ρ j)=some y:=by
  intro j y h;cases hi:B1 (bw en ex) τ j with
  |some id=>
   obtain⟨y',k1,k2⟩:=SO j id hi;rw[(hpl j id hi).2.2.2,FX _ (adT _ _ k1),k1];rw[k2]at h;exact h
  |none=>
   rw[hnp j hi,KY _ (by omega),show S.size+j-S.size=j by omega];exact h
 have hle:∀z y,φ z=some y->φ2 z=some y:=fun z y h=>by rw[FX z (adT z y h)];exact h
 generalize hSS:nC iK (lE en.lk (bw en ex) τ ρ 0 Bs) S=SS;obtain⟨f1,f2,f3⟩:=rp iK S;have fr:=foldl_push (lE en.lk (bw en ex) τ ρ 0 Bs) (lQ iK S);rw[show(lE en.lk (bw en ex) τ ρ 0 Bs).foldl aj.rl (lQ iK S)=SS from hSS]at fr;obtain⟨r1,r2,r3,r4⟩:=fr;rw[f1]at r1 r4;rw[f2]at r2;rw[f3]at r3;rw[Cj]at r1 r4;have iU:∀(k:Nat) (C:aS),SS.get k=some C->(∃(j:Nat) (B:aS),(Bs[j]? =some (some B)/\en.lk<=j)/\C=E9 ρ B/\ρ j=k)\/(k<S.size/\gn iK k=none/\S.get k=some C):=by
  intro k C hk;have h1:=aj.ba hk;obtain⟨h2,h3⟩:=aj.aM hk;rw[r4]at h2;rw[r3]at h3
  by_cases hge:S.size<=k
  . rw[if_pos ⟨hge,by rw[r1]at h1;exact h1⟩]at h2;obtain⟨g1,B,g2,g3⟩:=CU (i:=k-S.size) (B:=C) (by
     cases hx:(lE en.lk (bw en ex) τ ρ 0 Bs)[k-S.size]? with
     |none=>rw[hx]at h2;cases h2
     |some o=>rw[hx]at h2;simp at h2;rw[h2])
    rw[zaF]at g1;exact .inl ⟨_,B,⟨g2,g1.2⟩,g3,by rw[hnp _ g1.1];omega⟩
  . rw[if_neg (by omega),oG]at h2;cases hl:gn iK k with
    |none=>
     rw[hl]at h2;exact .inr ⟨by omega,rfl,(aj.fN (by omega) h3).trans h2⟩
    |some b=>
     rw[hl]at h2;have h2:b=some C:=h2;subst h2;have hm:=pz hl;rw[lB]at hm;rcases za0.1 hm with hm|hm
     . obtain⟨j,hj,hj2⟩:=zb0.1 hm;have hj:=zbC.1 hj
       split at hj2
       . rename_i hlj;have hlj:=zaj hlj
         split at hj2
         . rename_i id B3;simp only[zak,zaT]at hj2;obtain⟨rfl,hj3⟩:=hj2
           split at hj3
           . rename_i hk;rw[zai]at hj3;obtain⟨B,g1,g2⟩:=hj3;have hi:B1 (bw en ex) τ j=some id:=by unfold B1;rw[hk,B3]
             refine .inl ⟨j,B,⟨?_,hlj⟩,g2.symm,(hpl j id hi).2.2.2⟩;cases hx:Bs[j]? with
             |none=>rw[hx]at g1;cases g1
             |some o=>rw[hx]at g1;simp at g1;rw[g1]
           . cases hj3
         . cases hj2
       . cases hj2
     . exfalso;cases ln with
       |true=>simp at hm
       |false=>
        have hm:(k,some C)∈qN τ:=hm;obtain⟨p,_,hp⟩:=zb0.1 hm
        split at hp
        . split at hp
          . simp at hp
          . cases hp
        . cases hp
 have adU:∀x,x<H.size->fE φ' {gH Bs with lock:=ex.lk} x->∃(j id:Nat) (B:aS),j<en.ct.length/\τ.get j=some (some id)/\S.get id=some B/\φ id=some (some x):=fun x hx h=>ho1 x (ny.own x hx h)
 have Ta:∀(k:Nat) (C:aS) (x:Nat),SS.get k=some C->φ2 k=some (some x)->(∃(j:Nat) (B:aS),(Bs[j]? =some (some B)/\en.lk<=j)/\φ' j=some (some x)/\ρ j=k)\/(k<S.size/\gn iK k=none/\S.get k=some C/\φ k=some (some x)):=by
  intro k C x hk hx;rcases iU k C hk with⟨j,B,h1,_,h3⟩|⟨hlt,hno,h2⟩
  . refine .inl ⟨j,B,h1, ?_,h3⟩;rcases hS2.blk j B (xx j B h1.1)with⟨g1,_⟩|⟨x',_,g1,_⟩
    . have:=hρφ j _ g1;rw[h3,hx]at this;cases this
    . have:=hρφ j _ g1;rw[h3,hx]at this;cases this;exact g1
  . rw[FX k hlt]at hx;exact .inr ⟨hlt,hno,h2,hx⟩
 have lA:∀x,x<H.size->fE φ2 SS x->fE φ S x:=by
  rintro x hx ⟨k,C,g1,g2⟩
  rcases Ta k C x g1 g2 with⟨j,B,h1,h2,_⟩|⟨_,_,h2,h3⟩
  . obtain⟨_,id,B',_,_,h5,h6⟩:=adU x hx ⟨j,B,xx j B h1.1,h2⟩;exact⟨id,B',h5,h6⟩
  . exact⟨k,C,h2,h3⟩
 have afI:∀x,pJ φ1 (en.bx us) x->pJ φ S x:=fun x h=>by
  obtain⟨_,id,B',_,_,_,h4,h5,h6⟩:=WC x h;exact⟨id,B',h4,h5,h6⟩
 have kX:∀x,x<H.size->¬pJ φ S x->H'.get x=H.get x:=fun x hx h=>ny.fw x hx (fun h'=>h (afI x h'))
 have fW:Ext φ H (Own φ S) φ2 H' (Own φ2 SS):=by
  refine⟨hle,fun x c h1 h2=> ?_,fun id x c' h1 h2=>ny.len x c' (hS.lt id x h1) h2⟩;have hx:=ag.ba h1;refine⟨by rw[kX x hx (fun h=>h2 (.inr h.toI))];exact h1, ?_⟩
  rintro(h|h)
  . exact h2 (.inl h)
  . exact h2 (.inr (lA x hx h))
 have W0:ln=false->∀x c,H'.get x=some c->¬Own φ' {gH Bs with lock:=ex.lk} x->¬Own φ2 SS x:=by
  intro hl x c _ hno ho;have hbn:φ'.ban=WB:=ny.ban.trans hb1;rcases ho with ho|⟨k,C,g1,g2⟩
  . exact hno (.inl (by rw[hbn];exact⟨hl,.inl ho⟩))
  . rcases Ta k C x g1 g2 with⟨j,B,h1,h2,_⟩|⟨_,h1,h2,h3⟩
    . exact hno (.inr ⟨j,B,xx j B h1.1,h2⟩)
    . by_cases hj:∃j,j<en.ct.length/\τ.get j=some (some k)
      . obtain⟨j,g3,g4⟩:=hj;rcases zci j en.lk with hlj|hlj
        . have hK:=afH j hlj;obtain⟨_,b,hb,hbg⟩:=Lg hK;obtain⟨B,hB⟩:=AP (us:=ys.drop ex.size) hb hbg;rw[hBs]at hB;exact hno (.inr ⟨j,B,xx j B hB,ny.ent j hK _ (by rw[hp1 j k g3 g4];exact h3)⟩)
        . obtain⟨b,hb⟩:=S9 j k hlj g3 g4;exact jm h1 b hb
      . exact hno (.inl (by rw[hbn];exact⟨hl,.inr ⟨k,C,h2,h3,h1,fun j g3 g4=>hj ⟨j,g3,g4⟩⟩⟩))
 have aao:∀(j:Nat) (B:aS),en.lk<=j->Bs[j]? =some (some B)->QH B=true\/∀x c,H'.get x=some c->¬Own φ' {gH Bs with lock:=ex.lk} x->¬Own φ2 SS x:=by
  intro j B hlj hj;cases ln with
  |true=>exact .inl (show Oz (some B)=true from zam.1 (hln rfl).2 (some B) (zaQ (i:=j-en.lk) (by rw[zaA,show en.lk+(j-en.lk)=j by omega];exact hj)))
  |false=>exact .inr (W0 rfl)
 have fk:∀(j:Nat) (B:aS),Bs[j]? =some (some B)->en.lk<=j->(φ2 (ρ j)=some none/\(E9 ρ B).empty)\/∃x c,φ2 (ρ j)=some (some x)/\φ' j=some (some x)/\H'.get x=some c/\H'.lock<=x/\BV φ2 H' (Own φ2 SS) (E9 ρ B) c.cells:=by
  intro j B hj hlj;rcases hS2.blk j B (xx j B hj)with⟨h1,h2⟩|⟨x,c,h1,h2,h3,h4⟩
  . exact .inl ⟨hρφ j _ h1,Jw h2⟩
  . exact .inr ⟨x,c,hρφ j _ h1,h1,h2,h3 (zaP adQ hlj),h4.ren hρφ (aao j B hlj hj)⟩
 have adV:∀(k:Nat) (C:aS) (x:Nat) (c:Blk),gn iK k=none->S.get k=some C->φ k=some (some x)->H.get x=some c->H'.get x=some c:=by
  intro k C x c hno h1 h2 h3;rw[ny.fw x (hS.lt k x h2) ?_]
  . exact h3
  . intro h;obtain⟨j,id,B,g0,g1,g2,_,g3,g4⟩:=WC x h;have:=hS.inj k id C B x h1 g3 h2 g4;subst this;obtain⟨b,hb⟩:=S9 j k g0 g1 g2;exact jm hno b hb
 have Tc:∀(j:Nat) (B:aS) (k:Nat) (C:aS) (x:Nat),(Bs[j]? =some (some B)/\en.lk<=j)->φ' j=some (some x)->gn iK k=none->S.get k=some C->φ k=some (some x)->False:=by
  intro j B k C x h1 h2 h4 h5 h6;obtain⟨i,z,B',gl,g0,g1,_,g2,g3⟩:=WC x (ny.FH x (hS.lt k x h6) ⟨j,B,zaP adQ h1.2,xx j B h1.1,h2⟩);have:=hS.inj k z C B' x h5 g2 h6 g3;subst this;obtain⟨b,hb⟩:=S9 i k gl g0 g1;exact jm h4 b hb
 have uc:Step φ S H φ2 SS H':=by
  refine⟨⟨?_, ?_, ?_, ?_, ?_,by rw[ny.dT];exact zaP hS.dT ny.ft,fun x hx=>by rw[ny.gW];exact hS.gW x (zaP ny.ft hx)⟩,hle,rfl,lA,kX,ny.len,ny.ft,ny.dT,ny.gW,by omega,r2,r3, ?_⟩
  . intro k C hk;rcases iU k C hk with⟨j,B,h1,rfl,h3⟩|⟨hlt,hno,h2⟩
    . rw[<-h3];rcases fk j B h1.1 h1.2 with⟨g1,g2⟩|⟨x,c,g1,_,g2,g4,g3⟩
      . exact .inl ⟨g1,g2⟩
      . exact .inr ⟨x,c,g1,g2,fun _=>g4,g3⟩
    . rcases hS.blk k C h2 with⟨g1,g2⟩|⟨x,c,g1,g2,g3,g4⟩
      . exact .inl ⟨hle _ _ g1,g2⟩
      . exact .inr ⟨x,c,hle _ _ g1,adV k C x c hno h2 g1 g2,fun h=>by rw[ny.dT];exact g3 (by rw[<-r2];exact h),g4.mono fW⟩
  . intro k k' C C' x h1 h2 h3 h4;rcases Ta k C x h1 h3 with⟨j,B,a1,a2,a3⟩|⟨a1,a2,a3,a4⟩
    . rcases Ta k' C' x h2 h4 with⟨j',B',b1,b2,b3⟩|⟨b1,b2,b3,b4⟩
      . have:=hS2.inj j j' B B' x (xx _ _ a1.1) (xx _ _ b1.1) a2 b2;subst this;rw[<-a3,<-b3]
      . exact(Tc j B k' C' x a1 a2 b2 b3 b4).elim
    . rcases Ta k' C' x h2 h4 with⟨j',B',b1,b2,b3⟩|⟨b1,b2,b3,b4⟩
      . exact(Tc j' B' k C x b1 b2 a2 a3 a4).elim
      . exact hS.inj k k' C C' x a3 b3 a4 b4
  . intro k hk;rw[r1]at hk;rw[KY k (by omega)];exact hS2.fresh _ (by show(gH Bs).size<=_;rw[m9];omega)
  . intro k x hx
    by_cases hk:k<S.size
    . rw[FX k hk]at hx;exact zaD (hS.lt k x hx) ny.ft
    . rw[KY k (by omega)]at hx;exact hS2.lt _ x hx
  . rw[r1,r2];have:=hS.jl;omega
  . intro k h1 h2;rw[r4,if_neg (by omega),oG];cases hl:gn iK k with
    |none=>rfl
    |some b=>
     exfalso;have hm:=pz hl;rw[lB]at hm;have afJ:S.lock<=k/\∃B,S.get k=some B:=by
      rcases za0.1 hm with hm|hm
      . obtain⟨j,hj,hj2⟩:=zb0.1 hm;have hj:=zbC.1 hj
        split at hj2
        . rename_i hlj
          split at hj2
          . rename_i id B3;simp only[zak,zaT]at hj2;obtain⟨rfl,_⟩:=hj2;exact⟨(hid j id hj B3).1 (zaj hlj),(hid j id hj B3).2⟩
          . cases hj2
        . cases hj2
      . cases ln with
        |true=>simp at hm
        |false=>
         obtain⟨g1,g2⟩:=(hnl rfl).2 _ hm;exact⟨g1,zbE.1 g2⟩
     obtain⟨b1,B0,b2⟩:=afJ;rcases h2 with h2|h2
     . omega
     . rw[b2]at h2;cases h2
 refine⟨φ2,uc, ?_⟩;cases ln with
 |true=>exact hdv.ren hρφ (I9 (hln rfl).1)
 |false=>exact hdv.X6 hρφ (W0 rfl)
theorem oU.sound {e:oU} {g:FuncId} (hE:∀us Y,e.f us=some (true,Y)->ve P L O g e.en e.ex us Y.us) {args:List SV} {a:Is} (h:e.run args S=some (true,a))
 {vs:List Value} (hnb:NBh φ S H) (hS:Sim φ S H) (hd:DVL φ H (Own φ S) args vs):∃N y H',bJ P L O N g vs H=some (y,H')/\Got φ S H a.hp a.val H' y:=by
 unfold oU.run at h
 split at h
 case h_2=>cases h
 rename_i us τ adW hof;simp only[zbS,Bool.not_eq_false']at adW;obtain⟨hgn,hlo⟩:=adW
 split at h
 case h_3=>cases h
 case h_1=>
  rename_i c B b enc hf
  split at h
  . rename_i hl;simp only[zak,zaT]at h;obtain⟨rfl,rfl⟩:=h;simp only[oU.lean,zae]at hl;exact oW (hE us _ hf) hof hgn hlo true _ (fun _=>hl) (fun h=>by cases h) (by simp[Ys.us]) hS hd
  . split at h
    . rename_i hv;simp only[zae,List.isEmpty_iff]at hv;simp only[zak,zaT]at h;obtain⟨rfl,rfl⟩:=h;refine oW (hE us _ hf) hof hgn hlo false _ (fun h=>by cases h) (fun _=>⟨hnb hv.1,fun p hp=> ?_⟩) rfl hS hd;have:=zam.1 hv.2 p hp;simpa using this
    . cases h
 rename_i c ys hf
 split at h
 . rename_i hl;simp only[zak,zaT]at h;obtain⟨rfl,rfl⟩:=h;simp only[oU.lean,zae]at hl;exact oW (hE us _ hf) hof hgn hlo true _ (fun _=>hl) (fun h=>by cases h) (by simp[Ys.us]) hS hd
 . split at h
   . rename_i hv;simp only[zae,List.isEmpty_iff]at hv;simp only[zak,zaT]at h;obtain⟨rfl,rfl⟩:=h;refine oW (hE us _ hf) hof hgn hlo false _ (fun h=>by cases h) (fun _=>⟨hnb hv.1,fun p hp=> ?_⟩) rfl hS hd;have:=zam.1 hv.2 p hp;simpa using this
   . cases h
end
end
end
end Go.Proofs.YtfaojedfnjdnnaaGreat.Ev
namespace Go.Proofs.YtfaojedfnjdnnaaGreat.Ev
noncomputable section
noncomputable section
open Go
def scE:SV->Option Value
 | .i k n=>some (.int k n)
 | .b x=>some (.bool x)
 |_=>none
def T1:List SV->Option (List Value)
 |[]=>some []
 |s::l=>match scE s with|some v=>(match T1 l with|some vs=>some (v::vs)|none=>none)|none=>none
def Yl:SV->Option Value
 | .agg l=>match T1 l with|some vs=>some (.agg vs.toArray)|none=>none
 |s=>scE s
def Mo:List SV->Option (List Value)
 |[]=>some []
 |s::l=>match Yl s with|some v=>(match Mo l with|some vs=>some (v::vs)|none=>none)|none=>none
def scS:Value->Option SV
 | .int k n=>some (.i k n)
 | .bool x=>some (.b x)
 |_=>none
def VH:List Value->Option (List SV)
 |[]=>some []
 |v::l=>match scS v with|some s=>(match VH l with|some r=>some (s::r)|none=>none)|none=>none
def Vf:Value->Option SV
 | .agg vs=>match VH vs.toList with|some l=>some (.agg l)|none=>none
 |v=>scS v
def L2:List Value->Option (List SV)
 |[]=>some []
 |v::l=>match Vf v with|some s=>(match L2 l with|some r=>some (s::r)|none=>none)|none=>none
def XB:Value->Option SV
 | .tuple vs=>match L2 vs.toList with|some l=>some (.tup l)|none=>none
 |v=>Vf v
section
variable {φ : Phi} {H : ag} {own : Nat -> Prop}
theorem P4 {s:SV} {v w:Value} (h:scE s=some w) (hd:DV φ H own s v):v=w:=by
 cases s<;>simp only[scE,zak]at h<;>first|(cases h;done)|(subst h;cases hd;rfl)
theorem K3:∀{l:List SV} {vs ws:List Value},T1 l=some ws->DVL φ H own l vs->vs=ws
 |[],vs,ws,h,hd=>by cases h;exact hd.qS
 |s::l,vs,ws,h,hd=>by
  obtain⟨v,vs',rfl,h1,h2⟩:=hd.gG;simp only[T1]at h
  split at h
  . rename_i w hw
    split at h
    . rename_i ws' hws;cases h;rw[P4 hw h1,K3 hws h2]
    . cases h
  . cases h
theorem Wf {s:SV} {v w:Value} (h:Yl s=some w) (hd:DV φ H own s v):v=w:=by
 unfold Yl at h
 split at h
 . rename_i l
   split at h
   . rename_i vs hvs;cases h;cases hd with
     |agg _ x' hx vx=>
      have:x'.toList=vs:=K3 hvs ⟨by simpa using hx,fun i s v a b=>vx i s v a (by simpa using b)⟩;subst this;rfl
   . cases h
 . exact P4 h hd
theorem Gr:∀{l:List SV} {vs ws:List Value},Mo l=some ws->DVL φ H own l vs->vs=ws
 |[],vs,ws,h,hd=>by cases h;exact hd.qS
 |s::l,vs,ws,h,hd=>by
  obtain⟨v,vs',rfl,h1,h2⟩:=hd.gG;simp only[Mo]at h
  split at h
  . rename_i w hw
    split at h
    . rename_i ws' hws;cases h;rw[Wf hw h1,Gr hws h2]
    . cases h
  . cases h
theorem QO {s:SV} {v:Value} (h:scS v=some s):DV φ H own s v:=by
 cases v<;>simp only[scS,zak]at h<;>first|(cases h;done)|(subst h;constructor)
theorem LK:∀{l:List SV} {vs:List Value},VH vs=some l->DVL φ H own l vs
 |l,[],h=>by cases h;exact .nil
 |l,v::vs,h=>by
  simp only[VH]at h
  split at h
  . rename_i s hs
    split at h
    . rename_i r hr;cases h;exact .cons (QO hs) (LK hr)
    . cases h
  . cases h
theorem DVL.agg {l:List SV} {x:Array Value} (h:DVL φ H own l x.toList):DV φ H own (.agg l) (.agg x):=
 .agg l x (by simpa using h.1) (fun i s v a b=>h.2 i s v a (by simpa using b))
theorem DVL.tup {l:List SV} {x:Array Value} (h:DVL φ H own l x.toList):DV φ H own (.tup l) (.tuple x):=
 .tup l x (by simpa using h.1) (fun i s v a b=>h.2 i s v a (by simpa using b))
theorem K4 {s:SV} {v:Value} (h:Vf v=some s):DV φ H own s v:=by
 unfold Vf at h
 split at h
 . split at h
   . rename_i l hl;cases h;exact(LK hl).agg
   . cases h
 . exact QO h
theorem Gg:∀{l:List SV} {vs:List Value},L2 vs=some l->DVL φ H own l vs
 |l,[],h=>by cases h;exact .nil
 |l,v::vs,h=>by
  simp only[L2]at h
  split at h
  . rename_i s hs
    split at h
    . rename_i r hr;cases h;exact .cons (K4 hs) (Gg hr)
    . cases h
  . cases h
theorem VC {s:SV} {v:Value} (h:XB v=some s):DV φ H own s v:=by
 unfold XB at h
 split at h
 . split at h
   . rename_i l hl;cases h;exact(Gg hl).tup
   . cases h
 . exact K4 h
end
def ofE (TE:Tab):tz:=fun g args S=>
 match Mo args with
 |some vs=>(match TE g vs with|some (c,v)=>(match XB v with|some s=>some (c,.now s S)|none=>none)|none=>none)
 |none=>none
def jr (TE:Tab) (X:bp):bp:=fun g args H=>match cw TE g args H with|some r=>some r|none=>X g args H
theorem QQ {P:Program} {TE:Tab} {X:bp} (h:bp.right P TE) (hX:lJ P X):lJ P (jr TE X):=by
 have hT:=bp.ak h;refine⟨fun g args H v H' hv=> ?_,fun g args H v H' hv=> ?_⟩
 . unfold jr at hv
   split at hv
   . rename_i r hr;cases hv;exact hT.fr _ _ _ _ _ hr
   . exact hX.fr _ _ _ _ _ hv
 . unfold jr at hv
   split at hv
   . rename_i r hr;cases hv;exact hT.ok _ _ _ _ _ hr
   . exact hX.ok _ _ _ _ _ hv
def NZ (TE:Tab):List (FuncId × oU)->tz
 |[],g,args,S=>ofE TE g args S
 |(h,e)::r,g,args,S=>match g==h with
  |true=>(match e.run args S with|some x=>some x|none=>NZ TE r g args S)
  |false=>NZ TE r g args S
section
variable {P : Program} {L : List FuncId} {TE : Tab} {X : bp}
def eB (P:Program) (L:List FuncId) (O:bp) (g:FuncId) (e:oU):Prop:=∀us Y,e.f us=some (true,Y)->ve P L O g e.en e.ex us Y.us
theorem Qc (hX:ij X):ij (jr TE X):=by
 intro g args H v H' hv;unfold jr cw at hv
 split at hv
 . rename_i r hr;cases hv
   split at hr
   . cases hr;exact .refl H
   . cases hr
 . exact hX _ _ _ _ _ hv
theorem Bq (hX:ij X):∀{l:List (FuncId × oU)},(∀p∈l,eB P L (jr TE X) p.1 p.2)->fC P L (jr TE X) (NZ TE l)
 |[],_=>by
  refine⟨Qc hX, ?_⟩;intro g args S a h φ H vs _ hS hd;unfold NZ ofE at h
  split at h
  . rename_i ws hws
    split at h
    . rename_i c w hw
      split at h
      . rename_i s hs;cases h;have:=Gr hws hd;subst this;exact⟨1,w,H,mz (by unfold jr cw;rw[hw]),.same hS (VC hs)⟩
      . cases h
    . cases h
  . cases h
 |(i,e)::r,hl=>by
  have hr:=Bq hX (l:=r) (fun p hp=>hl p (zay _ hp));refine⟨hr.1, ?_⟩;intro g args S a h φ H vs hnb hS hd;unfold NZ at h
  split at h
  . rename_i hg;rw[zaI]at hg;subst hg
    split at h
    . rename_i x hx;cases h;exact oU.sound (hl (g,e) (by simp)) hx hnb hS hd
    . exact hr.2 g args S a h φ H vs hnb hS hd
  . exact hr.2 g args S a h φ H vs hnb hS hd
def Pr (l:List (FuncId × (List Value->Option (Bool × Value)))) (xs:List FuncId):FuncId->Bool:=fun g=>(l.any fun p=>g==p.1)||xs.any fun x=>g==x
theorem Dd {xs:List FuncId} (hX:∀g args H,(xs.any fun x=>g==x)=false->X g args H=none):∀{l:List (FuncId × (List Value->Option (Bool × Value)))} (g:FuncId),Pr l xs g=false->∀args H,jr (gT l) X g args H=none
 |[],g,h,args,H=>hX g args H (by simpa[Pr]using h)
 |(i,e)::r,g,h,args,H=>by
  simp only[Pr,List.any_cons,zbS]at h;have:=Dd hX (l:=r) g (by simp only[Pr,zbS];exact⟨h.1.2,h.2⟩) args H;unfold jr cw at this⊢;unfold gT;rw[h.1.1];exact this
def mkE {A:Type} [Uns A] (en ex:Pn) (f:A->Bool × List Un):oU:=⟨en,ex,onU fun a=>match f a with|(c,ys)=>some (c,.now ys)⟩
def mkB {A B:Type} [Uns A] (en ex:Pn) (f:A->Bool × B) (enc:B->List Un):oU:=⟨en,ex,onU fun a=>match f a with|(c,b)=>some (c,.bind B b enc)⟩
theorem ak {A:Type} [Uns A] {O:bp} {kn:FuncId->Bool} (hkn:∀g,kn g=false->∀args H,O g args H=none) {F:aA} (hT:fC P L O F.T) (W:Nat->List aQ) {t:Nat->A->Option (List Un)} {f:A->Bool × List Un}
 (hb:(!(kn F.g)&&((P.funcs[F.g]?).isSome&&(dt P F.g).body.isSome))=true) (hW:∀m,∀t∈W m,F.gL P L O t) (G:∀m a,F.Gf P L kn (Uns.enc a) (W m)=t m a)
 (spec:∀a,(f a).1=true->∃m,t m a=some (f a).2):eB P L O F.g (mkE F.en F.ex f):=by
 intro us Y h;obtain⟨a,rfl,h2⟩:=pt h;simp only[zae,Bool.not_eq_true']at hb;have h2:some ((f a).1,Ys.now (f a).2)=some (true,Y):=h2;simp only[zak,zaT]at h2;obtain⟨h3,rfl⟩:=h2;obtain⟨m,hm⟩:=spec a h3;exact aA.R3 hkn hT hb.1 hb.2.1 hb.2.2 (hW m) ((G m a).trans hm)
theorem lH.aaJ {K K':List Nat} {φ φ':Phi} {S S':aj} {H H':ag} (h:∀j,j∈K'->j∈K) (a:lH K φ S H φ' S' H'):lH K' φ S H φ' S' H':=
 ⟨a.sim,a.ban,a.own,a.FH,a.fw,a.len,a.ft,a.dT,a.gW,fun j hj=>a.ent j (h j hj)⟩
theorem unpack {φ:Phi} {H:ag} {own:Nat->Prop} {l:List SV} {y:Value} (h:DV φ H own (nc l) y):∃ws,DVL φ H own l ws/\lC ws=y:=by
 match l,h with
 |[],h=>
  cases h with
  |tup _ x hx _=>
   have:x= #[]:=Array.eq_empty_of_size_eq_zero (by simpa using hx.symm);subst this;exact⟨[],.nil,rfl⟩
 |[s],h=>exact⟨[y],.cons h .nil,rfl⟩
 |a::b::l,h=>
  cases h with
  |tup _ x hx vx=>
   have hd:DVL φ H own (a::b::l) x.toList:=⟨by simpa using hx,fun i s v h1 h2=>vx i s v h1 (by simpa using h2)⟩
   refine⟨x.toList,hd, ?_⟩;obtain⟨v,vs,e,_,h2⟩:=hd.gG;obtain⟨w,ws,e2,_,_⟩:=h2.gG;subst e2;have:lC x.toList= .tuple x.toList.toArray:=by rw[e];rfl
   rw[this,Array.toArray_toList]
theorem RU {A:Type} [Uns A] {O:bp} {g:FuncId} {en ex ex':Pn} {f f':A->Bool × List Un} (h:eB P L O g (mkE en ex f)) (hK:(bw en ex').all (fun j=>(bw en ex).contains j)=true)
 (e:∀a,(f a).1=(f' a).1/\LP ex' (bw en ex') (ex.fx (f a).2) (ex.bx (f a).2)=some (f' a).2):eB P L O g (mkE en ex' f'):=by
 intro us Y hY;have hY:onU (fun a=>some ((f' a).1,Ys.now (f' a).2)) us=some (true,Y):=hY;unfold onU at hY
 split at hY
 . rename_i a r hd
   split at hY
   . simp only[zak,zaT]at hY;obtain⟨h3,rfl⟩:=hY;obtain⟨e1,e2⟩:=e a;have ht:=h us (.now (f a).2) (by
      show onU (fun a=>some ((f a).1,Ys.now (f a).2)) us=_;unfold onU;rw[hd];simp only[e1,h3])
     intro φ H vs hnb hS hD;obtain⟨N,y,H',φ',c1,c2,c3⟩:=ht φ H vs hnb hS hD;unfold LP at e2
     split at e2
     . rename_i us' τ hof;cases e2;obtain⟨φ2,g1,g2⟩:=tX hof (hnb.since c2) c2.sim;obtain⟨ws,k1,rfl⟩:=unpack c3;refine⟨N,_,H',φ2,c1,(c2.aaJ fun j hj=> ?_).trans g1,m8 (g2 ws k1)⟩;have:=zam.1 hK j hj;show j∈bw en ex;simpa using this
     . cases e2
   . cases hY
 . cases hY
theorem rebind {A B:Type} [Uns A] {O:bp} {g:FuncId} {en ex:Pn} {f:A->Bool × List Un} {fb:A->Bool × B} {enc:B->List Un} (h:eB P L O g (mkE en ex f)) (e:∀a,f a=((fb a).1,enc (fb a).2)):eB P L O g (mkB en ex fb enc):=by
 intro us Y hY;have hY:onU (fun a=>some ((fb a).1,Ys.bind B (fb a).2 enc)) us=some (true,Y):=hY;unfold onU at hY
 split at hY
 . rename_i a r hd
   split at hY
   . simp only[zak,zaT]at hY;obtain⟨h3,rfl⟩:=hY;have t:=h us (.now (f a).2) (by
      show onU (fun a=>some ((f a).1,Ys.now (f a).2)) us=_;unfold onU;rw[hd];simp only[e a,h3])
     rw[e a]at t;exact t
   . cases hY
 . cases hY
structure Tb (P : Program) (L : List FuncId) (TE : Tab) (X : bp) where
 l:List (FuncId × oU)
 fr:ij X
 ok:∀p∈l,eB P L (jr TE X) p.1 p.2
def Tb.nil (h:ij X):Tb P L TE X:=⟨[],h,fun _ h=>by cases h⟩
def Tb.add (T:Tb P L TE X) (g:FuncId) (e:oU) (h:eB P L (jr TE X) g e):Tb P L TE X:=⟨(g,e)::T.l,T.fr,fun p hp=>by
 rcases zaN.1 hp with rfl|hp
 . exact h
 . exact T.ok p hp⟩
def Tb.tab (T:Tb P L TE X):tz:=NZ TE T.l
theorem Tb.right (T:Tb P L TE X):fC P L (jr TE X) T.tab:=Bq T.fr T.ok
end
end
end
end Go.Proofs.YtfaojedfnjdnnaaGreat.Ev
namespace Go.Proofs.YtfaojedfnjdnnaaGreat.Ev
noncomputable section
noncomputable section
open Go
open Go.RowKit (Below)
def ui:Phi:=⟨fun _=>none,fun _=>False⟩
def hp0:aj:=⟨0,.e,0,[]⟩
theorem ae8 (x:Nat):¬Own ui hp0 x:=by
 rintro(h|⟨id,B,h,_⟩)
 . exact h
 . have:=aj.ba h;simp[hp0]at this
theorem ae1 {H:ag} (hl:H.lock<=H.size) (hh:H.hid=[]):Sim ui hp0 H:=by
 refine⟨fun id B h=> ?_,fun id id' B B' x h=> ?_,fun _ _=>rfl,(fun id x h=>by cases h),zap _,hl,fun x _=>by rw[hh];rfl⟩
 . have:=aj.ba h;simp[hp0]at this
 . have:=aj.ba h;simp[hp0]at this
mutual
def WfS:Sch->Dat->Prop
 | .int k,d=>(Lit.int k d.int).wf=true
 | .bool,_=>True
 | .ints k,d=>d.sub.length<=140737488355328/\∀x∈d.sub,(Lit.int k x.int).wf=true
 | .ab l,d=>d.sub.length<=140737488355328/\∀x∈d.sub,WfR l x.sub
def WfR:List Sch->List Dat->Prop
 |[],[]=>True
 |s::l,d::r=>WfS s d/\WfR l r
 |_,_=>False
end
theorem WfR.len:∀{l:List Sch} {r:List Dat},WfR l r->r.length=l.length
 |[],[],_=>rfl
 |s::l,d::r,h=>by simp[WfR]at h;simp[h.2.len]
 |[],_::_,h=>by simp[WfR]at h
 |_::_,[],h=>by simp[WfR]at h
theorem WfR.append:∀{a b:List Sch} {r s:List Dat},WfR a r->WfR b s->WfR (a++b) (r++s)
 |[],_,[],_,_,h=>h
 |x::a,_,d::r,_,h,k=>by simp only[WfR,zaC]at h⊢;exact⟨h.1,h.2.append k⟩
 |[],_,_::_,_,h,_=>by simp[WfR]at h
 |_::_,_,[],_,h,_=>by simp[WfR]at h
def svs:List Sch->List Dat->List SV
 |s::l,d::r=>s9 s d::svs l r
 |_,_=>[]
theorem A7:∀{a b:List Sch} {r s:List Dat},r.length=a.length->svs (a++b) (r++s)=svs a r++svs b s
 |[],_,[],_,_=>rfl
 |x::a,_,d::r,_,h=>by simp only[zaC,svs];rw[A7 (by simpa using h)]
 |[],_,_::_,_,h=>by simp at h
 |_::_,_,[],_,h=>by simp at h
theorem yL:∀{a:List Sch} {r:List Dat} (j:Nat),r.length=a.length->(svs a r)[j]? =(a[j]?).map fun s=>s9 s (r.getD j (.n 0))
 |[],[],j,_=>by simp[svs]
 |x::a,d::r,0,_=>by simp[svs]
 |x::a,d::r,j+1,h=>by simpa[svs]using yL (a:=a) (r:=r) j (by simpa using h)
 |[],_::_,_,h=>by simp at h
 |_::_,[],_,h=>by simp at h
structure RW (f : Fm) (H : ag) (w : World) : Prop where
 r:R f H w
 lock:H.lock=H.size
 hid:H.hid=[]
 free:∀j,H.size<=j->f j=none
theorem RW.nil (w:World):RW (fun _=>none) Ev.nil w:=⟨R.nil w,rfl,rfl,fun _ _=>rfl⟩
def AD (f:Fm) (H:ag) (f':Fm) (H':ag):Prop:=Le f f'/\∀x c,H.get x=some c->H'.get x=some c
theorem AD.refl (f:Fm) (H:ag):AD f H f H:=⟨Le.refl f,fun _ _ h=>h⟩
theorem AD.trans {f g h:Fm} {H K M:ag} (a:AD f H g K) (b:AD g K h M):AD f H h M:=⟨a.1.trans b.1,fun x c hx=>b.2 x c (a.2 x c hx)⟩
theorem AD.ext {f f':Fm} {H H':ag} (g:AD f H f' H'):Ext ui H (Own ui hp0) ui H' (Own ui hp0):=
 ⟨fun _ _ h=>h,fun x c h1 h2=>⟨g.2 x c h1,h2⟩,fun id x c' h1=>by cases h1⟩
theorem RW.push {f:Fm} {H:ag} {w:World} (h:RW f H w) (cs:List Value) (l:Loc) {C:Array Value} {e:TypeId} {fr:Nat × Nat} (hl:w.heap[l.blk]? =some (.cells C e fr))
 (hc:∀(i:Nat) v,cs[i]? =some v->bj v=true/\∃v',C[l.off+i]? =some v'/\V f v v'):
 ∃f' H',RW f' H' w/\AD f H f' H'/\H'.get H.size=some ⟨cs⟩/\f' H.size=some l:=by
 let f':Fm:=fun x=>if x=H.size then some l else f x
 let H':ag:={aG H cs with lock:=H.size+1}
 have hle:Le f f':=fun x m hx=>by
  have:x≠H.size:=by rintro rfl;rw[h.free _ (zap _)]at hx;cases hx
  show(if x=H.size then _ else _)=_;rw[if_neg this];exact hx
 have fk:f' H.size=some l:=if_pos rfl;have ua:∀x,H'.root.get x=if x=H.size then some ⟨cs⟩else H.root.get x:=fun x=>ag.bW _ _ _
 have hsz:H'.size=H.size+1:=rfl;have BF:H'.hid=[]:=h.hid;have iU:∀x,H'.get x=if x=H.size then some ⟨cs⟩else H.get x:=by
  intro x
  by_cases e:x=H.size
  . subst e;rw[if_pos rfl];unfold ag.get;rw[if_pos (by omega),BF,ua,if_pos rfl];rfl
  . rw[if_neg e];unfold ag.get
    by_cases hx:x<H.size
    . rw[if_pos (by omega),if_pos hx,BF,h.hid,ua,if_neg e]
    . rw[if_neg (by omega),if_neg hx]
 refine⟨f',H',⟨⟨?_, ?_,zap _, ?_⟩,rfl,BF, ?_⟩,⟨hle,fun x c hx=> ?_⟩,by rw[iU,if_pos rfl],fk⟩
 . intro x B hx;rw[iU]at hx
   split at hx
   . rename_i e1;cases hx;subst e1;refine⟨l,C,e,fr,fk,hl,fun i v hi=> ?_,fun hm=> ?_⟩
     . obtain⟨h1,v',h2,h3⟩:=hc i v hi;exact⟨h1,v',h2,h3.mono hle⟩
     . rw[aO]at hm;have:H.size+1<=H.size:=hm;omega
   . obtain⟨m,C',e',fr',g1,g2,g3,g4⟩:=h.r.blk x B hx;refine⟨m,C',e',fr',hle _ _ g1,g2,fun i v hi=> ?_,fun hm=> ?_⟩
     . obtain⟨g5,v',g6,g7⟩:=g3 i v hi;exact⟨g5,v',g6,g7.mono hle⟩
     . rw[aO]at hm;have h5:H.size+1<=x:=hm;have:=ag.ba hx;omega
 . intro x m hx;have hx:(if x=H.size then some l else f x)=some m:=hx
   split at hx
   . cases hx;obtain⟨hlt,_⟩:=zaJ.1 hl;exact hlt
   . exact h.r.big x m hx
 . intro x y B B' m m' hx _ hm;rw[aO]at hm;have h5:H.size+1<=x:=hm;have:x<H.size+1:=ag.ba hx;omega
 . intro j hj;have hj:H.size+1<=j:=hj;show(if j=H.size then _ else _)=_;rw[if_neg (by omega)];exact h.free j (by omega)
 . have:=ag.ba hx;rw[iU,if_neg (by omega)];exact hx
def Good (w:World) (ss:List Sch) (cs:List Value):Prop:=∀f H,RW f H w->∃f' H' cs' r,RW f' H' w/\AD f H f' H'/\VL f' cs' cs/\(∀v∈cs',bj v=true)/\
 DVL ui H' (Own ui hp0) (svs ss r) cs'/\WfR ss r
theorem Good.nil (w:World):Good w [] []:=fun f H h=>⟨f,H,[],[],h,.refl f H,.nil f,by simp,.nil,trivial⟩
theorem Good.append {w:World} {a b:List Sch} {c d:List Value} (h:Good w a c) (k:Good w b d):Good w (a++b) (c++d):=by
 intro f H hR;obtain⟨f1,H1,c1,r1,a1,a2,a3,a4,a5,a6⟩:=h f H hR;obtain⟨f2,H2,c2,r2,b1,b2,b3,b4,b5,b6⟩:=k f1 H1 a1;refine⟨f2,H2,c1++c2,r1++r2,b1,a2.trans b2,(a3.mono b2.1).append b3,fun v hv=> ?_, ?_,a6.append b6⟩
 . rcases za0.1 hv with h|h
   . exact a4 v h
   . exact b4 v h
 . rw[A7 a6.len];exact(a5.mono b2.ext).append b5
theorem Good.flatten {w:World}:∀{l:List (List Sch × List Value)},(∀p∈l,Good w p.1 p.2)->Good w (l.map (·.1)).flatten (l.map (·.2)).flatten
 |[],_=>Good.nil w
 |p::l,h=>by
  simp only[zaS,zbx];exact(h p (by simp)).append (Good.flatten fun q hq=>h q (by simp[hq]))
section
variable (P : Program)
def LH (r:TypeId->Option (List Sch)):List Field->Nat->Option (List Sch × Nat)
 |[],n=>some ([],n)
 |f::fs,n=>
  match r f.type with
  |some l=>(match decide (f.offset=n/\l.length=P.cellsOf f.type)with
   |true=>(match LH r fs (n+l.length)with|some (m,k)=>some (l++m,k)|none=>none)
   |false=>none)
  |none=>none
def Jn:Nat->TypeId->Option (List Sch)
 |0,_=>none
 |d+1,t=>
  match P.underlying t with
  |some (.int k)=>some [.int k]
  |some .bool=>some [.bool]
  |some (.slice e)=>
   (match P.underlying e with
    |some (.int k)=>(match decide (P.cellsOf e=1/\0<P.bytesOf e)with|true=>some [.ints k]|false=>none)
    |_=>(match Jn d e with
     |some l=>(match decide (l.length=P.cellsOf e/\0<l.length/\0<P.bytesOf e)with|true=>some [.ab l]|false=>none)
     |none=>none))
  |some (.struct fs)=>(match LH P (Jn d) fs.toList 0 with|some (l,n)=>(match decide (n=P.cellsOf t)with|true=>some l|false=>none)|none=>none)
  |some (.array n e)=>(match Jn d e with
   |some l=>(match decide (l.length=P.cellsOf e/\P.cellsOf t=n*l.length)with|true=>some (List.replicate n l).flatten|false=>none)
   |none=>none)
  |_=>none
end
theorem mapM_mem {α β:Type} {g:α->Option β}:∀{l:List α} {r:List β},l.mapM g=some r->∀x∈l,∃y∈r,g x=some y
 |[],_,_,x,hx=>by simp at hx
 |a::l,r,h,x,hx=>by
  rw[List.mapM_cons]at h;cases ha:g a with
  |none=>rw[ha]at h;cases h
  |some y=>
   rw[ha]at h;cases hl:l.mapM g with
   |none=>simp[hl]at h
   |some s=>
    simp[hl]at h;subst h;rcases zaN.1 hx with rfl|hx
    . exact⟨y,by simp,ha⟩
    . obtain⟨z,h1,h2⟩:=mapM_mem hl x hx;exact⟨z,by simp[h1],h2⟩
theorem iW {HH:Type} {P:Program} {e:TypeId} {n:Nat} {d:DataW HH}:∀{l:List (DataW HH)},d∈l->n∈d.weights P e->n∈DataW.weightsAll P e l
 |[],h,_=>by simp at h
 |x::l,h,hn=>by
  rw[DataW.weightsAll];rcases zaN.1 h with rfl|h
  . exact zbT _ hn
  . exact zbZ _ (iW h hn)
def uO {HH:Type} (P:Program) (t:TypeId) (d:DataW HH):Prop:=∀n∈d.weights P t,n<=reachBytes
theorem Ce {HH α:Type} {P:Program} {T:α->TypeId} {g:α->Option (DataW HH × List MemPlace)}:∀{l:List α} {r:List (DataW HH × List MemPlace)},l.mapM g=some r->(∀n∈DataW.weightsEach P (l.map T) (r.map (·.1)),n<=reachBytes)->∀x∈l,∃y,g x=some y/\uO P (T x) y.1
 |[],_,_,_,x,hx=>by simp at hx
 |a::l,r,h,hz,x,hx=>by
  rw[List.mapM_cons]at h;cases ha:g a with
  |none=>rw[ha]at h;cases h
  |some y=>
   rw[ha]at h;cases hl:l.mapM g with
   |none=>simp[hl]at h
   |some s=>
    simp[hl]at h;subst h;simp only[zaS,DataW.weightsEach]at hz;rcases zaN.1 hx with rfl|hx
    . exact⟨y,ha,fun n hn=>hz n (zbT _ hn)⟩
    . exact Ce hl (fun n hn=>hz n (zbZ _ hn)) x hx
theorem tN {α β:Type} {g:α->Option β}:∀{l:List α} {r:List β},l.mapM g=some r->r.length=l.length/\∀(i:Nat) x,l[i]? =some x->∃y,r[i]? =some y/\g x=some y
 |[],r,h=>by
  rw[List.mapM_nil]at h;cases h;exact⟨rfl,fun i x hx=>by simp at hx⟩
 |a::l,r,h=>by
  rw[List.mapM_cons]at h;cases ha:g a with
  |none=>rw[ha]at h;cases h
  |some y=>
   rw[ha]at h;cases hl:l.mapM g with
   |none=>simp[hl]at h
   |some s=>
    rw[hl]at h;have h:some (y::s)=some r:=h;cases h;obtain⟨h1,h2⟩:=tN hl;refine⟨by simp[h1],fun i x hx=> ?_⟩;cases i with
    |zero=>simp at hx;subst hx;exact⟨y,by simp,ha⟩
    |succ i=>simpa using h2 i x (by simpa using hx)
theorem zr {w:World} {a:Addr} {n:Nat} {cs:List Value} (h:w.cells? 0 a n=some cs):cs.length=n/\∀j,j<n->w.cell? (a.add j)=cs[j]? :=by
 unfold World.cells? at h;rw[if_pos (zbt _)]at h;obtain⟨h1,h2⟩:=tN h;refine⟨by rw[h1];simp,fun j hj=> ?_⟩;obtain⟨y,h3,h4⟩:=h2 j j (by simp[hj]);rw[h4,h3]
theorem G3:∀{l:List (List Value)} {n:Nat},(∀x∈l,x.length=n)->l.flatten.length=l.length*n/\∀(i j:Nat) x,l[i]? =some x->j<n->l.flatten[i*n+j]? =x[j]?
 |[],n,_=>⟨by simp,fun i j x h=>by simp at h⟩
 |a::l,n,h=>by
  have ha:a.length=n:=h a (by simp);obtain⟨h1,h2⟩:=G3 (l:=l) (n:=n) fun x hx=>h x (by simp[hx])
  refine⟨by simp only[zbx,zab,zac];rw[h1,ha,za2];omega,fun i j x hi hj=> ?_⟩;simp only[zbx];cases i with
  |zero=>
   simp at hi;subst hi;rw[zca,zaF,zax (by omega)]
  |succ i=>
   rw[zaK (by rw[ha,za2];omega),ha];rw[show(i+1)*n+j-n=i*n+j by rw[za2];omega];exact h2 i j x (by simpa using hi) hj
def pf (n:Nat):Nat->List Dat->List Dat
 |0,_=>[]
 |m+1,r=> .r (r.take n)::pf n m (r.drop n)
theorem vt (n:Nat):∀(m:Nat) (r:List Dat),(pf n m r).length=m
 |0,_=>rfl
 |m+1,r=>by simp[pf,vt n m]
theorem uR (n:Nat):∀(m:Nat) (r:List Dat) (i:Nat),i<m->(pf n m r)[i]? =some (.r ((r.drop (i*n)).take n))
 |m+1,r,0,_=>by simp[pf]
 |m+1,r,i+1,h=>by
  simp only[pf,zaZ];rw[uR n m _ i (by omega),zcb,za2,Nat.one_mul,Nat.add_comm n]
theorem WfR.split:∀{a b:List Sch} {r:List Dat},WfR (a++b) r->WfR a (r.take a.length)/\WfR b (r.drop a.length)
 |[],b,r,h=>by simpa[WfR]using h
 |x::a,b,d::r,h=>by
  simp only[zaC,WfR]at h;obtain⟨h1,h2⟩:=WfR.split h.2;simp only[zac,List.take_succ_cons,List.drop_succ_cons,WfR];exact⟨⟨h.1,h1⟩,h2⟩
 |x::a,b,[],h=>by simp[WfR]at h
theorem WfR.rows {l:List Sch}:∀(m:Nat) {r:List Dat},WfR (List.replicate m l).flatten r->∀d∈pf l.length m r,WfR l d.sub
 |0,r,_,d,hd=>by simp[pf]at hd
 |m+1,r,h,d,hd=>by
  rw[zbF,zbx]at h;obtain⟨h1,h2⟩:=h.split;simp only[pf,zaN]at hd;rcases hd with rfl|hd
  . exact h1
  . exact WfR.rows m h2 d hd
section
variable {P : Program} {HH : Type} {enc : TypeId × Value -> HH} {w : World}
theorem AG {r:TypeId->Option (List Sch)} {g:TypeId->List Value->Option (DataW HH × List MemPlace)} (ih:∀t cs x ss,g t cs=some x->uO P t x.1->r t=some ss->Good w ss cs/\cs.length=ss.length) (cs:List Value):
 ∀{fs:List Field} {n m:Nat} {l:List Sch},LH P r fs n=some (l,m)->(∀f∈fs,∃y,g f.type ((cs.drop f.offset).take (P.cellsOf f.type))=some y/\uO P f.type y.1)->n+l.length=m/\(m<=cs.length->Good w l ((cs.drop n).take l.length))
 |[],n,m,l,h,_=>by cases h;exact⟨by simp,fun _=>by simpa using Good.nil w⟩
 |f::fs,n,m,l,h,hg=>by
  simp only[LH]at h
  split at h
  . rename_i a ha
    split at h
    . rename_i hc;obtain⟨h1,h2⟩:=zaj hc
      split at h
      . rename_i b k hb;cases h;obtain⟨y,hy⟩:=hg f (by simp);obtain⟨g1,g2⟩:=ih _ _ _ _ hy.1 hy.2 ha;obtain⟨e1,e2⟩:=AG ih cs hb (fun q hq=>hg q (by simp[hq]));refine⟨by simp;omega,fun hle=> ?_⟩;have:=g1.append (e2 hle);rw[h1,<-h2]at this;rw[zab];have e:(cs.drop n).take (a.length+b.length)=(cs.drop n).take a.length++(cs.drop (n+a.length)).take b.length:=by
         rw[List.take_add,zcb]
        rw[e];exact this
      . cases h
    . cases h
  . cases h
theorem trod_int {fuel:Nat} {t:TypeId} {k:IntKind} {cs:List Value} {x:DataW HH × List MemPlace} (hu:P.underlying t=some (.int k)) (h:DataW.trod enc P w 0 (fun _=>true) true (fuel+1) t cs=some x):
 ∃n,cs=[.int k n]/\(Lit.int k n).wf=true:=by
 rcases cs with _|⟨v,_|⟨v2,tl⟩⟩
 . simp[DataW.trod,hu]at h
 . cases v<;>simp only[DataW.trod,hu,reduceCtorEq]at h
   split at h
   . rename_i hc;exact⟨_,by rw[hc.1],hc.2⟩
   . cases h
 . simp[DataW.trod,hu]at h
theorem trod_bool {fuel:Nat} {t:TypeId} {cs:List Value} {x:DataW HH × List MemPlace} (hu:P.underlying t=some .bool) (h:DataW.trod enc P w 0 (fun _=>true) true (fuel+1) t cs=some x):
 ∃b,cs=[.bool b]:=by
 rcases cs with _|⟨v,_|⟨v2,tl⟩⟩
 . simp[DataW.trod,hu]at h
 . cases v<;>simp only[DataW.trod,hu,reduceCtorEq]at h
   exact⟨_,rfl⟩
 . simp[DataW.trod,hu]at h
theorem trod_slice {fuel:Nat} {t e:TypeId} {cs:List Value} {x:DataW HH × List MemPlace} (hu:P.underlying t=some (.slice e)) (h:DataW.trod enc P w 0 (fun _=>true) true (fuel+1) t cs=some x):
 cs=[.slice none 0 0]\/∃a len cap,cs=[.slice (some a) len cap]/\len<=cap/\(uO P t x.1->cap*P.bytesOf e<=reachBytes)/\∀i,i<cap->∃c y,w.cells? 0 (a.add (i*P.cellsOf e)) (P.cellsOf e)=some c/\DataW.trod enc P w 0 (fun _=>true) true fuel e c=some y/\(uO P t x.1->uO P e y.1):=by
 rcases cs with _|⟨v,_|⟨v2,tl⟩⟩
 . simp[DataW.trod,hu]at h
 . cases v<;>simp only[DataW.trod,hu,reduceCtorEq]at h
   rename_i a len cap;cases a with
   |none=>
    left
    cases len<;>cases cap<;>simp[DataW.trod,hu]at h
    rfl
   |some a=>
    right
    simp only[DataW.trod,hu]at h
    split at h
    . rename_i hc;rw[zaM]at h;obtain⟨elems,h1,h2⟩:=h;rw[zai]at h2;obtain⟨rest,h2,hx⟩:=h2;simp only[zbh]at h2;have hw:x.1.weights P t=((elems.map (·.1)).length+(rest.map (·.1)).length)*P.bytesOf e::(DataW.weightsAll P e (elems.map (·.1))++DataW.weightsAll P e (rest.map (·.1))):=by
       rw[<-hx];simp only[DataW.weights,hu]
      have l1:=(tN h1).1;have l2:=(tN h2).1;rw[List.length_range]at l1 l2;refine⟨a,len,cap,rfl,hc.2.1,fun hs=> ?_,fun i hi=> ?_⟩
      . have:=hs _ (by rw[hw];exact List.mem_cons_self ..);rw[zaU,zaU,l1,l2]at this
        rwa [show len+(cap-len)=cap by omega]at this
      have key:∃y,(w.cells? 0 (a.add (i*P.cellsOf e)) (P.cellsOf e)).bind (DataW.trod enc P w 0 (fun _=>true) true fuel e)=some y/\(uO P t x.1->uO P e y.1):=by
       by_cases hl:i<len
       . obtain⟨y,hm,hy⟩:=mapM_mem h1 i (zbC.2 hl);exact⟨y,hy,fun hs n hn=>hs n (by rw[hw];exact zay _ (zbT _ (iW (za7.2 ⟨y,hm,rfl⟩) hn)))⟩
       . obtain⟨y,hm,hy⟩:=mapM_mem h2 (i-len) (zbC.2 (by omega));rw[show len+(i-len)=i by omega]at hy;exact⟨y,hy,fun hs n hn=>hs n (by rw[hw];exact zay _ (zbZ _ (iW (za7.2 ⟨y,hm,rfl⟩) hn)))⟩
      obtain⟨y,hy,hys⟩:=key;rw[zaM]at hy;obtain⟨c,g1,g2⟩:=hy;exact⟨c,y,g1,g2,hys⟩
    . cases h
 . simp[DataW.trod,hu]at h
theorem trod_struct {fuel:Nat} {t:TypeId} {fs:Array Field} {cs:List Value} {x:DataW HH × List MemPlace} (hu:P.underlying t=some (.struct fs)) (h:DataW.trod enc P w 0 (fun _=>true) true (fuel+1) t cs=some x):
 cs.length=P.cellsOf t/\(uO P t x.1->∀f∈fs.toList,∃y,DataW.trod enc P w 0 (fun _=>true) true fuel f.type ((cs.drop f.offset).take (P.cellsOf f.type))=some y/\uO P f.type y.1):=by
 simp only[DataW.trod,hu]at h
 split at h
 . rename_i hc;rw[zai]at h;obtain⟨xs,h1,hx⟩:=h;refine⟨hc,fun hs f hf=>Ce (T:=fun f=>f.type) h1 (fun n hn=>hs n ?_) f hf⟩;rw[<-hx];simp only[DataW.weights,hu];exact hn
 . cases h
theorem JX {fuel n:Nat} {t e:TypeId} {cs:List Value} {x:DataW HH × List MemPlace} (hu:P.underlying t=some (.array n e)) (h:DataW.trod enc P w 0 (fun _=>true) true (fuel+1) t cs=some x):
 cs.length=P.cellsOf t/\∀i,i<n->∃y,DataW.trod enc P w 0 (fun _=>true) true fuel e ((cs.drop (i*P.cellsOf e)).take (P.cellsOf e))=some y/\(uO P t x.1->uO P e y.1):=by
 simp only[DataW.trod,hu]at h
 split at h
 . rename_i hc;rw[zai]at h;obtain⟨xs,h1,hx⟩:=h;refine⟨hc,fun i hi=> ?_⟩;obtain⟨y,hm,hy⟩:=mapM_mem h1 i (zbC.2 hi);refine⟨y,hy,fun hs n hn=>hs n ?_⟩;rw[<-hx];simp only[DataW.weights,hu];exact iW (za7.2 ⟨y,hm,rfl⟩) hn
 . cases h
theorem Good.rows {l:List Sch} {cs:List Value}:∀(n:Nat),cs.length=n*l.length->(∀i,i<n->Good w l ((cs.drop (i*l.length)).take l.length))->Good w (List.replicate n l).flatten cs
 |0,hl,_=>by
  have:cs=[]:=by simpa using hl
  subst this;exact Good.nil w
 |n+1,hl,h=>by
  rw[zbF,zbx];have h0:=h 0 (by omega);have hr:=Good.rows (l:=l) (cs:=cs.drop l.length) n (by rw[zbd,hl,za2];omega) (fun i hi=>by
   have:=h (i+1) (by omega)
   rwa [za2,Nat.one_mul,Nat.add_comm,<-zcb]at this)
  have:=h0.append hr
  rwa [zca,zbQ,List.take_append_drop]at this
theorem Mz {α:Type} {l:List α} {n j:Nat} (hn:l.length=n) (hj:j<n):∀{m i:Nat},i<m->((List.replicate m l).flatten)[i*n+j]? =l[j]?
 |m+1,0,_=>by
  rw[zbF,zbx,zca,zaF,zax (by omega)]
 |m+1,i+1,h=>by
  rw[zbF,zbx,zaK (by rw[hn,za2];omega),hn,
   show(i+1)*n+j-n=i*n+j by rw[za2];omega]
  exact Mz hn hj (by omega)
theorem Good.slice (xH:∃(k0:Nat) (C:Array Value) (e:TypeId) (fr:Nat × Nat),w.heap[k0]? =some (.cells C e fr)) {l:List Sch} {s:Sch} {a:Addr} {len cap n:Nat} (hcap:len<=cap) (hn:l.length=n) (hn1:0<n)
 (Dr:∀i,i<cap->∃c,w.cells? 0 (a.add (i*n)) n=some c/\Good w l c)
 (hs:∀(r:List Dat),WfR (List.replicate len l).flatten r->∃(d:Dat) (c:aE),s9 s d= .deep c/\WfS s d/\c.len=len/\c.w=n/\∀i,i<len->c.row i=svs l ((r.drop (i*n)).take n)):
 Good w [s] [.slice (some a) len cap]:=by
 have kW:∃css:List (List Value),css.length=len/\∀(i:Nat) c,css[i]? =some c->w.cells? 0 (a.add (i*n)) n=some c/\Good w l c:=by
  have:∀m,m<=len->∃css:List (List Value),css.length=m/\∀(i:Nat) c,css[i]? =some c->w.cells? 0 (a.add (i*n)) n=some c/\Good w l c:=by
   intro m
   induction m with
   |zero=>intro _;exact⟨[],rfl,fun i c h=>by simp at h⟩
   |succ m ih=>
    intro hm;obtain⟨css,h1,h2⟩:=ih (by omega);obtain⟨c,h3,h4⟩:=Dr m (by omega);refine⟨css++[c],by simp[h1],fun i d hd=> ?_⟩;rw[zaV]at hd
    split at hd
    . exact h2 i d hd
    . rename_i hi;have:i=m:=by
       have:=(zao.1 hd).1;simp at this;omega
      subst this;rw[h1]at hd;simp at hd;subst hd;exact⟨h3,h4⟩
  exact this len (zap _)
 obtain⟨css,hcl,aap⟩:=kW;have hlen:∀c∈css,c.length=n:=by
  intro c hc;obtain⟨i,hi⟩:=zbK hc;exact(zr (aap i c hi).1).1
 obtain⟨hfl,hfg⟩:=G3 hlen;rw[hcl]at hfl;have hg:Good w (List.replicate len l).flatten css.flatten:=by
  refine Good.rows len (by rw[hfl,hn]) (fun i hi=> ?_);have hi':css[i]? =some css[i]:=zah (by omega);have e:(css.flatten.drop (i*l.length)).take l.length=css[i]:=by
   apply zby;intro j;rw[zav,zaA,hn];have hci:(css[i]).length=n:=hlen _ (zbw _)
   split
   . rename_i hj;exact hfg i j _ hi' hj
   . rw[zaW (by omega)]
  rw[e];exact(aap i _ hi').2
 intro f H hR;obtain⟨f1,H1,cs',r,a1,a2,a3,a4,a5,a6⟩:=hg f H hR;obtain⟨d,c,hd1,hd2,hd3,hd4,hd5⟩:=hs r a6;have Oq:cs'.length=len*n:=by rw[a3.1,hfl]
 have afK:∃(lo:Loc) (C:Array Value) (e:TypeId) (fr:Nat × Nat),w.heap[lo.blk]? =some (.cells C e fr)/\(∀(i:Nat) v,cs'[i]? =some v->bj v=true/\∃v',C[lo.off+i]? =some v'/\V f1 v v')/\(a=⟨lo.blk,lo.off+0,none⟩\/(len=0/\cap=0)):=by
  by_cases hz:cap=0
  . obtain⟨k0,C,e,fr,hk⟩:=xH;have:cs'=[]:=by
     apply zaB;rw[Oq];have:len=0:=by omega
     rw[this];simp
    subst this;exact⟨⟨k0,0,0⟩,C,e,fr,hk,fun i v h=>by simp at h,.inr ⟨by omega,hz⟩⟩
  . have hn0:n≠0:=by omega
    . obtain⟨c0,h0,_⟩:=Dr 0 (by omega);obtain⟨h1,h2⟩:=zr h0;have h3:=h2 0 (by omega);rw[zca]at h3;have h3:w.cell? a=c0[0]? :=by simpa[Addr.add]using h3
      rw[zah (by omega)]at h3;unfold World.cell? at h3
      split at h3
      . rename_i C e fr hC
        split at h3
        . cases h3
        . rename_i hsp;obtain⟨b,off,sp⟩:=a;have:sp=none:=by cases sp<;>simp at hsp⊢
          subst this;refine⟨⟨b,off,0⟩,C,e,fr,hC,fun j v hv=> ?_,.inl rfl⟩;refine⟨a4 v (zaQ hv), ?_⟩;have hj:j<len*n:=by rw[<-Oq];exact(zao.1 hv).1
          have hn':0<n:=by omega
          have hi:j/n<len:=by rw[Nat.div_lt_iff_lt_mul hn'];exact hj
          have hjm:=Nat.mod_lt j hn';have hjd:j/n*n+j%n=j:=by rw[Nat.mul_comm];exact Nat.div_add_mod j n
          obtain⟨v',h4,h5⟩:=a3.get hv;refine⟨v', ?_,h5⟩;have hci:css[j/n]? =some css[j/n]:=zah (by omega);have h6:=hfg (j/n) (j%n) _ hci hjm;rw[hjd,h4]at h6;obtain⟨h7,h8⟩:=zr (aap _ _ hci).1;have h9:=h8 (j%n) hjm;rw[<-h6]at h9;have afL:((⟨b,off,none⟩:Addr).add (j/n*n)).add (j%n)=⟨b,off+j,none⟩:=by
           rw[Addr.add_eq,Addr.add_eq,zbe,hjd]
          rw[afL]at h9;unfold World.cell? at h9;have hC':w.heap[b]? =some (.cells C e fr):=hC;simp only[hC']at h9;simpa using h9
      . cases h3
 obtain⟨lo,C,e,fr,b1,b2,b3⟩:=afK;obtain⟨f2,H2,c1,c2,c3,c4⟩:=a1.push cs' lo b1 b2;refine⟨f2,H2,[.slice (some ⟨H1.size,0,none⟩) len cap],[d],c1,a2.trans c2,.cons (.slX H1.size 0 len cap lo a c4 b3) (.nil f2),by simp[bj], ?_,⟨hd2,trivial⟩⟩;have hDV:DV ui H2 (Own ui hp0) (.deep c) (.slice (some ⟨H1.size,0,none⟩) c.len cap):=by
  refine .deep c H1.size 0 none cap ⟨cs'⟩ (.inl rfl) (by omega) c3 (ae8 _) (by rw[hd3,hd4,zaF];exact Nat.le_of_eq Oq.symm) (fun i hi j sv hsv v hv=> ?_);rw[hd3]at hi;rw[hd5 i hi]at hsv;rw[hd4,zaF]at hv;have ha6:=a6.len;have hrl:r.length=len*n:=by rw[ha6];simp[hn]
  have hin:=jP (w:=n) hi;have hsg:=yL (a:=l) (r:=(r.drop (i*n)).take n) j (by simp;omega);rw[hsg]at hsv;have hjl:j<n:=by
   rw[<-hn];cases hlj:l[j]? with
   |none=>rw[hlj]at hsv;cases hsv
   |some q=>exact(zao.1 hlj).1
  refine(a5.2 (i*n+j) sv v ?_ hv).mono c2.ext;rw[yL _ ha6];have e1:((List.replicate len l).flatten)[i*n+j]? =l[j]? :=Mz hn hjl hi;rw[e1];rw[<-hsv]
  congr 1
  funext q
  congr 1
  rw[zaf,zaf,zav,if_pos hjl,zaA]
 rw[hd3]at hDV;simp only[svs];rw[hd1];exact .cons hDV .nil
theorem Cq {n z:Nat} (hz:0<z) (h:n*z<=reachBytes):n<=140737488355328:=by
 have:n*1<=n*z:=Nat.mul_le_mul_left n hz;have:reachBytes<=140737488355328:=by decide
 omega
theorem An (xH:∃(k0:Nat) (C:Array Value) (e:TypeId) (fr:Nat × Nat),w.heap[k0]? =some (.cells C e fr)):∀(fuel:Nat) (t:TypeId) (cs:List Value) x (D:Nat) (ss:List Sch),
 DataW.trod enc P w 0 (fun _=>true) true fuel t cs=some x->uO P t x.1->Jn P D t=some ss->Good w ss cs/\cs.length=ss.length
 |0,_,_,_,_,_,h,_,_=>by cases h
 |fuel+1,t,cs,x,0,ss,_,_,hf=>by cases hf
 |fuel+1,t,cs,x,D+1,ss,h,hz,hf=>by
  have ih:=An xH fuel;unfold Jn at hf
  split at hf
  ·
   rename_i k hu;cases hf;obtain⟨n,rfl,hw⟩:=trod_int hu h;refine⟨fun f H hR=>⟨f,H,[.int k n],[.n n],hR,.refl f H,.cons (.int _ _) (.nil f),by simp[bj],.cons (.i _ _) .nil, ?_⟩,rfl⟩;exact⟨hw,trivial⟩
  . rename_i hu;cases hf;obtain⟨b,rfl⟩:=trod_bool hu h;refine⟨fun f H hR=>⟨f,H,[.bool b],[.n (if b then 1 else 0)],hR,.refl f H,.cons (.bool _) (.nil f),by simp[bj],.cons ?_ .nil,⟨trivial,trivial⟩⟩,rfl⟩;cases b
    . exact .b false
    . exact .b true
  ·
   rename_i e hu
   split at hf
   . rename_i k he
     split at hf
     . rename_i hc;obtain⟨hc,Td⟩:=zaj hc;cases hf;rcases trod_slice hu h with rfl|⟨a,len,cap,rfl,hcap,hreach,Dr⟩
       . exact⟨fun f H hR=>⟨f,H,[.slice none 0 0],[.r []],hR,.refl f H,.cons .du (.nil f),by simp[bj],.cons (.dq _ rfl) .nil,⟨⟨by simp[Dat.sub],fun x hx=>by simp[Dat.sub]at hx⟩,trivial⟩⟩,rfl⟩
       . refine⟨Good.slice (l:=[.int k]) (n:=1) xH hcap rfl (by omega) (fun i hi=> ?_) (fun r hr=> ?_),rfl⟩
         . obtain⟨c,y,h1,h2,h3⟩:=Dr i hi;rw[hc]at h1;exact⟨c,h1,(ih _ _ _ 1 [.int k] h2 (h3 hz) (by simp[Jn,he])).1⟩
         . have hrl:r.length=len:=by rw[hr.len];simp
           refine⟨.r r,.ints k (r.map Dat.int),rfl,⟨zaP (by show r.length<=cap;omega) (Cq Td (hreach hz)), ?_⟩,by simp[aE.len,hrl],rfl,fun i hi=> ?_⟩
           . intro x hx;have:=WfR.rows (l:=[.int k]) len hr;obtain⟨i,hi⟩:=zbK (show x∈r from hx);have hil:i<len:=by rw[<-hrl];exact(zao.1 hi).1
             have:=this (.r ((r.drop (i*1)).take 1)) (zaQ (uR 1 len r i hil));have e:(r.drop (i*1)).take 1=[x]:=by
              rw[zcf];apply zby;intro j;rw[zav,zaA];cases j with
              |zero=>simpa using hi
              |succ j=>simp
             rw[e]at this;exact this.1
           . have e:(r.drop (i*1)).take 1=[r.getD i (.n 0)]:=by
              rw[zcf];apply zby;intro j;rw[zav,zaA];cases j with
              |zero=>simp[zaf,zah (show i<r.length by omega)]
              |succ j=>simp
             rw[e];simp only[aE.row,svs,s9,zaf,List.getElem?_map];rw[zah (show i<r.length by omega)];rfl
     . cases hf
   . split at hf
     . rename_i l hl
       split at hf
       . rename_i hc;obtain⟨hc,hc1,Td⟩:=zaj hc;cases hf;rcases trod_slice hu h with rfl|⟨a,len,cap,rfl,hcap,hreach,Dr⟩
         . exact⟨fun f H hR=>⟨f,H,[.slice none 0 0],[.r []],hR,.refl f H,.cons .du (.nil f),by simp[bj],.cons (.dq _ rfl) .nil,⟨⟨by simp[Dat.sub],fun x hx=>by simp[Dat.sub]at hx⟩,trivial⟩⟩,rfl⟩
         . refine⟨Good.slice (l:=l) (n:=P.cellsOf e) xH hcap hc (by omega) (fun i hi=> ?_) (fun r hr=> ?_),rfl⟩
           . obtain⟨c,y,h1,h2,h3⟩:=Dr i hi;exact⟨c,h1,(ih _ _ _ D l h2 (h3 hz) hl).1⟩
           . refine⟨.r (pf l.length len r),.ab l (pf l.length len r),rfl,⟨zaP (by show(pf l.length len r).length<=cap;rw[vt];exact hcap) (Cq Td (hreach hz)),WfR.rows len hr⟩,vt _ _ _,hc,fun i hi=> ?_⟩;simp only[aE.row];rw[zaf,uR _ _ _ _ hi,zbD,<-hc];have hrl:r.length=len*l.length:=by rw[hr.len];simp
             have hin:=jP (w:=l.length) hi;apply zby;intro j;rw[iH,yL j (by simp;omega),zaF];rfl
       . cases hf
     . cases hf
  ·
   rename_i fs hu
   split at hf
   . rename_i l n hl
     split at hf
     . rename_i hc;have hc:=zaj hc;cases hf;obtain⟨h1,h2⟩:=trod_struct hu h;obtain⟨g1,g2⟩:=AG (fun t cs x ss a z b=>ih t cs x D ss a z b) cs hl (h2 hz);have:=g2 (by omega);rw[zbQ,zbq (by omega)]at this;exact⟨this,by omega⟩
     . cases hf
   . cases hf
  ·
   rename_i n e hu
   split at hf
   . rename_i l hl
     split at hf
     . rename_i hc;obtain⟨h0,hc⟩:=zaj hc;cases hf;obtain⟨h1,h2⟩:=JX hu h;refine⟨Good.rows n (by rw[h1,hc]) (fun i hi=> ?_),by rw[h1,hc];simp⟩;obtain⟨y,hy,hys⟩:=h2 i hi;rw[h0];exact(ih _ _ _ D l hy (hys hz) hl).1
     . cases hf
   . cases hf
  . cases hf
end
end
end
end Go.Proofs.YtfaojedfnjdnnaaGreat.Ev
namespace Go.Proofs.YtfaojedfnjdnnaaGreat.Ev
noncomputable section
noncomputable section
open Go
open Go.RowKit (Below)
theorem BO {P:Program} {w:World} (h:w.ShapedOpen P):∃(k0:Nat) (C:Array Value) (e:TypeId) (fr:Nat × Nat),w.heap[k0]? =some (.cells C e fr):=by
 obtain⟨o,o₀,h1,h2,h3⟩:=h.2 P.globals.size (zap _) (by simp[begin];omega);rw[Nat.sub_self,if_neg (by decide)]at h3;have h4:∃C e fr,o₀= .cells C e fr:=by
  simp only[begin,Array.getElem?_push,Array.size_push,Array.size_mapIdx]at h2;rw[if_neg (by omega),if_neg (by omega),if_neg (by omega),if_neg (by omega),if_pos trivial]at h2;exact⟨_,_,_,(zbL h2).symm⟩
 obtain⟨C,e,fr,h5⟩:=h4;exact⟨_,C,e,fr,by rw[h1,h3,h5]⟩
def vpS:Sch->VP
 | .int k=> .int k
 | .bool=> .bool
 | .ints k=> .ints k
 | .ab l=> .ab l
def abw:Sch->Dat->Un
 | .int _,d=> .i d.int
 | .bool,d=> .b (d.int !=0)
 | .ints _,d=> .l (d.sub.map Dat.int)
 | .ab _,d=> .d d.sub
def uns:List Sch->List Dat->List Un
 |s::l,d::r=>abw s d::uns l r
 |_,_=>[]
def WfU:List Sch->List Un->Prop
 |[],[]=>True
 | .int k::l,.i n::r=>(Lit.int k n).wf=true/\WfU l r
 | .bool::l,.b _::r=>WfU l r
 | .ints k::l,.l xs::r=>(xs.length<=140737488355328/\∀x∈xs,(Lit.int k x).wf=true)/\WfU l r
 | .ab s::l,.d xs::r=>(xs.length<=140737488355328/\∀x∈xs,WfR s x.sub)/\WfU l r
 |_,_=>False
theorem JQ {us:List Un} (h:WfU [] us):us=[]:=by cases us with|nil=>rfl|cons u us=>exact h.elim
theorem bP {k:IntKind} {l:List Sch} {us:List Un} (h:WfU (.int k::l) us):∃a r,us= .i a::r/\(Lit.int k a).wf=true/\WfU l r:=by
 cases us with
 |nil=>exact h.elim
 |cons u us=>cases u<;>first|exact⟨_,_,rfl,h.1,h.2⟩|exact h.elim
theorem Wr {l:List Sch} {us:List Un} (h:WfU (.bool::l) us):∃a r,us= .b a::r/\WfU l r:=by
 cases us with
 |nil=>exact h.elim
 |cons u us=>cases u<;>first|exact⟨_,_,rfl,h⟩|exact h.elim
theorem dn {k:IntKind} {l:List Sch} {us:List Un} (h:WfU (.ints k::l) us):∃a r,us= .l a::r/\(a.length<=140737488355328/\∀x∈a,(Lit.int k x).wf=true)/\WfU l r:=by
 cases us with
 |nil=>exact h.elim
 |cons u us=>cases u<;>first|exact⟨_,_,rfl,h.1,h.2⟩|exact h.elim
theorem yD {s l:List Sch} {us:List Un} (h:WfU (.ab s::l) us):∃a r,us= .d a::r/\(a.length<=140737488355328/\∀x∈a,WfR s x.sub)/\WfU l r:=by
 cases us with
 |nil=>exact h.elim
 |cons u us=>cases u<;>first|exact⟨_,_,rfl,h.1,h.2⟩|exact h.elim
theorem WfR.uns:∀{l:List Sch} {r:List Dat},WfR l r->WfU l (uns l r)
 |[],[],_=>trivial
 |s::l,d::r,h=>by
  simp only[WfR]at h;have:=WfR.uns h.2;cases s with
  |int k=>exact⟨h.1,this⟩
  |bool=>exact this
  |ints k=>
   refine⟨⟨by rw[zaU];exact h.1.1,fun x hx=> ?_⟩,this⟩;obtain⟨d',hd,rfl⟩:=za7.1 hx;exact h.1.2 d' hd
  |ab s=>exact⟨h.1,this⟩
 |[],_::_,h=>by simp[WfR]at h
 |_::_,[],h=>by simp[WfR]at h
theorem WfU.append:∀{a b:List Sch} {r s:List Un},WfU a r->WfU b s->WfU (a++b) (r++s)
 |[],b,r,s,h,k=>by rw[JQ h];exact k
 | .int _::a,b,r,s,h,k=>by obtain⟨x,q,rfl,h1,h2⟩:=bP h;exact⟨h1,h2.append k⟩
 | .bool::a,b,r,s,h,k=>by obtain⟨x,q,rfl,h2⟩:=Wr h;exact h2.append k
 | .ints _::a,b,r,s,h,k=>by obtain⟨x,q,rfl,h1,h2⟩:=dn h;exact⟨h1,h2.append k⟩
 | .ab _::a,b,r,s,h,k=>by obtain⟨x,q,rfl,h1,h2⟩:=yD h;exact⟨h1,h2.append k⟩
theorem Mp:∀{l:List Sch} {r:List Dat},r.length=l.length->(uns l r).length=l.length
 |[],[],_=>rfl
 |s::l,d::r,h=>by simp[uns,Mp (l:=l) (r:=r) (by simpa using h)]
 |[],_::_,h=>by simp at h
 |_::_,[],h=>by simp at h
theorem Ah (s:Sch):(vpS s).size=1:=by cases s<;>rfl
theorem PT (s:Sch) (d:Dat) (rest:List Un):(vpS s).to (abw s d::rest)=s9 s d:=by cases s<;>rfl
theorem CW:∀(l:List Sch),VP.mB (l.map vpS)=l.length
 |[]=>rfl
 |s::l=>by simp[VP.mB,Ah,CW l];omega
theorem MK:∀{l:List Sch} {r:List Dat} (rest:List Un),r.length=l.length->VP.tos (l.map vpS) (uns l r++rest)=svs l r
 |[],[],rest,_=>rfl
 |s::l,d::r,rest,h=>by
  simp only[zaS,uns,zaC,VP.tos,svs];rw[PT,Ah,List.drop_one,List.tail_cons,MK rest (by simpa using h)]
 |[],_::_,_,h=>by simp at h
 |_::_,[],_,h=>by simp at h
abbrev Par:=Bool × List Sch
def Par.vp:Par->VP
 |(true,l)=> .agg (l.map vpS)
 |(false,s::_)=>vpS s
 |(false,[])=> .any
def DJ (P:Program):List TypeId->Option (List Par)
 |[]=>some []
 |t::ts=>
  match P.underlying t,Jn P 20 t,DJ P ts with
  |some d,some ss,some r=>(match nh d||decide (ss.length=1)with|true=>some ((nh d,ss)::r)|false=>none)
  |_,_,_=>none
section
variable {P : Program} {HH : Type} {enc : TypeId × Value -> HH} {w : World}
theorem Ic (xH:∃(k0:Nat) (C:Array Value) (e:TypeId) (fr:Nat × Nat),w.heap[k0]? =some (.cells C e fr)) {base:Nat}:∀{ts:List TypeId} {vs:List Value} {ds:List (DataW HH)} {ps:List MemPlace} {pars:List Par},
 DJ P ts=some pars->DataW.TrodAll enc P w 0 (fun _=>true) true ts vs ds ps->(∀n∈DataW.weightsEach P ts ds,n<=reachBytes)->(∀(j:Nat) t v,ts[j]? =some t->vs[j]? =some v->Value.okWide P w .any base t v)->
 ∀f H,RW f H w->∃f' H' vs' us,RW f' H' w/\AD f H f' H'/\VL f' vs' vs/\DVL ui H' (Own ui hp0) (VP.tos (pars.map Par.vp) us) vs'/\WfU (pars.map (·.2)).flatten us
 |[],vs,ds,ps,pars,hp,hd,hz,hv,f,H,hR=>by
  cases hp;cases vs with
  |nil=>exact⟨f,H,[],[],hR,.refl f H,.nil f,.nil,trivial⟩
  |cons v vs=>cases ds<;>exact hd.elim
 |t::ts,vs,ds,ps,pars,hp,hd,hz,hv,f,H,hR=>by
  simp only[DJ]at hp
  split at hp
  . rename_i d ss r hu hf hr
    split at hp
    . rename_i hc;cases hp;cases vs with
      |nil=>cases ds<;>exact hd.elim
      |cons v vs=>
       cases ds with
       |nil=>exact hd.elim
       |cons d0 ds=>
        obtain⟨p,q,⟨fuel,h1⟩,h2,rfl⟩:=hd;obtain⟨hg,hlen⟩:=An xH fuel t _ _ 20 ss h1 (fun n hn=>hz n (by rw[DataW.weightsEach];exact zbT _ hn)) hf;obtain⟨f1,H1,cs',rr,a1,a2,a3,a4,a5,a6⟩:=hg f H hR;obtain⟨f2,H2,vs',us,b1,b2,b3,b4,b5⟩:=Ic xH hr h2 (fun n hn=>hz n (by rw[DataW.weightsEach];exact zbZ _ hn)) (fun j t v g1 g2=>hv (j+1) t v (by simpa using g1) (by simpa using g2)) f1 H1 a1;have hok:=hv 0 t v (by simp) (by simp);have hul:=Mp a6.len;have a3':=a3.mono b2.1;have a5':=a5.mono b2.ext;have hcl:cs'.length=ss.length:=by rw[a3.1,hlen]
        have adX:VP.tos (r.map Par.vp) ((Ev.uns ss rr++us).drop (Par.vp (nh d,ss)).size)=VP.tos (r.map Par.vp) us:=by
         have:(Par.vp (nh d,ss)).size=ss.length:=by
          cases ha:nh d with
          |true=>exact CW ss
          |false=>
           rw[ha]at hc;have hc:ss.length=1:=by simpa using hc
           match ss,hc with
           |[s],_=>exact Ah s
         rw[this,<-hul,za8]
        refine⟨f2,H2,(match nh d with|true=>Value.agg cs'.toArray|false=>cs'.headD undef)::vs',Ev.uns ss rr++us,b1,a2.trans b2,.cons ?_ b3, ?_, ?_⟩
        . cases ha:nh d with
          |true=>
           have:∃cs,v= .agg cs:=by
            unfold Value.okWide at hok;rw[hu]at hok;cases d<;>simp only[nh,zb9]at ha<;>(obtain⟨cs,h,_⟩:=hok;exact⟨cs,h⟩)
           obtain⟨cs,rfl⟩:=this;simp only;have e:(Value.agg cs).cells.toList=cs.toList:=rfl;rw[e]at a3';exact .agg cs'.toArray cs (by simpa using a3'.1) (fun i u hu'=>a4 u (zaQ (by simpa using hu'))) (fun i u u' g1 g2=>a3'.2 i u u' (by simpa using g1) (by simpa using g2))
          |false=>
           rw[ha]at hc;have hc:ss.length=1:=by simpa using hc
           have Wv:∀cs,v≠.agg cs:=by
            rintro cs rfl
            unfold Value.okWide at hok;rw[hu]at hok;cases d<;>simp only[nh,reduceCtorEq]at ha<;>simp[Cell.okWide,hu,Cell.ok]at hok
           match cs',hcl.trans hc with
           |[c],_=>
            simp only[List.headD_cons];have hv1:v.cells.toList=[v]:=by
             cases v<;>first|rfl|exact absurd rfl (Wv _)
            rw[hv1]at a3';exact a3'.2 0 c v (by simp) (by simp)
        . simp only[zaS,VP.tos];rw[adX];refine .cons ?_ b4;cases ha:nh d with
          |true=>
           simp only[Par.vp,VP.to];rw[MK _ a6.len];exact .agg _ _ (by simpa using a5'.1) (fun i s u g1 g2=>a5'.2 i s u g1 (by simpa using g2))
          |false=>
           rw[ha]at hc;have hc:ss.length=1:=by simpa using hc
           have hrl:=a6.len
           match ss,rr,cs',hc,hrl,hcl.trans hc with
           |[s],[dd],[c],_,_,_=>
            simp only[Par.vp,Ev.uns,zaC,zat,PT,List.headD_cons];exact a5'.2 0 _ c (by simp[svs]) (by simp)
        . simp only[zaS,zbx];exact a6.uns.append b5
    . cases hp
  . cases hp
theorem m6:∀{ts:List TypeId} {vs:List Value} {ds:List (DataW HH)} {ps:List MemPlace},DataW.TrodAll enc P w 0 (fun _=>true) true ts vs ds ps->ds.length=ts.length
 |[],[],[],_,_=>rfl
 |t::ts,v::vs,d::ds,ps,⟨_,_,_,h,_⟩=>by simp[m6 h]
theorem nS:∀{ts us:List TypeId} {ds gs:List (DataW HH)} {n:Nat},ds.length=ts.length->n∈DataW.weightsEach P ts ds->n∈DataW.weightsEach P (ts++us) (ds++gs)
 |[],us,ds,gs,n,hl,h=>by rw[DataW.weightsEach]at h;simp at h;simp
 |t::ts,us,[],gs,n,hl,h=>by simp at hl
 |t::ts,us,d::ds,gs,n,hl,h=>by
  simp only[zaC,DataW.weightsEach]at h⊢;rcases za0.1 h with h|h
  . exact zbT _ h
  . exact zbZ _ (nS (by simpa using hl) h)
variable {L : List FuncId} {TE : Tab} {X : bp}
theorem Gq (sF:P.follows .mixedOrders=true) (oe:oJ P=true) (hT:bp.right P TE) (hX:lJ P X) {g:FuncId} {ts:List TypeId} {pars:List Par} (hp:DJ P ts=some pars)
 (h:∀us,WfU (pars.map (·.2)).flatten us->ve P L (jr TE X) g ⟨pars.map Par.vp,[],0⟩ ⟨[.bool],[],0⟩ us [.b true]) (hsh:w.ShapedOpen P) {base:Nat} {vs:List Value} {ds:List (DataW HH)} {ps:List MemPlace}
 (hd:DataW.TrodAll enc P w 0 (fun _=>true) true ts vs ds ps) {us':List TypeId} {gs:List (DataW HH)} (hz:(DataW.weightsEach P (ts++us') (ds++gs)).all (·<=reachBytes)=true) (FY:∀(j:Nat) t v,ts[j]? =some t->vs[j]? =some v->Value.okWide P w .any base t v):
 Calls P g vs.toArray w fun e w'=>e= .returned (.bool true)/\Below w.heap.size w w':=by
 obtain⟨f,H,vs',us,hR,_,hv,hdv,hwf⟩:=Ic (BO hsh) hp hd (fun n hn=>by simpa using zam.1 hz n (nS (m6 hd) hn)) FY _ _ (RW.nil w);obtain⟨N,y,H',φ',h1,_,h3⟩:=h us hwf ui H vs' (fun x hx=>hx.elim) (ae1 (Nat.le_of_eq hR.lock) hR.hid) hdv;have:y= .bool true:=by
  simp only[Pn.fx,VP.tos,VP.to,nc]at h3;cases h3;rfl
 subst this;exact Qz sF oe (QQ hT hX) h1 hR.r hR.lock hR.free hv
end
end
end
end Go.Proofs.YtfaojedfnjdnnaaGreat.Ev
namespace Go.Proofs.YtfaojedfnjdnnaaGreat.Ev
noncomputable section
noncomputable section
open Go
abbrev w64 (n:Int):Int:=IntKind.i64.wrap n
abbrev sU (n:Int):Int:=IntKind.u64.wrap n
abbrev wu8 (n:Int):Int:=IntKind.u8.wrap n
def ltN:Nat:=Nat.succ (Nat.succ 0)+1
def lt {α β:Type} (v:α) (f:α->β):β:=(fun _:Nat=>f v) ltN
def chk {α:Type} (c:Bool) (t:Option α):Option α:=bif c then t else none
def Zv {α:Type} (c:Bool) (t:Option α):Option α:=bif c then none else t
def inb (i:Int) (n:Nat):Bool:=decide (0<=i/\i<(n:Int))
def fits (n z:Nat):Bool:=decide (n<1099511627776/\n*z<35184372088832)
def oR (v:Int) (z:Nat):Bool:=decide (0<=v/\(z:Int)*v<=140737488355328/\v<=9223372036854775807)
def bI (b:Bool):Int:=bif b then 1 else 0
def Dat.i (d:Dat) (j:Nat):Int:=(d.fld j).int
def Dat.b (d:Dat) (j:Nat):Bool:=(d.fld j).int !=0
def Dat.l (d:Dat) (j:Nat):List Int:=List.map Dat.int (d.fld j).sub
def Dat.d (d:Dat) (j:Nat):List Dat:=(d.fld j).sub
def ai (l:List Dat) (i:Nat):Dat:=l.getD i (.r [])
theorem aa {n:Int} (h1: -9223372036854775808<=n) (h2:n<=9223372036854775807):w64 n=n:=by show IntKind.i64.wrap n=n;rw[IntKind.wrap_i64];omega
theorem lj {α β:Type} {v:α} {f:α->β} {r:β} (h:∀x,x=v->f x=r):bd v f=r:=h v rfl
theorem od {α β:Type} {v:α} {f:α->β} {r:β} (h:∀x,x=v->f x=r):lt v f=r:=h v rfl
theorem al {α:Type} {c:Bool} {a r:Option α} (h:c=true) (k:a=r):chk c a=r:=by rw[h];exact k
theorem cu {α:Type} {c:Bool} {a b r:α} (h:c=true) (k:a=r):(bif c then a else b)=r:=by rw[h];exact k
theorem cm {α:Type} {c:Bool} {a b r:α} (h:c=false) (k:b=r):(bif c then a else b)=r:=by rw[h];exact k
theorem Zj {i:Int} {n:Nat}:inb i n=true↔0<=i/\i<(n:Int):=by simp[inb]
theorem TU {n z:Nat}:fits n z=true↔n<1099511627776/\n*z<35184372088832:=by simp[fits]
theorem Jp {v:Int} {z:Nat}:oR v z=true↔0<=v/\(z:Int)*v<=140737488355328/\v<=9223372036854775807:=by simp[oR]
theorem mS (a b:Int):(if b<a then b else a)=min a b:=by omega
theorem oY (a b:Int):(if a<b then b else a)=max a b:=by omega
theorem jE {a b:Int} (h:a=b):(a==b)=true:=by simp[h]
theorem lG {a b:Int} (h:a≠b):(a==b)=false:=by simp[h]
theorem ac5 {a b:Int} (h:a≠b):(a !=b)=true:=by simp[h]
theorem aa4 {a b:Int} (h:a=b):(a !=b)=false:=by simp[h]
theorem ah (n:Nat) (h:0<n):∃k,n=k+1:=⟨n-1,by omega⟩
theorem ax (pre:List Dat) (x:Dat) (rest:List Dat):ai (pre++x::rest) pre.length=x:=by simp[ai]
theorem br (pre:List Int) (x:Int) (rest:List Int) (d:Int):(pre++x::rest).getD pre.length d=x:=by simp
theorem vj (pre ud:List Int) (x:Int) (rest:List Int) (d:Int) (h:ud.length=pre.length):(ud++x::rest).getD pre.length d=x:=by rw[<-h];simp
theorem DR {α:Type} (pre:List α) (x y:α) (rest:List α):List.set (pre++x::rest) pre.length y=pre++y::rest:=by simp
theorem ZP (b:Bool):(bI b !=0)=b:=by cases b<;>rfl
section
variable (a b c d e f g h : Dat) (r : List Dat)
theorem Ql (x:Int):(Dat.r (.n x::r)).i 0=x:=rfl
theorem fL (x:Int):(Dat.r (a:: .n x::r)).i 1=x:=rfl
theorem j8 (x:Int):(Dat.r (a::b:: .n x::r)).i 2=x:=rfl
theorem gR (x:Int):(Dat.r (a::b::c:: .n x::r)).i 3=x:=rfl
theorem AQ (x:Int):(Dat.r (a::b::c::d:: .n x::r)).i 4=x:=rfl
theorem rE (x:Int):(Dat.r (a::b::c::d::e:: .n x::r)).i 5=x:=rfl
theorem sf (x:Int):(Dat.r (a::b::c::d::e::f:: .n x::r)).i 6=x:=rfl
end
section
variable {α : Type} {a b : α} {o : Option α} {p : Prop} [Decidable p] {c d : Bool}
theorem lt_eq {β:Type} (v:β) (f:β->α):lt v f=f v:=rfl
theorem aJ (h:p):chk (decide p) o=o:=by rw[zaa h];rfl
theorem k9:chk true o=o:=rfl
theorem V6:chk (c&&d) o=chk c (chk d o):=by cases c<;>rfl
theorem bQ {i:Int} {n:Nat} (h1:0<=i) (h2:i<(n:Int)):chk (inb i n) o=o:=by rw[Zj.2 ⟨h1,h2⟩];rfl
theorem bD {n z:Nat} (h1:n<1099511627776) (h2:n*z<35184372088832):chk (fits n z) o=o:=by rw[TU.2 ⟨h1,h2⟩];rfl
theorem R0 {v:Int} {z:Nat} (h1:0<=v) (h2:(z:Int)*v<=140737488355328) (h3:v<=9223372036854775807):chk (oR v z) o=o:=by rw[Jp.2 ⟨h1,h2,h3⟩];rfl
theorem Sz (h:¬p):Zv (decide p) o=o:=by rw[zan h];rfl
theorem aL (h:p):(bif decide p then a else b)=a:=by rw[zaa h];rfl
theorem ay (h:¬p):(bif decide p then a else b)=b:=by rw[zan h];rfl
theorem dZ {x y:Int} (h:x=y):(bif x==y then a else b)=a:=by rw[jE h];rfl
theorem dL {x y:Int} (h:x≠y):(bif x==y then a else b)=b:=by rw[lG h];rfl
theorem dr {x y:Int} (h:x≠y):(bif x !=y then a else b)=a:=by rw[ac5 h];rfl
theorem cU {x y:Int} (h:x=y):(bif x !=y then a else b)=b:=by rw[aa4 h];rfl
theorem cond_not:(bif !c then a else b)=(bif c then b else a):=by cases c<;>rfl
theorem Pb:(bif c&&d then a else b)=(bif c then(bif d then a else b)else b):=by cases c<;>rfl
theorem TO:(bif c||d then a else b)=(bif c then a else(bif d then a else b)):=by cases c<;>rfl
theorem UP:(bif true then a else b)=a:=rfl
theorem tf:(bif false then a else b)=b:=rfl
theorem gI:(bif c then a else a)=a:=by cases c<;>rfl
theorem kQ {l:List Dat} {i:Nat} (h:i<l.length):ai l i=l[i]:=by simp[ai,h]
end
def sI (k:Nat):List Sch:=List.replicate k (.int .i64)
def sB (k:Nat):List Sch:=List.replicate k (.int .i64)++[.bool]
theorem TRa {α:Type}:(∀{β:Type} (v:β) (f:β->α),lt v f=f v)/\(∀{o:Option α} {p:Prop} [Decidable p],p->chk (decide p) o=o)/\(∀{o:Option α},chk true o=o)/\(∀{o:Option α} {c d:Bool},chk (c&&d) o=chk c (chk d o))/\(∀{o:Option α} {i:Int} {n:Nat},0<=i->i<(n:Int)->chk (inb i n) o=o)/\(∀{o:Option α} {n z:Nat},n<1099511627776->n*z<35184372088832->chk (fits n z) o=o)/\(∀{o:Option α} {v:Int} {z:Nat},0<=v->(z:Int)*v<=140737488355328->v<=9223372036854775807->chk (oR v z) o=o)/\(∀{o:Option α} {p:Prop} [Decidable p],¬p->Zv (decide p) o=o)/\(∀{a b:α} {p:Prop} [Decidable p],p->(bif decide p then a else b)=a)/\(∀{a b:α} {p:Prop} [Decidable p],¬p->(bif decide p then a else b)=b)/\(∀{a b:α} {x y:Int},x=y->(bif x==y then a else b)=a)/\(∀{a b:α} {x y:Int},x≠y->(bif x==y then a else b)=b)/\(∀{a b:α} {x y:Int},x≠y->(bif x !=y then a else b)=a)/\(∀{a b:α} {x y:Int},x=y->(bif x !=y then a else b)=b)/\(∀{a b:α} {c:Bool},(bif !c then a else b)=(bif c then b else a))/\(∀{a b:α} {c d:Bool},(bif c&&d then a else b)=(bif c then(bif d then a else b)else b))/\(∀{a b:α} {c d:Bool},(bif c||d then a else b)=(bif c then a else(bif d then a else b)))/\(∀{a b:α},(bif true then a else b)=a)/\(∀{a b:α},(bif false then a else b)=b):=
 ⟨fun v f=>lt_eq v f,aJ,k9,V6,bQ,bD,R0,Sz,aL,ay,dZ,dL,dr,cU,cond_not,Pb,TO,UP,tf⟩
theorem TRi:(∀a b:Int,(if b<a then b else a)=min a b)/\(∀a b:Int,(if a<b then b else a)=max a b):=⟨mS,oY⟩
theorem LNl {α:Type}:(∀a b:List α,(a++b).length=a.length+b.length)/\(∀(x:α) (a:List α),(x::a).length=a.length+1)/\(([]:List α).length=0)/\(∀(n:Nat) (x:α),(List.replicate n x).length=n)/\(∀(l:List α) (i:Nat) (x:α),(l.set i x).length=l.length)/\(∀{β:Type} (f:β->α) (l:List β),(l.map f).length=l.length)/\(∀a b c:List α,a++b++c=a++(b++c))/\(∀(x:α) (a b:List α),x::a++b=x::(a++b))/\(∀a:List α,[]++a=a):=
 ⟨fun a b=>zab,fun x a=>zac,zar,fun n x=>zbn,fun l i x=>za1,fun f l=>zaU f,fun a b c=>zaq a b c,fun x a b=>zaC,fun a=>zat a⟩
theorem LNi:(∀n:Nat,(List.range n).length=n)/\(∀a b:Nat,((a+b:Nat):Int)=(a:Int)+(b:Int))/\(∀n:Nat,((n:Int)).toNat=n)/\(∀a b c:Int,a+b+c=a+(b+c))/\(∀n:Nat,0+n=n)/\(∀n:Int,0+n=n):=
 ⟨fun n=>List.length_range,fun a b=>zaL a b,fun n=>zau n,fun a b c=>zcl a b c,fun n=>zaF n,fun n=>za4 n⟩
abbrev OU0:=Option (List Un)
abbrev LI0:=List Int
abbrev LD0:=List Dat
abbrev VP.z0:VP:= .int .i64
abbrev Sch.z0:Sch:= .int .i64
end
end
end Go.Proofs.YtfaojedfnjdnnaaGreat.Ev
namespace Go.Proofs.YtfaojedfnjdnnaaGreat
noncomputable section
open Go
open Go.RowKit Go.Shelf
attribute [local go_sem] Oper.semAt_some
def Iw.upto (N k:Nat):List (Fin N):=(List.finRange N).take k
theorem Iw.CH {N k:Nat} (h:k<N):Iw.upto N (k+1)=Iw.upto N k++[⟨k,h⟩]:=by
 unfold Iw.upto;rw[List.take_add_one];simp[h]
theorem Iw.HR {N k:Nat} (h:k<=N):(Iw.upto N k).length=k:=by simp[Iw.upto,h]
def Iw.Kp (n₀:Nat) (W W':World):Prop:=Below n₀ W W'/\W'.cell? ⟨n₀+1,0,none⟩=W.cell? ⟨n₀+1,0,none⟩/\W'.cell? ⟨n₀+1+1,0,none⟩=W.cell? ⟨n₀+1+1,0,none⟩
set_option maxRecDepth 100000 in
set_option maxHeartbeats 2000000 in
theorem Iw.Ns (F:Fence) (n:Nat) (h7:F.fn 154) (hro:F.round=none) (hn:1<=n) (l n₀ b off N cap:Nat) (a:Option Addr) (ha:0<N->a=some ⟨b,off,none⟩) (hcap:N*8<=cap) (hreach:N*8<=140737488351232) (J Jx:List (Fin N)->World->Prop)
 (hY:∀pre x W,J pre W->pre.length<N->YieldAt F (n-1) Tryz.prog l #[.slice (some ⟨b,off+x.1*8,none⟩) 8 8] W fun e W'=>
  (e= .returned (.bool true)/\J (pre++[x]) W'/\Iw.Kp n₀ W W')\/(e= .returned (.bool false)/\Jx (pre++[x]) W'))
 (hJd:∀pre W,J pre W->J pre W.drew) (W:World) (hBs:W.cell? ⟨n₀+1,0,none⟩=some (.slice a (N*8) cap)) (hBn:W.cell? ⟨n₀+1+1,0,none⟩=some (.int .i64 8)) (h0:J [] W):
 CallsIn F n Tryz.prog 154 #[.func (.yield l) #[] #[],.pointer (some ⟨n₀+1,0,none⟩),.pointer (some ⟨n₀+1+1,0,none⟩)] W fun e W'=>(∃v,e= .returned v)/\
  ((∃ys,ys=Iw.upto N N/\J ys W')\/(∃pre,(∃k,k<=N/\pre=Iw.upto N k)/\Jx pre W')):=by
 refine callsIn_of_wp Tryz.func154 rfl h7 ?_ hro;simp only[Tryz.ntmps154,zcd,zac,zar,Nat.reduceAdd,Nat.reduceSub,Array.replicate_succ,Array.replicate_zero,List.push_toArray,List.append_toArray,zat,zaC]
 gi_wp2
 gi_loopw [4] (fun i wr=>∃k:Nat,k<=N/\i= .int .i64 (k*8:Nat)/\J (Iw.upto N k) wr/\Iw.Kp n₀ W wr)
  (fun i _=>N*8-(intOf i).toNat)
 case atStart=>exact⟨0,zbt _,rfl,by simpa[Iw.upto]using h0,Below.refl _ _,rfl,rfl⟩
 case round=>
  obtain⟨k,hk,rfl,hJs,hnx⟩:=hrel;have hs:=hnx.2.1.trans hBs;have hn8:=hnx.2.2.trans hBn
  by_cases hlt:k<N
  . obtain rfl:=ha (by omega);obtain⟨fn,tmps,assign,body,hy,hR⟩:=hY _ ⟨k,hlt⟩ wr.drew (hJd _ _ hJs) (by rw[Iw.HR hk];exact hlt);dsimp only at hy
    gi_wp2
    gi_region
    all_goals gi_wp2
    all_goals try omega
    all_goals
     refine hR.mono ?_
     rintro e W3 (⟨rfl,hJ3,hk3⟩|⟨rfl,hJx3⟩)
     . have hn8':=hk3.2.2.trans ((World.cell?_drew _ _).trans hn8)
       gi_wp2
       go_roundw
       case rel=>exact⟨k+1,by omega,by simp;omega,by rw[Iw.CH hlt];exact hJ3,(hnx.1.drew).trans hk3.1,by rw[hk3.2.1];exact hnx.2.1,by rw[hk3.2.2];exact hnx.2.2⟩
       case measure=>simp[intOf];omega
     . gi_wp2
       refine bodyPost_ret (results_none rfl _ _ _) rfl ?_
       exact⟨⟨_,rfl⟩,.inr ⟨_,⟨k+1,by omega,(Iw.CH hlt).symm⟩,hJx3⟩⟩
  . obtain rfl:k=N:=by omega
    gi_wp2
    go_end0
    exact⟨⟨_,rfl⟩,.inl ⟨_,rfl,hJs⟩⟩
set_option maxHeartbeats 1000000 in
theorem Iw.O7 (F:Fence) (n:Nat) (h5:F.fn 101) (hro:F.round=none) (a:Option Addr) (len cap:Nat) (w:World):
 CallsIn F n Tryz.prog 101 #[.slice a len cap,.int .i64 8] w fun e w'=>e= .returned (.func (.func 154) #[] #[.pointer (some ⟨w.heap.size,0,none⟩),.pointer (some ⟨w.heap.size+1,0,none⟩)])/\w'=(w.alloc (.cells #[.slice a len cap] 29)).alloc (.cells #[.int .i64 8] 3):=by
 refine callsIn_of_wp Tryz.func101 rfl h5 ?_ hro;simp only[Tryz.ntmps101,zcd,zac,zar,Nat.reduceAdd,Nat.reduceSub,Array.replicate_succ,Array.replicate_zero,List.push_toArray,List.append_toArray,zat,zaC]
 gi_wp2
 go_ret
 exact⟨by simp,rfl⟩
theorem Iw.Hv (F:Fence) (n:Nat) (h7:F.fn 154) (hro:F.round=none) (hn:1<=n) (n₀ b off N cap:Nat) (a:Option Addr) (ha:0<N->a=some ⟨b,off,none⟩) (hcap:N*8<=cap) (hreach:N*8<=140737488351232) (w:World) (hn₀:n₀+1+1<w.heap.size)
 (hBs:w.cell? ⟨n₀+1,0,none⟩=some (.slice a (N*8) cap)) (hBn:w.cell? ⟨n₀+1+1,0,none⟩=some (.int .i64 8)):
 SeqStopsK F n Tryz.prog 154 #[.pointer (some ⟨n₀+1,0,none⟩),.pointer (some ⟨n₀+1+1,0,none⟩)] (fun x:Fin N=> #[Value.slice (some ⟨b,off+x.1*8,none⟩) 8 8]) (Iw.Kp n₀) (fun ys=>ys=Iw.upto N N) (fun pre=>∃k,k<=N/\pre=Iw.upto N k) N w:=fun l J Jx W hW hJ _ hY h0=>
 Iw.Ns F n h7 hro hn l n₀ b off N cap a ha hcap hreach J Jx hY (fun pre W1 h=>hJ pre W1 W1.drew none h ⟨rfl,rfl,rfl,zap _,fun _ _ _=>rfl⟩ (fun _ h=>by cases h)) W
  ((hW.cell (p:=⟨n₀+1,0,none⟩) (by show n₀+1<_;omega)).trans hBs) ((hW.cell (p:=⟨n₀+1+1,0,none⟩) (by show n₀+1+1<_;omega)).trans hBn) h0
theorem Iw.acQ:(Tryz.prog.info? 3).map (fun i=>(i.zero,i.size,i.bytes))=some (some (.int .i64 0),1,8):=by kernel_rfl
theorem Iw.Hy (N:Nat):Iw.upto N N=List.finRange N:=zbq (by simp)
def Iw.stp (n c:Int):Int:=bits BinOp.or IntKind.i64 (wrap64 (n*256)) (wrap64 c)
def Iw.val (f:Nat->Int):Nat->Int
 |0=>0
 |i+1=>Iw.stp (Iw.val f i) (f i)
theorem Iw.aeq {n₀:Nat} {A B C:World} (h:Iw.Kp n₀ A B) (k:Iw.Kp n₀ B C):Iw.Kp n₀ A C:=⟨h.1.trans k.1,k.2.1.trans h.2.1,k.2.2.trans h.2.2⟩
theorem Iw.afd {n₀:Nat} {w:World} (hn:n₀+1+1<w.heap.size) (W:World) (l:Nat) (o o':Obj) (hl:w.heap.size<=l) (h:W.heap[l]? =some o) (h1:o.isCells=false) (h2:o.isWalk=false):Iw.Kp n₀ W (W.putObj l o'):=by
 refine⟨belowK_b (w:=w) (by omega) W l o o' hl h h1 h2, ?_, ?_⟩
 . unfold World.cell?;rw[World.putObj_heap_other (by show n₀+1≠l;omega)]
 . unfold World.cell?;rw[World.putObj_heap_other (by show n₀+1+1≠l;omega)]
def Iw.I (n₀ N:Nat) (sv:Value) (f:Fin N->Int) (w:World) (pre:List (Fin N)) (W:World):Prop:=
 (∃v,Boxed W n₀ 58 v/\W.ownsRow (n₀+3) 3 1 v pre.length (pre.map fun x=> .int .i64 (f x))/\(v= .slice none 0 0↔pre=[]))/\(Boxed W (n₀+1) 29 sv/\Boxed W (n₀+1+1) 3 (.int .i64 8))/\Below n₀ w W
theorem Iw.adi {n₀ N B:Nat} {sv:Value} {f:Fin N->Int} {w:World} (h1:n₀<=w.heap.size) (h2:n₀<=B):OwnFrom B (Iw.I n₀ N sv f w):=
 OwnFrom.and (Own.from (holdsRow_own (n₀+3) n₀ 58 3 1 (fun(pre:List (Fin N))=>pre.length) (fun pre=>pre.map fun x=> .int .i64 (f x)) (fun pre v=>v= .slice none 0 0↔pre=[])) _)
  (OwnFrom.and (OwnFrom.and (Own.from (boxed_own _ _ fun _=>sv) _) (Own.from (boxed_own _ _ fun _=> .int .i64 8) _)) (ownFrom_below h1 h2))
theorem Iw.appended {W w1:World} {n₀ k m:Nat} {sv:Value} {v v':Value} {xs ys:List Value} {tmp:Obj}
 (hv:Boxed W n₀ 58 v) (hS:Boxed W (n₀+1) 29 sv) (hN:Boxed W (n₀+1+1) 3 (.int .i64 8)) (hrow:W.ownsRow (n₀+3) 3 1 v k xs)
 (hown':w1.ownsRow (n₀+3) 3 1 v' m ys) (hgrow:(W.alloc tmp).grownBy w1 v.ownBlock):
 Boxed w1 n₀ 58 v/\Boxed (w1.setCell ⟨n₀,0,none⟩ v') n₀ 58 v'/\(w1.setCell ⟨n₀,0,none⟩ v').ownsRow (n₀+3) 3 1 v' m ys/\KeepsOthers W (w1.setCell ⟨n₀,0,none⟩ v')/\Iw.Kp n₀ W (w1.setCell ⟨n₀,0,none⟩ v')/\
  Boxed (w1.setCell ⟨n₀,0,none⟩ v') (n₀+1) 29 sv/\Boxed (w1.setCell ⟨n₀,0,none⟩ v') (n₀+1+1) 3 (.int .i64 8):=by
 have hsz:=hN.lt;have hne:∀j,v.ownBlock=some j->n₀+3<=j:=fun j ej=>by
  rcases hrow.2 with⟨rfl,_⟩|⟨g,cap,cur,rfl,hb,_,_⟩
  . simp[Value.ownBlock]at ej
  . obtain rfl:g=j:=by simpa[Value.ownBlock]using ej
    exact hb
 have hv1:Boxed w1 n₀ 58 v:=(hv.alloc tmp).kept hgrow (fun e=>by have:=hne _ e.symm;omega);have hS1:Boxed w1 (n₀+1) 29 sv:=(hS.alloc tmp).kept hgrow (fun e=>by have:=hne _ e.symm;omega);have hN1:Boxed w1 (n₀+1+1) 3 (.int .i64 8):=(hN.alloc tmp).kept hgrow (fun e=>by have:=hne _ e.symm;omega);have hS2:=hS1.other (B':=n₀) (by omega) v';have hN2:=hN1.other (B':=n₀) (by omega) v';refine⟨hv1,hv1.set v',hown'.kept (grownBy_setCell' w1 n₀ v') ?_, ?_,⟨?_,hS2.cell.trans hS.cell.symm,hN2.cell.trans hN.cell.symm⟩,hS2,hN2⟩
 . rcases hown'.2 with⟨rfl,_⟩|⟨g,cap,cur,rfl,hb,_,_⟩
   . exact .inl rfl
   . exact .inr fun e=>by simp[Value.ownBlock]at e;omega
 . refine((KeepsOthers.alloc W tmp).trans (KeepsOthers.of_grownBy hgrow fun j o ej hj=> ?_)).trans (KeepsOthers.setCell _ _ _);rcases(hrow.alloc tmp).2 with⟨rfl,_⟩|⟨g,cap,cur,rfl,_,hgb,_⟩
   . simp[Value.ownBlock]at ej
   . obtain rfl:g=j:=by simpa[Value.ownBlock]using ej
     rw[hgb]at hj;cases hj;rfl
 . refine(((Below.refl n₀ W).alloc (by omega) tmp).grown hgrow (by simp;omega) fun j ej=> ?_).setCell (p:=⟨n₀,0,none⟩) (zap _) v';have:=hne j ej;omega
set_option maxRecDepth 100000 in
set_option maxHeartbeats 4000000 in
theorem Iw.VF (F:Fence) (n:Nat) (h49:F.fn 57) (h92:F.fn 101) (h123:F.fn 154) (hro:F.round=none) (hn:3<=n) (b off N cap:Nat) (a:Option Addr) (ha:0<N->a=some ⟨b,off,none⟩) (hcap:N*8<=cap) (hreach:N*8<=140737488351232)
 (bs:Nat->Int) (w:World) (hb:0<N->b<w.heap.size) (hc:∀j,j<N*8->w.cell? ⟨b,off+j,none⟩=some (.int .u8 (bs j))):
 CallsIn F n Tryz.prog 57 #[.slice a (N*8) cap] w fun e W'=>∃v,e= .returned (.tuple #[v,.bool true])/\W'.ownsRow (w.heap.size+3) 3 1 v N ((List.finRange N).map fun x=> .int .i64 (Iw.val (fun i=>bs (x.1*8+i)) 8))/\(v= .slice none 0 0↔N=0)/\Below w.heap.size w W':=by
 have h1:1<=n:=by omega
 obtain⟨i0,hi,hz0,hz1,hz2⟩:=info_parts Iw.acQ;refine callsIn_of_wp_marks Tryz.func57 rfl h49 ?_ hro;simp only[Tryz.ntmps57,zcd,zac,zar,Nat.reduceAdd,Nat.reduceSub,Array.replicate_succ,Array.replicate_zero,List.push_toArray,List.append_toArray,zat,zaC]
 gi_wp2_with (gi_at_call 101;refine(Iw.O7 F (n-1) h92 hro _ _ _ _).mono ?_;rintro e w' ⟨rfl,rfl⟩)
 have bO:=Boxed.new w 58 (.slice none 0 0);have bS:=Boxed.new (w.alloc (.cells #[.slice none 0 0] 58)) 29 (.slice a (N*8) cap);have bN:=Boxed.new ((w.alloc (.cells #[.slice none 0 0] 58)).alloc (.cells #[.slice a (N*8) cap] 29)) 3 (.int .i64 8);rw[World.size_alloc]at bS bN;rw[World.size_alloc]at bN;have hB0:Below w.heap.size w (((w.alloc (.cells #[.slice none 0 0] 58)).alloc (.cells #[.slice a (N*8) cap] 29)).alloc (.cells #[.int .i64 8] 3)):=(((Below.refl _ w).alloc (zap _) _).alloc (by simp) _).alloc (by simp;omega) _;refine wpIn_rangeFunc_ownG hro h1 (gf:=154) (lb:= #[.pointer (some ⟨w.heap.size+1,0,none⟩),.pointer (some ⟨w.heap.size+1+1,0,none⟩)]) rfl h123 (enters_of Tryz.func154 (by kernel_rfl) rfl)
  (Iw.Hv F (n-1) h123 hro (by omega) w.heap.size b off N cap a ha hcap hreach _ (by simp) (bS.alloc _).cell bN.cell) Iw.aeq (Iw.afd (by simp)) (Below.refl _ _) (fun _=>rfl)
  (Iw.I w.heap.size N (.slice a (N*8) cap) (fun x=>Iw.val (fun i=>bs (x.1*8+i)) 8) w)
  (fun _ _ _=>False)
  (Iw.adi (zap _) (by simp;omega))
  (fun _ _ _ _ _ hs _ _=>hs)
  ⟨⟨_,(bO.alloc _).alloc _,World.ownsRow_nil _ _ _ _,by simp⟩,⟨bS.alloc _,bN⟩,hB0⟩
  (fun x=>{tmps:= #[.slice a (N*8) cap,undef,.slice none 0 0,.bool false,.pointer (some ⟨w.heap.size,0,none⟩),.slice (some ⟨b,off+x.1*8,none⟩) 8 8,undef,undef,undef,.slice a (N*8) cap,.int .i64 (↑N*8),.int .i64 0,.bool false,.slice a (N*8) cap,
   .func (.func 154) #[] #[.pointer (some ⟨w.heap.size+1,0,none⟩),.pointer (some ⟨w.heap.size+1+1,0,none⟩)],.slice (some ⟨b,off+x.1*8,none⟩) 8 8,undef,undef,undef,undef,undef,undef,undef,undef,undef,undef,undef,undef,undef,undef,undef,undef,undef],defers:=[]}) ?assign ?body ?done ?stop
 case assign=>
  intro l x W K hK
  gi_wp2
  exact hK
 case body=>
  rintro l pre x W ⟨⟨v,hv,hrow,hnil⟩,⟨hS,hN⟩,hB⟩ hlt
  have hcv:=hv.cell;have hbb:=hb (by have:=x.2;omega);have hcx:∀j,j<8->W.cell? ⟨b,off+x.1*8+j,none⟩=some (.int .u8 (bs (x.1*8+j))):=fun j hj=>(hB.cell (p:=⟨b,off+x.1*8+j,none⟩) hbb).trans (by rw[zbe];exact hc _ (by have:=x.2;omega))
  gi_wp2
  gi_loopw [18,6] (fun i m wr=>∃k:Nat,k<=8/\i= .int .i64 k/\m= .int .i64 (Iw.val (fun i=>bs (x.1*8+i)) k)/\wr=W)
   (fun i m _=>8-(intOf i).toNat)
  case atStart=>exact⟨0,by omega,rfl,rfl,rfl⟩
  case round=>
   obtain⟨k,hk,rfl,rfl,rfl⟩:=hrel
   by_cases hk8:k<8
   . have hck:=hcx k hk8
     gi_wp2
     exact⟨⟨k+1,by omega,by simp,rfl,trivial⟩,by simp[intOf];omega⟩
   . obtain rfl:k=8:=by omega
     have hml:pre.length+1<=maxLen:=by unfold maxLen;omega
     gi_wp2_with (gi_at_builtin;refine wpListIn_append_own _ rfl _ _ 58 rfl (w.heap.size+3) 3 i0 (.int .i64 0) 1 8 Tryz.underlying58 hi hz0 hz1 hz2 rfl (by decide) _ _ _ rfl (hrow.alloc _) ⟨wr.heap.size,0,none⟩ 1 1 [.int .i64 (Iw.val (fun i=>bs (x.1*8+i)) 8)] rfl rfl (cell_one_new _ _ _) (by simp[Value.oneCell']) (by omega) (by omega) (by have:=hN.lt;simp;omega) ?_;intro v' w1 hown' hgrow _;obtain⟨g',cap',rfl⟩:=ownsRow_succ hown';obtain⟨hv1,hv2,hr2,hk2,hKp,hS2,hN2⟩:=Iw.appended hv hS hN hrow hown' hgrow;have hc1:=hv1.cell;have hf1:=hv1.frozen)
     exact⟨hk2.from _,hKp,⟨⟨_,hv2,by simpa using hr2,by simp⟩,⟨hS2,hN2⟩,hB.trans hKp.1⟩⟩
 case done=>
  rintro D ys W hD rfl ⟨⟨v,hv,hrow,hnil⟩,⟨hS,hN⟩,hB⟩ hK
  have hc:=hv.cell
  gi_wp2
  refine⟨by simp,.inl ⟨_,_,rfl,run_takeDeferred hK, ?_⟩⟩;refine⟨_,results_tmp2 rfl _ _ _,v,rfl, ?_, ?_,hB.trans (belowK_b (w:=w) (zap _) W D _ _ (by simp at hD;omega) hK rfl rfl)⟩
  . have:=ownsRow_putObj hrow (.deferred none) hK rfl;rw[Iw.Hy,List.length_finRange]at this;exact this
  . rw[Iw.Hy]at hnil;rw[hnil,<-List.length_eq_zero_iff,List.length_finRange]
 case stop=>
  rintro D c pre W _ _ h _
  exact h.elim
set_option maxRecDepth 100000 in
theorem Iw.Wk (F:Fence) (n:Nat) (h49:F.fn 57) (hro:F.round=none) (len cap:Nat) (a:Option Addr) (hm:len%8≠0) (hreach:len<=140737488351232) (w:World):
 CallsIn F n Tryz.prog 57 #[.slice a len cap] w fun e W'=>e= .returned (.tuple #[.slice none 0 0,.bool false])/\W'=w:=by
 refine callsIn_of_wp Tryz.func57 rfl h49 ?_ hro;simp only[Tryz.ntmps57,zcd,zac,zar,Nat.reduceAdd,Nat.reduceSub,Array.replicate_succ,Array.replicate_zero,List.push_toArray,List.append_toArray,zat,zaC]
 gi_wp2
 refine bodyPost_ret (results_tmp2 rfl _ _ _) rfl ?_
 exact⟨rfl,rfl⟩
end
end Go.Proofs.YtfaojedfnjdnnaaGreat
namespace Go.Proofs.YtfaojedfnjdnnaaGreat.Ev
noncomputable section
open Go Go.RowKit
theorem R.aa1 {f:Fm} {H:ag} {w w':World} (h:R f H w) (bo:f H.size=none) (hb:Below w.heap.size w w') (g room:Nat) (cs:List Value) (C:Array Value) (e:TypeId) (hg:w.heap.size<=g) (hC:w'.heap[g]? =some (.cells C e (0,0)))
 (hc:∀u∈cs,bj u=true) (hv:∀(i:Nat) v,cs[i]? =some v->∃v',C[i]? =some v'/\V f v v') (hr:room<=C.size):
 ∃f',f' H.size=some ⟨g,0,room⟩/\Stp f H w f' (aG H cs) w'/\R f' (aG H cs) w':=by
 let f':Fm:=fun x=>if x=H.size then some ⟨g,0,room⟩else f x
 have hle:Le f f':=by
  intro x l hx
  by_cases e:x=H.size
  . subst e;rw[bo]at hx;cases hx
  . simp[f',e,hx]
 have hgl:g<w'.heap.size:=(zaJ.1 hC).1;have hold:∀x b,(aG H cs).get x=some b->x≠H.size->H.get x=some b/\f' x=f x:=by
  intro x b hx hne;have hlt:x<H.size:=by have:=ag.ba hx;simp[aG]at this;omega
  refine⟨?_,by simp[f',hne]⟩
  rwa [aG,ag.fa _ _ _ hlt]at hx
 have fk:∀b,(aG H cs).get H.size=some b->b=⟨cs⟩:=by
  intro b hb;have:=(ag.aM hb).1;rw[aG,ag.bW]at this;simpa using this.symm
 have hf0:f' H.size=some ⟨g,0,room⟩:=by simp[f']
 refine⟨f',hf0,⟨hle, ?_, ?_,rfl,rfl, ?_,hb.size,hb.os,hb.tape,hb.output, ?_, ?_⟩,⟨?_, ?_, ?_, ?_⟩⟩
 . intro x hx;simp[aG]at hx
   by_cases e:x=H.size
   . omega
   . simp[f',e]
 . simp[aG]
 . intro x hx _;rw[aG,ag.bW,if_neg (by omega)]
 . intro cb hcb _;exact hb.block cb hcb
 . intro cb hcb ⟨x,b,l,hx,hm,hl,hb⟩
   by_cases e:x=H.size
   . subst e;rw[hf0]at hl;cases hl;simp at hb;omega
   . obtain⟨h1,h2⟩:=hold x b hx e;exact⟨x,b,l,h1,by simpa[aO,aG]using hm,by rw[<-h2];exact hl,hb⟩
 . intro x b hx
   by_cases e:x=H.size
   . subst e;have:=fk b hx;subst this;refine⟨_,C,_,_,hf0,hC, ?_, ?_⟩
     . intro i v hi;obtain⟨v',h1,h2⟩:=hv i v hi;exact⟨hc v (zaQ hi),v',by simpa using h1,h2.mono hle⟩
     . intro _;exact⟨rfl,hr⟩
   . obtain⟨h1,h2⟩:=hold x b hx e;obtain⟨l,C',e',fr,hf,hw,hcs,hm⟩:=h.blk x b h1;refine⟨l,C',e',fr,by rw[h2];exact hf, ?_, ?_, ?_⟩
     . rw[hb.block _ (h.big x l hf)];exact hw
     . intro i v hi;obtain⟨a1,v',a2,a3⟩:=hcs i v hi;exact⟨a1,v',a2,a3.mono hle⟩
     . intro hmm;exact hm (by simpa[aO,aG]using hmm)
 . intro x l hx
   by_cases e:x=H.size
   . subst e;rw[hf0]at hx;cases hx;exact hgl
   . exact zaD (h.big x l (by simpa[f',e]using hx)) hb.size
 . have:=h.lk;simp[aG];omega
 . intro x y b c l m hx hy hm hne hl hmm
   by_cases ex:x=H.size
   . subst ex;rw[hf0]at hl;cases hl;obtain⟨h1,h2⟩:=hold y c hy (zcn hne);have:=h.big y m (by rw[<-h2];exact hmm);simp;omega
   . obtain⟨h1,h2⟩:=hold x b hx ex
     by_cases ey:y=H.size
     . subst ey;rw[hf0]at hmm;cases hmm;have:=h.big x l (by rw[<-h2];exact hl);simp;omega
     . obtain⟨h3,h4⟩:=hold y c hy ey;exact h.inj x y b c l m h1 h3 (by simpa[aO,aG]using hm) hne (by rw[<-h2];exact hl) (by rw[<-h4];exact hmm)
def uZ:List Value->Option (LI0)
 |[]=>some []
 | .int .u8 n::r=>(uZ r).map (n::·)
 |_::_=>none
theorem A6:∀{cs:List Value} {xs:LI0},uZ cs=some xs->xs.length=cs.length/\∀j,j<xs.length->cs[j]? =some (.int .u8 (xs.getD j 0))
 |[],xs,h=>by cases h;exact⟨rfl,fun j hj=>by simp at hj⟩
 |c::cs,xs,h=>by
  unfold uZ at h
  split at h
  . rename_i e;cases e
  . rename_i n r e;cases e;rw[zai]at h;obtain⟨ys,h1,rfl⟩:=h;obtain⟨h2,h3⟩:=A6 h1;refine⟨by simp[h2],fun j hj=> ?_⟩;cases j with
    |zero=>rfl
    |succ j=>
     have:=h3 j (by simpa using hj);simpa using this
  . cases h
def uw (H:ag):Value->Option (LI0)
 | .slice none 0 0=>some []
 | .slice (some ⟨b,off,sp⟩) n c=>
  match H.get b with
  |some B=>if n<=c/\off+n<=B.cells.length/\(sp=none\/sp=some 1)then uZ ((B.cells.drop off).take n)else none
  |none=>none
 |_=>none
def bX (xs:LI0):LI0:=(List.finRange (xs.length/8)).map fun k=>Iw.val (fun i=>xs.getD (k.1*8+i) 0) 8
def pI (g:FuncId):bp:=fun h args H=>
 match h==g,args with
 |true,[v]=>
  (match uw H v with
   |some xs=>
    if xs.length<=140737488351232 then
     if xs.length%8=0 then
      if xs.length=0 then some (.tuple #[.slice none 0 0,.bool true],H)
      else some (.tuple #[.slice (some ⟨H.size,0,some 1⟩) (xs.length/8) (xs.length/8),.bool true],aG H ((bX xs).map (Value.int .i64)))
     else some (.tuple #[.slice none 0 0,.bool false],H)
    else none
   |none=>none)
 |_,_=>none
theorem ET {f:Fm} {H:ag} {w:World} (hR:R f H w) {v v':Value} {xs:LI0} (hv:V f v v') (h:uw H v=some xs):
 ∃(a:Option Addr) (b off cap:Nat),v'= .slice a xs.length cap/\(0<xs.length->a=some ⟨b,off,none⟩/\b<w.heap.size)/\xs.length<=cap/\∀j,j<xs.length->w.cell? ⟨b,off+j,none⟩=some (.int .u8 (xs.getD j 0)):=by
 unfold uw at h
 split at h
 . cases h;cases hv;exact⟨none,0,0,0,rfl,fun h=>by simp at h,zap _,fun j hj=>by simp at hj⟩
 . rename_i b off sp n c
   split at h
   . rename_i B hB
     split at h
     . rename_i hc;obtain⟨h1,h2,h3⟩:=hc;obtain⟨h4,h5⟩:=A6 h;have hl:xs.length=n:=by rw[h4,zas,zbd];omega
       obtain⟨l,C,e,fr,g1,g2,g3,_⟩:=hR.blk b B hB;have dN:∀j,j<xs.length->w.cell? ⟨l.blk,l.off+off+j,none⟩=some (.int .u8 (xs.getD j 0)):=by
        intro j hj;have:=h5 j hj;rw[zav,if_pos (by omega),zaA]at this;obtain⟨_,v',q1,q2⟩:=g3 _ _ this;cases q2;simp only[World.cell?,g2];rw[show l.off+off+j=l.off+(off+j) by omega,q1];rfl
       have Ih:=hR.big b l g1;cases hv with
       |slX _ _ _ _ l' a hl' ha=>
        rw[g1]at hl';cases hl';refine⟨some a,l.blk,l.off+off,c,by rw[hl],fun hp=>⟨?_,Ih⟩,by omega,dN⟩;rcases ha with rfl|ha
        . rfl
        . omega
       |slL _ _ e' _ _ lT c' l' hl' hn hc' hr ho=>
        rw[g1]at hl';cases hl';refine⟨_,l.blk,l.off+off,c',by rw[hl],fun hp=>⟨?_,Ih⟩,by omega,dN⟩;rw[ho (by omega)]
     . cases h
   . cases h
 . cases h
theorem XW {f:Fm} {a b a' b':Value} (h:V f a a') (k:V f b b'):V f (.tuple #[a,b]) (.tuple #[a',b']):=by
 refine .tuple _ _ rfl fun i v v' h1 h2=> ?_
 match i with
 |0=>simp at h1 h2;subst h1;subst h2;exact h
 |1=>simp at h1 h2;subst h1;subst h2;exact k
 |i+2=>simp at h1
theorem Qs:lJ Tryz.prog (pI 57):=by
 refine⟨fun g args H v H' h=> ?_,fun g args H v H' h=> ?_⟩
 . unfold pI at h
   repeat' split at h
   all_goals first|(cases h;done)|(cases h;exact .refl H)|(cases h;exact .push H _)
 . unfold pI at h
   split at h
   case h_2=>cases h
   rename_i v0 hg;rw[zaI]at hg;subst hg
   split at h
   case h_2=>cases h
   rename_i xs hx
   split at h
   case isFalse=>cases h
   rename_i hreach;refine⟨⟨Tryz.f57,_,Tryz.func57,rfl,by decide⟩,fun f w ju hR bo hvl=> ?_⟩;obtain⟨v',rfl,hv⟩:=hvl.one;obtain⟨a,b,off,cap,rfl,ha,hcap,hc⟩:=ET hR hv hx
   split at h
   . rename_i hm;have hN:xs.length/8*8=xs.length:=by omega
     have key:=callsIn_wide.1 (Iw.VF Fence.wide 3 trivial trivial trivial rfl (zap _) b off (xs.length/8) cap a (fun h=>(ha (by omega)).1) (by omega) (by omega) (fun j=>xs.getD j 0) w (fun h=>(ha (by omega)).2) (fun j hj=>hc j (by omega)));rw[hN]at key;have adY:((List.finRange (xs.length/8)).map fun x=>Value.int .i64 (Iw.val (fun i=>xs.getD (x.1*8+i) 0) 8))=(bX xs).map (Value.int .i64):=by
      simp[bX,List.map_map,Function.comp_def]
     rw[adY]at key;refine key.mono ?_
     rintro e w' ⟨u,rfl,lA,hnil,hB⟩
     split at h
     . rename_i h0;cases h;obtain rfl:=hnil.2 (by omega);obtain⟨s1,s2⟩:=hR.below hB;exact⟨f,_,rfl,XW .du (.bool true),s1,s2⟩
     . rename_i h0;cases h;obtain⟨hlen,h2⟩:=lA;rcases h2 with⟨rfl,h3⟩|⟨g,cp,cur,rfl,hb,hgb,hle,hmax,hsz,MU⟩
       . omega
       . obtain⟨f',hf0,s1,s2⟩:=hR.aa1 (bo H.size (zap _) (by simp[aG])) hB g cp ((bX xs).map (Value.int .i64)) cur 3 (by omega) hgb (fun u hu=>by
          obtain⟨z,_,rfl⟩:=za7.1 hu;rfl) (fun i u hi=>by
          refine⟨u, ?_, ?_⟩
          . rw[<-MU]at hi;rw[zav]at hi
            split at hi
            . simpa using hi
            . cases hi
          . obtain⟨z,_,rfl⟩:=za7.1 (zaQ hi);exact .int _ _) (by omega)
         exact⟨f',_,rfl,XW (.slL H.size 0 1 _ _ 0 cp _ hf0 (zap _) hle (by simp) (fun _=>rfl)) (.bool true),s1,s2⟩
   . rename_i hm;cases h;refine(callsIn_wide.1 (Iw.Wk Fence.wide 3 trivial rfl xs.length cap a hm hreach w)).mono ?_
     rintro e w' ⟨rfl,rfl⟩
     exact⟨f,_,rfl,XW .du (.bool false),.refl _ _ _,hR⟩
end
end Go.Proofs.YtfaojedfnjdnnaaGreat.Ev
namespace Go.Proofs.YtfaojedfnjdnnaaGreat
noncomputable section
noncomputable section
open Go Go.RowKit Go.Proofs.YtfaojedfnjdnnaaGreat.Ev
def fo (xs:LI0):LI0:=bif xs.length%8==0 then bX xs else[]
def nE:Pn:=⟨[.ints .u8],[],0⟩
def Aw:Pn:=⟨[.buf 0 1,.bool],[.ints .i64],0⟩
theorem AT:∀xs:LI0,uZ (xs.map (Value.int .u8))=some xs
 |[]=>rfl
 |a::l=>by
  show(uZ (l.map (Value.int .u8))).map (a::·)=_;rw[AT l];rfl
theorem Jh {φ:Phi} {H:ag} {own:Nat->Prop} {xs:LI0} {v:Value} (h:DV φ H own (.deep (.ints .u8 xs)) v):uw H v=some xs:=by
 rcases h.sG with⟨hc,rfl⟩|⟨x,o,sp,cap,blk,rfl,hs,hcap,hb,ho,hr⟩
 . have:xs=[]:=List.length_eq_zero_iff.1 hc;subst this;rfl
 . have hl:o+xs.length<=blk.cells.length:=by have:=hr.1;simpa[aE.len,aE.w]using this
   unfold uw;simp only[hb];rw[if_pos ⟨hcap,hl,hs⟩];have key:(blk.cells.drop o).take xs.length=xs.map (Value.int .u8):=by
    apply List.ext_getElem
    . simp;omega
    . intro i h1 h2;simp only[zaU]at h2;have:=hr.2 i h2 0 (.i .u8 xs[i]) (by simp[aE.row,h2]) (blk.cells[o+i]'(by omega)) (by simp[aE.w]);simp only[List.getElem_take,List.getElem_drop,List.getElem_map];generalize blk.cells[o+i]'(by omega)=z at this⊢;cases this;rfl
   have e:(aE.ints IntKind.u8 xs).len=xs.length:=rfl;rw[e,key];exact AT xs
theorem rH {H:ag} {v:Value} {xs:LI0} (hb:uw H v=some xs) (hl:xs.length<=140737488351232):pI 57 57 [v] H=
 if xs.length%8=0 then
  if xs.length=0 then some (.tuple #[.slice none 0 0,.bool true],H)
  else some (.tuple #[.slice (some ⟨H.size,0,some 1⟩) (xs.length/8) (xs.length/8),.bool true],aG H ((bX xs).map (Value.int .i64)))
 else some (.tuple #[.slice none 0 0,.bool false],H):=by
 unfold pI;rw[show(57==57)=true from rfl];simp only[hb,if_pos hl]
theorem IP {L:List FuncId} {TE:Tab} (h49:∀args,TE 57 args=none) {xs:LI0} (hl:xs.length<=140737488351232):
 ve Tryz.prog L (jr TE (pI 57)) 57 nE Aw [.l xs] [.b (xs.length%8==0),.l (fo xs)]:=by
 intro φ H vs hnb hS hd;have hd:DVL φ H (Ev.Own φ (nE.bx [.l xs])) [.deep (.ints .u8 xs)] vs:=hd;obtain⟨v,rfl,hv⟩:=hd.one;have hb:=Jh hv;have hO:∀r,pI 57 57 [v] H=some r->bJ Tryz.prog L (jr TE (pI 57)) 1 57 [v] H=some r:=fun r hr=>mz (by
  unfold jr cw;rw[h49];exact hr)
 have hK:bw nE Aw=[]:=rfl;rw[hK];have back:∀(φ1:Phi) (S1:aj) (H1:ag) (s:SV) (y1:Value) (ok:Bool),lH [] φ (nE.bx [.l xs]) H φ1 S1 H1->DV φ1 H1 (Ev.Own φ1 S1) s y1->
  (∃τ,Aw.of (idn []) [s,.b ok] S1=some ([.b (xs.length%8==0),.l (fo xs)],τ))->NB φ1 S1 H1->
  ∃φ',lH [] φ (nE.bx [.l xs]) H φ' (Aw.bx [.b (xs.length%8==0),.l (fo xs)]) H1/\DV φ' H1 (Ev.Own φ' (Aw.bx [.b (xs.length%8==0),.l (fo xs)])) (nc (Aw.fx [.b (xs.length%8==0),.l (fo xs)])) (lC [y1,.bool ok]):=by
  intro φ1 S1 H1 s y1 ok hst hy ⟨τ,hof⟩ aan;obtain⟨φ',g1,g2⟩:=tX hof aan hst.sim;exact⟨φ',hst.trans g1,m8 (g2 _ (.cons hy (.cons (.b ok) .nil)))⟩
 have r0:lH [] φ (nE.bx [.l xs]) H φ (nE.bx [.l xs]) H:=(Step.refl hS).since
 by_cases hm:xs.length%8=0
 . by_cases h0:xs.length=0
   . obtain rfl:xs=[]:=List.length_eq_zero_iff.1 h0;obtain⟨φ',g1,g2⟩:=back φ _ H .eM (.slice none 0 0) true r0 .eM ⟨_,rfl⟩ hnb;exact⟨1,_,H,φ',hO _ (by rw[rH hb hl];rfl),g1,g2⟩
   . have hlen:(bX xs).length=xs.length/8:=by simp[bX]
     have hB:BV φ H (Ev.Own φ (nE.bx [.l xs])) (.cont (.ints .i64 (bX xs))) ((bX xs).map (Value.int .i64)):=by
      refine⟨by simp[aE.len,aE.w],fun r hr j s hs v hv=> ?_⟩;have hr:r<(bX xs).length:=hr
      match j with
      |0=>
       simp[aE.row,hr]at hs;simp[aE.w,hr]at hv;subst hs;subst hv;exact .i _ _
      |j+1=>simp[aE.row]at hs
     have hst:=Step.push hS (.cont (.ints .i64 (bX xs))) ((bX xs).map (Value.int .i64)) hB;have hy:DV (φ.add (nE.bx [.l xs]).size (some H.size)) (aG H ((bX xs).map (Value.int .i64))) (Ev.Own (φ.add (nE.bx [.l xs]).size (some H.size)) ((nE.bx [.l xs]).push (.cont (.ints .i64 (bX xs))))) (.buf (nE.bx [.l xs]).size 1 false) (.slice (some ⟨H.size,0,some 1⟩) (xs.length/8) (xs.length/8)):=
      .buf _ 1 false H.size _ (some 1) (by simp[Phi.add]) (fun c hc=>by rw[(ag.aM (Ax hS _)).1]at hc;cases hc;simp[hlen]) (.inr ⟨rfl,rfl,by omega⟩)
     have e1:(xs.length%8==0)=true:=by simpa using hm
     have e2:fo xs=bX xs:=by unfold fo;rw[e1];rfl
     rw[e1,e2]at back⊢;obtain⟨φ',g1,g2⟩:=back _ _ _ _ _ true hst.since hy ⟨_,rfl⟩ (hnb.step hst);exact⟨1,_,_,φ',hO _ (by rw[rH hb hl,if_pos hm,if_neg h0];rfl),g1,g2⟩
 . have e1:(xs.length%8==0)=false:=by simpa using hm
   have e2:fo xs=[]:=by unfold fo;rw[e1];rfl
   rw[e1,e2]at back⊢;obtain⟨φ',g1,g2⟩:=back φ _ H .eM (.slice none 0 0) false r0 .eM ⟨_,rfl⟩ hnb;exact⟨1,_,H,φ',hO _ (by rw[rH hb hl,if_neg hm];rfl),g1,g2⟩
def Ry:LI0->Bool × List Un:=fun xs=>(decide (xs.length<=140737488351232),[.b (xs.length%8==0),.l (fo xs)])
theorem I5 {L:List FuncId} {TE:Tab} (h49:∀args,TE 57 args=none):eB Tryz.prog L (jr TE (pI 57)) 57 (mkE nE Aw Ry):=by
 intro us Y h;obtain⟨xs,rfl,h2⟩:=pt h;have h2:some ((Ry xs).1,Ys.now (Ry xs).2)=some (true,Y):=h2;simp only[zak,zaT]at h2;obtain⟨h3,rfl⟩:=h2;exact IP h49 (zaj h3)
end
end
end Go.Proofs.YtfaojedfnjdnnaaGreat
