/- Part of a proof: E22, E23, Base, Bits, Cents, Civil. Conditions: none. -/
import Derived.Test.YtfaojedfnjdnnaaGreatQ1
set_option linter.unusedVariables false
set_option linter.unusedSimpArgs false
set_option linter.unnecessarySimpa false
set_option linter.unusedSectionVars false
namespace Go.Proofs.YtfaojedfnjdnnaaGreat.Ev
noncomputable section
open Go
abbrev Tab:=FuncId->List Value->Option (Bool × Value)
def cw (T:Tab):bp:=fun g args H=>match T g args with|some (true,v)=>some (v,H)|_=>none
def eqT (P:Program):Nat->TypeId->Value->Value->Option Bool
 |0,_,_,_=>none
 |d+1,t,x,y=>
  match P.underlying t,x,y with
  |some .bool,.bool a,.bool b=>some (a==b)
  |some (.int _),.int k a,.int k' b=>if k=k' then some (a==b)else none
  |some (.struct fs),.agg xs,.agg ys=>
   if P.stoodInHeld t then none else
   fs.toList.foldr (fun f (r:Option Bool)=>
    if f.name≠ "_" then
     match jz P f.type xs f.offset,jz P f.type ys f.offset with
     |some a,some b=>
      match eqT P d f.type a b,r with
      |some u,some w=>some (u&&w)
      |_,_=>none
     |_,_=>none
    else r) (some true)
  |some (.array len elem),.agg xs,.agg ys=>
   match P.info? elem with
   |some i=>
    (List.range len).foldr (fun j (r:Option Bool)=>
     match jz P elem xs (j*i.size),jz P elem ys (j*i.size)with
     |some a,some b=>
      match eqT P d elem a b,r with
      |some u,some w=>some (u&&w)
      |_,_=>none
     |_,_=>none) (some true)
   |none=>none
  |_,_,_=>none
theorem Lu {P:Program}:∀{d:Nat} {t:TypeId} {x y:Value} {b:Bool},eqT P d t x y=some b->eqE P d t x y=some b
 |0,_,_,_,_,h=>by cases h
 |d+1,t,x,y,b,h=>by
  unfold eqT at h;unfold eqE
  split at h
  . rename_i hu;(try simp only[hu]);exact h
  . rename_i hu;(try simp only[hu]);exact h
  . rename_i fs xs ys hu
    (try simp only[hu])
    split at h
    . cases h
    . rename_i hs;rw[if_neg hs];generalize fs.toList=l at h⊢
      induction l generalizing b with
      |nil=>exact h
      |cons f l ih=>
       simp only[List.foldr]at h⊢
       split at h
       . rename_i hf;rw[if_pos hf]
         split at h
         . rename_i a c h1 h2;simp only[h1,h2]
           split at h
           . rename_i u w h3 h4;cases h;rw[Lu h3];cases u with
             |true=>simpa using ih _ h4
             |false=>rfl
           . cases h
         . cases h
       . rename_i hf;rw[if_neg hf];exact ih _ h
  . rename_i len elem xs ys hu
    (try simp only[hu])
    split at h
    . rename_i i hi;simp only[hi];generalize List.range len=l at h⊢
      induction l generalizing b with
      |nil=>exact h
      |cons j l ih=>
       simp only[List.foldr]at h⊢
       split at h
       . rename_i a c h1 h2;simp only[h1,h2]
         split at h
         . rename_i u w h3 h4;cases h;rw[Lu h3];cases u with
           |true=>simpa using ih _ h4
           |false=>rfl
         . cases h
       . cases h
    . cases h
  . cases h
section
variable {R : Type} (P : Program) (L : List FuncId) (T : Tab)
abbrev ze (R:Type):=FuncId->List Value->ag->(Value->ag->Option R)->Option R
variable (cx : ze R)
def Ln (t:TypeId) (x y:Value):Option Bool:=if P.eqGuardType P.depth t then none else eqT P 10000 t x y
def opX (ρ:Operand->Option Value) (o:Oper) (H:ag) (k:Value->ag->Option R):Option R:=
 match o.op with
 | .pick c a b=>
  match ρ c with
  |some (.bool t)=>
   match t with
   |true=>(match ρ a with|some v=>k v H|none=>none)
   |false=>(match ρ b with|some v=>k v H|none=>none)
  |_=>none
 | .binOp op t x y z=>
  match ρ x,ρ y with
  |some (.int k1 a),some (.int k2 b)=>
   match op with
   | .quo=>if k1=k2 then(match decide (b=0)with|true=>none|false=>k (.int k1 (k1.wrap (a.tdiv b))) H)else none
   | .rem=>if k1=k2 then(match decide (b=0)with|true=>none|false=>k (.int k1 (a.tmod b)) H)else none
   | .shl=>(match decide (b<0)with|true=>none|false=>k (.int k1 (k1.wrap (a*2^(min b.toNat k1.bits)))) H)
   | .shr=>(match decide (b<0)with|true=>none|false=>k (.int k1 (a.fdiv (2^(min b.toNat k1.bits)))) H)
   |_=>(match jw P op t (.int k1 a) (.int k2 b)with|some v=>k v H|none=>none)
  |some (.agg xs),some (.agg ys)=>
   match op with
   | .eql=>(match Ln P t (.agg xs) (.agg ys)with|some c=>k (.bool c) H|none=>none)
   | .neq=>(match Ln P t (.agg xs) (.agg ys)with|some c=>k (.bool (!c)) H|none=>none)
   |_=>none
  |_,_=>(match opE P (fun _ _ _=>none) ρ ⟨o.dst,.binOp op t x y z,o.type,o.pos,o.after,o.guard⟩ H with|some (v,H')=>k v H'|none=>none)
 | .index t x i=>
  match ρ x,ρ i with
  |some (.string s),some (.int _ n)=>
   match P.underlying t with
   |some .string=>(match decide (0<=n/\n.toNat<s.data.size)with|true=>k (.int .u8 ((s.data.getD n.toNat 0).toNat:Nat)) H|false=>none)
   |_=>none
  |_,_=>(match opE P (fun _ _ _=>none) ρ o H with|some (v,H')=>k v H'|none=>none)
 | .call c=>
  match c.callee with
  | .value f=>
   match ru ρ c.args.toList,ρ f with
   |some args,some (.func (.func g) x y)=>
    match T g (x.toList++args++y.toList)with
    |some (c,v)=>(match c with|true=>k v H|false=>none)
    |none=>cx g (x.toList++args++y.toList) H k
   |_,_=>none
  |_=>(match opE P (fun _ _ _=>none) ρ o H with|some (v,H')=>k v H'|none=>none)
 |_=>match opE P (fun _ _ _=>none) ρ o H with|some (v,H')=>k v H'|none=>none
def Wo (A:Array Oper) (fr:List Value) (o:Oper) (yes no:List Value->Option R):Option R:=
 match o.guard with
 |none=>yes fr
 |some (j,want)=>
  match (A[j]?).bind (·.dst)with
  |some d=>
   match fr[d]? with
   |some (.bool b)=>(match b with
    |true=>(match want with|true=>yes (fr.set d (.bool true))|false=>no (fr.set d (.bool true)))
    |false=>(match want with|true=>no (fr.set d (.bool false))|false=>yes (fr.set d (.bool false))))
   |_=>no fr
  |none=>no fr
def Qk (A:Array Oper):List Oper->St->(St->Option R)->Option R
 |[],s,k=>k s
 |o::r,s,k=>
  Wo A s.fr o (fun fr=>opX P T cx (dV fr) o s.hp fun v H=>Qk A r ⟨iR fr o.dst v,H⟩ k)
   (fun fr=>Qk A r ⟨iR fr o.dst undef,s.hp⟩ k)
def QG (A:Array Nat) (i:Nat) (a:Rec) (j:Nat) (b:Rec):Bool:=
 match b.kind with
 | .dj=>(match a.kind with| .pure=>true| .load=>aX A i j||aX A j i|_=>i==j||aX A i j||aX A j i)
 |_=>true
def tn (A:Array Nat) (rs:List Rec):Bool:=rs.zipIdx.all fun(a,i)=>rs.zipIdx.all fun(b,j)=>QG A i a j b
def pj (ops:Array Oper) (A:Array Nat):List Oper->Nat->St->List Rec->(St->Option R)->Option R
 |[],_,s,rs,k=>(match tn A rs with|true=>k s|false=>none)
 |o::l,i,s,rs,k=>
  Wo ops s.fr o
   (fun fr=>match ff L o with
    | .pure=>opX P T cx (dV fr) o s.hp fun v _=>pj ops A l (i+1) ⟨iR fr o.dst v,s.hp⟩ (rs++[⟨.pure,v,s.hp,s.hp,none⟩]) k
    | .load=>
     (match o.op with
      | .load t a=>
       (match dV fr a with
        |some p=>
         (match cL P (dv s.hp (aX A i) rs) t p with
          |some v=>pj ops A l (i+1) ⟨iR fr o.dst v,s.hp⟩ (rs++[⟨.load,v,s.hp,s.hp,some (t,p)⟩]) k
          |none=>none)
        |none=>none)
      |_=>none)
    | .quiet=>
     (match kM o with
      |true=>
       (match opE P (fun _ _ _=>none) (dV fr) o (dv s.hp (aX A i) rs)with
        |some (v,H')=>pj ops A l (i+1) ⟨iR fr o.dst v,cW s.hp H'⟩ (rs++[⟨.quiet,v,s.hp,cW s.hp H',none⟩]) k
        |none=>
         (match opE P (fun _ _ _=>none) (dV fr) o s.hp with
          |some (v,H')=>pj ops A l (i+1) ⟨iR fr o.dst v,H'⟩ (rs++[⟨.dj,v,s.hp,H',none⟩]) k
          |none=>none))
      |false=>opX P T cx (dV fr) o (dv s.hp (aX A i) rs) fun v H'=>pj ops A l (i+1) ⟨iR fr o.dst v,cW s.hp H'⟩ (rs++[⟨.quiet,v,s.hp,cW s.hp H',none⟩]) k)
    | .dj=>opX P T cx (dV fr) o s.hp fun v H'=>pj ops A l (i+1) ⟨iR fr o.dst v,H'⟩ (rs++[⟨.dj,v,s.hp,H',none⟩]) k)
   (fun fr=>pj ops A l (i+1) ⟨iR fr o.dst undef,s.hp⟩ (rs++[⟨.pure,undef,s.hp,s.hp,none⟩]) k)
variable (stop : List Nat -> Bool)
def exec:Nat->List Item->St->(List Item->St->Option R)->Option R
 |0,_,_,_=>none
 |n+1,its,s,k=>
  match its with
  |[]=>k [] s
  | .code p c::r=>
   match c with
   | .skip=>exec n r s k
   | .label _=>exec n r s k
   | .region _ ops d=>
    (match d with
     |false=>Qk P T cx ops ops.toList s fun s'=>exec n r s' k
     |true=>
      (match jd ops (Region.before ops) s.fr.length with
       |true=>pj P L T cx ops (Region.before ops) ops.toList 0 s [] fun s'=>exec n r s' k
       |false=>none))
   | .seq a b=>exec n (.code (0::p) a:: .code (1::p) b::r) s k
   | .cond x a b=>
    (match dV s.fr x with
     |some (.bool t)=>(match t with|true=>exec n (.code (0::p) a::r) s k|false=>exec n (.code (1::p) b::r) s k)
     |_=>none)
   | .block id b=>exec n (.code (0::p) b:: .blk id::r) s k
   | .loop b=>exec n (.lp p b::r) s k
   | .exit id=>(match leave id r with|some r'=>exec n r' s k|none=>none)
   | .ret=>k [] s
   |_=>none
  | .lp p b::r=>(match stop p with|true=>k (.lp p b::r) s|false=>exec n (.code (0::p) b:: .lp p b::r) s k)
  | .blk _::r=>exec n r s k
  | .ops .. ::_=>none
end
def wx {R:Type} (P:Program) (L:List FuncId) (T:Tab):Nat->ze R
 |0,_,_,_,_=>none
 |n+1,g,args,H,k=>
  match P.funcs[g]? with
  |some fn=>
   match fn.body with
   |some c=>
    exec P L T (wx P L T n) (fun _=>false) 100000 [.code [] c] ⟨args++List.replicate (fn.ntmps-args.length) undef,H⟩ fun its s=>
     match its with
     |[]=>(match fP P s.hp s.fr fn.results.toList with|some vs=>k (lC vs) s.hp|none=>none)
     |_=>none
   |none=>none
  |none=>none
section
variable {R : Type} {P : Program} {L : List FuncId} {T : Tab}
def Ba (P:Program) (L:List FuncId) (O:bp) (cx:ze R):Prop:=
 ∀g args H k r,O g args H=none->cx g args H k=some r->∃v H',(∃N,bJ P L O N g args H=some (v,H'))/\k v H'=some r
theorem generic {ρ:Operand->Option Value} {o:Oper} {H:ag} {k:Value->ag->Option R} {r:R} {O:bp}
 (h:(match opE P (fun _ _ _=>none) ρ o H with|some (v,H')=>k v H'|none=>none)=some r):
 ∃v H',(∃N,opE P (bJ P L O N) ρ o H=some (v,H'))/\k v H'=some r:=by
 split at h
 . rename_i v H' ho;exact⟨v,H',⟨0,nR (fun _ _ _ _ h=>by cases h) ho⟩,h⟩
 . cases h
theorem qA {cx:ze R} (hcx:Ba P L (cw T) cx) {ρ:Operand->Option Value} {o:Oper} {H:ag} {k:Value->ag->Option R} {r:R}
 (h:opX P T cx ρ o H k=some r):∃v H',(∃N,opE P (bJ P L (cw T) N) ρ o H=some (v,H'))/\k v H'=some r:=by
 unfold opX at h
 split at h
 . rename_i c a b hop
   split at h
   . rename_i t hc
     split at h
     . split at h
       . rename_i v hv;exact⟨v,H,⟨0,by unfold opE;rw[hop];simp only[hc,hv];rfl⟩,h⟩
       . cases h
     . split at h
       . rename_i v hv;exact⟨v,H,⟨0,by unfold opE;rw[hop];simp only[hc,hv];rfl⟩,h⟩
       . cases h
   . cases h
 . rename_i op t x y z hop;have he:∀v,(match ρ x,ρ y with|some a,some b=>(jw P op t a b).map (·,H)|_,_=>none)=some (v,H)->∃N,opE P (bJ P L (cw T) N) ρ o H=some (v,H):=
    fun v hv=>⟨0,by unfold opE;rw[hop];exact hv⟩
   split at h
   . rename_i k1 a k2 b hx hy;rw[hx,hy]at he
     split at h
     . split at h
       . rename_i hk
         split at h
         . cases h
         . rename_i hb;have hb:=zbA hb;exact⟨_,H,he _ (by simp[jw,hk,mb,hb]),h⟩
       . cases h
     . split at h
       . rename_i hk
         split at h
         . cases h
         . rename_i hb;have hb:=zbA hb;exact⟨_,H,he _ (by simp[jw,hk,mb,hb]),h⟩
       . cases h
     . split at h
       . cases h
       . rename_i hb;have hb:=zbA hb;exact⟨_,H,he _ (by simp[jw,qe,hb]),h⟩
     . split at h
       . cases h
       . rename_i hb;have hb:=zbA hb;exact⟨_,H,he _ (by simp[jw,qe,hb]),h⟩
     . split at h
       . rename_i v hv;exact⟨v,H,he _ (by simp only[hv];rfl),h⟩
       . cases h
   . rename_i xs ys hx hy;rw[hx,hy]at he;have hq:∀c,Ln P t (.agg xs) (.agg ys)=some c->gF P t (.agg xs) (.agg ys)=some c:=by
      intro c hc;unfold Ln at hc;unfold gF
      split at hc
      . cases hc
      . rename_i hg;(try simp only[hg]);exact Lu hc
     split at h
     . split at h
       . rename_i c hc;exact⟨_,H,he _ (by simp only[jw,hq c hc];rfl),h⟩
       . cases h
     . split at h
       . rename_i c hc;exact⟨_,H,he _ (by simp only[jw,hq c hc];rfl),h⟩
       . cases h
     . cases h
   . obtain⟨v,H',⟨N,ho⟩,hk⟩:=generic (L:=L) (O:=cw T) h;refine⟨v,H',⟨N, ?_⟩,hk⟩;unfold opE at ho⊢;rw[hop];exact ho
 . rename_i t x i hop
   split at h
   . rename_i s kk n hx hi
     split at h
     . rename_i hu
       split at h
       . rename_i hb;have hb:=zaj hb;refine⟨_,H,⟨0, ?_⟩,h⟩;unfold opE;rw[hop];have hg:s.data[n.toNat]? =some (s.data.getD n.toNat 0):=by
          rw[zba,zaz hb.2];rfl
         simp only[hx,hi,qo,hu,hb.1,zbh,hg];rfl
       . cases h
     . cases h
   . exact generic h
 . rename_i c hop
   split at h
   . rename_i f hf
     split at h
     . rename_i args g x y ha hg;have he:∀v H',(∃N,bJ P L (cw T) N g (x.toList++args++y.toList) H=some (v,H'))->∃N,opE P (bJ P L (cw T) N) ρ o H=some (v,H'):=
        fun v H' ⟨N,hv⟩=>⟨N,by unfold opE;rw[hop];simp only[ha,hf,hg];exact hv⟩
       split at h
       . rename_i c v ht
         split at h
         . exact⟨v,H,he _ _ ⟨1,mz (by simp only[cw,ht])⟩,h⟩
         . cases h
       . rename_i ht;obtain⟨v,H',hv,hk⟩:=hcx _ _ _ _ _ (by simp only[cw,ht]) h;exact⟨v,H',he _ _ hv,hk⟩
     . cases h
   . exact generic h
 . exact generic h
theorem sT {fr:List Value} {d:Nat} {v:Value} (h:fr[d]? =some v):fr.set d v=fr:=by
 apply zby;intro j;rw[zbo]
 split
 . rename_i hij;subst hij
   split
   . exact h.symm
   . rename_i hlt;rw[zaW (by omega)]at h;cases h
 . rfl
theorem Ap {A:Array Oper} {fr:List Value} {o:Oper} {a b:List Value->Option R} {r:R} (h:Wo A fr o a b=some r):
 (eZ A fr o=true/\a fr=some r)\/(eZ A fr o=false/\b fr=some r):=by
 unfold Wo at h;unfold eZ
 split at h
 . rename_i hg;(try simp only[hg]);exact .inl ⟨trivial,h⟩
 . rename_i j want hg
   (try simp only[hg])
   split at h
   . rename_i d hd;rw[hd];dsimp only[Option.bind]
     split at h
     . rename_i t ht;rw[ht];cases t<;>cases want<;>simp_all [sT ht]
     . rename_i hn;refine .inr ⟨?_,h⟩
       split
       . rename_i t ht;exact absurd ht (hn t)
       . rfl
   . rename_i hd;rw[hd];exact .inr ⟨rfl,h⟩
theorem rC {cx:ze R} (hcx:Ba P L (cw T) cx) {A:Array Oper}:∀{l:List Oper} {s:St} {k:St->Option R} {r:R},
 Qk P T cx A l s k=some r->∃s',k s'=some r/\∀its q,dx P L (cw T) its s' q->dx P L (cw T) (.ops A l::its) s q
 |[],s,k,r,h=>⟨s,h,fun _ _ hm=> .Pm hm⟩
 |o::l,s,k,r,h=>by
  unfold Qk at h;rcases Ap h with⟨hw,h⟩|⟨hw,h⟩
  . obtain⟨v,H',ho,hk⟩:=qA hcx h;obtain⟨s',hk,hm⟩:=rC hcx hk;exact⟨s',hk,fun its q h=> .op hw ho (hm its q h)⟩
  . obtain⟨s',hk,hm⟩:=rC hcx h;exact⟨s',hk,fun its q h=> .Q2 hw (hm its q h)⟩
theorem xj {cx:ze R} (hcx:Ba P L (cw T) cx) {ops:Array Oper} {A:Array Nat}:∀{l:List Oper} {i:Nat} {s:St} {rs:List Rec} {k:St->Option R} {r:R},
 pj P L T cx ops A l i s rs k=some r->∃s' rs',k s'=some r/\tn A rs'=true/\∃N,fM P L (bJ P L (cw T) N) ops A l i s rs=some (s',rs')
 |[],i,s,rs,k,r,h=>by
  unfold pj at h
  split at h
  . rename_i hl;exact⟨s,rs,h,hl,0,rfl⟩
  . cases h
 |o::l,i,s,rs,k,r,h=>by
  unfold pj at h;have step:∀{x:Rec},(∃N,fq P L (bJ P L (cw T) N) ops A i o s rs=some x)->
   pj P L T cx ops A l (i+1) ⟨iR s.fr o.dst x.v,x.h1⟩ (rs++[x]) k=some r->
   ∃s' rs',k s'=some r/\tn A rs'=true/\∃N,fM P L (bJ P L (cw T) N) ops A (o::l) i s rs=some (s',rs'):=by
   rintro x ⟨N,ri⟩ hd
   obtain⟨s',rs',h1,h2,M,h3⟩:=xj hcx hd;refine⟨s',rs',h1,h2,max N M, ?_⟩;rw[fM,sx (dR (Nat.le_max_left N M)) ri];exact lL (dR (Nat.le_max_right N M)) h3
  rcases Ap h with⟨hw,h⟩|⟨hw,h⟩
  . split at h
    . rename_i hk;obtain⟨v,H',⟨N,ho⟩,h⟩:=qA hcx h;exact step (x:=⟨.pure,v,s.hp,s.hp,none⟩) ⟨N,by unfold fq;simp only[hw,hk,ho]⟩ h
    . rename_i hk
      split at h
      . rename_i t a hop
        split at h
        . rename_i p hp
          split at h
          . rename_i v hv;exact step (x:=⟨.load,v,s.hp,s.hp,some (t,p)⟩) ⟨0,by unfold fq;simp only[hw,hk,hop,hp,hv]⟩ h
          . cases h
        . cases h
      . cases h
    . rename_i hk
      split at h
      . rename_i ha
        split at h
        . rename_i v H' ho;rw[mj (cl':=bJ P L (cw T) 0) ha]at ho;exact step (x:=⟨.quiet,v,s.hp,cW s.hp H',none⟩) ⟨0,by unfold fq;simp only[hw,hk,ho]⟩ h
        . rename_i hn;rw[mj (cl':=bJ P L (cw T) 0) ha]at hn
          split at h
          . rename_i v H' ho;rw[mj (cl':=bJ P L (cw T) 0) ha]at ho;exact step (x:=⟨.dj,v,s.hp,H',none⟩) ⟨0,by unfold fq;simp only[hw,hk,hn,ha,ho,zbh]⟩ h
          . cases h
      . obtain⟨v,H',⟨N,ho⟩,h⟩:=qA hcx h;exact step (x:=⟨.quiet,v,s.hp,cW s.hp H',none⟩) ⟨N,by unfold fq;simp only[hw,hk,ho]⟩ h
    . rename_i hk;obtain⟨v,H',⟨N,ho⟩,h⟩:=qA hcx h;exact step (x:=⟨.dj,v,s.hp,H',none⟩) ⟨N,by unfold fq;simp only[hw,hk,ho]⟩ h
  . exact step (x:=⟨.pure,undef,s.hp,s.hp,none⟩) ⟨0,by unfold fq;simp only[hw]⟩ h
theorem BR {A:Array Nat} {B:Nat->Bool} {rs:List Rec} (h:tn A rs=true):qB P A B rs=true:=by
 unfold tn at h;unfold qB;rw[zam]at h⊢
 rintro⟨a,i⟩ ha
 have h:=h _ ha;rw[zam]at h⊢
 rintro⟨b,j⟩ hb
 have h:=h _ hb;dsimp only at h⊢;unfold QG at h;unfold AO;cases hb:b.kind with
 |dj=>
  rw[hb]at h;dsimp only at h⊢;cases ha:a.kind with
  |pure=>rfl
  |load=>rw[ha]at h;dsimp only at h⊢;rw[h,Bool.true_or]
  |quiet=>rw[ha]at h;dsimp only at h⊢;rw[h,Bool.true_or]
  |dj=>rw[ha]at h;exact h
 |_=>rfl
def child:Nat->Code->Option Code
 |0,.seq a _=>some a
 |1,.seq _ b=>some b
 |0,.cond _ a _=>some a
 |1,.cond _ _ b=>some b
 |0,.block _ b=>some b
 |0,.loop b=>some b
 |_,_=>none
def nav (c:Code):List Nat->Option Code
 |[]=>some c
 |d::p=>(nav c p).bind (child d)
inductive Tag where
 |code (p:List Nat)
 |blk (id:Nat)
 |lp (p:List Nat)
 |bad
 deriving DecidableEq
def Item.tag:Item->Tag
 | .code p _=> .code p
 | .blk id=> .blk id
 | .lp p _=> .lp p
 | .ops .. => .bad
def Tag.item (c:Code):Tag->Option Item
 | .code p=>(nav c p).map (.code p)
 | .blk id=>some (.blk id)
 | .lp p=>(nav c (0::p)).map (.lp p)
 | .bad=>none
def eA (c:Code) (its:List Item):Prop:=∀i∈its,i.tag.item c=some i
theorem eA.same {c:Code}:∀{a b:List Item},eA c a->eA c b->a.map Item.tag=b.map Item.tag->a=b
 |[],[],_,_,_=>rfl
 |[],_::_,_,_,h=>by cases h
 |_::_,[],_,_,h=>by cases h
 |x::a,y::b,ha,hb,h=>by
  injection h with h1 h2
  have e1:=ha x (by simp);have e2:=hb y (by simp);rw[h1,e2]at e1;cases e1;rw[eA.same (fun i hi=>ha i (zay _ hi)) (fun i hi=>hb i (zay _ hi)) h2]
theorem eA.cons {c:Code} {i:Item} {r:List Item} (h1:i.tag.item c=some i) (h2:eA c r):eA c (i::r):=by
 intro j hj;rcases zaN.1 hj with rfl|hj
 . exact h1
 . exact h2 j hj
theorem eA.tail {c:Code} {i:Item} {r:List Item} (h:eA c (i::r)):eA c r:=fun j hj=>h j (zay _ hj)
theorem eA.leave {c:Code} {k:Nat}:∀{r r':List Item},Ev.leave k r=some r'->eA c r->eA c r'
 |[],_,h,_=>by cases h
 |i::r,r',h,ha=>by
  rw[Ev.leave]at h;cases hb:i.CO k with
  |true=>rw[hb]at h;cases h;exact ha.tail
  |false=>rw[hb]at h;exact eA.leave h ha.tail
def fin (P:Program) (rv:List ResultVar):Ex × St->Option (Value × ag)
 |(.exit _,_)=>none
 |(_,s)=>(fP P s.hp s.fr rv).map fun vs=>(lC vs,s.hp)
def lD (P:Program) (L:List FuncId) (O:bp) (rv:List ResultVar) (its:List Item) (s:St) (w:Value × ag):Prop:=∃q,dx P L O its s q/\fin P rv q=some w
theorem lD.of {O:bp} {rv:List ResultVar} {a b:List Item} {s s':St} {w:Value × ag} (h:∀q,dx P L O b s' q->dx P L O a s q):lD P L O rv b s' w->lD P L O rv a s w:=
 fun⟨q,h1,h2⟩=>⟨q,h q h1,h2⟩
theorem de {cx:ze R} (hcx:Ba P L (cw T) cx) {stop:List Nat->Bool} {body:Code}:∀{n:Nat} {its:List Item} {s:St} {k:List Item->St->Option R} {r:R},
 exec P L T cx stop n its s k=some r->eA body its->∃qz s',k qz s'=some r/\eA body qz/\∀rv w,lD P L (cw T) rv qz s' w->lD P L (cw T) rv its s w
 |0,_,_,_,_,h,_=>by cases h
 |n+1,its,s,k,r,h,ha=>by
  unfold exec at h
  split at h
  . exact⟨[],s,h,ha,fun _ _ h=>h⟩
  . rename_i p c rest;have hc:nav body p=some c:=by
     have:=ha (.code p c) (by simp);simp only[Item.tag,Tag.item]at this;cases hn:nav body p with
     |none=>rw[hn]at this;cases this
     |some c'=>rw[hn]at this;cases this;rfl
    split at h
    . obtain⟨i,t,h1,h2,h3⟩:=de hcx h ha.tail;exact⟨i,t,h1,h2,fun rv w hw=>(h3 rv w hw).of fun q=> .skip⟩
    . obtain⟨i,t,h1,h2,h3⟩:=de hcx h ha.tail;exact⟨i,t,h1,h2,fun rv w hw=>(h3 rv w hw).of fun q=> .label⟩
    . split at h
      . obtain⟨s',hk,hm⟩:=rC hcx h;obtain⟨i,t,h1,h2,h3⟩:=de hcx hk ha.tail;exact⟨i,t,h1,h2,fun rv w hw=>(h3 rv w hw).of fun q hq=> .region (hm _ q hq)⟩
      . split at h
        . rename_i ops hs;obtain⟨s',rs',hk,hl,N,hm⟩:=xj hcx h;obtain⟨i,t,h1,h2,h3⟩:=de hcx hk ha.tail;refine⟨i,t,h1,h2,fun rv w hw=>(h3 rv w hw).of fun q hq=> .draw ⟨N, ?_⟩ hq⟩;unfold mC;simp only[hs,hm,BR hl];rfl
        . cases h
    . rename_i a b;obtain⟨i,t,h1,h2,h3⟩:=de hcx h (.cons (by simp[Item.tag,Tag.item,nav,hc,child]) (.cons (by simp[Item.tag,Tag.item,nav,hc,child]) ha.tail));exact⟨i,t,h1,h2,fun rv w hw=>(h3 rv w hw).of fun q hq=> .seq hq⟩
    . rename_i x a b
      split at h
      . rename_i t hx
        split at h
        . obtain⟨i,t,h1,h2,h3⟩:=de hcx h (.cons (by simp[Item.tag,Tag.item,nav,hc,child]) ha.tail);exact⟨i,t,h1,h2,fun rv w hw=>(h3 rv w hw).of fun q hq=> .cond (t:=true) hx hq⟩
        . obtain⟨i,t,h1,h2,h3⟩:=de hcx h (.cons (by simp[Item.tag,Tag.item,nav,hc,child]) ha.tail);exact⟨i,t,h1,h2,fun rv w hw=>(h3 rv w hw).of fun q hq=> .cond (t:=false) hx hq⟩
      . cases h
    . rename_i id b;obtain⟨i,t,h1,h2,h3⟩:=de hcx h (.cons (by simp[Item.tag,Tag.item,nav,hc,child]) (.cons (by simp[Item.tag,Tag.item]) ha.tail));exact⟨i,t,h1,h2,fun rv w hw=>(h3 rv w hw).of fun q hq=> .block hq⟩
    . rename_i b;obtain⟨i,t,h1,h2,h3⟩:=de hcx h (.cons (by simp[Item.tag,Tag.item,nav,hc,child]) ha.tail);exact⟨i,t,h1,h2,fun rv w hw=>(h3 rv w hw).of fun q hq=> .loop hq⟩
    . split at h
      . rename_i id r' hr;obtain⟨i,t,h1,h2,h3⟩:=de hcx h (eA.leave hr ha.tail);exact⟨i,t,h1,h2,fun rv w hw=>(h3 rv w hw).of fun q hq=> .exit hr hq⟩
      . cases h
    . refine⟨[],s,h,(fun _ hi=>by cases hi),fun rv w hw=> ?_⟩;obtain⟨q,⟨N,h1⟩,h2⟩:=hw;rw[cE]at h1;cases h1;exact⟨_,.ret,h2⟩
    . cases h
  . rename_i p b rest;have hb:nav body (0::p)=some b:=by
     have:=ha (.lp p b) (by simp);simp only[Item.tag,Tag.item]at this;cases hn:nav body (0::p)with
     |none=>rw[hn]at this;cases this
     |some c'=>rw[hn]at this;cases this;rfl
    split at h
    . exact⟨_,s,h,ha,fun _ _ h=>h⟩
    . obtain⟨i,t,h1,h2,h3⟩:=de hcx h (.cons (by simp only[Item.tag,Tag.item,hb];rfl) ha);exact⟨i,t,h1,h2,fun rv w hw=>(h3 rv w hw).of fun q hq=> .round hq⟩
  . obtain⟨i,t,h1,h2,h3⟩:=de hcx h ha.tail;exact⟨i,t,h1,h2,fun rv w hw=>(h3 rv w hw).of fun q hq=> .blk hq⟩
  . cases h
theorem lN {O:bp} {g:FuncId} {args:List Value} {H:ag} {fn:Func} {c:Code} {w:Value × ag} (hO:O g args H=none) (hg:P.funcs[g]? =some fn) (hb:fn.body=some c)
 (h:lD P L O fn.results.toList [.code [] c] ⟨args++List.replicate (fn.ntmps-args.length) undef,H⟩ w):∃N,bJ P L O N g args H=some w:=by
 obtain⟨q,⟨N,h1⟩,h2⟩:=h;refine⟨N+1, ?_⟩;rw[pG hO];unfold oX;simp only[hg,hb];rw[cE]at h1;simp only[gr]at h1;cases hc:bh P L (bJ P L O N) N c ⟨args++List.replicate (fn.ntmps-args.length) undef,H⟩with
 |none=>rw[hc]at h1;cases h1
 |some x=>
  obtain⟨e,s⟩:=x;rw[hc]at h1;cases e with
  |normal=>dsimp only at h1;rw[cE]at h1;cases h1;exact h2
  |exit k=>dsimp only at h1;rw[lq]at h1;cases h1;cases h2
  |ret=>cases h1;exact h2
theorem yU {c:Code}:eA c [.code [] c]:=by
 intro i hi;cases zbg.1 hi;rfl
theorem xf:∀{n:Nat},Ba P L (cw T) (wx P L T (R:=R) n)
 |0,_,_,_,_,_,_,h=>by cases h
 |n+1,g,args,H,k,r,ho,h=>by
  unfold wx at h
  split at h
  . rename_i fn hg
    split at h
    . rename_i c hb;obtain⟨its,s,hk,_,hm⟩:=de (xf (n:=n)) h yU
      split at hk
      . split at hk
        . rename_i vs hv;have hw:lD P L (cw T) fn.results.toList [] s (lC vs,s.hp):=⟨(.normal,s),.nil,by simp only[fin,hv];rfl⟩
          exact⟨lC vs,s.hp,lN ho hg hb (hm _ _ hw),hk⟩
        . cases hk
      . cases hk
    . cases h
  . cases h
end
end
end Go.Proofs.YtfaojedfnjdnnaaGreat.Ev
namespace Go.Proofs.YtfaojedfnjdnnaaGreat.Ev
noncomputable section
open Go
inductive Sc where
 |i (n:Int)
 |b (x:Bool)
inductive Vp where
 |int (k:IntKind)
 |bool
 |agg (l:List (Option IntKind))
 |lit (v:Value)
def Sn:Option IntKind->Value->Option Sc
 |some k,.int k' n=>if k=k' then some (.i n)else none
 |none,.bool b=>some (.b b)
 |_,_=>none
def Ty:Option IntKind->Sc->Value
 |some k,.i n=> .int k n
 |none,.b x=> .bool x
 |_,_=>undef
def CB:List (Option IntKind)->List Value->Option (List Sc)
 |[],[]=>some []
 |k::ks,v::vs=>(match Sn k v,CB ks vs with|some a,some r=>some (a::r)|_,_=>none)
 |_,_=>none
def L9:List (Option IntKind)->List Sc->List Value
 |[],_=>[]
 |k::ks,x::xs=>Ty k x::L9 ks xs
 |_::_,[]=>[]
theorem Fe {k:Option IntKind} {v:Value} {x:Sc} (h:Sn k v=some x):Ty k x=v:=by
 unfold Sn at h
 split at h
 . split at h
   . rename_i he;cases h;cases he;rfl
   . cases h
 . cases h;rfl
 . cases h
theorem HT:∀{ks:List (Option IntKind)} {vs:List Value} {xs:List Sc},CB ks vs=some xs->∀r,L9 ks (xs++r)=vs
 |[],[],_,_,_=>rfl
 |[],_::_,_,h,_=>by cases h
 |_::_,[],_,h,_=>by cases h
 |k::ks,v::vs,xs,h,r=>by
  unfold CB at h
  split at h
  . rename_i a l h1 h2;cases h;simp only[zaC,L9];rw[Fe h1,HT h2]
  . cases h
theorem CP:∀{ks:List (Option IntKind)} {vs:List Value} {xs:List Sc},CB ks vs=some xs->xs.length=ks.length
 |[],[],_,h=>by cases h;rfl
 |[],_::_,_,h=>by cases h
 |_::_,[],_,h=>by cases h
 |k::ks,v::vs,xs,h=>by
  unfold CB at h
  split at h
  . rename_i a l h1 h2;cases h;simp[CP h2]
  . cases h
def Vp.of:Vp->Value->Option (List Sc)
 | .int k,v=>(match Sn (some k) v with|some x=>some [x]|none=>none)
 | .bool,v=>(match Sn none v with|some x=>some [x]|none=>none)
 | .agg l,.agg vs=>CB l vs.toList
 | .agg _,_=>none
 | .lit w,v=>if eqc w v then some []else none
def Vp.to:Vp->List Sc->Value
 | .int k,x::_=>Ty (some k) x
 | .bool,x::_=>Ty none x
 | .agg l,xs=> .agg (L9 l xs).toArray
 | .lit w,_=>w
 |_,[]=>undef
def Vp.size:Vp->Nat
 | .int _=>1
 | .bool=>1
 | .agg l=>l.length
 | .lit _=>0
theorem Vp.rm {p:Vp} {v:Value} {xs:List Sc} (h:p.of v=some xs) (r:List Sc):p.to (xs++r)=v/\xs.length=p.size:=by
 unfold Vp.of at h
 split at h
 . split at h
   . rename_i x hx;cases h;exact⟨Fe hx,rfl⟩
   . cases h
 . split at h
   . rename_i x hx;cases h;exact⟨Fe hx,rfl⟩
   . cases h
 . rename_i l vs;refine⟨?_,CP h⟩;simp only[Vp.to];rw[HT h]
 . cases h
 . split at h
   . rename_i he;cases h;exact⟨Jl he,rfl⟩
   . cases h
def GA:List Vp->List Value->Option (List Sc)
 |[],[]=>some []
 |p::ps,v::vs=>(match p.of v,GA ps vs with|some a,some r=>some (a++r)|_,_=>none)
 |_,_=>none
def Hu:List Vp->List Sc->List Value
 |[],_=>[]
 |p::ps,xs=>p.to xs::Hu ps (xs.drop p.size)
def qV:List Vp->Nat
 |[]=>0
 |p::ps=>p.size+qV ps
theorem z7:∀{ps:List Vp} {vs:List Value} {xs:List Sc},GA ps vs=some xs->∀r,Hu ps (xs++r)=vs/\xs.length=qV ps
 |[],[],_,h,_=>by cases h;exact⟨rfl,rfl⟩
 |[],_::_,_,h,_=>by cases h
 |_::_,[],_,h,_=>by cases h
 |p::ps,v::vs,xs,h,r=>by
  unfold GA at h
  split at h
  . rename_i a l h1 h2;cases h;obtain⟨e1,e2⟩:=Vp.rm h1 (l++r);obtain⟨e3,e4⟩:=z7 h2 r;simp only[Hu,zaq];refine⟨?_,by simp[qV,e2,e4]⟩;rw[e1,<-e2,za8,e3]
  . cases h
def slotsOf (fr:List Value):List (Nat × Vp)->Option (List Sc)
 |[]=>some []
 |(i,p)::ps=>(match fr[i]? with
  |some v=>(match p.of v,slotsOf fr ps with|some a,some r=>some (a++r)|_,_=>none)
  |none=>none)
def yV (fr:List Value):List (Nat × Vp)->List Sc->List Value
 |[],_=>fr
 |(i,p)::ps,xs=>yV (fr.set i (p.to xs)) ps (xs.drop p.size)
def qR:List (Nat × Vp)->Nat
 |[]=>0
 |(_,p)::ps=>p.size+qR ps
theorem zL {fr:List Value}:∀{ps:List (Nat × Vp)} {xs:List Sc},slotsOf fr ps=some xs->∀r,yV fr ps (xs++r)=fr/\xs.length=qR ps
 |[],_,h,_=>by cases h;exact⟨rfl,rfl⟩
 |(i,p)::ps,xs,h,r=>by
  unfold slotsOf at h
  split at h
  . rename_i v hv
    split at h
    . rename_i a l h1 h2;cases h;obtain⟨e1,e2⟩:=Vp.rm h1 (l++r);obtain⟨e3,e4⟩:=zL h2 r;simp only[yV,zaq];refine⟨?_,by simp[qR,e2,e4]⟩;rw[e1,<-e2,za8];have:fr.set i v=fr:=by
       apply zby;intro j;rw[zbo]
       split
       . rename_i hij;subst hij
         split
         . exact hv.symm
         . rename_i hlt;rw[zaW (by omega)]at hv;cases hv
       . rfl
      rw[this,e3]
    . cases h
  . cases h
inductive Pt where
 |e
 |n (v:Option (List Vp)) (l r:Pt)
def Pt.of:Pt->Tr->Option (List Sc)
 | .e,.e=>some []
 | .n (some ps) l r,.n (some b) l' r'=>(match GA ps b.cells,Pt.of l l',Pt.of r r' with|some a,some c,some d=>some (a++(c++d))|_,_,_=>none)
 | .n none l r,.n none l' r'=>(match Pt.of l l',Pt.of r r' with|some c,some d=>some (c++d)|_,_=>none)
 |_,_=>none
def Pt.size:Pt->Nat
 | .e=>0
 | .n (some ps) l r=>qV ps+(l.size+r.size)
 | .n none l r=>l.size+r.size
def Pt.to:Pt->List Sc->Tr
 | .e,_=> .e
 | .n (some ps) l r,xs=> .n (some ⟨Hu ps xs⟩) (l.to (xs.drop (qV ps))) (r.to ((xs.drop (qV ps)).drop l.size))
 | .n none l r,xs=> .n none (l.to xs) (r.to (xs.drop l.size))
theorem Pt.rm:∀{p:Pt} {t:Tr} {xs:List Sc},p.of t=some xs->∀r,p.to (xs++r)=t/\xs.length=p.size
 | .e,.e,_,h,_=>by cases h;exact⟨rfl,rfl⟩
 | .e,.n ..,_,h,_=>by cases h
 | .n (some _) _ _,.e,_,h,_=>by simp[Pt.of]at h
 | .n none _ _,.e,_,h,_=>by simp[Pt.of]at h
 | .n (some ps) l r,.n (some b) l' r',xs,h,z=>by
  unfold Pt.of at h
  split at h
  . rename_i a c d h1 h2 h3;cases h;obtain⟨e1,e2⟩:=z7 h1 (c++(d++z));obtain⟨e3,e4⟩:=Pt.rm h2 (d++z);obtain⟨e5,e6⟩:=Pt.rm h3 z;simp only[Pt.to,zaq,Pt.size,zab];refine⟨?_,by omega⟩;rw[e1,<-e2,za8,e3,<-e4,za8,e5]
  . cases h
 | .n none l r,.n none l' r',xs,h,z=>by
  unfold Pt.of at h
  split at h
  . rename_i c d h2 h3;cases h;obtain⟨e3,e4⟩:=Pt.rm h2 (d++z);obtain⟨e5,e6⟩:=Pt.rm h3 z;simp only[Pt.to,zaq,Pt.size,zab];refine⟨?_,by omega⟩;rw[e3,<-e4,za8,e5]
  . cases h
 | .n (some _) _ _,.n none _ _,_,h,_=>by simp[Pt.of]at h
 | .n none _ _,.n (some _) _ _,_,h,_=>by simp[Pt.of]at h
structure Pat where
 len:Nat
 Pv:List (Nat × Vp)
 size:Nat
 root:Pt
def Pat.of (p:Pat) (s:St):Option (List Sc):=
 if s.fr.length=p.len/\s.hp.size=p.size/\s.hp.lock=0/\s.hp.hid=[]then
  match slotsOf s.fr p.Pv,p.root.of s.hp.root with
  |some a,some b=>some (a++b)
  |_,_=>none
 else none
def Pat.to (p:Pat) (g:Nat->Value) (xs:List Sc):St:=
 ⟨yV ((List.range p.len).map g) p.Pv xs,⟨p.size,p.root.to (xs.drop (qR p.Pv)),0,[]⟩⟩
theorem Pat.rm {p:Pat} {s:St} {xs:List Sc} (h:p.of s=some xs):s=p.to (fun i=>s.fr.getD i undef) xs:=by
 unfold Pat.of at h
 split at h
 . rename_i hc;obtain⟨h1,h2,h3,h4⟩:=hc
   split at h
   . rename_i a b ha hb;cases h;obtain⟨e1,e2⟩:=zL ha b;obtain⟨e3,e4⟩:=Pt.rm hb [];rw[zaH]at e3;have hf:(List.range p.len).map (fun i=>s.fr.getD i undef)=s.fr:=by
      apply zby;intro i
      by_cases hi:i<p.len
      . have hi':i<s.fr.length:=by omega
        simp[hi,hi']
      . rw[zaW (by simp;omega),zaW (by omega)]
     unfold Pat.to;rw[hf,e1,<-e2,za8,e3];obtain⟨fr,⟨sz,rt,lk,hd⟩⟩:=s
     simp_all
   . cases h
 . cases h
structure Stop where
 tags:List Tag
 pat:Pat
 F:List Sc->Option Value
def kks (rv:List ResultVar) (P:Program) (S:List Stop) (its:List Item) (s:St):Option Value:=
 match its with
 |[]=>(match fP P s.hp s.fr rv with|some vs=>some (lC vs)|none=>none)
 |_=>
  match S.find? fun t=>decide (t.tags=its.map Item.tag)with
  |some t=>(match t.pat.of s with|some xs=>t.F xs|none=>none)
  |none=>none
section
variable {P : Program} {L : List FuncId} {T : Tab}
def Stop.gL (P:Program) (L:List FuncId) (O:bp) (rv:List ResultVar) (body:Code) (t:Stop):Prop:=
 ∀its s xs v,eA body its->its.map Item.tag=t.tags->t.pat.of s=some xs->t.F xs=some v->∃H,lD P L O rv its s (v,H)
theorem Ni {O:bp} {rv:List ResultVar} {body:Code} {S:List Stop} (hS:∀t∈S,t.gL P L O rv body) {its:List Item} {s:St} {v:Value} (ha:eA body its)
 (h:kks rv P S its s=some v):∃H,lD P L O rv its s (v,H):=by
 unfold kks at h
 split at h
 . split at h
   . rename_i vs hv;cases h;exact⟨s.hp,(.normal,s),.nil,by simp only[fin,hv];rfl⟩
   . cases h
 . split at h
   . rename_i t ht
     split at h
     . rename_i xs hx;have:=List.find?_some ht;exact hS t (List.mem_of_find?_eq_some ht) its s xs v ha (zaj this).symm hx h
     . cases h
   . cases h
theorem Gf {rv:List ResultVar} {body:Code} {S:List Stop} (hS:∀t∈S,t.gL P L (cw T) rv body) {d n:Nat} {stop:List Nat->Bool} {its:List Item} {s:St} {v:Value} (ha:eA body its)
 (h:exec P L T (wx P L T d) stop n its s (kks rv P S)=some v):∃H,lD P L (cw T) rv its s (v,H):=by
 obtain⟨qz,s',hk,ha',hm⟩:=de xf h ha;obtain⟨H,hw⟩:=Ni hS ha' hk;exact⟨H,hm _ _ hw⟩
def hP (body:Code) (l:List Tag):Option (List Item):=l.mapM (Tag.item body)
theorem nm {body:Code}:∀{l:List Tag} {its:List Item},hP body l=some its->eA body its/\its.map Item.tag=l
 |[],its,h=>by
  simp[hP]at h;subst h;exact⟨(fun _ hi=>by cases hi),rfl⟩
 |t::l,its,h=>by
  unfold hP at h;rw[List.mapM_cons]at h;cases ht:t.item body with
  |none=>rw[ht]at h;cases h
  |some i=>
   rw[ht]at h;cases hl:hP body l with
   |none=>unfold hP at hl;rw[hl]at h;cases h
   |some r=>
    have hl':=hl;unfold hP at hl;rw[hl]at h;cases h;obtain⟨h1,h2⟩:=nm hl';have hi:i.tag=t:=by
     cases t with
     |code p=>simp only[Tag.item]at ht;cases hn:nav body p with|none=>rw[hn]at ht;cases ht|some c=>rw[hn]at ht;cases ht;rfl
     |blk id=>simp only[Tag.item]at ht;cases ht;rfl
     |lp p=>simp only[Tag.item]at ht;cases hn:nav body (0::p)with|none=>rw[hn]at ht;cases ht|some c=>rw[hn]at ht;cases ht;rfl
     |bad=>cases ht
    exact⟨.cons (by rw[hi];exact ht) h1,by simp[hi,h2]⟩
theorem Stop.step {rv:List ResultVar} {body:Code} {S:List Stop} {t:Stop} {p:List Nat} {rest:List Tag} {its:List Item} {b:Code} {d n:Nat} {stop:List Nat->Bool}
 (ht:t.tags= .lp p::rest) (hi:hP body rest=some its) (hb:nav body (0::p)=some b) (hS:∀t∈S,t.gL P L (cw T) rv body)
 (h:∀g xs v,t.F xs=some v->exec P L T (wx P L T d) stop n (.code (0::p) b:: .lp p b::its) (t.pat.to g xs) (kks rv P S)=some v):t.gL P L (cw T) rv body:=by
 intro qz s xs v ha SZ hof hF;obtain⟨a1,a2⟩:=nm hi;have hl:Tag.item body (.lp p)=some (.lp p b):=by simp[Tag.item,hb]
 have:qz= .lp p b::its:=by
  refine eA.same ha (.cons (i:= .lp p b) hl a1) ?_
  rw[SZ,ht];simp[Item.tag,a2]
 subst this;have hs:=Pat.rm hof;have:=h (fun i=>s.fr.getD i undef) xs v hF;rw[<-hs]at this;obtain⟨H,hm⟩:=Gf hS (.cons (by simp[Item.tag,Tag.item,hb]) (.cons (i:= .lp p b) hl a1)) this;exact⟨H,hm.of fun q hq=> .round hq⟩
def bp.right (P:Program) (T:Tab):Prop:=∀g args v,T g args=some (true,v)->eG P g args v
theorem bp.ak (h:bp.right P T):lJ P (cw T):=by
 refine⟨fun g args H v H' hv=> ?_,fun g args H v H' hv=> ?_⟩
 . unfold cw at hv
   split at hv
   . cases hv;exact .refl H
   . cases hv
 . unfold cw at hv
   split at hv
   . rename_i w hw;cases hv;exact(h _ _ _ hw).Yw H
   . cases hv
theorem NH (sF:P.follows .mixedOrders=true) (oe:oJ P=true) (hT:bp.right P T) {g:FuncId} {args:List Value} {v:Value} {fn:Func} {c:Code} {S:List Stop} {d n:Nat} {stop:List Nat->Bool}
 (hO:T g args=none) (hg:P.funcs[g]? =some fn) (hb:fn.body=some c) (hS:∀t∈S,t.gL P L (cw T) fn.results.toList c)
 (h:exec P L T (wx P L T d) stop n [.code [] c] ⟨args++List.replicate (fn.ntmps-args.length) undef,nil⟩ (kks fn.results.toList P S)=some v)
 (ha:args.all plain=true) (hv:eI v=true):eG P g args v:=by
 obtain⟨H,hm⟩:=Gf hS yU h;obtain⟨N,hc⟩:=lN (by simp only[cw,hO]) hg hb hm;exact told sF oe (bp.ak hT) hc ha hv
def dt (P:Program) (g:Nat):Func:=P.funcs.getD g default
def j5 (f:Func):Code:=f.body.getD .skip
def gA (P:Program) (T:Tab) (stop:List Nat->Bool) (f:Func) (args:List Value) (k:List Item->St->Option Value):Option Value:=
 exec P [] T (wx P [] T 20) stop 100000 [.code [] (j5 f)] ⟨args++List.replicate (f.ntmps-args.length) undef,nil⟩ k
def nZ (P:Program) (T:Tab) (stop:List Nat->Bool) (body:Code) (p:List Nat) (rest:List Tag) (pat:Pat) (g:Nat->Value) (xs:List Sc) (k:List Item->St->Option Value):Option Value:=
 match nav body (0::p),hP body rest with
 |some b,some its=>exec P [] T (wx P [] T 20) stop 100000 (.code (0::p) b:: .lp p b::its) (pat.to g xs) k
 |_,_=>none
theorem Stop.acr {rv:List ResultVar} {body:Code} {S:List Stop} {t:Stop} {p:List Nat} {rest:List Tag} {stop:List Nat->Bool}
 (ht:t.tags= .lp p::rest) (hi:(hP body rest).isSome=true) (hb:(nav body (0::p)).isSome=true) (hS:∀t∈S,t.gL P [] (cw T) rv body)
 (h:∀g xs v,t.F xs=some v->nZ P T stop body p rest t.pat g xs (kks rv P S)=some v):t.gL P [] (cw T) rv body:=by
 obtain⟨its,hi⟩:=zbE.1 hi;obtain⟨b,hb⟩:=zbE.1 hb;refine Stop.step (d:=20) (n:=100000) (stop:=stop) ht hi hb hS fun g xs v hF=> ?_
 have:=h g xs v hF;unfold nZ at this;rw[hb,hi]at this;exact this
def gT:List (FuncId × (List Value->Option (Bool × Value)))->Tab
 |[],_,_=>none
 |(h,e)::r,g,args=>match g==h with|true=>e args|false=>gT r g args
def dD (P:Program) (g:FuncId) (e:List Value->Option (Bool × Value)):Prop:=∀args v,e args=some (true,v)->eG P g args v
theorem cN:∀{l:List (FuncId × (List Value->Option (Bool × Value)))},(∀p∈l,dD P p.1 p.2)->bp.right P (gT l)
 |[],_=>fun g args v h=>by cases h
 |(i,e)::r,hl=>fun g args v h=>by
  unfold gT at h
  split at h
  . rename_i hg;rw[zaI]at hg;subst hg;exact hl (g,e) (by simp) args v h
  . exact cN (fun p hp=>hl p (zay _ hp)) g args v h
theorem cM (sF:P.follows .mixedOrders=true) (oe:oJ P=true) (hT:bp.right P T) {g:FuncId} {args:List Value} {v:Value} {S:List Stop} {stop:List Nat->Bool}
 (hO:T g args=none) (hg:(P.funcs[g]?).isSome=true) (hb:(dt P g).body.isSome=true) (hS:∀t∈S,t.gL P [] (cw T) (dt P g).results.toList (j5 (dt P g)))
 (h:gA P T stop (dt P g) args (kks (dt P g).results.toList P S)=some v)
 (ha:args.all plain=true) (hv:eI v=true):eG P g args v:=by
 obtain⟨fn,hg⟩:=zbE.1 hg;have hf:dt P g=fn:=by simp[dt,hg]
 rw[hf]at hb hS h;obtain⟨c,hb⟩:=zbE.1 hb;have hc:j5 fn=c:=by simp[j5,hb]
 unfold gA at h;rw[hc]at hS h;exact NH sF oe hT hO hg hb hS h ha hv
theorem az {α:Type} {p:α->Prop}:∀t∈([]:List α),p t:=fun _ h=>by cases h
theorem aI {α:Type} {p:α->Prop} {a:α} {r:List α} (h:p a) (hr:∀t∈r,p t):∀t∈a::r,p t:=by
 intro t ht;rcases zaN.1 ht with rfl|ht
 . exact h
 . exact hr t ht
def kN (ps:List Vp) (f:List Sc->Option (Bool × Value)):List Value->Option (Bool × Value):=fun args=>
 match GA ps args with
 |some xs=>f xs
 |none=>none
theorem dy {g:FuncId} {ps:List Vp} {f:List Sc->Option (Bool × Value)} (h:∀xs v,f xs=some (true,v)->eG P g (Hu ps xs) v):dD P g (kN ps f):=by
 intro args v hv;unfold kN at hv
 split at hv
 . rename_i xs hx;have:=h xs v hv;have e:=(z7 hx []).1;rw[zaH]at e;rw[e]at this;exact this
 . cases hv
def iter (Fs:(List Sc->Option Value)->List Sc->Option Value):Nat->List Sc->Option Value
 |0=>fun _=>none
 |n+1=>Fs (iter Fs n)
theorem Stop.iter {rv:List ResultVar} {body:Code} {mk:(List Sc->Option Value)->Stop} {Fs:(List Sc->Option Value)->List Sc->Option Value} {S:(List Sc->Option Value)->List Stop} {p:List Nat} {rest:List Tag} {pat:Pat} {stop:List Nat->Bool}
 (ht:∀k,(mk k).tags= .lp p::rest) (hF:∀k,(mk k).F=k) (hp:∀k,(mk k).pat=pat) (hi:(hP body rest).isSome=true) (hb:(nav body (0::p)).isSome=true)
 (hS:∀k,(mk k).gL P [] (cw T) rv body->∀t∈S k,t.gL P [] (cw T) rv body)
 (h:∀k g xs v,Fs k xs=some v->nZ P T stop body p rest pat g xs (kks rv P (S k))=some v) (n:Nat):
 (mk (Ev.iter Fs n)).gL P [] (cw T) rv body:=by
 induction n with
 |zero=>exact fun its s xs v _ _ _ hv=>by rw[hF]at hv;cases hv
 |succ n ih=>
  exact Stop.acr (S:=S (Ev.iter Fs n)) (ht _) hi hb (hS _ ih) (by
   intro g xs v hv;rw[hF]at hv;rw[hp];exact h _ g xs v hv)
end
end
end Go.Proofs.YtfaojedfnjdnnaaGreat.Ev
namespace Go.Proofs.YtfaojedfnjdnnaaGreat
noncomputable section
open Go Go.Proofs.YtfaojedfnjdnnaaGreat.Ev
set_option maxRecDepth 20000
theorem wr {n:Int} (h1: -9223372036854775808<=n) (h2:n<=9223372036854775807):IntKind.i64.wrap n=n:=by rw[IntKind.wrap_i64];omega
theorem td {a:Int} (b:Int) (h:0<=a):a.tdiv b=a/b:=Int.tdiv_eq_ediv_of_nonneg h
theorem tm {a:Int} (b:Int) (h:0<=a):a.tmod b=a%b:=Int.tmod_eq_emod_of_nonneg h
def within (a lo hi:Int):Int:=lo+a%(hi-lo+1)
theorem aV {a lo hi:Int} (h:lo<=hi):lo<=within a lo hi/\within a lo hi<=hi:=by
 unfold within;have:=zbz a (show hi-lo+1≠0 by omega);have:=zbk a (show 0<hi-lo+1 by omega);omega
def q24:List Sc->Option (Bool × Value)
 |[.i a0,.i a1,.i a2]=>some (decide (-2305843009213693952<=a1/\a1<=a2/\a2<=2305843009213693952),.int .i64 (within a0 a1 a2))
 |_=>none
def e24:List Value->Option (Bool × Value):=kN [.int .i64,.int .i64,.int .i64] q24
def t24 (m:Nat) (a0:Int) (a1:Int) (a2:Int):Option Value:=
 let x2:Int:=(IntKind.i64.wrap ((IntKind.i64.wrap (a2-a1))+1))
 bif decide (x2=0)then
  none
 else
  bif (decide ((a0.tmod x2)<0))then
   some (.int .i64 (IntKind.i64.wrap (a1+(IntKind.i64.wrap ((IntKind.i64.wrap ((IntKind.i64.wrap ((a0.tmod x2)+a2))-a1))+1)))))
  else
   some (.int .i64 (IntKind.i64.wrap (a1+(a0.tmod x2))))
def T24:Tab:=gT []
theorem N1:bp.right Tryz.prog T24:=cN az
theorem G24 (m:Nat) (a0:Int) (a1:Int) (a2:Int):gA Tryz.prog T24 (fun _=>true) (dt Tryz.prog 24) [.int .i64 a0,.int .i64 a1,.int .i64 a2] (kks (dt Tryz.prog 24).results.toList Tryz.prog [])=t24 m a0 a1 a2:=by kernel_rfl
theorem XP (m:Nat) (a0:Int) (a1:Int) (a2:Int) {v:Value} (h:t24 m a0 a1 a2=some v) (hv:eI v=true):eG Tryz.prog 24 [.int .i64 a0,.int .i64 a1,.int .i64 a2] v:=
 cM (S:=[]) Seat.mix Seat.names N1 (by kernel_rfl) (by kernel_rfl) (by kernel_rfl)
  az ((G24 m a0 a1 a2).trans h) rfl hv
theorem Y8 (a0:Int) (a1:Int) (a2:Int) (hc:(decide (-2305843009213693952<=a1/\a1<=a2/\a2<=2305843009213693952))=true):∃m,t24 m a0 a1 a2=some (.int .i64 (within a0 a1 a2)):=by
 refine⟨0, ?_⟩;unfold t24 within;obtain⟨h1,h2,h3⟩:=zaj hc;simp only[];rw[wr (n:=a2-a1) (by omega) (by omega),wr (n:=a2-a1+1) (by omega) (by omega)];generalize hw:a2-a1+1=w;have hp:0<w:=by omega
 have e:=zbz a0 (show w≠0 by omega);have e2:=zbk a0 hp;simp only[show ¬w=0 by omega,zaY,zal]
 by_cases hn:0<=a0
 . rw[tm _ hn,wr (n:=a1+a0%w) (by omega) (by omega)];simp[show ¬a0%w<0 by omega]
 . have ht:a0.tmod w=if a0%w=0 then 0 else a0%w-w:=by
    rw[Int.tmod_eq_emod];have hd:(w ∣ a0)↔a0%w=0:=Int.dvd_iff_emod_eq_zero;simp only[hn,false_or,hd]
    split<;>omega
   rw[ht]
   by_cases hz:a0%w=0
   . rw[if_pos hz,hz,wr (n:=a1+0) (by omega) (by omega)];simp
   . rw[if_neg hz];clear ht;rw[wr (n:=a0%w-w+a2) (by omega) (by omega),wr (n:=a0%w-w+a2-a1) (by omega) (by omega),wr (n:=a0%w-w+a2-a1+1) (by omega) (by omega)];rw[show a0%w-w+a2-a1+1=a0%w by omega,wr (n:=a1+a0%w) (by omega) (by omega)];simp[show a0%w-w<0 by omega]
theorem Vh:dD Tryz.prog 24 e24:=dy (by
 intro xs v h;unfold q24 at h
 split at h
 . rename_i a0 a1 a2;simp only[zak,zaT]at h;obtain⟨hc,rfl⟩:=h;obtain⟨m,hm⟩:=Y8 a0 a1 a2 hc;exact XP m a0 a1 a2 hm rfl
 . cases h)
theorem pA (n:Int):IntKind.u64.wrap n=n%18446744073709551616:=by
 unfold IntKind.wrap;simp[IntKind.bits,IntKind.signed]
theorem Uz (n:Int):IntKind.u8.wrap n=n%256:=by
 unfold IntKind.wrap;simp[IntKind.bits,IntKind.signed]
theorem wu {n:Int} (h1:0<=n) (h2:n<18446744073709551616):IntKind.u64.wrap n=n:=by rw[pA];omega
theorem qj {x:Int} (h1:0<=x) (h2:x<18446744073709551616):((BitVec.ofInt 64 x&&&BitVec.ofInt 64 4294967295).toNat:Int)=x%4294967296:=by
 obtain⟨n,rfl⟩:=zbI h1;have e:(BitVec.ofInt 64 (n:Int)&&&BitVec.ofInt 64 4294967295).toNat=n%4294967296:=by
  rw[BitVec.toNat_and];have a:(BitVec.ofInt 64 (n:Int)).toNat=n:=by
   rw[zbB];omega
  have b:(BitVec.ofInt 64 4294967295).toNat=2^32-1:=by decide
  rw[a,b,Nat.and_two_pow_sub_one_eq_mod]
 rw[e];omega
theorem V5 {x:Int} (h1: -9223372036854775808<=x) (h2:x<18446744073709551616):((BitVec.ofInt 64 x&&&BitVec.ofInt 64 1).toNat:Int)=x%2:=by
 have e:(BitVec.ofInt 64 x&&&BitVec.ofInt 64 1).toNat=(x%18446744073709551616).toNat%2:=by
  rw[BitVec.toNat_and];have a:(BitVec.ofInt 64 x).toNat=(x%18446744073709551616).toNat:=by
   rw[zbB];rfl
  have b:(BitVec.ofInt 64 1).toNat=2^1-1:=by decide
  rw[a,b,Nat.and_two_pow_sub_one_eq_mod]
 rw[e];omega
theorem fd {a b:Int} (h:0<=b):a.fdiv b=a/b:=Int.fdiv_eq_ediv_of_nonneg a h
theorem Yd {a:Int}:a.fdiv (2^(min (32:Int).toNat 64))=a/4294967296:=fd (by decide)
theorem afi {a:Int}:a.fdiv (2^(min (16:Int).toNat 64))=a/65536:=fd (by decide)
theorem fd8 {a:Int}:a.fdiv (2^(min (8:Int).toNat 64))=a/256:=fd (by decide)
def iY (x:Int):Int:=if x<=0 then 0 else Nat.log2 x.toNat+1
theorem oF {x:Int} (k:Nat) (h:2^k<=x):iY x=k+iY (x/2^k):=by
 obtain⟨n,rfl⟩:=zbI (show 0<=x by have:(0:Int)<2^k:=Int.pow_pos (by decide);omega);have hk:2^k<=n:=by exact_mod_cast h
 have hp:0<2^k:=Nat.two_pow_pos k;have hq:0<n/2^k:=Nat.div_pos hk hp;have e:((n:Int)/2^k)=((n/2^k:Nat):Int):=by simp
 unfold iY;rw[e,if_neg (by omega),if_neg (by omega)];simp only[zau];have hl:Nat.log2 n=k+Nat.log2 (n/2^k):=by
  rw[Nat.log2_eq_iff (by omega)];have a:=Nat.log2_self_le (n:=n/2^k) (by omega);have b:=Nat.lt_log2_self (n:=n/2^k);have c:=Nat.mul_div_le n (2^k);have d:=Nat.lt_mul_div_succ n hp;refine⟨?_, ?_⟩
  . rw[Nat.pow_add];exact zaP (Nat.mul_le_mul_left _ a) c
  . rw[zbe,Nat.pow_add];exact zaD d (Nat.mul_le_mul_left _ b)
 omega
theorem PJ {k:Nat} {a b:Int} (h0:0<=a) (h1:0<=b) (h2:b<2^k) (h3:a*2^k+b<18446744073709551616):((BitVec.ofInt 64 (a*2^k)|||BitVec.ofInt 64 b).toNat:Int)=a*2^k+b:=by
 obtain⟨n,rfl⟩:=zbI h0;obtain⟨m,rfl⟩:=zbI h1;have e0:((n:Int)*2^k)=((n*2^k:Nat):Int):=by simp
 have hm:m<2^k:=by exact_mod_cast h2
 rw[e0]at h3⊢;have hb:n*2^k+m<18446744073709551616:=by omega
 have a1:(BitVec.ofInt 64 ((n*2^k:Nat):Int)).toNat=n*2^k:=by rw[zbB];omega
 have a2:(BitVec.ofInt 64 (m:Int)).toNat=m:=by rw[zbB];omega
 rw[BitVec.toNat_or,a1,a2,Nat.mul_comm,<-Nat.two_pow_add_eq_or_of_lt hm];rfl
theorem Qw {x:Int} (h1:0<x) (h2:x<18446744073709551616):∃k:Nat,iY x=64-k/\k<64/\9223372036854775808<=x*2^k/\x*2^k<18446744073709551616:=by
 obtain⟨n,rfl⟩:=zbI (show 0<=x by omega);have hn:n≠0:=by omega
 have hl:Nat.log2 n<64:=(Nat.log2_lt hn).2 (by omega);have ha:=Nat.log2_self_le hn;have hb:=Nat.lt_log2_self (n:=n);refine⟨63-Nat.log2 n, ?_,by omega, ?_, ?_⟩
 . unfold iY;rw[if_neg (by omega)];simp only[zau];omega
 . have:2^63<=n*2^(63-Nat.log2 n):=by
    calc 2^63=2^(Nat.log2 n)*2^(63-Nat.log2 n):=by rw[<-Nat.pow_add];congr 1;omega
     _<=_:=zaR _ ha
   have e:((n:Int)*2^(63-Nat.log2 n))=((n*2^(63-Nat.log2 n):Nat):Int):=by simp
   rw[e];omega
 . have:n*2^(63-Nat.log2 n)<2^64:=by
    calc n*2^(63-Nat.log2 n)<2^(Nat.log2 n+1)*2^(63-Nat.log2 n):=Nat.mul_lt_mul_of_pos_right hb (Nat.two_pow_pos _)
     _=2^64:=by rw[<-Nat.pow_add];congr 1;omega
   have e:((n:Int)*2^(63-Nat.log2 n))=((n*2^(63-Nat.log2 n):Nat):Int):=by simp
   rw[e];omega
def nV:ByteArray:=⟨#[0,1,2,2,3,3,3,3,4,4,4,4,4,4,4,4,5,5,5,5,5,5,5,5,5,5,5,5,5,5,5,5,6,6,6,6,6,6,6,6,6,6,6,6,6,6,6,6,6,6,6,6,6,6,6,6,6,6,6,6,6,6,6,6,7,7,7,7,7,7,7,7,7,7,7,7,7,7,7,7,7,7,7,7,7,7,7,7,7,7,7,7,7,7,7,7,7,7,7,7,7,7,7,7,7,7,7,7,7,7,7,7,7,7,7,7,7,7,7,7,7,7,7,7,7,7,7,7,8,8,8,8,8,8,8,8,8,8,8,8,8,8,8,8,8,8,8,8,8,8,8,8,8,8,8,8,8,8,8,8,8,8,8,8,8,8,8,8,8,8,8,8,8,8,8,8,8,8,8,8,8,8,8,8,8,8,8,8,8,8,8,8,8,8,8,8,8,8,8,8,8,8,8,8,8,8,8,8,8,8,8,8,8,8,8,8,8,8,8,8,8,8,8,8,8,8,8,8,8,8,8,8,8,8,8,8,8,8,8,8,8,8,8,8,8,8,8,8,8,8,8,8,8,8,8,8]⟩
theorem T8:∀n:Fin 256,((nV.data.getD n.val 0).toNat:Int)=iY n.val:=by decide+kernel
theorem PQ {x:Int} {k:Nat} (h:x<2^k):0<=iY x/\iY x<=k:=by
 unfold iY
 split
 . omega
 . rename_i hx;obtain⟨n,rfl⟩:=zbI (show 0<=x by omega);have hn:n≠0:=by omega
   have:n<2^k:=by exact_mod_cast h
   have:=(Nat.log2_lt hn).2 this;simp only[zau];omega
theorem ky {x c:Int} (h1:0<=x) (h2:x<256) (h3:0<=c) (h4:c<=56):(bif decide (0<=(IntKind.u8.wrap x)/\((IntKind.u8.wrap x)).toNat<nV.data.size)then
 some (Value.int .i64 (IntKind.i64.wrap (c+(IntKind.i64.wrap (((nV.data.getD ((IntKind.u8.wrap x)).toNat 0).toNat:Nat):Int)))))else none)=some (.int .i64 (c+iY x)):=by
 have e:IntKind.u8.wrap x=x:=by rw[Uz];omega
 have hs:nV.data.size=256:=by kernel_rfl
 have hl:=PQ (x:=x) (k:=8) (by omega);obtain⟨n,rfl⟩:=zbI h1;have ht:=T8 ⟨n,by omega⟩;rw[e,hs];simp only[zau]at ht⊢;rw[ht,wr (n:=iY n) (by omega) (by omega),wr (n:=c+iY n) (by omega) (by omega)];simp[show n<256 by omega]
def acu:List Sc->Option (Bool × Value)
 |[.i a0]=>some (decide (0<=a0/\a0<18446744073709551616),.int .i64 (iY a0))
 |_=>none
def abn:List Value->Option (Bool × Value):=kN [.int .u64] acu
def t235 (m:Nat) (a0:Int):Option Value:=
 bif (decide (a0>=4294967296))then
  let x2:Int:=(a0.fdiv (2^(min (32:Int).toNat 64)))
  bif decide (x2>=65536)then
   let x3:Int:=(x2.fdiv (2^(min (16:Int).toNat 64)))
   bif decide (x3>=256)then
    let x4:Int:=(x3.fdiv (2^(min (8:Int).toNat 64)))
    bif decide (0<=(IntKind.u8.wrap x4)/\((IntKind.u8.wrap x4)).toNat<nV.data.size)then
     some (.int .i64 (IntKind.i64.wrap (56+(IntKind.i64.wrap (((nV.data.getD ((IntKind.u8.wrap x4)).toNat 0).toNat:Nat):Int)))))
    else
     none
   else
    bif decide (0<=(IntKind.u8.wrap x3)/\((IntKind.u8.wrap x3)).toNat<nV.data.size)then
     some (.int .i64 (IntKind.i64.wrap (48+(IntKind.i64.wrap (((nV.data.getD ((IntKind.u8.wrap x3)).toNat 0).toNat:Nat):Int)))))
    else
     none
  else
   bif decide (x2>=256)then
    let x9:Int:=(x2.fdiv (2^(min (8:Int).toNat 64)))
    bif decide (0<=(IntKind.u8.wrap x9)/\((IntKind.u8.wrap x9)).toNat<nV.data.size)then
     some (.int .i64 (IntKind.i64.wrap (40+(IntKind.i64.wrap (((nV.data.getD ((IntKind.u8.wrap x9)).toNat 0).toNat:Nat):Int)))))
    else
     none
   else
    bif decide (0<=(IntKind.u8.wrap x2)/\((IntKind.u8.wrap x2)).toNat<nV.data.size)then
     some (.int .i64 (IntKind.i64.wrap (32+(IntKind.i64.wrap (((nV.data.getD ((IntKind.u8.wrap x2)).toNat 0).toNat:Nat):Int)))))
    else
     none
 else
  bif decide (a0>=65536)then
   let x14:Int:=(a0.fdiv (2^(min (16:Int).toNat 64)))
   bif decide (x14>=256)then
    let x15:Int:=(x14.fdiv (2^(min (8:Int).toNat 64)))
    bif decide (0<=(IntKind.u8.wrap x15)/\((IntKind.u8.wrap x15)).toNat<nV.data.size)then
     some (.int .i64 (IntKind.i64.wrap (24+(IntKind.i64.wrap (((nV.data.getD ((IntKind.u8.wrap x15)).toNat 0).toNat:Nat):Int)))))
    else
     none
   else
    bif decide (0<=(IntKind.u8.wrap x14)/\((IntKind.u8.wrap x14)).toNat<nV.data.size)then
     some (.int .i64 (IntKind.i64.wrap (16+(IntKind.i64.wrap (((nV.data.getD ((IntKind.u8.wrap x14)).toNat 0).toNat:Nat):Int)))))
    else
     none
  else
   bif decide (a0>=256)then
    let x20:Int:=(a0.fdiv (2^(min (8:Int).toNat 64)))
    bif decide (0<=(IntKind.u8.wrap x20)/\((IntKind.u8.wrap x20)).toNat<nV.data.size)then
     some (.int .i64 (IntKind.i64.wrap (8+(IntKind.i64.wrap (((nV.data.getD ((IntKind.u8.wrap x20)).toNat 0).toNat:Nat):Int)))))
    else
     none
   else
    bif decide (0<=(IntKind.u8.wrap a0)/\((IntKind.u8.wrap a0)).toNat<nV.data.size)then
     some (.int .i64 (IntKind.i64.wrap (0+(IntKind.i64.wrap (((nV.data.getD ((IntKind.u8.wrap a0)).toNat 0).toNat:Nat):Int)))))
    else
     none
def aaM:Tab:=gT []
theorem Ko:bp.right Tryz.prog aaM:=cN az
theorem afh (m:Nat) (a0:Int):gA Tryz.prog aaM (fun _=>true) (dt Tryz.prog 235) [.int .u64 a0] (kks (dt Tryz.prog 235).results.toList Tryz.prog [])=t235 m a0:=by kernel_rfl
theorem UW (m:Nat) (a0:Int) {v:Value} (h:t235 m a0=some v) (hv:eI v=true):eG Tryz.prog 235 [.int .u64 a0] v:=
 cM (S:=[]) Seat.mix Seat.names Ko (by kernel_rfl) (by kernel_rfl) (by kernel_rfl)
  az ((afh m a0).trans h) rfl hv
theorem UD (a0:Int) (hc:(decide (0<=a0/\a0<18446744073709551616))=true):∃m,t235 m a0=some (.int .i64 (iY a0)):=by
 obtain⟨h0,h1⟩:=zaj hc;refine⟨0, ?_⟩;unfold t235;simp only[Yd,afi,fd8]
 by_cases c1:a0>=4294967296
 . have e1:=oF (x:=a0) 32 (by omega);simp only[c1,za3,zaw]
   by_cases c2:a0/4294967296>=65536
   . have e2:=oF (x:=a0/4294967296) 16 (by omega);simp only[c2,za3,zaw]
     by_cases c3:a0/4294967296/65536>=256
     . have e3:=oF (x:=a0/4294967296/65536) 8 (by omega);simp only[c3,za3,zaw];rw[ky (by omega) (by omega) (by omega) (by omega),e1];simp only[show((2:Int)^32)=4294967296 by rfl,show((2:Int)^16)=65536 by rfl,show((2:Int)^8)=256 by rfl]at*
       rw[e2,e3];congr 2;omega
     . simp only[c3,zaY,zal];rw[ky (by omega) (by omega) (by omega) (by omega),e1];simp only[show((2:Int)^32)=4294967296 by rfl,show((2:Int)^16)=65536 by rfl]at*
       rw[e2];congr 2;omega
   . simp only[c2,zaY,zal]
     by_cases c3:a0/4294967296>=256
     . have e3:=oF (x:=a0/4294967296) 8 (by omega);simp only[c3,za3,zaw];rw[ky (by omega) (by omega) (by omega) (by omega),e1];simp only[show((2:Int)^32)=4294967296 by rfl,show((2:Int)^8)=256 by rfl]at*
       rw[e3];congr 2;omega
     . simp only[c3,zaY,zal];rw[ky (by omega) (by omega) (by omega) (by omega),e1];simp only[show((2:Int)^32)=4294967296 by rfl]at*
       congr 2
 . simp only[c1,zaY,zal]
   by_cases c2:a0>=65536
   . have e2:=oF (x:=a0) 16 (by omega);simp only[c2,za3,zaw]
     by_cases c3:a0/65536>=256
     . have e3:=oF (x:=a0/65536) 8 (by omega);simp only[c3,za3,zaw];rw[ky (by omega) (by omega) (by omega) (by omega),e2];simp only[show((2:Int)^16)=65536 by rfl,show((2:Int)^8)=256 by rfl]at*
       rw[e3];congr 2;omega
     . simp only[c3,zaY,zal];rw[ky (by omega) (by omega) (by omega) (by omega),e2];simp only[show((2:Int)^16)=65536 by rfl]at*
       congr 2
   . simp only[c2,zaY,zal]
     by_cases c3:a0>=256
     . have e3:=oF (x:=a0) 8 (by omega);simp only[c3,za3,zaw];rw[ky (by omega) (by omega) (by omega) (by omega),e3];simp only[show((2:Int)^8)=256 by rfl]at*
       congr 2
     . simp only[c3,zaY,zal];rw[ky (by omega) (by omega) (by omega) (by omega)]
       congr 2;omega
theorem Q5:dD Tryz.prog 235 abn:=dy (by
 intro xs v h;unfold acu at h
 split at h
 . rename_i a0;simp only[zak,zaT]at h;obtain⟨hc,rfl⟩:=h;obtain⟨m,hm⟩:=UD a0 hc;exact UW m a0 hm rfl
 . cases h)
def acT:List Sc->Option (Bool × Value)
 |[.i a0]=>some (decide (0<=a0/\a0<18446744073709551616),.int .i64 (64-iY a0))
 |_=>none
def adh:List Value->Option (Bool × Value):=kN [.int .u64] acT
def t233 (m:Nat) (a0:Int):Option Value:=
 bif decide (0<=a0/\a0<18446744073709551616)then
  some (.int .i64 (IntKind.i64.wrap (64-(iY a0))))
 else
  none
def ac3:Tab:=gT [(235,abn)]
theorem Jf:bp.right Tryz.prog ac3:=cN (aI Q5 az)
theorem afj (m:Nat) (a0:Int):gA Tryz.prog ac3 (fun _=>true) (dt Tryz.prog 233) [.int .u64 a0] (kks (dt Tryz.prog 233).results.toList Tryz.prog [])=t233 m a0:=by kernel_rfl
theorem T2 (m:Nat) (a0:Int) {v:Value} (h:t233 m a0=some v) (hv:eI v=true):eG Tryz.prog 233 [.int .u64 a0] v:=
 cM (S:=[]) Seat.mix Seat.names Jf (by kernel_rfl) (by kernel_rfl) (by kernel_rfl)
  az ((afj m a0).trans h) rfl hv
theorem VE (a0:Int) (hc:(decide (0<=a0/\a0<18446744073709551616))=true):∃m,t233 m a0=some (.int .i64 (64-iY a0)):=by
 obtain⟨h0,h1⟩:=zaj hc;refine⟨0, ?_⟩;unfold t233;have:=PQ (x:=a0) (k:=64) (by omega);simp only[h0,h1,and_self,za3,zaw];rw[wr (by omega) (by omega)]
theorem PR:dD Tryz.prog 233 adh:=dy (by
 intro xs v h;unfold acT at h
 split at h
 . rename_i a0;simp only[zak,zaT]at h;obtain⟨hc,rfl⟩:=h;obtain⟨m,hm⟩:=VE a0 hc;exact T2 m a0 hm rfl
 . cases h)
theorem nk {a b:Int} {m n:Int} (h1:0<=a) (h2:a<=m) (h3:0<=b) (h4:b<=n):0<=a*b/\a*b<=m*n:=
 ⟨za9 h1 h3,Int.mul_le_mul h2 h4 h3 (by omega)⟩
def abc:List Sc->Option (Bool × Value)
 |[.i a0,.i a1]=>some (decide (0<=a0/\a0<18446744073709551616/\0<=a1/\a1<18446744073709551616),.tuple #[.int .u64 (a0*a1/18446744073709551616),.int .u64 (a0*a1%18446744073709551616)])
 |_=>none
def abp:List Value->Option (Bool × Value):=kN [.int .u64,.int .u64] abc
def t226 (m:Nat) (a0:Int) (a1:Int):Option Value:=
 let x1:Int:=(IntKind.u64.wrap ((BitVec.ofInt 64 a0&&&BitVec.ofInt 64 4294967295).toNat))
 let x2:Int:=(a0.fdiv (2^(min (32:Int).toNat 64)))
 let x3:Int:=(IntKind.u64.wrap ((BitVec.ofInt 64 a1&&&BitVec.ofInt 64 4294967295).toNat))
 let x4:Int:=(a1.fdiv (2^(min (32:Int).toNat 64)))
 let x8:Int:=(IntKind.u64.wrap ((IntKind.u64.wrap (x2*x3))+((IntKind.u64.wrap (x1*x3)).fdiv (2^(min (32:Int).toNat 64)))))
 some (.tuple #[.int .u64 (IntKind.u64.wrap ((IntKind.u64.wrap ((IntKind.u64.wrap (x2*x4))+(x8.fdiv (2^(min (32:Int).toNat 64)))))+((IntKind.u64.wrap ((IntKind.u64.wrap ((BitVec.ofInt 64 x8&&&BitVec.ofInt 64 4294967295).toNat))+(IntKind.u64.wrap (x1*x4)))).fdiv (2^(min (32:Int).toNat 64))))),.int .u64 (IntKind.u64.wrap (a0*a1))])
def aaR:Tab:=gT []
theorem Jc:bp.right Tryz.prog aaR:=cN az
theorem aew (m:Nat) (a0:Int) (a1:Int):gA Tryz.prog aaR (fun _=>true) (dt Tryz.prog 226) [.int .u64 a0,.int .u64 a1] (kks (dt Tryz.prog 226).results.toList Tryz.prog [])=t226 m a0 a1:=by kernel_rfl
theorem Vv (m:Nat) (a0:Int) (a1:Int) {v:Value} (h:t226 m a0 a1=some v) (hv:eI v=true):eG Tryz.prog 226 [.int .u64 a0,.int .u64 a1] v:=
 cM (S:=[]) Seat.mix Seat.names Jc (by kernel_rfl) (by kernel_rfl) (by kernel_rfl)
  az ((aew m a0 a1).trans h) rfl hv
theorem Ws (a0:Int) (a1:Int) (hc:(decide (0<=a0/\a0<18446744073709551616/\0<=a1/\a1<18446744073709551616))=true):∃m,t226 m a0 a1=some (.tuple #[.int .u64 (a0*a1/18446744073709551616),.int .u64 (a0*a1%18446744073709551616)]):=by
 obtain⟨h0,h1,h2,h3⟩:=zaj hc;refine⟨0, ?_⟩;unfold t226;simp only[Yd];rw[qj h0 h1,qj h2 h3];have e1:a0=a0/4294967296*4294967296+a0%4294967296:=by omega
 have e2:a1=a1/4294967296*4294967296+a1%4294967296:=by omega
 have b1:0<=a0%4294967296/\a0%4294967296<=4294967295:=by omega
 have b2:0<=a0/4294967296/\a0/4294967296<=4294967295:=by omega
 have b3:0<=a1%4294967296/\a1%4294967296<=4294967295:=by omega
 have b4:0<=a1/4294967296/\a1/4294967296<=4294967295:=by omega
 rw[wu (n:=a0%4294967296) (by omega) (by omega),wu (n:=a1%4294967296) (by omega) (by omega)];have lo:IntKind.u64.wrap (a0*a1)=a0*a1%18446744073709551616:=pA _;rw[lo];clear lo;have hp:a0*a1=a0/4294967296*(a1/4294967296)*18446744073709551616+(a0/4294967296*(a1%4294967296)+a0%4294967296*(a1/4294967296))*4294967296+a0%4294967296*(a1%4294967296):=by
  conv=>lhs;rw[e1,e2]
  generalize a0/4294967296=p,a0%4294967296=q,a1/4294967296=r,a1%4294967296=s;rw[zb2,zce,zce];have u1:p*4294967296*(r*4294967296)=p*r*18446744073709551616:=by rw[zbP,Int.mul_left_comm 4294967296 r,<-zbP p r];rfl
  have u2:p*4294967296*s=p*s*4294967296:=by rw[zbP,zbl 4294967296 s,<-zbP]
  have u3:q*(r*4294967296)=q*r*4294967296:=by rw[<-zbP]
  omega
 generalize a0*a1=z at*
 have m1:=nk b1.1 b1.2 b3.1 b3.2;have m2:=nk b2.1 b2.2 b3.1 b3.2;have m3:=nk b1.1 b1.2 b4.1 b4.2;have m4:=nk b2.1 b2.2 b4.1 b4.2;generalize a0%4294967296*(a1%4294967296)=x at*
 generalize a0/4294967296*(a1%4294967296)=y at*
 generalize a0%4294967296*(a1/4294967296)=u at*
 generalize a0/4294967296*(a1/4294967296)=v at*
 rw[wu (n:=x) (by omega) (by omega),wu (n:=y) (by omega) (by omega),wu (n:=y+x/4294967296) (by omega) (by omega),qj (x:=y+x/4294967296) (by omega) (by omega),
  wu (n:=(y+x/4294967296)%4294967296) (by omega) (by omega),wu (n:=u) (by omega) (by omega),wu (n:=v) (by omega) (by omega),wu (n:=v+(y+x/4294967296)/4294967296) (by omega) (by omega),
  wu (n:=(y+x/4294967296)%4294967296+u) (by omega) (by omega),wu (by omega) (by omega)]
 have:v+(y+x/4294967296)/4294967296+((y+x/4294967296)%4294967296+u)/4294967296=z/18446744073709551616:=by omega
 rw[this]
theorem PD:dD Tryz.prog 226 abp:=dy (by
 intro xs v h;unfold abc at h
 split at h
 . rename_i a0 a1;simp only[zak,zaT]at h;obtain⟨hc,rfl⟩:=h;obtain⟨m,hm⟩:=Ws a0 a1 hc;exact Vv m a0 a1 hm rfl
 . cases h)
theorem ov {v v1 v0 U d q r:Int} (hv:v=v1*4294967296+v0) (hvp:0<v) (hU:U=q*v1+r):(U*4294967296+d)/v<q↔r*4294967296+d<q*v0:=by
 rw[zb7 hvp,hv,hU,zce,zb2,<-zbP];omega
theorem tC {v U d:Int} (hvp:0<v) (hU0:0<=U) (hU:U<v) (hd0:0<=d) (hd:d<4294967296):0<=(U*4294967296+d)/v/\(U*4294967296+d)/v<4294967296:=by
 refine⟨zbG (by omega) (by omega), ?_⟩;rw[zb7 hvp,zbl 4294967296 v];omega
theorem w7 {v v1 v0 U:Int} (hv:v=v1*4294967296+v0) (h1:2147483648<=v1) (h0:v0<4294967296) (hU0:0<=U) (hU:U<v):0<=U/v1/\U/v1<=4294967297:=by
 refine⟨zbG hU0 (by omega), ?_⟩;have:U/v1<4294967298:=by
  rw[zb7 (by omega)];omega
 omega
theorem GS {v v1 v0 U d:Int} (hv:v=v1*4294967296+v0) (h1:0<v1) (hvp:0<v) (h00:0<=v0) (hU0:0<=U) (hd0:0<=d) (hd:d<4294967296):(U*4294967296+d)/v<=U/v1:=by
 have e:U=U/v1*v1+U%v1:=by have:=zbm U v1;rw[zbl]at this;omega
 have hm:=zbk U h1;have hq:0<=U/v1:=zbG hU0 (by omega);have:(U*4294967296+d)/v<U/v1+1:=by
  rw[zb7 hvp,hv,zce,zb2 (U/v1),<-zbP,zb2];have:0<=U/v1*v0:=za9 hq h00;have e2:(U/v1)*v1=U-U%v1:=by omega
  rw[e2];omega
 omega
theorem A0 {v U d z:Int} (hz:z=(U*4294967296+d)/v*v) (hvp:0<v) (hv:v<18446744073709551616) (hd0:0<=d) (hd:d<4294967296):
 IntKind.u64.wrap (IntKind.u64.wrap (IntKind.u64.wrap (U*4294967296)+d)-IntKind.u64.wrap z)=(U*4294967296+d)%v:=by
 have h1:=zbz (U*4294967296+d) (show v≠0 by omega);have h2:=zbk (U*4294967296+d) hvp;have h3:=zbm (U*4294967296+d) v;rw[zbl,<-hz]at h3;simp only[pA];omega
def abN:List Sc->Option (Bool × Value)
 |[.i a0,.i a1,.i a2]=>some (decide (0<=a0/\a0<a2/\a2<18446744073709551616/\0<=a1/\a1<18446744073709551616),.tuple #[.int .u64 ((a0*18446744073709551616+a1)/a2),.int .u64 ((a0*18446744073709551616+a1)%a2)])
 |_=>none
def abj:List Value->Option (Bool × Value):=kN [.int .u64,.int .u64,.int .u64] abN
def oQ (m:Nat) (k:List Sc->Option Value):List Sc->Option Value
 |[.i a0,.i a1,.i a2,.i a3,.i a4,.i a5,.i a6,.i a7,.i a8]=>
  bif (decide (a8>=4294967296))then
   let x48:Int:=(IntKind.u64.wrap (a8-1))
   let x49:Int:=(IntKind.u64.wrap (a6+a2))
   bif (decide (x49>=4294967296))then
    bif decide (a1<0)then
     none
    else
     some (.tuple #[.int .u64 (IntKind.u64.wrap ((IntKind.u64.wrap (a5*4294967296))+x48)),.int .u64 ((IntKind.u64.wrap ((IntKind.u64.wrap ((IntKind.u64.wrap (a7*4294967296))+a4))-(IntKind.u64.wrap (x48*a0)))).fdiv (2^(min a1.toNat 64)))])
   else
    k [.i a0,.i a1,.i a2,.i a3,.i a4,.i a5,.i x49,.i a7,.i x48]
  else
   bif decide ((IntKind.u64.wrap (a8*a3))>(IntKind.u64.wrap ((IntKind.u64.wrap (4294967296*a6))+a4)))then
    let x61:Int:=(IntKind.u64.wrap (a8-1))
    let x62:Int:=(IntKind.u64.wrap (a6+a2))
    bif (decide (x62>=4294967296))then
     bif decide (a1<0)then
      none
     else
      some (.tuple #[.int .u64 (IntKind.u64.wrap ((IntKind.u64.wrap (a5*4294967296))+x61)),.int .u64 ((IntKind.u64.wrap ((IntKind.u64.wrap ((IntKind.u64.wrap (a7*4294967296))+a4))-(IntKind.u64.wrap (x61*a0)))).fdiv (2^(min a1.toNat 64)))])
    else
     k [.i a0,.i a1,.i a2,.i a3,.i a4,.i a5,.i x62,.i a7,.i x61]
   else
    bif decide (a1<0)then
     none
    else
     some (.tuple #[.int .u64 (IntKind.u64.wrap ((IntKind.u64.wrap (a5*4294967296))+a8)),.int .u64 ((IntKind.u64.wrap ((IntKind.u64.wrap ((IntKind.u64.wrap (a7*4294967296))+a4))-(IntKind.u64.wrap (a8*a0)))).fdiv (2^(min a1.toNat 64)))])
 |_=>none
def mD (m:Nat):Nat->List Sc->Option Value:=iter (oQ m)
theorem G2 (m:Nat) (n:Nat):mD m (n+1)=oQ m (mD m n):=rfl
def qg (F:List Sc->Option Value):Stop:=⟨[.lp [0,0,1,1,1,1,1,1,1,1,1,1,1,1,1,1,1,1,1,1],.blk 2,.code [1,1,1,1,1,1,1,1,1,1,1,1,1,1,1,1,1,1,1]],⟨135,[(2,.int .u64),(8,.int .u64),(9,.int .u64),(10,.int .u64),(14,.int .u64),(15,.int .u64),(16,.int .u64),(17,.int .u64),(18,.int .u64)],0,.e⟩,F⟩
def oi (m:Nat) (k:List Sc->Option Value):List Sc->Option Value
 |[.i a0,.i a1,.i a2,.i a3,.i a4,.i a5,.i a6,.i a7,.i a8]=>
  bif (decide (a7>=4294967296))then
   let x17:Int:=(IntKind.u64.wrap (a7-1))
   let x18:Int:=(IntKind.u64.wrap (a8+a2))
   bif (decide (x18>=4294967296))then
    let x23:Int:=(IntKind.u64.wrap ((IntKind.u64.wrap ((IntKind.u64.wrap (a4*4294967296))+a5))-(IntKind.u64.wrap (x17*a0))))
    bif decide (a2=0)then
     none
    else
     let x24:Int:=(IntKind.u64.wrap (x23.tdiv a2))
     mD m m [.i a0,.i a1,.i a2,.i a3,.i a6,.i x17,.i (IntKind.u64.wrap (x23-(IntKind.u64.wrap (x24*a2)))),.i x23,.i x24]
   else
    k [.i a0,.i a1,.i a2,.i a3,.i a4,.i a5,.i a6,.i x17,.i x18]
  else
   bif decide ((IntKind.u64.wrap (a7*a3))>(IntKind.u64.wrap ((IntKind.u64.wrap (4294967296*a8))+a5)))then
    let x30:Int:=(IntKind.u64.wrap (a7-1))
    let x31:Int:=(IntKind.u64.wrap (a8+a2))
    bif (decide (x31>=4294967296))then
     let x36:Int:=(IntKind.u64.wrap ((IntKind.u64.wrap ((IntKind.u64.wrap (a4*4294967296))+a5))-(IntKind.u64.wrap (x30*a0))))
     bif decide (a2=0)then
      none
     else
      let x37:Int:=(IntKind.u64.wrap (x36.tdiv a2))
      mD m m [.i a0,.i a1,.i a2,.i a3,.i a6,.i x30,.i (IntKind.u64.wrap (x36-(IntKind.u64.wrap (x37*a2)))),.i x36,.i x37]
    else
     k [.i a0,.i a1,.i a2,.i a3,.i a4,.i a5,.i a6,.i x30,.i x31]
   else
    let x43:Int:=(IntKind.u64.wrap ((IntKind.u64.wrap ((IntKind.u64.wrap (a4*4294967296))+a5))-(IntKind.u64.wrap (a7*a0))))
    bif decide (a2=0)then
     none
    else
     let x44:Int:=(IntKind.u64.wrap (x43.tdiv a2))
     mD m m [.i a0,.i a1,.i a2,.i a3,.i a6,.i a7,.i (IntKind.u64.wrap (x43-(IntKind.u64.wrap (x44*a2)))),.i x43,.i x44]
 |_=>none
def pP (m:Nat):Nat->List Sc->Option Value:=iter (oi m)
theorem G1 (m:Nat) (n:Nat):pP m (n+1)=oi m (pP m n):=rfl
def pS (F:List Sc->Option Value):Stop:=⟨[.lp [0,0,1,1,1,1,1,1,1,1,1,1,1,1,1,1],.blk 0,.code [1,1,1,1,1,1,1,1,1,1,1,1,1,1,1]],⟨135,[(2,.int .u64),(8,.int .u64),(9,.int .u64),(10,.int .u64),(11,.int .u64),(13,.int .u64),(14,.int .u64),(15,.int .u64),(16,.int .u64)],0,.e⟩,F⟩
def t227 (m:Nat) (a0:Int) (a1:Int) (a2:Int):Option Value:=
 bif a2==0 then
  none
 else
  bif decide (a2<=a0)then
   none
  else
   bif a0==0 then
    bif decide (a2=0)then
     none
    else
     bif decide (a2=0)then
      none
     else
      some (.tuple #[.int .u64 (IntKind.u64.wrap (a1.tdiv a2)),.int .u64 (a1.tmod a2)])
   else
    bif decide (0<=a2/\a2<18446744073709551616)then
     let x2:Int:=(IntKind.u64.wrap (64-iY a2))
     bif decide (x2<0)then
      none
     else
      let x3:Int:=(IntKind.u64.wrap (a2*2^(min x2.toNat 64)))
      let x4:Int:=(x3.fdiv (2^(min (32:Int).toNat 64)))
      bif decide (x2<0)then
       none
      else
       let x7:Int:=(IntKind.u64.wrap (64-x2))
       bif decide (x7<0)then
        none
       else
        let x9:Int:=(IntKind.u64.wrap ((BitVec.ofInt 64 (IntKind.u64.wrap (a0*2^(min x2.toNat 64)))|||BitVec.ofInt 64 (a1.fdiv (2^(min x7.toNat 64)))).toNat))
        bif decide (x2<0)then
         none
        else
         let x10:Int:=(IntKind.u64.wrap (a1*2^(min x2.toNat 64)))
         bif decide (x4=0)then
          none
         else
          let x13:Int:=(IntKind.u64.wrap (x9.tdiv x4))
          pP m m [.i x3,.i x2,.i x4,.i (IntKind.u64.wrap ((BitVec.ofInt 64 x3&&&BitVec.ofInt 64 4294967295).toNat)),.i x9,.i (x10.fdiv (2^(min (32:Int).toNat 64))),.i (IntKind.u64.wrap ((BitVec.ofInt 64 x10&&&BitVec.ofInt 64 4294967295).toNat)),.i x13,.i (IntKind.u64.wrap (x9-(IntKind.u64.wrap (x13*x4))))]
    else
     none
def N8:Tab:=gT [(233,adh)]
theorem KG:bp.right Tryz.prog N8:=cN (aI PR az)
theorem Xa (m:Nat) (k:List Sc->Option Value) (g:Nat->Value) (a0:Int) (a1:Int) (a2:Int) (a3:Int) (a4:Int) (a5:Int) (a6:Int) (a7:Int) (a8:Int):nZ Tryz.prog N8 (fun _=>true) (j5 (dt Tryz.prog 227)) [0,0,1,1,1,1,1,1,1,1,1,1,1,1,1,1,1,1,1,1] [.blk 2,.code [1,1,1,1,1,1,1,1,1,1,1,1,1,1,1,1,1,1,1]] (qg k).pat g [.i a0,.i a1,.i a2,.i a3,.i a4,.i a5,.i a6,.i a7,.i a8] (kks (dt Tryz.prog 227).results.toList Tryz.prog [qg k])=oQ m k [.i a0,.i a1,.i a2,.i a3,.i a4,.i a5,.i a6,.i a7,.i a8]:=by kernel_rfl
theorem Xe {m:Nat} {k:List Sc->Option Value} {xs:List Sc} {v:Value} (h:oQ m k xs=some v):∃a0 a1 a2 a3 a4 a5 a6 a7 a8,xs=[.i a0,.i a1,.i a2,.i a3,.i a4,.i a5,.i a6,.i a7,.i a8]:=by
 unfold oQ at h
 split at h
 . exact⟨_,_,_,_,_,_,_,_,_,rfl⟩
 . cases h
theorem W9 (m:Nat):∀n,(qg (mD m n)).gL Tryz.prog [] (cw N8) (dt Tryz.prog 227).results.toList (j5 (dt Tryz.prog 227)):=
 Stop.iter (mk:=qg) (Fs:=oQ m) (S:=fun k=>[qg k]) (p:=[0,0,1,1,1,1,1,1,1,1,1,1,1,1,1,1,1,1,1,1]) (rest:=[.blk 2,.code [1,1,1,1,1,1,1,1,1,1,1,1,1,1,1,1,1,1,1]]) (pat:=(qg (fun _=>none)).pat) (stop:=fun _=>true)
  (fun _=>rfl) (fun _=>rfl) (fun _=>rfl) (by kernel_rfl) (by kernel_rfl)
  (fun k h=>(aI h az))
  (fun k g xs v h=>by
   obtain⟨a0,a1,a2,a3,a4,a5,a6,a7,a8,rfl⟩:=Xe h;exact(Xa m k g a0 a1 a2 a3 a4 a5 a6 a7 a8).trans h)
theorem Y5 (m:Nat) (k:List Sc->Option Value) (g:Nat->Value) (a0:Int) (a1:Int) (a2:Int) (a3:Int) (a4:Int) (a5:Int) (a6:Int) (a7:Int) (a8:Int):nZ Tryz.prog N8 (fun _=>true) (j5 (dt Tryz.prog 227)) [0,0,1,1,1,1,1,1,1,1,1,1,1,1,1,1] [.blk 0,.code [1,1,1,1,1,1,1,1,1,1,1,1,1,1,1]] (pS k).pat g [.i a0,.i a1,.i a2,.i a3,.i a4,.i a5,.i a6,.i a7,.i a8] (kks (dt Tryz.prog 227).results.toList Tryz.prog [pS k,qg (mD m m)])=oi m k [.i a0,.i a1,.i a2,.i a3,.i a4,.i a5,.i a6,.i a7,.i a8]:=by kernel_rfl
theorem W7 {m:Nat} {k:List Sc->Option Value} {xs:List Sc} {v:Value} (h:oi m k xs=some v):∃a0 a1 a2 a3 a4 a5 a6 a7 a8,xs=[.i a0,.i a1,.i a2,.i a3,.i a4,.i a5,.i a6,.i a7,.i a8]:=by
 unfold oi at h
 split at h
 . exact⟨_,_,_,_,_,_,_,_,_,rfl⟩
 . cases h
theorem YZ (m:Nat):∀n,(pS (pP m n)).gL Tryz.prog [] (cw N8) (dt Tryz.prog 227).results.toList (j5 (dt Tryz.prog 227)):=
 Stop.iter (mk:=pS) (Fs:=oi m) (S:=fun k=>[pS k,qg (mD m m)]) (p:=[0,0,1,1,1,1,1,1,1,1,1,1,1,1,1,1]) (rest:=[.blk 0,.code [1,1,1,1,1,1,1,1,1,1,1,1,1,1,1]]) (pat:=(pS (fun _=>none)).pat) (stop:=fun _=>true)
  (fun _=>rfl) (fun _=>rfl) (fun _=>rfl) (by kernel_rfl) (by kernel_rfl)
  (fun k h=>(aI h (aI (W9 m m) az)))
  (fun k g xs v h=>by
   obtain⟨a0,a1,a2,a3,a4,a5,a6,a7,a8,rfl⟩:=W7 h;exact(Y5 m k g a0 a1 a2 a3 a4 a5 a6 a7 a8).trans h)
theorem aeF (m:Nat) (a0:Int) (a1:Int) (a2:Int):gA Tryz.prog N8 (fun _=>true) (dt Tryz.prog 227) [.int .u64 a0,.int .u64 a1,.int .u64 a2] (kks (dt Tryz.prog 227).results.toList Tryz.prog [pS (pP m m)])=t227 m a0 a1 a2:=by kernel_rfl
theorem VG (m:Nat) (a0:Int) (a1:Int) (a2:Int) {v:Value} (h:t227 m a0 a1 a2=some v) (hv:eI v=true):eG Tryz.prog 227 [.int .u64 a0,.int .u64 a1,.int .u64 a2] v:=
 cM (S:=[pS (pP m m)]) Seat.mix Seat.names KG (by kernel_rfl) (by kernel_rfl) (by kernel_rfl)
  (aI (YZ m m) az) ((aeF m a0 a1 a2).trans h) rfl hv
theorem VM (a0:Int) (a1:Int) (a2:Int) (hc:(decide (0<=a0/\a0<a2/\a2<18446744073709551616/\0<=a1/\a1<18446744073709551616))=true):∃m,t227 m a0 a1 a2=some (.tuple #[.int .u64 ((a0*18446744073709551616+a1)/a2),.int .u64 ((a0*18446744073709551616+a1)%a2)]):=by
 obtain⟨h0,h1,h2,h3,h4⟩:=zaj hc;refine⟨4294967310, ?_⟩;have two:∀v s v1 v0 d0 Q1 R1:Int,v=v1*4294967296+v0->2147483648<=v1->v1<4294967296->0<=v0->v0<4294967296->0<=s->0<=Q1->Q1<4294967296->0<=d0->d0<4294967296->0<=R1->R1<v->
  ∀(n:Nat) (q r:Int),R1=q*v1+r->0<=r->r<4294967296->(R1*4294967296+d0)/v<=q->q<=4294967297->q-(R1*4294967296+d0)/v<n->
  mD 4294967310 n [.i v,.i s,.i v1,.i v0,.i d0,.i Q1,.i r,.i R1,.i q]=some (.tuple #[.int .u64 (Q1*4294967296+(R1*4294967296+d0)/v),.int .u64 (((R1*4294967296+d0)%v)/2^(min s.toNat 64))]):=by
  intro v s v1 v0 d0 Q1 R1 hv hv1 hv2 hv3 hv4 hs hQ0 hQ hd0 hd hR0 hR n;have hvp:0<v:=by omega
  have hq:=tC hvp hR0 hR hd0 hd
  induction n with
  |zero=>intro q r _ _ _ _ _ h;omega
  |succ n ih=>
   intro q r hU hr0 hr hge hle hn;have adA:=ov (U:=R1) (d:=d0) hv hvp hU;have hm:=nk (a:=q) (b:=v0) (m:=4294967297) (n:=4294967295) (by omega) (by omega) (by omega) (by omega);have down:(R1*4294967296+d0)/v<q->r+v1<4294967296->mD 4294967310 n [.i v,.i s,.i v1,.i v0,.i d0,.i Q1,.i (r+v1),.i R1,.i (q-1)]=some (.tuple #[.int .u64 (Q1*4294967296+(R1*4294967296+d0)/v),.int .u64 (((R1*4294967296+d0)%v)/2^(min s.toNat 64))]):=by
    intro h1 h2;exact ih (q-1) (r+v1) (by rw[Int.sub_mul];omega) (by omega) h2 (by omega) (by omega) (by omega)
   have stop:∀q',q'=(R1*4294967296+d0)/v->(some (Value.tuple #[.int .u64 (IntKind.u64.wrap ((IntKind.u64.wrap (Q1*4294967296))+q')),.int .u64 ((IntKind.u64.wrap ((IntKind.u64.wrap ((IntKind.u64.wrap (R1*4294967296))+d0))-(IntKind.u64.wrap (q'*v)))).fdiv (2^(min s.toNat 64)))]))=some (.tuple #[.int .u64 (Q1*4294967296+(R1*4294967296+d0)/v),.int .u64 (((R1*4294967296+d0)%v)/2^(min s.toNat 64))]):=by
    intro q' e;rw[A0 (by rw[e]) hvp (by omega) hd0 hd,wu (n:=Q1*4294967296) (by omega) (by omega),wu (by omega) (by omega),fd (Int.le_of_lt (Int.pow_pos (by decide))),e]
   have out:(R1*4294967296+d0)/v<q->q<=4294967297->4294967296<=r+v1->q-1=(R1*4294967296+d0)/v:=by
    intro h1 h2 h3;have t2:=ov (U:=R1) (q:=q-1) (r:=r+v1) (d:=d0) hv hvp (by rw[Int.sub_mul];omega);have m2:=nk (a:=q-1) (b:=v0) (m:=4294967296) (n:=4294967295) (by omega) (by omega) (by omega) (by omega);omega
   rw[G2];unfold oQ;simp only[];have hsn:¬s<0:=by omega
   by_cases c1:q>=4294967296
   . rw[wu (n:=q-1) (by omega) (by omega),wu (n:=r+v1) (by omega) (by omega)]
     by_cases c2:r+v1>=4294967296
     . simp only[c1,c2,hsn,za3,zaY,zaw,zal];exact stop _ (out (by omega) hle c2)
     . simp only[c1,c2,za3,zaY,zaw,zal];exact down (by omega) (by omega)
   . have m3:=nk (a:=q) (b:=v0) (m:=4294967295) (n:=4294967295) (by omega) (by omega) (by omega) (by omega);rw[wu (n:=q*v0) (by omega) (by omega),wu (n:=4294967296*r) (by omega) (by omega),wu (n:=4294967296*r+d0) (by omega) (by omega)]
     by_cases c3:q*v0>4294967296*r+d0
     . rw[wu (n:=q-1) (by omega) (by omega),wu (n:=r+v1) (by omega) (by omega)]
       by_cases c2:r+v1>=4294967296
       . simp only[c1,c2,c3,hsn,za3,zaY,zaw,zal];exact stop _ (out (by omega) hle c2)
       . simp only[c1,c2,c3,za3,zaY,zaw,zal];exact down (by omega) (by omega)
     . simp only[c1,c3,hsn,zaY,zal];exact stop _ (by omega)
 have one:∀v s v1 v0 d1 d0 U:Int,v=v1*4294967296+v0->2147483648<=v1->v1<4294967296->0<=v0->v0<4294967296->0<=s->0<=d1->d1<4294967296->0<=d0->d0<4294967296->0<=U->U<v->
  ∀(n:Nat) (q r:Int),U=q*v1+r->0<=r->r<4294967296->(U*4294967296+d1)/v<=q->q<=4294967297->q-(U*4294967296+d1)/v<n->
  pP 4294967310 n [.i v,.i s,.i v1,.i v0,.i U,.i d1,.i d0,.i q,.i r]=some (.tuple #[.int .u64 ((U*4294967296+d1)/v*4294967296+((U*4294967296+d1)%v*4294967296+d0)/v),.int .u64 ((((U*4294967296+d1)%v*4294967296+d0)%v)/2^(min s.toNat 64))]):=by
  intro v s v1 v0 d1 d0 U hv hv1 hv2 hv3 hv4 hs hd1 adB hd0 aag hU0 hU n;have hvp:0<v:=by omega
  have hq:=tC hvp hU0 hU hd1 adB
  induction n with
  |zero=>intro q r _ _ _ _ _ h;omega
  |succ n ih=>
   intro q r hUq hr0 hr hge hle hn;have adA:=ov (U:=U) (d:=d1) hv hvp hUq;have down:(U*4294967296+d1)/v<q->r+v1<4294967296->pP 4294967310 n [.i v,.i s,.i v1,.i v0,.i U,.i d1,.i d0,.i (q-1),.i (r+v1)]=some (.tuple #[.int .u64 ((U*4294967296+d1)/v*4294967296+((U*4294967296+d1)%v*4294967296+d0)/v),.int .u64 ((((U*4294967296+d1)%v*4294967296+d0)%v)/2^(min s.toNat 64))]):=by
    intro h1 h2;exact ih (q-1) (r+v1) (by rw[Int.sub_mul];omega) (by omega) h2 (by omega) (by omega) (by omega)
   have aah:¬v1=0:=by omega
   have stop:∀q' R1,q'=(U*4294967296+d1)/v->R1=IntKind.u64.wrap (IntKind.u64.wrap (IntKind.u64.wrap (U*4294967296)+d1)-IntKind.u64.wrap (q'*v))->
    (mD 4294967310 4294967310 [.i v,.i s,.i v1,.i v0,.i d0,.i q',.i (IntKind.u64.wrap (R1-(IntKind.u64.wrap ((IntKind.u64.wrap (R1.tdiv v1))*v1)))),.i R1,.i (IntKind.u64.wrap (R1.tdiv v1))])=some (.tuple #[.int .u64 ((U*4294967296+d1)/v*4294967296+((U*4294967296+d1)%v*4294967296+d0)/v),.int .u64 ((((U*4294967296+d1)%v*4294967296+d0)%v)/2^(min s.toNat 64))]):=by
    intro q' R1 e eR;rw[A0 (by rw[e]) hvp (by omega) hd1 adB]at eR;have b1:=zbz (U*4294967296+d1) (show v≠0 by omega);have b2:=zbk (U*4294967296+d1) hvp;rw[<-eR]at b1 b2;have ks:=w7 hv hv1 hv4 b1 b2;have kg:=GS (U:=R1) (d:=d0) hv (by omega) hvp hv3 b1 hd0 aag;have km:=zbm R1 v1;have kn:=zbz R1 (show v1≠0 by omega);have ko:=zbk R1 (show 0<v1 by omega);have kl:=tC hvp b1 b2 hd0 aag;rw[zbl]at km;have kz:0<=R1/v1*v1:=za9 ks.1 (by omega);rw[td _ b1,wu (n:=R1/v1) (by omega) (by omega),wu (n:=R1/v1*v1) (by omega) (by omega),wu (n:=R1-R1/v1*v1) (by omega) (by omega)];rw[two v s v1 v0 d0 q' R1 hv hv1 hv2 hv3 hv4 hs (by omega) (by omega) hd0 aag b1 b2 4294967310 (R1/v1) (R1-R1/v1*v1) (by omega) (by omega) (by omega) kg ks.2 (by omega),e,eR]
   have out:(U*4294967296+d1)/v<q->q<=4294967297->4294967296<=r+v1->q-1=(U*4294967296+d1)/v:=by
    intro h1 h2 h3;have t2:=ov (U:=U) (q:=q-1) (r:=r+v1) (d:=d1) hv hvp (by rw[Int.sub_mul];omega);have m2:=nk (a:=q-1) (b:=v0) (m:=4294967296) (n:=4294967295) (by omega) (by omega) (by omega) (by omega);omega
   rw[G1];unfold oi;simp only[]
   by_cases c1:q>=4294967296
   . rw[wu (n:=q-1) (by omega) (by omega),wu (n:=r+v1) (by omega) (by omega)]
     by_cases c2:r+v1>=4294967296
     . simp only[c1,c2,aah,za3,zaY,zaw,zal];exact stop _ _ (out (by omega) hle c2) rfl
     . simp only[c1,c2,za3,zaY,zaw,zal];exact down (by omega) (by omega)
   . have m3:=nk (a:=q) (b:=v0) (m:=4294967295) (n:=4294967295) (by omega) (by omega) (by omega) (by omega);rw[wu (n:=q*v0) (by omega) (by omega),wu (n:=4294967296*r) (by omega) (by omega),wu (n:=4294967296*r+d1) (by omega) (by omega)]
     by_cases c3:q*v0>4294967296*r+d1
     . rw[wu (n:=q-1) (by omega) (by omega),wu (n:=r+v1) (by omega) (by omega)]
       by_cases c2:r+v1>=4294967296
       . simp only[c1,c2,c3,aah,za3,zaY,zaw,zal];exact stop _ _ (out (by omega) hle c2) rfl
       . simp only[c1,c2,c3,za3,zaY,zaw,zal];exact down (by omega) (by omega)
     . simp only[c1,c3,aah,zaY,zal];exact stop _ _ (by omega) rfl
 unfold t227;have n1:¬a2<=a0:=by omega
 have n2:¬a2=0:=by omega
 have n3:(a2==0)=false:=by simpa using n2
 simp only[n1,n2,n3,zaY,zal]
 by_cases z0:a0=0
 . subst z0;simp only[BEq.rfl,zaw];rw[td _ h3,tm _ h3];have q0:0<=a1/a2:=zbG h3 (by omega);have q1:a1/a2<=a1:=Int.ediv_le_self _ h3;rw[wu q0 (by omega)];simp
 have z0':(a0==0)=false:=by simpa using z0
 simp only[z0',zal,h2,show 0<=a2 by omega,and_self,za3,zaw];obtain⟨p,p',s,hs0,hs1,hsx,hp,hp',hpp,hp0,hp1,hvl,hvh⟩:∃(p p' s:Int),0<=s/\s<64/\IntKind.u64.wrap (64-iY a2)=s/\(2:Int)^(min s.toNat 64)=p/\(2:Int)^(min (64-s).toNat 64)=p'/\p*p'=18446744073709551616/\0<p/\0<p'/\9223372036854775808<=a2*p/\a2*p<18446744073709551616:=by
  obtain⟨k,hk,hk64,hlo,hhi⟩:=Qw (x:=a2) (by omega) h2;refine⟨2^k,2^(64-k),k,by omega,by omega, ?_, ?_, ?_, ?_, ?_, ?_, ?_, ?_⟩
  . rw[hk,wu (by omega) (by omega)];omega
  . congr 1;omega
  . congr 1;omega
  . rw[<-Int.pow_add,show k+(64-k)=64 by omega];rfl
  . exact Int.pow_pos (by decide)
  . exact Int.pow_pos (by decide)
  . exact hlo
  . exact hhi
 rw[hsx,wu (n:=64-s) (by omega) (by omega)];have n4:¬s<0:=by omega
 have n5:¬64-s<0:=by omega
 simp only[n4,n5,zaY,zal];rw[hp,hp',wu (n:=a2*p) (by omega) (by omega),fd (b:=p') (by omega)];simp only[Yd];have hpm:¬a2*p/4294967296=0:=by omega
 simp only[hpm,zaY,zal];rw[qj (by omega) hvh,qj (x:=IntKind.u64.wrap (a1*p)) (by rw[pA];omega) (by rw[pA];omega)];have ea:(a0+1)*p<=a2*p:=za6 (by omega) (by omega);rw[zb2]at ea;have ea0:0<=a0*p:=za9 h0 (by omega);have ed:=zbm a1 p';rw[zbl]at ed;have ed0:=zbz a1 (show p'≠0 by omega);have ed1:=zbk a1 hp1;have eq0:0<=a1/p':=zbG h3 (by omega);have eq1:a1/p'<p:=by rw[zb7 hp1,hpp];exact h4
 have el:IntKind.u64.wrap (a1*p)=a1%p'*p:=by
  rw[pA];have:a1*p=a1/p'*18446744073709551616+a1%p'*p:=by
   conv=>lhs;rw[<-ed]
   rw[zb2,zbP,zbl p' p,hpp]
  have l0:0<=a1%p'*p:=za9 ed0 (by omega);have l1:a1%p'*p<18446744073709551616:=by
   have:(a1%p'+1)*p<=p'*p:=za6 (by omega) (by omega);rw[zb2,zbl p' p,hpp]at this;omega
  omega
 have l0:0<=a1%p'*p:=za9 ed0 (by omega);have l1:a1%p'*p<18446744073709551616:=by
  have:=el;rw[pA]at this;omega
 have eo:IntKind.u64.wrap ((BitVec.ofInt 64 (IntKind.u64.wrap (a0*p))|||BitVec.ofInt 64 (a1/p')).toNat)=a0*p+a1/p':=by
  rw[wu (n:=a0*p) ea0 (by omega)];have:=PJ (k:=min s.toNat 64) (a:=a0) (b:=a1/p') h0 eq0 (by rw[hp];exact eq1) (by rw[hp];omega);rw[hp]at this;rw[this,wu (by omega) (by omega)]
 rw[eo,el];generalize hv:a2*p=v at*
 generalize hU:a0*p+a1/p'=U at*
 generalize hl:a1%p'*p=l at*
 rw[wu (n:=v%4294967296) (by omega) (by omega),wu (n:=l%4294967296) (by omega) (by omega)];have ks:=w7 (v:=v) (v1:=v/4294967296) (v0:=v%4294967296) (U:=U) (by omega) (by omega) (by omega) (by omega) (by omega);have kg:=GS (v:=v) (v1:=v/4294967296) (v0:=v%4294967296) (U:=U) (d:=l/4294967296) (by omega) (by omega) (by omega) (by omega) (by omega) (by omega) (by omega);have kl:=tC (v:=v) (U:=U) (d:=l/4294967296) (by omega) (by omega) (by omega) (by omega) (by omega);have km:=zbm U (v/4294967296);have kn:=zbz U (show v/4294967296≠0 by omega);have ko:=zbk U (show 0<v/4294967296 by omega);rw[zbl]at km;have kz:0<=U/(v/4294967296)*(v/4294967296):=za9 ks.1 (by omega);rw[td _ (show 0<=U by omega),wu (n:=U/(v/4294967296)) (by omega) (by omega),wu (n:=U/(v/4294967296)*(v/4294967296)) (by omega) (by omega),wu (n:=U-U/(v/4294967296)*(v/4294967296)) (by omega) (by omega)];rw[one v s (v/4294967296) (v%4294967296) (l/4294967296) (l%4294967296) U (by omega) (by omega) (by omega) (by omega) (by omega) hs0 (by omega) (by omega) (by omega) (by omega) (by omega) (by omega) 4294967310 _ _ (by omega) (by omega) (by omega) kg ks.2 (by omega),hp];have hN:(a0*18446744073709551616+a1)*p=((U*4294967296+l/4294967296)/v*4294967296)*v+((U*4294967296+l/4294967296)%v*4294967296+l%4294967296):=by
  have e1:=zbm (U*4294967296+l/4294967296) v;rw[zbl]at e1;have e2:(U*4294967296+l/4294967296)/v*4294967296*v=(U*4294967296+l/4294967296)/v*v*4294967296:=by
   rw[zbP,zbl 4294967296 v,<-zbP]
  have e3:(a0*18446744073709551616+a1)*p=U*18446744073709551616+l:=by
   rw[<-hU,<-hl,zb2,zb2,zbP,zbl 18446744073709551616 p,<-zbP];have:a1*p=a1/p'*18446744073709551616+a1%p'*p:=by
    conv=>lhs;rw[<-ed]
    rw[zb2,zbP,zbl p' p,hpp]
   omega
  rw[e3,e2];omega
 have hvp:0<v:=by omega
 have f1:(a0*18446744073709551616+a1)/a2=(U*4294967296+l/4294967296)/v*4294967296+((U*4294967296+l/4294967296)%v*4294967296+l%4294967296)/v:=by
  rw[<-Int.mul_ediv_mul_of_pos_left _ a2 hp0,hN,hv,Int.add_comm (_*v),Int.add_mul_ediv_right _ _ (by omega),Int.add_comm]
 have f2:(a0*18446744073709551616+a1)%a2=((U*4294967296+l/4294967296)%v*4294967296+l%4294967296)%v/p:=by
  have e4:(a0*18446744073709551616+a1)*p%v=((U*4294967296+l/4294967296)%v*4294967296+l%4294967296)%v:=by
   rw[hN,Int.add_comm (_*v),Int.add_mul_emod_self_right]
  rw[<-e4,<-hv,zbl _ p,zbl a2 p,Int.mul_emod_mul_of_pos _ _ hp0,Int.mul_ediv_cancel_left _ (by omega)]
 rw[f1,f2]
theorem OX:dD Tryz.prog 227 abj:=dy (by
 intro xs v h;unfold abN at h
 split at h
 . rename_i a0 a1 a2;simp only[zak,zaT]at h;obtain⟨hc,rfl⟩:=h;obtain⟨m,hm⟩:=VM a0 a1 a2 hc;exact VG m a0 a1 a2 hm rfl
 . cases h)
def rJ (q r p h:Int):Bool:=(h==1&&decide (r>0))||(h==2&&(decide (r>p-r)||(r==p-r&&q%2==1)))
def mdQ (n b p h:Int):Int:=n*b/p+(if rJ (n*b/p) (n*b%p) p h then 1 else 0)
def rX (n b p h:Int):Bool:=decide (0<=n/\n<=1152921504606846976/\0<=b/\b<=1152921504606846976/\1<=p/\p<=1152921504606846976/\0<=h/\h<=2/\mdQ n b p h<=1152921504606846976)
def mdV (n b p h:Int):Int:=if rX n b p h then mdQ n b p h else 0
theorem abg {n b p h:Int} (hn:¬(0<=n/\n<=1152921504606846976/\0<=b/\b<=1152921504606846976/\1<=p/\p<=1152921504606846976/\0<=h/\h<=2)):rX n b p h=false/\mdV n b p h=0:=by
 have:rX n b p h=false:=by
  unfold rX;rw[decide_eq_false_iff_not];rintro⟨h1,h2,h3,h4,h5,h6,h7,h8,_⟩;exact hn ⟨h1,h2,h3,h4,h5,h6,h7,h8⟩
 simp[mdV,this]
theorem Mn {n b p h:Int} (h1:0<=n) (h2:n<=1152921504606846976) (h3:0<=b) (h4:b<=1152921504606846976) (h5:1<=p) (h6:p<=1152921504606846976) (h7:0<=h) (h8:h<=2):
 rX n b p h=decide (mdQ n b p h<=1152921504606846976):=by
 unfold rX;simp[h1,h2,h3,h4,h5,h6,h7,h8]
def aby:List Sc->Option (Bool × Value)
 |[.i a0,.i a1,.i a2,.i a3]=>some (true,.tuple #[.int .i64 (mdV a0 a1 a2 a3),.bool (rX a0 a1 a2 a3)])
 |_=>none
def Yy:List Value->Option (Bool × Value):=kN [.int .i64,.int .i64,.int .i64,.int .i64] aby
def t204 (m:Nat) (a0:Int) (a1:Int) (a2:Int) (a3:Int):Option Value:=
 bif decide (a0<0)then
  some (.tuple #[.int .i64 0,.bool false])
 else
  bif (decide (a0>1152921504606846976))then
   some (.tuple #[.int .i64 0,.bool false])
  else
   bif decide (a1<0)then
    some (.tuple #[.int .i64 0,.bool false])
   else
    bif (decide (a1>1152921504606846976))then
     some (.tuple #[.int .i64 0,.bool false])
    else
     bif decide (a2<0)then
      some (.tuple #[.int .i64 0,.bool false])
     else
      bif (decide (a2>1152921504606846976))then
       some (.tuple #[.int .i64 0,.bool false])
      else
       bif a2==0 then
        some (.tuple #[.int .i64 0,.bool false])
       else
        bif decide (a3<0)then
         some (.tuple #[.int .i64 0,.bool false])
        else
         bif decide (a3>2)then
          some (.tuple #[.int .i64 0,.bool false])
         else
          bif decide (0<=(IntKind.u64.wrap a0)/\(IntKind.u64.wrap a0)<18446744073709551616/\0<=(IntKind.u64.wrap a1)/\(IntKind.u64.wrap a1)<18446744073709551616)then
           let x4:Int:=((IntKind.u64.wrap a0)*(IntKind.u64.wrap a1)/18446744073709551616)
           let x5:Int:=((IntKind.u64.wrap a0)*(IntKind.u64.wrap a1)%18446744073709551616)
           bif (decide (x4>=(IntKind.u64.wrap a2)))then
            some (.tuple #[.int .i64 0,.bool false])
           else
            bif decide (0<=x4/\x4<(IntKind.u64.wrap a2)/\(IntKind.u64.wrap a2)<18446744073709551616/\0<=x5/\x5<18446744073709551616)then
             let x7:Int:=((x4*18446744073709551616+x5)/(IntKind.u64.wrap a2))
             let x8:Int:=((x4*18446744073709551616+x5)%(IntKind.u64.wrap a2))
             let x9:Int:=(IntKind.u64.wrap ((IntKind.u64.wrap a2)-x8))
             bif (decide (x7>1152921504606846976))then
              some (.tuple #[.int .i64 0,.bool false])
             else
              bif a3==1 then
               bif decide (x8>0)then
                bif decide (x8>0)then
                 let x11:Int:=(IntKind.u64.wrap (x7+1))
                 bif (decide (x11>1152921504606846976))then
                  some (.tuple #[.int .i64 0,.bool false])
                 else
                  some (.tuple #[.int .i64 (IntKind.i64.wrap x11),.bool true])
                else
                 bif (decide (x7>1152921504606846976))then
                  some (.tuple #[.int .i64 0,.bool false])
                 else
                  some (.tuple #[.int .i64 (IntKind.i64.wrap x7),.bool true])
               else
                bif a3==2 then
                 bif decide (x8>x9)then
                  let x14:Int:=(IntKind.u64.wrap (x7+1))
                  bif (decide (x14>1152921504606846976))then
                   some (.tuple #[.int .i64 0,.bool false])
                  else
                   some (.tuple #[.int .i64 (IntKind.i64.wrap x14),.bool true])
                 else
                  bif x8==x9 then
                   bif (IntKind.u64.wrap ((BitVec.ofInt 64 x7&&&BitVec.ofInt 64 1).toNat))==1 then
                    let x17:Int:=(IntKind.u64.wrap (x7+1))
                    bif (decide (x17>1152921504606846976))then
                     some (.tuple #[.int .i64 0,.bool false])
                    else
                     some (.tuple #[.int .i64 (IntKind.i64.wrap x17),.bool true])
                   else
                    bif (decide (x7>1152921504606846976))then
                     some (.tuple #[.int .i64 0,.bool false])
                    else
                     some (.tuple #[.int .i64 (IntKind.i64.wrap x7),.bool true])
                  else
                   bif (decide (x7>1152921504606846976))then
                    some (.tuple #[.int .i64 0,.bool false])
                   else
                    some (.tuple #[.int .i64 (IntKind.i64.wrap x7),.bool true])
                else
                 bif (decide (x7>1152921504606846976))then
                  some (.tuple #[.int .i64 0,.bool false])
                 else
                  some (.tuple #[.int .i64 (IntKind.i64.wrap x7),.bool true])
              else
               bif a3==2 then
                bif decide (x8>x9)then
                 let x22:Int:=(IntKind.u64.wrap (x7+1))
                 bif (decide (x22>1152921504606846976))then
                  some (.tuple #[.int .i64 0,.bool false])
                 else
                  some (.tuple #[.int .i64 (IntKind.i64.wrap x22),.bool true])
                else
                 bif x8==x9 then
                  bif (IntKind.u64.wrap ((BitVec.ofInt 64 x7&&&BitVec.ofInt 64 1).toNat))==1 then
                   let x25:Int:=(IntKind.u64.wrap (x7+1))
                   bif (decide (x25>1152921504606846976))then
                    some (.tuple #[.int .i64 0,.bool false])
                   else
                    some (.tuple #[.int .i64 (IntKind.i64.wrap x25),.bool true])
                  else
                   bif (decide (x7>1152921504606846976))then
                    some (.tuple #[.int .i64 0,.bool false])
                   else
                    some (.tuple #[.int .i64 (IntKind.i64.wrap x7),.bool true])
                 else
                  bif (decide (x7>1152921504606846976))then
                   some (.tuple #[.int .i64 0,.bool false])
                  else
                   some (.tuple #[.int .i64 (IntKind.i64.wrap x7),.bool true])
               else
                bif (decide (x7>1152921504606846976))then
                 some (.tuple #[.int .i64 0,.bool false])
                else
                 some (.tuple #[.int .i64 (IntKind.i64.wrap x7),.bool true])
            else
             none
          else
           none
def abG:Tab:=gT [(226,abp),(227,abj)]
theorem Ki:bp.right Tryz.prog abG:=cN (aI PD (aI OX az))
theorem aet (m:Nat) (a0:Int) (a1:Int) (a2:Int) (a3:Int):gA Tryz.prog abG (fun _=>true) (dt Tryz.prog 204) [.int .i64 a0,.int .i64 a1,.int .i64 a2,.int .i64 a3] (kks (dt Tryz.prog 204).results.toList Tryz.prog [])=t204 m a0 a1 a2 a3:=by kernel_rfl
theorem V1 (m:Nat) (a0:Int) (a1:Int) (a2:Int) (a3:Int) {v:Value} (h:t204 m a0 a1 a2 a3=some v) (hv:eI v=true):eG Tryz.prog 204 [.int .i64 a0,.int .i64 a1,.int .i64 a2,.int .i64 a3] v:=
 cM (S:=[]) Seat.mix Seat.names Ki (by kernel_rfl) (by kernel_rfl) (by kernel_rfl)
  az ((aet m a0 a1 a2 a3).trans h) rfl hv
theorem Vz (a0:Int) (a1:Int) (a2:Int) (a3:Int):∃m,t204 m a0 a1 a2 a3=some (.tuple #[.int .i64 (mdV a0 a1 a2 a3),.bool (rX a0 a1 a2 a3)]):=by
 refine⟨0, ?_⟩;unfold t204
 by_cases g:0<=a0/\a0<=1152921504606846976/\0<=a1/\a1<=1152921504606846976/\1<=a2/\a2<=1152921504606846976/\0<=a3/\a3<=2
 . obtain⟨g1,g2,g3,g4,g5,g6,g7,g8⟩:=g;have n1:¬a0<0:=by omega
   have n2:¬a0>1152921504606846976:=by omega
   have n3:¬a1<0:=by omega
   have n4:¬a1>1152921504606846976:=by omega
   have n5:¬a2<0:=by omega
   have n6:¬a2>1152921504606846976:=by omega
   have n7:(a2==0)=false:=by simp;omega
   have n8:¬a3<0:=by omega
   have n9:¬a3>2:=by omega
   rw[wu g1 (by omega),wu g3 (by omega),wu (n:=a2) (by omega) (by omega)];simp only[n1,n2,n3,n4,n5,n6,n7,n8,n9,zaY,zal,g1,g3,show a0<18446744073709551616 by omega,show a1<18446744073709551616 by omega,and_self,za3,zaw];have hz:=nk g1 g2 g3 g4;rw[Mn g1 g2 g3 g4 g5 g6 g7 g8];unfold mdV;rw[Mn g1 g2 g3 g4 g5 g6 g7 g8];unfold mdQ;have hh:a3=0\/a3=1\/a3=2:=by omega
   have hq0:0<=a0*a1/a2:=zbG (za9 g1 g3) (by omega);have hr0:=zbz (a0*a1) (show a2≠0 by omega);have hr1:=zbk (a0*a1) (show 0<a2 by omega);generalize a0*a1=z at*
   have hq:z/18446744073709551616*18446744073709551616+z%18446744073709551616=z:=by omega
   simp only[hq]
   by_cases hb:z/18446744073709551616>=a2
   . have:1152921504606846976<z/a2:=by
      have:1152921504606846977<=z/a2:=by
       rw[Int.le_ediv_iff_mul_le (by omega)];omega
      omega
     have e:¬(z/a2+(if rJ (z/a2) (z%a2) a2 a3=true then 1 else 0))<=1152921504606846976:=by split<;>omega
     simp[hb,e]
   . simp only[hb,zaY,zal];have:0<=z/18446744073709551616/\z/18446744073709551616<a2/\a2<18446744073709551616/\0<=z%18446744073709551616/\z%18446744073709551616<18446744073709551616:=by omega
     simp only[this,and_self,za3,zaw];clear hq this hb;generalize z/a2=q at*
     generalize z%a2=r at*
     generalize a2=p at*
     by_cases c0:q>1152921504606846976
     . have e:¬(q+(if rJ q r p a3=true then 1 else 0))<=1152921504606846976:=by split<;>omega
       simp[c0,e]
     rw[wu (n:=p-r) (by omega) (by omega),V5 (by omega) (by omega),wu (n:=q%2) (by omega) (by omega),wu (n:=q+1) (by omega) (by omega),wr (n:=q+1) (by omega) (by omega),wr (n:=q) (by omega) (by omega)];rcases hh with rfl|rfl|rfl
     . simp[rJ,c0,show ¬1152921504606846976<q by omega,show q<=1152921504606846976 by omega]
     . by_cases c1:r>0
       . by_cases c5:q+1<=1152921504606846976
         . simp[rJ,c0,c1,c5,show ¬1152921504606846976<q+1 by omega]
         . simp[rJ,c0,c1,c5,show 1152921504606846976<q+1 by omega]
       . simp[rJ,c0,c1,show ¬1152921504606846976<q by omega,show q<=1152921504606846976 by omega]
     . by_cases c2:r>p-r
       . by_cases c5:q+1<=1152921504606846976
         . simp[rJ,c0,c2,c5,show ¬1152921504606846976<q+1 by omega]
         . simp[rJ,c0,c2,c5,show 1152921504606846976<q+1 by omega]
       . by_cases c3:r=p-r
         . by_cases c4:q%2=1
           . by_cases c5:q+1<=1152921504606846976
             . simp[rJ,c0,c2,c4,c5,<-c3,show ¬1152921504606846976<q+1 by omega]
             . simp[rJ,c0,c2,c4,c5,<-c3,show 1152921504606846976<q+1 by omega]
           . simp[rJ,c0,c2,show(q%2==1)=false by simpa using c4,c4,<-c3,show ¬1152921504606846976<q by omega,show q<=1152921504606846976 by omega]
         . simp[rJ,c0,c2,show(r==p-r)=false by simpa using c3,c3,show ¬1152921504606846976<q by omega,show q<=1152921504606846976 by omega]
 . obtain⟨e1,e2⟩:=abg g;rw[e1,e2]
   by_cases n1:a0<0
   . simp[n1]
   by_cases n2:a0>1152921504606846976
   . simp[n2]
   by_cases n3:a1<0
   . simp[n3]
   by_cases n4:a1>1152921504606846976
   . simp[n4]
   by_cases n5:a2<0
   . simp[n5]
   by_cases n6:a2>1152921504606846976
   . simp[n6]
   by_cases n7:a2=0
   . simp[n7]
   by_cases n8:a3<0
   . simp[n8]
   by_cases n9:a3>2
   . simp[n9]
   omega
theorem Gu:dD Tryz.prog 204 Yy:=dy (by
 intro xs v h;unfold aby at h
 split at h
 . rename_i a0 a1 a2 a3;simp only[zak,zaT,true_and]at h;obtain rfl:=h;obtain⟨m,hm⟩:=Vz a0 a1 a2 a3;exact V1 m a0 a1 a2 a3 hm rfl
 . cases h)
theorem ac4 {n b p h:Int} (h1:0<=n) (h2:n<=1152921504606846976) (h3:0<=b) (h4:b<=1152921504606846976) (h5:1<=p) (h6:p<=1152921504606846976) (h7:0<=h) (h8:h<=2) (hz:n*b<=1152921504606846976):
 rX n b p h=true/\mdV n b p h=mdQ n b p h/\0<=mdQ n b p h/\mdQ n b p h<=n*b:=by
 have hz0:=za9 h1 h3;have e:=zbm (n*b) p;have r0:=zbz (n*b) (show p≠0 by omega);have r1:=zbk (n*b) (show 0<p by omega);have q0:0<=n*b/p:=zbG hz0 (by omega);have hle:0<=mdQ n b p h/\mdQ n b p h<=n*b:=by
  unfold mdQ rJ;generalize n*b=z at*
  generalize z/p=q at*
  generalize z%p=r at*
  split
  . rename_i hu;simp only[zbj,zae,zaI,zag]at hu;have hr:1<=r:=by omega
    have hp:2<=p:=by omega
    have:2*q<=p*q:=za6 hp q0;omega
  . have:1*q<=p*q:=za6 h5 q0;omega
 have hok:rX n b p h=true:=by rw[Mn h1 h2 h3 h4 h5 h6 h7 h8];simp;omega
 exact⟨hok,by simp[mdV,hok],hle⟩
theorem Zp (n b p:Int):mdQ n b p 0=n*b/p:=by simp[mdQ,rJ]
def EY (y:Int):Bool:=y.tmod 4==0&&(y.tmod 100 !=0||y.tmod 400==0)
def ach:List Sc->Option (Bool × Value)
 |[.i a0]=>some (true,.bool (EY a0))
 |_=>none
def acG:List Value->Option (Bool × Value):=kN [.int .i64] ach
def t231 (m:Nat) (a0:Int):Option Value:=
 bif (a0.tmod 4)==0 then
  bif (a0.tmod 100) !=0 then
   some (.bool true)
  else
   some (.bool ((a0.tmod 400)==0))
 else
  some (.bool false)
def acb:Tab:=gT []
theorem IM:bp.right Tryz.prog acb:=cN az
theorem aem (m:Nat) (a0:Int):gA Tryz.prog acb (fun _=>true) (dt Tryz.prog 231) [.int .i64 a0] (kks (dt Tryz.prog 231).results.toList Tryz.prog [])=t231 m a0:=by kernel_rfl
theorem US (m:Nat) (a0:Int) {v:Value} (h:t231 m a0=some v) (hv:eI v=true):eG Tryz.prog 231 [.int .i64 a0] v:=
 cM (S:=[]) Seat.mix Seat.names IM (by kernel_rfl) (by kernel_rfl) (by kernel_rfl)
  az ((aem m a0).trans h) rfl hv
theorem TZ (a0:Int):∃m,t231 m a0=some (.bool (EY a0)):=by
 refine⟨0, ?_⟩;unfold t231 EY;cases (a0.tmod 4==0)<;>cases (a0.tmod 100 !=0)<;>rfl
theorem Q6:dD Tryz.prog 231 acG:=dy (by
 intro xs v h;unfold ach at h
 split at h
 . rename_i a0;simp only[zak,zaT,true_and]at h;obtain rfl:=h;obtain⟨m,hm⟩:=TZ a0;exact US m a0 hm rfl
 . cases h)
def dC (y m:Int):Int:=
 if y<1\/y>9999\/m<1\/m>12 then 0
 else if m=2 then(if EY y then 29 else 28)
 else if m=4\/m=6\/m=9\/m=11 then 30 else 31
theorem ir (y m:Int):0<=dC y m/\dC y m<=31:=by
 unfold dC;repeat' split
 all_goals omega
def ac7:List Sc->Option (Bool × Value)
 |[.i a0,.i a1]=>some (true,.int .i64 (dC a0 a1))
 |_=>none
def UZ:List Value->Option (Bool × Value):=kN [.int .i64,.int .i64] ac7
def t222 (m:Nat) (a0:Int) (a1:Int):Option Value:=
 bif decide (a0<1)then
  some (.int .i64 0)
 else
  bif decide (a0>9999)then
   some (.int .i64 0)
  else
   bif decide (a1<1)then
    some (.int .i64 0)
   else
    bif decide (a1>12)then
     some (.int .i64 0)
    else
     bif a1==2 then
      bif (EY a0)then
       some (.int .i64 29)
      else
       bif a1==2 then
        some (.int .i64 28)
       else
        bif a1==4 then
         some (.int .i64 30)
        else
         bif a1==6 then
          some (.int .i64 30)
         else
          bif a1==9 then
           some (.int .i64 30)
          else
           bif a1==11 then
            some (.int .i64 30)
           else
            some (.int .i64 31)
     else
      bif a1==2 then
       some (.int .i64 28)
      else
       bif a1==4 then
        some (.int .i64 30)
       else
        bif a1==6 then
         some (.int .i64 30)
        else
         bif a1==9 then
          some (.int .i64 30)
         else
          bif a1==11 then
           some (.int .i64 30)
          else
           some (.int .i64 31)
def abW:Tab:=gT [(231,acG)]
theorem KD:bp.right Tryz.prog abW:=cN (aI Q6 az)
theorem ae4 (m:Nat) (a0:Int) (a1:Int):gA Tryz.prog abW (fun _=>true) (dt Tryz.prog 222) [.int .i64 a0,.int .i64 a1] (kks (dt Tryz.prog 222).results.toList Tryz.prog [])=t222 m a0 a1:=by kernel_rfl
theorem UF (m:Nat) (a0:Int) (a1:Int) {v:Value} (h:t222 m a0 a1=some v) (hv:eI v=true):eG Tryz.prog 222 [.int .i64 a0,.int .i64 a1] v:=
 cM (S:=[]) Seat.mix Seat.names KD (by kernel_rfl) (by kernel_rfl) (by kernel_rfl)
  az ((ae4 m a0 a1).trans h) rfl hv
theorem U6 (a0:Int) (a1:Int):∃m,t222 m a0 a1=some (.int .i64 (dC a0 a1)):=by
 refine⟨0, ?_⟩;unfold t222 dC;simp only[zaI,Bool.cond_eq_ite]
 grind
theorem Bx:dD Tryz.prog 222 UZ:=dy (by
 intro xs v h;unfold ac7 at h
 split at h
 . rename_i a0 a1;simp only[zak,zaT,true_and]at h;obtain rfl:=h;obtain⟨m,hm⟩:=U6 a0 a1;exact UF m a0 a1 hm rfl
 . cases h)
def cD (y m d:Int):Bool:=decide (d>=1/\d<=dC y m)
theorem eJ {y m d:Int}:cD y m d=true↔1<=d/\d<=dC y m:=by simp[cD]
theorem fY {y m d:Int} (h:cD y m d=true):1<=y/\y<=9999/\1<=m/\m<=12:=by
 obtain⟨h1,h2⟩:=eJ.1 h;unfold dC at h2
 split at h2<;>omega
def ab2:List Sc->Option (Bool × Value)
 |[.i a0,.i a1,.i a2]=>some (true,.bool (cD a0 a1 a2))
 |_=>none
def VA:List Value->Option (Bool × Value):=kN [.agg [some .i64,some .i64,some .i64]] ab2
def t221 (m:Nat) (a0:Int) (a1:Int) (a2:Int):Option Value:=
 bif decide (a2>=1)then
  some (.bool (decide (a2<=(dC a0 a1))))
 else
  some (.bool false)
def abb:Tab:=gT [(222,UZ)]
theorem IF:bp.right Tryz.prog abb:=cN (aI Bx az)
theorem aeZ (m:Nat) (a0:Int) (a1:Int) (a2:Int):gA Tryz.prog abb (fun _=>true) (dt Tryz.prog 221) [.agg #[.int .i64 a0,.int .i64 a1,.int .i64 a2]] (kks (dt Tryz.prog 221).results.toList Tryz.prog [])=t221 m a0 a1 a2:=by kernel_rfl
theorem VB (m:Nat) (a0:Int) (a1:Int) (a2:Int) {v:Value} (h:t221 m a0 a1 a2=some v) (hv:eI v=true):eG Tryz.prog 221 [.agg #[.int .i64 a0,.int .i64 a1,.int .i64 a2]] v:=
 cM (S:=[]) Seat.mix Seat.names IF (by kernel_rfl) (by kernel_rfl) (by kernel_rfl)
  az ((aeZ m a0 a1 a2).trans h) rfl hv
theorem Uj (a0:Int) (a1:Int) (a2:Int):∃m,t221 m a0 a1 a2=some (.bool (cD a0 a1 a2)):=by
 refine⟨0, ?_⟩;unfold t221 cD
 by_cases h:a2>=1<;>simp[h]
theorem AE:dD Tryz.prog 221 VA:=dy (by
 intro xs v h;unfold ab2 at h
 split at h
 . rename_i a0 a1 a2;simp only[zak,zaT,true_and]at h;obtain rfl:=h;obtain⟨m,hm⟩:=Uj a0 a1 a2;exact VB m a0 a1 a2 hm rfl
 . cases h)
def fD (y:Int):Int:=(y-1)*365+(y-1)/4-(y-1)/100+(y-1)/400
def Bh (y:Int):Int:=
 let x1:Int:=(IntKind.i64.wrap (y-1))
 IntKind.i64.wrap ((IntKind.i64.wrap ((IntKind.i64.wrap ((IntKind.i64.wrap (x1*365))+(IntKind.i64.wrap (x1.tdiv 4))))-(IntKind.i64.wrap (x1.tdiv 100))))+(IntKind.i64.wrap (x1.tdiv 400)))
theorem Ob {y:Int} (h1:1<=y) (h2:y<=20000):Bh y=fD y:=by
 unfold Bh fD;rw[wr (n:=y-1) (by omega) (by omega)];simp only[td _ (show 0<=y-1 by omega)];rw[wr (n:=(y-1)*365) (by omega) (by omega),wr (n:=(y-1)/4) (by omega) (by omega),wr (n:=(y-1)/100) (by omega) (by omega),wr (n:=(y-1)/400) (by omega) (by omega)];rw[wr (n:=(y-1)*365+(y-1)/4) (by omega) (by omega),wr (n:=(y-1)*365+(y-1)/4-(y-1)/100) (by omega) (by omega),wr (by omega) (by omega)]
def jn (y:Int):Int:=if EY y then 1 else 0
theorem sH (y:Int):0<=jn y/\jn y<=1:=by unfold jn;split<;>omega
theorem HX {y:Int} (h:1<=y):EY y=true↔(y%4=0/\(y%100≠0\/y%400=0)):=by
 unfold EY;simp[tm _ (show 0<=y by omega)]
theorem sh {y:Int} (h:1<=y):fD (y+1)=fD y+365+jn y:=by
 unfold fD jn
 by_cases hl:EY y=true
 . rw[if_pos hl];have:=(HX h).1 hl;omega
 . rw[if_neg hl];have:¬(y%4=0/\(y%100≠0\/y%400=0)):=fun h'=>hl ((HX h).2 h')
   omega
def before (y m:Int):Int:=
 if m<=1 then 0 else if m=2 then 31 else if m=3 then 59+jn y else if m=4 then 90+jn y else if m=5 then 120+jn y else if m=6 then 151+jn y
 else if m=7 then 181+jn y else if m=8 then 212+jn y else if m=9 then 243+jn y else if m=10 then 273+jn y else if m=11 then 304+jn y else if m=12 then 334+jn y else 365+jn y
theorem xo {m:Int} (h1:1<=m) (h2:m<=12):m=1\/m=2\/m=3\/m=4\/m=5\/m=6\/m=7\/m=8\/m=9\/m=10\/m=11\/m=12:=by omega
theorem qb {y m:Int} (hy:1<=y) (hy':y<=9999) (h1:1<=m) (h2:m<=12):before y (m+1)=before y m+dC y m:=by
 have:=sH y;unfold before dC;rw[if_neg (by omega)];unfold jn;rcases xo h1 h2 with rfl|rfl|rfl|rfl|rfl|rfl|rfl|rfl|rfl|rfl|rfl|rfl<;>simp[show ¬y<1 by omega,show ¬9999<y by omega]<;>(try split)<;>omega
theorem No {y m:Int}:0<=before y m/\before y m<=366:=by
 have:=sH y
 by_cases h1:m<=1
 . simp[before,h1]
 by_cases h2:m<=12
 . rcases xo (by omega) h2 with rfl|rfl|rfl|rfl|rfl|rfl|rfl|rfl|rfl|rfl|rfl|rfl<;>simp[before]<;>omega
 . have:before y m=365+jn y:=by
    simp[before,h1,show m≠2 by omega,show m≠3 by omega,show m≠4 by omega,show m≠5 by omega,show m≠6 by omega,show m≠7 by omega,show m≠8 by omega,show m≠9 by omega,show m≠10 by omega,show m≠11 by omega,show m≠12 by omega]
   omega
def aaB:List Sc->Option (Bool × Value)
 |[.i a0]=>some (true,.int .i64 (Bh a0))
 |_=>none
def acp:List Value->Option (Bool × Value):=kN [.int .i64] aaB
def t232 (m:Nat) (a0:Int):Option Value:=
 let x1:Int:=(IntKind.i64.wrap (a0-1))
 some (.int .i64 (IntKind.i64.wrap ((IntKind.i64.wrap ((IntKind.i64.wrap ((IntKind.i64.wrap (x1*365))+(IntKind.i64.wrap (x1.tdiv 4))))-(IntKind.i64.wrap (x1.tdiv 100))))+(IntKind.i64.wrap (x1.tdiv 400)))))
def aaV:Tab:=gT []
theorem J2:bp.right Tryz.prog aaV:=cN az
theorem aex (m:Nat) (a0:Int):gA Tryz.prog aaV (fun _=>true) (dt Tryz.prog 232) [.int .i64 a0] (kks (dt Tryz.prog 232).results.toList Tryz.prog [])=t232 m a0:=by kernel_rfl
theorem Vu (m:Nat) (a0:Int) {v:Value} (h:t232 m a0=some v) (hv:eI v=true):eG Tryz.prog 232 [.int .i64 a0] v:=
 cM (S:=[]) Seat.mix Seat.names J2 (by kernel_rfl) (by kernel_rfl) (by kernel_rfl)
  az ((aex m a0).trans h) rfl hv
theorem Wj (a0:Int):∃m,t232 m a0=some (.int .i64 (Bh a0)):=by
 exact⟨0,rfl⟩
theorem Q0:dD Tryz.prog 232 acp:=dy (by
 intro xs v h;unfold aaB at h
 split at h
 . rename_i a0;simp only[zak,zaT,true_and]at h;obtain rfl:=h;obtain⟨m,hm⟩:=Wj a0;exact Vu m a0 hm rfl
 . cases h)
def number (y m d:Int):Int:=if cD y m d then fD y+before y m+d-1 else-1
def abd:List Sc->Option (Bool × Value)
 |[.i a0,.i a1,.i a2]=>some (true,.int .i64 (number a0 a1 a2))
 |_=>none
def Yj:List Value->Option (Bool × Value):=kN [.agg [some .i64,some .i64,some .i64]] abd
def ow (m:Nat) (k:List Sc->Option Value):List Sc->Option Value
 |[.i a0,.i a1,.i a2,.i a3,.i a4]=>
  bif decide (a1<a3)then
   k [.i (IntKind.i64.wrap (a0+(dC a2 a1))),.i (IntKind.i64.wrap (a1+1)),.i a2,.i a3,.i a4]
  else
   some (.int .i64 a0)
 |_=>none
def rI (m:Nat):Nat->List Sc->Option Value:=iter (ow m)
theorem Ia (m:Nat) (n:Nat):rI m (n+1)=ow m (rI m n):=rfl
def qp (F:List Sc->Option Value):Stop:=⟨[.lp [0,1,0,1,1,1],.blk 0,.code [1,1,1,1]],⟨28,[(1,.lit (.pointer (some ⟨0,0,none⟩))),(3,.int .i64),(4,.int .i64)],1,(.n (some [.int .i64,.int .i64,.int .i64]) .e .e)⟩,F⟩
def t225 (m:Nat) (a0:Int) (a1:Int) (a2:Int):Option Value:=
 bif !(cD a0 a1 a2)then
  some (.int .i64 (-1))
 else
  rI m m [.i (IntKind.i64.wrap ((IntKind.i64.wrap ((Bh a0)+a2))-1)),.i 1,.i a0,.i a1,.i a2]
def Ud:Tab:=gT [(221,VA),(222,UZ),(232,acp)]
theorem IN:bp.right Tryz.prog Ud:=cN (aI AE (aI Bx (aI Q0 az)))
theorem Yh (m:Nat) (k:List Sc->Option Value) (g:Nat->Value) (a0:Int) (a1:Int) (a2:Int) (a3:Int) (a4:Int):nZ Tryz.prog Ud (fun _=>true) (j5 (dt Tryz.prog 225)) [0,1,0,1,1,1] [.blk 0,.code [1,1,1,1]] (qp k).pat g [.i a0,.i a1,.i a2,.i a3,.i a4] (kks (dt Tryz.prog 225).results.toList Tryz.prog [qp k])=ow m k [.i a0,.i a1,.i a2,.i a3,.i a4]:=by kernel_rfl
theorem Y6 {m:Nat} {k:List Sc->Option Value} {xs:List Sc} {v:Value} (h:ow m k xs=some v):∃a0 a1 a2 a3 a4,xs=[.i a0,.i a1,.i a2,.i a3,.i a4]:=by
 unfold ow at h
 split at h
 . exact⟨_,_,_,_,_,rfl⟩
 . cases h
theorem Xp (m:Nat):∀n,(qp (rI m n)).gL Tryz.prog [] (cw Ud) (dt Tryz.prog 225).results.toList (j5 (dt Tryz.prog 225)):=
 Stop.iter (mk:=qp) (Fs:=ow m) (S:=fun k=>[qp k]) (p:=[0,1,0,1,1,1]) (rest:=[.blk 0,.code [1,1,1,1]]) (pat:=(qp (fun _=>none)).pat) (stop:=fun _=>true)
  (fun _=>rfl) (fun _=>rfl) (fun _=>rfl) (by kernel_rfl) (by kernel_rfl)
  (fun k h=>(aI h az))
  (fun k g xs v h=>by
   obtain⟨a0,a1,a2,a3,a4,rfl⟩:=Y6 h;exact(Yh m k g a0 a1 a2 a3 a4).trans h)
theorem aek (m:Nat) (a0:Int) (a1:Int) (a2:Int):gA Tryz.prog Ud (fun _=>true) (dt Tryz.prog 225) [.agg #[.int .i64 a0,.int .i64 a1,.int .i64 a2]] (kks (dt Tryz.prog 225).results.toList Tryz.prog [qp (rI m m)])=t225 m a0 a1 a2:=by kernel_rfl
theorem TK (m:Nat) (a0:Int) (a1:Int) (a2:Int) {v:Value} (h:t225 m a0 a1 a2=some v) (hv:eI v=true):eG Tryz.prog 225 [.agg #[.int .i64 a0,.int .i64 a1,.int .i64 a2]] v:=
 cM (S:=[qp (rI m m)]) Seat.mix Seat.names IN (by kernel_rfl) (by kernel_rfl) (by kernel_rfl)
  (aI (Xp m m) az) ((aek m a0 a1 a2).trans h) rfl hv
theorem VJ (a0:Int) (a1:Int) (a2:Int):∃m,t225 m a0 a1 a2=some (.int .i64 (number a0 a1 a2)):=by
 refine⟨13, ?_⟩;have key:∀(k:Nat) (j a:Int),cD a0 a1 a2=true->1<=j->j<=a1->a1-j<k->0<=a->a<=100000000+31*j->rI 13 k [.i a,.i j,.i a0,.i a1,.i a2]=some (.int .i64 (a+before a0 a1-before a0 j)):=by
  intro k
  induction k with
  |zero=>intro j a hr h1 h2 h3 h4 h5;omega
  |succ k ih=>
   intro j a hr h1 h2 h3 h4 h5;obtain⟨hy1,hy2,hm1,hm2⟩:=fY hr;have hl:=ir a0 j;rw[Ia];unfold ow
   by_cases hj:j<a1
   . simp only[hj,za3,zaw];rw[wr (n:=a+dC a0 j) (by omega) (by omega),wr (n:=j+1) (by omega) (by omega),ih _ _ hr (by omega) (by omega) (by omega) (by omega) (by omega),qb hy1 hy2 h1 (by omega)]
     congr 2;omega
   . have:j=a1:=by omega
     subst this;simp only[hj,zaY,zal]
     congr 2;omega
 unfold t225 number
 by_cases hr:cD a0 a1 a2=true
 . obtain⟨hy1,hy2,hm1,hm2⟩:=fY hr;obtain⟨hd1,hd2⟩:=eJ.1 hr;have:=ir a0 a1;have ha:0<=fD a0/\fD a0<=10000000:=by unfold fD;omega
   rw[hr,if_pos rfl,Ob hy1 (by omega),wr (n:=fD a0+a2) (by omega) (by omega),wr (n:=fD a0+a2-1) (by omega) (by omega)];simp only[zbr,zal];rw[key 13 1 _ hr (by omega) hm1 (by omega) (by omega) (by omega)];simp only[before]
   congr 2
   simp;omega
 . simp only[Bool.not_eq_true]at hr;simp[hr]
theorem F7:dD Tryz.prog 225 Yj:=dy (by
 intro xs v h;unfold abd at h
 split at h
 . rename_i a0 a1 a2;simp only[zak,zaT,true_and]at h;obtain rfl:=h;obtain⟨m,hm⟩:=VJ a0 a1 a2;exact TK m a0 a1 a2 hm rfl
 . cases h)
def aa5:List Sc->Option (Bool × Value)
 |[.i a0,.i a1,.i a2,.i a3,.i a4,.i a5]=>some (true,.bool (decide (number a0 a1 a2<number a3 a4 a5)))
 |_=>none
def acC:List Value->Option (Bool × Value):=kN [.agg [some .i64,some .i64,some .i64],.agg [some .i64,some .i64,some .i64]] aa5
def t223 (m:Nat) (a0:Int) (a1:Int) (a2:Int) (a3:Int) (a4:Int) (a5:Int):Option Value:=
 some (.bool (decide ((number a0 a1 a2)<(number a3 a4 a5))))
def abq:Tab:=gT [(225,Yj)]
theorem JF:bp.right Tryz.prog abq:=cN (aI F7 az)
theorem aeK (m:Nat) (a0:Int) (a1:Int) (a2:Int) (a3:Int) (a4:Int) (a5:Int):gA Tryz.prog abq (fun _=>true) (dt Tryz.prog 223) [.agg #[.int .i64 a0,.int .i64 a1,.int .i64 a2],.agg #[.int .i64 a3,.int .i64 a4,.int .i64 a5]] (kks (dt Tryz.prog 223).results.toList Tryz.prog [])=t223 m a0 a1 a2 a3 a4 a5:=by kernel_rfl
theorem Tx (m:Nat) (a0:Int) (a1:Int) (a2:Int) (a3:Int) (a4:Int) (a5:Int) {v:Value} (h:t223 m a0 a1 a2 a3 a4 a5=some v) (hv:eI v=true):eG Tryz.prog 223 [.agg #[.int .i64 a0,.int .i64 a1,.int .i64 a2],.agg #[.int .i64 a3,.int .i64 a4,.int .i64 a5]] v:=
 cM (S:=[]) Seat.mix Seat.names JF (by kernel_rfl) (by kernel_rfl) (by kernel_rfl)
  az ((aeK m a0 a1 a2 a3 a4 a5).trans h) rfl hv
theorem Tt (a0:Int) (a1:Int) (a2:Int) (a3:Int) (a4:Int) (a5:Int):∃m,t223 m a0 a1 a2 a3 a4 a5=some (.bool (decide (number a0 a1 a2<number a3 a4 a5))):=by
 exact⟨0,rfl⟩
theorem Se:dD Tryz.prog 223 acC:=dy (by
 intro xs v h;unfold aa5 at h
 split at h
 . rename_i a0 a1 a2 a3 a4 a5;simp only[zak,zaT,true_and]at h;obtain rfl:=h;obtain⟨m,hm⟩:=Tt a0 a1 a2 a3 a4 a5;exact Tx m a0 a1 a2 a3 a4 a5 hm rfl
 . cases h)
theorem we {y:Int}:∀(k:Nat) (a:Int),1<=y->y<=9999->1<=a->a+k<=13->before y a<=before y (a+k)
 |0,a,_,_,_,_=>by simp
 |k+1,a,h1,h2,h3,h4=>by
  have:=we k a h1 h2 h3 (by omega);have:=qb h1 h2 (m:=a+k) (by omega) (by omega);have:=ir y (a+k);have:a+((k+1:Nat):Int)=a+k+1:=by omega
  rw[this];omega
theorem E5 {y a b:Int} (h1:1<=y) (h2:y<=9999) (h3:1<=a) (h:a<=b) (h4:b<=13):before y a<=before y b:=by
 have:=we (b-a).toNat a h1 h2 h3 (by omega)
 rwa [show a+((b-a).toNat:Int)=b by omega]at this
theorem HQ {y:Int} (h1:1<=y) (h2:y<=20000):0<=fD y/\fD y<=10000000:=by unfold fD;omega
def jc (y m d n:Int):Bool:=cD y m d&&decide (12<=12*y+m-1+n/\12*y+m-1+n<120000)
def gS (y m d n:Int):Int:=if jc y m d n then(12*y+m-1+n)/12 else 0
def gQ (y m d n:Int):Int:=if jc y m d n then(12*y+m-1+n)%12+1 else 0
def iZ (y m d n:Int):Int:=if jc y m d n then min d (dC ((12*y+m-1+n)/12) ((12*y+m-1+n)%12+1))else 0
theorem YY (a b:Int):(if b<a then b else a)=min a b:=by omega
theorem pZ {y m:Int} (h1:1<=y) (h2:y<=9999) (h3:1<=m) (h4:m<=12):28<=dC y m:=by
 unfold dC
 repeat' split
 all_goals omega
def aaC:List Sc->Option (Bool × Value)
 |[.i a0,.i a1,.i a2,.i a3]=>some (true,.agg #[.int .i64 (gS a0 a1 a2 a3),.int .i64 (gQ a0 a1 a2 a3),.int .i64 (iZ a0 a1 a2 a3)])
 |_=>none
def aaG:List Value->Option (Bool × Value):=kN [.agg [some .i64,some .i64,some .i64],.int .i64] aaC
def t202 (m:Nat) (a0:Int) (a1:Int) (a2:Int) (a3:Int):Option Value:=
 bif !(cD a0 a1 a2)then
  some (.agg #[.int .i64 0,.int .i64 0,.int .i64 0])
 else
  bif decide (a3<(-119988))then
   some (.agg #[.int .i64 0,.int .i64 0,.int .i64 0])
  else
   bif decide (a3>119988)then
    some (.agg #[.int .i64 0,.int .i64 0,.int .i64 0])
   else
    let x5:Int:=(IntKind.i64.wrap ((IntKind.i64.wrap ((IntKind.i64.wrap ((IntKind.i64.wrap ((IntKind.i64.wrap (a0-1))*12))+a1))-1))+a3))
    bif decide (x5<0)then
     some (.agg #[.int .i64 0,.int .i64 0,.int .i64 0])
    else
     let x7:Int:=(IntKind.i64.wrap ((IntKind.i64.wrap (x5.tdiv 12))+1))
     let x8:Int:=(IntKind.i64.wrap ((x5.tmod 12)+1))
     let x9:Int:=(if (dC x7 x8)<a2 then(dC x7 x8)else a2)
     bif !(cD x7 x8 x9)then
      some (.agg #[.int .i64 0,.int .i64 0,.int .i64 0])
     else
      some (.agg #[.int .i64 x7,.int .i64 x8,.int .i64 x9])
def abf:Tab:=gT [(221,VA),(222,UZ)]
theorem It:bp.right Tryz.prog abf:=cN (aI AE (aI Bx az))
theorem aeu (m:Nat) (a0:Int) (a1:Int) (a2:Int) (a3:Int):gA Tryz.prog abf (fun _=>true) (dt Tryz.prog 202) [.agg #[.int .i64 a0,.int .i64 a1,.int .i64 a2],.int .i64 a3] (kks (dt Tryz.prog 202).results.toList Tryz.prog [])=t202 m a0 a1 a2 a3:=by kernel_rfl
theorem TC (m:Nat) (a0:Int) (a1:Int) (a2:Int) (a3:Int) {v:Value} (h:t202 m a0 a1 a2 a3=some v) (hv:eI v=true):eG Tryz.prog 202 [.agg #[.int .i64 a0,.int .i64 a1,.int .i64 a2],.int .i64 a3] v:=
 cM (S:=[]) Seat.mix Seat.names It (by kernel_rfl) (by kernel_rfl) (by kernel_rfl)
  az ((aeu m a0 a1 a2 a3).trans h) rfl hv
theorem TP (a0:Int) (a1:Int) (a2:Int) (a3:Int):∃m,t202 m a0 a1 a2 a3=some (.agg #[.int .i64 (gS a0 a1 a2 a3),.int .i64 (gQ a0 a1 a2 a3),.int .i64 (iZ a0 a1 a2 a3)]):=by
 refine⟨0, ?_⟩;unfold t202 gS gQ iZ
 by_cases hr:cD a0 a1 a2=true
 . obtain⟨y1,y2,m1,m2⟩:=fY hr;obtain⟨d1,d2⟩:=eJ.1 hr
   by_cases hk:12<=12*a0+a1-1+a3/\12*a0+a1-1+a3<120000
   . have hs:jc a0 a1 a2 a3=true:=by simp[jc,hr,hk]
     simp only[hr,hs,zbh,zbr,zal];rw[wr (n:=a0-1) (by omega) (by omega),wr (n:=(a0-1)*12) (by omega) (by omega),wr (n:=(a0-1)*12+a1) (by omega) (by omega),wr (n:=(a0-1)*12+a1-1) (by omega) (by omega),wr (n:=(a0-1)*12+a1-1+a3) (by omega) (by omega)];simp only[td _ (show 0<=(a0-1)*12+a1-1+a3 by omega),tm _ (show 0<=(a0-1)*12+a1-1+a3 by omega)];rw[wr (n:=((a0-1)*12+a1-1+a3)/12) (by omega) (by omega),wr (n:=((a0-1)*12+a1-1+a3)/12+1) (by omega) (by omega),wr (n:=((a0-1)*12+a1-1+a3)%12+1) (by omega) (by omega)];rw[show((a0-1)*12+a1-1+a3)/12+1=(12*a0+a1-1+a3)/12 by omega,show((a0-1)*12+a1-1+a3)%12=(12*a0+a1-1+a3)%12 by omega,YY];have hl:=pZ (y:=(12*a0+a1-1+a3)/12) (m:=(12*a0+a1-1+a3)%12+1) (by omega) (by omega) (by omega) (by omega);have hR:cD ((12*a0+a1-1+a3)/12) ((12*a0+a1-1+a3)%12+1) (min a2 (dC ((12*a0+a1-1+a3)/12) ((12*a0+a1-1+a3)%12+1)))=true:=eJ.2 ⟨by omega,by omega⟩;simp[hR,show ¬a3< -119988 by omega,show ¬a3>119988 by omega,show ¬(a0-1)*12+a1-1+a3<0 by omega]
   . have hs:jc a0 a1 a2 a3=false:=by simp[jc,hr];omega
     simp only[hr,hs,zb9,zbp,zbr,zal]
     by_cases h1:a3< -119988
     . simp[h1]
     by_cases h2:a3>119988
     . simp[h2]
     rw[wr (n:=a0-1) (by omega) (by omega),wr (n:=(a0-1)*12) (by omega) (by omega),wr (n:=(a0-1)*12+a1) (by omega) (by omega),wr (n:=(a0-1)*12+a1-1) (by omega) (by omega),wr (n:=(a0-1)*12+a1-1+a3) (by omega) (by omega)]
     by_cases h3:(a0-1)*12+a1-1+a3<0
     . simp[h1,h2,h3]
     simp only[td _ (show 0<=(a0-1)*12+a1-1+a3 by omega),tm _ (show 0<=(a0-1)*12+a1-1+a3 by omega)];rw[wr (n:=((a0-1)*12+a1-1+a3)/12) (by omega) (by omega),wr (n:=((a0-1)*12+a1-1+a3)/12+1) (by omega) (by omega),wr (n:=((a0-1)*12+a1-1+a3)%12+1) (by omega) (by omega)];have hy:9999<((a0-1)*12+a1-1+a3)/12+1:=by omega
     have hz:∀d,cD (((a0-1)*12+a1-1+a3)/12+1) (((a0-1)*12+a1-1+a3)%12+1) d=false:=by
      intro d;cases hh:cD (((a0-1)*12+a1-1+a3)/12+1) (((a0-1)*12+a1-1+a3)%12+1) d with
      |false=>rfl
      |true=>have:=fY hh;omega
     simp[h1,h2,h3,hz]
 . simp only[Bool.not_eq_true]at hr;have hs:jc a0 a1 a2 a3=false:=by simp[jc,hr]
   simp[hr,hs]
theorem RK:dD Tryz.prog 202 aaG:=dy (by
 intro xs v h;unfold aaC at h
 split at h
 . rename_i a0 a1 a2 a3;simp only[zak,zaT,true_and]at h;obtain rfl:=h;obtain⟨m,hm⟩:=TP a0 a1 a2 a3;exact TC m a0 a1 a2 a3 hm rfl
 . cases h)
theorem vK {y m d:Int} (h:cD y m d=true):fD y<=number y m d/\number y m d<fD (y+1)/\fD y+before y m<=number y m d/\number y m d<fD y+before y (m+1)/\number y m d=fD y+before y m+d-1:=by
 obtain⟨y1,y2,m1,m2⟩:=fY h;obtain⟨d1,d2⟩:=eJ.1 h;have e:number y m d=fD y+before y m+d-1:=by unfold number;rw[if_pos h]
 have hb:=No (y:=y) (m:=m);have hn:=qb y1 y2 m1 m2;have ha:=sh y1;have h13:before y 13=365+jn y:=by simp[before]
 have:=E5 (a:=m+1) (b:=13) y1 y2 (by omega) (by omega) (by omega);omega
theorem mS (a b:Int):(if b<a then b else a)=min a b:=by omega
theorem lW {y m d:Int} (h:cD y m d=true):0<=number y m d/\number y m d<=10000000:=by
 have h1:=vK h;have h2:=fY h;have h3:=HQ (y:=y) (by omega) (by omega);have h4:=HQ (y:=y+1) (by omega) (by omega);omega
def com (y m d y' m' d':Int):Int:=360*(y'-y)+30*(m'-m)+(if min d 30=30 then min d' 30 else d')-min d 30
def mI (b y m d y' m' d':Int):Int:=
 if cD y m d=true/\cD y' m' d'=true/\number y m d<=number y' m' d' then(if b=0 then com y m d y' m' d' else if b=1\/b=2 then number y' m' d'-number y m d else 0)else 0
def Bg (b:Int):Int:=if b=2 then 365 else 360
theorem OD (b y m d y' m' d':Int): -10000000<=mI b y m d y' m' d'/\mI b y m d y' m' d'<=10000000:=by
 unfold mI
 split
 . rename_i h;obtain⟨h1,h2,h3⟩:=h;have n1:=lW h1;have n2:=lW h2;have y1:=fY h1;have y2:=fY h2;have u1:=eJ.1 h1;have u2:=eJ.1 h2;have l1:=ir y m;have l2:=ir y' m'
   split
   . unfold com;split<;>omega
   . split<;>omega
 . omega
def ack:List Sc->Option (Bool × Value)
 |[.i a0,.i a1,.i a2,.i a3,.i a4,.i a5,.i a6]=>some (true,.tuple #[.int .i64 (mI a0 a1 a2 a3 a4 a5 a6),.int .i64 (Bg a0)])
 |_=>none
def aax:List Value->Option (Bool × Value):=kN [.int .i64,.agg [some .i64,some .i64,some .i64],.agg [some .i64,some .i64,some .i64]] ack
def t203 (m:Nat) (a0:Int) (a1:Int) (a2:Int) (a3:Int) (a4:Int) (a5:Int) (a6:Int):Option Value:=
 bif a0==2 then
  bif !(cD a1 a2 a3)then
   some (.tuple #[.int .i64 0,.int .i64 365])
  else
   bif !(cD a4 a5 a6)then
    some (.tuple #[.int .i64 0,.int .i64 365])
   else
    bif (decide (number a4 a5 a6<number a1 a2 a3))then
     some (.tuple #[.int .i64 0,.int .i64 365])
    else
     bif a0==0 then
      let x2:Int:=(if 30<a3 then 30 else a3)
      bif x2==30 then
       some (.tuple #[.int .i64 (IntKind.i64.wrap ((IntKind.i64.wrap ((IntKind.i64.wrap ((IntKind.i64.wrap (360*(IntKind.i64.wrap (a4-a1))))+(IntKind.i64.wrap (30*(IntKind.i64.wrap (a5-a2))))))+(if 30<a6 then 30 else a6)))-x2)),.int .i64 365])
      else
       some (.tuple #[.int .i64 (IntKind.i64.wrap ((IntKind.i64.wrap ((IntKind.i64.wrap ((IntKind.i64.wrap (360*(IntKind.i64.wrap (a4-a1))))+(IntKind.i64.wrap (30*(IntKind.i64.wrap (a5-a2))))))+a6))-x2)),.int .i64 365])
     else
      bif a0==1 then
       bif a0==1 then
        some (.tuple #[.int .i64 (IntKind.i64.wrap ((number a4 a5 a6)-(number a1 a2 a3))),.int .i64 365])
       else
        some (.tuple #[.int .i64 0,.int .i64 365])
      else
       bif a0==2 then
        some (.tuple #[.int .i64 (IntKind.i64.wrap ((number a4 a5 a6)-(number a1 a2 a3))),.int .i64 365])
       else
        some (.tuple #[.int .i64 0,.int .i64 365])
 else
  bif !(cD a1 a2 a3)then
   some (.tuple #[.int .i64 0,.int .i64 360])
  else
   bif !(cD a4 a5 a6)then
    some (.tuple #[.int .i64 0,.int .i64 360])
   else
    bif (decide (number a4 a5 a6<number a1 a2 a3))then
     some (.tuple #[.int .i64 0,.int .i64 360])
    else
     bif a0==0 then
      let x21:Int:=(if 30<a3 then 30 else a3)
      bif x21==30 then
       some (.tuple #[.int .i64 (IntKind.i64.wrap ((IntKind.i64.wrap ((IntKind.i64.wrap ((IntKind.i64.wrap (360*(IntKind.i64.wrap (a4-a1))))+(IntKind.i64.wrap (30*(IntKind.i64.wrap (a5-a2))))))+(if 30<a6 then 30 else a6)))-x21)),.int .i64 360])
      else
       some (.tuple #[.int .i64 (IntKind.i64.wrap ((IntKind.i64.wrap ((IntKind.i64.wrap ((IntKind.i64.wrap (360*(IntKind.i64.wrap (a4-a1))))+(IntKind.i64.wrap (30*(IntKind.i64.wrap (a5-a2))))))+a6))-x21)),.int .i64 360])
     else
      bif a0==1 then
       bif a0==1 then
        some (.tuple #[.int .i64 (IntKind.i64.wrap ((number a4 a5 a6)-(number a1 a2 a3))),.int .i64 360])
       else
        some (.tuple #[.int .i64 0,.int .i64 360])
      else
       bif a0==2 then
        some (.tuple #[.int .i64 (IntKind.i64.wrap ((number a4 a5 a6)-(number a1 a2 a3))),.int .i64 360])
       else
        some (.tuple #[.int .i64 0,.int .i64 360])
def ab8:Tab:=gT [(221,VA),(223,acC),(225,Yj)]
theorem JL:bp.right Tryz.prog ab8:=cN (aI AE (aI Se (aI F7 az)))
theorem aes (m:Nat) (a0:Int) (a1:Int) (a2:Int) (a3:Int) (a4:Int) (a5:Int) (a6:Int):gA Tryz.prog ab8 (fun _=>true) (dt Tryz.prog 203) [.int .i64 a0,.agg #[.int .i64 a1,.int .i64 a2,.int .i64 a3],.agg #[.int .i64 a4,.int .i64 a5,.int .i64 a6]] (kks (dt Tryz.prog 203).results.toList Tryz.prog [])=t203 m a0 a1 a2 a3 a4 a5 a6:=by kernel_rfl
theorem UY (m:Nat) (a0:Int) (a1:Int) (a2:Int) (a3:Int) (a4:Int) (a5:Int) (a6:Int) {v:Value} (h:t203 m a0 a1 a2 a3 a4 a5 a6=some v) (hv:eI v=true):eG Tryz.prog 203 [.int .i64 a0,.agg #[.int .i64 a1,.int .i64 a2,.int .i64 a3],.agg #[.int .i64 a4,.int .i64 a5,.int .i64 a6]] v:=
 cM (S:=[]) Seat.mix Seat.names JL (by kernel_rfl) (by kernel_rfl) (by kernel_rfl)
  az ((aes m a0 a1 a2 a3 a4 a5 a6).trans h) rfl hv
theorem UO (a0:Int) (a1:Int) (a2:Int) (a3:Int) (a4:Int) (a5:Int) (a6:Int):∃m,t203 m a0 a1 a2 a3 a4 a5 a6=some (.tuple #[.int .i64 (mI a0 a1 a2 a3 a4 a5 a6),.int .i64 (Bg a0)]):=by
 refine⟨0, ?_⟩;unfold t203 mI Bg
 by_cases c2:a0=2
 . subst c2
   by_cases r1:cD a1 a2 a3=true
   . by_cases r2:cD a4 a5 a6=true
     . by_cases hn:number a4 a5 a6<number a1 a2 a3
       . simp[r1,r2,hn,show ¬number a1 a2 a3<=number a4 a5 a6 by omega]
       . have n1:=lW r1;have n2:=lW r2;rw[wr (n:=number a4 a5 a6-number a1 a2 a3) (by omega) (by omega)];simp[r1,r2,hn,show number a1 a2 a3<=number a4 a5 a6 by omega]
     . simp[r1,r2]
   . simp[r1]
 have c2':(a0==2)=false:=by simpa using c2
 simp only[c2',c2,zal,zbp]
 by_cases r1:cD a1 a2 a3=true
 . by_cases r2:cD a4 a5 a6=true
   . by_cases hn:number a4 a5 a6<number a1 a2 a3
     . by_cases d1:a0<0<;>by_cases d2:a0>2<;>simp[r1,r2,hn,d1,d2,show ¬number a1 a2 a3<=number a4 a5 a6 by omega]
     . have n1:=lW r1;have n2:=lW r2;have y1:=fY r1;have y2:=fY r2;have u1:=eJ.1 r1;have u2:=eJ.1 r2;have l1:=ir a1 a2;have l2:=ir a4 a5;rw[wr (n:=number a4 a5 a6-number a1 a2 a3) (by omega) (by omega)]
       by_cases c0:a0=0
       . subst c0;rw[wr (n:=a4-a1) (by omega) (by omega),wr (n:=a5-a2) (by omega) (by omega),wr (n:=360*(a4-a1)) (by omega) (by omega),wr (n:=30*(a5-a2)) (by omega) (by omega),wr (n:=360*(a4-a1)+30*(a5-a2)) (by omega) (by omega)];simp only[mS];rw[wr (n:=360*(a4-a1)+30*(a5-a2)+min a6 30) (by omega) (by omega),wr (n:=360*(a4-a1)+30*(a5-a2)+a6) (by omega) (by omega),wr (n:=360*(a4-a1)+30*(a5-a2)+min a6 30-min a3 30) (by omega) (by omega),wr (n:=360*(a4-a1)+30*(a5-a2)+a6-min a3 30) (by omega) (by omega)]
         by_cases c30:min a3 30=30
         . simp[r1,r2,hn,c30,com,show number a1 a2 a3<=number a4 a5 a6 by omega]
         . simp[r1,r2,hn,c30,show(min a3 30==30)=false by simpa using c30,com,show number a1 a2 a3<=number a4 a5 a6 by omega]
       by_cases c1:a0=1
       . subst c1;simp[r1,r2,hn,show number a1 a2 a3<=number a4 a5 a6 by omega]
       by_cases d1:a0<0
       . simp[r1,r2,hn,c0,c1,d1,c2,c2',show(a0==0)=false by simpa using c0,show(a0==1)=false by simpa using c1,show number a1 a2 a3<=number a4 a5 a6 by omega]
       . have d2:a0>2:=by omega
         simp[r1,r2,hn,c0,c1,d1,d2,c2,c2',show(a0==0)=false by simpa using c0,show(a0==1)=false by simpa using c1,show number a1 a2 a3<=number a4 a5 a6 by omega]
   . simp[r1,r2]
 . simp[r1]
theorem QC:dD Tryz.prog 203 aax:=dy (by
 intro xs v h;unfold ack at h
 split at h
 . rename_i a0 a1 a2 a3 a4 a5 a6;simp only[zak,zaT,true_and]at h;obtain rfl:=h;obtain⟨m,hm⟩:=UO a0 a1 a2 a3 a4 a5 a6;exact UY m a0 a1 a2 a3 a4 a5 a6 hm rfl
 . cases h)
def GQ (bal r b y m d y' m' d':Int):Int:=if 0<=r/\r<=5000 then mdV bal (r*mI b y m d y' m' d') (10000*Bg b) 2 else 0
def Qd (bal r b y m d y' m' d':Int):Bool:=decide (0<=r/\r<=5000)&&rX bal (r*mI b y m d y' m' d') (10000*Bg b) 2
def abX:List Sc->Option (Bool × Value)
 |[.i a0,.i a1,.i a2,.i a3,.i a4,.i a5,.i a6,.i a7,.i a8]=>some (true,.tuple #[.int .i64 (GQ a0 a1 a2 a3 a4 a5 a6 a7 a8),.bool (Qd a0 a1 a2 a3 a4 a5 a6 a7 a8)])
 |_=>none
def acn:List Value->Option (Bool × Value):=kN [.int .i64,.int .i64,.int .i64,.agg [some .i64,some .i64,some .i64],.agg [some .i64,some .i64,some .i64]] abX
def t179 (m:Nat) (a0:Int) (a1:Int) (a2:Int) (a3:Int) (a4:Int) (a5:Int) (a6:Int) (a7:Int) (a8:Int):Option Value:=
 bif decide (a1<0)then
  some (.tuple #[.int .i64 0,.bool false])
 else
  bif decide (a1>5000)then
   some (.tuple #[.int .i64 0,.bool false])
  else
   let x2:Int:=(IntKind.i64.wrap (a1*(mI a2 a3 a4 a5 a6 a7 a8)))
   let x3:Int:=(IntKind.i64.wrap (10000*(Bg a2)))
   some (.tuple #[.int .i64 (mdV a0 x2 x3 2),.bool (rX a0 x2 x3 2)])
def abI:Tab:=gT [(203,aax),(204,Yy)]
theorem Kb:bp.right Tryz.prog abI:=cN (aI QC (aI Gu az))
theorem aey (m:Nat) (a0:Int) (a1:Int) (a2:Int) (a3:Int) (a4:Int) (a5:Int) (a6:Int) (a7:Int) (a8:Int):gA Tryz.prog abI (fun _=>true) (dt Tryz.prog 179) [.int .i64 a0,.int .i64 a1,.int .i64 a2,.agg #[.int .i64 a3,.int .i64 a4,.int .i64 a5],.agg #[.int .i64 a6,.int .i64 a7,.int .i64 a8]] (kks (dt Tryz.prog 179).results.toList Tryz.prog [])=t179 m a0 a1 a2 a3 a4 a5 a6 a7 a8:=by kernel_rfl
theorem TL (m:Nat) (a0:Int) (a1:Int) (a2:Int) (a3:Int) (a4:Int) (a5:Int) (a6:Int) (a7:Int) (a8:Int) {v:Value} (h:t179 m a0 a1 a2 a3 a4 a5 a6 a7 a8=some v) (hv:eI v=true):eG Tryz.prog 179 [.int .i64 a0,.int .i64 a1,.int .i64 a2,.agg #[.int .i64 a3,.int .i64 a4,.int .i64 a5],.agg #[.int .i64 a6,.int .i64 a7,.int .i64 a8]] v:=
 cM (S:=[]) Seat.mix Seat.names Kb (by kernel_rfl) (by kernel_rfl) (by kernel_rfl)
  az ((aey m a0 a1 a2 a3 a4 a5 a6 a7 a8).trans h) rfl hv
theorem TX (a0:Int) (a1:Int) (a2:Int) (a3:Int) (a4:Int) (a5:Int) (a6:Int) (a7:Int) (a8:Int):∃m,t179 m a0 a1 a2 a3 a4 a5 a6 a7 a8=some (.tuple #[.int .i64 (GQ a0 a1 a2 a3 a4 a5 a6 a7 a8),.bool (Qd a0 a1 a2 a3 a4 a5 a6 a7 a8)]):=by
 refine⟨0, ?_⟩;unfold t179 GQ Qd
 by_cases c1:a1<0
 . simp[c1,show ¬(0<=a1/\a1<=5000) by omega]
 by_cases c2:a1>5000
 . simp[c1,c2,show ¬(0<=a1/\a1<=5000) by omega]
 have hd:=OD a2 a3 a4 a5 a6 a7 a8;have hp:Bg a2=360\/Bg a2=365:=by unfold Bg;split<;>simp
 have hm:=zb3 (show mI a2 a3 a4 a5 a6 a7 a8<=10000000 by omega) (show 0<=a1 by omega);have hm':=zb3 (show-10000000<=mI a2 a3 a4 a5 a6 a7 a8 by omega) (show 0<=a1 by omega);simp only[c1,c2,zaY,zal,show 0<=a1/\a1<=5000 by omega,and_self,zbh,za3,zbb];rw[wr (n:=a1*mI a2 a3 a4 a5 a6 a7 a8) (by omega) (by omega),wr (n:=10000*Bg a2) (by omega) (by omega)]
theorem Sw:dD Tryz.prog 179 acn:=dy (by
 intro xs v h;unfold abX at h
 split at h
 . rename_i a0 a1 a2 a3 a4 a5 a6 a7 a8;simp only[zak,zaT,true_and]at h;obtain rfl:=h;obtain⟨m,hm⟩:=TX a0 a1 a2 a3 a4 a5 a6 a7 a8;exact TL m a0 a1 a2 a3 a4 a5 a6 a7 a8 hm rfl
 . cases h)
end
end Go.Proofs.YtfaojedfnjdnnaaGreat
