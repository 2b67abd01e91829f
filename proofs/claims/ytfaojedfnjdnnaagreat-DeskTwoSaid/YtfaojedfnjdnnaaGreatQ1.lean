/- Part of a proof: E1, E2, E3, E4, E5, E6, E7, E8, E9, E10, E11, E12, E13, E14, E15, E16, E17, E18, E19, S, E20, E21. Conditions: none. -/
import Derived.Below
import Derived.Carry
import Derived.ChangeKeysEq
import Derived.KernelRfl
import Derived.Laws.Append
import Derived.Laws.AppendOwn
import Derived.Laws.Cells
import Derived.Laws.CopyRow
import Derived.Laws.MakeOwn
import Derived.Laws.Rows
import Derived.Laws.Slices
import Derived.Laws.StructEq
import Derived.Laws.Tables
import Derived.Lib.AppendZeros
import Derived.LoopN
import Derived.OpenShut
import Derived.Orders
import Derived.ProofKit
import Derived.Test.YtfaojedfnjdnnaaGreatProg
set_option linter.unusedVariables false
set_option linter.unusedSimpArgs false
set_option linter.unnecessarySimpa false
set_option linter.unusedSectionVars false
namespace Go.Proofs.YtfaojedfnjdnnaaGreat
theorem zaa:type_of% @decide_eq_true:= @decide_eq_true
theorem zab:type_of% @List.length_append:= @List.length_append
theorem zac:type_of% @List.length_cons:= @List.length_cons
theorem zad:type_of% @Int.cast_ofNat_Int:= @Int.cast_ofNat_Int
theorem zae:type_of% @Bool.and_eq_true:= @Bool.and_eq_true
theorem zaf:type_of% @List.getD_eq_getElem?_getD:= @List.getD_eq_getElem?_getD
theorem zag:type_of% @decide_eq_true_eq:= @decide_eq_true_eq
theorem zah:type_of% @List.getElem?_eq_getElem:= @List.getElem?_eq_getElem
theorem zai:type_of% @Option.map_eq_some_iff:= @Option.map_eq_some_iff
theorem zaj:type_of% @of_decide_eq_true:= @of_decide_eq_true
theorem zak:type_of% @Option.some.injEq:= @Option.some.injEq
theorem zal:type_of% @cond_false:= @cond_false
theorem zam:type_of% @List.all_eq_true:= @List.all_eq_true
theorem zan:type_of% @List.getElem?_eq_some_iff:= @List.getElem?_eq_some_iff
theorem zao:type_of% @decide_eq_false:= @decide_eq_false
theorem zap:type_of% @Nat.le_refl:= @Nat.le_refl
theorem zaq:type_of% @List.append_assoc:= @List.append_assoc
theorem zar:type_of% @List.length_nil:= @List.length_nil
theorem zas:type_of% @List.nil_append:= @List.nil_append
theorem zat:type_of% @Int.toNat_natCast:= @Int.toNat_natCast
theorem zau:type_of% @List.getElem?_take:= @List.getElem?_take
theorem zav:type_of% @List.length_take:= @List.length_take
theorem zaw:type_of% @cond_true:= @cond_true
theorem zax:type_of% @List.getElem?_append_left:= @List.getElem?_append_left
theorem zay:type_of% @List.mem_cons_of_mem:= @List.mem_cons_of_mem
theorem zaz:type_of% @Array.getElem?_eq_getElem:= @Array.getElem?_eq_getElem
theorem zaA:type_of% @List.getElem?_drop:= @List.getElem?_drop
theorem zaB:type_of% @List.eq_nil_of_length_eq_zero:= @List.eq_nil_of_length_eq_zero
theorem zaC:type_of% @List.cons_append:= @List.cons_append
theorem zaD:type_of% @Nat.lt_of_lt_of_le:= @Nat.lt_of_lt_of_le
theorem zaE:type_of% @List.getD_cons_succ:= @List.getD_cons_succ
theorem zaF:type_of% @Nat.zero_add:= @Nat.zero_add
theorem zaG:type_of% @Bool.and_eq_true_iff:= @Bool.and_eq_true_iff
theorem zaH:type_of% @beq_iff_eq:= @beq_iff_eq
theorem zaI:type_of% @Array.getElem?_eq_some_iff:= @Array.getElem?_eq_some_iff
theorem zaJ:type_of% @List.getElem?_append_right:= @List.getElem?_append_right
theorem zaK:type_of% @List.append_nil:= @List.append_nil
theorem zaL:type_of% @Int.natCast_add:= @Int.natCast_add
theorem zaM:type_of% @Option.bind_eq_some_iff:= @Option.bind_eq_some_iff
theorem zaN:type_of% @List.mem_cons:= @List.mem_cons
theorem zaO:type_of% @List.getD_cons_zero:= @List.getD_cons_zero
theorem zaP:type_of% @Nat.le_trans:= @Nat.le_trans
theorem zaQ:type_of% @List.mem_of_getElem? := @List.mem_of_getElem?
theorem zaR:type_of% @Nat.mul_le_mul_right:= @Nat.mul_le_mul_right
theorem zaS:type_of% @List.map_cons:= @List.map_cons
theorem zaT:type_of% @Prod.mk.injEq:= @Prod.mk.injEq
theorem zaU:type_of% @List.getElem?_append:= @List.getElem?_append
theorem zaV:type_of% @List.getElem?_eq_none:= @List.getElem?_eq_none
theorem zaW:type_of% @List.length_map:= @List.length_map
theorem zaX:type_of% @List.flatMap_cons:= @List.flatMap_cons
theorem zaY:type_of% @decide_false:= @decide_false
theorem zaZ:type_of% @List.getElem?_cons_succ:= @List.getElem?_cons_succ
theorem za0:type_of% @List.mem_append:= @List.mem_append
theorem za1:type_of% @List.length_set:= @List.length_set
theorem za2:type_of% @Nat.add_mul:= @Nat.add_mul
theorem za3:type_of% @decide_true:= @decide_true
theorem za4:type_of% @Int.zero_add:= @Int.zero_add
theorem za5:type_of% @List.mem_zipIdx_iff_getElem? := @List.mem_zipIdx_iff_getElem?
theorem za6:type_of% @Int.mul_le_mul_of_nonneg_right:= @Int.mul_le_mul_of_nonneg_right
theorem za7:type_of% @List.mem_map:= @List.mem_map
theorem za8:type_of% @List.drop_left:= @List.drop_left
theorem za9:type_of% @Int.mul_nonneg:= @Int.mul_nonneg
theorem zba:type_of% @Array.getD_eq_getD_getElem? := @Array.getD_eq_getD_getElem?
theorem zbb:type_of% @Bool.true_and:= @Bool.true_and
theorem zbc:type_of% @Nat.add_zero:= @Nat.add_zero
theorem zbd:type_of% @List.length_drop:= @List.length_drop
theorem zbe:type_of% @Nat.add_assoc:= @Nat.add_assoc
theorem zbf:type_of% @Bool.and_true:= @Bool.and_true
theorem zbg:type_of% @List.mem_singleton:= @List.mem_singleton
theorem zbh:type_of% @if_true:= @if_true
theorem zbi:type_of% @Option.map_some:= @Option.map_some
theorem zbj:type_of% @Bool.or_eq_true:= @Bool.or_eq_true
theorem zbk:type_of% @Int.emod_lt_of_pos:= @Int.emod_lt_of_pos
theorem zbl:type_of% @Int.mul_comm:= @Int.mul_comm
theorem zbm:type_of% @Int.mul_ediv_add_emod:= @Int.mul_ediv_add_emod
theorem zbn:type_of% @List.length_replicate:= @List.length_replicate
theorem zbo:type_of% @List.getElem?_set:= @List.getElem?_set
theorem zbp:type_of% @if_false:= @if_false
theorem zbq:type_of% @List.take_of_length_le:= @List.take_of_length_le
theorem zbr:type_of% @Bool.not_true:= @Bool.not_true
theorem zbs:type_of% @List.sum_cons:= @List.sum_cons
theorem zbt:type_of% @Nat.zero_le:= @Nat.zero_le
theorem zbu:type_of% @List.getElem?_cons_zero:= @List.getElem?_cons_zero
theorem zbv:type_of% @Int.sub_zero:= @Int.sub_zero
theorem zbw:type_of% @List.getElem_mem:= @List.getElem_mem
theorem zbx:type_of% @List.flatten_cons:= @List.flatten_cons
theorem zby:type_of% @List.ext_getElem? := @List.ext_getElem?
theorem zbz:type_of% @Int.emod_nonneg:= @Int.emod_nonneg
theorem zbA:type_of% @of_decide_eq_false:= @of_decide_eq_false
theorem zbB:type_of% @BitVec.toNat_ofInt:= @BitVec.toNat_ofInt
theorem zbC:type_of% @List.mem_range:= @List.mem_range
theorem zbD:type_of% @Option.getD_some:= @Option.getD_some
theorem zbE:type_of% @Option.isSome_iff_exists:= @Option.isSome_iff_exists
theorem zbF:type_of% @List.replicate_succ:= @List.replicate_succ
theorem zbG:type_of% @Int.ediv_nonneg:= @Int.ediv_nonneg
theorem zbH:type_of% @List.not_mem_nil:= @List.not_mem_nil
theorem zbI:type_of% @Int.eq_ofNat_of_zero_le:= @Int.eq_ofNat_of_zero_le
theorem zbJ:type_of% @Nat.eq_of_mul_eq_mul_right:= @Nat.eq_of_mul_eq_mul_right
theorem zbK:type_of% @List.getElem?_of_mem:= @List.getElem?_of_mem
theorem zbL:type_of% @Option.some.inj:= @Option.some.inj
theorem zbM:type_of% @List.mem_or_eq_of_mem_set:= @List.mem_or_eq_of_mem_set
theorem zbN:type_of% @Bool.false_and:= @Bool.false_and
theorem zbO:type_of% @Int.mul_assoc:= @Int.mul_assoc
theorem zbP:type_of% @List.drop_zero:= @List.drop_zero
theorem zbQ:type_of% @List.take_left:= @List.take_left
theorem zbR:type_of% @List.set_cons_succ:= @List.set_cons_succ
theorem zbS:type_of% @Bool.or_eq_false_iff:= @Bool.or_eq_false_iff
theorem zbT:type_of% @List.mem_append_left:= @List.mem_append_left
theorem zbU:type_of% @beq_eq_false_iff_ne:= @beq_eq_false_iff_ne
theorem zbV:type_of% @Nat.le_succ:= @Nat.le_succ
theorem zbW:type_of% @Classical.byContradiction:= @Classical.byContradiction
theorem zbX:type_of% @List.foldl_cons:= @List.foldl_cons
theorem zbY:type_of% @Nat.min_eq_left:= @Nat.min_eq_left
theorem zbZ:type_of% @List.mem_append_right:= @List.mem_append_right
theorem zb0:type_of% @List.mem_filterMap:= @List.mem_filterMap
theorem zb1:type_of% @List.take_append_of_le_length:= @List.take_append_of_le_length
theorem zb2:type_of% @Int.add_mul:= @Int.add_mul
theorem zb3:type_of% @Int.mul_le_mul_of_nonneg_left:= @Int.mul_le_mul_of_nonneg_left
theorem zb4:type_of% @Int.add_zero:= @Int.add_zero
theorem zb5:type_of% @List.map_append:= @List.map_append
theorem zb6:type_of% @Int.ediv_lt_iff_lt_mul:= @Int.ediv_lt_iff_lt_mul
theorem zb7:type_of% @Array.toList_setIfInBounds:= @Array.toList_setIfInBounds
theorem zb8:type_of% @Bool.false_eq_true:= @Bool.false_eq_true
theorem zb9:type_of% @Nat.zero_mul:= @Nat.zero_mul
theorem zca:type_of% @List.drop_drop:= @List.drop_drop
theorem zcb:type_of% @Int.le_refl:= @Int.le_refl
theorem zcc:type_of% @List.size_toArray:= @List.size_toArray
theorem zcd:type_of% @bne_self_eq_false:= @bne_self_eq_false
theorem zce:type_of% @Int.mul_add:= @Int.mul_add
theorem zcf:type_of% @Nat.mul_one:= @Nat.mul_one
theorem zcg:type_of% @Option.bind_some:= @Option.bind_some
theorem zch:type_of% @Nat.le_of_not_lt:= @Nat.le_of_not_lt
theorem zci:type_of% @Nat.lt_or_ge:= @Nat.lt_or_ge
theorem zcj:type_of% @Bool.false_or:= @Bool.false_or
theorem zck:type_of% @Bool.and_self:= @Bool.and_self
theorem zcl:type_of% @Int.add_assoc:= @Int.add_assoc
theorem zcm:type_of% @congrArg:= @congrArg
theorem zcn:type_of% @Ne.symm:= @Ne.symm
end Go.Proofs.YtfaojedfnjdnnaaGreat
namespace Go.Proofs.YtfaojedfnjdnnaaGreat.Ev
noncomputable section
open Go
structure Blk where
 cells:List Value
inductive Tr where
 |e
 |n (v:Option Blk) (l r:Tr)
def Tr.get:Tr->Nat->Option Blk
 | .e,_=>none
 | .n v l r,k=>if k=0 then v else if k%2=1 then l.get (k/2)else r.get (k/2-1)
def Tr.val:Tr->Option Blk
 | .e=>none
 | .n v _ _=>v
def Tr.left:Tr->Tr
 | .e=> .e
 | .n _ l _=>l
def Tr.right:Tr->Tr
 | .e=> .e
 | .n _ _ r=>r
def Tr.put (b:Option Blk):(fuel:Nat)->Tr->Nat->Tr
 |0,t,_=>t
 |f+1,t,k=>if k=0 then .n b t.left t.right else if k%2=1 then .n t.val (Tr.put b f t.left (k/2)) t.right else .n t.val t.left (Tr.put b f t.right (k/2-1))
structure ag where
 size:Nat
 root:Tr
 lock:Nat
 hid:List (Nat × Nat)
def hidden:List (Nat × Nat)->Nat->Bool
 |[],_=>false
 |(a,b)::r,k=>(a<=k&&k<b)||hidden r k
def ag.get (H:ag) (k:Nat):Option Blk:=if k<H.size then(if hidden H.hid k then none else H.root.get k)else none
def ag.put (H:ag) (k:Nat) (b:Option Blk):ag:={H with root:=H.root.put b (k+1) k}
def ag.push (H:ag) (b:Blk):ag:={H with size:=H.size+1,root:=H.root.put (some b) (H.size+1) H.size}
def ag.rG (H:ag) (k:Nat) (_:Blk):Bool:=decide (H.lock<=k)
structure St where
 fr:List Value
 hp:ag
inductive Ex where
 |normal
 |exit (id:Nat)
 |ret
def bj:Value->Bool
 | .agg _=>false
 | .tuple _=>false
 |_=>true
def hZ:Value->Bool
 | .bool _=>true
 | .int .. =>true
 | .string _=>true
 | .pointer none=>true
 | .slice none 0 0=>true
 | .nilFunc=>true
 | .nilIface=>true
 |_=>false
def dW (fr:List Value):Operand->Option Value
 | .tmp t=>some (fr.getD t undef)
 | .const v=>if hZ v then some v else none
 | .global _=>none
 | .func f=>some (.func (.func f) #[] #[])
def br:Value->Option (List Value)
 | .agg cs=>some cs.toList
 | .tuple _=>none
 |v=>some [v]
def gr (z:Value):Option (List Value):=
 match br z with
 |some cs=>if cs.all hZ then some cs else none
 |none=>none
def cT (H:ag) (b off n:Nat):Option (List Value):=
 match H.get b with
 |some k=>if off+n<=k.cells.length then some ((k.cells.drop off).take n)else none
 |none=>none
def setCells (H:ag) (b off:Nat) (vs:List Value):Option ag:=
 match H.get b with
 |some k=>if H.rG b k&&0<vs.length&&off+vs.length<=k.cells.length then
  some (H.put b (some ⟨k.cells.take off++vs++k.cells.drop (off+vs.length)⟩))else none
 |none=>none
def nc:TypeDesc->Bool
 | .struct _=>true
 | .array _ _=>true
 |_=>false
section
variable (P : Program)
def cI (H:ag) (t:TypeId):Value->Option Value
 | .pointer (some ⟨b,off,none⟩)=>
  match P.underlying t,P.info? t with
  |some d,some i=>
   match nc d with
   |true=>(cT H b off i.size).map fun cs=> .agg cs.toArray
   |false=>
    match cT H b off 1 with
    |some (v::_)=>some v
    |_=>none
  |_,_=>none
 |_=>none
def pE (H:ag) (t:TypeId) (p v:Value):Option ag:=
 match p with
 | .pointer (some ⟨b,off,none⟩)=>
  match br v,P.info? t with
  |some cs,some i=>if cs.length=i.size then setCells H b off cs else none
  |_,_=>none
 |_=>none
def aF (H:ag) (cs:List Value):ag:=H.push ⟨cs⟩
def ptr (b off:Nat):Value:= .pointer (some ⟨b,off,none⟩)
def jH (t:TypeId) (cs:Array Value) (off:Nat):Option Value:=
 match P.underlying t,P.info? t with
 |some d,some i=>
  match nc d with
  |true=>if off+i.size<=cs.size then some (.agg (cs.extract off (off+i.size)))else none
  |false=>cs[off]?
 |_,_=>none
def eqE:Nat->TypeId->Value->Value->Option Bool
 |0,_,_,_=>none
 |d+1,t,x,y=>
  match P.underlying t,x,y with
  |some .bool,.bool a,.bool b=>some (a==b)
  |some (.int _),.int k a,.int k' b=>if k=k' then some (a==b)else none
  |some (.struct fs),.agg xs,.agg ys=>
   if P.stoodInHeld t then none else
   fs.toList.foldr (fun f (r:Option Bool)=>
    if f.name≠ "_" then
     match jH P f.type xs f.offset,jH P f.type ys f.offset with
     |some a,some b=>
      match eqE d f.type a b with
      |some true=>r
      |some false=>some false
      |none=>none
     |_,_=>none
    else r) (some true)
  |some (.array len elem),.agg xs,.agg ys=>
   match P.info? elem with
   |some i=>
    (List.range len).foldr (fun j (r:Option Bool)=>
     match jH P elem xs (j*i.size),jH P elem ys (j*i.size)with
     |some a,some b=>
      match eqE d elem a b with
      |some true=>r
      |some false=>some false
      |none=>none
     |_,_=>none) (some true)
   |none=>none
  |_,_,_=>none
def mA (op:BinOp) (k:IntKind) (a b:Int):Option Value:=
 match op with
 | .add=>some (.int k (k.wrap (a+b)))
 | .sub=>some (.int k (k.wrap (a-b)))
 | .mul=>some (.int k (k.wrap (a*b)))
 | .quo=>if b=0 then none else some (.int k (k.wrap (a.tdiv b)))
 | .rem=>if b=0 then none else some (.int k (a.tmod b))
 | .and=>some (.int k (k.wrap (BitVec.ofInt k.bits a&&&BitVec.ofInt k.bits b).toNat))
 | .or=>some (.int k (k.wrap (BitVec.ofInt k.bits a|||BitVec.ofInt k.bits b).toNat))
 | .xor=>some (.int k (k.wrap (BitVec.ofInt k.bits a^^^BitVec.ofInt k.bits b).toNat))
 | .andNot=>some (.int k (k.wrap (BitVec.ofInt k.bits a&&& ~~~(BitVec.ofInt k.bits b)).toNat))
 | .eql=>some (.bool (a==b))
 | .neq=>some (.bool (a !=b))
 | .lss=>some (.bool (decide (a<b)))
 | .leq=>some (.bool (decide (a<=b)))
 | .gtr=>some (.bool (decide (a>b)))
 | .geq=>some (.bool (decide (a>=b)))
 | .shl=>none
 | .shr=>none
def qk (op:BinOp) (k:IntKind) (a b:Int):Option Value:=
 if b<0 then none else
 match op with
 | .shl=>some (.int k (k.wrap (a*2^(min b.toNat k.bits))))
 | .shr=>some (.int k (a.fdiv (2^(min b.toNat k.bits))))
 |_=>none
def isNil:Value->Option Bool
 | .pointer none=>some true
 | .pointer (some _)=>some false
 | .slice none _ _=>some true
 | .slice (some _) _ _=>some false
 |_=>none
def Du:TypeDesc->Value->Value->Bool
 | .pointer _,.pointer none,.pointer _=>true
 | .pointer _,.pointer _,.pointer none=>true
 | .slice _,.slice none _ _,.slice _ _ _=>true
 | .slice _,.slice _ _ _,.slice none _ _=>true
 |_,_,_=>false
def gH (t:TypeId) (x y:Value):Option Bool:=
 match x,y with
 | .agg _,.agg _=>if P.eqGuardType P.depth t then none else eqE P 10000 t x y
 | .bool a,.bool b=>match P.underlying t with|some .bool=>some (a==b)|_=>none
 |_,_=>
  match P.underlying t,isNil x,isNil y with
  |some d,some a,some b=>if Du d x y then some (a&&b)else none
  |_,_,_=>none
def jx (op:BinOp) (t:TypeId) (x y:Value):Option Value:=
 match x,y with
 | .int k a,.int k' b=>
  match op with
  | .shl=>qk .shl k a b
  | .shr=>qk .shr k a b
  |_=>if k=k' then mA op k a b else none
 |x,y=>
  match op with
  | .eql=>(gH P t x y).map .bool
  | .neq=>(gH P t x y).map fun b=> .bool (!b)
  |_=>none
def unE (op:UnOp) (x:Value):Option Value:=
 match op,x with
 | .neg,.int k n=>some (.int k (k.wrap (0-n)))
 | .xor,.int k n=>mA .xor k (if k.signed then-1 else k.max) n
 | .not,.bool b=>some (.bool (!b))
 |_,_=>none
def HZ (src dst:TypeId) (x:Value):Option Value:=
 match P.underlying src,P.underlying dst,x with
 |some _,some (.int k),.int _ n=>some (.int k (k.wrap n))
 |_,_,_=>none
def jj (x:Option Value) (d hi:Nat):Option Nat:=
 match x with
 |none=>some d
 |some (.int _ i)=>if 0<=i/\i<=(hi:Int)then some i.toNat else none
 |some _=>none
def pM (t:TypeId) (x:Value) (lo hi:Option Value):Option Value:=
 match P.underlying t with
 |some (.slice elem)=>
  match x,P.info? elem with
  | .slice a len cap,some i=>
   match jj hi len cap with
   |some h=>
    match jj lo 0 h with
    |some l=>
     match a with
     |none=>some (.slice none (h-l) (cap-l))
     |some ⟨b,off,none⟩=>some (.slice (some ⟨b,if cap=l then off else off+l*i.size,none⟩) (h-l) (cap-l))
     |some ⟨b,off,some e⟩=>if e=i.size then some (.slice (some ⟨b,if cap=l then off else off+l*i.size,some e⟩) (h-l) (cap-l))else none
    |none=>none
   |none=>none
  |_,_=>none
 |some (.array n elem)=>
  match x,P.info? elem with
  | .pointer (some ⟨b,off,none⟩),some i=>
   match jj hi n n with
   |some h=>
    match jj lo 0 h with
    |some l=>some (.slice (some ⟨b,if n=l then off else off+l*i.size,none⟩) (h-l) (n-l))
    |none=>none
   |none=>none
  |_,_=>none
 |_=>none
def qW (t:TypeId) (x:Value) (lo:Option Value) (hi mx:Value):Option Value:=
 match P.underlying t with
 |some (.slice elem)=>
  match x,P.info? elem with
  | .slice a len cap,some i=>
   match jj (some mx) cap cap with
   |some m=>
    match jj (some hi) len m with
    |some h=>
     match jj lo 0 h with
     |some l=>
      match a with
      |none=>some (.slice none (h-l) (m-l))
      |some ⟨b,off,none⟩=>some (.slice (some ⟨b,if m=l then off else off+l*i.size,none⟩) (h-l) (m-l))
      |some ⟨b,off,some e⟩=>if e=i.size then some (.slice (some ⟨b,if m=l then off else off+l*i.size,none⟩) (h-l) (m-l))else none
     |none=>none
    |none=>none
   |none=>none
  |_,_=>none
 |_=>none
def jJ (s:TypeId) (x:Value) (f:Nat):Option Value:=
 match P.underlying s with
 |some (.struct fs)=>
  match fs[f]?,x with
  |some fd,.pointer (some a)=>
   match P.info? fd.type with
   |some i=>if i.size=0 then none else some (.pointer (some (a.add fd.offset)))
   |none=>none
  |_,_=>none
 |_=>none
def Bv (s:TypeId) (x:Value) (f:Nat):Option Value:=
 match P.underlying s with
 |some (.struct fs)=>
  match fs[f]?,x with
  |some fd,.agg cs=>jH P fd.type cs fd.offset
  |_,_=>none
 |_=>none
def eE (t:TypeId) (x ix:Value):Option Value:=
 match ix with
 | .int _ i=>
  match P.underlying t,x with
  |some (.array len elem),.pointer (some a)=>
   match P.info? elem with
   |some ie=>if 0<=i/\i<(len:Int)then some (.pointer (some (a.add (i.toNat*ie.size))))else none
   |none=>none
  |some (.slice elem),.slice (some ⟨b,off,_⟩) len _=>
   match P.info? elem with
   |some ie=>if 0<=i/\i<(len:Int)then some (.pointer (some ⟨b,off+i.toNat*ie.size,none⟩))else none
   |none=>none
  |_,_=>none
 |_=>none
def qd (t:TypeId) (x ix:Value):Option Value:=
 match ix with
 | .int _ i=>
  match P.underlying t,x with
  |some (.array len elem),.agg cs=>
   match P.info? elem with
   |some ie=>if 0<=i/\i<(len:Int)then jH P elem cs (i.toNat*ie.size)else none
   |none=>none
  |some .string,.string s=>if 0<=i then(match s.data[i.toNat]? with|some b=>some (.int .u8 b.toNat)|none=>none)else none
  |_,_=>none
 |_=>none
def sT (x:Value) (i:Nat):Option Value:=
 match x with
 | .tuple vs=>vs[i]?
 |_=>none
def wO (H:ag) (t:TypeId) (len cap:Value):Option (Value × ag):=
 match P.underlying t,len,cap with
 |some (.slice elem),.int _ l,.int _ c=>
  match P.info? elem with
  |some i=>
   match i.zero with
   |some z=>
    if 0<=l/\l<=c/\(i.bytes:Int)*c<=140737488355328/\c<=9223372036854775807 then
     match gr z with
     |some zc=>if zc.length=i.size then some (.slice (some ⟨H.size,0,none⟩) l.toNat c.toNat,aF H (List.replicate c.toNat zc).flatten)else none
     |none=>none
    else none
   |none=>none
  |none=>none
 |_,_,_=>none
def bg (H:ag) (size n:Nat):Value->Option (List Value)
 | .slice none _ _=>if n=0 then some []else none
 | .slice (some ⟨b,off,_⟩) _ _=>cT H b off (n*size)
 |_=>none
def zK (H:ag) (t u:TypeId) (s x:Value):Option (Value × ag):=
 match P.underlying t,P.underlying u,s,x with
 |some (.slice elem),some (.int _),.slice none 0 0,.int _ n=>
  match P.info? elem with
  |some i=>
   match i.zero with
   |some z=>
    match gr z with
    |some zc=>
     if zc.length=i.size/\0<i.size/\0<=n/\n<1099511627776/\n.toNat*i.bytes<35184372088832 then
      match n.toNat with
      |0=>some (s,H)
      |m+1=>some (.slice (some ⟨H.size,0,some i.size⟩) (m+1) (m+1),aF H (List.replicate (m+1) zc).flatten)
     else none
    |none=>none
   |none=>none
  |none=>none
 |_,_,_,_=>none
def dZ (H:ag) (t u:TypeId) (s x:Value):Option (Value × ag):=
 if t=u then
 match P.underlying t,s,x with
 |some (.slice elem),.slice base sLen sCap,.slice _ n _=>
  match P.info? elem with
  |some i=>
   match i.zero with
   |some z=>
    match gr z,bg H i.size n x with
    |some zc,some new=>
     if zc.length=i.size/\0<i.size/\sLen<=sCap/\sLen+n<1099511627776/\(sLen+n)*i.bytes<35184372088832 then
      match n with
      |0=>some (s,H)
      |_+1=>
       match base with
       |none=>some (.slice (some ⟨H.size,0,some i.size⟩) n n,aF H new)
       |some ⟨b,off,sp⟩=>
        match decide (sLen+n<=sCap)with
        |true=>(setCells H b (off+sLen*i.size) new).map fun H'=>(.slice base (sLen+n) sCap,H')
        |false=>
         match bg H i.size sLen s with
         |some old=>
          match sp with
          |some e=>
           match H.get b with
           |some k=>
            if H.rG b k&&e==i.size&&off==0&&k.cells.length==sLen*i.size&&0<sLen then
             some (.slice (some ⟨H.size,0,some i.size⟩) (sLen+n) (sLen+n),aF (H.put b none) (old++new))
            else none
           |none=>none
          |none=>some (.slice (some ⟨H.size,0,some i.size⟩) (sLen+n) (sLen+n),aF H (old++new))
         |none=>none
     else none
    |_,_=>none
   |none=>none
  |none=>none
 |_,_,_=>none
 else zK P H t u s x
def rj (H:ag) (t _u:TypeId) (d s:Value):Option (Value × ag):=
 match P.underlying t,d,s with
 |some (.slice elem),.slice db dLen _,.slice _ sLen _=>
  match P.info? elem with
  |some i=>
   match bg H i.size (min sLen dLen) s with
   |some []=>some (.int .i64 (min sLen dLen:Nat),H)
   |some cs=>
    match db with
    |none=>none
    |some ⟨b,off,_⟩=>(setCells H b off cs).map fun H'=>(.int .i64 (min sLen dLen:Nat),H')
   |none=>none
  |none=>none
 |_,_,_=>none
def GM:Option Value->Value->Option Value
 |some (.int k x),.int _ y=>some (.int k (if y<x then y else x))
 |_,_=>none
def F8:Option Value->Value->Option Value
 |some (.int k x),.int _ y=>some (.int k (if x<y then y else x))
 |_,_=>none
def Vc:List Value->Option Value
 | .int k x::rest=>rest.foldl GM (some (.int k x))
 |_=>none
def TM:List Value->Option Value
 | .int k x::rest=>rest.foldl F8 (some (.int k x))
 |_=>none
def iV (H:ag) (b:Builtin) (ts:Array TypeId) (args:List Value):Option (Value × ag):=
 match b with
 | .append=>
  match ts.toList,args with
  |[t,u],[s,x]=>dZ P H t u s x
  |_,_=>none
 | .copy=>
  match ts.toList,args with
  |[t,u],[d,s]=>rj P H t u d s
  |_,_=>none
 | .len=>
  match ts.toList,args with
  |[t],[x]=>
   match P.underlying t,x with
   |some (.slice _),.slice _ n _=>some (.int .i64 n,H)
   |some (.array n _),_=>some (.int .i64 n,H)
   |some .string,.string s=>some (.int .i64 s.size,H)
   |_,_=>none
  |_,_=>none
 | .cap=>
  match ts.toList,args with
  |[t],[.slice none 0 0]=>match P.underlying t with|some (.slice _)=>some (.int .i64 0,H)|_=>none
  |[t],[.slice (some ⟨_,_,none⟩) _ c]=>
   match P.underlying t with
   |some (.slice _)=>some (.int .i64 c,H)
   |_=>none
  |_,_=>none
 | .min=>(Vc args).map (·,H)
 | .max=>(TM args).map (·,H)
 |_=>none
def ud (t:TypeId) (parts:List (Nat × Value)):Option Value:=
 match ((P.info? t).bind (·.zero)).bind gr with
 |some _=>(P.built t parts).map .agg
 |none=>none
def fG (H:ag) (t:TypeId) (len:Nat) (parts:List (Nat × Value)):Option (Value × ag):=
 match P.underlying t with
 |some (.slice elem)=>
  match P.info? elem with
  |some i=>
   match i.zero with
   |some z=>
    match gr z with
    |some zc=>
     if len*i.size<=16777216/\zc.length=i.size then
      match Instr.fill (fun j=>some (j*i.size,i.size)) (List.replicate len zc).flatten.toArray parts with
      |some cs=>some (.slice (some ⟨H.size,0,none⟩) len len,aF H cs.toList)
      |none=>none
     else none
    |none=>none
   |none=>none
  |none=>none
 |_=>none
def oU:Value->Option Value
 | .tuple _=>none
 |v=>some v
def pN (ρ:Operand->Option Value):List (Nat × Operand)->Option (List (Nat × Value))
 |[]=>some []
 |(i,x)::r=>
  match (ρ x).bind oU,pN ρ r with
  |some v,some vs=>some ((i,v)::vs)
  |_,_=>none
def rh (ρ:Operand->Option Value):List Operand->Option (List Value)
 |[]=>some []
 |x::r=>
  match ρ x,rh ρ r with
  |some v,some vs=>some (v::vs)
  |_,_=>none
def G3 (ρ:Operand->Option Value):Option Operand->Option (Option Value)
 |none=>some none
 |some x=>(ρ x).map some
variable (cl : FuncId -> List Value -> ag -> Option (Value × ag))
def opE (ρ:Operand->Option Value) (o:Oper) (H:ag):Option (Value × ag):=
 match o.op with
 | .move x=>(ρ x).map (·,H)
 | .assign x=>(ρ x).map (·,H)
 | .pick c a b=>
  match ρ c with
  |some (.bool t)=>(match t with|true=>ρ a|false=>ρ b).map (·,H)
  |_=>none
 | .alloc e=>
  match (P.info? e).bind (·.zero)with
  |some z=>(gr z).map fun cs=>(ptr H.size 0,aF H cs)
  |none=>none
 | .box _ x=>((ρ x).bind br).map fun cs=>(ptr H.size 0,aF H cs)
 | .build t ps=>((pN ρ ps.toList).bind (ud P t)).map (·,H)
 | .buildSlice t n ps=>(pN ρ ps.toList).bind (fG P H t n)
 | .load t a=>((ρ a).bind (cI P H t)).map (·,H)
 | .store t a x=>
  match ρ a,ρ x with
  |some p,some v=>(pE P H t p v).map (undef,·)
  |_,_=>none
 | .nilCheck x=>
  match ρ x with
  |some (.pointer (some a))=>some (.pointer (some a),H)
  |some (.slice a n c)=>some (.slice a n c,H)
  |some (.func (.func f) x y)=>some (.func (.func f) x y,H)
  |_=>none
 | .binOp op t x y _=>
  match ρ x,ρ y with
  |some a,some b=>(jx P op t a b).map (·,H)
  |_,_=>none
 | .unOp op _ x=>((ρ x).bind (unE op)).map (·,H)
 | .convert s d x=>((ρ x).bind (HZ P s d)).map (·,H)
 | .makeFunc fn a b=>
  match fn,rh ρ a.toList,rh ρ b.toList with
  | .func f,some x,some y=>some (.func (.func f) x.toArray y.toArray,H)
  |_,_,_=>none
 | .makeSlice t l c=>
  match ρ l,ρ c with
  |some a,some b=>wO P H t a b
  |_,_=>none
 | .slice t x lo hi none=>
  match ρ x,G3 ρ lo,G3 ρ hi with
  |some v,some l,some h=>(pM P t v l h).map (·,H)
  |_,_,_=>none
 | .slice t x lo (some hi) (some mx)=>
  match ρ x,G3 ρ lo,ρ hi,ρ mx with
  |some v,some l,some h,some m=>(qW P t v l h m).map (·,H)
  |_,_,_,_=>none
 | .fieldAddr s x f=>((ρ x).bind (jJ P s · f)).map (·,H)
 | .field s x f=>((ρ x).bind (Bv P s · f)).map (·,H)
 | .indexAddr t x i=>
  match ρ x,ρ i with
  |some v,some j=>(eE P t v j).map (·,H)
  |_,_=>none
 | .index t x i=>
  match ρ x,ρ i with
  |some v,some j=>(qd P t v j).map (·,H)
  |_,_=>none
 | .extract x i=>((ρ x).bind (sT · i)).map (·,H)
 | .call c=>
  match rh ρ c.args.toList with
  |some args=>
   match c.callee with
   | .builtin b=>iV P H b c.argTypes args
   | .value f=>
    match ρ f with
    |some (.func (.func g) x y)=>cl g (x.toList++args++y.toList) H
    |_=>none
   | .invoke .. =>none
  |none=>none
 |_=>none
def eU (ops:Array Oper) (fr:List Value) (o:Oper):Bool:=
 match o.guard with
 |none=>true
 |some (j,want)=>
  match ((ops[j]?).bind (·.dst)).bind (fr[·]?)with
  |some (.bool b)=>b==want
  |_=>false
def iS (fr:List Value):Option Tmp->Value->List Value
 |none,_=>fr
 |some d,v=>fr.set d v
def lG (ops:Array Oper):List Oper->St->Option St
 |[],s=>some s
 |o::r,s=>
  match eU ops s.fr o with
  |true=>
   match opE P cl (dW s.fr) o s.hp with
   |some (v,H)=>lG ops r ⟨iS s.fr o.dst v,H⟩
   |none=>none
  |false=>lG ops r ⟨iS s.fr o.dst undef,s.hp⟩
end
end
end Go.Proofs.YtfaojedfnjdnnaaGreat.Ev
namespace Go.Proofs.YtfaojedfnjdnnaaGreat.Ev
noncomputable section
open Go
theorem Tr.fN (b:Option Blk):∀(f:Nat) (t:Tr) (k j:Nat),k<f->(Tr.put b f t k).get j=if j=k then b else t.get j:=by
 intro f
 induction f with
 |zero=>intro t k j h;omega
 |succ f ih=>
  intro t k j h;have tl:∀m,t.left.get m=(match t with| .e=>none| .n _ l _=>l.get m):=by intro m;cases t<;>rfl
  have tr:∀m,t.right.get m=(match t with| .e=>none| .n _ _ r=>r.get m):=by intro m;cases t<;>rfl
  simp only[Tr.put]
  by_cases h0:k=0
  . subst h0;simp only[zbh,Tr.get]
    by_cases hj:j=0
    . simp[hj]
    . simp only[hj,zbp,tl,tr];cases t<;>simp[Tr.get,hj]
  . simp only[h0,zbp]
    by_cases h1:k%2=1
    . simp only[h1,zbh,Tr.get]
      by_cases hj:j=0
      . subst hj;simp only[zbh];rw[if_neg (by omega)];cases t<;>simp[Tr.get,Tr.val]
      . simp only[hj,zbp]
        by_cases hj1:j%2=1
        . simp only[hj1,zbh];rw[ih _ _ _ (by omega)]
          by_cases e:j=k
          . subst e;simp
          . rw[if_neg (by omega),if_neg e,tl];cases t<;>simp[Tr.get,hj,hj1]
        . simp only[hj1,zbp,tr];rw[if_neg (by omega)];cases t<;>simp[Tr.get,hj,hj1]
    . simp only[h1,zbp,Tr.get]
      by_cases hj:j=0
      . subst hj;simp only[zbh];rw[if_neg (by omega)];cases t<;>simp[Tr.get,Tr.val]
      . simp only[hj,zbp]
        by_cases hj1:j%2=1
        . simp only[hj1,zbh,tl];rw[if_neg (by omega)];cases t<;>simp[Tr.get,hj,hj1]
        . simp only[hj1,zbp];rw[ih _ _ _ (by omega)]
          by_cases e:j=k
          . subst e;simp
          . rw[if_neg (by omega),if_neg e,tr];cases t<;>simp[Tr.get,hj,hj1]
theorem ag.bV (H:ag) (b:Blk) (k:Nat):(H.push b).root.get k=if k=H.size then some b else H.root.get k:=
 Tr.fN _ _ _ _ _ (Nat.lt_succ_self _)
theorem ag.cW (H:ag) (j:Nat) (b:Option Blk) (k:Nat):(H.put j b).root.get k=if k=j then b else H.root.get k:=
 Tr.fN _ _ _ _ _ (Nat.lt_succ_self _)
@[simp] theorem ag.size_push (H : ag) (b : Blk) : (H.push b).size = H.size + 1 := rfl
@[simp] theorem ag.size_put (H : ag) (j : Nat) (b : Option Blk) : (H.put j b).size = H.size := rfl
@[simp] theorem ag.aaq (H : ag) (b : Blk) : (H.push b).lock = H.lock := rfl
@[simp] theorem ag.acA (H : ag) (j : Nat) (b : Option Blk) : (H.put j b).lock = H.lock := rfl
@[simp] theorem ag.aa2 (H : ag) (b : Blk) : (H.push b).hid = H.hid := rfl
@[simp] theorem ag.aej (H : ag) (j : Nat) (b : Option Blk) : (H.put j b).hid = H.hid := rfl
theorem ag.aZ {H:ag} {k:Nat} {b:Blk} (h:H.get k=some b):k<H.size:=by
 unfold ag.get at h
 split at h
 . assumption
 . cases h
theorem ag.aM {H:ag} {k:Nat} {b:Blk} (h:H.get k=some b):H.root.get k=some b/\hidden H.hid k=false:=by
 unfold ag.get at h
 split at h
 . split at h
   . cases h
   . rename_i hh;exact⟨h,by cases hx:hidden H.hid k<;>simp_all⟩
 . cases h
theorem ag.fW (H:ag) (j k:Nat) (b:Option Blk) (h:k≠j):(H.put j b).get k=H.get k:=by
 simp[ag.get,ag.cW,h]
theorem ag.jq (H:ag) (j:Nat) (b:Option Blk) {c:Blk} (hb:H.get j=some c):(H.put j b).get j=b:=by
 have:=ag.aM hb;simp[ag.get,ag.cW,this.2,ag.aZ hb]
theorem ag.eT (H:ag) (b:Blk) (k:Nat) (h:k<H.size):(H.push b).get k=H.get k:=by
 have h1:k≠H.size:=by omega
 have h2:k<H.size+1:=by omega
 simp[ag.get,ag.bV,h,h1,h2]
structure Loc where
 blk:Nat
 off:Nat
 room:Nat
abbrev Fm:=Nat->Option Loc
inductive V (f : Fm) : Value -> Value -> Prop where
 |bool (b:Bool):V f (.bool b) (.bool b)
 |int (k:IntKind) (n:Int):V f (.int k n) (.int k n)
 |str (s:ByteArray):V f (.string s) (.string s)
 |E4:V f (.pointer none) (.pointer none)
 |dr:V f (.slice none 0 0) (.slice none 0 0)
 |nilFunc:V f .nilFunc .nilFunc
 |nilIface:V f .nilIface .nilIface
 |ptr (b off:Nat) (l:Loc) (h:f b=some l):V f (.pointer (some ⟨b,off,none⟩)) (.pointer (some ⟨l.blk,l.off+off,none⟩))
 |slX (b off n c:Nat) (l:Loc) (a:Addr) (h:f b=some l) (ha:a=⟨l.blk,l.off+off,none⟩\/(n=0/\c=0)):
  V f (.slice (some ⟨b,off,none⟩) n c) (.slice (some a) n c)
 |slL (b off e n c lR c':Nat) (l:Loc) (h:f b=some l) (hn:n<=c) (hc:c<=c')
  (hr:lR+c'*e<=l.room) (ho:0<c->lR=l.off+off):
  V f (.slice (some ⟨b,off,some e⟩) n c) (.slice (some ⟨l.blk,lR,none⟩) n c')
 |func (g:FuncId) (x x' y y':Array Value) (hx:x.size=x'.size) (hy:y.size=y'.size)
  (vx:∀(i:Nat) v v',x[i]? =some v->x'[i]? =some v'->V f v v') (vy:∀(i:Nat) v v',y[i]? =some v->y'[i]? =some v'->V f v v'):
  V f (.func (.func g) x y) (.func (.func g) x' y')
 |agg (x x':Array Value) (hx:x.size=x'.size) (hc:∀(i:Nat) v,x[i]? =some v->bj v=true)
  (vx:∀(i:Nat) v v',x[i]? =some v->x'[i]? =some v'->V f v v'):V f (.agg x) (.agg x')
 |tuple (x x':Array Value) (hx:x.size=x'.size) (vx:∀(i:Nat) v v',x[i]? =some v->x'[i]? =some v'->V f v v'):V f (.tuple x) (.tuple x')
def Le (f g:Fm):Prop:=∀x l,f x=some l->g x=some l
theorem Le.refl (f:Fm):Le f f:=fun _ _ h=>h
theorem Le.trans {f g h:Fm} (a:Le f g) (b:Le g h):Le f h:=fun x l e=>b x l (a x l e)
theorem V.mono {f g:Fm} (hle:Le f g) {v v':Value} (h:V f v v'):V g v v':=by
 induction h with
 |bool b=>exact .bool b
 |int k n=>exact .int k n
 |str s=>exact .str s
 |E4=>exact .E4
 |dr=>exact .dr
 |nilFunc=>exact .nilFunc
 |nilIface=>exact .nilIface
 |ptr b off l h=>exact .ptr b off l (hle _ _ h)
 |slX b off n c l a h ha=>exact .slX b off n c l a (hle _ _ h) ha
 |slL b off e n c lR c' l h hn hc hr ho=>exact .slL b off e n c lR c' l (hle _ _ h) hn hc hr ho
 |func g x x' y y' hx hy _ _ ix iy=>exact .func g x x' y y' hx hy ix iy
 |agg x x' hx hc _ ix=>exact .agg x x' hx hc ix
 |tuple x x' hx _ ix=>exact .tuple x x' hx ix
theorem V.cell {f:Fm} {v v':Value} (h:V f v v'):bj v'=bj v:=by cases h<;>rfl
theorem sA {v:Value} (h:bj v=true):v.oneCell'=true:=by cases v<;>simp_all [bj,Value.oneCell']
theorem V.undef (f:Fm):V f Go.undef Go.undef:= .tuple _ _ rfl (fun i v v' h _=>by simp at h)
theorem V.hZ (f:Fm) {v:Value} (h:Ev.hZ v=true):V f v v:=by
 unfold Ev.hZ at h
 split at h<;>first|constructor|cases h
def VL (f:Fm) (xs ys:List Value):Prop:=xs.length=ys.length/\∀(i:Nat) v v',xs[i]? =some v->ys[i]? =some v'->V f v v'
theorem VL.nil (f:Fm):VL f [] []:=⟨rfl,fun i v v' h=>by simp at h⟩
theorem VL.cons {f:Fm} {v v':Value} {xs ys:List Value} (h:V f v v') (t:VL f xs ys):VL f (v::xs) (v'::ys):=
 ⟨by simp[t.1],fun i=>by
  cases i with
  |zero=>intro u u' h1 h2;simp at h1 h2;subst h1;subst h2;exact h
  |succ i=>intro u u' h1 h2;simp at h1 h2;exact t.2 i u u' h1 h2⟩
theorem VL.append {f:Fm} {a b c d:List Value} (h:VL f a b) (k:VL f c d):VL f (a++c) (b++d):=by
 refine⟨by simp[h.1,k.1],fun i v v' h1 h2=> ?_⟩;rw[zaU]at h1 h2;rw[h.1]at h1
 split at h1
 . rename_i hi;rw[if_pos hi]at h2;exact h.2 i v v' h1 h2
 . rename_i hi;rw[if_neg hi]at h2;exact k.2 _ v v' h1 h2
theorem VL.mono {f g:Fm} (hle:Le f g) {xs ys:List Value} (h:VL f xs ys):VL g xs ys:=⟨h.1,fun i v v' a b=>(h.2 i v v' a b).mono hle⟩
theorem VL.get {f:Fm} {xs ys:List Value} (h:VL f xs ys) {i:Nat} {v:Value} (hi:xs[i]? =some v):∃v',ys[i]? =some v'/\V f v v':=by
 have hlt:i<ys.length:=by rw[<-h.1];exact(zan.1 hi).1
 exact⟨ys[i],zah hlt,h.2 i _ _ hi (zah hlt)⟩
theorem VL.take {f:Fm} {xs ys:List Value} (h:VL f xs ys) (n:Nat):VL f (xs.take n) (ys.take n):=by
 refine⟨by simp[h.1],fun i v v' h1 h2=> ?_⟩;rw[zau]at h1 h2
 split at h1
 . rename_i hi;rw[if_pos hi]at h2;exact h.2 i v v' h1 h2
 . cases h1
theorem VL.drop {f:Fm} {xs ys:List Value} (h:VL f xs ys) (n:Nat):VL f (xs.drop n) (ys.drop n):=by
 refine⟨by simp[h.1],fun i v v' h1 h2=> ?_⟩;rw[zaA]at h1 h2;exact h.2 _ v v' h1 h2
theorem VL.set {f:Fm} {xs ys:List Value} (h:VL f xs ys) (i:Nat) {v v':Value} (hv:V f v v'):VL f (xs.set i v) (ys.set i v'):=by
 refine⟨by simp[h.1],fun j u u' h1 h2=> ?_⟩;rw[zbo]at h1 h2;rw[h.1]at h1
 split at h1
 . rename_i e;rw[if_pos e]at h2
   split at h1
   . rename_i hl;rw[if_pos hl]at h2;simp at h1 h2;subst h1;subst h2;exact hv
   . cases h1
 . rename_i e;rw[if_neg e]at h2;exact h.2 j u u' h1 h2
theorem VL.Qf {f:Fm} {x x':Array Value} (h:V f (.agg x) (.agg x')):VL f x.toList x'.toList/\∀v∈x.toList,bj v=true:=by
 cases h with
 |agg _ _ hx hc vx=>
  refine⟨⟨by simpa using hx,fun i v v' a b=>vx i v v' (by simpa using a) (by simpa using b)⟩,fun v hv=> ?_⟩;obtain⟨i,hi⟩:=zbK hv;exact hc i v (by simpa using hi)
theorem V.Fg {f:Fm} {x x':List Value} (h:VL f x x') (hc:∀v∈x,bj v=true):V f (.agg x.toArray) (.agg x'.toArray):=
 .agg _ _ (by simpa using h.1) (fun i v a=>hc v (zaQ (by simpa using a))) (fun i v v' a b=>h.2 i v v' (by simpa using a) (by simpa using b))
theorem V.br {f:Fm} {v v':Value} {cs:List Value} (h:V f v v') (hc:Ev.br v=some cs):VL f cs v'.cells.toList/\∀u∈cs,bj u=true:=by
 cases h with
 |agg x x' hx hcx vx=>
  simp[Ev.br]at hc;subst hc;exact VL.Qf (.agg x x' hx hcx vx)
 |tuple=>simp[Ev.br]at hc
 |bool b=>simp[Ev.br]at hc;subst hc;exact⟨.cons (.bool b) (.nil f),by simp[bj]⟩
 |int k n=>simp[Ev.br]at hc;subst hc;exact⟨.cons (.int k n) (.nil f),by simp[bj]⟩
 |str s=>simp[Ev.br]at hc;subst hc;exact⟨.cons (.str s) (.nil f),by simp[bj]⟩
 |E4=>simp[Ev.br]at hc;subst hc;exact⟨.cons .E4 (.nil f),by simp[bj]⟩
 |dr=>simp[Ev.br]at hc;subst hc;exact⟨.cons .dr (.nil f),by simp[bj]⟩
 |nilFunc=>simp[Ev.br]at hc;subst hc;exact⟨.cons .nilFunc (.nil f),by simp[bj]⟩
 |nilIface=>simp[Ev.br]at hc;subst hc;exact⟨.cons .nilIface (.nil f),by simp[bj]⟩
 |ptr b off l h=>simp[Ev.br]at hc;subst hc;exact⟨.cons (.ptr b off l h) (.nil f),by simp[bj]⟩
 |slX b off n c l a h ha=>simp[Ev.br]at hc;subst hc;exact⟨.cons (.slX b off n c l a h ha) (.nil f),by simp[bj]⟩
 |slL b off e n c lR c' l h hn hc' hr ho=>simp[Ev.br]at hc;subst hc;exact⟨.cons (.slL b off e n c lR c' l h hn hc' hr ho) (.nil f),by simp[bj]⟩
 |func g x x' y y' hx hy vx vy=>simp[Ev.br]at hc;subst hc;exact⟨.cons (.func g x x' y y' hx hy vx vy) (.nil f),by simp[bj]⟩
structure R (f : Fm) (H : ag) (w : World) : Prop where
 blk:∀x b,H.get x=some b->∃l C e fr,f x=some l/\w.heap[l.blk]? =some (.cells C e fr)/\
  (∀(i:Nat) v,b.cells[i]? =some v->bj v=true/\∃v',C[l.off+i]? =some v'/\V f v v')/\
  (H.rG x b=true->fr=(0,0)/\l.room<=C.size)
 big:∀x l,f x=some l->l.blk<w.heap.size
 lk:H.lock<=H.size
 inj:∀x y b c l m,H.get x=some b->H.get y=some c->H.rG x b=true->x≠y->f x=some l->f y=some m->l.blk≠m.blk
def gm (f:Fm) (H:ag) (cb:Nat):Prop:=∃x b l,H.get x=some b/\H.rG x b=true/\f x=some l/\l.blk=cb
structure Stp (f : Fm) (H : ag) (w : World) (f' : Fm) (H' : ag) (w' : World) : Prop where
 le:Le f f'
 out:∀x,¬(H.size<=x/\x<H'.size)->f' x=f x
 size:H.size<=H'.size
 lock:H'.lock=H.lock
 hid:H'.hid=H.hid
 root:∀x,x<H.size->x<H.lock->H'.root.get x=H.root.get x
 gu:w.heap.size<=w'.heap.size
 os:w'.os=w.os
 tape:w'.tape=w.tape
 output:w'.output=w.output
 fJ:∀cb,cb<w.heap.size->¬gm f H cb->w'.heap[cb]? =w.heap[cb]?
 own:∀cb,cb<w.heap.size->gm f' H' cb->gm f H cb
theorem Stp.refl (f:Fm) (H:ag) (w:World):Stp f H w f H w:=
 ⟨.refl f,fun _ _=>rfl,zap _,rfl,rfl,fun _ _ _=>rfl,zap _,rfl,rfl,rfl,fun _ _ _=>rfl,fun _ _ h=>h⟩
theorem Stp.trans {f g h:Fm} {A B C:ag} {u v w:World} (a:Stp f A u g B v) (b:Stp g B v h C w):Stp f A u h C w where
 le:=a.le.trans b.le
 out x hx:=by
  have:=a.size;have:=b.size;rw[b.out x (by omega),a.out x (by omega)]
 size:=zaP a.size b.size
 lock:=b.lock.trans a.lock
 hid:=b.hid.trans a.hid
 root x h1 h2:=(b.root x (zaD h1 a.size) (by rw[a.lock];exact h2)).trans (a.root x h1 h2)
 gu:=zaP a.gu b.gu
 os:=b.os.trans a.os
 tape:=b.tape.trans a.tape
 output:=b.output.trans a.output
 fJ cb h1 h2:=(b.fJ cb (zaD h1 a.gu) (fun h=>h2 (a.own cb h1 h))).trans (a.fJ cb h1 h2)
 own cb h1 h2:=a.own cb h1 (b.own cb (zaD h1 a.gu) h2)
theorem Stp.drew {f f':Fm} {H H':ag} {w w':World} (h:Stp f H w.drew f' H' w'):Stp f H w f' H' w':=
 ⟨h.le,h.out,h.size,h.lock,h.hid,h.root,h.gu,h.os,h.tape,h.output,h.fJ,h.own⟩
theorem R.drew {f:Fm} {H:ag} {w:World} (h:R f H w):R f H w.drew:=⟨h.blk,h.big,h.lk,h.inj⟩
theorem aO {H:ag} {x:Nat} {b:Blk}:H.rG x b=true↔H.lock<=x:=by simp[ag.rG]
theorem R.cells {f:Fm} {H:ag} {w:World} (h:R f H w) {b off n:Nat} {cs:List Value} (hg:cT H b off n=some cs):
 cs.length=n/\∃l C e fr,f b=some l/\w.heap[l.blk]? =some (.cells C e fr)/\
  ∃cs',VL f cs cs'/\(∀u∈cs,bj u=true)/\∀(j:Nat) v,cs'[j]? =some v->C[l.off+off+j]? =some v:=by
 unfold cT at hg;cases hb:H.get b with
 |none=>simp[hb]at hg
 |some k=>
  simp only[hb]at hg
  split at hg
  . rename_i hl;cases hg;obtain⟨l,C,e,fr,hf,hw,hc,_⟩:=h.blk b k hb;have hlen:((k.cells.drop off).take n).length=n:=by simp;omega
    refine⟨hlen,l,C,e,fr,hf,hw,((List.range n).map fun j=>C.getD (l.off+off+j) Go.undef),⟨by simp;omega, ?_⟩, ?_, ?_⟩
    . intro i v v' h1 h2;rw[zau]at h1
      split at h1
      . rename_i hi;rw[zaA]at h1;obtain⟨_,v'',By,hV⟩:=hc _ v h1;simp[hi]at h2;rw[show l.off+(off+i)=l.off+off+i by omega]at By;simp[By]at h2;subst h2;exact hV
      . cases h1
    . intro u hu;obtain⟨i,hi⟩:=zbK hu;rw[zau]at hi
      split at hi
      . rw[zaA]at hi;exact(hc _ u hi).1
      . cases hi
    . intro j v hj;have hjn:j<n:=by
       have:=(zan.1 hj).1;simpa using this
      have h1:k.cells[off+j]? =some k.cells[off+j]:=zah (by omega);obtain⟨_,v'',By,_⟩:=hc _ _ h1;rw[show l.off+(off+j)=l.off+off+j by omega]at By;simp[hjn,By]at hj;subst hj;exact By
  . cases hg
theorem xx (w:World) (o:Obj):(w.alloc o).heap[w.heap.size]? =some o:=by
 show(w.heap.push o)[w.heap.size]? =_;simp
theorem oZ (w:World) (o:Obj) {k:Nat} (h:k<w.heap.size):(w.alloc o).heap[k]? =w.heap[k]? :=by
 show(w.heap.push o)[k]? =_;rw[Array.getElem?_push,if_neg (by omega)]
theorem R.push {f:Fm} {H:ag} {w:World} (h:R f H w) (bo:f H.size=none) (room:Nat) (cs:List Value) (C:Array Value) (e:TypeId)
 (hc:∀u∈cs,bj u=true) (hv:∀(i:Nat) v,cs[i]? =some v->∃v',C[i]? =some v'/\V f v v') (hr:room<=C.size):
 ∃f',f' H.size=some ⟨w.heap.size,0,room⟩/\Stp f H w f' (aF H cs) (w.alloc (.cells C e))/\R f' (aF H cs) (w.alloc (.cells C e)):=by
 let f':Fm:=fun x=>if x=H.size then some ⟨w.heap.size,0,room⟩else f x
 have hle:Le f f':=by
  intro x l hx
  by_cases e:x=H.size
  . subst e;rw[bo]at hx;cases hx
  . simp[f',e,hx]
 have hsz:(w.alloc (.cells C e)).heap.size=w.heap.size+1:=by show(w.heap.push _).size=_;simp
 have hold:∀x b,(aF H cs).get x=some b->x≠H.size->H.get x=some b/\f' x=f x:=by
  intro x b hx hne;have hlt:x<H.size:=by have:=ag.aZ hx;simp[aF]at this;omega
  refine⟨?_,by simp[f',hne]⟩
  rwa [aF,ag.eT _ _ _ hlt]at hx
 have fk:∀b,(aF H cs).get H.size=some b->b=⟨cs⟩:=by
  intro b hb;have:=(ag.aM hb).1;rw[aF,ag.bV]at this;simpa using this.symm
 have hf0:f' H.size=some ⟨w.heap.size,0,room⟩:=by simp[f']
 refine⟨f',hf0,⟨hle, ?_, ?_,rfl,rfl, ?_,by omega,rfl,rfl,rfl, ?_, ?_⟩,⟨?_, ?_, ?_, ?_⟩⟩
 . intro x hx;simp[aF]at hx
   by_cases e:x=H.size
   . omega
   . simp[f',e]
 . simp[aF]
 . intro x hx _;rw[aF,ag.bV,if_neg (by omega)]
 . intro cb hcb _;exact oZ w _ hcb
 . intro cb hcb ⟨x,b,l,hx,hm,hl,hb⟩
   by_cases e:x=H.size
   . subst e;rw[hf0]at hl;cases hl;simp at hb;omega
   . obtain⟨h1,h2⟩:=hold x b hx e;exact⟨x,b,l,h1,by simpa[aO,aF]using hm,by rw[<-h2];exact hl,hb⟩
 . intro x b hx
   by_cases e:x=H.size
   . subst e;have:=fk b hx;subst this;refine⟨_,C,_,_,hf0,xx w _, ?_, ?_⟩
     . intro i v hi;obtain⟨v',h1,h2⟩:=hv i v hi;exact⟨hc v (zaQ hi),v',by simpa using h1,h2.mono hle⟩
     . intro _;exact⟨rfl,hr⟩
   . obtain⟨h1,h2⟩:=hold x b hx e;obtain⟨l,C',e',fr,hf,hw,hcs,hm⟩:=h.blk x b h1;refine⟨l,C',e',fr,by rw[h2];exact hf, ?_, ?_, ?_⟩
     . rw[oZ w _ (h.big x l hf)];exact hw
     . intro i v hi;obtain⟨a1,v',a2,a3⟩:=hcs i v hi;exact⟨a1,v',a2,a3.mono hle⟩
     . intro hmm;exact hm (by simpa[aO,aF]using hmm)
 . intro x l hx;rw[hsz]
   by_cases e:x=H.size
   . subst e;rw[hf0]at hx;cases hx;simp
   . have:=h.big x l (by simpa[f',e]using hx);omega
 . have:=h.lk;simp[aF];omega
 . intro x y b c l m hx hy hm hne hl hmm
   by_cases ex:x=H.size
   . subst ex;rw[hf0]at hl;cases hl;obtain⟨h1,h2⟩:=hold y c hy (zcn hne);have:=h.big y m (by rw[<-h2];exact hmm);simp;omega
   . obtain⟨h1,h2⟩:=hold x b hx ex
     by_cases ey:y=H.size
     . subst ey;rw[hf0]at hmm;cases hmm;have:=h.big x l (by rw[<-h2];exact hl);simp;omega
     . obtain⟨h3,h4⟩:=hold y c hy ey;exact h.inj x y b c l m h1 h3 (by simpa[aO,aF]using hm) hne (by rw[<-h2];exact hl) (by rw[<-h4];exact hmm)
theorem R.store {f:Fm} {H H':ag} {w:World} (h:R f H w) {b off:Nat} {vs vs':List Value} (hs:setCells H b off vs=some H') (hv:VL f vs vs') (hc:∀u∈vs,bj u=true):
 ∃l C e,f b=some l/\w.heap[l.blk]? =some (.cells C e (0,0))/\l.off+off+vs'.length<=C.size/\
  Stp f H w f H' (w.setRow l.blk (C.toList.take (l.off+off)++vs'++C.toList.drop (l.off+off+vs'.length)).toArray)/\
  R f H' (w.setRow l.blk (C.toList.take (l.off+off)++vs'++C.toList.drop (l.off+off+vs'.length)).toArray):=by
 unfold setCells at hs;cases hb:H.get b with
 |none=>simp[hb]at hs
 |some k=>
  simp only[hb]at hs
  split at hs
  . rename_i eJ;simp only[zae,zag]at eJ;obtain⟨⟨hm,qY⟩,hlen⟩:=eJ;cases hs;obtain⟨l,C,e,fr,hf,hw,hcs,hmm⟩:=h.blk b k hb;obtain⟨hfr,kO⟩:=hmm hm;subst hfr;have hvl:=hv.1;have hCs:∀i,i<k.cells.length->l.off+i<C.size:=by
     intro i hi;obtain⟨_,v',hv',_⟩:=hcs i _ (zah hi);exact(zaI.1 hv').1
    have qw:l.off+off+vs'.length<=C.size:=by
     have:=hCs (off+vs'.length-1) (by omega);omega
    let D:Array Value:=(C.toList.take (l.off+off)++vs'++C.toList.drop (l.off+off+vs'.length)).toArray
    have hD:(C.toList.take (l.off+off)++vs'++C.toList.drop (l.off+off+vs'.length)).toArray=D:=rfl;have SD:D.size=C.size:=by simp[D];omega
    have SE:∀i,D[l.off+i]? =if i<off then C[l.off+i]? else if i<off+vs'.length then vs'[i-off]? else C[l.off+i]? :=by
     intro i;simp only[D,List.getElem?_toArray,zaU,zab,zav,Array.length_toList,zau,zaA];have KJ:min (l.off+off) C.size=l.off+off:=by omega
     rw[KJ]
     by_cases h1:i<off
     . rw[if_pos (by omega),if_pos (by omega),if_pos (by omega),if_pos h1];simp
     . by_cases h2:i<off+vs'.length
       . rw[if_pos (by omega),if_neg (by omega),if_neg h1,if_pos h2];congr 1;omega
       . rw[if_neg (by omega),if_neg h1,if_neg h2];simp;congr 1;omega
    have iU:∀x c,(H.put b (some ⟨k.cells.take off++vs++k.cells.drop (off+vs.length)⟩)).get x=some c->
     (x=b/\c=⟨k.cells.take off++vs++k.cells.drop (off+vs.length)⟩)\/(x≠b/\H.get x=some c):=by
     intro x c hx
     by_cases ex:x=b
     . subst ex;rw[ag.jq H x _ hb]at hx;exact .inl ⟨rfl,(zbL hx).symm⟩
     . rw[ag.fW _ _ _ _ ex]at hx;exact .inr ⟨ex,hx⟩
    have afm:H.rG b k=true:=hm;refine⟨l,C,e,hf,hw,qw, ?_, ?_⟩
    . refine⟨.refl f,fun _ _=>rfl,zap _,rfl,rfl, ?_,by simp,rfl,rfl,rfl, ?_, ?_⟩
      . intro x _ hx;rw[ag.cW,if_neg];intro ex;have:=aO.1 hm;omega
      . intro cb _ hn;exact setRow_other w l.blk cb _ (fun ex=>hn ⟨b,k,l,hb,hm,hf,ex.symm⟩)
      . intro cb _ ⟨x,c,m,hx,hxm,hfm,hcb⟩;rcases iU x c hx with⟨rfl,rfl⟩|⟨_,hx'⟩
        . exact⟨x,k,m,hb,by simpa[aO]using hxm,hfm,hcb⟩
        . exact⟨x,c,m,hx',by simpa[aO]using hxm,hfm,hcb⟩
    . refine⟨?_,by simpa using h.big,h.lk, ?_⟩
      . intro x c hx;rcases iU x c hx with⟨rfl,rfl⟩|⟨hne,hx'⟩
        . refine⟨l,D,e,(0,0),hf,setRow_heap w l.blk C _ e (0,0) hw, ?_, ?_⟩
          . intro i v hi;rw[SE i];simp only[zaU,zab,zav,zau,zaA]at hi;have KJ:min off k.cells.length=off:=by omega
            rw[KJ]at hi
            by_cases h1:i<off
            . rw[if_pos (by omega),if_pos h1,if_pos h1]at hi;rw[if_pos h1];exact hcs i v hi
            . by_cases h2:i<off+vs.length
              . rw[if_pos (by omega),if_neg h1]at hi;rw[if_neg h1,if_pos (by omega)];obtain⟨v',h3,h4⟩:=hv.get hi;exact⟨hc v (zaQ hi),v',h3,h4⟩
              . rw[if_neg (by omega)]at hi;rw[if_neg h1,if_neg (by omega)];have:off+vs.length+(i-(off+vs.length))=i:=by omega
                rw[this]at hi;exact hcs i v hi
          . intro hxm;refine⟨rfl, ?_⟩;simp only[SD];exact kO
        . obtain⟨m,C',e',fr,hfm,hw',Z3,Z4⟩:=h.blk x c hx';have Z5:m.blk≠l.blk:=zcn (h.inj b x k c l m hb hx' hm (zcn hne) hf hfm);exact⟨m,C',e',fr,hfm,by rw[setRow_other w l.blk m.blk _ Z5];exact hw',Z3,fun hxm=>Z4 (by simpa[aO]using hxm)⟩
      . intro x y c d m n hx hy hxm hne hfm hfn;have hx1:∃c',H.get x=some c'/\H.rG x c'=true:=by
         rcases iU x c hx with⟨rfl,rfl⟩|⟨_,hx'⟩
         . exact⟨k,hb,hm⟩
         . exact⟨c,hx',by simpa[aO]using hxm⟩
        have hy1:∃d',H.get y=some d':=by
         rcases iU y d hy with⟨rfl,rfl⟩|⟨_,hy'⟩
         . exact⟨k,hb⟩
         . exact⟨d,hy'⟩
        obtain⟨c',hc',hcm⟩:=hx1;obtain⟨d',hd'⟩:=hy1;exact h.inj x y c' d' m n hc' hd' hcm hne hfm hfn
  . cases hs
end
end Go.Proofs.YtfaojedfnjdnnaaGreat.Ev
namespace Go.Proofs.YtfaojedfnjdnnaaGreat.Ev
noncomputable section
open Go
section
variable {P : Program} {f : Fm} {H : ag} {w : World}
theorem Y3 {f:Fm} {xs ys:List Value} (h:VL f xs ys):ys.length=xs.length:=h.1.symm
theorem qD {t:TypeId} {d:TypeDesc} (hu:P.underlying t=some d):(isAgg t).run P w= .ok (nc d) w:=by
 cases d<;>simp[isAgg,run_underlying hu,nc]
theorem run_sizeOf {t:TypeId} {i:TypeInfo} (hi:P.info? t=some i):(sizeOf t).run P w= .ok i.size w:=by simp[sizeOf,typeInfo,hi]
theorem Addr.add_eq (b o n:Nat):(⟨b,o,none⟩:Addr).add n=⟨b,o+n,none⟩:=by
 unfold Addr.add
 split
 . rename_i h;subst h;rfl
 . rfl
theorem cellAt {g:Nat} {C:Array Value} {e:TypeId} {fr:Nat × Nat} (hw:w.heap[g]? =some (.cells C e fr)) (o:Nat):w.cell? ⟨g,o,none⟩=C[o]? :=by
 simp[World.cell?,hw]
theorem zy {g o:Nat} {C:Array Value} {e:TypeId} {fr:Nat × Nat} (hw:w.heap[g]? =some (.cells C e fr)) (cs:List Value)
 (h:∀(j:Nat) v,cs[j]? =some v->C[o+j]? =some v):(loadCells ⟨g,o,none⟩ cs.length).run P w= .ok cs.toArray w:=
 run_loadCells_list w _ cs fun j v hj=>by rw[Addr.add_eq,cellAt hw];exact h j v hj
theorem pH (hR:R f H w) {t:TypeId} {p p' v:Value} (hp:V f p p') (h:cI P H t p=some v):
 ∃v',(Instr.loadAt t p').run P w= .ok v' w/\V f v v':=by
 cases hp<;>try (simp[cI]at h;done)
 case ptr b off l hl=>
  simp only[cI]at h;cases hu:P.underlying t with
  |none=>simp[hu]at h
  |some d=>
   cases hi:P.info? t with
   |none=>simp[hu,hi]at h
   |some i=>
    simp only[hu,hi]at h;cases ha:nc d with
    |true=>
     simp only[ha,zai]at h;obtain⟨cs,hg,rfl⟩:=h;obtain⟨hlen,l',C,e,fr,hl',hw,cs',hvl,dN,hc⟩:=hR.cells hg;rw[hl]at hl';cases hl';have hr:=zy (P:=P) hw cs' hc;rw[Y3 hvl,hlen]at hr;refine⟨.agg cs'.toArray, ?_,V.Fg hvl dN⟩;simp[Instr.loadAt,Instr.sureAddr,loadVar,qD hu,ha,run_sizeOf hi,hr]
    |false=>
     simp only[ha]at h
     split at h
     . rename_i u rest hg;cases h;obtain⟨hlen,l',C,e,fr,hl',hw,cs',hvl,dN,hc⟩:=hR.cells hg;rw[hl]at hl';cases hl';obtain⟨v',hv',hV⟩:=hvl.get (i:=0) (by simp;rfl);have:=hc 0 v' hv';refine⟨v', ?_,hV⟩;simp only[zbc]at this;simp[Instr.loadAt,Instr.sureAddr,loadVar,qD hu,ha,run_load,cellAt hw,this]
     . cases h
theorem DT {t:TypeId} {i:TypeInfo} (hi:P.info? t=some i) {g o:Nat} {C:Array Value} {e:TypeId} (hw:w.heap[g]? =some (.cells C e (0,0)))
 (v:Value) (hs:v.cells.size=i.size) (qw:o+v.cells.toList.length<=C.size) (hc:∀u∈v.cells.toList,bj u=true):
 (storeVar t ⟨g,o,none⟩ v).run P w= .ok () (w.setRow g (C.toList.take o++v.cells.toList++C.toList.drop (o+v.cells.toList.length)).toArray):=by
 have:=run_storeCells_at P g o e v.cells.toList 0 C w hw (by simpa using qw) (fun u hu=>sA (hc u hu));simp only[zbc]at this;simp[storeVar,run_sizeOf hi,hs,this]
theorem EG (hR:R f H w) {t:TypeId} {p p' v v':Value} {H':ag} (hp:V f p p') (hv:V f v v') (h:pE P H t p v=some H'):
 ∃w',(Instr.storeAt t p' v').run P w= .ok () w'/\Stp f H w f H' w'/\R f H' w':=by
 cases hp<;>try (simp[pE]at h;done)
 case ptr b off l hl=>
  simp only[pE]at h;cases hcs:br v with
  |none=>simp[hcs]at h
  |some cs=>
   cases hi:P.info? t with
   |none=>simp[hcs,hi]at h
   |some i=>
    simp only[hcs,hi]at h
    split at h
    . rename_i hlen;obtain⟨hvl,dN⟩:=hv.br hcs;obtain⟨l',C,e,hl',hw,qw,hs,hr⟩:=hR.store h hvl dN;rw[hl]at hl';cases hl';have KK:∀u∈v'.cells.toList,bj u=true:=by
       intro u hu;obtain⟨j,hj⟩:=zbK hu;have hjl:j<cs.length:=by rw[hvl.1];exact(zan.1 hj).1
       have h1:=zah hjl;rw[(hvl.2 j _ _ h1 hj).cell];exact dN _ (zbw hjl)
      have hsz:v'.cells.size=i.size:=by have:=hvl.1;simp at this;omega
      exact⟨_,by simp only[Instr.storeAt,Instr.sureAddr,Sem.run_bind,Sem.run_pure,Result.andThen_ok];exact DT hi hw v' hsz qw KK,hs,hr⟩
    . cases h
theorem iE {t:TypeId} {x x':Array Value} {off:Nat} {v:Value} (hx:V f (.agg x) (.agg x')) (h:jH P t x off=some v):
 ∃v',(part t x' off).run P w= .ok v' w/\V f v v':=by
 unfold jH at h;cases hu:P.underlying t with
 |none=>simp[hu]at h
 |some d=>
  cases hi:P.info? t with
  |none=>simp[hu,hi]at h
  |some i=>
   simp only[hu,hi]at h;obtain⟨hvl,dN⟩:=VL.Qf hx;cases ha:nc d with
   |true=>
    simp only[ha]at h
    split at h
    . rename_i hle;cases h;refine⟨.agg (x'.extract off (off+i.size)),by simp[part,qD hu,ha,run_sizeOf hi], ?_⟩;have h1:x.extract off (off+i.size)=((x.toList.drop off).take i.size).toArray:=by
       apply Array.ext';simp[List.extract_eq_take_drop]
      have h2:x'.extract off (off+i.size)=((x'.toList.drop off).take i.size).toArray:=by
       apply Array.ext';simp[List.extract_eq_take_drop]
      rw[h1,h2];refine V.Fg ((hvl.drop off).take i.size) fun u hu=>dN u (List.mem_of_mem_drop (List.mem_of_mem_take hu))
    . cases h
   |false=>
    simp only[ha]at h;obtain⟨v',h1,h2⟩:=hvl.get (i:=off) (v:=v) (by simpa using h);have h1':x'[off]? =some v':=by simpa using h1
    exact⟨v',by simp[part,qD hu,ha,h1'],h2⟩
theorem M9:∀(d:Nat) (t:TypeId) (x y x' y':Value) (b:Bool),V f x x'->V f y y'->eqE P d t x y=some b->(Op.equalIn d t x' y').run P w= .ok b w:=by
 intro d
 induction d with
 |zero=>intro t x y x' y' b _ _ h;simp[eqE]at h
 |succ d ih=>
  intro t x y x' y' b hx hy h;cases hu:P.underlying t with
  |none=>simp[eqE,hu]at h
  |some D=>
   cases D<;>cases hx<;>cases hy<;>simp only[eqE,hu]at h<;>try (cases h;done)
   case bool.bool.bool a c=>cases h;simp[Op.equalIn,run_underlying hu]
   case int.int.int k a n k' m=>
    split at h
    . rename_i e;cases h;subst e;simp[Op.equalIn,run_underlying hu]
    . cases h
   case struct.agg.agg fs xs xs' hxs hxc hxv ys ys' hys hyc hyv=>
    split at h
    . cases h
    . rename_i hst;have afn:P.stoodInHeld t=false:=by simpa using hst
      have hfo:P.fieldsOf t=fs:=by simp[Program.fieldsOf,hu]
      rw[run_equalIn_struct w d t xs' ys' (by rw[hfo];exact hu) afn,hfo];generalize fs.toList=l at h
      induction l generalizing b with
      |nil=>simp at h;subst h;simp[Op.eqFields]
      |cons fd l ihl=>
       simp only[List.foldr_cons]at h;simp only[Op.eqFields]
       by_cases hn:fd.name≠ "_"
       . simp only[hn,zbh,ne_eq,not_false_eq_true]at h⊢;cases h1:jH P fd.type xs fd.offset with
         |none=>simp[h1]at h
         |some a=>
          cases h2:jH P fd.type ys fd.offset with
          |none=>simp[h1,h2]at h
          |some c=>
           simp only[h1,h2]at h;obtain⟨a',ha',hVa⟩:=iE (w:=w) (V.agg xs xs' hxs hxc hxv) h1;obtain⟨c',hc',hVc⟩:=iE (w:=w) (V.agg ys ys' hys hyc hyv) h2;cases h3:eqE P d fd.type a c with
           |none=>simp[h3]at h
           |some r=>
            have h4:=ih fd.type a c a' c' r hVa hVc h3;cases r with
            |true=>simp only[h3]at h;simp[ha',hc',h4];exact ihl b h
            |false=>simp only[h3]at h;cases h;simp[ha',hc',h4]
       . simp only[hn,zbp]at h⊢;exact ihl b h
   case array.agg.agg len elem xs xs' hxs hxc hxv ys ys' hys hyc hyv=>
    cases hi:P.info? elem with
    |none=>simp[hi]at h
    |some i=>
     simp only[hi]at h;rw[run_equalIn_array w d xs' ys' hu hi];have hcs:P.cellsOf elem=i.size:=by simp[Program.cellsOf,hi]
     rw[hcs];generalize List.range len=l at h
     induction l generalizing b with
     |nil=>simp at h;subst h;simp[Op.eqItems]
     |cons j l ihl=>
      simp only[List.foldr_cons]at h;simp only[Op.eqItems];cases h1:jH P elem xs (j*i.size)with
      |none=>simp[h1]at h
      |some a=>
       cases h2:jH P elem ys (j*i.size)with
       |none=>simp[h1,h2]at h
       |some c=>
        simp only[h1,h2]at h;obtain⟨a',ha',hVa⟩:=iE (w:=w) (V.agg xs xs' hxs hxc hxv) h1;obtain⟨c',hc',hVc⟩:=iE (w:=w) (V.agg ys ys' hys hyc hyv) h2;cases h3:eqE P d elem a c with
        |none=>simp[h3]at h
        |some r=>
         have h4:=ih elem a c a' c' r hVa hVc h3;cases r with
         |true=>simp only[h3]at h;simp[ha',hc',h4];exact ihl b h
         |false=>simp only[h3]at h;cases h;simp[ha',hc',h4]
theorem xO {x x':Value} {b:Bool} (hx:V f x x') (h:isNil x=some b):isNil x'=some b:=by
 cases hx<;>simp[isNil]at h⊢<;>exact h
theorem ja {op:BinOp} {t:TypeId} {u v:Operand} {x y:Value} (h1:∀a b,¬(x= .agg a/\y= .agg b)) (h2:¬(x= .nilIface/\y= .nilIface)):
 (eqGuard op t u v x y).run P w= .ok () w:=by
 unfold eqGuard;cases op<;>simp<;>(split<;>simp_all)
theorem zv (t:TypeId) (x y:Value):Op.equal t x y=Op.equalIn (9999+1) t x y:=rfl
theorem run_equal_bool {t:TypeId} (hu:P.underlying t=some .bool) (a b:Bool):(Op.equal t (.bool a) (.bool b)).run P w= .ok (a==b) w:=by
 rw[zv];generalize 9999=n;simp only[Op.equalIn];simp[run_underlying hu]
theorem BU {t:TypeId} {d:TypeDesc} (hu:P.underlying t=some d) {x y:Value} {a c:Bool} (hr:Du d x y=true) (ha:isNil x=some a) (hc:isNil y=some c):
 (Op.equal t x y).run P w= .ok (a&&c) w:=by
 rw[zv];generalize 9999=n;unfold Du at hr
 split at hr
 . rename_i e p;cases p<;>simp[isNil]at ha hc<;>subst ha<;>subst hc<;>simp only[Op.equalIn]<;>simp[run_underlying hu]
 . rename_i e p _;cases p<;>simp[isNil]at ha hc<;>subst ha<;>subst hc<;>simp only[Op.equalIn]<;>simp[run_underlying hu]
 . rename_i e n1 c1 p n2 c2;cases p<;>simp[isNil]at ha hc<;>subst ha<;>subst hc<;>simp only[Op.equalIn]<;>simp[run_underlying hu]
 . rename_i e p n1 c1 n2 c2 _;cases p<;>simp[isNil]at ha hc<;>subst ha<;>subst hc<;>simp only[Op.equalIn]<;>simp[run_underlying hu]
 . cases hr
theorem xi {x:Value} {b:Bool} (h:isNil x=some b):(∃a,x= .pointer a)\/∃a n c,x= .slice a n c:=by
 cases x<;>simp[isNil]at h⊢
theorem X8 {d:TypeDesc} {x y x' y':Value} (hx:V f x x') (hy:V f y y') (h:Du d x y=true):Du d x' y'=true:=by
 unfold Du at h
 split at h
 . cases hx;cases hy<;>rfl
 . cases hy;cases hx<;>rfl
 . cases hx;cases hy<;>rfl
 . cases hy;cases hx<;>rfl
 . cases h
theorem tP {t:TypeId} {x y x' y':Value} {b:Bool} (hx:V f x x') (hy:V f y y') (h:gH P t x y=some b):
 (Op.equal t x' y').run P w= .ok b w/\∀op u v,(eqGuard op t u v x' y').run P w= .ok () w:=by
 unfold gH at h
 split at h
 ·
  split at h
  . cases h
  . rename_i hg;have hg':P.eqGuardType P.depth t=false:=by simpa using hg
    have:=M9 10000 t _ _ _ _ b (w:=w) hx hy h;refine⟨this,fun op u v=> ?_⟩;cases hx;cases hy;exact run_eqGuard_agg w op t u v _ _ hg'
 ·
  cases hx;cases hy
  split at h
  . rename_i hu;cases h;exact⟨run_equal_bool hu _ _,fun op u v=>ja (by simp) (by simp)⟩
  . cases h
 ·
  split at h
  . rename_i d a c hu ha hc
    split at h
    . rename_i hr;cases h;have ha':=xO hx ha;have hc':=xO hy hc;refine⟨BU hu (X8 hx hy hr) ha' hc',fun op u v=>ja ?_ ?_⟩
      . intro a1 b1 ⟨e1,e2⟩;subst e1;simp[isNil]at ha'
      . intro ⟨e1,e2⟩;subst e1;simp[isNil]at ha'
    . cases h
  . cases h
theorem DN {op:BinOp} {k:IntKind} {a b:Int} {t:TypeId} {v:Value} (h1:op≠.shl) (h2:op≠.shr) (h:mA op k a b=some v):
 (binOp op t (.int k a) (.int k b)).run P w= .ok v w/\V f v v:=by
 cases op<;>simp[mA]at h<;>first
  |(exact absurd rfl h1)
  |(exact absurd rfl h2)
  |(subst h;exact⟨by simp[binOp,Op.intArith,Op.intBits,Op.intCmp],by constructor⟩)
  |(obtain⟨hb,rfl⟩:=h;exact⟨by simp[binOp,Op.intDiv,hb],by constructor⟩)
theorem tD {op:BinOp} {k k':IntKind} {a b:Int} {t:TypeId} {v:Value} (h:qk op k a b=some v):
 (binOp op t (.int k a) (.int k' b)).run P w= .ok v w/\V f v v:=by
 unfold qk at h
 split at h
 . cases h
 . rename_i hb;cases op<;>simp at h<;>subst h<;>exact⟨by simp[binOp,Op.shift,hb],by constructor⟩
theorem Ki {op:BinOp} {t:TypeId} {x y x' y' v:Value} (hx:V f x x') (hy:V f y y') (h:jx P op t x y=some v):
 (∀u r,(eqGuard op t u r x' y').run P w= .ok () w)/\(binOp op t x' y').run P w= .ok v w/\V f v v:=by
 unfold jx at h
 split at h
 . cases hx;cases hy;refine⟨fun u r=>ja (by simp) (by simp), ?_⟩
   split at h
   . exact tD h
   . exact tD h
   . rename_i h1 h2
     split at h
     . rename_i e;subst e;exact DN h1 h2 h
     . cases h
 . rename_i hni;have key:∀b,gH P t x y=some b->binOp .eql t x' y'=(do pure (.bool (<-Op.equal t x' y')):Sem Value)/\binOp .neq t x' y'=(do pure (.bool (!(<-Op.equal t x' y'))):Sem Value):=by
    intro b hb;unfold gH at hb
    split at hb
    . cases hx;cases hy;exact⟨rfl,rfl⟩
    . cases hx;cases hy;exact⟨rfl,rfl⟩
    . split at hb
      . rename_i d a c hu ha hc;have ha':=xO hx ha;have hc':=xO hy hc;rcases xi ha' with⟨p,rfl⟩|⟨p,n,m,rfl⟩<;>rcases xi hc' with⟨q,rfl⟩|⟨q,n',m',rfl⟩<;>exact⟨rfl,rfl⟩
      . cases hb
   split at h
   . simp only[zai]at h;obtain⟨b,hb,rfl⟩:=h;obtain⟨h1,h2⟩:=tP (w:=w) hx hy hb;refine⟨fun u r=>h2 _ u r, ?_,.bool b⟩;rw[(key b hb).1];simp only[Sem.run_bind,h1,Result.andThen_ok,Sem.run_pure]
   . simp only[zai]at h;obtain⟨b,hb,rfl⟩:=h;obtain⟨h1,h2⟩:=tP (w:=w) hx hy hb;refine⟨fun u r=>h2 _ u r, ?_,.bool _⟩;rw[(key b hb).2];simp only[Sem.run_bind,h1,Result.andThen_ok,Sem.run_pure]
   . cases h
end
end
end Go.Proofs.YtfaojedfnjdnnaaGreat.Ev
namespace Go.Proofs.YtfaojedfnjdnnaaGreat.Ev
noncomputable section
open Go
section
variable {P : Program} {f : Fm} {H : ag} {w : World}
theorem Nm {op:UnOp} {x x' v:Value} (hx:V f x x') (h:unE op x=some v):(Op.unary op x').run P w= .ok v w/\V f v v:=by
 unfold unE at h
 split at h
 . cases hx;cases h;exact⟨by simp[Op.unary,Op.intArith],.int _ _⟩
 . cases hx;simp[mA]at h;subst h;exact⟨by simp[Op.unary,Op.intBits],.int _ _⟩
 . cases hx;cases h;exact⟨by simp[Op.unary],.bool _⟩
 . cases h
theorem Gl {s d:TypeId} {x x' v:Value} (hx:V f x x') (h:HZ P s d x=some v):(convert s d x').run P w= .ok v w/\V f v v:=by
 unfold HZ at h
 split at h
 . rename_i D k k' n hs hd;cases hx;cases h;exact⟨by simp[convert,run_underlying hs,run_underlying hd,Conv.intToInt],.int _ _⟩
 . cases h
theorem vb {s:TypeId} {x x' v:Value} {n:Nat} (hx:V f x x') (h:jJ P s x n=some v):
 ∃v',(Instr.fieldAt s x' n).run P w= .ok v' w/\V f v v':=by
 unfold jJ at h
 split at h
 . rename_i fs hs
   split at h
   . rename_i fd a hf;cases hi:P.info? fd.type with
     |none=>simp[hi]at h
     |some i=>
      simp only[hi]at h
      split at h
      . cases h
      . rename_i h0;cases h;cases hx with
        |ptr b off l hl=>
         refine⟨.pointer (some ⟨l.blk,l.off+(off+fd.offset),none⟩), ?_, ?_⟩
         . simp[Instr.fieldAt,run_underlying hs,hf,Instr.sureAddr,fieldPlace,run_sizeOf hi,h0,Addr.add_eq,zbe]
         . rw[Addr.add_eq];exact .ptr b _ l hl
   . cases h
 . cases h
theorem FF {s:TypeId} {x x' v:Value} {n:Nat} (hx:V f x x') (h:Bv P s x n=some v):
 ∃v',(Instr.field s x' n).run P w= .ok v' w/\V f v v':=by
 unfold Bv at h
 split at h
 . rename_i fs hs
   split at h
   . rename_i fd cs hf;cases hx with
     |agg _ x2 h1 h2 h3=>
      obtain⟨v',h4,h5⟩:=iE (w:=w) (V.agg _ x2 h1 h2 h3) h;exact⟨v',by simp[Instr.field,run_underlying hs,hf,asAgg,h4],h5⟩
   . cases h
 . cases h
theorem um {t:TypeId} {x ix x' ix' v:Value} (hx:V f x x') (hi:V f ix ix') (h:eE P t x ix=some v):
 ∃v',(Instr.indexAt t x' ix').run P w= .ok v' w/\V f v v':=by
 unfold eE at h
 split at h
 . rename_i k i;cases hi
   split at h
   . rename_i len elem a hu;cases hie:P.info? elem with
     |none=>simp[hie]at h
     |some ie=>
      simp only[hie]at h
      split at h
      . rename_i hb;cases h;cases hx with
        |ptr b off l hl=>
         refine⟨.pointer (some ⟨l.blk,l.off+(off+i.toNat*ie.size),none⟩), ?_, ?_⟩
         . simp[Instr.indexAt,asIntOf,run_underlying hu,Instr.sureAddr,hb,run_sizeOf hie,Addr.add_eq,zbe]
         . rw[Addr.add_eq];exact .ptr b _ l hl
      . cases h
   . rename_i elem bb oo sp len cap hu;cases hie:P.info? elem with
     |none=>simp[hie]at h
     |some ie=>
      simp only[hie]at h
      split at h
      . rename_i hb;cases h;cases hx with
        |slX b off _ _ l a hl ha=>
         have ha:a=⟨l.blk,l.off+oo,none⟩:=by rcases ha with h|h;exact h;omega
         subst ha;refine⟨.pointer (some ⟨l.blk,l.off+(oo+i.toNat*ie.size),none⟩), ?_,.ptr bb _ l hl⟩;simp[Instr.indexAt,asIntOf,run_underlying hu,hb,run_sizeOf hie,Addr.add_eq,zbe]
        |slL b off e _ _ lR c' l hl hn hc hr ho=>
         have:lR=l.off+oo:=ho (by omega);subst this;refine⟨.pointer (some ⟨l.blk,l.off+(oo+i.toNat*ie.size),none⟩), ?_,.ptr bb _ l hl⟩;simp[Instr.indexAt,asIntOf,run_underlying hu,hb,run_sizeOf hie,Addr.add_eq,zbe]
      . cases h
   . cases h
 . cases h
theorem Fk {t:TypeId} {x ix x' ix' v:Value} (hx:V f x x') (hi:V f ix ix') (h:qd P t x ix=some v):
 ∃v',(Instr.index t x' ix').run P w= .ok v' w/\V f v v':=by
 unfold qd at h
 split at h
 . rename_i k i;cases hi
   split at h
   . rename_i len elem cs hu;cases hie:P.info? elem with
     |none=>simp[hie]at h
     |some ie=>
      simp only[hie]at h
      split at h
      . rename_i hb;cases hx with
        |agg _ x2 h1 h2 h3=>
         obtain⟨v',h4,h5⟩:=iE (w:=w) (V.agg _ x2 h1 h2 h3) h;exact⟨v',by simp[Instr.index,asIntOf,run_underlying hu,hb,run_sizeOf hie,h4],h5⟩
      . cases h
   . rename_i s hu;cases hx
     split at h
     . rename_i h0
       split at h
       . rename_i b hb;cases h;have hb':s[i.toNat]? =some b:=hb;exact⟨_,by simp[Instr.index,asIntOf,run_underlying hu,h0,hb'],.int _ _⟩
       . cases h
     . cases h
   . cases h
 . cases h
theorem Bb {x x' v:Value} {n:Nat} (hx:V f x x') (h:sT x n=some v):
 ∃v',(Instr.extract x' n).run P w= .ok v' w/\V f v v':=by
 unfold sT at h
 split at h
 . rename_i vs;cases hx with
   |tuple _ x2 h1 h3=>
    have hlt:n<x2.size:=by rw[<-h1];exact(zaI.1 h).1
    exact⟨x2[n],by simp[Instr.extract,hlt],h3 n _ _ h (zaz hlt)⟩
 . cases h
def VO (f:Fm):Option Value->Option Value->Prop
 |none,none=>True
 |some a,some b=>V f a b
 |_,_=>False
theorem il {x x':Option Value} {d hi n:Nat} (hx:VO f x x') (h:jj x d hi=some n):
 (x'=none/\n=d)\/(∃k i,x'=some (.int k i)/\0<=i/\i<=(hi:Int)/\n=i.toNat):=by
 unfold jj at h
 split at h
 . cases x' with
   |none=>cases h;exact .inl ⟨rfl,rfl⟩
   |some v=>exact hx.elim
 . rename_i k i;cases x' with
   |none=>exact hx.elim
   |some v=>
    cases hx
    split at h
    . rename_i hb;cases h;exact .inr ⟨k,i,rfl,hb.1,hb.2,rfl⟩
    . cases h
 . cases h
theorem oS {b:Bool} {len cap hi lo:Nat} {lo' hi':Option Value}
 (h1:(hi'=none/\hi=len)\/(∃k i,hi'=some (.int k i)/\0<=i/\i<=(cap:Int)/\hi=i.toNat))
 (h2:(lo'=none/\lo=0)\/(∃k i,lo'=some (.int k i)/\0<=i/\i<=(hi:Int)/\lo=i.toNat)):
 (Instr.sliceBounds b len cap lo' hi' none).run P w= .ok (lo,hi,cap) w:=by
 rcases h1 with⟨rfl,rfl⟩|⟨k,i,rfl,h3,h4,rfl⟩<;>rcases h2 with⟨rfl,rfl⟩|⟨k',i',rfl,h5,h6,rfl⟩
 . simp[Instr.sliceBounds]
 . simp[Instr.sliceBounds,run_sliceBound w k' i' _ _ h5 h6]
 . simp[Instr.sliceBounds,run_sliceBound w k i _ _ h3 h4]
 . simp[Instr.sliceBounds,run_sliceBound w k i _ _ h3 h4,run_sliceBound w k' i' _ _ h5 h6]
theorem nX {x':Option Value} {d hi n:Nat} (h:(x'=none/\n=d)\/(∃k i,x'=some (.int k i)/\0<=i/\i<=(hi:Int)/\n=i.toNat)) (hd:d<=hi):n<=hi:=by
 rcases h with⟨_,rfl⟩|⟨k,i,_,h1,h2,rfl⟩
 . exact hd
 . omega
theorem Ja {x':Option Value} {d hi hi' n:Nat} (h:(x'=none/\n=d)\/(∃k i,x'=some (.int k i)/\0<=i/\i<=(hi:Int)/\n=i.toNat)) (hh:hi<=hi'):
 (x'=none/\n=d)\/(∃k i,x'=some (.int k i)/\0<=i/\i<=(hi':Int)/\n=i.toNat):=by
 rcases h with h|⟨k,i,h0,h1,h2,h3⟩
 . exact .inl h
 . exact .inr ⟨k,i,h0,h1,by omega,h3⟩
theorem pt {t elem:TypeId} {i:TypeInfo} (hu:P.underlying t=some (.slice elem)) (hi:P.info? elem=some i) {a:Option Addr} {len cap l h:Nat} {lo' hi':Option Value}
 (hb:(Instr.sliceBounds true len cap lo' hi' none).run P w= .ok (l,h,cap) w):
 (Instr.sliceAt t (.slice a len cap) lo' hi' none).run P w= .ok (.slice (if cap=l then a else a.map (·.add (l*i.size))) (h-l) (cap-l)) w:=by
 simp[Instr.sliceAt,Instr.slice,run_underlying hu,hb,run_sizeOf hi]
theorem pD {b:Bool} {len cap m hi lo:Nat} {lo':Option Value} {hi' mx':Value}
 (h0:∃k i,mx'= .int k i/\0<=i/\i<=(cap:Int)/\m=i.toNat) (h1:∃k i,hi'= .int k i/\0<=i/\i<=(m:Int)/\hi=i.toNat)
 (h2:(lo'=none/\lo=0)\/(∃k i,lo'=some (.int k i)/\0<=i/\i<=(hi:Int)/\lo=i.toNat)):
 (Instr.sliceBounds b len cap lo' (some hi') (some mx')).run P w= .ok (lo,hi,m) w:=by
 obtain⟨k0,i0,rfl,g1,g2,rfl⟩:=h0;obtain⟨k,i,rfl,h3,h4,rfl⟩:=h1;rcases h2 with⟨rfl,rfl⟩|⟨k',i',rfl,h5,h6,rfl⟩
 . simp[Instr.sliceBounds,run_sliceBound w k0 i0 _ _ g1 g2,run_sliceBound w k i _ _ h3 h4]
 . simp[Instr.sliceBounds,run_sliceBound w k0 i0 _ _ g1 g2,run_sliceBound w k i _ _ h3 h4,run_sliceBound w k' i' _ _ h5 h6]
theorem oN {t elem:TypeId} {i:TypeInfo} (hu:P.underlying t=some (.slice elem)) (hi:P.info? elem=some i) {a:Option Addr} {len cap l h m:Nat} {lo' hi' mx':Option Value}
 (hb:(Instr.sliceBounds true len cap lo' hi' mx').run P w= .ok (l,h,m) w):
 (Instr.sliceAt t (.slice a len cap) lo' hi' mx').run P w= .ok (.slice (if m=l then a else a.map (·.add (l*i.size))) (h-l) (m-l)) w:=by
 simp[Instr.sliceAt,Instr.slice,run_underlying hu,hb,run_sizeOf hi]
theorem BN {t:TypeId} {x x' v:Value} {lo lo':Option Value} {hi hi' mx mx':Value} (hx:V f x x') (hlo:VO f lo lo') (hhi:V f hi hi') (hmx:V f mx mx') (h:qW P t x lo hi mx=some v):
 ∃v',(Instr.sliceAt t x' lo' (some hi') (some mx')).run P w= .ok v' w/\V f v v':=by
 unfold qW at h
 split at h
 . rename_i elem hu
   split at h
   . rename_i a len cap i hie
     split at h
     . rename_i m hme
       split at h
       . rename_i hh hhe
         split at h
         . rename_i ll hle;have b0:∃k i,mx'= .int k i/\0<=i/\i<=(cap:Int)/\m=i.toNat:=by
            rcases il (x:=some mx) (x':=some mx') hmx hme with⟨h,_⟩|⟨k,i,h,r⟩
            . cases h
            . cases h;exact⟨k,i,rfl,r⟩
           have b1:∃k i,hi'= .int k i/\0<=i/\i<=(m:Int)/\hh=i.toNat:=by
            rcases il (x:=some hi) (x':=some hi') hhi hhe with⟨h,_⟩|⟨k,i,h,r⟩
            . cases h
            . cases h;exact⟨k,i,rfl,r⟩
           have b2:=il hlo hle;have hlh:ll<=hh:=nX b2 (zbt _);have hhm:hh<=m:=by obtain⟨_,i,_,h1,h2,rfl⟩:=b1;omega
           have hmc:m<=cap:=by obtain⟨_,i,_,h1,h2,rfl⟩:=b0;omega
           split at h
           . cases h;cases hx;have e0:m=0:=by omega
             have e1:hh=0:=by omega
             have e2:ll=0:=by omega
             subst e0;subst e1;subst e2;exact⟨_,oN hu hie (pD b0 b1 b2),by simpa using V.dr⟩
           . cases h;cases hx with
             |slX b off _ _ l a hl ha=>
              refine⟨_,oN hu hie (pD b0 b1 b2), ?_⟩
              by_cases e:m=ll
              . rw[if_pos e,if_pos e];refine .slX _ _ _ _ l a hl (ha.imp id fun h=> ?_);exact⟨by omega,by omega⟩
              . rw[if_neg e,if_neg e];rcases ha with rfl|h
                rotate_left
                . omega
                simp only[zbi,Addr.add_eq,zbe];exact .slX _ _ _ _ l _ hl (.inl rfl)
           . rename_i b off e
             split at h
             . cases h;cases hx with
               |slL _ _ _ _ _ lR c' l hl hn hc hr ho=>
                refine⟨_,oN hu hie (pD ?_ b1 b2), ?_⟩
                . obtain⟨k,i,e0,h1,h2,h3⟩:=b0;exact⟨k,i,e0,h1,by omega,h3⟩
                by_cases e:m=ll
                . rw[if_pos e,if_pos e];exact .slX _ _ _ _ l _ hl (.inr ⟨by omega,by omega⟩)
                . rw[if_neg e,if_neg e,ho (by omega)];simp only[zbi,Addr.add_eq,zbe];exact .slX _ _ _ _ l _ hl (.inl rfl)
             . cases h
         . cases h
       . cases h
     . cases h
   . cases h
 . cases h
theorem DX {t:TypeId} {x x' v:Value} {lo lo' hi hi':Option Value} (hx:V f x x') (hlo:VO f lo lo') (hhi:VO f hi hi') (h:pM P t x lo hi=some v):
 ∃v',(Instr.sliceAt t x' lo' hi' none).run P w= .ok v' w/\V f v v':=by
 unfold pM at h
 split at h
 . rename_i elem hu
   split at h
   . rename_i a len cap i hie
     split at h
     . rename_i hh hhe
       split at h
       . rename_i ll hle;have b1:=il hhi hhe;have b2:=il hlo hle;have hlh:ll<=hh:=nX b2 (zbt _)
         split at h
         . cases h;cases hx;have:hh<=0:=nX b1 (zap _);have e1:hh=0:=by omega
           have e2:ll=0:=by omega
           subst e1;subst e2;exact⟨_,pt hu hie (oS b1 b2),by simpa using V.dr⟩
         . cases h;cases hx with
           |slX b off _ _ l a hl ha=>
            refine⟨_,pt hu hie (oS b1 b2), ?_⟩
            by_cases e:cap=ll
            . rw[if_pos e,if_pos e];refine .slX _ _ _ _ l a hl (ha.imp id fun h=> ?_);have hhc:=nX b1 (show _<=cap by omega);exact⟨by omega,by omega⟩
            . rw[if_neg e,if_neg e];rcases ha with rfl|h
              rotate_left
              . have hhc:=nX b1 (show _<=cap by omega);omega
              simp only[zbi,Addr.add_eq,zbe];exact .slX _ _ _ _ l _ hl (.inl rfl)
         . rename_i b off e
           split at h
           . rename_i hes;cases h;cases hx with
             |slL _ _ _ _ _ lR c' l hl hn hc hr ho=>
              have hhc:hh<=cap:=nX b1 hn;refine⟨_,pt hu hie (oS (Ja b1 hc) b2), ?_⟩
              by_cases e1:c'=ll
              . have e2:cap=ll:=by omega
                rw[if_pos e1,if_pos e2];refine .slL b off e _ _ lR _ l hl (by omega) (by omega) ?_ (by omega);have:c'-ll=0:=by omega
                rw[this];have:=zbt (c'*e);omega
              . rw[if_neg e1];have hm:(c'-ll)*e+ll*i.size=c'*e:=by
                 rw[<-hes,<-za2];congr 1;omega
                by_cases e2:cap=ll
                . rw[if_pos e2];simp only[zbi,Addr.add_eq];exact .slL b off e _ _ (lR+ll*i.size) _ l hl (by omega) (by omega) (by omega) (by omega)
                . rw[if_neg e2];simp only[zbi,Addr.add_eq];refine .slL b _ e _ _ (lR+ll*i.size) _ l hl (by omega) (by omega) (by omega) (fun h0=> ?_);have:=ho (by omega);omega
           . cases h
       . cases h
     . cases h
   . cases h
 . rename_i n elem hu
   split at h
   . rename_i bb oo i hie
     split at h
     . rename_i hh hhe
       split at h
       . rename_i ll hle;have b1:=il hhi hhe;have b2:=il hlo hle;cases h;cases hx with
         |ptr _ _ l hl=>
          refine⟨.slice (some (if n=ll then⟨l.blk,l.off+oo,none⟩else(⟨l.blk,l.off+oo,none⟩:Addr).add (ll*i.size))) (hh-ll) (n-ll), ?_, ?_⟩
          . have:=oS (P:=P) (w:=w) (b:=false) b1 b2;simp[Instr.sliceAt,run_underlying hu,Instr.sureAddr,this,run_sizeOf hie]
          . by_cases e1:n=ll
            . rw[if_pos e1,if_pos e1];exact .slX _ _ _ _ l _ hl (.inl rfl)
            . rw[if_neg e1,if_neg e1,Addr.add_eq,zbe];exact .slX _ _ _ _ l _ hl (.inl rfl)
       . cases h
     . cases h
   . cases h
 . cases h
end
end
end Go.Proofs.YtfaojedfnjdnnaaGreat.Ev
namespace Go.Proofs.YtfaojedfnjdnnaaGreat.Ev
noncomputable section
open Go
section
variable {P : Program} {f : Fm} {H : ag} {w : World}
theorem lU (f:Fm) {z:Value} {cs:List Value} (h:gr z=some cs):z.cells.toList=cs/\VL f cs cs/\∀u∈cs,bj u=true:=by
 unfold gr at h;cases hv:br z with
 |none=>simp[hv]at h
 |some c=>
  simp only[hv]at h
  split at h
  . rename_i kQ;cases h;have hc:z.cells.toList=cs:=by
     cases z<;>simp[br]at hv<;>subst hv<;>rfl
    refine⟨hc,⟨rfl,fun i v v' h1 h2=> ?_⟩,fun u hu=> ?_⟩
    . rw[h1]at h2;cases h2;exact V.hZ f (zam.1 kQ v (zaQ h1))
    . have:=zam.1 kQ u hu;cases u<;>simp_all [hZ,bj]
  . cases h
theorem V.Sk {v v':Value} (h:V f v v') (hn:oU v=some v):VL f v.cells.toList v'.cells.toList/\∀u∈v.cells.toList,bj u=true:=by
 cases hc:Ev.br v with
 |none=>cases v<;>simp[Ev.br,oU]at hc hn
 |some cs=>
  have:=h.br hc;have e:v.cells.toList=cs:=by cases v<;>simp[Ev.br]at hc<;>subst hc<;>rfl
  rw[e];exact this
inductive PV (f : Fm) : List (Nat × Value) -> List (Nat × Value) -> Prop where
 |nil:PV f [] []
 |cons (i:Nat) (v v':Value) (r r':List (Nat × Value)) (h:V f v v') (hn:oU v=some v) (t:PV f r r'):PV f ((i,v)::r) ((i,v')::r')
theorem Ph (off:Nat):∀(xs xs':List Value) (k:Nat) (c c':Array Value),VL f xs xs'->(∀u∈xs,bj u=true)->VL f c.toList c'.toList->(∀u∈c.toList,bj u=true)->
 VL f ((xs.zipIdx k).foldl (fun cs (p:Value × Nat)=>cs.setIfInBounds (off+p.2) p.1) c).toList ((xs'.zipIdx k).foldl (fun cs (p:Value × Nat)=>cs.setIfInBounds (off+p.2) p.1) c').toList/\
 ∀u∈((xs.zipIdx k).foldl (fun cs (p:Value × Nat)=>cs.setIfInBounds (off+p.2) p.1) c).toList,bj u=true:=by
 intro xs
 induction xs with
 |nil=>
  intro xs' k c c' h _ hc hcc;cases xs' with
  |nil=>exact⟨by simpa using hc,by simpa using hcc⟩
  |cons=>have:=h.1;simp at this
 |cons x xs ih=>
  intro xs' k c c' h hx hc hcc;cases xs' with
  |nil=>have:=h.1;simp at this
  |cons y ys=>
   have h0:V f x y:=h.2 0 x y (by simp) (by simp);have ht:VL f xs ys:=⟨by have:=h.1;simpa using this,fun i v v' a b=>h.2 (i+1) v v' (by simpa using a) (by simpa using b)⟩
   simp only[List.zipIdx_cons,zbX];refine ih ys (k+1) _ _ ht (fun u hu=>hx u (by simp[hu])) ?_ ?_
   . rw[zb7,zb7];exact hc.set _ h0
   . intro u hu;rw[zb7]at hu;rcases zbM hu with h1|rfl
     . exact hcc u h1
     . exact hx u (by simp)
theorem EP {place:Nat->Option (Nat × Nat)}:∀(ps ps':List (Nat × Value)) (c c' out:Array Value),PV f ps ps'->VL f c.toList c'.toList->(∀u∈c.toList,bj u=true)->
 Instr.fill place c ps=some out->∃xB,Instr.fill place c' ps'=some xB/\VL f out.toList xB.toList/\∀u∈out.toList,bj u=true:=by
 intro ps
 induction ps with
 |nil=>
  intro ps' c c' out hp hc hcc h;cases hp;simp[Instr.fill]at h;subst h;exact⟨c',rfl,hc,hcc⟩
 |cons p ps ih=>
  intro ps' c c' out hp hc hcc h;cases hp with
  |cons i v v' r r' hv hn t=>
   obtain⟨hvl,hvc⟩:=hv.Sk hn;have hsz:v'.cells.size=v.cells.size:=by have:=hvl.1;simpa using this.symm
   have hcs:c'.size=c.size:=by have:=hc.1;simpa using this.symm
   simp only[Instr.fill]at h⊢;cases hpl:place i with
   |none=>simp[hpl]at h
   |some q=>
    obtain⟨off,size⟩:=q;simp only[hpl,hsz,hcs]at h⊢
    split at h
    . cases h
    . rename_i eJ;rw[if_neg eJ];rw[<-Array.foldl_toList]at h⊢;rw[Array.toList_zipIdx]at h⊢;obtain⟨h1,h2⟩:=Ph off v.cells.toList v'.cells.toList 0 c c' hvl hvc hc hcc;exact ih r' _ _ out t h1 h2 h
theorem Fl {t:TypeId} {ps ps':List (Nat × Value)} {v:Value} (hp:PV f ps ps') (h:ud P t ps=some v):
 ∃v',(Instr.build t ps'.toArray).run P w= .ok v' w/\V f v v':=by
 unfold ud at h;cases hz:((P.info? t).bind (·.zero)).bind gr with
 |none=>simp[hz]at h
 |some zc=>
  simp only[hz,zai]at h;obtain⟨cs,hb,rfl⟩:=h;cases hi:P.info? t with
  |none=>simp[hi]at hz
  |some it=>
   cases hzz:it.zero with
   |none=>simp[hi,hzz]at hz
   |some z=>
    simp only[hi,hzz,zcg]at hz;obtain⟨e1,hvl,dN⟩:=lU f hz;have key:∃cs',P.built t ps'=some cs'/\VL f cs.toList cs'.toList/\∀u∈cs.toList,bj u=true:=by
     unfold Program.built at hb⊢;rw[hi]at hb⊢
     split at hb
     . rename_i it' n e h1 h2;cases h1;simp only[hzz]at hb⊢;cases hie:P.info? e with
       |none=>simp[hie]at hb
       |some ie=>
        simp only[hie]at hb⊢;exact EP ps ps' z.cells z.cells cs hp (by rw[e1];exact hvl) (by rw[e1];exact dN) hb
     . rename_i it' fs h1 h2;cases h1;simp only[hzz]at hb⊢;cases hpl:fs.toList.mapM (fun f=>(P.info? f.type).map fun i=>(f.offset,i.size))with
       |none=>simp[hpl]at hb
       |some places=>
        simp only[hpl]at hb⊢;exact EP ps ps' z.cells z.cells cs hp (by rw[e1];exact hvl) (by rw[e1];exact dN) hb
     . cases hb
    obtain⟨cs',hb',Z6,hc'⟩:=key;exact⟨.agg cs',run_build w t ps'.toArray cs' (by simpa using hb'),by
     have:=V.Fg Z6 hc';simpa using this⟩
theorem R.qK (hR:R f H w) (bo:f H.size=none) (cs:List Value) (cs':Array Value) (e:TypeId) (hv:VL f cs cs'.toList) (hc:∀u∈cs,bj u=true):
 ∃f',f' H.size=some ⟨w.heap.size,0,0⟩/\Stp f H w f' (aF H cs) (w.alloc (.cells cs' e))/\R f' (aF H cs) (w.alloc (.cells cs' e)):=
 hR.push bo 0 cs cs' e hc (fun i v hi=>by
  obtain⟨v',h1,h2⟩:=hv.get hi;exact⟨v',by simpa using h1,h2⟩) (zbt _)
theorem Nt (hR:R f H w) (bo:f H.size=none) (e:TypeId) {x x':Value} {cs:List Value} (hx:V f x x') (h:br x=some cs):
 ∃f' w',(Instr.box e x').run P w= .ok (.pointer (some ⟨w.heap.size,0,none⟩)) w'/\V f' (ptr H.size 0) (.pointer (some ⟨w.heap.size,0,none⟩))/\
  Stp f H w f' (aF H cs) w'/\R f' (aF H cs) w':=by
 obtain⟨hvl,hc⟩:=hx.br h;obtain⟨f',h1,h2,h3⟩:=hR.qK bo cs x'.cells e hvl hc;refine⟨f',_, ?_,by simpa[ptr]using V.ptr (f:=f') H.size 0 _ h1,h2,h3⟩;simp[Instr.box,newVar,newRow]
theorem F3 (hR:R f H w) (bo:f H.size=none) (e:TypeId) {z:Value} {cs:List Value} (hz:(P.info? e).bind (·.zero)=some z) (h:gr z=some cs):
 ∃f' w',(Instr.alloc e true (.tuple #[])).run P w= .ok (.pointer (some ⟨w.heap.size,0,none⟩)) w'/\V f' (ptr H.size 0) (.pointer (some ⟨w.heap.size,0,none⟩))/\
  Stp f H w f' (aF H cs) w'/\R f' (aF H cs) w':=by
 obtain⟨e1,hvl,hc⟩:=lU f h;obtain⟨f',h1,h2,h3⟩:=hR.qK bo cs z.cells e (by rw[e1];exact hvl) hc;refine⟨f',_, ?_,by simpa[ptr]using V.ptr (f:=f') H.size 0 _ h1,h2,h3⟩;cases hi:P.info? e with
 |none=>simp[hi]at hz
 |some i=>
  simp[hi]at hz;simp[Instr.alloc,zeroValue,typeInfo,hi,hz,newVar,newRow]
theorem jE (zc:List Value) (n i:Nat) (h:i<n*zc.length):((List.replicate n zc).flatten)[i]? =zc[i%zc.length]? :=by
 induction n generalizing i with
 |zero=>omega
 |succ n ih=>
  rw[zbF,zbx,zaU]
  split
  . rename_i hl;rw[Nat.mod_eq_of_lt hl]
  . rename_i hl;rw[ih (i-zc.length) (by rw[Nat.succ_mul]at h;omega)]
    congr 1
    rw[<-Nat.mod_eq_sub_mod (by omega)]
theorem my (z:Array Value) (n:Nat) (hz:0<z.size\/n=0):madeCells z (n*z.size)=(List.replicate n z.toList).flatten.toArray:=by
 apply Array.ext
 . simp[madeCells,List.length_flatten]
 . intro i h1 h2;have hi:i<n*z.size:=by simpa[madeCells]using h1
   have h0:0<z.size:=by
    rcases hz with h|h
    . exact h
    . subst h;omega
   have h3:=jE z.toList n i (by simpa using hi);have hm:i%z.size<z.size:=Nat.mod_lt _ h0;simp only[madeCells,Array.getElem_map,Array.getElem_range];have h4:((List.replicate n z.toList).flatten.toArray)[i]? =some (z[i%z.size]'hm):=by
    rw[List.getElem?_toArray,h3];simp[hm]
   rw[zaz h2]at h4;have:=zbL h4;rw[this];simp[hm]
theorem VL.dM {zc:List Value} (h:VL f zc zc) (n:Nat):VL f (List.replicate n zc).flatten (List.replicate n zc).flatten:=by
 induction n with
 |zero=>exact .nil f
 |succ n ih=>rw[zbF,zbx];exact h.append ih
theorem fP {zc:List Value} (h:∀u∈zc,bj u=true) (n:Nat):∀u∈(List.replicate n zc).flatten,bj u=true:=by
 intro u hu;rw[List.mem_flatten]at hu;obtain⟨l,hl,hul⟩:=hu;rw[List.mem_replicate]at hl;exact h u (by rw[<-hl.2];exact hul)
theorem GQ (hR:R f H w) (bo:f H.size=none) {t:TypeId} {l l' c c' v:Value} {H':ag} (hl:V f l l') (hc:V f c c') (h:wO P H t l c=some (v,H')):
 ∃f' w' v',(Instr.makeSlice t l' c').run P w= .ok v' w'/\V f' v v'/\Stp f H w f' H' w'/\R f' H' w':=by
 unfold wO at h
 split at h
 . rename_i elem k n k' m hu;cases hl;cases hc;cases hi:P.info? elem with
   |none=>simp[hi]at h
   |some i=>
    cases hz:i.zero with
    |none=>simp[hi,hz]at h
    |some z=>
     simp only[hi,hz]at h
     split at h
     . rename_i eJ;obtain⟨h0,h1,h2,h3⟩:=eJ;cases hzc:gr z with
       |none=>simp[hzc]at h
       |some zc=>
        simp only[hzc]at h
        split at h
        . rename_i hlen;cases h;obtain⟨e1,hvl,dN⟩:=lU f hzc;have hsz:z.cells.size=i.size:=by rw[<-hlen,<-e1];simp
          have hr:=run_make (P:=P) w t elem i z hu hi hz k k' n m h0 h1 (by omega) h3;have hm:madeCells z.cells (m.toNat*i.size)=(List.replicate m.toNat zc).flatten.toArray:=by
           by_cases hs:0<z.cells.size
           . rw[<-hsz,my _ _ (.inl hs),e1]
           . have:zc=[]:=by rw[<-e1];simp;simpa using hs
             have h00:i.size=0:=by omega
             rw[h00,this];simp[madeCells,Array.range_zero']
          rw[hm]at hr;obtain⟨f',g1,g2,g3⟩:=hR.qK bo _ (List.replicate m.toNat zc).flatten.toArray elem (by simpa using hvl.dM m.toNat) (fP dN m.toNat);exact⟨f',_,_,hr,by simpa using V.slX (f:=f') H.size 0 n.toNat m.toNat _ _ g1 (.inl rfl),g2,g3⟩
        . cases h
     . cases h
 . cases h
theorem sP (hR:R f H w) (bo:f H.size=none) {t:TypeId} {n:Nat} {ps ps':List (Nat × Value)} {v:Value} {H':ag} (hp:PV f ps ps') (h:fG P H t n ps=some (v,H')):
 ∃f' w' v',(Instr.buildSlice t n ps'.toArray).run P w= .ok v' w'/\V f' v v'/\Stp f H w f' H' w'/\R f' H' w':=by
 unfold fG at h
 split at h
 . rename_i elem hu;cases hi:P.info? elem with
   |none=>simp[hi]at h
   |some i=>
    cases hz:i.zero with
    |none=>simp[hi,hz]at h
    |some z=>
     simp only[hi,hz]at h;cases hzc:gr z with
     |none=>simp[hzc]at h
     |some zc=>
      simp only[hzc]at h
      split at h
      . rename_i eJ;obtain⟨hle,hlen⟩:=eJ
        split at h
        . rename_i cs adk;cases h;obtain⟨e1,hvl,dN⟩:=lU f hzc;have hsz:z.cells.size=i.size:=by rw[<-hlen,<-e1];simp
          have hm:(Array.range (n*i.size)).map (fun j=>z.cells[j%z.cells.size]!)=(List.replicate n zc).flatten.toArray:=by
           by_cases hs:0<z.cells.size
           . have:=my z.cells n (.inl hs);rw[<-hsz,<-e1,<-this];rfl
           . have:zc=[]:=by rw[<-e1];simp;simpa using hs
             have h00:i.size=0:=by omega
             rw[h00,this];simp[Array.range_zero']
          obtain⟨cs',hf',Z6,hc'⟩:=EP ps ps' _ (List.replicate n zc).flatten.toArray cs hp (by simpa using hvl.dM n) (by simpa using fP dN n) adk;obtain⟨f',g1,g2,g3⟩:=hR.qK bo cs.toList cs' elem Z6 hc';refine⟨f',_,_, ?_,by simpa using V.slX (f:=f') H.size 0 n n _ _ g1 (.inl rfl),g2,g3⟩;have afo:¬(16777216<n*i.size):=by omega
          by_cases h00:n*i.size=0
          . have hn0:(List.replicate n zc).flatten=[]:=by
             have:(List.replicate n zc).flatten.length=0:=by simp[List.length_flatten,hlen,h00]
             exact zaB this
            rw[hn0]at hf';simp[Instr.buildSlice,run_underlying hu,run_sizeOf hi,h00,Array.range_zero',hf',newRow]
          . simp[Instr.buildSlice,run_underlying hu,run_sizeOf hi,h00,afo,zeroValue,typeInfo,hi,hz,hm,hf',newRow]
        . cases h
      . cases h
 . cases h
end
end
end Go.Proofs.YtfaojedfnjdnnaaGreat.Ev
namespace Go.Proofs.YtfaojedfnjdnnaaGreat.Ev
noncomputable section
open Go
section
variable {P : Program} {f : Fm} {H : ag} {w : World}
theorem R.drop (hR:R f H w) {b:Nat} {k:Blk} (hb:H.get b=some k) (hm:H.rG b k=true):Stp f H w f (H.put b none) w/\R f (H.put b none) w:=by
 have iU:∀x c,(H.put b none).get x=some c->x≠b/\H.get x=some c:=by
  intro x c hx
  by_cases e:x=b
  . subst e;rw[ag.jq H x _ hb]at hx;cases hx
  . exact⟨e,by rwa [ag.fW _ _ _ _ e]at hx⟩
 refine⟨⟨.refl f,fun _ _=>rfl,zap _,rfl,rfl, ?_,zap _,rfl,rfl,rfl,fun _ _ _=>rfl, ?_⟩,⟨?_,hR.big,hR.lk, ?_⟩⟩
 . intro x _ hx;rw[ag.cW,if_neg];intro e;have:=aO.1 hm;omega
 . intro cb _ ⟨x,c,m,hx,hxm,hfm,hcb⟩;exact⟨x,c,m,(iU x c hx).2,by simpa[aO]using hxm,hfm,hcb⟩
 . intro x c hx;obtain⟨l,C,e,fr,h1,h3,h4,h5⟩:=hR.blk x c (iU x c hx).2;exact⟨l,C,e,fr,h1,h3,h4,fun hxm=>h5 (by simpa[aO]using hxm)⟩
 . intro x y c d l m hx hy hxm hne hl hm';exact hR.inj x y c d l m (iU x c hx).2 (iU y d hy).2 (by simpa[aO]using hxm) hne hl hm'
theorem R.move (hR:R f H w) (bo:f H.size=none) {b:Nat} {k:Blk} (hb:H.get b=some k) (hm:H.rG b k=true) {l:Loc} (hl:f b=some l)
 {C:Array Value} {e:TypeId} {fr:Nat × Nat} (hw:w.heap[l.blk]? =some (.cells C e fr)) {vs vs':List Value} (hv:VL f vs vs') (hc:∀u∈vs,bj u=true)
 (qw:l.off+k.cells.length+vs'.length<=C.size):
 ∃f',f' H.size=some ⟨l.blk,l.off,l.room⟩/\
  Stp f H w f' (aF (H.put b none) (k.cells++vs)) (w.setRow l.blk (C.toList.take (l.off+k.cells.length)++vs'++C.toList.drop (l.off+k.cells.length+vs'.length)).toArray)/\
  R f' (aF (H.put b none) (k.cells++vs)) (w.setRow l.blk (C.toList.take (l.off+k.cells.length)++vs'++C.toList.drop (l.off+k.cells.length+vs'.length)).toArray):=by
 obtain⟨l2,C2,e2,fr2,hf2,hw2,hcs,hmm⟩:=hR.blk b k hb;rw[hl]at hf2;cases hf2;rw[hw]at hw2;cases hw2;obtain⟨hfr,kO⟩:=hmm hm;subst hfr
 let L:Loc:=⟨l.blk,l.off,l.room⟩
 let f':Fm:=fun x=>if x=H.size then some L else f x
 have hf0:f' H.size=some L:=by simp[f']
 have hle:Le f f':=by
  intro x m hx
  by_cases e:x=H.size
  . subst e;rw[bo]at hx;cases hx
  . simp[f',e,hx]
 let D:Array Value:=(C.toList.take (l.off+k.cells.length)++vs'++C.toList.drop (l.off+k.cells.length+vs'.length)).toArray
 have hDd:(C.toList.take (l.off+k.cells.length)++vs'++C.toList.drop (l.off+k.cells.length+vs'.length)).toArray=D:=rfl;rw[hDd];have SD:D.size=C.size:=by simp[D];omega
 have SE:∀i,i<k.cells.length+vs'.length->D[l.off+i]? =if i<k.cells.length then C[l.off+i]? else vs'[i-k.cells.length]? :=by
  intro i hi;simp only[D,List.getElem?_toArray,zaU,zab,zav,Array.length_toList,zau];have KJ:min (l.off+k.cells.length) C.size=l.off+k.cells.length:=by omega
  rw[KJ]
  by_cases h1:i<k.cells.length
  . rw[if_pos (by omega),if_pos (by omega),if_pos (by omega),if_pos h1];simp
  . rw[if_pos (by omega),if_neg (by omega),if_neg h1];congr 1;omega
 have hold:∀x c,(aF (H.put b none) (k.cells++vs)).get x=some c->x≠H.size->x≠b/\H.get x=some c/\f' x=f x:=by
  intro x c hx hne;have hlt:x<(H.put b none).size:=by have:=ag.aZ hx;simp[aF]at this;simp;omega
  rw[aF,ag.eT _ _ _ hlt]at hx
  by_cases e:x=b
  . subst e;rw[ag.jq H x _ hb]at hx;cases hx
  . exact⟨e,by rwa [ag.fW _ _ _ _ e]at hx,by simp[f',hne]⟩
 have fk:∀c,(aF (H.put b none) (k.cells++vs)).get H.size=some c->c=⟨k.cells++vs⟩:=by
  intro c hx;have:=(ag.aM hx).1;rw[aF,ag.bV]at this;simpa using this.symm
 have hbl:b<H.size:=ag.aZ hb;refine⟨f',hf0,⟨hle, ?_, ?_,rfl,rfl, ?_,by simp,rfl,rfl,rfl, ?_, ?_⟩,⟨?_, ?_, ?_, ?_⟩⟩
 . intro x hx;simp[aF]at hx
   by_cases e:x=H.size
   . omega
   . simp[f',e]
 . simp[aF]
 . intro x hx hlk;have:=aO.1 hm;rw[aF,ag.bV,if_neg (by simp;omega),ag.cW,if_neg (by omega)]
 . intro cb _ hn;exact setRow_other w l.blk cb _ (fun ex=>hn ⟨b,k,l,hb,hm,hl,ex.symm⟩)
 . intro cb _ ⟨x,c,m,hx,hxm,hfm,hcb⟩
   by_cases e:x=H.size
   . subst e;rw[hf0]at hfm;cases hfm;exact⟨b,k,l,hb,hm,hl,hcb⟩
   . obtain⟨_,h1,h2⟩:=hold x c hx e;exact⟨x,c,m,h1,by simpa[aO,aF]using hxm,by rw[<-h2];exact hfm,hcb⟩
 . intro x c hx
   by_cases ex:x=H.size
   . subst ex;have:=fk c hx;subst this;refine⟨L,D,e,(0,0),hf0,setRow_heap w l.blk C _ e (0,0) hw, ?_, ?_⟩
     . intro i v hi;have hil:i<k.cells.length+vs'.length:=by
        have h1:=(zan.1 hi).1;have h2:=hv.1;simp at h1;omega
       have hD:=SE i hil;show bj v=true/\∃v',D[l.off+i]? =some v'/\V f' v v';rw[hD];simp only[zaU]at hi
       by_cases h1:i<k.cells.length
       . rw[if_pos h1]at hi⊢;obtain⟨a1,v',a2,a3⟩:=hcs i v hi;exact⟨a1,v',a2,a3.mono hle⟩
       . rw[if_neg h1]at hi⊢;obtain⟨v',a2,a3⟩:=hv.get hi;exact⟨hc v (zaQ hi),v',a2,a3.mono hle⟩
     . intro _;refine⟨rfl, ?_⟩;show l.room<=D.size;omega
   . obtain⟨hxb,h1,h2⟩:=hold x c hx ex;obtain⟨m,C',e',fr,hfm,hw',Z3,Z4⟩:=hR.blk x c h1;have Z5:m.blk≠l.blk:=zcn (hR.inj b x k c l m hb h1 hm (zcn hxb) hl hfm);refine⟨m,C',e',fr,by rw[h2];exact hfm,by rw[setRow_other w l.blk m.blk _ Z5];exact hw', ?_,fun hxm=>Z4 (by simpa[aO,aF]using hxm)⟩;intro i v hi;obtain⟨a1,v',a2,a3⟩:=Z3 i v hi;exact⟨a1,v',a2,a3.mono hle⟩
 . intro x m hx;rw[setRow_size]
   by_cases ex:x=H.size
   . subst ex;rw[hf0]at hx;cases hx;exact hR.big b l hl
   . exact hR.big x m (by simpa[f',ex]using hx)
 . have:=hR.lk;simp[aF];omega
 . intro x y c d m n hx hy hxm hne hfm hfn
   by_cases ex:x=H.size
   . subst ex;rw[hf0]at hfm;cases hfm;obtain⟨hyb,h3,h4⟩:=hold y d hy (zcn hne);exact hR.inj b y k d l n hb h3 hm (zcn hyb) hl (by rw[<-h4];exact hfn)
   . obtain⟨hxb,h1,h2⟩:=hold x c hx ex;have adl:H.rG x c=true:=by simpa[aO,aF]using hxm
     by_cases ey:y=H.size
     . subst ey;rw[hf0]at hfn;cases hfn;exact hR.inj x b c k m l h1 hb adl hxb (by rw[<-h2];exact hfm) hl
     . obtain⟨hyb,h3,h4⟩:=hold y d hy ey;exact hR.inj x y c d m n h1 h3 adl hne (by rw[<-h2];exact hfm) (by rw[<-h4];exact hfn)
theorem gJ (hR:R f H w) {size n:Nat} {x x':Value} {cs:List Value} (hx:V f x x') (hn:∀a m c,x= .slice a m c->n<=m) (h:bg H size n x=some cs):
 cs.length=n*size/\∃cs',VL f cs cs'/\(∀u∈cs,bj u=true)/\(Builtin.firstCells size n x').run P w= .ok cs'.toArray w/\
  (n=0\/∃a m c,x'= .slice (some a) m c/\∀(j:Nat) v,cs'[j]? =some v->w.cell? (a.add j)=some v):=by
 unfold bg at h
 split at h
 . cases hx
   split at h
   . rename_i h0;cases h;subst h0;exact⟨by simp,[],.nil f,by simp,by simp[Builtin.firstCells],.inl rfl⟩
   . cases h
 . rename_i b off sp m c;obtain⟨hlen,l,C,e,fr,hl,hw,cs',hvl,dN,hc⟩:=hR.cells h
   by_cases h0:n=0
   . subst h0;have:cs=[]:=by simpa using hlen
     subst this;cases hx<;>exact⟨by simp,[],.nil f,by simp,by simp[Builtin.firstCells,loadCells,loadCellsFrom],.inl rfl⟩
   . cases hx with
     |slX _ _ _ _ l2 a hl2 ha=>
      rw[hl]at hl2;cases hl2;have ha:a=⟨l.blk,l.off+off,none⟩:=by
       rcases ha with h|h
       . exact h
       . have:=hn _ _ _ rfl;omega
      subst ha;have hcc:∀(j:Nat) v,cs'[j]? =some v->w.cell? ((⟨l.blk,l.off+off,none⟩:Addr).add j)=some v:=by
       intro j v hj;rw[Addr.add_eq,cellAt hw];exact hc j v hj
      refine⟨hlen,cs',hvl,dN, ?_,.inr ⟨_,_,_,rfl,hcc⟩⟩;exact run_firstCells_some w size n _ m c cs' (by rw[<-hvl.1];exact hlen) hcc
     |slL _ _ _ _ _ lR c' l2 hl2 hnc hcc hr ho=>
      rw[hl]at hl2;cases hl2;have:=hn _ _ _ rfl;have:lR=l.off+off:=ho (by omega);subst this;have hcc:∀(j:Nat) v,cs'[j]? =some v->w.cell? ((⟨l.blk,l.off+off,none⟩:Addr).add j)=some v:=by
       intro j v hj;rw[Addr.add_eq,cellAt hw];exact hc j v hj
      refine⟨hlen,cs',hvl,dN, ?_,.inr ⟨_,_,_,rfl,hcc⟩⟩;exact run_firstCells_some w size n _ m c' cs' (by rw[<-hvl.1];exact hlen) hcc
 . cases h
end
end
end Go.Proofs.YtfaojedfnjdnnaaGreat.Ev
namespace Go.Proofs.YtfaojedfnjdnnaaGreat.Ev
noncomputable section
open Go
section
variable {P : Program} {f : Fm} {H : ag} {w : World}
theorem jQ {t ty e:TypeId} {i:TypeInfo} (ht:P.underlying t=some (.slice e)) (hi:P.info? e=some i)
 {g o sLen sCap:Nat} {cur:Array Value} {e':TypeId} (hg:w.heap[g]? =some (.cells cur e' (0,0)))
 {x:Value} {a:Addr} {m c:Nat} (hx:x= .slice (some a) m c) {news:List Value} (hf:(Builtin.firstCells i.size m x).run P w= .ok news.toArray w) (hc:∀u∈news,bj u=true)
 (kO:sLen+m<=sCap) (qw:o+sLen*i.size+news.length<=cur.size):
 (Builtin.append_ #[t,t] ty #[.slice (some ⟨g,o,none⟩) sLen sCap,x]).run P w=
  .ok (.slice (some ⟨g,o,none⟩) (sLen+m) sCap) (w.setRow g (cur.toList.take (o+sLen*i.size)++news++cur.toList.drop (o+sLen*i.size+news.length)).toArray):=by
 subst hx;have hst:=run_storeCells_at P g (o+sLen*i.size) e' news 0 cur w hg (by simpa using qw) (fun u hu=>sA (hc u hu));simp only[zbc]at hst;simp[Builtin.append_,run_underlying ht,sizeOf,typeInfo,hi,Builtin.lenOf,kO,hf,Addr.add_eq,hst]
theorem kX {t ty e:TypeId} {i:TypeInfo} (ht:P.underlying t=some (.slice e)) (hi:P.info? e=some i)
 {a b:Option Addr} {sLen sCap c:Nat} (kO:sLen<=sCap):
 (Builtin.append_ #[t,t] ty #[.slice a sLen sCap,.slice b 0 c]).run P w= .ok (.slice a sLen sCap) w:=by
 cases a<;>cases b<;>simp[Builtin.append_,run_underlying ht,sizeOf,typeInfo,hi,Builtin.lenOf,kO,Builtin.firstCells,loadCells,loadCellsFrom,storeCells]
theorem xw (z:Array Value) (n:Nat):(Builtin.zeroCells z n).size=n*z.size:=by simp[Builtin.zeroCells]
theorem rC {olds news:List Value} {z:Array Value} {need cap size:Nat} (hlen:olds.length+news.length=need*size) (hz:z.size=size) (hge:need<=cap):
 (olds.toArray++news.toArray++Builtin.zeroCells z (cap-need)).size=cap*size:=by
 simp only[Array.size_append,zcc,xw,hz,hlen,<-za2]
 congr 1;omega
theorem VL.qv {cs cs':List Value} (h:VL f cs cs') (_hc:∀u∈cs,bj u=true) (rest:Array Value):
 ∀(i:Nat) v,cs[i]? =some v->∃v',(cs'.toArray++rest)[i]? =some v'/\V f v v':=by
 intro i v hi;obtain⟨v',h1,h2⟩:=h.get hi;have hlt:i<cs'.length:=(zan.1 h1).1;refine⟨v', ?_,h2⟩;rw[Array.getElem?_append,if_pos (by simpa using hlt)];simpa using h1
theorem tc {s s':Value} (h:V f s s') {a:Option Addr} {n c:Nat} (hs:s= .slice a n c):∃a' c',s'= .slice a' n c':=by
 subst hs;cases h with
 |dr=>exact⟨_,_,rfl⟩
 |slX=>exact⟨_,_,rfl⟩
 |slL=>exact⟨_,_,rfl⟩
theorem F4 (hR:R f H w) {t u ty:TypeId} {s s' x x' v:Value} {H':ag} (bo:∀j,H.size<=j->j<H'.size->f j=none) (hs:V f s s') (hx:V f x x')
 (h:zK P H t u s x=some (v,H')):
 ∃f' w' v',(Builtin.append_ #[t,u] ty #[s',x']).run P w= .ok v' w'/\V f' v v'/\Stp f H w f' H' w'/\R f' H' w':=by
 unfold zK at h
 split at h
 case h_2=>cases h
 rename_i elem kn k n hu hun;cases hs;cases hx
 split at h
 case h_2=>cases h
 rename_i i hi
 split at h
 case h_2=>cases h
 rename_i z hz
 split at h
 case h_2=>cases h
 rename_i zc hzc
 split at h
 case isFalse=>cases h
 rename_i hc;obtain⟨hzl,Ws,h0,Ie,Bz⟩:=hc;obtain⟨e1,hvl,dN⟩:=lU f hzc;have hzs:z.cells.size=i.size:=by rw[<-hzl,<-e1];simp
 split at h
 . rename_i hn;cases h;obtain rfl:n=0:=by omega
   refine⟨f,w,.slice none 0 0, ?_,.dr,.refl f H w,hR⟩;simp[Builtin.append_,run_underlying hu,run_underlying hun,sizeOf,typeInfo,hi,asInt,asIntOf,show IntKind.i64.wrap 0=0 by decide]
 . rename_i m hn;cases h;obtain rfl:n=((m+1:Nat):Int):=by omega
   have hb:(m+1)*i.bytes<35184372088832:=by simpa using Bz
   have hr:=Lib.run_append_nil_zeros (P:=P) w t u ty elem i z k kn hu hun hi hz (m+1) (by omega) Ws (by omega) (by omega);have hge:=grownCap_ge w (m+1) 0 elem;have hm:Builtin.zeroCells z.cells (m+1)=(List.replicate (m+1) zc).flatten.toArray:=by
    have:=my z.cells (m+1) (.inl (by omega));rw[e1]at this;exact this
   rw[hm]at hr;have hfl:(List.replicate (m+1) zc).flatten.length=(m+1)*i.size:=by simp[List.length_flatten,hzl]
   have kO:=rC (olds:=[]) (news:=(List.replicate (m+1) zc).flatten) (z:=z.cells) (need:=m+1) (cap:=grownCap w (m+1) 0 elem) (size:=i.size) (by simpa using hfl) hzs hge;have kO:((List.replicate (m+1) zc).flatten.toArray++Builtin.zeroCells z.cells (grownCap w (m+1) 0 elem-(m+1))).size=grownCap w (m+1) 0 elem*i.size:=by simpa using kO
   have FM:VL f (List.replicate (m+1) zc).flatten (List.replicate (m+1) zc).flatten:=hvl.dM (m+1);have oW:=fP dN (m+1);obtain⟨f',g1,g2,g3⟩:=hR.drew.push (bo _ (zap _) (by simp[aF])) (grownCap w (m+1) 0 elem*i.size) (List.replicate (m+1) zc).flatten
    ((List.replicate (m+1) zc).flatten.toArray++Builtin.zeroCells z.cells (grownCap w (m+1) 0 elem-(m+1))) elem oW (FM.qv oW _) (by rw[kO];exact zap _)
   refine⟨f',_,_,hr, ?_,g2.drew,g3⟩;exact .slL H.size 0 i.size _ _ 0 _ _ g1 (zap _) hge (by simp) (fun _=>rfl)
theorem BO (hR:R f H w) {t u ty:TypeId} {s s' x x' v:Value} {H':ag} (bo:∀j,H.size<=j->j<H'.size->f j=none) (hs:V f s s') (hx:V f x x')
 (h:dZ P H t u s x=some (v,H')):
 ∃f' w' v',(Builtin.append_ #[t,u] ty #[s',x']).run P w= .ok v' w'/\V f' v v'/\Stp f H w f' H' w'/\R f' H' w':=by
 unfold dZ at h
 split at h
 case isFalse=>exact F4 hR bo hs hx h
 rename_i htu;subst htu
 split at h
 case h_2=>cases h
 rename_i elem base sLen sCap xa n xc hu;cases hi:P.info? elem with
 |none=>simp[hi]at h
 |some i=>
 cases hz:i.zero with
 |none=>simp[hi,hz]at h
 |some z=>
 simp only[hi,hz]at h
 split at h
 case h_2=>cases h
 rename_i zc new hzc fk
 split at h
 case isFalse=>cases h
 rename_i eJ;obtain⟨hzl,Ws,hlc,Ie,Bz⟩:=eJ;obtain⟨e1,hzvl,afp⟩:=lU f hzc;have hzs:z.cells.size=i.size:=by rw[<-hzl,<-e1];simp
 obtain⟨xa',xc',hx'⟩:=tc hx rfl;obtain⟨adm,tX,FM,oW,MQ,Z7⟩:=gJ (P:=P) hR hx (by intro a m c e;cases e;exact zap _) fk;have Oi:tX.length=n*i.size:=by rw[<-FM.1];exact adm
 have FN:∀u∈tX,bj u=true:=by
  intro u hu';obtain⟨j,hj⟩:=zbK hu';have hjl:j<new.length:=by rw[FM.1];exact(zan.1 hj).1
  rw[(FM.2 j _ _ (zah hjl) hj).cell];exact oW _ (zbw hjl)
 split at h
 ·
  cases h;subst hx';cases hs with
  |dr=>exact⟨f,w,_,kX hu hi (zap _),.dr,.refl f H w,hR⟩
  |slX b off _ _ l a hl ha=>exact⟨f,w,_,kX hu hi hlc,.slX b off _ _ l a hl ha,.refl f H w,hR⟩
  |slL b off e _ _ lR c' l hl h1 h2 h3 h4=>exact⟨f,w,_,kX hu hi (by omega),.slL b off e _ _ lR c' l hl h1 h2 h3 h4,.refl f H w,hR⟩
 rename_i n0 m;have Bz:(sLen+(m+1))*i.bytes<35184372088832:=Bz;have Ie:sLen+(m+1)<1099511627776:=Ie;have Oi:tX.length=(m+1)*i.size:=Oi;rcases Z7 with h0|⟨xad,xm,xcc,hxe,hxc⟩
 . omega
 have hxm:xm=m+1:=by rw[hx']at hxe;cases hxe;rfl
 subst hxm;rw[hxe]at MQ⊢
 split at h
 ·
  cases h;cases hs;have hr:=run_append_nil (P:=P) w t ty elem i z hu hi hz xad (m+1) xcc tX Oi hxc (by omega) (by omega) (by simp at Bz;omega);have hge:=grownCap_ge w (m+1) 0 elem;have kO:=rC (olds:=[]) (news:=tX) (z:=z.cells) (need:=m+1) (cap:=grownCap w (m+1) 0 elem) (size:=i.size) (by simpa using Oi) hzs hge;have kO:(tX.toArray++Builtin.zeroCells z.cells (grownCap w (m+1) 0 elem-(m+1))).size=grownCap w (m+1) 0 elem*i.size:=by simpa using kO
  obtain⟨f',g1,g2,g3⟩:=hR.drew.push (bo _ (zap _) (by simp[aF])) (grownCap w (m+1) 0 elem*i.size) new
   (tX.toArray++Builtin.zeroCells z.cells (grownCap w (m+1) 0 elem-(m+1))) elem oW (FM.qv oW _) (by rw[kO];exact zap _)
  refine⟨f',_,_,hr, ?_,g2.drew,g3⟩;exact .slL H.size 0 i.size _ _ 0 _ _ g1 (zap _) hge (by simp) (fun _=>rfl)
 . rename_i b off sp
   split at h
   ·
    rename_i Dl;have Dl:sLen+(m+1)<=sCap:=by simpa using Dl
    simp only[zai]at h;obtain⟨H2,mE,hv⟩:=h;cases hv;obtain⟨l,C,e,hl,hw,qw,SF,hR'⟩:=hR.store mE FM oW;rw[<-zbe]at qw SF hR';cases hs with
    |slX _ _ _ _ l2 a hl2 ha=>
     rw[hl]at hl2;cases hl2;have ha:a=⟨l.blk,l.off+off,none⟩:=by rcases ha with h|h;exact h;omega
     subst ha;exact⟨f,_,_,jQ hu hi hw rfl MQ FN Dl qw,.slX b off _ _ l _ hl (.inl rfl),SF,hR'⟩
    |slL _ _ e2 _ _ lR c' l2 hl2 h1 h2 h3 h4=>
     rw[hl]at hl2;cases hl2;have:lR=l.off+off:=h4 (by omega);subst this;exact⟨f,_,_,jQ hu hi hw rfl MQ FN (by omega) qw,.slL b off e2 _ _ _ c' l hl (by omega) h2 h3 h4,SF,hR'⟩
   . rename_i Dl;have Dl:¬(sLen+(m+1)<=sCap):=by simpa using Dl
     split at h
     case h_2=>cases h
     rename_i old hold;obtain⟨WL,xC,adn,Z8,afP,SG⟩:=gJ (P:=P) hR hs (by intro a m' c e;cases e;exact zap _) hold;have Wt:xC.length=sLen*i.size:=by rw[<-adn.1];exact WL
     have kQ:=adn.append FM;have WM:∀u∈old++new,bj u=true:=by
      intro u hu';rcases za0.1 hu' with h1|h1
      . exact Z8 u h1
      . exact oW u h1
     have Z9:xC.length+tX.length=(sLen+(m+1))*i.size:=by rw[Wt,Oi];exact(za2 _ _ _).symm
     have rz:∀(b':Addr) (cap:Nat) (H1:ag),Stp f H w f H1 w->R f H1 w->H1.size=H.size->(f H.size=none)->sLen<=cap->cap<sLen+(m+1)->
      (sLen=0\/∀(j:Nat) u,xC[j]? =some u->w.cell? (b'.add j)=some u)->
      ∃f' w' v',(Builtin.append_ #[t,t] ty #[.slice (some b') sLen cap,.slice (some xad) (m+1) xcc]).run P w= .ok v' w'/\
       V f' (.slice (some ⟨H.size,0,some i.size⟩) (sLen+(m+1)) (sLen+(m+1))) v'/\Stp f H w f' (aF H1 (old++new)) w'/\R f' (aF H1 (old++new)) w':=by
      intro b' cap H1 hs1 hR1 FO hf0 afq hlt SH;have aaa:∀(j:Nat) u,xC[j]? =some u->w.cell? (b'.add j)=some u:=by
       rcases SH with h0|h1
       . intro j u hj;have:xC=[]:=by rw[h0]at Wt;simpa using Wt
         rw[this]at hj;simp at hj
       . exact h1
      have hr:=run_append_grow (P:=P) w t ty elem i z hu hi hz b' sLen cap xC Wt aaa xad (m+1) xcc tX Oi hxc hlt (by omega) (growslice_fits hlt (by omega));have hge:=grownCap_ge w (sLen+(m+1)) cap elem;have kO:=rC (olds:=xC) (news:=tX) (z:=z.cells) (need:=sLen+(m+1)) (cap:=grownCap w (sLen+(m+1)) cap elem) (size:=i.size) Z9 hzs hge;have hcc:xC.toArray++tX.toArray=(xC++tX).toArray:=by simp
      rw[hcc]at hr kO;obtain⟨f',g1,g2,g3⟩:=hR1.drew.push (by rw[FO];exact hf0) (grownCap w (sLen+(m+1)) cap elem*i.size) (old++new)
       ((xC++tX).toArray++Builtin.zeroCells z.cells (grownCap w (sLen+(m+1)) cap elem-(sLen+(m+1)))) elem WM (kQ.qv WM _) (by rw[kO];exact zap _)
      refine⟨f',_,_,hr, ?_,hs1.trans g2.drew,g3⟩;rw[<-FO];exact .slL H1.size 0 i.size _ _ 0 _ _ g1 (zap _) hge (by simp) (fun _=>rfl)
     split at h
     ·
      rename_i e
      split at h
      case h_2=>cases h
      rename_i k hk
      split at h
      case isFalse=>cases h
      rename_i SI;simp only[zae,zaH,zag]at SI;obtain⟨⟨⟨⟨Ig,afr⟩,afs⟩,hcl⟩,qY⟩:=SI;subst afs;subst afr;cases h;have hf0:f H.size=none:=bo _ (zap _) (by simp[aF]);obtain⟨hd1,hd2⟩:=hR.drop hk Ig;obtain⟨l2,C,e,fr,hl2,hw,sC,hmm⟩:=hR.blk b k hk;obtain⟨hfr,hrm⟩:=hmm Ig;subst hfr;have hkc:k.cells=old:=by
       simp only[bg,cT,hk]at hold
       split at hold
       . have e2:=zbL hold;rw[<-e2,zbP,zbq (by omega)]
       . cases hold
      cases hs with
      |slL _ _ _ _ _ lR c' l hl h1 h2 h3 h4=>
       have e3:l2=l:=zbL (hl2.symm.trans hl);rw[e3]at hw sC hrm;have WN:lR=l.off+0:=h4 (by omega);rw[zbc]at WN;subst WN
       by_cases KL:sLen+(m+1)<=c'
       ·
        have hle:l.off+(sLen+(m+1))*i.size<=C.size:=by
         have:(sLen+(m+1))*i.size<=c'*i.size:=zaR _ KL;omega
        have qw:l.off+k.cells.length+tX.length<=C.size:=by
         rw[za2]at hle;omega
        obtain⟨f',g1,g2,g3⟩:=hR.move hf0 hk Ig hl hw FM oW qw;rw[hkc]at g2 g3;rw[WL]at g2 g3;refine⟨f',_,_,jQ hu hi hw rfl MQ FN KL (by rw[<-hcl];exact qw), ?_,g2,g3⟩;exact V.slL H.size 0 i.size _ _ l.off c' ⟨l.blk,l.off,l.room⟩ g1 (zap _) KL h3 (fun _=>rfl)
       . have hoa:sLen=0\/∀(j:Nat) u,xC[j]? =some u->w.cell? ((⟨l.blk,l.off,none⟩:Addr).add j)=some u:=by
          rcases SG with h0|⟨a,m',c,he,hc⟩
          . exact .inl h0
          . cases he;exact .inr hc
         obtain⟨f',w',v',r1,r2,r3,r4⟩:=rz ⟨l.blk,l.off,none⟩ c' (H.put b none) hd1 hd2 rfl hf0 (by omega) (by omega) hoa;exact⟨f',w',v',r1,r2,r3,r4⟩
     ·
      cases h;have hf0:f H.size=none:=bo _ (zap _) (by simp[aF]);cases hs with
      |slX _ _ _ _ l a0 hl ha=>
       have hoa:sLen=0\/∀(j:Nat) u,xC[j]? =some u->w.cell? (a0.add j)=some u:=by
        rcases SG with h0|⟨a,m',c,he,hc⟩
        . exact .inl h0
        . cases he;exact .inr hc
       obtain⟨f',w',v',r1,r2,r3,r4⟩:=rz a0 sCap H (.refl f H w) hR rfl hf0 hlc (by omega) hoa;exact⟨f',w',v',r1,r2,r3,r4⟩
end
end
end Go.Proofs.YtfaojedfnjdnnaaGreat.Ev
namespace Go.Proofs.YtfaojedfnjdnnaaGreat.Ev
noncomputable section
open Go
section
variable {P : Program} {f : Fm} {H : ag} {w : World}
theorem H8 (hR:R f H w) {t u ty:TypeId} {d d' s s' v:Value} {H':ag} (hd:V f d d') (hs:V f s s') (h:rj P H t u d s=some (v,H')):
 ∃w' v',(Builtin.copy_ #[t,u] ty #[d',s']).run P w= .ok v' w'/\V f v v'/\Stp f H w f H' w'/\R f H' w':=by
 unfold rj at h
 split at h
 case h_2=>cases h
 rename_i elem db dLen dCap sb sLen sCap hu;cases hi:P.info? elem with
 |none=>simp[hi]at h
 |some i=>
 simp only[hi]at h;obtain⟨sa,sc,hs'⟩:=tc hs rfl;obtain⟨da,dc,hd'⟩:=tc hd rfl
 split at h
 ·
  rename_i hcs;cases h;obtain⟨hlen,cs',hvl,dN,vN,_⟩:=gJ (P:=P) hR hs (by intro a m c e;cases e;exact Nat.min_le_left _ _) hcs;have sD:cs'=[]:=by have:=hvl.1;simpa using this.symm
  subst sD;subst hs';subst hd';refine⟨w,_, ?_,.int .i64 _,.refl f H w,hR⟩;have SJ:(Builtin.firstCells i.size (Nat.min sLen dLen) (.slice sa sLen sc)).run P w= .ok #[] w:=vN;cases da<;>simp[Builtin.copy_,run_underlying hu,Builtin.lenOf,sizeOf,typeInfo,hi,SJ,storeCells,goInt]
 . rename_i cs hne hcs;obtain⟨hlen,cs',hvl,dN,vN,_⟩:=gJ (P:=P) hR hs (by intro a m c e;cases e;exact Nat.min_le_left _ _) hcs
   split at h
   . cases h
   . rename_i b off sp;simp only[zai]at h;obtain⟨H2,mE,hv⟩:=h;cases hv;obtain⟨l,C,e,hl,hw,qw,SF,hR'⟩:=hR.store mE hvl dN;have KK:∀u∈cs',bj u=true:=by
      intro u hu';obtain⟨j,hj⟩:=zbK hu';have hjl:j<cs.length:=by rw[hvl.1];exact(zan.1 hj).1
      rw[(hvl.2 j _ _ (zah hjl) hj).cell];exact dN _ (zbw hjl)
     have hst:=run_storeCells_at P l.blk (l.off+off) e cs' 0 C w hw (by simpa using qw) (fun u hu=>sA (KK u hu));simp only[zbc]at hst;have SJ:(Builtin.firstCells i.size (Nat.min sLen dLen) (.slice sa sLen sc)).run P w= .ok cs'.toArray w:=by subst hs';exact vN
     have SH:da=some ⟨l.blk,l.off+off,none⟩:=by
      subst hd';cases hd with
      |slX _ _ _ _ l2 a hl2 ha=>
       rw[hl]at hl2;cases hl2;rcases ha with h|⟨h,_⟩
       . rw[h]
       . have:cs.length=0:=by rw[hlen,h];simp
         exact absurd (zaB this) (fun e=>hne e)
      |slL _ _ _ _ _ lR c' l2 hl2 h1 h2 h3 h4=>
       rw[hl]at hl2;cases hl2;have qY:0<dLen:=by
        rcases Nat.eq_zero_or_pos dLen with h0|h0
        . have:cs.length=0:=by rw[hlen,h0];simp
          exact absurd (zaB this) (fun e=>hne e)
        . exact h0
       rw[h4 (by omega)]
     subst hs';subst hd';subst SH;refine⟨_,_, ?_,.int .i64 _,SF,hR'⟩;simp[Builtin.copy_,run_underlying hu,Builtin.lenOf,sizeOf,typeInfo,hi,SJ,hst,goInt]
 . cases h
theorem VL.cons_inv {x:Value} {xs ys:List Value} (h:VL f (x::xs) ys):∃y r,ys=y::r/\V f x y/\VL f xs r:=by
 cases ys with
 |nil=>have:=h.1;simp at this
 |cons y r=>exact⟨y,r,rfl,h.2 0 _ _ (by simp) (by simp),by have:=h.1;simpa using this,fun i v v' a b=>h.2 (i+1) v v' (by simpa using a) (by simpa using b)⟩
theorem VL.qU {ys:List Value} (h:VL f [] ys):ys=[]:=by have:=h.1;simpa using this.symm
theorem VL.one {x:Value} {ys:List Value} (h:VL f [x] ys):∃y,ys=[y]/\V f x y:=by
 obtain⟨y,r,rfl,h0,h1⟩:=h.cons_inv;rw[h1.qU];exact⟨y,rfl,h0⟩
theorem VL.two {x u:Value} {ys:List Value} (h:VL f [x,u] ys):∃y z,ys=[y,z]/\V f x y/\V f u z:=by
 obtain⟨y,r,rfl,h0,h1⟩:=h.cons_inv;obtain⟨z,rfl,h2⟩:=h1.one;exact⟨y,z,rfl,h0,h2⟩
theorem CH:∀l:List Value,l.foldl GM none=none
 |[]=>rfl
 |_::l=>CH l
theorem So:∀(rest dX:List Value) (k:IntKind) (x:Int),VL f rest dX->∀v,rest.foldl GM (some (.int k x))=some v->
 (dX.foldlM Builtin.min2 (.int k x)).run P w= .ok v w/\V f v v:=by
 intro rest
 induction rest with
 |nil=>
  intro dX k x hr v hv;have:dX=[]:=by have:=hr.1;simpa using this.symm
  subst this;simp at hv;subst hv;exact⟨by simp,.int _ _⟩
 |cons y rest ih=>
  intro dX k x hr v hv;obtain⟨y',r',rfl,h0,ht⟩:=hr.cons_inv;rw[zbX]at hv;cases h0
  case int k2 n=>
   obtain⟨h1,h2⟩:=ih r' k _ ht v hv;exact⟨by simp only[List.foldlM_cons,Sem.run_bind,Builtin.min2,Sem.run_pure,Result.andThen_ok];exact h1,h2⟩
  all_goals (have hv':List.foldl GM none rest=some v:=hv;rw[CH]at hv';cases hv')
theorem Kq {ts:Array TypeId} {t:TypeId} {xs xs':List Value} {v:Value} (hx:VL f xs xs') (h:Vc xs=some v):
 (Builtin.min_ ts t xs'.toArray).run P w= .ok v w/\V f v v:=by
 unfold Vc at h
 split at h
 . rename_i k x rest;obtain⟨y',r',rfl,h0,ht⟩:=hx.cons_inv;cases h0;exact So rest r' k x ht v h
 . cases h
theorem CY:∀l:List Value,l.foldl F8 none=none
 |[]=>rfl
 |_::l=>CY l
theorem Sw:∀(rest dX:List Value) (k:IntKind) (x:Int),VL f rest dX->∀v,rest.foldl F8 (some (.int k x))=some v->
 (dX.foldlM Builtin.max2 (.int k x)).run P w= .ok v w/\V f v v:=by
 intro rest
 induction rest with
 |nil=>
  intro dX k x hr v hv;have:dX=[]:=by have:=hr.1;simpa using this.symm
  subst this;simp at hv;subst hv;exact⟨by simp,.int _ _⟩
 |cons y rest ih=>
  intro dX k x hr v hv;obtain⟨y',r',rfl,h0,ht⟩:=hr.cons_inv;rw[zbX]at hv;cases h0
  case int k2 n=>
   obtain⟨h1,h2⟩:=ih r' k _ ht v hv;exact⟨by simp only[List.foldlM_cons,Sem.run_bind,Builtin.max2,Sem.run_pure,Result.andThen_ok];exact h1,h2⟩
  all_goals (have hv':List.foldl F8 none rest=some v:=hv;rw[CY]at hv';cases hv')
theorem JE {ts:Array TypeId} {t:TypeId} {xs xs':List Value} {v:Value} (hx:VL f xs xs') (h:TM xs=some v):
 (Builtin.max_ ts t xs'.toArray).run P w= .ok v w/\V f v v:=by
 unfold TM at h
 split at h
 . rename_i k x rest;obtain⟨y',r',rfl,h0,ht⟩:=hx.cons_inv;cases h0;exact Sw rest r' k x ht v h
 . cases h
theorem Ab (hR:R f H w) {b:Builtin} {ts:Array TypeId} {ty:TypeId} {cs:Array Bool} {xs xs':List Value} {v:Value} {H':ag}
 (bo:∀j,H.size<=j->j<H'.size->f j=none) (hx:VL f xs xs') (h:iV P H b ts xs=some (v,H')):
 ∃f' w' v',(Go.builtin b ts ty cs xs'.toArray).run P w= .ok (.value v') w'/\V f' v v'/\Stp f H w f' H' w'/\R f' H' w':=by
 obtain⟨tl⟩:=ts;unfold iV at h
 split at h
 . split at h
   . rename_i t u s x hts;simp at hts;subst hts;obtain⟨s',x',rfl,h1,h2⟩:=hx.two;obtain⟨f',w',v',h1,h2⟩:=BO (ty:=ty) hR bo h1 h2 h;exact⟨f',w',v',by simp[Go.builtin,h1],h2⟩
   . cases h
 . split at h
   . rename_i t u s x hts;simp at hts;subst hts;obtain⟨s',x',rfl,h1,h2⟩:=hx.two;obtain⟨w',v',h1,h2⟩:=H8 (u:=u) (ty:=ty) hR h1 h2 h;exact⟨f,w',v',by simp[Go.builtin,h1],h2⟩
   . cases h
 . split at h
   . rename_i t x hts;simp at hts;subst hts;obtain⟨x',rfl,hv⟩:=hx.one
     split at h
     . rename_i e a n c hu;cases h;obtain⟨a',c',rfl⟩:=tc hv rfl;exact⟨f,w,_,by simp[Go.builtin,Builtin.len_,run_underlying hu,goInt],.int _ _,.refl f H w,hR⟩
     . rename_i n e y hu;cases h;exact⟨f,w,_,by simp[Go.builtin,Builtin.len_,run_underlying hu,goInt],.int _ _,.refl f H w,hR⟩
     . rename_i s hu;cases h;cases hv;exact⟨f,w,_,by simp[Go.builtin,Builtin.len_,run_underlying hu,goInt],.int _ _,.refl f H w,hR⟩
     . cases h
   . cases h
 . split at h
   . rename_i t hts;simp at hts;subst hts;obtain⟨x',rfl,hv⟩:=hx.one
     split at h
     . rename_i e hu;cases h;cases hv;exact⟨f,w,_,by simp[Go.builtin,Builtin.cap_,run_underlying hu,goInt],.int _ _,.refl f H w,hR⟩
     . cases h
   . rename_i t b off n c hts;simp at hts;subst hts;obtain⟨x',rfl,hv⟩:=hx.one
     split at h
     . rename_i e hu;cases h;cases hv with
       |slX b off _ _ l a hl ha=>exact⟨f,w,_,by simp[Go.builtin,Builtin.cap_,run_underlying hu,goInt],.int _ _,.refl f H w,hR⟩
     . cases h
   . cases h
 . simp only[zai]at h;obtain⟨u,hu,hv⟩:=h;cases hv;obtain⟨h1,h2⟩:=Kq (P:=P) (w:=w) (ts:=⟨tl⟩) (t:=ty) hx hu;exact⟨f,w,_,by simp[Go.builtin,h1],h2,.refl f H w,hR⟩
 . simp only[zai]at h;obtain⟨u,hu,hv⟩:=h;cases hv;obtain⟨h1,h2⟩:=JE (P:=P) (w:=w) (ts:=⟨tl⟩) (t:=ty) hx hu;exact⟨f,w,_,by simp[Go.builtin,h1],h2,.refl f H w,hR⟩
 . cases h
end
end
end Go.Proofs.YtfaojedfnjdnnaaGreat.Ev
namespace Go.Proofs.YtfaojedfnjdnnaaGreat.Ev
noncomputable section
open Go
def QX (P:Program) (g:FuncId) (args:List Value) (H:ag) (v:Value) (H':ag):Prop:=
 (∃fn c,P.funcs[g]? =some fn/\fn.body=some c/\fn.name≠ "runtime.NumGoroutine")/\
 ∀(f:Fm) (w:World) (jt:List Value),R f H w->(∀j,H.size<=j->j<H'.size->f j=none)->VL f args jt->
  Calls P g jt.toArray w fun e w'=>∃f' v',e= .returned v'/\V f' v v'/\Stp f H w f' H' w'/\R f' H' w'
def Bh (P:Program) (cl:FuncId->List Value->ag->Option (Value × ag)):Prop:=
 ∀g args H v H',cl g args H=some (v,H')->QX P g args H v H'
section
variable {P : Program} {f : Fm} {H : ag} {w : World} {cl : FuncId -> List Value -> ag -> Option (Value × ag)}
theorem sZ {ρ:Operand->Option Value} {ρ':Operand->Value}:∀(ps:List (Nat × Operand)) (vs:List (Nat × Value)),(∀x∈ps.map (·.2),∀v,ρ x=some v->V f v (ρ' x))->
 pN ρ ps=some vs->PV f vs (ps.map fun(i,x)=>(i,ρ' x)):=by
 intro ps
 induction ps with
 |nil=>intro vs _ h;simp[pN]at h;subst h;exact .nil
 |cons p ps ih=>
  intro vs hr h;obtain⟨i,x⟩:=p;simp only[pN]at h
  split at h
  . rename_i v vs' hv hvs;cases h;cases hx:ρ x with
    |none=>simp[hx]at hv
    |some u=>
     simp only[hx,zcg]at hv;have huv:u=v:=by cases u<;>simp[oU]at hv<;>exact hv
     subst huv;exact .cons i u _ vs' _ (hr x (by simp) u hx) hv (ih vs' (fun y hy=>hr y (by simp at hy⊢;exact .inr hy)) hvs)
  . cases h
theorem mX {ρ:Operand->Option Value} {ρ':Operand->Value}:∀(xs:List Operand) (vs:List Value),(∀x∈xs,∀v,ρ x=some v->V f v (ρ' x))->
 rh ρ xs=some vs->VL f vs (xs.map ρ'):=by
 intro xs
 induction xs with
 |nil=>intro vs _ h;simp[rh]at h;subst h;exact .nil f
 |cons x xs ih=>
  intro vs hr h;simp only[rh]at h
  split at h
  . rename_i v vs' hv hvs;cases h;exact .cons (hr x (by simp) v hv) (ih vs' (fun y hy=>hr y (by simp[hy])) hvs)
  . cases h
theorem rL {ρ:Operand->Option Value} {ρ':Operand->Value} {x:Option Operand} {v:Option Value} (hr:∀y∈x.toArray,∀v,ρ y=some v->V f v (ρ' y)) (h:G3 ρ x=some v):
 VO f v (x.map ρ'):=by
 cases x with
 |none=>simp[G3]at h;subst h;trivial
 |some y=>
  simp[G3]at h;obtain⟨u,hu,rfl⟩:=h;exact hr y (by simp) u hu
def Did (P:Program) (o:Oper) (ρ':Operand->Value) (f:Fm) (H:ag) (w:World) (v:Value) (H':ag):Prop:=
 ∃f' w' v',((execOp ρ' o).run P w= .ok (.value v') w'\/((execOp ρ' o).run P w= .ok .skip w'/\v'=undef))/\V f' v v'/\Stp f H w f' H' w'/\R f' H' w'
theorem Did.pure (hR:R f H w) {o:Oper} {ρ':Operand->Value} {v v':Value} (h:(execOp ρ' o).run P w= .ok (.value v') w) (hv:V f v v'):Did P o ρ' f H w v H:=
 ⟨f,w,v',.inl h,hv,.refl f H w,hR⟩
theorem ZJ (hR:R f H w) {o:Oper} {ρ:Operand->Option Value} {ρ':Operand->Value} (hρ:∀x∈o.op.operands,∀v,ρ x=some v->V f v (ρ' x)) {v:Value} {H':ag}
 (bo:∀j,H.size<=j->j<H'.size->f j=none) (hnc:∀c g,o.op= .call c->c.callee≠.value g) (h:opE P cl ρ o H=some (v,H')):Did P o ρ' f H w v H':=by
 obtain⟨dst,op,type,pos,after,guard⟩:=o;simp only at hρ hnc;unfold opE at h;cases op<;>simp only at h<;>try (cases h;done)
 case move x=>
  simp only[zai]at h;obtain⟨u,hu,e⟩:=h;cases e;exact .pure hR (by simp[execOp]) (hρ x (by simp[Op.operands]) _ hu)
 case assign x=>
  simp only[zai]at h;obtain⟨u,hu,e⟩:=h;cases e;exact .pure hR (by simp[execOp]) (hρ x (by simp[Op.operands]) _ hu)
 case pick c a b=>
  split at h
  . rename_i t hc;simp only[zai]at h;obtain⟨u,hu,e⟩:=h;cases e;have hc':=hρ c (by simp[Op.operands]) _ hc;cases hcc:ρ' c<;>rw[hcc]at hc'<;>try (cases hc';done)
    cases hc';cases t with
    |true=>exact .pure hR (by simp[execOp,hcc,asBool]) (hρ a (by simp[Op.operands]) _ hu)
    |false=>exact .pure hR (by simp[execOp,hcc,asBool]) (hρ b (by simp[Op.operands]) _ hu)
  . cases h
 case alloc e=>
  split at h
  . rename_i z hz;simp only[zai]at h;obtain⟨cs,hcs,he⟩:=h;cases he;obtain⟨f',w',h1,h2,h3,h4⟩:=F3 hR (bo _ (zap _) (by simp[aF])) e hz hcs;exact⟨f',w',_,.inl (by simp[execOp,h1]),h2,h3,h4⟩
  . cases h
 case box e x=>
  simp only[zai,zaM]at h;obtain⟨cs,⟨u,hu,hcs⟩,he⟩:=h;cases he;obtain⟨f',w',h1,h2,h3,h4⟩:=Nt (P:=P) hR (bo _ (zap _) (by simp[aF])) e (hρ x (by simp[Op.operands]) _ hu) hcs;exact⟨f',w',_,.inl (by simp[execOp,h1]),h2,h3,h4⟩
 case build t ps=>
  simp only[zai,zaM]at h;obtain⟨u,⟨vs,hvs,hb⟩,he⟩:=h;cases he;have hp:=sZ (f:=f) (ρ':=ρ') ps.toList vs (fun x hx=>hρ x (by simpa[Op.operands]using hx)) hvs;obtain⟨v',h1,h2⟩:=Fl (P:=P) (w:=w) hp hb;refine .pure hR ?_ h2;have e:(ps.toList.map fun(i,x)=>(i,ρ' x)).toArray=ps.map fun(i,x)=>(i,ρ' x):=by
   apply Array.ext';simp only[Array.toList_map]
  rw[e]at h1;simp[execOp,h1]
 case buildSlice t n ps=>
  simp only[zaM]at h;obtain⟨vs,hvs,hb⟩:=h;have hp:=sZ (f:=f) (ρ':=ρ') ps.toList vs (fun x hx=>hρ x (by simpa[Op.operands]using hx)) hvs;have hsz:H'.size=H.size+1:=by
   unfold fG at hb
   repeat' split at hb
   all_goals first|(cases hb;done)|(cases hb;simp[aF])
  obtain⟨f',w',v',h1,h2,h3,h4⟩:=sP (P:=P) hR (bo _ (zap _) (by omega)) hp hb;have e:(ps.toList.map fun(i,x)=>(i,ρ' x)).toArray=ps.map fun(i,x)=>(i,ρ' x):=by
   apply Array.ext';simp only[Array.toList_map]
  rw[e]at h1;exact⟨f',w',v',.inl (by simp[execOp,h1]),h2,h3,h4⟩
 case load t a=>
  simp only[zai,zaM]at h;obtain⟨u,⟨p,hp,hl⟩,he⟩:=h;cases he;obtain⟨v',h1,h2⟩:=pH hR (hρ a (by simp[Op.operands]) _ hp) hl;exact .pure hR (by simp[execOp,h1]) h2
 case store t a x=>
  split at h
  . rename_i p u hp hu;simp only[zai]at h;obtain⟨H2,hs,he⟩:=h;cases he;obtain⟨w',h1,h2,h3⟩:=EG hR (hρ a (by simp[Op.operands]) _ hp) (hρ x (by simp[Op.operands]) _ hu) hs;exact⟨f,w',undef,.inr ⟨by simp[execOp,h1],rfl⟩,V.undef f,h2,h3⟩
  . cases h
 case nilCheck x=>
  split at h
  . rename_i a ha;cases h;have hv:=hρ x (by simp[Op.operands]) _ ha;cases hx:ρ' x<;>rw[hx]at hv<;>try (cases hv;done)
    rename_i a';cases a' with
    |none=>cases hv
    |some a'=>exact .pure hR (by simp[execOp,hx]) hv
  . rename_i a n c ha;cases h;have hv:=hρ x (by simp[Op.operands]) _ ha;cases hx:ρ' x<;>rw[hx]at hv<;>try (cases hv;done)
    exact .pure hR (by simp[execOp,hx]) hv
  . rename_i g y z ha;cases h;have hv:=hρ x (by simp[Op.operands]) _ ha;cases hx:ρ' x<;>rw[hx]at hv<;>try (cases hv;done)
    rename_i fn y' z';cases fn with
    |func g'=>exact .pure hR (by simp[execOp,hx]) hv
    |_=>cases hv
  . cases h
 case binOp op t x y ty=>
  split at h
  . rename_i a b ha hb;simp only[zai]at h;obtain⟨u,hu,he⟩:=h;cases he;obtain⟨h1,h2,h3⟩:=Ki (w:=w) (hρ x (by simp[Op.operands]) _ ha) (hρ y (by simp[Op.operands]) _ hb) hu;exact .pure hR (by simp[execOp,h1,h2]) h3
  . cases h
 case unOp op t x=>
  simp only[zai,zaM]at h;obtain⟨u,⟨p,hp,hl⟩,he⟩:=h;cases he;obtain⟨h1,h2⟩:=Nm (P:=P) (w:=w) (hρ x (by simp[Op.operands]) _ hp) hl;exact .pure hR (by simp[execOp,h1]) h2
 case convert s d x=>
  simp only[zai,zaM]at h;obtain⟨u,⟨p,hp,hl⟩,he⟩:=h;cases he;obtain⟨h1,h2⟩:=Gl (P:=P) (w:=w) (hρ x (by simp[Op.operands]) _ hp) hl;exact .pure hR (by simp[execOp,h1]) h2
 case makeFunc fn a b=>
  split at h
  . rename_i g xs ys hxs hys;cases h;have v1:=mX (f:=f) (ρ':=ρ') a.toList xs (fun x hx=>hρ x (by simp[Op.operands];exact .inl (by simpa using hx))) hxs;have v2:=mX (f:=f) (ρ':=ρ') b.toList ys (fun x hx=>hρ x (by simp[Op.operands];exact .inr (by simpa using hx))) hys;refine .pure hR (v':= .func (.func g) (a.map ρ') (b.map ρ')) (by simp[execOp,Instr.makeFunc]) ?_
    refine .func g _ _ _ _ (by simpa using v1.1) (by simpa using v2.1) ?_ ?_
    . intro i u u' h1 h2;exact v1.2 i u u' (by simpa using h1) (by simpa using h2)
    . intro i u u' h1 h2;exact v2.2 i u u' (by simpa using h1) (by simpa using h2)
  . cases h
 case makeSlice t l c=>
  split at h
  . rename_i a b ha hb;have hsz:H'.size=H.size+1:=by
     unfold wO at h
     repeat' split at h
     all_goals first|(cases h;done)|(cases h;simp[aF])
    obtain⟨f',w',v',h1,h2,h3,h4⟩:=GQ (P:=P) hR (bo _ (zap _) (by omega)) (hρ l (by simp[Op.operands]) _ ha) (hρ c (by simp[Op.operands]) _ hb) h;exact⟨f',w',v',.inl (by simp[execOp,h1]),h2,h3,h4⟩
  . cases h
 case slice t x lo hi mx=>
  cases mx with
  |some m=>
   cases hi with
   |none=>cases h
   |some hi=>
    simp only at h
    split at h
    . rename_i a l u q ha hl hu hq;simp only[zai]at h;obtain⟨r,hr,he⟩:=h;cases he;have e1:=rL (f:=f) (ρ':=ρ') (fun y hy=>hρ y (by simp[Op.operands]at hy⊢;simp[hy])) hl;obtain⟨v',h1,h2⟩:=BN (P:=P) (w:=w) (hρ x (by simp[Op.operands]) _ ha) e1 (hρ hi (by simp[Op.operands]) _ hu) (hρ m (by simp[Op.operands]) _ hq) hr;exact .pure hR (by simp[execOp,h1]) h2
    . cases h
  |none=>
   simp only at h
   split at h
   . rename_i a l u ha hl hu;simp only[zai]at h;obtain⟨r,hr,he⟩:=h;cases he;have e1:=rL (f:=f) (ρ':=ρ') (fun y hy=>hρ y (by simp[Op.operands]at hy⊢;simp[hy])) hl;have e2:=rL (f:=f) (ρ':=ρ') (fun y hy=>hρ y (by simp[Op.operands]at hy⊢;simp[hy])) hu;obtain⟨v',h1,h2⟩:=DX (P:=P) (w:=w) (hρ x (by simp[Op.operands]) _ ha) e1 e2 hr;exact .pure hR (by simp[execOp,h1]) h2
   . cases h
 case fieldAddr s x n=>
  simp only[zai,zaM]at h;obtain⟨u,⟨p,hp,hl⟩,he⟩:=h;cases he;obtain⟨v',h1,h2⟩:=vb (P:=P) (w:=w) (hρ x (by simp[Op.operands]) _ hp) hl;exact .pure hR (by simp[execOp,h1]) h2
 case field s x n=>
  simp only[zai,zaM]at h;obtain⟨u,⟨p,hp,hl⟩,he⟩:=h;cases he;obtain⟨v',h1,h2⟩:=FF (P:=P) (w:=w) (hρ x (by simp[Op.operands]) _ hp) hl;exact .pure hR (by simp[execOp,h1]) h2
 case indexAddr t x i=>
  split at h
  . rename_i a b ha hb;simp only[zai]at h;obtain⟨u,hu,he⟩:=h;cases he;obtain⟨v',h1,h2⟩:=um (P:=P) (w:=w) (hρ x (by simp[Op.operands]) _ ha) (hρ i (by simp[Op.operands]) _ hb) hu;exact .pure hR (by simp[execOp,h1]) h2
  . cases h
 case index t x i=>
  split at h
  . rename_i a b ha hb;simp only[zai]at h;obtain⟨u,hu,he⟩:=h;cases he;obtain⟨v',h1,h2⟩:=Fk (P:=P) (w:=w) (hρ x (by simp[Op.operands]) _ ha) (hρ i (by simp[Op.operands]) _ hb) hu;exact .pure hR (by simp[execOp,h1]) h2
  . cases h
 case extract x n=>
  simp only[zai,zaM]at h;obtain⟨u,⟨p,hp,hl⟩,he⟩:=h;cases he;obtain⟨v',h1,h2⟩:=Bb (P:=P) (w:=w) (hρ x (by simp[Op.operands]) _ hp) hl;exact .pure hR (by simp[execOp,h1]) h2
 case call c=>
  split at h
  . rename_i args tY;have va:=mX (f:=f) (ρ':=ρ') c.args.toList args (fun x hx=>hρ x (by simp[Op.operands,Call.operands];exact .inr (by simpa using hx))) tY
    split at h
    . rename_i b hb;obtain⟨f',w',v',h1,h2⟩:=Ab (ty:=type) (cs:=c.args.map fun| .const _=>true|_=>false) hR bo va h;have e:(c.args.toList.map ρ').toArray=c.args.map ρ':=by
       apply Array.ext';simp only[Array.toList_map]
      rw[e]at h1;exact⟨f',w',v',.inl (by simp only[execOp,resolve,hb,invoke,Sem.run_bind,Sem.run_pure,Result.andThen_ok];exact h1),h2⟩
    . rename_i g hg;exact absurd hg (hnc c g rfl)
    . cases h
  . cases h
end
end
end Go.Proofs.YtfaojedfnjdnnaaGreat.Ev
namespace Go.Proofs.YtfaojedfnjdnnaaGreat.Ev
noncomputable section
open Go
inductive Kd where
 |pure
 |load
 |quiet
 |dh
def fj (L:List FuncId) (o:Oper):Kd:=
 match o.op with
 | .load .. => .load
 | .store .. => .dh
 | .alloc _=> .quiet
 | .box .. => .quiet
 | .buildSlice .. => .quiet
 | .makeSlice .. => .quiet
 | .call c=>
  match c.callee with
  | .builtin .append=> .quiet
  | .builtin .copy=> .dh
  | .builtin _=> .pure
  | .value (.func g)=>if L.contains g then .dh else .quiet
  | .value _=> .quiet
  | .invoke .. => .dh
 |_=> .pure
def kx (o:Oper):Bool:=
 match o.op with
 | .call c=>(match c.callee with| .builtin .append=>true|_=>false)
 |_=>false
structure Rec where
 kind:Kd
 v:Value
 h0:ag
 h1:ag
 ld:Option (TypeId × Value)
def eP (p:Nat->Bool):List Rec->Nat->List (Nat × Nat)
 |[],_=>[]
 |r::rs,k=>if p k then eP p rs (k+1)else(r.h0.size,r.h1.size)::eP p rs (k+1)
def dt (H:ag) (p:Nat->Bool) (rs:List Rec):ag:={H with lock:=H.size,hid:=eP p rs 0++H.hid}
def cU (H H':ag):ag:={H' with lock:=H.lock,hid:=H.hid}
def eqc:Value->Value->Bool
 | .int k n,.int k' m=>k==k'&&n==m
 | .bool a,.bool b=>a==b
 | .pointer a,.pointer b=>a==b
 | .slice a n c,.slice b m d=>a==b&&n==m&&c==d
 | .nilFunc,.nilFunc=>true
 |_,_=>false
def BW:List Value->List Value->Bool
 |[],[]=>true
 |a::r,b::s=>eqc a b&&BW r s
 |_,_=>false
def eqv:Value->Value->Bool
 | .agg xs,.agg ys=>BW xs.toList ys.toList
 |a,b=>eqc a b
def aW (A:Array Nat) (i k:Nat):Bool:=(A.getD i 0).testBit k
section
variable (P : Program) (L : List FuncId) (cl : FuncId -> List Value -> ag -> Option (Value × ag))
def fu (ops:Array Oper) (A:Array Nat) (i:Nat) (o:Oper) (s:St) (rs:List Rec):Option Rec:=
 match eU ops s.fr o with
 |false=>some ⟨.pure,undef,s.hp,s.hp,none⟩
 |true=>
  match fj L o with
  | .pure=>
   match opE P cl (dW s.fr) o s.hp with
   |some (v,_)=>some ⟨.pure,v,s.hp,s.hp,none⟩
   |none=>none
  | .load=>
   match o.op with
   | .load t a=>
    match dW s.fr a with
    |some p=>
     match cI P (dt s.hp (aW A i) rs) t p with
     |some v=>some ⟨.load,v,s.hp,s.hp,some (t,p)⟩
     |none=>none
    |none=>none
   |_=>none
  | .quiet=>
   match opE P cl (dW s.fr) o (dt s.hp (aW A i) rs)with
   |some (v,H')=>some ⟨.quiet,v,s.hp,cU s.hp H',none⟩
   |none=>
    if kx o then
     match opE P cl (dW s.fr) o s.hp with
     |some (v,H')=>some ⟨.dh,v,s.hp,H',none⟩
     |none=>none
    else none
  | .dh=>
   match opE P cl (dW s.fr) o s.hp with
   |some (v,H')=>some ⟨.dh,v,s.hp,H',none⟩
   |none=>none
def fR (ops:Array Oper) (A:Array Nat):List Oper->Nat->St->List Rec->Option (St × List Rec)
 |[],_,s,rs=>some (s,rs)
 |o::l,i,s,rs=>
  match fu P L cl ops A i o s rs with
  |some r=>fR ops A l (i+1) ⟨iS s.fr o.dst r.v,r.h1⟩ (rs++[r])
  |none=>none
def fS (ops:Array Oper) (i:Nat):Bool:=
 match ops[i]? with
 |some o=>(match o.op with| .alloc _=>true|_=>false)
 |none=>false
def A6 (A:Array Nat) (B:Nat->Bool) (rs:List Rec) (i:Nat) (a:Rec) (j:Nat) (b:Rec):Bool:=
 match b.kind with
 | .dh=>
  match a.kind with
  | .pure=>true
  | .load=>
   aW A i j||aW A j i||
   (match a.ld with
    |some (t,p)=>
     match cI P (if j<i then dt b.h0 (aW A i) (rs.take j)else b.h1) t p with
     |some v=>eqv a.v v
     |none=>false
    |none=>false)
  | .quiet=>i==j||aW A i j||aW A j i||(decide (j<i)&&B i)
  | .dh=>i==j||aW A i j||aW A j i
 |_=>true
def qG (A:Array Nat) (B:Nat->Bool) (rs:List Rec):Bool:=rs.zipIdx.all fun(a,i)=>rs.zipIdx.all fun(b,j)=>A6 P A B rs i a j b
end
def jb (ops:Array Oper) (A:Array Nat) (nt:Nat):Bool:=
 ops.toList.zipIdx.all (fun(o,i)=>
  o.after.toList.all (fun e=> !Region.binds .any e||decide (e.on<i))&&
  (List.range ops.size).all (fun k=> !aW A i k||(decide (k<i)&&o.after.toList.any fun e=>Region.binds .any e&&(e.on==k||aW A e.on k)))&&
  (match o.dst with|some d=>decide (d<nt)|none=>true)&&
  ops.toList.zipIdx.all (fun(q,k)=>
   match q.dst with
   |some d=>i==k||(o.dst !=some d&&(!(o.looksAt ops).contains d||aW A i k||aW A k i))
   |none=>true)&&
  (match o.op with| .select .. =>false|_=>true))
section
variable (P : Program) (L : List FuncId) (cl : FuncId -> List Value -> ag -> Option (Value × ag))
def ma (ops:Array Oper) (s:St):Option St:=
 match jb ops (Region.before ops) s.fr.length with
 |false=>none
 |true=>
  match fR P L cl ops (Region.before ops) ops.toList 0 s []with
  |some (s',rs)=>if qG P (Region.before ops) (fS ops) rs then some s' else none
  |none=>none
def kp:Nat->(St->Option (Ex × St))->St->Option (Ex × St)
 |0,_,_=>none
 |n+1,body,s=>
  match body s with
  |some (.normal,s')=>kp n body s'
  |r=>r
def bh (N:Nat):Code->St->Option (Ex × St)
 | .skip,s=>some (.normal,s)
 | .region _ ops d,s=>
  match d with
  |false=>(lG P cl ops ops.toList s).map (Ex.normal,·)
  |true=>(ma P L cl ops s).map (Ex.normal,·)
 | .seq a b,s=>
  match bh N a s with
  |some (.normal,s')=>bh N b s'
  |r=>r
 | .cond c a b,s=>
  match dW s.fr c with
  |some (.bool true)=>bh N a s
  |some (.bool false)=>bh N b s
  |_=>none
 | .block id body,s=>
  match bh N body s with
  |some (.exit k,s')=>if k=id then some (.normal,s')else some (.exit k,s')
  |r=>r
 | .loop body,s=>kp N (bh N body) s
 | .exit id,s=>some (.exit id,s)
 | .label _,s=>some (.normal,s)
 | .ret,s=>some (.ret,s)
 | .scope _,_=>none
 | .rangeFunc ..,_=>none
 | .goto _,_=>none
 | .refuse _,_=>none
def fI (H:ag) (fr:List Value):List ResultVar->Option (List Value)
 |[]=>some []
 | .tmp t::r=>
  match fI H fr r with
  |some vs=>some (fr.getD t undef::vs)
  |none=>none
 | .cell a t::r=>
  match cI P H t (fr.getD a undef),fI H fr r with
  |some v,some vs=>some (v::vs)
  |_,_=>none
def lC:List Value->Value
 |[v]=>v
 |vs=> .tuple vs.toArray
end
def oB (P:Program) (L:List FuncId) (self:FuncId->List Value->ag->Option (Value × ag)) (n:Nat) (g:FuncId) (args:List Value) (H:ag):Option (Value × ag):=
 match P.funcs[g]? with
 |some fn=>
  match fn.body with
  |some c=>
   match bh P L self n c ⟨args++List.replicate (fn.ntmps-args.length) undef,H⟩with
   |some (.normal,s)=>(fI P s.hp s.fr fn.results.toList).map fun vs=>(lC vs,s.hp)
   |some (.ret,s)=>(fI P s.hp s.fr fn.results.toList).map fun vs=>(lC vs,s.hp)
   |_=>none
  |none=>none
 |none=>none
abbrev bp:=FuncId->List Value->ag->Option (Value × ag)
def bJ (P:Program) (L:List FuncId) (O:bp):Nat->FuncId->List Value->ag->Option (Value × ag)
 |0,_,_,_=>none
 |n+1,g,args,H=>
  match O g args H with
  |some r=>some r
  |none=>oB P L (bJ P L O n) n g args H
theorem mv {P:Program} {L:List FuncId} {O:bp} {n:Nat} {g:FuncId} {args:List Value} {r:Value × ag} {H:ag} (h:O g args H=some r):bJ P L O (n+1) g args H=some r:=by
 simp[bJ,h]
theorem pT {P:Program} {L:List FuncId} {O:bp} {n:Nat} {g:FuncId} {args:List Value} {H:ag} (h:O g args H=none):
 bJ P L O (n+1) g args H=oB P L (bJ P L O n) n g args H:=by
 simp[bJ,h]
end
end Go.Proofs.YtfaojedfnjdnnaaGreat.Ev
namespace Go.Proofs.YtfaojedfnjdnnaaGreat.Ev
noncomputable section
open Go
structure Fr (H H' : ag) : Prop where
 size:H.size<=H'.size
 lock:H'.lock=H.lock
 hid:H'.hid=H.hid
 root:∀x,x<H.size->x<H.lock->H'.root.get x=H.root.get x
theorem Fr.refl (H:ag):Fr H H:=⟨zap _,rfl,rfl,fun _ _ _=>rfl⟩
theorem Fr.trans {A B C:ag} (a:Fr A B) (b:Fr B C):Fr A C:=
 ⟨zaP a.size b.size,b.lock.trans a.lock,b.hid.trans a.hid,fun x h1 h2=>(b.root x (zaD h1 a.size) (by rw[a.lock];exact h2)).trans (a.root x h1 h2)⟩
theorem Fr.push (H:ag) (b:Blk):Fr H (H.push b):=⟨by simp,rfl,rfl,fun x h1 _=>by rw[ag.bV,if_neg (by omega)]⟩
theorem Fr.put (H:ag) (j:Nat) (b:Option Blk) (h:H.lock<=j):Fr H (H.put j b):=⟨by simp,rfl,rfl,fun x _ h2=>by rw[ag.cW,if_neg (by omega)]⟩
theorem qc {H H':ag} {b off:Nat} {vs:List Value} (h:setCells H b off vs=some H'):Fr H H':=by
 unfold setCells at h
 split at h
 . split at h
   . rename_i hc;cases h;simp only[zae]at hc;exact .put H b _ (aO.1 hc.1.1)
   . cases h
 . cases h
section
variable {P : Program}
theorem Of {H H':ag} {t:TypeId} {p v:Value} (h:pE P H t p v=some H'):Fr H H':=by
 unfold pE at h
 repeat' split at h
 all_goals first|(cases h;done)|exact qc h
theorem QW {H H':ag} {t:TypeId} {a b v:Value} (h:wO P H t a b=some (v,H')):Fr H H':=by
 unfold wO at h
 repeat' split at h
 all_goals first|(cases h;done)|(cases h;exact .push H _)
theorem zH {H H':ag} {t:TypeId} {n:Nat} {ps:List (Nat × Value)} {v:Value} (h:fG P H t n ps=some (v,H')):Fr H H':=by
 unfold fG at h
 repeat' split at h
 all_goals first|(cases h;done)|(cases h;exact .push H _)
theorem PR {H H':ag} {t u:TypeId} {a b v:Value} (h:zK P H t u a b=some (v,H')):Fr H H':=by
 unfold zK at h
 repeat' split at h
 all_goals first|(cases h;done)|(cases h;exact .refl H)|(cases h;exact .push H _)
theorem Jy {H H':ag} {t u:TypeId} {a b v:Value} (h:dZ P H t u a b=some (v,H')):Fr H H':=by
 unfold dZ at h
 repeat' split at h
 all_goals first
  |(cases h;done)
  |(cases h;exact .refl H)
  |(cases h;exact .push H _)
  |exact PR h
  |(simp only[zai]at h;obtain⟨H2,h1,h2⟩:=h;cases h2;exact qc h1)
  |(rename_i hc;cases h;simp only[zae]at hc;exact(Fr.put H _ none (aO.1 hc.1.1.1.1)).trans (.push _ _))
theorem Rz {H H':ag} {t u:TypeId} {a b v:Value} (h:rj P H t u a b=some (v,H')):Fr H H':=by
 unfold rj at h
 repeat' split at h
 all_goals first
  |(cases h;done)
  |(cases h;exact .refl H)
  |(simp only[zai]at h;obtain⟨H2,h1,h2⟩:=h;cases h2;exact qc h1)
theorem H6 {H H':ag} {b:Builtin} {ts:Array TypeId} {xs:List Value} {v:Value} (h:iV P H b ts xs=some (v,H')):Fr H H':=by
 unfold iV at h
 repeat' split at h
 all_goals first
  |(cases h;done)
  |(cases h;exact .refl H)
  |exact Jy h
  |exact Rz h
  |(simp only[zai]at h;obtain⟨u,h1,h2⟩:=h;cases h2;exact .refl H)
def iq (cl:FuncId->List Value->ag->Option (Value × ag)):Prop:=∀g args H v H',cl g args H=some (v,H')->Fr H H'
theorem pA {cl:FuncId->List Value->ag->Option (Value × ag)} (hcl:iq cl) {ρ:Operand->Option Value} {o:Oper} {H H':ag} {v:Value} (h:opE P cl ρ o H=some (v,H')):Fr H H':=by
 unfold opE at h
 split at h
 all_goals first
  |(cases h;done)
  |(simp only[zai]at h;obtain⟨u,h1,h2⟩:=h;cases h2;first|exact .refl H|exact .push H _)
  |skip
 all_goals (repeat' split at h)
 all_goals first
  |(cases h;done)
  |(cases h;exact .refl H)
  |(simp only[zai]at h;obtain⟨u,h1,h2⟩:=h;cases h2;first|exact .refl H|exact .push H _|exact Of h1)
  |(simp only[zaM]at h;obtain⟨u,_,h1⟩:=h;exact zH h1)
  |exact QW h
  |exact H6 h
  |exact hcl _ _ _ _ _ h
end
end
end Go.Proofs.YtfaojedfnjdnnaaGreat.Ev
namespace Go.Proofs.YtfaojedfnjdnnaaGreat.Ev
noncomputable section
open Go
structure FR (f : Fm) (fr : List Value) (a : Act) : Prop where
 size:a.tmps.size=fr.length
 val:∀t,V f (fr.getD t undef) (a.tmps.getD t undef)
theorem FR.mono {f g:Fm} (hle:Le f g) {fr:List Value} {a:Act} (h:FR f fr a):FR g fr a:=⟨h.size,fun t=>(h.val t).mono hle⟩
theorem FR.put {f:Fm} {fr:List Value} {a:Act} (h:FR f fr a) (d:Option Tmp) {v v':Value} (hv:V f v v'):FR f (iS fr d v) (a.put d v'):=by
 cases d with
 |none=>exact h
 |some d=>
  refine⟨by simp[iS,Act.put,h.size],fun t=> ?_⟩;have:=h.val t;simp only[iS,Act.put,zba,zaf]at*
  rw[zbo,Array.getElem?_setIfInBounds,h.size]
  by_cases e:d=t
  . subst e;simp only[zbh]
    by_cases hl:d<fr.length
    . simp[hl];exact hv
    . simp[hl];exact V.undef f
  . simp only[e,zbp];exact this
theorem FR.dW {f:Fm} {fr:List Value} {a:Act} (h:FR f fr a) {x:Operand} {v:Value} (hx:Ev.dW fr x=some v):V f v (a.eval x):=by
 cases x with
 |tmp t=>simp only[Ev.dW,zak]at hx;subst hx;exact h.val t
 |const c=>
  simp only[Ev.dW]at hx
  split at hx
  . rename_i hc;cases hx;exact V.hZ f hc
  . cases hx
 |global g=>simp[Ev.dW]at hx
 |func g=>simp only[Ev.dW,zak]at hx;subst hx;exact .func g _ _ _ _ rfl rfl (fun i v v' h _=>by simp at h) (fun i v v' h _=>by simp at h)
theorem FR.wanted {f:Fm} {fr:List Value} {a:Act} (h:FR f fr a) (ops:Array Oper) (o:Oper):Region.wanted o (yielded ops a.tmps)=eU ops fr o:=by
 unfold Region.wanted eU;cases o.guard with
 |none=>rfl
 |some gw=>
  obtain⟨j,want⟩:=gw;simp only[yielded];cases hd:(ops[j]?).bind (·.dst)with
  |none=>simp
  |some t=>
   simp only[zcg];have hv:=h.val t;simp only[zba,zaf]at hv
   by_cases hl:t<fr.length
   . have hl':t<a.tmps.size:=by rw[h.size];exact hl
     rw[zah hl,zaz hl']at hv;rw[zah hl,zaz hl'];simp only[zbD]at hv;generalize fr[t]=u at hv;generalize a.tmps[t]=u' at hv;cases hv<;>simp
   . have hl':¬t<a.tmps.size:=by rw[h.size];exact hl
     have e1:fr[t]? =none:=zaV (zch hl);have e2:a.tmps[t]? =none:=Array.getElem?_eq_none (zch hl');rw[e1,e2];simp
section
variable {P : Program} {cl : FuncId -> List Value -> ag -> Option (Value × ag)} {f : Fm} {H : ag} {w : World}
theorem Hp (hcl:Bh P cl) (hR:R f H w) {o:Oper} {ρ:Operand->Option Value} {a:Act} (hρ:∀x∈o.op.operands,∀v,ρ x=some v->V f v (a.eval x)) {v:Value} {H':ag}
 (bo:∀j,H.size<=j->j<H'.size->f j=none) (h:opE P cl ρ o H=some (v,H')) {K:Act->World->Prop} {Q:Exit->Act->World->Prop}
 (hK:∀f' w' v',V f' v v'->Stp f H w f' H' w'->R f' H' w'->K (a.put o.dst v') w'):o.wp P a w K Q:=by
 by_cases hnc:∀c g,o.op= .call c->c.callee≠.value g
 . obtain⟨f',w',v',h1,h2,h3,h4⟩:=ZJ hR hρ bo hnc h;unfold Oper.wp;rcases h1 with h1|⟨h1,rfl⟩
   . rw[h1];exact hK f' w' v' h2 h3 h4
   . rw[h1];exact hK f' w' undef h2 h3 h4
 . have:∃c g,o.op= .call c/\c.callee= .value g:=by
    apply zbW;intro hn;exact hnc fun c g h1 h2=>hn ⟨c,g,h1,h2⟩
   obtain⟨c,g,hop,hg⟩:=this;unfold opE at h;rw[hop]at h hρ;simp only[hg]at h
   split at h
   . rename_i args tY;have va:=mX (f:=f) (ρ':=a.eval) c.args.toList args (fun x hx=>hρ x (by simp[Op.operands,Call.operands];exact .inr (by simpa using hx))) tY
     split at h
     . rename_i n x y aft;have vf:=hρ g (by simp[Op.operands,Call.operands,hg]) _ aft;cases hg':a.eval g<;>rw[hg']at vf<;>try (cases vf;done)
       rename_i fn x' y';cases vf with
       |func _ _ _ _ _ hx hy vx vy=>
        obtain⟨⟨fnn,code,hfn,BA,nZ⟩,MR⟩:=hcl _ _ _ _ _ h;have vargs:VL f (x.toList++args++y.toList) (x'.toList++c.args.toList.map a.eval++y'.toList):=by
         refine(VL.append ⟨by simpa using hx,fun i u u' h1 h2=>vx i u u' (by simpa using h1) (by simpa using h2)⟩ va).append ⟨by simpa using hy,fun i u u' h1 h2=>vy i u u' (by simpa using h1) (by simpa using h2)⟩
        have hc:=MR f w _ hR bo vargs;have vN:(execOp a.eval o).run P w= .ok (.enter n (x'++c.args.map a.eval++y')) w:=by
         simp[execOp,hop,resolve,hg,hg',Deferred.ofValue,invoke,callFunc,hfn,BA,nZ]
        have e:(x'.toList++c.args.toList.map a.eval++y'.toList).toArray=x'++c.args.map a.eval++y':=by
         apply Array.ext';simp only[Array.toList_append,Array.toList_map]
        rw[e]at hc;unfold Oper.wp;rw[vN];refine Calls.mono hc ?_
        rintro e w' ⟨f',v',rfl,h2,h3,h4⟩
        exact hK f' w' v' h2 h3 h4
     . cases h
   . cases h
theorem J4 (hcl:Bh P cl) (hfr:iq cl) {ops:Array Oper} {Q:Exit->Act->World->Prop}:∀(l:List Oper) (k:Nat) (fr:List Value) (H:ag) (f:Fm) (w:World) (a:Act) (s':St),
 (∀j,l[j]? =ops[k+j]?)->R f H w->FR f fr a->(∀j,H.size<=j->j<s'.hp.size->f j=none)->lG P cl ops l ⟨fr,H⟩=some s'->
 (∀f' w' a',Stp f H w f' s'.hp w'->R f' s'.hp w'->FR f' s'.fr a'->a'.defers=a.defers->Q .normal a' w')->
 wpOps P ops Q ((List.range l.length).map (k+·)) a w:=by
 intro l
 induction l with
 |nil=>
  intro k fr H f w a s' _ hR hF _ h hQ;simp only[lG,zak]at h;subst h;exact hQ f w a (.refl f H w) hR hF rfl
 |cons o l ih=>
  intro k fr H f w a s' hl hR hF bo h hQ;have h0:ops[k]? =some o:=by simpa using(hl 0).symm
  have hl':∀j,l[j]? =ops[k+1+j]? :=fun j=>by
   have:=hl (j+1);simpa[zbe,Nat.add_comm 1 j]using this
  have aab:((List.range (o::l).length).map (k+·))=k::((List.range l.length).map (k+1+·)):=by
   rw[zac,List.range_succ_eq_map,zaS,List.map_map];simp only[zbc]
   congr 1
   apply List.map_congr_left;intro j _;simp only[Function.comp];omega
  rw[aab];simp only[lG]at h;simp only[wpOps,h0];rw[hF.wanted ops o];cases hw:eU ops fr o with
  |true=>
   simp only[hw]at h;simp only[zbh]
   split at h
   . rename_i v H1 hop
     left
     have f1:=pA hfr hop;have f2:H1.size<=s'.hp.size:=by
      have key:∀(l:List Oper) (s s':St),lG P cl ops l s=some s'->s.hp.size<=s'.hp.size:=by
       intro l
       induction l with
       |nil=>intro s s' h;simp[lG]at h;subst h;exact zap _
       |cons q l ihk=>
        intro s s' h;simp only[lG]at h
        split at h
        . split at h
          . rename_i hq;exact zaP (pA hfr hq).size (ihk _ _ h)
          . cases h
        . have:=ihk _ _ h;exact this
      exact key l _ _ h
     refine Hp hcl hR (fun x _ u hu=>hF.dW hu) (fun j h1 h2=>bo j h1 (by omega)) hop ?_
     intro f' w' v' hV hS hR';refine ih (k+1) _ H1 f' w' _ s' hl' hR' ((hF.mono hS.le).put o.dst hV) ?_ h ?_
     . intro j h1 h2;rw[hS.out j (by omega)];exact bo j (zaP f1.size h1) h2
     . intro f2 w2 a2 s2 r2 fr2 d2;refine hQ f2 w2 a2 (hS.trans s2) r2 fr2 ?_
       rw[d2];cases o.dst<;>rfl
   . cases h
  |false=>
   simp only[hw]at h;simp only[zb8,zbp];refine ih (k+1) _ H f w _ s' hl' hR (hF.put o.dst (V.undef f)) bo h ?_
   intro f2 w2 a2 s2 r2 fr2 d2;refine hQ f2 w2 a2 s2 r2 fr2 ?_
   rw[d2];cases o.dst<;>rfl
end
end
end Go.Proofs.YtfaojedfnjdnnaaGreat.Ev
namespace Go.Proofs.YtfaojedfnjdnnaaGreat.Ev
noncomputable section
open Go
theorem hP (a b:List (Nat × Nat)) (x:Nat):hidden (a++b) x=(hidden a x||hidden b x):=by
 induction a with
 |nil=>simp[hidden]
 |cons p a ih=>obtain⟨u,v⟩:=p;simp[hidden,ih,Bool.or_assoc]
theorem ga (p:Nat->Bool):∀(rs:List Rec) (k x:Nat),hidden (eP p rs k) x=true↔∃j r,rs[j]? =some r/\p (k+j)=false/\r.h0.size<=x/\x<r.h1.size:=by
 intro rs
 induction rs with
 |nil=>intro k x;simp[eP,hidden]
 |cons r rs ih=>
  intro k x;simp only[eP]
  by_cases hp:p k=true
  . rw[if_pos hp,ih];constructor
    . rintro⟨j,q,h1,h2,h3⟩
      exact⟨j+1,q,by simpa using h1,by rw[<-h2];congr 1;omega,h3⟩
    . rintro⟨j,q,h1,h2,h3⟩
      cases j with
      |zero=>simp at h2;rw[hp]at h2;cases h2
      |succ j=>exact⟨j,q,by simpa using h1,by rw[<-h2];congr 1;omega,h3⟩
  . rw[if_neg hp];simp only[hidden,zbj,zae,zag];rw[ih];constructor
    . rintro(⟨h1,h2⟩|⟨j,q,h1,h2,h3⟩)
      . exact⟨0,r,by simp,by simpa using hp,h1,h2⟩
      . exact⟨j+1,q,by simpa using h1,by rw[<-h2];congr 1;omega,h3⟩
    . rintro⟨j,q,h1,h2,h3,h4⟩
      cases j with
      |zero=>simp at h1;subst h1;exact .inl ⟨h3,h4⟩
      |succ j=>exact .inr ⟨j,q,by simpa using h1,by rw[<-h2];congr 1;omega,h3,h4⟩
theorem R.view {f:Fm} {M X:ag} {w:World} (h:R f M w) (hg:∀x b,X.get x=some b->M.get x=some b) (hl:X.lock=X.size):R f X w:=by
 have hm:∀x b,X.get x=some b->X.rG x b=false:=by
  intro x b hx;have:=ag.aZ hx;simp[ag.rG];omega
 refine⟨fun x b hx=> ?_,h.big,by omega,fun x y b c l m hx hy hmm=> ?_⟩
 . obtain⟨l,C,e,fr,h1,h2,h3,_⟩:=h.blk x b (hg x b hx);exact⟨l,C,e,fr,h1,h2,h3,fun hmm=>by rw[hm x b hx]at hmm;cases hmm⟩
 . rw[hm x b hx]at hmm;cases hmm
section
variable {P : Program} {L : List FuncId} {cl : FuncId -> List Value -> ag -> Option (Value × ag)}
theorem Bn {X Y:ag} (h:∀x,X.get x=Y.get x) (b off n:Nat):cT X b off n=cT Y b off n:=by
 unfold cT;rw[h b]
theorem FY {X Y:ag} (h:∀x,X.get x=Y.get x) (t:TypeId) (p:Value):cI P X t p=cI P Y t p:=by
 unfold cI
 split
 . simp only[Bn h]
 . rfl
theorem KG {a b:Value} (h:eqc a b=true):a=b:=by
 unfold eqc at h
 split at h<;>simp_all
theorem K9:∀{a b:List Value},BW a b=true->a=b
 |[],[],_=>rfl
 |a::r,b::s,h=>by
  simp only[BW,zae]at h;rw[KG h.1,K9 h.2]
 |[],_::_,h=>by simp[BW]at h
 |_::_,[],h=>by simp[BW]at h
theorem XF {a b:Value} (h:eqv a b=true):a=b:=by
 unfold eqv at h
 split at h
 . have:=K9 h
   congr 1
   exact Array.ext' this
 . exact KG h
theorem PX {o:Oper} (hk:fj L o= .pure) {ρ:Operand->Option Value} {H H2:ag} {v:Value} (h:opE P cl ρ o H=some (v,H2)):
 ∀H3,opE P cl ρ o H3=some (v,H3):=by
 intro H3;obtain⟨dst,op,type,pos,after,guard⟩:=o;unfold fj at hk;unfold opE at h⊢;cases op<;>simp only at hk h⊢<;>try (cases hk;done)
 all_goals try (cases h;done)
 all_goals try (simp only[zai]at h⊢;obtain⟨u,h1,h2⟩:=h;cases h2;exact⟨_,h1,rfl⟩)
 case pick c a b=>
  split at h
  . rename_i t hc;simp only[zai]at h⊢;obtain⟨u,h1,h2⟩:=h;cases h2;exact⟨_,h1,rfl⟩
  . cases h
 case nilCheck x=>
  split at h
  . cases h;rfl
  . cases h;rfl
  . cases h;rfl
  . cases h
 case binOp op t x y ty=>
  split at h
  . simp only[zai]at h⊢;obtain⟨u,h1,h2⟩:=h;cases h2;exact⟨_,h1,rfl⟩
  . cases h
 case makeFunc fn a b=>
  split at h
  . cases h;rfl
  . cases h
 case slice t x lo hi mx=>
  cases mx with
  |some m=>
   cases hi with
   |none=>cases h
   |some hi=>
    simp only at h⊢
    split at h
    . simp only[zai]at h⊢;obtain⟨u,h1,h2⟩:=h;cases h2;exact⟨_,h1,rfl⟩
    . cases h
  |none=>
   simp only at h⊢
   split at h
   . simp only[zai]at h⊢;obtain⟨u,h1,h2⟩:=h;cases h2;exact⟨_,h1,rfl⟩
   . cases h
 case indexAddr t x i=>
  split at h
  . simp only[zai]at h⊢;obtain⟨u,h1,h2⟩:=h;cases h2;exact⟨_,h1,rfl⟩
  . cases h
 case index t x i=>
  split at h
  . simp only[zai]at h⊢;obtain⟨u,h1,h2⟩:=h;cases h2;exact⟨_,h1,rfl⟩
  . cases h
 case call c=>
  split at h
  . rename_i args tY;cases hc:c.callee with
    |builtin b=>
     simp only[hc]at h⊢;cases b<;>simp only[hc]at hk<;>try (cases hk;done)
     all_goals (simp only[iV]at h⊢)
     all_goals try (cases h;done)
     case cap=>
      split at h
      . split at h
        . cases h;rfl
        . cases h
      . split at h
        . cases h;rfl
        . cases h
      . cases h
     case len=>
      split at h
      . split at h
        . cases h;rfl
        . cases h;rfl
        . cases h;rfl
        . cases h
      . cases h
     case max=>simp only[zai]at h⊢;obtain⟨u,h1,h2⟩:=h;cases h2;exact⟨_,h1,rfl⟩
     case min=>simp only[zai]at h⊢;obtain⟨u,h1,h2⟩:=h;cases h2;exact⟨_,h1,rfl⟩
    |value g=>
     simp only[hc]at hk;cases g with
     |func n=>simp only at hk;split at hk<;>cases hk
     |_=>cases hk
    |invoke r m=>simp[hc]at h
  . cases h
theorem iA {ops:Array Oper} {A:Array Nat} {i:Nat} {o:Oper} {s:St} {rs:List Rec} {r:Rec} (h:fu P L cl ops A i o s rs=some r):
 (eU ops s.fr o=false/\r=⟨.pure,undef,s.hp,s.hp,none⟩)\/
 (eU ops s.fr o=true/\
  ((∃v,(∀H3,opE P cl (dW s.fr) o H3=some (v,H3))/\r=⟨.pure,v,s.hp,s.hp,none⟩)\/
   (∃t a p v,o.op= .load t a/\dW s.fr a=some p/\cI P (dt s.hp (aW A i) rs) t p=some v/\r=⟨.load,v,s.hp,s.hp,some (t,p)⟩)\/
   (∃v H',opE P cl (dW s.fr) o (dt s.hp (aW A i) rs)=some (v,H')/\r=⟨.quiet,v,s.hp,cU s.hp H',none⟩)\/
   (∃v H',opE P cl (dW s.fr) o s.hp=some (v,H')/\r=⟨.dh,v,s.hp,H',none⟩))):=by
 unfold fu at h
 split at h
 . rename_i hw;cases h;exact .inl ⟨hw,rfl⟩
 . rename_i hw;refine .inr ⟨hw, ?_⟩
   split at h
   . rename_i hk
     split at h
     . rename_i v H2 hop;cases h;exact .inl ⟨v,PX hk hop,rfl⟩
     . cases h
   . split at h
     . rename_i t a hop
       split at h
       . rename_i p hp
         split at h
         . rename_i v hv;cases h;exact .inr (.inl ⟨t,a,p,v,hop,hp,hv,rfl⟩)
         . cases h
       . cases h
     . cases h
   . split at h
     . rename_i v H' hop;cases h;exact .inr (.inr (.inl ⟨v,H',hop,rfl⟩))
     . split at h
       . split at h
         . rename_i v H' hop;cases h;exact .inr (.inr (.inr ⟨v,H',hop,rfl⟩))
         . cases h
       . cases h
   . split at h
     . rename_i v H' hop;cases h;exact .inr (.inr (.inr ⟨v,H',hop,rfl⟩))
     . cases h
theorem nk {ops:Array Oper} {A:Array Nat}:∀(l:List Oper) (i:Nat) (s:St) (rs0:List Rec) (s':St) (rs:List Rec),rs0.length=i->
 fR P L cl ops A l i s rs0=some (s',rs)->
 rs.length=i+l.length/\rs.take i=rs0/\∃S:Nat->St,S i=s/\S (i+l.length)=s'/\
  ∀j o,l[j]? =some o->∃r,rs[i+j]? =some r/\fu P L cl ops A (i+j) o (S (i+j)) (rs.take (i+j))=some r/\S (i+j+1)=⟨iS (S (i+j)).fr o.dst r.v,r.h1⟩:=by
 intro l
 induction l with
 |nil=>
  intro i s rs0 s' rs hlen h;simp only[fR,zak,zaT]at h;obtain⟨rfl,rfl⟩:=h;exact⟨by simpa using hlen,zbq (by omega),fun _=>s,rfl,rfl,fun j o h=>by simp at h⟩
 |cons q l ih=>
  intro i s rs0 s' rs hlen h;simp only[fR]at h
  split at h
  . rename_i r hr;obtain⟨h1,h2,S,h3,h4,h5⟩:=ih (i+1) _ (rs0++[r]) s' rs (by simp[hlen]) h;have MS:rs.take i=rs0:=by
     have:rs.take i=(rs.take (i+1)).take i:=by rw[List.take_take];congr 1;omega
     rw[this,h2,zb1 (by omega),zbq (by omega)]
    have hri:rs[i]? =some r:=by
     have:rs[i]? =(rs.take (i+1))[i]? :=by rw[zau,if_pos (by omega)]
     rw[this,h2,zaU,if_neg (by omega),hlen];simp
    refine⟨by simp;omega,MS,fun k=>if k=i then s else S k,by simp, ?_, ?_⟩
    . simp only[zac];rw[if_neg (by omega),<-h4];congr 1;omega
    . intro j o hj;cases j with
      |zero=>
       simp at hj;subst hj;refine⟨r,hri, ?_, ?_⟩
       . simp only[zbc,zbh];rw[MS];exact hr
       . simp only[zbc,zbh];rw[if_neg (by omega)];exact h3
      |succ j=>
       obtain⟨r2,g1,g2,g3⟩:=h5 j o (by simpa using hj);have e:i+1+j=i+(j+1):=by omega
       rw[e]at g1 g2 g3;refine⟨r2,g1, ?_, ?_⟩
       . simp only;rw[if_neg (by omega)];exact g2
       . simp only;rw[if_neg (by omega),if_neg (by omega)];exact g3
  . cases h
end
end
end Go.Proofs.YtfaojedfnjdnnaaGreat.Ev
namespace Go.Proofs.YtfaojedfnjdnnaaGreat.Ev
noncomputable section
open Go
section
variable (P : Program) (L : List FuncId) (cl : FuncId -> List Value -> ag -> Option (Value × ag))
structure Can (ops : Array Oper) (A : Array Nat) (s0 s' : St) (rs : List Rec) (S : Nat -> St) : Prop where
 len:rs.length=ops.size
 ini:S 0=s0
 fin:S ops.size=s'
 step:∀i o,ops[i]? =some o->∃r,rs[i]? =some r/\fu P L cl ops A i o (S i) (rs.take i)=some r/\S (i+1)=⟨iS (S i).fr o.dst r.v,r.h1⟩
 stat:jb ops A s0.fr.length=true
 iI:qG P A (fS ops) rs=true
end
section
variable {P : Program} {L : List FuncId} {cl : FuncId -> List Value -> ag -> Option (Value × ag)}
variable {nt : Nat} {ops : Array Oper} {A : Array Nat} {s0 s' : St} {rs : List Rec} {S : Nat -> St}
theorem dg (h:jb ops A nt=true) {i:Nat} {o:Oper} (ho:ops[i]? =some o):
 (∀e∈o.after,Region.binds .any e=true->e.on<i)/\
 (∀k,k<ops.size->aW A i k=true->k<i/\∃e∈o.after,Region.binds .any e=true/\(e.on=k\/aW A e.on k=true))/\
 (∀d,o.dst=some d->d<nt)/\
 (∀k q d,ops[k]? =some q->q.dst=some d->i=k\/(o.dst≠some d/\(d∈o.looksAt ops->aW A i k=true\/aW A k i=true)))/\
 (∀cs b,o.op≠.select cs b):=by
 unfold jb at h;have hm:(o,i)∈ops.toList.zipIdx:=by rw[za5];simpa using ho
 have h1:=zam.1 h (o,i) hm;simp only[zae]at h1;obtain⟨⟨⟨⟨a1,a2⟩,a3⟩,a4⟩,a5⟩:=h1;refine⟨?_, ?_, ?_, ?_, ?_⟩
 . intro e he hb;have:=zam.1 a1 e (by simpa using he);simpa[hb]using this
 . intro k hk hg;have:=zam.1 a2 k (by simpa using hk);simp only[hg,zbr,zcj,zae,zag,List.any_eq_true,zbj,zaH]at this;obtain⟨h1,e,he,hb,h2⟩:=this;exact⟨h1,e,by simpa using he,hb,h2⟩
 . intro d hd;rw[hd]at a3;simpa using a3
 . intro k q d hq hd;have hm2:(q,k)∈ops.toList.zipIdx:=by rw[za5];simpa using hq
   have:=zam.1 a4 (q,k) hm2;simp only[hd,zbj,zaH,zae,bne_iff_ne,Bool.not_eq_true']at this;rcases this with h1|⟨h1,h2⟩
   . exact .inl h1
   . refine .inr ⟨h1,fun KM=> ?_⟩;rcases h2 with(h2|h2)|h2
     . rw[List.contains_eq_mem]at h2;simp[KM]at h2
     . exact .inl h2
     . exact .inr h2
 . intro cs b hop;rw[hop]at a5;cases a5
def Bp (ops:Array Oper) (p:Nat->Bool):Prop:=∀i o,ops[i]? =some o->p i=true->∀e∈o.after,Region.binds .any e=true->p e.on=true
theorem jS (hst:jb ops A nt=true) {p:Nat->Bool} (hp:Bp ops p):∀(i k:Nat),i<ops.size->k<ops.size->p i=true->aW A i k=true->p k=true:=by
 intro i
 induction i using Nat.strongRecOn with
 |_ i ih=>
  intro k hi hk hpi hg;have ho:ops[i]? =some ops[i]:=zaz hi;obtain⟨h1,h2,_⟩:=dg hst ho;obtain⟨hki,e,he,hb,h3⟩:=h2 k hk hg;have hlt:=h1 e he hb;have hpe:=hp i _ ho hpi e he hb;rcases h3 with h3|h3
  . rw[<-h3];exact hpe
  . exact ih e.on hlt k (by omega) hk hpe h3
theorem nI (hst:jb ops A nt=true) {p:Nat->Bool} (hp:Bp ops p) {i:Nat} {o:Oper} (ho:ops[i]? =some o)
 (hr:∀e∈o.after,Region.binds .any e=true->p e.on=true) {k:Nat} (hk:k<ops.size) (hg:aW A i k=true):p k=true:=by
 obtain⟨h1,h2,_⟩:=dg hst ho;obtain⟨hki,e,he,hb,h3⟩:=h2 k hk hg;have hlt:=h1 e he hb;have hi:i<ops.size:=(zaI.1 ho).1;rcases h3 with h3|h3
 . rw[<-h3];exact hr e he hb
 . exact jS hst hp e.on k (by omega) hk (hr e he hb) h3
theorem Can.gx (h:Can P L cl ops A s0 s' rs S) {i:Nat} (hi:i<ops.size):
 ∃r,rs[i]? =some r/\fu P L cl ops A i ops[i] (S i) (rs.take i)=some r/\S (i+1)=⟨iS (S i).fr ops[i].dst r.v,r.h1⟩/\r.h0=(S i).hp/\r.h1=(S (i+1)).hp:=by
 obtain⟨r,h1,h2,h3⟩:=h.step i ops[i] (zaz hi);refine⟨r,h1,h2,h3, ?_,by rw[h3]⟩;rcases iA h2 with⟨_,rfl⟩|⟨_,⟨v,_,rfl⟩|⟨t,a,p,v,_,_,_,rfl⟩|⟨v,H',_,rfl⟩|⟨v,H',_,rfl⟩⟩<;>rfl
theorem Can.aaZ (h:Can P L cl ops A s0 s' rs S) (hfr:iq cl) {i:Nat} (hi:i<ops.size):Fr (S i).hp (S (i+1)).hp:=by
 obtain⟨r,h1,h2,h3,h4,h5⟩:=h.gx hi;rw[<-h5];rcases iA h2 with⟨_,rfl⟩|⟨_,⟨v,_,rfl⟩|⟨t,a,p,v,_,_,_,rfl⟩|⟨v,H',hop,rfl⟩|⟨v,H',hop,rfl⟩⟩
 . exact .refl _
 . exact .refl _
 . exact .refl _
 . have:=pA hfr hop;exact⟨this.size,rfl,rfl,fun x h1 _=>this.root x h1 h1⟩
 . exact pA hfr hop
theorem Can.jk (h:Can P L cl ops A s0 s' rs S) (hfr:iq cl):∀(j i:Nat),i<=j->j<=ops.size->Fr (S i).hp (S j).hp:=by
 intro j
 induction j with
 |zero=>
  intro i hi _;have:i=0:=by omega
  subst this;exact .refl _
 |succ j ih=>
  intro i hi hj
  by_cases e:i=j+1
  . subst e;exact .refl _
  . exact(ih i (by omega) (by omega)).trans (h.aaZ hfr (by omega))
def mI (rs:List Rec) (i:Nat):Prop:=∃r,rs[i]? =some r/\r.kind= .dh
theorem Can.jU (h:Can P L cl ops A s0 s' rs S) (hfr:iq cl):∀(j i:Nat),i<=j->j<=ops.size->(∀k,i<=k->k<j->¬mI rs k)->
 ∀x,x<(S i).hp.size->(S j).hp.root.get x=(S i).hp.root.get x:=by
 intro j
 induction j with
 |zero=>
  intro i hi _ _ x _;have:i=0:=by omega
  subst this;rfl
 |succ j ih=>
  intro i hi hj hn x hx
  by_cases e:i=j+1
  . subst e;rfl
  . rw[<-ih i (by omega) (by omega) (fun k h1 h2=>hn k h1 (by omega)) x hx];have hsz:(S i).hp.size<=(S j).hp.size:=(h.jk hfr j i (by omega) (by omega)).size;obtain⟨r,h1,h2,h3,h4,h5⟩:=h.gx (i:=j) (by omega);rw[<-h5];rcases iA h2 with⟨_,rfl⟩|⟨_,⟨v,_,rfl⟩|⟨t,a,p,v,_,_,_,rfl⟩|⟨v,H',hop,rfl⟩|⟨v,H',hop,rfl⟩⟩
    . rfl
    . rfl
    . rfl
    . have:=pA hfr hop;exact this.root x (by show x<(S j).hp.size;omega) (by show x<(S j).hp.size;omega)
    . exact absurd ⟨_,h1,rfl⟩ (hn j (by omega) (by omega))
theorem Can.frame (h:Can P L cl ops A s0 s' rs S):∀i,i<=ops.size->(S i).fr.length=s0.fr.length/\∀t,
 (∀k q r,k<i->ops[k]? =some q->rs[k]? =some r->q.dst=some t->(S i).fr.getD t undef=r.v)/\
 ((∀k q,k<i->ops[k]? =some q->q.dst≠some t)->(S i).fr.getD t undef=s0.fr.getD t undef):=by
 intro i
 induction i with
 |zero=>intro _;rw[h.ini];exact⟨rfl,fun t=>⟨fun k q r hk=>by omega,fun _=>rfl⟩⟩
 |succ i ih=>
  intro hi;obtain⟨hlen,hf⟩:=ih (by omega);have hio:ops[i]? =some ops[i]:=zaz (by omega);obtain⟨r,h1,h2,h3,h4,h5⟩:=h.gx (i:=i) (by omega);obtain⟨_,_,s3,s4,_⟩:=dg h.stat hio;rw[h3];refine⟨by cases ops[i].dst<;>simp[iS,hlen],fun t=>⟨?_, ?_⟩⟩
  . intro k q rk hk hq hrk hd
    by_cases e:k=i
    . subst e;rw[hio]at hq;cases hq;rw[h1]at hrk;cases hrk;rw[hd];have hlt:=s3 t hd;simp only[iS,zaf,zbo,zbh];rw[if_pos (by rw[hlen];exact hlt)];rfl
    . have hne:ops[i].dst≠some t:=by
       rcases s4 k q t hq hd with h6|⟨h6,_⟩
       . exact absurd h6.symm e
       . exact h6
      have:(iS (S i).fr ops[i].dst r.v).getD t undef=(S i).fr.getD t undef:=by
       cases hdd:ops[i].dst with
       |none=>rfl
       |some d=>
        rw[hdd]at hne;simp only[iS,zaf,zbo];rw[if_neg (fun e2=>hne (by rw[e2]))]
      rw[this];exact(hf t).1 k q rk (by omega) hq hrk hd
  . intro hn;have hne:ops[i].dst≠some t:=hn i _ (by omega) hio;have:(iS (S i).fr ops[i].dst r.v).getD t undef=(S i).fr.getD t undef:=by
     cases hdd:ops[i].dst with
     |none=>rfl
     |some d=>
      rw[hdd]at hne;simp only[iS,zaf,zbo];rw[if_neg (fun e2=>hne (by rw[e2]))]
    rw[this];exact(hf t).2 (fun k q hk hq=>hn k q (by omega) hq)
theorem Can.comparable (h:Can P L cl ops A s0 s' rs S) {i j:Nat} {a b:Rec} (ha:rs[i]? =some a) (hb:rs[j]? =some b) (hl:b.kind= .dh)
 (hk:a.kind= .quiet\/a.kind= .dh) (hx:fS ops i=false\/i<j\/a.kind= .dh) (hne:i≠j):aW A i j=true\/aW A j i=true:=by
 have h1:=zam.1 h.iI (a,i) (by rw[za5];exact ha);have h2:=zam.1 h1 (b,j) (by rw[za5];exact hb);simp only[A6,hl]at h2;rcases hk with hk|hk<;>simp only[hk,zbj,zaH,zae,zag]at h2
 . rcases h2 with((h2|h2)|h2)|⟨h2,h3⟩
   . exact absurd h2 hne
   . exact .inl h2
   . exact .inr h2
   . rcases hx with hx|hx|hx
     . rw[hx]at h3;cases h3
     . omega
     . rw[hk]at hx;cases hx
 . rcases h2 with(h2|h2)|h2
   . exact absurd h2 hne
   . exact .inl h2
   . exact .inr h2
theorem Can.CR (h:Can P L cl ops A s0 s' rs S) {i j:Nat} {a b:Rec} (ha:rs[i]? =some a) (hb:rs[j]? =some b) (hl:b.kind= .dh)
 (hk:a.kind= .load) (h1:aW A i j=false) (h2:aW A j i=false):∃t p,a.ld=some (t,p)/\cI P (if j<i then dt b.h0 (aW A i) (rs.take j)else b.h1) t p=some a.v:=by
 have h3:=zam.1 h.iI (a,i) (by rw[za5];exact ha);have h4:=zam.1 h3 (b,j) (by rw[za5];exact hb);simp only[A6,hl,hk,h1,h2,zcj]at h4
 split at h4
 . rename_i t p hld
   split at h4
   . rename_i v hv;exact⟨t,p,hld,by rw[hv,XF h4]⟩
   . cases h4
 . cases h4
end
end
end Go.Proofs.YtfaojedfnjdnnaaGreat.Ev
namespace Go.Proofs.YtfaojedfnjdnnaaGreat.Ev
noncomputable section
open Go
section
variable {P : Program} {L : List FuncId} {cl : FuncId -> List Value -> ag -> Option (Value × ag)}
variable {ops : Array Oper} {A : Array Nat} {s0 s' : St} {rs : List Rec} {S : Nat -> St}
def sz (S:Nat->St) (i:Nat):Nat:=(S i).hp.size
def Mh (S:Nat->St) (rs:List Rec) (p:Nat->Bool) (m:Nat):ag:={(S m).hp with hid:=eP p (rs.take m) 0++(S 0).hp.hid}
theorem Can.oh (h:Can P L cl ops A s0 s' rs S) (hfr:iq cl) {i j:Nat} (hij:i<=j) (hj:j<=ops.size):sz S i<=sz S j:=(h.jk hfr j i hij hj).size
theorem Can.G6 (h:Can P L cl ops A s0 s' rs S) {p:Nat->Bool} {m:Nat} (hm:m<=ops.size) {X:ag} (h1:X.size=sz S m) (h2:X.root=(S m).hp.root)
 (h3:X.hid=eP p (rs.take m) 0++(S 0).hp.hid) (x:Nat) (b:Blk):
 X.get x=some b↔x<sz S m/\(S m).hp.root.get x=some b/\hidden (S 0).hp.hid x=false/\∀k,k<m->p k=false->¬(sz S k<=x/\x<sz S (k+1)):=by
 have hh:hidden X.hid x=false↔hidden (S 0).hp.hid x=false/\∀k,k<m->p k=false->¬(sz S k<=x/\x<sz S (k+1)):=by
  rw[h3,hP,zbS,and_comm];refine and_congr_right fun _=> ?_
  rw[<-Bool.not_eq_true,ga];constructor
  . intro hn k hk hp ⟨ha,hb⟩;obtain⟨r,g1,_,_,g4,g5⟩:=h.gx (i:=k) (by omega);exact hn ⟨k,r,by rw[zau,if_pos hk];exact g1,by rw[zaF];exact hp,by rw[g4];exact ha,by rw[g5];exact hb⟩
  . rintro hn ⟨k,r,g1,g2,g3,g4⟩
    rw[zau]at g1
    split at g1
    . rename_i hk;obtain⟨r2,e1,_,_,e4,e5⟩:=h.gx (i:=k) (by omega);rw[g1]at e1;cases e1;exact hn k hk (by rw[zaF]at g2;exact g2) ⟨by rw[e4]at g3;exact g3,by rw[e5]at g4;exact g4⟩
    . cases g1
 unfold ag.get;rw[h1,h2];constructor
 . intro hx
   split at hx
   . rename_i hlt
     split at hx
     . cases hx
     . rename_i BB;have:=hh.1 (by simpa using BB);exact⟨hlt,hx,this⟩
   . cases hx
 . rintro⟨a1,a2,a3⟩
   rw[if_pos a1,if_neg (by rw[hh.2 a3];simp)];exact a2
def kZ (ops:Array Oper) (S:Nat->St) (p:Nat->Bool) (m k:Nat):Prop:=m<=k/\k<ops.size/\p k=true/\sz S k<sz S (k+1)
structure wM (ops : Array Oper) (rs : List Rec) (S : Nat -> St) (w0 : World) (p : Nat -> Bool) (f : Fm) (m : Nat) (w : World) : Prop where
 made:∀k,kZ ops S p m k->∃cs l C tp,sz S (k+1)=sz S k+1/\(S (k+1)).hp.root.get (sz S k)=some ⟨cs⟩/\f (sz S k)=some l/\w.heap[l.blk]? =some (.cells C tp (0,0))/\l.room<=C.size/\
  (∀(i:Nat) v,cs[i]? =some v->bj v=true/\∃v',C[l.off+i]? =some v'/\V f v v')/\w0.heap.size<=l.blk/\∀y c n,(Mh S rs p m).get y=some c->f y=some n->n.blk≠l.blk
 apart:∀k k' l l',kZ ops S p m k->kZ ops S p m k'->k≠k'->f (sz S k)=some l->f (sz S k')=some l'->l.blk≠l'.blk
structure Inv (ops : Array Oper) (s0 : St) (rs : List Rec) (S : Nat -> St) (f0 : Fm) (w0 : World) (a0 : Act) (p : Nat -> Bool) (f : Fm) (m : Nat) (a : Act) (w : World) : Prop where
 mle:m<=ops.size
 tz:m<ops.size->mI rs m/\p m=false
 vD:∀j,j<m->mI rs j->p j=true
 AN:Bp ops p
 r:R f (Mh S rs p m) w
 GY:a.tmps.size=s0.fr.length
 defers:a.defers=a0.defers
 fr1:∀t k q r,ops[k]? =some q->rs[k]? =some r->q.dst=some t->p k=true->V f r.v (a.tmps.getD t undef)
 fr2:∀t,(∀k q,ops[k]? =some q->q.dst=some t->p k=false)->V f (s0.fr.getD t undef) (a.tmps.getD t undef)
 le:Le f0 f
 out:∀x,¬(sz S 0<=x/\x<sz S ops.size)->f x=f0 x
 free:∀k,k<ops.size->p k=false->∀x,sz S k<=x->x<sz S (k+1)->f x=none
 gu:w0.heap.size<=w.heap.size
 os:w.os=w0.os
 tape:w.tape=w0.tape
 output:w.output=w0.output
 fJ:∀cb,cb<w0.heap.size->¬gm f0 (S 0).hp cb->w.heap[cb]? =w0.heap[cb]?
 own:∀cb,cb<w0.heap.size->gm f (Mh S rs p m) cb->gm f0 (S 0).hp cb
 early:wM ops rs S w0 p f m w
def upd (p:Nat->Bool) (i:Nat) (j:Nat):Bool:=if j=i then true else p j
variable {f0 f : Fm} {w0 w : World} {a0 a : Act} {p : Nat -> Bool} {m i : Nat} {o : Oper}
theorem Inv.looks (hC:Can P L cl ops A s0 s' rs S) (hI:Inv ops s0 rs S f0 w0 a0 p f m a w) (ho:ops[i]? =some o) (hpi:p i=false)
 (hr:∀e∈o.after,Region.binds .any e=true->p e.on=true) (t:Tmp) (ht:t∈o.looksAt ops):V f ((S i).fr.getD t undef) (a.tmps.getD t undef):=by
 have hi:i<ops.size:=(zaI.1 ho).1;obtain⟨_,aac⟩:=hC.frame i (by omega);obtain⟨c1,c2⟩:=aac t
 by_cases hex:∃k q,ops[k]? =some q/\q.dst=some t/\i≠k
 . obtain⟨k,q,hq,hd,hne⟩:=hex;have hk:k<ops.size:=(zaI.1 hq).1;obtain⟨_,_,_,s4,_⟩:=dg hC.stat ho;obtain⟨rk,hrk,_⟩:=hC.gx hk;rcases s4 k q t hq hd with e|⟨hnd,ado⟩
   . exact absurd e hne
   . rcases ado ht with hg|hg
     ·
      have hpk:=nI hC.stat hI.AN ho hr hk hg;have hki:k<i:=((dg hC.stat ho).2.1 k hk hg).1;rw[c1 k q rk hki hq hrk hd];exact hI.fr1 t k q rk hq hrk hd hpk
     ·
      have hik:i<k:=((dg hC.stat hq).2.1 i hi hg).1;have hpk:p k=false:=by
       cases hp:p k with
       |false=>rfl
       |true=>rw[jS hC.stat hI.AN k i hk hi hp hg]at hpi;cases hpi
      have WO:∀k' q',ops[k']? =some q'->q'.dst=some t->k'=k:=by
       intro k' q' hq' hd';obtain⟨_,_,_,s4',_⟩:=dg hC.stat hq';rcases s4' k q t hq hd with e|⟨e,_⟩
       . exact e
       . exact absurd hd' e
      rw[c2 (fun k' q' hk' hq' hd'=>by have:=WO k' q' hq' hd';omega)];exact hI.fr2 t (fun k' q' hq' hd'=>by rw[WO k' q' hq' hd'];exact hpk)
 . have hno:∀k q,ops[k]? =some q->q.dst=some t->k=i:=by
    intro k q hq hd;apply zbW;intro hne;exact hex ⟨k,q,hq,hd,fun e=>hne e.symm⟩
   rw[c2 (fun k q hk hq hd=>by have:=hno k q hq hd;omega)];exact hI.fr2 t (fun k q hq hd=>by rw[hno k q hq hd];exact hpi)
theorem Inv.dW (hC:Can P L cl ops A s0 s' rs S) (hI:Inv ops s0 rs S f0 w0 a0 p f m a w) (ho:ops[i]? =some o) (hpi:p i=false)
 (hr:∀e∈o.after,Region.binds .any e=true->p e.on=true) (x:Operand) (hx:x∈o.op.operands) (v:Value) (hv:Ev.dW (S i).fr x=some v):V f v (a.eval x):=by
 cases x with
 |tmp t=>
  simp only[Ev.dW,zak]at hv;subst hv;exact hI.looks hC ho hpi hr t (zbT _ (zb0.2 ⟨.tmp t,by simpa using hx,rfl⟩))
 |const c=>
  simp only[Ev.dW]at hv
  split at hv
  . rename_i hc;cases hv;exact V.hZ f hc
  . cases hv
 |global g=>simp[Ev.dW]at hv
 |func g=>simp only[Ev.dW,zak]at hv;subst hv;exact .func g _ _ _ _ rfl rfl (fun i v v' h _=>by simp at h) (fun i v v' h _=>by simp at h)
theorem Inv.wanted (hC:Can P L cl ops A s0 s' rs S) (hI:Inv ops s0 rs S f0 w0 a0 p f m a w) (ho:ops[i]? =some o) (hpi:p i=false)
 (hr:∀e∈o.after,Region.binds .any e=true->p e.on=true):Region.wanted o (yielded ops a.tmps)=eU ops (S i).fr o:=by
 have hi:i<ops.size:=(zaI.1 ho).1;obtain⟨hlen,_⟩:=hC.frame i (by omega);unfold Region.wanted eU;cases hg:o.guard with
 |none=>rfl
 |some gw=>
  obtain⟨j,want⟩:=gw;simp only[yielded];cases hd:(ops[j]?).bind (·.dst)with
  |none=>simp
  |some t=>
   simp only[zcg];have hv:=hI.looks hC ho hpi hr t (by unfold Oper.looksAt;rw[hg];simp[hd]);simp only[zba,zaf]at hv
   by_cases hl:t<(S i).fr.length
   . have hl':t<a.tmps.size:=by rw[hI.GY,<-hlen];exact hl
     rw[zah hl,zaz hl']at hv;rw[zah hl,zaz hl'];simp only[zbD]at hv;generalize (S i).fr[t]=u at hv;generalize a.tmps[t]=u' at hv;cases hv<;>simp
   . have hl':¬t<a.tmps.size:=by rw[hI.GY,<-hlen];exact hl
     have e1:(S i).fr[t]? =none:=zaV (zch hl);have e2:a.tmps[t]? =none:=Array.getElem?_eq_none (zch hl');rw[e1,e2];simp
theorem Ei {a:Act} {d t:Tmp} {v:Value}:((a.put (some d) v).tmps.getD t undef)=if d=t/\d<a.tmps.size then v else a.tmps.getD t undef:=by
 simp only[Act.put,zba,Array.getElem?_setIfInBounds]
 by_cases e:d=t
 . subst e
   by_cases hl:d<a.tmps.size
   . simp[hl]
   . simp[hl]
 . simp[e]
theorem Km {p:Nat->Bool} (hp:Bp ops p) (ho:ops[i]? =some o) (hr:∀e∈o.after,Region.binds .any e=true->p e.on=true):Bp ops (upd p i):=by
 intro j q hq hpj e he hb;unfold upd at hpj⊢
 split
 . rfl
 . by_cases ej:j=i
   . subst ej;rw[ho]at hq;cases hq;exact hr e he hb
   . rw[if_neg ej]at hpj;exact hp j q hq hpj e he hb
theorem wM.step (hE:wM ops rs S w0 p f m w) {f':Fm} {w':World} (hle:Le f f') (hi:i<m\/¬sz S i<sz S (i+1))
 (hw:∀k l,kZ ops S p m k->f (sz S k)=some l->(∀y c n,(Mh S rs p m).get y=some c->f y=some n->n.blk≠l.blk)->w'.heap[l.blk]? =w.heap[l.blk]? /\∀y c n,(Mh S rs (upd p i) m).get y=some c->f' y=some n->n.blk≠l.blk):
 wM ops rs S w0 (upd p i) f' m w':=by
 have hk:∀k,kZ ops S (upd p i) m k->kZ ops S p m k:=fun k ⟨h1,h2,h3,h4⟩=>by
  refine⟨h1,h2, ?_,h4⟩;unfold upd at h3
  split at h3
  . rename_i e;subst e;rcases hi with hi|hi
    . omega
    . exact absurd h4 hi
  . exact h3
 refine⟨fun k h=> ?_,fun k k' l l' h h' hne hl hl'=> ?_⟩
 . obtain⟨cs,l,C,tp,a1,a2,a3,a4,a5,a6,a7,a8⟩:=hE.made k (hk k h);obtain⟨b1,b2⟩:=hw k l (hk k h) a3 a8;exact⟨cs,l,C,tp,a1,a2,hle _ _ a3,b1.trans a4,a5,fun j u hj=>by
    obtain⟨d1,u',d2,d3⟩:=a6 j u hj;exact⟨d1,u',d2,d3.mono hle⟩,a7,b2⟩
 . obtain⟨_,n,_,_,_,_,a3,_⟩:=hE.made k (hk k h);obtain⟨_,n',_,_,_,_,a3',_⟩:=hE.made k' (hk k' h');have e:=hle _ _ a3;have e':=hle _ _ a3';rw[hl]at e;rw[hl']at e';cases e;cases e';exact hE.apart k k' l l' (hk k h) (hk k' h') hne a3 a3'
theorem Inv.after (hC:Can P L cl ops A s0 s' rs S) (hI:Inv ops s0 rs S f0 w0 a0 p f m a w) (ho:ops[i]? =some o) (hpi:p i=false)
 (hr:∀e∈o.after,Region.binds .any e=true->p e.on=true) {r:Rec} (hri:rs[i]? =some r) {f':Fm} {w':World} {v':Value} {m':Nat} (hV:V f' r.v v') (hle:Le f f')
 (mF:∀x,¬(sz S i<=x/\x<sz S (i+1))->f' x=f x) (hws:w.heap.size<=w'.heap.size) (hos:w'.os=w.os) (htp:w'.tape=w.tape) (hou:w'.output=w.output)
 (kS:∀cb,cb<w0.heap.size->¬gm f0 (S 0).hp cb->w'.heap[cb]? =w.heap[cb]?)
 (lv:∀cb,cb<w0.heap.size->gm f' (Mh S rs (upd p i) m') cb->gm f0 (S 0).hp cb)
 (hm1:m'<=ops.size) (hm2:m'<ops.size->mI rs m'/\upd p i m'=false) (hm3:∀j,j<m'->mI rs j->upd p i j=true)
 (hR:R f' (Mh S rs (upd p i) m') w') (hE:wM ops rs S w0 (upd p i) f' m' w') (hsz:∀a b,a<=b->b<=ops.size->sz S a<=sz S b):Inv ops s0 rs S f0 w0 a0 (upd p i) f' m' (a.put o.dst v') w':=by
 have hi:i<ops.size:=(zaI.1 ho).1;obtain⟨_,_,s3,s4,_⟩:=dg hC.stat ho;refine⟨hm1,hm2,hm3,Km hI.AN ho hr,hR, ?_, ?_, ?_, ?_,hI.le.trans hle, ?_, ?_,zaP hI.gu hws,hos.trans hI.os,htp.trans hI.tape,hou.trans hI.output, ?_,lv,hE⟩
 . have:(a.put o.dst v').tmps.size=a.tmps.size:=by cases o.dst<;>simp[Act.put]
   rw[this];exact hI.GY
 . rw[<-hI.defers];cases o.dst<;>rfl
 . intro t k q rk hq hrk hd hpk
   by_cases e:k=i
   . subst e;rw[ho]at hq;cases hq;rw[hri]at hrk;cases hrk;rw[hd,Ei,if_pos ⟨rfl,by rw[hI.GY];exact s3 t hd⟩];exact hV
   . have afu:p k=true:=by simpa[upd,e]using hpk
     have hne:o.dst≠some t:=by
      rcases s4 k q t hq hd with h1|⟨h1,_⟩
      . exact absurd h1.symm e
      . exact h1
     have:(a.put o.dst v').tmps.getD t undef=a.tmps.getD t undef:=by
      cases hdd:o.dst with
      |none=>rfl
      |some d=>
       rw[hdd]at hne;rw[Ei,if_neg (fun⟨e2,_⟩=>hne (by rw[e2]))]
     rw[this];exact(hI.fr1 t k q rk hq hrk hd afu).mono hle
 . intro t hn;have hne:o.dst≠some t:=by
    intro hd;have:=hn i o ho hd;simp[upd]at this
   have:(a.put o.dst v').tmps.getD t undef=a.tmps.getD t undef:=by
    cases hdd:o.dst with
    |none=>rfl
    |some d=>
     rw[hdd]at hne;rw[Ei,if_neg (fun⟨e2,_⟩=>hne (by rw[e2]))]
   rw[this];refine(hI.fr2 t (fun k q hq hd=> ?_)).mono hle;have:=hn k q hq hd;unfold upd at this
   split at this
   . cases this
   . exact this
 . intro x hx;have h1:=hsz 0 i (by omega) (by omega);have h2:=hsz (i+1) ops.size (by omega) (by omega);rw[mF x (by omega)];exact hI.out x hx
 . intro k hk hpk x hx1 hx2;unfold upd at hpk
   split at hpk
   . cases hpk
   . rename_i hki;rw[mF x ?_]
     . exact hI.free k hk hpk x hx1 hx2
     . rintro⟨h1,h2⟩
       rcases Nat.lt_or_gt_of_ne hki with h3|h3
       . have:=hsz (k+1) i (by omega) (by omega);omega
       . have:=hsz (i+1) k (by omega) (by omega);omega
 . intro cb h1 h2;rw[kS cb h1 h2];exact hI.fJ cb h1 h2
end
end
end Go.Proofs.YtfaojedfnjdnnaaGreat.Ev
namespace Go.Proofs.YtfaojedfnjdnnaaGreat.Ev
noncomputable section
open Go
section
variable {P : Program} {L : List FuncId} {cl : FuncId -> List Value -> ag -> Option (Value × ag)}
variable {ops : Array Oper} {A : Array Nat} {s0 s' : St} {rs : List Rec} {S : Nat -> St}
variable {f0 f : Fm} {w0 w : World} {a0 a : Act} {p : Nat -> Bool} {m i : Nat} {o : Oper}
theorem R.sub {X Y:ag} (h:R f X w) (hg:∀x b,Y.get x=some b->X.get x=some b) (hl:Y.lock=X.lock) (hs:Y.lock<=Y.size):R f Y w:=by
 refine⟨fun x b hx=> ?_,h.big,hs,fun x y b c l m hx hy hmm=> ?_⟩
 . obtain⟨l,C,e,fr,h1,h2,h3,h4⟩:=h.blk x b (hg x b hx);exact⟨l,C,e,fr,h1,h2,h3,fun hmm=>h4 (by rw[aO]at hmm⊢;rw[<-hl];exact hmm)⟩
 . exact h.inj x y b c l m (hg x b hx) (hg y c hy) (by rw[aO]at hmm⊢;rw[<-hl];exact hmm)
theorem nF {X Y:ag} (hg:∀x b,Y.get x=some b->X.get x=some b) (hl:Y.lock=X.lock) {cb:Nat} (h:gm f Y cb):gm f X cb:=by
 obtain⟨x,b,l,h1,h2,h3,h4⟩:=h;exact⟨x,b,l,hg x b h1,by rw[aO]at h2⊢;rw[<-hl];exact h2,h3,h4⟩
theorem yl (hC:Can P L cl ops A s0 s' rs S) (hfr:iq cl) (hm:m<=ops.size):(Mh S rs p m).lock=(S 0).hp.lock:=(hC.jk hfr m 0 (by omega) hm).lock
theorem Can.la (hC:Can P L cl ops A s0 s' rs S) (hm:m<=ops.size) (x:Nat) (b:Blk):
 (Mh S rs p m).get x=some b↔x<sz S m/\(S m).hp.root.get x=some b/\hidden (S 0).hp.hid x=false/\∀k,k<m->p k=false->¬(sz S k<=x/\x<sz S (k+1)):=
 hC.G6 (X:=Mh S rs p m) hm rfl rfl rfl x b
theorem Inv.still (hC:Can P L cl ops A s0 s' rs S) (hfr:iq cl) (hI:Inv ops s0 rs S f0 w0 a0 p f m a w) (ho:ops[i]? =some o) (hpi:p i=false)
 (hr:∀e∈o.after,Region.binds .any e=true->p e.on=true) {r:Rec} (hri:rs[i]? =some r) (hk:r.kind≠.dh) (SK:r.h0=r.h1) {f':Fm} {w':World} {v':Value} (hV:V f' r.v v')
 (hS:Stp f (Mh S rs p m) w f' (Mh S rs p m) w') (hR:R f' (Mh S rs p m) w'):Inv ops s0 rs S f0 w0 a0 (upd p i) f' m (a.put o.dst v') w':=by
 have hi:i<ops.size:=(zaI.1 ho).1;obtain⟨r2,e1,_,_,e4,e5⟩:=hC.gx hi;rw[hri]at e1;cases e1;have hsz:sz S i=sz S (i+1):=by unfold sz;rw[<-e4,<-e5,SK]
 have hg:∀x b,(Mh S rs (upd p i) m).get x=some b->(Mh S rs p m).get x=some b:=by
  intro x b hx;rw[hC.la hI.mle]at hx⊢;refine⟨hx.1,hx.2.1,hx.2.2.1,fun k hkm hpk=> ?_⟩
  by_cases e:k=i
  . subst e;omega
  . exact hx.2.2.2 k hkm (by simp[upd,e,hpk])
 have hl:(Mh S rs (upd p i) m).lock=(Mh S rs p m).lock:=rfl;refine hI.after hC ho hpi hr hri hV hS.le ?_ hS.gu hS.os hS.tape hS.output ?_ ?_ hI.mle ?_ ?_ (hR.sub hg hl hR.lk) (hI.early.step hS.le (.inr (by omega)) fun k l hk hl hv=>⟨hS.fJ l.blk (hI.r.big _ l hl) (fun⟨x,b,l2,g1,g2,g3,g4⟩=>hv x b l2 g1 g3 g4),fun y c n hy hn=>by
  have hy':=hg y c hy;obtain⟨l2,C,e,fr,g1,_⟩:=hI.r.blk y c hy';have:=hS.le y l2 g1;rw[hn]at this;cases this;exact hv y c _ hy' g1⟩) (fun a b h1 h2=>hC.oh hfr h1 h2)
 . intro x _;exact hS.out x (by omega)
 . intro cb h1 h2;exact hS.fJ cb (zaD h1 hI.gu) (fun h3=>h2 (hI.own cb h1 h3))
 . intro cb h1 h2;exact hI.own cb h1 (hS.own cb (zaD h1 hI.gu) (nF hg hl h2))
 . intro hm;obtain⟨h1,h2⟩:=hI.tz hm;refine⟨h1, ?_⟩;have:m≠i:=by
    rintro rfl
    obtain⟨q,hq,hql⟩:=h1;rw[hri]at hq;cases hq;exact hk hql
   simp[upd,this,h2]
 . intro j hj hlj;have:=hI.vD j hj hlj;unfold upd;split<;>simp[this]
theorem Inv.NN (hC:Can P L cl ops A s0 s' rs S) (hI:Inv ops s0 rs S f0 w0 a0 p f m a w) (ho:ops[i]? =some o) (hpi:p i=false)
 (hr:∀e∈o.after,Region.binds .any e=true->p e.on=true) {r:Rec} (hri:rs[i]? =some r) (hk:r.kind= .quiet):(fS ops i=true/\m<=i)\/i<m/\∀k,i<=k->k<m->¬mI rs k:=by
 by_cases hal:fS ops i=true/\m<=i
 . exact .inl hal
 have hal:fS ops i=false\/i<m:=by
  cases h:fS ops i
  . exact .inl rfl
  . exact .inr (Nat.lt_of_not_le fun h2=>hal ⟨h,h2⟩)
 refine .inr ?_
 have hi:i<ops.size:=(zaI.1 ho).1;have Wu:∀k,mI rs k->k≠i:=by
  rintro k ⟨q,hq,hql⟩ rfl
  rw[hri]at hq;cases hq;rw[hk]at hql;cases hql
 have Wv:m<=i->∀k,k<i->mI rs k->p k=true:=by
  rintro hmi k hki hkl
  obtain⟨q,hq,hql⟩:=hkl;rcases hC.comparable hri hq hql (.inl hk) (hal.imp_right fun h=>by omega) (by omega)with h1|h1
  . exact nI hC.stat hI.AN ho hr (by omega) h1
  . have hko:ops[k]? =some (ops[k]'(by omega)):=zaz _;have:=((dg hC.stat hko).2.1 i hi h1).1;omega
 have him:i<m:=by
  rcases Nat.lt_trichotomy i m with h1|h1|h1
  . exact h1
  . exact absurd h1.symm (Wu m (hI.tz (by omega)).1)
  . have h2:=hI.tz (by omega);rw[Wv (by omega) m h1 h2.1]at h2;cases h2.2
 refine⟨him,fun k h1 h2 hkl=> ?_⟩;have hki:i<k:=Nat.lt_of_le_of_ne h1 (fun e=>Wu k hkl e.symm);have hpk:=hI.vD k h2 hkl;obtain⟨q,hq,hql⟩:=hkl;have hkn:k<ops.size:=by have:=hI.mle;omega
 rcases hC.comparable hri hq hql (.inl hk) (.inr (.inl hki)) (by omega)with h3|h3
 . have:=((dg hC.stat ho).2.1 k hkn h3).1;omega
 . rw[jS hC.stat hI.AN k i hkn hi hpk h3]at hpi;cases hpi
theorem Can.pF (hC:Can P L cl ops A s0 s' rs S) (hfr:iq cl) {j:Nat} (hj:j<=ops.size) (q:Nat->Bool) (x:Nat) (b:Blk):
 (dt (S j).hp q (rs.take j)).get x=some b↔x<sz S j/\(S j).hp.root.get x=some b/\hidden (S 0).hp.hid x=false/\∀k,k<j->q k=false->¬(sz S k<=x/\x<sz S (k+1)):=
 hC.G6 (X:=dt (S j).hp q (rs.take j)) hj rfl rfl (by show eP q (rs.take j) 0++(S j).hp.hid=_;rw[(hC.jk hfr j 0 (by omega) hj).hid]) x b
theorem R.carry {M:ag} {w':World} {f':Fm} (h:R f M w) (hle:Le f f') (Ie:∀x l,f' x=some l->l.blk<w'.heap.size) (hk:∀cb,cb<w.heap.size->w'.heap[cb]? =w.heap[cb]?):R f' M w':=by
 have hold:∀x b l,M.get x=some b->f' x=some l->f x=some l:=fun x b l h1 h2=>by
  obtain⟨l2,C,e,fr,g1,_⟩:=h.blk x b h1;have:=hle x l2 g1;rw[h2]at this;cases this;exact g1
 refine⟨fun x b hx=> ?_,Ie,h.lk,fun x y b c l n hx hy hm hne hl hn=>h.inj x y b c l n hx hy hm hne (hold x b l hx hl) (hold y c n hy hn)⟩;obtain⟨l,C,e,fr,g1,g2,g3,g4⟩:=h.blk x b hx;refine⟨l,C,e,fr,hle x l g1,(hk _ (h.big x l g1)).trans g2,fun j u hj=> ?_,g4⟩;obtain⟨d1,u',d2,d3⟩:=g3 j u hj;exact⟨d1,u',d2,d3.mono hle⟩
theorem Inv.ahead (oX:(S 0).hp.lock<=sz S 0) (hcl:Bh P cl) (hC:Can P L cl ops A s0 s' rs S) (hfr:iq cl) (hI:Inv ops s0 rs S f0 w0 a0 p f m a w) (ho:ops[i]? =some o) (hpi:p i=false)
 (hr:∀e∈o.after,Region.binds .any e=true->p e.on=true) (hal:fS ops i=true) (hmi:m<=i) {v:Value} {H':ag} (hri:rs[i]? =some ⟨.quiet,v,(S i).hp,cU (S i).hp H',none⟩)
 (hop:opE P cl (Ev.dW (S i).fr) o (dt (S i).hp (aW A i) (rs.take i))=some (v,H')) {Q:Exit->Act->World->Prop}:
 o.wp P a w (fun a' w'=>∃f' m',Inv ops s0 rs S f0 w0 a0 (upd p i) f' m' a' w') Q:=by
 have hi:i<ops.size:=(zaI.1 ho).1;have j7:=hI.mle;obtain⟨r2,e1,_,_,e4,e5⟩:=hC.gx hi;rw[hri]at e1;cases e1;have hH1:(S (i+1)).hp=cU (S i).hp H':=e5.symm;have fH:∀a b,a<=b->b<=ops.size->sz S a<=sz S b:=fun a b h1 h2=>hC.oh hfr h1 h2
 obtain⟨e,he⟩:∃e,o.op= .alloc e:=by
  unfold fS at hal;rw[ho]at hal;simp only at hal
  split at hal
  . rename_i e he;exact⟨e,he⟩
  . cases hal
 unfold opE at hop;rw[he]at hop;simp only at hop
 split at hop
 case h_2=>cases hop
 rename_i z hz;simp only[zai]at hop;obtain⟨cs,hcs,hop⟩:=hop;cases hop;have FO:sz S (i+1)=sz S i+1:=by unfold sz;rw[hH1];rfl
 have KO:(S (i+1)).hp.root.get (sz S i)=some ⟨cs⟩:=by
  rw[hH1];show(aF (dt (S i).hp (aW A i) (rs.take i)) cs).root.get (sz S i)=_;unfold aF;rw[ag.bV];exact if_pos rfl
 have hX:opE P cl (Ev.dW (S i).fr) o ⟨sz S i,.e,sz S i,[]⟩=some (ptr (sz S i) 0,aF ⟨sz S i,.e,sz S i,[]⟩ cs):=by
  unfold opE;rw[he];simp only[hz,hcs];rfl
 have hRX:R f ⟨sz S i,.e,sz S i,[]⟩ w:=⟨fun x b hx=>by simp[ag.get,hidden,Tr.get]at hx,hI.r.big,zap _,fun x y b c l n hx=>by simp[ag.get,hidden,Tr.get]at hx⟩
 refine Hp hcl hRX (fun x hx u hu=>hI.dW hC ho hpi hr x hx u hu) (fun j h1 h2=>hI.free i hi hpi j h1 (by rw[FO];exact h2)) hX ?_
 intro f' w' v' hV hS hR';have hno:∀cb,¬gm f ⟨sz S i,.e,sz S i,[]⟩ cb:=by
  rintro cb ⟨x,b,l,h1,_⟩
  simp[ag.get,hidden,Tr.get]at h1
 have kS:∀cb,cb<w.heap.size->w'.heap[cb]? =w.heap[cb]? :=fun cb h=>hS.fJ cb h (hno cb)
 have iU:(aF ⟨sz S i,.e,sz S i,[]⟩ cs).get (sz S i)=some ⟨cs⟩:=by
  unfold ag.get aF;rw[if_pos (by simp),ag.bV];simp[hidden]
 obtain⟨l,C,tp,fr,g1,g2,g3,g4⟩:=hR'.blk _ _ iU;obtain⟨rfl,g5⟩:=g4 (by rw[aO];exact zap _);have fk:w.heap.size<=l.blk:=by
  apply zbW;intro hlt;exact hno l.blk (hS.own l.blk (by omega) ⟨_,_,l,iU,by rw[aO];exact zap _,g1,rfl⟩)
 have mF:∀x,x≠sz S i->f' x=f x:=fun x hx=>hS.out x (by
  show ¬(sz S i<=x/\x<sz S i+1);omega)
 have hg:∀x b,(Mh S rs (upd p i) m).get x=some b↔(Mh S rs p m).get x=some b:=by
  intro x b;rw[hC.la j7,hC.la j7];have e:∀k,k<m->upd p i k=p k:=fun k hk=>by unfold upd;rw[if_neg (by omega)]
  constructor<;>(rintro⟨h1,h2,h3,h4⟩;refine⟨h1,h2,h3,fun k hk hpk=>h4 k hk ?_⟩)
  . rw[e k hk];exact hpk
  . rw[<-e k hk];exact hpk
 have KP:∀x b n,(Mh S rs p m).get x=some b->f' x=some n->f x=some n:=fun x b n h1 h2=>by
  have hlt:x<(Mh S rs p m).size:=ag.aZ h1;have hlt:x<sz S m:=hlt;have:=fH m i hmi (by omega);rw[<-mF x (by omega)];exact h2
 have hRM:R f' (Mh S rs (upd p i) m) w':=(hI.r.carry hS.le hR'.big kS).sub (fun x b h=>(hg x b).1 h) rfl hI.r.lk;have hEk:∀k,kZ ops S (upd p i) m k->k=i\/(k≠i/\kZ ops S p m k):=fun k ⟨h1,h2,h3,h4⟩=>by
  by_cases ek:k=i
  . exact .inl ek
  . exact .inr ⟨ek,h1,h2,by simpa[upd,ek]using h3,h4⟩
 have SL:∀k,k<ops.size->sz S k<sz S (k+1)->k≠i->sz S k≠sz S i:=fun k hk hlt hne h=>by
  rcases Nat.lt_or_gt_of_ne hne with h1|h1
  . have:=fH (k+1) i h1 (by omega);omega
  . have:=fH (i+1) k h1 (by omega);omega
 have hE:wM ops rs S w0 (upd p i) f' m w':=by
  refine⟨fun k hk=> ?_,fun k k' n n' hk hk' hne hn hn'=> ?_⟩
  . rcases hEk k hk with rfl|⟨hki,hk'⟩
    . refine⟨cs,l,C,tp,FO,KO,g1,g2,g5,g3,zaP hI.gu fk,fun y c n hy hn=> ?_⟩;have:=hI.r.big y n (KP y c n ((hg y c).1 hy) hn);omega
    . obtain⟨cs2,l2,C2,tp2,a1,a2,a3,a4,a5,a6,a7,a8⟩:=hI.early.made k hk';exact⟨cs2,l2,C2,tp2,a1,a2,hS.le _ _ a3,(kS _ (hI.r.big _ _ a3)).trans a4,a5,fun j u hj=>by
       obtain⟨d1,u',d2,d3⟩:=a6 j u hj;exact⟨d1,u',d2,d3.mono hS.le⟩,a7,fun y c n hy hn=>a8 y c n ((hg y c).1 hy) (KP y c n ((hg y c).1 hy) hn)⟩
  . rcases hEk k hk with rfl|⟨hki,hk1⟩
    . rcases hEk k' hk' with rfl|⟨aad,Oj⟩
      . exact absurd rfl hne
      . rw[g1]at hn;cases hn;rw[mF _ (SL k' Oj.2.1 Oj.2.2.2 aad)]at hn';have:=hI.r.big _ n' hn';omega
    . rw[mF _ (SL k hk1.2.1 hk1.2.2.2 hki)]at hn;rcases hEk k' hk' with rfl|⟨aad,Oj⟩
      . rw[g1]at hn';cases hn';have:=hI.r.big _ n hn;omega
      . rw[mF _ (SL k' Oj.2.1 Oj.2.2.2 aad)]at hn';exact hI.early.apart k k' n n' hk1 Oj hne hn hn'
 have afv:m≠i:=by
  rintro rfl
  obtain⟨⟨q,hq,hql⟩,_⟩:=hI.tz hi;rw[hri]at hq;cases hq;cases hql
 refine⟨f',m,hI.after hC ho hpi hr hri hV hS.le ?_ hS.gu hS.os hS.tape hS.output ?_ ?_ j7 ?_ ?_ hRM hE fH⟩
 . intro x hx;exact mF x (by omega)
 . intro cb h1 _;exact kS cb (zaD h1 hI.gu)
 . rintro cb h1 ⟨x,b,n,hx,hm,hl,hcb⟩
   have hx':=(hg x b).1 hx;exact hI.own cb h1 ⟨x,b,n,hx',hm,KP x b n hx' hl,hcb⟩
 . intro hm;obtain⟨h1,h2⟩:=hI.tz hm;exact⟨h1,by simp[upd,afv,h2]⟩
 . intro j hj hlj;have:=hI.vD j hj hlj;unfold upd;split<;>simp[this]
theorem Inv.quiet (oX:(S 0).hp.lock<=sz S 0) (hcl:Bh P cl) (hC:Can P L cl ops A s0 s' rs S) (hfr:iq cl) (hI:Inv ops s0 rs S f0 w0 a0 p f m a w) (ho:ops[i]? =some o) (hpi:p i=false)
 (hr:∀e∈o.after,Region.binds .any e=true->p e.on=true) {v:Value} {H':ag} (hri:rs[i]? =some ⟨.quiet,v,(S i).hp,cU (S i).hp H',none⟩)
 (hop:opE P cl (Ev.dW (S i).fr) o (dt (S i).hp (aW A i) (rs.take i))=some (v,H')) {Q:Exit->Act->World->Prop}:
 o.wp P a w (fun a' w'=>∃f' m',Inv ops s0 rs S f0 w0 a0 (upd p i) f' m' a' w') Q:=by
 have hi:i<ops.size:=(zaI.1 ho).1;rcases hI.NN hC ho hpi hr hri rfl with⟨hal,hmi⟩|⟨him,hnl⟩
 . exact hI.ahead oX hcl hC hfr ho hpi hr hal hmi hri hop
 have j7:=hI.mle;obtain⟨r2,e1,_,_,e4,e5⟩:=hC.gx hi;rw[hri]at e1;cases e1;have hH1:(S (i+1)).hp=cU (S i).hp H':=e5.symm;have FO:sz S (i+1)=H'.size:=by unfold sz;rw[hH1];rfl
 have tZ:∀x,x<sz S i->(S m).hp.root.get x=(S i).hp.root.get x:=fun x hx=>hC.jU hfr m i (by omega) j7 hnl x hx
 have KO:∀x,x<sz S (i+1)->(S m).hp.root.get x=H'.root.get x:=by
  intro x hx;have:=hC.jU hfr m (i+1) (by omega) j7 (fun k h1 h2=>hnl k (by omega) h2) x hx;rw[this,hH1];rfl
 have fH:∀a b,a<=b->b<=ops.size->sz S a<=sz S b:=fun a b h1 h2=>hC.oh hfr h1 h2
 have adp:R f (dt (S i).hp (aW A i) (rs.take i)) w:=by
  refine hI.r.view ?_ rfl;intro x b hx;rw[hC.pF hfr (by omega)]at hx;rw[hC.la j7];obtain⟨h1,h2,h3,h4⟩:=hx;refine⟨zaD h1 (fH i m (by omega) j7),by rw[tZ x h1];exact h2,h3,fun k hk hpk hx=> ?_⟩
  by_cases hki:k<i
  . refine h4 k hki ?_ hx;cases hg:aW A i k with
    |false=>rfl
    |true=>rw[nI hC.stat hI.AN ho hr (by omega) hg]at hpk;cases hpk
  . have:=fH i k (by omega) (by omega);omega
 have bo:∀j,(dt (S i).hp (aW A i) (rs.take i)).size<=j->j<H'.size->f j=none:=fun j h1 h2=>hI.free i hi hpi j h1 (by rw[FO];exact h2)
 refine Hp hcl adp (fun x hx u hu=>hI.dW hC ho hpi hr x hx u hu) bo hop ?_
 intro f' w' v' hV hS hR';have FP:∀cb,¬gm f (dt (S i).hp (aW A i) (rs.take i)) cb:=by
  rintro cb ⟨x,b,l,h1,h2,_⟩
  have:=ag.aZ h1;rw[aO]at h2;have e:(dt (S i).hp (aW A i) (rs.take i)).lock=(dt (S i).hp (aW A i) (rs.take i)).size:=rfl;omega
 have KQ:H'.lock=sz S i:=hS.lock;have adq:H'.hid=(dt (S i).hp (aW A i) (rs.take i)).hid:=hS.hid;have Ok:∀x b,(Mh S rs (upd p i) m).get x=some b->(sz S i<=x/\x<sz S (i+1)/\H'.get x=some b)\/(¬(sz S i<=x/\x<sz S (i+1))/\(Mh S rs p m).get x=some b):=by
  intro x b hx;rw[hC.la j7]at hx;obtain⟨h1,h2,h3,h4⟩:=hx
  by_cases hin:sz S i<=x/\x<sz S (i+1)
  . refine .inl ⟨hin.1,hin.2, ?_⟩;have hnh:hidden H'.hid x=false:=by
     rw[adq];show hidden (eP (aW A i) (rs.take i) 0++(S i).hp.hid) x=false;rw[(hC.jk hfr i 0 (by omega) (by omega)).hid,hP,h3,Bool.or_false,<-Bool.not_eq_true,ga]
     rintro⟨k,q,g1,_,g3,g4⟩
     rw[zau]at g1
     split at g1
     . rename_i hk;obtain⟨q2,d1,_,_,d4,d5⟩:=hC.gx (i:=k) (by omega);rw[g1]at d1;cases d1;rw[d5]at g4;have:=fH (k+1) i (by omega) (by omega);have h5:x<sz S (k+1):=g4;omega
     . cases g1
    unfold ag.get;rw[if_pos (by rw[<-FO];exact hin.2),hnh,if_neg (by simp),<-KO x hin.2];exact h2
  . refine .inr ⟨hin, ?_⟩;rw[hC.la j7];refine⟨h1,h2,h3,fun k hk hpk hx=> ?_⟩
    by_cases e:k=i
    . subst e;exact hin hx
    . exact h4 k hk (by simp[upd,e,hpk]) hx
 have j8:(Mh S rs (upd p i) m).lock=(S 0).hp.lock:=yl hC hfr j7;have FQ:(Mh S rs p m).lock=(S 0).hp.lock:=yl hC hfr j7;have fk:∀x b l,(Mh S rs (upd p i) m).get x=some b->sz S i<=x/\x<sz S (i+1)/\H'.get x=some b->f' x=some l->w.heap.size<=l.blk:=by
  rintro x b l _ ⟨h1,h2,h3⟩ h4
  apply zbW;intro hlt;exact FP l.blk (hS.own l.blk (by omega) ⟨x,b,l,h3,by rw[aO,KQ];exact h1,h4,rfl⟩)
 have hold:∀x b l,(Mh S rs p m).get x=some b->f' x=some l->f x=some l/\l.blk<w.heap.size:=by
  intro x b l h1 h2;obtain⟨l2,C,e,fr,g1,_⟩:=hI.r.blk x b h1;have:=hS.le x l2 g1;rw[h2]at this;cases this;exact⟨g1,hI.r.big x l g1⟩
 have hRM:R f' (Mh S rs (upd p i) m) w':=by
  refine⟨?_,hR'.big, ?_, ?_⟩
  . intro x b hx;rcases Ok x b hx with⟨h1,h2,h3⟩|⟨h1,h2⟩
    . obtain⟨l,C,e,fr,g1,g2,g3,g4⟩:=hR'.blk x b h3;exact⟨l,C,e,fr,g1,g2,g3,fun _=>g4 (by rw[aO,KQ];exact h1)⟩
    . obtain⟨l,C,e,fr,g1,g2,g3,g4⟩:=hI.r.blk x b h2;refine⟨l,C,e,fr,hS.le x l g1, ?_, ?_,fun hm=>g4 (by rw[aO,FQ];rw[aO,j8]at hm;exact hm)⟩
      . rw[hS.fJ l.blk (hI.r.big x l g1) (FP _)];exact g2
      . intro j u hj;obtain⟨d1,u',d2,d3⟩:=g3 j u hj;exact⟨d1,u',d2,d3.mono hS.le⟩
  . rw[j8];exact zaP oX (fH 0 m (by omega) j7)
  . intro x y b c l n hx hy hm hne hl hn;rcases Ok x b hx with hxn|⟨_,hxo⟩
    . have h1:=fk x b l hx hxn hl;rcases Ok y c hy with hyn|⟨_,hyo⟩
      . exact hR'.inj x y b c l n hxn.2.2 hyn.2.2 (by rw[aO,KQ];exact hxn.1) hne hl hn
      . have:=(hold y c n hyo hn).2;omega
    . obtain⟨h1,h2⟩:=hold x b l hxo hl;rcases Ok y c hy with hyn|⟨_,hyo⟩
      . have:=fk y c n hy hyn hn;omega
      . obtain⟨h3,_⟩:=hold y c n hyo hn;exact hI.r.inj x y b c l n hxo hyo (by rw[aO,FQ];rw[aO,j8]at hm;exact hm) hne h1 h3
 have hE:wM ops rs S w0 (upd p i) f' m w':=hI.early.step hS.le (.inl him) fun k l hk hl hv=>by
  have hlt:=hI.r.big _ l hl;refine⟨hS.fJ l.blk hlt (FP _),fun y c n hy hn=> ?_⟩;rcases Ok y c hy with hyn|⟨_,hyo⟩
  . have:=fk y c n hy hyn hn;omega
  . exact hv y c n hyo (hold y c n hyo hn).1
 refine⟨f',m,hI.after hC ho hpi hr hri hV hS.le ?_ hS.gu hS.os hS.tape hS.output ?_ ?_ j7 ?_ ?_ hRM hE fH⟩
 . intro x hx;refine hS.out x ?_
   show ¬(sz S i<=x/\x<H'.size);rw[<-FO];exact hx
 . intro cb h1 _;exact hS.fJ cb (zaD h1 hI.gu) (FP cb)
 . rintro cb h1 ⟨x,b,l,hx,hm,hl,hcb⟩
   rcases Ok x b hx with hxn|⟨_,hxo⟩
   . have:=fk x b l hx hxn hl;have:=hI.gu;omega
   . obtain⟨h2,_⟩:=hold x b l hxo hl;exact hI.own cb h1 ⟨x,b,l,hxo,by rw[aO,FQ];rw[aO,j8]at hm;exact hm,h2,hcb⟩
 . intro hm;obtain⟨h1,h2⟩:=hI.tz hm;have:m≠i:=by omega
   exact⟨h1,by simp[upd,this,h2]⟩
 . intro j hj hlj;have:=hI.vD j hj hlj;unfold upd;split<;>simp[this]
theorem Inv.load (hC:Can P L cl ops A s0 s' rs S) (hfr:iq cl) (hI:Inv ops s0 rs S f0 w0 a0 p f m a w) (ho:ops[i]? =some o) (hpi:p i=false)
 (hr:∀e∈o.after,Region.binds .any e=true->p e.on=true) {t:TypeId} {ad:Operand} {q v:Value} (hri:rs[i]? =some ⟨.load,v,(S i).hp,(S i).hp,some (t,q)⟩)
 (hop:o.op= .load t ad) (had:Ev.dW (S i).fr ad=some q) (hld:cI P (dt (S i).hp (aW A i) (rs.take i)) t q=some v) {Q:Exit->Act->World->Prop}:
 o.wp P a w (fun a' w'=>∃f' m',Inv ops s0 rs S f0 w0 a0 (upd p i) f' m' a' w') Q:=by
 have hi:i<ops.size:=(zaI.1 ho).1;have j7:=hI.mle;have fH:∀a b,a<=b->b<=ops.size->sz S a<=sz S b:=fun a b h1 h2=>hC.oh hfr h1 h2
 have hVq:V f q (a.eval ad):=hI.dW hC ho hpi hr ad (by rw[hop];simp[Op.operands]) q had;have key:∃X,R f X w/\cI P X t q=some v:=by
  have ua:∀j,(j=i\/mI rs j)->j<=m->(∀k,j<=k->k<m->¬mI rs k)->cI P (dt (S j).hp (aW A i) (rs.take j)) t q=some v->
   (∀k,k<j->aW A i k=true->p k=true)->∃X,R f X w/\cI P X t q=some v:=by
   intro j _ hjm hnl hl afw;refine⟨_,hI.r.view (X:=dt (S j).hp (aW A i) (rs.take j)) ?_ rfl,hl⟩;intro x b hx;rw[hC.pF hfr (by omega)]at hx;rw[hC.la j7];obtain⟨h1,h2,h3,h4⟩:=hx;refine⟨zaD h1 (fH j m hjm j7),by rw[hC.jU hfr m j hjm j7 hnl x h1];exact h2,h3,fun k hk hpk hx=> ?_⟩
   by_cases hkj:k<j
   . refine h4 k hkj ?_ hx;cases hg:aW A i k with
     |false=>rfl
     |true=>rw[afw k hkj hg]at hpk;cases hpk
   . have:=fH j k (by omega) (by omega);omega
  have SM:∀k,k<ops.size->aW A i k=true->p k=true:=fun k hk hg=>nI hC.stat hI.AN ho hr hk hg
  have Ol:∀j,mI rs j->p j=false->j<i->cI P (dt (S j).hp (aW A i) (rs.take j)) t q=some v:=by
   rintro j ⟨b,hb,hbl⟩ hpj hji
   have g1:aW A i j=false:=by
    cases hg:aW A i j with
    |false=>rfl
    |true=>rw[SM j (by omega) hg]at hpj;cases hpj
   have g2:aW A j i=false:=by
    cases hg:aW A j i with
    |false=>rfl
    |true=>
     have hjo:ops[j]? =some (ops[j]'(by omega)):=zaz _;have:=((dg hC.stat hjo).2.1 i hi hg).1;omega
   obtain⟨t2,q2,e1,e2⟩:=hC.CR hri hb hbl rfl g1 g2;cases e1;rw[if_pos hji]at e2;obtain⟨r2,d1,_,_,d4,_⟩:=hC.gx (i:=j) (by omega);rw[hb]at d1;cases d1;rw[d4]at e2;exact e2
  rcases zci m i with hmi|him
  ·
   obtain⟨h1,h2⟩:=hI.tz (by omega);exact ua m (.inr h1) (zap _) (fun k h3 h4=>by omega) (Ol m h1 h2 hmi) (fun k hk hg=>SM k (by omega) hg)
  . have hni:¬mI rs i:=by
     rintro⟨b,hb,hbl⟩
     rw[hri]at hb;cases hb;cases hbl
    by_cases hex:∃j,i<j/\j<m/\mI rs j
    ·
     have adr:∀n,(∃j,i<j/\j<m/\m-j<=n/\mI rs j)->∃j,i<j/\j<m/\mI rs j/\∀k,j<k->k<m->¬mI rs k:=by
      intro n
      induction n with
      |zero=>rintro⟨j,h1,h2,h3,h4⟩;omega
      |succ n ih=>
       rintro⟨j,h1,h2,h3,h4⟩
       by_cases hk:∃k,j<k/\k<m/\mI rs k
       . obtain⟨k,k1,k2,k3⟩:=hk;exact ih ⟨k,by omega,k2,by omega,k3⟩
       . exact⟨j,h1,h2,h4,fun k k1 k2 k3=>hk ⟨k,k1,k2,k3⟩⟩
     obtain⟨j0,j1,j2,j3⟩:=hex;obtain⟨j,h1,h2,h3,h4⟩:=adr m ⟨j0,j1,j2,by omega,j3⟩;have hpj:=hI.vD j h2 h3;obtain⟨b,hb,hbl⟩:=h3;have hjn:j<ops.size:=by omega
     have hjo:ops[j]? =some (ops[j]'hjn):=zaz _;have g1:aW A i j=false:=by
      cases hg:aW A i j with
      |false=>rfl
      |true=>have:=((dg hC.stat ho).2.1 j hjn hg).1;omega
     have g2:aW A j i=false:=by
      cases hg:aW A j i with
      |false=>rfl
      |true=>rw[jS hC.stat hI.AN j i hjn hi hpj hg]at hpi;cases hpi
     obtain⟨t2,q2,e1,e2⟩:=hC.CR hri hb hbl rfl g1 g2;cases e1;rw[if_neg (by omega)]at e2;obtain⟨r2,d1,_,_,d4,d5⟩:=hC.gx (i:=j) hjn;rw[hb]at d1;cases d1;rw[d5]at e2;refine⟨_,hI.r.view (X:={(S (j+1)).hp with lock:=(S (j+1)).hp.size}) ?_ rfl, ?_⟩
     . intro x c hx;rw[hC.la j7];have hx':(S (j+1)).hp.get x=some c:=hx;have hlt:x<sz S (j+1):=ag.aZ hx';obtain⟨u1,u2⟩:=ag.aM hx';refine⟨zaD hlt (fH (j+1) m (by omega) j7), ?_, ?_, ?_⟩
       . rw[hC.jU hfr m (j+1) (by omega) j7 (fun k k1 k2=>h4 k (by omega) k2) x hlt];exact u1
       . rw[<-(hC.jk hfr (j+1) 0 (by omega) (by omega)).hid];exact u2
       . rintro k hk hpk ⟨hx1,hx2⟩
         have hkj:k<=j:=by
          rcases zci j k with h5|h5
          . have:=fH (j+1) k (by omega) (by omega);omega
          . exact h5
         by_cases ekj:k=j
         . rw[ekj,hpj]at hpk;cases hpk
         ·
          obtain⟨rk,r1,r2,_,r4,r5⟩:=hC.gx (i:=k) (by omega);have hkk:rk.kind= .quiet\/rk.kind= .dh:=by
           have vO:(S k).hp.size<(S (k+1)).hp.size:=by
            have:sz S k<sz S (k+1):=by omega
            exact this
           rcases iA r2 with⟨_,rfl⟩|⟨_,⟨v,_,rfl⟩|⟨t,a,p,v,_,_,_,rfl⟩|⟨v,H',_,rfl⟩|⟨v,H',_,rfl⟩⟩
           . simp only at r4 r5;rw[<-r5]at vO;exact absurd vO (Nat.lt_irrefl _)
           . simp only at r4 r5;rw[<-r5]at vO;exact absurd vO (Nat.lt_irrefl _)
           . simp only at r4 r5;rw[<-r5]at vO;exact absurd vO (Nat.lt_irrefl _)
           . exact .inl rfl
           . exact .inr rfl
          rcases hC.comparable r1 hb hbl hkk (.inr (.inl (by omega))) ekj with g|g
          . have hko:ops[k]? =some (ops[k]'(by omega)):=zaz _;have:=((dg hC.stat hko).2.1 j hjn g).1;omega
          . rw[jS hC.stat hI.AN j k hjn (by omega) hpj g]at hpk;cases hpk
     . exact(FY (fun x=>rfl) t q).trans e2
    . refine ua i (.inl rfl) him (fun k k1 k2 k3=> ?_) hld (fun k hk hg=>SM k (by omega) hg);rcases Nat.lt_or_eq_of_le k1 with h5|h5
      . exact hex ⟨k,h5,k2,k3⟩
      . subst h5;exact hni k3
 obtain⟨X,hX,hXl⟩:=key;obtain⟨v',h1,h2⟩:=pH hX hVq hXl;unfold Oper.wp;have vN:(execOp a.eval o).run P w= .ok (.value v') w:=by simp[execOp,hop,h1]
 rw[vN];exact⟨f,m,hI.still hC hfr ho hpi hr hri (by simp) rfl h2 (.refl f _ w) hI.r⟩
theorem Lg (g:Nat->Nat) (x:Nat):∀(b a:Nat),a<=b->g a<=x->x<g b->∃k,a<=k/\k<b/\g k<=x/\x<g (k+1):=by
 intro b
 induction b with
 |zero=>
  intro a h1 h2 h3;have:a=0:=by omega
  subst this;omega
 |succ b ih=>
  intro a h1 h2 h3
  by_cases e:a=b+1
  . subst e;omega
  . by_cases hx:x<g b
    . obtain⟨k,k1,k2,k3⟩:=ih a (by omega) h2 hx;exact⟨k,k1,by omega,k3⟩
    . exact⟨b,by omega,by omega,by omega,h3⟩
theorem Hw (rs:List Rec) (n:Nat):∀(d i:Nat),i+d=n->∃m,i<=m/\m<=n/\(m<n->mI rs m)/\∀j,i<=j->j<m->¬mI rs j:=by
 intro d
 induction d with
 |zero=>intro i h;exact⟨n,by omega,zap _,fun h=>by omega,fun j h1 h2=>by omega⟩
 |succ d ih=>
  intro i h
  by_cases hl:mI rs i
  . exact⟨i,zap _,by omega,fun _=>hl,fun j h1 h2=>by omega⟩
  . obtain⟨m,m1,m2,m3,m4⟩:=ih (i+1) (by omega);refine⟨m,by omega,m2,m3,fun j h1 h2=> ?_⟩
    by_cases e:j=i
    . subst e;exact hl
    . exact m4 j (by omega) h2
theorem Can.makes (hC:Can P L cl ops A s0 s' rs S) {k:Nat} (hk:k<ops.size) (hlt:sz S k<sz S (k+1)):∃r,rs[k]? =some r/\(r.kind= .quiet\/r.kind= .dh):=by
 obtain⟨rk,r1,r2,_,r4,r5⟩:=hC.gx hk;refine⟨rk,r1, ?_⟩;have vO:(S k).hp.size<(S (k+1)).hp.size:=hlt;rcases iA r2 with⟨_,rfl⟩|⟨_,⟨v,_,rfl⟩|⟨t,a,p,v,_,_,_,rfl⟩|⟨v,H',_,rfl⟩|⟨v,H',_,rfl⟩⟩
 . simp only at r4 r5;rw[<-r5]at vO;exact absurd vO (Nat.lt_irrefl _)
 . simp only at r4 r5;rw[<-r5]at vO;exact absurd vO (Nat.lt_irrefl _)
 . simp only at r4 r5;rw[<-r5]at vO;exact absurd vO (Nat.lt_irrefl _)
 . exact .inl rfl
 . exact .inr rfl
theorem Inv.dh (oX:(S 0).hp.lock<=sz S 0) (hcl:Bh P cl) (hC:Can P L cl ops A s0 s' rs S) (hfr:iq cl) (hI:Inv ops s0 rs S f0 w0 a0 p f m a w) (ho:ops[i]? =some o) (hpi:p i=false)
 (hr:∀e∈o.after,Region.binds .any e=true->p e.on=true) {v:Value} {H':ag} (hri:rs[i]? =some ⟨.dh,v,(S i).hp,H',none⟩)
 (hop:opE P cl (Ev.dW (S i).fr) o (S i).hp=some (v,H')) {Q:Exit->Act->World->Prop}:
 o.wp P a w (fun a' w'=>∃f' m',Inv ops s0 rs S f0 w0 a0 (upd p i) f' m' a' w') Q:=by
 have hi:i<ops.size:=(zaI.1 ho).1;obtain⟨r2,e1,_,_,e4,e5⟩:=hC.gx hi;rw[hri]at e1;cases e1;have hH1:(S (i+1)).hp=H':=e5.symm;have fH:∀a b,a<=b->b<=ops.size->sz S a<=sz S b:=fun a b h1 h2=>hC.oh hfr h1 h2
 have hli:mI rs i:=⟨_,hri,rfl⟩
 have j7:=hI.mle;have Ww:∀k,k<ops.size->k≠i->(∃r,rs[k]? =some r/\(r.kind= .quiet\/r.kind= .dh)/\(fS ops k=false\/k<i\/r.kind= .dh))->(k<i->p k=true)/\(i<k->p k=false):=by
  rintro k hk hne ⟨r,hrk,hkk,hx⟩
  have hko:ops[k]? =some (ops[k]'hk):=zaz _;rcases hC.comparable hrk hri rfl hkk hx hne with g|g
  . have h1:=((dg hC.stat hko).2.1 i hi g).1;refine⟨fun h=>by omega,fun _=> ?_⟩;cases hp:p k with
    |false=>rfl
    |true=>rw[jS hC.stat hI.AN k i hk hi hp g]at hpi;cases hpi
  . have h1:=((dg hC.stat ho).2.1 k hk g).1;exact⟨fun _=>nI hC.stat hI.AN ho hr hk g,fun h=>by omega⟩
 have KR:∀k,mI rs k->∃r,rs[k]? =some r/\(r.kind= .quiet\/r.kind= .dh)/\(fS ops k=false\/k<i\/r.kind= .dh):=fun k ⟨r,h1,h2⟩=>⟨r,h1,.inr h2,.inr (.inr h2)⟩
 have hmi:m=i:=by
  rcases Nat.lt_trichotomy m i with h1|h1|h1
  . obtain⟨h2,h3⟩:=hI.tz (by omega);rw[(Ww m (by omega) (by omega) (KR m h2)).1 h1]at h3;cases h3
  . exact h1
  . rw[hI.vD i h1 hli]at hpi;cases hpi
 subst hmi;have BB:(S m).hp.hid=(S 0).hp.hid:=(hC.jk hfr m 0 (by omega) j7).hid;have SN:(S m).hp.lock=(S 0).hp.lock:=(hC.jk hfr m 0 (by omega) j7).lock;have ju:∀x b,(S m).hp.get x=some b->(Mh S rs p m).get x=some b:=by
  intro x b hx;rw[hC.la j7];obtain⟨u1,u2⟩:=ag.aM hx;refine⟨ag.aZ hx,u1,by rw[<-BB];exact u2,fun k hk hpk hx=> ?_⟩;obtain⟨rk,q1,q2⟩:=hC.makes (k:=k) (by omega) (by omega);rw[(Ww k (by omega) (by omega) ⟨rk,q1,q2,.inr (.inl hk)⟩).1 hk]at hpk;cases hpk
 have hR0:R f (S m).hp w:=hI.r.sub ju rfl (by rw[SN];exact zaP oX (fH 0 m (by omega) j7));have bo:∀j,(S m).hp.size<=j->j<H'.size->f j=none:=fun j h1 h2=>hI.free m hi hpi j h1 (by show j<(S (m+1)).hp.size;rw[hH1];exact h2)
 refine Hp hcl hR0 (fun x hx u hu=>hI.dW hC ho hpi hr x hx u hu) bo hop ?_
 intro f' w' v' hV hS hR';obtain⟨m',n1,n2,n3,n4⟩:=Hw rs ops.size (ops.size-(m+1)) (m+1) (by omega);have ads:H'.hid=(S 0).hp.hid:=by rw[<-BB];exact hS.hid
 have KS:H'.lock=(S 0).hp.lock:=by rw[<-SN];exact hS.lock
 have j8:(Mh S rs (upd p m) m').lock=(S 0).hp.lock:=yl hC hfr n2;have SO:∀k l,f (sz S k)=some l->l.blk<w.heap.size:=fun k l h=>hI.r.big _ l h
 have SP:∀k l,f (sz S k)=some l->(∀y c n,(Mh S rs p m).get y=some c->f y=some n->n.blk≠l.blk)->¬gm f (S m).hp l.blk:=by
  rintro k l h hv ⟨x,b,l2,g1,g2,g3,g4⟩
  exact hv x b l2 (ju x b g1) g3 g4
 have KP:∀k l,f (sz S k)=some l->(∀y c n,(Mh S rs p m).get y=some c->f y=some n->n.blk≠l.blk)->∀y c n,H'.get y=some c->f' y=some n->n.blk≠l.blk:=by
  intro k l h hv y c n hy hn e
  by_cases Ig:H'.lock<=y
  . exact SP k l h hv (hS.own l.blk (SO k l h) ⟨y,c,n,hy,by rw[aO];exact Ig,hn,e⟩)
  . have hyl:y<(S m).hp.lock:=by rw[<-hS.lock];omega
    have hyz:y<(S m).hp.size:=zaD hyl (by rw[SN];exact zaP oX (fH 0 m (by omega) j7));obtain⟨u1,u2⟩:=ag.aM hy;rw[hS.out y (by omega)]at hn;refine hv y c n (ju y c ?_) hn e;unfold ag.get;rw[if_pos hyz,<-hS.hid,u2,if_neg (by simp),<-hS.root y hyz hyl];exact u1
 have Dm:∀x b,(Mh S rs (upd p m) m').get x=some b->H'.get x=some b\/∃k,kZ ops S p m k/\k≠m/\k<m'/\x=sz S k/\(S (k+1)).hp.root.get (sz S k)=some b:=by
  intro x b hx;rw[hC.la n2]at hx;obtain⟨h1,h2,h3,h4⟩:=hx
  by_cases hlt:x<sz S (m+1)
  . have:=hC.jU hfr m' (m+1) n1 n2 n4 x hlt;rw[hH1]at this;have SQ:x<H'.size:=by
     have h5:x<(S (m+1)).hp.size:=hlt;rw[hH1]at h5;exact h5
    left
    unfold ag.get;rw[if_pos SQ,ads,h3,if_neg (by simp),<-this];exact h2
  . right
    obtain⟨k,k1,k2,k3,k4⟩:=Lg (sz S) x m' (m+1) n1 (by omega) h1;have hne:k≠m:=by omega
    have hpk:p k=true:=by
     cases hpk:p k
     . exact absurd ⟨k3,k4⟩ (h4 k k2 (by simp[upd,hne,hpk]))
     . rfl
    have hEk:kZ ops S p m k:=⟨by omega,by omega,hpk,by omega⟩
    obtain⟨cs,l,C,tp,a1,a2,_⟩:=hI.early.made k hEk;have hxk:x=sz S k:=by omega
    refine⟨k,hEk,hne,k2,hxk, ?_⟩;rw[<-hxk,<-hC.jU hfr m' (k+1) (by omega) n2 (fun j j1 j2=>n4 j (by omega) j2) x k4];exact h2
 have hRM:R f' (Mh S rs (upd p m) m') w':=by
  refine⟨fun x b hx=> ?_,hR'.big,by rw[j8];exact zaP oX (fH 0 m' (by omega) n2),fun x y b c l n hx hy hm hne hl hn=> ?_⟩
  . rcases Dm x b hx with h|⟨k,hk,_,_,rfl,hb⟩
    . obtain⟨l,C,e,fr,g1,g2,g3,g4⟩:=hR'.blk x b h;exact⟨l,C,e,fr,g1,g2,g3,fun hm=>g4 (by rw[aO]at hm⊢;rw[KS,<-j8];exact hm)⟩
    . obtain⟨cs,l,C,tp,a1,a2,a3,a4,a5,a6,a7,a8⟩:=hI.early.made k hk;rw[a2]at hb;cases hb;refine⟨l,C,tp,(0,0),hS.le _ _ a3,(hS.fJ _ (SO k l a3) (SP k l a3 a8)).trans a4,fun j u hj=> ?_,fun _=>⟨rfl,a5⟩⟩;obtain⟨d1,u',d2,d3⟩:=a6 j u hj;exact⟨d1,u',d2,d3.mono hS.le⟩
  . rcases Dm x b hx with h|⟨k,hk,_,_,rfl,hb⟩
    . rcases Dm y c hy with h'|⟨k',hk',_,_,rfl,hb'⟩
      . exact hR'.inj x y b c l n h h' (by rw[aO]at hm⊢;rw[KS,<-j8];exact hm) hne hl hn
      . obtain⟨cs,l2,C,tp,a1,a2,a3,a4,a5,a6,a7,a8⟩:=hI.early.made k' hk';have:=hS.le _ _ a3;rw[hn]at this;cases this;exact KP k' _ a3 a8 x b l h hl
    . obtain⟨cs,l2,C,tp,a1,a2,a3,a4,a5,a6,a7,a8⟩:=hI.early.made k hk;have:=hS.le _ _ a3;rw[hl]at this;cases this;rcases Dm y c hy with h'|⟨k',hk',_,_,rfl,hb'⟩
      . exact(KP k _ a3 a8 y c n h' hn).symm
      . obtain⟨_,l3,_,_,_,_,b3,_⟩:=hI.early.made k' hk';have:=hS.le _ _ b3;rw[hn]at this;cases this;exact hI.early.apart k k' _ _ hk hk' (fun e=>hne (by rw[e])) a3 b3
 have hEk:∀k,kZ ops S (upd p m) m' k->kZ ops S p m k/\m'<=k:=fun k ⟨h1,h2,h3,h4⟩=>by
  have hne:k≠m:=by omega
  exact⟨⟨by omega,h2,by simpa[upd,hne]using h3,h4⟩,h1⟩
 have hE:wM ops rs S w0 (upd p m) f' m' w':=by
  refine⟨fun k hk=> ?_,fun k k' n n' hk hk' hne hn hn'=> ?_⟩
  . obtain⟨hk,hmk⟩:=hEk k hk;obtain⟨cs,l,C,tp,a1,a2,a3,a4,a5,a6,a7,a8⟩:=hI.early.made k hk;refine⟨cs,l,C,tp,a1,a2,hS.le _ _ a3,(hS.fJ _ (SO k l a3) (SP k l a3 a8)).trans a4,a5,fun j u hj=> ?_,a7,fun y c n hy hn=> ?_⟩
    . obtain⟨d1,u',d2,d3⟩:=a6 j u hj;exact⟨d1,u',d2,d3.mono hS.le⟩
    . rcases Dm y c hy with h|⟨k',hk',_,k3,rfl,_⟩
      . exact KP k l a3 a8 y c n h hn
      . obtain⟨_,l3,_,_,_,_,b3,_⟩:=hI.early.made k' hk';have:=hS.le _ _ b3;rw[hn]at this;cases this;exact hI.early.apart k' k _ _ hk' hk (by omega) b3 a3
  . obtain⟨_,l2,_,_,_,_,a3,_⟩:=hI.early.made k (hEk k hk).1;obtain⟨_,l3,_,_,_,_,b3,_⟩:=hI.early.made k' (hEk k' hk').1;have e1:=hS.le _ _ a3;have e2:=hS.le _ _ b3;rw[hn]at e1;rw[hn']at e2;cases e1;cases e2;exact hI.early.apart k k' _ _ (hEk k hk).1 (hEk k' hk').1 hne a3 b3
 refine⟨f',m',hI.after hC ho hpi hr hri hV hS.le ?_ hS.gu hS.os hS.tape hS.output ?_ ?_ n2 ?_ ?_ hRM hE fH⟩
 . intro x hx;refine hS.out x ?_
   rintro⟨h1,h2⟩
   exact hx ⟨h1,by show x<(S (m+1)).hp.size;rw[hH1];exact h2⟩
 . intro cb h1 h2;exact hS.fJ cb (zaD h1 hI.gu) (fun h3=>h2 (hI.own cb h1 (nF ju rfl h3)))
 . intro cb h1 h2;obtain⟨x,b,l,hx,hm,hl,hcb⟩:=h2;rcases Dm x b hx with h|⟨k,hk,_,_,rfl,_⟩
   . exact hI.own cb h1 (nF ju rfl (hS.own cb (zaD h1 hI.gu) ⟨x,b,l,h,by rw[aO]at hm⊢;rw[KS,<-j8];exact hm,hl,hcb⟩))
   . obtain⟨_,l3,_,_,_,_,b3,_,_,_,b7,_⟩:=hI.early.made k hk;have:=hS.le _ _ b3;rw[hl]at this;cases this;omega
 . intro hm;have hl:=n3 hm;have hne:m'≠m:=by omega
   exact⟨hl,by simp only[upd,hne,zbp];exact(Ww m' hm hne (KR m' hl)).2 (by omega)⟩
 . intro j hj hlj;unfold upd
   split
   . rfl
   . rename_i hne;rcases zci j m with h1|h1
     . exact(Ww j (by omega) hne (KR j hlj)).1 h1
     . exact absurd hlj (n4 j (by omega) hj)
theorem Inv.step (oX:(S 0).hp.lock<=sz S 0) (hcl:Bh P cl) (hC:Can P L cl ops A s0 s' rs S) (hfr:iq cl) (hI:Inv ops s0 rs S f0 w0 a0 p f m a w) (ho:ops[i]? =some o) (hpi:p i=false)
 (hr:∀e∈o.after,Region.binds .any e=true->p e.on=true) {Q:Exit->Act->World->Prop}:
 wpOp P ops Q i (fun a' w'=>∃f' m',Inv ops s0 rs S f0 w0 a0 (upd p i) f' m' a' w') a w:=by
 have hi:i<ops.size:=(zaI.1 ho).1;obtain⟨r,hri,qZ,_,e4,e5⟩:=hC.gx hi;have hoi:ops[i]=o:=(zaI.1 ho).2;rw[hoi]at qZ;unfold wpOp;simp only[ho];rw[hI.wanted hC ho hpi hr];rcases iA qZ with⟨hw,rfl⟩|⟨hw,⟨v,hop,rfl⟩|⟨t,ad,q,v,hop,had,hld,rfl⟩|⟨v,H',hop,rfl⟩|⟨v,H',hop,rfl⟩⟩
 . rw[hw];simp only[zb8,zbp];exact⟨f,m,hI.still hC hfr ho hpi hr hri (by simp) rfl (V.undef f) (.refl f _ w) hI.r⟩
 . rw[hw];simp only[zbh]
   left
   refine Hp hcl hI.r (fun x hx u hu=>hI.dW hC ho hpi hr x hx u hu) (fun j h1 h2=>by omega) (hop _) ?_
   intro f' w' v' hV hS hR';exact⟨f',m,hI.still hC hfr ho hpi hr hri (by simp) rfl hV hS hR'⟩
 . rw[hw];simp only[zbh]
   left
   exact hI.load hC hfr ho hpi hr hri hop had hld
 . rw[hw];simp only[zbh]
   left
   exact hI.quiet oX hcl hC hfr ho hpi hr hri hop
 . rw[hw];simp only[zbh]
   left
   exact hI.dh oX hcl hC hfr ho hpi hr hri hop
end
end
end Go.Proofs.YtfaojedfnjdnnaaGreat.Ev
namespace Go.Proofs.YtfaojedfnjdnnaaGreat.Ev
noncomputable section
open Go
section
variable {P : Program} {L : List FuncId} {cl : FuncId -> List Value -> ag -> Option (Value × ag)}
variable {ops : Array Oper} {A : Array Nat} {s0 s' : St} {rs : List Rec} {S : Nat -> St}
variable {f0 f : Fm} {w0 w : World} {a0 a : Act} {p : Nat -> Bool} {m i : Nat} {o : Oper}
theorem Inv.done (hC:Can P L cl ops A s0 s' rs S) (hfr:iq cl) (oX:(S 0).hp.lock<=sz S 0) (hI:Inv ops s0 rs S f0 w0 a0 p f m a w) (kQ:∀k,k<ops.size->p k=true):
 Stp f0 s0.hp w0 f s'.hp w/\R f s'.hp w/\FR f s'.fr a/\a.defers=a0.defers:=by
 have hm:m=ops.size:=by
  rcases Nat.lt_or_eq_of_le hI.mle with h|h
  . obtain⟨_,h2⟩:=hI.tz h;rw[kQ m h]at h2;cases h2
  . exact h
 subst hm;have hFr:=hC.jk hfr ops.size 0 (by omega) (zap _);have e0:(S 0).hp=s0.hp:=by rw[hC.ini]
 have en:(S ops.size).hp=s'.hp:=by rw[hC.fin]
 have ju:∀x b,(S ops.size).hp.get x=some b->(Mh S rs p ops.size).get x=some b:=by
  intro x b hx;rw[hC.la (zap _)];obtain⟨u1,u2⟩:=ag.aM hx;exact⟨ag.aZ hx,u1,by rw[<-hFr.hid];exact u2,fun k hk hpk=>by rw[kQ k hk]at hpk;cases hpk⟩
 have hR:R f (S ops.size).hp w:=hI.r.sub ju rfl (by rw[hFr.lock];exact zaP oX hFr.size);refine⟨⟨hI.le, ?_, ?_, ?_, ?_, ?_,hI.gu,hI.os,hI.tape,hI.output, ?_, ?_⟩, ?_,⟨?_, ?_⟩,hI.defers⟩
 . intro x hx;refine hI.out x ?_
   unfold sz;rw[e0,en];exact hx
 . rw[<-e0,<-en];exact hFr.size
 . rw[<-e0,<-en];exact hFr.lock
 . rw[<-e0,<-en];exact hFr.hid
 . rw[<-e0,<-en];exact hFr.root
 . rw[<-e0];exact hI.fJ
 . rw[<-e0,<-en];exact fun cb h1 h2=>hI.own cb h1 (nF ju rfl h2)
 . rw[<-en];exact hR
 . have:=(hC.frame ops.size (zap _)).1;rw[hC.fin]at this;rw[this];exact hI.GY
 . intro t;obtain⟨c1,c2⟩:=(hC.frame ops.size (zap _)).2 t;rw[hC.fin]at c1 c2
   by_cases hex:∃(k:Nat) (q:Oper),ops[k]? =some q/\q.dst=some t
   . obtain⟨k,q,hq,hd⟩:=hex;have hk:k<ops.size:=(zaI.1 hq).1;obtain⟨r,hr,_⟩:=hC.gx hk;rw[c1 k q r hk hq hr hd];exact hI.fr1 t k q r hq hr hd (kQ k hk)
   . rw[c2 (fun k q _ hq hd=>hex ⟨k,q,hq,hd⟩)];exact hI.fr2 t (fun k q hq hd=>absurd ⟨k,q,hq,hd⟩ hex)
def pending (listed:Array Bool) (n:Nat):Nat:=(List.range n).countP fun j=> !listed.getD j false
theorem KI (p:Nat->Bool) (i:Nat) (hp:p i=false):∀l:List Nat,l.countP (fun j=> !upd p i j)<=l.countP (fun j=> !p j)/\
 (i∈l->l.countP (fun j=> !upd p i j)<l.countP (fun j=> !p j)):=by
 intro l
 induction l with
 |nil=>exact⟨zap _,fun h=>by simp at h⟩
 |cons x l ih=>
  obtain⟨h1,h2⟩:=ih;simp only[List.countP_cons]
  by_cases e:x=i
  . subst e;have:upd p x x=true:=by simp[upd]
    rw[this,hp];simp;omega
  . have:upd p i x=p x:=by simp[upd,e]
    rw[this];refine⟨by omega,fun h=> ?_⟩;have:=h2 ((zaN.1 h).resolve_left (fun h3=>e h3.symm));omega
theorem IC {listed:Array Bool} (hi:i<listed.size):(fun j=>(listed.setIfInBounds i true).getD j false)=upd (fun j=>listed.getD j false) i:=by
 funext j
 unfold upd;simp only[zba,Array.getElem?_setIfInBounds]
 by_cases e:j=i
 . subst e;simp[hi]
 . rw[if_neg (fun h=>e h.symm),if_neg e]
theorem k8 {listed:Array Bool} {j:Nat} (hj:j<listed.size):listed.getD j true=listed.getD j false:=by
 simp[zba,hj]
theorem NL (oX:(S 0).hp.lock<=sz S 0) (hcl:Bh P cl) (hC:Can P L cl ops A s0 s' rs S) (hfr:iq cl) {Q:Exit->Act->World->Prop}
 (hQ:∀f a w,Stp f0 s0.hp w0 f s'.hp w->R f s'.hp w->FR f s'.fr a->a.defers=a0.defers->Q .normal a w):
 ∀(fuel:Nat) (listed:Array Bool) (f:Fm) (m:Nat) (a:Act) (w:World),listed.size=ops.size->pending listed ops.size<=fuel->
  Inv ops s0 rs S f0 w0 a0 (fun j=>listed.getD j false) f m a w->wpAny P .any ops Q fuel listed a w:=by
 intro fuel
 induction fuel with
 |zero=>
  intro listed f m a w hsz hc hI;have kQ:∀k,k<ops.size->listed.getD k false=true:=by
   intro k hk;have h0:pending listed ops.size=0:=by omega
   have:=List.countP_eq_zero.1 h0 k (by simpa using hk);simpa using this
  obtain⟨h1,h2,h3,h4⟩:=hI.done hC hfr oX kQ;refine⟨?_,hQ f a w h1 h2 h3 h4⟩;rw[List.eq_nil_iff_forall_not_mem];intro j hj;obtain⟨g1,o,ho,_⟩:=mem_ready.1 hj;have hjs:j<ops.size:=(zaI.1 ho).1;rw[k8 (by omega),kQ j hjs]at g1;cases g1
 |succ fuel ih=>
  intro listed f m a w hsz hc hI;refine⟨fun sD=> ?_,fun i hi=> ?_⟩
  . have kQ:∀k,k<ops.size->listed.getD k false=true:=by
     intro k
     induction k using Nat.strongRecOn with
     |_ k ihk=>
      intro hk;apply zbW;intro hn;have hn:listed.getD k false=false:=by simpa using hn
      have hko:ops[k]? =some (ops[k]'hk):=zaz _;have:k∈Region.ready .any ops listed:=by
       refine mem_ready.2 ⟨by rw[k8 (by omega)];exact hn,_,hko,fun e he hb=> ?_⟩;have hlt:=(dg hC.stat hko).1 e he hb;exact ihk e.on hlt (by omega)
      rw[sD]at this;cases this
    obtain⟨h1,h2,h3,h4⟩:=hI.done hC hfr oX kQ;exact hQ f a w h1 h2 h3 h4
  . obtain⟨g1,o,ho,hr⟩:=mem_ready.1 hi;have hio:i<ops.size:=(zaI.1 ho).1;have hpi:listed.getD i false=false:=by rw[<-k8 (by omega)];exact g1
    have ub:=hI.step oX hcl hC hfr ho hpi (fun e he hb=>hr e he hb) (Q:=Q);refine wpOp_mono ?_ ub
    rintro a' w' ⟨f',m',hI'⟩
    have hlu:=IC (i:=i) (listed:=listed) (by omega);refine ih _ f' m' a' w' (by simpa using hsz) ?_ (by rw[hlu];exact hI');have:=(KI (fun j=>listed.getD j false) i hpi (List.range ops.size)).2 (by simpa using hio);unfold pending at hc⊢;have e:(List.range ops.size).countP (fun j=> !(listed.setIfInBounds i true).getD j false)=(List.range ops.size).countP (fun j=> !upd (fun j=>listed.getD j false) i j):=by
     rw[<-hlu]
    rw[e];omega
theorem Gf (sE:P.follows .mixedOrders=true) (hcl:Bh P cl) (hfr:iq cl) {ops:Array Oper} {fr:List Value} {H:ag} {s':St} {id:Nat}
 (hR:R f H w) (hF:FR f fr a) (bo:∀j,H.size<=j->j<s'.hp.size->f j=none) (h:ma P L cl ops ⟨fr,H⟩=some s') {Q:Exit->Act->World->Prop}
 (hQ:∀f' w' a',Stp f H w f' s'.hp w'->R f' s'.hp w'->FR f' s'.fr a'->a'.defers=a.defers->Q .normal a' w'):(Code.region id ops true).wp P Q a w:=by
 unfold ma at h
 split at h
 . cases h
 . rename_i hst
   split at h
   . rename_i s2 rs vN
     split at h
     . rename_i lx;cases h;obtain⟨hlen,_,S,hS0,hSn,ub⟩:=nk ops.toList 0 ⟨fr,H⟩ [] s' rs rfl vN;have hC:Can P L cl ops (Region.before ops) ⟨fr,H⟩ s' rs S:=by
        refine⟨by simpa using hlen,hS0,by simpa using hSn, ?_,hst,lx⟩;intro i o ho;have:=ub i o (by simpa using ho);simpa only[zaF]using this
       have e0:(S 0).hp=H:=by rw[hS0]
       have en:(S ops.size).hp=s'.hp:=by rw[hC.fin]
       have oX:(S 0).hp.lock<=sz S 0:=by unfold sz;rw[e0];exact hR.lk
       refine wp_region_any sE ?_
       obtain⟨m,m1,m2,m3,m4⟩:=Hw rs ops.size ops.size 0 (by omega);have hp0:∀j,(Array.replicate ops.size false).getD j false=false:=by
        intro j;simp only[zba]
        by_cases hj:j<ops.size
        . simp[hj]
        . simp[hj]
       have fH:∀a b,a<=b->b<=ops.size->sz S a<=sz S b:=fun a b h1 h2=>hC.oh hfr h1 h2
       have hFr:=hC.jk hfr m 0 (by omega) m2;have ju:∀x b,(Mh S rs (fun j=>(Array.replicate ops.size false).getD j false) m).get x=some b->(S 0).hp.get x=some b:=by
        intro x b hx;rw[hC.la m2]at hx;obtain⟨h1,h2,h3,h4⟩:=hx
        by_cases hlt:x<sz S 0
        . have:=hC.jU hfr m 0 (by omega) m2 (fun k _ hk=>m4 k (by omega) hk) x hlt;unfold ag.get;rw[if_pos (show x<(S 0).hp.size from hlt),h3,if_neg (by simp),<-this];exact h2
        . exfalso;obtain⟨k,k1,k2,k3,k4⟩:=Lg (sz S) x m 0 (by omega) (by omega) h1;exact h4 k k2 (hp0 k) ⟨k3,k4⟩
       have j8:(Mh S rs (fun j=>(Array.replicate ops.size false).getD j false) m).lock=(S 0).hp.lock:=yl hC hfr m2;refine NL (f0:=f) (w0:=w) (a0:=a) oX hcl hC hfr (fun f' a' w' h1 h2 h3 h4=>hQ f' w' a' h1 h2 h3 h4) ops.size _ f m a _ (by simp) ?_ ?_
       . unfold pending;exact zaP List.countP_le_length (by simp)
       . have hRd:R f H {w with drawn:=w.drawn+1}:=hR.drew;refine⟨m2,fun hm=>⟨m3 hm,hp0 m⟩,fun j hj hl=>absurd hl (m4 j (by omega) hj),fun i o _ hp=> ?_, ?_,hF.size,rfl, ?_, ?_,.refl f,fun _ _=>rfl, ?_,zap _,rfl,rfl,rfl,fun _ _ _=>rfl, ?_,⟨fun k hk=> ?_,fun k _ _ _ hk=> ?_⟩⟩
         . have hp':(Array.replicate ops.size false).getD i false=true:=hp;rw[hp0 i]at hp';cases hp'
         . have afx:R f (S 0).hp {w with drawn:=w.drawn+1}:=by rw[e0];exact hRd
           exact afx.sub ju (by rw[j8]) (by rw[j8];exact zaP oX (fH 0 m (by omega) m2))
         . intro t k q r _ _ _ hp;have hp':(Array.replicate ops.size false).getD k false=true:=hp;rw[hp0 k]at hp';cases hp'
         . intro t _;exact hF.val t
         . intro k hk _ x hx1 hx2;refine bo x ?_ ?_
           . have:=fH 0 k (by omega) (by omega);unfold sz at this hx1;rw[e0]at this;omega
           . have:=fH (k+1) ops.size (by omega) (by omega);unfold sz at this hx2;rw[en]at this;omega
         . intro cb _ h2;exact nF ju (by rw[j8]) h2
         . exact absurd (hk.2.2.1.symm.trans (hp0 k)) (by decide)
         . exact absurd (hk.2.2.1.symm.trans (hp0 k)) (by decide)
     . cases h
   . cases h
def aen:Ex->Exit
 | .normal=> .normal
 | .exit id=> .exit id
 | .ret=> .ret
def zw (f:Fm) (H:ag) (w:World) (a:Act) (ex:Ex) (s':St) (e:Exit) (a':Act) (w':World):Prop:=
 e=aen ex/\∃f',Stp f H w f' s'.hp w'/\R f' s'.hp w'/\FR f' s'.fr a'/\a'.defers=a.defers
def Pk (P:Program) (c:Code) (s:St) (ex:Ex) (s':St):Prop:=
 ∀(f:Fm) (a:Act) (w:World),R f s.hp w->FR f s.fr a->(∀j,s.hp.size<=j->j<s'.hp.size->f j=none)->c.wp P (zw f s.hp w a ex s') a w
theorem Jd (hfr:iq cl) {s s':St} (h:ma P L cl ops s=some s'):s.hp.size<=s'.hp.size:=by
 unfold ma at h
 split at h
 . cases h
 . rename_i hst
   split at h
   . rename_i s2 rs vN
     split at h
     . rename_i lx;cases h;obtain⟨hlen,_,S,hS0,hSn,ub⟩:=nk ops.toList 0 s [] s' rs rfl vN;have hC:Can P L cl ops (Region.before ops) s s' rs S:=by
        refine⟨by simpa using hlen,hS0,by simpa using hSn, ?_,hst,lx⟩;intro i o ho;have:=ub i o (by simpa using ho);simpa only[zaF]using this
       have:=hC.oh hfr (zbt ops.size) (zap _);unfold sz at this;rw[hC.ini,hC.fin]at this;exact this
     . cases h
   . cases h
theorem NX (hfr:iq cl):∀(l:List Oper) (s s':St),lG P cl ops l s=some s'->s.hp.size<=s'.hp.size:=by
 intro l
 induction l with
 |nil=>intro s s' h;simp[lG]at h;subst h;exact zap _
 |cons q l ihk=>
  intro s s' h;simp only[lG]at h
  split at h
  . split at h
    . rename_i hq;exact zaP (pA hfr hq).size (ihk _ _ h)
    . cases h
  . have:=ihk _ _ h;exact this
theorem zZ {body:St->Option (Ex × St)} (hb:∀s ex s',body s=some (ex,s')->s.hp.size<=s'.hp.size):∀(n:Nat) (s:St) (ex:Ex) (s':St),kp n body s=some (ex,s')->s.hp.size<=s'.hp.size:=by
 intro n
 induction n with
 |zero=>intro s ex s' h;simp[kp]at h
 |succ n ih=>
  intro s ex s' h;simp only[kp]at h
  split at h
  . rename_i s1 h1;exact zaP (hb _ _ _ h1) (ih _ _ _ h)
  . exact hb _ _ _ h
theorem rJ (hfr:iq cl) (N:Nat):∀(c:Code) (s:St) (ex:Ex) (s':St),bh P L cl N c s=some (ex,s')->s.hp.size<=s'.hp.size:=by
 intro c
 induction c with
 |skip=>intro s ex s' h;simp[bh]at h;rw[<-h.2];exact zap _
 |region id ops d=>
  intro s ex s' h;simp only[bh]at h
  split at h
  . simp only[zai]at h;obtain⟨s1,h1,h2⟩:=h;cases h2;exact NX hfr _ _ _ h1
  . simp only[zai]at h;obtain⟨s1,h1,h2⟩:=h;cases h2;exact Jd hfr h1
 |seq x y ihx ihy=>
  intro s ex s' h;simp only[bh]at h
  split at h
  . rename_i s1 h1;exact zaP (ihx _ _ _ h1) (ihy _ _ _ h)
  . exact ihx _ _ _ h
 |cond c x y ihx ihy=>
  intro s ex s' h;simp only[bh]at h
  split at h
  . exact ihx _ _ _ h
  . exact ihy _ _ _ h
  . cases h
 |block id b ih=>
  intro s ex s' h;simp only[bh]at h
  split at h
  . rename_i k s1 h1;have:=ih _ _ _ h1
    split at h<;>(cases h;exact this)
  . exact ih _ _ _ h
 |loop b ih=>
  intro s ex s' h;simp only[bh]at h;exact zZ ih _ _ _ _ h
 |rangeFunc f ps x y=>intro s ex s' h;simp[bh]at h
 |exit id=>intro s ex s' h;simp[bh]at h;rw[<-h.2];exact zap _
 |scope b=>intro s ex s' h;simp[bh]at h
 |label l=>intro s ex s' h;simp[bh]at h;rw[<-h.2];exact zap _
 |goto l=>intro s ex s' h;simp[bh]at h
 |ret=>intro s ex s' h;simp[bh]at h;rw[<-h.2];exact zap _
 |refuse y=>intro s ex s' h;simp[bh]at h
theorem Hj {c:Code} {Q Q':Exit->Act->World->Prop} (hq:∀e a w,Q e a w->Q' e a w):∀(n:Nat) (a:Act) (w:World),Code.rounds P c Q n a w->Code.rounds P c Q' n a w:=by
 intro n
 induction n with
 |zero=>intro a w h;exact h
 |succ n ih=>
  intro a w h;show c.wp P (Exit.then (Code.rounds P c Q' n) Q') a w;refine wp_mono (show c.wp P (Exit.then (Code.rounds P c Q n) Q) a w from h) ?_
  intro e a1 w1 h1;cases e with
  |normal=>exact ih a1 w1 h1
  |exit id=>exact hq _ _ _ h1
  |goto l=>exact hq _ _ _ h1
  |ret=>exact hq _ _ _ h1
  |panic ch=>exact hq _ _ _ h1
  |outgrown=>exact hq _ _ _ h1
theorem Gj {body:Code} {bodyE:St->Option (Ex × St)} (hsz:∀s ex s',bodyE s=some (ex,s')->s.hp.size<=s'.hp.size)
 (hb:∀s ex s',bodyE s=some (ex,s')->Pk P body s ex s'):∀(n:Nat) (s:St) (ex:Ex) (s':St),kp n bodyE s=some (ex,s')->
 ∀(f:Fm) (a:Act) (w:World),R f s.hp w->FR f s.fr a->(∀j,s.hp.size<=j->j<s'.hp.size->f j=none)->Code.rounds P body (zw f s.hp w a ex s') n a w:=by
 intro n
 induction n with
 |zero=>intro s ex s' h;simp[kp]at h
 |succ n ih=>
  intro s ex s' h f a w hR hF bo;simp only[kp]at h;show body.wp P (Exit.then (Code.rounds P body (zw f s.hp w a ex s') n) (zw f s.hp w a ex s')) a w
  split at h
  . rename_i s1 h1;have hs1:=hsz _ _ _ h1;have hs2:=zZ hsz n _ _ _ h;refine wp_mono (hb _ _ _ h1 f a w hR hF (fun j h2 h3=>bo j h2 (by omega))) ?_
    rintro e a1 w1 ⟨rfl,f1,hS,hR1,hF1,hd⟩
    show Code.rounds P body (zw f s.hp w a ex s') n a1 w1;have:=ih s1 ex s' h f1 a1 w1 hR1 hF1 (fun j h2 h3=>by rw[hS.out j (by omega)];exact bo j (by omega) h3);refine Hj ?_ n a1 w1 this
    rintro e2 a2 w2 ⟨rfl,f2,hS2,hR2,hF2,hd2⟩
    exact⟨rfl,f2,hS.trans hS2,hR2,hF2,by rw[hd2,hd]⟩
  . rename_i hnn;refine wp_mono (hb _ _ _ h f a w hR hF bo) ?_
    rintro e a1 w1 ⟨rfl,h2⟩
    cases ex with
    |normal=>exact absurd h (hnn s')
    |exit id=>exact⟨rfl,h2⟩
    |ret=>exact⟨rfl,h2⟩
theorem HP (sE:P.follows .mixedOrders=true) (hcl:Bh P cl) (hfr:iq cl) (N:Nat):∀(c:Code) (s:St) (ex:Ex) (s':St),bh P L cl N c s=some (ex,s')->Pk P c s ex s':=by
 intro c
 induction c with
 |skip=>
  intro s ex s' h f a w hR hF bo;simp[bh]at h;obtain⟨rfl,rfl⟩:=h;exact wp_skip ⟨rfl,f,.refl f _ w,hR,hF,rfl⟩
 |region id ops d=>
  intro s ex s' h f a w hR hF bo;simp only[bh]at h
  split at h
  . simp only[zai]at h;obtain⟨s1,h1,h2⟩:=h;cases h2;refine wp_region ?_
    have:=J4 hcl hfr (Q:=zw f s.hp w a .normal s') ops.toList 0 s.fr s.hp f w a s' (by simp) hR hF bo h1 (fun f' w' a' g1 g2 g3 g4=>⟨rfl,f',g1,g2,g3,g4⟩);simpa using this
  . simp only[zai]at h;obtain⟨s1,h1,h2⟩:=h;cases h2;exact Gf sE hcl hfr hR hF bo h1 (fun f' w' a' g1 g2 g3 g4=>⟨rfl,f',g1,g2,g3,g4⟩)
 |seq x y ihx ihy=>
  intro s ex s' h f a w hR hF bo;simp only[bh]at h;refine wp_seq ?_
  split at h
  . rename_i s1 h1;have hs1:=rJ hfr N _ _ _ _ h1;have hs2:=rJ hfr N _ _ _ _ h;refine wp_mono (ihx _ _ _ h1 f a w hR hF (fun j h2 h3=>bo j h2 (by omega))) ?_
    rintro e a1 w1 ⟨rfl,f1,hS,hR1,hF1,hd⟩
    show y.wp P (zw f s.hp w a ex s') a1 w1;refine wp_mono (ihy _ _ _ h f1 a1 w1 hR1 hF1 (fun j h2 h3=>by rw[hS.out j (by omega)];exact bo j (by omega) h3)) ?_
    rintro e2 a2 w2 ⟨rfl,f2,hS2,hR2,hF2,hd2⟩
    exact⟨rfl,f2,hS.trans hS2,hR2,hF2,by rw[hd2,hd]⟩
  . rename_i hnn;refine wp_mono (ihx _ _ _ h f a w hR hF bo) ?_
    rintro e a1 w1 ⟨rfl,h2⟩
    cases ex with
    |normal=>exact absurd h (hnn s')
    |exit id=>exact⟨rfl,h2⟩
    |ret=>exact⟨rfl,h2⟩
 |cond c x y ihx ihy=>
  intro s ex s' h f a w hR hF bo;simp only[bh]at h
  split at h
  . rename_i hc;have hv:=hF.dW hc;cases hx:a.eval c<;>rw[hx]at hv<;>try (cases hv;done)
    cases hv;exact wp_cond_true hx (ihx _ _ _ h f a w hR hF bo)
  . rename_i hc;have hv:=hF.dW hc;cases hx:a.eval c<;>rw[hx]at hv<;>try (cases hv;done)
    cases hv;exact wp_cond_false hx (ihy _ _ _ h f a w hR hF bo)
  . cases h
 |block id b ih=>
  intro s ex s' h f a w hR hF bo;simp only[bh]at h;refine wp_block ?_
  split at h
  . rename_i k s1 h1
    split at h
    . rename_i hk;cases h;refine wp_mono (ih _ _ _ h1 f a w hR hF bo) ?_
      rintro e a1 w1 ⟨rfl,h2⟩
      show(if k=id then zw f s.hp w a .normal s' .normal a1 w1 else zw f s.hp w a .normal s' (.exit k) a1 w1);rw[if_pos hk];exact⟨rfl,h2⟩
    . rename_i hk;cases h;refine wp_mono (ih _ _ _ h1 f a w hR hF bo) ?_
      rintro e a1 w1 ⟨rfl,h2⟩
      show(if k=id then zw f s.hp w a (.exit k) s' .normal a1 w1 else zw f s.hp w a (.exit k) s' (.exit k) a1 w1);rw[if_neg hk];exact⟨rfl,h2⟩
  . rename_i hne;refine wp_mono (ih _ _ _ h f a w hR hF bo) ?_
    rintro e a1 w1 ⟨rfl,h2⟩
    cases ex with
    |normal=>exact⟨rfl,h2⟩
    |exit k=>exact absurd h (hne k s')
    |ret=>exact⟨rfl,h2⟩
 |loop b ih=>
  intro s ex s' h f a w hR hF bo;simp only[bh]at h;exact wp_loop_rounds N (Gj (fun s ex s' hh=>rJ hfr N b s ex s' hh) ih N s ex s' h f a w hR hF bo)
 |rangeFunc f ps x y=>intro s ex s' h;simp[bh]at h
 |exit id=>
  intro s ex s' h f a w hR hF bo;simp[bh]at h;obtain⟨rfl,rfl⟩:=h;exact wp_exit ⟨rfl,f,.refl f _ w,hR,hF,rfl⟩
 |scope b=>intro s ex s' h;simp[bh]at h
 |label l=>
  intro s ex s' h f a w hR hF bo;simp[bh]at h;obtain⟨rfl,rfl⟩:=h;exact wp_label ⟨rfl,f,.refl f _ w,hR,hF,rfl⟩
 |goto l=>intro s ex s' h;simp[bh]at h
 |ret=>
  intro s ex s' h f a w hR hF bo;simp[bh]at h;obtain⟨rfl,rfl⟩:=h;exact wp_ret ⟨rfl,f,.refl f _ w,hR,hF,rfl⟩
 |refuse y=>intro s ex s' h;simp[bh]at h
end
end
end Go.Proofs.YtfaojedfnjdnnaaGreat.Ev
namespace Go.Proofs.YtfaojedfnjdnnaaGreat.Ev
noncomputable section
open Go
open Go.RowKit (Below)
section
variable {P : Program} {L : List FuncId} {O : bp}
theorem G2 {cl:FuncId->List Value->ag->Option (Value × ag)} (hfr:iq cl) (N:Nat):∀(c:Code) (s:St) (ex:Ex) (s':St),bh P L cl N c s=some (ex,s')->Fr s.hp s'.hp:=by
 have afy:∀(ops:Array Oper) (l:List Oper) (s s':St),lG P cl ops l s=some s'->Fr s.hp s'.hp:=by
  intro ops l
  induction l with
  |nil=>intro s s' h;simp[lG]at h;subst h;exact .refl _
  |cons q l ihk=>
   intro s s' h;simp only[lG]at h
   split at h
   . split at h
     . rename_i hq;exact(pA hfr hq).trans (ihk _ _ h)
     . cases h
   . have:=ihk _ _ h;exact this
 have adt:∀(ops:Array Oper) (s s':St),ma P L cl ops s=some s'->Fr s.hp s'.hp:=by
  intro ops s s' h;unfold ma at h
  split at h
  . cases h
  . rename_i hst
    split at h
    . rename_i s2 rs vN
      split at h
      . rename_i lx;cases h;obtain⟨hlen,_,S,hS0,hSn,ub⟩:=nk ops.toList 0 s [] s' rs rfl vN;have hC:Can P L cl ops (Region.before ops) s s' rs S:=by
         refine⟨by simpa using hlen,hS0,by simpa using hSn, ?_,hst,lx⟩;intro i o ho;have:=ub i o (by simpa using ho);simpa only[zaF]using this
        have:=hC.jk hfr ops.size 0 (zbt _) (zap _);rw[hC.ini,hC.fin]at this;exact this
      . cases h
    . cases h
 have adu:∀(body:St->Option (Ex × St)),(∀s ex s',body s=some (ex,s')->Fr s.hp s'.hp)->∀(n:Nat) (s:St) (ex:Ex) (s':St),kp n body s=some (ex,s')->Fr s.hp s'.hp:=by
  intro body hb n
  induction n with
  |zero=>intro s ex s' h;simp[kp]at h
  |succ n ih=>
   intro s ex s' h;simp only[kp]at h
   split at h
   . rename_i s1 h1;exact(hb _ _ _ h1).trans (ih _ _ _ h)
   . exact hb _ _ _ h
 intro c
 induction c with
 |skip=>intro s ex s' h;simp[bh]at h;rw[<-h.2];exact .refl _
 |region id ops d=>
  intro s ex s' h;simp only[bh]at h
  split at h
  . simp only[zai]at h;obtain⟨s1,h1,h2⟩:=h;cases h2;exact afy _ _ _ _ h1
  . simp only[zai]at h;obtain⟨s1,h1,h2⟩:=h;cases h2;exact adt _ _ _ h1
 |seq x y ihx ihy=>
  intro s ex s' h;simp only[bh]at h
  split at h
  . rename_i s1 h1;exact(ihx _ _ _ h1).trans (ihy _ _ _ h)
  . exact ihx _ _ _ h
 |cond c x y ihx ihy=>
  intro s ex s' h;simp only[bh]at h
  split at h
  . exact ihx _ _ _ h
  . exact ihy _ _ _ h
  . cases h
 |block id b ih=>
  intro s ex s' h;simp only[bh]at h
  split at h
  . rename_i k s1 h1;have:=ih _ _ _ h1
    split at h<;>(cases h;exact this)
  . exact ih _ _ _ h
 |loop b ih=>
  intro s ex s' h;simp only[bh]at h;exact adu _ ih _ _ _ _ h
 |rangeFunc f ps x y=>intro s ex s' h;simp[bh]at h
 |exit id=>intro s ex s' h;simp[bh]at h;rw[<-h.2];exact .refl _
 |scope b=>intro s ex s' h;simp[bh]at h
 |label l=>intro s ex s' h;simp[bh]at h;rw[<-h.2];exact .refl _
 |goto l=>intro s ex s' h;simp[bh]at h
 |ret=>intro s ex s' h;simp[bh]at h;rw[<-h.2];exact .refl _
 |refuse y=>intro s ex s' h;simp[bh]at h
theorem GH (hO:iq O):∀n,iq (bJ P L O n):=by
 intro n
 induction n with
 |zero=>intro g args H v H' h;simp[bJ]at h
 |succ n ih=>
  intro g args H v H' h;have hen:oB P L (bJ P L O n) n g args H=some (v,H')->Fr H H':=by
   intro h;unfold oB at h
   split at h
   . split at h
     . split at h
       . rename_i s h1;simp only[zai,zaT]at h;obtain⟨vs,_,_,h3⟩:=h;rw[<-h3];exact G2 ih n _ _ _ _ h1
       . rename_i s h1;simp only[zai,zaT]at h;obtain⟨vs,_,_,h3⟩:=h;rw[<-h3];exact G2 ih n _ _ _ _ h1
       . cases h
     . cases h
   . cases h
  cases ho:O g args H with
  |none=>rw[pT ho]at h;exact hen h
  |some u=>rw[mv ho]at h;cases h;exact hO _ _ _ _ _ ho
theorem BK {f:Fm} {H:ag} {w:World} {fr:List Value} {a:Act} (hR:R f H w) (hF:FR f fr a):∀(rv:List ResultVar) (vs:List Value),fI P H fr rv=some vs->
 ∃vs',(rv.mapM fun| .tmp t=>pure (a.tmps.getD t undef)| .cell ad t=>do loadVar t (<-asAddr (a.tmps.getD ad undef)):Sem (List Value)).run P w= .ok vs' w/\VL f vs vs':=by
 intro rv
 induction rv with
 |nil=>intro vs h;simp[fI]at h;subst h;exact⟨[],by simp,.nil f⟩
 |cons r rv ih=>
  intro vs h;cases r with
  |tmp t=>
   simp only[fI]at h
   split at h
   . rename_i us hus;cases h;obtain⟨vs',h1,h2⟩:=ih us hus;refine⟨a.tmps.getD t undef::vs', ?_,.cons (hF.val t) h2⟩;simp only[List.mapM_cons,Sem.run_bind,Sem.run_pure,Result.andThen_ok,h1]
   . cases h
  |cell ad t=>
   simp only[fI]at h
   split at h
   . rename_i v us hv hus;cases h;obtain⟨vs',h1,h2⟩:=ih us hus;have hp:=hF.val ad;obtain⟨v',h3,h4⟩:=pH hR hp hv;refine⟨v'::vs', ?_,.cons h4 h2⟩;have h5:(do loadVar t (<-asAddr (a.tmps.getD ad undef)):Sem Value).run P w= .ok v' w:=by
      generalize a.tmps.getD ad undef=q at h3 hp⊢;generalize fr.getD ad undef=q0 at hv hp;cases hp<;>try (simp[cI]at hv;done)
      simpa[Instr.loadAt,Instr.sureAddr,asAddr]using h3
     simp only[List.mapM_cons,Sem.run_bind,h5,Result.andThen_ok,h1,Sem.run_pure]
   . cases h
structure eB (P : Program) (g : FuncId) (args : List Value) (v : Value) : Prop where
 fn:∃fn c,P.funcs[g]? =some fn/\fn.body=some c/\fn.name≠ "runtime.NumGoroutine"
 calls:∀(f:Fm) (jt:List Value) (w:World),VL f args jt->Calls P g jt.toArray w fun e w'=>∃v',e= .returned v'/\V f v v'/\Below w.heap.size w w'
theorem R.below {f:Fm} {H:ag} {w w':World} (hR:R f H w) (hb:Below w.heap.size w w'):Stp f H w f H w'/\R f H w':=by
 refine⟨⟨.refl f,fun _ _=>rfl,zap _,rfl,rfl,fun _ _ _=>rfl,hb.size,hb.os,hb.tape,hb.output,fun cb h _=>hb.block cb h,fun _ _ h=>h⟩, ?_, ?_,hR.lk,hR.inj⟩
 . intro x b hx;obtain⟨l,C,e,fr,h1,h2,h3⟩:=hR.blk x b hx;exact⟨l,C,e,fr,h1,by rw[hb.block l.blk (hR.big x l h1)];exact h2,h3⟩
 . intro x l hx;exact zaD (hR.big x l hx) hb.size
theorem eB.XW {g:FuncId} {args:List Value} {v:Value} (hT:eB P g args v) (H:ag):QX P g args H v H:=by
 refine⟨hT.fn,fun f w jt hR _ hvl=> ?_⟩;refine Calls.mono (hT.calls f jt w hvl) ?_
 rintro e w' ⟨v',rfl,hV,hb⟩
 obtain⟨h1,h2⟩:=hR.below hb;exact⟨f,v',rfl,hV,h1,h2⟩
structure lO (P : Program) (O : bp) : Prop where
 fr:iq O
 ok:Bh P O
theorem wv (sE:P.follows .mixedOrders=true) (nZ:∀(g:FuncId) (fn:Func) (c:Code),P.funcs[g]? =some fn->fn.body=some c->fn.name≠ "runtime.NumGoroutine")
 (hO:lO P O):∀n,Bh P (bJ P L O n):=by
 intro n
 induction n with
 |zero=>intro g args H v H' h;simp[bJ]at h
 |succ n ih=>
  intro g args H v H' h;cases ht:O g args H with
  |none=>
   rw[pT ht]at h;unfold oB at h;cases hfn:P.funcs[g]? with
   |none=>simp[hfn]at h
   |some fn=>
    cases BA:fn.body with
    |none=>simp[hfn,BA]at h
    |some c=>
     simp only[hfn,BA]at h;refine⟨⟨fn,c,hfn,BA,nZ g fn c hfn BA⟩,fun f w jt hR bo hvl=> ?_⟩;have key:∀(ex:Ex) (s:St),(ex= .normal\/ex= .ret)->bh P L (bJ P L O n) n c ⟨args++List.replicate (fn.ntmps-args.length) undef,H⟩=some (ex,s)->
      (fI P s.hp s.fr fn.results.toList).map (fun vs=>(lC vs,s.hp))=some (v,H')->
      Calls P g jt.toArray w fun e w'=>∃f' v',e= .returned v'/\V f' v v'/\Stp f H w f' H' w'/\R f' H' w':=by
      intro ex s hex adv Om;simp only[zai,zaT]at Om;obtain⟨vs,hvs,adw,hH⟩:=Om;subst hH;refine calls_of_wp hfn BA ?_
      have hF:FR f (args++List.replicate (fn.ntmps-args.length) undef) {tmps:=jt.toArray++Array.replicate (fn.ntmps-jt.toArray.size) undef,defers:=[]}:=by
       have hl:=hvl.1;refine⟨by simp[hl],fun t=> ?_⟩;simp only[zaf,zba];rw[zaU,Array.getElem?_append]
       by_cases ht:t<args.length
       . have ht':t<jt.length:=by omega
         rw[if_pos ht,if_pos (by simpa using ht')];simp only[List.getElem?_toArray];rw[zah ht,zah ht'];exact hvl.2 t _ _ (zah ht) (zah ht')
       . rw[if_neg ht,if_neg (by simp;omega)];simp only[zcc,<-hl]
         by_cases h2:t-args.length<fn.ntmps-args.length
         . simp[h2];exact V.undef f
         . simp[h2];exact V.undef f
      refine wp_mono (HP sE ih (GH hO.fr n) n c _ ex s adv f _ w hR hF bo) ?_
      rintro e a1 w1 ⟨rfl,f1,hS,hR1,hF1,hd⟩
      have adx:a1.defers=[]/\∃v',(results fn a1.tmps).run P w1= .ok v' w1/\∃f' v'',Ending.returned v'= .returned v''/\V f' v v''/\Stp f H w f' s.hp w1/\R f' s.hp w1:=by
       refine⟨hd, ?_⟩;obtain⟨vs',h1,h2⟩:=BK hR1 hF1 _ vs hvs;have h3:(results fn a1.tmps).run P w1= .ok (if h:vs'.toArray.size=1 then vs'.toArray[0]else .tuple vs'.toArray) w1:=by
        unfold results;simp only[Sem.run_bind,Array.mapM_eq_mapM_toList];rw[Sem.run_map];exact zcm (fun r=>Result.andThen (Result.andThen r fun a w'=>Result.ok a.toArray w') fun a w'=>Sem.run P (pure (if h:a.size=1 then a[0]else Value.tuple a)) w') h1
       refine⟨_,h3,f1,_,rfl, ?_,hS,hR1⟩;rw[<-adw];unfold lC
       split
       . rename_i u;obtain⟨u',rfl,hu⟩:=h2.one;simpa using hu
       . rename_i hne;have hsz:¬vs'.toArray.size=1:=by
          intro h5;have h6:=h2.1;simp at h5;rw[h5]at h6
          match vs,h6 with
          |[u],_=>exact hne u rfl
         rw[dif_neg hsz];exact .tuple _ _ (by simpa using h2.1) (fun i u u' e1 e2=>h2.2 i u u' (by simpa using e1) (by simpa using e2))
      rcases hex with rfl|rfl
      . exact adx
      . exact adx
     split at h
     . rename_i s h1;exact key _ s (.inl rfl) h1 h
     . rename_i s h1;exact key _ s (.inr rfl) h1 h
     . cases h
  |some u=>
   rw[mv ht]at h;cases h;exact hO.ok _ _ _ _ _ ht
end
end
end Go.Proofs.YtfaojedfnjdnnaaGreat.Ev
namespace Go.Proofs.YtfaojedfnjdnnaaGreat.Ev
noncomputable section
open Go
open Go.RowKit (Below)
section
variable {P : Program} {L : List FuncId} {O : bp}
def oG (P:Program):Bool:=P.funcs.toList.all fun fn=>fn.body.isNone||fn.name != "runtime.NumGoroutine"
theorem Hd (h:oG P=true):∀(g:FuncId) (fn:Func) (c:Code),P.funcs[g]? =some fn->fn.body=some c->fn.name≠ "runtime.NumGoroutine" :=by
 intro g fn c hg hc;have hm:fn∈P.funcs.toList:=by
  have:=zaQ (l:=P.funcs.toList) (i:=g) (a:=fn) (by simpa using hg);exact this
 have:=zam.1 h fn hm;rw[hc]at this;simpa using this
def nil:ag:=⟨0,.e,0,[]⟩
theorem R.nil (w:World):R (fun _=>none) nil w:=by
 refine⟨fun x b h=> ?_,(fun x l h=>by cases h),zap _,fun x y b c l m h=> ?_⟩
 . have:=ag.aZ h;simp[Ev.nil]at this
 . have:=ag.aZ h;simp[Ev.nil]at this
theorem Sv (sE:P.follows .mixedOrders=true) (nZ:oG P=true) (hO:lO P O) {n:Nat} {g:FuncId} {args:List Value} {H H':ag} {b:Bool}
 (h:bJ P L O n g args H=some (.bool b,H')) {f:Fm} {w:World} {jt:List Value} (hR:R f H w) (hl:H.lock=H.size) (bo:∀j,H.size<=j->f j=none) (hv:VL f args jt):
 Calls P g jt.toArray w fun e w'=>e= .returned (.bool b)/\Below w.heap.size w w':=by
 obtain⟨_,hc⟩:=wv sE (Hd nZ) hO n g args H _ H' h;refine(hc f w jt hR (fun j h1 _=>bo j h1) hv).mono ?_
 rintro e w' ⟨f',v',rfl,hV,hS,hR'⟩
 cases hV;refine⟨rfl,hS.os,hS.tape,hS.output,hS.gu,fun k hk=>hS.fJ k hk ?_⟩
 rintro⟨x,b,l,h1,h2,_⟩
 have:=ag.aZ h1;rw[aO]at h2;omega
def yes (r:Option (Value × ag)):Bool:=match r with|some (.bool b,_)=>b|_=>false
def ni:Value->Bool
 | .bool _=>true
 | .int .. =>true
 |_=>false
def plain:Value->Bool
 | .agg cs=>cs.toList.all ni
 |v=>ni v
theorem NM {f:Fm} {v v':Value} (h:ni v=true) (hv:V f v v'):v'=v:=by
 cases hv<;>first|rfl|(simp[ni]at h;done)
theorem PC (f:Fm) {v:Value} (h:ni v=true):V f v v:=by
 cases v<;>first|(simp[ni]at h;done)|constructor
theorem El (f:Fm) {v:Value} (h:plain v=true):V f v v:=by
 cases v with
 |agg cs=>
  simp only[plain,zam]at h;refine .agg _ _ rfl (fun i u hu=> ?_) (fun i u u' h1 h2=> ?_)
  . have:=h u (zaQ (i:=i) (by simpa using hu));cases u<;>simp_all [ni,bj]
  . rw[h1]at h2;cases h2;exact PC f (h u (zaQ (i:=i) (by simpa using h1)))
 |bool b=>exact .bool b
 |int k n=>exact .int k n
 |_=>simp[plain,ni]at h
theorem y8 {f:Fm} {v v':Value} (h:plain v=true) (hv:V f v v'):v'=v:=by
 cases hv with
 |agg x x' hx hc vx=>
  congr 1
  simp only[plain,zam]at h;apply Array.ext hx.symm;intro i h1 h2;have h3:x[i]? =some x[i]:=zaz h2;have h4:x'[i]? =some x'[i]:=zaz h1;exact NM (h x[i] (zaQ (i:=i) (by simp))) (vx i _ _ h3 h4)
 |_=>first|rfl|(simp[plain,ni]at h;done)
theorem Nu {f:Fm} {vs vs':List Value} (h:vs.all plain=true) (hv:VL f vs vs'):vs'=vs:=by
 apply zby;intro i
 by_cases hi:i<vs.length
 . have hi':i<vs'.length:=by rw[<-hv.1];exact hi
   have h1:=zah hi;have h2:=zah hi';rw[h2,h1]
   congr 1
   exact y8 (zam.1 h _ (zbw hi)) (hv.2 i _ _ h1 h2)
 . have hi':¬i<vs'.length:=by rw[<-hv.1];exact hi
   rw[zaV (by omega),zaV (by omega)]
theorem RT (f:Fm) {vs:List Value} (h:vs.all plain=true):VL f vs vs:=
 ⟨rfl,fun i v v' h1 h2=>by rw[h1]at h2;cases h2;exact El f (zam.1 h v (zaQ h1))⟩
def eD:Value->Bool
 | .tuple vs=>vs.toList.all plain
 |v=>plain v
theorem O6 (f:Fm) {v:Value} (h:eD v=true):V f v v:=by
 cases v with
 |tuple vs=>
  simp only[eD,zam]at h;refine .tuple _ _ rfl (fun i u u' h1 h2=> ?_);rw[h1]at h2;cases h2;exact El f (h u (zaQ (i:=i) (by simpa using h1)))
 |_=>exact El f h
theorem No {f:Fm} {v v':Value} (h:eD v=true) (hv:V f v v'):v'=v:=by
 cases hv with
 |tuple x x' hx vx=>
  congr 1
  simp only[eD,zam]at h;apply Array.ext hx.symm;intro i h1 h2;have h3:x[i]? =some x[i]:=zaz h2;have h4:x'[i]? =some x'[i]:=zaz h1;exact y8 (h x[i] (zaQ (i:=i) (by simp))) (vx i _ _ h3 h4)
 |agg x x' hx hc vx=>exact y8 (v:= .agg x) h (.agg x x' hx hc vx)
 |_=>first|rfl|(simp[eD,plain,ni]at h;done)
theorem told (sE:P.follows .mixedOrders=true) (nZ:oG P=true) (hO:lO P O) {n:Nat} {g:FuncId} {args:List Value} {v:Value} {H':ag}
 (h:bJ P L O n g args nil=some (v,H')) (ha:args.all plain=true) (hv:eD v=true):eB P g args v:=by
 obtain⟨h1,hc⟩:=wv sE (Hd nZ) hO n g args nil _ H' h;refine⟨h1,fun f jt w hvl=> ?_⟩;have e:=Nu ha hvl;subst e;refine(hc (fun _=>none) w jt (R.nil w) (fun _ _ _=>rfl) (RT _ ha)).mono ?_
 rintro e w' ⟨f',v',rfl,hV,hS,hR'⟩
 have e:=No hv hV;subst e;refine⟨v',rfl,O6 f hv,hS.os,hS.tape,hS.output,hS.gu,fun k hk=>hS.fJ k hk ?_⟩
 rintro⟨x,b,l,h1,_⟩
 have:=ag.aZ h1;simp[Ev.nil]at this
section
open Go.ChangeShapes Go.WideShapes Go.RowKit
variable {H : Type} {enc : TypeId × Value -> H}
theorem MZ (hl:laidOutB P=true) {W W':World} (hb:Below W.heap.size W W'):∀(ts:List TypeId) (vs:List Value) (ds:List (DataW H)) (ps:List MemPlace),
 (∀t∈ts,P.readableRec t=true/\t<P.types.size)->DataW.TrodAll enc P W 0 (fun _=>true) true ts vs ds ps->(∀x∈ps,x.block<W.heap.size)->
 DataW.TrodAll enc P W' 0 (fun b=>decide (b<W.heap.size)) true ts vs ds ps:=by
 intro ts
 induction ts with
 |nil=>
  intro vs ds ps _ h _;obtain⟨rfl,rfl,rfl⟩:=trodAll_nil h;exact trodAll_mk0
 |cons t ts ih=>
  intro vs ds ps ht h hlt;obtain⟨v,vs',d,ds',p,q,rfl,rfl,h1,h2,rfl⟩:∃v vs' d ds' p q,vs=v::vs'/\ds=d::ds'/\DataW.Trod enc P W 0 (fun _=>true) true t v d p/\
   DataW.TrodAll enc P W 0 (fun _=>true) true ts vs' ds' q/\ps=p++q:=by
   cases vs with
   |nil=>cases ds<;>exact h.elim
   |cons v vs'=>
    cases ds with
    |nil=>exact h.elim
    |cons d ds'=>
     obtain⟨p,q,h1,h2,h3⟩:=h;exact⟨v,vs',d,ds',p,q,rfl,rfl,h1,h2,h3⟩
  obtain⟨hr,hs⟩:=ht t (by simp);exact⟨p,q,Below.trod hl hr hs h1 hb (fun x hx=>hlt x (by simp[hx])),ih vs' ds' q (fun u hu=>ht u (by simp[hu])) h2 (fun x hx=>hlt x (by simp[hx])),rfl⟩
theorem Ge (hl:laidOutB P=true) {fn:Func} {s:ChangeSpec} {tb:TypeId} {W W':World} {args:Array Value} {ds gs:List (DataW H)} {before:List MemPlace}
 (hW:DataW.Whole enc P fn.params.toList s.vars false W args.toList ds gs before) (WQ:s.vars=[]) (hb:Below W.heap.size W W') (Om:fn.resultTypes= #[tb]) (htb:P.underlying tb=some .bool)
 (ady:∀t∈fn.params.toList,P.readableRec t=true/\t<P.types.size) (hfn:s.fn H ds={results:=[.lit (.bool true)],args:=ds}):
 s.post enc P fn false true false false W args (.bool true) W':=by
 have hW0:=hW;obtain⟨p,q,h1,h2,h3,h4,h5⟩:=hW0;rw[WQ]at h2;obtain⟨hgs,hq⟩:gs=[]/\q=[]:=by
  cases gs with
  |nil=>exact⟨rfl,h2⟩
  |cons g gs=>exact h2.elim
 subst hgs;subst hq;rw[zaK]at h3;subst h3;have hlt:∀x∈before,x.block<W.heap.size:=fun x hx=>hW.lt x hx
 have hs:s.fn H (ds++[])={results:=[.lit (.bool true)],args:=ds}:=by rw[zaK];exact hfn
 refine⟨ds,[],before,[],before,[],hW, ?_, ?_, ?_, ?_,fun h=>by cases h⟩
 . rw[hs,Om];exact trodAll_cons_mk (shut_bool htb true) trodAll_mk0
 . rw[hs];exact MZ hl hb _ _ _ _ ady h1 hlt
 . rw[hs,WQ];rfl
 . exact World.keptBut_mono (fun x hx=>⟨hx,.inr (.inl hx)⟩) (hb.frame (·∈before))
end
end
end
end Go.Proofs.YtfaojedfnjdnnaaGreat.Ev
namespace Go.Proofs.YtfaojedfnjdnnaaGreat.Seat
noncomputable section
open Go Go.Proofs.YtfaojedfnjdnnaaGreat.Ev
theorem own:ownKnob Tryz.prog.godebug=none:=by kernel_rfl
theorem mix:Tryz.prog.follows .mixedOrders=true:=by kernel_rfl
theorem names:oG Tryz.prog=true:=by kernel_rfl
theorem laid:laidOutB Tryz.prog=true:=by kernel_rfl
end
end Go.Proofs.YtfaojedfnjdnnaaGreat.Seat
namespace Go.Proofs.YtfaojedfnjdnnaaGreat.Ev
noncomputable section
open Go
abbrev Cl:=FuncId->List Value->ag->Option (Value × ag)
def LeC (a b:Cl):Prop:=∀g args H r,a g args H=some r->b g args H=some r
section
variable {P : Program} {L : List FuncId} {cl cl' : Cl}
theorem nL (hl:LeC cl cl') {ρ:Operand->Option Value} {o:Oper} {H:ag} {r:Value × ag} (h:opE P cl ρ o H=some r):opE P cl' ρ o H=some r:=by
 unfold opE at h⊢
 split at h<;>try exact h
 split at h
 . rename_i tY
   (try rw[tY]);(try dsimp only)
   split at h
   . rename_i b hc;exact h
   . rename_i f hc;try dsimp only at h⊢
     split at h
     . rename_i g x y hf;exact hl _ _ _ _ h
     . cases h
   . cases h
 . cases h
theorem qT (hl:LeC cl cl') {ops:Array Oper}:∀{l:List Oper} {s:St} {r:St},lG P cl ops l s=some r->lG P cl' ops l s=some r
 |[],s,r,h=>h
 |o::l,s,r,h=>by
  unfold lG at h⊢
  split at h
  . rename_i hw
    try rw[hw]
    try dsimp only
    split at h
    . rename_i v H ho;rw[nL hl ho];dsimp only;exact qT hl h
    . cases h
  . rename_i hw
    try rw[hw]
    try dsimp only
    exact qT hl h
theorem mz {cl cl':Cl} {ρ:Operand->Option Value} {o:Oper} {H:ag} (h:kx o=true):opE P cl ρ o H=opE P cl' ρ o H:=by
 unfold kx at h
 split at h
 . rename_i c hc;unfold opE;rw[hc];dsimp only
   split at h
   . rename_i hb;rw[hb]
   . cases h
 . cases h
theorem rD (hl:LeC cl cl') {ops:Array Oper} {A:Array Nat} {i:Nat} {o:Oper} {s:St} {rs:List Rec} {r:Rec} (h:fu P L cl ops A i o s rs=some r):fu P L cl' ops A i o s rs=some r:=by
 unfold fu at h⊢
 split at h
 . rename_i hw;exact h
 . rename_i hw;(try rw[hw]);(try dsimp only at h⊢)
   split at h
   . rename_i hk;(try rw[hk]);(try dsimp only at h⊢)
     split at h
     . rename_i ho;rw[nL hl ho];exact h
     . cases h
   . rename_i hk;exact h
   . rename_i hk;(try rw[hk]);(try dsimp only at h⊢)
     split at h
     . rename_i ho;rw[nL hl ho];exact h
     . rename_i ho
       split at h
       . rename_i ha;rw[mz (cl:=cl') (cl':=cl) ha,ho];dsimp only;rw[ha]
         split at h
         . rename_i ho';rw[if_pos rfl,mz (cl:=cl') (cl':=cl) ha,ho'];exact h
         . cases h
       . cases h
   . rename_i hk;(try rw[hk]);(try dsimp only at h⊢)
     split at h
     . rename_i ho;rw[nL hl ho];exact h
     . cases h
theorem lN (hl:LeC cl cl') {ops:Array Oper} {A:Array Nat}:∀{l:List Oper} {i:Nat} {s:St} {rs:List Rec} {r:St × List Rec},
 fR P L cl ops A l i s rs=some r->fR P L cl' ops A l i s rs=some r
 |[],_,_,_,_,h=>h
 |o::l,i,s,rs,r,h=>by
  unfold fR at h⊢
  split at h
  . rename_i hr;rw[rD hl hr];exact lN hl h
  . cases h
theorem Ar (hl:LeC cl cl') {ops:Array Oper} {s r:St} (h:ma P L cl ops s=some r):ma P L cl' ops s=some r:=by
 unfold ma at h⊢
 split at h
 . cases h
 . rename_i hs;(try rw[hs]);(try dsimp only at h⊢)
   split at h
   . rename_i hr;rw[lN hl hr];exact h
   . cases h
theorem rN {N M:Nat} (hN:N<=M) {b b':St->Option (Ex × St)} (hb:∀s r,b s=some r->b' s=some r):∀{s:St} {r:Ex × St},kp N b s=some r->kp M b' s=some r:=by
 induction N generalizing M with
 |zero=>intro s r h;cases h
 |succ n ih=>
  intro s r h;obtain⟨m,rfl⟩:∃m,M=m+1:=⟨M-1,by omega⟩
  unfold kp at h⊢
  split at h
  . rename_i hbs;rw[hb _ _ hbs];exact ih (by omega) h
  . rename_i hbs;rw[hb _ _ h];cases r with
    |mk e s'=>
     cases e with
     |normal=>exact absurd h (by simpa using hbs s')
     |_=>rfl
theorem mh (hl:LeC cl cl') {N M:Nat} (hN:N<=M):∀(c:Code) {s:St} {r:Ex × St},bh P L cl N c s=some r->bh P L cl' M c s=some r:=by
 intro c
 induction c with
 |skip=>intro s r h;exact h
 |region id ops d=>
  intro s r h;unfold bh at h⊢;cases d with
  |false=>
   dsimp only at h⊢;cases ho:lG P cl ops ops.toList s with
   |none=>rw[ho]at h;cases h
   |some s'=>rw[ho]at h;rw[qT hl ho];exact h
  |true=>
   dsimp only at h⊢;cases ho:ma P L cl ops s with
   |none=>rw[ho]at h;cases h
   |some s'=>rw[ho]at h;rw[Ar hl ho];exact h
 |seq a b iha ihb=>
  intro s r h;unfold bh at h⊢
  split at h
  . rename_i ha;rw[iha ha];exact ihb h
  . rename_i ha;rw[iha h];cases r with
    |mk e s'=>
     cases e with
     |normal=>exact absurd h (by simpa using ha s')
     |_=>rfl
 |cond x a b iha ihb=>
  intro s r h;unfold bh at h⊢
  split at h
  . rename_i hx;exact iha h
  . rename_i hx;exact ihb h
  . cases h
 |block id b ih=>
  intro s r h;unfold bh at h⊢
  split at h
  . rename_i k s' hb;rw[ih hb];exact h
  . rename_i hb;rw[ih h];cases r with
    |mk e s'=>
     cases e with
     |exit k=>exact absurd h (by simpa using hb k s')
     |_=>rfl
 |loop b ih=>
  intro s r h;unfold bh at h⊢;exact rN hN (fun s r h=>ih h) h
 |exit id=>intro s r h;exact h
 |label id=>intro s r h;exact h
 |ret=>intro s r h;exact h
 |scope c _=>intro s r h;cases h
 |rangeFunc=>intro s r h;cases h
 |goto=>intro s r h;cases h
 |refuse=>intro s r h;cases h
theorem GU (hl:LeC cl cl') {N M:Nat} (hN:N<=M) {g:FuncId} {args:List Value} {H:ag} {r:Value × ag} (h:oB P L cl N g args H=some r):oB P L cl' M g args H=some r:=by
 unfold oB at h⊢
 split at h
 . split at h
   . split at h
     . rename_i hc;rw[mh hl hN _ hc];exact h
     . rename_i hc;rw[mh hl hN _ hc];exact h
     . cases h
   . cases h
 . cases h
theorem dO {O:bp}:∀{n m:Nat},n<=m->LeC (bJ P L O n) (bJ P L O m)
 |0,_,_,_,_,_,_,h=>by cases h
 |n+1,m,hm,g,args,H,r,h=>by
  obtain⟨m,rfl⟩:∃k,m=k+1:=⟨m-1,by omega⟩
  unfold bJ at h⊢
  split at h
  . exact h
  . exact GU (dO (by omega)) (by omega) h
end
end
end Go.Proofs.YtfaojedfnjdnnaaGreat.Ev
namespace Go.Proofs.YtfaojedfnjdnnaaGreat.Ev
noncomputable section
open Go
inductive Item where
 |code (p:List Nat) (c:Code)
 |ops (A:Array Oper) (l:List Oper)
 |blk (id:Nat)
 |lp (p:List Nat) (b:Code)
def Item.C4 (k:Nat):Item->Bool
 | .blk id=>k==id
 |_=>false
section
variable (P : Program) (L : List FuncId) (cl : Cl) (N : Nat)
def gD:Item->St->Option (Ex × St)
 | .code _ c,s=>bh P L cl N c s
 | .ops A l,s=>(lG P cl A l s).map (Ex.normal,·)
 | .blk _,s=>some (.normal,s)
 | .lp _ b,s=>kp N (bh P L cl N b) s
mutual
def cA:List Item->St->Option (Ex × St)
 |[],s=>some (.normal,s)
 |i::r,s=>
  match gD P L cl N i s with
  |some (.normal,s')=>cA r s'
  |some (.exit k,s')=>lj k r s'
  |some (.ret,s')=>some (.ret,s')
  |none=>none
def lj (k:Nat):List Item->St->Option (Ex × St)
 |[],s=>some (.exit k,s)
 |i::r,s=>
  match i.C4 k with
  |true=>cA r s
  |false=>lj k r s
end
end
section
variable {P : Program} {L : List FuncId} {cl cl' : Cl} {N M : Nat}
theorem Jw (hl:LeC cl cl') (hN:N<=M) {i:Item} {s:St} {r:Ex × St} (h:gD P L cl N i s=some r):gD P L cl' M i s=some r:=by
 cases i with
 |code p c=>exact mh hl hN c h
 |ops A l=>
  simp only[gD]at h⊢;cases ho:lG P cl A l s with
  |none=>rw[ho]at h;cases h
  |some s'=>rw[ho]at h;rw[qT hl ho];exact h
 |blk id=>exact h
 |lp p b=>exact rN hN (fun s r h=>mh hl hN b h) h
theorem mo (hl:LeC cl cl') (hN:N<=M):∀(l:List Item),
 (∀{s:St} {r:Ex × St},cA P L cl N l s=some r->cA P L cl' M l s=some r)/\
 (∀{k:Nat} {s:St} {r:Ex × St},lj P L cl N k l s=some r->lj P L cl' M k l s=some r)
 |[]=>⟨fun h=>by simpa[cA]using h,fun h=>by simpa[lj]using h⟩
 |i::l=>by
  have ih:=mo hl hN l;refine⟨fun {s r} h=> ?_,fun {k s r} h=> ?_⟩
  . unfold cA at h⊢;cases hi:gD P L cl N i s with
    |none=>rw[hi]at h;cases h
    |some x=>
     obtain⟨e,s'⟩:=x;rw[hi]at h;rw[Jw hl hN hi];cases e with
     |normal=>exact ih.1 h
     |exit k=>exact ih.2 h
     |ret=>exact h
  . unfold lj at h⊢;cases hb:i.C4 k with
    |true=>rw[hb]at h;exact ih.1 h
    |false=>rw[hb]at h;exact ih.2 h
end
def dy (P:Program) (L:List FuncId) (O:bp) (l:List Item) (s:St) (q:Ex × St):Prop:=∃N,cA P L (bJ P L O N) N l s=some q
section
variable {P : Program} {L : List FuncId} {O : bp}
theorem vK {N M:Nat} (h:N<=M) {l:List Item} {s:St} {q:Ex × St} (hq:cA P L (bJ P L O N) N l s=some q):cA P L (bJ P L O M) M l s=some q:=
 (mo (dO h) h l).1 hq
theorem dy.seq {p p1 p2:List Nat} {a b:Code} {r:List Item} {s:St} {q:Ex × St} (h:dy P L O (.code p1 a:: .code p2 b::r) s q):dy P L O (.code p (.seq a b)::r) s q:=by
 obtain⟨N,h⟩:=h;refine⟨N, ?_⟩;rw[cA]at h⊢;simp only[gD,bh]at h⊢;cases ha:bh P L (bJ P L O N) N a s with
 |none=>rw[ha]at h;cases h
 |some x=>
  obtain⟨e,s'⟩:=x;rw[ha]at h;cases e with
  |normal=>
   dsimp only at h⊢;rw[cA]at h;simp only[gD]at h;exact h
  |exit k=>
   dsimp only at h⊢;rw[lj]at h;exact h
  |ret=>exact h
theorem dy.block {p p1:List Nat} {id:Nat} {b:Code} {r:List Item} {s:St} {q:Ex × St} (h:dy P L O (.code p1 b:: .blk id::r) s q):dy P L O (.code p (.block id b)::r) s q:=by
 obtain⟨N,h⟩:=h;refine⟨N, ?_⟩;rw[cA]at h⊢;simp only[gD,bh]at h⊢;cases ha:bh P L (bJ P L O N) N b s with
 |none=>rw[ha]at h;cases h
 |some x=>
  obtain⟨e,s'⟩:=x;rw[ha]at h;cases e with
  |normal=>
   dsimp only at h⊢;rw[cA]at h;exact h
  |exit k=>
   dsimp only at h⊢;rw[lj]at h;simp only[Item.C4]at h
   by_cases hk:k=id
   . rw[if_pos hk];rw[zaH.2 hk]at h;exact h
   . rw[if_neg hk];rw[zbU.2 hk]at h;exact h
  |ret=>exact h
theorem dy.loop {p p1:List Nat} {b:Code} {r:List Item} {s:St} {q:Ex × St} (h:dy P L O (.lp p1 b::r) s q):dy P L O (.code p (.loop b)::r) s q:=by
 obtain⟨N,h⟩:=h;exact⟨N,by rw[cA]at h⊢;simp only[gD,bh]at h⊢;exact h⟩
theorem dy.round {p p1:List Nat} {b:Code} {r:List Item} {s:St} {q:Ex × St} (h:dy P L O (.code p1 b:: .lp p b::r) s q):dy P L O (.lp p b::r) s q:=by
 obtain⟨N,h⟩:=h;have h':=vK (zbV N) h;refine⟨N+1, ?_⟩;have hm:∀(s:St) (r:Ex × St),bh P L (bJ P L O N) N b s=some r->bh P L (bJ P L O (N+1)) (N+1) b s=some r:=fun s r=>mh (dO (zbV N)) (zbV N) b
 rw[cA]at h⊢;simp only[gD]at h⊢;rw[kp];cases ha:bh P L (bJ P L O N) N b s with
 |none=>rw[ha]at h;cases h
 |some x=>
  obtain⟨e,s'⟩:=x;rw[ha]at h;rw[hm _ _ ha];cases e with
  |normal=>
   dsimp only at h⊢;rw[cA]at h;simp only[gD]at h;cases hl:kp N (bh P L (bJ P L O N) N b) s' with
   |none=>rw[hl]at h;cases h
   |some y=>
    rw[rN (zap N) hm hl];rw[hl]at h;obtain⟨e,s''⟩:=y;cases e with
    |normal=>exact(mo (dO (zbV N)) (zbV N) r).1 h
    |exit k=>exact(mo (dO (zbV N)) (zbV N) r).2 h
    |ret=>exact h
  |exit k=>
   dsimp only at h⊢;rw[lj]at h;exact(mo (dO (zbV N)) (zbV N) r).2 h
  |ret=>exact h
theorem dy.skip {p:List Nat} {r:List Item} {s:St} {q:Ex × St} (h:dy P L O r s q):dy P L O (.code p .skip::r) s q:=by
 obtain⟨N,h⟩:=h;exact⟨N,by rw[cA];simpa only[gD,bh]using h⟩
theorem dy.label {p:List Nat} {k:Nat} {r:List Item} {s:St} {q:Ex × St} (h:dy P L O r s q):dy P L O (.code p (.label k)::r) s q:=by
 obtain⟨N,h⟩:=h;exact⟨N,by rw[cA];simpa only[gD,bh]using h⟩
theorem dy.blk {id:Nat} {r:List Item} {s:St} {q:Ex × St} (h:dy P L O r s q):dy P L O (.blk id::r) s q:=by
 obtain⟨N,h⟩:=h;exact⟨N,by rw[cA];simpa only[gD]using h⟩
theorem dy.ret {p:List Nat} {r:List Item} {s:St}:dy P L O (.code p .ret::r) s (.ret,s):=⟨0,by rw[cA];simp only[gD,bh]⟩
theorem dy.nil {s:St}:dy P L O [] s (.normal,s):=⟨0,by rw[cA]⟩
def leave (k:Nat):List Item->Option (List Item)
 |[]=>none
 |i::r=>match i.C4 k with|true=>some r|false=>leave k r
theorem K0 {cl:Cl} {N k:Nat} {s:St}:∀{r r':List Item},leave k r=some r'->lj P L cl N k r s=cA P L cl N r' s
 |[],_,h=>by simp[leave]at h
 |i::r,r',h=>by
  rw[lj];rw[leave]at h;cases hb:i.C4 k with
  |true=>rw[hb]at h;cases h;rfl
  |false=>rw[hb]at h;exact K0 h
theorem dy.exit {p:List Nat} {k:Nat} {r r':List Item} {s:St} {q:Ex × St} (hr:leave k r=some r') (h:dy P L O r' s q):dy P L O (.code p (.exit k)::r) s q:=by
 obtain⟨N,h⟩:=h;exact⟨N,by rw[cA];simp only[gD,bh];rw[K0 hr];exact h⟩
theorem dy.cond {p p1:List Nat} {x:Operand} {a b:Code} {r:List Item} {s:St} {q:Ex × St} {t:Bool} (hx:dW s.fr x=some (.bool t)) (h:dy P L O (.code p1 (match t with|true=>a|false=>b)::r) s q):
 dy P L O (.code p (.cond x a b)::r) s q:=by
 obtain⟨N,h⟩:=h;refine⟨N, ?_⟩;rw[cA]at h⊢;simp only[gD,bh]at h⊢;rw[hx];cases t<;>exact h
theorem dy.region {p:List Nat} {id:Nat} {ops:Array Oper} {r:List Item} {s:St} {q:Ex × St} (h:dy P L O (.ops ops ops.toList::r) s q):dy P L O (.code p (.region id ops false)::r) s q:=by
 obtain⟨N,h⟩:=h;exact⟨N,by rw[cA]at h⊢;simp only[gD,bh]at h⊢;exact h⟩
theorem dy.draw {p:List Nat} {id:Nat} {ops:Array Oper} {r:List Item} {s s':St} {q:Ex × St} (hd:∃N,ma P L (bJ P L O N) ops s=some s') (h:dy P L O r s' q):dy P L O (.code p (.region id ops true)::r) s q:=by
 obtain⟨N,h⟩:=h;obtain⟨M,hd⟩:=hd;refine⟨max N M, ?_⟩;rw[cA];simp only[gD,bh];rw[Ar (dO (Nat.le_max_right N M)) hd];exact vK (Nat.le_max_left N M) h
theorem dy.RK {A:Array Oper} {r:List Item} {s:St} {q:Ex × St} (h:dy P L O r s q):dy P L O (.ops A []::r) s q:=by
 obtain⟨N,h⟩:=h;exact⟨N,by rw[cA];simp only[gD,lG,Option.map];exact h⟩
theorem dy.op {A:Array Oper} {o:Oper} {l:List Oper} {r:List Item} {s:St} {q:Ex × St} {v:Value} {H:ag} (hw:eU A s.fr o=true) (ho:∃N,opE P (bJ P L O N) (dW s.fr) o s.hp=some (v,H))
 (h:dy P L O (.ops A l::r) ⟨iS s.fr o.dst v,H⟩ q):dy P L O (.ops A (o::l)::r) s q:=by
 obtain⟨N,h⟩:=h;obtain⟨M,ho⟩:=ho;refine⟨max N M, ?_⟩;have h:=vK (Nat.le_max_left N M) h;rw[cA]at h⊢;simp only[gD]at h⊢;rw[lG,hw];dsimp only;rw[nL (dO (Nat.le_max_right N M)) ho];exact h
theorem dy.RF {A:Array Oper} {o:Oper} {l:List Oper} {r:List Item} {s:St} {q:Ex × St} (hw:eU A s.fr o=false)
 (h:dy P L O (.ops A l::r) ⟨iS s.fr o.dst undef,s.hp⟩ q):dy P L O (.ops A (o::l)::r) s q:=by
 obtain⟨N,h⟩:=h;refine⟨N, ?_⟩;rw[cA]at h⊢;simp only[gD]at h⊢;rw[lG,hw];exact h
end
end
end Go.Proofs.YtfaojedfnjdnnaaGreat.Ev
