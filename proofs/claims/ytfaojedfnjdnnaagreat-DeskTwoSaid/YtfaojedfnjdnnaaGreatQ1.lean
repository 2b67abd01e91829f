/- Part of a proof: E1, E2, E3, E4, E5, E6, E7, E8, E9, E10, E11, E12, E13, E14, E15, E16, E17, E18, E19, S, E20, E21. Conditions: none. -/
import Derived.Below
import Derived.Carry
import Derived.ChangeKeysEq
import Derived.KernelRfl
import Derived.Laws.Append
import Derived.Laws.AppendOwn
import Derived.Laws.Cells
import Derived.Laws.CopyRow
import Derived.Laws.MakeOwn
import Derived.Laws.Rows
import Derived.Laws.Slices
import Derived.Laws.StructEq
import Derived.Laws.Tables
import Derived.Lib.AppendZeros
import Derived.LoopN
import Derived.OpenShut
import Derived.Orders
import Derived.ProofKit
import Derived.Test.YtfaojedfnjdnnaaGreatProg
set_option linter.unusedVariables false
set_option linter.unusedSimpArgs false
set_option linter.unnecessarySimpa false
set_option linter.unusedSectionVars false
namespace Go.Proofs.YtfaojedfnjdnnaaGreat
theorem zaa:type_of% @decide_eq_true:= @decide_eq_true
theorem zab:type_of% @List.length_append:= @List.length_append
theorem zac:type_of% @List.length_cons:= @List.length_cons
theorem zad:type_of% @Int.cast_ofNat_Int:= @Int.cast_ofNat_Int
theorem zae:type_of% @Bool.and_eq_true:= @Bool.and_eq_true
theorem zaf:type_of% @List.getD_eq_getElem?_getD:= @List.getD_eq_getElem?_getD
theorem zag:type_of% @decide_eq_true_eq:= @decide_eq_true_eq
theorem zah:type_of% @List.getElem?_eq_getElem:= @List.getElem?_eq_getElem
theorem zai:type_of% @Option.map_eq_some_iff:= @Option.map_eq_some_iff
theorem zaj:type_of% @of_decide_eq_true:= @of_decide_eq_true
theorem zak:type_of% @Option.some.injEq:= @Option.some.injEq
theorem zal:type_of% @cond_false:= @cond_false
theorem zam:type_of% @List.all_eq_true:= @List.all_eq_true
theorem zan:type_of% @decide_eq_false:= @decide_eq_false
theorem zao:type_of% @List.getElem?_eq_some_iff:= @List.getElem?_eq_some_iff
theorem zap:type_of% @Nat.le_refl:= @Nat.le_refl
theorem zaq:type_of% @List.append_assoc:= @List.append_assoc
theorem zar:type_of% @List.length_nil:= @List.length_nil
theorem zas:type_of% @List.length_take:= @List.length_take
theorem zat:type_of% @List.nil_append:= @List.nil_append
theorem zau:type_of% @Int.toNat_natCast:= @Int.toNat_natCast
theorem zav:type_of% @List.getElem?_take:= @List.getElem?_take
theorem zaw:type_of% @cond_true:= @cond_true
theorem zax:type_of% @List.getElem?_append_left:= @List.getElem?_append_left
theorem zay:type_of% @List.mem_cons_of_mem:= @List.mem_cons_of_mem
theorem zaz:type_of% @Array.getElem?_eq_getElem:= @Array.getElem?_eq_getElem
theorem zaA:type_of% @List.getElem?_drop:= @List.getElem?_drop
theorem zaB:type_of% @List.eq_nil_of_length_eq_zero:= @List.eq_nil_of_length_eq_zero
theorem zaC:type_of% @List.cons_append:= @List.cons_append
theorem zaD:type_of% @Nat.lt_of_lt_of_le:= @Nat.lt_of_lt_of_le
theorem zaE:type_of% @List.getD_cons_succ:= @List.getD_cons_succ
theorem zaF:type_of% @Nat.zero_add:= @Nat.zero_add
theorem zaG:type_of% @Bool.and_eq_true_iff:= @Bool.and_eq_true_iff
theorem zaH:type_of% @List.append_nil:= @List.append_nil
theorem zaI:type_of% @beq_iff_eq:= @beq_iff_eq
theorem zaJ:type_of% @Array.getElem?_eq_some_iff:= @Array.getElem?_eq_some_iff
theorem zaK:type_of% @List.getElem?_append_right:= @List.getElem?_append_right
theorem zaL:type_of% @Int.natCast_add:= @Int.natCast_add
theorem zaM:type_of% @Option.bind_eq_some_iff:= @Option.bind_eq_some_iff
theorem zaN:type_of% @List.mem_cons:= @List.mem_cons
theorem zaO:type_of% @List.getD_cons_zero:= @List.getD_cons_zero
theorem zaP:type_of% @Nat.le_trans:= @Nat.le_trans
theorem zaQ:type_of% @List.mem_of_getElem? := @List.mem_of_getElem?
theorem zaR:type_of% @Nat.mul_le_mul_right:= @Nat.mul_le_mul_right
theorem zaS:type_of% @List.map_cons:= @List.map_cons
theorem zaT:type_of% @Prod.mk.injEq:= @Prod.mk.injEq
theorem zaU:type_of% @List.length_map:= @List.length_map
theorem zaV:type_of% @List.getElem?_append:= @List.getElem?_append
theorem zaW:type_of% @List.getElem?_eq_none:= @List.getElem?_eq_none
theorem zaX:type_of% @List.flatMap_cons:= @List.flatMap_cons
theorem zaY:type_of% @decide_false:= @decide_false
theorem zaZ:type_of% @List.getElem?_cons_succ:= @List.getElem?_cons_succ
theorem za0:type_of% @List.mem_append:= @List.mem_append
theorem za1:type_of% @List.length_set:= @List.length_set
theorem za2:type_of% @Nat.add_mul:= @Nat.add_mul
theorem za3:type_of% @decide_true:= @decide_true
theorem za4:type_of% @Int.zero_add:= @Int.zero_add
theorem za5:type_of% @List.mem_zipIdx_iff_getElem? := @List.mem_zipIdx_iff_getElem?
theorem za6:type_of% @Int.mul_le_mul_of_nonneg_right:= @Int.mul_le_mul_of_nonneg_right
theorem za7:type_of% @List.mem_map:= @List.mem_map
theorem za8:type_of% @List.drop_left:= @List.drop_left
theorem za9:type_of% @Int.mul_nonneg:= @Int.mul_nonneg
theorem zba:type_of% @Array.getD_eq_getD_getElem? := @Array.getD_eq_getD_getElem?
theorem zbb:type_of% @Bool.true_and:= @Bool.true_and
theorem zbc:type_of% @Nat.add_zero:= @Nat.add_zero
theorem zbd:type_of% @List.length_drop:= @List.length_drop
theorem zbe:type_of% @Nat.add_assoc:= @Nat.add_assoc
theorem zbf:type_of% @Bool.and_true:= @Bool.and_true
theorem zbg:type_of% @List.mem_singleton:= @List.mem_singleton
theorem zbh:type_of% @if_true:= @if_true
theorem zbi:type_of% @Option.map_some:= @Option.map_some
theorem zbj:type_of% @Bool.or_eq_true:= @Bool.or_eq_true
theorem zbk:type_of% @Int.emod_lt_of_pos:= @Int.emod_lt_of_pos
theorem zbl:type_of% @Int.mul_comm:= @Int.mul_comm
theorem zbm:type_of% @Int.mul_ediv_add_emod:= @Int.mul_ediv_add_emod
theorem zbn:type_of% @List.length_replicate:= @List.length_replicate
theorem zbo:type_of% @List.getElem?_set:= @List.getElem?_set
theorem zbp:type_of% @if_false:= @if_false
theorem zbq:type_of% @List.take_of_length_le:= @List.take_of_length_le
theorem zbr:type_of% @Bool.not_true:= @Bool.not_true
theorem zbs:type_of% @List.sum_cons:= @List.sum_cons
theorem zbt:type_of% @Nat.zero_le:= @Nat.zero_le
theorem zbu:type_of% @List.getElem?_cons_zero:= @List.getElem?_cons_zero
theorem zbv:type_of% @Int.sub_zero:= @Int.sub_zero
theorem zbw:type_of% @List.getElem_mem:= @List.getElem_mem
theorem zbx:type_of% @List.flatten_cons:= @List.flatten_cons
theorem zby:type_of% @List.ext_getElem? := @List.ext_getElem?
theorem zbz:type_of% @Int.emod_nonneg:= @Int.emod_nonneg
theorem zbA:type_of% @of_decide_eq_false:= @of_decide_eq_false
theorem zbB:type_of% @BitVec.toNat_ofInt:= @BitVec.toNat_ofInt
theorem zbC:type_of% @List.mem_range:= @List.mem_range
theorem zbD:type_of% @Option.getD_some:= @Option.getD_some
theorem zbE:type_of% @Option.isSome_iff_exists:= @Option.isSome_iff_exists
theorem zbF:type_of% @List.replicate_succ:= @List.replicate_succ
theorem zbG:type_of% @Int.ediv_nonneg:= @Int.ediv_nonneg
theorem zbH:type_of% @List.not_mem_nil:= @List.not_mem_nil
theorem zbI:type_of% @Int.eq_ofNat_of_zero_le:= @Int.eq_ofNat_of_zero_le
theorem zbJ:type_of% @Nat.eq_of_mul_eq_mul_right:= @Nat.eq_of_mul_eq_mul_right
theorem zbK:type_of% @List.getElem?_of_mem:= @List.getElem?_of_mem
theorem zbL:type_of% @Option.some.inj:= @Option.some.inj
theorem zbM:type_of% @List.mem_or_eq_of_mem_set:= @List.mem_or_eq_of_mem_set
theorem zbN:type_of% @Bool.false_and:= @Bool.false_and
theorem zbO:type_of% @List.take_left:= @List.take_left
theorem zbP:type_of% @Int.mul_assoc:= @Int.mul_assoc
theorem zbQ:type_of% @List.drop_zero:= @List.drop_zero
theorem zbR:type_of% @List.set_cons_succ:= @List.set_cons_succ
theorem zbS:type_of% @Bool.or_eq_false_iff:= @Bool.or_eq_false_iff
theorem zbT:type_of% @List.mem_append_left:= @List.mem_append_left
theorem zbU:type_of% @beq_eq_false_iff_ne:= @beq_eq_false_iff_ne
theorem zbV:type_of% @Nat.le_succ:= @Nat.le_succ
theorem zbW:type_of% @Classical.byContradiction:= @Classical.byContradiction
theorem zbX:type_of% @List.foldl_cons:= @List.foldl_cons
theorem zbY:type_of% @Nat.min_eq_left:= @Nat.min_eq_left
theorem zbZ:type_of% @List.mem_append_right:= @List.mem_append_right
theorem zb0:type_of% @List.mem_filterMap:= @List.mem_filterMap
theorem zb1:type_of% @List.take_append_of_le_length:= @List.take_append_of_le_length
theorem zb2:type_of% @Int.add_mul:= @Int.add_mul
theorem zb3:type_of% @Int.mul_le_mul_of_nonneg_left:= @Int.mul_le_mul_of_nonneg_left
theorem zb4:type_of% @Int.add_zero:= @Int.add_zero
theorem zb5:type_of% @bne_self_eq_false:= @bne_self_eq_false
theorem zb6:type_of% @List.map_append:= @List.map_append
theorem zb7:type_of% @Int.ediv_lt_iff_lt_mul:= @Int.ediv_lt_iff_lt_mul
theorem zb8:type_of% @Array.toList_setIfInBounds:= @Array.toList_setIfInBounds
theorem zb9:type_of% @Bool.false_eq_true:= @Bool.false_eq_true
theorem zca:type_of% @Nat.zero_mul:= @Nat.zero_mul
theorem zcb:type_of% @List.drop_drop:= @List.drop_drop
theorem zcc:type_of% @Int.le_refl:= @Int.le_refl
theorem zcd:type_of% @List.size_toArray:= @List.size_toArray
theorem zce:type_of% @Int.mul_add:= @Int.mul_add
theorem zcf:type_of% @Nat.mul_one:= @Nat.mul_one
theorem zcg:type_of% @Option.bind_some:= @Option.bind_some
theorem zch:type_of% @Nat.le_of_not_lt:= @Nat.le_of_not_lt
theorem zci:type_of% @Nat.lt_or_ge:= @Nat.lt_or_ge
theorem zcj:type_of% @Bool.false_or:= @Bool.false_or
theorem zck:type_of% @Bool.and_self:= @Bool.and_self
theorem zcl:type_of% @Int.add_assoc:= @Int.add_assoc
theorem zcm:type_of% @congrArg:= @congrArg
theorem zcn:type_of% @Ne.symm:= @Ne.symm
end Go.Proofs.YtfaojedfnjdnnaaGreat
namespace Go.Proofs.YtfaojedfnjdnnaaGreat.Ev
noncomputable section
open Go
structure Blk where
 cells:List Value
inductive Tr where
 |e
 |n (v:Option Blk) (l r:Tr)
def Tr.get:Tr->Nat->Option Blk
 | .e,_=>none
 | .n v l r,k=>if k=0 then v else if k%2=1 then l.get (k/2)else r.get (k/2-1)
def Tr.val:Tr->Option Blk
 | .e=>none
 | .n v _ _=>v
def Tr.left:Tr->Tr
 | .e=> .e
 | .n _ l _=>l
def Tr.right:Tr->Tr
 | .e=> .e
 | .n _ _ r=>r
def Tr.put (b:Option Blk):(fuel:Nat)->Tr->Nat->Tr
 |0,t,_=>t
 |f+1,t,k=>if k=0 then .n b t.left t.right else if k%2=1 then .n t.val (Tr.put b f t.left (k/2)) t.right else .n t.val t.left (Tr.put b f t.right (k/2-1))
structure ag where
 size:Nat
 root:Tr
 lock:Nat
 hid:List (Nat × Nat)
def hidden:List (Nat × Nat)->Nat->Bool
 |[],_=>false
 |(a,b)::r,k=>(a<=k&&k<b)||hidden r k
def ag.get (H:ag) (k:Nat):Option Blk:=if k<H.size then(if hidden H.hid k then none else H.root.get k)else none
def ag.put (H:ag) (k:Nat) (b:Option Blk):ag:={H with root:=H.root.put b (k+1) k}
def ag.push (H:ag) (b:Blk):ag:={H with size:=H.size+1,root:=H.root.put (some b) (H.size+1) H.size}
def ag.sm (H:ag) (k:Nat) (_:Blk):Bool:=decide (H.lock<=k)
structure St where
 fr:List Value
 hp:ag
inductive Ex where
 |normal
 |exit (id:Nat)
 |ret
def bj:Value->Bool
 | .agg _=>false
 | .tuple _=>false
 |_=>true
def hZ:Value->Bool
 | .bool _=>true
 | .int .. =>true
 | .string _=>true
 | .pointer none=>true
 | .slice none 0 0=>true
 | .nilFunc=>true
 | .nilIface=>true
 |_=>false
def dV (fr:List Value):Operand->Option Value
 | .tmp t=>some (fr.getD t undef)
 | .const v=>if hZ v then some v else none
 | .global _=>none
 | .func f=>some (.func (.func f) #[] #[])
def bu:Value->Option (List Value)
 | .agg cs=>some cs.toList
 | .tuple _=>none
 |v=>some [v]
def gu (z:Value):Option (List Value):=
 match bu z with
 |some cs=>if cs.all hZ then some cs else none
 |none=>none
def cV (H:ag) (b off n:Nat):Option (List Value):=
 match H.get b with
 |some k=>if off+n<=k.cells.length then some ((k.cells.drop off).take n)else none
 |none=>none
def setCells (H:ag) (b off:Nat) (vs:List Value):Option ag:=
 match H.get b with
 |some k=>if H.sm b k&&0<vs.length&&off+vs.length<=k.cells.length then
  some (H.put b (some ⟨k.cells.take off++vs++k.cells.drop (off+vs.length)⟩))else none
 |none=>none
def nh:TypeDesc->Bool
 | .struct _=>true
 | .array _ _=>true
 |_=>false
section
variable (P : Program)
def cL (H:ag) (t:TypeId):Value->Option Value
 | .pointer (some ⟨b,off,none⟩)=>
  match P.underlying t,P.info? t with
  |some d,some i=>
   match nh d with
   |true=>(cV H b off i.size).map fun cs=> .agg cs.toArray
   |false=>
    match cV H b off 1 with
    |some (v::_)=>some v
    |_=>none
  |_,_=>none
 |_=>none
def qq (H:ag) (t:TypeId) (p v:Value):Option ag:=
 match p with
 | .pointer (some ⟨b,off,none⟩)=>
  match bu v,P.info? t with
  |some cs,some i=>if cs.length=i.size then setCells H b off cs else none
  |_,_=>none
 |_=>none
def aG (H:ag) (cs:List Value):ag:=H.push ⟨cs⟩
def ptr (b off:Nat):Value:= .pointer (some ⟨b,off,none⟩)
def jz (t:TypeId) (cs:Array Value) (off:Nat):Option Value:=
 match P.underlying t,P.info? t with
 |some d,some i=>
  match nh d with
  |true=>if off+i.size<=cs.size then some (.agg (cs.extract off (off+i.size)))else none
  |false=>cs[off]?
 |_,_=>none
def eqE:Nat->TypeId->Value->Value->Option Bool
 |0,_,_,_=>none
 |d+1,t,x,y=>
  match P.underlying t,x,y with
  |some .bool,.bool a,.bool b=>some (a==b)
  |some (.int _),.int k a,.int k' b=>if k=k' then some (a==b)else none
  |some (.struct fs),.agg xs,.agg ys=>
   if P.stoodInHeld t then none else
   fs.toList.foldr (fun f (r:Option Bool)=>
    if f.name≠ "_" then
     match jz P f.type xs f.offset,jz P f.type ys f.offset with
     |some a,some b=>
      match eqE d f.type a b with
      |some true=>r
      |some false=>some false
      |none=>none
     |_,_=>none
    else r) (some true)
  |some (.array len elem),.agg xs,.agg ys=>
   match P.info? elem with
   |some i=>
    (List.range len).foldr (fun j (r:Option Bool)=>
     match jz P elem xs (j*i.size),jz P elem ys (j*i.size)with
     |some a,some b=>
      match eqE d elem a b with
      |some true=>r
      |some false=>some false
      |none=>none
     |_,_=>none) (some true)
   |none=>none
  |_,_,_=>none
def mb (op:BinOp) (k:IntKind) (a b:Int):Option Value:=
 match op with
 | .add=>some (.int k (k.wrap (a+b)))
 | .sub=>some (.int k (k.wrap (a-b)))
 | .mul=>some (.int k (k.wrap (a*b)))
 | .quo=>if b=0 then none else some (.int k (k.wrap (a.tdiv b)))
 | .rem=>if b=0 then none else some (.int k (a.tmod b))
 | .and=>some (.int k (k.wrap (BitVec.ofInt k.bits a&&&BitVec.ofInt k.bits b).toNat))
 | .or=>some (.int k (k.wrap (BitVec.ofInt k.bits a|||BitVec.ofInt k.bits b).toNat))
 | .xor=>some (.int k (k.wrap (BitVec.ofInt k.bits a^^^BitVec.ofInt k.bits b).toNat))
 | .andNot=>some (.int k (k.wrap (BitVec.ofInt k.bits a&&& ~~~(BitVec.ofInt k.bits b)).toNat))
 | .eql=>some (.bool (a==b))
 | .neq=>some (.bool (a !=b))
 | .lss=>some (.bool (decide (a<b)))
 | .leq=>some (.bool (decide (a<=b)))
 | .gtr=>some (.bool (decide (a>b)))
 | .geq=>some (.bool (decide (a>=b)))
 | .shl=>none
 | .shr=>none
def qe (op:BinOp) (k:IntKind) (a b:Int):Option Value:=
 if b<0 then none else
 match op with
 | .shl=>some (.int k (k.wrap (a*2^(min b.toNat k.bits))))
 | .shr=>some (.int k (a.fdiv (2^(min b.toNat k.bits))))
 |_=>none
def isNil:Value->Option Bool
 | .pointer none=>some true
 | .pointer (some _)=>some false
 | .slice none _ _=>some true
 | .slice (some _) _ _=>some false
 |_=>none
def DK:TypeDesc->Value->Value->Bool
 | .pointer _,.pointer none,.pointer _=>true
 | .pointer _,.pointer _,.pointer none=>true
 | .slice _,.slice none _ _,.slice _ _ _=>true
 | .slice _,.slice _ _ _,.slice none _ _=>true
 |_,_,_=>false
def gF (t:TypeId) (x y:Value):Option Bool:=
 match x,y with
 | .agg _,.agg _=>if P.eqGuardType P.depth t then none else eqE P 10000 t x y
 | .bool a,.bool b=>match P.underlying t with|some .bool=>some (a==b)|_=>none
 |_,_=>
  match P.underlying t,isNil x,isNil y with
  |some d,some a,some b=>if DK d x y then some (a&&b)else none
  |_,_,_=>none
def jw (op:BinOp) (t:TypeId) (x y:Value):Option Value:=
 match x,y with
 | .int k a,.int k' b=>
  match op with
  | .shl=>qe .shl k a b
  | .shr=>qe .shr k a b
  |_=>if k=k' then mb op k a b else none
 |x,y=>
  match op with
  | .eql=>(gF P t x y).map .bool
  | .neq=>(gF P t x y).map fun b=> .bool (!b)
  |_=>none
def unE (op:UnOp) (x:Value):Option Value:=
 match op,x with
 | .neg,.int k n=>some (.int k (k.wrap (0-n)))
 | .xor,.int k n=>mb .xor k (if k.signed then-1 else k.max) n
 | .not,.bool b=>some (.bool (!b))
 |_,_=>none
def HE (src dst:TypeId) (x:Value):Option Value:=
 match P.underlying src,P.underlying dst,x with
 |some _,some (.int k),.int _ n=>some (.int k (k.wrap n))
 |_,_,_=>none
def jo (x:Option Value) (d hi:Nat):Option Nat:=
 match x with
 |none=>some d
 |some (.int _ i)=>if 0<=i/\i<=(hi:Int)then some i.toNat else none
 |some _=>none
def qv (t:TypeId) (x:Value) (lo hi:Option Value):Option Value:=
 match P.underlying t with
 |some (.slice elem)=>
  match x,P.info? elem with
  | .slice a len cap,some i=>
   match jo hi len cap with
   |some h=>
    match jo lo 0 h with
    |some l=>
     match a with
     |none=>some (.slice none (h-l) (cap-l))
     |some ⟨b,off,none⟩=>some (.slice (some ⟨b,if cap=l then off else off+l*i.size,none⟩) (h-l) (cap-l))
     |some ⟨b,off,some e⟩=>if e=i.size then some (.slice (some ⟨b,if cap=l then off else off+l*i.size,some e⟩) (h-l) (cap-l))else none
    |none=>none
   |none=>none
  |_,_=>none
 |some (.array n elem)=>
  match x,P.info? elem with
  | .pointer (some ⟨b,off,none⟩),some i=>
   match jo hi n n with
   |some h=>
    match jo lo 0 h with
    |some l=>some (.slice (some ⟨b,if n=l then off else off+l*i.size,none⟩) (h-l) (n-l))
    |none=>none
   |none=>none
  |_,_=>none
 |_=>none
def qF (t:TypeId) (x:Value) (lo:Option Value) (hi mx:Value):Option Value:=
 match P.underlying t with
 |some (.slice elem)=>
  match x,P.info? elem with
  | .slice a len cap,some i=>
   match jo (some mx) cap cap with
   |some m=>
    match jo (some hi) len m with
    |some h=>
     match jo lo 0 h with
     |some l=>
      match a with
      |none=>some (.slice none (h-l) (m-l))
      |some ⟨b,off,none⟩=>some (.slice (some ⟨b,if m=l then off else off+l*i.size,none⟩) (h-l) (m-l))
      |some ⟨b,off,some e⟩=>if e=i.size then some (.slice (some ⟨b,if m=l then off else off+l*i.size,none⟩) (h-l) (m-l))else none
     |none=>none
    |none=>none
   |none=>none
  |_,_=>none
 |_=>none
def jR (s:TypeId) (x:Value) (f:Nat):Option Value:=
 match P.underlying s with
 |some (.struct fs)=>
  match fs[f]?,x with
  |some fd,.pointer (some a)=>
   match P.info? fd.type with
   |some i=>if i.size=0 then none else some (.pointer (some (a.add fd.offset)))
   |none=>none
  |_,_=>none
 |_=>none
def AV (s:TypeId) (x:Value) (f:Nat):Option Value:=
 match P.underlying s with
 |some (.struct fs)=>
  match fs[f]?,x with
  |some fd,.agg cs=>jz P fd.type cs fd.offset
  |_,_=>none
 |_=>none
def eD (t:TypeId) (x ix:Value):Option Value:=
 match ix with
 | .int _ i=>
  match P.underlying t,x with
  |some (.array len elem),.pointer (some a)=>
   match P.info? elem with
   |some ie=>if 0<=i/\i<(len:Int)then some (.pointer (some (a.add (i.toNat*ie.size))))else none
   |none=>none
  |some (.slice elem),.slice (some ⟨b,off,_⟩) len _=>
   match P.info? elem with
   |some ie=>if 0<=i/\i<(len:Int)then some (.pointer (some ⟨b,off+i.toNat*ie.size,none⟩))else none
   |none=>none
  |_,_=>none
 |_=>none
def qo (t:TypeId) (x ix:Value):Option Value:=
 match ix with
 | .int _ i=>
  match P.underlying t,x with
  |some (.array len elem),.agg cs=>
   match P.info? elem with
   |some ie=>if 0<=i/\i<(len:Int)then jz P elem cs (i.toNat*ie.size)else none
   |none=>none
  |some .string,.string s=>if 0<=i then(match s.data[i.toNat]? with|some b=>some (.int .u8 b.toNat)|none=>none)else none
  |_,_=>none
 |_=>none
def tG (x:Value) (i:Nat):Option Value:=
 match x with
 | .tuple vs=>vs[i]?
 |_=>none
def xr (H:ag) (t:TypeId) (len cap:Value):Option (Value × ag):=
 match P.underlying t,len,cap with
 |some (.slice elem),.int _ l,.int _ c=>
  match P.info? elem with
  |some i=>
   match i.zero with
   |some z=>
    if 0<=l/\l<=c/\(i.bytes:Int)*c<=140737488355328/\c<=9223372036854775807 then
     match gu z with
     |some zc=>if zc.length=i.size then some (.slice (some ⟨H.size,0,none⟩) l.toNat c.toNat,aG H (List.replicate c.toNat zc).flatten)else none
     |none=>none
    else none
   |none=>none
  |none=>none
 |_,_,_=>none
def bg (H:ag) (size n:Nat):Value->Option (List Value)
 | .slice none _ _=>if n=0 then some []else none
 | .slice (some ⟨b,off,_⟩) _ _=>cV H b off (n*size)
 |_=>none
def AH (H:ag) (t u:TypeId) (s x:Value):Option (Value × ag):=
 match P.underlying t,P.underlying u,s,x with
 |some (.slice elem),some (.int _),.slice none 0 0,.int _ n=>
  match P.info? elem with
  |some i=>
   match i.zero with
   |some z=>
    match gu z with
    |some zc=>
     if zc.length=i.size/\0<i.size/\0<=n/\n<1099511627776/\n.toNat*i.bytes<35184372088832 then
      match n.toNat with
      |0=>some (s,H)
      |m+1=>some (.slice (some ⟨H.size,0,some i.size⟩) (m+1) (m+1),aG H (List.replicate (m+1) zc).flatten)
     else none
    |none=>none
   |none=>none
  |none=>none
 |_,_,_,_=>none
def eg (H:ag) (t u:TypeId) (s x:Value):Option (Value × ag):=
 if t=u then
 match P.underlying t,s,x with
 |some (.slice elem),.slice base sLen sCap,.slice _ n _=>
  match P.info? elem with
  |some i=>
   match i.zero with
   |some z=>
    match gu z,bg H i.size n x with
    |some zc,some new=>
     if zc.length=i.size/\0<i.size/\sLen<=sCap/\sLen+n<1099511627776/\(sLen+n)*i.bytes<35184372088832 then
      match n with
      |0=>some (s,H)
      |_+1=>
       match base with
       |none=>some (.slice (some ⟨H.size,0,some i.size⟩) n n,aG H new)
       |some ⟨b,off,sp⟩=>
        match decide (sLen+n<=sCap)with
        |true=>(setCells H b (off+sLen*i.size) new).map fun H'=>(.slice base (sLen+n) sCap,H')
        |false=>
         match bg H i.size sLen s with
         |some old=>
          match sp with
          |some e=>
           match H.get b with
           |some k=>
            if H.sm b k&&e==i.size&&off==0&&k.cells.length==sLen*i.size&&0<sLen then
             some (.slice (some ⟨H.size,0,some i.size⟩) (sLen+n) (sLen+n),aG (H.put b none) (old++new))
            else none
           |none=>none
          |none=>some (.slice (some ⟨H.size,0,some i.size⟩) (sLen+n) (sLen+n),aG H (old++new))
         |none=>none
     else none
    |_,_=>none
   |none=>none
  |none=>none
 |_,_,_=>none
 else AH P H t u s x
def rj (H:ag) (t _u:TypeId) (d s:Value):Option (Value × ag):=
 match P.underlying t,d,s with
 |some (.slice elem),.slice db dLen _,.slice _ sLen _=>
  match P.info? elem with
  |some i=>
   match bg H i.size (min sLen dLen) s with
   |some []=>some (.int .i64 (min sLen dLen:Nat),H)
   |some cs=>
    match db with
    |none=>none
    |some ⟨b,off,_⟩=>(setCells H b off cs).map fun H'=>(.int .i64 (min sLen dLen:Nat),H')
   |none=>none
  |none=>none
 |_,_,_=>none
def Gi:Option Value->Value->Option Value
 |some (.int k x),.int _ y=>some (.int k (if y<x then y else x))
 |_,_=>none
def GC:Option Value->Value->Option Value
 |some (.int k x),.int _ y=>some (.int k (if x<y then y else x))
 |_,_=>none
def Ul:List Value->Option Value
 | .int k x::rest=>rest.foldl Gi (some (.int k x))
 |_=>none
def UT:List Value->Option Value
 | .int k x::rest=>rest.foldl GC (some (.int k x))
 |_=>none
def jh (H:ag) (b:Builtin) (ts:Array TypeId) (args:List Value):Option (Value × ag):=
 match b with
 | .append=>
  match ts.toList,args with
  |[t,u],[s,x]=>eg P H t u s x
  |_,_=>none
 | .copy=>
  match ts.toList,args with
  |[t,u],[d,s]=>rj P H t u d s
  |_,_=>none
 | .len=>
  match ts.toList,args with
  |[t],[x]=>
   match P.underlying t,x with
   |some (.slice _),.slice _ n _=>some (.int .i64 n,H)
   |some (.array n _),_=>some (.int .i64 n,H)
   |some .string,.string s=>some (.int .i64 s.size,H)
   |_,_=>none
  |_,_=>none
 | .cap=>
  match ts.toList,args with
  |[t],[.slice none 0 0]=>match P.underlying t with|some (.slice _)=>some (.int .i64 0,H)|_=>none
  |[t],[.slice (some ⟨_,_,none⟩) _ c]=>
   match P.underlying t with
   |some (.slice _)=>some (.int .i64 c,H)
   |_=>none
  |_,_=>none
 | .min=>(Ul args).map (·,H)
 | .max=>(UT args).map (·,H)
 |_=>none
def vG (t:TypeId) (parts:List (Nat × Value)):Option Value:=
 match ((P.info? t).bind (·.zero)).bind gu with
 |some _=>(P.built t parts).map .agg
 |none=>none
def fF (H:ag) (t:TypeId) (len:Nat) (parts:List (Nat × Value)):Option (Value × ag):=
 match P.underlying t with
 |some (.slice elem)=>
  match P.info? elem with
  |some i=>
   match i.zero with
   |some z=>
    match gu z with
    |some zc=>
     if len*i.size<=16777216/\zc.length=i.size then
      match Instr.fill (fun j=>some (j*i.size,i.size)) (List.replicate len zc).flatten.toArray parts with
      |some cs=>some (.slice (some ⟨H.size,0,none⟩) len len,aG H cs.toList)
      |none=>none
     else none
    |none=>none
   |none=>none
  |none=>none
 |_=>none
def oP:Value->Option Value
 | .tuple _=>none
 |v=>some v
def qu (ρ:Operand->Option Value):List (Nat × Operand)->Option (List (Nat × Value))
 |[]=>some []
 |(i,x)::r=>
  match (ρ x).bind oP,qu ρ r with
  |some v,some vs=>some ((i,v)::vs)
  |_,_=>none
def ru (ρ:Operand->Option Value):List Operand->Option (List Value)
 |[]=>some []
 |x::r=>
  match ρ x,ru ρ r with
  |some v,some vs=>some (v::vs)
  |_,_=>none
def Gc (ρ:Operand->Option Value):Option Operand->Option (Option Value)
 |none=>some none
 |some x=>(ρ x).map some
variable (cl : FuncId -> List Value -> ag -> Option (Value × ag))
def opE (ρ:Operand->Option Value) (o:Oper) (H:ag):Option (Value × ag):=
 match o.op with
 | .move x=>(ρ x).map (·,H)
 | .assign x=>(ρ x).map (·,H)
 | .pick c a b=>
  match ρ c with
  |some (.bool t)=>(match t with|true=>ρ a|false=>ρ b).map (·,H)
  |_=>none
 | .alloc e=>
  match (P.info? e).bind (·.zero)with
  |some z=>(gu z).map fun cs=>(ptr H.size 0,aG H cs)
  |none=>none
 | .box _ x=>((ρ x).bind bu).map fun cs=>(ptr H.size 0,aG H cs)
 | .build t ps=>((qu ρ ps.toList).bind (vG P t)).map (·,H)
 | .buildSlice t n ps=>(qu ρ ps.toList).bind (fF P H t n)
 | .load t a=>((ρ a).bind (cL P H t)).map (·,H)
 | .store t a x=>
  match ρ a,ρ x with
  |some p,some v=>(qq P H t p v).map (undef,·)
  |_,_=>none
 | .nilCheck x=>
  match ρ x with
  |some (.pointer (some a))=>some (.pointer (some a),H)
  |some (.slice a n c)=>some (.slice a n c,H)
  |some (.func (.func f) x y)=>some (.func (.func f) x y,H)
  |_=>none
 | .binOp op t x y _=>
  match ρ x,ρ y with
  |some a,some b=>(jw P op t a b).map (·,H)
  |_,_=>none
 | .unOp op _ x=>((ρ x).bind (unE op)).map (·,H)
 | .convert s d x=>((ρ x).bind (HE P s d)).map (·,H)
 | .makeFunc fn a b=>
  match fn,ru ρ a.toList,ru ρ b.toList with
  | .func f,some x,some y=>some (.func (.func f) x.toArray y.toArray,H)
  |_,_,_=>none
 | .makeSlice t l c=>
  match ρ l,ρ c with
  |some a,some b=>xr P H t a b
  |_,_=>none
 | .slice t x lo hi none=>
  match ρ x,Gc ρ lo,Gc ρ hi with
  |some v,some l,some h=>(qv P t v l h).map (·,H)
  |_,_,_=>none
 | .slice t x lo (some hi) (some mx)=>
  match ρ x,Gc ρ lo,ρ hi,ρ mx with
  |some v,some l,some h,some m=>(qF P t v l h m).map (·,H)
  |_,_,_,_=>none
 | .fieldAddr s x f=>((ρ x).bind (jR P s · f)).map (·,H)
 | .field s x f=>((ρ x).bind (AV P s · f)).map (·,H)
 | .indexAddr t x i=>
  match ρ x,ρ i with
  |some v,some j=>(eD P t v j).map (·,H)
  |_,_=>none
 | .index t x i=>
  match ρ x,ρ i with
  |some v,some j=>(qo P t v j).map (·,H)
  |_,_=>none
 | .extract x i=>((ρ x).bind (tG · i)).map (·,H)
 | .call c=>
  match ru ρ c.args.toList with
  |some args=>
   match c.callee with
   | .builtin b=>jh P H b c.argTypes args
   | .value f=>
    match ρ f with
    |some (.func (.func g) x y)=>cl g (x.toList++args++y.toList) H
    |_=>none
   | .invoke .. =>none
  |none=>none
 |_=>none
def eZ (ops:Array Oper) (fr:List Value) (o:Oper):Bool:=
 match o.guard with
 |none=>true
 |some (j,want)=>
  match ((ops[j]?).bind (·.dst)).bind (fr[·]?)with
  |some (.bool b)=>b==want
  |_=>false
def iR (fr:List Value):Option Tmp->Value->List Value
 |none,_=>fr
 |some d,v=>fr.set d v
def lP (ops:Array Oper):List Oper->St->Option St
 |[],s=>some s
 |o::r,s=>
  match eZ ops s.fr o with
  |true=>
   match opE P cl (dV s.fr) o s.hp with
   |some (v,H)=>lP ops r ⟨iR s.fr o.dst v,H⟩
   |none=>none
  |false=>lP ops r ⟨iR s.fr o.dst undef,s.hp⟩
end
end
end Go.Proofs.YtfaojedfnjdnnaaGreat.Ev
namespace Go.Proofs.YtfaojedfnjdnnaaGreat.Ev
noncomputable section
open Go
theorem Tr.fS (b:Option Blk):∀(f:Nat) (t:Tr) (k j:Nat),k<f->(Tr.put b f t k).get j=if j=k then b else t.get j:=by
 intro f
 induction f with
 |zero=>intro t k j h;omega
 |succ f ih=>
  intro t k j h;have tl:∀m,t.left.get m=(match t with| .e=>none| .n _ l _=>l.get m):=by intro m;cases t<;>rfl
  have tr:∀m,t.right.get m=(match t with| .e=>none| .n _ _ r=>r.get m):=by intro m;cases t<;>rfl
  simp only[Tr.put]
  by_cases h0:k=0
  . subst h0;simp only[zbh,Tr.get]
    by_cases hj:j=0
    . simp[hj]
    . simp only[hj,zbp,tl,tr];cases t<;>simp[Tr.get,hj]
  . simp only[h0,zbp]
    by_cases h1:k%2=1
    . simp only[h1,zbh,Tr.get]
      by_cases hj:j=0
      . subst hj;simp only[zbh];rw[if_neg (by omega)];cases t<;>simp[Tr.get,Tr.val]
      . simp only[hj,zbp]
        by_cases hj1:j%2=1
        . simp only[hj1,zbh];rw[ih _ _ _ (by omega)]
          by_cases e:j=k
          . subst e;simp
          . rw[if_neg (by omega),if_neg e,tl];cases t<;>simp[Tr.get,hj,hj1]
        . simp only[hj1,zbp,tr];rw[if_neg (by omega)];cases t<;>simp[Tr.get,hj,hj1]
    . simp only[h1,zbp,Tr.get]
      by_cases hj:j=0
      . subst hj;simp only[zbh];rw[if_neg (by omega)];cases t<;>simp[Tr.get,Tr.val]
      . simp only[hj,zbp]
        by_cases hj1:j%2=1
        . simp only[hj1,zbh,tl];rw[if_neg (by omega)];cases t<;>simp[Tr.get,hj,hj1]
        . simp only[hj1,zbp];rw[ih _ _ _ (by omega)]
          by_cases e:j=k
          . subst e;simp
          . rw[if_neg (by omega),if_neg e,tr];cases t<;>simp[Tr.get,hj,hj1]
theorem ag.bW (H:ag) (b:Blk) (k:Nat):(H.push b).root.get k=if k=H.size then some b else H.root.get k:=
 Tr.fS _ _ _ _ _ (Nat.lt_succ_self _)
theorem ag.cT (H:ag) (j:Nat) (b:Option Blk) (k:Nat):(H.put j b).root.get k=if k=j then b else H.root.get k:=
 Tr.fS _ _ _ _ _ (Nat.lt_succ_self _)
@[simp] theorem ag.size_push (H : ag) (b : Blk) : (H.push b).size = H.size + 1 := rfl
@[simp] theorem ag.size_put (H : ag) (j : Nat) (b : Option Blk) : (H.put j b).size = H.size := rfl
@[simp] theorem ag.aas (H : ag) (b : Blk) : (H.push b).lock = H.lock := rfl
@[simp] theorem ag.acW (H : ag) (j : Nat) (b : Option Blk) : (H.put j b).lock = H.lock := rfl
@[simp] theorem ag.aa0 (H : ag) (b : Blk) : (H.push b).hid = H.hid := rfl
@[simp] theorem ag.aej (H : ag) (j : Nat) (b : Option Blk) : (H.put j b).hid = H.hid := rfl
theorem ag.ba {H:ag} {k:Nat} {b:Blk} (h:H.get k=some b):k<H.size:=by
 unfold ag.get at h
 split at h
 . assumption
 . cases h
theorem ag.aM {H:ag} {k:Nat} {b:Blk} (h:H.get k=some b):H.root.get k=some b/\hidden H.hid k=false:=by
 unfold ag.get at h
 split at h
 . split at h
   . cases h
   . rename_i hh;exact⟨h,by cases hx:hidden H.hid k<;>simp_all⟩
 . cases h
theorem ag.ga (H:ag) (j k:Nat) (b:Option Blk) (h:k≠j):(H.put j b).get k=H.get k:=by
 simp[ag.get,ag.cT,h]
theorem ag.jb (H:ag) (j:Nat) (b:Option Blk) {c:Blk} (hb:H.get j=some c):(H.put j b).get j=b:=by
 have:=ag.aM hb;simp[ag.get,ag.cT,this.2,ag.ba hb]
theorem ag.fa (H:ag) (b:Blk) (k:Nat) (h:k<H.size):(H.push b).get k=H.get k:=by
 have h1:k≠H.size:=by omega
 have h2:k<H.size+1:=by omega
 simp[ag.get,ag.bW,h,h1,h2]
structure Loc where
 blk:Nat
 off:Nat
 room:Nat
abbrev Fm:=Nat->Option Loc
inductive V (f : Fm) : Value -> Value -> Prop where
 |bool (b:Bool):V f (.bool b) (.bool b)
 |int (k:IntKind) (n:Int):V f (.int k n) (.int k n)
 |str (s:ByteArray):V f (.string s) (.string s)
 |Dz:V f (.pointer none) (.pointer none)
 |du:V f (.slice none 0 0) (.slice none 0 0)
 |nilFunc:V f .nilFunc .nilFunc
 |nilIface:V f .nilIface .nilIface
 |ptr (b off:Nat) (l:Loc) (h:f b=some l):V f (.pointer (some ⟨b,off,none⟩)) (.pointer (some ⟨l.blk,l.off+off,none⟩))
 |slX (b off n c:Nat) (l:Loc) (a:Addr) (h:f b=some l) (ha:a=⟨l.blk,l.off+off,none⟩\/(n=0/\c=0)):
  V f (.slice (some ⟨b,off,none⟩) n c) (.slice (some a) n c)
 |slL (b off e n c lT c':Nat) (l:Loc) (h:f b=some l) (hn:n<=c) (hc:c<=c')
  (hr:lT+c'*e<=l.room) (ho:0<c->lT=l.off+off):
  V f (.slice (some ⟨b,off,some e⟩) n c) (.slice (some ⟨l.blk,lT,none⟩) n c')
 |func (g:FuncId) (x x' y y':Array Value) (hx:x.size=x'.size) (hy:y.size=y'.size)
  (vx:∀(i:Nat) v v',x[i]? =some v->x'[i]? =some v'->V f v v') (vy:∀(i:Nat) v v',y[i]? =some v->y'[i]? =some v'->V f v v'):
  V f (.func (.func g) x y) (.func (.func g) x' y')
 |agg (x x':Array Value) (hx:x.size=x'.size) (hc:∀(i:Nat) v,x[i]? =some v->bj v=true)
  (vx:∀(i:Nat) v v',x[i]? =some v->x'[i]? =some v'->V f v v'):V f (.agg x) (.agg x')
 |tuple (x x':Array Value) (hx:x.size=x'.size) (vx:∀(i:Nat) v v',x[i]? =some v->x'[i]? =some v'->V f v v'):V f (.tuple x) (.tuple x')
def Le (f g:Fm):Prop:=∀x l,f x=some l->g x=some l
theorem Le.refl (f:Fm):Le f f:=fun _ _ h=>h
theorem Le.trans {f g h:Fm} (a:Le f g) (b:Le g h):Le f h:=fun x l e=>b x l (a x l e)
theorem V.mono {f g:Fm} (hle:Le f g) {v v':Value} (h:V f v v'):V g v v':=by
 induction h with
 |bool b=>exact .bool b
 |int k n=>exact .int k n
 |str s=>exact .str s
 |Dz=>exact .Dz
 |du=>exact .du
 |nilFunc=>exact .nilFunc
 |nilIface=>exact .nilIface
 |ptr b off l h=>exact .ptr b off l (hle _ _ h)
 |slX b off n c l a h ha=>exact .slX b off n c l a (hle _ _ h) ha
 |slL b off e n c lT c' l h hn hc hr ho=>exact .slL b off e n c lT c' l (hle _ _ h) hn hc hr ho
 |func g x x' y y' hx hy _ _ ix iy=>exact .func g x x' y y' hx hy ix iy
 |agg x x' hx hc _ ix=>exact .agg x x' hx hc ix
 |tuple x x' hx _ ix=>exact .tuple x x' hx ix
theorem V.cell {f:Fm} {v v':Value} (h:V f v v'):bj v'=bj v:=by cases h<;>rfl
theorem su {v:Value} (h:bj v=true):v.oneCell'=true:=by cases v<;>simp_all [bj,Value.oneCell']
theorem V.undef (f:Fm):V f Go.undef Go.undef:= .tuple _ _ rfl (fun i v v' h _=>by simp at h)
theorem V.hZ (f:Fm) {v:Value} (h:Ev.hZ v=true):V f v v:=by
 unfold Ev.hZ at h
 split at h<;>first|constructor|cases h
def VL (f:Fm) (xs ys:List Value):Prop:=xs.length=ys.length/\∀(i:Nat) v v',xs[i]? =some v->ys[i]? =some v'->V f v v'
theorem VL.nil (f:Fm):VL f [] []:=⟨rfl,fun i v v' h=>by simp at h⟩
theorem VL.cons {f:Fm} {v v':Value} {xs ys:List Value} (h:V f v v') (t:VL f xs ys):VL f (v::xs) (v'::ys):=
 ⟨by simp[t.1],fun i=>by
  cases i with
  |zero=>intro u u' h1 h2;simp at h1 h2;subst h1;subst h2;exact h
  |succ i=>intro u u' h1 h2;simp at h1 h2;exact t.2 i u u' h1 h2⟩
theorem VL.append {f:Fm} {a b c d:List Value} (h:VL f a b) (k:VL f c d):VL f (a++c) (b++d):=by
 refine⟨by simp[h.1,k.1],fun i v v' h1 h2=> ?_⟩;rw[zaV]at h1 h2;rw[h.1]at h1
 split at h1
 . rename_i hi;rw[if_pos hi]at h2;exact h.2 i v v' h1 h2
 . rename_i hi;rw[if_neg hi]at h2;exact k.2 _ v v' h1 h2
theorem VL.mono {f g:Fm} (hle:Le f g) {xs ys:List Value} (h:VL f xs ys):VL g xs ys:=⟨h.1,fun i v v' a b=>(h.2 i v v' a b).mono hle⟩
theorem VL.get {f:Fm} {xs ys:List Value} (h:VL f xs ys) {i:Nat} {v:Value} (hi:xs[i]? =some v):∃v',ys[i]? =some v'/\V f v v':=by
 have hlt:i<ys.length:=by rw[<-h.1];exact(zao.1 hi).1
 exact⟨ys[i],zah hlt,h.2 i _ _ hi (zah hlt)⟩
theorem VL.take {f:Fm} {xs ys:List Value} (h:VL f xs ys) (n:Nat):VL f (xs.take n) (ys.take n):=by
 refine⟨by simp[h.1],fun i v v' h1 h2=> ?_⟩;rw[zav]at h1 h2
 split at h1
 . rename_i hi;rw[if_pos hi]at h2;exact h.2 i v v' h1 h2
 . cases h1
theorem VL.drop {f:Fm} {xs ys:List Value} (h:VL f xs ys) (n:Nat):VL f (xs.drop n) (ys.drop n):=by
 refine⟨by simp[h.1],fun i v v' h1 h2=> ?_⟩;rw[zaA]at h1 h2;exact h.2 _ v v' h1 h2
theorem VL.set {f:Fm} {xs ys:List Value} (h:VL f xs ys) (i:Nat) {v v':Value} (hv:V f v v'):VL f (xs.set i v) (ys.set i v'):=by
 refine⟨by simp[h.1],fun j u u' h1 h2=> ?_⟩;rw[zbo]at h1 h2;rw[h.1]at h1
 split at h1
 . rename_i e;rw[if_pos e]at h2
   split at h1
   . rename_i hl;rw[if_pos hl]at h2;simp at h1 h2;subst h1;subst h2;exact hv
   . cases h1
 . rename_i e;rw[if_neg e]at h2;exact h.2 j u u' h1 h2
theorem VL.RG {f:Fm} {x x':Array Value} (h:V f (.agg x) (.agg x')):VL f x.toList x'.toList/\∀v∈x.toList,bj v=true:=by
 cases h with
 |agg _ _ hx hc vx=>
  refine⟨⟨by simpa using hx,fun i v v' a b=>vx i v v' (by simpa using a) (by simpa using b)⟩,fun v hv=> ?_⟩;obtain⟨i,hi⟩:=zbK hv;exact hc i v (by simpa using hi)
theorem V.D6 {f:Fm} {x x':List Value} (h:VL f x x') (hc:∀v∈x,bj v=true):V f (.agg x.toArray) (.agg x'.toArray):=
 .agg _ _ (by simpa using h.1) (fun i v a=>hc v (zaQ (by simpa using a))) (fun i v v' a b=>h.2 i v v' (by simpa using a) (by simpa using b))
theorem V.bu {f:Fm} {v v':Value} {cs:List Value} (h:V f v v') (hc:Ev.bu v=some cs):VL f cs v'.cells.toList/\∀u∈cs,bj u=true:=by
 cases h with
 |agg x x' hx hcx vx=>
  simp[Ev.bu]at hc;subst hc;exact VL.RG (.agg x x' hx hcx vx)
 |tuple=>simp[Ev.bu]at hc
 |bool b=>simp[Ev.bu]at hc;subst hc;exact⟨.cons (.bool b) (.nil f),by simp[bj]⟩
 |int k n=>simp[Ev.bu]at hc;subst hc;exact⟨.cons (.int k n) (.nil f),by simp[bj]⟩
 |str s=>simp[Ev.bu]at hc;subst hc;exact⟨.cons (.str s) (.nil f),by simp[bj]⟩
 |Dz=>simp[Ev.bu]at hc;subst hc;exact⟨.cons .Dz (.nil f),by simp[bj]⟩
 |du=>simp[Ev.bu]at hc;subst hc;exact⟨.cons .du (.nil f),by simp[bj]⟩
 |nilFunc=>simp[Ev.bu]at hc;subst hc;exact⟨.cons .nilFunc (.nil f),by simp[bj]⟩
 |nilIface=>simp[Ev.bu]at hc;subst hc;exact⟨.cons .nilIface (.nil f),by simp[bj]⟩
 |ptr b off l h=>simp[Ev.bu]at hc;subst hc;exact⟨.cons (.ptr b off l h) (.nil f),by simp[bj]⟩
 |slX b off n c l a h ha=>simp[Ev.bu]at hc;subst hc;exact⟨.cons (.slX b off n c l a h ha) (.nil f),by simp[bj]⟩
 |slL b off e n c lT c' l h hn hc' hr ho=>simp[Ev.bu]at hc;subst hc;exact⟨.cons (.slL b off e n c lT c' l h hn hc' hr ho) (.nil f),by simp[bj]⟩
 |func g x x' y y' hx hy vx vy=>simp[Ev.bu]at hc;subst hc;exact⟨.cons (.func g x x' y y' hx hy vx vy) (.nil f),by simp[bj]⟩
structure R (f : Fm) (H : ag) (w : World) : Prop where
 blk:∀x b,H.get x=some b->∃l C e fr,f x=some l/\w.heap[l.blk]? =some (.cells C e fr)/\
  (∀(i:Nat) v,b.cells[i]? =some v->bj v=true/\∃v',C[l.off+i]? =some v'/\V f v v')/\
  (H.sm x b=true->fr=(0,0)/\l.room<=C.size)
 big:∀x l,f x=some l->l.blk<w.heap.size
 lk:H.lock<=H.size
 inj:∀x y b c l m,H.get x=some b->H.get y=some c->H.sm x b=true->x≠y->f x=some l->f y=some m->l.blk≠m.blk
def gj (f:Fm) (H:ag) (cb:Nat):Prop:=∃x b l,H.get x=some b/\H.sm x b=true/\f x=some l/\l.blk=cb
structure Stp (f : Fm) (H : ag) (w : World) (f' : Fm) (H' : ag) (w' : World) : Prop where
 le:Le f f'
 out:∀x,¬(H.size<=x/\x<H'.size)->f' x=f x
 size:H.size<=H'.size
 lock:H'.lock=H.lock
 hid:H'.hid=H.hid
 root:∀x,x<H.size->x<H.lock->H'.root.get x=H.root.get x
 gC:w.heap.size<=w'.heap.size
 os:w'.os=w.os
 tape:w'.tape=w.tape
 output:w'.output=w.output
 fw:∀cb,cb<w.heap.size->¬gj f H cb->w'.heap[cb]? =w.heap[cb]?
 own:∀cb,cb<w.heap.size->gj f' H' cb->gj f H cb
theorem Stp.refl (f:Fm) (H:ag) (w:World):Stp f H w f H w:=
 ⟨.refl f,fun _ _=>rfl,zap _,rfl,rfl,fun _ _ _=>rfl,zap _,rfl,rfl,rfl,fun _ _ _=>rfl,fun _ _ h=>h⟩
theorem Stp.trans {f g h:Fm} {A B C:ag} {u v w:World} (a:Stp f A u g B v) (b:Stp g B v h C w):Stp f A u h C w where
 le:=a.le.trans b.le
 out x hx:=by
  have:=a.size;have:=b.size;rw[b.out x (by omega),a.out x (by omega)]
 size:=zaP a.size b.size
 lock:=b.lock.trans a.lock
 hid:=b.hid.trans a.hid
 root x h1 h2:=(b.root x (zaD h1 a.size) (by rw[a.lock];exact h2)).trans (a.root x h1 h2)
 gC:=zaP a.gC b.gC
 os:=b.os.trans a.os
 tape:=b.tape.trans a.tape
 output:=b.output.trans a.output
 fw cb h1 h2:=(b.fw cb (zaD h1 a.gC) (fun h=>h2 (a.own cb h1 h))).trans (a.fw cb h1 h2)
 own cb h1 h2:=a.own cb h1 (b.own cb (zaD h1 a.gC) h2)
theorem Stp.drew {f f':Fm} {H H':ag} {w w':World} (h:Stp f H w.drew f' H' w'):Stp f H w f' H' w':=
 ⟨h.le,h.out,h.size,h.lock,h.hid,h.root,h.gC,h.os,h.tape,h.output,h.fw,h.own⟩
theorem R.drew {f:Fm} {H:ag} {w:World} (h:R f H w):R f H w.drew:=⟨h.blk,h.big,h.lk,h.inj⟩
theorem aO {H:ag} {x:Nat} {b:Blk}:H.sm x b=true↔H.lock<=x:=by simp[ag.sm]
theorem R.cells {f:Fm} {H:ag} {w:World} (h:R f H w) {b off n:Nat} {cs:List Value} (hg:cV H b off n=some cs):
 cs.length=n/\∃l C e fr,f b=some l/\w.heap[l.blk]? =some (.cells C e fr)/\
  ∃cs',VL f cs cs'/\(∀u∈cs,bj u=true)/\∀(j:Nat) v,cs'[j]? =some v->C[l.off+off+j]? =some v:=by
 unfold cV at hg;cases hb:H.get b with
 |none=>simp[hb]at hg
 |some k=>
  simp only[hb]at hg
  split at hg
  . rename_i hl;cases hg;obtain⟨l,C,e,fr,hf,hw,hc,_⟩:=h.blk b k hb;have hlen:((k.cells.drop off).take n).length=n:=by simp;omega
    refine⟨hlen,l,C,e,fr,hf,hw,((List.range n).map fun j=>C.getD (l.off+off+j) Go.undef),⟨by simp;omega, ?_⟩, ?_, ?_⟩
    . intro i v v' h1 h2;rw[zav]at h1
      split at h1
      . rename_i hi;rw[zaA]at h1;obtain⟨_,v'',BC,hV⟩:=hc _ v h1;simp[hi]at h2;rw[show l.off+(off+i)=l.off+off+i by omega]at BC;simp[BC]at h2;subst h2;exact hV
      . cases h1
    . intro u hu;obtain⟨i,hi⟩:=zbK hu;rw[zav]at hi
      split at hi
      . rw[zaA]at hi;exact(hc _ u hi).1
      . cases hi
    . intro j v hj;have hjn:j<n:=by
       have:=(zao.1 hj).1;simpa using this
      have h1:k.cells[off+j]? =some k.cells[off+j]:=zah (by omega);obtain⟨_,v'',BC,_⟩:=hc _ _ h1;rw[show l.off+(off+j)=l.off+off+j by omega]at BC;simp[hjn,BC]at hj;subst hj;exact BC
  . cases hg
theorem xC (w:World) (o:Obj):(w.alloc o).heap[w.heap.size]? =some o:=by
 show(w.heap.push o)[w.heap.size]? =_;simp
theorem ph (w:World) (o:Obj) {k:Nat} (h:k<w.heap.size):(w.alloc o).heap[k]? =w.heap[k]? :=by
 show(w.heap.push o)[k]? =_;rw[Array.getElem?_push,if_neg (by omega)]
theorem R.push {f:Fm} {H:ag} {w:World} (h:R f H w) (bo:f H.size=none) (room:Nat) (cs:List Value) (C:Array Value) (e:TypeId)
 (hc:∀u∈cs,bj u=true) (hv:∀(i:Nat) v,cs[i]? =some v->∃v',C[i]? =some v'/\V f v v') (hr:room<=C.size):
 ∃f',f' H.size=some ⟨w.heap.size,0,room⟩/\Stp f H w f' (aG H cs) (w.alloc (.cells C e))/\R f' (aG H cs) (w.alloc (.cells C e)):=by
 let f':Fm:=fun x=>if x=H.size then some ⟨w.heap.size,0,room⟩else f x
 have hle:Le f f':=by
  intro x l hx
  by_cases e:x=H.size
  . subst e;rw[bo]at hx;cases hx
  . simp[f',e,hx]
 have hsz:(w.alloc (.cells C e)).heap.size=w.heap.size+1:=by show(w.heap.push _).size=_;simp
 have hold:∀x b,(aG H cs).get x=some b->x≠H.size->H.get x=some b/\f' x=f x:=by
  intro x b hx hne;have hlt:x<H.size:=by have:=ag.ba hx;simp[aG]at this;omega
  refine⟨?_,by simp[f',hne]⟩
  rwa [aG,ag.fa _ _ _ hlt]at hx
 have fk:∀b,(aG H cs).get H.size=some b->b=⟨cs⟩:=by
  intro b hb;have:=(ag.aM hb).1;rw[aG,ag.bW]at this;simpa using this.symm
 have hf0:f' H.size=some ⟨w.heap.size,0,room⟩:=by simp[f']
 refine⟨f',hf0,⟨hle, ?_, ?_,rfl,rfl, ?_,by omega,rfl,rfl,rfl, ?_, ?_⟩,⟨?_, ?_, ?_, ?_⟩⟩
 . intro x hx;simp[aG]at hx
   by_cases e:x=H.size
   . omega
   . simp[f',e]
 . simp[aG]
 . intro x hx _;rw[aG,ag.bW,if_neg (by omega)]
 . intro cb hcb _;exact ph w _ hcb
 . intro cb hcb ⟨x,b,l,hx,hm,hl,hb⟩
   by_cases e:x=H.size
   . subst e;rw[hf0]at hl;cases hl;simp at hb;omega
   . obtain⟨h1,h2⟩:=hold x b hx e;exact⟨x,b,l,h1,by simpa[aO,aG]using hm,by rw[<-h2];exact hl,hb⟩
 . intro x b hx
   by_cases e:x=H.size
   . subst e;have:=fk b hx;subst this;refine⟨_,C,_,_,hf0,xC w _, ?_, ?_⟩
     . intro i v hi;obtain⟨v',h1,h2⟩:=hv i v hi;exact⟨hc v (zaQ hi),v',by simpa using h1,h2.mono hle⟩
     . intro _;exact⟨rfl,hr⟩
   . obtain⟨h1,h2⟩:=hold x b hx e;obtain⟨l,C',e',fr,hf,hw,hcs,hm⟩:=h.blk x b h1;refine⟨l,C',e',fr,by rw[h2];exact hf, ?_, ?_, ?_⟩
     . rw[ph w _ (h.big x l hf)];exact hw
     . intro i v hi;obtain⟨a1,v',a2,a3⟩:=hcs i v hi;exact⟨a1,v',a2,a3.mono hle⟩
     . intro hmm;exact hm (by simpa[aO,aG]using hmm)
 . intro x l hx;rw[hsz]
   by_cases e:x=H.size
   . subst e;rw[hf0]at hx;cases hx;simp
   . have:=h.big x l (by simpa[f',e]using hx);omega
 . have:=h.lk;simp[aG];omega
 . intro x y b c l m hx hy hm hne hl hmm
   by_cases ex:x=H.size
   . subst ex;rw[hf0]at hl;cases hl;obtain⟨h1,h2⟩:=hold y c hy (zcn hne);have:=h.big y m (by rw[<-h2];exact hmm);simp;omega
   . obtain⟨h1,h2⟩:=hold x b hx ex
     by_cases ey:y=H.size
     . subst ey;rw[hf0]at hmm;cases hmm;have:=h.big x l (by rw[<-h2];exact hl);simp;omega
     . obtain⟨h3,h4⟩:=hold y c hy ey;exact h.inj x y b c l m h1 h3 (by simpa[aO,aG]using hm) hne (by rw[<-h2];exact hl) (by rw[<-h4];exact hmm)
theorem R.store {f:Fm} {H H':ag} {w:World} (h:R f H w) {b off:Nat} {vs vs':List Value} (hs:setCells H b off vs=some H') (hv:VL f vs vs') (hc:∀u∈vs,bj u=true):
 ∃l C e,f b=some l/\w.heap[l.blk]? =some (.cells C e (0,0))/\l.off+off+vs'.length<=C.size/\
  Stp f H w f H' (w.setRow l.blk (C.toList.take (l.off+off)++vs'++C.toList.drop (l.off+off+vs'.length)).toArray)/\
  R f H' (w.setRow l.blk (C.toList.take (l.off+off)++vs'++C.toList.drop (l.off+off+vs'.length)).toArray):=by
 unfold setCells at hs;cases hb:H.get b with
 |none=>simp[hb]at hs
 |some k=>
  simp only[hb]at hs
  split at hs
  . rename_i eK;simp only[zae,zag]at eK;obtain⟨⟨hm,rh⟩,hlen⟩:=eK;cases hs;obtain⟨l,C,e,fr,hf,hw,hcs,hmm⟩:=h.blk b k hb;obtain⟨hfr,kV⟩:=hmm hm;subst hfr;have hvl:=hv.1;have hCs:∀i,i<k.cells.length->l.off+i<C.size:=by
     intro i hi;obtain⟨_,v',hv',_⟩:=hcs i _ (zah hi);exact(zaJ.1 hv').1
    have qy:l.off+off+vs'.length<=C.size:=by
     have:=hCs (off+vs'.length-1) (by omega);omega
    let D:Array Value:=(C.toList.take (l.off+off)++vs'++C.toList.drop (l.off+off+vs'.length)).toArray
    have hD:(C.toList.take (l.off+off)++vs'++C.toList.drop (l.off+off+vs'.length)).toArray=D:=rfl;have SH:D.size=C.size:=by simp[D];omega
    have SI:∀i,D[l.off+i]? =if i<off then C[l.off+i]? else if i<off+vs'.length then vs'[i-off]? else C[l.off+i]? :=by
     intro i;simp only[D,List.getElem?_toArray,zaV,zab,zas,Array.length_toList,zav,zaA];have KL:min (l.off+off) C.size=l.off+off:=by omega
     rw[KL]
     by_cases h1:i<off
     . rw[if_pos (by omega),if_pos (by omega),if_pos (by omega),if_pos h1];simp
     . by_cases h2:i<off+vs'.length
       . rw[if_pos (by omega),if_neg (by omega),if_neg h1,if_pos h2];congr 1;omega
       . rw[if_neg (by omega),if_neg h1,if_neg h2];simp;congr 1;omega
    have iU:∀x c,(H.put b (some ⟨k.cells.take off++vs++k.cells.drop (off+vs.length)⟩)).get x=some c->
     (x=b/\c=⟨k.cells.take off++vs++k.cells.drop (off+vs.length)⟩)\/(x≠b/\H.get x=some c):=by
     intro x c hx
     by_cases ex:x=b
     . subst ex;rw[ag.jb H x _ hb]at hx;exact .inl ⟨rfl,(zbL hx).symm⟩
     . rw[ag.ga _ _ _ _ ex]at hx;exact .inr ⟨ex,hx⟩
    have afn:H.sm b k=true:=hm;refine⟨l,C,e,hf,hw,qy, ?_, ?_⟩
    . refine⟨.refl f,fun _ _=>rfl,zap _,rfl,rfl, ?_,by simp,rfl,rfl,rfl, ?_, ?_⟩
      . intro x _ hx;rw[ag.cT,if_neg];intro ex;have:=aO.1 hm;omega
      . intro cb _ hn;exact setRow_other w l.blk cb _ (fun ex=>hn ⟨b,k,l,hb,hm,hf,ex.symm⟩)
      . intro cb _ ⟨x,c,m,hx,hxm,hfm,hcb⟩;rcases iU x c hx with⟨rfl,rfl⟩|⟨_,hx'⟩
        . exact⟨x,k,m,hb,by simpa[aO]using hxm,hfm,hcb⟩
        . exact⟨x,c,m,hx',by simpa[aO]using hxm,hfm,hcb⟩
    . refine⟨?_,by simpa using h.big,h.lk, ?_⟩
      . intro x c hx;rcases iU x c hx with⟨rfl,rfl⟩|⟨hne,hx'⟩
        . refine⟨l,D,e,(0,0),hf,setRow_heap w l.blk C _ e (0,0) hw, ?_, ?_⟩
          . intro i v hi;rw[SI i];simp only[zaV,zab,zas,zav,zaA]at hi;have KL:min off k.cells.length=off:=by omega
            rw[KL]at hi
            by_cases h1:i<off
            . rw[if_pos (by omega),if_pos h1,if_pos h1]at hi;rw[if_pos h1];exact hcs i v hi
            . by_cases h2:i<off+vs.length
              . rw[if_pos (by omega),if_neg h1]at hi;rw[if_neg h1,if_pos (by omega)];obtain⟨v',h3,h4⟩:=hv.get hi;exact⟨hc v (zaQ hi),v',h3,h4⟩
              . rw[if_neg (by omega)]at hi;rw[if_neg h1,if_neg (by omega)];have:off+vs.length+(i-(off+vs.length))=i:=by omega
                rw[this]at hi;exact hcs i v hi
          . intro hxm;refine⟨rfl, ?_⟩;simp only[SH];exact kV
        . obtain⟨m,C',e',fr,hfm,hw',Z5,Z6⟩:=h.blk x c hx';have Z7:m.blk≠l.blk:=zcn (h.inj b x k c l m hb hx' hm (zcn hne) hf hfm);exact⟨m,C',e',fr,hfm,by rw[setRow_other w l.blk m.blk _ Z7];exact hw',Z5,fun hxm=>Z6 (by simpa[aO]using hxm)⟩
      . intro x y c d m n hx hy hxm hne hfm hfn;have hx1:∃c',H.get x=some c'/\H.sm x c'=true:=by
         rcases iU x c hx with⟨rfl,rfl⟩|⟨_,hx'⟩
         . exact⟨k,hb,hm⟩
         . exact⟨c,hx',by simpa[aO]using hxm⟩
        have hy1:∃d',H.get y=some d':=by
         rcases iU y d hy with⟨rfl,rfl⟩|⟨_,hy'⟩
         . exact⟨k,hb⟩
         . exact⟨d,hy'⟩
        obtain⟨c',hc',hcm⟩:=hx1;obtain⟨d',hd'⟩:=hy1;exact h.inj x y c' d' m n hc' hd' hcm hne hfm hfn
  . cases hs
end
end Go.Proofs.YtfaojedfnjdnnaaGreat.Ev
namespace Go.Proofs.YtfaojedfnjdnnaaGreat.Ev
noncomputable section
open Go
section
variable {P : Program} {f : Fm} {H : ag} {w : World}
theorem Yf {f:Fm} {xs ys:List Value} (h:VL f xs ys):ys.length=xs.length:=h.1.symm
theorem qX {t:TypeId} {d:TypeDesc} (hu:P.underlying t=some d):(isAgg t).run P w= .ok (nh d) w:=by
 cases d<;>simp[isAgg,run_underlying hu,nh]
theorem run_sizeOf {t:TypeId} {i:TypeInfo} (hi:P.info? t=some i):(sizeOf t).run P w= .ok i.size w:=by simp[sizeOf,typeInfo,hi]
theorem Addr.add_eq (b o n:Nat):(⟨b,o,none⟩:Addr).add n=⟨b,o+n,none⟩:=by
 unfold Addr.add
 split
 . rename_i h;subst h;rfl
 . rfl
theorem cellAt {g:Nat} {C:Array Value} {e:TypeId} {fr:Nat × Nat} (hw:w.heap[g]? =some (.cells C e fr)) (o:Nat):w.cell? ⟨g,o,none⟩=C[o]? :=by
 simp[World.cell?,hw]
theorem AB {g o:Nat} {C:Array Value} {e:TypeId} {fr:Nat × Nat} (hw:w.heap[g]? =some (.cells C e fr)) (cs:List Value)
 (h:∀(j:Nat) v,cs[j]? =some v->C[o+j]? =some v):(loadCells ⟨g,o,none⟩ cs.length).run P w= .ok cs.toArray w:=
 run_loadCells_list w _ cs fun j v hj=>by rw[Addr.add_eq,cellAt hw];exact h j v hj
theorem qa (hR:R f H w) {t:TypeId} {p p' v:Value} (hp:V f p p') (h:cL P H t p=some v):
 ∃v',(Instr.loadAt t p').run P w= .ok v' w/\V f v v':=by
 cases hp<;>try (simp[cL]at h;done)
 case ptr b off l hl=>
  simp only[cL]at h;cases hu:P.underlying t with
  |none=>simp[hu]at h
  |some d=>
   cases hi:P.info? t with
   |none=>simp[hu,hi]at h
   |some i=>
    simp only[hu,hi]at h;cases ha:nh d with
    |true=>
     simp only[ha,zai]at h;obtain⟨cs,hg,rfl⟩:=h;obtain⟨hlen,l',C,e,fr,hl',hw,cs',hvl,dN,hc⟩:=hR.cells hg;rw[hl]at hl';cases hl';have hr:=AB (P:=P) hw cs' hc;rw[Yf hvl,hlen]at hr;refine⟨.agg cs'.toArray, ?_,V.D6 hvl dN⟩;simp[Instr.loadAt,Instr.sureAddr,loadVar,qX hu,ha,run_sizeOf hi,hr]
    |false=>
     simp only[ha]at h
     split at h
     . rename_i u rest hg;cases h;obtain⟨hlen,l',C,e,fr,hl',hw,cs',hvl,dN,hc⟩:=hR.cells hg;rw[hl]at hl';cases hl';obtain⟨v',hv',hV⟩:=hvl.get (i:=0) (by simp;rfl);have:=hc 0 v' hv';refine⟨v', ?_,hV⟩;simp only[zbc]at this;simp[Instr.loadAt,Instr.sureAddr,loadVar,qX hu,ha,run_load,cellAt hw,this]
     . cases h
theorem El {t:TypeId} {i:TypeInfo} (hi:P.info? t=some i) {g o:Nat} {C:Array Value} {e:TypeId} (hw:w.heap[g]? =some (.cells C e (0,0)))
 (v:Value) (hs:v.cells.size=i.size) (qy:o+v.cells.toList.length<=C.size) (hc:∀u∈v.cells.toList,bj u=true):
 (storeVar t ⟨g,o,none⟩ v).run P w= .ok () (w.setRow g (C.toList.take o++v.cells.toList++C.toList.drop (o+v.cells.toList.length)).toArray):=by
 have:=run_storeCells_at P g o e v.cells.toList 0 C w hw (by simpa using qy) (fun u hu=>su (hc u hu));simp only[zbc]at this;simp[storeVar,run_sizeOf hi,hs,this]
theorem EL (hR:R f H w) {t:TypeId} {p p' v v':Value} {H':ag} (hp:V f p p') (hv:V f v v') (h:qq P H t p v=some H'):
 ∃w',(Instr.storeAt t p' v').run P w= .ok () w'/\Stp f H w f H' w'/\R f H' w':=by
 cases hp<;>try (simp[qq]at h;done)
 case ptr b off l hl=>
  simp only[qq]at h;cases hcs:bu v with
  |none=>simp[hcs]at h
  |some cs=>
   cases hi:P.info? t with
   |none=>simp[hcs,hi]at h
   |some i=>
    simp only[hcs,hi]at h
    split at h
    . rename_i hlen;obtain⟨hvl,dN⟩:=hv.bu hcs;obtain⟨l',C,e,hl',hw,qy,hs,hr⟩:=hR.store h hvl dN;rw[hl]at hl';cases hl';have KM:∀u∈v'.cells.toList,bj u=true:=by
       intro u hu;obtain⟨j,hj⟩:=zbK hu;have hjl:j<cs.length:=by rw[hvl.1];exact(zao.1 hj).1
       have h1:=zah hjl;rw[(hvl.2 j _ _ h1 hj).cell];exact dN _ (zbw hjl)
      have hsz:v'.cells.size=i.size:=by have:=hvl.1;simp at this;omega
      exact⟨_,by simp only[Instr.storeAt,Instr.sureAddr,Sem.run_bind,Sem.run_pure,Result.andThen_ok];exact El hi hw v' hsz qy KM,hs,hr⟩
    . cases h
theorem iF {t:TypeId} {x x':Array Value} {off:Nat} {v:Value} (hx:V f (.agg x) (.agg x')) (h:jz P t x off=some v):
 ∃v',(part t x' off).run P w= .ok v' w/\V f v v':=by
 unfold jz at h;cases hu:P.underlying t with
 |none=>simp[hu]at h
 |some d=>
  cases hi:P.info? t with
  |none=>simp[hu,hi]at h
  |some i=>
   simp only[hu,hi]at h;obtain⟨hvl,dN⟩:=VL.RG hx;cases ha:nh d with
   |true=>
    simp only[ha]at h
    split at h
    . rename_i hle;cases h;refine⟨.agg (x'.extract off (off+i.size)),by simp[part,qX hu,ha,run_sizeOf hi], ?_⟩;have h1:x.extract off (off+i.size)=((x.toList.drop off).take i.size).toArray:=by
       apply Array.ext';simp[List.extract_eq_take_drop]
      have h2:x'.extract off (off+i.size)=((x'.toList.drop off).take i.size).toArray:=by
       apply Array.ext';simp[List.extract_eq_take_drop]
      rw[h1,h2];refine V.D6 ((hvl.drop off).take i.size) fun u hu=>dN u (List.mem_of_mem_drop (List.mem_of_mem_take hu))
    . cases h
   |false=>
    simp only[ha]at h;obtain⟨v',h1,h2⟩:=hvl.get (i:=off) (v:=v) (by simpa using h);have h1':x'[off]? =some v':=by simpa using h1
    exact⟨v',by simp[part,qX hu,ha,h1'],h2⟩
theorem Oe:∀(d:Nat) (t:TypeId) (x y x' y':Value) (b:Bool),V f x x'->V f y y'->eqE P d t x y=some b->(Op.equalIn d t x' y').run P w= .ok b w:=by
 intro d
 induction d with
 |zero=>intro t x y x' y' b _ _ h;simp[eqE]at h
 |succ d ih=>
  intro t x y x' y' b hx hy h;cases hu:P.underlying t with
  |none=>simp[eqE,hu]at h
  |some D=>
   cases D<;>cases hx<;>cases hy<;>simp only[eqE,hu]at h<;>try (cases h;done)
   case bool.bool.bool a c=>cases h;simp[Op.equalIn,run_underlying hu]
   case int.int.int k a n k' m=>
    split at h
    . rename_i e;cases h;subst e;simp[Op.equalIn,run_underlying hu]
    . cases h
   case struct.agg.agg fs xs xs' hxs hxc hxv ys ys' hys hyc hyv=>
    split at h
    . cases h
    . rename_i hst;have afo:P.stoodInHeld t=false:=by simpa using hst
      have hfo:P.fieldsOf t=fs:=by simp[Program.fieldsOf,hu]
      rw[run_equalIn_struct w d t xs' ys' (by rw[hfo];exact hu) afo,hfo];generalize fs.toList=l at h
      induction l generalizing b with
      |nil=>simp at h;subst h;simp[Op.eqFields]
      |cons fd l ihl=>
       simp only[List.foldr_cons]at h;simp only[Op.eqFields]
       by_cases hn:fd.name≠ "_"
       . simp only[hn,zbh,ne_eq,not_false_eq_true]at h⊢;cases h1:jz P fd.type xs fd.offset with
         |none=>simp[h1]at h
         |some a=>
          cases h2:jz P fd.type ys fd.offset with
          |none=>simp[h1,h2]at h
          |some c=>
           simp only[h1,h2]at h;obtain⟨a',ha',hVa⟩:=iF (w:=w) (V.agg xs xs' hxs hxc hxv) h1;obtain⟨c',hc',hVc⟩:=iF (w:=w) (V.agg ys ys' hys hyc hyv) h2;cases h3:eqE P d fd.type a c with
           |none=>simp[h3]at h
           |some r=>
            have h4:=ih fd.type a c a' c' r hVa hVc h3;cases r with
            |true=>simp only[h3]at h;simp[ha',hc',h4];exact ihl b h
            |false=>simp only[h3]at h;cases h;simp[ha',hc',h4]
       . simp only[hn,zbp]at h⊢;exact ihl b h
   case array.agg.agg len elem xs xs' hxs hxc hxv ys ys' hys hyc hyv=>
    cases hi:P.info? elem with
    |none=>simp[hi]at h
    |some i=>
     simp only[hi]at h;rw[run_equalIn_array w d xs' ys' hu hi];have hcs:P.cellsOf elem=i.size:=by simp[Program.cellsOf,hi]
     rw[hcs];generalize List.range len=l at h
     induction l generalizing b with
     |nil=>simp at h;subst h;simp[Op.eqItems]
     |cons j l ihl=>
      simp only[List.foldr_cons]at h;simp only[Op.eqItems];cases h1:jz P elem xs (j*i.size)with
      |none=>simp[h1]at h
      |some a=>
       cases h2:jz P elem ys (j*i.size)with
       |none=>simp[h1,h2]at h
       |some c=>
        simp only[h1,h2]at h;obtain⟨a',ha',hVa⟩:=iF (w:=w) (V.agg xs xs' hxs hxc hxv) h1;obtain⟨c',hc',hVc⟩:=iF (w:=w) (V.agg ys ys' hys hyc hyv) h2;cases h3:eqE P d elem a c with
        |none=>simp[h3]at h
        |some r=>
         have h4:=ih elem a c a' c' r hVa hVc h3;cases r with
         |true=>simp only[h3]at h;simp[ha',hc',h4];exact ihl b h
         |false=>simp only[h3]at h;cases h;simp[ha',hc',h4]
theorem xZ {x x':Value} {b:Bool} (hx:V f x x') (h:isNil x=some b):isNil x'=some b:=by
 cases hx<;>simp[isNil]at h⊢<;>exact h
theorem iV {op:BinOp} {t:TypeId} {u v:Operand} {x y:Value} (h1:∀a b,¬(x= .agg a/\y= .agg b)) (h2:¬(x= .nilIface/\y= .nilIface)):
 (eqGuard op t u v x y).run P w= .ok () w:=by
 unfold eqGuard;cases op<;>simp<;>(split<;>simp_all)
theorem Be (t:TypeId) (x y:Value):Op.equal t x y=Op.equalIn (9999+1) t x y:=rfl
theorem run_equal_bool {t:TypeId} (hu:P.underlying t=some .bool) (a b:Bool):(Op.equal t (.bool a) (.bool b)).run P w= .ok (a==b) w:=by
 rw[Be];generalize 9999=n;simp only[Op.equalIn];simp[run_underlying hu]
theorem BW {t:TypeId} {d:TypeDesc} (hu:P.underlying t=some d) {x y:Value} {a c:Bool} (hr:DK d x y=true) (ha:isNil x=some a) (hc:isNil y=some c):
 (Op.equal t x y).run P w= .ok (a&&c) w:=by
 rw[Be];generalize 9999=n;unfold DK at hr
 split at hr
 . rename_i e p;cases p<;>simp[isNil]at ha hc<;>subst ha<;>subst hc<;>simp only[Op.equalIn]<;>simp[run_underlying hu]
 . rename_i e p _;cases p<;>simp[isNil]at ha hc<;>subst ha<;>subst hc<;>simp only[Op.equalIn]<;>simp[run_underlying hu]
 . rename_i e n1 c1 p n2 c2;cases p<;>simp[isNil]at ha hc<;>subst ha<;>subst hc<;>simp only[Op.equalIn]<;>simp[run_underlying hu]
 . rename_i e p n1 c1 n2 c2 _;cases p<;>simp[isNil]at ha hc<;>subst ha<;>subst hc<;>simp only[Op.equalIn]<;>simp[run_underlying hu]
 . cases hr
theorem vV {x:Value} {b:Bool} (h:isNil x=some b):(∃a,x= .pointer a)\/∃a n c,x= .slice a n c:=by
 cases x<;>simp[isNil]at h⊢
theorem Ym {d:TypeDesc} {x y x' y':Value} (hx:V f x x') (hy:V f y y') (h:DK d x y=true):DK d x' y'=true:=by
 unfold DK at h
 split at h
 . cases hx;cases hy<;>rfl
 . cases hy;cases hx<;>rfl
 . cases hx;cases hy<;>rfl
 . cases hy;cases hx<;>rfl
 . cases h
theorem sN {t:TypeId} {x y x' y':Value} {b:Bool} (hx:V f x x') (hy:V f y y') (h:gF P t x y=some b):
 (Op.equal t x' y').run P w= .ok b w/\∀op u v,(eqGuard op t u v x' y').run P w= .ok () w:=by
 unfold gF at h
 split at h
 ·
  split at h
  . cases h
  . rename_i hg;have hg':P.eqGuardType P.depth t=false:=by simpa using hg
    have:=Oe 10000 t _ _ _ _ b (w:=w) hx hy h;refine⟨this,fun op u v=> ?_⟩;cases hx;cases hy;exact run_eqGuard_agg w op t u v _ _ hg'
 ·
  cases hx;cases hy
  split at h
  . rename_i hu;cases h;exact⟨run_equal_bool hu _ _,fun op u v=>iV (by simp) (by simp)⟩
  . cases h
 ·
  split at h
  . rename_i d a c hu ha hc
    split at h
    . rename_i hr;cases h;have ha':=xZ hx ha;have hc':=xZ hy hc;refine⟨BW hu (Ym hx hy hr) ha' hc',fun op u v=>iV ?_ ?_⟩
      . intro a1 b1 ⟨e1,e2⟩;subst e1;simp[isNil]at ha'
      . intro ⟨e1,e2⟩;subst e1;simp[isNil]at ha'
    . cases h
  . cases h
theorem FL {op:BinOp} {k:IntKind} {a b:Int} {t:TypeId} {v:Value} (h1:op≠.shl) (h2:op≠.shr) (h:mb op k a b=some v):
 (binOp op t (.int k a) (.int k b)).run P w= .ok v w/\V f v v:=by
 cases op<;>simp[mb]at h<;>first
  |(exact absurd rfl h1)
  |(exact absurd rfl h2)
  |(subst h;exact⟨by simp[binOp,Op.intArith,Op.intBits,Op.intCmp],by constructor⟩)
  |(obtain⟨hb,rfl⟩:=h;exact⟨by simp[binOp,Op.intDiv,hb],by constructor⟩)
theorem sP {op:BinOp} {k k':IntKind} {a b:Int} {t:TypeId} {v:Value} (h:qe op k a b=some v):
 (binOp op t (.int k a) (.int k' b)).run P w= .ok v w/\V f v v:=by
 unfold qe at h
 split at h
 . cases h
 . rename_i hb;cases op<;>simp at h<;>subst h<;>exact⟨by simp[binOp,Op.shift,hb],by constructor⟩
theorem JG {op:BinOp} {t:TypeId} {x y x' y' v:Value} (hx:V f x x') (hy:V f y y') (h:jw P op t x y=some v):
 (∀u r,(eqGuard op t u r x' y').run P w= .ok () w)/\(binOp op t x' y').run P w= .ok v w/\V f v v:=by
 unfold jw at h
 split at h
 . cases hx;cases hy;refine⟨fun u r=>iV (by simp) (by simp), ?_⟩
   split at h
   . exact sP h
   . exact sP h
   . rename_i h1 h2
     split at h
     . rename_i e;subst e;exact FL h1 h2 h
     . cases h
 . rename_i hni;have key:∀b,gF P t x y=some b->binOp .eql t x' y'=(do pure (.bool (<-Op.equal t x' y')):Sem Value)/\binOp .neq t x' y'=(do pure (.bool (!(<-Op.equal t x' y'))):Sem Value):=by
    intro b hb;unfold gF at hb
    split at hb
    . cases hx;cases hy;exact⟨rfl,rfl⟩
    . cases hx;cases hy;exact⟨rfl,rfl⟩
    . split at hb
      . rename_i d a c hu ha hc;have ha':=xZ hx ha;have hc':=xZ hy hc;rcases vV ha' with⟨p,rfl⟩|⟨p,n,m,rfl⟩<;>rcases vV hc' with⟨q,rfl⟩|⟨q,n',m',rfl⟩<;>exact⟨rfl,rfl⟩
      . cases hb
   split at h
   . simp only[zai]at h;obtain⟨b,hb,rfl⟩:=h;obtain⟨h1,h2⟩:=sN (w:=w) hx hy hb;refine⟨fun u r=>h2 _ u r, ?_,.bool b⟩;rw[(key b hb).1];simp only[Sem.run_bind,h1,Result.andThen_ok,Sem.run_pure]
   . simp only[zai]at h;obtain⟨b,hb,rfl⟩:=h;obtain⟨h1,h2⟩:=sN (w:=w) hx hy hb;refine⟨fun u r=>h2 _ u r, ?_,.bool _⟩;rw[(key b hb).2];simp only[Sem.run_bind,h1,Result.andThen_ok,Sem.run_pure]
   . cases h
end
end
end Go.Proofs.YtfaojedfnjdnnaaGreat.Ev
namespace Go.Proofs.YtfaojedfnjdnnaaGreat.Ev
noncomputable section
open Go
section
variable {P : Program} {f : Fm} {H : ag} {w : World}
theorem M8 {op:UnOp} {x x' v:Value} (hx:V f x x') (h:unE op x=some v):(Op.unary op x').run P w= .ok v w/\V f v v:=by
 unfold unE at h
 split at h
 . cases hx;cases h;exact⟨by simp[Op.unary,Op.intArith],.int _ _⟩
 . cases hx;simp[mb]at h;subst h;exact⟨by simp[Op.unary,Op.intBits],.int _ _⟩
 . cases hx;cases h;exact⟨by simp[Op.unary],.bool _⟩
 . cases h
theorem Gx {s d:TypeId} {x x' v:Value} (hx:V f x x') (h:HE P s d x=some v):(convert s d x').run P w= .ok v w/\V f v v:=by
 unfold HE at h
 split at h
 . rename_i D k k' n hs hd;cases hx;cases h;exact⟨by simp[convert,run_underlying hs,run_underlying hd,Conv.intToInt],.int _ _⟩
 . cases h
theorem uq {s:TypeId} {x x' v:Value} {n:Nat} (hx:V f x x') (h:jR P s x n=some v):
 ∃v',(Instr.fieldAt s x' n).run P w= .ok v' w/\V f v v':=by
 unfold jR at h
 split at h
 . rename_i fs hs
   split at h
   . rename_i fd a hf;cases hi:P.info? fd.type with
     |none=>simp[hi]at h
     |some i=>
      simp only[hi]at h
      split at h
      . cases h
      . rename_i h0;cases h;cases hx with
        |ptr b off l hl=>
         refine⟨.pointer (some ⟨l.blk,l.off+(off+fd.offset),none⟩), ?_, ?_⟩
         . simp[Instr.fieldAt,run_underlying hs,hf,Instr.sureAddr,fieldPlace,run_sizeOf hi,h0,Addr.add_eq,zbe]
         . rw[Addr.add_eq];exact .ptr b _ l hl
   . cases h
 . cases h
theorem FM {s:TypeId} {x x' v:Value} {n:Nat} (hx:V f x x') (h:AV P s x n=some v):
 ∃v',(Instr.field s x' n).run P w= .ok v' w/\V f v v':=by
 unfold AV at h
 split at h
 . rename_i fs hs
   split at h
   . rename_i fd cs hf;cases hx with
     |agg _ x2 h1 h2 h3=>
      obtain⟨v',h4,h5⟩:=iF (w:=w) (V.agg _ x2 h1 h2 h3) h;exact⟨v',by simp[Instr.field,run_underlying hs,hf,asAgg,h4],h5⟩
   . cases h
 . cases h
theorem vA {t:TypeId} {x ix x' ix' v:Value} (hx:V f x x') (hi:V f ix ix') (h:eD P t x ix=some v):
 ∃v',(Instr.indexAt t x' ix').run P w= .ok v' w/\V f v v':=by
 unfold eD at h
 split at h
 . rename_i k i;cases hi
   split at h
   . rename_i len elem a hu;cases hie:P.info? elem with
     |none=>simp[hie]at h
     |some ie=>
      simp only[hie]at h
      split at h
      . rename_i hb;cases h;cases hx with
        |ptr b off l hl=>
         refine⟨.pointer (some ⟨l.blk,l.off+(off+i.toNat*ie.size),none⟩), ?_, ?_⟩
         . simp[Instr.indexAt,asIntOf,run_underlying hu,Instr.sureAddr,hb,run_sizeOf hie,Addr.add_eq,zbe]
         . rw[Addr.add_eq];exact .ptr b _ l hl
      . cases h
   . rename_i elem bb oo sp len cap hu;cases hie:P.info? elem with
     |none=>simp[hie]at h
     |some ie=>
      simp only[hie]at h
      split at h
      . rename_i hb;cases h;cases hx with
        |slX b off _ _ l a hl ha=>
         have ha:a=⟨l.blk,l.off+oo,none⟩:=by rcases ha with h|h;exact h;omega
         subst ha;refine⟨.pointer (some ⟨l.blk,l.off+(oo+i.toNat*ie.size),none⟩), ?_,.ptr bb _ l hl⟩;simp[Instr.indexAt,asIntOf,run_underlying hu,hb,run_sizeOf hie,Addr.add_eq,zbe]
        |slL b off e _ _ lT c' l hl hn hc hr ho=>
         have:lT=l.off+oo:=ho (by omega);subst this;refine⟨.pointer (some ⟨l.blk,l.off+(oo+i.toNat*ie.size),none⟩), ?_,.ptr bb _ l hl⟩;simp[Instr.indexAt,asIntOf,run_underlying hu,hb,run_sizeOf hie,Addr.add_eq,zbe]
      . cases h
   . cases h
 . cases h
theorem DX {t:TypeId} {x ix x' ix' v:Value} (hx:V f x x') (hi:V f ix ix') (h:qo P t x ix=some v):
 ∃v',(Instr.index t x' ix').run P w= .ok v' w/\V f v v':=by
 unfold qo at h
 split at h
 . rename_i k i;cases hi
   split at h
   . rename_i len elem cs hu;cases hie:P.info? elem with
     |none=>simp[hie]at h
     |some ie=>
      simp only[hie]at h
      split at h
      . rename_i hb;cases hx with
        |agg _ x2 h1 h2 h3=>
         obtain⟨v',h4,h5⟩:=iF (w:=w) (V.agg _ x2 h1 h2 h3) h;exact⟨v',by simp[Instr.index,asIntOf,run_underlying hu,hb,run_sizeOf hie,h4],h5⟩
      . cases h
   . rename_i s hu;cases hx
     split at h
     . rename_i h0
       split at h
       . rename_i b hb;cases h;have hb':s[i.toNat]? =some b:=hb;exact⟨_,by simp[Instr.index,asIntOf,run_underlying hu,h0,hb'],.int _ _⟩
       . cases h
     . cases h
   . cases h
 . cases h
theorem zu {x x' v:Value} {n:Nat} (hx:V f x x') (h:tG x n=some v):
 ∃v',(Instr.extract x' n).run P w= .ok v' w/\V f v v':=by
 unfold tG at h
 split at h
 . rename_i vs;cases hx with
   |tuple _ x2 h1 h3=>
    have hlt:n<x2.size:=by rw[<-h1];exact(zaJ.1 h).1
    exact⟨x2[n],by simp[Instr.extract,hlt],h3 n _ _ h (zaz hlt)⟩
 . cases h
def VO (f:Fm):Option Value->Option Value->Prop
 |none,none=>True
 |some a,some b=>V f a b
 |_,_=>False
theorem iq {x x':Option Value} {d hi n:Nat} (hx:VO f x x') (h:jo x d hi=some n):
 (x'=none/\n=d)\/(∃k i,x'=some (.int k i)/\0<=i/\i<=(hi:Int)/\n=i.toNat):=by
 unfold jo at h
 split at h
 . cases x' with
   |none=>cases h;exact .inl ⟨rfl,rfl⟩
   |some v=>exact hx.elim
 . rename_i k i;cases x' with
   |none=>exact hx.elim
   |some v=>
    cases hx
    split at h
    . rename_i hb;cases h;exact .inr ⟨k,i,rfl,hb.1,hb.2,rfl⟩
    . cases h
 . cases h
theorem oB {b:Bool} {len cap hi lo:Nat} {lo' hi':Option Value}
 (h1:(hi'=none/\hi=len)\/(∃k i,hi'=some (.int k i)/\0<=i/\i<=(cap:Int)/\hi=i.toNat))
 (h2:(lo'=none/\lo=0)\/(∃k i,lo'=some (.int k i)/\0<=i/\i<=(hi:Int)/\lo=i.toNat)):
 (Instr.sliceBounds b len cap lo' hi' none).run P w= .ok (lo,hi,cap) w:=by
 rcases h1 with⟨rfl,rfl⟩|⟨k,i,rfl,h3,h4,rfl⟩<;>rcases h2 with⟨rfl,rfl⟩|⟨k',i',rfl,h5,h6,rfl⟩
 . simp[Instr.sliceBounds]
 . simp[Instr.sliceBounds,run_sliceBound w k' i' _ _ h5 h6]
 . simp[Instr.sliceBounds,run_sliceBound w k i _ _ h3 h4]
 . simp[Instr.sliceBounds,run_sliceBound w k i _ _ h3 h4,run_sliceBound w k' i' _ _ h5 h6]
theorem nX {x':Option Value} {d hi n:Nat} (h:(x'=none/\n=d)\/(∃k i,x'=some (.int k i)/\0<=i/\i<=(hi:Int)/\n=i.toNat)) (hd:d<=hi):n<=hi:=by
 rcases h with⟨_,rfl⟩|⟨k,i,_,h1,h2,rfl⟩
 . exact hd
 . omega
theorem J6 {x':Option Value} {d hi hi' n:Nat} (h:(x'=none/\n=d)\/(∃k i,x'=some (.int k i)/\0<=i/\i<=(hi:Int)/\n=i.toNat)) (hh:hi<=hi'):
 (x'=none/\n=d)\/(∃k i,x'=some (.int k i)/\0<=i/\i<=(hi':Int)/\n=i.toNat):=by
 rcases h with h|⟨k,i,h0,h1,h2,h3⟩
 . exact .inl h
 . exact .inr ⟨k,i,h0,h1,by omega,h3⟩
theorem px {t elem:TypeId} {i:TypeInfo} (hu:P.underlying t=some (.slice elem)) (hi:P.info? elem=some i) {a:Option Addr} {len cap l h:Nat} {lo' hi':Option Value}
 (hb:(Instr.sliceBounds true len cap lo' hi' none).run P w= .ok (l,h,cap) w):
 (Instr.sliceAt t (.slice a len cap) lo' hi' none).run P w= .ok (.slice (if cap=l then a else a.map (·.add (l*i.size))) (h-l) (cap-l)) w:=by
 simp[Instr.sliceAt,Instr.slice,run_underlying hu,hb,run_sizeOf hi]
theorem qt {b:Bool} {len cap m hi lo:Nat} {lo':Option Value} {hi' mx':Value}
 (h0:∃k i,mx'= .int k i/\0<=i/\i<=(cap:Int)/\m=i.toNat) (h1:∃k i,hi'= .int k i/\0<=i/\i<=(m:Int)/\hi=i.toNat)
 (h2:(lo'=none/\lo=0)\/(∃k i,lo'=some (.int k i)/\0<=i/\i<=(hi:Int)/\lo=i.toNat)):
 (Instr.sliceBounds b len cap lo' (some hi') (some mx')).run P w= .ok (lo,hi,m) w:=by
 obtain⟨k0,i0,rfl,g1,g2,rfl⟩:=h0;obtain⟨k,i,rfl,h3,h4,rfl⟩:=h1;rcases h2 with⟨rfl,rfl⟩|⟨k',i',rfl,h5,h6,rfl⟩
 . simp[Instr.sliceBounds,run_sliceBound w k0 i0 _ _ g1 g2,run_sliceBound w k i _ _ h3 h4]
 . simp[Instr.sliceBounds,run_sliceBound w k0 i0 _ _ g1 g2,run_sliceBound w k i _ _ h3 h4,run_sliceBound w k' i' _ _ h5 h6]
theorem oN {t elem:TypeId} {i:TypeInfo} (hu:P.underlying t=some (.slice elem)) (hi:P.info? elem=some i) {a:Option Addr} {len cap l h m:Nat} {lo' hi' mx':Option Value}
 (hb:(Instr.sliceBounds true len cap lo' hi' mx').run P w= .ok (l,h,m) w):
 (Instr.sliceAt t (.slice a len cap) lo' hi' mx').run P w= .ok (.slice (if m=l then a else a.map (·.add (l*i.size))) (h-l) (m-l)) w:=by
 simp[Instr.sliceAt,Instr.slice,run_underlying hu,hb,run_sizeOf hi]
theorem BQ {t:TypeId} {x x' v:Value} {lo lo':Option Value} {hi hi' mx mx':Value} (hx:V f x x') (hlo:VO f lo lo') (hhi:V f hi hi') (hmx:V f mx mx') (h:qF P t x lo hi mx=some v):
 ∃v',(Instr.sliceAt t x' lo' (some hi') (some mx')).run P w= .ok v' w/\V f v v':=by
 unfold qF at h
 split at h
 . rename_i elem hu
   split at h
   . rename_i a len cap i hie
     split at h
     . rename_i m hme
       split at h
       . rename_i hh hhe
         split at h
         . rename_i ll hle;have b0:∃k i,mx'= .int k i/\0<=i/\i<=(cap:Int)/\m=i.toNat:=by
            rcases iq (x:=some mx) (x':=some mx') hmx hme with⟨h,_⟩|⟨k,i,h,r⟩
            . cases h
            . cases h;exact⟨k,i,rfl,r⟩
           have b1:∃k i,hi'= .int k i/\0<=i/\i<=(m:Int)/\hh=i.toNat:=by
            rcases iq (x:=some hi) (x':=some hi') hhi hhe with⟨h,_⟩|⟨k,i,h,r⟩
            . cases h
            . cases h;exact⟨k,i,rfl,r⟩
           have b2:=iq hlo hle;have hlh:ll<=hh:=nX b2 (zbt _);have hhm:hh<=m:=by obtain⟨_,i,_,h1,h2,rfl⟩:=b1;omega
           have hmc:m<=cap:=by obtain⟨_,i,_,h1,h2,rfl⟩:=b0;omega
           split at h
           . cases h;cases hx;have e0:m=0:=by omega
             have e1:hh=0:=by omega
             have e2:ll=0:=by omega
             subst e0;subst e1;subst e2;exact⟨_,oN hu hie (qt b0 b1 b2),by simpa using V.du⟩
           . cases h;cases hx with
             |slX b off _ _ l a hl ha=>
              refine⟨_,oN hu hie (qt b0 b1 b2), ?_⟩
              by_cases e:m=ll
              . rw[if_pos e,if_pos e];refine .slX _ _ _ _ l a hl (ha.imp id fun h=> ?_);exact⟨by omega,by omega⟩
              . rw[if_neg e,if_neg e];rcases ha with rfl|h
                rotate_left
                . omega
                simp only[zbi,Addr.add_eq,zbe];exact .slX _ _ _ _ l _ hl (.inl rfl)
           . rename_i b off e
             split at h
             . cases h;cases hx with
               |slL _ _ _ _ _ lT c' l hl hn hc hr ho=>
                refine⟨_,oN hu hie (qt ?_ b1 b2), ?_⟩
                . obtain⟨k,i,e0,h1,h2,h3⟩:=b0;exact⟨k,i,e0,h1,by omega,h3⟩
                by_cases e:m=ll
                . rw[if_pos e,if_pos e];exact .slX _ _ _ _ l _ hl (.inr ⟨by omega,by omega⟩)
                . rw[if_neg e,if_neg e,ho (by omega)];simp only[zbi,Addr.add_eq,zbe];exact .slX _ _ _ _ l _ hl (.inl rfl)
             . cases h
         . cases h
       . cases h
     . cases h
   . cases h
 . cases h
theorem EU {t:TypeId} {x x' v:Value} {lo lo' hi hi':Option Value} (hx:V f x x') (hlo:VO f lo lo') (hhi:VO f hi hi') (h:qv P t x lo hi=some v):
 ∃v',(Instr.sliceAt t x' lo' hi' none).run P w= .ok v' w/\V f v v':=by
 unfold qv at h
 split at h
 . rename_i elem hu
   split at h
   . rename_i a len cap i hie
     split at h
     . rename_i hh hhe
       split at h
       . rename_i ll hle;have b1:=iq hhi hhe;have b2:=iq hlo hle;have hlh:ll<=hh:=nX b2 (zbt _)
         split at h
         . cases h;cases hx;have:hh<=0:=nX b1 (zap _);have e1:hh=0:=by omega
           have e2:ll=0:=by omega
           subst e1;subst e2;exact⟨_,px hu hie (oB b1 b2),by simpa using V.du⟩
         . cases h;cases hx with
           |slX b off _ _ l a hl ha=>
            refine⟨_,px hu hie (oB b1 b2), ?_⟩
            by_cases e:cap=ll
            . rw[if_pos e,if_pos e];refine .slX _ _ _ _ l a hl (ha.imp id fun h=> ?_);have hhc:=nX b1 (show _<=cap by omega);exact⟨by omega,by omega⟩
            . rw[if_neg e,if_neg e];rcases ha with rfl|h
              rotate_left
              . have hhc:=nX b1 (show _<=cap by omega);omega
              simp only[zbi,Addr.add_eq,zbe];exact .slX _ _ _ _ l _ hl (.inl rfl)
         . rename_i b off e
           split at h
           . rename_i hes;cases h;cases hx with
             |slL _ _ _ _ _ lT c' l hl hn hc hr ho=>
              have hhc:hh<=cap:=nX b1 hn;refine⟨_,px hu hie (oB (J6 b1 hc) b2), ?_⟩
              by_cases e1:c'=ll
              . have e2:cap=ll:=by omega
                rw[if_pos e1,if_pos e2];refine .slL b off e _ _ lT _ l hl (by omega) (by omega) ?_ (by omega);have:c'-ll=0:=by omega
                rw[this];have:=zbt (c'*e);omega
              . rw[if_neg e1];have hm:(c'-ll)*e+ll*i.size=c'*e:=by
                 rw[<-hes,<-za2];congr 1;omega
                by_cases e2:cap=ll
                . rw[if_pos e2];simp only[zbi,Addr.add_eq];exact .slL b off e _ _ (lT+ll*i.size) _ l hl (by omega) (by omega) (by omega) (by omega)
                . rw[if_neg e2];simp only[zbi,Addr.add_eq];refine .slL b _ e _ _ (lT+ll*i.size) _ l hl (by omega) (by omega) (by omega) (fun h0=> ?_);have:=ho (by omega);omega
           . cases h
       . cases h
     . cases h
   . cases h
 . rename_i n elem hu
   split at h
   . rename_i bb oo i hie
     split at h
     . rename_i hh hhe
       split at h
       . rename_i ll hle;have b1:=iq hhi hhe;have b2:=iq hlo hle;cases h;cases hx with
         |ptr _ _ l hl=>
          refine⟨.slice (some (if n=ll then⟨l.blk,l.off+oo,none⟩else(⟨l.blk,l.off+oo,none⟩:Addr).add (ll*i.size))) (hh-ll) (n-ll), ?_, ?_⟩
          . have:=oB (P:=P) (w:=w) (b:=false) b1 b2;simp[Instr.sliceAt,run_underlying hu,Instr.sureAddr,this,run_sizeOf hie]
          . by_cases e1:n=ll
            . rw[if_pos e1,if_pos e1];exact .slX _ _ _ _ l _ hl (.inl rfl)
            . rw[if_neg e1,if_neg e1,Addr.add_eq,zbe];exact .slX _ _ _ _ l _ hl (.inl rfl)
       . cases h
     . cases h
   . cases h
 . cases h
end
end
end Go.Proofs.YtfaojedfnjdnnaaGreat.Ev
namespace Go.Proofs.YtfaojedfnjdnnaaGreat.Ev
noncomputable section
open Go
section
variable {P : Program} {f : Fm} {H : ag} {w : World}
theorem lY (f:Fm) {z:Value} {cs:List Value} (h:gu z=some cs):z.cells.toList=cs/\VL f cs cs/\∀u∈cs,bj u=true:=by
 unfold gu at h;cases hv:bu z with
 |none=>simp[hv]at h
 |some c=>
  simp only[hv]at h
  split at h
  . rename_i kW;cases h;have hc:z.cells.toList=cs:=by
     cases z<;>simp[bu]at hv<;>subst hv<;>rfl
    refine⟨hc,⟨rfl,fun i v v' h1 h2=> ?_⟩,fun u hu=> ?_⟩
    . rw[h1]at h2;cases h2;exact V.hZ f (zam.1 kW v (zaQ h1))
    . have:=zam.1 kW u hu;cases u<;>simp_all [hZ,bj]
  . cases h
theorem V.Sq {v v':Value} (h:V f v v') (hn:oP v=some v):VL f v.cells.toList v'.cells.toList/\∀u∈v.cells.toList,bj u=true:=by
 cases hc:Ev.bu v with
 |none=>cases v<;>simp[Ev.bu,oP]at hc hn
 |some cs=>
  have:=h.bu hc;have e:v.cells.toList=cs:=by cases v<;>simp[Ev.bu]at hc<;>subst hc<;>rfl
  rw[e];exact this
inductive PV (f : Fm) : List (Nat × Value) -> List (Nat × Value) -> Prop where
 |nil:PV f [] []
 |cons (i:Nat) (v v':Value) (r r':List (Nat × Value)) (h:V f v v') (hn:oP v=some v) (t:PV f r r'):PV f ((i,v)::r) ((i,v')::r')
theorem Qh (off:Nat):∀(xs xs':List Value) (k:Nat) (c c':Array Value),VL f xs xs'->(∀u∈xs,bj u=true)->VL f c.toList c'.toList->(∀u∈c.toList,bj u=true)->
 VL f ((xs.zipIdx k).foldl (fun cs (p:Value × Nat)=>cs.setIfInBounds (off+p.2) p.1) c).toList ((xs'.zipIdx k).foldl (fun cs (p:Value × Nat)=>cs.setIfInBounds (off+p.2) p.1) c').toList/\
 ∀u∈((xs.zipIdx k).foldl (fun cs (p:Value × Nat)=>cs.setIfInBounds (off+p.2) p.1) c).toList,bj u=true:=by
 intro xs
 induction xs with
 |nil=>
  intro xs' k c c' h _ hc hcc;cases xs' with
  |nil=>exact⟨by simpa using hc,by simpa using hcc⟩
  |cons=>have:=h.1;simp at this
 |cons x xs ih=>
  intro xs' k c c' h hx hc hcc;cases xs' with
  |nil=>have:=h.1;simp at this
  |cons y ys=>
   have h0:V f x y:=h.2 0 x y (by simp) (by simp);have ht:VL f xs ys:=⟨by have:=h.1;simpa using this,fun i v v' a b=>h.2 (i+1) v v' (by simpa using a) (by simpa using b)⟩
   simp only[List.zipIdx_cons,zbX];refine ih ys (k+1) _ _ ht (fun u hu=>hx u (by simp[hu])) ?_ ?_
   . rw[zb8,zb8];exact hc.set _ h0
   . intro u hu;rw[zb8]at hu;rcases zbM hu with h1|rfl
     . exact hcc u h1
     . exact hx u (by simp)
theorem EA {place:Nat->Option (Nat × Nat)}:∀(ps ps':List (Nat × Value)) (c c' out:Array Value),PV f ps ps'->VL f c.toList c'.toList->(∀u∈c.toList,bj u=true)->
 Instr.fill place c ps=some out->∃xF,Instr.fill place c' ps'=some xF/\VL f out.toList xF.toList/\∀u∈out.toList,bj u=true:=by
 intro ps
 induction ps with
 |nil=>
  intro ps' c c' out hp hc hcc h;cases hp;simp[Instr.fill]at h;subst h;exact⟨c',rfl,hc,hcc⟩
 |cons p ps ih=>
  intro ps' c c' out hp hc hcc h;cases hp with
  |cons i v v' r r' hv hn t=>
   obtain⟨hvl,hvc⟩:=hv.Sq hn;have hsz:v'.cells.size=v.cells.size:=by have:=hvl.1;simpa using this.symm
   have hcs:c'.size=c.size:=by have:=hc.1;simpa using this.symm
   simp only[Instr.fill]at h⊢;cases hpl:place i with
   |none=>simp[hpl]at h
   |some q=>
    obtain⟨off,size⟩:=q;simp only[hpl,hsz,hcs]at h⊢
    split at h
    . cases h
    . rename_i eK;rw[if_neg eK];rw[<-Array.foldl_toList]at h⊢;rw[Array.toList_zipIdx]at h⊢;obtain⟨h1,h2⟩:=Qh off v.cells.toList v'.cells.toList 0 c c' hvl hvc hc hcc;exact ih r' _ _ out t h1 h2 h
theorem Eo {t:TypeId} {ps ps':List (Nat × Value)} {v:Value} (hp:PV f ps ps') (h:vG P t ps=some v):
 ∃v',(Instr.build t ps'.toArray).run P w= .ok v' w/\V f v v':=by
 unfold vG at h;cases hz:((P.info? t).bind (·.zero)).bind gu with
 |none=>simp[hz]at h
 |some zc=>
  simp only[hz,zai]at h;obtain⟨cs,hb,rfl⟩:=h;cases hi:P.info? t with
  |none=>simp[hi]at hz
  |some it=>
   cases hzz:it.zero with
   |none=>simp[hi,hzz]at hz
   |some z=>
    simp only[hi,hzz,zcg]at hz;obtain⟨e1,hvl,dN⟩:=lY f hz;have key:∃cs',P.built t ps'=some cs'/\VL f cs.toList cs'.toList/\∀u∈cs.toList,bj u=true:=by
     unfold Program.built at hb⊢;rw[hi]at hb⊢
     split at hb
     . rename_i it' n e h1 h2;cases h1;simp only[hzz]at hb⊢;cases hie:P.info? e with
       |none=>simp[hie]at hb
       |some ie=>
        simp only[hie]at hb⊢;exact EA ps ps' z.cells z.cells cs hp (by rw[e1];exact hvl) (by rw[e1];exact dN) hb
     . rename_i it' fs h1 h2;cases h1;simp only[hzz]at hb⊢;cases hpl:fs.toList.mapM (fun f=>(P.info? f.type).map fun i=>(f.offset,i.size))with
       |none=>simp[hpl]at hb
       |some places=>
        simp only[hpl]at hb⊢;exact EA ps ps' z.cells z.cells cs hp (by rw[e1];exact hvl) (by rw[e1];exact dN) hb
     . cases hb
    obtain⟨cs',hb',Z8,hc'⟩:=key;exact⟨.agg cs',run_build w t ps'.toArray cs' (by simpa using hb'),by
     have:=V.D6 Z8 hc';simpa using this⟩
theorem R.qK (hR:R f H w) (bo:f H.size=none) (cs:List Value) (cs':Array Value) (e:TypeId) (hv:VL f cs cs'.toList) (hc:∀u∈cs,bj u=true):
 ∃f',f' H.size=some ⟨w.heap.size,0,0⟩/\Stp f H w f' (aG H cs) (w.alloc (.cells cs' e))/\R f' (aG H cs) (w.alloc (.cells cs' e)):=
 hR.push bo 0 cs cs' e hc (fun i v hi=>by
  obtain⟨v',h1,h2⟩:=hv.get hi;exact⟨v',by simpa using h1,h2⟩) (zbt _)
theorem Oh (hR:R f H w) (bo:f H.size=none) (e:TypeId) {x x':Value} {cs:List Value} (hx:V f x x') (h:bu x=some cs):
 ∃f' w',(Instr.box e x').run P w= .ok (.pointer (some ⟨w.heap.size,0,none⟩)) w'/\V f' (ptr H.size 0) (.pointer (some ⟨w.heap.size,0,none⟩))/\
  Stp f H w f' (aG H cs) w'/\R f' (aG H cs) w':=by
 obtain⟨hvl,hc⟩:=hx.bu h;obtain⟨f',h1,h2,h3⟩:=hR.qK bo cs x'.cells e hvl hc;refine⟨f',_, ?_,by simpa[ptr]using V.ptr (f:=f') H.size 0 _ h1,h2,h3⟩;simp[Instr.box,newVar,newRow]
theorem GX (hR:R f H w) (bo:f H.size=none) (e:TypeId) {z:Value} {cs:List Value} (hz:(P.info? e).bind (·.zero)=some z) (h:gu z=some cs):
 ∃f' w',(Instr.alloc e true (.tuple #[])).run P w= .ok (.pointer (some ⟨w.heap.size,0,none⟩)) w'/\V f' (ptr H.size 0) (.pointer (some ⟨w.heap.size,0,none⟩))/\
  Stp f H w f' (aG H cs) w'/\R f' (aG H cs) w':=by
 obtain⟨e1,hvl,hc⟩:=lY f h;obtain⟨f',h1,h2,h3⟩:=hR.qK bo cs z.cells e (by rw[e1];exact hvl) hc;refine⟨f',_, ?_,by simpa[ptr]using V.ptr (f:=f') H.size 0 _ h1,h2,h3⟩;cases hi:P.info? e with
 |none=>simp[hi]at hz
 |some i=>
  simp[hi]at hz;simp[Instr.alloc,zeroValue,typeInfo,hi,hz,newVar,newRow]
theorem jG (zc:List Value) (n i:Nat) (h:i<n*zc.length):((List.replicate n zc).flatten)[i]? =zc[i%zc.length]? :=by
 induction n generalizing i with
 |zero=>omega
 |succ n ih=>
  rw[zbF,zbx,zaV]
  split
  . rename_i hl;rw[Nat.mod_eq_of_lt hl]
  . rename_i hl;rw[ih (i-zc.length) (by rw[Nat.succ_mul]at h;omega)]
    congr 1
    rw[<-Nat.mod_eq_sub_mod (by omega)]
theorem mG (z:Array Value) (n:Nat) (hz:0<z.size\/n=0):madeCells z (n*z.size)=(List.replicate n z.toList).flatten.toArray:=by
 apply Array.ext
 . simp[madeCells,List.length_flatten]
 . intro i h1 h2;have hi:i<n*z.size:=by simpa[madeCells]using h1
   have h0:0<z.size:=by
    rcases hz with h|h
    . exact h
    . subst h;omega
   have h3:=jG z.toList n i (by simpa using hi);have hm:i%z.size<z.size:=Nat.mod_lt _ h0;simp only[madeCells,Array.getElem_map,Array.getElem_range];have h4:((List.replicate n z.toList).flatten.toArray)[i]? =some (z[i%z.size]'hm):=by
    rw[List.getElem?_toArray,h3];simp[hm]
   rw[zaz h2]at h4;have:=zbL h4;rw[this];simp[hm]
theorem VL.dI {zc:List Value} (h:VL f zc zc) (n:Nat):VL f (List.replicate n zc).flatten (List.replicate n zc).flatten:=by
 induction n with
 |zero=>exact .nil f
 |succ n ih=>rw[zbF,zbx];exact h.append ih
theorem fQ {zc:List Value} (h:∀u∈zc,bj u=true) (n:Nat):∀u∈(List.replicate n zc).flatten,bj u=true:=by
 intro u hu;rw[List.mem_flatten]at hu;obtain⟨l,hl,hul⟩:=hu;rw[List.mem_replicate]at hl;exact h u (by rw[<-hl.2];exact hul)
theorem GN (hR:R f H w) (bo:f H.size=none) {t:TypeId} {l l' c c' v:Value} {H':ag} (hl:V f l l') (hc:V f c c') (h:xr P H t l c=some (v,H')):
 ∃f' w' v',(Instr.makeSlice t l' c').run P w= .ok v' w'/\V f' v v'/\Stp f H w f' H' w'/\R f' H' w':=by
 unfold xr at h
 split at h
 . rename_i elem k n k' m hu;cases hl;cases hc;cases hi:P.info? elem with
   |none=>simp[hi]at h
   |some i=>
    cases hz:i.zero with
    |none=>simp[hi,hz]at h
    |some z=>
     simp only[hi,hz]at h
     split at h
     . rename_i eK;obtain⟨h0,h1,h2,h3⟩:=eK;cases hzc:gu z with
       |none=>simp[hzc]at h
       |some zc=>
        simp only[hzc]at h
        split at h
        . rename_i hlen;cases h;obtain⟨e1,hvl,dN⟩:=lY f hzc;have hsz:z.cells.size=i.size:=by rw[<-hlen,<-e1];simp
          have hr:=run_make (P:=P) w t elem i z hu hi hz k k' n m h0 h1 (by omega) h3;have hm:madeCells z.cells (m.toNat*i.size)=(List.replicate m.toNat zc).flatten.toArray:=by
           by_cases hs:0<z.cells.size
           . rw[<-hsz,mG _ _ (.inl hs),e1]
           . have:zc=[]:=by rw[<-e1];simp;simpa using hs
             have h00:i.size=0:=by omega
             rw[h00,this];simp[madeCells,Array.range_zero']
          rw[hm]at hr;obtain⟨f',g1,g2,g3⟩:=hR.qK bo _ (List.replicate m.toNat zc).flatten.toArray elem (by simpa using hvl.dI m.toNat) (fQ dN m.toNat);exact⟨f',_,_,hr,by simpa using V.slX (f:=f') H.size 0 n.toNat m.toNat _ _ g1 (.inl rfl),g2,g3⟩
        . cases h
     . cases h
 . cases h
theorem sJ (hR:R f H w) (bo:f H.size=none) {t:TypeId} {n:Nat} {ps ps':List (Nat × Value)} {v:Value} {H':ag} (hp:PV f ps ps') (h:fF P H t n ps=some (v,H')):
 ∃f' w' v',(Instr.buildSlice t n ps'.toArray).run P w= .ok v' w'/\V f' v v'/\Stp f H w f' H' w'/\R f' H' w':=by
 unfold fF at h
 split at h
 . rename_i elem hu;cases hi:P.info? elem with
   |none=>simp[hi]at h
   |some i=>
    cases hz:i.zero with
    |none=>simp[hi,hz]at h
    |some z=>
     simp only[hi,hz]at h;cases hzc:gu z with
     |none=>simp[hzc]at h
     |some zc=>
      simp only[hzc]at h
      split at h
      . rename_i eK;obtain⟨hle,hlen⟩:=eK
        split at h
        . rename_i cs adl;cases h;obtain⟨e1,hvl,dN⟩:=lY f hzc;have hsz:z.cells.size=i.size:=by rw[<-hlen,<-e1];simp
          have hm:(Array.range (n*i.size)).map (fun j=>z.cells[j%z.cells.size]!)=(List.replicate n zc).flatten.toArray:=by
           by_cases hs:0<z.cells.size
           . have:=mG z.cells n (.inl hs);rw[<-hsz,<-e1,<-this];rfl
           . have:zc=[]:=by rw[<-e1];simp;simpa using hs
             have h00:i.size=0:=by omega
             rw[h00,this];simp[Array.range_zero']
          obtain⟨cs',hf',Z8,hc'⟩:=EA ps ps' _ (List.replicate n zc).flatten.toArray cs hp (by simpa using hvl.dI n) (by simpa using fQ dN n) adl;obtain⟨f',g1,g2,g3⟩:=hR.qK bo cs.toList cs' elem Z8 hc';refine⟨f',_,_, ?_,by simpa using V.slX (f:=f') H.size 0 n n _ _ g1 (.inl rfl),g2,g3⟩;have afp:¬(16777216<n*i.size):=by omega
          by_cases h00:n*i.size=0
          . have hn0:(List.replicate n zc).flatten=[]:=by
             have:(List.replicate n zc).flatten.length=0:=by simp[List.length_flatten,hlen,h00]
             exact zaB this
            rw[hn0]at hf';simp[Instr.buildSlice,run_underlying hu,run_sizeOf hi,h00,Array.range_zero',hf',newRow]
          . simp[Instr.buildSlice,run_underlying hu,run_sizeOf hi,h00,afp,zeroValue,typeInfo,hi,hz,hm,hf',newRow]
        . cases h
      . cases h
 . cases h
end
end
end Go.Proofs.YtfaojedfnjdnnaaGreat.Ev
namespace Go.Proofs.YtfaojedfnjdnnaaGreat.Ev
noncomputable section
open Go
section
variable {P : Program} {f : Fm} {H : ag} {w : World}
theorem R.drop (hR:R f H w) {b:Nat} {k:Blk} (hb:H.get b=some k) (hm:H.sm b k=true):Stp f H w f (H.put b none) w/\R f (H.put b none) w:=by
 have iU:∀x c,(H.put b none).get x=some c->x≠b/\H.get x=some c:=by
  intro x c hx
  by_cases e:x=b
  . subst e;rw[ag.jb H x _ hb]at hx;cases hx
  . exact⟨e,by rwa [ag.ga _ _ _ _ e]at hx⟩
 refine⟨⟨.refl f,fun _ _=>rfl,zap _,rfl,rfl, ?_,zap _,rfl,rfl,rfl,fun _ _ _=>rfl, ?_⟩,⟨?_,hR.big,hR.lk, ?_⟩⟩
 . intro x _ hx;rw[ag.cT,if_neg];intro e;have:=aO.1 hm;omega
 . intro cb _ ⟨x,c,m,hx,hxm,hfm,hcb⟩;exact⟨x,c,m,(iU x c hx).2,by simpa[aO]using hxm,hfm,hcb⟩
 . intro x c hx;obtain⟨l,C,e,fr,h1,h3,h4,h5⟩:=hR.blk x c (iU x c hx).2;exact⟨l,C,e,fr,h1,h3,h4,fun hxm=>h5 (by simpa[aO]using hxm)⟩
 . intro x y c d l m hx hy hxm hne hl hm';exact hR.inj x y c d l m (iU x c hx).2 (iU y d hy).2 (by simpa[aO]using hxm) hne hl hm'
theorem R.move (hR:R f H w) (bo:f H.size=none) {b:Nat} {k:Blk} (hb:H.get b=some k) (hm:H.sm b k=true) {l:Loc} (hl:f b=some l)
 {C:Array Value} {e:TypeId} {fr:Nat × Nat} (hw:w.heap[l.blk]? =some (.cells C e fr)) {vs vs':List Value} (hv:VL f vs vs') (hc:∀u∈vs,bj u=true)
 (qy:l.off+k.cells.length+vs'.length<=C.size):
 ∃f',f' H.size=some ⟨l.blk,l.off,l.room⟩/\
  Stp f H w f' (aG (H.put b none) (k.cells++vs)) (w.setRow l.blk (C.toList.take (l.off+k.cells.length)++vs'++C.toList.drop (l.off+k.cells.length+vs'.length)).toArray)/\
  R f' (aG (H.put b none) (k.cells++vs)) (w.setRow l.blk (C.toList.take (l.off+k.cells.length)++vs'++C.toList.drop (l.off+k.cells.length+vs'.length)).toArray):=by
 obtain⟨l2,C2,e2,fr2,hf2,hw2,hcs,hmm⟩:=hR.blk b k hb;rw[hl]at hf2;cases hf2;rw[hw]at hw2;cases hw2;obtain⟨hfr,kV⟩:=hmm hm;subst hfr
 let L:Loc:=⟨l.blk,l.off,l.room⟩
 let f':Fm:=fun x=>if x=H.size then some L else f x
 have hf0:f' H.size=some L:=by simp[f']
 have hle:Le f f':=by
  intro x m hx
  by_cases e:x=H.size
  . subst e;rw[bo]at hx;cases hx
  . simp[f',e,hx]
 let D:Array Value:=(C.toList.take (l.off+k.cells.length)++vs'++C.toList.drop (l.off+k.cells.length+vs'.length)).toArray
 have hDd:(C.toList.take (l.off+k.cells.length)++vs'++C.toList.drop (l.off+k.cells.length+vs'.length)).toArray=D:=rfl;rw[hDd];have SH:D.size=C.size:=by simp[D];omega
 have SI:∀i,i<k.cells.length+vs'.length->D[l.off+i]? =if i<k.cells.length then C[l.off+i]? else vs'[i-k.cells.length]? :=by
  intro i hi;simp only[D,List.getElem?_toArray,zaV,zab,zas,Array.length_toList,zav];have KL:min (l.off+k.cells.length) C.size=l.off+k.cells.length:=by omega
  rw[KL]
  by_cases h1:i<k.cells.length
  . rw[if_pos (by omega),if_pos (by omega),if_pos (by omega),if_pos h1];simp
  . rw[if_pos (by omega),if_neg (by omega),if_neg h1];congr 1;omega
 have hold:∀x c,(aG (H.put b none) (k.cells++vs)).get x=some c->x≠H.size->x≠b/\H.get x=some c/\f' x=f x:=by
  intro x c hx hne;have hlt:x<(H.put b none).size:=by have:=ag.ba hx;simp[aG]at this;simp;omega
  rw[aG,ag.fa _ _ _ hlt]at hx
  by_cases e:x=b
  . subst e;rw[ag.jb H x _ hb]at hx;cases hx
  . exact⟨e,by rwa [ag.ga _ _ _ _ e]at hx,by simp[f',hne]⟩
 have fk:∀c,(aG (H.put b none) (k.cells++vs)).get H.size=some c->c=⟨k.cells++vs⟩:=by
  intro c hx;have:=(ag.aM hx).1;rw[aG,ag.bW]at this;simpa using this.symm
 have hbl:b<H.size:=ag.ba hb;refine⟨f',hf0,⟨hle, ?_, ?_,rfl,rfl, ?_,by simp,rfl,rfl,rfl, ?_, ?_⟩,⟨?_, ?_, ?_, ?_⟩⟩
 . intro x hx;simp[aG]at hx
   by_cases e:x=H.size
   . omega
   . simp[f',e]
 . simp[aG]
 . intro x hx hlk;have:=aO.1 hm;rw[aG,ag.bW,if_neg (by simp;omega),ag.cT,if_neg (by omega)]
 . intro cb _ hn;exact setRow_other w l.blk cb _ (fun ex=>hn ⟨b,k,l,hb,hm,hl,ex.symm⟩)
 . intro cb _ ⟨x,c,m,hx,hxm,hfm,hcb⟩
   by_cases e:x=H.size
   . subst e;rw[hf0]at hfm;cases hfm;exact⟨b,k,l,hb,hm,hl,hcb⟩
   . obtain⟨_,h1,h2⟩:=hold x c hx e;exact⟨x,c,m,h1,by simpa[aO,aG]using hxm,by rw[<-h2];exact hfm,hcb⟩
 . intro x c hx
   by_cases ex:x=H.size
   . subst ex;have:=fk c hx;subst this;refine⟨L,D,e,(0,0),hf0,setRow_heap w l.blk C _ e (0,0) hw, ?_, ?_⟩
     . intro i v hi;have hil:i<k.cells.length+vs'.length:=by
        have h1:=(zao.1 hi).1;have h2:=hv.1;simp at h1;omega
       have hD:=SI i hil;show bj v=true/\∃v',D[l.off+i]? =some v'/\V f' v v';rw[hD];simp only[zaV]at hi
       by_cases h1:i<k.cells.length
       . rw[if_pos h1]at hi⊢;obtain⟨a1,v',a2,a3⟩:=hcs i v hi;exact⟨a1,v',a2,a3.mono hle⟩
       . rw[if_neg h1]at hi⊢;obtain⟨v',a2,a3⟩:=hv.get hi;exact⟨hc v (zaQ hi),v',a2,a3.mono hle⟩
     . intro _;refine⟨rfl, ?_⟩;show l.room<=D.size;omega
   . obtain⟨hxb,h1,h2⟩:=hold x c hx ex;obtain⟨m,C',e',fr,hfm,hw',Z5,Z6⟩:=hR.blk x c h1;have Z7:m.blk≠l.blk:=zcn (hR.inj b x k c l m hb h1 hm (zcn hxb) hl hfm);refine⟨m,C',e',fr,by rw[h2];exact hfm,by rw[setRow_other w l.blk m.blk _ Z7];exact hw', ?_,fun hxm=>Z6 (by simpa[aO,aG]using hxm)⟩;intro i v hi;obtain⟨a1,v',a2,a3⟩:=Z5 i v hi;exact⟨a1,v',a2,a3.mono hle⟩
 . intro x m hx;rw[setRow_size]
   by_cases ex:x=H.size
   . subst ex;rw[hf0]at hx;cases hx;exact hR.big b l hl
   . exact hR.big x m (by simpa[f',ex]using hx)
 . have:=hR.lk;simp[aG];omega
 . intro x y c d m n hx hy hxm hne hfm hfn
   by_cases ex:x=H.size
   . subst ex;rw[hf0]at hfm;cases hfm;obtain⟨hyb,h3,h4⟩:=hold y d hy (zcn hne);exact hR.inj b y k d l n hb h3 hm (zcn hyb) hl (by rw[<-h4];exact hfn)
   . obtain⟨hxb,h1,h2⟩:=hold x c hx ex;have adm:H.sm x c=true:=by simpa[aO,aG]using hxm
     by_cases ey:y=H.size
     . subst ey;rw[hf0]at hfn;cases hfn;exact hR.inj x b c k m l h1 hb adm hxb (by rw[<-h2];exact hfm) hl
     . obtain⟨hyb,h3,h4⟩:=hold y d hy ey;exact hR.inj x y c d m n h1 h3 adm hne (by rw[<-h2];exact hfm) (by rw[<-h4];exact hfn)
theorem gK (hR:R f H w) {size n:Nat} {x x':Value} {cs:List Value} (hx:V f x x') (hn:∀a m c,x= .slice a m c->n<=m) (h:bg H size n x=some cs):
 cs.length=n*size/\∃cs',VL f cs cs'/\(∀u∈cs,bj u=true)/\(Builtin.firstCells size n x').run P w= .ok cs'.toArray w/\
  (n=0\/∃a m c,x'= .slice (some a) m c/\∀(j:Nat) v,cs'[j]? =some v->w.cell? (a.add j)=some v):=by
 unfold bg at h
 split at h
 . cases hx
   split at h
   . rename_i h0;cases h;subst h0;exact⟨by simp,[],.nil f,by simp,by simp[Builtin.firstCells],.inl rfl⟩
   . cases h
 . rename_i b off sp m c;obtain⟨hlen,l,C,e,fr,hl,hw,cs',hvl,dN,hc⟩:=hR.cells h
   by_cases h0:n=0
   . subst h0;have:cs=[]:=by simpa using hlen
     subst this;cases hx<;>exact⟨by simp,[],.nil f,by simp,by simp[Builtin.firstCells,loadCells,loadCellsFrom],.inl rfl⟩
   . cases hx with
     |slX _ _ _ _ l2 a hl2 ha=>
      rw[hl]at hl2;cases hl2;have ha:a=⟨l.blk,l.off+off,none⟩:=by
       rcases ha with h|h
       . exact h
       . have:=hn _ _ _ rfl;omega
      subst ha;have hcc:∀(j:Nat) v,cs'[j]? =some v->w.cell? ((⟨l.blk,l.off+off,none⟩:Addr).add j)=some v:=by
       intro j v hj;rw[Addr.add_eq,cellAt hw];exact hc j v hj
      refine⟨hlen,cs',hvl,dN, ?_,.inr ⟨_,_,_,rfl,hcc⟩⟩;exact run_firstCells_some w size n _ m c cs' (by rw[<-hvl.1];exact hlen) hcc
     |slL _ _ _ _ _ lT c' l2 hl2 hnc hcc hr ho=>
      rw[hl]at hl2;cases hl2;have:=hn _ _ _ rfl;have:lT=l.off+off:=ho (by omega);subst this;have hcc:∀(j:Nat) v,cs'[j]? =some v->w.cell? ((⟨l.blk,l.off+off,none⟩:Addr).add j)=some v:=by
       intro j v hj;rw[Addr.add_eq,cellAt hw];exact hc j v hj
      refine⟨hlen,cs',hvl,dN, ?_,.inr ⟨_,_,_,rfl,hcc⟩⟩;exact run_firstCells_some w size n _ m c' cs' (by rw[<-hvl.1];exact hlen) hcc
 . cases h
end
end
end Go.Proofs.YtfaojedfnjdnnaaGreat.Ev
namespace Go.Proofs.YtfaojedfnjdnnaaGreat.Ev
noncomputable section
open Go
section
variable {P : Program} {f : Fm} {H : ag} {w : World}
theorem jV {t ty e:TypeId} {i:TypeInfo} (ht:P.underlying t=some (.slice e)) (hi:P.info? e=some i)
 {g o sLen sCap:Nat} {cur:Array Value} {e':TypeId} (hg:w.heap[g]? =some (.cells cur e' (0,0)))
 {x:Value} {a:Addr} {m c:Nat} (hx:x= .slice (some a) m c) {news:List Value} (hf:(Builtin.firstCells i.size m x).run P w= .ok news.toArray w) (hc:∀u∈news,bj u=true)
 (kV:sLen+m<=sCap) (qy:o+sLen*i.size+news.length<=cur.size):
 (Builtin.append_ #[t,t] ty #[.slice (some ⟨g,o,none⟩) sLen sCap,x]).run P w=
  .ok (.slice (some ⟨g,o,none⟩) (sLen+m) sCap) (w.setRow g (cur.toList.take (o+sLen*i.size)++news++cur.toList.drop (o+sLen*i.size+news.length)).toArray):=by
 subst hx;have hst:=run_storeCells_at P g (o+sLen*i.size) e' news 0 cur w hg (by simpa using qy) (fun u hu=>su (hc u hu));simp only[zbc]at hst;simp[Builtin.append_,run_underlying ht,sizeOf,typeInfo,hi,Builtin.lenOf,kV,hf,Addr.add_eq,hst]
theorem lz {t ty e:TypeId} {i:TypeInfo} (ht:P.underlying t=some (.slice e)) (hi:P.info? e=some i)
 {a b:Option Addr} {sLen sCap c:Nat} (kV:sLen<=sCap):
 (Builtin.append_ #[t,t] ty #[.slice a sLen sCap,.slice b 0 c]).run P w= .ok (.slice a sLen sCap) w:=by
 cases a<;>cases b<;>simp[Builtin.append_,run_underlying ht,sizeOf,typeInfo,hi,Builtin.lenOf,kV,Builtin.firstCells,loadCells,loadCellsFrom,storeCells]
theorem xB (z:Array Value) (n:Nat):(Builtin.zeroCells z n).size=n*z.size:=by simp[Builtin.zeroCells]
theorem sw {olds news:List Value} {z:Array Value} {need cap size:Nat} (hlen:olds.length+news.length=need*size) (hz:z.size=size) (hge:need<=cap):
 (olds.toArray++news.toArray++Builtin.zeroCells z (cap-need)).size=cap*size:=by
 simp only[Array.size_append,zcd,xB,hz,hlen,<-za2]
 congr 1;omega
theorem VL.pY {cs cs':List Value} (h:VL f cs cs') (_hc:∀u∈cs,bj u=true) (rest:Array Value):
 ∀(i:Nat) v,cs[i]? =some v->∃v',(cs'.toArray++rest)[i]? =some v'/\V f v v':=by
 intro i v hi;obtain⟨v',h1,h2⟩:=h.get hi;have hlt:i<cs'.length:=(zao.1 h1).1;refine⟨v', ?_,h2⟩;rw[Array.getElem?_append,if_pos (by simpa using hlt)];simpa using h1
theorem sL {s s':Value} (h:V f s s') {a:Option Addr} {n c:Nat} (hs:s= .slice a n c):∃a' c',s'= .slice a' n c':=by
 subst hs;cases h with
 |du=>exact⟨_,_,rfl⟩
 |slX=>exact⟨_,_,rfl⟩
 |slL=>exact⟨_,_,rfl⟩
theorem Hl (hR:R f H w) {t u ty:TypeId} {s s' x x' v:Value} {H':ag} (bo:∀j,H.size<=j->j<H'.size->f j=none) (hs:V f s s') (hx:V f x x')
 (h:AH P H t u s x=some (v,H')):
 ∃f' w' v',(Builtin.append_ #[t,u] ty #[s',x']).run P w= .ok v' w'/\V f' v v'/\Stp f H w f' H' w'/\R f' H' w':=by
 unfold AH at h
 split at h
 case h_2=>cases h
 rename_i elem kn k n hu hun;cases hs;cases hx
 split at h
 case h_2=>cases h
 rename_i i hi
 split at h
 case h_2=>cases h
 rename_i z hz
 split at h
 case h_2=>cases h
 rename_i zc hzc
 split at h
 case isFalse=>cases h
 rename_i hc;obtain⟨hzl,Wt,h0,Ih,BD⟩:=hc;obtain⟨e1,hvl,dN⟩:=lY f hzc;have hzs:z.cells.size=i.size:=by rw[<-hzl,<-e1];simp
 split at h
 . rename_i hn;cases h;obtain rfl:n=0:=by omega
   refine⟨f,w,.slice none 0 0, ?_,.du,.refl f H w,hR⟩;simp[Builtin.append_,run_underlying hu,run_underlying hun,sizeOf,typeInfo,hi,asInt,asIntOf,show IntKind.i64.wrap 0=0 by decide]
 . rename_i m hn;cases h;obtain rfl:n=((m+1:Nat):Int):=by omega
   have hb:(m+1)*i.bytes<35184372088832:=by simpa using BD
   have hr:=Lib.run_append_nil_zeros (P:=P) w t u ty elem i z k kn hu hun hi hz (m+1) (by omega) Wt (by omega) (by omega);have hge:=grownCap_ge w (m+1) 0 elem;have hm:Builtin.zeroCells z.cells (m+1)=(List.replicate (m+1) zc).flatten.toArray:=by
    have:=mG z.cells (m+1) (.inl (by omega));rw[e1]at this;exact this
   rw[hm]at hr;have hfl:(List.replicate (m+1) zc).flatten.length=(m+1)*i.size:=by simp[List.length_flatten,hzl]
   have kV:=sw (olds:=[]) (news:=(List.replicate (m+1) zc).flatten) (z:=z.cells) (need:=m+1) (cap:=grownCap w (m+1) 0 elem) (size:=i.size) (by simpa using hfl) hzs hge;have kV:((List.replicate (m+1) zc).flatten.toArray++Builtin.zeroCells z.cells (grownCap w (m+1) 0 elem-(m+1))).size=grownCap w (m+1) 0 elem*i.size:=by simpa using kV
   have FO:VL f (List.replicate (m+1) zc).flatten (List.replicate (m+1) zc).flatten:=hvl.dI (m+1);have oZ:=fQ dN (m+1);obtain⟨f',g1,g2,g3⟩:=hR.drew.push (bo _ (zap _) (by simp[aG])) (grownCap w (m+1) 0 elem*i.size) (List.replicate (m+1) zc).flatten
    ((List.replicate (m+1) zc).flatten.toArray++Builtin.zeroCells z.cells (grownCap w (m+1) 0 elem-(m+1))) elem oZ (FO.pY oZ _) (by rw[kV];exact zap _)
   refine⟨f',_,_,hr, ?_,g2.drew,g3⟩;exact .slL H.size 0 i.size _ _ 0 _ _ g1 (zap _) hge (by simp) (fun _=>rfl)
theorem BK (hR:R f H w) {t u ty:TypeId} {s s' x x' v:Value} {H':ag} (bo:∀j,H.size<=j->j<H'.size->f j=none) (hs:V f s s') (hx:V f x x')
 (h:eg P H t u s x=some (v,H')):
 ∃f' w' v',(Builtin.append_ #[t,u] ty #[s',x']).run P w= .ok v' w'/\V f' v v'/\Stp f H w f' H' w'/\R f' H' w':=by
 unfold eg at h
 split at h
 case isFalse=>exact Hl hR bo hs hx h
 rename_i htu;subst htu
 split at h
 case h_2=>cases h
 rename_i elem base sLen sCap xa n xc hu;cases hi:P.info? elem with
 |none=>simp[hi]at h
 |some i=>
 cases hz:i.zero with
 |none=>simp[hi,hz]at h
 |some z=>
 simp only[hi,hz]at h
 split at h
 case h_2=>cases h
 rename_i zc new hzc fk
 split at h
 case isFalse=>cases h
 rename_i eK;obtain⟨hzl,Wt,hlc,Ih,BD⟩:=eK;obtain⟨e1,hzvl,afq⟩:=lY f hzc;have hzs:z.cells.size=i.size:=by rw[<-hzl,<-e1];simp
 obtain⟨xa',xc',hx'⟩:=sL hx rfl;obtain⟨adn,tY,FO,oZ,MS,Z9⟩:=gK (P:=P) hR hx (by intro a m c e;cases e;exact zap _) fk;have Ok:tY.length=n*i.size:=by rw[<-FO.1];exact adn
 have FP:∀u∈tY,bj u=true:=by
  intro u hu';obtain⟨j,hj⟩:=zbK hu';have hjl:j<new.length:=by rw[FO.1];exact(zao.1 hj).1
  rw[(FO.2 j _ _ (zah hjl) hj).cell];exact oZ _ (zbw hjl)
 split at h
 ·
  cases h;subst hx';cases hs with
  |du=>exact⟨f,w,_,lz hu hi (zap _),.du,.refl f H w,hR⟩
  |slX b off _ _ l a hl ha=>exact⟨f,w,_,lz hu hi hlc,.slX b off _ _ l a hl ha,.refl f H w,hR⟩
  |slL b off e _ _ lT c' l hl h1 h2 h3 h4=>exact⟨f,w,_,lz hu hi (by omega),.slL b off e _ _ lT c' l hl h1 h2 h3 h4,.refl f H w,hR⟩
 rename_i n0 m;have BD:(sLen+(m+1))*i.bytes<35184372088832:=BD;have Ih:sLen+(m+1)<1099511627776:=Ih;have Ok:tY.length=(m+1)*i.size:=Ok;rcases Z9 with h0|⟨xad,xm,xcc,hxe,hxc⟩
 . omega
 have hxm:xm=m+1:=by rw[hx']at hxe;cases hxe;rfl
 subst hxm;rw[hxe]at MS⊢
 split at h
 ·
  cases h;cases hs;have hr:=run_append_nil (P:=P) w t ty elem i z hu hi hz xad (m+1) xcc tY Ok hxc (by omega) (by omega) (by simp at BD;omega);have hge:=grownCap_ge w (m+1) 0 elem;have kV:=sw (olds:=[]) (news:=tY) (z:=z.cells) (need:=m+1) (cap:=grownCap w (m+1) 0 elem) (size:=i.size) (by simpa using Ok) hzs hge;have kV:(tY.toArray++Builtin.zeroCells z.cells (grownCap w (m+1) 0 elem-(m+1))).size=grownCap w (m+1) 0 elem*i.size:=by simpa using kV
  obtain⟨f',g1,g2,g3⟩:=hR.drew.push (bo _ (zap _) (by simp[aG])) (grownCap w (m+1) 0 elem*i.size) new
   (tY.toArray++Builtin.zeroCells z.cells (grownCap w (m+1) 0 elem-(m+1))) elem oZ (FO.pY oZ _) (by rw[kV];exact zap _)
  refine⟨f',_,_,hr, ?_,g2.drew,g3⟩;exact .slL H.size 0 i.size _ _ 0 _ _ g1 (zap _) hge (by simp) (fun _=>rfl)
 . rename_i b off sp
   split at h
   ·
    rename_i Dn;have Dn:sLen+(m+1)<=sCap:=by simpa using Dn
    simp only[zai]at h;obtain⟨H2,mJ,hv⟩:=h;cases hv;obtain⟨l,C,e,hl,hw,qy,SJ,hR'⟩:=hR.store mJ FO oZ;rw[<-zbe]at qy SJ hR';cases hs with
    |slX _ _ _ _ l2 a hl2 ha=>
     rw[hl]at hl2;cases hl2;have ha:a=⟨l.blk,l.off+off,none⟩:=by rcases ha with h|h;exact h;omega
     subst ha;exact⟨f,_,_,jV hu hi hw rfl MS FP Dn qy,.slX b off _ _ l _ hl (.inl rfl),SJ,hR'⟩
    |slL _ _ e2 _ _ lT c' l2 hl2 h1 h2 h3 h4=>
     rw[hl]at hl2;cases hl2;have:lT=l.off+off:=h4 (by omega);subst this;exact⟨f,_,_,jV hu hi hw rfl MS FP (by omega) qy,.slL b off e2 _ _ _ c' l hl (by omega) h2 h3 h4,SJ,hR'⟩
   . rename_i Dn;have Dn:¬(sLen+(m+1)<=sCap):=by simpa using Dn
     split at h
     case h_2=>cases h
     rename_i old hold;obtain⟨WM,xG,ado,aaa,afO,SK⟩:=gK (P:=P) hR hs (by intro a m' c e;cases e;exact zap _) hold;have Wu:xG.length=sLen*i.size:=by rw[<-ado.1];exact WM
     have kW:=ado.append FO;have WN:∀u∈old++new,bj u=true:=by
      intro u hu';rcases za0.1 hu' with h1|h1
      . exact aaa u h1
      . exact oZ u h1
     have aab:xG.length+tY.length=(sLen+(m+1))*i.size:=by rw[Wu,Ok];exact(za2 _ _ _).symm
     have hgrow:∀(b':Addr) (cap:Nat) (H1:ag),Stp f H w f H1 w->R f H1 w->H1.size=H.size->(f H.size=none)->sLen<=cap->cap<sLen+(m+1)->
      (sLen=0\/∀(j:Nat) u,xG[j]? =some u->w.cell? (b'.add j)=some u)->
      ∃f' w' v',(Builtin.append_ #[t,t] ty #[.slice (some b') sLen cap,.slice (some xad) (m+1) xcc]).run P w= .ok v' w'/\
       V f' (.slice (some ⟨H.size,0,some i.size⟩) (sLen+(m+1)) (sLen+(m+1))) v'/\Stp f H w f' (aG H1 (old++new)) w'/\R f' (aG H1 (old++new)) w':=by
      intro b' cap H1 hs1 hR1 FQ hf0 afr hlt SL;have aac:∀(j:Nat) u,xG[j]? =some u->w.cell? (b'.add j)=some u:=by
       rcases SL with h0|h1
       . intro j u hj;have:xG=[]:=by rw[h0]at Wu;simpa using Wu
         rw[this]at hj;simp at hj
       . exact h1
      have hr:=run_append_grow (P:=P) w t ty elem i z hu hi hz b' sLen cap xG Wu aac xad (m+1) xcc tY Ok hxc hlt (by omega) (growslice_fits hlt (by omega));have hge:=grownCap_ge w (sLen+(m+1)) cap elem;have kV:=sw (olds:=xG) (news:=tY) (z:=z.cells) (need:=sLen+(m+1)) (cap:=grownCap w (sLen+(m+1)) cap elem) (size:=i.size) aab hzs hge;have hcc:xG.toArray++tY.toArray=(xG++tY).toArray:=by simp
      rw[hcc]at hr kV;obtain⟨f',g1,g2,g3⟩:=hR1.drew.push (by rw[FQ];exact hf0) (grownCap w (sLen+(m+1)) cap elem*i.size) (old++new)
       ((xG++tY).toArray++Builtin.zeroCells z.cells (grownCap w (sLen+(m+1)) cap elem-(sLen+(m+1)))) elem WN (kW.pY WN _) (by rw[kV];exact zap _)
      refine⟨f',_,_,hr, ?_,hs1.trans g2.drew,g3⟩;rw[<-FQ];exact .slL H1.size 0 i.size _ _ 0 _ _ g1 (zap _) hge (by simp) (fun _=>rfl)
     split at h
     ·
      rename_i e
      split at h
      case h_2=>cases h
      rename_i k hk
      split at h
      case isFalse=>cases h
      rename_i SM;simp only[zae,zaI,zag]at SM;obtain⟨⟨⟨⟨Ii,afs⟩,aft⟩,hcl⟩,rh⟩:=SM;subst aft;subst afs;cases h;have hf0:f H.size=none:=bo _ (zap _) (by simp[aG]);obtain⟨hd1,hd2⟩:=hR.drop hk Ii;obtain⟨l2,C,e,fr,hl2,hw,sE,hmm⟩:=hR.blk b k hk;obtain⟨hfr,hrm⟩:=hmm Ii;subst hfr;have hkc:k.cells=old:=by
       simp only[bg,cV,hk]at hold
       split at hold
       . have e2:=zbL hold;rw[<-e2,zbQ,zbq (by omega)]
       . cases hold
      cases hs with
      |slL _ _ _ _ _ lT c' l hl h1 h2 h3 h4=>
       have e3:l2=l:=zbL (hl2.symm.trans hl);rw[e3]at hw sE hrm;have WO:lT=l.off+0:=h4 (by omega);rw[zbc]at WO;subst WO
       by_cases KO:sLen+(m+1)<=c'
       ·
        have hle:l.off+(sLen+(m+1))*i.size<=C.size:=by
         have:(sLen+(m+1))*i.size<=c'*i.size:=zaR _ KO;omega
        have qy:l.off+k.cells.length+tY.length<=C.size:=by
         rw[za2]at hle;omega
        obtain⟨f',g1,g2,g3⟩:=hR.move hf0 hk Ii hl hw FO oZ qy;rw[hkc]at g2 g3;rw[WM]at g2 g3;refine⟨f',_,_,jV hu hi hw rfl MS FP KO (by rw[<-hcl];exact qy), ?_,g2,g3⟩;exact V.slL H.size 0 i.size _ _ l.off c' ⟨l.blk,l.off,l.room⟩ g1 (zap _) KO h3 (fun _=>rfl)
       . have hoa:sLen=0\/∀(j:Nat) u,xG[j]? =some u->w.cell? ((⟨l.blk,l.off,none⟩:Addr).add j)=some u:=by
          rcases SK with h0|⟨a,m',c,he,hc⟩
          . exact .inl h0
          . cases he;exact .inr hc
         obtain⟨f',w',v',r1,r2,r3,r4⟩:=hgrow ⟨l.blk,l.off,none⟩ c' (H.put b none) hd1 hd2 rfl hf0 (by omega) (by omega) hoa;exact⟨f',w',v',r1,r2,r3,r4⟩
     ·
      cases h;have hf0:f H.size=none:=bo _ (zap _) (by simp[aG]);cases hs with
      |slX _ _ _ _ l a0 hl ha=>
       have hoa:sLen=0\/∀(j:Nat) u,xG[j]? =some u->w.cell? (a0.add j)=some u:=by
        rcases SK with h0|⟨a,m',c,he,hc⟩
        . exact .inl h0
        . cases he;exact .inr hc
       obtain⟨f',w',v',r1,r2,r3,r4⟩:=hgrow a0 sCap H (.refl f H w) hR rfl hf0 hlc (by omega) hoa;exact⟨f',w',v',r1,r2,r3,r4⟩
end
end
end Go.Proofs.YtfaojedfnjdnnaaGreat.Ev
namespace Go.Proofs.YtfaojedfnjdnnaaGreat.Ev
noncomputable section
open Go
section
variable {P : Program} {f : Fm} {H : ag} {w : World}
theorem Gm (hR:R f H w) {t u ty:TypeId} {d d' s s' v:Value} {H':ag} (hd:V f d d') (hs:V f s s') (h:rj P H t u d s=some (v,H')):
 ∃w' v',(Builtin.copy_ #[t,u] ty #[d',s']).run P w= .ok v' w'/\V f v v'/\Stp f H w f H' w'/\R f H' w':=by
 unfold rj at h
 split at h
 case h_2=>cases h
 rename_i elem db dLen dCap sb sLen sCap hu;cases hi:P.info? elem with
 |none=>simp[hi]at h
 |some i=>
 simp only[hi]at h;obtain⟨sa,sc,hs'⟩:=sL hs rfl;obtain⟨da,dc,hd'⟩:=sL hd rfl
 split at h
 ·
  rename_i hcs;cases h;obtain⟨hlen,cs',hvl,dN,vQ,_⟩:=gK (P:=P) hR hs (by intro a m c e;cases e;exact Nat.min_le_left _ _) hcs;have hnil:cs'=[]:=by have:=hvl.1;simpa using this.symm
  subst hnil;subst hs';subst hd';refine⟨w,_, ?_,.int .i64 _,.refl f H w,hR⟩;have SN:(Builtin.firstCells i.size (Nat.min sLen dLen) (.slice sa sLen sc)).run P w= .ok #[] w:=vQ;cases da<;>simp[Builtin.copy_,run_underlying hu,Builtin.lenOf,sizeOf,typeInfo,hi,SN,storeCells,goInt]
 . rename_i cs hne hcs;obtain⟨hlen,cs',hvl,dN,vQ,_⟩:=gK (P:=P) hR hs (by intro a m c e;cases e;exact Nat.min_le_left _ _) hcs
   split at h
   . cases h
   . rename_i b off sp;simp only[zai]at h;obtain⟨H2,mJ,hv⟩:=h;cases hv;obtain⟨l,C,e,hl,hw,qy,SJ,hR'⟩:=hR.store mJ hvl dN;have KM:∀u∈cs',bj u=true:=by
      intro u hu';obtain⟨j,hj⟩:=zbK hu';have hjl:j<cs.length:=by rw[hvl.1];exact(zao.1 hj).1
      rw[(hvl.2 j _ _ (zah hjl) hj).cell];exact dN _ (zbw hjl)
     have hst:=run_storeCells_at P l.blk (l.off+off) e cs' 0 C w hw (by simpa using qy) (fun u hu=>su (KM u hu));simp only[zbc]at hst;have SN:(Builtin.firstCells i.size (Nat.min sLen dLen) (.slice sa sLen sc)).run P w= .ok cs'.toArray w:=by subst hs';exact vQ
     have SL:da=some ⟨l.blk,l.off+off,none⟩:=by
      subst hd';cases hd with
      |slX _ _ _ _ l2 a hl2 ha=>
       rw[hl]at hl2;cases hl2;rcases ha with h|⟨h,_⟩
       . rw[h]
       . have:cs.length=0:=by rw[hlen,h];simp
         exact absurd (zaB this) (fun e=>hne e)
      |slL _ _ _ _ _ lT c' l2 hl2 h1 h2 h3 h4=>
       rw[hl]at hl2;cases hl2;have rh:0<dLen:=by
        rcases Nat.eq_zero_or_pos dLen with h0|h0
        . have:cs.length=0:=by rw[hlen,h0];simp
          exact absurd (zaB this) (fun e=>hne e)
        . exact h0
       rw[h4 (by omega)]
     subst hs';subst hd';subst SL;refine⟨_,_, ?_,.int .i64 _,SJ,hR'⟩;simp[Builtin.copy_,run_underlying hu,Builtin.lenOf,sizeOf,typeInfo,hi,SN,hst,goInt]
 . cases h
theorem VL.cons_inv {x:Value} {xs ys:List Value} (h:VL f (x::xs) ys):∃y r,ys=y::r/\V f x y/\VL f xs r:=by
 cases ys with
 |nil=>have:=h.1;simp at this
 |cons y r=>exact⟨y,r,rfl,h.2 0 _ _ (by simp) (by simp),by have:=h.1;simpa using this,fun i v v' a b=>h.2 (i+1) v v' (by simpa using a) (by simpa using b)⟩
theorem VL.qS {ys:List Value} (h:VL f [] ys):ys=[]:=by have:=h.1;simpa using this.symm
theorem VL.one {x:Value} {ys:List Value} (h:VL f [x] ys):∃y,ys=[y]/\V f x y:=by
 obtain⟨y,r,rfl,h0,h1⟩:=h.cons_inv;rw[h1.qS];exact⟨y,rfl,h0⟩
theorem VL.two {x u:Value} {ys:List Value} (h:VL f [x,u] ys):∃y z,ys=[y,z]/\V f x y/\V f u z:=by
 obtain⟨y,r,rfl,h0,h1⟩:=h.cons_inv;obtain⟨z,rfl,h2⟩:=h1.one;exact⟨y,z,rfl,h0,h2⟩
theorem CA:∀l:List Value,l.foldl Gi none=none
 |[]=>rfl
 |_::l=>CA l
theorem Rq:∀(rest dY:List Value) (k:IntKind) (x:Int),VL f rest dY->∀v,rest.foldl Gi (some (.int k x))=some v->
 (dY.foldlM Builtin.min2 (.int k x)).run P w= .ok v w/\V f v v:=by
 intro rest
 induction rest with
 |nil=>
  intro dY k x hr v hv;have:dY=[]:=by have:=hr.1;simpa using this.symm
  subst this;simp at hv;subst hv;exact⟨by simp,.int _ _⟩
 |cons y rest ih=>
  intro dY k x hr v hv;obtain⟨y',r',rfl,h0,ht⟩:=hr.cons_inv;rw[zbX]at hv;cases h0
  case int k2 n=>
   obtain⟨h1,h2⟩:=ih r' k _ ht v hv;exact⟨by simp only[List.foldlM_cons,Sem.run_bind,Builtin.min2,Sem.run_pure,Result.andThen_ok];exact h1,h2⟩
  all_goals (have hv':List.foldl Gi none rest=some v:=hv;rw[CA]at hv';cases hv')
theorem JY {ts:Array TypeId} {t:TypeId} {xs xs':List Value} {v:Value} (hx:VL f xs xs') (h:Ul xs=some v):
 (Builtin.min_ ts t xs'.toArray).run P w= .ok v w/\V f v v:=by
 unfold Ul at h
 split at h
 . rename_i k x rest;obtain⟨y',r',rfl,h0,ht⟩:=hx.cons_inv;cases h0;exact Rq rest r' k x ht v h
 . cases h
theorem Ci:∀l:List Value,l.foldl GC none=none
 |[]=>rfl
 |_::l=>Ci l
theorem O1:∀(rest dY:List Value) (k:IntKind) (x:Int),VL f rest dY->∀v,rest.foldl GC (some (.int k x))=some v->
 (dY.foldlM Builtin.max2 (.int k x)).run P w= .ok v w/\V f v v:=by
 intro rest
 induction rest with
 |nil=>
  intro dY k x hr v hv;have:dY=[]:=by have:=hr.1;simpa using this.symm
  subst this;simp at hv;subst hv;exact⟨by simp,.int _ _⟩
 |cons y rest ih=>
  intro dY k x hr v hv;obtain⟨y',r',rfl,h0,ht⟩:=hr.cons_inv;rw[zbX]at hv;cases h0
  case int k2 n=>
   obtain⟨h1,h2⟩:=ih r' k _ ht v hv;exact⟨by simp only[List.foldlM_cons,Sem.run_bind,Builtin.max2,Sem.run_pure,Result.andThen_ok];exact h1,h2⟩
  all_goals (have hv':List.foldl GC none rest=some v:=hv;rw[Ci]at hv';cases hv')
theorem IB {ts:Array TypeId} {t:TypeId} {xs xs':List Value} {v:Value} (hx:VL f xs xs') (h:UT xs=some v):
 (Builtin.max_ ts t xs'.toArray).run P w= .ok v w/\V f v v:=by
 unfold UT at h
 split at h
 . rename_i k x rest;obtain⟨y',r',rfl,h0,ht⟩:=hx.cons_inv;cases h0;exact O1 rest r' k x ht v h
 . cases h
theorem zJ (hR:R f H w) {b:Builtin} {ts:Array TypeId} {ty:TypeId} {cs:Array Bool} {xs xs':List Value} {v:Value} {H':ag}
 (bo:∀j,H.size<=j->j<H'.size->f j=none) (hx:VL f xs xs') (h:jh P H b ts xs=some (v,H')):
 ∃f' w' v',(Go.builtin b ts ty cs xs'.toArray).run P w= .ok (.value v') w'/\V f' v v'/\Stp f H w f' H' w'/\R f' H' w':=by
 obtain⟨tl⟩:=ts;unfold jh at h
 split at h
 . split at h
   . rename_i t u s x hts;simp at hts;subst hts;obtain⟨s',x',rfl,h1,h2⟩:=hx.two;obtain⟨f',w',v',h1,h2⟩:=BK (ty:=ty) hR bo h1 h2 h;exact⟨f',w',v',by simp[Go.builtin,h1],h2⟩
   . cases h
 . split at h
   . rename_i t u s x hts;simp at hts;subst hts;obtain⟨s',x',rfl,h1,h2⟩:=hx.two;obtain⟨w',v',h1,h2⟩:=Gm (u:=u) (ty:=ty) hR h1 h2 h;exact⟨f,w',v',by simp[Go.builtin,h1],h2⟩
   . cases h
 . split at h
   . rename_i t x hts;simp at hts;subst hts;obtain⟨x',rfl,hv⟩:=hx.one
     split at h
     . rename_i e a n c hu;cases h;obtain⟨a',c',rfl⟩:=sL hv rfl;exact⟨f,w,_,by simp[Go.builtin,Builtin.len_,run_underlying hu,goInt],.int _ _,.refl f H w,hR⟩
     . rename_i n e y hu;cases h;exact⟨f,w,_,by simp[Go.builtin,Builtin.len_,run_underlying hu,goInt],.int _ _,.refl f H w,hR⟩
     . rename_i s hu;cases h;cases hv;exact⟨f,w,_,by simp[Go.builtin,Builtin.len_,run_underlying hu,goInt],.int _ _,.refl f H w,hR⟩
     . cases h
   . cases h
 . split at h
   . rename_i t hts;simp at hts;subst hts;obtain⟨x',rfl,hv⟩:=hx.one
     split at h
     . rename_i e hu;cases h;cases hv;exact⟨f,w,_,by simp[Go.builtin,Builtin.cap_,run_underlying hu,goInt],.int _ _,.refl f H w,hR⟩
     . cases h
   . rename_i t b off n c hts;simp at hts;subst hts;obtain⟨x',rfl,hv⟩:=hx.one
     split at h
     . rename_i e hu;cases h;cases hv with
       |slX b off _ _ l a hl ha=>exact⟨f,w,_,by simp[Go.builtin,Builtin.cap_,run_underlying hu,goInt],.int _ _,.refl f H w,hR⟩
     . cases h
   . cases h
 . simp only[zai]at h;obtain⟨u,hu,hv⟩:=h;cases hv;obtain⟨h1,h2⟩:=JY (P:=P) (w:=w) (ts:=⟨tl⟩) (t:=ty) hx hu;exact⟨f,w,_,by simp[Go.builtin,h1],h2,.refl f H w,hR⟩
 . simp only[zai]at h;obtain⟨u,hu,hv⟩:=h;cases hv;obtain⟨h1,h2⟩:=IB (P:=P) (w:=w) (ts:=⟨tl⟩) (t:=ty) hx hu;exact⟨f,w,_,by simp[Go.builtin,h1],h2,.refl f H w,hR⟩
 . cases h
end
end
end Go.Proofs.YtfaojedfnjdnnaaGreat.Ev
namespace Go.Proofs.YtfaojedfnjdnnaaGreat.Ev
noncomputable section
open Go
def OY (P:Program) (g:FuncId) (args:List Value) (H:ag) (v:Value) (H':ag):Prop:=
 (∃fn c,P.funcs[g]? =some fn/\fn.body=some c/\fn.name≠ "runtime.NumGoroutine")/\
 ∀(f:Fm) (w:World) (ju:List Value),R f H w->(∀j,H.size<=j->j<H'.size->f j=none)->VL f args ju->
  Calls P g ju.toArray w fun e w'=>∃f' v',e= .returned v'/\V f' v v'/\Stp f H w f' H' w'/\R f' H' w'
def zg (P:Program) (cl:FuncId->List Value->ag->Option (Value × ag)):Prop:=
 ∀g args H v H',cl g args H=some (v,H')->OY P g args H v H'
section
variable {P : Program} {f : Fm} {H : ag} {w : World} {cl : FuncId -> List Value -> ag -> Option (Value × ag)}
theorem tE {ρ:Operand->Option Value} {ρ':Operand->Value}:∀(ps:List (Nat × Operand)) (vs:List (Nat × Value)),(∀x∈ps.map (·.2),∀v,ρ x=some v->V f v (ρ' x))->
 qu ρ ps=some vs->PV f vs (ps.map fun(i,x)=>(i,ρ' x)):=by
 intro ps
 induction ps with
 |nil=>intro vs _ h;simp[qu]at h;subst h;exact .nil
 |cons p ps ih=>
  intro vs hr h;obtain⟨i,x⟩:=p;simp only[qu]at h
  split at h
  . rename_i v vs' hv hvs;cases h;cases hx:ρ x with
    |none=>simp[hx]at hv
    |some u=>
     simp only[hx,zcg]at hv;have huv:u=v:=by cases u<;>simp[oP]at hv<;>exact hv
     subst huv;exact .cons i u _ vs' _ (hr x (by simp) u hx) hv (ih vs' (fun y hy=>hr y (by simp at hy⊢;exact .inr hy)) hvs)
  . cases h
theorem mZ {ρ:Operand->Option Value} {ρ':Operand->Value}:∀(xs:List Operand) (vs:List Value),(∀x∈xs,∀v,ρ x=some v->V f v (ρ' x))->
 ru ρ xs=some vs->VL f vs (xs.map ρ'):=by
 intro xs
 induction xs with
 |nil=>intro vs _ h;simp[ru]at h;subst h;exact .nil f
 |cons x xs ih=>
  intro vs hr h;simp only[ru]at h
  split at h
  . rename_i v vs' hv hvs;cases h;exact .cons (hr x (by simp) v hv) (ih vs' (fun y hy=>hr y (by simp[hy])) hvs)
  . cases h
theorem rD {ρ:Operand->Option Value} {ρ':Operand->Value} {x:Option Operand} {v:Option Value} (hr:∀y∈x.toArray,∀v,ρ y=some v->V f v (ρ' y)) (h:Gc ρ x=some v):
 VO f v (x.map ρ'):=by
 cases x with
 |none=>simp[Gc]at h;subst h;trivial
 |some y=>
  simp[Gc]at h;obtain⟨u,hu,rfl⟩:=h;exact hr y (by simp) u hu
def Did (P:Program) (o:Oper) (ρ':Operand->Value) (f:Fm) (H:ag) (w:World) (v:Value) (H':ag):Prop:=
 ∃f' w' v',((execOp ρ' o).run P w= .ok (.value v') w'\/((execOp ρ' o).run P w= .ok .skip w'/\v'=undef))/\V f' v v'/\Stp f H w f' H' w'/\R f' H' w'
theorem Did.pure (hR:R f H w) {o:Oper} {ρ':Operand->Value} {v v':Value} (h:(execOp ρ' o).run P w= .ok (.value v') w) (hv:V f v v'):Did P o ρ' f H w v H:=
 ⟨f,w,v',.inl h,hv,.refl f H w,hR⟩
theorem ZS (hR:R f H w) {o:Oper} {ρ:Operand->Option Value} {ρ':Operand->Value} (hρ:∀x∈o.op.operands,∀v,ρ x=some v->V f v (ρ' x)) {v:Value} {H':ag}
 (bo:∀j,H.size<=j->j<H'.size->f j=none) (hnc:∀c g,o.op= .call c->c.callee≠.value g) (h:opE P cl ρ o H=some (v,H')):Did P o ρ' f H w v H':=by
 obtain⟨dst,op,type,pos,after,guard⟩:=o;simp only at hρ hnc;unfold opE at h;cases op<;>simp only at h<;>try (cases h;done)
 case move x=>
  simp only[zai]at h;obtain⟨u,hu,e⟩:=h;cases e;exact .pure hR (by simp[execOp]) (hρ x (by simp[Op.operands]) _ hu)
 case assign x=>
  simp only[zai]at h;obtain⟨u,hu,e⟩:=h;cases e;exact .pure hR (by simp[execOp]) (hρ x (by simp[Op.operands]) _ hu)
 case pick c a b=>
  split at h
  . rename_i t hc;simp only[zai]at h;obtain⟨u,hu,e⟩:=h;cases e;have hc':=hρ c (by simp[Op.operands]) _ hc;cases hcc:ρ' c<;>rw[hcc]at hc'<;>try (cases hc';done)
    cases hc';cases t with
    |true=>exact .pure hR (by simp[execOp,hcc,asBool]) (hρ a (by simp[Op.operands]) _ hu)
    |false=>exact .pure hR (by simp[execOp,hcc,asBool]) (hρ b (by simp[Op.operands]) _ hu)
  . cases h
 case alloc e=>
  split at h
  . rename_i z hz;simp only[zai]at h;obtain⟨cs,hcs,he⟩:=h;cases he;obtain⟨f',w',h1,h2,h3,h4⟩:=GX hR (bo _ (zap _) (by simp[aG])) e hz hcs;exact⟨f',w',_,.inl (by simp[execOp,h1]),h2,h3,h4⟩
  . cases h
 case box e x=>
  simp only[zai,zaM]at h;obtain⟨cs,⟨u,hu,hcs⟩,he⟩:=h;cases he;obtain⟨f',w',h1,h2,h3,h4⟩:=Oh (P:=P) hR (bo _ (zap _) (by simp[aG])) e (hρ x (by simp[Op.operands]) _ hu) hcs;exact⟨f',w',_,.inl (by simp[execOp,h1]),h2,h3,h4⟩
 case build t ps=>
  simp only[zai,zaM]at h;obtain⟨u,⟨vs,hvs,hb⟩,he⟩:=h;cases he;have hp:=tE (f:=f) (ρ':=ρ') ps.toList vs (fun x hx=>hρ x (by simpa[Op.operands]using hx)) hvs;obtain⟨v',h1,h2⟩:=Eo (P:=P) (w:=w) hp hb;refine .pure hR ?_ h2;have e:(ps.toList.map fun(i,x)=>(i,ρ' x)).toArray=ps.map fun(i,x)=>(i,ρ' x):=by
   apply Array.ext';simp only[Array.toList_map]
  rw[e]at h1;simp[execOp,h1]
 case buildSlice t n ps=>
  simp only[zaM]at h;obtain⟨vs,hvs,hb⟩:=h;have hp:=tE (f:=f) (ρ':=ρ') ps.toList vs (fun x hx=>hρ x (by simpa[Op.operands]using hx)) hvs;have hsz:H'.size=H.size+1:=by
   unfold fF at hb
   repeat' split at hb
   all_goals first|(cases hb;done)|(cases hb;simp[aG])
  obtain⟨f',w',v',h1,h2,h3,h4⟩:=sJ (P:=P) hR (bo _ (zap _) (by omega)) hp hb;have e:(ps.toList.map fun(i,x)=>(i,ρ' x)).toArray=ps.map fun(i,x)=>(i,ρ' x):=by
   apply Array.ext';simp only[Array.toList_map]
  rw[e]at h1;exact⟨f',w',v',.inl (by simp[execOp,h1]),h2,h3,h4⟩
 case load t a=>
  simp only[zai,zaM]at h;obtain⟨u,⟨p,hp,hl⟩,he⟩:=h;cases he;obtain⟨v',h1,h2⟩:=qa hR (hρ a (by simp[Op.operands]) _ hp) hl;exact .pure hR (by simp[execOp,h1]) h2
 case store t a x=>
  split at h
  . rename_i p u hp hu;simp only[zai]at h;obtain⟨H2,hs,he⟩:=h;cases he;obtain⟨w',h1,h2,h3⟩:=EL hR (hρ a (by simp[Op.operands]) _ hp) (hρ x (by simp[Op.operands]) _ hu) hs;exact⟨f,w',undef,.inr ⟨by simp[execOp,h1],rfl⟩,V.undef f,h2,h3⟩
  . cases h
 case nilCheck x=>
  split at h
  . rename_i a ha;cases h;have hv:=hρ x (by simp[Op.operands]) _ ha;cases hx:ρ' x<;>rw[hx]at hv<;>try (cases hv;done)
    rename_i a';cases a' with
    |none=>cases hv
    |some a'=>exact .pure hR (by simp[execOp,hx]) hv
  . rename_i a n c ha;cases h;have hv:=hρ x (by simp[Op.operands]) _ ha;cases hx:ρ' x<;>rw[hx]at hv<;>try (cases hv;done)
    exact .pure hR (by simp[execOp,hx]) hv
  . rename_i g y z ha;cases h;have hv:=hρ x (by simp[Op.operands]) _ ha;cases hx:ρ' x<;>rw[hx]at hv<;>try (cases hv;done)
    rename_i fn y' z';cases fn with
    |func g'=>exact .pure hR (by simp[execOp,hx]) hv
    |_=>cases hv
  . cases h
 case binOp op t x y ty=>
  split at h
  . rename_i a b ha hb;simp only[zai]at h;obtain⟨u,hu,he⟩:=h;cases he;obtain⟨h1,h2,h3⟩:=JG (w:=w) (hρ x (by simp[Op.operands]) _ ha) (hρ y (by simp[Op.operands]) _ hb) hu;exact .pure hR (by simp[execOp,h1,h2]) h3
  . cases h
 case unOp op t x=>
  simp only[zai,zaM]at h;obtain⟨u,⟨p,hp,hl⟩,he⟩:=h;cases he;obtain⟨h1,h2⟩:=M8 (P:=P) (w:=w) (hρ x (by simp[Op.operands]) _ hp) hl;exact .pure hR (by simp[execOp,h1]) h2
 case convert s d x=>
  simp only[zai,zaM]at h;obtain⟨u,⟨p,hp,hl⟩,he⟩:=h;cases he;obtain⟨h1,h2⟩:=Gx (P:=P) (w:=w) (hρ x (by simp[Op.operands]) _ hp) hl;exact .pure hR (by simp[execOp,h1]) h2
 case makeFunc fn a b=>
  split at h
  . rename_i g xs ys hxs hys;cases h;have v1:=mZ (f:=f) (ρ':=ρ') a.toList xs (fun x hx=>hρ x (by simp[Op.operands];exact .inl (by simpa using hx))) hxs;have v2:=mZ (f:=f) (ρ':=ρ') b.toList ys (fun x hx=>hρ x (by simp[Op.operands];exact .inr (by simpa using hx))) hys;refine .pure hR (v':= .func (.func g) (a.map ρ') (b.map ρ')) (by simp[execOp,Instr.makeFunc]) ?_
    refine .func g _ _ _ _ (by simpa using v1.1) (by simpa using v2.1) ?_ ?_
    . intro i u u' h1 h2;exact v1.2 i u u' (by simpa using h1) (by simpa using h2)
    . intro i u u' h1 h2;exact v2.2 i u u' (by simpa using h1) (by simpa using h2)
  . cases h
 case makeSlice t l c=>
  split at h
  . rename_i a b ha hb;have hsz:H'.size=H.size+1:=by
     unfold xr at h
     repeat' split at h
     all_goals first|(cases h;done)|(cases h;simp[aG])
    obtain⟨f',w',v',h1,h2,h3,h4⟩:=GN (P:=P) hR (bo _ (zap _) (by omega)) (hρ l (by simp[Op.operands]) _ ha) (hρ c (by simp[Op.operands]) _ hb) h;exact⟨f',w',v',.inl (by simp[execOp,h1]),h2,h3,h4⟩
  . cases h
 case slice t x lo hi mx=>
  cases mx with
  |some m=>
   cases hi with
   |none=>cases h
   |some hi=>
    simp only at h
    split at h
    . rename_i a l u q ha hl hu hq;simp only[zai]at h;obtain⟨r,hr,he⟩:=h;cases he;have e1:=rD (f:=f) (ρ':=ρ') (fun y hy=>hρ y (by simp[Op.operands]at hy⊢;simp[hy])) hl;obtain⟨v',h1,h2⟩:=BQ (P:=P) (w:=w) (hρ x (by simp[Op.operands]) _ ha) e1 (hρ hi (by simp[Op.operands]) _ hu) (hρ m (by simp[Op.operands]) _ hq) hr;exact .pure hR (by simp[execOp,h1]) h2
    . cases h
  |none=>
   simp only at h
   split at h
   . rename_i a l u ha hl hu;simp only[zai]at h;obtain⟨r,hr,he⟩:=h;cases he;have e1:=rD (f:=f) (ρ':=ρ') (fun y hy=>hρ y (by simp[Op.operands]at hy⊢;simp[hy])) hl;have e2:=rD (f:=f) (ρ':=ρ') (fun y hy=>hρ y (by simp[Op.operands]at hy⊢;simp[hy])) hu;obtain⟨v',h1,h2⟩:=EU (P:=P) (w:=w) (hρ x (by simp[Op.operands]) _ ha) e1 e2 hr;exact .pure hR (by simp[execOp,h1]) h2
   . cases h
 case fieldAddr s x n=>
  simp only[zai,zaM]at h;obtain⟨u,⟨p,hp,hl⟩,he⟩:=h;cases he;obtain⟨v',h1,h2⟩:=uq (P:=P) (w:=w) (hρ x (by simp[Op.operands]) _ hp) hl;exact .pure hR (by simp[execOp,h1]) h2
 case field s x n=>
  simp only[zai,zaM]at h;obtain⟨u,⟨p,hp,hl⟩,he⟩:=h;cases he;obtain⟨v',h1,h2⟩:=FM (P:=P) (w:=w) (hρ x (by simp[Op.operands]) _ hp) hl;exact .pure hR (by simp[execOp,h1]) h2
 case indexAddr t x i=>
  split at h
  . rename_i a b ha hb;simp only[zai]at h;obtain⟨u,hu,he⟩:=h;cases he;obtain⟨v',h1,h2⟩:=vA (P:=P) (w:=w) (hρ x (by simp[Op.operands]) _ ha) (hρ i (by simp[Op.operands]) _ hb) hu;exact .pure hR (by simp[execOp,h1]) h2
  . cases h
 case index t x i=>
  split at h
  . rename_i a b ha hb;simp only[zai]at h;obtain⟨u,hu,he⟩:=h;cases he;obtain⟨v',h1,h2⟩:=DX (P:=P) (w:=w) (hρ x (by simp[Op.operands]) _ ha) (hρ i (by simp[Op.operands]) _ hb) hu;exact .pure hR (by simp[execOp,h1]) h2
  . cases h
 case extract x n=>
  simp only[zai,zaM]at h;obtain⟨u,⟨p,hp,hl⟩,he⟩:=h;cases he;obtain⟨v',h1,h2⟩:=zu (P:=P) (w:=w) (hρ x (by simp[Op.operands]) _ hp) hl;exact .pure hR (by simp[execOp,h1]) h2
 case call c=>
  split at h
  . rename_i args tZ;have va:=mZ (f:=f) (ρ':=ρ') c.args.toList args (fun x hx=>hρ x (by simp[Op.operands,Call.operands];exact .inr (by simpa using hx))) tZ
    split at h
    . rename_i b hb;obtain⟨f',w',v',h1,h2⟩:=zJ (ty:=type) (cs:=c.args.map fun| .const _=>true|_=>false) hR bo va h;have e:(c.args.toList.map ρ').toArray=c.args.map ρ':=by
       apply Array.ext';simp only[Array.toList_map]
      rw[e]at h1;exact⟨f',w',v',.inl (by simp only[execOp,resolve,hb,invoke,Sem.run_bind,Sem.run_pure,Result.andThen_ok];exact h1),h2⟩
    . rename_i g hg;exact absurd hg (hnc c g rfl)
    . cases h
  . cases h
end
end
end Go.Proofs.YtfaojedfnjdnnaaGreat.Ev
namespace Go.Proofs.YtfaojedfnjdnnaaGreat.Ev
noncomputable section
open Go
inductive Kd where
 |pure
 |load
 |quiet
 |dj
def ff (L:List FuncId) (o:Oper):Kd:=
 match o.op with
 | .load .. => .load
 | .store .. => .dj
 | .alloc _=> .quiet
 | .box .. => .quiet
 | .buildSlice .. => .quiet
 | .makeSlice .. => .quiet
 | .call c=>
  match c.callee with
  | .builtin .append=> .quiet
  | .builtin .copy=> .dj
  | .builtin _=> .pure
  | .value (.func g)=>if L.contains g then .dj else .quiet
  | .value _=> .quiet
  | .invoke .. => .dj
 |_=> .pure
def kM (o:Oper):Bool:=
 match o.op with
 | .call c=>(match c.callee with| .builtin .append=>true|_=>false)
 |_=>false
structure Rec where
 kind:Kd
 v:Value
 h0:ag
 h1:ag
 ld:Option (TypeId × Value)
def eS (p:Nat->Bool):List Rec->Nat->List (Nat × Nat)
 |[],_=>[]
 |r::rs,k=>if p k then eS p rs (k+1)else(r.h0.size,r.h1.size)::eS p rs (k+1)
def dv (H:ag) (p:Nat->Bool) (rs:List Rec):ag:={H with lock:=H.size,hid:=eS p rs 0++H.hid}
def cW (H H':ag):ag:={H' with lock:=H.lock,hid:=H.hid}
def eqc:Value->Value->Bool
 | .int k n,.int k' m=>k==k'&&n==m
 | .bool a,.bool b=>a==b
 | .pointer a,.pointer b=>a==b
 | .slice a n c,.slice b m d=>a==b&&n==m&&c==d
 | .nilFunc,.nilFunc=>true
 |_,_=>false
def BT:List Value->List Value->Bool
 |[],[]=>true
 |a::r,b::s=>eqc a b&&BT r s
 |_,_=>false
def eqv:Value->Value->Bool
 | .agg xs,.agg ys=>BT xs.toList ys.toList
 |a,b=>eqc a b
def aX (A:Array Nat) (i k:Nat):Bool:=(A.getD i 0).testBit k
section
variable (P : Program) (L : List FuncId) (cl : FuncId -> List Value -> ag -> Option (Value × ag))
def fq (ops:Array Oper) (A:Array Nat) (i:Nat) (o:Oper) (s:St) (rs:List Rec):Option Rec:=
 match eZ ops s.fr o with
 |false=>some ⟨.pure,undef,s.hp,s.hp,none⟩
 |true=>
  match ff L o with
  | .pure=>
   match opE P cl (dV s.fr) o s.hp with
   |some (v,_)=>some ⟨.pure,v,s.hp,s.hp,none⟩
   |none=>none
  | .load=>
   match o.op with
   | .load t a=>
    match dV s.fr a with
    |some p=>
     match cL P (dv s.hp (aX A i) rs) t p with
     |some v=>some ⟨.load,v,s.hp,s.hp,some (t,p)⟩
     |none=>none
    |none=>none
   |_=>none
  | .quiet=>
   match opE P cl (dV s.fr) o (dv s.hp (aX A i) rs)with
   |some (v,H')=>some ⟨.quiet,v,s.hp,cW s.hp H',none⟩
   |none=>
    if kM o then
     match opE P cl (dV s.fr) o s.hp with
     |some (v,H')=>some ⟨.dj,v,s.hp,H',none⟩
     |none=>none
    else none
  | .dj=>
   match opE P cl (dV s.fr) o s.hp with
   |some (v,H')=>some ⟨.dj,v,s.hp,H',none⟩
   |none=>none
def fM (ops:Array Oper) (A:Array Nat):List Oper->Nat->St->List Rec->Option (St × List Rec)
 |[],_,s,rs=>some (s,rs)
 |o::l,i,s,rs=>
  match fq P L cl ops A i o s rs with
  |some r=>fM ops A l (i+1) ⟨iR s.fr o.dst r.v,r.h1⟩ (rs++[r])
  |none=>none
def fK (ops:Array Oper) (i:Nat):Bool:=
 match ops[i]? with
 |some o=>(match o.op with| .alloc _=>true|_=>false)
 |none=>false
def AO (A:Array Nat) (B:Nat->Bool) (rs:List Rec) (i:Nat) (a:Rec) (j:Nat) (b:Rec):Bool:=
 match b.kind with
 | .dj=>
  match a.kind with
  | .pure=>true
  | .load=>
   aX A i j||aX A j i||
   (match a.ld with
    |some (t,p)=>
     match cL P (if j<i then dv b.h0 (aX A i) (rs.take j)else b.h1) t p with
     |some v=>eqv a.v v
     |none=>false
    |none=>false)
  | .quiet=>i==j||aX A i j||aX A j i||(decide (j<i)&&B i)
  | .dj=>i==j||aX A i j||aX A j i
 |_=>true
def qB (A:Array Nat) (B:Nat->Bool) (rs:List Rec):Bool:=rs.zipIdx.all fun(a,i)=>rs.zipIdx.all fun(b,j)=>AO P A B rs i a j b
end
def jd (ops:Array Oper) (A:Array Nat) (nt:Nat):Bool:=
 ops.toList.zipIdx.all (fun(o,i)=>
  o.after.toList.all (fun e=> !Region.binds .any e||decide (e.on<i))&&
  (List.range ops.size).all (fun k=> !aX A i k||(decide (k<i)&&o.after.toList.any fun e=>Region.binds .any e&&(e.on==k||aX A e.on k)))&&
  (match o.dst with|some d=>decide (d<nt)|none=>true)&&
  ops.toList.zipIdx.all (fun(q,k)=>
   match q.dst with
   |some d=>i==k||(o.dst !=some d&&(!(o.looksAt ops).contains d||aX A i k||aX A k i))
   |none=>true)&&
  (match o.op with| .select .. =>false|_=>true))
section
variable (P : Program) (L : List FuncId) (cl : FuncId -> List Value -> ag -> Option (Value × ag))
def mC (ops:Array Oper) (s:St):Option St:=
 match jd ops (Region.before ops) s.fr.length with
 |false=>none
 |true=>
  match fM P L cl ops (Region.before ops) ops.toList 0 s []with
  |some (s',rs)=>if qB P (Region.before ops) (fK ops) rs then some s' else none
  |none=>none
def kC:Nat->(St->Option (Ex × St))->St->Option (Ex × St)
 |0,_,_=>none
 |n+1,body,s=>
  match body s with
  |some (.normal,s')=>kC n body s'
  |r=>r
def bh (N:Nat):Code->St->Option (Ex × St)
 | .skip,s=>some (.normal,s)
 | .region _ ops d,s=>
  match d with
  |false=>(lP P cl ops ops.toList s).map (Ex.normal,·)
  |true=>(mC P L cl ops s).map (Ex.normal,·)
 | .seq a b,s=>
  match bh N a s with
  |some (.normal,s')=>bh N b s'
  |r=>r
 | .cond c a b,s=>
  match dV s.fr c with
  |some (.bool true)=>bh N a s
  |some (.bool false)=>bh N b s
  |_=>none
 | .block id body,s=>
  match bh N body s with
  |some (.exit k,s')=>if k=id then some (.normal,s')else some (.exit k,s')
  |r=>r
 | .loop body,s=>kC N (bh N body) s
 | .exit id,s=>some (.exit id,s)
 | .label _,s=>some (.normal,s)
 | .ret,s=>some (.ret,s)
 | .scope _,_=>none
 | .rangeFunc ..,_=>none
 | .goto _,_=>none
 | .refuse _,_=>none
def fP (H:ag) (fr:List Value):List ResultVar->Option (List Value)
 |[]=>some []
 | .tmp t::r=>
  match fP H fr r with
  |some vs=>some (fr.getD t undef::vs)
  |none=>none
 | .cell a t::r=>
  match cL P H t (fr.getD a undef),fP H fr r with
  |some v,some vs=>some (v::vs)
  |_,_=>none
def lC:List Value->Value
 |[v]=>v
 |vs=> .tuple vs.toArray
end
def oX (P:Program) (L:List FuncId) (self:FuncId->List Value->ag->Option (Value × ag)) (n:Nat) (g:FuncId) (args:List Value) (H:ag):Option (Value × ag):=
 match P.funcs[g]? with
 |some fn=>
  match fn.body with
  |some c=>
   match bh P L self n c ⟨args++List.replicate (fn.ntmps-args.length) undef,H⟩with
   |some (.normal,s)=>(fP P s.hp s.fr fn.results.toList).map fun vs=>(lC vs,s.hp)
   |some (.ret,s)=>(fP P s.hp s.fr fn.results.toList).map fun vs=>(lC vs,s.hp)
   |_=>none
  |none=>none
 |none=>none
abbrev bp:=FuncId->List Value->ag->Option (Value × ag)
def bJ (P:Program) (L:List FuncId) (O:bp):Nat->FuncId->List Value->ag->Option (Value × ag)
 |0,_,_,_=>none
 |n+1,g,args,H=>
  match O g args H with
  |some r=>some r
  |none=>oX P L (bJ P L O n) n g args H
theorem mz {P:Program} {L:List FuncId} {O:bp} {n:Nat} {g:FuncId} {args:List Value} {r:Value × ag} {H:ag} (h:O g args H=some r):bJ P L O (n+1) g args H=some r:=by
 simp[bJ,h]
theorem pG {P:Program} {L:List FuncId} {O:bp} {n:Nat} {g:FuncId} {args:List Value} {H:ag} (h:O g args H=none):
 bJ P L O (n+1) g args H=oX P L (bJ P L O n) n g args H:=by
 simp[bJ,h]
end
end Go.Proofs.YtfaojedfnjdnnaaGreat.Ev
namespace Go.Proofs.YtfaojedfnjdnnaaGreat.Ev
noncomputable section
open Go
structure Fr (H H' : ag) : Prop where
 size:H.size<=H'.size
 lock:H'.lock=H.lock
 hid:H'.hid=H.hid
 root:∀x,x<H.size->x<H.lock->H'.root.get x=H.root.get x
theorem Fr.refl (H:ag):Fr H H:=⟨zap _,rfl,rfl,fun _ _ _=>rfl⟩
theorem Fr.trans {A B C:ag} (a:Fr A B) (b:Fr B C):Fr A C:=
 ⟨zaP a.size b.size,b.lock.trans a.lock,b.hid.trans a.hid,fun x h1 h2=>(b.root x (zaD h1 a.size) (by rw[a.lock];exact h2)).trans (a.root x h1 h2)⟩
theorem Fr.push (H:ag) (b:Blk):Fr H (H.push b):=⟨by simp,rfl,rfl,fun x h1 _=>by rw[ag.bW,if_neg (by omega)]⟩
theorem Fr.put (H:ag) (j:Nat) (b:Option Blk) (h:H.lock<=j):Fr H (H.put j b):=⟨by simp,rfl,rfl,fun x _ h2=>by rw[ag.cT,if_neg (by omega)]⟩
theorem pB {H H':ag} {b off:Nat} {vs:List Value} (h:setCells H b off vs=some H'):Fr H H':=by
 unfold setCells at h
 split at h
 . split at h
   . rename_i hc;cases h;simp only[zae]at hc;exact .put H b _ (aO.1 hc.1.1)
   . cases h
 . cases h
section
variable {P : Program}
theorem Nz {H H':ag} {t:TypeId} {p v:Value} (h:qq P H t p v=some H'):Fr H H':=by
 unfold qq at h
 repeat' split at h
 all_goals first|(cases h;done)|exact pB h
theorem PU {H H':ag} {t:TypeId} {a b v:Value} (h:xr P H t a b=some (v,H')):Fr H H':=by
 unfold xr at h
 repeat' split at h
 all_goals first|(cases h;done)|(cases h;exact .push H _)
theorem A8 {H H':ag} {t:TypeId} {n:Nat} {ps:List (Nat × Value)} {v:Value} (h:fF P H t n ps=some (v,H')):Fr H H':=by
 unfold fF at h
 repeat' split at h
 all_goals first|(cases h;done)|(cases h;exact .push H _)
theorem RL {H H':ag} {t u:TypeId} {a b v:Value} (h:AH P H t u a b=some (v,H')):Fr H H':=by
 unfold AH at h
 repeat' split at h
 all_goals first|(cases h;done)|(cases h;exact .refl H)|(cases h;exact .push H _)
theorem Kv {H H':ag} {t u:TypeId} {a b v:Value} (h:eg P H t u a b=some (v,H')):Fr H H':=by
 unfold eg at h
 repeat' split at h
 all_goals first
  |(cases h;done)
  |(cases h;exact .refl H)
  |(cases h;exact .push H _)
  |exact RL h
  |(simp only[zai]at h;obtain⟨H2,h1,h2⟩:=h;cases h2;exact pB h1)
  |(rename_i hc;cases h;simp only[zae]at hc;exact(Fr.put H _ none (aO.1 hc.1.1.1.1)).trans (.push _ _))
theorem Oy {H H':ag} {t u:TypeId} {a b v:Value} (h:rj P H t u a b=some (v,H')):Fr H H':=by
 unfold rj at h
 repeat' split at h
 all_goals first
  |(cases h;done)
  |(cases h;exact .refl H)
  |(simp only[zai]at h;obtain⟨H2,h1,h2⟩:=h;cases h2;exact pB h1)
theorem Hx {H H':ag} {b:Builtin} {ts:Array TypeId} {xs:List Value} {v:Value} (h:jh P H b ts xs=some (v,H')):Fr H H':=by
 unfold jh at h
 repeat' split at h
 all_goals first
  |(cases h;done)
  |(cases h;exact .refl H)
  |exact Kv h
  |exact Oy h
  |(simp only[zai]at h;obtain⟨u,h1,h2⟩:=h;cases h2;exact .refl H)
def ij (cl:FuncId->List Value->ag->Option (Value × ag)):Prop:=∀g args H v H',cl g args H=some (v,H')->Fr H H'
theorem qm {cl:FuncId->List Value->ag->Option (Value × ag)} (hcl:ij cl) {ρ:Operand->Option Value} {o:Oper} {H H':ag} {v:Value} (h:opE P cl ρ o H=some (v,H')):Fr H H':=by
 unfold opE at h
 split at h
 all_goals first
  |(cases h;done)
  |(simp only[zai]at h;obtain⟨u,h1,h2⟩:=h;cases h2;first|exact .refl H|exact .push H _)
  |skip
 all_goals (repeat' split at h)
 all_goals first
  |(cases h;done)
  |(cases h;exact .refl H)
  |(simp only[zai]at h;obtain⟨u,h1,h2⟩:=h;cases h2;first|exact .refl H|exact .push H _|exact Nz h1)
  |(simp only[zaM]at h;obtain⟨u,_,h1⟩:=h;exact A8 h1)
  |exact PU h
  |exact Hx h
  |exact hcl _ _ _ _ _ h
end
end
end Go.Proofs.YtfaojedfnjdnnaaGreat.Ev
namespace Go.Proofs.YtfaojedfnjdnnaaGreat.Ev
noncomputable section
open Go
structure FR (f : Fm) (fr : List Value) (a : Act) : Prop where
 size:a.tmps.size=fr.length
 val:∀t,V f (fr.getD t undef) (a.tmps.getD t undef)
theorem FR.mono {f g:Fm} (hle:Le f g) {fr:List Value} {a:Act} (h:FR f fr a):FR g fr a:=⟨h.size,fun t=>(h.val t).mono hle⟩
theorem FR.put {f:Fm} {fr:List Value} {a:Act} (h:FR f fr a) (d:Option Tmp) {v v':Value} (hv:V f v v'):FR f (iR fr d v) (a.put d v'):=by
 cases d with
 |none=>exact h
 |some d=>
  refine⟨by simp[iR,Act.put,h.size],fun t=> ?_⟩;have:=h.val t;simp only[iR,Act.put,zba,zaf]at*
  rw[zbo,Array.getElem?_setIfInBounds,h.size]
  by_cases e:d=t
  . subst e;simp only[zbh]
    by_cases hl:d<fr.length
    . simp[hl];exact hv
    . simp[hl];exact V.undef f
  . simp only[e,zbp];exact this
theorem FR.dV {f:Fm} {fr:List Value} {a:Act} (h:FR f fr a) {x:Operand} {v:Value} (hx:Ev.dV fr x=some v):V f v (a.eval x):=by
 cases x with
 |tmp t=>simp only[Ev.dV,zak]at hx;subst hx;exact h.val t
 |const c=>
  simp only[Ev.dV]at hx
  split at hx
  . rename_i hc;cases hx;exact V.hZ f hc
  . cases hx
 |global g=>simp[Ev.dV]at hx
 |func g=>simp only[Ev.dV,zak]at hx;subst hx;exact .func g _ _ _ _ rfl rfl (fun i v v' h _=>by simp at h) (fun i v v' h _=>by simp at h)
theorem FR.wanted {f:Fm} {fr:List Value} {a:Act} (h:FR f fr a) (ops:Array Oper) (o:Oper):Region.wanted o (yielded ops a.tmps)=eZ ops fr o:=by
 unfold Region.wanted eZ;cases o.guard with
 |none=>rfl
 |some gw=>
  obtain⟨j,want⟩:=gw;simp only[yielded];cases hd:(ops[j]?).bind (·.dst)with
  |none=>simp
  |some t=>
   simp only[zcg];have hv:=h.val t;simp only[zba,zaf]at hv
   by_cases hl:t<fr.length
   . have hl':t<a.tmps.size:=by rw[h.size];exact hl
     rw[zah hl,zaz hl']at hv;rw[zah hl,zaz hl'];simp only[zbD]at hv;generalize fr[t]=u at hv;generalize a.tmps[t]=u' at hv;cases hv<;>simp
   . have hl':¬t<a.tmps.size:=by rw[h.size];exact hl
     have e1:fr[t]? =none:=zaW (zch hl);have e2:a.tmps[t]? =none:=Array.getElem?_eq_none (zch hl');rw[e1,e2];simp
section
variable {P : Program} {cl : FuncId -> List Value -> ag -> Option (Value × ag)} {f : Fm} {H : ag} {w : World}
theorem HV (hcl:zg P cl) (hR:R f H w) {o:Oper} {ρ:Operand->Option Value} {a:Act} (hρ:∀x∈o.op.operands,∀v,ρ x=some v->V f v (a.eval x)) {v:Value} {H':ag}
 (bo:∀j,H.size<=j->j<H'.size->f j=none) (h:opE P cl ρ o H=some (v,H')) {K:Act->World->Prop} {Q:Exit->Act->World->Prop}
 (hK:∀f' w' v',V f' v v'->Stp f H w f' H' w'->R f' H' w'->K (a.put o.dst v') w'):o.wp P a w K Q:=by
 by_cases hnc:∀c g,o.op= .call c->c.callee≠.value g
 . obtain⟨f',w',v',h1,h2,h3,h4⟩:=ZS hR hρ bo hnc h;unfold Oper.wp;rcases h1 with h1|⟨h1,rfl⟩
   . rw[h1];exact hK f' w' v' h2 h3 h4
   . rw[h1];exact hK f' w' undef h2 h3 h4
 . have:∃c g,o.op= .call c/\c.callee= .value g:=by
    apply zbW;intro hn;exact hnc fun c g h1 h2=>hn ⟨c,g,h1,h2⟩
   obtain⟨c,g,hop,hg⟩:=this;unfold opE at h;rw[hop]at h hρ;simp only[hg]at h
   split at h
   . rename_i args tZ;have va:=mZ (f:=f) (ρ':=a.eval) c.args.toList args (fun x hx=>hρ x (by simp[Op.operands,Call.operands];exact .inr (by simpa using hx))) tZ
     split at h
     . rename_i n x y afu;have vf:=hρ g (by simp[Op.operands,Call.operands,hg]) _ afu;cases hg':a.eval g<;>rw[hg']at vf<;>try (cases vf;done)
       rename_i fn x' y';cases vf with
       |func _ _ _ _ _ hx hy vx vy=>
        obtain⟨⟨fnn,code,hfn,BE,oe⟩,MT⟩:=hcl _ _ _ _ _ h;have vargs:VL f (x.toList++args++y.toList) (x'.toList++c.args.toList.map a.eval++y'.toList):=by
         refine(VL.append ⟨by simpa using hx,fun i u u' h1 h2=>vx i u u' (by simpa using h1) (by simpa using h2)⟩ va).append ⟨by simpa using hy,fun i u u' h1 h2=>vy i u u' (by simpa using h1) (by simpa using h2)⟩
        have hc:=MT f w _ hR bo vargs;have vQ:(execOp a.eval o).run P w= .ok (.enter n (x'++c.args.map a.eval++y')) w:=by
         simp[execOp,hop,resolve,hg,hg',Deferred.ofValue,invoke,callFunc,hfn,BE,oe]
        have e:(x'.toList++c.args.toList.map a.eval++y'.toList).toArray=x'++c.args.map a.eval++y':=by
         apply Array.ext';simp only[Array.toList_append,Array.toList_map]
        rw[e]at hc;unfold Oper.wp;rw[vQ];refine Calls.mono hc ?_
        rintro e w' ⟨f',v',rfl,h2,h3,h4⟩
        exact hK f' w' v' h2 h3 h4
     . cases h
   . cases h
theorem Ka (hcl:zg P cl) (hfr:ij cl) {ops:Array Oper} {Q:Exit->Act->World->Prop}:∀(l:List Oper) (k:Nat) (fr:List Value) (H:ag) (f:Fm) (w:World) (a:Act) (s':St),
 (∀j,l[j]? =ops[k+j]?)->R f H w->FR f fr a->(∀j,H.size<=j->j<s'.hp.size->f j=none)->lP P cl ops l ⟨fr,H⟩=some s'->
 (∀f' w' a',Stp f H w f' s'.hp w'->R f' s'.hp w'->FR f' s'.fr a'->a'.defers=a.defers->Q .normal a' w')->
 wpOps P ops Q ((List.range l.length).map (k+·)) a w:=by
 intro l
 induction l with
 |nil=>
  intro k fr H f w a s' _ hR hF _ h hQ;simp only[lP,zak]at h;subst h;exact hQ f w a (.refl f H w) hR hF rfl
 |cons o l ih=>
  intro k fr H f w a s' hl hR hF bo h hQ;have h0:ops[k]? =some o:=by simpa using(hl 0).symm
  have hl':∀j,l[j]? =ops[k+1+j]? :=fun j=>by
   have:=hl (j+1);simpa[zbe,Nat.add_comm 1 j]using this
  have aad:((List.range (o::l).length).map (k+·))=k::((List.range l.length).map (k+1+·)):=by
   rw[zac,List.range_succ_eq_map,zaS,List.map_map];simp only[zbc]
   congr 1
   apply List.map_congr_left;intro j _;simp only[Function.comp];omega
  rw[aad];simp only[lP]at h;simp only[wpOps,h0];rw[hF.wanted ops o];cases hw:eZ ops fr o with
  |true=>
   simp only[hw]at h;simp only[zbh]
   split at h
   . rename_i v H1 hop
     left
     have f1:=qm hfr hop;have f2:H1.size<=s'.hp.size:=by
      have key:∀(l:List Oper) (s s':St),lP P cl ops l s=some s'->s.hp.size<=s'.hp.size:=by
       intro l
       induction l with
       |nil=>intro s s' h;simp[lP]at h;subst h;exact zap _
       |cons q l ihk=>
        intro s s' h;simp only[lP]at h
        split at h
        . split at h
          . rename_i hq;exact zaP (qm hfr hq).size (ihk _ _ h)
          . cases h
        . have:=ihk _ _ h;exact this
      exact key l _ _ h
     refine HV hcl hR (fun x _ u hu=>hF.dV hu) (fun j h1 h2=>bo j h1 (by omega)) hop ?_
     intro f' w' v' hV hS hR';refine ih (k+1) _ H1 f' w' _ s' hl' hR' ((hF.mono hS.le).put o.dst hV) ?_ h ?_
     . intro j h1 h2;rw[hS.out j (by omega)];exact bo j (zaP f1.size h1) h2
     . intro f2 w2 a2 s2 r2 fr2 d2;refine hQ f2 w2 a2 (hS.trans s2) r2 fr2 ?_
       rw[d2];cases o.dst<;>rfl
   . cases h
  |false=>
   simp only[hw]at h;simp only[zb9,zbp];refine ih (k+1) _ H f w _ s' hl' hR (hF.put o.dst (V.undef f)) bo h ?_
   intro f2 w2 a2 s2 r2 fr2 d2;refine hQ f2 w2 a2 s2 r2 fr2 ?_
   rw[d2];cases o.dst<;>rfl
end
end
end Go.Proofs.YtfaojedfnjdnnaaGreat.Ev
namespace Go.Proofs.YtfaojedfnjdnnaaGreat.Ev
noncomputable section
open Go
theorem gV (a b:List (Nat × Nat)) (x:Nat):hidden (a++b) x=(hidden a x||hidden b x):=by
 induction a with
 |nil=>simp[hidden]
 |cons p a ih=>obtain⟨u,v⟩:=p;simp[hidden,ih,Bool.or_assoc]
theorem fX (p:Nat->Bool):∀(rs:List Rec) (k x:Nat),hidden (eS p rs k) x=true↔∃j r,rs[j]? =some r/\p (k+j)=false/\r.h0.size<=x/\x<r.h1.size:=by
 intro rs
 induction rs with
 |nil=>intro k x;simp[eS,hidden]
 |cons r rs ih=>
  intro k x;simp only[eS]
  by_cases hp:p k=true
  . rw[if_pos hp,ih];constructor
    . rintro⟨j,q,h1,h2,h3⟩
      exact⟨j+1,q,by simpa using h1,by rw[<-h2];congr 1;omega,h3⟩
    . rintro⟨j,q,h1,h2,h3⟩
      cases j with
      |zero=>simp at h2;rw[hp]at h2;cases h2
      |succ j=>exact⟨j,q,by simpa using h1,by rw[<-h2];congr 1;omega,h3⟩
  . rw[if_neg hp];simp only[hidden,zbj,zae,zag];rw[ih];constructor
    . rintro(⟨h1,h2⟩|⟨j,q,h1,h2,h3⟩)
      . exact⟨0,r,by simp,by simpa using hp,h1,h2⟩
      . exact⟨j+1,q,by simpa using h1,by rw[<-h2];congr 1;omega,h3⟩
    . rintro⟨j,q,h1,h2,h3,h4⟩
      cases j with
      |zero=>simp at h1;subst h1;exact .inl ⟨h3,h4⟩
      |succ j=>exact .inr ⟨j,q,by simpa using h1,by rw[<-h2];congr 1;omega,h3,h4⟩
theorem R.view {f:Fm} {M X:ag} {w:World} (h:R f M w) (hg:∀x b,X.get x=some b->M.get x=some b) (hl:X.lock=X.size):R f X w:=by
 have hm:∀x b,X.get x=some b->X.sm x b=false:=by
  intro x b hx;have:=ag.ba hx;simp[ag.sm];omega
 refine⟨fun x b hx=> ?_,h.big,by omega,fun x y b c l m hx hy hmm=> ?_⟩
 . obtain⟨l,C,e,fr,h1,h2,h3,_⟩:=h.blk x b (hg x b hx);exact⟨l,C,e,fr,h1,h2,h3,fun hmm=>by rw[hm x b hx]at hmm;cases hmm⟩
 . rw[hm x b hx]at hmm;cases hmm
section
variable {P : Program} {L : List FuncId} {cl : FuncId -> List Value -> ag -> Option (Value × ag)}
theorem zp {X Y:ag} (h:∀x,X.get x=Y.get x) (b off n:Nat):cV X b off n=cV Y b off n:=by
 unfold cV;rw[h b]
theorem GH {X Y:ag} (h:∀x,X.get x=Y.get x) (t:TypeId) (p:Value):cL P X t p=cL P Y t p:=by
 unfold cL
 split
 . simp only[zp h]
 . rfl
theorem Jl {a b:Value} (h:eqc a b=true):a=b:=by
 unfold eqc at h
 split at h<;>simp_all
theorem Mk:∀{a b:List Value},BT a b=true->a=b
 |[],[],_=>rfl
 |a::r,b::s,h=>by
  simp only[BT,zae]at h;rw[Jl h.1,Mk h.2]
 |[],_::_,h=>by simp[BT]at h
 |_::_,[],h=>by simp[BT]at h
theorem Xr {a b:Value} (h:eqv a b=true):a=b:=by
 unfold eqv at h
 split at h
 . have:=Mk h
   congr 1
   exact Array.ext' this
 . exact Jl h
theorem RM {o:Oper} (hk:ff L o= .pure) {ρ:Operand->Option Value} {H H2:ag} {v:Value} (h:opE P cl ρ o H=some (v,H2)):
 ∀H3,opE P cl ρ o H3=some (v,H3):=by
 intro H3;obtain⟨dst,op,type,pos,after,guard⟩:=o;unfold ff at hk;unfold opE at h⊢;cases op<;>simp only at hk h⊢<;>try (cases hk;done)
 all_goals try (cases h;done)
 all_goals try (simp only[zai]at h⊢;obtain⟨u,h1,h2⟩:=h;cases h2;exact⟨_,h1,rfl⟩)
 case pick c a b=>
  split at h
  . rename_i t hc;simp only[zai]at h⊢;obtain⟨u,h1,h2⟩:=h;cases h2;exact⟨_,h1,rfl⟩
  . cases h
 case nilCheck x=>
  split at h
  . cases h;rfl
  . cases h;rfl
  . cases h;rfl
  . cases h
 case binOp op t x y ty=>
  split at h
  . simp only[zai]at h⊢;obtain⟨u,h1,h2⟩:=h;cases h2;exact⟨_,h1,rfl⟩
  . cases h
 case makeFunc fn a b=>
  split at h
  . cases h;rfl
  . cases h
 case slice t x lo hi mx=>
  cases mx with
  |some m=>
   cases hi with
   |none=>cases h
   |some hi=>
    simp only at h⊢
    split at h
    . simp only[zai]at h⊢;obtain⟨u,h1,h2⟩:=h;cases h2;exact⟨_,h1,rfl⟩
    . cases h
  |none=>
   simp only at h⊢
   split at h
   . simp only[zai]at h⊢;obtain⟨u,h1,h2⟩:=h;cases h2;exact⟨_,h1,rfl⟩
   . cases h
 case indexAddr t x i=>
  split at h
  . simp only[zai]at h⊢;obtain⟨u,h1,h2⟩:=h;cases h2;exact⟨_,h1,rfl⟩
  . cases h
 case index t x i=>
  split at h
  . simp only[zai]at h⊢;obtain⟨u,h1,h2⟩:=h;cases h2;exact⟨_,h1,rfl⟩
  . cases h
 case call c=>
  split at h
  . rename_i args tZ;cases hc:c.callee with
    |builtin b=>
     simp only[hc]at h⊢;cases b<;>simp only[hc]at hk<;>try (cases hk;done)
     all_goals (simp only[jh]at h⊢)
     all_goals try (cases h;done)
     case cap=>
      split at h
      . split at h
        . cases h;rfl
        . cases h
      . split at h
        . cases h;rfl
        . cases h
      . cases h
     case len=>
      split at h
      . split at h
        . cases h;rfl
        . cases h;rfl
        . cases h;rfl
        . cases h
      . cases h
     case max=>simp only[zai]at h⊢;obtain⟨u,h1,h2⟩:=h;cases h2;exact⟨_,h1,rfl⟩
     case min=>simp only[zai]at h⊢;obtain⟨u,h1,h2⟩:=h;cases h2;exact⟨_,h1,rfl⟩
    |value g=>
     simp only[hc]at hk;cases g with
     |func n=>simp only at hk;split at hk<;>cases hk
     |_=>cases hk
    |invoke r m=>simp[hc]at h
  . cases h
theorem iE {ops:Array Oper} {A:Array Nat} {i:Nat} {o:Oper} {s:St} {rs:List Rec} {r:Rec} (h:fq P L cl ops A i o s rs=some r):
 (eZ ops s.fr o=false/\r=⟨.pure,undef,s.hp,s.hp,none⟩)\/
 (eZ ops s.fr o=true/\
  ((∃v,(∀H3,opE P cl (dV s.fr) o H3=some (v,H3))/\r=⟨.pure,v,s.hp,s.hp,none⟩)\/
   (∃t a p v,o.op= .load t a/\dV s.fr a=some p/\cL P (dv s.hp (aX A i) rs) t p=some v/\r=⟨.load,v,s.hp,s.hp,some (t,p)⟩)\/
   (∃v H',opE P cl (dV s.fr) o (dv s.hp (aX A i) rs)=some (v,H')/\r=⟨.quiet,v,s.hp,cW s.hp H',none⟩)\/
   (∃v H',opE P cl (dV s.fr) o s.hp=some (v,H')/\r=⟨.dj,v,s.hp,H',none⟩))):=by
 unfold fq at h
 split at h
 . rename_i hw;cases h;exact .inl ⟨hw,rfl⟩
 . rename_i hw;refine .inr ⟨hw, ?_⟩
   split at h
   . rename_i hk
     split at h
     . rename_i v H2 hop;cases h;exact .inl ⟨v,RM hk hop,rfl⟩
     . cases h
   . split at h
     . rename_i t a hop
       split at h
       . rename_i p hp
         split at h
         . rename_i v hv;cases h;exact .inr (.inl ⟨t,a,p,v,hop,hp,hv,rfl⟩)
         . cases h
       . cases h
     . cases h
   . split at h
     . rename_i v H' hop;cases h;exact .inr (.inr (.inl ⟨v,H',hop,rfl⟩))
     . split at h
       . split at h
         . rename_i v H' hop;cases h;exact .inr (.inr (.inr ⟨v,H',hop,rfl⟩))
         . cases h
       . cases h
   . split at h
     . rename_i v H' hop;cases h;exact .inr (.inr (.inr ⟨v,H',hop,rfl⟩))
     . cases h
theorem nj {ops:Array Oper} {A:Array Nat}:∀(l:List Oper) (i:Nat) (s:St) (rs0:List Rec) (s':St) (rs:List Rec),rs0.length=i->
 fM P L cl ops A l i s rs0=some (s',rs)->
 rs.length=i+l.length/\rs.take i=rs0/\∃S:Nat->St,S i=s/\S (i+l.length)=s'/\
  ∀j o,l[j]? =some o->∃r,rs[i+j]? =some r/\fq P L cl ops A (i+j) o (S (i+j)) (rs.take (i+j))=some r/\S (i+j+1)=⟨iR (S (i+j)).fr o.dst r.v,r.h1⟩:=by
 intro l
 induction l with
 |nil=>
  intro i s rs0 s' rs hlen h;simp only[fM,zak,zaT]at h;obtain⟨rfl,rfl⟩:=h;exact⟨by simpa using hlen,zbq (by omega),fun _=>s,rfl,rfl,fun j o h=>by simp at h⟩
 |cons q l ih=>
  intro i s rs0 s' rs hlen h;simp only[fM]at h
  split at h
  . rename_i r hr;obtain⟨h1,h2,S,h3,h4,h5⟩:=ih (i+1) _ (rs0++[r]) s' rs (by simp[hlen]) h;have MU:rs.take i=rs0:=by
     have:rs.take i=(rs.take (i+1)).take i:=by rw[List.take_take];congr 1;omega
     rw[this,h2,zb1 (by omega),zbq (by omega)]
    have hri:rs[i]? =some r:=by
     have:rs[i]? =(rs.take (i+1))[i]? :=by rw[zav,if_pos (by omega)]
     rw[this,h2,zaV,if_neg (by omega),hlen];simp
    refine⟨by simp;omega,MU,fun k=>if k=i then s else S k,by simp, ?_, ?_⟩
    . simp only[zac];rw[if_neg (by omega),<-h4];congr 1;omega
    . intro j o hj;cases j with
      |zero=>
       simp at hj;subst hj;refine⟨r,hri, ?_, ?_⟩
       . simp only[zbc,zbh];rw[MU];exact hr
       . simp only[zbc,zbh];rw[if_neg (by omega)];exact h3
      |succ j=>
       obtain⟨r2,g1,g2,g3⟩:=h5 j o (by simpa using hj);have e:i+1+j=i+(j+1):=by omega
       rw[e]at g1 g2 g3;refine⟨r2,g1, ?_, ?_⟩
       . simp only;rw[if_neg (by omega)];exact g2
       . simp only;rw[if_neg (by omega),if_neg (by omega)];exact g3
  . cases h
end
end
end Go.Proofs.YtfaojedfnjdnnaaGreat.Ev
namespace Go.Proofs.YtfaojedfnjdnnaaGreat.Ev
noncomputable section
open Go
section
variable (P : Program) (L : List FuncId) (cl : FuncId -> List Value -> ag -> Option (Value × ag))
structure Can (ops : Array Oper) (A : Array Nat) (s0 s' : St) (rs : List Rec) (S : Nat -> St) : Prop where
 len:rs.length=ops.size
 ini:S 0=s0
 fin:S ops.size=s'
 step:∀i o,ops[i]? =some o->∃r,rs[i]? =some r/\fq P L cl ops A i o (S i) (rs.take i)=some r/\S (i+1)=⟨iR (S i).fr o.dst r.v,r.h1⟩
 stat:jd ops A s0.fr.length=true
 iK:qB P A (fK ops) rs=true
end
section
variable {P : Program} {L : List FuncId} {cl : FuncId -> List Value -> ag -> Option (Value × ag)}
variable {nt : Nat} {ops : Array Oper} {A : Array Nat} {s0 s' : St} {rs : List Rec} {S : Nat -> St}
theorem dg (h:jd ops A nt=true) {i:Nat} {o:Oper} (ho:ops[i]? =some o):
 (∀e∈o.after,Region.binds .any e=true->e.on<i)/\
 (∀k,k<ops.size->aX A i k=true->k<i/\∃e∈o.after,Region.binds .any e=true/\(e.on=k\/aX A e.on k=true))/\
 (∀d,o.dst=some d->d<nt)/\
 (∀k q d,ops[k]? =some q->q.dst=some d->i=k\/(o.dst≠some d/\(d∈o.looksAt ops->aX A i k=true\/aX A k i=true)))/\
 (∀cs b,o.op≠.select cs b):=by
 unfold jd at h;have hm:(o,i)∈ops.toList.zipIdx:=by rw[za5];simpa using ho
 have h1:=zam.1 h (o,i) hm;simp only[zae]at h1;obtain⟨⟨⟨⟨a1,a2⟩,a3⟩,a4⟩,a5⟩:=h1;refine⟨?_, ?_, ?_, ?_, ?_⟩
 . intro e he hb;have:=zam.1 a1 e (by simpa using he);simpa[hb]using this
 . intro k hk hg;have:=zam.1 a2 k (by simpa using hk);simp only[hg,zbr,zcj,zae,zag,List.any_eq_true,zbj,zaI]at this;obtain⟨h1,e,he,hb,h2⟩:=this;exact⟨h1,e,by simpa using he,hb,h2⟩
 . intro d hd;rw[hd]at a3;simpa using a3
 . intro k q d hq hd;have hm2:(q,k)∈ops.toList.zipIdx:=by rw[za5];simpa using hq
   have:=zam.1 a4 (q,k) hm2;simp only[hd,zbj,zaI,zae,bne_iff_ne,Bool.not_eq_true']at this;rcases this with h1|⟨h1,h2⟩
   . exact .inl h1
   . refine .inr ⟨h1,fun KP=> ?_⟩;rcases h2 with(h2|h2)|h2
     . rw[List.contains_eq_mem]at h2;simp[KP]at h2
     . exact .inl h2
     . exact .inr h2
 . intro cs b hop;rw[hop]at a5;cases a5
def AR (ops:Array Oper) (p:Nat->Bool):Prop:=∀i o,ops[i]? =some o->p i=true->∀e∈o.after,Region.binds .any e=true->p e.on=true
theorem j9 (hst:jd ops A nt=true) {p:Nat->Bool} (hp:AR ops p):∀(i k:Nat),i<ops.size->k<ops.size->p i=true->aX A i k=true->p k=true:=by
 intro i
 induction i using Nat.strongRecOn with
 |_ i ih=>
  intro k hi hk hpi hg;have ho:ops[i]? =some ops[i]:=zaz hi;obtain⟨h1,h2,_⟩:=dg hst ho;obtain⟨hki,e,he,hb,h3⟩:=h2 k hk hg;have hlt:=h1 e he hb;have hpe:=hp i _ ho hpi e he hb;rcases h3 with h3|h3
  . rw[<-h3];exact hpe
  . exact ih e.on hlt k (by omega) hk hpe h3
theorem nz (hst:jd ops A nt=true) {p:Nat->Bool} (hp:AR ops p) {i:Nat} {o:Oper} (ho:ops[i]? =some o)
 (hr:∀e∈o.after,Region.binds .any e=true->p e.on=true) {k:Nat} (hk:k<ops.size) (hg:aX A i k=true):p k=true:=by
 obtain⟨h1,h2,_⟩:=dg hst ho;obtain⟨hki,e,he,hb,h3⟩:=h2 k hk hg;have hlt:=h1 e he hb;have hi:i<ops.size:=(zaJ.1 ho).1;rcases h3 with h3|h3
 . rw[<-h3];exact hr e he hb
 . exact j9 hst hp e.on k (by omega) hk (hr e he hb) h3
theorem Can.gz (h:Can P L cl ops A s0 s' rs S) {i:Nat} (hi:i<ops.size):
 ∃r,rs[i]? =some r/\fq P L cl ops A i ops[i] (S i) (rs.take i)=some r/\S (i+1)=⟨iR (S i).fr ops[i].dst r.v,r.h1⟩/\r.h0=(S i).hp/\r.h1=(S (i+1)).hp:=by
 obtain⟨r,h1,h2,h3⟩:=h.step i ops[i] (zaz hi);refine⟨r,h1,h2,h3, ?_,by rw[h3]⟩;rcases iE h2 with⟨_,rfl⟩|⟨_,⟨v,_,rfl⟩|⟨t,a,p,v,_,_,_,rfl⟩|⟨v,H',_,rfl⟩|⟨v,H',_,rfl⟩⟩<;>rfl
theorem Can.acI (h:Can P L cl ops A s0 s' rs S) (hfr:ij cl) {i:Nat} (hi:i<ops.size):Fr (S i).hp (S (i+1)).hp:=by
 obtain⟨r,h1,h2,h3,h4,h5⟩:=h.gz hi;rw[<-h5];rcases iE h2 with⟨_,rfl⟩|⟨_,⟨v,_,rfl⟩|⟨t,a,p,v,_,_,_,rfl⟩|⟨v,H',hop,rfl⟩|⟨v,H',hop,rfl⟩⟩
 . exact .refl _
 . exact .refl _
 . exact .refl _
 . have:=qm hfr hop;exact⟨this.size,rfl,rfl,fun x h1 _=>this.root x h1 h1⟩
 . exact qm hfr hop
theorem Can.jf (h:Can P L cl ops A s0 s' rs S) (hfr:ij cl):∀(j i:Nat),i<=j->j<=ops.size->Fr (S i).hp (S j).hp:=by
 intro j
 induction j with
 |zero=>
  intro i hi _;have:i=0:=by omega
  subst this;exact .refl _
 |succ j ih=>
  intro i hi hj
  by_cases e:i=j+1
  . subst e;exact .refl _
  . exact(ih i (by omega) (by omega)).trans (h.acI hfr (by omega))
def mL (rs:List Rec) (i:Nat):Prop:=∃r,rs[i]? =some r/\r.kind= .dj
theorem Can.jU (h:Can P L cl ops A s0 s' rs S) (hfr:ij cl):∀(j i:Nat),i<=j->j<=ops.size->(∀k,i<=k->k<j->¬mL rs k)->
 ∀x,x<(S i).hp.size->(S j).hp.root.get x=(S i).hp.root.get x:=by
 intro j
 induction j with
 |zero=>
  intro i hi _ _ x _;have:i=0:=by omega
  subst this;rfl
 |succ j ih=>
  intro i hi hj hn x hx
  by_cases e:i=j+1
  . subst e;rfl
  . rw[<-ih i (by omega) (by omega) (fun k h1 h2=>hn k h1 (by omega)) x hx];have hsz:(S i).hp.size<=(S j).hp.size:=(h.jf hfr j i (by omega) (by omega)).size;obtain⟨r,h1,h2,h3,h4,h5⟩:=h.gz (i:=j) (by omega);rw[<-h5];rcases iE h2 with⟨_,rfl⟩|⟨_,⟨v,_,rfl⟩|⟨t,a,p,v,_,_,_,rfl⟩|⟨v,H',hop,rfl⟩|⟨v,H',hop,rfl⟩⟩
    . rfl
    . rfl
    . rfl
    . have:=qm hfr hop;exact this.root x (by show x<(S j).hp.size;omega) (by show x<(S j).hp.size;omega)
    . exact absurd ⟨_,h1,rfl⟩ (hn j (by omega) (by omega))
theorem Can.frame (h:Can P L cl ops A s0 s' rs S):∀i,i<=ops.size->(S i).fr.length=s0.fr.length/\∀t,
 (∀k q r,k<i->ops[k]? =some q->rs[k]? =some r->q.dst=some t->(S i).fr.getD t undef=r.v)/\
 ((∀k q,k<i->ops[k]? =some q->q.dst≠some t)->(S i).fr.getD t undef=s0.fr.getD t undef):=by
 intro i
 induction i with
 |zero=>intro _;rw[h.ini];exact⟨rfl,fun t=>⟨fun k q r hk=>by omega,fun _=>rfl⟩⟩
 |succ i ih=>
  intro hi;obtain⟨hlen,hf⟩:=ih (by omega);have hio:ops[i]? =some ops[i]:=zaz (by omega);obtain⟨r,h1,h2,h3,h4,h5⟩:=h.gz (i:=i) (by omega);obtain⟨_,_,s3,s4,_⟩:=dg h.stat hio;rw[h3];refine⟨by cases ops[i].dst<;>simp[iR,hlen],fun t=>⟨?_, ?_⟩⟩
  . intro k q rk hk hq hrk hd
    by_cases e:k=i
    . subst e;rw[hio]at hq;cases hq;rw[h1]at hrk;cases hrk;rw[hd];have hlt:=s3 t hd;simp only[iR,zaf,zbo,zbh];rw[if_pos (by rw[hlen];exact hlt)];rfl
    . have hne:ops[i].dst≠some t:=by
       rcases s4 k q t hq hd with h6|⟨h6,_⟩
       . exact absurd h6.symm e
       . exact h6
      have:(iR (S i).fr ops[i].dst r.v).getD t undef=(S i).fr.getD t undef:=by
       cases hdd:ops[i].dst with
       |none=>rfl
       |some d=>
        rw[hdd]at hne;simp only[iR,zaf,zbo];rw[if_neg (fun e2=>hne (by rw[e2]))]
      rw[this];exact(hf t).1 k q rk (by omega) hq hrk hd
  . intro hn;have hne:ops[i].dst≠some t:=hn i _ (by omega) hio;have:(iR (S i).fr ops[i].dst r.v).getD t undef=(S i).fr.getD t undef:=by
     cases hdd:ops[i].dst with
     |none=>rfl
     |some d=>
      rw[hdd]at hne;simp only[iR,zaf,zbo];rw[if_neg (fun e2=>hne (by rw[e2]))]
    rw[this];exact(hf t).2 (fun k q hk hq=>hn k q (by omega) hq)
theorem Can.comparable (h:Can P L cl ops A s0 s' rs S) {i j:Nat} {a b:Rec} (ha:rs[i]? =some a) (hb:rs[j]? =some b) (hl:b.kind= .dj)
 (hk:a.kind= .quiet\/a.kind= .dj) (hx:fK ops i=false\/i<j\/a.kind= .dj) (hne:i≠j):aX A i j=true\/aX A j i=true:=by
 have h1:=zam.1 h.iK (a,i) (by rw[za5];exact ha);have h2:=zam.1 h1 (b,j) (by rw[za5];exact hb);simp only[AO,hl]at h2;rcases hk with hk|hk<;>simp only[hk,zbj,zaI,zae,zag]at h2
 . rcases h2 with((h2|h2)|h2)|⟨h2,h3⟩
   . exact absurd h2 hne
   . exact .inl h2
   . exact .inr h2
   . rcases hx with hx|hx|hx
     . rw[hx]at h3;cases h3
     . omega
     . rw[hk]at hx;cases hx
 . rcases h2 with(h2|h2)|h2
   . exact absurd h2 hne
   . exact .inl h2
   . exact .inr h2
theorem Can.Cs (h:Can P L cl ops A s0 s' rs S) {i j:Nat} {a b:Rec} (ha:rs[i]? =some a) (hb:rs[j]? =some b) (hl:b.kind= .dj)
 (hk:a.kind= .load) (h1:aX A i j=false) (h2:aX A j i=false):∃t p,a.ld=some (t,p)/\cL P (if j<i then dv b.h0 (aX A i) (rs.take j)else b.h1) t p=some a.v:=by
 have h3:=zam.1 h.iK (a,i) (by rw[za5];exact ha);have h4:=zam.1 h3 (b,j) (by rw[za5];exact hb);simp only[AO,hl,hk,h1,h2,zcj]at h4
 split at h4
 . rename_i t p hld
   split at h4
   . rename_i v hv;exact⟨t,p,hld,by rw[hv,Xr h4]⟩
   . cases h4
 . cases h4
end
end
end Go.Proofs.YtfaojedfnjdnnaaGreat.Ev
namespace Go.Proofs.YtfaojedfnjdnnaaGreat.Ev
noncomputable section
open Go
section
variable {P : Program} {L : List FuncId} {cl : FuncId -> List Value -> ag -> Option (Value × ag)}
variable {ops : Array Oper} {A : Array Nat} {s0 s' : St} {rs : List Rec} {S : Nat -> St}
def sz (S:Nat->St) (i:Nat):Nat:=(S i).hp.size
def Mh (S:Nat->St) (rs:List Rec) (p:Nat->Bool) (m:Nat):ag:={(S m).hp with hid:=eS p (rs.take m) 0++(S 0).hp.hid}
theorem Can.oA (h:Can P L cl ops A s0 s' rs S) (hfr:ij cl) {i j:Nat} (hij:i<=j) (hj:j<=ops.size):sz S i<=sz S j:=(h.jf hfr j i hij hj).size
theorem Can.H6 (h:Can P L cl ops A s0 s' rs S) {p:Nat->Bool} {m:Nat} (hm:m<=ops.size) {X:ag} (h1:X.size=sz S m) (h2:X.root=(S m).hp.root)
 (h3:X.hid=eS p (rs.take m) 0++(S 0).hp.hid) (x:Nat) (b:Blk):
 X.get x=some b↔x<sz S m/\(S m).hp.root.get x=some b/\hidden (S 0).hp.hid x=false/\∀k,k<m->p k=false->¬(sz S k<=x/\x<sz S (k+1)):=by
 have hh:hidden X.hid x=false↔hidden (S 0).hp.hid x=false/\∀k,k<m->p k=false->¬(sz S k<=x/\x<sz S (k+1)):=by
  rw[h3,gV,zbS,and_comm];refine and_congr_right fun _=> ?_
  rw[<-Bool.not_eq_true,fX];constructor
  . intro hn k hk hp ⟨ha,hb⟩;obtain⟨r,g1,_,_,g4,g5⟩:=h.gz (i:=k) (by omega);exact hn ⟨k,r,by rw[zav,if_pos hk];exact g1,by rw[zaF];exact hp,by rw[g4];exact ha,by rw[g5];exact hb⟩
  . rintro hn ⟨k,r,g1,g2,g3,g4⟩
    rw[zav]at g1
    split at g1
    . rename_i hk;obtain⟨r2,e1,_,_,e4,e5⟩:=h.gz (i:=k) (by omega);rw[g1]at e1;cases e1;exact hn k hk (by rw[zaF]at g2;exact g2) ⟨by rw[e4]at g3;exact g3,by rw[e5]at g4;exact g4⟩
    . cases g1
 unfold ag.get;rw[h1,h2];constructor
 . intro hx
   split at hx
   . rename_i hlt
     split at hx
     . cases hx
     . rename_i BF;have:=hh.1 (by simpa using BF);exact⟨hlt,hx,this⟩
   . cases hx
 . rintro⟨a1,a2,a3⟩
   rw[if_pos a1,if_neg (by rw[hh.2 a3];simp)];exact a2
def lg (ops:Array Oper) (S:Nat->St) (p:Nat->Bool) (m k:Nat):Prop:=m<=k/\k<ops.size/\p k=true/\sz S k<sz S (k+1)
structure wJ (ops : Array Oper) (rs : List Rec) (S : Nat -> St) (w0 : World) (p : Nat -> Bool) (f : Fm) (m : Nat) (w : World) : Prop where
 made:∀k,lg ops S p m k->∃cs l C tp,sz S (k+1)=sz S k+1/\(S (k+1)).hp.root.get (sz S k)=some ⟨cs⟩/\f (sz S k)=some l/\w.heap[l.blk]? =some (.cells C tp (0,0))/\l.room<=C.size/\
  (∀(i:Nat) v,cs[i]? =some v->bj v=true/\∃v',C[l.off+i]? =some v'/\V f v v')/\w0.heap.size<=l.blk/\∀y c n,(Mh S rs p m).get y=some c->f y=some n->n.blk≠l.blk
 apart:∀k k' l l',lg ops S p m k->lg ops S p m k'->k≠k'->f (sz S k)=some l->f (sz S k')=some l'->l.blk≠l'.blk
structure Inv (ops : Array Oper) (s0 : St) (rs : List Rec) (S : Nat -> St) (f0 : Fm) (w0 : World) (a0 : Act) (p : Nat -> Bool) (f : Fm) (m : Nat) (a : Act) (w : World) : Prop where
 mle:m<=ops.size
 tJ:m<ops.size->mL rs m/\p m=false
 uX:∀j,j<m->mL rs j->p j=true
 yX:AR ops p
 r:R f (Mh S rs p m) w
 H4:a.tmps.size=s0.fr.length
 defers:a.defers=a0.defers
 fr1:∀t k q r,ops[k]? =some q->rs[k]? =some r->q.dst=some t->p k=true->V f r.v (a.tmps.getD t undef)
 fr2:∀t,(∀k q,ops[k]? =some q->q.dst=some t->p k=false)->V f (s0.fr.getD t undef) (a.tmps.getD t undef)
 le:Le f0 f
 out:∀x,¬(sz S 0<=x/\x<sz S ops.size)->f x=f0 x
 free:∀k,k<ops.size->p k=false->∀x,sz S k<=x->x<sz S (k+1)->f x=none
 gC:w0.heap.size<=w.heap.size
 os:w.os=w0.os
 tape:w.tape=w0.tape
 output:w.output=w0.output
 fw:∀cb,cb<w0.heap.size->¬gj f0 (S 0).hp cb->w.heap[cb]? =w0.heap[cb]?
 own:∀cb,cb<w0.heap.size->gj f (Mh S rs p m) cb->gj f0 (S 0).hp cb
 early:wJ ops rs S w0 p f m w
def upd (p:Nat->Bool) (i:Nat) (j:Nat):Bool:=if j=i then true else p j
variable {f0 f : Fm} {w0 w : World} {a0 a : Act} {p : Nat -> Bool} {m i : Nat} {o : Oper}
theorem Inv.looks (hC:Can P L cl ops A s0 s' rs S) (hI:Inv ops s0 rs S f0 w0 a0 p f m a w) (ho:ops[i]? =some o) (hpi:p i=false)
 (hr:∀e∈o.after,Region.binds .any e=true->p e.on=true) (t:Tmp) (ht:t∈o.looksAt ops):V f ((S i).fr.getD t undef) (a.tmps.getD t undef):=by
 have hi:i<ops.size:=(zaJ.1 ho).1;obtain⟨_,aae⟩:=hC.frame i (by omega);obtain⟨c1,c2⟩:=aae t
 by_cases hex:∃k q,ops[k]? =some q/\q.dst=some t/\i≠k
 . obtain⟨k,q,hq,hd,hne⟩:=hex;have hk:k<ops.size:=(zaJ.1 hq).1;obtain⟨_,_,_,s4,_⟩:=dg hC.stat ho;obtain⟨rk,hrk,_⟩:=hC.gz hk;rcases s4 k q t hq hd with e|⟨hnd,adp⟩
   . exact absurd e hne
   . rcases adp ht with hg|hg
     ·
      have hpk:=nz hC.stat hI.yX ho hr hk hg;have hki:k<i:=((dg hC.stat ho).2.1 k hk hg).1;rw[c1 k q rk hki hq hrk hd];exact hI.fr1 t k q rk hq hrk hd hpk
     ·
      have hik:i<k:=((dg hC.stat hq).2.1 i hi hg).1;have hpk:p k=false:=by
       cases hp:p k with
       |false=>rfl
       |true=>rw[j9 hC.stat hI.yX k i hk hi hp hg]at hpi;cases hpi
      have WQ:∀k' q',ops[k']? =some q'->q'.dst=some t->k'=k:=by
       intro k' q' hq' hd';obtain⟨_,_,_,s4',_⟩:=dg hC.stat hq';rcases s4' k q t hq hd with e|⟨e,_⟩
       . exact e
       . exact absurd hd' e
      rw[c2 (fun k' q' hk' hq' hd'=>by have:=WQ k' q' hq' hd';omega)];exact hI.fr2 t (fun k' q' hq' hd'=>by rw[WQ k' q' hq' hd'];exact hpk)
 . have hno:∀k q,ops[k]? =some q->q.dst=some t->k=i:=by
    intro k q hq hd;apply zbW;intro hne;exact hex ⟨k,q,hq,hd,fun e=>hne e.symm⟩
   rw[c2 (fun k q hk hq hd=>by have:=hno k q hq hd;omega)];exact hI.fr2 t (fun k q hq hd=>by rw[hno k q hq hd];exact hpi)
theorem Inv.dV (hC:Can P L cl ops A s0 s' rs S) (hI:Inv ops s0 rs S f0 w0 a0 p f m a w) (ho:ops[i]? =some o) (hpi:p i=false)
 (hr:∀e∈o.after,Region.binds .any e=true->p e.on=true) (x:Operand) (hx:x∈o.op.operands) (v:Value) (hv:Ev.dV (S i).fr x=some v):V f v (a.eval x):=by
 cases x with
 |tmp t=>
  simp only[Ev.dV,zak]at hv;subst hv;exact hI.looks hC ho hpi hr t (zbT _ (zb0.2 ⟨.tmp t,by simpa using hx,rfl⟩))
 |const c=>
  simp only[Ev.dV]at hv
  split at hv
  . rename_i hc;cases hv;exact V.hZ f hc
  . cases hv
 |global g=>simp[Ev.dV]at hv
 |func g=>simp only[Ev.dV,zak]at hv;subst hv;exact .func g _ _ _ _ rfl rfl (fun i v v' h _=>by simp at h) (fun i v v' h _=>by simp at h)
theorem Inv.wanted (hC:Can P L cl ops A s0 s' rs S) (hI:Inv ops s0 rs S f0 w0 a0 p f m a w) (ho:ops[i]? =some o) (hpi:p i=false)
 (hr:∀e∈o.after,Region.binds .any e=true->p e.on=true):Region.wanted o (yielded ops a.tmps)=eZ ops (S i).fr o:=by
 have hi:i<ops.size:=(zaJ.1 ho).1;obtain⟨hlen,_⟩:=hC.frame i (by omega);unfold Region.wanted eZ;cases hg:o.guard with
 |none=>rfl
 |some gw=>
  obtain⟨j,want⟩:=gw;simp only[yielded];cases hd:(ops[j]?).bind (·.dst)with
  |none=>simp
  |some t=>
   simp only[zcg];have hv:=hI.looks hC ho hpi hr t (by unfold Oper.looksAt;rw[hg];simp[hd]);simp only[zba,zaf]at hv
   by_cases hl:t<(S i).fr.length
   . have hl':t<a.tmps.size:=by rw[hI.H4,<-hlen];exact hl
     rw[zah hl,zaz hl']at hv;rw[zah hl,zaz hl'];simp only[zbD]at hv;generalize (S i).fr[t]=u at hv;generalize a.tmps[t]=u' at hv;cases hv<;>simp
   . have hl':¬t<a.tmps.size:=by rw[hI.H4,<-hlen];exact hl
     have e1:(S i).fr[t]? =none:=zaW (zch hl);have e2:a.tmps[t]? =none:=Array.getElem?_eq_none (zch hl');rw[e1,e2];simp
theorem ES {a:Act} {d t:Tmp} {v:Value}:((a.put (some d) v).tmps.getD t undef)=if d=t/\d<a.tmps.size then v else a.tmps.getD t undef:=by
 simp only[Act.put,zba,Array.getElem?_setIfInBounds]
 by_cases e:d=t
 . subst e
   by_cases hl:d<a.tmps.size
   . simp[hl]
   . simp[hl]
 . simp[e]
theorem IY {p:Nat->Bool} (hp:AR ops p) (ho:ops[i]? =some o) (hr:∀e∈o.after,Region.binds .any e=true->p e.on=true):AR ops (upd p i):=by
 intro j q hq hpj e he hb;unfold upd at hpj⊢
 split
 . rfl
 . by_cases ej:j=i
   . subst ej;rw[ho]at hq;cases hq;exact hr e he hb
   . rw[if_neg ej]at hpj;exact hp j q hq hpj e he hb
theorem wJ.step (hE:wJ ops rs S w0 p f m w) {f':Fm} {w':World} (hle:Le f f') (hi:i<m\/¬sz S i<sz S (i+1))
 (hw:∀k l,lg ops S p m k->f (sz S k)=some l->(∀y c n,(Mh S rs p m).get y=some c->f y=some n->n.blk≠l.blk)->w'.heap[l.blk]? =w.heap[l.blk]? /\∀y c n,(Mh S rs (upd p i) m).get y=some c->f' y=some n->n.blk≠l.blk):
 wJ ops rs S w0 (upd p i) f' m w':=by
 have hk:∀k,lg ops S (upd p i) m k->lg ops S p m k:=fun k ⟨h1,h2,h3,h4⟩=>by
  refine⟨h1,h2, ?_,h4⟩;unfold upd at h3
  split at h3
  . rename_i e;subst e;rcases hi with hi|hi
    . omega
    . exact absurd h4 hi
  . exact h3
 refine⟨fun k h=> ?_,fun k k' l l' h h' hne hl hl'=> ?_⟩
 . obtain⟨cs,l,C,tp,a1,a2,a3,a4,a5,a6,a7,a8⟩:=hE.made k (hk k h);obtain⟨b1,b2⟩:=hw k l (hk k h) a3 a8;exact⟨cs,l,C,tp,a1,a2,hle _ _ a3,b1.trans a4,a5,fun j u hj=>by
    obtain⟨d1,u',d2,d3⟩:=a6 j u hj;exact⟨d1,u',d2,d3.mono hle⟩,a7,b2⟩
 . obtain⟨_,n,_,_,_,_,a3,_⟩:=hE.made k (hk k h);obtain⟨_,n',_,_,_,_,a3',_⟩:=hE.made k' (hk k' h');have e:=hle _ _ a3;have e':=hle _ _ a3';rw[hl]at e;rw[hl']at e';cases e;cases e';exact hE.apart k k' l l' (hk k h) (hk k' h') hne a3 a3'
theorem Inv.after (hC:Can P L cl ops A s0 s' rs S) (hI:Inv ops s0 rs S f0 w0 a0 p f m a w) (ho:ops[i]? =some o) (hpi:p i=false)
 (hr:∀e∈o.after,Region.binds .any e=true->p e.on=true) {r:Rec} (hri:rs[i]? =some r) {f':Fm} {w':World} {v':Value} {m':Nat} (hV:V f' r.v v') (hle:Le f f')
 (mK:∀x,¬(sz S i<=x/\x<sz S (i+1))->f' x=f x) (hws:w.heap.size<=w'.heap.size) (hos:w'.os=w.os) (htp:w'.tape=w.tape) (hou:w'.output=w.output)
 (kX:∀cb,cb<w0.heap.size->¬gj f0 (S 0).hp cb->w'.heap[cb]? =w.heap[cb]?)
 (lA:∀cb,cb<w0.heap.size->gj f' (Mh S rs (upd p i) m') cb->gj f0 (S 0).hp cb)
 (hm1:m'<=ops.size) (hm2:m'<ops.size->mL rs m'/\upd p i m'=false) (hm3:∀j,j<m'->mL rs j->upd p i j=true)
 (hR:R f' (Mh S rs (upd p i) m') w') (hE:wJ ops rs S w0 (upd p i) f' m' w') (hsz:∀a b,a<=b->b<=ops.size->sz S a<=sz S b):Inv ops s0 rs S f0 w0 a0 (upd p i) f' m' (a.put o.dst v') w':=by
 have hi:i<ops.size:=(zaJ.1 ho).1;obtain⟨_,_,s3,s4,_⟩:=dg hC.stat ho;refine⟨hm1,hm2,hm3,IY hI.yX ho hr,hR, ?_, ?_, ?_, ?_,hI.le.trans hle, ?_, ?_,zaP hI.gC hws,hos.trans hI.os,htp.trans hI.tape,hou.trans hI.output, ?_,lA,hE⟩
 . have:(a.put o.dst v').tmps.size=a.tmps.size:=by cases o.dst<;>simp[Act.put]
   rw[this];exact hI.H4
 . rw[<-hI.defers];cases o.dst<;>rfl
 . intro t k q rk hq hrk hd hpk
   by_cases e:k=i
   . subst e;rw[ho]at hq;cases hq;rw[hri]at hrk;cases hrk;rw[hd,ES,if_pos ⟨rfl,by rw[hI.H4];exact s3 t hd⟩];exact hV
   . have afv:p k=true:=by simpa[upd,e]using hpk
     have hne:o.dst≠some t:=by
      rcases s4 k q t hq hd with h1|⟨h1,_⟩
      . exact absurd h1.symm e
      . exact h1
     have:(a.put o.dst v').tmps.getD t undef=a.tmps.getD t undef:=by
      cases hdd:o.dst with
      |none=>rfl
      |some d=>
       rw[hdd]at hne;rw[ES,if_neg (fun⟨e2,_⟩=>hne (by rw[e2]))]
     rw[this];exact(hI.fr1 t k q rk hq hrk hd afv).mono hle
 . intro t hn;have hne:o.dst≠some t:=by
    intro hd;have:=hn i o ho hd;simp[upd]at this
   have:(a.put o.dst v').tmps.getD t undef=a.tmps.getD t undef:=by
    cases hdd:o.dst with
    |none=>rfl
    |some d=>
     rw[hdd]at hne;rw[ES,if_neg (fun⟨e2,_⟩=>hne (by rw[e2]))]
   rw[this];refine(hI.fr2 t (fun k q hq hd=> ?_)).mono hle;have:=hn k q hq hd;unfold upd at this
   split at this
   . cases this
   . exact this
 . intro x hx;have h1:=hsz 0 i (by omega) (by omega);have h2:=hsz (i+1) ops.size (by omega) (by omega);rw[mK x (by omega)];exact hI.out x hx
 . intro k hk hpk x hx1 hx2;unfold upd at hpk
   split at hpk
   . cases hpk
   . rename_i hki;rw[mK x ?_]
     . exact hI.free k hk hpk x hx1 hx2
     . rintro⟨h1,h2⟩
       rcases Nat.lt_or_gt_of_ne hki with h3|h3
       . have:=hsz (k+1) i (by omega) (by omega);omega
       . have:=hsz (i+1) k (by omega) (by omega);omega
 . intro cb h1 h2;rw[kX cb h1 h2];exact hI.fw cb h1 h2
end
end
end Go.Proofs.YtfaojedfnjdnnaaGreat.Ev
namespace Go.Proofs.YtfaojedfnjdnnaaGreat.Ev
noncomputable section
open Go
section
variable {P : Program} {L : List FuncId} {cl : FuncId -> List Value -> ag -> Option (Value × ag)}
variable {ops : Array Oper} {A : Array Nat} {s0 s' : St} {rs : List Rec} {S : Nat -> St}
variable {f0 f : Fm} {w0 w : World} {a0 a : Act} {p : Nat -> Bool} {m i : Nat} {o : Oper}
theorem R.sub {X Y:ag} (h:R f X w) (hg:∀x b,Y.get x=some b->X.get x=some b) (hl:Y.lock=X.lock) (hs:Y.lock<=Y.size):R f Y w:=by
 refine⟨fun x b hx=> ?_,h.big,hs,fun x y b c l m hx hy hmm=> ?_⟩
 . obtain⟨l,C,e,fr,h1,h2,h3,h4⟩:=h.blk x b (hg x b hx);exact⟨l,C,e,fr,h1,h2,h3,fun hmm=>h4 (by rw[aO]at hmm⊢;rw[<-hl];exact hmm)⟩
 . exact h.inj x y b c l m (hg x b hx) (hg y c hy) (by rw[aO]at hmm⊢;rw[<-hl];exact hmm)
theorem nN {X Y:ag} (hg:∀x b,Y.get x=some b->X.get x=some b) (hl:Y.lock=X.lock) {cb:Nat} (h:gj f Y cb):gj f X cb:=by
 obtain⟨x,b,l,h1,h2,h3,h4⟩:=h;exact⟨x,b,l,hg x b h1,by rw[aO]at h2⊢;rw[<-hl];exact h2,h3,h4⟩
theorem xS (hC:Can P L cl ops A s0 s' rs S) (hfr:ij cl) (hm:m<=ops.size):(Mh S rs p m).lock=(S 0).hp.lock:=(hC.jf hfr m 0 (by omega) hm).lock
theorem Can.lh (hC:Can P L cl ops A s0 s' rs S) (hm:m<=ops.size) (x:Nat) (b:Blk):
 (Mh S rs p m).get x=some b↔x<sz S m/\(S m).hp.root.get x=some b/\hidden (S 0).hp.hid x=false/\∀k,k<m->p k=false->¬(sz S k<=x/\x<sz S (k+1)):=
 hC.H6 (X:=Mh S rs p m) hm rfl rfl rfl x b
theorem Inv.still (hC:Can P L cl ops A s0 s' rs S) (hfr:ij cl) (hI:Inv ops s0 rs S f0 w0 a0 p f m a w) (ho:ops[i]? =some o) (hpi:p i=false)
 (hr:∀e∈o.after,Region.binds .any e=true->p e.on=true) {r:Rec} (hri:rs[i]? =some r) (hk:r.kind≠.dj) (SO:r.h0=r.h1) {f':Fm} {w':World} {v':Value} (hV:V f' r.v v')
 (hS:Stp f (Mh S rs p m) w f' (Mh S rs p m) w') (hR:R f' (Mh S rs p m) w'):Inv ops s0 rs S f0 w0 a0 (upd p i) f' m (a.put o.dst v') w':=by
 have hi:i<ops.size:=(zaJ.1 ho).1;obtain⟨r2,e1,_,_,e4,e5⟩:=hC.gz hi;rw[hri]at e1;cases e1;have hsz:sz S i=sz S (i+1):=by unfold sz;rw[<-e4,<-e5,SO]
 have hg:∀x b,(Mh S rs (upd p i) m).get x=some b->(Mh S rs p m).get x=some b:=by
  intro x b hx;rw[hC.lh hI.mle]at hx⊢;refine⟨hx.1,hx.2.1,hx.2.2.1,fun k hkm hpk=> ?_⟩
  by_cases e:k=i
  . subst e;omega
  . exact hx.2.2.2 k hkm (by simp[upd,e,hpk])
 have hl:(Mh S rs (upd p i) m).lock=(Mh S rs p m).lock:=rfl;refine hI.after hC ho hpi hr hri hV hS.le ?_ hS.gC hS.os hS.tape hS.output ?_ ?_ hI.mle ?_ ?_ (hR.sub hg hl hR.lk) (hI.early.step hS.le (.inr (by omega)) fun k l hk hl hv=>⟨hS.fw l.blk (hI.r.big _ l hl) (fun⟨x,b,l2,g1,g2,g3,g4⟩=>hv x b l2 g1 g3 g4),fun y c n hy hn=>by
  have hy':=hg y c hy;obtain⟨l2,C,e,fr,g1,_⟩:=hI.r.blk y c hy';have:=hS.le y l2 g1;rw[hn]at this;cases this;exact hv y c _ hy' g1⟩) (fun a b h1 h2=>hC.oA hfr h1 h2)
 . intro x _;exact hS.out x (by omega)
 . intro cb h1 h2;exact hS.fw cb (zaD h1 hI.gC) (fun h3=>h2 (hI.own cb h1 h3))
 . intro cb h1 h2;exact hI.own cb h1 (hS.own cb (zaD h1 hI.gC) (nN hg hl h2))
 . intro hm;obtain⟨h1,h2⟩:=hI.tJ hm;refine⟨h1, ?_⟩;have:m≠i:=by
    rintro rfl
    obtain⟨q,hq,hql⟩:=h1;rw[hri]at hq;cases hq;exact hk hql
   simp[upd,this,h2]
 . intro j hj hlj;have:=hI.uX j hj hlj;unfold upd;split<;>simp[this]
theorem Inv.Of (hC:Can P L cl ops A s0 s' rs S) (hI:Inv ops s0 rs S f0 w0 a0 p f m a w) (ho:ops[i]? =some o) (hpi:p i=false)
 (hr:∀e∈o.after,Region.binds .any e=true->p e.on=true) {r:Rec} (hri:rs[i]? =some r) (hk:r.kind= .quiet):(fK ops i=true/\m<=i)\/i<m/\∀k,i<=k->k<m->¬mL rs k:=by
 by_cases hal:fK ops i=true/\m<=i
 . exact .inl hal
 have hal:fK ops i=false\/i<m:=by
  cases h:fK ops i
  . exact .inl rfl
  . exact .inr (Nat.lt_of_not_le fun h2=>hal ⟨h,h2⟩)
 refine .inr ?_
 have hi:i<ops.size:=(zaJ.1 ho).1;have Wv:∀k,mL rs k->k≠i:=by
  rintro k ⟨q,hq,hql⟩ rfl
  rw[hri]at hq;cases hq;rw[hk]at hql;cases hql
 have Ww:m<=i->∀k,k<i->mL rs k->p k=true:=by
  rintro hmi k hki hkl
  obtain⟨q,hq,hql⟩:=hkl;rcases hC.comparable hri hq hql (.inl hk) (hal.imp_right fun h=>by omega) (by omega)with h1|h1
  . exact nz hC.stat hI.yX ho hr (by omega) h1
  . have hko:ops[k]? =some (ops[k]'(by omega)):=zaz _;have:=((dg hC.stat hko).2.1 i hi h1).1;omega
 have him:i<m:=by
  rcases Nat.lt_trichotomy i m with h1|h1|h1
  . exact h1
  . exact absurd h1.symm (Wv m (hI.tJ (by omega)).1)
  . have h2:=hI.tJ (by omega);rw[Ww (by omega) m h1 h2.1]at h2;cases h2.2
 refine⟨him,fun k h1 h2 hkl=> ?_⟩;have hki:i<k:=Nat.lt_of_le_of_ne h1 (fun e=>Wv k hkl e.symm);have hpk:=hI.uX k h2 hkl;obtain⟨q,hq,hql⟩:=hkl;have hkn:k<ops.size:=by have:=hI.mle;omega
 rcases hC.comparable hri hq hql (.inl hk) (.inr (.inl hki)) (by omega)with h3|h3
 . have:=((dg hC.stat ho).2.1 k hkn h3).1;omega
 . rw[j9 hC.stat hI.yX k i hkn hi hpk h3]at hpi;cases hpi
theorem Can.pQ (hC:Can P L cl ops A s0 s' rs S) (hfr:ij cl) {j:Nat} (hj:j<=ops.size) (q:Nat->Bool) (x:Nat) (b:Blk):
 (dv (S j).hp q (rs.take j)).get x=some b↔x<sz S j/\(S j).hp.root.get x=some b/\hidden (S 0).hp.hid x=false/\∀k,k<j->q k=false->¬(sz S k<=x/\x<sz S (k+1)):=
 hC.H6 (X:=dv (S j).hp q (rs.take j)) hj rfl rfl (by show eS q (rs.take j) 0++(S j).hp.hid=_;rw[(hC.jf hfr j 0 (by omega) hj).hid]) x b
theorem R.carry {M:ag} {w':World} {f':Fm} (h:R f M w) (hle:Le f f') (Ih:∀x l,f' x=some l->l.blk<w'.heap.size) (hk:∀cb,cb<w.heap.size->w'.heap[cb]? =w.heap[cb]?):R f' M w':=by
 have hold:∀x b l,M.get x=some b->f' x=some l->f x=some l:=fun x b l h1 h2=>by
  obtain⟨l2,C,e,fr,g1,_⟩:=h.blk x b h1;have:=hle x l2 g1;rw[h2]at this;cases this;exact g1
 refine⟨fun x b hx=> ?_,Ih,h.lk,fun x y b c l n hx hy hm hne hl hn=>h.inj x y b c l n hx hy hm hne (hold x b l hx hl) (hold y c n hy hn)⟩;obtain⟨l,C,e,fr,g1,g2,g3,g4⟩:=h.blk x b hx;refine⟨l,C,e,fr,hle x l g1,(hk _ (h.big x l g1)).trans g2,fun j u hj=> ?_,g4⟩;obtain⟨d1,u',d2,d3⟩:=g3 j u hj;exact⟨d1,u',d2,d3.mono hle⟩
theorem Inv.ahead (o7:(S 0).hp.lock<=sz S 0) (hcl:zg P cl) (hC:Can P L cl ops A s0 s' rs S) (hfr:ij cl) (hI:Inv ops s0 rs S f0 w0 a0 p f m a w) (ho:ops[i]? =some o) (hpi:p i=false)
 (hr:∀e∈o.after,Region.binds .any e=true->p e.on=true) (hal:fK ops i=true) (hmi:m<=i) {v:Value} {H':ag} (hri:rs[i]? =some ⟨.quiet,v,(S i).hp,cW (S i).hp H',none⟩)
 (hop:opE P cl (Ev.dV (S i).fr) o (dv (S i).hp (aX A i) (rs.take i))=some (v,H')) {Q:Exit->Act->World->Prop}:
 o.wp P a w (fun a' w'=>∃f' m',Inv ops s0 rs S f0 w0 a0 (upd p i) f' m' a' w') Q:=by
 have hi:i<ops.size:=(zaJ.1 ho).1;have ka:=hI.mle;obtain⟨r2,e1,_,_,e4,e5⟩:=hC.gz hi;rw[hri]at e1;cases e1;have hH1:(S (i+1)).hp=cW (S i).hp H':=e5.symm;have fJ:∀a b,a<=b->b<=ops.size->sz S a<=sz S b:=fun a b h1 h2=>hC.oA hfr h1 h2
 obtain⟨e,he⟩:∃e,o.op= .alloc e:=by
  unfold fK at hal;rw[ho]at hal;simp only at hal
  split at hal
  . rename_i e he;exact⟨e,he⟩
  . cases hal
 unfold opE at hop;rw[he]at hop;simp only at hop
 split at hop
 case h_2=>cases hop
 rename_i z hz;simp only[zai]at hop;obtain⟨cs,hcs,hop⟩:=hop;cases hop;have FQ:sz S (i+1)=sz S i+1:=by unfold sz;rw[hH1];rfl
 have KQ:(S (i+1)).hp.root.get (sz S i)=some ⟨cs⟩:=by
  rw[hH1];show(aG (dv (S i).hp (aX A i) (rs.take i)) cs).root.get (sz S i)=_;unfold aG;rw[ag.bW];exact if_pos rfl
 have hX:opE P cl (Ev.dV (S i).fr) o ⟨sz S i,.e,sz S i,[]⟩=some (ptr (sz S i) 0,aG ⟨sz S i,.e,sz S i,[]⟩ cs):=by
  unfold opE;rw[he];simp only[hz,hcs];rfl
 have hRX:R f ⟨sz S i,.e,sz S i,[]⟩ w:=⟨fun x b hx=>by simp[ag.get,hidden,Tr.get]at hx,hI.r.big,zap _,fun x y b c l n hx=>by simp[ag.get,hidden,Tr.get]at hx⟩
 refine HV hcl hRX (fun x hx u hu=>hI.dV hC ho hpi hr x hx u hu) (fun j h1 h2=>hI.free i hi hpi j h1 (by rw[FQ];exact h2)) hX ?_
 intro f' w' v' hV hS hR';have hno:∀cb,¬gj f ⟨sz S i,.e,sz S i,[]⟩ cb:=by
  rintro cb ⟨x,b,l,h1,_⟩
  simp[ag.get,hidden,Tr.get]at h1
 have kX:∀cb,cb<w.heap.size->w'.heap[cb]? =w.heap[cb]? :=fun cb h=>hS.fw cb h (hno cb)
 have iU:(aG ⟨sz S i,.e,sz S i,[]⟩ cs).get (sz S i)=some ⟨cs⟩:=by
  unfold ag.get aG;rw[if_pos (by simp),ag.bW];simp[hidden]
 obtain⟨l,C,tp,fr,g1,g2,g3,g4⟩:=hR'.blk _ _ iU;obtain⟨rfl,g5⟩:=g4 (by rw[aO];exact zap _);have fk:w.heap.size<=l.blk:=by
  apply zbW;intro hlt;exact hno l.blk (hS.own l.blk (by omega) ⟨_,_,l,iU,by rw[aO];exact zap _,g1,rfl⟩)
 have mK:∀x,x≠sz S i->f' x=f x:=fun x hx=>hS.out x (by
  show ¬(sz S i<=x/\x<sz S i+1);omega)
 have hg:∀x b,(Mh S rs (upd p i) m).get x=some b↔(Mh S rs p m).get x=some b:=by
  intro x b;rw[hC.lh ka,hC.lh ka];have e:∀k,k<m->upd p i k=p k:=fun k hk=>by unfold upd;rw[if_neg (by omega)]
  constructor<;>(rintro⟨h1,h2,h3,h4⟩;refine⟨h1,h2,h3,fun k hk hpk=>h4 k hk ?_⟩)
  . rw[e k hk];exact hpk
  . rw[<-e k hk];exact hpk
 have KR:∀x b n,(Mh S rs p m).get x=some b->f' x=some n->f x=some n:=fun x b n h1 h2=>by
  have hlt:x<(Mh S rs p m).size:=ag.ba h1;have hlt:x<sz S m:=hlt;have:=fJ m i hmi (by omega);rw[<-mK x (by omega)];exact h2
 have hRM:R f' (Mh S rs (upd p i) m) w':=(hI.r.carry hS.le hR'.big kX).sub (fun x b h=>(hg x b).1 h) rfl hI.r.lk;have hEk:∀k,lg ops S (upd p i) m k->k=i\/(k≠i/\lg ops S p m k):=fun k ⟨h1,h2,h3,h4⟩=>by
  by_cases ek:k=i
  . exact .inl ek
  . exact .inr ⟨ek,h1,h2,by simpa[upd,ek]using h3,h4⟩
 have SP:∀k,k<ops.size->sz S k<sz S (k+1)->k≠i->sz S k≠sz S i:=fun k hk hlt hne h=>by
  rcases Nat.lt_or_gt_of_ne hne with h1|h1
  . have:=fJ (k+1) i h1 (by omega);omega
  . have:=fJ (i+1) k h1 (by omega);omega
 have hE:wJ ops rs S w0 (upd p i) f' m w':=by
  refine⟨fun k hk=> ?_,fun k k' n n' hk hk' hne hn hn'=> ?_⟩
  . rcases hEk k hk with rfl|⟨hki,hk'⟩
    . refine⟨cs,l,C,tp,FQ,KQ,g1,g2,g5,g3,zaP hI.gC fk,fun y c n hy hn=> ?_⟩;have:=hI.r.big y n (KR y c n ((hg y c).1 hy) hn);omega
    . obtain⟨cs2,l2,C2,tp2,a1,a2,a3,a4,a5,a6,a7,a8⟩:=hI.early.made k hk';exact⟨cs2,l2,C2,tp2,a1,a2,hS.le _ _ a3,(kX _ (hI.r.big _ _ a3)).trans a4,a5,fun j u hj=>by
       obtain⟨d1,u',d2,d3⟩:=a6 j u hj;exact⟨d1,u',d2,d3.mono hS.le⟩,a7,fun y c n hy hn=>a8 y c n ((hg y c).1 hy) (KR y c n ((hg y c).1 hy) hn)⟩
  . rcases hEk k hk with rfl|⟨hki,hk1⟩
    . rcases hEk k' hk' with rfl|⟨aaf,Ol⟩
      . exact absurd rfl hne
      . rw[g1]at hn;cases hn;rw[mK _ (SP k' Ol.2.1 Ol.2.2.2 aaf)]at hn';have:=hI.r.big _ n' hn';omega
    . rw[mK _ (SP k hk1.2.1 hk1.2.2.2 hki)]at hn;rcases hEk k' hk' with rfl|⟨aaf,Ol⟩
      . rw[g1]at hn';cases hn';have:=hI.r.big _ n hn;omega
      . rw[mK _ (SP k' Ol.2.1 Ol.2.2.2 aaf)]at hn';exact hI.early.apart k k' n n' hk1 Ol hne hn hn'
 have afw:m≠i:=by
  rintro rfl
  obtain⟨⟨q,hq,hql⟩,_⟩:=hI.tJ hi;rw[hri]at hq;cases hq;cases hql
 refine⟨f',m,hI.after hC ho hpi hr hri hV hS.le ?_ hS.gC hS.os hS.tape hS.output ?_ ?_ ka ?_ ?_ hRM hE fJ⟩
 . intro x hx;exact mK x (by omega)
 . intro cb h1 _;exact kX cb (zaD h1 hI.gC)
 . rintro cb h1 ⟨x,b,n,hx,hm,hl,hcb⟩
   have hx':=(hg x b).1 hx;exact hI.own cb h1 ⟨x,b,n,hx',hm,KR x b n hx' hl,hcb⟩
 . intro hm;obtain⟨h1,h2⟩:=hI.tJ hm;exact⟨h1,by simp[upd,afw,h2]⟩
 . intro j hj hlj;have:=hI.uX j hj hlj;unfold upd;split<;>simp[this]
theorem Inv.quiet (o7:(S 0).hp.lock<=sz S 0) (hcl:zg P cl) (hC:Can P L cl ops A s0 s' rs S) (hfr:ij cl) (hI:Inv ops s0 rs S f0 w0 a0 p f m a w) (ho:ops[i]? =some o) (hpi:p i=false)
 (hr:∀e∈o.after,Region.binds .any e=true->p e.on=true) {v:Value} {H':ag} (hri:rs[i]? =some ⟨.quiet,v,(S i).hp,cW (S i).hp H',none⟩)
 (hop:opE P cl (Ev.dV (S i).fr) o (dv (S i).hp (aX A i) (rs.take i))=some (v,H')) {Q:Exit->Act->World->Prop}:
 o.wp P a w (fun a' w'=>∃f' m',Inv ops s0 rs S f0 w0 a0 (upd p i) f' m' a' w') Q:=by
 have hi:i<ops.size:=(zaJ.1 ho).1;rcases hI.Of hC ho hpi hr hri rfl with⟨hal,hmi⟩|⟨him,hnl⟩
 . exact hI.ahead o7 hcl hC hfr ho hpi hr hal hmi hri hop
 have ka:=hI.mle;obtain⟨r2,e1,_,_,e4,e5⟩:=hC.gz hi;rw[hri]at e1;cases e1;have hH1:(S (i+1)).hp=cW (S i).hp H':=e5.symm;have FQ:sz S (i+1)=H'.size:=by unfold sz;rw[hH1];rfl
 have ua:∀x,x<sz S i->(S m).hp.root.get x=(S i).hp.root.get x:=fun x hx=>hC.jU hfr m i (by omega) ka hnl x hx
 have KQ:∀x,x<sz S (i+1)->(S m).hp.root.get x=H'.root.get x:=by
  intro x hx;have:=hC.jU hfr m (i+1) (by omega) ka (fun k h1 h2=>hnl k (by omega) h2) x hx;rw[this,hH1];rfl
 have fJ:∀a b,a<=b->b<=ops.size->sz S a<=sz S b:=fun a b h1 h2=>hC.oA hfr h1 h2
 have adq:R f (dv (S i).hp (aX A i) (rs.take i)) w:=by
  refine hI.r.view ?_ rfl;intro x b hx;rw[hC.pQ hfr (by omega)]at hx;rw[hC.lh ka];obtain⟨h1,h2,h3,h4⟩:=hx;refine⟨zaD h1 (fJ i m (by omega) ka),by rw[ua x h1];exact h2,h3,fun k hk hpk hx=> ?_⟩
  by_cases hki:k<i
  . refine h4 k hki ?_ hx;cases hg:aX A i k with
    |false=>rfl
    |true=>rw[nz hC.stat hI.yX ho hr (by omega) hg]at hpk;cases hpk
  . have:=fJ i k (by omega) (by omega);omega
 have bo:∀j,(dv (S i).hp (aX A i) (rs.take i)).size<=j->j<H'.size->f j=none:=fun j h1 h2=>hI.free i hi hpi j h1 (by rw[FQ];exact h2)
 refine HV hcl adq (fun x hx u hu=>hI.dV hC ho hpi hr x hx u hu) bo hop ?_
 intro f' w' v' hV hS hR';have FT:∀cb,¬gj f (dv (S i).hp (aX A i) (rs.take i)) cb:=by
  rintro cb ⟨x,b,l,h1,h2,_⟩
  have:=ag.ba h1;rw[aO]at h2;have e:(dv (S i).hp (aX A i) (rs.take i)).lock=(dv (S i).hp (aX A i) (rs.take i)).size:=rfl;omega
 have KS:H'.lock=sz S i:=hS.lock;have adr:H'.hid=(dv (S i).hp (aX A i) (rs.take i)).hid:=hS.hid;have Om:∀x b,(Mh S rs (upd p i) m).get x=some b->(sz S i<=x/\x<sz S (i+1)/\H'.get x=some b)\/(¬(sz S i<=x/\x<sz S (i+1))/\(Mh S rs p m).get x=some b):=by
  intro x b hx;rw[hC.lh ka]at hx;obtain⟨h1,h2,h3,h4⟩:=hx
  by_cases hin:sz S i<=x/\x<sz S (i+1)
  . refine .inl ⟨hin.1,hin.2, ?_⟩;have hnh:hidden H'.hid x=false:=by
     rw[adr];show hidden (eS (aX A i) (rs.take i) 0++(S i).hp.hid) x=false;rw[(hC.jf hfr i 0 (by omega) (by omega)).hid,gV,h3,Bool.or_false,<-Bool.not_eq_true,fX]
     rintro⟨k,q,g1,_,g3,g4⟩
     rw[zav]at g1
     split at g1
     . rename_i hk;obtain⟨q2,d1,_,_,d4,d5⟩:=hC.gz (i:=k) (by omega);rw[g1]at d1;cases d1;rw[d5]at g4;have:=fJ (k+1) i (by omega) (by omega);have h5:x<sz S (k+1):=g4;omega
     . cases g1
    unfold ag.get;rw[if_pos (by rw[<-FQ];exact hin.2),hnh,if_neg (by simp),<-KQ x hin.2];exact h2
  . refine .inr ⟨hin, ?_⟩;rw[hC.lh ka];refine⟨h1,h2,h3,fun k hk hpk hx=> ?_⟩
    by_cases e:k=i
    . subst e;exact hin hx
    . exact h4 k hk (by simp[upd,e,hpk]) hx
 have kb:(Mh S rs (upd p i) m).lock=(S 0).hp.lock:=xS hC hfr ka;have FU:(Mh S rs p m).lock=(S 0).hp.lock:=xS hC hfr ka;have fk:∀x b l,(Mh S rs (upd p i) m).get x=some b->sz S i<=x/\x<sz S (i+1)/\H'.get x=some b->f' x=some l->w.heap.size<=l.blk:=by
  rintro x b l _ ⟨h1,h2,h3⟩ h4
  apply zbW;intro hlt;exact FT l.blk (hS.own l.blk (by omega) ⟨x,b,l,h3,by rw[aO,KS];exact h1,h4,rfl⟩)
 have hold:∀x b l,(Mh S rs p m).get x=some b->f' x=some l->f x=some l/\l.blk<w.heap.size:=by
  intro x b l h1 h2;obtain⟨l2,C,e,fr,g1,_⟩:=hI.r.blk x b h1;have:=hS.le x l2 g1;rw[h2]at this;cases this;exact⟨g1,hI.r.big x l g1⟩
 have hRM:R f' (Mh S rs (upd p i) m) w':=by
  refine⟨?_,hR'.big, ?_, ?_⟩
  . intro x b hx;rcases Om x b hx with⟨h1,h2,h3⟩|⟨h1,h2⟩
    . obtain⟨l,C,e,fr,g1,g2,g3,g4⟩:=hR'.blk x b h3;exact⟨l,C,e,fr,g1,g2,g3,fun _=>g4 (by rw[aO,KS];exact h1)⟩
    . obtain⟨l,C,e,fr,g1,g2,g3,g4⟩:=hI.r.blk x b h2;refine⟨l,C,e,fr,hS.le x l g1, ?_, ?_,fun hm=>g4 (by rw[aO,FU];rw[aO,kb]at hm;exact hm)⟩
      . rw[hS.fw l.blk (hI.r.big x l g1) (FT _)];exact g2
      . intro j u hj;obtain⟨d1,u',d2,d3⟩:=g3 j u hj;exact⟨d1,u',d2,d3.mono hS.le⟩
  . rw[kb];exact zaP o7 (fJ 0 m (by omega) ka)
  . intro x y b c l n hx hy hm hne hl hn;rcases Om x b hx with hxn|⟨_,hxo⟩
    . have h1:=fk x b l hx hxn hl;rcases Om y c hy with hyn|⟨_,hyo⟩
      . exact hR'.inj x y b c l n hxn.2.2 hyn.2.2 (by rw[aO,KS];exact hxn.1) hne hl hn
      . have:=(hold y c n hyo hn).2;omega
    . obtain⟨h1,h2⟩:=hold x b l hxo hl;rcases Om y c hy with hyn|⟨_,hyo⟩
      . have:=fk y c n hy hyn hn;omega
      . obtain⟨h3,_⟩:=hold y c n hyo hn;exact hI.r.inj x y b c l n hxo hyo (by rw[aO,FU];rw[aO,kb]at hm;exact hm) hne h1 h3
 have hE:wJ ops rs S w0 (upd p i) f' m w':=hI.early.step hS.le (.inl him) fun k l hk hl hv=>by
  have hlt:=hI.r.big _ l hl;refine⟨hS.fw l.blk hlt (FT _),fun y c n hy hn=> ?_⟩;rcases Om y c hy with hyn|⟨_,hyo⟩
  . have:=fk y c n hy hyn hn;omega
  . exact hv y c n hyo (hold y c n hyo hn).1
 refine⟨f',m,hI.after hC ho hpi hr hri hV hS.le ?_ hS.gC hS.os hS.tape hS.output ?_ ?_ ka ?_ ?_ hRM hE fJ⟩
 . intro x hx;refine hS.out x ?_
   show ¬(sz S i<=x/\x<H'.size);rw[<-FQ];exact hx
 . intro cb h1 _;exact hS.fw cb (zaD h1 hI.gC) (FT cb)
 . rintro cb h1 ⟨x,b,l,hx,hm,hl,hcb⟩
   rcases Om x b hx with hxn|⟨_,hxo⟩
   . have:=fk x b l hx hxn hl;have:=hI.gC;omega
   . obtain⟨h2,_⟩:=hold x b l hxo hl;exact hI.own cb h1 ⟨x,b,l,hxo,by rw[aO,FU];rw[aO,kb]at hm;exact hm,h2,hcb⟩
 . intro hm;obtain⟨h1,h2⟩:=hI.tJ hm;have:m≠i:=by omega
   exact⟨h1,by simp[upd,this,h2]⟩
 . intro j hj hlj;have:=hI.uX j hj hlj;unfold upd;split<;>simp[this]
theorem Inv.load (hC:Can P L cl ops A s0 s' rs S) (hfr:ij cl) (hI:Inv ops s0 rs S f0 w0 a0 p f m a w) (ho:ops[i]? =some o) (hpi:p i=false)
 (hr:∀e∈o.after,Region.binds .any e=true->p e.on=true) {t:TypeId} {ad:Operand} {q v:Value} (hri:rs[i]? =some ⟨.load,v,(S i).hp,(S i).hp,some (t,q)⟩)
 (hop:o.op= .load t ad) (had:Ev.dV (S i).fr ad=some q) (hld:cL P (dv (S i).hp (aX A i) (rs.take i)) t q=some v) {Q:Exit->Act->World->Prop}:
 o.wp P a w (fun a' w'=>∃f' m',Inv ops s0 rs S f0 w0 a0 (upd p i) f' m' a' w') Q:=by
 have hi:i<ops.size:=(zaJ.1 ho).1;have ka:=hI.mle;have fJ:∀a b,a<=b->b<=ops.size->sz S a<=sz S b:=fun a b h1 h2=>hC.oA hfr h1 h2
 have hVq:V f q (a.eval ad):=hI.dV hC ho hpi hr ad (by rw[hop];simp[Op.operands]) q had;have key:∃X,R f X w/\cL P X t q=some v:=by
  have ub:∀j,(j=i\/mL rs j)->j<=m->(∀k,j<=k->k<m->¬mL rs k)->cL P (dv (S j).hp (aX A i) (rs.take j)) t q=some v->
   (∀k,k<j->aX A i k=true->p k=true)->∃X,R f X w/\cL P X t q=some v:=by
   intro j _ hjm hnl hl afx;refine⟨_,hI.r.view (X:=dv (S j).hp (aX A i) (rs.take j)) ?_ rfl,hl⟩;intro x b hx;rw[hC.pQ hfr (by omega)]at hx;rw[hC.lh ka];obtain⟨h1,h2,h3,h4⟩:=hx;refine⟨zaD h1 (fJ j m hjm ka),by rw[hC.jU hfr m j hjm ka hnl x h1];exact h2,h3,fun k hk hpk hx=> ?_⟩
   by_cases hkj:k<j
   . refine h4 k hkj ?_ hx;cases hg:aX A i k with
     |false=>rfl
     |true=>rw[afx k hkj hg]at hpk;cases hpk
   . have:=fJ j k (by omega) (by omega);omega
  have SQ:∀k,k<ops.size->aX A i k=true->p k=true:=fun k hk hg=>nz hC.stat hI.yX ho hr hk hg
  have On:∀j,mL rs j->p j=false->j<i->cL P (dv (S j).hp (aX A i) (rs.take j)) t q=some v:=by
   rintro j ⟨b,hb,hbl⟩ hpj hji
   have g1:aX A i j=false:=by
    cases hg:aX A i j with
    |false=>rfl
    |true=>rw[SQ j (by omega) hg]at hpj;cases hpj
   have g2:aX A j i=false:=by
    cases hg:aX A j i with
    |false=>rfl
    |true=>
     have hjo:ops[j]? =some (ops[j]'(by omega)):=zaz _;have:=((dg hC.stat hjo).2.1 i hi hg).1;omega
   obtain⟨t2,q2,e1,e2⟩:=hC.Cs hri hb hbl rfl g1 g2;cases e1;rw[if_pos hji]at e2;obtain⟨r2,d1,_,_,d4,_⟩:=hC.gz (i:=j) (by omega);rw[hb]at d1;cases d1;rw[d4]at e2;exact e2
  rcases zci m i with hmi|him
  ·
   obtain⟨h1,h2⟩:=hI.tJ (by omega);exact ub m (.inr h1) (zap _) (fun k h3 h4=>by omega) (On m h1 h2 hmi) (fun k hk hg=>SQ k (by omega) hg)
  . have hni:¬mL rs i:=by
     rintro⟨b,hb,hbl⟩
     rw[hri]at hb;cases hb;cases hbl
    by_cases hex:∃j,i<j/\j<m/\mL rs j
    ·
     have ads:∀n,(∃j,i<j/\j<m/\m-j<=n/\mL rs j)->∃j,i<j/\j<m/\mL rs j/\∀k,j<k->k<m->¬mL rs k:=by
      intro n
      induction n with
      |zero=>rintro⟨j,h1,h2,h3,h4⟩;omega
      |succ n ih=>
       rintro⟨j,h1,h2,h3,h4⟩
       by_cases hk:∃k,j<k/\k<m/\mL rs k
       . obtain⟨k,k1,k2,k3⟩:=hk;exact ih ⟨k,by omega,k2,by omega,k3⟩
       . exact⟨j,h1,h2,h4,fun k k1 k2 k3=>hk ⟨k,k1,k2,k3⟩⟩
     obtain⟨j0,j1,j2,j3⟩:=hex;obtain⟨j,h1,h2,h3,h4⟩:=ads m ⟨j0,j1,j2,by omega,j3⟩;have hpj:=hI.uX j h2 h3;obtain⟨b,hb,hbl⟩:=h3;have hjn:j<ops.size:=by omega
     have hjo:ops[j]? =some (ops[j]'hjn):=zaz _;have g1:aX A i j=false:=by
      cases hg:aX A i j with
      |false=>rfl
      |true=>have:=((dg hC.stat ho).2.1 j hjn hg).1;omega
     have g2:aX A j i=false:=by
      cases hg:aX A j i with
      |false=>rfl
      |true=>rw[j9 hC.stat hI.yX j i hjn hi hpj hg]at hpi;cases hpi
     obtain⟨t2,q2,e1,e2⟩:=hC.Cs hri hb hbl rfl g1 g2;cases e1;rw[if_neg (by omega)]at e2;obtain⟨r2,d1,_,_,d4,d5⟩:=hC.gz (i:=j) hjn;rw[hb]at d1;cases d1;rw[d5]at e2;refine⟨_,hI.r.view (X:={(S (j+1)).hp with lock:=(S (j+1)).hp.size}) ?_ rfl, ?_⟩
     . intro x c hx;rw[hC.lh ka];have hx':(S (j+1)).hp.get x=some c:=hx;have hlt:x<sz S (j+1):=ag.ba hx';obtain⟨u1,u2⟩:=ag.aM hx';refine⟨zaD hlt (fJ (j+1) m (by omega) ka), ?_, ?_, ?_⟩
       . rw[hC.jU hfr m (j+1) (by omega) ka (fun k k1 k2=>h4 k (by omega) k2) x hlt];exact u1
       . rw[<-(hC.jf hfr (j+1) 0 (by omega) (by omega)).hid];exact u2
       . rintro k hk hpk ⟨hx1,hx2⟩
         have hkj:k<=j:=by
          rcases zci j k with h5|h5
          . have:=fJ (j+1) k (by omega) (by omega);omega
          . exact h5
         by_cases ekj:k=j
         . rw[ekj,hpj]at hpk;cases hpk
         ·
          obtain⟨rk,r1,r2,_,r4,r5⟩:=hC.gz (i:=k) (by omega);have hkk:rk.kind= .quiet\/rk.kind= .dj:=by
           have vR:(S k).hp.size<(S (k+1)).hp.size:=by
            have:sz S k<sz S (k+1):=by omega
            exact this
           rcases iE r2 with⟨_,rfl⟩|⟨_,⟨v,_,rfl⟩|⟨t,a,p,v,_,_,_,rfl⟩|⟨v,H',_,rfl⟩|⟨v,H',_,rfl⟩⟩
           . simp only at r4 r5;rw[<-r5]at vR;exact absurd vR (Nat.lt_irrefl _)
           . simp only at r4 r5;rw[<-r5]at vR;exact absurd vR (Nat.lt_irrefl _)
           . simp only at r4 r5;rw[<-r5]at vR;exact absurd vR (Nat.lt_irrefl _)
           . exact .inl rfl
           . exact .inr rfl
          rcases hC.comparable r1 hb hbl hkk (.inr (.inl (by omega))) ekj with g|g
          . have hko:ops[k]? =some (ops[k]'(by omega)):=zaz _;have:=((dg hC.stat hko).2.1 j hjn g).1;omega
          . rw[j9 hC.stat hI.yX j k hjn (by omega) hpj g]at hpk;cases hpk
     . exact(GH (fun x=>rfl) t q).trans e2
    . refine ub i (.inl rfl) him (fun k k1 k2 k3=> ?_) hld (fun k hk hg=>SQ k (by omega) hg);rcases Nat.lt_or_eq_of_le k1 with h5|h5
      . exact hex ⟨k,h5,k2,k3⟩
      . subst h5;exact hni k3
 obtain⟨X,hX,hXl⟩:=key;obtain⟨v',h1,h2⟩:=qa hX hVq hXl;unfold Oper.wp;have vQ:(execOp a.eval o).run P w= .ok (.value v') w:=by simp[execOp,hop,h1]
 rw[vQ];exact⟨f,m,hI.still hC hfr ho hpi hr hri (by simp) rfl h2 (.refl f _ w) hI.r⟩
theorem Mf (g:Nat->Nat) (x:Nat):∀(b a:Nat),a<=b->g a<=x->x<g b->∃k,a<=k/\k<b/\g k<=x/\x<g (k+1):=by
 intro b
 induction b with
 |zero=>
  intro a h1 h2 h3;have:a=0:=by omega
  subst this;omega
 |succ b ih=>
  intro a h1 h2 h3
  by_cases e:a=b+1
  . subst e;omega
  . by_cases hx:x<g b
    . obtain⟨k,k1,k2,k3⟩:=ih a (by omega) h2 hx;exact⟨k,k1,by omega,k3⟩
    . exact⟨b,by omega,by omega,by omega,h3⟩
theorem Ib (rs:List Rec) (n:Nat):∀(d i:Nat),i+d=n->∃m,i<=m/\m<=n/\(m<n->mL rs m)/\∀j,i<=j->j<m->¬mL rs j:=by
 intro d
 induction d with
 |zero=>intro i h;exact⟨n,by omega,zap _,fun h=>by omega,fun j h1 h2=>by omega⟩
 |succ d ih=>
  intro i h
  by_cases hl:mL rs i
  . exact⟨i,zap _,by omega,fun _=>hl,fun j h1 h2=>by omega⟩
  . obtain⟨m,m1,m2,m3,m4⟩:=ih (i+1) (by omega);refine⟨m,by omega,m2,m3,fun j h1 h2=> ?_⟩
    by_cases e:j=i
    . subst e;exact hl
    . exact m4 j (by omega) h2
theorem Can.makes (hC:Can P L cl ops A s0 s' rs S) {k:Nat} (hk:k<ops.size) (hlt:sz S k<sz S (k+1)):∃r,rs[k]? =some r/\(r.kind= .quiet\/r.kind= .dj):=by
 obtain⟨rk,r1,r2,_,r4,r5⟩:=hC.gz hk;refine⟨rk,r1, ?_⟩;have vR:(S k).hp.size<(S (k+1)).hp.size:=hlt;rcases iE r2 with⟨_,rfl⟩|⟨_,⟨v,_,rfl⟩|⟨t,a,p,v,_,_,_,rfl⟩|⟨v,H',_,rfl⟩|⟨v,H',_,rfl⟩⟩
 . simp only at r4 r5;rw[<-r5]at vR;exact absurd vR (Nat.lt_irrefl _)
 . simp only at r4 r5;rw[<-r5]at vR;exact absurd vR (Nat.lt_irrefl _)
 . simp only at r4 r5;rw[<-r5]at vR;exact absurd vR (Nat.lt_irrefl _)
 . exact .inl rfl
 . exact .inr rfl
theorem Inv.dj (o7:(S 0).hp.lock<=sz S 0) (hcl:zg P cl) (hC:Can P L cl ops A s0 s' rs S) (hfr:ij cl) (hI:Inv ops s0 rs S f0 w0 a0 p f m a w) (ho:ops[i]? =some o) (hpi:p i=false)
 (hr:∀e∈o.after,Region.binds .any e=true->p e.on=true) {v:Value} {H':ag} (hri:rs[i]? =some ⟨.dj,v,(S i).hp,H',none⟩)
 (hop:opE P cl (Ev.dV (S i).fr) o (S i).hp=some (v,H')) {Q:Exit->Act->World->Prop}:
 o.wp P a w (fun a' w'=>∃f' m',Inv ops s0 rs S f0 w0 a0 (upd p i) f' m' a' w') Q:=by
 have hi:i<ops.size:=(zaJ.1 ho).1;obtain⟨r2,e1,_,_,e4,e5⟩:=hC.gz hi;rw[hri]at e1;cases e1;have hH1:(S (i+1)).hp=H':=e5.symm;have fJ:∀a b,a<=b->b<=ops.size->sz S a<=sz S b:=fun a b h1 h2=>hC.oA hfr h1 h2
 have hli:mL rs i:=⟨_,hri,rfl⟩
 have ka:=hI.mle;have Wx:∀k,k<ops.size->k≠i->(∃r,rs[k]? =some r/\(r.kind= .quiet\/r.kind= .dj)/\(fK ops k=false\/k<i\/r.kind= .dj))->(k<i->p k=true)/\(i<k->p k=false):=by
  rintro k hk hne ⟨r,hrk,hkk,hx⟩
  have hko:ops[k]? =some (ops[k]'hk):=zaz _;rcases hC.comparable hrk hri rfl hkk hx hne with g|g
  . have h1:=((dg hC.stat hko).2.1 i hi g).1;refine⟨fun h=>by omega,fun _=> ?_⟩;cases hp:p k with
    |false=>rfl
    |true=>rw[j9 hC.stat hI.yX k i hk hi hp g]at hpi;cases hpi
  . have h1:=((dg hC.stat ho).2.1 k hk g).1;exact⟨fun _=>nz hC.stat hI.yX ho hr hk g,fun h=>by omega⟩
 have KT:∀k,mL rs k->∃r,rs[k]? =some r/\(r.kind= .quiet\/r.kind= .dj)/\(fK ops k=false\/k<i\/r.kind= .dj):=fun k ⟨r,h1,h2⟩=>⟨r,h1,.inr h2,.inr (.inr h2)⟩
 have hmi:m=i:=by
  rcases Nat.lt_trichotomy m i with h1|h1|h1
  . obtain⟨h2,h3⟩:=hI.tJ (by omega);rw[(Wx m (by omega) (by omega) (KT m h2)).1 h1]at h3;cases h3
  . exact h1
  . rw[hI.uX i h1 hli]at hpi;cases hpi
 subst hmi;have BF:(S m).hp.hid=(S 0).hp.hid:=(hC.jf hfr m 0 (by omega) ka).hid;have SU:(S m).hp.lock=(S 0).hp.lock:=(hC.jf hfr m 0 (by omega) ka).lock;have jv:∀x b,(S m).hp.get x=some b->(Mh S rs p m).get x=some b:=by
  intro x b hx;rw[hC.lh ka];obtain⟨u1,u2⟩:=ag.aM hx;refine⟨ag.ba hx,u1,by rw[<-BF];exact u2,fun k hk hpk hx=> ?_⟩;obtain⟨rk,q1,q2⟩:=hC.makes (k:=k) (by omega) (by omega);rw[(Wx k (by omega) (by omega) ⟨rk,q1,q2,.inr (.inl hk)⟩).1 hk]at hpk;cases hpk
 have hR0:R f (S m).hp w:=hI.r.sub jv rfl (by rw[SU];exact zaP o7 (fJ 0 m (by omega) ka));have bo:∀j,(S m).hp.size<=j->j<H'.size->f j=none:=fun j h1 h2=>hI.free m hi hpi j h1 (by show j<(S (m+1)).hp.size;rw[hH1];exact h2)
 refine HV hcl hR0 (fun x hx u hu=>hI.dV hC ho hpi hr x hx u hu) bo hop ?_
 intro f' w' v' hV hS hR';obtain⟨m',n1,n2,n3,n4⟩:=Ib rs ops.size (ops.size-(m+1)) (m+1) (by omega);have adt:H'.hid=(S 0).hp.hid:=by rw[<-BF];exact hS.hid
 have KU:H'.lock=(S 0).hp.lock:=by rw[<-SU];exact hS.lock
 have kb:(Mh S rs (upd p m) m').lock=(S 0).hp.lock:=xS hC hfr n2;have SW:∀k l,f (sz S k)=some l->l.blk<w.heap.size:=fun k l h=>hI.r.big _ l h
 have SX:∀k l,f (sz S k)=some l->(∀y c n,(Mh S rs p m).get y=some c->f y=some n->n.blk≠l.blk)->¬gj f (S m).hp l.blk:=by
  rintro k l h hv ⟨x,b,l2,g1,g2,g3,g4⟩
  exact hv x b l2 (jv x b g1) g3 g4
 have KR:∀k l,f (sz S k)=some l->(∀y c n,(Mh S rs p m).get y=some c->f y=some n->n.blk≠l.blk)->∀y c n,H'.get y=some c->f' y=some n->n.blk≠l.blk:=by
  intro k l h hv y c n hy hn e
  by_cases Ii:H'.lock<=y
  . exact SX k l h hv (hS.own l.blk (SW k l h) ⟨y,c,n,hy,by rw[aO];exact Ii,hn,e⟩)
  . have hyl:y<(S m).hp.lock:=by rw[<-hS.lock];omega
    have hyz:y<(S m).hp.size:=zaD hyl (by rw[SU];exact zaP o7 (fJ 0 m (by omega) ka));obtain⟨u1,u2⟩:=ag.aM hy;rw[hS.out y (by omega)]at hn;refine hv y c n (jv y c ?_) hn e;unfold ag.get;rw[if_pos hyz,<-hS.hid,u2,if_neg (by simp),<-hS.root y hyz hyl];exact u1
 have Dp:∀x b,(Mh S rs (upd p m) m').get x=some b->H'.get x=some b\/∃k,lg ops S p m k/\k≠m/\k<m'/\x=sz S k/\(S (k+1)).hp.root.get (sz S k)=some b:=by
  intro x b hx;rw[hC.lh n2]at hx;obtain⟨h1,h2,h3,h4⟩:=hx
  by_cases hlt:x<sz S (m+1)
  . have:=hC.jU hfr m' (m+1) n1 n2 n4 x hlt;rw[hH1]at this;have SY:x<H'.size:=by
     have h5:x<(S (m+1)).hp.size:=hlt;rw[hH1]at h5;exact h5
    left
    unfold ag.get;rw[if_pos SY,adt,h3,if_neg (by simp),<-this];exact h2
  . right
    obtain⟨k,k1,k2,k3,k4⟩:=Mf (sz S) x m' (m+1) n1 (by omega) h1;have hne:k≠m:=by omega
    have hpk:p k=true:=by
     cases hpk:p k
     . exact absurd ⟨k3,k4⟩ (h4 k k2 (by simp[upd,hne,hpk]))
     . rfl
    have hEk:lg ops S p m k:=⟨by omega,by omega,hpk,by omega⟩
    obtain⟨cs,l,C,tp,a1,a2,_⟩:=hI.early.made k hEk;have hxk:x=sz S k:=by omega
    refine⟨k,hEk,hne,k2,hxk, ?_⟩;rw[<-hxk,<-hC.jU hfr m' (k+1) (by omega) n2 (fun j j1 j2=>n4 j (by omega) j2) x k4];exact h2
 have hRM:R f' (Mh S rs (upd p m) m') w':=by
  refine⟨fun x b hx=> ?_,hR'.big,by rw[kb];exact zaP o7 (fJ 0 m' (by omega) n2),fun x y b c l n hx hy hm hne hl hn=> ?_⟩
  . rcases Dp x b hx with h|⟨k,hk,_,_,rfl,hb⟩
    . obtain⟨l,C,e,fr,g1,g2,g3,g4⟩:=hR'.blk x b h;exact⟨l,C,e,fr,g1,g2,g3,fun hm=>g4 (by rw[aO]at hm⊢;rw[KU,<-kb];exact hm)⟩
    . obtain⟨cs,l,C,tp,a1,a2,a3,a4,a5,a6,a7,a8⟩:=hI.early.made k hk;rw[a2]at hb;cases hb;refine⟨l,C,tp,(0,0),hS.le _ _ a3,(hS.fw _ (SW k l a3) (SX k l a3 a8)).trans a4,fun j u hj=> ?_,fun _=>⟨rfl,a5⟩⟩;obtain⟨d1,u',d2,d3⟩:=a6 j u hj;exact⟨d1,u',d2,d3.mono hS.le⟩
  . rcases Dp x b hx with h|⟨k,hk,_,_,rfl,hb⟩
    . rcases Dp y c hy with h'|⟨k',hk',_,_,rfl,hb'⟩
      . exact hR'.inj x y b c l n h h' (by rw[aO]at hm⊢;rw[KU,<-kb];exact hm) hne hl hn
      . obtain⟨cs,l2,C,tp,a1,a2,a3,a4,a5,a6,a7,a8⟩:=hI.early.made k' hk';have:=hS.le _ _ a3;rw[hn]at this;cases this;exact KR k' _ a3 a8 x b l h hl
    . obtain⟨cs,l2,C,tp,a1,a2,a3,a4,a5,a6,a7,a8⟩:=hI.early.made k hk;have:=hS.le _ _ a3;rw[hl]at this;cases this;rcases Dp y c hy with h'|⟨k',hk',_,_,rfl,hb'⟩
      . exact(KR k _ a3 a8 y c n h' hn).symm
      . obtain⟨_,l3,_,_,_,_,b3,_⟩:=hI.early.made k' hk';have:=hS.le _ _ b3;rw[hn]at this;cases this;exact hI.early.apart k k' _ _ hk hk' (fun e=>hne (by rw[e])) a3 b3
 have hEk:∀k,lg ops S (upd p m) m' k->lg ops S p m k/\m'<=k:=fun k ⟨h1,h2,h3,h4⟩=>by
  have hne:k≠m:=by omega
  exact⟨⟨by omega,h2,by simpa[upd,hne]using h3,h4⟩,h1⟩
 have hE:wJ ops rs S w0 (upd p m) f' m' w':=by
  refine⟨fun k hk=> ?_,fun k k' n n' hk hk' hne hn hn'=> ?_⟩
  . obtain⟨hk,hmk⟩:=hEk k hk;obtain⟨cs,l,C,tp,a1,a2,a3,a4,a5,a6,a7,a8⟩:=hI.early.made k hk;refine⟨cs,l,C,tp,a1,a2,hS.le _ _ a3,(hS.fw _ (SW k l a3) (SX k l a3 a8)).trans a4,a5,fun j u hj=> ?_,a7,fun y c n hy hn=> ?_⟩
    . obtain⟨d1,u',d2,d3⟩:=a6 j u hj;exact⟨d1,u',d2,d3.mono hS.le⟩
    . rcases Dp y c hy with h|⟨k',hk',_,k3,rfl,_⟩
      . exact KR k l a3 a8 y c n h hn
      . obtain⟨_,l3,_,_,_,_,b3,_⟩:=hI.early.made k' hk';have:=hS.le _ _ b3;rw[hn]at this;cases this;exact hI.early.apart k' k _ _ hk' hk (by omega) b3 a3
  . obtain⟨_,l2,_,_,_,_,a3,_⟩:=hI.early.made k (hEk k hk).1;obtain⟨_,l3,_,_,_,_,b3,_⟩:=hI.early.made k' (hEk k' hk').1;have e1:=hS.le _ _ a3;have e2:=hS.le _ _ b3;rw[hn]at e1;rw[hn']at e2;cases e1;cases e2;exact hI.early.apart k k' _ _ (hEk k hk).1 (hEk k' hk').1 hne a3 b3
 refine⟨f',m',hI.after hC ho hpi hr hri hV hS.le ?_ hS.gC hS.os hS.tape hS.output ?_ ?_ n2 ?_ ?_ hRM hE fJ⟩
 . intro x hx;refine hS.out x ?_
   rintro⟨h1,h2⟩
   exact hx ⟨h1,by show x<(S (m+1)).hp.size;rw[hH1];exact h2⟩
 . intro cb h1 h2;exact hS.fw cb (zaD h1 hI.gC) (fun h3=>h2 (hI.own cb h1 (nN jv rfl h3)))
 . intro cb h1 h2;obtain⟨x,b,l,hx,hm,hl,hcb⟩:=h2;rcases Dp x b hx with h|⟨k,hk,_,_,rfl,_⟩
   . exact hI.own cb h1 (nN jv rfl (hS.own cb (zaD h1 hI.gC) ⟨x,b,l,h,by rw[aO]at hm⊢;rw[KU,<-kb];exact hm,hl,hcb⟩))
   . obtain⟨_,l3,_,_,_,_,b3,_,_,_,b7,_⟩:=hI.early.made k hk;have:=hS.le _ _ b3;rw[hl]at this;cases this;omega
 . intro hm;have hl:=n3 hm;have hne:m'≠m:=by omega
   exact⟨hl,by simp only[upd,hne,zbp];exact(Wx m' hm hne (KT m' hl)).2 (by omega)⟩
 . intro j hj hlj;unfold upd
   split
   . rfl
   . rename_i hne;rcases zci j m with h1|h1
     . exact(Wx j (by omega) hne (KT j hlj)).1 h1
     . exact absurd hlj (n4 j (by omega) hj)
theorem Inv.step (o7:(S 0).hp.lock<=sz S 0) (hcl:zg P cl) (hC:Can P L cl ops A s0 s' rs S) (hfr:ij cl) (hI:Inv ops s0 rs S f0 w0 a0 p f m a w) (ho:ops[i]? =some o) (hpi:p i=false)
 (hr:∀e∈o.after,Region.binds .any e=true->p e.on=true) {Q:Exit->Act->World->Prop}:
 wpOp P ops Q i (fun a' w'=>∃f' m',Inv ops s0 rs S f0 w0 a0 (upd p i) f' m' a' w') a w:=by
 have hi:i<ops.size:=(zaJ.1 ho).1;obtain⟨r,hri,ri,_,e4,e5⟩:=hC.gz hi;have hoi:ops[i]=o:=(zaJ.1 ho).2;rw[hoi]at ri;unfold wpOp;simp only[ho];rw[hI.wanted hC ho hpi hr];rcases iE ri with⟨hw,rfl⟩|⟨hw,⟨v,hop,rfl⟩|⟨t,ad,q,v,hop,had,hld,rfl⟩|⟨v,H',hop,rfl⟩|⟨v,H',hop,rfl⟩⟩
 . rw[hw];simp only[zb9,zbp];exact⟨f,m,hI.still hC hfr ho hpi hr hri (by simp) rfl (V.undef f) (.refl f _ w) hI.r⟩
 . rw[hw];simp only[zbh]
   left
   refine HV hcl hI.r (fun x hx u hu=>hI.dV hC ho hpi hr x hx u hu) (fun j h1 h2=>by omega) (hop _) ?_
   intro f' w' v' hV hS hR';exact⟨f',m,hI.still hC hfr ho hpi hr hri (by simp) rfl hV hS hR'⟩
 . rw[hw];simp only[zbh]
   left
   exact hI.load hC hfr ho hpi hr hri hop had hld
 . rw[hw];simp only[zbh]
   left
   exact hI.quiet o7 hcl hC hfr ho hpi hr hri hop
 . rw[hw];simp only[zbh]
   left
   exact hI.dj o7 hcl hC hfr ho hpi hr hri hop
end
end
end Go.Proofs.YtfaojedfnjdnnaaGreat.Ev
namespace Go.Proofs.YtfaojedfnjdnnaaGreat.Ev
noncomputable section
open Go
section
variable {P : Program} {L : List FuncId} {cl : FuncId -> List Value -> ag -> Option (Value × ag)}
variable {ops : Array Oper} {A : Array Nat} {s0 s' : St} {rs : List Rec} {S : Nat -> St}
variable {f0 f : Fm} {w0 w : World} {a0 a : Act} {p : Nat -> Bool} {m i : Nat} {o : Oper}
theorem Inv.done (hC:Can P L cl ops A s0 s' rs S) (hfr:ij cl) (o7:(S 0).hp.lock<=sz S 0) (hI:Inv ops s0 rs S f0 w0 a0 p f m a w) (kW:∀k,k<ops.size->p k=true):
 Stp f0 s0.hp w0 f s'.hp w/\R f s'.hp w/\FR f s'.fr a/\a.defers=a0.defers:=by
 have hm:m=ops.size:=by
  rcases Nat.lt_or_eq_of_le hI.mle with h|h
  . obtain⟨_,h2⟩:=hI.tJ h;rw[kW m h]at h2;cases h2
  . exact h
 subst hm;have hFr:=hC.jf hfr ops.size 0 (by omega) (zap _);have e0:(S 0).hp=s0.hp:=by rw[hC.ini]
 have en:(S ops.size).hp=s'.hp:=by rw[hC.fin]
 have jv:∀x b,(S ops.size).hp.get x=some b->(Mh S rs p ops.size).get x=some b:=by
  intro x b hx;rw[hC.lh (zap _)];obtain⟨u1,u2⟩:=ag.aM hx;exact⟨ag.ba hx,u1,by rw[<-hFr.hid];exact u2,fun k hk hpk=>by rw[kW k hk]at hpk;cases hpk⟩
 have hR:R f (S ops.size).hp w:=hI.r.sub jv rfl (by rw[hFr.lock];exact zaP o7 hFr.size);refine⟨⟨hI.le, ?_, ?_, ?_, ?_, ?_,hI.gC,hI.os,hI.tape,hI.output, ?_, ?_⟩, ?_,⟨?_, ?_⟩,hI.defers⟩
 . intro x hx;refine hI.out x ?_
   unfold sz;rw[e0,en];exact hx
 . rw[<-e0,<-en];exact hFr.size
 . rw[<-e0,<-en];exact hFr.lock
 . rw[<-e0,<-en];exact hFr.hid
 . rw[<-e0,<-en];exact hFr.root
 . rw[<-e0];exact hI.fw
 . rw[<-e0,<-en];exact fun cb h1 h2=>hI.own cb h1 (nN jv rfl h2)
 . rw[<-en];exact hR
 . have:=(hC.frame ops.size (zap _)).1;rw[hC.fin]at this;rw[this];exact hI.H4
 . intro t;obtain⟨c1,c2⟩:=(hC.frame ops.size (zap _)).2 t;rw[hC.fin]at c1 c2
   by_cases hex:∃(k:Nat) (q:Oper),ops[k]? =some q/\q.dst=some t
   . obtain⟨k,q,hq,hd⟩:=hex;have hk:k<ops.size:=(zaJ.1 hq).1;obtain⟨r,hr,_⟩:=hC.gz hk;rw[c1 k q r hk hq hr hd];exact hI.fr1 t k q r hq hr hd (kW k hk)
   . rw[c2 (fun k q _ hq hd=>hex ⟨k,q,hq,hd⟩)];exact hI.fr2 t (fun k q hq hd=>absurd ⟨k,q,hq,hd⟩ hex)
def pending (listed:Array Bool) (n:Nat):Nat:=(List.range n).countP fun j=> !listed.getD j false
theorem IJ (p:Nat->Bool) (i:Nat) (hp:p i=false):∀l:List Nat,l.countP (fun j=> !upd p i j)<=l.countP (fun j=> !p j)/\
 (i∈l->l.countP (fun j=> !upd p i j)<l.countP (fun j=> !p j)):=by
 intro l
 induction l with
 |nil=>exact⟨zap _,fun h=>by simp at h⟩
 |cons x l ih=>
  obtain⟨h1,h2⟩:=ih;simp only[List.countP_cons]
  by_cases e:x=i
  . subst e;have:upd p x x=true:=by simp[upd]
    rw[this,hp];simp;omega
  . have:upd p i x=p x:=by simp[upd,e]
    rw[this];refine⟨by omega,fun h=> ?_⟩;have:=h2 ((zaN.1 h).resolve_left (fun h3=>e h3.symm));omega
theorem IV {listed:Array Bool} (hi:i<listed.size):(fun j=>(listed.setIfInBounds i true).getD j false)=upd (fun j=>listed.getD j false) i:=by
 funext j
 unfold upd;simp only[zba,Array.getElem?_setIfInBounds]
 by_cases e:j=i
 . subst e;simp[hi]
 . rw[if_neg (fun h=>e h.symm),if_neg e]
theorem kZ {listed:Array Bool} {j:Nat} (hj:j<listed.size):listed.getD j true=listed.getD j false:=by
 simp[zba,hj]
theorem NT (o7:(S 0).hp.lock<=sz S 0) (hcl:zg P cl) (hC:Can P L cl ops A s0 s' rs S) (hfr:ij cl) {Q:Exit->Act->World->Prop}
 (hQ:∀f a w,Stp f0 s0.hp w0 f s'.hp w->R f s'.hp w->FR f s'.fr a->a.defers=a0.defers->Q .normal a w):
 ∀(fuel:Nat) (listed:Array Bool) (f:Fm) (m:Nat) (a:Act) (w:World),listed.size=ops.size->pending listed ops.size<=fuel->
  Inv ops s0 rs S f0 w0 a0 (fun j=>listed.getD j false) f m a w->wpAny P .any ops Q fuel listed a w:=by
 intro fuel
 induction fuel with
 |zero=>
  intro listed f m a w hsz hc hI;have kW:∀k,k<ops.size->listed.getD k false=true:=by
   intro k hk;have h0:pending listed ops.size=0:=by omega
   have:=List.countP_eq_zero.1 h0 k (by simpa using hk);simpa using this
  obtain⟨h1,h2,h3,h4⟩:=hI.done hC hfr o7 kW;refine⟨?_,hQ f a w h1 h2 h3 h4⟩;rw[List.eq_nil_iff_forall_not_mem];intro j hj;obtain⟨g1,o,ho,_⟩:=mem_ready.1 hj;have hjs:j<ops.size:=(zaJ.1 ho).1;rw[kZ (by omega),kW j hjs]at g1;cases g1
 |succ fuel ih=>
  intro listed f m a w hsz hc hI;refine⟨fun hnil=> ?_,fun i hi=> ?_⟩
  . have kW:∀k,k<ops.size->listed.getD k false=true:=by
     intro k
     induction k using Nat.strongRecOn with
     |_ k ihk=>
      intro hk;apply zbW;intro hn;have hn:listed.getD k false=false:=by simpa using hn
      have hko:ops[k]? =some (ops[k]'hk):=zaz _;have:k∈Region.ready .any ops listed:=by
       refine mem_ready.2 ⟨by rw[kZ (by omega)];exact hn,_,hko,fun e he hb=> ?_⟩;have hlt:=(dg hC.stat hko).1 e he hb;exact ihk e.on hlt (by omega)
      rw[hnil]at this;cases this
    obtain⟨h1,h2,h3,h4⟩:=hI.done hC hfr o7 kW;exact hQ f a w h1 h2 h3 h4
  . obtain⟨g1,o,ho,hr⟩:=mem_ready.1 hi;have hio:i<ops.size:=(zaJ.1 ho).1;have hpi:listed.getD i false=false:=by rw[<-kZ (by omega)];exact g1
    have uc:=hI.step o7 hcl hC hfr ho hpi (fun e he hb=>hr e he hb) (Q:=Q);refine wpOp_mono ?_ uc
    rintro a' w' ⟨f',m',hI'⟩
    have hlu:=IV (i:=i) (listed:=listed) (by omega);refine ih _ f' m' a' w' (by simpa using hsz) ?_ (by rw[hlu];exact hI');have:=(IJ (fun j=>listed.getD j false) i hpi (List.range ops.size)).2 (by simpa using hio);unfold pending at hc⊢;have e:(List.range ops.size).countP (fun j=> !(listed.setIfInBounds i true).getD j false)=(List.range ops.size).countP (fun j=> !upd (fun j=>listed.getD j false) i j):=by
     rw[<-hlu]
    rw[e];omega
theorem HM (sF:P.follows .mixedOrders=true) (hcl:zg P cl) (hfr:ij cl) {ops:Array Oper} {fr:List Value} {H:ag} {s':St} {id:Nat}
 (hR:R f H w) (hF:FR f fr a) (bo:∀j,H.size<=j->j<s'.hp.size->f j=none) (h:mC P L cl ops ⟨fr,H⟩=some s') {Q:Exit->Act->World->Prop}
 (hQ:∀f' w' a',Stp f H w f' s'.hp w'->R f' s'.hp w'->FR f' s'.fr a'->a'.defers=a.defers->Q .normal a' w'):(Code.region id ops true).wp P Q a w:=by
 unfold mC at h
 split at h
 . cases h
 . rename_i hst
   split at h
   . rename_i s2 rs vQ
     split at h
     . rename_i lB;cases h;obtain⟨hlen,_,S,hS0,hSn,uc⟩:=nj ops.toList 0 ⟨fr,H⟩ [] s' rs rfl vQ;have hC:Can P L cl ops (Region.before ops) ⟨fr,H⟩ s' rs S:=by
        refine⟨by simpa using hlen,hS0,by simpa using hSn, ?_,hst,lB⟩;intro i o ho;have:=uc i o (by simpa using ho);simpa only[zaF]using this
       have e0:(S 0).hp=H:=by rw[hS0]
       have en:(S ops.size).hp=s'.hp:=by rw[hC.fin]
       have o7:(S 0).hp.lock<=sz S 0:=by unfold sz;rw[e0];exact hR.lk
       refine wp_region_any sF ?_
       obtain⟨m,m1,m2,m3,m4⟩:=Ib rs ops.size ops.size 0 (by omega);have hp0:∀j,(Array.replicate ops.size false).getD j false=false:=by
        intro j;simp only[zba]
        by_cases hj:j<ops.size
        . simp[hj]
        . simp[hj]
       have fJ:∀a b,a<=b->b<=ops.size->sz S a<=sz S b:=fun a b h1 h2=>hC.oA hfr h1 h2
       have hFr:=hC.jf hfr m 0 (by omega) m2;have jv:∀x b,(Mh S rs (fun j=>(Array.replicate ops.size false).getD j false) m).get x=some b->(S 0).hp.get x=some b:=by
        intro x b hx;rw[hC.lh m2]at hx;obtain⟨h1,h2,h3,h4⟩:=hx
        by_cases hlt:x<sz S 0
        . have:=hC.jU hfr m 0 (by omega) m2 (fun k _ hk=>m4 k (by omega) hk) x hlt;unfold ag.get;rw[if_pos (show x<(S 0).hp.size from hlt),h3,if_neg (by simp),<-this];exact h2
        . exfalso;obtain⟨k,k1,k2,k3,k4⟩:=Mf (sz S) x m 0 (by omega) (by omega) h1;exact h4 k k2 (hp0 k) ⟨k3,k4⟩
       have kb:(Mh S rs (fun j=>(Array.replicate ops.size false).getD j false) m).lock=(S 0).hp.lock:=xS hC hfr m2;refine NT (f0:=f) (w0:=w) (a0:=a) o7 hcl hC hfr (fun f' a' w' h1 h2 h3 h4=>hQ f' w' a' h1 h2 h3 h4) ops.size _ f m a _ (by simp) ?_ ?_
       . unfold pending;exact zaP List.countP_le_length (by simp)
       . have hRd:R f H {w with drawn:=w.drawn+1}:=hR.drew;refine⟨m2,fun hm=>⟨m3 hm,hp0 m⟩,fun j hj hl=>absurd hl (m4 j (by omega) hj),fun i o _ hp=> ?_, ?_,hF.size,rfl, ?_, ?_,.refl f,fun _ _=>rfl, ?_,zap _,rfl,rfl,rfl,fun _ _ _=>rfl, ?_,⟨fun k hk=> ?_,fun k _ _ _ hk=> ?_⟩⟩
         . have hp':(Array.replicate ops.size false).getD i false=true:=hp;rw[hp0 i]at hp';cases hp'
         . have afy:R f (S 0).hp {w with drawn:=w.drawn+1}:=by rw[e0];exact hRd
           exact afy.sub jv (by rw[kb]) (by rw[kb];exact zaP o7 (fJ 0 m (by omega) m2))
         . intro t k q r _ _ _ hp;have hp':(Array.replicate ops.size false).getD k false=true:=hp;rw[hp0 k]at hp';cases hp'
         . intro t _;exact hF.val t
         . intro k hk _ x hx1 hx2;refine bo x ?_ ?_
           . have:=fJ 0 k (by omega) (by omega);unfold sz at this hx1;rw[e0]at this;omega
           . have:=fJ (k+1) ops.size (by omega) (by omega);unfold sz at this hx2;rw[en]at this;omega
         . intro cb _ h2;exact nN jv (by rw[kb]) h2
         . exact absurd (hk.2.2.1.symm.trans (hp0 k)) (by decide)
         . exact absurd (hk.2.2.1.symm.trans (hp0 k)) (by decide)
     . cases h
   . cases h
def aeE:Ex->Exit
 | .normal=> .normal
 | .exit id=> .exit id
 | .ret=> .ret
def yY (f:Fm) (H:ag) (w:World) (a:Act) (ex:Ex) (s':St) (e:Exit) (a':Act) (w':World):Prop:=
 e=aeE ex/\∃f',Stp f H w f' s'.hp w'/\R f' s'.hp w'/\FR f' s'.fr a'/\a'.defers=a.defers
def Ph (P:Program) (c:Code) (s:St) (ex:Ex) (s':St):Prop:=
 ∀(f:Fm) (a:Act) (w:World),R f s.hp w->FR f s.fr a->(∀j,s.hp.size<=j->j<s'.hp.size->f j=none)->c.wp P (yY f s.hp w a ex s') a w
theorem JW (hfr:ij cl) {s s':St} (h:mC P L cl ops s=some s'):s.hp.size<=s'.hp.size:=by
 unfold mC at h
 split at h
 . cases h
 . rename_i hst
   split at h
   . rename_i s2 rs vQ
     split at h
     . rename_i lB;cases h;obtain⟨hlen,_,S,hS0,hSn,uc⟩:=nj ops.toList 0 s [] s' rs rfl vQ;have hC:Can P L cl ops (Region.before ops) s s' rs S:=by
        refine⟨by simpa using hlen,hS0,by simpa using hSn, ?_,hst,lB⟩;intro i o ho;have:=uc i o (by simpa using ho);simpa only[zaF]using this
       have:=hC.oA hfr (zbt ops.size) (zap _);unfold sz at this;rw[hC.ini,hC.fin]at this;exact this
     . cases h
   . cases h
theorem NY (hfr:ij cl):∀(l:List Oper) (s s':St),lP P cl ops l s=some s'->s.hp.size<=s'.hp.size:=by
 intro l
 induction l with
 |nil=>intro s s' h;simp[lP]at h;subst h;exact zap _
 |cons q l ihk=>
  intro s s' h;simp only[lP]at h
  split at h
  . split at h
    . rename_i hq;exact zaP (qm hfr hq).size (ihk _ _ h)
    . cases h
  . have:=ihk _ _ h;exact this
theorem zO {body:St->Option (Ex × St)} (hb:∀s ex s',body s=some (ex,s')->s.hp.size<=s'.hp.size):∀(n:Nat) (s:St) (ex:Ex) (s':St),kC n body s=some (ex,s')->s.hp.size<=s'.hp.size:=by
 intro n
 induction n with
 |zero=>intro s ex s' h;simp[kC]at h
 |succ n ih=>
  intro s ex s' h;simp only[kC]at h
  split at h
  . rename_i s1 h1;exact zaP (hb _ _ _ h1) (ih _ _ _ h)
  . exact hb _ _ _ h
theorem sn (hfr:ij cl) (N:Nat):∀(c:Code) (s:St) (ex:Ex) (s':St),bh P L cl N c s=some (ex,s')->s.hp.size<=s'.hp.size:=by
 intro c
 induction c with
 |skip=>intro s ex s' h;simp[bh]at h;rw[<-h.2];exact zap _
 |region id ops d=>
  intro s ex s' h;simp only[bh]at h
  split at h
  . simp only[zai]at h;obtain⟨s1,h1,h2⟩:=h;cases h2;exact NY hfr _ _ _ h1
  . simp only[zai]at h;obtain⟨s1,h1,h2⟩:=h;cases h2;exact JW hfr h1
 |seq x y ihx ihy=>
  intro s ex s' h;simp only[bh]at h
  split at h
  . rename_i s1 h1;exact zaP (ihx _ _ _ h1) (ihy _ _ _ h)
  . exact ihx _ _ _ h
 |cond c x y ihx ihy=>
  intro s ex s' h;simp only[bh]at h
  split at h
  . exact ihx _ _ _ h
  . exact ihy _ _ _ h
  . cases h
 |block id b ih=>
  intro s ex s' h;simp only[bh]at h
  split at h
  . rename_i k s1 h1;have:=ih _ _ _ h1
    split at h<;>(cases h;exact this)
  . exact ih _ _ _ h
 |loop b ih=>
  intro s ex s' h;simp only[bh]at h;exact zO ih _ _ _ _ h
 |rangeFunc f ps x y=>intro s ex s' h;simp[bh]at h
 |exit id=>intro s ex s' h;simp[bh]at h;rw[<-h.2];exact zap _
 |scope b=>intro s ex s' h;simp[bh]at h
 |label l=>intro s ex s' h;simp[bh]at h;rw[<-h.2];exact zap _
 |goto l=>intro s ex s' h;simp[bh]at h
 |ret=>intro s ex s' h;simp[bh]at h;rw[<-h.2];exact zap _
 |refuse y=>intro s ex s' h;simp[bh]at h
theorem Gz {c:Code} {Q Q':Exit->Act->World->Prop} (hq:∀e a w,Q e a w->Q' e a w):∀(n:Nat) (a:Act) (w:World),Code.rounds P c Q n a w->Code.rounds P c Q' n a w:=by
 intro n
 induction n with
 |zero=>intro a w h;exact h
 |succ n ih=>
  intro a w h;show c.wp P (Exit.then (Code.rounds P c Q' n) Q') a w;refine wp_mono (show c.wp P (Exit.then (Code.rounds P c Q n) Q) a w from h) ?_
  intro e a1 w1 h1;cases e with
  |normal=>exact ih a1 w1 h1
  |exit id=>exact hq _ _ _ h1
  |goto l=>exact hq _ _ _ h1
  |ret=>exact hq _ _ _ h1
  |panic ch=>exact hq _ _ _ h1
  |outgrown=>exact hq _ _ _ h1
theorem GR {body:Code} {bodyE:St->Option (Ex × St)} (hsz:∀s ex s',bodyE s=some (ex,s')->s.hp.size<=s'.hp.size)
 (hb:∀s ex s',bodyE s=some (ex,s')->Ph P body s ex s'):∀(n:Nat) (s:St) (ex:Ex) (s':St),kC n bodyE s=some (ex,s')->
 ∀(f:Fm) (a:Act) (w:World),R f s.hp w->FR f s.fr a->(∀j,s.hp.size<=j->j<s'.hp.size->f j=none)->Code.rounds P body (yY f s.hp w a ex s') n a w:=by
 intro n
 induction n with
 |zero=>intro s ex s' h;simp[kC]at h
 |succ n ih=>
  intro s ex s' h f a w hR hF bo;simp only[kC]at h;show body.wp P (Exit.then (Code.rounds P body (yY f s.hp w a ex s') n) (yY f s.hp w a ex s')) a w
  split at h
  . rename_i s1 h1;have hs1:=hsz _ _ _ h1;have hs2:=zO hsz n _ _ _ h;refine wp_mono (hb _ _ _ h1 f a w hR hF (fun j h2 h3=>bo j h2 (by omega))) ?_
    rintro e a1 w1 ⟨rfl,f1,hS,hR1,hF1,hd⟩
    show Code.rounds P body (yY f s.hp w a ex s') n a1 w1;have:=ih s1 ex s' h f1 a1 w1 hR1 hF1 (fun j h2 h3=>by rw[hS.out j (by omega)];exact bo j (by omega) h3);refine Gz ?_ n a1 w1 this
    rintro e2 a2 w2 ⟨rfl,f2,hS2,hR2,hF2,hd2⟩
    exact⟨rfl,f2,hS.trans hS2,hR2,hF2,by rw[hd2,hd]⟩
  . rename_i hnn;refine wp_mono (hb _ _ _ h f a w hR hF bo) ?_
    rintro e a1 w1 ⟨rfl,h2⟩
    cases ex with
    |normal=>exact absurd h (hnn s')
    |exit id=>exact⟨rfl,h2⟩
    |ret=>exact⟨rfl,h2⟩
theorem F0 (sF:P.follows .mixedOrders=true) (hcl:zg P cl) (hfr:ij cl) (N:Nat):∀(c:Code) (s:St) (ex:Ex) (s':St),bh P L cl N c s=some (ex,s')->Ph P c s ex s':=by
 intro c
 induction c with
 |skip=>
  intro s ex s' h f a w hR hF bo;simp[bh]at h;obtain⟨rfl,rfl⟩:=h;exact wp_skip ⟨rfl,f,.refl f _ w,hR,hF,rfl⟩
 |region id ops d=>
  intro s ex s' h f a w hR hF bo;simp only[bh]at h
  split at h
  . simp only[zai]at h;obtain⟨s1,h1,h2⟩:=h;cases h2;refine wp_region ?_
    have:=Ka hcl hfr (Q:=yY f s.hp w a .normal s') ops.toList 0 s.fr s.hp f w a s' (by simp) hR hF bo h1 (fun f' w' a' g1 g2 g3 g4=>⟨rfl,f',g1,g2,g3,g4⟩);simpa using this
  . simp only[zai]at h;obtain⟨s1,h1,h2⟩:=h;cases h2;exact HM sF hcl hfr hR hF bo h1 (fun f' w' a' g1 g2 g3 g4=>⟨rfl,f',g1,g2,g3,g4⟩)
 |seq x y ihx ihy=>
  intro s ex s' h f a w hR hF bo;simp only[bh]at h;refine wp_seq ?_
  split at h
  . rename_i s1 h1;have hs1:=sn hfr N _ _ _ _ h1;have hs2:=sn hfr N _ _ _ _ h;refine wp_mono (ihx _ _ _ h1 f a w hR hF (fun j h2 h3=>bo j h2 (by omega))) ?_
    rintro e a1 w1 ⟨rfl,f1,hS,hR1,hF1,hd⟩
    show y.wp P (yY f s.hp w a ex s') a1 w1;refine wp_mono (ihy _ _ _ h f1 a1 w1 hR1 hF1 (fun j h2 h3=>by rw[hS.out j (by omega)];exact bo j (by omega) h3)) ?_
    rintro e2 a2 w2 ⟨rfl,f2,hS2,hR2,hF2,hd2⟩
    exact⟨rfl,f2,hS.trans hS2,hR2,hF2,by rw[hd2,hd]⟩
  . rename_i hnn;refine wp_mono (ihx _ _ _ h f a w hR hF bo) ?_
    rintro e a1 w1 ⟨rfl,h2⟩
    cases ex with
    |normal=>exact absurd h (hnn s')
    |exit id=>exact⟨rfl,h2⟩
    |ret=>exact⟨rfl,h2⟩
 |cond c x y ihx ihy=>
  intro s ex s' h f a w hR hF bo;simp only[bh]at h
  split at h
  . rename_i hc;have hv:=hF.dV hc;cases hx:a.eval c<;>rw[hx]at hv<;>try (cases hv;done)
    cases hv;exact wp_cond_true hx (ihx _ _ _ h f a w hR hF bo)
  . rename_i hc;have hv:=hF.dV hc;cases hx:a.eval c<;>rw[hx]at hv<;>try (cases hv;done)
    cases hv;exact wp_cond_false hx (ihy _ _ _ h f a w hR hF bo)
  . cases h
 |block id b ih=>
  intro s ex s' h f a w hR hF bo;simp only[bh]at h;refine wp_block ?_
  split at h
  . rename_i k s1 h1
    split at h
    . rename_i hk;cases h;refine wp_mono (ih _ _ _ h1 f a w hR hF bo) ?_
      rintro e a1 w1 ⟨rfl,h2⟩
      show(if k=id then yY f s.hp w a .normal s' .normal a1 w1 else yY f s.hp w a .normal s' (.exit k) a1 w1);rw[if_pos hk];exact⟨rfl,h2⟩
    . rename_i hk;cases h;refine wp_mono (ih _ _ _ h1 f a w hR hF bo) ?_
      rintro e a1 w1 ⟨rfl,h2⟩
      show(if k=id then yY f s.hp w a (.exit k) s' .normal a1 w1 else yY f s.hp w a (.exit k) s' (.exit k) a1 w1);rw[if_neg hk];exact⟨rfl,h2⟩
  . rename_i hne;refine wp_mono (ih _ _ _ h f a w hR hF bo) ?_
    rintro e a1 w1 ⟨rfl,h2⟩
    cases ex with
    |normal=>exact⟨rfl,h2⟩
    |exit k=>exact absurd h (hne k s')
    |ret=>exact⟨rfl,h2⟩
 |loop b ih=>
  intro s ex s' h f a w hR hF bo;simp only[bh]at h;exact wp_loop_rounds N (GR (fun s ex s' hh=>sn hfr N b s ex s' hh) ih N s ex s' h f a w hR hF bo)
 |rangeFunc f ps x y=>intro s ex s' h;simp[bh]at h
 |exit id=>
  intro s ex s' h f a w hR hF bo;simp[bh]at h;obtain⟨rfl,rfl⟩:=h;exact wp_exit ⟨rfl,f,.refl f _ w,hR,hF,rfl⟩
 |scope b=>intro s ex s' h;simp[bh]at h
 |label l=>
  intro s ex s' h f a w hR hF bo;simp[bh]at h;obtain⟨rfl,rfl⟩:=h;exact wp_label ⟨rfl,f,.refl f _ w,hR,hF,rfl⟩
 |goto l=>intro s ex s' h;simp[bh]at h
 |ret=>
  intro s ex s' h f a w hR hF bo;simp[bh]at h;obtain⟨rfl,rfl⟩:=h;exact wp_ret ⟨rfl,f,.refl f _ w,hR,hF,rfl⟩
 |refuse y=>intro s ex s' h;simp[bh]at h
end
end
end Go.Proofs.YtfaojedfnjdnnaaGreat.Ev
namespace Go.Proofs.YtfaojedfnjdnnaaGreat.Ev
noncomputable section
open Go
open Go.RowKit (Below)
section
variable {P : Program} {L : List FuncId} {O : bp}
theorem Ig {cl:FuncId->List Value->ag->Option (Value × ag)} (hfr:ij cl) (N:Nat):∀(c:Code) (s:St) (ex:Ex) (s':St),bh P L cl N c s=some (ex,s')->Fr s.hp s'.hp:=by
 have afz:∀(ops:Array Oper) (l:List Oper) (s s':St),lP P cl ops l s=some s'->Fr s.hp s'.hp:=by
  intro ops l
  induction l with
  |nil=>intro s s' h;simp[lP]at h;subst h;exact .refl _
  |cons q l ihk=>
   intro s s' h;simp only[lP]at h
   split at h
   . split at h
     . rename_i hq;exact(qm hfr hq).trans (ihk _ _ h)
     . cases h
   . have:=ihk _ _ h;exact this
 have adu:∀(ops:Array Oper) (s s':St),mC P L cl ops s=some s'->Fr s.hp s'.hp:=by
  intro ops s s' h;unfold mC at h
  split at h
  . cases h
  . rename_i hst
    split at h
    . rename_i s2 rs vQ
      split at h
      . rename_i lB;cases h;obtain⟨hlen,_,S,hS0,hSn,uc⟩:=nj ops.toList 0 s [] s' rs rfl vQ;have hC:Can P L cl ops (Region.before ops) s s' rs S:=by
         refine⟨by simpa using hlen,hS0,by simpa using hSn, ?_,hst,lB⟩;intro i o ho;have:=uc i o (by simpa using ho);simpa only[zaF]using this
        have:=hC.jf hfr ops.size 0 (zbt _) (zap _);rw[hC.ini,hC.fin]at this;exact this
      . cases h
    . cases h
 have adv:∀(body:St->Option (Ex × St)),(∀s ex s',body s=some (ex,s')->Fr s.hp s'.hp)->∀(n:Nat) (s:St) (ex:Ex) (s':St),kC n body s=some (ex,s')->Fr s.hp s'.hp:=by
  intro body hb n
  induction n with
  |zero=>intro s ex s' h;simp[kC]at h
  |succ n ih=>
   intro s ex s' h;simp only[kC]at h
   split at h
   . rename_i s1 h1;exact(hb _ _ _ h1).trans (ih _ _ _ h)
   . exact hb _ _ _ h
 intro c
 induction c with
 |skip=>intro s ex s' h;simp[bh]at h;rw[<-h.2];exact .refl _
 |region id ops d=>
  intro s ex s' h;simp only[bh]at h
  split at h
  . simp only[zai]at h;obtain⟨s1,h1,h2⟩:=h;cases h2;exact afz _ _ _ _ h1
  . simp only[zai]at h;obtain⟨s1,h1,h2⟩:=h;cases h2;exact adu _ _ _ h1
 |seq x y ihx ihy=>
  intro s ex s' h;simp only[bh]at h
  split at h
  . rename_i s1 h1;exact(ihx _ _ _ h1).trans (ihy _ _ _ h)
  . exact ihx _ _ _ h
 |cond c x y ihx ihy=>
  intro s ex s' h;simp only[bh]at h
  split at h
  . exact ihx _ _ _ h
  . exact ihy _ _ _ h
  . cases h
 |block id b ih=>
  intro s ex s' h;simp only[bh]at h
  split at h
  . rename_i k s1 h1;have:=ih _ _ _ h1
    split at h<;>(cases h;exact this)
  . exact ih _ _ _ h
 |loop b ih=>
  intro s ex s' h;simp only[bh]at h;exact adv _ ih _ _ _ _ h
 |rangeFunc f ps x y=>intro s ex s' h;simp[bh]at h
 |exit id=>intro s ex s' h;simp[bh]at h;rw[<-h.2];exact .refl _
 |scope b=>intro s ex s' h;simp[bh]at h
 |label l=>intro s ex s' h;simp[bh]at h;rw[<-h.2];exact .refl _
 |goto l=>intro s ex s' h;simp[bh]at h
 |ret=>intro s ex s' h;simp[bh]at h;rw[<-h.2];exact .refl _
 |refuse y=>intro s ex s' h;simp[bh]at h
theorem GU (hO:ij O):∀n,ij (bJ P L O n):=by
 intro n
 induction n with
 |zero=>intro g args H v H' h;simp[bJ]at h
 |succ n ih=>
  intro g args H v H' h;have hen:oX P L (bJ P L O n) n g args H=some (v,H')->Fr H H':=by
   intro h;unfold oX at h
   split at h
   . split at h
     . split at h
       . rename_i s h1;simp only[zai,zaT]at h;obtain⟨vs,_,_,h3⟩:=h;rw[<-h3];exact Ig ih n _ _ _ _ h1
       . rename_i s h1;simp only[zai,zaT]at h;obtain⟨vs,_,_,h3⟩:=h;rw[<-h3];exact Ig ih n _ _ _ _ h1
       . cases h
     . cases h
   . cases h
  cases ho:O g args H with
  |none=>rw[pG ho]at h;exact hen h
  |some u=>rw[mz ho]at h;cases h;exact hO _ _ _ _ _ ho
theorem BS {f:Fm} {H:ag} {w:World} {fr:List Value} {a:Act} (hR:R f H w) (hF:FR f fr a):∀(rv:List ResultVar) (vs:List Value),fP P H fr rv=some vs->
 ∃vs',(rv.mapM fun| .tmp t=>pure (a.tmps.getD t undef)| .cell ad t=>do loadVar t (<-asAddr (a.tmps.getD ad undef)):Sem (List Value)).run P w= .ok vs' w/\VL f vs vs':=by
 intro rv
 induction rv with
 |nil=>intro vs h;simp[fP]at h;subst h;exact⟨[],by simp,.nil f⟩
 |cons r rv ih=>
  intro vs h;cases r with
  |tmp t=>
   simp only[fP]at h
   split at h
   . rename_i us hus;cases h;obtain⟨vs',h1,h2⟩:=ih us hus;refine⟨a.tmps.getD t undef::vs', ?_,.cons (hF.val t) h2⟩;simp only[List.mapM_cons,Sem.run_bind,Sem.run_pure,Result.andThen_ok,h1]
   . cases h
  |cell ad t=>
   simp only[fP]at h
   split at h
   . rename_i v us hv hus;cases h;obtain⟨vs',h1,h2⟩:=ih us hus;have hp:=hF.val ad;obtain⟨v',h3,h4⟩:=qa hR hp hv;refine⟨v'::vs', ?_,.cons h4 h2⟩;have h5:(do loadVar t (<-asAddr (a.tmps.getD ad undef)):Sem Value).run P w= .ok v' w:=by
      generalize a.tmps.getD ad undef=q at h3 hp⊢;generalize fr.getD ad undef=q0 at hv hp;cases hp<;>try (simp[cL]at hv;done)
      simpa[Instr.loadAt,Instr.sureAddr,asAddr]using h3
     simp only[List.mapM_cons,Sem.run_bind,h5,Result.andThen_ok,h1,Sem.run_pure]
   . cases h
structure eG (P : Program) (g : FuncId) (args : List Value) (v : Value) : Prop where
 fn:∃fn c,P.funcs[g]? =some fn/\fn.body=some c/\fn.name≠ "runtime.NumGoroutine"
 calls:∀(f:Fm) (ju:List Value) (w:World),VL f args ju->Calls P g ju.toArray w fun e w'=>∃v',e= .returned v'/\V f v v'/\Below w.heap.size w w'
theorem R.below {f:Fm} {H:ag} {w w':World} (hR:R f H w) (hb:Below w.heap.size w w'):Stp f H w f H w'/\R f H w':=by
 refine⟨⟨.refl f,fun _ _=>rfl,zap _,rfl,rfl,fun _ _ _=>rfl,hb.size,hb.os,hb.tape,hb.output,fun cb h _=>hb.block cb h,fun _ _ h=>h⟩, ?_, ?_,hR.lk,hR.inj⟩
 . intro x b hx;obtain⟨l,C,e,fr,h1,h2,h3⟩:=hR.blk x b hx;exact⟨l,C,e,fr,h1,by rw[hb.block l.blk (hR.big x l h1)];exact h2,h3⟩
 . intro x l hx;exact zaD (hR.big x l hx) hb.size
theorem eG.Yw {g:FuncId} {args:List Value} {v:Value} (hT:eG P g args v) (H:ag):OY P g args H v H:=by
 refine⟨hT.fn,fun f w ju hR _ hvl=> ?_⟩;refine Calls.mono (hT.calls f ju w hvl) ?_
 rintro e w' ⟨v',rfl,hV,hb⟩
 obtain⟨h1,h2⟩:=hR.below hb;exact⟨f,v',rfl,hV,h1,h2⟩
structure lJ (P : Program) (O : bp) : Prop where
 fr:ij O
 ok:zg P O
theorem wk (sF:P.follows .mixedOrders=true) (oe:∀(g:FuncId) (fn:Func) (c:Code),P.funcs[g]? =some fn->fn.body=some c->fn.name≠ "runtime.NumGoroutine")
 (hO:lJ P O):∀n,zg P (bJ P L O n):=by
 intro n
 induction n with
 |zero=>intro g args H v H' h;simp[bJ]at h
 |succ n ih=>
  intro g args H v H' h;cases ht:O g args H with
  |none=>
   rw[pG ht]at h;unfold oX at h;cases hfn:P.funcs[g]? with
   |none=>simp[hfn]at h
   |some fn=>
    cases BE:fn.body with
    |none=>simp[hfn,BE]at h
    |some c=>
     simp only[hfn,BE]at h;refine⟨⟨fn,c,hfn,BE,oe g fn c hfn BE⟩,fun f w ju hR bo hvl=> ?_⟩;have key:∀(ex:Ex) (s:St),(ex= .normal\/ex= .ret)->bh P L (bJ P L O n) n c ⟨args++List.replicate (fn.ntmps-args.length) undef,H⟩=some (ex,s)->
      (fP P s.hp s.fr fn.results.toList).map (fun vs=>(lC vs,s.hp))=some (v,H')->
      Calls P g ju.toArray w fun e w'=>∃f' v',e= .returned v'/\V f' v v'/\Stp f H w f' H' w'/\R f' H' w':=by
      intro ex s hex adw Oo;simp only[zai,zaT]at Oo;obtain⟨vs,hvs,adx,hH⟩:=Oo;subst hH;refine calls_of_wp hfn BE ?_
      have hF:FR f (args++List.replicate (fn.ntmps-args.length) undef) {tmps:=ju.toArray++Array.replicate (fn.ntmps-ju.toArray.size) undef,defers:=[]}:=by
       have hl:=hvl.1;refine⟨by simp[hl],fun t=> ?_⟩;simp only[zaf,zba];rw[zaV,Array.getElem?_append]
       by_cases ht:t<args.length
       . have ht':t<ju.length:=by omega
         rw[if_pos ht,if_pos (by simpa using ht')];simp only[List.getElem?_toArray];rw[zah ht,zah ht'];exact hvl.2 t _ _ (zah ht) (zah ht')
       . rw[if_neg ht,if_neg (by simp;omega)];simp only[zcd,<-hl]
         by_cases h2:t-args.length<fn.ntmps-args.length
         . simp[h2];exact V.undef f
         . simp[h2];exact V.undef f
      refine wp_mono (F0 sF ih (GU hO.fr n) n c _ ex s adw f _ w hR hF bo) ?_
      rintro e a1 w1 ⟨rfl,f1,hS,hR1,hF1,hd⟩
      have ady:a1.defers=[]/\∃v',(results fn a1.tmps).run P w1= .ok v' w1/\∃f' v'',Ending.returned v'= .returned v''/\V f' v v''/\Stp f H w f' s.hp w1/\R f' s.hp w1:=by
       refine⟨hd, ?_⟩;obtain⟨vs',h1,h2⟩:=BS hR1 hF1 _ vs hvs;have h3:(results fn a1.tmps).run P w1= .ok (if h:vs'.toArray.size=1 then vs'.toArray[0]else .tuple vs'.toArray) w1:=by
        unfold results;simp only[Sem.run_bind,Array.mapM_eq_mapM_toList];rw[Sem.run_map];exact zcm (fun r=>Result.andThen (Result.andThen r fun a w'=>Result.ok a.toArray w') fun a w'=>Sem.run P (pure (if h:a.size=1 then a[0]else Value.tuple a)) w') h1
       refine⟨_,h3,f1,_,rfl, ?_,hS,hR1⟩;rw[<-adx];unfold lC
       split
       . rename_i u;obtain⟨u',rfl,hu⟩:=h2.one;simpa using hu
       . rename_i hne;have hsz:¬vs'.toArray.size=1:=by
          intro h5;have h6:=h2.1;simp at h5;rw[h5]at h6
          match vs,h6 with
          |[u],_=>exact hne u rfl
         rw[dif_neg hsz];exact .tuple _ _ (by simpa using h2.1) (fun i u u' e1 e2=>h2.2 i u u' (by simpa using e1) (by simpa using e2))
      rcases hex with rfl|rfl
      . exact ady
      . exact ady
     split at h
     . rename_i s h1;exact key _ s (.inl rfl) h1 h
     . rename_i s h1;exact key _ s (.inr rfl) h1 h
     . cases h
  |some u=>
   rw[mz ht]at h;cases h;exact hO.ok _ _ _ _ _ ht
end
end
end Go.Proofs.YtfaojedfnjdnnaaGreat.Ev
namespace Go.Proofs.YtfaojedfnjdnnaaGreat.Ev
noncomputable section
open Go
open Go.RowKit (Below)
section
variable {P : Program} {L : List FuncId} {O : bp}
def oJ (P:Program):Bool:=P.funcs.toList.all fun fn=>fn.body.isNone||fn.name != "runtime.NumGoroutine"
theorem Gk (h:oJ P=true):∀(g:FuncId) (fn:Func) (c:Code),P.funcs[g]? =some fn->fn.body=some c->fn.name≠ "runtime.NumGoroutine" :=by
 intro g fn c hg hc;have hm:fn∈P.funcs.toList:=by
  have:=zaQ (l:=P.funcs.toList) (i:=g) (a:=fn) (by simpa using hg);exact this
 have:=zam.1 h fn hm;rw[hc]at this;simpa using this
def nil:ag:=⟨0,.e,0,[]⟩
theorem R.nil (w:World):R (fun _=>none) nil w:=by
 refine⟨fun x b h=> ?_,(fun x l h=>by cases h),zap _,fun x y b c l m h=> ?_⟩
 . have:=ag.ba h;simp[Ev.nil]at this
 . have:=ag.ba h;simp[Ev.nil]at this
theorem Qz (sF:P.follows .mixedOrders=true) (oe:oJ P=true) (hO:lJ P O) {n:Nat} {g:FuncId} {args:List Value} {H H':ag} {b:Bool}
 (h:bJ P L O n g args H=some (.bool b,H')) {f:Fm} {w:World} {ju:List Value} (hR:R f H w) (hl:H.lock=H.size) (bo:∀j,H.size<=j->f j=none) (hv:VL f args ju):
 Calls P g ju.toArray w fun e w'=>e= .returned (.bool b)/\Below w.heap.size w w':=by
 obtain⟨_,hc⟩:=wk sF (Gk oe) hO n g args H _ H' h;refine(hc f w ju hR (fun j h1 _=>bo j h1) hv).mono ?_
 rintro e w' ⟨f',v',rfl,hV,hS,hR'⟩
 cases hV;refine⟨rfl,hS.os,hS.tape,hS.output,hS.gC,fun k hk=>hS.fw k hk ?_⟩
 rintro⟨x,b,l,h1,h2,_⟩
 have:=ag.ba h1;rw[aO]at h2;omega
def yes (r:Option (Value × ag)):Bool:=match r with|some (.bool b,_)=>b|_=>false
def ni:Value->Bool
 | .bool _=>true
 | .int .. =>true
 |_=>false
def plain:Value->Bool
 | .agg cs=>cs.toList.all ni
 |v=>ni v
theorem Og {f:Fm} {v v':Value} (h:ni v=true) (hv:V f v v'):v'=v:=by
 cases hv<;>first|rfl|(simp[ni]at h;done)
theorem Pd (f:Fm) {v:Value} (h:ni v=true):V f v v:=by
 cases v<;>first|(simp[ni]at h;done)|constructor
theorem Fp (f:Fm) {v:Value} (h:plain v=true):V f v v:=by
 cases v with
 |agg cs=>
  simp only[plain,zam]at h;refine .agg _ _ rfl (fun i u hu=> ?_) (fun i u u' h1 h2=> ?_)
  . have:=h u (zaQ (i:=i) (by simpa using hu));cases u<;>simp_all [ni,bj]
  . rw[h1]at h2;cases h2;exact Pd f (h u (zaQ (i:=i) (by simpa using h1)))
 |bool b=>exact .bool b
 |int k n=>exact .int k n
 |_=>simp[plain,ni]at h
theorem zo {f:Fm} {v v':Value} (h:plain v=true) (hv:V f v v'):v'=v:=by
 cases hv with
 |agg x x' hx hc vx=>
  congr 1
  simp only[plain,zam]at h;apply Array.ext hx.symm;intro i h1 h2;have h3:x[i]? =some x[i]:=zaz h2;have h4:x'[i]? =some x'[i]:=zaz h1;exact Og (h x[i] (zaQ (i:=i) (by simp))) (vx i _ _ h3 h4)
 |_=>first|rfl|(simp[plain,ni]at h;done)
theorem M9 {f:Fm} {vs vs':List Value} (h:vs.all plain=true) (hv:VL f vs vs'):vs'=vs:=by
 apply zby;intro i
 by_cases hi:i<vs.length
 . have hi':i<vs'.length:=by rw[<-hv.1];exact hi
   have h1:=zah hi;have h2:=zah hi';rw[h2,h1]
   congr 1
   exact zo (zam.1 h _ (zbw hi)) (hv.2 i _ _ h1 h2)
 . have hi':¬i<vs'.length:=by rw[<-hv.1];exact hi
   rw[zaW (by omega),zaW (by omega)]
theorem RB (f:Fm) {vs:List Value} (h:vs.all plain=true):VL f vs vs:=
 ⟨rfl,fun i v v' h1 h2=>by rw[h1]at h2;cases h2;exact Fp f (zam.1 h v (zaQ h1))⟩
def eI:Value->Bool
 | .tuple vs=>vs.toList.all plain
 |v=>plain v
theorem Pa (f:Fm) {v:Value} (h:eI v=true):V f v v:=by
 cases v with
 |tuple vs=>
  simp only[eI,zam]at h;refine .tuple _ _ rfl (fun i u u' h1 h2=> ?_);rw[h1]at h2;cases h2;exact Fp f (h u (zaQ (i:=i) (by simpa using h1)))
 |_=>exact Fp f h
theorem NI {f:Fm} {v v':Value} (h:eI v=true) (hv:V f v v'):v'=v:=by
 cases hv with
 |tuple x x' hx vx=>
  congr 1
  simp only[eI,zam]at h;apply Array.ext hx.symm;intro i h1 h2;have h3:x[i]? =some x[i]:=zaz h2;have h4:x'[i]? =some x'[i]:=zaz h1;exact zo (h x[i] (zaQ (i:=i) (by simp))) (vx i _ _ h3 h4)
 |agg x x' hx hc vx=>exact zo (v:= .agg x) h (.agg x x' hx hc vx)
 |_=>first|rfl|(simp[eI,plain,ni]at h;done)
theorem told (sF:P.follows .mixedOrders=true) (oe:oJ P=true) (hO:lJ P O) {n:Nat} {g:FuncId} {args:List Value} {v:Value} {H':ag}
 (h:bJ P L O n g args nil=some (v,H')) (ha:args.all plain=true) (hv:eI v=true):eG P g args v:=by
 obtain⟨h1,hc⟩:=wk sF (Gk oe) hO n g args nil _ H' h;refine⟨h1,fun f ju w hvl=> ?_⟩;have e:=M9 ha hvl;subst e;refine(hc (fun _=>none) w ju (R.nil w) (fun _ _ _=>rfl) (RB _ ha)).mono ?_
 rintro e w' ⟨f',v',rfl,hV,hS,hR'⟩
 have e:=NI hv hV;subst e;refine⟨v',rfl,Pa f hv,hS.os,hS.tape,hS.output,hS.gC,fun k hk=>hS.fw k hk ?_⟩
 rintro⟨x,b,l,h1,_⟩
 have:=ag.ba h1;simp[Ev.nil]at this
section
open Go.ChangeShapes Go.WideShapes Go.RowKit
variable {H : Type} {enc : TypeId × Value -> H}
theorem Nm (hl:laidOutB P=true) {W W':World} (hb:Below W.heap.size W W'):∀(ts:List TypeId) (vs:List Value) (ds:List (DataW H)) (ps:List MemPlace),
 (∀t∈ts,P.readableRec t=true/\t<P.types.size)->DataW.TrodAll enc P W 0 (fun _=>true) true ts vs ds ps->(∀x∈ps,x.block<W.heap.size)->
 DataW.TrodAll enc P W' 0 (fun b=>decide (b<W.heap.size)) true ts vs ds ps:=by
 intro ts
 induction ts with
 |nil=>
  intro vs ds ps _ h _;obtain⟨rfl,rfl,rfl⟩:=trodAll_nil h;exact trodAll_mk0
 |cons t ts ih=>
  intro vs ds ps ht h hlt;obtain⟨v,vs',d,ds',p,q,rfl,rfl,h1,h2,rfl⟩:∃v vs' d ds' p q,vs=v::vs'/\ds=d::ds'/\DataW.Trod enc P W 0 (fun _=>true) true t v d p/\
   DataW.TrodAll enc P W 0 (fun _=>true) true ts vs' ds' q/\ps=p++q:=by
   cases vs with
   |nil=>cases ds<;>exact h.elim
   |cons v vs'=>
    cases ds with
    |nil=>exact h.elim
    |cons d ds'=>
     obtain⟨p,q,h1,h2,h3⟩:=h;exact⟨v,vs',d,ds',p,q,rfl,rfl,h1,h2,h3⟩
  obtain⟨hr,hs⟩:=ht t (by simp);exact⟨p,q,Below.trod hl hr hs h1 hb (fun x hx=>hlt x (by simp[hx])),ih vs' ds' q (fun u hu=>ht u (by simp[hu])) h2 (fun x hx=>hlt x (by simp[hx])),rfl⟩
theorem F1 (hl:laidOutB P=true) {fn:Func} {s:ChangeSpec} {tb:TypeId} {W W':World} {args:Array Value} {ds gs:List (DataW H)} {before:List MemPlace}
 (hW:DataW.Whole enc P fn.params.toList s.vars false W args.toList ds gs before) (WR:s.vars=[]) (hb:Below W.heap.size W W') (Oo:fn.resultTypes= #[tb]) (htb:P.underlying tb=some .bool)
 (adz:∀t∈fn.params.toList,P.readableRec t=true/\t<P.types.size) (hfn:s.fn H ds={results:=[.lit (.bool true)],args:=ds}):
 s.post enc P fn false true false false W args (.bool true) W':=by
 have hW0:=hW;obtain⟨p,q,h1,h2,h3,h4,h5⟩:=hW0;rw[WR]at h2;obtain⟨hgs,hq⟩:gs=[]/\q=[]:=by
  cases gs with
  |nil=>exact⟨rfl,h2⟩
  |cons g gs=>exact h2.elim
 subst hgs;subst hq;rw[zaH]at h3;subst h3;have hlt:∀x∈before,x.block<W.heap.size:=fun x hx=>hW.lt x hx
 have hs:s.fn H (ds++[])={results:=[.lit (.bool true)],args:=ds}:=by rw[zaH];exact hfn
 refine⟨ds,[],before,[],before,[],hW, ?_, ?_, ?_, ?_,fun h=>by cases h⟩
 . rw[hs,Oo];exact trodAll_cons_mk (shut_bool htb true) trodAll_mk0
 . rw[hs];exact Nm hl hb _ _ _ _ adz h1 hlt
 . rw[hs,WR];rfl
 . exact World.keptBut_mono (fun x hx=>⟨hx,.inr (.inl hx)⟩) (hb.frame (·∈before))
end
end
end
end Go.Proofs.YtfaojedfnjdnnaaGreat.Ev
namespace Go.Proofs.YtfaojedfnjdnnaaGreat.Seat
noncomputable section
open Go Go.Proofs.YtfaojedfnjdnnaaGreat.Ev
theorem own:ownKnob Tryz.prog.godebug=none:=by kernel_rfl
theorem mix:Tryz.prog.follows .mixedOrders=true:=by kernel_rfl
theorem names:oJ Tryz.prog=true:=by kernel_rfl
theorem laid:laidOutB Tryz.prog=true:=by kernel_rfl
end
end Go.Proofs.YtfaojedfnjdnnaaGreat.Seat
namespace Go.Proofs.YtfaojedfnjdnnaaGreat.Ev
noncomputable section
open Go
abbrev Cl:=FuncId->List Value->ag->Option (Value × ag)
def LeC (a b:Cl):Prop:=∀g args H r,a g args H=some r->b g args H=some r
section
variable {P : Program} {L : List FuncId} {cl cl' : Cl}
theorem nR (hl:LeC cl cl') {ρ:Operand->Option Value} {o:Oper} {H:ag} {r:Value × ag} (h:opE P cl ρ o H=some r):opE P cl' ρ o H=some r:=by
 unfold opE at h⊢
 split at h<;>try exact h
 split at h
 . rename_i tZ
   (try rw[tZ]);(try dsimp only)
   split at h
   . rename_i b hc;exact h
   . rename_i f hc;try dsimp only at h⊢
     split at h
     . rename_i g x y hf;exact hl _ _ _ _ h
     . cases h
   . cases h
 . cases h
theorem qD (hl:LeC cl cl') {ops:Array Oper}:∀{l:List Oper} {s:St} {r:St},lP P cl ops l s=some r->lP P cl' ops l s=some r
 |[],s,r,h=>h
 |o::l,s,r,h=>by
  unfold lP at h⊢
  split at h
  . rename_i hw
    try rw[hw]
    try dsimp only
    split at h
    . rename_i v H ho;rw[nR hl ho];dsimp only;exact qD hl h
    . cases h
  . rename_i hw
    try rw[hw]
    try dsimp only
    exact qD hl h
theorem mj {cl cl':Cl} {ρ:Operand->Option Value} {o:Oper} {H:ag} (h:kM o=true):opE P cl ρ o H=opE P cl' ρ o H:=by
 unfold kM at h
 split at h
 . rename_i c hc;unfold opE;rw[hc];dsimp only
   split at h
   . rename_i hb;rw[hb]
   . cases h
 . cases h
theorem sx (hl:LeC cl cl') {ops:Array Oper} {A:Array Nat} {i:Nat} {o:Oper} {s:St} {rs:List Rec} {r:Rec} (h:fq P L cl ops A i o s rs=some r):fq P L cl' ops A i o s rs=some r:=by
 unfold fq at h⊢
 split at h
 . rename_i hw;exact h
 . rename_i hw;(try rw[hw]);(try dsimp only at h⊢)
   split at h
   . rename_i hk;(try rw[hk]);(try dsimp only at h⊢)
     split at h
     . rename_i ho;rw[nR hl ho];exact h
     . cases h
   . rename_i hk;exact h
   . rename_i hk;(try rw[hk]);(try dsimp only at h⊢)
     split at h
     . rename_i ho;rw[nR hl ho];exact h
     . rename_i ho
       split at h
       . rename_i ha;rw[mj (cl:=cl') (cl':=cl) ha,ho];dsimp only;rw[ha]
         split at h
         . rename_i ho';rw[if_pos rfl,mj (cl:=cl') (cl':=cl) ha,ho'];exact h
         . cases h
       . cases h
   . rename_i hk;(try rw[hk]);(try dsimp only at h⊢)
     split at h
     . rename_i ho;rw[nR hl ho];exact h
     . cases h
theorem lL (hl:LeC cl cl') {ops:Array Oper} {A:Array Nat}:∀{l:List Oper} {i:Nat} {s:St} {rs:List Rec} {r:St × List Rec},
 fM P L cl ops A l i s rs=some r->fM P L cl' ops A l i s rs=some r
 |[],_,_,_,_,h=>h
 |o::l,i,s,rs,r,h=>by
  unfold fM at h⊢
  split at h
  . rename_i hr;rw[sx hl hr];exact lL hl h
  . cases h
theorem zY (hl:LeC cl cl') {ops:Array Oper} {s r:St} (h:mC P L cl ops s=some r):mC P L cl' ops s=some r:=by
 unfold mC at h⊢
 split at h
 . cases h
 . rename_i hs;(try rw[hs]);(try dsimp only at h⊢)
   split at h
   . rename_i hr;rw[lL hl hr];exact h
   . cases h
theorem rT {N M:Nat} (hN:N<=M) {b b':St->Option (Ex × St)} (hb:∀s r,b s=some r->b' s=some r):∀{s:St} {r:Ex × St},kC N b s=some r->kC M b' s=some r:=by
 induction N generalizing M with
 |zero=>intro s r h;cases h
 |succ n ih=>
  intro s r h;obtain⟨m,rfl⟩:∃m,M=m+1:=⟨M-1,by omega⟩
  unfold kC at h⊢
  split at h
  . rename_i hbs;rw[hb _ _ hbs];exact ih (by omega) h
  . rename_i hbs;rw[hb _ _ h];cases r with
    |mk e s'=>
     cases e with
     |normal=>exact absurd h (by simpa using hbs s')
     |_=>rfl
theorem mv (hl:LeC cl cl') {N M:Nat} (hN:N<=M):∀(c:Code) {s:St} {r:Ex × St},bh P L cl N c s=some r->bh P L cl' M c s=some r:=by
 intro c
 induction c with
 |skip=>intro s r h;exact h
 |region id ops d=>
  intro s r h;unfold bh at h⊢;cases d with
  |false=>
   dsimp only at h⊢;cases ho:lP P cl ops ops.toList s with
   |none=>rw[ho]at h;cases h
   |some s'=>rw[ho]at h;rw[qD hl ho];exact h
  |true=>
   dsimp only at h⊢;cases ho:mC P L cl ops s with
   |none=>rw[ho]at h;cases h
   |some s'=>rw[ho]at h;rw[zY hl ho];exact h
 |seq a b iha ihb=>
  intro s r h;unfold bh at h⊢
  split at h
  . rename_i ha;rw[iha ha];exact ihb h
  . rename_i ha;rw[iha h];cases r with
    |mk e s'=>
     cases e with
     |normal=>exact absurd h (by simpa using ha s')
     |_=>rfl
 |cond x a b iha ihb=>
  intro s r h;unfold bh at h⊢
  split at h
  . rename_i hx;exact iha h
  . rename_i hx;exact ihb h
  . cases h
 |block id b ih=>
  intro s r h;unfold bh at h⊢
  split at h
  . rename_i k s' hb;rw[ih hb];exact h
  . rename_i hb;rw[ih h];cases r with
    |mk e s'=>
     cases e with
     |exit k=>exact absurd h (by simpa using hb k s')
     |_=>rfl
 |loop b ih=>
  intro s r h;unfold bh at h⊢;exact rT hN (fun s r h=>ih h) h
 |exit id=>intro s r h;exact h
 |label id=>intro s r h;exact h
 |ret=>intro s r h;exact h
 |scope c _=>intro s r h;cases h
 |rangeFunc=>intro s r h;cases h
 |goto=>intro s r h;cases h
 |refuse=>intro s r h;cases h
theorem Hw (hl:LeC cl cl') {N M:Nat} (hN:N<=M) {g:FuncId} {args:List Value} {H:ag} {r:Value × ag} (h:oX P L cl N g args H=some r):oX P L cl' M g args H=some r:=by
 unfold oX at h⊢
 split at h
 . split at h
   . split at h
     . rename_i hc;rw[mv hl hN _ hc];exact h
     . rename_i hc;rw[mv hl hN _ hc];exact h
     . cases h
   . cases h
 . cases h
theorem dR {O:bp}:∀{n m:Nat},n<=m->LeC (bJ P L O n) (bJ P L O m)
 |0,_,_,_,_,_,_,h=>by cases h
 |n+1,m,hm,g,args,H,r,h=>by
  obtain⟨m,rfl⟩:∃k,m=k+1:=⟨m-1,by omega⟩
  unfold bJ at h⊢
  split at h
  . exact h
  . exact Hw (dR (by omega)) (by omega) h
end
end
end Go.Proofs.YtfaojedfnjdnnaaGreat.Ev
namespace Go.Proofs.YtfaojedfnjdnnaaGreat.Ev
noncomputable section
open Go
inductive Item where
 |code (p:List Nat) (c:Code)
 |ops (A:Array Oper) (l:List Oper)
 |blk (id:Nat)
 |lp (p:List Nat) (b:Code)
def Item.CO (k:Nat):Item->Bool
 | .blk id=>k==id
 |_=>false
section
variable (P : Program) (L : List FuncId) (cl : Cl) (N : Nat)
def gr:Item->St->Option (Ex × St)
 | .code _ c,s=>bh P L cl N c s
 | .ops A l,s=>(lP P cl A l s).map (Ex.normal,·)
 | .blk _,s=>some (.normal,s)
 | .lp _ b,s=>kC N (bh P L cl N b) s
mutual
def cE:List Item->St->Option (Ex × St)
 |[],s=>some (.normal,s)
 |i::r,s=>
  match gr P L cl N i s with
  |some (.normal,s')=>cE r s'
  |some (.exit k,s')=>lq k r s'
  |some (.ret,s')=>some (.ret,s')
  |none=>none
def lq (k:Nat):List Item->St->Option (Ex × St)
 |[],s=>some (.exit k,s)
 |i::r,s=>
  match i.CO k with
  |true=>cE r s
  |false=>lq k r s
end
end
section
variable {P : Program} {L : List FuncId} {cl cl' : Cl} {N M : Nat}
theorem Jq (hl:LeC cl cl') (hN:N<=M) {i:Item} {s:St} {r:Ex × St} (h:gr P L cl N i s=some r):gr P L cl' M i s=some r:=by
 cases i with
 |code p c=>exact mv hl hN c h
 |ops A l=>
  simp only[gr]at h⊢;cases ho:lP P cl A l s with
  |none=>rw[ho]at h;cases h
  |some s'=>rw[ho]at h;rw[qD hl ho];exact h
 |blk id=>exact h
 |lp p b=>exact rT hN (fun s r h=>mv hl hN b h) h
theorem mF (hl:LeC cl cl') (hN:N<=M):∀(l:List Item),
 (∀{s:St} {r:Ex × St},cE P L cl N l s=some r->cE P L cl' M l s=some r)/\
 (∀{k:Nat} {s:St} {r:Ex × St},lq P L cl N k l s=some r->lq P L cl' M k l s=some r)
 |[]=>⟨fun h=>by simpa[cE]using h,fun h=>by simpa[lq]using h⟩
 |i::l=>by
  have ih:=mF hl hN l;refine⟨fun {s r} h=> ?_,fun {k s r} h=> ?_⟩
  . unfold cE at h⊢;cases hi:gr P L cl N i s with
    |none=>rw[hi]at h;cases h
    |some x=>
     obtain⟨e,s'⟩:=x;rw[hi]at h;rw[Jq hl hN hi];cases e with
     |normal=>exact ih.1 h
     |exit k=>exact ih.2 h
     |ret=>exact h
  . unfold lq at h⊢;cases hb:i.CO k with
    |true=>rw[hb]at h;exact ih.1 h
    |false=>rw[hb]at h;exact ih.2 h
end
def dx (P:Program) (L:List FuncId) (O:bp) (l:List Item) (s:St) (q:Ex × St):Prop:=∃N,cE P L (bJ P L O N) N l s=some q
section
variable {P : Program} {L : List FuncId} {O : bp}
theorem uB {N M:Nat} (h:N<=M) {l:List Item} {s:St} {q:Ex × St} (hq:cE P L (bJ P L O N) N l s=some q):cE P L (bJ P L O M) M l s=some q:=
 (mF (dR h) h l).1 hq
theorem dx.seq {p p1 p2:List Nat} {a b:Code} {r:List Item} {s:St} {q:Ex × St} (h:dx P L O (.code p1 a:: .code p2 b::r) s q):dx P L O (.code p (.seq a b)::r) s q:=by
 obtain⟨N,h⟩:=h;refine⟨N, ?_⟩;rw[cE]at h⊢;simp only[gr,bh]at h⊢;cases ha:bh P L (bJ P L O N) N a s with
 |none=>rw[ha]at h;cases h
 |some x=>
  obtain⟨e,s'⟩:=x;rw[ha]at h;cases e with
  |normal=>
   dsimp only at h⊢;rw[cE]at h;simp only[gr]at h;exact h
  |exit k=>
   dsimp only at h⊢;rw[lq]at h;exact h
  |ret=>exact h
theorem dx.block {p p1:List Nat} {id:Nat} {b:Code} {r:List Item} {s:St} {q:Ex × St} (h:dx P L O (.code p1 b:: .blk id::r) s q):dx P L O (.code p (.block id b)::r) s q:=by
 obtain⟨N,h⟩:=h;refine⟨N, ?_⟩;rw[cE]at h⊢;simp only[gr,bh]at h⊢;cases ha:bh P L (bJ P L O N) N b s with
 |none=>rw[ha]at h;cases h
 |some x=>
  obtain⟨e,s'⟩:=x;rw[ha]at h;cases e with
  |normal=>
   dsimp only at h⊢;rw[cE]at h;exact h
  |exit k=>
   dsimp only at h⊢;rw[lq]at h;simp only[Item.CO]at h
   by_cases hk:k=id
   . rw[if_pos hk];rw[zaI.2 hk]at h;exact h
   . rw[if_neg hk];rw[zbU.2 hk]at h;exact h
  |ret=>exact h
theorem dx.loop {p p1:List Nat} {b:Code} {r:List Item} {s:St} {q:Ex × St} (h:dx P L O (.lp p1 b::r) s q):dx P L O (.code p (.loop b)::r) s q:=by
 obtain⟨N,h⟩:=h;exact⟨N,by rw[cE]at h⊢;simp only[gr,bh]at h⊢;exact h⟩
theorem dx.round {p p1:List Nat} {b:Code} {r:List Item} {s:St} {q:Ex × St} (h:dx P L O (.code p1 b:: .lp p b::r) s q):dx P L O (.lp p b::r) s q:=by
 obtain⟨N,h⟩:=h;have h':=uB (zbV N) h;refine⟨N+1, ?_⟩;have hm:∀(s:St) (r:Ex × St),bh P L (bJ P L O N) N b s=some r->bh P L (bJ P L O (N+1)) (N+1) b s=some r:=fun s r=>mv (dR (zbV N)) (zbV N) b
 rw[cE]at h⊢;simp only[gr]at h⊢;rw[kC];cases ha:bh P L (bJ P L O N) N b s with
 |none=>rw[ha]at h;cases h
 |some x=>
  obtain⟨e,s'⟩:=x;rw[ha]at h;rw[hm _ _ ha];cases e with
  |normal=>
   dsimp only at h⊢;rw[cE]at h;simp only[gr]at h;cases hl:kC N (bh P L (bJ P L O N) N b) s' with
   |none=>rw[hl]at h;cases h
   |some y=>
    rw[rT (zap N) hm hl];rw[hl]at h;obtain⟨e,s''⟩:=y;cases e with
    |normal=>exact(mF (dR (zbV N)) (zbV N) r).1 h
    |exit k=>exact(mF (dR (zbV N)) (zbV N) r).2 h
    |ret=>exact h
  |exit k=>
   dsimp only at h⊢;rw[lq]at h;exact(mF (dR (zbV N)) (zbV N) r).2 h
  |ret=>exact h
theorem dx.skip {p:List Nat} {r:List Item} {s:St} {q:Ex × St} (h:dx P L O r s q):dx P L O (.code p .skip::r) s q:=by
 obtain⟨N,h⟩:=h;exact⟨N,by rw[cE];simpa only[gr,bh]using h⟩
theorem dx.label {p:List Nat} {k:Nat} {r:List Item} {s:St} {q:Ex × St} (h:dx P L O r s q):dx P L O (.code p (.label k)::r) s q:=by
 obtain⟨N,h⟩:=h;exact⟨N,by rw[cE];simpa only[gr,bh]using h⟩
theorem dx.blk {id:Nat} {r:List Item} {s:St} {q:Ex × St} (h:dx P L O r s q):dx P L O (.blk id::r) s q:=by
 obtain⟨N,h⟩:=h;exact⟨N,by rw[cE];simpa only[gr]using h⟩
theorem dx.ret {p:List Nat} {r:List Item} {s:St}:dx P L O (.code p .ret::r) s (.ret,s):=⟨0,by rw[cE];simp only[gr,bh]⟩
theorem dx.nil {s:St}:dx P L O [] s (.normal,s):=⟨0,by rw[cE]⟩
def leave (k:Nat):List Item->Option (List Item)
 |[]=>none
 |i::r=>match i.CO k with|true=>some r|false=>leave k r
theorem Lx {cl:Cl} {N k:Nat} {s:St}:∀{r r':List Item},leave k r=some r'->lq P L cl N k r s=cE P L cl N r' s
 |[],_,h=>by simp[leave]at h
 |i::r,r',h=>by
  rw[lq];rw[leave]at h;cases hb:i.CO k with
  |true=>rw[hb]at h;cases h;rfl
  |false=>rw[hb]at h;exact Lx h
theorem dx.exit {p:List Nat} {k:Nat} {r r':List Item} {s:St} {q:Ex × St} (hr:leave k r=some r') (h:dx P L O r' s q):dx P L O (.code p (.exit k)::r) s q:=by
 obtain⟨N,h⟩:=h;exact⟨N,by rw[cE];simp only[gr,bh];rw[Lx hr];exact h⟩
theorem dx.cond {p p1:List Nat} {x:Operand} {a b:Code} {r:List Item} {s:St} {q:Ex × St} {t:Bool} (hx:dV s.fr x=some (.bool t)) (h:dx P L O (.code p1 (match t with|true=>a|false=>b)::r) s q):
 dx P L O (.code p (.cond x a b)::r) s q:=by
 obtain⟨N,h⟩:=h;refine⟨N, ?_⟩;rw[cE]at h⊢;simp only[gr,bh]at h⊢;rw[hx];cases t<;>exact h
theorem dx.region {p:List Nat} {id:Nat} {ops:Array Oper} {r:List Item} {s:St} {q:Ex × St} (h:dx P L O (.ops ops ops.toList::r) s q):dx P L O (.code p (.region id ops false)::r) s q:=by
 obtain⟨N,h⟩:=h;exact⟨N,by rw[cE]at h⊢;simp only[gr,bh]at h⊢;exact h⟩
theorem dx.draw {p:List Nat} {id:Nat} {ops:Array Oper} {r:List Item} {s s':St} {q:Ex × St} (hd:∃N,mC P L (bJ P L O N) ops s=some s') (h:dx P L O r s' q):dx P L O (.code p (.region id ops true)::r) s q:=by
 obtain⟨N,h⟩:=h;obtain⟨M,hd⟩:=hd;refine⟨max N M, ?_⟩;rw[cE];simp only[gr,bh];rw[zY (dR (Nat.le_max_right N M)) hd];exact uB (Nat.le_max_left N M) h
theorem dx.Pm {A:Array Oper} {r:List Item} {s:St} {q:Ex × St} (h:dx P L O r s q):dx P L O (.ops A []::r) s q:=by
 obtain⟨N,h⟩:=h;exact⟨N,by rw[cE];simp only[gr,lP,Option.map];exact h⟩
theorem dx.op {A:Array Oper} {o:Oper} {l:List Oper} {r:List Item} {s:St} {q:Ex × St} {v:Value} {H:ag} (hw:eZ A s.fr o=true) (ho:∃N,opE P (bJ P L O N) (dV s.fr) o s.hp=some (v,H))
 (h:dx P L O (.ops A l::r) ⟨iR s.fr o.dst v,H⟩ q):dx P L O (.ops A (o::l)::r) s q:=by
 obtain⟨N,h⟩:=h;obtain⟨M,ho⟩:=ho;refine⟨max N M, ?_⟩;have h:=uB (Nat.le_max_left N M) h;rw[cE]at h⊢;simp only[gr]at h⊢;rw[lP,hw];dsimp only;rw[nR (dR (Nat.le_max_right N M)) ho];exact h
theorem dx.Q2 {A:Array Oper} {o:Oper} {l:List Oper} {r:List Item} {s:St} {q:Ex × St} (hw:eZ A s.fr o=false)
 (h:dx P L O (.ops A l::r) ⟨iR s.fr o.dst undef,s.hp⟩ q):dx P L O (.ops A (o::l)::r) s q:=by
 obtain⟨N,h⟩:=h;refine⟨N, ?_⟩;rw[cE]at h⊢;simp only[gr]at h⊢;rw[lP,hw];exact h
end
end
end Go.Proofs.YtfaojedfnjdnnaaGreat.Ev
