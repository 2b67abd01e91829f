/- Part of a proof: F1, F2, F3, F4, F5, F6, F7. Conditions: none. -/
import Derived.Test.YtfaojedfnjdnnaaGreatQ2
set_option linter.unusedVariables false
set_option linter.unusedSimpArgs false
set_option linter.unnecessarySimpa false
set_option linter.unusedSectionVars false
namespace Go.Proofs.YtfaojedfnjdnnaaGreat.Ev
noncomputable section
noncomputable section
open Go
inductive Sch where
 |int (k:IntKind)
 |bool
 |ints (k:IntKind)
 |ab (l:List Sch)
inductive Dat where
 |n (x:Int)
 |r (l:List Dat)
def Dat.int:Dat->Int
 | .n x=>x
 | .r _=>0
def Dat.sub:Dat->List Dat
 | .n _=>[]
 | .r l=>l
def Dat.fld (d:Dat) (c:Nat):Dat:=d.sub.getD c (.n 0)
inductive aE where
 |ints (k:IntKind) (xs:List Int)
 |ab (l:List Sch) (xs:List Dat)
def aE.w:aE->Nat
 | .ints _ _=>1
 | .ab l _=>l.length
def aE.len:aE->Nat
 | .ints _ xs=>xs.length
 | .ab _ xs=>xs.length
inductive SV where
 |any
 |i (k:IntKind) (n:Int)
 |b (x:Bool)
 |str (s:ByteArray)
 |jy
 |eM
 |nP
 |AX
 |ptr (id row w col:Nat)
 |buf (id w:Nat) (ex:Bool)
 |sl (id off len w:Nat) (pre:Bool)
 |deep (c:aE)
 |dp (c:aE) (row col:Nat)
 |np (id w col:Nat) (n:Int)
 |fn (g:Nat) (x y:List SV)
 |agg (l:List SV)
 |tup (l:List SV)
def s9:Sch->Dat->SV
 | .int k,d=> .i k d.int
 | .bool,d=> .b (d.int !=0)
 | .ints k,d=> .deep (.ints k (d.sub.map Dat.int))
 | .ab l,d=> .deep (.ab l d.sub)
def rowFrom:List Sch->Nat->Dat->List SV
 |[],_,_=>[]
 |s::l,c,d=>s9 s (d.fld c)::rowFrom l (c+1) d
def aE.row:aE->Nat->List SV
 | .ints k xs,r=>[.i k (xs.getD r 0)]
 | .ab l xs,r=>rowFrom l 0 (xs.getD r (.r []))
mutual
def Bw:Sch->Sch->Bool
 | .int k,.int k'=>k==k'
 | .bool,.bool=>true
 | .ints k,.ints k'=>k==k'
 | .ab l,.ab l'=>fz l l'
 |_,_=>false
def fz:List Sch->List Sch->Bool
 |[],[]=>true
 |a::l,b::m=>Bw a b&&fz l m
 |_,_=>false
end
def V4:Sch->SV->Option Dat
 | .int k,.i k' n=>match k==k' with|true=>some (.n n)|false=>none
 | .bool,.b x=>some (.n (bif x then 1 else 0))
 | .ints _,.eM=>some (.r [])
 | .ints k,.deep (.ints k' xs)=>match k==k' with|true=>some (.r (xs.map .n))|false=>none
 | .ab _,.eM=>some (.r [])
 | .ab l,.deep (.ab l' xs)=>match fz l l' with|true=>some (.r xs)|false=>none
 |_,_=>none
def jO:List Sch->List SV->Option (List Dat)
 |[],[]=>some []
 |s::l,v::vs=>match V4 s v,jO l vs with|some d,some r=>some (d::r)|_,_=>none
 |_,_=>none
inductive aS where
 |cells (l:List SV)
 |cont (c:aE)
 |fh (id w col:Nat) (rows:List Int)
inductive STr where
 |e
 |n (v:Option aS) (l r:STr)
def STr.get:STr->Nat->Option aS
 | .e,_=>none
 | .n v l r,k=>if k=0 then v else if k%2=1 then l.get (k/2)else r.get (k/2-1)
def STr.val:STr->Option aS
 | .e=>none
 | .n v _ _=>v
def STr.left:STr->STr
 | .e=> .e
 | .n _ l _=>l
def STr.right:STr->STr
 | .e=> .e
 | .n _ _ r=>r
def STr.put (b:Option aS):(fuel:Nat)->STr->Nat->STr
 |0,t,_=>t
 |f+1,t,k=>if k=0 then .n b t.left t.right else if k%2=1 then .n t.val (STr.put b f t.left (k/2)) t.right else .n t.val t.left (STr.put b f t.right (k/2-1))
structure aj where
 size:Nat
 root:STr
 lock:Nat
 hid:List (Nat × Nat)
def aj.get (S:aj) (k:Nat):Option aS:=if k<S.size then(if hidden S.hid k then none else S.root.get k)else none
def aj.put (S:aj) (k:Nat) (b:Option aS):aj:={S with root:=S.root.put b (k+1) k}
def aj.push (S:aj) (b:aS):aj:={S with size:=S.size+1,root:=S.root.put (some b) (S.size+1) S.size}
structure SSt where
 fr:List SV
 hp:aj
def CD:Value->Option SV
 | .bool x=>some (.b x)
 | .int k n=>some (.i k n)
 | .string s=>some (.str s)
 | .pointer none=>some .jy
 | .slice none 0 0=>some .eM
 | .nilFunc=>some .nP
 | .nilIface=>some .AX
 |_=>none
def AS:List Value->Option (List SV)
 |[]=>some []
 |v::r=>match CD v,AS r with|some a,some l=>some (a::l)|_,_=>none
def js (fr:List SV):Operand->Option SV
 | .tmp t=>some (fr.getD t (.tup []))
 | .const v=>CD v
 | .global _=>none
 | .func f=>some (.fn f [] [])
def dE:SV->Option (List SV)
 | .agg l=>some l
 | .tup _=>none
 | .any=>none
 |v=>some [v]
section
variable {R : Type} (P : Program) (L : List FuncId)
def ev (t:TypeId):Option (List SV):=
 match (P.info? t).bind (·.zero)with
 |some (.agg cs)=>AS cs.toList
 |some v=>match CD v with|some s=>some [s]|none=>none
 |none=>none
def Hf:Nat->TypeId->Option (List Sch)
 |0,_=>none
 |d+1,t=>
  match P.underlying t with
  |some (.int k)=>some [.int k]
  |some .bool=>some [.bool]
  |some (.slice e)=>
   match P.underlying e with
   |some (.int k)=>some [.ints k]
   |_=>match Hf d e with|some l=>some [.ab l]|none=>none
  |some (.struct fs)=>fs.toList.foldr (fun f r=>match Hf d f.type,r with|some a,some b=>some (a++b)|_,_=>none) (some [])
  |some (.array n e)=>match Hf d e with|some l=>some (List.replicate n l).flatten|none=>none
  |_=>none
def mA (e:TypeId) (n:Nat):Option aE:=
 match P.underlying e with
 |some (.int k)=>match ev P e with|some [.i k' z]=>(match k==k' with|true=>some (.ints k (List.replicate n z))|false=>none)|_=>none
 |_=>
  match Hf P 20 e,ev P e with
  |some l,some z=>match jO l z with|some r=>some (.ab l (List.replicate n (.r r)))|none=>none
  |_,_=>none
def rowsOf (l:List Sch) (w:Nat):Nat->List SV->Option (List Dat)
 |0,[]=>some []
 |0,_=>none
 |n+1,cs=>match jO l (cs.take w),rowsOf l w n (cs.drop w)with|some r,some rs=>some (.r r::rs)|_,_=>none
def vo (k:IntKind):List SV->Option (List Int)
 |[]=>some []
 | .i k' n::r=>match k==k',vo k r with|true,some l=>some (n::l)|_,_=>none
 |_=>none
def KH (e:TypeId) (n:Nat) (cs:List SV):Option aE:=
 match P.underlying e with
 |some (.int k)=>match vo k cs with|some xs=>some (.ints k xs)|none=>none
 |_=>
  match Hf P 20 e with
  |some l=>match rowsOf l l.length n cs with|some r=>some (.ab l r)|none=>none
  |none=>none
def Sa (e:TypeId) (n:Nat) (cs:List SV):aS:=
 match KH P e n cs with
 |some c=> .cont c
 |none=> .cells cs
def mkS (d:TypeDesc) (cs:List SV):Option SV:=
 match nh d with
 |true=>some (.agg cs)
 |false=>match cs with|v::_=>some v|[]=>none
def LC (c:aE) (w row col n:Nat) (k:List SV->Option R):Option R:=
 match (w==c.w)&&decide (col+n<=c.w)&&decide (0<n)with
 |true=>match decide (row<c.len)with|true=>k (((c.row row).drop col).take n)|false=>none
 |false=>none
def alike:SV->SV->Bool
 | .i k _,.i k' _=>k==k'
 | .b _,.b _=>true
 | .deep (.ints k _),.deep (.ints k' _)=>k==k'
 | .deep (.ab l _),.deep (.ab l' _)=>fz l l'
 |_,_=>false
def SV.num:SV->Int
 | .i _ n=>n
 |_=>0
def SV.flag:SV->Bool
 | .b x=>x
 |_=>false
def SV.zS:SV->List Int
 | .deep (.ints _ l)=>l
 |_=>[]
def SV.rows:SV->List Dat
 | .deep (.ab _ l)=>l
 |_=>[]
def Ju (a:SV) (l:List SV) (r:Nat):SV:=
 match a with
 | .i k _=> .i k ((l.map SV.num).getD r 0)
 | .b _=> .b ((l.map SV.flag).getD r false)
 | .deep (.ints k _)=> .deep (.ints k ((l.map SV.zS).getD r []))
 | .deep (.ab s _)=> .deep (.ab s ((l.map SV.rows).getD r []))
 |a=>a
def EV (c:Bool) (new old:SV):SV:=
 match old with
 | .i k n=> .i k (bif c then new.num else n)
 | .b x=> .b (bif c then new.flag else x)
 | .deep (.ints k l)=> .deep (.ints k (bif c then new.zS else l))
 | .deep (.ab s l)=> .deep (.ab s (bif c then new.rows else l))
 |a=>a
def Ma (l:List SV) (w o m:Nat):List SV:=(List.range m).map fun j=>l.getD (o+j*w) .any
def Pe (l:List SV) (w col n m:Nat):Bool:=(List.range n).all fun c=>(Ma l w (col+c) m).all (alike (l.getD (col+c) .any))
def sW (l:List SV) (w col n:Nat):Nat->Nat->Nat
 |0,j=>j
 |f+1,j=>match decide (col+j*w+n<=l.length)&&(List.range n).all fun c=>alike (l.getD (col+c) .any) (l.getD (col+j*w+c) .any)with|true=>sW l w col n f (j+1)|false=>j
def uY (l:List SV) (w col n m:Nat):Bool:=decide (0<w)&&(decide (0<m)&&(decide (col+(m-1)*w+n<=l.length)&&Pe l w col n m))
def LW (l:List SV) (row w col n:Nat) (k:List SV->Option R):Option R:=
 match uY l w col n (sW l w col n l.length 0)with
 |true=>match decide (row<sW l w col n l.length 0)with|true=>k ((List.range n).map fun c=>Ju (l.getD (col+c) .any) (Ma l w (col+c) (sW l w col n l.length 0)) row)|false=>none
 |false=>match decide (row*w+col+n<=l.length)with|true=>k ((l.drop (row*w+col)).take n)|false=>none
def P5 (row w col m:Nat) (us:List SV):Nat->List SV->List SV
 |_,[]=>[]
 |o,a::r=>(match decide (col<=o)&&(decide ((o-col)%w<us.length)&&decide ((o-col)/w<m))with|true=>EV (decide (row=(o-col)/w)) (us.getD ((o-col)%w) .any) a|false=>a)::P5 row w col m us (o+1) r
def WI (l:List SV) (w col:Nat) (us:List SV):Bool:=decide (us.length<=w)&&(List.range us.length).all fun c=>alike (l.getD (col+c) .any) (us.getD c .any)
def JV (l:List SV) (row w col:Nat) (us:List SV) (k:List SV->Option R):Option R:=
 match WI l w col us&&uY l w col us.length (sW l w col us.length l.length 0)with
 |true=>match decide (row<sW l w col us.length l.length 0)with|true=>k (P5 row w col (sW l w col us.length l.length 0) us 0 l)|false=>none
 |false=>match decide (row*w+col+us.length<=l.length)with|true=>k (l.take (row*w+col)++us++l.drop (row*w+col+us.length))|false=>none
def Lz (S:aj) (n:Nat) (p:SV) (k:List SV->Option R):Option R:=
 match p with
 | .ptr id row w col=>
  match S.get id with
  |some (.cells l)=>LW l row w col n k
  |some (.cont c)=>LC c w row col n k
  |some (.fh j v e rows)=>(match (w==1)&&((col==0)&&(n==1))with|true=>(match decide (row<rows.length)with|true=>k [.np j v e (rows.getD row 0)]|false=>none)|false=>none)
  |none=>none
 | .dp c row col=>LC c c.w row col n k
 |_=>none
def xv (S:aj) (t:TypeId) (p:SV) (k:SV->Option R):Option R:=
 match P.underlying t,P.info? t with
 |some d,some i=>Lz S (match nh d with|true=>i.size|false=>1) p fun cs=>match mkS d cs with|some v=>k v|none=>none
 |_,_=>none
def aE.set (c:aE) (row col:Nat) (vs:List SV):Option aE:=
 match c with
 | .ints k xs=>match vs with|[.i k' n]=>(match k==k' with|true=>some (.ints k (xs.set row n))|false=>none)|_=>none
 | .ab l xs=>
  match jO l (((aE.ab l xs).row row).take col++vs++((aE.ab l xs).row row).drop (col+vs.length))with
  |some r=>some (.ab l (xs.set row (.r r)))
  |none=>none
def Jj (S:aj) (p:SV) (vs:List SV) (k:aj->Option R):Option R:=
 match p with
 | .ptr id row w col=>
  match decide (S.lock<=id)&&decide (0<vs.length)with
  |true=>
   (match S.get id with
   |some (.cells l)=>JV l row w col vs fun l'=>k (S.put id (some (.cells l')))
   |some (.cont c)=>
    (match (w==c.w)&&decide (col+vs.length<=c.w)with
    |true=>match decide (row<c.len)with|true=>(match c.set row col vs with|some c'=>k (S.put id (some (.cont c')))|none=>none)|false=>none
    |false=>none)
   |_=>none)
  |false=>none
 |_=>none
def JH (S:aj) (t:TypeId) (p v:SV) (k:aj->Option R):Option R:=
 match dE v,P.info? t with
 |some cs,some i=>match decide (cs.length=i.size)with|true=>Jj S p cs k|false=>none
 |_,_=>none
def o8 (t:TypeId) (cs:List SV) (off:Nat):Option SV:=
 match P.underlying t,P.info? t with
 |some d,some i=>
  match nh d with
  |true=>match decide (off+i.size<=cs.length)with|true=>some (.agg ((cs.drop off).take i.size))|false=>none
  |false=>cs[off]?
 |_,_=>none
def eqS:Nat->TypeId->SV->SV->Option Bool
 |0,_,_,_=>none
 |d+1,t,x,y=>
  match P.underlying t,x,y with
  |some .bool,.b a,.b c=>some (a==c)
  |some (.int _),.i k a,.i k' c=>if k=k' then some (a==c)else none
  |some (.struct fs),.agg xs,.agg ys=>
   if P.stoodInHeld t then none else
   fs.toList.foldr (fun f (r:Option Bool)=>
    if f.name≠ "_" then
     match o8 P f.type xs f.offset,o8 P f.type ys f.offset with
     |some a,some c=>
      match eqS d f.type a c,r with
      |some u,some w=>some (u&&w)
      |_,_=>none
     |_,_=>none
    else r) (some true)
  |some (.array len elem),.agg xs,.agg ys=>
   match P.info? elem with
   |some i=>
    (List.range len).foldr (fun j (r:Option Bool)=>
     match o8 P elem xs (j*i.size),o8 P elem ys (j*i.size)with
     |some a,some c=>
      match eqS d elem a c,r with
      |some u,some w=>some (u&&w)
      |_,_=>none
     |_,_=>none) (some true)
   |none=>none
  |_,_,_=>none
def Uf:SV->Option Bool
 | .jy=>some true
 | .ptr _ _ _ _=>some false
 | .np _ _ _ n=>some (decide (n<0))
 | .eM=>some true
 | .buf _ _ true=>some false
 |_=>none
def ZG:TypeDesc->SV->SV->Bool
 | .pointer _,.jy,.ptr _ _ _ _=>true
 | .pointer _,.jy,.jy=>true
 | .pointer _,.ptr _ _ _ _,.jy=>true
 | .pointer _,.jy,.np _ _ _ _=>true
 | .pointer _,.np _ _ _ _,.jy=>true
 | .slice _,.eM,.buf _ _ _=>true
 | .slice _,.buf _ _ _,.eM=>true
 | .slice _,.eM,.eM=>true
 |_,_,_=>false
def Mm:Value->Option SV
 | .int k n=>some (.i k n)
 | .bool x=>some (.b x)
 |_=>none
open Classical in
def both (x y:Option R):Option R:=if x=y then x else none
def Yg (op:BinOp) (t:TypeId) (x y:SV) (k:SV->Option R):Option R:=
 match x,y with
 | .i k1 a,.i k2 c=>
  match op with
  | .quo=>if k1=k2 then(match decide (c=0)with|true=>none|false=>k (.i k1 (k1.wrap (a.tdiv c))))else none
  | .rem=>if k1=k2 then(match decide (c=0)with|true=>none|false=>k (.i k1 (a.tmod c)))else none
  | .shl=>(match decide (c<0)with|true=>none|false=>k (.i k1 (k1.wrap (a*2^(min c.toNat k1.bits)))))
  | .shr=>(match decide (c<0)with|true=>none|false=>k (.i k1 (a.fdiv (2^(min c.toNat k1.bits)))))
  |_=>if k1=k2 then(match mb op k1 a c with|some v=>(match Mm v with|some s=>k s|none=>none)|none=>none)else none
 | .agg xs,.agg ys=>
  match P.eqGuardType P.depth t with
  |true=>none
  |false=>
   match op with
   | .eql=>(match eqS P 10000 t (.agg xs) (.agg ys)with|some c=>k (.b c)|none=>none)
   | .neq=>(match eqS P 10000 t (.agg xs) (.agg ys)with|some c=>k (.b (!c))|none=>none)
   |_=>none
 | .b a,.b c=>
  match P.underlying t with
  |some .bool=>match op with| .eql=>k (.b (a==c))| .neq=>k (.b (!(a==c)))|_=>none
  |_=>none
 | .deep c,.eM=>
  match P.underlying t with
  |some (.slice _)=>
   match op with
   | .eql=>(match decide (c.len=0)with|true=>both (k (.b true)) (k (.b false))|false=>k (.b false))
   | .neq=>(match decide (c.len=0)with|true=>both (k (.b true)) (k (.b false))|false=>k (.b true))
   |_=>none
  |_=>none
 |_,_=>
  match P.underlying t,Uf x,Uf y with
  |some d,some a,some c=>(match ZG d x y with|true=>(match op with| .eql=>k (.b (a&&c))| .neq=>k (.b (!(a&&c)))|_=>none)|false=>none)
  |_,_,_=>none
def unS (op:UnOp) (x:SV):Option SV:=
 match op,x with
 | .neg,.i k n=>some (.i k (k.wrap (0-n)))
 | .xor,.i k n=>match mb .xor k (if k.signed then-1 else k.max) n with|some v=>Mm v|none=>none
 | .not,.b x=>some (.b (!x))
 |_,_=>none
def RX (src dst:TypeId) (x:SV):Option SV:=
 match P.underlying src,P.underlying dst,x with
 |some _,some (.int k),.i _ n=>some (.i k (k.wrap n))
 |_,_,_=>none
def zQ (S:aj):SV->Option Nat
 | .eM=>some 0
 | .buf id w ex=>match S.get id with
  |some (.cont c)=>(match (w==c.w)&&decide (0<w)with|true=>some c.len|false=>none)
  |some (.cells l)=>(match ex&&(decide (0<w)&&(l.length%w==0))with|true=>some (l.length/w)|false=>none)
  |some (.fh _ _ _ rows)=>(match w==1 with|true=>some rows.length|false=>none)
  |none=>none
 | .sl _ _ len _ _=>some len
 | .deep c=>some c.len
 |_=>none
def oS (x:Option SV) (d:Nat):Option (Bool × Nat):=
 match x with
 |none=>some (true,d)
 |some (.i _ n)=>some (false,n.toNat)
 |_=>none
def Bd (x:Option SV):Bool:=
 match x with
 |some (.i _ n)=>decide (0<=n)
 |_=>true
def aE.cut (c:aE) (l n:Nat):aE:=
 match c with
 | .ints k xs=> .ints k ((xs.drop l).take n)
 | .ab s xs=> .ab s ((xs.drop l).take n)
def qW (k:IntKind):List SV->Option (List Int)
 |[]=>some []
 | .i k' n::r=>(match k==k',qW k r with|true,some xs=>some (n::xs)|_,_=>none)
 |_::_=>none
def IQ (S:aj) (t:TypeId) (x:SV) (lo hi:Option SV) (k:SV->Option R):Option R:=
 match P.underlying t with
 |some (.slice e)=>
  match P.info? e,zQ S x with
  |some i,some len=>
   match oS hi len,oS lo 0 with
   |some (_,h),some (_,l)=>
    match Bd hi&&(Bd lo&&decide (l<=h/\h<=len))with
    |true=>
     (match x with
      | .eM=>k .eM
      | .buf id w _=>match w==i.size with|true=>k (.sl id l (h-l) w lo.isNone)|false=>none
      | .sl id off _ w pre=>match w==i.size with|true=>k (.sl id (off+l) (h-l) w (pre&&lo.isNone))|false=>none
      | .deep c=>match c.w==i.size with|true=>k (.deep (c.cut l (h-l)))|false=>none
      |_=>none)
    |false=>none
   |_,_=>none
  |_,_=>none
 |some (.array n e)=>
  match lo,hi,x,P.info? e with
  |none,none,.ptr id row w col,some i=>
   (match S.get id with
    |some (.cont c)=>match (c.w==i.size)&&(n==c.len)&&(row==0)&&(col==0)with|true=>k (.buf id c.w true)|false=>none
    |some (.cells (.i q m::r))=>(match (1==i.size)&&(n==r.length+1)&&(row==0)&&(col==0),qW q (.i q m::r)with|true,some _=>k (.buf id 1 true)|_,_=>none)
    |_=>none)
  |_,_,_,_=>none
 |_=>none
def DH (S:aj) (t:TypeId) (x:SV) (lo:Option SV) (hi mx:SV) (k:SV->Option R):Option R:=
 match P.underlying t with
 |some (.slice e)=>
  match P.info? e,zQ S x with
  |some i,some len=>
   match oS (some mx) len,oS (some hi) len,oS lo 0 with
   |some (_,m),some (_,h),some (_,l)=>
    match Bd (some mx)&&(Bd (some hi)&&(Bd lo&&decide (l<=h/\h<=m/\m<=len)))with
    |true=>
     (match x with
      | .sl id off _ w _=>match w==i.size with|true=>k (.sl id (off+l) (h-l) w false)|false=>none
      | .deep c=>match c.w==i.size with|true=>k (.deep (c.cut l (h-l)))|false=>none
      |_=>none)
    |false=>none
   |_,_,_=>none
  |_,_=>none
 |_=>none
def sA (s:TypeId) (x:SV) (f:Nat):Option SV:=
 match P.underlying s with
 |some (.struct fs)=>
  match fs[f]? with
  |some fd=>
   match P.info? fd.type with
   |some i=>
    (match i.size==0 with
     |true=>none
     |false=>
      match x with
      | .ptr id row w col=>some (.ptr id row w (col+fd.offset))
      | .dp c row col=>some (.dp c row (col+fd.offset))
      |_=>none)
   |none=>none
  |none=>none
 |_=>none
def KF (s:TypeId) (x:SV) (f:Nat):Option SV:=
 match P.underlying s with
 |some (.struct fs)=>
  match fs[f]?,x with
  |some fd,.agg cs=>o8 P fd.type cs fd.offset
  |_,_=>none
 |_=>none
def zU (n:Nat) (i:Int) (k:Nat->Option R):Nat->Option R
 |0=>none
 |m+1=>match decide (i=((n-(m+1):Nat):Int))with|true=>k (n-(m+1))|false=>zU n i k m
def rK (S:aj) (t:TypeId) (x ix:SV) (k:SV->Option R):Option R:=
 match ix with
 | .i _ i=>
  match P.underlying t,x with
  |some (.array len e),.ptr id row w col=>
   (match P.info? e,S.get id with
    |some ie,some (.cells l)=>(match uY l ie.size (row*w+col) ie.size len with
     |true=>(match decide (0<=i/\i<(len:Int))with|true=>k (.ptr id i.toNat ie.size (row*w+col))|false=>none)
     |false=>zU len i (fun j=>k (.ptr id row w (col+j*ie.size))) len)
    |some ie,some (.cont c)=>(match (c.w==ie.size)&&(len==c.len)&&(row==0)&&(col==0)with
     |true=>(match decide (0<=i/\i<(len:Int))with|true=>k (.ptr id i.toNat c.w 0)|false=>none)
     |false=>zU len i (fun j=>k (.ptr id row w (col+j*ie.size))) len)
    |_,_=>none)
  |some (.array len e),.dp c row col=>
   (match P.info? e with
    |some ie=>zU len i (fun j=>k (.dp c row (col+j*ie.size))) len
    |none=>none)
  |some (.slice e),_=>
   (match P.info? e,zQ S x with
    |some ie,some len=>
     (match decide (0<=i/\i<(len:Int))with
      |true=>
       (match x with
        | .buf id w _=>match w==ie.size with|true=>k (.ptr id i.toNat w 0)|false=>none
        | .sl id off _ w _=>match w==ie.size with|true=>k (.ptr id (off+i.toNat) w 0)|false=>none
        | .deep c=>match c.w==ie.size with|true=>k (.dp c i.toNat 0)|false=>none
        |_=>none)
      |false=>none)
    |_,_=>none)
  |_,_=>none
 |_=>none
def Ix (t:TypeId) (x ix:SV) (k:SV->Option R):Option R:=
 match ix with
 | .i _ i=>
  match P.underlying t,x with
  |some (.array len e),.agg cs=>
   (match P.info? e with
    |some ie=>(match uY cs ie.size 0 ie.size len with
     |true=>(match decide (0<=i/\i<(len:Int))with|true=>LW cs i.toNat ie.size 0 ie.size (fun l=>match o8 P e l 0 with|some v=>k v|none=>none)|false=>none)
     |false=>zU len i (fun j=>match o8 P e cs (j*ie.size)with|some v=>k v|none=>none) len)
    |none=>none)
  |some .string,.str s=>(match decide (0<=i/\i.toNat<s.data.size)with|true=>k (.i .u8 ((s.data.getD i.toNat 0).toNat:Nat))|false=>none)
  |_,_=>none
 |_=>none
def pg (S:aj):SV->Option aE
 | .buf id w ex=>match S.get id with
  |some (.cont c)=>(match (w==c.w)&&decide (0<w)with|true=>some c|false=>none)
  |some (.cells (.i k n::r))=>(match ex&&(w==1),qW k (.i k n::r)with|true,some xs=>some (.ints k xs)|_,_=>none)
  |_=>none
 | .sl id off len w _=>match S.get id with|some (.cont c)=>(match (w==c.w)&&decide (0<w)with|true=>some (c.cut off len)|false=>none)|_=>none
 | .deep c=>some c
 |_=>none
def aE.app:aE->aE->Option aE
 | .ints k xs,.ints k' ys=>match k==k' with|true=>some (.ints k (xs++ys))|false=>none
 | .ab l xs,.ab l' ys=>match fz l l' with|true=>some (.ab l (xs++ys))|false=>none
 |_,_=>none
def aE.gU (d:aE) (a:Nat) (s:aE):Option aE:=
 match d,s with
 | .ints k xs,.ints k' ys=>match k==k' with|true=>some (.ints k (xs.take a++ys++xs.drop (a+ys.length)))|false=>none
 | .ab l xs,.ab l' ys=>match fz l l' with|true=>some (.ab l (xs.take a++ys++xs.drop (a+ys.length)))|false=>none
 |_,_=>none
def aS.len:aS->Nat
 | .cont c=>c.len
 | .fh _ _ _ rows=>rows.length
 | .cells _=>0
def aS.w:aS->Nat
 | .cont c=>c.w
 | .fh _ _ _ _=>1
 | .cells _=>0
def aS.app:aS->aS->Option aS
 | .cont a,.cont b=>match a.app b with|some c=>some (.cont c)|none=>none
 | .fh j v e rows,.fh j' v' e' WS=>match (j==j')&&((v==v')&&(e==e'))with|true=>some (.fh j v e (rows++WS))|false=>none
 |_,_=>none
def OL (S:aj):SV->Option aS
 | .buf id w ex=>
  match S.get id with
  |some (.fh j v e rows)=>(match w==1 with|true=>some (.fh j v e rows)|false=>none)
  |some (.cells [.ptr j row v e])=>(match ex&&(w==1)with|true=>some (.fh j v e [(row:Int)])|false=>none)
  |_=>match pg S (.buf id w ex)with|some c=>some (.cont c)|none=>none
 |x=>match pg S x with|some c=>some (.cont c)|none=>none
def QW:SV->Bool
 | .eM=>true
 | .buf _ _ true=>true
 |_=>false
def EB (S:aj) (t u:TypeId) (s x:SV) (k:SV->aj->Option R):Option R:=
 match t==u,P.underlying t with
 |true,some (.slice e)=>
  match P.info? e with
  |some i=>
   match decide (0<i.size)&&(match (i.zero).bind gu with|some zc=>zc.length==i.size|none=>false)with
   |true=>
    (match (match x with| .eM=>(match mA P e 0 with|some z=>some (aS.cont z)|none=>none)|_=>OL S x)with
     |some new=>
      match s with
      | .eM=>
       (match new.w==i.size with
        |true=>(match decide (new.len<1099511627776/\new.len*i.bytes<35184372088832)with|true=>k (.buf S.size i.size false) (S.push new)|false=>none)
        |false=>none)
      | .buf id w ex=>
       (match S.get id with
        |some old=>
         (match old.app new,(w==i.size)&&(old.w==i.size)with
          |some c,true=>
           (match decide (old.len+new.len<1099511627776/\(old.len+new.len)*i.bytes<35184372088832)with
            |true=>
             (match decide (S.lock<=id)with
              |true=>k (.buf S.size w false) ((S.put id none).push c)
              |false=>(match ex with
               |true=>(match decide (new.len=0)with|true=>k (.buf id w ex) S|false=>k (.buf S.size w false) (S.push c))
               |false=>none))
            |false=>none)
          |_,_=>none)
        |none=>none)
      | .sl id off len w pre=>
       (match S.get id,new with
        |some (.cont old),.cont nw=>
         (match old.gU len nw,pre&&((off==0)&&((w==i.size)&&((old.w==i.size)&&((nw.w==i.size)&&decide (S.lock<=id)))))with
          |some c,true=>
           (match decide (len+nw.len<1099511627776/\(len+nw.len)*i.bytes<35184372088832)with
            |true=>(match decide (len+nw.len<=old.len)with
             |true=>k (.sl id 0 (len+nw.len) w true) (S.put id (some (.cont c)))
             |false=>none)
            |false=>none)
          |_,_=>none)
        |_,_=>none)
      |_=>none
     |none=>none)
   |false=>none
  |none=>none
 |_,_=>none
def RF (S:aj) (t u:TypeId) (s x:SV) (k:SV->aj->Option R):Option R:=
 match P.underlying t,P.underlying u,s,x with
 |some (.slice e),some (.int _),.eM,.i _ n=>
  match P.info? e,ev P e,mA P e n.toNat with
  |some i,some z,some c=>
   (match (c.w==i.size)&&(decide (z.length=i.size)&&decide (0<i.size))with
    |true=>
     (match decide (0<=n/\n<1099511627776/\n.toNat*i.bytes<35184372088832)with
      |true=>k (.buf S.size i.size false) (S.push (.cont c))
      |false=>none)
    |false=>none)
  |_,_,_=>none
 |_,_,_,_=>none
def aE.copied (d s:aE):Option aE:=
 match d,s with
 | .ints k xs,.ints k' ys=>match k==k' with|true=>some (.ints k (ys.take (min ys.length xs.length)++xs.drop (min ys.length xs.length)))|false=>none
 | .ab l xs,.ab l' ys=>match fz l l' with|true=>some (.ab l (ys.take (min ys.length xs.length)++xs.drop (min ys.length xs.length)))|false=>none
 |_,_=>none
def PL (S:aj) (t:TypeId) (d s:SV) (k:SV->aj->Option R):Option R:=
 match P.underlying t,d with
 |some (.slice e),.buf id w _=>
  (match P.info? e,S.get id,pg S s with
   |some i,some (.cont c),some new=>
    (match (w==i.size)&&(c.w==i.size)&&decide (S.lock<=id)&&decide (0<i.size),c.copied new with
     |true,some c'=>k (.i .i64 ((min new.len c.len:Nat):Int)) (S.put id (some (.cont c')))
     |_,_=>none)
   |_,_,_=>none)
 |_,_=>none
def MG:Option SV->SV->Option SV
 |some (.i k x),.i _ y=>some (.i k (if y<x then y else x))
 |_,_=>none
def My:Option SV->SV->Option SV
 |some (.i k x),.i _ y=>some (.i k (if x<y then y else x))
 |_,_=>none
def Xb:List SV->Option SV
 | .i k x::r=>r.foldl MG (some (.i k x))
 |_=>none
def ZB:List SV->Option SV
 | .i k x::r=>r.foldl My (some (.i k x))
 |_=>none
def adb (S:aj) (t:TypeId) (x:SV):Option SV:=
 match P.underlying t with
 |some (.slice _)=>match zQ S x with|some n=>some (.i .i64 (n:Int))|none=>none
 |some (.array n _)=>some (.i .i64 (n:Int))
 |some .string=>match x with| .str s=>some (.i .i64 (s.size:Int))|_=>none
 |_=>none
def zq (S:aj) (b:Builtin) (ts:List TypeId) (args:List SV) (k:SV->aj->Option R):Option R:=
 match b with
 | .append=>match ts,args with|[t,u],[s,x]=>(match t==u with|true=>EB P S t u s x k|false=>RF P S t u s x k)|_,_=>none
 | .copy=>match ts,args with|[t,_],[d,s]=>PL P S t d s k|_,_=>none
 | .len=>match ts,args with|[t],[x]=>(match adb P S t x with|some v=>k v S|none=>none)|_,_=>none
 | .cap=>match ts,args with|[t],[.eM]=>(match P.underlying t with|some (.slice _)=>k (.i .i64 0) S|_=>none)|_,_=>none
 | .min=>match Xb args with|some v=>k v S|none=>none
 | .max=>match ZB args with|some v=>k v S|none=>none
 |_=>none
def vP (ρ:Operand->Option SV):List (Nat × Operand)->Option (List (Nat × List SV))
 |[]=>some []
 |(i,x)::r=>
  match (ρ x).bind dE,vP ρ r with
  |some v,some vs=>some ((i,v)::vs)
  |_,_=>none
def y3 (place:Nat->Option (Nat × Nat)):List SV->List (Nat × List SV)->Option (List SV)
 |cs,[]=>some cs
 |cs,(i,v)::r=>
  match place i with
  |some (off,n)=>match decide (v.length=n)&&decide (off+n<=cs.length)with|true=>y3 place (v.zipIdx.foldl (fun cs p=>cs.set (off+p.2) p.1) cs) r|false=>none
  |none=>none
def Ae (ρ:Operand->Option SV):List Operand->Option (List SV)
 |[]=>some []
 |x::r=>
  match ρ x,Ae ρ r with
  |some v,some vs=>some (v::vs)
  |_,_=>none
def Nu (ρ:Operand->Option SV):Option Operand->Option (Option SV)
 |none=>some none
 |some x=>(ρ x).map some
def J1 (t:TypeId) (parts:List (Nat × List SV)):Option SV:=
 match P.underlying t with
 |some (.array _ e)=>
  match ev P t,P.info? e with
  |some z,some ie=>match y3 (fun i=>some (i*ie.size,ie.size)) z parts with|some cs=>some (.agg cs)|none=>none
  |_,_=>none
 |some (.struct fields)=>
  match ev P t,fields.toList.mapM (fun f=>(P.info? f.type).map fun i=>(f.offset,i.size))with
  |some z,some places=>match y3 (places.toArray[·]?) z parts with|some cs=>some (.agg cs)|none=>none
  |_,_=>none
 |_=>none
def qw (S:aj) (t:TypeId) (n:Nat) (parts:List (Nat × List SV)) (k:SV->aj->Option R):Option R:=
 match P.underlying t with
 |some (.slice e)=>
  match P.info? e,ev P e with
  |some i,some z=>
   (match decide (n*i.size<=16777216)&&decide (z.length=i.size)with
    |true=>
     (match y3 (fun j=>some (j*i.size,i.size)) (List.replicate n z).flatten parts with
      |some cs=>k (.buf S.size i.size true) (S.push (Sa P e n cs))
      |none=>none)
    |false=>none)
  |_,_=>none
 |_=>none
def OC (S:aj) (t:TypeId) (len:SV) (k:SV->aj->Option R):Option R:=
 match P.underlying t,len with
 |some (.slice e),.i _ n=>
  match P.info? e,ev P e,mA P e n.toNat with
  |some i,some z,some c=>
   (match (c.w==i.size)&&decide (z.length=i.size)with
    |true=>
     (match decide (0<=n/\(i.bytes:Int)*n<=140737488355328/\n<=9223372036854775807)with
      |true=>k (.buf S.size i.size true) (S.push (.cont c))
      |false=>none)
    |false=>none)
  |_,_,_=>none
 |_,_=>none
def Ky (e:TypeId) (z:List SV):aS:=
 match P.underlying e with
 |some (.array n a)=>(match decide (8<n)with
  |true=>(match P.underlying a with|some (.int k)=>(match vo k z with|some xs=> .cont (.ints k xs)|none=> .cells z)|_=> .cells z)
  |false=> .cells z)
 |_=> .cells z
def Je:Operand->Operand->Bool
 | .tmp a,.tmp b=>a==b
 | .const (.int k a),.const (.int k' b)=>k==k'&&a==b
 |_,_=>false
def bd {α β:Type} (v:α) (f:α->β):β:=f v
inductive Is : Type 1 where
 |now (v:SV) (S:aj)
 |bind (B:Type) (b:B) (out:B->SV × aj)
def Is.val:Is->SV
 | .now v _=>v
 | .bind _ b out=>(out b).1
def Is.hp:Is->aj
 | .now _ S=>S
 | .bind _ b out=>(out b).2
abbrev tz:=FuncId->List SV->aj->Option (Bool × Is)
abbrev tV (R:Type):=FuncId->List SV->aj->(SV->aj->Option R)->Option R
variable (T : tz) (cx : tV R)
def opS (ρ:Operand->Option SV) (o:Oper) (S:aj) (k:SV->aj->Option R):Option R:=
 match o.op with
 | .move x=>(match ρ x with|some v=>k v S|none=>none)
 | .assign x=>(match ρ x with|some v=>k v S|none=>none)
 | .pick c a b=>
  (match ρ c with
   |some (.b t)=>(match t with|true=>(match ρ a with|some v=>k v S|none=>none)|false=>(match ρ b with|some v=>k v S|none=>none))
   |_=>none)
 | .alloc e=>(match ev P e with|some z=>k (.ptr S.size 0 0 0) (S.push (Ky P e z))|none=>none)
 | .box _ x=>(match (ρ x).bind dE with|some cs=>k (.ptr S.size 0 0 0) (S.push (.cells cs))|none=>none)
 | .build t ps=>(match vP ρ ps.toList with|some l=>(match J1 P t l with|some v=>k v S|none=>none)|none=>none)
 | .buildSlice t n ps=>(match vP ρ ps.toList with|some l=>qw P S t n l k|none=>none)
 | .load t a=>(match ρ a with|some p=>xv P S t p fun v=>k v S|none=>none)
 | .store t a x=>(match ρ a,ρ x with|some p,some v=>JH P S t p v fun S'=>k (.tup []) S'|_,_=>none)
 | .nilCheck x=>
  (match ρ x with
   |some (.ptr id row w col)=>k (.ptr id row w col) S
   |some (.dp c row col)=>k (.dp c row col) S
   |some (.np id w col n)=>(match decide (0<=n)with|true=>k (.ptr id (match w with|0=>0|_+1=>n.toNat) w col) S|false=>none)
   |some (.fn g x y)=>k (.fn g x y) S
   |_=>none)
 | .binOp op t x y _=>(match ρ x,ρ y with|some a,some b=>Yg P op t a b fun v=>k v S|_,_=>none)
 | .unOp op _ x=>(match (ρ x).bind (unS op)with|some v=>k v S|none=>none)
 | .convert s d x=>(match (ρ x).bind (RX P s d)with|some v=>k v S|none=>none)
 | .makeFunc fn a b=>
  (match fn,Ae ρ a.toList,Ae ρ b.toList with
   | .func f,some x,some y=>k (.fn f x y) S
   |_,_,_=>none)
 | .makeSlice t l c=>(match Je l c,ρ l with|true,some a=>OC P S t a k|_,_=>none)
 | .slice t x lo hi mx=>
  (match mx with
   |none=>(match ρ x,Nu ρ lo,Nu ρ hi with|some v,some l,some h=>IQ P S t v l h fun v=>k v S|_,_,_=>none)
   |some m=>
    (match hi with
     |some h=>(match ρ x,Nu ρ lo,ρ h,ρ m with|some v,some l,some h,some m=>DH P S t v l h m fun v=>k v S|_,_,_,_=>none)
     |none=>none))
 | .fieldAddr s x f=>(match (ρ x).bind (sA P s · f)with|some v=>k v S|none=>none)
 | .field s x f=>(match (ρ x).bind (KF P s · f)with|some v=>k v S|none=>none)
 | .indexAddr t x i=>(match ρ x,ρ i with|some v,some j=>rK P S t v j fun v=>k v S|_,_=>none)
 | .index t x i=>(match ρ x,ρ i with|some v,some j=>Ix P t v j fun v=>k v S|_,_=>none)
 | .extract x i=>(match ρ x with|some (.tup l)=>(match l[i]? with|some v=>k v S|none=>none)|_=>none)
 | .call c=>
  (match Ae ρ c.args.toList with
   |some args=>
    (match c.callee with
     | .builtin b=>zq P S b c.argTypes.toList args k
     | .value f=>
      (match ρ f with
       |some (.fn g x y)=>
        (match T g (x++args++y) S with
         |some (cnd,a)=>(match cnd with|true=>(match a with| .now v S'=>k v S'| .bind _ b out=>bd b fun u=>k (out u).1 (out u).2)|false=>none)
         |none=>cx g (x++args++y) S k)
       |_=>none)
     | .invoke .. =>none)
   |none=>none)
 |_=>none
end
end
end
end Go.Proofs.YtfaojedfnjdnnaaGreat.Ev
namespace Go.Proofs.YtfaojedfnjdnnaaGreat.Ev
noncomputable section
noncomputable section
open Go
theorem STr.fS (b:Option aS):∀(f:Nat) (t:STr) (k j:Nat),k<f->(STr.put b f t k).get j=if j=k then b else t.get j:=by
 intro f
 induction f with
 |zero=>intro t k j h;omega
 |succ f ih=>
  intro t k j h;have tl:∀m,t.left.get m=(match t with| .e=>none| .n _ l _=>l.get m):=by intro m;cases t<;>rfl
  have tr:∀m,t.right.get m=(match t with| .e=>none| .n _ _ r=>r.get m):=by intro m;cases t<;>rfl
  simp only[STr.put]
  by_cases h0:k=0
  . subst h0;simp only[zbh,STr.get]
    by_cases hj:j=0
    . simp[hj]
    . simp only[hj,zbp,tl,tr];cases t<;>simp[STr.get,hj]
  . simp only[h0,zbp]
    by_cases h1:k%2=1
    . simp only[h1,zbh,STr.get]
      by_cases hj:j=0
      . subst hj;simp only[zbh];rw[if_neg (by omega)];cases t<;>simp[STr.get,STr.val]
      . simp only[hj,zbp]
        by_cases hj1:j%2=1
        . simp only[hj1,zbh];rw[ih _ _ _ (by omega)]
          by_cases e:j=k
          . subst e;simp
          . rw[if_neg (by omega),if_neg e,tl];cases t<;>simp[STr.get,hj,hj1]
        . simp only[hj1,zbp,tr];rw[if_neg (by omega)];cases t<;>simp[STr.get,hj,hj1]
    . simp only[h1,zbp,STr.get]
      by_cases hj:j=0
      . subst hj;simp only[zbh];rw[if_neg (by omega)];cases t<;>simp[STr.get,STr.val]
      . simp only[hj,zbp]
        by_cases hj1:j%2=1
        . simp only[hj1,zbh,tl];rw[if_neg (by omega)];cases t<;>simp[STr.get,hj,hj1]
        . simp only[hj1,zbp];rw[ih _ _ _ (by omega)]
          by_cases e:j=k
          . subst e;simp
          . rw[if_neg (by omega),if_neg e,tr];cases t<;>simp[STr.get,hj,hj1]
theorem aj.bW (S:aj) (b:aS) (k:Nat):(S.push b).root.get k=if k=S.size then some b else S.root.get k:=
 STr.fS _ _ _ _ _ (Nat.lt_succ_self _)
theorem aj.cT (S:aj) (j:Nat) (b:Option aS) (k:Nat):(S.put j b).root.get k=if k=j then b else S.root.get k:=
 STr.fS _ _ _ _ _ (Nat.lt_succ_self _)
theorem aj.ba {S:aj} {k:Nat} {b:aS} (h:S.get k=some b):k<S.size:=by
 unfold aj.get at h
 split at h
 . assumption
 . cases h
theorem aj.aM {S:aj} {k:Nat} {b:aS} (h:S.get k=some b):S.root.get k=some b/\hidden S.hid k=false:=by
 unfold aj.get at h
 split at h
 . split at h
   . cases h
   . rename_i hh;exact⟨h,by cases hx:hidden S.hid k<;>simp_all⟩
 . cases h
theorem aj.fN {S:aj} {k:Nat} (h1:k<S.size) (h2:hidden S.hid k=false):S.get k=S.root.get k:=by
 unfold aj.get;rw[if_pos h1,h2];rfl
theorem aj.fS (S:aj) (j k:Nat) (b:Option aS) {c:aS} (h:(S.put j b).get k=some c):(k=j/\b=some c)\/(k≠j/\S.get k=some c):=by
 have h1:=aj.ba h;have h2:=aj.aM h;rw[aj.cT]at h2
 by_cases e:k=j
 . rw[if_pos e]at h2;exact .inl ⟨e,h2.1⟩
 . rw[if_neg e]at h2;exact .inr ⟨e,(aj.fN (S:=S) h1 h2.2).trans h2.1⟩
theorem aj.QL (S:aj) (b:aS) (k:Nat) {c:aS} (h:(S.push b).get k=some c):(k=S.size/\b=c)\/(k<S.size/\S.get k=some c):=by
 have h1:=aj.ba h;have h2:=aj.aM h;rw[aj.bW]at h2
 by_cases e:k=S.size
 . rw[if_pos e]at h2;exact .inl ⟨e,zbL h2.1⟩
 . rw[if_neg e]at h2;have h3:k<S.size:=by have:(S.push b).size=S.size+1:=rfl;omega
   exact .inr ⟨h3,(aj.fN (S:=S) h3 h2.2).trans h2.1⟩
structure Phi where
 m:Nat->Option (Option Nat)
 ban:Nat->Prop
instance : CoeFun Phi (fun _ => Nat -> Option (Option Nat)) := ⟨Phi.m⟩
def Phi.add (φ:Phi) (n:Nat) (y:Option Nat):Phi:=⟨fun j=>if j=n then some y else φ j,φ.ban⟩
inductive DV (φ : Phi) (H : ag) (own : Nat -> Prop) : SV -> Value -> Prop where
 |any (v:Value):DV φ H own .any v
 |i (k:IntKind) (n:Int):DV φ H own (.i k n) (.int k n)
 |b (x:Bool):DV φ H own (.b x) (.bool x)
 |str (s:ByteArray):DV φ H own (.str s) (.string s)
 |jy:DV φ H own .jy (.pointer none)
 |eM:DV φ H own .eM (.slice none 0 0)
 |nP:DV φ H own .nP .nilFunc
 |AX:DV φ H own .AX .nilIface
 |ptr (id row w col x:Nat) (h:φ id=some (some x)):DV φ H own (.ptr id row w col) (.pointer (some ⟨x,row*w+col,none⟩))
 |buf (id w:Nat) (ex:Bool) (x n:Nat) (sp:Option Nat) (h:φ id=some (some x)) (hn:∀c,H.root.get x=some c->c.cells.length=n*w)
  (hs:sp=none\/(ex=false/\sp=some w/\0<n)):DV φ H own (.buf id w ex) (.slice (some ⟨x,0,sp⟩) n n)
 |eh (id w:Nat) (h:φ id=some none):DV φ H own (.buf id w false) (.slice none 0 0)
 |sl (id off len w:Nat) (pre:Bool) (x o:Nat) (sp:Option Nat) (cap:Nat) (h:φ id=some (some x)) (ho:len=0\/o=off*w) (hs:sp=none\/sp=some w) (hc:len<=cap)
  (hin:∀c,H.root.get x=some c->o+len*w<=c.cells.length/\off*w+len*w<=c.cells.length) (hp:pre=true->o=0/\∀c,H.root.get x=some c->c.cells.length=cap*w):
  DV φ H own (.sl id off len w pre) (.slice (some ⟨x,o,sp⟩) len cap)
 |du (id w:Nat) (pre:Bool) (h:φ id=some none):DV φ H own (.sl id 0 0 w pre) (.slice none 0 0)
 |dq (c:aE) (h:c.len=0):DV φ H own (.deep c) (.slice none 0 0)
 |deep (c:aE) (x o:Nat) (sp:Option Nat) (cap:Nat) (blk:Blk) (hs:sp=none\/sp=some c.w) (hc:c.len<=cap)
  (hb:H.get x=some blk) (ho:¬own x) (hl:o+c.len*c.w<=blk.cells.length)
  (sE:∀r,r<c.len->∀(j:Nat) (s:SV),(c.row r)[j]? =some s->∀v,blk.cells[o+r*c.w+j]? =some v->DV φ H own s v):
  DV φ H own (.deep c) (.slice (some ⟨x,o,sp⟩) c.len cap)
 |dp (c:aE) (row col x o:Nat) (blk:Blk) (hb:H.get x=some blk) (ho:¬own x) (hl:o+c.len*c.w<=blk.cells.length)
  (sE:∀r,r<c.len->∀(j:Nat) (s:SV),(c.row r)[j]? =some s->∀v,blk.cells[o+r*c.w+j]? =some v->DV φ H own s v):
  DV φ H own (.dp c row col) (.pointer (some ⟨x,o+row*c.w+col,none⟩))
 |kU (id w col:Nat) (n:Int) (hn:n<0):DV φ H own (.np id w col n) (.pointer none)
 |np (id w col x:Nat) (n:Int) (hn:0<=n) (h:φ id=some (some x)):DV φ H own (.np id w col n) (.pointer (some ⟨x,n.toNat*w+col,none⟩))
 |fn (g:Nat) (x y:List SV) (x' y':Array Value) (hx:x.length=x'.size) (hy:y.length=y'.size)
  (vx:∀(i:Nat) s v,x[i]? =some s->x'[i]? =some v->DV φ H own s v) (vy:∀(i:Nat) s v,y[i]? =some s->y'[i]? =some v->DV φ H own s v):
  DV φ H own (.fn g x y) (.func (.func g) x' y')
 |agg (l:List SV) (x':Array Value) (hx:l.length=x'.size) (vx:∀(i:Nat) s v,l[i]? =some s->x'[i]? =some v->DV φ H own s v):DV φ H own (.agg l) (.agg x')
 |tup (l:List SV) (x':Array Value) (hx:l.length=x'.size) (vx:∀(i:Nat) s v,l[i]? =some s->x'[i]? =some v->DV φ H own s v):DV φ H own (.tup l) (.tuple x')
structure Ext (φ : Phi) (H : ag) (own : Nat -> Prop) (φ' : Phi) (H' : ag) (own' : Nat -> Prop) : Prop where
 le:∀id y,φ id=some y->φ' id=some y
 deep:∀x c,H.get x=some c->¬own x->H'.get x=some c/\¬own' x
 len:∀id x c',φ id=some (some x)->H'.root.get x=some c'->∃c,H.root.get x=some c/\c'.cells.length=c.cells.length
theorem Ext.refl (φ:Phi) (H:ag) (own:Nat->Prop):Ext φ H own φ H own:=⟨fun _ _ h=>h,fun _ _ h h'=>⟨h,h'⟩,fun _ _ c _ h=>⟨c,h,rfl⟩⟩
theorem Ext.trans {φ φ' φ'':Phi} {H H' H'':ag} {o o' o'':Nat->Prop} (a:Ext φ H o φ' H' o') (b:Ext φ' H' o' φ'' H'' o''):Ext φ H o φ'' H'' o'' where
 le id y h:=b.le _ _ (a.le _ _ h)
 deep x c h h':=by
  obtain⟨h1,h2⟩:=a.deep x c h h';exact b.deep x c h1 h2
 len id x c' h1 h2:=by
  obtain⟨c1,h3,h4⟩:=b.len id x c' (a.le _ _ h1) h2;obtain⟨c2,h5,h6⟩:=a.len id x c1 h1 h3;exact⟨c2,h5,h4.trans h6⟩
theorem DV.mono {φ φ':Phi} {H H':ag} {own own':Nat->Prop} (e:Ext φ H own φ' H' own') {s:SV} {v:Value} (h:DV φ H own s v):DV φ' H' own' s v:=by
 induction h with
 |any v=>exact .any v
 |i k n=>exact .i k n
 |b x=>exact .b x
 |str s=>exact .str s
 |jy=>exact .jy
 |eM=>exact .eM
 |nP=>exact .nP
 |AX=>exact .AX
 |ptr id row w col x h=>exact .ptr id row w col x (e.le _ _ h)
 |buf id w ex x n sp h hn hs=>
  refine .buf id w ex x n sp (e.le _ _ h) (fun c' hc'=> ?_) hs;obtain⟨c,h1,h2⟩:=e.len id x c' h hc';rw[h2];exact hn c h1
 |eh id w h=>exact .eh id w (e.le _ _ h)
 |sl id off len w pre x o sp cap h ho hs hc hin hp=>
  refine .sl id off len w pre x o sp cap (e.le _ _ h) ho hs hc (fun c' hc'=> ?_) (fun h0=>⟨(hp h0).1,fun c' hc'=> ?_⟩)
  . obtain⟨c,h1,h2⟩:=e.len id x c' h hc';rw[h2];exact hin c h1
  . obtain⟨c,h1,h2⟩:=e.len id x c' h hc';rw[h2];exact(hp h0).2 c h1
 |du id w pre h=>exact .du id w pre (e.le _ _ h)
 |dq c h=>exact .dq c h
 |deep c x o sp cap blk hs hc hb ho hl _ ih=>
  obtain⟨h4,h5⟩:=e.deep x blk hb ho;exact .deep c x o sp cap blk hs hc h4 h5 hl ih
 |dp c row col x o blk hb ho hl _ ih=>
  obtain⟨h4,h5⟩:=e.deep x blk hb ho;exact .dp c row col x o blk h4 h5 hl ih
 |kU id w col n hn=>exact .kU id w col n hn
 |np id w col x n hn h=>exact .np id w col x n hn (e.le _ _ h)
 |fn g x y x' y' hx hy _ _ ix iy=>exact .fn g x y x' y' hx hy ix iy
 |agg l x' hx _ ix=>exact .agg l x' hx ix
 |tup l x' hx _ ix=>exact .tup l x' hx ix
def DVL (φ:Phi) (H:ag) (own:Nat->Prop) (l:List SV) (vs:List Value):Prop:=
 l.length=vs.length/\∀(i:Nat) s v,l[i]? =some s->vs[i]? =some v->DV φ H own s v
section
variable {φ φ' : Phi} {H H' : ag} {own own' : Nat -> Prop}
theorem DVL.nil:DVL φ H own [] []:=⟨rfl,fun i s v h=>by simp at h⟩
theorem DVL.cons {s:SV} {v:Value} {l:List SV} {vs:List Value} (h:DV φ H own s v) (t:DVL φ H own l vs):DVL φ H own (s::l) (v::vs):=
 ⟨by simp[t.1],fun i=>by
  cases i with
  |zero=>intro u u' h1 h2;simp at h1 h2;subst h1;subst h2;exact h
  |succ i=>intro u u' h1 h2;simp at h1 h2;exact t.2 i u u' h1 h2⟩
theorem DVL.gG {s:SV} {l:List SV} {vs:List Value} (h:DVL φ H own (s::l) vs):∃v vs',vs=v::vs'/\DV φ H own s v/\DVL φ H own l vs':=by
 cases vs with
 |nil=>have:=h.1;simp at this
 |cons v vs'=>
  exact⟨v,vs',rfl,h.2 0 s v (by simp) (by simp),by have:=h.1;simpa using this,fun i u u' a b=>h.2 (i+1) u u' (by simpa using a) (by simpa using b)⟩
theorem DVL.mono (e:Ext φ H own φ' H' own') {l:List SV} {vs:List Value} (h:DVL φ H own l vs):DVL φ' H' own' l vs:=
 ⟨h.1,fun i s v a b=>(h.2 i s v a b).mono e⟩
theorem DVL.append {a c:List SV} {b d:List Value} (h:DVL φ H own a b) (k:DVL φ H own c d):DVL φ H own (a++c) (b++d):=by
 refine⟨by simp[h.1,k.1],fun i v v' h1 h2=> ?_⟩;rw[zaV]at h1 h2;rw[h.1]at h1
 split at h1
 . rename_i hi;rw[if_pos hi]at h2;exact h.2 i v v' h1 h2
 . rename_i hi;rw[if_neg hi]at h2;exact k.2 _ v v' h1 h2
theorem DVL.take {l:List SV} {vs:List Value} (h:DVL φ H own l vs) (n:Nat):DVL φ H own (l.take n) (vs.take n):=by
 refine⟨by simp[h.1],fun i v v' h1 h2=> ?_⟩;rw[zav]at h1 h2
 split at h1
 . rename_i hi;rw[if_pos hi]at h2;exact h.2 i v v' h1 h2
 . cases h1
theorem DVL.drop {l:List SV} {vs:List Value} (h:DVL φ H own l vs) (n:Nat):DVL φ H own (l.drop n) (vs.drop n):=by
 refine⟨by simp[h.1],fun i v v' h1 h2=> ?_⟩;rw[zaA]at h1 h2;exact h.2 _ v v' h1 h2
theorem DVL.get {l:List SV} {vs:List Value} (h:DVL φ H own l vs) {i:Nat} {s:SV} (hi:l[i]? =some s):∃v,vs[i]? =some v/\DV φ H own s v:=by
 have hlt:i<vs.length:=by rw[<-h.1];exact(zao.1 hi).1
 exact⟨vs[i],zah hlt,h.2 i _ _ hi (zah hlt)⟩
theorem DVL.set {l:List SV} {vs:List Value} (h:DVL φ H own l vs) (i:Nat) {s:SV} {v:Value} (hv:DV φ H own s v):DVL φ H own (l.set i s) (vs.set i v):=by
 refine⟨by simp[h.1],fun j u u' h1 h2=> ?_⟩;rw[zbo]at h1 h2;rw[h.1]at h1
 split at h1
 . rename_i e;rw[if_pos e]at h2
   split at h1
   . rename_i hl;rw[if_pos hl]at h2;simp at h1 h2;subst h1;subst h2;exact hv
   . cases h1
 . rename_i e;rw[if_neg e]at h2;exact h.2 j u u' h1 h2
def BV (φ:Phi) (H:ag) (own:Nat->Prop):aS->List Value->Prop
 | .cells l,cs=>DVL φ H own l cs
 | .cont c,cs=>cs.length=c.len*c.w/\∀r,r<c.len->∀(j:Nat) (s:SV),(c.row r)[j]? =some s->∀v,cs[r*c.w+j]? =some v->DV φ H own s v
 | .fh id w col rows,cs=>cs.length=rows.length/\∀(r:Nat) v,r<rows.length->cs[r]? =some v->DV φ H own (.np id w col (rows.getD r 0)) v
theorem BV.mono (e:Ext φ H own φ' H' own') {B:aS} {cs:List Value} (h:BV φ H own B cs):BV φ' H' own' B cs:=by
 cases B with
 |cells l=>exact DVL.mono e h
 |cont c=>exact⟨h.1,fun r hr j s hs v hv=>(h.2 r hr j s hs v hv).mono e⟩
 |fh id w col rows=>exact⟨h.1,fun r v hr hv=>(h.2 r v hr hv).mono e⟩
def aS.empty:aS->Prop
 | .cells _=>True
 | .cont c=>c.len=0
 | .fh _ _ _ rows=>rows.length=0
def fE (φ:Phi) (S:aj) (x:Nat):Prop:=∃id B,S.get id=some B/\φ id=some (some x)
def Own (φ:Phi) (S:aj) (x:Nat):Prop:=φ.ban x\/fE φ S x
def pJ (φ:Phi) (S:aj) (x:Nat):Prop:=∃id B,S.lock<=id/\S.get id=some B/\φ id=some (some x)
theorem pJ.toI {φ:Phi} {S:aj} {x:Nat} (h:pJ φ S x):fE φ S x:=by
 obtain⟨id,B,_,h1,h2⟩:=h;exact⟨id,B,h1,h2⟩
structure Sim (φ : Phi) (S : aj) (H : ag) : Prop where
 blk:∀id B,S.get id=some B->(φ id=some none/\B.empty)\/∃x c,φ id=some (some x)/\H.get x=some c/\(S.lock<=id->H.lock<=x)/\BV φ H (Own φ S) B c.cells
 inj:∀id id' B B' x,S.get id=some B->S.get id'=some B'->φ id=some (some x)->φ id'=some (some x)->id=id'
 fresh:∀id,S.size<=id->φ id=none
 lt:∀id x,φ id=some (some x)->x<H.size
 jl:S.lock<=S.size
 dT:H.lock<=H.size
 gW:∀x,H.size<=x->hidden H.hid x=false
structure Step (φ : Phi) (S : aj) (H : ag) (φ' : Phi) (S' : aj) (H' : ag) : Prop where
 sim:Sim φ' S' H'
 le:∀id y,φ id=some y->φ' id=some y
 ban:φ'.ban=φ.ban
 own:∀x,x<H.size->fE φ' S' x->fE φ S x
 fw:∀x,x<H.size->¬pJ φ S x->H'.get x=H.get x
 len:∀x c',x<H.size->H'.root.get x=some c'->∃c,H.root.get x=some c/\c'.cells.length=c.cells.length
 ft:H.size<=H'.size
 dT:H'.lock=H.lock
 gW:H'.hid=H.hid
 ssize:S.size<=S'.size
 jl:S'.lock=S.lock
 zX:S'.hid=S.hid
 pd:∀id,id<S.size->id<S.lock\/S.get id=none->S'.root.get id=S.root.get id
theorem Step.ext {S S':aj} (hS:Sim φ S H) (h:Step φ S H φ' S' H'):Ext φ H (Own φ S) φ' H' (Own φ' S') where
 le:=h.le
 deep x c h1 h2:=by
  have hlt:=ag.ba h1;refine⟨by rw[h.fw x hlt (fun ho=>h2 (.inr ho.toI))];exact h1,fun ho=>h2 ?_⟩;rcases ho with ho|ho
  . exact .inl (by rw[<-h.ban];exact ho)
  . exact .inr (h.own x hlt ho)
 len id x c' h1 h2:=h.len x c' (hS.lt id x h1) h2
theorem Step.refl {S:aj} (h:Sim φ S H):Step φ S H φ S H:=
 ⟨h,fun _ _ h=>h,rfl,fun _ _ h=>h,fun _ _ _=>rfl,fun _ c _ h=>⟨c,h,rfl⟩,zap _,rfl,rfl,zap _,rfl,rfl,fun _ _ _=>rfl⟩
theorem aj.EC {S S':aj} {id:Nat} (h1:S.get id=none) (hl:id<S.size) (hh:S'.hid=S.hid) (hr:S'.root.get id=S.root.get id):S'.get id=none:=by
 cases h:S'.get id with
 |none=>rfl
 |some B=>
  obtain⟨h2,h3⟩:=aj.aM h;rw[aj.fN hl (by rw[<-hh];exact h3),<-hr,h2]at h1;cases h1
theorem Step.FH {S S':aj} (a:Step φ S H φ' S' H') {x:Nat} (hx:x<H.size) (h:pJ φ' S' x):pJ φ S x:=by
 obtain⟨id,B,h1,h2,h3⟩:=h;obtain⟨id',C,g1,g2⟩:=a.own x hx ⟨id,B,h2,h3⟩;refine⟨id',C, ?_,g1,g2⟩;rcases zci id' S.lock with hl|hl
 . exfalso;have hs:=aj.ba g1;have hr:=aj.aM g1;have hg:S'.get id'=some C:=by
    rw[aj.fN (zaD hs a.ssize) (by rw[a.zX];exact hr.2),a.pd id' hs (.inl hl)];exact hr.1
   have:=a.sim.inj id id' B C x h2 hg h3 (a.le _ _ g2);subst this;rw[a.jl]at h1;omega
 . exact hl
theorem Step.trans {φ'':Phi} {S S' S'':aj} {H'':ag} (a:Step φ S H φ' S' H') (b:Step φ' S' H' φ'' S'' H''):Step φ S H φ'' S'' H'' where
 sim:=b.sim
 le id y h:=b.le _ _ (a.le _ _ h)
 ban:=b.ban.trans a.ban
 own x h1 h2:=a.own x h1 (b.own x (zaD h1 a.ft) h2)
 fw x h1 h2:=(b.fw x (zaD h1 a.ft) (fun h=>h2 (a.FH h1 h))).trans (a.fw x h1 h2)
 len x c' h1 h2:=by
  obtain⟨c1,h3,h4⟩:=b.len x c' (zaD h1 a.ft) h2;obtain⟨c2,h5,h6⟩:=a.len x c1 h1 h3;exact⟨c2,h5,h4.trans h6⟩
 ft:=zaP a.ft b.ft
 dT:=b.dT.trans a.dT
 gW:=b.gW.trans a.gW
 ssize:=zaP a.ssize b.ssize
 jl:=b.jl.trans a.jl
 zX:=b.zX.trans a.zX
 pd id h1 h2:=by
  have e:=a.pd id h1 h2;refine(b.pd id (zaD h1 a.ssize) ?_).trans e;rcases h2 with h2|h2
  . exact .inl (by rw[a.jl];exact h2)
  . exact .inr (aj.EC h2 h1 a.zX e)
theorem Step.aaz {S:aj} (hS:Sim φ S H) {id x:Nat} {B B':aS} {c:Blk} {cs':List Value} {H':ag} (hB:S.get id=some B) (hx:φ id=some (some x)) (hc:H.get x=some c) (hl:S.lock<=id)
 (hlen:cs'.length=c.cells.length) (hV:BV φ H (Own φ S) B' cs') (iU:∀y,H'.get y=if y=x then some ⟨cs'⟩else H.get y) (ua:∀y,H'.root.get y=if y=x then some ⟨cs'⟩else H.root.get y) (hsz:H'.size=H.size) (hlk:H'.lock=H.lock) (hhd:H'.hid=H.hid):Step φ S H φ (S.put id (some B')) H':=by
 have lA:∀y,fE φ (S.put id (some B')) y↔fE φ S y:=by
  intro y;constructor
  . rintro⟨j,C,h1,h2⟩
    rcases aj.fS _ _ _ _ h1 with⟨rfl,_⟩|⟨_,h3⟩
    . exact⟨j,B,hB,h2⟩
    . exact⟨j,C,h3,h2⟩
  . rintro⟨j,C,h1,h2⟩
    have h3:=aj.ba h1;have h4:=aj.aM h1
    by_cases e:j=id
    . refine⟨j,B', ?_,h2⟩;rw[aj.fN (S:=S.put id (some B')) h3 h4.2,aj.cT,if_pos e]
    . refine⟨j,C, ?_,h2⟩;rw[aj.fN (S:=S.put id (some B')) h3 h4.2,aj.cT,if_neg e,h4.1]
 have hOx:fE φ S x:=⟨id,B,hB,hx⟩
 have fW:Ext φ H (Own φ S) φ H' (Own φ (S.put id (some B'))):=by
  refine⟨fun _ _ h=>h,fun y d h1 h2=> ?_,fun j y d h1 h2=> ?_⟩
  . have e:y≠x:=fun e=>h2 (.inr (e▸hOx))
    exact⟨by rw[iU,if_neg e];exact h1,fun h=>h2 (h.imp _root_.id (lA y).1)⟩
  . rw[ua]at h2
    split at h2
    . rename_i e;cases h2;subst e;exact⟨c,(ag.aM hc).1,hlen⟩
    . exact⟨d,h2,rfl⟩
 refine⟨⟨?_, ?_,hS.fresh,fun j y h=>by rw[hsz];exact hS.lt j y h,hS.jl,by rw[hlk,hsz];exact hS.dT,fun y hy=>by rw[hhd];exact hS.gW y (by rw[<-hsz];exact hy)⟩,fun _ _ h=>h,rfl,fun y _ h=>(lA y).1 h, ?_, ?_,by rw[hsz];exact zap _,hlk,hhd,zap _,rfl,rfl, ?_⟩
 . intro j C h1;rcases aj.fS _ _ _ _ h1 with⟨rfl,h2⟩|⟨hne,h2⟩
   . cases h2;refine .inr ⟨x,⟨cs'⟩,hx,by rw[iU,if_pos rfl],fun _=> ?_,hV.mono fW⟩;rw[hlk];rcases hS.blk _ _ hB with⟨h3,_⟩|⟨y,d,h3,h4,h5,_⟩
     . rw[hx]at h3;cases h3
     . rw[hx]at h3;cases h3;exact h5 hl
   . rcases hS.blk _ _ h2 with h3|⟨y,d,h3,h4,h5,h6⟩
     . exact .inl h3
     . have e:y≠x:=by
        rintro rfl
        exact hne (hS.inj j id _ _ y h2 hB h3 hx)
       exact .inr ⟨y,d,h3,by rw[iU,if_neg e];exact h4,by rw[hlk];exact h5,h6.mono fW⟩
 . intro j j' C C' y h1 h2 h3 h4;have g1:∃D,S.get j=some D:=by
    rcases aj.fS _ _ _ _ h1 with⟨rfl,_⟩|⟨_,h⟩
    . exact⟨_,hB⟩
    . exact⟨_,h⟩
   have g2:∃D,S.get j'=some D:=by
    rcases aj.fS _ _ _ _ h2 with⟨rfl,_⟩|⟨_,h⟩
    . exact⟨_,hB⟩
    . exact⟨_,h⟩
   obtain⟨D,g1⟩:=g1;obtain⟨D',g2⟩:=g2;exact hS.inj j j' D D' y g1 g2 h3 h4
 . intro y _ h;have e:y≠x:=by rintro rfl;exact h ⟨id,B,hl,hB,hx⟩
   rw[iU,if_neg e]
 . intro y d _ h;rw[ua]at h
   split at h
   . rename_i e;cases h;subst e;exact⟨c,(ag.aM hc).1,hlen⟩
   . exact⟨d,h,rfl⟩
 . intro j _ h2;have e:j≠id:=by
    rintro rfl
    rcases h2 with h2|h2
    . omega
    . rw[hB]at h2;cases h2
   rw[aj.cT,if_neg e]
theorem Step.put {S:aj} (hS:Sim φ S H) {id x:Nat} {B B':aS} {c:Blk} {cs':List Value} (hB:S.get id=some B) (hx:φ id=some (some x)) (hc:H.get x=some c) (hl:S.lock<=id)
 (hlen:cs'.length=c.cells.length) (hV:BV φ H (Own φ S) B' cs'):Step φ S H φ (S.put id (some B')) (H.put x (some ⟨cs'⟩)):=by
 refine Step.aaz hS hB hx hc hl hlen hV (fun y=> ?_) (fun y=>ag.cT _ _ _ _) rfl rfl rfl
 by_cases e:y=x
 . rw[if_pos e,e,ag.jb _ _ _ hc]
 . rw[if_neg e,ag.ga _ _ _ _ e]
theorem Step.see {S:aj} (hS:Sim φ S H) {id x:Nat} {B B':aS} {c:Blk} (hB:S.get id=some B) (hx:φ id=some (some x)) (hc:H.get x=some c) (hl:S.lock<=id)
 (hV:BV φ H (Own φ S) B' c.cells):Step φ S H φ (S.put id (some B')) H:=by
 refine Step.aaz hS hB hx hc hl rfl hV (fun y=> ?_) (fun y=> ?_) rfl rfl rfl
 . split
   . rename_i e;rw[e];exact hc
   . rfl
 . split
   . rename_i e;rw[e];exact(ag.aM hc).1
   . rfl
theorem Step.drop {S:aj} (hS:Sim φ S H) {id:Nat} {B:aS} (hB:S.get id=some B) (hl:S.lock<=id):Step φ S H φ (S.put id none) H:=by
 have jv:∀j C,(S.put id none).get j=some C->S.get j=some C:=by
  intro j C h;rcases aj.fS _ _ _ _ h with⟨_,h2⟩|⟨_,h2⟩
  . cases h2
  . exact h2
 have lA:∀y,fE φ (S.put id none) y->fE φ S y:=fun y ⟨j,C,h1,h2⟩=>⟨j,C,jv _ _ h1,h2⟩
 have fW:Ext φ H (Own φ S) φ H (Own φ (S.put id none)):=⟨fun _ _ h=>h,fun y d h1 h2=>⟨h1,fun h=>h2 (h.imp _root_.id (lA y))⟩,fun j y d h1 h2=>⟨d,h2,rfl⟩⟩
 refine⟨⟨?_, ?_,hS.fresh,hS.lt,hS.jl,hS.dT,hS.gW⟩,fun _ _ h=>h,rfl,fun y _ h=>lA y h,fun _ _ _=>rfl,fun _ d _ h=>⟨d,h,rfl⟩,zap _,rfl,rfl,zap _,rfl,rfl, ?_⟩
 . intro j C h1;rcases hS.blk _ _ (jv _ _ h1)with h3|⟨y,d,h3,h4,h5,h6⟩
   . exact .inl h3
   . exact .inr ⟨y,d,h3,h4,h5,h6.mono fW⟩
 . intro j j' C C' y h1 h2 h3 h4;exact hS.inj j j' C C' y (jv _ _ h1) (jv _ _ h2) h3 h4
 . intro j _ h2;have e:j≠id:=by
    rintro rfl
    rcases h2 with h2|h2
    . omega
    . rw[hB]at h2;cases h2
   rw[aj.cT,if_neg e]
theorem Step.gen {S S1:aj} (hS:Sim φ S H) (B:aS) (y:Option Nat) {H':ag} (jv:∀j C,S1.get j=some C->S.get j=some C) (hs1:S1.size=S.size) (hl1:S1.lock=S.lock) (hh1:S1.hid=S.hid)
 (hr1:∀j,j<S.size->j<S.lock\/S.get j=none->S1.root.get j=S.root.get j)
 (hsz:H.size<=H'.size) (hlk:H'.lock=H.lock) (BF:H'.hid=H.hid)
 (kX:∀x,x<H.size->(fE φ S1 x\/¬pJ φ S x)->H'.get x=H.get x)
 (hlen:∀x c',x<H.size->H'.root.get x=some c'->∃c,H.root.get x=some c/\c'.cells.length=c.cells.length)
 (hy:∀x,y=some x->(H.size<=x\/fE φ S x)/\¬fE φ S1 x/\x<H'.size/\H.lock<=x)
 (h0:y=none->B.empty)
 (hV:∀x,y=some x->∃c,H'.get x=some c/\(Ext φ H (Own φ S) (φ.add S.size y) H' (Own (φ.add S.size y) (S1.push B))->
  BV (φ.add S.size y) H' (Own (φ.add S.size y) (S1.push B)) B c.cells)):
 Step φ S H (φ.add S.size y) (S1.push B) H':=by
 have hbn:(φ.add S.size y).ban=φ.ban:=rfl;have hf0:(φ.add S.size y) S.size=some y:=by simp[Phi.add]
 have hne:∀j,j≠S.size->(φ.add S.size y) j=φ j:=fun j h=>by simp[Phi.add,h]
 generalize hφ':(φ.add S.size y)=φ' at*
 have hle:∀j z,φ j=some z->φ' j=some z:=by
  intro j z h
  by_cases e:j=S.size
  . subst e;rw[hS.fresh _ (zap _)]at h;cases h
  . rw[hne j e];exact h
 have Wt:(S1.push B).size=S.size+1:=by show S1.size+1=_;rw[hs1]
 have iU:∀j C,(S1.push B).get j=some C->(j=S.size/\B=C)\/(j<S.size/\S1.get j=some C):=by
  intro j C h;have:=aj.QL _ _ _ h
  rwa [hs1]at this
 have lA:∀z,fE φ' (S1.push B) z->fE φ S1 z\/y=some z:=by
  rintro z ⟨j,C,h1,h2⟩
  rcases iU _ _ h1 with⟨rfl,_⟩|⟨hlt,h3⟩
  . rw[hf0]at h2;exact .inr (zbL h2)
  . rw[hne j (by omega)]at h2;exact .inl ⟨j,C,h3,h2⟩
 have WT:∀z,fE φ S1 z->fE φ S z:=fun z ⟨j,C,h1,h2⟩=>⟨j,C,jv _ _ h1,h2⟩
 have fW:Ext φ H (Own φ S) φ' H' (Own φ' (S1.push B)):=by
  refine⟨hle,fun x d h1 h2=> ?_,fun j x d h1 h2=>hlen x d (hS.lt j x h1) h2⟩;have hlt:=ag.ba h1;refine⟨by rw[kX x hlt (.inr (fun h=>h2 (.inr h.toI)))];exact h1,fun h=> ?_⟩;rcases h with h|h
  . exact h2 (.inl (by rw[<-hbn];exact h))
  rcases lA x h with h|h
  . exact h2 (.inr (WT x h))
  . rcases(hy x h).1 with h|h
    . omega
    . exact h2 (.inr h)
 refine⟨⟨?_, ?_, ?_, ?_, ?_,by rw[hlk];exact zaP hS.dT hsz,fun x hx=>by rw[BF];exact hS.gW x (zaP hsz hx)⟩,hle,hbn, ?_,fun x h1 h2=>kX x h1 (.inr h2),hlen,hsz,hlk,BF,by omega,hl1,hh1, ?_⟩
 . intro j C h1;rcases iU _ _ h1 with⟨rfl,rfl⟩|⟨hlt,h3⟩
   . cases y with
     |none=>exact .inl ⟨hf0,h0 rfl⟩
     |some x=>
      obtain⟨c,h4,h5⟩:=hV x rfl;exact .inr ⟨x,c,hf0,h4,fun _=>by rw[hlk];exact(hy x rfl).2.2.2,h5 fW⟩
   . have h4:=jv _ _ h3;rcases hS.blk _ _ h4 with h5|⟨x,c,h5,h6,h7,h8⟩
     . exact .inl ⟨by rw[hne j (by omega)];exact h5.1,h5.2⟩
     . have SY:=hS.lt j x h5;refine .inr ⟨x,c,by rw[hne j (by omega)];exact h5,by rw[kX x SY (.inl ⟨j,C,h3,h5⟩)];exact h6,fun h=>by rw[hlk];exact h7 (by rw[<-hl1];exact h),h8.mono fW⟩
 . intro j j' C C' x h1 h2 h3 h4;rcases iU _ _ h1 with⟨rfl,_⟩|⟨hlt,g1⟩
   . rcases iU _ _ h2 with⟨rfl,_⟩|⟨SY,g2⟩
     . rfl
     . exfalso;rw[hf0]at h3;rw[hne j' (by omega)]at h4;exact(hy x (zbL h3)).2.1 ⟨j',C',g2,h4⟩
   . rcases iU _ _ h2 with⟨rfl,_⟩|⟨SY,g2⟩
     . exfalso;rw[hf0]at h4;rw[hne j (by omega)]at h3;exact(hy x (zbL h4)).2.1 ⟨j,C,g1,h3⟩
     . rw[hne j (by omega)]at h3;rw[hne j' (by omega)]at h4;exact hS.inj j j' C C' x (jv _ _ g1) (jv _ _ g2) h3 h4
 . intro j hj;rw[hne j (by omega)];exact hS.fresh j (by omega)
 . intro j x h
   by_cases e:j=S.size
   . subst e;rw[hf0]at h;exact(hy x (zbL h)).2.2.1
   . rw[hne j e]at h;have:=hS.lt j x h;omega
 . rw[show(S1.push B).lock=S1.lock from rfl,hl1,Wt];have:=hS.jl;omega
 . intro x hx h;rcases lA x h with h|h
   . exact WT x h
   . rcases(hy x h).1 with h'|h'
     . omega
     . exact h'
 . intro j h1 h2;rw[aj.bW,if_neg (by omega)];exact hr1 j h1 h2
theorem Step.push {S:aj} (hS:Sim φ S H) (B:aS) (cs:List Value) (hB:BV φ H (Own φ S) B cs):
 Step φ S H (φ.add S.size (some H.size)) (S.push B) (aG H cs):=by
 have hold:∀x,x<H.size->(aG H cs).get x=H.get x:=fun x hx=>ag.fa _ _ _ hx
 refine Step.gen hS B (some H.size) (fun _ _ h=>h) rfl rfl rfl (fun _ _ _=>rfl) (by simp[aG]) rfl rfl (fun x hx _=>hold x hx) (fun x c' hx h=>⟨c',by rw[aG,ag.bW,if_neg (by omega)]at h;exact h,rfl⟩) ?_ (fun h=>by cases h) ?_
 . intro x hx;cases hx;refine⟨.inl (zap _), ?_,by simp[aG],hS.dT⟩
   rintro⟨j,C,_,h⟩
   have:=hS.lt j _ h;omega
 . intro x hx;cases hx;refine⟨⟨cs⟩, ?_,fun e=>hB.mono e⟩;unfold ag.get;rw[if_pos (by simp[aG]),show(aG H cs).hid=H.hid from rfl,hS.gW _ (zap _)];simp[aG,ag.bW]
end
end
end
end Go.Proofs.YtfaojedfnjdnnaaGreat.Ev
namespace Go.Proofs.YtfaojedfnjdnnaaGreat.Ev
noncomputable section
noncomputable section
open Go
theorem kx:∀(l:List Sch) (c:Nat) (d:Dat),(rowFrom l c d).length=l.length
 |[],_,_=>rfl
 |s::l,c,d=>by simp[rowFrom,kx l]
theorem aE.sX (c:aE) (r:Nat):(c.row r).length=c.w:=by
 cases c with
 |ints k xs=>rfl
 |ab l xs=>exact kx _ _ _
section
variable {R : Type} {P : Program} {φ : Phi} {H : ag} {own : Nat -> Prop} {S : aj}
def Rgn (φ:Phi) (H:ag) (own:Nat->Prop) (c:aE) (cells:List Value) (o:Nat):Prop:=
 o+c.len*c.w<=cells.length/\∀r,r<c.len->∀(j:Nat) (s:SV),(c.row r)[j]? =some s->∀v,cells[o+r*c.w+j]? =some v->DV φ H own s v
theorem jP {r len w:Nat} (h:r<len):r*w+w<=len*w:=by
 have:=zaR w (Nat.succ_le_of_lt h);rw[Nat.succ_mul]at this;exact this
theorem Rgn.row {c:aE} {cells:List Value} {o:Nat} (h:Rgn φ H own c cells o) {r:Nat} (hr:r<c.len):DVL φ H own (c.row r) ((cells.drop (o+r*c.w)).take c.w):=by
 have h1:=jP (w:=c.w) hr;have h2:=h.1;refine⟨by rw[c.sX];simp;omega,fun j s v hs hv=> ?_⟩;rw[zav]at hv
 split at hv
 . rw[zaA]at hv;exact h.2 r hr j s hs v hv
 . cases hv
theorem wG {c:aE} {w row col n:Nat} {k:List SV->Option R} {r:R} (h:LC c w row col n k=some r) {cells:List Value} {o:Nat} (hr:Rgn φ H own c cells o):
 w=c.w/\0<n/\∃cs,k cs=some r/\o+row*c.w+col+n<=cells.length/\DVL φ H own cs ((cells.drop (o+row*c.w+col)).take n):=by
 unfold LC at h
 split at h
 . rename_i hc;simp only[zae,zaI,zag]at hc;obtain⟨⟨hw,S0⟩,hn⟩:=hc
   split at h
   . rename_i hrow;have hrow:=zaj hrow;refine⟨hw,hn,_,h, ?_, ?_⟩
     . have:=jP (w:=c.w) hrow;have:=hr.1;omega
     . have:=((hr.row hrow).drop col).take n;have e:(List.drop col ((cells.drop (o+row*c.w)).take c.w)).take n=(cells.drop (o+row*c.w+col)).take n:=by
        rw[List.drop_take,zcb,List.take_take,zbY (by omega)]
       rwa [e]at this
   . cases h
 . cases h
theorem BV.rgn {c:aE} {cs:List Value} (h:BV φ H own (.cont c) cs):Rgn φ H own c cs 0:=by
 obtain⟨h1,h2⟩:=h;exact⟨by omega,fun r hr j s hs v hv=>h2 r hr j s hs v (by rw[zaF]at hv;exact hv)⟩
theorem fH {x off n:Nat} {c:Blk} (h:H.get x=some c) (hl:off+n<=c.cells.length):cV H x off n=some ((c.cells.drop off).take n):=by
 unfold cV;rw[h];simp only;rw[if_pos hl]
theorem gY:(∀(a b:Sch),Bw a b=true->a=b)/\(∀(l m:List Sch),fz l m=true->l=m):=by
 have key:∀(a:Sch),(∀b,Bw a b=true->a=b):=by
  intro a
  induction a using Sch.rec (motive_2:=fun l=>∀m,fz l m=true->l=m)with
  |int k=>intro b h;cases b<;>simp[Bw]at h;rw[h]
  |bool=>intro b h;cases b<;>simp[Bw]at h;rfl
  |ints k=>intro b h;cases b<;>simp[Bw]at h;rw[h]
  |ab l ih=>intro b h;cases b<;>simp[Bw]at h;rw[ih _ h]
  |nil=>rename_i m h;cases m<;>simp[fz]at h;rfl
  |cons a l iha ihl=>
   rename_i m h;cases m with
   |nil=>simp[fz]at h
   |cons b m=>simp[fz]at h;rw[iha _ h.1,ihl _ h.2]
 refine⟨key,fun l=> ?_⟩
 induction l with
 |nil=>intro m h;cases m<;>simp[fz]at h;rfl
 |cons a l ih=>
  intro m h;cases m with
  |nil=>simp[fz]at h
  |cons b m=>simp[fz]at h;rw[key _ _ h.1,ih _ h.2]
theorem sR {a b:SV} (h:alike a b=true):(∃k n m,a= .i k n/\b= .i k m)\/(∃x y,a= .b x/\b= .b y)\/(∃k x y,a= .deep (.ints k x)/\b= .deep (.ints k y))\/(∃k x y,a= .deep (.ab k x)/\b= .deep (.ab k y)):=by
 unfold alike at h
 split at h
 . exact .inl ⟨_,_,_,rfl,by rw[eq_of_beq h]⟩
 . exact .inr (.inl ⟨_,_,rfl,rfl⟩)
 . exact .inr (.inr (.inl ⟨_,_,_,rfl,by rw[eq_of_beq h]⟩))
 . exact .inr (.inr (.inr ⟨_,_,_,rfl,by rw[gY.2 _ _ h]⟩))
 . cases h
theorem wS {a b c:SV} (h:alike a b=true) (h':alike a c=true):alike b c=true:=by
 rcases sR h with⟨k,n,m,rfl,rfl⟩|⟨x,y,rfl,rfl⟩|⟨k,x,y,rfl,rfl⟩|⟨k,x,y,rfl,rfl⟩<;>rcases sR h' with⟨_,_,_,e,rfl⟩|⟨_,_,e,rfl⟩|⟨_,_,_,e,rfl⟩|⟨_,_,_,e,rfl⟩<;>cases e<;>exact h'
theorem Nx {a b:SV} {l:List SV} {r:Nat} (h:alike a b=true) (hr:l[r]? =some b):Ju a l r=b:=by
 rcases sR h with⟨k,n,m,rfl,rfl⟩|⟨x,y,rfl,rfl⟩|⟨k,x,y,rfl,rfl⟩|⟨k,x,y,rfl,rfl⟩<;>simp[Ju,zaf,hr,SV.num,SV.flag,SV.zS,SV.rows]
theorem CV {a b:SV} {c:Bool} (h:alike a b=true):EV c b a=bif c then b else a:=by
 rcases sR h with⟨k,n,m,rfl,rfl⟩|⟨x,y,rfl,rfl⟩|⟨k,x,y,rfl,rfl⟩|⟨k,x,y,rfl,rfl⟩<;>cases c<;>simp[EV,SV.num,SV.flag,SV.zS,SV.rows]
theorem CR {l:List SV} {w col n m:Nat} (h:uY l w col n m=true):0<w/\0<m/\col+(m-1)*w+n<=l.length/\∀c j,c<n->j<m->alike (l.getD (col+c) .any) (l.getD (col+c+j*w) .any)=true:=by
 simp only[uY,Pe,Ma,zae,zag,zam,zbC,za7,forall_exists_index,and_imp,forall_apply_eq_imp_iff₂]at h;exact⟨h.1,h.2.1,h.2.2.1,fun c j hc hj=>h.2.2.2 c hc j hj⟩
theorem QZ {m w row:Nat} (h:row<m):row*w<=(m-1)*w:=zaR w (by omega)
theorem wF {l:List SV} {row w col n:Nat} {k:List SV->Option R} {r:R} (h:LW l row w col n k=some r):row*w+col+n<=l.length/\k ((l.drop (row*w+col)).take n)=some r:=by
 unfold LW at h;generalize sW l w col n l.length 0=m at h
 split at h
 . rename_i ho;obtain⟨hw,hm,hl,ha⟩:=CR ho
   split at h
   . rename_i hr;have hr:=zaj hr;have h1:=QZ (w:=w) hr;refine⟨by omega, ?_⟩;rw[<-h]
     congr 1
     refine zby fun c=> ?_
     by_cases hc:c<n
     . have h2:row*w+col+c<l.length:=by omega
       have h3:∀i,i<l.length->l.getD i .any=l[i]?.getD .any:=fun i _=>zaf ..
       have h4:l[row*w+col+c]? =some (l.getD (col+c+row*w) .any):=by
        rw[zaf,show col+c+row*w=row*w+col+c by omega,zah h2];rfl
       rw[zav,if_pos hc,zaA,h4,List.getElem?_map,List.getElem?_range hc,zbi]
       congr 1
       symm
       refine Nx (ha c row hc hr) ?_
       simp only[Ma,List.getElem?_map,List.getElem?_range hr,zbi]
     . rw[zaW (by simp;omega),zaW (by simp;omega)]
   . cases h
 . split at h
   . rename_i hc;exact⟨zaj hc,h⟩
   . cases h
theorem G4 {row w col m:Nat} {us:List SV}:∀(l:List SV) (s o:Nat),(P5 row w col m us s l)[o]? =(l[o]?).map fun a=>match decide (col<=s+o)&&(decide ((s+o-col)%w<us.length)&&decide ((s+o-col)/w<m))with|true=>EV (decide (row=(s+o-col)/w)) (us.getD ((s+o-col)%w) .any) a|false=>a
 |[],s,o=>by simp[P5]
 |a::l,s,0=>rfl
 |a::l,s,o+1=>by
  simp only[P5,zaZ];rw[G4 l (s+1) o,show s+1+o=s+(o+1) by omega]
theorem E1 {l:List SV} {row w col:Nat} {us:List SV} {k:List SV->Option R} {r:R} (h:JV l row w col us k=some r):row*w+col+us.length<=l.length/\k (l.take (row*w+col)++us++l.drop (row*w+col+us.length))=some r:=by
 unfold JV at h;generalize sW l w col us.length l.length 0=m at h
 split at h
 . rename_i ho;simp only[zae,WI,zag,zam,zbC]at ho;obtain⟨⟨huw,fk⟩,ho⟩:=ho;obtain⟨hw,hm,hl,ha⟩:=CR ho
   split at h
   . rename_i hr;have hr:=zaj hr;have h1:=QZ (w:=w) hr;refine⟨by omega, ?_⟩;rw[<-h]
     congr 1
     refine zby fun o=> ?_
     rw[G4,zaF]
     by_cases ho:o<l.length
     . rw[zah ho,zbi]
       by_cases hc:col<=o
       . have hdm:=Nat.div_add_mod (o-col) w;have htw:=Nat.mod_lt (o-col) hw;generalize hq:(o-col)/w=q at*
         generalize ht:(o-col)%w=t at*
         rw[Nat.mul_comm]at hdm
         by_cases hrow:row=q
         . subst hrow
           by_cases htn:t<us.length
           . simp only[hc,htn,hr,za3,zck];have h2:alike l[o] (us.getD t .any)=true:=by
              have h3:=ha t row htn hr;have h4:=fk t htn;have h5:l.getD (col+t+row*w) .any=l[o]:=by
               rw[zaf,show col+t+row*w=o by omega,zah ho];rfl
              rw[h5]at h3;exact wS h3 h4
             rw[CV h2,zaq,zaK (by simp;omega),zax (by simp;omega),zas,show o-min (row*w+col) l.length=t by omega,zah htn,zaf,zah htn];rfl
           . simp only[htn,zaY,zbN,Bool.and_false];rw[zaq,zaK (by simp;omega),zaK (by simp;omega),zaA,zas,show row*w+col+us.length+(o-min (row*w+col) l.length-us.length)=o by omega,zah ho]
         . have h6:q*w+w<=row*w\/row*w+w<=q*w:=by
            rcases Nat.lt_or_gt_of_ne hrow with h|h
            . right;rw[<-Nat.succ_mul];exact zaR w h
            . left;rw[<-Nat.succ_mul];exact zaR w h
           have h7:(l.take (row*w+col)++us++l.drop (row*w+col+us.length))[o]? =some l[o]:=by
            rw[zaq];rcases h6 with h6|h6
            . rw[zax (by simp;omega),zav,if_pos (by omega),zah ho]
            . rw[zaK (by simp;omega),zaK (by simp;omega),zaA,zas,show row*w+col+us.length+(o-min (row*w+col) l.length-us.length)=o by omega,zah ho]
           rw[h7]
           congr 1
           split
           . rename_i hb;simp only[zae,zag]at hb;have h3:=ha t q hb.2.1 hb.2.2;have h4:=fk t hb.2.1;have h5:l.getD (col+t+q*w) .any=l[o]:=by
              rw[zaf,show col+t+q*w=o by omega,zah ho];rfl
             rw[h5]at h3;have h2:alike l[o] (us.getD t .any)=true:=by
              exact wS h3 h4
             rw[CV h2];simp[hrow]
           . rfl
       . simp only[hc,zaY,zbN];rw[zaq,zax (by simp;omega),zav,if_pos (by omega),zah ho]
     . rw[zaW (l:=l) (by omega),zaW (by simp;omega)];rfl
   . cases h
 . split at h
   . rename_i hc;exact⟨zaj hc,h⟩
   . cases h
theorem HN (hS:Sim φ S H) {n:Nat} {p:SV} {k:List SV->Option R} {r:R} {v:Value} (hp:DV φ H (Own φ S) p v) (h:Lz S n p k=some r):
 ∃x o cs vs,v= .pointer (some ⟨x,o,none⟩)/\cV H x o n=some vs/\DVL φ H (Own φ S) cs vs/\k cs=some r:=by
 unfold Lz at h
 split at h
 . rename_i id row w col;cases hp with
   |ptr _ _ _ _ x hx=>
    split at h
    . rename_i l hB;rcases hS.blk _ _ hB with⟨h0,_⟩|⟨y,c,h1,h2,_,h4⟩
      . rw[hx]at h0;cases h0
      . rw[hx]at h1;cases h1;obtain⟨hlen,h⟩:=wF h;have h5:=h4.1;exact⟨x,_,_,_,rfl,fH h2 (by rw[<-h5];exact hlen),(h4.drop _).take _,h⟩
    . rename_i c hB;rcases hS.blk _ _ hB with⟨h0,_⟩|⟨y,c',h1,h2,_,h4⟩
      . rw[hx]at h0;cases h0
      . rw[hx]at h1;cases h1;obtain⟨hw,_,cs,hk,h5,h6⟩:=wG h (BV.rgn h4);subst hw;rw[zaF]at h5 h6;exact⟨x,_,cs,_,rfl,fH h2 h5,h6,hk⟩
    . rename_i j v e rows hB;rcases hS.blk _ _ hB with⟨h0,_⟩|⟨y,c',h1,h2,_,h4⟩
      . rw[hx]at h0;cases h0
      . rw[hx]at h1;cases h1
        split at h
        . rename_i hc;simp only[zae,zaI]at hc;obtain⟨rfl,rfl,rfl⟩:=hc
          split at h
          . rename_i hrow;have hrow:=zaj hrow;have hl:=h4.1;refine⟨x,_,_,_,rfl,fH h2 (by omega),⟨by simp;omega,fun i s u g1 g2=> ?_⟩,h⟩;cases i with
            |zero=>
             simp at g1;subst g1;rw[zav,if_pos (by omega),zaA]at g2;exact h4.2 row u hrow (by simpa using g2)
            |succ i=>simp at g1
          . cases h
        . cases h
    . cases h
 . rename_i c row col;cases hp with
   |dp _ _ _ x o blk hb ho hl hc=>
    obtain⟨_,_,cs,hk,h5,h6⟩:=wG h (cells:=blk.cells) (o:=o) ⟨hl,hc⟩;exact⟨x,_,cs,_,rfl,fH hb h5,h6,hk⟩
 . cases h
theorem DV.X4 {cs:List SV} {vs:List Value} (h:DVL φ H own cs vs):DV φ H own (.agg cs) (.agg vs.toArray):=
 .agg cs _ (by simp[h.1]) (fun i s v h1 h2=>h.2 i s v h1 (by simpa using h2))
theorem m5 (hS:Sim φ S H) {t:TypeId} {p:SV} {k:SV->Option R} {r:R} {v:Value} (hp:DV φ H (Own φ S) p v) (h:xv P S t p k=some r):
 ∃s u,cL P H t v=some u/\DV φ H (Own φ S) s u/\k s=some r:=by
 unfold xv at h
 split at h
 . rename_i d i hu hi;obtain⟨x,o,cs,vs,rfl,hg,hd,h⟩:=HN hS hp h;unfold cL;simp only[hu,hi];unfold mkS at h;cases ha:nh d with
   |true=>
    rw[ha]at h hg;simp only at h hg⊢;rw[hg];exact⟨_,_,rfl,DV.X4 hd,h⟩
   |false=>
    rw[ha]at h hg;simp only at h hg⊢;rw[hg];cases cs with
    |nil=>cases h
    |cons s cs=>
     obtain⟨u,us,rfl,h1,_⟩:=hd.gG;exact⟨s,u,rfl,h1,h⟩
 . cases h
theorem oh {s:SV} {v:Value} {cs:List SV} (hv:DV φ H own s v) (h:dE s=some cs):∃vs,bu v=some vs/\DVL φ H own cs vs:=by
 cases hv with
 |any=>simp[dE]at h
 |agg l x' hx vx=>
  simp only[dE,zak]at h;subst h;exact⟨x'.toList,rfl,by simpa using hx,fun i s v h1 h2=>vx i s v h1 (by simpa using h2)⟩
 |tup=>simp[dE]at h
 |i k n=>simp only[dE,zak]at h;subst h;exact⟨_,rfl,.cons (.i k n) .nil⟩
 |b x=>simp only[dE,zak]at h;subst h;exact⟨_,rfl,.cons (.b x) .nil⟩
 |str x=>simp only[dE,zak]at h;subst h;exact⟨_,rfl,.cons (.str x) .nil⟩
 |jy=>simp only[dE,zak]at h;subst h;exact⟨_,rfl,.cons .jy .nil⟩
 |eM=>simp only[dE,zak]at h;subst h;exact⟨_,rfl,.cons .eM .nil⟩
 |nP=>simp only[dE,zak]at h;subst h;exact⟨_,rfl,.cons .nP .nil⟩
 |AX=>simp only[dE,zak]at h;subst h;exact⟨_,rfl,.cons .AX .nil⟩
 |ptr id row w col x h1=>simp only[dE,zak]at h;subst h;exact⟨_,rfl,.cons (.ptr id row w col x h1) .nil⟩
 |buf id w ex x n sp h1 hn hs=>simp only[dE,zak]at h;subst h;exact⟨_,rfl,.cons (.buf id w ex x n sp h1 hn hs) .nil⟩
 |eh id w h1=>simp only[dE,zak]at h;subst h;exact⟨_,rfl,.cons (.eh id w h1) .nil⟩
 |sl id off len w pre x o sp cap h1 h2 h3 h4 h5 h6=>simp only[dE,zak]at h;subst h;exact⟨_,rfl,.cons (.sl id off len w pre x o sp cap h1 h2 h3 h4 h5 h6) .nil⟩
 |du id w pre h1=>simp only[dE,zak]at h;subst h;exact⟨_,rfl,.cons (.du id w pre h1) .nil⟩
 |dq c h1=>simp only[dE,zak]at h;subst h;exact⟨_,rfl,.cons (.dq c h1) .nil⟩
 |deep c x o sp cap blk h1 h2 h3 h4 h5 h6=>simp only[dE,zak]at h;subst h;exact⟨_,rfl,.cons (.deep c x o sp cap blk h1 h2 h3 h4 h5 h6) .nil⟩
 |dp c row col x o blk h1 h2 h3 h4=>simp only[dE,zak]at h;subst h;exact⟨_,rfl,.cons (.dp c row col x o blk h1 h2 h3 h4) .nil⟩
 |kU id w col n hn=>simp only[dE,zak]at h;subst h;exact⟨_,rfl,.cons (.kU id w col n hn) .nil⟩
 |np id w col x n hn h1=>simp only[dE,zak]at h;subst h;exact⟨_,rfl,.cons (.np id w col x n hn h1) .nil⟩
 |fn g x y x' y' h1 h2 h3 h4=>simp only[dE,zak]at h;subst h;exact⟨_,rfl,.cons (.fn g x y x' y' h1 h2 h3 h4) .nil⟩
theorem OB {s:Sch} {u:SV} {d:Dat} (h:V4 s u=some d) {v:Value} (hv:DV φ H own u v):DV φ H own (s9 s d) v:=by
 unfold V4 at h
 split at h
 . split at h
   . rename_i hk;cases h;rw[zaI]at hk;subst hk;exact hv
   . cases h
 . rename_i x;cases h;have:((bif x then(1:Int)else 0) !=0)=x:=by cases x<;>rfl
   simp only[s9,Dat.int,this];exact hv
 . cases h;cases hv;exact .dq _ rfl
 . rename_i k k' xs
   split at h
   . rename_i hk;cases h;rw[zaI]at hk;subst hk;have e:List.map Dat.int (Dat.r (List.map Dat.n xs)).sub=xs:=by
      show List.map Dat.int (List.map Dat.n xs)=xs;rw[List.map_map,show(Dat.int ∘ Dat.n)=id from rfl,List.map_id]
     simp only[s9];rw[e];exact hv
   . cases h
 . cases h;cases hv;exact .dq _ rfl
 . split at h
   . rename_i hk;cases h;rw[gY.2 _ _ hk];exact hv
   . cases h
 . cases h
theorem iH:∀(l:List Sch) (c:Nat) (d:Dat) (j:Nat),(rowFrom l c d)[j]? =(l[j]?).map fun s=>s9 s (d.fld (c+j))
 |[],c,d,j=>by simp[rowFrom]
 |s::l,c,d,0=>by simp[rowFrom]
 |s::l,c,d,j+1=>by
  simp only[rowFrom,zaZ];rw[iH l (c+1) d j,show c+1+j=c+(j+1) by omega]
theorem rF:∀{l:List Sch} {us:List SV} {r:List Dat},jO l us=some r->r.length=l.length/\us.length=l.length
 |[],[],r,h=>by simp[jO]at h;subst h;exact⟨rfl,rfl⟩
 |[],_::_,r,h=>by simp[jO]at h
 |_::_,[],r,h=>by simp[jO]at h
 |s::l,u::us,r,h=>by
  simp only[jO]at h
  split at h
  . rename_i d r' h1 h2;cases h;obtain⟨a,b⟩:=rF h2;simp[a,b]
  . cases h
theorem Bz:∀{l:List Sch} {us:List SV} {r:List Dat} (h:jO l us=some r) {j:Nat} {s:Sch},l[j]? =some s->∃u d,us[j]? =some u/\r[j]? =some d/\V4 s u=some d
 |[],_,r,h,j,s,hj=>by simp at hj
 |_::_,[],r,h,j,s,hj=>by simp[jO]at h
 |s::l,u::us,r,h,j,s',hj=>by
  simp only[jO]at h
  split at h
  . rename_i d r' h1 h2;cases h;cases j with
    |zero=>simp at hj;subst hj;exact⟨u,d,by simp,by simp,h1⟩
    |succ j=>
     simp only[zaZ]at hj⊢;exact Bz h2 hj
  . cases h
theorem rY {l:List Sch} {us:List SV} {r:List Dat} (h:jO l us=some r) {vs:List Value} (hv:DVL φ H own us vs):DVL φ H own (rowFrom l 0 (.r r)) vs:=by
 obtain⟨h1,h2⟩:=rF h;refine⟨by rw[kx,<-hv.1,h2],fun j s v hs hj=> ?_⟩;rw[iH]at hs;cases hl:l[j]? with
 |none=>rw[hl]at hs;cases hs
 |some sc=>
  rw[hl]at hs;simp only[zbi,zak,zaF]at hs;subst hs;obtain⟨u,d,g1,g2,g3⟩:=Bz h hl;have:(Dat.r r).fld j=d:=by
   show r.getD j (.n 0)=d;rw[zaf,g2];rfl
  rw[this];exact OB g3 (hv.2 j u v g1 hj)
theorem aE.M3 {c c':aE} {row col:Nat} {us:List SV} (h:c.set row col us=some c') (hrow:row<c.len) (S0:col+us.length<=c.w) {cs vs:List Value} (hB:BV φ H own (.cont c) cs) (hv:DVL φ H own us vs):
 BV φ H own (.cont c') (cs.take (row*c.w+col)++vs++cs.drop (row*c.w+col+vs.length)):=by
 have hin:=jP (w:=c.w) hrow;have hlen:=hB.1;have hvl:=hv.1;have hD:∀i v,(cs.take (row*c.w+col)++vs++cs.drop (row*c.w+col+vs.length))[i]? =some v->
  (i<row*c.w+col/\cs[i]? =some v)\/(row*c.w+col<=i/\i<row*c.w+col+vs.length/\vs[i-(row*c.w+col)]? =some v)\/(row*c.w+col+vs.length<=i/\cs[i]? =some v):=by
  intro i v hi;simp only[zaV,zab,zas,zav,zaA]at hi;have KL:min (row*c.w+col) cs.length=row*c.w+col:=by omega
  rw[KL]at hi
  by_cases h1:i<row*c.w+col
  . rw[if_pos (by omega),if_pos h1,if_pos h1]at hi;exact .inl ⟨h1,hi⟩
  . by_cases h2:i<row*c.w+col+vs.length
    . rw[if_pos (by omega),if_neg h1]at hi;exact .inr (.inl ⟨by omega,h2,hi⟩)
    . rw[if_neg (by omega)]at hi;rw[show row*c.w+col+vs.length+(i-(row*c.w+col+vs.length))=i by omega]at hi;exact .inr (.inr ⟨by omega,hi⟩)
 have hDl:(cs.take (row*c.w+col)++vs++cs.drop (row*c.w+col+vs.length)).length=cs.length:=by simp;omega
 cases c with
 |ints k xs=>
  simp only[aE.set]at h
  split at h
  . rename_i k' n
    split at h
    . rename_i hk;rw[zaI]at hk;subst hk;cases h;obtain⟨v,vs',rfl,hv0,hv'⟩:=hv.gG;have:vs'=[]:=by have:=hv'.1;simpa using this.symm
      subst this;simp only[aE.w,zcf,aE.len]at*
      have hc0:col=0:=by simp at S0;omega
      subst hc0;refine⟨by simp only[aE.len,aE.w,za1,zcf];rw[hDl];exact hlen,fun r hr j s hs v' BC=> ?_⟩;simp only[aE.row]at hs;have hj:j=0:=by
       cases j with
       |zero=>rfl
       |succ j=>simp at hs
      subst hj;simp at hs;subst hs;simp only[aE.w,zcf,aE.len,za1,zbc]at*
      rcases hD r v' BC with⟨h1,h2⟩|⟨h1,h2,h3⟩|⟨h1,h2⟩
      . have:=hB.2 r (by simpa[aE.len]using hr) 0 (.i k (xs.getD r 0)) (by simp[aE.row]) v' (by simpa[aE.w]using h2);rw[List.getElem?_set_ne (by omega)];simpa[zaf]using this
      . have e:r=row:=by simp at h2;omega
        subst e;simp at h3;subst h3;rw[List.getElem?_set_self (by simpa using hrow)];exact hv0
      . have:=hB.2 r (by simpa[aE.len]using hr) 0 (.i k (xs.getD r 0)) (by simp[aE.row]) v' (by simpa[aE.w]using h2);simp at h1;rw[List.getElem?_set_ne (by omega)];simpa[zaf]using this
    . cases h
  . cases h
 |ab l xs=>
  have hw:(aE.ab l xs).w=l.length:=rfl;have hle:(aE.ab l xs).len=xs.length:=rfl;rw[hw]at hin hlen hD hDl S0⊢;rw[hle]at hin hlen hrow;simp only[aE.set]at h
  split at h
  . rename_i r hr;cases h;have hold:=(BV.rgn hB).row (r:=row) hrow;rw[zaF,hw]at hold;have fk:=rY hr (((hold.take col).append hv).append (hold.drop (col+us.length)));refine⟨by simp only[aE.len,aE.w,za1];rw[hDl];exact hlen,fun r' hr' j s hs v' BC=> ?_⟩;simp only[aE.len,za1]at hr';simp only[aE.row]at hs;have hjw:j<l.length:=by
     have:=(zao.1 hs).1
     rwa [kx]at this
    simp only[aE.w]at*
    by_cases e:r'=row
    . subst e;rw[zaf,List.getElem?_set_self hrow,zbD]at hs;refine fk.2 j s v' hs ?_
      simp only[zaV,zab,zas,zbd,zav,zaA];have hm1:min l.length (cs.length-r'*l.length)=l.length:=by rw[hlen];omega
      have hm2:min col l.length=col:=by omega
      rw[hm1,hm2];rcases hD _ _ BC with⟨h1,h2⟩|⟨h1,h2,h3⟩|⟨h1,h2⟩
      . rw[if_pos (by omega),if_pos (by omega),if_pos (by omega),if_pos (by omega)];exact h2
      . rw[if_pos (by omega),if_neg (by omega)];rw[show r'*l.length+j-(r'*l.length+col)=j-col by omega]at h3;exact h3
      . rw[if_neg (by omega),if_pos (by omega)];rw[show r'*l.length+(col+us.length+(j-(col+vs.length)))=r'*l.length+j by omega];exact h2
    . rw[zaf,List.getElem?_set_ne (zcn e),<-zaf]at hs;refine hB.2 r' hr' j s hs v' ?_
      rcases hD _ _ BC with⟨h1,h2⟩|⟨h1,h2,h3⟩|⟨h1,h2⟩
      . exact h2
      . exfalso;rcases Nat.lt_or_gt_of_ne e with hlt|hgt
        . have:=jP (w:=l.length) hlt;omega
        . have:=jP (w:=l.length) hgt;omega
      . exact h2
  . cases h
theorem nb {x off:Nat} {vs:List Value} {c:Blk} (h:H.get x=some c) (hm:H.lock<=x) (h0:0<vs.length) (hl:off+vs.length<=c.cells.length):
 setCells H x off vs=some (H.put x (some ⟨c.cells.take off++vs++c.cells.drop (off+vs.length)⟩)):=by
 unfold setCells;rw[h];simp only;rw[if_pos];simp[aO,hm,h0,hl]
theorem Fk (hS:Sim φ S H) {p:SV} {us:List SV} {k:aj->Option R} {r:R} {v:Value} {vs:List Value} (hp:DV φ H (Own φ S) p v) (hv:DVL φ H (Own φ S) us vs) (h:Jj S p us k=some r):
 ∃x o S' H',v= .pointer (some ⟨x,o,none⟩)/\setCells H x o vs=some H'/\Step φ S H φ S' H'/\k S'=some r/\∃id row w col B',p= .ptr id row w col/\S'=S.put id (some B')/\φ id=some (some x)/\∃B0,S.get id=some B0:=by
 unfold Jj at h
 split at h
 . rename_i id row w col
   split at h
   . rename_i hc;simp only[zae,zag]at hc;obtain⟨hl,hn⟩:=hc;cases hp with
     |ptr _ _ _ _ x hx=>
      have hvl:=hv.1
      split at h
      . rename_i l hB;rcases hS.blk _ _ hB with⟨h0,_⟩|⟨y,c,h1,h2,h3,h4⟩
        . rw[hx]at h0;cases h0
        . rw[hx]at h1;cases h1;obtain⟨hlen,h⟩:=E1 h;have h5:=h4.1;refine⟨x,_,_,_,rfl,nb h2 (h3 hl) (by omega) (by omega),Step.put hS hB hx h2 hl (by simp;omega) ?_,h,_,_,_,_,_,rfl,rfl,hx,_,hB⟩;rw[<-hvl];exact((DVL.take h4 _).append hv).append (DVL.drop h4 _)
      . rename_i c hB;rcases hS.blk _ _ hB with⟨h0,_⟩|⟨y,c',h1,h2,h3,h4⟩
        . rw[hx]at h0;cases h0
        . rw[hx]at h1;cases h1
          split at h
          . rename_i hc;simp only[zae,zaI,zag]at hc;obtain⟨hw,S0⟩:=hc;subst hw
            split at h
            . rename_i hrow;have hrow:=zaj hrow
              split at h
              . rename_i c2 mJ;have hin:=jP (w:=c.w) hrow;have hlen:=h4.1;refine⟨x,_,_,_,rfl,nb h2 (h3 hl) (by omega) (by omega),Step.put hS hB hx h2 hl (by simp;omega) ?_,h,_,_,_,_,_,rfl,rfl,hx,_,hB⟩;exact aE.M3 mJ hrow S0 h4 hv
              . cases h
            . cases h
          . cases h
      . cases h
   . cases h
 . cases h
theorem FC (hS:Sim φ S H) {t:TypeId} {p u:SV} {k:aj->Option R} {r:R} {v w:Value} (hp:DV φ H (Own φ S) p v) (hu:DV φ H (Own φ S) u w) (h:JH P S t p u k=some r):
 ∃S' H',qq P H t v w=some H'/\Step φ S H φ S' H'/\k S'=some r/\∃id row w col B' x,p= .ptr id row w col/\S'=S.put id (some B')/\φ id=some (some x)/\(∃B0,S.get id=some B0)/\∀z,z≠x->H'.get z=H.get z:=by
 unfold JH at h
 split at h
 . rename_i cs i hcs hi
   split at h
   . rename_i hlen;have hlen:=zaj hlen;obtain⟨vs,h1,h2⟩:=oh hu hcs;obtain⟨x,o,S',H',rfl,h3,h4,h5,id,row,w,col,B',g1,g2,g3,g4⟩:=Fk hS hp h2 h;refine⟨S',H', ?_,h4,h5,id,row,w,col,B',x,g1,g2,g3,g4, ?_⟩
     rotate_left
     . intro z hz;unfold setCells at h3
       split at h3
       . split at h3
         . cases h3;exact ag.ga _ _ _ _ hz
         . cases h3
       . cases h3
     unfold qq;simp only[h1,hi];rw[if_pos (by rw[<-h2.1];exact hlen)];exact h3
   . cases h
 . cases h
theorem mQ {v:Value} {s:SV} (h:CD v=some s):hZ v=true/\DV φ H own s v:=by
 unfold CD at h
 split at h<;>first|(cases h;done)|(cases h;exact⟨rfl,by constructor⟩)
theorem oM:∀{vs:List Value} {l:List SV},AS vs=some l->vs.all hZ=true/\DVL φ H own l vs
 |[],l,h=>by simp[AS]at h;subst h;exact⟨rfl,.nil⟩
 |v::vs,l,h=>by
  simp only[AS]at h
  split at h
  . rename_i a r h1 h2;cases h;obtain⟨a1,a2⟩:=mQ (φ:=φ) (H:=H) (own:=own) h1;obtain⟨b1,b2⟩:=oM h2;exact⟨by simp[a1,b1],.cons a2 b2⟩
  . cases h
theorem kS {fr:List SV} {fv:List Value} (hf:DVL φ H own fr fv) {x:Operand} {s:SV} (h:js fr x=some s):∃v,dV fv x=some v/\DV φ H own s v:=by
 cases x with
 |tmp t=>
  simp only[js,zak]at h;subst h;refine⟨_,rfl, ?_⟩;rw[zaf,zaf]
  by_cases ht:t<fr.length
  . have ht':t<fv.length:=by rw[<-hf.1];exact ht
    rw[zah ht,zah ht'];exact hf.2 t _ _ (zah ht) (zah ht')
  . rw[zaW (zch ht),zaW (by rw[<-hf.1];exact zch ht)];exact .tup [] #[] rfl (fun i s v h=>by simp at h)
 |const v=>
  simp only[js]at h;obtain⟨h1,h2⟩:=mQ (φ:=φ) (H:=H) (own:=own) h;exact⟨v,by simp[dV,h1],h2⟩
 |global g=>simp[js]at h
 |func f=>
  simp only[js,zak]at h;subst h;exact⟨_,rfl,.fn f [] [] #[] #[] rfl rfl (fun i s v h=>by simp at h) (fun i s v h=>by simp at h)⟩
end
end
end
end Go.Proofs.YtfaojedfnjdnnaaGreat.Ev
namespace Go.Proofs.YtfaojedfnjdnnaaGreat.Ev
noncomputable section
noncomputable section
open Go
section
variable {R : Type} {P : Program} {φ : Phi} {H : ag} {own : Nat -> Prop} {S : aj}
theorem gx {t:TypeId} {l:List SV} {off:Nat} {s:SV} {x':Array Value} (hd:DV φ H own (.agg l) (.agg x')) (h:o8 P t l off=some s):∃v,jz P t x' off=some v/\DV φ H own s v:=by
 cases hd with
 |agg _ _ hx vx=>
  unfold o8 at h;unfold jz
  split at h
  . rename_i d i hu hi;simp only[hu,hi]
    split at h
    . rename_i ha;simp only[ha]
      split at h
      . rename_i hl;have hl:=zaj hl;cases h;rw[if_pos (by rw[<-hx];exact hl)];refine⟨_,rfl,.agg _ _ (by simp;omega) (fun j s v h1 h2=> ?_)⟩;rw[zav]at h1
        split at h1
        . rename_i hj;rw[zaA]at h1;rw[Array.getElem?_extract,if_pos (by omega)]at h2;exact vx _ s v h1 h2
        . cases h1
      . cases h
    . rename_i ha;simp only[ha];have hlt:=(zao.1 h).1;have hv:x'[off]? =some x'[off]:=zaz (by rw[<-hx];exact hlt);exact⟨_,hv,vx off s _ h hv⟩
  . cases h
theorem uJ:∀(d:Nat) (t:TypeId) (x y:SV) (v w:Value) (b:Bool),DV φ H own x v->DV φ H own y w->eqS P d t x y=some b->eqT P d t v w=some b
 |0,_,_,_,_,_,_,_,_,h=>by cases h
 |d+1,t,x,y,v,w,b,hx,hy,h=>by
  unfold eqS at h;unfold eqT
  split at h
  . rename_i hu;cases hx;cases hy;simp only[hu];exact h
  . rename_i hu;cases hx;cases hy;simp only[hu];exact h
  . rename_i fs xs ys hu;cases hx with
    |agg _ x' hx vx=>
     cases hy with
     |agg _ y' hy vy=>
      simp only[hu]
      split at h
      . cases h
      . rename_i hs;rw[if_neg hs];generalize fs.toList=l at h⊢
        induction l generalizing b with
        |nil=>exact h
        |cons f l ih=>
         simp only[List.foldr]at h⊢
         split at h
         . rename_i hf;rw[if_pos hf]
           split at h
           . rename_i a c h1 h2;obtain⟨v1,g1,g2⟩:=gx (.agg _ _ hx vx) h1;obtain⟨v2,g3,g4⟩:=gx (.agg _ _ hy vy) h2;simp only[g1,g3]
             split at h
             . rename_i u w h3 h4;cases h;rw[uJ d _ _ _ _ _ _ g2 g4 h3,ih _ h4]
             . cases h
           . cases h
         . rename_i hf;rw[if_neg hf];exact ih _ h
  . rename_i len elem xs ys hu;cases hx with
    |agg _ x' hx vx=>
     cases hy with
     |agg _ y' hy vy=>
      simp only[hu]
      split at h
      . rename_i i hi;simp only[hi];generalize List.range len=l at h⊢
        induction l generalizing b with
        |nil=>exact h
        |cons j l ih=>
         simp only[List.foldr]at h⊢
         split at h
         . rename_i a c h1 h2;obtain⟨v1,g1,g2⟩:=gx (.agg _ _ hx vx) h1;obtain⟨v2,g3,g4⟩:=gx (.agg _ _ hy vy) h2;simp only[g1,g3]
           split at h
           . rename_i u w h3 h4;cases h;rw[uJ d _ _ _ _ _ _ g2 g4 h3,ih _ h4]
           . cases h
         . cases h
      . cases h
  . cases h
theorem wz {v:Value} {s:SV} (h:Mm v=some s):DV φ H own s v:=by
 unfold Mm at h
 split at h<;>first|(cases h;done)|(cases h;constructor)
theorem A9 {s:SV} {v:Value} {b:Bool} (hv:DV φ H own s v) (h:Uf s=some b):isNil v=some b:=by
 unfold Uf at h
 split at h<;>first|(cases h;done)|(cases h;cases hv<;>simp_all [isNil]<;>omega)
theorem I8 {d:TypeDesc} {x y:SV} {v w:Value} (hx:DV φ H own x v) (hy:DV φ H own y w) (h:ZG d x y=true):DK d v w=true:=by
 unfold ZG at h
 split at h<;>first|(cases h;done)|(cases hx<;>cases hy<;>rfl)
theorem Qj {R:Type} {x y:Option R} {r:R} (h:both x y=some r):x=some r/\y=some r:=by
 unfold both at h
 split at h
 . rename_i e;exact⟨h,e▸h⟩
 . cases h
theorem iw {R:Type} (x:Option R):both x x=x:=by simp[both]
theorem TI {t:TypeId} {d:TypeDesc} {v w:Value} {a c:Bool} (hu:P.underlying t=some d) (g1:isNil v=some a) (g2:isNil w=some c) (g3:DK d v w=true):
 jw P .eql t v w=some (.bool (a&&c))/\jw P .neq t v w=some (.bool (!(a&&c))):=by
 have he:gF P t v w=some (a&&c):=by
  unfold gF
  split
  . simp[isNil]at g1
  . simp[isNil]at g1
  . simp only[hu,g1,g2,g3,zbh]
 constructor
 . unfold jw
   split
   . simp[isNil]at g1
   . simp[he]
 . unfold jw
   split
   . simp[isNil]at g1
   . simp[he]
theorem J7 {op:BinOp} {t:TypeId} {x y:SV} {v w:Value} {k:SV->Option R} {r:R} (hx:DV φ H own x v) (hy:DV φ H own y w) (h:Yg P op t x y k=some r):
 ∃s u,jw P op t v w=some u/\DV φ H own s u/\k s=some r:=by
 unfold Yg at h
 split at h
 . rename_i k1 a k2 c;cases hx;cases hy
   split at h
   . split at h
     . rename_i hk
       split at h
       . cases h
       . rename_i hc;have hc:=zbA hc;exact⟨_,_,by simp[jw,hk,mb,hc],.i _ _,h⟩
     . cases h
   . split at h
     . rename_i hk
       split at h
       . cases h
       . rename_i hc;have hc:=zbA hc;exact⟨_,_,by simp[jw,hk,mb,hc],.i _ _,h⟩
     . cases h
   . split at h
     . cases h
     . rename_i hc;have hc:=zbA hc;exact⟨_,_,by simp[jw,qe,hc],.i _ _,h⟩
   . split at h
     . cases h
     . rename_i hc;have hc:=zbA hc;exact⟨_,_,by simp[jw,qe,hc],.i _ _,h⟩
   . rename_i h1 h2 h3 h4
     split at h
     . rename_i hk
       split at h
       . rename_i u hu
         split at h
         . rename_i s hs;refine⟨s,u, ?_,wz hs,h⟩;unfold jw;simp only;cases op<;>first|(exact absurd rfl h3)|(exact absurd rfl h4)|(simp only[if_pos hk];exact hu)
         . cases h
       . cases h
     . cases h
 . rename_i xs ys;have ho:∀c,eqS P 10000 t (.agg xs) (.agg ys)=some c->P.eqGuardType P.depth t=false->gF P t v w=some c:=by
    intro c hc hg;have he:=Lu (uJ _ _ _ _ _ _ _ hx hy hc);cases hx;cases hy;unfold gF;simp only[hg];exact he
   have hb:∀o c,gF P t v w=some c->o=BinOp.eql\/o=BinOp.neq->jw P o t v w=some (.bool (if o=BinOp.eql then c else !c)):=by
    intro o c hc hq;clear ho;cases hx;cases hy;rcases hq with rfl|rfl
    . simp[jw,hc]
    . simp[jw,hc]
   split at h
   . cases h
   . rename_i hg
     split at h
     . split at h
       . rename_i c hc;exact⟨_,_,hb _ _ (ho c hc hg) (.inl rfl),.b _,by simpa using h⟩
       . cases h
     . split at h
       . rename_i c hc;exact⟨_,_,hb _ _ (ho c hc hg) (.inr rfl),.b _,by simpa using h⟩
       . cases h
     . cases h
 . rename_i a c;cases hx;cases hy
   split at h
   . rename_i hu
     split at h
     . exact⟨_,_,by simp[jw,gF,hu],.b _,h⟩
     . exact⟨_,_,by simp[jw,gF,hu],.b _,h⟩
     . cases h
   . cases h
 . rename_i c
   split at h
   . rename_i e hu;cases hy;have key:∃b:Bool,isNil v=some b/\DK (.slice e) v (.slice none 0 0)=true/\(c.len≠0->b=false):=by
      cases hx
      . rename_i hc;exact⟨true,rfl,rfl,fun h=>absurd hc h⟩
      . exact⟨false,rfl,rfl,fun _=>rfl⟩
     obtain⟨b,h1,h2,h3⟩:=key;obtain⟨e1,e2⟩:=TI (P:=P) hu h1 rfl h2;rw[zbf]at e1 e2
     split at h
     . split at h
       . obtain⟨g1,g2⟩:=Qj h;exact⟨_,_,e1,.b _,by cases b<;>assumption⟩
       . rename_i hc;rw[h3 (zbA hc)]at e1;exact⟨_,_,e1,.b _,h⟩
     . split at h
       . obtain⟨g1,g2⟩:=Qj h;exact⟨_,_,e2,.b _,by cases b<;>assumption⟩
       . rename_i hc;rw[h3 (zbA hc)]at e2;exact⟨_,_,e2,.b _,h⟩
     . cases h
   . cases h
 . split at h
   . rename_i d a c hu ha hc
     split at h
     . rename_i hr;have g1:=A9 hx ha;have g2:=A9 hy hc;have g3:=I8 hx hy hr;have he:gF P t v w=some (a&&c):=by
        unfold gF
        split
        . simp[isNil]at g1
        . simp[isNil]at g1
        . simp only[hu,g1,g2,g3,zbh]
       have hb:∀o,o=BinOp.eql\/o=BinOp.neq->jw P o t v w=some (.bool (if o=BinOp.eql then(a&&c)else !(a&&c))):=by
        intro o ho;unfold jw
        split
        . simp[isNil]at g1
        . rcases ho with rfl|rfl
          . simp[he]
          . simp[he]
       split at h
       . exact⟨_,_,hb _ (.inl rfl),.b _,by simpa using h⟩
       . exact⟨_,_,hb _ (.inr rfl),.b _,by simpa using h⟩
       . cases h
     . cases h
   . cases h
theorem NA {op:UnOp} {x s:SV} {v:Value} (hx:DV φ H own x v) (h:unS op x=some s):∃u,unE op v=some u/\DV φ H own s u:=by
 unfold unS at h
 split at h
 . cases h;cases hx;exact⟨_,rfl,.i _ _⟩
 . cases hx
   split at h
   . rename_i u hu;exact⟨u,hu,wz h⟩
   . cases h
 . cases h;cases hx;exact⟨_,rfl,.b _⟩
 . cases h
theorem GM {src dst:TypeId} {x s:SV} {v:Value} (hx:DV φ H own x v) (h:RX P src dst x=some s):∃u,HE P src dst v=some u/\DV φ H own s u:=by
 unfold RX at h
 split at h
 . rename_i h1 h2;cases h;cases hx;exact⟨_,by simp only[HE,h1,h2],.i _ _⟩
 . cases h
theorem DV.sG {c:aE} {v:Value} (h:DV φ H own (.deep c) v):(c.len=0/\v= .slice none 0 0)\/∃x o sp cap blk,v= .slice (some ⟨x,o,sp⟩) c.len cap/\(sp=none\/sp=some c.w)/\c.len<=cap/\H.get x=some blk/\¬own x/\Rgn φ H own c blk.cells o:=by
 cases h with
 |deep _ x o sp cap blk hs hc hb ho hl sE=>exact .inr ⟨x,o,sp,cap,blk,rfl,hs,hc,hb,ho,hl,sE⟩
 |dq _ hc=>exact .inl ⟨hc,rfl⟩
theorem me (hS:Sim φ S H) {x:SV} {v:Value} {n:Nat} (hv:DV φ H (Own φ S) x v) (h:zQ S x=some n):∃a cap,v= .slice a n cap/\n<=cap/\(a=none->n=0/\cap=0):=by
 unfold zQ at h
 split at h
 . cases h;cases hv;exact⟨none,0,rfl,zap _,fun _=>⟨rfl,rfl⟩⟩
 . rename_i id w ex
   split at h
   . rename_i c hB
     split at h
     . rename_i hw;simp only[zae,zaI,zag]at hw;cases h;cases hv with
       |buf _ _ _ x n sp hx hn hs=>
        rcases hS.blk _ _ hB with⟨h0,_⟩|⟨y,d,h1,h2,_,h4⟩
        . rw[hx]at h0;cases h0
        . rw[hx]at h1;cases h1;have e1:=hn d (ag.aM h2).1;have e2:=h4.1;have:n=c.len:=by
           rw[e1,hw.1]at e2;exact zbJ (by omega) e2
          subst this;exact⟨_,_,rfl,zap _,fun h=>by cases h⟩
       |eh _ _ hx=>
        rcases hS.blk _ _ hB with⟨_,h0⟩|⟨y,d,h1,_⟩
        . have:c.len=0:=h0;rw[this];exact⟨none,0,rfl,zap _,fun _=>⟨rfl,rfl⟩⟩
        . rw[hx]at h1;cases h1
     . cases h
   . rename_i l hB
     split at h
     . rename_i hw;simp only[zae,zaI,zag]at hw;cases h;cases hv with
       |buf _ _ _ x n sp hx hn hs=>
        rcases hS.blk _ _ hB with⟨h0,_⟩|⟨y,d,h1,h2,_,h4⟩
        . rw[hx]at h0;cases h0
        . rw[hx]at h1;cases h1;have e1:=hn d (ag.aM h2).1;have e2:l.length=d.cells.length:=h4.1;have:n=l.length/w:=by
           rw[e2,e1,Nat.mul_div_cancel _ hw.2.1]
          subst this;exact⟨_,_,rfl,zap _,fun h=>by cases h⟩
       |eh _ _ hx=>simp at hw
     . cases h
   . rename_i j v e rows hB
     split at h
     . rename_i hw;rw[zaI]at hw;subst hw;cases h;cases hv with
       |buf _ _ _ x n sp hx hn hs=>
        rcases hS.blk _ _ hB with⟨h0,_⟩|⟨y,d,h1,h2,_,h4⟩
        . rw[hx]at h0;cases h0
        . rw[hx]at h1;cases h1;have e1:=hn d (ag.aM h2).1;have e2:d.cells.length=rows.length:=h4.1;have:n=rows.length:=by omega
          subst this;exact⟨_,_,rfl,zap _,fun h=>by cases h⟩
       |eh _ _ hx=>
        rcases hS.blk _ _ hB with⟨_,h0⟩|⟨y,d,h1,_⟩
        . have:rows.length=0:=h0;rw[this];exact⟨none,0,rfl,zap _,fun _=>⟨rfl,rfl⟩⟩
        . rw[hx]at h1;cases h1
     . cases h
   . cases h
 . cases h;cases hv with
   |sl _ _ _ _ _ x o sp cap _ _ _ hc=>exact⟨_,_,rfl,hc,fun h=>by cases h⟩
   |du=>exact⟨none,0,rfl,zap _,fun _=>⟨rfl,rfl⟩⟩
 . cases h;cases hv with
   |deep c x o sp cap blk _ hc=>exact⟨_,_,rfl,hc,fun h=>by cases h⟩
   |dq c hc=>rw[hc];exact⟨none,0,rfl,zap _,fun _=>⟨rfl,rfl⟩⟩
 . cases h
theorem aE.LY (c:aE) (l n:Nat):(c.cut l n).w=c.w:=by cases c<;>rfl
theorem aE.ki (c:aE) {l n:Nat} (h:l+n<=c.len):(c.cut l n).len=n:=by
 cases c with
 |ints k xs=>simp only[aE.len]at h;simp only[aE.cut,aE.len,zas,zbd];omega
 |ab s xs=>simp only[aE.len]at h;simp only[aE.cut,aE.len,zas,zbd];omega
theorem aE.Vr (c:aE) {l n r:Nat} (h:r<n):(c.cut l n).row r=c.row (l+r):=by
 cases c with
 |ints k xs=>simp only[aE.cut,aE.row,zaf,zav,if_pos h,zaA]
 |ab s xs=>simp only[aE.cut,aE.row,zaf,zav,if_pos h,zaA]
theorem Rgn.cut {c:aE} {cells:List Value} {o:Nat} (h:Rgn φ H own c cells o) {l n:Nat} (hl:l+n<=c.len):Rgn φ H own (c.cut l n) cells (o+l*c.w):=by
 refine⟨?_,fun r hr j s hs v hv=> ?_⟩
 . rw[c.ki hl,c.LY,zbe,<-za2];exact zaP (Nat.add_le_add_left (zaR _ hl) _) h.1
 . rw[c.ki hl]at hr;rw[c.Vr hr]at hs;rw[c.LY]at hv;exact h.2 (l+r) (by omega) j s hs v (by rw[za2,<-zbe];exact hv)
def OV (φ:Phi) (H:ag) (own:Nat->Prop):Option SV->Option Value->Prop
 |none,none=>True
 |some s,some v=>DV φ H own s v
 |_,_=>False
theorem jt {x:Option SV} {x':Option Value} {d n:Nat} {b:Bool} (hx:OV φ H own x x') (h:oS x d=some (b,n)) (hp:Bd x=true) (hi:Nat) (hn:n<=hi) (hd:x=none->d<=hi):jo x' d hi=some n:=by
 unfold oS at h
 split at h
 . cases h;cases x' with
   |none=>rfl
   |some _=>exact hx.elim
 . rename_i k i;cases h;cases x' with
   |none=>exact hx.elim
   |some v=>
    cases hx;simp only[Bd,zag]at hp;simp only[jo];rw[if_pos ⟨hp,by omega⟩]
 . cases h
theorem BY (hS:Sim φ S H) {t:TypeId} {x:SV} {v:Value} {lo:Option SV} {hi mx:SV} {lo':Option Value} {hi' mx':Value} {k:SV->Option R} {r:R} (hv:DV φ H (Own φ S) x v) (hlo:OV φ H (Own φ S) lo lo') (hhi:DV φ H (Own φ S) hi hi') (hmx:DV φ H (Own φ S) mx mx')
 (h:DH P S t x lo hi mx k=some r):∃s u,qF P t v lo' hi' mx'=some u/\DV φ H (Own φ S) s u/\k s=some r:=by
 unfold DH at h
 split at h
 . rename_i e hu
   split at h
   . rename_i i len hie hlen
     split at h
     . rename_i b0 m b1 hh b2 ll h0 h1 h2
       split at h
       . rename_i hc;simp only[zae,zag]at hc;obtain⟨p0,p1,p2,hle,hhm,hml⟩:=hc;obtain⟨a,cap,rfl,hcap,hnil⟩:=me hS hv hlen;have e0:jo (some mx') cap cap=some m:=by
          have:=jt (x:=some mx) (x':=some mx') hmx h0 p0 cap (zaP hml hcap) (fun h=>by cases h);cases mx'<;>exact this
         have e1:=jt (x:=some hi) (x':=some hi') hhi h1 p1 m hhm (fun h=>by cases h);have e2:=jt hlo h2 p2 hh hle (fun _=>zbt _);have hE:∀u,(match a with
          |none=>some (Value.slice none (hh-ll) (m-ll))
          |some ⟨b,off,none⟩=>some (.slice (some ⟨b,if m=ll then off else off+ll*i.size,none⟩) (hh-ll) (m-ll))
          |some ⟨b,off,some e⟩=>if e=i.size then some (.slice (some ⟨b,if m=ll then off else off+ll*i.size,none⟩) (hh-ll) (m-ll))else none)=some u->
          qF P t (.slice a len cap) lo' hi' mx'=some u:=by
          intro u hu';unfold qF;simp only[hu,hie,e0,e1,e2];exact hu'
         split at h
         . rename_i id off Wy w pre0;simp only[zQ,zak]at hlen;subst hlen
           split at h
           . rename_i hw;rw[zaI]at hw;subst hw;cases hv with
             |sl _ _ _ _ _ x o sp _ hx ho hs hc hin hp=>
              have hDV:DV φ H (Own φ S) (.sl id (off+ll) (hh-ll) i.size false) (.slice (some ⟨x,if m=ll then o else o+ll*i.size,none⟩) (hh-ll) (m-ll)):=by
               refine .sl id (off+ll) (hh-ll) i.size false x _ none _ hx ?_ (.inl rfl) (by omega) (fun c hc'=> ?_) (fun h=>by cases h)
               . split
                 . left;omega
                 . rcases ho with ho|ho
                   . left;omega
                   . right;rw[ho,za2]
               . obtain⟨h5,h6⟩:=hin c hc';have h7:ll*i.size+(hh-ll)*i.size<=Wy*i.size:=by
                  rw[<-za2];exact zaR _ (by omega)
                 rw[za2]
                 split
                 . rename_i hl;have:hh-ll=0:=by omega
                   rw[this]at h7⊢;omega
                 . omega
              rcases hs with rfl|rfl
              . exact⟨_,_,hE _ rfl,hDV,h⟩
              . exact⟨_,_,hE _ (by exact if_pos rfl),hDV,h⟩
             |du _ _ _ hx=>
              refine⟨_,_,hE _ rfl, ?_,h⟩;have e3:ll=0:=by omega
              have e4:hh-ll=0:=by omega
              have e5:m-ll=0:=by omega
              rw[e5,e4,e3];exact .du id _ _ hx
           . cases h
         . rename_i c;simp only[zQ,zak]at hlen;subst hlen
           split at h
           . rename_i hw;rw[zaI]at hw;rcases hv.sG with⟨hc,hv0⟩|⟨x,o,sp,cap',blk,hv0,hs,hc,hb,ho,hr⟩
             rotate_left
             . cases hv0;have hl:=hr.1;have BG:=hr.cut (l:=ll) (n:=hh-ll) (by omega);have hcl:=c.ki (l:=ll) (n:=hh-ll) (by omega);have hDV:DV φ H (Own φ S) (.deep (c.cut ll (hh-ll))) (.slice (some ⟨x,if m=ll then o else o+ll*i.size,none⟩) (hh-ll) (m-ll)):=by
                split
                . rename_i hl';have h0:hh-ll=0:=by omega
                  have:=DV.deep (φ:=φ) (H:=H) (own:=Own φ S) (c.cut ll (hh-ll)) x o none (m-ll) blk (.inl rfl) (by rw[hcl];omega) hb ho (by rw[hcl,h0];omega) (fun r hr'=>by rw[hcl,h0]at hr';omega)
                  rwa [hcl]at this
                . have:=DV.deep (φ:=φ) (H:=H) (own:=Own φ S) (c.cut ll (hh-ll)) x (o+ll*c.w) none (m-ll) blk (.inl rfl) (by rw[hcl];omega) hb ho BG.1 BG.2;rw[hcl,hw]at this;exact this
               rcases hs with rfl|rfl
               . exact⟨_,_,hE _ rfl,hDV,h⟩
               . exact⟨_,_,hE _ (by exact if_pos hw),hDV,h⟩
             . injection hv0 with g1 g2 g3
               subst g1;refine⟨.deep (c.cut ll (hh-ll)),.slice none 0 0,hE _ ?_, ?_,h⟩
               . have e4:hh-ll=0:=by omega
                 have e5:m-ll=0:=by omega
                 simp only[e4,e5]
               . refine .dq _ ?_
                 rw[c.ki (by omega)];omega
           . cases h
         . cases h
       . cases h
     . cases h
   . cases h
 . cases h
theorem Fl (hS:Sim φ S H) {t:TypeId} {x:SV} {v:Value} {lo hi:Option SV} {lo' hi':Option Value} {k:SV->Option R} {r:R} (hv:DV φ H (Own φ S) x v) (hlo:OV φ H (Own φ S) lo lo') (hhi:OV φ H (Own φ S) hi hi')
 (h:IQ P S t x lo hi k=some r):∃s u,qv P t v lo' hi'=some u/\DV φ H (Own φ S) s u/\k s=some r:=by
 unfold IQ at h
 split at h
 . rename_i e hu
   split at h
   . rename_i i len hie hlen
     split at h
     . rename_i b1 hh b2 ll h1 h2
       split at h
       . rename_i hc;simp only[zae,zag]at hc;obtain⟨p1,p2,hle,hhl⟩:=hc;obtain⟨a,cap,rfl,hcap,hnil⟩:=me hS hv hlen;have e1:=jt hhi h1 p1 cap (zaP hhl hcap) (fun _=>hcap);have e2:=jt hlo h2 p2 hh hle (fun _=>zbt _);have hE:∀u,(match a with
          |none=>some (Value.slice none (hh-ll) (cap-ll))
          |some ⟨b,off,none⟩=>some (.slice (some ⟨b,if cap=ll then off else off+ll*i.size,none⟩) (hh-ll) (cap-ll))
          |some ⟨b,off,some e⟩=>if e=i.size then some (.slice (some ⟨b,if cap=ll then off else off+ll*i.size,some e⟩) (hh-ll) (cap-ll))else none)=some u->
          qv P t (.slice a len cap) lo' hi'=some u:=by
          intro u hu';unfold qv;simp only[hu,hie,e1,e2];exact hu'
         split at h
         . cases hv;refine⟨.eM,.slice none 0 0,hE _ ?_,.eM,h⟩;have:hh-ll=0:=by omega
           simp only[this,Nat.zero_sub]
         . rename_i id w ex
           split at h
           . rename_i hw;rw[zaI]at hw;subst hw;cases hv with
             |buf _ _ _ x n sp hx hn hs=>
              have hDV:∀sp',(sp'=none\/sp'=some i.size)->DV φ H (Own φ S) (.sl id ll (hh-ll) i.size lo.isNone) (.slice (some ⟨x,if len=ll then 0 else 0+ll*i.size,sp'⟩) (hh-ll) (len-ll)):=by
               intro sp' hs';refine .sl id ll (hh-ll) i.size _ x _ sp' _ hx ?_ hs' (by omega) (fun c hc=> ?_) (fun h0=> ?_)
               . split
                 . left;omega
                 . right;omega
               . have:=hn c hc;have h5:ll*i.size+(hh-ll)*i.size<=len*i.size:=by
                  rw[<-za2];exact zaR _ (by omega)
                 split
                 . rename_i hl;have:hh-ll=0:=by omega
                   rw[this]at h5⊢;omega
                 . omega
               . have h1:ll=0:=by
                  cases lo with
                  |none=>simp only[oS,zak,zaT]at h2;exact h2.2.symm
                  |some y=>cases h0
                 subst h1;exact⟨by simp,fun c hc=>hn c hc⟩
              rcases hs with rfl|⟨_,rfl,_⟩
              . exact⟨_,_,hE _ rfl,hDV _ (.inl rfl),h⟩
              . exact⟨_,_,hE _ (by exact if_pos rfl),hDV _ (.inr rfl),h⟩
             |eh _ _ hx=>
              refine⟨_,_,hE _ rfl, ?_,h⟩;have e3:ll=0:=by omega
              have e4:hh-ll=0:=by omega
              rw[e4,e3];exact .du id _ _ hx
           . cases h
         . rename_i id off Wy w pre0;simp only[zQ,zak]at hlen;subst hlen
           split at h
           . rename_i hw;rw[zaI]at hw;subst hw;cases hv with
             |sl _ _ _ _ _ x o sp _ hx ho hs hc hin hp=>
              have hDV:∀sp',(sp'=none\/sp'=some i.size)->DV φ H (Own φ S) (.sl id (off+ll) (hh-ll) i.size (pre0&&lo.isNone)) (.slice (some ⟨x,if cap=ll then o else o+ll*i.size,sp'⟩) (hh-ll) (cap-ll)):=by
               intro sp' hs';refine .sl id (off+ll) (hh-ll) i.size _ x _ sp' _ hx ?_ hs' (by omega) (fun c hc'=> ?_) (fun h0=> ?_)
               . split
                 . left;omega
                 . rcases ho with ho|ho
                   . left;omega
                   . right;rw[ho,za2]
               . obtain⟨h5,h6⟩:=hin c hc';have h7:ll*i.size+(hh-ll)*i.size<=Wy*i.size:=by
                  rw[<-za2];exact zaR _ (by omega)
                 rw[za2]
                 split
                 . rename_i hl;have:hh-ll=0:=by omega
                   rw[this]at h7⊢;omega
                 . omega
               . rw[zae]at h0;have h1:ll=0:=by
                  cases lo with
                  |none=>simp only[oS,zak,zaT]at h2;exact h2.2.symm
                  |some y=>cases h0.2
                 subst h1;obtain⟨g1,g2⟩:=hp h0.1;exact⟨by rw[g1];simp,fun c hc=>g2 c hc⟩
              rcases hs with rfl|rfl
              . exact⟨_,_,hE _ rfl,hDV _ (.inl rfl),h⟩
              . exact⟨_,_,hE _ (by exact if_pos rfl),hDV _ (.inr rfl),h⟩
             |du _ _ _ hx=>
              refine⟨_,_,hE _ rfl, ?_,h⟩;have e3:ll=0:=by omega
              have e4:hh-ll=0:=by omega
              rw[e4,e3];exact .du id _ _ hx
           . cases h
         . rename_i c;simp only[zQ,zak]at hlen;subst hlen
           split at h
           . rename_i hw;rw[zaI]at hw;rcases hv.sG with⟨hc,hv0⟩|⟨x,o,sp,cap',blk,hv0,hs,hc,hb,ho,hr⟩
             rotate_left
             . cases hv0;have hl:=hr.1;have BG:=hr.cut (l:=ll) (n:=hh-ll) (by omega);have hcl:=c.ki (l:=ll) (n:=hh-ll) (by omega);have hDV:∀sp',(sp'=none\/sp'=some i.size)->DV φ H (Own φ S) (.deep (c.cut ll (hh-ll))) (.slice (some ⟨x,if cap=ll then o else o+ll*i.size,sp'⟩) (hh-ll) (cap-ll)):=by
                intro sp' hs';have hs2:sp'=none\/sp'=some (c.cut ll (hh-ll)).w:=by rw[c.LY,hw];exact hs'
                split
                . rename_i hl';have h0:hh-ll=0:=by omega
                  have:=DV.deep (φ:=φ) (H:=H) (own:=Own φ S) (c.cut ll (hh-ll)) x o sp' (cap-ll) blk hs2 (by rw[hcl];omega) hb ho (by rw[hcl,h0];omega) (fun r hr'=>by rw[hcl,h0]at hr';omega)
                  rwa [hcl]at this
                . have:=DV.deep (φ:=φ) (H:=H) (own:=Own φ S) (c.cut ll (hh-ll)) x (o+ll*c.w) sp' (cap-ll) blk hs2 (by rw[hcl];omega) hb ho BG.1 BG.2;rw[hcl,hw]at this;exact this
               rcases hs with rfl|rfl
               . exact⟨_,_,hE _ rfl,hDV _ (.inl rfl),h⟩
               . refine⟨_,_,hE _ (by exact if_pos hw), ?_,h⟩;rw[hw];exact hDV _ (.inr rfl)
             . injection hv0 with g1 g2 g3
               subst g1;refine⟨.deep (c.cut ll (hh-ll)),.slice none 0 0,hE _ ?_, ?_,h⟩
               . have e4:hh-ll=0:=by omega
                 have e5:cap-ll=0:=by omega
                 simp only[e4,e5]
               . refine .dq _ ?_
                 rw[c.ki (by omega)];omega
           . cases h
         . cases h
       . cases h
     . cases h
   . cases h
 . rename_i n e hu
   split at h
   . rename_i id row w col i hi;cases lo' with
     |some _=>exact hlo.elim
     |none=>
      cases hi' with
      |some _=>exact hhi.elim
      |none=>
       split at h
       . rename_i c hB
         split at h
         . rename_i hc;simp only[zae,zaI]at hc;obtain⟨⟨⟨hw,hn⟩,rfl⟩,rfl⟩:=hc;cases hv with
           |ptr _ _ _ _ x hx=>
            rcases hS.blk _ _ hB with⟨h0,_⟩|⟨y,d,h1,h2,_,h4⟩
            . rw[hx]at h0;cases h0
            . rw[hx]at h1;cases h1;have h5:=h4.1;refine⟨_,.slice (some ⟨x,0,none⟩) n n, ?_,.buf id c.w true x n none hx (fun d' hd'=> ?_) (.inl rfl),h⟩
              . unfold qv;simp only[hu,hi,jo,zca,zbc,Nat.sub_zero]
                split<;>rfl
              . rw[(ag.aM h2).1]at hd';cases hd';rw[h5,hn]
         . cases h
       . rename_i q m r hB
         split at h
         . rename_i ys hc hy;simp only[zae,zaI]at hc;obtain⟨⟨⟨hw,hn⟩,rfl⟩,rfl⟩:=hc;cases hv with
           |ptr _ _ _ _ x hx=>
            rcases hS.blk _ _ hB with⟨h0,_⟩|⟨y,d,h1,h2,_,h4⟩
            . rw[hx]at h0;cases h0
            . rw[hx]at h1;cases h1;have h5:(SV.i q m::r).length=d.cells.length:=h4.1;refine⟨_,.slice (some ⟨x,0,none⟩) n n, ?_,.buf id 1 true x n none hx (fun d' hd'=> ?_) (.inl rfl),h⟩
              . unfold qv;simp only[hu,hi,jo,zca,zbc,Nat.sub_zero]
                split<;>rfl
              . rw[(ag.aM h2).1]at hd';cases hd';rw[<-h5,hn];simp
         . cases h
       . cases h
   . cases h
 . cases h
theorem vC {s:TypeId} {x u:SV} {v:Value} {f:Nat} (hx:DV φ H own x v) (h:sA P s x f=some u):∃w,jR P s v f=some w/\DV φ H own u w:=by
 unfold sA at h
 split at h
 . rename_i fs hu
   split at h
   . rename_i fd hf
     split at h
     . rename_i i hi
       split at h
       . cases h
       . rename_i hz;have hz:¬i.size=0:=by simpa using hz
         split at h
         . cases h;cases hx with
           |ptr id row w col x hx=>
            refine⟨_,by simp only[jR,hu,hf,hi,if_neg hz,Addr.add_eq];rfl, ?_⟩;rw[zbe];exact .ptr _ _ _ _ _ hx
         . cases h;cases hx with
           |dp c row col x o blk hb ho hl hc=>
            refine⟨_,by simp only[jR,hu,hf,hi,if_neg hz,Addr.add_eq];rfl, ?_⟩;rw[zbe];exact .dp _ _ _ _ _ _ hb ho hl hc
         . cases h
     . cases h
   . cases h
 . cases h
theorem D4 {s:TypeId} {x u:SV} {v:Value} {f:Nat} (hx:DV φ H own x v) (h:KF P s x f=some u):∃w,AV P s v f=some w/\DV φ H own u w:=by
 unfold KF at h
 split at h
 . rename_i fs hu
   split at h
   . rename_i fd cs hf;cases hx with
     |agg _ x' hx vx=>
      obtain⟨w,h1,h2⟩:=gx (.agg _ _ hx vx) h;exact⟨w,by simp only[AV,hu,hf];exact h1,h2⟩
   . cases h
 . cases h
theorem kJ {n:Nat} {i:Int} {k:Nat->Option R} {r:R}:∀(m:Nat),m<=n->zU n i k m=some r->∃j:Nat,j<n/\i=(j:Int)/\k j=some r
 |0,_,h=>by cases h
 |m+1,hm,h=>by
  unfold zU at h
  split at h
  . rename_i hc;have hc:=zaj hc;exact⟨n-(m+1),by omega,hc,h⟩
  . exact kJ m (by omega) h
theorem vg (hS:Sim φ S H) {t:TypeId} {x ix:SV} {v iv:Value} {k:SV->Option R} {r:R} (hx:DV φ H (Own φ S) x v) (hi:DV φ H (Own φ S) ix iv) (h:rK P S t x ix k=some r):
 ∃s u,eD P t v iv=some u/\DV φ H (Own φ S) s u/\k s=some r:=by
 unfold rK at h
 split at h
 . rename_i kk i;cases hi
   split at h
   . rename_i len e id row w col hu;cases hx with
     |ptr _ _ _ _ x hx=>
      split at h
      . rename_i ie l hie hB
        split at h
        . split at h
          . rename_i hc;have hc:=zaj hc;refine⟨_,_, ?_,.ptr id i.toNat ie.size (row*w+col) x hx,h⟩;simp only[eD,hu,hie];rw[if_pos hc,Addr.add_eq,Nat.add_comm]
          . cases h
        . obtain⟨j,hj,rfl,hk⟩:=kJ len (zap _) h;refine⟨_,_, ?_,.ptr id row w (col+j*ie.size) x hx,hk⟩;simp only[eD,hu,hie];rw[if_pos ⟨by omega,by omega⟩,Addr.add_eq,zau,zbe]
      . rename_i ie c hie hB
        split at h
        . rename_i hc;simp only[zae,zaI]at hc;obtain⟨⟨⟨hw,hn⟩,rfl⟩,rfl⟩:=hc
          split at h
          . rename_i hc;have hc:=zaj hc;refine⟨_,_, ?_,.ptr id i.toNat c.w 0 x hx,h⟩;simp only[eD,hu,hie];rw[if_pos hc,Addr.add_eq,hw];simp
          . cases h
        . obtain⟨j,hj,rfl,hk⟩:=kJ len (zap _) h;refine⟨_,_, ?_,.ptr id row w (col+j*ie.size) x hx,hk⟩;simp only[eD,hu,hie];rw[if_pos ⟨by omega,by omega⟩,Addr.add_eq,zau,zbe]
      . cases h
   . rename_i len e c row col hu;cases hx with
     |dp _ _ _ x o blk hb ho hl hc=>
      split at h
      . rename_i ie hie;obtain⟨j,hj,rfl,hk⟩:=kJ len (zap _) h;refine⟨_,_, ?_,.dp c row (col+j*ie.size) x o blk hb ho hl hc,hk⟩;simp only[eD,hu,hie];rw[if_pos ⟨by omega,by omega⟩,Addr.add_eq,zau,zbe (o+row*c.w)]
      . cases h
   . rename_i e hu
     split at h
     . rename_i ie len hie hlen
       split at h
       . rename_i hc;have hc:=zaj hc;have hE:∀(b off:Nat) (sp:Option Nat) (cap:Nat),eD P t (.slice (some ⟨b,off,sp⟩) len cap) (.int kk i)=some (.pointer (some ⟨b,off+i.toNat*ie.size,none⟩)):=by
          intro b off sp cap;simp only[eD,hu,hie];rw[if_pos hc]
         obtain⟨a,cap,hvs,_,hnil⟩:=me hS hx hlen
         split at h
         . rename_i id w ex
           split at h
           . rename_i hw;rw[zaI]at hw;subst hw;cases hx with
             |buf _ _ _ x n sp hx hn hs=>
              cases hvs;refine⟨_,_,hE _ _ _ _, ?_,h⟩;have:=DV.ptr (φ:=φ) (H:=H) (own:=Own φ S) id i.toNat ie.size 0 x hx
              rwa [zbc,<-zaF (i.toNat*ie.size)]at this
             |eh=>
              cases hvs;exfalso;have:=hnil rfl;omega
           . cases h
         . rename_i id off Wy w pre0
           split at h
           . rename_i hw;rw[zaI]at hw;subst hw;cases hx with
             |sl _ _ _ _ _ x o sp cap hx ho hs hc' hin=>
              cases hvs;refine⟨_,_,hE _ _ _ _, ?_,h⟩;have:=DV.ptr (φ:=φ) (H:=H) (own:=Own φ S) id (off+i.toNat) ie.size 0 x hx;rcases ho with ho|ho
              . omega
              . rwa [zbc,za2,<-ho]at this
             |du=>
              cases hvs;exfalso;have:=hnil rfl;omega
           . cases h
         . rename_i c
           split at h
           . rename_i hw;rw[zaI]at hw;cases hx with
             |deep _ x o sp cap blk hs hc' hb ho hl sE=>
              cases hvs;refine⟨_,_,hE _ _ _ _, ?_,h⟩;have:=DV.dp (φ:=φ) (H:=H) (own:=Own φ S) c i.toNat 0 x o blk hb ho hl sE
              rwa [zbc,hw]at this
             |dq _ hc'=>
              cases hvs;exfalso;have:=hnil rfl;omega
           . cases h
         . cases h
       . cases h
     . cases h
   . cases h
 . cases h
theorem NU {t:TypeId} {i:TypeInfo} {cs:List SV} {o:Nat} {s:SV} (hi:P.info? t=some i) (hl:o+i.size<=cs.length) (h:o8 P t ((cs.drop o).take i.size) 0=some s):o8 P t cs o=some s:=by
 unfold o8 at h⊢;rw[hi]at h⊢;cases hd:P.underlying t with
 |none=>rw[hd]at h;cases h
 |some d=>
  rw[hd]at h;dsimp only at h⊢;cases ha:nh d with
  |true=>
   rw[ha]at h;dsimp only at h⊢;rw[zaa hl]
   split at h
   . simpa[List.take_take]using h
   . cases h
  |false=>
   rw[ha]at h;dsimp only at h⊢;rw[zav]at h
   split at h
   . simpa using h
   . cases h
theorem DL {t:TypeId} {x ix:SV} {v iv:Value} {k:SV->Option R} {r:R} (hx:DV φ H own x v) (hi:DV φ H own ix iv) (h:Ix P t x ix k=some r):
 ∃s u,qo P t v iv=some u/\DV φ H own s u/\k s=some r:=by
 unfold Ix at h
 split at h
 . rename_i kk i;cases hi
   split at h
   . rename_i len e cs hu
     split at h
     . rename_i ie hie
       split at h
       . split at h
         . rename_i hc;have hc:=zaj hc;obtain⟨hl,h⟩:=wF h
           split at h
           . rename_i s hs;cases hx with
             |agg _ x' hx vx=>
              obtain⟨u,h1,h2⟩:=gx (.agg _ _ hx vx) (NU hie (by omega) hs);refine⟨s,u, ?_,h2,h⟩;simp only[qo,hu,hie];rw[if_pos hc];exact h1
           . cases h
         . cases h
       obtain⟨j,hj,rfl,hk⟩:=kJ len (zap _) h;cases hx with
       |agg _ x' hx vx=>
        split at hk
        . rename_i s hs;obtain⟨u,h1,h2⟩:=gx (.agg _ _ hx vx) hs;refine⟨s,u, ?_,h2,hk⟩;simp only[qo,hu,hie];rw[if_pos ⟨by omega,by omega⟩,zau];exact h1
        . cases hk
     . cases h
   . rename_i s hu
     split at h
     . rename_i hb;have hb:=zaj hb;cases hx;refine⟨_,_, ?_,.i _ _,h⟩;have hg:s.data[i.toNat]? =some (s.data.getD i.toNat 0):=by
        rw[zba,zaz hb.2];rfl
       simp only[qo,hu,hb.1,zbh,hg]
     . cases h
   . cases h
 . cases h
end
end
end
end Go.Proofs.YtfaojedfnjdnnaaGreat.Ev
namespace Go.Proofs.YtfaojedfnjdnnaaGreat.Ev
noncomputable section
noncomputable section
open Go
section
variable {R : Type} {P : Program} {φ : Phi} {H : ag} {own : Nat -> Prop} {S : aj}
theorem BV.Z3 {c:aE} {cells:List Value} {o:Nat} (h:Rgn φ H own c cells o):BV φ H own (.cont c) ((cells.drop o).take (c.len*c.w)):=by
 refine⟨by simp;have:=h.1;omega,fun r hr j s hs v hv=> ?_⟩;rw[zav]at hv
 split at hv
 . rw[zaA]at hv;exact h.2 r hr j s hs v (by rw[zbe];exact hv)
 . cases hv
theorem z6 {k:IntKind}:∀{l:List SV} {xs:List Int},qW k l=some xs->xs.length=l.length/\∀i (h:i<xs.length),l[i]? =some (.i k xs[i])
 |[],xs,h=>by cases h;exact⟨rfl,fun i h=>by simp at h⟩
 |s::l,xs,h=>by
  unfold qW at h
  split at h
  . rename_i e;cases e
  . rename_i k' n r e;cases e
    split at h
    . rename_i ys hk hr;cases h;rw[zaI]at hk;subst hk;obtain⟨h1,h2⟩:=z6 hr;refine⟨by simp[h1],fun i hi=> ?_⟩;cases i with
      |zero=>rfl
      |succ i=>simpa using h2 i (by simpa using hi)
    . cases h
  . cases h
theorem BV.MD {own:Nat->Prop} {k:IntKind} {l:List SV} {xs:List Int} {cs:List Value} (hB:BV φ H own (.cells l) cs) (h:qW k l=some xs):BV φ H own (.cont (.ints k xs)) cs:=by
 obtain⟨h1,h2⟩:=z6 h;have hB:DVL φ H own l cs:=hB;refine⟨by rw[<-hB.1,<-h1];simp[aE.len,aE.w],fun r hr j s hs v hv=> ?_⟩;have hr:r<xs.length:=hr
 match j with
 |0=>
  simp[aE.row,hr]at hs;subst hs;exact hB.2 r _ v (h2 r hr) (by simpa[aE.w]using hv)
 |j+1=>simp[aE.row]at hs
theorem xq (hS:Sim φ S H) {x:SV} {v:Value} {c:aE} (hv:DV φ H (Own φ S) x v) (h:pg S x=some c):
 ∃a cap cs,v= .slice a c.len cap/\(∀m,m<=c.len->bg H c.w m v=some (cs.take (m*c.w)))/\BV φ H (Own φ S) (.cont c) cs/\c.len<=cap:=by
 have nil:∀c:aE,c.len=0->∀w:Value,w= .slice none 0 0->∃a cap cs,w= .slice a c.len cap/\(∀m,m<=c.len->bg H c.w m w=some (cs.take (m*c.w)))/\BV φ H (Own φ S) (.cont c) cs/\c.len<=cap:=by
  rintro c hc w rfl
  refine⟨none,0,[],by rw[hc],fun m hm=> ?_,⟨by rw[hc];simp,fun r hr=>by omega⟩,by omega⟩;have:m=0:=by omega
  subst this;simp[bg]
 have reg:∀(c:aE) (x o:Nat) (sp:Option Nat) (cap:Nat) (blk:Blk),H.get x=some blk->Rgn φ H (Own φ S) c blk.cells o->c.len<=cap->
  ∃a cap' cs,Value.slice (some ⟨x,o,sp⟩) c.len cap= .slice a c.len cap'/\(∀m,m<=c.len->bg H c.w m (.slice (some ⟨x,o,sp⟩) c.len cap)=some (cs.take (m*c.w)))/\BV φ H (Own φ S) (.cont c) cs/\c.len<=cap':=by
  intro c x o sp cap blk hb hr hc;refine⟨_,_,_,rfl,fun m hm=> ?_,BV.Z3 hr,hc⟩;have h1:=hr.1;have h2:m*c.w<=c.len*c.w:=zaR _ hm;simp only[bg];rw[fH hb (by omega),List.take_take,zbY h2]
 unfold pg at h
 split at h
 . rename_i id w ex
   split at h
   . rename_i d hB
     split at h
     . rename_i hw;simp only[zae,zaI,zag]at hw;cases h;cases hv with
       |buf _ _ _ x n sp hx hn hs=>
        rcases hS.blk _ _ hB with⟨h0,_⟩|⟨y,d,h1,h2,_,h4⟩
        . rw[hx]at h0;cases h0
        . rw[hx]at h1;cases h1;have e1:=hn d (ag.aM h2).1;have e2:=h4.1;have:n=c.len:=by
           rw[e1,hw.1]at e2;exact zbJ (by omega) e2
          subst this;exact reg c x 0 sp _ d h2 (BV.rgn h4) (zap _)
       |eh _ _ hx=>
        rcases hS.blk _ _ hB with⟨_,h0⟩|⟨y,d,h1,_⟩
        . exact nil c h0 _ rfl
        . rw[hx]at h1;cases h1
     . cases h
   . rename_i k n0 r hB
     split at h
     . rename_i ys hc hy;simp only[zae,zaI]at hc;obtain⟨rfl,rfl⟩:=hc;cases h;cases hv with
       |buf _ _ _ x n sp hx hn hs=>
        rcases hS.blk _ _ hB with⟨h0,_⟩|⟨y,d,h1,h2,_,h4⟩
        . rw[hx]at h0;cases h0
        . rw[hx]at h1;cases h1;have h4:=BV.MD h4 hy;have e1:=hn d (ag.aM h2).1;have e2:=h4.1;have:n=(aE.ints k ys).len:=by
           rw[e1]at e2;simpa[aE.w]using e2
          subst this;exact reg (.ints k ys) x 0 sp _ d h2 (BV.rgn h4) (zap _)
     . cases h
   . cases h
 . rename_i id off len w pre0
   split at h
   . rename_i d hB
     split at h
     . rename_i hw;simp only[zae,zaI,zag]at hw;cases h;cases hv with
       |sl _ _ _ _ _ x o sp cap hx ho hs hc hin hp=>
        rcases hS.blk _ _ hB with⟨h0,_⟩|⟨y,b,h1,h2,_,h4⟩
        . rw[hx]at h0;cases h0
        . rw[hx]at h1;cases h1;obtain⟨i1,i2⟩:=hin b (ag.aM h2).1;have e2:=h4.1;have hle:off+len<=d.len:=by
           rw[e2,hw.1,<-za2]at i2;exact Nat.le_of_mul_le_mul_right i2 (by omega)
          have BG:=(BV.rgn h4).cut hle;have hl:=d.ki hle;rcases ho with h0|h0
          . subst h0;have:=reg (d.cut off 0) x o sp cap b h2 ⟨by rw[hl];omega,fun r hr=>by rw[hl]at hr;omega⟩ (by rw[hl];omega);simp only[hl]at this⊢;exact this
          . rw[zaF,<-hw.1,<-h0]at BG;have:=reg (d.cut off len) x o sp cap b h2 BG (by rw[hl];exact hc);simp only[hl]at this⊢;exact this
       |du _ _ _ hx=>
        rcases hS.blk _ _ hB with⟨_,h0⟩|⟨y,b,h1,_⟩
        . have h0:d.len=0:=h0;exact nil _ (d.ki (by omega)) _ rfl
        . rw[hx]at h1;cases h1
     . cases h
   . cases h
 . cases h;rcases hv.sG with⟨hc,rfl⟩|⟨x,o,sp,cap,blk,rfl,hs,hc,hb,ho,hr⟩
   . exact nil _ hc _ rfl
   . exact reg _ x o sp cap blk hb hr hc
 . cases h
theorem aE.qE {a b c:aE} {cs ds:List Value} (h:a.app b=some c) (ha:BV φ H own (.cont a) cs) (hb:BV φ H own (.cont b) ds):BV φ H own (.cont c) (cs++ds)/\c.len=a.len+b.len/\c.w=a.w/\b.w=a.w:=by
 have key:∀(hl:c.len=a.len+b.len) (hw:c.w=a.w) (hw':b.w=a.w) (h1:∀r,r<a.len->c.row r=a.row r) (h2:∀r,a.len<=r->c.row r=b.row (r-a.len)),BV φ H own (.cont c) (cs++ds)/\c.len=a.len+b.len/\c.w=a.w/\b.w=a.w:=by
  intro hl hw hw' h1 h2;refine⟨⟨?_,fun r hr j s hs v hv=> ?_⟩,hl,hw,hw'⟩
  . rw[zab,ha.1,hb.1,hl,hw,hw',za2]
  . rw[hw]at hv;have hj:j<a.w:=by
     have:=(zao.1 hs).1
     rwa [aE.sX,hw]at this
    rw[zaV]at hv
    by_cases hra:r<a.len
    . have:=jP (w:=a.w) hra;rw[if_pos (by rw[ha.1];omega)]at hv;rw[h1 r hra]at hs;exact ha.2 r hra j s hs v hv
    . have hge:a.len*a.w<=r*a.w:=zaR _ (by omega);rw[if_neg (by rw[ha.1];omega),ha.1]at hv;rw[h2 r (by omega)]at hs;refine hb.2 (r-a.len) (by omega) j s hs v ?_
      rw[hw',Nat.sub_mul,show r*a.w-a.len*a.w+j=r*a.w+j-a.len*a.w by omega];exact hv
 unfold aE.app at h
 split at h
 . split at h
   . rename_i hk;rw[zaI]at hk;subst hk;cases h;refine key (by simp[aE.len]) rfl rfl (fun r hr=> ?_) (fun r hr=> ?_)
     . simp only[aE.row,zaf];rw[zax hr]
     . simp only[aE.row,zaf,aE.len];rw[zaK hr]
   . cases h
 . split at h
   . rename_i hk;cases h;have:=gY.2 _ _ hk;subst this;refine key (by simp[aE.len]) rfl rfl (fun r hr=> ?_) (fun r hr=> ?_)
     . simp only[aE.row,zaf];rw[zax hr]
     . simp only[aE.row,zaf,aE.len];rw[zaK hr]
   . cases h
 . cases h
theorem oL {e:TypeId} {n:Nat} {c:aE} (h:mA P e n=some c):c.len=n:=by
 unfold mA at h
 split at h
 . split at h
   . split at h
     . cases h;simp[aE.len]
     . cases h
   . cases h
 . split at h
   . split at h
     . cases h;simp[aE.len]
     . cases h
   . cases h
theorem BV.rows {B:aS} {cs:List Value} (hB:BV φ H own B cs) (hw:0<B.w):cs.length=B.len*B.w:=by
 cases B with
 |cells l=>simp[aS.w]at hw
 |cont c=>exact hB.1
 |fh j v e rows=>simp[aS.len,aS.w,hB.1]
theorem aS.NR {B:aS} (h:B.empty):B.len=0:=by
 cases B with
 |cells l=>rfl
 |cont c=>exact h
 |fh j v e rows=>exact h
theorem aS.PC {B:aS} (h:B.len=0):B.empty:=by
 cases B with
 |cells l=>trivial
 |cont c=>exact h
 |fh j v e rows=>exact h
theorem BV.none {B:aS} (h:B.len=0) (hw:0<B.w):BV φ H own B []:=by
 cases B with
 |cells l=>simp[aS.w]at hw
 |cont c=>exact⟨by show 0=c.len*c.w;rw[show c.len=0 from h];simp,fun r hr=>by have:c.len=0:=h;omega⟩
 |fh j v e rows=>exact⟨by show 0=rows.length;exact h.symm,fun r v hr=>by have:rows.length=0:=h;omega⟩
theorem aS.qE {a b c:aS} {cs ds:List Value} (h:a.app b=some c) (ha:BV φ H own a cs) (hb:BV φ H own b ds):BV φ H own c (cs++ds)/\c.len=a.len+b.len/\c.w=a.w/\b.w=a.w:=by
 unfold aS.app at h
 split at h
 . split at h
   . rename_i c' hc;cases h;exact aE.qE hc ha hb
   . cases h
 . rename_i j v e rows j' v' e' WS
   split at h
   . rename_i hk;simp only[zae,zaI]at hk;obtain⟨rfl,rfl,rfl⟩:=hk;cases h;have h1:=ha.1;have h2:=hb.1;refine⟨⟨by rw[zab,zab];omega,fun r u hr hu=> ?_⟩,by simp[aS.len],rfl,rfl⟩;rw[zaV]at hu;rw[zab]at hr
     by_cases hra:r<rows.length
     . rw[if_pos (by omega)]at hu;have:=ha.2 r u hra hu
       rwa [zaf,zax hra,<-zaf]
     . rw[if_neg (by omega)]at hu;have:=hb.2 (r-cs.length) u (by omega) hu;rw[zaf,zaK (by omega),<-zaf]
       rwa [h1]at this
   . cases h
 . cases h
theorem Ha (hS:Sim φ S H) {x:SV} {v:Value} {B:aS} (hv:DV φ H (Own φ S) x v) (h:OL S x=some B):
 ∃a cap cs,v= .slice a B.len cap/\(∀m,m<=B.len->bg H B.w m v=some (cs.take (m*B.w)))/\BV φ H (Own φ S) B cs/\B.len<=cap:=by
 have old:∀(x:SV) (c:aE),DV φ H (Own φ S) x v->pg S x=some c->∃a cap cs,v= .slice a (aS.cont c).len cap/\(∀m,m<=(aS.cont c).len->bg H (aS.cont c).w m v=some (cs.take (m*(aS.cont c).w)))/\BV φ H (Own φ S) (.cont c) cs/\(aS.cont c).len<=cap:=fun x c h1 h2=>xq hS h1 h2
 unfold OL at h
 split at h
 . rename_i id w ex
   split at h
   . rename_i j v' e rows hB
     split at h
     . rename_i hw;rw[zaI]at hw;subst hw;cases h;cases hv with
       |buf _ _ _ x n sp hx hn hs=>
        rcases hS.blk _ _ hB with⟨h0,_⟩|⟨y,d,h1,h2,_,h4⟩
        . rw[hx]at h0;cases h0
        . rw[hx]at h1;cases h1;have e1:=hn d (ag.aM h2).1;have e2:=h4.1;have:n=rows.length:=by omega
          subst this;refine⟨_,_,d.cells,rfl,fun m hm=> ?_,h4,zap _⟩;have hm:m<=rows.length:=hm;simp only[bg,aS.w,zcf];rw[fH h2 (by omega),zbQ]
       |eh _ _ hx=>
        rcases hS.blk _ _ hB with⟨_,h0⟩|⟨y,d,h1,_⟩
        . have h0:rows.length=0:=h0;refine⟨none,0,[],by simp[aS.len,h0],fun m hm=> ?_,BV.none h0 (by simp[aS.w]),by simp[aS.len,h0]⟩;have hm:m<=rows.length:=hm;have:m=0:=by omega
          subst this;simp[bg]
        . rw[hx]at h1;cases h1
     . cases h
   . rename_i j row v' e hB
     split at h
     . rename_i hw;simp only[zae,zaI]at hw;obtain⟨rfl,rfl⟩:=hw;cases h;cases hv with
       |buf _ _ _ x n sp hx hn hs=>
        rcases hS.blk _ _ hB with⟨h0,_⟩|⟨y,d,h1,h2,_,h4⟩
        . rw[hx]at h0;cases h0
        . rw[hx]at h1;cases h1;have e1:=hn d (ag.aM h2).1;obtain⟨u,us,hd,hu,h5⟩:=DVL.gG h4;have hus:us=[]:=by have:=h5.1;simpa using this.symm
          subst hus;have hn1:n=1:=by rw[hd]at e1;simp at e1;omega
          subst hn1;refine⟨_,_,d.cells,rfl,fun m hm=> ?_,⟨by rw[hd];rfl,fun r u' hr hu'=> ?_⟩,zap _⟩
          . have hm:m<=1:=hm;simp only[bg,aS.w,zcf];rw[fH h2 (by omega),zbQ]
          . have hr:r<1:=hr;have:r=0:=by omega
            subst this;rw[hd]at hu';simp at hu';subst hu';cases hu with
            |ptr _ _ _ _ y hy=>
             have:=DV.np (φ:=φ) (H:=H) (own:=Own φ S) j v' e y (row:Int) (by omega) hy;simpa using this
     . cases h
   . split at h
     . rename_i c hc;cases h;exact old _ c hv hc
     . cases h
 . split at h
   . rename_i c hc;cases h;exact old _ c hv hc
   . cases h
theorem aE.zh {own:Nat->Prop} {d s c:aE} {a:Nat} {cs ds:List Value} (h:d.gU a s=some c) (ha:a+s.len<=d.len) (hd:BV φ H own (.cont d) cs) (hs:BV φ H own (.cont s) ds):
 BV φ H own (.cont c) (cs.take (a*d.w)++ds++cs.drop (a*d.w+ds.length))/\s.w=d.w/\c.len=d.len/\c.w=d.w:=by
 have key:∀(hl:c.len=d.len) (hw:c.w=d.w) (hw':s.w=d.w) (h1:∀r,r<a->c.row r=d.row r) (h2:∀r,r<s.len->c.row (a+r)=s.row r) (h3:∀r,a+s.len<=r->c.row r=d.row r),
  BV φ H own (.cont c) (cs.take (a*d.w)++ds++cs.drop (a*d.w+ds.length))/\s.w=d.w/\c.len=d.len/\c.w=d.w:=by
  intro hl hw hw' h1 h2 h3;have e1:=hd.1;have e2:=hs.1;rw[hw']at e2;have m1:a*d.w+s.len*d.w<=d.len*d.w:=by rw[<-za2];exact zaR _ ha
  refine⟨⟨by simp only[zab,zas,zbd];rw[hl,hw];omega,fun r hr j u hu v hv=> ?_⟩,hw',hl,hw⟩;rw[hw]at hv;have hj:j<d.w:=by
   have:=(zao.1 hu).1
   rwa [aE.sX,hw]at this
  rw[hl]at hr;rw[zaq,zaV,zas,zbY (by omega)]at hv
  by_cases hra:r<a
  . have:=jP (w:=d.w) hra;rw[if_pos (by omega),zav,if_pos (by omega)]at hv;rw[h1 r hra]at hu;exact hd.2 r hr j u hu v hv
  . have hge:a*d.w<=r*d.w:=zaR _ (by omega);rw[if_neg (by omega),zaV]at hv
    by_cases hrs:r<a+s.len
    . obtain⟨q,rfl⟩:∃q,r=a+q:=⟨r-a,by omega⟩
      have hq:=jP (w:=d.w) (show q<s.len by omega);have em:=za2 a q d.w;rw[if_pos (by omega)]at hv;rw[h2 q (by omega)]at hu;exact hs.2 q (by omega) j u hu v (by rw[hw',<-hv];congr 1;omega)
    . have afA:(a+s.len)*d.w<=r*d.w:=zaR _ (by omega);rw[za2]at afA;rw[if_neg (by omega),zaA]at hv;rw[h3 r (by omega)]at hu;exact hd.2 r hr j u hu v (by rw[<-hv];congr 1;omega)
 unfold aE.gU at h
 split at h
 . split at h
   . rename_i xs k' ys hk;rw[zaI]at hk;subst hk;cases h;simp only[aE.len]at ha;refine key (by simp only[aE.len,zab,zas,zbd];omega) rfl rfl (fun r hr=> ?_) (fun r hr=> ?_) (fun r hr=> ?_)
     . simp only[aE.row,zaf,zaq];rw[zax (by rw[zas];omega),zav,if_pos hr]
     . simp only[aE.len]at hr;simp only[aE.row,zaf,zaq];rw[zaK (by rw[zas];omega),zas,zbY (by omega),Nat.add_sub_cancel_left,zax hr]
     . simp only[aE.len]at hr;simp only[aE.row,zaf,zaq];rw[zaK (by rw[zas];omega),zas,zbY (by omega),zaK (by omega),zaA]
       congr 4;omega
   . cases h
 . split at h
   . rename_i xs l' ys hk;have:=gY.2 _ _ hk;subst this;cases h;simp only[aE.len]at ha;refine key (by simp only[aE.len,zab,zas,zbd];omega) rfl rfl (fun r hr=> ?_) (fun r hr=> ?_) (fun r hr=> ?_)
     . simp only[aE.row,zaf,zaq];rw[zax (by rw[zas];omega),zav,if_pos hr]
     . simp only[aE.len]at hr;simp only[aE.row,zaf,zaq];rw[zaK (by rw[zas];omega),zas,zbY (by omega),Nat.add_sub_cancel_left,zax hr]
     . simp only[aE.len]at hr;simp only[aE.row,zaf,zaq];rw[zaK (by rw[zas];omega),zas,zbY (by omega),zaK (by omega),zaA]
       congr 4;omega
   . cases h
 . cases h
theorem Step.ghost {S:aj} (hS:Sim φ S H) {id:Nat} {B B':aS} (hB:S.get id=some B) (hφ:φ id=some none) (hl:S.lock<=id) (he:B'.empty):Step φ S H φ (S.put id (some B')) H:=by
 have jv:∀j C,(S.put id (some B')).get j=some C->∃D,S.get j=some D:=by
  intro j C h;rcases aj.fS _ _ _ _ h with⟨rfl,_⟩|⟨_,h2⟩
  . exact⟨_,hB⟩
  . exact⟨_,h2⟩
 have lA:∀y,fE φ (S.put id (some B')) y->fE φ S y:=by
  rintro y ⟨j,C,h1,h2⟩
  obtain⟨D,hD⟩:=jv j C h1;exact⟨j,D,hD,h2⟩
 have fW:Ext φ H (Own φ S) φ H (Own φ (S.put id (some B'))):=⟨fun _ _ h=>h,fun y d h1 h2=>⟨h1,fun h=>h2 (h.imp _root_.id (lA y))⟩,fun j y d h1 h2=>⟨d,h2,rfl⟩⟩
 refine⟨⟨?_, ?_,hS.fresh,hS.lt,hS.jl,hS.dT,hS.gW⟩,fun _ _ h=>h,rfl,fun y _ h=>lA y h,fun _ _ _=>rfl,fun _ d _ h=>⟨d,h,rfl⟩,zap _,rfl,rfl,zap _,rfl,rfl, ?_⟩
 . intro j C h1;rcases aj.fS _ _ _ _ h1 with⟨rfl,h2⟩|⟨_,h2⟩
   . cases h2;exact .inl ⟨hφ,he⟩
   . rcases hS.blk _ _ h2 with h3|⟨y,d,h3,h4,h5,h6⟩
     . exact .inl h3
     . exact .inr ⟨y,d,h3,h4,h5,h6.mono fW⟩
 . intro j j' C C' y h1 h2 h3 h4;obtain⟨D,hD⟩:=jv j C h1;obtain⟨D',hD'⟩:=jv j' C' h2;exact hS.inj j j' D D' y hD hD' h3 h4
 . intro j _ h2;have e:j≠id:=by
    rintro rfl
    rcases h2 with h2|h2
    . omega
    . rw[hB]at h2;cases h2
   rw[aj.cT,if_neg e]
def Got (φ:Phi) (S:aj) (H:ag) (S':aj) (s:SV) (H':ag) (v:Value):Prop:=∃φ',Step φ S H φ' S' H'/\DV φ' H' (Own φ' S') s v
theorem BM (hS:Sim φ S H) {t u:TypeId} {s x:SV} {v w:Value} {k:SV->aj->Option R} {r:R} (hs:DV φ H (Own φ S) s v) (hx:DV φ H (Own φ S) x w) (h:EB P S t u s x k=some r):
 ∃z S' y H',eg P H t u v w=some (y,H')/\Got φ S H S' z H' y/\k z S'=some r:=by
 unfold EB at h
 split at h
 . rename_i e htu hu;rw[zaI]at htu;subst htu
   split at h
   . rename_i i hi
     split at h
     . rename_i hc;simp only[zae,zaI,zag]at hc;obtain⟨rh,hzc⟩:=hc;obtain⟨z0,zc,hz1,hz2,hz3⟩:∃z0 zc,i.zero=some z0/\gu z0=some zc/\zc.length=i.size:=by
        split at hzc
        . rename_i zc hh;rw[zaI]at hzc;rw[zaM]at hh;obtain⟨z0,a,b⟩:=hh;exact⟨z0,zc,a,b,hzc⟩
        . cases hzc
       split at h
       . rename_i new fk;obtain⟨a,cap,ds,rfl,hds,hBn,_⟩:∃a cap ds,w= .slice a new.len cap/\(∀m,m<=new.len->bg H new.w m w=some (ds.take (m*new.w)))/\BV φ H (Own φ S) new ds/\new.len<=cap:=by
          split at fk
          . split at fk
            . rename_i z hz;have hz0:=oL hz;cases fk;cases hx;have hl0:(aS.cont z).len=0:=hz0;refine⟨none,0,[],by rw[hl0],fun m hm=> ?_,⟨by rw[hz0];simp,fun r hr=>by omega⟩,by omega⟩;have:m=0:=by omega
              subst this;simp[bg]
            . cases fk
          . exact Ha hS hx fk
         have kW:new.w=i.size->bg H i.size new.len (.slice a new.len cap)=some ds:=by
          intro hw;have:=hds new.len (zap _);rw[hw]at this;rw[this,zbq];rw[hBn.rows (by omega),hw];exact zap _
         have hE:∀(b:Option Addr) (n0 c0:Nat),new.w=i.size->n0<=c0->n0+new.len<1099511627776->(n0+new.len)*i.bytes<35184372088832->
          eg P H t t (.slice b n0 c0) (.slice a new.len cap)=(match new.len with
           |0=>some (.slice b n0 c0,H)
           |_+1=>match b with
            |none=>some (.slice (some ⟨H.size,0,some i.size⟩) new.len new.len,aG H ds)
            |some ⟨b',off,sp⟩=>
             match decide (n0+new.len<=c0)with
             |true=>(setCells H b' (off+n0*i.size) ds).map fun H'=>(.slice b (n0+new.len) c0,H')
             |false=>
              match bg H i.size n0 (.slice b n0 c0)with
              |some old=>
               match sp with
               |some e=>
                match H.get b' with
                |some k=>
                 if H.sm b' k&&e==i.size&&off==0&&k.cells.length==n0*i.size&&0<n0 then
                  some (.slice (some ⟨H.size,0,some i.size⟩) (n0+new.len) (n0+new.len),aG (H.put b' none) (old++ds))
                 else none
                |none=>none
               |none=>some (.slice (some ⟨H.size,0,some i.size⟩) (n0+new.len) (n0+new.len),aG H (old++ds))
              |none=>none):=by
          intro b n0 c0 hw h1 h2 h3;unfold eg;simp only[zbh,hu,hi,hz1,hz2,kW hw];rw[if_pos ⟨hz3,rh,h1,h2,h3⟩];cases hl:new.len with
          |zero=>rfl
          |succ m=>
           simp only[hl];cases b with
           |none=>rfl
           |some ad=>rfl
         have Ij:∀(S1:aj) (c:aS),(∀j C,S1.get j=some C->S.get j=some C)->S1.size=S.size->S1.lock=S.lock->S1.hid=S.hid->(∀j,j<S.size->j<S.lock\/S.get j=none->S1.root.get j=S.root.get j)->
          BV φ H (Own φ S) c ds->c.len=new.len->new.w=i.size->c.w=i.size->new.len<1099511627776->new.len*i.bytes<35184372088832->
          ∃y H',eg P H t t (.slice none 0 0) (.slice a new.len cap)=some (y,H')/\Got φ S H (S1.push c) (.buf S.size i.size false) H' y:=by
          intro S1 c g1 g2 g3 g4 g5 hB hcl hw hcw h2 h3;have hEE:=hE none 0 0 hw (zap _) (by omega) (by rw[zaF];exact h3);rcases Nat.eq_zero_or_pos new.len with hl|hlp
          . refine⟨.slice none 0 0,H,by rw[hl]at hEE⊢;exact hEE,_,Step.gen hS c none g1 g2 g3 g4 g5 (zap _) rfl rfl (fun _ _ _=>rfl) (fun x c' _ h=>⟨c',h,rfl⟩) (fun x hx=>by cases hx) (fun _=>aS.PC (by omega)) (fun x hx=>by cases hx), ?_⟩;exact .eh _ _ (by simp[Phi.add])
          . obtain⟨m,hl⟩:∃m,new.len=m+1:=⟨new.len-1,by omega⟩
            have hold:∀x,x<H.size->(aG H ds).get x=H.get x:=fun x hx=>ag.fa _ _ _ hx
            have MV:(aG H ds).get H.size=some ⟨ds⟩:=by
             unfold ag.get;rw[if_pos (by simp[aG]),show(aG H ds).hid=H.hid from rfl,hS.gW _ (zap _)];simp[aG,ag.bW]
            refine⟨_,aG H ds,by rw[hl]at hEE⊢;exact hEE,_,Step.gen hS c (some H.size) g1 g2 g3 g4 g5 (by simp[aG]) rfl rfl (fun x hx _=>hold x hx) (fun x c' hx h=>⟨c',by rw[aG,ag.bW,if_neg (by omega)]at h;exact h,rfl⟩) ?_ (fun h=>by cases h) ?_, ?_⟩
            . intro x hx;cases hx;refine⟨.inl (zap _), ?_,by simp[aG],hS.dT⟩
              rintro⟨j,C,_,h⟩
              have:=hS.lt j _ h;omega
            . intro x hx;cases hx;exact⟨⟨ds⟩,MV,fun e=>hB.mono e⟩
            . refine .buf S.size i.size false H.size (m+1) (some i.size) (by simp[Phi.add]) (fun c' hc'=> ?_) (.inr ⟨rfl,rfl,by omega⟩);rw[(ag.aM MV).1]at hc';cases hc';show ds.length=_;rw[hB.rows (by omega),hcl,hl,hcw]
         split at h
         ·
          split at h
          . rename_i hcw;rw[zaI]at hcw
            split at h
            . rename_i FV;obtain⟨h2,h3⟩:=zaj FV;cases hs;obtain⟨y,H',h4,h5⟩:=Ij S new (fun _ _ h=>h) rfl rfl rfl (fun _ _ _=>rfl) hBn rfl hcw hcw h2 h3;exact⟨_,_,y,H',h4,h5,h⟩
            . cases h
          . cases h
         ·
          rename_i id w' ex
          split at h
          . rename_i old hB
            split at h
            . rename_i c WU hww;simp only[zae,zaI]at hww;obtain⟨hw1,hw2⟩:=hww;subst hw1
              split at h
              . rename_i FV;obtain⟨h2,h3⟩:=zaj FV;have Dq:∀j C,(S.put id none).get j=some C->j≠id/\S.get j=some C:=by
                 intro j C h;rcases aj.fS _ _ _ _ h with⟨_,h2⟩|⟨h1,h2⟩
                 . cases h2
                 . exact⟨h1,h2⟩
                have FW:S.lock<=id->∀j,j<S.size->j<S.lock\/S.get j=none->(S.put id none).root.get j=S.root.get j:=by
                 intro hl j _ h2;have e:j≠id:=by
                  rintro rfl
                  rcases h2 with h2|h2
                  . omega
                  . rw[hB]at h2;cases h2
                 rw[aj.cT,if_neg e]
                cases hs with
                |eh _ _ hφ=>
                 rcases hS.blk _ _ hB with⟨_,h0⟩|⟨y,d,h1,_⟩
                 . have h0:old.len=0:=aS.NR h0;obtain⟨hBc,hcl,hcw,hnw⟩:=aS.qE (cs:=[]) WU (BV.none h0 (by omega)) hBn;rw[h0,zaF]at hcl h2 h3
                   split at h
                   . rename_i hl;have hl:=zaj hl;obtain⟨y,H',h4,h5⟩:=Ij (S.put id none) c (fun j C h=>(Dq j C h).2) rfl rfl rfl (FW hl) (by simpa using hBc) hcl (by rw[hnw,hw2]) (by rw[hcw,hw2]) h2 h3;exact⟨_,_,y,H',h4,h5,h⟩
                   . cases h
                 . rw[hφ]at h1;cases h1
                |buf _ _ _ x0 n sp hφ hn hsp=>
                 rcases hS.blk _ _ hB with⟨h0,_⟩|⟨y0,d,h1,hd,hlk,hBd⟩
                 . rw[hφ]at h0;cases h0
                 rw[hφ]at h1;cases h1;have hlen:=hn d (ag.aM hd).1;have hnl:n=old.len:=by
                  have:=hBd.rows (by omega);rw[hlen,hw2]at this;exact zbJ rh this
                 subst hnl;obtain⟨hBc,hcl,hcw,hnw⟩:=aS.qE WU hBd hBn;have adC:new.w=i.size:=by rw[hnw,hw2]
                 have hEE:=hE (some ⟨x0,0,sp⟩) old.len old.len adC (zap _) h2 h3;have hold:bg H i.size old.len (.slice (some ⟨x0,0,sp⟩) old.len old.len)=some d.cells:=by
                  simp only[bg];rw[fH hd (by rw[hlen];omega)]
                  congr 1
                  rw[zbQ,zbq (by rw[hlen];omega)]
                 have hOx:fE φ S x0:=⟨id,_,hB,hφ⟩
                 have hnO:¬fE φ (S.put id none) x0:=by
                  rintro⟨j,C,g1,g2⟩
                  obtain⟨g3,g4⟩:=Dq j C g1;exact g3 (hS.inj j id _ _ x0 g4 hB g2 hφ)
                 have afP:H.size+1=(aG H (d.cells++ds)).size:=rfl;have S3:¬fE φ S H.size:=by
                  rintro⟨j,C,_,h⟩
                  have:=hS.lt j _ h;omega
                 have WV:∀z,fE φ (S.put id none) z->fE φ S z:=fun z ⟨j,C,g1,g2⟩=>⟨j,C,(Dq j C g1).2,g2⟩
                 have getnew:∀(H0:ag),H0.size=H.size->H0.hid=H.hid->(aG H0 (d.cells++ds)).get H.size=some ⟨d.cells++ds⟩:=by
                  intro H0 e1 e2;unfold ag.get;rw[if_pos (by simp[aG,e1]),show(aG H0 (d.cells++ds)).hid=H0.hid from rfl,e2,hS.gW _ (zap _)];simp[aG,ag.bW,e1]
                 have hdl:(d.cells++ds).length=(old.len+new.len)*i.size:=by
                  rw[zab,hlen,hBn.rows (by omega),adC,za2]
                 have afB:∀m,new.len=m+1->decide (old.len+new.len<=old.len)=false:=fun m hm=>by simp;omega
                 have Wz:sp=none\/(false=false/\sp=some i.size/\0<old.len):=by
                  rcases hsp with h|⟨_,h1,h2⟩
                  . exact .inl h
                  . exact .inr ⟨rfl,h1,h2⟩
                 split at h
                 ·
                  rename_i hl;have hl:=zaj hl;rcases Nat.eq_zero_or_pos new.len with hm|hmp
                  . refine⟨_,_,.slice (some ⟨x0,0,sp⟩) old.len old.len,H,by rw[hm]at hEE⊢;exact hEE,⟨_,Step.gen hS c (some x0) (fun j C h=>(Dq j C h).2) rfl rfl rfl (FW hl) (zap _) rfl rfl (fun _ _ _=>rfl) (fun x c' _ h=>⟨c',h,rfl⟩) ?_ (fun h=>by cases h) ?_, ?_⟩,h⟩
                    . intro x hx;cases hx;exact⟨.inr hOx,hnO,hS.lt _ _ hφ,hlk hl⟩
                    . intro x hx;cases hx;refine⟨d,hd,fun e=>BV.mono e ?_⟩;have:ds=[]:=by
                       apply zaB;rw[hBn.rows (by omega),hm];simp
                      rw[this,zaH]at hBc;exact hBc
                    . exact .buf S.size i.size false x0 old.len sp (by simp[Phi.add]) hn Wz
                  . obtain⟨m,hm⟩:∃m,new.len=m+1:=⟨new.len-1,by omega⟩
                    have hf:decide (old.len+(m+1)<=old.len)=false:=by simp
                    rw[hm]at hEE;simp only[hf,hold]at hEE;cases sp with
                    |none=>
                     have hE2:eg P H t t (.slice (some ⟨x0,0,none⟩) old.len old.len) (.slice a new.len cap)=some (.slice (some ⟨H.size,0,some i.size⟩) (old.len+new.len) (old.len+new.len),aG H (d.cells++ds)):=by rw[hm];exact hEE
                     have kX:∀x,x<H.size->(aG H (d.cells++ds)).get x=H.get x:=fun x hx=>ag.fa _ _ _ hx
                     refine⟨_,_,_,aG H (d.cells++ds),hE2,⟨_,Step.gen hS c (some H.size) (fun j C h=>(Dq j C h).2) rfl rfl rfl (FW hl) (by simp[aG]) rfl rfl (fun x hx _=>kX x hx) (fun x c' hx h=>⟨c',by rw[aG,ag.bW,if_neg (by omega)]at h;exact h,rfl⟩) ?_ (fun h=>by cases h) ?_, ?_⟩,h⟩
                     . intro x hx;cases hx;exact⟨.inl (zap _),fun h=>S3 (WV _ h),by simp[aG],hS.dT⟩
                     . intro x hx;cases hx;exact⟨_,getnew H rfl rfl,fun e=>hBc.mono e⟩
                     . refine .buf S.size i.size false H.size _ (some i.size) (by simp[Phi.add]) (fun c' hc'=> ?_) (.inr ⟨rfl,rfl,by omega⟩);rw[(ag.aM (getnew H rfl rfl)).1]at hc';cases hc';exact hdl
                    |some e0=>
                     obtain⟨_,he,adD⟩:ex=false/\some e0=some i.size/\0<old.len:=by
                      rcases hsp with h|h
                      . cases h
                      . exact h
                     cases he;simp only[hd]at hEE;rw[if_pos (by simp[aO,hlk hl,hlen,adD])]at hEE;have hE2:eg P H t t (.slice (some ⟨x0,0,some i.size⟩) old.len old.len) (.slice a new.len cap)=some (.slice (some ⟨H.size,0,some i.size⟩) (old.len+new.len) (old.len+new.len),aG (H.put x0 none) (d.cells++ds)):=by rw[hm];exact hEE
                     have afC:∀x,x≠x0->(H.put x0 none).get x=H.get x:=fun x hx=>ag.ga _ _ _ _ hx
                     have kX:∀x,x<H.size->x≠x0->(aG (H.put x0 none) (d.cells++ds)).get x=H.get x:=by
                      intro x hx hne;rw[aG,ag.fa _ _ _ (by simpa using hx)];exact afC x hne
                     have afQ:(aG (H.put x0 none) (d.cells++ds)).get x0=none:=by
                      rw[aG,ag.fa _ _ _ (by simpa using hS.lt _ _ hφ)];exact ag.jb _ _ _ hd
                     refine⟨_,_,_,aG (H.put x0 none) (d.cells++ds),hE2,⟨_,Step.gen hS c (some H.size) (fun j C h=>(Dq j C h).2) rfl rfl rfl (FW hl) (by simp[aG]) rfl rfl ?_ ?_ ?_ (fun h=>by cases h) ?_, ?_⟩,h⟩
                     . rintro x hx (ho|ho)
                       . exact kX x hx (fun e=>hnO (e▸ho))
                       . exact kX x hx (fun e=>ho (e▸⟨id,_,hl,hB,hφ⟩))
                     . intro x c' hx hc';rw[aG,ag.bW,if_neg (by simpa using Nat.ne_of_lt hx),ag.cT]at hc'
                       split at hc'
                       . cases hc'
                       . exact⟨c',hc',rfl⟩
                     . intro x hx;cases hx;exact⟨.inl (zap _),fun h=>S3 (WV _ h),by simp[aG],hS.dT⟩
                     . intro x hx;cases hx;exact⟨_,getnew (H.put x0 none) rfl rfl,fun e=>hBc.mono e⟩
                     . refine .buf S.size i.size false H.size _ (some i.size) (by simp[Phi.add]) (fun c' hc'=> ?_) (.inr ⟨rfl,rfl,by omega⟩);rw[(ag.aM (getnew (H.put x0 none) rfl rfl)).1]at hc';cases hc';exact hdl
                 ·
                  split at h
                  . rcases hsp with rfl|⟨h0,_⟩
                    . split at h
                      . rename_i hm;have hm:=zaj hm;rw[hm]at hEE;exact⟨_,_,_,_,by rw[hm];exact hEE,⟨φ,Step.refl hS,.buf id i.size true x0 old.len none hφ hn (.inl rfl)⟩,h⟩
                      . rename_i hm;have hm:=zbA hm;obtain⟨m,hm⟩:∃m,new.len=m+1:=⟨new.len-1,by omega⟩
                        have hf:decide (old.len+(m+1)<=old.len)=false:=by simp
                        rw[hm]at hEE;simp only[hf,hold]at hEE;have hE2:eg P H t t (.slice (some ⟨x0,0,none⟩) old.len old.len) (.slice a new.len cap)=some (.slice (some ⟨H.size,0,some i.size⟩) (old.len+new.len) (old.len+new.len),aG H (d.cells++ds)):=by rw[hm];exact hEE
                        have hb:BV φ H (Own φ S) c (d.cells++ds):=hBc;refine⟨_,_,_,aG H (d.cells++ds),hE2,⟨_,Step.push hS c _ hb, ?_⟩,h⟩;refine .buf S.size i.size false H.size _ (some i.size) (by simp[Phi.add]) (fun c' hc'=> ?_) (.inr ⟨rfl,rfl,by omega⟩);rw[(ag.aM (getnew H rfl rfl)).1]at hc';cases hc';exact hdl
                    . cases h0
                  . cases h
              . cases h
            . cases h
          . cases h
         ·
          rename_i id off len w' pre
          split at h
          . rename_i old nw hB _
            split at h
            . rename_i c hov eK;simp only[zae,zaI,zag]at eK;obtain⟨rfl,rfl,rfl,hw2,hw3,hl⟩:=eK
              split at h
              . rename_i FV;obtain⟨h2,h3⟩:=zaj FV
                split at h
                . rename_i hle;have hle:=zaj hle;have eN:(aS.cont nw).len=nw.len:=rfl;have eW:(aS.cont nw).w=nw.w:=rfl;rw[eN]at hE;rw[eW]at hE;cases hs with
                  |du _ _ _ hφ=>
                   rcases hS.blk _ _ hB with⟨_,h0⟩|⟨y,d,h1,_⟩
                   . have h0:old.len=0:=h0;have hn0:nw.len=0:=by omega
                     have hEE:=hE none 0 0 hw3 (zap _) h2 h3;have hc0:c.len=0:=by
                      have hb0:BV φ H (Own φ S) (.cont old) []:=⟨by rw[h0];simp,fun r hr=>by omega⟩
                      rw[(aE.zh hov hle hb0 hBn).2.2.1];exact h0
                     rw[eN,hn0];rw[hn0]at hEE h;exact⟨_,_,_,_,hEE,⟨φ,Step.ghost (B':= .cont c) hS hB hφ hl hc0,.du _ _ _ hφ⟩,h⟩
                   . rw[hφ]at h1;cases h1
                  |sl _ _ _ _ _ x0 o sp c0 hφ ho hs' hc hin hp=>
                   obtain⟨rfl,hcap⟩:=hp rfl;rcases hS.blk _ _ hB with⟨h0,_⟩|⟨y,b,h1,hb,hlk,hBd⟩
                   . rw[hφ]at h0;cases h0
                   rw[hφ]at h1;cases h1;have hlen:=hcap b (ag.aM hb).1;have hcl:c0=old.len:=by
                    have:=hBd.1;rw[hlen,hw2]at this;exact zbJ rh this
                   subst hcl;obtain⟨hBc,_,ecl,ecw⟩:=aE.zh hov hle hBd hBn;rw[hw2]at hBc;have hdl:ds.length=nw.len*i.size:=by rw[hBn.1,hw3]
                   have aai:len*i.size+ds.length<=b.cells.length:=by rw[hdl,hlen,<-za2];exact zaR _ hle
                   have hEE:=hE (some ⟨x0,0,sp⟩) len old.len hw3 hc h2 h3;have adE:decide (len+nw.len<=old.len)=true:=zaa hle;have hDV:∀(H':ag) (S':aj),(∀c,H'.root.get x0=some c->c.cells.length=old.len*i.size)->DV φ H' (Own φ S') (.sl id 0 (len+nw.len) i.size true) (.slice (some ⟨x0,0,sp⟩) (len+nw.len) old.len):=fun H' S' hr=>by
                    refine .sl id 0 _ _ true x0 0 sp _ hφ (.inr (by simp)) hs' hle (fun c hc=> ?_) (fun _=>⟨rfl,hr⟩);have:=hr c hc;have m:=zaR i.size hle;omega
                   cases hcs:ds with
                   |nil=>
                    have hn0:nw.len=0:=by
                     rw[hcs]at hdl;rcases Nat.eq_zero_or_pos nw.len with h|h
                     . exact h
                     . have:=Nat.mul_pos h rh;simp at hdl;omega
                    rw[hcs]at hBc;simp only[zaH,zar,zbc,List.take_append_drop]at hBc;rw[hn0]at hEE h;have hd0:=hDV H (S.put id (some (.cont c))) (fun c hc=>hcap c hc);rw[hn0]at hd0;exact⟨_,_,_,_,by rw[eN,hn0];exact hEE,⟨φ,Step.see hS hB hφ hb hl hBc,hd0⟩,h⟩
                   |cons q qs=>
                    obtain⟨m,hm⟩:∃m,nw.len=m+1:=⟨nw.len-1,by
                     have:0<nw.len:=by
                      rcases Nat.eq_zero_or_pos nw.len with h|h
                      . rw[h,hcs]at hdl;simp at hdl
                      . exact h
                     omega⟩
                    have mJ:=nb (off:=0+len*i.size) (vs:=ds) hb (hlk hl) (by rw[hcs];simp) (by omega);have hE2:eg P H t t (.slice (some ⟨x0,0,sp⟩) len old.len) (.slice a nw.len cap)=some (.slice (some ⟨x0,0,sp⟩) (len+nw.len) old.len,H.put x0 (some ⟨b.cells.take (0+len*i.size)++ds++b.cells.drop (0+len*i.size+ds.length)⟩)):=by
                     rw[hm]at hEE adE⊢;simp only[adE,mJ,zbi]at hEE;exact hEE
                    rw[zaF]at hE2;have Oq:(b.cells.take (len*i.size)++ds++b.cells.drop (len*i.size+ds.length)).length=b.cells.length:=by
                     simp only[zab,zas,zbd];omega
                    refine⟨_,_,_,_,hE2,⟨φ,Step.put hS hB hφ hb hl Oq hBc,hDV _ _ (fun c hc=> ?_)⟩,h⟩;rw[ag.cT,if_pos rfl]at hc;cases hc;exact Oq.trans hlen
                . cases h
              . cases h
            . cases h
          . cases h
         . cases h
       . cases h
     . cases h
   . cases h
 . cases h
end
end
end
end Go.Proofs.YtfaojedfnjdnnaaGreat.Ev
namespace Go.Proofs.YtfaojedfnjdnnaaGreat.Ev
noncomputable section
noncomputable section
open Go
section
variable {R : Type} {P : Program} {φ : Phi} {H : ag} {own : Nat -> Prop} {S : aj}
inductive PS (φ : Phi) (H : ag) (own : Nat -> Prop) : List (Nat × List SV) -> List (Nat × Value) -> Prop where
 |nil:PS φ H own [] []
 |cons (i:Nat) (l:List SV) (v:Value) (r:List (Nat × List SV)) (r':List (Nat × Value)) (h:DVL φ H own l v.cells.toList) (t:PS φ H own r r'):PS φ H own ((i,l)::r) ((i,v)::r')
theorem M1 (off:Nat):∀(xs:List SV) (xs':List Value) (k:Nat) (c:List SV) (c':Array Value),DVL φ H own xs xs'->DVL φ H own c c'.toList->
 DVL φ H own ((xs.zipIdx k).foldl (fun cs (p:SV × Nat)=>cs.set (off+p.2) p.1) c) ((xs'.zipIdx k).foldl (fun cs (p:Value × Nat)=>cs.setIfInBounds (off+p.2) p.1) c').toList:=by
 intro xs
 induction xs with
 |nil=>
  intro xs' k c c' h hc;cases xs' with
  |nil=>exact hc
  |cons=>have:=h.1;simp at this
 |cons x xs ih=>
  intro xs' k c c' h hc;obtain⟨y,ys,rfl,h0,ht⟩:=h.gG;simp only[List.zipIdx_cons,zbX];refine ih ys (k+1) _ _ ht ?_
  rw[zb8];exact hc.set _ h0
theorem qk {place:Nat->Option (Nat × Nat)}:∀(ps:List (Nat × List SV)) (ps':List (Nat × Value)) (c out:List SV) (c':Array Value),PS φ H own ps ps'->DVL φ H own c c'.toList->
 y3 place c ps=some out->∃xF,Instr.fill place c' ps'=some xF/\DVL φ H own out xF.toList/\out.length=c.length:=by
 intro ps
 induction ps with
 |nil=>
  intro ps' c out c' hp hc h;cases hp;simp[y3]at h;subst h;exact⟨c',rfl,hc,rfl⟩
 |cons p ps ih=>
  intro ps' c out c' hp hc h;cases hp with
  |cons i l v r r' hv t=>
   have hsz:v.cells.size=l.length:=by have:=hv.1;simpa using this.symm
   have hcs:c'.size=c.length:=by have:=hc.1;simpa using this.symm
   simp only[y3]at h;simp only[Instr.fill];cases hpl:place i with
   |none=>simp[hpl]at h
   |some q=>
    obtain⟨off,size⟩:=q;simp only[hpl]at h⊢
    split at h
    . rename_i eK;simp only[zae,zag]at eK;rw[if_neg (by simp[hsz,hcs,eK.1];omega)];rw[<-Array.foldl_toList,Array.toList_zipIdx];have h1:=M1 off l v.cells.toList 0 c c' hv hc;obtain⟨xF,g1,g2,g3⟩:=ih r' _ out _ t h1 h;refine⟨xF,g1,g2, ?_⟩;rw[g3];have h2:=h1.1;have h3:∀(xs:List (SV × Nat)) (c:List SV),(xs.foldl (fun cs (p:SV × Nat)=>cs.set (off+p.2) p.1) c).length=c.length:=by
       intro xs
       induction xs with
       |nil=>intro c;rfl
       |cons x xs ih=>intro c;simp only[zbX];rw[ih];simp
      exact h3 _ _
    . cases h
theorem FF {s:SV} {v:Value} {cs:List SV} (hv:DV φ H own s v) (h:dE s=some cs):oP v=some v/\DVL φ H own cs v.cells.toList:=by
 obtain⟨vs,h1,h2⟩:=oh hv h;cases v<;>simp_all [bu,oP,Value.cells]
 all_goals subst h1;exact h2
theorem oE {ρ:Operand->Option SV} {ρ':Operand->Option Value} (hρ:∀x s,ρ x=some s->∃v,ρ' x=some v/\DV φ H own s v):∀{ps:List (Nat × Operand)} {l:List (Nat × List SV)},vP ρ ps=some l->
 ∃vs,qu ρ' ps=some vs/\PS φ H own l vs
 |[],l,h=>by simp[vP]at h;subst h;exact⟨[],rfl,.nil⟩
 |(i,x)::ps,l,h=>by
  simp only[vP]at h
  split at h
  . rename_i v vs h1 h2;cases h;rw[zaM]at h1;obtain⟨s,hs,hc⟩:=h1;obtain⟨w,hw,hd⟩:=hρ x s hs;obtain⟨g1,g2⟩:=FF hd hc;obtain⟨ws,g3,g4⟩:=oE hρ h2;exact⟨(i,w)::ws,by simp[qu,hw,g1,g3],.cons i v w _ _ g2 g4⟩
  . cases h
theorem mY {ρ:Operand->Option SV} {ρ':Operand->Option Value} (hρ:∀x s,ρ x=some s->∃v,ρ' x=some v/\DV φ H own s v):∀{xs:List Operand} {l:List SV},Ae ρ xs=some l->
 ∃vs,ru ρ' xs=some vs/\DVL φ H own l vs
 |[],l,h=>by simp[Ae]at h;subst h;exact⟨[],rfl,.nil⟩
 |x::xs,l,h=>by
  simp only[Ae]at h
  split at h
  . rename_i v vs h1 h2;cases h;obtain⟨w,hw,hd⟩:=hρ x v h1;obtain⟨ws,g3,g4⟩:=mY hρ h2;exact⟨w::ws,by simp[ru,hw,g3],.cons hd g4⟩
  . cases h
theorem rZ {ρ:Operand->Option SV} {ρ':Operand->Option Value} (hρ:∀x s,ρ x=some s->∃v,ρ' x=some v/\DV φ H own s v) {x:Option Operand} {l:Option SV} (h:Nu ρ x=some l):
 ∃v,Gc ρ' x=some v/\OV φ H own l v:=by
 cases x with
 |none=>simp[Nu]at h;subst h;exact⟨none,rfl,trivial⟩
 |some y=>
  simp only[Nu,zai]at h;obtain⟨s,hs,rfl⟩:=h;obtain⟨w,hw,hd⟩:=hρ y s hs;exact⟨some w,by simp[Gc,hw],hd⟩
theorem iL {t:TypeId} {z:List SV} (h:ev P t=some z):∃i z0 zc,P.info? t=some i/\i.zero=some z0/\gu z0=some zc/\z0.cells.toList=zc/\∀φ H own,DVL φ H own z zc:=by
 unfold ev at h
 split at h
 . rename_i cs hz;rw[zaM]at hz;obtain⟨i,h1,h2⟩:=hz;refine⟨i,.agg cs,cs.toList,h1,h2, ?_,rfl,fun φ H own=>(oM h).2⟩;have:=(oM (φ:=⟨fun _=>none,fun _=>False⟩) (H:=nil) (own:=fun _=>False) h).1;simp[gu,bu,this]
 . rename_i v hz hv;rw[zaM]at hv;obtain⟨i,h1,h2⟩:=hv
   split at h
   . rename_i s hs;cases h;have hc:=(mQ (φ:=⟨fun _=>none,fun _=>False⟩) (H:=nil) (own:=fun _=>False) hs).1;have key:bu v=some [v]/\v.cells.toList=[v]:=by
      cases v<;>simp_all [bu,Value.cells,hZ,CD]
     exact⟨i,v,[v],h1,h2,by simp[gu,key.1,hc],key.2,fun φ H own=> .cons (mQ hs).2 .nil⟩
   . cases h
 . cases h
theorem Es {t:TypeId} {ps:List (Nat × List SV)} {ps':List (Nat × Value)} {s:SV} (hp:PS φ H own ps ps') (h:J1 P t ps=some s):∃v,vG P t ps'=some v/\DV φ H own s v:=by
 have agg:∀{cs:List SV} {out:Array Value},DVL φ H own cs out.toList->DV φ H own (.agg cs) (.agg out):=fun hd=> .agg _ _ (by simpa using hd.1) (fun i s v h1 h2=>hd.2 i s v h1 (by simpa using h2))
 unfold J1 at h
 split at h
 . rename_i n e hu
   split at h
   . rename_i z ie hz hie;obtain⟨i,z0,zc,h1,h2,h3,h4,h5⟩:=iL hz
     split at h
     . rename_i cs hf;cases h;obtain⟨xF,g1,g2,_⟩:=qk ps ps' z cs z0.cells hp (by rw[h4];exact h5 _ _ _) hf;refine⟨.agg xF, ?_,agg g2⟩;unfold vG;simp only[h1,zcg,h2,h3];unfold Program.built;simp only[h1,hu,h2,hie,g1,zbi]
     . cases h
   . cases h
 . rename_i fs hu
   split at h
   . rename_i z places hz hpl;obtain⟨i,z0,zc,h1,h2,h3,h4,h5⟩:=iL hz
     split at h
     . rename_i cs hf;cases h;obtain⟨xF,g1,g2,_⟩:=qk ps ps' z cs z0.cells hp (by rw[h4];exact h5 _ _ _) hf;refine⟨.agg xF, ?_,agg g2⟩;unfold vG;simp only[h1,zcg,h2,h3];unfold Program.built;simp only[h1,hu,h2,hpl,g1,zbi]
     . cases h
   . cases h
 . cases h
theorem oH {k:IntKind}:∀{cs:List SV} {xs:List Int},vo k cs=some xs->cs=xs.map (SV.i k)
 |[],xs,h=>by simp[vo]at h;subst h;rfl
 |c::cs,xs,h=>by
  unfold vo at h
  split at h
  . rename_i heq;cases heq
  . rename_i k' n r heq;cases heq
    split at h
    . rename_i l hk hl;cases h;rw[zaI]at hk;subst hk;rw[oH hl];rfl
    . cases h
  . cases h
theorem tu {l:List Sch}:∀{n:Nat} {cs:List SV} {rs:List Dat},rowsOf l l.length n cs=some rs->rs.length=n/\cs.length=n*l.length/\
 ∀vs:List Value,DVL φ H own cs vs->∀r,r<n->∀(j:Nat) s,(rowFrom l 0 (rs.getD r (.r [])))[j]? =some s->∀v,vs[r*l.length+j]? =some v->DV φ H own s v
 |0,[],rs,h=>by simp[rowsOf]at h;subst h;exact⟨rfl,by simp,fun vs _ r hr=>by omega⟩
 |0,_::_,rs,h=>by simp[rowsOf]at h
 |n+1,cs,rs,h=>by
  unfold rowsOf at h
  split at h
  . rename_i r rs' h1 h2;cases h;obtain⟨g1,g2,g3⟩:=tu h2;have hl:=(rF h1).2;have hle:l.length<=cs.length:=by
     rw[zas]at hl;omega
    have hcs:cs.length=(n+1)*l.length:=by
     rw[zbd]at g2;rw[Nat.succ_mul];omega
    refine⟨by simp[g1],hcs,fun vs hd r' hr' j s hs v hv=> ?_⟩;cases r' with
    |zero=>
     simp only[zaO]at hs;rw[zca,zaF]at hv;have hj:j<l.length:=by
      have:=(zao.1 hs).1
      rwa [kx]at this
     exact(rY h1 (hd.take l.length)).2 j s v hs (by rw[zav,if_pos hj];exact hv)
    |succ r'=>
     simp only[zaE]at hs;refine g3 _ (hd.drop l.length) r' (by omega) j s hs v ?_
     rw[zaA];rw[Nat.succ_mul]at hv;rw[show l.length+(r'*l.length+j)=r'*l.length+l.length+j by omega];exact hv
  . cases h
theorem sK {e:TypeId} {n:Nat} {cs:List SV} {c:aE} (h:KH P e n cs=some c) {vs:List Value} (hd:DVL φ H own cs vs):BV φ H own (.cont c) vs:=by
 unfold KH at h
 split at h
 . split at h
   . rename_i xs hx;cases h;have:=oH hx;subst this;refine⟨by have:=hd.1;simp[aE.len,aE.w]at this⊢;exact this.symm,fun r hr j s hs v hv=> ?_⟩;simp only[aE.row]at hs;have hj:j=0:=by
      cases j with
      |zero=>rfl
      |succ j=>simp at hs
     subst hj;simp at hs;subst hs;simp only[aE.w,zcf,zbc,aE.len]at hv hr;refine hd.2 r _ v ?_ hv;rw[List.getElem?_map,zah hr,zbi,zbD]
   . cases h
 . split at h
   . rename_i l hl
     split at h
     . rename_i rs hr;cases h;obtain⟨g1,g2,g3⟩:=tu (φ:=φ) (H:=H) (own:=own) hr;refine⟨by rw[<-hd.1,g2];simp[aE.len,aE.w,g1],fun r hr' j s hs v hv=> ?_⟩;exact g3 vs hd r (by simpa[aE.len,g1]using hr') j s hs v hv
     . cases h
   . cases h
theorem Gb {e:TypeId} {n:Nat} {cs:List SV} {vs:List Value} (hd:DVL φ H own cs vs):BV φ H own (Sa P e n cs) vs:=by
 unfold Sa
 split
 . rename_i c hc;exact sK hc hd
 . exact hd
theorem Ax (hS:Sim φ S H) (cs:List Value):(aG H cs).get H.size=some ⟨cs⟩:=by
 unfold ag.get;rw[if_pos (by simp[aG]),show(aG H cs).hid=H.hid from rfl,hS.gW _ (zap _)];simp[aG,ag.bW]
theorem L3 (hS:Sim φ S H) {B:aS} {cs:List Value} (hB:BV φ H (Own φ S) B cs):Got φ S H (S.push B) (.ptr S.size 0 0 0) (aG H cs) (ptr H.size 0):=
 ⟨_,Step.push hS B cs hB,by
  have:=DV.ptr (φ:=φ.add S.size (some H.size)) (H:=aG H cs) (own:=Own (φ.add S.size (some H.size)) (S.push B)) S.size 0 0 0 H.size (by simp[Phi.add]);simpa[ptr]using this⟩
theorem Ms (hS:Sim φ S H) {B:aS} {cs:List Value} {n w:Nat} (hB:BV φ H (Own φ S) B cs) (hl:cs.length=n*w):Got φ S H (S.push B) (.buf S.size w true) (aG H cs) (.slice (some ⟨H.size,0,none⟩) n n):=
 ⟨_,Step.push hS B cs hB,.buf S.size w true H.size n none (by simp[Phi.add]) (fun c hc=>by rw[(ag.aM (Ax hS cs)).1]at hc;cases hc;exact hl) (.inl rfl)⟩
theorem DVL.dI {z:List SV} {zc:List Value} (h:DVL φ H own z zc):∀n,DVL φ H own (List.replicate n z).flatten (List.replicate n zc).flatten
 |0=> .nil
 |n+1=>by
  rw[zbF,zbF,zbx,zbx];exact h.append (DVL.dI h n)
theorem tA (hS:Sim φ S H) {t:TypeId} {n:Nat} {ps:List (Nat × List SV)} {ps':List (Nat × Value)} {k:SV->aj->Option R} {r:R} (hp:PS φ H (Own φ S) ps ps') (h:qw P S t n ps k=some r):
 ∃s S' v H',fF P H t n ps'=some (v,H')/\Got φ S H S' s H' v/\k s S'=some r:=by
 unfold qw at h
 split at h
 . rename_i e hu
   split at h
   . rename_i i z hi hz
     split at h
     . rename_i hc;simp only[zae,zag]at hc
       split at h
       . rename_i cs hf;obtain⟨i',z0,zc,h1,h2,h3,h4,h5⟩:=iL hz;rw[hi]at h1;cases h1;have hzl:zc.length=i.size:=by rw[<-(h5 φ H (Own φ S)).1];exact hc.2
         obtain⟨xF,g1,g2,g3⟩:=qk ps ps' _ cs (List.replicate n zc).flatten.toArray hp (by simpa using(h5 φ H (Own φ S)).dI n) hf;refine⟨_,_,_,_, ?_,Ms hS (n:=n) (w:=i.size) (Gb g2) ?_,h⟩
         rotate_left
         . rw[<-g2.1,g3];simp[hc.2]
         . unfold fF;simp only[hu,hi,h2,h3];rw[if_pos ⟨hc.1,hzl⟩,g1]
       . cases h
     . cases h
   . cases h
 . cases h
theorem pO {e:TypeId} {n:Nat} {c:aE} {z:List SV} (h:mA P e n=some c) (hz:ev P e=some z) {zc:List Value} (hd:DVL φ H own z zc) (hw:z.length=c.w):
 BV φ H own (.cont c) (List.replicate n zc).flatten:=by
 have hzl:zc.length=c.w:=by rw[<-hd.1,hw]
 have hlen:(List.replicate n zc).flatten.length=n*c.w:=by simp[hzl]
 have key:c.len=n->(∀r,r<n->DVL φ H own (c.row r) zc)->BV φ H own (.cont c) (List.replicate n zc).flatten:=by
  intro hcl hrow;refine⟨by rw[hlen,hcl],fun r hr j s hs v hv=> ?_⟩;have hj:j<c.w:=by
   have:=(zao.1 hs).1
   rwa [aE.sX]at this
  rw[hcl]at hr;have hin:=jP (w:=c.w) hr;rw[jG zc n _ (by rw[hzl];omega),hzl,Nat.mul_comm,Nat.mul_add_mod,Nat.mod_eq_of_lt hj]at hv;exact(hrow r hr).2 j s v hs hv
 refine key (oL h) (fun r hr=> ?_);unfold mA at h
 split at h
 . split at h
   . rename_i k' z' hz'
     split at h
     . rename_i hk;cases h;rw[zaI]at hk;subst hk;rw[hz]at hz';cases hz';simp only[aE.row,zaf,List.getElem?_replicate,if_pos hr,zbD];exact hd
     . cases h
   . cases h
 . split at h
   . rename_i l z' hl hz'
     split at h
     . rename_i r' hr';cases h;rw[hz]at hz';cases hz';simp only[aE.row,zaf,List.getElem?_replicate,if_pos hr,zbD];exact rY hr' hd
     . cases h
   . cases h
theorem He (hS:Sim φ S H) {t:TypeId} {a:SV} {va:Value} {k:SV->aj->Option R} {r:R} (ha:DV φ H (Own φ S) a va) (h:OC P S t a k=some r):
 ∃s S' v H',xr P H t va va=some (v,H')/\Got φ S H S' s H' v/\k s S'=some r:=by
 unfold OC at h
 split at h
 . rename_i e kk n hu;cases ha
   split at h
   . rename_i i z c hi hz hc
     split at h
     . rename_i eK;simp only[zae,zag,zaI]at eK
       split at h
       . rename_i FV;obtain⟨l1,l2,l3⟩:=zaj FV;obtain⟨i',z0,zc,h1,h2,h3,h4,h5⟩:=iL hz;rw[hi]at h1;cases h1;have hzl:zc.length=i.size:=by rw[<-(h5 φ H (Own φ S)).1];exact eK.2
         have hB:=pO hc hz (h5 φ H (Own φ S)) (by rw[eK.1];exact eK.2);refine⟨_,_,_,_, ?_,Ms hS hB (n:=n.toNat) (w:=i.size) (by simp[hzl]),h⟩;unfold xr;simp only[hu,hi,h2,h3];rw[if_pos ⟨l1,zcc _,l2,l3⟩,if_pos hzl]
       . cases h
     . cases h
   . cases h
 . cases h
theorem Gt (hS:Sim φ S H) {t u:TypeId} {s x:SV} {v w:Value} {k:SV->aj->Option R} {r:R} (hne:(t==u)=false) (hs:DV φ H (Own φ S) s v) (hx:DV φ H (Own φ S) x w) (h:RF P S t u s x k=some r):
 ∃z S' y H',eg P H t u v w=some (y,H')/\Got φ S H S' z H' y/\k z S'=some r:=by
 unfold RF at h
 split at h
 . rename_i e kk n hu hun;cases hs;cases hx
   split at h
   . rename_i i z c hi hz hc
     split at h
     . rename_i eK;simp only[zae,zag,zaI]at eK;obtain⟨hcw,adF,rh⟩:=eK
       split at h
       . rename_i FV;obtain⟨l1,l2,l3⟩:=zaj FV;obtain⟨i',z0,zc,h1,h2,h3,h4,h5⟩:=iL hz;rw[hi]at h1;cases h1;have hzl:zc.length=i.size:=by rw[<-(h5 φ H (Own φ S)).1];exact adF
         have hB:=pO hc hz (h5 φ H (Own φ S)) (by rw[hcw];exact adF);have hE:eg P H t u (.slice none 0 0) (.int kk n)=(match n.toNat with
          |0=>some (.slice none 0 0,H)
          |m+1=>some (.slice (some ⟨H.size,0,some i.size⟩) (m+1) (m+1),aG H (List.replicate (m+1) zc).flatten)):=by
          unfold eg AH;rw[if_neg (by simpa using hne)];simp only[hu,hun,hi,h2,h3];rw[if_pos ⟨hzl,rh,l1,l2,l3⟩];generalize n.toNat=q;cases q<;>rfl
         cases hn:n.toNat with
         |zero=>
          rw[hn]at hE hB hc;refine⟨_,_,.slice none 0 0,H,hE,⟨_,Step.gen hS (.cont c) none (fun _ _ h=>h) rfl rfl rfl (fun _ _ _=>rfl) (zap _) rfl rfl (fun _ _ _=>rfl) (fun x c' _ h=>⟨c',h,rfl⟩) (fun x hx=>by cases hx) (fun _=>oL hc) (fun x hx=>by cases hx), ?_⟩,h⟩;exact .eh _ _ (by simp[Phi.add])
         |succ m=>
          rw[hn]at hE hB hc;refine⟨_,_,_,_,hE,⟨_,Step.push hS (.cont c) _ hB, ?_⟩,h⟩;refine .buf S.size i.size false H.size (m+1) (some i.size) (by simp[Phi.add]) (fun c' hc'=> ?_) (.inr ⟨rfl,rfl,by omega⟩);have hg:(aG H (List.replicate (m+1) zc).flatten).root.get H.size=some ⟨(List.replicate (m+1) zc).flatten⟩:=(ag.aM (Ax hS _)).1;rw[hg]at hc';cases hc';simp[List.length_flatten,hzl]
       . cases h
     . cases h
   . cases h
 . cases h
theorem EP {e:TypeId} {z:List SV} {vs:List Value} (hd:DVL φ H own z vs):BV φ H own (Ky P e z) vs:=by
 unfold Ky
 split
 . split
   . split
     . split
       . rename_i k _ _ xs hx;have:=sK (P:=P) (e:=0) (n:=0) (cs:=z) (c:= .ints k xs) (φ:=φ) (H:=H) (own:=own) (vs:=vs);have h2:=oH hx;subst h2;refine⟨by have:=hd.1;simp[aE.len,aE.w]at this⊢;exact this.symm,fun r hr j s hs v hv=> ?_⟩;simp only[aE.row]at hs;have hj:j=0:=by
          cases j with
          |zero=>rfl
          |succ j=>simp at hs
         subst hj;simp at hs;subst hs;simp only[aE.w,zcf,zbc,aE.len]at hv hr;refine hd.2 r _ v ?_ hv;rw[List.getElem?_map,zah hr,zbi,zbD]
       . exact hd
     . exact hd
   . exact hd
 . exact hd
theorem aE.DE {d s c:aE} {cs ds:List Value} (h:d.copied s=some c) (hd:BV φ H own (.cont d) cs) (hs:BV φ H own (.cont s) ds):
 BV φ H own (.cont c) (ds.take (min s.len d.len*d.w)++cs.drop (min s.len d.len*d.w))/\s.w=d.w:=by
 have key:∀(hl:c.len=d.len) (hw:c.w=d.w) (hw':s.w=d.w) (h1:∀r,r<min s.len d.len->c.row r=s.row r) (h2:∀r,min s.len d.len<=r->c.row r=d.row r),
  BV φ H own (.cont c) (ds.take (min s.len d.len*d.w)++cs.drop (min s.len d.len*d.w))/\s.w=d.w:=by
  intro hl hw hw' h1 h2;have e1:=hd.1;have e2:=hs.1;rw[hw']at e2;have m1:min s.len d.len*d.w<=s.len*d.w:=zaR _ (Nat.min_le_left _ _);have m2:min s.len d.len*d.w<=d.len*d.w:=zaR _ (Nat.min_le_right _ _);refine⟨⟨by simp[hl,hw];omega,fun r hr j u hu v hv=> ?_⟩,hw'⟩;rw[hw]at hv;have hj:j<d.w:=by
   have:=(zao.1 hu).1
   rwa [aE.sX,hw]at this
  rw[zaV,zas,zbY (by omega)]at hv
  by_cases hrm:r<min s.len d.len
  . have:=jP (w:=d.w) hrm;rw[if_pos (by omega),zav,if_pos (by omega)]at hv;rw[h1 r hrm]at hu;exact hs.2 r (by omega) j u hu v (by rw[hw'];exact hv)
  . have hge:min s.len d.len*d.w<=r*d.w:=zaR _ (by omega);rw[if_neg (by omega),zaA]at hv;rw[h2 r (by omega)]at hu;exact hd.2 r (by omega) j u hu v (by rw[show min s.len d.len*d.w+(r*d.w+j-min s.len d.len*d.w)=r*d.w+j by omega]at hv;exact hv)
 unfold aE.copied at h
 split at h
 . split at h
   . rename_i hk;rw[zaI]at hk;subst hk;cases h;refine key (by simp[aE.len];omega) rfl rfl (fun r hr=> ?_) (fun r hr=> ?_)
     . simp only[aE.len]at hr;simp only[aE.row,zaf];rw[zax (by simp;omega),zav,if_pos hr]
     . simp only[aE.len]at hr;simp only[aE.row,zaf];rw[zaK (by simp;omega),zaA,zas]
       congr 4;omega
   . cases h
 . split at h
   . rename_i hk;have:=gY.2 _ _ hk;subst this;cases h;refine key (by simp[aE.len];omega) rfl rfl (fun r hr=> ?_) (fun r hr=> ?_)
     . simp only[aE.len]at hr;simp only[aE.row,zaf];rw[zax (by simp;omega),zav,if_pos hr]
     . simp only[aE.len]at hr;simp only[aE.row,zaf];rw[zaK (by simp;omega),zaA,zas]
       congr 4;omega
   . cases h
 . cases h
theorem HC (hS:Sim φ S H) {t u:TypeId} {d s:SV} {vd vs:Value} {k:SV->aj->Option R} {r:R} (hd:DV φ H (Own φ S) d vd) (hs:DV φ H (Own φ S) s vs) (h:PL P S t d s k=some r):
 ∃z S' v H',rj P H t u vd vs=some (v,H')/\Got φ S H S' z H' v/\k z S'=some r:=by
 unfold PL at h
 split at h
 . rename_i e id w ex hu
   split at h
   . rename_i i c new hi hB fk
     split at h
     . rename_i c' eK B2;simp only[zae,zag,zaI]at eK;obtain⟨⟨⟨hw,hcw⟩,hl⟩,rh⟩:=eK;subst hw;obtain⟨a,cap,ds,rfl,hds,hBn,_⟩:=xq hS hs fk;cases hd with
       |eh _ _ hφ=>
        rcases hS.blk _ _ hB with⟨_,h0⟩|⟨y,b,h1,_⟩
        . have h0:c.len=0:=h0;have aaj:c'.len=0:=by
           unfold aE.copied at B2
           split at B2
           . split at B2
             . cases B2;simp[aE.len]at h0⊢;simp[h0]
             . cases B2
           . split at B2
             . cases B2;simp[aE.len]at h0⊢;simp[h0]
             . cases B2
           . cases B2
          have hm:min new.len 0=0:=Nat.min_zero _;have afD:=hds 0 (zbt _);have hE:rj P H t u (.slice none 0 0) (.slice a new.len cap)=some (.int .i64 ((min new.len 0:Nat):Int),H):=by
           unfold rj;simp only[hu,hi];rw[hm];have:bg H i.size 0 (.slice a new.len cap)=some []:=by
            have hz:bg H new.w 0 (.slice a new.len cap)=some []:=by rw[afD];simp
            cases a with
            |none=>rfl
            |some ad=>
             obtain⟨b',off,sp⟩:=ad;simp only[bg,zca]at hz⊢;exact hz
           rw[this]
          exact⟨_,_,_,_,hE,⟨φ,Step.ghost (B':= .cont c') hS hB hφ hl aaj,by rw[h0];exact .i _ _⟩,h⟩
        . rw[hφ]at h1;cases h1
       |buf _ _ _ x0 n sp hφ hn hsp=>
        rcases hS.blk _ _ hB with⟨h0,_⟩|⟨y0,b,h1,hb,hlk,hBd⟩
        . rw[hφ]at h0;cases h0
        rw[hφ]at h1;cases h1;obtain⟨hBc,hww⟩:=aE.DE B2 hBd hBn;have hlen:=hn b (ag.aM hb).1;have hnl:n=c.len:=by
         have:=hBd.1;rw[hlen,hcw]at this;exact zbJ rh this
        subst hnl;have hdm:=hds (min new.len c.len) (Nat.min_le_left _ _);rw[hww,hcw]at hdm;have hdl:(ds.take (min new.len c.len*i.size)).length=min new.len c.len*i.size:=by
         rw[zas,hBn.1,hww,hcw];exact zbY (zaR _ (Nat.min_le_left _ _))
        have hle:min new.len c.len*i.size<=c.len*i.size:=zaR _ (Nat.min_le_right _ _);rw[hcw]at hBc;cases hcs:ds.take (min new.len c.len*i.size)with
        |nil=>
         have h0:min new.len c.len*i.size=0:=by rw[<-hdl,hcs];rfl
         rw[h0,List.take_zero,zbQ,zat]at hBc;rw[hcs]at hdm;refine⟨_,_,.int .i64 ((min new.len c.len:Nat):Int),H, ?_,⟨φ,Step.see hS hB hφ hb hl hBc,.i _ _⟩,h⟩;unfold rj;simp only[hu,hi,hdm]
        |cons q qs=>
         rw[hcs]at hdm hBc hdl;have mJ:=nb (off:=0) (vs:=q::qs) hb (hlk hl) (by simp) (by rw[hdl,hlen];omega);rw[List.take_zero,zat,zaF]at mJ;refine⟨_,_,.int .i64 ((min new.len c.len:Nat):Int),_, ?_,⟨φ,Step.put hS hB hφ hb hl (cs':=q::qs++b.cells.drop (q::qs).length) (by simp only[zab,zbd];rw[hdl,hlen];omega) ?_,.i _ _⟩,h⟩
         . unfold rj;simp only[hu,hi,hdm,mJ,zbi]
         . rw[hdl];exact hBc
     . cases h
   . cases h
 . cases h
end
end
end
end Go.Proofs.YtfaojedfnjdnnaaGreat.Ev
namespace Go.Proofs.YtfaojedfnjdnnaaGreat.Ev
noncomputable section
noncomputable section
open Go
section
variable {R : Type} {P : Program} {L : List FuncId} {O : bp} {φ : Phi} {H : ag} {own : Nat -> Prop} {S : aj}
theorem Bu:∀l:List SV,l.foldl MG none=none
 |[]=>rfl
 |_::l=>Bu l
theorem zy:∀l:List SV,l.foldl My none=none
 |[]=>rfl
 |_::l=>zy l
theorem FZ:∀(l:List SV) (vs:List Value) (k:IntKind) (x:Int) (s:SV),DVL φ H own l vs->l.foldl MG (some (.i k x))=some s->∃v,vs.foldl Gi (some (.int k x))=some v/\DV φ H own s v
 |[],vs,k,x,s,hd,h=>by
  have:vs=[]:=by have:=hd.1;simpa using this.symm
  subst this;simp at h;subst h;exact⟨_,rfl,.i k x⟩
 |a::l,vs,k,x,s,hd,h=>by
  obtain⟨v,vs',rfl,h1,h2⟩:=hd.gG;rw[zbX]at h⊢;cases h1<;>first|(rename_i k' n;exact FZ l vs' k _ s h2 h)|(simp only[MG,Bu]at h;cases h)
theorem Gp:∀(l:List SV) (vs:List Value) (k:IntKind) (x:Int) (s:SV),DVL φ H own l vs->l.foldl My (some (.i k x))=some s->∃v,vs.foldl GC (some (.int k x))=some v/\DV φ H own s v
 |[],vs,k,x,s,hd,h=>by
  have:vs=[]:=by have:=hd.1;simpa using this.symm
  subst this;simp at h;subst h;exact⟨_,rfl,.i k x⟩
 |a::l,vs,k,x,s,hd,h=>by
  obtain⟨v,vs',rfl,h1,h2⟩:=hd.gG;rw[zbX]at h⊢;cases h1<;>first|(rename_i k' n;exact Gp l vs' k _ s h2 h)|(simp only[My,zy]at h;cases h)
theorem Kh {l:List SV} {vs:List Value} {s:SV} (hd:DVL φ H own l vs) (h:Xb l=some s):∃v,Ul vs=some v/\DV φ H own s v:=by
 unfold Xb at h
 split at h
 . obtain⟨v,vs',rfl,h1,h2⟩:=hd.gG;cases h1;exact FZ _ _ _ _ _ h2 h
 . cases h
theorem IL {l:List SV} {vs:List Value} {s:SV} (hd:DVL φ H own l vs) (h:ZB l=some s):∃v,UT vs=some v/\DV φ H own s v:=by
 unfold ZB at h
 split at h
 . obtain⟨v,vs',rfl,h1,h2⟩:=hd.gG;cases h1;exact Gp _ _ _ _ _ h2 h
 . cases h
theorem DVL.qS {vs:List Value} (h:DVL φ H own [] vs):vs=[]:=by have:=h.1;simpa using this.symm
theorem DVL.one {s:SV} {vs:List Value} (h:DVL φ H own [s] vs):∃v,vs=[v]/\DV φ H own s v:=by
 obtain⟨v,vs',rfl,h1,h2⟩:=h.gG;rw[h2.qS];exact⟨v,rfl,h1⟩
theorem DVL.two {s t:SV} {vs:List Value} (h:DVL φ H own [s,t] vs):∃v w,vs=[v,w]/\DV φ H own s v/\DV φ H own t w:=by
 obtain⟨v,vs',rfl,h1,h2⟩:=h.gG;obtain⟨w,rfl,h3⟩:=h2.one;exact⟨v,w,rfl,h1,h3⟩
theorem Got.same (hS:Sim φ S H) {s:SV} {v:Value} (h:DV φ H (Own φ S) s v):Got φ S H S s H v:=⟨φ,Step.refl hS,h⟩
theorem DV.deref {id w col x:Nat} {n:Int} (h:φ id=some (some x)):DV φ H own (.ptr id (match w with|0=>0|_+1=>n.toNat) w col) (.pointer (some ⟨x,n.toNat*w+col,none⟩)):=by
 cases w with
 |zero=>exact .ptr id 0 0 col x h
 |succ w=>exact .ptr id n.toNat (w+1) col x h
def Still (φ:Phi) (S:aj) (H:ag) (S':aj) (s:SV) (v:Value):Prop:=S'=S/\DV φ H (Own φ S) s v
theorem zd (hS:Sim φ S H) {b:Builtin} {ts:Array TypeId} {args:List SV} {vs:List Value} {k:SV->aj->Option R} {r:R} (ha:DVL φ H (Own φ S) args vs) (h:zq P S b ts.toList args k=some r):
 ∃s S' v H',jh P H b ts vs=some (v,H')/\Got φ S H S' s H' v/\(b≠.append->b≠.copy->Still φ S H S' s v)/\k s S'=some r:=by
 unfold zq at h;unfold jh
 split at h
 . split at h
   . rename_i t u s x hts;obtain⟨v,w,rfl,h1,h2⟩:=ha.two
     split at h
     . obtain⟨z,S',y,H',g1,g2,g3⟩:=BM hS h1 h2 h;exact⟨z,S',y,H',by simp only[hts];exact g1,g2,(fun h _=>absurd rfl h),g3⟩
     . rename_i hne;obtain⟨z,S',y,H',g1,g2,g3⟩:=Gt hS hne h1 h2 h;exact⟨z,S',y,H',by simp only[hts];exact g1,g2,(fun h _=>absurd rfl h),g3⟩
   . cases h
 . split at h
   . rename_i t u d s hts;obtain⟨v,w,rfl,h1,h2⟩:=ha.two;obtain⟨z,S',y,H',g1,g2,g3⟩:=HC (u:=u) hS h1 h2 h;exact⟨z,S',y,H',by simp only[hts];exact g1,g2,(fun _ h=>absurd rfl h),g3⟩
   . cases h
 . split at h
   . rename_i t x hts;obtain⟨v,rfl,h1⟩:=ha.one
     split at h
     . rename_i s hs;simp only[hts];unfold adb at hs
       split at hs
       . rename_i e hu
         split at hs
         . rename_i n hn;cases hs;obtain⟨a,cap,rfl,_⟩:=me hS h1 hn;exact⟨_,S,_,H,by simp only[hu],.same hS (.i _ _),(fun _ _=>⟨rfl,.i _ _⟩),h⟩
         . cases hs
       . rename_i n e hu;cases hs;refine⟨_,S,_,H,by simp only[hu],.same hS (.i _ _),(fun _ _=>⟨rfl,.i _ _⟩),h⟩
       . rename_i hu
         split at hs
         . cases hs;cases h1;exact⟨_,S,_,H,by simp only[hu],.same hS (.i _ _),(fun _ _=>⟨rfl,.i _ _⟩),h⟩
         . cases hs
       . cases hs
     . cases h
   . cases h
 . split at h
   . rename_i t hts;obtain⟨v,rfl,h1⟩:=ha.one;cases h1;simp only[hts]
     split at h
     . rename_i e hu;exact⟨_,S,_,H,by simp only[hu],.same hS (.i _ _),(fun _ _=>⟨rfl,.i _ _⟩),h⟩
     . cases h
   . cases h
 . split at h
   . rename_i s hs;obtain⟨v,h1,h2⟩:=Kh ha hs;exact⟨_,S,v,H,by simp only[h1,zbi],.same hS h2,(fun _ _=>⟨rfl,h2⟩),h⟩
   . cases h
 . split at h
   . rename_i s hs;obtain⟨v,h1,h2⟩:=IL ha hs;exact⟨_,S,v,H,by simp only[h1,zbi],.same hS h2,(fun _ _=>⟨rfl,h2⟩),h⟩
   . cases h
 . cases h
def NB (φ:Phi) (S:aj) (H:ag):Prop:=∀x,φ.ban x->x<H.size/\¬fE φ S x
def NBh (φ:Phi) (S:aj) (H:ag):Prop:=S.hid=[]->NB φ S H
theorem NB.step {φ':Phi} {S':aj} {H':ag} (hn:NB φ S H) (h:Step φ S H φ' S' H'):NB φ' S' H':=fun x hx=>by
 rw[h.ban]at hx;obtain⟨a,b⟩:=hn x hx;exact⟨zaD a h.ft,fun ho=>b (h.own x a ho)⟩
theorem NBh.step {φ':Phi} {S':aj} {H':ag} (hn:NBh φ S H) (h:Step φ S H φ' S' H'):NBh φ' S' H':=fun e=>(hn (by rw[<-h.zX];exact e)).step h
def fC (P:Program) (L:List FuncId) (O:bp) (T:tz):Prop:=
 ij O/\∀g args S a,T g args S=some (true,a)->∀φ H vs,NBh φ S H->Sim φ S H->DVL φ H (Own φ S) args vs->∃N y H',bJ P L O N g vs H=some (y,H')/\Got φ S H a.hp a.val H' y
def qP (P:Program) (L:List FuncId) (O:bp) (cx:tV R):Prop:=
 ∀g args S k r,cx g args S k=some r->∀φ H vs,NBh φ S H->Sim φ S H->DVL φ H (Own φ S) args vs->∃v S' N y H',bJ P L O N g vs H=some (y,H')/\Got φ S H S' v H' y/\k v S'=some r
theorem Nr {a b:Operand} (h:Je a b=true):a=b:=by
 unfold Je at h
 split at h
 . rw[zaI]at h;rw[h]
 . simp only[zae,zaI]at h;rw[h.1,h.2]
 . cases h
theorem lX {T:tz} {cx:tV R} (hT:fC P L O T) (hcx:qP P L O cx) (hS:Sim φ S H) {ρ:Operand->Option SV} {ρ':Operand->Option Value} (hρ:∀x s,ρ x=some s->∃v,ρ' x=some v/\DV φ H (Own φ S) s v)
 {o:Oper} {k:SV->aj->Option R} {r:R} (hnb:ff L o≠.pure->NBh φ S H) (h:opS P T cx ρ o S k=some r):∃s S' v H',(∃N,opE P (bJ P L O N) ρ' o H=some (v,H'))/\Got φ S H S' s H' v/\(ff L o= .pure->Still φ S H S' s v)/\k s S'=some r/\(∀t a x p,o.op= .store t a x->ρ a=some p->∃id row w col B' x0,p= .ptr id row w col/\S'=S.put id (some B')/\φ id=some (some x0)/\(∃B0,S.get id=some B0)/\∀z,z≠x0->H'.get z=H.get z):=by
 obtain⟨dst,op,type,pos,after,guard⟩:=o;unfold opS at h;cases op<;>simp only at h<;>try (cases h;done)
 case move x=>
  split at h
  . rename_i s hs;obtain⟨v,h1,h2⟩:=hρ x s hs;exact⟨s,S,v,H,⟨0,by simp[opE,h1]⟩,.same hS h2,(fun _=>⟨rfl,h2⟩),h,(fun _ _ _ _ h=>by cases h)⟩
  . cases h
 case assign x=>
  split at h
  . rename_i s hs;obtain⟨v,h1,h2⟩:=hρ x s hs;exact⟨s,S,v,H,⟨0,by simp[opE,h1]⟩,.same hS h2,(fun _=>⟨rfl,h2⟩),h,(fun _ _ _ _ h=>by cases h)⟩
  . cases h
 case pick c a b=>
  split at h
  . rename_i t hc;obtain⟨vc,h1,h2⟩:=hρ c _ hc;cases h2
    split at h
    . split at h
      . rename_i s hs;obtain⟨v,g1,g2⟩:=hρ a s hs;exact⟨s,S,v,H,⟨0,by simp[opE,h1,g1]⟩,.same hS g2,(fun _=>⟨rfl,g2⟩),h,(fun _ _ _ _ h=>by cases h)⟩
      . cases h
    . split at h
      . rename_i s hs;obtain⟨v,g1,g2⟩:=hρ b s hs;exact⟨s,S,v,H,⟨0,by simp[opE,h1,g1]⟩,.same hS g2,(fun _=>⟨rfl,g2⟩),h,(fun _ _ _ _ h=>by cases h)⟩
      . cases h
  . cases h
 case alloc e=>
  split at h
  . rename_i z hz;obtain⟨i,z0,zc,h1,h2,h3,h4,h5⟩:=iL hz;refine⟨_,_,_,_,⟨0, ?_⟩,L3 hS (EP (h5 φ H (Own φ S))),(fun h=>by simp[ff]at h),h,(fun _ _ _ _ h=>by cases h)⟩;simp[opE,h1,h2,h3]
  . cases h
 case box e x=>
  split at h
  . rename_i cs hcs;rw[zaM]at hcs;obtain⟨s,hs,hc⟩:=hcs;obtain⟨v,h1,h2⟩:=hρ x s hs;obtain⟨vs,g1,g2⟩:=oh h2 hc;refine⟨_,_,_,_,⟨0, ?_⟩,L3 hS (B:= .cells cs) g2,(fun h=>by simp[ff]at h),h,(fun _ _ _ _ h=>by cases h)⟩;simp[opE,h1,g1]
  . cases h
 case build t ps=>
  split at h
  . rename_i l hl;obtain⟨vs,h1,h2⟩:=oE hρ hl
    split at h
    . rename_i s hs;obtain⟨v,g1,g2⟩:=Es h2 hs;exact⟨s,S,v,H,⟨0,by simp[opE,h1,g1]⟩,.same hS g2,(fun _=>⟨rfl,g2⟩),h,(fun _ _ _ _ h=>by cases h)⟩
    . cases h
  . cases h
 case buildSlice t n ps=>
  split at h
  . rename_i l hl;obtain⟨vs,h1,h2⟩:=oE hρ hl;obtain⟨s,S',v,H',g1,g2,g3⟩:=tA hS h2 h;exact⟨s,S',v,H',⟨0,by simp[opE,h1,g1]⟩,g2,(fun h=>by simp[ff]at h),g3,(fun _ _ _ _ h=>by cases h)⟩
  . cases h
 case load t a=>
  split at h
  . rename_i p hp;obtain⟨v,h1,h2⟩:=hρ a p hp;obtain⟨s,u,g1,g2,g3⟩:=m5 hS h2 h;exact⟨s,S,u,H,⟨0,by simp[opE,h1,g1]⟩,.same hS g2,(fun _=>⟨rfl,g2⟩),g3,(fun _ _ _ _ h=>by cases h)⟩
  . cases h
 case store t a x=>
  split at h
  . rename_i p s hp hs;obtain⟨v,h1,h2⟩:=hρ a p hp;obtain⟨w,h3,h4⟩:=hρ x s hs;obtain⟨S',H',g1,g2,g3,g4⟩:=FC hS h2 h4 h;exact⟨_,S',undef,H',⟨0,by simp[opE,h1,h3,g1]⟩,⟨φ,g2,.tup [] #[] rfl (fun i s v h=>by simp at h)⟩,(fun h=>by simp[ff]at h),g3,fun t' a' x' p' e1 e2=>by
     cases e1;rw[hp]at e2;cases e2;exact g4⟩
  . cases h
 case nilCheck x=>
  split at h
  . rename_i hs;obtain⟨v,h1,h2⟩:=hρ x _ hs;cases h2 with
    |ptr _ _ _ _ y hy=>exact⟨_,S,_,H,⟨0,by simp only[opE,h1]⟩,.same hS (.ptr _ _ _ _ y hy),(fun _=>⟨rfl,.ptr _ _ _ _ y hy⟩),h,(fun _ _ _ _ h=>by cases h)⟩
  . rename_i hs;obtain⟨v,h1,h2⟩:=hρ x _ hs;cases h2 with
    |dp _ _ _ y o blk a1 a2 a3 a4=>exact⟨_,S,_,H,⟨0,by simp only[opE,h1]⟩,.same hS (.dp _ _ _ y o blk a1 a2 a3 a4),(fun _=>⟨rfl,.dp _ _ _ y o blk a1 a2 a3 a4⟩),h,(fun _ _ _ _ h=>by cases h)⟩
  . rename_i hs;obtain⟨v,h1,h2⟩:=hρ x _ hs
    split at h
    . rename_i hn;have hn:=zaj hn;cases h2 with
      |kU _ _ _ _ h0=>omega
      |np _ _ _ y _ _ hy=>exact⟨_,S,_,H,⟨0,by simp only[opE,h1]⟩,.same hS (DV.deref hy),(fun _=>⟨rfl,DV.deref hy⟩),h,(fun _ _ _ _ h=>by cases h)⟩
    . cases h
  . rename_i hs;obtain⟨v,h1,h2⟩:=hρ x _ hs;cases h2 with
    |fn _ _ _ x' y' a1 a2 a3 a4=>exact⟨_,S,_,H,⟨0,by simp only[opE,h1]⟩,.same hS (.fn _ _ _ x' y' a1 a2 a3 a4),(fun _=>⟨rfl,.fn _ _ _ x' y' a1 a2 a3 a4⟩),h,(fun _ _ _ _ h=>by cases h)⟩
  . cases h
 case binOp op t x y z=>
  split at h
  . rename_i a b ha hb;obtain⟨v,h1,h2⟩:=hρ x a ha;obtain⟨w,h3,h4⟩:=hρ y b hb;obtain⟨s,u,g1,g2,g3⟩:=J7 h2 h4 h;exact⟨s,S,u,H,⟨0,by simp[opE,h1,h3,g1]⟩,.same hS g2,(fun _=>⟨rfl,g2⟩),g3,(fun _ _ _ _ h=>by cases h)⟩
  . cases h
 case unOp op t x=>
  split at h
  . rename_i s hs;rw[zaM]at hs;obtain⟨a,ha,hu⟩:=hs;obtain⟨v,h1,h2⟩:=hρ x a ha;obtain⟨u,g1,g2⟩:=NA h2 hu;exact⟨s,S,u,H,⟨0,by simp[opE,h1,g1]⟩,.same hS g2,(fun _=>⟨rfl,g2⟩),h,(fun _ _ _ _ h=>by cases h)⟩
  . cases h
 case convert s d x=>
  split at h
  . rename_i s hs;rw[zaM]at hs;obtain⟨a,ha,hu⟩:=hs;obtain⟨v,h1,h2⟩:=hρ x a ha;obtain⟨u,g1,g2⟩:=GM h2 hu;exact⟨s,S,u,H,⟨0,by simp[opE,h1,g1]⟩,.same hS g2,(fun _=>⟨rfl,g2⟩),h,(fun _ _ _ _ h=>by cases h)⟩
  . cases h
 case makeFunc fn a b=>
  split at h
  . rename_i f x y hx hy;obtain⟨vs,h1,h2⟩:=mY hρ hx;obtain⟨ws,h3,h4⟩:=mY hρ hy;refine⟨_,S,.func (.func f) vs.toArray ws.toArray,H,⟨0,by simp[opE,h1,h3]⟩,.same hS ?_,(fun _=>⟨rfl, ?_⟩),h,(fun _ _ _ _ h=>by cases h)⟩
    all_goals exact .fn f x y _ _ (by simpa using h2.1) (by simpa using h4.1) (fun i s v g1 g2=>h2.2 i s v g1 (by simpa using g2)) (fun i s v g1 g2=>h4.2 i s v g1 (by simpa using g2))
  . cases h
 case makeSlice t l c=>
  split at h
  . rename_i a hlc ha;have:=Nr hlc;subst this;obtain⟨v,h1,h2⟩:=hρ l a ha;obtain⟨s,S',u,H',g1,g2,g3⟩:=He hS h2 h;exact⟨s,S',u,H',⟨0,by simp[opE,h1,g1]⟩,g2,(fun h=>by simp[ff]at h),g3,(fun _ _ _ _ h=>by cases h)⟩
  . cases h
 case slice t x lo hi mx=>
  cases mx with
  |some m=>
   cases hi with
   |none=>cases h
   |some hi=>
    simp only at h
    split at h
    . rename_i a l u q ha hl hu hq;obtain⟨v,h1,h2⟩:=hρ x a ha;obtain⟨l',h3,h4⟩:=rZ hρ hl;obtain⟨u',h5,h6⟩:=hρ hi u hu;obtain⟨q',h7,h8⟩:=hρ m q hq;obtain⟨s,w,g1,g2,g3⟩:=BY hS h2 h4 h6 h8 h;exact⟨s,S,w,H,⟨0,by simp[opE,h1,h3,h5,h7,g1]⟩,.same hS g2,(fun _=>⟨rfl,g2⟩),g3,(fun _ _ _ _ h=>by cases h)⟩
    . cases h
  |none=>
   simp only at h
   split at h
   . rename_i a l u ha hl hu;obtain⟨v,h1,h2⟩:=hρ x a ha;obtain⟨l',h3,h4⟩:=rZ hρ hl;obtain⟨u',h5,h6⟩:=rZ hρ hu;obtain⟨s,w,g1,g2,g3⟩:=Fl hS h2 h4 h6 h;exact⟨s,S,w,H,⟨0,by simp[opE,h1,h3,h5,g1]⟩,.same hS g2,(fun _=>⟨rfl,g2⟩),g3,(fun _ _ _ _ h=>by cases h)⟩
   . cases h
 case fieldAddr s x f=>
  split at h
  . rename_i u hu;rw[zaM]at hu;obtain⟨a,ha,hf⟩:=hu;obtain⟨v,h1,h2⟩:=hρ x a ha;obtain⟨w,g1,g2⟩:=vC h2 hf;exact⟨u,S,w,H,⟨0,by simp[opE,h1,g1]⟩,.same hS g2,(fun _=>⟨rfl,g2⟩),h,(fun _ _ _ _ h=>by cases h)⟩
  . cases h
 case field s x f=>
  split at h
  . rename_i u hu;rw[zaM]at hu;obtain⟨a,ha,hf⟩:=hu;obtain⟨v,h1,h2⟩:=hρ x a ha;obtain⟨w,g1,g2⟩:=D4 h2 hf;exact⟨u,S,w,H,⟨0,by simp[opE,h1,g1]⟩,.same hS g2,(fun _=>⟨rfl,g2⟩),h,(fun _ _ _ _ h=>by cases h)⟩
  . cases h
 case indexAddr t x i=>
  split at h
  . rename_i a b ha hb;obtain⟨v,h1,h2⟩:=hρ x a ha;obtain⟨w,h3,h4⟩:=hρ i b hb;obtain⟨s,u,g1,g2,g3⟩:=vg hS h2 h4 h;exact⟨s,S,u,H,⟨0,by simp[opE,h1,h3,g1]⟩,.same hS g2,(fun _=>⟨rfl,g2⟩),g3,(fun _ _ _ _ h=>by cases h)⟩
  . cases h
 case index t x i=>
  split at h
  . rename_i a b ha hb;obtain⟨v,h1,h2⟩:=hρ x a ha;obtain⟨w,h3,h4⟩:=hρ i b hb;obtain⟨s,u,g1,g2,g3⟩:=DL h2 h4 h;exact⟨s,S,u,H,⟨0,by simp[opE,h1,h3,g1]⟩,.same hS g2,(fun _=>⟨rfl,g2⟩),g3,(fun _ _ _ _ h=>by cases h)⟩
  . cases h
 case extract x i=>
  split at h
  . rename_i l hl;obtain⟨v,h1,h2⟩:=hρ x _ hl
    split at h
    . rename_i s hs;cases h2 with
      |tup _ x' hx vx=>
       have hlt:=(zao.1 hs).1;have hv:x'[i]? =some x'[i]:=zaz (by rw[<-hx];exact hlt);refine⟨s,S,x'[i],H,⟨0, ?_⟩,.same hS (vx i s _ hs hv),(fun _=>⟨rfl,vx i s _ hs hv⟩),h,(fun _ _ _ _ h=>by cases h)⟩;simp[opE,h1,tG,hv]
    . cases h
  . cases h
 case call c=>
  split at h
  . rename_i args tZ;obtain⟨vs,h1,h2⟩:=mY hρ tZ
    split at h
    . rename_i b hb;obtain⟨s,S',v,H',g1,g2,g3,g4⟩:=zd hS h2 h;refine⟨s,S',v,H',⟨0,by simp only[opE,h1,hb];exact g1⟩,g2,fun hk=>g3 ?_ ?_,g4,(fun _ _ _ _ h=>by cases h)⟩
      . rintro rfl;simp[ff,hb]at hk
      . rintro rfl;simp[ff,hb]at hk
    . rename_i f hf
      split at h
      . rename_i g x y hg;obtain⟨vf,h3,h4⟩:=hρ f _ hg;cases h4 with
        |fn _ _ _ x' y' hx hy vx vy=>
         have kW:DVL φ H (Own φ S) (x++args++y) (x'.toList++vs++y'.toList):=by
          refine(DVL.append ⟨by simpa using hx,fun i s v a b=>vx i s v a (by simpa using b)⟩ h2).append ⟨by simpa using hy,fun i s v a b=>vy i s v a (by simpa using b)⟩
         have hnp:¬ff L ⟨dst,.call c,type,pos,after,guard⟩= .pure:=by
          intro hk;simp only[ff,hf]at hk
          repeat' split at hk
          all_goals first|(cases hk;done)|(rename_i h5;exact absurd h5 (by simp_all))|simp_all
         have hE:∀N v H',bJ P L O N g (x'.toList++vs++y'.toList) H=some (v,H')->opE P (bJ P L O N) ρ' ⟨dst,.call c,type,pos,after,guard⟩ H=some (v,H'):=by
          intro N v H' hc;simp only[opE,h1,hf,h3];exact hc
         split at h
         . rename_i cnd a ht
           split at h
           . obtain⟨N,y,H',g1,g2⟩:=hT.2 _ _ _ _ ht φ H _ (hnb hnp) hS kW;refine⟨a.val,a.hp,y,H',⟨N,hE N y H' g1⟩,g2,(fun h=>absurd h hnp), ?_,(fun _ _ _ _ h=>by cases h)⟩;cases a<;>exact h
           . cases h
         . obtain⟨v,S',N,y,H',g1,g2,g3⟩:=hcx _ _ _ _ _ h φ H _ (hnb hnp) hS kW;exact⟨v,S',y,H',⟨N,hE N y H' g1⟩,g2,(fun h=>absurd h hnp),g3,(fun _ _ _ _ h=>by cases h)⟩
      . cases h
    . cases h
  . cases h
end
end
end
end Go.Proofs.YtfaojedfnjdnnaaGreat.Ev
