/- Part of a proof: Keep, Deal, Right, Trust, Notes, View, Same, Begins, Pool, Pro, Flow, FlowAid, FlowPlain. Conditions: none. -/
import Derived.Test.YtcbnpnaagbhknaaGreatQ2
import Derived.Test.YtcbnpnaagbhknaaGreatQ4
set_option linter.unusedVariables false
set_option linter.unusedSimpArgs false
set_option linter.unnecessarySimpa false
set_option linter.unusedSectionVars false
namespace Go.Proofs.YtcbnpnaagbhknaaGreat
noncomputable section
open Go Go.Proofs.YtcbnpnaagbhknaaGreat.Ev
set_option maxRecDepth 20000
def XS:List FuncId:=[49]
def XX:bn:=nM 49
theorem HZ:jX Tryz.prog XX:=Ka
theorem PX (g:FuncId) (args:List Value) (H:ag) (h:(XS.any fun x=>g==x)=false):XX g args H=none:=by
 have h:(g==49)=false:=by simpa[XS]using h
 unfold XX nM;rw[h]
def LQ:List FuncId:=[11,33,34,36,41,42,65,75,78,80,82,83,84,107,108,111,118,120,133,158]
def teL:List (FuncId × (List Value->Option (Bool × Value))):=[(22,e22),(73,e73),(104,Va),(106,QQ)]
def TE:Tab:=gk teL
def KN:FuncId->Bool:=Kx teL XS
theorem wN:bn.right Tryz.prog TE:=cF (aH Py (aH NW (aH Kt (aH Ed aA))))
abbrev OO:bn:=ij TE XX
theorem ah:∀g,KN g=false->∀args H,OO g args H=none:=zZ PX
def T0:Tb Tryz.prog LQ TE XX:= .nil HZ.fr
abbrev HO (F:aE) (t:aQ):Prop:=F.ft Tryz.prog LQ OO t
abbrev ER (g:FuncId) (e:ni):Prop:=dZ Tryz.prog LQ OO g e
def T49:Tb Tryz.prog LQ TE XX:=T0.add 49 _ (FJ fun _=>rfl)
def bB (l:List Int) (i:Int):Int:=if l=[]then 0 else l.getD (i%(l.length:Int)).toNat 0
def C0 (i:Nat) (x:Int):Dat:= .r [.n (2*i+1),.n (within x 0 100000)]
def gA:Nat->List Int->List Dat
 |_,[]=>[]
 |i,x::l=>C0 i x::gA (i+1) l
def kj (l:List Int):List Dat:=gA 0 (l.take 10)
def N58:aE:=⟨T49.tab,58,⟨[.ints .i64,.int .i64],[],0⟩,⟨[.int .i64],[],0⟩,[]⟩
def t58 (m:Nat):List Int × Int->Option (List Un):=fun(a0,a1)=>
 bif (a0.length:Int)==0 then
 some ([.i 0])
 else
 Sr (decide ((a0.length:Int)=0))<|
 lt ((a1.tmod (a0.length:Int)):Int) fun x1=>
 chk (inb x1 a0.length)<|
 chk (decide (x1.toNat<a0.length))<|
 some ([.i (a0.getD x1.toNat 0)])
def f58:List Int × Int->Bool × List Un:=fun(a0,a1)=>(decide (0<=a1),[.i (bB a0 a1)])
theorem Te (a0:List Int) (a1:Int) (hc:(decide (0<=a1))=true):∃m,t58 m (a0,a1)=some ([.i (bB a0 a1)]):=by
 simp only[zag]at hc;refine⟨0, ?_⟩;unfold t58 bB;cases a0 with
 |nil=>simp[dS]
 |cons x l=>
  have e:=zbq a1 (show((x::l).length:Int)≠0 by simp;omega);have e2:=zbd a1 (show(0:Int)<((x::l).length:Int) by simp);rw[if_neg (by simp)];dsimp only;simp only[tm _ hc];generalize a1%_=z at*
  simp(disch:=omega) only[TRa,TRi,aa]
theorem Ok:ER 58 (mkE N58.en N58.ex f58):=aq ah T49.right (fun m=>[]) (t:=t58) (by kernel_rfl) (fun m=>aA) (fun m a=>by kernel_rfl) fun(a0,a1) hc=>Te a0 a1 hc
def T58:Tb Tryz.prog LQ TE XX:=T49.add 58 _ Ok
def N57:aE:=⟨T58.tab,57,⟨[.ints .i64],[],0⟩,⟨[.buf 0 2],[.ab (sI 2)],0⟩,[]⟩
abbrev Gj:Type:=List Int × Int × List Dat
def BK (m:Nat) (k:Gj->Option (List Un)):Gj->Option (List Un):=fun(a0,a1,a2)=>
 bif (decide (a1<(a0.length:Int)))then
 bif decide (a1<10)then
 chk (inb a1 a0.length)<|
 chk (decide (a1.toNat<a0.length))<|
 chk (fits (a2.length+1) 16)<|
 k (a0,(w64 (a1+1)),(a2++([.r [.n (w64 ((w64 (2*a1))+1)),.n (within (a0.getD a1.toNat 0) 0 100000)]])))
 else
 some ([.d a2])
 else
 some ([.d a2])
def Ae (m:Nat):Nat->Gj->Option (List Un):=bg (BK m)
theorem xH (m:Nat) (n:Nat):Ae m (n+1)=BK m (Ae m n):=rfl
def LD (F:Gj->Option (List Un)):aQ:=⟨[.lp [0,1,0,1,1],.blk 0,.code [1,1,1]],⟨frm 28 [(0,.ints .i64),(3,.buf 0 2),(4,.int .i64)],[.ab (sI 2)],0⟩,onU F⟩
theorem Vz (m:Nat):∀n,HO N57 (LD (Ae m n)):=ar ah T58.right (fun k=>[LD k]) (fun k h=>(aH h aA)) fun k a=>by kernel_rfl
def t57 (m:Nat):List Int->Option (List Un):=fun a0=>
 Ae m m (a0,0,[])
theorem RY (m:Nat):∀(rest pre:List Int) (acc:List Dat) (n:Nat),rest.length<n->acc.length=pre.length->pre.length<=10->
 Ae m n (pre++rest,(pre.length:Int),acc)=some [.d (acc++gA pre.length (rest.take (10-pre.length)))]:=by
 intro rest
 induction rest with
 |nil=>
  intro pre acc n hn hl hp;obtain⟨n,rfl⟩:=ai n (by simp at hn;omega);rw[xH];unfold BK;dsimp only;simp[az,gA]
 |cons x rest ih=>
  intro pre acc n hn hl hp;obtain⟨n,rfl⟩:=ai n (by simp at hn;omega);simp only[zac]at hn;rw[xH];unfold BK;dsimp only
  by_cases h:pre.length<10
  . have:=ih (pre++[x]) (acc++[C0 pre.length x]) n (by omega) (by simp;omega) (by simp;omega);obtain⟨k,hk⟩:∃k,10-pre.length=k+1:=⟨9-pre.length,by omega⟩
    have hk2:10-(pre.length+1)=k:=by omega
    simp only[hk2,hk,List.take_succ_cons,gA,C0,zad,zac,zas,zat,zaN,zaC,zaD]at this⊢;simp(disch:=omega) only[TRa,TRi,aa,LNl,LNi,zaa,bL];exact this
  . simp only[show 10-pre.length=0 by omega,List.take_zero,gA,zaS];simp(disch:=omega) only[TRa,TRi,aa,LNl,LNi,zaa,bL]
def f57:List Int->Bool × List Un:=fun a0=>(true,[.d (kj a0)])
theorem QR (a0:List Int):∃m,t57 m a0=some ([.d (kj a0)]):=by
 refine⟨a0.length+1, ?_⟩;have:=RY (a0.length+1) a0 [] [] (a0.length+1) (by omega) rfl (by simp);simpa[kj,t57]using this
theorem M7:ER 57 (mkE N57.en N57.ex f57):=aq ah T58.right (fun m=>[LD (Ae m m)]) (t:=t57) (by kernel_rfl) (fun m=>(aH (Vz m m) aA)) (fun m a=>by kernel_rfl) fun a0 hc=>QR a0
def T57:Tb Tryz.prog LQ TE XX:=T58.add 57 _ M7
@[ext] structure aw where
 year:Int
 month:Int
 basis:Int
instance : Uns aw := Uns.via (B := Int × Int × Int) (fun x => (x.year, x.month, x.basis)) (fun x => match x with | (year, month, basis) => ⟨year, month, basis⟩) (fun _ => rfl)
@[ext] structure ax where
 fee:Int
 aX:Int
 target:Int
 advance:Int
 eY:Int
 oc:Int
 ic:Int
 late:Int
 l7:Int
 clean:Int
instance : Uns ax := Uns.via (B := Int × Int × Int × Int × Int × Int × Int × Int × Int × Int) (fun x => (x.fee, x.aX, x.target, x.advance, x.eY, x.oc, x.ic, x.late, x.l7, x.clean)) (fun x => match x with | (fee, aX, target, advance, eY, oc, ic, late, l7, clean) => ⟨fee, aX, target, advance, eY, oc, ic, late, l7, clean⟩) (fun _ => rfl)
@[ext] structure bJ where
 a:aw
 aP:List Dat
 notes:List Dat
 b:ax
 s0:List Dat
 s1:List Dat
 s2:List Dat
instance : Uns bJ := Uns.via (B := aw × List Dat × List Dat × ax × List Dat × List Dat × List Dat) (fun x => (x.a, x.aP, x.notes, x.b, x.s0, x.s1, x.s2)) (fun x => match x with | (a, aP, notes, b, s0, s1, s2) => ⟨a, aP, notes, b, s0, s1, s2⟩) (fun _ => rfl)
@[ext] structure cI where
 a:aw
 b:ax
 aP:List Int
 notes:List Int
 pk:List Int
 Ar:List Int
 s0:List Int
 s1:List Int
 s2:List Int
instance : Uns cI := Uns.via (B := aw × ax × List Int × List Int × List Int × List Int × List Int × List Int × List Int) (fun x => (x.a, x.b, x.aP, x.notes, x.pk, x.Ar, x.s0, x.s1, x.s2)) (fun x => match x with | (a, b, aP, notes, pk, Ar, s0, s1, s2) => ⟨a, b, aP, notes, pk, Ar, s0, s1, s2⟩) (fun _ => rfl)
def an (j:Nat):List Dat->Int
 |[]=>0
 |d::l=>d.i j+an j l
def eZ (k:cI):List Dat:=kj k.aP++[.r [.n 99,.n 50000]]
def iD (k:cI):Int:=an 1 (eZ k)
def GY (k:cI) (p:Int) (i:Nat):Dat:= .r [.n (within (bB k.pk i) 0 3),.n (1+within (bB k.notes i) 0 (p/6)),.n (within (bB k.Ar i) 0 1200)]
def iR (k:cI):List Dat:=(List.range (min 5 (1+k.notes.length))).map (GY k (iD k))
def kN (x:Int):Int:=if within x 1 7=3 then within (w64 (x.tdiv 7)) 0 3 else 0
def cG (l:List Dat) (a b:Int):Bool:=l.any fun d=>d.i 0==a&&d.i 1==b
def gy:List Dat->List Int->List Dat
 |acc,[]=>acc
 |acc,x::r=>gy (if cG acc (within x 1 7) (kN x)then acc else acc++[.r [.n (within x 1 7),.n (kN x)]]) r
def AW:List Dat:=[.r [.n 1,.n 0],.r [.n 3,.n 0],.r [.n 3,.n 1],.r [.n 4,.n 0],.r [.n 2,.n 0],.r [.n 6,.n 0]]
def nA (l:List Int):List Dat:=if (gy [] (l.take 12)).length=0 then AW else gy [] (l.take 12)
def aS (k:cI):bJ:=⟨⟨within k.a.year 1990 2040,within k.a.month 1 12,within k.a.basis 0 2⟩,eZ k,iR k,
 ⟨within k.b.fee 0 200,within k.b.aX 0 5000,within k.b.target 0 500,within k.b.advance 0 3000,within k.b.eY 0 3,within k.b.oc 0 12000,within k.b.ic 0 15000,within k.b.late 0 5000,within k.b.l7 0 5000,within k.b.clean 0 3000⟩,
 nA k.s0,nA k.s1,nA k.s2⟩
theorem pw:∀(l:List Int) (i:Nat),∀d∈gA i l,0<=d.i 1/\d.i 1<=100000
 |[],i=>by simp[gA]
 |x::l,i=>by
  simp only[gA,zaY,forall_eq_or_imp];exact⟨aZ (by decide),pw l _⟩
theorem xr:∀(l:List Int) (i:Nat),(gA i l).length=l.length
 |[],i=>rfl
 |x::l,i=>by simp[gA,xr l]
theorem mV (k:cI):(eZ k).length<=11:=by simp[eZ,kj,xr];omega
theorem vZ (k:cI):∀d∈eZ k,0<=d.i 1/\d.i 1<=100000:=by
 simp only[eZ,kj,zbp,zbW]
 rintro d (h|rfl)
 . exact pw _ _ d h
 . decide
theorem qo (j:Nat) (b:Int):∀(l:List Dat),(∀d∈l,0<=d.i j/\d.i j<=b)->0<=an j l/\an j l<=b*l.length
 |[],_=>by simp[an]
 |x::l,h=>by
  have h1:=h x (by simp);have h2:=qo j b l fun d hd=>h d (by simp[hd])
  simp only[an,zac,zaD,zcb];omega
theorem xi (k:cI):50000<=iD k/\iD k<=1100000:=by
 have h1:=qo 1 100000 (eZ k) (vZ k);have h2:=mV k;refine⟨?_,by unfold iD;omega⟩;have h3:∀(a b:List Dat),an 1 (a++b)=an 1 a+an 1 b:=by
  intro a b
  induction a with
  |nil=>simp[an]
  |cons x a ih=>simp only[zaN,an,ih];omega
 have h4:=qo 1 100000 (kj k.aP) (pw _ _);rw[iD,eZ,h3];have:an 1 [Dat.r [.n 99,.n 50000]]=50000:=by decide
 omega
theorem BH (l:List Dat) (x:Dat) (a b:Int):cG (l++[x]) a b=(cG l a b||(x.i 0==a&&x.i 1==b)):=by simp[cG]
theorem vA:∀(l:List Int) (acc:List Dat),(gy acc l).length<=acc.length+l.length
 |[],acc=>by simp[gy]
 |x::l,acc=>by
  have:=vA l (if cG acc (within x 1 7) (kN x)then acc else acc++[.r [.n (within x 1 7),.n (kN x)]]);simp only[gy,zac]
  split at this<;>rename_i h
  . rw[if_pos h];omega
  . rw[if_neg h];simp at this⊢;omega
def N19:aE:=⟨T57.tab,19,⟨[.agg [.int .i64,.int .i64,.int .i64,.int .i64,.int .i64,.int .i64,.int .i64,.int .i64,.int .i64,.int .i64,.int .i64,.int .i64,.int .i64,.ints .i64,.ints .i64,.ints .i64,.ints .i64,.ints .i64,.ints .i64,.ints .i64]],[],0⟩,⟨[.agg [.int .i64,.int .i64,.int .i64,.buf 0 2,.buf 1 3,.int .i64,.int .i64,.int .i64,.int .i64,.int .i64,.int .i64,.int .i64,.int .i64,.int .i64,.int .i64,.buf 2 2,.buf 3 2,.buf 4 2]],[.ab (sI 2),.ab (sI 3),.ab (sI 2),.ab (sI 2),.ab (sI 2)],0⟩,[]⟩
abbrev Hd:Type:=Int × Int × Bool × Int × Int × Int × cI × aw × ax × aw × ax × List Dat × Int × Int × List Dat × List Dat × List Dat × List Dat × List Dat × List Dat × List Dat × List Dat × List Dat × List Dat
abbrev qG:Type:=Int × Int × Int × cI × aw × ax × aw × ax × List Dat × List Dat × List Dat × List Dat × List Dat × List Dat × List Dat × List Dat × List Dat × List Dat × List Dat
abbrev kY:Type:=Int × cI × aw × ax × aw × ax × List Dat × List Dat × List Dat × List Dat × List Dat × List Dat × List Dat × List Dat × List Dat × List Dat
abbrev HB:Type:=Int × Int × cI × aw × ax × aw × ax × List Dat × List Dat × List Dat × List Dat × List Dat × List Dat × List Dat × List Dat × List Dat × List Dat
abbrev Hk:Type:=Int × Int × Int × cI × aw × ax × aw × ax × List Dat × List Dat × List Dat × List Dat × List Dat × List Dat × List Dat × List Dat × List Dat × List Dat
def Ay (m:Nat) (k2:kY->Option (List Un)) (k3:qG->Option (List Un)) (k:Hd->Option (List Un)):Hd->Option (List Un):=fun(a0,a1,a2,a3,a4,a5,a6,a7,a8,a9,a10,a11,a12,a13,a14,a15,a16,a17,a18,a19,a20,a21,a22,a23)=>
 bif decide (a5<a4)then
 chk (inb a5 a11.length)<|
 chk (decide (a5.toNat<a11.length))<|
 lt (af a11 a5.toNat:Dat) fun d22=>
 bif a2 then
 k (a0,a1,true,a3,a4,(w64 (a5+1)),a6,a7,a8,a9,a10,a11,a12,a13,a14,a15,a16,a17,a18,a19,a20,a21,a22,a23)
 else
 k (a0,a1,(((d22.i 0)==a12)&&(((d22.i 1)==a13)&&true)),a3,a4,(w64 (a5+1)),a6,a7,a8,a9,a10,a11,a12,a13,a14,a15,a16,a17,a18,a19,a20,a21,a22,a23)
 else
 bif !a2 then
 chk (fits (a11.length+1) 16)<|
 k3 (a0,(w64 (a1+1)),a3,a6,a7,a8,a9,a10,(a11++([.r [.n a12,.n a13]])),a14,a15,a16,a17,a18,a19,a20,a21,a22,a23)
 else
 k3 (a0,(w64 (a1+1)),a3,a6,a7,a8,a9,a10,a11,a14,a15,a16,a17,a18,a19,a20,a21,a22,a23)
def xj (m:Nat) (k2:kY->Option (List Un)) (k3:qG->Option (List Un)):Nat->Hd->Option (List Un):=bg (Ay m k2 k3)
theorem wi (m:Nat) (k2:kY->Option (List Un)) (k3:qG->Option (List Un)) (n:Nat):xj m k2 k3 (n+1)=Ay m k2 k3 (xj m k2 k3 n):=rfl
def KS (F:Hd->Option (List Un)):aQ:=⟨[.lp [0,1,0,1,1,1,0,0,1,0,0,1,0,1,1,0,0,1,1,0,0,1,0,1,1,1,1,1,1,1],.blk 8,.code [1,1,1,1,0,0,1,0,0,1,0,1,1,0,0,1,1,0,0,1,0,1,1,1,1,1,1,1],.blk 7,.code [1,1,0,0,1,0,1,1,0,0,1,1,0,0,1,0,1,1,1,1,1,1,1],.lp [0,1,0,1,1,0,0,1,1,0,0,1,0,1,1,1,1,1,1,1],.blk 6,.code [1,1,1,0,0,1,1,0,0,1,0,1,1,1,1,1,1,1],.blk 5,.code [1,1,1,0,0,1,0,1,1,1,1,1,1,1],.lp [0,1,0,1,1,1,1,1,1,1],.blk 4,.code [1,1,1,1,1,1,1,1]],⟨frm 192 [(1,.ptr 0 0 0),(2,.ptr 1 0 0),(3,.ptr 2 0 0),(9,.int .i64),(10,.buf 3 2),(11,.int .i64),(12,.ptr 4 0 0),(13,.bool),(119,.int .i64),(157,.buf 3 2),(158,.int .i64),(159,.int .i64)],[.cells [.int .i64,.int .i64,.int .i64,.int .i64,.int .i64,.int .i64,.int .i64,.int .i64,.int .i64,.int .i64,.int .i64,.int .i64,.int .i64,.ints .i64,.ints .i64,.ints .i64,.ints .i64,.ints .i64,.ints .i64,.ints .i64],.cells [.int .i64,.int .i64,.int .i64,.buf 5 2,.buf 6 3,.int .i64,.int .i64,.int .i64,.int .i64,.int .i64,.int .i64,.int .i64,.int .i64,.int .i64,.int .i64,.buf 7 2,.buf 8 2,.buf 9 2],.cells [.int .i64,.int .i64,.int .i64,.buf 10 2,.buf 11 3,.int .i64,.int .i64,.int .i64,.int .i64,.int .i64,.int .i64,.int .i64,.int .i64,.int .i64,.int .i64,.buf 12 2,.buf 13 2,.buf 14 2],.ab (sI 2),.cells [.int .i64,.int .i64],.ab (sI 2),.ab (sI 3),.ab (sI 2),.ab (sI 2),.ab (sI 2),.ab (sI 2),.ab (sI 3),.ab (sI 2),.ab (sI 2),.ab (sI 2)],0⟩,onU F⟩
def BQ (m:Nat) (k2:kY->Option (List Un)) (k:qG->Option (List Un)):qG->Option (List Un):=fun(a0,a1,a2,a3,a4,a5,a6,a7,a8,a9,a10,a11,a12,a13,a14,a15,a16,a17,a18)=>
 chk (inb a0 3)<|
 chk (decide (a0.toNat<3))<|
 bif (decide (a1<((List.getD [a3.s0,a3.s1,a3.s2] a0.toNat []).length:Int)))then
 bif decide (a1<12)then
 chk (inb a0 3)<|
 chk (decide (a0.toNat<3))<|
 chk (inb a1 ((List.getD [a3.s0,a3.s1,a3.s2] a0.toNat []).length))<|
 chk (decide (a1.toNat<(List.getD [a3.s0,a3.s1,a3.s2] a0.toNat []).length))<|
 lt (((List.getD [a3.s0,a3.s1,a3.s2] a0.toNat []).getD a1.toNat 0):Int) fun x19=>
 bif (within x19 1 7)==3 then
 chk (inb a0 3)<|
 chk (decide (a0.toNat<3))<|
 chk (inb a1 ((List.getD [a3.s0,a3.s1,a3.s2] a0.toNat []).length))<|
 chk (decide (a1.toNat<(List.getD [a3.s0,a3.s1,a3.s2] a0.toNat []).length))<|
 xj m k2 k m (a0,a1,false,a2,(a8.length:Int),0,a3,a4,a5,a6,a7,a8,(within x19 1 7),(within (w64 (((List.getD [a3.s0,a3.s1,a3.s2] a0.toNat []).getD a1.toNat 0).tdiv 7)) 0 3),a9,a10,a11,a12,a13,a14,a15,a16,a17,a18)
 else
 xj m k2 k m (a0,a1,false,a2,(a8.length:Int),0,a3,a4,a5,a6,a7,a8,(within x19 1 7),0,a9,a10,a11,a12,a13,a14,a15,a16,a17,a18)
 else
 bif (a8.length:Int)==0 then
 bif decide (a0=0)then
 k2 ((w64 (a2+1)),a3,a4,a5,a6,a7,a9,a10,a11,a12,a13,a14,a15,([.r [.n 1,.n 0],.r [.n 3,.n 0],.r [.n 3,.n 1],.r [.n 4,.n 0],.r [.n 2,.n 0],.r [.n 6,.n 0]]:List Dat),a17,a18)
 else
 bif decide (a0=1)then
 k2 ((w64 (a2+1)),a3,a4,a5,a6,a7,a9,a10,a11,a12,a13,a14,a15,a16,([.r [.n 1,.n 0],.r [.n 3,.n 0],.r [.n 3,.n 1],.r [.n 4,.n 0],.r [.n 2,.n 0],.r [.n 6,.n 0]]:List Dat),a18)
 else
 bif decide (a0=2)then
 k2 ((w64 (a2+1)),a3,a4,a5,a6,a7,a9,a10,a11,a12,a13,a14,a15,a16,a17,([.r [.n 1,.n 0],.r [.n 3,.n 0],.r [.n 3,.n 1],.r [.n 4,.n 0],.r [.n 2,.n 0],.r [.n 6,.n 0]]:List Dat))
 else
 none
 else
 bif decide (a0=0)then
 k2 ((w64 (a2+1)),a3,a4,a5,a6,a7,a9,a10,a11,a12,a13,a14,a15,a8,a17,a18)
 else
 bif decide (a0=1)then
 k2 ((w64 (a2+1)),a3,a4,a5,a6,a7,a9,a10,a11,a12,a13,a14,a15,a16,a8,a18)
 else
 bif decide (a0=2)then
 k2 ((w64 (a2+1)),a3,a4,a5,a6,a7,a9,a10,a11,a12,a13,a14,a15,a16,a17,a8)
 else
 none
 else
 bif (a8.length:Int)==0 then
 bif decide (a0=0)then
 k2 ((w64 (a2+1)),a3,a4,a5,a6,a7,a9,a10,a11,a12,a13,a14,a15,([.r [.n 1,.n 0],.r [.n 3,.n 0],.r [.n 3,.n 1],.r [.n 4,.n 0],.r [.n 2,.n 0],.r [.n 6,.n 0]]:List Dat),a17,a18)
 else
 bif decide (a0=1)then
 k2 ((w64 (a2+1)),a3,a4,a5,a6,a7,a9,a10,a11,a12,a13,a14,a15,a16,([.r [.n 1,.n 0],.r [.n 3,.n 0],.r [.n 3,.n 1],.r [.n 4,.n 0],.r [.n 2,.n 0],.r [.n 6,.n 0]]:List Dat),a18)
 else
 bif decide (a0=2)then
 k2 ((w64 (a2+1)),a3,a4,a5,a6,a7,a9,a10,a11,a12,a13,a14,a15,a16,a17,([.r [.n 1,.n 0],.r [.n 3,.n 0],.r [.n 3,.n 1],.r [.n 4,.n 0],.r [.n 2,.n 0],.r [.n 6,.n 0]]:List Dat))
 else
 none
 else
 bif decide (a0=0)then
 k2 ((w64 (a2+1)),a3,a4,a5,a6,a7,a9,a10,a11,a12,a13,a14,a15,a8,a17,a18)
 else
 bif decide (a0=1)then
 k2 ((w64 (a2+1)),a3,a4,a5,a6,a7,a9,a10,a11,a12,a13,a14,a15,a16,a8,a18)
 else
 bif decide (a0=2)then
 k2 ((w64 (a2+1)),a3,a4,a5,a6,a7,a9,a10,a11,a12,a13,a14,a15,a16,a17,a8)
 else
 none
def vK (m:Nat) (k2:kY->Option (List Un)):Nat->qG->Option (List Un):=bg (BQ m k2)
theorem uX (m:Nat) (k2:kY->Option (List Un)) (n:Nat):vK m k2 (n+1)=BQ m k2 (vK m k2 n):=rfl
def H6 (F:qG->Option (List Un)):aQ:=⟨[.lp [0,1,0,1,1,0,0,1,1,0,0,1,0,1,1,1,1,1,1,1],.blk 6,.code [1,1,1,0,0,1,1,0,0,1,0,1,1,1,1,1,1,1],.blk 5,.code [1,1,1,0,0,1,0,1,1,1,1,1,1,1],.lp [0,1,0,1,1,1,1,1,1,1],.blk 4,.code [1,1,1,1,1,1,1,1]],⟨frm 192 [(1,.ptr 0 0 0),(2,.ptr 1 0 0),(3,.ptr 2 0 0),(9,.int .i64),(10,.buf 3 2),(11,.int .i64),(119,.int .i64)],[.cells [.int .i64,.int .i64,.int .i64,.int .i64,.int .i64,.int .i64,.int .i64,.int .i64,.int .i64,.int .i64,.int .i64,.int .i64,.int .i64,.ints .i64,.ints .i64,.ints .i64,.ints .i64,.ints .i64,.ints .i64,.ints .i64],.cells [.int .i64,.int .i64,.int .i64,.buf 4 2,.buf 5 3,.int .i64,.int .i64,.int .i64,.int .i64,.int .i64,.int .i64,.int .i64,.int .i64,.int .i64,.int .i64,.buf 6 2,.buf 7 2,.buf 8 2],.cells [.int .i64,.int .i64,.int .i64,.buf 9 2,.buf 10 3,.int .i64,.int .i64,.int .i64,.int .i64,.int .i64,.int .i64,.int .i64,.int .i64,.int .i64,.int .i64,.buf 11 2,.buf 12 2,.buf 13 2],.ab (sI 2),.ab (sI 2),.ab (sI 3),.ab (sI 2),.ab (sI 2),.ab (sI 2),.ab (sI 2),.ab (sI 3),.ab (sI 2),.ab (sI 2),.ab (sI 2)],0⟩,onU F⟩
def rU (m:Nat) (k:kY->Option (List Un)):kY->Option (List Un):=fun(a0,a1,a2,a3,a4,a5,a6,a7,a8,a9,a10,a11,a12,a13,a14,a15)=>
 bif decide (a0<3)then
 vK m k m (a0,0,a0,a1,a2,a3,a4,a5,[],a6,a7,a8,a9,a10,a11,a12,a13,a14,a15)
 else
 some (Uns.enc (a4:aw)++Uns.enc (a5:ax)++[.d a11,.d a12,.d a13,.d a14,.d a15])
def qN (m:Nat):Nat->kY->Option (List Un):=bg (rU m)
theorem mU (m:Nat) (n:Nat):qN m (n+1)=rU m (qN m n):=rfl
def Dh (F:kY->Option (List Un)):aQ:=⟨[.lp [0,1,0,1,1,1,1,1,1,1],.blk 4,.code [1,1,1,1,1,1,1,1]],⟨frm 192 [(1,.ptr 0 0 0),(2,.ptr 1 0 0),(3,.ptr 2 0 0),(119,.int .i64)],[.cells [.int .i64,.int .i64,.int .i64,.int .i64,.int .i64,.int .i64,.int .i64,.int .i64,.int .i64,.int .i64,.int .i64,.int .i64,.int .i64,.ints .i64,.ints .i64,.ints .i64,.ints .i64,.ints .i64,.ints .i64,.ints .i64],.cells [.int .i64,.int .i64,.int .i64,.buf 3 2,.buf 4 3,.int .i64,.int .i64,.int .i64,.int .i64,.int .i64,.int .i64,.int .i64,.int .i64,.int .i64,.int .i64,.buf 5 2,.buf 6 2,.buf 7 2],.cells [.int .i64,.int .i64,.int .i64,.buf 8 2,.buf 9 3,.int .i64,.int .i64,.int .i64,.int .i64,.int .i64,.int .i64,.int .i64,.int .i64,.int .i64,.int .i64,.buf 10 2,.buf 11 2,.buf 12 2],.ab (sI 2),.ab (sI 3),.ab (sI 2),.ab (sI 2),.ab (sI 2),.ab (sI 2),.ab (sI 3),.ab (sI 2),.ab (sI 2),.ab (sI 2)],0⟩,onU F⟩
def AO (m:Nat) (k:HB->Option (List Un)):HB->Option (List Un):=fun(a0,a1,a2,a3,a4,a5,a6,a7,a8,a9,a10,a11,a12,a13,a14,a15,a16)=>
 bif decide (a1<(w64 (1+(a2.notes.length:Int))))then
 bif decide (a1<5)then
 chk (decide (0<=a1))<|
 bif decide (-2305843009213693952<=0/\0<=(w64 (a0.tdiv 6))/\(w64 (a0.tdiv 6))<=2305843009213693952)then
 chk (decide (0<=a1))<|
 chk (decide (0<=a1))<|
 chk (fits (a13.length+1) 24)<|
 k (a0,(w64 (a1+1)),a2,a3,a4,a5,a6,a7,a8,a9,a10,a11,a12,(a13++([.r [.n (within (bB a2.pk a1) 0 3),.n (w64 (1+(within (bB a2.notes a1) 0 (w64 (a0.tdiv 6))))),.n (within (bB a2.Ar a1) 0 1200)]])),a14,a15,a16)
 else
 none
 else
 qN m m (0,a2,a3,a4,a5,a6,a7,a8,a9,a10,a11,a12,a13,a14,a15,a16)
 else
 qN m m (0,a2,a3,a4,a5,a6,a7,a8,a9,a10,a11,a12,a13,a14,a15,a16)
def wQ (m:Nat):Nat->HB->Option (List Un):=bg (AO m)
theorem wA (m:Nat) (n:Nat):wQ m (n+1)=AO m (wQ m n):=rfl
def JL (F:HB->Option (List Un)):aQ:=⟨[.lp [0,1,0,1,1,1,1,1,1],.blk 2,.code [1,1,1,1,1,1,1]],⟨frm 192 [(1,.ptr 0 0 0),(2,.ptr 1 0 0),(3,.ptr 2 0 0),(4,.int .i64),(7,.int .i64)],[.cells [.int .i64,.int .i64,.int .i64,.int .i64,.int .i64,.int .i64,.int .i64,.int .i64,.int .i64,.int .i64,.int .i64,.int .i64,.int .i64,.ints .i64,.ints .i64,.ints .i64,.ints .i64,.ints .i64,.ints .i64,.ints .i64],.cells [.int .i64,.int .i64,.int .i64,.buf 3 2,.buf 4 3,.int .i64,.int .i64,.int .i64,.int .i64,.int .i64,.int .i64,.int .i64,.int .i64,.int .i64,.int .i64,.buf 5 2,.buf 6 2,.buf 7 2],.cells [.int .i64,.int .i64,.int .i64,.buf 8 2,.buf 9 3,.int .i64,.int .i64,.int .i64,.int .i64,.int .i64,.int .i64,.int .i64,.int .i64,.int .i64,.int .i64,.buf 10 2,.buf 11 2,.buf 12 2],.ab (sI 2),.ab (sI 3),.ab (sI 2),.ab (sI 2),.ab (sI 2),.ab (sI 2),.ab (sI 3),.ab (sI 2),.ab (sI 2),.ab (sI 2)],0⟩,onU F⟩
def Az (m:Nat) (k:Hk->Option (List Un)):Hk->Option (List Un):=fun(a0,a1,a2,a3,a4,a5,a6,a7,a8,a9,a10,a11,a12,a13,a14,a15,a16,a17)=>
 bif decide (a2<a1)then
 chk (inb a2 a8.length)<|
 chk (decide (a2.toNat<a8.length))<|
 k ((w64 (a0+((af a8 a2.toNat).i 1))),a1,(w64 (a2+1)),a3,a4,a5,a6,a7,a8,a9,a10,a11,a12,a13,a14,a15,a16,a17)
 else
 wQ m m (a0,0,a3,a4,a5,a6,a7,a9,a10,a11,a12,a13,a8,a14,a15,a16,a17)
def wh (m:Nat):Nat->Hk->Option (List Un):=bg (Az m)
theorem vR (m:Nat) (n:Nat):wh m (n+1)=Az m (wh m n):=rfl
def JO (F:Hk->Option (List Un)):aQ:=⟨[.lp [0,1,0,1,1,1,1,1],.blk 0,.code [1,1,1,1,1,1]],⟨frm 192 [(1,.ptr 0 0 0),(2,.ptr 1 0 0),(3,.ptr 2 0 0),(4,.int .i64),(71,.buf 3 2),(72,.int .i64),(73,.int .i64)],[.cells [.int .i64,.int .i64,.int .i64,.int .i64,.int .i64,.int .i64,.int .i64,.int .i64,.int .i64,.int .i64,.int .i64,.int .i64,.int .i64,.ints .i64,.ints .i64,.ints .i64,.ints .i64,.ints .i64,.ints .i64,.ints .i64],.cells [.int .i64,.int .i64,.int .i64,.buf 4 2,.buf 5 3,.int .i64,.int .i64,.int .i64,.int .i64,.int .i64,.int .i64,.int .i64,.int .i64,.int .i64,.int .i64,.buf 6 2,.buf 7 2,.buf 8 2],.cells [.int .i64,.int .i64,.int .i64,.buf 3 2,.buf 9 3,.int .i64,.int .i64,.int .i64,.int .i64,.int .i64,.int .i64,.int .i64,.int .i64,.int .i64,.int .i64,.buf 10 2,.buf 11 2,.buf 12 2],.ab (sI 2),.ab (sI 2),.ab (sI 3),.ab (sI 2),.ab (sI 2),.ab (sI 2),.ab (sI 3),.ab (sI 2),.ab (sI 2),.ab (sI 2)],0⟩,onU F⟩
theorem Vr (m:Nat) (k2:kY->Option (List Un)) (h2:HO N19 (Dh k2)) (k3:qG->Option (List Un)) (h3:HO N19 (H6 k3)):∀n,HO N19 (KS (xj m k2 k3 n)):=ar ah T57.right (fun k=>[H6 k3,KS k]) (fun k h=>(aH h3 (aH h aA))) fun k a=>by kernel_rfl
theorem Tw (m:Nat) (k2:kY->Option (List Un)) (h2:HO N19 (Dh k2)):∀n,HO N19 (H6 (vK m k2 n)):=ar ah T57.right (fun k=>[Dh k2,KS (xj m k2 (k) m)]) (fun k h=>(aH h2 (aH (Vr m _ h2 _ h m) aA))) fun k a=>by kernel_rfl
theorem UF (m:Nat):∀n,HO N19 (Dh (qN m n)):=ar ah T57.right (fun k=>[H6 (vK m (k) m)]) (fun k h=>(aH (Tw m _ h m) aA)) fun k a=>by kernel_rfl
theorem Tk (m:Nat):∀n,HO N19 (JL (wQ m n)):=ar ah T57.right (fun k=>[JL k,Dh (qN m m)]) (fun k h=>(aH h (aH (UF m m) aA))) fun k a=>by kernel_rfl
theorem TY (m:Nat):∀n,HO N19 (JO (wh m n)):=ar ah T57.right (fun k=>[JO k,JL (wQ m m)]) (fun k h=>(aH h (aH (Tk m m) aA))) fun k a=>by kernel_rfl
def t19 (m:Nat):cI->Option (List Un):=fun a0=>
 chk (fits ((kj a0.aP).length+1) 16)<|
 lt (((kj a0.aP)++([.r [.n 99,.n 50000]])):List Dat) fun l11=>
 wh m m (0,(l11.length:Int),0,a0,(⟨0,0,0⟩:aw),(⟨0,0,0,0,0,0,0,0,0,0⟩:ax),(⟨(within a0.a.year 1990 2040),(within a0.a.month 1 12),(within a0.a.basis 0 2)⟩:aw),(⟨(within a0.b.fee 0 200),(within a0.b.aX 0 5000),(within a0.b.target 0 500),(within a0.b.advance 0 3000),(within a0.b.eY 0 3),(within a0.b.oc 0 12000),(within a0.b.ic 0 15000),(within a0.b.late 0 5000),(within a0.b.l7 0 5000),(within a0.b.clean 0 3000)⟩:ax),l11,[],[],[],[],[],[],[],[],[])
section
variable (m : Nat) (k : cI) (za da : aw) (zb db : ax) (x1 x2 x3 x4 x5 x6 x7 x8 x9 : List Dat)
theorem Rl:∀(rest pre:List Dat) (n:Nat) (p:Int),rest.length<n->(∀d∈rest,0<=d.i 1/\d.i 1<=100000)->(pre++rest).length<=11->0<=p->p<=100000*pre.length->
 wh m n (p,((pre++rest).length:Int),(pre.length:Int),k,za,zb,da,db,pre++rest,x1,x2,x3,x4,x5,x6,x7,x8,x9)=wQ m m (p+an 1 rest,0,k,za,zb,da,db,x1,x2,x3,x4,x5,pre++rest,x6,x7,x8,x9):=by
 intro rest
 induction rest with
 |nil=>
  intro pre n p hn hm hl h0 h1;obtain⟨n,rfl⟩:=ai n (by simp at hn;omega);rw[vR];unfold Az;dsimp only;simp[az,an]
 |cons x rest ih=>
  intro pre n p hn hm hl h0 h1;obtain⟨n,rfl⟩:=ai n (by simp at hn;omega);simp only[zac]at hn;rw[vR];unfold Az;dsimp only;have hx:=hm x (by simp);have:=ih (pre++[x]) n (p+x.i 1) (by omega) (fun d hd=>hm d (by simp[hd])) (by simpa using hl) (by omega) (by simp;omega);simp only[zad,zac]at hl;simp only[an];simp(disch:=omega) only[TRa,TRi,aa,LNl,LNi,zaa,au];simp only[LNl,LNi,zaa]at this⊢;exact this
theorem Sm (hs:k.notes.length<=140737488355328) (p:Int) (hp:0<=p) (hp2:p<=1100000):∀(c i n:Nat),i+c=min 5 (1+k.notes.length)->c<n->
 wQ m n (p,(i:Int),k,za,zb,da,db,x1,x2,x3,x4,x5,x6,(List.range i).map (GY k p),x7,x8,x9)=qN m m (0,k,za,zb,da,db,x1,x2,x3,x4,x5,x6,(List.range (min 5 (1+k.notes.length))).map (GY k p),x7,x8,x9):=by
 intro c
 induction c with
 |zero=>
  intro i n hi hn;obtain⟨n,rfl⟩:=ai n (by omega);rw[<-hi];rw[wA];unfold AO;dsimp only
  by_cases h:k.notes.length+1<5
  . have:¬(i:Int)<1+(k.notes.length:Int):=by omega
    simp(disch:=omega) only[TRa,TRi,aa,LNl,LNi,zaa,au];rfl
  . have:¬(i:Int)<5:=by omega
    simp only[az this,gG];rfl
 |succ c ih=>
  intro i n hi hn;obtain⟨n,rfl⟩:=ai n (by omega);have:=ih (i+1) n (by omega) (by omega);rw[List.range_succ,zbP]at this;rw[wA];unfold AO;dsimp only;have hq:0<=within (bB k.notes i) 0 (p/6)/\within (bB k.notes i) 0 (p/6)<=p/6:=aZ (by omega);simp(disch:=omega) only[td,aa];simp(disch:=omega) only[TRa,TRi,aa,LNl,LNi,zaa,au];simp only[LNl,LNi,zaa]at this⊢;exact this
theorem RB (x10:List Dat) (k2:kY->Option (List Un)) (k3:qG->Option (List Un)) (mi i m2 a b:Int):∀(rest pre:List Dat) (n:Nat),rest.length<n->(pre++rest).length<=12->
 xj m k2 k3 n (mi,i,cG pre a b,m2,((pre++rest).length:Int),(pre.length:Int),k,za,zb,da,db,pre++rest,a,b,x1,x2,x3,x4,x5,x6,x7,x8,x9,x10)=k3 (mi,w64 (i+1),m2,k,za,zb,da,db,(if cG (pre++rest) a b then pre++rest else pre++rest++[.r [.n a,.n b]]),x1,x2,x3,x4,x5,x6,x7,x8,x9,x10):=by
 intro rest
 induction rest with
 |nil=>
  intro pre n hn hl;obtain⟨n,rfl⟩:=ai n (by simp at hn;omega);simp only[zaS]at hl⊢;rw[wi];unfold Ay;dsimp only;cases h:cG pre a b<;>simp(disch:=omega) only[TRa,TRi,aa,LNl,LNi,zaa,au]<;>simp
 |cons x rest ih=>
  intro pre n hn hl;obtain⟨n,rfl⟩:=ai n (by simp at hn;omega);simp only[zac,zad]at hn hl;rw[wi];unfold Ay;dsimp only;have:=ih (pre++[x]) n (by omega) (by simp;omega);rw[BH]at this;cases h:cG pre a b<;>rw[h]at this<;>simp(disch:=omega) only[TRa,TRi,aa,LNl,LNi,zaa,au]<;>simp only[LNl,LNi,zaa]at this⊢<;>simpa using this
theorem Rt (x10:List Dat) (k2:kY->Option (List Un)) (mi m2:Int) (h0:0<=mi) (h1:mi<3) (hm:12<m) (l:List Int) (hl:List.getD [k.s0,k.s1,k.s2] mi.toNat []=l):∀(rest pre:List Int) (acc:List Dat) (n:Nat),rest.length<n->l.take 12=pre++rest->acc.length<=pre.length->
 vK m k2 n (mi,(pre.length:Int),m2,k,za,zb,da,db,acc,x1,x2,x3,x4,x5,x6,x7,x8,x9,x10)=
  bif decide (mi=0)then k2 (w64 (m2+1),k,za,zb,da,db,x1,x2,x3,x4,x5,x6,x7,(if (gy acc rest).length=0 then AW else gy acc rest),x9,x10)
  else bif decide (mi=1)then k2 (w64 (m2+1),k,za,zb,da,db,x1,x2,x3,x4,x5,x6,x7,x8,(if (gy acc rest).length=0 then AW else gy acc rest),x10)
  else bif decide (mi=2)then k2 (w64 (m2+1),k,za,zb,da,db,x1,x2,x3,x4,x5,x6,x7,x8,x9,(if (gy acc rest).length=0 then AW else gy acc rest))else none:=by
 intro rest
 induction rest with
 |nil=>
  intro pre acc n hn hp ha;obtain⟨n,rfl⟩:=ai n (by simp at hn;omega);have hpl:min 12 l.length=pre.length:=by have:=congrArg List.length hp;simpa using this
  rw[uX];unfold BQ;dsimp only;simp only[hl,gy]
  by_cases hz:acc.length=0
  . simp only[hz,zbc]
    by_cases h:l.length<12
    . have:¬(pre.length:Int)<(l.length:Int):=by omega
      simp(disch:=omega) only[TRa,TRi,aa,LNl,LNi,zaa,au];rfl
    . have:¬(pre.length:Int)<12:=by omega
      by_cases h':(pre.length:Int)<(l.length:Int)
      . simp(disch:=omega) only[TRa,TRi,aa,LNl,LNi,zaa,au];rfl
      . simp(disch:=omega) only[TRa,TRi,aa,LNl,LNi,zaa,au];rfl
  . simp only[hz,zbh]
    by_cases h:l.length<12
    . have:¬(pre.length:Int)<(l.length:Int):=by omega
      simp(disch:=omega) only[TRa,TRi,aa,LNl,LNi,zaa,au]
    . have:¬(pre.length:Int)<12:=by omega
      by_cases h':(pre.length:Int)<(l.length:Int)
      . simp(disch:=omega) only[TRa,TRi,aa,LNl,LNi,zaa,au]
      . simp(disch:=omega) only[TRa,TRi,aa,LNl,LNi,zaa,au]
 |cons x rest ih=>
  intro pre acc n hn hp ha;obtain⟨n,rfl⟩:=ai n (by simp at hn;omega);simp only[zac]at hn;have hpl:min 12 l.length=pre.length+(rest.length+1):=by have:=congrArg List.length hp;simpa using this
  have hx:l.getD pre.length 0=x:=by
   have:(l.take 12)[pre.length]? =some x:=by rw[hp];simp
   rw[zaq,if_pos (by omega)]at this;simp[this]
  have:=ih (pre++[x]) (if cG acc (within x 1 7) (kN x)then acc else acc++[.r [.n (within x 1 7),.n (kN x)]]) n (by omega) (by simpa using hp) (by split<;>simp<;>omega);refine Eq.trans ?_ this;have h4:=fun a b=>RB m k za da zb db x1 x2 x3 x4 x5 x6 x7 x8 x9 x10 k2 (vK m k2 n) mi (pre.length:Int) m2 a b acc [] m (by omega) (by simp;omega)
  rw[uX];unfold BQ;dsimp only;simp only[zaC,show ∀a b,cG [] a b=false from fun _ _=>rfl]at h4;simp only[hl,zaz,hx];have e1:(pre.length:Int)<(l.length:Int):=by omega
  have e2:(pre.length:Int)<12:=by omega
  by_cases h3:within x 1 7=3
  . have hr:kN x=within (w64 (x.tdiv 7)) 0 3:=by unfold kN;rw[if_pos h3]
    simp(disch:=omega) only[TRa,TRi,aa,LNl,LNi,zaa,au];refine(h4 _ _).trans ?_
    rw[hr,aa (by omega) (by omega)]
  . have hr:kN x=0:=by unfold kN;rw[if_neg h3]
    simp(disch:=omega) only[TRa,TRi,aa,LNl,LNi,zaa,au];refine(h4 _ _).trans ?_
    rw[hr,aa (by omega) (by omega)]
end
def f19:cI->Bool × List Un:=fun a0=>(decide (a0.notes.length<=140737488355328),Uns.enc (((aS a0).a):aw)++Uns.enc (((aS a0).b):ax)++[.d ((aS a0).aP),.d ((aS a0).notes),.d ((aS a0).s0),.d ((aS a0).s1),.d ((aS a0).s2)])
set_option maxHeartbeats 1000000 in
theorem R3 (a0:cI) (hc:(decide (a0.notes.length<=140737488355328))=true):∃m,t19 m a0=some (Uns.enc (((aS a0).a):aw)++Uns.enc (((aS a0).b):ax)++[.d ((aS a0).aP),.d ((aS a0).notes),.d ((aS a0).s0),.d ((aS a0).s1),.d ((aS a0).s2)]):=by
 have hs:=zaj hc;refine⟨20, ?_⟩;unfold t19;have h1:=mV a0;have h2:=xi a0;dsimp only[lt];change chk (fits ((kj a0.aP).length+1) 16) (wh 20 20 (0,((eZ a0).length:Int),0,a0,_,_,_,_,eZ a0,[],[],[],[],[],[],[],[],[]))=_;rw[dP (by simp[eZ]at h1;omega) (by simp[eZ]at h1;omega)];have e0:=Rl 20 a0 ⟨0,0,0⟩ ⟨within a0.a.year 1990 2040,within a0.a.month 1 12,within a0.a.basis 0 2⟩ ⟨0,0,0,0,0,0,0,0,0,0⟩ (aS a0).b [] [] [] [] [] [] [] [] [] (eZ a0) [] 20 0 (by omega) (vZ a0) h1 (by omega) (by simp);have e1:=Sm 20 a0 ⟨0,0,0⟩ ⟨within a0.a.year 1990 2040,within a0.a.month 1 12,within a0.a.basis 0 2⟩ ⟨0,0,0,0,0,0,0,0,0,0⟩ (aS a0).b [] [] [] [] [] (eZ a0) [] [] [] hs (iD a0) (by omega) (by omega) (min 5 (1+a0.notes.length)) 0 20 (by omega) (by omega);have e3:=fun k2 mi m2 g0 g1 l hl l8 l9 l10=>Rt 20 a0 ⟨0,0,0⟩ ⟨within a0.a.year 1990 2040,within a0.a.month 1 12,within a0.a.basis 0 2⟩ ⟨0,0,0,0,0,0,0,0,0,0⟩ (aS a0).b [] [] [] [] [] (eZ a0) (iR a0) l8 l9 l10 k2 mi m2 g0 g1 (by omega) l hl (l.take 12) [] [] 20 (by simp;omega) rfl (by simp)
 simp only[zaC,za0]at e0;refine e0.trans (e1.trans ?_);have q1:∀{α:Type} (u v w:α),(bif decide ((0:Int)=0)then u else bif decide ((0:Int)=1)then v else w)=u:=fun _ _ _=>rfl
 have q2:∀{α:Type} (u v w:α),(bif decide ((1:Int)=0)then u else bif decide ((1:Int)=1)then v else w)=v:=fun _ _ _=>rfl
 have q3:∀{α:Type} (u v w x:α),(bif decide ((2:Int)=0)then u else bif decide ((2:Int)=1)then v else bif decide ((2:Int)=2)then w else x)=w:=fun _ _ _ _=>rfl
 have w1:w64 (0+1)=1:=by decide
 have w2:w64 (1+1)=2:=by decide
 have w3:w64 (2+1)=3:=by decide
 rw[show qN 20 20=qN 20 (16+4) from rfl,mU];unfold rU;dsimp only;rw[ba (by decide)];refine(e3 _ 0 0 (by decide) (by decide) a0.s0 rfl [] [] []).trans ?_
 rw[q1,w1,mU];unfold rU;dsimp only;rw[ba (by decide)];refine(e3 _ 1 1 (by decide) (by decide) a0.s1 rfl _ [] []).trans ?_
 rw[q2,w2,mU];unfold rU;dsimp only;rw[ba (by decide)];refine(e3 _ 2 2 (by decide) (by decide) a0.s2 rfl _ _ []).trans ?_
 rw[q3,w3,mU];unfold rU;dsimp only;rw[az (by decide)];rfl
theorem OT:ER 19 (mkE N19.en N19.ex f19):=aq ah T57.right (fun m=>[JO (wh m m)]) (t:=t19) (by kernel_rfl) (fun m=>(aH (TY m m) aA)) (fun m a=>by kernel_rfl) fun a0 hc=>R3 a0 hc
def T19:Tb Tryz.prog LQ TE XX:=T57.add 19 _ OT
def Uo:aE:=⟨T19.tab,124,⟨[.int .i64,.int .i64,.int .i64],[],0⟩,⟨[.bool],[],0⟩,[]⟩
def t124 (m:Nat):Int × Int × Int->Option (List Un):=fun(a0,a1,a2)=>
 bif decide (a0>=a1)then
 some ([.b (decide (a0<=a2))])
 else
 some ([.b false])
def f124:Int × Int × Int->Bool × List Un:=fun(a0,a1,a2)=>(true,[.b (decide (a1<=a0/\a0<=a2))])
theorem Ng (a0:Int) (a1:Int) (a2:Int):∃m,t124 m (a0,a1,a2)=some ([.b (decide (a1<=a0/\a0<=a2))]):=by
 refine⟨0, ?_⟩;unfold t124
 by_cases h:a1<=a0<;>by_cases h2:a0<=a2<;>simp[h,h2]
theorem J1:ER 124 (mkE Uo.en Uo.ex f124):=aq ah T19.right (fun m=>[]) (t:=t124) (by kernel_rfl) (fun m=>aA) (fun m a=>by kernel_rfl) fun(a0,a1,a2) hc=>Ng a0 a1 a2
def My:Tb Tryz.prog LQ TE XX:=T19.add 124 _ J1
def yD (a b:Int):List Dat->Int->Int
 |[],_=> -1
 |d::l,i=>if a=d.i 0/\b=d.i 1 then i else yD a b l (i+1)
theorem DI (a b:Int):∀(l:List Dat) (i:Int),0<=i->(0<=yD a b l i↔cG l a b=true)
 |[],i,h=>by simp[yD,cG]
 |d::l,i,h=>by
  have:=DI a b l (i+1) (by omega);simp only[cG,List.any_cons,zbk,zab,zay]at this⊢;unfold yD
  by_cases hc:a=d.i 0/\b=d.i 1
  . rw[if_pos hc];exact⟨fun _=> .inl ⟨hc.1.symm,hc.2.symm⟩,fun _=>h⟩
  . rw[if_neg hc,this];exact⟨.inr,fun h=>h.resolve_left fun e=>hc ⟨e.1.symm,e.2.symm⟩⟩
def QP:aE:=⟨My.tab,136,⟨[.ab (sI 2),.agg [.int .i64,.int .i64]],[],0⟩,⟨[.int .i64],[],0⟩,[]⟩
abbrev Cp:Type:=List Dat × Int × Int × Int × Int
def uP (m:Nat) (k:Cp->Option (List Un)):Cp->Option (List Un):=fun(a0,a1,a2,a3,a4)=>
 bif decide (a2<a1)then
 chk (inb a2 a0.length)<|
 chk (decide (a2.toNat<a0.length))<|
 lt (af a0 a2.toNat:Dat) fun d1=>
 bif ((a3==(d1.i 0))&&((a4==(d1.i 1))&&true))then
 some ([.i a2])
 else
 k (a0,a1,(w64 (a2+1)),a3,a4)
 else
 some ([.i (-1)])
def su (m:Nat):Nat->Cp->Option (List Un):=bg (uP m)
theorem s9 (m:Nat) (n:Nat):su m (n+1)=uP m (su m n):=rfl
def FN (F:Cp->Option (List Un)):aQ:=⟨[.lp [0,1,0,1],.blk 0,.code [1,1]],⟨frm 19 [(0,.ab (sI 2)),(3,.ptr 0 0 0),(7,.int .i64),(8,.int .i64)],[.cells [.int .i64,.int .i64]],0⟩,onU F⟩
theorem QI (m:Nat):∀n,HO QP (FN (su m n)):=ar ah My.right (fun k=>[FN k]) (fun k h=>(aH h aA)) fun k a=>by kernel_rfl
def t136 (m:Nat):List Dat × Int × Int->Option (List Un):=fun(a0,a1,a2)=>
 su m m (a0,(a0.length:Int),0,a1,a2)
theorem VQ (m:Nat) (a b:Int):∀(rest pre:List Dat) (n:Nat),rest.length<n->(pre++rest).length<1099511627776->
 su m n (pre++rest,((pre++rest).length:Int),(pre.length:Int),a,b)=some [.i (yD a b rest pre.length)]:=by
 intro rest
 induction rest with
 |nil=>
  intro pre n hn hl;obtain⟨n,rfl⟩:=ai n (by simp at hn;omega);rw[s9];unfold uP;dsimp only;simp[az,yD]
 |cons x rest ih=>
  intro pre n hn hl;obtain⟨n,rfl⟩:=ai n (by simp at hn;omega);simp only[zac,zad]at hn hl;have:=ih (pre++[x]) n (by omega) (by simp;omega);rw[s9];unfold uP;dsimp only;simp only[yD]
  by_cases h1:a=x.i 0
  . by_cases h2:b=x.i 1
    . rw[if_pos ⟨h1,h2⟩];simp(disch:=omega) only[TRa,TRi,aa,LNl,LNi,zaa,au]
    . rw[if_neg (fun h=>h2 h.2)];simp(disch:=omega) only[TRa,TRi,aa,LNl,LNi,zaa,au];simp only[LNl,LNi,zaa]at this⊢;exact this
  . rw[if_neg (fun h=>h1 h.1)];simp(disch:=omega) only[TRa,TRi,aa,LNl,LNi,zaa,au];simp only[LNl,LNi,zaa]at this⊢;exact this
def f136:List Dat × Int × Int->Bool × List Un:=fun(a0,a1,a2)=>(decide (a0.length<1099511627776),[.i (yD a1 a2 a0 0)])
theorem Po (a0:List Dat) (a1:Int) (a2:Int) (hc:(decide (a0.length<1099511627776))=true):∃m,t136 m (a0,a1,a2)=some ([.i (yD a1 a2 a0 0)]):=by
 refine⟨a0.length+1, ?_⟩;exact VQ _ a1 a2 a0 [] _ (by omega) (zaj hc)
theorem LP:ER 136 (mkE QP.en QP.ex f136):=aq ah My.right (fun m=>[FN (su m m)]) (t:=t136) (by kernel_rfl) (fun m=>(aH (QI m m) aA)) (fun m a=>by kernel_rfl) fun(a0,a1,a2) hc=>Po a0 a1 a2 hc
def Re:Tb Tryz.prog LQ TE XX:=My.add 136 _ LP
def U8:aE:=⟨Re.tab,125,⟨[.ab (sI 2),.agg [.int .i64,.int .i64]],[],0⟩,⟨[.bool],[],0⟩,[]⟩
def t125 (m:Nat):List Dat × Int × Int->Option (List Un):=fun(a0,a1,a2)=>
 chk (decide (a0.length<1099511627776))<|
 some ([.b (decide ((yD a1 a2 a0 0)>=0))])
def f125:List Dat × Int × Int->Bool × List Un:=fun(a0,a1,a2)=>(decide (a0.length<1099511627776),[.b (cG a0 a1 a2)])
theorem O8 (a0:List Dat) (a1:Int) (a2:Int) (hc:(decide (a0.length<1099511627776))=true):∃m,t125 m (a0,a1,a2)=some ([.b (cG a0 a1 a2)]):=by
 refine⟨0, ?_⟩;have e:=DI a1 a2 a0 0 (zcj 0);have h:=zaj hc;unfold t125;simp(disch:=omega) only[TRa,TRi,aa];cases h:cG a0 a1 a2<;>simp[h]at e⊢<;>omega
theorem Ks:ER 125 (mkE U8.en U8.ex f125):=aq ah Re.right (fun m=>[]) (t:=t125) (by kernel_rfl) (fun m=>aA) (fun m a=>by kernel_rfl) fun(a0,a1,a2) hc=>O8 a0 a1 a2 hc
def Mz:Tb Tryz.prog LQ TE XX:=Re.add 125 _ Ks
theorem PR {c y:Bool}:(bif c then some [Un.b y]else some [.b false])=some [.b (c&&y)]:=by cases c<;>rfl
def mz (d:bJ):Bool:=
 decide (0<=d.b.oc/\d.b.oc<=100000)&&(decide (0<=d.b.ic/\d.b.ic<=100000)&&(decide (0<=d.b.late/\d.b.late<=100000)&&(decide (0<=d.b.l7/\d.b.l7<=100000)&&(decide (0<=d.b.clean/\d.b.clean<=100000)&&
 (decide (1<=d.a.year/\d.a.year<=9000)&&(decide (1<=d.a.month/\d.a.month<=12)&&(decide (0<=d.a.basis/\d.a.basis<=2)&&(decide (0<=d.b.fee/\d.b.fee<=5000)&&(decide (0<=d.b.aX/\d.b.aX<=1099511627776)&&
 (decide (0<=d.b.target/\d.b.target<=10000)&&(decide (0<=d.b.advance/\d.b.advance<=1099511627776)&&decide (0<=d.b.eY/\d.b.eY<=600))))))))))))
def N98:aE:=⟨Mz.tab,98,⟨[.agg [.int .i64,.int .i64,.int .i64,.ab (sI 2),.ab (sI 3),.int .i64,.int .i64,.int .i64,.int .i64,.int .i64,.int .i64,.int .i64,.int .i64,.int .i64,.int .i64,.ab (sI 2),.ab (sI 2),.ab (sI 2)]],[],0⟩,⟨[.bool],[],0⟩,[]⟩
abbrev GS:Type:=Int × Int × bJ × List Int
def EN (m:Nat) (k:GS->Option (List Un)):GS->Option (List Un):=fun(a0,a1,a2,a3)=>
 bif decide (a1<a0)then
 chk (inb a1 a3.length)<|
 chk (decide (a1.toNat<a3.length))<|
 bif !(decide (0<=(a3.getD a1.toNat 0)/\(a3.getD a1.toNat 0)<=100000))then
 some ([.b false])
 else
 k (a0,(w64 (a1+1)),a2,a3)
 else
 bif (decide (1<=a2.a.year/\a2.a.year<=9000))then
 bif (decide (1<=a2.a.month/\a2.a.month<=12))then
 bif (decide (0<=a2.a.basis/\a2.a.basis<=2))then
 bif (decide (0<=a2.b.fee/\a2.b.fee<=5000))then
 bif (decide (0<=a2.b.aX/\a2.b.aX<=1099511627776))then
 bif (decide (0<=a2.b.target/\a2.b.target<=10000))then
 bif (decide (0<=a2.b.advance/\a2.b.advance<=1099511627776))then
 some ([.b (decide (0<=a2.b.eY/\a2.b.eY<=600))])
 else
 some ([.b false])
 else
 some ([.b false])
 else
 some ([.b false])
 else
 some ([.b false])
 else
 some ([.b false])
 else
 some ([.b false])
 else
 some ([.b false])
def yf (m:Nat):Nat->GS->Option (List Un):=bg (EN m)
theorem F0 (m:Nat) (n:Nat):yf m (n+1)=EN m (yf m n):=rfl
def LI (F:GS->Option (List Un)):aQ:=⟨[.lp [0,1,0,1],.blk 0,.code [1,1]],⟨frm 68 [(1,.ptr 0 0 0),(20,.buf 1 1),(21,.int .i64),(22,.int .i64)],[.cells [.int .i64,.int .i64,.int .i64,.ab (sI 2),.ab (sI 3),.int .i64,.int .i64,.int .i64,.int .i64,.int .i64,.int .i64,.int .i64,.int .i64,.int .i64,.int .i64,.ab (sI 2),.ab (sI 2),.ab (sI 2)],.ints .i64],0⟩,onU F⟩
theorem UL (m:Nat):∀n,HO N98 (LI (yf m n)):=ar ah Mz.right (fun k=>[LI k]) (fun k h=>(aH h aA)) fun k a=>by kernel_rfl
def t98 (m:Nat):bJ->Option (List Un):=fun a0=>
 yf m m (5,0,a0,([a0.b.oc,a0.b.ic,a0.b.late,a0.b.l7,a0.b.clean]:List Int))
def f98:bJ->Bool × List Un:=fun a0=>(true,[.b (mz a0)])
set_option maxHeartbeats 2000000 in
theorem Q9 (a0:bJ):∃m,t98 m a0=some ([.b (mz a0)]):=by
 refine⟨6, ?_⟩;unfold t98;rw[show yf 6 6=yf 6 (0+1+1+1+1+1+1) from rfl];simp only[F0];unfold EN;dsimp only;simp(disch:=omega) only[TRa,TRi,aa,zac,zas,zaQ,zaE,Int.reduceToNat,Nat.reduceAdd,za0,Int.reduceAdd,zaZ,zaW,Int.reduceLT];simp only[PR];rfl
theorem Oe:ER 98 (mkE N98.en N98.ex f98):=aq ah Mz.right (fun m=>[LI (yf m m)]) (t:=t98) (by kernel_rfl) (fun m=>(aH (UL m m) aA)) (fun m a=>by kernel_rfl) fun a0 hc=>Q9 a0
def T98:Tb Tryz.prog LQ TE XX:=Mz.add 98 _ Oe
def iq:Int->Int->List Dat->Option Int
 |_,all,[]=>some all
 |last,all,d::l=>if d.i 0<=last then none else if 0<=d.i 1/\d.i 1<=1099511627776-all then iq (d.i 0) (all+d.i 1) l else none
def fg (l:List Dat):Option Int:=if 1<=l.length/\l.length<=64 then iq 0 0 l else none
def Nk (o:Option Int):Option (List Un):=some [.i (o.getD 0),.b o.isSome]
def N96:aE:=⟨T98.tab,96,⟨[.ab (sI 2)],[],0⟩,⟨[.int .i64,.bool],[],0⟩,[]⟩
abbrev Hs:Type:=Int × Int × List Dat × Int × Int
def BY (m:Nat) (k:Hs->Option (List Un)):Hs->Option (List Un):=fun(a0,a1,a2,a3,a4)=>
 bif decide (a4<a3)then
 chk (inb a4 a2.length)<|
 chk (decide (a4.toNat<a2.length))<|
 lt (af a2 a4.toNat:Dat) fun d2=>
 bif decide ((d2.i 0)<=a0)then
 some ([.i 0,.b false])
 else
 bif !(decide (0<=(d2.i 1)/\(d2.i 1)<=(w64 (1099511627776-a1))))then
 some ([.i 0,.b false])
 else
 k ((d2.i 0),(w64 (a1+(d2.i 1))),a2,a3,(w64 (a4+1)))
 else
 some ([.i a1,.b true])
def Ai (m:Nat):Nat->Hs->Option (List Un):=bg (BY m)
theorem xZ (m:Nat) (n:Nat):Ai m (n+1)=BY m (Ai m n):=rfl
def JE (F:Hs->Option (List Un)):aQ:=⟨[.lp [0,1,0,1,1,1],.blk 0,.code [1,1,1,1]],⟨frm 38 [(4,.int .i64),(5,.int .i64),(12,.ab (sI 2)),(13,.int .i64),(14,.int .i64)],[],0⟩,onU F⟩
theorem UI (m:Nat):∀n,HO N96 (JE (Ai m n)):=ar ah T98.right (fun k=>[JE k]) (fun k h=>(aH h aA)) fun k a=>by kernel_rfl
def t96 (m:Nat):List Dat->Option (List Un):=fun a0=>
 bif !(decide (1<=(a0.length:Int)/\(a0.length:Int)<=64))then
 some ([.i 0,.b false])
 else
 Ai m m (0,0,a0,(a0.length:Int),0)
theorem MZ (m:Nat):∀(rest pre:List Dat) (n:Nat) (last all:Int),rest.length<n->(pre++rest).length<=64->0<=all->all<=1099511627776->
 Ai m n (last,all,pre++rest,((pre++rest).length:Int),(pre.length:Int))=Nk (iq last all rest):=by
 intro rest
 induction rest with
 |nil=>
  intro pre n last all hn hl h0 h1;obtain⟨n,rfl⟩:=ai n (by simp at hn;omega);rw[xZ];unfold BY;dsimp only;simp[az,iq,Nk]
 |cons x rest ih=>
  intro pre n last all hn hl h0 h1;obtain⟨n,rfl⟩:=ai n (by simp at hn;omega);simp only[zac,zad]at hn hl;rw[xZ];unfold BY;dsimp only;simp only[iq]
  by_cases c1:x.i 0<=last
  . rw[if_pos c1];simp(disch:=omega) only[TRa,TRi,aa,LNl,LNi,zaa,au];rfl
  . rw[if_neg c1]
    by_cases c2:0<=x.i 1/\x.i 1<=1099511627776-all
    . rw[if_pos c2];have:=ih (pre++[x]) n (x.i 0) (all+x.i 1) (by omega) (by simp;omega) (by omega) (by omega);simp(disch:=omega) only[TRa,TRi,aa,LNl,LNi,zaa,au];simp only[LNl,LNi,zaa]at this⊢;exact this
    . rw[if_neg c2];simp(disch:=omega) only[TRa,TRi,aa,LNl,LNi,zaa,au];rfl
def f96:List Dat->Bool × List Un:=fun a0=>(true,[.i ((fg a0).getD 0),.b ((fg a0).isSome)])
theorem Qg (a0:List Dat):∃m,t96 m a0=some ([.i ((fg a0).getD 0),.b ((fg a0).isSome)]):=by
 refine⟨65, ?_⟩;unfold t96 fg
 by_cases h:1<=a0.length/\a0.length<=64
 . rw[if_pos h];simp(disch:=omega) only[TRa,TRi,aa];exact MZ 65 a0 [] 65 0 0 (by omega) h.2 (by omega) (by omega)
 . rw[if_neg h];simp(disch:=omega) only[TRa,TRi,aa];rfl
theorem Pz:ER 96 (mkE N96.en N96.ex f96):=aq ah T98.right (fun m=>[JE (Ai m m)]) (t:=t96) (by kernel_rfl) (fun m=>(aH (UI m m) aA)) (fun m a=>by kernel_rfl) fun a0 hc=>Qg a0
def T96:Tb Tryz.prog LQ TE XX:=T98.add 96 _ Pz
def kO (most:Int):Int->List Dat->Option Int
 |all,[]=>some all
 |all,d::l=>if (0<=d.i 0/\d.i 0<=7)/\(1<=d.i 1/\d.i 1<=most-all)/\(0<=d.i 2/\d.i 2<=5000)then kO most (all+d.i 1) l else none
def jf (most:Int) (l:List Dat):Option Int:=if 1<=l.length/\l.length<=8 then kO most 0 l else none
def N97:aE:=⟨T96.tab,97,⟨[.ab (sI 3),.int .i64],[],0⟩,⟨[.int .i64,.bool],[],0⟩,[]⟩
abbrev HS:Type:=Int × Int × List Dat × Int × Int
def AE (m:Nat) (k:HS->Option (List Un)):HS->Option (List Un):=fun(a0,a1,a2,a3,a4)=>
 bif decide (a4<a3)then
 chk (inb a4 a2.length)<|
 chk (decide (a4.toNat<a2.length))<|
 lt (af a2 a4.toNat:Dat) fun d2=>
 bif !(decide (0<=(d2.i 0)/\(d2.i 0)<=7))then
 some ([.i 0,.b false])
 else
 bif !(decide (1<=(d2.i 1)/\(d2.i 1)<=(w64 (a0-a1))))then
 some ([.i 0,.b false])
 else
 bif !(decide (0<=(d2.i 2)/\(d2.i 2)<=5000))then
 some ([.i 0,.b false])
 else
 k (a0,(w64 (a1+(d2.i 1))),a2,a3,(w64 (a4+1)))
 else
 some ([.i a1,.b true])
def yU (m:Nat):Nat->HS->Option (List Un):=bg (AE m)
theorem xd (m:Nat) (n:Nat):yU m (n+1)=AE m (yU m n):=rfl
def K0 (F:HS->Option (List Un)):aQ:=⟨[.lp [0,1,0,1,1,1],.blk 0,.code [1,1,1,1]],⟨frm 44 [(1,.int .i64),(6,.int .i64),(13,.ab (sI 3)),(14,.int .i64),(15,.int .i64)],[],0⟩,onU F⟩
theorem UN (m:Nat):∀n,HO N97 (K0 (yU m n)):=ar ah T96.right (fun k=>[K0 k]) (fun k h=>(aH h aA)) fun k a=>by kernel_rfl
def t97 (m:Nat):List Dat × Int->Option (List Un):=fun(a0,a1)=>
 bif !(decide (1<=(a0.length:Int)/\(a0.length:Int)<=8))then
 some ([.i 0,.b false])
 else
 yU m m (a1,0,a0,(a0.length:Int),0)
theorem M6 (m:Nat) (most:Int) (hm:0<=most/\most<=1099511627776):∀(rest pre:List Dat) (n:Nat) (all:Int),rest.length<n->(pre++rest).length<=8->0<=all->all<=most->
 yU m n (most,all,pre++rest,((pre++rest).length:Int),(pre.length:Int))=Nk (kO most all rest):=by
 intro rest
 induction rest with
 |nil=>
  intro pre n all hn hl h0 h1;obtain⟨n,rfl⟩:=ai n (by simp at hn;omega);rw[xd];unfold AE;dsimp only;simp[az,kO,Nk]
 |cons x rest ih=>
  intro pre n all hn hl h0 h1;obtain⟨n,rfl⟩:=ai n (by simp at hn;omega);simp only[zac,zad]at hn hl;rw[xd];unfold AE;dsimp only;simp only[kO]
  by_cases c1:0<=x.i 0/\x.i 0<=7
  . by_cases c2:1<=x.i 1/\x.i 1<=most-all
    . by_cases c3:0<=x.i 2/\x.i 2<=5000
      . rw[if_pos ⟨c1,c2,c3⟩];have:=ih (pre++[x]) n (all+x.i 1) (by omega) (by simp;omega) (by omega) (by omega);simp(disch:=omega) only[TRa,TRi,aa,LNl,LNi,zaa,au];simp only[LNl,LNi,zaa]at this⊢;exact this
      . rw[if_neg (fun h=>c3 h.2.2)];simp(disch:=omega) only[TRa,TRi,aa,LNl,LNi,zaa,au];rfl
    . rw[if_neg (fun h=>c2 h.2.1)];simp(disch:=omega) only[TRa,TRi,aa,LNl,LNi,zaa,au];rfl
  . rw[if_neg (fun h=>c1 h.1)];simp(disch:=omega) only[TRa,TRi,aa,LNl,LNi,zaa,au];rfl
def f97:List Dat × Int->Bool × List Un:=fun(a0,a1)=>(decide (0<=a1/\a1<=1099511627776),[.i ((jf a1 a0).getD 0),.b ((jf a1 a0).isSome)])
theorem RU (a0:List Dat) (a1:Int) (hc:(decide (0<=a1/\a1<=1099511627776))=true):∃m,t97 m (a0,a1)=some ([.i ((jf a1 a0).getD 0),.b ((jf a1 a0).isSome)]):=by
 have hm:=zaj hc;refine⟨65, ?_⟩;unfold t97 jf
 by_cases h:1<=a0.length/\a0.length<=8
 . rw[if_pos h];simp(disch:=omega) only[TRa,TRi,aa];exact M6 65 a1 hm a0 [] 65 0 (by omega) h.2 (by omega) (by omega)
 . rw[if_neg h];simp(disch:=omega) only[TRa,TRi,aa];rfl
theorem MN:ER 97 (mkE N97.en N97.ex f97):=aq ah T96.right (fun m=>[K0 (yU m m)]) (t:=t97) (by kernel_rfl) (fun m=>(aH (UN m m) aA)) (fun m a=>by kernel_rfl) fun(a0,a1) hc=>RU a0 a1 hc
def T97:Tb Tryz.prog LQ TE XX:=T96.add 97 _ MN
def pZ (d:Dat):Bool:=decide (1<=d.i 0/\d.i 0<=7)&&decide (0<=d.i 1/\d.i 1<=(if d.i 0=3 then 7 else 0))
def iY:List Dat->List Dat->Bool
 |_,[]=>true
 |pre,d::l=>pZ d&&(!cG pre (d.i 0) (d.i 1)&&iY (pre++[d]) l)
def dF (l:List Dat):Bool:=decide (1<=(l.length:Int)/\(l.length:Int)<=16)&&iY [] l
def N99:aE:=⟨T97.tab,99,⟨[.ab (sI 2)],[],0⟩,⟨[.bool],[],0⟩,[]⟩
abbrev H9:Type:=List Dat × List Dat × Int × Int
def B9 (m:Nat) (k:H9->Option (List Un)):H9->Option (List Un):=fun(a0,a1,a2,a3)=>
 bif decide (a3<a2)then
 chk (inb a3 a1.length)<|
 chk (decide (a3.toNat<a1.length))<|
 lt (af a1 a3.toNat:Dat) fun d2=>
 bif (d2.i 0)==3 then
 bif !(decide (1<=(d2.i 0)/\(d2.i 0)<=7))then
 some ([.b false])
 else
 bif !(decide (0<=(d2.i 1)/\(d2.i 1)<=7))then
 some ([.b false])
 else
 chk (decide (0<=a3)&&(true&&decide (0<=a3.toNat/\a3.toNat<=a0.length)))<|
 chk (decide ((List.take a3.toNat a0).length<1099511627776))<|
 bif (cG (List.take a3.toNat a0) (d2.i 0) (d2.i 1))then
 some ([.b false])
 else
 k (a0,a1,a2,(w64 (a3+1)))
 else
 bif !(decide (1<=(d2.i 0)/\(d2.i 0)<=7))then
 some ([.b false])
 else
 bif !(decide (0<=(d2.i 1)/\(d2.i 1)<=0))then
 some ([.b false])
 else
 chk (decide (0<=a3)&&(true&&decide (0<=a3.toNat/\a3.toNat<=a0.length)))<|
 chk (decide ((List.take a3.toNat a0).length<1099511627776))<|
 bif (cG (List.take a3.toNat a0) (d2.i 0) (d2.i 1))then
 some ([.b false])
 else
 k (a0,a1,a2,(w64 (a3+1)))
 else
 some ([.b true])
def zD (m:Nat):Nat->H9->Option (List Un):=bg (B9 m)
theorem vG (m:Nat) (n:Nat):zD m (n+1)=B9 m (zD m n):=rfl
def Ju (F:H9->Option (List Un)):aQ:=⟨[.lp [0,1,0,1,1],.blk 0,.code [1,1,1]],⟨frm 39 [(0,.ab (sI 2)),(10,.ab (sI 2)),(11,.int .i64),(12,.int .i64)],[],0⟩,onU F⟩
theorem TA (m:Nat):∀n,HO N99 (Ju (zD m n)):=ar ah T97.right (fun k=>[Ju k]) (fun k h=>(aH h aA)) fun k a=>by kernel_rfl
def t99 (m:Nat):List Dat->Option (List Un):=fun a0=>
 bif !(decide (1<=(a0.length:Int)/\(a0.length:Int)<=16))then
 some ([.b false])
 else
 zD m m (a0,a0,(a0.length:Int),0)
theorem M3 (m:Nat):∀(rest pre:List Dat) (n:Nat),rest.length<n->(pre++rest).length<=16->
 zD m n (pre++rest,pre++rest,((pre++rest).length:Int),(pre.length:Int))=some [.b (iY pre rest)]:=by
 intro rest
 induction rest with
 |nil=>
  intro pre n hn hl;obtain⟨n,rfl⟩:=ai n (by simp at hn;omega);rw[vG];unfold B9;dsimp only;simp[az,iY]
 |cons x rest ih=>
  intro pre n hn hl;obtain⟨n,rfl⟩:=ai n (by simp at hn;omega);simp only[zac,zad]at hn hl;rw[vG];unfold B9;dsimp only;have:=ih (pre++[x]) n (by omega) (by simp;omega);simp only[iY,pZ]
  by_cases c1:1<=x.i 0/\x.i 0<=7
  . by_cases c3:x.i 0=3
    . by_cases c2:0<=x.i 1/\x.i 1<=7
      . cases h:cG pre (x.i 0) (x.i 1)
        . simp(disch:=omega) only[TRa,TRi,aa,LNl,LNi,zaa,au,zap];simp only[List.take_left,h,zao,if_pos c3,zae c1,zae c2,za8,Bool.not_false]
          (try simp(disch:=omega) only[TRa,TRi,aa,LNl,LNi,zaa,au,zap])
          simp only[LNl,LNi,zaa]at this⊢;exact this
        . simp(disch:=omega) only[TRa,TRi,aa,LNl,LNi,zaa,au,zap];simp only[List.take_left,h,zau,if_pos c3,zae c1,zae c2,za8,zbB,zbs]
      . simp(disch:=omega) only[TRa,TRi,aa,LNl,LNi,zaa,au,zap];simp only[if_pos c3,zaH c2,zb7,zbs]
    . by_cases c2:0<=x.i 1/\x.i 1<=0
      . cases h:cG pre (x.i 0) (x.i 1)
        . simp(disch:=omega) only[TRa,TRi,aa,LNl,LNi,zaa,au,zap];simp only[List.take_left,h,zao,if_neg c3,zae c1,zae c2,za8,Bool.not_false]
          (try simp(disch:=omega) only[TRa,TRi,aa,LNl,LNi,zaa,au,zap])
          simp only[LNl,LNi,zaa]at this⊢;exact this
        . simp(disch:=omega) only[TRa,TRi,aa,LNl,LNi,zaa,au,zap];simp only[List.take_left,h,zau,if_neg c3,zae c1,zae c2,za8,zbB,zbs]
      . simp(disch:=omega) only[TRa,TRi,aa,LNl,LNi,zaa,au,zap];simp only[if_neg c3,zaH c2,zb7,zbs]
  . by_cases c3:x.i 0=3
    . omega
    . simp(disch:=omega) only[TRa,TRi,aa,LNl,LNi,zaa,au,zap];simp only[zaH c1,zbs]
def f99:List Dat->Bool × List Un:=fun a0=>(true,[.b (dF a0)])
theorem Rm (a0:List Dat):∃m,t99 m a0=some ([.b (dF a0)]):=by
 refine⟨17, ?_⟩;unfold t99 dF
 by_cases h:1<=(a0.length:Int)/\(a0.length:Int)<=16
 . rw[zae h,za8];simp(disch:=omega) only[TRa,TRi,aa];exact M3 17 a0 [] 17 (by omega) (by simp;omega)
 . rw[zaH h,zbs];simp(disch:=omega) only[TRa,TRi,aa]
theorem P1:ER 99 (mkE N99.en N99.ex f99):=aq ah T97.right (fun m=>[Ju (zD m m)]) (t:=t99) (by kernel_rfl) (fun m=>(aH (TA m m) aA)) (fun m a=>by kernel_rfl) fun a0 hc=>Rm a0
def T99:Tb Tryz.prog LQ TE XX:=T97.add 99 _ P1
def cr (d:bJ):Option (Int × Int):=
 match fg d.aP with
 |none=>none
 |some p=>match jf p d.notes with
  |none=>none
  |some n=>if mz d&&(dF d.s0&&(dF d.s1&&dF d.s2))then some (p,n)else none
theorem yJ:∀(l:List Dat) (last all r:Int),0<=all->all<=1099511627776->iq last all l=some r->all<=r/\r<=1099511627776
 |[],last,all,r,h0,h1,h=>by simp[iq]at h;omega
 |d::l,last,all,r,h0,h1,h=>by
  unfold iq at h
  split at h
  . cases h
  . split at h
    . have:=yJ l _ _ r (by omega) (by omega) h;omega
    . cases h
theorem Ik {l:List Dat} {r:Int} (h:fg l=some r):0<=r/\r<=1099511627776:=by
 unfold fg at h
 split at h
 . exact yJ l 0 0 r (by omega) (by omega) h
 . cases h
def N61:aE:=⟨T99.tab,61,⟨[.agg [.int .i64,.int .i64,.int .i64,.ab (sI 2),.ab (sI 3),.int .i64,.int .i64,.int .i64,.int .i64,.int .i64,.int .i64,.int .i64,.int .i64,.int .i64,.int .i64,.ab (sI 2),.ab (sI 2),.ab (sI 2)]],[],0⟩,⟨[.int .i64,.int .i64,.bool],[],0⟩,[[0,1,0,1,1,1,1]]⟩
def t61 (m:Nat):bJ->Option (List Un):=fun a0=>
 chk (decide (0<=((fg a0.aP).getD 0)/\((fg a0.aP).getD 0)<=1099511627776))<|
 bif !((fg a0.aP).isSome)then
 some ([.i 0,.i 0,.b false])
 else
 bif !((jf ((fg a0.aP).getD 0) a0.notes).isSome)then
 some ([.i 0,.i 0,.b false])
 else
 bif !(mz a0)then
 some ([.i 0,.i 0,.b false])
 else
 bif !(dF a0.s0)then
 some ([.i 0,.i 0,.b false])
 else
 bif !(dF a0.s1)then
 some ([.i 0,.i 0,.b false])
 else
 bif !(dF a0.s2)then
 some ([.i 0,.i 0,.b false])
 else
 some ([.i ((fg a0.aP).getD 0),.i ((jf ((fg a0.aP).getD 0) a0.notes).getD 0),.b true])
def f61:bJ->Bool × List Un:=fun a0=>(true,[.i (((cr a0).getD (0,0)).1),.i (((cr a0).getD (0,0)).2),.b ((cr a0).isSome)])
theorem Ta (a0:bJ):∃m,t61 m a0=some ([.i (((cr a0).getD (0,0)).1),.i (((cr a0).getD (0,0)).2),.b ((cr a0).isSome)]):=by
 refine⟨0, ?_⟩;unfold t61 cr;cases hl:fg a0.aP with
 |none=>simp[lt,chk]
 |some p=>
  have hb:=Ik hl;simp only[lt_eq,zbw,Option.isSome_some,zbB,zao];rw[aI hb];cases hn:jf p a0.notes with
  |none=>simp
  |some n=>
   simp only[Option.isSome_some,zbB,zao,zbw];cases mz a0<;>cases dF a0.s0<;>cases dF a0.s1<;>cases dF a0.s2<;>rfl
theorem OM:ER 61 (mkE N61.en N61.ex f61):=aq ah T99.right (fun m=>[]) (t:=t61) (by kernel_rfl) (fun m=>aA) (fun m a=>by kernel_rfl) fun a0 hc=>Ta a0
def T61:Tb Tryz.prog LQ TE XX:=T99.add 61 _ OM
def N26:aE:=⟨T61.tab,26,⟨[.agg [.int .i64,.int .i64,.int .i64,.ab (sI 2),.ab (sI 3),.int .i64,.int .i64,.int .i64,.int .i64,.int .i64,.int .i64,.int .i64,.int .i64,.int .i64,.int .i64,.ab (sI 2),.ab (sI 2),.ab (sI 2)]],[],0⟩,⟨[.bool],[],0⟩,[]⟩
def t26 (m:Nat):bJ->Option (List Un):=fun a0=>
 some ([.b ((cr a0).isSome)])
def f26:bJ->Bool × List Un:=fun a0=>(true,[.b ((cr a0).isSome)])
theorem QB (a0:bJ):∃m,t26 m a0=some ([.b ((cr a0).isSome)]):=by
 exact⟨0,rfl⟩
theorem Oi:ER 26 (mkE N26.en N26.ex f26):=aq ah T61.right (fun m=>[]) (t:=t26) (by kernel_rfl) (fun m=>aA) (fun m a=>by kernel_rfl) fun a0 hc=>QB a0
def T26:Tb Tryz.prog LQ TE XX:=T61.add 26 _ Oi
def N89:aE:=⟨T26.tab,89,⟨[.agg [.int .i64,.int .i64,.int .i64,.ab (sI 2),.ab (sI 3),.int .i64,.int .i64,.int .i64,.int .i64,.int .i64,.int .i64,.int .i64,.int .i64,.int .i64,.int .i64,.ab (sI 2),.ab (sI 2),.ab (sI 2)]],[],0⟩,⟨[.int .i64],[],0⟩,[]⟩
def t89 (m:Nat):bJ->Option (List Un):=fun a0=>
 some ([.i (((cr a0).getD (0,0)).1)])
def f89:bJ->Bool × List Un:=fun a0=>(true,[.i (((cr a0).getD (0,0)).1)])
theorem Qd (a0:bJ):∃m,t89 m a0=some ([.i (((cr a0).getD (0,0)).1)]):=by
 exact⟨0,rfl⟩
theorem MP:ER 89 (mkE N89.en N89.ex f89):=aq ah T26.right (fun m=>[]) (t:=t89) (by kernel_rfl) (fun m=>aA) (fun m a=>by kernel_rfl) fun a0 hc=>Qd a0
def T89:Tb Tryz.prog LQ TE XX:=T26.add 89 _ MP
def N59:aE:=⟨T89.tab,59,⟨[.ab (sB 4)],[],0⟩,⟨[.buf 0 5],[.ab (sB 4)],0⟩,[]⟩
def t59 (m:Nat):List Dat->Option (List Un):=fun a0=>
 bif decide (a0.length=0)then
 both (
 some ([.d ([])])) (
 chk (fits (0+a0.length) 40)<|
 some ([.d a0]))
 else
 chk (fits (0+a0.length) 40)<|
 some ([.d a0])
def f59:List Dat->Bool × List Un:=fun a0=>(decide (a0.length<1000000),[.d (a0)])
theorem SH (a0:List Dat) (hc:(decide (a0.length<1000000))=true):∃m,t59 m a0=some ([.d (a0)]):=by
 have h:=zaj hc;refine⟨0, ?_⟩;unfold t59;cases a0 with
 |nil=>simp(disch:=omega) only[TRa,TRi,aa,zas,iW,zbb,gG]
 |cons x l=>
  simp only[zac]at h⊢;simp(disch:=omega) only[TRa,TRi,aa]
theorem Mn:ER 59 (mkE N59.en N59.ex f59):=aq ah T89.right (fun m=>[]) (t:=t59) (by kernel_rfl) (fun m=>aA) (fun m a=>by kernel_rfl) fun a0 hc=>SH a0 hc
def T59:Tb Tryz.prog LQ TE XX:=T89.add 59 _ Mn
def N62:aE:=⟨T59.tab,62,⟨[.ab (sI 2)],[],0⟩,⟨[.buf 0 2],[.ab (sI 2)],0⟩,[]⟩
def t62 (m:Nat):List Dat->Option (List Un):=fun a0=>
 bif decide (a0.length=0)then
 both (
 some ([.d ([])])) (
 chk (fits (0+a0.length) 16)<|
 some ([.d a0]))
 else
 chk (fits (0+a0.length) 16)<|
 some ([.d a0])
def f62:List Dat->Bool × List Un:=fun a0=>(decide (a0.length<1000000),[.d (a0)])
theorem RN (a0:List Dat) (hc:(decide (a0.length<1000000))=true):∃m,t62 m a0=some ([.d (a0)]):=by
 have h:=zaj hc;refine⟨0, ?_⟩;unfold t62;cases a0 with
 |nil=>simp(disch:=omega) only[TRa,TRi,aa,zas,iW,zbb,gG]
 |cons x l=>
  simp only[zac]at h⊢;simp(disch:=omega) only[TRa,TRi,aa]
theorem NI:ER 62 (mkE N62.en N62.ex f62):=aq ah T59.right (fun m=>[]) (t:=t62) (by kernel_rfl) (fun m=>aA) (fun m a=>by kernel_rfl) fun a0 hc=>RN a0 hc
def T62:Tb Tryz.prog LQ TE XX:=T59.add 62 _ NI
def N63:aE:=⟨T62.tab,63,⟨[.ab (sI 3)],[],0⟩,⟨[.buf 0 3],[.ab (sI 3)],0⟩,[]⟩
def t63 (m:Nat):List Dat->Option (List Un):=fun a0=>
 bif decide (a0.length=0)then
 both (
 some ([.d ([])])) (
 chk (fits (0+a0.length) 24)<|
 some ([.d a0]))
 else
 chk (fits (0+a0.length) 24)<|
 some ([.d a0])
def f63:List Dat->Bool × List Un:=fun a0=>(decide (a0.length<1000000),[.d (a0)])
theorem RC (a0:List Dat) (hc:(decide (a0.length<1000000))=true):∃m,t63 m a0=some ([.d (a0)]):=by
 have h:=zaj hc;refine⟨0, ?_⟩;unfold t63;cases a0 with
 |nil=>simp(disch:=omega) only[TRa,TRi,aa,zas,iW,zbb,gG]
 |cons x l=>
  simp only[zac]at h⊢;simp(disch:=omega) only[TRa,TRi,aa]
theorem Od:ER 63 (mkE N63.en N63.ex f63):=aq ah T62.right (fun m=>[]) (t:=t63) (by kernel_rfl) (fun m=>aA) (fun m a=>by kernel_rfl) fun a0 hc=>RC a0 hc
def T63:Tb Tryz.prog LQ TE XX:=T62.add 63 _ Od
def N64:aE:=⟨T63.tab,64,⟨[.ab (sI 2)],[],0⟩,⟨[.buf 0 2],[.ab (sI 2)],0⟩,[]⟩
def t64 (m:Nat):List Dat->Option (List Un):=fun a0=>
 bif decide (a0.length=0)then
 both (
 some ([.d ([])])) (
 chk (fits (0+a0.length) 16)<|
 some ([.d a0]))
 else
 chk (fits (0+a0.length) 16)<|
 some ([.d a0])
def f64:List Dat->Bool × List Un:=fun a0=>(decide (a0.length<1000000),[.d (a0)])
theorem RX (a0:List Dat) (hc:(decide (a0.length<1000000))=true):∃m,t64 m a0=some ([.d (a0)]):=by
 have h:=zaj hc;refine⟨0, ?_⟩;unfold t64;cases a0 with
 |nil=>simp(disch:=omega) only[TRa,TRi,aa,zas,iW,zbb,gG]
 |cons x l=>
  simp only[zac]at h⊢;simp(disch:=omega) only[TRa,TRi,aa]
theorem Ph:ER 64 (mkE N64.en N64.ex f64):=aq ah T63.right (fun m=>[]) (t:=t64) (by kernel_rfl) (fun m=>aA) (fun m a=>by kernel_rfl) fun a0 hc=>RX a0 hc
def T64:Tb Tryz.prog LQ TE XX:=T63.add 64 _ Ph
def N67:aE:=⟨T64.tab,67,⟨[.ab (sI 7)],[],0⟩,⟨[.buf 0 7],[.ab (sI 7)],0⟩,[]⟩
def t67 (m:Nat):List Dat->Option (List Un):=fun a0=>
 bif decide (a0.length=0)then
 both (
 some ([.d ([])])) (
 chk (fits (0+a0.length) 56)<|
 some ([.d a0]))
 else
 chk (fits (0+a0.length) 56)<|
 some ([.d a0])
def f67:List Dat->Bool × List Un:=fun a0=>(decide (a0.length<1000000),[.d (a0)])
theorem R2 (a0:List Dat) (hc:(decide (a0.length<1000000))=true):∃m,t67 m a0=some ([.d (a0)]):=by
 have h:=zaj hc;refine⟨0, ?_⟩;unfold t67;cases a0 with
 |nil=>simp(disch:=omega) only[TRa,TRi,aa,zas,iW,zbb,gG]
 |cons x l=>
  simp only[zac]at h⊢;simp(disch:=omega) only[TRa,TRi,aa]
theorem Oj:ER 67 (mkE N67.en N67.ex f67):=aq ah T64.right (fun m=>[]) (t:=t67) (by kernel_rfl) (fun m=>aA) (fun m a=>by kernel_rfl) fun a0 hc=>R2 a0 hc
def T67:Tb Tryz.prog LQ TE XX:=T64.add 67 _ Oj
def N79:aE:=⟨T67.tab,79,⟨[.ab (sI 3)],[],0⟩,⟨[.buf 0 3],[.ab (sI 3)],0⟩,[]⟩
def t79 (m:Nat):List Dat->Option (List Un):=fun a0=>
 bif decide (a0.length=0)then
 both (
 some ([.d ([])])) (
 chk (fits (0+a0.length) 24)<|
 some ([.d a0]))
 else
 chk (fits (0+a0.length) 24)<|
 some ([.d a0])
def f79:List Dat->Bool × List Un:=fun a0=>(decide (a0.length<1000000),[.d (a0)])
theorem S4 (a0:List Dat) (hc:(decide (a0.length<1000000))=true):∃m,t79 m a0=some ([.d (a0)]):=by
 have h:=zaj hc;refine⟨0, ?_⟩;unfold t79;cases a0 with
 |nil=>simp(disch:=omega) only[TRa,TRi,aa,zas,iW,zbb,gG]
 |cons x l=>
  simp only[zac]at h⊢;simp(disch:=omega) only[TRa,TRi,aa]
theorem NG:ER 79 (mkE N79.en N79.ex f79):=aq ah T67.right (fun m=>[]) (t:=t79) (by kernel_rfl) (fun m=>aA) (fun m a=>by kernel_rfl) fun a0 hc=>S4 a0 hc
def T79:Tb Tryz.prog LQ TE XX:=T67.add 79 _ NG
def N93:aE:=⟨T79.tab,93,⟨[.ints .i64],[],0⟩,⟨[.buf 0 1],[.ints .i64],0⟩,[]⟩
def t93 (m:Nat):List Int->Option (List Un):=fun a0=>
 bif decide (a0.length=0)then
 both (
 some ([.l ([])])) (
 chk (fits (0+a0.length) 8)<|
 some ([.l a0]))
 else
 chk (fits (0+a0.length) 8)<|
 some ([.l a0])
def f93:List Int->Bool × List Un:=fun a0=>(decide (a0.length<1000000),[.l (a0)])
theorem Rb (a0:List Int) (hc:(decide (a0.length<1000000))=true):∃m,t93 m a0=some ([.l (a0)]):=by
 have h:=zaj hc;refine⟨0, ?_⟩;unfold t93;cases a0 with
 |nil=>simp(disch:=omega) only[TRa,TRi,aa,zas,iW,zbb,gG]
 |cons x l=>
  simp only[zac]at h⊢;simp(disch:=omega) only[TRa,TRi,aa]
theorem PB:ER 93 (mkE N93.en N93.ex f93):=aq ah T79.right (fun m=>[]) (t:=t93) (by kernel_rfl) (fun m=>aA) (fun m a=>by kernel_rfl) fun a0 hc=>Rb a0 hc
def T93:Tb Tryz.prog LQ TE XX:=T79.add 93 _ PB
def N27:aE:=⟨T93.tab,27,⟨[.agg [.int .i64,.int .i64,.int .i64,.ab (sI 2),.ab (sI 3),.int .i64,.int .i64,.int .i64,.int .i64,.int .i64,.int .i64,.int .i64,.int .i64,.int .i64,.int .i64,.ab (sI 2),.ab (sI 2),.ab (sI 2)]],[],0⟩,⟨[.agg [.int .i64,.int .i64,.int .i64,.buf 0 2,.buf 1 3,.int .i64,.int .i64,.int .i64,.int .i64,.int .i64,.int .i64,.int .i64,.int .i64,.int .i64,.int .i64,.buf 2 2,.buf 3 2,.buf 4 2]],[.ab (sI 2),.ab (sI 3),.ab (sI 2),.ab (sI 2),.ab (sI 2)],0⟩,[[0,1,0,1,1,1]]⟩
def t27 (m:Nat):bJ->Option (List Un):=fun a0=>
 chk (decide (a0.aP.length<1000000))<|
 chk (decide (a0.notes.length<1000000))<|
 chk (decide (a0.s0.length<1000000))<|
 chk (decide (a0.s1.length<1000000))<|
 chk (decide (a0.s2.length<1000000))<|
 some (Uns.enc (a0.a:aw)++Uns.enc (a0.b:ax)++[.d a0.aP,.d a0.notes,.d a0.s0,.d a0.s1,.d a0.s2])
def f27:bJ->Bool × List Un:=fun a0=>(decide (a0.aP.length<1000000/\a0.notes.length<1000000/\a0.s0.length<1000000/\a0.s1.length<1000000/\a0.s2.length<1000000),Uns.enc ((a0.a):aw)++Uns.enc ((a0.b):ax)++[.d (a0.aP),.d (a0.notes),.d (a0.s0),.d (a0.s1),.d (a0.s2)])
theorem Rz (a0:bJ) (hc:(decide (a0.aP.length<1000000/\a0.notes.length<1000000/\a0.s0.length<1000000/\a0.s1.length<1000000/\a0.s2.length<1000000))=true):∃m,t27 m a0=some (Uns.enc ((a0.a):aw)++Uns.enc ((a0.b):ax)++[.d (a0.aP),.d (a0.notes),.d (a0.s0),.d (a0.s1),.d (a0.s2)]):=by
 obtain⟨h1,h2,h3,h4,h5⟩:=zaj hc;refine⟨0, ?_⟩;unfold t27;simp(disch:=omega) only[TRa,TRi,aa]
theorem Ot:ER 27 (mkE N27.en N27.ex f27):=aq ah T93.right (fun m=>[]) (t:=t27) (by kernel_rfl) (fun m=>aA) (fun m a=>by kernel_rfl) fun a0 hc=>Rz a0 hc
def T27:Tb Tryz.prog LQ TE XX:=T93.add 27 _ Ot
theorem GZ:∀(l:List Int) (i:Nat) (last all:Int),last<2*(i:Int)+1->i+l.length<=40->0<=all->all+100000*l.length+50000<=1099511627776->
 iq last all (gA i l++[.r [.n 99,.n 50000]])=some (all+an 1 (gA i l++[.r [.n 99,.n 50000]]))
 |[],i,last,all,h1,h2,h3,h4=>by
  have e0:(Dat.r [.n 99,.n 50000]).i 0=99:=rfl;have e1:(Dat.r [.n 99,.n 50000]).i 1=50000:=rfl;simp only[gA,zaC,iq,an,e0,e1];simp only[zas]at h2 h4;rw[if_neg (by omega),if_pos (by omega)];rfl
 |x::l,i,last,all,h1,h2,h3,h4=>by
  have hx:=aZ (a:=x) (show(0:Int)<=100000 by decide);have e0:(C0 i x).i 0=2*(i:Int)+1:=rfl;have e1:(C0 i x).i 1=within x 0 100000:=rfl;simp only[zac]at h2 h4;have:=GZ l (i+1) (2*(i:Int)+1) (all+within x 0 100000) (by omega) (by omega) (by omega) (by omega);simp only[gA,zaN,iq,an,e0,e1];rw[if_neg (by omega),if_pos (by omega),this,Int.add_assoc]
theorem Pm (k:cI):fg (eZ k)=some (iD k):=by
 have hl:=mV k;have h1:1<=(eZ k).length:=by simp[eZ]
 have:=GZ (k.aP.take 10) 0 0 0 (by decide) (by simp;omega) (by decide) (by simp;omega);unfold fg;rw[if_pos ⟨h1,by omega⟩];simpa[eZ,kj,iD]using this
theorem vt (p q:Int) (hp:0<=q):∀(l:List Dat) (all:Int),(∀d∈l,(0<=d.i 0/\d.i 0<=7)/\(1<=d.i 1/\d.i 1<=q)/\(0<=d.i 2/\d.i 2<=5000))->all+l.length*q<=p->kO p all l=some (all+an 1 l)
 |[],all,_,_=>by simp[kO,an]
 |d::l,all,h,hb=>by
  have hd:=h d (by simp);simp only[zac,zaD,zbY]at hb;have hl:0<=(l.length:Int)*q:=za4 (by omega) hp;have e:((1:Nat):Int)*q=q:=by simp
  have:=vt p q hp l (all+d.i 1) (fun x hx=>h x (by simp[hx])) (by omega);simp only[kO,an];rw[if_pos ⟨hd.1,⟨hd.2.1.1,by omega⟩,hd.2.2⟩,this,Int.add_assoc]
theorem FO (k:cI):∀d∈iR k,(0<=d.i 0/\d.i 0<=3)/\(1<=d.i 1/\d.i 1<=1+iD k/6)/\(0<=d.i 2/\d.i 2<=1200):=by
 have hp:=xi k;simp only[iR,za6,zbz]
 rintro d ⟨i,hi,rfl⟩
 have h1:=aZ (a:=bB k.pk i) (show(0:Int)<=3 by decide);have h2:=aZ (a:=bB k.notes i) (show(0:Int)<=iD k/6 by omega);have h3:=aZ (a:=bB k.Ar i) (show(0:Int)<=1200 by decide);simp only[GY,Ky,fa,iM];omega
theorem wk (k:cI):1<=(iR k).length/\(iR k).length<=5:=by simp[iR];omega
theorem OQ (k:cI):jf (iD k) (iR k)=some (an 1 (iR k)):=by
 have hp:=xi k;have hl:=wk k;unfold jf;rw[if_pos ⟨hl.1,by omega⟩];refine(vt (iD k) (1+iD k/6) (by omega) (iR k) 0 (fun d hd=> ?_) ?_).trans (by rw[za0])
 . have:=FO k d hd;omega
 . have:((iR k).length:Int)*(1+iD k/6)<=5*(1+iD k/6):=za3 (by omega) (by omega);omega
theorem QG (k:cI):mz (aS k)=true:=by
 have h1:=aZ (a:=k.a.year) (show(1990:Int)<=2040 by decide);have h2:=aZ (a:=k.a.month) (show(1:Int)<=12 by decide);have h3:=aZ (a:=k.a.basis) (show(0:Int)<=2 by decide);have h4:=aZ (a:=k.b.fee) (show(0:Int)<=200 by decide);have h5:=aZ (a:=k.b.aX) (show(0:Int)<=5000 by decide);have h6:=aZ (a:=k.b.target) (show(0:Int)<=500 by decide);have h7:=aZ (a:=k.b.advance) (show(0:Int)<=3000 by decide);have h8:=aZ (a:=k.b.eY) (show(0:Int)<=3 by decide);have h9:=aZ (a:=k.b.oc) (show(0:Int)<=12000 by decide);have h10:=aZ (a:=k.b.ic) (show(0:Int)<=15000 by decide);have h11:=aZ (a:=k.b.late) (show(0:Int)<=5000 by decide);have h12:=aZ (a:=k.b.l7) (show(0:Int)<=5000 by decide);have h13:=aZ (a:=k.b.clean) (show(0:Int)<=3000 by decide);simp only[mz,zab,zag];simp only[aS];omega
theorem th (d:Dat):∀(l pre:List Dat),iY pre (l++[d])=(iY pre l&&(pZ d&& !cG (pre++l) (d.i 0) (d.i 1)))
 |[],pre=>by simp[iY]
 |x::l,pre=>by
  simp only[zaN,iY,th d l (pre++[x]),zat,zaC,Bool.and_assoc]
theorem zX:∀(xs:List Int) (acc:List Dat),iY [] acc=true->iY [] (gy acc xs)=true
 |[],acc,h=>h
 |x::xs,acc,h=>by
  simp only[gy];refine zX xs _ ?_
  cases hs:cG acc (within x 1 7) (kN x)
  . have e0:(Dat.r [.n (within x 1 7),.n (kN x)]).i 0=within x 1 7:=rfl;have e1:(Dat.r [.n (within x 1 7),.n (kN x)]).i 1=kN x:=rfl;have hx:=aZ (a:=x) (show(1:Int)<=7 by decide);simp only[zb3,zbh];rw[th,h,zaC,e0,e1,hs,za8,Bool.not_false,za9];simp only[pZ,e0,e1,zab,zag];refine⟨hx, ?_⟩;unfold kN
    by_cases h3:within x 1 7=3
    . have:=aZ (a:=w64 (x.tdiv 7)) (show(0:Int)<=3 by decide);rw[if_pos h3,if_pos h3];omega
    . rw[if_neg h3,if_neg h3];omega
  . simp only[zbc];exact h
theorem mo (l:List Int):1<=(nA l).length/\(nA l).length<=12:=by
 unfold nA
 split
 . decide
 . have:=vA (l.take 12) [];simp at this;omega
theorem sG (l:List Int):dF (nA l)=true:=by
 have hl:=mo l;unfold dF;rw[zae (by omega),za8];unfold nA
 split
 . decide
 . exact zX _ _ rfl
theorem Dr (k:cI):cr (aS k)=some (iD k,an 1 (iR k)):=by
 have h1:fg (aS k).aP=some (iD k):=Pm k;have h2:jf (iD k) (aS k).notes=some (an 1 (iR k)):=OQ k;simp only[cr,h1,h2,QG,show dF (aS k).s0=true from sG _,show dF (aS k).s1=true from sG _,show dF (aS k).s2=true from sG _,zbO,zbc]
theorem tz (k:cI):(aS k).aP.length<1000000/\(aS k).notes.length<1000000/\(aS k).s0.length<1000000/\(aS k).s1.length<1000000/\(aS k).s2.length<1000000:=by
 have h1:=mV k;have h2:=wk k;have h3:=mo k.s0;have h4:=mo k.s1;have h5:=mo k.s2;simp only[aS];omega
def N29:aE:=⟨T27.tab,29,⟨[.int .i64],[],0⟩,⟨[.agg [.int .i64,.int .i64]],[],0⟩,[]⟩
def t29 (m:Nat):Int->Option (List Un):=fun a0=>
 bif (decide ((([0,a0]).getD 0 0)<0))then
 some ([.i 0,.i 0])
 else
 bif (decide ((([0,a0]).getD 0 0)>1152921504606846976))then
 some ([.i 0,.i 0])
 else
 lt ((w64 (0+(([0,a0]).getD 0 0))):Int) fun x3=>
 bif (decide ((([0,a0]).getD 1 0)<0))then
 some ([.i 0,.i 0])
 else
 bif (decide ((([0,a0]).getD 1 0)>(w64 (1152921504606846976-x3))))then
 some ([.i 0,.i 0])
 else
 some ([.i (w64 (x3+(([0,a0]).getD 1 0))),.i 0])
def f29:Int->Bool × List Un:=fun a0=>(decide (0<=a0/\a0<=1152921504606846976),[.i (a0),.i (0)])
theorem QK (a0:Int) (hc:(decide (0<=a0/\a0<=1152921504606846976))=true):∃m,t29 m a0=some ([.i (a0),.i (0)]):=by
 have h:=zaj hc;refine⟨0, ?_⟩;unfold t29;simp only[zaQ,zaE];simp(disch:=omega) only[TRa,TRi,aa,za0,zbt]
theorem Pd:ER 29 (mkE N29.en N29.ex f29):=aq ah T27.right (fun m=>[]) (t:=t29) (by kernel_rfl) (fun m=>aA) (fun m a=>by kernel_rfl) fun a0 hc=>QK a0 hc
def T29:Tb Tryz.prog LQ TE XX:=T27.add 29 _ Pd
def N30:aE:=⟨T29.tab,30,⟨[.agg [.int .i64,.int .i64,.int .i64]],[],0⟩,⟨[.agg [.int .i64,.int .i64,.int .i64,.int .i64,.int .i64,.int .i64,.int .i64]],[],0⟩,[]⟩
def t30 (m:Nat):Int × Int × Int->Option (List Un):=fun(a0,a1,a2)=>
 some ([.i a0,.i a1,.i a2,.i 0,.i 0,.i 0,.i 0])
def f30:Int × Int × Int->Bool × List Un:=fun(a0,a1,a2)=>(true,[.i (a0),.i (a1),.i (a2),.i (0),.i (0),.i (0),.i (0)])
theorem Rk (a0:Int) (a1:Int) (a2:Int):∃m,t30 m (a0,a1,a2)=some ([.i (a0),.i (a1),.i (a2),.i (0),.i (0),.i (0),.i (0)]):=by
 exact⟨0,rfl⟩
theorem Nc:ER 30 (mkE N30.en N30.ex f30):=aq ah T29.right (fun m=>[]) (t:=t30) (by kernel_rfl) (fun m=>aA) (fun m a=>by kernel_rfl) fun(a0,a1,a2) hc=>Rk a0 a1 a2
def T30:Tb Tryz.prog LQ TE XX:=T29.add 30 _ Nc
def iH (d:Dat):Dat:= .r [.n (d.i 0),.n (d.i 1),.n 0,.n 0,.n (bI false)]
def N28:aE:=⟨T30.tab,28,⟨[.ab (sI 2)],[],0⟩,⟨[.ptr 0 0 0],[.cells [.buf 1 5],.ab (sB 4)],0⟩,[]⟩
abbrev GI:Type:=List Dat × Int × Int × List Dat
def AA (m:Nat) (k:GI->Option (List Un)):GI->Option (List Un):=fun(a0,a1,a2,a3)=>
 bif decide (a2<a1)then
 chk (inb a2 a0.length)<|
 chk (decide (a2.toNat<a0.length))<|
 lt (af a0 a2.toNat:Dat) fun d1=>
 chk (fits (a3.length+1) 40)<|
 k (a0,a1,(w64 (a2+1)),(a3++([.r [.n (d1.i 0),.n (d1.i 1),.n 0,.n 0,.n (bI false)]])))
 else
 some ([.d a3])
def Aj (m:Nat):Nat->GI->Option (List Un):=bg (AA m)
theorem vo (m:Nat) (n:Nat):Aj m (n+1)=AA m (Aj m n):=rfl
def LN (F:GI->Option (List Un)):aQ:=⟨[.lp [0,1,0,1,1],.blk 0,.code [1,1,1]],⟨frm 27 [(3,.ptr 0 0 0),(8,.ab (sI 2)),(9,.int .i64),(10,.int .i64)],[.cells [.buf 1 5],.ab (sB 4)],0⟩,onU F⟩
theorem UB (m:Nat):∀n,HO N28 (LN (Aj m n)):=ar ah T30.right (fun k=>[LN k]) (fun k h=>(aH h aA)) fun k a=>by kernel_rfl
def t28 (m:Nat):List Dat->Option (List Un):=fun a0=>
 Aj m m (a0,(a0.length:Int),0,[])
theorem K7 (m:Nat):∀(rest pre:List Dat) (n:Nat),rest.length<n->(pre++rest).length<1000000->
 Aj m n (pre++rest,((pre++rest).length:Int),(pre.length:Int),pre.map iH)=some [.d ((pre++rest).map iH)]:=by
 intro rest
 induction rest with
 |nil=>
  intro pre n hn hl;obtain⟨n,rfl⟩:=ai n (by simp at hn;omega);rw[vo];unfold AA;dsimp only;simp[az]
 |cons x rest ih=>
  intro pre n hn hl;obtain⟨n,rfl⟩:=ai n (by simp at hn;omega);simp only[zac,zad]at hn hl;rw[vo];unfold AA;dsimp only;have:=ih (pre++[x]) n (by omega) (by simp;omega);rw[zbP]at this;simp(disch:=omega) only[TRa,TRi,aa,LNl,LNi,zaa,au];simp only[LNl,LNi,zaa]at this⊢;exact this
def f28:List Dat->Bool × List Un:=fun a0=>(decide (a0.length<1000000),[.d (a0.map iH)])
theorem Sa (a0:List Dat) (hc:(decide (a0.length<1000000))=true):∃m,t28 m a0=some ([.d (a0.map iH)]):=by
 exact⟨a0.length+1,K7 _ a0 [] _ (by omega) (zaj hc)⟩
theorem PK:ER 28 (mkE N28.en N28.ex f28):=aq ah T30.right (fun m=>[LN (Aj m m)]) (t:=t28) (by kernel_rfl) (fun m=>(aH (UB m m) aA)) (fun m a=>by kernel_rfl) fun a0 hc=>Sa a0 hc
def T28:Tb Tryz.prog LQ TE XX:=T30.add 28 _ PK
@[ext] structure ao where
 rin:Int
 bC:Int
 out:Int
 fee:Int
 mode:Int
 bm:Int
 period:Int
 aF:Int
 aR:Int
 j9:Bool
instance : Uns ao := Uns.via (B := Int × Int × Int × Int × Int × Int × Int × Int × Int × Bool) (fun x => (x.rin, x.bC, x.out, x.fee, x.mode, x.bm, x.period, x.aF, x.aR, x.j9)) (fun x => match x with | (rin, bC, out, fee, mode, bm, period, aF, aR, j9) => ⟨rin, bC, out, fee, mode, bm, period, aF, aR, j9⟩) (fun _ => rfl)
def cL (p:Nat):List BP:=[.cells [.int .i64,.int .i64,.int .i64,.buf (p+1) 2,.buf (p+2) 3,.int .i64,.int .i64,.int .i64,.int .i64,.int .i64,.int .i64,.int .i64,.int .i64,.int .i64,.int .i64,.buf (p+3) 2,.buf (p+4) 2,.buf (p+5) 2,.ptr (p+6) 0 0,.buf (p+8) 7,.int .i64,.int .i64,.int .i64,.int .i64,.int .i64,.int .i64,.int .i64,.int .i64,.int .i64,.bool],.ab (sI 2),.ab (sI 3),.ab (sI 2),.ab (sI 2),.ab (sI 2),.cells [.buf (p+7) 5],.ab (sB 4),.ab (sI 7)]
structure ae where
 a:aw
 b:ax
 n:ao
 aP:List Dat
 notes:List Dat
 s0:List Dat
 s1:List Dat
 s2:List Dat
 aL:List Dat
 tr:List Dat
def po (d:Dat):Dat:= .r [.n (d.i 0),.n (d.i 1),.n (d.i 2),.n 0,.n 0,.n 0,.n 0]
def cy (d:bJ):ae:=⟨d.a,d.b,⟨d.b.aX,0,0,0,0,0,0,0,0,false⟩,d.aP,d.notes,d.s0,d.s1,d.s2,d.aP.map iH,d.notes.map po⟩
def dI (d:bJ):ae:=if (cr d).isSome then cy d else⟨⟨0,0,0⟩,⟨0,0,0,0,0,0,0,0,0,0⟩,⟨0,0,0,0,0,0,0,0,0,false⟩,[],[],[],[],[],[],[]⟩
theorem yt {d:bJ} (h:(cr d).isSome=true):0<=d.b.aX/\d.b.aX<=1099511627776:=by
 unfold cr at h
 split at h
 . cases h
 . split at h
   . cases h
   . split at h
     . rename_i hc;simp only[zab,mz,zag]at hc;omega
     . cases h
def N9:aE:=⟨T28.tab,9,⟨[.agg [.int .i64,.int .i64,.int .i64,.ab (sI 2),.ab (sI 3),.int .i64,.int .i64,.int .i64,.int .i64,.int .i64,.int .i64,.int .i64,.int .i64,.int .i64,.int .i64,.ab (sI 2),.ab (sI 2),.ab (sI 2)]],[],0⟩,⟨[.np 0 0 0,.int .i64],cL 0,0⟩,[]⟩
abbrev NU:Type:=List Dat × Int × Int × aw × ax × ao × List Dat × List Dat × List Dat × List Dat × List Dat × List Dat × List Dat
def HN (m:Nat) (k:NU->Option (List Un)):NU->Option (List Un):=fun(a0,a1,a2,a3,a4,a5,a6,a7,a8,a9,a10,a11,a12)=>
 bif decide (a2<a1)then
 chk (inb a2 a0.length)<|
 chk (decide (a2.toNat<a0.length))<|
 lt (af a0 a2.toNat:Dat) fun d1=>
 chk (fits (a11.length+1) 56)<|
 k (a0,a1,(w64 (a2+1)),a3,a4,a5,a6,a7,a8,a9,a10,(a11++([.r [.n (d1.i 0),.n (d1.i 1),.n (d1.i 2),.n 0,.n 0,.n 0,.n 0]])),a12)
 else
 some ([.i 0,.i 0]++Uns.enc (a3:aw)++Uns.enc (a4:ax)++Uns.enc (a5:ao)++[.d a6,.d a7,.d a8,.d a9,.d a10,.d a12,.d a11])
def IA (m:Nat):Nat->NU->Option (List Un):=bg (HN m)
theorem At (m:Nat) (n:Nat):IA m (n+1)=HN m (IA m n):=rfl
def Ql (F:NU->Option (List Un)):aQ:=⟨[.lp [0,1,0,1,1,1],.blk 0,.code [1,1,1,1]],⟨frm 40 [(4,.ptr 0 0 0),(21,.ab (sI 3)),(22,.int .i64),(23,.int .i64)],[.cells [.int .i64,.int .i64,.int .i64,.buf 1 2,.buf 2 3,.int .i64,.int .i64,.int .i64,.int .i64,.int .i64,.int .i64,.int .i64,.int .i64,.int .i64,.int .i64,.buf 3 2,.buf 4 2,.buf 5 2,.ptr 6 0 0,.buf 7 7,.int .i64,.int .i64,.int .i64,.int .i64,.int .i64,.int .i64,.int .i64,.int .i64,.int .i64,.bool],.ab (sI 2),.ab (sI 3),.ab (sI 2),.ab (sI 2),.ab (sI 2),.cells [.buf 8 5],.ab (sI 7),.ab (sB 4)],0⟩,onU F⟩
theorem Wc (m:Nat):∀n,HO N9 (Ql (IA m n)):=ar ah T28.right (fun k=>[Ql k]) (fun k h=>(aH h aA)) fun k a=>by kernel_rfl
def t9 (m:Nat):bJ->Option (List Un):=fun a0=>
 bif !((cr a0).isSome)then
 some ([.i (-1),.i 2]++Uns.enc ((⟨0,0,0⟩:aw):aw)++Uns.enc ((⟨0,0,0,0,0,0,0,0,0,0⟩:ax):ax)++Uns.enc ((⟨0,0,0,0,0,0,0,0,0,false⟩:ao):ao)++[.d ([]),.d ([]),.d ([]),.d ([]),.d ([]),.d ([]),.d ([])])
 else
 chk (decide (a0.aP.length<1000000/\a0.notes.length<1000000/\a0.s0.length<1000000/\a0.s1.length<1000000/\a0.s2.length<1000000))<|
 chk (decide (a0.aP.length<1000000))<|
 chk (decide (0<=a0.b.aX/\a0.b.aX<=1152921504606846976))<|
 IA m m (a0.notes,(a0.notes.length:Int),0,a0.a,a0.b,(⟨a0.b.aX,0,0,0,0,0,0,0,0,false⟩:ao),a0.aP,a0.notes,a0.s0,a0.s1,a0.s2,[],(a0.aP.map iH))
theorem IU (m:Nat) (a:aw) (b:ax) (n0:ao) (x1 x2 x3 x4 x5 x6:List Dat):∀(rest pre:List Dat) (n:Nat),rest.length<n->(pre++rest).length<1000000->
 IA m n (pre++rest,((pre++rest).length:Int),(pre.length:Int),a,b,n0,x1,x2,x3,x4,x5,pre.map po,x6)=some ([.i 0,.i 0]++Uns.enc (a:aw)++Uns.enc (b:ax)++Uns.enc (n0:ao)++[.d x1,.d x2,.d x3,.d x4,.d x5,.d x6,.d ((pre++rest).map po)]):=by
 intro rest
 induction rest with
 |nil=>
  intro pre n hn hl;obtain⟨n,rfl⟩:=ai n (by simp at hn;omega);rw[At];unfold HN;dsimp only;simp[az]
 |cons x rest ih=>
  intro pre n hn hl;obtain⟨n,rfl⟩:=ai n (by simp at hn;omega);simp only[zac,zad]at hn hl;rw[At];unfold HN;dsimp only;have:=ih (pre++[x]) n (by omega) (by simp;omega);rw[zbP]at this;simp(disch:=omega) only[TRa,TRi,aa,LNl,LNi,zaa,au];simp only[LNl,LNi,zaa]at this⊢;exact this
def f9:bJ->Bool × List Un:=fun a0=>(decide (a0.aP.length<1000000/\a0.notes.length<1000000/\a0.s0.length<1000000/\a0.s1.length<1000000/\a0.s2.length<1000000),[.i (((if (cr a0).isSome then 0 else-1):Int)),.i (((if (cr a0).isSome then 0 else 2):Int))]++Uns.enc (((dI a0).a):aw)++Uns.enc (((dI a0).b):ax)++Uns.enc (((dI a0).n):ao)++[.d ((dI a0).aP),.d ((dI a0).notes),.d ((dI a0).s0),.d ((dI a0).s1),.d ((dI a0).s2),.d ((dI a0).aL),.d ((dI a0).tr)])
theorem Ty (a0:bJ) (hc:(decide (a0.aP.length<1000000/\a0.notes.length<1000000/\a0.s0.length<1000000/\a0.s1.length<1000000/\a0.s2.length<1000000))=true):∃m,t9 m a0=some ([.i (((if (cr a0).isSome then 0 else-1):Int)),.i (((if (cr a0).isSome then 0 else 2):Int))]++Uns.enc (((dI a0).a):aw)++Uns.enc (((dI a0).b):ax)++Uns.enc (((dI a0).n):ao)++[.d ((dI a0).aP),.d ((dI a0).notes),.d ((dI a0).s0),.d ((dI a0).s1),.d ((dI a0).s2),.d ((dI a0).aL),.d ((dI a0).tr)]):=by
 have h:=zaj hc;refine⟨a0.notes.length+1, ?_⟩;unfold t9 dI;cases hs:(cr a0).isSome
 . rfl
 . have hr:=yt hs;simp only[zbB,zao,zbc];rw[aI h,aI (by omega),aI (by omega)];exact IU _ _ _ _ _ _ _ _ _ _ a0.notes [] _ (by omega) (by simp;omega)
theorem Sh:ER 9 (mkE N9.en N9.ex f9):=aq ah T28.right (fun m=>[Ql (IA m m)]) (t:=t9) (by kernel_rfl) (fun m=>(aH (Wc m m) aA)) (fun m a=>by kernel_rfl) fun a0 hc=>Ty a0 hc
def T9:Tb Tryz.prog LQ TE XX:=T28.add 9 _ Sh
def N77:aE:=⟨T9.tab,77,⟨[.agg [.int .i64,.int .i64]],[],0⟩,⟨[.int .i64],[],0⟩,[]⟩
def t77 (m:Nat):Int × Int->Option (List Un):=fun(a0,a1)=>
 some ([.i (w64 (a0-a1))])
def f77:Int × Int->Bool × List Un:=fun(a0,a1)=>(true,[.i (w64 (a0-a1))])
theorem QO (a0:Int) (a1:Int):∃m,t77 m (a0,a1)=some ([.i (w64 (a0-a1))]):=by
 exact⟨0,rfl⟩
theorem NX:ER 77 (mkE N77.en N77.ex f77):=aq ah T9.right (fun m=>[]) (t:=t77) (by kernel_rfl) (fun m=>aA) (fun m a=>by kernel_rfl) fun(a0,a1) hc=>QO a0 a1
def T77:Tb Tryz.prog LQ TE XX:=T9.add 77 _ NX
def N74:aE:=⟨T77.tab,74,⟨[.agg [.int .i64,.int .i64,.int .i64,.int .i64,.int .i64,.int .i64,.int .i64]],[],0⟩,⟨[.int .i64],[],0⟩,[]⟩
def t74 (m:Nat):Int × Int × Int × Int × Int × Int × Int->Option (List Un):=fun(a0,a1,a2,a3,a4,a5,a6)=>
 some ([.i (w64 ((w64 (a1-(w64 (a3-a4))))-a6))])
def f74:Int × Int × Int × Int × Int × Int × Int->Bool × List Un:=fun(a0,a1,a2,a3,a4,a5,a6)=>(true,[.i (w64 (w64 (a1-w64 (a3-a4))-a6))])
theorem Rv (a0:Int) (a1:Int) (a2:Int) (a3:Int) (a4:Int) (a5:Int) (a6:Int):∃m,t74 m (a0,a1,a2,a3,a4,a5,a6)=some ([.i (w64 (w64 (a1-w64 (a3-a4))-a6))]):=by
 exact⟨0,rfl⟩
theorem Ns:ER 74 (mkE N74.en N74.ex f74):=aq ah T77.right (fun m=>[]) (t:=t74) (by kernel_rfl) (fun m=>aA) (fun m a=>by kernel_rfl) fun(a0,a1,a2,a3,a4,a5,a6) hc=>Rv a0 a1 a2 a3 a4 a5 a6
def T74:Tb Tryz.prog LQ TE XX:=T77.add 74 _ Ns
def bo (d:Dat):Int:=d.i 1-(d.i 3-d.i 4)-d.i 6
def aU (d:Dat):Bool:=decide (0<=d.i 1/\d.i 1<=1099511627776/\0<=d.i 3/\d.i 4=0/\0<=d.i 6/\d.i 3+d.i 6<=d.i 1/\0<=d.i 5/\d.i 5<=1125899906842624)
def oy (c:Int) (d:Dat):Int:=max (min c (bo d)) 0
def ug (c:Int) (d:Dat):Dat:= .r [.n (d.i 0),.n (d.i 1),.n (d.i 2),.n (d.i 3+oy c d),.n (d.i 4),.n (d.i 5),.n (d.i 6)]
def eL (c:Int) (d:Dat):Dat:= .r [.n (d.i 0),.n (d.i 1),.n (d.i 2),.n (d.i 3),.n (d.i 4),.n (d.i 5),.n (d.i 6+oy c d)]
def nX (c:Int) (d:Dat):Int:=max (min c (d.i 6)) 0
def gE (c:Int) (d:Dat):Dat:= .r [.n (d.i 0),.n (d.i 1),.n (d.i 2),.n (d.i 3),.n (d.i 4),.n (d.i 5),.n (d.i 6-nX c d)]
def A1 (c:Int) (d:Dat):Dat:= .r [.n (d.i 0),.n (d.i 1),.n (d.i 2),.n (d.i 3),.n (d.i 4),.n (d.i 5+c),.n (d.i 6)]
def N83:aE:=⟨T74.tab,83,⟨[.np 0 7 0,.int .i64],[.ab (sI 7)],0⟩,⟨[.int .i64],[.ab (sI 7)],0⟩,[]⟩
def t83 (m:Nat):Int × Int × List Dat->Option (List Un):=fun(a0,a1,a2)=>
 chk (decide (0<=a0))<|
 chk (decide (a0.toNat<a2.length))<|
 lt (af a2 a0.toNat:Dat) fun d1=>
 lt ((w64 (w64 ((d1.i 1)-w64 ((d1.i 3)-(d1.i 4)))-(d1.i 6))):Int) fun x2=>
 lt ((if x2<a1 then x2 else a1):Int) fun x3=>
 lt ((if x3<0 then 0 else x3):Int) fun x4=>
 chk (decide (0<=a0))<|
 chk (decide (a0.toNat<a2.length))<|
 lt (af a2 a0.toNat:Dat) fun d5=>
 lt ((([(d5.i 3),x4]).getD 0 0):Int) fun x6=>
 bif decide (x6<0)then
 some ([.i 0,.d a2])
 else
 bif (decide (x6>1152921504606846976))then
 some ([.i 0,.d a2])
 else
 lt ((([(d5.i 3),x4]).getD 1 0):Int) fun x8=>
 bif decide (x8<0)then
 some ([.i 0,.d a2])
 else
 bif decide (x8>(w64 (1152921504606846976-(w64 (0+x6)))))then
 some ([.i 0,.d a2])
 else
 chk (decide (a0.toNat<a2.length))<|
 lt (af a2 a0.toNat:Dat) fun d11=>
 some ([.i x4,.d (List.set a2 a0.toNat (.r [.n (d11.i 0),.n (d11.i 1),.n (d11.i 2),.n (w64 ((w64 (0+x6))+x8)),.n (d11.i 4),.n (d11.i 5),.n (d11.i 6)]))])
def f83:Int × Int × List Dat->Bool × List Un:=fun(a0,a1,a2)=>(decide (0<=a0/\a0.toNat<a2.length)&&aU (af a2 a0.toNat),[.i (oy a1 (af a2 a0.toNat)),.d (a2.set a0.toNat (ug a1 (af a2 a0.toNat)))])
theorem Qf (a0:Int) (a1:Int) (a2:List Dat) (hc:(decide (0<=a0/\a0.toNat<a2.length)&&aU (af a2 a0.toNat))=true):∃m,t83 m (a0,a1,a2)=some ([.i (oy a1 (af a2 a0.toNat)),.d (a2.set a0.toNat (ug a1 (af a2 a0.toNat)))]):=by
 simp only[zab,zag,aU]at hc;obtain⟨⟨h1,h2⟩,h⟩:=hc;refine⟨0, ?_⟩;unfold t83;dsimp only;simp only[lt_eq];generalize af a2 a0.toNat=d at*
 have hv:∀c,oy c d=max (min c (bo d)) 0:=fun _=>rfl
 simp only[ug,eL,gE,A1,nX,hv,bo];simp only[zaQ,zaE,lt_eq,lj,mZ];simp(disch:=omega) only[TRa,TRi,aa,za0]
theorem MR:ER 83 (mkE N83.en N83.ex f83):=aq ah T74.right (fun m=>[]) (t:=t83) (by kernel_rfl) (fun m=>aA) (fun m a=>by kernel_rfl) fun(a0,a1,a2) hc=>Qf a0 a1 a2 hc
def T83:Tb Tryz.prog LQ TE XX:=T74.add 83 _ MR
def TB:aE:=⟨T83.tab,118,⟨[.np 0 7 0,.int .i64],[.ab (sI 7)],0⟩,⟨[.int .i64],[.ab (sI 7)],0⟩,[]⟩
def t118 (m:Nat):Int × Int × List Dat->Option (List Un):=fun(a0,a1,a2)=>
 chk (decide (0<=a0))<|
 chk (decide (a0.toNat<a2.length))<|
 lt (af a2 a0.toNat:Dat) fun d1=>
 lt ((w64 (w64 ((d1.i 1)-w64 ((d1.i 3)-(d1.i 4)))-(d1.i 6))):Int) fun x2=>
 lt ((if x2<a1 then x2 else a1):Int) fun x3=>
 lt ((if x3<0 then 0 else x3):Int) fun x4=>
 chk (decide (0<=a0))<|
 chk (decide (a0.toNat<a2.length))<|
 chk (decide (0<=a0))<|
 chk (decide (a0.toNat<a2.length))<|
 lt (af a2 a0.toNat:Dat) fun d6=>
 some ([.i x4,.d (List.set a2 a0.toNat (.r [.n (d6.i 0),.n (d6.i 1),.n (d6.i 2),.n (d6.i 3),.n (d6.i 4),.n (d6.i 5),.n (w64 (((af a2 a0.toNat).i 6)+x4))]))])
def f118:Int × Int × List Dat->Bool × List Un:=fun(a0,a1,a2)=>(decide (0<=a0/\a0.toNat<a2.length)&&aU (af a2 a0.toNat),[.i (oy a1 (af a2 a0.toNat)),.d (a2.set a0.toNat (eL a1 (af a2 a0.toNat)))])
theorem NJ (a0:Int) (a1:Int) (a2:List Dat) (hc:(decide (0<=a0/\a0.toNat<a2.length)&&aU (af a2 a0.toNat))=true):∃m,t118 m (a0,a1,a2)=some ([.i (oy a1 (af a2 a0.toNat)),.d (a2.set a0.toNat (eL a1 (af a2 a0.toNat)))]):=by
 simp only[zab,zag,aU]at hc;obtain⟨⟨h1,h2⟩,h⟩:=hc;refine⟨0, ?_⟩;unfold t118;dsimp only;simp only[lt_eq];generalize af a2 a0.toNat=d at*
 have hv:∀c,oy c d=max (min c (bo d)) 0:=fun _=>rfl
 simp only[ug,eL,gE,A1,nX,hv,bo];simp only[zaQ,zaE,lt_eq,lj,mZ];simp(disch:=omega) only[TRa,TRi,aa,za0]
theorem J3:ER 118 (mkE TB.en TB.ex f118):=aq ah T83.right (fun m=>[]) (t:=t118) (by kernel_rfl) (fun m=>aA) (fun m a=>by kernel_rfl) fun(a0,a1,a2) hc=>NJ a0 a1 a2 hc
def Qq:Tb Tryz.prog LQ TE XX:=T83.add 118 _ J3
def Ue:aE:=⟨Qq.tab,120,⟨[.np 0 7 0,.int .i64],[.ab (sI 7)],0⟩,⟨[.int .i64],[.ab (sI 7)],0⟩,[]⟩
def t120 (m:Nat):Int × Int × List Dat->Option (List Un):=fun(a0,a1,a2)=>
 chk (decide (0<=a0))<|
 chk (decide (a0.toNat<a2.length))<|
 lt (af a2 a0.toNat:Dat) fun d1=>
 lt ((if (d1.i 6)<a1 then(d1.i 6)else a1):Int) fun x2=>
 lt ((if x2<0 then 0 else x2):Int) fun x3=>
 chk (decide (0<=a0))<|
 chk (decide (a0.toNat<a2.length))<|
 chk (decide (0<=a0))<|
 chk (decide (a0.toNat<a2.length))<|
 lt (af a2 a0.toNat:Dat) fun d5=>
 some ([.i x3,.d (List.set a2 a0.toNat (.r [.n (d5.i 0),.n (d5.i 1),.n (d5.i 2),.n (d5.i 3),.n (d5.i 4),.n (d5.i 5),.n (w64 (((af a2 a0.toNat).i 6)-x3))]))])
def f120:Int × Int × List Dat->Bool × List Un:=fun(a0,a1,a2)=>(decide (0<=a0/\a0.toNat<a2.length)&&aU (af a2 a0.toNat),[.i (nX a1 (af a2 a0.toNat)),.d (a2.set a0.toNat (gE a1 (af a2 a0.toNat)))])
theorem O6 (a0:Int) (a1:Int) (a2:List Dat) (hc:(decide (0<=a0/\a0.toNat<a2.length)&&aU (af a2 a0.toNat))=true):∃m,t120 m (a0,a1,a2)=some ([.i (nX a1 (af a2 a0.toNat)),.d (a2.set a0.toNat (gE a1 (af a2 a0.toNat)))]):=by
 simp only[zab,zag,aU]at hc;obtain⟨⟨h1,h2⟩,h⟩:=hc;refine⟨0, ?_⟩;unfold t120;dsimp only;simp only[lt_eq];generalize af a2 a0.toNat=d at*
 have hv:∀c,oy c d=max (min c (bo d)) 0:=fun _=>rfl
 simp only[ug,eL,gE,A1,nX,hv,bo];simp only[zaQ,zaE,lt_eq,lj,mZ];simp(disch:=omega) only[TRa,TRi,aa,za0]
theorem JI:ER 120 (mkE Ue.en Ue.ex f120):=aq ah Qq.right (fun m=>[]) (t:=t120) (by kernel_rfl) (fun m=>aA) (fun m a=>by kernel_rfl) fun(a0,a1,a2) hc=>O6 a0 a1 a2 hc
def Sf:Tb Tryz.prog LQ TE XX:=Qq.add 120 _ JI
def N75:aE:=⟨Sf.tab,75,⟨[.np 0 7 0,.int .i64],[.ab (sI 7)],0⟩,⟨[.bool],[.ab (sI 7)],0⟩,[]⟩
def t75 (m:Nat):Int × Int × List Dat->Option (List Un):=fun(a0,a1,a2)=>
 chk (decide (0<=a0))<|
 chk (decide (a0.toNat<a2.length))<|
 lt (af a2 a0.toNat:Dat) fun d1=>
 lt ((([(d1.i 5),a1]).getD 0 0):Int) fun x2=>
 bif decide (x2<0)then
 some ([.b false,.d a2])
 else
 bif (decide (x2>1152921504606846976))then
 some ([.b false,.d a2])
 else
 lt ((([(d1.i 5),a1]).getD 1 0):Int) fun x4=>
 bif decide (x4<0)then
 some ([.b false,.d a2])
 else
 bif decide (x4>(w64 (1152921504606846976-(w64 (0+x2)))))then
 some ([.b false,.d a2])
 else
 chk (decide (0<=a0))<|
 chk (decide (a0.toNat<a2.length))<|
 lt (af a2 a0.toNat:Dat) fun d7=>
 some ([.b true,.d (List.set a2 a0.toNat (.r [.n (d7.i 0),.n (d7.i 1),.n (d7.i 2),.n (d7.i 3),.n (d7.i 4),.n (w64 ((w64 (0+x2))+x4)),.n (d7.i 6)]))])
def f75:Int × Int × List Dat->Bool × List Un:=fun(a0,a1,a2)=>(decide (0<=a1/\a1<=1125899906842624)&&(decide (0<=a0/\a0.toNat<a2.length)&&aU (af a2 a0.toNat)),[.b (true),.d (a2.set a0.toNat (A1 a1 (af a2 a0.toNat)))])
theorem R9 (a0:Int) (a1:Int) (a2:List Dat) (hc:(decide (0<=a1/\a1<=1125899906842624)&&(decide (0<=a0/\a0.toNat<a2.length)&&aU (af a2 a0.toNat)))=true):∃m,t75 m (a0,a1,a2)=some ([.b (true),.d (a2.set a0.toNat (A1 a1 (af a2 a0.toNat)))]):=by
 simp only[zab,zag,aU]at hc;obtain⟨h0,⟨h1,h2⟩,h⟩:=hc;refine⟨0, ?_⟩;unfold t75;dsimp only;simp only[lt_eq];generalize af a2 a0.toNat=d at*
 have hv:∀c,oy c d=max (min c (bo d)) 0:=fun _=>rfl
 simp only[ug,eL,gE,A1,nX,hv,bo];simp only[zaQ,zaE,lt_eq,lj,mZ];simp(disch:=omega) only[TRa,TRi,aa,za0]
theorem MC:ER 75 (mkE N75.en N75.ex f75):=aq ah Sf.right (fun m=>[]) (t:=t75) (by kernel_rfl) (fun m=>aA) (fun m a=>by kernel_rfl) fun(a0,a1,a2) hc=>R9 a0 a1 a2 hc
def T75:Tb Tryz.prog LQ TE XX:=Sf.add 75 _ MC
def bM (f:Dat->Int):List Dat->Int
 |[]=>0
 |d::l=>f d+bM f l
theorem cz {d:Dat} (h:aU d=true):0<=d.i 1/\d.i 1<=1099511627776/\0<=d.i 3/\d.i 4=0/\0<=d.i 6/\d.i 3+d.i 6<=d.i 1/\0<=d.i 5/\d.i 5<=1125899906842624:=zaj h
def N76:aE:=⟨T75.tab,76,⟨[.ab (sI 7)],[],0⟩,⟨[.int .i64,.int .i64,.int .i64],[],0⟩,[]⟩
abbrev Hy:Type:=Int × Int × Int × List Dat × Int × Int
def A8 (m:Nat) (k:Hy->Option (List Un)):Hy->Option (List Un):=fun(a0,a1,a2,a3,a4,a5)=>
 bif decide (a5<a4)then
 chk (inb a5 a3.length)<|
 chk (decide (a5.toNat<a3.length))<|
 lt (af a3 a5.toNat:Dat) fun d1=>
 k ((w64 (a0+(w64 (w64 ((d1.i 1)-w64 ((d1.i 3)-(d1.i 4)))-(d1.i 6))))),(w64 (a1+(d1.i 5))),(w64 (a2+(d1.i 6))),a3,a4,(w64 (a5+1)))
 else
 some ([.i a0,.i a1,.i a2])
def y3 (m:Nat):Nat->Hy->Option (List Un):=bg (A8 m)
theorem vb (m:Nat) (n:Nat):y3 m (n+1)=A8 m (y3 m n):=rfl
def Lz (F:Hy->Option (List Un)):aQ:=⟨[.lp [0,1,0,1],.blk 0,.code [1,1]],⟨frm 29 [(2,.int .i64),(3,.int .i64),(4,.int .i64),(7,.ab (sI 7)),(8,.int .i64),(9,.int .i64)],[],0⟩,onU F⟩
theorem Vy (m:Nat):∀n,HO N76 (Lz (y3 m n)):=ar ah T75.right (fun k=>[Lz k]) (fun k h=>(aH h aA)) fun k a=>by kernel_rfl
def t76 (m:Nat):List Dat->Option (List Un):=fun a0=>
 y3 m m (0,0,0,a0,(a0.length:Int),0)
theorem KE (m:Nat):∀(rest pre:List Dat) (n:Nat) (b s t:Int),rest.length<n->(pre++rest).length<=1000->(∀d∈rest,aU d=true)->0<=b->b<=1099511627776*pre.length->0<=s->s<=1125899906842624*pre.length->0<=t->t<=1099511627776*pre.length->
 y3 m n (b,s,t,pre++rest,((pre++rest).length:Int),(pre.length:Int))=some [.i (b+bM bo rest),.i (s+an 5 rest),.i (t+an 6 rest)]:=by
 intro rest
 induction rest with
 |nil=>
  intro pre n b s t hn hl hg b0 b1 s0 s1 t0 t1;obtain⟨n,rfl⟩:=ai n (by simp at hn;omega);rw[vb];unfold A8;dsimp only;simp[az,bM,an]
 |cons x rest ih=>
  intro pre n b s t hn hl hg b0 b1 s0 s1 t0 t1;obtain⟨n,rfl⟩:=ai n (by simp at hn;omega);simp only[zac,zad]at hn hl;have hx:=cz (hg x (by simp));rw[vb];unfold A8;dsimp only;have:=ih (pre++[x]) n (b+bo x) (s+x.i 5) (t+x.i 6) (by omega) (by simp;omega) (fun d hd=>hg d (by simp[hd])) (by unfold bo;omega) (by simp[bo];omega) (by omega) (by simp;omega) (by omega) (by simp;omega);simp only[bM,an,bo]at this⊢;simp(disch:=omega) only[TRa,TRi,aa,LNl,LNi,zaa,au];simp only[LNl,LNi,zaa]at this⊢;exact this
def f76:List Dat->Bool × List Un:=fun a0=>(decide (a0.length<=1000)&&a0.all aU,[.i (bM bo a0),.i (an 5 a0),.i (an 6 a0)])
theorem Rd (a0:List Dat) (hc:(decide (a0.length<=1000)&&a0.all aU)=true):∃m,t76 m a0=some ([.i (bM bo a0),.i (an 5 a0),.i (an 6 a0)]):=by
 simp only[zab,zag,zal]at hc;refine⟨a0.length+1, ?_⟩;exact(KE (a0.length+1) a0 [] (a0.length+1) 0 0 0 (by omega) (by simpa using hc.1) hc.2 (by omega) (by simp) (by omega) (by simp) (by omega) (by simp)).trans (by simp only[za0])
theorem MF:ER 76 (mkE N76.en N76.ex f76):=aq ah T75.right (fun m=>[Lz (y3 m m)]) (t:=t76) (by kernel_rfl) (fun m=>(aH (Vy m m) aA)) (fun m a=>by kernel_rfl) fun a0 hc=>Rd a0 hc
def T76:Tb Tryz.prog LQ TE XX:=T75.add 76 _ MF
def unD (d:Dat):Int:=d.i 1-(d.i 3-d.i 4)
def N35:aE:=⟨T76.tab,35,⟨[.np 0 0 0],cL 0,9⟩,⟨[.int .i64,.int .i64,.int .i64,.int .i64],cL 0,9⟩,[]⟩
abbrev Gz:Type:=Int × Int × Int × Int × Int × Int × aw × ax × ao × List Dat × List Dat × List Dat × List Dat × List Dat × List Dat × List Dat
def BO (m:Nat) (k:Gz->Option (List Un)):Gz->Option (List Un):=fun(a0,a1,a2,a3,a4,a5,a6,a7,a8,a9,a10,a11,a12,a13,a14,a15)=>
 bif decide (a5<a4)then
 chk (inb a5 a15.length)<|
 chk (decide (a5.toNat<a15.length))<|
 lt (af a15 a5.toNat:Dat) fun d1=>
 k (a0,a1,a2,(w64 (a3+(w64 ((d1.i 1)-(w64 ((d1.i 3)-(d1.i 4))))))),a4,(w64 (a5+1)),a6,a7,a8,a9,a10,a11,a12,a13,a14,a15)
 else
 some ([.i a0,.i a1,.i a2,.i a3]++Uns.enc (a6:aw)++Uns.enc (a7:ax)++Uns.enc (a8:ao)++[.d a9,.d a10,.d a11,.d a12,.d a13,.d a14,.d a15])
def zw (m:Nat):Nat->Gz->Option (List Un):=bg (BO m)
theorem xA (m:Nat) (n:Nat):zw m (n+1)=BO m (zw m n):=rfl
def JF (F:Gz->Option (List Un)):aQ:=⟨[.lp [0,1,0,1,1],.blk 0,.code [1,1,1]],⟨frm 40 [(2,.int .i64),(3,.int .i64),(4,.int .i64),(5,.int .i64),(20,.buf 8 7),(21,.int .i64),(22,.int .i64)],cL 0,9⟩,onU F⟩
theorem Vj (m:Nat):∀n,HO N35 (JF (zw m n)):=ar ah T76.right (fun k=>[JF k]) (fun k h=>(aH h aA)) fun k a=>by kernel_rfl
def t35 (m:Nat):Int × aw × ax × ao × List Dat × List Dat × List Dat × List Dat × List Dat × List Dat × List Dat->Option (List Un):=fun(a0,a1,a2,a3,a4,a5,a6,a7,a8,a9,a10)=>
 chk (decide (0<=a0))<|
 chk (decide (a10.length<=1000)&&a10.all aU)<|
 chk (decide (0<=a0))<|
 zw m m ((bM bo a10),(an 5 a10),(an 6 a10),0,(a10.length:Int),0,a1,a2,a3,a4,a5,a6,a7,a8,a9,a10)
theorem Jk (m:Nat) (b s t:Int) (xa:aw) (xb:ax) (xn:ao) (x1 x2 x3 x4 x5 x6:List Dat):∀(rest pre:List Dat) (n:Nat) (u:Int),rest.length<n->(pre++rest).length<=1000->(∀d∈rest,aU d=true)->0<=u->u<=1099511627776*pre.length->
 zw m n (b,s,t,u,((pre++rest).length:Int),(pre.length:Int),xa,xb,xn,x1,x2,x3,x4,x5,x6,pre++rest)=some ([.i b,.i s,.i t,.i (u+bM unD rest)]++Uns.enc xa++Uns.enc xb++Uns.enc xn++[.d x1,.d x2,.d x3,.d x4,.d x5,.d x6,.d (pre++rest)]):=by
 intro rest
 induction rest with
 |nil=>
  intro pre n u hn hl hg u0 u1;obtain⟨n,rfl⟩:=ai n (by simp at hn;omega);rw[xA];unfold BO;dsimp only;simp[az,bM]
 |cons x rest ih=>
  intro pre n u hn hl hg u0 u1;obtain⟨n,rfl⟩:=ai n (by simp at hn;omega);simp only[zac,zad]at hn hl;have hx:=cz (hg x (by simp));rw[xA];unfold BO;dsimp only;have:=ih (pre++[x]) n (u+unD x) (by omega) (by simp;omega) (fun d hd=>hg d (by simp[hd])) (by unfold unD;omega) (by simp[unD];omega);simp only[bM,unD]at this⊢;simp(disch:=omega) only[TRa,TRi,aa,LNl,LNi,zaa,au];simp only[LNl,LNi,zaa]at this⊢;exact this
def f35:Int × aw × ax × ao × List Dat × List Dat × List Dat × List Dat × List Dat × List Dat × List Dat->Bool × List Un:=fun(a0,a1,a2,a3,a4,a5,a6,a7,a8,a9,a10)=>(decide (0<=a0)&&(decide (a10.length<=1000)&&a10.all aU),[.i (bM bo a10),.i (an 5 a10),.i (an 6 a10),.i (bM unD a10)]++Uns.enc ((a1):aw)++Uns.enc ((a2):ax)++Uns.enc ((a3):ao)++[.d (a4),.d (a5),.d (a6),.d (a7),.d (a8),.d (a9),.d (a10)])
theorem Ry (a0:Int) (a1:aw) (a2:ax) (a3:ao) (a4:List Dat) (a5:List Dat) (a6:List Dat) (a7:List Dat) (a8:List Dat) (a9:List Dat) (a10:List Dat) (hc:(decide (0<=a0)&&(decide (a10.length<=1000)&&a10.all aU))=true):∃m,t35 m (a0,a1,a2,a3,a4,a5,a6,a7,a8,a9,a10)=some ([.i (bM bo a10),.i (an 5 a10),.i (an 6 a10),.i (bM unD a10)]++Uns.enc ((a1):aw)++Uns.enc ((a2):ax)++Uns.enc ((a3):ao)++[.d (a4),.d (a5),.d (a6),.d (a7),.d (a8),.d (a9),.d (a10)]):=by
 have hc':=hc;simp only[zab,zag,zal]at hc';refine⟨a10.length+1, ?_⟩;unfold t35;dsimp only;rw[(zar.1 hc).2,jJ];simp(disch:=omega) only[aI];exact(Jk (a10.length+1) _ _ _ _ _ _ _ _ _ _ _ _ a10 [] (a10.length+1) 0 (by omega) (by simpa using hc'.2.1) hc'.2.2 (by omega) (by simp)).trans (by simp only[za0,zaC])
theorem PI:ER 35 (mkE N35.en N35.ex f35):=aq ah T76.right (fun m=>[JF (zw m m)]) (t:=t35) (by kernel_rfl) (fun m=>(aH (Vj m m) aA)) (fun m a=>by kernel_rfl) fun(a0,a1,a2,a3,a4,a5,a6,a7,a8,a9,a10) hc=>Ry a0 a1 a2 a3 a4 a5 a6 a7 a8 a9 a10 hc
def T35:Tb Tryz.prog LQ TE XX:=T76.add 35 _ PI
theorem Ih {d:Dat} (c:Int) (h:aU d=true):aU (ug c d)=true:=by
 have:=cz h;refine zae ?_
 simp only[ug,oy,bo,fa,fY,xe,pO,qc];omega
theorem CK {d:Dat} (c:Int) (h:aU d=true):aU (eL c d)=true:=by
 have:=cz h;refine zae ?_
 simp only[eL,oy,bo,fa,fY,xe,pO,qc];omega
theorem E4 {d:Dat} (c:Int) (h:aU d=true):aU (gE c d)=true:=by
 have:=cz h;refine zae ?_
 simp only[gE,nX,fa,fY,xe,pO,qc];omega
theorem jg:∀l:List Dat,(∀d∈l,aU d=true)->(0<=bM bo l/\bM bo l<=1099511627776*l.length)/\(0<=an 5 l/\an 5 l<=1125899906842624*l.length)/\(0<=an 6 l/\an 6 l<=1099511627776*l.length)/\(0<=bM unD l/\bM unD l<=1099511627776*l.length)/\bM unD l=bM bo l+an 6 l
 |[],_=>by simp[bM,an]
 |d::l,h=>by
  have h1:=cz (h d (by simp));have h2:=jg l fun x hx=>h x (by simp[hx])
  simp only[bM,an,zac,zaD,bo,unD]at h2⊢;omega
theorem CS (f:Dat->Int) (y:Dat):∀(l:List Dat) (j:Nat),j<l.length->bM f (l.set j y)=bM f l-f (af l j)+f y
 |[],j,h=>by simp at h
 |d::l,0,h=>by simp only[List.set_cons_zero,bM,af,zaQ];omega
 |d::l,j+1,h=>by
  have:=CS f y l j (by simpa using h);simp only[af]at this;simp only[zbX,bM,af,zaE,this];omega
theorem Gq {p:Dat->Prop} {l:List Dat} {j:Nat} {y:Dat} (h:∀d∈l,p d) (hy:p y):∀d∈l.set j y,p d:=fun d hd=>by
 rcases zbL hd with h1|rfl
 . exact h d h1
 . exact hy
theorem qZ {l:List Dat} {j:Nat} (h:j<l.length):af l j∈l:=by rw[gg h];exact zbn h
def N86:aE:=⟨T35.tab,86,⟨[.agg [.bool,.bool,.bool,.bool]],[],0⟩,⟨[.bool],[],0⟩,[]⟩
def t86 (m:Nat):Bool × Bool × Bool × Bool->Option (List Un):=fun(a0,a1,a2,a3)=>
 bif !a0 then
 some ([.b true])
 else
 bif !a2 then
 some ([.b true])
 else
 some ([.b !a3])
def f86:Bool × Bool × Bool × Bool->Bool × List Un:=fun(a0,a1,a2,a3)=>(true,[.b (!a0||(!a2|| !a3))])
theorem SF (a0:Bool) (a1:Bool) (a2:Bool) (a3:Bool):∃m,t86 m (a0,a1,a2,a3)=some ([.b (!a0||(!a2|| !a3))]):=by
 refine⟨0, ?_⟩;unfold t86;cases a0<;>cases a2<;>cases a3<;>rfl
theorem MY:ER 86 (mkE N86.en N86.ex f86):=aq ah T35.right (fun m=>[]) (t:=t86) (by kernel_rfl) (fun m=>aA) (fun m a=>by kernel_rfl) fun(a0,a1,a2,a3) hc=>SF a0 a1 a2 a3
def T86:Tb Tryz.prog LQ TE XX:=T35.add 86 _ MY
def du (mode bm eY:Int) (oc ic late l7:Bool):Int × Int:=
 if mode=2\/ic=false then(2,0)
 else if oc=false\/late=false\/l7=false then(1,0)
 else if mode≠1\/eY<=bm\/bm+1=eY then(0,0)
 else(1,bm+1)
def N43:aE:=⟨T86.tab,43,⟨[.agg [.int .i64,.int .i64],.int .i64,.agg [.bool,.bool,.bool,.bool]],[],0⟩,⟨[.agg [.int .i64,.int .i64]],[],0⟩,[]⟩
def t43 (m:Nat):Int × Int × Int × Bool × Bool × Bool × Bool->Option (List Un):=fun(a0,a1,a2,a3,a4,a5,a6)=>
 bif a0==2 then
 some ([.i 2,.i 0])
 else
 bif !a4 then
 some ([.i 2,.i 0])
 else
 bif (!a3||(!a5|| !a6))then
 some ([.i 1,.i 0])
 else
 bif a0 !=1 then
 some ([.i 0,.i 0])
 else
 bif decide (a1>=a2)then
 some ([.i 0,.i 0])
 else
 bif (w64 (a1+1))==a2 then
 some ([.i 0,.i 0])
 else
 some ([.i 1,.i (w64 (a1+1))])
def f43:Int × Int × Int × Bool × Bool × Bool × Bool->Bool × List Un:=fun(a0,a1,a2,a3,a4,a5,a6)=>(decide (0<=a1/\a1<=1000000),[.i ((du a0 a1 a2 a3 a4 a5 a6).1),.i ((du a0 a1 a2 a3 a4 a5 a6).2)])
theorem S0 (a0:Int) (a1:Int) (a2:Int) (a3:Bool) (a4:Bool) (a5:Bool) (a6:Bool) (hc:(decide (0<=a1/\a1<=1000000))=true):∃m,t43 m (a0,a1,a2,a3,a4,a5,a6)=some ([.i ((du a0 a1 a2 a3 a4 a5 a6).1),.i ((du a0 a1 a2 a3 a4 a5 a6).2)]):=by
 have h:=zaj hc;refine⟨0, ?_⟩;unfold t43 du
 by_cases h1:a0=2
 . simp(disch:=omega) only[TRa,TRi,aa];simp[h1]
 . cases a4
   . simp(disch:=omega) only[TRa,TRi,aa];simp
   . cases a3<;>cases a5<;>cases a6<;>simp[h1,dR]<;>by_cases h2:a0=1<;>by_cases h3:a2<=a1<;>by_cases h4:a1+1=a2<;>simp(disch:=omega) only[TRa,TRi,aa]<;>simp[h2,h3,h4]
theorem No:ER 43 (mkE N43.en N43.ex f43):=aq ah T86.right (fun m=>[]) (t:=t43) (by kernel_rfl) (fun m=>aA) (fun m a=>by kernel_rfl) fun(a0,a1,a2,a3,a4,a5,a6) hc=>S0 a0 a1 a2 a3 a4 a5 a6 hc
def T43:Tb Tryz.prog LQ TE XX:=T86.add 43 _ No
def dQ (n:Int):Int:=if n<1 then 0 else if n<3 then 1 else if n<6 then 2 else 3
def US:aE:=⟨T43.tab,122,⟨[.int .i64],[],0⟩,⟨[.int .i64],[],0⟩,[]⟩
def t122 (m:Nat):Int->Option (List Un):=fun a0=>
 bif decide (a0<1)then
 some ([.i 0])
 else
 bif decide (a0<3)then
 some ([.i 1])
 else
 bif decide (a0<6)then
 some ([.i 2])
 else
 some ([.i 3])
def f122:Int->Bool × List Un:=fun a0=>(true,[.i (dQ a0)])
theorem Px (a0:Int):∃m,t122 m a0=some ([.i (dQ a0)]):=by
 refine⟨0, ?_⟩;unfold t122 dQ
 by_cases h1:a0<1<;>by_cases h2:a0<3<;>by_cases h3:a0<6<;>simp[h1,h2,h3]
theorem Mi:ER 122 (mkE US.en US.ex f122):=aq ah T43.right (fun m=>[]) (t:=t122) (by kernel_rfl) (fun m=>aA) (fun m a=>by kernel_rfl) fun a0 hc=>Px a0
def PC:Tb Tryz.prog LQ TE XX:=T43.add 122 _ Mi
def dH (d:Dat):Bool:=decide (0<=d.i 1/\d.i 1<=1099511627776)
def cJ (j:Int) (l:List Dat):Int:=bM (fun d=>if dQ (d.i 3)=j then d.i 1 else 0) l
theorem Ig (n:Int):dQ n=0\/dQ n=1\/dQ n=2\/dQ n=3:=by
 unfold dQ
 split
 . exact .inl rfl
 . split
   . exact .inr (.inl rfl)
   . split
     . exact .inr (.inr (.inl rfl))
     . exact .inr (.inr (.inr rfl))
theorem qu {d:Dat} (h:dH d=true):0<=d.i 1/\d.i 1<=1099511627776:=zaj h
def N90:aE:=⟨PC.tab,90,⟨[.ab (sB 4)],[],0⟩,⟨[.agg [.int .i64,.int .i64,.int .i64,.int .i64]],[],0⟩,[]⟩
abbrev GQ:Type:=List Dat × Int × Int × Int × Int × Int × Int × Int × Int × Int × Int
def BR (m:Nat) (k:GQ->Option (List Un)):GQ->Option (List Un):=fun(a0,a1,a2,a3,a4,a5,a6,a7,a8,a9,a10)=>
 bif decide (a2<a1)then
 chk (inb a2 a0.length)<|
 chk (decide (a2.toNat<a0.length))<|
 lt (af a0 a2.toNat:Dat) fun d1=>
 chk (inb (dQ (d1.i 3)) 4)<|
 chk (decide ((dQ (d1.i 3)).toNat<4))<|
 lt ((List.getD [a7,a8,a9,a10] ((dQ (d1.i 3)).toNat) 0):Int) fun x2=>
 chk (inb (dQ (d1.i 3)) 4)<|
 chk (decide ((dQ (d1.i 3)).toNat<4))<|
 k (a0,a1,(w64 (a2+1)),a3,a4,a5,a6,(bif decide ((dQ (d1.i 3)).toNat=0)then(w64 (x2+(d1.i 1)))else a7),(bif decide ((dQ (d1.i 3)).toNat=1)then(w64 (x2+(d1.i 1)))else a8),(bif decide ((dQ (d1.i 3)).toNat=2)then(w64 (x2+(d1.i 1)))else a9),(bif decide ((dQ (d1.i 3)).toNat=3)then(w64 (x2+(d1.i 1)))else a10))
 else
 some ([.i a7,.i a8,.i a9,.i a10])
def zz (m:Nat):Nat->GQ->Option (List Un):=bg (BR m)
theorem xI (m:Nat) (n:Nat):zz m (n+1)=BR m (zz m n):=rfl
def LG (F:GQ->Option (List Un)):aQ:=⟨[.lp [0,1,0,1,1],.blk 0,.code [1,1,1]],⟨frm 24 [(2,.ptr 0 0 0),(3,.ptr 1 0 0),(6,.ab (sB 4)),(7,.int .i64),(8,.int .i64)],[.cells [.int .i64,.int .i64,.int .i64,.int .i64],.cells [.int .i64,.int .i64,.int .i64,.int .i64]],0⟩,onU F⟩
theorem Tz (m:Nat):∀n,HO N90 (LG (zz m n)):=ar ah PC.right (fun k=>[LG k]) (fun k h=>(aH h aA)) fun k a=>by kernel_rfl
def t90 (m:Nat):List Dat->Option (List Un):=fun a0=>
 zz m m (a0,(a0.length:Int),0,0,0,0,0,0,0,0,0)
set_option maxHeartbeats 2000000 in
theorem On (m:Nat) (z0 z1 z2 z3:Int):∀(rest pre:List Dat) (n:Nat) (b0 b1 b2 b3:Int),rest.length<n->(pre++rest).length<=1000->(∀d∈rest,dH d=true)->(0<=b0/\b0<=1099511627776*pre.length)->(0<=b1/\b1<=1099511627776*pre.length)->(0<=b2/\b2<=1099511627776*pre.length)->(0<=b3/\b3<=1099511627776*pre.length)->
 zz m n (pre++rest,((pre++rest).length:Int),(pre.length:Int),z0,z1,z2,z3,b0,b1,b2,b3)=some [.i (b0+cJ 0 rest),.i (b1+cJ 1 rest),.i (b2+cJ 2 rest),.i (b3+cJ 3 rest)]:=by
 intro rest
 induction rest with
 |nil=>
  intro pre n b0 b1 b2 b3 hn hl hg h0 h1 h2 h3;obtain⟨n,rfl⟩:=ai n (by simp at hn;omega);rw[xI];unfold BR;dsimp only;simp[az,bM,cJ]
 |cons x rest ih=>
  intro pre n b0 b1 b2 b3 hn hl hg h0 h1 h2 h3;obtain⟨n,rfl⟩:=ai n (by simp at hn;omega);simp only[zac,zad]at hn hl;have hx:=qu (hg x (by simp));have ih':=fun b0 b1 b2 b3=>ih (pre++[x]) n b0 b1 b2 b3 (by omega) (by simp;omega) (fun d hd=>hg d (by simp[hd]))
  rw[xI];unfold BR;dsimp only;simp only[cJ,bM]at ih'⊢;rcases Ig (x.i 3)with hb|hb|hb|hb
  . have:=ih' (b0+x.i 1) b1 b2 b3 (by simp;omega) (by simp;omega) (by simp;omega) (by simp;omega);simp(disch:=omega) only[TRa,TRi,aa,LNl,LNi,zaa,au,hb,Int.reduceToNat,zaQ,zaE,zbc,Int.reduceEq,zbh];simp only[Nat.reduceEqDiff,zaZ,zaW,zau,zao,reduceCtorEq,Nat.zero_ne_one,Nat.one_ne_zero,zbc,zbh,Int.reduceEq,za0];simp only[LNl,LNi,zaa]at this⊢;exact this
  . have:=ih' b0 (b1+x.i 1) b2 b3 (by simp;omega) (by simp;omega) (by simp;omega) (by simp;omega);simp(disch:=omega) only[TRa,TRi,aa,LNl,LNi,zaa,au,hb,Int.reduceToNat,zaQ,zaE,zbc,Int.reduceEq,zbh];simp only[Nat.reduceEqDiff,zaZ,zaW,zau,zao,reduceCtorEq,Nat.zero_ne_one,Nat.one_ne_zero,zbc,zbh,Int.reduceEq,za0];simp only[LNl,LNi,zaa]at this⊢;exact this
  . have:=ih' b0 b1 (b2+x.i 1) b3 (by simp;omega) (by simp;omega) (by simp;omega) (by simp;omega);simp(disch:=omega) only[TRa,TRi,aa,LNl,LNi,zaa,au,hb,Int.reduceToNat,zaQ,zaE,zbc,Int.reduceEq,zbh];simp only[Nat.reduceEqDiff,zaZ,zaW,zau,zao,reduceCtorEq,Nat.zero_ne_one,Nat.one_ne_zero,zbc,zbh,Int.reduceEq,za0];simp only[LNl,LNi,zaa]at this⊢;exact this
  . have:=ih' b0 b1 b2 (b3+x.i 1) (by simp;omega) (by simp;omega) (by simp;omega) (by simp;omega);simp(disch:=omega) only[TRa,TRi,aa,LNl,LNi,zaa,au,hb,Int.reduceToNat,zaQ,zaE,zbc,Int.reduceEq,zbh];simp only[Nat.reduceEqDiff,zaZ,zaW,zau,zao,reduceCtorEq,Nat.zero_ne_one,Nat.one_ne_zero,zbc,zbh,Int.reduceEq,za0];simp only[LNl,LNi,zaa]at this⊢;exact this
def f90:List Dat->Bool × List Un:=fun a0=>(decide (a0.length<=1000)&&a0.all dH,[.i (cJ 0 a0),.i (cJ 1 a0),.i (cJ 2 a0),.i (cJ 3 a0)])
theorem QY (a0:List Dat) (hc:(decide (a0.length<=1000)&&a0.all dH)=true):∃m,t90 m a0=some ([.i (cJ 0 a0),.i (cJ 1 a0),.i (cJ 2 a0),.i (cJ 3 a0)]):=by
 simp only[zab,zag,zal]at hc;refine⟨a0.length+1, ?_⟩;exact(On (a0.length+1) _ _ _ _ a0 [] (a0.length+1) 0 0 0 0 (by omega) (by simpa using hc.1) hc.2 (by simp) (by simp) (by simp) (by simp)).trans (by simp only[za0])
theorem ML:ER 90 (mkE N90.en N90.ex f90):=aq ah PC.right (fun m=>[LG (zz m m)]) (t:=t90) (by kernel_rfl) (fun m=>(aH (Tz m m) aA)) (fun m a=>by kernel_rfl) fun a0 hc=>QY a0 hc
def T90:Tb Tryz.prog LQ TE XX:=PC.add 90 _ ML
def Eg (a b c d k:Int):Int:=(if k<=0 then a else 0)+(if k<=1 then b else 0)+(if k<=2 then c else 0)+(if k<=3 then d else 0)
def N91:aE:=⟨T90.tab,91,⟨[.agg [.int .i64,.int .i64,.int .i64,.int .i64],.int .i64],[],0⟩,⟨[.int .i64],[],0⟩,[]⟩
abbrev GU:Type:=Int × Int × Int × Int × Int × Int
def pT (m:Nat) (k:GU->Option (List Un)):GU->Option (List Un):=fun(a0,a1,a2,a3,a4,a5)=>
 bif decide (a1<4)then
 chk (inb a1 4)<|
 chk (decide (a1.toNat<4))<|
 k ((w64 (a0+(List.getD [a2,a3,a4,a5] a1.toNat 0))),(w64 (a1+1)),a2,a3,a4,a5)
 else
 some ([.i a0])
def ir (m:Nat):Nat->GU->Option (List Un):=bg (pT m)
theorem kK (m:Nat) (n:Nat):ir m (n+1)=pT m (ir m n):=rfl
def Ki (F:GU->Option (List Un)):aQ:=⟨[.lp [0,1,0,1,1],.blk 0,.code [1,1,1]],⟨frm 19 [(2,.ptr 0 0 0),(5,.int .i64),(6,.int .i64)],[.cells [.int .i64,.int .i64,.int .i64,.int .i64]],0⟩,onU F⟩
theorem U6 (m:Nat):∀n,HO N91 (Ki (ir m n)):=ar ah T90.right (fun k=>[Ki k]) (fun k h=>(aH h aA)) fun k a=>by kernel_rfl
def t91 (m:Nat):Int × Int × Int × Int × Int->Option (List Un):=fun(a0,a1,a2,a3,a4)=>
 ir m m (0,(if a4<0 then 0 else a4),a0,a1,a2,a3)
def f91:Int × Int × Int × Int × Int->Bool × List Un:=fun(a0,a1,a2,a3,a4)=>(decide (0<=a0/\a0<=1152921504606846976/\0<=a1/\a1<=1152921504606846976/\0<=a2/\a2<=1152921504606846976/\0<=a3/\a3<=1152921504606846976),[.i (Eg a0 a1 a2 a3 a4)])
theorem Qy (a0:Int) (a1:Int) (a2:Int) (a3:Int) (a4:Int) (hc:(decide (0<=a0/\a0<=1152921504606846976/\0<=a1/\a1<=1152921504606846976/\0<=a2/\a2<=1152921504606846976/\0<=a3/\a3<=1152921504606846976))=true):∃m,t91 m (a0,a1,a2,a3,a4)=some ([.i (Eg a0 a1 a2 a3 a4)]):=by
 have h:=zaj hc;refine⟨6, ?_⟩;unfold t91 Eg;dsimp only;have f0:∀(n:Nat) (i s:Int),4<=i->ir 6 (n+1) (s,i,a0,a1,a2,a3)=some [.i s]:=by
  intro n i s hi;rw[kK];unfold pT;dsimp only;rw[az (by omega)]
 have f3:∀(n:Nat) (s:Int),0<=s->s<=3458764513820540928->ir 6 (n+2) (s,3,a0,a1,a2,a3)=some [.i (s+a3)]:=by
  intro n s h1 h2;rw[kK];unfold pT;dsimp only;simp(disch:=omega) only[ba,cq,aI,Int.reduceToNat,zaQ,zaE,aa,Int.reduceAdd,f0]
 have f2:∀(n:Nat) (s:Int),0<=s->s<=2305843009213693952->ir 6 (n+3) (s,2,a0,a1,a2,a3)=some [.i (s+a2+a3)]:=by
  intro n s h1 h2;rw[kK];unfold pT;dsimp only;simp(disch:=omega) only[ba,cq,aI,Int.reduceToNat,zaQ,zaE,aa,Int.reduceAdd,f3]
 have f1:∀(n:Nat) (s:Int),0<=s->s<=1152921504606846976->ir 6 (n+4) (s,1,a0,a1,a2,a3)=some [.i (s+a1+a2+a3)]:=by
  intro n s h1 h2;rw[kK];unfold pT;dsimp only;simp(disch:=omega) only[ba,cq,aI,Int.reduceToNat,zaQ,zaE,aa,Int.reduceAdd,f2]
 by_cases k0:a4<=0
 . rw[show(if a4<0 then 0 else a4)=(0:Int) by split<;>omega,show ir 6 6=ir 6 (5+1) from rfl,kK];unfold pT;dsimp only;simp(disch:=omega) only[ba,cq,aI,Int.reduceToNat,zaQ,zaE,aa,Int.reduceAdd,za0];rw[show ir 6 5=ir 6 (1+4) from rfl,f1 _ _ (by omega) (by omega),if_pos k0,if_pos (by omega),if_pos (by omega),if_pos (by omega)]
 . rw[if_neg (show ¬a4<0 by omega),if_neg k0]
   by_cases k1:a4=1
   . subst k1;rw[show ir 6 6=ir 6 (2+4) from rfl,f1 _ _ (by omega) (by omega)];simp
   . by_cases k2:a4=2
     . subst k2;rw[show ir 6 6=ir 6 (3+3) from rfl,f2 _ _ (by omega) (by omega)];simp
     . by_cases k3:a4=3
       . subst k3;rw[show ir 6 6=ir 6 (4+2) from rfl,f3 _ _ (by omega) (by omega)];simp
       . rw[f0 _ _ _ (by omega),if_neg (by omega),if_neg (by omega),if_neg (by omega)];simp
theorem Nv:ER 91 (mkE N91.en N91.ex f91):=aq ah T90.right (fun m=>[Ki (ir m m)]) (t:=t91) (by kernel_rfl) (fun m=>(aH (U6 m m) aA)) (fun m a=>by kernel_rfl) fun(a0,a1,a2,a3,a4) hc=>Qy a0 a1 a2 a3 a4 hc
def T91:Tb Tryz.prog LQ TE XX:=T90.add 91 _ Nv
theorem VS (a:List Dat):(af [.r [.r a]] 0).d 0=a:=rfl
def N32:aE:=⟨T91.tab,32,⟨[.dpt [.ab (sB 4)]],[],0⟩,⟨[.int .i64],[],0⟩,[]⟩
abbrev GG:Type:=Int × List Dat × Int × Int
def BT (m:Nat) (k:GG->Option (List Un)):GG->Option (List Un):=fun(a0,a1,a2,a3)=>
 bif decide (a3<a2)then
 chk (inb a3 a1.length)<|
 chk (decide (a3.toNat<a1.length))<|
 k ((w64 (a0+((af a1 a3.toNat).i 1))),a1,a2,(w64 (a3+1)))
 else
 some ([.i a0])
def zP (m:Nat):Nat->GG->Option (List Un):=bg (BT m)
theorem wq (m:Nat) (n:Nat):zP m (n+1)=BT m (zP m n):=rfl
def Lq (F:GG->Option (List Un)):aQ:=⟨[.lp [0,1,0,1,1],.blk 0,.code [1,1,1]],⟨frm 22 [(3,.int .i64),(9,.ab (sB 4)),(10,.int .i64),(11,.int .i64)],[],0⟩,onU F⟩
theorem UW (m:Nat):∀n,HO N32 (Lq (zP m n)):=ar ah T91.right (fun k=>[Lq k]) (fun k h=>(aH h aA)) fun k a=>by kernel_rfl
def t32 (m:Nat):List Dat->Option (List Un):=fun a0=>
 chk (decide (0<a0.length))<|
 zP m m (0,((af a0 0).d 0),(((af a0 0).d 0).length:Int),0)
theorem JK (m:Nat):∀(rest pre:List Dat) (n:Nat) (b:Int),rest.length<n->(pre++rest).length<=1000->(∀d∈rest,dH d=true)->0<=b->b<=1099511627776*pre.length->
 zP m n (b,pre++rest,((pre++rest).length:Int),(pre.length:Int))=some [.i (b+an 1 rest)]:=by
 intro rest
 induction rest with
 |nil=>
  intro pre n b hn hl hg h0 h1;obtain⟨n,rfl⟩:=ai n (by simp at hn;omega);rw[wq];unfold BT;dsimp only;simp[az,an]
 |cons x rest ih=>
  intro pre n b hn hl hg h0 h1;obtain⟨n,rfl⟩:=ai n (by simp at hn;omega);simp only[zac,zad]at hn hl;have hx:=qu (hg x (by simp));rw[wq];unfold BT;dsimp only;have:=ih (pre++[x]) n (b+x.i 1) (by omega) (by simp;omega) (fun d hd=>hg d (by simp[hd])) (by omega) (by simp;omega);simp only[an]at this⊢;simp(disch:=omega) only[TRa,TRi,aa,LNl,LNi,zaa,au];simp only[LNl,LNi,zaa]at this⊢;exact this
def f32:List Dat->Bool × List Un:=fun a0=>(decide (0<a0.length)&&(decide (((af a0 0).d 0).length<=1000)&&((af a0 0).d 0).all dH),[.i (an 1 ((af a0 0).d 0))])
theorem SY (a0:List Dat) (hc:(decide (0<a0.length)&&(decide (((af a0 0).d 0).length<=1000)&&((af a0 0).d 0).all dH))=true):∃m,t32 m a0=some ([.i (an 1 ((af a0 0).d 0))]):=by
 simp only[zab,zag,zal]at hc;refine⟨((af a0 0).d 0).length+1, ?_⟩;unfold t32;rw[aI hc.1];exact(JK _ ((af a0 0).d 0) [] (((af a0 0).d 0).length+1) 0 (by omega) (by simpa using hc.2.1) hc.2.2 (by omega) (by simp)).trans (by simp only[za0])
theorem N1:ER 32 (mkE N32.en N32.ex f32):=aq ah T91.right (fun m=>[Lq (zP m m)]) (t:=t32) (by kernel_rfl) (fun m=>(aH (UW m m) aA)) (fun m a=>by kernel_rfl) fun a0 hc=>SY a0 hc
def T32:Tb Tryz.prog LQ TE XX:=T91.add 32 _ N1
def N20:aE:=⟨T32.tab,20,⟨[.dpt [.ab (sB 4)]],[],0⟩,⟨[.buf 0 5],[.ab (sB 4)],0⟩,[]⟩
def t20 (m:Nat):List Dat->Option (List Un):=fun a0=>
 chk (decide (0<a0.length))<|
 chk (decide (((af a0 0).d 0).length<1000000))<|
 some ([.d ((af a0 0).d 0)])
def f20:List Dat->Bool × List Un:=fun a0=>(decide (0<a0.length)&&decide (((af a0 0).d 0).length<1000000),[.d ((af a0 0).d 0)])
theorem R6 (a0:List Dat) (hc:(decide (0<a0.length)&&decide (((af a0 0).d 0).length<1000000))=true):∃m,t20 m a0=some ([.d ((af a0 0).d 0)]):=by
 simp only[zab,zag]at hc;refine⟨0, ?_⟩;unfold t20;rw[aI hc.1,aI hc.2]
theorem PE:ER 20 (mkE N20.en N20.ex f20):=aq ah T32.right (fun m=>[]) (t:=t20) (by kernel_rfl) (fun m=>aA) (fun m a=>by kernel_rfl) fun a0 hc=>R6 a0 hc
def T20:Tb Tryz.prog LQ TE XX:=T32.add 20 _ PE
theorem nz (j:Int):∀(l:List Dat),(∀d∈l,dH d=true)->0<=cJ j l/\cJ j l<=1099511627776*l.length
 |[],_=>by simp[cJ,bM]
 |x::l,h=>by
  have h1:=qu (h x (by simp));have h2:=nz j l fun d hd=>h d (by simp[hd])
  simp only[cJ,bM,zac,zaD,zaa]at h2⊢
  split<;>omega
def N45:aE:=⟨T20.tab,45,⟨[.np 0 0 0,.int .i64,.int .i64],cL 0,9⟩,⟨[.agg [.int .i64,.int .i64,.int .i64,.int .i64,.int .i64,.int .i64,.int .i64]],cL 0,9⟩,[]⟩
def t45 (m:Nat):Int × Int × Int × aw × ax × ao × List Dat × List Dat × List Dat × List Dat × List Dat × List Dat × List Dat->Option (List Un):=fun(a0,a1,a2,a3,a4,a5,a6,a7,a8,a9,a10,a11,a12)=>
 chk (decide (0<=a0)&&(decide (a12.length<=1000)&&a12.all aU))<|
 chk (decide (0<=a0))<|
 chk (decide (0<([.r [.r a11]]:List Dat).length)&&(decide (((af ([.r [.r a11]]:List Dat) 0).d 0).length<=1000)&&((af ([.r [.r a11]]:List Dat) 0).d 0).all dH))<|
 chk (decide (0<=a0))<|
 chk (decide (0<=a0))<|
 chk (decide (0<([.r [.r a11]]:List Dat).length)&&decide (((af ([.r [.r a11]]:List Dat) 0).d 0).length<1000000))<|
 lt (((af ([.r [.r a11]]:List Dat) 0).d 0):List Dat) fun l5=>
 chk (decide (l5.length<=1000)&&l5.all dH)<|
 chk (decide (0<=(cJ 0 l5)/\(cJ 0 l5)<=1152921504606846976/\0<=(cJ 1 l5)/\(cJ 1 l5)<=1152921504606846976/\0<=(cJ 2 l5)/\(cJ 2 l5)<=1152921504606846976/\0<=(cJ 3 l5)/\(cJ 3 l5)<=1152921504606846976))<|
 chk (decide (0<=a0))<|
 chk (decide (0<=a0))<|
 some ([.i (an 1 ((af ([.r [.r a11]]:List Dat) 0).d 0)),.i (((cr (⟨a3,a6,a7,a4,a8,a9,a10⟩:bJ)).getD (0,0)).1),.i (bM bo a12),.i (if 1099511627776<a1 then 1099511627776 else a1),.i (if 1099511627776<a2 then 1099511627776 else a2),.i (Eg (cJ 0 l5) (cJ 1 l5) (cJ 2 l5) (cJ 3 l5) 2),.i (w64 (a5.aF-a5.aR))]++Uns.enc (a3:aw)++Uns.enc (a4:ax)++Uns.enc (a5:ao)++[.d a6,.d a7,.d a8,.d a9,.d a10,.d a11,.d a12])
def f45:Int × Int × Int × aw × ax × ao × List Dat × List Dat × List Dat × List Dat × List Dat × List Dat × List Dat->Bool × List Un:=fun(a0,a1,a2,a3,a4,a5,a6,a7,a8,a9,a10,a11,a12)=>(decide (0<=a0)&&((decide (a11.length<=1000)&&a11.all dH)&&(decide (a12.length<=1000)&&a12.all aU)),[.i (an 1 a11),.i (((cr (⟨a3,a6,a7,a4,a8,a9,a10⟩:bJ)).getD (0,0)).1),.i (bM bo a12),.i (min a1 1099511627776),.i (min a2 1099511627776),.i (cJ 2 a11+cJ 3 a11),.i (w64 (a5.aF-a5.aR))]++Uns.enc ((a3):aw)++Uns.enc ((a4):ax)++Uns.enc ((a5):ao)++[.d (a6),.d (a7),.d (a8),.d (a9),.d (a10),.d (a11),.d (a12)])
theorem Q0 (a0:Int) (a1:Int) (a2:Int) (a3:aw) (a4:ax) (a5:ao) (a6:List Dat) (a7:List Dat) (a8:List Dat) (a9:List Dat) (a10:List Dat) (a11:List Dat) (a12:List Dat) (hc:(decide (0<=a0)&&((decide (a11.length<=1000)&&a11.all dH)&&(decide (a12.length<=1000)&&a12.all aU)))=true):∃m,t45 m (a0,a1,a2,a3,a4,a5,a6,a7,a8,a9,a10,a11,a12)=some ([.i (an 1 a11),.i (((cr (⟨a3,a6,a7,a4,a8,a9,a10⟩:bJ)).getD (0,0)).1),.i (bM bo a12),.i (min a1 1099511627776),.i (min a2 1099511627776),.i (cJ 2 a11+cJ 3 a11),.i (w64 (a5.aF-a5.aR))]++Uns.enc ((a3):aw)++Uns.enc ((a4):ax)++Uns.enc ((a5):ao)++[.d (a6),.d (a7),.d (a8),.d (a9),.d (a10),.d (a11),.d (a12)]):=by
 have hc':=hc;simp only[zab,zag,zal]at hc';obtain⟨h0,⟨h1,h2⟩,h3,h4⟩:=hc';have q1:(decide (a11.length<=1000)&&a11.all dH)=true:=(zar.1 (zar.1 hc).2).1;have q2:(decide (a12.length<=1000)&&a12.all aU)=true:=(zar.1 (zar.1 hc).2).2;have l0:=nz 0 a11 h2;have l1:=nz 1 a11 h2;have l2:=nz 2 a11 h2;have l3:=nz 3 a11 h2;refine⟨0, ?_⟩;unfold t45;dsimp only[lt,VS,List.length_cons,List.length_nil];simp only[zae h0,q1,q2,zbO,jJ,show decide (0<0+1)=true from rfl,zae (show a11.length<1000000 by omega)];rw[aI (by omega)];simp only[lj,Eg,Int.reduceLE,zbc,zbh,za0,za8];exact aV (by rw[zab];exact⟨@zae _ _ h1,zal.2 h2⟩) (aV (@zae _ _ (by omega)) rfl)
theorem NQ:ER 45 (mkE N45.en N45.ex f45):=aq ah T20.right (fun m=>[]) (t:=t45) (by kernel_rfl) (fun m=>aA) (fun m a=>by kernel_rfl) fun(a0,a1,a2,a3,a4,a5,a6,a7,a8,a9,a10,a11,a12) hc=>Q0 a0 a1 a2 a3 a4 a5 a6 a7 a8 a9 a10 a11 a12 hc
def T45:Tb Tryz.prog LQ TE XX:=T20.add 45 _ NQ
theorem zJ (pre pre':List Dat) (x:Dat) (rest:List Dat) (h:pre'.length=pre.length):af (pre'++x::rest) pre.length=x:=by rw[<-h];exact au pre' x rest
def xY:Nat->Nat->Dat->Dat->Bool
 |_,0,_,_=>true
 |j,n+1,x,y=>x.i j==y.i j&&xY (j+1) n x y
def dA (n:Nat):List Dat->List Dat->Bool
 |[],[]=>true
 |x::a,y::b=>xY 0 n x y&&dA n a b
 |_,_=>false
def AT:Nat->Nat->Dat->Dat->Bool
 |j,0,x,y=>x.b j==y.b j
 |j,n+1,x,y=>x.i j==y.i j&&AT (j+1) n x y
def iC:List Int->List Int->Bool
 |[],[]=>true
 |x::a,y::b=>x==y&&iC a b
 |_,_=>false
theorem rK (n:Nat):∀(a b:List Dat),a.length≠b.length->dA n a b=false
 |[],[],h=>absurd rfl h
 |[],_::_,_=>rfl
 |_::_,[],_=>rfl
 |x::a,y::b,h=>by simp[dA,rK n a b (by simpa using h)]
theorem Al:∀(a b:List Int),a.length≠b.length->iC a b=false
 |[],[],h=>absurd rfl h
 |[],_::_,_=>rfl
 |_::_,[],_=>rfl
 |x::a,y::b,h=>by simp[iC,Al a b (by simpa using h)]
def N56:aE:=⟨T45.tab,56,⟨[.ab (sI 3),.ab (sI 3)],[],0⟩,⟨[.bool],[],0⟩,[]⟩
abbrev HG:Type:=List Dat × List Dat × Int
def AK (m:Nat) (k:HG->Option (List Un)):HG->Option (List Un):=fun(a0,a1,a2)=>
 bif (decide (a2<(a0.length:Int)))then
 chk (inb a2 a0.length)<|
 chk (decide (a2.toNat<a0.length))<|
 lt (af a0 a2.toNat:Dat) fun d3=>
 chk (inb a2 a1.length)<|
 chk (decide (a2.toNat<a1.length))<|
 lt (af a1 a2.toNat:Dat) fun d4=>
 bif (!(((d3.i 0)==(d4.i 0))&&(((d3.i 1)==(d4.i 1))&&(((d3.i 2)==(d4.i 2))&&true))))then
 some ([.b false])
 else
 k (a0,a1,(w64 (a2+1)))
 else
 some ([.b true])
def Af (m:Nat):Nat->HG->Option (List Un):=bg (AK m)
theorem we (m:Nat) (n:Nat):Af m (n+1)=AK m (Af m n):=rfl
def LC (F:HG->Option (List Un)):aQ:=⟨[.lp [0,1,0,1,1],.blk 0,.code [1,1,1]],⟨frm 26 [(0,.ab (sI 3)),(1,.ab (sI 3)),(5,.int .i64)],[],0⟩,onU F⟩
theorem Vk (m:Nat):∀n,HO N56 (LC (Af m n)):=ar ah T45.right (fun k=>[LC k]) (fun k h=>(aH h aA)) fun k a=>by kernel_rfl
def t56 (m:Nat):List Dat × List Dat->Option (List Un):=fun(a0,a1)=>
 bif ((a0.length:Int) !=(a1.length:Int))then
 some ([.b false])
 else
 Af m m (a0,a1,0)
theorem O1 (m:Nat):∀(rest rest' pre pre':List Dat) (n:Nat),rest.length<n->pre'.length=pre.length->rest'.length=rest.length->(pre++rest).length<1099511627776->
 Af m n (pre++rest,pre'++rest',(pre.length:Int))=some [.b (dA 3 rest rest')]:=by
 intro rest
 induction rest with
 |nil=>
  intro rest' pre pre' n hn hp hr hl;obtain⟨n,rfl⟩:=ai n (by simp at hn;omega);obtain rfl:rest'=[]:=zax (by simpa using hr);rw[we];unfold AK;dsimp only;simp[az,dA]
 |cons x rest ih=>
  intro rest' pre pre' n hn hp hr hl;obtain⟨n,rfl⟩:=ai n (by simp at hn;omega);obtain⟨y,rest',rfl⟩:∃y l,rest'=y::l:=by cases rest' with|nil=>simp at hr|cons y l=>exact⟨y,l,rfl⟩
  simp only[zac,zad]at hn hl hr;have:=ih rest' (pre++[x]) (pre'++[y]) n (by omega) (by simp[hp]) (by omega) (by simp;omega);rw[we];unfold AK;dsimp only;simp only[dA,xY,AT,Nat.reduceAdd];simp(disch:=omega) only[TRa,TRi,aa,LNl,LNi,zaa,au,zJ _ _ _ _ hp];simp only[LNl,LNi,zaa]at this⊢
  (try simp only[bne,cond_not])
  cases (x.i 0==y.i 0)<;>cases (x.i 1==y.i 1)<;>cases (x.i 2==y.i 2)
  all_goals (first|exact this|rfl)
def f56:List Dat × List Dat->Bool × List Un:=fun(a0,a1)=>(decide (a0.length<1099511627776),[.b (dA 3 a0 a1)])
theorem RD (a0:List Dat) (a1:List Dat) (hc:(decide (a0.length<1099511627776))=true):∃m,t56 m (a0,a1)=some ([.b (dA 3 a0 a1)]):=by
 have hs:=zaj hc;refine⟨a0.length+1, ?_⟩;unfold t56;dsimp only
 by_cases h:a0.length=a1.length
 . rw[fq (by omega)];exact O1 _ a0 a1 [] [] _ (by omega) rfl h.symm (by simpa using hs)
 . rw[mY (by omega),rK _ _ _ h]
theorem Mm:ER 56 (mkE N56.en N56.ex f56):=aq ah T45.right (fun m=>[LC (Af m m)]) (t:=t56) (by kernel_rfl) (fun m=>(aH (Vk m m) aA)) (fun m a=>by kernel_rfl) fun(a0,a1) hc=>RD a0 a1 hc
def T56:Tb Tryz.prog LQ TE XX:=T45.add 56 _ Mm
def N18:aE:=⟨T56.tab,18,⟨[.ints .u8,.ints .u8],[],0⟩,⟨[.bool],[],0⟩,[]⟩
abbrev H5:Type:=List Int × List Int × Int
def AY (m:Nat) (k:H5->Option (List Un)):H5->Option (List Un):=fun(a0,a1,a2)=>
 bif (decide (a2<(a0.length:Int)))then
 chk (inb a2 a0.length)<|
 chk (decide (a2.toNat<a0.length))<|
 chk (inb a2 a1.length)<|
 chk (decide (a2.toNat<a1.length))<|
 bif ((a0.getD a2.toNat 0) !=(a1.getD a2.toNat 0))then
 some ([.b false])
 else
 k (a0,a1,(w64 (a2+1)))
 else
 some ([.b true])
def zK (m:Nat):Nat->H5->Option (List Un):=bg (AY m)
theorem vD (m:Nat) (n:Nat):zK m (n+1)=AY m (zK m n):=rfl
def JQ (F:H5->Option (List Un)):aQ:=⟨[.lp [0,1,0,1,1],.blk 0,.code [1,1,1]],⟨frm 26 [(0,.ints .u8),(1,.ints .u8),(5,.int .i64)],[],0⟩,onU F⟩
theorem TU (m:Nat):∀n,HO N18 (JQ (zK m n)):=ar ah T56.right (fun k=>[JQ k]) (fun k h=>(aH h aA)) fun k a=>by kernel_rfl
def t18 (m:Nat):List Int × List Int->Option (List Un):=fun(a0,a1)=>
 bif ((a0.length:Int) !=(a1.length:Int))then
 some ([.b false])
 else
 zK m m (a0,a1,0)
theorem Om (m:Nat):∀(rest rest' pre pre':List Int) (n:Nat),rest.length<n->pre'.length=pre.length->rest'.length=rest.length->(pre++rest).length<1099511627776->
 zK m n (pre++rest,pre'++rest',(pre.length:Int))=some [.b (iC rest rest')]:=by
 intro rest
 induction rest with
 |nil=>
  intro rest' pre pre' n hn hp hr hl;obtain⟨n,rfl⟩:=ai n (by simp at hn;omega);obtain rfl:rest'=[]:=zax (by simpa using hr);rw[vD];unfold AY;dsimp only;simp[az,iC]
 |cons x rest ih=>
  intro rest' pre pre' n hn hp hr hl;obtain⟨n,rfl⟩:=ai n (by simp at hn;omega);obtain⟨y,rest',rfl⟩:∃y l,rest'=y::l:=by cases rest' with|nil=>simp at hr|cons y l=>exact⟨y,l,rfl⟩
  simp only[zac,zad]at hn hl hr;have:=ih rest' (pre++[x]) (pre'++[y]) n (by omega) (by simp[hp]) (by omega) (by simp;omega);rw[vD];unfold AY;dsimp only;simp only[iC,xY,AT,Nat.reduceAdd];simp(disch:=omega) only[TRa,TRi,aa,LNl,LNi,zaa,bL,y7 _ _ _ _ _ hp];simp only[LNl,LNi,zaa]at this⊢
  (try simp only[bne,cond_not])
  cases (x==y)
  all_goals (first|exact this|rfl)
def f18:List Int × List Int->Bool × List Un:=fun(a0,a1)=>(decide (a0.length<1099511627776),[.b (iC a0 a1)])
theorem QJ (a0:List Int) (a1:List Int) (hc:(decide (a0.length<1099511627776))=true):∃m,t18 m (a0,a1)=some ([.b (iC a0 a1)]):=by
 have hs:=zaj hc;refine⟨a0.length+1, ?_⟩;unfold t18;dsimp only
 by_cases h:a0.length=a1.length
 . rw[fq (by omega)];exact Om _ a0 a1 [] [] _ (by omega) rfl h.symm (by simpa using hs)
 . rw[mY (by omega),Al _ _ h]
theorem MI:ER 18 (mkE N18.en N18.ex f18):=aq ah T56.right (fun m=>[JQ (zK m m)]) (t:=t18) (by kernel_rfl) (fun m=>(aH (TU m m) aA)) (fun m a=>by kernel_rfl) fun(a0,a1) hc=>QJ a0 a1 hc
def T18:Tb Tryz.prog LQ TE XX:=T56.add 18 _ MI
def N55:aE:=⟨T18.tab,55,⟨[.ab (sI 4),.ab (sI 4)],[],0⟩,⟨[.bool],[],0⟩,[]⟩
abbrev HK:Type:=List Dat × List Dat × Int
def Ba (m:Nat) (k:HK->Option (List Un)):HK->Option (List Un):=fun(a0,a1,a2)=>
 bif (decide (a2<(a0.length:Int)))then
 chk (inb a2 a0.length)<|
 chk (decide (a2.toNat<a0.length))<|
 lt (af a0 a2.toNat:Dat) fun d3=>
 chk (inb a2 a1.length)<|
 chk (decide (a2.toNat<a1.length))<|
 lt (af a1 a2.toNat:Dat) fun d4=>
 bif (!(((d3.i 0)==(d4.i 0))&&(((d3.i 1)==(d4.i 1))&&(((d3.i 2)==(d4.i 2))&&(((d3.i 3)==(d4.i 3))&&true)))))then
 some ([.b false])
 else
 k (a0,a1,(w64 (a2+1)))
 else
 some ([.b true])
def Aa (m:Nat):Nat->HK->Option (List Un):=bg (Ba m)
theorem yk (m:Nat) (n:Nat):Aa m (n+1)=Ba m (Aa m n):=rfl
def Jn (F:HK->Option (List Un)):aQ:=⟨[.lp [0,1,0,1,1],.blk 0,.code [1,1,1]],⟨frm 26 [(0,.ab (sI 4)),(1,.ab (sI 4)),(5,.int .i64)],[],0⟩,onU F⟩
theorem Vl (m:Nat):∀n,HO N55 (Jn (Aa m n)):=ar ah T18.right (fun k=>[Jn k]) (fun k h=>(aH h aA)) fun k a=>by kernel_rfl
def t55 (m:Nat):List Dat × List Dat->Option (List Un):=fun(a0,a1)=>
 bif ((a0.length:Int) !=(a1.length:Int))then
 some ([.b false])
 else
 Aa m m (a0,a1,0)
theorem Oq (m:Nat):∀(rest rest' pre pre':List Dat) (n:Nat),rest.length<n->pre'.length=pre.length->rest'.length=rest.length->(pre++rest).length<1099511627776->
 Aa m n (pre++rest,pre'++rest',(pre.length:Int))=some [.b (dA 4 rest rest')]:=by
 intro rest
 induction rest with
 |nil=>
  intro rest' pre pre' n hn hp hr hl;obtain⟨n,rfl⟩:=ai n (by simp at hn;omega);obtain rfl:rest'=[]:=zax (by simpa using hr);rw[yk];unfold Ba;dsimp only;simp[az,dA]
 |cons x rest ih=>
  intro rest' pre pre' n hn hp hr hl;obtain⟨n,rfl⟩:=ai n (by simp at hn;omega);obtain⟨y,rest',rfl⟩:∃y l,rest'=y::l:=by cases rest' with|nil=>simp at hr|cons y l=>exact⟨y,l,rfl⟩
  simp only[zac,zad]at hn hl hr;have:=ih rest' (pre++[x]) (pre'++[y]) n (by omega) (by simp[hp]) (by omega) (by simp;omega);rw[yk];unfold Ba;dsimp only;simp only[dA,xY,AT,Nat.reduceAdd];simp(disch:=omega) only[TRa,TRi,aa,LNl,LNi,zaa,au,zJ _ _ _ _ hp];simp only[LNl,LNi,zaa]at this⊢
  (try simp only[bne,cond_not])
  cases (x.i 0==y.i 0)<;>cases (x.i 1==y.i 1)<;>cases (x.i 2==y.i 2)<;>cases (x.i 3==y.i 3)
  all_goals (first|exact this|rfl)
def f55:List Dat × List Dat->Bool × List Un:=fun(a0,a1)=>(decide (a0.length<1099511627776),[.b (dA 4 a0 a1)])
theorem SQ (a0:List Dat) (a1:List Dat) (hc:(decide (a0.length<1099511627776))=true):∃m,t55 m (a0,a1)=some ([.b (dA 4 a0 a1)]):=by
 have hs:=zaj hc;refine⟨a0.length+1, ?_⟩;unfold t55;dsimp only
 by_cases h:a0.length=a1.length
 . rw[fq (by omega)];exact Oq _ a0 a1 [] [] _ (by omega) rfl h.symm (by simpa using hs)
 . rw[mY (by omega),rK _ _ _ h]
theorem Oc:ER 55 (mkE N55.en N55.ex f55):=aq ah T18.right (fun m=>[Jn (Aa m m)]) (t:=t55) (by kernel_rfl) (fun m=>(aH (Vl m m) aA)) (fun m a=>by kernel_rfl) fun(a0,a1) hc=>SQ a0 a1 hc
def T55:Tb Tryz.prog LQ TE XX:=T18.add 55 _ Oc
def jy (p q r s l:Int):Bool:=decide (0<=p)&&(decide (p<=1099511627776)&&(decide (0<=q)&&(decide (q<=1099511627776)&&(decide (0<=r)&&(decide (r<=1099511627776)&&(decide (0<=s)&&(decide (s<=1099511627776)&&(decide (0<=l)&&decide (l<=12)))))))))
theorem CQ {α:Type} {x:Int} {a b:α}:(bif decide (x<0)then a else b)=bif decide (0<=x)then b else a:=by
 by_cases h:x<0
 . rw[zae h,zaH (show ¬0<=x by omega)];rfl
 . rw[zaH h,zae (show 0<=x by omega)];rfl
theorem B3 {α:Type} {x y:Int} {a b:α}:(bif decide (x>y)then a else b)=bif decide (x<=y)then b else a:=by
 by_cases h:x>y
 . rw[zae h,zaH (show ¬x<=y by omega)];rfl
 . rw[zaH h,zae (show x<=y by omega)];rfl
theorem mS {c y:Bool}:(bif c then some [Un.b y]else some [Un.b false])=some [.b (c&&y)]:=by cases c<;>rfl
def Vf:aE:=⟨T55.tab,101,⟨[.agg [.int .i64,.int .i64,.int .i64,.int .i64,.int .i64,.int .i64,.bool]],[],0⟩,⟨[.bool],[],0⟩,[[0,1,0,1]]⟩
def t101 (m:Nat):Int × Int × Int × Int × Int × Int × Bool->Option (List Un):=fun(a0,a1,a2,a3,a4,a5,a6)=>
 lt ((([a1,a2,a3,a4]).getD 0 0):Int) fun x1=>
 bif decide (x1<0)then
 some ([.b false])
 else
 bif (decide (x1>1099511627776))then
 some ([.b false])
 else
 lt ((([a1,a2,a3,a4]).getD 1 0):Int) fun x3=>
 bif decide (x3<0)then
 some ([.b false])
 else
 bif (decide (x3>1099511627776))then
 some ([.b false])
 else
 lt ((([a1,a2,a3,a4]).getD 2 0):Int) fun x5=>
 bif decide (x5<0)then
 some ([.b false])
 else
 bif (decide (x5>1099511627776))then
 some ([.b false])
 else
 lt ((([a1,a2,a3,a4]).getD 3 0):Int) fun x7=>
 bif decide (x7<0)then
 some ([.b false])
 else
 bif (decide (x7>1099511627776))then
 some ([.b false])
 else
 bif decide (a5>=0)then
 some ([.b (decide (a5<=12))])
 else
 some ([.b false])
def f101:Int × Int × Int × Int × Int × Int × Bool->Bool × List Un:=fun(a0,a1,a2,a3,a4,a5,a6)=>(true,[.b (jy a1 a2 a3 a4 a5)])
theorem N4 (a0:Int) (a1:Int) (a2:Int) (a3:Int) (a4:Int) (a5:Int) (a6:Bool):∃m,t101 m (a0,a1,a2,a3,a4,a5,a6)=some ([.b (jy a1 a2 a3 a4 a5)]):=by
 refine⟨0, ?_⟩;unfold t101 jy;simp only[lt_eq,zaQ,zaE,CQ,B3];simp only[ge_iff_le,mS]
theorem Jv:ER 101 (mkE Vf.en Vf.ex f101):=aq ah T55.right (fun m=>[]) (t:=t101) (by kernel_rfl) (fun m=>aA) (fun m a=>by kernel_rfl) fun(a0,a1,a2,a3,a4,a5,a6) hc=>N4 a0 a1 a2 a3 a4 a5 a6
def MA:Tb Tryz.prog LQ TE XX:=T55.add 101 _ Jv
def kL:Int->List Dat->Bool
 |_,[]=>true
 |last,d::l=>if d.i 0<=last then false else if jy (d.i 1) (d.i 2) (d.i 3) (d.i 4) (d.i 5)then kL (d.i 0) l else false
def pc (l:List Dat):Bool:=decide (l.length<=64)&&kL 0 l
def N68:aE:=⟨MA.tab,68,⟨[.ab (sB 6)],[],0⟩,⟨[.bool],[],0⟩,[]⟩
abbrev HR:Type:=Int × List Dat × Int × Int
def By (m:Nat) (k:HR->Option (List Un)):HR->Option (List Un):=fun(a0,a1,a2,a3)=>
 bif decide (a3<a2)then
 chk (inb a3 a1.length)<|
 chk (decide (a3.toNat<a1.length))<|
 lt (af a1 a3.toNat:Dat) fun d2=>
 bif decide ((d2.i 0)<=a0)then
 some ([.b false])
 else
 bif !(jy (d2.i 1) (d2.i 2) (d2.i 3) (d2.i 4) (d2.i 5))then
 some ([.b false])
 else
 k ((d2.i 0),a1,a2,(w64 (a3+1)))
 else
 some ([.b true])
def ze (m:Nat):Nat->HR->Option (List Un):=bg (By m)
theorem vF (m:Nat) (n:Nat):ze m (n+1)=By m (ze m n):=rfl
def L7 (F:HR->Option (List Un)):aQ:=⟨[.lp [0,1,0,1,1,1],.blk 0,.code [1,1,1,1]],⟨frm 27 [(3,.int .i64),(9,.ab (sB 6)),(10,.int .i64),(11,.int .i64)],[],0⟩,onU F⟩
theorem Um (m:Nat):∀n,HO N68 (L7 (ze m n)):=ar ah MA.right (fun k=>[L7 k]) (fun k h=>(aH h aA)) fun k a=>by kernel_rfl
def t68 (m:Nat):List Dat->Option (List Un):=fun a0=>
 bif (decide ((a0.length:Int)>64))then
 some ([.b false])
 else
 ze m m (0,a0,(a0.length:Int),0)
theorem VB (m:Nat):∀(rest pre:List Dat) (n:Nat) (last:Int),rest.length<n->(pre++rest).length<=64->
 ze m n (last,pre++rest,((pre++rest).length:Int),(pre.length:Int))=some [.b (kL last rest)]:=by
 intro rest
 induction rest with
 |nil=>
  intro pre n last hn hl;obtain⟨n,rfl⟩:=ai n (by simp at hn;omega);rw[vF];unfold By;dsimp only;simp[az,kL]
 |cons x rest ih=>
  intro pre n last hn hl;obtain⟨n,rfl⟩:=ai n (by simp at hn;omega);simp only[zac,zad]at hn hl;have:=ih (pre++[x]) n (x.i 0) (by omega) (by simp;omega);rw[vF];unfold By;dsimp only;simp only[LNl,LNi,zaa]at this⊢;unfold kL
  by_cases h1:x.i 0<=last
  . simp(disch:=omega) only[TRa,TRi,aa,LNl,LNi,zaa,au];rw[if_pos h1]
  . rw[if_neg h1]
    by_cases h2:jy (x.i 1) (x.i 2) (x.i 3) (x.i 4) (x.i 5)=true
    . rw[if_pos h2];simp(disch:=omega) only[TRa,TRi,aa,LNl,LNi,zaa,au,h2];exact this
    . rw[if_neg h2];have h2:jy (x.i 1) (x.i 2) (x.i 3) (x.i 4) (x.i 5)=false:=by simpa using h2
      simp(disch:=omega) only[TRa,TRi,aa,LNl,LNi,zaa,au,h2]
def f68:List Dat->Bool × List Un:=fun a0=>(true,[.b (pc a0)])
theorem QL (a0:List Dat):∃m,t68 m a0=some ([.b (pc a0)]):=by
 unfold pc
 by_cases h:a0.length<=64
 . refine⟨a0.length+1, ?_⟩;have:=VB (a0.length+1) a0 [] (a0.length+1) 0 (by omega) (by simpa using h);unfold t68;rw[az (by omega),zae h,za8];exact this
 . refine⟨0, ?_⟩;unfold t68;rw[ba (by omega),zaH h];rfl
theorem MT:ER 68 (mkE N68.en N68.ex f68):=aq ah MA.right (fun m=>[L7 (ze m m)]) (t:=t68) (by kernel_rfl) (fun m=>(aH (Um m m) aA)) (fun m a=>by kernel_rfl) fun a0 hc=>QL a0
def T68:Tb Tryz.prog LQ TE XX:=MA.add 68 _ MT
def xt (bal lost:Int) (j9:Bool) (pr pp it rc lt:Int) (df:Bool):Bool:=
 bif j9 then(pr==0)&&((pp==0)&&((it==0)&&((lt==0)&&(!df&&decide (rc<=lost)))))
 else bif decide (w64 (w64 (bal-pr)-pp)<0)then false
 else bif df then(bif decide (rc<=w64 (lost+w64 (w64 (bal-pr)-pp)))then true else rc==0)else rc==0
theorem I2 {c x y:Bool}:(bif c then some [Un.b x]else some [Un.b y])=some [.b (bif c then x else y)]:=by cases c<;>rfl
def N70:aE:=⟨T68.tab,70,⟨[.agg [.int .i64,.int .i64,.int .i64,.int .i64,.bool],.agg [.int .i64,.int .i64,.int .i64,.int .i64,.int .i64,.int .i64,.bool]],[],0⟩,⟨[.bool],[],0⟩,[]⟩
def t70 (m:Nat):Int × Int × Int × Int × Bool × Int × Int × Int × Int × Int × Int × Bool->Option (List Un):=fun(a0,a1,a2,a3,a4,a5,a6,a7,a8,a9,a10,a11)=>
 bif a4 then
 bif a6==0 then
 bif a7==0 then
 bif a8==0 then
 bif a10==0 then
 bif !a11 then
 some ([.b (decide (a9<=a2))])
 else
 some ([.b false])
 else
 some ([.b false])
 else
 some ([.b false])
 else
 some ([.b false])
 else
 some ([.b false])
 else
 lt ((w64 ((w64 (a1-a6))-a7)):Int) fun x1=>
 bif decide (x1<0)then
 some ([.b false])
 else
 bif a11 then
 bif (decide (a9<=(w64 (a2+x1))))then
 some ([.b true])
 else
 some ([.b (a9==0)])
 else
 some ([.b (a9==0)])
def f70:Int × Int × Int × Int × Bool × Int × Int × Int × Int × Int × Int × Bool->Bool × List Un:=fun(a0,a1,a2,a3,a4,a5,a6,a7,a8,a9,a10,a11)=>(true,[.b (xt a1 a2 a4 a6 a7 a8 a9 a10 a11)])
theorem Qb (a0:Int) (a1:Int) (a2:Int) (a3:Int) (a4:Bool) (a5:Int) (a6:Int) (a7:Int) (a8:Int) (a9:Int) (a10:Int) (a11:Bool):∃m,t70 m (a0,a1,a2,a3,a4,a5,a6,a7,a8,a9,a10,a11)=some ([.b (xt a1 a2 a4 a6 a7 a8 a9 a10 a11)]):=by
 refine⟨0, ?_⟩;unfold t70 xt;simp only[lt_eq,I2];cases a4<;>simp only[zau,zao]
 cases (a6==0)<;>cases (a7==0)<;>cases (a8==0)<;>cases (a10==0)<;>cases a11<;>rfl
theorem NY:ER 70 (mkE N70.en N70.ex f70):=aq ah T68.right (fun m=>[]) (t:=t70) (by kernel_rfl) (fun m=>aA) (fun m a=>by kernel_rfl) fun(a0,a1,a2,a3,a4,a5,a6,a7,a8,a9,a10,a11) hc=>Qb a0 a1 a2 a3 a4 a5 a6 a7 a8 a9 a10 a11
def T70:Tb Tryz.prog LQ TE XX:=T68.add 70 _ NY
def wW (bal pr pp:Int) (df:Bool):Int:=bif df then 0 else w64 (bal-w64 (pr+pp))
def jd (bal pr pp:Int) (df:Bool):Int:=bif df then w64 (bal-w64 (pr+pp))else 0
def pR (bal lost pr pp rc:Int) (df:Bool):Int:=bif df then w64 (w64 (lost+w64 (bal-w64 (pr+pp)))-rc)else w64 (lost-rc)
def pX (bal:Int) (j9:Bool) (pr pp lt:Int) (df:Bool):Int:=bif df then 0 else bif j9 then 0 else bif w64 (bal-w64 (pr+pp))==0 then 0 else lt
def N71:aE:=⟨T70.tab,71,⟨[.agg [.int .i64,.int .i64,.int .i64,.int .i64,.bool],.agg [.int .i64,.int .i64,.int .i64,.int .i64,.int .i64,.int .i64,.bool]],[],0⟩,⟨[.agg [.int .i64,.int .i64,.int .i64,.int .i64,.bool],.agg [.int .i64,.int .i64,.int .i64,.int .i64]],[],0⟩,[]⟩
def t71 (m:Nat):Int × Int × Int × Int × Bool × Int × Int × Int × Int × Int × Int × Bool->Option (List Un):=fun(a0,a1,a2,a3,a4,a5,a6,a7,a8,a9,a10,a11)=>
 lt ((w64 (a1-(w64 (a6+a7)))):Int) fun x1=>
 bif a11 then
 some ([.i a0,.i 0,.i (w64 ((w64 (a2+x1))-a9)),.i 0,.b true,.i (w64 (a6+a7)),.i a8,.i x1,.i a9])
 else
 bif a4 then
 some ([.i a0,.i x1,.i (w64 (a2-a9)),.i 0,.b a4,.i (w64 (a6+a7)),.i a8,.i 0,.i a9])
 else
 bif x1==0 then
 some ([.i a0,.i x1,.i (w64 (a2-a9)),.i 0,.b a4,.i (w64 (a6+a7)),.i a8,.i 0,.i a9])
 else
 some ([.i a0,.i x1,.i (w64 (a2-a9)),.i a10,.b a4,.i (w64 (a6+a7)),.i a8,.i 0,.i a9])
def f71:Int × Int × Int × Int × Bool × Int × Int × Int × Int × Int × Int × Bool->Bool × List Un:=fun(a0,a1,a2,a3,a4,a5,a6,a7,a8,a9,a10,a11)=>(true,[.i (a0),.i (wW a1 a6 a7 a11),.i (pR a1 a2 a6 a7 a9 a11),.i (pX a1 a4 a6 a7 a10 a11),.b ((a11||a4)),.i (w64 (a6+a7)),.i (a8),.i (jd a1 a6 a7 a11),.i (a9)])
theorem Qo (a0:Int) (a1:Int) (a2:Int) (a3:Int) (a4:Bool) (a5:Int) (a6:Int) (a7:Int) (a8:Int) (a9:Int) (a10:Int) (a11:Bool):∃m,t71 m (a0,a1,a2,a3,a4,a5,a6,a7,a8,a9,a10,a11)=some ([.i (a0),.i (wW a1 a6 a7 a11),.i (pR a1 a2 a6 a7 a9 a11),.i (pX a1 a4 a6 a7 a10 a11),.b ((a11||a4)),.i (w64 (a6+a7)),.i (a8),.i (jd a1 a6 a7 a11),.i (a9)]):=by
 refine⟨0, ?_⟩;unfold t71 wW pR pX jd;simp only[lt_eq];cases a11<;>cases a4<;>simp only[zau,zao,Bool.or_true,Bool.or_false]<;>first|rfl|(cases (w64 (a1-w64 (a6+a7))==0)<;>rfl)
theorem Nl:ER 71 (mkE N71.en N71.ex f71):=aq ah T70.right (fun m=>[]) (t:=t71) (by kernel_rfl) (fun m=>aA) (fun m a=>by kernel_rfl) fun(a0,a1,a2,a3,a4,a5,a6,a7,a8,a9,a10,a11) hc=>Qo a0 a1 a2 a3 a4 a5 a6 a7 a8 a9 a10 a11
def T71:Tb Tryz.prog LQ TE XX:=T70.add 71 _ Nl
def fE (id:Int):Int->List Dat->Int
 |_,[]=> -1
 |i,d::l=>if d.i 0=id then i else fE id (i+1) l
def Q2:aE:=⟨T71.tab,102,⟨[.ab (sB 4),.fn 103 [] [.ptr 0 0 0]],[.cells [.int .i64]],1⟩,⟨[.int .i64],[.cells [.int .i64]],1⟩,[]⟩
abbrev Be:Type:=List Dat × Int × Int × Int
def uN (m:Nat) (k:Be->Option (List Un)):Be->Option (List Un):=fun(a0,a1,a2,a3)=>
 bif decide (a2<a1)then
 chk (inb a2 a0.length)<|
 chk (decide (a2.toNat<a0.length))<|
 bif ((af a0 a2.toNat).i 0)==a3 then
 some ([.i a2,.i a3])
 else
 k (a0,a1,(w64 (a2+1)),a3)
 else
 some ([.i (-1),.i a3])
def sK (m:Nat):Nat->Be->Option (List Un):=bg (uN m)
theorem tY (m:Nat) (n:Nat):sK m (n+1)=uN m (sK m n):=rfl
def Fi (F:Be->Option (List Un)):aQ:=⟨[.lp [0,1,0,1],.blk 0,.code [1,1]],⟨frm 19 [(0,.ab (sB 4)),(1,.fn 103 [] [.ptr 0 0 0]),(7,.int .i64),(8,.int .i64)],[.cells [.int .i64]],1⟩,onU F⟩
theorem Qe (m:Nat):∀n,HO Q2 (Fi (sK m n)):=ar ah T71.right (fun k=>[Fi k]) (fun k h=>(aH h aA)) fun k a=>by kernel_rfl
def t102 (m:Nat):List Dat × Int->Option (List Un):=fun(a0,a1)=>
 sK m m (a0,(a0.length:Int),0,a1)
theorem T7 (m:Nat) (id:Int):∀(rest pre:List Dat) (n:Nat),rest.length<n->(pre++rest).length<1000000->
 sK m n (pre++rest,((pre++rest).length:Int),(pre.length:Int),id)=some [.i (fE id pre.length rest),.i id]:=by
 intro rest
 induction rest with
 |nil=>
  intro pre n hn hl;obtain⟨n,rfl⟩:=ai n (by simp at hn;omega);rw[tY];unfold uN;dsimp only;simp[az,fE]
 |cons x rest ih=>
  intro pre n hn hl;obtain⟨n,rfl⟩:=ai n (by simp at hn;omega);simp only[zac,zad]at hn hl;have:=ih (pre++[x]) n (by omega) (by simp;omega);rw[tY];unfold uN;dsimp only;simp only[LNl,LNi,zaa]at this⊢;unfold fE
  by_cases h1:x.i 0=id
  . simp(disch:=omega) only[TRa,TRi,aa,LNl,LNi,zaa,au];rw[if_pos h1]
  . rw[if_neg h1];simp(disch:=omega) only[TRa,TRi,aa,LNl,LNi,zaa,au];exact this
def f102:List Dat × Int->Bool × List Un:=fun(a0,a1)=>(decide (a0.length<1000000),[.i (fE a1 0 a0),.i (a1)])
theorem NO (a0:List Dat) (a1:Int) (hc:(decide (a0.length<1000000))=true):∃m,t102 m (a0,a1)=some ([.i (fE a1 0 a0),.i (a1)]):=by
 have h:=zaj hc;exact⟨a0.length+1,T7 _ a1 a0 [] _ (by omega) (by simpa using h)⟩
theorem LU:ER 102 (mkE Q2.en Q2.ex f102):=aq ah T71.right (fun m=>[Fi (sK m m)]) (t:=t102) (by kernel_rfl) (fun m=>(aH (Qe m m) aA)) (fun m a=>by kernel_rfl) fun(a0,a1) hc=>NO a0 a1 hc
def Nw:Tb Tryz.prog LQ TE XX:=T71.add 102 _ LU
def m6 (x d:Dat):Dat:= .r [.n (x.i 0),.n (wW (x.i 1) (d.i 1) (d.i 2) (d.b 6)),.n (pR (x.i 1) (x.i 2) (d.i 1) (d.i 2) (d.i 4) (d.b 6)),.n (pX (x.i 1) (x.b 4) (d.i 1) (d.i 2) (d.i 5) (d.b 6)),.n (bI (d.b 6||x.b 4))]
structure JC where
 p:Int
 q:Int
 l:Int
 r:Int
 e:Int
 aL:List Dat
def BJ (x d:Dat):Bool:=xt (x.i 1) (x.i 2) (x.b 4) (d.i 1) (d.i 2) (d.i 3) (d.i 4) (d.i 5) (d.b 6)
def fV:List Dat->Int->Int->Int->Int->List Dat->Option JC
 |l,p,q,s,r,[]=>some ⟨p,q,s,r,0,l⟩
 |l,p,q,s,r,d::t=>if fE (d.i 0) 0 l<0 then none else
  if BJ (af l (fE (d.i 0) 0 l).toNat) d=true then
   fV (l.set (fE (d.i 0) 0 l).toNat (m6 (af l (fE (d.i 0) 0 l).toNat) d)) (w64 (p+w64 (d.i 1+d.i 2))) (w64 (q+d.i 3)) (w64 (s+jd ((af l (fE (d.i 0) 0 l).toNat).i 1) (d.i 1) (d.i 2) (d.b 6))) (w64 (r+d.i 4)) t
  else none
def aG (lines l:List Dat):JC:=if pc lines=true then(fV l 0 0 0 0 lines).getD ⟨0,0,0,0,3,l⟩else⟨0,0,0,0,3,l⟩
theorem BD (id:Int):∀(l:List Dat) (i:Int),fE id i l= -1\/(i<=fE id i l/\fE id i l<i+l.length)
 |[],i=> .inl rfl
 |d::l,i=>by
  unfold fE
  by_cases h:d.i 0=id
  . rw[if_pos h];exact .inr ⟨by omega,by simp;omega⟩
  . rw[if_neg h];rcases BD id l (i+1)with h|⟨h1,h2⟩
    . exact .inl h
    . refine .inr ⟨by omega, ?_⟩;simp only[zac];omega
def N33:aE:=⟨Nw.tab,33,⟨[.ptr 0 0 0,.ab (sB 6)],[.cells [.buf 1 5],.ab (sB 4)],0⟩,⟨[.agg [.int .i64,.int .i64,.int .i64,.int .i64],.int .i64],[.cells [.buf 2 5],.gone,.ab (sB 4)],0⟩,[]⟩
abbrev HY:Type:=List Dat × Int × Int × Int × Int × Int × Int × Int × Int × Int × Int × List Dat × List Dat
def Ck (m:Nat) (k:HY->Option (List Un)):HY->Option (List Un):=fun(a0,a1,a2,a3,a4,a5,a6,a7,a8,a9,a10,a11,a12)=>
 bif decide (a2<a1)then
 chk (inb a2 a0.length)<|
 chk (decide (a2.toNat<a0.length))<|
 lt (af a0 a2.toNat:Dat) fun d1=>
 chk (decide (a12.length<1000000))<|
 bif (decide ((fE (d1.i 0) 0 a12)<0))then
 some ([.i 0,.i 0,.i 0,.i 0,.i 3,.d a11])
 else
 chk (inb (fE (d1.i 0) 0 a12) a12.length)<|
 chk (decide ((fE (d1.i 0) 0 a12).toNat<a12.length))<|
 lt (af a12 ((fE (d1.i 0) 0 a12).toNat):Dat) fun d3=>
 bif !(xt (d3.i 1) (d3.i 2) (d3.b 4) (d1.i 1) (d1.i 2) (d1.i 3) (d1.i 4) (d1.i 5) (d1.b 6))then
 some ([.i 0,.i 0,.i 0,.i 0,.i 3,.d a11])
 else
 chk (inb (fE (d1.i 0) 0 a12) a12.length)<|
 chk (decide ((fE (d1.i 0) 0 a12).toNat<a12.length))<|
 lt (af a12 ((fE (d1.i 0) 0 a12).toNat):Dat) fun d5=>
 chk (inb (fE (d1.i 0) 0 a12) a12.length)<|
 chk (decide ((fE (d1.i 0) 0 a12).toNat<a12.length))<|
 k (a0,a1,(w64 (a2+1)),a3,a4,a5,a6,(w64 (a7+(w64 ((d1.i 1)+(d1.i 2))))),(w64 (a8+(d1.i 3))),(w64 (a9+(jd (d5.i 1) (d1.i 1) (d1.i 2) (d1.b 6)))),(w64 (a10+(d1.i 4))),a11,(List.set a12 ((fE (d1.i 0) 0 a12).toNat) (.r [.n (d5.i 0),.n (wW (d5.i 1) (d1.i 1) (d1.i 2) (d1.b 6)),.n (pR (d5.i 1) (d5.i 2) (d1.i 1) (d1.i 2) (d1.i 4) (d1.b 6)),.n (pX (d5.i 1) (d5.b 4) (d1.i 1) (d1.i 2) (d1.i 5) (d1.b 6)),.n (bI ((d1.b 6)||(d5.b 4)))])))
 else
 some ([.i a7,.i a8,.i a9,.i a10,.i 0,.d a12])
def zC (m:Nat):Nat->HY->Option (List Un):=bg (Ck m)
theorem vV (m:Nat) (n:Nat):zC m (n+1)=Ck m (zC m n):=rfl
def Mg (F:HY->Option (List Un)):aQ:=⟨[.lp [0,1,0,1,1,1,1],.blk 0,.code [1,1,1,1,1]],⟨frm 89 [(0,.ptr 0 0 0),(4,.ptr 2 0 0),(6,.ptr 3 0 0),(7,.ptr 4 0 0),(18,.ab (sB 6)),(19,.int .i64),(20,.int .i64)],[.cells [.buf 5 5],.gone,.cells [.int .i64,.int .i64,.int .i64,.int .i64],.cells [.buf 6 5],.cells [.int .i64,.int .i64,.int .i64,.int .i64],.ab (sB 4),.ab (sB 4)],0⟩,onU F⟩
theorem Tn (m:Nat):∀n,HO N33 (Mg (zC m n)):=ar ah Nw.right (fun k=>[Mg k]) (fun k h=>(aH h aA)) fun k a=>by kernel_rfl
def t33 (m:Nat):List Dat × List Dat->Option (List Un):=fun(a0,a1)=>
 bif !(pc a0)then
 some ([.i 0,.i 0,.i 0,.i 0,.i 3,.d a1])
 else
 chk (decide (a1.length<1000000))<|
 zC m m (a0,(a0.length:Int),0,0,0,0,0,0,0,0,0,a1,a1)
def JV (l0:List Dat) (o:Option JC):List Un:=match o with|some x=>[.i x.p,.i x.q,.i x.l,.i x.r,.i x.e,.d x.aL]|none=>[.i 0,.i 0,.i 0,.i 0,.i 3,.d l0]
theorem QU (m:Nat) (l0:List Dat):∀(rest pre:List Dat) (n:Nat) (p q s r:Int) (l:List Dat),rest.length<n->(pre++rest).length<=64->l.length<1000000->
 zC m n (pre++rest,((pre++rest).length:Int),(pre.length:Int),0,0,0,0,p,q,s,r,l0,l)=some (JV l0 (fV l p q s r rest)):=by
 intro rest
 induction rest with
 |nil=>
  intro pre n p q s r l hn hl hll;obtain⟨n,rfl⟩:=ai n (by simp at hn;omega);rw[vV];unfold Ck;dsimp only;simp[az,fV,JV]
 |cons x rest ih=>
  intro pre n p q s r l hn hl hll;obtain⟨n,rfl⟩:=ai n (by simp at hn;omega);simp only[zac,zad]at hn hl;rw[vV];unfold Ck;dsimp only;simp(disch:=omega) only[TRa,TRi,aa,LNl,LNi,zaa,au];unfold fV;rcases BD (x.i 0) l 0 with h1|⟨h1,h2⟩
  . rw[ba (by omega),if_pos (by omega)];rfl
  . rw[az (by omega),if_neg (by omega)];simp(disch:=omega) only[TRa,TRi,aa,LNl,LNi,zaa,au]
    by_cases h3:BJ (af l (fE (x.i 0) 0 l).toNat) x=true
    . rw[if_pos h3];have h4:=h3;unfold BJ at h4;rw[h4];have:=ih (pre++[x]) n (w64 (p+w64 (x.i 1+x.i 2))) (w64 (q+x.i 3)) (w64 (s+jd ((af l (fE (x.i 0) 0 l).toNat).i 1) (x.i 1) (x.i 2) (x.b 6))) (w64 (r+x.i 4)) (l.set (fE (x.i 0) 0 l).toNat (m6 (af l (fE (x.i 0) 0 l).toNat) x)) (by omega) (by simp;omega) (by simpa using hll)
      try simp(disch:=omega) only[TRa,TRi,aa,LNl,LNi,zaa,au]
      simp only[LNl,LNi,zaa]at this⊢;exact this
    . rw[if_neg h3];have h4:=h3;unfold BJ at h4;rw[show xt _ _ _ _ _ _ _ _ _=false from Bool.eq_false_iff.2 h4];rfl
def f33:List Dat × List Dat->Bool × List Un:=fun(a0,a1)=>(decide (a1.length<1000000),[.i ((aG a0 a1).p),.i ((aG a0 a1).q),.i ((aG a0 a1).l),.i ((aG a0 a1).r),.i ((aG a0 a1).e),.d ((aG a0 a1).aL)])
theorem Qt (a0:List Dat) (a1:List Dat) (hc:(decide (a1.length<1000000))=true):∃m,t33 m (a0,a1)=some ([.i ((aG a0 a1).p),.i ((aG a0 a1).q),.i ((aG a0 a1).l),.i ((aG a0 a1).r),.i ((aG a0 a1).e),.d ((aG a0 a1).aL)]):=by
 have h:=zaj hc;unfold aG;cases ht:pc a0 with
 |false=>
  refine⟨0, ?_⟩;unfold t33;dsimp only;rw[ht];rfl
 |true=>
  have hl:a0.length<=64:=by
   simp only[pc,zab,zag]at ht;exact ht.1
  refine⟨a0.length+1, ?_⟩;have:=QU (a0.length+1) a1 a0 [] (a0.length+1) 0 0 0 0 a1 (by omega) (by simpa using hl) h;unfold t33;dsimp only;rw[ht];simp only[zbB,zao,zbc];rw[aI h];refine this.trans ?_
  cases fV a1 0 0 0 0 a0<;>rfl
theorem NM:ER 33 (mkE N33.en N33.ex f33):=aq ah Nw.right (fun m=>[Mg (zC m m)]) (t:=t33) (by kernel_rfl) (fun m=>(aH (Tn m m) aA)) (fun m a=>by kernel_rfl) fun(a0,a1) hc=>Qt a0 a1 hc
def T33:Tb Tryz.prog LQ TE XX:=Nw.add 33 _ NM
def lG (p q r s t u:List Int) (i:Int) (x:Dat):Dat:=
 let y:=within (bB p i) 0 (x.i 1/4)
 let z:=if within (bB q i) 0 (2*(x.i 1-y))>x.i 1-y then 0 else within (bB q i) 0 (2*(x.i 1-y))
 let w:=within (bB t i) 0 24
 .r [.n (x.i 0),.n y,.n z,.n (within (bB r i) 0 (1+x.i 1/50)),.n (if w64 ((BitVec.ofInt 64 (bB u i)&&&BitVec.ofInt 64 7).toNat)=7 then within (bB s i) 0 (x.i 1-y-z)else 0),.n (if 0<w-12 then w-12 else 0),.n (bI (decide (w64 ((BitVec.ofInt 64 (bB u i)&&&BitVec.ofInt 64 7).toNat)=7)))]
def lE (s lost:List Int) (i:Int) (x:Dat):Dat:=
 .r [.n (x.i 0),.n 0,.n 0,.n 0,.n (if i<(lost.length:Int)/\0<lost.getD i.toNat 0 then within (bB s i) 0 (lost.getD i.toNat 0)else 0),.n 0,.n (bI false)]
def ofL (p q r s t u lost:List Int):Int->List Dat->List Dat
 |_,[]=>[]
 |i,x::l=>(if w64 ((BitVec.ofInt 64 (bB t i)&&&BitVec.ofInt 64 15).toNat)=15 then[]else if 0<x.i 1 then[lG p q r s t u i x]else[lE s lost i x])++ofL p q r s t u lost (i+1) l
theorem GP (p q r s t u lost:List Int):∀(l:List Dat) (i:Int),(ofL p q r s t u lost i l).length<=l.length
 |[],_=>zan _
 |x::l,i=>by
  have:=GP p q r s t u lost l (i+1);unfold ofL
  split
  . simp;omega
  . split<;>(simp;omega)
def N21:aE:=⟨T33.tab,21,⟨[.agg [.ints .i64,.ints .i64,.ints .i64,.ints .i64,.ints .i64,.ints .i64],.ab (sI 2),.ints .i64],[],0⟩,⟨[.buf 0 7],[.ab (sB 6)],0⟩,[]⟩
abbrev Hg:Type:=List Int × List Dat × Int × Int × List Int × List Int × List Int × List Int × List Int × List Int × List Dat
def B5 (m:Nat) (k:Hg->Option (List Un)):Hg->Option (List Un):=fun(a0,a1,a2,a3,a4,a5,a6,a7,a8,a9,a10)=>
 bif decide (a3<a2)then
 chk (inb a3 a1.length)<|
 chk (decide (a3.toNat<a1.length))<|
 lt (af a1 a3.toNat:Dat) fun d1=>
 chk (decide (0<=a3))<|
 bif (w64 ((BitVec.ofInt 64 (bB a8 a3)&&&BitVec.ofInt 64 15).toNat))==15 then
 k (a0,a1,a2,(w64 (a3+1)),a4,a5,a6,a7,a8,a9,a10)
 else
 bif decide ((d1.i 1)>0)then
 chk (decide (0<=a3))<|
 bif decide (-2305843009213693952<=0/\0<=(w64 ((d1.i 1).tdiv 4))/\(w64 ((d1.i 1).tdiv 4))<=2305843009213693952)then
 lt ((within (bB a4 a3) 0 (w64 ((d1.i 1).tdiv 4))):Int) fun x3=>
 chk (decide (0<=a3))<|
 lt ((w64 (2*(w64 ((d1.i 1)-x3)))):Int) fun x4=>
 bif decide (-2305843009213693952<=0/\0<=x4/\x4<=2305843009213693952)then
 lt ((within (bB a5 a3) 0 x4):Int) fun x5=>
 bif (decide (x5>(w64 ((d1.i 1)-x3))))then
 chk (decide (0<=a3))<|
 lt ((w64 ((d1.i 1).tdiv 50)):Int) fun x7=>
 bif decide (-2305843009213693952<=0/\0<=(w64 (1+x7))/\(w64 (1+x7))<=2305843009213693952)then
 lt ((within (bB a6 a3) 0 (w64 (1+x7))):Int) fun x8=>
 chk (decide (0<=a3))<|
 lt ((within (bB a8 a3) 0 24):Int) fun x9=>
 lt ((if 0<(w64 (x9-12))then(w64 (x9-12))else 0):Int) fun x10=>
 chk (decide (0<=a3))<|
 bif (w64 ((BitVec.ofInt 64 (bB a9 a3)&&&BitVec.ofInt 64 7).toNat))==7 then
 chk (decide (0<=a3))<|
 lt ((w64 ((w64 ((d1.i 1)-x3))-0)):Int) fun x12=>
 bif decide (-2305843009213693952<=0/\0<=x12/\x12<=2305843009213693952)then
 chk (fits (a10.length+1) 56)<|
 k (a0,a1,a2,(w64 (a3+1)),a4,a5,a6,a7,a8,a9,(a10++([.r [.n (d1.i 0),.n x3,.n 0,.n x8,.n (within (bB a7 a3) 0 x12),.n x10,.n (bI true)]])))
 else
 none
 else
 chk (fits (a10.length+1) 56)<|
 k (a0,a1,a2,(w64 (a3+1)),a4,a5,a6,a7,a8,a9,(a10++([.r [.n (d1.i 0),.n x3,.n 0,.n x8,.n 0,.n x10,.n (bI false)]])))
 else
 none
 else
 chk (decide (0<=a3))<|
 lt ((w64 ((d1.i 1).tdiv 50)):Int) fun x16=>
 bif decide (-2305843009213693952<=0/\0<=(w64 (1+x16))/\(w64 (1+x16))<=2305843009213693952)then
 lt ((within (bB a6 a3) 0 (w64 (1+x16))):Int) fun x17=>
 chk (decide (0<=a3))<|
 lt ((within (bB a8 a3) 0 24):Int) fun x18=>
 lt ((if 0<(w64 (x18-12))then(w64 (x18-12))else 0):Int) fun x19=>
 chk (decide (0<=a3))<|
 bif (w64 ((BitVec.ofInt 64 (bB a9 a3)&&&BitVec.ofInt 64 7).toNat))==7 then
 chk (decide (0<=a3))<|
 lt ((w64 ((w64 ((d1.i 1)-x3))-x5)):Int) fun x21=>
 bif decide (-2305843009213693952<=0/\0<=x21/\x21<=2305843009213693952)then
 chk (fits (a10.length+1) 56)<|
 k (a0,a1,a2,(w64 (a3+1)),a4,a5,a6,a7,a8,a9,(a10++([.r [.n (d1.i 0),.n x3,.n x5,.n x17,.n (within (bB a7 a3) 0 x21),.n x19,.n (bI true)]])))
 else
 none
 else
 chk (fits (a10.length+1) 56)<|
 k (a0,a1,a2,(w64 (a3+1)),a4,a5,a6,a7,a8,a9,(a10++([.r [.n (d1.i 0),.n x3,.n x5,.n x17,.n 0,.n x19,.n (bI false)]])))
 else
 none
 else
 none
 else
 none
 else
 bif (decide (a3<(a0.length:Int)))then
 chk (inb a3 a0.length)<|
 chk (decide (a3.toNat<a0.length))<|
 bif (decide ((a0.getD a3.toNat 0)>0))then
 chk (decide (0<=a3))<|
 chk (inb a3 a0.length)<|
 chk (decide (a3.toNat<a0.length))<|
 bif decide (-2305843009213693952<=0/\0<=(a0.getD a3.toNat 0)/\(a0.getD a3.toNat 0)<=2305843009213693952)then
 chk (fits (a10.length+1) 56)<|
 k (a0,a1,a2,(w64 (a3+1)),a4,a5,a6,a7,a8,a9,(a10++([.r [.n (d1.i 0),.n 0,.n 0,.n 0,.n (within (bB a7 a3) 0 (a0.getD a3.toNat 0)),.n 0,.n (bI false)]])))
 else
 none
 else
 chk (fits (a10.length+1) 56)<|
 k (a0,a1,a2,(w64 (a3+1)),a4,a5,a6,a7,a8,a9,(a10++([.r [.n (d1.i 0),.n 0,.n 0,.n 0,.n 0,.n 0,.n (bI false)]])))
 else
 chk (fits (a10.length+1) 56)<|
 k (a0,a1,a2,(w64 (a3+1)),a4,a5,a6,a7,a8,a9,(a10++([.r [.n (d1.i 0),.n 0,.n 0,.n 0,.n 0,.n 0,.n (bI false)]])))
 else
 some ([.d a10])
def wY (m:Nat):Nat->Hg->Option (List Un):=bg (B5 m)
theorem uV (m:Nat) (n:Nat):wY m (n+1)=B5 m (wY m n):=rfl
def JZ (F:Hg->Option (List Un)):aQ:=⟨[.lp [0,1,0,1,1],.blk 0,.code [1,1,1]],⟨frm 126 [(2,.ints .i64),(3,.ptr 0 0 0),(7,.buf 1 7),(11,.ab (sI 2)),(12,.int .i64),(13,.int .i64)],[.cells [.ints .i64,.ints .i64,.ints .i64,.ints .i64,.ints .i64,.ints .i64],.ab (sB 6)],0⟩,onU F⟩
theorem UY (m:Nat):∀n,HO N21 (JZ (wY m n)):=ar ah T33.right (fun k=>[JZ k]) (fun k h=>(aH h aA)) fun k a=>by kernel_rfl
def t21 (m:Nat):List Int × List Int × List Int × List Int × List Int × List Int × List Dat × List Int->Option (List Un):=fun(a0,a1,a2,a3,a4,a5,a6,a7)=>
 wY m m (a7,a6,(a6.length:Int),0,a0,a1,a2,a3,a4,a5,[])
set_option maxHeartbeats 4000000 in
theorem Wq (m:Nat) (p q r s t u lost:List Int) (hlost:∀y∈lost,y<=2305843009213693952):∀(rest pre acc:List Dat) (n:Nat),rest.length<n->(pre++rest).length<1000000->acc.length<=pre.length->(∀d∈rest,d.i 1<=1152921504606846976)->
 wY m n (lost,pre++rest,((pre++rest).length:Int),(pre.length:Int),p,q,r,s,t,u,acc)=some [.d (acc++ofL p q r s t u lost pre.length rest)]:=by
 intro rest
 induction rest with
 |nil=>
  intro pre acc n hn hl ha hb;obtain⟨n,rfl⟩:=ai n (by simp at hn;omega);rw[uV];unfold B5;dsimp only;simp[az,ofL]
 |cons x rest ih=>
  intro pre acc n hn hl ha hb;obtain⟨n,rfl⟩:=ai n (by simp at hn;omega);simp only[zac,zad]at hn hl;have hx:=hb x (by simp);have K:∀out:List Dat,out.length<=acc.length+1->wY m n (lost,pre++x::rest,(pre.length:Int)+((rest.length:Int)+1),(pre.length:Int)+1,p,q,r,s,t,u,out)=some [.d (out++ofL p q r s t u lost ((pre.length:Int)+1) rest)]:=by
   intro out ho;have:=ih (pre++[x]) out n (by omega) (by simp;omega) (by simp;omega) (fun d hd=>hb d (by simp[hd]));simp only[LNl,LNi,zaa]at this⊢;exact this
  rw[uV];unfold B5;dsimp only;unfold ofL;generalize hi:(pre.length:Int)=i at K⊢;have hi0:0<=i/\i<1000000:=by omega
  by_cases h15:w64 ((BitVec.ofInt 64 (bB t i)&&&BitVec.ofInt 64 15).toNat)=15
  . rw[if_pos h15];subst hi;simp(disch:=omega) only[TRa,TRi,aa,LNl,LNi,zaa,au];rw[K _ (by omega)]
  . rw[if_neg h15]
    by_cases hx0:0<x.i 1
    . rw[if_pos hx0];have e4:(x.i 1).tdiv 4=x.i 1/4:=Int.tdiv_eq_ediv_of_nonneg (by omega);have e50:(x.i 1).tdiv 50=x.i 1/50:=Int.tdiv_eq_ediv_of_nonneg (by omega);have k1:0<=within (bB p i) 0 (x.i 1/4)/\within (bB p i) 0 (x.i 1/4)<=x.i 1/4:=aZ (by omega);have k2:0<=within (bB t i) 0 24/\within (bB t i) 0 24<=24:=aZ (by omega);unfold lG;dsimp only;subst hi;have k3:0<=within (bB q (pre.length:Int)) 0 (2*(x.i 1-within (bB p (pre.length:Int)) 0 (x.i 1/4))):=(aZ (by omega)).1
      by_cases hq:within (bB q (pre.length:Int)) 0 (2*(x.i 1-within (bB p (pre.length:Int)) 0 (x.i 1/4)))>x.i 1-within (bB p (pre.length:Int)) 0 (x.i 1/4)<;>
       by_cases h7:w64 ((BitVec.ofInt 64 (bB u (pre.length:Int))&&&BitVec.ofInt 64 7).toNat)=7
      . rw[if_pos hq,if_pos h7,zae h7];simp(disch:=omega) only[TRa,TRi,aa,LNl,LNi,zaa,au,e4,e50];rw[K _ (by simp)];simp
      . rw[if_pos hq,if_neg h7,zaH h7];simp(disch:=omega) only[TRa,TRi,aa,LNl,LNi,zaa,au,e4,e50];rw[K _ (by simp)];simp
      . rw[if_neg hq,if_pos h7,zae h7];simp(disch:=omega) only[TRa,TRi,aa,LNl,LNi,zaa,au,e4,e50];rw[K _ (by simp)];simp
      . rw[if_neg hq,if_neg h7,zaH h7];simp(disch:=omega) only[TRa,TRi,aa,LNl,LNi,zaa,au,e4,e50];rw[K _ (by simp)];simp
    . rw[if_neg hx0];unfold lE;subst hi
      by_cases hlt:(pre.length:Int)<(lost.length:Int)
      . by_cases hp:0<lost.getD pre.length 0
        . have hle:lost.getD pre.length 0<=2305843009213693952:=by
           rw[zaf,zah (by omega)];exact hlost _ (zbn _)
          rw[if_pos ⟨hlt,by simpa using hp⟩];simp(disch:=omega) only[TRa,TRi,aa,LNl,LNi,zaa,au];rw[K _ (by simp)];simp
        . rw[if_neg (fun h=>hp (by simpa using h.2))];simp(disch:=omega) only[TRa,TRi,aa,LNl,LNi,zaa,au];rw[K _ (by simp)];simp
      . rw[if_neg (fun h=>hlt h.1)];simp(disch:=omega) only[TRa,TRi,aa,LNl,LNi,zaa,au];rw[K _ (by simp)];simp
def f21:List Int × List Int × List Int × List Int × List Int × List Int × List Dat × List Int->Bool × List Un:=fun(a0,a1,a2,a3,a4,a5,a6,a7)=>(decide (a6.length<1000000)&&(a6.all (fun d=>decide (d.i 1<=1152921504606846976))&&a7.all fun y=>decide (y<=2305843009213693952)),[.d (ofL a0 a1 a2 a3 a4 a5 a7 0 a6)])
theorem So (a0:List Int) (a1:List Int) (a2:List Int) (a3:List Int) (a4:List Int) (a5:List Int) (a6:List Dat) (a7:List Int) (hc:(decide (a6.length<1000000)&&(a6.all (fun d=>decide (d.i 1<=1152921504606846976))&&a7.all fun y=>decide (y<=2305843009213693952)))=true):∃m,t21 m (a0,a1,a2,a3,a4,a5,a6,a7)=some ([.d (ofL a0 a1 a2 a3 a4 a5 a7 0 a6)]):=by
 simp only[zab,zag,zal]at hc;exact⟨a6.length+1,Wq _ _ _ _ _ _ _ _ (fun y hy=>hc.2.2 y hy) a6 [] [] _ (by omega) (by simpa using hc.1) (by simp) (fun d hd=>hc.2.1 d hd)⟩
theorem NF:ER 21 (mkE N21.en N21.ex f21):=aq ah T33.right (fun m=>[JZ (wY m m)]) (t:=t21) (by kernel_rfl) (fun m=>(aH (UY m m) aA)) (fun m a=>by kernel_rfl) fun(a0,a1,a2,a3,a4,a5,a6,a7) hc=>So a0 a1 a2 a3 a4 a5 a6 a7 hc
def T21:Tb Tryz.prog LQ TE XX:=T33.add 21 _ NF
def N31:aE:=⟨T21.tab,31,⟨[.np 0 0 0],cL 0,9⟩,⟨[.ptr 9 0 0],cL 0++cL 9,9⟩,[]⟩
def t31 (m:Nat):Int × aw × ax × ao × List Dat × List Dat × List Dat × List Dat × List Dat × List Dat × List Dat->Option (List Un):=fun(a0,a1,a2,a3,a4,a5,a6,a7,a8,a9,a10)=>
 chk (decide (0<=a0))<|
 chk (decide (0<=a0))<|
 chk (decide ((⟨a1,a4,a5,a2,a6,a7,a8⟩:bJ).aP.length<1000000/\(⟨a1,a4,a5,a2,a6,a7,a8⟩:bJ).notes.length<1000000/\(⟨a1,a4,a5,a2,a6,a7,a8⟩:bJ).s0.length<1000000/\(⟨a1,a4,a5,a2,a6,a7,a8⟩:bJ).s1.length<1000000/\(⟨a1,a4,a5,a2,a6,a7,a8⟩:bJ).s2.length<1000000))<|
 chk (decide (0<=a0))<|
 chk (decide (a9.length<1000000))<|
 chk (decide (0<=a0))<|
 chk (decide (a10.length<1000000))<|
 some (Uns.enc (a1:aw)++Uns.enc (a2:ax)++Uns.enc (a3:ao)++[.d a4,.d a5,.d a6,.d a7,.d a8,.d a9,.d a10]++Uns.enc (((⟨a1,a4,a5,a2,a6,a7,a8⟩:bJ).a):aw)++Uns.enc (((⟨a1,a4,a5,a2,a6,a7,a8⟩:bJ).b):ax)++Uns.enc (a3:ao)++[.d ((⟨a1,a4,a5,a2,a6,a7,a8⟩:bJ).aP),.d ((⟨a1,a4,a5,a2,a6,a7,a8⟩:bJ).notes),.d ((⟨a1,a4,a5,a2,a6,a7,a8⟩:bJ).s0),.d ((⟨a1,a4,a5,a2,a6,a7,a8⟩:bJ).s1),.d ((⟨a1,a4,a5,a2,a6,a7,a8⟩:bJ).s2),.d a9,.d a10])
def f31:Int × aw × ax × ao × List Dat × List Dat × List Dat × List Dat × List Dat × List Dat × List Dat->Bool × List Un:=fun(a0,a1,a2,a3,a4,a5,a6,a7,a8,a9,a10)=>(decide (0<=a0)&&decide (a4.length<1000000/\a5.length<1000000/\a6.length<1000000/\a7.length<1000000/\a8.length<1000000/\a9.length<1000000/\a10.length<1000000),Uns.enc ((a1):aw)++Uns.enc ((a2):ax)++Uns.enc ((a3):ao)++[.d (a4),.d (a5),.d (a6),.d (a7),.d (a8),.d (a9),.d (a10)]++Uns.enc ((a1):aw)++Uns.enc ((a2):ax)++Uns.enc ((a3):ao)++[.d (a4),.d (a5),.d (a6),.d (a7),.d (a8),.d (a9),.d (a10)])
theorem Sn (a0:Int) (a1:aw) (a2:ax) (a3:ao) (a4:List Dat) (a5:List Dat) (a6:List Dat) (a7:List Dat) (a8:List Dat) (a9:List Dat) (a10:List Dat) (hc:(decide (0<=a0)&&decide (a4.length<1000000/\a5.length<1000000/\a6.length<1000000/\a7.length<1000000/\a8.length<1000000/\a9.length<1000000/\a10.length<1000000))=true):∃m,t31 m (a0,a1,a2,a3,a4,a5,a6,a7,a8,a9,a10)=some (Uns.enc ((a1):aw)++Uns.enc ((a2):ax)++Uns.enc ((a3):ao)++[.d (a4),.d (a5),.d (a6),.d (a7),.d (a8),.d (a9),.d (a10)]++Uns.enc ((a1):aw)++Uns.enc ((a2):ax)++Uns.enc ((a3):ao)++[.d (a4),.d (a5),.d (a6),.d (a7),.d (a8),.d (a9),.d (a10)]):=by
 simp only[zab,zag]at hc;obtain⟨h0,h1,h2,h3,h4,h5,h6,h7⟩:=hc;refine⟨0, ?_⟩;unfold t31;dsimp only;simp(disch:=omega) only[lt_eq,aI,jJ]
theorem O2:ER 31 (mkE N31.en N31.ex f31):=aq ah T21.right (fun m=>[]) (t:=t31) (by kernel_rfl) (fun m=>aA) (fun m a=>by kernel_rfl) fun(a0,a1,a2,a3,a4,a5,a6,a7,a8,a9,a10) hc=>Sn a0 a1 a2 a3 a4 a5 a6 a7 a8 a9 a10 hc
def T31:Tb Tryz.prog LQ TE XX:=T21.add 31 _ O2
def N65:aE:=⟨T31.tab,65,⟨[.np 0 0 20,.int .i64],cL 0,0⟩,⟨[.bool],cL 0,0⟩,[]⟩
def t65 (m:Nat):Int × Int × aw × ax × ao × List Dat × List Dat × List Dat × List Dat × List Dat × List Dat × List Dat->Option (List Un):=fun(a0,a1,a2,a3,a4,a5,a6,a7,a8,a9,a10,a11)=>
 chk (decide (0<=a0))<|
 lt ((([a4.rin,a1]).getD 0 0):Int) fun x1=>
 bif decide (x1<0)then
 some ([.b false]++Uns.enc (a2:aw)++Uns.enc (a3:ax)++Uns.enc (a4:ao)++[.d a5,.d a6,.d a7,.d a8,.d a9,.d a10,.d a11])
 else
 bif (decide (x1>1152921504606846976))then
 some ([.b false]++Uns.enc (a2:aw)++Uns.enc (a3:ax)++Uns.enc (a4:ao)++[.d a5,.d a6,.d a7,.d a8,.d a9,.d a10,.d a11])
 else
 lt ((([a4.rin,a1]).getD 1 0):Int) fun x3=>
 bif decide (x3<0)then
 some ([.b false]++Uns.enc (a2:aw)++Uns.enc (a3:ax)++Uns.enc (a4:ao)++[.d a5,.d a6,.d a7,.d a8,.d a9,.d a10,.d a11])
 else
 bif decide (x3>(w64 (1152921504606846976-(w64 (0+x1)))))then
 some ([.b false]++Uns.enc (a2:aw)++Uns.enc (a3:ax)++Uns.enc (a4:ao)++[.d a5,.d a6,.d a7,.d a8,.d a9,.d a10,.d a11])
 else
 chk (decide (0<=a0))<|
 some ([.b true]++Uns.enc (a2:aw)++Uns.enc (a3:ax)++Uns.enc (({a4 with rin:=(w64 ((w64 (0+x1))+x3))}:ao):ao)++[.d a5,.d a6,.d a7,.d a8,.d a9,.d a10,.d a11])
def f65:Int × Int × aw × ax × ao × List Dat × List Dat × List Dat × List Dat × List Dat × List Dat × List Dat->Bool × List Un:=fun(a0,a1,a2,a3,a4,a5,a6,a7,a8,a9,a10,a11)=>(decide (0<=a0)&&decide ((0:Int)<=a4.rin/\(0:Int)<=a1/\a4.rin+a1<=(1152921504606846976:Int)),[.b (true)]++Uns.enc ((a2):aw)++Uns.enc ((a3):ax)++Uns.enc (({a4 with rin:=a4.rin+a1}):ao)++[.d (a5),.d (a6),.d (a7),.d (a8),.d (a9),.d (a10),.d (a11)])
theorem Ss (a0:Int) (a1:Int) (a2:aw) (a3:ax) (a4:ao) (a5:List Dat) (a6:List Dat) (a7:List Dat) (a8:List Dat) (a9:List Dat) (a10:List Dat) (a11:List Dat) (hc:(decide (0<=a0)&&decide ((0:Int)<=a4.rin/\(0:Int)<=a1/\a4.rin+a1<=(1152921504606846976:Int)))=true):∃m,t65 m (a0,a1,a2,a3,a4,a5,a6,a7,a8,a9,a10,a11)=some ([.b (true)]++Uns.enc ((a2):aw)++Uns.enc ((a3):ax)++Uns.enc (({a4 with rin:=a4.rin+a1}):ao)++[.d (a5),.d (a6),.d (a7),.d (a8),.d (a9),.d (a10),.d (a11)]):=by
 simp only[zab,zag]at hc;obtain⟨h0,h1,h2,h3⟩:=hc;refine⟨0, ?_⟩;unfold t65;dsimp only;simp only[lt_eq,zaQ,zaE];simp(disch:=omega) only[TRa,TRi,aa,za0]
theorem Oz:ER 65 (mkE N65.en N65.ex f65):=aq ah T31.right (fun m=>[]) (t:=t65) (by kernel_rfl) (fun m=>aA) (fun m a=>by kernel_rfl) fun(a0,a1,a2,a3,a4,a5,a6,a7,a8,a9,a10,a11) hc=>Ss a0 a1 a2 a3 a4 a5 a6 a7 a8 a9 a10 a11 hc
def T65:Tb Tryz.prog LQ TE XX:=T31.add 65 _ Oz
def qS:List Int->Int->Int × Bool
 |[],s=>(s,true)
 |x::l,s=>bif (decide (x<0)||decide (x>1152921504606846976-s))then(0,false)else qS l (s+x)
def iU (l:List Int):Int:=(qS l 0).1
def lP (l:List Int):Bool:=(qS l 0).2
def sS (l:List Int):Bool:=l.all fun x=>decide (0<=x/\x<=1152921504606846976)
theorem G8:∀(l:List Int) (s b:Int),0<=s->0<=b->(∀x∈l,0<=x/\x<=b)->s+l.length*b<=1152921504606846976->qS l s=(s+l.sum,true)
 |[],s,b,_,_,_,_=>by simp[qS]
 |x::l,s,b,h1,h2,h3,h4=>by
  have hx:=h3 x (by simp);have hm:0<=(l.length:Int)*b:=za4 (by omega) h2;have e:((x::l).length:Int)*b=l.length*b+b:=by rw[zac,zaD,zbY];simp
  rw[e]at h4;have:=G8 l (s+x) b (by omega) h2 (fun y hy=>h3 y (by simp[hy])) (by omega);simp only[qS];rw[show(decide (x<0)||decide (x>1152921504606846976-s))=false by simp;omega,zao,this,zbv]
  congr 1
  omega
theorem rY:∀(l:List Int) (b:Int),0<=b->(∀x∈l,0<=x/\x<=b)->0<=l.sum/\l.sum<=l.length*b
 |[],b,_,_=>by simp
 |x::l,b,h2,h3=>by
  have hx:=h3 x (by simp);have e:((x::l).length:Int)*b=l.length*b+b:=by rw[zac,zaD,zbY];simp
  have:=rY l b h2 (fun y hy=>h3 y (by simp[hy]));rw[e,zbv];omega
theorem uy {l:List Int} {b:Int} (h2:0<=b) (h3:∀x∈l,0<=x/\x<=b) (h4:l.length*b<=1152921504606846976):iU l=l.sum/\lP l=true:=by
 have:=G8 l 0 b (by omega) h2 h3 (by omega);unfold iU lP;rw[this];simp
def bZ (n s:Int) (l:List Int):List Int:=l.map fun c=>n*c/s
def jI (n s:Int) (l:List Int):List Int:=l.map fun c=>n*c%s
theorem vJ {l:List Int}:sS l=true↔∀x∈l,0<=x/\x<=1152921504606846976:=by simp[sS]
def kW (l:List Int):List Int->Nat->Nat->Nat
 |[],_,b=>b
 |x::r,i,b=>kW l r (i+1) (bif decide (x>l.getD b 0)then i else b)
def eA (l:List Int):Nat:=kW l l 0 0
def iJ (z:Int):Nat->List Int->List Int->List Int
 |0,o,_=>o
 |k+1,o,l=>iJ z k (o.set (eA l) (o.getD (eA l) 0+1)) (l.set (eA l) z)
def de (n:Int) (l:List Int):List Int:=
 bif !(lP l)then List.replicate l.length 0 else
 bif decide (max n 0>=iU l)then l else
 iJ 0 (max n 0-(bZ (max n 0) (iU l) l).sum).toNat (bZ (max n 0) (iU l) l) (jI (max n 0) (iU l) l)
theorem Dn (l:List Int):∀(r:List Int) (i b:Nat),b<l.length->i+r.length<=l.length->kW l r i b<l.length
 |[],_,b,h,_=>h
 |x::r,i,b,h,h2=>by
  simp only[zac]at h2;unfold kW;refine Dn l r (i+1) _ ?_ (by omega);cases decide (x>l.getD b 0)
  . exact h
  . show i<l.length;omega
theorem mg {l:List Int} (h:l≠[]):eA l<l.length:=Dn l l 0 0 (List.length_pos_iff.2 h) (by simp)
theorem Ep:∀(l:List Int) (s:Int),0<=s->s<=1152921504606846976->(qS l s).2=true->(∀x∈l,0<=x/\x<=1152921504606846976)/\(qS l s).1=s+l.sum/\s+l.sum<=1152921504606846976
 |[],s,h1,h2,_=>by simp[qS,h2]
 |x::l,s,h1,h2,h3=>by
  simp only[qS]at h3⊢
  by_cases hx:x<0\/x>1152921504606846976-s
  . rw[show(decide (x<0)||decide (x>1152921504606846976-s))=true by simpa using hx]at h3;cases h3
  . rw[show(decide (x<0)||decide (x>1152921504606846976-s))=false by simp;omega]at h3⊢;simp only[zao]at h3⊢;obtain⟨a,b,c⟩:=Ep l (s+x) (by omega) (by omega) h3;refine⟨fun y hy=> ?_,by rw[b,zbv];omega,by rw[zbv];omega⟩;rcases zaY.1 hy with rfl|hy
    . omega
    . exact a y hy
theorem mc {l:List Int} (h:lP l=true):(∀x∈l,0<=x/\x<=1152921504606846976)/\iU l=l.sum/\l.sum<=1152921504606846976:=by
 obtain⟨a,b,c⟩:=Ep l 0 (by omega) (by omega) h;exact⟨a,by unfold iU;omega,by omega⟩
theorem eX:∀(l:List Int),(∀x∈l,0<=x)->0<=l.sum
 |[],_=>by simp
 |x::l,h=>by
  have:=h x (by simp);have:=eX l (fun y hy=>h y (by simp[hy]));rw[zbv];omega
theorem vl {f g:Int->Int}:∀(l:List Int),(∀x∈l,f x<=g x)->(l.map f).sum<=(l.map g).sum
 |[],_=>by simp
 |x::l,h=>by
  have:=h x (by simp);have:=vl l (fun y hy=>h y (by simp[hy]));simp only[zaV,zbv];omega
theorem B4 {n s:Int} {l:List Int} (h1:0<=n) (h2:n<s) (hb:∀x∈l,0<=x/\x<=1152921504606846976):(∀y∈bZ n s l,0<=y/\y<=1152921504606846976)/\0<=(bZ n s l).sum/\(bZ n s l).sum<=l.sum:=by
 have e:∀x∈l,0<=n*x/s/\n*x/s<=x:=fun x hx=>by
  have hx:=hb x hx;refine⟨zbE (za4 h1 hx.1) (by omega), ?_⟩;have:n*x<=s*x:=za3 (by omega) hx.1;exact Int.ediv_le_of_le_mul (by omega) (by rw[zbe x s];exact this)
 have a:∀y∈bZ n s l,0<=y/\y<=1152921504606846976:=by
  intro y hy;obtain⟨x,hx,rfl⟩:=za6.1 hy;have:=e x hx;have:=hb x hx;omega
 refine⟨a,eX _ (fun y hy=>(a y hy).1), ?_⟩;have:=vl (f:=fun c=>n*c/s) (g:=id) l (fun x hx=>(e x hx).2);simpa[bZ]using this
theorem kC {l:List Int} {i:Nat} (h:i<l.length):l.getD i 0∈l:=by
 rw[zaf,zah h];exact zbn h
theorem zf (z:Int):∀(k:Nat) (o l:List Int),(iJ z k o l).length=o.length
 |0,_,_=>rfl
 |k+1,o,l=>by simp[iJ,zf z k]
theorem xu (n:Int) (l:List Int):(de n l).length=l.length:=by
 unfold de;cases lP l
 . simp
 . cases decide (max n 0>=iU l)
   . simp[zf,bZ]
   . simp
theorem uS:∀(l:List Int) (b:Nat) (v:Int),b<l.length->(l.set b v).sum=l.sum-l.getD b 0+v
 |[],b,v,h=>by simp at h
 |x::l,0,v,_=>by simp;omega
 |x::l,b+1,v,h=>by
  have:=uS l b v (by simpa using h);simp only[zbX,zbv,zaE];omega
theorem jo (l:List Int) (b i:Nat) (v:Int) (h:b<l.length):(l.set b v).getD i 0=if i=b then v else l.getD i 0:=by
 simp only[zaf,zbi]
 by_cases e:b=i
 . subst e;simp[h]
 . rw[if_neg e,if_neg (zcm e)]
theorem sA (l:List Int):∀(r pre:List Int) (b:Nat),l=pre++r->b<l.length->(∀j,j<pre.length->l.getD j 0<=l.getD b 0)->(∀j,j<b->l.getD j 0<l.getD b 0)->b<=pre.length->
 (∀j,j<l.length->l.getD j 0<=l.getD (kW l r pre.length b) 0)/\∀j,j<kW l r pre.length b->l.getD j 0<l.getD (kW l r pre.length b) 0
 |[],pre,b,he,hb,h1,h2,_=>by
  have:pre.length=l.length:=by rw[he];simp
  exact⟨fun j hj=>h1 j (by omega),h2⟩
 |x::r,pre,b,he,hb,h1,h2,h3=>by
  have hg:l.getD pre.length 0=x:=by rw[he];simp
  have hl:l.length=pre.length+(r.length+1):=by rw[he];simp
  have hp:(pre++[x]).length=pre.length+1:=by simp
  simp only[kW];rw[<-hp]
  by_cases hx:x>l.getD b 0
  . rw[show decide (x>l.getD b 0)=true from zae hx,zau];refine sA l r (pre++[x]) pre.length (by rw[he];simp) (by omega) (fun j hj=> ?_) (fun j hj=> ?_) (by omega)
    . rw[hp]at hj
      by_cases e:j=pre.length
      . subst e;omega
      . have:=h1 j (by omega);omega
    . have:=h1 j hj;omega
  . rw[show decide (x>l.getD b 0)=false from zaH hx,zao];refine sA l r (pre++[x]) b (by rw[he];simp) hb (fun j hj=> ?_) h2 (by omega);rw[hp]at hj
    by_cases e:j=pre.length
    . subst e;omega
    . exact h1 j (by omega)
theorem mT {l:List Int} (h:l≠[]):(∀j,j<l.length->l.getD j 0<=l.getD (eA l) 0)/\∀j,j<eA l->l.getD j 0<l.getD (eA l) 0:=
 sA l l [] 0 rfl (List.length_pos_iff.2 h) (fun j hj=>by simp at hj) (fun j hj=>by omega) (by simp)
theorem nK:∀(l:List Int),(∀x∈l,x<=0)->l.sum<=0
 |[],_=>by simp
 |x::l,h=>by
  have:=h x (by simp);have:=nK l (fun y hy=>h y (by simp[hy]));rw[zbv];omega
theorem qY {l:List Int} {x:Int} (h:x∈l):∃j,j<l.length/\l.getD j 0=x:=by
 obtain⟨j,hj,rfl⟩:=List.getElem_of_mem h;exact⟨j,hj,by rw[zaf,zah hj];rfl⟩
theorem Ax {s:Int} (hs:0<s):∀(k:Nat) (o l:List Int),o.length=l.length->(∀x∈l,0<=x/\x<s)->s*(k:Int)<=l.sum->
 (iJ 0 k o l).sum=o.sum+k/\(∀i,i<l.length->(iJ 0 k o l).getD i 0=o.getD i 0\/((iJ 0 k o l).getD i 0=o.getD i 0+1/\0<l.getD i 0))/\
 ∀i j,i<j->j<l.length->l.getD j 0<=l.getD i 0->(iJ 0 k o l).getD j 0-o.getD j 0<=(iJ 0 k o l).getD i 0-o.getD i 0
 |0,o,l,hl,hb,hk=>by simp[iJ]
 |k+1,o,l,hl,hb,hk=>by
  have e1:s*((k+1:Nat):Int)=s*k+s:=by rw[zaD,zcb];simp
  rw[e1]at hk;have hk0:0<=s*(k:Int):=za4 (by omega) (by omega);have hne:l≠[]:=by rintro rfl;simp at hk;omega
  have hB:=mg hne;obtain⟨hm,hf⟩:=mT hne;have hpos:0<l.getD (eA l) 0:=by
   rcases Int.lt_or_le 0 (l.getD (eA l) 0)with h|h
   . exact h
   . have:=nK l (fun x hx=>by
      obtain⟨j,hj,rfl⟩:=qY hx;have:=hm j hj;omega)
     omega
  have hmem:=hb _ (kC hB);simp only[iJ];generalize hbb:eA l=b at*
  have hs':=uS l b 0 hB;have ho':=uS o b (o.getD b 0+1) (by omega);obtain⟨g1,g2,g3⟩:=Ax hs k (o.set b (o.getD b 0+1)) (l.set b 0) (by simp[hl]) (fun x hx=>by
   rcases zbL hx with h|h
   . exact hb x h
   . omega) (by omega)
  generalize iJ 0 k (o.set b (o.getD b 0+1)) (l.set b 0)=y at*
  simp only[zbf]at g2 g3;refine⟨by rw[g1,ho'];simp only[zaD];omega,fun i hi=> ?_,fun i j hij hj hle=> ?_⟩
  . have:=g2 i hi;rw[jo _ _ _ _ (by omega),jo _ _ _ _ hB]at this
    by_cases e:i=b
    . subst e;simp only[↓reduceIte]at this;right;omega
    . simpa[e]using this
  . have a1:=g2 i (by omega);have a2:=g2 j hj;have a3:=g3 i j hij hj;rw[jo _ _ _ _ (by omega),jo _ _ _ _ hB]at a1 a2;rw[jo _ _ _ _ hB,jo _ _ _ _ hB,jo _ _ _ _ (by omega),jo _ _ _ _ (by omega)]at a3
    by_cases ei:i=b
    . subst ei;have ne:¬j=i:=by omega
      simp only[↓reduceIte,ne]at a1 a2 a3;omega
    . by_cases ej:j=b
      . subst ej;have:=hf i hij;omega
      . simp only[ei,ej,zbh]at a1 a2 a3;exact a3 hle
theorem wB (a s:Int):∀l:List Int,s*(bZ a s l).sum+(jI a s l).sum=a*l.sum
 |[]=>by simp[bZ,jI]
 |x::l=>by
  have:=wB a s l;have e:=zbg (a*x) s;show s*(a*x/s+(bZ a s l).sum)+(a*x%s+(jI a s l).sum)=a*(x+l.sum)
  rw[zcb,zcb];omega
theorem yO (f:Int->Int) {l:List Int} {b:Nat} (h:b<l.length):(l.map f).getD b 0=f (l.getD b 0):=by
 simp[zaf,zah h]
theorem Jc {a:Int} {l:List Int} (ha:0<=a) (hok:lP l=true) (hlt:a<l.sum):(de a l).sum=a/\
 (∀i,i<l.length->(de a l).getD i 0=a*l.getD i 0/l.sum\/((de a l).getD i 0=a*l.getD i 0/l.sum+1/\0<a*l.getD i 0%l.sum))/\
 ∀i j,i<j->j<l.length->a*l.getD j 0%l.sum<=a*l.getD i 0%l.sum->(de a l).getD j 0-a*l.getD j 0/l.sum<=(de a l).getD i 0-a*l.getD i 0/l.sum:=by
 obtain⟨hb,hs,hs2⟩:=mc hok;have hr:∀x∈jI a l.sum l,0<=x/\x<l.sum:=by
  intro y hy;obtain⟨x,hx,rfl⟩:=za6.1 hy;exact⟨zbq _ (by omega),zbd _ (by omega)⟩
 have hsum:=wB a l.sum l;have hr0:=eX _ (fun x hx=>(hr x hx).1);have hk:0<=a-(bZ a l.sum l).sum:=by
  have:l.sum*(bZ a l.sum l).sum<=l.sum*a:=by rw[zbe l.sum a];omega
  have:=Int.le_of_mul_le_mul_left this (by omega);omega
 have he:de a l=iJ 0 (a-(bZ a l.sum l).sum).toNat (bZ a l.sum l) (jI a l.sum l):=by
  unfold de;rw[hok,hs,show max a 0=a by omega,show decide (a>=l.sum)=false from zaH (by omega)];rfl
 have hl1:(bZ a l.sum l).length=l.length:=by simp[bZ]
 have hl2:(jI a l.sum l).length=l.length:=by simp[jI]
 have d:=Ax (s:=l.sum) (by omega) (a-(bZ a l.sum l).sum).toNat (bZ a l.sum l) (jI a l.sum l) (by omega) hr (by
  rw[Int.toNat_of_nonneg hk,Int.mul_sub,zbe l.sum a];omega)
 rw[<-he,hl2]at d;obtain⟨d1,d2,d3⟩:=d;have ef:∀i,i<l.length->(bZ a l.sum l).getD i 0=a*l.getD i 0/l.sum:=fun i hi=>yO _ hi
 have er:∀i,i<l.length->(jI a l.sum l).getD i 0=a*l.getD i 0%l.sum:=fun i hi=>yO _ hi
 refine⟨by rw[d1,Int.toNat_of_nonneg hk];omega,fun i hi=> ?_,fun i j hij hj hle=> ?_⟩
 . have:=d2 i hi
   rwa [ef i hi,er i hi]at this
 . have:=d3 i j hij hj (by rw[er i (by omega),er j hj];exact hle)
   rwa [ef i (by omega),ef j hj]at this
theorem IY {a:Int} {l:List Int} (hok:lP l=true) (hge:l.sum<=max a 0):de a l=l:=by
 obtain⟨hb,hs,hs2⟩:=mc hok;unfold de;rw[hok,hs,show decide (max a 0>=l.sum)=true from zae hge];rfl
theorem N7 {a x s:Int} (ha:0<=a) (hlt:a<s) (hx:0<=x):0<=a*x/s/\a*x/s<=x/\(0<a*x%s->a*x/s+1<=x):=by
 have e:=zbg (a*x) s;have hm:a*x<=(s-1)*x:=za3 (by omega) hx;have hsx:(s-1)*x=s*x-x:=by rw[Int.sub_mul,Int.one_mul]
 refine⟨zbE (za4 ha hx) (by omega),Int.ediv_le_of_le_mul (by omega) (by rw[zbe x s];omega),fun h=> ?_⟩;have:s*(a*x/s)<s*x:=by omega
 have:=Int.lt_of_mul_lt_mul_left this (by omega);omega
theorem Es {a:Int} {l:List Int} (ha:0<=a) (hok:lP l=true):(de a l).sum=min a l.sum/\∀i,i<l.length->0<=(de a l).getD i 0/\(de a l).getD i 0<=l.getD i 0:=by
 obtain⟨hb,hs,hs2⟩:=mc hok
 by_cases h:l.sum<=a
 . rw[IY hok (by omega)];exact⟨by omega,fun i hi=>⟨(hb _ (kC hi)).1,zcj _⟩⟩
 . obtain⟨h1,h2,_⟩:=Jc ha hok (by omega);refine⟨by omega,fun i hi=> ?_⟩;have hx:=hb _ (kC hi);have:=N7 (a:=a) (s:=l.sum) ha (by omega) hx.1;rcases h2 i hi with h|⟨h,h'⟩<;>omega
def bX:List Bool->List Int->List Int
 |[],_=>[]
 |false::ms,l=>0::bX ms l
 |true::ms,l=>l.headD 0::bX ms l.tail
def jY:List Bool->Nat->Nat
 |[],_=>0
 |false::ms,i=>jY ms i+1
 |true::_,0=>0
 |true::ms,i+1=>jY ms i+1
def bW:List Bool->Nat
 |[]=>0
 |false::ms=>bW ms
 |true::ms=>bW ms+1
theorem me:∀(ms:List Bool) (l:List Int),(bX ms l).length=ms.length
 |[],_=>rfl
 |false::ms,l=>by simp[bX,me ms l]
 |true::ms,l=>by simp[bX,me ms l.tail]
theorem uL:∀(ms:List Bool) (i:Nat),i<bW ms->jY ms i<ms.length
 |[],i,h=>by simp[bW]at h
 |false::ms,i,h=>by have:=uL ms i h;simp[jY];omega
 |true::ms,0,_=>by simp[jY]
 |true::ms,i+1,h=>by have:=uL ms i (by simpa[bW]using h);simp[jY];omega
theorem sx:∀(ms:List Bool) (i j:Nat),i<j->j<bW ms->jY ms i<jY ms j
 |[],i,j,_,h=>by simp[bW]at h
 |false::ms,i,j,h,h2=>by have:=sx ms i j h h2;simp[jY];omega
 |true::ms,0,j+1,_,_=>by simp[jY]
 |true::ms,i+1,j+1,h,h2=>by have:=sx ms i j (by omega) (by simpa[bW]using h2);simp[jY];omega
theorem iZ:∀(ms:List Bool) (l:List Int) (i:Nat),l.length=bW ms->i<bW ms->(bX ms l).getD (jY ms i) 0=l.getD i 0
 |[],l,i,_,h=>by simp[bW]at h
 |false::ms,l,i,h,h2=>by simp only[bX,jY,zaE];exact iZ ms l i h h2
 |true::ms,[],i,h,_=>by simp[bW]at h
 |true::ms,x::l,0,h,_=>by simp[bX,jY]
 |true::ms,x::l,i+1,h,h2=>by
  simp only[bX,jY,zaE,List.tail_cons];exact iZ ms l i (by simpa[bW]using h) (by simpa[bW]using h2)
theorem rp:∀(ms:List Bool) (l:List Int) (i:Nat) (v:Int),l.length=bW ms->i<bW ms->(bX ms l).set (jY ms i) v=bX ms (l.set i v)
 |[],l,i,v,_,h=>by simp[bW]at h
 |false::ms,l,i,v,h,h2=>by simp only[bX,jY,zbX];rw[rp ms l i v h h2]
 |true::ms,[],i,v,h,_=>by simp[bW]at h
 |true::ms,x::l,0,v,h,_=>by simp[bX,jY]
 |true::ms,x::l,i+1,v,h,h2=>by
  simp only[bX,jY,zbX,List.tail_cons,List.headD_cons];rw[rp ms l i v (by simpa[bW]using h) (by simpa[bW]using h2)]
theorem uR:∀(ms:List Bool) (p:Nat),p<ms.length->(∃i,i<bW ms/\p=jY ms i)\/∀l,(bX ms l).getD p 0=0
 |[],p,h=>by simp at h
 |false::ms,0,_=> .inr fun l=>by simp[bX]
 |true::ms,0,_=> .inl ⟨0,by simp[bW],by simp[jY]⟩
 |false::ms,p+1,h=>by
  rcases uR ms p (by simpa using h)with⟨i,h1,h2⟩|h2
  . exact .inl ⟨i,h1,by simp[jY,h2]⟩
  . exact .inr fun l=>by simp only[bX,zaE];exact h2 l
 |true::ms,p+1,h=>by
  rcases uR ms p (by simpa using h)with⟨i,h1,h2⟩|h2
  . exact .inl ⟨i+1,by simp[bW,h1],by simp[jY,h2]⟩
  . exact .inr fun l=>by simp only[bX,zaE];exact h2 _
theorem DH {l:List Int} {b:Nat} (hb:b<l.length) (h1:∀j,j<l.length->l.getD j 0<=l.getD b 0) (h2:∀j,j<b->l.getD j 0<l.getD b 0):eA l=b:=by
 have hne:l≠[]:=by rintro rfl;simp at hb
 obtain⟨m1,m2⟩:=mT hne;have hB:=mg hne;rcases Nat.lt_trichotomy (eA l) b with h|h|h
 . have:=h2 _ h;have:=m1 b hb;omega
 . exact h
 . have:=m2 _ h;have:=h1 _ hB;omega
theorem D4 (ms:List Bool) (l:List Int) (hl:l.length=bW ms) (hp:0<l.getD (eA l) 0):eA (bX ms l)=jY ms (eA l):=by
 have hne:l≠[]:=by rintro rfl;simp at hp
 obtain⟨m1,m2⟩:=mT hne;have hB:=mg hne;rw[hl]at hB;refine DH (by rw[me];exact uL ms _ hB) (fun j hj=> ?_) (fun j hj=> ?_)
 . rw[iZ ms l _ hl hB];rw[me]at hj;rcases uR ms j hj with⟨i,h1,rfl⟩|h2
   . rw[iZ ms l i hl h1];exact m1 i (by omega)
   . rw[h2];omega
 . rw[iZ ms l _ hl hB];have hj2:j<ms.length:=Nat.lt_trans hj (uL ms _ hB);rcases uR ms j hj2 with⟨i,h1,rfl⟩|h2
   . rw[iZ ms l i hl h1];refine m2 i ?_
     rcases Nat.lt_trichotomy i (eA l)with h|h|h
     . exact h
     . subst h;omega
     . have:=sx ms _ _ h h1;omega
   . rw[h2];exact hp
theorem zu {s:Int} (hs:0<s) (ms:List Bool):∀(k:Nat) (o l:List Int),o.length=bW ms->l.length=bW ms->(∀x∈l,0<=x/\x<s)->s*(k:Int)<=l.sum->
 iJ 0 k (bX ms o) (bX ms l)=bX ms (iJ 0 k o l)
 |0,o,l,_,_,_,_=>rfl
 |k+1,o,l,ho,hl,hb,hk=>by
  have e1:s*((k+1:Nat):Int)=s*k+s:=by rw[zaD,zcb];simp
  rw[e1]at hk;have hk0:0<=s*(k:Int):=za4 (by omega) (by omega);have hne:l≠[]:=by rintro rfl;simp at hk;omega
  have hB:=mg hne;obtain⟨hm,hf⟩:=mT hne;have hpos:0<l.getD (eA l) 0:=by
   rcases Int.lt_or_le 0 (l.getD (eA l) 0)with h|h
   . exact h
   . have:=nK l (fun x hx=>by
      obtain⟨j,hj,rfl⟩:=qY hx;have:=hm j hj;omega)
     omega
  have hmem:=hb _ (kC hB);have hs':=uS l (eA l) 0 hB;simp only[iJ];rw[D4 ms l hl hpos,iZ ms o _ ho (by omega),rp ms o _ _ ho (by omega),rp ms l _ _ hl (by omega)];refine zu hs ms k _ _ (by simpa using ho) (by simpa using hl) (fun x hx=> ?_) (by omega);rcases zbL hx with h|h
  . exact hb x h
  . omega
theorem qO (f:Int->Int) (h0:f 0=0):∀(ms:List Bool) (l:List Int),(bX ms l).map f=bX ms (l.map f)
 |[],_=>rfl
 |false::ms,l=>by simp[bX,h0,qO f h0 ms l]
 |true::ms,l=>by
  simp only[bX,zaV,qO f h0 ms l.tail];cases l with
  |nil=>simp[h0]
  |cons x l=>simp
theorem nC:∀(ms:List Bool) (l:List Int),l.length=bW ms->(bX ms l).sum=l.sum
 |[],l,h=>by rw[zax h];rfl
 |false::ms,l,h=>by simp[bX,nC ms l h]
 |true::ms,[],h=>by simp[bW]at h
 |true::ms,x::l,h=>by simp[bX,nC ms l (by simpa[bW]using h)]
theorem wb:∀(ms:List Bool) (l:List Int) (y:Int),y∈bX ms l->y=0\/y∈l
 |[],_,y,h=>by simp[bX]at h
 |false::ms,l,y,h=>by
  simp only[bX,zaY]at h;rcases h with h|h
  . exact .inl h
  . exact wb ms l y h
 |true::ms,l,y,h=>by
  simp only[bX,zaY]at h;rcases h with h|h
  . cases l with
    |nil=>exact .inl (by simpa using h)
    |cons x l=>exact .inr (by simp at h;simp[h])
  . rcases wb ms l.tail y h with h|h
    . exact .inl h
    . exact .inr (List.mem_of_mem_tail h)
theorem IJ (ms:List Bool) (n:Int) (l:List Int) (hl:l.length=bW ms) (b:Int) (hb0:0<=b) (hb:∀x∈l,0<=x/\x<=b) (h4:ms.length*b<=1152921504606846976):
 de n (bX ms l)=bX ms (de n l):=by
 have hlm:bW ms<=ms.length:=by
  clear hl h4
  induction ms with
  |nil=>simp[bW]
  |cons c ms ih=>cases c<;>simp[bW]<;>omega
 have hlb:(l.length:Int)*b<=ms.length*b:=za3 (by omega) hb0;obtain⟨s1,o1⟩:=uy hb0 hb (by omega);have hb2:∀x∈bX ms l,0<=x/\x<=b:=fun x hx=>by
  rcases wb ms l x hx with h|h
  . omega
  . exact hb x h
 obtain⟨s2,o2⟩:=uy hb0 hb2 (by rw[me];exact h4);rw[nC ms l hl]at s2;obtain⟨hB,_,hs2⟩:=mc o1;have h0:=eX l (fun x hx=>(hb x hx).1);unfold de;rw[o1,o2,s1,s2];simp only[zbB,zao]
 by_cases h:max n 0>=l.sum
 . rw[zae h,zau,zau]
 . rw[zaH h,zao,zao];have ef:bZ (max n 0) l.sum (bX ms l)=bX ms (bZ (max n 0) l.sum l):=qO (fun c=>max n 0*c/l.sum) (by simp) ms l;have er:jI (max n 0) l.sum (bX ms l)=bX ms (jI (max n 0) l.sum l):=qO (fun c=>max n 0*c%l.sum) (by simp) ms l;have lf:(bZ (max n 0) l.sum l).length=bW ms:=by simpa[bZ]using hl
   have lr:(jI (max n 0) l.sum l).length=bW ms:=by simpa[jI]using hl
   rw[ef,er,nC ms _ lf];have hr:∀x∈jI (max n 0) l.sum l,0<=x/\x<l.sum:=by
    intro y hy;obtain⟨x,hx,rfl⟩:=za6.1 hy;exact⟨zbq _ (by omega),zbd _ (by omega)⟩
   have hsum:=wB (max n 0) l.sum l;have hr0:=eX _ (fun x hx=>(hr x hx).1);have hk:0<=max n 0-(bZ (max n 0) l.sum l).sum:=by
    have:l.sum*(bZ (max n 0) l.sum l).sum<=l.sum*max n 0:=by rw[zbe l.sum (max n 0)];omega
    have:=Int.le_of_mul_le_mul_left this (by omega);omega
   exact zu (s:=l.sum) (by omega) ms _ _ _ lf lr hr (by rw[Int.toNat_of_nonneg hk,Int.mul_sub,zbe l.sum (max n 0)];omega)
theorem Sz {n c p:Int} (h1:0<=n) (h2:n<p) (h3:p<=1152921504606846976) (h4:0<=c) (h5:c<=1152921504606846976):mdV n c p 0=n*c/p/\pV n c p 0=true/\0<=n*c/p/\n*c/p<=c:=by
 have h:n*c/p<=c:=by
  have:n*c<=p*c:=za3 (by omega) h4;exact Int.ediv_le_of_le_mul (by omega) (by rw[zbe c p];exact this)
 have ok:pV n c p 0=true:=by rw[HC h1 (by omega) h4 h5 (by omega) h3 (by omega) (by omega),Sb];simp;omega
 exact⟨by unfold mdV;rw[ok,Sb];rfl,ok,zbE (za4 h1 h4) (by omega),h⟩
theorem OB {n c s q:Int} (hq:q=n*c/s) (h1:0<=n) (h2:0<s) (h3:s<=1152921504606846976) (h4:0<=c):
 qP (qP (qP n*qP c)-qP (qP q*qP s))=n*c%s:=by
 show IntKind.u64.wrap (IntKind.u64.wrap (IntKind.u64.wrap n*IntKind.u64.wrap c)-IntKind.u64.wrap (IntKind.u64.wrap q*IntKind.u64.wrap s))=n*c%s;simp only[nW];rw[<-Int.mul_emod,<-Int.mul_emod,<-Int.sub_emod];have e:=zbg (n*c) s;have a:=zbq (n*c) (show s≠0 by omega);have b:=zbd (n*c) h2;rw[<-hq]at e;rw[show n*c-q*s=n*c%s by rw[zbe q s];omega];exact Int.emod_eq_of_lt a (by omega)
theorem D1 {α:Type} (pre done:List α) (x y:α) (rest:List α) (h:done.length=pre.length):List.set (done++x::rest) pre.length y=done++y::rest:=by rw[<-h];simp
def RA:aE:=⟨T65.tab,100,⟨[.ints .i64],[],0⟩,⟨[.int .i64,.bool],[],0⟩,[]⟩
abbrev Cc:Type:=Int × List Int × Int × Int
def uB (m:Nat) (k:Cc->Option (List Un)):Cc->Option (List Un):=fun(a0,a1,a2,a3)=>
 bif decide (a3<a2)then
 chk (inb a3 a1.length)<|
 chk (decide (a3.toNat<a1.length))<|
 bif (decide ((a1.getD a3.toNat 0)<0))then
 some ([.i 0,.b false])
 else
 bif (decide ((a1.getD a3.toNat 0)>(w64 (1152921504606846976-a0))))then
 some ([.i 0,.b false])
 else
 k ((w64 (a0+(a1.getD a3.toNat 0))),a1,a2,(w64 (a3+1)))
 else
 some ([.i a0,.b true])
def se (m:Nat):Nat->Cc->Option (List Un):=bg (uB m)
theorem tq (m:Nat) (n:Nat):se m (n+1)=uB m (se m n):=rfl
def FP (F:Cc->Option (List Un)):aQ:=⟨[.lp [0,1,0,1,1],.blk 0,.code [1,1,1]],⟨frm 26 [(4,.int .i64),(7,.ints .i64),(8,.int .i64),(9,.int .i64)],[],0⟩,onU F⟩
theorem Qu (m:Nat):∀n,HO RA (FP (se m n)):=ar ah T65.right (fun k=>[FP k]) (fun k h=>(aH h aA)) fun k a=>by kernel_rfl
def t100 (m:Nat):List Int->Option (List Un):=fun a0=>
 se m m (0,a0,(a0.length:Int),0)
theorem MG (m:Nat):∀(rest pre:List Int) (s:Int) (n:Nat),rest.length<n->0<=s->s<=1152921504606846976->(pre++rest).length<1099511627776->
 se m n (s,pre++rest,((pre++rest).length:Int),(pre.length:Int))=some [.i (qS rest s).1,.b (qS rest s).2]:=by
 intro rest
 induction rest with
 |nil=>
  intro pre s n hn h1 h2 h3;obtain⟨n,rfl⟩:=ai n (by simp at hn;omega);rw[tq];unfold uB;dsimp only;simp[az,qS]
 |cons x rest ih=>
  intro pre s n hn h1 h2 h3;obtain⟨n,rfl⟩:=ai n (by simp at hn;omega);simp only[zad,zac]at h3 hn;rw[tq];unfold uB;dsimp only;simp only[qS]
  by_cases c1:x<0
  . rw[zae c1,Bool.true_or,zau];simp(disch:=omega) only[TRa,TRi,aa,LNl,LNi,zaa,bL]
  . by_cases c2:x>1152921504606846976-s
    . rw[zae c2,Bool.or_true,zau];simp(disch:=omega) only[TRa,TRi,aa,LNl,LNi,zaa,bL]
    . rw[zaH c1,zaH c2,zck,zao];have:=ih (pre++[x]) (s+x) n (by omega) (by omega) (by omega) (by simp;omega);simp(disch:=omega) only[TRa,TRi,aa,LNl,LNi,zaa,bL];simp only[LNl,LNi,zaa]at this⊢;exact this
def f100:List Int->Bool × List Un:=fun a0=>(decide (a0.length<1099511627776),[.i (iU a0),.b (lP a0)])
theorem Pf (a0:List Int) (hc:(decide (a0.length<1099511627776))=true):∃m,t100 m a0=some ([.i (iU a0),.b (lP a0)]):=by
 exact⟨a0.length+1,MG _ a0 [] 0 _ (by omega) (by omega) (by omega) (by simpa using zaj hc)⟩
theorem Jt:ER 100 (mkE RA.en RA.ex f100):=aq ah T65.right (fun m=>[FP (se m m)]) (t:=t100) (by kernel_rfl) (fun m=>(aH (Qu m m) aA)) (fun m a=>by kernel_rfl) fun a0 hc=>Pf a0 hc
def Nj:Tb Tryz.prog LQ TE XX:=T65.add 100 _ Jt
def RP:aE:=⟨Nj.tab,140,⟨[.int .i64,.int .i64,.ints .i64],[],0⟩,⟨[.buf 0 1,.buf 1 1],[.ints .i64,.ints .u64],0⟩,[]⟩
abbrev AL:Type:=Int × Int × List Int × Int × Int × List Int × List Int
def ur (m:Nat) (k:AL->Option (List Un)):AL->Option (List Un):=fun(a0,a1,a2,a3,a4,a5,a6)=>
 bif decide (a4<a3)then
 chk (inb a4 a2.length)<|
 chk (decide (a4.toNat<a2.length))<|
 chk (inb a4 a5.length)<|
 chk (decide (a4.toNat<a5.length))<|
 lt ((List.set a5 a4.toNat (mdV a0 (a2.getD a4.toNat 0) a1 0)):List Int) fun l5=>
 chk (inb a4 l5.length)<|
 chk (decide (a4.toNat<l5.length))<|
 chk (inb a4 a6.length)<|
 chk (decide (a4.toNat<a6.length))<|
 k (a0,a1,a2,a3,(w64 (a4+1)),l5,(List.set a6 a4.toNat (qP ((qP ((qP a0)*(qP (a2.getD a4.toNat 0))))-(qP ((qP (l5.getD a4.toNat 0))*(qP a1)))))))
 else
 some ([.l a5,.l a6])
def sR (m:Nat):Nat->AL->Option (List Un):=bg (ur m)
theorem tG (m:Nat) (n:Nat):sR m (n+1)=ur m (sR m n):=rfl
def Fj (F:AL->Option (List Un)):aQ:=⟨[.lp [0,1,0,1,1],.blk 0,.code [1,1,1]],⟨frm 55 [(0,.int .i64),(1,.int .i64),(8,.buf 0 1),(9,.buf 1 1),(18,.ints .i64),(19,.int .i64),(20,.int .i64)],[.ints .i64,.ints .u64],0⟩,onU F⟩
theorem Tf (m:Nat):∀n,HO RP (Fj (sR m n)):=ar ah Nj.right (fun k=>[Fj k]) (fun k h=>(aH h aA)) fun k a=>by kernel_rfl
def t140 (m:Nat):Int × Int × List Int->Option (List Un):=fun(a0,a1,a2)=>
 chk (lB (a2.length:Int) 8)<|
 chk (lB (a2.length:Int) 8)<|
 sR m m (a0,a1,a2,(a2.length:Int),0,(List.replicate a2.length 0),(List.replicate a2.length 0))
theorem SA (m:Nat) (a s:Int) (h1:0<=a) (h2:a<s) (h3:s<=1152921504606846976):∀(rest pre d1 d2:List Int) (n:Nat),rest.length<n->d1.length=pre.length->d2.length=pre.length->(∀x∈rest,0<=x/\x<=1152921504606846976)->(pre++rest).length<1099511627776->
 sR m n (a,s,pre++rest,((pre++rest).length:Int),(pre.length:Int),d1++List.replicate rest.length 0,d2++List.replicate rest.length 0)=some [.l (d1++bZ a s rest),.l (d2++jI a s rest)]:=by
 intro rest
 induction rest with
 |nil=>
  intro pre d1 d2 n hn p1 p2 hb h4;obtain⟨n,rfl⟩:=ai n (by simp at hn;omega);rw[tG];unfold ur;dsimp only;simp[az,bZ,jI]
 |cons x rest ih=>
  intro pre d1 d2 n hn p1 p2 hb h4;obtain⟨n,rfl⟩:=ai n (by simp at hn;omega);simp only[zad,zac]at h4 hn;rw[tG];unfold ur;dsimp only;simp only[zac,zbu];have hx:=hb x (by simp);obtain⟨e1,_,_,_⟩:=Sz h1 h2 h3 hx.1 hx.2;have:=ih (pre++[x]) (d1++[a*x/s]) (d2++[a*x%s]) n (by omega) (by simp;omega) (by simp;omega) (fun y hy=>hb y (by simp[hy])) (by simp;omega);have le:=OB (n:=a) (c:=x) (s:=s) rfl h1 (by omega) h3 hx.1;simp(disch:=omega) only[TRa,TRi,aa,LNl,LNi,zaa,bL,e1,D1 _ _ _ _ _ p1,y7 _ _ _ _ _ p1,D1 _ _ _ _ _ p2];rw[le];simp only[LNl,LNi,zaa]at this⊢;refine this.trans ?_
  simp[bZ,jI]
def f140:Int × Int × List Int->Bool × List Un:=fun(a0,a1,a2)=>(decide (0<=a0/\a0<a1/\a1<=1152921504606846976/\a2.length<1099511627776)&&sS a2,[.l (bZ a0 a1 a2),.l (jI a0 a1 a2)])
theorem Ps (a0:Int) (a1:Int) (a2:List Int) (hc:(decide (0<=a0/\a0<a1/\a1<=1152921504606846976/\a2.length<1099511627776)&&sS a2)=true):∃m,t140 m (a0,a1,a2)=some ([.l (bZ a0 a1 a2),.l (jI a0 a1 a2)]):=by
 simp only[zab,zag,vJ]at hc;obtain⟨⟨h1,h2,h3,h4⟩,hb⟩:=hc;refine⟨a2.length+1, ?_⟩;unfold t140;simp(disch:=omega) only[TRa,TRi,aa];exact SA (a2.length+1) a0 a1 h1 h2 h3 a2 [] [] [] (a2.length+1) (by omega) rfl rfl hb (by simpa using h4)
theorem KT:ER 140 (mkE RP.en RP.ex f140):=aq ah Nj.right (fun m=>[Fj (sR m m)]) (t:=t140) (by kernel_rfl) (fun m=>(aH (Tf m m) aA)) (fun m a=>by kernel_rfl) fun(a0,a1,a2) hc=>Ps a0 a1 a2 hc
def IZ:Tb Tryz.prog LQ TE XX:=Nj.add 140 _ KT
def IM:aE:=⟨IZ.tab,134,⟨[.int .i64,.ints .i64],[],0⟩,⟨[.buf 0 1],[.ints .i64],0⟩,[]⟩
abbrev AJ:Type:=Int × Int × Int × Int × List Int × List Int
abbrev mu:Type:=Int × List Int × List Int
abbrev Bw:Type:=Int × Int × Int × List Int × List Int
def uI (m:Nat) (k1:mu->Option (List Un)) (k:AJ->Option (List Un)):AJ->Option (List Un):=fun(a0,a1,a2,a3,a4,a5)=>
 bif decide (a3<a2)then
 chk (inb a3 a5.length)<|
 chk (decide (a3.toNat<a5.length))<|
 chk (inb a1 a5.length)<|
 chk (decide (a1.toNat<a5.length))<|
 bif (decide ((a5.getD a3.toNat 0)>(a5.getD a1.toNat 0)))then
 k (a0,a3,a2,(w64 (a3+1)),a4,a5)
 else
 k (a0,a1,a2,(w64 (a3+1)),a4,a5)
 else
 chk (inb a1 a4.length)<|
 chk (decide (a1.toNat<a4.length))<|
 chk (inb a1 a4.length)<|
 chk (decide (a1.toNat<a4.length))<|
 chk (inb a1 a5.length)<|
 chk (decide (a1.toNat<a5.length))<|
 k1 ((w64 (a0-1)),(List.set a4 a1.toNat (w64 ((a4.getD a1.toNat 0)+1))),(List.set a5 a1.toNat 0))
def rQ (m:Nat) (k1:mu->Option (List Un)):Nat->AJ->Option (List Un):=bg (uI m k1)
theorem tD (m:Nat) (k1:mu->Option (List Un)) (n:Nat):rQ m k1 (n+1)=uI m k1 (rQ m k1 n):=rfl
def FE (F:AJ->Option (List Un)):aQ:=⟨[.lp [0,1,0,1,0,0,1,0,0,0,1,1,1,1,1,1,1,1],.blk 4,.code [1,1,0,0,1,0,0,0,1,1,1,1,1,1,1,1],.blk 3,.code [1,1,0,0,0,1,1,1,1,1,1,1,1],.lp [0,0,1,1,1,1,1,1,1,1],.blk 2,.code [1,1,1,1,1,1,1,1,1]],⟨frm 80 [(7,.buf 0 1),(8,.buf 1 1),(9,.int .i64),(12,.int .i64),(55,.int .i64),(56,.int .i64)],[.ints .i64,.ints .u64],0⟩,onU F⟩
def um (m:Nat) (k:mu->Option (List Un)):mu->Option (List Un):=fun(a0,a1,a2)=>
 bif decide (a0>0)then
 rQ m k m (a0,0,(a2.length:Int),0,a1,a2)
 else
 some ([.l a1])
def nQ (m:Nat):Nat->mu->Option (List Un):=bg (um m)
theorem sV (m:Nat) (n:Nat):nQ m (n+1)=um m (nQ m n):=rfl
def Cd (F:mu->Option (List Un)):aQ:=⟨[.lp [0,0,1,1,1,1,1,1,1,1],.blk 2,.code [1,1,1,1,1,1,1,1,1]],⟨frm 80 [(7,.buf 0 1),(8,.buf 1 1),(9,.int .i64)],[.ints .i64,.ints .u64],0⟩,onU F⟩
def uQ (m:Nat) (k:Bw->Option (List Un)):Bw->Option (List Un):=fun(a0,a1,a2,a3,a4)=>
 bif decide (a2<a1)then
 chk (inb a2 a3.length)<|
 chk (decide (a2.toNat<a3.length))<|
 k ((w64 (a0-(a3.getD a2.toNat 0))),a1,(w64 (a2+1)),a3,a4)
 else
 nQ m m (a0,a3,a4)
def rW (m:Nat):Nat->Bw->Option (List Un):=bg (uQ m)
theorem tN (m:Nat) (n:Nat):rW m (n+1)=uQ m (rW m n):=rfl
def FB (F:Bw->Option (List Un)):aQ:=⟨[.lp [0,1,0,1,1,1,1,1,1,1],.blk 0,.code [1,1,1,1,1,1,1,1]],⟨frm 80 [(7,.buf 0 1),(8,.buf 1 1),(9,.int .i64),(40,.buf 0 1),(41,.int .i64),(42,.int .i64)],[.ints .i64,.ints .u64],0⟩,onU F⟩
theorem RR (m:Nat) (k1:mu->Option (List Un)) (h1:HO IM (Cd k1)):∀n,HO IM (FE (rQ m k1 n)):=ar ah IZ.right (fun k=>[Cd k1,FE k]) (fun k h=>(aH h1 (aH h aA))) fun k a=>by kernel_rfl
theorem Qp (m:Nat):∀n,HO IM (Cd (nQ m n)):=ar ah IZ.right (fun k=>[FE (rQ m (k) m)]) (fun k h=>(aH (RR m _ h m) aA)) fun k a=>by kernel_rfl
theorem Qs (m:Nat):∀n,HO IM (FB (rW m n)):=ar ah IZ.right (fun k=>[FB k,Cd (nQ m m)]) (fun k h=>(aH h (aH (Qp m m) aA))) fun k a=>by kernel_rfl
def t134 (m:Nat):Int × List Int->Option (List Un):=fun(a0,a1)=>
 chk (decide (a1.length<1099511627776))<|
 bif !(lP a1)then
 chk (lB (a1.length:Int) 8)<|
 some ([.l (List.replicate a1.length 0)])
 else
 lt ((if a0<0 then 0 else a0):Int) fun x2=>
 bif decide (x2>=(iU a1))then
 chk (fits (0+a1.length) 8)<|
 some ([.l a1])
 else
 chk (decide (0<=x2/\x2<(iU a1)/\(iU a1)<=1152921504606846976/\a1.length<1099511627776)&&sS a1)<|
 lt ((bZ x2 (iU a1) a1):List Int) fun l3=>
 rW m m (x2,(l3.length:Int),0,l3,(jI x2 (iU a1) a1))
theorem LS (m:Nat) (k1:mu->Option (List Un)) (left:Int) (out lost:List Int) (h1:0<left) (h2:left<4611686018427387904) (hl:out.length=lost.length) (hs:lost.length<1099511627776)
 (hb:∀x∈out,0<=x/\x<4611686018427387904):∀(rest pre:List Int) (b n:Nat),rest.length<n->lost=pre++rest->b<lost.length->
 rQ m k1 n (left,(b:Int),(lost.length:Int),(pre.length:Int),out,lost)=
  k1 (left-1,out.set (kW lost rest pre.length b) (out.getD (kW lost rest pre.length b) 0+1),lost.set (kW lost rest pre.length b) 0):=by
 intro rest
 induction rest with
 |nil=>
  intro pre b n hn he hlt;obtain⟨n,rfl⟩:=ai n (by simp at hn;omega);have hp:pre.length=lost.length:=by rw[he];simp
  have hm:=hb _ (kC (l:=out) (i:=b) (by omega));rw[tD];unfold uI;dsimp only;simp only[kW,zaz];simp(disch:=omega) only[TRa,TRi,aa]
 |cons x rest ih=>
  intro pre b n hn he hlt;obtain⟨n,rfl⟩:=ai n (by simp at hn;omega);have hp:lost.length=pre.length+(rest.length+1):=by rw[he];simp
  have hg:lost.getD pre.length 0=x:=by rw[he];simp
  rw[tD];unfold uI;dsimp only;simp only[kW,zaz,hg];have i1:=ih (pre++[x]) pre.length n (by simp at hn;omega) (by rw[he];simp) (by omega);have i2:=ih (pre++[x]) b n (by simp at hn;omega) (by rw[he];simp) hlt;simp only[zad,zac,zas,zaD,zaI,zaa]at i1 i2
  by_cases c:x>lost.getD b 0
  . simp(disch:=omega) only[TRa,TRi,aa];exact i1
  . simp(disch:=omega) only[TRa,TRi,aa];exact i2
theorem Md (m:Nat):∀(k:Nat) (left:Int) (out lost:List Int) (n:Nat),left.toNat=k->k<n->left<4611686018427387904->out.length=lost.length->lost.length<1099511627776->lost.length<m->lost≠[]->(∀x∈out,0<=x/\x+left<4611686018427387904)->
 nQ m n (left,out,lost)=some [.l (iJ 0 k out lost)]:=by
 intro k
 induction k with
 |zero=>
  intro left out lost n hk hn h2 hl hs hm hne hb;obtain⟨n,rfl⟩:=ai n (by omega);rw[sV];unfold um;dsimp only;simp only[iJ];rw[az (by omega)]
 |succ k ih=>
  intro left out lost n hk hn h2 hl hs hm hne hb;obtain⟨n,rfl⟩:=ai n (by omega);rw[sV];unfold um;dsimp only;have hB:=mg hne;rw[ba (by omega)];have:=LS m (nQ m n) left out lost (by omega) h2 hl hs (fun x hx=>by have:=hb x hx;omega) lost [] 0 m hm rfl (List.length_pos_iff.2 hne);simp only[zas,Int.natCast_zero]at this;refine this.trans ?_
  have hq:=hb _ (kC (l:=out) (i:=eA lost) (by omega));rw[show kW lost lost 0 0=eA lost from rfl];refine ih _ _ _ _ (by omega) (by omega) (by omega) (by simp[hl]) (by simpa using hs) (by simpa using hm) (by intro h;simp at h;exact hne h) (fun x hx=> ?_);rcases zbL hx with h|h
  . have:=hb x h;omega
  . omega
theorem Tv (m:Nat) (lost:List Int):∀(rest pre:List Int) (left:Int) (n:Nat),rest.length<n->(∀x∈rest,0<=x/\x<=1152921504606846976)-> -1152921504606846976<=left-rest.sum->left<=1152921504606846976->(pre++rest).length<1099511627776->
 rW m n (left,((pre++rest).length:Int),(pre.length:Int),pre++rest,lost)=nQ m m (left-rest.sum,pre++rest,lost):=by
 intro rest
 induction rest with
 |nil=>
  intro pre left n hn hb h1 h2 h3;obtain⟨n,rfl⟩:=ai n (by simp at hn;omega);rw[tN];unfold uQ;dsimp only;simp[az]
 |cons x rest ih=>
  intro pre left n hn hb h1 h2 h3;obtain⟨n,rfl⟩:=ai n (by simp at hn;omega);simp only[zad,zac]at h3 hn;have hx:=hb x (by simp);have hs:=eX rest (fun y hy=>(hb y (by simp[hy])).1);rw[zbv]at h1⊢;rw[tN];unfold uQ;dsimp only;have:=ih (pre++[x]) (left-x) n (by omega) (fun y hy=>hb y (by simp[hy])) (by omega) (by omega) (by simp;omega);rw[show left-(x+rest.sum)=left-x-rest.sum by omega];simp(disch:=omega) only[TRa,TRi,aa,LNl,LNi,zaa,bL];simp only[LNl,LNi,zaa]at this⊢;exact this
def f134:Int × List Int->Bool × List Un:=fun(a0,a1)=>(decide (a0<=9223372036854775807/\a1.length<1099511627776),[.l (de a0 a1)])
theorem Pk (a0:Int) (a1:List Int) (hc:(decide (a0<=9223372036854775807/\a1.length<1099511627776))=true):∃m,t134 m (a0,a1)=some ([.l (de a0 a1)]):=by
 obtain⟨h1,h2⟩:=zaj hc;clear hc;refine⟨1152921504606846976+a1.length+2, ?_⟩;unfold t134 de;dsimp only;rw[aI h2];cases hok:lP a1 with
 |false=>
  simp only[Bool.not_false,zau];simp(disch:=omega) only[TRa,TRi,aa]
 |true=>
  simp only[zbB,zao];obtain⟨hb,hs,hs2⟩:=mc hok;simp only[lt_eq];rw[mZ a0 0];generalize hn:max a0 0=a;have ha:0<=a:=by omega
  have hr:sS a1=true:=vJ.2 hb
  by_cases hge:a>=iU a1
  . simp only[show decide (a>=iU a1)=true by simpa using hge,zau];simp(disch:=omega) only[TRa,TRi,aa,zaI]
  . simp only[show decide (a>=iU a1)=false by simpa using hge,zao];obtain⟨f1,f2,f3⟩:=B4 (l:=a1) ha (show a<iU a1 by omega) hb;have hlf:(bZ a (iU a1) a1).length=a1.length:=by simp[bZ]
    have hlr:(jI a (iU a1) a1).length=a1.length:=by simp[jI]
    have hne:a1≠[]:=by rintro rfl;simp at hs;omega
    have e1:=Tv (1152921504606846976+a1.length+2) (jI a (iU a1) a1) (bZ a (iU a1) a1) [] a (1152921504606846976+a1.length+2) (by omega) f1 (by omega) (by omega) (by simp;omega);have e2:=Md (1152921504606846976+a1.length+2) _ (a-(bZ a (iU a1) a1).sum) (bZ a (iU a1) a1) (jI a (iU a1) a1) (1152921504606846976+a1.length+2) rfl (by omega) (by omega) (by omega) (by omega) (by omega)
     (by intro h;have:=congrArg List.length h;rw[hlr]at this;exact hne (zax this)) (fun x hx=>by have:=f1 x hx;omega)
    rw[hr,za9];simp(disch:=omega) only[aI];exact e1.trans e2
theorem Lg:ER 134 (mkE IM.en IM.ex f134):=aq ah IZ.right (fun m=>[FB (rW m m)]) (t:=t134) (by kernel_rfl) (fun m=>(aH (Qs m m) aA)) (fun m a=>by kernel_rfl) fun(a0,a1) hc=>Pk a0 a1 hc
def KV:Tb Tryz.prog LQ TE XX:=IZ.add 134 _ Lg
@[ext] structure bp where
 ay:Int
 fee:Int
 bY:Int
 ak:Int
 room:Int
instance : Uns bp := Uns.via (B := Int × Int × Int × Int × Int) (fun x => (x.ay, x.fee, x.bY, x.ak, x.room)) (fun x => match x with | (ay, fee, bY, ak, room) => ⟨ay, fee, bY, ak, room⟩) (fun _ => rfl)
def isN:Dat->Bool
 | .n _=>true
 | .r _=>false
def nc (k:Nat):Dat->Bool
 | .r l=>l.length==k&&l.all isN
 | .n _=>false
theorem EX:∀{d:Dat},isN d=true->d= .n d.int
 | .n _,_=>rfl
 | .r _,h=>by cases h
theorem EU {d:Dat} (h:nc 3 d=true):d= .r [.n (d.i 0),.n (d.i 1),.n (d.i 2)]:=by
 match d,h with
 | .r [a,b,c],h=>
  simp[nc]at h;obtain⟨h1,h2,h3⟩:=h;show Dat.r [a,b,c]= .r [.n a.int,.n b.int,.n c.int];rw[<-EX h1,<-EX h2,<-EX h3]
 | .r [],h=>simp[nc]at h
 | .r [a],h=>simp[nc]at h
 | .r [a,b],h=>simp[nc]at h
 | .r (a::b::c::d::l),h=>simp[nc]at h
def lF (d:Dat):Bool:=nc 3 d&&decide (0<=d.i 1/\d.i 1<=1125899906842624/\0<=d.i 2/\d.i 2<=1125899906842624)
theorem cT {d:Dat} (h:lF d=true):nc 3 d=true/\0<=d.i 1/\d.i 1<=1125899906842624/\0<=d.i 2/\d.i 2<=1125899906842624:=by
 simp only[lF,zab,zag]at h;exact h
def aW (c:List Dat):Bool:=decide (c.length<=1000)&&c.all lF
theorem cg {c:List Dat} (h:aW c=true):c.length<=1000/\∀d∈c,lF d=true:=by
 simp only[aW,zab,zag,zal]at h;exact h
theorem uU {c:List Dat} (h1:c.length<=1000) (h2:∀d∈c,lF d=true):aW c=true:=by
 simp only[aW,zab,zag,zal];exact⟨h1,h2⟩
def cE (j:Nat) (x:Int) (d:Dat):Dat:=if j=1 then .r [.n (d.i 0),.n (d.i 1-x),.n (d.i 2)]else .r [.n (d.i 0),.n (d.i 1),.n (d.i 2-x)]
def bV (j:Nat):List Int->List Dat->List Dat
 |x::xs,d::c=>cE j x d::bV j xs c
 |_,_=>[]
def bT (at_ kind:Int):Int->List Int->List Dat
 |_,[]=>[]
 |i,x::xs=>(if 0<x then[.r [.n at_,.n kind,.n i,.n x]]else[])++bT at_ kind (i+1) xs
def lJ (at_ kind n:Int):List Dat:=if 0<n then[.r [.n at_,.n kind,.n (-1),.n n]]else[]
def av (sel:Dat->Bool) (j:Nat) (n:Int) (c:List Dat):List Int:=de n (c.map fun d=>bif sel d then d.i j else 0)
def aN (r:Int) (d:Dat):Bool:=d.i 0==r
def bG (at_ kind:Int):Nat->Int->Int->List Dat->List Dat × List Dat × Int
 |0,_,_,c=>(c,[],0)
 |k+1,r,n,c=>
  ((bG at_ kind k (r+1) (n-(av (aN r) 1 n c).sum) (bV 1 (av (aN r) 1 n c) c)).1,
   bT at_ kind 0 (av (aN r) 1 n c)++(bG at_ kind k (r+1) (n-(av (aN r) 1 n c).sum) (bV 1 (av (aN r) 1 n c) c)).2.1,
   (av (aN r) 1 n c).sum+(bG at_ kind k (r+1) (n-(av (aN r) 1 n c).sum) (bV 1 (av (aN r) 1 n c) c)).2.2)
def dJ (at_ kind rank:Int) (x:bp) (c:List Dat):bp × List Dat × List Dat:=
 if kind=1 then({x with ay:=x.ay-min x.fee x.ay,fee:=x.fee-min x.fee x.ay},c,lJ at_ kind (min x.fee x.ay))
 else if kind=2 then({x with ay:=x.ay-min x.bY x.ay,bY:=x.bY-min x.bY x.ay},c,lJ at_ kind (min x.bY x.ay))
 else if kind=6 then({x with ay:=x.ay-min x.room x.ay,room:=x.room-min x.room x.ay},c,lJ at_ kind (min x.room x.ay))
 else if kind=3 then({x with ay:=x.ay-(av (aN rank) 2 x.ay c).sum},bV 2 (av (aN rank) 2 x.ay c) c,bT at_ kind 0 (av (aN rank) 2 x.ay c))
 else if kind=4 then({x with ay:=x.ay-(bG at_ kind 8 0 (min x.ak x.ay) c).2.2,ak:=x.ak-(bG at_ kind 8 0 (min x.ak x.ay) c).2.2},(bG at_ kind 8 0 (min x.ak x.ay) c).1,(bG at_ kind 8 0 (min x.ak x.ay) c).2.1)
 else if kind=5 then({x with ay:=x.ay-(av (fun _=>true) 1 (min x.ak x.ay) c).sum,ak:=x.ak-(av (fun _=>true) 1 (min x.ak x.ay) c).sum},bV 1 (av (fun _=>true) 1 (min x.ak x.ay) c) c,bT at_ kind 0 (av (fun _=>true) 1 (min x.ak x.ay) c))
 else if kind=7 then({x with ay:=x.ay-(bG at_ kind 8 0 x.ay c).2.2},(bG at_ kind 8 0 x.ay c).1,(bG at_ kind 8 0 x.ay c).2.1)
 else(x,c,[])
def dY:Int->List Dat->bp->List Dat->bp × List Dat × List Dat
 |_,[],x,c=>(x,c,[])
 |at_,s::l,x,c=>((dY (at_+1) l (dJ at_ (s.i 0) (s.i 1) x c).1 (dJ at_ (s.i 0) (s.i 1) x c).2.1).1,(dY (at_+1) l (dJ at_ (s.i 0) (s.i 1) x c).1 (dJ at_ (s.i 0) (s.i 1) x c).2.1).2.1,(dJ at_ (s.i 0) (s.i 1) x c).2.2++(dY (at_+1) l (dJ at_ (s.i 0) (s.i 1) x c).1 (dJ at_ (s.i 0) (s.i 1) x c).2.1).2.2)
def nv (x:bp):Bool:=decide ((0<=x.ay/\x.ay<=1152921504606846976)/\(0<=x.fee/\x.fee<=1152921504606846976)/\(0<=x.bY/\x.bY<=1152921504606846976)/\(0<=x.ak/\x.ak<=1152921504606846976)/\(0<=x.room/\x.room<=1152921504606846976))
theorem o9 {x:bp} (h:nv x=true):(0<=x.ay/\x.ay<=1152921504606846976)/\(0<=x.fee/\x.fee<=1152921504606846976)/\(0<=x.bY/\x.bY<=1152921504606846976)/\(0<=x.ak/\x.ak<=1152921504606846976)/\(0<=x.room/\x.room<=1152921504606846976):=zaj h
def HL (sel:Dat->Bool) (j:Nat) (c:List Dat):Int:=(c.map fun d=>bif sel d then d.i j else 0).sum
theorem oi {c:List Dat} (sel:Dat->Bool) {j:Nat} (hj:j=1\/j=2) (h:aW c=true):(∀x∈(c.map fun d=>bif sel d then d.i j else 0),0<=x/\x<=1125899906842624)/\lP (c.map fun d=>bif sel d then d.i j else 0)=true/\0<=HL sel j c/\HL sel j c<=1125899906842624*c.length:=by
 obtain⟨h1,h2⟩:=cg h;have hb:∀x∈(c.map fun d=>bif sel d then d.i j else 0),0<=x/\x<=1125899906842624:=by
  intro x hx;obtain⟨d,hd,rfl⟩:=za6.1 hx;have:=cT (h2 d hd);cases sel d
  . simp only[zao];omega
  . rcases hj with rfl|rfl<;>simp only[zau]<;>omega
 have hl:(c.map fun d=>bif sel d then d.i j else 0).length=c.length:=by simp
 have hm:((c.map fun d=>bif sel d then d.i j else 0).length:Int)*1125899906842624<=1152921504606846976:=by rw[hl];omega
 have hs:=rY _ 1125899906842624 (by decide) hb;rw[hl]at hs;exact⟨hb,(uy (by decide) hb hm).2,hs.1,by unfold HL;omega⟩
theorem Ec {n:Int} {l:List Int} (h:n<=0):de n l=de 0 l:=by
 unfold de;rw[show max n 0=max 0 0 by omega]
theorem dy {c:List Dat} (sel:Dat->Bool) {j:Nat} (hj:j=1\/j=2) (n:Int) (h:aW c=true):(av sel j n c).length=c.length/\(av sel j n c).sum=min (max n 0) (HL sel j c)/\∀i,i<c.length->0<=(av sel j n c).getD i 0/\(av sel j n c).getD i 0<=bif sel (af c i)then(af c i).i j else 0:=by
 obtain⟨hb,ho,hw0,hw1⟩:=oi sel hj h;have e:av sel j n c=de (max n 0) (c.map fun d=>bif sel d then d.i j else 0):=by
  by_cases hn:0<=n
  . rw[show max n 0=n by omega];rfl
  . rw[show max n 0=0 by omega];exact Ec (by omega)
 rw[e];obtain⟨h1,h2⟩:=Es (a:=max n 0) (by omega) ho;refine⟨by rw[xu];simp,h1,fun i hi=> ?_⟩;have:=h2 i (by simpa using hi)
 rwa [show(c.map fun d=>bif sel d then d.i j else 0).getD i 0=bif sel (af c i)then(af c i).i j else 0 by simp[zaf,hi,af]]at this
theorem nk (j:Nat):∀(xs:List Int) (c:List Dat),xs.length=c.length->(bV j xs c).length=c.length
 |[],[],_=>rfl
 |x::xs,d::c,h=>by simp[bV,nk j xs c (by simpa using h)]
 |[],_::_,h=>by simp at h
 |_::_,[],h=>by simp at h
theorem nG (j:Nat):∀(xs:List Int) (c:List Dat) (i:Nat),xs.length=c.length->i<c.length->af (bV j xs c) i=cE j (xs.getD i 0) (af c i)
 |[],[],i,_,h=>by simp at h
 |x::xs,d::c,0,_,_=>rfl
 |x::xs,d::c,i+1,h,hi=>nG j xs c i (by simpa using h) (by simpa using hi)
 |[],_::_,_,h,_=>by simp at h
 |_::_,[],_,h,_=>by simp at h
theorem nF {l:List Dat} {d:Dat} (h:d∈l):∃i,i<l.length/\af l i=d:=by
 obtain⟨i,hi,rfl⟩:=List.getElem_of_mem h;exact⟨i,hi,gg hi⟩
theorem mQ {l:List Dat} {i:Nat} (h:i<l.length):af l i∈l:=by rw[gg h];exact zbn h
theorem Dt {d:Dat} {j:Nat} {x:Int} (hj:j=1\/j=2) (h:lF d=true) (h0:0<=x) (h1:x<=d.i j):lF (cE j x d)=true:=by
 have:=cT h;rcases hj with rfl|rfl
 . simp only[cE,zbc,lF,zab,zag,fa,iM];exact⟨rfl,by omega⟩
 . simp only[cE,show ¬(2:Nat)=1 by decide,zbh,lF,zab,zag,fa,iM];exact⟨rfl,by omega⟩
theorem oX {c:List Dat} (sel:Dat->Bool) {j:Nat} (hj:j=1\/j=2) (n:Int) (h:aW c=true):aW (bV j (av sel j n c) c)=true/\(bV j (av sel j n c) c).length=c.length:=by
 obtain⟨l1,l2,l3⟩:=dy sel hj n h;obtain⟨h1,h2⟩:=cg h;have hl:=nk j _ c l1;refine⟨uU (by omega) fun d hd=> ?_,hl⟩;obtain⟨i,hi,rfl⟩:=nF hd;rw[hl]at hi;rw[nG j _ c i l1 hi];have:=l3 i hi;have hg:=h2 _ (mQ hi);refine Dt hj hg this.1 ?_
 have h4:=cT hg;cases hs:sel (af c i)<;>rw[hs]at this
 . rcases hj with rfl|rfl<;>simp only[zao]at this<;>omega
 . exact this.2
theorem iN (a k:Int):∀(xs:List Int) (i:Int),(bT a k i xs).length<=xs.length
 |[],i=>by simp[bT]
 |x::xs,i=>by
  have:=iN a k xs (i+1);simp only[bT,zad,zac]
  split<;>simp<;>omega
theorem uW (a k n:Int):(lJ a k n).length<=1:=by unfold lJ;split<;>simp
theorem wz (a kd:Int):∀(k:Nat) (r n:Int) (c:List Dat),aW c=true->aW (bG a kd k r n c).1=true/\(bG a kd k r n c).1.length=c.length/\(bG a kd k r n c).2.1.length<=k*c.length/\0<=(bG a kd k r n c).2.2/\(bG a kd k r n c).2.2<=max n 0
 |0,r,n,c,h=>⟨h,rfl,by simp[bG],by simp[bG],by simp only[bG];omega⟩
 |k+1,r,n,c,h=>by
  obtain⟨g1,g2⟩:=oX (aN r) (j:=1) (.inl rfl) n h;obtain⟨l1,l2,l3⟩:=dy (aN r) (j:=1) (.inl rfl) n h;obtain⟨_,_,w0,w1⟩:=oi (aN r) (j:=1) (.inl rfl) h;obtain⟨i1,i2,i3,i4,i5⟩:=wz a kd k (r+1) (n-(av (aN r) 1 n c).sum) _ g1;have hp:=iN a kd (av (aN r) 1 n c) 0;simp only[bG];refine⟨i1,by omega, ?_,by omega,by omega⟩;rw[zad,za2];rw[g2]at i3;omega
theorem rm (a kd rk:Int) {x:bp} {c:List Dat} (hx:nv x=true) (h:aW c=true):nv (dJ a kd rk x c).1=true/\aW (dJ a kd rk x c).2.1=true/\(dJ a kd rk x c).2.1.length=c.length/\(dJ a kd rk x c).2.2.length<=8000:=by
 have hx':=o9 hx;have hc:=(cg h).1;have p1:=uW a kd;have s2:=fun sel j hj n=>dy (c:=c) sel (j:=j) hj n h
 have w2:=fun sel j hj=>(oi (c:=c) sel (j:=j) hj h).2.2
 have g2:=fun sel j hj n=>oX (c:=c) sel (j:=j) hj n h
 have r2:=fun n=>wz a kd 8 0 n c h
 unfold dJ
 by_cases k1:kd=1
 . rw[if_pos k1];exact⟨zae (by simp only;omega),h,rfl,by have:=p1 (min x.fee x.ay);simp only;omega⟩
 rw[if_neg k1]
 by_cases k1:kd=2
 . rw[if_pos k1];exact⟨zae (by simp only;omega),h,rfl,by have:=p1 (min x.bY x.ay);simp only;omega⟩
 rw[if_neg k1]
 by_cases k1:kd=6
 . rw[if_pos k1];exact⟨zae (by simp only;omega),h,rfl,by have:=p1 (min x.room x.ay);simp only;omega⟩
 rw[if_neg k1]
 by_cases k1:kd=3
 . rw[if_pos k1];have q1:=s2 (aN rk) 2 (.inr rfl) x.ay;have q2:=w2 (aN rk) 2 (.inr rfl);have q3:=g2 (aN rk) 2 (.inr rfl) x.ay;have q4:=iN a kd (av (aN rk) 2 x.ay c) 0;exact⟨zae (by simp only;omega),q3.1,q3.2,by simp only;omega⟩
 rw[if_neg k1]
 by_cases k1:kd=4
 . rw[if_pos k1];have q:=r2 (min x.ak x.ay);generalize bG a kd 8 0 (min x.ak x.ay) c=y at*
   exact⟨zae (by simp only;omega),q.1,q.2.1,by simp only;omega⟩
 rw[if_neg k1]
 by_cases k1:kd=5
 . rw[if_pos k1];have q1:=s2 (fun _=>true) 1 (.inl rfl) (min x.ak x.ay);have q2:=w2 (fun _=>true) 1 (.inl rfl);have q3:=g2 (fun _=>true) 1 (.inl rfl) (min x.ak x.ay);have q4:=iN a kd (av (fun _=>true) 1 (min x.ak x.ay) c) 0;exact⟨zae (by simp only;omega),q3.1,q3.2,by simp only;omega⟩
 rw[if_neg k1]
 by_cases k1:kd=7
 . rw[if_pos k1];have q:=r2 x.ay;generalize bG a kd 8 0 x.ay c=y at*
   exact⟨zae (by simp only;omega),q.1,q.2.1,by simp only;omega⟩
 rw[if_neg k1];exact⟨hx,h,rfl,by simp⟩
theorem Hp:∀(l:List Dat) (a:Int) (x:bp) (c:List Dat),nv x=true->aW c=true->nv (dY a l x c).1=true/\aW (dY a l x c).2.1=true/\(dY a l x c).2.1.length=c.length/\(dY a l x c).2.2.length<=8000*l.length
 |[],a,x,c,hx,h=>⟨hx,h,rfl,by simp[dY]⟩
 |s::l,a,x,c,hx,h=>by
  obtain⟨h1,h2,h3,h4⟩:=rm a (s.i 0) (s.i 1) hx h;obtain⟨i1,i2,i3,i4⟩:=Hp l (a+1) _ _ h1 h2;simp only[dY,zad,zac];exact⟨i1,i2,by omega,by omega⟩
def iw (sel:Dat->Bool):Int->List Dat->List Int
 |_,[]=>[]
 |i,d::c=>bif sel d then i::iw sel (i+1) c else iw sel (i+1) c
def dW (sel:Dat->Bool) (j:Nat):List Dat->List Int
 |[]=>[]
 |d::c=>bif sel d then d.i j::dW sel j c else dW sel j c
def lR (j:Nat):List Int->List Int->List Dat->List Dat
 |w::ws,x::xs,c=>lR j ws xs (c.set w.toNat (cE j x (af c w.toNat)))
 |_,_,c=>c
def ub (at_ kind:Int):List Int->List Int->List Dat
 |w::ws,x::xs=>(if 0<x then[.r [.n at_,.n kind,.n w,.n x]]else[])++ub at_ kind ws xs
 |_,_=>[]
theorem Jl {j:Nat} {d:Dat} (h:nc 3 d=true):cE j 0 d=d:=by
 have e:=EU h;unfold cE;rw[zbt,zbt,<-e]
 split<;>rfl
theorem oR (sel:Dat->Bool) (j:Nat):∀(rest pre:List Dat) (xs:List Int),xs.length=bW (rest.map sel)->(∀d∈rest,nc 3 d=true)->
 lR j (iw sel pre.length rest) xs (pre++rest)=pre++bV j (bX (rest.map sel) xs) rest
 |[],pre,xs,h,_=>by rw[zax h];simp[iw,lR,bV,bX]
 |d::rest,pre,xs,h,hr=>by
  have ih:=fun xs h y=>oR sel j rest (pre++[y]) xs h (fun z hz=>hr z (by simp[hz]))
  simp only[zad,zac,zas,zat,zaN,zaC,zaD,zaa,zaI]at ih;simp only[zaV]at h;cases hs:sel d
  . rw[hs]at h;simp only[iw,hs,zao,zaV,bX,bV];rw[Jl (hr d (by simp)),<-ih xs h d]
  . rw[hs]at h;cases xs with
    |nil=>simp[bW]at h
    |cons x xs=>
     simp only[iw,hs,zau,zaV,bX,bV,lR,zaz,Bp,au,List.headD_cons,List.tail_cons];exact ih xs (by simpa[bW]using h) _
theorem qB (a k:Int) (sel:Dat->Bool):∀(rest:List Dat) (i:Int) (xs:List Int),xs.length=bW (rest.map sel)->ub a k (iw sel i rest) xs=bT a k i (bX (rest.map sel) xs)
 |[],i,xs,h=>by rw[zax h];rfl
 |d::rest,i,xs,h=>by
  have ih:=fun xs h=>qB a k sel rest (i+1) xs h
  simp only[zaV]at h;cases hs:sel d
  . rw[hs]at h;simp only[iw,hs,zao,zaV,bX,bT];rw[ih xs h];rfl
  . rw[hs]at h;cases xs with
    |nil=>simp[bW]at h
    |cons x xs=>
     simp only[iw,hs,zau,zaV,bX,bT,ub,List.headD_cons,List.tail_cons];rw[ih xs (by simpa[bW]using h)]
theorem yS (sel:Dat->Bool) (j:Nat):∀c:List Dat,(c.map fun d=>bif sel d then d.i j else 0)=bX (c.map sel) (dW sel j c)
 |[]=>rfl
 |d::c=>by
  have:=yS sel j c;simp only[zaV,dW];cases hs:sel d<;>simp[bX,this]
theorem wH (sel:Dat->Bool) (j:Nat):∀c:List Dat,(dW sel j c).length=bW (c.map sel)
 |[]=>rfl
 |d::c=>by
  have:=wH sel j c;cases hs:sel d<;>simp[dW,hs,bW,this]
theorem qQ (sel:Dat->Bool):∀(c:List Dat) (i:Int),(iw sel i c).length=bW (c.map sel)
 |[],_=>rfl
 |d::c,i=>by
  have:=qQ sel c (i+1);cases hs:sel d<;>simp[iw,hs,bW,this]
theorem lT:∀ms:List Bool,bW ms<=ms.length
 |[]=>zan _
 |false::ms=>by have:=lT ms;simp[bW];omega
 |true::ms=>by have:=lT ms;simp[bW];omega
theorem ri (sel:Dat->Bool):∀(c:List Dat) (i:Int),∀w∈iw sel i c,i<=w/\w<i+c.length
 |[],i,w,h=>by simp[iw]at h
 |d::c,i,w,h=>by
  have ih:=ri sel c (i+1) w;simp only[zac,zaD];cases hs:sel d<;>simp only[iw,hs,zao,zau,zaY]at h
  . have:=ih h;omega
  . rcases h with h|h
    . omega
    . have:=ih h;omega
theorem qE (sel:Dat->Bool) (j:Nat):∀c:List Dat,∀x∈dW sel j c,∃d∈c,x=d.i j
 |[],x,h=>by simp[dW]at h
 |d::c,x,h=>by
  cases hs:sel d<;>simp only[dW,hs,zao,zau,zaY]at h
  . obtain⟨e,h1,h2⟩:=qE sel j c x h;exact⟨e,by simp[h1],h2⟩
  . rcases h with h|h
    . exact⟨d,by simp,h⟩
    . obtain⟨e,h1,h2⟩:=qE sel j c x h;exact⟨e,by simp[h1],h2⟩
theorem lq (sel:Dat->Bool) {j:Nat} (hj:j=1\/j=2) (n:Int) {c:List Dat} (h:aW c=true):av sel j n c=bX (c.map sel) (de n (dW sel j c)):=by
 obtain⟨h1,h2⟩:=cg h;unfold av;rw[yS];refine IJ (c.map sel) n (dW sel j c) (wH sel j c) 1125899906842624 (by decide) (fun x hx=> ?_) (by simp;omega);obtain⟨d,hd,rfl⟩:=qE sel j c x hx;have:=cT (h2 d hd);rcases hj with rfl|rfl<;>omega
theorem wo (sel:Dat->Bool) {j:Nat} (hj:j=1\/j=2) (n:Int) {c:List Dat} (h:aW c=true):(de n (dW sel j c)).length=bW (c.map sel)/\(∀x∈de n (dW sel j c),0<=x/\x<=1125899906842624)/\0<=(de n (dW sel j c)).sum/\(de n (dW sel j c)).sum<=1125899906842624000/\(de n (dW sel j c)).sum=(av sel j n c).sum:=by
 obtain⟨h1,h2⟩:=cg h;have hb:∀x∈dW sel j c,0<=x/\x<=1125899906842624:=fun x hx=>by
  obtain⟨d,hd,rfl⟩:=qE sel j c x hx;have:=cT (h2 d hd);rcases hj with rfl|rfl<;>omega
 have hl:=wH sel j c;have ht:=lT (c.map sel);rw[zaR]at ht;have hok:=(uy (l:=dW sel j c) (b:=1125899906842624) (by decide) hb (by omega)).2;have e:de n (dW sel j c)=de (max n 0) (dW sel j c):=by
  by_cases hn:0<=n
  . rw[show max n 0=n by omega]
  . rw[show max n 0=0 by omega];exact Ec (by omega)
 obtain⟨p1,p2⟩:=Es (a:=max n 0) (by omega) hok;have hm:∀x∈de n (dW sel j c),0<=x/\x<=1125899906842624:=by
  intro x hx;obtain⟨i,hi,rfl⟩:=qY hx;rw[xu]at hi;rw[e];have:=p2 i hi;have:=hb _ (kC hi);omega
 have hlen:(de n (dW sel j c)).length=bW (c.map sel):=by rw[xu,hl]
 have hs:=rY _ _ (by decide) hm;rw[hlen]at hs;refine⟨hlen,hm,hs.1,by omega, ?_⟩;rw[lq sel hj n h,nC _ _ hlen]
def OF:aE:=⟨KV.tab,108,⟨[.ptr 0 0 0,.int .i64,.fn 135 [] [.ptr 3 0 0],.fn 110 [] []],[.cells [.int .i64,.int .i64,.int .i64,.int .i64,.int .i64,.buf 1 3,.int .i64,.int .i64,.buf 2 4],.ab (sI 3),.ab (sI 4),.cells [.int .i64]],0⟩,⟨[.int .i64],[.cells [.int .i64,.int .i64,.int .i64,.int .i64,.int .i64,.buf 1 3,.int .i64,.int .i64,.buf 4 4],.ab (sI 3),.gone,.gone,.ab (sI 4)],0⟩,[]⟩
abbrev BF:Type:=Int × Int × Int × bp × Int × Int × List Dat × List Int × List Int × List Dat
abbrev AQ:Type:=Int × Int × Int × bp × Int × Int × List Dat × Int × List Int × List Int × List Dat
def uO (m:Nat) (k:BF->Option (List Un)):BF->Option (List Un):=fun(a0,a1,a2,a3,a4,a5,a6,a7,a8,a9)=>
 bif decide (a2<a1)then
 chk (inb a2 a8.length)<|
 chk (decide (a2.toNat<a8.length))<|
 chk (inb a2 a7.length)<|
 chk (decide (a2.toNat<a7.length))<|
 chk (inb (a7.getD a2.toNat 0) a6.length)<|
 chk (decide ((a7.getD a2.toNat 0).toNat<a6.length))<|
 chk (decide ((a7.getD a2.toNat 0).toNat<a6.length))<|
 lt (af a6 ((a7.getD a2.toNat 0).toNat):Dat) fun d4=>
 lt ((List.set a6 ((a7.getD a2.toNat 0).toNat) (.r [.n (d4.i 0),.n (d4.i 1),.n (w64 (((af a6 ((a7.getD a2.toNat 0).toNat)).i 2)-(a8.getD a2.toNat 0)))])):List Dat) fun l5=>
 lt ((w64 (a0+(a8.getD a2.toNat 0))):Int) fun x6=>
 chk (inb a2 a7.length)<|
 chk (decide (a2.toNat<a7.length))<|
 bif (decide ((a8.getD a2.toNat 0)>0))then
 chk (fits (a9.length+1) 32)<|
 k (x6,a1,(w64 (a2+1)),a3,a4,a5,l5,a7,a8,(a9++([.r [.n a4,.n a5,.n (a7.getD a2.toNat 0),.n (a8.getD a2.toNat 0)]])))
 else
 k (x6,a1,(w64 (a2+1)),a3,a4,a5,l5,a7,a8,a9)
 else
 some ([.i a0]++Uns.enc (({a3 with ay:=(w64 (a3.ay-a0))}:bp):bp)++[.i a4,.i a5,.d a6,.d a9])
def pS (m:Nat):Nat->BF->Option (List Un):=bg (uO m)
theorem tJ (m:Nat) (n:Nat):pS m (n+1)=uO m (pS m n):=rfl
def E9 (F:BF->Option (List Un)):aQ:=⟨[.lp [0,1,0,1,1,1,1],.blk 2,.code [1,1,1,1,1]],⟨frm 88 [(0,.ptr 0 0 0),(3,.fn 110 [] []),(9,.buf 4 1),(13,.int .i64),(44,.buf 5 1),(45,.int .i64),(46,.int .i64)],[.cells [.int .i64,.int .i64,.int .i64,.int .i64,.int .i64,.buf 1 3,.int .i64,.int .i64,.buf 6 4],.ab (sI 3),.gone,.gone,.ints .i64,.ints .i64,.ab (sI 4)],0⟩,onU F⟩
def uu (m:Nat) (k:AQ->Option (List Un)):AQ->Option (List Un):=fun(a0,a1,a2,a3,a4,a5,a6,a7,a8,a9,a10)=>
 bif decide (a2<a1)then
 chk (inb a2 a6.length)<|
 chk (decide (a2.toNat<a6.length))<|
 lt (af a6 a2.toNat:Dat) fun d1=>
 bif (d1.i 0)==a7 then
 chk (fits (a8.length+1) 8)<|
 chk (fits (a9.length+1) 8)<|
 k (a0,a1,(w64 (a2+1)),a3,a4,a5,a6,a7,(a8++([a2])),(a9++([(d1.i 2)])),a10)
 else
 k (a0,a1,(w64 (a2+1)),a3,a4,a5,a6,a7,a8,a9,a10)
 else
 chk (decide (a0<=9223372036854775807/\a9.length<1099511627776))<|
 pS m m (0,((de a0 a9).length:Int),0,a3,a4,a5,a6,a8,(de a0 a9),a10)
def rZ (m:Nat):Nat->AQ->Option (List Un):=bg (uu m)
theorem tn (m:Nat) (n:Nat):rZ m (n+1)=uu m (rZ m n):=rfl
def Gb (F:AQ->Option (List Un)):aQ:=⟨[.lp [0,1,0,1,1],.blk 0,.code [1,1,1]],⟨frm 88 [(0,.ptr 0 0 0),(1,.int .i64),(2,.fn 135 [] [.ptr 4 0 0]),(3,.fn 110 [] []),(9,.buf 5 1),(10,.buf 6 1),(20,.buf 1 3),(21,.int .i64),(22,.int .i64)],[.cells [.int .i64,.int .i64,.int .i64,.int .i64,.int .i64,.buf 1 3,.int .i64,.int .i64,.buf 7 4],.ab (sI 3),.gone,.gone,.cells [.int .i64],.ints .i64,.ints .i64,.ab (sI 4)],0⟩,onU F⟩
theorem SK (m:Nat):∀n,HO OF (E9 (pS m n)):=ar ah KV.right (fun k=>[E9 k]) (fun k h=>(aH h aA)) fun k a=>by kernel_rfl
theorem Rn (m:Nat):∀n,HO OF (Gb (rZ m n)):=ar ah KV.right (fun k=>[Gb k,E9 (pS m m)]) (fun k h=>(aH h (aH (SK m m) aA))) fun k a=>by kernel_rfl
def QH (m:Nat):Int × bp × Int × Int × List Dat × List Dat × Int->Option (List Un):=fun(a0,a1,a2,a3,a4,a5,a6)=>
 rZ m m (a0,(a4.length:Int),0,a1,a2,a3,a4,a6,[],[],a5)
theorem OL (m:Nat) (nn:Int) (hnn:nn<=9223372036854775807) (y:bp) (q kd:Int) (rk:Int) (out:List Dat):∀(rest pre:List Dat) (n:Nat) (who what:List Int),rest.length<n->(pre++rest).length<=1000->who.length<=pre.length->what.length<=pre.length->
 rZ m n (nn,((pre++rest).length:Int),(pre.length:Int),y,q,kd,pre++rest,rk,who,what,out)=
  pS m m (0,((de nn (what++dW (aN rk) 2 rest)).length:Int),0,y,q,kd,pre++rest,who++iw (aN rk) pre.length rest,de nn (what++dW (aN rk) 2 rest),out):=by
 intro rest
 induction rest with
 |nil=>
  intro pre n who what hn hl h1 h2;obtain⟨n,rfl⟩:=ai n (by simp at hn;omega);rw[tn];unfold uu;dsimp only;simp only[zaS,iw,dW]at hl⊢;rw[az (by omega),aI ⟨hnn,by omega⟩]
 |cons x rest ih=>
  intro pre n who what hn hl h1 h2;obtain⟨n,rfl⟩:=ai n (by simp at hn;omega);simp only[zad,zac]at hl hn;rw[tn];unfold uu;dsimp only;simp only[lt_eq]
  by_cases hs:x.i 0=rk
  . have:=ih (pre++[x]) n (who++[(pre.length:Int)]) (what++[x.i 2]) (by omega) (by simp;omega) (by simp;omega) (by simp;omega);simp only[iw,dW,aN,sZ hs,zau]at this⊢;simp(disch:=omega) only[TRa,TRi,aa,LNl,LNi,zaa,au,bL];simp only[LNl,LNi,zaa]at this⊢;exact this
  . have:=ih (pre++[x]) n who what (by omega) (by simp;omega) (by simp;omega) (by simp;omega);simp only[iw,dW,aN,lZ hs,zao]at this⊢;simp(disch:=omega) only[TRa,TRi,aa,LNl,LNi,zaa,au,bL];simp only[LNl,LNi,zaa]at this⊢;exact this
theorem OC (m:Nat) (y:bp) (hy:0<=y.ay/\y.ay<=1152921504606846976) (q kd:Int):∀(rest done ws wd:List Int) (c out:List Dat) (n:Nat) (paid:Int),rest.length<n->ws.length=rest.length->wd.length=done.length->(done++rest).length<=1000->(∀w∈ws,0<=w/\w<c.length)->(∀x∈rest,0<=x/\x<=1152921504606846976)->0<=paid->paid+rest.sum<=1152921504606846976->(∀i,i<c.length-> -paid<=(af c i).i 2/\(af c i).i 2<=1152921504606846976)->c.length<=1000->out.length+rest.length<=137438953472->
 pS m n (paid,((done++rest).length:Int),(done.length:Int),y,q,kd,c,wd++ws,done++rest,out)=
  some ([.i (paid+rest.sum)]++Uns.enc (({y with ay:=y.ay-(paid+rest.sum)}:bp):bp)++[.i q,.i kd,.d (lR 2 ws rest c),.d (out++ub q kd ws rest)]):=by
 intro rest
 induction rest with
 |nil=>
  intro done ws wd c out n paid hn e1 e2 hl hw hx p0 p1 hc cl ol;obtain⟨n,rfl⟩:=ai n (by simp at hn;omega);obtain rfl:=zax e1;rw[tJ];unfold uO;dsimp only;simp only[zaS,lR,ub,List.sum_nil,zbU]at p1⊢;rw[az (by omega),aa (by omega) (by omega)]
 |cons x rest ih=>
  intro done ws wd c out n paid hn e1 e2 hl hw hx p0 p1 hc cl ol;obtain⟨n,rfl⟩:=ai n (by simp at hn;omega);cases ws with
  |nil=>simp at e1
  |cons w ws=>
  simp only[zad,zac,zbv]at hl hn e1 p1 ol;have hx0:=hx x (by simp);have hw0:=hw w (by simp);have hs0:=eX rest (fun z hz=>(hx z (by simp[hz])).1);obtain⟨v,rfl⟩:∃v:Nat,w=(v:Int):=⟨w.toNat,by omega⟩
  have hr:=hc v (by omega);have gw:(wd++(v:Int)::ws).getD done.length 0=v:=by rw[<-e2];exact bL _ _ _ _
  have hset:∀i,i<(c.set v (cE 2 x (af c v))).length-> -(paid+x)<=(af (c.set v (cE 2 x (af c v))) i).i 2/\(af (c.set v (cE 2 x (af c v))) i).i 2<=1152921504606846976:=by
   intro i hi;rw[zbf]at hi
   by_cases e:i=v
   . subst e;have e3:af (c.set i (cE 2 x (af c i))) i=cE 2 x (af c i):=by simp[af,hi]
     rw[e3];simp only[cE,show ¬(2:Nat)=1 by decide,zbh,iM];omega
   . have e3:af (c.set v (cE 2 x (af c v))) i=af c i:=by simp[af,zbi,zcm e]
     rw[e3];have:=hc i hi;omega
  have:=ih (done++[x]) ws (wd++[(v:Int)]) (c.set v (cE 2 x (af c v))) (out++if 0<x then[.r [.n q,.n kd,.n v,.n x]]else[]) n (paid+x) (by omega) (by omega) (by simp[e2]) (by simp;omega) (fun z hz=>by have:=hw z (by simp[hz]);simpa using this) (fun z hz=>hx z (by simp[hz])) (by omega) (by omega) hset (by simpa using cl) (by split<;>simp<;>omega);simp only[lR,ub,zbv,zaz];rw[show paid+(x+rest.sum)=paid+x+rest.sum by omega];rw[<-zat,<-this];rw[tJ];unfold uO;dsimp only;have ec:done++[x]++rest=done++x::rest:=by simp
  have ew:wd++[(v:Int)]++ws=wd++(v:Int)::ws:=by simp
  rw[ec,ew];have e5:(cE 2 x (af c v))=Dat.r [.n ((af c v).i 0),.n ((af c v).i 1),.n ((af c v).i 2-x)]:=by simp only[cE,show ¬(2:Nat)=1 by decide,zbh]
  rw[e5];simp only[lt_eq,zaz,gw,bL,zad,zac,zas,zaI,zaD,zaa]
  by_cases h0:0<x
  . rw[if_pos h0];simp(disch:=omega) only[TRa,TRi,aa,zaD]
  . rw[if_neg h0];simp(disch:=omega) only[TRa,TRi,aa,zaD,zaS]
def VU:Int × bp × Int × Int × List Dat × List Dat × Int->Bool × List Un:=fun(a0,a1,a2,a3,a4,a5,a6)=>(decide (a0<=9223372036854775807/\0<=a1.ay/\a1.ay<=1152921504606846976/\a5.length<=68719476736)&&aW a4,[.i ((av (aN a6) 2 a0 a4).sum)]++Uns.enc (({a1 with ay:=a1.ay-(av (aN a6) 2 a0 a4).sum}):bp)++[.i (a2),.i (a3),.d (bV 2 (av (aN a6) 2 a0 a4) a4),.d (a5++bT a2 a3 0 (av (aN a6) 2 a0 a4))])
theorem Nx (a0:Int) (a1:bp) (a2:Int) (a3:Int) (a4:List Dat) (a5:List Dat) (a6:Int) (hc:(decide (a0<=9223372036854775807/\0<=a1.ay/\a1.ay<=1152921504606846976/\a5.length<=68719476736)&&aW a4)=true):∃m,QH m (a0,a1,a2,a3,a4,a5,a6)=some ([.i ((av (aN a6) 2 a0 a4).sum)]++Uns.enc (({a1 with ay:=a1.ay-(av (aN a6) 2 a0 a4).sum}):bp)++[.i (a2),.i (a3),.d (bV 2 (av (aN a6) 2 a0 a4) a4),.d (a5++bT a2 a3 0 (av (aN a6) 2 a0 a4))]):=by
 simp only[zab,zag]at hc;obtain⟨⟨h1,h2,h3,h4⟩,h5⟩:=hc;obtain⟨c1,c2⟩:=cg h5;obtain⟨p1,p2,p3,p4,p5⟩:=wo (aN a6) (j:=2) (.inr rfl) a0 h5;refine⟨2000, ?_⟩;unfold QH;refine(OL 2000 a0 h1 a1 a2 a3 a6 a5 a4 [] 2000 [] [] (by omega) (by simpa using c1) (by simp) (by simp)).trans ?_
 simp only[zaC,zas];have ht:=lT (a4.map (aN a6));rw[zaR]at ht;have e:=OC 2000 a1 ⟨h2,h3⟩ a2 a3 (de a0 (dW (aN a6) 2 a4)) [] (iw (aN a6) 0 a4) [] a4 a5 2000 0 (by omega) (by rw[p1,qQ]) rfl (by simp;omega) (fun w hw=>by have:=ri _ _ _ w hw;omega) (fun x hx=>by have:=p2 x hx;omega) (by omega) (by omega) (fun i hi=>by have:=cT (c2 _ (mQ hi));omega) c1 (by omega);refine e.trans ?_
 have g1:=oR (aN a6) 2 a4 [] (de a0 (dW (aN a6) 2 a4)) p1 (fun d hd=>(cT (c2 d hd)).1);have g2:=qB a2 a3 (aN a6) a4 0 (de a0 (dW (aN a6) 2 a4)) p1;simp only[zaC,zas,zaa]at g1 g2;rw[g1,g2,za0,p5,lq (aN a6) (j:=2) (.inr rfl) a0 h5]
theorem L1:ER 108 (mkE OF.en OF.ex VU):=aq ah KV.right (fun m=>[Gb (rZ m m)]) (t:=QH) (by kernel_rfl) (fun m=>(aH (Rn m m) aA)) (fun m a=>by kernel_rfl) fun(a0,a1,a2,a3,a4,a5,a6) hc=>Nx a0 a1 a2 a3 a4 a5 a6 hc
def LK:Tb Tryz.prog LQ TE XX:=KV.add 108 _ L1
def Oy:aE:=⟨LK.tab,108,⟨[.ptr 0 0 0,.int .i64,.fn 135 [] [.ptr 3 0 0],.fn 113 [] []],[.cells [.int .i64,.int .i64,.int .i64,.int .i64,.int .i64,.buf 1 3,.int .i64,.int .i64,.buf 2 4],.ab (sI 3),.ab (sI 4),.cells [.int .i64]],0⟩,⟨[.int .i64],[.cells [.int .i64,.int .i64,.int .i64,.int .i64,.int .i64,.buf 1 3,.int .i64,.int .i64,.buf 4 4],.ab (sI 3),.gone,.gone,.ab (sI 4)],0⟩,[]⟩
abbrev Bn:Type:=Int × Int × Int × bp × Int × Int × List Dat × List Int × List Int × List Dat
abbrev B2:Type:=Int × Int × Int × bp × Int × Int × List Dat × Int × List Int × List Int × List Dat
def uE (m:Nat) (k:Bn->Option (List Un)):Bn->Option (List Un):=fun(a0,a1,a2,a3,a4,a5,a6,a7,a8,a9)=>
 bif decide (a2<a1)then
 chk (inb a2 a8.length)<|
 chk (decide (a2.toNat<a8.length))<|
 chk (inb a2 a7.length)<|
 chk (decide (a2.toNat<a7.length))<|
 chk (inb (a7.getD a2.toNat 0) a6.length)<|
 chk (decide ((a7.getD a2.toNat 0).toNat<a6.length))<|
 chk (decide ((a7.getD a2.toNat 0).toNat<a6.length))<|
 lt (af a6 ((a7.getD a2.toNat 0).toNat):Dat) fun d4=>
 lt ((List.set a6 ((a7.getD a2.toNat 0).toNat) (.r [.n (d4.i 0),.n (w64 (((af a6 ((a7.getD a2.toNat 0).toNat)).i 1)-(a8.getD a2.toNat 0))),.n (d4.i 2)])):List Dat) fun l5=>
 lt ((w64 (a0+(a8.getD a2.toNat 0))):Int) fun x6=>
 chk (inb a2 a7.length)<|
 chk (decide (a2.toNat<a7.length))<|
 bif (decide ((a8.getD a2.toNat 0)>0))then
 chk (fits (a9.length+1) 32)<|
 k (x6,a1,(w64 (a2+1)),a3,a4,a5,l5,a7,a8,(a9++([.r [.n a4,.n a5,.n (a7.getD a2.toNat 0),.n (a8.getD a2.toNat 0)]])))
 else
 k (x6,a1,(w64 (a2+1)),a3,a4,a5,l5,a7,a8,a9)
 else
 some ([.i a0]++Uns.enc (({a3 with ay:=(w64 (a3.ay-a0))}:bp):bp)++[.i a4,.i a5,.d a6,.d a9])
def pY (m:Nat):Nat->Bn->Option (List Un):=bg (uE m)
theorem ta (m:Nat) (n:Nat):pY m (n+1)=uE m (pY m n):=rfl
def Fb (F:Bn->Option (List Un)):aQ:=⟨[.lp [0,1,0,1,1,1,1],.blk 2,.code [1,1,1,1,1]],⟨frm 88 [(0,.ptr 0 0 0),(3,.fn 113 [] []),(9,.buf 4 1),(13,.int .i64),(44,.buf 5 1),(45,.int .i64),(46,.int .i64)],[.cells [.int .i64,.int .i64,.int .i64,.int .i64,.int .i64,.buf 1 3,.int .i64,.int .i64,.buf 6 4],.ab (sI 3),.gone,.gone,.ints .i64,.ints .i64,.ab (sI 4)],0⟩,onU F⟩
def uo (m:Nat) (k:B2->Option (List Un)):B2->Option (List Un):=fun(a0,a1,a2,a3,a4,a5,a6,a7,a8,a9,a10)=>
 bif decide (a2<a1)then
 chk (inb a2 a6.length)<|
 chk (decide (a2.toNat<a6.length))<|
 lt (af a6 a2.toNat:Dat) fun d1=>
 bif (d1.i 0)==a7 then
 chk (fits (a8.length+1) 8)<|
 chk (fits (a9.length+1) 8)<|
 k (a0,a1,(w64 (a2+1)),a3,a4,a5,a6,a7,(a8++([a2])),(a9++([(d1.i 1)])),a10)
 else
 k (a0,a1,(w64 (a2+1)),a3,a4,a5,a6,a7,a8,a9,a10)
 else
 chk (decide (a0<=9223372036854775807/\a9.length<1099511627776))<|
 pY m m (0,((de a0 a9).length:Int),0,a3,a4,a5,a6,a8,(de a0 a9),a10)
def rP (m:Nat):Nat->B2->Option (List Un):=bg (uo m)
theorem sU (m:Nat) (n:Nat):rP m (n+1)=uo m (rP m n):=rfl
def Fz (F:B2->Option (List Un)):aQ:=⟨[.lp [0,1,0,1,1],.blk 0,.code [1,1,1]],⟨frm 88 [(0,.ptr 0 0 0),(1,.int .i64),(2,.fn 135 [] [.ptr 4 0 0]),(3,.fn 113 [] []),(9,.buf 5 1),(10,.buf 6 1),(20,.buf 1 3),(21,.int .i64),(22,.int .i64)],[.cells [.int .i64,.int .i64,.int .i64,.int .i64,.int .i64,.buf 1 3,.int .i64,.int .i64,.buf 7 4],.ab (sI 3),.gone,.gone,.cells [.int .i64],.ints .i64,.ints .i64,.ab (sI 4)],0⟩,onU F⟩
theorem QV (m:Nat):∀n,HO Oy (Fb (pY m n)):=ar ah LK.right (fun k=>[Fb k]) (fun k h=>(aH h aA)) fun k a=>by kernel_rfl
theorem Q6 (m:Nat):∀n,HO Oy (Fz (rP m n)):=ar ah LK.right (fun k=>[Fz k,Fb (pY m m)]) (fun k h=>(aH h (aH (QV m m) aA))) fun k a=>by kernel_rfl
def Rp (m:Nat):Int × bp × Int × Int × List Dat × List Dat × Int->Option (List Un):=fun(a0,a1,a2,a3,a4,a5,a6)=>
 rP m m (a0,(a4.length:Int),0,a1,a2,a3,a4,a6,[],[],a5)
theorem Mo (m:Nat) (nn:Int) (hnn:nn<=9223372036854775807) (y:bp) (q kd:Int) (rk:Int) (out:List Dat):∀(rest pre:List Dat) (n:Nat) (who what:List Int),rest.length<n->(pre++rest).length<=1000->who.length<=pre.length->what.length<=pre.length->
 rP m n (nn,((pre++rest).length:Int),(pre.length:Int),y,q,kd,pre++rest,rk,who,what,out)=
  pY m m (0,((de nn (what++dW (aN rk) 1 rest)).length:Int),0,y,q,kd,pre++rest,who++iw (aN rk) pre.length rest,de nn (what++dW (aN rk) 1 rest),out):=by
 intro rest
 induction rest with
 |nil=>
  intro pre n who what hn hl h1 h2;obtain⟨n,rfl⟩:=ai n (by simp at hn;omega);rw[sU];unfold uo;dsimp only;simp only[zaS,iw,dW]at hl⊢;rw[az (by omega),aI ⟨hnn,by omega⟩]
 |cons x rest ih=>
  intro pre n who what hn hl h1 h2;obtain⟨n,rfl⟩:=ai n (by simp at hn;omega);simp only[zad,zac]at hl hn;rw[sU];unfold uo;dsimp only;simp only[lt_eq]
  by_cases hs:x.i 0=rk
  . have:=ih (pre++[x]) n (who++[(pre.length:Int)]) (what++[x.i 1]) (by omega) (by simp;omega) (by simp;omega) (by simp;omega);simp only[iw,dW,aN,sZ hs,zau]at this⊢;simp(disch:=omega) only[TRa,TRi,aa,LNl,LNi,zaa,au,bL];simp only[LNl,LNi,zaa]at this⊢;exact this
  . have:=ih (pre++[x]) n who what (by omega) (by simp;omega) (by simp;omega) (by simp;omega);simp only[iw,dW,aN,lZ hs,zao]at this⊢;simp(disch:=omega) only[TRa,TRi,aa,LNl,LNi,zaa,au,bL];simp only[LNl,LNi,zaa]at this⊢;exact this
theorem MS (m:Nat) (y:bp) (hy:0<=y.ay/\y.ay<=1152921504606846976) (q kd:Int):∀(rest done ws wd:List Int) (c out:List Dat) (n:Nat) (paid:Int),rest.length<n->ws.length=rest.length->wd.length=done.length->(done++rest).length<=1000->(∀w∈ws,0<=w/\w<c.length)->(∀x∈rest,0<=x/\x<=1152921504606846976)->0<=paid->paid+rest.sum<=1152921504606846976->(∀i,i<c.length-> -paid<=(af c i).i 1/\(af c i).i 1<=1152921504606846976)->c.length<=1000->out.length+rest.length<=137438953472->
 pY m n (paid,((done++rest).length:Int),(done.length:Int),y,q,kd,c,wd++ws,done++rest,out)=
  some ([.i (paid+rest.sum)]++Uns.enc (({y with ay:=y.ay-(paid+rest.sum)}:bp):bp)++[.i q,.i kd,.d (lR 1 ws rest c),.d (out++ub q kd ws rest)]):=by
 intro rest
 induction rest with
 |nil=>
  intro done ws wd c out n paid hn e1 e2 hl hw hx p0 p1 hc cl ol;obtain⟨n,rfl⟩:=ai n (by simp at hn;omega);obtain rfl:=zax e1;rw[ta];unfold uE;dsimp only;simp only[zaS,lR,ub,List.sum_nil,zbU]at p1⊢;rw[az (by omega),aa (by omega) (by omega)]
 |cons x rest ih=>
  intro done ws wd c out n paid hn e1 e2 hl hw hx p0 p1 hc cl ol;obtain⟨n,rfl⟩:=ai n (by simp at hn;omega);cases ws with
  |nil=>simp at e1
  |cons w ws=>
  simp only[zad,zac,zbv]at hl hn e1 p1 ol;have hx0:=hx x (by simp);have hw0:=hw w (by simp);have hs0:=eX rest (fun z hz=>(hx z (by simp[hz])).1);obtain⟨v,rfl⟩:∃v:Nat,w=(v:Int):=⟨w.toNat,by omega⟩
  have hr:=hc v (by omega);have gw:(wd++(v:Int)::ws).getD done.length 0=v:=by rw[<-e2];exact bL _ _ _ _
  have hset:∀i,i<(c.set v (cE 1 x (af c v))).length-> -(paid+x)<=(af (c.set v (cE 1 x (af c v))) i).i 1/\(af (c.set v (cE 1 x (af c v))) i).i 1<=1152921504606846976:=by
   intro i hi;rw[zbf]at hi
   by_cases e:i=v
   . subst e;have e3:af (c.set i (cE 1 x (af c i))) i=cE 1 x (af c i):=by simp[af,hi]
     rw[e3];simp only[cE,zbc,fa];omega
   . have e3:af (c.set v (cE 1 x (af c v))) i=af c i:=by simp[af,zbi,zcm e]
     rw[e3];have:=hc i hi;omega
  have:=ih (done++[x]) ws (wd++[(v:Int)]) (c.set v (cE 1 x (af c v))) (out++if 0<x then[.r [.n q,.n kd,.n v,.n x]]else[]) n (paid+x) (by omega) (by omega) (by simp[e2]) (by simp;omega) (fun z hz=>by have:=hw z (by simp[hz]);simpa using this) (fun z hz=>hx z (by simp[hz])) (by omega) (by omega) hset (by simpa using cl) (by split<;>simp<;>omega);simp only[lR,ub,zbv,zaz];rw[show paid+(x+rest.sum)=paid+x+rest.sum by omega];rw[<-zat,<-this];rw[ta];unfold uE;dsimp only;have ec:done++[x]++rest=done++x::rest:=by simp
  have ew:wd++[(v:Int)]++ws=wd++(v:Int)::ws:=by simp
  rw[ec,ew];have e5:(cE 1 x (af c v))=Dat.r [.n ((af c v).i 0),.n ((af c v).i 1-x),.n ((af c v).i 2)]:=by simp only[cE,zbc]
  rw[e5];simp only[lt_eq,zaz,gw,bL,zad,zac,zas,zaI,zaD,zaa]
  by_cases h0:0<x
  . rw[if_pos h0];simp(disch:=omega) only[TRa,TRi,aa,zaD]
  . rw[if_neg h0];simp(disch:=omega) only[TRa,TRi,aa,zaD,zaS]
def Wa:Int × bp × Int × Int × List Dat × List Dat × Int->Bool × List Un:=fun(a0,a1,a2,a3,a4,a5,a6)=>(decide (a0<=9223372036854775807/\0<=a1.ay/\a1.ay<=1152921504606846976/\a5.length<=68719476736)&&aW a4,[.i ((av (aN a6) 1 a0 a4).sum)]++Uns.enc (({a1 with ay:=a1.ay-(av (aN a6) 1 a0 a4).sum}):bp)++[.i (a2),.i (a3),.d (bV 1 (av (aN a6) 1 a0 a4) a4),.d (a5++bT a2 a3 0 (av (aN a6) 1 a0 a4))])
theorem PW (a0:Int) (a1:bp) (a2:Int) (a3:Int) (a4:List Dat) (a5:List Dat) (a6:Int) (hc:(decide (a0<=9223372036854775807/\0<=a1.ay/\a1.ay<=1152921504606846976/\a5.length<=68719476736)&&aW a4)=true):∃m,Rp m (a0,a1,a2,a3,a4,a5,a6)=some ([.i ((av (aN a6) 1 a0 a4).sum)]++Uns.enc (({a1 with ay:=a1.ay-(av (aN a6) 1 a0 a4).sum}):bp)++[.i (a2),.i (a3),.d (bV 1 (av (aN a6) 1 a0 a4) a4),.d (a5++bT a2 a3 0 (av (aN a6) 1 a0 a4))]):=by
 simp only[zab,zag]at hc;obtain⟨⟨h1,h2,h3,h4⟩,h5⟩:=hc;obtain⟨c1,c2⟩:=cg h5;obtain⟨p1,p2,p3,p4,p5⟩:=wo (aN a6) (j:=1) (.inl rfl) a0 h5;refine⟨2000, ?_⟩;unfold Rp;refine(Mo 2000 a0 h1 a1 a2 a3 a6 a5 a4 [] 2000 [] [] (by omega) (by simpa using c1) (by simp) (by simp)).trans ?_
 simp only[zaC,zas];have ht:=lT (a4.map (aN a6));rw[zaR]at ht;have e:=MS 2000 a1 ⟨h2,h3⟩ a2 a3 (de a0 (dW (aN a6) 1 a4)) [] (iw (aN a6) 0 a4) [] a4 a5 2000 0 (by omega) (by rw[p1,qQ]) rfl (by simp;omega) (fun w hw=>by have:=ri _ _ _ w hw;omega) (fun x hx=>by have:=p2 x hx;omega) (by omega) (by omega) (fun i hi=>by have:=cT (c2 _ (mQ hi));omega) c1 (by omega);refine e.trans ?_
 have g1:=oR (aN a6) 1 a4 [] (de a0 (dW (aN a6) 1 a4)) p1 (fun d hd=>(cT (c2 d hd)).1);have g2:=qB a2 a3 (aN a6) a4 0 (de a0 (dW (aN a6) 1 a4)) p1;simp only[zaC,zas,zaa]at g1 g2;rw[g1,g2,za0,p5,lq (aN a6) (j:=1) (.inl rfl) a0 h5]
theorem JP:ER 108 (mkE Oy.en Oy.ex Wa):=aq ah LK.right (fun m=>[Fz (rP m m)]) (t:=Rp) (by kernel_rfl) (fun m=>(aH (Q6 m m) aA)) (fun m a=>by kernel_rfl) fun(a0,a1,a2,a3,a4,a5,a6) hc=>PW a0 a1 a2 a3 a4 a5 a6 hc
def Lv:Tb Tryz.prog LQ TE XX:=LK.add 108 _ JP
def PZ:aE:=⟨Lv.tab,108,⟨[.ptr 0 0 0,.int .i64,.fn 112 [] [],.fn 113 [] []],[.cells [.int .i64,.int .i64,.int .i64,.int .i64,.int .i64,.buf 1 3,.int .i64,.int .i64,.buf 2 4],.ab (sI 3),.ab (sI 4)],0⟩,⟨[.int .i64],[.cells [.int .i64,.int .i64,.int .i64,.int .i64,.int .i64,.buf 1 3,.int .i64,.int .i64,.buf 3 4],.ab (sI 3),.gone,.ab (sI 4)],0⟩,[]⟩
abbrev BU:Type:=Int × Int × Int × bp × Int × Int × List Dat × List Int × List Int × List Dat
abbrev B1:Type:=Int × Int × Int × bp × Int × Int × List Dat × List Int × List Int × List Dat
def uK (m:Nat) (k:BU->Option (List Un)):BU->Option (List Un):=fun(a0,a1,a2,a3,a4,a5,a6,a7,a8,a9)=>
 bif decide (a2<a1)then
 chk (inb a2 a8.length)<|
 chk (decide (a2.toNat<a8.length))<|
 chk (inb a2 a7.length)<|
 chk (decide (a2.toNat<a7.length))<|
 chk (inb (a7.getD a2.toNat 0) a6.length)<|
 chk (decide ((a7.getD a2.toNat 0).toNat<a6.length))<|
 chk (decide ((a7.getD a2.toNat 0).toNat<a6.length))<|
 lt (af a6 ((a7.getD a2.toNat 0).toNat):Dat) fun d4=>
 lt ((List.set a6 ((a7.getD a2.toNat 0).toNat) (.r [.n (d4.i 0),.n (w64 (((af a6 ((a7.getD a2.toNat 0).toNat)).i 1)-(a8.getD a2.toNat 0))),.n (d4.i 2)])):List Dat) fun l5=>
 lt ((w64 (a0+(a8.getD a2.toNat 0))):Int) fun x6=>
 chk (inb a2 a7.length)<|
 chk (decide (a2.toNat<a7.length))<|
 bif (decide ((a8.getD a2.toNat 0)>0))then
 chk (fits (a9.length+1) 32)<|
 k (x6,a1,(w64 (a2+1)),a3,a4,a5,l5,a7,a8,(a9++([.r [.n a4,.n a5,.n (a7.getD a2.toNat 0),.n (a8.getD a2.toNat 0)]])))
 else
 k (x6,a1,(w64 (a2+1)),a3,a4,a5,l5,a7,a8,a9)
 else
 some ([.i a0]++Uns.enc (({a3 with ay:=(w64 (a3.ay-a0))}:bp):bp)++[.i a4,.i a5,.d a6,.d a9])
def pW (m:Nat):Nat->BU->Option (List Un):=bg (uK m)
theorem sY (m:Nat) (n:Nat):pW m (n+1)=uK m (pW m n):=rfl
def Fo (F:BU->Option (List Un)):aQ:=⟨[.lp [0,1,0,1,1,1,1],.blk 2,.code [1,1,1,1,1]],⟨frm 88 [(0,.ptr 0 0 0),(3,.fn 113 [] []),(9,.buf 3 1),(13,.int .i64),(44,.buf 4 1),(45,.int .i64),(46,.int .i64)],[.cells [.int .i64,.int .i64,.int .i64,.int .i64,.int .i64,.buf 1 3,.int .i64,.int .i64,.buf 5 4],.ab (sI 3),.gone,.ints .i64,.ints .i64,.ab (sI 4)],0⟩,onU F⟩
def uH (m:Nat) (k:B1->Option (List Un)):B1->Option (List Un):=fun(a0,a1,a2,a3,a4,a5,a6,a7,a8,a9)=>
 bif decide (a2<a1)then
 chk (inb a2 a6.length)<|
 chk (decide (a2.toNat<a6.length))<|
 chk (fits (a7.length+1) 8)<|
 chk (fits (a8.length+1) 8)<|
 k (a0,a1,(w64 (a2+1)),a3,a4,a5,a6,(a7++([a2])),(a8++([((af a6 a2.toNat).i 1)])),a9)
 else
 chk (decide (a0<=9223372036854775807/\a8.length<1099511627776))<|
 pW m m (0,((de a0 a8).length:Int),0,a3,a4,a5,a6,a7,(de a0 a8),a9)
def rV (m:Nat):Nat->B1->Option (List Un):=bg (uH m)
theorem tB (m:Nat) (n:Nat):rV m (n+1)=uH m (rV m n):=rfl
def FY (F:B1->Option (List Un)):aQ:=⟨[.lp [0,1,0,1,1],.blk 0,.code [1,1,1]],⟨frm 88 [(0,.ptr 0 0 0),(1,.int .i64),(2,.fn 112 [] []),(3,.fn 113 [] []),(9,.buf 3 1),(10,.buf 4 1),(20,.buf 1 3),(21,.int .i64),(22,.int .i64)],[.cells [.int .i64,.int .i64,.int .i64,.int .i64,.int .i64,.buf 1 3,.int .i64,.int .i64,.buf 5 4],.ab (sI 3),.gone,.ints .i64,.ints .i64,.ab (sI 4)],0⟩,onU F⟩
theorem Qx (m:Nat):∀n,HO PZ (Fo (pW m n)):=ar ah Lv.right (fun k=>[Fo k]) (fun k h=>(aH h aA)) fun k a=>by kernel_rfl
theorem RH (m:Nat):∀n,HO PZ (FY (rV m n)):=ar ah Lv.right (fun k=>[FY k,Fo (pW m m)]) (fun k h=>(aH h (aH (Qx m m) aA))) fun k a=>by kernel_rfl
def RG (m:Nat):Int × bp × Int × Int × List Dat × List Dat->Option (List Un):=fun(a0,a1,a2,a3,a4,a5)=>
 rV m m (a0,(a4.length:Int),0,a1,a2,a3,a4,[],[],a5)
theorem ND (m:Nat) (nn:Int) (hnn:nn<=9223372036854775807) (y:bp) (q kd:Int) (out:List Dat):∀(rest pre:List Dat) (n:Nat) (who what:List Int),rest.length<n->(pre++rest).length<=1000->who.length<=pre.length->what.length<=pre.length->
 rV m n (nn,((pre++rest).length:Int),(pre.length:Int),y,q,kd,pre++rest,who,what,out)=
  pW m m (0,((de nn (what++dW (fun _=>true) 1 rest)).length:Int),0,y,q,kd,pre++rest,who++iw (fun _=>true) pre.length rest,de nn (what++dW (fun _=>true) 1 rest),out):=by
 intro rest
 induction rest with
 |nil=>
  intro pre n who what hn hl h1 h2;obtain⟨n,rfl⟩:=ai n (by simp at hn;omega);rw[tB];unfold uH;dsimp only;simp only[zaS,iw,dW]at hl⊢;rw[az (by omega),aI ⟨hnn,by omega⟩]
 |cons x rest ih=>
  intro pre n who what hn hl h1 h2;obtain⟨n,rfl⟩:=ai n (by simp at hn;omega);simp only[zad,zac]at hl hn;rw[tB];unfold uH;dsimp only;have:=ih (pre++[x]) n (who++[(pre.length:Int)]) (what++[x.i 1]) (by omega) (by simp;omega) (by simp;omega) (by simp;omega);simp only[iw,dW,zau]at this⊢;simp(disch:=omega) only[TRa,TRi,aa,LNl,LNi,zaa,au,bL];simp only[LNl,LNi,zaa]at this⊢;exact this
theorem PU (m:Nat) (y:bp) (hy:0<=y.ay/\y.ay<=1152921504606846976) (q kd:Int):∀(rest done ws wd:List Int) (c out:List Dat) (n:Nat) (paid:Int),rest.length<n->ws.length=rest.length->wd.length=done.length->(done++rest).length<=1000->(∀w∈ws,0<=w/\w<c.length)->(∀x∈rest,0<=x/\x<=1152921504606846976)->0<=paid->paid+rest.sum<=1152921504606846976->(∀i,i<c.length-> -paid<=(af c i).i 1/\(af c i).i 1<=1152921504606846976)->c.length<=1000->out.length+rest.length<=137438953472->
 pW m n (paid,((done++rest).length:Int),(done.length:Int),y,q,kd,c,wd++ws,done++rest,out)=
  some ([.i (paid+rest.sum)]++Uns.enc (({y with ay:=y.ay-(paid+rest.sum)}:bp):bp)++[.i q,.i kd,.d (lR 1 ws rest c),.d (out++ub q kd ws rest)]):=by
 intro rest
 induction rest with
 |nil=>
  intro done ws wd c out n paid hn e1 e2 hl hw hx p0 p1 hc cl ol;obtain⟨n,rfl⟩:=ai n (by simp at hn;omega);obtain rfl:=zax e1;rw[sY];unfold uK;dsimp only;simp only[zaS,lR,ub,List.sum_nil,zbU]at p1⊢;rw[az (by omega),aa (by omega) (by omega)]
 |cons x rest ih=>
  intro done ws wd c out n paid hn e1 e2 hl hw hx p0 p1 hc cl ol;obtain⟨n,rfl⟩:=ai n (by simp at hn;omega);cases ws with
  |nil=>simp at e1
  |cons w ws=>
  simp only[zad,zac,zbv]at hl hn e1 p1 ol;have hx0:=hx x (by simp);have hw0:=hw w (by simp);have hs0:=eX rest (fun z hz=>(hx z (by simp[hz])).1);obtain⟨v,rfl⟩:∃v:Nat,w=(v:Int):=⟨w.toNat,by omega⟩
  have hr:=hc v (by omega);have gw:(wd++(v:Int)::ws).getD done.length 0=v:=by rw[<-e2];exact bL _ _ _ _
  have hset:∀i,i<(c.set v (cE 1 x (af c v))).length-> -(paid+x)<=(af (c.set v (cE 1 x (af c v))) i).i 1/\(af (c.set v (cE 1 x (af c v))) i).i 1<=1152921504606846976:=by
   intro i hi;rw[zbf]at hi
   by_cases e:i=v
   . subst e;have e3:af (c.set i (cE 1 x (af c i))) i=cE 1 x (af c i):=by simp[af,hi]
     rw[e3];simp only[cE,zbc,fa];omega
   . have e3:af (c.set v (cE 1 x (af c v))) i=af c i:=by simp[af,zbi,zcm e]
     rw[e3];have:=hc i hi;omega
  have:=ih (done++[x]) ws (wd++[(v:Int)]) (c.set v (cE 1 x (af c v))) (out++if 0<x then[.r [.n q,.n kd,.n v,.n x]]else[]) n (paid+x) (by omega) (by omega) (by simp[e2]) (by simp;omega) (fun z hz=>by have:=hw z (by simp[hz]);simpa using this) (fun z hz=>hx z (by simp[hz])) (by omega) (by omega) hset (by simpa using cl) (by split<;>simp<;>omega);simp only[lR,ub,zbv,zaz];rw[show paid+(x+rest.sum)=paid+x+rest.sum by omega];rw[<-zat,<-this];rw[sY];unfold uK;dsimp only;have ec:done++[x]++rest=done++x::rest:=by simp
  have ew:wd++[(v:Int)]++ws=wd++(v:Int)::ws:=by simp
  rw[ec,ew];have e5:(cE 1 x (af c v))=Dat.r [.n ((af c v).i 0),.n ((af c v).i 1-x),.n ((af c v).i 2)]:=by simp only[cE,zbc]
  rw[e5];simp only[lt_eq,zaz,gw,bL,zad,zac,zas,zaI,zaD,zaa]
  by_cases h0:0<x
  . rw[if_pos h0];simp(disch:=omega) only[TRa,TRi,aa,zaD]
  . rw[if_neg h0];simp(disch:=omega) only[TRa,TRi,aa,zaD,zaS]
def VR:Int × bp × Int × Int × List Dat × List Dat->Bool × List Un:=fun(a0,a1,a2,a3,a4,a5)=>(decide (a0<=9223372036854775807/\0<=a1.ay/\a1.ay<=1152921504606846976/\a5.length<=68719476736)&&aW a4,[.i ((av (fun _=>true) 1 a0 a4).sum)]++Uns.enc (({a1 with ay:=a1.ay-(av (fun _=>true) 1 a0 a4).sum}):bp)++[.i (a2),.i (a3),.d (bV 1 (av (fun _=>true) 1 a0 a4) a4),.d (a5++bT a2 a3 0 (av (fun _=>true) 1 a0 a4))])
theorem Pq (a0:Int) (a1:bp) (a2:Int) (a3:Int) (a4:List Dat) (a5:List Dat) (hc:(decide (a0<=9223372036854775807/\0<=a1.ay/\a1.ay<=1152921504606846976/\a5.length<=68719476736)&&aW a4)=true):∃m,RG m (a0,a1,a2,a3,a4,a5)=some ([.i ((av (fun _=>true) 1 a0 a4).sum)]++Uns.enc (({a1 with ay:=a1.ay-(av (fun _=>true) 1 a0 a4).sum}):bp)++[.i (a2),.i (a3),.d (bV 1 (av (fun _=>true) 1 a0 a4) a4),.d (a5++bT a2 a3 0 (av (fun _=>true) 1 a0 a4))]):=by
 simp only[zab,zag]at hc;obtain⟨⟨h1,h2,h3,h4⟩,h5⟩:=hc;obtain⟨c1,c2⟩:=cg h5;obtain⟨p1,p2,p3,p4,p5⟩:=wo (fun _=>true) (j:=1) (.inl rfl) a0 h5;refine⟨2000, ?_⟩;unfold RG;refine(ND 2000 a0 h1 a1 a2 a3 a5 a4 [] 2000 [] [] (by omega) (by simpa using c1) (by simp) (by simp)).trans ?_
 simp only[zaC,zas];have ht:=lT (a4.map (fun _=>true));rw[zaR]at ht;have e:=PU 2000 a1 ⟨h2,h3⟩ a2 a3 (de a0 (dW (fun _=>true) 1 a4)) [] (iw (fun _=>true) 0 a4) [] a4 a5 2000 0 (by omega) (by rw[p1,qQ]) rfl (by simp;omega) (fun w hw=>by have:=ri _ _ _ w hw;omega) (fun x hx=>by have:=p2 x hx;omega) (by omega) (by omega) (fun i hi=>by have:=cT (c2 _ (mQ hi));omega) c1 (by omega);refine e.trans ?_
 have g1:=oR (fun _=>true) 1 a4 [] (de a0 (dW (fun _=>true) 1 a4)) p1 (fun d hd=>(cT (c2 d hd)).1);have g2:=qB a2 a3 (fun _=>true) a4 0 (de a0 (dW (fun _=>true) 1 a4)) p1;simp only[zaC,zas,zaa]at g1 g2;rw[g1,g2,za0,p5,lq (fun _=>true) (j:=1) (.inl rfl) a0 h5]
theorem Km:ER 108 (mkE PZ.en PZ.ex VR):=aq ah Lv.right (fun m=>[FY (rV m m)]) (t:=RG) (by kernel_rfl) (fun m=>(aH (RH m m) aA)) (fun m a=>by kernel_rfl) fun(a0,a1,a2,a3,a4,a5) hc=>Pq a0 a1 a2 a3 a4 a5 hc
def OH:Tb Tryz.prog LQ TE XX:=Lv.add 108 _ Km
def SD:aE:=⟨OH.tab,111,⟨[.ptr 0 0 0,.int .i64],[.cells [.int .i64,.int .i64,.int .i64,.int .i64,.int .i64,.buf 1 3,.int .i64,.int .i64,.buf 2 4],.ab (sI 3),.ab (sI 4)],0⟩,⟨[.int .i64],[.cells [.int .i64,.int .i64,.int .i64,.int .i64,.int .i64,.buf 1 3,.int .i64,.int .i64,.buf 3 4],.ab (sI 3),.gone,.ab (sI 4)],0⟩,[]⟩
abbrev Br:Type:=Int × Int × Int × bp × Int × Int × List Dat × List Dat
def ui (m:Nat) (k:Br->Option (List Un)):Br->Option (List Un):=fun(a0,a1,a2,a3,a4,a5,a6,a7)=>
 bif decide (a2<8)then
 chk (decide ((w64 (a0-a1))<=9223372036854775807/\0<=a3.ay/\a3.ay<=1152921504606846976/\a7.length<=68719476736)&&aW a6)<|
 k (a0,(w64 (a1+((av (aN a2) 1 (w64 (a0-a1)) a6).sum))),(w64 (a2+1)),({a3 with ay:=a3.ay-(av (aN a2) 1 (w64 (a0-a1)) a6).sum}),a4,a5,(bV 1 (av (aN a2) 1 (w64 (a0-a1)) a6) a6),(a7++bT a4 a5 0 (av (aN a2) 1 (w64 (a0-a1)) a6)))
 else
 some ([.i a1]++Uns.enc (a3:bp)++[.i a4,.i a5,.d a6,.d a7])
def sk (m:Nat):Nat->Br->Option (List Un):=bg (ui m)
theorem tF (m:Nat) (n:Nat):sk m (n+1)=ui m (sk m n):=rfl
def FL (F:Br->Option (List Un)):aQ:=⟨[.lp [0,1,0,1,1],.blk 0,.code [1,1,1]],⟨frm 21 [(0,.ptr 0 0 0),(1,.int .i64),(5,.int .i64),(7,.int .i64)],[.cells [.int .i64,.int .i64,.int .i64,.int .i64,.int .i64,.buf 1 3,.int .i64,.int .i64,.buf 3 4],.ab (sI 3),.gone,.ab (sI 4)],0⟩,onU F⟩
theorem Q7 (m:Nat):∀n,HO SD (FL (sk m n)):=ar ah OH.right (fun k=>[FL k]) (fun k h=>(aH h aA)) fun k a=>by kernel_rfl
def t111 (m:Nat):Int × bp × Int × Int × List Dat × List Dat->Option (List Un):=fun(a0,a1,a2,a3,a4,a5)=>
 sk m m (a0,0,0,a1,a2,a3,a4,a5)
theorem TQ (m:Nat) (nn q kd:Int):∀(k n:Nat) (r paid:Int) (y:bp) (c out:List Dat),k<n->r+k=8->0<=r->aW c=true->0<=paid->paid<=nn->nn-paid<=y.ay->y.ay<=1152921504606846976->nn<=1152921504606846976->out.length+1000*k<=68719476736->
 sk m n (nn,paid,r,y,q,kd,c,out)=some ([.i (paid+(bG q kd k r (nn-paid) c).2.2)]++Uns.enc (({y with ay:=y.ay-(bG q kd k r (nn-paid) c).2.2}:bp):bp)++[.i q,.i kd,.d (bG q kd k r (nn-paid) c).1,.d (out++(bG q kd k r (nn-paid) c).2.1)]):=by
 intro k
 induction k with
 |zero=>
  intro n r paid y c out hn hr h0 hc p0 p1 p2 p3 p4 ho;obtain⟨n,rfl⟩:=ai n (by omega);rw[tF];unfold ui;dsimp only;simp only[bG,zbU,zbt,zaS];rw[az (by omega)]
 |succ k ih=>
  intro n r paid y c out hn hr h0 hc p0 p1 p2 p3 p4 ho;obtain⟨n,rfl⟩:=ai n (by omega);rw[tF];unfold ui;dsimp only;obtain⟨l1,l2,l3⟩:=dy (aN r) (j:=1) (.inl rfl) (nn-paid) hc;obtain⟨_,_,w0,w1⟩:=oi (aN r) (j:=1) (.inl rfl) hc;obtain⟨g1,g2⟩:=oX (aN r) (j:=1) (.inl rfl) (nn-paid) hc;have hpl:=iN q kd (av (aN r) 1 (nn-paid) c) 0;have hcl:=(cg hc).1;rw[ba (by omega),aa (n:=nn-paid) (by omega) (by omega),hc,za9,aI ⟨by omega,by omega,by omega,by omega⟩];have:=ih n (r+1) (paid+(av (aN r) 1 (nn-paid) c).sum) {y with ay:=y.ay-(av (aN r) 1 (nn-paid) c).sum} (bV 1 (av (aN r) 1 (nn-paid) c) c) (out++bT q kd 0 (av (aN r) 1 (nn-paid) c)) (by omega) (by omega) (by omega) g1 (by omega) (by omega) (by simp only;omega) (by simp only;omega) p4 (by rw[zad];omega);rw[aa (n:=r+1) (by omega) (by omega),aa (n:=paid+(av (aN r) 1 (nn-paid) c).sum) (by omega) (by omega),this];simp only[bG];rw[show nn-(paid+(av (aN r) 1 (nn-paid) c).sum)=nn-paid-(av (aN r) 1 (nn-paid) c).sum by omega];simp only[Int.add_assoc,zat,Int.sub_sub]
def f111:Int × bp × Int × Int × List Dat × List Dat->Bool × List Un:=fun(a0,a1,a2,a3,a4,a5)=>(decide (0<=a0/\a0<=a1.ay/\a1.ay<=1152921504606846976/\a5.length<=34359738368)&&aW a4,[.i ((bG a2 a3 8 0 a0 a4).2.2)]++Uns.enc (({a1 with ay:=a1.ay-(bG a2 a3 8 0 a0 a4).2.2}):bp)++[.i (a2),.i (a3),.d ((bG a2 a3 8 0 a0 a4).1),.d (a5++(bG a2 a3 8 0 a0 a4).2.1)])
theorem Pw (a0:Int) (a1:bp) (a2:Int) (a3:Int) (a4:List Dat) (a5:List Dat) (hc:(decide (0<=a0/\a0<=a1.ay/\a1.ay<=1152921504606846976/\a5.length<=34359738368)&&aW a4)=true):∃m,t111 m (a0,a1,a2,a3,a4,a5)=some ([.i ((bG a2 a3 8 0 a0 a4).2.2)]++Uns.enc (({a1 with ay:=a1.ay-(bG a2 a3 8 0 a0 a4).2.2}):bp)++[.i (a2),.i (a3),.d ((bG a2 a3 8 0 a0 a4).1),.d (a5++(bG a2 a3 8 0 a0 a4).2.1)]):=by
 simp only[zab,zag]at hc;obtain⟨⟨h1,h2,h3,h4⟩,h5⟩:=hc;refine⟨20, ?_⟩;have:=TQ 20 a0 a2 a3 8 20 0 0 a1 a4 a5 (by omega) (by omega) (by omega) h5 (by omega) (by omega) (by omega) h3 (by omega) (by omega);simp only[zbt,za0]at this;exact this
theorem JT:ER 111 (mkE SD.en SD.ex f111):=aq ah OH.right (fun m=>[FL (sk m m)]) (t:=t111) (by kernel_rfl) (fun m=>(aH (Q7 m m) aA)) (fun m a=>by kernel_rfl) fun(a0,a1,a2,a3,a4,a5) hc=>Pw a0 a1 a2 a3 a4 a5 hc
def PJ:Tb Tryz.prog LQ TE XX:=OH.add 111 _ JT
def zd (d:Dat):Bool:=decide (0<=d.i 3)
theorem CW {d:Dat} (h:zd d=true):0<=d.i 3:=zaj h
theorem Ah:∀l:List Dat,(∀d∈l,zd d=true)->0<=an 3 l
 |[],_=>by simp[an]
 |d::l,h=>by
  have:=Ah l fun x hx=>h x (by simp[hx])
  have:=CW (h d (by simp));simp only[an];omega
def N60:aE:=⟨PJ.tab,60,⟨[.ab (sI 4)],[],0⟩,⟨[.int .i64],[],0⟩,[]⟩
abbrev G3:Type:=Int × List Dat × Int × Int
def A7 (m:Nat) (k:G3->Option (List Un)):G3->Option (List Un):=fun(a0,a1,a2,a3)=>
 bif decide (a3<a2)then
 chk (inb a3 a1.length)<|
 chk (decide (a3.toNat<a1.length))<|
 k ((w64 (a0+((af a1 a3.toNat).i 3))),a1,a2,(w64 (a3+1)))
 else
 some ([.i a0])
def yV (m:Nat):Nat->G3->Option (List Un):=bg (A7 m)
theorem wS (m:Nat) (n:Nat):yV m (n+1)=A7 m (yV m n):=rfl
def Lf (F:G3->Option (List Un)):aQ:=⟨[.lp [0,1,0,1,1],.blk 0,.code [1,1,1]],⟨frm 18 [(3,.int .i64),(6,.ab (sI 4)),(7,.int .i64),(8,.int .i64)],[],0⟩,onU F⟩
theorem Uc (m:Nat):∀n,HO N60 (Lf (yV m n)):=ar ah PJ.right (fun k=>[Lf k]) (fun k h=>(aH h aA)) fun k a=>by kernel_rfl
def t60 (m:Nat):List Dat->Option (List Un):=fun a0=>
 yV m m (0,a0,(a0.length:Int),0)
theorem TX (m:Nat):∀(rest pre:List Dat) (n:Nat) (b:Int),rest.length<n->(pre++rest).length<=1000000->(∀d∈rest,zd d=true)->0<=b->b+an 3 rest<=1152921504606846976->
 yV m n (b,pre++rest,((pre++rest).length:Int),(pre.length:Int))=some [.i (b+an 3 rest)]:=by
 intro rest
 induction rest with
 |nil=>
  intro pre n b hn hl hg h0 h1;obtain⟨n,rfl⟩:=ai n (by simp at hn;omega);rw[wS];unfold A7;dsimp only;simp[az,an]
 |cons x rest ih=>
  intro pre n b hn hl hg h0 h1;obtain⟨n,rfl⟩:=ai n (by simp at hn;omega);simp only[zac,zad]at hn hl;have hx:=CW (hg x (by simp));have hr:=Ah rest fun d hd=>hg d (by simp[hd])
  simp only[an]at h1;rw[wS];unfold A7;dsimp only;have:=ih (pre++[x]) n (b+x.i 3) (by omega) (by simp;omega) (fun d hd=>hg d (by simp[hd])) (by omega) (by omega);simp only[an]at this⊢;simp(disch:=omega) only[TRa,TRi,aa,LNl,LNi,zaa,au];simp only[LNl,LNi,zaa]at this⊢;exact this
def f60:List Dat->Bool × List Un:=fun a0=>(decide (a0.length<=1000000)&&(a0.all zd&&decide (an 3 a0<=1152921504606846976)),[.i (an 3 a0)])
theorem Ra (a0:List Dat) (hc:(decide (a0.length<=1000000)&&(a0.all zd&&decide (an 3 a0<=1152921504606846976)))=true):∃m,t60 m a0=some ([.i (an 3 a0)]):=by
 simp only[zab,zag,zal]at hc;refine⟨a0.length+1, ?_⟩;exact(TX _ a0 [] (a0.length+1) 0 (by omega) (by simpa using hc.1) hc.2.1 (by omega) (by simpa using hc.2.2)).trans (by simp only[za0])
theorem Mq:ER 60 (mkE N60.en N60.ex f60):=aq ah PJ.right (fun m=>[Lf (yV m m)]) (t:=t60) (by kernel_rfl) (fun m=>(aH (Uc m m) aA)) (fun m a=>by kernel_rfl) fun a0 hc=>Ra a0 hc
def T60:Tb Tryz.prog LQ TE XX:=PJ.add 60 _ Mq
def N80:aE:=⟨T60.tab,80,⟨[.ptr 0 0 0,.agg [.int .i64,.int .i64]],[.cells [.int .i64,.int .i64,.int .i64,.int .i64,.int .i64,.buf 1 3,.int .i64,.int .i64,.buf 2 4],.ab (sI 3),.ab (sI 4)],0⟩,⟨[],[.cells [.int .i64,.int .i64,.int .i64,.int .i64,.int .i64,.buf 1 3,.int .i64,.int .i64,.buf 3 4],.ab (sI 3),.gone,.ab (sI 4)],0⟩,[]⟩
def t80 (m:Nat):Int × Int × bp × Int × Int × List Dat × List Dat->Option (List Un):=fun(a0,a1,a2,a3,a4,a5,a6)=>
 bif a0==1 then
 lt ((if a2.ay<a2.fee then a2.ay else a2.fee):Int) fun x1=>
 lt ((if x1<0 then 0 else x1):Int) fun x2=>
 bif decide (x2>0)then
 chk (fits (a6.length+1) 32)<|
 some (Uns.enc (({a2 with ay:=(w64 (a2.ay-x2)),fee:=(w64 (a2.fee-x2))}:bp):bp)++[.i a3,.i a4,.d a5,.d (a6++([.r [.n a3,.n a4,.n (-1),.n x2]]))])
 else
 some (Uns.enc (({a2 with ay:=(w64 (a2.ay-x2)),fee:=(w64 (a2.fee-x2))}:bp):bp)++[.i a3,.i a4,.d a5,.d a6])
 else
 bif a0==2 then
 lt ((if a2.ay<a2.bY then a2.ay else a2.bY):Int) fun x4=>
 lt ((if x4<0 then 0 else x4):Int) fun x5=>
 bif decide (x5>0)then
 chk (fits (a6.length+1) 32)<|
 some (Uns.enc (({a2 with ay:=(w64 (a2.ay-x5)),bY:=(w64 (a2.bY-x5))}:bp):bp)++[.i a3,.i a4,.d a5,.d (a6++([.r [.n a3,.n a4,.n (-1),.n x5]]))])
 else
 some (Uns.enc (({a2 with ay:=(w64 (a2.ay-x5)),bY:=(w64 (a2.bY-x5))}:bp):bp)++[.i a3,.i a4,.d a5,.d a6])
 else
 bif a0==6 then
 lt ((if a2.ay<a2.room then a2.ay else a2.room):Int) fun x7=>
 lt ((if x7<0 then 0 else x7):Int) fun x8=>
 bif decide (x8>0)then
 chk (fits (a6.length+1) 32)<|
 some (Uns.enc (({a2 with ay:=(w64 (a2.ay-x8)),room:=(w64 (a2.room-x8))}:bp):bp)++[.i a3,.i a4,.d a5,.d (a6++([.r [.n a3,.n a4,.n (-1),.n x8]]))])
 else
 some (Uns.enc (({a2 with ay:=(w64 (a2.ay-x8)),room:=(w64 (a2.room-x8))}:bp):bp)++[.i a3,.i a4,.d a5,.d a6])
 else
 bif a0==3 then
 chk (decide (a2.ay<=9223372036854775807/\0<=a2.ay/\a2.ay<=1152921504606846976/\a6.length<=68719476736)&&aW a5)<|
 some (Uns.enc (({a2 with ay:=a2.ay-(av (aN a1) 2 a2.ay a5).sum}):bp)++[.i a3,.i a4,.d (bV 2 (av (aN a1) 2 a2.ay a5) a5),.d (a6++bT a3 a4 0 (av (aN a1) 2 a2.ay a5))])
 else
 bif a0==4 then
 lt ((if a2.ay<a2.ak then a2.ay else a2.ak):Int) fun x12=>
 chk (decide (0<=x12/\x12<=a2.ay/\a2.ay<=1152921504606846976/\a6.length<=34359738368)&&aW a5)<|
 lt (({a2 with ay:=a2.ay-(bG a3 a4 8 0 x12 a5).2.2}):bp) fun g13=>
 chk (decide (a2.ak=g13.ak))<|
 some (Uns.enc (({g13 with ak:=(w64 (a2.ak-((bG a3 a4 8 0 x12 a5).2.2)))}:bp):bp)++[.i a3,.i a4,.d ((bG a3 a4 8 0 x12 a5).1),.d (a6++(bG a3 a4 8 0 x12 a5).2.1)])
 else
 bif a0==5 then
 lt ((if a2.ay<a2.ak then a2.ay else a2.ak):Int) fun x16=>
 chk (decide (x16<=9223372036854775807/\0<=a2.ay/\a2.ay<=1152921504606846976/\a6.length<=68719476736)&&aW a5)<|
 lt (({a2 with ay:=a2.ay-(av (fun _=>true) 1 x16 a5).sum}):bp) fun g18=>
 chk (decide (a2.ak=g18.ak))<|
 some (Uns.enc (({g18 with ak:=(w64 (a2.ak-((av (fun _=>true) 1 x16 a5).sum)))}:bp):bp)++[.i a3,.i a4,.d (bV 1 (av (fun _=>true) 1 x16 a5) a5),.d (a6++bT a3 a4 0 (av (fun _=>true) 1 x16 a5))])
 else
 bif a0==7 then
 chk (decide (0<=a2.ay/\a2.ay<=a2.ay/\a2.ay<=1152921504606846976/\a6.length<=34359738368)&&aW a5)<|
 some (Uns.enc (({a2 with ay:=a2.ay-(bG a3 a4 8 0 a2.ay a5).2.2}):bp)++[.i a3,.i a4,.d ((bG a3 a4 8 0 a2.ay a5).1),.d (a6++(bG a3 a4 8 0 a2.ay a5).2.1)])
 else
 some (Uns.enc (a2:bp)++[.i a3,.i a4,.d a5,.d a6])
def f80:Int × Int × bp × Int × Int × List Dat × List Dat->Bool × List Un:=fun(a0,a1,a2,a3,a4,a5,a6)=>(decide (a4=a0/\a6.length<=17179869184)&&(nv a2&&aW a5),Uns.enc (((dJ a3 a0 a1 a2 a5).1):bp)++[.i (a3),.i (a4),.d ((dJ a3 a0 a1 a2 a5).2.1),.d (a6++(dJ a3 a0 a1 a2 a5).2.2)])
set_option maxHeartbeats 2000000 in
theorem Su (a0:Int) (a1:Int) (a2:bp) (a3:Int) (a4:Int) (a5:List Dat) (a6:List Dat) (hc:(decide (a4=a0/\a6.length<=17179869184)&&(nv a2&&aW a5))=true):∃m,t80 m (a0,a1,a2,a3,a4,a5,a6)=some (Uns.enc (((dJ a3 a0 a1 a2 a5).1):bp)++[.i (a3),.i (a4),.d ((dJ a3 a0 a1 a2 a5).2.1),.d (a6++(dJ a3 a0 a1 a2 a5).2.2)]):=by
 simp only[zab,zag]at hc;obtain⟨⟨rfl,ho⟩,hx,hc⟩:=hc;have hx':=o9 hx;have hcl:=(cg hc).1;have w2:=fun sel j hj=>(oi (c:=a5) sel (j:=j) hj hc).2.2
 have s2:=fun sel j hj n=>(dy (c:=a5) sel (j:=j) hj n hc).2.1
 have mm:∀a b:Int,(if b<a then b else a)=min a b:=fun a b=>by omega
 have mx:∀a:Int,(if a<0 then 0 else a)=max a 0:=fun a=>by omega
 refine⟨0, ?_⟩;unfold t80 dJ;dsimp only;simp only[lt_eq,mm,mx];have one:∀(z:Int) (u:bp) (o2:List Dat),0<=z->∀v:bp,u=v->(bif decide (z>0)then chk (fits (a6.length+1) 32) (some (Uns.enc (u:bp)++[.i a3,.i a4,.d a5,.d (a6++([.r [.n a3,.n a4,.n (-1),.n z]]))]))else some (Uns.enc (u:bp)++[.i a3,.i a4,.d a5,.d a6]))=some (Uns.enc (v:bp)++[.i a3,.i a4,.d a5,.d (a6++lJ a3 a4 z)]):=by
  intro z u o2 hz v huv;subst huv;unfold lJ
  by_cases h:z>0
  . rw[ba h,dP (by omega) (by omega),if_pos (by omega)]
  . rw[az h,if_neg (by omega),zaS]
 by_cases k1:a4=1
 . rw[dS k1,if_pos k1];rw[show max (min a2.fee a2.ay) 0=min a2.fee a2.ay by omega];exact one _ _ [] (by omega) _ (by rw[aa (by omega) (by omega),aa (by omega) (by omega)])
 rw[dR k1,if_neg k1]
 by_cases k2:a4=2
 . rw[dS k2,if_pos k2];rw[show max (min a2.bY a2.ay) 0=min a2.bY a2.ay by omega];exact one _ _ [] (by omega) _ (by rw[aa (by omega) (by omega),aa (by omega) (by omega)])
 rw[dR k2,if_neg k2]
 by_cases k6:a4=6
 . rw[dS k6,if_pos k6];rw[show max (min a2.room a2.ay) 0=min a2.room a2.ay by omega];exact one _ _ [] (by omega) _ (by rw[aa (by omega) (by omega),aa (by omega) (by omega)])
 rw[dR k6,if_neg k6]
 by_cases k3:a4=3
 . rw[dS k3,if_pos k3,hc,za9,aI (by omega)]
 rw[dR k3,if_neg k3]
 by_cases k4:a4=4
 . rw[dS k4,if_pos k4,hc,za9,aI (by omega),aI trivial];have q:=wz a3 a4 8 0 (min a2.ak a2.ay) a5 hc;generalize bG a3 a4 8 0 (min a2.ak a2.ay) a5=y at*
   rw[aa (by omega) (by omega)]
 rw[dR k4,if_neg k4]
 by_cases k5:a4=5
 . rw[dS k5,if_pos k5,hc,za9,aI (by omega),aI trivial];have q1:=s2 (fun _=>true) 1 (.inl rfl) (min a2.ak a2.ay);have q2:=w2 (fun _=>true) 1 (.inl rfl);rw[aa (n:=a2.ak-_) (by omega) (by omega)]
 rw[dR k5,if_neg k5]
 by_cases k7:a4=7
 . rw[dS k7,if_pos k7,hc,za9,aI (by omega)]
 rw[dR k7,if_neg k7,zaS]
theorem OZ:ER 80 (mkE N80.en N80.ex f80):=aq ah T60.right (fun m=>[]) (t:=t80) (by kernel_rfl) (fun m=>aA) (fun m a=>by kernel_rfl) fun(a0,a1,a2,a3,a4,a5,a6) hc=>Su a0 a1 a2 a3 a4 a5 a6 hc
def T80:Tb Tryz.prog LQ TE XX:=T60.add 80 _ OZ
def N38:aE:=⟨T80.tab,38,⟨[.int .i64,.agg [.int .i64,.int .i64,.int .i64,.int .i64,.ab (sI 3)],.ab (sI 2)],[],0⟩,⟨[.buf 0 4,.int .i64,.agg [.int .i64,.int .i64,.int .i64,.int .i64,.buf 1 3]],[.ab (sI 4),.ab (sI 3)],0⟩,[]⟩
abbrev Gr:Type:=List Dat × Int × Int × Int × Int × Int × Int × bp × Int × Int × List Dat × List Dat × List Dat
def AZ (m:Nat) (k:Gr->Option (List Un)):Gr->Option (List Un):=fun(a0,a1,a2,a3,a4,a5,a6,a7,a8,a9,a10,a11,a12)=>
 bif decide (a2<a1)then
 chk (inb a2 a0.length)<|
 chk (decide (a2.toNat<a0.length))<|
 lt (af a0 a2.toNat:Dat) fun d1=>
 chk (decide ((d1.i 0)=(d1.i 0)/\a12.length<=17179869184)&&(nv a7&&aW a11))<|
 k (a0,a1,(w64 (a2+1)),a3,a4,a5,a6,((dJ a2 (d1.i 0) (d1.i 1) a7 a11).1),a2,(d1.i 0),a10,((dJ a2 (d1.i 0) (d1.i 1) a7 a11).2.1),(a12++(dJ a2 (d1.i 0) (d1.i 1) a7 a11).2.2))
 else
 some ([.i a7.ay,.i a7.fee,.i a7.bY,.i a7.ak,.i a7.room,.d a12,.d a11])
def zY (m:Nat):Nat->Gr->Option (List Un):=bg (AZ m)
theorem v9 (m:Nat) (n:Nat):zY m (n+1)=AZ m (zY m n):=rfl
def Kg (F:Gr->Option (List Un)):aQ:=⟨[.lp [0,1,0,1,1,1],.blk 0,.code [1,1,1,1]],⟨frm 52 [(8,.ptr 0 0 0),(9,.ptr 1 0 0),(20,.ab (sI 2)),(21,.int .i64),(22,.int .i64)],[.cells [.int .i64,.int .i64,.int .i64,.int .i64,.buf 2 3],.cells [.int .i64,.int .i64,.int .i64,.int .i64,.int .i64,.buf 3 3,.int .i64,.int .i64,.buf 4 4],.ab (sI 3),.ab (sI 3),.ab (sI 4)],0⟩,onU F⟩
theorem TD (m:Nat):∀n,HO N38 (Kg (zY m n)):=ar ah T80.right (fun k=>[Kg k]) (fun k h=>(aH h aA)) fun k a=>by kernel_rfl
def t38 (m:Nat):Int × Int × Int × Int × Int × List Dat × List Dat->Option (List Un):=fun(a0,a1,a2,a3,a4,a5,a6)=>
 chk (decide (a5.length<1000000))<|
 zY m m (a6,(a6.length:Int),0,0,0,0,0,(⟨a0,a1,a2,a3,a4⟩:bp),0,0,[],a5,[])
theorem TV (m:Nat) (z1 z2 z3 z4:Int) (zl:List Dat):∀(rest pre:List Dat) (n:Nat) (y:bp) (q kd:Int) (c out:List Dat),rest.length<n->(pre++rest).length<=1000000->nv y=true->aW c=true->out.length<=8000*pre.length->
 zY m n (pre++rest,((pre++rest).length:Int),(pre.length:Int),z1,z2,z3,z4,y,q,kd,zl,c,out)=some [.i (dY pre.length rest y c).1.ay,.i (dY pre.length rest y c).1.fee,.i (dY pre.length rest y c).1.bY,.i (dY pre.length rest y c).1.ak,.i (dY pre.length rest y c).1.room,.d (out++(dY pre.length rest y c).2.2),.d (dY pre.length rest y c).2.1]:=by
 intro rest
 induction rest with
 |nil=>
  intro pre n y q kd c out hn hl hy hc ho;obtain⟨n,rfl⟩:=ai n (by simp at hn;omega);rw[v9];unfold AZ;dsimp only;simp[az,dY]
 |cons x rest ih=>
  intro pre n y q kd c out hn hl hy hc ho;obtain⟨n,rfl⟩:=ai n (by simp at hn;omega);simp only[zac,zad]at hn hl;obtain⟨s1,s2,s3,s4⟩:=rm pre.length (x.i 0) (x.i 1) hy hc;have:=ih (pre++[x]) n _ (pre.length:Int) (x.i 0) _ (out++(dJ pre.length (x.i 0) (x.i 1) y c).2.2) (by omega) (by simp;omega) s1 s2 (by simp;omega);simp only[dY];rw[v9];unfold AZ;dsimp only;simp only[hy,hc,zbO,za9];simp only[zaz,au,lt_eq];generalize dJ pre.length (x.i 0) (x.i 1) y c=u at*
  simp only[hy,hc,zbO,za9,zaZ,true_and];simp(disch:=omega) only[TRa,TRi,aa,LNl,LNi,zaa,au];simp only[LNl,LNi,zaa]at this⊢;exact this
def f38:Int × Int × Int × Int × Int × List Dat × List Dat->Bool × List Un:=fun(a0,a1,a2,a3,a4,a5,a6)=>(decide (a6.length<=1000000)&&(nv ⟨a0,a1,a2,a3,a4⟩&&aW a5),[.i ((dY 0 a6 ⟨a0,a1,a2,a3,a4⟩ a5).1.ay),.i ((dY 0 a6 ⟨a0,a1,a2,a3,a4⟩ a5).1.fee),.i ((dY 0 a6 ⟨a0,a1,a2,a3,a4⟩ a5).1.bY),.i ((dY 0 a6 ⟨a0,a1,a2,a3,a4⟩ a5).1.ak),.i ((dY 0 a6 ⟨a0,a1,a2,a3,a4⟩ a5).1.room),.d ((dY 0 a6 ⟨a0,a1,a2,a3,a4⟩ a5).2.2),.d ((dY 0 a6 ⟨a0,a1,a2,a3,a4⟩ a5).2.1)])
theorem Q8 (a0:Int) (a1:Int) (a2:Int) (a3:Int) (a4:Int) (a5:List Dat) (a6:List Dat) (hc:(decide (a6.length<=1000000)&&(nv ⟨a0,a1,a2,a3,a4⟩&&aW a5))=true):∃m,t38 m (a0,a1,a2,a3,a4,a5,a6)=some ([.i ((dY 0 a6 ⟨a0,a1,a2,a3,a4⟩ a5).1.ay),.i ((dY 0 a6 ⟨a0,a1,a2,a3,a4⟩ a5).1.fee),.i ((dY 0 a6 ⟨a0,a1,a2,a3,a4⟩ a5).1.bY),.i ((dY 0 a6 ⟨a0,a1,a2,a3,a4⟩ a5).1.ak),.i ((dY 0 a6 ⟨a0,a1,a2,a3,a4⟩ a5).1.room),.d ((dY 0 a6 ⟨a0,a1,a2,a3,a4⟩ a5).2.2),.d ((dY 0 a6 ⟨a0,a1,a2,a3,a4⟩ a5).2.1)]):=by
 simp only[zab,zag]at hc;obtain⟨h1,h2,h3⟩:=hc;have hl:=(cg h3).1;refine⟨a6.length+1, ?_⟩;unfold t38;dsimp only;rw[aI (by omega)];exact TV _ 0 0 0 0 [] a6 [] (a6.length+1) _ 0 0 a5 [] (by omega) (by simpa using h1) h2 h3 (by simp)
theorem Mw:ER 38 (mkE N38.en N38.ex f38):=aq ah T80.right (fun m=>[Kg (zY m m)]) (t:=t38) (by kernel_rfl) (fun m=>(aH (TD m m) aA)) (fun m a=>by kernel_rfl) fun(a0,a1,a2,a3,a4,a5,a6) hc=>Q8 a0 a1 a2 a3 a4 a5 a6 hc
def T38:Tb Tryz.prog LQ TE XX:=T80.add 38 _ Mw
theorem eP (j:Nat):∀l:List Dat,(∀d∈l,0<=d.i j)->0<=an j l
 |[],_=>by simp[an]
 |d::l,h=>by
  have:=h d (by simp);have:=eP j l fun x hx=>h x (by simp[hx])
  simp only[an];omega
theorem v5 (j:Nat):∀a b:List Dat,an j (a++b)=an j a+an j b
 |[],b=>by simp[an]
 |d::a,b=>by simp only[zaN,an,v5 j a b];omega
theorem xM (a k:Int):∀(xs:List Int) (i:Int),(∀x∈xs,0<=x)->an 3 (bT a k i xs)=xs.sum
 |[],i,_=>rfl
 |x::xs,i,h=>by
  have:=xM a k xs (i+1) fun y hy=>h y (by simp[hy])
  have h0:=h x (by simp);simp only[bT,v5,zbv,this]
  by_cases hx:0<x
  . rw[if_pos hx];simp[an,fY]
  . rw[if_neg hx];simp only[an];omega
theorem Fu {c:List Dat} (sel:Dat->Bool) {j:Nat} (hj:j=1\/j=2) (n:Int) (h:aW c=true):∀x∈av sel j n c,0<=x:=fun x hx=>by
 obtain⟨l1,l2,l3⟩:=dy sel hj n h;obtain⟨i,hi,rfl⟩:=qY hx;rw[l1]at hi;exact(l3 i hi).1
def bj (f:Dat->Bool):List Dat->Int
 |[]=>0
 |d::l=>(bif f d then d.i 3 else 0)+bj f l
theorem jz (f:Dat->Bool):∀a b:List Dat,bj f (a++b)=bj f a+bj f b
 |[],b=>by simp[bj]
 |d::a,b=>by simp only[zaN,bj,jz f a b];omega
theorem gL (f:Dat->Bool):∀l:List Dat,(∀d∈l,f d=false)->bj f l=0
 |[],_=>rfl
 |d::l,h=>by simp only[bj,h d (by simp),gL f l (fun x hx=>h x (by simp[hx])),zao];rfl
theorem Du (f:Dat->Bool):∀l:List Dat,(∀d∈l,f d=true)->bj f l=an 3 l
 |[],_=>rfl
 |d::l,h=>by simp only[bj,an,h d (by simp),Du f l (fun x hx=>h x (by simp[hx])),zau]
theorem rB {f g:Dat->Bool}:∀l:List Dat,(∀d∈l,f d=g d)->bj f l=bj g l
 |[],_=>rfl
 |d::l,h=>by simp only[bj,h d (by simp),rB l (fun x hx=>h x (by simp[hx]))]
def kF (d:Dat):Bool:=d.i 1==1
def kR (d:Dat):Bool:=d.i 1==2
def kT (d:Dat):Bool:=d.i 1==6
def kI (d:Dat):Bool:=d.i 1==3
def kB (d:Dat):Bool:= !kF d&& !kR d&& !kT d&& !kI d
def kP (d:Dat):Bool:=kB d&&d.i 1 !=7
def toI (i:Nat) (d:Dat):Bool:=kI d&&d.i 2==(i:Int)
def toB (i:Nat) (d:Dat):Bool:=kB d&&d.i 2==(i:Int)
theorem mE (a k:Int):∀(xs:List Int) (i:Int),∀d∈bT a k i xs,d.i 0=a/\d.i 1=k/\(i<=d.i 2/\d.i 2<i+xs.length)/\1<=d.i 3/\d.i 3=xs.getD (d.i 2-i).toNat 0
 |[],i,d,h=>by simp[bT]at h
 |x::xs,i,d,h=>by
  simp only[bT,zbp]at h;rcases h with h|h
  . by_cases hx:0<x
    . rw[if_pos hx]at h;rw[zbW.1 h];refine⟨rfl,rfl, ?_, ?_, ?_⟩
      . simp only[iM,zac,zaD];omega
      . simp only[fY];omega
      . simp only[iM,fY,Int.sub_self,Int.toNat_zero,zaQ]
    . rw[if_neg hx]at h;cases h
  . obtain⟨h1,h2,h3,h4,h5⟩:=mE a k xs (i+1) d h;simp only[zac,zaD];refine⟨h1,h2,by omega,h4, ?_⟩;rw[show(d.i 2-i).toNat=(d.i 2-(i+1)).toNat+1 by omega,zaE];exact h5
theorem zQ (a k:Int):∀(xs:List Int) (i:Int) (j:Nat),(∀x∈xs,0<=x)->bj (fun d=>d.i 2==i+j) (bT a k i xs)=xs.getD j 0
 |[],i,j,_=>by simp[bT,bj]
 |x::xs,i,j,h=>by
  have h0:=h x (by simp);simp only[bT,jz];cases j with
  |zero=>
   have e:bj (fun d=>d.i 2==i+((0:Nat):Int)) (bT a k (i+1) xs)=0:=gL _ _ fun d hd=>by
    have:=mE a k xs (i+1) d hd;simp only[zbD];omega
   rw[e,zaQ]
   by_cases hx:0<x
   . rw[if_pos hx];simp[bj,iM,fY]
   . rw[if_neg hx];simp only[bj];omega
  |succ j=>
   have:=zQ a k xs (i+1) j fun y hy=>h y (by simp[hy])
   rw[show i+1+(j:Int)=i+((j+1:Nat):Int) by omega]at this;rw[this,zaE]
   by_cases hx:0<x
   . rw[if_pos hx];simp only[bj,iM];rw[show(i==i+((j+1:Nat):Int))=false by simp only[zbD];omega];simp
   . rw[if_neg hx];simp[bj]
structure Kept (x : bp) (c ps : List Dat) (x' : bp) (c' : List Dat) : Prop where
 ay:x'.ay=x.ay-an 3 ps
 fee:x'.fee=x.fee-bj kF ps
 bY:x'.bY=x.bY-bj kR ps
 room:x'.room=x.room-bj kT ps
 pri:x'.ak=x.ak-bj kP ps
 len:c'.length=c.length
 row:∀i,i<c.length->af c' i= .r [.n ((af c i).i 0),.n ((af c i).i 1-bj (toB i) ps),.n ((af c i).i 2-bj (toI i) ps)]
theorem Kept.refl {x:bp} {c:List Dat} (h:∀d∈c,nc 3 d=true):Kept x c [] x c:=by
 refine⟨by simp[an],by simp[bj],by simp[bj],by simp[bj],by simp[bj],rfl,fun i hi=> ?_⟩;simp only[bj,zbt];exact EU (h _ (mQ hi))
theorem Kept.trans {x x' x'':bp} {c c' c'' ps qs:List Dat} (a:Kept x c ps x' c') (b:Kept x' c' qs x'' c''):Kept x c (ps++qs) x'' c'':=by
 refine⟨?_, ?_, ?_, ?_, ?_,b.len.trans a.len,fun i hi=> ?_⟩
 . rw[b.ay,a.ay,v5];omega
 . rw[b.fee,a.fee,jz];omega
 . rw[b.bY,a.bY,jz];omega
 . rw[b.room,a.room,jz];omega
 . rw[b.pri,a.pri,jz];omega
 . rw[b.row i (by rw[a.len];exact hi),a.row i hi,jz,jz];simp only[Ky,fa,iM];rw[show(af c i).i 1-bj (toB i) ps-bj (toB i) qs=(af c i).i 1-(bj (toB i) ps+bj (toB i) qs) by omega,show(af c i).i 2-bj (toI i) ps-bj (toI i) qs=(af c i).i 2-(bj (toI i) ps+bj (toI i) qs) by omega]
theorem Kept.shares {c:List Dat} (sel:Dat->Bool) (n:Int) (h:aW c=true) (x:bp) (a:Int) {j:Nat} {kd:Int} (hk:(j=2/\kd=3)\/(j=1/\(kd=4\/kd=5\/kd=7))):
 Kept x c (bT a kd 0 (av sel j n c)) {x with ay:=x.ay-(av sel j n c).sum,ak:=if kd=4\/kd=5 then x.ak-(av sel j n c).sum else x.ak} (bV j (av sel j n c) c):=by
 have hj:j=1\/j=2:=by omega
 obtain⟨l1,l2,l3⟩:=dy sel hj n h;obtain⟨h1,h2⟩:=cg h;have hm:=Fu sel hj n h;have hp:=mE a kd (av sel j n c) 0;have hs:=xM a kd (av sel j n c) 0 hm;have hat:=fun i=>zQ a kd (av sel j n c) 0 i hm
 have kk:∀d∈bT a kd 0 (av sel j n c),kF d=false/\kR d=false/\kT d=false/\kI d=(kd==3)/\kB d= !(kd==3):=fun d hd=>by
  have:=(hp d hd).2.1;simp only[kB,kF,kR,kT,kI,this];rcases hk with⟨_,rfl⟩|⟨_,rfl|rfl|rfl⟩<;>decide
 refine⟨by rw[hs], ?_, ?_, ?_, ?_,nk j _ c l1,fun i hi=> ?_⟩
 . rw[gL kF _ fun d hd=>(kk d hd).1];simp
 . rw[gL kR _ fun d hd=>(kk d hd).2.1];simp
 . rw[gL kT _ fun d hd=>(kk d hd).2.2.1];simp
 . by_cases h45:kd=4\/kd=5
   . simp only[if_pos h45];rw[Du kP _ fun d hd=>by
      have:=(kk d hd).2.2.2.2;have h6:=(hp d hd).2.1;simp only[kP,this,h6];rcases h45 with rfl|rfl<;>rfl,hs]
   . simp only[if_neg h45];rw[gL kP _ fun d hd=>by
      have:=(kk d hd).2.2.2.2;have h6:=(hp d hd).2.1;simp only[kP,this,h6];rcases hk with⟨_,rfl⟩|⟨_,rfl|rfl|rfl⟩
      . rfl
      . exact absurd (.inl rfl) h45
      . exact absurd (.inr rfl) h45
      . rfl]
     simp
 . rw[nG j _ c i l1 hi];have e2:=hat i;simp only[za0]at e2;rcases hk with⟨rfl,rfl⟩|⟨rfl,hk⟩
   . have a1:bj (toB i) (bT a 3 0 (av sel 2 n c))=0:=gL _ _ fun d hd=>by simp only[toB,(kk d hd).2.2.2.2];rfl
     have a2:bj (toI i) (bT a 3 0 (av sel 2 n c))=(av sel 2 n c).getD i 0:=by
      rw[<-e2];exact rB _ fun d hd=>by simp only[toI,(kk d hd).2.2.2.1];rfl
     rw[a1,a2];simp only[cE,show ¬(2:Nat)=1 by decide,zbh,zbt]
   . have k3:(kd==3)=false:=by rcases hk with rfl|rfl|rfl<;>rfl
     have a1:bj (toI i) (bT a kd 0 (av sel 1 n c))=0:=gL _ _ fun d hd=>by simp only[toI,(kk d hd).2.2.2.1,k3];rfl
     have a2:bj (toB i) (bT a kd 0 (av sel 1 n c))=(av sel 1 n c).getD i 0:=by
      rw[<-e2];exact rB _ fun d hd=>by simp only[toB,(kk d hd).2.2.2.2,k3];rfl
     rw[a1,a2];simp only[cE,zbc,zbt]
theorem Kept.pk {a kd:Int} (hk:kd=4\/kd=7):∀(k:Nat) (r n:Int) (x:bp) (c:List Dat),aW c=true->
 Kept x c (bG a kd k r n c).2.1 {x with ay:=x.ay-(bG a kd k r n c).2.2,ak:=if kd=4 then x.ak-(bG a kd k r n c).2.2 else x.ak} (bG a kd k r n c).1
 |0,r,n,x,c,h=>by
  have:=Kept.refl (x:=x) fun d hd=>(cT ((cg h).2 d hd)).1
  simp only[bG,zbt,ite_self];exact this
 |k+1,r,n,x,c,h=>by
  obtain⟨g1,g2⟩:=oX (aN r) (j:=1) (.inl rfl) n h;have a1:=Kept.shares (aN r) n h x a (j:=1) (kd:=kd) (.inr ⟨rfl,by omega⟩);have a2:=Kept.pk (a:=a) hk k (r+1) (n-(av (aN r) 1 n c).sum) {x with ay:=x.ay-(av (aN r) 1 n c).sum,ak:=if kd=4\/kd=5 then x.ak-(av (aN r) 1 n c).sum else x.ak} _ g1;have:=a1.trans a2;simp only[bG];have e:(if kd=4\/kd=5 then x.ak-(av (aN r) 1 n c).sum else x.ak)=if kd=4 then x.ak-(av (aN r) 1 n c).sum else x.ak:=by
   rcases hk with rfl|rfl<;>simp
  simp only[e]at this;generalize (bG a kd k (r+1) (n-(av (aN r) 1 n c).sum) (bV 1 (av (aN r) 1 n c) c)).2.2=y at*
  by_cases h4:kd=4
  . simp only[if_pos h4,Int.sub_sub]at this⊢;exact this
  . simp only[if_neg h4,Int.sub_sub]at this⊢;exact this
def DA (n:Nat) (a kd:Int) (d:Dat):Prop:=d.i 0=a/\d.i 1=kd/\1<=d.i 3/\(-1<=d.i 2/\d.i 2<n)/\(d.i 2<0↔(kd=1\/kd=2\/kd=6))
theorem rD {a kd:Int} {xs:List Int} {n:Nat} (hl:xs.length=n) (hk:¬(kd=1\/kd=2\/kd=6)):∀d∈bT a kd 0 xs,DA n a kd d:=fun d hd=>by
 obtain⟨h1,h2,h3,h4,h5⟩:=mE a kd xs 0 d hd;exact⟨h1,h2,h4,by omega,by omega⟩
theorem pB {a kd:Int} (hk:¬(kd=1\/kd=2\/kd=6)):∀(k:Nat) (r n:Int) (c:List Dat),aW c=true->∀d∈(bG a kd k r n c).2.1,DA c.length a kd d
 |0,r,n,c,h,d,hd=>by simp[bG]at hd
 |k+1,r,n,c,h,d,hd=>by
  obtain⟨g1,g2⟩:=oX (aN r) (j:=1) (.inl rfl) n h;obtain⟨l1,l2,l3⟩:=dy (aN r) (j:=1) (.inl rfl) n h;simp only[bG]at hd;rcases zbp.1 hd with hd|hd
  . exact rD l1 hk d hd
  . have:=pB hk k (r+1) _ _ g1 d hd
    rwa [g2]at this
theorem om {x:bp} {c:List Dat} (h:aW c=true) (a kd n:Int) (h0:0<=n) (hk:kd=1\/kd=2\/kd=6):
 Kept x c (lJ a kd n) {x with ay:=x.ay-n,fee:=if kd=1 then x.fee-n else x.fee,bY:=if kd=2 then x.bY-n else x.bY,room:=if kd=6 then x.room-n else x.room} c/\∀d∈lJ a kd n,DA c.length a kd d:=by
 have hr:∀d∈c,nc 3 d=true:=fun d hd=>(cT ((cg h).2 d hd)).1
 unfold lJ
 by_cases hn:0<n
 . rw[if_pos hn];refine⟨⟨by simp[an,fY], ?_, ?_, ?_, ?_,rfl,fun i hi=> ?_⟩,fun d hd=> ?_⟩
   . simp only[bj,kF,fa,fY];rcases hk with rfl|rfl|rfl<;>simp
   . simp only[bj,kR,fa,fY];rcases hk with rfl|rfl|rfl<;>simp
   . simp only[bj,kT,fa,fY];rcases hk with rfl|rfl|rfl<;>simp
   . simp only[bj,kP,kB,kF,kR,kT,kI,fa,fY];rcases hk with rfl|rfl|rfl<;>simp
   . have a1:bj (toB i) [Dat.r [.n a,.n kd,.n (-1),.n n]]=0:=by simp only[bj,toB,kB,kF,kR,kT,kI,fa,iM];rcases hk with rfl|rfl|rfl<;>simp
     have a2:bj (toI i) [Dat.r [.n a,.n kd,.n (-1),.n n]]=0:=by simp only[bj,toI,kI,fa,iM];rcases hk with rfl|rfl|rfl<;>simp
     rw[a1,a2,zbt,zbt];exact EU (hr _ (mQ hi))
   . rw[zbW.1 hd];refine⟨rfl,rfl, ?_, ?_, ?_⟩
     . show(1:Int)<=n;exact hn
     . exact⟨zcj (-1),by show(-1:Int)<(c.length:Int);omega⟩
     . show(-1:Int)<0↔_;exact⟨fun _=>hk,fun _=>by decide⟩
 . rw[if_neg hn];obtain rfl:n=0:=by omega
   simp only[zbt,ite_self];exact⟨Kept.refl hr,fun d hd=>by cases hd⟩
theorem EG (a kd rk:Int) {x:bp} {c:List Dat} (hx:nv x=true) (h:aW c=true):Kept x c (dJ a kd rk x c).2.2 (dJ a kd rk x c).1 (dJ a kd rk x c).2.1/\∀d∈(dJ a kd rk x c).2.2,DA c.length a kd d:=by
 have hx':=o9 hx;have s1:=fun sel j hj n=>(dy (c:=c) sel (j:=j) hj n h).1
 unfold dJ
 by_cases k1:kd=1
 . rw[if_pos k1];have:=om (x:=x) h a kd (min x.fee x.ay) (by omega) (.inl k1);subst k1;exact this
 rw[if_neg k1]
 by_cases k2:kd=2
 . rw[if_pos k2];have:=om (x:=x) h a kd (min x.bY x.ay) (by omega) (.inr (.inl k2));subst k2;exact this
 rw[if_neg k2]
 by_cases k6:kd=6
 . rw[if_pos k6];have:=om (x:=x) h a kd (min x.room x.ay) (by omega) (.inr (.inr k6));subst k6;exact this
 rw[if_neg k6];have hk:¬(kd=1\/kd=2\/kd=6):=by omega
 by_cases k3:kd=3
 . rw[if_pos k3];have:=Kept.shares (aN rk) x.ay h x a (j:=2) (kd:=kd) (.inl ⟨rfl,k3⟩);rw[if_neg (by omega)]at this;exact⟨this,rD (s1 (aN rk) 2 (.inr rfl) x.ay) hk⟩
 rw[if_neg k3]
 by_cases k4:kd=4
 . rw[if_pos k4];have:=Kept.pk (a:=a) (kd:=kd) (.inl k4) 8 0 (min x.ak x.ay) x c h;simp only[if_pos k4]at this;have hp:=pB (a:=a) hk 8 0 (min x.ak x.ay) c h;generalize bG a kd 8 0 (min x.ak x.ay) c=y at*
   exact⟨this,hp⟩
 rw[if_neg k4]
 by_cases k5:kd=5
 . rw[if_pos k5];have:=Kept.shares (fun _=>true) (min x.ak x.ay) h x a (j:=1) (kd:=kd) (.inr ⟨rfl,by omega⟩);rw[if_pos (by omega)]at this;exact⟨this,rD (s1 (fun _=>true) 1 (.inl rfl) _) hk⟩
 rw[if_neg k5]
 by_cases k7:kd=7
 . rw[if_pos k7];have:=Kept.pk (a:=a) (kd:=kd) (.inr k7) 8 0 x.ay x c h;simp only[if_neg k4]at this;have hp:=pB (a:=a) hk 8 0 x.ay c h;generalize bG a kd 8 0 x.ay c=y at*
   exact⟨this,hp⟩
 rw[if_neg k7];exact⟨Kept.refl fun d hd=>(cT ((cg h).2 d hd)).1,fun d hd=>by cases hd⟩
def JD (n:Nat) (a:Int) (l:List Dat) (d:Dat):Prop:=(a<=d.i 0/\d.i 0<a+l.length)/\DA n (d.i 0) (af l (d.i 0-a).toNat |>.i 0) d
theorem Aw:∀(l:List Dat) (a:Int) (x:bp) (c:List Dat),nv x=true->aW c=true->Kept x c (dY a l x c).2.2 (dY a l x c).1 (dY a l x c).2.1/\(∀d∈(dY a l x c).2.2,JD c.length a l d)/\(dY a l x c).2.2.Pairwise fun d e=>d.i 0<=e.i 0
 |[],a,x,c,hx,h=>⟨Kept.refl fun d hd=>(cT ((cg h).2 d hd)).1,fun d hd=>by simp[dY]at hd,List.Pairwise.nil⟩
 |s::l,a,x,c,hx,h=>by
  obtain⟨h1,h2,h3,h4⟩:=rm a (s.i 0) (s.i 1) hx h;obtain⟨k1,k2⟩:=EG a (s.i 0) (s.i 1) hx h;obtain⟨i1,i2,i3⟩:=Aw l (a+1) _ _ h1 h2;simp only[dY];refine⟨k1.trans i1,fun d hd=> ?_, ?_⟩
  . rcases zbp.1 hd with hd|hd
    . obtain⟨g0,g1,g2,g3,g4⟩:=k2 d hd;refine⟨by rw[g0,zac];omega, ?_⟩;rw[g0,Int.sub_self];exact⟨g0,g1,g2,g3,g4⟩
    . obtain⟨g0,g1⟩:=i2 d hd;rw[h3]at g1;refine⟨by rw[zac];omega, ?_⟩;rw[show(d.i 0-a).toNat=(d.i 0-(a+1)).toNat+1 by omega];exact g1
  . rw[List.pairwise_append];refine⟨?_,i3,fun d hd e he=> ?_⟩
    . refine List.Pairwise.imp_of_mem (R:=fun _ _=>True) (fun {d e} hd he _=> ?_) (List.pairwise_of_forall fun _ _=>trivial);rw[(k2 d hd).1,(k2 e he).1];exact zcj _
    . have:=(k2 d hd).1;have:=(i2 e he).1;omega
end
end Go.Proofs.YtcbnpnaagbhknaaGreat
