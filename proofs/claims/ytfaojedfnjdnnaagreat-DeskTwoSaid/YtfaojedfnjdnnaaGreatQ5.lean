/- Part of a proof: Keep, Deal, Right, Trust, Notes, View, Same, Begins, Pool, Pro, Flow, FlowAid, FlowPlain, Loss. Conditions: none. -/
import Derived.Test.YtfaojedfnjdnnaaGreatQ2
import Derived.Test.YtfaojedfnjdnnaaGreatQ4
set_option linter.unusedVariables false
set_option linter.unusedSimpArgs false
set_option linter.unnecessarySimpa false
set_option linter.unusedSectionVars false
namespace Go.Proofs.YtfaojedfnjdnnaaGreat
noncomputable section
open Go Go.Proofs.YtfaojedfnjdnnaaGreat.Ev
set_option maxRecDepth 20000
def XS:List FuncId:=[57]
def XX:bp:=pY 57
theorem QH:lO Tryz.prog XX:=RZ
theorem T4 (g:FuncId) (args:List Value) (H:ag) (h:(XS.any fun x=>g==x)=false):XX g args H=none:=by
 have h:(g==57)=false:=by simpa[XS]using h
 unfold XX pY;rw[h]
def LQ:List FuncId:=[13,14,17,23,26,32,35,40,43,47,48,50,59,65,86,87,90,93,95,96,98,120,123,124,130,131,139,140,142,147,148,163,164,170,181,183,185,187,188,189,205,206,209,216,218,228]
def teL:List (FuncId × (List Value->Option (Bool × Value))):=[(24,e24),(179,aaP),(202,acV),(204,Xy)]
def TE:Tab:=gV teL
def KN:FuncId->Bool:=O3 teL XS
theorem GV:bp.right Tryz.prog TE:=cL (aI Wb (aI Sj (aI QJ (aI HJ az))))
abbrev OO:bp:=iW TE XX
theorem ae:∀g,KN g=false->∀args H,OO g args H=none:=CW T4
def T0:Tb Tryz.prog LQ TE XX:= .nil QH.fr
abbrev HO (F:aA) (t:aQ):Prop:=F.gM Tryz.prog LQ OO t
abbrev ER (g:FuncId) (e:oK):Prop:=eA Tryz.prog LQ OO g e
abbrev TB:=Tb Tryz.prog LQ TE XX
def Ev.Tb.ad {g:FuncId} {e:oK} (T:TB) (h:eA Tryz.prog LQ OO g e):TB:=T.add g e h
def T57:TB:=T0.ad (g:=57) (JM fun _=>rfl)
def bB (l:LI0) (i:Int):Int:=if l=[]then 0 else l.getD (i%(l.length:Int)).toNat 0
def Ho (i:Nat) (x:Int):Dat:= .r [.n (2*i+1),.n (within x 0 100000)]
def gg:Nat->LI0->LD0
 |_,[]=>[]
 |i,x::l=>Ho i x::gg (i+1) l
def ml (l:LI0):LD0:=gg 0 (l.take 10)
def N63:aA:=⟨T57.tab,63,⟨[.ints .i64,.z0],[],0⟩,⟨[.z0],[],0⟩,[]⟩
def t63 (m:Nat):LI0 × Int->OU0:=fun(a0,a1)=>
 bif (a0.length:Int)==0 then
 some ([.i 0])
 else
 Y7 (decide ((a0.length:Int)=0))<|
 lt ((a1.tmod (a0.length:Int)):Int) fun x1=>
 chk (inb x1 a0.length)<|
 chk (decide (x1.toNat<a0.length))<|
 some ([.i (a0.getD x1.toNat 0)])
def f63:LI0 × Int->Bool × List Un:=fun(a0,a1)=>(decide (0<=a1),[.i (bB a0 a1)])
theorem Vi:ER 63 (mkE N63.en N63.ex f63):=ak ae T57.right (fun m=>[]) (t:=t63) (by kernel_rfl) (fun m=>az) (fun m a=>by kernel_rfl) fun(a0,a1) hc=>by
 dsimp only[f63]at hc⊢;simp only[zag]at hc;refine⟨0, ?_⟩;unfold t63 bB;cases a0 with
 |nil=>simp[dY]
 |cons x l=>
  have e:=zbz a1 (show((x::l).length:Int)≠0 by simp;omega);have e2:=zbk a1 (show(0:Int)<((x::l).length:Int) by simp);rw[if_neg (by simp)];dsimp only;simp only[tm _ hc];generalize a1%_=z at*
  simp(disch:=omega) only[TRa,TRi,aa]
def T63:TB:=T57.ad Vi
def N62:aA:=⟨T63.tab,62,⟨[.ints .i64],[],0⟩,⟨[.buf 0 2],[.ab (sI 2)],0⟩,[]⟩
abbrev MM:Type:=LI0 × Int × LD0
def E6 (m:Nat) (k:MM->OU0):MM->OU0:=fun(a0,a1,a2)=>
 bif (decide (a1<(a0.length:Int)))then
 bif decide (a1<10)then
 chk (inb a1 a0.length)<|
 chk (decide (a1.toNat<a0.length))<|
 chk (fits (a2.length+1) 16)<|
 k (a0,(w64 (a1+1)),(a2++([.r [.n (w64 ((w64 (2*a1))+1)),.n (within (a0.getD a1.toNat 0) 0 100000)]])))
 else
 some ([.d a2])
 else
 some ([.d a2])
def CK (m:Nat):Nat->MM->OU0:=aX (E6 m)
theorem z9 (m:Nat) (n:Nat):CK m (n+1)=E6 m (CK m n):=rfl
def Q4 (F:MM->OU0):aQ:=⟨[.lp [0,1,0,1,1],.blk 0,.code [1,1,1]],⟨frm 28 [(0,.ints .i64),(3,.buf 0 2),(4,.z0)],[.ab (sI 2)],0⟩,onU F⟩
theorem aaG (m:Nat):∀n,HO N62 (Q4 (CK m n)):=an ae T63.right (fun k=>[Q4 k]) (fun k h=>(aI h az)) fun k a=>by kernel_rfl
def t62 (m:Nat):LI0->OU0:=fun a0=>
 CK m m (a0,0,[])
theorem YU (m:Nat):∀(rest pre:LI0) (acc:LD0) (n:Nat),rest.length<n->acc.length=pre.length->pre.length<=10->
 CK m n (pre++rest,(pre.length:Int),acc)=some [.d (acc++gg pre.length (rest.take (10-pre.length)))]:=by
 intro rest
 induction rest with
 |nil=>
  intro pre acc n hn hl hp;obtain⟨n,rfl⟩:=ah n (by simp at hn;omega);rw[z9];unfold E6;dsimp only;simp[ay,gg]
 |cons x rest ih=>
  intro pre acc n hn hl hp;obtain⟨n,rfl⟩:=ah n (by simp at hn;omega);simp only[zac]at hn;rw[z9];unfold E6;dsimp only
  by_cases h:pre.length<10
  . have:=ih (pre++[x]) (acc++[Ho pre.length x]) n (by omega) (by simp;omega) (by simp;omega);obtain⟨k,hk⟩:∃k,10-pre.length=k+1:=⟨9-pre.length,by omega⟩
    have hk2:10-(pre.length+1)=k:=by omega
    simp only[hk2,hk,List.take_succ_cons,gg,Ho,zab,zac,zar,zaq,zaC,zas,zaL]at this⊢;simp(disch:=omega) only[TRa,TRi,aa,LNl,LNi,zad,bu];exact this
  . simp only[show 10-pre.length=0 by omega,List.take_zero,gg,zaK];simp(disch:=omega) only[TRa,TRi,aa,LNl,LNi,zad,bu]
def f62:LI0->Bool × List Un:=fun a0=>(true,[.d (ml a0)])
theorem T9:ER 62 (mkE N62.en N62.ex f62):=ak ae T63.right (fun m=>[Q4 (CK m m)]) (t:=t62) (by kernel_rfl) (fun m=>(aI (aaG m m) az)) (fun m a=>by kernel_rfl) fun a0 hc=>by
 dsimp only[f62]at⊢;refine⟨a0.length+1, ?_⟩;have:=YU (a0.length+1) a0 [] [] (a0.length+1) (by omega) rfl (by simp);simpa[ml,t62]using this
def T62:TB:=T63.ad T9
@[ext] structure av where
 year:Int
 month:Int
 basis:Int
instance : Uns av := Uns.via (B := Int × Int × Int) (fun x => (x.year, x.month, x.basis)) (fun x => match x with | (year, month, basis) => ⟨year, month, basis⟩) (fun _ => rfl)
@[ext] structure aw where
 fee:Int
 bq:Int
 target:Int
 advance:Int
 eX:Int
 oc:Int
 ic:Int
 late:Int
 kY:Int
 clean:Int
instance : Uns aw := Uns.via (B := Int × Int × Int × Int × Int × Int × Int × Int × Int × Int) (fun x => (x.fee, x.bq, x.target, x.advance, x.eX, x.oc, x.ic, x.late, x.kY, x.clean)) (fun x => match x with | (fee, bq, target, advance, eX, oc, ic, late, kY, clean) => ⟨fee, bq, target, advance, eX, oc, ic, late, kY, clean⟩) (fun _ => rfl)
@[ext] structure aU where
 a:av
 aC:List Dat
 notes:List Dat
 b:aw
 s0:List Dat
 s1:List Dat
 s2:List Dat
instance : Uns aU := Uns.via (B := av × LD0 × LD0 × aw × LD0 × LD0 × LD0) (fun x => (x.a, x.aC, x.notes, x.b, x.s0, x.s1, x.s2)) (fun x => match x with | (a, aC, notes, b, s0, s1, s2) => ⟨a, aC, notes, b, s0, s1, s2⟩) (fun _ => rfl)
@[ext] structure cj where
 a:av
 b:aw
 aC:List Int
 notes:List Int
 rf:List Int
 Cn:List Int
 s0:List Int
 s1:List Int
 s2:List Int
instance : Uns cj := Uns.via (B := av × aw × LI0 × LI0 × LI0 × LI0 × LI0 × LI0 × LI0) (fun x => (x.a, x.b, x.aC, x.notes, x.rf, x.Cn, x.s0, x.s1, x.s2)) (fun x => match x with | (a, b, aC, notes, rf, Cn, s0, s1, s2) => ⟨a, b, aC, notes, rf, Cn, s0, s1, s2⟩) (fun _ => rfl)
def au (j:Nat):LD0->Int
 |[]=>0
 |d::l=>d.i j+au j l
def eQ (k:cj):LD0:=ml k.aC++[.r [.n 99,.n 50000]]
def jA (k:cj):Int:=au 1 (eQ k)
def Ls (k:cj) (p:Int) (i:Nat):Dat:= .r [.n (within (bB k.rf i) 0 3),.n (1+within (bB k.notes i) 0 (p/6)),.n (within (bB k.Cn i) 0 1200)]
def im (k:cj):LD0:=(List.range (min 5 (1+k.notes.length))).map (Ls k (jA k))
def jD (x:Int):Int:=if within x 1 7=3 then within (w64 (x.tdiv 7)) 0 3 else 0
def cR (l:LD0) (a b:Int):Bool:=l.any fun d=>d.i 0==a&&d.i 1==b
def gA:LD0->LI0->LD0
 |acc,[]=>acc
 |acc,x::r=>gA (if cR acc (within x 1 7) (jD x)then acc else acc++[.r [.n (within x 1 7),.n (jD x)]]) r
def AS:LD0:=[.r [.n 1,.n 0],.r [.n 3,.n 0],.r [.n 3,.n 1],.r [.n 4,.n 0],.r [.n 2,.n 0],.r [.n 6,.n 0]]
def jm (l:LI0):LD0:=if (gA [] (l.take 12)).length=0 then AS else gA [] (l.take 12)
def bF (k:cj):aU:=⟨⟨within k.a.year 1990 2040,within k.a.month 1 12,within k.a.basis 0 2⟩,eQ k,im k,
 ⟨within k.b.fee 0 200,within k.b.bq 0 5000,within k.b.target 0 500,within k.b.advance 0 3000,within k.b.eX 0 3,within k.b.oc 0 12000,within k.b.ic 0 15000,within k.b.late 0 5000,within k.b.kY 0 5000,within k.b.clean 0 3000⟩,
 jm k.s0,jm k.s1,jm k.s2⟩
theorem rA:∀(l:LI0) (i:Nat),∀d∈gg i l,0<=d.i 1/\d.i 1<=100000
 |[],i=>by simp[gg]
 |x::l,i=>by
  simp only[gg,zaN,forall_eq_or_imp];exact⟨aV (by decide),rA l _⟩
theorem zm:∀(l:LI0) (i:Nat),(gg i l).length=l.length
 |[],i=>rfl
 |x::l,i=>by simp[gg,zm l]
theorem sx (k:cj):(eQ k).length<=11:=by simp[eQ,ml,zm];omega
theorem Ak (k:cj):∀d∈eQ k,0<=d.i 1/\d.i 1<=100000:=by
 simp only[eQ,ml,za0,zbg]
 rintro d (h|rfl)
 . exact rA _ _ d h
 . decide
theorem tx (j:Nat) (b:Int):∀(l:LD0),(∀d∈l,0<=d.i j/\d.i j<=b)->0<=au j l/\au j l<=b*l.length
 |[],_=>by simp[au]
 |x::l,h=>by
  have h1:=h x (by simp);have h2:=tx j b l fun d hd=>h d (by simp[hd])
  simp only[au,zac,zaL,zce];omega
theorem z7 (k:cj):50000<=jA k/\jA k<=1100000:=by
 have h1:=tx 1 100000 (eQ k) (Ak k);have h2:=sx k;refine⟨?_,by unfold jA;omega⟩;have h3:∀(a b:LD0),au 1 (a++b)=au 1 a+au 1 b:=by
  intro a b
  induction a with
  |nil=>simp[au]
  |cons x a ih=>simp only[zaC,au,ih];omega
 have h4:=tx 1 100000 (ml k.aC) (rA _ _);rw[jA,eQ,h3];have:au 1 [Dat.r [.n 99,.n 50000]]=50000:=by decide
 omega
theorem EN (l:LD0) (x:Dat) (a b:Int):cR (l++[x]) a b=(cR l a b||(x.i 0==a&&x.i 1==b)):=by simp[cR]
theorem Aj:∀(l:LI0) (acc:LD0),(gA acc l).length<=acc.length+l.length
 |[],acc=>by simp[gA]
 |x::l,acc=>by
  have:=Aj l (if cR acc (within x 1 7) (jD x)then acc else acc++[.r [.n (within x 1 7),.n (jD x)]]);simp only[gA,zac]
  split at this<;>rename_i h
  . rw[if_pos h];omega
  . rw[if_neg h];simp at this⊢;omega
def N22:aA:=⟨T62.tab,22,⟨[.agg [.z0,.z0,.z0,.z0,.z0,.z0,.z0,.z0,.z0,.z0,.z0,.z0,.z0,.ints .i64,.ints .i64,.ints .i64,.ints .i64,.ints .i64,.ints .i64,.ints .i64]],[],0⟩,⟨[.agg [.z0,.z0,.z0,.buf 0 2,.buf 1 3,.z0,.z0,.z0,.z0,.z0,.z0,.z0,.z0,.z0,.z0,.buf 2 2,.buf 3 2,.buf 4 2]],[.ab (sI 2),.ab (sI 3),.ab (sI 2),.ab (sI 2),.ab (sI 2)],0⟩,[]⟩
abbrev Mi:Type:=Int × Int × Bool × Int × Int × Int × cj × av × aw × av × aw × LD0 × Int × Int × LD0 × LD0 × LD0 × LD0 × LD0 × LD0 × LD0 × LD0 × LD0 × LD0
abbrev tq:Type:=Int × Int × Int × cj × av × aw × av × aw × LD0 × LD0 × LD0 × LD0 × LD0 × LD0 × LD0 × LD0 × LD0 × LD0 × LD0
abbrev mY:Type:=Int × cj × av × aw × av × aw × LD0 × LD0 × LD0 × LD0 × LD0 × LD0 × LD0 × LD0 × LD0 × LD0
abbrev MD:Type:=Int × Int × cj × av × aw × av × aw × LD0 × LD0 × LD0 × LD0 × LD0 × LD0 × LD0 × LD0 × LD0 × LD0
abbrev MG:Type:=Int × Int × Int × cj × av × aw × av × aw × LD0 × LD0 × LD0 × LD0 × LD0 × LD0 × LD0 × LD0 × LD0 × LD0
def DD (m:Nat) (k2:mY->OU0) (k3:tq->OU0) (k:Mi->OU0):Mi->OU0:=fun(a0,a1,a2,a3,a4,a5,a6,a7,a8,a9,a10,a11,a12,a13,a14,a15,a16,a17,a18,a19,a20,a21,a22,a23)=>
 bif decide (a5<a4)then
 chk (inb a5 a11.length)<|
 chk (decide (a5.toNat<a11.length))<|
 lt (ai a11 a5.toNat:Dat) fun d22=>
 bif a2 then
 k (a0,a1,true,a3,a4,(w64 (a5+1)),a6,a7,a8,a9,a10,a11,a12,a13,a14,a15,a16,a17,a18,a19,a20,a21,a22,a23)
 else
 k (a0,a1,(((d22.i 0)==a12)&&(((d22.i 1)==a13)&&true)),a3,a4,(w64 (a5+1)),a6,a7,a8,a9,a10,a11,a12,a13,a14,a15,a16,a17,a18,a19,a20,a21,a22,a23)
 else
 bif !a2 then
 chk (fits (a11.length+1) 16)<|
 k3 (a0,(w64 (a1+1)),a3,a6,a7,a8,a9,a10,(a11++([.r [.n a12,.n a13]])),a14,a15,a16,a17,a18,a19,a20,a21,a22,a23)
 else
 k3 (a0,(w64 (a1+1)),a3,a6,a7,a8,a9,a10,a11,a14,a15,a16,a17,a18,a19,a20,a21,a22,a23)
def AE (m:Nat) (k2:mY->OU0) (k3:tq->OU0):Nat->Mi->OU0:=aX (DD m k2 k3)
theorem Aa (m:Nat) (k2:mY->OU0) (k3:tq->OU0) (n:Nat):AE m k2 k3 (n+1)=DD m k2 k3 (AE m k2 k3 n):=rfl
def Rm (F:Mi->OU0):aQ:=⟨[.lp [0,1,0,1,1,1,0,0,1,0,0,1,0,1,1,0,0,1,1,0,0,1,0,1,1,1,1,1,1,1],.blk 8,.code [1,1,1,1,0,0,1,0,0,1,0,1,1,0,0,1,1,0,0,1,0,1,1,1,1,1,1,1],.blk 7,.code [1,1,0,0,1,0,1,1,0,0,1,1,0,0,1,0,1,1,1,1,1,1,1],.lp [0,1,0,1,1,0,0,1,1,0,0,1,0,1,1,1,1,1,1,1],.blk 6,.code [1,1,1,0,0,1,1,0,0,1,0,1,1,1,1,1,1,1],.blk 5,.code [1,1,1,0,0,1,0,1,1,1,1,1,1,1],.lp [0,1,0,1,1,1,1,1,1,1],.blk 4,.code [1,1,1,1,1,1,1,1]],⟨frm 192 [(1,.ptr 0 0 0),(2,.ptr 1 0 0),(3,.ptr 2 0 0),(9,.z0),(10,.buf 3 2),(11,.z0),(12,.ptr 4 0 0),(13,.bool),(119,.z0),(157,.buf 3 2),(158,.z0),(159,.z0)],[.cells [.z0,.z0,.z0,.z0,.z0,.z0,.z0,.z0,.z0,.z0,.z0,.z0,.z0,.ints .i64,.ints .i64,.ints .i64,.ints .i64,.ints .i64,.ints .i64,.ints .i64],.cells [.z0,.z0,.z0,.buf 5 2,.buf 6 3,.z0,.z0,.z0,.z0,.z0,.z0,.z0,.z0,.z0,.z0,.buf 7 2,.buf 8 2,.buf 9 2],.cells [.z0,.z0,.z0,.buf 10 2,.buf 11 3,.z0,.z0,.z0,.z0,.z0,.z0,.z0,.z0,.z0,.z0,.buf 12 2,.buf 13 2,.buf 14 2],.ab (sI 2),.cells [.z0,.z0],.ab (sI 2),.ab (sI 3),.ab (sI 2),.ab (sI 2),.ab (sI 2),.ab (sI 2),.ab (sI 3),.ab (sI 2),.ab (sI 2),.ab (sI 2)],0⟩,onU F⟩
def ET (m:Nat) (k2:mY->OU0) (k:tq->OU0):tq->OU0:=fun(a0,a1,a2,a3,a4,a5,a6,a7,a8,a9,a10,a11,a12,a13,a14,a15,a16,a17,a18)=>
 chk (inb a0 3)<|
 chk (decide (a0.toNat<3))<|
 bif (decide (a1<((List.getD [a3.s0,a3.s1,a3.s2] a0.toNat []).length:Int)))then
 bif decide (a1<12)then
 chk (inb a0 3)<|
 chk (decide (a0.toNat<3))<|
 chk (inb a1 ((List.getD [a3.s0,a3.s1,a3.s2] a0.toNat []).length))<|
 chk (decide (a1.toNat<(List.getD [a3.s0,a3.s1,a3.s2] a0.toNat []).length))<|
 lt (((List.getD [a3.s0,a3.s1,a3.s2] a0.toNat []).getD a1.toNat 0):Int) fun x19=>
 bif (within x19 1 7)==3 then
 chk (inb a0 3)<|
 chk (decide (a0.toNat<3))<|
 chk (inb a1 ((List.getD [a3.s0,a3.s1,a3.s2] a0.toNat []).length))<|
 chk (decide (a1.toNat<(List.getD [a3.s0,a3.s1,a3.s2] a0.toNat []).length))<|
 AE m k2 k m (a0,a1,false,a2,(a8.length:Int),0,a3,a4,a5,a6,a7,a8,(within x19 1 7),(within (w64 (((List.getD [a3.s0,a3.s1,a3.s2] a0.toNat []).getD a1.toNat 0).tdiv 7)) 0 3),a9,a10,a11,a12,a13,a14,a15,a16,a17,a18)
 else
 AE m k2 k m (a0,a1,false,a2,(a8.length:Int),0,a3,a4,a5,a6,a7,a8,(within x19 1 7),0,a9,a10,a11,a12,a13,a14,a15,a16,a17,a18)
 else
 bif (a8.length:Int)==0 then
 bif decide (a0=0)then
 k2 ((w64 (a2+1)),a3,a4,a5,a6,a7,a9,a10,a11,a12,a13,a14,a15,([.r [.n 1,.n 0],.r [.n 3,.n 0],.r [.n 3,.n 1],.r [.n 4,.n 0],.r [.n 2,.n 0],.r [.n 6,.n 0]]:LD0),a17,a18)
 else
 bif decide (a0=1)then
 k2 ((w64 (a2+1)),a3,a4,a5,a6,a7,a9,a10,a11,a12,a13,a14,a15,a16,([.r [.n 1,.n 0],.r [.n 3,.n 0],.r [.n 3,.n 1],.r [.n 4,.n 0],.r [.n 2,.n 0],.r [.n 6,.n 0]]:LD0),a18)
 else
 bif decide (a0=2)then
 k2 ((w64 (a2+1)),a3,a4,a5,a6,a7,a9,a10,a11,a12,a13,a14,a15,a16,a17,([.r [.n 1,.n 0],.r [.n 3,.n 0],.r [.n 3,.n 1],.r [.n 4,.n 0],.r [.n 2,.n 0],.r [.n 6,.n 0]]:LD0))
 else
 none
 else
 bif decide (a0=0)then
 k2 ((w64 (a2+1)),a3,a4,a5,a6,a7,a9,a10,a11,a12,a13,a14,a15,a8,a17,a18)
 else
 bif decide (a0=1)then
 k2 ((w64 (a2+1)),a3,a4,a5,a6,a7,a9,a10,a11,a12,a13,a14,a15,a16,a8,a18)
 else
 bif decide (a0=2)then
 k2 ((w64 (a2+1)),a3,a4,a5,a6,a7,a9,a10,a11,a12,a13,a14,a15,a16,a17,a8)
 else
 none
 else
 bif (a8.length:Int)==0 then
 bif decide (a0=0)then
 k2 ((w64 (a2+1)),a3,a4,a5,a6,a7,a9,a10,a11,a12,a13,a14,a15,([.r [.n 1,.n 0],.r [.n 3,.n 0],.r [.n 3,.n 1],.r [.n 4,.n 0],.r [.n 2,.n 0],.r [.n 6,.n 0]]:LD0),a17,a18)
 else
 bif decide (a0=1)then
 k2 ((w64 (a2+1)),a3,a4,a5,a6,a7,a9,a10,a11,a12,a13,a14,a15,a16,([.r [.n 1,.n 0],.r [.n 3,.n 0],.r [.n 3,.n 1],.r [.n 4,.n 0],.r [.n 2,.n 0],.r [.n 6,.n 0]]:LD0),a18)
 else
 bif decide (a0=2)then
 k2 ((w64 (a2+1)),a3,a4,a5,a6,a7,a9,a10,a11,a12,a13,a14,a15,a16,a17,([.r [.n 1,.n 0],.r [.n 3,.n 0],.r [.n 3,.n 1],.r [.n 4,.n 0],.r [.n 2,.n 0],.r [.n 6,.n 0]]:LD0))
 else
 none
 else
 bif decide (a0=0)then
 k2 ((w64 (a2+1)),a3,a4,a5,a6,a7,a9,a10,a11,a12,a13,a14,a15,a8,a17,a18)
 else
 bif decide (a0=1)then
 k2 ((w64 (a2+1)),a3,a4,a5,a6,a7,a9,a10,a11,a12,a13,a14,a15,a16,a8,a18)
 else
 bif decide (a0=2)then
 k2 ((w64 (a2+1)),a3,a4,a5,a6,a7,a9,a10,a11,a12,a13,a14,a15,a16,a17,a8)
 else
 none
def Bk (m:Nat) (k2:mY->OU0):Nat->tq->OU0:=aX (ET m k2)
theorem Au (m:Nat) (k2:mY->OU0) (n:Nat):Bk m k2 (n+1)=ET m k2 (Bk m k2 n):=rfl
def Mn (F:tq->OU0):aQ:=⟨[.lp [0,1,0,1,1,0,0,1,1,0,0,1,0,1,1,1,1,1,1,1],.blk 6,.code [1,1,1,0,0,1,1,0,0,1,0,1,1,1,1,1,1,1],.blk 5,.code [1,1,1,0,0,1,0,1,1,1,1,1,1,1],.lp [0,1,0,1,1,1,1,1,1,1],.blk 4,.code [1,1,1,1,1,1,1,1]],⟨frm 192 [(1,.ptr 0 0 0),(2,.ptr 1 0 0),(3,.ptr 2 0 0),(9,.z0),(10,.buf 3 2),(11,.z0),(119,.z0)],[.cells [.z0,.z0,.z0,.z0,.z0,.z0,.z0,.z0,.z0,.z0,.z0,.z0,.z0,.ints .i64,.ints .i64,.ints .i64,.ints .i64,.ints .i64,.ints .i64,.ints .i64],.cells [.z0,.z0,.z0,.buf 4 2,.buf 5 3,.z0,.z0,.z0,.z0,.z0,.z0,.z0,.z0,.z0,.z0,.buf 6 2,.buf 7 2,.buf 8 2],.cells [.z0,.z0,.z0,.buf 9 2,.buf 10 3,.z0,.z0,.z0,.z0,.z0,.z0,.z0,.z0,.z0,.z0,.buf 11 2,.buf 12 2,.buf 13 2],.ab (sI 2),.ab (sI 2),.ab (sI 3),.ab (sI 2),.ab (sI 2),.ab (sI 2),.ab (sI 2),.ab (sI 3),.ab (sI 2),.ab (sI 2),.ab (sI 2)],0⟩,onU F⟩
def uN (m:Nat) (k:mY->OU0):mY->OU0:=fun(a0,a1,a2,a3,a4,a5,a6,a7,a8,a9,a10,a11,a12,a13,a14,a15)=>
 bif decide (a0<3)then
 Bk m k m (a0,0,a0,a1,a2,a3,a4,a5,[],a6,a7,a8,a9,a10,a11,a12,a13,a14,a15)
 else
 some (Uns.enc (a4:av)++Uns.enc (a5:aw)++[.d a11,.d a12,.d a13,.d a14,.d a15])
def sF (m:Nat):Nat->mY->OU0:=aX (uN m)
theorem oL (m:Nat) (n:Nat):sF m (n+1)=uN m (sF m n):=rfl
def Ib (F:mY->OU0):aQ:=⟨[.lp [0,1,0,1,1,1,1,1,1,1],.blk 4,.code [1,1,1,1,1,1,1,1]],⟨frm 192 [(1,.ptr 0 0 0),(2,.ptr 1 0 0),(3,.ptr 2 0 0),(119,.z0)],[.cells [.z0,.z0,.z0,.z0,.z0,.z0,.z0,.z0,.z0,.z0,.z0,.z0,.z0,.ints .i64,.ints .i64,.ints .i64,.ints .i64,.ints .i64,.ints .i64,.ints .i64],.cells [.z0,.z0,.z0,.buf 3 2,.buf 4 3,.z0,.z0,.z0,.z0,.z0,.z0,.z0,.z0,.z0,.z0,.buf 5 2,.buf 6 2,.buf 7 2],.cells [.z0,.z0,.z0,.buf 8 2,.buf 9 3,.z0,.z0,.z0,.z0,.z0,.z0,.z0,.z0,.z0,.z0,.buf 10 2,.buf 11 2,.buf 12 2],.ab (sI 2),.ab (sI 3),.ab (sI 2),.ab (sI 2),.ab (sI 2),.ab (sI 2),.ab (sI 3),.ab (sI 2),.ab (sI 2),.ab (sI 2)],0⟩,onU F⟩
def Dr (m:Nat) (k:MD->OU0):MD->OU0:=fun(a0,a1,a2,a3,a4,a5,a6,a7,a8,a9,a10,a11,a12,a13,a14,a15,a16)=>
 bif decide (a1<(w64 (1+(a2.notes.length:Int))))then
 bif decide (a1<5)then
 chk (decide (0<=a1))<|
 bif decide (-2305843009213693952<=0/\0<=(w64 (a0.tdiv 6))/\(w64 (a0.tdiv 6))<=2305843009213693952)then
 chk (decide (0<=a1))<|
 chk (decide (0<=a1))<|
 chk (fits (a13.length+1) 24)<|
 k (a0,(w64 (a1+1)),a2,a3,a4,a5,a6,a7,a8,a9,a10,a11,a12,(a13++([.r [.n (within (bB a2.rf a1) 0 3),.n (w64 (1+(within (bB a2.notes a1) 0 (w64 (a0.tdiv 6))))),.n (within (bB a2.Cn a1) 0 1200)]])),a14,a15,a16)
 else
 none
 else
 sF m m (0,a2,a3,a4,a5,a6,a7,a8,a9,a10,a11,a12,a13,a14,a15,a16)
 else
 sF m m (0,a2,a3,a4,a5,a6,a7,a8,a9,a10,a11,a12,a13,a14,a15,a16)
def Bg (m:Nat):Nat->MD->OU0:=aX (Dr m)
theorem AY (m:Nat) (n:Nat):Bg m (n+1)=Dr m (Bg m n):=rfl
def QK (F:MD->OU0):aQ:=⟨[.lp [0,1,0,1,1,1,1,1,1],.blk 2,.code [1,1,1,1,1,1,1]],⟨frm 192 [(1,.ptr 0 0 0),(2,.ptr 1 0 0),(3,.ptr 2 0 0),(4,.z0),(7,.z0)],[.cells [.z0,.z0,.z0,.z0,.z0,.z0,.z0,.z0,.z0,.z0,.z0,.z0,.z0,.ints .i64,.ints .i64,.ints .i64,.ints .i64,.ints .i64,.ints .i64,.ints .i64],.cells [.z0,.z0,.z0,.buf 3 2,.buf 4 3,.z0,.z0,.z0,.z0,.z0,.z0,.z0,.z0,.z0,.z0,.buf 5 2,.buf 6 2,.buf 7 2],.cells [.z0,.z0,.z0,.buf 8 2,.buf 9 3,.z0,.z0,.z0,.z0,.z0,.z0,.z0,.z0,.z0,.z0,.buf 10 2,.buf 11 2,.buf 12 2],.ab (sI 2),.ab (sI 3),.ab (sI 2),.ab (sI 2),.ab (sI 2),.ab (sI 2),.ab (sI 3),.ab (sI 2),.ab (sI 2),.ab (sI 2)],0⟩,onU F⟩
def EC (m:Nat) (k:MG->OU0):MG->OU0:=fun(a0,a1,a2,a3,a4,a5,a6,a7,a8,a9,a10,a11,a12,a13,a14,a15,a16,a17)=>
 bif decide (a2<a1)then
 chk (inb a2 a8.length)<|
 chk (decide (a2.toNat<a8.length))<|
 k ((w64 (a0+((ai a8 a2.toNat).i 1))),a1,(w64 (a2+1)),a3,a4,a5,a6,a7,a8,a9,a10,a11,a12,a13,a14,a15,a16,a17)
 else
 Bg m m (a0,0,a3,a4,a5,a6,a7,a9,a10,a11,a12,a13,a8,a14,a15,a16,a17)
def zG (m:Nat):Nat->MG->OU0:=aX (EC m)
theorem Ae (m:Nat) (n:Nat):zG m (n+1)=EC m (zG m n):=rfl
def O1 (F:MG->OU0):aQ:=⟨[.lp [0,1,0,1,1,1,1,1],.blk 0,.code [1,1,1,1,1,1]],⟨frm 192 [(1,.ptr 0 0 0),(2,.ptr 1 0 0),(3,.ptr 2 0 0),(4,.z0),(71,.buf 3 2),(72,.z0),(73,.z0)],[.cells [.z0,.z0,.z0,.z0,.z0,.z0,.z0,.z0,.z0,.z0,.z0,.z0,.z0,.ints .i64,.ints .i64,.ints .i64,.ints .i64,.ints .i64,.ints .i64,.ints .i64],.cells [.z0,.z0,.z0,.buf 4 2,.buf 5 3,.z0,.z0,.z0,.z0,.z0,.z0,.z0,.z0,.z0,.z0,.buf 6 2,.buf 7 2,.buf 8 2],.cells [.z0,.z0,.z0,.buf 3 2,.buf 9 3,.z0,.z0,.z0,.z0,.z0,.z0,.z0,.z0,.z0,.z0,.buf 10 2,.buf 11 2,.buf 12 2],.ab (sI 2),.ab (sI 2),.ab (sI 3),.ab (sI 2),.ab (sI 2),.ab (sI 2),.ab (sI 3),.ab (sI 2),.ab (sI 2),.ab (sI 2)],0⟩,onU F⟩
theorem ac6 (m:Nat) (k2:mY->OU0) (h2:HO N22 (Ib k2)) (k3:tq->OU0) (h3:HO N22 (Mn k3)):∀n,HO N22 (Rm (AE m k2 k3 n)):=an ae T62.right (fun k=>[Mn k3,Rm k]) (fun k h=>(aI h3 (aI h az))) fun k a=>by kernel_rfl
theorem aaY (m:Nat) (k2:mY->OU0) (h2:HO N22 (Ib k2)):∀n,HO N22 (Mn (Bk m k2 n)):=an ae T62.right (fun k=>[Ib k2,Rm (AE m k2 (k) m)]) (fun k h=>(aI h2 (aI (ac6 m _ h2 _ h m) az))) fun k a=>by kernel_rfl
theorem aaU (m:Nat):∀n,HO N22 (Ib (sF m n)):=an ae T62.right (fun k=>[Mn (Bk m (k) m)]) (fun k h=>(aI (aaY m _ h m) az)) fun k a=>by kernel_rfl
theorem ab9 (m:Nat):∀n,HO N22 (QK (Bg m n)):=an ae T62.right (fun k=>[QK k,Ib (sF m m)]) (fun k h=>(aI h (aI (aaU m m) az))) fun k a=>by kernel_rfl
theorem aaE (m:Nat):∀n,HO N22 (O1 (zG m n)):=an ae T62.right (fun k=>[O1 k,QK (Bg m m)]) (fun k h=>(aI h (aI (ab9 m m) az))) fun k a=>by kernel_rfl
def t22 (m:Nat):cj->OU0:=fun a0=>
 chk (fits ((ml a0.aC).length+1) 16)<|
 lt (((ml a0.aC)++([.r [.n 99,.n 50000]])):LD0) fun l11=>
 zG m m (0,(l11.length:Int),0,a0,(⟨0,0,0⟩:av),(⟨0,0,0,0,0,0,0,0,0,0⟩:aw),(⟨(within a0.a.year 1990 2040),(within a0.a.month 1 12),(within a0.a.basis 0 2)⟩:av),(⟨(within a0.b.fee 0 200),(within a0.b.bq 0 5000),(within a0.b.target 0 500),(within a0.b.advance 0 3000),(within a0.b.eX 0 3),(within a0.b.oc 0 12000),(within a0.b.ic 0 15000),(within a0.b.late 0 5000),(within a0.b.kY 0 5000),(within a0.b.clean 0 3000)⟩:aw),l11,[],[],[],[],[],[],[],[],[])
section
variable (m : Nat) (k : cj) (za da : av) (zb db : aw) (x1 x2 x3 x4 x5 x6 x7 x8 x9 : LD0)
theorem XG:∀(rest pre:LD0) (n:Nat) (p:Int),rest.length<n->(∀d∈rest,0<=d.i 1/\d.i 1<=100000)->(pre++rest).length<=11->0<=p->p<=100000*pre.length->
 zG m n (p,((pre++rest).length:Int),(pre.length:Int),k,za,zb,da,db,pre++rest,x1,x2,x3,x4,x5,x6,x7,x8,x9)=Bg m m (p+au 1 rest,0,k,za,zb,da,db,x1,x2,x3,x4,x5,pre++rest,x6,x7,x8,x9):=by
 intro rest
 induction rest with
 |nil=>
  intro pre n p hn hm hl h0 h1;obtain⟨n,rfl⟩:=ah n (by simp at hn;omega);rw[Ae];unfold EC;dsimp only;simp[ay,au]
 |cons x rest ih=>
  intro pre n p hn hm hl h0 h1;obtain⟨n,rfl⟩:=ah n (by simp at hn;omega);simp only[zac]at hn;rw[Ae];unfold EC;dsimp only;have hx:=hm x (by simp);have:=ih (pre++[x]) n (p+x.i 1) (by omega) (fun d hd=>hm d (by simp[hd])) (by simpa using hl) (by omega) (by simp;omega);simp only[zab,zac]at hl;simp only[au];simp(disch:=omega) only[TRa,TRi,aa,LNl,LNi,zad,ax];simp only[LNl,LNi,zad]at this⊢;exact this
theorem Y5 (hs:k.notes.length<=140737488355328) (p:Int) (hp:0<=p) (hp2:p<=1100000):∀(c i n:Nat),i+c=min 5 (1+k.notes.length)->c<n->
 Bg m n (p,(i:Int),k,za,zb,da,db,x1,x2,x3,x4,x5,x6,(List.range i).map (Ls k p),x7,x8,x9)=sF m m (0,k,za,zb,da,db,x1,x2,x3,x4,x5,x6,(List.range (min 5 (1+k.notes.length))).map (Ls k p),x7,x8,x9):=by
 intro c
 induction c with
 |zero=>
  intro i n hi hn;obtain⟨n,rfl⟩:=ah n (by omega);rw[<-hi];rw[AY];unfold Dr;dsimp only
  by_cases h:k.notes.length+1<5
  . have:¬(i:Int)<1+(k.notes.length:Int):=by omega
    simp(disch:=omega) only[TRa,TRi,aa,LNl,LNi,zad,ax];rfl
  . have:¬(i:Int)<5:=by omega
    simp only[ay this,gK];rfl
 |succ c ih=>
  intro i n hi hn;obtain⟨n,rfl⟩:=ah n (by omega);have:=ih (i+1) n (by omega) (by omega);rw[List.range_succ,zb5]at this;rw[AY];unfold Dr;dsimp only;have hq:0<=within (bB k.notes i) 0 (p/6)/\within (bB k.notes i) 0 (p/6)<=p/6:=aV (by omega);simp(disch:=omega) only[td,aa];simp(disch:=omega) only[TRa,TRi,aa,LNl,LNi,zad,ax];simp only[LNl,LNi,zad]at this⊢;exact this
theorem Yb (x10:LD0) (k2:mY->OU0) (k3:tq->OU0) (mi i m2 a b:Int):∀(rest pre:LD0) (n:Nat),rest.length<n->(pre++rest).length<=12->
 AE m k2 k3 n (mi,i,cR pre a b,m2,((pre++rest).length:Int),(pre.length:Int),k,za,zb,da,db,pre++rest,a,b,x1,x2,x3,x4,x5,x6,x7,x8,x9,x10)=k3 (mi,w64 (i+1),m2,k,za,zb,da,db,(if cR (pre++rest) a b then pre++rest else pre++rest++[.r [.n a,.n b]]),x1,x2,x3,x4,x5,x6,x7,x8,x9,x10):=by
 intro rest
 induction rest with
 |nil=>
  intro pre n hn hl;obtain⟨n,rfl⟩:=ah n (by simp at hn;omega);simp only[zaK]at hl⊢;rw[Aa];unfold DD;dsimp only;cases h:cR pre a b<;>simp(disch:=omega) only[TRa,TRi,aa,LNl,LNi,zad,ax]<;>simp
 |cons x rest ih=>
  intro pre n hn hl;obtain⟨n,rfl⟩:=ah n (by simp at hn;omega);simp only[zac,zab]at hn hl;rw[Aa];unfold DD;dsimp only;have:=ih (pre++[x]) n (by omega) (by simp;omega);rw[EN]at this;cases h:cR pre a b<;>rw[h]at this<;>simp(disch:=omega) only[TRa,TRi,aa,LNl,LNi,zad,ax]<;>simp only[LNl,LNi,zad]at this⊢<;>simpa using this
theorem ZZ (x10:LD0) (k2:mY->OU0) (mi m2:Int) (h0:0<=mi) (h1:mi<3) (hm:12<m) (l:LI0) (hl:List.getD [k.s0,k.s1,k.s2] mi.toNat []=l):∀(rest pre:LI0) (acc:LD0) (n:Nat),rest.length<n->l.take 12=pre++rest->acc.length<=pre.length->
 Bk m k2 n (mi,(pre.length:Int),m2,k,za,zb,da,db,acc,x1,x2,x3,x4,x5,x6,x7,x8,x9,x10)=
  bif decide (mi=0)then k2 (w64 (m2+1),k,za,zb,da,db,x1,x2,x3,x4,x5,x6,x7,(if (gA acc rest).length=0 then AS else gA acc rest),x9,x10)
  else bif decide (mi=1)then k2 (w64 (m2+1),k,za,zb,da,db,x1,x2,x3,x4,x5,x6,x7,x8,(if (gA acc rest).length=0 then AS else gA acc rest),x10)
  else bif decide (mi=2)then k2 (w64 (m2+1),k,za,zb,da,db,x1,x2,x3,x4,x5,x6,x7,x8,x9,(if (gA acc rest).length=0 then AS else gA acc rest))else none:=by
 intro rest
 induction rest with
 |nil=>
  intro pre acc n hn hp ha;obtain⟨n,rfl⟩:=ah n (by simp at hn;omega);have hpl:min 12 l.length=pre.length:=by have:=zcm List.length hp;simpa using this
  rw[Au];unfold ET;dsimp only;simp only[hl,gA]
  by_cases hz:acc.length=0
  . simp only[hz,zbh]
    by_cases h:l.length<12
    . have:¬(pre.length:Int)<(l.length:Int):=by omega
      simp(disch:=omega) only[TRa,TRi,aa,LNl,LNi,zad,ax];rfl
    . have:¬(pre.length:Int)<12:=by omega
      by_cases h':(pre.length:Int)<(l.length:Int)
      . simp(disch:=omega) only[TRa,TRi,aa,LNl,LNi,zad,ax];rfl
      . simp(disch:=omega) only[TRa,TRi,aa,LNl,LNi,zad,ax];rfl
  . simp only[hz,zbp]
    by_cases h:l.length<12
    . have:¬(pre.length:Int)<(l.length:Int):=by omega
      simp(disch:=omega) only[TRa,TRi,aa,LNl,LNi,zad,ax]
    . have:¬(pre.length:Int)<12:=by omega
      by_cases h':(pre.length:Int)<(l.length:Int)
      . simp(disch:=omega) only[TRa,TRi,aa,LNl,LNi,zad,ax]
      . simp(disch:=omega) only[TRa,TRi,aa,LNl,LNi,zad,ax]
 |cons x rest ih=>
  intro pre acc n hn hp ha;obtain⟨n,rfl⟩:=ah n (by simp at hn;omega);simp only[zac]at hn;have hpl:min 12 l.length=pre.length+(rest.length+1):=by have:=zcm List.length hp;simpa using this
  have hx:l.getD pre.length 0=x:=by
   have:(l.take 12)[pre.length]? =some x:=by rw[hp];simp
   rw[zau,if_pos (by omega)]at this;simp[this]
  have:=ih (pre++[x]) (if cR acc (within x 1 7) (jD x)then acc else acc++[.r [.n (within x 1 7),.n (jD x)]]) n (by omega) (by simpa using hp) (by split<;>simp<;>omega);refine Eq.trans ?_ this;have h4:=fun a b=>Yb m k za da zb db x1 x2 x3 x4 x5 x6 x7 x8 x9 x10 k2 (Bk m k2 n) mi (pre.length:Int) m2 a b acc [] m (by omega) (by simp;omega)
  rw[Au];unfold ET;dsimp only;simp only[zas,show ∀a b,cR [] a b=false from fun _ _=>rfl]at h4;simp only[hl,zat,hx];have e1:(pre.length:Int)<(l.length:Int):=by omega
  have e2:(pre.length:Int)<12:=by omega
  by_cases h3:within x 1 7=3
  . have hr:jD x=within (w64 (x.tdiv 7)) 0 3:=by unfold jD;rw[if_pos h3]
    simp(disch:=omega) only[TRa,TRi,aa,LNl,LNi,zad,ax];refine(h4 _ _).trans ?_
    rw[hr,aa (by omega) (by omega)]
  . have hr:jD x=0:=by unfold jD;rw[if_neg h3]
    simp(disch:=omega) only[TRa,TRi,aa,LNl,LNi,zad,ax];refine(h4 _ _).trans ?_
    rw[hr,aa (by omega) (by omega)]
end
def f22:cj->Bool × List Un:=fun a0=>(decide (a0.notes.length<=140737488355328),Uns.enc (((bF a0).a):av)++Uns.enc (((bF a0).b):aw)++[.d ((bF a0).aC),.d ((bF a0).notes),.d ((bF a0).s0),.d ((bF a0).s1),.d ((bF a0).s2)])
set_option maxHeartbeats 1000000 in
theorem UB:ER 22 (mkE N22.en N22.ex f22):=ak ae T62.right (fun m=>[O1 (zG m m)]) (t:=t22) (by kernel_rfl) (fun m=>(aI (aaE m m) az)) (fun m a=>by kernel_rfl) fun a0 hc=>by
 dsimp only[f22]at hc⊢;have hs:=zaj hc;refine⟨20, ?_⟩;unfold t22;have h1:=sx a0;have h2:=z7 a0;dsimp only[lt];change chk (fits ((ml a0.aC).length+1) 16) (zG 20 20 (0,((eQ a0).length:Int),0,a0,_,_,_,_,eQ a0,[],[],[],[],[],[],[],[],[]))=_;rw[bD (by simp[eQ]at h1;omega) (by simp[eQ]at h1;omega)];have e0:=XG 20 a0 ⟨0,0,0⟩ ⟨within a0.a.year 1990 2040,within a0.a.month 1 12,within a0.a.basis 0 2⟩ ⟨0,0,0,0,0,0,0,0,0,0⟩ (bF a0).b [] [] [] [] [] [] [] [] [] (eQ a0) [] 20 0 (by omega) (Ak a0) h1 (by omega) (by simp);have e1:=Y5 20 a0 ⟨0,0,0⟩ ⟨within a0.a.year 1990 2040,within a0.a.month 1 12,within a0.a.basis 0 2⟩ ⟨0,0,0,0,0,0,0,0,0,0⟩ (bF a0).b [] [] [] [] [] (eQ a0) [] [] [] hs (jA a0) (by omega) (by omega) (min 5 (1+a0.notes.length)) 0 20 (by omega) (by omega);have e3:=fun k2 mi m2 g0 g1 l hl l8 l9 l10=>ZZ 20 a0 ⟨0,0,0⟩ ⟨within a0.a.year 1990 2040,within a0.a.month 1 12,within a0.a.basis 0 2⟩ ⟨0,0,0,0,0,0,0,0,0,0⟩ (bF a0).b [] [] [] [] [] (eQ a0) (im a0) l8 l9 l10 k2 mi m2 g0 g1 (by omega) l hl (l.take 12) [] [] 20 (by simp;omega) rfl (by simp)
 simp only[zas,za4]at e0;refine e0.trans (e1.trans ?_);have q1:∀{α:Type} (u v w:α),(bif decide ((0:Int)=0)then u else bif decide ((0:Int)=1)then v else w)=u:=fun _ _ _=>rfl
 have q2:∀{α:Type} (u v w:α),(bif decide ((1:Int)=0)then u else bif decide ((1:Int)=1)then v else w)=v:=fun _ _ _=>rfl
 have q3:∀{α:Type} (u v w x:α),(bif decide ((2:Int)=0)then u else bif decide ((2:Int)=1)then v else bif decide ((2:Int)=2)then w else x)=w:=fun _ _ _ _=>rfl
 have w1:w64 (0+1)=1:=by decide
 have w2:w64 (1+1)=2:=by decide
 have w3:w64 (2+1)=3:=by decide
 rw[show sF 20 20=sF 20 (16+4) from rfl,oL];unfold uN;dsimp only;rw[aK (by decide)];refine(e3 _ 0 0 (by decide) (by decide) a0.s0 rfl [] [] []).trans ?_
 rw[q1,w1,oL];unfold uN;dsimp only;rw[aK (by decide)];refine(e3 _ 1 1 (by decide) (by decide) a0.s1 rfl _ [] []).trans ?_
 rw[q2,w2,oL];unfold uN;dsimp only;rw[aK (by decide)];refine(e3 _ 2 2 (by decide) (by decide) a0.s2 rfl _ _ []).trans ?_
 rw[q3,w3,oL];unfold uN;dsimp only;rw[ay (by decide)];rfl
def T22:TB:=T62.ad UB
def abh:aA:=⟨T22.tab,173,⟨[.z0,.z0,.z0],[],0⟩,⟨[.bool],[],0⟩,[]⟩
def t173 (m:Nat):Int × Int × Int->OU0:=fun(a0,a1,a2)=>
 bif decide (a0>=a1)then
 some ([.b (decide (a0<=a2))])
 else
 some ([.b false])
def f173:Int × Int × Int->Bool × List Un:=fun(a0,a1,a2)=>(true,[.b (decide (a1<=a0/\a0<=a2))])
theorem PQ:ER 173 (mkE abh.en abh.ex f173):=ak ae T22.right (fun m=>[]) (t:=t173) (by kernel_rfl) (fun m=>az) (fun m a=>by kernel_rfl) fun(a0,a1,a2) hc=>by
 dsimp only[f173]at⊢;refine⟨0, ?_⟩;unfold t173
 by_cases h:a1<=a0<;>by_cases h2:a0<=a2<;>simp[h,h2]
def Uq:TB:=T22.ad PQ
def EW (a b:Int):LD0->Int->Int
 |[],_=> -1
 |d::l,i=>if a=d.i 0/\b=d.i 1 then i else EW a b l (i+1)
theorem Hb (a b:Int):∀(l:LD0) (i:Int),0<=i->(0<=EW a b l i↔cR l a b=true)
 |[],i,h=>by simp[EW,cR]
 |d::l,i,h=>by
  have:=Hb a b l (i+1) (by omega);simp only[cR,List.any_cons,zbj,zae,zaH]at this⊢;unfold EW
  by_cases hc:a=d.i 0/\b=d.i 1
  . rw[if_pos hc];exact⟨fun _=> .inl ⟨hc.1.symm,hc.2.symm⟩,fun _=>h⟩
  . rw[if_neg hc,this];exact⟨.inr,fun h=>h.resolve_left fun e=>hc ⟨e.1.symm,e.2.symm⟩⟩
def ZX:aA:=⟨Uq.tab,199,⟨[.ab (sI 2),.agg [.z0,.z0]],[],0⟩,⟨[.z0],[],0⟩,[]⟩
abbrev Dt:Type:=LD0 × Int × Int × Int × Int
def yx (m:Nat) (k:Dt->OU0):Dt->OU0:=fun(a0,a1,a2,a3,a4)=>
 bif decide (a2<a1)then
 chk (inb a2 a0.length)<|
 chk (decide (a2.toNat<a0.length))<|
 lt (ai a0 a2.toNat:Dat) fun d1=>
 bif ((a3==(d1.i 0))&&((a4==(d1.i 1))&&true))then
 some ([.i a2])
 else
 k (a0,a1,(w64 (a2+1)),a3,a4)
 else
 some ([.i (-1)])
def uK (m:Nat):Nat->Dt->OU0:=aX (yx m)
theorem vZ (m:Nat) (n:Nat):uK m (n+1)=yx m (uK m n):=rfl
def Je (F:Dt->OU0):aQ:=⟨[.lp [0,1,0,1],.blk 0,.code [1,1]],⟨frm 19 [(0,.ab (sI 2)),(3,.ptr 0 0 0),(7,.z0),(8,.z0)],[.cells [.z0,.z0]],0⟩,onU F⟩
theorem X4 (m:Nat):∀n,HO ZX (Je (uK m n)):=an ae Uq.right (fun k=>[Je k]) (fun k h=>(aI h az)) fun k a=>by kernel_rfl
def t199 (m:Nat):LD0 × Int × Int->OU0:=fun(a0,a1,a2)=>
 uK m m (a0,(a0.length:Int),0,a1,a2)
theorem aet (m:Nat) (a b:Int):∀(rest pre:LD0) (n:Nat),rest.length<n->(pre++rest).length<1099511627776->
 uK m n (pre++rest,((pre++rest).length:Int),(pre.length:Int),a,b)=some [.i (EW a b rest pre.length)]:=by
 intro rest
 induction rest with
 |nil=>
  intro pre n hn hl;obtain⟨n,rfl⟩:=ah n (by simp at hn;omega);rw[vZ];unfold yx;dsimp only;simp[ay,EW]
 |cons x rest ih=>
  intro pre n hn hl;obtain⟨n,rfl⟩:=ah n (by simp at hn;omega);simp only[zac,zab]at hn hl;have:=ih (pre++[x]) n (by omega) (by simp;omega);rw[vZ];unfold yx;dsimp only;simp only[EW]
  by_cases h1:a=x.i 0
  . by_cases h2:b=x.i 1
    . rw[if_pos ⟨h1,h2⟩];simp(disch:=omega) only[TRa,TRi,aa,LNl,LNi,zad,ax]
    . rw[if_neg (fun h=>h2 h.2)];simp(disch:=omega) only[TRa,TRi,aa,LNl,LNi,zad,ax];simp only[LNl,LNi,zad]at this⊢;exact this
  . rw[if_neg (fun h=>h1 h.1)];simp(disch:=omega) only[TRa,TRi,aa,LNl,LNi,zad,ax];simp only[LNl,LNi,zad]at this⊢;exact this
def f199:LD0 × Int × Int->Bool × List Un:=fun(a0,a1,a2)=>(decide (a0.length<1099511627776),[.i (EW a1 a2 a0 0)])
theorem RG:ER 199 (mkE ZX.en ZX.ex f199):=ak ae Uq.right (fun m=>[Je (uK m m)]) (t:=t199) (by kernel_rfl) (fun m=>(aI (X4 m m) az)) (fun m a=>by kernel_rfl) fun(a0,a1,a2) hc=>by
 dsimp only[f199]at hc⊢;refine⟨a0.length+1, ?_⟩;exact aet _ a1 a2 a0 [] _ (by omega) (zaj hc)
def XJ:TB:=Uq.ad RG
def ab1:aA:=⟨XJ.tab,174,⟨[.ab (sI 2),.agg [.z0,.z0]],[],0⟩,⟨[.bool],[],0⟩,[]⟩
def t174 (m:Nat):LD0 × Int × Int->OU0:=fun(a0,a1,a2)=>
 chk (decide (a0.length<1099511627776))<|
 some ([.b (decide ((EW a1 a2 a0 0)>=0))])
def f174:LD0 × Int × Int->Bool × List Un:=fun(a0,a1,a2)=>(decide (a0.length<1099511627776),[.b (cR a0 a1 a2)])
theorem Rr:ER 174 (mkE ab1.en ab1.ex f174):=ak ae XJ.right (fun m=>[]) (t:=t174) (by kernel_rfl) (fun m=>az) (fun m a=>by kernel_rfl) fun(a0,a1,a2) hc=>by
 dsimp only[f174]at hc⊢;refine⟨0, ?_⟩;have e:=Hb a1 a2 a0 0 (zcb 0);have h:=zaj hc;unfold t174;simp(disch:=omega) only[TRa,TRi,aa];cases h:cR a0 a1 a2<;>simp[h]at e⊢<;>omega
def Ut:TB:=XJ.ad Rr
theorem Wr {c y:Bool}:(bif c then some [Un.b y]else some [.b false])=some [.b (c&&y)]:=by cases c<;>rfl
def qf (d:aU):Bool:=
 decide (0<=d.b.oc/\d.b.oc<=100000)&&(decide (0<=d.b.ic/\d.b.ic<=100000)&&(decide (0<=d.b.late/\d.b.late<=100000)&&(decide (0<=d.b.kY/\d.b.kY<=100000)&&(decide (0<=d.b.clean/\d.b.clean<=100000)&&
 (decide (1<=d.a.year/\d.a.year<=9000)&&(decide (1<=d.a.month/\d.a.month<=12)&&(decide (0<=d.a.basis/\d.a.basis<=2)&&(decide (0<=d.b.fee/\d.b.fee<=5000)&&(decide (0<=d.b.bq/\d.b.bq<=1099511627776)&&
 (decide (0<=d.b.target/\d.b.target<=10000)&&(decide (0<=d.b.advance/\d.b.advance<=1099511627776)&&decide (0<=d.b.eX/\d.b.eX<=600))))))))))))
def XC:aA:=⟨Ut.tab,134,⟨[.agg [.z0,.z0,.z0,.ab (sI 2),.ab (sI 3),.z0,.z0,.z0,.z0,.z0,.z0,.z0,.z0,.z0,.z0,.ab (sI 2),.ab (sI 2),.ab (sI 2)]],[],0⟩,⟨[.bool],[],0⟩,[]⟩
abbrev Fw:Type:=Int × Int × aU × LI0
def Dx (m:Nat) (k:Fw->OU0):Fw->OU0:=fun(a0,a1,a2,a3)=>
 bif decide (a1<a0)then
 chk (inb a1 a3.length)<|
 chk (decide (a1.toNat<a3.length))<|
 bif !(decide (0<=(a3.getD a1.toNat 0)/\(a3.getD a1.toNat 0)<=100000))then
 some ([.b false])
 else
 k (a0,(w64 (a1+1)),a2,a3)
 else
 bif (decide (1<=a2.a.year/\a2.a.year<=9000))then
 bif (decide (1<=a2.a.month/\a2.a.month<=12))then
 bif (decide (0<=a2.a.basis/\a2.a.basis<=2))then
 bif (decide (0<=a2.b.fee/\a2.b.fee<=5000))then
 bif (decide (0<=a2.b.bq/\a2.b.bq<=1099511627776))then
 bif (decide (0<=a2.b.target/\a2.b.target<=10000))then
 bif (decide (0<=a2.b.advance/\a2.b.advance<=1099511627776))then
 some ([.b (decide (0<=a2.b.eX/\a2.b.eX<=600))])
 else
 some ([.b false])
 else
 some ([.b false])
 else
 some ([.b false])
 else
 some ([.b false])
 else
 some ([.b false])
 else
 some ([.b false])
 else
 some ([.b false])
def rI (m:Nat):Nat->Fw->OU0:=aX (Dx m)
theorem G0 (m:Nat) (n:Nat):rI m (n+1)=Dx m (rI m n):=rfl
def KE (F:Fw->OU0):aQ:=⟨[.lp [0,1,0,1],.blk 0,.code [1,1]],⟨frm 68 [(1,.ptr 0 0 0),(20,.buf 1 1),(21,.z0),(22,.z0)],[.cells [.z0,.z0,.z0,.ab (sI 2),.ab (sI 3),.z0,.z0,.z0,.z0,.z0,.z0,.z0,.z0,.z0,.z0,.ab (sI 2),.ab (sI 2),.ab (sI 2)],.ints .i64],0⟩,onU F⟩
theorem W2 (m:Nat):∀n,HO XC (KE (rI m n)):=an ae Ut.right (fun k=>[KE k]) (fun k h=>(aI h az)) fun k a=>by kernel_rfl
def t134 (m:Nat):aU->OU0:=fun a0=>
 rI m m (5,0,a0,([a0.b.oc,a0.b.ic,a0.b.late,a0.b.kY,a0.b.clean]:LI0))
def f134:aU->Bool × List Un:=fun a0=>(true,[.b (qf a0)])
set_option maxHeartbeats 2000000 in
theorem Ps:ER 134 (mkE XC.en XC.ex f134):=ak ae Ut.right (fun m=>[KE (rI m m)]) (t:=t134) (by kernel_rfl) (fun m=>(aI (W2 m m) az)) (fun m a=>by kernel_rfl) fun a0 hc=>by
 dsimp only[f134]at⊢;refine⟨6, ?_⟩;unfold t134;rw[show rI 6 6=rI 6 (0+1+1+1+1+1+1) from rfl];simp only[G0];unfold Dx;dsimp only;simp(disch:=omega) only[TRa,TRi,aa,zac,zar,zaO,zaE,Int.reduceToNat,Nat.reduceAdd,za4,Int.reduceAdd,za3,zaY,Int.reduceLT];simp only[Wr];rfl
def TC:TB:=Ut.ad Ps
def jl:Int->Int->LD0->Option Int
 |_,all,[]=>some all
 |last,all,d::l=>if d.i 0<=last then none else if 0<=d.i 1/\d.i 1<=1099511627776-all then jl (d.i 0) (all+d.i 1) l else none
def gC (l:LD0):Option Int:=if 1<=l.length/\l.length<=64 then jl 0 0 l else none
def Wc (o:Option Int):OU0:=some [.i (o.getD 0),.b o.isSome]
def Yi:aA:=⟨TC.tab,132,⟨[.ab (sI 2)],[],0⟩,⟨[.z0,.bool],[],0⟩,[]⟩
abbrev EO:Type:=Int × Int × LD0 × Int × Int
def yH (m:Nat) (k:EO->OU0):EO->OU0:=fun(a0,a1,a2,a3,a4)=>
 bif decide (a4<a3)then
 chk (inb a4 a2.length)<|
 chk (decide (a4.toNat<a2.length))<|
 lt (ai a2 a4.toNat:Dat) fun d2=>
 bif decide ((d2.i 0)<=a0)then
 some ([.i 0,.b false])
 else
 bif !(decide (0<=(d2.i 1)/\(d2.i 1)<=(w64 (1099511627776-a1))))then
 some ([.i 0,.b false])
 else
 k ((d2.i 0),(w64 (a1+(d2.i 1))),a2,a3,(w64 (a4+1)))
 else
 some ([.i a1,.b true])
def uz (m:Nat):Nat->EO->OU0:=aX (yH m)
theorem wU (m:Nat) (n:Nat):uz m (n+1)=yH m (uz m n):=rfl
def J3 (F:EO->OU0):aQ:=⟨[.lp [0,1,0,1,1,1],.blk 0,.code [1,1,1,1]],⟨frm 38 [(4,.z0),(5,.z0),(12,.ab (sI 2)),(13,.z0),(14,.z0)],[],0⟩,onU F⟩
theorem X3 (m:Nat):∀n,HO Yi (J3 (uz m n)):=an ae TC.right (fun k=>[J3 k]) (fun k h=>(aI h az)) fun k a=>by kernel_rfl
def t132 (m:Nat):LD0->OU0:=fun a0=>
 bif !(decide (1<=(a0.length:Int)/\(a0.length:Int)<=64))then
 some ([.i 0,.b false])
 else
 uz m m (0,0,a0,(a0.length:Int),0)
theorem T5 (m:Nat):∀(rest pre:LD0) (n:Nat) (last all:Int),rest.length<n->(pre++rest).length<=64->0<=all->all<=1099511627776->
 uz m n (last,all,pre++rest,((pre++rest).length:Int),(pre.length:Int))=Wc (jl last all rest):=by
 intro rest
 induction rest with
 |nil=>
  intro pre n last all hn hl h0 h1;obtain⟨n,rfl⟩:=ah n (by simp at hn;omega);rw[wU];unfold yH;dsimp only;simp[ay,jl,Wc]
 |cons x rest ih=>
  intro pre n last all hn hl h0 h1;obtain⟨n,rfl⟩:=ah n (by simp at hn;omega);simp only[zac,zab]at hn hl;rw[wU];unfold yH;dsimp only;simp only[jl]
  by_cases c1:x.i 0<=last
  . rw[if_pos c1];simp(disch:=omega) only[TRa,TRi,aa,LNl,LNi,zad,ax];rfl
  . rw[if_neg c1]
    by_cases c2:0<=x.i 1/\x.i 1<=1099511627776-all
    . rw[if_pos c2];have:=ih (pre++[x]) n (x.i 0) (all+x.i 1) (by omega) (by simp;omega) (by omega) (by omega);simp(disch:=omega) only[TRa,TRi,aa,LNl,LNi,zad,ax];simp only[LNl,LNi,zad]at this⊢;exact this
    . rw[if_neg c2];simp(disch:=omega) only[TRa,TRi,aa,LNl,LNi,zad,ax];rfl
def f132:LD0->Bool × List Un:=fun a0=>(true,[.i ((gC a0).getD 0),.b ((gC a0).isSome)])
theorem OF:ER 132 (mkE Yi.en Yi.ex f132):=ak ae TC.right (fun m=>[J3 (uz m m)]) (t:=t132) (by kernel_rfl) (fun m=>(aI (X3 m m) az)) (fun m a=>by kernel_rfl) fun a0 hc=>by
 dsimp only[f132]at⊢;refine⟨65, ?_⟩;unfold t132 gC
 by_cases h:1<=a0.length/\a0.length<=64
 . rw[if_pos h];simp(disch:=omega) only[TRa,TRi,aa];exact T5 65 a0 [] 65 0 0 (by omega) h.2 (by omega) (by omega)
 . rw[if_neg h];simp(disch:=omega) only[TRa,TRi,aa];rfl
def U7:TB:=TC.ad OF
def mB (most:Int):Int->LD0->Option Int
 |all,[]=>some all
 |all,d::l=>if (0<=d.i 0/\d.i 0<=7)/\(1<=d.i 1/\d.i 1<=most-all)/\(0<=d.i 2/\d.i 2<=5000)then mB most (all+d.i 1) l else none
def mg (most:Int) (l:LD0):Option Int:=if 1<=l.length/\l.length<=8 then mB most 0 l else none
def Zq:aA:=⟨U7.tab,133,⟨[.ab (sI 3),.z0],[],0⟩,⟨[.z0,.bool],[],0⟩,[]⟩
abbrev DA:Type:=Int × Int × LD0 × Int × Int
def xG (m:Nat) (k:DA->OU0):DA->OU0:=fun(a0,a1,a2,a3,a4)=>
 bif decide (a4<a3)then
 chk (inb a4 a2.length)<|
 chk (decide (a4.toNat<a2.length))<|
 lt (ai a2 a4.toNat:Dat) fun d2=>
 bif !(decide (0<=(d2.i 0)/\(d2.i 0)<=7))then
 some ([.i 0,.b false])
 else
 bif !(decide (1<=(d2.i 1)/\(d2.i 1)<=(w64 (a0-a1))))then
 some ([.i 0,.b false])
 else
 bif !(decide (0<=(d2.i 2)/\(d2.i 2)<=5000))then
 some ([.i 0,.b false])
 else
 k (a0,(w64 (a1+(d2.i 1))),a2,a3,(w64 (a4+1)))
 else
 some ([.i a1,.b true])
def uJ (m:Nat):Nat->DA->OU0:=aX (xG m)
theorem wQ (m:Nat) (n:Nat):uJ m (n+1)=xG m (uJ m n):=rfl
def IP (F:DA->OU0):aQ:=⟨[.lp [0,1,0,1,1,1],.blk 0,.code [1,1,1,1]],⟨frm 44 [(1,.z0),(6,.z0),(13,.ab (sI 3)),(14,.z0),(15,.z0)],[],0⟩,onU F⟩
theorem X6 (m:Nat):∀n,HO Zq (IP (uJ m n)):=an ae U7.right (fun k=>[IP k]) (fun k h=>(aI h az)) fun k a=>by kernel_rfl
def t133 (m:Nat):LD0 × Int->OU0:=fun(a0,a1)=>
 bif !(decide (1<=(a0.length:Int)/\(a0.length:Int)<=8))then
 some ([.i 0,.b false])
 else
 uJ m m (a1,0,a0,(a0.length:Int),0)
theorem TJ (m:Nat) (most:Int) (hm:0<=most/\most<=1099511627776):∀(rest pre:LD0) (n:Nat) (all:Int),rest.length<n->(pre++rest).length<=8->0<=all->all<=most->
 uJ m n (most,all,pre++rest,((pre++rest).length:Int),(pre.length:Int))=Wc (mB most all rest):=by
 intro rest
 induction rest with
 |nil=>
  intro pre n all hn hl h0 h1;obtain⟨n,rfl⟩:=ah n (by simp at hn;omega);rw[wQ];unfold xG;dsimp only;simp[ay,mB,Wc]
 |cons x rest ih=>
  intro pre n all hn hl h0 h1;obtain⟨n,rfl⟩:=ah n (by simp at hn;omega);simp only[zac,zab]at hn hl;rw[wQ];unfold xG;dsimp only;simp only[mB]
  by_cases c1:0<=x.i 0/\x.i 0<=7
  . by_cases c2:1<=x.i 1/\x.i 1<=most-all
    . by_cases c3:0<=x.i 2/\x.i 2<=5000
      . rw[if_pos ⟨c1,c2,c3⟩];have:=ih (pre++[x]) n (all+x.i 1) (by omega) (by simp;omega) (by omega) (by omega);simp(disch:=omega) only[TRa,TRi,aa,LNl,LNi,zad,ax];simp only[LNl,LNi,zad]at this⊢;exact this
      . rw[if_neg (fun h=>c3 h.2.2)];simp(disch:=omega) only[TRa,TRi,aa,LNl,LNi,zad,ax];rfl
    . rw[if_neg (fun h=>c2 h.2.1)];simp(disch:=omega) only[TRa,TRi,aa,LNl,LNi,zad,ax];rfl
  . rw[if_neg (fun h=>c1 h.1)];simp(disch:=omega) only[TRa,TRi,aa,LNl,LNi,zad,ax];rfl
def f133:LD0 × Int->Bool × List Un:=fun(a0,a1)=>(decide (0<=a1/\a1<=1099511627776),[.i ((mg a1 a0).getD 0),.b ((mg a1 a0).isSome)])
theorem OA:ER 133 (mkE Zq.en Zq.ex f133):=ak ae U7.right (fun m=>[IP (uJ m m)]) (t:=t133) (by kernel_rfl) (fun m=>(aI (X6 m m) az)) (fun m a=>by kernel_rfl) fun(a0,a1) hc=>by
 dsimp only[f133]at hc⊢;have hm:=zaj hc;refine⟨65, ?_⟩;unfold t133 mg
 by_cases h:1<=a0.length/\a0.length<=8
 . rw[if_pos h];simp(disch:=omega) only[TRa,TRi,aa];exact TJ 65 a1 hm a0 [] 65 0 (by omega) h.2 (by omega) (by omega)
 . rw[if_neg h];simp(disch:=omega) only[TRa,TRi,aa];rfl
def Vv:TB:=U7.ad OA
def rV (d:Dat):Bool:=decide (1<=d.i 0/\d.i 0<=7)&&decide (0<=d.i 1/\d.i 1<=(if d.i 0=3 then 7 else 0))
def jV:LD0->LD0->Bool
 |_,[]=>true
 |pre,d::l=>rV d&&(!cR pre (d.i 0) (d.i 1)&&jV (pre++[d]) l)
def eF (l:LD0):Bool:=decide (1<=(l.length:Int)/\(l.length:Int)<=16)&&jV [] l
def Zh:aA:=⟨Vv.tab,135,⟨[.ab (sI 2)],[],0⟩,⟨[.bool],[],0⟩,[]⟩
abbrev DI:Type:=LD0 × LD0 × Int × Int
def xK (m:Nat) (k:DI->OU0):DI->OU0:=fun(a0,a1,a2,a3)=>
 bif decide (a3<a2)then
 chk (inb a3 a1.length)<|
 chk (decide (a3.toNat<a1.length))<|
 lt (ai a1 a3.toNat:Dat) fun d2=>
 bif (d2.i 0)==3 then
 bif !(decide (1<=(d2.i 0)/\(d2.i 0)<=7))then
 some ([.b false])
 else
 bif !(decide (0<=(d2.i 1)/\(d2.i 1)<=7))then
 some ([.b false])
 else
 chk (decide (0<=a3)&&(true&&decide (0<=a3.toNat/\a3.toNat<=a0.length)))<|
 chk (decide ((List.take a3.toNat a0).length<1099511627776))<|
 bif (cR (List.take a3.toNat a0) (d2.i 0) (d2.i 1))then
 some ([.b false])
 else
 k (a0,a1,a2,(w64 (a3+1)))
 else
 bif !(decide (1<=(d2.i 0)/\(d2.i 0)<=7))then
 some ([.b false])
 else
 bif !(decide (0<=(d2.i 1)/\(d2.i 1)<=0))then
 some ([.b false])
 else
 chk (decide (0<=a3)&&(true&&decide (0<=a3.toNat/\a3.toNat<=a0.length)))<|
 chk (decide ((List.take a3.toNat a0).length<1099511627776))<|
 bif (cR (List.take a3.toNat a0) (d2.i 0) (d2.i 1))then
 some ([.b false])
 else
 k (a0,a1,a2,(w64 (a3+1)))
 else
 some ([.b true])
def uq (m:Nat):Nat->DI->OU0:=aX (xK m)
theorem vU (m:Nat) (n:Nat):uq m (n+1)=xK m (uq m n):=rfl
def Iv (F:DI->OU0):aQ:=⟨[.lp [0,1,0,1,1],.blk 0,.code [1,1,1]],⟨frm 39 [(0,.ab (sI 2)),(10,.ab (sI 2)),(11,.z0),(12,.z0)],[],0⟩,onU F⟩
theorem Y2 (m:Nat):∀n,HO Zh (Iv (uq m n)):=an ae Vv.right (fun k=>[Iv k]) (fun k h=>(aI h az)) fun k a=>by kernel_rfl
def t135 (m:Nat):LD0->OU0:=fun a0=>
 bif !(decide (1<=(a0.length:Int)/\(a0.length:Int)<=16))then
 some ([.b false])
 else
 uq m m (a0,a0,(a0.length:Int),0)
theorem UR (m:Nat):∀(rest pre:LD0) (n:Nat),rest.length<n->(pre++rest).length<=16->
 uq m n (pre++rest,pre++rest,((pre++rest).length:Int),(pre.length:Int))=some [.b (jV pre rest)]:=by
 intro rest
 induction rest with
 |nil=>
  intro pre n hn hl;obtain⟨n,rfl⟩:=ah n (by simp at hn;omega);rw[vU];unfold xK;dsimp only;simp[ay,jV]
 |cons x rest ih=>
  intro pre n hn hl;obtain⟨n,rfl⟩:=ah n (by simp at hn;omega);simp only[zac,zab]at hn hl;rw[vU];unfold xK;dsimp only;have:=ih (pre++[x]) n (by omega) (by simp;omega);simp only[jV,rV]
  by_cases c1:1<=x.i 0/\x.i 0<=7
  . by_cases c3:x.i 0=3
    . by_cases c2:0<=x.i 1/\x.i 1<=7
      . cases h:cR pre (x.i 0) (x.i 1)
        . simp(disch:=omega) only[TRa,TRi,aa,LNl,LNi,zad,ax,zav];simp only[zbQ,h,zal,if_pos c3,zaa c1,zaa c2,zbb,Bool.not_false]
          (try simp(disch:=omega) only[TRa,TRi,aa,LNl,LNi,zad,ax,zav])
          simp only[LNl,LNi,zad]at this⊢;exact this
        . simp(disch:=omega) only[TRa,TRi,aa,LNl,LNi,zad,ax,zav];simp only[zbQ,h,zaw,if_pos c3,zaa c1,zaa c2,zbb,zbr,zbN]
      . simp(disch:=omega) only[TRa,TRi,aa,LNl,LNi,zad,ax,zav];simp only[if_pos c3,zao c2,Bool.and_false,zbN]
    . by_cases c2:0<=x.i 1/\x.i 1<=0
      . cases h:cR pre (x.i 0) (x.i 1)
        . simp(disch:=omega) only[TRa,TRi,aa,LNl,LNi,zad,ax,zav];simp only[zbQ,h,zal,if_neg c3,zaa c1,zaa c2,zbb,Bool.not_false]
          (try simp(disch:=omega) only[TRa,TRi,aa,LNl,LNi,zad,ax,zav])
          simp only[LNl,LNi,zad]at this⊢;exact this
        . simp(disch:=omega) only[TRa,TRi,aa,LNl,LNi,zad,ax,zav];simp only[zbQ,h,zaw,if_neg c3,zaa c1,zaa c2,zbb,zbr,zbN]
      . simp(disch:=omega) only[TRa,TRi,aa,LNl,LNi,zad,ax,zav];simp only[if_neg c3,zao c2,Bool.and_false,zbN]
  . by_cases c3:x.i 0=3
    . omega
    . simp(disch:=omega) only[TRa,TRi,aa,LNl,LNi,zad,ax,zav];simp only[zao c1,zbN]
def f135:LD0->Bool × List Un:=fun a0=>(true,[.b (eF a0)])
theorem QQ:ER 135 (mkE Zh.en Zh.ex f135):=ak ae Vv.right (fun m=>[Iv (uq m m)]) (t:=t135) (by kernel_rfl) (fun m=>(aI (Y2 m m) az)) (fun m a=>by kernel_rfl) fun a0 hc=>by
 dsimp only[f135]at⊢;refine⟨17, ?_⟩;unfold t135 eF
 by_cases h:1<=(a0.length:Int)/\(a0.length:Int)<=16
 . rw[zaa h,zbb];simp(disch:=omega) only[TRa,TRi,aa];exact UR 17 a0 [] 17 (by omega) (by simp;omega)
 . rw[zao h,zbN];simp(disch:=omega) only[TRa,TRi,aa]
def XN:TB:=Vv.ad QQ
def cD (d:aU):Option (Int × Int):=
 match gC d.aC with
 |none=>none
 |some p=>match mg p d.notes with
  |none=>none
  |some n=>if qf d&&(eF d.s0&&(eF d.s1&&eF d.s2))then some (p,n)else none
theorem B2:∀(l:LD0) (last all r:Int),0<=all->all<=1099511627776->jl last all l=some r->all<=r/\r<=1099511627776
 |[],last,all,r,h0,h1,h=>by simp[jl]at h;omega
 |d::l,last,all,r,h0,h1,h=>by
  unfold jl at h
  split at h
  . cases h
  . split at h
    . have:=B2 l _ _ r (by omega) (by omega) h;omega
    . cases h
theorem NW {l:LD0} {r:Int} (h:gC l=some r):0<=r/\r<=1099511627776:=by
 unfold gC at h
 split at h
 . exact B2 l 0 0 r (by omega) (by omega) h
 . cases h
def N94:aA:=⟨XN.tab,94,⟨[.agg [.z0,.z0,.z0,.ab (sI 2),.ab (sI 3),.z0,.z0,.z0,.z0,.z0,.z0,.z0,.z0,.z0,.z0,.ab (sI 2),.ab (sI 2),.ab (sI 2)]],[],0⟩,⟨[.z0,.z0,.bool],[],0⟩,[[0,1,0,1,1,1,1]]⟩
def t94 (m:Nat):aU->OU0:=fun a0=>
 chk (decide (0<=((gC a0.aC).getD 0)/\((gC a0.aC).getD 0)<=1099511627776))<|
 bif !((gC a0.aC).isSome)then
 some ([.i 0,.i 0,.b false])
 else
 bif !((mg ((gC a0.aC).getD 0) a0.notes).isSome)then
 some ([.i 0,.i 0,.b false])
 else
 bif !(qf a0)then
 some ([.i 0,.i 0,.b false])
 else
 bif !(eF a0.s0)then
 some ([.i 0,.i 0,.b false])
 else
 bif !(eF a0.s1)then
 some ([.i 0,.i 0,.b false])
 else
 bif !(eF a0.s2)then
 some ([.i 0,.i 0,.b false])
 else
 some ([.i ((gC a0.aC).getD 0),.i ((mg ((gC a0.aC).getD 0) a0.notes).getD 0),.b true])
def f94:aU->Bool × List Un:=fun a0=>(true,[.i (((cD a0).getD (0,0)).1),.i (((cD a0).getD (0,0)).2),.b ((cD a0).isSome)])
theorem UN:ER 94 (mkE N94.en N94.ex f94):=ak ae XN.right (fun m=>[]) (t:=t94) (by kernel_rfl) (fun m=>az) (fun m a=>by kernel_rfl) fun a0 hc=>by
 dsimp only[f94]at⊢;refine⟨0, ?_⟩;unfold t94 cD;cases hl:gC a0.aC with
 |none=>simp[lt,chk]
 |some p=>
  have hb:=NW hl;simp only[lt_eq,zbD,Option.isSome_some,zbr,zal];rw[aJ hb];cases hn:mg p a0.notes with
  |none=>simp
  |some n=>
   simp only[Option.isSome_some,zbr,zal,zbD];cases qf a0<;>cases eF a0.s0<;>cases eF a0.s1<;>cases eF a0.s2<;>rfl
def T94:TB:=XN.ad UN
def N51:aA:=⟨T94.tab,51,⟨[.agg [.z0,.z0,.z0,.ab (sI 2),.ab (sI 3),.z0,.z0,.z0,.z0,.z0,.z0,.z0,.z0,.z0,.z0,.ab (sI 2),.ab (sI 2),.ab (sI 2)]],[],0⟩,⟨[.bool],[],0⟩,[]⟩
def t51 (m:Nat):aU->OU0:=fun a0=>
 some ([.b ((cD a0).isSome)])
def f51:aU->Bool × List Un:=fun a0=>(true,[.b ((cD a0).isSome)])
theorem UG:ER 51 (mkE N51.en N51.ex f51):=ak ae T94.right (fun m=>[]) (t:=t51) (by kernel_rfl) (fun m=>az) (fun m a=>by kernel_rfl) fun a0 hc=>by
 dsimp only[f51]at⊢;exact⟨0,rfl⟩
def T51:TB:=T94.ad UG
def abU:aA:=⟨T51.tab,194,⟨[.agg [.z0,.z0,.z0,.ab (sI 2),.ab (sI 3),.z0,.z0,.z0,.z0,.z0,.z0,.z0,.z0,.z0,.z0,.ab (sI 2),.ab (sI 2),.ab (sI 2)]],[],0⟩,⟨[.z0],[],0⟩,[]⟩
def t194 (m:Nat):aU->OU0:=fun a0=>
 some ([.i (((cD a0).getD (0,0)).1)])
def f194:aU->Bool × List Un:=fun a0=>(true,[.i (((cD a0).getD (0,0)).1)])
theorem Qg:ER 194 (mkE abU.en abU.ex f194):=ak ae T51.right (fun m=>[]) (t:=t194) (by kernel_rfl) (fun m=>az) (fun m a=>by kernel_rfl) fun a0 hc=>by
 dsimp only[f194]at⊢;exact⟨0,rfl⟩
def ZH:TB:=T51.ad Qg
def N55:aA:=⟨ZH.tab,55,⟨[.ints .u8],[],0⟩,⟨[.buf 0 1],[.ints .u8],0⟩,[]⟩
def t55 (m:Nat):LI0->OU0:=fun a0=>
 bif decide (a0.length=0)then
 both (
 some ([.l ([])])) (
 chk (fits (0+a0.length) 1)<|
 some ([.l a0]))
 else
 chk (fits (0+a0.length) 1)<|
 some ([.l a0])
def f55:LI0->Bool × List Un:=fun a0=>(decide (a0.length<1000000),[.l (a0)])
theorem Ve:ER 55 (mkE N55.en N55.ex f55):=ak ae ZH.right (fun m=>[]) (t:=t55) (by kernel_rfl) (fun m=>az) (fun m a=>by kernel_rfl) fun a0 hc=>by
 dsimp only[f55]at hc⊢;have h:=zaj hc;refine⟨0, ?_⟩;unfold t55;cases a0 with
 |nil=>simp(disch:=omega) only[TRa,TRi,aa,zar,iN,zbc,gK]
 |cons x l=>
  simp only[zac]at h⊢;simp(disch:=omega) only[TRa,TRi,aa]
def T55:TB:=ZH.ad Ve
def abQ:aA:=⟨T55.tab,102,⟨[.ints .i64],[],0⟩,⟨[.buf 0 1],[.ints .i64],0⟩,[]⟩
def t102 (m:Nat):LI0->OU0:=fun a0=>
 bif decide (a0.length=0)then
 both (
 some ([.l ([])])) (
 chk (fits (0+a0.length) 8)<|
 some ([.l a0]))
 else
 chk (fits (0+a0.length) 8)<|
 some ([.l a0])
def f102:LI0->Bool × List Un:=fun a0=>(decide (a0.length<1000000),[.l (a0)])
theorem RM:ER 102 (mkE abQ.en abQ.ex f102):=ak ae T55.right (fun m=>[]) (t:=t102) (by kernel_rfl) (fun m=>az) (fun m a=>by kernel_rfl) fun a0 hc=>by
 dsimp only[f102]at hc⊢;have h:=zaj hc;refine⟨0, ?_⟩;unfold t102;cases a0 with
 |nil=>simp(disch:=omega) only[TRa,TRi,aa,zar,iN,zbc,gK]
 |cons x l=>
  simp only[zac]at h⊢;simp(disch:=omega) only[TRa,TRi,aa]
def XA:TB:=T55.ad RM
def abj:aA:=⟨XA.tab,137,⟨[.ab (sI 7)],[],0⟩,⟨[.buf 0 7],[.ab (sI 7)],0⟩,[]⟩
def t137 (m:Nat):LD0->OU0:=fun a0=>
 bif decide (a0.length=0)then
 both (
 some ([.d ([])])) (
 chk (fits (0+a0.length) 56)<|
 some ([.d a0]))
 else
 chk (fits (0+a0.length) 56)<|
 some ([.d a0])
def f137:LD0->Bool × List Un:=fun a0=>(decide (a0.length<1000000),[.d (a0)])
theorem Qj:ER 137 (mkE abj.en abj.ex f137):=ak ae XA.right (fun m=>[]) (t:=t137) (by kernel_rfl) (fun m=>az) (fun m a=>by kernel_rfl) fun a0 hc=>by
 dsimp only[f137]at hc⊢;have h:=zaj hc;refine⟨0, ?_⟩;unfold t137;cases a0 with
 |nil=>simp(disch:=omega) only[TRa,TRi,aa,zar,iN,zbc,gK]
 |cons x l=>
  simp only[zac]at h⊢;simp(disch:=omega) only[TRa,TRi,aa]
def YO:TB:=XA.ad Qj
def abS:aA:=⟨YO.tab,155,⟨[.ab (sB 4)],[],0⟩,⟨[.buf 0 5],[.ab (sB 4)],0⟩,[]⟩
def t155 (m:Nat):LD0->OU0:=fun a0=>
 bif decide (a0.length=0)then
 both (
 some ([.d ([])])) (
 chk (fits (0+a0.length) 40)<|
 some ([.d a0]))
 else
 chk (fits (0+a0.length) 40)<|
 some ([.d a0])
def f155:LD0->Bool × List Un:=fun a0=>(decide (a0.length<1000000),[.d (a0)])
theorem Ro:ER 155 (mkE abS.en abS.ex f155):=ak ae YO.right (fun m=>[]) (t:=t155) (by kernel_rfl) (fun m=>az) (fun m a=>by kernel_rfl) fun a0 hc=>by
 dsimp only[f155]at hc⊢;have h:=zaj hc;refine⟨0, ?_⟩;unfold t155;cases a0 with
 |nil=>simp(disch:=omega) only[TRa,TRi,aa,zar,iN,zbc,gK]
 |cons x l=>
  simp only[zac]at h⊢;simp(disch:=omega) only[TRa,TRi,aa]
def Yk:TB:=YO.ad Ro
def abV:aA:=⟨Yk.tab,167,⟨[.ab (sI 2)],[],0⟩,⟨[.buf 0 2],[.ab (sI 2)],0⟩,[]⟩
def t167 (m:Nat):LD0->OU0:=fun a0=>
 bif decide (a0.length=0)then
 both (
 some ([.d ([])])) (
 chk (fits (0+a0.length) 16)<|
 some ([.d a0]))
 else
 chk (fits (0+a0.length) 16)<|
 some ([.d a0])
def f167:LD0->Bool × List Un:=fun a0=>(decide (a0.length<1000000),[.d (a0)])
theorem QA:ER 167 (mkE abV.en abV.ex f167):=ak ae Yk.right (fun m=>[]) (t:=t167) (by kernel_rfl) (fun m=>az) (fun m a=>by kernel_rfl) fun a0 hc=>by
 dsimp only[f167]at hc⊢;have h:=zaj hc;refine⟨0, ?_⟩;unfold t167;cases a0 with
 |nil=>simp(disch:=omega) only[TRa,TRi,aa,zar,iN,zbc,gK]
 |cons x l=>
  simp only[zac]at h⊢;simp(disch:=omega) only[TRa,TRi,aa]
def Yy:TB:=Yk.ad QA
def acU:aA:=⟨Yy.tab,168,⟨[.ab (sI 3)],[],0⟩,⟨[.buf 0 3],[.ab (sI 3)],0⟩,[]⟩
def t168 (m:Nat):LD0->OU0:=fun a0=>
 bif decide (a0.length=0)then
 both (
 some ([.d ([])])) (
 chk (fits (0+a0.length) 24)<|
 some ([.d a0]))
 else
 chk (fits (0+a0.length) 24)<|
 some ([.d a0])
def f168:LD0->Bool × List Un:=fun a0=>(decide (a0.length<1000000),[.d (a0)])
theorem Qy:ER 168 (mkE acU.en acU.ex f168):=ak ae Yy.right (fun m=>[]) (t:=t168) (by kernel_rfl) (fun m=>az) (fun m a=>by kernel_rfl) fun a0 hc=>by
 dsimp only[f168]at hc⊢;have h:=zaj hc;refine⟨0, ?_⟩;unfold t168;cases a0 with
 |nil=>simp(disch:=omega) only[TRa,TRi,aa,zar,iN,zbc,gK]
 |cons x l=>
  simp only[zac]at h⊢;simp(disch:=omega) only[TRa,TRi,aa]
def Yh:TB:=Yy.ad Qy
def acv:aA:=⟨Yh.tab,169,⟨[.ab (sI 2)],[],0⟩,⟨[.buf 0 2],[.ab (sI 2)],0⟩,[]⟩
def t169 (m:Nat):LD0->OU0:=fun a0=>
 bif decide (a0.length=0)then
 both (
 some ([.d ([])])) (
 chk (fits (0+a0.length) 16)<|
 some ([.d a0]))
 else
 chk (fits (0+a0.length) 16)<|
 some ([.d a0])
def f169:LD0->Bool × List Un:=fun a0=>(decide (a0.length<1000000),[.d (a0)])
theorem QR:ER 169 (mkE acv.en acv.ex f169):=ak ae Yh.right (fun m=>[]) (t:=t169) (by kernel_rfl) (fun m=>az) (fun m a=>by kernel_rfl) fun a0 hc=>by
 dsimp only[f169]at hc⊢;have h:=zaj hc;refine⟨0, ?_⟩;unfold t169;cases a0 with
 |nil=>simp(disch:=omega) only[TRa,TRi,aa,zar,iN,zbc,gK]
 |cons x l=>
  simp only[zac]at h⊢;simp(disch:=omega) only[TRa,TRi,aa]
def X0:TB:=Yh.ad QR
def ac5:aA:=⟨X0.tab,184,⟨[.ab (sI 3)],[],0⟩,⟨[.buf 0 3],[.ab (sI 3)],0⟩,[]⟩
def t184 (m:Nat):LD0->OU0:=fun a0=>
 bif decide (a0.length=0)then
 both (
 some ([.d ([])])) (
 chk (fits (0+a0.length) 24)<|
 some ([.d a0]))
 else
 chk (fits (0+a0.length) 24)<|
 some ([.d a0])
def f184:LD0->Bool × List Un:=fun a0=>(decide (a0.length<1000000),[.d (a0)])
theorem R4:ER 184 (mkE ac5.en ac5.ex f184):=ak ae X0.right (fun m=>[]) (t:=t184) (by kernel_rfl) (fun m=>az) (fun m a=>by kernel_rfl) fun a0 hc=>by
 dsimp only[f184]at hc⊢;have h:=zaj hc;refine⟨0, ?_⟩;unfold t184;cases a0 with
 |nil=>simp(disch:=omega) only[TRa,TRi,aa,zar,iN,zbc,gK]
 |cons x l=>
  simp only[zac]at h⊢;simp(disch:=omega) only[TRa,TRi,aa]
def YY:TB:=X0.ad R4
def acj:aA:=⟨YY.tab,125,⟨[.agg [.z0,.z0,.z0,.ab (sI 2),.ab (sI 3),.z0,.z0,.z0,.z0,.z0,.z0,.z0,.z0,.z0,.z0,.ab (sI 2),.ab (sI 2),.ab (sI 2)]],[],0⟩,⟨[.agg [.z0,.z0,.z0,.buf 0 2,.buf 1 3,.z0,.z0,.z0,.z0,.z0,.z0,.z0,.z0,.z0,.z0,.buf 2 2,.buf 3 2,.buf 4 2]],[.ab (sI 2),.ab (sI 3),.ab (sI 2),.ab (sI 2),.ab (sI 2)],0⟩,[[0,1,0,1,1,1]]⟩
def t125 (m:Nat):aU->OU0:=fun a0=>
 chk (decide (a0.aC.length<1000000))<|
 chk (decide (a0.notes.length<1000000))<|
 chk (decide (a0.s0.length<1000000))<|
 chk (decide (a0.s1.length<1000000))<|
 chk (decide (a0.s2.length<1000000))<|
 some (Uns.enc (a0.a:av)++Uns.enc (a0.b:aw)++[.d a0.aC,.d a0.notes,.d a0.s0,.d a0.s1,.d a0.s2])
def f125:aU->Bool × List Un:=fun a0=>(decide (a0.aC.length<1000000/\a0.notes.length<1000000/\a0.s0.length<1000000/\a0.s1.length<1000000/\a0.s2.length<1000000),Uns.enc ((a0.a):av)++Uns.enc ((a0.b):aw)++[.d (a0.aC),.d (a0.notes),.d (a0.s0),.d (a0.s1),.d (a0.s2)])
theorem PF:ER 125 (mkE acj.en acj.ex f125):=ak ae YY.right (fun m=>[]) (t:=t125) (by kernel_rfl) (fun m=>az) (fun m a=>by kernel_rfl) fun a0 hc=>by
 dsimp only[f125]at hc⊢;obtain⟨h1,h2,h3,h4,h5⟩:=zaj hc;refine⟨0, ?_⟩;unfold t125;simp(disch:=omega) only[TRa,TRi,aa]
def YR:TB:=YY.ad PF
theorem K1:∀(l:LI0) (i:Nat) (last all:Int),last<2*(i:Int)+1->i+l.length<=40->0<=all->all+100000*l.length+50000<=1099511627776->
 jl last all (gg i l++[.r [.n 99,.n 50000]])=some (all+au 1 (gg i l++[.r [.n 99,.n 50000]]))
 |[],i,last,all,h1,h2,h3,h4=>by
  have e0:(Dat.r [.n 99,.n 50000]).i 0=99:=rfl;have e1:(Dat.r [.n 99,.n 50000]).i 1=50000:=rfl;simp only[gg,zas,jl,au,e0,e1];simp only[zar]at h2 h4;rw[if_neg (by omega),if_pos (by omega)];rfl
 |x::l,i,last,all,h1,h2,h3,h4=>by
  have hx:=aV (a:=x) (show(0:Int)<=100000 by decide);have e0:(Ho i x).i 0=2*(i:Int)+1:=rfl;have e1:(Ho i x).i 1=within x 0 100000:=rfl;simp only[zac]at h2 h4;have:=K1 l (i+1) (2*(i:Int)+1) (all+within x 0 100000) (by omega) (by omega) (by omega) (by omega);simp only[gg,zaC,jl,au,e0,e1];rw[if_neg (by omega),if_pos (by omega),this,zcl]
theorem Wo (k:cj):gC (eQ k)=some (jA k):=by
 have hl:=sx k;have h1:1<=(eQ k).length:=by simp[eQ]
 have:=K1 (k.aC.take 10) 0 0 0 (by decide) (by simp;omega) (by decide) (by simp;omega);unfold gC;rw[if_pos ⟨h1,by omega⟩];simpa[eQ,ml,jA]using this
theorem yW (p q:Int) (hp:0<=q):∀(l:LD0) (all:Int),(∀d∈l,(0<=d.i 0/\d.i 0<=7)/\(1<=d.i 1/\d.i 1<=q)/\(0<=d.i 2/\d.i 2<=5000))->all+l.length*q<=p->mB p all l=some (all+au 1 l)
 |[],all,_,_=>by simp[mB,au]
 |d::l,all,h,hb=>by
  have hd:=h d (by simp);simp only[zac,zaL,zb2]at hb;have hl:0<=(l.length:Int)*q:=za9 (by omega) hp;have e:((1:Nat):Int)*q=q:=by simp
  have:=yW p q hp l (all+d.i 1) (fun x hx=>h x (by simp[hx])) (by omega);simp only[mB,au];rw[if_pos ⟨hd.1,⟨hd.2.1.1,by omega⟩,hd.2.2⟩,this,zcl]
theorem II (k:cj):∀d∈im k,(0<=d.i 0/\d.i 0<=3)/\(1<=d.i 1/\d.i 1<=1+jA k/6)/\(0<=d.i 2/\d.i 2<=1200):=by
 have hp:=z7 k;simp only[im,za7,zbC]
 rintro d ⟨i,hi,rfl⟩
 have h1:=aV (a:=bB k.rf i) (show(0:Int)<=3 by decide);have h2:=aV (a:=bB k.notes i) (show(0:Int)<=jA k/6 by omega);have h3:=aV (a:=bB k.Cn i) (show(0:Int)<=1200 by decide);simp only[Ls,Sq,fQ,jK];omega
theorem IX (k:cj):1<=(im k).length/\(im k).length<=5:=by simp[im];omega
theorem TA (k:cj):mg (jA k) (im k)=some (au 1 (im k)):=by
 have hp:=z7 k;have hl:=IX k;unfold mg;rw[if_pos ⟨hl.1,by omega⟩];refine(yW (jA k) (1+jA k/6) (by omega) (im k) 0 (fun d hd=> ?_) ?_).trans (by rw[za4])
 . have:=II k d hd;omega
 . have:((im k).length:Int)*(1+jA k/6)<=5*(1+jA k/6):=za6 (by omega) (by omega);omega
theorem Xc (k:cj):qf (bF k)=true:=by
 have h1:=aV (a:=k.a.year) (show(1990:Int)<=2040 by decide);have h2:=aV (a:=k.a.month) (show(1:Int)<=12 by decide);have h3:=aV (a:=k.a.basis) (show(0:Int)<=2 by decide);have h4:=aV (a:=k.b.fee) (show(0:Int)<=200 by decide);have h5:=aV (a:=k.b.bq) (show(0:Int)<=5000 by decide);have h6:=aV (a:=k.b.target) (show(0:Int)<=500 by decide);have h7:=aV (a:=k.b.advance) (show(0:Int)<=3000 by decide);have h8:=aV (a:=k.b.eX) (show(0:Int)<=3 by decide);have h9:=aV (a:=k.b.oc) (show(0:Int)<=12000 by decide);have h10:=aV (a:=k.b.ic) (show(0:Int)<=15000 by decide);have h11:=aV (a:=k.b.late) (show(0:Int)<=5000 by decide);have h12:=aV (a:=k.b.kY) (show(0:Int)<=5000 by decide);have h13:=aV (a:=k.b.clean) (show(0:Int)<=3000 by decide);simp only[qf,zae,zag];simp only[bF];omega
theorem xl (d:Dat):∀(l pre:LD0),jV pre (l++[d])=(jV pre l&&(rV d&& !cR (pre++l) (d.i 0) (d.i 1)))
 |[],pre=>by simp[jV]
 |x::l,pre=>by
  simp only[zaC,jV,xl d l (pre++[x]),zaq,zas,Bool.and_assoc]
theorem Cz:∀(xs:LI0) (acc:LD0),jV [] acc=true->jV [] (gA acc xs)=true
 |[],acc,h=>h
 |x::xs,acc,h=>by
  simp only[gA];refine Cz xs _ ?_
  cases hs:cR acc (within x 1 7) (jD x)
  . have e0:(Dat.r [.n (within x 1 7),.n (jD x)]).i 0=within x 1 7:=rfl;have e1:(Dat.r [.n (within x 1 7),.n (jD x)]).i 1=jD x:=rfl;have hx:=aV (a:=x) (show(1:Int)<=7 by decide);simp only[zb8,zbp];rw[xl,h,zas,e0,e1,hs,zbb,Bool.not_false,zbf];simp only[rV,e0,e1,zae,zag];refine⟨hx, ?_⟩;unfold jD
    by_cases h3:within x 1 7=3
    . have:=aV (a:=w64 (x.tdiv 7)) (show(0:Int)<=3 by decide);rw[if_pos h3,if_pos h3];omega
    . rw[if_neg h3,if_neg h3];omega
  . simp only[zbh];exact h
theorem IH (l:LI0):1<=(jm l).length/\(jm l).length<=12:=by
 unfold jm
 split
 . decide
 . have:=Aj (l.take 12) [];simp at this;omega
theorem vA (l:LI0):eF (jm l)=true:=by
 have hl:=IH l;unfold eF;rw[zaa (by omega),zbb];unfold jm
 split
 . decide
 . exact Cz _ _ rfl
theorem Hx (k:cj):cD (bF k)=some (jA k,au 1 (im k)):=by
 have h1:gC (bF k).aC=some (jA k):=Wo k;have h2:mg (jA k) (bF k).notes=some (au 1 (im k)):=TA k;simp only[cD,h1,h2,Xc,show eF (bF k).s0=true from vA _,show eF (bF k).s1=true from vA _,show eF (bF k).s2=true from vA _,zck,zbh]
def acs:aA:=⟨YR.tab,127,⟨[.z0],[],0⟩,⟨[.agg [.z0,.z0]],[],0⟩,[]⟩
def t127 (m:Nat):Int->OU0:=fun a0=>
 bif (decide ((([0,a0]).getD 0 0)<0))then
 some ([.i 0,.i 0])
 else
 bif (decide ((([0,a0]).getD 0 0)>1152921504606846976))then
 some ([.i 0,.i 0])
 else
 lt ((w64 (0+(([0,a0]).getD 0 0))):Int) fun x3=>
 bif (decide ((([0,a0]).getD 1 0)<0))then
 some ([.i 0,.i 0])
 else
 bif (decide ((([0,a0]).getD 1 0)>(w64 (1152921504606846976-x3))))then
 some ([.i 0,.i 0])
 else
 some ([.i (w64 (x3+(([0,a0]).getD 1 0))),.i 0])
def f127:Int->Bool × List Un:=fun a0=>(decide (0<=a0/\a0<=1152921504606846976),[.i (a0),.i (0)])
theorem P3:ER 127 (mkE acs.en acs.ex f127):=ak ae YR.right (fun m=>[]) (t:=t127) (by kernel_rfl) (fun m=>az) (fun m a=>by kernel_rfl) fun a0 hc=>by
 dsimp only[f127]at hc⊢;have h:=zaj hc;refine⟨0, ?_⟩;unfold t127;simp only[zaO,zaE];simp(disch:=omega) only[TRa,TRi,aa,za4,zbv]
def Zd:TB:=YR.ad P3
def adh:aA:=⟨Zd.tab,128,⟨[.agg [.z0,.z0,.z0]],[],0⟩,⟨[.agg [.z0,.z0,.z0,.z0,.z0,.z0,.z0]],[],0⟩,[]⟩
def t128 (m:Nat):Int × Int × Int->OU0:=fun(a0,a1,a2)=>
 some ([.i a0,.i a1,.i a2,.i 0,.i 0,.i 0,.i 0])
def f128:Int × Int × Int->Bool × List Un:=fun(a0,a1,a2)=>(true,[.i (a0),.i (a1),.i (a2),.i (0),.i (0),.i (0),.i (0)])
theorem Qu:ER 128 (mkE adh.en adh.ex f128):=ak ae Zd.right (fun m=>[]) (t:=t128) (by kernel_rfl) (fun m=>az) (fun m a=>by kernel_rfl) fun(a0,a1,a2) hc=>by
 dsimp only[f128]at⊢;exact⟨0,rfl⟩
def VF:TB:=Zd.ad Qu
def ku (d:Dat):Dat:= .r [.n (d.i 0),.n (d.i 1),.n 0,.n 0,.n (bI false)]
def XU:aA:=⟨VF.tab,126,⟨[.ab (sI 2)],[],0⟩,⟨[.ptr 0 0 0],[.cells [.buf 1 5],.ab (sB 4)],0⟩,[]⟩
abbrev ES:Type:=LD0 × Int × Int × LD0
def xW (m:Nat) (k:ES->OU0):ES->OU0:=fun(a0,a1,a2,a3)=>
 bif decide (a2<a1)then
 chk (inb a2 a0.length)<|
 chk (decide (a2.toNat<a0.length))<|
 lt (ai a0 a2.toNat:Dat) fun d1=>
 chk (fits (a3.length+1) 40)<|
 k (a0,a1,(w64 (a2+1)),(a3++([.r [.n (d1.i 0),.n (d1.i 1),.n 0,.n 0,.n (bI false)]])))
 else
 some ([.d a3])
def vm (m:Nat):Nat->ES->OU0:=aX (xW m)
theorem wT (m:Nat) (n:Nat):vm m (n+1)=xW m (vm m n):=rfl
def J2 (F:ES->OU0):aQ:=⟨[.lp [0,1,0,1,1],.blk 0,.code [1,1,1]],⟨frm 27 [(3,.ptr 0 0 0),(8,.ab (sI 2)),(9,.z0),(10,.z0)],[.cells [.buf 1 5],.ab (sB 4)],0⟩,onU F⟩
theorem XZ (m:Nat):∀n,HO XU (J2 (vm m n)):=an ae VF.right (fun k=>[J2 k]) (fun k h=>(aI h az)) fun k a=>by kernel_rfl
def t126 (m:Nat):LD0->OU0:=fun a0=>
 vm m m (a0,(a0.length:Int),0,[])
theorem P7 (m:Nat):∀(rest pre:LD0) (n:Nat),rest.length<n->(pre++rest).length<1000000->
 vm m n (pre++rest,((pre++rest).length:Int),(pre.length:Int),pre.map ku)=some [.d ((pre++rest).map ku)]:=by
 intro rest
 induction rest with
 |nil=>
  intro pre n hn hl;obtain⟨n,rfl⟩:=ah n (by simp at hn;omega);rw[wT];unfold xW;dsimp only;simp[ay]
 |cons x rest ih=>
  intro pre n hn hl;obtain⟨n,rfl⟩:=ah n (by simp at hn;omega);simp only[zac,zab]at hn hl;rw[wT];unfold xW;dsimp only;have:=ih (pre++[x]) n (by omega) (by simp;omega);rw[zb5]at this;simp(disch:=omega) only[TRa,TRi,aa,LNl,LNi,zad,ax];simp only[LNl,LNi,zad]at this⊢;exact this
def f126:LD0->Bool × List Un:=fun a0=>(decide (a0.length<1000000),[.d (a0.map ku)])
theorem Qe:ER 126 (mkE XU.en XU.ex f126):=ak ae VF.right (fun m=>[J2 (vm m m)]) (t:=t126) (by kernel_rfl) (fun m=>(aI (XZ m m) az)) (fun m a=>by kernel_rfl) fun a0 hc=>by
 dsimp only[f126]at hc⊢;exact⟨a0.length+1,P7 _ a0 [] _ (by omega) (zaj hc)⟩
def Us:TB:=VF.ad Qe
@[ext] structure ao where
 rin:Int
 bP:Int
 out:Int
 fee:Int
 mode:Int
 bf:Int
 period:Int
 aP:Int
 ba:Int
 hG:Bool
instance : Uns ao := Uns.via (B := Int × Int × Int × Int × Int × Int × Int × Int × Int × Bool) (fun x => (x.rin, x.bP, x.out, x.fee, x.mode, x.bf, x.period, x.aP, x.ba, x.hG)) (fun x => match x with | (rin, bP, out, fee, mode, bf, period, aP, ba, hG) => ⟨rin, bP, out, fee, mode, bf, period, aP, ba, hG⟩) (fun _ => rfl)
def aT (p:Nat):List BP:=[.cells [.z0,.z0,.z0,.buf (p+1) 2,.buf (p+2) 3,.z0,.z0,.z0,.z0,.z0,.z0,.z0,.z0,.z0,.z0,.buf (p+3) 2,.buf (p+4) 2,.buf (p+5) 2,.ptr (p+6) 0 0,.buf (p+8) 7,.z0,.z0,.z0,.z0,.z0,.z0,.z0,.z0,.z0,.bool],.ab (sI 2),.ab (sI 3),.ab (sI 2),.ab (sI 2),.ab (sI 2),.cells [.buf (p+7) 5],.ab (sB 4),.ab (sI 7)]
structure af where
 a:av
 b:aw
 n:ao
 aC:List Dat
 notes:List Dat
 s0:List Dat
 s1:List Dat
 s2:List Dat
 aN:List Dat
 tr:List Dat
def wJ (d:Dat):Dat:= .r [.n (d.i 0),.n (d.i 1),.n (d.i 2),.n 0,.n 0,.n 0,.n 0]
def dE (d:aU):af:=⟨d.a,d.b,⟨d.b.bq,0,0,0,0,0,0,0,0,false⟩,d.aC,d.notes,d.s0,d.s1,d.s2,d.aC.map ku,d.notes.map wJ⟩
def sW (d:aU):af:=if (cD d).isSome then dE d else⟨⟨0,0,0⟩,⟨0,0,0,0,0,0,0,0,0,0⟩,⟨0,0,0,0,0,0,0,0,0,false⟩,[],[],[],[],[],[],[]⟩
theorem BL {d:aU} (h:(cD d).isSome=true):0<=d.b.bq/\d.b.bq<=1099511627776:=by
 unfold cD at h
 split at h
 . cases h
 . split at h
   . cases h
   . split at h
     . rename_i hc;simp only[zae,qf,zag]at hc;omega
     . cases h
def N92:aA:=⟨Us.tab,92,⟨[.agg [.z0,.z0,.z0,.ab (sI 2),.ab (sI 3),.z0,.z0,.z0,.z0,.z0,.z0,.z0,.z0,.z0,.z0,.ab (sI 2),.ab (sI 2),.ab (sI 2)]],[],0⟩,⟨[.np 0 0 0,.z0],aT 0,0⟩,[]⟩
abbrev K2:Type:=LD0 × Int × Int × av × aw × ao × LD0 × LD0 × LD0 × LD0 × LD0 × LD0 × LD0
def Fe (m:Nat) (k:K2->OU0):K2->OU0:=fun(a0,a1,a2,a3,a4,a5,a6,a7,a8,a9,a10,a11,a12)=>
 bif decide (a2<a1)then
 chk (inb a2 a0.length)<|
 chk (decide (a2.toNat<a0.length))<|
 lt (ai a0 a2.toNat:Dat) fun d1=>
 chk (fits (a11.length+1) 56)<|
 k (a0,a1,(w64 (a2+1)),a3,a4,a5,a6,a7,a8,a9,a10,(a11++([.r [.n (d1.i 0),.n (d1.i 1),.n (d1.i 2),.n 0,.n 0,.n 0,.n 0]])),a12)
 else
 some ([.i 0,.i 0]++Uns.enc (a3:av)++Uns.enc (a4:aw)++Uns.enc (a5:ao)++[.d a6,.d a7,.d a8,.d a9,.d a10,.d a12,.d a11])
def Df (m:Nat):Nat->K2->OU0:=aX (Fe m)
theorem zt (m:Nat) (n:Nat):Df m (n+1)=Fe m (Df m n):=rfl
def OP (F:K2->OU0):aQ:=⟨[.lp [0,1,0,1,1,1],.blk 0,.code [1,1,1,1]],⟨frm 40 [(4,.ptr 0 0 0),(21,.ab (sI 3)),(22,.z0),(23,.z0)],[.cells [.z0,.z0,.z0,.buf 1 2,.buf 2 3,.z0,.z0,.z0,.z0,.z0,.z0,.z0,.z0,.z0,.z0,.buf 3 2,.buf 4 2,.buf 5 2,.ptr 6 0 0,.buf 7 7,.z0,.z0,.z0,.z0,.z0,.z0,.z0,.z0,.z0,.bool],.ab (sI 2),.ab (sI 3),.ab (sI 2),.ab (sI 2),.ab (sI 2),.cells [.buf 8 5],.ab (sI 7),.ab (sB 4)],0⟩,onU F⟩
theorem abo (m:Nat):∀n,HO N92 (OP (Df m n)):=an ae Us.right (fun k=>[OP k]) (fun k h=>(aI h az)) fun k a=>by kernel_rfl
def t92 (m:Nat):aU->OU0:=fun a0=>
 bif !((cD a0).isSome)then
 some ([.i (-1),.i 2]++Uns.enc ((⟨0,0,0⟩:av):av)++Uns.enc ((⟨0,0,0,0,0,0,0,0,0,0⟩:aw):aw)++Uns.enc ((⟨0,0,0,0,0,0,0,0,0,false⟩:ao):ao)++[.d ([]),.d ([]),.d ([]),.d ([]),.d ([]),.d ([]),.d ([])])
 else
 chk (decide (a0.aC.length<1000000/\a0.notes.length<1000000/\a0.s0.length<1000000/\a0.s1.length<1000000/\a0.s2.length<1000000))<|
 chk (decide (a0.aC.length<1000000))<|
 chk (decide (0<=a0.b.bq/\a0.b.bq<=1152921504606846976))<|
 Df m m (a0.notes,(a0.notes.length:Int),0,a0.a,a0.b,(⟨a0.b.bq,0,0,0,0,0,0,0,0,false⟩:ao),a0.aC,a0.notes,a0.s0,a0.s1,a0.s2,[],(a0.aC.map ku))
theorem Oc (m:Nat) (a:av) (b:aw) (n0:ao) (x1 x2 x3 x4 x5 x6:LD0):∀(rest pre:LD0) (n:Nat),rest.length<n->(pre++rest).length<1000000->
 Df m n (pre++rest,((pre++rest).length:Int),(pre.length:Int),a,b,n0,x1,x2,x3,x4,x5,pre.map wJ,x6)=some ([.i 0,.i 0]++Uns.enc (a:av)++Uns.enc (b:aw)++Uns.enc (n0:ao)++[.d x1,.d x2,.d x3,.d x4,.d x5,.d x6,.d ((pre++rest).map wJ)]):=by
 intro rest
 induction rest with
 |nil=>
  intro pre n hn hl;obtain⟨n,rfl⟩:=ah n (by simp at hn;omega);rw[zt];unfold Fe;dsimp only;simp[ay]
 |cons x rest ih=>
  intro pre n hn hl;obtain⟨n,rfl⟩:=ah n (by simp at hn;omega);simp only[zac,zab]at hn hl;rw[zt];unfold Fe;dsimp only;have:=ih (pre++[x]) n (by omega) (by simp;omega);rw[zb5]at this;simp(disch:=omega) only[TRa,TRi,aa,LNl,LNi,zad,ax];simp only[LNl,LNi,zad]at this⊢;exact this
def f92:aU->Bool × List Un:=fun a0=>(decide (a0.aC.length<1000000/\a0.notes.length<1000000/\a0.s0.length<1000000/\a0.s1.length<1000000/\a0.s2.length<1000000),[.i (((if (cD a0).isSome then 0 else-1):Int)),.i (((if (cD a0).isSome then 0 else 2):Int))]++Uns.enc (((sW a0).a):av)++Uns.enc (((sW a0).b):aw)++Uns.enc (((sW a0).n):ao)++[.d ((sW a0).aC),.d ((sW a0).notes),.d ((sW a0).s0),.d ((sW a0).s1),.d ((sW a0).s2),.d ((sW a0).aN),.d ((sW a0).tr)])
theorem Ug:ER 92 (mkE N92.en N92.ex f92):=ak ae Us.right (fun m=>[OP (Df m m)]) (t:=t92) (by kernel_rfl) (fun m=>(aI (abo m m) az)) (fun m a=>by kernel_rfl) fun a0 hc=>by
 dsimp only[f92]at hc⊢;have h:=zaj hc;refine⟨a0.notes.length+1, ?_⟩;unfold t92 sW;cases hs:(cD a0).isSome
 . rfl
 . have hr:=BL hs;simp only[zbr,zal,zbh];rw[aJ h,aJ (by omega),aJ (by omega)];exact Oc _ _ _ _ _ _ _ _ _ _ a0.notes [] _ (by omega) (by simp;omega)
def T92:TB:=Us.ad Ug
def acm:aA:=⟨T92.tab,110,⟨[.agg [.z0,.z0]],[],0⟩,⟨[.z0],[],0⟩,[]⟩
def t110 (m:Nat):Int × Int->OU0:=fun(a0,a1)=>
 some ([.i (w64 (a0-a1))])
def f110:Int × Int->Bool × List Un:=fun(a0,a1)=>(true,[.i (w64 (a0-a1))])
theorem Qw:ER 110 (mkE acm.en acm.ex f110):=ak ae T92.right (fun m=>[]) (t:=t110) (by kernel_rfl) (fun m=>az) (fun m a=>by kernel_rfl) fun(a0,a1) hc=>by
 dsimp only[f110]at⊢;exact⟨0,rfl⟩
def Zi:TB:=T92.ad Qw
def aau:aA:=⟨Zi.tab,180,⟨[.agg [.z0,.z0,.z0,.z0,.z0,.z0,.z0]],[],0⟩,⟨[.z0],[],0⟩,[]⟩
def t180 (m:Nat):Int × Int × Int × Int × Int × Int × Int->OU0:=fun(a0,a1,a2,a3,a4,a5,a6)=>
 some ([.i (w64 ((w64 (a1-(w64 (a3-a4))))-a6))])
def f180:Int × Int × Int × Int × Int × Int × Int->Bool × List Un:=fun(a0,a1,a2,a3,a4,a5,a6)=>(true,[.i (w64 (w64 (a1-w64 (a3-a4))-a6))])
theorem PN:ER 180 (mkE aau.en aau.ex f180):=ak ae Zi.right (fun m=>[]) (t:=t180) (by kernel_rfl) (fun m=>az) (fun m a=>by kernel_rfl) fun(a0,a1,a2,a3,a4,a5,a6) hc=>by
 dsimp only[f180]at⊢;exact⟨0,rfl⟩
def ZT:TB:=Zi.ad PN
def bA (d:Dat):Int:=d.i 1-(d.i 3-d.i 4)-d.i 6
def bn (d:Dat):Bool:=decide (0<=d.i 1/\d.i 1<=1099511627776/\0<=d.i 3/\d.i 4=0/\0<=d.i 6/\d.i 3+d.i 6<=d.i 1/\0<=d.i 5/\d.i 5<=1125899906842624)
def sm (c:Int) (d:Dat):Int:=max (min c (bA d)) 0
def AI (c:Int) (d:Dat):Dat:= .r [.n (d.i 0),.n (d.i 1),.n (d.i 2),.n (d.i 3+sm c d),.n (d.i 4),.n (d.i 5),.n (d.i 6)]
def fO (c:Int) (d:Dat):Dat:= .r [.n (d.i 0),.n (d.i 1),.n (d.i 2),.n (d.i 3),.n (d.i 4),.n (d.i 5),.n (d.i 6+sm c d)]
def rl (c:Int) (d:Dat):Int:=max (min c (d.i 6)) 0
def jo (c:Int) (d:Dat):Dat:= .r [.n (d.i 0),.n (d.i 1),.n (d.i 2),.n (d.i 3),.n (d.i 4),.n (d.i 5),.n (d.i 6-rl c d)]
def H5 (c:Int) (d:Dat):Dat:= .r [.n (d.i 0),.n (d.i 1),.n (d.i 2),.n (d.i 3),.n (d.i 4),.n (d.i 5+c),.n (d.i 6)]
def abY:aA:=⟨ZT.tab,188,⟨[.np 0 7 0,.z0],[.ab (sI 7)],0⟩,⟨[.z0],[.ab (sI 7)],0⟩,[]⟩
def t188 (m:Nat):Int × Int × LD0->OU0:=fun(a0,a1,a2)=>
 chk (decide (0<=a0))<|
 chk (decide (a0.toNat<a2.length))<|
 lt (ai a2 a0.toNat:Dat) fun d1=>
 lt ((w64 (w64 ((d1.i 1)-w64 ((d1.i 3)-(d1.i 4)))-(d1.i 6))):Int) fun x2=>
 lt ((if x2<a1 then x2 else a1):Int) fun x3=>
 lt ((if x3<0 then 0 else x3):Int) fun x4=>
 chk (decide (0<=a0))<|
 chk (decide (a0.toNat<a2.length))<|
 lt (ai a2 a0.toNat:Dat) fun d5=>
 lt ((([(d5.i 3),x4]).getD 0 0):Int) fun x6=>
 bif decide (x6<0)then
 some ([.i 0,.d a2])
 else
 bif (decide (x6>1152921504606846976))then
 some ([.i 0,.d a2])
 else
 lt ((([(d5.i 3),x4]).getD 1 0):Int) fun x8=>
 bif decide (x8<0)then
 some ([.i 0,.d a2])
 else
 bif decide (x8>(w64 (1152921504606846976-(w64 (0+x6)))))then
 some ([.i 0,.d a2])
 else
 chk (decide (a0.toNat<a2.length))<|
 lt (ai a2 a0.toNat:Dat) fun d11=>
 some ([.i x4,.d (List.set a2 a0.toNat (.r [.n (d11.i 0),.n (d11.i 1),.n (d11.i 2),.n (w64 ((w64 (0+x6))+x8)),.n (d11.i 4),.n (d11.i 5),.n (d11.i 6)]))])
def f188:Int × Int × LD0->Bool × List Un:=fun(a0,a1,a2)=>(decide (0<=a0/\a0.toNat<a2.length)&&bn (ai a2 a0.toNat),[.i (sm a1 (ai a2 a0.toNat)),.d (a2.set a0.toNat (AI a1 (ai a2 a0.toNat)))])
theorem Qn:ER 188 (mkE abY.en abY.ex f188):=ak ae ZT.right (fun m=>[]) (t:=t188) (by kernel_rfl) (fun m=>az) (fun m a=>by kernel_rfl) fun(a0,a1,a2) hc=>by
 dsimp only[f188]at hc⊢;simp only[zae,zag,bn]at hc;obtain⟨⟨h1,h2⟩,h⟩:=hc;refine⟨0, ?_⟩;unfold t188;dsimp only;simp only[lt_eq];generalize ai a2 a0.toNat=d at*
 have hv:∀c,sm c d=max (min c (bA d)) 0:=fun _=>rfl
 simp only[AI,fO,jo,H5,rl,hv,bA];simp only[zaO,zaE,lt_eq,mS,ob];simp(disch:=omega) only[TRa,TRi,aa,za4]
def YE:TB:=ZT.ad Qn
def aca:aA:=⟨YE.tab,216,⟨[.np 0 7 0,.z0],[.ab (sI 7)],0⟩,⟨[.z0],[.ab (sI 7)],0⟩,[]⟩
def t216 (m:Nat):Int × Int × LD0->OU0:=fun(a0,a1,a2)=>
 chk (decide (0<=a0))<|
 chk (decide (a0.toNat<a2.length))<|
 lt (ai a2 a0.toNat:Dat) fun d1=>
 lt ((w64 (w64 ((d1.i 1)-w64 ((d1.i 3)-(d1.i 4)))-(d1.i 6))):Int) fun x2=>
 lt ((if x2<a1 then x2 else a1):Int) fun x3=>
 lt ((if x3<0 then 0 else x3):Int) fun x4=>
 chk (decide (0<=a0))<|
 chk (decide (a0.toNat<a2.length))<|
 chk (decide (0<=a0))<|
 chk (decide (a0.toNat<a2.length))<|
 lt (ai a2 a0.toNat:Dat) fun d6=>
 some ([.i x4,.d (List.set a2 a0.toNat (.r [.n (d6.i 0),.n (d6.i 1),.n (d6.i 2),.n (d6.i 3),.n (d6.i 4),.n (d6.i 5),.n (w64 (((ai a2 a0.toNat).i 6)+x4))]))])
def f216:Int × Int × LD0->Bool × List Un:=fun(a0,a1,a2)=>(decide (0<=a0/\a0.toNat<a2.length)&&bn (ai a2 a0.toNat),[.i (sm a1 (ai a2 a0.toNat)),.d (a2.set a0.toNat (fO a1 (ai a2 a0.toNat)))])
theorem Sa:ER 216 (mkE aca.en aca.ex f216):=ak ae YE.right (fun m=>[]) (t:=t216) (by kernel_rfl) (fun m=>az) (fun m a=>by kernel_rfl) fun(a0,a1,a2) hc=>by
 dsimp only[f216]at hc⊢;simp only[zae,zag,bn]at hc;obtain⟨⟨h1,h2⟩,h⟩:=hc;refine⟨0, ?_⟩;unfold t216;dsimp only;simp only[lt_eq];generalize ai a2 a0.toNat=d at*
 have hv:∀c,sm c d=max (min c (bA d)) 0:=fun _=>rfl
 simp only[AI,fO,jo,H5,rl,hv,bA];simp only[zaO,zaE,lt_eq,mS,ob];simp(disch:=omega) only[TRa,TRi,aa,za4]
def W0:TB:=YE.ad Sa
def ac9:aA:=⟨W0.tab,218,⟨[.np 0 7 0,.z0],[.ab (sI 7)],0⟩,⟨[.z0],[.ab (sI 7)],0⟩,[]⟩
def t218 (m:Nat):Int × Int × LD0->OU0:=fun(a0,a1,a2)=>
 chk (decide (0<=a0))<|
 chk (decide (a0.toNat<a2.length))<|
 lt (ai a2 a0.toNat:Dat) fun d1=>
 lt ((if (d1.i 6)<a1 then(d1.i 6)else a1):Int) fun x2=>
 lt ((if x2<0 then 0 else x2):Int) fun x3=>
 chk (decide (0<=a0))<|
 chk (decide (a0.toNat<a2.length))<|
 chk (decide (0<=a0))<|
 chk (decide (a0.toNat<a2.length))<|
 lt (ai a2 a0.toNat:Dat) fun d5=>
 some ([.i x3,.d (List.set a2 a0.toNat (.r [.n (d5.i 0),.n (d5.i 1),.n (d5.i 2),.n (d5.i 3),.n (d5.i 4),.n (d5.i 5),.n (w64 (((ai a2 a0.toNat).i 6)-x3))]))])
def f218:Int × Int × LD0->Bool × List Un:=fun(a0,a1,a2)=>(decide (0<=a0/\a0.toNat<a2.length)&&bn (ai a2 a0.toNat),[.i (rl a1 (ai a2 a0.toNat)),.d (a2.set a0.toNat (jo a1 (ai a2 a0.toNat)))])
theorem Sf:ER 218 (mkE ac9.en ac9.ex f218):=ak ae W0.right (fun m=>[]) (t:=t218) (by kernel_rfl) (fun m=>az) (fun m a=>by kernel_rfl) fun(a0,a1,a2) hc=>by
 dsimp only[f218]at hc⊢;simp only[zae,zag,bn]at hc;obtain⟨⟨h1,h2⟩,h⟩:=hc;refine⟨0, ?_⟩;unfold t218;dsimp only;simp only[lt_eq];generalize ai a2 a0.toNat=d at*
 have hv:∀c,sm c d=max (min c (bA d)) 0:=fun _=>rfl
 simp only[AI,fO,jo,H5,rl,hv,bA];simp only[zaO,zaE,lt_eq,mS,ob];simp(disch:=omega) only[TRa,TRi,aa,za4]
def Xa:TB:=W0.ad Sf
def aa4:aA:=⟨Xa.tab,181,⟨[.np 0 7 0,.z0],[.ab (sI 7)],0⟩,⟨[.bool],[.ab (sI 7)],0⟩,[]⟩
def t181 (m:Nat):Int × Int × LD0->OU0:=fun(a0,a1,a2)=>
 chk (decide (0<=a0))<|
 chk (decide (a0.toNat<a2.length))<|
 lt (ai a2 a0.toNat:Dat) fun d1=>
 lt ((([(d1.i 5),a1]).getD 0 0):Int) fun x2=>
 bif decide (x2<0)then
 some ([.b false,.d a2])
 else
 bif (decide (x2>1152921504606846976))then
 some ([.b false,.d a2])
 else
 lt ((([(d1.i 5),a1]).getD 1 0):Int) fun x4=>
 bif decide (x4<0)then
 some ([.b false,.d a2])
 else
 bif decide (x4>(w64 (1152921504606846976-(w64 (0+x2)))))then
 some ([.b false,.d a2])
 else
 chk (decide (0<=a0))<|
 chk (decide (a0.toNat<a2.length))<|
 lt (ai a2 a0.toNat:Dat) fun d7=>
 some ([.b true,.d (List.set a2 a0.toNat (.r [.n (d7.i 0),.n (d7.i 1),.n (d7.i 2),.n (d7.i 3),.n (d7.i 4),.n (w64 ((w64 (0+x2))+x4)),.n (d7.i 6)]))])
def f181:Int × Int × LD0->Bool × List Un:=fun(a0,a1,a2)=>(decide (0<=a1/\a1<=1125899906842624)&&(decide (0<=a0/\a0.toNat<a2.length)&&bn (ai a2 a0.toNat)),[.b (true),.d (a2.set a0.toNat (H5 a1 (ai a2 a0.toNat)))])
theorem O4:ER 181 (mkE aa4.en aa4.ex f181):=ak ae Xa.right (fun m=>[]) (t:=t181) (by kernel_rfl) (fun m=>az) (fun m a=>by kernel_rfl) fun(a0,a1,a2) hc=>by
 dsimp only[f181]at hc⊢;simp only[zae,zag,bn]at hc;obtain⟨h0,⟨h1,h2⟩,h⟩:=hc;refine⟨0, ?_⟩;unfold t181;dsimp only;simp only[lt_eq];generalize ai a2 a0.toNat=d at*
 have hv:∀c,sm c d=max (min c (bA d)) 0:=fun _=>rfl
 simp only[AI,fO,jo,H5,rl,hv,bA];simp only[zaO,zaE,lt_eq,mS,ob];simp(disch:=omega) only[TRa,TRi,aa,za4]
def To:TB:=Xa.ad O4
def bX (f:Dat->Int):LD0->Int
 |[]=>0
 |d::l=>f d+bX f l
theorem cS {d:Dat} (h:bn d=true):0<=d.i 1/\d.i 1<=1099511627776/\0<=d.i 3/\d.i 4=0/\0<=d.i 6/\d.i 3+d.i 6<=d.i 1/\0<=d.i 5/\d.i 5<=1125899906842624:=zaj h
def Zy:aA:=⟨To.tab,182,⟨[.ab (sI 7)],[],0⟩,⟨[.z0,.z0,.z0],[],0⟩,[]⟩
abbrev Eo:Type:=Int × Int × Int × LD0 × Int × Int
def yo (m:Nat) (k:Eo->OU0):Eo->OU0:=fun(a0,a1,a2,a3,a4,a5)=>
 bif decide (a5<a4)then
 chk (inb a5 a3.length)<|
 chk (decide (a5.toNat<a3.length))<|
 lt (ai a3 a5.toNat:Dat) fun d1=>
 k ((w64 (a0+(w64 (w64 ((d1.i 1)-w64 ((d1.i 3)-(d1.i 4)))-(d1.i 6))))),(w64 (a1+(d1.i 5))),(w64 (a2+(d1.i 6))),a3,a4,(w64 (a5+1)))
 else
 some ([.i a0,.i a1,.i a2])
def ve (m:Nat):Nat->Eo->OU0:=aX (yo m)
theorem wk (m:Nat) (n:Nat):ve m (n+1)=yo m (ve m n):=rfl
def Ko (F:Eo->OU0):aQ:=⟨[.lp [0,1,0,1],.blk 0,.code [1,1]],⟨frm 29 [(2,.z0),(3,.z0),(4,.z0),(7,.ab (sI 7)),(8,.z0),(9,.z0)],[],0⟩,onU F⟩
theorem ZN (m:Nat):∀n,HO Zy (Ko (ve m n)):=an ae To.right (fun k=>[Ko k]) (fun k h=>(aI h az)) fun k a=>by kernel_rfl
def t182 (m:Nat):LD0->OU0:=fun a0=>
 ve m m (0,0,0,a0,(a0.length:Int),0)
theorem PH (m:Nat):∀(rest pre:LD0) (n:Nat) (b s t:Int),rest.length<n->(pre++rest).length<=1000->(∀d∈rest,bn d=true)->0<=b->b<=1099511627776*pre.length->0<=s->s<=1125899906842624*pre.length->0<=t->t<=1099511627776*pre.length->
 ve m n (b,s,t,pre++rest,((pre++rest).length:Int),(pre.length:Int))=some [.i (b+bX bA rest),.i (s+au 5 rest),.i (t+au 6 rest)]:=by
 intro rest
 induction rest with
 |nil=>
  intro pre n b s t hn hl hg b0 b1 s0 s1 t0 t1;obtain⟨n,rfl⟩:=ah n (by simp at hn;omega);rw[wk];unfold yo;dsimp only;simp[ay,bX,au]
 |cons x rest ih=>
  intro pre n b s t hn hl hg b0 b1 s0 s1 t0 t1;obtain⟨n,rfl⟩:=ah n (by simp at hn;omega);simp only[zac,zab]at hn hl;have hx:=cS (hg x (by simp));rw[wk];unfold yo;dsimp only;have:=ih (pre++[x]) n (b+bA x) (s+x.i 5) (t+x.i 6) (by omega) (by simp;omega) (fun d hd=>hg d (by simp[hd])) (by unfold bA;omega) (by simp[bA];omega) (by omega) (by simp;omega) (by omega) (by simp;omega);simp only[bX,au,bA]at this⊢;simp(disch:=omega) only[TRa,TRi,aa,LNl,LNi,zad,ax];simp only[LNl,LNi,zad]at this⊢;exact this
def f182:LD0->Bool × List Un:=fun a0=>(decide (a0.length<=1000)&&a0.all bn,[.i (bX bA a0),.i (au 5 a0),.i (au 6 a0)])
theorem PT:ER 182 (mkE Zy.en Zy.ex f182):=ak ae To.right (fun m=>[Ko (ve m m)]) (t:=t182) (by kernel_rfl) (fun m=>(aI (ZN m m) az)) (fun m a=>by kernel_rfl) fun a0 hc=>by
 dsimp only[f182]at hc⊢;simp only[zae,zag,zam]at hc;refine⟨a0.length+1, ?_⟩;exact(PH (a0.length+1) a0 [] (a0.length+1) 0 0 0 (by omega) (by simpa using hc.1) hc.2 (by omega) (by simp) (by omega) (by simp) (by omega) (by simp)).trans (by simp only[za4])
def VG:TB:=To.ad PT
def unD (d:Dat):Int:=d.i 1-(d.i 3-d.i 4)
def YP:aA:=⟨VG.tab,141,⟨[.np 0 0 0],aT 0,9⟩,⟨[.z0,.z0,.z0,.z0],aT 0,9⟩,[]⟩
abbrev D5:Type:=Int × Int × Int × Int × Int × Int × av × aw × ao × LD0 × LD0 × LD0 × LD0 × LD0 × LD0 × LD0
def yG (m:Nat) (k:D5->OU0):D5->OU0:=fun(a0,a1,a2,a3,a4,a5,a6,a7,a8,a9,a10,a11,a12,a13,a14,a15)=>
 bif decide (a5<a4)then
 chk (inb a5 a15.length)<|
 chk (decide (a5.toNat<a15.length))<|
 lt (ai a15 a5.toNat:Dat) fun d1=>
 k (a0,a1,a2,(w64 (a3+(w64 ((d1.i 1)-(w64 ((d1.i 3)-(d1.i 4))))))),a4,(w64 (a5+1)),a6,a7,a8,a9,a10,a11,a12,a13,a14,a15)
 else
 some ([.i a0,.i a1,.i a2,.i a3]++Uns.enc (a6:av)++Uns.enc (a7:aw)++Uns.enc (a8:ao)++[.d a9,.d a10,.d a11,.d a12,.d a13,.d a14,.d a15])
def ug (m:Nat):Nat->D5->OU0:=aX (yG m)
theorem w6 (m:Nat) (n:Nat):ug m (n+1)=yG m (ug m n):=rfl
def IZ (F:D5->OU0):aQ:=⟨[.lp [0,1,0,1,1],.blk 0,.code [1,1,1]],⟨frm 40 [(2,.z0),(3,.z0),(4,.z0),(5,.z0),(20,.buf 8 7),(21,.z0),(22,.z0)],aT 0,9⟩,onU F⟩
theorem Zk (m:Nat):∀n,HO YP (IZ (ug m n)):=an ae VG.right (fun k=>[IZ k]) (fun k h=>(aI h az)) fun k a=>by kernel_rfl
def t141 (m:Nat):Int × av × aw × ao × LD0 × LD0 × LD0 × LD0 × LD0 × LD0 × LD0->OU0:=fun(a0,a1,a2,a3,a4,a5,a6,a7,a8,a9,a10)=>
 chk (decide (0<=a0))<|
 chk (decide (a10.length<=1000)&&a10.all bn)<|
 chk (decide (0<=a0))<|
 ug m m ((bX bA a10),(au 5 a10),(au 6 a10),0,(a10.length:Int),0,a1,a2,a3,a4,a5,a6,a7,a8,a9,a10)
theorem NG (m:Nat) (b s t:Int) (xa:av) (xb:aw) (xn:ao) (x1 x2 x3 x4 x5 x6:LD0):∀(rest pre:LD0) (n:Nat) (u:Int),rest.length<n->(pre++rest).length<=1000->(∀d∈rest,bn d=true)->0<=u->u<=1099511627776*pre.length->
 ug m n (b,s,t,u,((pre++rest).length:Int),(pre.length:Int),xa,xb,xn,x1,x2,x3,x4,x5,x6,pre++rest)=some ([.i b,.i s,.i t,.i (u+bX unD rest)]++Uns.enc xa++Uns.enc xb++Uns.enc xn++[.d x1,.d x2,.d x3,.d x4,.d x5,.d x6,.d (pre++rest)]):=by
 intro rest
 induction rest with
 |nil=>
  intro pre n u hn hl hg u0 u1;obtain⟨n,rfl⟩:=ah n (by simp at hn;omega);rw[w6];unfold yG;dsimp only;simp[ay,bX]
 |cons x rest ih=>
  intro pre n u hn hl hg u0 u1;obtain⟨n,rfl⟩:=ah n (by simp at hn;omega);simp only[zac,zab]at hn hl;have hx:=cS (hg x (by simp));rw[w6];unfold yG;dsimp only;have:=ih (pre++[x]) n (u+unD x) (by omega) (by simp;omega) (fun d hd=>hg d (by simp[hd])) (by unfold unD;omega) (by simp[unD];omega);simp only[bX,unD]at this⊢;simp(disch:=omega) only[TRa,TRi,aa,LNl,LNi,zad,ax];simp only[LNl,LNi,zad]at this⊢;exact this
def f141:Int × av × aw × ao × LD0 × LD0 × LD0 × LD0 × LD0 × LD0 × LD0->Bool × List Un:=fun(a0,a1,a2,a3,a4,a5,a6,a7,a8,a9,a10)=>(decide (0<=a0)&&(decide (a10.length<=1000)&&a10.all bn),[.i (bX bA a10),.i (au 5 a10),.i (au 6 a10),.i (bX unD a10)]++Uns.enc ((a1):av)++Uns.enc ((a2):aw)++Uns.enc ((a3):ao)++[.d (a4),.d (a5),.d (a6),.d (a7),.d (a8),.d (a9),.d (a10)])
theorem Qo:ER 141 (mkE YP.en YP.ex f141):=ak ae VG.right (fun m=>[IZ (ug m m)]) (t:=t141) (by kernel_rfl) (fun m=>(aI (Zk m m) az)) (fun m a=>by kernel_rfl) fun(a0,a1,a2,a3,a4,a5,a6,a7,a8,a9,a10) hc=>by
 dsimp only[f141]at hc⊢;have hc':=hc;simp only[zae,zag,zam]at hc';refine⟨a10.length+1, ?_⟩;unfold t141;dsimp only;rw[(zaG.1 hc).2,lh];simp(disch:=omega) only[aJ];exact(NG (a10.length+1) _ _ _ _ _ _ _ _ _ _ _ _ a10 [] (a10.length+1) 0 (by omega) (by simpa using hc'.2.1) hc'.2.2 (by omega) (by simp)).trans (by simp only[za4,zas])
def ZA:TB:=VG.ad Qo
theorem Nn {d:Dat} (c:Int) (h:bn d=true):bn (AI c d)=true:=by
 have:=cS h;refine zaa ?_
 simp only[AI,sm,bA,fQ,gQ,Bc,rP,rY];omega
theorem GK {d:Dat} (c:Int) (h:bn d=true):bn (fO c d)=true:=by
 have:=cS h;refine zaa ?_
 simp only[fO,sm,bA,fQ,gQ,Bc,rP,rY];omega
theorem Jk {d:Dat} (c:Int) (h:bn d=true):bn (jo c d)=true:=by
 have:=cS h;refine zaa ?_
 simp only[jo,rl,fQ,gQ,Bc,rP,rY];omega
theorem j9:∀l:LD0,(∀d∈l,bn d=true)->(0<=bX bA l/\bX bA l<=1099511627776*l.length)/\(0<=au 5 l/\au 5 l<=1125899906842624*l.length)/\(0<=au 6 l/\au 6 l<=1099511627776*l.length)/\(0<=bX unD l/\bX unD l<=1099511627776*l.length)/\bX unD l=bX bA l+au 6 l
 |[],_=>by simp[bX,au]
 |d::l,h=>by
  have h1:=cS (h d (by simp));have h2:=j9 l fun x hx=>h x (by simp[hx])
  simp only[bX,au,zac,zaL,bA,unD]at h2⊢;omega
theorem Hz (f:Dat->Int) (y:Dat):∀(l:LD0) (j:Nat),j<l.length->bX f (l.set j y)=bX f l-f (ai l j)+f y
 |[],j,h=>by simp at h
 |d::l,0,h=>by simp only[List.set_cons_zero,bX,ai,zaO];omega
 |d::l,j+1,h=>by
  have:=Hz f y l j (by simpa using h);simp only[ai]at this;simp only[zbR,bX,ai,zaE,this];omega
theorem LH {p:Dat->Prop} {l:LD0} {j:Nat} {y:Dat} (h:∀d∈l,p d) (hy:p y):∀d∈l.set j y,p d:=fun d hd=>by
 rcases zbM hd with h1|rfl
 . exact h d h1
 . exact hy
theorem tJ {l:LD0} {j:Nat} (h:j<l.length):ai l j∈l:=by rw[kJ h];exact zbw h
def ab6:aA:=⟨ZA.tab,191,⟨[.agg [.bool,.bool,.bool,.bool]],[],0⟩,⟨[.bool],[],0⟩,[]⟩
def t191 (m:Nat):Bool × Bool × Bool × Bool->OU0:=fun(a0,a1,a2,a3)=>
 bif !a0 then
 some ([.b true])
 else
 bif !a2 then
 some ([.b true])
 else
 some ([.b !a3])
def f191:Bool × Bool × Bool × Bool->Bool × List Un:=fun(a0,a1,a2,a3)=>(true,[.b (!a0||(!a2|| !a3))])
theorem Rh:ER 191 (mkE ab6.en ab6.ex f191):=ak ae ZA.right (fun m=>[]) (t:=t191) (by kernel_rfl) (fun m=>az) (fun m a=>by kernel_rfl) fun(a0,a1,a2,a3) hc=>by
 dsimp only[f191]at⊢;refine⟨0, ?_⟩;unfold t191;cases a0<;>cases a2<;>cases a3<;>rfl
def W8:TB:=ZA.ad Rh
def ev (mode bf eX:Int) (oc ic late kY:Bool):Int × Int:=
 if mode=2\/ic=false then(2,0)
 else if oc=false\/late=false\/kY=false then(1,0)
 else if mode≠1\/eX<=bf\/bf+1=eX then(0,0)
 else(1,bf+1)
def abn:aA:=⟨W8.tab,149,⟨[.agg [.z0,.z0],.z0,.agg [.bool,.bool,.bool,.bool]],[],0⟩,⟨[.agg [.z0,.z0]],[],0⟩,[]⟩
def t149 (m:Nat):Int × Int × Int × Bool × Bool × Bool × Bool->OU0:=fun(a0,a1,a2,a3,a4,a5,a6)=>
 bif a0==2 then
 some ([.i 2,.i 0])
 else
 bif !a4 then
 some ([.i 2,.i 0])
 else
 bif (!a3||(!a5|| !a6))then
 some ([.i 1,.i 0])
 else
 bif a0 !=1 then
 some ([.i 0,.i 0])
 else
 bif decide (a1>=a2)then
 some ([.i 0,.i 0])
 else
 bif (w64 (a1+1))==a2 then
 some ([.i 0,.i 0])
 else
 some ([.i 1,.i (w64 (a1+1))])
def f149:Int × Int × Int × Bool × Bool × Bool × Bool->Bool × List Un:=fun(a0,a1,a2,a3,a4,a5,a6)=>(decide (0<=a1/\a1<=1000000),[.i ((ev a0 a1 a2 a3 a4 a5 a6).1),.i ((ev a0 a1 a2 a3 a4 a5 a6).2)])
theorem QC:ER 149 (mkE abn.en abn.ex f149):=ak ae W8.right (fun m=>[]) (t:=t149) (by kernel_rfl) (fun m=>az) (fun m a=>by kernel_rfl) fun(a0,a1,a2,a3,a4,a5,a6) hc=>by
 dsimp only[f149]at hc⊢;have h:=zaj hc;refine⟨0, ?_⟩;unfold t149 ev
 by_cases h1:a0=2
 . simp(disch:=omega) only[TRa,TRi,aa];simp[h1]
 . cases a4
   . simp(disch:=omega) only[TRa,TRi,aa];simp
   . cases a3<;>cases a5<;>cases a6<;>simp[h1,dL]<;>by_cases h2:a0=1<;>by_cases h3:a2<=a1<;>by_cases h4:a1+1=a2<;>simp(disch:=omega) only[TRa,TRi,aa]<;>simp[h2,h3,h4]
def Xz:TB:=W8.ad QC
def fa (n:Int):Int:=if n<1 then 0 else if n<3 then 1 else if n<6 then 2 else 3
def ach:aA:=⟨Xz.tab,220,⟨[.z0],[],0⟩,⟨[.z0],[],0⟩,[]⟩
def t220 (m:Nat):Int->OU0:=fun a0=>
 bif decide (a0<1)then
 some ([.i 0])
 else
 bif decide (a0<3)then
 some ([.i 1])
 else
 bif decide (a0<6)then
 some ([.i 2])
 else
 some ([.i 3])
def f220:Int->Bool × List Un:=fun a0=>(true,[.i (fa a0)])
theorem RU:ER 220 (mkE ach.en ach.ex f220):=ak ae Xz.right (fun m=>[]) (t:=t220) (by kernel_rfl) (fun m=>az) (fun m a=>by kernel_rfl) fun a0 hc=>by
 dsimp only[f220]at⊢;refine⟨0, ?_⟩;unfold t220 fa
 by_cases h1:a0<1<;>by_cases h2:a0<3<;>by_cases h3:a0<6<;>simp[h1,h2,h3]
def Wi:TB:=Xz.ad RU
def fE (d:Dat):Bool:=decide (0<=d.i 1/\d.i 1<=1099511627776)
def dJ (j:Int) (l:LD0):Int:=bX (fun d=>if fa (d.i 3)=j then d.i 1 else 0) l
theorem N8 (n:Int):fa n=0\/fa n=1\/fa n=2\/fa n=3:=by
 unfold fa
 split
 . exact .inl rfl
 . split
   . exact .inr (.inl rfl)
   . split
     . exact .inr (.inr (.inl rfl))
     . exact .inr (.inr (.inr rfl))
theorem tt {d:Dat} (h:fE d=true):0<=d.i 1/\d.i 1<=1099511627776:=zaj h
def W9:aA:=⟨Wi.tab,195,⟨[.ab (sB 4)],[],0⟩,⟨[.agg [.z0,.z0,.z0,.z0]],[],0⟩,[]⟩
abbrev D2:Type:=LD0 × Int × Int × Int × Int × Int × Int × Int × Int × Int × Int
def yJ (m:Nat) (k:D2->OU0):D2->OU0:=fun(a0,a1,a2,a3,a4,a5,a6,a7,a8,a9,a10)=>
 bif decide (a2<a1)then
 chk (inb a2 a0.length)<|
 chk (decide (a2.toNat<a0.length))<|
 lt (ai a0 a2.toNat:Dat) fun d1=>
 chk (inb (fa (d1.i 3)) 4)<|
 chk (decide ((fa (d1.i 3)).toNat<4))<|
 lt ((List.getD [a7,a8,a9,a10] ((fa (d1.i 3)).toNat) 0):Int) fun x2=>
 chk (inb (fa (d1.i 3)) 4)<|
 chk (decide ((fa (d1.i 3)).toNat<4))<|
 k (a0,a1,(w64 (a2+1)),a3,a4,a5,a6,(bif decide ((fa (d1.i 3)).toNat=0)then(w64 (x2+(d1.i 1)))else a7),(bif decide ((fa (d1.i 3)).toNat=1)then(w64 (x2+(d1.i 1)))else a8),(bif decide ((fa (d1.i 3)).toNat=2)then(w64 (x2+(d1.i 1)))else a9),(bif decide ((fa (d1.i 3)).toNat=3)then(w64 (x2+(d1.i 1)))else a10))
 else
 some ([.i a7,.i a8,.i a9,.i a10])
def ux (m:Nat):Nat->D2->OU0:=aX (yJ m)
theorem we (m:Nat) (n:Nat):ux m (n+1)=yJ m (ux m n):=rfl
def Jn (F:D2->OU0):aQ:=⟨[.lp [0,1,0,1,1],.blk 0,.code [1,1,1]],⟨frm 24 [(2,.ptr 0 0 0),(3,.ptr 1 0 0),(6,.ab (sB 4)),(7,.z0),(8,.z0)],[.cells [.z0,.z0,.z0,.z0],.cells [.z0,.z0,.z0,.z0]],0⟩,onU F⟩
theorem Y9 (m:Nat):∀n,HO W9 (Jn (ux m n)):=an ae Wi.right (fun k=>[Jn k]) (fun k h=>(aI h az)) fun k a=>by kernel_rfl
def t195 (m:Nat):LD0->OU0:=fun a0=>
 ux m m (a0,(a0.length:Int),0,0,0,0,0,0,0,0,0)
set_option maxHeartbeats 2000000 in
theorem Vl (m:Nat) (z0 z1 z2 z3:Int):∀(rest pre:LD0) (n:Nat) (b0 b1 b2 b3:Int),rest.length<n->(pre++rest).length<=1000->(∀d∈rest,fE d=true)->(0<=b0/\b0<=1099511627776*pre.length)->(0<=b1/\b1<=1099511627776*pre.length)->(0<=b2/\b2<=1099511627776*pre.length)->(0<=b3/\b3<=1099511627776*pre.length)->
 ux m n (pre++rest,((pre++rest).length:Int),(pre.length:Int),z0,z1,z2,z3,b0,b1,b2,b3)=some [.i (b0+dJ 0 rest),.i (b1+dJ 1 rest),.i (b2+dJ 2 rest),.i (b3+dJ 3 rest)]:=by
 intro rest
 induction rest with
 |nil=>
  intro pre n b0 b1 b2 b3 hn hl hg h0 h1 h2 h3;obtain⟨n,rfl⟩:=ah n (by simp at hn;omega);rw[we];unfold yJ;dsimp only;simp[ay,bX,dJ]
 |cons x rest ih=>
  intro pre n b0 b1 b2 b3 hn hl hg h0 h1 h2 h3;obtain⟨n,rfl⟩:=ah n (by simp at hn;omega);simp only[zac,zab]at hn hl;have hx:=tt (hg x (by simp));have ih':=fun b0 b1 b2 b3=>ih (pre++[x]) n b0 b1 b2 b3 (by omega) (by simp;omega) (fun d hd=>hg d (by simp[hd]))
  rw[we];unfold yJ;dsimp only;simp only[dJ,bX]at ih'⊢;rcases N8 (x.i 3)with hb|hb|hb|hb
  . have:=ih' (b0+x.i 1) b1 b2 b3 (by simp;omega) (by simp;omega) (by simp;omega) (by simp;omega);simp(disch:=omega) only[TRa,TRi,aa,LNl,LNi,zad,ax,hb,Int.reduceToNat,zaO,zaE,zbh,Int.reduceEq,zbp];simp only[Nat.reduceEqDiff,za3,zaY,zaw,zal,reduceCtorEq,Nat.zero_ne_one,Nat.one_ne_zero,zbh,zbp,Int.reduceEq,za4];simp only[LNl,LNi,zad]at this⊢;exact this
  . have:=ih' b0 (b1+x.i 1) b2 b3 (by simp;omega) (by simp;omega) (by simp;omega) (by simp;omega);simp(disch:=omega) only[TRa,TRi,aa,LNl,LNi,zad,ax,hb,Int.reduceToNat,zaO,zaE,zbh,Int.reduceEq,zbp];simp only[Nat.reduceEqDiff,za3,zaY,zaw,zal,reduceCtorEq,Nat.zero_ne_one,Nat.one_ne_zero,zbh,zbp,Int.reduceEq,za4];simp only[LNl,LNi,zad]at this⊢;exact this
  . have:=ih' b0 b1 (b2+x.i 1) b3 (by simp;omega) (by simp;omega) (by simp;omega) (by simp;omega);simp(disch:=omega) only[TRa,TRi,aa,LNl,LNi,zad,ax,hb,Int.reduceToNat,zaO,zaE,zbh,Int.reduceEq,zbp];simp only[Nat.reduceEqDiff,za3,zaY,zaw,zal,reduceCtorEq,Nat.zero_ne_one,Nat.one_ne_zero,zbh,zbp,Int.reduceEq,za4];simp only[LNl,LNi,zad]at this⊢;exact this
  . have:=ih' b0 b1 b2 (b3+x.i 1) (by simp;omega) (by simp;omega) (by simp;omega) (by simp;omega);simp(disch:=omega) only[TRa,TRi,aa,LNl,LNi,zad,ax,hb,Int.reduceToNat,zaO,zaE,zbh,Int.reduceEq,zbp];simp only[Nat.reduceEqDiff,za3,zaY,zaw,zal,reduceCtorEq,Nat.zero_ne_one,Nat.one_ne_zero,zbh,zbp,Int.reduceEq,za4];simp only[LNl,LNi,zad]at this⊢;exact this
def f195:LD0->Bool × List Un:=fun a0=>(decide (a0.length<=1000)&&a0.all fE,[.i (dJ 0 a0),.i (dJ 1 a0),.i (dJ 2 a0),.i (dJ 3 a0)])
theorem Rk:ER 195 (mkE W9.en W9.ex f195):=ak ae Wi.right (fun m=>[Jn (ux m m)]) (t:=t195) (by kernel_rfl) (fun m=>(aI (Y9 m m) az)) (fun m a=>by kernel_rfl) fun a0 hc=>by
 dsimp only[f195]at hc⊢;simp only[zae,zag,zam]at hc;refine⟨a0.length+1, ?_⟩;exact(Vl (a0.length+1) _ _ _ _ a0 [] (a0.length+1) 0 0 0 0 (by omega) (by simpa using hc.1) hc.2 (by simp) (by simp) (by simp) (by simp)).trans (by simp only[za4])
def V1:TB:=Wi.ad Rk
def Lh (a b c d k:Int):Int:=(if k<=0 then a else 0)+(if k<=1 then b else 0)+(if k<=2 then c else 0)+(if k<=3 then d else 0)
def Xj:aA:=⟨V1.tab,196,⟨[.agg [.z0,.z0,.z0,.z0],.z0],[],0⟩,⟨[.z0],[],0⟩,[]⟩
abbrev E8:Type:=Int × Int × Int × Int × Int × Int
def oM (m:Nat) (k:E8->OU0):E8->OU0:=fun(a0,a1,a2,a3,a4,a5)=>
 bif decide (a1<4)then
 chk (inb a1 4)<|
 chk (decide (a1.toNat<4))<|
 k ((w64 (a0+(List.getD [a2,a3,a4,a5] a1.toNat 0))),(w64 (a1+1)),a2,a3,a4,a5)
 else
 some ([.i a0])
def fL (m:Nat):Nat->E8->OU0:=aX (oM m)
theorem ki (m:Nat) (n:Nat):fL m (n+1)=oM m (fL m n):=rfl
def Kc (F:E8->OU0):aQ:=⟨[.lp [0,1,0,1,1],.blk 0,.code [1,1,1]],⟨frm 19 [(2,.ptr 0 0 0),(5,.z0),(6,.z0)],[.cells [.z0,.z0,.z0,.z0]],0⟩,onU F⟩
theorem XE (m:Nat):∀n,HO Xj (Kc (fL m n)):=an ae V1.right (fun k=>[Kc k]) (fun k h=>(aI h az)) fun k a=>by kernel_rfl
def t196 (m:Nat):Int × Int × Int × Int × Int->OU0:=fun(a0,a1,a2,a3,a4)=>
 fL m m (0,(if a4<0 then 0 else a4),a0,a1,a2,a3)
def f196:Int × Int × Int × Int × Int->Bool × List Un:=fun(a0,a1,a2,a3,a4)=>(decide (0<=a0/\a0<=1152921504606846976/\0<=a1/\a1<=1152921504606846976/\0<=a2/\a2<=1152921504606846976/\0<=a3/\a3<=1152921504606846976),[.i (Lh a0 a1 a2 a3 a4)])
theorem O8:ER 196 (mkE Xj.en Xj.ex f196):=ak ae V1.right (fun m=>[Kc (fL m m)]) (t:=t196) (by kernel_rfl) (fun m=>(aI (XE m m) az)) (fun m a=>by kernel_rfl) fun(a0,a1,a2,a3,a4) hc=>by
 dsimp only[f196]at hc⊢;have h:=zaj hc;refine⟨6, ?_⟩;unfold t196 Lh;dsimp only;have f0:∀(n:Nat) (i s:Int),4<=i->fL 6 (n+1) (s,i,a0,a1,a2,a3)=some [.i s]:=by
  intro n i s hi;rw[ki];unfold oM;dsimp only;rw[ay (by omega)]
 have f3:∀(n:Nat) (s:Int),0<=s->s<=3458764513820540928->fL 6 (n+2) (s,3,a0,a1,a2,a3)=some [.i (s+a3)]:=by
  intro n s h1 h2;rw[ki];unfold oM;dsimp only;simp(disch:=omega) only[aK,bQ,aJ,Int.reduceToNat,zaO,zaE,aa,Int.reduceAdd,f0]
 have f2:∀(n:Nat) (s:Int),0<=s->s<=2305843009213693952->fL 6 (n+3) (s,2,a0,a1,a2,a3)=some [.i (s+a2+a3)]:=by
  intro n s h1 h2;rw[ki];unfold oM;dsimp only;simp(disch:=omega) only[aK,bQ,aJ,Int.reduceToNat,zaO,zaE,aa,Int.reduceAdd,f3]
 have f1:∀(n:Nat) (s:Int),0<=s->s<=1152921504606846976->fL 6 (n+4) (s,1,a0,a1,a2,a3)=some [.i (s+a1+a2+a3)]:=by
  intro n s h1 h2;rw[ki];unfold oM;dsimp only;simp(disch:=omega) only[aK,bQ,aJ,Int.reduceToNat,zaO,zaE,aa,Int.reduceAdd,f2]
 by_cases k0:a4<=0
 . rw[show(if a4<0 then 0 else a4)=(0:Int) by split<;>omega,show fL 6 6=fL 6 (5+1) from rfl,ki];unfold oM;dsimp only;simp(disch:=omega) only[aK,bQ,aJ,Int.reduceToNat,zaO,zaE,aa,Int.reduceAdd,za4];rw[show fL 6 5=fL 6 (1+4) from rfl,f1 _ _ (by omega) (by omega),if_pos k0,if_pos (by omega),if_pos (by omega),if_pos (by omega)]
 . rw[if_neg (show ¬a4<0 by omega),if_neg k0]
   by_cases k1:a4=1
   . subst k1;rw[show fL 6 6=fL 6 (2+4) from rfl,f1 _ _ (by omega) (by omega)];simp
   . by_cases k2:a4=2
     . subst k2;rw[show fL 6 6=fL 6 (3+3) from rfl,f2 _ _ (by omega) (by omega)];simp
     . by_cases k3:a4=3
       . subst k3;rw[show fL 6 6=fL 6 (4+2) from rfl,f3 _ _ (by omega) (by omega)];simp
       . rw[f0 _ _ _ (by omega),if_neg (by omega),if_neg (by omega),if_neg (by omega)];simp
def V3:TB:=V1.ad O8
theorem aa9 (a:LD0):(ai [.r [.r a]] 0).d 0=a:=rfl
def XR:aA:=⟨V3.tab,138,⟨[.dpt [.ab (sB 4)]],[],0⟩,⟨[.z0],[],0⟩,[]⟩
abbrev Ey:Type:=Int × LD0 × Int × Int
def yP (m:Nat) (k:Ey->OU0):Ey->OU0:=fun(a0,a1,a2,a3)=>
 bif decide (a3<a2)then
 chk (inb a3 a1.length)<|
 chk (decide (a3.toNat<a1.length))<|
 k ((w64 (a0+((ai a1 a3.toNat).i 1))),a1,a2,(w64 (a3+1)))
 else
 some ([.i a0])
def vw (m:Nat):Nat->Ey->OU0:=aX (yP m)
theorem wx (m:Nat) (n:Nat):vw m (n+1)=yP m (vw m n):=rfl
def KA (F:Ey->OU0):aQ:=⟨[.lp [0,1,0,1,1],.blk 0,.code [1,1,1]],⟨frm 22 [(3,.z0),(9,.ab (sB 4)),(10,.z0),(11,.z0)],[],0⟩,onU F⟩
theorem Zz (m:Nat):∀n,HO XR (KA (vw m n)):=an ae V3.right (fun k=>[KA k]) (fun k h=>(aI h az)) fun k a=>by kernel_rfl
def t138 (m:Nat):LD0->OU0:=fun a0=>
 chk (decide (0<a0.length))<|
 vw m m (0,((ai a0 0).d 0),(((ai a0 0).d 0).length:Int),0)
theorem Rn (m:Nat):∀(rest pre:LD0) (n:Nat) (b:Int),rest.length<n->(pre++rest).length<=1000->(∀d∈rest,fE d=true)->0<=b->b<=1099511627776*pre.length->
 vw m n (b,pre++rest,((pre++rest).length:Int),(pre.length:Int))=some [.i (b+au 1 rest)]:=by
 intro rest
 induction rest with
 |nil=>
  intro pre n b hn hl hg h0 h1;obtain⟨n,rfl⟩:=ah n (by simp at hn;omega);rw[wx];unfold yP;dsimp only;simp[ay,au]
 |cons x rest ih=>
  intro pre n b hn hl hg h0 h1;obtain⟨n,rfl⟩:=ah n (by simp at hn;omega);simp only[zac,zab]at hn hl;have hx:=tt (hg x (by simp));rw[wx];unfold yP;dsimp only;have:=ih (pre++[x]) n (b+x.i 1) (by omega) (by simp;omega) (fun d hd=>hg d (by simp[hd])) (by omega) (by simp;omega);simp only[au]at this⊢;simp(disch:=omega) only[TRa,TRi,aa,LNl,LNi,zad,ax];simp only[LNl,LNi,zad]at this⊢;exact this
def f138:LD0->Bool × List Un:=fun a0=>(decide (0<a0.length)&&(decide (((ai a0 0).d 0).length<=1000)&&((ai a0 0).d 0).all fE),[.i (au 1 ((ai a0 0).d 0))])
theorem Sl:ER 138 (mkE XR.en XR.ex f138):=ak ae V3.right (fun m=>[KA (vw m m)]) (t:=t138) (by kernel_rfl) (fun m=>(aI (Zz m m) az)) (fun m a=>by kernel_rfl) fun a0 hc=>by
 dsimp only[f138]at hc⊢;simp only[zae,zag,zam]at hc;refine⟨((ai a0 0).d 0).length+1, ?_⟩;unfold t138;rw[aJ hc.1];exact(Rn _ ((ai a0 0).d 0) [] (((ai a0 0).d 0).length+1) 0 (by omega) (by simpa using hc.2.1) hc.2.2 (by omega) (by simp)).trans (by simp only[za4])
def ZL:TB:=V3.ad Sl
def abE:aA:=⟨ZL.tab,109,⟨[.dpt [.ab (sB 4)]],[],0⟩,⟨[.buf 0 5],[.ab (sB 4)],0⟩,[]⟩
def t109 (m:Nat):LD0->OU0:=fun a0=>
 chk (decide (0<a0.length))<|
 chk (decide (((ai a0 0).d 0).length<1000000))<|
 some ([.d ((ai a0 0).d 0)])
def f109:LD0->Bool × List Un:=fun a0=>(decide (0<a0.length)&&decide (((ai a0 0).d 0).length<1000000),[.d ((ai a0 0).d 0)])
theorem PW:ER 109 (mkE abE.en abE.ex f109):=ak ae ZL.right (fun m=>[]) (t:=t109) (by kernel_rfl) (fun m=>az) (fun m a=>by kernel_rfl) fun a0 hc=>by
 dsimp only[f109]at hc⊢;simp only[zae,zag]at hc;refine⟨0, ?_⟩;unfold t109;rw[aJ hc.1,aJ hc.2]
def Xv:TB:=ZL.ad PW
theorem qb (j:Int):∀(l:LD0),(∀d∈l,fE d=true)->0<=dJ j l/\dJ j l<=1099511627776*l.length
 |[],_=>by simp[dJ,bX]
 |x::l,h=>by
  have h1:=tt (h x (by simp));have h2:=qb j l fun d hd=>h d (by simp[hd])
  simp only[dJ,bX,zac,zaL,zad]at h2⊢
  split<;>omega
def abG:aA:=⟨Xv.tab,151,⟨[.np 0 0 0,.z0,.z0],aT 0,9⟩,⟨[.agg [.z0,.z0,.z0,.z0,.z0,.z0,.z0]],aT 0,9⟩,[]⟩
def t151 (m:Nat):Int × Int × Int × av × aw × ao × LD0 × LD0 × LD0 × LD0 × LD0 × LD0 × LD0->OU0:=fun(a0,a1,a2,a3,a4,a5,a6,a7,a8,a9,a10,a11,a12)=>
 chk (decide (0<=a0)&&(decide (a12.length<=1000)&&a12.all bn))<|
 chk (decide (0<=a0))<|
 chk (decide (0<([.r [.r a11]]:LD0).length)&&(decide (((ai ([.r [.r a11]]:LD0) 0).d 0).length<=1000)&&((ai ([.r [.r a11]]:LD0) 0).d 0).all fE))<|
 chk (decide (0<=a0))<|
 chk (decide (0<=a0))<|
 chk (decide (0<([.r [.r a11]]:LD0).length)&&decide (((ai ([.r [.r a11]]:LD0) 0).d 0).length<1000000))<|
 lt (((ai ([.r [.r a11]]:LD0) 0).d 0):LD0) fun l5=>
 chk (decide (l5.length<=1000)&&l5.all fE)<|
 chk (decide (0<=(dJ 0 l5)/\(dJ 0 l5)<=1152921504606846976/\0<=(dJ 1 l5)/\(dJ 1 l5)<=1152921504606846976/\0<=(dJ 2 l5)/\(dJ 2 l5)<=1152921504606846976/\0<=(dJ 3 l5)/\(dJ 3 l5)<=1152921504606846976))<|
 chk (decide (0<=a0))<|
 chk (decide (0<=a0))<|
 some ([.i (au 1 ((ai ([.r [.r a11]]:LD0) 0).d 0)),.i (((cD (⟨a3,a6,a7,a4,a8,a9,a10⟩:aU)).getD (0,0)).1),.i (bX bA a12),.i (if 1099511627776<a1 then 1099511627776 else a1),.i (if 1099511627776<a2 then 1099511627776 else a2),.i (Lh (dJ 0 l5) (dJ 1 l5) (dJ 2 l5) (dJ 3 l5) 2),.i (w64 (a5.aP-a5.ba))]++Uns.enc (a3:av)++Uns.enc (a4:aw)++Uns.enc (a5:ao)++[.d a6,.d a7,.d a8,.d a9,.d a10,.d a11,.d a12])
def f151:Int × Int × Int × av × aw × ao × LD0 × LD0 × LD0 × LD0 × LD0 × LD0 × LD0->Bool × List Un:=fun(a0,a1,a2,a3,a4,a5,a6,a7,a8,a9,a10,a11,a12)=>(decide (0<=a0)&&((decide (a11.length<=1000)&&a11.all fE)&&(decide (a12.length<=1000)&&a12.all bn)),[.i (au 1 a11),.i (((cD (⟨a3,a6,a7,a4,a8,a9,a10⟩:aU)).getD (0,0)).1),.i (bX bA a12),.i (min a1 1099511627776),.i (min a2 1099511627776),.i (dJ 2 a11+dJ 3 a11),.i (w64 (a5.aP-a5.ba))]++Uns.enc ((a3):av)++Uns.enc ((a4):aw)++Uns.enc ((a5):ao)++[.d (a6),.d (a7),.d (a8),.d (a9),.d (a10),.d (a11),.d (a12)])
theorem PE:ER 151 (mkE abG.en abG.ex f151):=ak ae Xv.right (fun m=>[]) (t:=t151) (by kernel_rfl) (fun m=>az) (fun m a=>by kernel_rfl) fun(a0,a1,a2,a3,a4,a5,a6,a7,a8,a9,a10,a11,a12) hc=>by
 dsimp only[f151]at hc⊢;have hc':=hc;simp only[zae,zag,zam]at hc';obtain⟨h0,⟨h1,h2⟩,h3,h4⟩:=hc';have q1:(decide (a11.length<=1000)&&a11.all fE)=true:=(zaG.1 (zaG.1 hc).2).1;have q2:(decide (a12.length<=1000)&&a12.all bn)=true:=(zaG.1 (zaG.1 hc).2).2;have l0:=qb 0 a11 h2;have l1:=qb 1 a11 h2;have l2:=qb 2 a11 h2;have l3:=qb 3 a11 h2;refine⟨0, ?_⟩;unfold t151;dsimp only[lt,aa9,List.length_cons,List.length_nil];simp only[zaa h0,q1,q2,zck,lh,show decide (0<0+1)=true from rfl,zaa (show a11.length<1000000 by omega)];rw[aJ (by omega)];simp only[mS,Lh,Int.reduceLE,zbh,zbp,za4,zbb];exact al (by rw[zae];exact⟨@zaa _ _ h1,zam.2 h2⟩) (al (@zaa _ _ (by omega)) rfl)
def U0:TB:=Xv.ad PE
def Rl:Nat->Nat->Dat->Dat->Bool
 |_,0,_,_=>true
 |j,n+1,x,y=>x.i j==y.i j&&Rl (j+1) n x y
def I8:Nat->Nat->Dat->Dat->Bool
 |j,0,x,y=>x.b j==y.b j
 |j,n+1,x,y=>x.i j==y.i j&&I8 (j+1) n x y
def gE:LI0->LI0->Bool
 |[],[]=>true
 |x::a,y::b=>x==y&&gE a b
 |_,_=>false
theorem ur:∀(a b:LI0),a.length≠b.length->gE a b=false
 |[],[],h=>absurd rfl h
 |[],_::_,_=>rfl
 |_::_,[],_=>rfl
 |x::a,y::b,h=>by simp[gE,ur a b (by simpa using h)]
def N20:aA:=⟨U0.tab,20,⟨[.ints .u8,.ints .u8],[],0⟩,⟨[.bool],[],0⟩,[]⟩
abbrev L0:Type:=LI0 × LI0 × Int
def Ds (m:Nat) (k:L0->OU0):L0->OU0:=fun(a0,a1,a2)=>
 bif (decide (a2<(a0.length:Int)))then
 chk (inb a2 a0.length)<|
 chk (decide (a2.toNat<a0.length))<|
 chk (inb a2 a1.length)<|
 chk (decide (a2.toNat<a1.length))<|
 bif ((a0.getD a2.toNat 0) !=(a1.getD a2.toNat 0))then
 some ([.b false])
 else
 k (a0,a1,(w64 (a2+1)))
 else
 some ([.b true])
def Cs (m:Nat):Nat->L0->OU0:=aX (Ds m)
theorem A5 (m:Nat) (n:Nat):Cs m (n+1)=Ds m (Cs m n):=rfl
def Q6 (F:L0->OU0):aQ:=⟨[.lp [0,1,0,1,1],.blk 0,.code [1,1,1]],⟨frm 26 [(0,.ints .u8),(1,.ints .u8),(5,.z0)],[],0⟩,onU F⟩
theorem abX (m:Nat):∀n,HO N20 (Q6 (Cs m n)):=an ae U0.right (fun k=>[Q6 k]) (fun k h=>(aI h az)) fun k a=>by kernel_rfl
def t20 (m:Nat):LI0 × LI0->OU0:=fun(a0,a1)=>
 bif ((a0.length:Int) !=(a1.length:Int))then
 some ([.b false])
 else
 Cs m m (a0,a1,0)
theorem V2 (m:Nat):∀(rest dX pre uc:LI0) (n:Nat),rest.length<n->uc.length=pre.length->dX.length=rest.length->(pre++rest).length<1099511627776->
 Cs m n (pre++rest,uc++dX,(pre.length:Int))=some [.b (gE rest dX)]:=by
 intro rest
 induction rest with
 |nil=>
  intro dX pre uc n hn hp hr hl;obtain⟨n,rfl⟩:=ah n (by simp at hn;omega);obtain rfl:dX=[]:=zaB (by simpa using hr);rw[A5];unfold Ds;dsimp only;simp[ay,gE]
 |cons x rest ih=>
  intro dX pre uc n hn hp hr hl;obtain⟨n,rfl⟩:=ah n (by simp at hn;omega);obtain⟨y,dX,rfl⟩:∃y l,dX=y::l:=by cases dX with|nil=>simp at hr|cons y l=>exact⟨y,l,rfl⟩
  simp only[zac,zab]at hn hl hr;have:=ih dX (pre++[x]) (uc++[y]) n (by omega) (by simp[hp]) (by omega) (by simp;omega);rw[A5];unfold Ds;dsimp only;simp only[gE,Rl,I8,Nat.reduceAdd];simp(disch:=omega) only[TRa,TRi,aa,LNl,LNi,zad,bu,uX _ _ _ _ _ hp];simp only[LNl,LNi,zad]at this⊢
  (try simp only[bne,cond_not])
  cases (x==y)
  all_goals (first|exact this|rfl)
def f20:LI0 × LI0->Bool × List Un:=fun(a0,a1)=>(decide (a0.length<1099511627776),[.b (gE a0 a1)])
theorem T8:ER 20 (mkE N20.en N20.ex f20):=ak ae U0.right (fun m=>[Q6 (Cs m m)]) (t:=t20) (by kernel_rfl) (fun m=>(aI (abX m m) az)) (fun m a=>by kernel_rfl) fun(a0,a1) hc=>by
 dsimp only[f20]at hc⊢;have hs:=zaj hc;refine⟨a0.length+1, ?_⟩;unfold t20;dsimp only
 by_cases h:a0.length=a1.length
 . rw[cY (by omega)];exact V2 _ a0 a1 [] [] _ (by omega) rfl h.symm (by simpa using hs)
 . rw[dk (by omega),ur _ _ h]
def T20:TB:=U0.ad T8
def N28:aA:=⟨T20.tab,28,⟨[.ints .i64,.ints .i64],[],0⟩,⟨[.bool],[],0⟩,[]⟩
abbrev K4:Type:=LI0 × LI0 × Int
def Fc (m:Nat) (k:K4->OU0):K4->OU0:=fun(a0,a1,a2)=>
 bif (decide (a2<(a0.length:Int)))then
 chk (inb a2 a0.length)<|
 chk (decide (a2.toNat<a0.length))<|
 chk (inb a2 a1.length)<|
 chk (decide (a2.toNat<a1.length))<|
 bif ((a0.getD a2.toNat 0) !=(a1.getD a2.toNat 0))then
 some ([.b false])
 else
 k (a0,a1,(w64 (a2+1)))
 else
 some ([.b true])
def C8 (m:Nat):Nat->K4->OU0:=aX (Fc m)
theorem AQ (m:Nat) (n:Nat):C8 m (n+1)=Fc m (C8 m n):=rfl
def P6 (F:K4->OU0):aQ:=⟨[.lp [0,1,0,1,1],.blk 0,.code [1,1,1]],⟨frm 26 [(0,.ints .i64),(1,.ints .i64),(5,.z0)],[],0⟩,onU F⟩
theorem abk (m:Nat):∀n,HO N28 (P6 (C8 m n)):=an ae T20.right (fun k=>[P6 k]) (fun k h=>(aI h az)) fun k a=>by kernel_rfl
def t28 (m:Nat):LI0 × LI0->OU0:=fun(a0,a1)=>
 bif ((a0.length:Int) !=(a1.length:Int))then
 some ([.b false])
 else
 C8 m m (a0,a1,0)
theorem UF (m:Nat):∀(rest dX pre uc:LI0) (n:Nat),rest.length<n->uc.length=pre.length->dX.length=rest.length->(pre++rest).length<1099511627776->
 C8 m n (pre++rest,uc++dX,(pre.length:Int))=some [.b (gE rest dX)]:=by
 intro rest
 induction rest with
 |nil=>
  intro dX pre uc n hn hp hr hl;obtain⟨n,rfl⟩:=ah n (by simp at hn;omega);obtain rfl:dX=[]:=zaB (by simpa using hr);rw[AQ];unfold Fc;dsimp only;simp[ay,gE]
 |cons x rest ih=>
  intro dX pre uc n hn hp hr hl;obtain⟨n,rfl⟩:=ah n (by simp at hn;omega);obtain⟨y,dX,rfl⟩:∃y l,dX=y::l:=by cases dX with|nil=>simp at hr|cons y l=>exact⟨y,l,rfl⟩
  simp only[zac,zab]at hn hl hr;have:=ih dX (pre++[x]) (uc++[y]) n (by omega) (by simp[hp]) (by omega) (by simp;omega);rw[AQ];unfold Fc;dsimp only;simp only[gE,Rl,I8,Nat.reduceAdd];simp(disch:=omega) only[TRa,TRi,aa,LNl,LNi,zad,bu,uX _ _ _ _ _ hp];simp only[LNl,LNi,zad]at this⊢
  (try simp only[bne,cond_not])
  cases (x==y)
  all_goals (first|exact this|rfl)
def f28:LI0 × LI0->Bool × List Un:=fun(a0,a1)=>(decide (a0.length<1099511627776),[.b (gE a0 a1)])
theorem UE:ER 28 (mkE N28.en N28.ex f28):=ak ae T20.right (fun m=>[P6 (C8 m m)]) (t:=t28) (by kernel_rfl) (fun m=>(aI (abk m m) az)) (fun m a=>by kernel_rfl) fun(a0,a1) hc=>by
 dsimp only[f28]at hc⊢;have hs:=zaj hc;refine⟨a0.length+1, ?_⟩;unfold t28;dsimp only
 by_cases h:a0.length=a1.length
 . rw[cY (by omega)];exact UF _ a0 a1 [] [] _ (by omega) rfl h.symm (by simpa using hs)
 . rw[dk (by omega),ur _ _ h]
def T28:TB:=T20.ad UE
def acX:aA:=⟨T28.tab,106,⟨[.bool],[],0⟩,⟨[.z0],[],0⟩,[]⟩
def t106 (m:Nat):Bool->OU0:=fun a0=>
 bif a0 then
 some ([.i 1])
 else
 some ([.i 0])
def f106:Bool->Bool × List Un:=fun a0=>(true,[.i (bI a0)])
theorem Pg:ER 106 (mkE acX.en acX.ex f106):=ak ae T28.right (fun m=>[]) (t:=t106) (by kernel_rfl) (fun m=>az) (fun m a=>by kernel_rfl) fun a0 hc=>by
 dsimp only[f106]at⊢;refine⟨0, ?_⟩;unfold t106;cases a0<;>rfl
def ZR:TB:=T28.ad Pg
def acC:aA:=⟨ZR.tab,107,⟨[.agg [.z0,.z0]],[],0⟩,⟨[.z0],[],0⟩,[]⟩
def t107 (m:Nat):Int × Int->OU0:=fun(a0,a1)=>
 some ([.i a0])
def f107:Int × Int->Bool × List Un:=fun(a0,a1)=>(true,[.i (a0)])
theorem Qm:ER 107 (mkE acC.en acC.ex f107):=ak ae ZR.right (fun m=>[]) (t:=t107) (by kernel_rfl) (fun m=>az) (fun m a=>by kernel_rfl) fun(a0,a1) hc=>by
 dsimp only[f107]at⊢;exact⟨0,rfl⟩
def Yf:TB:=ZR.ad Qm
def acW:aA:=⟨Yf.tab,108,⟨[.agg [.z0,.z0]],[],0⟩,⟨[.z0],[],0⟩,[]⟩
def t108 (m:Nat):Int × Int->OU0:=fun(a0,a1)=>
 some ([.i a1])
def f108:Int × Int->Bool × List Un:=fun(a0,a1)=>(true,[.i (a1)])
theorem Rw:ER 108 (mkE acW.en acW.ex f108):=ak ae Yf.right (fun m=>[]) (t:=t108) (by kernel_rfl) (fun m=>az) (fun m a=>by kernel_rfl) fun(a0,a1) hc=>by
 dsimp only[f108]at⊢;exact⟨0,rfl⟩
def Q3:TB:=Yf.ad Rw
def nM (d:Dat):LI0:=[d.i 0,d.i 1,d.i 2,d.i 3,bI (d.b 4)]
def tU (d:Dat):LI0:=[w64 (d.i 3-d.i 4),d.i 5,d.i 6]
def gW (n:ao) (aN notes:LD0):LI0:=[n.period,n.mode,n.bf,n.out,n.fee,n.aP,n.ba,bI n.hG,n.rin,n.bP]++aN.flatMap nM++notes.flatMap tU
def N66:aA:=⟨Q3.tab,66,⟨[.np 0 0 0],aT 0,9⟩,⟨[.buf 9 1],aT 0++[.ints .i64],9⟩,[]⟩
abbrev Lz:Type:=Int × Int × av × aw × ao × LD0 × LD0 × LD0 × LD0 × LD0 × LD0 × LD0 × LI0
abbrev K7:Type:=Int × Int × Int × av × aw × ao × LD0 × LD0 × LD0 × LD0 × LD0 × LD0 × LD0 × LI0 × LD0
def FJ (m:Nat) (k:Lz->OU0):Lz->OU0:=fun(a0,a1,a2,a3,a4,a5,a6,a7,a8,a9,a10,a11,a12)=>
 bif decide (a1<a0)then
 chk (inb a1 a11.length)<|
 chk (decide (a1.toNat<a11.length))<|
 lt (ai a11 a1.toNat:Dat) fun d4=>
 chk (fits (a12.length+3) 8)<|
 k (a0,(w64 (a1+1)),a2,a3,a4,a5,a6,a7,a8,a9,a10,a11,(a12++([(w64 ((d4.i 3)-(d4.i 4))),(d4.i 5),(d4.i 6)])))
 else
 some (Uns.enc (a2:av)++Uns.enc (a3:aw)++Uns.enc (a4:ao)++[.d a5,.d a6,.d a7,.d a8,.d a9,.d a10,.d a11,.l a12])
def CN (m:Nat):Nat->Lz->OU0:=aX (FJ m)
theorem zI (m:Nat) (n:Nat):CN m (n+1)=FJ m (CN m n):=rfl
def PU (F:Lz->OU0):aQ:=⟨[.lp [0,1,0,1,1,1],.blk 2,.code [1,1,1,1]],⟨frm 102 [(3,.buf 9 1),(84,.buf 8 7),(85,.z0),(86,.z0)],aT 0++[.ints .i64],9⟩,onU F⟩
def EM (m:Nat) (k:K7->OU0):K7->OU0:=fun(a0,a1,a2,a3,a4,a5,a6,a7,a8,a9,a10,a11,a12,a13,a14)=>
 bif decide (a2<a1)then
 chk (inb a2 a14.length)<|
 chk (decide (a2.toNat<a14.length))<|
 lt (ai a14 a2.toNat:Dat) fun d2=>
 chk (fits (a13.length+5) 8)<|
 k (a0,a1,(w64 (a2+1)),a3,a4,a5,a6,a7,a8,a9,a10,a11,a12,(a13++([(d2.i 0),(d2.i 1),(d2.i 2),(d2.i 3),(bI (d2.b 4))])),a14)
 else
 chk (decide (0<=a0))<|
 CN m m ((a12.length:Int),0,a3,a4,a5,a6,a7,a8,a9,a10,a11,a12,a13)
def Cq (m:Nat):Nat->K7->OU0:=aX (EM m)
theorem zg (m:Nat) (n:Nat):Cq m (n+1)=EM m (Cq m n):=rfl
def Pz (F:K7->OU0):aQ:=⟨[.lp [0,1,0,1,1],.blk 0,.code [1,1,1]],⟨frm 102 [(0,.np 0 0 0),(3,.buf 9 1),(58,.buf 10 5),(59,.z0),(60,.z0)],aT 0++[.ints .i64,.ab (sB 4)],9⟩,onU F⟩
theorem acd (m:Nat):∀n,HO N66 (PU (CN m n)):=an ae Q3.right (fun k=>[PU k]) (fun k h=>(aI h az)) fun k a=>by kernel_rfl
theorem ac2 (m:Nat):∀n,HO N66 (Pz (Cq m n)):=an ae Q3.right (fun k=>[Pz k,PU (CN m m)]) (fun k h=>(aI h (aI (acd m m) az))) fun k a=>by kernel_rfl
def t66 (m:Nat):Int × av × aw × ao × LD0 × LD0 × LD0 × LD0 × LD0 × LD0 × LD0->OU0:=fun(a0,a1,a2,a3,a4,a5,a6,a7,a8,a9,a10)=>
 chk (decide (0<=a0))<|
 chk (decide (0<=a0))<|
 chk (decide (0<=a0))<|
 chk (decide (0<=a0))<|
 chk (decide (0<=a0))<|
 chk (decide (0<=a0))<|
 chk (decide (0<=a0))<|
 chk (decide (0<=a0))<|
 chk (decide (0<=a0))<|
 chk (decide (0<=a0))<|
 chk (decide (0<=a0))<|
 chk (decide (0<([.r [.r a9]]:LD0).length)&&decide (((ai ([.r [.r a9]]:LD0) 0).d 0).length<1000000))<|
 lt (((ai ([.r [.r a9]]:LD0) 0).d 0):LD0) fun l1=>
 Cq m m (a0,(l1.length:Int),0,a1,a2,a3,a4,a5,a6,a7,a8,a9,a10,([a3.period,a3.mode,a3.bf,a3.out,a3.fee,a3.aP,a3.ba,(bI a3.hG),a3.rin,a3.bP]:LI0),l1)
section
variable (m : Nat) (xa : av) (xb : aw) (xn : ao) (x1 x2 x3 x4 x5 x6 : LD0)
theorem Xn:∀(rest pre:LD0) (n:Nat) (acc:LI0),rest.length<n->(pre++rest).length<1000000->acc.length<=6000000+3*pre.length->
 CN m n (((pre++rest).length:Int),(pre.length:Int),xa,xb,xn,x1,x2,x3,x4,x5,x6,pre++rest,acc)=some (Uns.enc xa++Uns.enc xb++Uns.enc xn++[.d x1,.d x2,.d x3,.d x4,.d x5,.d x6,.d (pre++rest),.l (acc++rest.flatMap tU)]):=by
 intro rest
 induction rest with
 |nil=>
  intro pre n acc hn hl ha;obtain⟨n,rfl⟩:=ah n (by simp at hn;omega);rw[zI];unfold FJ;dsimp only;simp[ay]
 |cons x rest ih=>
  intro pre n acc hn hl ha;obtain⟨n,rfl⟩:=ah n (by simp at hn;omega);simp only[zac,zab]at hn hl;rw[zI];unfold FJ;dsimp only;have:=ih (pre++[x]) n (acc++tU x) (by omega) (by simp;omega) (by simp[tU];omega);simp only[zaX,tU]at this⊢;simp(disch:=omega) only[TRa,TRi,aa,LNl,LNi,zad,ax];simp only[LNl,LNi,zad]at this⊢;exact this
theorem YB (p0:Int) (hp:0<=p0) (notes:LD0) (hnl:notes.length<1000000) (hm:notes.length<m):∀(rest pre:LD0) (n:Nat) (acc:LI0),rest.length<n->(pre++rest).length<1000000->acc.length<=10+5*pre.length->
 Cq m n (p0,((pre++rest).length:Int),(pre.length:Int),xa,xb,xn,x1,x2,x3,x4,x5,x6,notes,acc,pre++rest)=some (Uns.enc xa++Uns.enc xb++Uns.enc xn++[.d x1,.d x2,.d x3,.d x4,.d x5,.d x6,.d notes,.l (acc++rest.flatMap nM++notes.flatMap tU)]):=by
 intro rest
 induction rest with
 |nil=>
  intro pre n acc hn hl ha;obtain⟨n,rfl⟩:=ah n (by simp at hn;omega);simp only[zaK]at hl;rw[zg];unfold EM;dsimp only;simp only[zaK,List.flatMap_nil];rw[ay (by omega),aJ hp];exact Xn m xa xb xn x1 x2 x3 x4 x5 x6 notes [] m acc hm (by simpa using hnl) (by simp;omega)
 |cons x rest ih=>
  intro pre n acc hn hl ha;obtain⟨n,rfl⟩:=ah n (by simp at hn;omega);simp only[zac,zab]at hn hl;rw[zg];unfold EM;dsimp only;have:=ih (pre++[x]) n (acc++nM x) (by omega) (by simp;omega) (by simp[nM];omega);simp only[zaX,nM]at this⊢;simp(disch:=omega) only[TRa,TRi,aa,LNl,LNi,zad,ax];simp only[LNl,LNi,zad]at this⊢;exact this
end
def f66:Int × av × aw × ao × LD0 × LD0 × LD0 × LD0 × LD0 × LD0 × LD0->Bool × List Un:=fun(a0,a1,a2,a3,a4,a5,a6,a7,a8,a9,a10)=>(decide (0<=a0)&&decide (a9.length<1000000/\a10.length<1000000),Uns.enc ((a1):av)++Uns.enc ((a2):aw)++Uns.enc ((a3):ao)++[.d (a4),.d (a5),.d (a6),.d (a7),.d (a8),.d (a9),.d (a10),.l (gW a3 a9 a10)])
theorem US:ER 66 (mkE N66.en N66.ex f66):=ak ae Q3.right (fun m=>[Pz (Cq m m)]) (t:=t66) (by kernel_rfl) (fun m=>(aI (ac2 m m) az)) (fun m a=>by kernel_rfl) fun(a0,a1,a2,a3,a4,a5,a6,a7,a8,a9,a10) hc=>by
 dsimp only[f66]at hc⊢;simp only[zae,zag]at hc;obtain⟨h0,h1,h2⟩:=hc;refine⟨a9.length+a10.length+1, ?_⟩;unfold t66;dsimp only[lt,aa9,List.length_cons,List.length_nil];simp only[aJ h0];refine(al ?_ (YB _ a1 a2 a3 a4 a5 a6 a7 a8 a9 a0 h0 a10 h2 (by omega) a9 [] _ _ (by omega) (by simpa using h1) (by simp))).trans ?_
 . rw[zae];exact⟨@zaa _ _ (by omega),@zaa _ _ h1⟩
 . rfl
def T66:TB:=Q3.ad US
def jI (p q r s l:Int):Bool:=decide (0<=p)&&(decide (p<=1099511627776)&&(decide (0<=q)&&(decide (q<=1099511627776)&&(decide (0<=r)&&(decide (r<=1099511627776)&&(decide (0<=s)&&(decide (s<=1099511627776)&&(decide (0<=l)&&decide (l<=12)))))))))
theorem HG {α:Type} {x:Int} {a b:α}:(bif decide (x<0)then a else b)=bif decide (0<=x)then b else a:=by
 by_cases h:x<0
 . rw[zaa h,zao (show ¬0<=x by omega)];rfl
 . rw[zao h,zaa (show 0<=x by omega)];rfl
theorem DO {α:Type} {x y:Int} {a b:α}:(bif decide (x>y)then a else b)=bif decide (x<=y)then b else a:=by
 by_cases h:x>y
 . rw[zaa h,zao (show ¬x<=y by omega)];rfl
 . rw[zao h,zaa (show x<=y by omega)];rfl
theorem qI {c y:Bool}:(bif c then some [Un.b y]else some [Un.b false])=some [.b (c&&y)]:=by cases c<;>rfl
def aba:aA:=⟨T66.tab,153,⟨[.agg [.z0,.z0,.z0,.z0,.z0,.z0,.bool]],[],0⟩,⟨[.bool],[],0⟩,[[0,1,0,1]]⟩
def t153 (m:Nat):Int × Int × Int × Int × Int × Int × Bool->OU0:=fun(a0,a1,a2,a3,a4,a5,a6)=>
 lt ((([a1,a2,a3,a4]).getD 0 0):Int) fun x1=>
 bif decide (x1<0)then
 some ([.b false])
 else
 bif (decide (x1>1099511627776))then
 some ([.b false])
 else
 lt ((([a1,a2,a3,a4]).getD 1 0):Int) fun x3=>
 bif decide (x3<0)then
 some ([.b false])
 else
 bif (decide (x3>1099511627776))then
 some ([.b false])
 else
 lt ((([a1,a2,a3,a4]).getD 2 0):Int) fun x5=>
 bif decide (x5<0)then
 some ([.b false])
 else
 bif (decide (x5>1099511627776))then
 some ([.b false])
 else
 lt ((([a1,a2,a3,a4]).getD 3 0):Int) fun x7=>
 bif decide (x7<0)then
 some ([.b false])
 else
 bif (decide (x7>1099511627776))then
 some ([.b false])
 else
 bif decide (a5>=0)then
 some ([.b (decide (a5<=12))])
 else
 some ([.b false])
def f153:Int × Int × Int × Int × Int × Int × Bool->Bool × List Un:=fun(a0,a1,a2,a3,a4,a5,a6)=>(true,[.b (jI a1 a2 a3 a4 a5)])
theorem Re:ER 153 (mkE aba.en aba.ex f153):=ak ae T66.right (fun m=>[]) (t:=t153) (by kernel_rfl) (fun m=>az) (fun m a=>by kernel_rfl) fun(a0,a1,a2,a3,a4,a5,a6) hc=>by
 dsimp only[f153]at⊢;refine⟨0, ?_⟩;unfold t153 jI;simp only[lt_eq,zaO,zaE,HG,DO];simp only[ge_iff_le,qI]
def UX:TB:=T66.ad Re
def ky:Int->LD0->Bool
 |_,[]=>true
 |last,d::l=>if d.i 0<=last then false else if jI (d.i 1) (d.i 2) (d.i 3) (d.i 4) (d.i 5)then ky (d.i 0) l else false
def mj (l:LD0):Bool:=decide (l.length<=64)&&ky 0 l
def Zw:aA:=⟨UX.tab,100,⟨[.ab (sB 6)],[],0⟩,⟨[.bool],[],0⟩,[]⟩
abbrev E0:Type:=Int × LD0 × Int × Int
def xI (m:Nat) (k:E0->OU0):E0->OU0:=fun(a0,a1,a2,a3)=>
 bif decide (a3<a2)then
 chk (inb a3 a1.length)<|
 chk (decide (a3.toNat<a1.length))<|
 lt (ai a1 a3.toNat:Dat) fun d2=>
 bif decide ((d2.i 0)<=a0)then
 some ([.b false])
 else
 bif !(jI (d2.i 1) (d2.i 2) (d2.i 3) (d2.i 4) (d2.i 5))then
 some ([.b false])
 else
 k ((d2.i 0),a1,a2,(w64 (a3+1)))
 else
 some ([.b true])
def uS (m:Nat):Nat->E0->OU0:=aX (xI m)
theorem wP (m:Nat) (n:Nat):uS m (n+1)=xI m (uS m n):=rfl
def Ku (F:E0->OU0):aQ:=⟨[.lp [0,1,0,1,1,1],.blk 0,.code [1,1,1,1]],⟨frm 27 [(3,.z0),(9,.ab (sB 6)),(10,.z0),(11,.z0)],[],0⟩,onU F⟩
theorem Xr (m:Nat):∀n,HO Zw (Ku (uS m n)):=an ae UX.right (fun k=>[Ku k]) (fun k h=>(aI h az)) fun k a=>by kernel_rfl
def t100 (m:Nat):LD0->OU0:=fun a0=>
 bif (decide ((a0.length:Int)>64))then
 some ([.b false])
 else
 uS m m (0,a0,(a0.length:Int),0)
theorem abJ (m:Nat):∀(rest pre:LD0) (n:Nat) (last:Int),rest.length<n->(pre++rest).length<=64->
 uS m n (last,pre++rest,((pre++rest).length:Int),(pre.length:Int))=some [.b (ky last rest)]:=by
 intro rest
 induction rest with
 |nil=>
  intro pre n last hn hl;obtain⟨n,rfl⟩:=ah n (by simp at hn;omega);rw[wP];unfold xI;dsimp only;simp[ay,ky]
 |cons x rest ih=>
  intro pre n last hn hl;obtain⟨n,rfl⟩:=ah n (by simp at hn;omega);simp only[zac,zab]at hn hl;have:=ih (pre++[x]) n (x.i 0) (by omega) (by simp;omega);rw[wP];unfold xI;dsimp only;simp only[LNl,LNi,zad]at this⊢;unfold ky
  by_cases h1:x.i 0<=last
  . simp(disch:=omega) only[TRa,TRi,aa,LNl,LNi,zad,ax];rw[if_pos h1]
  . rw[if_neg h1]
    by_cases h2:jI (x.i 1) (x.i 2) (x.i 3) (x.i 4) (x.i 5)=true
    . rw[if_pos h2];simp(disch:=omega) only[TRa,TRi,aa,LNl,LNi,zad,ax,h2];exact this
    . rw[if_neg h2];have h2:jI (x.i 1) (x.i 2) (x.i 3) (x.i 4) (x.i 5)=false:=by simpa using h2
      simp(disch:=omega) only[TRa,TRi,aa,LNl,LNi,zad,ax,h2]
def f100:LD0->Bool × List Un:=fun a0=>(true,[.b (mj a0)])
theorem O2:ER 100 (mkE Zw.en Zw.ex f100):=ak ae UX.right (fun m=>[Ku (uS m m)]) (t:=t100) (by kernel_rfl) (fun m=>(aI (Xr m m) az)) (fun m a=>by kernel_rfl) fun a0 hc=>by
 dsimp only[f100]at⊢;unfold mj
 by_cases h:a0.length<=64
 . refine⟨a0.length+1, ?_⟩;have:=abJ (a0.length+1) a0 [] (a0.length+1) 0 (by omega) (by simpa using h);unfold t100;rw[ay (by omega),zaa h,zbb];exact this
 . refine⟨0, ?_⟩;unfold t100;rw[aK (by omega),zao h];rfl
def Zt:TB:=UX.ad O2
def BT (bal lost:Int) (hG:Bool) (pr pp it rc lt:Int) (df:Bool):Bool:=
 bif hG then(pr==0)&&((pp==0)&&((it==0)&&((lt==0)&&(!df&&decide (rc<=lost)))))
 else bif decide (w64 (w64 (bal-pr)-pp)<0)then false
 else bif df then(bif decide (rc<=w64 (lost+w64 (w64 (bal-pr)-pp)))then true else rc==0)else rc==0
theorem Nk {c x y:Bool}:(bif c then some [Un.b x]else some [Un.b y])=some [.b (bif c then x else y)]:=by cases c<;>rfl
def aaO:aA:=⟨Zt.tab,176,⟨[.agg [.z0,.z0,.z0,.z0,.bool],.agg [.z0,.z0,.z0,.z0,.z0,.z0,.bool]],[],0⟩,⟨[.bool],[],0⟩,[]⟩
def t176 (m:Nat):Int × Int × Int × Int × Bool × Int × Int × Int × Int × Int × Int × Bool->OU0:=fun(a0,a1,a2,a3,a4,a5,a6,a7,a8,a9,a10,a11)=>
 bif a4 then
 bif a6==0 then
 bif a7==0 then
 bif a8==0 then
 bif a10==0 then
 bif !a11 then
 some ([.b (decide (a9<=a2))])
 else
 some ([.b false])
 else
 some ([.b false])
 else
 some ([.b false])
 else
 some ([.b false])
 else
 some ([.b false])
 else
 lt ((w64 ((w64 (a1-a6))-a7)):Int) fun x1=>
 bif decide (x1<0)then
 some ([.b false])
 else
 bif a11 then
 bif (decide (a9<=(w64 (a2+x1))))then
 some ([.b true])
 else
 some ([.b (a9==0)])
 else
 some ([.b (a9==0)])
def f176:Int × Int × Int × Int × Bool × Int × Int × Int × Int × Int × Int × Bool->Bool × List Un:=fun(a0,a1,a2,a3,a4,a5,a6,a7,a8,a9,a10,a11)=>(true,[.b (BT a1 a2 a4 a6 a7 a8 a9 a10 a11)])
theorem PO:ER 176 (mkE aaO.en aaO.ex f176):=ak ae Zt.right (fun m=>[]) (t:=t176) (by kernel_rfl) (fun m=>az) (fun m a=>by kernel_rfl) fun(a0,a1,a2,a3,a4,a5,a6,a7,a8,a9,a10,a11) hc=>by
 dsimp only[f176]at⊢;refine⟨0, ?_⟩;unfold t176 BT;simp only[lt_eq,Nk];cases a4<;>simp only[zaw,zal]
 cases (a6==0)<;>cases (a7==0)<;>cases (a8==0)<;>cases (a10==0)<;>cases a11<;>rfl
def Zv:TB:=Zt.ad PO
def C7 (bal pr pp:Int) (df:Bool):Int:=bif df then 0 else w64 (bal-w64 (pr+pp))
def kU (bal pr pp:Int) (df:Bool):Int:=bif df then w64 (bal-w64 (pr+pp))else 0
def u6 (bal lost pr pp rc:Int) (df:Bool):Int:=bif df then w64 (w64 (lost+w64 (bal-w64 (pr+pp)))-rc)else w64 (lost-rc)
def uh (bal:Int) (hG:Bool) (pr pp lt:Int) (df:Bool):Int:=bif df then 0 else bif hG then 0 else bif w64 (bal-w64 (pr+pp))==0 then 0 else lt
def abO:aA:=⟨Zv.tab,177,⟨[.agg [.z0,.z0,.z0,.z0,.bool],.agg [.z0,.z0,.z0,.z0,.z0,.z0,.bool]],[],0⟩,⟨[.agg [.z0,.z0,.z0,.z0,.bool],.agg [.z0,.z0,.z0,.z0]],[],0⟩,[]⟩
def t177 (m:Nat):Int × Int × Int × Int × Bool × Int × Int × Int × Int × Int × Int × Bool->OU0:=fun(a0,a1,a2,a3,a4,a5,a6,a7,a8,a9,a10,a11)=>
 lt ((w64 (a1-(w64 (a6+a7)))):Int) fun x1=>
 bif a11 then
 some ([.i a0,.i 0,.i (w64 ((w64 (a2+x1))-a9)),.i 0,.b true,.i (w64 (a6+a7)),.i a8,.i x1,.i a9])
 else
 bif a4 then
 some ([.i a0,.i x1,.i (w64 (a2-a9)),.i 0,.b a4,.i (w64 (a6+a7)),.i a8,.i 0,.i a9])
 else
 bif x1==0 then
 some ([.i a0,.i x1,.i (w64 (a2-a9)),.i 0,.b a4,.i (w64 (a6+a7)),.i a8,.i 0,.i a9])
 else
 some ([.i a0,.i x1,.i (w64 (a2-a9)),.i a10,.b a4,.i (w64 (a6+a7)),.i a8,.i 0,.i a9])
def f177:Int × Int × Int × Int × Bool × Int × Int × Int × Int × Int × Int × Bool->Bool × List Un:=fun(a0,a1,a2,a3,a4,a5,a6,a7,a8,a9,a10,a11)=>(true,[.i (a0),.i (C7 a1 a6 a7 a11),.i (u6 a1 a2 a6 a7 a9 a11),.i (uh a1 a4 a6 a7 a10 a11),.b ((a11||a4)),.i (w64 (a6+a7)),.i (a8),.i (kU a1 a6 a7 a11),.i (a9)])
theorem SB:ER 177 (mkE abO.en abO.ex f177):=ak ae Zv.right (fun m=>[]) (t:=t177) (by kernel_rfl) (fun m=>az) (fun m a=>by kernel_rfl) fun(a0,a1,a2,a3,a4,a5,a6,a7,a8,a9,a10,a11) hc=>by
 dsimp only[f177]at⊢;refine⟨0, ?_⟩;unfold t177 C7 u6 uh kU;simp only[lt_eq];cases a11<;>cases a4<;>simp only[zaw,zal,Bool.or_true,Bool.or_false]<;>first|rfl|(cases (w64 (a1-w64 (a6+a7))==0)<;>rfl)
def Ul:TB:=Zv.ad SB
def gI (id:Int):Int->LD0->Int
 |_,[]=> -1
 |i,d::l=>if d.i 0=id then i else gI id (i+1) l
def ZO:aA:=⟨Ul.tab,200,⟨[.ab (sB 4),.fn 201 [] [.ptr 0 0 0]],[.cells [.z0]],1⟩,⟨[.z0],[.cells [.z0]],1⟩,[]⟩
abbrev FA:Type:=LD0 × Int × Int × Int
def yQ (m:Nat) (k:FA->OU0):FA->OU0:=fun(a0,a1,a2,a3)=>
 bif decide (a2<a1)then
 chk (inb a2 a0.length)<|
 chk (decide (a2.toNat<a0.length))<|
 bif ((ai a0 a2.toNat).i 0)==a3 then
 some ([.i a2,.i a3])
 else
 k (a0,a1,(w64 (a2+1)),a3)
 else
 some ([.i (-1),.i a3])
def uL (m:Nat):Nat->FA->OU0:=aX (yQ m)
theorem xo (m:Nat) (n:Nat):uL m (n+1)=yQ m (uL m n):=rfl
def J9 (F:FA->OU0):aQ:=⟨[.lp [0,1,0,1],.blk 0,.code [1,1]],⟨frm 19 [(0,.ab (sB 4)),(1,.fn 201 [] [.ptr 0 0 0]),(7,.z0),(8,.z0)],[.cells [.z0]],1⟩,onU F⟩
theorem Xt (m:Nat):∀n,HO ZO (J9 (uL m n)):=an ae Ul.right (fun k=>[J9 k]) (fun k h=>(aI h az)) fun k a=>by kernel_rfl
def t200 (m:Nat):LD0 × Int->OU0:=fun(a0,a1)=>
 uL m m (a0,(a0.length:Int),0,a1)
theorem ab7 (m:Nat) (id:Int):∀(rest pre:LD0) (n:Nat),rest.length<n->(pre++rest).length<1000000->
 uL m n (pre++rest,((pre++rest).length:Int),(pre.length:Int),id)=some [.i (gI id pre.length rest),.i id]:=by
 intro rest
 induction rest with
 |nil=>
  intro pre n hn hl;obtain⟨n,rfl⟩:=ah n (by simp at hn;omega);rw[xo];unfold yQ;dsimp only;simp[ay,gI]
 |cons x rest ih=>
  intro pre n hn hl;obtain⟨n,rfl⟩:=ah n (by simp at hn;omega);simp only[zac,zab]at hn hl;have:=ih (pre++[x]) n (by omega) (by simp;omega);rw[xo];unfold yQ;dsimp only;simp only[LNl,LNi,zad]at this⊢;unfold gI
  by_cases h1:x.i 0=id
  . simp(disch:=omega) only[TRa,TRi,aa,LNl,LNi,zad,ax];rw[if_pos h1]
  . rw[if_neg h1];simp(disch:=omega) only[TRa,TRi,aa,LNl,LNi,zad,ax];exact this
def f200:LD0 × Int->Bool × List Un:=fun(a0,a1)=>(decide (a0.length<1000000),[.i (gI a1 0 a0),.i (a1)])
theorem Ou:ER 200 (mkE ZO.en ZO.ex f200):=ak ae Ul.right (fun m=>[J9 (uL m m)]) (t:=t200) (by kernel_rfl) (fun m=>(aI (Xt m m) az)) (fun m a=>by kernel_rfl) fun(a0,a1) hc=>by
 dsimp only[f200]at hc⊢;have h:=zaj hc;exact⟨a0.length+1,ab7 _ a1 a0 [] _ (by omega) (by simpa using h)⟩
def Ua:TB:=Ul.ad Ou
def pd (x d:Dat):Dat:= .r [.n (x.i 0),.n (C7 (x.i 1) (d.i 1) (d.i 2) (d.b 6)),.n (u6 (x.i 1) (x.i 2) (d.i 1) (d.i 2) (d.i 4) (d.b 6)),.n (uh (x.i 1) (x.b 4) (d.i 1) (d.i 2) (d.i 5) (d.b 6)),.n (bI (d.b 6||x.b 4))]
structure PZ where
 p:Int
 q:Int
 l:Int
 r:Int
 e:Int
 aN:List Dat
def Fo (x d:Dat):Bool:=BT (x.i 1) (x.i 2) (x.b 4) (d.i 1) (d.i 2) (d.i 3) (d.i 4) (d.i 5) (d.b 6)
def gR:LD0->Int->Int->Int->Int->LD0->Option PZ
 |l,p,q,s,r,[]=>some ⟨p,q,s,r,0,l⟩
 |l,p,q,s,r,d::t=>if gI (d.i 0) 0 l<0 then none else
  if Fo (ai l (gI (d.i 0) 0 l).toNat) d=true then
   gR (l.set (gI (d.i 0) 0 l).toNat (pd (ai l (gI (d.i 0) 0 l).toNat) d)) (w64 (p+w64 (d.i 1+d.i 2))) (w64 (q+d.i 3)) (w64 (s+kU ((ai l (gI (d.i 0) 0 l).toNat).i 1) (d.i 1) (d.i 2) (d.b 6))) (w64 (r+d.i 4)) t
  else none
def aL (lines l:LD0):PZ:=if mj lines=true then(gR l 0 0 0 0 lines).getD ⟨0,0,0,0,3,l⟩else⟨0,0,0,0,3,l⟩
theorem EH (id:Int):∀(l:LD0) (i:Int),gI id i l= -1\/(i<=gI id i l/\gI id i l<i+l.length)
 |[],i=> .inl rfl
 |d::l,i=>by
  unfold gI
  by_cases h:d.i 0=id
  . rw[if_pos h];exact .inr ⟨by omega,by simp;omega⟩
  . rw[if_neg h];rcases EH id l (i+1)with h|⟨h1,h2⟩
    . exact .inl h
    . refine .inr ⟨by omega, ?_⟩;simp only[zac];omega
def XH:aA:=⟨Ua.tab,139,⟨[.ptr 0 0 0,.ab (sB 6)],[.cells [.buf 1 5],.ab (sB 4)],0⟩,⟨[.agg [.z0,.z0,.z0,.z0],.z0],[.cells [.buf 2 5],.gone,.ab (sB 4)],0⟩,[]⟩
abbrev EZ:Type:=LD0 × Int × Int × Int × Int × Int × Int × Int × Int × Int × Int × LD0 × LD0
def xN (m:Nat) (k:EZ->OU0):EZ->OU0:=fun(a0,a1,a2,a3,a4,a5,a6,a7,a8,a9,a10,a11,a12)=>
 bif decide (a2<a1)then
 chk (inb a2 a0.length)<|
 chk (decide (a2.toNat<a0.length))<|
 lt (ai a0 a2.toNat:Dat) fun d1=>
 chk (decide (a12.length<1000000))<|
 bif (decide ((gI (d1.i 0) 0 a12)<0))then
 some ([.i 0,.i 0,.i 0,.i 0,.i 3,.d a11])
 else
 chk (inb (gI (d1.i 0) 0 a12) a12.length)<|
 chk (decide ((gI (d1.i 0) 0 a12).toNat<a12.length))<|
 lt (ai a12 ((gI (d1.i 0) 0 a12).toNat):Dat) fun d3=>
 bif !(BT (d3.i 1) (d3.i 2) (d3.b 4) (d1.i 1) (d1.i 2) (d1.i 3) (d1.i 4) (d1.i 5) (d1.b 6))then
 some ([.i 0,.i 0,.i 0,.i 0,.i 3,.d a11])
 else
 chk (inb (gI (d1.i 0) 0 a12) a12.length)<|
 chk (decide ((gI (d1.i 0) 0 a12).toNat<a12.length))<|
 lt (ai a12 ((gI (d1.i 0) 0 a12).toNat):Dat) fun d5=>
 chk (inb (gI (d1.i 0) 0 a12) a12.length)<|
 chk (decide ((gI (d1.i 0) 0 a12).toNat<a12.length))<|
 k (a0,a1,(w64 (a2+1)),a3,a4,a5,a6,(w64 (a7+(w64 ((d1.i 1)+(d1.i 2))))),(w64 (a8+(d1.i 3))),(w64 (a9+(kU (d5.i 1) (d1.i 1) (d1.i 2) (d1.b 6)))),(w64 (a10+(d1.i 4))),a11,(List.set a12 ((gI (d1.i 0) 0 a12).toNat) (.r [.n (d5.i 0),.n (C7 (d5.i 1) (d1.i 1) (d1.i 2) (d1.b 6)),.n (u6 (d5.i 1) (d5.i 2) (d1.i 1) (d1.i 2) (d1.i 4) (d1.b 6)),.n (uh (d5.i 1) (d5.b 4) (d1.i 1) (d1.i 2) (d1.i 5) (d1.b 6)),.n (bI ((d1.b 6)||(d5.b 4)))])))
 else
 some ([.i a7,.i a8,.i a9,.i a10,.i 0,.d a12])
def uM (m:Nat):Nat->EZ->OU0:=aX (xN m)
theorem wb (m:Nat) (n:Nat):uM m (n+1)=xN m (uM m n):=rfl
def IA (F:EZ->OU0):aQ:=⟨[.lp [0,1,0,1,1,1,1],.blk 0,.code [1,1,1,1,1]],⟨frm 89 [(0,.ptr 0 0 0),(4,.ptr 2 0 0),(6,.ptr 3 0 0),(7,.ptr 4 0 0),(18,.ab (sB 6)),(19,.z0),(20,.z0)],[.cells [.buf 5 5],.gone,.cells [.z0,.z0,.z0,.z0],.cells [.buf 6 5],.cells [.z0,.z0,.z0,.z0],.ab (sB 4),.ab (sB 4)],0⟩,onU F⟩
theorem Yl (m:Nat):∀n,HO XH (IA (uM m n)):=an ae Ua.right (fun k=>[IA k]) (fun k h=>(aI h az)) fun k a=>by kernel_rfl
def t139 (m:Nat):LD0 × LD0->OU0:=fun(a0,a1)=>
 bif !(mj a0)then
 some ([.i 0,.i 0,.i 0,.i 0,.i 3,.d a1])
 else
 chk (decide (a1.length<1000000))<|
 uM m m (a0,(a0.length:Int),0,0,0,0,0,0,0,0,0,a1,a1)
def Ss (l0:LD0) (o:Option PZ):List Un:=match o with|some x=>[.i x.p,.i x.q,.i x.l,.i x.r,.i x.e,.d x.aN]|none=>[.i 0,.i 0,.i 0,.i 0,.i 3,.d l0]
theorem YV (m:Nat) (l0:LD0):∀(rest pre:LD0) (n:Nat) (p q s r:Int) (l:LD0),rest.length<n->(pre++rest).length<=64->l.length<1000000->
 uM m n (pre++rest,((pre++rest).length:Int),(pre.length:Int),0,0,0,0,p,q,s,r,l0,l)=some (Ss l0 (gR l p q s r rest)):=by
 intro rest
 induction rest with
 |nil=>
  intro pre n p q s r l hn hl hll;obtain⟨n,rfl⟩:=ah n (by simp at hn;omega);rw[wb];unfold xN;dsimp only;simp[ay,gR,Ss]
 |cons x rest ih=>
  intro pre n p q s r l hn hl hll;obtain⟨n,rfl⟩:=ah n (by simp at hn;omega);simp only[zac,zab]at hn hl;rw[wb];unfold xN;dsimp only;simp(disch:=omega) only[TRa,TRi,aa,LNl,LNi,zad,ax];unfold gR;rcases EH (x.i 0) l 0 with h1|⟨h1,h2⟩
  . rw[aK (by omega),if_pos (by omega)];rfl
  . rw[ay (by omega),if_neg (by omega)];simp(disch:=omega) only[TRa,TRi,aa,LNl,LNi,zad,ax]
    by_cases h3:Fo (ai l (gI (x.i 0) 0 l).toNat) x=true
    . rw[if_pos h3];have h4:=h3;unfold Fo at h4;rw[h4];have:=ih (pre++[x]) n (w64 (p+w64 (x.i 1+x.i 2))) (w64 (q+x.i 3)) (w64 (s+kU ((ai l (gI (x.i 0) 0 l).toNat).i 1) (x.i 1) (x.i 2) (x.b 6))) (w64 (r+x.i 4)) (l.set (gI (x.i 0) 0 l).toNat (pd (ai l (gI (x.i 0) 0 l).toNat) x)) (by omega) (by simp;omega) (by simpa using hll)
      try simp(disch:=omega) only[TRa,TRi,aa,LNl,LNi,zad,ax]
      simp only[LNl,LNi,zad]at this⊢;exact this
    . rw[if_neg h3];have h4:=h3;unfold Fo at h4;rw[show BT _ _ _ _ _ _ _ _ _=false from Bool.eq_false_iff.2 h4];rfl
def f139:LD0 × LD0->Bool × List Un:=fun(a0,a1)=>(decide (a1.length<1000000),[.i ((aL a0 a1).p),.i ((aL a0 a1).q),.i ((aL a0 a1).l),.i ((aL a0 a1).r),.i ((aL a0 a1).e),.d ((aL a0 a1).aN)])
theorem Sm:ER 139 (mkE XH.en XH.ex f139):=ak ae Ua.right (fun m=>[IA (uM m m)]) (t:=t139) (by kernel_rfl) (fun m=>(aI (Yl m m) az)) (fun m a=>by kernel_rfl) fun(a0,a1) hc=>by
 dsimp only[f139]at hc⊢;have h:=zaj hc;unfold aL;cases ht:mj a0 with
 |false=>
  refine⟨0, ?_⟩;unfold t139;dsimp only;rw[ht];rfl
 |true=>
  have hl:a0.length<=64:=by
   simp only[mj,zae,zag]at ht;exact ht.1
  refine⟨a0.length+1, ?_⟩;have:=YV (a0.length+1) a1 a0 [] (a0.length+1) 0 0 0 0 a1 (by omega) (by simpa using hl) h;unfold t139;dsimp only;rw[ht];simp only[zbr,zal,zbh];rw[aJ h];refine this.trans ?_
  cases gR a1 0 0 0 0 a0<;>rfl
def UA:TB:=Ua.ad Sm
def ji (p q r s t u:LI0) (i:Int) (x:Dat):Dat:=
 let y:=within (bB p i) 0 (x.i 1/4)
 let z:=if within (bB q i) 0 (2*(x.i 1-y))>x.i 1-y then 0 else within (bB q i) 0 (2*(x.i 1-y))
 let w:=within (bB t i) 0 24
 .r [.n (x.i 0),.n y,.n z,.n (within (bB r i) 0 (1+x.i 1/50)),.n (if w64 ((BitVec.ofInt 64 (bB u i)&&&BitVec.ofInt 64 7).toNat)=7 then within (bB s i) 0 (x.i 1-y-z)else 0),.n (if 0<w-12 then w-12 else 0),.n (bI (decide (w64 ((BitVec.ofInt 64 (bB u i)&&&BitVec.ofInt 64 7).toNat)=7)))]
def jX (s lost:LI0) (i:Int) (x:Dat):Dat:=
 .r [.n (x.i 0),.n 0,.n 0,.n 0,.n (if i<(lost.length:Int)/\0<lost.getD i.toNat 0 then within (bB s i) 0 (lost.getD i.toNat 0)else 0),.n 0,.n (bI false)]
def ofL (p q r s t u lost:LI0):Int->LD0->LD0
 |_,[]=>[]
 |i,x::l=>(if w64 ((BitVec.ofInt 64 (bB t i)&&&BitVec.ofInt 64 15).toNat)=15 then[]else if 0<x.i 1 then[ji p q r s t u i x]else[jX s lost i x])++ofL p q r s t u lost (i+1) l
theorem Lb (p q r s t u lost:LI0):∀(l:LD0) (i:Int),(ofL p q r s t u lost i l).length<=l.length
 |[],_=>zap _
 |x::l,i=>by
  have:=Lb p q r s t u lost l (i+1);unfold ofL
  split
  . simp;omega
  . split<;>(simp;omega)
def N64:aA:=⟨UA.tab,64,⟨[.agg [.ints .i64,.ints .i64,.ints .i64,.ints .i64,.ints .i64,.ints .i64],.ab (sI 2),.ints .i64],[],0⟩,⟨[.buf 0 7],[.ab (sB 6)],0⟩,[]⟩
abbrev L3:Type:=LI0 × LD0 × Int × Int × LI0 × LI0 × LI0 × LI0 × LI0 × LI0 × LD0
def D4 (m:Nat) (k:L3->OU0):L3->OU0:=fun(a0,a1,a2,a3,a4,a5,a6,a7,a8,a9,a10)=>
 bif decide (a3<a2)then
 chk (inb a3 a1.length)<|
 chk (decide (a3.toNat<a1.length))<|
 lt (ai a1 a3.toNat:Dat) fun d1=>
 chk (decide (0<=a3))<|
 bif (w64 ((BitVec.ofInt 64 (bB a8 a3)&&&BitVec.ofInt 64 15).toNat))==15 then
 k (a0,a1,a2,(w64 (a3+1)),a4,a5,a6,a7,a8,a9,a10)
 else
 bif decide ((d1.i 1)>0)then
 chk (decide (0<=a3))<|
 bif decide (-2305843009213693952<=0/\0<=(w64 ((d1.i 1).tdiv 4))/\(w64 ((d1.i 1).tdiv 4))<=2305843009213693952)then
 lt ((within (bB a4 a3) 0 (w64 ((d1.i 1).tdiv 4))):Int) fun x3=>
 chk (decide (0<=a3))<|
 lt ((w64 (2*(w64 ((d1.i 1)-x3)))):Int) fun x4=>
 bif decide (-2305843009213693952<=0/\0<=x4/\x4<=2305843009213693952)then
 lt ((within (bB a5 a3) 0 x4):Int) fun x5=>
 bif (decide (x5>(w64 ((d1.i 1)-x3))))then
 chk (decide (0<=a3))<|
 lt ((w64 ((d1.i 1).tdiv 50)):Int) fun x7=>
 bif decide (-2305843009213693952<=0/\0<=(w64 (1+x7))/\(w64 (1+x7))<=2305843009213693952)then
 lt ((within (bB a6 a3) 0 (w64 (1+x7))):Int) fun x8=>
 chk (decide (0<=a3))<|
 lt ((within (bB a8 a3) 0 24):Int) fun x9=>
 lt ((if 0<(w64 (x9-12))then(w64 (x9-12))else 0):Int) fun x10=>
 chk (decide (0<=a3))<|
 bif (w64 ((BitVec.ofInt 64 (bB a9 a3)&&&BitVec.ofInt 64 7).toNat))==7 then
 chk (decide (0<=a3))<|
 lt ((w64 ((w64 ((d1.i 1)-x3))-0)):Int) fun x12=>
 bif decide (-2305843009213693952<=0/\0<=x12/\x12<=2305843009213693952)then
 chk (fits (a10.length+1) 56)<|
 k (a0,a1,a2,(w64 (a3+1)),a4,a5,a6,a7,a8,a9,(a10++([.r [.n (d1.i 0),.n x3,.n 0,.n x8,.n (within (bB a7 a3) 0 x12),.n x10,.n (bI true)]])))
 else
 none
 else
 chk (fits (a10.length+1) 56)<|
 k (a0,a1,a2,(w64 (a3+1)),a4,a5,a6,a7,a8,a9,(a10++([.r [.n (d1.i 0),.n x3,.n 0,.n x8,.n 0,.n x10,.n (bI false)]])))
 else
 none
 else
 chk (decide (0<=a3))<|
 lt ((w64 ((d1.i 1).tdiv 50)):Int) fun x16=>
 bif decide (-2305843009213693952<=0/\0<=(w64 (1+x16))/\(w64 (1+x16))<=2305843009213693952)then
 lt ((within (bB a6 a3) 0 (w64 (1+x16))):Int) fun x17=>
 chk (decide (0<=a3))<|
 lt ((within (bB a8 a3) 0 24):Int) fun x18=>
 lt ((if 0<(w64 (x18-12))then(w64 (x18-12))else 0):Int) fun x19=>
 chk (decide (0<=a3))<|
 bif (w64 ((BitVec.ofInt 64 (bB a9 a3)&&&BitVec.ofInt 64 7).toNat))==7 then
 chk (decide (0<=a3))<|
 lt ((w64 ((w64 ((d1.i 1)-x3))-x5)):Int) fun x21=>
 bif decide (-2305843009213693952<=0/\0<=x21/\x21<=2305843009213693952)then
 chk (fits (a10.length+1) 56)<|
 k (a0,a1,a2,(w64 (a3+1)),a4,a5,a6,a7,a8,a9,(a10++([.r [.n (d1.i 0),.n x3,.n x5,.n x17,.n (within (bB a7 a3) 0 x21),.n x19,.n (bI true)]])))
 else
 none
 else
 chk (fits (a10.length+1) 56)<|
 k (a0,a1,a2,(w64 (a3+1)),a4,a5,a6,a7,a8,a9,(a10++([.r [.n (d1.i 0),.n x3,.n x5,.n x17,.n 0,.n x19,.n (bI false)]])))
 else
 none
 else
 none
 else
 none
 else
 bif (decide (a3<(a0.length:Int)))then
 chk (inb a3 a0.length)<|
 chk (decide (a3.toNat<a0.length))<|
 bif (decide ((a0.getD a3.toNat 0)>0))then
 chk (decide (0<=a3))<|
 chk (inb a3 a0.length)<|
 chk (decide (a3.toNat<a0.length))<|
 bif decide (-2305843009213693952<=0/\0<=(a0.getD a3.toNat 0)/\(a0.getD a3.toNat 0)<=2305843009213693952)then
 chk (fits (a10.length+1) 56)<|
 k (a0,a1,a2,(w64 (a3+1)),a4,a5,a6,a7,a8,a9,(a10++([.r [.n (d1.i 0),.n 0,.n 0,.n 0,.n (within (bB a7 a3) 0 (a0.getD a3.toNat 0)),.n 0,.n (bI false)]])))
 else
 none
 else
 chk (fits (a10.length+1) 56)<|
 k (a0,a1,a2,(w64 (a3+1)),a4,a5,a6,a7,a8,a9,(a10++([.r [.n (d1.i 0),.n 0,.n 0,.n 0,.n 0,.n 0,.n (bI false)]])))
 else
 chk (fits (a10.length+1) 56)<|
 k (a0,a1,a2,(w64 (a3+1)),a4,a5,a6,a7,a8,a9,(a10++([.r [.n (d1.i 0),.n 0,.n 0,.n 0,.n 0,.n 0,.n (bI false)]])))
 else
 some ([.d a10])
def zz (m:Nat):Nat->L3->OU0:=aX (D4 m)
theorem AM (m:Nat) (n:Nat):zz m (n+1)=D4 m (zz m n):=rfl
def R0 (F:L3->OU0):aQ:=⟨[.lp [0,1,0,1,1],.blk 0,.code [1,1,1]],⟨frm 126 [(2,.ints .i64),(3,.ptr 0 0 0),(7,.buf 1 7),(11,.ab (sI 2)),(12,.z0),(13,.z0)],[.cells [.ints .i64,.ints .i64,.ints .i64,.ints .i64,.ints .i64,.ints .i64],.ab (sB 6)],0⟩,onU F⟩
theorem ac1 (m:Nat):∀n,HO N64 (R0 (zz m n)):=an ae UA.right (fun k=>[R0 k]) (fun k h=>(aI h az)) fun k a=>by kernel_rfl
def t64 (m:Nat):LI0 × LI0 × LI0 × LI0 × LI0 × LI0 × LD0 × LI0->OU0:=fun(a0,a1,a2,a3,a4,a5,a6,a7)=>
 zz m m (a7,a6,(a6.length:Int),0,a0,a1,a2,a3,a4,a5,[])
set_option maxHeartbeats 4000000 in
theorem ae7 (m:Nat) (p q r s t u lost:LI0) (adZ:∀y∈lost,y<=2305843009213693952):∀(rest pre acc:LD0) (n:Nat),rest.length<n->(pre++rest).length<1000000->acc.length<=pre.length->(∀d∈rest,d.i 1<=1152921504606846976)->
 zz m n (lost,pre++rest,((pre++rest).length:Int),(pre.length:Int),p,q,r,s,t,u,acc)=some [.d (acc++ofL p q r s t u lost pre.length rest)]:=by
 intro rest
 induction rest with
 |nil=>
  intro pre acc n hn hl ha hb;obtain⟨n,rfl⟩:=ah n (by simp at hn;omega);rw[AM];unfold D4;dsimp only;simp[ay,ofL]
 |cons x rest ih=>
  intro pre acc n hn hl ha hb;obtain⟨n,rfl⟩:=ah n (by simp at hn;omega);simp only[zac,zab]at hn hl;have hx:=hb x (by simp);have K:∀out:LD0,out.length<=acc.length+1->zz m n (lost,pre++x::rest,(pre.length:Int)+((rest.length:Int)+1),(pre.length:Int)+1,p,q,r,s,t,u,out)=some [.d (out++ofL p q r s t u lost ((pre.length:Int)+1) rest)]:=by
   intro out ho;have:=ih (pre++[x]) out n (by omega) (by simp;omega) (by simp;omega) (fun d hd=>hb d (by simp[hd]));simp only[LNl,LNi,zad]at this⊢;exact this
  rw[AM];unfold D4;dsimp only;unfold ofL;generalize hi:(pre.length:Int)=i at K⊢;have hi0:0<=i/\i<1000000:=by omega
  by_cases h15:w64 ((BitVec.ofInt 64 (bB t i)&&&BitVec.ofInt 64 15).toNat)=15
  . rw[if_pos h15];subst hi;simp(disch:=omega) only[TRa,TRi,aa,LNl,LNi,zad,ax];rw[K _ (by omega)]
  . rw[if_neg h15]
    by_cases hx0:0<x.i 1
    . rw[if_pos hx0];have e4:(x.i 1).tdiv 4=x.i 1/4:=Int.tdiv_eq_ediv_of_nonneg (by omega);have e50:(x.i 1).tdiv 50=x.i 1/50:=Int.tdiv_eq_ediv_of_nonneg (by omega);have k1:0<=within (bB p i) 0 (x.i 1/4)/\within (bB p i) 0 (x.i 1/4)<=x.i 1/4:=aV (by omega);have k2:0<=within (bB t i) 0 24/\within (bB t i) 0 24<=24:=aV (by omega);unfold ji;dsimp only;subst hi;have k3:0<=within (bB q (pre.length:Int)) 0 (2*(x.i 1-within (bB p (pre.length:Int)) 0 (x.i 1/4))):=(aV (by omega)).1
      by_cases hq:within (bB q (pre.length:Int)) 0 (2*(x.i 1-within (bB p (pre.length:Int)) 0 (x.i 1/4)))>x.i 1-within (bB p (pre.length:Int)) 0 (x.i 1/4)<;>
       by_cases h7:w64 ((BitVec.ofInt 64 (bB u (pre.length:Int))&&&BitVec.ofInt 64 7).toNat)=7
      . rw[if_pos hq,if_pos h7,zaa h7];simp(disch:=omega) only[TRa,TRi,aa,LNl,LNi,zad,ax,e4,e50];rw[K _ (by simp)];simp
      . rw[if_pos hq,if_neg h7,zao h7];simp(disch:=omega) only[TRa,TRi,aa,LNl,LNi,zad,ax,e4,e50];rw[K _ (by simp)];simp
      . rw[if_neg hq,if_pos h7,zaa h7];simp(disch:=omega) only[TRa,TRi,aa,LNl,LNi,zad,ax,e4,e50];rw[K _ (by simp)];simp
      . rw[if_neg hq,if_neg h7,zao h7];simp(disch:=omega) only[TRa,TRi,aa,LNl,LNi,zad,ax,e4,e50];rw[K _ (by simp)];simp
    . rw[if_neg hx0];unfold jX;subst hi
      by_cases hlt:(pre.length:Int)<(lost.length:Int)
      . by_cases hp:0<lost.getD pre.length 0
        . have hle:lost.getD pre.length 0<=2305843009213693952:=by
           rw[zaf,zah (by omega)];exact adZ _ (zbw _)
          rw[if_pos ⟨hlt,by simpa using hp⟩];simp(disch:=omega) only[TRa,TRi,aa,LNl,LNi,zad,ax];rw[K _ (by simp)];simp
        . rw[if_neg (fun h=>hp (by simpa using h.2))];simp(disch:=omega) only[TRa,TRi,aa,LNl,LNi,zad,ax];rw[K _ (by simp)];simp
      . rw[if_neg (fun h=>hlt h.1)];simp(disch:=omega) only[TRa,TRi,aa,LNl,LNi,zad,ax];rw[K _ (by simp)];simp
def f64:LI0 × LI0 × LI0 × LI0 × LI0 × LI0 × LD0 × LI0->Bool × List Un:=fun(a0,a1,a2,a3,a4,a5,a6,a7)=>(decide (a6.length<1000000)&&(a6.all (fun d=>decide (d.i 1<=1152921504606846976))&&a7.all fun y=>decide (y<=2305843009213693952)),[.d (ofL a0 a1 a2 a3 a4 a5 a7 0 a6)])
theorem Vq:ER 64 (mkE N64.en N64.ex f64):=ak ae UA.right (fun m=>[R0 (zz m m)]) (t:=t64) (by kernel_rfl) (fun m=>(aI (ac1 m m) az)) (fun m a=>by kernel_rfl) fun(a0,a1,a2,a3,a4,a5,a6,a7) hc=>by
 dsimp only[f64]at hc⊢;simp only[zae,zag,zam]at hc;exact⟨a6.length+1,ae7 _ _ _ _ _ _ _ _ (fun y hy=>hc.2.2 y hy) a6 [] [] _ (by omega) (by simpa using hc.1) (by simp) (fun d hd=>hc.2.1 d hd)⟩
def T64:TB:=UA.ad Vq
def N97:aA:=⟨T64.tab,97,⟨[.np 0 0 0],aT 0,9⟩,⟨[.ptr 9 0 0],aT 0++aT 9,9⟩,[]⟩
def t97 (m:Nat):Int × av × aw × ao × LD0 × LD0 × LD0 × LD0 × LD0 × LD0 × LD0->OU0:=fun(a0,a1,a2,a3,a4,a5,a6,a7,a8,a9,a10)=>
 chk (decide (0<=a0))<|
 chk (decide (0<=a0))<|
 chk (decide ((⟨a1,a4,a5,a2,a6,a7,a8⟩:aU).aC.length<1000000/\(⟨a1,a4,a5,a2,a6,a7,a8⟩:aU).notes.length<1000000/\(⟨a1,a4,a5,a2,a6,a7,a8⟩:aU).s0.length<1000000/\(⟨a1,a4,a5,a2,a6,a7,a8⟩:aU).s1.length<1000000/\(⟨a1,a4,a5,a2,a6,a7,a8⟩:aU).s2.length<1000000))<|
 chk (decide (0<=a0))<|
 chk (decide (a9.length<1000000))<|
 chk (decide (0<=a0))<|
 chk (decide (a10.length<1000000))<|
 some (Uns.enc (a1:av)++Uns.enc (a2:aw)++Uns.enc (a3:ao)++[.d a4,.d a5,.d a6,.d a7,.d a8,.d a9,.d a10]++Uns.enc (((⟨a1,a4,a5,a2,a6,a7,a8⟩:aU).a):av)++Uns.enc (((⟨a1,a4,a5,a2,a6,a7,a8⟩:aU).b):aw)++Uns.enc (a3:ao)++[.d ((⟨a1,a4,a5,a2,a6,a7,a8⟩:aU).aC),.d ((⟨a1,a4,a5,a2,a6,a7,a8⟩:aU).notes),.d ((⟨a1,a4,a5,a2,a6,a7,a8⟩:aU).s0),.d ((⟨a1,a4,a5,a2,a6,a7,a8⟩:aU).s1),.d ((⟨a1,a4,a5,a2,a6,a7,a8⟩:aU).s2),.d a9,.d a10])
def f97:Int × av × aw × ao × LD0 × LD0 × LD0 × LD0 × LD0 × LD0 × LD0->Bool × List Un:=fun(a0,a1,a2,a3,a4,a5,a6,a7,a8,a9,a10)=>(decide (0<=a0)&&decide (a4.length<1000000/\a5.length<1000000/\a6.length<1000000/\a7.length<1000000/\a8.length<1000000/\a9.length<1000000/\a10.length<1000000),Uns.enc ((a1):av)++Uns.enc ((a2):aw)++Uns.enc ((a3):ao)++[.d (a4),.d (a5),.d (a6),.d (a7),.d (a8),.d (a9),.d (a10)]++Uns.enc ((a1):av)++Uns.enc ((a2):aw)++Uns.enc ((a3):ao)++[.d (a4),.d (a5),.d (a6),.d (a7),.d (a8),.d (a9),.d (a10)])
theorem Wk:ER 97 (mkE N97.en N97.ex f97):=ak ae T64.right (fun m=>[]) (t:=t97) (by kernel_rfl) (fun m=>az) (fun m a=>by kernel_rfl) fun(a0,a1,a2,a3,a4,a5,a6,a7,a8,a9,a10) hc=>by
 dsimp only[f97]at hc⊢;simp only[zae,zag]at hc;obtain⟨h0,h1,h2,h3,h4,h5,h6,h7⟩:=hc;refine⟨0, ?_⟩;unfold t97;dsimp only;simp(disch:=omega) only[lt_eq,aJ,lh]
def T97:TB:=T64.ad Wk
def acY:aA:=⟨T97.tab,170,⟨[.np 0 0 20,.z0],aT 0,0⟩,⟨[.bool],aT 0,0⟩,[]⟩
def t170 (m:Nat):Int × Int × av × aw × ao × LD0 × LD0 × LD0 × LD0 × LD0 × LD0 × LD0->OU0:=fun(a0,a1,a2,a3,a4,a5,a6,a7,a8,a9,a10,a11)=>
 chk (decide (0<=a0))<|
 lt ((([a4.rin,a1]).getD 0 0):Int) fun x1=>
 bif decide (x1<0)then
 some ([.b false]++Uns.enc (a2:av)++Uns.enc (a3:aw)++Uns.enc (a4:ao)++[.d a5,.d a6,.d a7,.d a8,.d a9,.d a10,.d a11])
 else
 bif (decide (x1>1152921504606846976))then
 some ([.b false]++Uns.enc (a2:av)++Uns.enc (a3:aw)++Uns.enc (a4:ao)++[.d a5,.d a6,.d a7,.d a8,.d a9,.d a10,.d a11])
 else
 lt ((([a4.rin,a1]).getD 1 0):Int) fun x3=>
 bif decide (x3<0)then
 some ([.b false]++Uns.enc (a2:av)++Uns.enc (a3:aw)++Uns.enc (a4:ao)++[.d a5,.d a6,.d a7,.d a8,.d a9,.d a10,.d a11])
 else
 bif decide (x3>(w64 (1152921504606846976-(w64 (0+x1)))))then
 some ([.b false]++Uns.enc (a2:av)++Uns.enc (a3:aw)++Uns.enc (a4:ao)++[.d a5,.d a6,.d a7,.d a8,.d a9,.d a10,.d a11])
 else
 chk (decide (0<=a0))<|
 some ([.b true]++Uns.enc (a2:av)++Uns.enc (a3:aw)++Uns.enc (({a4 with rin:=(w64 ((w64 (0+x1))+x3))}:ao):ao)++[.d a5,.d a6,.d a7,.d a8,.d a9,.d a10,.d a11])
def f170:Int × Int × av × aw × ao × LD0 × LD0 × LD0 × LD0 × LD0 × LD0 × LD0->Bool × List Un:=fun(a0,a1,a2,a3,a4,a5,a6,a7,a8,a9,a10,a11)=>(decide (0<=a0)&&decide ((0:Int)<=a4.rin/\(0:Int)<=a1/\a4.rin+a1<=(1152921504606846976:Int)),[.b (true)]++Uns.enc ((a2):av)++Uns.enc ((a3):aw)++Uns.enc (({a4 with rin:=a4.rin+a1}):ao)++[.d (a5),.d (a6),.d (a7),.d (a8),.d (a9),.d (a10),.d (a11)])
theorem OT:ER 170 (mkE acY.en acY.ex f170):=ak ae T97.right (fun m=>[]) (t:=t170) (by kernel_rfl) (fun m=>az) (fun m a=>by kernel_rfl) fun(a0,a1,a2,a3,a4,a5,a6,a7,a8,a9,a10,a11) hc=>by
 dsimp only[f170]at hc⊢;simp only[zae,zag]at hc;obtain⟨h0,h1,h2,h3⟩:=hc;refine⟨0, ?_⟩;unfold t170;dsimp only;simp only[lt_eq,zaO,zaE];simp(disch:=omega) only[TRa,TRi,aa,za4]
def VI:TB:=T97.ad OT
def sR:LI0->Int->Int × Bool
 |[],s=>(s,true)
 |x::l,s=>bif (decide (x<0)||decide (x>1152921504606846976-s))then(0,false)else sR l (s+x)
def kA (l:LI0):Int:=(sR l 0).1
def o7 (l:LI0):Bool:=(sR l 0).2
def AF (l:LI0):Bool:=l.all fun x=>decide (0<=x/\x<=1152921504606846976)
theorem Lw:∀(l:LI0) (s b:Int),0<=s->0<=b->(∀x∈l,0<=x/\x<=b)->s+l.length*b<=1152921504606846976->sR l s=(s+l.sum,true)
 |[],s,b,_,_,_,_=>by simp[sR]
 |x::l,s,b,h1,h2,h3,h4=>by
  have hx:=h3 x (by simp);have hm:0<=(l.length:Int)*b:=za9 (by omega) h2;have e:((x::l).length:Int)*b=l.length*b+b:=by rw[zac,zaL,zb2];simp
  rw[e]at h4;have:=Lw l (s+x) b (by omega) h2 (fun y hy=>h3 y (by simp[hy])) (by omega);simp only[sR];rw[show(decide (x<0)||decide (x>1152921504606846976-s))=false by simp;omega,zal,this,zbs]
  congr 1
  omega
theorem uG:∀(l:LI0) (b:Int),0<=b->(∀x∈l,0<=x/\x<=b)->0<=l.sum/\l.sum<=l.length*b
 |[],b,_,_=>by simp
 |x::l,b,h2,h3=>by
  have hx:=h3 x (by simp);have e:((x::l).length:Int)*b=l.length*b+b:=by rw[zac,zaL,zb2];simp
  have:=uG l b h2 (fun y hy=>h3 y (by simp[hy]));rw[e,zbs];omega
theorem yL {l:LI0} {b:Int} (h2:0<=b) (h3:∀x∈l,0<=x/\x<=b) (h4:l.length*b<=1152921504606846976):kA l=l.sum/\o7 l=true:=by
 have:=Lw l 0 b (by omega) h2 h3 (by omega);unfold kA o7;rw[this];simp
def cg (n s:Int) (l:LI0):LI0:=l.map fun c=>n*c/s
def lP (n s:Int) (l:LI0):LI0:=l.map fun c=>n*c%s
theorem Ap {l:LI0}:AF l=true↔∀x∈l,0<=x/\x<=1152921504606846976:=by simp[AF]
def mK (l:LI0):LI0->Nat->Nat->Nat
 |[],_,b=>b
 |x::r,i,b=>mK l r (i+1) (bif decide (x>l.getD b 0)then i else b)
def ff (l:LI0):Nat:=mK l l 0 0
def jF (z:Int):Nat->LI0->LI0->LI0
 |0,o,_=>o
 |k+1,o,l=>jF z k (o.set (ff l) (o.getD (ff l) 0+1)) (l.set (ff l) z)
def dw (n:Int) (l:LI0):LI0:=
 bif !(o7 l)then List.replicate l.length 0 else
 bif decide (max n 0>=kA l)then l else
 jF 0 (max n 0-(cg (max n 0) (kA l) l).sum).toNat (cg (max n 0) (kA l) l) (lP (max n 0) (kA l) l)
theorem Gq (l:LI0):∀(r:LI0) (i b:Nat),b<l.length->i+r.length<=l.length->mK l r i b<l.length
 |[],_,b,h,_=>h
 |x::r,i,b,h,h2=>by
  simp only[zac]at h2;unfold mK;refine Gq l r (i+1) _ ?_ (by omega);cases decide (x>l.getD b 0)
  . exact h
  . show i<l.length;omega
theorem nP {l:LI0} (h:l≠[]):ff l<l.length:=Gq l l 0 0 (List.length_pos_iff.2 h) (by simp)
theorem GI:∀(l:LI0) (s:Int),0<=s->s<=1152921504606846976->(sR l s).2=true->(∀x∈l,0<=x/\x<=1152921504606846976)/\(sR l s).1=s+l.sum/\s+l.sum<=1152921504606846976
 |[],s,h1,h2,_=>by simp[sR,h2]
 |x::l,s,h1,h2,h3=>by
  simp only[sR]at h3⊢
  by_cases hx:x<0\/x>1152921504606846976-s
  . rw[show(decide (x<0)||decide (x>1152921504606846976-s))=true by simpa using hx]at h3;cases h3
  . rw[show(decide (x<0)||decide (x>1152921504606846976-s))=false by simp;omega]at h3⊢;simp only[zal]at h3⊢;obtain⟨a,b,c⟩:=GI l (s+x) (by omega) (by omega) h3;refine⟨fun y hy=> ?_,by rw[b,zbs];omega,by rw[zbs];omega⟩;rcases zaN.1 hy with rfl|hy
    . omega
    . exact a y hy
theorem nH {l:LI0} (h:o7 l=true):(∀x∈l,0<=x/\x<=1152921504606846976)/\kA l=l.sum/\l.sum<=1152921504606846976:=by
 obtain⟨a,b,c⟩:=GI l 0 (by omega) (by omega) h;exact⟨a,by unfold kA;omega,by omega⟩
theorem fK:∀(l:LI0),(∀x∈l,0<=x)->0<=l.sum
 |[],_=>by simp
 |x::l,h=>by
  have:=h x (by simp);have:=fK l (fun y hy=>h y (by simp[hy]));rw[zbs];omega
theorem Bq {f g:Int->Int}:∀(l:LI0),(∀x∈l,f x<=g x)->(l.map f).sum<=(l.map g).sum
 |[],_=>by simp
 |x::l,h=>by
  have:=h x (by simp);have:=Bq l (fun y hy=>h y (by simp[hy]));simp only[zaS,zbs];omega
theorem DU {n s:Int} {l:LI0} (h1:0<=n) (h2:n<s) (hb:∀x∈l,0<=x/\x<=1152921504606846976):(∀y∈cg n s l,0<=y/\y<=1152921504606846976)/\0<=(cg n s l).sum/\(cg n s l).sum<=l.sum:=by
 have e:∀x∈l,0<=n*x/s/\n*x/s<=x:=fun x hx=>by
  have hx:=hb x hx;refine⟨zbG (za9 h1 hx.1) (by omega), ?_⟩;have:n*x<=s*x:=za6 (by omega) hx.1;exact Int.ediv_le_of_le_mul (by omega) (by rw[zbl x s];exact this)
 have a:∀y∈cg n s l,0<=y/\y<=1152921504606846976:=by
  intro y hy;obtain⟨x,hx,rfl⟩:=za7.1 hy;have:=e x hx;have:=hb x hx;omega
 refine⟨a,fK _ (fun y hy=>(a y hy).1), ?_⟩;have:=Bq (f:=fun c=>n*c/s) (g:=id) l (fun x hx=>(e x hx).2);simpa[cg]using this
theorem mb {l:LI0} {i:Nat} (h:i<l.length):l.getD i 0∈l:=by
 rw[zaf,zah h];exact zbw h
theorem CC (z:Int):∀(k:Nat) (o l:LI0),(jF z k o l).length=o.length
 |0,_,_=>rfl
 |k+1,o,l=>by simp[jF,CC z k]
theorem zM (n:Int) (l:LI0):(dw n l).length=l.length:=by
 unfold dw;cases o7 l
 . simp
 . cases decide (max n 0>=kA l)
   . simp[CC,cg]
   . simp
theorem xV:∀(l:LI0) (b:Nat) (v:Int),b<l.length->(l.set b v).sum=l.sum-l.getD b 0+v
 |[],b,v,h=>by simp at h
 |x::l,0,v,_=>by simp;omega
 |x::l,b+1,v,h=>by
  have:=xV l b v (by simpa using h);simp only[zbR,zbs,zaE];omega
theorem kq (l:LI0) (b i:Nat) (v:Int) (h:b<l.length):(l.set b v).getD i 0=if i=b then v else l.getD i 0:=by
 simp only[zaf,zbo]
 by_cases e:b=i
 . subst e;simp[h]
 . rw[if_neg e,if_neg (zcn e)]
theorem vo (l:LI0):∀(r pre:LI0) (b:Nat),l=pre++r->b<l.length->(∀j,j<pre.length->l.getD j 0<=l.getD b 0)->(∀j,j<b->l.getD j 0<l.getD b 0)->b<=pre.length->
 (∀j,j<l.length->l.getD j 0<=l.getD (mK l r pre.length b) 0)/\∀j,j<mK l r pre.length b->l.getD j 0<l.getD (mK l r pre.length b) 0
 |[],pre,b,he,hb,h1,h2,_=>by
  have:pre.length=l.length:=by rw[he];simp
  exact⟨fun j hj=>h1 j (by omega),h2⟩
 |x::r,pre,b,he,hb,h1,h2,h3=>by
  have hg:l.getD pre.length 0=x:=by rw[he];simp
  have hl:l.length=pre.length+(r.length+1):=by rw[he];simp
  have hp:(pre++[x]).length=pre.length+1:=by simp
  simp only[mK];rw[<-hp]
  by_cases hx:x>l.getD b 0
  . rw[show decide (x>l.getD b 0)=true from zaa hx,zaw];refine vo l r (pre++[x]) pre.length (by rw[he];simp) (by omega) (fun j hj=> ?_) (fun j hj=> ?_) (by omega)
    . rw[hp]at hj
      by_cases e:j=pre.length
      . subst e;omega
      . have:=h1 j (by omega);omega
    . have:=h1 j hj;omega
  . rw[show decide (x>l.getD b 0)=false from zao hx,zal];refine vo l r (pre++[x]) b (by rw[he];simp) hb (fun j hj=> ?_) h2 (by omega);rw[hp]at hj
    by_cases e:j=pre.length
    . subst e;omega
    . exact h1 j (by omega)
theorem oA {l:LI0} (h:l≠[]):(∀j,j<l.length->l.getD j 0<=l.getD (ff l) 0)/\∀j,j<ff l->l.getD j 0<l.getD (ff l) 0:=
 vo l l [] 0 rfl (List.length_pos_iff.2 h) (fun j hj=>by simp at hj) (fun j hj=>by omega) (by simp)
theorem qp:∀(l:LI0),(∀x∈l,x<=0)->l.sum<=0
 |[],_=>by simp
 |x::l,h=>by
  have:=h x (by simp);have:=qp l (fun y hy=>h y (by simp[hy]));rw[zbs];omega
theorem tw {l:LI0} {x:Int} (h:x∈l):∃j,j<l.length/\l.getD j 0=x:=by
 obtain⟨j,hj,rfl⟩:=List.getElem_of_mem h;exact⟨j,hj,by rw[zaf,zah hj];rfl⟩
theorem Cu {s:Int} (hs:0<s):∀(k:Nat) (o l:LI0),o.length=l.length->(∀x∈l,0<=x/\x<s)->s*(k:Int)<=l.sum->
 (jF 0 k o l).sum=o.sum+k/\(∀i,i<l.length->(jF 0 k o l).getD i 0=o.getD i 0\/((jF 0 k o l).getD i 0=o.getD i 0+1/\0<l.getD i 0))/\
 ∀i j,i<j->j<l.length->l.getD j 0<=l.getD i 0->(jF 0 k o l).getD j 0-o.getD j 0<=(jF 0 k o l).getD i 0-o.getD i 0
 |0,o,l,hl,hb,hk=>by simp[jF]
 |k+1,o,l,hl,hb,hk=>by
  have e1:s*((k+1:Nat):Int)=s*k+s:=by rw[zaL,zce];simp
  rw[e1]at hk;have hk0:0<=s*(k:Int):=za9 (by omega) (by omega);have hne:l≠[]:=by rintro rfl;simp at hk;omega
  have hB:=nP hne;obtain⟨hm,hf⟩:=oA hne;have qY:0<l.getD (ff l) 0:=by
   rcases Int.lt_or_le 0 (l.getD (ff l) 0)with h|h
   . exact h
   . have:=qp l (fun x hx=>by
      obtain⟨j,hj,rfl⟩:=tw hx;have:=hm j hj;omega)
     omega
  have KM:=hb _ (mb hB);simp only[jF];generalize hbb:ff l=b at*
  have hs':=xV l b 0 hB;have ho':=xV o b (o.getD b 0+1) (by omega);obtain⟨g1,g2,g3⟩:=Cu hs k (o.set b (o.getD b 0+1)) (l.set b 0) (by simp[hl]) (fun x hx=>by
   rcases zbM hx with h|h
   . exact hb x h
   . omega) (by omega)
  generalize jF 0 k (o.set b (o.getD b 0+1)) (l.set b 0)=y at*
  simp only[za1]at g2 g3;refine⟨by rw[g1,ho'];simp only[zaL];omega,fun i hi=> ?_,fun i j hij hj hle=> ?_⟩
  . have:=g2 i hi;rw[kq _ _ _ _ (by omega),kq _ _ _ _ hB]at this
    by_cases e:i=b
    . subst e;simp only[↓reduceIte]at this;right;omega
    . simpa[e]using this
  . have a1:=g2 i (by omega);have a2:=g2 j hj;have a3:=g3 i j hij hj;rw[kq _ _ _ _ (by omega),kq _ _ _ _ hB]at a1 a2;rw[kq _ _ _ _ hB,kq _ _ _ _ hB,kq _ _ _ _ (by omega),kq _ _ _ _ (by omega)]at a3
    by_cases ei:i=b
    . subst ei;have ne:¬j=i:=by omega
      simp only[↓reduceIte,ne]at a1 a2 a3;omega
    . by_cases ej:j=b
      . subst ej;have:=hf i hij;omega
      . simp only[ei,ej,zbp]at a1 a2 a3;exact a3 hle
theorem yY (a s:Int):∀l:LI0,s*(cg a s l).sum+(lP a s l).sum=a*l.sum
 |[]=>by simp[cg,lP]
 |x::l=>by
  have:=yY a s l;have e:=zbm (a*x) s;show s*(a*x/s+(cg a s l).sum)+(a*x%s+(lP a s l).sum)=a*(x+l.sum)
  rw[zce,zce];omega
theorem B4 (f:Int->Int) {l:LI0} {b:Nat} (h:b<l.length):(l.map f).getD b 0=f (l.getD b 0):=by
 simp[zaf,zah h]
theorem Nh {a:Int} {l:LI0} (ha:0<=a) (hok:o7 l=true) (hlt:a<l.sum):(dw a l).sum=a/\
 (∀i,i<l.length->(dw a l).getD i 0=a*l.getD i 0/l.sum\/((dw a l).getD i 0=a*l.getD i 0/l.sum+1/\0<a*l.getD i 0%l.sum))/\
 ∀i j,i<j->j<l.length->a*l.getD j 0%l.sum<=a*l.getD i 0%l.sum->(dw a l).getD j 0-a*l.getD j 0/l.sum<=(dw a l).getD i 0-a*l.getD i 0/l.sum:=by
 obtain⟨hb,hs,hs2⟩:=nH hok;have hr:∀x∈lP a l.sum l,0<=x/\x<l.sum:=by
  intro y hy;obtain⟨x,hx,rfl⟩:=za7.1 hy;exact⟨zbz _ (by omega),zbk _ (by omega)⟩
 have Z9:=yY a l.sum l;have hr0:=fK _ (fun x hx=>(hr x hx).1);have hk:0<=a-(cg a l.sum l).sum:=by
  have:l.sum*(cg a l.sum l).sum<=l.sum*a:=by rw[zbl l.sum a];omega
  have:=Int.le_of_mul_le_mul_left this (by omega);omega
 have he:dw a l=jF 0 (a-(cg a l.sum l).sum).toNat (cg a l.sum l) (lP a l.sum l):=by
  unfold dw;rw[hok,hs,show max a 0=a by omega,show decide (a>=l.sum)=false from zao (by omega)];rfl
 have hl1:(cg a l.sum l).length=l.length:=by simp[cg]
 have hl2:(lP a l.sum l).length=l.length:=by simp[lP]
 have d:=Cu (s:=l.sum) (by omega) (a-(cg a l.sum l).sum).toNat (cg a l.sum l) (lP a l.sum l) (by omega) hr (by
  rw[Int.toNat_of_nonneg hk,Int.mul_sub,zbl l.sum a];omega)
 rw[<-he,hl2]at d;obtain⟨d1,d2,d3⟩:=d;have ef:∀i,i<l.length->(cg a l.sum l).getD i 0=a*l.getD i 0/l.sum:=fun i hi=>B4 _ hi
 have er:∀i,i<l.length->(lP a l.sum l).getD i 0=a*l.getD i 0%l.sum:=fun i hi=>B4 _ hi
 refine⟨by rw[d1,Int.toNat_of_nonneg hk];omega,fun i hi=> ?_,fun i j hij hj hle=> ?_⟩
 . have:=d2 i hi
   rwa [ef i hi,er i hi]at this
 . have:=d3 i j hij hj (by rw[er i (by omega),er j hj];exact hle)
   rwa [ef i (by omega),ef j hj]at this
theorem Nz {a:Int} {l:LI0} (hok:o7 l=true) (hge:l.sum<=max a 0):dw a l=l:=by
 obtain⟨hb,hs,hs2⟩:=nH hok;unfold dw;rw[hok,hs,show decide (max a 0>=l.sum)=true from zaa hge];rfl
theorem U2 {a x s:Int} (ha:0<=a) (hlt:a<s) (hx:0<=x):0<=a*x/s/\a*x/s<=x/\(0<a*x%s->a*x/s+1<=x):=by
 have e:=zbm (a*x) s;have hm:a*x<=(s-1)*x:=za6 (by omega) hx;have hsx:(s-1)*x=s*x-x:=by rw[Int.sub_mul,Int.one_mul]
 refine⟨zbG (za9 ha hx) (by omega),Int.ediv_le_of_le_mul (by omega) (by rw[zbl x s];omega),fun h=> ?_⟩;have:s*(a*x/s)<s*x:=by omega
 have:=Int.lt_of_mul_lt_mul_left this (by omega);omega
theorem Gp {a:Int} {l:LI0} (ha:0<=a) (hok:o7 l=true):(dw a l).sum=min a l.sum/\∀i,i<l.length->0<=(dw a l).getD i 0/\(dw a l).getD i 0<=l.getD i 0:=by
 obtain⟨hb,hs,hs2⟩:=nH hok
 by_cases h:l.sum<=a
 . rw[Nz hok (by omega)];exact⟨by omega,fun i hi=>⟨(hb _ (mb hi)).1,zcb _⟩⟩
 . obtain⟨h1,h2,_⟩:=Nh ha hok (by omega);refine⟨by omega,fun i hi=> ?_⟩;have hx:=hb _ (mb hi);have:=U2 (a:=a) (s:=l.sum) ha (by omega) hx.1;rcases h2 i hi with h|⟨h,h'⟩<;>omega
def bY:List Bool->LI0->LI0
 |[],_=>[]
 |false::ms,l=>0::bY ms l
 |true::ms,l=>l.headD 0::bY ms l.tail
def lQ:List Bool->Nat->Nat
 |[],_=>0
 |false::ms,i=>lQ ms i+1
 |true::_,0=>0
 |true::ms,i+1=>lQ ms i+1
def bZ:List Bool->Nat
 |[]=>0
 |false::ms=>bZ ms
 |true::ms=>bZ ms+1
theorem nJ:∀(ms:List Bool) (l:LI0),(bY ms l).length=ms.length
 |[],_=>rfl
 |false::ms,l=>by simp[bY,nJ ms l]
 |true::ms,l=>by simp[bY,nJ ms l.tail]
theorem yd:∀(ms:List Bool) (i:Nat),i<bZ ms->lQ ms i<ms.length
 |[],i,h=>by simp[bZ]at h
 |false::ms,i,h=>by have:=yd ms i h;simp[lQ];omega
 |true::ms,0,_=>by simp[lQ]
 |true::ms,i+1,h=>by have:=yd ms i (by simpa[bZ]using h);simp[lQ];omega
theorem uU:∀(ms:List Bool) (i j:Nat),i<j->j<bZ ms->lQ ms i<lQ ms j
 |[],i,j,_,h=>by simp[bZ]at h
 |false::ms,i,j,h,h2=>by have:=uU ms i j h h2;simp[lQ];omega
 |true::ms,0,j+1,_,_=>by simp[lQ]
 |true::ms,i+1,j+1,h,h2=>by have:=uU ms i j (by omega) (by simpa[bZ]using h2);simp[lQ];omega
theorem jW:∀(ms:List Bool) (l:LI0) (i:Nat),l.length=bZ ms->i<bZ ms->(bY ms l).getD (lQ ms i) 0=l.getD i 0
 |[],l,i,_,h=>by simp[bZ]at h
 |false::ms,l,i,h,h2=>by simp only[bY,lQ,zaE];exact jW ms l i h h2
 |true::ms,[],i,h,_=>by simp[bZ]at h
 |true::ms,x::l,0,h,_=>by simp[bY,lQ]
 |true::ms,x::l,i+1,h,h2=>by
  simp only[bY,lQ,zaE,List.tail_cons];exact jW ms l i (by simpa[bZ]using h) (by simpa[bZ]using h2)
theorem sQ:∀(ms:List Bool) (l:LI0) (i:Nat) (v:Int),l.length=bZ ms->i<bZ ms->(bY ms l).set (lQ ms i) v=bY ms (l.set i v)
 |[],l,i,v,_,h=>by simp[bZ]at h
 |false::ms,l,i,v,h,h2=>by simp only[bY,lQ,zbR];rw[sQ ms l i v h h2]
 |true::ms,[],i,v,h,_=>by simp[bZ]at h
 |true::ms,x::l,0,v,h,_=>by simp[bY,lQ]
 |true::ms,x::l,i+1,v,h,h2=>by
  simp only[bY,lQ,zbR,List.tail_cons,List.headD_cons];rw[sQ ms l i v (by simpa[bZ]using h) (by simpa[bZ]using h2)]
theorem xE:∀(ms:List Bool) (p:Nat),p<ms.length->(∃i,i<bZ ms/\p=lQ ms i)\/∀l,(bY ms l).getD p 0=0
 |[],p,h=>by simp at h
 |false::ms,0,_=> .inr fun l=>by simp[bY]
 |true::ms,0,_=> .inl ⟨0,by simp[bZ],by simp[lQ]⟩
 |false::ms,p+1,h=>by
  rcases xE ms p (by simpa using h)with⟨i,h1,h2⟩|h2
  . exact .inl ⟨i,h1,by simp[lQ,h2]⟩
  . exact .inr fun l=>by simp only[bY,zaE];exact h2 l
 |true::ms,p+1,h=>by
  rcases xE ms p (by simpa using h)with⟨i,h1,h2⟩|h2
  . exact .inl ⟨i+1,by simp[bZ,h1],by simp[lQ,h2]⟩
  . exact .inr fun l=>by simp only[bY,zaE];exact h2 _
theorem G1 {l:LI0} {b:Nat} (hb:b<l.length) (h1:∀j,j<l.length->l.getD j 0<=l.getD b 0) (h2:∀j,j<b->l.getD j 0<l.getD b 0):ff l=b:=by
 have hne:l≠[]:=by rintro rfl;simp at hb
 obtain⟨m1,m2⟩:=oA hne;have hB:=nP hne;rcases Nat.lt_trichotomy (ff l) b with h|h|h
 . have:=h2 _ h;have:=m1 b hb;omega
 . exact h
 . have:=m2 _ h;have:=h1 _ hB;omega
theorem HW (ms:List Bool) (l:LI0) (hl:l.length=bZ ms) (hp:0<l.getD (ff l) 0):ff (bY ms l)=lQ ms (ff l):=by
 have hne:l≠[]:=by rintro rfl;simp at hp
 obtain⟨m1,m2⟩:=oA hne;have hB:=nP hne;rw[hl]at hB;refine G1 (by rw[nJ];exact yd ms _ hB) (fun j hj=> ?_) (fun j hj=> ?_)
 . rw[jW ms l _ hl hB];rw[nJ]at hj;rcases xE ms j hj with⟨i,h1,rfl⟩|h2
   . rw[jW ms l i hl h1];exact m1 i (by omega)
   . rw[h2];omega
 . rw[jW ms l _ hl hB];have hj2:j<ms.length:=Nat.lt_trans hj (yd ms _ hB);rcases xE ms j hj2 with⟨i,h1,rfl⟩|h2
   . rw[jW ms l i hl h1];refine m2 i ?_
     rcases Nat.lt_trichotomy i (ff l)with h|h|h
     . exact h
     . subst h;omega
     . have:=uU ms _ _ h h1;omega
   . rw[h2];exact hp
theorem CI {s:Int} (hs:0<s) (ms:List Bool):∀(k:Nat) (o l:LI0),o.length=bZ ms->l.length=bZ ms->(∀x∈l,0<=x/\x<s)->s*(k:Int)<=l.sum->
 jF 0 k (bY ms o) (bY ms l)=bY ms (jF 0 k o l)
 |0,o,l,_,_,_,_=>rfl
 |k+1,o,l,ho,hl,hb,hk=>by
  have e1:s*((k+1:Nat):Int)=s*k+s:=by rw[zaL,zce];simp
  rw[e1]at hk;have hk0:0<=s*(k:Int):=za9 (by omega) (by omega);have hne:l≠[]:=by rintro rfl;simp at hk;omega
  have hB:=nP hne;obtain⟨hm,hf⟩:=oA hne;have qY:0<l.getD (ff l) 0:=by
   rcases Int.lt_or_le 0 (l.getD (ff l) 0)with h|h
   . exact h
   . have:=qp l (fun x hx=>by
      obtain⟨j,hj,rfl⟩:=tw hx;have:=hm j hj;omega)
     omega
  have KM:=hb _ (mb hB);have hs':=xV l (ff l) 0 hB;simp only[jF];rw[HW ms l hl qY,jW ms o _ ho (by omega),sQ ms o _ _ ho (by omega),sQ ms l _ _ hl (by omega)];refine CI hs ms k _ _ (by simpa using ho) (by simpa using hl) (fun x hx=> ?_) (by omega);rcases zbM hx with h|h
  . exact hb x h
  . omega
theorem tH (f:Int->Int) (h0:f 0=0):∀(ms:List Bool) (l:LI0),(bY ms l).map f=bY ms (l.map f)
 |[],_=>rfl
 |false::ms,l=>by simp[bY,h0,tH f h0 ms l]
 |true::ms,l=>by
  simp only[bY,zaS,tH f h0 ms l.tail];cases l with
  |nil=>simp[h0]
  |cons x l=>simp
theorem pW:∀(ms:List Bool) (l:LI0),l.length=bZ ms->(bY ms l).sum=l.sum
 |[],l,h=>by rw[zaB h];rfl
 |false::ms,l,h=>by simp[bY,pW ms l h]
 |true::ms,[],h=>by simp[bZ]at h
 |true::ms,x::l,h=>by simp[bY,pW ms l (by simpa[bZ]using h)]
theorem As:∀(ms:List Bool) (l:LI0) (y:Int),y∈bY ms l->y=0\/y∈l
 |[],_,y,h=>by simp[bY]at h
 |false::ms,l,y,h=>by
  simp only[bY,zaN]at h;rcases h with h|h
  . exact .inl h
  . exact As ms l y h
 |true::ms,l,y,h=>by
  simp only[bY,zaN]at h;rcases h with h|h
  . cases l with
    |nil=>exact .inl (by simpa using h)
    |cons x l=>exact .inr (by simp at h;simp[h])
  . rcases As ms l.tail y h with h|h
    . exact .inl h
    . exact .inr (List.mem_of_mem_tail h)
theorem M7 (ms:List Bool) (n:Int) (l:LI0) (hl:l.length=bZ ms) (b:Int) (hb0:0<=b) (hb:∀x∈l,0<=x/\x<=b) (h4:ms.length*b<=1152921504606846976):
 dw n (bY ms l)=bY ms (dw n l):=by
 have hlm:bZ ms<=ms.length:=by
  clear hl h4
  induction ms with
  |nil=>simp[bZ]
  |cons c ms ih=>cases c<;>simp[bZ]<;>omega
 have hlb:(l.length:Int)*b<=ms.length*b:=za6 (by omega) hb0;obtain⟨s1,o1⟩:=yL hb0 hb (by omega);have hb2:∀x∈bY ms l,0<=x/\x<=b:=fun x hx=>by
  rcases As ms l x hx with h|h
  . omega
  . exact hb x h
 obtain⟨s2,o2⟩:=yL hb0 hb2 (by rw[nJ];exact h4);rw[pW ms l hl]at s2;obtain⟨hB,_,hs2⟩:=nH o1;have h0:=fK l (fun x hx=>(hb x hx).1);unfold dw;rw[o1,o2,s1,s2];simp only[zbr,zal]
 by_cases h:max n 0>=l.sum
 . rw[zaa h,zaw,zaw]
 . rw[zao h,zal,zal];have ef:cg (max n 0) l.sum (bY ms l)=bY ms (cg (max n 0) l.sum l):=tH (fun c=>max n 0*c/l.sum) (by simp) ms l;have er:lP (max n 0) l.sum (bY ms l)=bY ms (lP (max n 0) l.sum l):=tH (fun c=>max n 0*c%l.sum) (by simp) ms l;have lf:(cg (max n 0) l.sum l).length=bZ ms:=by simpa[cg]using hl
   have lr:(lP (max n 0) l.sum l).length=bZ ms:=by simpa[lP]using hl
   rw[ef,er,pW ms _ lf];have hr:∀x∈lP (max n 0) l.sum l,0<=x/\x<l.sum:=by
    intro y hy;obtain⟨x,hx,rfl⟩:=za7.1 hy;exact⟨zbz _ (by omega),zbk _ (by omega)⟩
   have Z9:=yY (max n 0) l.sum l;have hr0:=fK _ (fun x hx=>(hr x hx).1);have hk:0<=max n 0-(cg (max n 0) l.sum l).sum:=by
    have:l.sum*(cg (max n 0) l.sum l).sum<=l.sum*max n 0:=by rw[zbl l.sum (max n 0)];omega
    have:=Int.le_of_mul_le_mul_left this (by omega);omega
   exact CI (s:=l.sum) (by omega) ms _ _ _ lf lr hr (by rw[Int.toNat_of_nonneg hk,Int.mul_sub,zbl l.sum (max n 0)];omega)
theorem XK {n c p:Int} (h1:0<=n) (h2:n<p) (h3:p<=1152921504606846976) (h4:0<=c) (h5:c<=1152921504606846976):mdV n c p 0=n*c/p/\sn n c p 0=true/\0<=n*c/p/\n*c/p<=c:=by
 have h:n*c/p<=c:=by
  have:n*c<=p*c:=za6 (by omega) h4;exact Int.ediv_le_of_le_mul (by omega) (by rw[zbl c p];exact this)
 have ok:sn n c p 0=true:=by rw[L6 h1 (by omega) h4 h5 (by omega) h3 (by omega) (by omega),Xq];simp;omega
 exact⟨by unfold mdV;rw[ok,Xq];rfl,ok,zbG (za9 h1 h4) (by omega),h⟩
theorem Tz {n c s q:Int} (hq:q=n*c/s) (h1:0<=n) (h2:0<s) (h3:s<=1152921504606846976) (h4:0<=c):
 tE (tE (tE n*tE c)-tE (tE q*tE s))=n*c%s:=by
 show IntKind.u64.wrap (IntKind.u64.wrap (IntKind.u64.wrap n*IntKind.u64.wrap c)-IntKind.u64.wrap (IntKind.u64.wrap q*IntKind.u64.wrap s))=n*c%s;simp only[pL];rw[<-Int.mul_emod,<-Int.mul_emod,<-Int.sub_emod];have e:=zbm (n*c) s;have a:=zbz (n*c) (show s≠0 by omega);have b:=zbk (n*c) h2;rw[<-hq]at e;rw[show n*c-q*s=n*c%s by rw[zbl q s];omega];exact Int.emod_eq_of_lt a (by omega)
theorem F6 {α:Type} (pre done:List α) (x y:α) (rest:List α) (h:done.length=pre.length):List.set (done++x::rest) pre.length y=done++y::rest:=by rw[<-h];simp
def YJ:aA:=⟨VI.tab,197,⟨[.ints .i64],[],0⟩,⟨[.z0,.bool],[],0⟩,[]⟩
abbrev Fh:Type:=Int × LI0 × Int × Int
def xF (m:Nat) (k:Fh->OU0):Fh->OU0:=fun(a0,a1,a2,a3)=>
 bif decide (a3<a2)then
 chk (inb a3 a1.length)<|
 chk (decide (a3.toNat<a1.length))<|
 bif (decide ((a1.getD a3.toNat 0)<0))then
 some ([.i 0,.b false])
 else
 bif (decide ((a1.getD a3.toNat 0)>(w64 (1152921504606846976-a0))))then
 some ([.i 0,.b false])
 else
 k ((w64 (a0+(a1.getD a3.toNat 0))),a1,a2,(w64 (a3+1)))
 else
 some ([.i a0,.b true])
def uQ (m:Nat):Nat->Fh->OU0:=aX (xF m)
theorem vR (m:Nat) (n:Nat):uQ m (n+1)=xF m (uQ m n):=rfl
def Jg (F:Fh->OU0):aQ:=⟨[.lp [0,1,0,1,1],.blk 0,.code [1,1,1]],⟨frm 26 [(4,.z0),(7,.ints .i64),(8,.z0),(9,.z0)],[],0⟩,onU F⟩
theorem ZI (m:Nat):∀n,HO YJ (Jg (uQ m n)):=an ae VI.right (fun k=>[Jg k]) (fun k h=>(aI h az)) fun k a=>by kernel_rfl
def t197 (m:Nat):LI0->OU0:=fun a0=>
 uQ m m (0,a0,(a0.length:Int),0)
theorem VZ (m:Nat):∀(rest pre:LI0) (s:Int) (n:Nat),rest.length<n->0<=s->s<=1152921504606846976->(pre++rest).length<1099511627776->
 uQ m n (s,pre++rest,((pre++rest).length:Int),(pre.length:Int))=some [.i (sR rest s).1,.b (sR rest s).2]:=by
 intro rest
 induction rest with
 |nil=>
  intro pre s n hn h1 h2 h3;obtain⟨n,rfl⟩:=ah n (by simp at hn;omega);rw[vR];unfold xF;dsimp only;simp[ay,sR]
 |cons x rest ih=>
  intro pre s n hn h1 h2 h3;obtain⟨n,rfl⟩:=ah n (by simp at hn;omega);simp only[zab,zac]at h3 hn;rw[vR];unfold xF;dsimp only;simp only[sR]
  by_cases c1:x<0
  . rw[zaa c1,Bool.true_or,zaw];simp(disch:=omega) only[TRa,TRi,aa,LNl,LNi,zad,bu]
  . by_cases c2:x>1152921504606846976-s
    . rw[zaa c2,Bool.or_true,zaw];simp(disch:=omega) only[TRa,TRi,aa,LNl,LNi,zad,bu]
    . rw[zao c1,zao c2,zcj,zal];have:=ih (pre++[x]) (s+x) n (by omega) (by omega) (by omega) (by simp;omega);simp(disch:=omega) only[TRa,TRi,aa,LNl,LNi,zad,bu];simp only[LNl,LNi,zad]at this⊢;exact this
def f197:LI0->Bool × List Un:=fun a0=>(decide (a0.length<1099511627776),[.i (kA a0),.b (o7 a0)])
theorem SC:ER 197 (mkE YJ.en YJ.ex f197):=ak ae VI.right (fun m=>[Jg (uQ m m)]) (t:=t197) (by kernel_rfl) (fun m=>(aI (ZI m m) az)) (fun m a=>by kernel_rfl) fun a0 hc=>by
 dsimp only[f197]at hc⊢;exact⟨a0.length+1,VZ _ a0 [] 0 _ (by omega) (by omega) (by omega) (by simpa using zaj hc)⟩
def TQ:TB:=VI.ad SC
def XL:aA:=⟨TQ.tab,234,⟨[.z0,.z0,.ints .i64],[],0⟩,⟨[.buf 0 1,.buf 1 1],[.ints .i64,.ints .u64],0⟩,[]⟩
abbrev EU:Type:=Int × Int × LI0 × Int × Int × LI0 × LI0
def yq (m:Nat) (k:EU->OU0):EU->OU0:=fun(a0,a1,a2,a3,a4,a5,a6)=>
 bif decide (a4<a3)then
 chk (inb a4 a2.length)<|
 chk (decide (a4.toNat<a2.length))<|
 chk (inb a4 a5.length)<|
 chk (decide (a4.toNat<a5.length))<|
 lt ((List.set a5 a4.toNat (mdV a0 (a2.getD a4.toNat 0) a1 0)):LI0) fun l5=>
 chk (inb a4 l5.length)<|
 chk (decide (a4.toNat<l5.length))<|
 chk (inb a4 a6.length)<|
 chk (decide (a4.toNat<a6.length))<|
 k (a0,a1,a2,a3,(w64 (a4+1)),l5,(List.set a6 a4.toNat (tE ((tE ((tE a0)*(tE (a2.getD a4.toNat 0))))-(tE ((tE (l5.getD a4.toNat 0))*(tE a1)))))))
 else
 some ([.l a5,.l a6])
def uf (m:Nat):Nat->EU->OU0:=aX (yq m)
theorem w8 (m:Nat) (n:Nat):uf m (n+1)=yq m (uf m n):=rfl
def KD (F:EU->OU0):aQ:=⟨[.lp [0,1,0,1,1],.blk 0,.code [1,1,1]],⟨frm 55 [(0,.z0),(1,.z0),(8,.buf 0 1),(9,.buf 1 1),(18,.ints .i64),(19,.z0),(20,.z0)],[.ints .i64,.ints .u64],0⟩,onU F⟩
theorem XM (m:Nat):∀n,HO XL (KD (uf m n)):=an ae TQ.right (fun k=>[KD k]) (fun k h=>(aI h az)) fun k a=>by kernel_rfl
def t234 (m:Nat):Int × Int × LI0->OU0:=fun(a0,a1,a2)=>
 chk (oj (a2.length:Int) 8)<|
 chk (oj (a2.length:Int) 8)<|
 uf m m (a0,a1,a2,(a2.length:Int),0,(List.replicate a2.length 0),(List.replicate a2.length 0))
theorem YD (m:Nat) (a s:Int) (h1:0<=a) (h2:a<s) (h3:s<=1152921504606846976):∀(rest pre d1 d2:LI0) (n:Nat),rest.length<n->d1.length=pre.length->d2.length=pre.length->(∀x∈rest,0<=x/\x<=1152921504606846976)->(pre++rest).length<1099511627776->
 uf m n (a,s,pre++rest,((pre++rest).length:Int),(pre.length:Int),d1++List.replicate rest.length 0,d2++List.replicate rest.length 0)=some [.l (d1++cg a s rest),.l (d2++lP a s rest)]:=by
 intro rest
 induction rest with
 |nil=>
  intro pre d1 d2 n hn p1 p2 hb h4;obtain⟨n,rfl⟩:=ah n (by simp at hn;omega);rw[w8];unfold yq;dsimp only;simp[ay,cg,lP]
 |cons x rest ih=>
  intro pre d1 d2 n hn p1 p2 hb h4;obtain⟨n,rfl⟩:=ah n (by simp at hn;omega);simp only[zab,zac]at h4 hn;rw[w8];unfold yq;dsimp only;simp only[zac,zbF];have hx:=hb x (by simp);obtain⟨e1,_,_,_⟩:=XK h1 h2 h3 hx.1 hx.2;have:=ih (pre++[x]) (d1++[a*x/s]) (d2++[a*x%s]) n (by omega) (by simp;omega) (by simp;omega) (fun y hy=>hb y (by simp[hy])) (by simp;omega);have le:=Tz (n:=a) (c:=x) (s:=s) rfl h1 (by omega) h3 hx.1;simp(disch:=omega) only[TRa,TRi,aa,LNl,LNi,zad,bu,e1,F6 _ _ _ _ _ p1,uX _ _ _ _ _ p1,F6 _ _ _ _ _ p2];rw[le];simp only[LNl,LNi,zad]at this⊢;refine this.trans ?_
  simp[cg,lP]
def f234:Int × Int × LI0->Bool × List Un:=fun(a0,a1,a2)=>(decide (0<=a0/\a0<a1/\a1<=1152921504606846976/\a2.length<1099511627776)&&AF a2,[.l (cg a0 a1 a2),.l (lP a0 a1 a2)])
theorem Oz:ER 234 (mkE XL.en XL.ex f234):=ak ae TQ.right (fun m=>[KD (uf m m)]) (t:=t234) (by kernel_rfl) (fun m=>(aI (XM m m) az)) (fun m a=>by kernel_rfl) fun(a0,a1,a2) hc=>by
 dsimp only[f234]at hc⊢;simp only[zae,zag,Ap]at hc;obtain⟨⟨h1,h2,h3,h4⟩,hb⟩:=hc;refine⟨a2.length+1, ?_⟩;unfold t234;simp(disch:=omega) only[TRa,TRi,aa];exact YD (a2.length+1) a0 a1 h1 h2 h3 a2 [] [] [] (a2.length+1) (by omega) rfl rfl hb (by simpa using h4)
def Od:TB:=TQ.ad Oz
def Ns:aA:=⟨Od.tab,229,⟨[.z0,.ints .i64],[],0⟩,⟨[.buf 0 1],[.ints .i64],0⟩,[]⟩
abbrev Ff:Type:=Int × Int × Int × Int × LI0 × LI0
abbrev oV:Type:=Int × LI0 × LI0
abbrev EA:Type:=Int × Int × Int × LI0 × LI0
def xU (m:Nat) (k1:oV->OU0) (k:Ff->OU0):Ff->OU0:=fun(a0,a1,a2,a3,a4,a5)=>
 bif decide (a3<a2)then
 chk (inb a3 a5.length)<|
 chk (decide (a3.toNat<a5.length))<|
 chk (inb a1 a5.length)<|
 chk (decide (a1.toNat<a5.length))<|
 bif (decide ((a5.getD a3.toNat 0)>(a5.getD a1.toNat 0)))then
 k (a0,a3,a2,(w64 (a3+1)),a4,a5)
 else
 k (a0,a1,a2,(w64 (a3+1)),a4,a5)
 else
 chk (inb a1 a4.length)<|
 chk (decide (a1.toNat<a4.length))<|
 chk (inb a1 a4.length)<|
 chk (decide (a1.toNat<a4.length))<|
 chk (inb a1 a5.length)<|
 chk (decide (a1.toNat<a5.length))<|
 k1 ((w64 (a0-1)),(List.set a4 a1.toNat (w64 ((a4.getD a1.toNat 0)+1))),(List.set a5 a1.toNat 0))
def uA (m:Nat) (k1:oV->OU0):Nat->Ff->OU0:=aX (xU m k1)
theorem xg (m:Nat) (k1:oV->OU0) (n:Nat):uA m k1 (n+1)=xU m k1 (uA m k1 n):=rfl
def JV (F:Ff->OU0):aQ:=⟨[.lp [0,1,0,1,0,0,1,0,0,0,1,1,1,1,1,1,1,1],.blk 4,.code [1,1,0,0,1,0,0,0,1,1,1,1,1,1,1,1],.blk 3,.code [1,1,0,0,0,1,1,1,1,1,1,1,1],.lp [0,0,1,1,1,1,1,1,1,1],.blk 2,.code [1,1,1,1,1,1,1,1,1]],⟨frm 80 [(7,.buf 0 1),(8,.buf 1 1),(9,.z0),(12,.z0),(55,.z0),(56,.z0)],[.ints .i64,.ints .u64],0⟩,onU F⟩
def yy (m:Nat) (k:oV->OU0):oV->OU0:=fun(a0,a1,a2)=>
 bif decide (a0>0)then
 uA m k m (a0,0,(a2.length:Int),0,a1,a2)
 else
 some ([.l a1])
def pS (m:Nat):Nat->oV->OU0:=aX (yy m)
theorem v9 (m:Nat) (n:Nat):pS m (n+1)=yy m (pS m n):=rfl
def Ef (F:oV->OU0):aQ:=⟨[.lp [0,0,1,1,1,1,1,1,1,1],.blk 2,.code [1,1,1,1,1,1,1,1,1]],⟨frm 80 [(7,.buf 0 1),(8,.buf 1 1),(9,.z0)],[.ints .i64,.ints .u64],0⟩,onU F⟩
def yR (m:Nat) (k:EA->OU0):EA->OU0:=fun(a0,a1,a2,a3,a4)=>
 bif decide (a2<a1)then
 chk (inb a2 a3.length)<|
 chk (decide (a2.toNat<a3.length))<|
 k ((w64 (a0-(a3.getD a2.toNat 0))),a1,(w64 (a2+1)),a3,a4)
 else
 pS m m (a0,a3,a4)
def ue (m:Nat):Nat->EA->OU0:=aX (yR m)
theorem wS (m:Nat) (n:Nat):ue m (n+1)=yR m (ue m n):=rfl
def JP (F:EA->OU0):aQ:=⟨[.lp [0,1,0,1,1,1,1,1,1,1],.blk 0,.code [1,1,1,1,1,1,1,1]],⟨frm 80 [(7,.buf 0 1),(8,.buf 1 1),(9,.z0),(40,.buf 0 1),(41,.z0),(42,.z0)],[.ints .i64,.ints .u64],0⟩,onU F⟩
theorem X9 (m:Nat) (k1:oV->OU0) (h1:HO Ns (Ef k1)):∀n,HO Ns (JV (uA m k1 n)):=an ae Od.right (fun k=>[Ef k1,JV k]) (fun k h=>(aI h1 (aI h az))) fun k a=>by kernel_rfl
theorem Xh (m:Nat):∀n,HO Ns (Ef (pS m n)):=an ae Od.right (fun k=>[JV (uA m (k) m)]) (fun k h=>(aI (X9 m _ h m) az)) fun k a=>by kernel_rfl
theorem YN (m:Nat):∀n,HO Ns (JP (ue m n)):=an ae Od.right (fun k=>[JP k,Ef (pS m m)]) (fun k h=>(aI h (aI (Xh m m) az))) fun k a=>by kernel_rfl
def t229 (m:Nat):Int × LI0->OU0:=fun(a0,a1)=>
 chk (decide (a1.length<1099511627776))<|
 bif !(o7 a1)then
 chk (oj (a1.length:Int) 8)<|
 some ([.l (List.replicate a1.length 0)])
 else
 lt ((if a0<0 then 0 else a0):Int) fun x2=>
 bif decide (x2>=(kA a1))then
 chk (fits (0+a1.length) 8)<|
 some ([.l a1])
 else
 chk (decide (0<=x2/\x2<(kA a1)/\(kA a1)<=1152921504606846976/\a1.length<1099511627776)&&AF a1)<|
 lt ((cg x2 (kA a1) a1):LI0) fun l3=>
 ue m m (x2,(l3.length:Int),0,l3,(lP x2 (kA a1) a1))
theorem Pf (m:Nat) (k1:oV->OU0) (left:Int) (out lost:LI0) (h1:0<left) (h2:left<4611686018427387904) (hl:out.length=lost.length) (hs:lost.length<1099511627776)
 (hb:∀x∈out,0<=x/\x<4611686018427387904):∀(rest pre:LI0) (b n:Nat),rest.length<n->lost=pre++rest->b<lost.length->
 uA m k1 n (left,(b:Int),(lost.length:Int),(pre.length:Int),out,lost)=
  k1 (left-1,out.set (mK lost rest pre.length b) (out.getD (mK lost rest pre.length b) 0+1),lost.set (mK lost rest pre.length b) 0):=by
 intro rest
 induction rest with
 |nil=>
  intro pre b n hn he hlt;obtain⟨n,rfl⟩:=ah n (by simp at hn;omega);have hp:pre.length=lost.length:=by rw[he];simp
  have hm:=hb _ (mb (l:=out) (i:=b) (by omega));rw[xg];unfold xU;dsimp only;simp only[mK,zat];simp(disch:=omega) only[TRa,TRi,aa]
 |cons x rest ih=>
  intro pre b n hn he hlt;obtain⟨n,rfl⟩:=ah n (by simp at hn;omega);have hp:lost.length=pre.length+(rest.length+1):=by rw[he];simp
  have hg:lost.getD pre.length 0=x:=by rw[he];simp
  rw[xg];unfold xU;dsimp only;simp only[mK,zat,hg];have i1:=ih (pre++[x]) pre.length n (by simp at hn;omega) (by rw[he];simp) (by omega);have i2:=ih (pre++[x]) b n (by simp at hn;omega) (by rw[he];simp) hlt;simp only[zab,zac,zar,zaL,zaF,zad]at i1 i2
  by_cases c:x>lost.getD b 0
  . simp(disch:=omega) only[TRa,TRi,aa];exact i1
  . simp(disch:=omega) only[TRa,TRi,aa];exact i2
theorem OU (m:Nat):∀(k:Nat) (left:Int) (out lost:LI0) (n:Nat),left.toNat=k->k<n->left<4611686018427387904->out.length=lost.length->lost.length<1099511627776->lost.length<m->lost≠[]->(∀x∈out,0<=x/\x+left<4611686018427387904)->
 pS m n (left,out,lost)=some [.l (jF 0 k out lost)]:=by
 intro k
 induction k with
 |zero=>
  intro left out lost n hk hn h2 hl hs hm hne hb;obtain⟨n,rfl⟩:=ah n (by omega);rw[v9];unfold yy;dsimp only;simp only[jF];rw[ay (by omega)]
 |succ k ih=>
  intro left out lost n hk hn h2 hl hs hm hne hb;obtain⟨n,rfl⟩:=ah n (by omega);rw[v9];unfold yy;dsimp only;have hB:=nP hne;rw[aK (by omega)];have:=Pf m (pS m n) left out lost (by omega) h2 hl hs (fun x hx=>by have:=hb x hx;omega) lost [] 0 m hm rfl (List.length_pos_iff.2 hne);simp only[zar,Int.natCast_zero]at this;refine this.trans ?_
  have hq:=hb _ (mb (l:=out) (i:=ff lost) (by omega));rw[show mK lost lost 0 0=ff lost from rfl];refine ih _ _ _ _ (by omega) (by omega) (by omega) (by simp[hl]) (by simpa using hs) (by simpa using hm) (by intro h;simp at h;exact hne h) (fun x hx=> ?_);rcases zbM hx with h|h
  . have:=hb x h;omega
  . omega
theorem acF (m:Nat) (lost:LI0):∀(rest pre:LI0) (left:Int) (n:Nat),rest.length<n->(∀x∈rest,0<=x/\x<=1152921504606846976)-> -1152921504606846976<=left-rest.sum->left<=1152921504606846976->(pre++rest).length<1099511627776->
 ue m n (left,((pre++rest).length:Int),(pre.length:Int),pre++rest,lost)=pS m m (left-rest.sum,pre++rest,lost):=by
 intro rest
 induction rest with
 |nil=>
  intro pre left n hn hb h1 h2 h3;obtain⟨n,rfl⟩:=ah n (by simp at hn;omega);rw[wS];unfold yR;dsimp only;simp[ay]
 |cons x rest ih=>
  intro pre left n hn hb h1 h2 h3;obtain⟨n,rfl⟩:=ah n (by simp at hn;omega);simp only[zab,zac]at h3 hn;have hx:=hb x (by simp);have hs:=fK rest (fun y hy=>(hb y (by simp[hy])).1);rw[zbs]at h1⊢;rw[wS];unfold yR;dsimp only;have:=ih (pre++[x]) (left-x) n (by omega) (fun y hy=>hb y (by simp[hy])) (by omega) (by omega) (by simp;omega);rw[show left-(x+rest.sum)=left-x-rest.sum by omega];simp(disch:=omega) only[TRa,TRi,aa,LNl,LNi,zad,bu];simp only[LNl,LNi,zad]at this⊢;exact this
def f229:Int × LI0->Bool × List Un:=fun(a0,a1)=>(decide (a0<=9223372036854775807/\a1.length<1099511627776),[.l (dw a0 a1)])
theorem Q5:ER 229 (mkE Ns.en Ns.ex f229):=ak ae Od.right (fun m=>[JP (ue m m)]) (t:=t229) (by kernel_rfl) (fun m=>(aI (YN m m) az)) (fun m a=>by kernel_rfl) fun(a0,a1) hc=>by
 dsimp only[f229]at hc⊢;obtain⟨h1,h2⟩:=zaj hc;clear hc;refine⟨1152921504606846976+a1.length+2, ?_⟩;unfold t229 dw;dsimp only;rw[aJ h2];cases hok:o7 a1 with
 |false=>
  simp only[Bool.not_false,zaw];simp(disch:=omega) only[TRa,TRi,aa]
 |true=>
  simp only[zbr,zal];obtain⟨hb,hs,hs2⟩:=nH hok;simp only[lt_eq];rw[ob a0 0];generalize hn:max a0 0=a;have ha:0<=a:=by omega
  have hr:AF a1=true:=Ap.2 hb
  by_cases hge:a>=kA a1
  . simp only[show decide (a>=kA a1)=true by simpa using hge,zaw];simp(disch:=omega) only[TRa,TRi,aa,zaF]
  . simp only[show decide (a>=kA a1)=false by simpa using hge,zal];obtain⟨f1,f2,f3⟩:=DU (l:=a1) ha (show a<kA a1 by omega) hb;have hlf:(cg a (kA a1) a1).length=a1.length:=by simp[cg]
    have hlr:(lP a (kA a1) a1).length=a1.length:=by simp[lP]
    have hne:a1≠[]:=by rintro rfl;simp at hs;omega
    have e1:=acF (1152921504606846976+a1.length+2) (lP a (kA a1) a1) (cg a (kA a1) a1) [] a (1152921504606846976+a1.length+2) (by omega) f1 (by omega) (by omega) (by simp;omega);have e2:=OU (1152921504606846976+a1.length+2) _ (a-(cg a (kA a1) a1).sum) (cg a (kA a1) a1) (lP a (kA a1) a1) (1152921504606846976+a1.length+2) rfl (by omega) (by omega) (by omega) (by omega) (by omega)
     (by intro h;have:=zcm List.length h;rw[hlr]at this;exact hne (zaB this)) (fun x hx=>by have:=f1 x hx;omega)
    rw[hr,zbf];simp(disch:=omega) only[aJ];exact e1.trans e2
def Qb:TB:=Od.ad Q5
@[ext] structure bC where
 aD:Int
 fee:Int
 cf:Int
 ar:Int
 room:Int
instance : Uns bC := Uns.via (B := Int × Int × Int × Int × Int) (fun x => (x.aD, x.fee, x.cf, x.ar, x.room)) (fun x => match x with | (aD, fee, cf, ar, room) => ⟨aD, fee, cf, ar, room⟩) (fun _ => rfl)
def isN:Dat->Bool
 | .n _=>true
 | .r _=>false
def pj (k:Nat):Dat->Bool
 | .r l=>l.length==k&&l.all isN
 | .n _=>false
theorem Kn:∀{d:Dat},isN d=true->d= .n d.int
 | .n _,_=>rfl
 | .r _,h=>by cases h
theorem Iq {d:Dat} (h:pj 3 d=true):d= .r [.n (d.i 0),.n (d.i 1),.n (d.i 2)]:=by
 match d,h with
 | .r [a,b,c],h=>
  simp[pj]at h;obtain⟨h1,h2,h3⟩:=h;show Dat.r [a,b,c]= .r [.n a.int,.n b.int,.n c.int];rw[<-Kn h1,<-Kn h2,<-Kn h3]
 | .r [],h=>simp[pj]at h
 | .r [a],h=>simp[pj]at h
 | .r [a,b],h=>simp[pj]at h
 | .r (a::b::c::d::l),h=>simp[pj]at h
def nj (d:Dat):Bool:=pj 3 d&&decide (0<=d.i 1/\d.i 1<=1125899906842624/\0<=d.i 2/\d.i 2<=1125899906842624)
theorem cZ {d:Dat} (h:nj d=true):pj 3 d=true/\0<=d.i 1/\d.i 1<=1125899906842624/\0<=d.i 2/\d.i 2<=1125899906842624:=by
 simp only[nj,zae,zag]at h;exact h
def bk (c:LD0):Bool:=decide (c.length<=1000)&&c.all nj
theorem cr {c:LD0} (h:bk c=true):c.length<=1000/\∀d∈c,nj d=true:=by
 simp only[bk,zae,zag,zam]at h;exact h
theorem yU {c:LD0} (h1:c.length<=1000) (h2:∀d∈c,nj d=true):bk c=true:=by
 simp only[bk,zae,zag,zam];exact⟨h1,h2⟩
def cM (j:Nat) (x:Int) (d:Dat):Dat:=if j=1 then .r [.n (d.i 0),.n (d.i 1-x),.n (d.i 2)]else .r [.n (d.i 0),.n (d.i 1),.n (d.i 2-x)]
def cw (j:Nat):LI0->LD0->LD0
 |x::xs,d::c=>cM j x d::cw j xs c
 |_,_=>[]
def cd (at_ kind:Int):Int->LI0->LD0
 |_,[]=>[]
 |i,x::xs=>(if 0<x then[.r [.n at_,.n kind,.n i,.n x]]else[])++cd at_ kind (i+1) xs
def nf (at_ kind n:Int):LD0:=if 0<n then[.r [.n at_,.n kind,.n (-1),.n n]]else[]
def aB (sel:Dat->Bool) (j:Nat) (n:Int) (c:LD0):LI0:=dw n (c.map fun d=>bif sel d then d.i j else 0)
def aR (r:Int) (d:Dat):Bool:=d.i 0==r
def bR (at_ kind:Int):Nat->Int->Int->LD0->LD0 × LD0 × Int
 |0,_,_,c=>(c,[],0)
 |k+1,r,n,c=>
  ((bR at_ kind k (r+1) (n-(aB (aR r) 1 n c).sum) (cw 1 (aB (aR r) 1 n c) c)).1,
   cd at_ kind 0 (aB (aR r) 1 n c)++(bR at_ kind k (r+1) (n-(aB (aR r) 1 n c).sum) (cw 1 (aB (aR r) 1 n c) c)).2.1,
   (aB (aR r) 1 n c).sum+(bR at_ kind k (r+1) (n-(aB (aR r) 1 n c).sum) (cw 1 (aB (aR r) 1 n c) c)).2.2)
def fq (at_ kind rank:Int) (x:bC) (c:LD0):bC × LD0 × LD0:=
 if kind=1 then({x with aD:=x.aD-min x.fee x.aD,fee:=x.fee-min x.fee x.aD},c,nf at_ kind (min x.fee x.aD))
 else if kind=2 then({x with aD:=x.aD-min x.cf x.aD,cf:=x.cf-min x.cf x.aD},c,nf at_ kind (min x.cf x.aD))
 else if kind=6 then({x with aD:=x.aD-min x.room x.aD,room:=x.room-min x.room x.aD},c,nf at_ kind (min x.room x.aD))
 else if kind=3 then({x with aD:=x.aD-(aB (aR rank) 2 x.aD c).sum},cw 2 (aB (aR rank) 2 x.aD c) c,cd at_ kind 0 (aB (aR rank) 2 x.aD c))
 else if kind=4 then({x with aD:=x.aD-(bR at_ kind 8 0 (min x.ar x.aD) c).2.2,ar:=x.ar-(bR at_ kind 8 0 (min x.ar x.aD) c).2.2},(bR at_ kind 8 0 (min x.ar x.aD) c).1,(bR at_ kind 8 0 (min x.ar x.aD) c).2.1)
 else if kind=5 then({x with aD:=x.aD-(aB (fun _=>true) 1 (min x.ar x.aD) c).sum,ar:=x.ar-(aB (fun _=>true) 1 (min x.ar x.aD) c).sum},cw 1 (aB (fun _=>true) 1 (min x.ar x.aD) c) c,cd at_ kind 0 (aB (fun _=>true) 1 (min x.ar x.aD) c))
 else if kind=7 then({x with aD:=x.aD-(bR at_ kind 8 0 x.aD c).2.2},(bR at_ kind 8 0 x.aD c).1,(bR at_ kind 8 0 x.aD c).2.1)
 else(x,c,[])
def fT:Int->LD0->bC->LD0->bC × LD0 × LD0
 |_,[],x,c=>(x,c,[])
 |at_,s::l,x,c=>((fT (at_+1) l (fq at_ (s.i 0) (s.i 1) x c).1 (fq at_ (s.i 0) (s.i 1) x c).2.1).1,(fT (at_+1) l (fq at_ (s.i 0) (s.i 1) x c).1 (fq at_ (s.i 0) (s.i 1) x c).2.1).2.1,(fq at_ (s.i 0) (s.i 1) x c).2.2++(fT (at_+1) l (fq at_ (s.i 0) (s.i 1) x c).1 (fq at_ (s.i 0) (s.i 1) x c).2.1).2.2)
def su (x:bC):Bool:=decide ((0<=x.aD/\x.aD<=1152921504606846976)/\(0<=x.fee/\x.fee<=1152921504606846976)/\(0<=x.cf/\x.cf<=1152921504606846976)/\(0<=x.ar/\x.ar<=1152921504606846976)/\(0<=x.room/\x.room<=1152921504606846976))
theorem yj {x:bC} (h:su x=true):(0<=x.aD/\x.aD<=1152921504606846976)/\(0<=x.fee/\x.fee<=1152921504606846976)/\(0<=x.cf/\x.cf<=1152921504606846976)/\(0<=x.ar/\x.ar<=1152921504606846976)/\(0<=x.room/\x.room<=1152921504606846976):=zaj h
def MK (sel:Dat->Bool) (j:Nat) (c:LD0):Int:=(c.map fun d=>bif sel d then d.i j else 0).sum
theorem qh {c:LD0} (sel:Dat->Bool) {j:Nat} (hj:j=1\/j=2) (h:bk c=true):(∀x∈(c.map fun d=>bif sel d then d.i j else 0),0<=x/\x<=1125899906842624)/\o7 (c.map fun d=>bif sel d then d.i j else 0)=true/\0<=MK sel j c/\MK sel j c<=1125899906842624*c.length:=by
 obtain⟨h1,h2⟩:=cr h;have hb:∀x∈(c.map fun d=>bif sel d then d.i j else 0),0<=x/\x<=1125899906842624:=by
  intro x hx;obtain⟨d,hd,rfl⟩:=za7.1 hx;have:=cZ (h2 d hd);cases sel d
  . simp only[zal];omega
  . rcases hj with rfl|rfl<;>simp only[zaw]<;>omega
 have hl:(c.map fun d=>bif sel d then d.i j else 0).length=c.length:=by simp
 have hm:((c.map fun d=>bif sel d then d.i j else 0).length:Int)*1125899906842624<=1152921504606846976:=by rw[hl];omega
 have hs:=uG _ 1125899906842624 (by decide) hb;rw[hl]at hs;exact⟨hb,(yL (by decide) hb hm).2,hs.1,by unfold MK;omega⟩
theorem HC {n:Int} {l:LI0} (h:n<=0):dw n l=dw 0 l:=by
 unfold dw;rw[show max n 0=max 0 0 by omega]
theorem dQ {c:LD0} (sel:Dat->Bool) {j:Nat} (hj:j=1\/j=2) (n:Int) (h:bk c=true):(aB sel j n c).length=c.length/\(aB sel j n c).sum=min (max n 0) (MK sel j c)/\∀i,i<c.length->0<=(aB sel j n c).getD i 0/\(aB sel j n c).getD i 0<=bif sel (ai c i)then(ai c i).i j else 0:=by
 obtain⟨hb,ho,hw0,hw1⟩:=qh sel hj h;have e:aB sel j n c=dw (max n 0) (c.map fun d=>bif sel d then d.i j else 0):=by
  by_cases hn:0<=n
  . rw[show max n 0=n by omega];rfl
  . rw[show max n 0=0 by omega];exact HC (by omega)
 rw[e];obtain⟨h1,h2⟩:=Gp (a:=max n 0) (by omega) ho;refine⟨by rw[zM];simp,h1,fun i hi=> ?_⟩;have:=h2 i (by simpa using hi)
 rwa [show(c.map fun d=>bif sel d then d.i j else 0).getD i 0=bif sel (ai c i)then(ai c i).i j else 0 by simp[zaf,hi,ai]]at this
theorem pI (j:Nat):∀(xs:LI0) (c:LD0),xs.length=c.length->(cw j xs c).length=c.length
 |[],[],_=>rfl
 |x::xs,d::c,h=>by simp[cw,pI j xs c (by simpa using h)]
 |[],_::_,h=>by simp at h
 |_::_,[],h=>by simp at h
theorem pJ (j:Nat):∀(xs:LI0) (c:LD0) (i:Nat),xs.length=c.length->i<c.length->ai (cw j xs c) i=cM j (xs.getD i 0) (ai c i)
 |[],[],i,_,h=>by simp at h
 |x::xs,d::c,0,_,_=>rfl
 |x::xs,d::c,i+1,h,hi=>pJ j xs c i (by simpa using h) (by simpa using hi)
 |[],_::_,_,h,_=>by simp at h
 |_::_,[],_,h,_=>by simp at h
theorem pV {l:LD0} {d:Dat} (h:d∈l):∃i,i<l.length/\ai l i=d:=by
 obtain⟨i,hi,rfl⟩:=List.getElem_of_mem h;exact⟨i,hi,kJ hi⟩
theorem mN {l:LD0} {i:Nat} (h:i<l.length):ai l i∈l:=by rw[kJ h];exact zbw h
theorem Gn {d:Dat} {j:Nat} {x:Int} (hj:j=1\/j=2) (h:nj d=true) (h0:0<=x) (h1:x<=d.i j):nj (cM j x d)=true:=by
 have:=cZ h;rcases hj with rfl|rfl
 . simp only[cM,zbh,nj,zae,zag,fQ,jK];exact⟨rfl,by omega⟩
 . simp only[cM,show ¬(2:Nat)=1 by decide,zbp,nj,zae,zag,fQ,jK];exact⟨rfl,by omega⟩
theorem qP {c:LD0} (sel:Dat->Bool) {j:Nat} (hj:j=1\/j=2) (n:Int) (h:bk c=true):bk (cw j (aB sel j n c) c)=true/\(cw j (aB sel j n c) c).length=c.length:=by
 obtain⟨l1,l2,l3⟩:=dQ sel hj n h;obtain⟨h1,h2⟩:=cr h;have hl:=pI j _ c l1;refine⟨yU (by omega) fun d hd=> ?_,hl⟩;obtain⟨i,hi,rfl⟩:=pV hd;rw[hl]at hi;rw[pJ j _ c i l1 hi];have:=l3 i hi;have hg:=h2 _ (mN hi);refine Gn hj hg this.1 ?_
 have h4:=cZ hg;cases hs:sel (ai c i)<;>rw[hs]at this
 . rcases hj with rfl|rfl<;>simp only[zal]at this<;>omega
 . exact this.2
theorem j4 (a k:Int):∀(xs:LI0) (i:Int),(cd a k i xs).length<=xs.length
 |[],i=>by simp[cd]
 |x::xs,i=>by
  have:=j4 a k xs (i+1);simp only[cd,zab,zac]
  split<;>simp<;>omega
theorem A1 (a k n:Int):(nf a k n).length<=1:=by unfold nf;split<;>simp
theorem zB (a kd:Int):∀(k:Nat) (r n:Int) (c:LD0),bk c=true->bk (bR a kd k r n c).1=true/\(bR a kd k r n c).1.length=c.length/\(bR a kd k r n c).2.1.length<=k*c.length/\0<=(bR a kd k r n c).2.2/\(bR a kd k r n c).2.2<=max n 0
 |0,r,n,c,h=>⟨h,rfl,by simp[bR],by simp[bR],by simp only[bR];omega⟩
 |k+1,r,n,c,h=>by
  obtain⟨g1,g2⟩:=qP (aR r) (j:=1) (.inl rfl) n h;obtain⟨l1,l2,l3⟩:=dQ (aR r) (j:=1) (.inl rfl) n h;obtain⟨_,_,w0,w1⟩:=qh (aR r) (j:=1) (.inl rfl) h;obtain⟨i1,i2,i3,i4,i5⟩:=zB a kd k (r+1) (n-(aB (aR r) 1 n c).sum) _ g1;have hp:=j4 a kd (aB (aR r) 1 n c) 0;simp only[bR];refine⟨i1,by omega, ?_,by omega,by omega⟩;rw[zab,za2];rw[g2]at i3;omega
theorem s8 (a kd rk:Int) {x:bC} {c:LD0} (hx:su x=true) (h:bk c=true):su (fq a kd rk x c).1=true/\bk (fq a kd rk x c).2.1=true/\(fq a kd rk x c).2.1.length=c.length/\(fq a kd rk x c).2.2.length<=8000:=by
 have hx':=yj hx;have hc:=(cr h).1;have p1:=A1 a kd;have s2:=fun sel j hj n=>dQ (c:=c) sel (j:=j) hj n h
 have w2:=fun sel j hj=>(qh (c:=c) sel (j:=j) hj h).2.2
 have g2:=fun sel j hj n=>qP (c:=c) sel (j:=j) hj n h
 have r2:=fun n=>zB a kd 8 0 n c h
 unfold fq
 by_cases k1:kd=1
 . rw[if_pos k1];exact⟨zaa (by simp only;omega),h,rfl,by have:=p1 (min x.fee x.aD);simp only;omega⟩
 rw[if_neg k1]
 by_cases k1:kd=2
 . rw[if_pos k1];exact⟨zaa (by simp only;omega),h,rfl,by have:=p1 (min x.cf x.aD);simp only;omega⟩
 rw[if_neg k1]
 by_cases k1:kd=6
 . rw[if_pos k1];exact⟨zaa (by simp only;omega),h,rfl,by have:=p1 (min x.room x.aD);simp only;omega⟩
 rw[if_neg k1]
 by_cases k1:kd=3
 . rw[if_pos k1];have q1:=s2 (aR rk) 2 (.inr rfl) x.aD;have q2:=w2 (aR rk) 2 (.inr rfl);have q3:=g2 (aR rk) 2 (.inr rfl) x.aD;have q4:=j4 a kd (aB (aR rk) 2 x.aD c) 0;exact⟨zaa (by simp only;omega),q3.1,q3.2,by simp only;omega⟩
 rw[if_neg k1]
 by_cases k1:kd=4
 . rw[if_pos k1];have q:=r2 (min x.ar x.aD);generalize bR a kd 8 0 (min x.ar x.aD) c=y at*
   exact⟨zaa (by simp only;omega),q.1,q.2.1,by simp only;omega⟩
 rw[if_neg k1]
 by_cases k1:kd=5
 . rw[if_pos k1];have q1:=s2 (fun _=>true) 1 (.inl rfl) (min x.ar x.aD);have q2:=w2 (fun _=>true) 1 (.inl rfl);have q3:=g2 (fun _=>true) 1 (.inl rfl) (min x.ar x.aD);have q4:=j4 a kd (aB (fun _=>true) 1 (min x.ar x.aD) c) 0;exact⟨zaa (by simp only;omega),q3.1,q3.2,by simp only;omega⟩
 rw[if_neg k1]
 by_cases k1:kd=7
 . rw[if_pos k1];have q:=r2 x.aD;generalize bR a kd 8 0 x.aD c=y at*
   exact⟨zaa (by simp only;omega),q.1,q.2.1,by simp only;omega⟩
 rw[if_neg k1];exact⟨hx,h,rfl,by simp⟩
theorem Mz:∀(l:LD0) (a:Int) (x:bC) (c:LD0),su x=true->bk c=true->su (fT a l x c).1=true/\bk (fT a l x c).2.1=true/\(fT a l x c).2.1.length=c.length/\(fT a l x c).2.2.length<=8000*l.length
 |[],a,x,c,hx,h=>⟨hx,h,rfl,by simp[fT]⟩
 |s::l,a,x,c,hx,h=>by
  obtain⟨h1,h2,h3,h4⟩:=s8 a (s.i 0) (s.i 1) hx h;obtain⟨i1,i2,i3,i4⟩:=Mz l (a+1) _ _ h1 h2;simp only[fT,zab,zac];exact⟨i1,i2,by omega,by omega⟩
def jw (sel:Dat->Bool):Int->LD0->LI0
 |_,[]=>[]
 |i,d::c=>bif sel d then i::jw sel (i+1) c else jw sel (i+1) c
def eS (sel:Dat->Bool) (j:Nat):LD0->LI0
 |[]=>[]
 |d::c=>bif sel d then d.i j::eS sel j c else eS sel j c
def ny (j:Nat):LI0->LI0->LD0->LD0
 |w::ws,x::xs,c=>ny j ws xs (c.set w.toNat (cM j x (ai c w.toNat)))
 |_,_,c=>c
def xv (at_ kind:Int):LI0->LI0->LD0
 |w::ws,x::xs=>(if 0<x then[.r [.n at_,.n kind,.n w,.n x]]else[])++xv at_ kind ws xs
 |_,_=>[]
theorem NS {j:Nat} {d:Dat} (h:pj 3 d=true):cM j 0 d=d:=by
 have e:=Iq h;unfold cM;rw[zbv,zbv,<-e]
 split<;>rfl
theorem qL (sel:Dat->Bool) (j:Nat):∀(rest pre:LD0) (xs:LI0),xs.length=bZ (rest.map sel)->(∀d∈rest,pj 3 d=true)->
 ny j (jw sel pre.length rest) xs (pre++rest)=pre++cw j (bY (rest.map sel) xs) rest
 |[],pre,xs,h,_=>by rw[zaB h];simp[jw,ny,cw,bY]
 |d::rest,pre,xs,h,hr=>by
  have ih:=fun xs h y=>qL sel j rest (pre++[y]) xs h (fun z hz=>hr z (by simp[hz]))
  simp only[zab,zac,zar,zaq,zaC,zas,zaL,zad,zaF]at ih;simp only[zaS]at h;cases hs:sel d
  . rw[hs]at h;simp only[jw,hs,zal,zaS,bY,cw];rw[NS (hr d (by simp)),<-ih xs h d]
  . rw[hs]at h;cases xs with
    |nil=>simp[bZ]at h
    |cons x xs=>
     simp only[jw,hs,zaw,zaS,bY,cw,ny,zat,D9,ax,List.headD_cons,List.tail_cons];exact ih xs (by simpa[bZ]using h) _
theorem tV (a k:Int) (sel:Dat->Bool):∀(rest:LD0) (i:Int) (xs:LI0),xs.length=bZ (rest.map sel)->xv a k (jw sel i rest) xs=cd a k i (bY (rest.map sel) xs)
 |[],i,xs,h=>by rw[zaB h];rfl
 |d::rest,i,xs,h=>by
  have ih:=fun xs h=>tV a k sel rest (i+1) xs h
  simp only[zaS]at h;cases hs:sel d
  . rw[hs]at h;simp only[jw,hs,zal,zaS,bY,cd];rw[ih xs h];rfl
  . rw[hs]at h;cases xs with
    |nil=>simp[bZ]at h
    |cons x xs=>
     simp only[jw,hs,zaw,zaS,bY,cd,xv,List.headD_cons,List.tail_cons];rw[ih xs (by simpa[bZ]using h)]
theorem Ca (sel:Dat->Bool) (j:Nat):∀c:LD0,(c.map fun d=>bif sel d then d.i j else 0)=bY (c.map sel) (eS sel j c)
 |[]=>rfl
 |d::c=>by
  have:=Ca sel j c;simp only[zaS,eS];cases hs:sel d<;>simp[bY,this]
theorem AA (sel:Dat->Bool) (j:Nat):∀c:LD0,(eS sel j c).length=bZ (c.map sel)
 |[]=>rfl
 |d::c=>by
  have:=AA sel j c;cases hs:sel d<;>simp[eS,hs,bZ,this]
theorem tf (sel:Dat->Bool):∀(c:LD0) (i:Int),(jw sel i c).length=bZ (c.map sel)
 |[],_=>rfl
 |d::c,i=>by
  have:=tf sel c (i+1);cases hs:sel d<;>simp[jw,hs,bZ,this]
theorem nu:∀ms:List Bool,bZ ms<=ms.length
 |[]=>zap _
 |false::ms=>by have:=nu ms;simp[bZ];omega
 |true::ms=>by have:=nu ms;simp[bZ];omega
theorem s9 (sel:Dat->Bool):∀(c:LD0) (i:Int),∀w∈jw sel i c,i<=w/\w<i+c.length
 |[],i,w,h=>by simp[jw]at h
 |d::c,i,w,h=>by
  have ih:=s9 sel c (i+1) w;simp only[zac,zaL];cases hs:sel d<;>simp only[jw,hs,zal,zaw,zaN]at h
  . have:=ih h;omega
  . rcases h with h|h
    . omega
    . have:=ih h;omega
theorem sN (sel:Dat->Bool) (j:Nat):∀c:LD0,∀x∈eS sel j c,∃d∈c,x=d.i j
 |[],x,h=>by simp[eS]at h
 |d::c,x,h=>by
  cases hs:sel d<;>simp only[eS,hs,zal,zaw,zaN]at h
  . obtain⟨e,h1,h2⟩:=sN sel j c x h;exact⟨e,by simp[h1],h2⟩
  . rcases h with h|h
    . exact⟨d,by simp,h⟩
    . obtain⟨e,h1,h2⟩:=sN sel j c x h;exact⟨e,by simp[h1],h2⟩
theorem mW (sel:Dat->Bool) {j:Nat} (hj:j=1\/j=2) (n:Int) {c:LD0} (h:bk c=true):aB sel j n c=bY (c.map sel) (dw n (eS sel j c)):=by
 obtain⟨h1,h2⟩:=cr h;unfold aB;rw[Ca];refine M7 (c.map sel) n (eS sel j c) (AA sel j c) 1125899906842624 (by decide) (fun x hx=> ?_) (by simp;omega);obtain⟨d,hd,rfl⟩:=sN sel j c x hx;have:=cZ (h2 d hd);rcases hj with rfl|rfl<;>omega
theorem Br (sel:Dat->Bool) {j:Nat} (hj:j=1\/j=2) (n:Int) {c:LD0} (h:bk c=true):(dw n (eS sel j c)).length=bZ (c.map sel)/\(∀x∈dw n (eS sel j c),0<=x/\x<=1125899906842624)/\0<=(dw n (eS sel j c)).sum/\(dw n (eS sel j c)).sum<=1125899906842624000/\(dw n (eS sel j c)).sum=(aB sel j n c).sum:=by
 obtain⟨h1,h2⟩:=cr h;have hb:∀x∈eS sel j c,0<=x/\x<=1125899906842624:=fun x hx=>by
  obtain⟨d,hd,rfl⟩:=sN sel j c x hx;have:=cZ (h2 d hd);rcases hj with rfl|rfl<;>omega
 have hl:=AA sel j c;have ht:=nu (c.map sel);rw[zaW]at ht;have hok:=(yL (l:=eS sel j c) (b:=1125899906842624) (by decide) hb (by omega)).2;have e:dw n (eS sel j c)=dw (max n 0) (eS sel j c):=by
  by_cases hn:0<=n
  . rw[show max n 0=n by omega]
  . rw[show max n 0=0 by omega];exact HC (by omega)
 obtain⟨p1,p2⟩:=Gp (a:=max n 0) (by omega) hok;have hm:∀x∈dw n (eS sel j c),0<=x/\x<=1125899906842624:=by
  intro x hx;obtain⟨i,hi,rfl⟩:=tw hx;rw[zM]at hi;rw[e];have:=p2 i hi;have:=hb _ (mb hi);omega
 have hlen:(dw n (eS sel j c)).length=bZ (c.map sel):=by rw[zM,hl]
 have hs:=uG _ _ (by decide) hm;rw[hlen]at hs;refine⟨hlen,hm,hs.1,by omega, ?_⟩;rw[mW sel hj n h,pW _ _ hlen]
def UJ:aA:=⟨Qb.tab,206,⟨[.ptr 0 0 0,.z0,.fn 230 [] [.ptr 3 0 0],.fn 208 [] []],[.cells [.z0,.z0,.z0,.z0,.z0,.buf 1 3,.z0,.z0,.buf 2 4],.ab (sI 3),.ab (sI 4),.cells [.z0]],0⟩,⟨[.z0],[.cells [.z0,.z0,.z0,.z0,.z0,.buf 1 3,.z0,.z0,.buf 4 4],.ab (sI 3),.gone,.gone,.ab (sI 4)],0⟩,[]⟩
abbrev Dq:Type:=Int × Int × Int × bC × Int × Int × LD0 × LI0 × LI0 × LD0
abbrev D8:Type:=Int × Int × Int × bC × Int × Int × LD0 × Int × LI0 × LI0 × LD0
def yN (m:Nat) (k:Dq->OU0):Dq->OU0:=fun(a0,a1,a2,a3,a4,a5,a6,a7,a8,a9)=>
 bif decide (a2<a1)then
 chk (inb a2 a8.length)<|
 chk (decide (a2.toNat<a8.length))<|
 chk (inb a2 a7.length)<|
 chk (decide (a2.toNat<a7.length))<|
 chk (inb (a7.getD a2.toNat 0) a6.length)<|
 chk (decide ((a7.getD a2.toNat 0).toNat<a6.length))<|
 chk (decide ((a7.getD a2.toNat 0).toNat<a6.length))<|
 lt (ai a6 ((a7.getD a2.toNat 0).toNat):Dat) fun d4=>
 lt ((List.set a6 ((a7.getD a2.toNat 0).toNat) (.r [.n (d4.i 0),.n (d4.i 1),.n (w64 (((ai a6 ((a7.getD a2.toNat 0).toNat)).i 2)-(a8.getD a2.toNat 0)))])):LD0) fun l5=>
 lt ((w64 (a0+(a8.getD a2.toNat 0))):Int) fun x6=>
 chk (inb a2 a7.length)<|
 chk (decide (a2.toNat<a7.length))<|
 bif (decide ((a8.getD a2.toNat 0)>0))then
 chk (fits (a9.length+1) 32)<|
 k (x6,a1,(w64 (a2+1)),a3,a4,a5,l5,a7,a8,(a9++([.r [.n a4,.n a5,.n (a7.getD a2.toNat 0),.n (a8.getD a2.toNat 0)]])))
 else
 k (x6,a1,(w64 (a2+1)),a3,a4,a5,l5,a7,a8,a9)
 else
 some ([.i a0]++Uns.enc (({a3 with aD:=(w64 (a3.aD-a0))}:bC):bC)++[.i a4,.i a5,.d a6,.d a9])
def rB (m:Nat):Nat->Dq->OU0:=aX (yN m)
theorem xr (m:Nat) (n:Nat):rB m (n+1)=yN m (rB m n):=rfl
def IG (F:Dq->OU0):aQ:=⟨[.lp [0,1,0,1,1,1,1],.blk 2,.code [1,1,1,1,1]],⟨frm 88 [(0,.ptr 0 0 0),(3,.fn 208 [] []),(9,.buf 4 1),(13,.z0),(44,.buf 5 1),(45,.z0),(46,.z0)],[.cells [.z0,.z0,.z0,.z0,.z0,.buf 1 3,.z0,.z0,.buf 6 4],.ab (sI 3),.gone,.gone,.ints .i64,.ints .i64,.ab (sI 4)],0⟩,onU F⟩
def yz (m:Nat) (k:D8->OU0):D8->OU0:=fun(a0,a1,a2,a3,a4,a5,a6,a7,a8,a9,a10)=>
 bif decide (a2<a1)then
 chk (inb a2 a6.length)<|
 chk (decide (a2.toNat<a6.length))<|
 lt (ai a6 a2.toNat:Dat) fun d1=>
 bif (d1.i 0)==a7 then
 chk (fits (a8.length+1) 8)<|
 chk (fits (a9.length+1) 8)<|
 k (a0,a1,(w64 (a2+1)),a3,a4,a5,a6,a7,(a8++([a2])),(a9++([(d1.i 2)])),a10)
 else
 k (a0,a1,(w64 (a2+1)),a3,a4,a5,a6,a7,a8,a9,a10)
 else
 chk (decide (a0<=9223372036854775807/\a9.length<1099511627776))<|
 rB m m (0,((dw a0 a9).length:Int),0,a3,a4,a5,a6,a8,(dw a0 a9),a10)
def vF (m:Nat):Nat->D8->OU0:=aX (yz m)
theorem wm (m:Nat) (n:Nat):vF m (n+1)=yz m (vF m n):=rfl
def Kb (F:D8->OU0):aQ:=⟨[.lp [0,1,0,1,1],.blk 0,.code [1,1,1]],⟨frm 88 [(0,.ptr 0 0 0),(1,.z0),(2,.fn 230 [] [.ptr 4 0 0]),(3,.fn 208 [] []),(9,.buf 5 1),(10,.buf 6 1),(20,.buf 1 3),(21,.z0),(22,.z0)],[.cells [.z0,.z0,.z0,.z0,.z0,.buf 1 3,.z0,.z0,.buf 7 4],.ab (sI 3),.gone,.gone,.cells [.z0],.ints .i64,.ints .i64,.ab (sI 4)],0⟩,onU F⟩
theorem ZD (m:Nat):∀n,HO UJ (IG (rB m n)):=an ae Qb.right (fun k=>[IG k]) (fun k h=>(aI h az)) fun k a=>by kernel_rfl
theorem Za (m:Nat):∀n,HO UJ (Kb (vF m n)):=an ae Qb.right (fun k=>[Kb k,IG (rB m m)]) (fun k h=>(aI h (aI (ZD m m) az))) fun k a=>by kernel_rfl
def adj (m:Nat):Int × bC × Int × Int × LD0 × LD0 × Int->OU0:=fun(a0,a1,a2,a3,a4,a5,a6)=>
 vF m m (a0,(a4.length:Int),0,a1,a2,a3,a4,a6,[],[],a5)
theorem Wa (m:Nat) (nn:Int) (hnn:nn<=9223372036854775807) (y:bC) (q kd:Int) (rk:Int) (out:LD0):∀(rest pre:LD0) (n:Nat) (who what:LI0),rest.length<n->(pre++rest).length<=1000->who.length<=pre.length->what.length<=pre.length->
 vF m n (nn,((pre++rest).length:Int),(pre.length:Int),y,q,kd,pre++rest,rk,who,what,out)=
  rB m m (0,((dw nn (what++eS (aR rk) 2 rest)).length:Int),0,y,q,kd,pre++rest,who++jw (aR rk) pre.length rest,dw nn (what++eS (aR rk) 2 rest),out):=by
 intro rest
 induction rest with
 |nil=>
  intro pre n who what hn hl h1 h2;obtain⟨n,rfl⟩:=ah n (by simp at hn;omega);rw[wm];unfold yz;dsimp only;simp only[zaK,jw,eS]at hl⊢;rw[ay (by omega),aJ ⟨hnn,by omega⟩]
 |cons x rest ih=>
  intro pre n who what hn hl h1 h2;obtain⟨n,rfl⟩:=ah n (by simp at hn;omega);simp only[zab,zac]at hl hn;rw[wm];unfold yz;dsimp only;simp only[lt_eq]
  by_cases hs:x.i 0=rk
  . have:=ih (pre++[x]) n (who++[(pre.length:Int)]) (what++[x.i 2]) (by omega) (by simp;omega) (by simp;omega) (by simp;omega);simp only[jw,eS,aR,jG hs,zaw]at this⊢;simp(disch:=omega) only[TRa,TRi,aa,LNl,LNi,zad,ax,bu];simp only[LNl,LNi,zad]at this⊢;exact this
  . have:=ih (pre++[x]) n who what (by omega) (by simp;omega) (by simp;omega) (by simp;omega);simp only[jw,eS,aR,lB hs,zal]at this⊢;simp(disch:=omega) only[TRa,TRi,aa,LNl,LNi,zad,ax,bu];simp only[LNl,LNi,zad]at this⊢;exact this
theorem Vk (m:Nat) (y:bC) (hy:0<=y.aD/\y.aD<=1152921504606846976) (q kd:Int):∀(rest done ws wd:LI0) (c out:LD0) (n:Nat) (paid:Int),rest.length<n->ws.length=rest.length->wd.length=done.length->(done++rest).length<=1000->(∀w∈ws,0<=w/\w<c.length)->(∀x∈rest,0<=x/\x<=1152921504606846976)->0<=paid->paid+rest.sum<=1152921504606846976->(∀i,i<c.length-> -paid<=(ai c i).i 2/\(ai c i).i 2<=1152921504606846976)->c.length<=1000->out.length+rest.length<=137438953472->
 rB m n (paid,((done++rest).length:Int),(done.length:Int),y,q,kd,c,wd++ws,done++rest,out)=
  some ([.i (paid+rest.sum)]++Uns.enc (({y with aD:=y.aD-(paid+rest.sum)}:bC):bC)++[.i q,.i kd,.d (ny 2 ws rest c),.d (out++xv q kd ws rest)]):=by
 intro rest
 induction rest with
 |nil=>
  intro done ws wd c out n paid hn e1 e2 hl hw hx p0 p1 hc cl ol;obtain⟨n,rfl⟩:=ah n (by simp at hn;omega);obtain rfl:=zaB e1;rw[xr];unfold yN;dsimp only;simp only[zaK,ny,xv,List.sum_nil,zb4]at p1⊢;rw[ay (by omega),aa (by omega) (by omega)]
 |cons x rest ih=>
  intro done ws wd c out n paid hn e1 e2 hl hw hx p0 p1 hc cl ol;obtain⟨n,rfl⟩:=ah n (by simp at hn;omega);cases ws with
  |nil=>simp at e1
  |cons w ws=>
  simp only[zab,zac,zbs]at hl hn e1 p1 ol;have hx0:=hx x (by simp);have hw0:=hw w (by simp);have hs0:=fK rest (fun z hz=>(hx z (by simp[hz])).1);obtain⟨v,rfl⟩:∃v:Nat,w=(v:Int):=⟨w.toNat,by omega⟩
  have hr:=hc v (by omega);have gw:(wd++(v:Int)::ws).getD done.length 0=v:=by rw[<-e2];exact bu _ _ _ _
  have mE:∀i,i<(c.set v (cM 2 x (ai c v))).length-> -(paid+x)<=(ai (c.set v (cM 2 x (ai c v))) i).i 2/\(ai (c.set v (cM 2 x (ai c v))) i).i 2<=1152921504606846976:=by
   intro i hi;rw[za1]at hi
   by_cases e:i=v
   . subst e;have e3:ai (c.set i (cM 2 x (ai c i))) i=cM 2 x (ai c i):=by simp[ai,hi]
     rw[e3];simp only[cM,show ¬(2:Nat)=1 by decide,zbp,jK];omega
   . have e3:ai (c.set v (cM 2 x (ai c v))) i=ai c i:=by simp[ai,zbo,zcn e]
     rw[e3];have:=hc i hi;omega
  have:=ih (done++[x]) ws (wd++[(v:Int)]) (c.set v (cM 2 x (ai c v))) (out++if 0<x then[.r [.n q,.n kd,.n v,.n x]]else[]) n (paid+x) (by omega) (by omega) (by simp[e2]) (by simp;omega) (fun z hz=>by have:=hw z (by simp[hz]);simpa using this) (fun z hz=>hx z (by simp[hz])) (by omega) (by omega) mE (by simpa using cl) (by split<;>simp<;>omega);simp only[ny,xv,zbs,zat];rw[show paid+(x+rest.sum)=paid+x+rest.sum by omega];rw[<-zaq,<-this];rw[xr];unfold yN;dsimp only;have ec:done++[x]++rest=done++x::rest:=by simp
  have ew:wd++[(v:Int)]++ws=wd++(v:Int)::ws:=by simp
  rw[ec,ew];have e5:(cM 2 x (ai c v))=Dat.r [.n ((ai c v).i 0),.n ((ai c v).i 1),.n ((ai c v).i 2-x)]:=by simp only[cM,show ¬(2:Nat)=1 by decide,zbp]
  rw[e5];simp only[lt_eq,zat,gw,bu,zab,zac,zar,zaF,zaL,zad]
  by_cases h0:0<x
  . rw[if_pos h0];simp(disch:=omega) only[TRa,TRi,aa,zaL]
  . rw[if_neg h0];simp(disch:=omega) only[TRa,TRi,aa,zaL,zaK]
def acb:Int × bC × Int × Int × LD0 × LD0 × Int->Bool × List Un:=fun(a0,a1,a2,a3,a4,a5,a6)=>(decide (a0<=9223372036854775807/\0<=a1.aD/\a1.aD<=1152921504606846976/\a5.length<=68719476736)&&bk a4,[.i ((aB (aR a6) 2 a0 a4).sum)]++Uns.enc (({a1 with aD:=a1.aD-(aB (aR a6) 2 a0 a4).sum}):bC)++[.i (a2),.i (a3),.d (cw 2 (aB (aR a6) 2 a0 a4) a4),.d (a5++cd a2 a3 0 (aB (aR a6) 2 a0 a4))])
theorem P0:ER 206 (mkE UJ.en UJ.ex acb):=ak ae Qb.right (fun m=>[Kb (vF m m)]) (t:=adj) (by kernel_rfl) (fun m=>(aI (Za m m) az)) (fun m a=>by kernel_rfl) fun(a0,a1,a2,a3,a4,a5,a6) hc=>by
 dsimp only[acb]at hc⊢;simp only[zae,zag]at hc;obtain⟨⟨h1,h2,h3,h4⟩,h5⟩:=hc;obtain⟨c1,c2⟩:=cr h5;obtain⟨p1,p2,p3,p4,p5⟩:=Br (aR a6) (j:=2) (.inr rfl) a0 h5;refine⟨2000, ?_⟩;unfold adj;refine(Wa 2000 a0 h1 a1 a2 a3 a6 a5 a4 [] 2000 [] [] (by omega) (by simpa using c1) (by simp) (by simp)).trans ?_
 simp only[zas,zar];have ht:=nu (a4.map (aR a6));rw[zaW]at ht;have e:=Vk 2000 a1 ⟨h2,h3⟩ a2 a3 (dw a0 (eS (aR a6) 2 a4)) [] (jw (aR a6) 0 a4) [] a4 a5 2000 0 (by omega) (by rw[p1,tf]) rfl (by simp;omega) (fun w hw=>by have:=s9 _ _ _ w hw;omega) (fun x hx=>by have:=p2 x hx;omega) (by omega) (by omega) (fun i hi=>by have:=cZ (c2 _ (mN hi));omega) c1 (by omega);refine e.trans ?_
 have g1:=qL (aR a6) 2 a4 [] (dw a0 (eS (aR a6) 2 a4)) p1 (fun d hd=>(cZ (c2 d hd)).1);have g2:=tV a2 a3 (aR a6) a4 0 (dw a0 (eS (aR a6) 2 a4)) p1;simp only[zas,zar,zad]at g1 g2;rw[g1,g2,za4,p5,mW (aR a6) (j:=2) (.inr rfl) a0 h5]
def RJ:TB:=Qb.ad P0
def TR:aA:=⟨RJ.tab,206,⟨[.ptr 0 0 0,.z0,.fn 230 [] [.ptr 3 0 0],.fn 211 [] []],[.cells [.z0,.z0,.z0,.z0,.z0,.buf 1 3,.z0,.z0,.buf 2 4],.ab (sI 3),.ab (sI 4),.cells [.z0]],0⟩,⟨[.z0],[.cells [.z0,.z0,.z0,.z0,.z0,.buf 1 3,.z0,.z0,.buf 4 4],.ab (sI 3),.gone,.gone,.ab (sI 4)],0⟩,[]⟩
abbrev DW:Type:=Int × Int × Int × bC × Int × Int × LD0 × LI0 × LI0 × LD0
abbrev Ea:Type:=Int × Int × Int × bC × Int × Int × LD0 × Int × LI0 × LI0 × LD0
def xR (m:Nat) (k:DW->OU0):DW->OU0:=fun(a0,a1,a2,a3,a4,a5,a6,a7,a8,a9)=>
 bif decide (a2<a1)then
 chk (inb a2 a8.length)<|
 chk (decide (a2.toNat<a8.length))<|
 chk (inb a2 a7.length)<|
 chk (decide (a2.toNat<a7.length))<|
 chk (inb (a7.getD a2.toNat 0) a6.length)<|
 chk (decide ((a7.getD a2.toNat 0).toNat<a6.length))<|
 chk (decide ((a7.getD a2.toNat 0).toNat<a6.length))<|
 lt (ai a6 ((a7.getD a2.toNat 0).toNat):Dat) fun d4=>
 lt ((List.set a6 ((a7.getD a2.toNat 0).toNat) (.r [.n (d4.i 0),.n (w64 (((ai a6 ((a7.getD a2.toNat 0).toNat)).i 1)-(a8.getD a2.toNat 0))),.n (d4.i 2)])):LD0) fun l5=>
 lt ((w64 (a0+(a8.getD a2.toNat 0))):Int) fun x6=>
 chk (inb a2 a7.length)<|
 chk (decide (a2.toNat<a7.length))<|
 bif (decide ((a8.getD a2.toNat 0)>0))then
 chk (fits (a9.length+1) 32)<|
 k (x6,a1,(w64 (a2+1)),a3,a4,a5,l5,a7,a8,(a9++([.r [.n a4,.n a5,.n (a7.getD a2.toNat 0),.n (a8.getD a2.toNat 0)]])))
 else
 k (x6,a1,(w64 (a2+1)),a3,a4,a5,l5,a7,a8,a9)
 else
 some ([.i a0]++Uns.enc (({a3 with aD:=(w64 (a3.aD-a0))}:bC):bC)++[.i a4,.i a5,.d a6,.d a9])
def rH (m:Nat):Nat->DW->OU0:=aX (xR m)
theorem vQ (m:Nat) (n:Nat):rH m (n+1)=xR m (rH m n):=rfl
def Ka (F:DW->OU0):aQ:=⟨[.lp [0,1,0,1,1,1,1],.blk 2,.code [1,1,1,1,1]],⟨frm 88 [(0,.ptr 0 0 0),(3,.fn 211 [] []),(9,.buf 4 1),(13,.z0),(44,.buf 5 1),(45,.z0),(46,.z0)],[.cells [.z0,.z0,.z0,.z0,.z0,.buf 1 3,.z0,.z0,.buf 6 4],.ab (sI 3),.gone,.gone,.ints .i64,.ints .i64,.ab (sI 4)],0⟩,onU F⟩
def yg (m:Nat) (k:Ea->OU0):Ea->OU0:=fun(a0,a1,a2,a3,a4,a5,a6,a7,a8,a9,a10)=>
 bif decide (a2<a1)then
 chk (inb a2 a6.length)<|
 chk (decide (a2.toNat<a6.length))<|
 lt (ai a6 a2.toNat:Dat) fun d1=>
 bif (d1.i 0)==a7 then
 chk (fits (a8.length+1) 8)<|
 chk (fits (a9.length+1) 8)<|
 k (a0,a1,(w64 (a2+1)),a3,a4,a5,a6,a7,(a8++([a2])),(a9++([(d1.i 1)])),a10)
 else
 k (a0,a1,(w64 (a2+1)),a3,a4,a5,a6,a7,a8,a9,a10)
 else
 chk (decide (a0<=9223372036854775807/\a9.length<1099511627776))<|
 rH m m (0,((dw a0 a9).length:Int),0,a3,a4,a5,a6,a8,(dw a0 a9),a10)
def uO (m:Nat):Nat->Ea->OU0:=aX (yg m)
theorem xj (m:Nat) (n:Nat):uO m (n+1)=yg m (uO m n):=rfl
def IM (F:Ea->OU0):aQ:=⟨[.lp [0,1,0,1,1],.blk 0,.code [1,1,1]],⟨frm 88 [(0,.ptr 0 0 0),(1,.z0),(2,.fn 230 [] [.ptr 4 0 0]),(3,.fn 211 [] []),(9,.buf 5 1),(10,.buf 6 1),(20,.buf 1 3),(21,.z0),(22,.z0)],[.cells [.z0,.z0,.z0,.z0,.z0,.buf 1 3,.z0,.z0,.buf 7 4],.ab (sI 3),.gone,.gone,.cells [.z0],.ints .i64,.ints .i64,.ab (sI 4)],0⟩,onU F⟩
theorem YA (m:Nat):∀n,HO TR (Ka (rH m n)):=an ae RJ.right (fun k=>[Ka k]) (fun k h=>(aI h az)) fun k a=>by kernel_rfl
theorem ZW (m:Nat):∀n,HO TR (IM (uO m n)):=an ae RJ.right (fun k=>[IM k,Ka (rH m m)]) (fun k h=>(aI h (aI (YA m m) az))) fun k a=>by kernel_rfl
def acq (m:Nat):Int × bC × Int × Int × LD0 × LD0 × Int->OU0:=fun(a0,a1,a2,a3,a4,a5,a6)=>
 uO m m (a0,(a4.length:Int),0,a1,a2,a3,a4,a6,[],[],a5)
theorem Wp (m:Nat) (nn:Int) (hnn:nn<=9223372036854775807) (y:bC) (q kd:Int) (rk:Int) (out:LD0):∀(rest pre:LD0) (n:Nat) (who what:LI0),rest.length<n->(pre++rest).length<=1000->who.length<=pre.length->what.length<=pre.length->
 uO m n (nn,((pre++rest).length:Int),(pre.length:Int),y,q,kd,pre++rest,rk,who,what,out)=
  rH m m (0,((dw nn (what++eS (aR rk) 1 rest)).length:Int),0,y,q,kd,pre++rest,who++jw (aR rk) pre.length rest,dw nn (what++eS (aR rk) 1 rest),out):=by
 intro rest
 induction rest with
 |nil=>
  intro pre n who what hn hl h1 h2;obtain⟨n,rfl⟩:=ah n (by simp at hn;omega);rw[xj];unfold yg;dsimp only;simp only[zaK,jw,eS]at hl⊢;rw[ay (by omega),aJ ⟨hnn,by omega⟩]
 |cons x rest ih=>
  intro pre n who what hn hl h1 h2;obtain⟨n,rfl⟩:=ah n (by simp at hn;omega);simp only[zab,zac]at hl hn;rw[xj];unfold yg;dsimp only;simp only[lt_eq]
  by_cases hs:x.i 0=rk
  . have:=ih (pre++[x]) n (who++[(pre.length:Int)]) (what++[x.i 1]) (by omega) (by simp;omega) (by simp;omega) (by simp;omega);simp only[jw,eS,aR,jG hs,zaw]at this⊢;simp(disch:=omega) only[TRa,TRi,aa,LNl,LNi,zad,ax,bu];simp only[LNl,LNi,zad]at this⊢;exact this
  . have:=ih (pre++[x]) n who what (by omega) (by simp;omega) (by simp;omega) (by simp;omega);simp only[jw,eS,aR,lB hs,zal]at this⊢;simp(disch:=omega) only[TRa,TRi,aa,LNl,LNi,zad,ax,bu];simp only[LNl,LNi,zad]at this⊢;exact this
theorem VB (m:Nat) (y:bC) (hy:0<=y.aD/\y.aD<=1152921504606846976) (q kd:Int):∀(rest done ws wd:LI0) (c out:LD0) (n:Nat) (paid:Int),rest.length<n->ws.length=rest.length->wd.length=done.length->(done++rest).length<=1000->(∀w∈ws,0<=w/\w<c.length)->(∀x∈rest,0<=x/\x<=1152921504606846976)->0<=paid->paid+rest.sum<=1152921504606846976->(∀i,i<c.length-> -paid<=(ai c i).i 1/\(ai c i).i 1<=1152921504606846976)->c.length<=1000->out.length+rest.length<=137438953472->
 rH m n (paid,((done++rest).length:Int),(done.length:Int),y,q,kd,c,wd++ws,done++rest,out)=
  some ([.i (paid+rest.sum)]++Uns.enc (({y with aD:=y.aD-(paid+rest.sum)}:bC):bC)++[.i q,.i kd,.d (ny 1 ws rest c),.d (out++xv q kd ws rest)]):=by
 intro rest
 induction rest with
 |nil=>
  intro done ws wd c out n paid hn e1 e2 hl hw hx p0 p1 hc cl ol;obtain⟨n,rfl⟩:=ah n (by simp at hn;omega);obtain rfl:=zaB e1;rw[vQ];unfold xR;dsimp only;simp only[zaK,ny,xv,List.sum_nil,zb4]at p1⊢;rw[ay (by omega),aa (by omega) (by omega)]
 |cons x rest ih=>
  intro done ws wd c out n paid hn e1 e2 hl hw hx p0 p1 hc cl ol;obtain⟨n,rfl⟩:=ah n (by simp at hn;omega);cases ws with
  |nil=>simp at e1
  |cons w ws=>
  simp only[zab,zac,zbs]at hl hn e1 p1 ol;have hx0:=hx x (by simp);have hw0:=hw w (by simp);have hs0:=fK rest (fun z hz=>(hx z (by simp[hz])).1);obtain⟨v,rfl⟩:∃v:Nat,w=(v:Int):=⟨w.toNat,by omega⟩
  have hr:=hc v (by omega);have gw:(wd++(v:Int)::ws).getD done.length 0=v:=by rw[<-e2];exact bu _ _ _ _
  have mE:∀i,i<(c.set v (cM 1 x (ai c v))).length-> -(paid+x)<=(ai (c.set v (cM 1 x (ai c v))) i).i 1/\(ai (c.set v (cM 1 x (ai c v))) i).i 1<=1152921504606846976:=by
   intro i hi;rw[za1]at hi
   by_cases e:i=v
   . subst e;have e3:ai (c.set i (cM 1 x (ai c i))) i=cM 1 x (ai c i):=by simp[ai,hi]
     rw[e3];simp only[cM,zbh,fQ];omega
   . have e3:ai (c.set v (cM 1 x (ai c v))) i=ai c i:=by simp[ai,zbo,zcn e]
     rw[e3];have:=hc i hi;omega
  have:=ih (done++[x]) ws (wd++[(v:Int)]) (c.set v (cM 1 x (ai c v))) (out++if 0<x then[.r [.n q,.n kd,.n v,.n x]]else[]) n (paid+x) (by omega) (by omega) (by simp[e2]) (by simp;omega) (fun z hz=>by have:=hw z (by simp[hz]);simpa using this) (fun z hz=>hx z (by simp[hz])) (by omega) (by omega) mE (by simpa using cl) (by split<;>simp<;>omega);simp only[ny,xv,zbs,zat];rw[show paid+(x+rest.sum)=paid+x+rest.sum by omega];rw[<-zaq,<-this];rw[vQ];unfold xR;dsimp only;have ec:done++[x]++rest=done++x::rest:=by simp
  have ew:wd++[(v:Int)]++ws=wd++(v:Int)::ws:=by simp
  rw[ec,ew];have e5:(cM 1 x (ai c v))=Dat.r [.n ((ai c v).i 0),.n ((ai c v).i 1-x),.n ((ai c v).i 2)]:=by simp only[cM,zbh]
  rw[e5];simp only[lt_eq,zat,gw,bu,zab,zac,zar,zaF,zaL,zad]
  by_cases h0:0<x
  . rw[if_pos h0];simp(disch:=omega) only[TRa,TRi,aa,zaL]
  . rw[if_neg h0];simp(disch:=omega) only[TRa,TRi,aa,zaL,zaK]
def ab0:Int × bC × Int × Int × LD0 × LD0 × Int->Bool × List Un:=fun(a0,a1,a2,a3,a4,a5,a6)=>(decide (a0<=9223372036854775807/\0<=a1.aD/\a1.aD<=1152921504606846976/\a5.length<=68719476736)&&bk a4,[.i ((aB (aR a6) 1 a0 a4).sum)]++Uns.enc (({a1 with aD:=a1.aD-(aB (aR a6) 1 a0 a4).sum}):bC)++[.i (a2),.i (a3),.d (cw 1 (aB (aR a6) 1 a0 a4) a4),.d (a5++cd a2 a3 0 (aB (aR a6) 1 a0 a4))])
theorem Rg:ER 206 (mkE TR.en TR.ex ab0):=ak ae RJ.right (fun m=>[IM (uO m m)]) (t:=acq) (by kernel_rfl) (fun m=>(aI (ZW m m) az)) (fun m a=>by kernel_rfl) fun(a0,a1,a2,a3,a4,a5,a6) hc=>by
 dsimp only[ab0]at hc⊢;simp only[zae,zag]at hc;obtain⟨⟨h1,h2,h3,h4⟩,h5⟩:=hc;obtain⟨c1,c2⟩:=cr h5;obtain⟨p1,p2,p3,p4,p5⟩:=Br (aR a6) (j:=1) (.inl rfl) a0 h5;refine⟨2000, ?_⟩;unfold acq;refine(Wp 2000 a0 h1 a1 a2 a3 a6 a5 a4 [] 2000 [] [] (by omega) (by simpa using c1) (by simp) (by simp)).trans ?_
 simp only[zas,zar];have ht:=nu (a4.map (aR a6));rw[zaW]at ht;have e:=VB 2000 a1 ⟨h2,h3⟩ a2 a3 (dw a0 (eS (aR a6) 1 a4)) [] (jw (aR a6) 0 a4) [] a4 a5 2000 0 (by omega) (by rw[p1,tf]) rfl (by simp;omega) (fun w hw=>by have:=s9 _ _ _ w hw;omega) (fun x hx=>by have:=p2 x hx;omega) (by omega) (by omega) (fun i hi=>by have:=cZ (c2 _ (mN hi));omega) c1 (by omega);refine e.trans ?_
 have g1:=qL (aR a6) 1 a4 [] (dw a0 (eS (aR a6) 1 a4)) p1 (fun d hd=>(cZ (c2 d hd)).1);have g2:=tV a2 a3 (aR a6) a4 0 (dw a0 (eS (aR a6) 1 a4)) p1;simp only[zas,zar,zad]at g1 g2;rw[g1,g2,za4,p5,mW (aR a6) (j:=1) (.inl rfl) a0 h5]
def RY:TB:=RJ.ad Rg
def Wq:aA:=⟨RY.tab,206,⟨[.ptr 0 0 0,.z0,.fn 210 [] [],.fn 211 [] []],[.cells [.z0,.z0,.z0,.z0,.z0,.buf 1 3,.z0,.z0,.buf 2 4],.ab (sI 3),.ab (sI 4)],0⟩,⟨[.z0],[.cells [.z0,.z0,.z0,.z0,.z0,.buf 1 3,.z0,.z0,.buf 3 4],.ab (sI 3),.gone,.ab (sI 4)],0⟩,[]⟩
abbrev Eb:Type:=Int × Int × Int × bC × Int × Int × LD0 × LI0 × LI0 × LD0
abbrev FI:Type:=Int × Int × Int × bC × Int × Int × LD0 × LI0 × LI0 × LD0
def yr (m:Nat) (k:Eb->OU0):Eb->OU0:=fun(a0,a1,a2,a3,a4,a5,a6,a7,a8,a9)=>
 bif decide (a2<a1)then
 chk (inb a2 a8.length)<|
 chk (decide (a2.toNat<a8.length))<|
 chk (inb a2 a7.length)<|
 chk (decide (a2.toNat<a7.length))<|
 chk (inb (a7.getD a2.toNat 0) a6.length)<|
 chk (decide ((a7.getD a2.toNat 0).toNat<a6.length))<|
 chk (decide ((a7.getD a2.toNat 0).toNat<a6.length))<|
 lt (ai a6 ((a7.getD a2.toNat 0).toNat):Dat) fun d4=>
 lt ((List.set a6 ((a7.getD a2.toNat 0).toNat) (.r [.n (d4.i 0),.n (w64 (((ai a6 ((a7.getD a2.toNat 0).toNat)).i 1)-(a8.getD a2.toNat 0))),.n (d4.i 2)])):LD0) fun l5=>
 lt ((w64 (a0+(a8.getD a2.toNat 0))):Int) fun x6=>
 chk (inb a2 a7.length)<|
 chk (decide (a2.toNat<a7.length))<|
 bif (decide ((a8.getD a2.toNat 0)>0))then
 chk (fits (a9.length+1) 32)<|
 k (x6,a1,(w64 (a2+1)),a3,a4,a5,l5,a7,a8,(a9++([.r [.n a4,.n a5,.n (a7.getD a2.toNat 0),.n (a8.getD a2.toNat 0)]])))
 else
 k (x6,a1,(w64 (a2+1)),a3,a4,a5,l5,a7,a8,a9)
 else
 some ([.i a0]++Uns.enc (({a3 with aD:=(w64 (a3.aD-a0))}:bC):bC)++[.i a4,.i a5,.d a6,.d a9])
def rQ (m:Nat):Nat->Eb->OU0:=aX (yr m)
theorem wW (m:Nat) (n:Nat):rQ m (n+1)=yr m (rQ m n):=rfl
def Jh (F:Eb->OU0):aQ:=⟨[.lp [0,1,0,1,1,1,1],.blk 2,.code [1,1,1,1,1]],⟨frm 88 [(0,.ptr 0 0 0),(3,.fn 211 [] []),(9,.buf 3 1),(13,.z0),(44,.buf 4 1),(45,.z0),(46,.z0)],[.cells [.z0,.z0,.z0,.z0,.z0,.buf 1 3,.z0,.z0,.buf 5 4],.ab (sI 3),.gone,.ints .i64,.ints .i64,.ab (sI 4)],0⟩,onU F⟩
def yK (m:Nat) (k:FI->OU0):FI->OU0:=fun(a0,a1,a2,a3,a4,a5,a6,a7,a8,a9)=>
 bif decide (a2<a1)then
 chk (inb a2 a6.length)<|
 chk (decide (a2.toNat<a6.length))<|
 chk (fits (a7.length+1) 8)<|
 chk (fits (a8.length+1) 8)<|
 k (a0,a1,(w64 (a2+1)),a3,a4,a5,a6,(a7++([a2])),(a8++([((ai a6 a2.toNat).i 1)])),a9)
 else
 chk (decide (a0<=9223372036854775807/\a8.length<1099511627776))<|
 rQ m m (0,((dw a0 a8).length:Int),0,a3,a4,a5,a6,a7,(dw a0 a8),a9)
def uv (m:Nat):Nat->FI->OU0:=aX (yK m)
theorem wN (m:Nat) (n:Nat):uv m (n+1)=yK m (uv m n):=rfl
def I2 (F:FI->OU0):aQ:=⟨[.lp [0,1,0,1,1],.blk 0,.code [1,1,1]],⟨frm 88 [(0,.ptr 0 0 0),(1,.z0),(2,.fn 210 [] []),(3,.fn 211 [] []),(9,.buf 3 1),(10,.buf 4 1),(20,.buf 1 3),(21,.z0),(22,.z0)],[.cells [.z0,.z0,.z0,.z0,.z0,.buf 1 3,.z0,.z0,.buf 5 4],.ab (sI 3),.gone,.ints .i64,.ints .i64,.ab (sI 4)],0⟩,onU F⟩
theorem Ya (m:Nat):∀n,HO Wq (Jh (rQ m n)):=an ae RY.right (fun k=>[Jh k]) (fun k h=>(aI h az)) fun k a=>by kernel_rfl
theorem Xk (m:Nat):∀n,HO Wq (I2 (uv m n)):=an ae RY.right (fun k=>[I2 k,Jh (rQ m m)]) (fun k h=>(aI h (aI (Ya m m) az))) fun k a=>by kernel_rfl
def acZ (m:Nat):Int × bC × Int × Int × LD0 × LD0->OU0:=fun(a0,a1,a2,a3,a4,a5)=>
 uv m m (a0,(a4.length:Int),0,a1,a2,a3,a4,[],[],a5)
theorem VW (m:Nat) (nn:Int) (hnn:nn<=9223372036854775807) (y:bC) (q kd:Int) (out:LD0):∀(rest pre:LD0) (n:Nat) (who what:LI0),rest.length<n->(pre++rest).length<=1000->who.length<=pre.length->what.length<=pre.length->
 uv m n (nn,((pre++rest).length:Int),(pre.length:Int),y,q,kd,pre++rest,who,what,out)=
  rQ m m (0,((dw nn (what++eS (fun _=>true) 1 rest)).length:Int),0,y,q,kd,pre++rest,who++jw (fun _=>true) pre.length rest,dw nn (what++eS (fun _=>true) 1 rest),out):=by
 intro rest
 induction rest with
 |nil=>
  intro pre n who what hn hl h1 h2;obtain⟨n,rfl⟩:=ah n (by simp at hn;omega);rw[wN];unfold yK;dsimp only;simp only[zaK,jw,eS]at hl⊢;rw[ay (by omega),aJ ⟨hnn,by omega⟩]
 |cons x rest ih=>
  intro pre n who what hn hl h1 h2;obtain⟨n,rfl⟩:=ah n (by simp at hn;omega);simp only[zab,zac]at hl hn;rw[wN];unfold yK;dsimp only;have:=ih (pre++[x]) n (who++[(pre.length:Int)]) (what++[x.i 1]) (by omega) (by simp;omega) (by simp;omega) (by simp;omega);simp only[jw,eS,zaw]at this⊢;simp(disch:=omega) only[TRa,TRi,aa,LNl,LNi,zad,ax,bu];simp only[LNl,LNi,zad]at this⊢;exact this
theorem VY (m:Nat) (y:bC) (hy:0<=y.aD/\y.aD<=1152921504606846976) (q kd:Int):∀(rest done ws wd:LI0) (c out:LD0) (n:Nat) (paid:Int),rest.length<n->ws.length=rest.length->wd.length=done.length->(done++rest).length<=1000->(∀w∈ws,0<=w/\w<c.length)->(∀x∈rest,0<=x/\x<=1152921504606846976)->0<=paid->paid+rest.sum<=1152921504606846976->(∀i,i<c.length-> -paid<=(ai c i).i 1/\(ai c i).i 1<=1152921504606846976)->c.length<=1000->out.length+rest.length<=137438953472->
 rQ m n (paid,((done++rest).length:Int),(done.length:Int),y,q,kd,c,wd++ws,done++rest,out)=
  some ([.i (paid+rest.sum)]++Uns.enc (({y with aD:=y.aD-(paid+rest.sum)}:bC):bC)++[.i q,.i kd,.d (ny 1 ws rest c),.d (out++xv q kd ws rest)]):=by
 intro rest
 induction rest with
 |nil=>
  intro done ws wd c out n paid hn e1 e2 hl hw hx p0 p1 hc cl ol;obtain⟨n,rfl⟩:=ah n (by simp at hn;omega);obtain rfl:=zaB e1;rw[wW];unfold yr;dsimp only;simp only[zaK,ny,xv,List.sum_nil,zb4]at p1⊢;rw[ay (by omega),aa (by omega) (by omega)]
 |cons x rest ih=>
  intro done ws wd c out n paid hn e1 e2 hl hw hx p0 p1 hc cl ol;obtain⟨n,rfl⟩:=ah n (by simp at hn;omega);cases ws with
  |nil=>simp at e1
  |cons w ws=>
  simp only[zab,zac,zbs]at hl hn e1 p1 ol;have hx0:=hx x (by simp);have hw0:=hw w (by simp);have hs0:=fK rest (fun z hz=>(hx z (by simp[hz])).1);obtain⟨v,rfl⟩:∃v:Nat,w=(v:Int):=⟨w.toNat,by omega⟩
  have hr:=hc v (by omega);have gw:(wd++(v:Int)::ws).getD done.length 0=v:=by rw[<-e2];exact bu _ _ _ _
  have mE:∀i,i<(c.set v (cM 1 x (ai c v))).length-> -(paid+x)<=(ai (c.set v (cM 1 x (ai c v))) i).i 1/\(ai (c.set v (cM 1 x (ai c v))) i).i 1<=1152921504606846976:=by
   intro i hi;rw[za1]at hi
   by_cases e:i=v
   . subst e;have e3:ai (c.set i (cM 1 x (ai c i))) i=cM 1 x (ai c i):=by simp[ai,hi]
     rw[e3];simp only[cM,zbh,fQ];omega
   . have e3:ai (c.set v (cM 1 x (ai c v))) i=ai c i:=by simp[ai,zbo,zcn e]
     rw[e3];have:=hc i hi;omega
  have:=ih (done++[x]) ws (wd++[(v:Int)]) (c.set v (cM 1 x (ai c v))) (out++if 0<x then[.r [.n q,.n kd,.n v,.n x]]else[]) n (paid+x) (by omega) (by omega) (by simp[e2]) (by simp;omega) (fun z hz=>by have:=hw z (by simp[hz]);simpa using this) (fun z hz=>hx z (by simp[hz])) (by omega) (by omega) mE (by simpa using cl) (by split<;>simp<;>omega);simp only[ny,xv,zbs,zat];rw[show paid+(x+rest.sum)=paid+x+rest.sum by omega];rw[<-zaq,<-this];rw[wW];unfold yr;dsimp only;have ec:done++[x]++rest=done++x::rest:=by simp
  have ew:wd++[(v:Int)]++ws=wd++(v:Int)::ws:=by simp
  rw[ec,ew];have e5:(cM 1 x (ai c v))=Dat.r [.n ((ai c v).i 0),.n ((ai c v).i 1-x),.n ((ai c v).i 2)]:=by simp only[cM,zbh]
  rw[e5];simp only[lt_eq,zat,gw,bu,zab,zac,zar,zaF,zaL,zad]
  by_cases h0:0<x
  . rw[if_pos h0];simp(disch:=omega) only[TRa,TRi,aa,zaL]
  . rw[if_neg h0];simp(disch:=omega) only[TRa,TRi,aa,zaL,zaK]
def abt:Int × bC × Int × Int × LD0 × LD0->Bool × List Un:=fun(a0,a1,a2,a3,a4,a5)=>(decide (a0<=9223372036854775807/\0<=a1.aD/\a1.aD<=1152921504606846976/\a5.length<=68719476736)&&bk a4,[.i ((aB (fun _=>true) 1 a0 a4).sum)]++Uns.enc (({a1 with aD:=a1.aD-(aB (fun _=>true) 1 a0 a4).sum}):bC)++[.i (a2),.i (a3),.d (cw 1 (aB (fun _=>true) 1 a0 a4) a4),.d (a5++cd a2 a3 0 (aB (fun _=>true) 1 a0 a4))])
theorem Sr:ER 206 (mkE Wq.en Wq.ex abt):=ak ae RY.right (fun m=>[I2 (uv m m)]) (t:=acZ) (by kernel_rfl) (fun m=>(aI (Xk m m) az)) (fun m a=>by kernel_rfl) fun(a0,a1,a2,a3,a4,a5) hc=>by
 dsimp only[abt]at hc⊢;simp only[zae,zag]at hc;obtain⟨⟨h1,h2,h3,h4⟩,h5⟩:=hc;obtain⟨c1,c2⟩:=cr h5;obtain⟨p1,p2,p3,p4,p5⟩:=Br (fun _=>true) (j:=1) (.inl rfl) a0 h5;refine⟨2000, ?_⟩;unfold acZ;refine(VW 2000 a0 h1 a1 a2 a3 a5 a4 [] 2000 [] [] (by omega) (by simpa using c1) (by simp) (by simp)).trans ?_
 simp only[zas,zar];have ht:=nu (a4.map (fun _=>true));rw[zaW]at ht;have e:=VY 2000 a1 ⟨h2,h3⟩ a2 a3 (dw a0 (eS (fun _=>true) 1 a4)) [] (jw (fun _=>true) 0 a4) [] a4 a5 2000 0 (by omega) (by rw[p1,tf]) rfl (by simp;omega) (fun w hw=>by have:=s9 _ _ _ w hw;omega) (fun x hx=>by have:=p2 x hx;omega) (by omega) (by omega) (fun i hi=>by have:=cZ (c2 _ (mN hi));omega) c1 (by omega);refine e.trans ?_
 have g1:=qL (fun _=>true) 1 a4 [] (dw a0 (eS (fun _=>true) 1 a4)) p1 (fun d hd=>(cZ (c2 d hd)).1);have g2:=tV a2 a3 (fun _=>true) a4 0 (dw a0 (eS (fun _=>true) 1 a4)) p1;simp only[zas,zar,zad]at g1 g2;rw[g1,g2,za4,p5,mW (fun _=>true) (j:=1) (.inl rfl) a0 h5]
def VT:TB:=RY.ad Sr
def ZK:aA:=⟨VT.tab,209,⟨[.ptr 0 0 0,.z0],[.cells [.z0,.z0,.z0,.z0,.z0,.buf 1 3,.z0,.z0,.buf 2 4],.ab (sI 3),.ab (sI 4)],0⟩,⟨[.z0],[.cells [.z0,.z0,.z0,.z0,.z0,.buf 1 3,.z0,.z0,.buf 3 4],.ab (sI 3),.gone,.ab (sI 4)],0⟩,[]⟩
abbrev Ew:Type:=Int × Int × Int × bC × Int × Int × LD0 × LD0
def ye (m:Nat) (k:Ew->OU0):Ew->OU0:=fun(a0,a1,a2,a3,a4,a5,a6,a7)=>
 bif decide (a2<8)then
 chk (decide ((w64 (a0-a1))<=9223372036854775807/\0<=a3.aD/\a3.aD<=1152921504606846976/\a7.length<=68719476736)&&bk a6)<|
 k (a0,(w64 (a1+((aB (aR a2) 1 (w64 (a0-a1)) a6).sum))),(w64 (a2+1)),({a3 with aD:=a3.aD-(aB (aR a2) 1 (w64 (a0-a1)) a6).sum}),a4,a5,(cw 1 (aB (aR a2) 1 (w64 (a0-a1)) a6) a6),(a7++cd a4 a5 0 (aB (aR a2) 1 (w64 (a0-a1)) a6)))
 else
 some ([.i a1]++Uns.enc (a3:bC)++[.i a4,.i a5,.d a6,.d a7])
def uE (m:Nat):Nat->Ew->OU0:=aX (ye m)
theorem wL (m:Nat) (n:Nat):uE m (n+1)=ye m (uE m n):=rfl
def Ix (F:Ew->OU0):aQ:=⟨[.lp [0,1,0,1,1],.blk 0,.code [1,1,1]],⟨frm 21 [(0,.ptr 0 0 0),(1,.z0),(5,.z0),(7,.z0)],[.cells [.z0,.z0,.z0,.z0,.z0,.buf 1 3,.z0,.z0,.buf 3 4],.ab (sI 3),.gone,.ab (sI 4)],0⟩,onU F⟩
theorem YS (m:Nat):∀n,HO ZK (Ix (uE m n)):=an ae VT.right (fun k=>[Ix k]) (fun k h=>(aI h az)) fun k a=>by kernel_rfl
def t209 (m:Nat):Int × bC × Int × Int × LD0 × LD0->OU0:=fun(a0,a1,a2,a3,a4,a5)=>
 uE m m (a0,0,0,a1,a2,a3,a4,a5)
theorem acr (m:Nat) (nn q kd:Int):∀(k n:Nat) (r paid:Int) (y:bC) (c out:LD0),k<n->r+k=8->0<=r->bk c=true->0<=paid->paid<=nn->nn-paid<=y.aD->y.aD<=1152921504606846976->nn<=1152921504606846976->out.length+1000*k<=68719476736->
 uE m n (nn,paid,r,y,q,kd,c,out)=some ([.i (paid+(bR q kd k r (nn-paid) c).2.2)]++Uns.enc (({y with aD:=y.aD-(bR q kd k r (nn-paid) c).2.2}:bC):bC)++[.i q,.i kd,.d (bR q kd k r (nn-paid) c).1,.d (out++(bR q kd k r (nn-paid) c).2.1)]):=by
 intro k
 induction k with
 |zero=>
  intro n r paid y c out hn hr h0 hc p0 p1 p2 p3 p4 ho;obtain⟨n,rfl⟩:=ah n (by omega);rw[wL];unfold ye;dsimp only;simp only[bR,zb4,zbv,zaK];rw[ay (by omega)]
 |succ k ih=>
  intro n r paid y c out hn hr h0 hc p0 p1 p2 p3 p4 ho;obtain⟨n,rfl⟩:=ah n (by omega);rw[wL];unfold ye;dsimp only;obtain⟨l1,l2,l3⟩:=dQ (aR r) (j:=1) (.inl rfl) (nn-paid) hc;obtain⟨_,_,w0,w1⟩:=qh (aR r) (j:=1) (.inl rfl) hc;obtain⟨g1,g2⟩:=qP (aR r) (j:=1) (.inl rfl) (nn-paid) hc;have hpl:=j4 q kd (aB (aR r) 1 (nn-paid) c) 0;have hcl:=(cr hc).1;rw[aK (by omega),aa (n:=nn-paid) (by omega) (by omega),hc,zbf,aJ ⟨by omega,by omega,by omega,by omega⟩];have:=ih n (r+1) (paid+(aB (aR r) 1 (nn-paid) c).sum) {y with aD:=y.aD-(aB (aR r) 1 (nn-paid) c).sum} (cw 1 (aB (aR r) 1 (nn-paid) c) c) (out++cd q kd 0 (aB (aR r) 1 (nn-paid) c)) (by omega) (by omega) (by omega) g1 (by omega) (by omega) (by simp only;omega) (by simp only;omega) p4 (by rw[zab];omega);rw[aa (n:=r+1) (by omega) (by omega),aa (n:=paid+(aB (aR r) 1 (nn-paid) c).sum) (by omega) (by omega),this];simp only[bR];rw[show nn-(paid+(aB (aR r) 1 (nn-paid) c).sum)=nn-paid-(aB (aR r) 1 (nn-paid) c).sum by omega];simp only[zcl,zaq,Int.sub_sub]
def f209:Int × bC × Int × Int × LD0 × LD0->Bool × List Un:=fun(a0,a1,a2,a3,a4,a5)=>(decide (0<=a0/\a0<=a1.aD/\a1.aD<=1152921504606846976/\a5.length<=34359738368)&&bk a4,[.i ((bR a2 a3 8 0 a0 a4).2.2)]++Uns.enc (({a1 with aD:=a1.aD-(bR a2 a3 8 0 a0 a4).2.2}):bC)++[.i (a2),.i (a3),.d ((bR a2 a3 8 0 a0 a4).1),.d (a5++(bR a2 a3 8 0 a0 a4).2.1)])
theorem O0:ER 209 (mkE ZK.en ZK.ex f209):=ak ae VT.right (fun m=>[Ix (uE m m)]) (t:=t209) (by kernel_rfl) (fun m=>(aI (YS m m) az)) (fun m a=>by kernel_rfl) fun(a0,a1,a2,a3,a4,a5) hc=>by
 dsimp only[f209]at hc⊢;simp only[zae,zag]at hc;obtain⟨⟨h1,h2,h3,h4⟩,h5⟩:=hc;refine⟨20, ?_⟩;have:=acr 20 a0 a2 a3 8 20 0 0 a1 a4 a5 (by omega) (by omega) (by omega) h5 (by omega) (by omega) (by omega) h3 (by omega) (by omega);simp only[zbv,za4]at this;exact this
def Yp:TB:=VT.ad O0
def ada:aA:=⟨Yp.tab,185,⟨[.ptr 0 0 0,.agg [.z0,.z0]],[.cells [.z0,.z0,.z0,.z0,.z0,.buf 1 3,.z0,.z0,.buf 2 4],.ab (sI 3),.ab (sI 4)],0⟩,⟨[],[.cells [.z0,.z0,.z0,.z0,.z0,.buf 1 3,.z0,.z0,.buf 3 4],.ab (sI 3),.gone,.ab (sI 4)],0⟩,[]⟩
def t185 (m:Nat):Int × Int × bC × Int × Int × LD0 × LD0->OU0:=fun(a0,a1,a2,a3,a4,a5,a6)=>
 bif a0==1 then
 lt ((if a2.aD<a2.fee then a2.aD else a2.fee):Int) fun x1=>
 lt ((if x1<0 then 0 else x1):Int) fun x2=>
 bif decide (x2>0)then
 chk (fits (a6.length+1) 32)<|
 some (Uns.enc (({a2 with aD:=(w64 (a2.aD-x2)),fee:=(w64 (a2.fee-x2))}:bC):bC)++[.i a3,.i a4,.d a5,.d (a6++([.r [.n a3,.n a4,.n (-1),.n x2]]))])
 else
 some (Uns.enc (({a2 with aD:=(w64 (a2.aD-x2)),fee:=(w64 (a2.fee-x2))}:bC):bC)++[.i a3,.i a4,.d a5,.d a6])
 else
 bif a0==2 then
 lt ((if a2.aD<a2.cf then a2.aD else a2.cf):Int) fun x4=>
 lt ((if x4<0 then 0 else x4):Int) fun x5=>
 bif decide (x5>0)then
 chk (fits (a6.length+1) 32)<|
 some (Uns.enc (({a2 with aD:=(w64 (a2.aD-x5)),cf:=(w64 (a2.cf-x5))}:bC):bC)++[.i a3,.i a4,.d a5,.d (a6++([.r [.n a3,.n a4,.n (-1),.n x5]]))])
 else
 some (Uns.enc (({a2 with aD:=(w64 (a2.aD-x5)),cf:=(w64 (a2.cf-x5))}:bC):bC)++[.i a3,.i a4,.d a5,.d a6])
 else
 bif a0==6 then
 lt ((if a2.aD<a2.room then a2.aD else a2.room):Int) fun x7=>
 lt ((if x7<0 then 0 else x7):Int) fun x8=>
 bif decide (x8>0)then
 chk (fits (a6.length+1) 32)<|
 some (Uns.enc (({a2 with aD:=(w64 (a2.aD-x8)),room:=(w64 (a2.room-x8))}:bC):bC)++[.i a3,.i a4,.d a5,.d (a6++([.r [.n a3,.n a4,.n (-1),.n x8]]))])
 else
 some (Uns.enc (({a2 with aD:=(w64 (a2.aD-x8)),room:=(w64 (a2.room-x8))}:bC):bC)++[.i a3,.i a4,.d a5,.d a6])
 else
 bif a0==3 then
 chk (decide (a2.aD<=9223372036854775807/\0<=a2.aD/\a2.aD<=1152921504606846976/\a6.length<=68719476736)&&bk a5)<|
 some (Uns.enc (({a2 with aD:=a2.aD-(aB (aR a1) 2 a2.aD a5).sum}):bC)++[.i a3,.i a4,.d (cw 2 (aB (aR a1) 2 a2.aD a5) a5),.d (a6++cd a3 a4 0 (aB (aR a1) 2 a2.aD a5))])
 else
 bif a0==4 then
 lt ((if a2.aD<a2.ar then a2.aD else a2.ar):Int) fun x12=>
 chk (decide (0<=x12/\x12<=a2.aD/\a2.aD<=1152921504606846976/\a6.length<=34359738368)&&bk a5)<|
 lt (({a2 with aD:=a2.aD-(bR a3 a4 8 0 x12 a5).2.2}):bC) fun g13=>
 chk (decide (a2.ar=g13.ar))<|
 some (Uns.enc (({g13 with ar:=(w64 (a2.ar-((bR a3 a4 8 0 x12 a5).2.2)))}:bC):bC)++[.i a3,.i a4,.d ((bR a3 a4 8 0 x12 a5).1),.d (a6++(bR a3 a4 8 0 x12 a5).2.1)])
 else
 bif a0==5 then
 lt ((if a2.aD<a2.ar then a2.aD else a2.ar):Int) fun x16=>
 chk (decide (x16<=9223372036854775807/\0<=a2.aD/\a2.aD<=1152921504606846976/\a6.length<=68719476736)&&bk a5)<|
 lt (({a2 with aD:=a2.aD-(aB (fun _=>true) 1 x16 a5).sum}):bC) fun g18=>
 chk (decide (a2.ar=g18.ar))<|
 some (Uns.enc (({g18 with ar:=(w64 (a2.ar-((aB (fun _=>true) 1 x16 a5).sum)))}:bC):bC)++[.i a3,.i a4,.d (cw 1 (aB (fun _=>true) 1 x16 a5) a5),.d (a6++cd a3 a4 0 (aB (fun _=>true) 1 x16 a5))])
 else
 bif a0==7 then
 chk (decide (0<=a2.aD/\a2.aD<=a2.aD/\a2.aD<=1152921504606846976/\a6.length<=34359738368)&&bk a5)<|
 some (Uns.enc (({a2 with aD:=a2.aD-(bR a3 a4 8 0 a2.aD a5).2.2}):bC)++[.i a3,.i a4,.d ((bR a3 a4 8 0 a2.aD a5).1),.d (a6++(bR a3 a4 8 0 a2.aD a5).2.1)])
 else
 some (Uns.enc (a2:bC)++[.i a3,.i a4,.d a5,.d a6])
def f185:Int × Int × bC × Int × Int × LD0 × LD0->Bool × List Un:=fun(a0,a1,a2,a3,a4,a5,a6)=>(decide (a4=a0/\a6.length<=17179869184)&&(su a2&&bk a5),Uns.enc (((fq a3 a0 a1 a2 a5).1):bC)++[.i (a3),.i (a4),.d ((fq a3 a0 a1 a2 a5).2.1),.d (a6++(fq a3 a0 a1 a2 a5).2.2)])
set_option maxHeartbeats 2000000 in
theorem Qz:ER 185 (mkE ada.en ada.ex f185):=ak ae Yp.right (fun m=>[]) (t:=t185) (by kernel_rfl) (fun m=>az) (fun m a=>by kernel_rfl) fun(a0,a1,a2,a3,a4,a5,a6) hc=>by
 dsimp only[f185]at hc⊢;simp only[zae,zag]at hc;obtain⟨⟨rfl,ho⟩,hx,hc⟩:=hc;have hx':=yj hx;have hcl:=(cr hc).1;have w2:=fun sel j hj=>(qh (c:=a5) sel (j:=j) hj hc).2.2
 have s2:=fun sel j hj n=>(dQ (c:=a5) sel (j:=j) hj n hc).2.1
 have mm:∀a b:Int,(if b<a then b else a)=min a b:=fun a b=>by omega
 have mx:∀a:Int,(if a<0 then 0 else a)=max a 0:=fun a=>by omega
 refine⟨0, ?_⟩;unfold t185 fq;dsimp only;simp only[lt_eq,mm,mx];have one:∀(z:Int) (u:bC) (o2:LD0),0<=z->∀v:bC,u=v->(bif decide (z>0)then chk (fits (a6.length+1) 32) (some (Uns.enc (u:bC)++[.i a3,.i a4,.d a5,.d (a6++([.r [.n a3,.n a4,.n (-1),.n z]]))]))else some (Uns.enc (u:bC)++[.i a3,.i a4,.d a5,.d a6]))=some (Uns.enc (v:bC)++[.i a3,.i a4,.d a5,.d (a6++nf a3 a4 z)]):=by
  intro z u o2 hz v huv;subst huv;unfold nf
  by_cases h:z>0
  . rw[aK h,bD (by omega) (by omega),if_pos (by omega)]
  . rw[ay h,if_neg (by omega),zaK]
 by_cases k1:a4=1
 . rw[dY k1,if_pos k1];rw[show max (min a2.fee a2.aD) 0=min a2.fee a2.aD by omega];exact one _ _ [] (by omega) _ (by rw[aa (by omega) (by omega),aa (by omega) (by omega)])
 rw[dL k1,if_neg k1]
 by_cases k2:a4=2
 . rw[dY k2,if_pos k2];rw[show max (min a2.cf a2.aD) 0=min a2.cf a2.aD by omega];exact one _ _ [] (by omega) _ (by rw[aa (by omega) (by omega),aa (by omega) (by omega)])
 rw[dL k2,if_neg k2]
 by_cases k6:a4=6
 . rw[dY k6,if_pos k6];rw[show max (min a2.room a2.aD) 0=min a2.room a2.aD by omega];exact one _ _ [] (by omega) _ (by rw[aa (by omega) (by omega),aa (by omega) (by omega)])
 rw[dL k6,if_neg k6]
 by_cases k3:a4=3
 . rw[dY k3,if_pos k3,hc,zbf,aJ (by omega)]
 rw[dL k3,if_neg k3]
 by_cases k4:a4=4
 . rw[dY k4,if_pos k4,hc,zbf,aJ (by omega),aJ trivial];have q:=zB a3 a4 8 0 (min a2.ar a2.aD) a5 hc;generalize bR a3 a4 8 0 (min a2.ar a2.aD) a5=y at*
   rw[aa (by omega) (by omega)]
 rw[dL k4,if_neg k4]
 by_cases k5:a4=5
 . rw[dY k5,if_pos k5,hc,zbf,aJ (by omega),aJ trivial];have q1:=s2 (fun _=>true) 1 (.inl rfl) (min a2.ar a2.aD);have q2:=w2 (fun _=>true) 1 (.inl rfl);rw[aa (n:=a2.ar-_) (by omega) (by omega)]
 rw[dL k5,if_neg k5]
 by_cases k7:a4=7
 . rw[dY k7,if_pos k7,hc,zbf,aJ (by omega)]
 rw[dL k7,if_neg k7,zaK]
def TU:TB:=Yp.ad Qz
def Yw:aA:=⟨TU.tab,144,⟨[.z0,.agg [.z0,.z0,.z0,.z0,.ab (sI 3)],.ab (sI 2)],[],0⟩,⟨[.buf 0 4,.z0,.agg [.z0,.z0,.z0,.z0,.buf 1 3]],[.ab (sI 4),.ab (sI 3)],0⟩,[]⟩
abbrev D6:Type:=LD0 × Int × Int × Int × Int × Int × Int × bC × Int × Int × LD0 × LD0 × LD0
def xH (m:Nat) (k:D6->OU0):D6->OU0:=fun(a0,a1,a2,a3,a4,a5,a6,a7,a8,a9,a10,a11,a12)=>
 bif decide (a2<a1)then
 chk (inb a2 a0.length)<|
 chk (decide (a2.toNat<a0.length))<|
 lt (ai a0 a2.toNat:Dat) fun d1=>
 chk (decide ((d1.i 0)=(d1.i 0)/\a12.length<=17179869184)&&(su a7&&bk a11))<|
 k (a0,a1,(w64 (a2+1)),a3,a4,a5,a6,((fq a2 (d1.i 0) (d1.i 1) a7 a11).1),a2,(d1.i 0),a10,((fq a2 (d1.i 0) (d1.i 1) a7 a11).2.1),(a12++(fq a2 (d1.i 0) (d1.i 1) a7 a11).2.2))
 else
 some ([.i a7.aD,.i a7.fee,.i a7.cf,.i a7.ar,.i a7.room,.d a12,.d a11])
def uu (m:Nat):Nat->D6->OU0:=aX (xH m)
theorem xh (m:Nat) (n:Nat):uu m (n+1)=xH m (uu m n):=rfl
def KH (F:D6->OU0):aQ:=⟨[.lp [0,1,0,1,1,1],.blk 0,.code [1,1,1,1]],⟨frm 52 [(8,.ptr 0 0 0),(9,.ptr 1 0 0),(20,.ab (sI 2)),(21,.z0),(22,.z0)],[.cells [.z0,.z0,.z0,.z0,.buf 2 3],.cells [.z0,.z0,.z0,.z0,.z0,.buf 3 3,.z0,.z0,.buf 4 4],.ab (sI 3),.ab (sI 3),.ab (sI 4)],0⟩,onU F⟩
theorem XY (m:Nat):∀n,HO Yw (KH (uu m n)):=an ae TU.right (fun k=>[KH k]) (fun k h=>(aI h az)) fun k a=>by kernel_rfl
def t144 (m:Nat):Int × Int × Int × Int × Int × LD0 × LD0->OU0:=fun(a0,a1,a2,a3,a4,a5,a6)=>
 chk (decide (a5.length<1000000))<|
 uu m m (a6,(a6.length:Int),0,0,0,0,0,(⟨a0,a1,a2,a3,a4⟩:bC),0,0,[],a5,[])
theorem aaw (m:Nat) (z1 z2 z3 z4:Int) (zl:LD0):∀(rest pre:LD0) (n:Nat) (y:bC) (q kd:Int) (c out:LD0),rest.length<n->(pre++rest).length<=1000000->su y=true->bk c=true->out.length<=8000*pre.length->
 uu m n (pre++rest,((pre++rest).length:Int),(pre.length:Int),z1,z2,z3,z4,y,q,kd,zl,c,out)=some [.i (fT pre.length rest y c).1.aD,.i (fT pre.length rest y c).1.fee,.i (fT pre.length rest y c).1.cf,.i (fT pre.length rest y c).1.ar,.i (fT pre.length rest y c).1.room,.d (out++(fT pre.length rest y c).2.2),.d (fT pre.length rest y c).2.1]:=by
 intro rest
 induction rest with
 |nil=>
  intro pre n y q kd c out hn hl hy hc ho;obtain⟨n,rfl⟩:=ah n (by simp at hn;omega);rw[xh];unfold xH;dsimp only;simp[ay,fT]
 |cons x rest ih=>
  intro pre n y q kd c out hn hl hy hc ho;obtain⟨n,rfl⟩:=ah n (by simp at hn;omega);simp only[zac,zab]at hn hl;obtain⟨s1,s2,s3,s4⟩:=s8 pre.length (x.i 0) (x.i 1) hy hc;have:=ih (pre++[x]) n _ (pre.length:Int) (x.i 0) _ (out++(fq pre.length (x.i 0) (x.i 1) y c).2.2) (by omega) (by simp;omega) s1 s2 (by simp;omega);simp only[fT];rw[xh];unfold xH;dsimp only;simp only[hy,hc,zck,zbf];simp only[zat,ax,lt_eq];generalize fq pre.length (x.i 0) (x.i 1) y c=u at*
  simp only[hy,hc,zck,zbf,za3,true_and];simp(disch:=omega) only[TRa,TRi,aa,LNl,LNi,zad,ax];simp only[LNl,LNi,zad]at this⊢;exact this
def f144:Int × Int × Int × Int × Int × LD0 × LD0->Bool × List Un:=fun(a0,a1,a2,a3,a4,a5,a6)=>(decide (a6.length<=1000000)&&(su ⟨a0,a1,a2,a3,a4⟩&&bk a5),[.i ((fT 0 a6 ⟨a0,a1,a2,a3,a4⟩ a5).1.aD),.i ((fT 0 a6 ⟨a0,a1,a2,a3,a4⟩ a5).1.fee),.i ((fT 0 a6 ⟨a0,a1,a2,a3,a4⟩ a5).1.cf),.i ((fT 0 a6 ⟨a0,a1,a2,a3,a4⟩ a5).1.ar),.i ((fT 0 a6 ⟨a0,a1,a2,a3,a4⟩ a5).1.room),.d ((fT 0 a6 ⟨a0,a1,a2,a3,a4⟩ a5).2.2),.d ((fT 0 a6 ⟨a0,a1,a2,a3,a4⟩ a5).2.1)])
theorem OY:ER 144 (mkE Yw.en Yw.ex f144):=ak ae TU.right (fun m=>[KH (uu m m)]) (t:=t144) (by kernel_rfl) (fun m=>(aI (XY m m) az)) (fun m a=>by kernel_rfl) fun(a0,a1,a2,a3,a4,a5,a6) hc=>by
 dsimp only[f144]at hc⊢;simp only[zae,zag]at hc;obtain⟨h1,h2,h3⟩:=hc;have hl:=(cr h3).1;refine⟨a6.length+1, ?_⟩;unfold t144;dsimp only;rw[aJ (by omega)];exact aaw _ 0 0 0 0 [] a6 [] (a6.length+1) _ 0 0 a5 [] (by omega) (by simpa using h1) h2 h3 (by simp)
def ZE:TB:=TU.ad OY
theorem gG (j:Nat):∀l:LD0,(∀d∈l,0<=d.i j)->0<=au j l
 |[],_=>by simp[au]
 |d::l,h=>by
  have:=h d (by simp);have:=gG j l fun x hx=>h x (by simp[hx])
  simp only[au];omega
theorem Bo (j:Nat):∀a b:LD0,au j (a++b)=au j a+au j b
 |[],b=>by simp[au]
 |d::a,b=>by simp only[zaC,au,Bo j a b];omega
theorem yV (a k:Int):∀(xs:LI0) (i:Int),(∀x∈xs,0<=x)->au 3 (cd a k i xs)=xs.sum
 |[],i,_=>rfl
 |x::xs,i,h=>by
  have:=yV a k xs (i+1) fun y hy=>h y (by simp[hy])
  have h0:=h x (by simp);simp only[cd,Bo,zbs,this]
  by_cases hx:0<x
  . rw[if_pos hx];simp[au,gQ]
  . rw[if_neg hx];simp only[au];omega
theorem Kx {c:LD0} (sel:Dat->Bool) {j:Nat} (hj:j=1\/j=2) (n:Int) (h:bk c=true):∀x∈aB sel j n c,0<=x:=fun x hx=>by
 obtain⟨l1,l2,l3⟩:=dQ sel hj n h;obtain⟨i,hi,rfl⟩:=tw hx;rw[l1]at hi;exact(l3 i hi).1
def bE (f:Dat->Bool):LD0->Int
 |[]=>0
 |d::l=>(bif f d then d.i 3 else 0)+bE f l
theorem kH (f:Dat->Bool):∀a b:LD0,bE f (a++b)=bE f a+bE f b
 |[],b=>by simp[bE]
 |d::a,b=>by simp only[zaC,bE,kH f a b];omega
theorem iK (f:Dat->Bool):∀l:LD0,(∀d∈l,f d=false)->bE f l=0
 |[],_=>rfl
 |d::l,h=>by simp only[bE,h d (by simp),iK f l (fun x hx=>h x (by simp[hx])),zal];rfl
theorem Gw (f:Dat->Bool):∀l:LD0,(∀d∈l,f d=true)->bE f l=au 3 l
 |[],_=>rfl
 |d::l,h=>by simp only[bE,au,h d (by simp),Gw f l (fun x hx=>h x (by simp[hx])),zaw]
theorem uj {f g:Dat->Bool}:∀l:LD0,(∀d∈l,f d=g d)->bE f l=bE g l
 |[],_=>rfl
 |d::l,h=>by simp only[bE,h d (by simp),uj l (fun x hx=>h x (by simp[hx]))]
def kF (d:Dat):Bool:=d.i 1==1
def kR (d:Dat):Bool:=d.i 1==2
def kT (d:Dat):Bool:=d.i 1==6
def kI (d:Dat):Bool:=d.i 1==3
def kB (d:Dat):Bool:= !kF d&& !kR d&& !kT d&& !kI d
def kP (d:Dat):Bool:=kB d&&d.i 1 !=7
def toI (i:Nat) (d:Dat):Bool:=kI d&&d.i 2==(i:Int)
def toB (i:Nat) (d:Dat):Bool:=kB d&&d.i 2==(i:Int)
theorem ot (a k:Int):∀(xs:LI0) (i:Int),∀d∈cd a k i xs,d.i 0=a/\d.i 1=k/\(i<=d.i 2/\d.i 2<i+xs.length)/\1<=d.i 3/\d.i 3=xs.getD (d.i 2-i).toNat 0
 |[],i,d,h=>by simp[cd]at h
 |x::xs,i,d,h=>by
  simp only[cd,za0]at h;rcases h with h|h
  . by_cases hx:0<x
    . rw[if_pos hx]at h;rw[zbg.1 h];refine⟨rfl,rfl, ?_, ?_, ?_⟩
      . simp only[jK,zac,zaL];omega
      . simp only[gQ];omega
      . simp only[jK,gQ,Int.sub_self,Int.toNat_zero,zaO]
    . rw[if_neg hx]at h;cases h
  . obtain⟨h1,h2,h3,h4,h5⟩:=ot a k xs (i+1) d h;simp only[zac,zaL];refine⟨h1,h2,by omega,h4, ?_⟩;rw[show(d.i 2-i).toNat=(d.i 2-(i+1)).toNat+1 by omega,zaE];exact h5
theorem Dc (a k:Int):∀(xs:LI0) (i:Int) (j:Nat),(∀x∈xs,0<=x)->bE (fun d=>d.i 2==i+j) (cd a k i xs)=xs.getD j 0
 |[],i,j,_=>by simp[cd,bE]
 |x::xs,i,j,h=>by
  have h0:=h x (by simp);simp only[cd,kH];cases j with
  |zero=>
   have e:bE (fun d=>d.i 2==i+((0:Nat):Int)) (cd a k (i+1) xs)=0:=iK _ _ fun d hd=>by
    have:=ot a k xs (i+1) d hd;simp only[zbU];omega
   rw[e,zaO]
   by_cases hx:0<x
   . rw[if_pos hx];simp[bE,jK,gQ]
   . rw[if_neg hx];simp only[bE];omega
  |succ j=>
   have:=Dc a k xs (i+1) j fun y hy=>h y (by simp[hy])
   rw[show i+1+(j:Int)=i+((j+1:Nat):Int) by omega]at this;rw[this,zaE]
   by_cases hx:0<x
   . rw[if_pos hx];simp only[bE,jK];rw[show(i==i+((j+1:Nat):Int))=false by simp only[zbU];omega];simp
   . rw[if_neg hx];simp[bE]
structure Kept (x : bC) (c ps : List Dat) (x' : bC) (c' : List Dat) : Prop where
 aD:x'.aD=x.aD-au 3 ps
 fee:x'.fee=x.fee-bE kF ps
 cf:x'.cf=x.cf-bE kR ps
 room:x'.room=x.room-bE kT ps
 pri:x'.ar=x.ar-bE kP ps
 len:c'.length=c.length
 row:∀i,i<c.length->ai c' i= .r [.n ((ai c i).i 0),.n ((ai c i).i 1-bE (toB i) ps),.n ((ai c i).i 2-bE (toI i) ps)]
theorem Kept.refl {x:bC} {c:LD0} (h:∀d∈c,pj 3 d=true):Kept x c [] x c:=by
 refine⟨by simp[au],by simp[bE],by simp[bE],by simp[bE],by simp[bE],rfl,fun i hi=> ?_⟩;simp only[bE,zbv];exact Iq (h _ (mN hi))
theorem Kept.trans {x x' x'':bC} {c c' c'' ps qs:LD0} (a:Kept x c ps x' c') (b:Kept x' c' qs x'' c''):Kept x c (ps++qs) x'' c'':=by
 refine⟨?_, ?_, ?_, ?_, ?_,b.len.trans a.len,fun i hi=> ?_⟩
 . rw[b.aD,a.aD,Bo];omega
 . rw[b.fee,a.fee,kH];omega
 . rw[b.cf,a.cf,kH];omega
 . rw[b.room,a.room,kH];omega
 . rw[b.pri,a.pri,kH];omega
 . rw[b.row i (by rw[a.len];exact hi),a.row i hi,kH,kH];simp only[Sq,fQ,jK];rw[show(ai c i).i 1-bE (toB i) ps-bE (toB i) qs=(ai c i).i 1-(bE (toB i) ps+bE (toB i) qs) by omega,show(ai c i).i 2-bE (toI i) ps-bE (toI i) qs=(ai c i).i 2-(bE (toI i) ps+bE (toI i) qs) by omega]
theorem Kept.shares {c:LD0} (sel:Dat->Bool) (n:Int) (h:bk c=true) (x:bC) (a:Int) {j:Nat} {kd:Int} (hk:(j=2/\kd=3)\/(j=1/\(kd=4\/kd=5\/kd=7))):
 Kept x c (cd a kd 0 (aB sel j n c)) {x with aD:=x.aD-(aB sel j n c).sum,ar:=if kd=4\/kd=5 then x.ar-(aB sel j n c).sum else x.ar} (cw j (aB sel j n c) c):=by
 have hj:j=1\/j=2:=by omega
 obtain⟨l1,l2,l3⟩:=dQ sel hj n h;obtain⟨h1,h2⟩:=cr h;have hm:=Kx sel hj n h;have hp:=ot a kd (aB sel j n c) 0;have hs:=yV a kd (aB sel j n c) 0 hm;have hat:=fun i=>Dc a kd (aB sel j n c) 0 i hm
 have kk:∀d∈cd a kd 0 (aB sel j n c),kF d=false/\kR d=false/\kT d=false/\kI d=(kd==3)/\kB d= !(kd==3):=fun d hd=>by
  have:=(hp d hd).2.1;simp only[kB,kF,kR,kT,kI,this];rcases hk with⟨_,rfl⟩|⟨_,rfl|rfl|rfl⟩<;>decide
 refine⟨by rw[hs], ?_, ?_, ?_, ?_,pI j _ c l1,fun i hi=> ?_⟩
 . rw[iK kF _ fun d hd=>(kk d hd).1];simp
 . rw[iK kR _ fun d hd=>(kk d hd).2.1];simp
 . rw[iK kT _ fun d hd=>(kk d hd).2.2.1];simp
 . by_cases h45:kd=4\/kd=5
   . simp only[if_pos h45];rw[Gw kP _ fun d hd=>by
      have:=(kk d hd).2.2.2.2;have h6:=(hp d hd).2.1;simp only[kP,this,h6];rcases h45 with rfl|rfl<;>rfl,hs]
   . simp only[if_neg h45];rw[iK kP _ fun d hd=>by
      have:=(kk d hd).2.2.2.2;have h6:=(hp d hd).2.1;simp only[kP,this,h6];rcases hk with⟨_,rfl⟩|⟨_,rfl|rfl|rfl⟩
      . rfl
      . exact absurd (.inl rfl) h45
      . exact absurd (.inr rfl) h45
      . rfl]
     simp
 . rw[pJ j _ c i l1 hi];have e2:=hat i;simp only[za4]at e2;rcases hk with⟨rfl,rfl⟩|⟨rfl,hk⟩
   . have a1:bE (toB i) (cd a 3 0 (aB sel 2 n c))=0:=iK _ _ fun d hd=>by simp only[toB,(kk d hd).2.2.2.2];rfl
     have a2:bE (toI i) (cd a 3 0 (aB sel 2 n c))=(aB sel 2 n c).getD i 0:=by
      rw[<-e2];exact uj _ fun d hd=>by simp only[toI,(kk d hd).2.2.2.1];rfl
     rw[a1,a2];simp only[cM,show ¬(2:Nat)=1 by decide,zbp,zbv]
   . have k3:(kd==3)=false:=by rcases hk with rfl|rfl|rfl<;>rfl
     have a1:bE (toI i) (cd a kd 0 (aB sel 1 n c))=0:=iK _ _ fun d hd=>by simp only[toI,(kk d hd).2.2.2.1,k3];rfl
     have a2:bE (toB i) (cd a kd 0 (aB sel 1 n c))=(aB sel 1 n c).getD i 0:=by
      rw[<-e2];exact uj _ fun d hd=>by simp only[toB,(kk d hd).2.2.2.2,k3];rfl
     rw[a1,a2];simp only[cM,zbh,zbv]
theorem Kept.rf {a kd:Int} (hk:kd=4\/kd=7):∀(k:Nat) (r n:Int) (x:bC) (c:LD0),bk c=true->
 Kept x c (bR a kd k r n c).2.1 {x with aD:=x.aD-(bR a kd k r n c).2.2,ar:=if kd=4 then x.ar-(bR a kd k r n c).2.2 else x.ar} (bR a kd k r n c).1
 |0,r,n,x,c,h=>by
  have:=Kept.refl (x:=x) fun d hd=>(cZ ((cr h).2 d hd)).1
  simp only[bR,zbv,ite_self];exact this
 |k+1,r,n,x,c,h=>by
  obtain⟨g1,g2⟩:=qP (aR r) (j:=1) (.inl rfl) n h;have a1:=Kept.shares (aR r) n h x a (j:=1) (kd:=kd) (.inr ⟨rfl,by omega⟩);have a2:=Kept.rf (a:=a) hk k (r+1) (n-(aB (aR r) 1 n c).sum) {x with aD:=x.aD-(aB (aR r) 1 n c).sum,ar:=if kd=4\/kd=5 then x.ar-(aB (aR r) 1 n c).sum else x.ar} _ g1;have:=a1.trans a2;simp only[bR];have e:(if kd=4\/kd=5 then x.ar-(aB (aR r) 1 n c).sum else x.ar)=if kd=4 then x.ar-(aB (aR r) 1 n c).sum else x.ar:=by
   rcases hk with rfl|rfl<;>simp
  simp only[e]at this;generalize (bR a kd k (r+1) (n-(aB (aR r) 1 n c).sum) (cw 1 (aB (aR r) 1 n c) c)).2.2=y at*
  by_cases h4:kd=4
  . simp only[if_pos h4,Int.sub_sub]at this⊢;exact this
  . simp only[if_neg h4,Int.sub_sub]at this⊢;exact this
def Gk (n:Nat) (a kd:Int) (d:Dat):Prop:=d.i 0=a/\d.i 1=kd/\1<=d.i 3/\(-1<=d.i 2/\d.i 2<n)/\(d.i 2<0↔(kd=1\/kd=2\/kd=6))
theorem uI {a kd:Int} {xs:LI0} {n:Nat} (hl:xs.length=n) (hk:¬(kd=1\/kd=2\/kd=6)):∀d∈cd a kd 0 xs,Gk n a kd d:=fun d hd=>by
 obtain⟨h1,h2,h3,h4,h5⟩:=ot a kd xs 0 d hd;exact⟨h1,h2,h4,by omega,by omega⟩
theorem rM {a kd:Int} (hk:¬(kd=1\/kd=2\/kd=6)):∀(k:Nat) (r n:Int) (c:LD0),bk c=true->∀d∈(bR a kd k r n c).2.1,Gk c.length a kd d
 |0,r,n,c,h,d,hd=>by simp[bR]at hd
 |k+1,r,n,c,h,d,hd=>by
  obtain⟨g1,g2⟩:=qP (aR r) (j:=1) (.inl rfl) n h;obtain⟨l1,l2,l3⟩:=dQ (aR r) (j:=1) (.inl rfl) n h;simp only[bR]at hd;rcases za0.1 hd with hd|hd
  . exact uI l1 hk d hd
  . have:=rM hk k (r+1) _ _ g1 d hd
    rwa [g2]at this
theorem ql {x:bC} {c:LD0} (h:bk c=true) (a kd n:Int) (h0:0<=n) (hk:kd=1\/kd=2\/kd=6):
 Kept x c (nf a kd n) {x with aD:=x.aD-n,fee:=if kd=1 then x.fee-n else x.fee,cf:=if kd=2 then x.cf-n else x.cf,room:=if kd=6 then x.room-n else x.room} c/\∀d∈nf a kd n,Gk c.length a kd d:=by
 have hr:∀d∈c,pj 3 d=true:=fun d hd=>(cZ ((cr h).2 d hd)).1
 unfold nf
 by_cases hn:0<n
 . rw[if_pos hn];refine⟨⟨by simp[au,gQ], ?_, ?_, ?_, ?_,rfl,fun i hi=> ?_⟩,fun d hd=> ?_⟩
   . simp only[bE,kF,fQ,gQ];rcases hk with rfl|rfl|rfl<;>simp
   . simp only[bE,kR,fQ,gQ];rcases hk with rfl|rfl|rfl<;>simp
   . simp only[bE,kT,fQ,gQ];rcases hk with rfl|rfl|rfl<;>simp
   . simp only[bE,kP,kB,kF,kR,kT,kI,fQ,gQ];rcases hk with rfl|rfl|rfl<;>simp
   . have a1:bE (toB i) [Dat.r [.n a,.n kd,.n (-1),.n n]]=0:=by simp only[bE,toB,kB,kF,kR,kT,kI,fQ,jK];rcases hk with rfl|rfl|rfl<;>simp
     have a2:bE (toI i) [Dat.r [.n a,.n kd,.n (-1),.n n]]=0:=by simp only[bE,toI,kI,fQ,jK];rcases hk with rfl|rfl|rfl<;>simp
     rw[a1,a2,zbv,zbv];exact Iq (hr _ (mN hi))
   . rw[zbg.1 hd];refine⟨rfl,rfl, ?_, ?_, ?_⟩
     . show(1:Int)<=n;exact hn
     . exact⟨zcb (-1),by show(-1:Int)<(c.length:Int);omega⟩
     . show(-1:Int)<0↔_;exact⟨fun _=>hk,fun _=>by decide⟩
 . rw[if_neg hn];obtain rfl:n=0:=by omega
   simp only[zbv,ite_self];exact⟨Kept.refl hr,fun d hd=>by cases hd⟩
theorem JS (a kd rk:Int) {x:bC} {c:LD0} (hx:su x=true) (h:bk c=true):Kept x c (fq a kd rk x c).2.2 (fq a kd rk x c).1 (fq a kd rk x c).2.1/\∀d∈(fq a kd rk x c).2.2,Gk c.length a kd d:=by
 have hx':=yj hx;have s1:=fun sel j hj n=>(dQ (c:=c) sel (j:=j) hj n h).1
 unfold fq
 by_cases k1:kd=1
 . rw[if_pos k1];have:=ql (x:=x) h a kd (min x.fee x.aD) (by omega) (.inl k1);subst k1;exact this
 rw[if_neg k1]
 by_cases k2:kd=2
 . rw[if_pos k2];have:=ql (x:=x) h a kd (min x.cf x.aD) (by omega) (.inr (.inl k2));subst k2;exact this
 rw[if_neg k2]
 by_cases k6:kd=6
 . rw[if_pos k6];have:=ql (x:=x) h a kd (min x.room x.aD) (by omega) (.inr (.inr k6));subst k6;exact this
 rw[if_neg k6];have hk:¬(kd=1\/kd=2\/kd=6):=by omega
 by_cases k3:kd=3
 . rw[if_pos k3];have:=Kept.shares (aR rk) x.aD h x a (j:=2) (kd:=kd) (.inl ⟨rfl,k3⟩);rw[if_neg (by omega)]at this;exact⟨this,uI (s1 (aR rk) 2 (.inr rfl) x.aD) hk⟩
 rw[if_neg k3]
 by_cases k4:kd=4
 . rw[if_pos k4];have:=Kept.rf (a:=a) (kd:=kd) (.inl k4) 8 0 (min x.ar x.aD) x c h;simp only[if_pos k4]at this;have hp:=rM (a:=a) hk 8 0 (min x.ar x.aD) c h;generalize bR a kd 8 0 (min x.ar x.aD) c=y at*
   exact⟨this,hp⟩
 rw[if_neg k4]
 by_cases k5:kd=5
 . rw[if_pos k5];have:=Kept.shares (fun _=>true) (min x.ar x.aD) h x a (j:=1) (kd:=kd) (.inr ⟨rfl,by omega⟩);rw[if_pos (by omega)]at this;exact⟨this,uI (s1 (fun _=>true) 1 (.inl rfl) _) hk⟩
 rw[if_neg k5]
 by_cases k7:kd=7
 . rw[if_pos k7];have:=Kept.rf (a:=a) (kd:=kd) (.inr k7) 8 0 x.aD x c h;simp only[if_neg k4]at this;have hp:=rM (a:=a) hk 8 0 x.aD c h;generalize bR a kd 8 0 x.aD c=y at*
   exact⟨this,hp⟩
 rw[if_neg k7];exact⟨Kept.refl fun d hd=>(cZ ((cr h).2 d hd)).1,fun d hd=>by cases hd⟩
def QF (n:Nat) (a:Int) (l:LD0) (d:Dat):Prop:=(a<=d.i 0/\d.i 0<a+l.length)/\Gk n (d.i 0) (ai l (d.i 0-a).toNat |>.i 0) d
theorem Cv:∀(l:LD0) (a:Int) (x:bC) (c:LD0),su x=true->bk c=true->Kept x c (fT a l x c).2.2 (fT a l x c).1 (fT a l x c).2.1/\(∀d∈(fT a l x c).2.2,QF c.length a l d)/\(fT a l x c).2.2.Pairwise fun d e=>d.i 0<=e.i 0
 |[],a,x,c,hx,h=>⟨Kept.refl fun d hd=>(cZ ((cr h).2 d hd)).1,fun d hd=>by simp[fT]at hd,List.Pairwise.nil⟩
 |s::l,a,x,c,hx,h=>by
  obtain⟨h1,h2,h3,h4⟩:=s8 a (s.i 0) (s.i 1) hx h;obtain⟨k1,k2⟩:=JS a (s.i 0) (s.i 1) hx h;obtain⟨i1,i2,i3⟩:=Cv l (a+1) _ _ h1 h2;simp only[fT];refine⟨k1.trans i1,fun d hd=> ?_, ?_⟩
  . rcases za0.1 hd with hd|hd
    . obtain⟨g0,g1,g2,g3,g4⟩:=k2 d hd;refine⟨by rw[g0,zac];omega, ?_⟩;rw[g0,Int.sub_self];exact⟨g0,g1,g2,g3,g4⟩
    . obtain⟨g0,g1⟩:=i2 d hd;rw[h3]at g1;refine⟨by rw[zac];omega, ?_⟩;rw[show(d.i 0-a).toNat=(d.i 0-(a+1)).toNat+1 by omega];exact g1
  . rw[List.pairwise_append];refine⟨?_,i3,fun d hd e he=> ?_⟩
    . refine List.Pairwise.imp_of_mem (R:=fun _ _=>True) (fun {d e} hd he _=> ?_) (List.pairwise_of_forall fun _ _=>trivial);rw[(k2 d hd).1,(k2 e he).1];exact zcb _
    . have:=(k2 d hd).1;have:=(i2 e he).1;omega
def eK (u p l r:Int):Int:=min (min (max (u-p) 0) (max (l-r) 0)) (max u 0)
def aaX:aA:=⟨ZE.tab,190,⟨[.z0,.z0,.z0,.z0],[],0⟩,⟨[.z0],[],0⟩,[]⟩
def t190 (m:Nat):Int × Int × Int × Int->OU0:=fun(a0,a1,a2,a3)=>
 lt ((if (w64 (a0-a1))<0 then 0 else(w64 (a0-a1))):Int) fun x1=>
 lt ((if (w64 (a2-a3))<0 then 0 else(w64 (a2-a3))):Int) fun x2=>
 lt ((if a0<0 then 0 else a0):Int) fun x3=>
 some ([.i (if x3<(if x2<x1 then x2 else x1)then x3 else(if x2<x1 then x2 else x1))])
def f190:Int × Int × Int × Int->Bool × List Un:=fun(a0,a1,a2,a3)=>(decide ((-1152921504606846976<=a0/\a0<=1152921504606846976)/\(-1152921504606846976<=a1/\a1<=1152921504606846976)/\(-1152921504606846976<=a2/\a2<=1152921504606846976)/\(-1152921504606846976<=a3/\a3<=1152921504606846976)),[.i (eK a0 a1 a2 a3)])
theorem Q7:ER 190 (mkE aaX.en aaX.ex f190):=ak ae ZE.right (fun m=>[]) (t:=t190) (by kernel_rfl) (fun m=>az) (fun m a=>by kernel_rfl) fun(a0,a1,a2,a3) hc=>by
 dsimp only[f190]at hc⊢;have h:=zaj hc;refine⟨0, ?_⟩;unfold t190 eK;simp only[lt_eq];rw[aa (n:=a0-a1) (by omega) (by omega),aa (n:=a2-a3) (by omega) (by omega)]
 congr 3
 omega
def TO:TB:=ZE.ad Q7
def dA (n:Int):Nat->LI0
 |0=>[]
 |k+1=>n::dA (n+1) k
theorem iG:∀(k:Nat) (n:Int),(dA n k).length=k
 |0,_=>rfl
 |k+1,n=>by simp[dA,iG k]
theorem Cg:∀(k j:Nat) (n:Int),j<k->(dA n k).getD j 0=n+j
 |0,j,n,h=>by omega
 |k+1,0,n,h=>by simp[dA]
 |k+1,j+1,n,h=>by
  simp only[dA,zaE,Cg k j (n+1) (by omega)];omega
theorem Fx {c:LD0} {i:Nat} (h:i<c.length):(dA 0 c.length).getD i 0=(i:Int):=by rw[Cg _ _ _ h];omega
theorem de {c:LD0} {i:Nat} (h:i<c.length) (hg:∀d∈c,bn d=true):bn (ai c i)=true:=hg _ (tJ h)
theorem Vt {d:Dat} (h:bn d=true):w64 (w64 (d.i 1-w64 (d.i 3-d.i 4))-d.i 6)=bA d:=by
 have:=cS h;rw[aa (n:=d.i 3-d.i 4) (by omega) (by omega),aa (n:=d.i 1-_) (by omega) (by omega),aa (by omega) (by omega)];rfl
theorem Cp (j:Nat):∀(c:LD0) (i:Nat),i<c.length->au j (c.drop i)=(ai c i).i j+au j (c.drop (i+1))
 |[],i,h=>by simp at h
 |d::c,0,_=>by simp[au,ai]
 |d::c,i+1,h=>by
  have:=Cp j c i (by simpa using h);simpa[ai]using this
def Xl:aA:=⟨TO.tab,214,⟨[.buf 0 1],[.fh 1 7 0,.ab (sI 7)],2⟩,⟨[.z0],[.fh 1 7 0,.ab (sI 7)],2⟩,[]⟩
abbrev Fv:Type:=Int × Int × Int × LI0 × LD0
def xL (m:Nat) (k:Fv->OU0):Fv->OU0:=fun(a0,a1,a2,a3,a4)=>
 bif decide (a2<a1)then
 chk (inb a2 a3.length)<|
 chk (decide (a2.toNat<a3.length))<|
 bif (!((decide ((a3.getD a2.toNat 0)<0))&&true))then
 chk (decide (0<=(a3.getD a2.toNat 0)))<|
 chk (decide ((a3.getD a2.toNat 0).toNat<a4.length))<|
 k ((w64 (a0+((ai a4 ((a3.getD a2.toNat 0).toNat)).i 6))),a1,(w64 (a2+1)),a3,a4)
 else
 k (a0,a1,(w64 (a2+1)),a3,a4)
 else
 some ([.i a0,.l a3,.d a4])
def u9 (m:Nat):Nat->Fv->OU0:=aX (xL m)
theorem xf (m:Nat) (n:Nat):u9 m (n+1)=xL m (u9 m n):=rfl
def Jq (F:Fv->OU0):aQ:=⟨[.lp [0,1,0,1,1],.blk 0,.code [1,1,1]],⟨frm 22 [(3,.z0),(6,.buf 0 1),(7,.z0),(8,.z0)],[.fh 1 7 0,.ab (sI 7)],2⟩,onU F⟩
theorem Zj (m:Nat):∀n,HO Xl (Jq (u9 m n)):=an ae TO.right (fun k=>[Jq k]) (fun k h=>(aI h az)) fun k a=>by kernel_rfl
def t214 (m:Nat):LI0 × LD0->OU0:=fun(a0,a1)=>
 u9 m m (0,(a0.length:Int),0,a0,a1)
theorem Y4 (m:Nat) (c:LD0) (hl:c.length<=1000) (hg:∀d∈c,bn d=true):∀(k i n:Nat) (s:Int),i+k=c.length->k<n->0<=s->s<=1099511627776*i->
 u9 m n (s,(c.length:Int),(i:Int),dA 0 c.length,c)=some [.i (s+au 6 (c.drop i)),.l (dA 0 c.length),.d c]:=by
 intro k
 induction k with
 |zero=>
  intro i n s hi hn s0 s1;obtain⟨n,rfl⟩:=ah n (by omega);rw[xf];unfold xL;dsimp only;rw[ay (by omega),List.drop_eq_nil_of_le (by omega)];simp[au]
 |succ k ih=>
  intro i n s hi hn s0 s1;obtain⟨n,rfl⟩:=ah n (by omega);have hk:=Fx (c:=c) (i:=i) (by omega);have hL:=iG c.length 0;have hx:=cS (de (i:=i) (by omega) hg);have:=ih (i+1) n (s+(ai c i).i 6) (by omega) (by omega) (by omega) (by omega);rw[Cp 6 c i (by omega),<-zcl];rw[xf];unfold xL;dsimp only;simp only[zat,hk,hL,zbf,za3];simp(disch:=omega) only[TRa,TRi,aa,LNl,LNi,zad];simp only[LNl,LNi,zad]at this⊢;exact this
def f214:LI0 × LD0->Bool × List Un:=fun(a0,a1)=>((decide (a0=dA 0 a1.length))&&(decide (a1.length<=1000)&&a1.all bn),[.i (au 6 a1),.l (a0),.d (a1)])
theorem Pb:ER 214 (mkE Xl.en Xl.ex f214):=ak ae TO.right (fun m=>[Jq (u9 m m)]) (t:=t214) (by kernel_rfl) (fun m=>(aI (Zj m m) az)) (fun m a=>by kernel_rfl) fun(a0,a1) hc=>by
 dsimp only[f214]at hc⊢;simp only[zae,zag,zam]at hc;obtain⟨rfl,h1,h2⟩:=hc;refine⟨a1.length+1, ?_⟩;unfold t214;dsimp only;rw[iG];exact(Y4 _ a1 h1 h2 a1.length 0 _ 0 (by omega) (by omega) (by omega) (by simp)).trans (by simp only[za4,zbP])
def T6:TB:=TO.ad Pb
def iR (c:LD0):Nat->Nat->Int->Int
 |0,_,o=>o
 |k+1,i,o=>iR c k (i+1) (if 0<bA (ai c i)/\(o<0\/(ai c o.toNat).i 0<=(ai c i).i 0)then(i:Int)else o)
theorem DF (c:LD0):∀(k i:Nat) (o:Int),i+k=c.length-> -1<=o->o<c.length-> -1<=iR c k i o/\iR c k i o<c.length
 |0,_,o,_,h1,h2=>⟨h1,h2⟩
 |k+1,i,o,h,h1,h2=>by
  unfold iR
  split
  . exact DF c k (i+1) _ (by omega) (by omega) (by omega)
  . exact DF c k (i+1) _ (by omega) (by omega) (by omega)
def XB:aA:=⟨T6.tab,215,⟨[.buf 0 1],[.fh 1 7 0,.ab (sI 7)],2⟩,⟨[.np 1 7 0],[.fh 1 7 0,.ab (sI 7)],2⟩,[]⟩
abbrev Ec:Type:=Int × Int × Int × LI0 × LD0
def yF (m:Nat) (k:Ec->OU0):Ec->OU0:=fun(a0,a1,a2,a3,a4)=>
 bif decide (a2<a1)then
 chk (inb a2 a3.length)<|
 chk (decide (a2.toNat<a3.length))<|
 bif (!((decide ((a3.getD a2.toNat 0)<0))&&true))then
 chk (decide (0<=(a3.getD a2.toNat 0)))<|
 chk (decide ((a3.getD a2.toNat 0).toNat<a4.length))<|
 lt (ai a4 ((a3.getD a2.toNat 0).toNat):Dat) fun d2=>
 bif decide ((w64 (w64 ((d2.i 1)-w64 ((d2.i 3)-(d2.i 4)))-(d2.i 6)))>0)then
 bif ((decide (a0<0))&&true)then
 k ((a3.getD a2.toNat 0),a1,(w64 (a2+1)),a3,a4)
 else
 chk (decide (0<=(a3.getD a2.toNat 0)))<|
 chk (decide ((a3.getD a2.toNat 0).toNat<a4.length))<|
 chk (decide (0<=a0))<|
 chk (decide (a0.toNat<a4.length))<|
 bif (decide (((ai a4 ((a3.getD a2.toNat 0).toNat)).i 0)>=((ai a4 a0.toNat).i 0)))then
 k ((a3.getD a2.toNat 0),a1,(w64 (a2+1)),a3,a4)
 else
 k (a0,a1,(w64 (a2+1)),a3,a4)
 else
 k (a0,a1,(w64 (a2+1)),a3,a4)
 else
 k (a0,a1,(w64 (a2+1)),a3,a4)
 else
 some ([.i a0,.l a3,.d a4])
def uW (m:Nat):Nat->Ec->OU0:=aX (yF m)
theorem wg (m:Nat) (n:Nat):uW m (n+1)=yF m (uW m n):=rfl
def Kr (F:Ec->OU0):aQ:=⟨[.lp [0,1,0,1,1],.blk 0,.code [1,1,1]],⟨frm 41 [(3,.np 1 7 0),(6,.buf 0 1),(7,.z0),(8,.z0)],[.fh 1 7 0,.ab (sI 7)],2⟩,onU F⟩
theorem Yz (m:Nat):∀n,HO XB (Kr (uW m n)):=an ae T6.right (fun k=>[Kr k]) (fun k h=>(aI h az)) fun k a=>by kernel_rfl
def t215 (m:Nat):LI0 × LD0->OU0:=fun(a0,a1)=>
 uW m m ((-1),(a0.length:Int),0,a0,a1)
theorem abB (m:Nat) (c:LD0) (hl:c.length<=1000) (hg:∀d∈c,bn d=true):∀(k i n:Nat) (o:Int),i+k=c.length->k<n-> -1<=o->o<c.length->
 uW m n (o,(c.length:Int),(i:Int),dA 0 c.length,c)=some [.i (iR c k i o),.l (dA 0 c.length),.d c]:=by
 intro k
 induction k with
 |zero=>
  intro i n o hi hn o0 o1;obtain⟨n,rfl⟩:=ah n (by omega);rw[wg];unfold yF;dsimp only;rw[ay (by omega)];rfl
 |succ k ih=>
  intro i n o hi hn o0 o1;obtain⟨n,rfl⟩:=ah n (by omega);have hk:=Fx (c:=c) (i:=i) (by omega);have hL:=iG c.length 0;have hx:=cS (de (i:=i) (by omega) hg);have ia:=ih (i+1) n (i:Int) (by omega) (by omega) (by omega) (by omega);have ib:=ih (i+1) n o (by omega) (by omega) (by omega) (by omega);rw[wg];unfold yF;dsimp only;unfold iR;have e:=Vt (de (c:=c) (i:=i) (by omega) hg);simp only[lt_eq,zat,hk,hL,zbf,za3,e,ge_iff_le,gt_iff_lt]
  by_cases h1:0<bA (ai c i)
  . by_cases h2:o<0
    . have hc:0<bA (ai c i)/\(o<0\/(ai c o.toNat).i 0<=(ai c i).i 0):=⟨h1,.inl h2⟩
      rw[if_pos hc];simp(disch:=omega) only[TRa,TRi,aa,LNl,LNi,zad];simp only[zaL,zad]at ia ib⊢;exact ia
    . by_cases h3:(ai c o.toNat).i 0<=(ai c i).i 0
      . have hc:0<bA (ai c i)/\(o<0\/(ai c o.toNat).i 0<=(ai c i).i 0):=⟨h1,.inr h3⟩
        rw[if_pos hc];simp(disch:=omega) only[TRa,TRi,aa,LNl,LNi,zad];simp only[zaL,zad]at ia ib⊢;exact ia
      . have hc:¬(0<bA (ai c i)/\(o<0\/(ai c o.toNat).i 0<=(ai c i).i 0)):=fun h=>h.2.elim h2 h3
        rw[if_neg hc];simp(disch:=omega) only[TRa,TRi,aa,LNl,LNi,zad];simp only[zaL,zad]at ia ib⊢;exact ib
  . have hc:¬(0<bA (ai c i)/\(o<0\/(ai c o.toNat).i 0<=(ai c i).i 0)):=fun h=>h1 h.1
    rw[if_neg hc];simp(disch:=omega) only[TRa,TRi,aa,LNl,LNi,zad];simp only[zaL,zad]at ia ib⊢;exact ib
def f215:LI0 × LD0->Bool × List Un:=fun(a0,a1)=>((decide (a0=dA 0 a1.length))&&(decide (a1.length<=1000)&&a1.all bn),[.i (iR a1 a1.length 0 (-1)),.l (a0),.d (a1)])
theorem PD:ER 215 (mkE XB.en XB.ex f215):=ak ae T6.right (fun m=>[Kr (uW m m)]) (t:=t215) (by kernel_rfl) (fun m=>(aI (Yz m m) az)) (fun m a=>by kernel_rfl) fun(a0,a1) hc=>by
 dsimp only[f215]at hc⊢;simp only[zae,zag,zam]at hc;obtain⟨rfl,h1,h2⟩:=hc;refine⟨a1.length+1, ?_⟩;unfold t215;dsimp only;rw[iG];exact abB _ a1 h1 h2 a1.length 0 _ (-1) (by omega) (by omega) (by omega) (by omega)
def Vg:TB:=T6.ad PD
def iT (c:LD0):Nat->Nat->Int->Int
 |0,_,o=>o
 |k+1,i,o=>iT c k (i+1) (if 0<(ai c i).i 6/\(o<0\/(ai c i).i 0<(ai c o.toNat).i 0)then(i:Int)else o)
theorem FB (c:LD0):∀(k i:Nat) (o:Int),i+k=c.length-> -1<=o->o<c.length-> -1<=iT c k i o/\iT c k i o<c.length
 |0,_,o,_,h1,h2=>⟨h1,h2⟩
 |k+1,i,o,h,h1,h2=>by
  unfold iT
  split
  . exact FB c k (i+1) _ (by omega) (by omega) (by omega)
  . exact FB c k (i+1) _ (by omega) (by omega) (by omega)
def ZV:aA:=⟨Vg.tab,217,⟨[.buf 0 1],[.fh 1 7 0,.ab (sI 7)],2⟩,⟨[.np 1 7 0],[.fh 1 7 0,.ab (sI 7)],2⟩,[]⟩
abbrev FH:Type:=Int × Int × Int × LI0 × LD0
def yB (m:Nat) (k:FH->OU0):FH->OU0:=fun(a0,a1,a2,a3,a4)=>
 bif decide (a2<a1)then
 chk (inb a2 a3.length)<|
 chk (decide (a2.toNat<a3.length))<|
 bif (!((decide ((a3.getD a2.toNat 0)<0))&&true))then
 chk (decide (0<=(a3.getD a2.toNat 0)))<|
 chk (decide ((a3.getD a2.toNat 0).toNat<a4.length))<|
 bif decide (((ai a4 ((a3.getD a2.toNat 0).toNat)).i 6)>0)then
 bif ((decide (a0<0))&&true)then
 k ((a3.getD a2.toNat 0),a1,(w64 (a2+1)),a3,a4)
 else
 chk (decide (0<=(a3.getD a2.toNat 0)))<|
 chk (decide ((a3.getD a2.toNat 0).toNat<a4.length))<|
 chk (decide (0<=a0))<|
 chk (decide (a0.toNat<a4.length))<|
 bif (decide (((ai a4 ((a3.getD a2.toNat 0).toNat)).i 0)<((ai a4 a0.toNat).i 0)))then
 k ((a3.getD a2.toNat 0),a1,(w64 (a2+1)),a3,a4)
 else
 k (a0,a1,(w64 (a2+1)),a3,a4)
 else
 k (a0,a1,(w64 (a2+1)),a3,a4)
 else
 k (a0,a1,(w64 (a2+1)),a3,a4)
 else
 some ([.i a0,.l a3,.d a4])
def uH (m:Nat):Nat->FH->OU0:=aX (yB m)
theorem vP (m:Nat) (n:Nat):uH m (n+1)=yB m (uH m n):=rfl
def JT (F:FH->OU0):aQ:=⟨[.lp [0,1,0,1,1],.blk 0,.code [1,1,1]],⟨frm 41 [(3,.np 1 7 0),(6,.buf 0 1),(7,.z0),(8,.z0)],[.fh 1 7 0,.ab (sI 7)],2⟩,onU F⟩
theorem Xp (m:Nat):∀n,HO ZV (JT (uH m n)):=an ae Vg.right (fun k=>[JT k]) (fun k h=>(aI h az)) fun k a=>by kernel_rfl
def t217 (m:Nat):LI0 × LD0->OU0:=fun(a0,a1)=>
 uH m m ((-1),(a0.length:Int),0,a0,a1)
theorem abw (m:Nat) (c:LD0) (hl:c.length<=1000) (hg:∀d∈c,bn d=true):∀(k i n:Nat) (o:Int),i+k=c.length->k<n-> -1<=o->o<c.length->
 uH m n (o,(c.length:Int),(i:Int),dA 0 c.length,c)=some [.i (iT c k i o),.l (dA 0 c.length),.d c]:=by
 intro k
 induction k with
 |zero=>
  intro i n o hi hn o0 o1;obtain⟨n,rfl⟩:=ah n (by omega);rw[vP];unfold yB;dsimp only;rw[ay (by omega)];rfl
 |succ k ih=>
  intro i n o hi hn o0 o1;obtain⟨n,rfl⟩:=ah n (by omega);have hk:=Fx (c:=c) (i:=i) (by omega);have hL:=iG c.length 0;have hx:=cS (de (i:=i) (by omega) hg);have ia:=ih (i+1) n (i:Int) (by omega) (by omega) (by omega) (by omega);have ib:=ih (i+1) n o (by omega) (by omega) (by omega) (by omega);rw[vP];unfold yB;dsimp only;unfold iT;have e:=Vt (de (c:=c) (i:=i) (by omega) hg);simp only[lt_eq,zat,hk,hL,zbf,za3,e,ge_iff_le,gt_iff_lt]
  by_cases h1:0<(ai c i).i 6
  . by_cases h2:o<0
    . have hc:0<(ai c i).i 6/\(o<0\/(ai c i).i 0<(ai c o.toNat).i 0):=⟨h1,.inl h2⟩
      rw[if_pos hc];simp(disch:=omega) only[TRa,TRi,aa,LNl,LNi,zad];simp only[zaL,zad]at ia ib⊢;exact ia
    . by_cases h3:(ai c i).i 0<(ai c o.toNat).i 0
      . have hc:0<(ai c i).i 6/\(o<0\/(ai c i).i 0<(ai c o.toNat).i 0):=⟨h1,.inr h3⟩
        rw[if_pos hc];simp(disch:=omega) only[TRa,TRi,aa,LNl,LNi,zad];simp only[zaL,zad]at ia ib⊢;exact ia
      . have hc:¬(0<(ai c i).i 6/\(o<0\/(ai c i).i 0<(ai c o.toNat).i 0)):=fun h=>h.2.elim h2 h3
        rw[if_neg hc];simp(disch:=omega) only[TRa,TRi,aa,LNl,LNi,zad];simp only[zaL,zad]at ia ib⊢;exact ib
  . have hc:¬(0<(ai c i).i 6/\(o<0\/(ai c i).i 0<(ai c o.toNat).i 0)):=fun h=>h1 h.1
    rw[if_neg hc];simp(disch:=omega) only[TRa,TRi,aa,LNl,LNi,zad];simp only[zaL,zad]at ia ib⊢;exact ib
def f217:LI0 × LD0->Bool × List Un:=fun(a0,a1)=>((decide (a0=dA 0 a1.length))&&(decide (a1.length<=1000)&&a1.all bn),[.i (iT a1 a1.length 0 (-1)),.l (a0),.d (a1)])
theorem QZ:ER 217 (mkE ZV.en ZV.ex f217):=ak ae Vg.right (fun m=>[JT (uH m m)]) (t:=t217) (by kernel_rfl) (fun m=>(aI (Xp m m) az)) (fun m a=>by kernel_rfl) fun(a0,a1) hc=>by
 dsimp only[f217]at hc⊢;simp only[zae,zag,zam]at hc;obtain⟨rfl,h1,h2⟩:=hc;refine⟨a1.length+1, ?_⟩;unfold t217;dsimp only;rw[iG];exact abw _ a1 h1 h2 a1.length 0 _ (-1) (by omega) (by omega) (by omega) (by omega)
def OW:TB:=Vg.ad QZ
theorem qq (i:Nat) (y:Dat):∀(l:LD0) (j:Nat),j<l.length->au i (l.set j y)=au i l-(ai l j).i i+y.i i
 |[],j,h=>by simp at h
 |d::l,0,h=>by simp only[List.set_cons_zero,au,ai,zaO];omega
 |d::l,j+1,h=>by
  have:=qq i y l j (by simpa using h);simp only[ai]at this;simp only[zbR,au,ai,zaE,this];omega
theorem zR {l:LD0} {j:Nat} {y:Dat} (h:j<l.length):ai (l.set j y) j=y:=by
 unfold ai;rw[zaf,List.getElem?_set_self h];rfl
theorem qi {l:LD0} {j i:Nat} {y:Dat} (h:i≠j):ai (l.set j y) i=ai l i:=by
 unfold ai;rw[zaf,zaf,List.getElem?_set_ne (by omega)]
def Em (p:Dat->Prop) [DecidablePred p]:LD0->Nat
 |[]=>0
 |d::l=>(if p d then 1 else 0)+Em p l
theorem Ej (p:Dat->Prop) [DecidablePred p]:∀l:LD0,Em p l<=l.length
 |[]=>zap _
 |d::l=>by have:=Ej p l;simp only[Em,zac];split<;>omega
theorem zu (p:Dat->Prop) [DecidablePred p] (y:Dat) (hy:¬p y):∀(l:LD0) (j:Nat),j<l.length->p (ai l j)->Em p (l.set j y)+1=Em p l
 |[],j,h,_=>by simp at h
 |d::l,0,h,hp=>by
  have hp:p d:=hp;simp only[List.set_cons_zero,Em,if_neg hy,if_pos hp];omega
 |d::l,j+1,h,hp=>by
  have:=zu p y hy l j (by simpa using h) hp;simp only[zbR,Em];omega
def fo (c:LD0):Prop:=c.length<=1000/\∀d∈c,bn d=true
theorem gq {c:LD0} (h:fo c):(decide (c.length<=1000)&&c.all bn)=true:=by
 rw[zae,zam];exact⟨zaa h.1,h.2⟩
theorem qB {c:LD0} {j:Nat} {y:Dat} (h:fo c) (hy:bn y=true):fo (c.set j y):=⟨by rw[za1];exact h.1,LH h.2 hy⟩
theorem yi (c:LD0):∀(k i:Nat) (o:Int),i+k=c.length->(o<0\/0<bA (ai c o.toNat))->(iR c k i o<0->o<0/\∀j,i<=j->j<c.length->bA (ai c j)<=0)/\(0<=iR c k i o->0<bA (ai c (iR c k i o).toNat))
 |0,i,o,h,ho=>⟨fun h1=>⟨h1,fun j h2 h3=>by omega⟩,fun h1=>by simp only[iR]at h1⊢;omega⟩
 |k+1,i,o,h,ho=>by
  unfold iR
  split
  . rename_i hc;obtain⟨a,b⟩:=yi c k (i+1) (i:Int) (by omega) (.inr (by rw[zat];exact hc.1));exact⟨fun h1=>by have:=(a h1).1;omega,b⟩
  . rename_i hc;obtain⟨a,b⟩:=yi c k (i+1) o (by omega) ho;refine⟨fun h1=>⟨(a h1).1,fun j h2 h3=> ?_⟩,b⟩
    by_cases hj:j=i
    . subst hj;have:=(a h1).1;omega
    . exact(a h1).2 j (by omega) h3
theorem xT (c:LD0):∀(k i:Nat) (o:Int),i+k=c.length->(o<0\/0<(ai c o.toNat).i 6)->(iT c k i o<0->o<0/\∀j,i<=j->j<c.length->(ai c j).i 6<=0)/\(0<=iT c k i o->0<(ai c (iT c k i o).toNat).i 6)
 |0,i,o,h,ho=>⟨fun h1=>⟨h1,fun j h2 h3=>by omega⟩,fun h1=>by simp only[iT]at h1⊢;omega⟩
 |k+1,i,o,h,ho=>by
  unfold iT
  split
  . rename_i hc;obtain⟨a,b⟩:=xT c k (i+1) (i:Int) (by omega) (.inr (by rw[zat];exact hc.1));exact⟨fun h1=>by have:=(a h1).1;omega,b⟩
  . rename_i hc;obtain⟨a,b⟩:=xT c k (i+1) o (by omega) ho;refine⟨fun h1=>⟨(a h1).1,fun j h2 h3=> ?_⟩,b⟩
    by_cases hj:j=i
    . subst hj;have:=(a h1).1;omega
    . exact(a h1).2 j (by omega) h3
def xu:Nat->Int->LD0->LD0
 |0,_,c=>c
 |k+1,t,c=>if au 6 c<t then(if iR c c.length 0 (-1)<0 then c else xu k t (c.set (iR c c.length 0 (-1)).toNat (fO (t-au 6 c) (ai c (iR c c.length 0 (-1)).toNat))))else c
def vL:Nat->Int->LD0->LD0
 |0,_,c=>c
 |k+1,t,c=>if t<au 6 c then(if iT c c.length 0 (-1)<0 then c else vL k t (c.set (iT c c.length 0 (-1)).toNat (jo (au 6 c-t) (ai c (iT c c.length 0 (-1)).toNat))))else c
def lg (t:Int) (c:LD0):LD0:=vL (c.length+2) (max t 0) (xu (c.length+2) (max t 0) c)
theorem Rb (w:Int) (d:Dat):(fO w d).i 6=d.i 6+sm w d/\bA (fO w d)=bA d-sm w d:=by
 simp only[fO,bA,fQ,gQ,Bc,rY];exact⟨trivial,by omega⟩
theorem UH (w:Int) (d:Dat):(jo w d).i 6=d.i 6-rl w d:=by
 simp only[jo,rY]
def zV (t:Int) (c:LD0):Nat:=if au 6 c<t then Em (fun d=>0<bA d) c+1 else 0
def At (t:Int) (c:LD0):Nat:=if t<au 6 c then Em (fun d=>0<d.i 6) c+1 else 0
theorem WE {t:Int} {c:LD0} (hg:fo c) (hs:au 6 c<t) (hj:0<=iR c c.length 0 (-1)):
 (iR c c.length 0 (-1)).toNat<c.length/\fo (c.set (iR c c.length 0 (-1)).toNat (fO (t-au 6 c) (ai c (iR c c.length 0 (-1)).toNat)))/\zV t (c.set (iR c c.length 0 (-1)).toNat (fO (t-au 6 c) (ai c (iR c c.length 0 (-1)).toNat)))<zV t c/\
 au 6 (c.set (iR c c.length 0 (-1)).toNat (fO (t-au 6 c) (ai c (iR c c.length 0 (-1)).toNat)))<=t:=by
 have h1:=DF c c.length 0 (-1) (by omega) (by omega) (by omega);have h2:=(yi c c.length 0 (-1) (by omega) (.inl (by omega))).2 hj;generalize iR c c.length 0 (-1)=o at*
 have h3:o.toNat<c.length:=by omega
 have hn:=de h3 hg.2;have e6:=Rb (t-au 6 c) (ai c o.toNat);have es:=qq 6 (fO (t-au 6 c) (ai c o.toNat)) c o.toNat h3;have hp:sm (t-au 6 c) (ai c o.toNat)=min (t-au 6 c) (bA (ai c o.toNat)):=by unfold sm;omega
 refine⟨h3,qB hg (GK _ hn), ?_,by omega⟩;unfold zV;rw[if_pos hs]
 split
 . rename_i hlt;have:=zu (fun d=>0<bA d) (fO (t-au 6 c) (ai c o.toNat)) (by show ¬0<bA _;omega) c o.toNat h3 h2;omega
 . omega
theorem WD {t:Int} {c:LD0} (hg:fo c) (hs:t<au 6 c) (hj:0<=iT c c.length 0 (-1)):
 (iT c c.length 0 (-1)).toNat<c.length/\fo (c.set (iT c c.length 0 (-1)).toNat (jo (au 6 c-t) (ai c (iT c c.length 0 (-1)).toNat)))/\At t (c.set (iT c c.length 0 (-1)).toNat (jo (au 6 c-t) (ai c (iT c c.length 0 (-1)).toNat)))<At t c/\
 t<=au 6 (c.set (iT c c.length 0 (-1)).toNat (jo (au 6 c-t) (ai c (iT c c.length 0 (-1)).toNat))):=by
 have h1:=FB c c.length 0 (-1) (by omega) (by omega) (by omega);have h2:=(xT c c.length 0 (-1) (by omega) (.inl (by omega))).2 hj;generalize iT c c.length 0 (-1)=o at*
 have h3:o.toNat<c.length:=by omega
 have hn:=de h3 hg.2;have e6:=UH (au 6 c-t) (ai c o.toNat);have es:=qq 6 (jo (au 6 c-t) (ai c o.toNat)) c o.toNat h3;have hp:rl (au 6 c-t) (ai c o.toNat)=min (au 6 c-t) ((ai c o.toNat).i 6):=by unfold rl;omega
 refine⟨h3,qB hg (Jk _ hn), ?_,by omega⟩;unfold At;rw[if_pos hs]
 split
 . rename_i hlt;have:=zu (fun d=>0<d.i 6) (jo (au 6 c-t) (ai c o.toNat)) (by show ¬0<(jo _ _).i 6;omega) c o.toNat h3 h2;omega
 . omega
theorem Hy (t:Int) (c:LD0):zV t c<c.length+2:=by
 have:=Ej (fun d=>0<bA d) c;unfold zV;split<;>omega
theorem G4 (t:Int) (c:LD0):At t c<c.length+2:=by
 have:=Ej (fun d=>0<d.i 6) c;unfold At;split<;>omega
theorem Hv {c:LD0} (hg:fo c):0<=au 6 c/\au 6 c<=1125899906842624000:=by
 have:=(j9 c hg.2).2.2.1;have:=hg.1;omega
def U5:aA:=⟨OW.tab,189,⟨[.z0,.buf 0 1],[.fh 1 7 0,.ab (sI 7)],0⟩,⟨[.z0],[.fh 1 7 0,.ab (sI 7)],0⟩,[]⟩
abbrev ED:Type:=Int × Int × LI0 × LD0
abbrev Eu:Type:=Int × Int × LI0 × LD0
def Ez (m:Nat) (k:ED->OU0):ED->OU0:=fun(a0,a1,a2,a3)=>
 bif decide (a1>a0)then
 chk ((decide (a2=dA 0 a3.length))&&(decide (a3.length<=1000)&&a3.all bn))<|
 lt ((iT a3 a3.length 0 (-1)):Int) fun x6=>
 bif ((decide (x6<0))&&true)then
 some ([.i a1,.l a2,.d a3])
 else
 chk (decide (0<=x6/\x6.toNat<a3.length)&&bn (ai a3 x6.toNat))<|
 lt ((a3.set x6.toNat (jo (w64 (a1-a0)) (ai a3 x6.toNat))):LD0) fun l9=>
 chk ((decide (a2=dA 0 l9.length))&&(decide (l9.length<=1000)&&l9.all bn))<|
 k (a0,(au 6 l9),a2,l9)
 else
 chk ((decide (a2=dA 0 a3.length))&&(decide (a3.length<=1000)&&a3.all bn))<|
 some ([.i (au 6 a3),.l a2,.d a3])
def uT (m:Nat):Nat->ED->OU0:=aX (Ez m)
theorem Gx (m:Nat) (n:Nat):uT m (n+1)=Ez m (uT m n):=rfl
def IT (F:ED->OU0):aQ:=⟨[.lp [0,1,0,1,1,1],.blk 2,.code [1,1,1,1]],⟨frm 47 [(0,.z0),(1,.buf 0 1),(7,.z0)],[.fh 1 7 0,.ab (sI 7)],0⟩,onU F⟩
def E1 (m:Nat) (k:Eu->OU0):Eu->OU0:=fun(a0,a1,a2,a3)=>
 bif decide (a1<a0)then
 chk ((decide (a2=dA 0 a3.length))&&(decide (a3.length<=1000)&&a3.all bn))<|
 lt ((iR a3 a3.length 0 (-1)):Int) fun x2=>
 bif ((decide (x2<0))&&true)then
 some ([.i a1,.l a2,.d a3])
 else
 chk (decide (0<=x2/\x2.toNat<a3.length)&&bn (ai a3 x2.toNat))<|
 lt ((a3.set x2.toNat (fO (w64 (a0-a1)) (ai a3 x2.toNat))):LD0) fun l5=>
 chk ((decide (a2=dA 0 l5.length))&&(decide (l5.length<=1000)&&l5.all bn))<|
 k (a0,(au 6 l5),a2,l5)
 else
 chk ((decide (a2=dA 0 a3.length))&&(decide (a3.length<=1000)&&a3.all bn))<|
 uT m m (a0,(au 6 a3),a2,a3)
def uZ (m:Nat):Nat->Eu->OU0:=aX (E1 m)
theorem Gb (m:Nat) (n:Nat):uZ m (n+1)=E1 m (uZ m n):=rfl
def J1 (F:Eu->OU0):aQ:=⟨[.lp [0,1,0,1,1],.blk 0,.code [1,1,1]],⟨frm 47 [(0,.z0),(1,.buf 0 1),(5,.z0)],[.fh 1 7 0,.ab (sI 7)],0⟩,onU F⟩
theorem Yu (m:Nat):∀n,HO U5 (IT (uT m n)):=an ae OW.right (fun k=>[IT k]) (fun k h=>(aI h az)) fun k a=>by kernel_rfl
theorem Ym (m:Nat):∀n,HO U5 (J1 (uZ m n)):=an ae OW.right (fun k=>[J1 k,IT (uT m m)]) (fun k h=>(aI h (aI (Yu m m) az))) fun k a=>by kernel_rfl
def t189 (m:Nat):Int × LI0 × LD0->OU0:=fun(a0,a1,a2)=>
 chk ((decide (a1=dA 0 a2.length))&&(decide (a2.length<=1000)&&a2.all bn))<|
 uZ m m ((if a0<0 then 0 else a0),(au 6 a2),a1,a2)
theorem acI (m:Nat) (t:Int) (h0:0<=t) (h1:t<=1152921504606846976):∀(k n:Nat) (c:LD0),At t c<k->k<=n->fo c->
 uT m n (t,au 6 c,dA 0 c.length,c)=some [.i (au 6 (vL k t c)),.l (dA 0 c.length),.d (vL k t c)]:=by
 intro k
 induction k with
 |zero=>intro n c h;omega
 |succ k ih=>
  intro n c hm hn hg;obtain⟨n,rfl⟩:=ah n (by omega);have hgb:=gq hg;have hb:=Hv hg;unfold vL;rw[Gx];unfold Ez;dsimp only;simp only[hgb,zbf,za3,gt_iff_lt]
  by_cases hs:t<au 6 c
  . rw[if_pos hs,aK hs,lh]
    by_cases hj:iT c c.length 0 (-1)<0
    . rw[if_pos hj];simp only[lt_eq];rw[aK hj]
    . rw[if_neg hj];obtain⟨a1,a2,a3,a4⟩:=WD hg hs (by omega);have a5:=gq a2;have:=ih n _ (by omega) (by omega) a2;rw[za1]at this;simp only[lt_eq];have hnr:=de a1 hg.2;rw[ay hj,aa (n:=au 6 c-t) (by omega) (by omega),hnr,zbf,aJ ⟨by omega,a1⟩,a5,za1,zaa rfl,zbb,lh];exact this
  . rw[if_neg hs,ay hs,lh]
theorem abN (m:Nat) (t:Int) (h0:0<=t) (h1:t<=1152921504606846976):∀(k n:Nat) (c:LD0),zV t c<k->k<=n->c.length+2<=m->fo c->
 uZ m n (t,au 6 c,dA 0 c.length,c)=some [.i (au 6 (vL (c.length+2) t (xu k t c))),.l (dA 0 c.length),.d (vL (c.length+2) t (xu k t c))]:=by
 intro k
 induction k with
 |zero=>intro n c h;omega
 |succ k ih=>
  intro n c hm hn hml hg;obtain⟨n,rfl⟩:=ah n (by omega);have hgb:=gq hg;have hb:=Hv hg;unfold xu;rw[Gb];unfold E1;dsimp only;simp only[hgb,zbf,za3]
  by_cases hs:au 6 c<t
  . rw[if_pos hs,aK hs,lh]
    by_cases hj:iR c c.length 0 (-1)<0
    . rw[if_pos hj];simp only[lt_eq];rw[aK hj,vL,if_neg (by omega)]
    . rw[if_neg hj];obtain⟨a1,a2,a3,a4⟩:=WE hg hs (by omega);have a5:=gq a2;have:=ih n _ (by omega) (by omega) (by rw[za1];exact hml) a2;rw[za1]at this;simp only[lt_eq];have hnr:=de a1 hg.2;rw[ay hj,aa (n:=t-au 6 c) (by omega) (by omega),hnr,zbf,aJ ⟨by omega,a1⟩,a5,za1,zaa rfl,zbb,lh];exact this
  . rw[if_neg hs,ay hs,lh];exact acI m t h0 h1 (c.length+2) m c (G4 t c) hml hg
def f189:Int × LI0 × LD0->Bool × List Un:=fun(a0,a1,a2)=>(decide (a0<=1152921504606846976)&&((decide (a1=dA 0 a2.length))&&(decide (a2.length<=1000)&&a2.all bn)),[.i (au 6 (lg a0 a2)),.l (a1),.d (lg a0 a2)])
theorem P1:ER 189 (mkE U5.en U5.ex f189):=ak ae OW.right (fun m=>[J1 (uZ m m)]) (t:=t189) (by kernel_rfl) (fun m=>(aI (Ym m m) az)) (fun m a=>by kernel_rfl) fun(a0,a1,a2) hc=>by
 dsimp only[f189]at hc⊢;simp only[zae,zag,zam]at hc;obtain⟨h0,rfl,h1,h2⟩:=hc;have hg:fo a2:=⟨h1,h2⟩
 refine⟨a2.length+2, ?_⟩;unfold t189 lg;dsimp only;rw[gq hg,zaa rfl,ob,zbb,lh];exact abN _ (max a0 0) (by omega) (by omega) (a2.length+2) _ a2 (Hy _ _) (by omega) (by omega) hg
def V5:TB:=OW.ad P1
end
end Go.Proofs.YtfaojedfnjdnnaaGreat
