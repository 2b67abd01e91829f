/- Part of a proof: Keep, Deal, Right, Trust, Notes, View, Same, Begins, Pool, Pro, Flow, FlowAid, FlowPlain, Loss. Conditions: none. -/
import Derived.Test.YtfaojedfnjdnnaaGreatQ2
import Derived.Test.YtfaojedfnjdnnaaGreatQ4
set_option linter.unusedVariables false
set_option linter.unusedSimpArgs false
set_option linter.unnecessarySimpa false
set_option linter.unusedSectionVars false
namespace Go.Proofs.YtfaojedfnjdnnaaGreat
noncomputable section
open Go Go.Proofs.YtfaojedfnjdnnaaGreat.Ev
set_option maxRecDepth 20000
def XS:List FuncId:=[57]
def XX:bp:=pI 57
theorem Ow:lJ Tryz.prog XX:=Qs
theorem Ug (g:FuncId) (args:List Value) (H:ag) (h:(XS.any fun x=>g==x)=false):XX g args H=none:=by
 have h:(g==57)=false:=by simpa[XS]using h
 unfold XX pI;rw[h]
def LQ:List FuncId:=[13,14,17,23,26,32,35,40,43,47,48,50,59,65,86,87,90,93,95,96,98,120,123,124,130,131,139,140,142,147,148,163,164,170,181,183,185,187,188,189,205,206,209,216,218,228]
def teL:List (FuncId × (List Value->Option (Bool × Value))):=[(24,e24),(179,acn),(202,aaG),(204,Yy)]
def TE:Tab:=gT teL
def KN:FuncId->Bool:=Pr teL XS
theorem Hh:bp.right Tryz.prog TE:=cN (aI Vh (aI Sw (aI RK (aI Gu az))))
abbrev OO:bp:=jr TE XX
theorem ae:∀g,KN g=false->∀args H,OO g args H=none:=Dd Ug
def T0:Tb Tryz.prog LQ TE XX:= .nil Ow.fr
abbrev HO (F:aA) (t:aQ):Prop:=F.gL Tryz.prog LQ OO t
abbrev ER (g:FuncId) (e:oU):Prop:=eB Tryz.prog LQ OO g e
abbrev TB:=Tb Tryz.prog LQ TE XX
def Ev.Tb.ad {g:FuncId} {e:oU} (T:TB) (h:eB Tryz.prog LQ OO g e):TB:=T.add g e h
def T57:TB:=T0.ad (g:=57) (I5 fun _=>rfl)
def bB (l:LI0) (i:Int):Int:=if l=[]then 0 else l.getD (i%(l.length:Int)).toNat 0
def Gh (i:Nat) (x:Int):Dat:= .r [.n (2*i+1),.n (within x 0 100000)]
def gh:Nat->LI0->LD0
 |_,[]=>[]
 |i,x::l=>Gh i x::gh (i+1) l
def mn (l:LI0):LD0:=gh 0 (l.take 10)
def N63:aA:=⟨T57.tab,63,⟨[.ints .i64,.z0],[],0⟩,⟨[.z0],[],0⟩,[]⟩
def t63 (m:Nat):LI0 × Int->OU0:=fun(a0,a1)=>
 bif (a0.length:Int)==0 then
 some ([.i 0])
 else
 Zv (decide ((a0.length:Int)=0))<|
 lt ((a1.tmod (a0.length:Int)):Int) fun x1=>
 chk (inb x1 a0.length)<|
 chk (decide (x1.toNat<a0.length))<|
 some ([.i (a0.getD x1.toNat 0)])
def f63:LI0 × Int->Bool × List Un:=fun(a0,a1)=>(decide (0<=a1),[.i (bB a0 a1)])
theorem Wh:ER 63 (mkE N63.en N63.ex f63):=ak ae T57.right (fun m=>[]) (t:=t63) (by kernel_rfl) (fun m=>az) (fun m a=>by kernel_rfl) fun(a0,a1) hc=>by
 dsimp only[f63]at hc⊢;simp only[zag]at hc;refine⟨0, ?_⟩;unfold t63 bB;cases a0 with
 |nil=>simp[dZ]
 |cons x l=>
  have e:=zbz a1 (show((x::l).length:Int)≠0 by simp;omega);have e2:=zbk a1 (show(0:Int)<((x::l).length:Int) by simp);rw[if_neg (by simp)];dsimp only;simp only[tm _ hc];generalize a1%_=z at*
  simp(disch:=omega) only[TRa,TRi,aa]
def T63:TB:=T57.ad Wh
def N62:aA:=⟨T63.tab,62,⟨[.ints .i64],[],0⟩,⟨[.buf 0 2],[.ab (sI 2)],0⟩,[]⟩
abbrev L1:Type:=LI0 × Int × LD0
def Fy (m:Nat) (k:L1->OU0):L1->OU0:=fun(a0,a1,a2)=>
 bif (decide (a1<(a0.length:Int)))then
 bif decide (a1<10)then
 chk (inb a1 a0.length)<|
 chk (decide (a1.toNat<a0.length))<|
 chk (fits (a2.length+1) 16)<|
 k (a0,(w64 (a1+1)),(a2++([.r [.n (w64 ((w64 (2*a1))+1)),.n (within (a0.getD a1.toNat 0) 0 100000)]])))
 else
 some ([.d a2])
 else
 some ([.d a2])
def Db (m:Nat):Nat->L1->OU0:=aZ (Fy m)
theorem zi (m:Nat) (n:Nat):Db m (n+1)=Fy m (Db m n):=rfl
def Ra (F:L1->OU0):aQ:=⟨[.lp [0,1,0,1,1],.blk 0,.code [1,1,1]],⟨frm 28 [(0,.ints .i64),(3,.buf 0 2),(4,.z0)],[.ab (sI 2)],0⟩,onU F⟩
theorem aaS (m:Nat):∀n,HO N62 (Ra (Db m n)):=an ae T63.right (fun k=>[Ra k]) (fun k h=>(aI h az)) fun k a=>by kernel_rfl
def t62 (m:Nat):LI0->OU0:=fun a0=>
 Db m m (a0,0,[])
theorem Yx (m:Nat):∀(rest pre:LI0) (acc:LD0) (n:Nat),rest.length<n->acc.length=pre.length->pre.length<=10->
 Db m n (pre++rest,(pre.length:Int),acc)=some [.d (acc++gh pre.length (rest.take (10-pre.length)))]:=by
 intro rest
 induction rest with
 |nil=>
  intro pre acc n hn hl hp;obtain⟨n,rfl⟩:=ah n (by simp at hn;omega);rw[zi];unfold Fy;dsimp only;simp[ay,gh]
 |cons x rest ih=>
  intro pre acc n hn hl hp;obtain⟨n,rfl⟩:=ah n (by simp at hn;omega);simp only[zac]at hn;rw[zi];unfold Fy;dsimp only
  by_cases h:pre.length<10
  . have:=ih (pre++[x]) (acc++[Gh pre.length x]) n (by omega) (by simp;omega) (by simp;omega);obtain⟨k,hk⟩:∃k,10-pre.length=k+1:=⟨9-pre.length,by omega⟩
    have hk2:10-(pre.length+1)=k:=by omega
    simp only[hk2,hk,List.take_succ_cons,gh,Gh,zab,zac,zar,zaq,zaC,zat,zaL]at this⊢;simp(disch:=omega) only[TRa,TRi,aa,LNl,LNi,zad,br];exact this
  . simp only[show 10-pre.length=0 by omega,List.take_zero,gh,zaH];simp(disch:=omega) only[TRa,TRi,aa,LNl,LNi,zad,br]
def f62:LI0->Bool × List Un:=fun a0=>(true,[.d (mn a0)])
theorem Wp:ER 62 (mkE N62.en N62.ex f62):=ak ae T63.right (fun m=>[Ra (Db m m)]) (t:=t62) (by kernel_rfl) (fun m=>(aI (aaS m m) az)) (fun m a=>by kernel_rfl) fun a0 hc=>by
 dsimp only[f62]at⊢;refine⟨a0.length+1, ?_⟩;have:=Yx (a0.length+1) a0 [] [] (a0.length+1) (by omega) rfl (by simp);simpa[mn,t62]using this
def T62:TB:=T63.ad Wp
@[ext] structure av where
 year:Int
 month:Int
 basis:Int
instance : Uns av := Uns.via (B := Int × Int × Int) (fun x => (x.year, x.month, x.basis)) (fun x => match x with | (year, month, basis) => ⟨year, month, basis⟩) (fun _ => rfl)
@[ext] structure aw where
 fee:Int
 bq:Int
 target:Int
 advance:Int
 eX:Int
 oc:Int
 ic:Int
 late:Int
 lv:Int
 clean:Int
instance : Uns aw := Uns.via (B := Int × Int × Int × Int × Int × Int × Int × Int × Int × Int) (fun x => (x.fee, x.bq, x.target, x.advance, x.eX, x.oc, x.ic, x.late, x.lv, x.clean)) (fun x => match x with | (fee, bq, target, advance, eX, oc, ic, late, lv, clean) => ⟨fee, bq, target, advance, eX, oc, ic, late, lv, clean⟩) (fun _ => rfl)
@[ext] structure aT where
 a:av
 aC:List Dat
 notes:List Dat
 b:aw
 s0:List Dat
 s1:List Dat
 s2:List Dat
instance : Uns aT := Uns.via (B := av × LD0 × LD0 × aw × LD0 × LD0 × LD0) (fun x => (x.a, x.aC, x.notes, x.b, x.s0, x.s1, x.s2)) (fun x => match x with | (a, aC, notes, b, s0, s1, s2) => ⟨a, aC, notes, b, s0, s1, s2⟩) (fun _ => rfl)
@[ext] structure ck where
 a:av
 b:aw
 aC:List Int
 notes:List Int
 rB:List Int
 C9:List Int
 s0:List Int
 s1:List Int
 s2:List Int
instance : Uns ck := Uns.via (B := av × aw × LI0 × LI0 × LI0 × LI0 × LI0 × LI0 × LI0) (fun x => (x.a, x.b, x.aC, x.notes, x.rB, x.C9, x.s0, x.s1, x.s2)) (fun x => match x with | (a, b, aC, notes, rB, C9, s0, s1, s2) => ⟨a, b, aC, notes, rB, C9, s0, s1, s2⟩) (fun _ => rfl)
def au (j:Nat):LD0->Int
 |[]=>0
 |d::l=>d.i j+au j l
def eQ (k:ck):LD0:=mn k.aC++[.r [.n 99,.n 50000]]
def jH (k:ck):Int:=au 1 (eQ k)
def Lk (k:ck) (p:Int) (i:Nat):Dat:= .r [.n (within (bB k.rB i) 0 3),.n (1+within (bB k.notes i) 0 (p/6)),.n (within (bB k.C9 i) 0 1200)]
def il (k:ck):LD0:=(List.range (min 5 (1+k.notes.length))).map (Lk k (jH k))
def jJ (x:Int):Int:=if within x 1 7=3 then within (w64 (x.tdiv 7)) 0 3 else 0
def cY (l:LD0) (a b:Int):Bool:=l.any fun d=>d.i 0==a&&d.i 1==b
def gD:LD0->LI0->LD0
 |acc,[]=>acc
 |acc,x::r=>gD (if cY acc (within x 1 7) (jJ x)then acc else acc++[.r [.n (within x 1 7),.n (jJ x)]]) r
def Ab:LD0:=[.r [.n 1,.n 0],.r [.n 3,.n 0],.r [.n 3,.n 1],.r [.n 4,.n 0],.r [.n 2,.n 0],.r [.n 6,.n 0]]
def ja (l:LI0):LD0:=if (gD [] (l.take 12)).length=0 then Ab else gD [] (l.take 12)
def bF (k:ck):aT:=⟨⟨within k.a.year 1990 2040,within k.a.month 1 12,within k.a.basis 0 2⟩,eQ k,il k,
 ⟨within k.b.fee 0 200,within k.b.bq 0 5000,within k.b.target 0 500,within k.b.advance 0 3000,within k.b.eX 0 3,within k.b.oc 0 12000,within k.b.ic 0 15000,within k.b.late 0 5000,within k.b.lv 0 5000,within k.b.clean 0 3000⟩,
 ja k.s0,ja k.s1,ja k.s2⟩
theorem rQ:∀(l:LI0) (i:Nat),∀d∈gh i l,0<=d.i 1/\d.i 1<=100000
 |[],i=>by simp[gh]
 |x::l,i=>by
  simp only[gh,zaN,forall_eq_or_imp];exact⟨aV (by decide),rQ l _⟩
theorem zN:∀(l:LI0) (i:Nat),(gh i l).length=l.length
 |[],i=>rfl
 |x::l,i=>by simp[gh,zN l]
theorem sj (k:ck):(eQ k).length<=11:=by simp[eQ,mn,zN];omega
theorem zD (k:ck):∀d∈eQ k,0<=d.i 1/\d.i 1<=100000:=by
 simp only[eQ,mn,za0,zbg]
 rintro d (h|rfl)
 . exact rQ _ _ d h
 . decide
theorem tP (j:Nat) (b:Int):∀(l:LD0),(∀d∈l,0<=d.i j/\d.i j<=b)->0<=au j l/\au j l<=b*l.length
 |[],_=>by simp[au]
 |x::l,h=>by
  have h1:=h x (by simp);have h2:=tP j b l fun d hd=>h d (by simp[hd])
  simp only[au,zac,zaL,zce];omega
theorem Al (k:ck):50000<=jH k/\jH k<=1100000:=by
 have h1:=tP 1 100000 (eQ k) (zD k);have h2:=sj k;refine⟨?_,by unfold jH;omega⟩;have h3:∀(a b:LD0),au 1 (a++b)=au 1 a+au 1 b:=by
  intro a b
  induction a with
  |nil=>simp[au]
  |cons x a ih=>simp only[zaC,au,ih];omega
 have h4:=tP 1 100000 (mn k.aC) (rQ _ _);rw[jH,eQ,h3];have:au 1 [Dat.r [.n 99,.n 50000]]=50000:=by decide
 omega
theorem Eh (l:LD0) (x:Dat) (a b:Int):cY (l++[x]) a b=(cY l a b||(x.i 0==a&&x.i 1==b)):=by simp[cY]
theorem AU:∀(l:LI0) (acc:LD0),(gD acc l).length<=acc.length+l.length
 |[],acc=>by simp[gD]
 |x::l,acc=>by
  have:=AU l (if cY acc (within x 1 7) (jJ x)then acc else acc++[.r [.n (within x 1 7),.n (jJ x)]]);simp only[gD,zac]
  split at this<;>rename_i h
  . rw[if_pos h];omega
  . rw[if_neg h];simp at this⊢;omega
def N22:aA:=⟨T62.tab,22,⟨[.agg [.z0,.z0,.z0,.z0,.z0,.z0,.z0,.z0,.z0,.z0,.z0,.z0,.z0,.ints .i64,.ints .i64,.ints .i64,.ints .i64,.ints .i64,.ints .i64,.ints .i64]],[],0⟩,⟨[.agg [.z0,.z0,.z0,.buf 0 2,.buf 1 3,.z0,.z0,.z0,.z0,.z0,.z0,.z0,.z0,.z0,.z0,.buf 2 2,.buf 3 2,.buf 4 2]],[.ab (sI 2),.ab (sI 3),.ab (sI 2),.ab (sI 2),.ab (sI 2)],0⟩,[]⟩
abbrev Lr:Type:=Int × Int × Bool × Int × Int × Int × ck × av × aw × av × aw × LD0 × Int × Int × LD0 × LD0 × LD0 × LD0 × LD0 × LD0 × LD0 × LD0 × LD0 × LD0
abbrev sV:Type:=Int × Int × Int × ck × av × aw × av × aw × LD0 × LD0 × LD0 × LD0 × LD0 × LD0 × LD0 × LD0 × LD0 × LD0 × LD0
abbrev nd:Type:=Int × ck × av × aw × av × aw × LD0 × LD0 × LD0 × LD0 × LD0 × LD0 × LD0 × LD0 × LD0 × LD0
abbrev Lq:Type:=Int × Int × ck × av × aw × av × aw × LD0 × LD0 × LD0 × LD0 × LD0 × LD0 × LD0 × LD0 × LD0 × LD0
abbrev La:Type:=Int × Int × Int × ck × av × aw × av × aw × LD0 × LD0 × LD0 × LD0 × LD0 × LD0 × LD0 × LD0 × LD0 × LD0
def Ef (m:Nat) (k2:nd->OU0) (k3:sV->OU0) (k:Lr->OU0):Lr->OU0:=fun(a0,a1,a2,a3,a4,a5,a6,a7,a8,a9,a10,a11,a12,a13,a14,a15,a16,a17,a18,a19,a20,a21,a22,a23)=>
 bif decide (a5<a4)then
 chk (inb a5 a11.length)<|
 chk (decide (a5.toNat<a11.length))<|
 lt (ai a11 a5.toNat:Dat) fun d22=>
 bif a2 then
 k (a0,a1,true,a3,a4,(w64 (a5+1)),a6,a7,a8,a9,a10,a11,a12,a13,a14,a15,a16,a17,a18,a19,a20,a21,a22,a23)
 else
 k (a0,a1,(((d22.i 0)==a12)&&(((d22.i 1)==a13)&&true)),a3,a4,(w64 (a5+1)),a6,a7,a8,a9,a10,a11,a12,a13,a14,a15,a16,a17,a18,a19,a20,a21,a22,a23)
 else
 bif !a2 then
 chk (fits (a11.length+1) 16)<|
 k3 (a0,(w64 (a1+1)),a3,a6,a7,a8,a9,a10,(a11++([.r [.n a12,.n a13]])),a14,a15,a16,a17,a18,a19,a20,a21,a22,a23)
 else
 k3 (a0,(w64 (a1+1)),a3,a6,a7,a8,a9,a10,a11,a14,a15,a16,a17,a18,a19,a20,a21,a22,a23)
def AL (m:Nat) (k2:nd->OU0) (k3:sV->OU0):Nat->Lr->OU0:=aZ (Ef m k2 k3)
theorem Bf (m:Nat) (k2:nd->OU0) (k3:sV->OU0) (n:Nat):AL m k2 k3 (n+1)=Ef m k2 k3 (AL m k2 k3 n):=rfl
def Qp (F:Lr->OU0):aQ:=⟨[.lp [0,1,0,1,1,1,0,0,1,0,0,1,0,1,1,0,0,1,1,0,0,1,0,1,1,1,1,1,1,1],.blk 8,.code [1,1,1,1,0,0,1,0,0,1,0,1,1,0,0,1,1,0,0,1,0,1,1,1,1,1,1,1],.blk 7,.code [1,1,0,0,1,0,1,1,0,0,1,1,0,0,1,0,1,1,1,1,1,1,1],.lp [0,1,0,1,1,0,0,1,1,0,0,1,0,1,1,1,1,1,1,1],.blk 6,.code [1,1,1,0,0,1,1,0,0,1,0,1,1,1,1,1,1,1],.blk 5,.code [1,1,1,0,0,1,0,1,1,1,1,1,1,1],.lp [0,1,0,1,1,1,1,1,1,1],.blk 4,.code [1,1,1,1,1,1,1,1]],⟨frm 192 [(1,.ptr 0 0 0),(2,.ptr 1 0 0),(3,.ptr 2 0 0),(9,.z0),(10,.buf 3 2),(11,.z0),(12,.ptr 4 0 0),(13,.bool),(119,.z0),(157,.buf 3 2),(158,.z0),(159,.z0)],[.cells [.z0,.z0,.z0,.z0,.z0,.z0,.z0,.z0,.z0,.z0,.z0,.z0,.z0,.ints .i64,.ints .i64,.ints .i64,.ints .i64,.ints .i64,.ints .i64,.ints .i64],.cells [.z0,.z0,.z0,.buf 5 2,.buf 6 3,.z0,.z0,.z0,.z0,.z0,.z0,.z0,.z0,.z0,.z0,.buf 7 2,.buf 8 2,.buf 9 2],.cells [.z0,.z0,.z0,.buf 10 2,.buf 11 3,.z0,.z0,.z0,.z0,.z0,.z0,.z0,.z0,.z0,.z0,.buf 12 2,.buf 13 2,.buf 14 2],.ab (sI 2),.cells [.z0,.z0],.ab (sI 2),.ab (sI 3),.ab (sI 2),.ab (sI 2),.ab (sI 2),.ab (sI 2),.ab (sI 3),.ab (sI 2),.ab (sI 2),.ab (sI 2)],0⟩,onU F⟩
def DA (m:Nat) (k2:nd->OU0) (k:sV->OU0):sV->OU0:=fun(a0,a1,a2,a3,a4,a5,a6,a7,a8,a9,a10,a11,a12,a13,a14,a15,a16,a17,a18)=>
 chk (inb a0 3)<|
 chk (decide (a0.toNat<3))<|
 bif (decide (a1<((List.getD [a3.s0,a3.s1,a3.s2] a0.toNat []).length:Int)))then
 bif decide (a1<12)then
 chk (inb a0 3)<|
 chk (decide (a0.toNat<3))<|
 chk (inb a1 ((List.getD [a3.s0,a3.s1,a3.s2] a0.toNat []).length))<|
 chk (decide (a1.toNat<(List.getD [a3.s0,a3.s1,a3.s2] a0.toNat []).length))<|
 lt (((List.getD [a3.s0,a3.s1,a3.s2] a0.toNat []).getD a1.toNat 0):Int) fun x19=>
 bif (within x19 1 7)==3 then
 chk (inb a0 3)<|
 chk (decide (a0.toNat<3))<|
 chk (inb a1 ((List.getD [a3.s0,a3.s1,a3.s2] a0.toNat []).length))<|
 chk (decide (a1.toNat<(List.getD [a3.s0,a3.s1,a3.s2] a0.toNat []).length))<|
 AL m k2 k m (a0,a1,false,a2,(a8.length:Int),0,a3,a4,a5,a6,a7,a8,(within x19 1 7),(within (w64 (((List.getD [a3.s0,a3.s1,a3.s2] a0.toNat []).getD a1.toNat 0).tdiv 7)) 0 3),a9,a10,a11,a12,a13,a14,a15,a16,a17,a18)
 else
 AL m k2 k m (a0,a1,false,a2,(a8.length:Int),0,a3,a4,a5,a6,a7,a8,(within x19 1 7),0,a9,a10,a11,a12,a13,a14,a15,a16,a17,a18)
 else
 bif (a8.length:Int)==0 then
 bif decide (a0=0)then
 k2 ((w64 (a2+1)),a3,a4,a5,a6,a7,a9,a10,a11,a12,a13,a14,a15,([.r [.n 1,.n 0],.r [.n 3,.n 0],.r [.n 3,.n 1],.r [.n 4,.n 0],.r [.n 2,.n 0],.r [.n 6,.n 0]]:LD0),a17,a18)
 else
 bif decide (a0=1)then
 k2 ((w64 (a2+1)),a3,a4,a5,a6,a7,a9,a10,a11,a12,a13,a14,a15,a16,([.r [.n 1,.n 0],.r [.n 3,.n 0],.r [.n 3,.n 1],.r [.n 4,.n 0],.r [.n 2,.n 0],.r [.n 6,.n 0]]:LD0),a18)
 else
 bif decide (a0=2)then
 k2 ((w64 (a2+1)),a3,a4,a5,a6,a7,a9,a10,a11,a12,a13,a14,a15,a16,a17,([.r [.n 1,.n 0],.r [.n 3,.n 0],.r [.n 3,.n 1],.r [.n 4,.n 0],.r [.n 2,.n 0],.r [.n 6,.n 0]]:LD0))
 else
 none
 else
 bif decide (a0=0)then
 k2 ((w64 (a2+1)),a3,a4,a5,a6,a7,a9,a10,a11,a12,a13,a14,a15,a8,a17,a18)
 else
 bif decide (a0=1)then
 k2 ((w64 (a2+1)),a3,a4,a5,a6,a7,a9,a10,a11,a12,a13,a14,a15,a16,a8,a18)
 else
 bif decide (a0=2)then
 k2 ((w64 (a2+1)),a3,a4,a5,a6,a7,a9,a10,a11,a12,a13,a14,a15,a16,a17,a8)
 else
 none
 else
 bif (a8.length:Int)==0 then
 bif decide (a0=0)then
 k2 ((w64 (a2+1)),a3,a4,a5,a6,a7,a9,a10,a11,a12,a13,a14,a15,([.r [.n 1,.n 0],.r [.n 3,.n 0],.r [.n 3,.n 1],.r [.n 4,.n 0],.r [.n 2,.n 0],.r [.n 6,.n 0]]:LD0),a17,a18)
 else
 bif decide (a0=1)then
 k2 ((w64 (a2+1)),a3,a4,a5,a6,a7,a9,a10,a11,a12,a13,a14,a15,a16,([.r [.n 1,.n 0],.r [.n 3,.n 0],.r [.n 3,.n 1],.r [.n 4,.n 0],.r [.n 2,.n 0],.r [.n 6,.n 0]]:LD0),a18)
 else
 bif decide (a0=2)then
 k2 ((w64 (a2+1)),a3,a4,a5,a6,a7,a9,a10,a11,a12,a13,a14,a15,a16,a17,([.r [.n 1,.n 0],.r [.n 3,.n 0],.r [.n 3,.n 1],.r [.n 4,.n 0],.r [.n 2,.n 0],.r [.n 6,.n 0]]:LD0))
 else
 none
 else
 bif decide (a0=0)then
 k2 ((w64 (a2+1)),a3,a4,a5,a6,a7,a9,a10,a11,a12,a13,a14,a15,a8,a17,a18)
 else
 bif decide (a0=1)then
 k2 ((w64 (a2+1)),a3,a4,a5,a6,a7,a9,a10,a11,a12,a13,a14,a15,a16,a8,a18)
 else
 bif decide (a0=2)then
 k2 ((w64 (a2+1)),a3,a4,a5,a6,a7,a9,a10,a11,a12,a13,a14,a15,a16,a17,a8)
 else
 none
def Ao (m:Nat) (k2:nd->OU0):Nat->sV->OU0:=aZ (DA m k2)
theorem zv (m:Nat) (k2:nd->OU0) (n:Nat):Ao m k2 (n+1)=DA m k2 (Ao m k2 n):=rfl
def K5 (F:sV->OU0):aQ:=⟨[.lp [0,1,0,1,1,0,0,1,1,0,0,1,0,1,1,1,1,1,1,1],.blk 6,.code [1,1,1,0,0,1,1,0,0,1,0,1,1,1,1,1,1,1],.blk 5,.code [1,1,1,0,0,1,0,1,1,1,1,1,1,1],.lp [0,1,0,1,1,1,1,1,1,1],.blk 4,.code [1,1,1,1,1,1,1,1]],⟨frm 192 [(1,.ptr 0 0 0),(2,.ptr 1 0 0),(3,.ptr 2 0 0),(9,.z0),(10,.buf 3 2),(11,.z0),(119,.z0)],[.cells [.z0,.z0,.z0,.z0,.z0,.z0,.z0,.z0,.z0,.z0,.z0,.z0,.z0,.ints .i64,.ints .i64,.ints .i64,.ints .i64,.ints .i64,.ints .i64,.ints .i64],.cells [.z0,.z0,.z0,.buf 4 2,.buf 5 3,.z0,.z0,.z0,.z0,.z0,.z0,.z0,.z0,.z0,.z0,.buf 6 2,.buf 7 2,.buf 8 2],.cells [.z0,.z0,.z0,.buf 9 2,.buf 10 3,.z0,.z0,.z0,.z0,.z0,.z0,.z0,.z0,.z0,.z0,.buf 11 2,.buf 12 2,.buf 13 2],.ab (sI 2),.ab (sI 2),.ab (sI 3),.ab (sI 2),.ab (sI 2),.ab (sI 2),.ab (sI 2),.ab (sI 3),.ab (sI 2),.ab (sI 2),.ab (sI 2)],0⟩,onU F⟩
def ug (m:Nat) (k:nd->OU0):nd->OU0:=fun(a0,a1,a2,a3,a4,a5,a6,a7,a8,a9,a10,a11,a12,a13,a14,a15)=>
 bif decide (a0<3)then
 Ao m k m (a0,0,a0,a1,a2,a3,a4,a5,[],a6,a7,a8,a9,a10,a11,a12,a13,a14,a15)
 else
 some (Uns.enc (a4:av)++Uns.enc (a5:aw)++[.d a11,.d a12,.d a13,.d a14,.d a15])
def tQ (m:Nat):Nat->nd->OU0:=aZ (ug m)
theorem oD (m:Nat) (n:Nat):tQ m (n+1)=ug m (tQ m n):=rfl
def Gl (F:nd->OU0):aQ:=⟨[.lp [0,1,0,1,1,1,1,1,1,1],.blk 4,.code [1,1,1,1,1,1,1,1]],⟨frm 192 [(1,.ptr 0 0 0),(2,.ptr 1 0 0),(3,.ptr 2 0 0),(119,.z0)],[.cells [.z0,.z0,.z0,.z0,.z0,.z0,.z0,.z0,.z0,.z0,.z0,.z0,.z0,.ints .i64,.ints .i64,.ints .i64,.ints .i64,.ints .i64,.ints .i64,.ints .i64],.cells [.z0,.z0,.z0,.buf 3 2,.buf 4 3,.z0,.z0,.z0,.z0,.z0,.z0,.z0,.z0,.z0,.z0,.buf 5 2,.buf 6 2,.buf 7 2],.cells [.z0,.z0,.z0,.buf 8 2,.buf 9 3,.z0,.z0,.z0,.z0,.z0,.z0,.z0,.z0,.z0,.z0,.buf 10 2,.buf 11 2,.buf 12 2],.ab (sI 2),.ab (sI 3),.ab (sI 2),.ab (sI 2),.ab (sI 2),.ab (sI 2),.ab (sI 3),.ab (sI 2),.ab (sI 2),.ab (sI 2)],0⟩,onU F⟩
def Eu (m:Nat) (k:Lq->OU0):Lq->OU0:=fun(a0,a1,a2,a3,a4,a5,a6,a7,a8,a9,a10,a11,a12,a13,a14,a15,a16)=>
 bif decide (a1<(w64 (1+(a2.notes.length:Int))))then
 bif decide (a1<5)then
 chk (decide (0<=a1))<|
 bif decide (-2305843009213693952<=0/\0<=(w64 (a0.tdiv 6))/\(w64 (a0.tdiv 6))<=2305843009213693952)then
 chk (decide (0<=a1))<|
 chk (decide (0<=a1))<|
 chk (fits (a13.length+1) 24)<|
 k (a0,(w64 (a1+1)),a2,a3,a4,a5,a6,a7,a8,a9,a10,a11,a12,(a13++([.r [.n (within (bB a2.rB a1) 0 3),.n (w64 (1+(within (bB a2.notes a1) 0 (w64 (a0.tdiv 6))))),.n (within (bB a2.C9 a1) 0 1200)]])),a14,a15,a16)
 else
 none
 else
 tQ m m (0,a2,a3,a4,a5,a6,a7,a8,a9,a10,a11,a12,a13,a14,a15,a16)
 else
 tQ m m (0,a2,a3,a4,a5,a6,a7,a8,a9,a10,a11,a12,a13,a14,a15,a16)
def y8 (m:Nat):Nat->Lq->OU0:=aZ (Eu m)
theorem zw (m:Nat) (n:Nat):y8 m (n+1)=Eu m (y8 m n):=rfl
def PF (F:Lq->OU0):aQ:=⟨[.lp [0,1,0,1,1,1,1,1,1],.blk 2,.code [1,1,1,1,1,1,1]],⟨frm 192 [(1,.ptr 0 0 0),(2,.ptr 1 0 0),(3,.ptr 2 0 0),(4,.z0),(7,.z0)],[.cells [.z0,.z0,.z0,.z0,.z0,.z0,.z0,.z0,.z0,.z0,.z0,.z0,.z0,.ints .i64,.ints .i64,.ints .i64,.ints .i64,.ints .i64,.ints .i64,.ints .i64],.cells [.z0,.z0,.z0,.buf 3 2,.buf 4 3,.z0,.z0,.z0,.z0,.z0,.z0,.z0,.z0,.z0,.z0,.buf 5 2,.buf 6 2,.buf 7 2],.cells [.z0,.z0,.z0,.buf 8 2,.buf 9 3,.z0,.z0,.z0,.z0,.z0,.z0,.z0,.z0,.z0,.z0,.buf 10 2,.buf 11 2,.buf 12 2],.ab (sI 2),.ab (sI 3),.ab (sI 2),.ab (sI 2),.ab (sI 2),.ab (sI 2),.ab (sI 3),.ab (sI 2),.ab (sI 2),.ab (sI 2)],0⟩,onU F⟩
def FI (m:Nat) (k:La->OU0):La->OU0:=fun(a0,a1,a2,a3,a4,a5,a6,a7,a8,a9,a10,a11,a12,a13,a14,a15,a16,a17)=>
 bif decide (a2<a1)then
 chk (inb a2 a8.length)<|
 chk (decide (a2.toNat<a8.length))<|
 k ((w64 (a0+((ai a8 a2.toNat).i 1))),a1,(w64 (a2+1)),a3,a4,a5,a6,a7,a8,a9,a10,a11,a12,a13,a14,a15,a16,a17)
 else
 y8 m m (a0,0,a3,a4,a5,a6,a7,a9,a10,a11,a12,a13,a8,a14,a15,a16,a17)
def zZ (m:Nat):Nat->La->OU0:=aZ (FI m)
theorem A3 (m:Nat) (n:Nat):zZ m (n+1)=FI m (zZ m n):=rfl
def RE (F:La->OU0):aQ:=⟨[.lp [0,1,0,1,1,1,1,1],.blk 0,.code [1,1,1,1,1,1]],⟨frm 192 [(1,.ptr 0 0 0),(2,.ptr 1 0 0),(3,.ptr 2 0 0),(4,.z0),(71,.buf 3 2),(72,.z0),(73,.z0)],[.cells [.z0,.z0,.z0,.z0,.z0,.z0,.z0,.z0,.z0,.z0,.z0,.z0,.z0,.ints .i64,.ints .i64,.ints .i64,.ints .i64,.ints .i64,.ints .i64,.ints .i64],.cells [.z0,.z0,.z0,.buf 4 2,.buf 5 3,.z0,.z0,.z0,.z0,.z0,.z0,.z0,.z0,.z0,.z0,.buf 6 2,.buf 7 2,.buf 8 2],.cells [.z0,.z0,.z0,.buf 3 2,.buf 9 3,.z0,.z0,.z0,.z0,.z0,.z0,.z0,.z0,.z0,.z0,.buf 10 2,.buf 11 2,.buf 12 2],.ab (sI 2),.ab (sI 2),.ab (sI 3),.ab (sI 2),.ab (sI 2),.ab (sI 2),.ab (sI 3),.ab (sI 2),.ab (sI 2),.ab (sI 2)],0⟩,onU F⟩
theorem acX (m:Nat) (k2:nd->OU0) (h2:HO N22 (Gl k2)) (k3:sV->OU0) (h3:HO N22 (K5 k3)):∀n,HO N22 (Qp (AL m k2 k3 n)):=an ae T62.right (fun k=>[K5 k3,Qp k]) (fun k h=>(aI h3 (aI h az))) fun k a=>by kernel_rfl
theorem aaH (m:Nat) (k2:nd->OU0) (h2:HO N22 (Gl k2)):∀n,HO N22 (K5 (Ao m k2 n)):=an ae T62.right (fun k=>[Gl k2,Qp (AL m k2 (k) m)]) (fun k h=>(aI h2 (aI (acX m _ h2 _ h m) az))) fun k a=>by kernel_rfl
theorem adf (m:Nat):∀n,HO N22 (Gl (tQ m n)):=an ae T62.right (fun k=>[K5 (Ao m (k) m)]) (fun k h=>(aI (aaH m _ h m) az)) fun k a=>by kernel_rfl
theorem acP (m:Nat):∀n,HO N22 (PF (y8 m n)):=an ae T62.right (fun k=>[PF k,Gl (tQ m m)]) (fun k h=>(aI h (aI (adf m m) az))) fun k a=>by kernel_rfl
theorem acN (m:Nat):∀n,HO N22 (RE (zZ m n)):=an ae T62.right (fun k=>[RE k,PF (y8 m m)]) (fun k h=>(aI h (aI (acP m m) az))) fun k a=>by kernel_rfl
def t22 (m:Nat):ck->OU0:=fun a0=>
 chk (fits ((mn a0.aC).length+1) 16)<|
 lt (((mn a0.aC)++([.r [.n 99,.n 50000]])):LD0) fun l11=>
 zZ m m (0,(l11.length:Int),0,a0,(⟨0,0,0⟩:av),(⟨0,0,0,0,0,0,0,0,0,0⟩:aw),(⟨(within a0.a.year 1990 2040),(within a0.a.month 1 12),(within a0.a.basis 0 2)⟩:av),(⟨(within a0.b.fee 0 200),(within a0.b.bq 0 5000),(within a0.b.target 0 500),(within a0.b.advance 0 3000),(within a0.b.eX 0 3),(within a0.b.oc 0 12000),(within a0.b.ic 0 15000),(within a0.b.late 0 5000),(within a0.b.lv 0 5000),(within a0.b.clean 0 3000)⟩:aw),l11,[],[],[],[],[],[],[],[],[])
section
variable (m : Nat) (k : ck) (za da : av) (zb db : aw) (x1 x2 x3 x4 x5 x6 x7 x8 x9 : LD0)
theorem W8:∀(rest pre:LD0) (n:Nat) (p:Int),rest.length<n->(∀d∈rest,0<=d.i 1/\d.i 1<=100000)->(pre++rest).length<=11->0<=p->p<=100000*pre.length->
 zZ m n (p,((pre++rest).length:Int),(pre.length:Int),k,za,zb,da,db,pre++rest,x1,x2,x3,x4,x5,x6,x7,x8,x9)=y8 m m (p+au 1 rest,0,k,za,zb,da,db,x1,x2,x3,x4,x5,pre++rest,x6,x7,x8,x9):=by
 intro rest
 induction rest with
 |nil=>
  intro pre n p hn hm hl h0 h1;obtain⟨n,rfl⟩:=ah n (by simp at hn;omega);rw[A3];unfold FI;dsimp only;simp[ay,au]
 |cons x rest ih=>
  intro pre n p hn hm hl h0 h1;obtain⟨n,rfl⟩:=ah n (by simp at hn;omega);simp only[zac]at hn;rw[A3];unfold FI;dsimp only;have hx:=hm x (by simp);have:=ih (pre++[x]) n (p+x.i 1) (by omega) (fun d hd=>hm d (by simp[hd])) (by simpa using hl) (by omega) (by simp;omega);simp only[zab,zac]at hl;simp only[au];simp(disch:=omega) only[TRa,TRi,aa,LNl,LNi,zad,ax];simp only[LNl,LNi,zad]at this⊢;exact this
theorem Xt (hs:k.notes.length<=140737488355328) (p:Int) (hp:0<=p) (hp2:p<=1100000):∀(c i n:Nat),i+c=min 5 (1+k.notes.length)->c<n->
 y8 m n (p,(i:Int),k,za,zb,da,db,x1,x2,x3,x4,x5,x6,(List.range i).map (Lk k p),x7,x8,x9)=tQ m m (0,k,za,zb,da,db,x1,x2,x3,x4,x5,x6,(List.range (min 5 (1+k.notes.length))).map (Lk k p),x7,x8,x9):=by
 intro c
 induction c with
 |zero=>
  intro i n hi hn;obtain⟨n,rfl⟩:=ah n (by omega);rw[<-hi];rw[zw];unfold Eu;dsimp only
  by_cases h:k.notes.length+1<5
  . have:¬(i:Int)<1+(k.notes.length:Int):=by omega
    simp(disch:=omega) only[TRa,TRi,aa,LNl,LNi,zad,ax];rfl
  . have:¬(i:Int)<5:=by omega
    simp only[ay this,gI];rfl
 |succ c ih=>
  intro i n hi hn;obtain⟨n,rfl⟩:=ah n (by omega);have:=ih (i+1) n (by omega) (by omega);rw[List.range_succ,zb6]at this;rw[zw];unfold Eu;dsimp only;have hq:0<=within (bB k.notes i) 0 (p/6)/\within (bB k.notes i) 0 (p/6)<=p/6:=aV (by omega);simp(disch:=omega) only[td,aa];simp(disch:=omega) only[TRa,TRi,aa,LNl,LNi,zad,ax];simp only[LNl,LNi,zad]at this⊢;exact this
theorem Y1 (x10:LD0) (k2:nd->OU0) (k3:sV->OU0) (mi i m2 a b:Int):∀(rest pre:LD0) (n:Nat),rest.length<n->(pre++rest).length<=12->
 AL m k2 k3 n (mi,i,cY pre a b,m2,((pre++rest).length:Int),(pre.length:Int),k,za,zb,da,db,pre++rest,a,b,x1,x2,x3,x4,x5,x6,x7,x8,x9,x10)=k3 (mi,w64 (i+1),m2,k,za,zb,da,db,(if cY (pre++rest) a b then pre++rest else pre++rest++[.r [.n a,.n b]]),x1,x2,x3,x4,x5,x6,x7,x8,x9,x10):=by
 intro rest
 induction rest with
 |nil=>
  intro pre n hn hl;obtain⟨n,rfl⟩:=ah n (by simp at hn;omega);simp only[zaH]at hl⊢;rw[Bf];unfold Ef;dsimp only;cases h:cY pre a b<;>simp(disch:=omega) only[TRa,TRi,aa,LNl,LNi,zad,ax]<;>simp
 |cons x rest ih=>
  intro pre n hn hl;obtain⟨n,rfl⟩:=ah n (by simp at hn;omega);simp only[zac,zab]at hn hl;rw[Bf];unfold Ef;dsimp only;have:=ih (pre++[x]) n (by omega) (by simp;omega);rw[Eh]at this;cases h:cY pre a b<;>rw[h]at this<;>simp(disch:=omega) only[TRa,TRi,aa,LNl,LNi,zad,ax]<;>simp only[LNl,LNi,zad]at this⊢<;>simpa using this
theorem Xk (x10:LD0) (k2:nd->OU0) (mi m2:Int) (h0:0<=mi) (h1:mi<3) (hm:12<m) (l:LI0) (hl:List.getD [k.s0,k.s1,k.s2] mi.toNat []=l):∀(rest pre:LI0) (acc:LD0) (n:Nat),rest.length<n->l.take 12=pre++rest->acc.length<=pre.length->
 Ao m k2 n (mi,(pre.length:Int),m2,k,za,zb,da,db,acc,x1,x2,x3,x4,x5,x6,x7,x8,x9,x10)=
  bif decide (mi=0)then k2 (w64 (m2+1),k,za,zb,da,db,x1,x2,x3,x4,x5,x6,x7,(if (gD acc rest).length=0 then Ab else gD acc rest),x9,x10)
  else bif decide (mi=1)then k2 (w64 (m2+1),k,za,zb,da,db,x1,x2,x3,x4,x5,x6,x7,x8,(if (gD acc rest).length=0 then Ab else gD acc rest),x10)
  else bif decide (mi=2)then k2 (w64 (m2+1),k,za,zb,da,db,x1,x2,x3,x4,x5,x6,x7,x8,x9,(if (gD acc rest).length=0 then Ab else gD acc rest))else none:=by
 intro rest
 induction rest with
 |nil=>
  intro pre acc n hn hp ha;obtain⟨n,rfl⟩:=ah n (by simp at hn;omega);have hpl:min 12 l.length=pre.length:=by have:=zcm List.length hp;simpa using this
  rw[zv];unfold DA;dsimp only;simp only[hl,gD]
  by_cases hz:acc.length=0
  . simp only[hz,zbh]
    by_cases h:l.length<12
    . have:¬(pre.length:Int)<(l.length:Int):=by omega
      simp(disch:=omega) only[TRa,TRi,aa,LNl,LNi,zad,ax];rfl
    . have:¬(pre.length:Int)<12:=by omega
      by_cases h':(pre.length:Int)<(l.length:Int)
      . simp(disch:=omega) only[TRa,TRi,aa,LNl,LNi,zad,ax];rfl
      . simp(disch:=omega) only[TRa,TRi,aa,LNl,LNi,zad,ax];rfl
  . simp only[hz,zbp]
    by_cases h:l.length<12
    . have:¬(pre.length:Int)<(l.length:Int):=by omega
      simp(disch:=omega) only[TRa,TRi,aa,LNl,LNi,zad,ax]
    . have:¬(pre.length:Int)<12:=by omega
      by_cases h':(pre.length:Int)<(l.length:Int)
      . simp(disch:=omega) only[TRa,TRi,aa,LNl,LNi,zad,ax]
      . simp(disch:=omega) only[TRa,TRi,aa,LNl,LNi,zad,ax]
 |cons x rest ih=>
  intro pre acc n hn hp ha;obtain⟨n,rfl⟩:=ah n (by simp at hn;omega);simp only[zac]at hn;have hpl:min 12 l.length=pre.length+(rest.length+1):=by have:=zcm List.length hp;simpa using this
  have hx:l.getD pre.length 0=x:=by
   have:(l.take 12)[pre.length]? =some x:=by rw[hp];simp
   rw[zav,if_pos (by omega)]at this;simp[this]
  have:=ih (pre++[x]) (if cY acc (within x 1 7) (jJ x)then acc else acc++[.r [.n (within x 1 7),.n (jJ x)]]) n (by omega) (by simpa using hp) (by split<;>simp<;>omega);refine Eq.trans ?_ this;have h4:=fun a b=>Y1 m k za da zb db x1 x2 x3 x4 x5 x6 x7 x8 x9 x10 k2 (Ao m k2 n) mi (pre.length:Int) m2 a b acc [] m (by omega) (by simp;omega)
  rw[zv];unfold DA;dsimp only;simp only[zat,show ∀a b,cY [] a b=false from fun _ _=>rfl]at h4;simp only[hl,zau,hx];have e1:(pre.length:Int)<(l.length:Int):=by omega
  have e2:(pre.length:Int)<12:=by omega
  by_cases h3:within x 1 7=3
  . have hr:jJ x=within (w64 (x.tdiv 7)) 0 3:=by unfold jJ;rw[if_pos h3]
    simp(disch:=omega) only[TRa,TRi,aa,LNl,LNi,zad,ax];refine(h4 _ _).trans ?_
    rw[hr,aa (by omega) (by omega)]
  . have hr:jJ x=0:=by unfold jJ;rw[if_neg h3]
    simp(disch:=omega) only[TRa,TRi,aa,LNl,LNi,zad,ax];refine(h4 _ _).trans ?_
    rw[hr,aa (by omega) (by omega)]
end
def f22:ck->Bool × List Un:=fun a0=>(decide (a0.notes.length<=140737488355328),Uns.enc (((bF a0).a):av)++Uns.enc (((bF a0).b):aw)++[.d ((bF a0).aC),.d ((bF a0).notes),.d ((bF a0).s0),.d ((bF a0).s1),.d ((bF a0).s2)])
set_option maxHeartbeats 1000000 in
theorem U2:ER 22 (mkE N22.en N22.ex f22):=ak ae T62.right (fun m=>[RE (zZ m m)]) (t:=t22) (by kernel_rfl) (fun m=>(aI (acN m m) az)) (fun m a=>by kernel_rfl) fun a0 hc=>by
 dsimp only[f22]at hc⊢;have hs:=zaj hc;refine⟨20, ?_⟩;unfold t22;have h1:=sj a0;have h2:=Al a0;dsimp only[lt];change chk (fits ((mn a0.aC).length+1) 16) (zZ 20 20 (0,((eQ a0).length:Int),0,a0,_,_,_,_,eQ a0,[],[],[],[],[],[],[],[],[]))=_;rw[bD (by simp[eQ]at h1;omega) (by simp[eQ]at h1;omega)];have e0:=W8 20 a0 ⟨0,0,0⟩ ⟨within a0.a.year 1990 2040,within a0.a.month 1 12,within a0.a.basis 0 2⟩ ⟨0,0,0,0,0,0,0,0,0,0⟩ (bF a0).b [] [] [] [] [] [] [] [] [] (eQ a0) [] 20 0 (by omega) (zD a0) h1 (by omega) (by simp);have e1:=Xt 20 a0 ⟨0,0,0⟩ ⟨within a0.a.year 1990 2040,within a0.a.month 1 12,within a0.a.basis 0 2⟩ ⟨0,0,0,0,0,0,0,0,0,0⟩ (bF a0).b [] [] [] [] [] (eQ a0) [] [] [] hs (jH a0) (by omega) (by omega) (min 5 (1+a0.notes.length)) 0 20 (by omega) (by omega);have e3:=fun k2 mi m2 g0 g1 l hl l8 l9 l10=>Xk 20 a0 ⟨0,0,0⟩ ⟨within a0.a.year 1990 2040,within a0.a.month 1 12,within a0.a.basis 0 2⟩ ⟨0,0,0,0,0,0,0,0,0,0⟩ (bF a0).b [] [] [] [] [] (eQ a0) (il a0) l8 l9 l10 k2 mi m2 g0 g1 (by omega) l hl (l.take 12) [] [] 20 (by simp;omega) rfl (by simp)
 simp only[zat,za4]at e0;refine e0.trans (e1.trans ?_);have q1:∀{α:Type} (u v w:α),(bif decide ((0:Int)=0)then u else bif decide ((0:Int)=1)then v else w)=u:=fun _ _ _=>rfl
 have q2:∀{α:Type} (u v w:α),(bif decide ((1:Int)=0)then u else bif decide ((1:Int)=1)then v else w)=v:=fun _ _ _=>rfl
 have q3:∀{α:Type} (u v w x:α),(bif decide ((2:Int)=0)then u else bif decide ((2:Int)=1)then v else bif decide ((2:Int)=2)then w else x)=w:=fun _ _ _ _=>rfl
 have w1:w64 (0+1)=1:=by decide
 have w2:w64 (1+1)=2:=by decide
 have w3:w64 (2+1)=3:=by decide
 rw[show tQ 20 20=tQ 20 (16+4) from rfl,oD];unfold ug;dsimp only;rw[aL (by decide)];refine(e3 _ 0 0 (by decide) (by decide) a0.s0 rfl [] [] []).trans ?_
 rw[q1,w1,oD];unfold ug;dsimp only;rw[aL (by decide)];refine(e3 _ 1 1 (by decide) (by decide) a0.s1 rfl _ [] []).trans ?_
 rw[q2,w2,oD];unfold ug;dsimp only;rw[aL (by decide)];refine(e3 _ 2 2 (by decide) (by decide) a0.s2 rfl _ _ []).trans ?_
 rw[q3,w3,oD];unfold ug;dsimp only;rw[ay (by decide)];rfl
def T22:TB:=T62.ad U2
def aaI:aA:=⟨T22.tab,173,⟨[.z0,.z0,.z0],[],0⟩,⟨[.bool],[],0⟩,[]⟩
def t173 (m:Nat):Int × Int × Int->OU0:=fun(a0,a1,a2)=>
 bif decide (a0>=a1)then
 some ([.b (decide (a0<=a2))])
 else
 some ([.b false])
def f173:Int × Int × Int->Bool × List Un:=fun(a0,a1,a2)=>(true,[.b (decide (a1<=a0/\a0<=a2))])
theorem PA:ER 173 (mkE aaI.en aaI.ex f173):=ak ae T22.right (fun m=>[]) (t:=t173) (by kernel_rfl) (fun m=>az) (fun m a=>by kernel_rfl) fun(a0,a1,a2) hc=>by
 dsimp only[f173]at⊢;refine⟨0, ?_⟩;unfold t173
 by_cases h:a1<=a0<;>by_cases h2:a0<=a2<;>simp[h,h2]
def Ua:TB:=T22.ad PA
def DG (a b:Int):LD0->Int->Int
 |[],_=> -1
 |d::l,i=>if a=d.i 0/\b=d.i 1 then i else DG a b l (i+1)
theorem Hs (a b:Int):∀(l:LD0) (i:Int),0<=i->(0<=DG a b l i↔cY l a b=true)
 |[],i,h=>by simp[DG,cY]
 |d::l,i,h=>by
  have:=Hs a b l (i+1) (by omega);simp only[cY,List.any_cons,zbj,zae,zaI]at this⊢;unfold DG
  by_cases hc:a=d.i 0/\b=d.i 1
  . rw[if_pos hc];exact⟨fun _=> .inl ⟨hc.1.symm,hc.2.symm⟩,fun _=>h⟩
  . rw[if_neg hc,this];exact⟨.inr,fun h=>h.resolve_left fun e=>hc ⟨e.1.symm,e.2.symm⟩⟩
def XT:aA:=⟨Ua.tab,199,⟨[.ab (sI 2),.agg [.z0,.z0]],[],0⟩,⟨[.z0],[],0⟩,[]⟩
abbrev Ey:Type:=LD0 × Int × Int × Int × Int
def xT (m:Nat) (k:Ey->OU0):Ey->OU0:=fun(a0,a1,a2,a3,a4)=>
 bif decide (a2<a1)then
 chk (inb a2 a0.length)<|
 chk (decide (a2.toNat<a0.length))<|
 lt (ai a0 a2.toNat:Dat) fun d1=>
 bif ((a3==(d1.i 0))&&((a4==(d1.i 1))&&true))then
 some ([.i a2])
 else
 k (a0,a1,(w64 (a2+1)),a3,a4)
 else
 some ([.i (-1)])
def uD (m:Nat):Nat->Ey->OU0:=aZ (xT m)
theorem vZ (m:Nat) (n:Nat):uD m (n+1)=xT m (uD m n):=rfl
def Kr (F:Ey->OU0):aQ:=⟨[.lp [0,1,0,1],.blk 0,.code [1,1]],⟨frm 19 [(0,.ab (sI 2)),(3,.ptr 0 0 0),(7,.z0),(8,.z0)],[.cells [.z0,.z0]],0⟩,onU F⟩
theorem YE (m:Nat):∀n,HO XT (Kr (uD m n)):=an ae Ua.right (fun k=>[Kr k]) (fun k h=>(aI h az)) fun k a=>by kernel_rfl
def t199 (m:Nat):LD0 × Int × Int->OU0:=fun(a0,a1,a2)=>
 uD m m (a0,(a0.length:Int),0,a1,a2)
theorem afk (m:Nat) (a b:Int):∀(rest pre:LD0) (n:Nat),rest.length<n->(pre++rest).length<1099511627776->
 uD m n (pre++rest,((pre++rest).length:Int),(pre.length:Int),a,b)=some [.i (DG a b rest pre.length)]:=by
 intro rest
 induction rest with
 |nil=>
  intro pre n hn hl;obtain⟨n,rfl⟩:=ah n (by simp at hn;omega);rw[vZ];unfold xT;dsimp only;simp[ay,DG]
 |cons x rest ih=>
  intro pre n hn hl;obtain⟨n,rfl⟩:=ah n (by simp at hn;omega);simp only[zac,zab]at hn hl;have:=ih (pre++[x]) n (by omega) (by simp;omega);rw[vZ];unfold xT;dsimp only;simp only[DG]
  by_cases h1:a=x.i 0
  . by_cases h2:b=x.i 1
    . rw[if_pos ⟨h1,h2⟩];simp(disch:=omega) only[TRa,TRi,aa,LNl,LNi,zad,ax]
    . rw[if_neg (fun h=>h2 h.2)];simp(disch:=omega) only[TRa,TRi,aa,LNl,LNi,zad,ax];simp only[LNl,LNi,zad]at this⊢;exact this
  . rw[if_neg (fun h=>h1 h.1)];simp(disch:=omega) only[TRa,TRi,aa,LNl,LNi,zad,ax];simp only[LNl,LNi,zad]at this⊢;exact this
def f199:LD0 × Int × Int->Bool × List Un:=fun(a0,a1,a2)=>(decide (a0.length<1099511627776),[.i (DG a1 a2 a0 0)])
theorem O2:ER 199 (mkE XT.en XT.ex f199):=ak ae Ua.right (fun m=>[Kr (uD m m)]) (t:=t199) (by kernel_rfl) (fun m=>(aI (YE m m) az)) (fun m a=>by kernel_rfl) fun(a0,a1,a2) hc=>by
 dsimp only[f199]at hc⊢;refine⟨a0.length+1, ?_⟩;exact afk _ a1 a2 a0 [] _ (by omega) (zaj hc)
def XG:TB:=Ua.ad O2
def acM:aA:=⟨XG.tab,174,⟨[.ab (sI 2),.agg [.z0,.z0]],[],0⟩,⟨[.bool],[],0⟩,[]⟩
def t174 (m:Nat):LD0 × Int × Int->OU0:=fun(a0,a1,a2)=>
 chk (decide (a0.length<1099511627776))<|
 some ([.b (decide ((DG a1 a2 a0 0)>=0))])
def f174:LD0 × Int × Int->Bool × List Un:=fun(a0,a1,a2)=>(decide (a0.length<1099511627776),[.b (cY a0 a1 a2)])
theorem SG:ER 174 (mkE acM.en acM.ex f174):=ak ae XG.right (fun m=>[]) (t:=t174) (by kernel_rfl) (fun m=>az) (fun m a=>by kernel_rfl) fun(a0,a1,a2) hc=>by
 dsimp only[f174]at hc⊢;refine⟨0, ?_⟩;have e:=Hs a1 a2 a0 0 (zcc 0);have h:=zaj hc;unfold t174;simp(disch:=omega) only[TRa,TRi,aa];cases h:cY a0 a1 a2<;>simp[h]at e⊢<;>omega
def V7:TB:=XG.ad SG
theorem Us {c y:Bool}:(bif c then some [Un.b y]else some [.b false])=some [.b (c&&y)]:=by cases c<;>rfl
def qc (d:aT):Bool:=
 decide (0<=d.b.oc/\d.b.oc<=100000)&&(decide (0<=d.b.ic/\d.b.ic<=100000)&&(decide (0<=d.b.late/\d.b.late<=100000)&&(decide (0<=d.b.lv/\d.b.lv<=100000)&&(decide (0<=d.b.clean/\d.b.clean<=100000)&&
 (decide (1<=d.a.year/\d.a.year<=9000)&&(decide (1<=d.a.month/\d.a.month<=12)&&(decide (0<=d.a.basis/\d.a.basis<=2)&&(decide (0<=d.b.fee/\d.b.fee<=5000)&&(decide (0<=d.b.bq/\d.b.bq<=1099511627776)&&
 (decide (0<=d.b.target/\d.b.target<=10000)&&(decide (0<=d.b.advance/\d.b.advance<=1099511627776)&&decide (0<=d.b.eX/\d.b.eX<=600))))))))))))
def XO:aA:=⟨V7.tab,134,⟨[.agg [.z0,.z0,.z0,.ab (sI 2),.ab (sI 3),.z0,.z0,.z0,.z0,.z0,.z0,.z0,.z0,.z0,.z0,.ab (sI 2),.ab (sI 2),.ab (sI 2)]],[],0⟩,⟨[.bool],[],0⟩,[]⟩
abbrev E2:Type:=Int × Int × aT × LI0
def Em (m:Nat) (k:E2->OU0):E2->OU0:=fun(a0,a1,a2,a3)=>
 bif decide (a1<a0)then
 chk (inb a1 a3.length)<|
 chk (decide (a1.toNat<a3.length))<|
 bif !(decide (0<=(a3.getD a1.toNat 0)/\(a3.getD a1.toNat 0)<=100000))then
 some ([.b false])
 else
 k (a0,(w64 (a1+1)),a2,a3)
 else
 bif (decide (1<=a2.a.year/\a2.a.year<=9000))then
 bif (decide (1<=a2.a.month/\a2.a.month<=12))then
 bif (decide (0<=a2.a.basis/\a2.a.basis<=2))then
 bif (decide (0<=a2.b.fee/\a2.b.fee<=5000))then
 bif (decide (0<=a2.b.bq/\a2.b.bq<=1099511627776))then
 bif (decide (0<=a2.b.target/\a2.b.target<=10000))then
 bif (decide (0<=a2.b.advance/\a2.b.advance<=1099511627776))then
 some ([.b (decide (0<=a2.b.eX/\a2.b.eX<=600))])
 else
 some ([.b false])
 else
 some ([.b false])
 else
 some ([.b false])
 else
 some ([.b false])
 else
 some ([.b false])
 else
 some ([.b false])
 else
 some ([.b false])
def rL (m:Nat):Nat->E2->OU0:=aZ (Em m)
theorem GK (m:Nat) (n:Nat):rL m (n+1)=Em m (rL m n):=rfl
def Ks (F:E2->OU0):aQ:=⟨[.lp [0,1,0,1],.blk 0,.code [1,1]],⟨frm 68 [(1,.ptr 0 0 0),(20,.buf 1 1),(21,.z0),(22,.z0)],[.cells [.z0,.z0,.z0,.ab (sI 2),.ab (sI 3),.z0,.z0,.z0,.z0,.z0,.z0,.z0,.z0,.z0,.z0,.ab (sI 2),.ab (sI 2),.ab (sI 2)],.ints .i64],0⟩,onU F⟩
theorem Yo (m:Nat):∀n,HO XO (Ks (rL m n)):=an ae V7.right (fun k=>[Ks k]) (fun k h=>(aI h az)) fun k a=>by kernel_rfl
def t134 (m:Nat):aT->OU0:=fun a0=>
 rL m m (5,0,a0,([a0.b.oc,a0.b.ic,a0.b.late,a0.b.lv,a0.b.clean]:LI0))
def f134:aT->Bool × List Un:=fun a0=>(true,[.b (qc a0)])
set_option maxHeartbeats 2000000 in
theorem O5:ER 134 (mkE XO.en XO.ex f134):=ak ae V7.right (fun m=>[Ks (rL m m)]) (t:=t134) (by kernel_rfl) (fun m=>(aI (Yo m m) az)) (fun m a=>by kernel_rfl) fun a0 hc=>by
 dsimp only[f134]at⊢;refine⟨6, ?_⟩;unfold t134;rw[show rL 6 6=rL 6 (0+1+1+1+1+1+1) from rfl];simp only[GK];unfold Em;dsimp only;simp(disch:=omega) only[TRa,TRi,aa,zac,zar,zaO,zaE,Int.reduceToNat,Nat.reduceAdd,za4,Int.reduceAdd,za3,zaY,Int.reduceLT];simp only[Us];rfl
def VQ:TB:=V7.ad O5
def iX:Int->Int->LD0->Option Int
 |_,all,[]=>some all
 |last,all,d::l=>if d.i 0<=last then none else if 0<=d.i 1/\d.i 1<=1099511627776-all then iX (d.i 0) (all+d.i 1) l else none
def gy (l:LD0):Option Int:=if 1<=l.length/\l.length<=64 then iX 0 0 l else none
def U8 (o:Option Int):OU0:=some [.i (o.getD 0),.b o.isSome]
def Zm:aA:=⟨VQ.tab,132,⟨[.ab (sI 2)],[],0⟩,⟨[.z0,.bool],[],0⟩,[]⟩
abbrev DQ:Type:=Int × Int × LD0 × Int × Int
def yB (m:Nat) (k:DQ->OU0):DQ->OU0:=fun(a0,a1,a2,a3,a4)=>
 bif decide (a4<a3)then
 chk (inb a4 a2.length)<|
 chk (decide (a4.toNat<a2.length))<|
 lt (ai a2 a4.toNat:Dat) fun d2=>
 bif decide ((d2.i 0)<=a0)then
 some ([.i 0,.b false])
 else
 bif !(decide (0<=(d2.i 1)/\(d2.i 1)<=(w64 (1099511627776-a1))))then
 some ([.i 0,.b false])
 else
 k ((d2.i 0),(w64 (a1+(d2.i 1))),a2,a3,(w64 (a4+1)))
 else
 some ([.i a1,.b true])
def vN (m:Nat):Nat->DQ->OU0:=aZ (yB m)
theorem xi (m:Nat) (n:Nat):vN m (n+1)=yB m (vN m n):=rfl
def Ke (F:DQ->OU0):aQ:=⟨[.lp [0,1,0,1,1,1],.blk 0,.code [1,1,1,1]],⟨frm 38 [(4,.z0),(5,.z0),(12,.ab (sI 2)),(13,.z0),(14,.z0)],[],0⟩,onU F⟩
theorem XH (m:Nat):∀n,HO Zm (Ke (vN m n)):=an ae VQ.right (fun k=>[Ke k]) (fun k h=>(aI h az)) fun k a=>by kernel_rfl
def t132 (m:Nat):LD0->OU0:=fun a0=>
 bif !(decide (1<=(a0.length:Int)/\(a0.length:Int)<=64))then
 some ([.i 0,.b false])
 else
 vN m m (0,0,a0,(a0.length:Int),0)
theorem Ve (m:Nat):∀(rest pre:LD0) (n:Nat) (last all:Int),rest.length<n->(pre++rest).length<=64->0<=all->all<=1099511627776->
 vN m n (last,all,pre++rest,((pre++rest).length:Int),(pre.length:Int))=U8 (iX last all rest):=by
 intro rest
 induction rest with
 |nil=>
  intro pre n last all hn hl h0 h1;obtain⟨n,rfl⟩:=ah n (by simp at hn;omega);rw[xi];unfold yB;dsimp only;simp[ay,iX,U8]
 |cons x rest ih=>
  intro pre n last all hn hl h0 h1;obtain⟨n,rfl⟩:=ah n (by simp at hn;omega);simp only[zac,zab]at hn hl;rw[xi];unfold yB;dsimp only;simp only[iX]
  by_cases c1:x.i 0<=last
  . rw[if_pos c1];simp(disch:=omega) only[TRa,TRi,aa,LNl,LNi,zad,ax];rfl
  . rw[if_neg c1]
    by_cases c2:0<=x.i 1/\x.i 1<=1099511627776-all
    . rw[if_pos c2];have:=ih (pre++[x]) n (x.i 0) (all+x.i 1) (by omega) (by simp;omega) (by omega) (by omega);simp(disch:=omega) only[TRa,TRi,aa,LNl,LNi,zad,ax];simp only[LNl,LNi,zad]at this⊢;exact this
    . rw[if_neg c2];simp(disch:=omega) only[TRa,TRi,aa,LNl,LNi,zad,ax];rfl
def f132:LD0->Bool × List Un:=fun a0=>(true,[.i ((gy a0).getD 0),.b ((gy a0).isSome)])
theorem P7:ER 132 (mkE Zm.en Zm.ex f132):=ak ae VQ.right (fun m=>[Ke (vN m m)]) (t:=t132) (by kernel_rfl) (fun m=>(aI (XH m m) az)) (fun m a=>by kernel_rfl) fun a0 hc=>by
 dsimp only[f132]at⊢;refine⟨65, ?_⟩;unfold t132 gy
 by_cases h:1<=a0.length/\a0.length<=64
 . rw[if_pos h];simp(disch:=omega) only[TRa,TRi,aa];exact Ve 65 a0 [] 65 0 0 (by omega) h.2 (by omega) (by omega)
 . rw[if_neg h];simp(disch:=omega) only[TRa,TRi,aa];rfl
def TT:TB:=VQ.ad P7
def mg (most:Int):Int->LD0->Option Int
 |all,[]=>some all
 |all,d::l=>if (0<=d.i 0/\d.i 0<=7)/\(1<=d.i 1/\d.i 1<=most-all)/\(0<=d.i 2/\d.i 2<=5000)then mg most (all+d.i 1) l else none
def lZ (most:Int) (l:LD0):Option Int:=if 1<=l.length/\l.length<=8 then mg most 0 l else none
def X5:aA:=⟨TT.tab,133,⟨[.ab (sI 3),.z0],[],0⟩,⟨[.z0,.bool],[],0⟩,[]⟩
abbrev Ft:Type:=Int × Int × LD0 × Int × Int
def yJ (m:Nat) (k:Ft->OU0):Ft->OU0:=fun(a0,a1,a2,a3,a4)=>
 bif decide (a4<a3)then
 chk (inb a4 a2.length)<|
 chk (decide (a4.toNat<a2.length))<|
 lt (ai a2 a4.toNat:Dat) fun d2=>
 bif !(decide (0<=(d2.i 0)/\(d2.i 0)<=7))then
 some ([.i 0,.b false])
 else
 bif !(decide (1<=(d2.i 1)/\(d2.i 1)<=(w64 (a0-a1))))then
 some ([.i 0,.b false])
 else
 bif !(decide (0<=(d2.i 2)/\(d2.i 2)<=5000))then
 some ([.i 0,.b false])
 else
 k (a0,(w64 (a1+(d2.i 1))),a2,a3,(w64 (a4+1)))
 else
 some ([.i a1,.b true])
def vE (m:Nat):Nat->Ft->OU0:=aZ (yJ m)
theorem wg (m:Nat) (n:Nat):vE m (n+1)=yJ m (vE m n):=rfl
def I6 (F:Ft->OU0):aQ:=⟨[.lp [0,1,0,1,1,1],.blk 0,.code [1,1,1,1]],⟨frm 44 [(1,.z0),(6,.z0),(13,.ab (sI 3)),(14,.z0),(15,.z0)],[],0⟩,onU F⟩
theorem Z2 (m:Nat):∀n,HO X5 (I6 (vE m n)):=an ae TT.right (fun k=>[I6 k]) (fun k h=>(aI h az)) fun k a=>by kernel_rfl
def t133 (m:Nat):LD0 × Int->OU0:=fun(a0,a1)=>
 bif !(decide (1<=(a0.length:Int)/\(a0.length:Int)<=8))then
 some ([.i 0,.b false])
 else
 vE m m (a1,0,a0,(a0.length:Int),0)
theorem U5 (m:Nat) (most:Int) (hm:0<=most/\most<=1099511627776):∀(rest pre:LD0) (n:Nat) (all:Int),rest.length<n->(pre++rest).length<=8->0<=all->all<=most->
 vE m n (most,all,pre++rest,((pre++rest).length:Int),(pre.length:Int))=U8 (mg most all rest):=by
 intro rest
 induction rest with
 |nil=>
  intro pre n all hn hl h0 h1;obtain⟨n,rfl⟩:=ah n (by simp at hn;omega);rw[wg];unfold yJ;dsimp only;simp[ay,mg,U8]
 |cons x rest ih=>
  intro pre n all hn hl h0 h1;obtain⟨n,rfl⟩:=ah n (by simp at hn;omega);simp only[zac,zab]at hn hl;rw[wg];unfold yJ;dsimp only;simp only[mg]
  by_cases c1:0<=x.i 0/\x.i 0<=7
  . by_cases c2:1<=x.i 1/\x.i 1<=most-all
    . by_cases c3:0<=x.i 2/\x.i 2<=5000
      . rw[if_pos ⟨c1,c2,c3⟩];have:=ih (pre++[x]) n (all+x.i 1) (by omega) (by simp;omega) (by omega) (by omega);simp(disch:=omega) only[TRa,TRi,aa,LNl,LNi,zad,ax];simp only[LNl,LNi,zad]at this⊢;exact this
      . rw[if_neg (fun h=>c3 h.2.2)];simp(disch:=omega) only[TRa,TRi,aa,LNl,LNi,zad,ax];rfl
    . rw[if_neg (fun h=>c2 h.2.1)];simp(disch:=omega) only[TRa,TRi,aa,LNl,LNi,zad,ax];rfl
  . rw[if_neg (fun h=>c1 h.1)];simp(disch:=omega) only[TRa,TRi,aa,LNl,LNi,zad,ax];rfl
def f133:LD0 × Int->Bool × List Un:=fun(a0,a1)=>(decide (0<=a1/\a1<=1099511627776),[.i ((lZ a1 a0).getD 0),.b ((lZ a1 a0).isSome)])
theorem OU:ER 133 (mkE X5.en X5.ex f133):=ak ae TT.right (fun m=>[I6 (vE m m)]) (t:=t133) (by kernel_rfl) (fun m=>(aI (Z2 m m) az)) (fun m a=>by kernel_rfl) fun(a0,a1) hc=>by
 dsimp only[f133]at hc⊢;have hm:=zaj hc;refine⟨65, ?_⟩;unfold t133 lZ
 by_cases h:1<=a0.length/\a0.length<=8
 . rw[if_pos h];simp(disch:=omega) only[TRa,TRi,aa];exact U5 65 a1 hm a0 [] 65 0 (by omega) h.2 (by omega) (by omega)
 . rw[if_neg h];simp(disch:=omega) only[TRa,TRi,aa];rfl
def Ts:TB:=TT.ad OU
def sg (d:Dat):Bool:=decide (1<=d.i 0/\d.i 0<=7)&&decide (0<=d.i 1/\d.i 1<=(if d.i 0=3 then 7 else 0))
def j6:LD0->LD0->Bool
 |_,[]=>true
 |pre,d::l=>sg d&&(!cY pre (d.i 0) (d.i 1)&&j6 (pre++[d]) l)
def eF (l:LD0):Bool:=decide (1<=(l.length:Int)/\(l.length:Int)<=16)&&j6 [] l
def Zy:aA:=⟨Ts.tab,135,⟨[.ab (sI 2)],[],0⟩,⟨[.bool],[],0⟩,[]⟩
abbrev Ee:Type:=LD0 × LD0 × Int × Int
def yz (m:Nat) (k:Ee->OU0):Ee->OU0:=fun(a0,a1,a2,a3)=>
 bif decide (a3<a2)then
 chk (inb a3 a1.length)<|
 chk (decide (a3.toNat<a1.length))<|
 lt (ai a1 a3.toNat:Dat) fun d2=>
 bif (d2.i 0)==3 then
 bif !(decide (1<=(d2.i 0)/\(d2.i 0)<=7))then
 some ([.b false])
 else
 bif !(decide (0<=(d2.i 1)/\(d2.i 1)<=7))then
 some ([.b false])
 else
 chk (decide (0<=a3)&&(true&&decide (0<=a3.toNat/\a3.toNat<=a0.length)))<|
 chk (decide ((List.take a3.toNat a0).length<1099511627776))<|
 bif (cY (List.take a3.toNat a0) (d2.i 0) (d2.i 1))then
 some ([.b false])
 else
 k (a0,a1,a2,(w64 (a3+1)))
 else
 bif !(decide (1<=(d2.i 0)/\(d2.i 0)<=7))then
 some ([.b false])
 else
 bif !(decide (0<=(d2.i 1)/\(d2.i 1)<=0))then
 some ([.b false])
 else
 chk (decide (0<=a3)&&(true&&decide (0<=a3.toNat/\a3.toNat<=a0.length)))<|
 chk (decide ((List.take a3.toNat a0).length<1099511627776))<|
 bif (cY (List.take a3.toNat a0) (d2.i 0) (d2.i 1))then
 some ([.b false])
 else
 k (a0,a1,a2,(w64 (a3+1)))
 else
 some ([.b true])
def uC (m:Nat):Nat->Ee->OU0:=aZ (yz m)
theorem wV (m:Nat) (n:Nat):uC m (n+1)=yz m (uC m n):=rfl
def IK (F:Ee->OU0):aQ:=⟨[.lp [0,1,0,1,1],.blk 0,.code [1,1,1]],⟨frm 39 [(0,.ab (sI 2)),(10,.ab (sI 2)),(11,.z0),(12,.z0)],[],0⟩,onU F⟩
theorem XD (m:Nat):∀n,HO Zy (IK (uC m n)):=an ae Ts.right (fun k=>[IK k]) (fun k h=>(aI h az)) fun k a=>by kernel_rfl
def t135 (m:Nat):LD0->OU0:=fun a0=>
 bif !(decide (1<=(a0.length:Int)/\(a0.length:Int)<=16))then
 some ([.b false])
 else
 uC m m (a0,a0,(a0.length:Int),0)
theorem Tw (m:Nat):∀(rest pre:LD0) (n:Nat),rest.length<n->(pre++rest).length<=16->
 uC m n (pre++rest,pre++rest,((pre++rest).length:Int),(pre.length:Int))=some [.b (j6 pre rest)]:=by
 intro rest
 induction rest with
 |nil=>
  intro pre n hn hl;obtain⟨n,rfl⟩:=ah n (by simp at hn;omega);rw[wV];unfold yz;dsimp only;simp[ay,j6]
 |cons x rest ih=>
  intro pre n hn hl;obtain⟨n,rfl⟩:=ah n (by simp at hn;omega);simp only[zac,zab]at hn hl;rw[wV];unfold yz;dsimp only;have:=ih (pre++[x]) n (by omega) (by simp;omega);simp only[j6,sg]
  by_cases c1:1<=x.i 0/\x.i 0<=7
  . by_cases c3:x.i 0=3
    . by_cases c2:0<=x.i 1/\x.i 1<=7
      . cases h:cY pre (x.i 0) (x.i 1)
        . simp(disch:=omega) only[TRa,TRi,aa,LNl,LNi,zad,ax,zas];simp only[zbO,h,zal,if_pos c3,zaa c1,zaa c2,zbb,Bool.not_false]
          (try simp(disch:=omega) only[TRa,TRi,aa,LNl,LNi,zad,ax,zas])
          simp only[LNl,LNi,zad]at this⊢;exact this
        . simp(disch:=omega) only[TRa,TRi,aa,LNl,LNi,zad,ax,zas];simp only[zbO,h,zaw,if_pos c3,zaa c1,zaa c2,zbb,zbr,zbN]
      . simp(disch:=omega) only[TRa,TRi,aa,LNl,LNi,zad,ax,zas];simp only[if_pos c3,zan c2,Bool.and_false,zbN]
    . by_cases c2:0<=x.i 1/\x.i 1<=0
      . cases h:cY pre (x.i 0) (x.i 1)
        . simp(disch:=omega) only[TRa,TRi,aa,LNl,LNi,zad,ax,zas];simp only[zbO,h,zal,if_neg c3,zaa c1,zaa c2,zbb,Bool.not_false]
          (try simp(disch:=omega) only[TRa,TRi,aa,LNl,LNi,zad,ax,zas])
          simp only[LNl,LNi,zad]at this⊢;exact this
        . simp(disch:=omega) only[TRa,TRi,aa,LNl,LNi,zad,ax,zas];simp only[zbO,h,zaw,if_neg c3,zaa c1,zaa c2,zbb,zbr,zbN]
      . simp(disch:=omega) only[TRa,TRi,aa,LNl,LNi,zad,ax,zas];simp only[if_neg c3,zan c2,Bool.and_false,zbN]
  . by_cases c3:x.i 0=3
    . omega
    . simp(disch:=omega) only[TRa,TRi,aa,LNl,LNi,zad,ax,zas];simp only[zan c1,zbN]
def f135:LD0->Bool × List Un:=fun a0=>(true,[.b (eF a0)])
theorem RJ:ER 135 (mkE Zy.en Zy.ex f135):=ak ae Ts.right (fun m=>[IK (uC m m)]) (t:=t135) (by kernel_rfl) (fun m=>(aI (XD m m) az)) (fun m a=>by kernel_rfl) fun a0 hc=>by
 dsimp only[f135]at⊢;refine⟨17, ?_⟩;unfold t135 eF
 by_cases h:1<=(a0.length:Int)/\(a0.length:Int)<=16
 . rw[zaa h,zbb];simp(disch:=omega) only[TRa,TRi,aa];exact Tw 17 a0 [] 17 (by omega) (by simp;omega)
 . rw[zan h,zbN];simp(disch:=omega) only[TRa,TRi,aa]
def YQ:TB:=Ts.ad RJ
def cI (d:aT):Option (Int × Int):=
 match gy d.aC with
 |none=>none
 |some p=>match lZ p d.notes with
  |none=>none
  |some n=>if qc d&&(eF d.s0&&(eF d.s1&&eF d.s2))then some (p,n)else none
theorem Cn:∀(l:LD0) (last all r:Int),0<=all->all<=1099511627776->iX last all l=some r->all<=r/\r<=1099511627776
 |[],last,all,r,h0,h1,h=>by simp[iX]at h;omega
 |d::l,last,all,r,h0,h1,h=>by
  unfold iX at h
  split at h
  . cases h
  . split at h
    . have:=Cn l _ _ r (by omega) (by omega) h;omega
    . cases h
theorem Nq {l:LD0} {r:Int} (h:gy l=some r):0<=r/\r<=1099511627776:=by
 unfold gy at h
 split at h
 . exact Cn l 0 0 r (by omega) (by omega) h
 . cases h
def N94:aA:=⟨YQ.tab,94,⟨[.agg [.z0,.z0,.z0,.ab (sI 2),.ab (sI 3),.z0,.z0,.z0,.z0,.z0,.z0,.z0,.z0,.z0,.z0,.ab (sI 2),.ab (sI 2),.ab (sI 2)]],[],0⟩,⟨[.z0,.z0,.bool],[],0⟩,[[0,1,0,1,1,1,1]]⟩
def t94 (m:Nat):aT->OU0:=fun a0=>
 chk (decide (0<=((gy a0.aC).getD 0)/\((gy a0.aC).getD 0)<=1099511627776))<|
 bif !((gy a0.aC).isSome)then
 some ([.i 0,.i 0,.b false])
 else
 bif !((lZ ((gy a0.aC).getD 0) a0.notes).isSome)then
 some ([.i 0,.i 0,.b false])
 else
 bif !(qc a0)then
 some ([.i 0,.i 0,.b false])
 else
 bif !(eF a0.s0)then
 some ([.i 0,.i 0,.b false])
 else
 bif !(eF a0.s1)then
 some ([.i 0,.i 0,.b false])
 else
 bif !(eF a0.s2)then
 some ([.i 0,.i 0,.b false])
 else
 some ([.i ((gy a0.aC).getD 0),.i ((lZ ((gy a0.aC).getD 0) a0.notes).getD 0),.b true])
def f94:aT->Bool × List Un:=fun a0=>(true,[.i (((cI a0).getD (0,0)).1),.i (((cI a0).getD (0,0)).2),.b ((cI a0).isSome)])
theorem UL:ER 94 (mkE N94.en N94.ex f94):=ak ae YQ.right (fun m=>[]) (t:=t94) (by kernel_rfl) (fun m=>az) (fun m a=>by kernel_rfl) fun a0 hc=>by
 dsimp only[f94]at⊢;refine⟨0, ?_⟩;unfold t94 cI;cases hl:gy a0.aC with
 |none=>simp[lt,chk]
 |some p=>
  have hb:=Nq hl;simp only[lt_eq,zbD,Option.isSome_some,zbr,zal];rw[aJ hb];cases hn:lZ p a0.notes with
  |none=>simp
  |some n=>
   simp only[Option.isSome_some,zbr,zal,zbD];cases qc a0<;>cases eF a0.s0<;>cases eF a0.s1<;>cases eF a0.s2<;>rfl
def T94:TB:=YQ.ad UL
def N51:aA:=⟨T94.tab,51,⟨[.agg [.z0,.z0,.z0,.ab (sI 2),.ab (sI 3),.z0,.z0,.z0,.z0,.z0,.z0,.z0,.z0,.z0,.z0,.ab (sI 2),.ab (sI 2),.ab (sI 2)]],[],0⟩,⟨[.bool],[],0⟩,[]⟩
def t51 (m:Nat):aT->OU0:=fun a0=>
 some ([.b ((cI a0).isSome)])
def f51:aT->Bool × List Un:=fun a0=>(true,[.b ((cI a0).isSome)])
theorem Vg:ER 51 (mkE N51.en N51.ex f51):=ak ae T94.right (fun m=>[]) (t:=t51) (by kernel_rfl) (fun m=>az) (fun m a=>by kernel_rfl) fun a0 hc=>by
 dsimp only[f51]at⊢;exact⟨0,rfl⟩
def T51:TB:=T94.ad Vg
def ac9:aA:=⟨T51.tab,194,⟨[.agg [.z0,.z0,.z0,.ab (sI 2),.ab (sI 3),.z0,.z0,.z0,.z0,.z0,.z0,.z0,.z0,.z0,.z0,.ab (sI 2),.ab (sI 2),.ab (sI 2)]],[],0⟩,⟨[.z0],[],0⟩,[]⟩
def t194 (m:Nat):aT->OU0:=fun a0=>
 some ([.i (((cI a0).getD (0,0)).1)])
def f194:aT->Bool × List Un:=fun a0=>(true,[.i (((cI a0).getD (0,0)).1)])
theorem Sy:ER 194 (mkE ac9.en ac9.ex f194):=ak ae T51.right (fun m=>[]) (t:=t194) (by kernel_rfl) (fun m=>az) (fun m a=>by kernel_rfl) fun a0 hc=>by
 dsimp only[f194]at⊢;exact⟨0,rfl⟩
def YI:TB:=T51.ad Sy
def N55:aA:=⟨YI.tab,55,⟨[.ints .u8],[],0⟩,⟨[.buf 0 1],[.ints .u8],0⟩,[]⟩
def t55 (m:Nat):LI0->OU0:=fun a0=>
 bif decide (a0.length=0)then
 both (
 some ([.l ([])])) (
 chk (fits (0+a0.length) 1)<|
 some ([.l a0]))
 else
 chk (fits (0+a0.length) 1)<|
 some ([.l a0])
def f55:LI0->Bool × List Un:=fun a0=>(decide (a0.length<1000000),[.l (a0)])
theorem Vx:ER 55 (mkE N55.en N55.ex f55):=ak ae YI.right (fun m=>[]) (t:=t55) (by kernel_rfl) (fun m=>az) (fun m a=>by kernel_rfl) fun a0 hc=>by
 dsimp only[f55]at hc⊢;have h:=zaj hc;refine⟨0, ?_⟩;unfold t55;cases a0 with
 |nil=>simp(disch:=omega) only[TRa,TRi,aa,zar,iw,zbc,gI]
 |cons x l=>
  simp only[zac]at h⊢;simp(disch:=omega) only[TRa,TRi,aa]
def T55:TB:=YI.ad Vx
def abV:aA:=⟨T55.tab,102,⟨[.ints .i64],[],0⟩,⟨[.buf 0 1],[.ints .i64],0⟩,[]⟩
def t102 (m:Nat):LI0->OU0:=fun a0=>
 bif decide (a0.length=0)then
 both (
 some ([.l ([])])) (
 chk (fits (0+a0.length) 8)<|
 some ([.l a0]))
 else
 chk (fits (0+a0.length) 8)<|
 some ([.l a0])
def f102:LI0->Bool × List Un:=fun a0=>(decide (a0.length<1000000),[.l (a0)])
theorem R6:ER 102 (mkE abV.en abV.ex f102):=ak ae T55.right (fun m=>[]) (t:=t102) (by kernel_rfl) (fun m=>az) (fun m a=>by kernel_rfl) fun a0 hc=>by
 dsimp only[f102]at hc⊢;have h:=zaj hc;refine⟨0, ?_⟩;unfold t102;cases a0 with
 |nil=>simp(disch:=omega) only[TRa,TRi,aa,zar,iw,zbc,gI]
 |cons x l=>
  simp only[zac]at h⊢;simp(disch:=omega) only[TRa,TRi,aa]
def Yz:TB:=T55.ad R6
def ac1:aA:=⟨Yz.tab,137,⟨[.ab (sI 7)],[],0⟩,⟨[.buf 0 7],[.ab (sI 7)],0⟩,[]⟩
def t137 (m:Nat):LD0->OU0:=fun a0=>
 bif decide (a0.length=0)then
 both (
 some ([.d ([])])) (
 chk (fits (0+a0.length) 56)<|
 some ([.d a0]))
 else
 chk (fits (0+a0.length) 56)<|
 some ([.d a0])
def f137:LD0->Bool × List Un:=fun a0=>(decide (a0.length<1000000),[.d (a0)])
theorem RS:ER 137 (mkE ac1.en ac1.ex f137):=ak ae Yz.right (fun m=>[]) (t:=t137) (by kernel_rfl) (fun m=>az) (fun m a=>by kernel_rfl) fun a0 hc=>by
 dsimp only[f137]at hc⊢;have h:=zaj hc;refine⟨0, ?_⟩;unfold t137;cases a0 with
 |nil=>simp(disch:=omega) only[TRa,TRi,aa,zar,iw,zbc,gI]
 |cons x l=>
  simp only[zac]at h⊢;simp(disch:=omega) only[TRa,TRi,aa]
def W2:TB:=Yz.ad RS
def aaU:aA:=⟨W2.tab,155,⟨[.ab (sB 4)],[],0⟩,⟨[.buf 0 5],[.ab (sB 4)],0⟩,[]⟩
def t155 (m:Nat):LD0->OU0:=fun a0=>
 bif decide (a0.length=0)then
 both (
 some ([.d ([])])) (
 chk (fits (0+a0.length) 40)<|
 some ([.d a0]))
 else
 chk (fits (0+a0.length) 40)<|
 some ([.d a0])
def f155:LD0->Bool × List Un:=fun a0=>(decide (a0.length<1000000),[.d (a0)])
theorem QK:ER 155 (mkE aaU.en aaU.ex f155):=ak ae W2.right (fun m=>[]) (t:=t155) (by kernel_rfl) (fun m=>az) (fun m a=>by kernel_rfl) fun a0 hc=>by
 dsimp only[f155]at hc⊢;have h:=zaj hc;refine⟨0, ?_⟩;unfold t155;cases a0 with
 |nil=>simp(disch:=omega) only[TRa,TRi,aa,zar,iw,zbc,gI]
 |cons x l=>
  simp only[zac]at h⊢;simp(disch:=omega) only[TRa,TRi,aa]
def Y9:TB:=W2.ad QK
def acD:aA:=⟨Y9.tab,167,⟨[.ab (sI 2)],[],0⟩,⟨[.buf 0 2],[.ab (sI 2)],0⟩,[]⟩
def t167 (m:Nat):LD0->OU0:=fun a0=>
 bif decide (a0.length=0)then
 both (
 some ([.d ([])])) (
 chk (fits (0+a0.length) 16)<|
 some ([.d a0]))
 else
 chk (fits (0+a0.length) 16)<|
 some ([.d a0])
def f167:LD0->Bool × List Un:=fun a0=>(decide (a0.length<1000000),[.d (a0)])
theorem Pf:ER 167 (mkE acD.en acD.ex f167):=ak ae Y9.right (fun m=>[]) (t:=t167) (by kernel_rfl) (fun m=>az) (fun m a=>by kernel_rfl) fun a0 hc=>by
 dsimp only[f167]at hc⊢;have h:=zaj hc;refine⟨0, ?_⟩;unfold t167;cases a0 with
 |nil=>simp(disch:=omega) only[TRa,TRi,aa,zar,iw,zbc,gI]
 |cons x l=>
  simp only[zac]at h⊢;simp(disch:=omega) only[TRa,TRi,aa]
def Z0:TB:=Y9.ad Pf
def acq:aA:=⟨Z0.tab,168,⟨[.ab (sI 3)],[],0⟩,⟨[.buf 0 3],[.ab (sI 3)],0⟩,[]⟩
def t168 (m:Nat):LD0->OU0:=fun a0=>
 bif decide (a0.length=0)then
 both (
 some ([.d ([])])) (
 chk (fits (0+a0.length) 24)<|
 some ([.d a0]))
 else
 chk (fits (0+a0.length) 24)<|
 some ([.d a0])
def f168:LD0->Bool × List Un:=fun a0=>(decide (a0.length<1000000),[.d (a0)])
theorem Rh:ER 168 (mkE acq.en acq.ex f168):=ak ae Z0.right (fun m=>[]) (t:=t168) (by kernel_rfl) (fun m=>az) (fun m a=>by kernel_rfl) fun a0 hc=>by
 dsimp only[f168]at hc⊢;have h:=zaj hc;refine⟨0, ?_⟩;unfold t168;cases a0 with
 |nil=>simp(disch:=omega) only[TRa,TRi,aa,zar,iw,zbc,gI]
 |cons x l=>
  simp only[zac]at h⊢;simp(disch:=omega) only[TRa,TRi,aa]
def Yt:TB:=Z0.ad Rh
def abD:aA:=⟨Yt.tab,169,⟨[.ab (sI 2)],[],0⟩,⟨[.buf 0 2],[.ab (sI 2)],0⟩,[]⟩
def t169 (m:Nat):LD0->OU0:=fun a0=>
 bif decide (a0.length=0)then
 both (
 some ([.d ([])])) (
 chk (fits (0+a0.length) 16)<|
 some ([.d a0]))
 else
 chk (fits (0+a0.length) 16)<|
 some ([.d a0])
def f169:LD0->Bool × List Un:=fun a0=>(decide (a0.length<1000000),[.d (a0)])
theorem Pg:ER 169 (mkE abD.en abD.ex f169):=ak ae Yt.right (fun m=>[]) (t:=t169) (by kernel_rfl) (fun m=>az) (fun m a=>by kernel_rfl) fun a0 hc=>by
 dsimp only[f169]at hc⊢;have h:=zaj hc;refine⟨0, ?_⟩;unfold t169;cases a0 with
 |nil=>simp(disch:=omega) only[TRa,TRi,aa,zar,iw,zbc,gI]
 |cons x l=>
  simp only[zac]at h⊢;simp(disch:=omega) only[TRa,TRi,aa]
def Ze:TB:=Yt.ad Pg
def abu:aA:=⟨Ze.tab,184,⟨[.ab (sI 3)],[],0⟩,⟨[.buf 0 3],[.ab (sI 3)],0⟩,[]⟩
def t184 (m:Nat):LD0->OU0:=fun a0=>
 bif decide (a0.length=0)then
 both (
 some ([.d ([])])) (
 chk (fits (0+a0.length) 24)<|
 some ([.d a0]))
 else
 chk (fits (0+a0.length) 24)<|
 some ([.d a0])
def f184:LD0->Bool × List Un:=fun a0=>(decide (a0.length<1000000),[.d (a0)])
theorem RP:ER 184 (mkE abu.en abu.ex f184):=ak ae Ze.right (fun m=>[]) (t:=t184) (by kernel_rfl) (fun m=>az) (fun m a=>by kernel_rfl) fun a0 hc=>by
 dsimp only[f184]at hc⊢;have h:=zaj hc;refine⟨0, ?_⟩;unfold t184;cases a0 with
 |nil=>simp(disch:=omega) only[TRa,TRi,aa,zar,iw,zbc,gI]
 |cons x l=>
  simp only[zac]at h⊢;simp(disch:=omega) only[TRa,TRi,aa]
def Z1:TB:=Ze.ad RP
def aaO:aA:=⟨Z1.tab,125,⟨[.agg [.z0,.z0,.z0,.ab (sI 2),.ab (sI 3),.z0,.z0,.z0,.z0,.z0,.z0,.z0,.z0,.z0,.z0,.ab (sI 2),.ab (sI 2),.ab (sI 2)]],[],0⟩,⟨[.agg [.z0,.z0,.z0,.buf 0 2,.buf 1 3,.z0,.z0,.z0,.z0,.z0,.z0,.z0,.z0,.z0,.z0,.buf 2 2,.buf 3 2,.buf 4 2]],[.ab (sI 2),.ab (sI 3),.ab (sI 2),.ab (sI 2),.ab (sI 2)],0⟩,[[0,1,0,1,1,1]]⟩
def t125 (m:Nat):aT->OU0:=fun a0=>
 chk (decide (a0.aC.length<1000000))<|
 chk (decide (a0.notes.length<1000000))<|
 chk (decide (a0.s0.length<1000000))<|
 chk (decide (a0.s1.length<1000000))<|
 chk (decide (a0.s2.length<1000000))<|
 some (Uns.enc (a0.a:av)++Uns.enc (a0.b:aw)++[.d a0.aC,.d a0.notes,.d a0.s0,.d a0.s1,.d a0.s2])
def f125:aT->Bool × List Un:=fun a0=>(decide (a0.aC.length<1000000/\a0.notes.length<1000000/\a0.s0.length<1000000/\a0.s1.length<1000000/\a0.s2.length<1000000),Uns.enc ((a0.a):av)++Uns.enc ((a0.b):aw)++[.d (a0.aC),.d (a0.notes),.d (a0.s0),.d (a0.s1),.d (a0.s2)])
theorem Rz:ER 125 (mkE aaO.en aaO.ex f125):=ak ae Z1.right (fun m=>[]) (t:=t125) (by kernel_rfl) (fun m=>az) (fun m a=>by kernel_rfl) fun a0 hc=>by
 dsimp only[f125]at hc⊢;obtain⟨h1,h2,h3,h4,h5⟩:=zaj hc;refine⟨0, ?_⟩;unfold t125;simp(disch:=omega) only[TRa,TRi,aa]
def YD:TB:=Z1.ad Rz
theorem LN:∀(l:LI0) (i:Nat) (last all:Int),last<2*(i:Int)+1->i+l.length<=40->0<=all->all+100000*l.length+50000<=1099511627776->
 iX last all (gh i l++[.r [.n 99,.n 50000]])=some (all+au 1 (gh i l++[.r [.n 99,.n 50000]]))
 |[],i,last,all,h1,h2,h3,h4=>by
  have e0:(Dat.r [.n 99,.n 50000]).i 0=99:=rfl;have e1:(Dat.r [.n 99,.n 50000]).i 1=50000:=rfl;simp only[gh,zat,iX,au,e0,e1];simp only[zar]at h2 h4;rw[if_neg (by omega),if_pos (by omega)];rfl
 |x::l,i,last,all,h1,h2,h3,h4=>by
  have hx:=aV (a:=x) (show(0:Int)<=100000 by decide);have e0:(Gh i x).i 0=2*(i:Int)+1:=rfl;have e1:(Gh i x).i 1=within x 0 100000:=rfl;simp only[zac]at h2 h4;have:=LN l (i+1) (2*(i:Int)+1) (all+within x 0 100000) (by omega) (by omega) (by omega) (by omega);simp only[gh,zaC,iX,au,e0,e1];rw[if_neg (by omega),if_pos (by omega),this,zcl]
theorem V9 (k:ck):gy (eQ k)=some (jH k):=by
 have hl:=sj k;have h1:1<=(eQ k).length:=by simp[eQ]
 have:=LN (k.aC.take 10) 0 0 0 (by decide) (by simp;omega) (by decide) (by simp;omega);unfold gy;rw[if_pos ⟨h1,by omega⟩];simpa[eQ,mn,jH]using this
theorem Bv (p q:Int) (hp:0<=q):∀(l:LD0) (all:Int),(∀d∈l,(0<=d.i 0/\d.i 0<=7)/\(1<=d.i 1/\d.i 1<=q)/\(0<=d.i 2/\d.i 2<=5000))->all+l.length*q<=p->mg p all l=some (all+au 1 l)
 |[],all,_,_=>by simp[mg,au]
 |d::l,all,h,hb=>by
  have hd:=h d (by simp);simp only[zac,zaL,zb2]at hb;have hl:0<=(l.length:Int)*q:=za9 (by omega) hp;have e:((1:Nat):Int)*q=q:=by simp
  have:=Bv p q hp l (all+d.i 1) (fun x hx=>h x (by simp[hx])) (by omega);simp only[mg,au];rw[if_pos ⟨hd.1,⟨hd.2.1.1,by omega⟩,hd.2.2⟩,this,zcl]
theorem I2 (k:ck):∀d∈il k,(0<=d.i 0/\d.i 0<=3)/\(1<=d.i 1/\d.i 1<=1+jH k/6)/\(0<=d.i 2/\d.i 2<=1200):=by
 have hp:=Al k;simp only[il,za7,zbC]
 rintro d ⟨i,hi,rfl⟩
 have h1:=aV (a:=bB k.rB i) (show(0:Int)<=3 by decide);have h2:=aV (a:=bB k.notes i) (show(0:Int)<=jH k/6 by omega);have h3:=aV (a:=bB k.C9 i) (show(0:Int)<=1200 by decide);simp only[Lk,Ql,fL,j8];omega
theorem Kf (k:ck):1<=(il k).length/\(il k).length<=5:=by simp[il];omega
theorem UJ (k:ck):lZ (jH k) (il k)=some (au 1 (il k)):=by
 have hp:=Al k;have hl:=Kf k;unfold lZ;rw[if_pos ⟨hl.1,by omega⟩];refine(Bv (jH k) (1+jH k/6) (by omega) (il k) 0 (fun d hd=> ?_) ?_).trans (by rw[za4])
 . have:=I2 k d hd;omega
 . have:((il k).length:Int)*(1+jH k/6)<=5*(1+jH k/6):=za6 (by omega) (by omega);omega
theorem X2 (k:ck):qc (bF k)=true:=by
 have h1:=aV (a:=k.a.year) (show(1990:Int)<=2040 by decide);have h2:=aV (a:=k.a.month) (show(1:Int)<=12 by decide);have h3:=aV (a:=k.a.basis) (show(0:Int)<=2 by decide);have h4:=aV (a:=k.b.fee) (show(0:Int)<=200 by decide);have h5:=aV (a:=k.b.bq) (show(0:Int)<=5000 by decide);have h6:=aV (a:=k.b.target) (show(0:Int)<=500 by decide);have h7:=aV (a:=k.b.advance) (show(0:Int)<=3000 by decide);have h8:=aV (a:=k.b.eX) (show(0:Int)<=3 by decide);have h9:=aV (a:=k.b.oc) (show(0:Int)<=12000 by decide);have h10:=aV (a:=k.b.ic) (show(0:Int)<=15000 by decide);have h11:=aV (a:=k.b.late) (show(0:Int)<=5000 by decide);have h12:=aV (a:=k.b.lv) (show(0:Int)<=5000 by decide);have h13:=aV (a:=k.b.clean) (show(0:Int)<=3000 by decide);simp only[qc,zae,zag];simp only[bF];omega
theorem wH (d:Dat):∀(l pre:LD0),j6 pre (l++[d])=(j6 pre l&&(sg d&& !cY (pre++l) (d.i 0) (d.i 1)))
 |[],pre=>by simp[j6]
 |x::l,pre=>by
  simp only[zaC,j6,wH d l (pre++[x]),zaq,zat,Bool.and_assoc]
theorem C3:∀(xs:LI0) (acc:LD0),j6 [] acc=true->j6 [] (gD acc xs)=true
 |[],acc,h=>h
 |x::xs,acc,h=>by
  simp only[gD];refine C3 xs _ ?_
  cases hs:cY acc (within x 1 7) (jJ x)
  . have e0:(Dat.r [.n (within x 1 7),.n (jJ x)]).i 0=within x 1 7:=rfl;have e1:(Dat.r [.n (within x 1 7),.n (jJ x)]).i 1=jJ x:=rfl;have hx:=aV (a:=x) (show(1:Int)<=7 by decide);simp only[zb9,zbp];rw[wH,h,zat,e0,e1,hs,zbb,Bool.not_false,zbf];simp only[sg,e0,e1,zae,zag];refine⟨hx, ?_⟩;unfold jJ
    by_cases h3:within x 1 7=3
    . have:=aV (a:=w64 (x.tdiv 7)) (show(0:Int)<=3 by decide);rw[if_pos h3,if_pos h3];omega
    . rw[if_neg h3,if_neg h3];omega
  . simp only[zbh];exact h
theorem Kg (l:LI0):1<=(ja l).length/\(ja l).length<=12:=by
 unfold ja
 split
 . decide
 . have:=AU (l.take 12) [];simp at this;omega
theorem uH (l:LI0):eF (ja l)=true:=by
 have hl:=Kg l;unfold eF;rw[zaa (by omega),zbb];unfold ja
 split
 . decide
 . exact C3 _ _ rfl
theorem F3 (k:ck):cI (bF k)=some (jH k,au 1 (il k)):=by
 have h1:gy (bF k).aC=some (jH k):=V9 k;have h2:lZ (jH k) (bF k).notes=some (au 1 (il k)):=UJ k;simp only[cI,h1,h2,X2,show eF (bF k).s0=true from uH _,show eF (bF k).s1=true from uH _,show eF (bF k).s2=true from uH _,zck,zbh]
def aau:aA:=⟨YD.tab,127,⟨[.z0],[],0⟩,⟨[.agg [.z0,.z0]],[],0⟩,[]⟩
def t127 (m:Nat):Int->OU0:=fun a0=>
 bif (decide ((([0,a0]).getD 0 0)<0))then
 some ([.i 0,.i 0])
 else
 bif (decide ((([0,a0]).getD 0 0)>1152921504606846976))then
 some ([.i 0,.i 0])
 else
 lt ((w64 (0+(([0,a0]).getD 0 0))):Int) fun x3=>
 bif (decide ((([0,a0]).getD 1 0)<0))then
 some ([.i 0,.i 0])
 else
 bif (decide ((([0,a0]).getD 1 0)>(w64 (1152921504606846976-x3))))then
 some ([.i 0,.i 0])
 else
 some ([.i (w64 (x3+(([0,a0]).getD 1 0))),.i 0])
def f127:Int->Bool × List Un:=fun a0=>(decide (0<=a0/\a0<=1152921504606846976),[.i (a0),.i (0)])
theorem Rt:ER 127 (mkE aau.en aau.ex f127):=ak ae YD.right (fun m=>[]) (t:=t127) (by kernel_rfl) (fun m=>az) (fun m a=>by kernel_rfl) fun a0 hc=>by
 dsimp only[f127]at hc⊢;have h:=zaj hc;refine⟨0, ?_⟩;unfold t127;simp only[zaO,zaE];simp(disch:=omega) only[TRa,TRi,aa,za4,zbv]
def XZ:TB:=YD.ad Rt
def acs:aA:=⟨XZ.tab,128,⟨[.agg [.z0,.z0,.z0]],[],0⟩,⟨[.agg [.z0,.z0,.z0,.z0,.z0,.z0,.z0]],[],0⟩,[]⟩
def t128 (m:Nat):Int × Int × Int->OU0:=fun(a0,a1,a2)=>
 some ([.i a0,.i a1,.i a2,.i 0,.i 0,.i 0,.i 0])
def f128:Int × Int × Int->Bool × List Un:=fun(a0,a1,a2)=>(true,[.i (a0),.i (a1),.i (a2),.i (0),.i (0),.i (0),.i (0)])
theorem OF:ER 128 (mkE acs.en acs.ex f128):=ak ae XZ.right (fun m=>[]) (t:=t128) (by kernel_rfl) (fun m=>az) (fun m a=>by kernel_rfl) fun(a0,a1,a2) hc=>by
 dsimp only[f128]at⊢;exact⟨0,rfl⟩
def U3:TB:=XZ.ad OF
def kD (d:Dat):Dat:= .r [.n (d.i 0),.n (d.i 1),.n 0,.n 0,.n (bI false)]
def ZQ:aA:=⟨U3.tab,126,⟨[.ab (sI 2)],[],0⟩,⟨[.ptr 0 0 0],[.cells [.buf 1 5],.ab (sB 4)],0⟩,[]⟩
abbrev D2:Type:=LD0 × Int × Int × LD0
def xR (m:Nat) (k:D2->OU0):D2->OU0:=fun(a0,a1,a2,a3)=>
 bif decide (a2<a1)then
 chk (inb a2 a0.length)<|
 chk (decide (a2.toNat<a0.length))<|
 lt (ai a0 a2.toNat:Dat) fun d1=>
 chk (fits (a3.length+1) 40)<|
 k (a0,a1,(w64 (a2+1)),(a3++([.r [.n (d1.i 0),.n (d1.i 1),.n 0,.n 0,.n (bI false)]])))
 else
 some ([.d a3])
def ux (m:Nat):Nat->D2->OU0:=aZ (xR m)
theorem wB (m:Nat) (n:Nat):ux m (n+1)=xR m (ux m n):=rfl
def IH (F:D2->OU0):aQ:=⟨[.lp [0,1,0,1,1],.blk 0,.code [1,1,1]],⟨frm 27 [(3,.ptr 0 0 0),(8,.ab (sI 2)),(9,.z0),(10,.z0)],[.cells [.buf 1 5],.ab (sB 4)],0⟩,onU F⟩
theorem YB (m:Nat):∀n,HO ZQ (IH (ux m n)):=an ae U3.right (fun k=>[IH k]) (fun k h=>(aI h az)) fun k a=>by kernel_rfl
def t126 (m:Nat):LD0->OU0:=fun a0=>
 ux m m (a0,(a0.length:Int),0,[])
theorem Sr (m:Nat):∀(rest pre:LD0) (n:Nat),rest.length<n->(pre++rest).length<1000000->
 ux m n (pre++rest,((pre++rest).length:Int),(pre.length:Int),pre.map kD)=some [.d ((pre++rest).map kD)]:=by
 intro rest
 induction rest with
 |nil=>
  intro pre n hn hl;obtain⟨n,rfl⟩:=ah n (by simp at hn;omega);rw[wB];unfold xR;dsimp only;simp[ay]
 |cons x rest ih=>
  intro pre n hn hl;obtain⟨n,rfl⟩:=ah n (by simp at hn;omega);simp only[zac,zab]at hn hl;rw[wB];unfold xR;dsimp only;have:=ih (pre++[x]) n (by omega) (by simp;omega);rw[zb6]at this;simp(disch:=omega) only[TRa,TRi,aa,LNl,LNi,zad,ax];simp only[LNl,LNi,zad]at this⊢;exact this
def f126:LD0->Bool × List Un:=fun a0=>(decide (a0.length<1000000),[.d (a0.map kD)])
theorem PN:ER 126 (mkE ZQ.en ZQ.ex f126):=ak ae U3.right (fun m=>[IH (ux m m)]) (t:=t126) (by kernel_rfl) (fun m=>(aI (YB m m) az)) (fun m a=>by kernel_rfl) fun a0 hc=>by
 dsimp only[f126]at hc⊢;exact⟨a0.length+1,Sr _ a0 [] _ (by omega) (zaj hc)⟩
def TY:TB:=U3.ad PN
@[ext] structure aq where
 rin:Int
 bM:Int
 out:Int
 fee:Int
 mode:Int
 bf:Int
 period:Int
 aP:Int
 bc:Int
 gU:Bool
instance : Uns aq := Uns.via (B := Int × Int × Int × Int × Int × Int × Int × Int × Int × Bool) (fun x => (x.rin, x.bM, x.out, x.fee, x.mode, x.bf, x.period, x.aP, x.bc, x.gU)) (fun x => match x with | (rin, bM, out, fee, mode, bf, period, aP, bc, gU) => ⟨rin, bM, out, fee, mode, bf, period, aP, bc, gU⟩) (fun _ => rfl)
def aU (p:Nat):List BP:=[.cells [.z0,.z0,.z0,.buf (p+1) 2,.buf (p+2) 3,.z0,.z0,.z0,.z0,.z0,.z0,.z0,.z0,.z0,.z0,.buf (p+3) 2,.buf (p+4) 2,.buf (p+5) 2,.ptr (p+6) 0 0,.buf (p+8) 7,.z0,.z0,.z0,.z0,.z0,.z0,.z0,.z0,.z0,.bool],.ab (sI 2),.ab (sI 3),.ab (sI 2),.ab (sI 2),.ab (sI 2),.cells [.buf (p+7) 5],.ab (sB 4),.ab (sI 7)]
structure af where
 a:av
 b:aw
 n:aq
 aC:List Dat
 notes:List Dat
 s0:List Dat
 s1:List Dat
 s2:List Dat
 aN:List Dat
 tr:List Dat
def wC (d:Dat):Dat:= .r [.n (d.i 0),.n (d.i 1),.n (d.i 2),.n 0,.n 0,.n 0,.n 0]
def dG (d:aT):af:=⟨d.a,d.b,⟨d.b.bq,0,0,0,0,0,0,0,0,false⟩,d.aC,d.notes,d.s0,d.s1,d.s2,d.aC.map kD,d.notes.map wC⟩
def sM (d:aT):af:=if (cI d).isSome then dG d else⟨⟨0,0,0⟩,⟨0,0,0,0,0,0,0,0,0,0⟩,⟨0,0,0,0,0,0,0,0,0,false⟩,[],[],[],[],[],[],[]⟩
theorem BN {d:aT} (h:(cI d).isSome=true):0<=d.b.bq/\d.b.bq<=1099511627776:=by
 unfold cI at h
 split at h
 . cases h
 . split at h
   . cases h
   . split at h
     . rename_i hc;simp only[zae,qc,zag]at hc;omega
     . cases h
def N92:aA:=⟨TY.tab,92,⟨[.agg [.z0,.z0,.z0,.ab (sI 2),.ab (sI 3),.z0,.z0,.z0,.z0,.z0,.z0,.z0,.z0,.z0,.z0,.ab (sI 2),.ab (sI 2),.ab (sI 2)]],[],0⟩,⟨[.np 0 0 0,.z0],aU 0,0⟩,[]⟩
abbrev Mq:Type:=LD0 × Int × Int × av × aw × aq × LD0 × LD0 × LD0 × LD0 × LD0 × LD0 × LD0
def E3 (m:Nat) (k:Mq->OU0):Mq->OU0:=fun(a0,a1,a2,a3,a4,a5,a6,a7,a8,a9,a10,a11,a12)=>
 bif decide (a2<a1)then
 chk (inb a2 a0.length)<|
 chk (decide (a2.toNat<a0.length))<|
 lt (ai a0 a2.toNat:Dat) fun d1=>
 chk (fits (a11.length+1) 56)<|
 k (a0,a1,(w64 (a2+1)),a3,a4,a5,a6,a7,a8,a9,a10,(a11++([.r [.n (d1.i 0),.n (d1.i 1),.n (d1.i 2),.n 0,.n 0,.n 0,.n 0]])),a12)
 else
 some ([.i 0,.i 0]++Uns.enc (a3:av)++Uns.enc (a4:aw)++Uns.enc (a5:aq)++[.d a6,.d a7,.d a8,.d a9,.d a10,.d a12,.d a11])
def B5 (m:Nat):Nat->Mq->OU0:=aZ (E3 m)
theorem z9 (m:Nat) (n:Nat):B5 m (n+1)=E3 m (B5 m n):=rfl
def SB (F:Mq->OU0):aQ:=⟨[.lp [0,1,0,1,1,1],.blk 0,.code [1,1,1,1]],⟨frm 40 [(4,.ptr 0 0 0),(21,.ab (sI 3)),(22,.z0),(23,.z0)],[.cells [.z0,.z0,.z0,.buf 1 2,.buf 2 3,.z0,.z0,.z0,.z0,.z0,.z0,.z0,.z0,.z0,.z0,.buf 3 2,.buf 4 2,.buf 5 2,.ptr 6 0 0,.buf 7 7,.z0,.z0,.z0,.z0,.z0,.z0,.z0,.z0,.z0,.bool],.ab (sI 2),.ab (sI 3),.ab (sI 2),.ab (sI 2),.ab (sI 2),.cells [.buf 8 5],.ab (sI 7),.ab (sB 4)],0⟩,onU F⟩
theorem aa9 (m:Nat):∀n,HO N92 (SB (B5 m n)):=an ae TY.right (fun k=>[SB k]) (fun k h=>(aI h az)) fun k a=>by kernel_rfl
def t92 (m:Nat):aT->OU0:=fun a0=>
 bif !((cI a0).isSome)then
 some ([.i (-1),.i 2]++Uns.enc ((⟨0,0,0⟩:av):av)++Uns.enc ((⟨0,0,0,0,0,0,0,0,0,0⟩:aw):aw)++Uns.enc ((⟨0,0,0,0,0,0,0,0,0,false⟩:aq):aq)++[.d ([]),.d ([]),.d ([]),.d ([]),.d ([]),.d ([]),.d ([])])
 else
 chk (decide (a0.aC.length<1000000/\a0.notes.length<1000000/\a0.s0.length<1000000/\a0.s1.length<1000000/\a0.s2.length<1000000))<|
 chk (decide (a0.aC.length<1000000))<|
 chk (decide (0<=a0.b.bq/\a0.b.bq<=1152921504606846976))<|
 B5 m m (a0.notes,(a0.notes.length:Int),0,a0.a,a0.b,(⟨a0.b.bq,0,0,0,0,0,0,0,0,false⟩:aq),a0.aC,a0.notes,a0.s0,a0.s1,a0.s2,[],(a0.aC.map kD))
theorem Nh (m:Nat) (a:av) (b:aw) (n0:aq) (x1 x2 x3 x4 x5 x6:LD0):∀(rest pre:LD0) (n:Nat),rest.length<n->(pre++rest).length<1000000->
 B5 m n (pre++rest,((pre++rest).length:Int),(pre.length:Int),a,b,n0,x1,x2,x3,x4,x5,pre.map wC,x6)=some ([.i 0,.i 0]++Uns.enc (a:av)++Uns.enc (b:aw)++Uns.enc (n0:aq)++[.d x1,.d x2,.d x3,.d x4,.d x5,.d x6,.d ((pre++rest).map wC)]):=by
 intro rest
 induction rest with
 |nil=>
  intro pre n hn hl;obtain⟨n,rfl⟩:=ah n (by simp at hn;omega);rw[z9];unfold E3;dsimp only;simp[ay]
 |cons x rest ih=>
  intro pre n hn hl;obtain⟨n,rfl⟩:=ah n (by simp at hn;omega);simp only[zac,zab]at hn hl;rw[z9];unfold E3;dsimp only;have:=ih (pre++[x]) n (by omega) (by simp;omega);rw[zb6]at this;simp(disch:=omega) only[TRa,TRi,aa,LNl,LNi,zad,ax];simp only[LNl,LNi,zad]at this⊢;exact this
def f92:aT->Bool × List Un:=fun a0=>(decide (a0.aC.length<1000000/\a0.notes.length<1000000/\a0.s0.length<1000000/\a0.s1.length<1000000/\a0.s2.length<1000000),[.i (((if (cI a0).isSome then 0 else-1):Int)),.i (((if (cI a0).isSome then 0 else 2):Int))]++Uns.enc (((sM a0).a):av)++Uns.enc (((sM a0).b):aw)++Uns.enc (((sM a0).n):aq)++[.d ((sM a0).aC),.d ((sM a0).notes),.d ((sM a0).s0),.d ((sM a0).s1),.d ((sM a0).s2),.d ((sM a0).aN),.d ((sM a0).tr)])
theorem Ui:ER 92 (mkE N92.en N92.ex f92):=ak ae TY.right (fun m=>[SB (B5 m m)]) (t:=t92) (by kernel_rfl) (fun m=>(aI (aa9 m m) az)) (fun m a=>by kernel_rfl) fun a0 hc=>by
 dsimp only[f92]at hc⊢;have h:=zaj hc;refine⟨a0.notes.length+1, ?_⟩;unfold t92 sM;cases hs:(cI a0).isSome
 . rfl
 . have hr:=BN hs;simp only[zbr,zal,zbh];rw[aJ h,aJ (by omega),aJ (by omega)];exact Nh _ _ _ _ _ _ _ _ _ _ a0.notes [] _ (by omega) (by simp;omega)
def T92:TB:=TY.ad Ui
def abk:aA:=⟨T92.tab,110,⟨[.agg [.z0,.z0]],[],0⟩,⟨[.z0],[],0⟩,[]⟩
def t110 (m:Nat):Int × Int->OU0:=fun(a0,a1)=>
 some ([.i (w64 (a0-a1))])
def f110:Int × Int->Bool × List Un:=fun(a0,a1)=>(true,[.i (w64 (a0-a1))])
theorem Rb:ER 110 (mkE abk.en abk.ex f110):=ak ae T92.right (fun m=>[]) (t:=t110) (by kernel_rfl) (fun m=>az) (fun m a=>by kernel_rfl) fun(a0,a1) hc=>by
 dsimp only[f110]at⊢;exact⟨0,rfl⟩
def YS:TB:=T92.ad Rb
def aaL:aA:=⟨YS.tab,180,⟨[.agg [.z0,.z0,.z0,.z0,.z0,.z0,.z0]],[],0⟩,⟨[.z0],[],0⟩,[]⟩
def t180 (m:Nat):Int × Int × Int × Int × Int × Int × Int->OU0:=fun(a0,a1,a2,a3,a4,a5,a6)=>
 some ([.i (w64 ((w64 (a1-(w64 (a3-a4))))-a6))])
def f180:Int × Int × Int × Int × Int × Int × Int->Bool × List Un:=fun(a0,a1,a2,a3,a4,a5,a6)=>(true,[.i (w64 (w64 (a1-w64 (a3-a4))-a6))])
theorem Qo:ER 180 (mkE aaL.en aaL.ex f180):=ak ae YS.right (fun m=>[]) (t:=t180) (by kernel_rfl) (fun m=>az) (fun m a=>by kernel_rfl) fun(a0,a1,a2,a3,a4,a5,a6) hc=>by
 dsimp only[f180]at⊢;exact⟨0,rfl⟩
def Y4:TB:=YS.ad Qo
def bA (d:Dat):Int:=d.i 1-(d.i 3-d.i 4)-d.i 6
def bn (d:Dat):Bool:=decide (0<=d.i 1/\d.i 1<=1099511627776/\0<=d.i 3/\d.i 4=0/\0<=d.i 6/\d.i 3+d.i 6<=d.i 1/\0<=d.i 5/\d.i 5<=1125899906842624)
def rG (c:Int) (d:Dat):Int:=max (min c (bA d)) 0
def yZ (c:Int) (d:Dat):Dat:= .r [.n (d.i 0),.n (d.i 1),.n (d.i 2),.n (d.i 3+rG c d),.n (d.i 4),.n (d.i 5),.n (d.i 6)]
def fR (c:Int) (d:Dat):Dat:= .r [.n (d.i 0),.n (d.i 1),.n (d.i 2),.n (d.i 3),.n (d.i 4),.n (d.i 5),.n (d.i 6+rG c d)]
def rz (c:Int) (d:Dat):Int:=max (min c (d.i 6)) 0
def jg (c:Int) (d:Dat):Dat:= .r [.n (d.i 0),.n (d.i 1),.n (d.i 2),.n (d.i 3),.n (d.i 4),.n (d.i 5),.n (d.i 6-rz c d)]
def HJ (c:Int) (d:Dat):Dat:= .r [.n (d.i 0),.n (d.i 1),.n (d.i 2),.n (d.i 3),.n (d.i 4),.n (d.i 5+c),.n (d.i 6)]
def acx:aA:=⟨Y4.tab,188,⟨[.np 0 7 0,.z0],[.ab (sI 7)],0⟩,⟨[.z0],[.ab (sI 7)],0⟩,[]⟩
def t188 (m:Nat):Int × Int × LD0->OU0:=fun(a0,a1,a2)=>
 chk (decide (0<=a0))<|
 chk (decide (a0.toNat<a2.length))<|
 lt (ai a2 a0.toNat:Dat) fun d1=>
 lt ((w64 (w64 ((d1.i 1)-w64 ((d1.i 3)-(d1.i 4)))-(d1.i 6))):Int) fun x2=>
 lt ((if x2<a1 then x2 else a1):Int) fun x3=>
 lt ((if x3<0 then 0 else x3):Int) fun x4=>
 chk (decide (0<=a0))<|
 chk (decide (a0.toNat<a2.length))<|
 lt (ai a2 a0.toNat:Dat) fun d5=>
 lt ((([(d5.i 3),x4]).getD 0 0):Int) fun x6=>
 bif decide (x6<0)then
 some ([.i 0,.d a2])
 else
 bif (decide (x6>1152921504606846976))then
 some ([.i 0,.d a2])
 else
 lt ((([(d5.i 3),x4]).getD 1 0):Int) fun x8=>
 bif decide (x8<0)then
 some ([.i 0,.d a2])
 else
 bif decide (x8>(w64 (1152921504606846976-(w64 (0+x6)))))then
 some ([.i 0,.d a2])
 else
 chk (decide (a0.toNat<a2.length))<|
 lt (ai a2 a0.toNat:Dat) fun d11=>
 some ([.i x4,.d (List.set a2 a0.toNat (.r [.n (d11.i 0),.n (d11.i 1),.n (d11.i 2),.n (w64 ((w64 (0+x6))+x8)),.n (d11.i 4),.n (d11.i 5),.n (d11.i 6)]))])
def f188:Int × Int × LD0->Bool × List Un:=fun(a0,a1,a2)=>(decide (0<=a0/\a0.toNat<a2.length)&&bn (ai a2 a0.toNat),[.i (rG a1 (ai a2 a0.toNat)),.d (a2.set a0.toNat (yZ a1 (ai a2 a0.toNat)))])
theorem Po:ER 188 (mkE acx.en acx.ex f188):=ak ae Y4.right (fun m=>[]) (t:=t188) (by kernel_rfl) (fun m=>az) (fun m a=>by kernel_rfl) fun(a0,a1,a2) hc=>by
 dsimp only[f188]at hc⊢;simp only[zae,zag,bn]at hc;obtain⟨⟨h1,h2⟩,h⟩:=hc;refine⟨0, ?_⟩;unfold t188;dsimp only;simp only[lt_eq];generalize ai a2 a0.toNat=d at*
 have hv:∀c,rG c d=max (min c (bA d)) 0:=fun _=>rfl
 simp only[yZ,fR,jg,HJ,rz,hv,bA];simp only[zaO,zaE,lt_eq,mS,oY];simp(disch:=omega) only[TRa,TRi,aa,za4]
def YU:TB:=Y4.ad Po
def abF:aA:=⟨YU.tab,216,⟨[.np 0 7 0,.z0],[.ab (sI 7)],0⟩,⟨[.z0],[.ab (sI 7)],0⟩,[]⟩
def t216 (m:Nat):Int × Int × LD0->OU0:=fun(a0,a1,a2)=>
 chk (decide (0<=a0))<|
 chk (decide (a0.toNat<a2.length))<|
 lt (ai a2 a0.toNat:Dat) fun d1=>
 lt ((w64 (w64 ((d1.i 1)-w64 ((d1.i 3)-(d1.i 4)))-(d1.i 6))):Int) fun x2=>
 lt ((if x2<a1 then x2 else a1):Int) fun x3=>
 lt ((if x3<0 then 0 else x3):Int) fun x4=>
 chk (decide (0<=a0))<|
 chk (decide (a0.toNat<a2.length))<|
 chk (decide (0<=a0))<|
 chk (decide (a0.toNat<a2.length))<|
 lt (ai a2 a0.toNat:Dat) fun d6=>
 some ([.i x4,.d (List.set a2 a0.toNat (.r [.n (d6.i 0),.n (d6.i 1),.n (d6.i 2),.n (d6.i 3),.n (d6.i 4),.n (d6.i 5),.n (w64 (((ai a2 a0.toNat).i 6)+x4))]))])
def f216:Int × Int × LD0->Bool × List Un:=fun(a0,a1,a2)=>(decide (0<=a0/\a0.toNat<a2.length)&&bn (ai a2 a0.toNat),[.i (rG a1 (ai a2 a0.toNat)),.d (a2.set a0.toNat (fR a1 (ai a2 a0.toNat)))])
theorem Qr:ER 216 (mkE abF.en abF.ex f216):=ak ae YU.right (fun m=>[]) (t:=t216) (by kernel_rfl) (fun m=>az) (fun m a=>by kernel_rfl) fun(a0,a1,a2) hc=>by
 dsimp only[f216]at hc⊢;simp only[zae,zag,bn]at hc;obtain⟨⟨h1,h2⟩,h⟩:=hc;refine⟨0, ?_⟩;unfold t216;dsimp only;simp only[lt_eq];generalize ai a2 a0.toNat=d at*
 have hv:∀c,rG c d=max (min c (bA d)) 0:=fun _=>rfl
 simp only[yZ,fR,jg,HJ,rz,hv,bA];simp only[zaO,zaE,lt_eq,mS,oY];simp(disch:=omega) only[TRa,TRi,aa,za4]
def Xd:TB:=YU.ad Qr
def acw:aA:=⟨Xd.tab,218,⟨[.np 0 7 0,.z0],[.ab (sI 7)],0⟩,⟨[.z0],[.ab (sI 7)],0⟩,[]⟩
def t218 (m:Nat):Int × Int × LD0->OU0:=fun(a0,a1,a2)=>
 chk (decide (0<=a0))<|
 chk (decide (a0.toNat<a2.length))<|
 lt (ai a2 a0.toNat:Dat) fun d1=>
 lt ((if (d1.i 6)<a1 then(d1.i 6)else a1):Int) fun x2=>
 lt ((if x2<0 then 0 else x2):Int) fun x3=>
 chk (decide (0<=a0))<|
 chk (decide (a0.toNat<a2.length))<|
 chk (decide (0<=a0))<|
 chk (decide (a0.toNat<a2.length))<|
 lt (ai a2 a0.toNat:Dat) fun d5=>
 some ([.i x3,.d (List.set a2 a0.toNat (.r [.n (d5.i 0),.n (d5.i 1),.n (d5.i 2),.n (d5.i 3),.n (d5.i 4),.n (d5.i 5),.n (w64 (((ai a2 a0.toNat).i 6)-x3))]))])
def f218:Int × Int × LD0->Bool × List Un:=fun(a0,a1,a2)=>(decide (0<=a0/\a0.toNat<a2.length)&&bn (ai a2 a0.toNat),[.i (rz a1 (ai a2 a0.toNat)),.d (a2.set a0.toNat (jg a1 (ai a2 a0.toNat)))])
theorem R9:ER 218 (mkE acw.en acw.ex f218):=ak ae Xd.right (fun m=>[]) (t:=t218) (by kernel_rfl) (fun m=>az) (fun m a=>by kernel_rfl) fun(a0,a1,a2) hc=>by
 dsimp only[f218]at hc⊢;simp only[zae,zag,bn]at hc;obtain⟨⟨h1,h2⟩,h⟩:=hc;refine⟨0, ?_⟩;unfold t218;dsimp only;simp only[lt_eq];generalize ai a2 a0.toNat=d at*
 have hv:∀c,rG c d=max (min c (bA d)) 0:=fun _=>rfl
 simp only[yZ,fR,jg,HJ,rz,hv,bA];simp only[zaO,zaE,lt_eq,mS,oY];simp(disch:=omega) only[TRa,TRi,aa,za4]
def YC:TB:=Xd.ad R9
def aa6:aA:=⟨YC.tab,181,⟨[.np 0 7 0,.z0],[.ab (sI 7)],0⟩,⟨[.bool],[.ab (sI 7)],0⟩,[]⟩
def t181 (m:Nat):Int × Int × LD0->OU0:=fun(a0,a1,a2)=>
 chk (decide (0<=a0))<|
 chk (decide (a0.toNat<a2.length))<|
 lt (ai a2 a0.toNat:Dat) fun d1=>
 lt ((([(d1.i 5),a1]).getD 0 0):Int) fun x2=>
 bif decide (x2<0)then
 some ([.b false,.d a2])
 else
 bif (decide (x2>1152921504606846976))then
 some ([.b false,.d a2])
 else
 lt ((([(d1.i 5),a1]).getD 1 0):Int) fun x4=>
 bif decide (x4<0)then
 some ([.b false,.d a2])
 else
 bif decide (x4>(w64 (1152921504606846976-(w64 (0+x2)))))then
 some ([.b false,.d a2])
 else
 chk (decide (0<=a0))<|
 chk (decide (a0.toNat<a2.length))<|
 lt (ai a2 a0.toNat:Dat) fun d7=>
 some ([.b true,.d (List.set a2 a0.toNat (.r [.n (d7.i 0),.n (d7.i 1),.n (d7.i 2),.n (d7.i 3),.n (d7.i 4),.n (w64 ((w64 (0+x2))+x4)),.n (d7.i 6)]))])
def f181:Int × Int × LD0->Bool × List Un:=fun(a0,a1,a2)=>(decide (0<=a1/\a1<=1125899906842624)&&(decide (0<=a0/\a0.toNat<a2.length)&&bn (ai a2 a0.toNat)),[.b (true),.d (a2.set a0.toNat (HJ a1 (ai a2 a0.toNat)))])
theorem QM:ER 181 (mkE aa6.en aa6.ex f181):=ak ae YC.right (fun m=>[]) (t:=t181) (by kernel_rfl) (fun m=>az) (fun m a=>by kernel_rfl) fun(a0,a1,a2) hc=>by
 dsimp only[f181]at hc⊢;simp only[zae,zag,bn]at hc;obtain⟨h0,⟨h1,h2⟩,h⟩:=hc;refine⟨0, ?_⟩;unfold t181;dsimp only;simp only[lt_eq];generalize ai a2 a0.toNat=d at*
 have hv:∀c,rG c d=max (min c (bA d)) 0:=fun _=>rfl
 simp only[yZ,fR,jg,HJ,rz,hv,bA];simp only[zaO,zaE,lt_eq,mS,oY];simp(disch:=omega) only[TRa,TRi,aa,za4]
def Ub:TB:=YC.ad QM
def bY (f:Dat->Int):LD0->Int
 |[]=>0
 |d::l=>f d+bY f l
theorem cS {d:Dat} (h:bn d=true):0<=d.i 1/\d.i 1<=1099511627776/\0<=d.i 3/\d.i 4=0/\0<=d.i 6/\d.i 3+d.i 6<=d.i 1/\0<=d.i 5/\d.i 5<=1125899906842624:=zaj h
def X3:aA:=⟨Ub.tab,182,⟨[.ab (sI 7)],[],0⟩,⟨[.z0,.z0,.z0],[],0⟩,[]⟩
abbrev DU:Type:=Int × Int × Int × LD0 × Int × Int
def xN (m:Nat) (k:DU->OU0):DU->OU0:=fun(a0,a1,a2,a3,a4,a5)=>
 bif decide (a5<a4)then
 chk (inb a5 a3.length)<|
 chk (decide (a5.toNat<a3.length))<|
 lt (ai a3 a5.toNat:Dat) fun d1=>
 k ((w64 (a0+(w64 (w64 ((d1.i 1)-w64 ((d1.i 3)-(d1.i 4)))-(d1.i 6))))),(w64 (a1+(d1.i 5))),(w64 (a2+(d1.i 6))),a3,a4,(w64 (a5+1)))
 else
 some ([.i a0,.i a1,.i a2])
def u9 (m:Nat):Nat->DU->OU0:=aZ (xN m)
theorem wZ (m:Nat) (n:Nat):u9 m (n+1)=xN m (u9 m n):=rfl
def IT (F:DU->OU0):aQ:=⟨[.lp [0,1,0,1],.blk 0,.code [1,1]],⟨frm 29 [(2,.z0),(3,.z0),(4,.z0),(7,.ab (sI 7)),(8,.z0),(9,.z0)],[],0⟩,onU F⟩
theorem Zl (m:Nat):∀n,HO X3 (IT (u9 m n)):=an ae Ub.right (fun k=>[IT k]) (fun k h=>(aI h az)) fun k a=>by kernel_rfl
def t182 (m:Nat):LD0->OU0:=fun a0=>
 u9 m m (0,0,0,a0,(a0.length:Int),0)
theorem Sj (m:Nat):∀(rest pre:LD0) (n:Nat) (b s t:Int),rest.length<n->(pre++rest).length<=1000->(∀d∈rest,bn d=true)->0<=b->b<=1099511627776*pre.length->0<=s->s<=1125899906842624*pre.length->0<=t->t<=1099511627776*pre.length->
 u9 m n (b,s,t,pre++rest,((pre++rest).length:Int),(pre.length:Int))=some [.i (b+bY bA rest),.i (s+au 5 rest),.i (t+au 6 rest)]:=by
 intro rest
 induction rest with
 |nil=>
  intro pre n b s t hn hl hg b0 b1 s0 s1 t0 t1;obtain⟨n,rfl⟩:=ah n (by simp at hn;omega);rw[wZ];unfold xN;dsimp only;simp[ay,bY,au]
 |cons x rest ih=>
  intro pre n b s t hn hl hg b0 b1 s0 s1 t0 t1;obtain⟨n,rfl⟩:=ah n (by simp at hn;omega);simp only[zac,zab]at hn hl;have hx:=cS (hg x (by simp));rw[wZ];unfold xN;dsimp only;have:=ih (pre++[x]) n (b+bA x) (s+x.i 5) (t+x.i 6) (by omega) (by simp;omega) (fun d hd=>hg d (by simp[hd])) (by unfold bA;omega) (by simp[bA];omega) (by omega) (by simp;omega) (by omega) (by simp;omega);simp only[bY,au,bA]at this⊢;simp(disch:=omega) only[TRa,TRi,aa,LNl,LNi,zad,ax];simp only[LNl,LNi,zad]at this⊢;exact this
def f182:LD0->Bool × List Un:=fun a0=>(decide (a0.length<=1000)&&a0.all bn,[.i (bY bA a0),.i (au 5 a0),.i (au 6 a0)])
theorem Sh:ER 182 (mkE X3.en X3.ex f182):=ak ae Ub.right (fun m=>[IT (u9 m m)]) (t:=t182) (by kernel_rfl) (fun m=>(aI (Zl m m) az)) (fun m a=>by kernel_rfl) fun a0 hc=>by
 dsimp only[f182]at hc⊢;simp only[zae,zag,zam]at hc;refine⟨a0.length+1, ?_⟩;exact(Sj (a0.length+1) a0 [] (a0.length+1) 0 0 0 (by omega) (by simpa using hc.1) hc.2 (by omega) (by simp) (by omega) (by simp) (by omega) (by simp)).trans (by simp only[za4])
def UQ:TB:=Ub.ad Sh
def unD (d:Dat):Int:=d.i 1-(d.i 3-d.i 4)
def Zf:aA:=⟨UQ.tab,141,⟨[.np 0 0 0],aU 0,9⟩,⟨[.z0,.z0,.z0,.z0],aU 0,9⟩,[]⟩
abbrev DF:Type:=Int × Int × Int × Int × Int × Int × av × aw × aq × LD0 × LD0 × LD0 × LD0 × LD0 × LD0 × LD0
def yk (m:Nat) (k:DF->OU0):DF->OU0:=fun(a0,a1,a2,a3,a4,a5,a6,a7,a8,a9,a10,a11,a12,a13,a14,a15)=>
 bif decide (a5<a4)then
 chk (inb a5 a15.length)<|
 chk (decide (a5.toNat<a15.length))<|
 lt (ai a15 a5.toNat:Dat) fun d1=>
 k (a0,a1,a2,(w64 (a3+(w64 ((d1.i 1)-(w64 ((d1.i 3)-(d1.i 4))))))),a4,(w64 (a5+1)),a6,a7,a8,a9,a10,a11,a12,a13,a14,a15)
 else
 some ([.i a0,.i a1,.i a2,.i a3]++Uns.enc (a6:av)++Uns.enc (a7:aw)++Uns.enc (a8:aq)++[.d a9,.d a10,.d a11,.d a12,.d a13,.d a14,.d a15])
def uQ (m:Nat):Nat->DF->OU0:=aZ (yk m)
theorem xh (m:Nat) (n:Nat):uQ m (n+1)=yk m (uQ m n):=rfl
def Kl (F:DF->OU0):aQ:=⟨[.lp [0,1,0,1,1],.blk 0,.code [1,1,1]],⟨frm 40 [(2,.z0),(3,.z0),(4,.z0),(5,.z0),(20,.buf 8 7),(21,.z0),(22,.z0)],aU 0,9⟩,onU F⟩
theorem Xs (m:Nat):∀n,HO Zf (Kl (uQ m n)):=an ae UQ.right (fun k=>[Kl k]) (fun k h=>(aI h az)) fun k a=>by kernel_rfl
def t141 (m:Nat):Int × av × aw × aq × LD0 × LD0 × LD0 × LD0 × LD0 × LD0 × LD0->OU0:=fun(a0,a1,a2,a3,a4,a5,a6,a7,a8,a9,a10)=>
 chk (decide (0<=a0))<|
 chk (decide (a10.length<=1000)&&a10.all bn)<|
 chk (decide (0<=a0))<|
 uQ m m ((bY bA a10),(au 5 a10),(au 6 a10),0,(a10.length:Int),0,a1,a2,a3,a4,a5,a6,a7,a8,a9,a10)
theorem ND (m:Nat) (b s t:Int) (xa:av) (xb:aw) (xn:aq) (x1 x2 x3 x4 x5 x6:LD0):∀(rest pre:LD0) (n:Nat) (u:Int),rest.length<n->(pre++rest).length<=1000->(∀d∈rest,bn d=true)->0<=u->u<=1099511627776*pre.length->
 uQ m n (b,s,t,u,((pre++rest).length:Int),(pre.length:Int),xa,xb,xn,x1,x2,x3,x4,x5,x6,pre++rest)=some ([.i b,.i s,.i t,.i (u+bY unD rest)]++Uns.enc xa++Uns.enc xb++Uns.enc xn++[.d x1,.d x2,.d x3,.d x4,.d x5,.d x6,.d (pre++rest)]):=by
 intro rest
 induction rest with
 |nil=>
  intro pre n u hn hl hg u0 u1;obtain⟨n,rfl⟩:=ah n (by simp at hn;omega);rw[xh];unfold yk;dsimp only;simp[ay,bY]
 |cons x rest ih=>
  intro pre n u hn hl hg u0 u1;obtain⟨n,rfl⟩:=ah n (by simp at hn;omega);simp only[zac,zab]at hn hl;have hx:=cS (hg x (by simp));rw[xh];unfold yk;dsimp only;have:=ih (pre++[x]) n (u+unD x) (by omega) (by simp;omega) (fun d hd=>hg d (by simp[hd])) (by unfold unD;omega) (by simp[unD];omega);simp only[bY,unD]at this⊢;simp(disch:=omega) only[TRa,TRi,aa,LNl,LNi,zad,ax];simp only[LNl,LNi,zad]at this⊢;exact this
def f141:Int × av × aw × aq × LD0 × LD0 × LD0 × LD0 × LD0 × LD0 × LD0->Bool × List Un:=fun(a0,a1,a2,a3,a4,a5,a6,a7,a8,a9,a10)=>(decide (0<=a0)&&(decide (a10.length<=1000)&&a10.all bn),[.i (bY bA a10),.i (au 5 a10),.i (au 6 a10),.i (bY unD a10)]++Uns.enc ((a1):av)++Uns.enc ((a2):aw)++Uns.enc ((a3):aq)++[.d (a4),.d (a5),.d (a6),.d (a7),.d (a8),.d (a9),.d (a10)])
theorem Sm:ER 141 (mkE Zf.en Zf.ex f141):=ak ae UQ.right (fun m=>[Kl (uQ m m)]) (t:=t141) (by kernel_rfl) (fun m=>(aI (Xs m m) az)) (fun m a=>by kernel_rfl) fun(a0,a1,a2,a3,a4,a5,a6,a7,a8,a9,a10) hc=>by
 dsimp only[f141]at hc⊢;have hc':=hc;simp only[zae,zag,zam]at hc';refine⟨a10.length+1, ?_⟩;unfold t141;dsimp only;rw[(zaG.1 hc).2,k9];simp(disch:=omega) only[aJ];exact(ND (a10.length+1) _ _ _ _ _ _ _ _ _ _ _ _ a10 [] (a10.length+1) 0 (by omega) (by simpa using hc'.2.1) hc'.2.2 (by omega) (by simp)).trans (by simp only[za4,zat])
def YN:TB:=UQ.ad Sm
theorem NV {d:Dat} (c:Int) (h:bn d=true):bn (yZ c d)=true:=by
 have:=cS h;refine zaa ?_
 simp only[yZ,rG,bA,fL,gR,AQ,rE,sf];omega
theorem Hj {d:Dat} (c:Int) (h:bn d=true):bn (fR c d)=true:=by
 have:=cS h;refine zaa ?_
 simp only[fR,rG,bA,fL,gR,AQ,rE,sf];omega
theorem JZ {d:Dat} (c:Int) (h:bn d=true):bn (jg c d)=true:=by
 have:=cS h;refine zaa ?_
 simp only[jg,rz,fL,gR,AQ,rE,sf];omega
theorem kj:∀l:LD0,(∀d∈l,bn d=true)->(0<=bY bA l/\bY bA l<=1099511627776*l.length)/\(0<=au 5 l/\au 5 l<=1125899906842624*l.length)/\(0<=au 6 l/\au 6 l<=1099511627776*l.length)/\(0<=bY unD l/\bY unD l<=1099511627776*l.length)/\bY unD l=bY bA l+au 6 l
 |[],_=>by simp[bY,au]
 |d::l,h=>by
  have h1:=cS (h d (by simp));have h2:=kj l fun x hx=>h x (by simp[hx])
  simp only[bY,au,zac,zaL,bA,unD]at h2⊢;omega
theorem Hp (f:Dat->Int) (y:Dat):∀(l:LD0) (j:Nat),j<l.length->bY f (l.set j y)=bY f l-f (ai l j)+f y
 |[],j,h=>by simp at h
 |d::l,0,h=>by simp only[List.set_cons_zero,bY,ai,zaO];omega
 |d::l,j+1,h=>by
  have:=Hp f y l j (by simpa using h);simp only[ai]at this;simp only[zbR,bY,ai,zaE,this];omega
theorem Mj {p:Dat->Prop} {l:LD0} {j:Nat} {y:Dat} (h:∀d∈l,p d) (hy:p y):∀d∈l.set j y,p d:=fun d hd=>by
 rcases zbM hd with h1|rfl
 . exact h d h1
 . exact hy
theorem tH {l:LD0} {j:Nat} (h:j<l.length):ai l j∈l:=by rw[kQ h];exact zbw h
def acY:aA:=⟨YN.tab,191,⟨[.agg [.bool,.bool,.bool,.bool]],[],0⟩,⟨[.bool],[],0⟩,[]⟩
def t191 (m:Nat):Bool × Bool × Bool × Bool->OU0:=fun(a0,a1,a2,a3)=>
 bif !a0 then
 some ([.b true])
 else
 bif !a2 then
 some ([.b true])
 else
 some ([.b !a3])
def f191:Bool × Bool × Bool × Bool->Bool × List Un:=fun(a0,a1,a2,a3)=>(true,[.b (!a0||(!a2|| !a3))])
theorem Qi:ER 191 (mkE acY.en acY.ex f191):=ak ae YN.right (fun m=>[]) (t:=t191) (by kernel_rfl) (fun m=>az) (fun m a=>by kernel_rfl) fun(a0,a1,a2,a3) hc=>by
 dsimp only[f191]at⊢;refine⟨0, ?_⟩;unfold t191;cases a0<;>cases a2<;>cases a3<;>rfl
def Zt:TB:=YN.ad Qi
def ez (mode bf eX:Int) (oc ic late lv:Bool):Int × Int:=
 if mode=2\/ic=false then(2,0)
 else if oc=false\/late=false\/lv=false then(1,0)
 else if mode≠1\/eX<=bf\/bf+1=eX then(0,0)
 else(1,bf+1)
def aa7:aA:=⟨Zt.tab,149,⟨[.agg [.z0,.z0],.z0,.agg [.bool,.bool,.bool,.bool]],[],0⟩,⟨[.agg [.z0,.z0]],[],0⟩,[]⟩
def t149 (m:Nat):Int × Int × Int × Bool × Bool × Bool × Bool->OU0:=fun(a0,a1,a2,a3,a4,a5,a6)=>
 bif a0==2 then
 some ([.i 2,.i 0])
 else
 bif !a4 then
 some ([.i 2,.i 0])
 else
 bif (!a3||(!a5|| !a6))then
 some ([.i 1,.i 0])
 else
 bif a0 !=1 then
 some ([.i 0,.i 0])
 else
 bif decide (a1>=a2)then
 some ([.i 0,.i 0])
 else
 bif (w64 (a1+1))==a2 then
 some ([.i 0,.i 0])
 else
 some ([.i 1,.i (w64 (a1+1))])
def f149:Int × Int × Int × Bool × Bool × Bool × Bool->Bool × List Un:=fun(a0,a1,a2,a3,a4,a5,a6)=>(decide (0<=a1/\a1<=1000000),[.i ((ez a0 a1 a2 a3 a4 a5 a6).1),.i ((ez a0 a1 a2 a3 a4 a5 a6).2)])
theorem Qm:ER 149 (mkE aa7.en aa7.ex f149):=ak ae Zt.right (fun m=>[]) (t:=t149) (by kernel_rfl) (fun m=>az) (fun m a=>by kernel_rfl) fun(a0,a1,a2,a3,a4,a5,a6) hc=>by
 dsimp only[f149]at hc⊢;have h:=zaj hc;refine⟨0, ?_⟩;unfold t149 ez
 by_cases h1:a0=2
 . simp(disch:=omega) only[TRa,TRi,aa];simp[h1]
 . cases a4
   . simp(disch:=omega) only[TRa,TRi,aa];simp
   . cases a3<;>cases a5<;>cases a6<;>simp[h1,dL]<;>by_cases h2:a0=1<;>by_cases h3:a2<=a1<;>by_cases h4:a1+1=a2<;>simp(disch:=omega) only[TRa,TRi,aa]<;>simp[h2,h3,h4]
def ZL:TB:=Zt.ad Qm
def eY (n:Int):Int:=if n<1 then 0 else if n<3 then 1 else if n<6 then 2 else 3
def aci:aA:=⟨ZL.tab,220,⟨[.z0],[],0⟩,⟨[.z0],[],0⟩,[]⟩
def t220 (m:Nat):Int->OU0:=fun a0=>
 bif decide (a0<1)then
 some ([.i 0])
 else
 bif decide (a0<3)then
 some ([.i 1])
 else
 bif decide (a0<6)then
 some ([.i 2])
 else
 some ([.i 3])
def f220:Int->Bool × List Un:=fun a0=>(true,[.i (eY a0)])
theorem Sv:ER 220 (mkE aci.en aci.ex f220):=ak ae ZL.right (fun m=>[]) (t:=t220) (by kernel_rfl) (fun m=>az) (fun m a=>by kernel_rfl) fun a0 hc=>by
 dsimp only[f220]at⊢;refine⟨0, ?_⟩;unfold t220 eY
 by_cases h1:a0<1<;>by_cases h2:a0<3<;>by_cases h3:a0<6<;>simp[h1,h2,h3]
def UU:TB:=ZL.ad Sv
def fG (d:Dat):Bool:=decide (0<=d.i 1/\d.i 1<=1099511627776)
def dJ (j:Int) (l:LD0):Int:=bY (fun d=>if eY (d.i 3)=j then d.i 1 else 0) l
theorem Nn (n:Int):eY n=0\/eY n=1\/eY n=2\/eY n=3:=by
 unfold eY
 split
 . exact .inl rfl
 . split
   . exact .inr (.inl rfl)
   . split
     . exact .inr (.inr (.inl rfl))
     . exact .inr (.inr (.inr rfl))
theorem tU {d:Dat} (h:fG d=true):0<=d.i 1/\d.i 1<=1099511627776:=zaj h
def Yu:aA:=⟨UU.tab,195,⟨[.ab (sB 4)],[],0⟩,⟨[.agg [.z0,.z0,.z0,.z0]],[],0⟩,[]⟩
abbrev Fh:Type:=LD0 × Int × Int × Int × Int × Int × Int × Int × Int × Int × Int
def yC (m:Nat) (k:Fh->OU0):Fh->OU0:=fun(a0,a1,a2,a3,a4,a5,a6,a7,a8,a9,a10)=>
 bif decide (a2<a1)then
 chk (inb a2 a0.length)<|
 chk (decide (a2.toNat<a0.length))<|
 lt (ai a0 a2.toNat:Dat) fun d1=>
 chk (inb (eY (d1.i 3)) 4)<|
 chk (decide ((eY (d1.i 3)).toNat<4))<|
 lt ((List.getD [a7,a8,a9,a10] ((eY (d1.i 3)).toNat) 0):Int) fun x2=>
 chk (inb (eY (d1.i 3)) 4)<|
 chk (decide ((eY (d1.i 3)).toNat<4))<|
 k (a0,a1,(w64 (a2+1)),a3,a4,a5,a6,(bif decide ((eY (d1.i 3)).toNat=0)then(w64 (x2+(d1.i 1)))else a7),(bif decide ((eY (d1.i 3)).toNat=1)then(w64 (x2+(d1.i 1)))else a8),(bif decide ((eY (d1.i 3)).toNat=2)then(w64 (x2+(d1.i 1)))else a9),(bif decide ((eY (d1.i 3)).toNat=3)then(w64 (x2+(d1.i 1)))else a10))
 else
 some ([.i a7,.i a8,.i a9,.i a10])
def vD (m:Nat):Nat->Fh->OU0:=aZ (yC m)
theorem wh (m:Nat) (n:Nat):vD m (n+1)=yC m (vD m n):=rfl
def KJ (F:Fh->OU0):aQ:=⟨[.lp [0,1,0,1,1],.blk 0,.code [1,1,1]],⟨frm 24 [(2,.ptr 0 0 0),(3,.ptr 1 0 0),(6,.ab (sB 4)),(7,.z0),(8,.z0)],[.cells [.z0,.z0,.z0,.z0],.cells [.z0,.z0,.z0,.z0]],0⟩,onU F⟩
theorem W5 (m:Nat):∀n,HO Yu (KJ (vD m n)):=an ae UU.right (fun k=>[KJ k]) (fun k h=>(aI h az)) fun k a=>by kernel_rfl
def t195 (m:Nat):LD0->OU0:=fun a0=>
 vD m m (a0,(a0.length:Int),0,0,0,0,0,0,0,0,0)
set_option maxHeartbeats 2000000 in
theorem Wn (m:Nat) (z0 z1 z2 z3:Int):∀(rest pre:LD0) (n:Nat) (b0 b1 b2 b3:Int),rest.length<n->(pre++rest).length<=1000->(∀d∈rest,fG d=true)->(0<=b0/\b0<=1099511627776*pre.length)->(0<=b1/\b1<=1099511627776*pre.length)->(0<=b2/\b2<=1099511627776*pre.length)->(0<=b3/\b3<=1099511627776*pre.length)->
 vD m n (pre++rest,((pre++rest).length:Int),(pre.length:Int),z0,z1,z2,z3,b0,b1,b2,b3)=some [.i (b0+dJ 0 rest),.i (b1+dJ 1 rest),.i (b2+dJ 2 rest),.i (b3+dJ 3 rest)]:=by
 intro rest
 induction rest with
 |nil=>
  intro pre n b0 b1 b2 b3 hn hl hg h0 h1 h2 h3;obtain⟨n,rfl⟩:=ah n (by simp at hn;omega);rw[wh];unfold yC;dsimp only;simp[ay,bY,dJ]
 |cons x rest ih=>
  intro pre n b0 b1 b2 b3 hn hl hg h0 h1 h2 h3;obtain⟨n,rfl⟩:=ah n (by simp at hn;omega);simp only[zac,zab]at hn hl;have hx:=tU (hg x (by simp));have ih':=fun b0 b1 b2 b3=>ih (pre++[x]) n b0 b1 b2 b3 (by omega) (by simp;omega) (fun d hd=>hg d (by simp[hd]))
  rw[wh];unfold yC;dsimp only;simp only[dJ,bY]at ih'⊢;rcases Nn (x.i 3)with hb|hb|hb|hb
  . have:=ih' (b0+x.i 1) b1 b2 b3 (by simp;omega) (by simp;omega) (by simp;omega) (by simp;omega);simp(disch:=omega) only[TRa,TRi,aa,LNl,LNi,zad,ax,hb,Int.reduceToNat,zaO,zaE,zbh,Int.reduceEq,zbp];simp only[Nat.reduceEqDiff,za3,zaY,zaw,zal,reduceCtorEq,Nat.zero_ne_one,Nat.one_ne_zero,zbh,zbp,Int.reduceEq,za4];simp only[LNl,LNi,zad]at this⊢;exact this
  . have:=ih' b0 (b1+x.i 1) b2 b3 (by simp;omega) (by simp;omega) (by simp;omega) (by simp;omega);simp(disch:=omega) only[TRa,TRi,aa,LNl,LNi,zad,ax,hb,Int.reduceToNat,zaO,zaE,zbh,Int.reduceEq,zbp];simp only[Nat.reduceEqDiff,za3,zaY,zaw,zal,reduceCtorEq,Nat.zero_ne_one,Nat.one_ne_zero,zbh,zbp,Int.reduceEq,za4];simp only[LNl,LNi,zad]at this⊢;exact this
  . have:=ih' b0 b1 (b2+x.i 1) b3 (by simp;omega) (by simp;omega) (by simp;omega) (by simp;omega);simp(disch:=omega) only[TRa,TRi,aa,LNl,LNi,zad,ax,hb,Int.reduceToNat,zaO,zaE,zbh,Int.reduceEq,zbp];simp only[Nat.reduceEqDiff,za3,zaY,zaw,zal,reduceCtorEq,Nat.zero_ne_one,Nat.one_ne_zero,zbh,zbp,Int.reduceEq,za4];simp only[LNl,LNi,zad]at this⊢;exact this
  . have:=ih' b0 b1 b2 (b3+x.i 1) (by simp;omega) (by simp;omega) (by simp;omega) (by simp;omega);simp(disch:=omega) only[TRa,TRi,aa,LNl,LNi,zad,ax,hb,Int.reduceToNat,zaO,zaE,zbh,Int.reduceEq,zbp];simp only[Nat.reduceEqDiff,za3,zaY,zaw,zal,reduceCtorEq,Nat.zero_ne_one,Nat.one_ne_zero,zbh,zbp,Int.reduceEq,za4];simp only[LNl,LNi,zad]at this⊢;exact this
def f195:LD0->Bool × List Un:=fun a0=>(decide (a0.length<=1000)&&a0.all fG,[.i (dJ 0 a0),.i (dJ 1 a0),.i (dJ 2 a0),.i (dJ 3 a0)])
theorem Pc:ER 195 (mkE Yu.en Yu.ex f195):=ak ae UU.right (fun m=>[KJ (vD m m)]) (t:=t195) (by kernel_rfl) (fun m=>(aI (W5 m m) az)) (fun m a=>by kernel_rfl) fun a0 hc=>by
 dsimp only[f195]at hc⊢;simp only[zae,zag,zam]at hc;refine⟨a0.length+1, ?_⟩;exact(Wn (a0.length+1) _ _ _ _ a0 [] (a0.length+1) 0 0 0 0 (by omega) (by simpa using hc.1) hc.2 (by simp) (by simp) (by simp) (by simp)).trans (by simp only[za4])
def Wg:TB:=UU.ad Pc
def Lt (a b c d k:Int):Int:=(if k<=0 then a else 0)+(if k<=1 then b else 0)+(if k<=2 then c else 0)+(if k<=3 then d else 0)
def Ya:aA:=⟨Wg.tab,196,⟨[.agg [.z0,.z0,.z0,.z0],.z0],[],0⟩,⟨[.z0],[],0⟩,[]⟩
abbrev EE:Type:=Int × Int × Int × Int × Int × Int
def oK (m:Nat) (k:EE->OU0):EE->OU0:=fun(a0,a1,a2,a3,a4,a5)=>
 bif decide (a1<4)then
 chk (inb a1 4)<|
 chk (decide (a1.toNat<4))<|
 k ((w64 (a0+(List.getD [a2,a3,a4,a5] a1.toNat 0))),(w64 (a1+1)),a2,a3,a4,a5)
 else
 some ([.i a0])
def fO (m:Nat):Nat->EE->OU0:=aZ (oK m)
theorem kH (m:Nat) (n:Nat):fO m (n+1)=oK m (fO m n):=rfl
def Ku (F:EE->OU0):aQ:=⟨[.lp [0,1,0,1,1],.blk 0,.code [1,1,1]],⟨frm 19 [(2,.ptr 0 0 0),(5,.z0),(6,.z0)],[.cells [.z0,.z0,.z0,.z0]],0⟩,onU F⟩
theorem Zu (m:Nat):∀n,HO Ya (Ku (fO m n)):=an ae Wg.right (fun k=>[Ku k]) (fun k h=>(aI h az)) fun k a=>by kernel_rfl
def t196 (m:Nat):Int × Int × Int × Int × Int->OU0:=fun(a0,a1,a2,a3,a4)=>
 fO m m (0,(if a4<0 then 0 else a4),a0,a1,a2,a3)
def f196:Int × Int × Int × Int × Int->Bool × List Un:=fun(a0,a1,a2,a3,a4)=>(decide (0<=a0/\a0<=1152921504606846976/\0<=a1/\a1<=1152921504606846976/\0<=a2/\a2<=1152921504606846976/\0<=a3/\a3<=1152921504606846976),[.i (Lt a0 a1 a2 a3 a4)])
theorem RN:ER 196 (mkE Ya.en Ya.ex f196):=ak ae Wg.right (fun m=>[Ku (fO m m)]) (t:=t196) (by kernel_rfl) (fun m=>(aI (Zu m m) az)) (fun m a=>by kernel_rfl) fun(a0,a1,a2,a3,a4) hc=>by
 dsimp only[f196]at hc⊢;have h:=zaj hc;refine⟨6, ?_⟩;unfold t196 Lt;dsimp only;have f0:∀(n:Nat) (i s:Int),4<=i->fO 6 (n+1) (s,i,a0,a1,a2,a3)=some [.i s]:=by
  intro n i s hi;rw[kH];unfold oK;dsimp only;rw[ay (by omega)]
 have f3:∀(n:Nat) (s:Int),0<=s->s<=3458764513820540928->fO 6 (n+2) (s,3,a0,a1,a2,a3)=some [.i (s+a3)]:=by
  intro n s h1 h2;rw[kH];unfold oK;dsimp only;simp(disch:=omega) only[aL,bQ,aJ,Int.reduceToNat,zaO,zaE,aa,Int.reduceAdd,f0]
 have f2:∀(n:Nat) (s:Int),0<=s->s<=2305843009213693952->fO 6 (n+3) (s,2,a0,a1,a2,a3)=some [.i (s+a2+a3)]:=by
  intro n s h1 h2;rw[kH];unfold oK;dsimp only;simp(disch:=omega) only[aL,bQ,aJ,Int.reduceToNat,zaO,zaE,aa,Int.reduceAdd,f3]
 have f1:∀(n:Nat) (s:Int),0<=s->s<=1152921504606846976->fO 6 (n+4) (s,1,a0,a1,a2,a3)=some [.i (s+a1+a2+a3)]:=by
  intro n s h1 h2;rw[kH];unfold oK;dsimp only;simp(disch:=omega) only[aL,bQ,aJ,Int.reduceToNat,zaO,zaE,aa,Int.reduceAdd,f2]
 by_cases k0:a4<=0
 . rw[show(if a4<0 then 0 else a4)=(0:Int) by split<;>omega,show fO 6 6=fO 6 (5+1) from rfl,kH];unfold oK;dsimp only;simp(disch:=omega) only[aL,bQ,aJ,Int.reduceToNat,zaO,zaE,aa,Int.reduceAdd,za4];rw[show fO 6 5=fO 6 (1+4) from rfl,f1 _ _ (by omega) (by omega),if_pos k0,if_pos (by omega),if_pos (by omega),if_pos (by omega)]
 . rw[if_neg (show ¬a4<0 by omega),if_neg k0]
   by_cases k1:a4=1
   . subst k1;rw[show fO 6 6=fO 6 (2+4) from rfl,f1 _ _ (by omega) (by omega)];simp
   . by_cases k2:a4=2
     . subst k2;rw[show fO 6 6=fO 6 (3+3) from rfl,f2 _ _ (by omega) (by omega)];simp
     . by_cases k3:a4=3
       . subst k3;rw[show fO 6 6=fO 6 (4+2) from rfl,f3 _ _ (by omega) (by omega)];simp
       . rw[f0 _ _ _ (by omega),if_neg (by omega),if_neg (by omega),if_neg (by omega)];simp
def VI:TB:=Wg.ad RN
theorem aaW (a:LD0):(ai [.r [.r a]] 0).d 0=a:=rfl
def ZY:aA:=⟨VI.tab,138,⟨[.dpt [.ab (sB 4)]],[],0⟩,⟨[.z0],[],0⟩,[]⟩
abbrev ED:Type:=Int × LD0 × Int × Int
def xK (m:Nat) (k:ED->OU0):ED->OU0:=fun(a0,a1,a2,a3)=>
 bif decide (a3<a2)then
 chk (inb a3 a1.length)<|
 chk (decide (a3.toNat<a1.length))<|
 k ((w64 (a0+((ai a1 a3.toNat).i 1))),a1,a2,(w64 (a3+1)))
 else
 some ([.i a0])
def u6 (m:Nat):Nat->ED->OU0:=aZ (xK m)
theorem wA (m:Nat) (n:Nat):u6 m (n+1)=xK m (u6 m n):=rfl
def Jy (F:ED->OU0):aQ:=⟨[.lp [0,1,0,1,1],.blk 0,.code [1,1,1]],⟨frm 22 [(3,.z0),(9,.ab (sB 4)),(10,.z0),(11,.z0)],[],0⟩,onU F⟩
theorem Y3 (m:Nat):∀n,HO ZY (Jy (u6 m n)):=an ae VI.right (fun k=>[Jy k]) (fun k h=>(aI h az)) fun k a=>by kernel_rfl
def t138 (m:Nat):LD0->OU0:=fun a0=>
 chk (decide (0<a0.length))<|
 u6 m m (0,((ai a0 0).d 0),(((ai a0 0).d 0).length:Int),0)
theorem PK (m:Nat):∀(rest pre:LD0) (n:Nat) (b:Int),rest.length<n->(pre++rest).length<=1000->(∀d∈rest,fG d=true)->0<=b->b<=1099511627776*pre.length->
 u6 m n (b,pre++rest,((pre++rest).length:Int),(pre.length:Int))=some [.i (b+au 1 rest)]:=by
 intro rest
 induction rest with
 |nil=>
  intro pre n b hn hl hg h0 h1;obtain⟨n,rfl⟩:=ah n (by simp at hn;omega);rw[wA];unfold xK;dsimp only;simp[ay,au]
 |cons x rest ih=>
  intro pre n b hn hl hg h0 h1;obtain⟨n,rfl⟩:=ah n (by simp at hn;omega);simp only[zac,zab]at hn hl;have hx:=tU (hg x (by simp));rw[wA];unfold xK;dsimp only;have:=ih (pre++[x]) n (b+x.i 1) (by omega) (by simp;omega) (fun d hd=>hg d (by simp[hd])) (by omega) (by simp;omega);simp only[au]at this⊢;simp(disch:=omega) only[TRa,TRi,aa,LNl,LNi,zad,ax];simp only[LNl,LNi,zad]at this⊢;exact this
def f138:LD0->Bool × List Un:=fun a0=>(decide (0<a0.length)&&(decide (((ai a0 0).d 0).length<=1000)&&((ai a0 0).d 0).all fG),[.i (au 1 ((ai a0 0).d 0))])
theorem PW:ER 138 (mkE ZY.en ZY.ex f138):=ak ae VI.right (fun m=>[Jy (u6 m m)]) (t:=t138) (by kernel_rfl) (fun m=>(aI (Y3 m m) az)) (fun m a=>by kernel_rfl) fun a0 hc=>by
 dsimp only[f138]at hc⊢;simp only[zae,zag,zam]at hc;refine⟨((ai a0 0).d 0).length+1, ?_⟩;unfold t138;rw[aJ hc.1];exact(PK _ ((ai a0 0).d 0) [] (((ai a0 0).d 0).length+1) 0 (by omega) (by simpa using hc.2.1) hc.2.2 (by omega) (by simp)).trans (by simp only[za4])
def ZU:TB:=VI.ad PW
def abl:aA:=⟨ZU.tab,109,⟨[.dpt [.ab (sB 4)]],[],0⟩,⟨[.buf 0 5],[.ab (sB 4)],0⟩,[]⟩
def t109 (m:Nat):LD0->OU0:=fun a0=>
 chk (decide (0<a0.length))<|
 chk (decide (((ai a0 0).d 0).length<1000000))<|
 some ([.d ((ai a0 0).d 0)])
def f109:LD0->Bool × List Un:=fun a0=>(decide (0<a0.length)&&decide (((ai a0 0).d 0).length<1000000),[.d ((ai a0 0).d 0)])
theorem Q4:ER 109 (mkE abl.en abl.ex f109):=ak ae ZU.right (fun m=>[]) (t:=t109) (by kernel_rfl) (fun m=>az) (fun m a=>by kernel_rfl) fun a0 hc=>by
 dsimp only[f109]at hc⊢;simp only[zae,zag]at hc;refine⟨0, ?_⟩;unfold t109;rw[aJ hc.1,aJ hc.2]
def ZX:TB:=ZU.ad Q4
theorem pM (j:Int):∀(l:LD0),(∀d∈l,fG d=true)->0<=dJ j l/\dJ j l<=1099511627776*l.length
 |[],_=>by simp[dJ,bY]
 |x::l,h=>by
  have h1:=tU (h x (by simp));have h2:=pM j l fun d hd=>h d (by simp[hd])
  simp only[dJ,bY,zac,zaL,zad]at h2⊢
  split<;>omega
def abr:aA:=⟨ZX.tab,151,⟨[.np 0 0 0,.z0,.z0],aU 0,9⟩,⟨[.agg [.z0,.z0,.z0,.z0,.z0,.z0,.z0]],aU 0,9⟩,[]⟩
def t151 (m:Nat):Int × Int × Int × av × aw × aq × LD0 × LD0 × LD0 × LD0 × LD0 × LD0 × LD0->OU0:=fun(a0,a1,a2,a3,a4,a5,a6,a7,a8,a9,a10,a11,a12)=>
 chk (decide (0<=a0)&&(decide (a12.length<=1000)&&a12.all bn))<|
 chk (decide (0<=a0))<|
 chk (decide (0<([.r [.r a11]]:LD0).length)&&(decide (((ai ([.r [.r a11]]:LD0) 0).d 0).length<=1000)&&((ai ([.r [.r a11]]:LD0) 0).d 0).all fG))<|
 chk (decide (0<=a0))<|
 chk (decide (0<=a0))<|
 chk (decide (0<([.r [.r a11]]:LD0).length)&&decide (((ai ([.r [.r a11]]:LD0) 0).d 0).length<1000000))<|
 lt (((ai ([.r [.r a11]]:LD0) 0).d 0):LD0) fun l5=>
 chk (decide (l5.length<=1000)&&l5.all fG)<|
 chk (decide (0<=(dJ 0 l5)/\(dJ 0 l5)<=1152921504606846976/\0<=(dJ 1 l5)/\(dJ 1 l5)<=1152921504606846976/\0<=(dJ 2 l5)/\(dJ 2 l5)<=1152921504606846976/\0<=(dJ 3 l5)/\(dJ 3 l5)<=1152921504606846976))<|
 chk (decide (0<=a0))<|
 chk (decide (0<=a0))<|
 some ([.i (au 1 ((ai ([.r [.r a11]]:LD0) 0).d 0)),.i (((cI (⟨a3,a6,a7,a4,a8,a9,a10⟩:aT)).getD (0,0)).1),.i (bY bA a12),.i (if 1099511627776<a1 then 1099511627776 else a1),.i (if 1099511627776<a2 then 1099511627776 else a2),.i (Lt (dJ 0 l5) (dJ 1 l5) (dJ 2 l5) (dJ 3 l5) 2),.i (w64 (a5.aP-a5.bc))]++Uns.enc (a3:av)++Uns.enc (a4:aw)++Uns.enc (a5:aq)++[.d a6,.d a7,.d a8,.d a9,.d a10,.d a11,.d a12])
def f151:Int × Int × Int × av × aw × aq × LD0 × LD0 × LD0 × LD0 × LD0 × LD0 × LD0->Bool × List Un:=fun(a0,a1,a2,a3,a4,a5,a6,a7,a8,a9,a10,a11,a12)=>(decide (0<=a0)&&((decide (a11.length<=1000)&&a11.all fG)&&(decide (a12.length<=1000)&&a12.all bn)),[.i (au 1 a11),.i (((cI (⟨a3,a6,a7,a4,a8,a9,a10⟩:aT)).getD (0,0)).1),.i (bY bA a12),.i (min a1 1099511627776),.i (min a2 1099511627776),.i (dJ 2 a11+dJ 3 a11),.i (w64 (a5.aP-a5.bc))]++Uns.enc ((a3):av)++Uns.enc ((a4):aw)++Uns.enc ((a5):aq)++[.d (a6),.d (a7),.d (a8),.d (a9),.d (a10),.d (a11),.d (a12)])
theorem O0:ER 151 (mkE abr.en abr.ex f151):=ak ae ZX.right (fun m=>[]) (t:=t151) (by kernel_rfl) (fun m=>az) (fun m a=>by kernel_rfl) fun(a0,a1,a2,a3,a4,a5,a6,a7,a8,a9,a10,a11,a12) hc=>by
 dsimp only[f151]at hc⊢;have hc':=hc;simp only[zae,zag,zam]at hc';obtain⟨h0,⟨h1,h2⟩,h3,h4⟩:=hc';have q1:(decide (a11.length<=1000)&&a11.all fG)=true:=(zaG.1 (zaG.1 hc).2).1;have q2:(decide (a12.length<=1000)&&a12.all bn)=true:=(zaG.1 (zaG.1 hc).2).2;have l0:=pM 0 a11 h2;have l1:=pM 1 a11 h2;have l2:=pM 2 a11 h2;have l3:=pM 3 a11 h2;refine⟨0, ?_⟩;unfold t151;dsimp only[lt,aaW,List.length_cons,List.length_nil];simp only[zaa h0,q1,q2,zck,k9,show decide (0<0+1)=true from rfl,zaa (show a11.length<1000000 by omega)];rw[aJ (by omega)];simp only[mS,Lt,Int.reduceLE,zbh,zbp,za4,zbb];exact al (by rw[zae];exact⟨@zaa _ _ h1,zam.2 h2⟩) (al (@zaa _ _ (by omega)) rfl)
def TV:TB:=ZX.ad O0
def Qf:Nat->Nat->Dat->Dat->Bool
 |_,0,_,_=>true
 |j,n+1,x,y=>x.i j==y.i j&&Qf (j+1) n x y
def Km:Nat->Nat->Dat->Dat->Bool
 |j,0,x,y=>x.b j==y.b j
 |j,n+1,x,y=>x.i j==y.i j&&Km (j+1) n x y
def gE:LI0->LI0->Bool
 |[],[]=>true
 |x::a,y::b=>x==y&&gE a b
 |_,_=>false
theorem uL:∀(a b:LI0),a.length≠b.length->gE a b=false
 |[],[],h=>absurd rfl h
 |[],_::_,_=>rfl
 |_::_,[],_=>rfl
 |x::a,y::b,h=>by simp[gE,uL a b (by simpa using h)]
def N20:aA:=⟨TV.tab,20,⟨[.ints .u8,.ints .u8],[],0⟩,⟨[.bool],[],0⟩,[]⟩
abbrev LA:Type:=LI0 × LI0 × Int
def D0 (m:Nat) (k:LA->OU0):LA->OU0:=fun(a0,a1,a2)=>
 bif (decide (a2<(a0.length:Int)))then
 chk (inb a2 a0.length)<|
 chk (decide (a2.toNat<a0.length))<|
 chk (inb a2 a1.length)<|
 chk (decide (a2.toNat<a1.length))<|
 bif ((a0.getD a2.toNat 0) !=(a1.getD a2.toNat 0))then
 some ([.b false])
 else
 k (a0,a1,(w64 (a2+1)))
 else
 some ([.b true])
def CE (m:Nat):Nat->LA->OU0:=aZ (D0 m)
theorem A2 (m:Nat) (n:Nat):CE m (n+1)=D0 m (CE m n):=rfl
def Qe (F:LA->OU0):aQ:=⟨[.lp [0,1,0,1,1],.blk 0,.code [1,1,1]],⟨frm 26 [(0,.ints .u8),(1,.ints .u8),(5,.z0)],[],0⟩,onU F⟩
theorem abC (m:Nat):∀n,HO N20 (Qe (CE m n)):=an ae TV.right (fun k=>[Qe k]) (fun k h=>(aI h az)) fun k a=>by kernel_rfl
def t20 (m:Nat):LI0 × LI0->OU0:=fun(a0,a1)=>
 bif ((a0.length:Int) !=(a1.length:Int))then
 some ([.b false])
 else
 CE m m (a0,a1,0)
theorem Vw (m:Nat):∀(rest dY pre ud:LI0) (n:Nat),rest.length<n->ud.length=pre.length->dY.length=rest.length->(pre++rest).length<1099511627776->
 CE m n (pre++rest,ud++dY,(pre.length:Int))=some [.b (gE rest dY)]:=by
 intro rest
 induction rest with
 |nil=>
  intro dY pre ud n hn hp hr hl;obtain⟨n,rfl⟩:=ah n (by simp at hn;omega);obtain rfl:dY=[]:=zaB (by simpa using hr);rw[A2];unfold D0;dsimp only;simp[ay,gE]
 |cons x rest ih=>
  intro dY pre ud n hn hp hr hl;obtain⟨n,rfl⟩:=ah n (by simp at hn;omega);obtain⟨y,dY,rfl⟩:∃y l,dY=y::l:=by cases dY with|nil=>simp at hr|cons y l=>exact⟨y,l,rfl⟩
  simp only[zac,zab]at hn hl hr;have:=ih dY (pre++[x]) (ud++[y]) n (by omega) (by simp[hp]) (by omega) (by simp;omega);rw[A2];unfold D0;dsimp only;simp only[gE,Qf,Km,Nat.reduceAdd];simp(disch:=omega) only[TRa,TRi,aa,LNl,LNi,zad,br,vj _ _ _ _ _ hp];simp only[LNl,LNi,zad]at this⊢
  (try simp only[bne,cond_not])
  cases (x==y)
  all_goals (first|exact this|rfl)
def f20:LI0 × LI0->Bool × List Un:=fun(a0,a1)=>(decide (a0.length<1099511627776),[.b (gE a0 a1)])
theorem We:ER 20 (mkE N20.en N20.ex f20):=ak ae TV.right (fun m=>[Qe (CE m m)]) (t:=t20) (by kernel_rfl) (fun m=>(aI (abC m m) az)) (fun m a=>by kernel_rfl) fun(a0,a1) hc=>by
 dsimp only[f20]at hc⊢;have hs:=zaj hc;refine⟨a0.length+1, ?_⟩;unfold t20;dsimp only
 by_cases h:a0.length=a1.length
 . rw[cU (by omega)];exact Vw _ a0 a1 [] [] _ (by omega) rfl h.symm (by simpa using hs)
 . rw[dr (by omega),uL _ _ h]
def T20:TB:=TV.ad We
def N28:aA:=⟨T20.tab,28,⟨[.ints .i64,.ints .i64],[],0⟩,⟨[.bool],[],0⟩,[]⟩
abbrev K6:Type:=LI0 × LI0 × Int
def Fc (m:Nat) (k:K6->OU0):K6->OU0:=fun(a0,a1,a2)=>
 bif (decide (a2<(a0.length:Int)))then
 chk (inb a2 a0.length)<|
 chk (decide (a2.toNat<a0.length))<|
 chk (inb a2 a1.length)<|
 chk (decide (a2.toNat<a1.length))<|
 bif ((a0.getD a2.toNat 0) !=(a1.getD a2.toNat 0))then
 some ([.b false])
 else
 k (a0,a1,(w64 (a2+1)))
 else
 some ([.b true])
def CS (m:Nat):Nat->K6->OU0:=aZ (Fc m)
theorem Bp (m:Nat) (n:Nat):CS m (n+1)=Fc m (CS m n):=rfl
def OJ (F:K6->OU0):aQ:=⟨[.lp [0,1,0,1,1],.blk 0,.code [1,1,1]],⟨frm 26 [(0,.ints .i64),(1,.ints .i64),(5,.z0)],[],0⟩,onU F⟩
theorem abY (m:Nat):∀n,HO N28 (OJ (CS m n)):=an ae T20.right (fun k=>[OJ k]) (fun k h=>(aI h az)) fun k a=>by kernel_rfl
def t28 (m:Nat):LI0 × LI0->OU0:=fun(a0,a1)=>
 bif ((a0.length:Int) !=(a1.length:Int))then
 some ([.b false])
 else
 CS m m (a0,a1,0)
theorem U9 (m:Nat):∀(rest dY pre ud:LI0) (n:Nat),rest.length<n->ud.length=pre.length->dY.length=rest.length->(pre++rest).length<1099511627776->
 CS m n (pre++rest,ud++dY,(pre.length:Int))=some [.b (gE rest dY)]:=by
 intro rest
 induction rest with
 |nil=>
  intro dY pre ud n hn hp hr hl;obtain⟨n,rfl⟩:=ah n (by simp at hn;omega);obtain rfl:dY=[]:=zaB (by simpa using hr);rw[Bp];unfold Fc;dsimp only;simp[ay,gE]
 |cons x rest ih=>
  intro dY pre ud n hn hp hr hl;obtain⟨n,rfl⟩:=ah n (by simp at hn;omega);obtain⟨y,dY,rfl⟩:∃y l,dY=y::l:=by cases dY with|nil=>simp at hr|cons y l=>exact⟨y,l,rfl⟩
  simp only[zac,zab]at hn hl hr;have:=ih dY (pre++[x]) (ud++[y]) n (by omega) (by simp[hp]) (by omega) (by simp;omega);rw[Bp];unfold Fc;dsimp only;simp only[gE,Qf,Km,Nat.reduceAdd];simp(disch:=omega) only[TRa,TRi,aa,LNl,LNi,zad,br,vj _ _ _ _ _ hp];simp only[LNl,LNi,zad]at this⊢
  (try simp only[bne,cond_not])
  cases (x==y)
  all_goals (first|exact this|rfl)
def f28:LI0 × LI0->Bool × List Un:=fun(a0,a1)=>(decide (a0.length<1099511627776),[.b (gE a0 a1)])
theorem Uu:ER 28 (mkE N28.en N28.ex f28):=ak ae T20.right (fun m=>[OJ (CS m m)]) (t:=t28) (by kernel_rfl) (fun m=>(aI (abY m m) az)) (fun m a=>by kernel_rfl) fun(a0,a1) hc=>by
 dsimp only[f28]at hc⊢;have hs:=zaj hc;refine⟨a0.length+1, ?_⟩;unfold t28;dsimp only
 by_cases h:a0.length=a1.length
 . rw[cU (by omega)];exact U9 _ a0 a1 [] [] _ (by omega) rfl h.symm (by simpa using hs)
 . rw[dr (by omega),uL _ _ h]
def T28:TB:=T20.ad Uu
def abi:aA:=⟨T28.tab,106,⟨[.bool],[],0⟩,⟨[.z0],[],0⟩,[]⟩
def t106 (m:Nat):Bool->OU0:=fun a0=>
 bif a0 then
 some ([.i 1])
 else
 some ([.i 0])
def f106:Bool->Bool × List Un:=fun a0=>(true,[.i (bI a0)])
theorem QX:ER 106 (mkE abi.en abi.ex f106):=ak ae T28.right (fun m=>[]) (t:=t106) (by kernel_rfl) (fun m=>az) (fun m a=>by kernel_rfl) fun a0 hc=>by
 dsimp only[f106]at⊢;refine⟨0, ?_⟩;unfold t106;cases a0<;>rfl
def Xu:TB:=T28.ad QX
def acA:aA:=⟨Xu.tab,107,⟨[.agg [.z0,.z0]],[],0⟩,⟨[.z0],[],0⟩,[]⟩
def t107 (m:Nat):Int × Int->OU0:=fun(a0,a1)=>
 some ([.i a0])
def f107:Int × Int->Bool × List Un:=fun(a0,a1)=>(true,[.i (a0)])
theorem Rp:ER 107 (mkE acA.en acA.ex f107):=ak ae Xu.right (fun m=>[]) (t:=t107) (by kernel_rfl) (fun m=>az) (fun m a=>by kernel_rfl) fun(a0,a1) hc=>by
 dsimp only[f107]at⊢;exact⟨0,rfl⟩
def XF:TB:=Xu.ad Rp
def ada:aA:=⟨XF.tab,108,⟨[.agg [.z0,.z0]],[],0⟩,⟨[.z0],[],0⟩,[]⟩
def t108 (m:Nat):Int × Int->OU0:=fun(a0,a1)=>
 some ([.i a1])
def f108:Int × Int->Bool × List Un:=fun(a0,a1)=>(true,[.i (a1)])
theorem Pj:ER 108 (mkE ada.en ada.ex f108):=ak ae XF.right (fun m=>[]) (t:=t108) (by kernel_rfl) (fun m=>az) (fun m a=>by kernel_rfl) fun(a0,a1) hc=>by
 dsimp only[f108]at⊢;exact⟨0,rfl⟩
def RY:TB:=XF.ad Pj
def nF (d:Dat):LI0:=[d.i 0,d.i 1,d.i 2,d.i 3,bI (d.b 4)]
def ti (d:Dat):LI0:=[w64 (d.i 3-d.i 4),d.i 5,d.i 6]
def hG (n:aq) (aN notes:LD0):LI0:=[n.period,n.mode,n.bf,n.out,n.fee,n.aP,n.bc,bI n.gU,n.rin,n.bM]++aN.flatMap nF++notes.flatMap ti
def N66:aA:=⟨RY.tab,66,⟨[.np 0 0 0],aU 0,9⟩,⟨[.buf 9 1],aU 0++[.ints .i64],9⟩,[]⟩
abbrev L6:Type:=Int × Int × av × aw × aq × LD0 × LD0 × LD0 × LD0 × LD0 × LD0 × LD0 × LI0
abbrev MI:Type:=Int × Int × Int × av × aw × aq × LD0 × LD0 × LD0 × LD0 × LD0 × LD0 × LD0 × LI0 × LD0
def D5 (m:Nat) (k:L6->OU0):L6->OU0:=fun(a0,a1,a2,a3,a4,a5,a6,a7,a8,a9,a10,a11,a12)=>
 bif decide (a1<a0)then
 chk (inb a1 a11.length)<|
 chk (decide (a1.toNat<a11.length))<|
 lt (ai a11 a1.toNat:Dat) fun d4=>
 chk (fits (a12.length+3) 8)<|
 k (a0,(w64 (a1+1)),a2,a3,a4,a5,a6,a7,a8,a9,a10,a11,(a12++([(w64 ((d4.i 3)-(d4.i 4))),(d4.i 5),(d4.i 6)])))
 else
 some (Uns.enc (a2:av)++Uns.enc (a3:aw)++Uns.enc (a4:aq)++[.d a5,.d a6,.d a7,.d a8,.d a9,.d a10,.d a11,.l a12])
def C6 (m:Nat):Nat->L6->OU0:=aZ (D5 m)
theorem zG (m:Nat) (n:Nat):C6 m (n+1)=D5 m (C6 m n):=rfl
def SA (F:L6->OU0):aQ:=⟨[.lp [0,1,0,1,1,1],.blk 2,.code [1,1,1,1]],⟨frm 102 [(3,.buf 9 1),(84,.buf 8 7),(85,.z0),(86,.z0)],aU 0++[.ints .i64],9⟩,onU F⟩
def EO (m:Nat) (k:MI->OU0):MI->OU0:=fun(a0,a1,a2,a3,a4,a5,a6,a7,a8,a9,a10,a11,a12,a13,a14)=>
 bif decide (a2<a1)then
 chk (inb a2 a14.length)<|
 chk (decide (a2.toNat<a14.length))<|
 lt (ai a14 a2.toNat:Dat) fun d2=>
 chk (fits (a13.length+5) 8)<|
 k (a0,a1,(w64 (a2+1)),a3,a4,a5,a6,a7,a8,a9,a10,a11,a12,(a13++([(d2.i 0),(d2.i 1),(d2.i 2),(d2.i 3),(bI (d2.b 4))])),a14)
 else
 chk (decide (0<=a0))<|
 C6 m m ((a12.length:Int),0,a3,a4,a5,a6,a7,a8,a9,a10,a11,a12,a13)
def Cu (m:Nat):Nat->MI->OU0:=aZ (EO m)
theorem Ag (m:Nat) (n:Nat):Cu m (n+1)=EO m (Cu m n):=rfl
def Ru (F:MI->OU0):aQ:=⟨[.lp [0,1,0,1,1],.blk 0,.code [1,1,1]],⟨frm 102 [(0,.np 0 0 0),(3,.buf 9 1),(58,.buf 10 5),(59,.z0),(60,.z0)],aU 0++[.ints .i64,.ab (sB 4)],9⟩,onU F⟩
theorem abZ (m:Nat):∀n,HO N66 (SA (C6 m n)):=an ae RY.right (fun k=>[SA k]) (fun k h=>(aI h az)) fun k a=>by kernel_rfl
theorem acf (m:Nat):∀n,HO N66 (Ru (Cu m n)):=an ae RY.right (fun k=>[Ru k,SA (C6 m m)]) (fun k h=>(aI h (aI (abZ m m) az))) fun k a=>by kernel_rfl
def t66 (m:Nat):Int × av × aw × aq × LD0 × LD0 × LD0 × LD0 × LD0 × LD0 × LD0->OU0:=fun(a0,a1,a2,a3,a4,a5,a6,a7,a8,a9,a10)=>
 chk (decide (0<=a0))<|
 chk (decide (0<=a0))<|
 chk (decide (0<=a0))<|
 chk (decide (0<=a0))<|
 chk (decide (0<=a0))<|
 chk (decide (0<=a0))<|
 chk (decide (0<=a0))<|
 chk (decide (0<=a0))<|
 chk (decide (0<=a0))<|
 chk (decide (0<=a0))<|
 chk (decide (0<=a0))<|
 chk (decide (0<([.r [.r a9]]:LD0).length)&&decide (((ai ([.r [.r a9]]:LD0) 0).d 0).length<1000000))<|
 lt (((ai ([.r [.r a9]]:LD0) 0).d 0):LD0) fun l1=>
 Cu m m (a0,(l1.length:Int),0,a1,a2,a3,a4,a5,a6,a7,a8,a9,a10,([a3.period,a3.mode,a3.bf,a3.out,a3.fee,a3.aP,a3.bc,(bI a3.gU),a3.rin,a3.bM]:LI0),l1)
section
variable (m : Nat) (xa : av) (xb : aw) (xn : aq) (x1 x2 x3 x4 x5 x6 : LD0)
theorem ZJ:∀(rest pre:LD0) (n:Nat) (acc:LI0),rest.length<n->(pre++rest).length<1000000->acc.length<=6000000+3*pre.length->
 C6 m n (((pre++rest).length:Int),(pre.length:Int),xa,xb,xn,x1,x2,x3,x4,x5,x6,pre++rest,acc)=some (Uns.enc xa++Uns.enc xb++Uns.enc xn++[.d x1,.d x2,.d x3,.d x4,.d x5,.d x6,.d (pre++rest),.l (acc++rest.flatMap ti)]):=by
 intro rest
 induction rest with
 |nil=>
  intro pre n acc hn hl ha;obtain⟨n,rfl⟩:=ah n (by simp at hn;omega);rw[zG];unfold D5;dsimp only;simp[ay]
 |cons x rest ih=>
  intro pre n acc hn hl ha;obtain⟨n,rfl⟩:=ah n (by simp at hn;omega);simp only[zac,zab]at hn hl;rw[zG];unfold D5;dsimp only;have:=ih (pre++[x]) n (acc++ti x) (by omega) (by simp;omega) (by simp[ti];omega);simp only[zaX,ti]at this⊢;simp(disch:=omega) only[TRa,TRi,aa,LNl,LNi,zad,ax];simp only[LNl,LNi,zad]at this⊢;exact this
theorem Yq (p0:Int) (hp:0<=p0) (notes:LD0) (hnl:notes.length<1000000) (hm:notes.length<m):∀(rest pre:LD0) (n:Nat) (acc:LI0),rest.length<n->(pre++rest).length<1000000->acc.length<=10+5*pre.length->
 Cu m n (p0,((pre++rest).length:Int),(pre.length:Int),xa,xb,xn,x1,x2,x3,x4,x5,x6,notes,acc,pre++rest)=some (Uns.enc xa++Uns.enc xb++Uns.enc xn++[.d x1,.d x2,.d x3,.d x4,.d x5,.d x6,.d notes,.l (acc++rest.flatMap nF++notes.flatMap ti)]):=by
 intro rest
 induction rest with
 |nil=>
  intro pre n acc hn hl ha;obtain⟨n,rfl⟩:=ah n (by simp at hn;omega);simp only[zaH]at hl;rw[Ag];unfold EO;dsimp only;simp only[zaH,List.flatMap_nil];rw[ay (by omega),aJ hp];exact ZJ m xa xb xn x1 x2 x3 x4 x5 x6 notes [] m acc hm (by simpa using hnl) (by simp;omega)
 |cons x rest ih=>
  intro pre n acc hn hl ha;obtain⟨n,rfl⟩:=ah n (by simp at hn;omega);simp only[zac,zab]at hn hl;rw[Ag];unfold EO;dsimp only;have:=ih (pre++[x]) n (acc++nF x) (by omega) (by simp;omega) (by simp[nF];omega);simp only[zaX,nF]at this⊢;simp(disch:=omega) only[TRa,TRi,aa,LNl,LNi,zad,ax];simp only[LNl,LNi,zad]at this⊢;exact this
end
def f66:Int × av × aw × aq × LD0 × LD0 × LD0 × LD0 × LD0 × LD0 × LD0->Bool × List Un:=fun(a0,a1,a2,a3,a4,a5,a6,a7,a8,a9,a10)=>(decide (0<=a0)&&decide (a9.length<1000000/\a10.length<1000000),Uns.enc ((a1):av)++Uns.enc ((a2):aw)++Uns.enc ((a3):aq)++[.d (a4),.d (a5),.d (a6),.d (a7),.d (a8),.d (a9),.d (a10),.l (hG a3 a9 a10)])
theorem U1:ER 66 (mkE N66.en N66.ex f66):=ak ae RY.right (fun m=>[Ru (Cu m m)]) (t:=t66) (by kernel_rfl) (fun m=>(aI (acf m m) az)) (fun m a=>by kernel_rfl) fun(a0,a1,a2,a3,a4,a5,a6,a7,a8,a9,a10) hc=>by
 dsimp only[f66]at hc⊢;simp only[zae,zag]at hc;obtain⟨h0,h1,h2⟩:=hc;refine⟨a9.length+a10.length+1, ?_⟩;unfold t66;dsimp only[lt,aaW,List.length_cons,List.length_nil];simp only[aJ h0];refine(al ?_ (Yq _ a1 a2 a3 a4 a5 a6 a7 a8 a9 a0 h0 a10 h2 (by omega) a9 [] _ _ (by omega) (by simpa using h1) (by simp))).trans ?_
 . rw[zae];exact⟨@zaa _ _ (by omega),@zaa _ _ h1⟩
 . rfl
def T66:TB:=RY.ad U1
def jK (p q r s l:Int):Bool:=decide (0<=p)&&(decide (p<=1099511627776)&&(decide (0<=q)&&(decide (q<=1099511627776)&&(decide (0<=r)&&(decide (r<=1099511627776)&&(decide (0<=s)&&(decide (s<=1099511627776)&&(decide (0<=l)&&decide (l<=12)))))))))
theorem F5 {α:Type} {x:Int} {a b:α}:(bif decide (x<0)then a else b)=bif decide (0<=x)then b else a:=by
 by_cases h:x<0
 . rw[zaa h,zan (show ¬0<=x by omega)];rfl
 . rw[zan h,zaa (show 0<=x by omega)];rfl
theorem FG {α:Type} {x y:Int} {a b:α}:(bif decide (x>y)then a else b)=bif decide (x<=y)then b else a:=by
 by_cases h:x>y
 . rw[zaa h,zan (show ¬x<=y by omega)];rfl
 . rw[zan h,zaa (show x<=y by omega)];rfl
theorem qM {c y:Bool}:(bif c then some [Un.b y]else some [Un.b false])=some [.b (c&&y)]:=by cases c<;>rfl
def aaA:aA:=⟨T66.tab,153,⟨[.agg [.z0,.z0,.z0,.z0,.z0,.z0,.bool]],[],0⟩,⟨[.bool],[],0⟩,[[0,1,0,1]]⟩
def t153 (m:Nat):Int × Int × Int × Int × Int × Int × Bool->OU0:=fun(a0,a1,a2,a3,a4,a5,a6)=>
 lt ((([a1,a2,a3,a4]).getD 0 0):Int) fun x1=>
 bif decide (x1<0)then
 some ([.b false])
 else
 bif (decide (x1>1099511627776))then
 some ([.b false])
 else
 lt ((([a1,a2,a3,a4]).getD 1 0):Int) fun x3=>
 bif decide (x3<0)then
 some ([.b false])
 else
 bif (decide (x3>1099511627776))then
 some ([.b false])
 else
 lt ((([a1,a2,a3,a4]).getD 2 0):Int) fun x5=>
 bif decide (x5<0)then
 some ([.b false])
 else
 bif (decide (x5>1099511627776))then
 some ([.b false])
 else
 lt ((([a1,a2,a3,a4]).getD 3 0):Int) fun x7=>
 bif decide (x7<0)then
 some ([.b false])
 else
 bif (decide (x7>1099511627776))then
 some ([.b false])
 else
 bif decide (a5>=0)then
 some ([.b (decide (a5<=12))])
 else
 some ([.b false])
def f153:Int × Int × Int × Int × Int × Int × Bool->Bool × List Un:=fun(a0,a1,a2,a3,a4,a5,a6)=>(true,[.b (jK a1 a2 a3 a4 a5)])
theorem QI:ER 153 (mkE aaA.en aaA.ex f153):=ak ae T66.right (fun m=>[]) (t:=t153) (by kernel_rfl) (fun m=>az) (fun m a=>by kernel_rfl) fun(a0,a1,a2,a3,a4,a5,a6) hc=>by
 dsimp only[f153]at⊢;refine⟨0, ?_⟩;unfold t153 jK;simp only[lt_eq,zaO,zaE,F5,FG];simp only[ge_iff_le,qM]
def Vi:TB:=T66.ad QI
def ku:Int->LD0->Bool
 |_,[]=>true
 |last,d::l=>if d.i 0<=last then false else if jK (d.i 1) (d.i 2) (d.i 3) (d.i 4) (d.i 5)then ku (d.i 0) l else false
def mq (l:LD0):Bool:=decide (l.length<=64)&&ku 0 l
def ZC:aA:=⟨Vi.tab,100,⟨[.ab (sB 6)],[],0⟩,⟨[.bool],[],0⟩,[]⟩
abbrev DI:Type:=Int × LD0 × Int × Int
def yE (m:Nat) (k:DI->OU0):DI->OU0:=fun(a0,a1,a2,a3)=>
 bif decide (a3<a2)then
 chk (inb a3 a1.length)<|
 chk (decide (a3.toNat<a1.length))<|
 lt (ai a1 a3.toNat:Dat) fun d2=>
 bif decide ((d2.i 0)<=a0)then
 some ([.b false])
 else
 bif !(jK (d2.i 1) (d2.i 2) (d2.i 3) (d2.i 4) (d2.i 5))then
 some ([.b false])
 else
 k ((d2.i 0),a1,a2,(w64 (a3+1)))
 else
 some ([.b true])
def vI (m:Nat):Nat->DI->OU0:=aZ (yE m)
theorem w6 (m:Nat) (n:Nat):vI m (n+1)=yE m (vI m n):=rfl
def Kc (F:DI->OU0):aQ:=⟨[.lp [0,1,0,1,1,1],.blk 0,.code [1,1,1,1]],⟨frm 27 [(3,.z0),(9,.ab (sB 6)),(10,.z0),(11,.z0)],[],0⟩,onU F⟩
theorem Zz (m:Nat):∀n,HO ZC (Kc (vI m n)):=an ae Vi.right (fun k=>[Kc k]) (fun k h=>(aI h az)) fun k a=>by kernel_rfl
def t100 (m:Nat):LD0->OU0:=fun a0=>
 bif (decide ((a0.length:Int)>64))then
 some ([.b false])
 else
 vI m m (0,a0,(a0.length:Int),0)
theorem abR (m:Nat):∀(rest pre:LD0) (n:Nat) (last:Int),rest.length<n->(pre++rest).length<=64->
 vI m n (last,pre++rest,((pre++rest).length:Int),(pre.length:Int))=some [.b (ku last rest)]:=by
 intro rest
 induction rest with
 |nil=>
  intro pre n last hn hl;obtain⟨n,rfl⟩:=ah n (by simp at hn;omega);rw[w6];unfold yE;dsimp only;simp[ay,ku]
 |cons x rest ih=>
  intro pre n last hn hl;obtain⟨n,rfl⟩:=ah n (by simp at hn;omega);simp only[zac,zab]at hn hl;have:=ih (pre++[x]) n (x.i 0) (by omega) (by simp;omega);rw[w6];unfold yE;dsimp only;simp only[LNl,LNi,zad]at this⊢;unfold ku
  by_cases h1:x.i 0<=last
  . simp(disch:=omega) only[TRa,TRi,aa,LNl,LNi,zad,ax];rw[if_pos h1]
  . rw[if_neg h1]
    by_cases h2:jK (x.i 1) (x.i 2) (x.i 3) (x.i 4) (x.i 5)=true
    . rw[if_pos h2];simp(disch:=omega) only[TRa,TRi,aa,LNl,LNi,zad,ax,h2];exact this
    . rw[if_neg h2];have h2:jK (x.i 1) (x.i 2) (x.i 3) (x.i 4) (x.i 5)=false:=by simpa using h2
      simp(disch:=omega) only[TRa,TRi,aa,LNl,LNi,zad,ax,h2]
def f100:LD0->Bool × List Un:=fun a0=>(true,[.b (mq a0)])
theorem Q9:ER 100 (mkE ZC.en ZC.ex f100):=ak ae Vi.right (fun m=>[Kc (vI m m)]) (t:=t100) (by kernel_rfl) (fun m=>(aI (Zz m m) az)) (fun m a=>by kernel_rfl) fun a0 hc=>by
 dsimp only[f100]at⊢;unfold mq
 by_cases h:a0.length<=64
 . refine⟨a0.length+1, ?_⟩;have:=abR (a0.length+1) a0 [] (a0.length+1) 0 (by omega) (by simpa using h);unfold t100;rw[ay (by omega),zaa h,zbb];exact this
 . refine⟨0, ?_⟩;unfold t100;rw[aL (by omega),zan h];rfl
def ZD:TB:=Vi.ad Q9
def BL (bal lost:Int) (gU:Bool) (pr pp it rc lt:Int) (df:Bool):Bool:=
 bif gU then(pr==0)&&((pp==0)&&((it==0)&&((lt==0)&&(!df&&decide (rc<=lost)))))
 else bif decide (w64 (w64 (bal-pr)-pp)<0)then false
 else bif df then(bif decide (rc<=w64 (lost+w64 (w64 (bal-pr)-pp)))then true else rc==0)else rc==0
theorem N7 {c x y:Bool}:(bif c then some [Un.b x]else some [Un.b y])=some [.b (bif c then x else y)]:=by cases c<;>rfl
def acE:aA:=⟨ZD.tab,176,⟨[.agg [.z0,.z0,.z0,.z0,.bool],.agg [.z0,.z0,.z0,.z0,.z0,.z0,.bool]],[],0⟩,⟨[.bool],[],0⟩,[]⟩
def t176 (m:Nat):Int × Int × Int × Int × Bool × Int × Int × Int × Int × Int × Int × Bool->OU0:=fun(a0,a1,a2,a3,a4,a5,a6,a7,a8,a9,a10,a11)=>
 bif a4 then
 bif a6==0 then
 bif a7==0 then
 bif a8==0 then
 bif a10==0 then
 bif !a11 then
 some ([.b (decide (a9<=a2))])
 else
 some ([.b false])
 else
 some ([.b false])
 else
 some ([.b false])
 else
 some ([.b false])
 else
 some ([.b false])
 else
 lt ((w64 ((w64 (a1-a6))-a7)):Int) fun x1=>
 bif decide (x1<0)then
 some ([.b false])
 else
 bif a11 then
 bif (decide (a9<=(w64 (a2+x1))))then
 some ([.b true])
 else
 some ([.b (a9==0)])
 else
 some ([.b (a9==0)])
def f176:Int × Int × Int × Int × Bool × Int × Int × Int × Int × Int × Int × Bool->Bool × List Un:=fun(a0,a1,a2,a3,a4,a5,a6,a7,a8,a9,a10,a11)=>(true,[.b (BL a1 a2 a4 a6 a7 a8 a9 a10 a11)])
theorem Pw:ER 176 (mkE acE.en acE.ex f176):=ak ae ZD.right (fun m=>[]) (t:=t176) (by kernel_rfl) (fun m=>az) (fun m a=>by kernel_rfl) fun(a0,a1,a2,a3,a4,a5,a6,a7,a8,a9,a10,a11) hc=>by
 dsimp only[f176]at⊢;refine⟨0, ?_⟩;unfold t176 BL;simp only[lt_eq,N7];cases a4<;>simp only[zaw,zal]
 cases (a6==0)<;>cases (a7==0)<;>cases (a8==0)<;>cases (a10==0)<;>cases a11<;>rfl
def W4:TB:=ZD.ad Pw
def Ch (bal pr pp:Int) (df:Bool):Int:=bif df then 0 else w64 (bal-w64 (pr+pp))
def kY (bal pr pp:Int) (df:Bool):Int:=bif df then w64 (bal-w64 (pr+pp))else 0
def vJ (bal lost pr pp rc:Int) (df:Bool):Int:=bif df then w64 (w64 (lost+w64 (bal-w64 (pr+pp)))-rc)else w64 (lost-rc)
def uM (bal:Int) (gU:Bool) (pr pp lt:Int) (df:Bool):Int:=bif df then 0 else bif gU then 0 else bif w64 (bal-w64 (pr+pp))==0 then 0 else lt
def aaK:aA:=⟨W4.tab,177,⟨[.agg [.z0,.z0,.z0,.z0,.bool],.agg [.z0,.z0,.z0,.z0,.z0,.z0,.bool]],[],0⟩,⟨[.agg [.z0,.z0,.z0,.z0,.bool],.agg [.z0,.z0,.z0,.z0]],[],0⟩,[]⟩
def t177 (m:Nat):Int × Int × Int × Int × Bool × Int × Int × Int × Int × Int × Int × Bool->OU0:=fun(a0,a1,a2,a3,a4,a5,a6,a7,a8,a9,a10,a11)=>
 lt ((w64 (a1-(w64 (a6+a7)))):Int) fun x1=>
 bif a11 then
 some ([.i a0,.i 0,.i (w64 ((w64 (a2+x1))-a9)),.i 0,.b true,.i (w64 (a6+a7)),.i a8,.i x1,.i a9])
 else
 bif a4 then
 some ([.i a0,.i x1,.i (w64 (a2-a9)),.i 0,.b a4,.i (w64 (a6+a7)),.i a8,.i 0,.i a9])
 else
 bif x1==0 then
 some ([.i a0,.i x1,.i (w64 (a2-a9)),.i 0,.b a4,.i (w64 (a6+a7)),.i a8,.i 0,.i a9])
 else
 some ([.i a0,.i x1,.i (w64 (a2-a9)),.i a10,.b a4,.i (w64 (a6+a7)),.i a8,.i 0,.i a9])
def f177:Int × Int × Int × Int × Bool × Int × Int × Int × Int × Int × Int × Bool->Bool × List Un:=fun(a0,a1,a2,a3,a4,a5,a6,a7,a8,a9,a10,a11)=>(true,[.i (a0),.i (Ch a1 a6 a7 a11),.i (vJ a1 a2 a6 a7 a9 a11),.i (uM a1 a4 a6 a7 a10 a11),.b ((a11||a4)),.i (w64 (a6+a7)),.i (a8),.i (kY a1 a6 a7 a11),.i (a9)])
theorem QY:ER 177 (mkE aaK.en aaK.ex f177):=ak ae W4.right (fun m=>[]) (t:=t177) (by kernel_rfl) (fun m=>az) (fun m a=>by kernel_rfl) fun(a0,a1,a2,a3,a4,a5,a6,a7,a8,a9,a10,a11) hc=>by
 dsimp only[f177]at⊢;refine⟨0, ?_⟩;unfold t177 Ch vJ uM kY;simp only[lt_eq];cases a11<;>cases a4<;>simp only[zaw,zal,Bool.or_true,Bool.or_false]<;>first|rfl|(cases (w64 (a1-w64 (a6+a7))==0)<;>rfl)
def TA:TB:=W4.ad QY
def gJ (id:Int):Int->LD0->Int
 |_,[]=> -1
 |i,d::l=>if d.i 0=id then i else gJ id (i+1) l
def YA:aA:=⟨TA.tab,200,⟨[.ab (sB 4),.fn 201 [] [.ptr 0 0 0]],[.cells [.z0]],1⟩,⟨[.z0],[.cells [.z0]],1⟩,[]⟩
abbrev Fb:Type:=LD0 × Int × Int × Int
def yN (m:Nat) (k:Fb->OU0):Fb->OU0:=fun(a0,a1,a2,a3)=>
 bif decide (a2<a1)then
 chk (inb a2 a0.length)<|
 chk (decide (a2.toNat<a0.length))<|
 bif ((ai a0 a2.toNat).i 0)==a3 then
 some ([.i a2,.i a3])
 else
 k (a0,a1,(w64 (a2+1)),a3)
 else
 some ([.i (-1),.i a3])
def uj (m:Nat):Nat->Fb->OU0:=aZ (yN m)
theorem wW (m:Nat) (n:Nat):uj m (n+1)=yN m (uj m n):=rfl
def Jm (F:Fb->OU0):aQ:=⟨[.lp [0,1,0,1],.blk 0,.code [1,1]],⟨frm 19 [(0,.ab (sB 4)),(1,.fn 201 [] [.ptr 0 0 0]),(7,.z0),(8,.z0)],[.cells [.z0]],1⟩,onU F⟩
theorem Za (m:Nat):∀n,HO YA (Jm (uj m n)):=an ae TA.right (fun k=>[Jm k]) (fun k h=>(aI h az)) fun k a=>by kernel_rfl
def t200 (m:Nat):LD0 × Int->OU0:=fun(a0,a1)=>
 uj m m (a0,(a0.length:Int),0,a1)
theorem acd (m:Nat) (id:Int):∀(rest pre:LD0) (n:Nat),rest.length<n->(pre++rest).length<1000000->
 uj m n (pre++rest,((pre++rest).length:Int),(pre.length:Int),id)=some [.i (gJ id pre.length rest),.i id]:=by
 intro rest
 induction rest with
 |nil=>
  intro pre n hn hl;obtain⟨n,rfl⟩:=ah n (by simp at hn;omega);rw[wW];unfold yN;dsimp only;simp[ay,gJ]
 |cons x rest ih=>
  intro pre n hn hl;obtain⟨n,rfl⟩:=ah n (by simp at hn;omega);simp only[zac,zab]at hn hl;have:=ih (pre++[x]) n (by omega) (by simp;omega);rw[wW];unfold yN;dsimp only;simp only[LNl,LNi,zad]at this⊢;unfold gJ
  by_cases h1:x.i 0=id
  . simp(disch:=omega) only[TRa,TRi,aa,LNl,LNi,zad,ax];rw[if_pos h1]
  . rw[if_neg h1];simp(disch:=omega) only[TRa,TRi,aa,LNl,LNi,zad,ax];exact this
def f200:LD0 × Int->Bool × List Un:=fun(a0,a1)=>(decide (a0.length<1000000),[.i (gJ a1 0 a0),.i (a1)])
theorem O4:ER 200 (mkE YA.en YA.ex f200):=ak ae TA.right (fun m=>[Jm (uj m m)]) (t:=t200) (by kernel_rfl) (fun m=>(aI (Za m m) az)) (fun m a=>by kernel_rfl) fun(a0,a1) hc=>by
 dsimp only[f200]at hc⊢;have h:=zaj hc;exact⟨a0.length+1,acd _ a1 a0 [] _ (by omega) (by simpa using h)⟩
def UI:TB:=TA.ad O4
def pk (x d:Dat):Dat:= .r [.n (x.i 0),.n (Ch (x.i 1) (d.i 1) (d.i 2) (d.b 6)),.n (vJ (x.i 1) (x.i 2) (d.i 1) (d.i 2) (d.i 4) (d.b 6)),.n (uM (x.i 1) (x.b 4) (d.i 1) (d.i 2) (d.i 5) (d.b 6)),.n (bI (d.b 6||x.b 4))]
structure Pz where
 p:Int
 q:Int
 l:Int
 r:Int
 e:Int
 aN:List Dat
def Ej (x d:Dat):Bool:=BL (x.i 1) (x.i 2) (x.b 4) (d.i 1) (d.i 2) (d.i 3) (d.i 4) (d.i 5) (d.b 6)
def gO:LD0->Int->Int->Int->Int->LD0->Option Pz
 |l,p,q,s,r,[]=>some ⟨p,q,s,r,0,l⟩
 |l,p,q,s,r,d::t=>if gJ (d.i 0) 0 l<0 then none else
  if Ej (ai l (gJ (d.i 0) 0 l).toNat) d=true then
   gO (l.set (gJ (d.i 0) 0 l).toNat (pk (ai l (gJ (d.i 0) 0 l).toNat) d)) (w64 (p+w64 (d.i 1+d.i 2))) (w64 (q+d.i 3)) (w64 (s+kY ((ai l (gJ (d.i 0) 0 l).toNat).i 1) (d.i 1) (d.i 2) (d.b 6))) (w64 (r+d.i 4)) t
  else none
def aK (lines l:LD0):Pz:=if mq lines=true then(gO l 0 0 0 0 lines).getD ⟨0,0,0,0,3,l⟩else⟨0,0,0,0,3,l⟩
theorem FA (id:Int):∀(l:LD0) (i:Int),gJ id i l= -1\/(i<=gJ id i l/\gJ id i l<i+l.length)
 |[],i=> .inl rfl
 |d::l,i=>by
  unfold gJ
  by_cases h:d.i 0=id
  . rw[if_pos h];exact .inr ⟨by omega,by simp;omega⟩
  . rw[if_neg h];rcases FA id l (i+1)with h|⟨h1,h2⟩
    . exact .inl h
    . refine .inr ⟨by omega, ?_⟩;simp only[zac];omega
def Xy:aA:=⟨UI.tab,139,⟨[.ptr 0 0 0,.ab (sB 6)],[.cells [.buf 1 5],.ab (sB 4)],0⟩,⟨[.agg [.z0,.z0,.z0,.z0],.z0],[.cells [.buf 2 5],.gone,.ab (sB 4)],0⟩,[]⟩
abbrev DN:Type:=LD0 × Int × Int × Int × Int × Int × Int × Int × Int × Int × Int × LD0 × LD0
def yw (m:Nat) (k:DN->OU0):DN->OU0:=fun(a0,a1,a2,a3,a4,a5,a6,a7,a8,a9,a10,a11,a12)=>
 bif decide (a2<a1)then
 chk (inb a2 a0.length)<|
 chk (decide (a2.toNat<a0.length))<|
 lt (ai a0 a2.toNat:Dat) fun d1=>
 chk (decide (a12.length<1000000))<|
 bif (decide ((gJ (d1.i 0) 0 a12)<0))then
 some ([.i 0,.i 0,.i 0,.i 0,.i 3,.d a11])
 else
 chk (inb (gJ (d1.i 0) 0 a12) a12.length)<|
 chk (decide ((gJ (d1.i 0) 0 a12).toNat<a12.length))<|
 lt (ai a12 ((gJ (d1.i 0) 0 a12).toNat):Dat) fun d3=>
 bif !(BL (d3.i 1) (d3.i 2) (d3.b 4) (d1.i 1) (d1.i 2) (d1.i 3) (d1.i 4) (d1.i 5) (d1.b 6))then
 some ([.i 0,.i 0,.i 0,.i 0,.i 3,.d a11])
 else
 chk (inb (gJ (d1.i 0) 0 a12) a12.length)<|
 chk (decide ((gJ (d1.i 0) 0 a12).toNat<a12.length))<|
 lt (ai a12 ((gJ (d1.i 0) 0 a12).toNat):Dat) fun d5=>
 chk (inb (gJ (d1.i 0) 0 a12) a12.length)<|
 chk (decide ((gJ (d1.i 0) 0 a12).toNat<a12.length))<|
 k (a0,a1,(w64 (a2+1)),a3,a4,a5,a6,(w64 (a7+(w64 ((d1.i 1)+(d1.i 2))))),(w64 (a8+(d1.i 3))),(w64 (a9+(kY (d5.i 1) (d1.i 1) (d1.i 2) (d1.b 6)))),(w64 (a10+(d1.i 4))),a11,(List.set a12 ((gJ (d1.i 0) 0 a12).toNat) (.r [.n (d5.i 0),.n (Ch (d5.i 1) (d1.i 1) (d1.i 2) (d1.b 6)),.n (vJ (d5.i 1) (d5.i 2) (d1.i 1) (d1.i 2) (d1.i 4) (d1.b 6)),.n (uM (d5.i 1) (d5.b 4) (d1.i 1) (d1.i 2) (d1.i 5) (d1.b 6)),.n (bI ((d1.b 6)||(d5.b 4)))])))
 else
 some ([.i a7,.i a8,.i a9,.i a10,.i 0,.d a12])
def vl (m:Nat):Nat->DN->OU0:=aZ (yw m)
theorem vT (m:Nat) (n:Nat):vl m (n+1)=yw m (vl m n):=rfl
def JA (F:DN->OU0):aQ:=⟨[.lp [0,1,0,1,1,1,1],.blk 0,.code [1,1,1,1,1]],⟨frm 89 [(0,.ptr 0 0 0),(4,.ptr 2 0 0),(6,.ptr 3 0 0),(7,.ptr 4 0 0),(18,.ab (sB 6)),(19,.z0),(20,.z0)],[.cells [.buf 5 5],.gone,.cells [.z0,.z0,.z0,.z0],.cells [.buf 6 5],.cells [.z0,.z0,.z0,.z0],.ab (sB 4),.ab (sB 4)],0⟩,onU F⟩
theorem XQ (m:Nat):∀n,HO Xy (JA (vl m n)):=an ae UI.right (fun k=>[JA k]) (fun k h=>(aI h az)) fun k a=>by kernel_rfl
def t139 (m:Nat):LD0 × LD0->OU0:=fun(a0,a1)=>
 bif !(mq a0)then
 some ([.i 0,.i 0,.i 0,.i 0,.i 3,.d a1])
 else
 chk (decide (a1.length<1000000))<|
 vl m m (a0,(a0.length:Int),0,0,0,0,0,0,0,0,0,a1,a1)
def P3 (l0:LD0) (o:Option Pz):List Un:=match o with|some x=>[.i x.p,.i x.q,.i x.l,.i x.r,.i x.e,.d x.aN]|none=>[.i 0,.i 0,.i 0,.i 0,.i 3,.d l0]
theorem ZI (m:Nat) (l0:LD0):∀(rest pre:LD0) (n:Nat) (p q s r:Int) (l:LD0),rest.length<n->(pre++rest).length<=64->l.length<1000000->
 vl m n (pre++rest,((pre++rest).length:Int),(pre.length:Int),0,0,0,0,p,q,s,r,l0,l)=some (P3 l0 (gO l p q s r rest)):=by
 intro rest
 induction rest with
 |nil=>
  intro pre n p q s r l hn hl hll;obtain⟨n,rfl⟩:=ah n (by simp at hn;omega);rw[vT];unfold yw;dsimp only;simp[ay,gO,P3]
 |cons x rest ih=>
  intro pre n p q s r l hn hl hll;obtain⟨n,rfl⟩:=ah n (by simp at hn;omega);simp only[zac,zab]at hn hl;rw[vT];unfold yw;dsimp only;simp(disch:=omega) only[TRa,TRi,aa,LNl,LNi,zad,ax];unfold gO;rcases FA (x.i 0) l 0 with h1|⟨h1,h2⟩
  . rw[aL (by omega),if_pos (by omega)];rfl
  . rw[ay (by omega),if_neg (by omega)];simp(disch:=omega) only[TRa,TRi,aa,LNl,LNi,zad,ax]
    by_cases h3:Ej (ai l (gJ (x.i 0) 0 l).toNat) x=true
    . rw[if_pos h3];have h4:=h3;unfold Ej at h4;rw[h4];have:=ih (pre++[x]) n (w64 (p+w64 (x.i 1+x.i 2))) (w64 (q+x.i 3)) (w64 (s+kY ((ai l (gJ (x.i 0) 0 l).toNat).i 1) (x.i 1) (x.i 2) (x.b 6))) (w64 (r+x.i 4)) (l.set (gJ (x.i 0) 0 l).toNat (pk (ai l (gJ (x.i 0) 0 l).toNat) x)) (by omega) (by simp;omega) (by simpa using hll)
      try simp(disch:=omega) only[TRa,TRi,aa,LNl,LNi,zad,ax]
      simp only[LNl,LNi,zad]at this⊢;exact this
    . rw[if_neg h3];have h4:=h3;unfold Ej at h4;rw[show BL _ _ _ _ _ _ _ _ _=false from Bool.eq_false_iff.2 h4];rfl
def f139:LD0 × LD0->Bool × List Un:=fun(a0,a1)=>(decide (a1.length<1000000),[.i ((aK a0 a1).p),.i ((aK a0 a1).q),.i ((aK a0 a1).l),.i ((aK a0 a1).r),.i ((aK a0 a1).e),.d ((aK a0 a1).aN)])
theorem Si:ER 139 (mkE Xy.en Xy.ex f139):=ak ae UI.right (fun m=>[JA (vl m m)]) (t:=t139) (by kernel_rfl) (fun m=>(aI (XQ m m) az)) (fun m a=>by kernel_rfl) fun(a0,a1) hc=>by
 dsimp only[f139]at hc⊢;have h:=zaj hc;unfold aK;cases ht:mq a0 with
 |false=>
  refine⟨0, ?_⟩;unfold t139;dsimp only;rw[ht];rfl
 |true=>
  have hl:a0.length<=64:=by
   simp only[mq,zae,zag]at ht;exact ht.1
  refine⟨a0.length+1, ?_⟩;have:=ZI (a0.length+1) a1 a0 [] (a0.length+1) 0 0 0 0 a1 (by omega) (by simpa using hl) h;unfold t139;dsimp only;rw[ht];simp only[zbr,zal,zbh];rw[aJ h];refine this.trans ?_
  cases gO a1 0 0 0 0 a0<;>rfl
def VX:TB:=UI.ad Si
def jk (p q r s t u:LI0) (i:Int) (x:Dat):Dat:=
 let y:=within (bB p i) 0 (x.i 1/4)
 let z:=if within (bB q i) 0 (2*(x.i 1-y))>x.i 1-y then 0 else within (bB q i) 0 (2*(x.i 1-y))
 let w:=within (bB t i) 0 24
 .r [.n (x.i 0),.n y,.n z,.n (within (bB r i) 0 (1+x.i 1/50)),.n (if w64 ((BitVec.ofInt 64 (bB u i)&&&BitVec.ofInt 64 7).toNat)=7 then within (bB s i) 0 (x.i 1-y-z)else 0),.n (if 0<w-12 then w-12 else 0),.n (bI (decide (w64 ((BitVec.ofInt 64 (bB u i)&&&BitVec.ofInt 64 7).toNat)=7)))]
def jY (s lost:LI0) (i:Int) (x:Dat):Dat:=
 .r [.n (x.i 0),.n 0,.n 0,.n 0,.n (if i<(lost.length:Int)/\0<lost.getD i.toNat 0 then within (bB s i) 0 (lost.getD i.toNat 0)else 0),.n 0,.n (bI false)]
def ofL (p q r s t u lost:LI0):Int->LD0->LD0
 |_,[]=>[]
 |i,x::l=>(if w64 ((BitVec.ofInt 64 (bB t i)&&&BitVec.ofInt 64 15).toNat)=15 then[]else if 0<x.i 1 then[jk p q r s t u i x]else[jY s lost i x])++ofL p q r s t u lost (i+1) l
theorem LU (p q r s t u lost:LI0):∀(l:LD0) (i:Int),(ofL p q r s t u lost i l).length<=l.length
 |[],_=>zap _
 |x::l,i=>by
  have:=LU p q r s t u lost l (i+1);unfold ofL
  split
  . simp;omega
  . split<;>(simp;omega)
def N64:aA:=⟨VX.tab,64,⟨[.agg [.ints .i64,.ints .i64,.ints .i64,.ints .i64,.ints .i64,.ints .i64],.ab (sI 2),.ints .i64],[],0⟩,⟨[.buf 0 7],[.ab (sB 6)],0⟩,[]⟩
abbrev MA:Type:=LI0 × LD0 × Int × Int × LI0 × LI0 × LI0 × LI0 × LI0 × LI0 × LD0
def Du (m:Nat) (k:MA->OU0):MA->OU0:=fun(a0,a1,a2,a3,a4,a5,a6,a7,a8,a9,a10)=>
 bif decide (a3<a2)then
 chk (inb a3 a1.length)<|
 chk (decide (a3.toNat<a1.length))<|
 lt (ai a1 a3.toNat:Dat) fun d1=>
 chk (decide (0<=a3))<|
 bif (w64 ((BitVec.ofInt 64 (bB a8 a3)&&&BitVec.ofInt 64 15).toNat))==15 then
 k (a0,a1,a2,(w64 (a3+1)),a4,a5,a6,a7,a8,a9,a10)
 else
 bif decide ((d1.i 1)>0)then
 chk (decide (0<=a3))<|
 bif decide (-2305843009213693952<=0/\0<=(w64 ((d1.i 1).tdiv 4))/\(w64 ((d1.i 1).tdiv 4))<=2305843009213693952)then
 lt ((within (bB a4 a3) 0 (w64 ((d1.i 1).tdiv 4))):Int) fun x3=>
 chk (decide (0<=a3))<|
 lt ((w64 (2*(w64 ((d1.i 1)-x3)))):Int) fun x4=>
 bif decide (-2305843009213693952<=0/\0<=x4/\x4<=2305843009213693952)then
 lt ((within (bB a5 a3) 0 x4):Int) fun x5=>
 bif (decide (x5>(w64 ((d1.i 1)-x3))))then
 chk (decide (0<=a3))<|
 lt ((w64 ((d1.i 1).tdiv 50)):Int) fun x7=>
 bif decide (-2305843009213693952<=0/\0<=(w64 (1+x7))/\(w64 (1+x7))<=2305843009213693952)then
 lt ((within (bB a6 a3) 0 (w64 (1+x7))):Int) fun x8=>
 chk (decide (0<=a3))<|
 lt ((within (bB a8 a3) 0 24):Int) fun x9=>
 lt ((if 0<(w64 (x9-12))then(w64 (x9-12))else 0):Int) fun x10=>
 chk (decide (0<=a3))<|
 bif (w64 ((BitVec.ofInt 64 (bB a9 a3)&&&BitVec.ofInt 64 7).toNat))==7 then
 chk (decide (0<=a3))<|
 lt ((w64 ((w64 ((d1.i 1)-x3))-0)):Int) fun x12=>
 bif decide (-2305843009213693952<=0/\0<=x12/\x12<=2305843009213693952)then
 chk (fits (a10.length+1) 56)<|
 k (a0,a1,a2,(w64 (a3+1)),a4,a5,a6,a7,a8,a9,(a10++([.r [.n (d1.i 0),.n x3,.n 0,.n x8,.n (within (bB a7 a3) 0 x12),.n x10,.n (bI true)]])))
 else
 none
 else
 chk (fits (a10.length+1) 56)<|
 k (a0,a1,a2,(w64 (a3+1)),a4,a5,a6,a7,a8,a9,(a10++([.r [.n (d1.i 0),.n x3,.n 0,.n x8,.n 0,.n x10,.n (bI false)]])))
 else
 none
 else
 chk (decide (0<=a3))<|
 lt ((w64 ((d1.i 1).tdiv 50)):Int) fun x16=>
 bif decide (-2305843009213693952<=0/\0<=(w64 (1+x16))/\(w64 (1+x16))<=2305843009213693952)then
 lt ((within (bB a6 a3) 0 (w64 (1+x16))):Int) fun x17=>
 chk (decide (0<=a3))<|
 lt ((within (bB a8 a3) 0 24):Int) fun x18=>
 lt ((if 0<(w64 (x18-12))then(w64 (x18-12))else 0):Int) fun x19=>
 chk (decide (0<=a3))<|
 bif (w64 ((BitVec.ofInt 64 (bB a9 a3)&&&BitVec.ofInt 64 7).toNat))==7 then
 chk (decide (0<=a3))<|
 lt ((w64 ((w64 ((d1.i 1)-x3))-x5)):Int) fun x21=>
 bif decide (-2305843009213693952<=0/\0<=x21/\x21<=2305843009213693952)then
 chk (fits (a10.length+1) 56)<|
 k (a0,a1,a2,(w64 (a3+1)),a4,a5,a6,a7,a8,a9,(a10++([.r [.n (d1.i 0),.n x3,.n x5,.n x17,.n (within (bB a7 a3) 0 x21),.n x19,.n (bI true)]])))
 else
 none
 else
 chk (fits (a10.length+1) 56)<|
 k (a0,a1,a2,(w64 (a3+1)),a4,a5,a6,a7,a8,a9,(a10++([.r [.n (d1.i 0),.n x3,.n x5,.n x17,.n 0,.n x19,.n (bI false)]])))
 else
 none
 else
 none
 else
 none
 else
 bif (decide (a3<(a0.length:Int)))then
 chk (inb a3 a0.length)<|
 chk (decide (a3.toNat<a0.length))<|
 bif (decide ((a0.getD a3.toNat 0)>0))then
 chk (decide (0<=a3))<|
 chk (inb a3 a0.length)<|
 chk (decide (a3.toNat<a0.length))<|
 bif decide (-2305843009213693952<=0/\0<=(a0.getD a3.toNat 0)/\(a0.getD a3.toNat 0)<=2305843009213693952)then
 chk (fits (a10.length+1) 56)<|
 k (a0,a1,a2,(w64 (a3+1)),a4,a5,a6,a7,a8,a9,(a10++([.r [.n (d1.i 0),.n 0,.n 0,.n 0,.n (within (bB a7 a3) 0 (a0.getD a3.toNat 0)),.n 0,.n (bI false)]])))
 else
 none
 else
 chk (fits (a10.length+1) 56)<|
 k (a0,a1,a2,(w64 (a3+1)),a4,a5,a6,a7,a8,a9,(a10++([.r [.n (d1.i 0),.n 0,.n 0,.n 0,.n 0,.n 0,.n (bI false)]])))
 else
 chk (fits (a10.length+1) 56)<|
 k (a0,a1,a2,(w64 (a3+1)),a4,a5,a6,a7,a8,a9,(a10++([.r [.n (d1.i 0),.n 0,.n 0,.n 0,.n 0,.n 0,.n (bI false)]])))
 else
 some ([.d a10])
def BB (m:Nat):Nat->MA->OU0:=aZ (Du m)
theorem Bb (m:Nat) (n:Nat):BB m (n+1)=Du m (BB m n):=rfl
def OI (F:MA->OU0):aQ:=⟨[.lp [0,1,0,1,1],.blk 0,.code [1,1,1]],⟨frm 126 [(2,.ints .i64),(3,.ptr 0 0 0),(7,.buf 1 7),(11,.ab (sI 2)),(12,.z0),(13,.z0)],[.cells [.ints .i64,.ints .i64,.ints .i64,.ints .i64,.ints .i64,.ints .i64],.ab (sB 6)],0⟩,onU F⟩
theorem acg (m:Nat):∀n,HO N64 (OI (BB m n)):=an ae VX.right (fun k=>[OI k]) (fun k h=>(aI h az)) fun k a=>by kernel_rfl
def t64 (m:Nat):LI0 × LI0 × LI0 × LI0 × LI0 × LI0 × LD0 × LI0->OU0:=fun(a0,a1,a2,a3,a4,a5,a6,a7)=>
 BB m m (a7,a6,(a6.length:Int),0,a0,a1,a2,a3,a4,a5,[])
set_option maxHeartbeats 4000000 in
theorem afa (m:Nat) (p q r s t u lost:LI0) (adZ:∀y∈lost,y<=2305843009213693952):∀(rest pre acc:LD0) (n:Nat),rest.length<n->(pre++rest).length<1000000->acc.length<=pre.length->(∀d∈rest,d.i 1<=1152921504606846976)->
 BB m n (lost,pre++rest,((pre++rest).length:Int),(pre.length:Int),p,q,r,s,t,u,acc)=some [.d (acc++ofL p q r s t u lost pre.length rest)]:=by
 intro rest
 induction rest with
 |nil=>
  intro pre acc n hn hl ha hb;obtain⟨n,rfl⟩:=ah n (by simp at hn;omega);rw[Bb];unfold Du;dsimp only;simp[ay,ofL]
 |cons x rest ih=>
  intro pre acc n hn hl ha hb;obtain⟨n,rfl⟩:=ah n (by simp at hn;omega);simp only[zac,zab]at hn hl;have hx:=hb x (by simp);have K:∀out:LD0,out.length<=acc.length+1->BB m n (lost,pre++x::rest,(pre.length:Int)+((rest.length:Int)+1),(pre.length:Int)+1,p,q,r,s,t,u,out)=some [.d (out++ofL p q r s t u lost ((pre.length:Int)+1) rest)]:=by
   intro out ho;have:=ih (pre++[x]) out n (by omega) (by simp;omega) (by simp;omega) (fun d hd=>hb d (by simp[hd]));simp only[LNl,LNi,zad]at this⊢;exact this
  rw[Bb];unfold Du;dsimp only;unfold ofL;generalize hi:(pre.length:Int)=i at K⊢;have hi0:0<=i/\i<1000000:=by omega
  by_cases h15:w64 ((BitVec.ofInt 64 (bB t i)&&&BitVec.ofInt 64 15).toNat)=15
  . rw[if_pos h15];subst hi;simp(disch:=omega) only[TRa,TRi,aa,LNl,LNi,zad,ax];rw[K _ (by omega)]
  . rw[if_neg h15]
    by_cases hx0:0<x.i 1
    . rw[if_pos hx0];have e4:(x.i 1).tdiv 4=x.i 1/4:=Int.tdiv_eq_ediv_of_nonneg (by omega);have e50:(x.i 1).tdiv 50=x.i 1/50:=Int.tdiv_eq_ediv_of_nonneg (by omega);have k1:0<=within (bB p i) 0 (x.i 1/4)/\within (bB p i) 0 (x.i 1/4)<=x.i 1/4:=aV (by omega);have k2:0<=within (bB t i) 0 24/\within (bB t i) 0 24<=24:=aV (by omega);unfold jk;dsimp only;subst hi;have k3:0<=within (bB q (pre.length:Int)) 0 (2*(x.i 1-within (bB p (pre.length:Int)) 0 (x.i 1/4))):=(aV (by omega)).1
      by_cases hq:within (bB q (pre.length:Int)) 0 (2*(x.i 1-within (bB p (pre.length:Int)) 0 (x.i 1/4)))>x.i 1-within (bB p (pre.length:Int)) 0 (x.i 1/4)<;>
       by_cases h7:w64 ((BitVec.ofInt 64 (bB u (pre.length:Int))&&&BitVec.ofInt 64 7).toNat)=7
      . rw[if_pos hq,if_pos h7,zaa h7];simp(disch:=omega) only[TRa,TRi,aa,LNl,LNi,zad,ax,e4,e50];rw[K _ (by simp)];simp
      . rw[if_pos hq,if_neg h7,zan h7];simp(disch:=omega) only[TRa,TRi,aa,LNl,LNi,zad,ax,e4,e50];rw[K _ (by simp)];simp
      . rw[if_neg hq,if_pos h7,zaa h7];simp(disch:=omega) only[TRa,TRi,aa,LNl,LNi,zad,ax,e4,e50];rw[K _ (by simp)];simp
      . rw[if_neg hq,if_neg h7,zan h7];simp(disch:=omega) only[TRa,TRi,aa,LNl,LNi,zad,ax,e4,e50];rw[K _ (by simp)];simp
    . rw[if_neg hx0];unfold jY;subst hi
      by_cases hlt:(pre.length:Int)<(lost.length:Int)
      . by_cases hp:0<lost.getD pre.length 0
        . have hle:lost.getD pre.length 0<=2305843009213693952:=by
           rw[zaf,zah (by omega)];exact adZ _ (zbw _)
          rw[if_pos ⟨hlt,by simpa using hp⟩];simp(disch:=omega) only[TRa,TRi,aa,LNl,LNi,zad,ax];rw[K _ (by simp)];simp
        . rw[if_neg (fun h=>hp (by simpa using h.2))];simp(disch:=omega) only[TRa,TRi,aa,LNl,LNi,zad,ax];rw[K _ (by simp)];simp
      . rw[if_neg (fun h=>hlt h.1)];simp(disch:=omega) only[TRa,TRi,aa,LNl,LNi,zad,ax];rw[K _ (by simp)];simp
def f64:LI0 × LI0 × LI0 × LI0 × LI0 × LI0 × LD0 × LI0->Bool × List Un:=fun(a0,a1,a2,a3,a4,a5,a6,a7)=>(decide (a6.length<1000000)&&(a6.all (fun d=>decide (d.i 1<=1152921504606846976))&&a7.all fun y=>decide (y<=2305843009213693952)),[.d (ofL a0 a1 a2 a3 a4 a5 a7 0 a6)])
theorem Um:ER 64 (mkE N64.en N64.ex f64):=ak ae VX.right (fun m=>[OI (BB m m)]) (t:=t64) (by kernel_rfl) (fun m=>(aI (acg m m) az)) (fun m a=>by kernel_rfl) fun(a0,a1,a2,a3,a4,a5,a6,a7) hc=>by
 dsimp only[f64]at hc⊢;simp only[zae,zag,zam]at hc;exact⟨a6.length+1,afa _ _ _ _ _ _ _ _ (fun y hy=>hc.2.2 y hy) a6 [] [] _ (by omega) (by simpa using hc.1) (by simp) (fun d hd=>hc.2.1 d hd)⟩
def T64:TB:=VX.ad Um
def N97:aA:=⟨T64.tab,97,⟨[.np 0 0 0],aU 0,9⟩,⟨[.ptr 9 0 0],aU 0++aU 9,9⟩,[]⟩
def t97 (m:Nat):Int × av × aw × aq × LD0 × LD0 × LD0 × LD0 × LD0 × LD0 × LD0->OU0:=fun(a0,a1,a2,a3,a4,a5,a6,a7,a8,a9,a10)=>
 chk (decide (0<=a0))<|
 chk (decide (0<=a0))<|
 chk (decide ((⟨a1,a4,a5,a2,a6,a7,a8⟩:aT).aC.length<1000000/\(⟨a1,a4,a5,a2,a6,a7,a8⟩:aT).notes.length<1000000/\(⟨a1,a4,a5,a2,a6,a7,a8⟩:aT).s0.length<1000000/\(⟨a1,a4,a5,a2,a6,a7,a8⟩:aT).s1.length<1000000/\(⟨a1,a4,a5,a2,a6,a7,a8⟩:aT).s2.length<1000000))<|
 chk (decide (0<=a0))<|
 chk (decide (a9.length<1000000))<|
 chk (decide (0<=a0))<|
 chk (decide (a10.length<1000000))<|
 some (Uns.enc (a1:av)++Uns.enc (a2:aw)++Uns.enc (a3:aq)++[.d a4,.d a5,.d a6,.d a7,.d a8,.d a9,.d a10]++Uns.enc (((⟨a1,a4,a5,a2,a6,a7,a8⟩:aT).a):av)++Uns.enc (((⟨a1,a4,a5,a2,a6,a7,a8⟩:aT).b):aw)++Uns.enc (a3:aq)++[.d ((⟨a1,a4,a5,a2,a6,a7,a8⟩:aT).aC),.d ((⟨a1,a4,a5,a2,a6,a7,a8⟩:aT).notes),.d ((⟨a1,a4,a5,a2,a6,a7,a8⟩:aT).s0),.d ((⟨a1,a4,a5,a2,a6,a7,a8⟩:aT).s1),.d ((⟨a1,a4,a5,a2,a6,a7,a8⟩:aT).s2),.d a9,.d a10])
def f97:Int × av × aw × aq × LD0 × LD0 × LD0 × LD0 × LD0 × LD0 × LD0->Bool × List Un:=fun(a0,a1,a2,a3,a4,a5,a6,a7,a8,a9,a10)=>(decide (0<=a0)&&decide (a4.length<1000000/\a5.length<1000000/\a6.length<1000000/\a7.length<1000000/\a8.length<1000000/\a9.length<1000000/\a10.length<1000000),Uns.enc ((a1):av)++Uns.enc ((a2):aw)++Uns.enc ((a3):aq)++[.d (a4),.d (a5),.d (a6),.d (a7),.d (a8),.d (a9),.d (a10)]++Uns.enc ((a1):av)++Uns.enc ((a2):aw)++Uns.enc ((a3):aq)++[.d (a4),.d (a5),.d (a6),.d (a7),.d (a8),.d (a9),.d (a10)])
theorem UB:ER 97 (mkE N97.en N97.ex f97):=ak ae T64.right (fun m=>[]) (t:=t97) (by kernel_rfl) (fun m=>az) (fun m a=>by kernel_rfl) fun(a0,a1,a2,a3,a4,a5,a6,a7,a8,a9,a10) hc=>by
 dsimp only[f97]at hc⊢;simp only[zae,zag]at hc;obtain⟨h0,h1,h2,h3,h4,h5,h6,h7⟩:=hc;refine⟨0, ?_⟩;unfold t97;dsimp only;simp(disch:=omega) only[lt_eq,aJ,k9]
def T97:TB:=T64.ad UB
def aaZ:aA:=⟨T97.tab,170,⟨[.np 0 0 20,.z0],aU 0,0⟩,⟨[.bool],aU 0,0⟩,[]⟩
def t170 (m:Nat):Int × Int × av × aw × aq × LD0 × LD0 × LD0 × LD0 × LD0 × LD0 × LD0->OU0:=fun(a0,a1,a2,a3,a4,a5,a6,a7,a8,a9,a10,a11)=>
 chk (decide (0<=a0))<|
 lt ((([a4.rin,a1]).getD 0 0):Int) fun x1=>
 bif decide (x1<0)then
 some ([.b false]++Uns.enc (a2:av)++Uns.enc (a3:aw)++Uns.enc (a4:aq)++[.d a5,.d a6,.d a7,.d a8,.d a9,.d a10,.d a11])
 else
 bif (decide (x1>1152921504606846976))then
 some ([.b false]++Uns.enc (a2:av)++Uns.enc (a3:aw)++Uns.enc (a4:aq)++[.d a5,.d a6,.d a7,.d a8,.d a9,.d a10,.d a11])
 else
 lt ((([a4.rin,a1]).getD 1 0):Int) fun x3=>
 bif decide (x3<0)then
 some ([.b false]++Uns.enc (a2:av)++Uns.enc (a3:aw)++Uns.enc (a4:aq)++[.d a5,.d a6,.d a7,.d a8,.d a9,.d a10,.d a11])
 else
 bif decide (x3>(w64 (1152921504606846976-(w64 (0+x1)))))then
 some ([.b false]++Uns.enc (a2:av)++Uns.enc (a3:aw)++Uns.enc (a4:aq)++[.d a5,.d a6,.d a7,.d a8,.d a9,.d a10,.d a11])
 else
 chk (decide (0<=a0))<|
 some ([.b true]++Uns.enc (a2:av)++Uns.enc (a3:aw)++Uns.enc (({a4 with rin:=(w64 ((w64 (0+x1))+x3))}:aq):aq)++[.d a5,.d a6,.d a7,.d a8,.d a9,.d a10,.d a11])
def f170:Int × Int × av × aw × aq × LD0 × LD0 × LD0 × LD0 × LD0 × LD0 × LD0->Bool × List Un:=fun(a0,a1,a2,a3,a4,a5,a6,a7,a8,a9,a10,a11)=>(decide (0<=a0)&&decide ((0:Int)<=a4.rin/\(0:Int)<=a1/\a4.rin+a1<=(1152921504606846976:Int)),[.b (true)]++Uns.enc ((a2):av)++Uns.enc ((a3):aw)++Uns.enc (({a4 with rin:=a4.rin+a1}):aq)++[.d (a5),.d (a6),.d (a7),.d (a8),.d (a9),.d (a10),.d (a11)])
theorem RC:ER 170 (mkE aaZ.en aaZ.ex f170):=ak ae T97.right (fun m=>[]) (t:=t170) (by kernel_rfl) (fun m=>az) (fun m a=>by kernel_rfl) fun(a0,a1,a2,a3,a4,a5,a6,a7,a8,a9,a10,a11) hc=>by
 dsimp only[f170]at hc⊢;simp only[zae,zag]at hc;obtain⟨h0,h1,h2,h3⟩:=hc;refine⟨0, ?_⟩;unfold t170;dsimp only;simp only[lt_eq,zaO,zaE];simp(disch:=omega) only[TRa,TRi,aa,za4]
def VS:TB:=T97.ad RC
def tF:LI0->Int->Int × Bool
 |[],s=>(s,true)
 |x::l,s=>bif (decide (x<0)||decide (x>1152921504606846976-s))then(0,false)else tF l (s+x)
def kE (l:LI0):Int:=(tF l 0).1
def o9 (l:LI0):Bool:=(tF l 0).2
def A1 (l:LI0):Bool:=l.all fun x=>decide (0<=x/\x<=1152921504606846976)
theorem L7:∀(l:LI0) (s b:Int),0<=s->0<=b->(∀x∈l,0<=x/\x<=b)->s+l.length*b<=1152921504606846976->tF l s=(s+l.sum,true)
 |[],s,b,_,_,_,_=>by simp[tF]
 |x::l,s,b,h1,h2,h3,h4=>by
  have hx:=h3 x (by simp);have hm:0<=(l.length:Int)*b:=za9 (by omega) h2;have e:((x::l).length:Int)*b=l.length*b+b:=by rw[zac,zaL,zb2];simp
  rw[e]at h4;have:=L7 l (s+x) b (by omega) h2 (fun y hy=>h3 y (by simp[hy])) (by omega);simp only[tF];rw[show(decide (x<0)||decide (x>1152921504606846976-s))=false by simp;omega,zal,this,zbs]
  congr 1
  omega
theorem uG:∀(l:LI0) (b:Int),0<=b->(∀x∈l,0<=x/\x<=b)->0<=l.sum/\l.sum<=l.length*b
 |[],b,_,_=>by simp
 |x::l,b,h2,h3=>by
  have hx:=h3 x (by simp);have e:((x::l).length:Int)*b=l.length*b+b:=by rw[zac,zaL,zb2];simp
  have:=uG l b h2 (fun y hy=>h3 y (by simp[hy]));rw[e,zbs];omega
theorem yx {l:LI0} {b:Int} (h2:0<=b) (h3:∀x∈l,0<=x/\x<=b) (h4:l.length*b<=1152921504606846976):kE l=l.sum/\o9 l=true:=by
 have:=L7 l 0 b (by omega) h2 h3 (by omega);unfold kE o9;rw[this];simp
def cg (n s:Int) (l:LI0):LI0:=l.map fun c=>n*c/s
def lR (n s:Int) (l:LI0):LI0:=l.map fun c=>n*c%s
theorem Ay {l:LI0}:A1 l=true↔∀x∈l,0<=x/\x<=1152921504606846976:=by simp[A1]
def nf (l:LI0):LI0->Nat->Nat->Nat
 |[],_,b=>b
 |x::r,i,b=>nf l r (i+1) (bif decide (x>l.getD b 0)then i else b)
def fg (l:LI0):Nat:=nf l l 0 0
def jD (z:Int):Nat->LI0->LI0->LI0
 |0,o,_=>o
 |k+1,o,l=>jD z k (o.set (fg l) (o.getD (fg l) 0+1)) (l.set (fg l) z)
def dw (n:Int) (l:LI0):LI0:=
 bif !(o9 l)then List.replicate l.length 0 else
 bif decide (max n 0>=kE l)then l else
 jD 0 (max n 0-(cg (max n 0) (kE l) l).sum).toNat (cg (max n 0) (kE l) l) (lR (max n 0) (kE l) l)
theorem Ge (l:LI0):∀(r:LI0) (i b:Nat),b<l.length->i+r.length<=l.length->nf l r i b<l.length
 |[],_,b,h,_=>h
 |x::r,i,b,h,h2=>by
  simp only[zac]at h2;unfold nf;refine Ge l r (i+1) _ ?_ (by omega);cases decide (x>l.getD b 0)
  . exact h
  . show i<l.length;omega
theorem nM {l:LI0} (h:l≠[]):fg l<l.length:=Ge l l 0 0 (List.length_pos_iff.2 h) (by simp)
theorem GO:∀(l:LI0) (s:Int),0<=s->s<=1152921504606846976->(tF l s).2=true->(∀x∈l,0<=x/\x<=1152921504606846976)/\(tF l s).1=s+l.sum/\s+l.sum<=1152921504606846976
 |[],s,h1,h2,_=>by simp[tF,h2]
 |x::l,s,h1,h2,h3=>by
  simp only[tF]at h3⊢
  by_cases hx:x<0\/x>1152921504606846976-s
  . rw[show(decide (x<0)||decide (x>1152921504606846976-s))=true by simpa using hx]at h3;cases h3
  . rw[show(decide (x<0)||decide (x>1152921504606846976-s))=false by simp;omega]at h3⊢;simp only[zal]at h3⊢;obtain⟨a,b,c⟩:=GO l (s+x) (by omega) (by omega) h3;refine⟨fun y hy=> ?_,by rw[b,zbs];omega,by rw[zbs];omega⟩;rcases zaN.1 hy with rfl|hy
    . omega
    . exact a y hy
theorem nG {l:LI0} (h:o9 l=true):(∀x∈l,0<=x/\x<=1152921504606846976)/\kE l=l.sum/\l.sum<=1152921504606846976:=by
 obtain⟨a,b,c⟩:=GO l 0 (by omega) (by omega) h;exact⟨a,by unfold kE;omega,by omega⟩
theorem fT:∀(l:LI0),(∀x∈l,0<=x)->0<=l.sum
 |[],_=>by simp
 |x::l,h=>by
  have:=h x (by simp);have:=fT l (fun y hy=>h y (by simp[hy]));rw[zbs];omega
theorem At {f g:Int->Int}:∀(l:LI0),(∀x∈l,f x<=g x)->(l.map f).sum<=(l.map g).sum
 |[],_=>by simp
 |x::l,h=>by
  have:=h x (by simp);have:=At l (fun y hy=>h y (by simp[hy]));simp only[zaS,zbs];omega
theorem E8 {n s:Int} {l:LI0} (h1:0<=n) (h2:n<s) (hb:∀x∈l,0<=x/\x<=1152921504606846976):(∀y∈cg n s l,0<=y/\y<=1152921504606846976)/\0<=(cg n s l).sum/\(cg n s l).sum<=l.sum:=by
 have e:∀x∈l,0<=n*x/s/\n*x/s<=x:=fun x hx=>by
  have hx:=hb x hx;refine⟨zbG (za9 h1 hx.1) (by omega), ?_⟩;have:n*x<=s*x:=za6 (by omega) hx.1;exact Int.ediv_le_of_le_mul (by omega) (by rw[zbl x s];exact this)
 have a:∀y∈cg n s l,0<=y/\y<=1152921504606846976:=by
  intro y hy;obtain⟨x,hx,rfl⟩:=za7.1 hy;have:=e x hx;have:=hb x hx;omega
 refine⟨a,fT _ (fun y hy=>(a y hy).1), ?_⟩;have:=At (f:=fun c=>n*c/s) (g:=id) l (fun x hx=>(e x hx).2);simpa[cg]using this
theorem mw {l:LI0} {i:Nat} (h:i<l.length):l.getD i 0∈l:=by
 rw[zaf,zah h];exact zbw h
theorem Cv (z:Int):∀(k:Nat) (o l:LI0),(jD z k o l).length=o.length
 |0,_,_=>rfl
 |k+1,o,l=>by simp[jD,Cv z k]
theorem zE (n:Int) (l:LI0):(dw n l).length=l.length:=by
 unfold dw;cases o9 l
 . simp
 . cases decide (max n 0>=kE l)
   . simp[Cv,cg]
   . simp
theorem yc:∀(l:LI0) (b:Nat) (v:Int),b<l.length->(l.set b v).sum=l.sum-l.getD b 0+v
 |[],b,v,h=>by simp at h
 |x::l,0,v,_=>by simp;omega
 |x::l,b+1,v,h=>by
  have:=yc l b v (by simpa using h);simp only[zbR,zbs,zaE];omega
theorem kL (l:LI0) (b i:Nat) (v:Int) (h:b<l.length):(l.set b v).getD i 0=if i=b then v else l.getD i 0:=by
 simp only[zaf,zbo]
 by_cases e:b=i
 . subst e;simp[h]
 . rw[if_neg e,if_neg (zcn e)]
theorem vH (l:LI0):∀(r pre:LI0) (b:Nat),l=pre++r->b<l.length->(∀j,j<pre.length->l.getD j 0<=l.getD b 0)->(∀j,j<b->l.getD j 0<l.getD b 0)->b<=pre.length->
 (∀j,j<l.length->l.getD j 0<=l.getD (nf l r pre.length b) 0)/\∀j,j<nf l r pre.length b->l.getD j 0<l.getD (nf l r pre.length b) 0
 |[],pre,b,he,hb,h1,h2,_=>by
  have:pre.length=l.length:=by rw[he];simp
  exact⟨fun j hj=>h1 j (by omega),h2⟩
 |x::r,pre,b,he,hb,h1,h2,h3=>by
  have hg:l.getD pre.length 0=x:=by rw[he];simp
  have hl:l.length=pre.length+(r.length+1):=by rw[he];simp
  have hp:(pre++[x]).length=pre.length+1:=by simp
  simp only[nf];rw[<-hp]
  by_cases hx:x>l.getD b 0
  . rw[show decide (x>l.getD b 0)=true from zaa hx,zaw];refine vH l r (pre++[x]) pre.length (by rw[he];simp) (by omega) (fun j hj=> ?_) (fun j hj=> ?_) (by omega)
    . rw[hp]at hj
      by_cases e:j=pre.length
      . subst e;omega
      . have:=h1 j (by omega);omega
    . have:=h1 j hj;omega
  . rw[show decide (x>l.getD b 0)=false from zan hx,zal];refine vH l r (pre++[x]) b (by rw[he];simp) hb (fun j hj=> ?_) h2 (by omega);rw[hp]at hj
    by_cases e:j=pre.length
    . subst e;omega
    . exact h1 j (by omega)
theorem oq {l:LI0} (h:l≠[]):(∀j,j<l.length->l.getD j 0<=l.getD (fg l) 0)/\∀j,j<fg l->l.getD j 0<l.getD (fg l) 0:=
 vH l l [] 0 rfl (List.length_pos_iff.2 h) (fun j hj=>by simp at hj) (fun j hj=>by omega) (by simp)
theorem pD:∀(l:LI0),(∀x∈l,x<=0)->l.sum<=0
 |[],_=>by simp
 |x::l,h=>by
  have:=h x (by simp);have:=pD l (fun y hy=>h y (by simp[hy]));rw[zbs];omega
theorem sS {l:LI0} {x:Int} (h:x∈l):∃j,j<l.length/\l.getD j 0=x:=by
 obtain⟨j,hj,rfl⟩:=List.getElem_of_mem h;exact⟨j,hj,by rw[zaf,zah hj];rfl⟩
theorem CI {s:Int} (hs:0<s):∀(k:Nat) (o l:LI0),o.length=l.length->(∀x∈l,0<=x/\x<s)->s*(k:Int)<=l.sum->
 (jD 0 k o l).sum=o.sum+k/\(∀i,i<l.length->(jD 0 k o l).getD i 0=o.getD i 0\/((jD 0 k o l).getD i 0=o.getD i 0+1/\0<l.getD i 0))/\
 ∀i j,i<j->j<l.length->l.getD j 0<=l.getD i 0->(jD 0 k o l).getD j 0-o.getD j 0<=(jD 0 k o l).getD i 0-o.getD i 0
 |0,o,l,hl,hb,hk=>by simp[jD]
 |k+1,o,l,hl,hb,hk=>by
  have e1:s*((k+1:Nat):Int)=s*k+s:=by rw[zaL,zce];simp
  rw[e1]at hk;have hk0:0<=s*(k:Int):=za9 (by omega) (by omega);have hne:l≠[]:=by rintro rfl;simp at hk;omega
  have hB:=nM hne;obtain⟨hm,hf⟩:=oq hne;have rh:0<l.getD (fg l) 0:=by
   rcases Int.lt_or_le 0 (l.getD (fg l) 0)with h|h
   . exact h
   . have:=pD l (fun x hx=>by
      obtain⟨j,hj,rfl⟩:=sS hx;have:=hm j hj;omega)
     omega
  have KP:=hb _ (mw hB);simp only[jD];generalize hbb:fg l=b at*
  have hs':=yc l b 0 hB;have ho':=yc o b (o.getD b 0+1) (by omega);obtain⟨g1,g2,g3⟩:=CI hs k (o.set b (o.getD b 0+1)) (l.set b 0) (by simp[hl]) (fun x hx=>by
   rcases zbM hx with h|h
   . exact hb x h
   . omega) (by omega)
  generalize jD 0 k (o.set b (o.getD b 0+1)) (l.set b 0)=y at*
  simp only[za1]at g2 g3;refine⟨by rw[g1,ho'];simp only[zaL];omega,fun i hi=> ?_,fun i j hij hj hle=> ?_⟩
  . have:=g2 i hi;rw[kL _ _ _ _ (by omega),kL _ _ _ _ hB]at this
    by_cases e:i=b
    . subst e;simp only[↓reduceIte]at this;right;omega
    . simpa[e]using this
  . have a1:=g2 i (by omega);have a2:=g2 j hj;have a3:=g3 i j hij hj;rw[kL _ _ _ _ (by omega),kL _ _ _ _ hB]at a1 a2;rw[kL _ _ _ _ hB,kL _ _ _ _ hB,kL _ _ _ _ (by omega),kL _ _ _ _ (by omega)]at a3
    by_cases ei:i=b
    . subst ei;have ne:¬j=i:=by omega
      simp only[↓reduceIte,ne]at a1 a2 a3;omega
    . by_cases ej:j=b
      . subst ej;have:=hf i hij;omega
      . simp only[ei,ej,zbp]at a1 a2 a3;exact a3 hle
theorem AK (a s:Int):∀l:LI0,s*(cg a s l).sum+(lR a s l).sum=a*l.sum
 |[]=>by simp[cg,lR]
 |x::l=>by
  have:=AK a s l;have e:=zbm (a*x) s;show s*(a*x/s+(cg a s l).sum)+(a*x%s+(lR a s l).sum)=a*(x+l.sum)
  rw[zce,zce];omega
theorem Cy (f:Int->Int) {l:LI0} {b:Nat} (h:b<l.length):(l.map f).getD b 0=f (l.getD b 0):=by
 simp[zaf,zah h]
theorem NM {a:Int} {l:LI0} (ha:0<=a) (hok:o9 l=true) (hlt:a<l.sum):(dw a l).sum=a/\
 (∀i,i<l.length->(dw a l).getD i 0=a*l.getD i 0/l.sum\/((dw a l).getD i 0=a*l.getD i 0/l.sum+1/\0<a*l.getD i 0%l.sum))/\
 ∀i j,i<j->j<l.length->a*l.getD j 0%l.sum<=a*l.getD i 0%l.sum->(dw a l).getD j 0-a*l.getD j 0/l.sum<=(dw a l).getD i 0-a*l.getD i 0/l.sum:=by
 obtain⟨hb,hs,hs2⟩:=nG hok;have hr:∀x∈lR a l.sum l,0<=x/\x<l.sum:=by
  intro y hy;obtain⟨x,hx,rfl⟩:=za7.1 hy;exact⟨zbz _ (by omega),zbk _ (by omega)⟩
 have aab:=AK a l.sum l;have hr0:=fT _ (fun x hx=>(hr x hx).1);have hk:0<=a-(cg a l.sum l).sum:=by
  have:l.sum*(cg a l.sum l).sum<=l.sum*a:=by rw[zbl l.sum a];omega
  have:=Int.le_of_mul_le_mul_left this (by omega);omega
 have he:dw a l=jD 0 (a-(cg a l.sum l).sum).toNat (cg a l.sum l) (lR a l.sum l):=by
  unfold dw;rw[hok,hs,show max a 0=a by omega,show decide (a>=l.sum)=false from zan (by omega)];rfl
 have hl1:(cg a l.sum l).length=l.length:=by simp[cg]
 have hl2:(lR a l.sum l).length=l.length:=by simp[lR]
 have d:=CI (s:=l.sum) (by omega) (a-(cg a l.sum l).sum).toNat (cg a l.sum l) (lR a l.sum l) (by omega) hr (by
  rw[Int.toNat_of_nonneg hk,Int.mul_sub,zbl l.sum a];omega)
 rw[<-he,hl2]at d;obtain⟨d1,d2,d3⟩:=d;have ef:∀i,i<l.length->(cg a l.sum l).getD i 0=a*l.getD i 0/l.sum:=fun i hi=>Cy _ hi
 have er:∀i,i<l.length->(lR a l.sum l).getD i 0=a*l.getD i 0%l.sum:=fun i hi=>Cy _ hi
 refine⟨by rw[d1,Int.toNat_of_nonneg hk];omega,fun i hi=> ?_,fun i j hij hj hle=> ?_⟩
 . have:=d2 i hi
   rwa [ef i hi,er i hi]at this
 . have:=d3 i j hij hj (by rw[er i (by omega),er j hj];exact hle)
   rwa [ef i (by omega),ef j hj]at this
theorem NF {a:Int} {l:LI0} (hok:o9 l=true) (hge:l.sum<=max a 0):dw a l=l:=by
 obtain⟨hb,hs,hs2⟩:=nG hok;unfold dw;rw[hok,hs,show decide (max a 0>=l.sum)=true from zaa hge];rfl
theorem Wq {a x s:Int} (ha:0<=a) (hlt:a<s) (hx:0<=x):0<=a*x/s/\a*x/s<=x/\(0<a*x%s->a*x/s+1<=x):=by
 have e:=zbm (a*x) s;have hm:a*x<=(s-1)*x:=za6 (by omega) hx;have hsx:(s-1)*x=s*x-x:=by rw[Int.sub_mul,Int.one_mul]
 refine⟨zbG (za9 ha hx) (by omega),Int.ediv_le_of_le_mul (by omega) (by rw[zbl x s];omega),fun h=> ?_⟩;have:s*(a*x/s)<s*x:=by omega
 have:=Int.lt_of_mul_lt_mul_left this (by omega);omega
theorem Hm {a:Int} {l:LI0} (ha:0<=a) (hok:o9 l=true):(dw a l).sum=min a l.sum/\∀i,i<l.length->0<=(dw a l).getD i 0/\(dw a l).getD i 0<=l.getD i 0:=by
 obtain⟨hb,hs,hs2⟩:=nG hok
 by_cases h:l.sum<=a
 . rw[NF hok (by omega)];exact⟨by omega,fun i hi=>⟨(hb _ (mw hi)).1,zcc _⟩⟩
 . obtain⟨h1,h2,_⟩:=NM ha hok (by omega);refine⟨by omega,fun i hi=> ?_⟩;have hx:=hb _ (mw hi);have:=Wq (a:=a) (s:=l.sum) ha (by omega) hx.1;rcases h2 i hi with h|⟨h,h'⟩<;>omega
def bZ:List Bool->LI0->LI0
 |[],_=>[]
 |false::ms,l=>0::bZ ms l
 |true::ms,l=>l.headD 0::bZ ms l.tail
def lK:List Bool->Nat->Nat
 |[],_=>0
 |false::ms,i=>lK ms i+1
 |true::_,0=>0
 |true::ms,i+1=>lK ms i+1
def ca:List Bool->Nat
 |[]=>0
 |false::ms=>ca ms
 |true::ms=>ca ms+1
theorem nH:∀(ms:List Bool) (l:LI0),(bZ ms l).length=ms.length
 |[],_=>rfl
 |false::ms,l=>by simp[bZ,nH ms l]
 |true::ms,l=>by simp[bZ,nH ms l.tail]
theorem ye:∀(ms:List Bool) (i:Nat),i<ca ms->lK ms i<ms.length
 |[],i,h=>by simp[ca]at h
 |false::ms,i,h=>by have:=ye ms i h;simp[lK];omega
 |true::ms,0,_=>by simp[lK]
 |true::ms,i+1,h=>by have:=ye ms i (by simpa[ca]using h);simp[lK];omega
theorem uK:∀(ms:List Bool) (i j:Nat),i<j->j<ca ms->lK ms i<lK ms j
 |[],i,j,_,h=>by simp[ca]at h
 |false::ms,i,j,h,h2=>by have:=uK ms i j h h2;simp[lK];omega
 |true::ms,0,j+1,_,_=>by simp[lK]
 |true::ms,i+1,j+1,h,h2=>by have:=uK ms i j (by omega) (by simpa[ca]using h2);simp[lK];omega
theorem j7:∀(ms:List Bool) (l:LI0) (i:Nat),l.length=ca ms->i<ca ms->(bZ ms l).getD (lK ms i) 0=l.getD i 0
 |[],l,i,_,h=>by simp[ca]at h
 |false::ms,l,i,h,h2=>by simp only[bZ,lK,zaE];exact j7 ms l i h h2
 |true::ms,[],i,h,_=>by simp[ca]at h
 |true::ms,x::l,0,h,_=>by simp[bZ,lK]
 |true::ms,x::l,i+1,h,h2=>by
  simp only[bZ,lK,zaE,List.tail_cons];exact j7 ms l i (by simpa[ca]using h) (by simpa[ca]using h2)
theorem tM:∀(ms:List Bool) (l:LI0) (i:Nat) (v:Int),l.length=ca ms->i<ca ms->(bZ ms l).set (lK ms i) v=bZ ms (l.set i v)
 |[],l,i,v,_,h=>by simp[ca]at h
 |false::ms,l,i,v,h,h2=>by simp only[bZ,lK,zbR];rw[tM ms l i v h h2]
 |true::ms,[],i,v,h,_=>by simp[ca]at h
 |true::ms,x::l,0,v,h,_=>by simp[bZ,lK]
 |true::ms,x::l,i+1,v,h,h2=>by
  simp only[bZ,lK,zbR,List.tail_cons,List.headD_cons];rw[tM ms l i v (by simpa[ca]using h) (by simpa[ca]using h2)]
theorem yI:∀(ms:List Bool) (p:Nat),p<ms.length->(∃i,i<ca ms/\p=lK ms i)\/∀l,(bZ ms l).getD p 0=0
 |[],p,h=>by simp at h
 |false::ms,0,_=> .inr fun l=>by simp[bZ]
 |true::ms,0,_=> .inl ⟨0,by simp[ca],by simp[lK]⟩
 |false::ms,p+1,h=>by
  rcases yI ms p (by simpa using h)with⟨i,h1,h2⟩|h2
  . exact .inl ⟨i,h1,by simp[lK,h2]⟩
  . exact .inr fun l=>by simp only[bZ,zaE];exact h2 l
 |true::ms,p+1,h=>by
  rcases yI ms p (by simpa using h)with⟨i,h1,h2⟩|h2
  . exact .inl ⟨i+1,by simp[ca,h1],by simp[lK,h2]⟩
  . exact .inr fun l=>by simp only[bZ,zaE];exact h2 _
theorem GB {l:LI0} {b:Nat} (hb:b<l.length) (h1:∀j,j<l.length->l.getD j 0<=l.getD b 0) (h2:∀j,j<b->l.getD j 0<l.getD b 0):fg l=b:=by
 have hne:l≠[]:=by rintro rfl;simp at hb
 obtain⟨m1,m2⟩:=oq hne;have hB:=nM hne;rcases Nat.lt_trichotomy (fg l) b with h|h|h
 . have:=h2 _ h;have:=m1 b hb;omega
 . exact h
 . have:=m2 _ h;have:=h1 _ hB;omega
theorem Hd (ms:List Bool) (l:LI0) (hl:l.length=ca ms) (hp:0<l.getD (fg l) 0):fg (bZ ms l)=lK ms (fg l):=by
 have hne:l≠[]:=by rintro rfl;simp at hp
 obtain⟨m1,m2⟩:=oq hne;have hB:=nM hne;rw[hl]at hB;refine GB (by rw[nH];exact ye ms _ hB) (fun j hj=> ?_) (fun j hj=> ?_)
 . rw[j7 ms l _ hl hB];rw[nH]at hj;rcases yI ms j hj with⟨i,h1,rfl⟩|h2
   . rw[j7 ms l i hl h1];exact m1 i (by omega)
   . rw[h2];omega
 . rw[j7 ms l _ hl hB];have hj2:j<ms.length:=Nat.lt_trans hj (ye ms _ hB);rcases yI ms j hj2 with⟨i,h1,rfl⟩|h2
   . rw[j7 ms l i hl h1];refine m2 i ?_
     rcases Nat.lt_trichotomy i (fg l)with h|h|h
     . exact h
     . subst h;omega
     . have:=uK ms _ _ h h1;omega
   . rw[h2];exact hp
theorem CY {s:Int} (hs:0<s) (ms:List Bool):∀(k:Nat) (o l:LI0),o.length=ca ms->l.length=ca ms->(∀x∈l,0<=x/\x<s)->s*(k:Int)<=l.sum->
 jD 0 k (bZ ms o) (bZ ms l)=bZ ms (jD 0 k o l)
 |0,o,l,_,_,_,_=>rfl
 |k+1,o,l,ho,hl,hb,hk=>by
  have e1:s*((k+1:Nat):Int)=s*k+s:=by rw[zaL,zce];simp
  rw[e1]at hk;have hk0:0<=s*(k:Int):=za9 (by omega) (by omega);have hne:l≠[]:=by rintro rfl;simp at hk;omega
  have hB:=nM hne;obtain⟨hm,hf⟩:=oq hne;have rh:0<l.getD (fg l) 0:=by
   rcases Int.lt_or_le 0 (l.getD (fg l) 0)with h|h
   . exact h
   . have:=pD l (fun x hx=>by
      obtain⟨j,hj,rfl⟩:=sS hx;have:=hm j hj;omega)
     omega
  have KP:=hb _ (mw hB);have hs':=yc l (fg l) 0 hB;simp only[jD];rw[Hd ms l hl rh,j7 ms o _ ho (by omega),tM ms o _ _ ho (by omega),tM ms l _ _ hl (by omega)];refine CY hs ms k _ _ (by simpa using ho) (by simpa using hl) (fun x hx=> ?_) (by omega);rcases zbM hx with h|h
  . exact hb x h
  . omega
theorem sZ (f:Int->Int) (h0:f 0=0):∀(ms:List Bool) (l:LI0),(bZ ms l).map f=bZ ms (l.map f)
 |[],_=>rfl
 |false::ms,l=>by simp[bZ,h0,sZ f h0 ms l]
 |true::ms,l=>by
  simp only[bZ,zaS,sZ f h0 ms l.tail];cases l with
  |nil=>simp[h0]
  |cons x l=>simp
theorem pN:∀(ms:List Bool) (l:LI0),l.length=ca ms->(bZ ms l).sum=l.sum
 |[],l,h=>by rw[zaB h];rfl
 |false::ms,l,h=>by simp[bZ,pN ms l h]
 |true::ms,[],h=>by simp[ca]at h
 |true::ms,x::l,h=>by simp[bZ,pN ms l (by simpa[ca]using h)]
theorem A5:∀(ms:List Bool) (l:LI0) (y:Int),y∈bZ ms l->y=0\/y∈l
 |[],_,y,h=>by simp[bZ]at h
 |false::ms,l,y,h=>by
  simp only[bZ,zaN]at h;rcases h with h|h
  . exact .inl h
  . exact A5 ms l y h
 |true::ms,l,y,h=>by
  simp only[bZ,zaN]at h;rcases h with h|h
  . cases l with
    |nil=>exact .inl (by simpa using h)
    |cons x l=>exact .inr (by simp at h;simp[h])
  . rcases A5 ms l.tail y h with h|h
    . exact .inl h
    . exact .inr (List.mem_of_mem_tail h)
theorem N9 (ms:List Bool) (n:Int) (l:LI0) (hl:l.length=ca ms) (b:Int) (hb0:0<=b) (hb:∀x∈l,0<=x/\x<=b) (h4:ms.length*b<=1152921504606846976):
 dw n (bZ ms l)=bZ ms (dw n l):=by
 have hlm:ca ms<=ms.length:=by
  clear hl h4
  induction ms with
  |nil=>simp[ca]
  |cons c ms ih=>cases c<;>simp[ca]<;>omega
 have hlb:(l.length:Int)*b<=ms.length*b:=za6 (by omega) hb0;obtain⟨s1,o1⟩:=yx hb0 hb (by omega);have hb2:∀x∈bZ ms l,0<=x/\x<=b:=fun x hx=>by
  rcases A5 ms l x hx with h|h
  . omega
  . exact hb x h
 obtain⟨s2,o2⟩:=yx hb0 hb2 (by rw[nH];exact h4);rw[pN ms l hl]at s2;obtain⟨hB,_,hs2⟩:=nG o1;have h0:=fT l (fun x hx=>(hb x hx).1);unfold dw;rw[o1,o2,s1,s2];simp only[zbr,zal]
 by_cases h:max n 0>=l.sum
 . rw[zaa h,zaw,zaw]
 . rw[zan h,zal,zal];have ef:cg (max n 0) l.sum (bZ ms l)=bZ ms (cg (max n 0) l.sum l):=sZ (fun c=>max n 0*c/l.sum) (by simp) ms l;have er:lR (max n 0) l.sum (bZ ms l)=bZ ms (lR (max n 0) l.sum l):=sZ (fun c=>max n 0*c%l.sum) (by simp) ms l;have lf:(cg (max n 0) l.sum l).length=ca ms:=by simpa[cg]using hl
   have lr:(lR (max n 0) l.sum l).length=ca ms:=by simpa[lR]using hl
   rw[ef,er,pN ms _ lf];have hr:∀x∈lR (max n 0) l.sum l,0<=x/\x<l.sum:=by
    intro y hy;obtain⟨x,hx,rfl⟩:=za7.1 hy;exact⟨zbz _ (by omega),zbk _ (by omega)⟩
   have aab:=AK (max n 0) l.sum l;have hr0:=fT _ (fun x hx=>(hr x hx).1);have hk:0<=max n 0-(cg (max n 0) l.sum l).sum:=by
    have:l.sum*(cg (max n 0) l.sum l).sum<=l.sum*max n 0:=by rw[zbl l.sum (max n 0)];omega
    have:=Int.le_of_mul_le_mul_left this (by omega);omega
   exact CY (s:=l.sum) (by omega) ms _ _ _ lf lr hr (by rw[Int.toNat_of_nonneg hk,Int.mul_sub,zbl l.sum (max n 0)];omega)
theorem YW {n c p:Int} (h1:0<=n) (h2:n<p) (h3:p<=1152921504606846976) (h4:0<=c) (h5:c<=1152921504606846976):mdV n c p 0=n*c/p/\rX n c p 0=true/\0<=n*c/p/\n*c/p<=c:=by
 have h:n*c/p<=c:=by
  have:n*c<=p*c:=za6 (by omega) h4;exact Int.ediv_le_of_le_mul (by omega) (by rw[zbl c p];exact this)
 have ok:rX n c p 0=true:=by rw[Mn h1 (by omega) h4 h5 (by omega) h3 (by omega) (by omega),Zp];simp;omega
 exact⟨by unfold mdV;rw[ok,Zp];rfl,ok,zbG (za9 h1 h4) (by omega),h⟩
theorem Uq {n c s q:Int} (hq:q=n*c/s) (h1:0<=n) (h2:0<s) (h3:s<=1152921504606846976) (h4:0<=c):
 sU (sU (sU n*sU c)-sU (sU q*sU s))=n*c%s:=by
 show IntKind.u64.wrap (IntKind.u64.wrap (IntKind.u64.wrap n*IntKind.u64.wrap c)-IntKind.u64.wrap (IntKind.u64.wrap q*IntKind.u64.wrap s))=n*c%s;simp only[pA];rw[<-Int.mul_emod,<-Int.mul_emod,<-Int.sub_emod];have e:=zbm (n*c) s;have a:=zbz (n*c) (show s≠0 by omega);have b:=zbk (n*c) h2;rw[<-hq]at e;rw[show n*c-q*s=n*c%s by rw[zbl q s];omega];exact Int.emod_eq_of_lt a (by omega)
theorem Ht {α:Type} (pre done:List α) (x y:α) (rest:List α) (h:done.length=pre.length):List.set (done++x::rest) pre.length y=done++y::rest:=by rw[<-h];simp
def XL:aA:=⟨VS.tab,197,⟨[.ints .i64],[],0⟩,⟨[.z0,.bool],[],0⟩,[]⟩
abbrev FK:Type:=Int × LI0 × Int × Int
def xI (m:Nat) (k:FK->OU0):FK->OU0:=fun(a0,a1,a2,a3)=>
 bif decide (a3<a2)then
 chk (inb a3 a1.length)<|
 chk (decide (a3.toNat<a1.length))<|
 bif (decide ((a1.getD a3.toNat 0)<0))then
 some ([.i 0,.b false])
 else
 bif (decide ((a1.getD a3.toNat 0)>(w64 (1152921504606846976-a0))))then
 some ([.i 0,.b false])
 else
 k ((w64 (a0+(a1.getD a3.toNat 0))),a1,a2,(w64 (a3+1)))
 else
 some ([.i a0,.b true])
def uk (m:Nat):Nat->FK->OU0:=aZ (xI m)
theorem vW (m:Nat) (n:Nat):uk m (n+1)=xI m (uk m n):=rfl
def JP (F:FK->OU0):aQ:=⟨[.lp [0,1,0,1,1],.blk 0,.code [1,1,1]],⟨frm 26 [(4,.z0),(7,.ints .i64),(8,.z0),(9,.z0)],[],0⟩,onU F⟩
theorem ZV (m:Nat):∀n,HO XL (JP (uk m n)):=an ae VS.right (fun k=>[JP k]) (fun k h=>(aI h az)) fun k a=>by kernel_rfl
def t197 (m:Nat):LI0->OU0:=fun a0=>
 uk m m (0,a0,(a0.length:Int),0)
theorem T4 (m:Nat):∀(rest pre:LI0) (s:Int) (n:Nat),rest.length<n->0<=s->s<=1152921504606846976->(pre++rest).length<1099511627776->
 uk m n (s,pre++rest,((pre++rest).length:Int),(pre.length:Int))=some [.i (tF rest s).1,.b (tF rest s).2]:=by
 intro rest
 induction rest with
 |nil=>
  intro pre s n hn h1 h2 h3;obtain⟨n,rfl⟩:=ah n (by simp at hn;omega);rw[vW];unfold xI;dsimp only;simp[ay,tF]
 |cons x rest ih=>
  intro pre s n hn h1 h2 h3;obtain⟨n,rfl⟩:=ah n (by simp at hn;omega);simp only[zab,zac]at h3 hn;rw[vW];unfold xI;dsimp only;simp only[tF]
  by_cases c1:x<0
  . rw[zaa c1,Bool.true_or,zaw];simp(disch:=omega) only[TRa,TRi,aa,LNl,LNi,zad,br]
  . by_cases c2:x>1152921504606846976-s
    . rw[zaa c2,Bool.or_true,zaw];simp(disch:=omega) only[TRa,TRi,aa,LNl,LNi,zad,br]
    . rw[zan c1,zan c2,zcj,zal];have:=ih (pre++[x]) (s+x) n (by omega) (by omega) (by omega) (by simp;omega);simp(disch:=omega) only[TRa,TRi,aa,LNl,LNi,zad,br];simp only[LNl,LNi,zad]at this⊢;exact this
def f197:LI0->Bool × List Un:=fun a0=>(decide (a0.length<1099511627776),[.i (kE a0),.b (o9 a0)])
theorem Rv:ER 197 (mkE XL.en XL.ex f197):=ak ae VS.right (fun m=>[JP (uk m m)]) (t:=t197) (by kernel_rfl) (fun m=>(aI (ZV m m) az)) (fun m a=>by kernel_rfl) fun a0 hc=>by
 dsimp only[f197]at hc⊢;exact⟨a0.length+1,T4 _ a0 [] 0 _ (by omega) (by omega) (by omega) (by simpa using zaj hc)⟩
def VR:TB:=VS.ad Rv
def Zr:aA:=⟨VR.tab,234,⟨[.z0,.z0,.ints .i64],[],0⟩,⟨[.buf 0 1,.buf 1 1],[.ints .i64,.ints .u64],0⟩,[]⟩
abbrev D8:Type:=Int × Int × LI0 × Int × Int × LI0 × LI0
def xP (m:Nat) (k:D8->OU0):D8->OU0:=fun(a0,a1,a2,a3,a4,a5,a6)=>
 bif decide (a4<a3)then
 chk (inb a4 a2.length)<|
 chk (decide (a4.toNat<a2.length))<|
 chk (inb a4 a5.length)<|
 chk (decide (a4.toNat<a5.length))<|
 lt ((List.set a5 a4.toNat (mdV a0 (a2.getD a4.toNat 0) a1 0)):LI0) fun l5=>
 chk (inb a4 l5.length)<|
 chk (decide (a4.toNat<l5.length))<|
 chk (inb a4 a6.length)<|
 chk (decide (a4.toNat<a6.length))<|
 k (a0,a1,a2,a3,(w64 (a4+1)),l5,(List.set a6 a4.toNat (sU ((sU ((sU a0)*(sU (a2.getD a4.toNat 0))))-(sU ((sU (l5.getD a4.toNat 0))*(sU a1)))))))
 else
 some ([.l a5,.l a6])
def uW (m:Nat):Nat->D8->OU0:=aZ (xP m)
theorem wy (m:Nat) (n:Nat):uW m (n+1)=xP m (uW m n):=rfl
def Jr (F:D8->OU0):aQ:=⟨[.lp [0,1,0,1,1],.blk 0,.code [1,1,1]],⟨frm 55 [(0,.z0),(1,.z0),(8,.buf 0 1),(9,.buf 1 1),(18,.ints .i64),(19,.z0),(20,.z0)],[.ints .i64,.ints .u64],0⟩,onU F⟩
theorem Yi (m:Nat):∀n,HO Zr (Jr (uW m n)):=an ae VR.right (fun k=>[Jr k]) (fun k h=>(aI h az)) fun k a=>by kernel_rfl
def t234 (m:Nat):Int × Int × LI0->OU0:=fun(a0,a1,a2)=>
 chk (oR (a2.length:Int) 8)<|
 chk (oR (a2.length:Int) 8)<|
 uW m m (a0,a1,a2,(a2.length:Int),0,(List.replicate a2.length 0),(List.replicate a2.length 0))
theorem X1 (m:Nat) (a s:Int) (h1:0<=a) (h2:a<s) (h3:s<=1152921504606846976):∀(rest pre d1 d2:LI0) (n:Nat),rest.length<n->d1.length=pre.length->d2.length=pre.length->(∀x∈rest,0<=x/\x<=1152921504606846976)->(pre++rest).length<1099511627776->
 uW m n (a,s,pre++rest,((pre++rest).length:Int),(pre.length:Int),d1++List.replicate rest.length 0,d2++List.replicate rest.length 0)=some [.l (d1++cg a s rest),.l (d2++lR a s rest)]:=by
 intro rest
 induction rest with
 |nil=>
  intro pre d1 d2 n hn p1 p2 hb h4;obtain⟨n,rfl⟩:=ah n (by simp at hn;omega);rw[wy];unfold xP;dsimp only;simp[ay,cg,lR]
 |cons x rest ih=>
  intro pre d1 d2 n hn p1 p2 hb h4;obtain⟨n,rfl⟩:=ah n (by simp at hn;omega);simp only[zab,zac]at h4 hn;rw[wy];unfold xP;dsimp only;simp only[zac,zbF];have hx:=hb x (by simp);obtain⟨e1,_,_,_⟩:=YW h1 h2 h3 hx.1 hx.2;have:=ih (pre++[x]) (d1++[a*x/s]) (d2++[a*x%s]) n (by omega) (by simp;omega) (by simp;omega) (fun y hy=>hb y (by simp[hy])) (by simp;omega);have le:=Uq (n:=a) (c:=x) (s:=s) rfl h1 (by omega) h3 hx.1;simp(disch:=omega) only[TRa,TRi,aa,LNl,LNi,zad,br,e1,Ht _ _ _ _ _ p1,vj _ _ _ _ _ p1,Ht _ _ _ _ _ p2];rw[le];simp only[LNl,LNi,zad]at this⊢;refine this.trans ?_
  simp[cg,lR]
def f234:Int × Int × LI0->Bool × List Un:=fun(a0,a1,a2)=>(decide (0<=a0/\a0<a1/\a1<=1152921504606846976/\a2.length<1099511627776)&&A1 a2,[.l (cg a0 a1 a2),.l (lR a0 a1 a2)])
theorem R4:ER 234 (mkE Zr.en Zr.ex f234):=ak ae VR.right (fun m=>[Jr (uW m m)]) (t:=t234) (by kernel_rfl) (fun m=>(aI (Yi m m) az)) (fun m a=>by kernel_rfl) fun(a0,a1,a2) hc=>by
 dsimp only[f234]at hc⊢;simp only[zae,zag,Ay]at hc;obtain⟨⟨h1,h2,h3,h4⟩,hb⟩:=hc;refine⟨a2.length+1, ?_⟩;unfold t234;simp(disch:=omega) only[TRa,TRi,aa];exact X1 (a2.length+1) a0 a1 h1 h2 h3 a2 [] [] [] (a2.length+1) (by omega) rfl rfl hb (by simpa using h4)
def Nw:TB:=VR.ad R4
def Na:aA:=⟨Nw.tab,229,⟨[.z0,.ints .i64],[],0⟩,⟨[.buf 0 1],[.ints .i64],0⟩,[]⟩
abbrev Dv:Type:=Int × Int × Int × Int × LI0 × LI0
abbrev og:Type:=Int × LI0 × LI0
abbrev Ff:Type:=Int × Int × Int × LI0 × LI0
def yH (m:Nat) (k1:og->OU0) (k:Dv->OU0):Dv->OU0:=fun(a0,a1,a2,a3,a4,a5)=>
 bif decide (a3<a2)then
 chk (inb a3 a5.length)<|
 chk (decide (a3.toNat<a5.length))<|
 chk (inb a1 a5.length)<|
 chk (decide (a1.toNat<a5.length))<|
 bif (decide ((a5.getD a3.toNat 0)>(a5.getD a1.toNat 0)))then
 k (a0,a3,a2,(w64 (a3+1)),a4,a5)
 else
 k (a0,a1,a2,(w64 (a3+1)),a4,a5)
 else
 chk (inb a1 a4.length)<|
 chk (decide (a1.toNat<a4.length))<|
 chk (inb a1 a4.length)<|
 chk (decide (a1.toNat<a4.length))<|
 chk (inb a1 a5.length)<|
 chk (decide (a1.toNat<a5.length))<|
 k1 ((w64 (a0-1)),(List.set a4 a1.toNat (w64 ((a4.getD a1.toNat 0)+1))),(List.set a5 a1.toNat 0))
def vn (m:Nat) (k1:og->OU0):Nat->Dv->OU0:=aZ (yH m k1)
theorem wb (m:Nat) (k1:og->OU0) (n:Nat):vn m k1 (n+1)=yH m k1 (vn m k1 n):=rfl
def J4 (F:Dv->OU0):aQ:=⟨[.lp [0,1,0,1,0,0,1,0,0,0,1,1,1,1,1,1,1,1],.blk 4,.code [1,1,0,0,1,0,0,0,1,1,1,1,1,1,1,1],.blk 3,.code [1,1,0,0,0,1,1,1,1,1,1,1,1],.lp [0,0,1,1,1,1,1,1,1,1],.blk 2,.code [1,1,1,1,1,1,1,1,1]],⟨frm 80 [(7,.buf 0 1),(8,.buf 1 1),(9,.z0),(12,.z0),(55,.z0),(56,.z0)],[.ints .i64,.ints .u64],0⟩,onU F⟩
def yh (m:Nat) (k:og->OU0):og->OU0:=fun(a0,a1,a2)=>
 bif decide (a0>0)then
 vn m k m (a0,0,(a2.length:Int),0,a1,a2)
 else
 some ([.l a1])
def pX (m:Nat):Nat->og->OU0:=aZ (yh m)
theorem wU (m:Nat) (n:Nat):pX m (n+1)=yh m (pX m n):=rfl
def Fq (F:og->OU0):aQ:=⟨[.lp [0,0,1,1,1,1,1,1,1,1],.blk 2,.code [1,1,1,1,1,1,1,1,1]],⟨frm 80 [(7,.buf 0 1),(8,.buf 1 1),(9,.z0)],[.ints .i64,.ints .u64],0⟩,onU F⟩
def xL (m:Nat) (k:Ff->OU0):Ff->OU0:=fun(a0,a1,a2,a3,a4)=>
 bif decide (a2<a1)then
 chk (inb a2 a3.length)<|
 chk (decide (a2.toNat<a3.length))<|
 k ((w64 (a0-(a3.getD a2.toNat 0))),a1,(w64 (a2+1)),a3,a4)
 else
 pX m m (a0,a3,a4)
def uv (m:Nat):Nat->Ff->OU0:=aZ (xL m)
theorem xg (m:Nat) (n:Nat):uv m (n+1)=xL m (uv m n):=rfl
def JN (F:Ff->OU0):aQ:=⟨[.lp [0,1,0,1,1,1,1,1,1,1],.blk 0,.code [1,1,1,1,1,1,1,1]],⟨frm 80 [(7,.buf 0 1),(8,.buf 1 1),(9,.z0),(40,.buf 0 1),(41,.z0),(42,.z0)],[.ints .i64,.ints .u64],0⟩,onU F⟩
theorem YJ (m:Nat) (k1:og->OU0) (h1:HO Na (Fq k1)):∀n,HO Na (J4 (vn m k1 n)):=an ae Nw.right (fun k=>[Fq k1,J4 k]) (fun k h=>(aI h1 (aI h az))) fun k a=>by kernel_rfl
theorem Yv (m:Nat):∀n,HO Na (Fq (pX m n)):=an ae Nw.right (fun k=>[J4 (vn m (k) m)]) (fun k h=>(aI (YJ m _ h m) az)) fun k a=>by kernel_rfl
theorem Y2 (m:Nat):∀n,HO Na (JN (uv m n)):=an ae Nw.right (fun k=>[JN k,Fq (pX m m)]) (fun k h=>(aI h (aI (Yv m m) az))) fun k a=>by kernel_rfl
def t229 (m:Nat):Int × LI0->OU0:=fun(a0,a1)=>
 chk (decide (a1.length<1099511627776))<|
 bif !(o9 a1)then
 chk (oR (a1.length:Int) 8)<|
 some ([.l (List.replicate a1.length 0)])
 else
 lt ((if a0<0 then 0 else a0):Int) fun x2=>
 bif decide (x2>=(kE a1))then
 chk (fits (0+a1.length) 8)<|
 some ([.l a1])
 else
 chk (decide (0<=x2/\x2<(kE a1)/\(kE a1)<=1152921504606846976/\a1.length<1099511627776)&&A1 a1)<|
 lt ((cg x2 (kE a1) a1):LI0) fun l3=>
 uv m m (x2,(l3.length:Int),0,l3,(lR x2 (kE a1) a1))
theorem PH (m:Nat) (k1:og->OU0) (left:Int) (out lost:LI0) (h1:0<left) (h2:left<4611686018427387904) (hl:out.length=lost.length) (hs:lost.length<1099511627776)
 (hb:∀x∈out,0<=x/\x<4611686018427387904):∀(rest pre:LI0) (b n:Nat),rest.length<n->lost=pre++rest->b<lost.length->
 vn m k1 n (left,(b:Int),(lost.length:Int),(pre.length:Int),out,lost)=
  k1 (left-1,out.set (nf lost rest pre.length b) (out.getD (nf lost rest pre.length b) 0+1),lost.set (nf lost rest pre.length b) 0):=by
 intro rest
 induction rest with
 |nil=>
  intro pre b n hn he hlt;obtain⟨n,rfl⟩:=ah n (by simp at hn;omega);have hp:pre.length=lost.length:=by rw[he];simp
  have hm:=hb _ (mw (l:=out) (i:=b) (by omega));rw[wb];unfold yH;dsimp only;simp only[nf,zau];simp(disch:=omega) only[TRa,TRi,aa]
 |cons x rest ih=>
  intro pre b n hn he hlt;obtain⟨n,rfl⟩:=ah n (by simp at hn;omega);have hp:lost.length=pre.length+(rest.length+1):=by rw[he];simp
  have hg:lost.getD pre.length 0=x:=by rw[he];simp
  rw[wb];unfold yH;dsimp only;simp only[nf,zau,hg];have i1:=ih (pre++[x]) pre.length n (by simp at hn;omega) (by rw[he];simp) (by omega);have i2:=ih (pre++[x]) b n (by simp at hn;omega) (by rw[he];simp) hlt;simp only[zab,zac,zar,zaL,zaF,zad]at i1 i2
  by_cases c:x>lost.getD b 0
  . simp(disch:=omega) only[TRa,TRi,aa];exact i1
  . simp(disch:=omega) only[TRa,TRi,aa];exact i2
theorem So (m:Nat):∀(k:Nat) (left:Int) (out lost:LI0) (n:Nat),left.toNat=k->k<n->left<4611686018427387904->out.length=lost.length->lost.length<1099511627776->lost.length<m->lost≠[]->(∀x∈out,0<=x/\x+left<4611686018427387904)->
 pX m n (left,out,lost)=some [.l (jD 0 k out lost)]:=by
 intro k
 induction k with
 |zero=>
  intro left out lost n hk hn h2 hl hs hm hne hb;obtain⟨n,rfl⟩:=ah n (by omega);rw[wU];unfold yh;dsimp only;simp only[jD];rw[ay (by omega)]
 |succ k ih=>
  intro left out lost n hk hn h2 hl hs hm hne hb;obtain⟨n,rfl⟩:=ah n (by omega);rw[wU];unfold yh;dsimp only;have hB:=nM hne;rw[aL (by omega)];have:=PH m (pX m n) left out lost (by omega) h2 hl hs (fun x hx=>by have:=hb x hx;omega) lost [] 0 m hm rfl (List.length_pos_iff.2 hne);simp only[zar,Int.natCast_zero]at this;refine this.trans ?_
  have hq:=hb _ (mw (l:=out) (i:=fg lost) (by omega));rw[show nf lost lost 0 0=fg lost from rfl];refine ih _ _ _ _ (by omega) (by omega) (by omega) (by simp[hl]) (by simpa using hs) (by simpa using hm) (by intro h;simp at h;exact hne h) (fun x hx=> ?_);rcases zbM hx with h|h
  . have:=hb x h;omega
  . omega
theorem aav (m:Nat) (lost:LI0):∀(rest pre:LI0) (left:Int) (n:Nat),rest.length<n->(∀x∈rest,0<=x/\x<=1152921504606846976)-> -1152921504606846976<=left-rest.sum->left<=1152921504606846976->(pre++rest).length<1099511627776->
 uv m n (left,((pre++rest).length:Int),(pre.length:Int),pre++rest,lost)=pX m m (left-rest.sum,pre++rest,lost):=by
 intro rest
 induction rest with
 |nil=>
  intro pre left n hn hb h1 h2 h3;obtain⟨n,rfl⟩:=ah n (by simp at hn;omega);rw[xg];unfold xL;dsimp only;simp[ay]
 |cons x rest ih=>
  intro pre left n hn hb h1 h2 h3;obtain⟨n,rfl⟩:=ah n (by simp at hn;omega);simp only[zab,zac]at h3 hn;have hx:=hb x (by simp);have hs:=fT rest (fun y hy=>(hb y (by simp[hy])).1);rw[zbs]at h1⊢;rw[xg];unfold xL;dsimp only;have:=ih (pre++[x]) (left-x) n (by omega) (fun y hy=>hb y (by simp[hy])) (by omega) (by omega) (by simp;omega);rw[show left-(x+rest.sum)=left-x-rest.sum by omega];simp(disch:=omega) only[TRa,TRi,aa,LNl,LNi,zad,br];simp only[LNl,LNi,zad]at this⊢;exact this
def f229:Int × LI0->Bool × List Un:=fun(a0,a1)=>(decide (a0<=9223372036854775807/\a1.length<1099511627776),[.l (dw a0 a1)])
theorem Rm:ER 229 (mkE Na.en Na.ex f229):=ak ae Nw.right (fun m=>[JN (uv m m)]) (t:=t229) (by kernel_rfl) (fun m=>(aI (Y2 m m) az)) (fun m a=>by kernel_rfl) fun(a0,a1) hc=>by
 dsimp only[f229]at hc⊢;obtain⟨h1,h2⟩:=zaj hc;clear hc;refine⟨1152921504606846976+a1.length+2, ?_⟩;unfold t229 dw;dsimp only;rw[aJ h2];cases hok:o9 a1 with
 |false=>
  simp only[Bool.not_false,zaw];simp(disch:=omega) only[TRa,TRi,aa]
 |true=>
  simp only[zbr,zal];obtain⟨hb,hs,hs2⟩:=nG hok;simp only[lt_eq];rw[oY a0 0];generalize hn:max a0 0=a;have ha:0<=a:=by omega
  have hr:A1 a1=true:=Ay.2 hb
  by_cases hge:a>=kE a1
  . simp only[show decide (a>=kE a1)=true by simpa using hge,zaw];simp(disch:=omega) only[TRa,TRi,aa,zaF]
  . simp only[show decide (a>=kE a1)=false by simpa using hge,zal];obtain⟨f1,f2,f3⟩:=E8 (l:=a1) ha (show a<kE a1 by omega) hb;have hlf:(cg a (kE a1) a1).length=a1.length:=by simp[cg]
    have hlr:(lR a (kE a1) a1).length=a1.length:=by simp[lR]
    have hne:a1≠[]:=by rintro rfl;simp at hs;omega
    have e1:=aav (1152921504606846976+a1.length+2) (lR a (kE a1) a1) (cg a (kE a1) a1) [] a (1152921504606846976+a1.length+2) (by omega) f1 (by omega) (by omega) (by simp;omega);have e2:=So (1152921504606846976+a1.length+2) _ (a-(cg a (kE a1) a1).sum) (cg a (kE a1) a1) (lR a (kE a1) a1) (1152921504606846976+a1.length+2) rfl (by omega) (by omega) (by omega) (by omega) (by omega)
     (by intro h;have:=zcm List.length h;rw[hlr]at this;exact hne (zaB this)) (fun x hx=>by have:=f1 x hx;omega)
    rw[hr,zbf];simp(disch:=omega) only[aJ];exact e1.trans e2
def OW:TB:=Nw.ad Rm
@[ext] structure bC where
 aD:Int
 fee:Int
 cf:Int
 ar:Int
 room:Int
instance : Uns bC := Uns.via (B := Int × Int × Int × Int × Int) (fun x => (x.aD, x.fee, x.cf, x.ar, x.room)) (fun x => match x with | (aD, fee, cf, ar, room) => ⟨aD, fee, cf, ar, room⟩) (fun _ => rfl)
def isN:Dat->Bool
 | .n _=>true
 | .r _=>false
def pn (k:Nat):Dat->Bool
 | .r l=>l.length==k&&l.all isN
 | .n _=>false
theorem Jb:∀{d:Dat},isN d=true->d= .n d.int
 | .n _,_=>rfl
 | .r _,h=>by cases h
theorem JE {d:Dat} (h:pn 3 d=true):d= .r [.n (d.i 0),.n (d.i 1),.n (d.i 2)]:=by
 match d,h with
 | .r [a,b,c],h=>
  simp[pn]at h;obtain⟨h1,h2,h3⟩:=h;show Dat.r [a,b,c]= .r [.n a.int,.n b.int,.n c.int];rw[<-Jb h1,<-Jb h2,<-Jb h3]
 | .r [],h=>simp[pn]at h
 | .r [a],h=>simp[pn]at h
 | .r [a,b],h=>simp[pn]at h
 | .r (a::b::c::d::l),h=>simp[pn]at h
def ng (d:Dat):Bool:=pn 3 d&&decide (0<=d.i 1/\d.i 1<=1125899906842624/\0<=d.i 2/\d.i 2<=1125899906842624)
theorem dh {d:Dat} (h:ng d=true):pn 3 d=true/\0<=d.i 1/\d.i 1<=1125899906842624/\0<=d.i 2/\d.i 2<=1125899906842624:=by
 simp only[ng,zae,zag]at h;exact h
def bk (c:LD0):Bool:=decide (c.length<=1000)&&c.all ng
theorem cq {c:LD0} (h:bk c=true):c.length<=1000/\∀d∈c,ng d=true:=by
 simp only[bk,zae,zag,zam]at h;exact h
theorem zm {c:LD0} (h1:c.length<=1000) (h2:∀d∈c,ng d=true):bk c=true:=by
 simp only[bk,zae,zag,zam];exact⟨h1,h2⟩
def cO (j:Nat) (x:Int) (d:Dat):Dat:=if j=1 then .r [.n (d.i 0),.n (d.i 1-x),.n (d.i 2)]else .r [.n (d.i 0),.n (d.i 1),.n (d.i 2-x)]
def cy (j:Nat):LI0->LD0->LD0
 |x::xs,d::c=>cO j x d::cy j xs c
 |_,_=>[]
def cj (at_ kind:Int):Int->LI0->LD0
 |_,[]=>[]
 |i,x::xs=>(if 0<x then[.r [.n at_,.n kind,.n i,.n x]]else[])++cj at_ kind (i+1) xs
def nr (at_ kind n:Int):LD0:=if 0<n then[.r [.n at_,.n kind,.n (-1),.n n]]else[]
def aB (sel:Dat->Bool) (j:Nat) (n:Int) (c:LD0):LI0:=dw n (c.map fun d=>bif sel d then d.i j else 0)
def aR (r:Int) (d:Dat):Bool:=d.i 0==r
def bR (at_ kind:Int):Nat->Int->Int->LD0->LD0 × LD0 × Int
 |0,_,_,c=>(c,[],0)
 |k+1,r,n,c=>
  ((bR at_ kind k (r+1) (n-(aB (aR r) 1 n c).sum) (cy 1 (aB (aR r) 1 n c) c)).1,
   cj at_ kind 0 (aB (aR r) 1 n c)++(bR at_ kind k (r+1) (n-(aB (aR r) 1 n c).sum) (cy 1 (aB (aR r) 1 n c) c)).2.1,
   (aB (aR r) 1 n c).sum+(bR at_ kind k (r+1) (n-(aB (aR r) 1 n c).sum) (cy 1 (aB (aR r) 1 n c) c)).2.2)
def fp (at_ kind rank:Int) (x:bC) (c:LD0):bC × LD0 × LD0:=
 if kind=1 then({x with aD:=x.aD-min x.fee x.aD,fee:=x.fee-min x.fee x.aD},c,nr at_ kind (min x.fee x.aD))
 else if kind=2 then({x with aD:=x.aD-min x.cf x.aD,cf:=x.cf-min x.cf x.aD},c,nr at_ kind (min x.cf x.aD))
 else if kind=6 then({x with aD:=x.aD-min x.room x.aD,room:=x.room-min x.room x.aD},c,nr at_ kind (min x.room x.aD))
 else if kind=3 then({x with aD:=x.aD-(aB (aR rank) 2 x.aD c).sum},cy 2 (aB (aR rank) 2 x.aD c) c,cj at_ kind 0 (aB (aR rank) 2 x.aD c))
 else if kind=4 then({x with aD:=x.aD-(bR at_ kind 8 0 (min x.ar x.aD) c).2.2,ar:=x.ar-(bR at_ kind 8 0 (min x.ar x.aD) c).2.2},(bR at_ kind 8 0 (min x.ar x.aD) c).1,(bR at_ kind 8 0 (min x.ar x.aD) c).2.1)
 else if kind=5 then({x with aD:=x.aD-(aB (fun _=>true) 1 (min x.ar x.aD) c).sum,ar:=x.ar-(aB (fun _=>true) 1 (min x.ar x.aD) c).sum},cy 1 (aB (fun _=>true) 1 (min x.ar x.aD) c) c,cj at_ kind 0 (aB (fun _=>true) 1 (min x.ar x.aD) c))
 else if kind=7 then({x with aD:=x.aD-(bR at_ kind 8 0 x.aD c).2.2},(bR at_ kind 8 0 x.aD c).1,(bR at_ kind 8 0 x.aD c).2.1)
 else(x,c,[])
def fV:Int->LD0->bC->LD0->bC × LD0 × LD0
 |_,[],x,c=>(x,c,[])
 |at_,s::l,x,c=>((fV (at_+1) l (fp at_ (s.i 0) (s.i 1) x c).1 (fp at_ (s.i 0) (s.i 1) x c).2.1).1,(fV (at_+1) l (fp at_ (s.i 0) (s.i 1) x c).1 (fp at_ (s.i 0) (s.i 1) x c).2.1).2.1,(fp at_ (s.i 0) (s.i 1) x c).2.2++(fV (at_+1) l (fp at_ (s.i 0) (s.i 1) x c).1 (fp at_ (s.i 0) (s.i 1) x c).2.1).2.2)
def rV (x:bC):Bool:=decide ((0<=x.aD/\x.aD<=1152921504606846976)/\(0<=x.fee/\x.fee<=1152921504606846976)/\(0<=x.cf/\x.cf<=1152921504606846976)/\(0<=x.ar/\x.ar<=1152921504606846976)/\(0<=x.room/\x.room<=1152921504606846976))
theorem yr {x:bC} (h:rV x=true):(0<=x.aD/\x.aD<=1152921504606846976)/\(0<=x.fee/\x.fee<=1152921504606846976)/\(0<=x.cf/\x.cf<=1152921504606846976)/\(0<=x.ar/\x.ar<=1152921504606846976)/\(0<=x.room/\x.room<=1152921504606846976):=zaj h
def Lh (sel:Dat->Bool) (j:Nat) (c:LD0):Int:=(c.map fun d=>bif sel d then d.i j else 0).sum
theorem pR {c:LD0} (sel:Dat->Bool) {j:Nat} (hj:j=1\/j=2) (h:bk c=true):(∀x∈(c.map fun d=>bif sel d then d.i j else 0),0<=x/\x<=1125899906842624)/\o9 (c.map fun d=>bif sel d then d.i j else 0)=true/\0<=Lh sel j c/\Lh sel j c<=1125899906842624*c.length:=by
 obtain⟨h1,h2⟩:=cq h;have hb:∀x∈(c.map fun d=>bif sel d then d.i j else 0),0<=x/\x<=1125899906842624:=by
  intro x hx;obtain⟨d,hd,rfl⟩:=za7.1 hx;have:=dh (h2 d hd);cases sel d
  . simp only[zal];omega
  . rcases hj with rfl|rfl<;>simp only[zaw]<;>omega
 have hl:(c.map fun d=>bif sel d then d.i j else 0).length=c.length:=by simp
 have hm:((c.map fun d=>bif sel d then d.i j else 0).length:Int)*1125899906842624<=1152921504606846976:=by rw[hl];omega
 have hs:=uG _ 1125899906842624 (by decide) hb;rw[hl]at hs;exact⟨hb,(yx (by decide) hb hm).2,hs.1,by unfold Lh;omega⟩
theorem GP {n:Int} {l:LI0} (h:n<=0):dw n l=dw 0 l:=by
 unfold dw;rw[show max n 0=max 0 0 by omega]
theorem dO {c:LD0} (sel:Dat->Bool) {j:Nat} (hj:j=1\/j=2) (n:Int) (h:bk c=true):(aB sel j n c).length=c.length/\(aB sel j n c).sum=min (max n 0) (Lh sel j c)/\∀i,i<c.length->0<=(aB sel j n c).getD i 0/\(aB sel j n c).getD i 0<=bif sel (ai c i)then(ai c i).i j else 0:=by
 obtain⟨hb,ho,hw0,hw1⟩:=pR sel hj h;have e:aB sel j n c=dw (max n 0) (c.map fun d=>bif sel d then d.i j else 0):=by
  by_cases hn:0<=n
  . rw[show max n 0=n by omega];rfl
  . rw[show max n 0=0 by omega];exact GP (by omega)
 rw[e];obtain⟨h1,h2⟩:=Hm (a:=max n 0) (by omega) ho;refine⟨by rw[zE];simp,h1,fun i hi=> ?_⟩;have:=h2 i (by simpa using hi)
 rwa [show(c.map fun d=>bif sel d then d.i j else 0).getD i 0=bif sel (ai c i)then(ai c i).i j else 0 by simp[zaf,hi,ai]]at this
theorem pE (j:Nat):∀(xs:LI0) (c:LD0),xs.length=c.length->(cy j xs c).length=c.length
 |[],[],_=>rfl
 |x::xs,d::c,h=>by simp[cy,pE j xs c (by simpa using h)]
 |[],_::_,h=>by simp at h
 |_::_,[],h=>by simp at h
theorem pC (j:Nat):∀(xs:LI0) (c:LD0) (i:Nat),xs.length=c.length->i<c.length->ai (cy j xs c) i=cO j (xs.getD i 0) (ai c i)
 |[],[],i,_,h=>by simp at h
 |x::xs,d::c,0,_,_=>rfl
 |x::xs,d::c,i+1,h,hi=>pC j xs c i (by simpa using h) (by simpa using hi)
 |[],_::_,_,h,_=>by simp at h
 |_::_,[],_,h,_=>by simp at h
theorem qd {l:LD0} {d:Dat} (h:d∈l):∃i,i<l.length/\ai l i=d:=by
 obtain⟨i,hi,rfl⟩:=List.getElem_of_mem h;exact⟨i,hi,kQ hi⟩
theorem mW {l:LD0} {i:Nat} (h:i<l.length):ai l i∈l:=by rw[kQ h];exact zbw h
theorem HU {d:Dat} {j:Nat} {x:Int} (hj:j=1\/j=2) (h:ng d=true) (h0:0<=x) (h1:x<=d.i j):ng (cO j x d)=true:=by
 have:=dh h;rcases hj with rfl|rfl
 . simp only[cO,zbh,ng,zae,zag,fL,j8];exact⟨rfl,by omega⟩
 . simp only[cO,show ¬(2:Nat)=1 by decide,zbp,ng,zae,zag,fL,j8];exact⟨rfl,by omega⟩
theorem qL {c:LD0} (sel:Dat->Bool) {j:Nat} (hj:j=1\/j=2) (n:Int) (h:bk c=true):bk (cy j (aB sel j n c) c)=true/\(cy j (aB sel j n c) c).length=c.length:=by
 obtain⟨l1,l2,l3⟩:=dO sel hj n h;obtain⟨h1,h2⟩:=cq h;have hl:=pE j _ c l1;refine⟨zm (by omega) fun d hd=> ?_,hl⟩;obtain⟨i,hi,rfl⟩:=qd hd;rw[hl]at hi;rw[pC j _ c i l1 hi];have:=l3 i hi;have hg:=h2 _ (mW hi);refine HU hj hg this.1 ?_
 have h4:=dh hg;cases hs:sel (ai c i)<;>rw[hs]at this
 . rcases hj with rfl|rfl<;>simp only[zal]at this<;>omega
 . exact this.2
theorem jZ (a k:Int):∀(xs:LI0) (i:Int),(cj a k i xs).length<=xs.length
 |[],i=>by simp[cj]
 |x::xs,i=>by
  have:=jZ a k xs (i+1);simp only[cj,zab,zac]
  split<;>simp<;>omega
theorem AN (a k n:Int):(nr a k n).length<=1:=by unfold nr;split<;>simp
theorem AY (a kd:Int):∀(k:Nat) (r n:Int) (c:LD0),bk c=true->bk (bR a kd k r n c).1=true/\(bR a kd k r n c).1.length=c.length/\(bR a kd k r n c).2.1.length<=k*c.length/\0<=(bR a kd k r n c).2.2/\(bR a kd k r n c).2.2<=max n 0
 |0,r,n,c,h=>⟨h,rfl,by simp[bR],by simp[bR],by simp only[bR];omega⟩
 |k+1,r,n,c,h=>by
  obtain⟨g1,g2⟩:=qL (aR r) (j:=1) (.inl rfl) n h;obtain⟨l1,l2,l3⟩:=dO (aR r) (j:=1) (.inl rfl) n h;obtain⟨_,_,w0,w1⟩:=pR (aR r) (j:=1) (.inl rfl) h;obtain⟨i1,i2,i3,i4,i5⟩:=AY a kd k (r+1) (n-(aB (aR r) 1 n c).sum) _ g1;have hp:=jZ a kd (aB (aR r) 1 n c) 0;simp only[bR];refine⟨i1,by omega, ?_,by omega,by omega⟩;rw[zab,za2];rw[g2]at i3;omega
theorem sY (a kd rk:Int) {x:bC} {c:LD0} (hx:rV x=true) (h:bk c=true):rV (fp a kd rk x c).1=true/\bk (fp a kd rk x c).2.1=true/\(fp a kd rk x c).2.1.length=c.length/\(fp a kd rk x c).2.2.length<=8000:=by
 have hx':=yr hx;have hc:=(cq h).1;have p1:=AN a kd;have s2:=fun sel j hj n=>dO (c:=c) sel (j:=j) hj n h
 have w2:=fun sel j hj=>(pR (c:=c) sel (j:=j) hj h).2.2
 have g2:=fun sel j hj n=>qL (c:=c) sel (j:=j) hj n h
 have r2:=fun n=>AY a kd 8 0 n c h
 unfold fp
 by_cases k1:kd=1
 . rw[if_pos k1];exact⟨zaa (by simp only;omega),h,rfl,by have:=p1 (min x.fee x.aD);simp only;omega⟩
 rw[if_neg k1]
 by_cases k1:kd=2
 . rw[if_pos k1];exact⟨zaa (by simp only;omega),h,rfl,by have:=p1 (min x.cf x.aD);simp only;omega⟩
 rw[if_neg k1]
 by_cases k1:kd=6
 . rw[if_pos k1];exact⟨zaa (by simp only;omega),h,rfl,by have:=p1 (min x.room x.aD);simp only;omega⟩
 rw[if_neg k1]
 by_cases k1:kd=3
 . rw[if_pos k1];have q1:=s2 (aR rk) 2 (.inr rfl) x.aD;have q2:=w2 (aR rk) 2 (.inr rfl);have q3:=g2 (aR rk) 2 (.inr rfl) x.aD;have q4:=jZ a kd (aB (aR rk) 2 x.aD c) 0;exact⟨zaa (by simp only;omega),q3.1,q3.2,by simp only;omega⟩
 rw[if_neg k1]
 by_cases k1:kd=4
 . rw[if_pos k1];have q:=r2 (min x.ar x.aD);generalize bR a kd 8 0 (min x.ar x.aD) c=y at*
   exact⟨zaa (by simp only;omega),q.1,q.2.1,by simp only;omega⟩
 rw[if_neg k1]
 by_cases k1:kd=5
 . rw[if_pos k1];have q1:=s2 (fun _=>true) 1 (.inl rfl) (min x.ar x.aD);have q2:=w2 (fun _=>true) 1 (.inl rfl);have q3:=g2 (fun _=>true) 1 (.inl rfl) (min x.ar x.aD);have q4:=jZ a kd (aB (fun _=>true) 1 (min x.ar x.aD) c) 0;exact⟨zaa (by simp only;omega),q3.1,q3.2,by simp only;omega⟩
 rw[if_neg k1]
 by_cases k1:kd=7
 . rw[if_pos k1];have q:=r2 x.aD;generalize bR a kd 8 0 x.aD c=y at*
   exact⟨zaa (by simp only;omega),q.1,q.2.1,by simp only;omega⟩
 rw[if_neg k1];exact⟨hx,h,rfl,by simp⟩
theorem Mw:∀(l:LD0) (a:Int) (x:bC) (c:LD0),rV x=true->bk c=true->rV (fV a l x c).1=true/\bk (fV a l x c).2.1=true/\(fV a l x c).2.1.length=c.length/\(fV a l x c).2.2.length<=8000*l.length
 |[],a,x,c,hx,h=>⟨hx,h,rfl,by simp[fV]⟩
 |s::l,a,x,c,hx,h=>by
  obtain⟨h1,h2,h3,h4⟩:=sY a (s.i 0) (s.i 1) hx h;obtain⟨i1,i2,i3,i4⟩:=Mw l (a+1) _ _ h1 h2;simp only[fV,zab,zac];exact⟨i1,i2,by omega,by omega⟩
def jx (sel:Dat->Bool):Int->LD0->LI0
 |_,[]=>[]
 |i,d::c=>bif sel d then i::jx sel (i+1) c else jx sel (i+1) c
def eT (sel:Dat->Bool) (j:Nat):LD0->LI0
 |[]=>[]
 |d::c=>bif sel d then d.i j::eT sel j c else eT sel j c
def nD (j:Nat):LI0->LI0->LD0->LD0
 |w::ws,x::xs,c=>nD j ws xs (c.set w.toNat (cO j x (ai c w.toNat)))
 |_,_,c=>c
def xE (at_ kind:Int):LI0->LI0->LD0
 |w::ws,x::xs=>(if 0<x then[.r [.n at_,.n kind,.n w,.n x]]else[])++xE at_ kind ws xs
 |_,_=>[]
theorem NN {j:Nat} {d:Dat} (h:pn 3 d=true):cO j 0 d=d:=by
 have e:=JE h;unfold cO;rw[zbv,zbv,<-e]
 split<;>rfl
theorem qJ (sel:Dat->Bool) (j:Nat):∀(rest pre:LD0) (xs:LI0),xs.length=ca (rest.map sel)->(∀d∈rest,pn 3 d=true)->
 nD j (jx sel pre.length rest) xs (pre++rest)=pre++cy j (bZ (rest.map sel) xs) rest
 |[],pre,xs,h,_=>by rw[zaB h];simp[jx,nD,cy,bZ]
 |d::rest,pre,xs,h,hr=>by
  have ih:=fun xs h y=>qJ sel j rest (pre++[y]) xs h (fun z hz=>hr z (by simp[hz]))
  simp only[zab,zac,zar,zaq,zaC,zat,zaL,zad,zaF]at ih;simp only[zaS]at h;cases hs:sel d
  . rw[hs]at h;simp only[jx,hs,zal,zaS,bZ,cy];rw[NN (hr d (by simp)),<-ih xs h d]
  . rw[hs]at h;cases xs with
    |nil=>simp[ca]at h
    |cons x xs=>
     simp only[jx,hs,zaw,zaS,bZ,cy,nD,zau,DR,ax,List.headD_cons,List.tail_cons];exact ih xs (by simpa[ca]using h) _
theorem tj (a k:Int) (sel:Dat->Bool):∀(rest:LD0) (i:Int) (xs:LI0),xs.length=ca (rest.map sel)->xE a k (jx sel i rest) xs=cj a k i (bZ (rest.map sel) xs)
 |[],i,xs,h=>by rw[zaB h];rfl
 |d::rest,i,xs,h=>by
  have ih:=fun xs h=>tj a k sel rest (i+1) xs h
  simp only[zaS]at h;cases hs:sel d
  . rw[hs]at h;simp only[jx,hs,zal,zaS,bZ,cj];rw[ih xs h];rfl
  . rw[hs]at h;cases xs with
    |nil=>simp[ca]at h
    |cons x xs=>
     simp only[jx,hs,zaw,zaS,bZ,cj,xE,List.headD_cons,List.tail_cons];rw[ih xs (by simpa[ca]using h)]
theorem Da (sel:Dat->Bool) (j:Nat):∀c:LD0,(c.map fun d=>bif sel d then d.i j else 0)=bZ (c.map sel) (eT sel j c)
 |[]=>rfl
 |d::c=>by
  have:=Da sel j c;simp only[zaS,eT];cases hs:sel d<;>simp[bZ,this]
theorem Bc (sel:Dat->Bool) (j:Nat):∀c:LD0,(eT sel j c).length=ca (c.map sel)
 |[]=>rfl
 |d::c=>by
  have:=Bc sel j c;cases hs:sel d<;>simp[eT,hs,ca,this]
theorem tS (sel:Dat->Bool):∀(c:LD0) (i:Int),(jx sel i c).length=ca (c.map sel)
 |[],_=>rfl
 |d::c,i=>by
  have:=tS sel c (i+1);cases hs:sel d<;>simp[jx,hs,ca,this]
theorem nA:∀ms:List Bool,ca ms<=ms.length
 |[]=>zap _
 |false::ms=>by have:=nA ms;simp[ca];omega
 |true::ms=>by have:=nA ms;simp[ca];omega
theorem tv (sel:Dat->Bool):∀(c:LD0) (i:Int),∀w∈jx sel i c,i<=w/\w<i+c.length
 |[],i,w,h=>by simp[jx]at h
 |d::c,i,w,h=>by
  have ih:=tv sel c (i+1) w;simp only[zac,zaL];cases hs:sel d<;>simp only[jx,hs,zal,zaw,zaN]at h
  . have:=ih h;omega
  . rcases h with h|h
    . omega
    . have:=ih h;omega
theorem tI (sel:Dat->Bool) (j:Nat):∀c:LD0,∀x∈eT sel j c,∃d∈c,x=d.i j
 |[],x,h=>by simp[eT]at h
 |d::c,x,h=>by
  cases hs:sel d<;>simp only[eT,hs,zal,zaw,zaN]at h
  . obtain⟨e,h1,h2⟩:=tI sel j c x h;exact⟨e,by simp[h1],h2⟩
  . rcases h with h|h
    . exact⟨d,by simp,h⟩
    . obtain⟨e,h1,h2⟩:=tI sel j c x h;exact⟨e,by simp[h1],h2⟩
theorem mT (sel:Dat->Bool) {j:Nat} (hj:j=1\/j=2) (n:Int) {c:LD0} (h:bk c=true):aB sel j n c=bZ (c.map sel) (dw n (eT sel j c)):=by
 obtain⟨h1,h2⟩:=cq h;unfold aB;rw[Da];refine N9 (c.map sel) n (eT sel j c) (Bc sel j c) 1125899906842624 (by decide) (fun x hx=> ?_) (by simp;omega);obtain⟨d,hd,rfl⟩:=tI sel j c x hx;have:=dh (h2 d hd);rcases hj with rfl|rfl<;>omega
theorem zA (sel:Dat->Bool) {j:Nat} (hj:j=1\/j=2) (n:Int) {c:LD0} (h:bk c=true):(dw n (eT sel j c)).length=ca (c.map sel)/\(∀x∈dw n (eT sel j c),0<=x/\x<=1125899906842624)/\0<=(dw n (eT sel j c)).sum/\(dw n (eT sel j c)).sum<=1125899906842624000/\(dw n (eT sel j c)).sum=(aB sel j n c).sum:=by
 obtain⟨h1,h2⟩:=cq h;have hb:∀x∈eT sel j c,0<=x/\x<=1125899906842624:=fun x hx=>by
  obtain⟨d,hd,rfl⟩:=tI sel j c x hx;have:=dh (h2 d hd);rcases hj with rfl|rfl<;>omega
 have hl:=Bc sel j c;have ht:=nA (c.map sel);rw[zaU]at ht;have hok:=(yx (l:=eT sel j c) (b:=1125899906842624) (by decide) hb (by omega)).2;have e:dw n (eT sel j c)=dw (max n 0) (eT sel j c):=by
  by_cases hn:0<=n
  . rw[show max n 0=n by omega]
  . rw[show max n 0=0 by omega];exact GP (by omega)
 obtain⟨p1,p2⟩:=Hm (a:=max n 0) (by omega) hok;have hm:∀x∈dw n (eT sel j c),0<=x/\x<=1125899906842624:=by
  intro x hx;obtain⟨i,hi,rfl⟩:=sS hx;rw[zE]at hi;rw[e];have:=p2 i hi;have:=hb _ (mw hi);omega
 have hlen:(dw n (eT sel j c)).length=ca (c.map sel):=by rw[zE,hl]
 have hs:=uG _ _ (by decide) hm;rw[hlen]at hs;refine⟨hlen,hm,hs.1,by omega, ?_⟩;rw[mT sel hj n h,pN _ _ hlen]
def TD:aA:=⟨OW.tab,206,⟨[.ptr 0 0 0,.z0,.fn 230 [] [.ptr 3 0 0],.fn 208 [] []],[.cells [.z0,.z0,.z0,.z0,.z0,.buf 1 3,.z0,.z0,.buf 2 4],.ab (sI 3),.ab (sI 4),.cells [.z0]],0⟩,⟨[.z0],[.cells [.z0,.z0,.z0,.z0,.z0,.buf 1 3,.z0,.z0,.buf 4 4],.ab (sI 3),.gone,.gone,.ab (sI 4)],0⟩,[]⟩
abbrev FB:Type:=Int × Int × Int × bC × Int × Int × LD0 × LI0 × LI0 × LD0
abbrev DB:Type:=Int × Int × Int × bC × Int × Int × LD0 × Int × LI0 × LI0 × LD0
def yM (m:Nat) (k:FB->OU0):FB->OU0:=fun(a0,a1,a2,a3,a4,a5,a6,a7,a8,a9)=>
 bif decide (a2<a1)then
 chk (inb a2 a8.length)<|
 chk (decide (a2.toNat<a8.length))<|
 chk (inb a2 a7.length)<|
 chk (decide (a2.toNat<a7.length))<|
 chk (inb (a7.getD a2.toNat 0) a6.length)<|
 chk (decide ((a7.getD a2.toNat 0).toNat<a6.length))<|
 chk (decide ((a7.getD a2.toNat 0).toNat<a6.length))<|
 lt (ai a6 ((a7.getD a2.toNat 0).toNat):Dat) fun d4=>
 lt ((List.set a6 ((a7.getD a2.toNat 0).toNat) (.r [.n (d4.i 0),.n (d4.i 1),.n (w64 (((ai a6 ((a7.getD a2.toNat 0).toNat)).i 2)-(a8.getD a2.toNat 0)))])):LD0) fun l5=>
 lt ((w64 (a0+(a8.getD a2.toNat 0))):Int) fun x6=>
 chk (inb a2 a7.length)<|
 chk (decide (a2.toNat<a7.length))<|
 bif (decide ((a8.getD a2.toNat 0)>0))then
 chk (fits (a9.length+1) 32)<|
 k (x6,a1,(w64 (a2+1)),a3,a4,a5,l5,a7,a8,(a9++([.r [.n a4,.n a5,.n (a7.getD a2.toNat 0),.n (a8.getD a2.toNat 0)]])))
 else
 k (x6,a1,(w64 (a2+1)),a3,a4,a5,l5,a7,a8,a9)
 else
 some ([.i a0]++Uns.enc (({a3 with aD:=(w64 (a3.aD-a0))}:bC):bC)++[.i a4,.i a5,.d a6,.d a9])
def rS (m:Nat):Nat->FB->OU0:=aZ (yM m)
theorem wm (m:Nat) (n:Nat):rS m (n+1)=yM m (rS m n):=rfl
def JO (F:FB->OU0):aQ:=⟨[.lp [0,1,0,1,1,1,1],.blk 2,.code [1,1,1,1,1]],⟨frm 88 [(0,.ptr 0 0 0),(3,.fn 208 [] []),(9,.buf 4 1),(13,.z0),(44,.buf 5 1),(45,.z0),(46,.z0)],[.cells [.z0,.z0,.z0,.z0,.z0,.buf 1 3,.z0,.z0,.buf 6 4],.ab (sI 3),.gone,.gone,.ints .i64,.ints .i64,.ab (sI 4)],0⟩,onU F⟩
def xW (m:Nat) (k:DB->OU0):DB->OU0:=fun(a0,a1,a2,a3,a4,a5,a6,a7,a8,a9,a10)=>
 bif decide (a2<a1)then
 chk (inb a2 a6.length)<|
 chk (decide (a2.toNat<a6.length))<|
 lt (ai a6 a2.toNat:Dat) fun d1=>
 bif (d1.i 0)==a7 then
 chk (fits (a8.length+1) 8)<|
 chk (fits (a9.length+1) 8)<|
 k (a0,a1,(w64 (a2+1)),a3,a4,a5,a6,a7,(a8++([a2])),(a9++([(d1.i 2)])),a10)
 else
 k (a0,a1,(w64 (a2+1)),a3,a4,a5,a6,a7,a8,a9,a10)
 else
 chk (decide (a0<=9223372036854775807/\a9.length<1099511627776))<|
 rS m m (0,((dw a0 a9).length:Int),0,a3,a4,a5,a6,a8,(dw a0 a9),a10)
def uP (m:Nat):Nat->DB->OU0:=aZ (xW m)
theorem wD (m:Nat) (n:Nat):uP m (n+1)=xW m (uP m n):=rfl
def IZ (F:DB->OU0):aQ:=⟨[.lp [0,1,0,1,1],.blk 0,.code [1,1,1]],⟨frm 88 [(0,.ptr 0 0 0),(1,.z0),(2,.fn 230 [] [.ptr 4 0 0]),(3,.fn 208 [] []),(9,.buf 5 1),(10,.buf 6 1),(20,.buf 1 3),(21,.z0),(22,.z0)],[.cells [.z0,.z0,.z0,.z0,.z0,.buf 1 3,.z0,.z0,.buf 7 4],.ab (sI 3),.gone,.gone,.cells [.z0],.ints .i64,.ints .i64,.ab (sI 4)],0⟩,onU F⟩
theorem YF (m:Nat):∀n,HO TD (JO (rS m n)):=an ae OW.right (fun k=>[JO k]) (fun k h=>(aI h az)) fun k a=>by kernel_rfl
theorem Y7 (m:Nat):∀n,HO TD (IZ (uP m n)):=an ae OW.right (fun k=>[IZ k,JO (rS m m)]) (fun k h=>(aI h (aI (YF m m) az))) fun k a=>by kernel_rfl
def ac6 (m:Nat):Int × bC × Int × Int × LD0 × LD0 × Int->OU0:=fun(a0,a1,a2,a3,a4,a5,a6)=>
 uP m m (a0,(a4.length:Int),0,a1,a2,a3,a4,a6,[],[],a5)
theorem VU (m:Nat) (nn:Int) (hnn:nn<=9223372036854775807) (y:bC) (q kd:Int) (rk:Int) (out:LD0):∀(rest pre:LD0) (n:Nat) (who what:LI0),rest.length<n->(pre++rest).length<=1000->who.length<=pre.length->what.length<=pre.length->
 uP m n (nn,((pre++rest).length:Int),(pre.length:Int),y,q,kd,pre++rest,rk,who,what,out)=
  rS m m (0,((dw nn (what++eT (aR rk) 2 rest)).length:Int),0,y,q,kd,pre++rest,who++jx (aR rk) pre.length rest,dw nn (what++eT (aR rk) 2 rest),out):=by
 intro rest
 induction rest with
 |nil=>
  intro pre n who what hn hl h1 h2;obtain⟨n,rfl⟩:=ah n (by simp at hn;omega);rw[wD];unfold xW;dsimp only;simp only[zaH,jx,eT]at hl⊢;rw[ay (by omega),aJ ⟨hnn,by omega⟩]
 |cons x rest ih=>
  intro pre n who what hn hl h1 h2;obtain⟨n,rfl⟩:=ah n (by simp at hn;omega);simp only[zab,zac]at hl hn;rw[wD];unfold xW;dsimp only;simp only[lt_eq]
  by_cases hs:x.i 0=rk
  . have:=ih (pre++[x]) n (who++[(pre.length:Int)]) (what++[x.i 2]) (by omega) (by simp;omega) (by simp;omega) (by simp;omega);simp only[jx,eT,aR,jE hs,zaw]at this⊢;simp(disch:=omega) only[TRa,TRi,aa,LNl,LNi,zad,ax,br];simp only[LNl,LNi,zad]at this⊢;exact this
  . have:=ih (pre++[x]) n who what (by omega) (by simp;omega) (by simp;omega) (by simp;omega);simp only[jx,eT,aR,lG hs,zal]at this⊢;simp(disch:=omega) only[TRa,TRi,aa,LNl,LNi,zad,ax,br];simp only[LNl,LNi,zad]at this⊢;exact this
theorem Tv (m:Nat) (y:bC) (hy:0<=y.aD/\y.aD<=1152921504606846976) (q kd:Int):∀(rest done ws wd:LI0) (c out:LD0) (n:Nat) (paid:Int),rest.length<n->ws.length=rest.length->wd.length=done.length->(done++rest).length<=1000->(∀w∈ws,0<=w/\w<c.length)->(∀x∈rest,0<=x/\x<=1152921504606846976)->0<=paid->paid+rest.sum<=1152921504606846976->(∀i,i<c.length-> -paid<=(ai c i).i 2/\(ai c i).i 2<=1152921504606846976)->c.length<=1000->out.length+rest.length<=137438953472->
 rS m n (paid,((done++rest).length:Int),(done.length:Int),y,q,kd,c,wd++ws,done++rest,out)=
  some ([.i (paid+rest.sum)]++Uns.enc (({y with aD:=y.aD-(paid+rest.sum)}:bC):bC)++[.i q,.i kd,.d (nD 2 ws rest c),.d (out++xE q kd ws rest)]):=by
 intro rest
 induction rest with
 |nil=>
  intro done ws wd c out n paid hn e1 e2 hl hw hx p0 p1 hc cl ol;obtain⟨n,rfl⟩:=ah n (by simp at hn;omega);obtain rfl:=zaB e1;rw[wm];unfold yM;dsimp only;simp only[zaH,nD,xE,List.sum_nil,zb4]at p1⊢;rw[ay (by omega),aa (by omega) (by omega)]
 |cons x rest ih=>
  intro done ws wd c out n paid hn e1 e2 hl hw hx p0 p1 hc cl ol;obtain⟨n,rfl⟩:=ah n (by simp at hn;omega);cases ws with
  |nil=>simp at e1
  |cons w ws=>
  simp only[zab,zac,zbs]at hl hn e1 p1 ol;have hx0:=hx x (by simp);have hw0:=hw w (by simp);have hs0:=fT rest (fun z hz=>(hx z (by simp[hz])).1);obtain⟨v,rfl⟩:∃v:Nat,w=(v:Int):=⟨w.toNat,by omega⟩
  have hr:=hc v (by omega);have gw:(wd++(v:Int)::ws).getD done.length 0=v:=by rw[<-e2];exact br _ _ _ _
  have mJ:∀i,i<(c.set v (cO 2 x (ai c v))).length-> -(paid+x)<=(ai (c.set v (cO 2 x (ai c v))) i).i 2/\(ai (c.set v (cO 2 x (ai c v))) i).i 2<=1152921504606846976:=by
   intro i hi;rw[za1]at hi
   by_cases e:i=v
   . subst e;have e3:ai (c.set i (cO 2 x (ai c i))) i=cO 2 x (ai c i):=by simp[ai,hi]
     rw[e3];simp only[cO,show ¬(2:Nat)=1 by decide,zbp,j8];omega
   . have e3:ai (c.set v (cO 2 x (ai c v))) i=ai c i:=by simp[ai,zbo,zcn e]
     rw[e3];have:=hc i hi;omega
  have:=ih (done++[x]) ws (wd++[(v:Int)]) (c.set v (cO 2 x (ai c v))) (out++if 0<x then[.r [.n q,.n kd,.n v,.n x]]else[]) n (paid+x) (by omega) (by omega) (by simp[e2]) (by simp;omega) (fun z hz=>by have:=hw z (by simp[hz]);simpa using this) (fun z hz=>hx z (by simp[hz])) (by omega) (by omega) mJ (by simpa using cl) (by split<;>simp<;>omega);simp only[nD,xE,zbs,zau];rw[show paid+(x+rest.sum)=paid+x+rest.sum by omega];rw[<-zaq,<-this];rw[wm];unfold yM;dsimp only;have ec:done++[x]++rest=done++x::rest:=by simp
  have ew:wd++[(v:Int)]++ws=wd++(v:Int)::ws:=by simp
  rw[ec,ew];have e5:(cO 2 x (ai c v))=Dat.r [.n ((ai c v).i 0),.n ((ai c v).i 1),.n ((ai c v).i 2-x)]:=by simp only[cO,show ¬(2:Nat)=1 by decide,zbp]
  rw[e5];simp only[lt_eq,zau,gw,br,zab,zac,zar,zaF,zaL,zad]
  by_cases h0:0<x
  . rw[if_pos h0];simp(disch:=omega) only[TRa,TRi,aa,zaL]
  . rw[if_neg h0];simp(disch:=omega) only[TRa,TRi,aa,zaL,zaH]
def abE:Int × bC × Int × Int × LD0 × LD0 × Int->Bool × List Un:=fun(a0,a1,a2,a3,a4,a5,a6)=>(decide (a0<=9223372036854775807/\0<=a1.aD/\a1.aD<=1152921504606846976/\a5.length<=68719476736)&&bk a4,[.i ((aB (aR a6) 2 a0 a4).sum)]++Uns.enc (({a1 with aD:=a1.aD-(aB (aR a6) 2 a0 a4).sum}):bC)++[.i (a2),.i (a3),.d (cy 2 (aB (aR a6) 2 a0 a4) a4),.d (a5++cj a2 a3 0 (aB (aR a6) 2 a0 a4))])
theorem RD:ER 206 (mkE TD.en TD.ex abE):=ak ae OW.right (fun m=>[IZ (uP m m)]) (t:=ac6) (by kernel_rfl) (fun m=>(aI (Y7 m m) az)) (fun m a=>by kernel_rfl) fun(a0,a1,a2,a3,a4,a5,a6) hc=>by
 dsimp only[abE]at hc⊢;simp only[zae,zag]at hc;obtain⟨⟨h1,h2,h3,h4⟩,h5⟩:=hc;obtain⟨c1,c2⟩:=cq h5;obtain⟨p1,p2,p3,p4,p5⟩:=zA (aR a6) (j:=2) (.inr rfl) a0 h5;refine⟨2000, ?_⟩;unfold ac6;refine(VU 2000 a0 h1 a1 a2 a3 a6 a5 a4 [] 2000 [] [] (by omega) (by simpa using c1) (by simp) (by simp)).trans ?_
 simp only[zat,zar];have ht:=nA (a4.map (aR a6));rw[zaU]at ht;have e:=Tv 2000 a1 ⟨h2,h3⟩ a2 a3 (dw a0 (eT (aR a6) 2 a4)) [] (jx (aR a6) 0 a4) [] a4 a5 2000 0 (by omega) (by rw[p1,tS]) rfl (by simp;omega) (fun w hw=>by have:=tv _ _ _ w hw;omega) (fun x hx=>by have:=p2 x hx;omega) (by omega) (by omega) (fun i hi=>by have:=dh (c2 _ (mW hi));omega) c1 (by omega);refine e.trans ?_
 have g1:=qJ (aR a6) 2 a4 [] (dw a0 (eT (aR a6) 2 a4)) p1 (fun d hd=>(dh (c2 d hd)).1);have g2:=tj a2 a3 (aR a6) a4 0 (dw a0 (eT (aR a6) 2 a4)) p1;simp only[zat,zar,zad]at g1 g2;rw[g1,g2,za4,p5,mT (aR a6) (j:=2) (.inr rfl) a0 h5]
def Qb:TB:=OW.ad RD
def U0:aA:=⟨Qb.tab,206,⟨[.ptr 0 0 0,.z0,.fn 230 [] [.ptr 3 0 0],.fn 211 [] []],[.cells [.z0,.z0,.z0,.z0,.z0,.buf 1 3,.z0,.z0,.buf 2 4],.ab (sI 3),.ab (sI 4),.cells [.z0]],0⟩,⟨[.z0],[.cells [.z0,.z0,.z0,.z0,.z0,.buf 1 3,.z0,.z0,.buf 4 4],.ab (sI 3),.gone,.gone,.ab (sI 4)],0⟩,[]⟩
abbrev Er:Type:=Int × Int × Int × bC × Int × Int × LD0 × LI0 × LI0 × LD0
abbrev DY:Type:=Int × Int × Int × bC × Int × Int × LD0 × Int × LI0 × LI0 × LD0
def yj (m:Nat) (k:Er->OU0):Er->OU0:=fun(a0,a1,a2,a3,a4,a5,a6,a7,a8,a9)=>
 bif decide (a2<a1)then
 chk (inb a2 a8.length)<|
 chk (decide (a2.toNat<a8.length))<|
 chk (inb a2 a7.length)<|
 chk (decide (a2.toNat<a7.length))<|
 chk (inb (a7.getD a2.toNat 0) a6.length)<|
 chk (decide ((a7.getD a2.toNat 0).toNat<a6.length))<|
 chk (decide ((a7.getD a2.toNat 0).toNat<a6.length))<|
 lt (ai a6 ((a7.getD a2.toNat 0).toNat):Dat) fun d4=>
 lt ((List.set a6 ((a7.getD a2.toNat 0).toNat) (.r [.n (d4.i 0),.n (w64 (((ai a6 ((a7.getD a2.toNat 0).toNat)).i 1)-(a8.getD a2.toNat 0))),.n (d4.i 2)])):LD0) fun l5=>
 lt ((w64 (a0+(a8.getD a2.toNat 0))):Int) fun x6=>
 chk (inb a2 a7.length)<|
 chk (decide (a2.toNat<a7.length))<|
 bif (decide ((a8.getD a2.toNat 0)>0))then
 chk (fits (a9.length+1) 32)<|
 k (x6,a1,(w64 (a2+1)),a3,a4,a5,l5,a7,a8,(a9++([.r [.n a4,.n a5,.n (a7.getD a2.toNat 0),.n (a8.getD a2.toNat 0)]])))
 else
 k (x6,a1,(w64 (a2+1)),a3,a4,a5,l5,a7,a8,a9)
 else
 some ([.i a0]++Uns.enc (({a3 with aD:=(w64 (a3.aD-a0))}:bC):bC)++[.i a4,.i a5,.d a6,.d a9])
def si (m:Nat):Nat->Er->OU0:=aZ (yj m)
theorem w8 (m:Nat) (n:Nat):si m (n+1)=yj m (si m n):=rfl
def Jd (F:Er->OU0):aQ:=⟨[.lp [0,1,0,1,1,1,1],.blk 2,.code [1,1,1,1,1]],⟨frm 88 [(0,.ptr 0 0 0),(3,.fn 211 [] []),(9,.buf 4 1),(13,.z0),(44,.buf 5 1),(45,.z0),(46,.z0)],[.cells [.z0,.z0,.z0,.z0,.z0,.buf 1 3,.z0,.z0,.buf 6 4],.ab (sI 3),.gone,.gone,.ints .i64,.ints .i64,.ab (sI 4)],0⟩,onU F⟩
def xY (m:Nat) (k:DY->OU0):DY->OU0:=fun(a0,a1,a2,a3,a4,a5,a6,a7,a8,a9,a10)=>
 bif decide (a2<a1)then
 chk (inb a2 a6.length)<|
 chk (decide (a2.toNat<a6.length))<|
 lt (ai a6 a2.toNat:Dat) fun d1=>
 bif (d1.i 0)==a7 then
 chk (fits (a8.length+1) 8)<|
 chk (fits (a9.length+1) 8)<|
 k (a0,a1,(w64 (a2+1)),a3,a4,a5,a6,a7,(a8++([a2])),(a9++([(d1.i 1)])),a10)
 else
 k (a0,a1,(w64 (a2+1)),a3,a4,a5,a6,a7,a8,a9,a10)
 else
 chk (decide (a0<=9223372036854775807/\a9.length<1099511627776))<|
 si m m (0,((dw a0 a9).length:Int),0,a3,a4,a5,a6,a8,(dw a0 a9),a10)
def uN (m:Nat):Nat->DY->OU0:=aZ (xY m)
theorem wv (m:Nat) (n:Nat):uN m (n+1)=xY m (uN m n):=rfl
def Ir (F:DY->OU0):aQ:=⟨[.lp [0,1,0,1,1],.blk 0,.code [1,1,1]],⟨frm 88 [(0,.ptr 0 0 0),(1,.z0),(2,.fn 230 [] [.ptr 4 0 0]),(3,.fn 211 [] []),(9,.buf 5 1),(10,.buf 6 1),(20,.buf 1 3),(21,.z0),(22,.z0)],[.cells [.z0,.z0,.z0,.z0,.z0,.buf 1 3,.z0,.z0,.buf 7 4],.ab (sI 3),.gone,.gone,.cells [.z0],.ints .i64,.ints .i64,.ab (sI 4)],0⟩,onU F⟩
theorem Xf (m:Nat):∀n,HO U0 (Jd (si m n)):=an ae Qb.right (fun k=>[Jd k]) (fun k h=>(aI h az)) fun k a=>by kernel_rfl
theorem Xw (m:Nat):∀n,HO U0 (Ir (uN m n)):=an ae Qb.right (fun k=>[Ir k,Jd (si m m)]) (fun k h=>(aI h (aI (Xf m m) az))) fun k a=>by kernel_rfl
def aa8 (m:Nat):Int × bC × Int × Int × LD0 × LD0 × Int->OU0:=fun(a0,a1,a2,a3,a4,a5,a6)=>
 uN m m (a0,(a4.length:Int),0,a1,a2,a3,a4,a6,[],[],a5)
theorem Tu (m:Nat) (nn:Int) (hnn:nn<=9223372036854775807) (y:bC) (q kd:Int) (rk:Int) (out:LD0):∀(rest pre:LD0) (n:Nat) (who what:LI0),rest.length<n->(pre++rest).length<=1000->who.length<=pre.length->what.length<=pre.length->
 uN m n (nn,((pre++rest).length:Int),(pre.length:Int),y,q,kd,pre++rest,rk,who,what,out)=
  si m m (0,((dw nn (what++eT (aR rk) 1 rest)).length:Int),0,y,q,kd,pre++rest,who++jx (aR rk) pre.length rest,dw nn (what++eT (aR rk) 1 rest),out):=by
 intro rest
 induction rest with
 |nil=>
  intro pre n who what hn hl h1 h2;obtain⟨n,rfl⟩:=ah n (by simp at hn;omega);rw[wv];unfold xY;dsimp only;simp only[zaH,jx,eT]at hl⊢;rw[ay (by omega),aJ ⟨hnn,by omega⟩]
 |cons x rest ih=>
  intro pre n who what hn hl h1 h2;obtain⟨n,rfl⟩:=ah n (by simp at hn;omega);simp only[zab,zac]at hl hn;rw[wv];unfold xY;dsimp only;simp only[lt_eq]
  by_cases hs:x.i 0=rk
  . have:=ih (pre++[x]) n (who++[(pre.length:Int)]) (what++[x.i 1]) (by omega) (by simp;omega) (by simp;omega) (by simp;omega);simp only[jx,eT,aR,jE hs,zaw]at this⊢;simp(disch:=omega) only[TRa,TRi,aa,LNl,LNi,zad,ax,br];simp only[LNl,LNi,zad]at this⊢;exact this
  . have:=ih (pre++[x]) n who what (by omega) (by simp;omega) (by simp;omega) (by simp;omega);simp only[jx,eT,aR,lG hs,zal]at this⊢;simp(disch:=omega) only[TRa,TRi,aa,LNl,LNi,zad,ax,br];simp only[LNl,LNi,zad]at this⊢;exact this
theorem UH (m:Nat) (y:bC) (hy:0<=y.aD/\y.aD<=1152921504606846976) (q kd:Int):∀(rest done ws wd:LI0) (c out:LD0) (n:Nat) (paid:Int),rest.length<n->ws.length=rest.length->wd.length=done.length->(done++rest).length<=1000->(∀w∈ws,0<=w/\w<c.length)->(∀x∈rest,0<=x/\x<=1152921504606846976)->0<=paid->paid+rest.sum<=1152921504606846976->(∀i,i<c.length-> -paid<=(ai c i).i 1/\(ai c i).i 1<=1152921504606846976)->c.length<=1000->out.length+rest.length<=137438953472->
 si m n (paid,((done++rest).length:Int),(done.length:Int),y,q,kd,c,wd++ws,done++rest,out)=
  some ([.i (paid+rest.sum)]++Uns.enc (({y with aD:=y.aD-(paid+rest.sum)}:bC):bC)++[.i q,.i kd,.d (nD 1 ws rest c),.d (out++xE q kd ws rest)]):=by
 intro rest
 induction rest with
 |nil=>
  intro done ws wd c out n paid hn e1 e2 hl hw hx p0 p1 hc cl ol;obtain⟨n,rfl⟩:=ah n (by simp at hn;omega);obtain rfl:=zaB e1;rw[w8];unfold yj;dsimp only;simp only[zaH,nD,xE,List.sum_nil,zb4]at p1⊢;rw[ay (by omega),aa (by omega) (by omega)]
 |cons x rest ih=>
  intro done ws wd c out n paid hn e1 e2 hl hw hx p0 p1 hc cl ol;obtain⟨n,rfl⟩:=ah n (by simp at hn;omega);cases ws with
  |nil=>simp at e1
  |cons w ws=>
  simp only[zab,zac,zbs]at hl hn e1 p1 ol;have hx0:=hx x (by simp);have hw0:=hw w (by simp);have hs0:=fT rest (fun z hz=>(hx z (by simp[hz])).1);obtain⟨v,rfl⟩:∃v:Nat,w=(v:Int):=⟨w.toNat,by omega⟩
  have hr:=hc v (by omega);have gw:(wd++(v:Int)::ws).getD done.length 0=v:=by rw[<-e2];exact br _ _ _ _
  have mJ:∀i,i<(c.set v (cO 1 x (ai c v))).length-> -(paid+x)<=(ai (c.set v (cO 1 x (ai c v))) i).i 1/\(ai (c.set v (cO 1 x (ai c v))) i).i 1<=1152921504606846976:=by
   intro i hi;rw[za1]at hi
   by_cases e:i=v
   . subst e;have e3:ai (c.set i (cO 1 x (ai c i))) i=cO 1 x (ai c i):=by simp[ai,hi]
     rw[e3];simp only[cO,zbh,fL];omega
   . have e3:ai (c.set v (cO 1 x (ai c v))) i=ai c i:=by simp[ai,zbo,zcn e]
     rw[e3];have:=hc i hi;omega
  have:=ih (done++[x]) ws (wd++[(v:Int)]) (c.set v (cO 1 x (ai c v))) (out++if 0<x then[.r [.n q,.n kd,.n v,.n x]]else[]) n (paid+x) (by omega) (by omega) (by simp[e2]) (by simp;omega) (fun z hz=>by have:=hw z (by simp[hz]);simpa using this) (fun z hz=>hx z (by simp[hz])) (by omega) (by omega) mJ (by simpa using cl) (by split<;>simp<;>omega);simp only[nD,xE,zbs,zau];rw[show paid+(x+rest.sum)=paid+x+rest.sum by omega];rw[<-zaq,<-this];rw[w8];unfold yj;dsimp only;have ec:done++[x]++rest=done++x::rest:=by simp
  have ew:wd++[(v:Int)]++ws=wd++(v:Int)::ws:=by simp
  rw[ec,ew];have e5:(cO 1 x (ai c v))=Dat.r [.n ((ai c v).i 0),.n ((ai c v).i 1-x),.n ((ai c v).i 2)]:=by simp only[cO,zbh]
  rw[e5];simp only[lt_eq,zau,gw,br,zab,zac,zar,zaF,zaL,zad]
  by_cases h0:0<x
  . rw[if_pos h0];simp(disch:=omega) only[TRa,TRi,aa,zaL]
  . rw[if_neg h0];simp(disch:=omega) only[TRa,TRi,aa,zaL,zaH]
def abB:Int × bC × Int × Int × LD0 × LD0 × Int->Bool × List Un:=fun(a0,a1,a2,a3,a4,a5,a6)=>(decide (a0<=9223372036854775807/\0<=a1.aD/\a1.aD<=1152921504606846976/\a5.length<=68719476736)&&bk a4,[.i ((aB (aR a6) 1 a0 a4).sum)]++Uns.enc (({a1 with aD:=a1.aD-(aB (aR a6) 1 a0 a4).sum}):bC)++[.i (a2),.i (a3),.d (cy 1 (aB (aR a6) 1 a0 a4) a4),.d (a5++cj a2 a3 0 (aB (aR a6) 1 a0 a4))])
theorem RV:ER 206 (mkE U0.en U0.ex abB):=ak ae Qb.right (fun m=>[Ir (uN m m)]) (t:=aa8) (by kernel_rfl) (fun m=>(aI (Xw m m) az)) (fun m a=>by kernel_rfl) fun(a0,a1,a2,a3,a4,a5,a6) hc=>by
 dsimp only[abB]at hc⊢;simp only[zae,zag]at hc;obtain⟨⟨h1,h2,h3,h4⟩,h5⟩:=hc;obtain⟨c1,c2⟩:=cq h5;obtain⟨p1,p2,p3,p4,p5⟩:=zA (aR a6) (j:=1) (.inl rfl) a0 h5;refine⟨2000, ?_⟩;unfold aa8;refine(Tu 2000 a0 h1 a1 a2 a3 a6 a5 a4 [] 2000 [] [] (by omega) (by simpa using c1) (by simp) (by simp)).trans ?_
 simp only[zat,zar];have ht:=nA (a4.map (aR a6));rw[zaU]at ht;have e:=UH 2000 a1 ⟨h2,h3⟩ a2 a3 (dw a0 (eT (aR a6) 1 a4)) [] (jx (aR a6) 0 a4) [] a4 a5 2000 0 (by omega) (by rw[p1,tS]) rfl (by simp;omega) (fun w hw=>by have:=tv _ _ _ w hw;omega) (fun x hx=>by have:=p2 x hx;omega) (by omega) (by omega) (fun i hi=>by have:=dh (c2 _ (mW hi));omega) c1 (by omega);refine e.trans ?_
 have g1:=qJ (aR a6) 1 a4 [] (dw a0 (eT (aR a6) 1 a4)) p1 (fun d hd=>(dh (c2 d hd)).1);have g2:=tj a2 a3 (aR a6) a4 0 (dw a0 (eT (aR a6) 1 a4)) p1;simp only[zat,zar,zad]at g1 g2;rw[g1,g2,za4,p5,mT (aR a6) (j:=1) (.inl rfl) a0 h5]
def SC:TB:=Qb.ad RV
def VY:aA:=⟨SC.tab,206,⟨[.ptr 0 0 0,.z0,.fn 210 [] [],.fn 211 [] []],[.cells [.z0,.z0,.z0,.z0,.z0,.buf 1 3,.z0,.z0,.buf 2 4],.ab (sI 3),.ab (sI 4)],0⟩,⟨[.z0],[.cells [.z0,.z0,.z0,.z0,.z0,.buf 1 3,.z0,.z0,.buf 3 4],.ab (sI 3),.gone,.ab (sI 4)],0⟩,[]⟩
abbrev Dy:Type:=Int × Int × Int × bC × Int × Int × LD0 × LI0 × LI0 × LD0
abbrev E4:Type:=Int × Int × Int × bC × Int × Int × LD0 × LI0 × LI0 × LD0
def yq (m:Nat) (k:Dy->OU0):Dy->OU0:=fun(a0,a1,a2,a3,a4,a5,a6,a7,a8,a9)=>
 bif decide (a2<a1)then
 chk (inb a2 a8.length)<|
 chk (decide (a2.toNat<a8.length))<|
 chk (inb a2 a7.length)<|
 chk (decide (a2.toNat<a7.length))<|
 chk (inb (a7.getD a2.toNat 0) a6.length)<|
 chk (decide ((a7.getD a2.toNat 0).toNat<a6.length))<|
 chk (decide ((a7.getD a2.toNat 0).toNat<a6.length))<|
 lt (ai a6 ((a7.getD a2.toNat 0).toNat):Dat) fun d4=>
 lt ((List.set a6 ((a7.getD a2.toNat 0).toNat) (.r [.n (d4.i 0),.n (w64 (((ai a6 ((a7.getD a2.toNat 0).toNat)).i 1)-(a8.getD a2.toNat 0))),.n (d4.i 2)])):LD0) fun l5=>
 lt ((w64 (a0+(a8.getD a2.toNat 0))):Int) fun x6=>
 chk (inb a2 a7.length)<|
 chk (decide (a2.toNat<a7.length))<|
 bif (decide ((a8.getD a2.toNat 0)>0))then
 chk (fits (a9.length+1) 32)<|
 k (x6,a1,(w64 (a2+1)),a3,a4,a5,l5,a7,a8,(a9++([.r [.n a4,.n a5,.n (a7.getD a2.toNat 0),.n (a8.getD a2.toNat 0)]])))
 else
 k (x6,a1,(w64 (a2+1)),a3,a4,a5,l5,a7,a8,a9)
 else
 some ([.i a0]++Uns.enc (({a3 with aD:=(w64 (a3.aD-a0))}:bC):bC)++[.i a4,.i a5,.d a6,.d a9])
def so (m:Nat):Nat->Dy->OU0:=aZ (yq m)
theorem vX (m:Nat) (n:Nat):so m (n+1)=yq m (so m n):=rfl
def Kz (F:Dy->OU0):aQ:=⟨[.lp [0,1,0,1,1,1,1],.blk 2,.code [1,1,1,1,1]],⟨frm 88 [(0,.ptr 0 0 0),(3,.fn 211 [] []),(9,.buf 3 1),(13,.z0),(44,.buf 4 1),(45,.z0),(46,.z0)],[.cells [.z0,.z0,.z0,.z0,.z0,.buf 1 3,.z0,.z0,.buf 5 4],.ab (sI 3),.gone,.ints .i64,.ints .i64,.ab (sI 4)],0⟩,onU F⟩
def xV (m:Nat) (k:E4->OU0):E4->OU0:=fun(a0,a1,a2,a3,a4,a5,a6,a7,a8,a9)=>
 bif decide (a2<a1)then
 chk (inb a2 a6.length)<|
 chk (decide (a2.toNat<a6.length))<|
 chk (fits (a7.length+1) 8)<|
 chk (fits (a8.length+1) 8)<|
 k (a0,a1,(w64 (a2+1)),a3,a4,a5,a6,(a7++([a2])),(a8++([((ai a6 a2.toNat).i 1)])),a9)
 else
 chk (decide (a0<=9223372036854775807/\a8.length<1099511627776))<|
 so m m (0,((dw a0 a8).length:Int),0,a3,a4,a5,a6,a7,(dw a0 a8),a9)
def vz (m:Nat):Nat->E4->OU0:=aZ (xV m)
theorem vS (m:Nat) (n:Nat):vz m (n+1)=xV m (vz m n):=rfl
def Jk (F:E4->OU0):aQ:=⟨[.lp [0,1,0,1,1],.blk 0,.code [1,1,1]],⟨frm 88 [(0,.ptr 0 0 0),(1,.z0),(2,.fn 210 [] []),(3,.fn 211 [] []),(9,.buf 3 1),(10,.buf 4 1),(20,.buf 1 3),(21,.z0),(22,.z0)],[.cells [.z0,.z0,.z0,.z0,.z0,.buf 1 3,.z0,.z0,.buf 5 4],.ab (sI 3),.gone,.ints .i64,.ints .i64,.ab (sI 4)],0⟩,onU F⟩
theorem YL (m:Nat):∀n,HO VY (Kz (so m n)):=an ae SC.right (fun k=>[Kz k]) (fun k h=>(aI h az)) fun k a=>by kernel_rfl
theorem ZK (m:Nat):∀n,HO VY (Jk (vz m n)):=an ae SC.right (fun k=>[Jk k,Kz (so m m)]) (fun k h=>(aI h (aI (YL m m) az))) fun k a=>by kernel_rfl
def acH (m:Nat):Int × bC × Int × Int × LD0 × LD0->OU0:=fun(a0,a1,a2,a3,a4,a5)=>
 vz m m (a0,(a4.length:Int),0,a1,a2,a3,a4,[],[],a5)
theorem UA (m:Nat) (nn:Int) (hnn:nn<=9223372036854775807) (y:bC) (q kd:Int) (out:LD0):∀(rest pre:LD0) (n:Nat) (who what:LI0),rest.length<n->(pre++rest).length<=1000->who.length<=pre.length->what.length<=pre.length->
 vz m n (nn,((pre++rest).length:Int),(pre.length:Int),y,q,kd,pre++rest,who,what,out)=
  so m m (0,((dw nn (what++eT (fun _=>true) 1 rest)).length:Int),0,y,q,kd,pre++rest,who++jx (fun _=>true) pre.length rest,dw nn (what++eT (fun _=>true) 1 rest),out):=by
 intro rest
 induction rest with
 |nil=>
  intro pre n who what hn hl h1 h2;obtain⟨n,rfl⟩:=ah n (by simp at hn;omega);rw[vS];unfold xV;dsimp only;simp only[zaH,jx,eT]at hl⊢;rw[ay (by omega),aJ ⟨hnn,by omega⟩]
 |cons x rest ih=>
  intro pre n who what hn hl h1 h2;obtain⟨n,rfl⟩:=ah n (by simp at hn;omega);simp only[zab,zac]at hl hn;rw[vS];unfold xV;dsimp only;have:=ih (pre++[x]) n (who++[(pre.length:Int)]) (what++[x.i 1]) (by omega) (by simp;omega) (by simp;omega) (by simp;omega);simp only[jx,eT,zaw]at this⊢;simp(disch:=omega) only[TRa,TRi,aa,LNl,LNi,zad,ax,br];simp only[LNl,LNi,zad]at this⊢;exact this
theorem Uc (m:Nat) (y:bC) (hy:0<=y.aD/\y.aD<=1152921504606846976) (q kd:Int):∀(rest done ws wd:LI0) (c out:LD0) (n:Nat) (paid:Int),rest.length<n->ws.length=rest.length->wd.length=done.length->(done++rest).length<=1000->(∀w∈ws,0<=w/\w<c.length)->(∀x∈rest,0<=x/\x<=1152921504606846976)->0<=paid->paid+rest.sum<=1152921504606846976->(∀i,i<c.length-> -paid<=(ai c i).i 1/\(ai c i).i 1<=1152921504606846976)->c.length<=1000->out.length+rest.length<=137438953472->
 so m n (paid,((done++rest).length:Int),(done.length:Int),y,q,kd,c,wd++ws,done++rest,out)=
  some ([.i (paid+rest.sum)]++Uns.enc (({y with aD:=y.aD-(paid+rest.sum)}:bC):bC)++[.i q,.i kd,.d (nD 1 ws rest c),.d (out++xE q kd ws rest)]):=by
 intro rest
 induction rest with
 |nil=>
  intro done ws wd c out n paid hn e1 e2 hl hw hx p0 p1 hc cl ol;obtain⟨n,rfl⟩:=ah n (by simp at hn;omega);obtain rfl:=zaB e1;rw[vX];unfold yq;dsimp only;simp only[zaH,nD,xE,List.sum_nil,zb4]at p1⊢;rw[ay (by omega),aa (by omega) (by omega)]
 |cons x rest ih=>
  intro done ws wd c out n paid hn e1 e2 hl hw hx p0 p1 hc cl ol;obtain⟨n,rfl⟩:=ah n (by simp at hn;omega);cases ws with
  |nil=>simp at e1
  |cons w ws=>
  simp only[zab,zac,zbs]at hl hn e1 p1 ol;have hx0:=hx x (by simp);have hw0:=hw w (by simp);have hs0:=fT rest (fun z hz=>(hx z (by simp[hz])).1);obtain⟨v,rfl⟩:∃v:Nat,w=(v:Int):=⟨w.toNat,by omega⟩
  have hr:=hc v (by omega);have gw:(wd++(v:Int)::ws).getD done.length 0=v:=by rw[<-e2];exact br _ _ _ _
  have mJ:∀i,i<(c.set v (cO 1 x (ai c v))).length-> -(paid+x)<=(ai (c.set v (cO 1 x (ai c v))) i).i 1/\(ai (c.set v (cO 1 x (ai c v))) i).i 1<=1152921504606846976:=by
   intro i hi;rw[za1]at hi
   by_cases e:i=v
   . subst e;have e3:ai (c.set i (cO 1 x (ai c i))) i=cO 1 x (ai c i):=by simp[ai,hi]
     rw[e3];simp only[cO,zbh,fL];omega
   . have e3:ai (c.set v (cO 1 x (ai c v))) i=ai c i:=by simp[ai,zbo,zcn e]
     rw[e3];have:=hc i hi;omega
  have:=ih (done++[x]) ws (wd++[(v:Int)]) (c.set v (cO 1 x (ai c v))) (out++if 0<x then[.r [.n q,.n kd,.n v,.n x]]else[]) n (paid+x) (by omega) (by omega) (by simp[e2]) (by simp;omega) (fun z hz=>by have:=hw z (by simp[hz]);simpa using this) (fun z hz=>hx z (by simp[hz])) (by omega) (by omega) mJ (by simpa using cl) (by split<;>simp<;>omega);simp only[nD,xE,zbs,zau];rw[show paid+(x+rest.sum)=paid+x+rest.sum by omega];rw[<-zaq,<-this];rw[vX];unfold yq;dsimp only;have ec:done++[x]++rest=done++x::rest:=by simp
  have ew:wd++[(v:Int)]++ws=wd++(v:Int)::ws:=by simp
  rw[ec,ew];have e5:(cO 1 x (ai c v))=Dat.r [.n ((ai c v).i 0),.n ((ai c v).i 1-x),.n ((ai c v).i 2)]:=by simp only[cO,zbh]
  rw[e5];simp only[lt_eq,zau,gw,br,zab,zac,zar,zaF,zaL,zad]
  by_cases h0:0<x
  . rw[if_pos h0];simp(disch:=omega) only[TRa,TRi,aa,zaL]
  . rw[if_neg h0];simp(disch:=omega) only[TRa,TRi,aa,zaL,zaH]
def aaE:Int × bC × Int × Int × LD0 × LD0->Bool × List Un:=fun(a0,a1,a2,a3,a4,a5)=>(decide (a0<=9223372036854775807/\0<=a1.aD/\a1.aD<=1152921504606846976/\a5.length<=68719476736)&&bk a4,[.i ((aB (fun _=>true) 1 a0 a4).sum)]++Uns.enc (({a1 with aD:=a1.aD-(aB (fun _=>true) 1 a0 a4).sum}):bC)++[.i (a2),.i (a3),.d (cy 1 (aB (fun _=>true) 1 a0 a4) a4),.d (a5++cj a2 a3 0 (aB (fun _=>true) 1 a0 a4))])
theorem Rj:ER 206 (mkE VY.en VY.ex aaE):=ak ae SC.right (fun m=>[Jk (vz m m)]) (t:=acH) (by kernel_rfl) (fun m=>(aI (ZK m m) az)) (fun m a=>by kernel_rfl) fun(a0,a1,a2,a3,a4,a5) hc=>by
 dsimp only[aaE]at hc⊢;simp only[zae,zag]at hc;obtain⟨⟨h1,h2,h3,h4⟩,h5⟩:=hc;obtain⟨c1,c2⟩:=cq h5;obtain⟨p1,p2,p3,p4,p5⟩:=zA (fun _=>true) (j:=1) (.inl rfl) a0 h5;refine⟨2000, ?_⟩;unfold acH;refine(UA 2000 a0 h1 a1 a2 a3 a5 a4 [] 2000 [] [] (by omega) (by simpa using c1) (by simp) (by simp)).trans ?_
 simp only[zat,zar];have ht:=nA (a4.map (fun _=>true));rw[zaU]at ht;have e:=Uc 2000 a1 ⟨h2,h3⟩ a2 a3 (dw a0 (eT (fun _=>true) 1 a4)) [] (jx (fun _=>true) 0 a4) [] a4 a5 2000 0 (by omega) (by rw[p1,tS]) rfl (by simp;omega) (fun w hw=>by have:=tv _ _ _ w hw;omega) (fun x hx=>by have:=p2 x hx;omega) (by omega) (by omega) (fun i hi=>by have:=dh (c2 _ (mW hi));omega) c1 (by omega);refine e.trans ?_
 have g1:=qJ (fun _=>true) 1 a4 [] (dw a0 (eT (fun _=>true) 1 a4)) p1 (fun d hd=>(dh (c2 d hd)).1);have g2:=tj a2 a3 (fun _=>true) a4 0 (dw a0 (eT (fun _=>true) 1 a4)) p1;simp only[zat,zar,zad]at g1 g2;rw[g1,g2,za4,p5,mT (fun _=>true) (j:=1) (.inl rfl) a0 h5]
def Vb:TB:=SC.ad Rj
def Yb:aA:=⟨Vb.tab,209,⟨[.ptr 0 0 0,.z0],[.cells [.z0,.z0,.z0,.z0,.z0,.buf 1 3,.z0,.z0,.buf 2 4],.ab (sI 3),.ab (sI 4)],0⟩,⟨[.z0],[.cells [.z0,.z0,.z0,.z0,.z0,.buf 1 3,.z0,.z0,.buf 3 4],.ab (sI 3),.gone,.ab (sI 4)],0⟩,[]⟩
abbrev FN:Type:=Int × Int × Int × bC × Int × Int × LD0 × LD0
def yQ (m:Nat) (k:FN->OU0):FN->OU0:=fun(a0,a1,a2,a3,a4,a5,a6,a7)=>
 bif decide (a2<8)then
 chk (decide ((w64 (a0-a1))<=9223372036854775807/\0<=a3.aD/\a3.aD<=1152921504606846976/\a7.length<=68719476736)&&bk a6)<|
 k (a0,(w64 (a1+((aB (aR a2) 1 (w64 (a0-a1)) a6).sum))),(w64 (a2+1)),({a3 with aD:=a3.aD-(aB (aR a2) 1 (w64 (a0-a1)) a6).sum}),a4,a5,(cy 1 (aB (aR a2) 1 (w64 (a0-a1)) a6) a6),(a7++cj a4 a5 0 (aB (aR a2) 1 (w64 (a0-a1)) a6)))
 else
 some ([.i a1]++Uns.enc (a3:bC)++[.i a4,.i a5,.d a6,.d a7])
def vO (m:Nat):Nat->FN->OU0:=aZ (yQ m)
theorem wi (m:Nat) (n:Nat):vO m (n+1)=yQ m (vO m n):=rfl
def Iv (F:FN->OU0):aQ:=⟨[.lp [0,1,0,1,1],.blk 0,.code [1,1,1]],⟨frm 21 [(0,.ptr 0 0 0),(1,.z0),(5,.z0),(7,.z0)],[.cells [.z0,.z0,.z0,.z0,.z0,.buf 1 3,.z0,.z0,.buf 3 4],.ab (sI 3),.gone,.ab (sI 4)],0⟩,onU F⟩
theorem Xj (m:Nat):∀n,HO Yb (Iv (vO m n)):=an ae Vb.right (fun k=>[Iv k]) (fun k h=>(aI h az)) fun k a=>by kernel_rfl
def t209 (m:Nat):Int × bC × Int × Int × LD0 × LD0->OU0:=fun(a0,a1,a2,a3,a4,a5)=>
 vO m m (a0,0,0,a1,a2,a3,a4,a5)
theorem adj (m:Nat) (nn q kd:Int):∀(k n:Nat) (r paid:Int) (y:bC) (c out:LD0),k<n->r+k=8->0<=r->bk c=true->0<=paid->paid<=nn->nn-paid<=y.aD->y.aD<=1152921504606846976->nn<=1152921504606846976->out.length+1000*k<=68719476736->
 vO m n (nn,paid,r,y,q,kd,c,out)=some ([.i (paid+(bR q kd k r (nn-paid) c).2.2)]++Uns.enc (({y with aD:=y.aD-(bR q kd k r (nn-paid) c).2.2}:bC):bC)++[.i q,.i kd,.d (bR q kd k r (nn-paid) c).1,.d (out++(bR q kd k r (nn-paid) c).2.1)]):=by
 intro k
 induction k with
 |zero=>
  intro n r paid y c out hn hr h0 hc p0 p1 p2 p3 p4 ho;obtain⟨n,rfl⟩:=ah n (by omega);rw[wi];unfold yQ;dsimp only;simp only[bR,zb4,zbv,zaH];rw[ay (by omega)]
 |succ k ih=>
  intro n r paid y c out hn hr h0 hc p0 p1 p2 p3 p4 ho;obtain⟨n,rfl⟩:=ah n (by omega);rw[wi];unfold yQ;dsimp only;obtain⟨l1,l2,l3⟩:=dO (aR r) (j:=1) (.inl rfl) (nn-paid) hc;obtain⟨_,_,w0,w1⟩:=pR (aR r) (j:=1) (.inl rfl) hc;obtain⟨g1,g2⟩:=qL (aR r) (j:=1) (.inl rfl) (nn-paid) hc;have hpl:=jZ q kd (aB (aR r) 1 (nn-paid) c) 0;have hcl:=(cq hc).1;rw[aL (by omega),aa (n:=nn-paid) (by omega) (by omega),hc,zbf,aJ ⟨by omega,by omega,by omega,by omega⟩];have:=ih n (r+1) (paid+(aB (aR r) 1 (nn-paid) c).sum) {y with aD:=y.aD-(aB (aR r) 1 (nn-paid) c).sum} (cy 1 (aB (aR r) 1 (nn-paid) c) c) (out++cj q kd 0 (aB (aR r) 1 (nn-paid) c)) (by omega) (by omega) (by omega) g1 (by omega) (by omega) (by simp only;omega) (by simp only;omega) p4 (by rw[zab];omega);rw[aa (n:=r+1) (by omega) (by omega),aa (n:=paid+(aB (aR r) 1 (nn-paid) c).sum) (by omega) (by omega),this];simp only[bR];rw[show nn-(paid+(aB (aR r) 1 (nn-paid) c).sum)=nn-paid-(aB (aR r) 1 (nn-paid) c).sum by omega];simp only[zcl,zaq,Int.sub_sub]
def f209:Int × bC × Int × Int × LD0 × LD0->Bool × List Un:=fun(a0,a1,a2,a3,a4,a5)=>(decide (0<=a0/\a0<=a1.aD/\a1.aD<=1152921504606846976/\a5.length<=34359738368)&&bk a4,[.i ((bR a2 a3 8 0 a0 a4).2.2)]++Uns.enc (({a1 with aD:=a1.aD-(bR a2 a3 8 0 a0 a4).2.2}):bC)++[.i (a2),.i (a3),.d ((bR a2 a3 8 0 a0 a4).1),.d (a5++(bR a2 a3 8 0 a0 a4).2.1)])
theorem PZ:ER 209 (mkE Yb.en Yb.ex f209):=ak ae Vb.right (fun m=>[Iv (vO m m)]) (t:=t209) (by kernel_rfl) (fun m=>(aI (Xj m m) az)) (fun m a=>by kernel_rfl) fun(a0,a1,a2,a3,a4,a5) hc=>by
 dsimp only[f209]at hc⊢;simp only[zae,zag]at hc;obtain⟨⟨h1,h2,h3,h4⟩,h5⟩:=hc;refine⟨20, ?_⟩;have:=adj 20 a0 a2 a3 8 20 0 0 a1 a4 a5 (by omega) (by omega) (by omega) h5 (by omega) (by omega) (by omega) h3 (by omega) (by omega);simp only[zbv,za4]at this;exact this
def XJ:TB:=Vb.ad PZ
def acv:aA:=⟨XJ.tab,185,⟨[.ptr 0 0 0,.agg [.z0,.z0]],[.cells [.z0,.z0,.z0,.z0,.z0,.buf 1 3,.z0,.z0,.buf 2 4],.ab (sI 3),.ab (sI 4)],0⟩,⟨[],[.cells [.z0,.z0,.z0,.z0,.z0,.buf 1 3,.z0,.z0,.buf 3 4],.ab (sI 3),.gone,.ab (sI 4)],0⟩,[]⟩
def t185 (m:Nat):Int × Int × bC × Int × Int × LD0 × LD0->OU0:=fun(a0,a1,a2,a3,a4,a5,a6)=>
 bif a0==1 then
 lt ((if a2.aD<a2.fee then a2.aD else a2.fee):Int) fun x1=>
 lt ((if x1<0 then 0 else x1):Int) fun x2=>
 bif decide (x2>0)then
 chk (fits (a6.length+1) 32)<|
 some (Uns.enc (({a2 with aD:=(w64 (a2.aD-x2)),fee:=(w64 (a2.fee-x2))}:bC):bC)++[.i a3,.i a4,.d a5,.d (a6++([.r [.n a3,.n a4,.n (-1),.n x2]]))])
 else
 some (Uns.enc (({a2 with aD:=(w64 (a2.aD-x2)),fee:=(w64 (a2.fee-x2))}:bC):bC)++[.i a3,.i a4,.d a5,.d a6])
 else
 bif a0==2 then
 lt ((if a2.aD<a2.cf then a2.aD else a2.cf):Int) fun x4=>
 lt ((if x4<0 then 0 else x4):Int) fun x5=>
 bif decide (x5>0)then
 chk (fits (a6.length+1) 32)<|
 some (Uns.enc (({a2 with aD:=(w64 (a2.aD-x5)),cf:=(w64 (a2.cf-x5))}:bC):bC)++[.i a3,.i a4,.d a5,.d (a6++([.r [.n a3,.n a4,.n (-1),.n x5]]))])
 else
 some (Uns.enc (({a2 with aD:=(w64 (a2.aD-x5)),cf:=(w64 (a2.cf-x5))}:bC):bC)++[.i a3,.i a4,.d a5,.d a6])
 else
 bif a0==6 then
 lt ((if a2.aD<a2.room then a2.aD else a2.room):Int) fun x7=>
 lt ((if x7<0 then 0 else x7):Int) fun x8=>
 bif decide (x8>0)then
 chk (fits (a6.length+1) 32)<|
 some (Uns.enc (({a2 with aD:=(w64 (a2.aD-x8)),room:=(w64 (a2.room-x8))}:bC):bC)++[.i a3,.i a4,.d a5,.d (a6++([.r [.n a3,.n a4,.n (-1),.n x8]]))])
 else
 some (Uns.enc (({a2 with aD:=(w64 (a2.aD-x8)),room:=(w64 (a2.room-x8))}:bC):bC)++[.i a3,.i a4,.d a5,.d a6])
 else
 bif a0==3 then
 chk (decide (a2.aD<=9223372036854775807/\0<=a2.aD/\a2.aD<=1152921504606846976/\a6.length<=68719476736)&&bk a5)<|
 some (Uns.enc (({a2 with aD:=a2.aD-(aB (aR a1) 2 a2.aD a5).sum}):bC)++[.i a3,.i a4,.d (cy 2 (aB (aR a1) 2 a2.aD a5) a5),.d (a6++cj a3 a4 0 (aB (aR a1) 2 a2.aD a5))])
 else
 bif a0==4 then
 lt ((if a2.aD<a2.ar then a2.aD else a2.ar):Int) fun x12=>
 chk (decide (0<=x12/\x12<=a2.aD/\a2.aD<=1152921504606846976/\a6.length<=34359738368)&&bk a5)<|
 lt (({a2 with aD:=a2.aD-(bR a3 a4 8 0 x12 a5).2.2}):bC) fun g13=>
 chk (decide (a2.ar=g13.ar))<|
 some (Uns.enc (({g13 with ar:=(w64 (a2.ar-((bR a3 a4 8 0 x12 a5).2.2)))}:bC):bC)++[.i a3,.i a4,.d ((bR a3 a4 8 0 x12 a5).1),.d (a6++(bR a3 a4 8 0 x12 a5).2.1)])
 else
 bif a0==5 then
 lt ((if a2.aD<a2.ar then a2.aD else a2.ar):Int) fun x16=>
 chk (decide (x16<=9223372036854775807/\0<=a2.aD/\a2.aD<=1152921504606846976/\a6.length<=68719476736)&&bk a5)<|
 lt (({a2 with aD:=a2.aD-(aB (fun _=>true) 1 x16 a5).sum}):bC) fun g18=>
 chk (decide (a2.ar=g18.ar))<|
 some (Uns.enc (({g18 with ar:=(w64 (a2.ar-((aB (fun _=>true) 1 x16 a5).sum)))}:bC):bC)++[.i a3,.i a4,.d (cy 1 (aB (fun _=>true) 1 x16 a5) a5),.d (a6++cj a3 a4 0 (aB (fun _=>true) 1 x16 a5))])
 else
 bif a0==7 then
 chk (decide (0<=a2.aD/\a2.aD<=a2.aD/\a2.aD<=1152921504606846976/\a6.length<=34359738368)&&bk a5)<|
 some (Uns.enc (({a2 with aD:=a2.aD-(bR a3 a4 8 0 a2.aD a5).2.2}):bC)++[.i a3,.i a4,.d ((bR a3 a4 8 0 a2.aD a5).1),.d (a6++(bR a3 a4 8 0 a2.aD a5).2.1)])
 else
 some (Uns.enc (a2:bC)++[.i a3,.i a4,.d a5,.d a6])
def f185:Int × Int × bC × Int × Int × LD0 × LD0->Bool × List Un:=fun(a0,a1,a2,a3,a4,a5,a6)=>(decide (a4=a0/\a6.length<=17179869184)&&(rV a2&&bk a5),Uns.enc (((fp a3 a0 a1 a2 a5).1):bC)++[.i (a3),.i (a4),.d ((fp a3 a0 a1 a2 a5).2.1),.d (a6++(fp a3 a0 a1 a2 a5).2.2)])
set_option maxHeartbeats 2000000 in
theorem OP:ER 185 (mkE acv.en acv.ex f185):=ak ae XJ.right (fun m=>[]) (t:=t185) (by kernel_rfl) (fun m=>az) (fun m a=>by kernel_rfl) fun(a0,a1,a2,a3,a4,a5,a6) hc=>by
 dsimp only[f185]at hc⊢;simp only[zae,zag]at hc;obtain⟨⟨rfl,ho⟩,hx,hc⟩:=hc;have hx':=yr hx;have hcl:=(cq hc).1;have w2:=fun sel j hj=>(pR (c:=a5) sel (j:=j) hj hc).2.2
 have s2:=fun sel j hj n=>(dO (c:=a5) sel (j:=j) hj n hc).2.1
 have mm:∀a b:Int,(if b<a then b else a)=min a b:=fun a b=>by omega
 have mx:∀a:Int,(if a<0 then 0 else a)=max a 0:=fun a=>by omega
 refine⟨0, ?_⟩;unfold t185 fp;dsimp only;simp only[lt_eq,mm,mx];have one:∀(z:Int) (u:bC) (o2:LD0),0<=z->∀v:bC,u=v->(bif decide (z>0)then chk (fits (a6.length+1) 32) (some (Uns.enc (u:bC)++[.i a3,.i a4,.d a5,.d (a6++([.r [.n a3,.n a4,.n (-1),.n z]]))]))else some (Uns.enc (u:bC)++[.i a3,.i a4,.d a5,.d a6]))=some (Uns.enc (v:bC)++[.i a3,.i a4,.d a5,.d (a6++nr a3 a4 z)]):=by
  intro z u o2 hz v huv;subst huv;unfold nr
  by_cases h:z>0
  . rw[aL h,bD (by omega) (by omega),if_pos (by omega)]
  . rw[ay h,if_neg (by omega),zaH]
 by_cases k1:a4=1
 . rw[dZ k1,if_pos k1];rw[show max (min a2.fee a2.aD) 0=min a2.fee a2.aD by omega];exact one _ _ [] (by omega) _ (by rw[aa (by omega) (by omega),aa (by omega) (by omega)])
 rw[dL k1,if_neg k1]
 by_cases k2:a4=2
 . rw[dZ k2,if_pos k2];rw[show max (min a2.cf a2.aD) 0=min a2.cf a2.aD by omega];exact one _ _ [] (by omega) _ (by rw[aa (by omega) (by omega),aa (by omega) (by omega)])
 rw[dL k2,if_neg k2]
 by_cases k6:a4=6
 . rw[dZ k6,if_pos k6];rw[show max (min a2.room a2.aD) 0=min a2.room a2.aD by omega];exact one _ _ [] (by omega) _ (by rw[aa (by omega) (by omega),aa (by omega) (by omega)])
 rw[dL k6,if_neg k6]
 by_cases k3:a4=3
 . rw[dZ k3,if_pos k3,hc,zbf,aJ (by omega)]
 rw[dL k3,if_neg k3]
 by_cases k4:a4=4
 . rw[dZ k4,if_pos k4,hc,zbf,aJ (by omega),aJ trivial];have q:=AY a3 a4 8 0 (min a2.ar a2.aD) a5 hc;generalize bR a3 a4 8 0 (min a2.ar a2.aD) a5=y at*
   rw[aa (by omega) (by omega)]
 rw[dL k4,if_neg k4]
 by_cases k5:a4=5
 . rw[dZ k5,if_pos k5,hc,zbf,aJ (by omega),aJ trivial];have q1:=s2 (fun _=>true) 1 (.inl rfl) (min a2.ar a2.aD);have q2:=w2 (fun _=>true) 1 (.inl rfl);rw[aa (n:=a2.ar-_) (by omega) (by omega)]
 rw[dL k5,if_neg k5]
 by_cases k7:a4=7
 . rw[dZ k7,if_pos k7,hc,zbf,aJ (by omega)]
 rw[dL k7,if_neg k7,zaH]
def Wa:TB:=XJ.ad OP
def Ye:aA:=⟨Wa.tab,144,⟨[.z0,.agg [.z0,.z0,.z0,.z0,.ab (sI 3)],.ab (sI 2)],[],0⟩,⟨[.buf 0 4,.z0,.agg [.z0,.z0,.z0,.z0,.buf 1 3]],[.ab (sI 4),.ab (sI 3)],0⟩,[]⟩
abbrev FD:Type:=LD0 × Int × Int × Int × Int × Int × Int × bC × Int × Int × LD0 × LD0 × LD0
def xM (m:Nat) (k:FD->OU0):FD->OU0:=fun(a0,a1,a2,a3,a4,a5,a6,a7,a8,a9,a10,a11,a12)=>
 bif decide (a2<a1)then
 chk (inb a2 a0.length)<|
 chk (decide (a2.toNat<a0.length))<|
 lt (ai a0 a2.toNat:Dat) fun d1=>
 chk (decide ((d1.i 0)=(d1.i 0)/\a12.length<=17179869184)&&(rV a7&&bk a11))<|
 k (a0,a1,(w64 (a2+1)),a3,a4,a5,a6,((fp a2 (d1.i 0) (d1.i 1) a7 a11).1),a2,(d1.i 0),a10,((fp a2 (d1.i 0) (d1.i 1) a7 a11).2.1),(a12++(fp a2 (d1.i 0) (d1.i 1) a7 a11).2.2))
 else
 some ([.i a7.aD,.i a7.fee,.i a7.cf,.i a7.ar,.i a7.room,.d a12,.d a11])
def uh (m:Nat):Nat->FD->OU0:=aZ (xM m)
theorem xw (m:Nat) (n:Nat):uh m (n+1)=xM m (uh m n):=rfl
def J3 (F:FD->OU0):aQ:=⟨[.lp [0,1,0,1,1,1],.blk 0,.code [1,1,1,1]],⟨frm 52 [(8,.ptr 0 0 0),(9,.ptr 1 0 0),(20,.ab (sI 2)),(21,.z0),(22,.z0)],[.cells [.z0,.z0,.z0,.z0,.buf 2 3],.cells [.z0,.z0,.z0,.z0,.z0,.buf 3 3,.z0,.z0,.buf 4 4],.ab (sI 3),.ab (sI 3),.ab (sI 4)],0⟩,onU F⟩
theorem Xn (m:Nat):∀n,HO Ye (J3 (uh m n)):=an ae Wa.right (fun k=>[J3 k]) (fun k h=>(aI h az)) fun k a=>by kernel_rfl
def t144 (m:Nat):Int × Int × Int × Int × Int × LD0 × LD0->OU0:=fun(a0,a1,a2,a3,a4,a5,a6)=>
 chk (decide (a5.length<1000000))<|
 uh m m (a6,(a6.length:Int),0,0,0,0,0,(⟨a0,a1,a2,a3,a4⟩:bC),0,0,[],a5,[])
theorem ab4 (m:Nat) (z1 z2 z3 z4:Int) (zl:LD0):∀(rest pre:LD0) (n:Nat) (y:bC) (q kd:Int) (c out:LD0),rest.length<n->(pre++rest).length<=1000000->rV y=true->bk c=true->out.length<=8000*pre.length->
 uh m n (pre++rest,((pre++rest).length:Int),(pre.length:Int),z1,z2,z3,z4,y,q,kd,zl,c,out)=some [.i (fV pre.length rest y c).1.aD,.i (fV pre.length rest y c).1.fee,.i (fV pre.length rest y c).1.cf,.i (fV pre.length rest y c).1.ar,.i (fV pre.length rest y c).1.room,.d (out++(fV pre.length rest y c).2.2),.d (fV pre.length rest y c).2.1]:=by
 intro rest
 induction rest with
 |nil=>
  intro pre n y q kd c out hn hl hy hc ho;obtain⟨n,rfl⟩:=ah n (by simp at hn;omega);rw[xw];unfold xM;dsimp only;simp[ay,fV]
 |cons x rest ih=>
  intro pre n y q kd c out hn hl hy hc ho;obtain⟨n,rfl⟩:=ah n (by simp at hn;omega);simp only[zac,zab]at hn hl;obtain⟨s1,s2,s3,s4⟩:=sY pre.length (x.i 0) (x.i 1) hy hc;have:=ih (pre++[x]) n _ (pre.length:Int) (x.i 0) _ (out++(fp pre.length (x.i 0) (x.i 1) y c).2.2) (by omega) (by simp;omega) s1 s2 (by simp;omega);simp only[fV];rw[xw];unfold xM;dsimp only;simp only[hy,hc,zck,zbf];simp only[zau,ax,lt_eq];generalize fp pre.length (x.i 0) (x.i 1) y c=u at*
  simp only[hy,hc,zck,zbf,za3,true_and];simp(disch:=omega) only[TRa,TRi,aa,LNl,LNi,zad,ax];simp only[LNl,LNi,zad]at this⊢;exact this
def f144:Int × Int × Int × Int × Int × LD0 × LD0->Bool × List Un:=fun(a0,a1,a2,a3,a4,a5,a6)=>(decide (a6.length<=1000000)&&(rV ⟨a0,a1,a2,a3,a4⟩&&bk a5),[.i ((fV 0 a6 ⟨a0,a1,a2,a3,a4⟩ a5).1.aD),.i ((fV 0 a6 ⟨a0,a1,a2,a3,a4⟩ a5).1.fee),.i ((fV 0 a6 ⟨a0,a1,a2,a3,a4⟩ a5).1.cf),.i ((fV 0 a6 ⟨a0,a1,a2,a3,a4⟩ a5).1.ar),.i ((fV 0 a6 ⟨a0,a1,a2,a3,a4⟩ a5).1.room),.d ((fV 0 a6 ⟨a0,a1,a2,a3,a4⟩ a5).2.2),.d ((fV 0 a6 ⟨a0,a1,a2,a3,a4⟩ a5).2.1)])
theorem Re:ER 144 (mkE Ye.en Ye.ex f144):=ak ae Wa.right (fun m=>[J3 (uh m m)]) (t:=t144) (by kernel_rfl) (fun m=>(aI (Xn m m) az)) (fun m a=>by kernel_rfl) fun(a0,a1,a2,a3,a4,a5,a6) hc=>by
 dsimp only[f144]at hc⊢;simp only[zae,zag]at hc;obtain⟨h1,h2,h3⟩:=hc;have hl:=(cq h3).1;refine⟨a6.length+1, ?_⟩;unfold t144;dsimp only;rw[aJ (by omega)];exact ab4 _ 0 0 0 0 [] a6 [] (a6.length+1) _ 0 0 a5 [] (by omega) (by simpa using h1) h2 h3 (by simp)
def XV:TB:=Wa.ad Re
theorem gv (j:Nat):∀l:LD0,(∀d∈l,0<=d.i j)->0<=au j l
 |[],_=>by simp[au]
 |d::l,h=>by
  have:=h d (by simp);have:=gv j l fun x hx=>h x (by simp[hx])
  simp only[au];omega
theorem zt (j:Nat):∀a b:LD0,au j (a++b)=au j a+au j b
 |[],b=>by simp[au]
 |d::a,b=>by simp only[zaC,au,zt j a b];omega
theorem Bt (a k:Int):∀(xs:LI0) (i:Int),(∀x∈xs,0<=x)->au 3 (cj a k i xs)=xs.sum
 |[],i,_=>rfl
 |x::xs,i,h=>by
  have:=Bt a k xs (i+1) fun y hy=>h y (by simp[hy])
  have h0:=h x (by simp);simp only[cj,zt,zbs,this]
  by_cases hx:0<x
  . rw[if_pos hx];simp[au,gR]
  . rw[if_neg hx];simp only[au];omega
theorem IE {c:LD0} (sel:Dat->Bool) {j:Nat} (hj:j=1\/j=2) (n:Int) (h:bk c=true):∀x∈aB sel j n c,0<=x:=fun x hx=>by
 obtain⟨l1,l2,l3⟩:=dO sel hj n h;obtain⟨i,hi,rfl⟩:=sS hx;rw[l1]at hi;exact(l3 i hi).1
def bE (f:Dat->Bool):LD0->Int
 |[]=>0
 |d::l=>(bif f d then d.i 3 else 0)+bE f l
theorem kG (f:Dat->Bool):∀a b:LD0,bE f (a++b)=bE f a+bE f b
 |[],b=>by simp[bE]
 |d::a,b=>by simp only[zaC,bE,kG f a b];omega
theorem iC (f:Dat->Bool):∀l:LD0,(∀d∈l,f d=false)->bE f l=0
 |[],_=>rfl
 |d::l,h=>by simp only[bE,h d (by simp),iC f l (fun x hx=>h x (by simp[hx])),zal];rfl
theorem Gs (f:Dat->Bool):∀l:LD0,(∀d∈l,f d=true)->bE f l=au 3 l
 |[],_=>rfl
 |d::l,h=>by simp only[bE,au,h d (by simp),Gs f l (fun x hx=>h x (by simp[hx])),zaw]
theorem uu {f g:Dat->Bool}:∀l:LD0,(∀d∈l,f d=g d)->bE f l=bE g l
 |[],_=>rfl
 |d::l,h=>by simp only[bE,h d (by simp),uu l (fun x hx=>h x (by simp[hx]))]
def kF (d:Dat):Bool:=d.i 1==1
def kR (d:Dat):Bool:=d.i 1==2
def kT (d:Dat):Bool:=d.i 1==6
def kI (d:Dat):Bool:=d.i 1==3
def kB (d:Dat):Bool:= !kF d&& !kR d&& !kT d&& !kI d
def kP (d:Dat):Bool:=kB d&&d.i 1 !=7
def toI (i:Nat) (d:Dat):Bool:=kI d&&d.i 2==(i:Int)
def toB (i:Nat) (d:Dat):Bool:=kB d&&d.i 2==(i:Int)
theorem oy (a k:Int):∀(xs:LI0) (i:Int),∀d∈cj a k i xs,d.i 0=a/\d.i 1=k/\(i<=d.i 2/\d.i 2<i+xs.length)/\1<=d.i 3/\d.i 3=xs.getD (d.i 2-i).toNat 0
 |[],i,d,h=>by simp[cj]at h
 |x::xs,i,d,h=>by
  simp only[cj,za0]at h;rcases h with h|h
  . by_cases hx:0<x
    . rw[if_pos hx]at h;rw[zbg.1 h];refine⟨rfl,rfl, ?_, ?_, ?_⟩
      . simp only[j8,zac,zaL];omega
      . simp only[gR];omega
      . simp only[j8,gR,Int.sub_self,Int.toNat_zero,zaO]
    . rw[if_neg hx]at h;cases h
  . obtain⟨h1,h2,h3,h4,h5⟩:=oy a k xs (i+1) d h;simp only[zac,zaL];refine⟨h1,h2,by omega,h4, ?_⟩;rw[show(d.i 2-i).toNat=(d.i 2-(i+1)).toNat+1 by omega,zaE];exact h5
theorem B8 (a k:Int):∀(xs:LI0) (i:Int) (j:Nat),(∀x∈xs,0<=x)->bE (fun d=>d.i 2==i+j) (cj a k i xs)=xs.getD j 0
 |[],i,j,_=>by simp[cj,bE]
 |x::xs,i,j,h=>by
  have h0:=h x (by simp);simp only[cj,kG];cases j with
  |zero=>
   have e:bE (fun d=>d.i 2==i+((0:Nat):Int)) (cj a k (i+1) xs)=0:=iC _ _ fun d hd=>by
    have:=oy a k xs (i+1) d hd;simp only[zbU];omega
   rw[e,zaO]
   by_cases hx:0<x
   . rw[if_pos hx];simp[bE,j8,gR]
   . rw[if_neg hx];simp only[bE];omega
  |succ j=>
   have:=B8 a k xs (i+1) j fun y hy=>h y (by simp[hy])
   rw[show i+1+(j:Int)=i+((j+1:Nat):Int) by omega]at this;rw[this,zaE]
   by_cases hx:0<x
   . rw[if_pos hx];simp only[bE,j8];rw[show(i==i+((j+1:Nat):Int))=false by simp only[zbU];omega];simp
   . rw[if_neg hx];simp[bE]
structure Kept (x : bC) (c ps : List Dat) (x' : bC) (c' : List Dat) : Prop where
 aD:x'.aD=x.aD-au 3 ps
 fee:x'.fee=x.fee-bE kF ps
 cf:x'.cf=x.cf-bE kR ps
 room:x'.room=x.room-bE kT ps
 pri:x'.ar=x.ar-bE kP ps
 len:c'.length=c.length
 row:∀i,i<c.length->ai c' i= .r [.n ((ai c i).i 0),.n ((ai c i).i 1-bE (toB i) ps),.n ((ai c i).i 2-bE (toI i) ps)]
theorem Kept.refl {x:bC} {c:LD0} (h:∀d∈c,pn 3 d=true):Kept x c [] x c:=by
 refine⟨by simp[au],by simp[bE],by simp[bE],by simp[bE],by simp[bE],rfl,fun i hi=> ?_⟩;simp only[bE,zbv];exact JE (h _ (mW hi))
theorem Kept.trans {x x' x'':bC} {c c' c'' ps qs:LD0} (a:Kept x c ps x' c') (b:Kept x' c' qs x'' c''):Kept x c (ps++qs) x'' c'':=by
 refine⟨?_, ?_, ?_, ?_, ?_,b.len.trans a.len,fun i hi=> ?_⟩
 . rw[b.aD,a.aD,zt];omega
 . rw[b.fee,a.fee,kG];omega
 . rw[b.cf,a.cf,kG];omega
 . rw[b.room,a.room,kG];omega
 . rw[b.pri,a.pri,kG];omega
 . rw[b.row i (by rw[a.len];exact hi),a.row i hi,kG,kG];simp only[Ql,fL,j8];rw[show(ai c i).i 1-bE (toB i) ps-bE (toB i) qs=(ai c i).i 1-(bE (toB i) ps+bE (toB i) qs) by omega,show(ai c i).i 2-bE (toI i) ps-bE (toI i) qs=(ai c i).i 2-(bE (toI i) ps+bE (toI i) qs) by omega]
theorem Kept.shares {c:LD0} (sel:Dat->Bool) (n:Int) (h:bk c=true) (x:bC) (a:Int) {j:Nat} {kd:Int} (hk:(j=2/\kd=3)\/(j=1/\(kd=4\/kd=5\/kd=7))):
 Kept x c (cj a kd 0 (aB sel j n c)) {x with aD:=x.aD-(aB sel j n c).sum,ar:=if kd=4\/kd=5 then x.ar-(aB sel j n c).sum else x.ar} (cy j (aB sel j n c) c):=by
 have hj:j=1\/j=2:=by omega
 obtain⟨l1,l2,l3⟩:=dO sel hj n h;obtain⟨h1,h2⟩:=cq h;have hm:=IE sel hj n h;have hp:=oy a kd (aB sel j n c) 0;have hs:=Bt a kd (aB sel j n c) 0 hm;have hat:=fun i=>B8 a kd (aB sel j n c) 0 i hm
 have kk:∀d∈cj a kd 0 (aB sel j n c),kF d=false/\kR d=false/\kT d=false/\kI d=(kd==3)/\kB d= !(kd==3):=fun d hd=>by
  have:=(hp d hd).2.1;simp only[kB,kF,kR,kT,kI,this];rcases hk with⟨_,rfl⟩|⟨_,rfl|rfl|rfl⟩<;>decide
 refine⟨by rw[hs], ?_, ?_, ?_, ?_,pE j _ c l1,fun i hi=> ?_⟩
 . rw[iC kF _ fun d hd=>(kk d hd).1];simp
 . rw[iC kR _ fun d hd=>(kk d hd).2.1];simp
 . rw[iC kT _ fun d hd=>(kk d hd).2.2.1];simp
 . by_cases h45:kd=4\/kd=5
   . simp only[if_pos h45];rw[Gs kP _ fun d hd=>by
      have:=(kk d hd).2.2.2.2;have h6:=(hp d hd).2.1;simp only[kP,this,h6];rcases h45 with rfl|rfl<;>rfl,hs]
   . simp only[if_neg h45];rw[iC kP _ fun d hd=>by
      have:=(kk d hd).2.2.2.2;have h6:=(hp d hd).2.1;simp only[kP,this,h6];rcases hk with⟨_,rfl⟩|⟨_,rfl|rfl|rfl⟩
      . rfl
      . exact absurd (.inl rfl) h45
      . exact absurd (.inr rfl) h45
      . rfl]
     simp
 . rw[pC j _ c i l1 hi];have e2:=hat i;simp only[za4]at e2;rcases hk with⟨rfl,rfl⟩|⟨rfl,hk⟩
   . have a1:bE (toB i) (cj a 3 0 (aB sel 2 n c))=0:=iC _ _ fun d hd=>by simp only[toB,(kk d hd).2.2.2.2];rfl
     have a2:bE (toI i) (cj a 3 0 (aB sel 2 n c))=(aB sel 2 n c).getD i 0:=by
      rw[<-e2];exact uu _ fun d hd=>by simp only[toI,(kk d hd).2.2.2.1];rfl
     rw[a1,a2];simp only[cO,show ¬(2:Nat)=1 by decide,zbp,zbv]
   . have k3:(kd==3)=false:=by rcases hk with rfl|rfl|rfl<;>rfl
     have a1:bE (toI i) (cj a kd 0 (aB sel 1 n c))=0:=iC _ _ fun d hd=>by simp only[toI,(kk d hd).2.2.2.1,k3];rfl
     have a2:bE (toB i) (cj a kd 0 (aB sel 1 n c))=(aB sel 1 n c).getD i 0:=by
      rw[<-e2];exact uu _ fun d hd=>by simp only[toB,(kk d hd).2.2.2.2,k3];rfl
     rw[a1,a2];simp only[cO,zbh,zbv]
theorem Kept.rB {a kd:Int} (hk:kd=4\/kd=7):∀(k:Nat) (r n:Int) (x:bC) (c:LD0),bk c=true->
 Kept x c (bR a kd k r n c).2.1 {x with aD:=x.aD-(bR a kd k r n c).2.2,ar:=if kd=4 then x.ar-(bR a kd k r n c).2.2 else x.ar} (bR a kd k r n c).1
 |0,r,n,x,c,h=>by
  have:=Kept.refl (x:=x) fun d hd=>(dh ((cq h).2 d hd)).1
  simp only[bR,zbv,ite_self];exact this
 |k+1,r,n,x,c,h=>by
  obtain⟨g1,g2⟩:=qL (aR r) (j:=1) (.inl rfl) n h;have a1:=Kept.shares (aR r) n h x a (j:=1) (kd:=kd) (.inr ⟨rfl,by omega⟩);have a2:=Kept.rB (a:=a) hk k (r+1) (n-(aB (aR r) 1 n c).sum) {x with aD:=x.aD-(aB (aR r) 1 n c).sum,ar:=if kd=4\/kd=5 then x.ar-(aB (aR r) 1 n c).sum else x.ar} _ g1;have:=a1.trans a2;simp only[bR];have e:(if kd=4\/kd=5 then x.ar-(aB (aR r) 1 n c).sum else x.ar)=if kd=4 then x.ar-(aB (aR r) 1 n c).sum else x.ar:=by
   rcases hk with rfl|rfl<;>simp
  simp only[e]at this;generalize (bR a kd k (r+1) (n-(aB (aR r) 1 n c).sum) (cy 1 (aB (aR r) 1 n c) c)).2.2=y at*
  by_cases h4:kd=4
  . simp only[if_pos h4,Int.sub_sub]at this⊢;exact this
  . simp only[if_neg h4,Int.sub_sub]at this⊢;exact this
def HI (n:Nat) (a kd:Int) (d:Dat):Prop:=d.i 0=a/\d.i 1=kd/\1<=d.i 3/\(-1<=d.i 2/\d.i 2<n)/\(d.i 2<0↔(kd=1\/kd=2\/kd=6))
theorem uV {a kd:Int} {xs:LI0} {n:Nat} (hl:xs.length=n) (hk:¬(kd=1\/kd=2\/kd=6)):∀d∈cj a kd 0 xs,HI n a kd d:=fun d hd=>by
 obtain⟨h1,h2,h3,h4,h5⟩:=oy a kd xs 0 d hd;exact⟨h1,h2,h4,by omega,by omega⟩
theorem sk {a kd:Int} (hk:¬(kd=1\/kd=2\/kd=6)):∀(k:Nat) (r n:Int) (c:LD0),bk c=true->∀d∈(bR a kd k r n c).2.1,HI c.length a kd d
 |0,r,n,c,h,d,hd=>by simp[bR]at hd
 |k+1,r,n,c,h,d,hd=>by
  obtain⟨g1,g2⟩:=qL (aR r) (j:=1) (.inl rfl) n h;obtain⟨l1,l2,l3⟩:=dO (aR r) (j:=1) (.inl rfl) n h;simp only[bR]at hd;rcases za0.1 hd with hd|hd
  . exact uV l1 hk d hd
  . have:=sk hk k (r+1) _ _ g1 d hd
    rwa [g2]at this
theorem ql {x:bC} {c:LD0} (h:bk c=true) (a kd n:Int) (h0:0<=n) (hk:kd=1\/kd=2\/kd=6):
 Kept x c (nr a kd n) {x with aD:=x.aD-n,fee:=if kd=1 then x.fee-n else x.fee,cf:=if kd=2 then x.cf-n else x.cf,room:=if kd=6 then x.room-n else x.room} c/\∀d∈nr a kd n,HI c.length a kd d:=by
 have hr:∀d∈c,pn 3 d=true:=fun d hd=>(dh ((cq h).2 d hd)).1
 unfold nr
 by_cases hn:0<n
 . rw[if_pos hn];refine⟨⟨by simp[au,gR], ?_, ?_, ?_, ?_,rfl,fun i hi=> ?_⟩,fun d hd=> ?_⟩
   . simp only[bE,kF,fL,gR];rcases hk with rfl|rfl|rfl<;>simp
   . simp only[bE,kR,fL,gR];rcases hk with rfl|rfl|rfl<;>simp
   . simp only[bE,kT,fL,gR];rcases hk with rfl|rfl|rfl<;>simp
   . simp only[bE,kP,kB,kF,kR,kT,kI,fL,gR];rcases hk with rfl|rfl|rfl<;>simp
   . have a1:bE (toB i) [Dat.r [.n a,.n kd,.n (-1),.n n]]=0:=by simp only[bE,toB,kB,kF,kR,kT,kI,fL,j8];rcases hk with rfl|rfl|rfl<;>simp
     have a2:bE (toI i) [Dat.r [.n a,.n kd,.n (-1),.n n]]=0:=by simp only[bE,toI,kI,fL,j8];rcases hk with rfl|rfl|rfl<;>simp
     rw[a1,a2,zbv,zbv];exact JE (hr _ (mW hi))
   . rw[zbg.1 hd];refine⟨rfl,rfl, ?_, ?_, ?_⟩
     . show(1:Int)<=n;exact hn
     . exact⟨zcc (-1),by show(-1:Int)<(c.length:Int);omega⟩
     . show(-1:Int)<0↔_;exact⟨fun _=>hk,fun _=>by decide⟩
 . rw[if_neg hn];obtain rfl:n=0:=by omega
   simp only[zbv,ite_self];exact⟨Kept.refl hr,fun d hd=>by cases hd⟩
theorem JK (a kd rk:Int) {x:bC} {c:LD0} (hx:rV x=true) (h:bk c=true):Kept x c (fp a kd rk x c).2.2 (fp a kd rk x c).1 (fp a kd rk x c).2.1/\∀d∈(fp a kd rk x c).2.2,HI c.length a kd d:=by
 have hx':=yr hx;have s1:=fun sel j hj n=>(dO (c:=c) sel (j:=j) hj n h).1
 unfold fp
 by_cases k1:kd=1
 . rw[if_pos k1];have:=ql (x:=x) h a kd (min x.fee x.aD) (by omega) (.inl k1);subst k1;exact this
 rw[if_neg k1]
 by_cases k2:kd=2
 . rw[if_pos k2];have:=ql (x:=x) h a kd (min x.cf x.aD) (by omega) (.inr (.inl k2));subst k2;exact this
 rw[if_neg k2]
 by_cases k6:kd=6
 . rw[if_pos k6];have:=ql (x:=x) h a kd (min x.room x.aD) (by omega) (.inr (.inr k6));subst k6;exact this
 rw[if_neg k6];have hk:¬(kd=1\/kd=2\/kd=6):=by omega
 by_cases k3:kd=3
 . rw[if_pos k3];have:=Kept.shares (aR rk) x.aD h x a (j:=2) (kd:=kd) (.inl ⟨rfl,k3⟩);rw[if_neg (by omega)]at this;exact⟨this,uV (s1 (aR rk) 2 (.inr rfl) x.aD) hk⟩
 rw[if_neg k3]
 by_cases k4:kd=4
 . rw[if_pos k4];have:=Kept.rB (a:=a) (kd:=kd) (.inl k4) 8 0 (min x.ar x.aD) x c h;simp only[if_pos k4]at this;have hp:=sk (a:=a) hk 8 0 (min x.ar x.aD) c h;generalize bR a kd 8 0 (min x.ar x.aD) c=y at*
   exact⟨this,hp⟩
 rw[if_neg k4]
 by_cases k5:kd=5
 . rw[if_pos k5];have:=Kept.shares (fun _=>true) (min x.ar x.aD) h x a (j:=1) (kd:=kd) (.inr ⟨rfl,by omega⟩);rw[if_pos (by omega)]at this;exact⟨this,uV (s1 (fun _=>true) 1 (.inl rfl) _) hk⟩
 rw[if_neg k5]
 by_cases k7:kd=7
 . rw[if_pos k7];have:=Kept.rB (a:=a) (kd:=kd) (.inr k7) 8 0 x.aD x c h;simp only[if_neg k4]at this;have hp:=sk (a:=a) hk 8 0 x.aD c h;generalize bR a kd 8 0 x.aD c=y at*
   exact⟨this,hp⟩
 rw[if_neg k7];exact⟨Kept.refl fun d hd=>(dh ((cq h).2 d hd)).1,fun d hd=>by cases hd⟩
def OK (n:Nat) (a:Int) (l:LD0) (d:Dat):Prop:=(a<=d.i 0/\d.i 0<a+l.length)/\HI n (d.i 0) (ai l (d.i 0-a).toNat |>.i 0) d
theorem CM:∀(l:LD0) (a:Int) (x:bC) (c:LD0),rV x=true->bk c=true->Kept x c (fV a l x c).2.2 (fV a l x c).1 (fV a l x c).2.1/\(∀d∈(fV a l x c).2.2,OK c.length a l d)/\(fV a l x c).2.2.Pairwise fun d e=>d.i 0<=e.i 0
 |[],a,x,c,hx,h=>⟨Kept.refl fun d hd=>(dh ((cq h).2 d hd)).1,fun d hd=>by simp[fV]at hd,List.Pairwise.nil⟩
 |s::l,a,x,c,hx,h=>by
  obtain⟨h1,h2,h3,h4⟩:=sY a (s.i 0) (s.i 1) hx h;obtain⟨k1,k2⟩:=JK a (s.i 0) (s.i 1) hx h;obtain⟨i1,i2,i3⟩:=CM l (a+1) _ _ h1 h2;simp only[fV];refine⟨k1.trans i1,fun d hd=> ?_, ?_⟩
  . rcases za0.1 hd with hd|hd
    . obtain⟨g0,g1,g2,g3,g4⟩:=k2 d hd;refine⟨by rw[g0,zac];omega, ?_⟩;rw[g0,Int.sub_self];exact⟨g0,g1,g2,g3,g4⟩
    . obtain⟨g0,g1⟩:=i2 d hd;rw[h3]at g1;refine⟨by rw[zac];omega, ?_⟩;rw[show(d.i 0-a).toNat=(d.i 0-(a+1)).toNat+1 by omega];exact g1
  . rw[List.pairwise_append];refine⟨?_,i3,fun d hd e he=> ?_⟩
    . refine List.Pairwise.imp_of_mem (R:=fun _ _=>True) (fun {d e} hd he _=> ?_) (List.pairwise_of_forall fun _ _=>trivial);rw[(k2 d hd).1,(k2 e he).1];exact zcc _
    . have:=(k2 d hd).1;have:=(i2 e he).1;omega
def eL (u p l r:Int):Int:=min (min (max (u-p) 0) (max (l-r) 0)) (max u 0)
def abK:aA:=⟨XV.tab,190,⟨[.z0,.z0,.z0,.z0],[],0⟩,⟨[.z0],[],0⟩,[]⟩
def t190 (m:Nat):Int × Int × Int × Int->OU0:=fun(a0,a1,a2,a3)=>
 lt ((if (w64 (a0-a1))<0 then 0 else(w64 (a0-a1))):Int) fun x1=>
 lt ((if (w64 (a2-a3))<0 then 0 else(w64 (a2-a3))):Int) fun x2=>
 lt ((if a0<0 then 0 else a0):Int) fun x3=>
 some ([.i (if x3<(if x2<x1 then x2 else x1)then x3 else(if x2<x1 then x2 else x1))])
def f190:Int × Int × Int × Int->Bool × List Un:=fun(a0,a1,a2,a3)=>(decide ((-1152921504606846976<=a0/\a0<=1152921504606846976)/\(-1152921504606846976<=a1/\a1<=1152921504606846976)/\(-1152921504606846976<=a2/\a2<=1152921504606846976)/\(-1152921504606846976<=a3/\a3<=1152921504606846976)),[.i (eL a0 a1 a2 a3)])
theorem OZ:ER 190 (mkE abK.en abK.ex f190):=ak ae XV.right (fun m=>[]) (t:=t190) (by kernel_rfl) (fun m=>az) (fun m a=>by kernel_rfl) fun(a0,a1,a2,a3) hc=>by
 dsimp only[f190]at hc⊢;have h:=zaj hc;refine⟨0, ?_⟩;unfold t190 eL;simp only[lt_eq];rw[aa (n:=a0-a1) (by omega) (by omega),aa (n:=a2-a3) (by omega) (by omega)]
 congr 3
 omega
def Uv:TB:=XV.ad OZ
def dz (n:Int):Nat->LI0
 |0=>[]
 |k+1=>n::dz (n+1) k
theorem iB:∀(k:Nat) (n:Int),(dz n k).length=k
 |0,_=>rfl
 |k+1,n=>by simp[dz,iB k]
theorem C1:∀(k j:Nat) (n:Int),j<k->(dz n k).getD j 0=n+j
 |0,j,n,h=>by omega
 |k+1,0,n,h=>by simp[dz]
 |k+1,j+1,n,h=>by
  simp only[dz,zaE,C1 k j (n+1) (by omega)];omega
theorem Ei {c:LD0} {i:Nat} (h:i<c.length):(dz 0 c.length).getD i 0=(i:Int):=by rw[C1 _ _ _ h];omega
theorem di {c:LD0} {i:Nat} (h:i<c.length) (hg:∀d∈c,bn d=true):bn (ai c i)=true:=hg _ (tH h)
theorem Vn {d:Dat} (h:bn d=true):w64 (w64 (d.i 1-w64 (d.i 3-d.i 4))-d.i 6)=bA d:=by
 have:=cS h;rw[aa (n:=d.i 3-d.i 4) (by omega) (by omega),aa (n:=d.i 1-_) (by omega) (by omega),aa (by omega) (by omega)];rfl
theorem C7 (j:Nat):∀(c:LD0) (i:Nat),i<c.length->au j (c.drop i)=(ai c i).i j+au j (c.drop (i+1))
 |[],i,h=>by simp at h
 |d::c,0,_=>by simp[au,ai]
 |d::c,i+1,h=>by
  have:=C7 j c i (by simpa using h);simpa[ai]using this
def Zw:aA:=⟨Uv.tab,214,⟨[.buf 0 1],[.fh 1 7 0,.ab (sI 7)],2⟩,⟨[.z0],[.fh 1 7 0,.ab (sI 7)],2⟩,[]⟩
abbrev Ep:Type:=Int × Int × Int × LI0 × LD0
def yt (m:Nat) (k:Ep->OU0):Ep->OU0:=fun(a0,a1,a2,a3,a4)=>
 bif decide (a2<a1)then
 chk (inb a2 a3.length)<|
 chk (decide (a2.toNat<a3.length))<|
 bif (!((decide ((a3.getD a2.toNat 0)<0))&&true))then
 chk (decide (0<=(a3.getD a2.toNat 0)))<|
 chk (decide ((a3.getD a2.toNat 0).toNat<a4.length))<|
 k ((w64 (a0+((ai a4 ((a3.getD a2.toNat 0).toNat)).i 6))),a1,(w64 (a2+1)),a3,a4)
 else
 k (a0,a1,(w64 (a2+1)),a3,a4)
 else
 some ([.i a0,.l a3,.d a4])
def uI (m:Nat):Nat->Ep->OU0:=aZ (yt m)
theorem wY (m:Nat) (n:Nat):uI m (n+1)=yt m (uI m n):=rfl
def I4 (F:Ep->OU0):aQ:=⟨[.lp [0,1,0,1,1],.blk 0,.code [1,1,1]],⟨frm 22 [(3,.z0),(6,.buf 0 1),(7,.z0),(8,.z0)],[.fh 1 7 0,.ab (sI 7)],2⟩,onU F⟩
theorem XC (m:Nat):∀n,HO Zw (I4 (uI m n)):=an ae Uv.right (fun k=>[I4 k]) (fun k h=>(aI h az)) fun k a=>by kernel_rfl
def t214 (m:Nat):LI0 × LD0->OU0:=fun(a0,a1)=>
 uI m m (0,(a0.length:Int),0,a0,a1)
theorem XA (m:Nat) (c:LD0) (hl:c.length<=1000) (hg:∀d∈c,bn d=true):∀(k i n:Nat) (s:Int),i+k=c.length->k<n->0<=s->s<=1099511627776*i->
 uI m n (s,(c.length:Int),(i:Int),dz 0 c.length,c)=some [.i (s+au 6 (c.drop i)),.l (dz 0 c.length),.d c]:=by
 intro k
 induction k with
 |zero=>
  intro i n s hi hn s0 s1;obtain⟨n,rfl⟩:=ah n (by omega);rw[wY];unfold yt;dsimp only;rw[ay (by omega),List.drop_eq_nil_of_le (by omega)];simp[au]
 |succ k ih=>
  intro i n s hi hn s0 s1;obtain⟨n,rfl⟩:=ah n (by omega);have hk:=Ei (c:=c) (i:=i) (by omega);have hL:=iB c.length 0;have hx:=cS (di (i:=i) (by omega) hg);have:=ih (i+1) n (s+(ai c i).i 6) (by omega) (by omega) (by omega) (by omega);rw[C7 6 c i (by omega),<-zcl];rw[wY];unfold yt;dsimp only;simp only[zau,hk,hL,zbf,za3];simp(disch:=omega) only[TRa,TRi,aa,LNl,LNi,zad];simp only[LNl,LNi,zad]at this⊢;exact this
def f214:LI0 × LD0->Bool × List Un:=fun(a0,a1)=>((decide (a0=dz 0 a1.length))&&(decide (a1.length<=1000)&&a1.all bn),[.i (au 6 a1),.l (a0),.d (a1)])
theorem Sd:ER 214 (mkE Zw.en Zw.ex f214):=ak ae Uv.right (fun m=>[I4 (uI m m)]) (t:=t214) (by kernel_rfl) (fun m=>(aI (XC m m) az)) (fun m a=>by kernel_rfl) fun(a0,a1) hc=>by
 dsimp only[f214]at hc⊢;simp only[zae,zag,zam]at hc;obtain⟨rfl,h1,h2⟩:=hc;refine⟨a1.length+1, ?_⟩;unfold t214;dsimp only;rw[iB];exact(XA _ a1 h1 h2 a1.length 0 _ 0 (by omega) (by omega) (by omega) (by simp)).trans (by simp only[za4,zbQ])
def Va:TB:=Uv.ad Sd
def iS (c:LD0):Nat->Nat->Int->Int
 |0,_,o=>o
 |k+1,i,o=>iS c k (i+1) (if 0<bA (ai c i)/\(o<0\/(ai c o.toNat).i 0<=(ai c i).i 0)then(i:Int)else o)
theorem Fg (c:LD0):∀(k i:Nat) (o:Int),i+k=c.length-> -1<=o->o<c.length-> -1<=iS c k i o/\iS c k i o<c.length
 |0,_,o,_,h1,h2=>⟨h1,h2⟩
 |k+1,i,o,h,h1,h2=>by
  unfold iS
  split
  . exact Fg c k (i+1) _ (by omega) (by omega) (by omega)
  . exact Fg c k (i+1) _ (by omega) (by omega) (by omega)
def Yn:aA:=⟨Va.tab,215,⟨[.buf 0 1],[.fh 1 7 0,.ab (sI 7)],2⟩,⟨[.np 1 7 0],[.fh 1 7 0,.ab (sI 7)],2⟩,[]⟩
abbrev D1:Type:=Int × Int × Int × LI0 × LD0
def yl (m:Nat) (k:D1->OU0):D1->OU0:=fun(a0,a1,a2,a3,a4)=>
 bif decide (a2<a1)then
 chk (inb a2 a3.length)<|
 chk (decide (a2.toNat<a3.length))<|
 bif (!((decide ((a3.getD a2.toNat 0)<0))&&true))then
 chk (decide (0<=(a3.getD a2.toNat 0)))<|
 chk (decide ((a3.getD a2.toNat 0).toNat<a4.length))<|
 lt (ai a4 ((a3.getD a2.toNat 0).toNat):Dat) fun d2=>
 bif decide ((w64 (w64 ((d2.i 1)-w64 ((d2.i 3)-(d2.i 4)))-(d2.i 6)))>0)then
 bif ((decide (a0<0))&&true)then
 k ((a3.getD a2.toNat 0),a1,(w64 (a2+1)),a3,a4)
 else
 chk (decide (0<=(a3.getD a2.toNat 0)))<|
 chk (decide ((a3.getD a2.toNat 0).toNat<a4.length))<|
 chk (decide (0<=a0))<|
 chk (decide (a0.toNat<a4.length))<|
 bif (decide (((ai a4 ((a3.getD a2.toNat 0).toNat)).i 0)>=((ai a4 a0.toNat).i 0)))then
 k ((a3.getD a2.toNat 0),a1,(w64 (a2+1)),a3,a4)
 else
 k (a0,a1,(w64 (a2+1)),a3,a4)
 else
 k (a0,a1,(w64 (a2+1)),a3,a4)
 else
 k (a0,a1,(w64 (a2+1)),a3,a4)
 else
 some ([.i a0,.l a3,.d a4])
def vF (m:Nat):Nat->D1->OU0:=aZ (yl m)
theorem v7 (m:Nat) (n:Nat):vF m (n+1)=yl m (vF m n):=rfl
def J5 (F:D1->OU0):aQ:=⟨[.lp [0,1,0,1,1],.blk 0,.code [1,1,1]],⟨frm 41 [(3,.np 1 7 0),(6,.buf 0 1),(7,.z0),(8,.z0)],[.fh 1 7 0,.ab (sI 7)],2⟩,onU F⟩
theorem Z4 (m:Nat):∀n,HO Yn (J5 (vF m n)):=an ae Va.right (fun k=>[J5 k]) (fun k h=>(aI h az)) fun k a=>by kernel_rfl
def t215 (m:Nat):LI0 × LD0->OU0:=fun(a0,a1)=>
 vF m m ((-1),(a0.length:Int),0,a0,a1)
theorem ab3 (m:Nat) (c:LD0) (hl:c.length<=1000) (hg:∀d∈c,bn d=true):∀(k i n:Nat) (o:Int),i+k=c.length->k<n-> -1<=o->o<c.length->
 vF m n (o,(c.length:Int),(i:Int),dz 0 c.length,c)=some [.i (iS c k i o),.l (dz 0 c.length),.d c]:=by
 intro k
 induction k with
 |zero=>
  intro i n o hi hn o0 o1;obtain⟨n,rfl⟩:=ah n (by omega);rw[v7];unfold yl;dsimp only;rw[ay (by omega)];rfl
 |succ k ih=>
  intro i n o hi hn o0 o1;obtain⟨n,rfl⟩:=ah n (by omega);have hk:=Ei (c:=c) (i:=i) (by omega);have hL:=iB c.length 0;have hx:=cS (di (i:=i) (by omega) hg);have ia:=ih (i+1) n (i:Int) (by omega) (by omega) (by omega) (by omega);have ib:=ih (i+1) n o (by omega) (by omega) (by omega) (by omega);rw[v7];unfold yl;dsimp only;unfold iS;have e:=Vn (di (c:=c) (i:=i) (by omega) hg);simp only[lt_eq,zau,hk,hL,zbf,za3,e,ge_iff_le,gt_iff_lt]
  by_cases h1:0<bA (ai c i)
  . by_cases h2:o<0
    . have hc:0<bA (ai c i)/\(o<0\/(ai c o.toNat).i 0<=(ai c i).i 0):=⟨h1,.inl h2⟩
      rw[if_pos hc];simp(disch:=omega) only[TRa,TRi,aa,LNl,LNi,zad];simp only[zaL,zad]at ia ib⊢;exact ia
    . by_cases h3:(ai c o.toNat).i 0<=(ai c i).i 0
      . have hc:0<bA (ai c i)/\(o<0\/(ai c o.toNat).i 0<=(ai c i).i 0):=⟨h1,.inr h3⟩
        rw[if_pos hc];simp(disch:=omega) only[TRa,TRi,aa,LNl,LNi,zad];simp only[zaL,zad]at ia ib⊢;exact ia
      . have hc:¬(0<bA (ai c i)/\(o<0\/(ai c o.toNat).i 0<=(ai c i).i 0)):=fun h=>h.2.elim h2 h3
        rw[if_neg hc];simp(disch:=omega) only[TRa,TRi,aa,LNl,LNi,zad];simp only[zaL,zad]at ia ib⊢;exact ib
  . have hc:¬(0<bA (ai c i)/\(o<0\/(ai c o.toNat).i 0<=(ai c i).i 0)):=fun h=>h1 h.1
    rw[if_neg hc];simp(disch:=omega) only[TRa,TRi,aa,LNl,LNi,zad];simp only[zaL,zad]at ia ib⊢;exact ib
def f215:LI0 × LD0->Bool × List Un:=fun(a0,a1)=>((decide (a0=dz 0 a1.length))&&(decide (a1.length<=1000)&&a1.all bn),[.i (iS a1 a1.length 0 (-1)),.l (a0),.d (a1)])
theorem ON:ER 215 (mkE Yn.en Yn.ex f215):=ak ae Va.right (fun m=>[J5 (vF m m)]) (t:=t215) (by kernel_rfl) (fun m=>(aI (Z4 m m) az)) (fun m a=>by kernel_rfl) fun(a0,a1) hc=>by
 dsimp only[f215]at hc⊢;simp only[zae,zag,zam]at hc;obtain⟨rfl,h1,h2⟩:=hc;refine⟨a1.length+1, ?_⟩;unfold t215;dsimp only;rw[iB];exact ab3 _ a1 h1 h2 a1.length 0 _ (-1) (by omega) (by omega) (by omega) (by omega)
def Wm:TB:=Va.ad ON
def iT (c:LD0):Nat->Nat->Int->Int
 |0,_,o=>o
 |k+1,i,o=>iT c k (i+1) (if 0<(ai c i).i 6/\(o<0\/(ai c i).i 0<(ai c o.toNat).i 0)then(i:Int)else o)
theorem EX (c:LD0):∀(k i:Nat) (o:Int),i+k=c.length-> -1<=o->o<c.length-> -1<=iT c k i o/\iT c k i o<c.length
 |0,_,o,_,h1,h2=>⟨h1,h2⟩
 |k+1,i,o,h,h1,h2=>by
  unfold iT
  split
  . exact EX c k (i+1) _ (by omega) (by omega) (by omega)
  . exact EX c k (i+1) _ (by omega) (by omega) (by omega)
def X0:aA:=⟨Wm.tab,217,⟨[.buf 0 1],[.fh 1 7 0,.ab (sI 7)],2⟩,⟨[.np 1 7 0],[.fh 1 7 0,.ab (sI 7)],2⟩,[]⟩
abbrev EJ:Type:=Int × Int × Int × LI0 × LD0
def yy (m:Nat) (k:EJ->OU0):EJ->OU0:=fun(a0,a1,a2,a3,a4)=>
 bif decide (a2<a1)then
 chk (inb a2 a3.length)<|
 chk (decide (a2.toNat<a3.length))<|
 bif (!((decide ((a3.getD a2.toNat 0)<0))&&true))then
 chk (decide (0<=(a3.getD a2.toNat 0)))<|
 chk (decide ((a3.getD a2.toNat 0).toNat<a4.length))<|
 bif decide (((ai a4 ((a3.getD a2.toNat 0).toNat)).i 6)>0)then
 bif ((decide (a0<0))&&true)then
 k ((a3.getD a2.toNat 0),a1,(w64 (a2+1)),a3,a4)
 else
 chk (decide (0<=(a3.getD a2.toNat 0)))<|
 chk (decide ((a3.getD a2.toNat 0).toNat<a4.length))<|
 chk (decide (0<=a0))<|
 chk (decide (a0.toNat<a4.length))<|
 bif (decide (((ai a4 ((a3.getD a2.toNat 0).toNat)).i 0)<((ai a4 a0.toNat).i 0)))then
 k ((a3.getD a2.toNat 0),a1,(w64 (a2+1)),a3,a4)
 else
 k (a0,a1,(w64 (a2+1)),a3,a4)
 else
 k (a0,a1,(w64 (a2+1)),a3,a4)
 else
 k (a0,a1,(w64 (a2+1)),a3,a4)
 else
 some ([.i a0,.l a3,.d a4])
def uU (m:Nat):Nat->EJ->OU0:=aZ (yy m)
theorem wM (m:Nat) (n:Nat):uU m (n+1)=yy m (uU m n):=rfl
def KK (F:EJ->OU0):aQ:=⟨[.lp [0,1,0,1,1],.blk 0,.code [1,1,1]],⟨frm 41 [(3,.np 1 7 0),(6,.buf 0 1),(7,.z0),(8,.z0)],[.fh 1 7 0,.ab (sI 7)],2⟩,onU F⟩
theorem Xx (m:Nat):∀n,HO X0 (KK (uU m n)):=an ae Wm.right (fun k=>[KK k]) (fun k h=>(aI h az)) fun k a=>by kernel_rfl
def t217 (m:Nat):LI0 × LD0->OU0:=fun(a0,a1)=>
 uU m m ((-1),(a0.length:Int),0,a0,a1)
theorem aat (m:Nat) (c:LD0) (hl:c.length<=1000) (hg:∀d∈c,bn d=true):∀(k i n:Nat) (o:Int),i+k=c.length->k<n-> -1<=o->o<c.length->
 uU m n (o,(c.length:Int),(i:Int),dz 0 c.length,c)=some [.i (iT c k i o),.l (dz 0 c.length),.d c]:=by
 intro k
 induction k with
 |zero=>
  intro i n o hi hn o0 o1;obtain⟨n,rfl⟩:=ah n (by omega);rw[wM];unfold yy;dsimp only;rw[ay (by omega)];rfl
 |succ k ih=>
  intro i n o hi hn o0 o1;obtain⟨n,rfl⟩:=ah n (by omega);have hk:=Ei (c:=c) (i:=i) (by omega);have hL:=iB c.length 0;have hx:=cS (di (i:=i) (by omega) hg);have ia:=ih (i+1) n (i:Int) (by omega) (by omega) (by omega) (by omega);have ib:=ih (i+1) n o (by omega) (by omega) (by omega) (by omega);rw[wM];unfold yy;dsimp only;unfold iT;have e:=Vn (di (c:=c) (i:=i) (by omega) hg);simp only[lt_eq,zau,hk,hL,zbf,za3,e,ge_iff_le,gt_iff_lt]
  by_cases h1:0<(ai c i).i 6
  . by_cases h2:o<0
    . have hc:0<(ai c i).i 6/\(o<0\/(ai c i).i 0<(ai c o.toNat).i 0):=⟨h1,.inl h2⟩
      rw[if_pos hc];simp(disch:=omega) only[TRa,TRi,aa,LNl,LNi,zad];simp only[zaL,zad]at ia ib⊢;exact ia
    . by_cases h3:(ai c i).i 0<(ai c o.toNat).i 0
      . have hc:0<(ai c i).i 6/\(o<0\/(ai c i).i 0<(ai c o.toNat).i 0):=⟨h1,.inr h3⟩
        rw[if_pos hc];simp(disch:=omega) only[TRa,TRi,aa,LNl,LNi,zad];simp only[zaL,zad]at ia ib⊢;exact ia
      . have hc:¬(0<(ai c i).i 6/\(o<0\/(ai c i).i 0<(ai c o.toNat).i 0)):=fun h=>h.2.elim h2 h3
        rw[if_neg hc];simp(disch:=omega) only[TRa,TRi,aa,LNl,LNi,zad];simp only[zaL,zad]at ia ib⊢;exact ib
  . have hc:¬(0<(ai c i).i 6/\(o<0\/(ai c i).i 0<(ai c o.toNat).i 0)):=fun h=>h1 h.1
    rw[if_neg hc];simp(disch:=omega) only[TRa,TRi,aa,LNl,LNi,zad];simp only[zaL,zad]at ia ib⊢;exact ib
def f217:LI0 × LD0->Bool × List Un:=fun(a0,a1)=>((decide (a0=dz 0 a1.length))&&(decide (a1.length<=1000)&&a1.all bn),[.i (iT a1 a1.length 0 (-1)),.l (a0),.d (a1)])
theorem Ps:ER 217 (mkE X0.en X0.ex f217):=ak ae Wm.right (fun m=>[KK (uU m m)]) (t:=t217) (by kernel_rfl) (fun m=>(aI (Xx m m) az)) (fun m a=>by kernel_rfl) fun(a0,a1) hc=>by
 dsimp only[f217]at hc⊢;simp only[zae,zag,zam]at hc;obtain⟨rfl,h1,h2⟩:=hc;refine⟨a1.length+1, ?_⟩;unfold t217;dsimp only;rw[iB];exact aat _ a1 h1 h2 a1.length 0 _ (-1) (by omega) (by omega) (by omega) (by omega)
def QT:TB:=Wm.ad Ps
theorem pK (i:Nat) (y:Dat):∀(l:LD0) (j:Nat),j<l.length->au i (l.set j y)=au i l-(ai l j).i i+y.i i
 |[],j,h=>by simp at h
 |d::l,0,h=>by simp only[List.set_cons_zero,au,ai,zaO];omega
 |d::l,j+1,h=>by
  have:=pK i y l j (by simpa using h);simp only[ai]at this;simp only[zbR,au,ai,zaE,this];omega
theorem Ac {l:LD0} {j:Nat} {y:Dat} (h:j<l.length):ai (l.set j y) j=y:=by
 unfold ai;rw[zaf,List.getElem?_set_self h];rfl
theorem qx {l:LD0} {j i:Nat} {y:Dat} (h:i≠j):ai (l.set j y) i=ai l i:=by
 unfold ai;rw[zaf,zaf,List.getElem?_set_ne (by omega)]
def E0 (p:Dat->Prop) [DecidablePred p]:LD0->Nat
 |[]=>0
 |d::l=>(if p d then 1 else 0)+E0 p l
theorem Fi (p:Dat->Prop) [DecidablePred p]:∀l:LD0,E0 p l<=l.length
 |[]=>zap _
 |d::l=>by have:=Fi p l;simp only[E0,zac];split<;>omega
theorem Bk (p:Dat->Prop) [DecidablePred p] (y:Dat) (hy:¬p y):∀(l:LD0) (j:Nat),j<l.length->p (ai l j)->E0 p (l.set j y)+1=E0 p l
 |[],j,h,_=>by simp at h
 |d::l,0,h,hp=>by
  have hp:p d:=hp;simp only[List.set_cons_zero,E0,if_neg hy,if_pos hp];omega
 |d::l,j+1,h,hp=>by
  have:=Bk p y hy l j (by simpa using h) hp;simp only[zbR,E0];omega
def fm (c:LD0):Prop:=c.length<=1000/\∀d∈c,bn d=true
theorem gm {c:LD0} (h:fm c):(decide (c.length<=1000)&&c.all bn)=true:=by
 rw[zae,zam];exact⟨zaa h.1,h.2⟩
theorem qQ {c:LD0} {j:Nat} {y:Dat} (h:fm c) (hy:bn y=true):fm (c.set j y):=⟨by rw[za1];exact h.1,Mj h.2 hy⟩
theorem yT (c:LD0):∀(k i:Nat) (o:Int),i+k=c.length->(o<0\/0<bA (ai c o.toNat))->(iS c k i o<0->o<0/\∀j,i<=j->j<c.length->bA (ai c j)<=0)/\(0<=iS c k i o->0<bA (ai c (iS c k i o).toNat))
 |0,i,o,h,ho=>⟨fun h1=>⟨h1,fun j h2 h3=>by omega⟩,fun h1=>by simp only[iS]at h1⊢;omega⟩
 |k+1,i,o,h,ho=>by
  unfold iS
  split
  . rename_i hc;obtain⟨a,b⟩:=yT c k (i+1) (i:Int) (by omega) (.inr (by rw[zau];exact hc.1));exact⟨fun h1=>by have:=(a h1).1;omega,b⟩
  . rename_i hc;obtain⟨a,b⟩:=yT c k (i+1) o (by omega) ho;refine⟨fun h1=>⟨(a h1).1,fun j h2 h3=> ?_⟩,b⟩
    by_cases hj:j=i
    . subst hj;have:=(a h1).1;omega
    . exact(a h1).2 j (by omega) h3
theorem yS (c:LD0):∀(k i:Nat) (o:Int),i+k=c.length->(o<0\/0<(ai c o.toNat).i 6)->(iT c k i o<0->o<0/\∀j,i<=j->j<c.length->(ai c j).i 6<=0)/\(0<=iT c k i o->0<(ai c (iT c k i o).toNat).i 6)
 |0,i,o,h,ho=>⟨fun h1=>⟨h1,fun j h2 h3=>by omega⟩,fun h1=>by simp only[iT]at h1⊢;omega⟩
 |k+1,i,o,h,ho=>by
  unfold iT
  split
  . rename_i hc;obtain⟨a,b⟩:=yS c k (i+1) (i:Int) (by omega) (.inr (by rw[zau];exact hc.1));exact⟨fun h1=>by have:=(a h1).1;omega,b⟩
  . rename_i hc;obtain⟨a,b⟩:=yS c k (i+1) o (by omega) ho;refine⟨fun h1=>⟨(a h1).1,fun j h2 h3=> ?_⟩,b⟩
    by_cases hj:j=i
    . subst hj;have:=(a h1).1;omega
    . exact(a h1).2 j (by omega) h3
def xA:Nat->Int->LD0->LD0
 |0,_,c=>c
 |k+1,t,c=>if au 6 c<t then(if iS c c.length 0 (-1)<0 then c else xA k t (c.set (iS c c.length 0 (-1)).toNat (fR (t-au 6 c) (ai c (iS c c.length 0 (-1)).toNat))))else c
def vm:Nat->Int->LD0->LD0
 |0,_,c=>c
 |k+1,t,c=>if t<au 6 c then(if iT c c.length 0 (-1)<0 then c else vm k t (c.set (iT c c.length 0 (-1)).toNat (jg (au 6 c-t) (ai c (iT c c.length 0 (-1)).toNat))))else c
def ly (t:Int) (c:LD0):LD0:=vm (c.length+2) (max t 0) (xA (c.length+2) (max t 0) c)
theorem Sg (w:Int) (d:Dat):(fR w d).i 6=d.i 6+rG w d/\bA (fR w d)=bA d-rG w d:=by
 simp only[fR,bA,fL,gR,AQ,sf];exact⟨trivial,by omega⟩
theorem TH (w:Int) (d:Dat):(jg w d).i 6=d.i 6-rz w d:=by
 simp only[jg,sf]
def Am (t:Int) (c:LD0):Nat:=if au 6 c<t then E0 (fun d=>0<bA d) c+1 else 0
def yW (t:Int) (c:LD0):Nat:=if t<au 6 c then E0 (fun d=>0<d.i 6) c+1 else 0
theorem WH {t:Int} {c:LD0} (hg:fm c) (hs:au 6 c<t) (hj:0<=iS c c.length 0 (-1)):
 (iS c c.length 0 (-1)).toNat<c.length/\fm (c.set (iS c c.length 0 (-1)).toNat (fR (t-au 6 c) (ai c (iS c c.length 0 (-1)).toNat)))/\Am t (c.set (iS c c.length 0 (-1)).toNat (fR (t-au 6 c) (ai c (iS c c.length 0 (-1)).toNat)))<Am t c/\
 au 6 (c.set (iS c c.length 0 (-1)).toNat (fR (t-au 6 c) (ai c (iS c c.length 0 (-1)).toNat)))<=t:=by
 have h1:=Fg c c.length 0 (-1) (by omega) (by omega) (by omega);have h2:=(yT c c.length 0 (-1) (by omega) (.inl (by omega))).2 hj;generalize iS c c.length 0 (-1)=o at*
 have h3:o.toNat<c.length:=by omega
 have hn:=di h3 hg.2;have e6:=Sg (t-au 6 c) (ai c o.toNat);have es:=pK 6 (fR (t-au 6 c) (ai c o.toNat)) c o.toNat h3;have hp:rG (t-au 6 c) (ai c o.toNat)=min (t-au 6 c) (bA (ai c o.toNat)):=by unfold rG;omega
 refine⟨h3,qQ hg (Hj _ hn), ?_,by omega⟩;unfold Am;rw[if_pos hs]
 split
 . rename_i hlt;have:=Bk (fun d=>0<bA d) (fR (t-au 6 c) (ai c o.toNat)) (by show ¬0<bA _;omega) c o.toNat h3 h2;omega
 . omega
theorem WK {t:Int} {c:LD0} (hg:fm c) (hs:t<au 6 c) (hj:0<=iT c c.length 0 (-1)):
 (iT c c.length 0 (-1)).toNat<c.length/\fm (c.set (iT c c.length 0 (-1)).toNat (jg (au 6 c-t) (ai c (iT c c.length 0 (-1)).toNat)))/\yW t (c.set (iT c c.length 0 (-1)).toNat (jg (au 6 c-t) (ai c (iT c c.length 0 (-1)).toNat)))<yW t c/\
 t<=au 6 (c.set (iT c c.length 0 (-1)).toNat (jg (au 6 c-t) (ai c (iT c c.length 0 (-1)).toNat))):=by
 have h1:=EX c c.length 0 (-1) (by omega) (by omega) (by omega);have h2:=(yS c c.length 0 (-1) (by omega) (.inl (by omega))).2 hj;generalize iT c c.length 0 (-1)=o at*
 have h3:o.toNat<c.length:=by omega
 have hn:=di h3 hg.2;have e6:=TH (au 6 c-t) (ai c o.toNat);have es:=pK 6 (jg (au 6 c-t) (ai c o.toNat)) c o.toNat h3;have hp:rz (au 6 c-t) (ai c o.toNat)=min (au 6 c-t) ((ai c o.toNat).i 6):=by unfold rz;omega
 refine⟨h3,qQ hg (JZ _ hn), ?_,by omega⟩;unfold yW;rw[if_pos hs]
 split
 . rename_i hlt;have:=Bk (fun d=>0<d.i 6) (jg (au 6 c-t) (ai c o.toNat)) (by show ¬0<(jg _ _).i 6;omega) c o.toNat h3 h2;omega
 . omega
theorem HK (t:Int) (c:LD0):Am t c<c.length+2:=by
 have:=Fi (fun d=>0<bA d) c;unfold Am;split<;>omega
theorem Ho (t:Int) (c:LD0):yW t c<c.length+2:=by
 have:=Fi (fun d=>0<d.i 6) c;unfold yW;split<;>omega
theorem Hz {c:LD0} (hg:fm c):0<=au 6 c/\au 6 c<=1125899906842624000:=by
 have:=(kj c hg.2).2.2.1;have:=hg.1;omega
def Vm:aA:=⟨QT.tab,189,⟨[.z0,.buf 0 1],[.fh 1 7 0,.ab (sI 7)],0⟩,⟨[.z0],[.fh 1 7 0,.ab (sI 7)],0⟩,[]⟩
abbrev Dw:Type:=Int × Int × LI0 × LD0
abbrev Fj:Type:=Int × Int × LI0 × LD0
def EF (m:Nat) (k:Dw->OU0):Dw->OU0:=fun(a0,a1,a2,a3)=>
 bif decide (a1>a0)then
 chk ((decide (a2=dz 0 a3.length))&&(decide (a3.length<=1000)&&a3.all bn))<|
 lt ((iT a3 a3.length 0 (-1)):Int) fun x6=>
 bif ((decide (x6<0))&&true)then
 some ([.i a1,.l a2,.d a3])
 else
 chk (decide (0<=x6/\x6.toNat<a3.length)&&bn (ai a3 x6.toNat))<|
 lt ((a3.set x6.toNat (jg (w64 (a1-a0)) (ai a3 x6.toNat))):LD0) fun l9=>
 chk ((decide (a2=dz 0 l9.length))&&(decide (l9.length<=1000)&&l9.all bn))<|
 k (a0,(au 6 l9),a2,l9)
 else
 chk ((decide (a2=dz 0 a3.length))&&(decide (a3.length<=1000)&&a3.all bn))<|
 some ([.i (au 6 a3),.l a2,.d a3])
def um (m:Nat):Nat->Dw->OU0:=aZ (EF m)
theorem F8 (m:Nat) (n:Nat):um m (n+1)=EF m (um m n):=rfl
def JI (F:Dw->OU0):aQ:=⟨[.lp [0,1,0,1,1,1],.blk 2,.code [1,1,1,1]],⟨frm 47 [(0,.z0),(1,.buf 0 1),(7,.z0)],[.fh 1 7 0,.ab (sI 7)],0⟩,onU F⟩
def Fv (m:Nat) (k:Fj->OU0):Fj->OU0:=fun(a0,a1,a2,a3)=>
 bif decide (a1<a0)then
 chk ((decide (a2=dz 0 a3.length))&&(decide (a3.length<=1000)&&a3.all bn))<|
 lt ((iS a3 a3.length 0 (-1)):Int) fun x2=>
 bif ((decide (x2<0))&&true)then
 some ([.i a1,.l a2,.d a3])
 else
 chk (decide (0<=x2/\x2.toNat<a3.length)&&bn (ai a3 x2.toNat))<|
 lt ((a3.set x2.toNat (fR (w64 (a0-a1)) (ai a3 x2.toNat))):LD0) fun l5=>
 chk ((decide (a2=dz 0 l5.length))&&(decide (l5.length<=1000)&&l5.all bn))<|
 k (a0,(au 6 l5),a2,l5)
 else
 chk ((decide (a2=dz 0 a3.length))&&(decide (a3.length<=1000)&&a3.all bn))<|
 um m m (a0,(au 6 a3),a2,a3)
def uo (m:Nat):Nat->Fj->OU0:=aZ (Fv m)
theorem GJ (m:Nat) (n:Nat):uo m (n+1)=Fv m (uo m n):=rfl
def IA (F:Fj->OU0):aQ:=⟨[.lp [0,1,0,1,1],.blk 0,.code [1,1,1]],⟨frm 47 [(0,.z0),(1,.buf 0 1),(5,.z0)],[.fh 1 7 0,.ab (sI 7)],0⟩,onU F⟩
theorem Zk (m:Nat):∀n,HO Vm (JI (um m n)):=an ae QT.right (fun k=>[JI k]) (fun k h=>(aI h az)) fun k a=>by kernel_rfl
theorem YK (m:Nat):∀n,HO Vm (IA (uo m n)):=an ae QT.right (fun k=>[IA k,JI (um m m)]) (fun k h=>(aI h (aI (Zk m m) az))) fun k a=>by kernel_rfl
def t189 (m:Nat):Int × LI0 × LD0->OU0:=fun(a0,a1,a2)=>
 chk ((decide (a1=dz 0 a2.length))&&(decide (a2.length<=1000)&&a2.all bn))<|
 uo m m ((if a0<0 then 0 else a0),(au 6 a2),a1,a2)
theorem acK (m:Nat) (t:Int) (h0:0<=t) (h1:t<=1152921504606846976):∀(k n:Nat) (c:LD0),yW t c<k->k<=n->fm c->
 um m n (t,au 6 c,dz 0 c.length,c)=some [.i (au 6 (vm k t c)),.l (dz 0 c.length),.d (vm k t c)]:=by
 intro k
 induction k with
 |zero=>intro n c h;omega
 |succ k ih=>
  intro n c hm hn hg;obtain⟨n,rfl⟩:=ah n (by omega);have hgb:=gm hg;have hb:=Hz hg;unfold vm;rw[F8];unfold EF;dsimp only;simp only[hgb,zbf,za3,gt_iff_lt]
  by_cases hs:t<au 6 c
  . rw[if_pos hs,aL hs,k9]
    by_cases hj:iT c c.length 0 (-1)<0
    . rw[if_pos hj];simp only[lt_eq];rw[aL hj]
    . rw[if_neg hj];obtain⟨a1,a2,a3,a4⟩:=WK hg hs (by omega);have a5:=gm a2;have:=ih n _ (by omega) (by omega) a2;rw[za1]at this;simp only[lt_eq];have hnr:=di a1 hg.2;rw[ay hj,aa (n:=au 6 c-t) (by omega) (by omega),hnr,zbf,aJ ⟨by omega,a1⟩,a5,za1,zaa rfl,zbb,k9];exact this
  . rw[if_neg hs,ay hs,k9]
theorem abJ (m:Nat) (t:Int) (h0:0<=t) (h1:t<=1152921504606846976):∀(k n:Nat) (c:LD0),Am t c<k->k<=n->c.length+2<=m->fm c->
 uo m n (t,au 6 c,dz 0 c.length,c)=some [.i (au 6 (vm (c.length+2) t (xA k t c))),.l (dz 0 c.length),.d (vm (c.length+2) t (xA k t c))]:=by
 intro k
 induction k with
 |zero=>intro n c h;omega
 |succ k ih=>
  intro n c hm hn hml hg;obtain⟨n,rfl⟩:=ah n (by omega);have hgb:=gm hg;have hb:=Hz hg;unfold xA;rw[GJ];unfold Fv;dsimp only;simp only[hgb,zbf,za3]
  by_cases hs:au 6 c<t
  . rw[if_pos hs,aL hs,k9]
    by_cases hj:iS c c.length 0 (-1)<0
    . rw[if_pos hj];simp only[lt_eq];rw[aL hj,vm,if_neg (by omega)]
    . rw[if_neg hj];obtain⟨a1,a2,a3,a4⟩:=WH hg hs (by omega);have a5:=gm a2;have:=ih n _ (by omega) (by omega) (by rw[za1];exact hml) a2;rw[za1]at this;simp only[lt_eq];have hnr:=di a1 hg.2;rw[ay hj,aa (n:=t-au 6 c) (by omega) (by omega),hnr,zbf,aJ ⟨by omega,a1⟩,a5,za1,zaa rfl,zbb,k9];exact this
  . rw[if_neg hs,ay hs,k9];exact acK m t h0 h1 (c.length+2) m c (Ho t c) hml hg
def f189:Int × LI0 × LD0->Bool × List Un:=fun(a0,a1,a2)=>(decide (a0<=1152921504606846976)&&((decide (a1=dz 0 a2.length))&&(decide (a2.length<=1000)&&a2.all bn)),[.i (au 6 (ly a0 a2)),.l (a1),.d (ly a0 a2)])
theorem RH:ER 189 (mkE Vm.en Vm.ex f189):=ak ae QT.right (fun m=>[IA (uo m m)]) (t:=t189) (by kernel_rfl) (fun m=>(aI (YK m m) az)) (fun m a=>by kernel_rfl) fun(a0,a1,a2) hc=>by
 dsimp only[f189]at hc⊢;simp only[zae,zag,zam]at hc;obtain⟨h0,rfl,h1,h2⟩:=hc;have hg:fm a2:=⟨h1,h2⟩
 refine⟨a2.length+2, ?_⟩;unfold t189 ly;dsimp only;rw[gm hg,zaa rfl,oY,zbb,k9];exact abJ _ (max a0 0) (by omega) (by omega) (a2.length+2) _ a2 (HK _ _) (by omega) (by omega) hg
def Ur:TB:=QT.ad RH
end
end Go.Proofs.YtfaojedfnjdnnaaGreat
