/- Part of a proof: Closing, ClosePlain, Close, Runs, Lines, CallPlain, Call, TheWord, Record, Back, Own, TheMedium, Frame, Journal. Conditions: none. -/
import Derived.Test.YtfaojedfnjdnnaaGreatQ5
set_option linter.unusedVariables false
set_option linter.unusedSimpArgs false
set_option linter.unnecessarySimpa false
set_option linter.unusedSectionVars false
namespace Go.Proofs.YtfaojedfnjdnnaaGreat
noncomputable section
open Go Go.Proofs.YtfaojedfnjdnnaaGreat.Ev
set_option maxRecDepth 20000
@[ext] structure bM where
 call:Bool
 period:Int
 mode:Int
 ar:Int
 fH:Int
 aM:Int
 aT:Int
 draw:Int
 advance:Int
 fee:Int
 due:Int
instance : Uns bM := Uns.via (B := Bool × Int × Int × Int × Int × Int × Int × Int × Int × Int × Int) (fun x => (x.call, x.period, x.mode, x.ar, x.fH, x.aM, x.aT, x.draw, x.advance, x.fee, x.due)) (fun x => match x with | (call, period, mode, ar, fH, aM, aT, draw, advance, fee, due) => ⟨call, period, mode, ar, fH, aM, aT, draw, advance, fee, due⟩) (fun _ => rfl)
@[ext] structure bF where
 dz:Int
 aJ:Int
 bC:Int
 out:Int
 vH:Int
instance : Uns bF := Uns.via (B := Int × Int × Int × Int × Int) (fun x => (x.dz, x.aJ, x.bC, x.out, x.vH)) (fun x => match x with | (dz, aJ, bC, out, vH) => ⟨dz, aJ, bC, out, vH⟩) (fun _ => rfl)
def dD (a:ao) (p bal r:Int):Int:=DE bal r a.basis (gJ a.year a.month 1 p) (gH a.year a.month 1 p) (iT a.year a.month 1 p) (gJ a.year a.month 1 (p+1)) (gH a.year a.month 1 (p+1)) (iT a.year a.month 1 (p+1))
theorem uD {y m p:Int} (h1:1<=y) (h2:y<=9000) (h3:1<=m) (h4:m<=12) (h5:0<=p) (h6:p<=700):1<=gJ y m 1 p/\gJ y m 1 p<=9999/\1<=gH y m 1 p/\gH y m 1 p<=12/\iT y m 1 p=1/\cy (gJ y m 1 p) (gH y m 1 p) (iT y m 1 p)=true/\12*gJ y m 1 p+gH y m 1 p=12*y+m+p:=by
 have l1:=nS (y:=y) (m:=m) h1 (by omega) h3 h4;have hs:iJ y m 1 p=true:=by
  unfold iJ;rw[show cy y m 1=true from dT.2 ⟨by omega,by omega⟩];simp only[zbg,zaf];omega
 unfold gJ gH iT;rw[hs,if_pos rfl,if_pos rfl,if_pos rfl];have l2:=nS (y:=(12*y+m-1+p)/12) (m:=(12*y+m-1+p)%12+1) (by omega) (by omega) (by omega) (by omega);have hd:min 1 (dq ((12*y+m-1+p)/12) ((12*y+m-1+p)%12+1))=1:=by omega
 rw[hd];exact⟨by omega,by omega,by omega,by omega,rfl,dT.2 ⟨by omega,by omega⟩,by omega⟩
theorem El {b y m y' m':Int} (h1:1<=y) (h2:y<=9999) (h3:1<=m) (h4:m<=12) (h5:12*y'+m'=12*y+m+1) (h6:1<=m') (h7:m'<=12) (r1:cy y m 1=true) (r2:cy y' m' 1=true):0<=lh b y m 1 y' m' 1/\lh b y m 1 y' m' 1<=731:=by
 have n1:=sD r1;have n2:=sD r2;have a1:=ql h1;have a2:=ql (y:=y+1) (by omega);have q1:=qY y;have q2:=qY (y+1);unfold lh
 split
 . split
   . unfold com;rw[if_neg (by omega)];omega
   . split
     . rename_i h _ _;have hy:y'=y\/y'=y+1:=by omega
       rcases hy with rfl|rfl<;>omega
     . omega
 . omega
theorem Ki {n b:Int} (p:Int) (hp:p=3600000\/p=3650000) (h1:0<=n) (h2:n<=1099511627776) (h3:0<=b) (h4:b<=3655000):0<=mdV n b p 2/\mdV n b p 2<=1200000000000:=by
 unfold mdV
 split
 . have hm:=zb0 h4 h1;have hz:=za7 h1 h3;have e:=zbi (n*b) p;have r0:=zbK (n*b) (show p≠0 by omega);have d0:0<=n*b/p:=zbC hz (by omega);have d1:n*b/p<=1117000000000:=by
    have:n*b<4018800800000000001:=by omega
    rcases hp with rfl|rfl<;>omega
   unfold mdQ
   split<;>omega
 . omega
theorem qW {a:ao} {p bal:Int} (r:Int) (h1:1<=a.year) (h2:a.year<=9000) (h3:1<=a.month) (h4:a.month<=12) (h5:0<=p) (h6:p<=650) (b0:0<=bal) (b1:bal<=1099511627776):0<=dD a p bal r/\dD a p bal r<=1200000000000:=by
 obtain⟨s1,s2,s3,s4,s5,s6,s7⟩:=uD h1 h2 h3 h4 h5 (by omega);obtain⟨t1,t2,t3,t4,t5,t6,t7⟩:=uD h1 h2 h3 h4 (show 0<=p+1 by omega) (by omega);unfold dD DE;rw[s5]at s6⊢;rw[t5]at t6⊢
 split
 . rename_i hr;have hd:=El (b:=a.basis) s1 s2 s3 s4 (by omega) t3 t4 s6 t6;have k0:=za7 hr.1 hd.1;have k1:=Int.mul_le_mul hr.2 hd.2 hd.1 (show(0:Int)<=5000 by omega);exact Ki _ (by unfold xG;split<;>omega) b0 b1 k0 (by omega)
 . omega
def eY (a:ao) (p:Int) (d:Dat):Dat:=BQ (dD a p (aW d) (d.i 2)) d
theorem Ej {d:Dat} (h:aO d=true):0<=aW d/\aW d<=1099511627776:=by
 have:=cC h;unfold aW;omega
def Vu:aC:=⟨Pm.tab,140,⟨[.ptr 0 0 0,.int .i64],bf 0,0⟩,⟨[.int .i64,.int .i64],bf 0,0⟩,[]⟩
abbrev CW:Type:=Int × Int × Int × Int × ao × aq × ai × List Dat × List Dat × List Dat × List Dat × List Dat × List Dat × List Dat × Int × Int × Int × Int × Int × Int
def vR (m:Nat) (k:CW->Option (List Un)):CW->Option (List Un):=fun(a0,a1,a2,a3,a4,a5,a6,a7,a8,a9,a10,a11,a12,a13,a14,a15,a16,a17,a18,a19)=>
 bif decide (a3<a2)then
 chk (inb a3 a13.length)<|
 chk (decide (a3.toNat<a13.length))<|
 lt (ag a13 a3.toNat:Dat) fun d9=>
 chk (decide (a3.toNat<a13.length))<|
 lt ((DE (w64 (w64 ((d9.i 1)-w64 ((d9.i 3)-(d9.i 4)))-(d9.i 6))) ((ag a13 a3.toNat).i 2) a4.basis a14 a15 a16 a17 a18 a19):Int) fun x12=>
 chk (decide (0<=x12/\x12<=1125899906842624)&&(decide (0<=(a3.toNat:Int)/\(a3.toNat:Int).toNat<a13.length)&&aO (ag a13 (a3.toNat:Int).toNat)))<|
 k (a0,(w64 (a1+x12)),a2,(w64 (a3+1)),a4,a5,a6,a7,a8,a9,a10,a11,a12,(a13.set (a3.toNat:Int).toNat (BQ x12 (ag a13 (a3.toNat:Int).toNat))),a14,a15,a16,a17,a18,a19)
 else
 some ([.i a0,.i a1]++Uns.enc (a4:ao)++Uns.enc (a5:aq)++Uns.enc (a6:ai)++[.d a7,.d a8,.d a9,.d a10,.d a11,.d a12,.d a13])
def qi (m:Nat):Nat->CW->Option (List Un):=bq (vR m)
theorem uz (m:Nat) (n:Nat):qi m (n+1)=vR m (qi m n):=rfl
def FX (F:CW->Option (List Un)):aU:=⟨[.lp [0,1,0,1,1,1,1,1],.blk 0,.code [1,1,1,1,1,1]],⟨frm 88 [(0,.ptr 0 0 0),(6,.ptr 9 0 0),(7,.ptr 10 0 0),(8,.int .i64),(10,.int .i64),(49,.int .i64),(50,.int .i64)],bf 0++[.cells [.int .i64,.int .i64,.int .i64],.cells [.int .i64,.int .i64,.int .i64]],0⟩,onU F⟩
theorem UN (m:Nat):∀n,HO Vu (FX (qi m n)):=au ae Pm.right (fun k=>[FX k]) (fun k h=>(aH h aB)) fun k a=>by kernel_rfl
def t140 (m:Nat):Int × ao × aq × ai × List Dat × List Dat × List Dat × List Dat × List Dat × List Dat × List Dat->Option (List Un):=fun(a0,a1,a2,a3,a4,a5,a6,a7,a8,a9,a10)=>
 lt ((gJ a1.year a1.month 1 a3.period):Int) fun x1=>
 lt ((gH a1.year a1.month 1 a3.period):Int) fun x2=>
 lt ((iT a1.year a1.month 1 a3.period):Int) fun x3=>
 lt ((gJ a1.year a1.month 1 (w64 (a3.period+1))):Int) fun x4=>
 lt ((gH a1.year a1.month 1 (w64 (a3.period+1))):Int) fun x5=>
 lt ((iT a1.year a1.month 1 (w64 (a3.period+1))):Int) fun x6=>
 lt ((DE a0 a2.fee a1.basis x1 x2 x3 x4 x5 x6):Int) fun x7=>
 qi m m (x7,0,(a10.length:Int),0,a1,a2,({a3 with fee:=(w64 (a3.fee+x7))}:ai),a4,a5,a6,a7,a8,a9,a10,x1,x2,x3,x4,x5,x6)
theorem R5 (m:Nat) (fe:Int) (xa:ao) (xb:aq) (xn:ai) (x1 x2 x3 x4 x5 x6:List Dat) (p:Int) (hf:∀d,aO d=true->0<=dD xa p (aW d) (d.i 2)/\dD xa p (aW d) (d.i 2)<=1200000000000):∀(rest pre:List Dat) (n:Nat) (s:Int),rest.length<n->(pre++rest).length<=1000->(∀d∈rest,aO d=true)->0<=s->s<=1200000000000*pre.length->
 qi m n (fe,s,((pre++rest).length:Int),(pre.length:Int),xa,xb,xn,x1,x2,x3,x4,x5,x6,pre++rest,gJ xa.year xa.month 1 p,gH xa.year xa.month 1 p,iT xa.year xa.month 1 p,gJ xa.year xa.month 1 (p+1),gH xa.year xa.month 1 (p+1),iT xa.year xa.month 1 (p+1))=
  some ([.i fe,.i (s+bE (fun d=>dD xa p (aW d) (d.i 2)) rest)]++Uns.enc xa++Uns.enc xb++Uns.enc xn++[.d x1,.d x2,.d x3,.d x4,.d x5,.d x6,.d (pre++rest.map (eY xa p))]):=by
 intro rest
 induction rest with
 |nil=>
  intro pre n s hn hl hg s0 s1;obtain⟨n,rfl⟩:=ak n (by simp at hn;omega);rw[uz];unfold vR;dsimp only;simp[az,bE]
 |cons x rest ih=>
  intro pre n s hn hl hg s0 s1;obtain⟨n,rfl⟩:=ak n (by simp at hn;omega);simp only[zac,zab]at hn hl;have hx:=cC (hg x (by simp));have hb:=hf x (hg x (by simp));have hgx:=hg x (by simp);have:=ih (pre++[eY xa p x]) n (s+dD xa p (aW x) (x.i 2)) (by omega) (by simp;omega) (fun d hd=>hg d (by simp[hd])) (by omega) (by simp;omega);have e:w64 (w64 (x.i 1-w64 (x.i 3-x.i 4))-x.i 6)=aW x:=by rw[ab (n:=x.i 3-x.i 4) (by omega) (by omega),ab (n:=x.i 1-_) (by omega) (by omega),ab (by omega) (by omega)];rfl
  have e2:∀z,DE z (x.i 2) xa.basis (gJ xa.year xa.month 1 p) (gH xa.year xa.month 1 p) (iT xa.year xa.month 1 p) (gJ xa.year xa.month 1 (p+1)) (gH xa.year xa.month 1 (p+1)) (iT xa.year xa.month 1 (p+1))=dD xa p z (x.i 2):=fun z=>rfl
  rw[uz];unfold vR;dsimp only;simp only[bE,zaS,LNi,aD,lt_eq,e,e2,hgx,zbh,Ca];rw[show BQ (dD xa p (aW x) (x.i 2)) x=eY xa p x from rfl];simp(disch:=omega) only[TRa,TRi,ab,LNl,LNi,zad,aD];simp only[LNl,LNi,zad]at this⊢;exact this
def f140:Int × ao × aq × ai × List Dat × List Dat × List Dat × List Dat × List Dat × List Dat × List Dat->Bool × List Un:=fun(a0,a1,a2,a3,a4,a5,a6,a7,a8,a9,a10)=>(decide ((1<=a1.year/\a1.year<=9000/\1<=a1.month/\a1.month<=12)/\(0<=a3.period/\a3.period<=600)/\(0<=a3.fee/\a3.fee<=1125899906842624)/\(0<=a0/\a0<=1099511627776))&&(decide (a10.length<=1000)&&a10.all aO),[.i (dD a1 a3.period a0 a2.fee),.i (bE (fun d=>dD a1 a3.period (aW d) (d.i 2)) a10)]++Uns.enc ((a1):ao)++Uns.enc ((a2):aq)++Uns.enc (({a3 with fee:=a3.fee+dD a1 a3.period a0 a2.fee}):ai)++[.d (a4),.d (a5),.d (a6),.d (a7),.d (a8),.d (a9),.d (a10.map (eY a1 a3.period))])
theorem RL (a0:Int) (a1:ao) (a2:aq) (a3:ai) (a4:List Dat) (a5:List Dat) (a6:List Dat) (a7:List Dat) (a8:List Dat) (a9:List Dat) (a10:List Dat) (hc:(decide ((1<=a1.year/\a1.year<=9000/\1<=a1.month/\a1.month<=12)/\(0<=a3.period/\a3.period<=600)/\(0<=a3.fee/\a3.fee<=1125899906842624)/\(0<=a0/\a0<=1099511627776))&&(decide (a10.length<=1000)&&a10.all aO))=true):∃m,t140 m (a0,a1,a2,a3,a4,a5,a6,a7,a8,a9,a10)=some ([.i (dD a1 a3.period a0 a2.fee),.i (bE (fun d=>dD a1 a3.period (aW d) (d.i 2)) a10)]++Uns.enc ((a1):ao)++Uns.enc ((a2):aq)++Uns.enc (({a3 with fee:=a3.fee+dD a1 a3.period a0 a2.fee}):ai)++[.d (a4),.d (a5),.d (a6),.d (a7),.d (a8),.d (a9),.d (a10.map (eY a1 a3.period))]):=by
 simp only[zae,zaf,zao]at hc;obtain⟨⟨⟨h1,h2,h3,h4⟩,⟨h5,h6⟩,⟨h7,h8⟩,h9,h10⟩,h11,h12⟩:=hc;have hs:=qW a2.fee h1 h2 h3 h4 h5 (show a3.period<=650 by omega) h9 h10;have hf:∀d,aO d=true->0<=dD a1 a3.period (aW d) (d.i 2)/\dD a1 a3.period (aW d) (d.i 2)<=1200000000000:=fun d hd=>qW _ h1 h2 h3 h4 h5 (by omega) (Ej hd).1 (Ej hd).2
 refine⟨a10.length+1, ?_⟩;unfold t140;dsimp only[lt];rw[ab (n:=a3.period+1) (by omega) (by omega)];refine(show qi _ _ (dD a1 a3.period a0 a2.fee,0,(a10.length:Int),0,a1,a2,{a3 with fee:=w64 (a3.fee+dD a1 a3.period a0 a2.fee)},a4,a5,a6,a7,a8,a9,a10,_,_,_,_,_,_)=_ from ?_);rw[ab (n:=a3.fee+_) (by omega) (by omega)];exact(R5 _ _ a1 a2 _ a4 a5 a6 a7 a8 a9 a3.period hf a10 [] (a10.length+1) 0 (by omega) (by simpa using h11) h12 (by omega) (by simp)).trans (by simp only[za3,zat])
theorem MZ:ER 140 (mkE Vu.en Vu.ex f140):=an ae Pm.right (fun m=>[FX (qi m m)]) (t:=t140) (by kernel_rfl) (fun m=>(aH (UN m m) aB)) (fun m a=>by kernel_rfl) fun(a0,a1,a2,a3,a4,a5,a6,a7,a8,a9,a10) hc=>RL a0 a1 a2 a3 a4 a5 a6 a7 a8 a9 a10 hc
def Sa:Tb Tryz.prog LQ TE XX:=Pm.add 140 _ MZ
def DQ (x:Int) (d:Dat):Int:=max (min x (d.i 5)) 0
def po (x:Int) (d:Dat):Dat:= .r [.n (d.i 0),.n (d.i 1),.n (d.i 2),.n (d.i 3),.n (d.i 4),.n (d.i 5-DQ x d),.n (d.i 6)]
def ku (n:ai) (p:Dat):ai:=if p.i 1=1 then {n with fee:=n.fee-p.i 3}else if p.i 1=2 then {n with out:=n.out-p.i 3}else if p.i 1=6 then {n with rin:=n.rin+p.i 3}else n
def mH (c:List Dat) (p:Dat):List Dat:=if p.i 1=1 then c else if p.i 1=2 then c else if p.i 1=6 then c else if p.i 1=3 then c.set (p.i 2).toNat (po (p.i 3) (ag c (p.i 2).toNat))else c.set (p.i 2).toNat (vK (p.i 3) (ag c (p.i 2).toNat))
def du:List Dat->ai->List Dat->ai × List Dat
 |[],n,c=>(n,c)
 |p::l,n,c=>du l (ku n p) (mH c p)
def G7 (k:Nat) (p:Dat):Bool:=decide (0<=p.i 3)&&(decide (p.i 1=1\/p.i 1=2\/p.i 1=6)||decide (0<=p.i 2/\p.i 2<(k:Int)))
theorem vL {k:Nat} {p:Dat} (h:G7 k p=true):0<=p.i 3/\((p.i 1=1\/p.i 1=2\/p.i 1=6)\/(0<=p.i 2/\p.i 2<(k:Int))):=by
 simp only[G7,zae,zba,zaf]at h;exact h
def qU (l:List Dat) (n:ai) (c:List Dat):Bool:=decide (l.length<=1000000)&&(l.all (G7 c.length)&&(decide (al 3 l<=144115188075855872/\(0<=n.fee/\n.fee<=144115188075855872)/\(0<=n.out/\n.out<=144115188075855872)/\(0<=n.rin/\n.rin<=144115188075855872))&&(decide (c.length<=1000)&&c.all aO)))
theorem Bd (c:List Dat) (p:Dat):(mH c p).length=c.length:=by
 unfold mH;repeat' split
 all_goals simp
theorem Bp {d:Dat} (x:Int) (h:aO d=true):aO (po x d)=true:=by
 have:=cC h;refine zaa ?_
 simp only[po,DQ,fP,gL,yu,qm,qM];omega
theorem FN {c:List Dat} {p:Dat} (hp:G7 c.length p=true) (h:eB c):eB (mH c p):=by
 have hp:=vL hp;unfold mH
 by_cases h1:p.i 1=1
 . rw[if_pos h1];exact h
 rw[if_neg h1]
 by_cases h2:p.i 1=2
 . rw[if_pos h2];exact h
 rw[if_neg h2]
 by_cases h3:p.i 1=6
 . rw[if_pos h3];exact h
 rw[if_neg h3];have hj:(p.i 2).toNat<c.length:=by omega
 split
 . exact pt h (Bp _ (cA hj h.2))
 . exact pt h (J6 _ (cA hj h.2))
def VI:aC:=⟨Sa.tab,147,⟨[.np 0 0 0,.af (sI 4)],bf 0,0⟩,⟨[],bf 0,0⟩,[]⟩
abbrev B7:Type:=Int × List Dat × Int × Int × ao × aq × ai × List Dat × List Dat × List Dat × List Dat × List Dat × List Dat × List Dat
def wF (m:Nat) (k:B7->Option (List Un)):B7->Option (List Un):=fun(a0,a1,a2,a3,a4,a5,a6,a7,a8,a9,a10,a11,a12,a13)=>
 bif decide (a3<a2)then
 chk (inb a3 a1.length)<|
 chk (decide (a3.toNat<a1.length))<|
 lt (ag a1 a3.toNat:Dat) fun d1=>
 bif (d1.i 1)==1 then
 chk (decide (0<=a0))<|
 chk (decide (0<=a0))<|
 k (a0,a1,a2,(w64 (a3+1)),a4,a5,({a6 with fee:=(w64 (a6.fee-(d1.i 3)))}:ai),a7,a8,a9,a10,a11,a12,a13)
 else
 bif (d1.i 1)==2 then
 chk (decide (0<=a0))<|
 chk (decide (0<=a0))<|
 k (a0,a1,a2,(w64 (a3+1)),a4,a5,({a6 with out:=(w64 (a6.out-(d1.i 3)))}:ai),a7,a8,a9,a10,a11,a12,a13)
 else
 bif (d1.i 1)==6 then
 chk (decide (0<=a0))<|
 chk (decide (0<=0)&&decide ((0:Int)<=a6.rin/\(0:Int)<=(d1.i 3)/\a6.rin+(d1.i 3)<=(1152921504606846976:Int)))<|
 k (a0,a1,a2,(w64 (a3+1)),a4,a5,({a6 with rin:=a6.rin+(d1.i 3)}),a7,a8,a9,a10,a11,a12,a13)
 else
 bif (d1.i 1)==3 then
 chk (decide (0<=a0))<|
 chk (inb (d1.i 2) a13.length)<|
 chk (decide ((d1.i 2).toNat<a13.length))<|
 lt (ag a13 ((d1.i 2).toNat):Dat) fun d5=>
 lt ((if (d5.i 5)<(d1.i 3)then(d5.i 5)else(d1.i 3)):Int) fun x6=>
 chk (decide ((d1.i 2).toNat<a13.length))<|
 chk (decide ((d1.i 2).toNat<a13.length))<|
 lt (ag a13 ((d1.i 2).toNat):Dat) fun d9=>
 k (a0,a1,a2,(w64 (a3+1)),a4,a5,a6,a7,a8,a9,a10,a11,a12,(List.set a13 ((d1.i 2).toNat) (.r [.n (d9.i 0),.n (d9.i 1),.n (d9.i 2),.n (d9.i 3),.n (d9.i 4),.n (w64 (((ag a13 ((d1.i 2).toNat)).i 5)-(if x6<0 then 0 else x6))),.n (d9.i 6)])))
 else
 chk (decide (0<=a0))<|
 chk (inb (d1.i 2) a13.length)<|
 chk (decide (0<=((d1.i 2).toNat:Int)/\((d1.i 2).toNat:Int).toNat<a13.length)&&aO (ag a13 ((d1.i 2).toNat:Int).toNat))<|
 k (a0,a1,a2,(w64 (a3+1)),a4,a5,a6,a7,a8,a9,a10,a11,a12,(a13.set ((d1.i 2).toNat:Int).toNat (vK (d1.i 3) (ag a13 ((d1.i 2).toNat:Int).toNat))))
 else
 some (Uns.enc (a4:ao)++Uns.enc (a5:aq)++Uns.enc (a6:ai)++[.d a7,.d a8,.d a9,.d a10,.d a11,.d a12,.d a13])
def tI (m:Nat):Nat->B7->Option (List Un):=bq (wF m)
theorem vB (m:Nat) (n:Nat):tI m (n+1)=wF m (tI m n):=rfl
def F2 (F:B7->Option (List Un)):aU:=⟨[.lp [0,1],.blk 0],⟨frm 67 [(0,.np 0 0 0),(6,.af (sI 4)),(7,.int .i64),(8,.int .i64)],bf 0,0⟩,onU F⟩
theorem Wv (m:Nat):∀n,HO VI (F2 (tI m n)):=au ae Sa.right (fun k=>[F2 k]) (fun k h=>(aH h aB)) fun k a=>by kernel_rfl
def t147 (m:Nat):Int × List Dat × ao × aq × ai × List Dat × List Dat × List Dat × List Dat × List Dat × List Dat × List Dat->Option (List Un):=fun(a0,a1,a2,a3,a4,a5,a6,a7,a8,a9,a10,a11)=>
 tI m m (a0,a1,(a1.length:Int),0,a2,a3,a4,a5,a6,a7,a8,a9,a10,a11)
theorem Vd (m:Nat) (p0:Int) (hp0:0<=p0) (xa:ao) (xb:aq) (x1 x2 x3 x4 x5 x6:List Dat):∀(rest pre:List Dat) (n:Nat) (y:ai) (c:List Dat),rest.length<n->(pre++rest).length<=1000000->(∀d∈rest,G7 c.length d=true)->eB c->
 (-288230376151711744<=y.fee-al 3 rest/\y.fee<=288230376151711744)->(-288230376151711744<=y.out-al 3 rest/\y.out<=288230376151711744)->(0<=y.rin/\y.rin+al 3 rest<=576460752303423488)->
 tI m n (p0,pre++rest,((pre++rest).length:Int),(pre.length:Int),xa,xb,y,x1,x2,x3,x4,x5,x6,c)=some (Uns.enc xa++Uns.enc xb++Uns.enc (du rest y c).1++[.d x1,.d x2,.d x3,.d x4,.d x5,.d x6,.d (du rest y c).2]):=by
 intro rest
 induction rest with
 |nil=>
  intro pre n y c hn hl hp hg f1 f2 f3;obtain⟨n,rfl⟩:=ak n (by simp at hn;omega);rw[vB];unfold wF;dsimp only;simp[az,du]
 |cons x rest ih=>
  intro pre n y c hn hl hp hg f1 f2 f3;obtain⟨n,rfl⟩:=ak n (by simp at hn;omega);simp only[zac,zab]at hn hl;have hx:=vL (hp x (by simp));have hr:=fun d hd=>hp d (zaN _ hd)
  have hs:=fw 3 rest fun d hd=>(vL (hr d hd)).1
  have hT:=FN (hp x (by simp)) hg;have hN:(-288230376151711744<=(ku y x).fee-al 3 rest/\(ku y x).fee<=288230376151711744)/\(-288230376151711744<=(ku y x).out-al 3 rest/\(ku y x).out<=288230376151711744)/\(0<=(ku y x).rin/\(ku y x).rin+al 3 rest<=576460752303423488):=by
   simp only[al]at f1 f2 f3;unfold ku
   by_cases h1:x.i 1=1
   . rw[if_pos h1];simp only;omega
   rw[if_neg h1]
   by_cases h2:x.i 1=2
   . rw[if_pos h2];simp only;omega
   rw[if_neg h2]
   by_cases h3:x.i 1=6
   . rw[if_pos h3];simp only;omega
   rw[if_neg h3];omega
  have:=ih (pre++[x]) n (ku y x) (mH c x) (by omega) (by simp;omega) (by rw[Bd];exact hr) hT hN.1 hN.2.1 hN.2.2;simp only[al]at f1 f2 f3;simp only[du];rw[vB];unfold wF;dsimp only;unfold ku mH at this⊢
  by_cases h1:x.i 1=1
  . simp only[if_pos h1]at this⊢;simp(disch:=omega) only[TRa,TRi,ab,LNl,LNi,zad,aD];simp only[LNl,LNi,zad]at this⊢;exact this
  simp only[if_neg h1]at this⊢
  by_cases h2:x.i 1=2
  . simp only[if_pos h2]at this⊢;simp(disch:=omega) only[TRa,TRi,ab,LNl,LNi,zad,aD];simp only[LNl,LNi,zad]at this⊢;exact this
  simp only[if_neg h2]at this⊢
  by_cases h6:x.i 1=6
  . simp only[if_pos h6]at this⊢;simp only[show decide ((0:Nat)<=0)=true from rfl,zbg];simp(disch:=omega) only[TRa,TRi,ab,LNl,LNi,zad,aD];simp only[LNl,LNi,zad]at this⊢;exact this
  simp only[if_neg h6]at this⊢;have hj:(x.i 2).toNat<c.length:=by omega
  have hd:=cC (cA hj hg.2);have hd2:=cA hj hg.2;have hjn:(((x.i 2).toNat:Int)).toNat=(x.i 2).toNat:=zay _
  by_cases h3:x.i 1=3
  . simp only[if_pos h3]at this⊢;have e:(if (if (ag c (x.i 2).toNat).i 5<x.i 3 then(ag c (x.i 2).toNat).i 5 else x.i 3)<0 then 0 else(if (ag c (x.i 2).toNat).i 5<x.i 3 then(ag c (x.i 2).toNat).i 5 else x.i 3))=DQ (x.i 3) (ag c (x.i 2).toNat):=by unfold DQ;omega
    have hv:0<=DQ (x.i 3) (ag c (x.i 2).toNat)/\DQ (x.i 3) (ag c (x.i 2).toNat)<=(ag c (x.i 2).toNat).i 5:=by unfold DQ;omega
    simp(disch:=omega) only[lt_eq,cJ,aP,aQ,eg,dB,LNl,LNi,zad,aD,e];rw[ab (n:=(ag c (x.i 2).toNat).i 5-_) (by omega) (by omega),ab (by omega) (by omega)];unfold po at this;simp only[LNl,LNi,zad]at this⊢;exact this
  . simp only[if_neg h3]at this⊢;simp(disch:=omega) only[lt_eq,cJ,aP,aQ,eg,dB,LNl,LNi,zad,aD,hd2,zbh];rw[ab (by omega) (by omega)];simp only[LNl,LNi,zad]at this⊢;exact this
def f147:Int × List Dat × ao × aq × ai × List Dat × List Dat × List Dat × List Dat × List Dat × List Dat × List Dat->Bool × List Un:=fun(a0,a1,a2,a3,a4,a5,a6,a7,a8,a9,a10,a11)=>(decide (0<=a0)&&qU a1 a4 a11,Uns.enc ((a2):ao)++Uns.enc ((a3):aq)++Uns.enc (((du a1 a4 a11).1):ai)++[.d (a5),.d (a6),.d (a7),.d (a8),.d (a9),.d (a10),.d ((du a1 a4 a11).2)])
theorem Pl (a0:Int) (a1:List Dat) (a2:ao) (a3:aq) (a4:ai) (a5:List Dat) (a6:List Dat) (a7:List Dat) (a8:List Dat) (a9:List Dat) (a10:List Dat) (a11:List Dat) (hc:(decide (0<=a0)&&qU a1 a4 a11)=true):∃m,t147 m (a0,a1,a2,a3,a4,a5,a6,a7,a8,a9,a10,a11)=some (Uns.enc ((a2):ao)++Uns.enc ((a3):aq)++Uns.enc (((du a1 a4 a11).1):ai)++[.d (a5),.d (a6),.d (a7),.d (a8),.d (a9),.d (a10),.d ((du a1 a4 a11).2)]):=by
 simp only[qU,zae,zaf,zao]at hc;obtain⟨h0,h1,h2,⟨h3,h4,h5,h6⟩,h7,h8⟩:=hc;have hs:=fw 3 a1 fun d hd=>(vL (h2 d hd)).1
 refine⟨a1.length+1, ?_⟩;exact Vd _ a0 h0 a2 a3 a5 a6 a7 a8 a9 a10 a1 [] (a1.length+1) a4 a11 (by omega) (by simpa using h1) h2 ⟨h7,h8⟩ (by omega) (by omega) (by omega)
theorem Mk:ER 147 (mkE VI.en VI.ex f147):=an ae Sa.right (fun m=>[F2 (tI m m)]) (t:=t147) (by kernel_rfl) (fun m=>(aH (Wv m m) aB)) (fun m a=>by kernel_rfl) fun(a0,a1,a2,a3,a4,a5,a6,a7,a8,a9,a10,a11) hc=>Pl a0 a1 a2 a3 a4 a5 a6 a7 a8 a9 a10 a11 hc
def QN:Tb Tryz.prog LQ TE XX:=Sa.add 147 _ Mk
def yU (parts aJ has:Int):Int:=max (mdV aJ parts 10000 0-has) 0
def gh (d:Dat):Dat:= .r [.n (d.i 0),.n (aW d),.n (d.i 5)]
theorem WN (n b p h:Int):0<=mdV n b p h/\mdV n b p h<=1152921504606846976:=by
 unfold mdV
 split
 . rename_i hk;simp only[qp,zaf]at hk;have:0<=n*b/p:=zbC (za7 hk.1 (by omega)) (by omega);refine⟨?_,by omega⟩;unfold mdQ
   split<;>omega
 . omega
theorem B8 {l:List Dat} (h1:l.length<=1000) (h2:∀d∈l,dw d=true):0<=al 1 l/\al 1 l<=1099511627776000:=by
 have:=Bu 1 1099511627776 l fun d hd=>rJ (h2 d hd)
 omega
def TG:aC:=⟨QN.tab,145,⟨[.ptr 0 0 0,.agg [.int .i64,.int .i64,.int .i64,.int .i64]],bf 0,9⟩,⟨[.agg [.int .i64,.int .i64,.int .i64,.int .i64,.buf 9 3]],bf 0++[.af (sI 3)],9⟩,[]⟩
abbrev BM:Type:=Int × Int × ao × aq × ai × List Dat × List Dat × List Dat × List Dat × List Dat × List Dat × List Dat × Int × Int × Int × Int × Int × Int × Int × Int × List Dat × List Dat
def vY (m:Nat) (k:BM->Option (List Un)):BM->Option (List Un):=fun(a0,a1,a2,a3,a4,a5,a6,a7,a8,a9,a10,a11,a12,a13,a14,a15,a16,a17,a18,a19,a20,a21)=>
 bif decide (a1<a0)then
 chk (inb a1 a11.length)<|
 chk (decide (a1.toNat<a11.length))<|
 lt (ag a11 a1.toNat:Dat) fun d8=>
 chk (fits (a21.length+1) 24)<|
 k (a0,(w64 (a1+1)),a2,a3,a4,a5,a6,a7,a8,a9,a10,a11,a12,a13,a14,a15,a16,a17,a18,a19,a20,(a21++([.r [.n (d8.i 0),.n (w64 (w64 ((d8.i 1)-w64 ((d8.i 3)-(d8.i 4)))-(d8.i 6))),.n (d8.i 5)]])))
 else
 some ([.i a16,.i a17,.i a18,.i a19]++Uns.enc (a2:ao)++Uns.enc (a3:aq)++Uns.enc (a4:ai)++[.d a5,.d a6,.d a7,.d a8,.d a9,.d a10,.d a11,.d a21])
def qE (m:Nat):Nat->BM->Option (List Un):=bq (vY m)
theorem vA (m:Nat) (n:Nat):qE m (n+1)=vY m (qE m n):=rfl
def GL (F:BM->Option (List Un)):aU:=⟨[.lp [0,1,0,1,1,1],.blk 0,.code [1,1,1,1]],⟨frm 78 [(4,.ptr 9 0 0),(9,.ptr 10 0 0),(57,.buf 8 7),(58,.int .i64),(59,.int .i64)],bf 0++[.cells [.int .i64,.int .i64,.int .i64,.int .i64,.buf 11 3],.cells [.int .i64,.int .i64,.int .i64,.int .i64,.buf 12 3],.af (sI 3),.af (sI 3)],9⟩,onU F⟩
theorem Wk (m:Nat):∀n,HO TG (GL (qE m n)):=au ae QN.right (fun k=>[GL k]) (fun k h=>(aH h aB)) fun k a=>by kernel_rfl
def t145 (m:Nat):Int × Int × Int × Int × ao × aq × ai × List Dat × List Dat × List Dat × List Dat × List Dat × List Dat × List Dat->Option (List Un):=fun(a0,a1,a2,a3,a4,a5,a6,a7,a8,a9,a10,a11,a12,a13)=>
 chk (decide (0<=0)&&(decide (a13.length<=1000)&&a13.all aO))<|
 lt ((w64 ((w64 (a0+a3))+a2)):Int) fun x1=>
 chk (decide (0<([.r [.r a12]]:List Dat).length)&&(decide (((ag ([.r [.r a12]]:List Dat) 0).d 0).length<=1000)&&((ag ([.r [.r a12]]:List Dat) 0).d 0).all dw))<|
 lt ((w64 (a6.rin-a6.aR)):Int) fun x4=>
 lt ((mdV (al 1 ((ag ([.r [.r a12]]:List Dat) 0).d 0)) a5.target 10000 0):Int) fun x5=>
 qE m m ((a13.length:Int),0,a4,a5,a6,a7,a8,a9,a10,a11,a12,a13,0,0,0,0,a6.fee,a6.out,(if (bE aW a13)<x1 then(bE aW a13)else x1),(if (w64 (x5-x4))<0 then 0 else(w64 (x5-x4))),[],[])
theorem Yw (m:Nat) (xa:ao) (xb:aq) (xn:ai) (x1 x2 x3 x4 x5 x6 z0:List Dat) (z1 z2 z3 z4 w1 w2 w3 w4:Int):∀(rest pre:List Dat) (n:Nat),rest.length<n->(pre++rest).length<=1000->(∀d∈rest,aO d=true)->
 qE m n (((pre++rest).length:Int),(pre.length:Int),xa,xb,xn,x1,x2,x3,x4,x5,x6,pre++rest,z1,z2,z3,z4,w1,w2,w3,w4,z0,pre.map gh)=
  some ([.i w1,.i w2,.i w3,.i w4]++Uns.enc xa++Uns.enc xb++Uns.enc xn++[.d x1,.d x2,.d x3,.d x4,.d x5,.d x6,.d (pre++rest),.d ((pre++rest).map gh)]):=by
 intro rest
 induction rest with
 |nil=>
  intro pre n hn hl hg;obtain⟨n,rfl⟩:=ak n (by simp at hn;omega);rw[vA];unfold vY;dsimp only;simp[az]
 |cons x rest ih=>
  intro pre n hn hl hg;obtain⟨n,rfl⟩:=ak n (by simp at hn;omega);simp only[zac,zab]at hn hl;have e:=Mq (hg x (by simp));have:=ih (pre++[x]) n (by omega) (by simp;omega) (fun d hd=>hg d (by simp[hd]));rw[List.map_append,show[x].map gh=[.r [.n (x.i 0),.n (aW x),.n (x.i 5)]] from rfl]at this;rw[vA];unfold vY;dsimp only;simp only[LNi,aD,lt_eq,e];simp(disch:=omega) only[TRa,TRi,ab,LNl,LNi,zad,aD];simp only[LNl,LNi,zad]at this⊢;exact this
def f145:Int × Int × Int × Int × ao × aq × ai × List Dat × List Dat × List Dat × List Dat × List Dat × List Dat × List Dat->Bool × List Un:=fun(a0,a1,a2,a3,a4,a5,a6,a7,a8,a9,a10,a11,a12,a13)=>(decide (((0<=a0/\a0<=1125899906842624)/\(0<=a2/\a2<=1125899906842624)/\(0<=a3/\a3<=1125899906842624))/\(0<=a6.aR/\a6.aR<=a6.rin/\a6.rin<=1152921504606846976))&&((decide (a12.length<=1000)&&a12.all dw)&&(decide (a13.length<=1000)&&a13.all aO)),[.i (a6.fee),.i (a6.out),.i (min (a0+a3+a2) (bE aW a13)),.i (yU a5.target (al 1 a12) (a6.rin-a6.aR))]++Uns.enc ((a4):ao)++Uns.enc ((a5):aq)++Uns.enc ((a6):ai)++[.d (a7),.d (a8),.d (a9),.d (a10),.d (a11),.d (a12),.d (a13),.d (a13.map gh)])
theorem OR (a0:Int) (a1:Int) (a2:Int) (a3:Int) (a4:ao) (a5:aq) (a6:ai) (a7:List Dat) (a8:List Dat) (a9:List Dat) (a10:List Dat) (a11:List Dat) (a12:List Dat) (a13:List Dat) (hc:(decide (((0<=a0/\a0<=1125899906842624)/\(0<=a2/\a2<=1125899906842624)/\(0<=a3/\a3<=1125899906842624))/\(0<=a6.aR/\a6.aR<=a6.rin/\a6.rin<=1152921504606846976))&&((decide (a12.length<=1000)&&a12.all dw)&&(decide (a13.length<=1000)&&a13.all aO)))=true):∃m,t145 m (a0,a1,a2,a3,a4,a5,a6,a7,a8,a9,a10,a11,a12,a13)=some ([.i (a6.fee),.i (a6.out),.i (min (a0+a3+a2) (bE aW a13)),.i (yU a5.target (al 1 a12) (a6.rin-a6.aR))]++Uns.enc ((a4):ao)++Uns.enc ((a5):aq)++Uns.enc ((a6):ai)++[.d (a7),.d (a8),.d (a9),.d (a10),.d (a11),.d (a12),.d (a13),.d (a13.map gh)]):=by
 simp only[zae,zaf,zao]at hc;obtain⟨⟨⟨h1,h2,h3⟩,h4,h5,h6⟩,⟨h7,h8⟩,h9,h10⟩:=hc;have hg:eB a13:=⟨h9,h10⟩
 have hb:=B8 h7 h8;have hs:=(iW a13 h10).1;have hm:=WN (al 1 a12) a5.target 10000 0;have hlb:(decide (a12.length<=1000)&&a12.all dw)=true:=by rw[zae,zao];exact⟨zaa h7,h8⟩
 refine⟨a13.length+1, ?_⟩;unfold t145 yU;dsimp only[lt];refine av (by rw[eL hg];rfl) ?_
 refine av (zas.2 ⟨rfl,hlb⟩) ?_
 change qE _ _ (_,_,_,_,_,_,_,_,_,_,_,_,_,_,_,_,_,_,(if bE aW a13<w64 (w64 (a0+a3)+a2)then bE aW a13 else w64 (w64 (a0+a3)+a2)),(if w64 (mdV (al 1 a12) a5.target 10000 0-w64 (a6.rin-a6.aR))<0 then 0 else w64 (mdV (al 1 a12) a5.target 10000 0-w64 (a6.rin-a6.aR))),_,_)=_;rw[ab (n:=a0+a3) (by omega) (by omega),ab (n:=a0+a3+a2) (by omega) (by omega),ab (n:=a6.rin-a6.aR) (by omega) (by omega),ab (n:=mdV _ _ _ _-_) (by omega) (by omega)];rw[show(if bE aW a13<a0+a3+a2 then bE aW a13 else a0+a3+a2)=min (a0+a3+a2) (bE aW a13) by omega,show ∀z:Int,(if z<0 then 0 else z)=max z 0 from fun z=>by omega];exact Yw _ a4 a5 a6 a7 a8 a9 a10 a11 a12 _ _ _ _ _ _ _ _ _ a13 [] (a13.length+1) (by omega) (by simpa using h9) h10
theorem KK:ER 145 (mkE TG.en TG.ex f145):=an ae QN.right (fun m=>[GL (qE m m)]) (t:=t145) (by kernel_rfl) (fun m=>(aH (Wk m m) aB)) (fun m a=>by kernel_rfl) fun(a0,a1,a2,a3,a4,a5,a6,a7,a8,a9,a10,a11,a12,a13) hc=>OR a0 a1 a2 a3 a4 a5 a6 a7 a8 a9 a10 a11 a12 a13 hc
def Qa:Tb Tryz.prog LQ TE XX:=QN.add 145 _ KK
theorem zp:∀(k:Nat) (n:Int),cM n k++[n+k]=cM n (k+1)
 |0,n=>by simp[cM]
 |k+1,n=>by
  have:=zp k (n+1);simp only[cM,zaI,zaG,zad]at this⊢;rw[<-this,show n+1+(k:Int)=n+((k:Int)+1) by omega]
theorem xk (u p l r:Int):0<=dA u p l r/\dA u p l r<=max u 0/\dA u p l r<=max (u-p) 0/\dA u p l r<=max (l-r) 0:=by unfold dA;omega
def Vr:aC:=⟨Qa.tab,148,⟨[.ptr 0 0 0,.agg [.int .i64,.int .i64,.int .i64,.int .i64]],bf 0,0⟩,⟨[],bf 0,0⟩,[]⟩
abbrev Cv:Type:=Int × Int × Int × ao × aq × ai × List Dat × List Dat × List Dat × List Dat × List Dat × List Dat × List Dat × List Int
def v9 (m:Nat) (k:Cv->Option (List Un)):Cv->Option (List Un):=fun(a0,a1,a2,a3,a4,a5,a6,a7,a8,a9,a10,a11,a12,a13)=>
 bif decide (a2<a1)then
 chk (inb a2 a12.length)<|
 chk (fits (a13.length+([(a2.toNat:Int)]).length) 8)<|
 k (a0,a1,(w64 (a2+1)),a3,a4,a5,a6,a7,a8,a9,a10,a11,a12,(a13++([(a2.toNat:Int)])))
 else
 chk (decide (0<([.r [.r a11]]:List Dat).length)&&(decide (((ag ([.r [.r a11]]:List Dat) 0).d 0).length<=1000)&&((ag ([.r [.r a11]]:List Dat) 0).d 0).all dw))<|
 lt ((al 1 ((ag ([.r [.r a11]]:List Dat) 0).d 0)):Int) fun x1=>
 chk (decide ((-1152921504606846976<=a0/\a0<=1152921504606846976)/\(-1152921504606846976<=x1/\x1<=1152921504606846976)/\(-1152921504606846976<=a5.aM/\a5.aM<=1152921504606846976)/\(-1152921504606846976<=a5.aT/\a5.aT<=1152921504606846976)))<|
 chk (decide ((dA a0 x1 a5.aM a5.aT)<=1152921504606846976)&&((decide (a13=cM 0 a12.length))&&(decide (a12.length<=1000)&&a12.all aO)))<|
 some (Uns.enc (a3:ao)++Uns.enc (a4:aq)++Uns.enc (a5:ai)++[.d a6,.d a7,.d a8,.d a9,.d a10,.d a11,.d (hG (dA a0 x1 a5.aM a5.aT) a12)])
def th (m:Nat):Nat->Cv->Option (List Un):=bq (v9 m)
theorem vb (m:Nat) (n:Nat):th m (n+1)=v9 m (th m n):=rfl
def Hc (F:Cv->Option (List Un)):aU:=⟨[.lp [0,1,0,1,1,1,1,1],.blk 0,.code [1,1,1,1,1,1]],⟨frm 70 [(0,.ptr 0 0 0),(7,.int .i64),(8,.buf 9 1),(39,.int .i64),(40,.int .i64)],bf 0++[.eS 8 7 0],0⟩,onU F⟩
theorem TK (m:Nat):∀n,HO Vr (Hc (th m n)):=au ae Qa.right (fun k=>[Hc k]) (fun k h=>(aH h aB)) fun k a=>by kernel_rfl
def t148 (m:Nat):Int × Int × Int × Int × ao × aq × ai × List Dat × List Dat × List Dat × List Dat × List Dat × List Dat × List Dat->Option (List Un):=fun(a0,a1,a2,a3,a4,a5,a6,a7,a8,a9,a10,a11,a12,a13)=>
 chk (decide (0<=0)&&(decide (a13.length<=1000)&&a13.all aO))<|
 th m m ((bE unD a13),(a13.length:Int),0,a4,a5,({a6 with aM:=(w64 (a6.aM+a2)),aT:=(w64 (a6.aT+a3))}:ai),a7,a8,a9,a10,a11,a12,a13,[])
theorem Xy (m:Nat) (u:Int) (xa:ao) (xb:aq) (y:ai) (x1 x2 x3 x4 x5 x6 x7:List Dat) (hu:0<=u/\u<=1099511627776000) (h1:0<=y.aM/\y.aM<=1152921504606846976) (h2:0<=y.aT/\y.aT<=1152921504606846976) (h3:(decide (x6.length<=1000)&&x6.all dw)=true) (hb:0<=al 1 x6/\al 1 x6<=1099511627776000) (hg:eB x7):∀(k i n:Nat),i+k=x7.length->k<n->
 th m n (u,(x7.length:Int),(i:Int),xa,xb,y,x1,x2,x3,x4,x5,x6,x7,cM 0 i)=some (Uns.enc xa++Uns.enc xb++Uns.enc y++[.d x1,.d x2,.d x3,.d x4,.d x5,.d x6,.d (hG (dA u (al 1 x6) y.aM y.aT) x7)]):=by
 intro k
 induction k with
 |zero=>
  intro i n hi hn;obtain⟨n,rfl⟩:=ak n (by omega);have ht:=xk u (al 1 x6) y.aM y.aT;have hgb:=eL hg;obtain rfl:i=x7.length:=by omega
  rw[vb];unfold v9;dsimp only;rw[az (by omega)];dsimp only[lt];refine av (zas.2 ⟨rfl,h3⟩) ?_
  change chk (decide ((-1152921504606846976<=u/\u<=1152921504606846976)/\(-1152921504606846976<=al 1 x6/\al 1 x6<=1152921504606846976)/\(-1152921504606846976<=y.aM/\y.aM<=1152921504606846976)/\(-1152921504606846976<=y.aT/\y.aT<=1152921504606846976))) (chk (decide (dA u (al 1 x6) y.aM y.aT<=1152921504606846976)&&(decide (cM 0 x7.length=cM 0 x7.length)&&(decide (x7.length<=1000)&&x7.all aO))) _)=_;rw[aP (by omega)];exact av (by rw[zae,zae];exact⟨@zaa _ _ (by omega),@zaa _ _ rfl,hgb⟩) rfl
 |succ k ih=>
  intro i n hi hn;obtain⟨n,rfl⟩:=ak n (by omega);have hg1:=hg.1;have hL:=iu i 0;have:=ih (i+1) n (by omega) (by omega);rw[<-zp i 0]at this;rw[vb];unfold v9;dsimp only;simp(disch:=omega) only[TRa,TRi,ab,LNl,LNi,zad,hL];simp only[LNl,LNi,zad]at this⊢;exact this
def f148:Int × Int × Int × Int × ao × aq × ai × List Dat × List Dat × List Dat × List Dat × List Dat × List Dat × List Dat->Bool × List Un:=fun(a0,a1,a2,a3,a4,a5,a6,a7,a8,a9,a10,a11,a12,a13)=>(decide (((0<=a0/\a0<=1125899906842624)/\(0<=a2/\a2<=1125899906842624)/\(0<=a3/\a3<=1125899906842624))/\(0<=a6.aM/\a6.aM<=1125899906842624)/\(0<=a6.aT/\a6.aT<=1125899906842624))&&((decide (a12.length<=1000)&&a12.all dw)&&(decide (a13.length<=1000)&&a13.all aO)),Uns.enc ((a4):ao)++Uns.enc ((a5):aq)++Uns.enc (({a6 with aM:=a6.aM+a2,aT:=a6.aT+a3}):ai)++[.d (a7),.d (a8),.d (a9),.d (a10),.d (a11),.d (a12),.d (hG (dA (bE unD a13) (al 1 a12) (a6.aM+a2) (a6.aT+a3)) a13)])
theorem QE (a0:Int) (a1:Int) (a2:Int) (a3:Int) (a4:ao) (a5:aq) (a6:ai) (a7:List Dat) (a8:List Dat) (a9:List Dat) (a10:List Dat) (a11:List Dat) (a12:List Dat) (a13:List Dat) (hc:(decide (((0<=a0/\a0<=1125899906842624)/\(0<=a2/\a2<=1125899906842624)/\(0<=a3/\a3<=1125899906842624))/\(0<=a6.aM/\a6.aM<=1125899906842624)/\(0<=a6.aT/\a6.aT<=1125899906842624))&&((decide (a12.length<=1000)&&a12.all dw)&&(decide (a13.length<=1000)&&a13.all aO)))=true):∃m,t148 m (a0,a1,a2,a3,a4,a5,a6,a7,a8,a9,a10,a11,a12,a13)=some (Uns.enc ((a4):ao)++Uns.enc ((a5):aq)++Uns.enc (({a6 with aM:=a6.aM+a2,aT:=a6.aT+a3}):ai)++[.d (a7),.d (a8),.d (a9),.d (a10),.d (a11),.d (a12),.d (hG (dA (bE unD a13) (al 1 a12) (a6.aM+a2) (a6.aT+a3)) a13)]):=by
 simp only[zae,zaf,zao]at hc;obtain⟨⟨⟨h1,h2,h3⟩,h4,h5⟩,⟨h7,h8⟩,h9,h10⟩:=hc;have hg:eB a13:=⟨h9,h10⟩
 have hb:=B8 h7 h8;have hs:=(iW a13 h10).2.2.2.1;refine⟨a13.length+1, ?_⟩;unfold t148;dsimp only;refine av (by rw[eL hg];rfl) ?_
 rw[ab (n:=a6.aM+a2) (by omega) (by omega),ab (n:=a6.aT+a3) (by omega) (by omega)];exact Xy _ _ a4 a5 {a6 with aM:=a6.aM+a2,aT:=a6.aT+a3} a7 a8 a9 a10 a11 a12 a13 (by omega) (by simp only;omega) (by simp only;omega) (by rw[zae,zao];exact⟨zaa h7,h8⟩) hb hg a13.length 0 (a13.length+1) (by omega) (by omega)
theorem MJ:ER 148 (mkE Vr.en Vr.ex f148):=an ae Qa.right (fun m=>[Hc (th m m)]) (t:=t148) (by kernel_rfl) (fun m=>(aH (TK m m) aB)) (fun m a=>by kernel_rfl) fun(a0,a1,a2,a3,a4,a5,a6,a7,a8,a9,a10,a11,a12,a13) hc=>QE a0 a1 a2 a3 a4 a5 a6 a7 a8 a9 a10 a11 a12 a13 hc
def Sh:Tb Tryz.prog LQ TE XX:=Qa.add 148 _ MJ
def yW (d:Dat):Dat:= .r [.n (aW d),.n (d.i 5),.n (d.i 6)]
def Ts:aC:=⟨Sh.tab,152,⟨[.agg [.bool,.int .i64,.int .i64,.int .i64,.int .i64,.int .i64,.int .i64,.int .i64,.int .i64,.int .i64,.int .i64,.buf 9 4,.int .i64,.int .i64,.int .i64,.int .i64,.int .i64,.ev,.int .i64],.np 0 0 0],bf 0++[.af (sI 4)],10⟩,⟨[.agg [.bool,.int .i64,.int .i64,.int .i64,.int .i64,.int .i64,.int .i64,.int .i64,.int .i64,.int .i64,.int .i64,.buf 9 4,.int .i64,.int .i64,.int .i64,.int .i64,.int .i64,.buf 10 3,.int .i64]],bf 0++[.af (sI 4),.af (sI 3)],10⟩,[]⟩
abbrev Cb:Type:=Int × Int × ao × aq × ai × List Dat × List Dat × List Dat × List Dat × List Dat × List Dat × List Dat × List Dat × bM × bF × Int × bM × bF × Int × List Dat × List Dat × List Dat
def vQ (m:Nat) (k:Cb->Option (List Un)):Cb->Option (List Un):=fun(a0,a1,a2,a3,a4,a5,a6,a7,a8,a9,a10,a11,a12,a13,a14,a15,a16,a17,a18,a19,a20,a21)=>
 bif decide (a1<a0)then
 chk (inb a1 a11.length)<|
 chk (decide (a1.toNat<a11.length))<|
 lt (ag a11 a1.toNat:Dat) fun d3=>
 chk (fits (a19.length+1) 24)<|
 k (a0,(w64 (a1+1)),a2,a3,a4,a5,a6,a7,a8,a9,a10,a11,a12,a13,a14,a15,a16,a17,a18,(a19++([.r [.n (w64 (w64 ((d3.i 1)-w64 ((d3.i 3)-(d3.i 4)))-(d3.i 6))),.n (d3.i 5),.n (d3.i 6)]])),a20,a21)
 else
 some (Uns.enc (a13:bM)++Uns.enc (a14:bF)++[.i a15]++Uns.enc (a2:ao)++Uns.enc (a3:aq)++Uns.enc (a4:ai)++[.d a5,.d a6,.d a7,.d a8,.d a9,.d a10,.d a11,.d a12,.d a19])
def tS (m:Nat):Nat->Cb->Option (List Un):=bq (vQ m)
theorem vh (m:Nat) (n:Nat):tS m (n+1)=vQ m (tS m n):=rfl
def Hs (F:Cb->Option (List Un)):aU:=⟨[.lp [0,1,0,1,1],.blk 0,.code [1,1,1]],⟨frm 58 [(2,.ptr 10 0 0),(4,.ptr 11 0 0),(38,.buf 8 7),(39,.int .i64),(40,.int .i64)],bf 0++[.af (sI 4),.cells [.bool,.int .i64,.int .i64,.int .i64,.int .i64,.int .i64,.int .i64,.int .i64,.int .i64,.int .i64,.int .i64,.buf 9 4,.int .i64,.int .i64,.int .i64,.int .i64,.int .i64,.buf 12 3,.int .i64],.cells [.bool,.int .i64,.int .i64,.int .i64,.int .i64,.int .i64,.int .i64,.int .i64,.int .i64,.int .i64,.int .i64,.buf 13 4,.int .i64,.int .i64,.int .i64,.int .i64,.int .i64,.buf 14 3,.int .i64],.af (sI 3),.af (sI 4),.af (sI 3)],10⟩,onU F⟩
theorem Uy (m:Nat):∀n,HO Ts (Hs (tS m n)):=au ae Sh.right (fun k=>[Hs k]) (fun k h=>(aH h aB)) fun k a=>by kernel_rfl
def t152 (m:Nat):bM × bF × Int × Int × ao × aq × ai × List Dat × List Dat × List Dat × List Dat × List Dat × List Dat × List Dat × List Dat->Option (List Un):=fun(a0,a1,a2,a3,a4,a5,a6,a7,a8,a9,a10,a11,a12,a13,a14)=>
 chk (decide (0<=a3))<|
 chk (decide (0<([.r [.r a12]]:List Dat).length)&&(decide (((ag ([.r [.r a12]]:List Dat) 0).d 0).length<=1000)&&((ag ([.r [.r a12]]:List Dat) 0).d 0).all dw))<|
 chk (decide (0<=a3))<|
 chk (decide (0<=a3))<|
 chk (decide (0<=a3))<|
 chk (decide (0<=a3))<|
 chk (decide (0<=a3))<|
 tS m m ((a13.length:Int),0,a4,a5,a6,a7,a8,a9,a10,a11,a12,a13,a14,a0,(⟨a1.dz,(al 1 ((ag ([.r [.r a12]]:List Dat) 0).d 0)),(w64 (a6.rin-a6.aR)),a6.out,a6.fee⟩:bF),a6.mode,(⟨false,0,0,0,0,0,0,0,0,0,0⟩:bM),(⟨0,0,0,0,0⟩:bF),0,[],[],[])
theorem R7 (m:Nat) (xa:ao) (xb:aq) (xn:ai) (x1 x2 x3 x4 x5 x6 py:List Dat) (ra za:bM) (rb zb:bF) (nx zx:Int) (z1 z2:List Dat):∀(rest pre:List Dat) (n:Nat),rest.length<n->(pre++rest).length<=1000->(∀d∈rest,aO d=true)->
 tS m n (((pre++rest).length:Int),(pre.length:Int),xa,xb,xn,x1,x2,x3,x4,x5,x6,pre++rest,py,ra,rb,nx,za,zb,zx,pre.map yW,z1,z2)=
  some (Uns.enc ra++Uns.enc rb++[.i nx]++Uns.enc xa++Uns.enc xb++Uns.enc xn++[.d x1,.d x2,.d x3,.d x4,.d x5,.d x6,.d (pre++rest),.d py,.d ((pre++rest).map yW)]):=by
 intro rest
 induction rest with
 |nil=>
  intro pre n hn hl hg;obtain⟨n,rfl⟩:=ak n (by simp at hn;omega);rw[vh];unfold vQ;dsimp only;simp[az]
 |cons x rest ih=>
  intro pre n hn hl hg;obtain⟨n,rfl⟩:=ak n (by simp at hn;omega);simp only[zac,zab]at hn hl;have e:=Mq (hg x (by simp));have:=ih (pre++[x]) n (by omega) (by simp;omega) (fun d hd=>hg d (by simp[hd]));rw[List.map_append,show[x].map yW=[.r [.n (aW x),.n (x.i 5),.n (x.i 6)]] from rfl]at this;rw[vh];unfold vQ;dsimp only;simp only[LNi,aD,lt_eq,e];simp(disch:=omega) only[TRa,TRi,ab,LNl,LNi,zad,aD];simp only[LNl,LNi,zad]at this⊢;exact this
def f152:bM × bF × Int × Int × ao × aq × ai × List Dat × List Dat × List Dat × List Dat × List Dat × List Dat × List Dat × List Dat->Bool × List Un:=fun(a0,a1,a2,a3,a4,a5,a6,a7,a8,a9,a10,a11,a12,a13,a14)=>(decide (0<=a3)&&(decide (0<=a6.aR/\a6.aR<=a6.rin/\a6.rin<=1152921504606846976)&&((decide (a12.length<=1000)&&a12.all dw)&&(decide (a13.length<=1000)&&a13.all aO))),Uns.enc ((a0):bM)++Uns.enc (((⟨a1.dz,al 1 a12,a6.rin-a6.aR,a6.out,a6.fee⟩:bF)):bF)++[.i (a6.mode)]++Uns.enc ((a4):ao)++Uns.enc ((a5):aq)++Uns.enc ((a6):ai)++[.d (a7),.d (a8),.d (a9),.d (a10),.d (a11),.d (a12),.d (a13),.d (a14),.d (a13.map yW)])
theorem SI (a0:bM) (a1:bF) (a2:Int) (a3:Int) (a4:ao) (a5:aq) (a6:ai) (a7:List Dat) (a8:List Dat) (a9:List Dat) (a10:List Dat) (a11:List Dat) (a12:List Dat) (a13:List Dat) (a14:List Dat) (hc:(decide (0<=a3)&&(decide (0<=a6.aR/\a6.aR<=a6.rin/\a6.rin<=1152921504606846976)&&((decide (a12.length<=1000)&&a12.all dw)&&(decide (a13.length<=1000)&&a13.all aO))))=true):∃m,t152 m (a0,a1,a2,a3,a4,a5,a6,a7,a8,a9,a10,a11,a12,a13,a14)=some (Uns.enc ((a0):bM)++Uns.enc (((⟨a1.dz,al 1 a12,a6.rin-a6.aR,a6.out,a6.fee⟩:bF)):bF)++[.i (a6.mode)]++Uns.enc ((a4):ao)++Uns.enc ((a5):aq)++Uns.enc ((a6):ai)++[.d (a7),.d (a8),.d (a9),.d (a10),.d (a11),.d (a12),.d (a13),.d (a14),.d (a13.map yW)]):=by
 simp only[zae,zaf,zao]at hc;obtain⟨h0,⟨h4,h5,h6⟩,⟨h7,h8⟩,h9,h10⟩:=hc;have hb:=B8 h7 h8;have hlb:(decide (a12.length<=1000)&&a12.all dw)=true:=by rw[zae,zao];exact⟨zaa h7,h8⟩
 refine⟨a13.length+1, ?_⟩;unfold t152;dsimp only[lt];simp only[aP h0];refine av (zas.2 ⟨rfl,hlb⟩) ?_
 rw[ab (n:=a6.rin-a6.aR) (by omega) (by omega)];exact R7 _ a4 a5 a6 a7 a8 a9 a10 a11 a12 a14 a0 _ _ _ _ _ _ _ a13 [] (a13.length+1) (by omega) (by simpa using h9) h10
theorem LM:ER 152 (mkE Ts.en Ts.ex f152):=an ae Sh.right (fun m=>[Hs (tS m m)]) (t:=t152) (by kernel_rfl) (fun m=>(aH (Uy m m) aB)) (fun m a=>by kernel_rfl) fun(a0,a1,a2,a3,a4,a5,a6,a7,a8,a9,a10,a11,a12,a13,a14) hc=>SI a0 a1 a2 a3 a4 a5 a6 a7 a8 a9 a10 a11 a12 a13 a14 hc
def Q4:Tb Tryz.prog LQ TE XX:=Sh.add 152 _ LM
def bJ:List Dat->List Dat
 |[]=>[]
 |d::l=>(if 0<d.i 1 then[.r [.n (d.i 0),.n 0,.n (d.i 1),.n 0,.n 0,.n 0,.n (bI false)]]else[])++bJ l
def Vh:aC:=⟨Q4.tab,163,⟨[.np 0 0 0],bf 0,0⟩,⟨[.agg [.int .i64,.int .i64,.int .i64,.int .i64]],[.cells [.int .i64,.int .i64,.int .i64,.buf 1 2,.buf 2 3,.int .i64,.int .i64,.int .i64,.int .i64,.int .i64,.int .i64,.int .i64,.int .i64,.int .i64,.int .i64,.buf 3 2,.buf 4 2,.buf 5 2,.ptr 6 0 0,.buf 8 7,.int .i64,.int .i64,.int .i64,.int .i64,.int .i64,.int .i64,.int .i64,.int .i64,.int .i64,.bool],.af (sI 2),.af (sI 3),.af (sI 2),.af (sI 2),.af (sI 2),.cells [.buf 9 5],.gone,.af (sI 7),.af (sB 4)],0⟩,[]⟩
abbrev CC:Type:=Int × Int × Int × ao × aq × ai × List Dat × List Dat × List Dat × List Dat × List Dat × List Dat × Int × Int × Int × Int × List Dat × List Dat × List Dat
def wo (m:Nat) (k:CC->Option (List Un)):CC->Option (List Un):=fun(a0,a1,a2,a3,a4,a5,a6,a7,a8,a9,a10,a11,a12,a13,a14,a15,a16,a17,a18)=>
 bif decide (a2<a1)then
 chk (inb a2 a17.length)<|
 chk (decide (a2.toNat<a17.length))<|
 lt (ag a17 a2.toNat:Dat) fun d2=>
 bif decide ((d2.i 1)>0)then
 chk (fits (a16.length+1) 56)<|
 k (a0,a1,(w64 (a2+1)),a3,a4,a5,a6,a7,a8,a9,a10,a11,a12,a13,a14,a15,(a16++([.r [.n (d2.i 0),.n 0,.n (d2.i 1),.n 0,.n 0,.n 0,.n (bI false)]])),a17,a18)
 else
 k (a0,a1,(w64 (a2+1)),a3,a4,a5,a6,a7,a8,a9,a10,a11,a12,a13,a14,a15,a16,a17,a18)
 else
 chk (decide (0<=a0))<|
 chk (decide (a18.length<1000000))<|
 some ([.i ((ax a16 a18).p),.i ((ax a16 a18).q),.i ((ax a16 a18).l),.i ((ax a16 a18).r)]++Uns.enc (a3:ao)++Uns.enc (a4:aq)++Uns.enc (a5:ai)++[.d a6,.d a7,.d a8,.d a9,.d a10,.d a11,.d ((ax a16 a18).aJ)])
def sG (m:Nat):Nat->CC->Option (List Un):=bq (wo m)
theorem uV (m:Nat) (n:Nat):sG m (n+1)=wo m (sG m n):=rfl
def GX (F:CC->Option (List Un)):aU:=⟨[.lp [0,1,0,1,1],.blk 0,.code [1,1,1]],⟨frm 43 [(0,.np 0 0 0),(2,.ptr 9 0 0),(3,.buf 10 7),(12,.buf 11 5),(13,.int .i64),(14,.int .i64)],[.cells [.int .i64,.int .i64,.int .i64,.buf 1 2,.buf 2 3,.int .i64,.int .i64,.int .i64,.int .i64,.int .i64,.int .i64,.int .i64,.int .i64,.int .i64,.int .i64,.buf 3 2,.buf 4 2,.buf 5 2,.ptr 6 0 0,.buf 8 7,.int .i64,.int .i64,.int .i64,.int .i64,.int .i64,.int .i64,.int .i64,.int .i64,.int .i64,.bool],.af (sI 2),.af (sI 3),.af (sI 2),.af (sI 2),.af (sI 2),.cells [.buf 12 5],.gone,.af (sI 7),.cells [.int .i64,.int .i64,.int .i64,.int .i64],.af (sB 6),.af (sB 4),.af (sB 4)],0⟩,onU F⟩
theorem WG (m:Nat):∀n,HO Vh (GX (sG m n)):=au ae Q4.right (fun k=>[GX k]) (fun k h=>(aH h aB)) fun k a=>by kernel_rfl
def t163 (m:Nat):Int × ao × aq × ai × List Dat × List Dat × List Dat × List Dat × List Dat × List Dat × List Dat->Option (List Un):=fun(a0,a1,a2,a3,a4,a5,a6,a7,a8,a9,a10)=>
 chk (decide (0<=a0))<|
 chk (decide (0<([.r [.r a9]]:List Dat).length)&&decide (((ag ([.r [.r a9]]:List Dat) 0).d 0).length<1000000))<|
 lt (((ag ([.r [.r a9]]:List Dat) 0).d 0):List Dat) fun l1=>
 sG m m (a0,(l1.length:Int),0,a1,a2,a3,a4,a5,a6,a7,a8,a10,0,0,0,0,[],l1,a9)
theorem Vo (m:Nat) (p0:Int) (hp0:0<=p0) (xa:ao) (xb:aq) (xn:ai) (x1 x2 x3 x4 x5 x6 pl:List Dat) (hpl:pl.length<1000000) (z1 z2 z3 z4:Int):∀(rest pre acc:List Dat) (n:Nat),rest.length<n->(pre++rest).length<1000000->acc.length<=pre.length->
 sG m n (p0,((pre++rest).length:Int),(pre.length:Int),xa,xb,xn,x1,x2,x3,x4,x5,x6,z1,z2,z3,z4,acc,pre++rest,pl)=
  some ([.i (ax (acc++bJ rest) pl).p,.i (ax (acc++bJ rest) pl).q,.i (ax (acc++bJ rest) pl).l,.i (ax (acc++bJ rest) pl).r]++Uns.enc xa++Uns.enc xb++Uns.enc xn++[.d x1,.d x2,.d x3,.d x4,.d x5,.d x6,.d (ax (acc++bJ rest) pl).aJ]):=by
 intro rest
 induction rest with
 |nil=>
  intro pre acc n hn hl ha;obtain⟨n,rfl⟩:=ak n (by simp at hn;omega);rw[uV];unfold wo;dsimp only;rw[az (by simp),aP hp0,aP hpl,bJ,zaK]
 |cons x rest ih=>
  intro pre acc n hn hl ha;obtain⟨n,rfl⟩:=ak n (by simp at hn;omega);simp only[zac,zab]at hn hl;have:=fun acc h=>ih (pre++[x]) acc n (by omega) (by simp;omega) h
  unfold bJ;rw[uV];unfold wo;dsimp only
  by_cases h1:x.i 1>0
  . have:=this (acc++[.r [.n (x.i 0),.n 0,.n (x.i 1),.n 0,.n 0,.n 0,.n (bI false)]]) (by simp;omega);rw[if_pos h1,<-zaq];simp(disch:=omega) only[TRa,ab,LNi,zad,aD,zab,zac,zar];simp only[zab,zac,zar,zaq,zaI,zat,LNi,zad]at this⊢;exact this
  . have:=this acc (by simp;omega);rw[if_neg h1,zat];simp(disch:=omega) only[TRa,TRi,ab,LNl,LNi,zad,aD];simp only[LNl,LNi,zad]at this⊢;exact this
def f163:Int × ao × aq × ai × List Dat × List Dat × List Dat × List Dat × List Dat × List Dat × List Dat->Bool × List Un:=fun(a0,a1,a2,a3,a4,a5,a6,a7,a8,a9,a10)=>(decide (0<=a0)&&decide (a9.length<1000000),[.i ((ax (bJ a9) a9).p),.i ((ax (bJ a9) a9).q),.i ((ax (bJ a9) a9).l),.i ((ax (bJ a9) a9).r)]++Uns.enc ((a1):ao)++Uns.enc ((a2):aq)++Uns.enc ((a3):ai)++[.d (a4),.d (a5),.d (a6),.d (a7),.d (a8),.d (a10),.d ((ax (bJ a9) a9).aJ)])
theorem PM (a0:Int) (a1:ao) (a2:aq) (a3:ai) (a4:List Dat) (a5:List Dat) (a6:List Dat) (a7:List Dat) (a8:List Dat) (a9:List Dat) (a10:List Dat) (hc:(decide (0<=a0)&&decide (a9.length<1000000))=true):∃m,t163 m (a0,a1,a2,a3,a4,a5,a6,a7,a8,a9,a10)=some ([.i ((ax (bJ a9) a9).p),.i ((ax (bJ a9) a9).q),.i ((ax (bJ a9) a9).l),.i ((ax (bJ a9) a9).r)]++Uns.enc ((a1):ao)++Uns.enc ((a2):aq)++Uns.enc ((a3):ai)++[.d (a4),.d (a5),.d (a6),.d (a7),.d (a8),.d (a10),.d ((ax (bJ a9) a9).aJ)]):=by
 simp only[zae,zaf]at hc;obtain⟨h0,h⟩:=hc;refine⟨a9.length+1, ?_⟩;unfold t163;dsimp only[lt];refine av (zaa h0) ?_
 refine av (zas.2 ⟨rfl,zaa h⟩) ?_
 exact Vo _ a0 h0 a1 a2 a3 a4 a5 a6 a7 a8 a10 a9 h _ _ _ _ a9 [] [] (a9.length+1) (by omega) (by simpa using h) (by simp)
theorem M4:ER 163 (mkE Vh.en Vh.ex f163):=an ae Q4.right (fun m=>[GX (sG m m)]) (t:=t163) (by kernel_rfl) (fun m=>(aH (WG m m) aB)) (fun m a=>by kernel_rfl) fun(a0,a1,a2,a3,a4,a5,a6,a7,a8,a9,a10) hc=>PM a0 a1 a2 a3 a4 a5 a6 a7 a8 a9 a10 hc
def Oa:Tb Tryz.prog LQ TE XX:=Q4.add 163 _ M4
def L0 (d:Dat):Dat:= .r [.n (d.i 0),.n (d.i 1),.n (d.i 2),.n (d.i 3)]
def kV:List Dat->List Dat
 |[]=>[]
 |d::l=>(if 0<d.i 3 then[L0 d]else[])++kV l
def gI:Int->List Dat->List Dat
 |_,[]=>[]
 |i,d::c=> .r [.n 0,.n 3,.n i,.n (d.i 5)]:: .r [.n 0,.n 7,.n i,.n (aW d)]::gI (i+1) c
def gG (fee out:Int) (c:List Dat):List Dat:=kV (.r [.n 0,.n 1,.n (-1),.n fee]:: .r [.n 0,.n 2,.n (-1),.n out]::gI 0 c)
theorem EJ:∀(c:List Dat) (i:Int),(gI i c).length=2*c.length
 |[],_=>rfl
 |d::c,i=>by simp only[gI,zac,EJ c];omega
def Qu:aC:=⟨Oa.tab,160,⟨[.np 0 0 0],bf 0,9⟩,⟨[.buf 9 4],bf 0++[.af (sI 4)],9⟩,[]⟩
abbrev Ct:Type:=Int × Int × ao × aq × ai × List Dat × List Dat × List Dat × List Dat × List Dat × List Dat × List Dat × List Dat × List Dat
abbrev Dg:Type:=Int × Int × ao × aq × ai × List Dat × List Dat × List Dat × List Dat × List Dat × List Dat × List Dat × List Dat
def wV (m:Nat) (k:Ct->Option (List Un)):Ct->Option (List Un):=fun(a0,a1,a2,a3,a4,a5,a6,a7,a8,a9,a10,a11,a12,a13)=>
 bif decide (a1<a0)then
 chk (inb a1 a13.length)<|
 chk (decide (a1.toNat<a13.length))<|
 lt (ag a13 a1.toNat:Dat) fun d4=>
 bif decide ((d4.i 3)>0)then
 chk (fits (a12.length+1) 32)<|
 k (a0,(w64 (a1+1)),a2,a3,a4,a5,a6,a7,a8,a9,a10,a11,(a12++([.r [.n (d4.i 0),.n (d4.i 1),.n (d4.i 2),.n (d4.i 3)]])),a13)
 else
 k (a0,(w64 (a1+1)),a2,a3,a4,a5,a6,a7,a8,a9,a10,a11,a12,a13)
 else
 some (Uns.enc (a2:ao)++Uns.enc (a3:aq)++Uns.enc (a4:ai)++[.d a5,.d a6,.d a7,.d a8,.d a9,.d a10,.d a11,.d a12])
def ti (m:Nat):Nat->Ct->Option (List Un):=bq (wV m)
theorem vq (m:Nat) (n:Nat):ti m (n+1)=wV m (ti m n):=rfl
def Gv (F:Ct->Option (List Un)):aU:=⟨[.lp [0,1,0,1,1,1,1],.blk 2,.code [1,1,1,1,1]],⟨frm 57 [(6,.buf 9 4),(42,.buf 10 4),(43,.int .i64),(44,.int .i64)],bf 0++[.af (sI 4),.af (sI 4)],9⟩,onU F⟩
def wN (m:Nat) (k:Dg->Option (List Un)):Dg->Option (List Un):=fun(a0,a1,a2,a3,a4,a5,a6,a7,a8,a9,a10,a11,a12)=>
 bif decide (a1<a0)then
 chk (inb a1 a11.length)<|
 chk (decide (a1.toNat<a11.length))<|
 lt (ag a11 a1.toNat:Dat) fun d1=>
 chk (fits (a12.length+2) 32)<|
 k (a0,(w64 (a1+1)),a2,a3,a4,a5,a6,a7,a8,a9,a10,a11,(a12++([.r [.n 0,.n 3,.n a1,.n (d1.i 5)],.r [.n 0,.n 7,.n a1,.n (w64 (w64 ((d1.i 1)-w64 ((d1.i 3)-(d1.i 4)))-(d1.i 6)))]])))
 else
 ti m m ((a12.length:Int),0,a2,a3,a4,a5,a6,a7,a8,a9,a10,a11,[],a12)
def tv (m:Nat):Nat->Dg->Option (List Un):=bq (wN m)
theorem ux (m:Nat) (n:Nat):tv m (n+1)=wN m (tv m n):=rfl
def HB (F:Dg->Option (List Un)):aU:=⟨[.lp [0,1,0,1,1],.blk 0,.code [1,1,1]],⟨frm 57 [(3,.buf 9 4),(23,.buf 8 7),(24,.int .i64),(25,.int .i64)],bf 0++[.af (sI 4)],9⟩,onU F⟩
theorem Tv (m:Nat):∀n,HO Qu (Gv (ti m n)):=au ae Oa.right (fun k=>[Gv k]) (fun k h=>(aH h aB)) fun k a=>by kernel_rfl
theorem T6 (m:Nat):∀n,HO Qu (HB (tv m n)):=au ae Oa.right (fun k=>[HB k,Gv (ti m m)]) (fun k h=>(aH h (aH (Tv m m) aB))) fun k a=>by kernel_rfl
def t160 (m:Nat):Int × ao × aq × ai × List Dat × List Dat × List Dat × List Dat × List Dat × List Dat × List Dat->Option (List Un):=fun(a0,a1,a2,a3,a4,a5,a6,a7,a8,a9,a10)=>
 chk (decide (0<=a0))<|
 chk (decide (0<=a0))<|
 chk (decide (0<=a0))<|
 tv m m ((a10.length:Int),0,a1,a2,a3,a4,a5,a6,a7,a8,a9,a10,([.r [.n 0,.n 1,.n (-1),.n a3.fee],.r [.n 0,.n 2,.n (-1),.n a3.out]]:List Dat))
section
variable (m : Nat) (xa : ao) (xb : aq) (xn : ai) (x1 x2 x3 x4 x5 x6 x7 : List Dat)
theorem Zm:∀(rest pre acc:List Dat) (n:Nat),rest.length<n->(pre++rest).length<=3000->acc.length<=pre.length->
 ti m n (((pre++rest).length:Int),(pre.length:Int),xa,xb,xn,x1,x2,x3,x4,x5,x6,x7,acc,pre++rest)=some (Uns.enc xa++Uns.enc xb++Uns.enc xn++[.d x1,.d x2,.d x3,.d x4,.d x5,.d x6,.d x7,.d (acc++kV rest)]):=by
 intro rest
 induction rest with
 |nil=>
  intro pre acc n hn hl ha;obtain⟨n,rfl⟩:=ak n (by simp at hn;omega);rw[vq];unfold wV;dsimp only;rw[az (by simp),kV,zaK]
 |cons x rest ih=>
  intro pre acc n hn hl ha;obtain⟨n,rfl⟩:=ak n (by simp at hn;omega);simp only[zac,zab]at hn hl;have:=fun acc h=>ih (pre++[x]) acc n (by omega) (by simp;omega) h
  unfold kV;rw[vq];unfold wV;dsimp only
  by_cases h1:x.i 3>0
  . have:=this (acc++[L0 x]) (by simp;omega);unfold L0 at this⊢;rw[if_pos h1,<-zaq];simp(disch:=omega) only[TRa,ab,LNi,zad,aD,zab,zac,zar];simp only[zab,zac,zar,zaq,zaI,zat,LNi,zad]at this⊢;exact this
  . have:=this acc (by simp;omega);rw[if_neg h1,zat];simp(disch:=omega) only[TRa,TRi,ab,LNl,LNi,zad,aD];simp only[LNl,LNi,zad]at this⊢;exact this
theorem YE (hm:3000<m):∀(rest pre acc:List Dat) (n:Nat),rest.length<n->(pre++rest).length<=1000->(∀d∈rest,aO d=true)->acc.length=2+2*pre.length->
 tv m n (((pre++rest).length:Int),(pre.length:Int),xa,xb,xn,x1,x2,x3,x4,x5,x6,pre++rest,acc)=some (Uns.enc xa++Uns.enc xb++Uns.enc xn++[.d x1,.d x2,.d x3,.d x4,.d x5,.d x6,.d (pre++rest),.d (kV (acc++gI pre.length rest))]):=by
 intro rest
 induction rest with
 |nil=>
  intro pre acc n hn hl hg ha;obtain⟨n,rfl⟩:=ak n (by simp at hn;omega);simp only[zaK]at hl;rw[ux];unfold wN;dsimp only;rw[az (by simp)];refine(Zm m xa xb xn x1 x2 x3 x4 x5 x6 (pre++[]) acc [] [] m (by omega) (by simp;omega) (by simp)).trans ?_
  simp only[gI,zaK,zat]
 |cons x rest ih=>
  intro pre acc n hn hl hg ha;obtain⟨n,rfl⟩:=ak n (by simp at hn;omega);simp only[zac,zab]at hn hl;have e:=Mq (hg x (by simp));have:=ih (pre++[x]) (acc++[.r [.n 0,.n 3,.n (pre.length:Int),.n (x.i 5)],.r [.n 0,.n 7,.n (pre.length:Int),.n (aW x)]]) n (by omega) (by simp;omega) (fun d hd=>hg d (by simp[hd])) (by simp;omega);unfold gI;rw[ux];unfold wN;dsimp only;simp only[LNi,aD,lt_eq,e];simp(disch:=omega) only[TRa,TRi,ab,LNl,LNi,zad,aD];simp only[LNl,LNi,zad]at this⊢;exact this
end
def f160:Int × ao × aq × ai × List Dat × List Dat × List Dat × List Dat × List Dat × List Dat × List Dat->Bool × List Un:=fun(a0,a1,a2,a3,a4,a5,a6,a7,a8,a9,a10)=>(decide (0<=a0)&&(decide (a10.length<=1000)&&a10.all aO),Uns.enc ((a1):ao)++Uns.enc ((a2):aq)++Uns.enc ((a3):ai)++[.d (a4),.d (a5),.d (a6),.d (a7),.d (a8),.d (a9),.d (a10),.d (gG a3.fee a3.out a10)])
theorem Rk (a0:Int) (a1:ao) (a2:aq) (a3:ai) (a4:List Dat) (a5:List Dat) (a6:List Dat) (a7:List Dat) (a8:List Dat) (a9:List Dat) (a10:List Dat) (hc:(decide (0<=a0)&&(decide (a10.length<=1000)&&a10.all aO))=true):∃m,t160 m (a0,a1,a2,a3,a4,a5,a6,a7,a8,a9,a10)=some (Uns.enc ((a1):ao)++Uns.enc ((a2):aq)++Uns.enc ((a3):ai)++[.d (a4),.d (a5),.d (a6),.d (a7),.d (a8),.d (a9),.d (a10),.d (gG a3.fee a3.out a10)]):=by
 simp only[zae,zaf,zao]at hc;refine⟨3001+a10.length, ?_⟩;unfold t160;dsimp only;simp only[aP hc.1];exact YE _ a1 a2 a3 a4 a5 a6 a7 a8 a9 (by omega) a10 [] _ _ (by omega) (by simpa using hc.2.1) hc.2.2 rfl
theorem KX:ER 160 (mkE Qu.en Qu.ex f160):=an ae Oa.right (fun m=>[HB (tv m m)]) (t:=t160) (by kernel_rfl) (fun m=>(aH (T6 m m) aB)) (fun m a=>by kernel_rfl) fun(a0,a1,a2,a3,a4,a5,a6,a7,a8,a9,a10) hc=>Rk a0 a1 a2 a3 a4 a5 a6 a7 a8 a9 a10 hc
def Wd:Tb Tryz.prog LQ TE XX:=Oa.add 160 _ KX
def O9 (a b p:Int):Bool:=decide (0<=a/\a<=1099511627776/\0<=b/\b<=1099511627776/\0<=p/\p<=100000)
def cf (a b p:Int):Bool:=O9 a b p&&decide (b*p<=a*10000)
def cu (a b p:Int):Bool:=O9 a b p&&decide (a*10000<=b*p)
def W6:aC:=⟨Wd.tab,192,⟨[.int .i64,.int .i64,.int .i64],[],0⟩,⟨[.bool],[],0⟩,[]⟩
def t192 (m:Nat):Int × Int × Int->Option (List Un):=fun(a0,a1,a2)=>
 bif decide (a0>=0)then
 bif (decide (a0<=1099511627776))then
 bif decide (a1>=0)then
 bif (decide (a1<=1099511627776))then
 bif decide (a2>=0)then
 bif decide (a2<=100000)then
 some ([.b (decide ((w64 (a0*10000))>=(w64 (a1*a2))))])
 else
 some ([.b false])
 else
 some ([.b false])
 else
 some ([.b false])
 else
 some ([.b false])
 else
 some ([.b false])
 else
 some ([.b false])
def f192:Int × Int × Int->Bool × List Un:=fun(a0,a1,a2)=>(true,[.b (cf a0 a1 a2)])
theorem RN (a0:Int) (a1:Int) (a2:Int):∃m,t192 m (a0,a1,a2)=some ([.b (cf a0 a1 a2)]):=by
 unfold t192 cf O9;dsimp only[ge_iff_le]
 by_cases h:0<=a0/\a0<=1099511627776/\0<=a1/\a1<=1099511627776/\0<=a2/\a2<=100000
 . obtain⟨h1,h2,h3,h4,h5,h6⟩:=h;have hm:=Int.mul_le_mul h4 h6 h5 (show(0:Int)<=1099511627776 by omega);have hm0:=za7 h3 h5;refine⟨0, ?_⟩;rw[zaa (show 0<=a0/\a0<=1099511627776/\0<=a1/\a1<=1099511627776/\0<=a2/\a2<=100000 from⟨h1,h2,h3,h4,h5,h6⟩)];simp(disch:=omega) only[TRa,ab,zbg]
 . refine⟨0, ?_⟩;rw[zap h]
   by_cases h1:0<=a0
   . by_cases h2:a0<=1099511627776
     . by_cases h3:0<=a1
       . by_cases h4:a1<=1099511627776
         . by_cases h5:0<=a2
           . simp[h1,h2,h3,h4,h5,show ¬a2<=100000 by omega]
           . simp[h1,h2,h3,h4,h5]
         . simp[h1,h2,h3,h4]
       . simp[h1,h2,h3]
     . simp[h1,h2]
   . simp[h1]
theorem N9:ER 192 (mkE W6.en W6.ex f192):=an ae Wd.right (fun m=>[]) (t:=t192) (by kernel_rfl) (fun m=>aB) (fun m a=>by kernel_rfl) fun(a0,a1,a2) hc=>RN a0 a1 a2
def UF:Tb Tryz.prog LQ TE XX:=Wd.add 192 _ N9
def YM:aC:=⟨UF.tab,193,⟨[.int .i64,.int .i64,.int .i64],[],0⟩,⟨[.bool],[],0⟩,[]⟩
def t193 (m:Nat):Int × Int × Int->Option (List Un):=fun(a0,a1,a2)=>
 bif decide (a0>=0)then
 bif (decide (a0<=1099511627776))then
 bif decide (a1>=0)then
 bif (decide (a1<=1099511627776))then
 bif decide (a2>=0)then
 bif decide (a2<=100000)then
 some ([.b (decide ((w64 (a0*10000))<=(w64 (a1*a2))))])
 else
 some ([.b false])
 else
 some ([.b false])
 else
 some ([.b false])
 else
 some ([.b false])
 else
 some ([.b false])
 else
 some ([.b false])
def f193:Int × Int × Int->Bool × List Un:=fun(a0,a1,a2)=>(true,[.b (cu a0 a1 a2)])
theorem Ru (a0:Int) (a1:Int) (a2:Int):∃m,t193 m (a0,a1,a2)=some ([.b (cu a0 a1 a2)]):=by
 unfold t193 cu O9;dsimp only[ge_iff_le]
 by_cases h:0<=a0/\a0<=1099511627776/\0<=a1/\a1<=1099511627776/\0<=a2/\a2<=100000
 . obtain⟨h1,h2,h3,h4,h5,h6⟩:=h;have hm:=Int.mul_le_mul h4 h6 h5 (show(0:Int)<=1099511627776 by omega);have hm0:=za7 h3 h5;refine⟨0, ?_⟩;rw[zaa (show 0<=a0/\a0<=1099511627776/\0<=a1/\a1<=1099511627776/\0<=a2/\a2<=100000 from⟨h1,h2,h3,h4,h5,h6⟩)];simp(disch:=omega) only[TRa,ab,zbg]
 . refine⟨0, ?_⟩;rw[zap h]
   by_cases h1:0<=a0
   . by_cases h2:a0<=1099511627776
     . by_cases h3:0<=a1
       . by_cases h4:a1<=1099511627776
         . by_cases h5:0<=a2
           . simp[h1,h2,h3,h4,h5,show ¬a2<=100000 by omega]
           . simp[h1,h2,h3,h4,h5]
         . simp[h1,h2,h3,h4]
       . simp[h1,h2,h3]
     . simp[h1,h2]
   . simp[h1]
theorem M6:ER 193 (mkE YM.en YM.ex f193):=an ae UF.right (fun m=>[]) (t:=t193) (by kernel_rfl) (fun m=>aB) (fun m a=>by kernel_rfl) fun(a0,a1,a2) hc=>Ru a0 a1 a2
def UP:Tb Tryz.prog LQ TE XX:=UF.add 193 _ M6
def W7:aC:=⟨UP.tab,150,⟨[.agg [.int .i64,.int .i64,.int .i64,.int .i64,.int .i64],.agg [.int .i64,.int .i64,.int .i64,.int .i64,.int .i64,.int .i64,.int .i64]],[],0⟩,⟨[.agg [.bool,.bool,.bool,.bool]],[],0⟩,[]⟩
def t150 (m:Nat):Int × Int × Int × Int × Int × Int × Int × Int × Int × Int × Int × Int->Option (List Un):=fun(a0,a1,a2,a3,a4,a5,a6,a7,a8,a9,a10,a11)=>
 bif a0==0 then
 bif a1==0 then
 bif a2==0 then
 bif a3==0 then
 some ([.b true,.b true,.b true,.b true])
 else
 some ([.b true,.b true,.b true,.b (cu a11 a6 a3)])
 else
 bif a3==0 then
 some ([.b true,.b true,.b (cu a10 a5 a2),.b true])
 else
 some ([.b true,.b true,.b (cu a10 a5 a2),.b (cu a11 a6 a3)])
 else
 bif a2==0 then
 bif a3==0 then
 some ([.b true,.b (cf a8 a9 a1),.b true,.b true])
 else
 some ([.b true,.b (cf a8 a9 a1),.b true,.b (cu a11 a6 a3)])
 else
 bif a3==0 then
 some ([.b true,.b (cf a8 a9 a1),.b (cu a10 a5 a2),.b true])
 else
 some ([.b true,.b (cf a8 a9 a1),.b (cu a10 a5 a2),.b (cu a11 a6 a3)])
 else
 bif a1==0 then
 bif a2==0 then
 bif a3==0 then
 some ([.b (cf a5 a7 a0),.b true,.b true,.b true])
 else
 some ([.b (cf a5 a7 a0),.b true,.b true,.b (cu a11 a6 a3)])
 else
 bif a3==0 then
 some ([.b (cf a5 a7 a0),.b true,.b (cu a10 a5 a2),.b true])
 else
 some ([.b (cf a5 a7 a0),.b true,.b (cu a10 a5 a2),.b (cu a11 a6 a3)])
 else
 bif a2==0 then
 bif a3==0 then
 some ([.b (cf a5 a7 a0),.b (cf a8 a9 a1),.b true,.b true])
 else
 some ([.b (cf a5 a7 a0),.b (cf a8 a9 a1),.b true,.b (cu a11 a6 a3)])
 else
 bif a3==0 then
 some ([.b (cf a5 a7 a0),.b (cf a8 a9 a1),.b (cu a10 a5 a2),.b true])
 else
 some ([.b (cf a5 a7 a0),.b (cf a8 a9 a1),.b (cu a10 a5 a2),.b (cu a11 a6 a3)])
def f150:Int × Int × Int × Int × Int × Int × Int × Int × Int × Int × Int × Int->Bool × List Un:=fun(a0,a1,a2,a3,a4,a5,a6,a7,a8,a9,a10,a11)=>(true,[.b ((a0==0||cf a5 a7 a0)),.b ((a1==0||cf a8 a9 a1)),.b ((a2==0||cu a10 a5 a2)),.b ((a3==0||cu a11 a6 a3))])
theorem Pv (a0:Int) (a1:Int) (a2:Int) (a3:Int) (a4:Int) (a5:Int) (a6:Int) (a7:Int) (a8:Int) (a9:Int) (a10:Int) (a11:Int):∃m,t150 m (a0,a1,a2,a3,a4,a5,a6,a7,a8,a9,a10,a11)=some ([.b ((a0==0||cf a5 a7 a0)),.b ((a1==0||cf a8 a9 a1)),.b ((a2==0||cu a10 a5 a2)),.b ((a3==0||cu a11 a6 a3))]):=by
 refine⟨0, ?_⟩;unfold t150;dsimp only;cases a0==0<;>cases a1==0<;>cases a2==0<;>cases a3==0<;>rfl
theorem Li:ER 150 (mkE W7.en W7.ex f150):=an ae UP.right (fun m=>[]) (t:=t150) (by kernel_rfl) (fun m=>aB) (fun m a=>by kernel_rfl) fun(a0,a1,a2,a3,a4,a5,a6,a7,a8,a9,a10,a11) hc=>Pv a0 a1 a2 a3 a4 a5 a6 a7 a8 a9 a10 a11
def UX:Tb Tryz.prog LQ TE XX:=UP.add 150 _ Li
def YG:aC:=⟨UX.tab,161,⟨[.agg [.int .i64,.int .i64,.int .i64,.int .i64,.int .i64],.agg [.int .i64,.int .i64,.int .i64,.int .i64,.int .i64,.int .i64,.int .i64]],[],0⟩,⟨[.bool],[],0⟩,[]⟩
def t161 (m:Nat):Int × Int × Int × Int × Int × Int × Int × Int × Int × Int × Int × Int->Option (List Un):=fun(a0,a1,a2,a3,a4,a5,a6,a7,a8,a9,a10,a11)=>
 bif a4 !=0 then
 some ([.b (cu a5 a6 a4)])
 else
 some ([.b false])
def f161:Int × Int × Int × Int × Int × Int × Int × Int × Int × Int × Int × Int->Bool × List Un:=fun(a0,a1,a2,a3,a4,a5,a6,a7,a8,a9,a10,a11)=>(true,[.b ((a4 !=0&&cu a5 a6 a4))])
theorem O6 (a0:Int) (a1:Int) (a2:Int) (a3:Int) (a4:Int) (a5:Int) (a6:Int) (a7:Int) (a8:Int) (a9:Int) (a10:Int) (a11:Int):∃m,t161 m (a0,a1,a2,a3,a4,a5,a6,a7,a8,a9,a10,a11)=some ([.b ((a4 !=0&&cu a5 a6 a4))]):=by
 refine⟨0, ?_⟩;unfold t161;dsimp only;cases a4 !=0<;>rfl
theorem M7:ER 161 (mkE YG.en YG.ex f161):=an ae UX.right (fun m=>[]) (t:=t161) (by kernel_rfl) (fun m=>aB) (fun m a=>by kernel_rfl) fun(a0,a1,a2,a3,a4,a5,a6,a7,a8,a9,a10,a11) hc=>O6 a0 a1 a2 a3 a4 a5 a6 a7 a8 a9 a10 a11
def TV:Tb Tryz.prog LQ TE XX:=UX.add 161 _ M7
def iC (need has:Int):Int:=max (min (max need 0) has) 0
def G1 (need has may:Int):Int:=max (min (max need 0-iC need has) may) 0
def Yc:aC:=⟨TV.tab,142,⟨[.int .i64,.np 0 0 20,.int .i64,.int .i64],bf 0,0⟩,⟨[.int .i64,.int .i64],bf 0,0⟩,[]⟩
def t142 (m:Nat):Int × Int × Int × Int × ao × aq × ai × List Dat × List Dat × List Dat × List Dat × List Dat × List Dat × List Dat->Option (List Un):=fun(a0,a1,a2,a3,a4,a5,a6,a7,a8,a9,a10,a11,a12,a13)=>
 lt ((if a0<0 then 0 else a0):Int) fun x1=>
 bif (!((decide (a1<0))&&true))then
 chk (decide (0<=a1))<|
 lt ((w64 (a6.rin-a6.aR)):Int) fun x3=>
 lt ((if x3<x1 then x3 else x1):Int) fun x4=>
 lt ((if x4<0 then 0 else x4):Int) fun x5=>
 chk (decide (0<=a1))<|
 chk (decide (0<=a1))<|
 lt ((if (w64 (a3-a2))<(w64 (x1-x5))then(w64 (a3-a2))else(w64 (x1-x5))):Int) fun x6=>
 some ([.i x5,.i (if x6<0 then 0 else x6)]++Uns.enc (a4:ao)++Uns.enc (a5:aq)++Uns.enc (({a6 with aR:=(w64 (a6.aR+x5))}:ai):ai)++[.d a7,.d a8,.d a9,.d a10,.d a11,.d a12,.d a13])
 else
 lt ((if (w64 (a3-a2))<(w64 (x1-0))then(w64 (a3-a2))else(w64 (x1-0))):Int) fun x8=>
 some ([.i 0,.i (if x8<0 then 0 else x8)]++Uns.enc (a4:ao)++Uns.enc (a5:aq)++Uns.enc (a6:ai)++[.d a7,.d a8,.d a9,.d a10,.d a11,.d a12,.d a13])
def f142:Int × Int × Int × Int × ao × aq × ai × List Dat × List Dat × List Dat × List Dat × List Dat × List Dat × List Dat->Bool × List Un:=fun(a0,a1,a2,a3,a4,a5,a6,a7,a8,a9,a10,a11,a12,a13)=>(decide (0<=a1)&&decide ((-1152921504606846976<=a0/\a0<=1152921504606846976)/\((0:Int)<=a6.aR/\a6.aR<=a6.rin/\a6.rin<=(1152921504606846976:Int))/\(0<=a2/\a2<=1152921504606846976)/\(0<=a3/\a3<=1152921504606846976)),[.i (iC a0 (a6.rin-a6.aR)),.i (G1 a0 (a6.rin-a6.aR) (a3-a2))]++Uns.enc ((a4):ao)++Uns.enc ((a5):aq)++Uns.enc (({a6 with aR:=a6.aR+iC a0 (a6.rin-a6.aR)}):ai)++[.d (a7),.d (a8),.d (a9),.d (a10),.d (a11),.d (a12),.d (a13)])
theorem Qb (a0:Int) (a1:Int) (a2:Int) (a3:Int) (a4:ao) (a5:aq) (a6:ai) (a7:List Dat) (a8:List Dat) (a9:List Dat) (a10:List Dat) (a11:List Dat) (a12:List Dat) (a13:List Dat) (hc:(decide (0<=a1)&&decide ((-1152921504606846976<=a0/\a0<=1152921504606846976)/\((0:Int)<=a6.aR/\a6.aR<=a6.rin/\a6.rin<=(1152921504606846976:Int))/\(0<=a2/\a2<=1152921504606846976)/\(0<=a3/\a3<=1152921504606846976)))=true):∃m,t142 m (a0,a1,a2,a3,a4,a5,a6,a7,a8,a9,a10,a11,a12,a13)=some ([.i (iC a0 (a6.rin-a6.aR)),.i (G1 a0 (a6.rin-a6.aR) (a3-a2))]++Uns.enc ((a4):ao)++Uns.enc ((a5):aq)++Uns.enc (({a6 with aR:=a6.aR+iC a0 (a6.rin-a6.aR)}):ai)++[.d (a7),.d (a8),.d (a9),.d (a10),.d (a11),.d (a12),.d (a13)]):=by
 simp only[zae,zaf]at hc;obtain⟨h0,⟨h1,h2⟩,⟨h3,h4,h5⟩,⟨h6,h7⟩,h8,h9⟩:=hc;refine⟨0, ?_⟩;unfold t142;dsimp only;simp only[zbh,lt_eq,zap (show ¬a1<0 by omega),Bool.not_false,zaw,zaa h0,kh];rw[ab (n:=a6.rin-a6.aR) (by omega) (by omega),ab (n:=a3-a2) (by omega) (by omega)];have e:(if (if a6.rin-a6.aR<(if a0<0 then 0 else a0)then a6.rin-a6.aR else(if a0<0 then 0 else a0))<0 then 0 else(if a6.rin-a6.aR<(if a0<0 then 0 else a0)then a6.rin-a6.aR else(if a0<0 then 0 else a0)))=iC a0 (a6.rin-a6.aR):=by unfold iC;omega
 have hd:0<=iC a0 (a6.rin-a6.aR)/\iC a0 (a6.rin-a6.aR)<=1152921504606846976/\iC a0 (a6.rin-a6.aR)<=max a0 0/\iC a0 (a6.rin-a6.aR)<=a6.rin-a6.aR:=by unfold iC;omega
 rw[e,show(if a0<0 then 0 else a0)=max a0 0 by omega,ab (n:=max a0 0-_) (by omega) (by omega),ab (n:=a6.aR+_) (by omega) (by omega)];rw[show(if (if a3-a2<max a0 0-iC a0 (a6.rin-a6.aR)then a3-a2 else max a0 0-iC a0 (a6.rin-a6.aR))<0 then 0 else(if a3-a2<max a0 0-iC a0 (a6.rin-a6.aR)then a3-a2 else max a0 0-iC a0 (a6.rin-a6.aR)))=G1 a0 (a6.rin-a6.aR) (a3-a2) by unfold G1;omega]
theorem MX:ER 142 (mkE Yc.en Yc.ex f142):=an ae TV.right (fun m=>[]) (t:=t142) (by kernel_rfl) (fun m=>aB) (fun m a=>by kernel_rfl) fun(a0,a1,a2,a3,a4,a5,a6,a7,a8,a9,a10,a11,a12,a13) hc=>Qb a0 a1 a2 a3 a4 a5 a6 a7 a8 a9 a10 a11 a12 a13 hc
def V9:Tb Tryz.prog LQ TE XX:=TV.add 142 _ MX
def fF (d:bc) (m:Int):List Dat:=if m=0 then d.s0 else if m=1 then d.s1 else if m=2 then d.s2 else[]
def XH:aC:=⟨V9.tab,146,⟨[.agg [.int .i64,.int .i64,.int .i64,.af (sI 2),.af (sI 3),.int .i64,.int .i64,.int .i64,.int .i64,.int .i64,.int .i64,.int .i64,.int .i64,.int .i64,.int .i64,.af (sI 2),.af (sI 2),.af (sI 2)],.agg [.int .i64,.int .i64]],[],0⟩,⟨[.buf 0 2],[.af (sI 2)],0⟩,[]⟩
def t146 (m:Nat):bc × Int × Int->Option (List Un):=fun(a0,a1,a2)=>
 bif decide (a1<0)then
 some ([.d ([])])
 else
 bif decide (a1>=3)then
 some ([.d ([])])
 else
 chk (inb a1 3)<|
 chk (decide (a1.toNat<3))<|
 chk (decide ((List.getD [a0.s0,a0.s1,a0.s2] a1.toNat []).length<1000000))<|
 some ([.d (List.getD [a0.s0,a0.s1,a0.s2] a1.toNat [])])
def f146:bc × Int × Int->Bool × List Un:=fun(a0,a1,a2)=>(decide (a0.s0.length<1000000/\a0.s1.length<1000000/\a0.s2.length<1000000),[.d (fF a0 a1)])
theorem RO (a0:bc) (a1:Int) (a2:Int) (hc:(decide (a0.s0.length<1000000/\a0.s1.length<1000000/\a0.s2.length<1000000))=true):∃m,t146 m (a0,a1,a2)=some ([.d (fF a0 a1)]):=by
 obtain⟨h1,h2,h3⟩:=zaj hc;refine⟨0, ?_⟩;unfold t146 fF;dsimp only
 by_cases c0:a1<0
 . rw[aQ c0,if_neg (by omega),if_neg (by omega),if_neg (by omega)]
 by_cases c3:a1>=3
 . rw[az c0,aQ c3,if_neg (by omega),if_neg (by omega),if_neg (by omega)]
 rw[az c0,az c3,cJ (by omega) (by omega),aP (by omega)];obtain rfl|rfl|rfl:a1=0\/a1=1\/a1=2:=by omega
 . exact(aP h1).trans rfl
 . exact(aP h2).trans rfl
 . exact(aP h3).trans rfl
theorem MO:ER 146 (mkE XH.en XH.ex f146):=an ae V9.right (fun m=>[]) (t:=t146) (by kernel_rfl) (fun m=>aB) (fun m a=>by kernel_rfl) fun(a0,a1,a2) hc=>RO a0 a1 a2 hc
def Wr:Tb Tryz.prog LQ TE XX:=V9.add 146 _ MO
def kY (d:Dat):Prop:=0<=d.i 1/\0<=d.i 2/\d.i 1+d.i 2<=1099511627776/\(0<=d.i 3/\d.i 3<=12)/\(d.b 4=true->d.i 1=0)/\(d.b 4=false->d.i 2=0)
theorem E5 {p q r s l:Int} (h:nL p q r s l=true):(0<=p/\p<=1099511627776)/\(0<=q/\q<=1099511627776)/\(0<=r/\r<=1099511627776)/\(0<=s/\s<=1099511627776)/\0<=l/\l<=12:=by
 simp only[nL,zae,zaf]at h;omega
theorem MT {x d:Dat} (hx:kY x) (hl:nL (d.i 1) (d.i 2) (d.i 3) (d.i 4) (d.i 5)=true) (hm:Gi x d=true):kY (mB x d)/\(mB x d).i 1=x.i 1-(d.i 1+d.i 2)-gX (x.i 1) (d.i 1) (d.i 2) (d.b 6)/\(mB x d).i 2=x.i 2+gX (x.i 1) (d.i 1) (d.i 2) (d.b 6)-d.i 4/\
 0<=gX (x.i 1) (d.i 1) (d.i 2) (d.b 6)/\d.i 1+d.i 2+gX (x.i 1) (d.i 1) (d.i 2) (d.b 6)<=x.i 1/\d.i 4<=x.i 2+gX (x.i 1) (d.i 1) (d.i 2) (d.b 6):=by
 obtain⟨x1,x2,x3,x4,x5,x6⟩:=hx;have l:=E5 hl;have e1:(mB x d).i 1=rW (x.i 1) (d.i 1) (d.i 2) (d.b 6):=rfl;have e2:(mB x d).i 2=qK (x.i 1) (x.i 2) (d.i 1) (d.i 2) (d.i 4) (d.b 6):=rfl;have e3:(mB x d).i 3=qv (x.i 1) (x.b 4) (d.i 1) (d.i 2) (d.i 5) (d.b 6):=rfl;have e4:(mB x d).b 4=(d.b 6||x.b 4):=Pg _;unfold kY;rw[e1,e2,e3,e4];unfold Gi BH at hm;unfold rW qK qv gX;generalize d.i 1=p at*
 generalize d.i 2=q at*
 generalize d.i 3=r at*
 generalize d.i 4=s at*
 generalize d.i 5=t at*
 generalize x.i 1=b at*
 generalize x.i 2=o at*
 clear e1 e2 e3 e4 hl;cases hb:x.b 4
 . have:=x6 hb;simp only[hb,zal,show w64 (b-p)=b-p from ab (by omega) (by omega),show w64 (b-p-q)=b-p-q from ab (by omega) (by omega)]at hm;simp only[show w64 (p+q)=p+q from ab (by omega) (by omega),show w64 (b-(p+q))=b-(p+q) from ab (by omega) (by omega)]
   by_cases hn:b-p-q<0
   . rw[zaa hn]at hm;cases hm
   rw[zap hn,zal]at hm;cases hd:d.b 6
   . simp only[hd,zal,zaE]at hm;subst hm;simp only[zal,Bool.or_self,zbs,zbQ,show w64 o=o from ab (by omega) (by omega)];have hz:0<=(bif b-(p+q)==0 then 0 else t)/\(bif b-(p+q)==0 then 0 else t)<=12:=by cases (b-(p+q)==0)<;>simp only[zaw,zal]<;>omega
     and_intros<;>first|trivial|omega|(intro h;cases h;done)|(intro _;omega)
   . simp only[hd,zaw,show w64 (o+(b-p-q))=o+(b-p-q) from ab (by omega) (by omega)]at hm;have hr:s<=o+(b-p-q):=by
      by_cases hs:s<=o+(b-p-q)
      . exact hs
      . rw[zap hs,zal,zaE]at hm;omega
     simp only[zaw,Bool.or_false,show w64 (o+(b-(p+q)))=o+(b-(p+q)) from ab (by omega) (by omega),show w64 (o+(b-(p+q))-s)=o+(b-(p+q))-s from ab (by omega) (by omega)]
     and_intros<;>first|trivial|omega|(intro h;cases h;done)|(intro _;omega)
 . have:=x5 hb;subst this;rw[hb]at hm;simp only[zaw,zae,zaE,Bool.not_eq_true',zaf]at hm;obtain⟨rfl,rfl,h3,h4,h5,h6⟩:=hm;rw[h5];simp only[zaw,zal,zb7,show w64 0=0 by decide,zbs,zbQ,show w64 (o-s)=o-s from ab (by omega) (by omega)]
   and_intros<;>first|trivial|omega|(intro h;cases h;done)|(intro _;omega)
theorem rO {β:Type} (f:Dat->β) (y:Dat):∀(l:List Dat) (j:Nat),j<l.length->f y=f (ag l j)->(l.set j y).map f=l.map f
 |[],j,h,_=>by simp at h
 |d::l,0,_,h=>by simp only[List.set_cons_zero,zaS,h];rfl
 |d::l,j+1,h,hy=>by simp only[zbZ,zaS,rO f y l j (by simpa using h) hy]
theorem il {l:List Dat} (h:∀d∈l,kY d):0<=al 1 l/\0<=al 2 l:=⟨fw 1 l fun d hd=>(h d hd).1,fw 2 l fun d hd=>(h d hd).2.1⟩
theorem Ay:∀(t l:List Dat) (last p q s r:Int) (x:NA),(∀d∈l,kY d)->nF last t=true->gZ l p q s r t=some x->al 1 l+al 2 l<=1099511627776->(0<=p/\p+al 1 l<=4398046511104)->(0<=s/\s+al 1 l<=4398046511104)->(0<=r/\r+al 1 l+al 2 l<=4398046511104)->(0<=q/\q+1099511627776*t.length<=1125899906842624)->
 (∀d∈x.aJ,kY d)/\x.aJ.map (fun d=>d.i 0)=l.map (fun d=>d.i 0)/\al 1 x.aJ=al 1 l-(x.p-p)-(x.l-s)/\al 2 x.aJ=al 2 l+(x.l-s)-(x.r-r)/\p<=x.p/\s<=x.l/\r<=x.r/\(q<=x.q/\x.q<=q+1099511627776*t.length)/\x.e=0
 |[],l,last,p,q,s,r,x,hl,ht,h,b1,b2,b3,b4,b5=>by
  simp only[gZ,zak]at h;subst h;exact⟨hl,rfl,by simp,by simp,by simp,by simp,by simp,by simp,rfl⟩
 |d::t,l,last,p,q,s,r,x,hl,ht,h,b1,b2,b3,b4,b5=>by
  simp only[nF]at ht
  split at ht
  . cases ht
  . split at ht
    . rename_i hT;unfold gZ at h
      split at h
      . cases h
      . rename_i hi
        split at h
        . rename_i hm;rcases CH (d.i 0) l 0 with hj|⟨hj1,hj2⟩
          . omega
          . have hj:(fY (d.i 0) 0 l).toNat<l.length:=by omega
            generalize (fY (d.i 0) 0 l).toNat=j at*
            obtain⟨r1,r2,r3,r4,r5,r6⟩:=MT (hl _ (rA hj)) hT hm;have lt:=E5 hT;have s1:=oN 1 (mB (ag l j) d) l j hj;have s2:=oN 2 (mB (ag l j) d) l j hj;have hl':=IU (p:=kY) (j:=j) hl r1;obtain⟨n1,n2⟩:=il hl;obtain⟨n3,n4⟩:=il hl';rw[r2]at s1;rw[r3]at s2;simp only[zac,zaG,zad]at b5;generalize gX ((ag l j).i 1) (d.i 1) (d.i 2) (d.b 6)=z at*
            rw[show w64 (d.i 1+d.i 2)=d.i 1+d.i 2 from ab (by omega) (by omega),show w64 (p+(d.i 1+d.i 2))=p+(d.i 1+d.i 2) from ab (by omega) (by omega),show w64 (q+d.i 3)=q+d.i 3 from ab (by omega) (by omega),show w64 (s+z)=s+z from ab (by omega) (by omega),show w64 (r+d.i 4)=r+d.i 4 from ab (by omega) (by omega)]at h;obtain⟨c1,c2,c3,c4,c5,c6,c7,c8,c9⟩:=Ay t _ _ _ _ _ _ x hl' ht h (by omega) (by omega) (by omega) (by omega) (by omega);refine⟨c1,c2.trans (rO _ _ _ _ hj rfl),by omega,by omega,by omega,by omega,by omega, ?_,c9⟩;simp only[zac,zaG,zad];omega
        . cases h
    . cases ht
theorem Ku {t l:List Dat} (hl:∀d∈l,kY d) (b:al 1 l+al 2 l<=1099511627776) (he:(ax t l).e=0):
 (∀d∈(ax t l).aJ,kY d)/\(ax t l).aJ.map (fun d=>d.i 0)=l.map (fun d=>d.i 0)/\al 1 (ax t l).aJ=al 1 l-(ax t l).p-(ax t l).l/\al 2 (ax t l).aJ=al 2 l+(ax t l).l-(ax t l).r/\
 0<=(ax t l).p/\0<=(ax t l).l/\0<=(ax t l).r/\0<=(ax t l).q/\(ax t l).q<=70368744177664:=by
 unfold ax at he⊢
 split at he
 . rename_i ht;rw[if_pos ht];simp only[mA,zae,zaf]at ht;cases hx:gZ l 0 0 0 0 t with
   |none=>rw[hx]at he;cases he
   |some x=>
    obtain⟨n1,n2⟩:=il hl;obtain⟨c1,c2,c3,c4,c5,c6,c7,c8,c9⟩:=Ay t l 0 0 0 0 0 x hl ht.2 hx b (by omega) (by omega) (by omega) (by omega);simp only[zbx];exact⟨c1,c2,by omega,by omega,c5,c6,c7,c8.1,by omega⟩
 . cases he
theorem oD (f:Dat->Bool):∀l:List Dat,(∀d∈l,0<=d.i 3)->0<=aY f l
 |[],_=>zb5 0
 |d::l,h=>by
  have:=h d (by simp);have:=oD f l fun x hx=>h x (by simp[hx])
  simp only[aY];cases f d<;>simp only[zaw,zal]<;>omega
def rT (d e:Dat) (b s:Int):Prop:=e.i 0=d.i 0/\e.i 1=d.i 1/\e.i 2=d.i 2/\e.i 3=d.i 3+b/\e.i 4=d.i 4/\e.i 5=d.i 5-s/\e.i 6=d.i 6
def amt (f:Dat->Bool) (d:Dat):Int:=bif f d then d.i 3 else 0
theorem fg (f:Dat->Bool) (d:Dat) (l:List Dat):aY f (d::l)=amt f d+aY f l:=rfl
theorem K1 {n:ai} {x:Dat} {c:List Dat} (h3:0<=x.i 3) (hk:(x.i 1=1\/x.i 1=2\/x.i 1=6)\/(0<=x.i 2/\x.i 2<(c.length:Int))) (hb:∀i,i<c.length->amt (toB i) x<=aW (ag c i)/\amt (toI i) x<=(ag c i).i 5):
 ku n x={n with fee:=n.fee-amt kF x,out:=n.out-amt kR x,rin:=n.rin+amt kT x}/\∀i,i<c.length->rT (ag c i) (ag (mH c x) i) (amt (toB i) x) (amt (toI i) x):=by
 have zero:∀i,kI x=false->kB x=false->rT (ag c i) (ag c i) (amt (toB i) x) (amt (toI i) x):=fun i h1 h2=>by
  simp only[amt,toB,toI,h1,h2,zbL,zal];exact⟨rfl,rfl,rfl,by omega,rfl,by omega,rfl⟩
 unfold ku mH
 by_cases h1:x.i 1=1
 . have a1:kF x=true:=by simp[kF,h1]
   have a2:kR x=false:=by simp[kR,h1]
   have a3:kT x=false:=by simp[kT,h1]
   have a4:kI x=false:=by simp[kI,h1]
   have a5:kB x=false:=by simp[kB,a1]
   rw[if_pos h1,if_pos h1];refine⟨?_,fun i hi=>zero i a4 a5⟩;simp only[amt,a1,a2,a3,zaw,zal,zbs,zbQ]
 rw[if_neg h1,if_neg h1];have a1:kF x=false:=jh h1
 by_cases h2:x.i 1=2
 . have a2:kR x=true:=by simp[kR,h2]
   have a3:kT x=false:=by simp[kT,h2]
   have a4:kI x=false:=by simp[kI,h2]
   have a5:kB x=false:=by simp[kB,a2]
   rw[if_pos h2,if_pos h2];refine⟨?_,fun i hi=>zero i a4 a5⟩;simp only[amt,a1,a2,a3,zaw,zal,zbs,zbQ]
 rw[if_neg h2,if_neg h2];have a2:kR x=false:=jh h2
 by_cases h6:x.i 1=6
 . have a3:kT x=true:=by simp[kT,h6]
   have a4:kI x=false:=by simp[kI,h6]
   have a5:kB x=false:=by simp[kB,a3]
   rw[if_pos h6,if_pos h6];refine⟨?_,fun i hi=>zero i a4 a5⟩;simp only[amt,a1,a2,a3,zaw,zal,zbs,zbQ]
 rw[if_neg h6,if_neg h6];have a3:kT x=false:=jh h6;refine⟨by simp only[amt,a1,a2,a3,zal,zbs,zbQ],fun i hi=> ?_⟩;have hj:(x.i 2).toNat<c.length:=by omega
 have hx2:x.i 2=((x.i 2).toNat:Int):=by omega
 generalize (x.i 2).toNat=j at*
 have hbj:=hb j hj
 by_cases h3':x.i 1=3
 . have a4:kI x=true:=by simp[kI,h3']
   have a5:kB x=false:=by simp[kB,a4]
   rw[if_pos h3'];simp only[amt,toB,toI,a4,a5,zbL,zbg,zal,hx2]at hbj⊢
   by_cases hij:i=j
   . subst hij;rw[beq_self_eq_true,zaw]at hbj⊢;rw[yE hj];refine⟨rfl,rfl,rfl,by simp only[po,gL];omega,rfl, ?_,rfl⟩;simp only[po,qm,DQ];omega
   . rw[show((j:Int)==(i:Int))=false from jh (by omega),zal,oT hij];exact⟨rfl,rfl,rfl,by omega,rfl,by omega,rfl⟩
 . have a4:kI x=false:=jh h3';have a5:kB x=true:=by simp[kB,a1,a2,a3,a4]
   rw[if_neg h3'];simp only[amt,toB,toI,a4,a5,zbL,zbg,zal,hx2]at hbj⊢
   by_cases hij:i=j
   . subst hij;rw[beq_self_eq_true,zaw]at hbj⊢;rw[yE hj];refine⟨rfl,rfl,rfl, ?_,rfl,by simp only[vK,qm];omega,rfl⟩;simp only[vK,gL,oL];omega
   . rw[show((j:Int)==(i:Int))=false from jh (by omega),zal,oT hij];exact⟨rfl,rfl,rfl,by omega,rfl,by omega,rfl⟩
theorem sF:∀(p:List Dat) (n:ai) (c:List Dat),(∀d∈p,0<=d.i 3)->(∀d∈p,(d.i 1=1\/d.i 1=2\/d.i 1=6)\/(0<=d.i 2/\d.i 2<(c.length:Int)))->(∀i,i<c.length->aY (toB i) p<=aW (ag c i)/\aY (toI i) p<=(ag c i).i 5)->
 (du p n c).1={n with fee:=n.fee-aY kF p,out:=n.out-aY kR p,rin:=n.rin+aY kT p}/\(du p n c).2.length=c.length/\∀i,i<c.length->rT (ag c i) (ag (du p n c).2 i) (aY (toB i) p) (aY (toI i) p)
 |[],n,c,_,_,_=>by
  refine⟨by simp[du,aY],rfl,fun i hi=>⟨rfl,rfl,rfl, ?_,rfl, ?_,rfl⟩⟩<;>simp[du,aY]
 |x::p,n,c,h0,hk,hb=>by
  have n0:=fun f=>oD f p fun d hd=>h0 d (zaN _ hd)
  have hx0:=h0 x (by simp);have m0:∀f,0<=amt f x:=fun f=>by unfold amt;cases f x<;>simp only[zaw,zal]<;>omega
  obtain⟨o1,o2⟩:=K1 (n:=n) hx0 (hk x (by simp)) fun i hi=>by
   have:=hb i hi;rw[fg,fg]at this;have:=n0 (toB i);have:=n0 (toI i);omega
  have hl:=Bd c x;obtain⟨i1,i2,i3⟩:=sF p (ku n x) (mH c x) (fun d hd=>h0 d (zaN _ hd)) (fun d hd=>by rw[hl];exact hk d (zaN _ hd)) fun i hi=>by
   rw[hl]at hi;have:=hb i hi;rw[fg,fg]at this;obtain⟨_,e1,_,e3,e4,e5,e6⟩:=o2 i hi;unfold aW at this⊢;omega
  refine⟨?_,i2.trans hl,fun i hi=> ?_⟩
  . show(du p (ku n x) (mH c x)).1=_;rw[i1,o1];simp only[fg,Int.sub_sub,Int.add_assoc]
  . obtain⟨e0,e1,e2,e3,e4,e5,e6⟩:=o2 i hi;obtain⟨f0,f1,f2,f3,f4,f5,f6⟩:=i3 i (by rw[hl];exact hi);rw[fg,fg];exact⟨f0.trans e0,f1.trans e1,f2.trans e2,by show(ag (du p (ku n x) (mH c x)).2 i).i 3=_;omega,f4.trans e4,by show(ag (du p (ku n x) (mH c x)).2 i).i 5=_;omega,f6.trans e6⟩
def ja (d e:Dat):Prop:=e.i 0=d.i 0/\e.i 1=d.i 1/\e.i 2=d.i 2/\e.i 3=d.i 3/\e.i 4=d.i 4/\e.i 5=d.i 5
theorem ja.refl (d:Dat):ja d d:=⟨rfl,rfl,rfl,rfl,rfl,rfl⟩
theorem ja.trans {a b c:Dat} (h:ja a b) (k:ja b c):ja a c:=⟨k.1.trans h.1,k.2.1.trans h.2.1,k.2.2.1.trans h.2.2.1,k.2.2.2.1.trans h.2.2.2.1,k.2.2.2.2.1.trans h.2.2.2.2.1,k.2.2.2.2.2.trans h.2.2.2.2.2⟩
structure fR (c c' : List Dat) : Prop where
 len:c'.length=c.length
 row:∀i,i<c.length->ja (ag c i) (ag c' i)
theorem fR.refl (c:List Dat):fR c c:=⟨rfl,fun _ _=> .refl _⟩
theorem fR.trans {a b c:List Dat} (h:fR a b) (k:fR b c):fR a c:=⟨k.len.trans h.len,fun i hi=>(h.row i hi).trans (k.row i (by rw[h.len];exact hi))⟩
theorem fR.set {c:List Dat} {j:Nat} {y:Dat} (hj:j<c.length) (h:ja (ag c j) y):fR c (c.set j y):=⟨zbk,fun i hi=>by
 by_cases e:i=j
 . subst e;rw[yE hj];exact h
 . rw[oT e];exact .refl _⟩
theorem D2 (w:Int) (d:Dat):ja d (fk w d):=⟨rfl,rfl,rfl,rfl,rfl,rfl⟩
theorem HJ (w:Int) (d:Dat):ja d (iE w d):=⟨rfl,rfl,rfl,rfl,rfl,rfl⟩
theorem AS (f:Dat->Int):∀c:List Dat,(∀d∈c,f d=0)->bE f c=0
 |[],_=>rfl
 |d::c,h=>by simp only[bE,h d (by simp),AS f c fun x hx=>h x (by simp[hx])];rfl
theorem A9 (j:Nat):∀c:List Dat,(∀d∈c,d.i j=0)->al j c=0
 |[],_=>rfl
 |d::c,h=>by simp only[al,h d (by simp),A9 j c fun x hx=>h x (by simp[hx])];rfl
theorem Qs {c:List Dat} {j:Nat} {y:Dat} (hj:j<c.length) (h:ja (ag c j) y):bE unD (c.set j y)=bE unD c:=by
 obtain⟨_,h1,_,h3,h4,_⟩:=h;rw[E2 _ _ _ _ hj];unfold unD;omega
theorem HX (t:Int):∀(k:Nat) (c:List Dat),eB c->yr t c<k->eB (vJ k t c)/\fR c (vJ k t c)/\(al 6 c<=t->al 6 (vJ k t c)=min t (bE unD c))/\(t<=al 6 c->vJ k t c=c)
 |0,c,_,h=>by omega
 |k+1,c,hg,h=>by
  have hu:=iW c hg.2;unfold vJ
  by_cases hs:al 6 c<t
  . rw[if_pos hs]
    by_cases hj:gU c c.length 0 (-1)<0
    . rw[if_pos hj];refine⟨hg,.refl c,fun _=> ?_,fun _=>rfl⟩;have h0:=((wb c c.length 0 (-1) (by omega) (.inl (by omega))).1 hj).2;have:bE aW c=0:=AS _ _ fun d hd=>by
       obtain⟨i,hi,rfl⟩:=lu hd;have:=h0 i (by omega) hi;have:=(Ej (cA hi hg.2)).1;omega
      omega
    . rw[if_neg hj];obtain⟨a1,a2,a3,a4⟩:=SZ hg hs (by omega);have hw:=D2 (t-al 6 c) (ag c (gU c c.length 0 (-1)).toNat);have hun:=Qs a1 hw;have has:=fR.set a1 hw;generalize c.set (gU c c.length 0 (-1)).toNat (fk (t-al 6 c) (ag c (gU c c.length 0 (-1)).toNat))=c' at*
      obtain⟨b1,b2,b3,b4⟩:=HX t k c' a2 (by omega);exact⟨b1,has.trans b2,fun _=>by rw[b3 a4,hun],fun _=>by omega⟩
  . rw[if_neg hs];exact⟨hg,.refl c,fun _=>by omega,fun _=>rfl⟩
theorem Jn (t:Int) (h0:0<=t):∀(k:Nat) (c:List Dat),eB c->zy t c<k->eB (sH k t c)/\fR c (sH k t c)/\(t<=al 6 c->al 6 (sH k t c)=t)/\(al 6 c<=t->sH k t c=c)
 |0,c,_,h=>by omega
 |k+1,c,hg,h=>by
  have hu:=iW c hg.2;unfold sH
  by_cases hs:t<al 6 c
  . rw[if_pos hs]
    by_cases hj:gW c c.length 0 (-1)<0
    . have h0:=((vS c c.length 0 (-1) (by omega) (.inl (by omega))).1 hj).2;have:al 6 c=0:=A9 _ _ fun d hd=>by
       obtain⟨i,hi,rfl⟩:=lu hd;have:=h0 i (by omega) hi;have:=(cC (cA hi hg.2)).2.2.2.2.1;omega
      omega
    . rw[if_neg hj];obtain⟨a1,a2,a3,a4⟩:=Te hg hs (by omega);have has:=fR.set a1 (HJ (al 6 c-t) (ag c (gW c c.length 0 (-1)).toNat));generalize c.set (gW c c.length 0 (-1)).toNat (iE (al 6 c-t) (ag c (gW c c.length 0 (-1)).toNat))=c' at*
      obtain⟨b1,b2,b3,b4⟩:=Jn t h0 k c' a2 (by omega);exact⟨b1,has.trans b2,fun _=>b3 a4,fun _=>by omega⟩
  . rw[if_neg hs];exact⟨hg,.refl c,fun _=>by omega,fun _=>rfl⟩
theorem JZ {t:Int} {c:List Dat} (hg:eB c) (h0:0<=t) (h1:t<=bE unD c):eB (hG t c)/\fR c (hG t c)/\al 6 (hG t c)=t:=by
 obtain⟨a1,a2,a3,a4⟩:=HX t (c.length+2) c hg (Dv t c);unfold hG;rw[show max t 0=t by omega];obtain⟨b1,b2,b3,b4⟩:=Jn t h0 (c.length+2) (vJ (c.length+2) t c) a1 (by have:=EA t (vJ (c.length+2) t c);rwa [a2.len]at this);refine⟨b1,a2.trans b2, ?_⟩
 by_cases hs:al 6 c<=t
 . have:=a3 hs;rw[b4 (by omega)];omega
 . rw[a4 (by omega)]at b3⊢;exact b3 (by omega)
structure S0 (d : bc) : Prop where
 year:1<=d.a.year/\d.a.year<=9000
 month:1<=d.a.month/\d.a.month<=12
 basis:0<=d.a.basis/\d.a.basis<=2
 fee:0<=d.b.fee/\d.b.fee<=5000
 bC:0<=d.b.bC/\d.b.bC<=1099511627776
 target:0<=d.b.target/\d.b.target<=10000
 advance:0<=d.b.advance/\d.b.advance<=1099511627776
 fm:0<=d.b.fm/\d.b.fm<=600
 oc:0<=d.b.oc/\d.b.oc<=100000
 ic:0<=d.b.ic/\d.b.ic<=100000
 late:0<=d.b.late/\d.b.late<=100000
 mf:0<=d.b.mf/\d.b.mf<=100000
 clean:0<=d.b.clean/\d.b.clean<=100000
 aar:((bW d).getD (0,0)).1=al 1 d.aK
 aJ:0<=al 1 d.aK/\al 1 d.aK<=1099511627776
 Kc:1<=d.aK.length/\d.aK.length<=64
 Fp:∀x∈d.aK,0<=x.i 1/\x.i 1<=1099511627776
 ids:(d.aK.map fun x=>x.i 0).Pairwise (·<·)
 pos:∀x∈d.aK,0<x.i 0
 Nw:1<=d.notes.length/\d.notes.length<=8
 note:∀x∈d.notes,(0<=x.i 0/\x.i 0<=7)/\(1<=x.i 1/\x.i 1<=1099511627776)/\(0<=x.i 2/\x.i 2<=5000)
 sumn:al 1 d.notes<=al 1 d.aK
 s0:fA d.s0=true
 s1:fA d.s1=true
 s2:fA d.s2=true
theorem AT:∀(l:List Dat) (last all r:Int),0<=all->kZ last all l=some r->r=all+al 1 l/\(all<=1099511627776->r<=1099511627776)/\(∀x∈l,0<=x.i 1/\x.i 1<=1099511627776/\last<x.i 0)/\(l.map fun x=>x.i 0).Pairwise (·<·)
 |[],last,all,r,h0,h=>by
  simp only[kZ,zak]at h;subst h;exact⟨by simp[al],fun h=>h,fun x hx=>by simp at hx,List.Pairwise.nil⟩
 |d::l,last,all,r,h0,h=>by
  unfold kZ at h
  split at h
  . cases h
  . rename_i hl
    split at h
    . rename_i hb;obtain⟨h1,h2,h3,h4⟩:=AT l _ _ _ (by omega) h;refine⟨by simp only[al];omega,fun _=>h2 (by omega),fun x hx=> ?_, ?_⟩
      . rcases zaT.1 hx with rfl|hx
        . omega
        . have:=h3 x hx;omega
      . simp only[zaS,List.pairwise_cons];refine⟨fun y hy=> ?_,h4⟩;obtain⟨x,hx,rfl⟩:=zbo.1 hy;exact(h3 x hx).2.2
    . cases h
theorem AB (most:Int) (hm:most<=1099511627776):∀(l:List Dat) (all r:Int),0<=all->om most all l=some r->r=all+al 1 l/\(all<=most->r<=most)/\∀x∈l,(0<=x.i 0/\x.i 0<=7)/\(1<=x.i 1/\x.i 1<=1099511627776)/\(0<=x.i 2/\x.i 2<=5000)
 |[],all,r,h0,h=>by
  simp only[om,zak]at h;subst h;exact⟨by simp[al],fun h=>h,fun x hx=>by simp at hx⟩
 |d::l,all,r,h0,h=>by
  unfold om at h
  split at h
  . rename_i hb;obtain⟨h1,h2,h3⟩:=AB most hm l _ _ (by omega) h;refine⟨by simp only[al];omega,fun _=>h2 (by omega),fun x hx=> ?_⟩;rcases zaT.1 hx with rfl|hx
    . omega
    . exact h3 x hx
  . cases h
theorem dg {d:bc} (h:(bW d).isSome=true):S0 d:=by
 unfold bW at h
 split at h
 . cases h
 . rename_i p hp
   split at h
   . cases h
   . rename_i n hn
     split at h
     . rename_i hc;have hs:bW d=some (p,n):=by unfold bW;simp only[hp,hn,if_pos hc]
       simp only[zae,qz,zaf]at hc;obtain⟨⟨t1,t2,t3,t4,t5,t6,t7,t8,t9,t10,t11,t12,t13⟩,s0,s1,s2⟩:=hc;unfold gM at hp
       split at hp
       . rename_i hl;obtain⟨l1,l2,l3,l4⟩:=AT _ _ _ _ (by omega) hp;have l2:=l2 (by omega);unfold mg at hn
         split at hn
         . rename_i hnl;obtain⟨n1,n2,n3⟩:=AB p (by omega) _ _ _ (by omega) hn;have h0:=fw 1 d.aK fun x hx=>(l3 x hx).1
           have n2:=n2 (by omega);exact⟨t6,t7,t8,t9,t10,t11,t12,t13,t1,t2,t3,t4,t5,by rw[hs];show p=_;omega,by omega,hl,fun x hx=>⟨(l3 x hx).1,(l3 x hx).2.1⟩,l4,fun x hx=>(l3 x hx).2.2,hnl,n3,by omega,s0,s1,s2⟩
         . cases hn
       . cases hp
     . cases h
def gK (T:aa):bc:=⟨T.a,T.aK,T.notes,T.b,T.s0,T.s1,T.s2⟩
structure ff (T : aa) : Prop where
 qx:(bW (gK T)).isSome=true
 MB:T.tr.map (fun d=>(d.i 0,d.i 1,d.i 2))=T.notes.map (fun d=>(d.i 0,d.i 1,d.i 2))
 Ro:∀d∈T.tr,aO d=true/\d.i 5<=1200000000000*T.n.period
 ids:T.aJ.map (fun d=>d.i 0)=T.aK.map (fun d=>d.i 0)
 Fp:∀d∈T.aJ,kY d
 bal:al 1 T.aJ+al 2 T.aJ+T.n.aT<=al 1 T.aK
 lost:T.n.aM-T.n.aT=al 2 T.aJ
 BW:0<=T.n.aT
 period:0<=T.n.period/\T.n.period<=600
 mode:0<=T.n.mode/\T.n.mode<=2
 bp:0<=T.n.bp/\T.n.bp<=T.n.period
 fee:0<=T.n.fee/\T.n.fee<=1200000000000*T.n.period
 out:0<=T.n.out/\T.n.out<=T.b.advance
 res:0<=T.n.aR/\T.n.aR<=T.n.rin/\T.n.rin<=1200000000000*(T.n.period+1)
 down:al 6 T.tr<=al 2 T.aJ
section
variable (T : aa) (l : List Dat)
def cP:NA:=ax l T.aJ
def qQ:Int:=dD T.a T.n.period (al 1 T.aJ) T.b.fee
def FD:Int:=bE (fun d=>dD T.a T.n.period (aW d) (d.i 2)) T.tr
def cTr:List Dat:=T.tr.map (eY T.a T.n.period)
def cIn:Int:=(cP T l).p+(cP T l).q+(cP T l).r
def pc:Int:=T.n.fee+qQ T+al 5 (cTr T)-cIn T l
def iB:Int:=iC (pc T l) (T.n.rin-T.n.aR)
def pZ:Int:=G1 (pc T l) (T.n.rin-T.n.aR) (T.b.advance-T.n.out)
def cN1:ai:={T.n with fee:=T.n.fee+qQ T,aR:=T.n.aR+iB T l}
def cX:bu:=⟨cIn T l+iB T l+pZ T l,T.n.fee+qQ T,T.n.out,min ((cP T l).p+(cP T l).r+(cP T l).l) (bE aW (cTr T)),yU T.b.target (al 1 (cP T l).aJ) (T.n.rin-(T.n.aR+iB T l))⟩
def dH:bu × List Dat × List Dat:=eD 0 (fF (gK T) T.n.mode) (cX T l) ((cTr T).map gh)
def eA:ai × List Dat:=du (dH T l).2.2 (cN1 T l) (cTr T)
def cN2:ai:={(eA T l).1 with out:=(eA T l).1.out+pZ T l,aM:=(eA T l).1.aM+(cP T l).l,aT:=(eA T l).1.aT+(cP T l).r}
def mu:List Dat:=hG (dA (bE unD (eA T l).2) (al 1 (cP T l).aJ) (cN2 T l).aM (cN2 T l).aT) (eA T l).2
def xh:Int × Int:=dS T.n.mode T.n.bp T.b.fm (T.b.oc==0||cf (al 1 (cP T l).aJ) (bE aW (mu T l)) T.b.oc) (T.b.ic==0||cf (min (cP T l).q 1099511627776) (min (FD T) 1099511627776) T.b.ic)
 (T.b.late==0||cu (cN 2 (cP T l).aJ+cN 3 (cP T l).aJ) (al 1 (cP T l).aJ) T.b.late) (T.b.mf==0||cu ((cN2 T l).aM-(cN2 T l).aT) (al 1 T.aK) T.b.mf)
def cN3:ai:={cN2 T l with mode:=(xh T l).1,bp:=(xh T l).2,period:=T.n.period+1}
end
structure jq where
 ra:bM
 rb:bF
 next:Int
 e:Int
 t:aa
 aZ:List Dat
 notes:List Dat
def noR (e:Int) (T:aa):jq:=⟨⟨false,0,0,0,0,0,0,0,0,0,0⟩,⟨0,0,0,0,0⟩,0,e,T,[],[]⟩
def qw (T:aa) (l:List Dat):jq:=
 ⟨⟨false,T.n.period+1,T.n.mode,(cP T l).p,(cP T l).q,(cP T l).l,(cP T l).r,iB T l,pZ T l,qQ T,FD T⟩,⟨(dH T l).1.aA,al 1 (cP T l).aJ,(cN2 T l).rin-(cN2 T l).aR,(cN2 T l).out,(cN2 T l).fee⟩,(xh T l).1,0,
  {T with n:=cN3 T l,aJ:=(cP T l).aJ,tr:=mu T l},(dH T l).2.2,(mu T l).map yW⟩
def aG (T:aa) (l:List Dat):jq:=bif T.n.fc then noR 5 T else bif decide (T.n.period>=600)then noR 4 T else bif (cP T l).e !=0 then noR (cP T l).e T else qw T l
theorem D8 (f:Dat->Dat) {l:List Dat} {i:Nat} (h:i<l.length):ag (l.map f) i=f (ag l i):=by
 rw[gm (by simpa using h),gm h,List.getElem_map]
theorem Fh (a:ao) (p:Int):∀l:List Dat,al 5 (l.map (eY a p))=al 5 l+bE (fun d=>dD a p (aW d) (d.i 2)) l/\al 6 (l.map (eY a p))=al 6 l/\bE aW (l.map (eY a p))=bE aW l
 |[]=>⟨rfl,rfl,rfl⟩
 |d::l=>by
  obtain⟨h1,h2,h3⟩:=Fh a p l;have e5:(eY a p d).i 5=d.i 5+dD a p (aW d) (d.i 2):=rfl;have e6:(eY a p d).i 6=d.i 6:=rfl;have eb:aW (eY a p d)=aW d:=rfl;simp only[zaS,al,bE,h1,h2,h3,e5,e6,eb]
  and_intros<;>first|trivial|omega
theorem IP (f:Dat->Int) (b:Int):∀l:List Dat,(∀d∈l,0<=f d/\f d<=b)->0<=bE f l/\bE f l<=b*l.length
 |[],_=>by simp[bE]
 |d::l,h=>by
  have h1:=h d (by simp);have h2:=IP f b l fun x hx=>h x (by simp[hx])
  simp only[bE,zac,zaG,zb8];omega
theorem NP {n b:Int} (h1:0<=n) (h2:n<=1099511627776) (h3:0<=b) (h4:b<=10000):mdV n b 10000 0=n*b/10000/\0<=mdV n b 10000 0/\mdV n b 10000 0<=n:=by
 have hm:=zb0 h4 h1;have hz:=za7 h1 h3;have i:=XP (n:=n) (b:=b) (p:=10000) (h:=0) h1 (by omega) h3 (by omega) (by omega) (by omega) (by omega) (by omega) (by omega);rw[i.2.1,WQ];omega
theorem b9 {l:List Dat} (h:fA l=true):1<=l.length/\l.length<=16:=by
 simp only[fA,zae,zaf]at h;omega
theorem JM {T:aa} {i:Nat} (hi:i<(cTr T).length):ag ((cTr T).map gh) i=gh (ag (cTr T) i):=D8 _ hi
section
variable {T : aa} {l : List Dat} (h : ff T) (hp : T.n.period < 600) (he : (cP T l).e = 0)
include h
theorem Ad:T.tr.length=T.notes.length:=by
 have:=congrArg List.length h.MB;simpa using this
theorem dt:T.tr.length<=8/\1<=T.tr.length:=by
 have:=(dg h.qx).Nw;rw[Ad h];exact⟨this.2,this.1⟩
theorem gk:eB T.tr:=⟨by have:=dt h;omega,fun d hd=>(h.Ro d hd).1⟩
theorem lC:T.aJ.length=T.aK.length/\T.aJ.length<=64:=by
 have:=congrArg List.length h.ids;have:=(dg h.qx).Kc;simp only[zaW,gK]at*
 omega
theorem iG:0<=al 1 T.aJ/\0<=al 2 T.aJ/\al 1 T.aJ+al 2 T.aJ+T.n.aT<=1099511627776:=by
 have h1:=il h.Fp;have h2:=(dg h.qx).aJ.2;have h3:=h.bal;have:al 1 (gK T).aK=al 1 T.aK:=rfl;omega
theorem mG:(0<=qQ T/\qQ T<=1200000000000)/\eB (cTr T)/\(∀d∈cTr T,d.i 5<=1200000000000*(T.n.period+1))/\(FD T=al 5 (cTr T)-al 5 T.tr/\0<=FD T/\FD T<=1200000000000*T.tr.length)/\bE aW (cTr T)=bE aW T.tr/\al 6 (cTr T)=al 6 T.tr:=by
 have D:=dg h.qx;obtain⟨b1,b2,b3⟩:=iG h;have r0:=h.BW;have hs:∀d∈T.tr,0<=dD T.a T.n.period (aW d) (d.i 2)/\dD T.a T.n.period (aW d) (d.i 2)<=1200000000000:=fun d hd=>
  qW _ D.year.1 D.year.2 D.month.1 D.month.2 h.period.1 (by have:=h.period.2;omega) (Ej (h.Ro d hd).1).1 (Ej (h.Ro d hd).1).2
 obtain⟨a1,a2,a3⟩:=Fh T.a T.n.period T.tr;have sd:=IP (fun d=>dD T.a T.n.period (aW d) (d.i 2)) 1200000000000 T.tr hs;have hsh:∀d∈cTr T,aO d=true/\d.i 5<=1200000000000*(T.n.period+1):=fun d hd=>by
  obtain⟨x,hx,rfl⟩:=zbo.1 hd;obtain⟨g,g5⟩:=h.Ro x hx;have g':=cC g;have:=hs x hx;have:=h.period;have e5:(eY T.a T.n.period x).i 5=x.i 5+dD T.a T.n.period (aW x) (x.i 2):=rfl;refine⟨zaa ?_,by omega⟩;rw[e5];show(0<=x.i 1/\x.i 1<=1099511627776/\0<=x.i 3/\x.i 4=0/\0<=x.i 6/\x.i 3+x.i 6<=x.i 1/\_);omega
 refine⟨qW _ D.year.1 D.year.2 D.month.1 D.month.2 h.period.1 (by have:=h.period.2;omega) b1 (by omega),⟨by simp only[cTr,zaW];have:=dt h;omega,fun d hd=>(hsh d hd).1⟩,fun d hd=>(hsh d hd).2,⟨?_,sd.1,sd.2⟩,a3,a2⟩;show bE _ T.tr=al 5 (T.tr.map (eY T.a T.n.period))-al 5 T.tr;omega
theorem pk:(cTr T).length=T.tr.length:=by simp[cTr]
include he
theorem pM:(∀d∈(cP T l).aJ,kY d)/\(cP T l).aJ.map (fun d=>d.i 0)=T.aJ.map (fun d=>d.i 0)/\al 1 (cP T l).aJ=al 1 T.aJ-(cP T l).p-(cP T l).l/\al 2 (cP T l).aJ=al 2 T.aJ+(cP T l).l-(cP T l).r/\
 0<=(cP T l).p/\0<=(cP T l).l/\0<=(cP T l).r/\0<=(cP T l).q/\(cP T l).q<=70368744177664:=by
 have b:=iG h;have r0:=h.BW;exact Ku h.Fp (by omega) he
theorem nr:(0<=cIn T l/\cIn T l<=75000000000000)/\(-1000000000000000<=pc T l/\pc T l<=10000000000000000)/\(0<=iB T l/\iB T l<=T.n.rin-T.n.aR/\iB T l<=max (pc T l) 0)/\(0<=pZ T l/\pZ T l<=T.b.advance-T.n.out):=by
 obtain⟨p1,p2,p3,p4,p5,p6,p7,p8,p9⟩:=pM h he;obtain⟨a1,a2,a3,a4,a5⟩:=mG h;have n1:=il p1;have b:=iG h;have r0:=h.BW;have hi:0<=cIn T l/\cIn T l<=75000000000000:=by unfold cIn;omega
 have s5:=(iW (cTr T) a2.2).2.1;have hl:=dt h;have f:=h.fee;have p:=h.period;have s5':al 5 (cTr T)<=1200000000000*601*8:=by
  have:=Bu 5 (1200000000000*601) (cTr T) fun d hd=>⟨(cC (a2.2 d hd)).2.2.2.2.2.2.1,by have:=a3 d hd;omega⟩
  have:=pk h;omega
 have hn: -1000000000000000<=pc T l/\pc T l<=10000000000000000:=by unfold pc;omega
 have r:=h.res;have o:=h.out;refine⟨hi,hn, ?_, ?_⟩
 . unfold iB iC;omega
 . unfold pZ G1;omega
theorem qV:ot (cX T l)=true/\aV ((cTr T).map gh)=true/\((cX T l).room<=1099511627776/\(cX T l).aA<=800000000000000):=by
 obtain⟨p1,p2,p3,p4,p5,p6,p7,p8,p9⟩:=pM h he;obtain⟨a1,a2,a3,a4,a5⟩:=mG h;obtain⟨c1,c2,c3,c4⟩:=nr h he;have n1:=il p1;have b:=iG h;have D:=dg h.qx;have r:=h.res;have o:=h.out;have hpe:=h.period;have f:=h.fee;have r0:=h.BW;have sb:=(iW (cTr T) a2.2).1;have tg:0<=T.b.target/\T.b.target<=10000:=D.target;have ad:T.b.advance<=1099511627776:=D.advance.2;have g:=NP (n:=al 1 (cP T l).aJ) (b:=T.b.target) n1.1 (by omega) tg.1 tg.2;refine⟨zaa ?_,yS (by rw[zaW];exact a2.1) fun d hd=> ?_, ?_, ?_⟩
 . simp only[cX,yU];omega
 . obtain⟨x,hx,rfl⟩:=zbo.1 hd;have g:=cC (a2.2 x hx);have gb:=Ej (a2.2 x hx);simp only[me,gh,zae,fP,j8];clear p1 p2 p3 p4 p5 p6 p7 p8 p9 a1 a3 a4 a5 c1 c2 c3 c4 D r o f r0 sb tg ad b n1 hpe;exact⟨rfl,zaa (by omega)⟩
 . simp only[cX,yU];omega
 . simp only[cX];omega
end
theorem K6 {m p c:Int} {o i a s:Bool} (hm:0<=m/\m<=2) (hp:0<=p):(0<=(dS m p c o i a s).1/\(dS m p c o i a s).1<=2)/\0<=(dS m p c o i a s).2/\(dS m p c o i a s).2<=p+1:=by
 unfold dS
 repeat' split
 all_goals (simp only;omega)
section
variable {T : aa} {l : List Dat} (h : ff T) (hp : T.n.period < 600) (he : (cP T l).e = 0)
include h
theorem oA:fA (fF (gK T) T.n.mode)=true:=by
 have D:=dg h.qx;have m:=h.mode;unfold fF
 by_cases m0:T.n.mode=0
 . rw[if_pos m0];exact D.s0
 rw[if_neg m0]
 by_cases m1:T.n.mode=1
 . rw[if_pos m1];exact D.s1
 rw[if_neg m1,if_pos (by omega)];exact D.s2
include he
theorem tu:Kept (cX T l) ((cTr T).map gh) (dH T l).2.2 (dH T l).1 (dH T l).2.1/\(∀d∈(dH T l).2.2,Lw T.tr.length 0 (fF (gK T) T.n.mode) d)/\ot (dH T l).1=true/\aV (dH T l).2.1=true/\(dH T l).2.2.length<=128000:=by
 obtain⟨x1,x2,x3,x4⟩:=qV h he;have k:=z7 (fF (gK T) T.n.mode) 0 (cX T l) _ x1 x2;have o:=Jm (fF (gK T) T.n.mode) 0 (cX T l) _ x1 x2;have sl:=b9 (oA h);have e:((cTr T).map gh).length=T.tr.length:=by rw[zaW,pk h]
 rw[e]at k;exact⟨k.1,k.2.1,o.1,o.2.1,by have:=o.2.2.2;unfold dH;omega⟩
theorem nb:(∀d∈(dH T l).2.2,1<=d.i 3/\((d.i 1=1\/d.i 1=2\/d.i 1=6)\/(0<=d.i 2/\d.i 2<(T.tr.length:Int))))/\al 3 (dH T l).2.2<=800000000000000/\
 (0<=aY kF (dH T l).2.2/\aY kF (dH T l).2.2<=T.n.fee+qQ T)/\(0<=aY kR (dH T l).2.2/\aY kR (dH T l).2.2<=T.n.out)/\(0<=aY kT (dH T l).2.2/\aY kT (dH T l).2.2<=(cX T l).room)/\
 ∀i,i<T.tr.length->(0<=aY (toB i) (dH T l).2.2/\aY (toB i) (dH T l).2.2<=aW (ag (cTr T) i))/\(0<=aY (toI i) (dH T l).2.2/\aY (toI i) (dH T l).2.2<=(ag (cTr T) i).i 5):=by
 obtain⟨k,p,g,c,_⟩:=tu h he;obtain⟨x1,x2,x3,x4⟩:=qV h he;have g:=wJ g;have hpp:∀d∈(dH T l).2.2,1<=d.i 3/\((d.i 1=1\/d.i 1=2\/d.i 1=6)\/(0<=d.i 2/\d.i 2<(T.tr.length:Int))):=fun d hd=>by
  obtain⟨_,_,h1,h2,h3,h4⟩:=p d hd;refine⟨h2, ?_⟩;rw[<-h1]at h4
  by_cases hn:d.i 2<0
  . exact .inl (h4.1 hn)
  . exact .inr (by omega)
 have n0:=fun f=>oD f (dH T l).2.2 fun d hd=>by have:=(hpp d hd).1;omega
 have kf:=k.fee;have kr:=k.ca;have kt:=k.room;have kc:=k.aA;have e1:(cX T l).fee=T.n.fee+qQ T:=rfl;have e2:(cX T l).ca=T.n.out:=rfl;refine⟨hpp,by omega,⟨n0 _,by omega⟩,⟨n0 _,by omega⟩,⟨n0 _,by omega⟩,fun i hi=> ?_⟩;have hl:=pk h;have hr:=k.row i (by rw[zaW];omega);rw[JM (by omega)]at hr;have hc:=cW ((cv c).2 _ (rA (l:=(dH T l).2.1) (j:=i) (by rw[k.len,zaW];omega)));rw[hr]at hc;have b1:(gh (ag (cTr T) i)).i 1=aW (ag (cTr T) i):=rfl;have b2:(gh (ag (cTr T) i)).i 2=(ag (cTr T) i).i 5:=rfl;simp only[fP,j8,b1,b2]at hc;exact⟨⟨n0 _,by omega⟩,⟨n0 _,by omega⟩⟩
theorem kU:(eA T l).1={T.n with fee:=T.n.fee+qQ T-aY kF (dH T l).2.2,out:=T.n.out-aY kR (dH T l).2.2,rin:=T.n.rin+aY kT (dH T l).2.2,aR:=T.n.aR+iB T l}/\(eA T l).2.length=T.tr.length/\eB (eA T l).2/\
 (∀i,i<T.tr.length->rT (ag (cTr T) i) (ag (eA T l).2 i) (aY (toB i) (dH T l).2.2) (aY (toI i) (dH T l).2.2))/\qU (dH T l).2.2 (cN1 T l) (cTr T)=true:=by
 obtain⟨s1,s2,s3,s4,s5,s6⟩:=nb h he;obtain⟨k,p,g,c,pl⟩:=tu h he;obtain⟨a1,a2,a3,a4,a5⟩:=mG h;obtain⟨c1,c2,c3,c4⟩:=nr h he;have hl:=pk h;obtain⟨d1,d2,d3⟩:=sF (dH T l).2.2 (cN1 T l) (cTr T) (fun d hd=>by have:=(s1 d hd).1;omega) (fun d hd=>by rw[hl];exact(s1 d hd).2) (fun i hi=>by have:=s6 i (by omega);omega);have f:=h.fee;have o:=h.out;have r:=h.res;have hpe:=h.period;have ad:T.b.advance<=1099511627776:=(dg h.qx).advance.2;have hg:eB (eA T l).2:=by
  have hdl:(eA T l).2.length=(cTr T).length:=d2;refine⟨by have:=a2.1;omega,fun d hd=> ?_⟩;obtain⟨i,hi,rfl⟩:=lu hd;obtain⟨_,e1,_,e3,e4,e5,e6⟩:=d3 i (by omega);have:=s6 i (by omega);have gi:=cC (cA (c:=cTr T) (i:=i) (by omega) a2.2);have e1':(ag (eA T l).2 i).i 1=(ag (cTr T) i).i 1:=e1;have e3':(ag (eA T l).2 i).i 3=(ag (cTr T) i).i 3+aY (toB i) (dH T l).2.2:=e3;have e4':(ag (eA T l).2 i).i 4=(ag (cTr T) i).i 4:=e4;have e5':(ag (eA T l).2 i).i 5=(ag (cTr T) i).i 5-aY (toI i) (dH T l).2.2:=e5;have e6':(ag (eA T l).2 i).i 6=(ag (cTr T) i).i 6:=e6;refine zaa ?_
  rw[e1',e3',e4',e5',e6'];unfold aW at this;omega
 refine⟨d1,d2.trans hl,hg,fun i hi=>d3 i (by omega), ?_⟩;simp only[qU,zae,zaf,zao];refine⟨by omega,fun d hd=> ?_,⟨by omega, ?_⟩,a2⟩
 . have:=s1 d hd;simp only[G7,zae,zba,zaf,hl];exact⟨by omega,this.2⟩
 . simp only[cN1];omega
theorem yM:cN2 T l={T.n with fee:=T.n.fee+qQ T-aY kF (dH T l).2.2,out:=T.n.out-aY kR (dH T l).2.2+pZ T l,rin:=T.n.rin+aY kT (dH T l).2.2,aR:=T.n.aR+iB T l,aM:=T.n.aM+(cP T l).l,aT:=T.n.aT+(cP T l).r}:=by
 unfold cN2;rw[(kU h he).1]
theorem tW:0<=dA (bE unD (eA T l).2) (al 1 (cP T l).aJ) (cN2 T l).aM (cN2 T l).aT/\dA (bE unD (eA T l).2) (al 1 (cP T l).aJ) (cN2 T l).aM (cN2 T l).aT<=bE unD (eA T l).2/\
 dA (bE unD (eA T l).2) (al 1 (cP T l).aJ) (cN2 T l).aM (cN2 T l).aT<=al 2 (cP T l).aJ/\(cN2 T l).aM-(cN2 T l).aT=al 2 (cP T l).aJ:=by
 obtain⟨p1,p2,p3,p4,p5,p6,p7,p8,p9⟩:=pM h he;have g:=(kU h he).2.2.1;have u:=(iW _ g.2).2.2.2.1;have t:=xk (bE unD (eA T l).2) (al 1 (cP T l).aJ) (cN2 T l).aM (cN2 T l).aT;have n1:=il p1;have hl:=h.lost;have e:(cN2 T l).aM-(cN2 T l).aT=al 2 (cP T l).aJ:=by rw[yM h he];simp only;omega
 omega
theorem tq:eB (mu T l)/\fR (eA T l).2 (mu T l)/\al 6 (mu T l)=dA (bE unD (eA T l).2) (al 1 (cP T l).aJ) (cN2 T l).aM (cN2 T l).aT:=by
 have t:=tW h he;exact JZ (kU h he).2.2.1 t.1 t.2.1
theorem AW:(mu T l).length=T.tr.length/\∀i,i<T.tr.length->(ag (mu T l) i).i 0=(ag T.tr i).i 0/\(ag (mu T l) i).i 1=(ag T.tr i).i 1/\(ag (mu T l) i).i 2=(ag T.tr i).i 2/\(ag (mu T l) i).i 3=(ag T.tr i).i 3+aY (toB i) (dH T l).2.2/\(ag (mu T l) i).i 4=(ag T.tr i).i 4/\
 (ag (mu T l) i).i 5=(ag T.tr i).i 5+dD T.a T.n.period (aW (ag T.tr i)) ((ag T.tr i).i 2)-aY (toI i) (dH T l).2.2/\ag (cTr T) i=eY T.a T.n.period (ag T.tr i):=by
 obtain⟨d1,d2,d3,d4,d5⟩:=kU h he;obtain⟨g,s,_⟩:=tq h he;refine⟨s.len.trans d2,fun i hi=> ?_⟩;obtain⟨r0,r1,r2,r3,r4,r5⟩:=s.row i (by omega);obtain⟨e0,e1,e2,e3,e4,e5,e6⟩:=d4 i hi;have hr:ag (cTr T) i=eY T.a T.n.period (ag T.tr i):=D8 _ hi;rw[hr]at e0 e1 e2 e3 e4 e5;have q5:(eY T.a T.n.period (ag T.tr i)).i 5=(ag T.tr i).i 5+dD T.a T.n.period (aW (ag T.tr i)) ((ag T.tr i).i 2):=rfl;rw[q5]at e5;exact⟨r0.trans e0,r1.trans e1,r2.trans e2,r3.trans e3,r4.trans e4,r5.trans e5,hr⟩
include hp
theorem Hl:ff (qw T l).t:=by
 obtain⟨p1,p2,p3,p4,p5,p6,p7,p8,p9⟩:=pM h he;obtain⟨a1,a2,a3,a4,a5⟩:=mG h;obtain⟨c1,c2,c3,c4⟩:=nr h he;obtain⟨s1,s2,s3,s4,s5,s6⟩:=nb h he;obtain⟨x1,x2,x3,x4⟩:=qV h he;obtain⟨t1,t2,t3⟩:=tq h he;obtain⟨g1,g2,g3,g4⟩:=tW h he;obtain⟨r1,r2⟩:=AW h he;have e:=yM h he;have n:=K6 (c:=T.b.fm) (o:=(T.b.oc==0||cf (al 1 (cP T l).aJ) (bE aW (mu T l)) T.b.oc)) (i:=(T.b.ic==0||cf (min (cP T l).q 1099511627776) (min (FD T) 1099511627776) T.b.ic))
  (a:=(T.b.late==0||cu (cN 2 (cP T l).aJ+cN 3 (cP T l).aJ) (al 1 (cP T l).aJ) T.b.late)) (s:=(T.b.mf==0||cu ((cN2 T l).aM-(cN2 T l).aT) (al 1 T.aK) T.b.mf)) h.mode h.bp.1
 have bl:=h.bal;have r0:=h.BW;have pe:=h.period;have pa:=h.bp;have fe:=h.fee;have ou:=h.out;have re:=h.res;refine⟨h.qx, ?_,fun d hd=> ?_,p2.trans h.ids,p1, ?_,g4, ?_, ?_,n.1, ?_, ?_, ?_, ?_, ?_⟩
 . refine Eq.trans ?_ h.MB;refine List.ext_getElem (by simp[qw,r1]) fun i h1 h2=> ?_
   simp only[zaW]at h1 h2;have hi:i<T.tr.length:=h2;have:=r2 i hi;rw[gm (show i<(mu T l).length by omega),gm hi]at this;simp only[List.getElem_map];exact Prod.ext this.1 (Prod.ext this.2.1 this.2.2.1)
 . refine⟨t1.2 d hd, ?_⟩;obtain⟨i,hi,rfl⟩:=lu (show d∈mu T l from hd);have hi:i<T.tr.length:=by omega
   have:=(r2 i hi).2.2.2.2.2.1;have q:=a3 _ (rA (l:=cTr T) (j:=i) (by rw[pk h];exact hi));rw[(r2 i hi).2.2.2.2.2.2]at q;have q5:(eY T.a T.n.period (ag T.tr i)).i 5=(ag T.tr i).i 5+dD T.a T.n.period (aW (ag T.tr i)) ((ag T.tr i).i 2):=rfl;rw[q5]at q;have:=(s6 i hi).2.1;show(ag (mu T l) i).i 5<=1200000000000*(T.n.period+1)
   omega
 . show al 1 (cP T l).aJ+al 2 (cP T l).aJ+(cN2 T l).aT<=al 1 T.aK;rw[e];simp only;omega
 . show 0<=(cN2 T l).aT;rw[e];simp only;omega
 . show 0<=T.n.period+1/\T.n.period+1<=600;omega
 . show 0<=(xh T l).2/\(xh T l).2<=T.n.period+1;exact⟨n.2.1,by have:=n.2.2;unfold xh;omega⟩
 . show 0<=(cN2 T l).fee/\(cN2 T l).fee<=1200000000000*(T.n.period+1)
   rw[e];simp only;omega
 . show 0<=(cN2 T l).out/\(cN2 T l).out<=T.b.advance;rw[e];simp only;omega
 . show 0<=(cN2 T l).aR/\(cN2 T l).aR<=(cN2 T l).rin/\(cN2 T l).rin<=1200000000000*(T.n.period+1+1)
   rw[e];simp only;omega
 . show al 6 (mu T l)<=al 2 (cP T l).aJ;omega
end
def dX (T:aa):Bool:= @decide (ff T) (Classical.propDecidable _)
theorem gg {T:aa}:dX T=true↔ff T:=by unfold dX;simp
theorem v7 {l:List Dat} (h:∀d∈l,kY d) (hl:l.length<=1000):(decide (l.length<=1000)&&l.all dw)=true:=by
 rw[zae,zao];exact⟨zaa hl,fun d hd=>zaa (by have:=h d hd;unfold kY at this;omega)⟩
theorem nf {T:aa} (h:ff T):T.aK.length<1000000/\T.notes.length<1000000/\T.s0.length<1000000/\T.s1.length<1000000/\T.s2.length<1000000/\T.aJ.length<1000000/\T.tr.length<1000000:=by
 have D:=dg h.qx;have h0:=b9 D.s0;have h1:=b9 D.s1;have h2:=b9 D.s2;have h3:=lC h;have h4:=dt h;have h5:=Ad h;have:(gK T).aK=T.aK:=rfl;have:=D.Kc;simp only[gK]at*
 omega
theorem Fw {T:aa} (h:ff T):(fF (gK T) T.n.mode).length<=16:=(b9 (oA h)).2
def N98:aC:=⟨Wr.tab,98,⟨[.np 0 0 0,.af (sB 6)],bf 0,0⟩,⟨[.agg [.bool,.int .i64,.int .i64,.int .i64,.int .i64,.int .i64,.int .i64,.int .i64,.int .i64,.int .i64,.int .i64,.buf 17 4,.int .i64,.int .i64,.int .i64,.int .i64,.int .i64,.buf 18 3,.int .i64],.int .i64],[.cells [.int .i64,.int .i64,.int .i64,.buf 9 2,.buf 10 3,.int .i64,.int .i64,.int .i64,.int .i64,.int .i64,.int .i64,.int .i64,.int .i64,.int .i64,.int .i64,.buf 11 2,.buf 12 2,.buf 13 2,.ptr 14 0 0,.buf 16 7,.int .i64,.int .i64,.int .i64,.int .i64,.int .i64,.int .i64,.int .i64,.int .i64,.int .i64,.bool],.gone,.gone,.gone,.gone,.gone,.gone,.gone,.gone,.af (sI 2),.af (sI 3),.af (sI 2),.af (sI 2),.af (sI 2),.cells [.buf 15 5],.af (sB 4),.af (sI 7),.af (sI 4),.af (sI 3)],0⟩,[]⟩
def t98 (m:Nat):Int × List Dat × ao × aq × ai × List Dat × List Dat × List Dat × List Dat × List Dat × List Dat × List Dat->Option (List Un):=fun(a0,a1,a2,a3,a4,a5,a6,a7,a8,a9,a10,a11)=>
 chk (decide (0<=a0))<|
 bif a4.fc then
 some (Uns.enc ((⟨false,0,0,0,0,0,0,0,0,0,0⟩:bM):bM)++Uns.enc ((⟨0,0,0,0,0⟩:bF):bF)++[.i 0,.i 5]++Uns.enc (a2:ao)++Uns.enc (a3:aq)++Uns.enc (a4:ai)++[.d a5,.d a6,.d a7,.d a8,.d a9,.d a10,.d a11,.d ([]),.d ([])])
 else
 chk (decide (0<=a0))<|
 bif (decide (a4.period>=600))then
 some (Uns.enc ((⟨false,0,0,0,0,0,0,0,0,0,0⟩:bM):bM)++Uns.enc ((⟨0,0,0,0,0⟩:bF):bF)++[.i 0,.i 4]++Uns.enc (a2:ao)++Uns.enc (a3:aq)++Uns.enc (a4:ai)++[.d a5,.d a6,.d a7,.d a8,.d a9,.d a10,.d a11,.d ([]),.d ([])])
 else
 chk (decide (0<=a0)&&decide (a5.length<1000000/\a6.length<1000000/\a7.length<1000000/\a8.length<1000000/\a9.length<1000000/\a10.length<1000000/\a11.length<1000000))<|
 chk (decide (0<([.r [.r a10]]:List Dat).length)&&(decide (((ag ([.r [.r a10]]:List Dat) 0).d 0).length<=1000)&&((ag ([.r [.r a10]]:List Dat) 0).d 0).all dw))<|
 lt ((al 1 ((ag ([.r [.r a10]]:List Dat) 0).d 0)):Int) fun x2=>
 chk (decide (a10.length<1000000))<|
 bif (((ax a1 a10).e) !=0)then
 some (Uns.enc ((⟨false,0,0,0,0,0,0,0,0,0,0⟩:bM):bM)++Uns.enc ((⟨0,0,0,0,0⟩:bF):bF)++[.i 0,.i ((ax a1 a10).e)]++Uns.enc (a2:ao)++Uns.enc (a3:aq)++Uns.enc (a4:ai)++[.d a5,.d a6,.d a7,.d a8,.d a9,.d a10,.d a11,.d ([]),.d ([])])
 else
 chk (decide ((1<=a2.year/\a2.year<=9000/\1<=a2.month/\a2.month<=12)/\(0<=a4.period/\a4.period<=600)/\(0<=a4.fee/\a4.fee<=1125899906842624)/\(0<=x2/\x2<=1099511627776))&&(decide (a11.length<=1000)&&a11.all aO))<|
 lt ((bE (fun d=>dD a2 a4.period (aW d) (d.i 2)) a11):Int) fun x4=>
 lt (({a4 with fee:=a4.fee+dD a2 a4.period x2 a3.fee}):ai) fun g5=>
 chk (decide (0<=0)&&(decide ((a11.map (eY a2 a4.period)).length<=1000)&&(a11.map (eY a2 a4.period)).all aO))<|
 lt ((w64 (g5.fee+(al 5 (a11.map (eY a2 a4.period))))):Int) fun x6=>
 lt ((w64 ((w64 ((w64 ((w64 (((ax a1 a10).p)+((ax a1 a10).q)))+((ax a1 a10).r)))+0))+0)):Int) fun x9=>
 chk (decide (0<=0)&&decide ((-1152921504606846976<=(w64 (x6-x9))/\(w64 (x6-x9))<=1152921504606846976)/\((0:Int)<=g5.aR/\g5.aR<=g5.rin/\g5.rin<=(1152921504606846976:Int))/\(0<=g5.out/\g5.out<=1152921504606846976)/\(0<=a3.advance/\a3.advance<=1152921504606846976)))<|
 lt ((iC (w64 (x6-x9)) (g5.rin-g5.aR)):Int) fun x10=>
 lt ((G1 (w64 (x6-x9)) (g5.rin-g5.aR) (a3.advance-g5.out)):Int) fun x11=>
 lt (({g5 with aR:=g5.aR+iC (w64 (x6-x9)) (g5.rin-g5.aR)}):ai) fun g12=>
 lt ((w64 ((w64 ((w64 ((w64 (((ax a1 a10).p)+((ax a1 a10).q)))+((ax a1 a10).r)))+x10))+x11)):Int) fun x15=>
 chk (decide (((0<=((ax a1 a10).p)/\((ax a1 a10).p)<=1125899906842624)/\(0<=((ax a1 a10).l)/\((ax a1 a10).l)<=1125899906842624)/\(0<=((ax a1 a10).r)/\((ax a1 a10).r)<=1125899906842624))/\(0<=g12.aR/\g12.aR<=g12.rin/\g12.rin<=1152921504606846976))&&((decide (((ax a1 a10).aJ).length<=1000)&&((ax a1 a10).aJ).all dw)&&(decide ((a11.map (eY a2 a4.period)).length<=1000)&&(a11.map (eY a2 a4.period)).all aO)))<|
 lt ((min (((ax a1 a10).p)+((ax a1 a10).r)+((ax a1 a10).l)) (bE aW (a11.map (eY a2 a4.period)))):Int) fun x16=>
 lt ((yU a3.target (al 1 ((ax a1 a10).aJ)) (g12.rin-g12.aR)):Int) fun x17=>
 chk (decide ((⟨a2,a5,a6,a3,a7,a8,a9⟩:bc).s0.length<1000000/\(⟨a2,a5,a6,a3,a7,a8,a9⟩:bc).s1.length<1000000/\(⟨a2,a5,a6,a3,a7,a8,a9⟩:bc).s2.length<1000000))<|
 lt ((fF (⟨a2,a5,a6,a3,a7,a8,a9⟩:bc) g12.mode):List Dat) fun l18=>
 chk (decide (l18.length<=1000000)&&(ot ⟨x15,g12.fee,g12.out,x16,x17⟩&&aV ((a11.map (eY a2 a4.period)).map gh)))<|
 lt (((eD 0 l18 ⟨x15,g12.fee,g12.out,x16,x17⟩ ((a11.map (eY a2 a4.period)).map gh)).2.2):List Dat) fun l24=>
 chk (decide (0<=0)&&qU l24 g12 (a11.map (eY a2 a4.period)))<|
 lt (((du l24 g12 (a11.map (eY a2 a4.period))).1).out:Int) fun x26=>
 chk (decide (((0<=((ax a1 a10).p)/\((ax a1 a10).p)<=1125899906842624)/\(0<=((ax a1 a10).l)/\((ax a1 a10).l)<=1125899906842624)/\(0<=((ax a1 a10).r)/\((ax a1 a10).r)<=1125899906842624))/\(0<=({((du l24 g12 (a11.map (eY a2 a4.period))).1)with out:=(w64 (x26+x11))}:ai).aM/\({((du l24 g12 (a11.map (eY a2 a4.period))).1)with out:=(w64 (x26+x11))}:ai).aM<=1125899906842624)/\(0<=({((du l24 g12 (a11.map (eY a2 a4.period))).1)with out:=(w64 (x26+x11))}:ai).aT/\({((du l24 g12 (a11.map (eY a2 a4.period))).1)with out:=(w64 (x26+x11))}:ai).aT<=1125899906842624))&&((decide (((ax a1 a10).aJ).length<=1000)&&((ax a1 a10).aJ).all dw)&&(decide (((du l24 g12 (a11.map (eY a2 a4.period))).2).length<=1000)&&((du l24 g12 (a11.map (eY a2 a4.period))).2).all aO)))<|
 lt (({({((du l24 g12 (a11.map (eY a2 a4.period))).1)with out:=(w64 (x26+x11))}:ai)with aM:=({((du l24 g12 (a11.map (eY a2 a4.period))).1)with out:=(w64 (x26+x11))}:ai).aM+((ax a1 a10).l),aT:=({((du l24 g12 (a11.map (eY a2 a4.period))).1)with out:=(w64 (x26+x11))}:ai).aT+((ax a1 a10).r)}):ai) fun g27=>
 lt ((hG (dA (bE unD ((du l24 g12 (a11.map (eY a2 a4.period))).2)) (al 1 ((ax a1 a10).aJ)) (({((du l24 g12 (a11.map (eY a2 a4.period))).1)with out:=(w64 (x26+x11))}:ai).aM+((ax a1 a10).l)) (({((du l24 g12 (a11.map (eY a2 a4.period))).1)with out:=(w64 (x26+x11))}:ai).aT+((ax a1 a10).r))) ((du l24 g12 (a11.map (eY a2 a4.period))).2)):List Dat) fun l28=>
 chk (decide (0<=0)&&((decide (((ax a1 a10).aJ).length<=1000)&&((ax a1 a10).aJ).all dw)&&(decide (l28.length<=1000)&&l28.all aO)))<|
 lt ((a3.oc==0||cf (al 1 ((ax a1 a10).aJ)) (bE aW l28) a3.oc):Bool) fun x32=>
 lt ((a3.ic==0||cf (min ((ax a1 a10).q) 1099511627776) (min x4 1099511627776) a3.ic):Bool) fun x33=>
 lt ((a3.late==0||cu (cN 2 ((ax a1 a10).aJ)+cN 3 ((ax a1 a10).aJ)) (al 1 ((ax a1 a10).aJ)) a3.late):Bool) fun x34=>
 lt ((a3.mf==0||cu (w64 (g27.aM-g27.aT)) (((bW (⟨a2,a5,a6,a3,a7,a8,a9⟩:bc)).getD (0,0)).1) a3.mf):Bool) fun x35=>
 chk (decide (0<=g27.bp/\g27.bp<=1000000))<|
 chk (decide (0<=a0))<|
 chk (decide (0<=a0)&&(decide (0<=({g27 with mode:=(dS g27.mode g27.bp a3.fm x32 x33 x34 x35).1,bp:=(dS g27.mode g27.bp a3.fm x32 x33 x34 x35).2,period:=(w64 (g27.period+1))}:ai).aR/\({g27 with mode:=(dS g27.mode g27.bp a3.fm x32 x33 x34 x35).1,bp:=(dS g27.mode g27.bp a3.fm x32 x33 x34 x35).2,period:=(w64 (g27.period+1))}:ai).aR<=({g27 with mode:=(dS g27.mode g27.bp a3.fm x32 x33 x34 x35).1,bp:=(dS g27.mode g27.bp a3.fm x32 x33 x34 x35).2,period:=(w64 (g27.period+1))}:ai).rin/\({g27 with mode:=(dS g27.mode g27.bp a3.fm x32 x33 x34 x35).1,bp:=(dS g27.mode g27.bp a3.fm x32 x33 x34 x35).2,period:=(w64 (g27.period+1))}:ai).rin<=1152921504606846976)&&((decide (((ax a1 a10).aJ).length<=1000)&&((ax a1 a10).aJ).all dw)&&(decide (l28.length<=1000)&&l28.all aO))))<|
 some (Uns.enc ((⟨false,(w64 (a4.period+1)),a4.mode,(ax a1 a10).p,(ax a1 a10).q,(ax a1 a10).l,(ax a1 a10).r,x10,x11,(dD a2 a4.period x2 a3.fee),x4⟩:bM):bM)++Uns.enc ((⟨(⟨((eD 0 l18 ⟨x15,g12.fee,g12.out,x16,x17⟩ ((a11.map (eY a2 a4.period)).map gh)).1.aA),0,0,0,0⟩:bF).dz,al 1 ((ax a1 a10).aJ),({g27 with mode:=(dS g27.mode g27.bp a3.fm x32 x33 x34 x35).1,bp:=(dS g27.mode g27.bp a3.fm x32 x33 x34 x35).2,period:=(w64 (g27.period+1))}:ai).rin-({g27 with mode:=(dS g27.mode g27.bp a3.fm x32 x33 x34 x35).1,bp:=(dS g27.mode g27.bp a3.fm x32 x33 x34 x35).2,period:=(w64 (g27.period+1))}:ai).aR,({g27 with mode:=(dS g27.mode g27.bp a3.fm x32 x33 x34 x35).1,bp:=(dS g27.mode g27.bp a3.fm x32 x33 x34 x35).2,period:=(w64 (g27.period+1))}:ai).out,({g27 with mode:=(dS g27.mode g27.bp a3.fm x32 x33 x34 x35).1,bp:=(dS g27.mode g27.bp a3.fm x32 x33 x34 x35).2,period:=(w64 (g27.period+1))}:ai).fee⟩:bF):bF)++[.i (({g27 with mode:=(dS g27.mode g27.bp a3.fm x32 x33 x34 x35).1,bp:=(dS g27.mode g27.bp a3.fm x32 x33 x34 x35).2,period:=(w64 (g27.period+1))}:ai).mode),.i 0]++Uns.enc (a2:ao)++Uns.enc (a3:aq)++Uns.enc (({g27 with mode:=(dS g27.mode g27.bp a3.fm x32 x33 x34 x35).1,bp:=(dS g27.mode g27.bp a3.fm x32 x33 x34 x35).2,period:=(w64 (g27.period+1))}:ai):ai)++[.d a5,.d a6,.d a7,.d a8,.d a9,.d ((ax a1 a10).aJ),.d l28,.d l24,.d (l28.map yW)])
def f98:Int × List Dat × ao × aq × ai × List Dat × List Dat × List Dat × List Dat × List Dat × List Dat × List Dat->Bool × List Un:=fun(a0,a1,a2,a3,a4,a5,a6,a7,a8,a9,a10,a11)=>(decide (0<=a0)&&dX (⟨a2,a3,a4,a5,a6,a7,a8,a9,a10,a11⟩:aa),Uns.enc (((aG (⟨a2,a3,a4,a5,a6,a7,a8,a9,a10,a11⟩:aa) a1).ra):bM)++Uns.enc (((aG (⟨a2,a3,a4,a5,a6,a7,a8,a9,a10,a11⟩:aa) a1).rb):bF)++[.i ((aG (⟨a2,a3,a4,a5,a6,a7,a8,a9,a10,a11⟩:aa) a1).next),.i ((aG (⟨a2,a3,a4,a5,a6,a7,a8,a9,a10,a11⟩:aa) a1).e)]++Uns.enc (((aG (⟨a2,a3,a4,a5,a6,a7,a8,a9,a10,a11⟩:aa) a1).t.a):ao)++Uns.enc (((aG (⟨a2,a3,a4,a5,a6,a7,a8,a9,a10,a11⟩:aa) a1).t.b):aq)++Uns.enc (((aG (⟨a2,a3,a4,a5,a6,a7,a8,a9,a10,a11⟩:aa) a1).t.n):ai)++[.d ((aG (⟨a2,a3,a4,a5,a6,a7,a8,a9,a10,a11⟩:aa) a1).t.aK),.d ((aG (⟨a2,a3,a4,a5,a6,a7,a8,a9,a10,a11⟩:aa) a1).t.notes),.d ((aG (⟨a2,a3,a4,a5,a6,a7,a8,a9,a10,a11⟩:aa) a1).t.s0),.d ((aG (⟨a2,a3,a4,a5,a6,a7,a8,a9,a10,a11⟩:aa) a1).t.s1),.d ((aG (⟨a2,a3,a4,a5,a6,a7,a8,a9,a10,a11⟩:aa) a1).t.s2),.d ((aG (⟨a2,a3,a4,a5,a6,a7,a8,a9,a10,a11⟩:aa) a1).t.aJ),.d ((aG (⟨a2,a3,a4,a5,a6,a7,a8,a9,a10,a11⟩:aa) a1).t.tr),.d ((aG (⟨a2,a3,a4,a5,a6,a7,a8,a9,a10,a11⟩:aa) a1).aZ),.d ((aG (⟨a2,a3,a4,a5,a6,a7,a8,a9,a10,a11⟩:aa) a1).notes)])
set_option maxHeartbeats 4000000 in
theorem Wq (a0:Int) (a1:List Dat) (a2:ao) (a3:aq) (a4:ai) (a5:List Dat) (a6:List Dat) (a7:List Dat) (a8:List Dat) (a9:List Dat) (a10:List Dat) (a11:List Dat) (hc:(decide (0<=a0)&&dX (⟨a2,a3,a4,a5,a6,a7,a8,a9,a10,a11⟩:aa))=true):∃m,t98 m (a0,a1,a2,a3,a4,a5,a6,a7,a8,a9,a10,a11)=some (Uns.enc (((aG (⟨a2,a3,a4,a5,a6,a7,a8,a9,a10,a11⟩:aa) a1).ra):bM)++Uns.enc (((aG (⟨a2,a3,a4,a5,a6,a7,a8,a9,a10,a11⟩:aa) a1).rb):bF)++[.i ((aG (⟨a2,a3,a4,a5,a6,a7,a8,a9,a10,a11⟩:aa) a1).next),.i ((aG (⟨a2,a3,a4,a5,a6,a7,a8,a9,a10,a11⟩:aa) a1).e)]++Uns.enc (((aG (⟨a2,a3,a4,a5,a6,a7,a8,a9,a10,a11⟩:aa) a1).t.a):ao)++Uns.enc (((aG (⟨a2,a3,a4,a5,a6,a7,a8,a9,a10,a11⟩:aa) a1).t.b):aq)++Uns.enc (((aG (⟨a2,a3,a4,a5,a6,a7,a8,a9,a10,a11⟩:aa) a1).t.n):ai)++[.d ((aG (⟨a2,a3,a4,a5,a6,a7,a8,a9,a10,a11⟩:aa) a1).t.aK),.d ((aG (⟨a2,a3,a4,a5,a6,a7,a8,a9,a10,a11⟩:aa) a1).t.notes),.d ((aG (⟨a2,a3,a4,a5,a6,a7,a8,a9,a10,a11⟩:aa) a1).t.s0),.d ((aG (⟨a2,a3,a4,a5,a6,a7,a8,a9,a10,a11⟩:aa) a1).t.s1),.d ((aG (⟨a2,a3,a4,a5,a6,a7,a8,a9,a10,a11⟩:aa) a1).t.s2),.d ((aG (⟨a2,a3,a4,a5,a6,a7,a8,a9,a10,a11⟩:aa) a1).t.aJ),.d ((aG (⟨a2,a3,a4,a5,a6,a7,a8,a9,a10,a11⟩:aa) a1).t.tr),.d ((aG (⟨a2,a3,a4,a5,a6,a7,a8,a9,a10,a11⟩:aa) a1).aZ),.d ((aG (⟨a2,a3,a4,a5,a6,a7,a8,a9,a10,a11⟩:aa) a1).notes)]):=by
 have h0:=zaj (zas.1 hc).1;have h:=gg.1 (zas.1 hc).2;clear hc;have hl:=nf h;have hpl:=lC h;have hts:=dt h;have hpe:0<=a4.period/\a4.period<=600:=h.period;have hpa:0<=a4.bp/\a4.bp<=a4.period:=h.bp;refine⟨0, ?_⟩;unfold t98;cases ho:a4.fc with
 |true=>
  have hC:aG (⟨a2,a3,a4,a5,a6,a7,a8,a9,a10,a11⟩:aa) a1=noR 5 (⟨a2,a3,a4,a5,a6,a7,a8,a9,a10,a11⟩:aa):=by unfold aG;rw[show((⟨a2,a3,a4,a5,a6,a7,a8,a9,a10,a11⟩:aa)).n.fc=true from ho];rfl
  rw[hC];dsimp only;exact av (zaa h0) (gv ho rfl)
 |false=>
 dsimp only;refine av (zaa h0) (dV ho (av (zaa h0) ?_))
 by_cases hp:a4.period>=600
 . have hC:aG (⟨a2,a3,a4,a5,a6,a7,a8,a9,a10,a11⟩:aa) a1=noR 4 (⟨a2,a3,a4,a5,a6,a7,a8,a9,a10,a11⟩:aa):=by unfold aG;rw[show((⟨a2,a3,a4,a5,a6,a7,a8,a9,a10,a11⟩:aa)).n.fc=false from ho,wa,aQ hp]
   rw[hC,aQ hp];rfl
 rw[az hp];refine av (zas.2 ⟨zaa h0,zaa hl⟩) ?_
 refine av (zas.2 ⟨rfl,v7 (l:=a10) h.Fp (zaM hpl.2 (by decide))⟩) ?_
 refine jU fun x2 e2=> ?_
 obtain rfl:x2=al 1 a10:=e2;refine av (zaa hl.2.2.2.2.2.1) ?_
 by_cases he:(cP (⟨a2,a3,a4,a5,a6,a7,a8,a9,a10,a11⟩:aa) a1).e=0
 case neg=>
  have hC:aG (⟨a2,a3,a4,a5,a6,a7,a8,a9,a10,a11⟩:aa) a1=noR (cP (⟨a2,a3,a4,a5,a6,a7,a8,a9,a10,a11⟩:aa) a1).e (⟨a2,a3,a4,a5,a6,a7,a8,a9,a10,a11⟩:aa):=by unfold aG;rw[show((⟨a2,a3,a4,a5,a6,a7,a8,a9,a10,a11⟩:aa)).n.fc=false from ho,wa,az hp,cI he]
  rw[hC];exact cI he
 have hC:aG (⟨a2,a3,a4,a5,a6,a7,a8,a9,a10,a11⟩:aa) a1=qw (⟨a2,a3,a4,a5,a6,a7,a8,a9,a10,a11⟩:aa) a1:=by unfold aG;rw[show((⟨a2,a3,a4,a5,a6,a7,a8,a9,a10,a11⟩:aa)).n.fc=false from ho,wa,az hp,cK he]
 rw[hC];refine Eq.trans (cK he) ?_
 have hp':((⟨a2,a3,a4,a5,a6,a7,a8,a9,a10,a11⟩:aa)).n.period<600:=by simp only;omega
 have D:=dg h.qx;have b:0<=al 1 a10/\0<=al 2 a10/\al 1 a10+al 2 a10+a4.aT<=1099511627776:=iG h;have r0:0<=a4.aT:=h.BW;have f:0<=a4.fee/\a4.fee<=1200000000000*a4.period:=h.fee;have o:0<=a4.out/\a4.out<=a3.advance:=h.out;have r:0<=a4.aR/\a4.aR<=a4.rin/\a4.rin<=1200000000000*(a4.period+1):=h.res;have lo:a4.aM-a4.aT=al 2 a10:=h.lost;obtain⟨q1,q2,q3,q4,q5,q6,q7,q8,q9⟩:=pM h he;obtain⟨c1,c2,c3,c4,c5⟩:=mG h;obtain⟨m1,m2,m3,m4⟩:=nr h he;have m3:0<=iB (⟨a2,a3,a4,a5,a6,a7,a8,a9,a10,a11⟩:aa) a1/\iB (⟨a2,a3,a4,a5,a6,a7,a8,a9,a10,a11⟩:aa) a1<=a4.rin-a4.aR:=⟨m3.1,m3.2.1⟩
 have m4:0<=pZ (⟨a2,a3,a4,a5,a6,a7,a8,a9,a10,a11⟩:aa) a1/\pZ (⟨a2,a3,a4,a5,a6,a7,a8,a9,a10,a11⟩:aa) a1<=a3.advance-a4.out:=m4;obtain⟨x1,x2,x3,x4⟩:=qV h he;obtain⟨d1,d2,d3,d4,d5⟩:=kU h he;obtain⟨t1,t2,t3⟩:=tq h he;have u2:=yM h he;have k:=Fw h;have ad:0<=a3.advance/\a3.advance<=1099511627776:=D.advance;have nq:=il q1;have hpa9:a10.length<=64:=hpl.2;have hqlen:(cP (⟨a2,a3,a4,a5,a6,a7,a8,a9,a10,a11⟩:aa) a1).aJ.length<=1000:=by
  have hq:(cP (⟨a2,a3,a4,a5,a6,a7,a8,a9,a10,a11⟩:aa) a1).aJ.length=a10.length:=by have:=congrArg List.length q2;simpa using this
  omega
 have hpo:=v7 q1 hqlen;have s5:=(iW _ c2.2).2.1;have st:=nb h he;have q3:al 1 (cP (⟨a2,a3,a4,a5,a6,a7,a8,a9,a10,a11⟩:aa) a1).aJ=al 1 a10-(cP (⟨a2,a3,a4,a5,a6,a7,a8,a9,a10,a11⟩:aa) a1).p-(cP (⟨a2,a3,a4,a5,a6,a7,a8,a9,a10,a11⟩:aa) a1).l:=q3;have q4:al 2 (cP (⟨a2,a3,a4,a5,a6,a7,a8,a9,a10,a11⟩:aa) a1).aJ=al 2 a10+(cP (⟨a2,a3,a4,a5,a6,a7,a8,a9,a10,a11⟩:aa) a1).l-(cP (⟨a2,a3,a4,a5,a6,a7,a8,a9,a10,a11⟩:aa) a1).r:=q4;have stT:=st.2.2.2.2.1;have stR:0<=aY kR (dH (⟨a2,a3,a4,a5,a6,a7,a8,a9,a10,a11⟩:aa) a1).2.2/\aY kR (dH (⟨a2,a3,a4,a5,a6,a7,a8,a9,a10,a11⟩:aa) a1).2.2<=a4.out:=st.2.2.2.1;have s5l:al 5 (cTr (⟨a2,a3,a4,a5,a6,a7,a8,a9,a10,a11⟩:aa))<=1125899906842624000:=by have:=c2.1;omega
 refine av (zas.2 ⟨zaa ⟨⟨D.year.1,D.year.2,D.month.1,D.month.2⟩,hpe,⟨f.1,by omega⟩,b.1,by omega⟩,eL (gk h)⟩) ?_
 refine jU fun x3' e3=> ?_
 obtain rfl:x3'=FD (⟨a2,a3,a4,a5,a6,a7,a8,a9,a10,a11⟩:aa):=e3;refine jU fun g4 e4=> ?_
 obtain rfl:g4={a4 with fee:=a4.fee+qQ (⟨a2,a3,a4,a5,a6,a7,a8,a9,a10,a11⟩:aa)}:=e4;refine av (zas.2 ⟨rfl,eL c2⟩) ?_
 refine jU fun x5 e5=> ?_
 obtain rfl:x5=a4.fee+qQ (⟨a2,a3,a4,a5,a6,a7,a8,a9,a10,a11⟩:aa)+al 5 (cTr (⟨a2,a3,a4,a5,a6,a7,a8,a9,a10,a11⟩:aa)):=e5.trans (ab (n:=a4.fee+qQ (⟨a2,a3,a4,a5,a6,a7,a8,a9,a10,a11⟩:aa)+al 5 (cTr (⟨a2,a3,a4,a5,a6,a7,a8,a9,a10,a11⟩:aa))) (by omega) (by omega));refine jU fun x8 e8=> ?_
 obtain rfl:x8=cIn (⟨a2,a3,a4,a5,a6,a7,a8,a9,a10,a11⟩:aa) a1:=e8.trans (by
  have i:=m1;unfold cIn at i⊢;rw[show w64 ((ax a1 a10).p+(ax a1 a10).q)=(cP (⟨a2,a3,a4,a5,a6,a7,a8,a9,a10,a11⟩:aa) a1).p+(cP (⟨a2,a3,a4,a5,a6,a7,a8,a9,a10,a11⟩:aa) a1).q from ab (by show _<=(cP (⟨a2,a3,a4,a5,a6,a7,a8,a9,a10,a11⟩:aa) a1).p+(cP (⟨a2,a3,a4,a5,a6,a7,a8,a9,a10,a11⟩:aa) a1).q;omega) (by show(cP (⟨a2,a3,a4,a5,a6,a7,a8,a9,a10,a11⟩:aa) a1).p+(cP (⟨a2,a3,a4,a5,a6,a7,a8,a9,a10,a11⟩:aa) a1).q<=_;omega)];rw[show w64 ((cP (⟨a2,a3,a4,a5,a6,a7,a8,a9,a10,a11⟩:aa) a1).p+(cP (⟨a2,a3,a4,a5,a6,a7,a8,a9,a10,a11⟩:aa) a1).q+(ax a1 a10).r)=(cP (⟨a2,a3,a4,a5,a6,a7,a8,a9,a10,a11⟩:aa) a1).p+(cP (⟨a2,a3,a4,a5,a6,a7,a8,a9,a10,a11⟩:aa) a1).q+(cP (⟨a2,a3,a4,a5,a6,a7,a8,a9,a10,a11⟩:aa) a1).r from ab (by show _<=(cP (⟨a2,a3,a4,a5,a6,a7,a8,a9,a10,a11⟩:aa) a1).p+(cP (⟨a2,a3,a4,a5,a6,a7,a8,a9,a10,a11⟩:aa) a1).q+(cP (⟨a2,a3,a4,a5,a6,a7,a8,a9,a10,a11⟩:aa) a1).r;omega) (by show(cP (⟨a2,a3,a4,a5,a6,a7,a8,a9,a10,a11⟩:aa) a1).p+(cP (⟨a2,a3,a4,a5,a6,a7,a8,a9,a10,a11⟩:aa) a1).q+(cP (⟨a2,a3,a4,a5,a6,a7,a8,a9,a10,a11⟩:aa) a1).r<=_;omega)];have w:w64 ((cP (⟨a2,a3,a4,a5,a6,a7,a8,a9,a10,a11⟩:aa) a1).p+(cP (⟨a2,a3,a4,a5,a6,a7,a8,a9,a10,a11⟩:aa) a1).q+(cP (⟨a2,a3,a4,a5,a6,a7,a8,a9,a10,a11⟩:aa) a1).r)=(cP (⟨a2,a3,a4,a5,a6,a7,a8,a9,a10,a11⟩:aa) a1).p+(cP (⟨a2,a3,a4,a5,a6,a7,a8,a9,a10,a11⟩:aa) a1).q+(cP (⟨a2,a3,a4,a5,a6,a7,a8,a9,a10,a11⟩:aa) a1).r:=ab (by omega) (by omega);simp only[zbQ,w])
 have en:w64 (a4.fee+qQ (⟨a2,a3,a4,a5,a6,a7,a8,a9,a10,a11⟩:aa)+al 5 (cTr (⟨a2,a3,a4,a5,a6,a7,a8,a9,a10,a11⟩:aa))-cIn (⟨a2,a3,a4,a5,a6,a7,a8,a9,a10,a11⟩:aa) a1)=pc (⟨a2,a3,a4,a5,a6,a7,a8,a9,a10,a11⟩:aa) a1:=ab (by show _<=pc (⟨a2,a3,a4,a5,a6,a7,a8,a9,a10,a11⟩:aa) a1;omega) (by show pc (⟨a2,a3,a4,a5,a6,a7,a8,a9,a10,a11⟩:aa) a1<=_;omega);rw[en];refine av (zas.2 ⟨rfl,zaa ⟨by omega,⟨r.1,r.2.1,by show a4.rin<=_;omega⟩,⟨o.1,by show a4.out<=_;omega⟩,D.advance.1,by omega⟩⟩) ?_
 refine jU fun x9 e9=> ?_
 obtain rfl:x9=iB (⟨a2,a3,a4,a5,a6,a7,a8,a9,a10,a11⟩:aa) a1:=e9;refine jU fun x10 e10=> ?_
 obtain rfl:x10=pZ (⟨a2,a3,a4,a5,a6,a7,a8,a9,a10,a11⟩:aa) a1:=e10;refine jU fun g11 e11=> ?_
 obtain rfl:g11=cN1 (⟨a2,a3,a4,a5,a6,a7,a8,a9,a10,a11⟩:aa) a1:=e11;refine jU fun x14 e14=> ?_
 obtain rfl:x14=(cX (⟨a2,a3,a4,a5,a6,a7,a8,a9,a10,a11⟩:aa) a1).aA:=e14.trans (by
  have i:=m1;have z:(cX (⟨a2,a3,a4,a5,a6,a7,a8,a9,a10,a11⟩:aa) a1).aA=cIn (⟨a2,a3,a4,a5,a6,a7,a8,a9,a10,a11⟩:aa) a1+iB (⟨a2,a3,a4,a5,a6,a7,a8,a9,a10,a11⟩:aa) a1+pZ (⟨a2,a3,a4,a5,a6,a7,a8,a9,a10,a11⟩:aa) a1:=rfl;rw[z];unfold cIn at i⊢;rw[show w64 ((ax a1 a10).p+(ax a1 a10).q)=(cP (⟨a2,a3,a4,a5,a6,a7,a8,a9,a10,a11⟩:aa) a1).p+(cP (⟨a2,a3,a4,a5,a6,a7,a8,a9,a10,a11⟩:aa) a1).q from ab (by show _<=(cP (⟨a2,a3,a4,a5,a6,a7,a8,a9,a10,a11⟩:aa) a1).p+(cP (⟨a2,a3,a4,a5,a6,a7,a8,a9,a10,a11⟩:aa) a1).q;omega) (by show(cP (⟨a2,a3,a4,a5,a6,a7,a8,a9,a10,a11⟩:aa) a1).p+(cP (⟨a2,a3,a4,a5,a6,a7,a8,a9,a10,a11⟩:aa) a1).q<=_;omega)];rw[show w64 ((cP (⟨a2,a3,a4,a5,a6,a7,a8,a9,a10,a11⟩:aa) a1).p+(cP (⟨a2,a3,a4,a5,a6,a7,a8,a9,a10,a11⟩:aa) a1).q+(ax a1 a10).r)=(cP (⟨a2,a3,a4,a5,a6,a7,a8,a9,a10,a11⟩:aa) a1).p+(cP (⟨a2,a3,a4,a5,a6,a7,a8,a9,a10,a11⟩:aa) a1).q+(cP (⟨a2,a3,a4,a5,a6,a7,a8,a9,a10,a11⟩:aa) a1).r from ab (by show _<=(cP (⟨a2,a3,a4,a5,a6,a7,a8,a9,a10,a11⟩:aa) a1).p+(cP (⟨a2,a3,a4,a5,a6,a7,a8,a9,a10,a11⟩:aa) a1).q+(cP (⟨a2,a3,a4,a5,a6,a7,a8,a9,a10,a11⟩:aa) a1).r;omega) (by show(cP (⟨a2,a3,a4,a5,a6,a7,a8,a9,a10,a11⟩:aa) a1).p+(cP (⟨a2,a3,a4,a5,a6,a7,a8,a9,a10,a11⟩:aa) a1).q+(cP (⟨a2,a3,a4,a5,a6,a7,a8,a9,a10,a11⟩:aa) a1).r<=_;omega)];rw[ab (n:=(cP (⟨a2,a3,a4,a5,a6,a7,a8,a9,a10,a11⟩:aa) a1).p+(cP (⟨a2,a3,a4,a5,a6,a7,a8,a9,a10,a11⟩:aa) a1).q+(cP (⟨a2,a3,a4,a5,a6,a7,a8,a9,a10,a11⟩:aa) a1).r+iB (⟨a2,a3,a4,a5,a6,a7,a8,a9,a10,a11⟩:aa) a1) (by omega) (by omega),ab (n:=(cP (⟨a2,a3,a4,a5,a6,a7,a8,a9,a10,a11⟩:aa) a1).p+(cP (⟨a2,a3,a4,a5,a6,a7,a8,a9,a10,a11⟩:aa) a1).q+(cP (⟨a2,a3,a4,a5,a6,a7,a8,a9,a10,a11⟩:aa) a1).r+iB (⟨a2,a3,a4,a5,a6,a7,a8,a9,a10,a11⟩:aa) a1+pZ (⟨a2,a3,a4,a5,a6,a7,a8,a9,a10,a11⟩:aa) a1) (by omega) (by omega)])
 have c1r:(0<=(cN1 (⟨a2,a3,a4,a5,a6,a7,a8,a9,a10,a11⟩:aa) a1).aR/\(cN1 (⟨a2,a3,a4,a5,a6,a7,a8,a9,a10,a11⟩:aa) a1).aR<=(cN1 (⟨a2,a3,a4,a5,a6,a7,a8,a9,a10,a11⟩:aa) a1).rin/\(cN1 (⟨a2,a3,a4,a5,a6,a7,a8,a9,a10,a11⟩:aa) a1).rin<=1152921504606846976):=by
  show 0<=a4.aR+iB (⟨a2,a3,a4,a5,a6,a7,a8,a9,a10,a11⟩:aa) a1/\a4.aR+iB (⟨a2,a3,a4,a5,a6,a7,a8,a9,a10,a11⟩:aa) a1<=a4.rin/\a4.rin<=_;omega
 refine av (zas.2 ⟨zaa ⟨⟨⟨q5,by show(cP (⟨a2,a3,a4,a5,a6,a7,a8,a9,a10,a11⟩:aa) a1).p<=_;omega⟩,⟨q6,by show(cP (⟨a2,a3,a4,a5,a6,a7,a8,a9,a10,a11⟩:aa) a1).l<=_;omega⟩,q7,by show(cP (⟨a2,a3,a4,a5,a6,a7,a8,a9,a10,a11⟩:aa) a1).r<=_;omega⟩,c1r⟩,zas.2 ⟨hpo,eL c2⟩⟩) ?_
 refine jU fun x15 e15=> ?_
 obtain rfl:x15=(cX (⟨a2,a3,a4,a5,a6,a7,a8,a9,a10,a11⟩:aa) a1).ar:=e15;refine jU fun x16 e16=> ?_
 obtain rfl:x16=(cX (⟨a2,a3,a4,a5,a6,a7,a8,a9,a10,a11⟩:aa) a1).room:=e16;refine av (zaa ⟨hl.2.2.1,hl.2.2.2.1,hl.2.2.2.2.1⟩) ?_
 refine jU fun l17 e17=> ?_
 obtain rfl:l17=fF (gK (⟨a2,a3,a4,a5,a6,a7,a8,a9,a10,a11⟩:aa)) ((⟨a2,a3,a4,a5,a6,a7,a8,a9,a10,a11⟩:aa)).n.mode:=e17;refine av (zas.2 ⟨zaa (by omega),zas.2 ⟨x1,x2⟩⟩) ?_
 refine jU fun l23 e23=> ?_
 obtain rfl:l23=(dH (⟨a2,a3,a4,a5,a6,a7,a8,a9,a10,a11⟩:aa) a1).2.2:=e23;refine av d5 ?_
 refine jU fun x25 e25=> ?_
 obtain rfl:x25=(eA (⟨a2,a3,a4,a5,a6,a7,a8,a9,a10,a11⟩:aa) a1).1.out:=e25;have eo:w64 ((eA (⟨a2,a3,a4,a5,a6,a7,a8,a9,a10,a11⟩:aa) a1).1.out+pZ (⟨a2,a3,a4,a5,a6,a7,a8,a9,a10,a11⟩:aa) a1)=(cN2 (⟨a2,a3,a4,a5,a6,a7,a8,a9,a10,a11⟩:aa) a1).out:=by
  refine Eq.trans (ab ?_ ?_) rfl
  . rw[d1];show _<=a4.out-aY kR (dH (⟨a2,a3,a4,a5,a6,a7,a8,a9,a10,a11⟩:aa) a1).2.2+pZ (⟨a2,a3,a4,a5,a6,a7,a8,a9,a10,a11⟩:aa) a1;omega
  . rw[d1];show a4.out-aY kR (dH (⟨a2,a3,a4,a5,a6,a7,a8,a9,a10,a11⟩:aa) a1).2.2+pZ (⟨a2,a3,a4,a5,a6,a7,a8,a9,a10,a11⟩:aa) a1<=_;omega
 rw[eo];refine av (zas.2 ⟨zaa ⟨⟨⟨q5,by show(cP (⟨a2,a3,a4,a5,a6,a7,a8,a9,a10,a11⟩:aa) a1).p<=_;omega⟩,⟨q6,by show(cP (⟨a2,a3,a4,a5,a6,a7,a8,a9,a10,a11⟩:aa) a1).l<=_;omega⟩,q7,by show(cP (⟨a2,a3,a4,a5,a6,a7,a8,a9,a10,a11⟩:aa) a1).r<=_;omega⟩,⟨by show 0<=(eA (⟨a2,a3,a4,a5,a6,a7,a8,a9,a10,a11⟩:aa) a1).1.aM;rw[d1];show 0<=a4.aM;omega,by show(eA (⟨a2,a3,a4,a5,a6,a7,a8,a9,a10,a11⟩:aa) a1).1.aM<=_;rw[d1];show a4.aM<=_;omega⟩,by show 0<=(eA (⟨a2,a3,a4,a5,a6,a7,a8,a9,a10,a11⟩:aa) a1).1.aT;rw[d1];exact r0,by show(eA (⟨a2,a3,a4,a5,a6,a7,a8,a9,a10,a11⟩:aa) a1).1.aT<=_;rw[d1];show a4.aT<=_;omega⟩,zas.2 ⟨hpo,eL d3⟩⟩) ?_
 refine jU fun g26 e26=> ?_
 obtain rfl:g26=cN2 (⟨a2,a3,a4,a5,a6,a7,a8,a9,a10,a11⟩:aa) a1:=e26;refine jU fun l27 e27=> ?_
 obtain rfl:l27=mu (⟨a2,a3,a4,a5,a6,a7,a8,a9,a10,a11⟩:aa) a1:=e27;refine av (zas.2 ⟨rfl,zas.2 ⟨hpo,eL t1⟩⟩) ?_
 refine jU fun x31 e31=> ?_
 refine jU fun x32 e32=> ?_
 refine jU fun x33 e33=> ?_
 refine jU fun x34 e34=> ?_
 have g4:=(tW h he).2.2.2;have el:w64 ((cN2 (⟨a2,a3,a4,a5,a6,a7,a8,a9,a10,a11⟩:aa) a1).aM-(cN2 (⟨a2,a3,a4,a5,a6,a7,a8,a9,a10,a11⟩:aa) a1).aT)=(cN2 (⟨a2,a3,a4,a5,a6,a7,a8,a9,a10,a11⟩:aa) a1).aM-(cN2 (⟨a2,a3,a4,a5,a6,a7,a8,a9,a10,a11⟩:aa) a1).aT:=ab (by omega) (by omega);rw[el,show((bW (⟨a2,a5,a6,a3,a7,a8,a9⟩:bc)).getD (0,0)).1=al 1 a5 from D.aar]at e34;have n2m:(cN2 (⟨a2,a3,a4,a5,a6,a7,a8,a9,a10,a11⟩:aa) a1).mode=a4.mode/\(cN2 (⟨a2,a3,a4,a5,a6,a7,a8,a9,a10,a11⟩:aa) a1).bp=a4.bp/\(cN2 (⟨a2,a3,a4,a5,a6,a7,a8,a9,a10,a11⟩:aa) a1).period=a4.period:=by rw[u2];exact⟨rfl,rfl,rfl⟩
 have ep:w64 ((cN2 (⟨a2,a3,a4,a5,a6,a7,a8,a9,a10,a11⟩:aa) a1).period+1)=a4.period+1:=by rw[n2m.2.2];exact ab (by omega) (by omega)
 have ex:dS (cN2 (⟨a2,a3,a4,a5,a6,a7,a8,a9,a10,a11⟩:aa) a1).mode (cN2 (⟨a2,a3,a4,a5,a6,a7,a8,a9,a10,a11⟩:aa) a1).bp a3.fm x31 x32 x33 x34=xh (⟨a2,a3,a4,a5,a6,a7,a8,a9,a10,a11⟩:aa) a1:=by rw[n2m.1,n2m.2.1,e31,e32,e33,e34];rfl
 rw[ep,ex];refine av (zaa ?_) ?_
 . rw[n2m.2.1];omega
 have c2r:(0<=(cN2 (⟨a2,a3,a4,a5,a6,a7,a8,a9,a10,a11⟩:aa) a1).aR/\(cN2 (⟨a2,a3,a4,a5,a6,a7,a8,a9,a10,a11⟩:aa) a1).aR<=(cN2 (⟨a2,a3,a4,a5,a6,a7,a8,a9,a10,a11⟩:aa) a1).rin/\(cN2 (⟨a2,a3,a4,a5,a6,a7,a8,a9,a10,a11⟩:aa) a1).rin<=1152921504606846976):=by
  rw[u2];show 0<=a4.aR+iB (⟨a2,a3,a4,a5,a6,a7,a8,a9,a10,a11⟩:aa) a1/\a4.aR+iB (⟨a2,a3,a4,a5,a6,a7,a8,a9,a10,a11⟩:aa) a1<=a4.rin+aY kT (dH (⟨a2,a3,a4,a5,a6,a7,a8,a9,a10,a11⟩:aa) a1).2.2/\a4.rin+aY kT (dH (⟨a2,a3,a4,a5,a6,a7,a8,a9,a10,a11⟩:aa) a1).2.2<=_;omega
 refine av (zaa h0) ?_
 refine av (zas.2 ⟨zaa h0,zas.2 ⟨zaa c2r,zas.2 ⟨hpo,eL t1⟩⟩⟩) ?_
 rw[show w64 (a4.period+1)=a4.period+1 from ab (by omega) (by omega)];rfl
theorem Je:ER 98 (mkE N98.en N98.ex f98):=an ae Wr.right (fun m=>[]) (t:=t98) (by kernel_rfl) (fun m=>aB) (fun m a=>by kernel_rfl) fun(a0,a1,a2,a3,a4,a5,a6,a7,a8,a9,a10,a11) hc=>Wq a0 a1 a2 a3 a4 a5 a6 a7 a8 a9 a10 a11 hc
def T98:Tb Tryz.prog LQ TE XX:=Wr.add 98 _ Je
theorem y9 (d:Dat):(jm d).i 0=d.i 0/\(jm d).i 1=d.i 1/\(jm d).i 2=0/\(jm d).i 3=0/\(jm d).b 4=false:=⟨rfl,rfl,rfl,rfl,rfl⟩
theorem Ae:∀l:List Dat,al 1 (l.map jm)=al 1 l/\al 2 (l.map jm)=0
 |[]=>⟨rfl,rfl⟩
 |d::l=>by
  obtain⟨h1,h2⟩:=Ae l;simp only[zaS,al,h1,h2,(y9 d).2.1,(y9 d).2.2.1];exact⟨trivial,rfl⟩
theorem Ab:∀l:List Dat,al 5 (l.map vu)=0/\al 6 (l.map vu)=0
 |[]=>⟨rfl,rfl⟩
 |d::l=>by
  obtain⟨h1,h2⟩:=Ab l;simp only[zaS,al,h1,h2,vu,qm,qM]
  decide
theorem NF {d:bc} (h:(bW d).isSome=true):ff (dy d):=by
 have D:=dg h;obtain⟨s1,s2⟩:=Ae d.aK;obtain⟨n5,n6⟩:=Ab d.notes;refine⟨h, ?_,fun x hx=> ?_, ?_,fun x hx=> ?_, ?_, ?_,zb5 _, ?_, ?_, ?_, ?_, ?_, ?_, ?_⟩
 . simp only[dy,List.map_map];rfl
 . obtain⟨y,hy,rfl⟩:=zbo.1 (show x∈d.notes.map vu from hx);have:=D.note y hy;refine⟨zaa ?_, ?_⟩
   . show(0<=y.i 1/\y.i 1<=1099511627776/\(0:Int)<=0/\(0:Int)=0/\(0:Int)<=0/\(0:Int)+0<=y.i 1/\(0:Int)<=0/\(0:Int)<=1125899906842624);omega
   . show(0:Int)<=1200000000000*0;omega
 . simp only[dy,List.map_map];rfl
 . obtain⟨y,hy,rfl⟩:=zbo.1 (show x∈d.aK.map jm from hx);have:=D.Fp y hy;obtain⟨_,e1,e2,e3,e4⟩:=y9 y;unfold kY;rw[e1,e2,e3,e4]
   and_intros<;>first|omega|(intro h;cases h;done)|(intro _;rfl)
 . show al 1 (d.aK.map jm)+al 2 (d.aK.map jm)+0<=al 1 d.aK;omega
 . show(0:Int)-0=al 2 (d.aK.map jm);omega
 . show(0:Int)<=0/\(0:Int)<=600;omega
 . show(0:Int)<=0/\(0:Int)<=2;omega
 . show(0:Int)<=0/\(0:Int)<=0;omega
 . show(0:Int)<=0/\(0:Int)<=1200000000000*0;omega
 . exact⟨zb5 _,D.advance.1⟩
 . show(0:Int)<=0/\0<=d.b.bC/\d.b.bC<=1200000000000*(0+1)
   have:=D.bC;omega
 . show al 6 (d.notes.map vu)<=al 2 (d.aK.map jm);omega
def fo:bc:=⟨⟨2024,1,0⟩,[.r [.n 1,.n 100]],[.r [.n 0,.n 100,.n 0]],⟨0,0,0,0,0,0,0,0,0,0⟩,[.r [.n 3,.n 0],.r [.n 7,.n 0]],[.r [.n 3,.n 0],.r [.n 7,.n 0]],[.r [.n 3,.n 0],.r [.n 7,.n 0]]⟩
theorem FZ:(bW fo).isSome=true:=by kernel_rfl
def lE:List Dat:=[.r [.n 1,.n 40,.n 0,.n 0,.n 0,.n 0,.n (bI false)]]
theorem AD:(aG (dy fo) lE).ra=⟨false,1,0,40,0,0,0,0,0,0,0⟩/\(aG (dy fo) lE).rb=⟨0,60,0,0,0⟩/\(aG (dy fo) lE).next=0/\(aG (dy fo) lE).e=0/\(aG (dy fo) lE).aZ=[.r [.n 1,.n 7,.n 0,.n 40]]/\(aG (dy fo) lE).notes=[.r [.n 60,.n 0,.n 0]]:=by
 refine⟨?_, ?_, ?_, ?_, ?_, ?_⟩<;>kernel_rfl
def N16:aC:=⟨T98.tab,16,⟨[],[],0⟩,⟨[.agg [.int .i64,.int .i64,.int .i64,.buf 0 2,.buf 1 3,.int .i64,.int .i64,.int .i64,.int .i64,.int .i64,.int .i64,.int .i64,.int .i64,.int .i64,.int .i64,.buf 2 2,.buf 3 2,.buf 4 2]],[.af (sI 2),.af (sI 3),.af (sI 2),.af (sI 2),.af (sI 2)],0⟩,[]⟩
def t16 (m:Nat):Unit->Option (List Un):=fun _=>
 some (Uns.enc ((⟨2024,1,0⟩:ao):ao)++Uns.enc ((⟨0,0,0,0,0,0,0,0,0,0⟩:aq):aq)++[.d ([.r [.n 1,.n 100]]:List Dat),.d ([.r [.n 0,.n 100,.n 0]]:List Dat),.d ([.r [.n 3,.n 0],.r [.n 7,.n 0]]:List Dat),.d ([.r [.n 3,.n 0],.r [.n 7,.n 0]]:List Dat),.d ([.r [.n 3,.n 0],.r [.n 7,.n 0]]:List Dat)])
def f16:Unit->Bool × List Un:=fun _=>(true,Uns.enc ((fo.a):ao)++Uns.enc ((fo.b):aq)++[.d (fo.aK),.d (fo.notes),.d (fo.s0),.d (fo.s1),.d (fo.s2)])
theorem TH:∃m,t16 m ()=some (Uns.enc ((fo.a):ao)++Uns.enc ((fo.b):aq)++[.d (fo.aK),.d (fo.notes),.d (fo.s0),.d (fo.s1),.d (fo.s2)]):=by
 exact⟨0,rfl⟩
theorem P3:ER 16 (mkE N16.en N16.ex f16):=an ae T98.right (fun m=>[]) (t:=t16) (by kernel_rfl) (fun m=>aB) (fun m a=>by kernel_rfl) fun _ hc=>TH
def T16:Tb Tryz.prog LQ TE XX:=T98.add 16 _ P3
theorem Fy (id:Int) (x:Dat) (hx:x.i 0=id):∀(pre:List Dat) (rest:List Dat) (i:Int),(∀d∈pre,d.i 0≠id)->fY id i (pre++x::rest)=i+pre.length
 |[],rest,i,_=>by simp only[zat,fY,if_pos hx,zar];omega
 |d::pre,rest,i,h=>by
  have:=Fy id x hx pre rest (i+1) fun y hy=>h y (by simp[hy])
  simp only[zaI,fY,if_neg (h d (by simp)),this,zac,zaG];omega
theorem w9:∀(rest pre:List Dat) (last p:Int),(∀x∈rest,kY x)->(∀x∈pre,x.i 0<=last)->(rest.map fun x=>x.i 0).Pairwise (·<·)->(∀x∈rest,last<x.i 0)->(0<=p/\p+al 1 rest<=2199023255552)->(∀x∈pre,x.i 1=0)->
 nF last (bJ rest)=true/\∃y,gZ (pre++rest) p 0 0 0 (bJ rest)=some y/\y.e=0/\y.p=p+al 1 rest/\y.q=0/\y.l=0/\y.r=0
 |[],pre,last,p,_,_,_,_,_,_=>⟨rfl,⟨p,0,0,0,0,pre++[]⟩,rfl,rfl,by simp[al],rfl,rfl,rfl⟩
 |x::rest,pre,last,p,hl,hp,hw,hlt,hs,h0=>by
  have hx:=hl x (by simp);obtain⟨x1,x2,x3,x4,x5,x6⟩:=hx;have hx0:=hlt x (by simp);rw[zaS,List.pairwise_cons]at hw;have n1:=fw 1 rest fun d hd=>(hl d (by simp[hd])).1
  simp only[al]at hs;have K:∀(z:Dat) (q:Int),z.i 0=x.i 0->z.i 1=0->(0<=q/\q+al 1 rest<=2199023255552)->nF (x.i 0) (bJ rest)=true/\∃y,gZ (pre++z::rest) q 0 0 0 (bJ rest)=some y/\y.e=0/\y.p=q+al 1 rest/\y.q=0/\y.l=0/\y.r=0:=fun z q hz hz1 hq=>by
   have:=w9 rest (pre++[z]) (x.i 0) q (fun d hd=>hl d (by simp[hd])) (fun d hd=>by
    rcases zbe.1 hd with hd|hd
    . have:=hp d hd;omega
    . rw[zbz.1 hd];omega) hw.2 (fun d hd=>hw.1 _ (zbo.2 ⟨d,hd,rfl⟩)) hq (fun d hd=>by
    rcases zbe.1 hd with hd|hd
    . exact h0 d hd
    . rw[zbz.1 hd];exact hz1)
   simpa using this
  unfold bJ
  by_cases hb:0<x.i 1
  . rw[if_pos hb,List.singleton_append];have h4:x.b 4=false:=by
     cases hc:x.b 4
     . rfl
     . have:=x5 hc;omega
    have hi:fY ((Dat.r [.n (x.i 0),.n 0,.n (x.i 1),.n 0,.n 0,.n 0,.n (bI false)]).i 0) 0 (pre++x::rest)=(pre.length:Int):=by
     show fY (x.i 0) 0 (pre++x::rest)=_;rw[Fy (x.i 0) x rfl pre rest 0 fun z hz=>by have:=hp z hz;omega];omega
    have m1:Gi x (.r [.n (x.i 0),.n 0,.n (x.i 1),.n 0,.n 0,.n 0,.n (bI false)])=true:=by
     show BH (x.i 1) (x.i 2) (x.b 4) 0 (x.i 1) 0 0 0 (bI false !=0)=true;rw[Pg,h4];unfold BH;rw[zal,zal,show w64 (x.i 1-0)=x.i 1 from(ab (by omega) (by omega)).trans (by omega),show w64 (x.i 1-x.i 1)=0 from(ab (by omega) (by omega)).trans (by omega)];rfl
    have hd1:(mB x (.r [.n (x.i 0),.n 0,.n (x.i 1),.n 0,.n 0,.n 0,.n (bI false)])).i 1=0:=by
     show rW (x.i 1) 0 (x.i 1) (bI false !=0)=0;rw[Pg];unfold rW;rw[zal,show w64 (0+x.i 1)=x.i 1 from(ab (by omega) (by omega)).trans (by omega)];exact(ab (by omega) (by omega)).trans (by omega)
    have hloss:gX (x.i 1) 0 (x.i 1) (bI false !=0)=0:=by rw[Pg];rfl
    obtain⟨k1,y,k2,k3,k4,k5⟩:=K (mB x (Dat.r [.n (x.i 0),.n 0,.n (x.i 1),.n 0,.n 0,.n 0,.n (bI false)])) (p+x.i 1) rfl hd1 (by omega);refine⟨?_,y, ?_,k3,by simp only[al];omega,k5⟩
    . unfold nF;show(if x.i 0<=last then false else if nL 0 (x.i 1) 0 0 0=true then nF (x.i 0) (bJ rest)else false)=true;rw[if_neg (by omega),if_pos,k1];simp only[nL,zae,zaf];omega
    . unfold gZ;rw[hi,if_neg (by omega),zay,aD,if_pos m1,Ca];show gZ _ (w64 (p+w64 (0+x.i 1))) (w64 (0+0)) (w64 (0+gX (x.i 1) 0 (x.i 1) (bI false !=0))) (w64 (0+0)) _=_;rw[hloss,show w64 (0+x.i 1)=x.i 1 from(ab (by omega) (by omega)).trans (by omega),show w64 (p+x.i 1)=p+x.i 1 from ab (by omega) (by omega),show w64 (0+0)=(0:Int) by decide];exact k2
  . rw[if_neg hb,zat];obtain⟨k1,y,k2,k3,k4,k5⟩:=K x p rfl (by omega) (by omega);refine⟨?_,y,k2,k3,by simp only[al];omega,k5⟩;cases hr:bJ rest with
    |nil=>rfl
    |cons w l=>
     rw[hr]at k1;unfold nF at k1⊢
     split at k1
     . cases k1
     . rw[if_neg (by omega)];exact k1
theorem z8:∀l:List Dat,(bJ l).length<=l.length
 |[]=>zam _
 |d::l=>by
  have:=z8 l;unfold bJ
  split<;>simp<;>omega
theorem Iz {T:aa} (h:ff T):(cP T (bJ T.aJ)).e=0/\(cP T (bJ T.aJ)).p=al 1 T.aJ/\(cP T (bJ T.aJ)).q=0/\(cP T (bJ T.aJ)).l=0/\(cP T (bJ T.aJ)).r=0:=by
 have D:=dg h.qx;have hl:=lC h;have b:=iG h;have r0:=h.BW;have hpos:∀x∈T.aJ,0<x.i 0:=fun x hx=>by
  have hm:x.i 0∈T.aJ.map (fun d=>d.i 0):=zbo.2 ⟨x,hx,rfl⟩;rw[h.ids]at hm;obtain⟨y,hy,e⟩:=zbo.1 hm;have:=D.pos y hy;omega
 obtain⟨a1,y,a2,a3,a4,a5,a6,a7⟩:=w9 T.aJ [] 0 0 h.Fp (fun x hx=>by cases hx) (by have e:=h.ids;rw[e];exact D.ids) hpos (by omega) (fun x hx=>by cases hx);have ht:mA (bJ T.aJ)=true:=by
  simp only[mA,zae,zaf];exact⟨by have:=z8 T.aJ;omega,a1⟩
 have hP:cP T (bJ T.aJ)=y:=by
  unfold cP ax;rw[if_pos ht,show gZ T.aJ 0 0 0 0 (bJ T.aJ)=some y from a2];rfl
 rw[hP];exact⟨a3,by omega,a5,a6,a7⟩
theorem Be:∀l:List Dat,(∀d∈l,0<=d.i 3)->al 3 (kV l)=al 3 l/\∀d∈kV l,1<=d.i 3
 |[],_=>⟨rfl,fun d hd=>by cases hd⟩
 |d::l,h=>by
  obtain⟨i1,i2⟩:=Be l fun x hx=>h x (by simp[hx])
  have hd:=h d (by simp);unfold kV
  by_cases h0:0<d.i 3
  . rw[if_pos h0];refine⟨by simp only[List.singleton_append,al,i1];rfl,fun x hx=> ?_⟩;rcases zbe.1 hx with hx|hx
    . rw[zbz.1 hx];show 1<=d.i 3;omega
    . exact i2 x hx
  . rw[if_neg h0];refine⟨by simp only[zat,al,i1];omega,fun x hx=>i2 x (by simpa using hx)⟩
theorem pf (f:Dat->Bool) (hf:∀d,f (L0 d)=f d):∀l:List Dat,(∀d∈l,0<=d.i 3)->aY f (kV l)=aY f l
 |[],_=>rfl
 |d::l,h=>by
  have i1:=pf f hf l fun x hx=>h x (by simp[hx])
  have hd:=h d (by simp);unfold kV
  by_cases h0:0<d.i 3
  . rw[if_pos h0,List.singleton_append,fg,fg,i1];unfold amt;rw[hf];rfl
  . rw[if_neg h0,zat,fg,i1];have:amt f d=0:=by unfold amt;cases f d<;>simp only[zaw,zal];omega
    omega
theorem AK {Q:Dat->Prop} (hQ:∀d,Q d->Q (L0 d)):∀l:List Dat,(∀d∈l,Q d)->∀d∈kV l,Q d
 |[],_,d,hd=>by cases hd
 |x::l,h,d,hd=>by
  unfold kV at hd;rcases zbe.1 hd with hd|hd
  . split at hd
    . rw[zbz.1 hd];exact hQ _ (h x (by simp))
    . cases hd
  . exact AK hQ l (fun y hy=>h y (by simp[hy])) d hd
theorem AJ:∀l:List Dat,(kV l).length<=l.length
 |[]=>zam _
 |d::l=>by
  have:=AJ l;unfold kV
  split<;>simp<;>omega
theorem Eb:∀(c:List Dat) (i:Int),(∀d∈c,aO d=true)->∀d∈gI i c,0<=d.i 3/\(d.i 1=3\/d.i 1=7)/\i<=d.i 2/\d.i 2<i+c.length
 |[],i,_,d,hd=>by cases hd
 |x::c,i,h,d,hd=>by
  have hx:=h x (by simp);have gx:=cC hx;have bx:=Ej hx;unfold gI at hd;simp only[zac,zaG,zad];rcases zaT.1 hd with rfl|hd
  . exact⟨gx.2.2.2.2.2.2.1,.inl rfl,by show i<=i;omega,by show i<_;omega⟩
  . rcases zaT.1 hd with rfl|hd
    . exact⟨bx.1,.inr rfl,by show i<=i;omega,by show i<_;omega⟩
    . obtain⟨a,b,c',d'⟩:=Eb c (i+1) (fun y hy=>h y (by simp[hy])) d hd;exact⟨a,b,by omega,by omega⟩
theorem F4 (i:Nat):∀(c:List Dat) (j:Nat),aY (toI i) (gI j c)=(if j<=i/\i<j+c.length then(ag c (i-j)).i 5 else 0)/\aY (toB i) (gI j c)=(if j<=i/\i<j+c.length then aW (ag c (i-j))else 0)
 |[],j=>by simp[gI,aY];omega
 |x::c,j=>by
  obtain⟨h1,h2⟩:=F4 i c (j+1);have cj:((j:Int)+1)=((j+1:Nat):Int):=by omega
  have e1:amt (toI i) (.r [.n 0,.n 3,.n (j:Int),.n (x.i 5)])=if j=i then x.i 5 else 0:=by
   show(bif true&&((j:Int)==(i:Int))then x.i 5 else 0)=_
   by_cases h:j=i
   . rw[if_pos h,mw (by omega)];rfl
   . rw[if_neg h,jh (by omega)];rfl
  have e2:amt (toI i) (.r [.n 0,.n 7,.n (j:Int),.n (aW x)])=0:=rfl;have e3:amt (toB i) (.r [.n 0,.n 3,.n (j:Int),.n (x.i 5)])=0:=rfl;have e4:amt (toB i) (.r [.n 0,.n 7,.n (j:Int),.n (aW x)])=if j=i then aW x else 0:=by
   show(bif true&&((j:Int)==(i:Int))then aW x else 0)=_
   by_cases h:j=i
   . rw[if_pos h,mw (by omega)];rfl
   . rw[if_neg h,jh (by omega)];rfl
  simp only[gI,fg,e1,e2,e3,e4,cj,h1,h2,zac]
  by_cases h:j=i
  . subst h;have c1:¬(j+1<=j/\j<j+1+c.length):=by omega
    have c2:j<=j/\j<j+(c.length+1):=by omega
    rw[if_pos rfl,if_pos rfl,if_neg c1,if_neg c1,if_pos c2,if_pos c2,Nat.sub_self];exact⟨by show x.i 5+(0+0)=x.i 5;omega,by show 0+(aW x+0)=aW x;omega⟩
  . rw[if_neg h,if_neg h]
    by_cases hi:j+1<=i/\i<j+1+c.length
    . have c2:j<=i/\i<j+(c.length+1):=by omega
      rw[if_pos hi,if_pos hi,if_pos c2,if_pos c2,show i-j=(i-(j+1))+1 by omega];exact⟨by show 0+(0+_)=(ag c _).i 5;omega,by show 0+(0+_)=aW (ag c _);omega⟩
    . have c2:¬(j<=i/\i<j+(c.length+1)):=by omega
      rw[if_neg hi,if_neg hi,if_neg c2,if_neg c2];exact⟨rfl,rfl⟩
theorem LD:∀(c:List Dat) (j:Int),aY kF (gI j c)=0/\aY kR (gI j c)=0/\aY kT (gI j c)=0/\al 3 (gI j c)=al 5 c+bE aW c
 |[],j=>⟨rfl,rfl,rfl,rfl⟩
 |x::c,j=>by
  obtain⟨h1,h2,h3,h4⟩:=LD c (j+1);refine⟨?_, ?_, ?_, ?_⟩
  . show 0+(0+aY kF (gI (j+1) c))=0;omega
  . show 0+(0+aY kR (gI (j+1) c))=0;omega
  . show 0+(0+aY kT (gI (j+1) c))=0;omega
  . show x.i 5+(aW x+al 3 (gI (j+1) c))=x.i 5+al 5 c+(aW x+bE aW c);omega
theorem I8 {fee out:Int} {c:List Dat} (h0:0<=fee) (h1:0<=out) (hg:eB c):al 3 (gG fee out c)=fee+out+al 5 c+bE aW c/\aY kF (gG fee out c)=fee/\aY kR (gG fee out c)=out/\aY kT (gG fee out c)=0/\
 (∀i,i<c.length->aY (toI i) (gG fee out c)=(ag c i).i 5/\aY (toB i) (gG fee out c)=aW (ag c i))/\(∀d∈gG fee out c,1<=d.i 3/\((d.i 1=1\/d.i 1=2\/d.i 1=6)\/(0<=d.i 2/\d.i 2<(c.length:Int))))/\(gG fee out c).length<=2+2*c.length:=by
 have hn:=Eb c 0 hg.2;have hm:∀d∈(Dat.r [.n 0,.n 1,.n (-1),.n fee]::Dat.r [.n 0,.n 2,.n (-1),.n out]::gI 0 c),0<=d.i 3:=fun d hd=>by
  rcases zaT.1 hd with rfl|hd
  . exact h0
  . rcases zaT.1 hd with rfl|hd
    . exact h1
    . exact(hn d hd).1
 obtain⟨k1,k2,k3,k4⟩:=LD c 0;obtain⟨s1,s2⟩:=Be _ hm;unfold gG;refine⟨?_, ?_, ?_, ?_,fun i hi=>⟨?_, ?_⟩,fun d hd=>⟨s2 d hd, ?_⟩, ?_⟩
 . rw[s1];show fee+(out+al 3 (gI 0 c))=_;omega
 . rw[pf kF (fun _=>rfl) _ hm];show fee+(0+aY kF (gI 0 c))=_;omega
 . rw[pf kR (fun _=>rfl) _ hm];show 0+(out+aY kR (gI 0 c))=_;omega
 . rw[pf kT (fun _=>rfl) _ hm];show 0+(0+aY kT (gI 0 c))=_;omega
 . rw[pf (toI i) (fun _=>rfl) _ hm];have:=(F4 i c 0).1;rw[if_pos (by omega),Nat.sub_zero]at this;show 0+(0+aY (toI i) (gI 0 c))=_;have e:aY (toI i) (gI 0 c)=aY (toI i) (gI ((0:Nat):Int) c):=rfl;omega
 . rw[pf (toB i) (fun _=>rfl) _ hm];have:=(F4 i c 0).2;rw[if_pos (by omega),Nat.sub_zero]at this;show 0+(0+aY (toB i) (gI 0 c))=_;have e:aY (toB i) (gI 0 c)=aY (toB i) (gI ((0:Nat):Int) c):=rfl;omega
 . refine AK (Q:=fun d=>(d.i 1=1\/d.i 1=2\/d.i 1=6)\/(0<=d.i 2/\d.i 2<(c.length:Int))) (fun d h=>h) _ (fun d hd=> ?_) d hd;rcases zaT.1 hd with rfl|hd
   . exact .inl (.inl rfl)
   . rcases zaT.1 hd with rfl|hd
     . exact .inl (.inr (.inl rfl))
     . have:=hn d hd;exact .inr ⟨by omega,by omega⟩
 . have:=AJ (Dat.r [.n 0,.n 1,.n (-1),.n fee]::Dat.r [.n 0,.n 2,.n (-1),.n out]::gI 0 c);simp only[zac,EJ]at this;omega
section
variable (T : aa)
def vP:List Dat:=gG T.n.fee T.n.out T.tr
def vD:ai × List Dat:=du (vP T) {T.n with aR:=T.n.rin} T.tr
def yz:Bool:=T.b.clean !=0&&cu (al 1 T.aJ) (((bW (gK T)).getD (0,0)).1) T.b.clean
def xB:jq:=
 ⟨⟨true,T.n.period,T.n.mode,al 1 T.aJ,0,0,0,T.n.rin-T.n.aR,0,0,0⟩,⟨al 1 T.aJ+(T.n.rin-T.n.aR)-al 3 (vP T),al 1 (cP T (bJ T.aJ)).aJ,(vD T).1.rin-(vD T).1.aR,(vD T).1.out,(vD T).1.fee⟩,(vD T).1.mode,0,
  {T with n:={(vD T).1 with fc:=true},aJ:=(cP T (bJ T.aJ)).aJ,tr:=(vD T).2},vP T,(vD T).2.map yW⟩
def bV:jq:=bif T.n.fc then noR 5 T else bif !yz T then noR 6 T else bif decide (al 1 T.aJ+(T.n.rin-T.n.aR)<al 3 (vP T))then noR 6 T else xB T
end
section
variable {T : aa} (h : ff T)
include h
theorem yK:al 3 (vP T)=T.n.fee+T.n.out+al 5 T.tr+bE aW T.tr/\(0<=al 3 (vP T)/\al 3 (vP T)<=100000000000000000)/\(vP T).length<=18/\(∀d∈vP T,1<=d.i 3/\((d.i 1=1\/d.i 1=2\/d.i 1=6)\/(0<=d.i 2/\d.i 2<(T.tr.length:Int)))):=by
 have f:=h.fee;have o:=h.out;have p:=h.period;have ad:T.b.advance<=1099511627776:=(dg h.qx).advance.2;obtain⟨k1,k2,k3,k4,k5,k6,k7⟩:=I8 f.1 o.1 (gk h);have s:=iW _ (gk h).2;have tl:=dt h;have k1:al 3 (vP T)=T.n.fee+T.n.out+al 5 T.tr+bE aW T.tr:=k1;have k7:(vP T).length<=2+2*T.tr.length:=k7;exact⟨k1,by omega,by omega,k6⟩
theorem mE:(vD T).1={T.n with fee:=0,out:=0,aR:=T.n.rin}/\(vD T).2.length=T.tr.length/\(∀i,i<T.tr.length->rT (ag T.tr i) (ag (vD T).2 i) (aW (ag T.tr i)) ((ag T.tr i).i 5))/\qU (vP T) {T.n with aR:=T.n.rin} T.tr=true:=by
 have f:=h.fee;have o:=h.out;have r:=h.res;have p:=h.period;have ad:T.b.advance<=1099511627776:=(dg h.qx).advance.2;have g:=gk h;obtain⟨k1,k2,k3,k4,k5,k6,k7⟩:=I8 f.1 o.1 g;obtain⟨c1,c2,c3,c4⟩:=yK h;obtain⟨d1,d2,d3⟩:=sF (vP T) {T.n with aR:=T.n.rin} T.tr (fun d hd=>by have:=(c4 d hd).1;omega) (fun d hd=>(c4 d hd).2) fun i hi=>by
  have:=k5 i hi;exact⟨Int.le_of_eq this.2,Int.le_of_eq this.1⟩
 refine⟨d1.trans ?_,d2,fun i hi=> ?_, ?_⟩
 . have k2:aY kF (vP T)=T.n.fee:=k2;have k3:aY kR (vP T)=T.n.out:=k3;have k4:aY kT (vP T)=0:=k4;rw[k2,k3,k4];simp only[Int.sub_self,zbQ]
 . have:=d3 i hi;have k:=k5 i hi;have ka:aY (toI i) (vP T)=(ag T.tr i).i 5:=k.1;have kb:aY (toB i) (vP T)=aW (ag T.tr i):=k.2;rw[ka,kb]at this;exact this
 . simp only[qU,zae,zaf,zao];refine⟨by omega,fun d hd=> ?_,⟨by omega,by omega,by omega,by omega⟩,g⟩;have:=c4 d hd;simp only[G7,zae,zba,zaf];exact⟨by omega,this.2⟩
theorem DZ:∀i,i<T.tr.length->(ag (vD T).2 i).i 0=(ag T.tr i).i 0/\(ag (vD T).2 i).i 1=(ag T.tr i).i 1/\(ag (vD T).2 i).i 2=(ag T.tr i).i 2/\aW (ag (vD T).2 i)=0/\(ag (vD T).2 i).i 5=0/\(ag (vD T).2 i).i 6=(ag T.tr i).i 6/\aO (ag (vD T).2 i)=true:=fun i hi=>by
 obtain⟨e0,e1,e2,e3,e4,e5,e6⟩:=(mE h).2.2.1 i hi;have g:=cC (cA hi (gk h).2);have b:=Ej (cA hi (gk h).2);have hb:aW (ag (vD T).2 i)=0:=by unfold aW at e3⊢;omega
 refine⟨e0,e1,e2,hb,by omega,e6,zaa ?_⟩;unfold aW at hb b;omega
theorem AR:eB (vD T).2:=by
 have l:=(mE h).2.1;refine⟨by have:=dt h;omega,fun d hd=> ?_⟩;obtain⟨i,hi,rfl⟩:=lu hd;exact(DZ h i (by omega)).2.2.2.2.2.2
theorem A7:ff (xB T).t:=by
 obtain⟨s1,s2,s3,s4,s5⟩:=Iz h;obtain⟨p1,p2,p3,p4,p5,p6,p7,p8,p9⟩:=pM h s1;obtain⟨d1,d2,d3,d4⟩:=mE h;have r:=DZ h;have g:=AR h;have bl:=h.bal;have lo:=h.lost;have pe:=h.period;have re:=h.res;have r0:=h.BW;have ad:0<=T.b.advance:=(dg h.qx).advance.1;have n1:=iG h;have hl:(vD T).2.map (fun d=>d.i 6)=T.tr.map (fun d=>d.i 6):=by
  refine List.ext_getElem (by simp[d2]) fun i h1 h2=> ?_
  simp only[zaW]at h1 h2;have:=(r i h2).2.2.2.2.2.1;rw[gm (show i<(vD T).2.length by omega),gm h2]at this;simpa using this
 have q:∀l:List Dat,al 6 l=(l.map (fun d=>d.i 6)).foldr (·+·) 0:=fun l=>by
  induction l with
  |nil=>rfl
  |cons x l ih=>simp only[al,zaS,List.foldr_cons,ih]
 have hz:al 6 (vD T).2<=al 2 (cP T (bJ T.aJ)).aJ:=by
  have e:al 6 (vD T).2=al 6 T.tr:=by rw[q,q,hl]
  have dn:=h.down;omega
 refine⟨h.qx, ?_,fun d hd=>⟨g.2 d hd, ?_⟩,p2.trans h.ids,p1, ?_, ?_, ?_, ?_, ?_, ?_, ?_, ?_, ?_, ?_⟩
 . refine Eq.trans ?_ h.MB;refine List.ext_getElem (by simp[xB,d2]) fun i h1 h2=> ?_
   simp only[zaW]at h1 h2;have hi:i<T.tr.length:=h2;have:=r i hi;rw[gm (show i<(vD T).2.length by omega),gm hi]at this;simp only[List.getElem_map];exact Prod.ext this.1 (Prod.ext this.2.1 this.2.2.1)
 . obtain⟨i,hi,rfl⟩:=lu (show d∈(vD T).2 from hd);have:=(r i (by omega)).2.2.2.2.1;rw[this];show 0<=1200000000000*(vD T).1.period;rw[d1];show 0<=1200000000000*T.n.period;omega
 all_goals
  first
  |(show al 1 (cP T (bJ T.aJ)).aJ+al 2 (cP T (bJ T.aJ)).aJ+(vD T).1.aT<=al 1 T.aK;rw[d1];show _+_+T.n.aT<=_;omega)
  |(show(vD T).1.aM-(vD T).1.aT=al 2 (cP T (bJ T.aJ)).aJ;rw[d1];show T.n.aM-T.n.aT=_;omega)
  |(show 0<=(vD T).1.aT;rw[d1];exact r0)
  |(show 0<=(vD T).1.period/\(vD T).1.period<=600;rw[d1];exact pe)
  |(show 0<=(vD T).1.mode/\(vD T).1.mode<=2;rw[d1];exact h.mode)
  |(show 0<=(vD T).1.bp/\(vD T).1.bp<=(vD T).1.period;rw[d1];exact h.bp)
  |(show 0<=(vD T).1.fee/\(vD T).1.fee<=1200000000000*(vD T).1.period;rw[d1];show(0:Int)<=0/\0<=1200000000000*T.n.period;omega)
  |(show 0<=(vD T).1.out/\(vD T).1.out<=T.b.advance;rw[d1];show(0:Int)<=0/\0<=T.b.advance;omega)
  |(show 0<=(vD T).1.aR/\(vD T).1.aR<=(vD T).1.rin/\(vD T).1.rin<=1200000000000*((vD T).1.period+1);rw[d1];show 0<=T.n.rin/\T.n.rin<=T.n.rin/\T.n.rin<=1200000000000*(T.n.period+1);omega)
  |exact hz
end
def Sm:aC:=⟨T16.tab,120,⟨[.np 0 0 0],bf 0,0⟩,⟨[.agg [.bool,.int .i64,.int .i64,.int .i64,.int .i64,.int .i64,.int .i64,.int .i64,.int .i64,.int .i64,.int .i64,.buf 10 4,.int .i64,.int .i64,.int .i64,.int .i64,.int .i64,.buf 11 3,.int .i64],.int .i64],[.cells [.int .i64,.int .i64,.int .i64,.buf 1 2,.buf 2 3,.int .i64,.int .i64,.int .i64,.int .i64,.int .i64,.int .i64,.int .i64,.int .i64,.int .i64,.int .i64,.buf 3 2,.buf 4 2,.buf 5 2,.ptr 6 0 0,.buf 8 7,.int .i64,.int .i64,.int .i64,.int .i64,.int .i64,.int .i64,.int .i64,.int .i64,.int .i64,.bool],.af (sI 2),.af (sI 3),.af (sI 2),.af (sI 2),.af (sI 2),.cells [.buf 9 5],.gone,.af (sI 7),.af (sB 4),.af (sI 4),.af (sI 3)],0⟩,[]⟩
def t120 (m:Nat):Int × ao × aq × ai × List Dat × List Dat × List Dat × List Dat × List Dat × List Dat × List Dat->Option (List Un):=fun(a0,a1,a2,a3,a4,a5,a6,a7,a8,a9,a10)=>
 chk (decide (0<=a0))<|
 bif a3.fc then
 some (Uns.enc ((⟨false,0,0,0,0,0,0,0,0,0,0⟩:bM):bM)++Uns.enc ((⟨0,0,0,0,0⟩:bF):bF)++[.i 0,.i 5]++Uns.enc (a1:ao)++Uns.enc (a2:aq)++Uns.enc (a3:ai)++[.d a4,.d a5,.d a6,.d a7,.d a8,.d a10,.d a9,.d ([]),.d ([])])
 else
 chk (decide (0<=a0)&&(decide (a10.length<=1000)&&a10.all aO))<|
 chk (decide (0<=a0))<|
 chk (decide (0<=a0)&&((decide (a9.length<=1000)&&a9.all dw)&&(decide (a10.length<=1000)&&a10.all aO)))<|
 bif !(a2.clean !=0&&cu (al 1 a9) (((bW (⟨a1,a4,a5,a2,a6,a7,a8⟩:bc)).getD (0,0)).1) a2.clean)then
 some (Uns.enc ((⟨false,0,0,0,0,0,0,0,0,0,0⟩:bM):bM)++Uns.enc ((⟨0,0,0,0,0⟩:bF):bF)++[.i 0,.i 6]++Uns.enc (a1:ao)++Uns.enc (a2:aq)++Uns.enc (a3:ai)++[.d a4,.d a5,.d a6,.d a7,.d a8,.d a10,.d a9,.d ([]),.d ([])])
 else
 chk (decide (0<=a0))<|
 chk (decide (0<([.r [.r a9]]:List Dat).length)&&(decide (((ag ([.r [.r a9]]:List Dat) 0).d 0).length<=1000)&&((ag ([.r [.r a9]]:List Dat) 0).d 0).all dw))<|
 chk (decide (0<=a0))<|
 chk (decide ((gG a3.fee a3.out a10).length<=1000000)&&((gG a3.fee a3.out a10).all vg&&decide (al 3 (gG a3.fee a3.out a10)<=1152921504606846976)))<|
 bif (decide ((w64 ((al 1 ((ag ([.r [.r a9]]:List Dat) 0).d 0))+(w64 (a3.rin-a3.aR))))<(al 3 (gG a3.fee a3.out a10))))then
 some (Uns.enc ((⟨false,0,0,0,0,0,0,0,0,0,0⟩:bM):bM)++Uns.enc ((⟨0,0,0,0,0⟩:bF):bF)++[.i 0,.i 6]++Uns.enc (a1:ao)++Uns.enc (a2:aq)++Uns.enc (a3:ai)++[.d a4,.d a5,.d a6,.d a7,.d a8,.d a10,.d a9,.d ([]),.d ([])])
 else
 chk (decide (0<=a0))<|
 chk (decide (0<=a0))<|
 chk (decide (0<=a0)&&decide (a9.length<1000000))<|
 chk (decide (a3.period=a3.period))<|
 chk (decide (a3.mode=a3.mode))<|
 chk (decide (0<=a0))<|
 lt ((w64 (a3.rin-a3.aR)):Int) fun x8=>
 lt ((w64 (a3.rin-a3.aR)):Int) fun x9=>
 lt ((if x9<x8 then x9 else x8):Int) fun x10=>
 lt ((if x10<0 then 0 else x10):Int) fun x11=>
 chk (decide (a3.period=a3.period))<|
 chk (decide (a3.mode=a3.mode))<|
 chk (decide ((gG a3.fee a3.out a10).length<=1000000)&&((gG a3.fee a3.out a10).all vg&&decide (al 3 (gG a3.fee a3.out a10)<=1152921504606846976)))<|
 chk (decide (0<=a0)&&qU (gG a3.fee a3.out a10) ({a3 with aR:=(w64 (a3.aR+x11))}:ai) a10)<|
 lt (((du (gG a3.fee a3.out a10) ({a3 with aR:=(w64 (a3.aR+x11))}:ai) a10).1):ai) fun g18=>
 lt (((du (gG a3.fee a3.out a10) ({a3 with aR:=(w64 (a3.aR+x11))}:ai) a10).2):List Dat) fun l19=>
 chk (decide (0<=a0))<|
 chk (decide (0<=a0)&&(decide (0<=({g18 with fc:=true}:ai).aR/\({g18 with fc:=true}:ai).aR<=({g18 with fc:=true}:ai).rin/\({g18 with fc:=true}:ai).rin<=1152921504606846976)&&((decide (((ax (bJ a9) a9).aJ).length<=1000)&&((ax (bJ a9) a9).aJ).all dw)&&(decide (l19.length<=1000)&&l19.all aO))))<|
 some (Uns.enc ((⟨true,a3.period,a3.mode,(ax (bJ a9) a9).p,(ax (bJ a9) a9).q,(ax (bJ a9) a9).l,(ax (bJ a9) a9).r,x11,0,0,0⟩:bM):bM)++Uns.enc ((⟨(⟨(w64 ((w64 ((w64 ((w64 ((w64 (((ax (bJ a9) a9).p)+((ax (bJ a9) a9).q)))+((ax (bJ a9) a9).r)))+x11))+0))-(al 3 (gG a3.fee a3.out a10)))),0,0,0,0⟩:bF).dz,al 1 ((ax (bJ a9) a9).aJ),({g18 with fc:=true}:ai).rin-({g18 with fc:=true}:ai).aR,({g18 with fc:=true}:ai).out,({g18 with fc:=true}:ai).fee⟩:bF):bF)++[.i (({g18 with fc:=true}:ai).mode),.i 0]++Uns.enc (a1:ao)++Uns.enc (a2:aq)++Uns.enc (({g18 with fc:=true}:ai):ai)++[.d a4,.d a5,.d a6,.d a7,.d a8,.d l19,.d ((ax (bJ a9) a9).aJ),.d (gG a3.fee a3.out a10),.d (l19.map yW)])
def f120:Int × ao × aq × ai × List Dat × List Dat × List Dat × List Dat × List Dat × List Dat × List Dat->Bool × List Un:=fun(a0,a1,a2,a3,a4,a5,a6,a7,a8,a9,a10)=>(decide (0<=a0)&&dX (⟨a1,a2,a3,a4,a5,a6,a7,a8,a9,a10⟩:aa),Uns.enc (((bV (⟨a1,a2,a3,a4,a5,a6,a7,a8,a9,a10⟩:aa)).ra):bM)++Uns.enc (((bV (⟨a1,a2,a3,a4,a5,a6,a7,a8,a9,a10⟩:aa)).rb):bF)++[.i ((bV (⟨a1,a2,a3,a4,a5,a6,a7,a8,a9,a10⟩:aa)).next),.i ((bV (⟨a1,a2,a3,a4,a5,a6,a7,a8,a9,a10⟩:aa)).e)]++Uns.enc (((bV (⟨a1,a2,a3,a4,a5,a6,a7,a8,a9,a10⟩:aa)).t.a):ao)++Uns.enc (((bV (⟨a1,a2,a3,a4,a5,a6,a7,a8,a9,a10⟩:aa)).t.b):aq)++Uns.enc (((bV (⟨a1,a2,a3,a4,a5,a6,a7,a8,a9,a10⟩:aa)).t.n):ai)++[.d ((bV (⟨a1,a2,a3,a4,a5,a6,a7,a8,a9,a10⟩:aa)).t.aK),.d ((bV (⟨a1,a2,a3,a4,a5,a6,a7,a8,a9,a10⟩:aa)).t.notes),.d ((bV (⟨a1,a2,a3,a4,a5,a6,a7,a8,a9,a10⟩:aa)).t.s0),.d ((bV (⟨a1,a2,a3,a4,a5,a6,a7,a8,a9,a10⟩:aa)).t.s1),.d ((bV (⟨a1,a2,a3,a4,a5,a6,a7,a8,a9,a10⟩:aa)).t.s2),.d ((bV (⟨a1,a2,a3,a4,a5,a6,a7,a8,a9,a10⟩:aa)).t.tr),.d ((bV (⟨a1,a2,a3,a4,a5,a6,a7,a8,a9,a10⟩:aa)).t.aJ),.d ((bV (⟨a1,a2,a3,a4,a5,a6,a7,a8,a9,a10⟩:aa)).aZ),.d ((bV (⟨a1,a2,a3,a4,a5,a6,a7,a8,a9,a10⟩:aa)).notes)])
set_option maxHeartbeats 4000000 in
theorem Pe (a0:Int) (a1:ao) (a2:aq) (a3:ai) (a4:List Dat) (a5:List Dat) (a6:List Dat) (a7:List Dat) (a8:List Dat) (a9:List Dat) (a10:List Dat) (hc:(decide (0<=a0)&&dX (⟨a1,a2,a3,a4,a5,a6,a7,a8,a9,a10⟩:aa))=true):∃m,t120 m (a0,a1,a2,a3,a4,a5,a6,a7,a8,a9,a10)=some (Uns.enc (((bV (⟨a1,a2,a3,a4,a5,a6,a7,a8,a9,a10⟩:aa)).ra):bM)++Uns.enc (((bV (⟨a1,a2,a3,a4,a5,a6,a7,a8,a9,a10⟩:aa)).rb):bF)++[.i ((bV (⟨a1,a2,a3,a4,a5,a6,a7,a8,a9,a10⟩:aa)).next),.i ((bV (⟨a1,a2,a3,a4,a5,a6,a7,a8,a9,a10⟩:aa)).e)]++Uns.enc (((bV (⟨a1,a2,a3,a4,a5,a6,a7,a8,a9,a10⟩:aa)).t.a):ao)++Uns.enc (((bV (⟨a1,a2,a3,a4,a5,a6,a7,a8,a9,a10⟩:aa)).t.b):aq)++Uns.enc (((bV (⟨a1,a2,a3,a4,a5,a6,a7,a8,a9,a10⟩:aa)).t.n):ai)++[.d ((bV (⟨a1,a2,a3,a4,a5,a6,a7,a8,a9,a10⟩:aa)).t.aK),.d ((bV (⟨a1,a2,a3,a4,a5,a6,a7,a8,a9,a10⟩:aa)).t.notes),.d ((bV (⟨a1,a2,a3,a4,a5,a6,a7,a8,a9,a10⟩:aa)).t.s0),.d ((bV (⟨a1,a2,a3,a4,a5,a6,a7,a8,a9,a10⟩:aa)).t.s1),.d ((bV (⟨a1,a2,a3,a4,a5,a6,a7,a8,a9,a10⟩:aa)).t.s2),.d ((bV (⟨a1,a2,a3,a4,a5,a6,a7,a8,a9,a10⟩:aa)).t.tr),.d ((bV (⟨a1,a2,a3,a4,a5,a6,a7,a8,a9,a10⟩:aa)).t.aJ),.d ((bV (⟨a1,a2,a3,a4,a5,a6,a7,a8,a9,a10⟩:aa)).aZ),.d ((bV (⟨a1,a2,a3,a4,a5,a6,a7,a8,a9,a10⟩:aa)).notes)]):=by
 have h0:=zaj (zas.1 hc).1;have h:=gg.1 (zas.1 hc).2;clear hc;have hl:=nf h;have hpl:=lC h;have hts:=dt h;have gn:=gk h;have pe:0<=a3.period/\a3.period<=600:=h.period;have r:0<=a3.aR/\a3.aR<=a3.rin/\a3.rin<=1200000000000*(a3.period+1):=h.res;have b:0<=al 1 a9/\0<=al 2 a9/\al 1 a9+al 2 a9+a3.aT<=1099511627776:=iG h;have r0:0<=a3.aT:=h.BW;have hg:=v7 (l:=a9) h.Fp (zaM hpl.2 (by decide));obtain⟨c1,c2,c3,c4⟩:=yK h;obtain⟨d1,d2,d3,d4⟩:=mE h;have g:=AR h;have cn:=A7 h;obtain⟨s1,s2,s3,s4,s5⟩:=Iz h;have hz:w64 (a3.rin-a3.aR)=a3.rin-a3.aR:=ab (by omega) (by omega);have hw:w64 (al 1 ((ag ([.r [.r a9]]:List Dat) 0).d 0)+w64 (a3.rin-a3.aR))=al 1 a9+(a3.rin-a3.aR):=by
  rw[hz];exact ab (n:=al 1 a9+(a3.rin-a3.aR)) (by omega) (by omega)
 have pg:(decide ((gG a3.fee a3.out a10).length<=1000000)&&((gG a3.fee a3.out a10).all vg&&decide (al 3 (gG a3.fee a3.out a10)<=1152921504606846976)))=true:=by
  simp only[zae,zaf,zao];refine⟨zaM c3 (by decide),fun d hd=>zaa (by have:=(c4 d hd).1;omega), ?_⟩;have e:al 3 (gG a3.fee a3.out a10)<=100000000000000000:=c2.2;omega
 refine⟨0, ?_⟩;unfold t120;refine av (zaa h0) ?_
 by_cases ho:a3.fc=true
 . have hC:bV (⟨a1,a2,a3,a4,a5,a6,a7,a8,a9,a10⟩:aa)=noR 5 (⟨a1,a2,a3,a4,a5,a6,a7,a8,a9,a10⟩:aa):=by unfold bV;rw[show((⟨a1,a2,a3,a4,a5,a6,a7,a8,a9,a10⟩:aa)).n.fc=true from ho];rfl
   rw[hC];exact gv ho rfl
 replace ho:a3.fc=false:=by simpa using ho
 refine dV ho ?_
 refine av (zas.2 ⟨zaa h0,eL gn⟩) ?_
 refine av (zaa h0) ?_
 refine av (zas.2 ⟨zaa h0,zas.2 ⟨hg,eL gn⟩⟩) ?_
 have hcl:(a2.clean !=0&&cu (al 1 a9) (((bW (⟨a1,a4,a5,a2,a6,a7,a8⟩:bc)).getD (0,0)).1) a2.clean)=yz (⟨a1,a2,a3,a4,a5,a6,a7,a8,a9,a10⟩:aa):=rfl;rw[hcl];cases hv:yz (⟨a1,a2,a3,a4,a5,a6,a7,a8,a9,a10⟩:aa)with
 |false=>
  have hC:bV (⟨a1,a2,a3,a4,a5,a6,a7,a8,a9,a10⟩:aa)=noR 6 (⟨a1,a2,a3,a4,a5,a6,a7,a8,a9,a10⟩:aa):=by unfold bV;rw[show((⟨a1,a2,a3,a4,a5,a6,a7,a8,a9,a10⟩:aa)).n.fc=false from ho,hv];rfl
  rw[hC];rfl
 |true=>
 refine av (zaa h0) (av (zas.2 ⟨rfl,hg⟩) (av (zaa h0) (av pg ?_)));rw[hw]
 by_cases hs:al 1 a9+(a3.rin-a3.aR)<al 3 (gG a3.fee a3.out a10)
 . have hC:bV (⟨a1,a2,a3,a4,a5,a6,a7,a8,a9,a10⟩:aa)=noR 6 (⟨a1,a2,a3,a4,a5,a6,a7,a8,a9,a10⟩:aa):=by unfold bV;rw[show((⟨a1,a2,a3,a4,a5,a6,a7,a8,a9,a10⟩:aa)).n.fc=false from ho,hv];exact aQ hs
   rw[hC,aQ hs];rfl
 have hC:bV (⟨a1,a2,a3,a4,a5,a6,a7,a8,a9,a10⟩:aa)=xB (⟨a1,a2,a3,a4,a5,a6,a7,a8,a9,a10⟩:aa):=by unfold bV;rw[show((⟨a1,a2,a3,a4,a5,a6,a7,a8,a9,a10⟩:aa)).n.fc=false from ho,hv];exact az hs
 rw[hC,az hs];refine av (zaa h0) (av (zaa h0) (av (zas.2 ⟨zaa h0,zaa hl.2.2.2.2.2.1⟩) (av (zaa rfl) (av (zaa rfl) (av (zaa h0) ?_)))));rw[hz];refine jU fun x8 e8=>jU fun x9 e9=>jU fun x10 e10=>jU fun x11 e11=> ?_
 obtain rfl:x11=a3.rin-a3.aR:=by
  have e10:x10=a3.rin-a3.aR:=by rw[e10,e8,e9];exact if_neg (by omega)
  rw[e11,e10];exact if_neg (by omega)
 clear e8 e9 e10 e11;refine av (zaa rfl) (av (zaa rfl) (av pg ?_));rw[show w64 (a3.aR+(a3.rin-a3.aR))=a3.rin from(ab (by omega) (by omega)).trans (by omega)];refine av (zas.2 ⟨zaa h0,d4⟩) ?_
 refine jU fun g18 e18=> ?_
 obtain rfl:g18=(vD (⟨a1,a2,a3,a4,a5,a6,a7,a8,a9,a10⟩:aa)).1:=e18;refine jU fun l19 e19=> ?_
 obtain rfl:l19=(vD (⟨a1,a2,a3,a4,a5,a6,a7,a8,a9,a10⟩:aa)).2:=e19;refine av (zaa h0) ?_
 refine av (zas.2 ⟨zaa h0,zas.2 ⟨zaa ?_,zas.2 ⟨v7 (l:=(cP (⟨a1,a2,a3,a4,a5,a6,a7,a8,a9,a10⟩:aa) (bJ ((⟨a1,a2,a3,a4,a5,a6,a7,a8,a9,a10⟩:aa)).aJ)).aJ) cn.Fp ?_,eL g⟩⟩⟩) ?_
 . rw[d1];show 0<=a3.rin/\a3.rin<=a3.rin/\a3.rin<=_;omega
 . have:=(lC cn).2;exact zaM this (by decide)
 rw[show(ax (bJ a9) a9).p=al 1 a9 from s2,show(ax (bJ a9) a9).q=0 from s3,show(ax (bJ a9) a9).l=0 from s4,show(ax (bJ a9) a9).r=0 from s5];have e1:w64 (w64 (w64 (w64 (w64 (al 1 a9+0)+0)+(a3.rin-a3.aR))+0)-al 3 (gG a3.fee a3.out a10))=al 1 a9+(a3.rin-a3.aR)-al 3 (vP (⟨a1,a2,a3,a4,a5,a6,a7,a8,a9,a10⟩:aa)):=by
  have c2':0<=al 3 (gG a3.fee a3.out a10)/\al 3 (gG a3.fee a3.out a10)<=100000000000000000:=c2;have w1:w64 (al 1 a9)=al 1 a9:=ab (by omega) (by omega);simp only[zbQ,w1];rw[ab (n:=al 1 a9+(a3.rin-a3.aR)) (by omega) (by omega),ab (n:=al 1 a9+(a3.rin-a3.aR)) (by omega) (by omega)];exact ab (n:=al 1 a9+(a3.rin-a3.aR)-al 3 (gG a3.fee a3.out a10)) (by omega) (by omega)
 rw[e1];rfl
theorem D4:ER 120 (mkE Sm.en Sm.ex f120):=an ae T16.right (fun m=>[]) (t:=t120) (by kernel_rfl) (fun m=>aB) (fun m a=>by kernel_rfl) fun(a0,a1,a2,a3,a4,a5,a6,a7,a8,a9,a10) hc=>Pe a0 a1 a2 a3 a4 a5 a6 a7 a8 a9 a10 hc
def PX:Tb Tryz.prog LQ TE XX:=T16.add 120 _ D4
def ow (n:Int):List Int:=[wu8 (Int.fdiv n 72057594037927936),wu8 (Int.fdiv n 281474976710656),wu8 (Int.fdiv n 1099511627776),wu8 (Int.fdiv n 4294967296),wu8 (Int.fdiv n 16777216),wu8 (Int.fdiv n 65536),wu8 (Int.fdiv n 256),wu8 (Int.fdiv n 1)]
def cF (l:List Int):List Int:=l.flatMap ow
theorem Me:(2:Int)^(min (56:Int).toNat 64)=72057594037927936/\(2:Int)^(min (48:Int).toNat 64)=281474976710656/\(2:Int)^(min (40:Int).toNat 64)=1099511627776/\(2:Int)^(min (32:Int).toNat 64)=4294967296/\(2:Int)^(min (24:Int).toNat 64)=16777216/\(2:Int)^(min (16:Int).toNat 64)=65536/\(2:Int)^(min (8:Int).toNat 64)=256/\(2:Int)^(min (0:Int).toNat 64)=1:=by decide
def N52:aC:=⟨PX.tab,52,⟨[.ints .i64],[],0⟩,⟨[.buf 0 1],[.ints .u8],0⟩,[[0,1,1,0,0,1,1,0,0,1,0,1,1]]⟩
abbrev HS:Type:=List Int × Int × Int × List Int
def CM (m:Nat) (k:HS->Option (List Un)):HS->Option (List Un):=fun(a0,a1,a2,a3)=>
 bif decide (a2<a1)then
 chk (inb a2 a0.length)<|
 chk (decide (a2.toNat<a0.length))<|
 lt ((Int.fdiv (a0.getD a2.toNat 0) (2^(min (56:Int).toNat 64))):Int) fun x1=>
 chk (fits (a3.length+1) 1)<|
 chk (fits ((a3++([(wu8 x1)])).length+1) 1)<|
 lt (((a3++([(wu8 x1)]))++([(wu8 (Int.fdiv (a0.getD a2.toNat 0) (2^(min (48:Int).toNat 64))))])):List Int) fun l3=>
 lt ((Int.fdiv (a0.getD a2.toNat 0) (2^(min (40:Int).toNat 64))):Int) fun x4=>
 chk (fits (l3.length+1) 1)<|
 chk (fits ((l3++([(wu8 x4)])).length+1) 1)<|
 lt (((l3++([(wu8 x4)]))++([(wu8 (Int.fdiv (a0.getD a2.toNat 0) (2^(min (32:Int).toNat 64))))])):List Int) fun l6=>
 lt ((Int.fdiv (a0.getD a2.toNat 0) (2^(min (24:Int).toNat 64))):Int) fun x7=>
 chk (fits (l6.length+1) 1)<|
 chk (fits ((l6++([(wu8 x7)])).length+1) 1)<|
 lt (((l6++([(wu8 x7)]))++([(wu8 (Int.fdiv (a0.getD a2.toNat 0) (2^(min (16:Int).toNat 64))))])):List Int) fun l9=>
 lt ((Int.fdiv (a0.getD a2.toNat 0) (2^(min (8:Int).toNat 64))):Int) fun x10=>
 chk (fits (l9.length+1) 1)<|
 chk (fits ((l9++([(wu8 x10)])).length+1) 1)<|
 k (a0,a1,(w64 (a2+1)),((l9++([(wu8 x10)]))++([(wu8 (Int.fdiv (a0.getD a2.toNat 0) (2^(min (0:Int).toNat 64))))])))
 else
 some ([.l a3])
def AF (m:Nat):Nat->HS->Option (List Un):=bq (CM m)
theorem zm (m:Nat) (n:Nat):AF m (n+1)=CM m (AF m n):=rfl
def Ni (F:HS->Option (List Un)):aU:=⟨[.lp [0,1,0,1,1],.blk 0,.code [1,1,1]],⟨frm 27 [(3,.buf 0 1),(7,.ints .i64),(8,.int .i64),(9,.int .i64)],[.ints .u8],0⟩,onU F⟩
theorem Xf (m:Nat):∀n,HO N52 (Ni (AF m n)):=au ae PX.right (fun k=>[Ni k]) (fun k h=>(aH h aB)) fun k a=>by kernel_rfl
def t52 (m:Nat):List Int->Option (List Un):=fun a0=>
 AF m m (a0,(a0.length:Int),0,[])
theorem O2 (m:Nat):∀(rest pre acc:List Int) (n:Nat),rest.length<n->(pre++rest).length<=1000000->acc.length=8*pre.length->AF m n (pre++rest,((pre++rest).length:Int),(pre.length:Int),acc)=some [.l (acc++cF rest)]:=by
 intro rest
 induction rest with
 |nil=>
  intro pre acc n hn hl ha;obtain⟨n,rfl⟩:=ak n (by simp at hn;omega);rw[zm];unfold CM;dsimp only;rw[az (by simp)];simp[cF]
 |cons x rest ih=>
  intro pre acc n hn hl ha;obtain⟨n,rfl⟩:=ak n (by simp at hn;omega);simp only[zac,zab]at hn hl;rw[zm];unfold CM;dsimp only;rw[aQ (by simp only[zab,zac];omega),cJ (by omega) (by simp only[zab,zac];omega),aP (by simp)];have hx:(pre++x::rest).getD (pre.length:Int).toNat 0=x:=by simp
  obtain⟨p1,p2,p3,p4,p5,p6,p7,p8⟩:=Me;have f:∀k,k<=8->fits (acc.length+k) 1=true:=fun k hk=>zaa (by omega)
  dsimp only[lt];simp only[hx,p1,p2,p3,p4,p5,p6,p7,p8,zab,zac,zar,zaC,za8,Nat.reduceAdd,f 1 (by decide),f 2 (by decide),f 3 (by decide),f 4 (by decide),f 5 (by decide),f 6 (by decide),f 7 (by decide),f 8 (by decide),chk,zaw];have:=ih (pre++[x]) (acc++ow x) n (by omega) (by simp;omega) (by simp[ow,ha];omega);have e:w64 ((pre.length:Int)+1)=((pre++[x]).length:Int):=by
   rw[ab (by omega) (by omega)];simp
  rw[e];have e2:acc++cF (x::rest)=(acc++ow x)++cF rest:=by simp[cF]
  rw[e2,<-this];simp only[zaq,zaI,zat,ow,zab,zac,zar,zaC,za8,Nat.add_comm 1]
def f52:List Int->Bool × List Un:=fun a0=>(decide (a0.length<=1000000),[.l (cF a0)])
theorem U9 (a0:List Int) (hc:(decide (a0.length<=1000000))=true):∃m,t52 m a0=some ([.l (cF a0)]):=by
 have hl:=zaj hc;refine⟨a0.length+1, ?_⟩;have:=O2 (a0.length+1) a0 [] [] (a0.length+1) (by omega) (by simpa using hl) rfl;simp only[zat]at this;exact this
theorem Rt:ER 52 (mkE N52.en N52.ex f52):=an ae PX.right (fun m=>[Ni (AF m m)]) (t:=t52) (by kernel_rfl) (fun m=>(aH (Xf m m) aB)) (fun m a=>by kernel_rfl) fun a0 hc=>U9 a0 hc
def T52:Tb Tryz.prog LQ TE XX:=PX.add 52 _ Rt
structure RdR where
 v:Int
 o:Int
 n:Int
 bad:Bool
 l:List Int
def rdN (o n:Int) (bad:Bool) (l:List Int):RdR:=bif bad||(n.toNat:Int)==0 then⟨0,o.toNat,n.toNat,true,l⟩else⟨l.getD o.toNat 0,((o.toNat+1:Nat):Int),((n.toNat-1:Nat):Int),bad,l⟩
def rdM (o n:Int) (bad:Bool) (l:List Int) (most:Int):RdR:=let r:=rdN o n bad l;bif decide (r.v<0)||decide (r.v>most)then {r with v:=0,bad:=true}else r
def N95:aC:=⟨T52.tab,95,⟨[.ptr 0 0 0],[.cells [.sl 1 1,.bool],.ints .i64],0⟩,⟨[.int .i64],[.cells [.sl 1 1,.bool],.ints .i64],0⟩,[]⟩
def t95 (m:Nat):Int × Int × Bool × List Int->Option (List Un):=fun(a0,a1,a2,a3)=>
 bif a2 then
 some ([.i 0,.i (a0.toNat:Int),.i (a1.toNat:Int),.b true,.l a3])
 else
 bif (a1.toNat:Int)==0 then
 some ([.i 0,.i (a0.toNat:Int),.i (a1.toNat:Int),.b true,.l a3])
 else
 chk (inb 0 a1.toNat)<|
 chk (decide (a0.toNat<a3.length))<|
 chk (true&&(true&&decide (1<=a1.toNat/\a1.toNat<=a1.toNat)))<|
 some ([.i (a3.getD a0.toNat 0),.i (((a0.toNat+1):Nat):Int),.i (((a1.toNat-1):Nat):Int),.b a2,.l a3])
def f95:Int × Int × Bool × List Int->Bool × List Un:=fun(a0,a1,a2,a3)=>(decide (a0.toNat+a1.toNat<=a3.length),[.i ((rdN a0 a1 a2 a3).v),.i ((rdN a0 a1 a2 a3).o),.i ((rdN a0 a1 a2 a3).n),.b ((rdN a0 a1 a2 a3).bad),.l ((rdN a0 a1 a2 a3).l)])
theorem VG (a0:Int) (a1:Int) (a2:Bool) (a3:List Int) (hc:(decide (a0.toNat+a1.toNat<=a3.length))=true):∃m,t95 m (a0,a1,a2,a3)=some ([.i ((rdN a0 a1 a2 a3).v),.i ((rdN a0 a1 a2 a3).o),.i ((rdN a0 a1 a2 a3).n),.b ((rdN a0 a1 a2 a3).bad),.l ((rdN a0 a1 a2 a3).l)]):=by
 have hl:=zaj hc;refine⟨0, ?_⟩;unfold t95 rdN;dsimp only;cases a2 with
 |true=>rfl
 |false=>
  rw[zb7];cases h:((a1.toNat:Int)==0)with
  |true=>rfl
  |false=>
   have h:¬(a1.toNat:Int)=0:=by simpa using h
   rw[zal,zal,zal,cJ (by decide) (by omega),aP (by omega)];exact av (by simp;omega) rfl
theorem HW:ER 95 (mkE N95.en N95.ex f95):=an ae T52.right (fun m=>[]) (t:=t95) (by kernel_rfl) (fun m=>aB) (fun m a=>by kernel_rfl) fun(a0,a1,a2,a3) hc=>VG a0 a1 a2 a3 hc
def T95:Tb Tryz.prog LQ TE XX:=T52.add 95 _ HW
def Zv:RdR->List Un:=fun r=>[.i r.v,.i r.o,.i r.n,.b r.bad,.l r.l]
def aao:Int × Int × Bool × List Int->Bool × RdR:=fun(a0,a1,a2,a3)=>(decide (a0.toNat+a1.toNat<=a3.length),(rdN a0 a1 a2 a3))
theorem MK:ER 95 (mkB N95.en N95.ex aao Zv):=rebind HW fun(a0,a1,a2,a3)=>rfl
def WE:Tb Tryz.prog LQ TE XX:=T95.add 95 _ MK
def N60:aC:=⟨WE.tab,60,⟨[.ptr 0 0 0],[.cells [.sl 1 1,.bool],.ints .i64],2⟩,⟨[.bool],[.cells [.sl 1 1,.bool],.ints .i64],2⟩,[]⟩
def t60 (m:Nat):Int × Int × Bool × List Int->Option (List Un):=fun(a0,a1,a2,a3)=>
 bif !a2 then
 some ([.b ((a1.toNat:Int)==0),.i (a0.toNat:Int),.i (a1.toNat:Int),.b a2,.l a3])
 else
 some ([.b false,.i (a0.toNat:Int),.i (a1.toNat:Int),.b a2,.l a3])
def f60:Int × Int × Bool × List Int->Bool × List Un:=fun(a0,a1,a2,a3)=>(true,[.b ((!a2&&(a1.toNat:Int)==0)),.i ((a0.toNat:Int)),.i ((a1.toNat:Int)),.b (a2),.l (a3)])
theorem Ur (a0:Int) (a1:Int) (a2:Bool) (a3:List Int):∃m,t60 m (a0,a1,a2,a3)=some ([.b ((!a2&&(a1.toNat:Int)==0)),.i ((a0.toNat:Int)),.i ((a1.toNat:Int)),.b (a2),.l (a3)]):=by
 refine⟨0, ?_⟩;unfold t60;cases a2<;>rfl
theorem OU:ER 60 (mkE N60.en N60.ex f60):=an ae WE.right (fun m=>[]) (t:=t60) (by kernel_rfl) (fun m=>aB) (fun m a=>by kernel_rfl) fun(a0,a1,a2,a3) hc=>Ur a0 a1 a2 a3
def T60:Tb Tryz.prog LQ TE XX:=WE.add 60 _ OU
def N58:aC:=⟨T60.tab,58,⟨[.ints .i64],[],0⟩,⟨[.ptr 0 0 0],[.cells [.sl 1 1,.bool],.ints .i64],0⟩,[]⟩
def t58 (m:Nat):List Int->Option (List Un):=fun a0=>
 chk (decide (a0.length<1000000))<|
 some ([.i 0,.i (a0.length:Int),.b false,.l a0])
def f58:List Int->Bool × List Un:=fun a0=>(decide (a0.length<1000000),[.i (0),.i ((a0.length:Int)),.b (false),.l (a0)])
theorem UJ (a0:List Int) (hc:(decide (a0.length<1000000))=true):∃m,t58 m a0=some ([.i (0),.i ((a0.length:Int)),.b (false),.l (a0)]):=by
 refine⟨0, ?_⟩;unfold t58;exact av hc rfl
theorem O7:ER 58 (mkE N58.en N58.ex f58):=an ae T60.right (fun m=>[]) (t:=t58) (by kernel_rfl) (fun m=>aB) (fun m a=>by kernel_rfl) fun a0 hc=>UJ a0 hc
def T58:Tb Tryz.prog LQ TE XX:=T60.add 58 _ O7
def N96:aC:=⟨T58.tab,96,⟨[.ptr 0 0 0,.int .i64],[.cells [.sl 1 1,.bool],.ints .i64],0⟩,⟨[.int .i64],[.cells [.sl 1 1,.bool],.ints .i64],0⟩,[]⟩
def t96 (m:Nat):Int × Int × Int × Bool × List Int->Option (List Un):=fun(a0,a1,a2,a3,a4)=>
 chk (decide ((a1.toNat:Int).toNat+(a2.toNat:Int).toNat<=a4.length))<|
 bd ((rdN (a1.toNat:Int) (a2.toNat:Int) a3 a4):RdR) fun r1=>
 bif decide (r1.v<0)then
 some ([.i 0,.i (r1.o.toNat:Int),.i (r1.n.toNat:Int),.b true,.l r1.l])
 else
 bif decide (r1.v>a0)then
 some ([.i 0,.i (r1.o.toNat:Int),.i (r1.n.toNat:Int),.b true,.l r1.l])
 else
 some ([.i r1.v,.i (r1.o.toNat:Int),.i (r1.n.toNat:Int),.b r1.bad,.l r1.l])
theorem Py (o n:Int) (b:Bool) (l:List Int):((rdN o n b l).o.toNat:Int)=(rdN o n b l).o/\((rdN o n b l).n.toNat:Int)=(rdN o n b l).n:=by
 unfold rdN;cases (b||(n.toNat:Int)==0)with
 |true=>exact⟨rfl,rfl⟩
 |false=>exact⟨rfl,rfl⟩
theorem JC (o n:Int) (b:Bool) (l:List Int):rdN (o.toNat:Int) (n.toNat:Int) b l=rdN o n b l:=rfl
def f96:Int × Int × Int × Bool × List Int->Bool × List Un:=fun(a0,a1,a2,a3,a4)=>(decide (a1.toNat+a2.toNat<=a4.length),[.i ((rdM a1 a2 a3 a4 a0).v),.i ((rdM a1 a2 a3 a4 a0).o),.i ((rdM a1 a2 a3 a4 a0).n),.b ((rdM a1 a2 a3 a4 a0).bad),.l ((rdM a1 a2 a3 a4 a0).l)])
theorem UM (a0:Int) (a1:Int) (a2:Int) (a3:Bool) (a4:List Int) (hc:(decide (a1.toNat+a2.toNat<=a4.length))=true):∃m,t96 m (a0,a1,a2,a3,a4)=some ([.i ((rdM a1 a2 a3 a4 a0).v),.i ((rdM a1 a2 a3 a4 a0).o),.i ((rdM a1 a2 a3 a4 a0).n),.b ((rdM a1 a2 a3 a4 a0).bad),.l ((rdM a1 a2 a3 a4 a0).l)]):=by
 have hl:=zaj hc;refine⟨0, ?_⟩;unfold t96;dsimp only[bd];refine av (zaa (by omega)) ?_
 rw[JC];obtain⟨n1,n2⟩:=Py a1 a2 a3 a4;rw[n1,n2];unfold rdM;dsimp only;cases decide ((rdN a1 a2 a3 a4).v<0)with
 |true=>rfl
 |false=>cases decide ((rdN a1 a2 a3 a4).v>a0)<;>rfl
theorem IX:ER 96 (mkE N96.en N96.ex f96):=an ae T58.right (fun m=>[]) (t:=t96) (by kernel_rfl) (fun m=>aB) (fun m a=>by kernel_rfl) fun(a0,a1,a2,a3,a4) hc=>UM a0 a1 a2 a3 a4 hc
def T96:Tb Tryz.prog LQ TE XX:=T58.add 96 _ IX
def ZL:RdR->List Un:=fun r=>[.i r.v,.i r.o,.i r.n,.b r.bad,.l r.l]
def ZA:Int × Int × Int × Bool × List Int->Bool × RdR:=fun(a0,a1,a2,a3,a4)=>(decide (a1.toNat+a2.toNat<=a4.length),(rdM a1 a2 a3 a4 a0))
theorem Lh:ER 96 (mkB N96.en N96.ex ZA ZL):=rebind IX fun(a0,a1,a2,a3,a4)=>rfl
def RJ:Tb Tryz.prog LQ TE XX:=T96.add 96 _ Lh
def zT (n:Int):Bool:=decide (0<=n)&&decide (n<=1152921504606846976)
def To:aC:=⟨RJ.tab,104,⟨[.ints .i64],[],0⟩,⟨[.bool],[],0⟩,[]⟩
abbrev CS:Type:=List Int × Int × Int
def wS (m:Nat) (k:CS->Option (List Un)):CS->Option (List Un):=fun(a0,a1,a2)=>
 bif decide (a2<a1)then
 chk (inb a2 a0.length)<|
 chk (decide (a2.toNat<a0.length))<|
 bif (decide ((a0.getD a2.toNat 0)<0))then
 some ([.b false])
 else
 bif (decide ((a0.getD a2.toNat 0)>1152921504606846976))then
 some ([.b false])
 else
 k (a0,a1,(w64 (a2+1)))
 else
 some ([.b true])
def si (m:Nat):Nat->CS->Option (List Un):=bq (wS m)
theorem vi (m:Nat) (n:Nat):si m (n+1)=wS m (si m n):=rfl
def HQ (F:CS->Option (List Un)):aU:=⟨[.lp [0,1,0,1],.blk 0,.code [1,1]],⟨frm 18 [(5,.ints .i64),(6,.int .i64),(7,.int .i64)],[],0⟩,onU F⟩
theorem UD (m:Nat):∀n,HO To (HQ (si m n)):=au ae RJ.right (fun k=>[HQ k]) (fun k h=>(aH h aB)) fun k a=>by kernel_rfl
def t104 (m:Nat):List Int->Option (List Un):=fun a0=>
 si m m (a0,(a0.length:Int),0)
theorem X6 (m:Nat):∀(rest pre:List Int) (n:Nat),rest.length<n->(pre++rest).length<=1000000->si m n (pre++rest,((pre++rest).length:Int),(pre.length:Int))=some [.b (rest.all zT)]:=by
 intro rest
 induction rest with
 |nil=>
  intro pre n hn hl;obtain⟨n,rfl⟩:=ak n (by simp at hn;omega);rw[vi];unfold wS;dsimp only;rw[az (by simp)];rfl
 |cons x rest ih=>
  intro pre n hn hl;obtain⟨n,rfl⟩:=ak n (by simp at hn;omega);simp only[zac,zab]at hn hl;rw[vi];unfold wS;dsimp only;rw[aQ (by simp only[zab,zac];omega),cJ (by omega) (by simp only[zab,zac];omega),aP (by simp)];have hx:(pre++x::rest).getD (pre.length:Int).toNat 0=x:=by simp
  have:=ih (pre++[x]) n (by omega) (by simp;omega);have e:w64 ((pre.length:Int)+1)=((pre++[x]).length:Int):=by
   rw[ab (by omega) (by omega)];simp
  have e3:pre++x::rest=(pre++[x])++rest:=by simp
  rw[hx,Eo,Dn,e,e3,this,pz,pz];simp only[List.all_cons,zT,Bool.and_assoc]
def f104:List Int->Bool × List Un:=fun a0=>(decide (a0.length<=1000000),[.b (a0.all zT)])
theorem SJ (a0:List Int) (hc:(decide (a0.length<=1000000))=true):∃m,t104 m a0=some ([.b (a0.all zT)]):=by
 have hl:=zaj hc;refine⟨a0.length+1, ?_⟩;exact X6 (a0.length+1) a0 [] (a0.length+1) (by omega) (by simpa using hl)
theorem Od:ER 104 (mkE To.en To.ex f104):=an ae RJ.right (fun m=>[HQ (si m m)]) (t:=t104) (by kernel_rfl) (fun m=>(aH (UD m m) aB)) (fun m a=>by kernel_rfl) fun a0 hc=>SJ a0 hc
def M9:Tb Tryz.prog LQ TE XX:=RJ.add 104 _ Od
structure IJ where
 ra:bM
 rb:bF
 next:Int
 aZ:List Dat
 notes:List Dat
 r:RdR
def nx (r:RdR):RdR:=rdN r.o r.n r.bad r.l
def mx (r:RdR) (most:Int):RdR:=rdM r.o r.n r.bad r.l most
def lL:Nat->RdR->List Dat × RdR
 |0,r=>([],r)
 |k+1,r=>let s:=nx (nx (nx (nx r)));(.r [.n (nx r).v,.n (nx (nx r)).v,.n (nx (nx (nx r))).v,.n s.v]::(lL k s).1,(lL k s).2)
def eJ:Nat->RdR->List Dat × RdR
 |0,r=>([],r)
 |k+1,r=>let s:=nx (nx (nx r));(.r [.n (nx r).v,.n (nx (nx r)).v,.n s.v]::(eJ k s).1,(eJ k s).2)
def Ez (r1 r17:RdR):bM × bF × Int:=
 let r2:=nx r1;let r3:=nx r2;let r4:=nx r3;let r5:=nx r4;let r6:=nx r5;let r7:=nx r6;let r8:=nx r7;let r9:=nx r8;let r10:=nx r9;let r11:=nx r10;let r12:=nx r11;let r13:=nx r12;let r14:=nx r13;let r15:=nx r14;let r16:=nx r15
 (⟨r1.v==1,r2.v,r3.v,r4.v,r5.v,r6.v,r7.v,r8.v,r9.v,r10.v,r11.v⟩,⟨r12.v,r13.v,r14.v,r15.v,r16.v⟩,r17.v)
def eO (o n:Int) (bad:Bool) (l:List Int):IJ:=
 let r1:=rdM o n bad l 1
 let r17:=nx (nx (nx (nx (nx (nx (nx (nx (nx (nx (nx (nx (nx (nx (nx (nx r1)))))))))))))))
 let h:=Ez r1 r17
 let r18:=mx r17 160
 let p:=lL r18.v.toNat r18
 let r24:=mx p.2 8
 let q:=eJ r24.v.toNat r24
 ⟨h.1,h.2.1,h.2.2,p.1,q.1,q.2⟩
def RdI (r:RdR):Prop:=(r.o.toNat:Int)=r.o/\(r.n.toNat:Int)=r.n/\r.o.toNat+r.n.toNat<=r.l.length
theorem Ee {o n:Int} {b:Bool} {l:List Int} (h:o.toNat+n.toNat<=l.length):RdI (rdN o n b l)/\(rdN o n b l).l=l:=by
 unfold rdN RdI;cases hb:(b||(n.toNat:Int)==0)with
 |true=>exact⟨⟨rfl,rfl,h⟩,rfl⟩
 |false=>
  simp only[zbO,zbR]at hb;refine⟨⟨rfl,rfl, ?_⟩,rfl⟩;simp only[zal,zay];omega
theorem bD {r:RdR} (h:RdI r):RdI (nx r):=(Ee h.2.2).1
theorem MN {o n:Int} {b:Bool} {l:List Int} {most:Int} (h:o.toNat+n.toNat<=l.length):RdI (rdM o n b l most):=by
 have:=(Ee (b:=b) h).1;unfold rdM;dsimp only;cases (decide ((rdN o n b l).v<0)||decide ((rdN o n b l).v>most))<;>exact this
theorem tE {r:RdR} {most:Int} (h:RdI r):RdI (mx r most):=MN h.2.2
theorem Fg {o n:Int} {b:Bool} {l:List Int} {most:Int} (hm:0<=most):0<=(rdM o n b l most).v/\(rdM o n b l most).v<=most:=by
 unfold rdM;dsimp only;cases h:(decide ((rdN o n b l).v<0)||decide ((rdN o n b l).v>most))with
 |true=>exact⟨zb5 _,hm⟩
 |false=>
  simp only[zbO,decide_eq_false_iff_not]at h;simp only[zal];omega
theorem IG:∀(k:Nat) {r:RdR},RdI r->RdI (lL k r).2
 |0,r,h=>h
 |k+1,r,h=>IG k (bD (bD (bD (bD h))))
theorem BC:∀(k:Nat) {r:RdR},RdI r->RdI (eJ k r).2
 |0,r,h=>h
 |k+1,r,h=>BC k (bD (bD (bD h)))
def N59:aC:=⟨M9.tab,59,⟨[.ptr 0 0 0],[.cells [.sl 1 1,.bool],.ints .i64],0⟩,⟨[.agg [.bool,.int .i64,.int .i64,.int .i64,.int .i64,.int .i64,.int .i64,.int .i64,.int .i64,.int .i64,.int .i64,.buf 2 4,.int .i64,.int .i64,.int .i64,.int .i64,.int .i64,.buf 3 3,.int .i64]],[.cells [.sl 1 1,.bool],.ints .i64,.af (sI 4),.af (sI 3)],0⟩,[[0,1,0,1,1,1],[0,1,0,1,0,0,1,1,0,0,1,0,1,1,1,1],[0,1,0,1,0,0,1,1,0,0,1,0,1,1,1,1,1]]⟩
abbrev Jb:Type:=Int × Int × Int × Int × Bool × List Int × bM × bF × Int × bM × bF × Int × List Dat × List Dat × List Dat × List Dat
abbrev IF:Type:=Int × Int × Int × Int × Bool × List Int × bM × bF × Int × bM × bF × Int × List Dat × List Dat × List Dat × List Dat
def Cr (m:Nat) (k:Jb->Option (List Un)):Jb->Option (List Un):=fun(a0,a1,a2,a3,a4,a5,a6,a7,a8,a9,a10,a11,a12,a13,a14,a15)=>
 bif decide (a1<a0)then
 chk (decide ((a2.toNat:Int).toNat+(a3.toNat:Int).toNat<=a5.length))<|
 bd ((rdN (a2.toNat:Int) (a3.toNat:Int) a4 a5):RdR) fun r25=>
 chk (decide ((r25.o.toNat:Int).toNat+(r25.n.toNat:Int).toNat<=r25.l.length))<|
 bd ((rdN (r25.o.toNat:Int) (r25.n.toNat:Int) r25.bad r25.l):RdR) fun r26=>
 chk (decide ((r26.o.toNat:Int).toNat+(r26.n.toNat:Int).toNat<=r26.l.length))<|
 bd ((rdN (r26.o.toNat:Int) (r26.n.toNat:Int) r26.bad r26.l):RdR) fun r27=>
 chk (fits (a15.length+1) 24)<|
 k (a0,(w64 (a1+1)),(r27.o.toNat:Int),(r27.n.toNat:Int),r27.bad,r27.l,a6,a7,a8,a9,a10,a11,a12,a13,a14,(a15++([.r [.n r25.v,.n r26.v,.n r27.v]])))
 else
 some (Uns.enc (a9:bM)++Uns.enc (a10:bF)++[.i a11,.i (a2.toNat:Int),.i (a3.toNat:Int),.b a4,.l a5,.d a14,.d a15])
def z9 (m:Nat):Nat->Jb->Option (List Un):=bq (Cr m)
theorem zg (m:Nat) (n:Nat):z9 m (n+1)=Cr m (z9 m n):=rfl
def Ou (F:Jb->Option (List Un)):aU:=⟨[.lp [0,1,0,1,1,1,1,1],.blk 6,.code [1,1,1,1,1,1]],⟨frm 92 [(0,.ptr 0 0 0),(2,.ptr 2 0 0),(3,.ptr 3 0 0),(73,.int .i64),(74,.int .i64)],[.cells [.sl 1 1,.bool],.ints .i64,.cells [.bool,.int .i64,.int .i64,.int .i64,.int .i64,.int .i64,.int .i64,.int .i64,.int .i64,.int .i64,.int .i64,.buf 4 4,.int .i64,.int .i64,.int .i64,.int .i64,.int .i64,.buf 5 3,.int .i64],.cells [.bool,.int .i64,.int .i64,.int .i64,.int .i64,.int .i64,.int .i64,.int .i64,.int .i64,.int .i64,.int .i64,.buf 6 4,.int .i64,.int .i64,.int .i64,.int .i64,.int .i64,.buf 7 3,.int .i64],.af (sI 4),.af (sI 3),.af (sI 4),.af (sI 3)],0⟩,onU F⟩
def CU (m:Nat) (k:IF->Option (List Un)):IF->Option (List Un):=fun(a0,a1,a2,a3,a4,a5,a6,a7,a8,a9,a10,a11,a12,a13,a14,a15)=>
 bif decide (a1<a0)then
 chk (decide ((a2.toNat:Int).toNat+(a3.toNat:Int).toNat<=a5.length))<|
 bd ((rdN (a2.toNat:Int) (a3.toNat:Int) a4 a5):RdR) fun r19=>
 chk (decide ((r19.o.toNat:Int).toNat+(r19.n.toNat:Int).toNat<=r19.l.length))<|
 bd ((rdN (r19.o.toNat:Int) (r19.n.toNat:Int) r19.bad r19.l):RdR) fun r20=>
 chk (decide ((r20.o.toNat:Int).toNat+(r20.n.toNat:Int).toNat<=r20.l.length))<|
 bd ((rdN (r20.o.toNat:Int) (r20.n.toNat:Int) r20.bad r20.l):RdR) fun r21=>
 chk (decide ((r21.o.toNat:Int).toNat+(r21.n.toNat:Int).toNat<=r21.l.length))<|
 bd ((rdN (r21.o.toNat:Int) (r21.n.toNat:Int) r21.bad r21.l):RdR) fun r22=>
 chk (fits (a14.length+1) 32)<|
 k (a0,(w64 (a1+1)),(r22.o.toNat:Int),(r22.n.toNat:Int),r22.bad,r22.l,a6,a7,a8,a9,a10,a11,a12,a13,(a14++([.r [.n r19.v,.n r20.v,.n r21.v,.n r22.v]])),a15)
 else
 chk (decide ((a2.toNat:Int).toNat+(a3.toNat:Int).toNat<=a5.length))<|
 bd ((rdM (a2.toNat:Int) (a3.toNat:Int) a4 a5 8):RdR) fun r24=>
 z9 m m (r24.v,0,(r24.o.toNat:Int),(r24.n.toNat:Int),r24.bad,r24.l,a6,a7,a8,a9,a10,a11,a12,a13,a14,a15)
def AO (m:Nat):Nat->IF->Option (List Un):=bq (CU m)
theorem yt (m:Nat) (n:Nat):AO m (n+1)=CU m (AO m n):=rfl
def K2 (F:IF->Option (List Un)):aU:=⟨[.lp [0,1,0,1,1,1,1],.blk 2,.code [1,1,1,1,1]],⟨frm 92 [(0,.ptr 0 0 0),(2,.ptr 2 0 0),(3,.ptr 3 0 0),(47,.int .i64),(48,.int .i64)],[.cells [.sl 1 1,.bool],.ints .i64,.cells [.bool,.int .i64,.int .i64,.int .i64,.int .i64,.int .i64,.int .i64,.int .i64,.int .i64,.int .i64,.int .i64,.buf 4 4,.int .i64,.int .i64,.int .i64,.int .i64,.int .i64,.buf 5 3,.int .i64],.cells [.bool,.int .i64,.int .i64,.int .i64,.int .i64,.int .i64,.int .i64,.int .i64,.int .i64,.int .i64,.int .i64,.buf 6 4,.int .i64,.int .i64,.int .i64,.int .i64,.int .i64,.buf 7 3,.int .i64],.af (sI 4),.af (sI 3),.af (sI 4),.af (sI 3)],0⟩,onU F⟩
theorem Xp (m:Nat):∀n,HO N59 (Ou (z9 m n)):=au ae M9.right (fun k=>[Ou k]) (fun k h=>(aH h aB)) fun k a=>by kernel_rfl
theorem Yy (m:Nat):∀n,HO N59 (K2 (AO m n)):=au ae M9.right (fun k=>[K2 k,Ou (z9 m m)]) (fun k h=>(aH h (aH (Xp m m) aB))) fun k a=>by kernel_rfl
def t59 (m:Nat):Int × Int × Bool × List Int->Option (List Un):=fun(a0,a1,a2,a3)=>
 chk (decide ((a0.toNat:Int).toNat+(a1.toNat:Int).toNat<=a3.length))<|
 bd ((rdM (a0.toNat:Int) (a1.toNat:Int) a2 a3 1):RdR) fun r1=>
 chk (decide ((r1.o.toNat:Int).toNat+(r1.n.toNat:Int).toNat<=r1.l.length))<|
 bd ((rdN (r1.o.toNat:Int) (r1.n.toNat:Int) r1.bad r1.l):RdR) fun r2=>
 chk (decide ((r2.o.toNat:Int).toNat+(r2.n.toNat:Int).toNat<=r2.l.length))<|
 bd ((rdN (r2.o.toNat:Int) (r2.n.toNat:Int) r2.bad r2.l):RdR) fun r3=>
 chk (decide ((r3.o.toNat:Int).toNat+(r3.n.toNat:Int).toNat<=r3.l.length))<|
 bd ((rdN (r3.o.toNat:Int) (r3.n.toNat:Int) r3.bad r3.l):RdR) fun r4=>
 chk (decide ((r4.o.toNat:Int).toNat+(r4.n.toNat:Int).toNat<=r4.l.length))<|
 bd ((rdN (r4.o.toNat:Int) (r4.n.toNat:Int) r4.bad r4.l):RdR) fun r5=>
 chk (decide ((r5.o.toNat:Int).toNat+(r5.n.toNat:Int).toNat<=r5.l.length))<|
 bd ((rdN (r5.o.toNat:Int) (r5.n.toNat:Int) r5.bad r5.l):RdR) fun r6=>
 chk (decide ((r6.o.toNat:Int).toNat+(r6.n.toNat:Int).toNat<=r6.l.length))<|
 bd ((rdN (r6.o.toNat:Int) (r6.n.toNat:Int) r6.bad r6.l):RdR) fun r7=>
 chk (decide ((r7.o.toNat:Int).toNat+(r7.n.toNat:Int).toNat<=r7.l.length))<|
 bd ((rdN (r7.o.toNat:Int) (r7.n.toNat:Int) r7.bad r7.l):RdR) fun r8=>
 chk (decide ((r8.o.toNat:Int).toNat+(r8.n.toNat:Int).toNat<=r8.l.length))<|
 bd ((rdN (r8.o.toNat:Int) (r8.n.toNat:Int) r8.bad r8.l):RdR) fun r9=>
 chk (decide ((r9.o.toNat:Int).toNat+(r9.n.toNat:Int).toNat<=r9.l.length))<|
 bd ((rdN (r9.o.toNat:Int) (r9.n.toNat:Int) r9.bad r9.l):RdR) fun r10=>
 chk (decide ((r10.o.toNat:Int).toNat+(r10.n.toNat:Int).toNat<=r10.l.length))<|
 bd ((rdN (r10.o.toNat:Int) (r10.n.toNat:Int) r10.bad r10.l):RdR) fun r11=>
 chk (decide ((r11.o.toNat:Int).toNat+(r11.n.toNat:Int).toNat<=r11.l.length))<|
 bd ((rdN (r11.o.toNat:Int) (r11.n.toNat:Int) r11.bad r11.l):RdR) fun r12=>
 chk (decide ((r12.o.toNat:Int).toNat+(r12.n.toNat:Int).toNat<=r12.l.length))<|
 bd ((rdN (r12.o.toNat:Int) (r12.n.toNat:Int) r12.bad r12.l):RdR) fun r13=>
 chk (decide ((r13.o.toNat:Int).toNat+(r13.n.toNat:Int).toNat<=r13.l.length))<|
 bd ((rdN (r13.o.toNat:Int) (r13.n.toNat:Int) r13.bad r13.l):RdR) fun r14=>
 chk (decide ((r14.o.toNat:Int).toNat+(r14.n.toNat:Int).toNat<=r14.l.length))<|
 bd ((rdN (r14.o.toNat:Int) (r14.n.toNat:Int) r14.bad r14.l):RdR) fun r15=>
 chk (decide ((r15.o.toNat:Int).toNat+(r15.n.toNat:Int).toNat<=r15.l.length))<|
 bd ((rdN (r15.o.toNat:Int) (r15.n.toNat:Int) r15.bad r15.l):RdR) fun r16=>
 chk (decide ((r16.o.toNat:Int).toNat+(r16.n.toNat:Int).toNat<=r16.l.length))<|
 bd ((rdN (r16.o.toNat:Int) (r16.n.toNat:Int) r16.bad r16.l):RdR) fun r17=>
 chk (decide ((r17.o.toNat:Int).toNat+(r17.n.toNat:Int).toNat<=r17.l.length))<|
 bd ((rdM (r17.o.toNat:Int) (r17.n.toNat:Int) r17.bad r17.l 160):RdR) fun r18=>
 AO m m (r18.v,0,(r18.o.toNat:Int),(r18.n.toNat:Int),r18.bad,r18.l,(⟨false,0,0,0,0,0,0,0,0,0,0⟩:bM),(⟨0,0,0,0,0⟩:bF),0,(⟨r1.v==1,r2.v,r3.v,r4.v,r5.v,r6.v,r7.v,r8.v,r9.v,r10.v,r11.v⟩:bM),(⟨r12.v,r13.v,r14.v,r15.v,r16.v⟩:bF),r17.v,[],[],[],[])
theorem VF (m:Nat) (xa:bM) (xb:bF) (xn:Int) (ya:bM) (yb:bF) (yn:Int) (z1 z2 p:List Dat):∀(c:Nat) (n:Nat) (k:Nat) (r:RdR) (acc:List Dat),c<n->k+c<=8->acc.length<=k->RdI r->
 z9 m n (((k+c:Nat):Int),(k:Int),r.o,r.n,r.bad,r.l,xa,xb,xn,ya,yb,yn,z1,z2,p,acc)=some (Uns.enc ya++Uns.enc yb++[.i yn,.i (eJ c r).2.o,.i (eJ c r).2.n,.b (eJ c r).2.bad,.l (eJ c r).2.l,.d p,.d (acc++(eJ c r).1)]):=by
 intro c
 induction c with
 |zero=>
  intro n k r acc hn hk ha hr;obtain⟨n,rfl⟩:=ak n (by omega);rw[zg];unfold Cr;dsimp only;rw[az (by omega),hr.1,hr.2.1];simp[eJ]
 |succ c ih=>
  intro n k r acc hn hk ha hr;obtain⟨n,rfl⟩:=ak n (by omega);rw[zg];unfold Cr;dsimp only;have h1:=bD hr;have h2:=bD h1;have h3:=bD h2;rw[aQ (by omega)];dsimp only[bd];rw[hr.1,hr.2.1];refine av (zaa hr.2.2) ?_
  rw[show rdN r.o r.n r.bad r.l=nx r from rfl,h1.1,h1.2.1];refine av (zaa h1.2.2) ?_
  rw[show rdN (nx r).o (nx r).n (nx r).bad (nx r).l=nx (nx r) from rfl,h2.1,h2.2.1];refine av (zaa h2.2.2) ?_
  rw[show rdN (nx (nx r)).o (nx (nx r)).n (nx (nx r)).bad (nx (nx r)).l=nx (nx (nx r)) from rfl,h3.1,h3.2.1];rw[bL (by omega) (by omega)];have:=ih n (k+1) (nx (nx (nx r))) (acc++[.r [.n (nx r).v,.n (nx (nx r)).v,.n (nx (nx (nx r))).v]]) (by omega) (by omega) (by simp;omega) h3;have e:w64 ((k:Int)+1)=((k+1:Nat):Int):=by rw[ab (by omega) (by omega)];simp
  rw[e,show k+(c+1)=k+1+c by omega,this];simp only[eJ,zaq,zaI,zat]
theorem VN (m:Nat) (hm:9<=m) (xa:bM) (xb:bF) (xn:Int) (ya:bM) (yb:bF) (yn:Int) (z1 z2:List Dat):∀(c:Nat) (n:Nat) (k:Nat) (r:RdR) (acc:List Dat),c<n->k+c<=160->acc.length<=k->RdI r->
 AO m n (((k+c:Nat):Int),(k:Int),r.o,r.n,r.bad,r.l,xa,xb,xn,ya,yb,yn,z1,z2,acc,[])=
  (let p:=lL c r;let t:=mx p.2 8;let q:=eJ t.v.toNat t;some (Uns.enc ya++Uns.enc yb++[.i yn,.i q.2.o,.i q.2.n,.b q.2.bad,.l q.2.l,.d (acc++p.1),.d q.1])):=by
 intro c
 induction c with
 |zero=>
  intro n k r acc hn hk ha hr;obtain⟨n,rfl⟩:=ak n (by omega);rw[yt];unfold CU;dsimp only;rw[az (by omega),hr.1,hr.2.1];dsimp only[bd];refine av (zaa hr.2.2) ?_
  have ht:=tE (most:=8) hr;rw[show rdM r.o r.n r.bad r.l 8=mx r 8 from rfl,ht.1,ht.2.1];have hv:0<=(mx r 8).v/\(mx r 8).v<=8:=Fg (by decide);have:=VF m xa xb xn ya yb yn z1 z2 acc (mx r 8).v.toNat m 0 (mx r 8) [] (by omega) (by omega) (by simp) ht;rw[show(((0+(mx r 8).v.toNat:Nat)):Int)=(mx r 8).v by omega]at this;simp only[lL,zaK];exact this
 |succ c ih=>
  intro n k r acc hn hk ha hr;obtain⟨n,rfl⟩:=ak n (by omega);rw[yt];unfold CU;dsimp only;have h1:=bD hr;have h2:=bD h1;have h3:=bD h2;have h4:=bD h3;rw[aQ (by omega)];dsimp only[bd];rw[hr.1,hr.2.1];refine av (zaa hr.2.2) ?_
  rw[show rdN r.o r.n r.bad r.l=nx r from rfl,h1.1,h1.2.1];refine av (zaa h1.2.2) ?_
  rw[show rdN (nx r).o (nx r).n (nx r).bad (nx r).l=nx (nx r) from rfl,h2.1,h2.2.1];refine av (zaa h2.2.2) ?_
  rw[show rdN (nx (nx r)).o (nx (nx r)).n (nx (nx r)).bad (nx (nx r)).l=nx (nx (nx r)) from rfl,h3.1,h3.2.1];refine av (zaa h3.2.2) ?_
  rw[show rdN (nx (nx (nx r))).o (nx (nx (nx r))).n (nx (nx (nx r))).bad (nx (nx (nx r))).l=nx (nx (nx (nx r))) from rfl,h4.1,h4.2.1];rw[bL (by omega) (by omega)];have:=ih n (k+1) (nx (nx (nx (nx r)))) (acc++[.r [.n (nx r).v,.n (nx (nx r)).v,.n (nx (nx (nx r))).v,.n (nx (nx (nx (nx r)))).v]]) (by omega) (by omega) (by simp;omega) h4;have e:w64 ((k:Int)+1)=((k+1:Nat):Int):=by rw[ab (by omega) (by omega)];simp
  rw[e,show k+(c+1)=k+1+c by omega,this];simp only[lL,zaq,zaI,zat]
theorem eX {r:RdR} (h:RdI r) {β:Type} (f:RdR->Option β):(chk (decide ((r.o.toNat:Int).toNat+(r.n.toNat:Int).toNat<=r.l.length))<|bd (rdN (r.o.toNat:Int) (r.n.toNat:Int) r.bad r.l) f)=f (nx r):=by
 rw[h.1,h.2.1];exact av (zaa h.2.2) rfl
def f59:Int × Int × Bool × List Int->Bool × List Un:=fun(a0,a1,a2,a3)=>(decide (a0.toNat+a1.toNat<=a3.length),Uns.enc (((eO a0 a1 a2 a3).ra):bM)++Uns.enc (((eO a0 a1 a2 a3).rb):bF)++[.i ((eO a0 a1 a2 a3).next),.i ((eO a0 a1 a2 a3).r.o),.i ((eO a0 a1 a2 a3).r.n),.b ((eO a0 a1 a2 a3).r.bad),.l ((eO a0 a1 a2 a3).r.l),.d ((eO a0 a1 a2 a3).aZ),.d ((eO a0 a1 a2 a3).notes)])
set_option maxHeartbeats 2000000 in
theorem Tj (a0:Int) (a1:Int) (a2:Bool) (a3:List Int) (hc:(decide (a0.toNat+a1.toNat<=a3.length))=true):∃m,t59 m (a0,a1,a2,a3)=some (Uns.enc (((eO a0 a1 a2 a3).ra):bM)++Uns.enc (((eO a0 a1 a2 a3).rb):bF)++[.i ((eO a0 a1 a2 a3).next),.i ((eO a0 a1 a2 a3).r.o),.i ((eO a0 a1 a2 a3).r.n),.b ((eO a0 a1 a2 a3).r.bad),.l ((eO a0 a1 a2 a3).r.l),.d ((eO a0 a1 a2 a3).aZ),.d ((eO a0 a1 a2 a3).notes)]):=by
 have hl:=zaj hc;refine⟨200, ?_⟩;unfold t59;have i1:RdI (rdM a0 a1 a2 a3 1):=MN hl;refine av (zaa hl) ?_
 rw[show bd (rdM (a0.toNat:Int) (a1.toNat:Int) a2 a3 1)=bd (rdM a0 a1 a2 a3 1) from rfl];have e1:∀{β:Type} (f:RdR->Option β),bd (rdM a0 a1 a2 a3 1) f=f (rdM a0 a1 a2 a3 1):=fun f=>rfl
 rw[e1];have i2:=bD i1;have i3:=bD i2;have i4:=bD i3;have i5:=bD i4;have i6:=bD i5;have i7:=bD i6;have i8:=bD i7;have i9:=bD i8;have i10:=bD i9;have i11:=bD i10;have i12:=bD i11;have i13:=bD i12;have i14:=bD i13;have i15:=bD i14;have i16:=bD i15;have i17:=bD i16;rw[eX i1,eX i2,eX i3,eX i4,eX i5,eX i6,eX i7,eX i8,eX i9,eX i10,eX i11,eX i12,eX i13,eX i14,eX i15,eX i16];rw[i17.1,i17.2.1];refine av (zaa i17.2.2) ?_
 dsimp only[bd];have i18:=tE (most:=160) i17;unfold eO;dsimp only;generalize nx (nx (nx (nx (nx (nx (nx (nx (nx (nx (nx (nx (nx (nx (nx (nx (rdM a0 a1 a2 a3 1))))))))))))))))=r17 at*
 rw[show rdM r17.o r17.n r17.bad r17.l 160=mx r17 160 from rfl,i18.1,i18.2.1];have hv:0<=(mx r17 160).v/\(mx r17 160).v<=160:=Fg (by decide);have:=VN 200 (by decide) (⟨false,0,0,0,0,0,0,0,0,0,0⟩:bM) (⟨0,0,0,0,0⟩:bF) 0 (Ez (rdM a0 a1 a2 a3 1) r17).1 (Ez (rdM a0 a1 a2 a3 1) r17).2.1 (Ez (rdM a0 a1 a2 a3 1) r17).2.2 [] [] (mx r17 160).v.toNat 200 0 (mx r17 160) [] (by omega) (by omega) (by simp) i18;rw[show(((0+(mx r17 160).v.toNat:Nat)):Int)=(mx r17 160).v by omega]at this;exact this
theorem I6:ER 59 (mkE N59.en N59.ex f59):=an ae M9.right (fun m=>[K2 (AO m m)]) (t:=t59) (by kernel_rfl) (fun m=>(aH (Yy m m) aB)) (fun m a=>by kernel_rfl) fun(a0,a1,a2,a3) hc=>Tj a0 a1 a2 a3 hc
def T59:Tb Tryz.prog LQ TE XX:=M9.add 59 _ I6
def aai:IJ->List Un:=fun r=>Uns.enc (r.ra:bM)++Uns.enc (r.rb:bF)++[.i r.next,.i r.r.o,.i r.r.n,.b r.r.bad,.l r.r.l,.d r.aZ,.d r.notes]
def Zy:Int × Int × Bool × List Int->Bool × IJ:=fun(a0,a1,a2,a3)=>(decide (a0.toNat+a1.toNat<=a3.length),(eO a0 a1 a2 a3))
theorem Nx:ER 59 (mkB N59.en N59.ex Zy aai):=rebind I6 fun(a0,a1,a2,a3)=>rfl
def Ly:Tb Tryz.prog LQ TE XX:=T59.add 59 _ Nx
theorem EC {α:Type} {c d:Bool} {F Y:α}:(bif c then(bif !d then F else Y)else F)=bif c&&d then Y else F:=by cases c<;>cases d<;>rfl
theorem cond_not {α:Type} {d:Bool} {F Y:α}:(bif !d then F else Y)=bif d then Y else F:=by cases d<;>rfl
def xo (d:Dat):Bool:=decide (d.i 0>=0)&&(decide (d.i 0<=15)&&(decide (d.i 1>=1)&&(decide (d.i 1<=7)&&(decide (d.i 2>= -1)&&(decide (d.i 2<=7)&&(decide (d.i 3>=1)&&decide (d.i 3<=1152921504606846976)))))))
def vr (d:Dat):Bool:=([d.i 0,d.i 1,d.i 2]:List Int).all zT
def yC (ra:bM) (rb:bF):List Int:=[ra.ar,ra.fH,ra.aM,ra.aT,ra.draw,ra.advance,ra.fee,ra.due,rb.dz,rb.aJ,rb.bC,rb.out,rb.vH]
def eT (ra:bM) (aZ:List Dat) (rb:bF) (notes:List Dat) (next:Int):Bool:=
 decide (ra.period>=0)&&(decide (ra.period<=600)&&(decide (ra.mode>=0)&&(decide (ra.mode<=2)&&(decide (next>=0)&&(decide (next<=2)&&((yC ra rb).all zT&&(decide ((aZ.length:Int)<=160)&&(decide ((notes.length:Int)<=8)&&(aZ.all xo&&notes.all vr)))))))))
def N61:aC:=⟨Ly.tab,61,⟨[.agg [.bool,.int .i64,.int .i64,.int .i64,.int .i64,.int .i64,.int .i64,.int .i64,.int .i64,.int .i64,.int .i64,.af (sI 4),.int .i64,.int .i64,.int .i64,.int .i64,.int .i64,.af (sI 3),.int .i64]],[],0⟩,⟨[.bool],[],0⟩,[]⟩
abbrev IC:Type:=List Dat × Int × Int
abbrev HY:Type:=List Dat × Int × Int × bM × List Dat × bF × List Dat × Int
def CJ (m:Nat) (k:IC->Option (List Un)):IC->Option (List Un):=fun(a0,a1,a2)=>
 bif decide (a2<a1)then
 chk (inb a2 a0.length)<|
 chk (decide (a2.toNat<a0.length))<|
 lt (ag a0 a2.toNat:Dat) fun d8=>
 chk (decide (([(d8.i 0),(d8.i 1),(d8.i 2)]:List Int).length<=1000000))<|
 bif !(([(d8.i 0),(d8.i 1),(d8.i 2)]:List Int).all zT)then
 some ([.b false])
 else
 k (a0,a1,(w64 (a2+1)))
 else
 some ([.b true])
def Ar (m:Nat):Nat->IC->Option (List Un):=bq (CJ m)
theorem yY (m:Nat) (n:Nat):Ar m (n+1)=CJ m (Ar m n):=rfl
def NS (F:IC->Option (List Un)):aU:=⟨[.lp [0,1,0,1,1,1],.blk 2,.code [1,1,1,1]],⟨frm 82 [(72,.af (sI 3)),(73,.int .i64),(74,.int .i64)],[],0⟩,onU F⟩
def De (m:Nat) (k:HY->Option (List Un)):HY->Option (List Un):=fun(a0,a1,a2,a3,a4,a5,a6,a7)=>
 bif decide (a2<a1)then
 chk (inb a2 a0.length)<|
 chk (decide (a2.toNat<a0.length))<|
 lt (ag a0 a2.toNat:Dat) fun d5=>
 bif decide ((d5.i 0)>=0)then
 bif !(decide ((d5.i 0)<=15))then
 some ([.b false])
 else
 bif decide ((d5.i 1)>=1)then
 bif !(decide ((d5.i 1)<=7))then
 some ([.b false])
 else
 bif (decide ((d5.i 2)>=(-1)))then
 bif !(decide ((d5.i 2)<=7))then
 some ([.b false])
 else
 bif decide ((d5.i 3)>=1)then
 bif !(decide ((d5.i 3)<=1152921504606846976))then
 some ([.b false])
 else
 k (a0,a1,(w64 (a2+1)),a3,a4,a5,a6,a7)
 else
 some ([.b false])
 else
 some ([.b false])
 else
 some ([.b false])
 else
 some ([.b false])
 else
 Ar m m (a6,(a6.length:Int),0)
def xD (m:Nat):Nat->HY->Option (List Un):=bq (De m)
theorem yN (m:Nat) (n:Nat):xD m (n+1)=De m (xD m n):=rfl
def Ol (F:HY->Option (List Un)):aU:=⟨[.lp [0,1,0,1,1],.blk 0,.code [1,1,1]],⟨frm 82 [(1,.ptr 0 0 0),(42,.af (sI 4)),(43,.int .i64),(44,.int .i64)],[.cells [.bool,.int .i64,.int .i64,.int .i64,.int .i64,.int .i64,.int .i64,.int .i64,.int .i64,.int .i64,.int .i64,.af (sI 4),.int .i64,.int .i64,.int .i64,.int .i64,.int .i64,.af (sI 3),.int .i64]],0⟩,onU F⟩
theorem W2 (m:Nat):∀n,HO N61 (NS (Ar m n)):=au ae Ly.right (fun k=>[NS k]) (fun k h=>(aH h aB)) fun k a=>by kernel_rfl
theorem Xu (m:Nat):∀n,HO N61 (Ol (xD m n)):=au ae Ly.right (fun k=>[Ol k,NS (Ar m m)]) (fun k h=>(aH h (aH (W2 m m) aB))) fun k a=>by kernel_rfl
def t61 (m:Nat):bM × List Dat × bF × List Dat × Int->Option (List Un):=fun(a0,a1,a2,a3,a4)=>
 bif decide (a0.period>=0)then
 bif !(decide (a0.period<=600))then
 some ([.b false])
 else
 bif decide (a0.mode>=0)then
 bif !(decide (a0.mode<=2))then
 some ([.b false])
 else
 bif decide (a4>=0)then
 bif !(decide (a4<=2))then
 some ([.b false])
 else
 chk (decide (([a0.ar,a0.fH,a0.aM,a0.aT,a0.draw,a0.advance,a0.fee,a0.due,a2.dz,a2.aJ,a2.bC,a2.out,a2.vH]:List Int).length<=1000000))<|
 bif !(([a0.ar,a0.fH,a0.aM,a0.aT,a0.draw,a0.advance,a0.fee,a0.due,a2.dz,a2.aJ,a2.bC,a2.out,a2.vH]:List Int).all zT)then
 some ([.b false])
 else
 bif (decide ((a1.length:Int)>160))then
 some ([.b false])
 else
 bif (decide ((a3.length:Int)>8))then
 some ([.b false])
 else
 xD m m (a1,(a1.length:Int),0,a0,a1,a2,a3,a4)
 else
 some ([.b false])
 else
 some ([.b false])
 else
 some ([.b false])
theorem QS (m:Nat):∀(rest pre:List Dat) (n:Nat),rest.length<n->(pre++rest).length<=1000000->Ar m n (pre++rest,((pre++rest).length:Int),(pre.length:Int))=some [.b (rest.all vr)]:=by
 intro rest
 induction rest with
 |nil=>
  intro pre n hn hl;obtain⟨n,rfl⟩:=ak n (by simp at hn;omega);rw[yY];unfold CJ;dsimp only;rw[az (by simp)];rfl
 |cons x rest ih=>
  intro pre n hn hl;obtain⟨n,rfl⟩:=ak n (by simp at hn;omega);simp only[zac,zab]at hn hl;rw[yY];unfold CJ;dsimp only;rw[aQ (by simp only[zab,zac];omega),cJ (by omega) (by simp only[zab,zac];omega),aP (by simp)];have hx:ag (pre++x::rest) (pre.length:Int).toNat=x:=by simp[ag]
  have:=ih (pre++[x]) n (by omega) (by simp;omega);have e:w64 ((pre.length:Int)+1)=((pre++[x]).length:Int):=by
   rw[ab (by omega) (by omega)];simp
  have e3:pre++x::rest=(pre++[x])++rest:=by simp
  rw[hx];dsimp only[lt];refine av rfl ?_
  rw[cond_not,e,e3,this,pz];simp only[List.all_cons,vr]
theorem Qh (m:Nat) (ra:bM) (xp:List Dat) (rb:bF) (notes:List Dat) (xn:Int) (hm:notes.length<m) (hn9:notes.length<=1000000):∀(rest pre:List Dat) (n:Nat),rest.length<n->(pre++rest).length<=1000000->xD m n (pre++rest,((pre++rest).length:Int),(pre.length:Int),ra,xp,rb,notes,xn)=some [.b (rest.all xo&&notes.all vr)]:=by
 intro rest
 induction rest with
 |nil=>
  intro pre n hn hl;obtain⟨n,rfl⟩:=ak n (by simp at hn;omega);rw[yN];unfold De;dsimp only;rw[az (by simp)];exact QS m notes [] m hm hn9
 |cons x rest ih=>
  intro pre n hn hl;obtain⟨n,rfl⟩:=ak n (by simp at hn;omega);simp only[zac,zab]at hn hl;rw[yN];unfold De;dsimp only;rw[aQ (by simp only[zab,zac];omega),cJ (by omega) (by simp only[zab,zac];omega),aP (by simp)];have hx:ag (pre++x::rest) (pre.length:Int).toNat=x:=by simp[ag]
  have:=ih (pre++[x]) n (by omega) (by simp;omega);have e:w64 ((pre.length:Int)+1)=((pre++[x]).length:Int):=by
   rw[ab (by omega) (by omega)];simp
  have e3:pre++x::rest=(pre++[x])++rest:=by simp
  rw[hx];dsimp only[lt];rw[e,e3,this];simp only[EC,pz,List.all_cons,xo,Bool.and_assoc]
def f61:bM × List Dat × bF × List Dat × Int->Bool × List Un:=fun(a0,a1,a2,a3,a4)=>(decide (a1.length<=1000000)&&decide (a3.length<=1000000),[.b ((eT a0 a1 a2 a3 a4))])
theorem Uk (a0:bM) (a1:List Dat) (a2:bF) (a3:List Dat) (a4:Int) (hc:(decide (a1.length<=1000000)&&decide (a3.length<=1000000))=true):∃m,t61 m (a0,a1,a2,a3,a4)=some ([.b ((eT a0 a1 a2 a3 a4))]):=by
 have hc':=hc;simp only[zae,zaf]at hc';obtain⟨h1,h2⟩:=hc';refine⟨a1.length+a3.length+1, ?_⟩;have this:xD (a1.length+a3.length+1) (a1.length+a3.length+1) (a1,(a1.length:Int),0,a0,a1,a2,a3,a4)=some [.b (a1.all xo&&a3.all vr)]:=Qh (a1.length+a3.length+1) a0 a1 a2 a3 a4 (by omega) h2 a1 [] (a1.length+a3.length+1) (by omega) (by simpa using h1);unfold t61;dsimp only;rw[this];simp only[EC,cond_not,Dn];rw[show(decide (([a0.ar,a0.fH,a0.aM,a0.aT,a0.draw,a0.advance,a0.fee,a0.due,a2.dz,a2.aJ,a2.bC,a2.out,a2.vH]:List Int).length<=1000000))=true from rfl];simp only[chk,zaw,pz,eT,yC,Bool.and_assoc]
theorem SE:ER 61 (mkE N61.en N61.ex f61):=an ae Ly.right (fun m=>[Ol (xD m m)]) (t:=t61) (by kernel_rfl) (fun m=>(aH (Xu m m) aB)) (fun m a=>by kernel_rfl) fun(a0,a1,a2,a3,a4) hc=>Uk a0 a1 a2 a3 a4 hc
def T61:Tb Tryz.prog LQ TE XX:=Ly.add 61 _ SE
def eP (d:Dat):List Int:=[d.i 0,d.i 1,d.i 2,d.i 3]
def j7 (d:Dat):List Int:=[d.i 0,d.i 1,d.i 2]
def lW (ra:bM) (aZ:List Dat) (rb:bF) (next:Int):List Int:=[bI ra.call,ra.period,ra.mode,ra.ar,ra.fH,ra.aM,ra.aT,ra.draw,ra.advance,ra.fee,ra.due,rb.dz,rb.aJ,rb.bC,rb.out,rb.vH,next,(aZ.length:Int)]
def mz (ra:bM) (aZ:List Dat) (rb:bF) (notes:List Dat) (next:Int):List Int:=lW ra aZ rb next++(aZ.flatMap eP++((notes.length:Int)::notes.flatMap j7))
def gz (ra:bM) (aZ:List Dat) (rb:bF) (notes:List Dat) (next:Int):List Int:=bif eT ra aZ rb notes next then cF (mz ra aZ rb notes next)else[]
def N99:aC:=⟨T61.tab,99,⟨[.agg [.bool,.int .i64,.int .i64,.int .i64,.int .i64,.int .i64,.int .i64,.int .i64,.int .i64,.int .i64,.int .i64,.af (sI 4),.int .i64,.int .i64,.int .i64,.int .i64,.int .i64,.af (sI 3),.int .i64]],[],0⟩,⟨[.buf 0 1],[.ints .u8],0⟩,[]⟩
abbrev H7:Type:=List Dat × Int × Int × List Int
abbrev Is:Type:=List Dat × Int × Int × bM × List Dat × bF × List Dat × Int × List Int
def B5 (m:Nat) (k:H7->Option (List Un)):H7->Option (List Un):=fun(a0,a1,a2,a3)=>
 bif decide (a2<a1)then
 chk (inb a2 a0.length)<|
 chk (decide (a2.toNat<a0.length))<|
 lt (ag a0 a2.toNat:Dat) fun d4=>
 chk (fits (a3.length+3) 8)<|
 k (a0,a1,(w64 (a2+1)),(a3++([(d4.i 0),(d4.i 1),(d4.i 2)])))
 else
 chk (decide (a3.length<=1000000))<|
 some ([.l (cF a3)])
def AN (m:Nat):Nat->H7->Option (List Un):=bq (B5 m)
theorem xt (m:Nat) (n:Nat):AN m (n+1)=B5 m (AN m n):=rfl
def Nh (F:H7->Option (List Un)):aU:=⟨[.lp [0,1,0,1,1,1,1,1,1,1,1],.blk 2,.code [1,1,1,1,1,1,1,1,1]],⟨frm 69 [(4,.buf 0 1),(57,.af (sI 3)),(58,.int .i64),(59,.int .i64)],[.ints .i64],0⟩,onU F⟩
def BO (m:Nat) (k:Is->Option (List Un)):Is->Option (List Un):=fun(a0,a1,a2,a3,a4,a5,a6,a7,a8)=>
 bif decide (a2<a1)then
 chk (inb a2 a0.length)<|
 chk (decide (a2.toNat<a0.length))<|
 lt (ag a0 a2.toNat:Dat) fun d1=>
 chk (fits (a8.length+4) 8)<|
 k (a0,a1,(w64 (a2+1)),a3,a4,a5,a6,a7,(a8++([(d1.i 0),(d1.i 1),(d1.i 2),(d1.i 3)])))
 else
 chk (fits (a8.length+1) 8)<|
 AN m m (a6,(a6.length:Int),0,(a8++([(a6.length:Int)])))
def uO (m:Nat):Nat->Is->Option (List Un):=bq (BO m)
theorem xR (m:Nat) (n:Nat):uO m (n+1)=BO m (uO m n):=rfl
def NM (F:Is->Option (List Un)):aU:=⟨[.lp [0,1,0,1,1,1,1,1,1],.blk 0,.code [1,1,1,1,1,1,1]],⟨frm 69 [(1,.ptr 0 0 0),(4,.buf 1 1),(32,.af (sI 4)),(33,.int .i64),(34,.int .i64)],[.cells [.bool,.int .i64,.int .i64,.int .i64,.int .i64,.int .i64,.int .i64,.int .i64,.int .i64,.int .i64,.int .i64,.af (sI 4),.int .i64,.int .i64,.int .i64,.int .i64,.int .i64,.af (sI 3),.int .i64],.ints .i64],0⟩,onU F⟩
theorem XK (m:Nat):∀n,HO N99 (Nh (AN m n)):=au ae T61.right (fun k=>[Nh k]) (fun k h=>(aH h aB)) fun k a=>by kernel_rfl
theorem XW (m:Nat):∀n,HO N99 (NM (uO m n)):=au ae T61.right (fun k=>[NM k,Nh (AN m m)]) (fun k h=>(aH h (aH (XK m m) aB))) fun k a=>by kernel_rfl
def t99 (m:Nat):bM × List Dat × bF × List Dat × Int->Option (List Un):=fun(a0,a1,a2,a3,a4)=>
 chk (decide (a1.length<=1000000)&&decide (a3.length<=1000000))<|
 bif !(eT a0 a1 a2 a3 a4)then
 some ([.l ([])])
 else
 bif a0.call then
 uO m m (a1,(a1.length:Int),0,a0,a1,a2,a3,a4,([1,a0.period,a0.mode,a0.ar,a0.fH,a0.aM,a0.aT,a0.draw,a0.advance,a0.fee,a0.due,a2.dz,a2.aJ,a2.bC,a2.out,a2.vH,a4,(a1.length:Int)]:List Int))
 else
 uO m m (a1,(a1.length:Int),0,a0,a1,a2,a3,a4,([0,a0.period,a0.mode,a0.ar,a0.fH,a0.aM,a0.aT,a0.draw,a0.advance,a0.fee,a0.due,a2.dz,a2.aJ,a2.bC,a2.out,a2.vH,a4,(a1.length:Int)]:List Int))
theorem Zc (m:Nat):∀(rest pre:List Dat) (acc:List Int) (n:Nat),rest.length<n->(pre++rest).length<=8->acc.length+3*rest.length<=1000->AN m n (pre++rest,((pre++rest).length:Int),(pre.length:Int),acc)=some [.l (cF (acc++rest.flatMap j7))]:=by
 intro rest
 induction rest with
 |nil=>
  intro pre acc n hn hl ha;obtain⟨n,rfl⟩:=ak n (by simp at hn;omega);rw[xt];unfold B5;dsimp only;rw[az (by simp)];refine(av (zaa (by simp at ha;omega)) rfl).trans ?_
  simp
 |cons x rest ih=>
  intro pre acc n hn hl ha;obtain⟨n,rfl⟩:=ak n (by simp at hn;omega);simp only[zac,zab]at hn hl ha;rw[xt];unfold B5;dsimp only;rw[aQ (by simp only[zab,zac];omega),cJ (by omega) (by simp only[zab,zac];omega),aP (by simp)];have hx:ag (pre++x::rest) (pre.length:Int).toNat=x:=by simp[ag]
  have:=ih (pre++[x]) (acc++j7 x) n (by omega) (by simp;omega) (by simp[j7];omega);have e:w64 ((pre.length:Int)+1)=((pre++[x]).length:Int):=by
   rw[ab (by omega) (by omega)];simp
  have e3:pre++x::rest=(pre++[x])++rest:=by simp
  rw[hx];dsimp only[lt];rw[bL (by omega) (by omega),e,e3];refine Eq.trans this ?_
  simp
theorem Xz (m:Nat) (ra:bM) (xp:List Dat) (rb:bF) (notes:List Dat) (xn:Int) (hm:notes.length<m) (h8:notes.length<=8):∀(rest pre:List Dat) (acc:List Int) (n:Nat),rest.length<n->(pre++rest).length<=160->acc.length+4*rest.length<=700->uO m n (pre++rest,((pre++rest).length:Int),(pre.length:Int),ra,xp,rb,notes,xn,acc)=some [.l (cF (acc++(rest.flatMap eP++((notes.length:Int)::notes.flatMap j7))))]:=by
 intro rest
 induction rest with
 |nil=>
  intro pre acc n hn hl ha;obtain⟨n,rfl⟩:=ak n (by simp at hn;omega);rw[xR];unfold BO;dsimp only;rw[az (by simp)];simp only[zar]at ha;rw[bL (by omega) (by omega)];have:=Zc m notes [] (acc++[(notes.length:Int)]) m hm (by simpa using h8) (by simp;omega);refine Eq.trans this ?_
  simp
 |cons x rest ih=>
  intro pre acc n hn hl ha;obtain⟨n,rfl⟩:=ak n (by simp at hn;omega);simp only[zac,zab]at hn hl ha;rw[xR];unfold BO;dsimp only;rw[aQ (by simp only[zab,zac];omega),cJ (by omega) (by simp only[zab,zac];omega),aP (by simp)];have hx:ag (pre++x::rest) (pre.length:Int).toNat=x:=by simp[ag]
  have:=ih (pre++[x]) (acc++eP x) n (by omega) (by simp;omega) (by simp[eP];omega);have e:w64 ((pre.length:Int)+1)=((pre++[x]).length:Int):=by
   rw[ab (by omega) (by omega)];simp
  have e3:pre++x::rest=(pre++[x])++rest:=by simp
  rw[hx];dsimp only[lt];rw[bL (by omega) (by omega),e,e3];refine Eq.trans this ?_
  simp
def f99:bM × List Dat × bF × List Dat × Int->Bool × List Un:=fun(a0,a1,a2,a3,a4)=>(decide (a1.length<=1000000)&&decide (a3.length<=1000000),[.l (gz a0 a1 a2 a3 a4)])
theorem V7 (a0:bM) (a1:List Dat) (a2:bF) (a3:List Dat) (a4:Int) (hc:(decide (a1.length<=1000000)&&decide (a3.length<=1000000))=true):∃m,t99 m (a0,a1,a2,a3,a4)=some ([.l (gz a0 a1 a2 a3 a4)]):=by
 refine⟨200, ?_⟩;unfold t99 gz;refine av hc ?_
 cases hr:eT a0 a1 a2 a3 a4 with
 |false=>rfl
 |true=>
  have hb:a1.length<=160/\a3.length<=8:=by
   unfold eT at hr;simp only[zae,zaf]at hr;omega
  have key:∀c:Int,uO 200 200 (a1,(a1.length:Int),0,a0,a1,a2,a3,a4,([c,a0.period,a0.mode,a0.ar,a0.fH,a0.aM,a0.aT,a0.draw,a0.advance,a0.fee,a0.due,a2.dz,a2.aJ,a2.bC,a2.out,a2.vH,a4,(a1.length:Int)]:List Int))=some [.l (cF (([c,a0.period,a0.mode,a0.ar,a0.fH,a0.aM,a0.aT,a0.draw,a0.advance,a0.fee,a0.due,a2.dz,a2.aJ,a2.bC,a2.out,a2.vH,a4,(a1.length:Int)]:List Int)++(a1.flatMap eP++((a3.length:Int)::a3.flatMap j7))))]:=fun c=>
   Xz 200 a0 a1 a2 a3 a4 (by omega) hb.2 a1 [] _ 200 (by omega) (by simpa using hb.1) (by simp;omega)
  refine dV rfl ?_
  unfold mz lW;cases hcall:a0.call with
  |true=>exact key 1
  |false=>exact key 0
theorem QG:ER 99 (mkE N99.en N99.ex f99):=an ae T61.right (fun m=>[NM (uO m m)]) (t:=t99) (by kernel_rfl) (fun m=>(aH (XW m m) aB)) (fun m a=>by kernel_rfl) fun(a0,a1,a2,a3,a4) hc=>V7 a0 a1 a2 a3 a4 hc
def T99:Tb Tryz.prog LQ TE XX:=T61.add 99 _ QG
structure Jv where
 ra:bM
 rb:bF
 next:Int
 ok:Bool
 aZ:List Dat
 notes:List Dat
def Mr:Jv:=⟨⟨false,0,0,0,0,0,0,0,0,0,0⟩,⟨0,0,0,0,0⟩,0,false,[],[]⟩
def vN (l:List Int):Jv:=
 let r:=eO 0 (l.length:Int) false l
 bif !r.r.bad&&r.r.n==0 then(bif eT r.ra r.aZ r.rb r.notes r.next then⟨r.ra,r.rb,r.next,true,r.aZ,r.notes⟩else Mr)else Mr
def dZ (xs:List Int):Jv:=bif xs.length%8==0 then vN (bT xs)else Mr
def N19:aC:=⟨T99.tab,19,⟨[.ints .u8],[],0⟩,⟨[.agg [.bool,.int .i64,.int .i64,.int .i64,.int .i64,.int .i64,.int .i64,.int .i64,.int .i64,.int .i64,.int .i64,.buf 0 4,.int .i64,.int .i64,.int .i64,.int .i64,.int .i64,.buf 1 3,.int .i64],.bool],[.af (sI 4),.af (sI 3)],0⟩,[]⟩
def t19 (m:Nat):List Int->Option (List Un):=fun a0=>
 chk (decide (a0.length<=140737488351232))<|
 bif !(a0.length%8==0)then
 some (Uns.enc ((⟨false,0,0,0,0,0,0,0,0,0,0⟩:bM):bM)++Uns.enc ((⟨0,0,0,0,0⟩:bF):bF)++[.i 0,.b false,.d ([]),.d ([])])
 else
 chk (decide ((eV a0).length<1000000))<|
 lt (((eV a0).length:Int):Int) fun x1=>
 chk (decide ((0:Int).toNat+(x1.toNat:Int).toNat<=(eV a0).length))<|
 bd ((eO 0 (x1.toNat:Int) false (eV a0)):IJ) fun r2=>
 bif !(!r2.r.bad&&((r2.r.n.toNat:Int).toNat:Int)==0)then
 some (Uns.enc ((⟨false,0,0,0,0,0,0,0,0,0,0⟩:bM):bM)++Uns.enc ((⟨0,0,0,0,0⟩:bF):bF)++[.i 0,.b false,.d ([]),.d ([])])
 else
 chk (decide (r2.aZ.length<=1000000)&&decide (r2.notes.length<=1000000))<|
 bif !(eT r2.ra r2.aZ r2.rb r2.notes r2.next)then
 some (Uns.enc ((⟨false,0,0,0,0,0,0,0,0,0,0⟩:bM):bM)++Uns.enc ((⟨0,0,0,0,0⟩:bF):bF)++[.i 0,.b false,.d ([]),.d ([])])
 else
 some (Uns.enc (r2.ra:bM)++Uns.enc (r2.rb:bF)++[.i r2.next,.b true,.d r2.aZ,.d r2.notes])
theorem pN (xs:List Int):(bT xs).length=xs.length/8:=by simp[bT]
theorem Bc:∀(k:Nat) (r:RdR),(lL k r).1.length=k
 |0,r=>rfl
 |k+1,r=>by simp only[lL,zac,Bc k]
theorem AH:∀(k:Nat) (r:RdR),(eJ k r).1.length=k
 |0,r=>rfl
 |k+1,r=>by simp only[eJ,zac,AH k]
theorem SL {o n:Int} {b:Bool} {l:List Int} (h:o.toNat+n.toNat<=l.length):RdI (eO o n b l).r/\(eO o n b l).aZ.length<=160/\(eO o n b l).notes.length<=8:=by
 have i1:RdI (rdM o n b l 1):=MN h;have i17:=bD (bD (bD (bD (bD (bD (bD (bD (bD (bD (bD (bD (bD (bD (bD (bD i1)))))))))))))));have i18:=tE (most:=160) i17;unfold eO;dsimp only;generalize nx (nx (nx (nx (nx (nx (nx (nx (nx (nx (nx (nx (nx (nx (nx (nx (rdM o n b l 1))))))))))))))))=r17 at*
 have hv:0<=(mx r17 160).v/\(mx r17 160).v<=160:=Fg (by decide);have iP:=IG (mx r17 160).v.toNat i18;have i24:=tE (most:=8) iP;have hw:0<=(mx (lL (mx r17 160).v.toNat (mx r17 160)).2 8).v/\(mx (lL (mx r17 160).v.toNat (mx r17 160)).2 8).v<=8:=Fg (by decide);refine⟨BC _ i24, ?_, ?_⟩
 . rw[Bc];omega
 . rw[AH];omega
def f19:List Int->Bool × List Un:=fun a0=>(decide (a0.length<=1000000),Uns.enc (((dZ a0).ra):bM)++Uns.enc (((dZ a0).rb):bF)++[.i ((dZ a0).next),.b ((dZ a0).ok),.d ((dZ a0).aZ),.d ((dZ a0).notes)])
theorem UB (a0:List Int) (hc:(decide (a0.length<=1000000))=true):∃m,t19 m a0=some (Uns.enc (((dZ a0).ra):bM)++Uns.enc (((dZ a0).rb):bF)++[.i ((dZ a0).next),.b ((dZ a0).ok),.d ((dZ a0).aZ),.d ((dZ a0).notes)]):=by
 have hl:=zaj hc;refine⟨0, ?_⟩;unfold t19 dZ;refine av (zaa (by omega)) ?_
 cases h8:(a0.length%8==0)with
 |false=>rfl
 |true=>
  have e:eV a0=bT a0:=by unfold eV;rw[h8];rfl
  rw[e];have hw:=pN a0;refine dV rfl (av (zaa (by omega)) ?_);dsimp only[lt,bd];refine av (zaa (by simp)) ?_
  rw[show(((bT a0).length:Int).toNat:Int)=((bT a0).length:Int) from rfl];obtain⟨hI,hp,hn⟩:=SL (o:=0) (n:=((bT a0).length:Int)) (b:=false) (l:=bT a0) (by simp);rw[zaw];unfold vN;dsimp only;generalize eO 0 ((bT a0).length:Int) false (bT a0)=r at*
  rw[show((r.r.n.toNat:Int).toNat:Int)=r.r.n from hI.2.1];cases hb:(!r.r.bad&&r.r.n==0)with
  |false=>rfl
  |true=>
   refine dV rfl (av (zas.2 ⟨zaa (by omega),zaa (by omega)⟩) ?_);cases hr:eT r.ra r.aZ r.rb r.notes r.next with
   |false=>rfl
   |true=>rfl
theorem IQ:ER 19 (mkE N19.en N19.ex f19):=an ae T99.right (fun m=>[]) (t:=t19) (by kernel_rfl) (fun m=>aB) (fun m a=>by kernel_rfl) fun a0 hc=>UB a0 hc
def T19:Tb Tryz.prog LQ TE XX:=T99.add 19 _ IQ
def ZK:Jv->List Un:=fun r=>Uns.enc (r.ra:bM)++Uns.enc (r.rb:bF)++[.i r.next,.b r.ok,.d r.aZ,.d r.notes]
def ZP:List Int->Bool × Jv:=fun a0=>(decide (a0.length<=1000000),(dZ a0))
theorem Nq:ER 19 (mkB N19.en N19.ex ZP ZK):=rebind IQ fun a0=>rfl
def aan:Tb Tryz.prog LQ TE XX:=T19.add 19 _ Nq
theorem HR (a c:Nat) (h:c<256):(256*a)|||c=256*a+c:=by
 have:=Nat.two_pow_add_eq_or_of_lt (i:=8) (b:=c) (by simpa using h) a;simpa using this.symm
theorem oP (n c:Int) (h0:0<=c) (h1:c<256):Iw.stp n c=RowKit.wrap64 (n*256+c):=by
 unfold Iw.stp Go.bits;simp only[RowKit.wrap64];rw[IntKind.wrap_i64,BitVec.toNat_or,zbI,zbI];rw[show((2^IntKind.i64.bits:Nat):Int)=18446744073709551616 from rfl];have e1:(((n*256+9223372036854775808)%18446744073709551616-9223372036854775808)%18446744073709551616).toNat=256*(n%72057594037927936).toNat:=by omega
 have e2:(((c+9223372036854775808)%18446744073709551616-9223372036854775808)%18446744073709551616).toNat=c.toNat:=by omega
 rw[e1,e2,HR _ _ (by omega)];omega
theorem Ny {n:Int} (h: -9223372036854775808<=n/\n<=9223372036854775807) (f:Nat->Int) (hf:∀i,i<8->f i=(ow n).getD i 0):Iw.val f 8=n:=by
 have b0:=hf 0 (by decide);have b1:=hf 1 (by decide);have b2:=hf 2 (by decide);have b3:=hf 3 (by decide);have b4:=hf 4 (by decide);have b5:=hf 5 (by decide);have b6:=hf 6 (by decide);have b7:=hf 7 (by decide);simp only[ow,zaO,zaD]at b0 b1 b2 b3 b4 b5 b6 b7;have u8:∀x:Int,wu8 x=x%256:=fun x=>by show IntKind.u8.wrap x=_;simp[IntKind.wrap,IntKind.bits,IntKind.signed]
 rw[u8]at b0 b1 b2 b3 b4 b5 b6 b7;have fd:∀(x k:Int),0<k->Int.fdiv x k=x/k:=fun x k hk=>Int.fdiv_eq_ediv_of_nonneg _ (by omega)
 rw[fd _ _ (by decide)]at b0 b1 b2 b3 b4 b5 b6 b7;simp only[Iw.val,b0,b1,b2,b3,b4,b5,b6,b7];rw[oP _ _ (by omega) (by omega),oP _ _ (by omega) (by omega),oP _ _ (by omega) (by omega),oP _ _ (by omega) (by omega),oP _ _ (by omega) (by omega),oP _ _ (by omega) (by omega),oP _ _ (by omega) (by omega),oP _ _ (by omega) (by omega)];simp only[RowKit.wrap64];omega
theorem pF (n:Int):(ow n).length=8:=rfl
theorem gq (l:List Int):(cF l).length=8*l.length:=by
 induction l with
 |nil=>rfl
 |cons x l ih=>simp only[cF,zaZ,zab,pF,zac]at ih⊢;omega
theorem Am:∀(l:List Int) (k i:Nat),k<l.length->i<8->(cF l).getD (k*8+i) 0=(ow (l.getD k 0)).getD i 0
 |[],k,i,h,_=>by simp at h
 |x::l,0,i,_,hi=>by
  simp only[cF,zaZ,zb4,zaC,zag,zbp,zbx];rw[zax (by rw[pF];exact hi)]
 |x::l,k+1,i,h,hi=>by
  have:=Am l k i (by simpa using h) hi;simp only[cF,zaZ,zaD,zag]at this⊢;rw[zaJ (by rw[pF];omega),pF,show(k+1)*8+i-8=k*8+i by omega];exact this
theorem sU {l:List Int} (h:∀n∈l,-9223372036854775808<=n/\n<=9223372036854775807):bT (cF l)=l:=by
 have hl:(cF l).length/8=l.length:=by rw[gq];omega
 apply List.ext_getElem
 . rw[pN,hl]
 . intro k h1 h2;have e0:(bT (cF l))[k]=Iw.val (fun i=>(cF l).getD (k*8+i) 0) 8:=by simp[bT]
   rw[e0];have e:=Ny (h l[k] (zbD h2)) (fun i=>(cF l).getD (k*8+i) 0) (fun i hi=>by
    show(cF l).getD (k*8+i) 0=_;rw[Am l k i h2 hi];simp[h2])
   exact e
def rdS (l:List Int) (k:Nat) (v:Int):RdR:=⟨v,(k:Int),((l.length-k:Nat):Int),false,l⟩
theorem yG {l:List Int} {k:Nat} (v:Int) (h:k<l.length):nx (rdS l k v)=rdS l (k+1) (l.getD k 0):=by
 unfold nx rdN rdS;have e:(((((l.length-k:Nat):Int).toNat:Nat):Int)==0)=false:=by
  rw[zbR];simp;omega
 rw[zb7,e,zal];simp only[zay];rw[show l.length-k-1=l.length-(k+1) by omega]
theorem PG {l:List Int} {k:Nat} (v most:Int) (h:k<l.length) (h0:0<=l.getD k 0) (h1:l.getD k 0<=most):mx (rdS l k v) most=rdS l (k+1) (l.getD k 0):=by
 have:=yG v h;unfold nx at this;unfold mx rdM;dsimp only;rw[this];rw[show(rdS l (k+1) (l.getD k 0)).v=l.getD k 0 from rfl,zap (show ¬l.getD k 0<0 by omega),zap (show ¬l.getD k 0>most by omega)];rfl
def nrP (d:Dat):Dat:= .r [.n (d.i 0),.n (d.i 1),.n (d.i 2),.n (d.i 3)]
def nrN (d:Dat):Dat:= .r [.n (d.i 0),.n (d.i 1),.n (d.i 2)]
theorem bK (A:List Int) (x:Int) (B:List Int):(A++x::B).getD A.length 0=x:=by simp
theorem Jr (l:List Int):∀(aZ:List Dat) (A B:List Int) (v:Int),l=A++(aZ.flatMap eP++B)->∃v',lL aZ.length (rdS l A.length v)=(aZ.map nrP,rdS l (A.length+4*aZ.length) v')
 |[],A,B,v,_=>⟨v,rfl⟩
 |d::aZ,A,B,v,h=>by
  have hl:l=A++(d.i 0::d.i 1::d.i 2::d.i 3::(aZ.flatMap eP++B)):=by rw[h];simp[eP]
  have hlen:l.length=A.length+4+(aZ.flatMap eP++B).length:=by rw[hl];simp only[zab,zac];omega
  have g0:l.getD A.length 0=d.i 0:=by rw[hl];exact bK _ _ _
  have g1:l.getD (A.length+1) 0=d.i 1:=by
   rw[hl,show A++(d.i 0::d.i 1::d.i 2::d.i 3::(aZ.flatMap eP++B))=(A++[d.i 0])++(d.i 1::d.i 2::d.i 3::(aZ.flatMap eP++B)) by simp];rw[show A.length+1=(A++[d.i 0]).length by simp];exact bK _ _ _
  have g2:l.getD (A.length+1+1) 0=d.i 2:=by
   rw[hl,show A++(d.i 0::d.i 1::d.i 2::d.i 3::(aZ.flatMap eP++B))=(A++[d.i 0,d.i 1])++(d.i 2::d.i 3::(aZ.flatMap eP++B)) by simp];rw[show A.length+1+1=(A++[d.i 0,d.i 1]).length by simp];exact bK _ _ _
  have g3:l.getD (A.length+1+1+1) 0=d.i 3:=by
   rw[hl,show A++(d.i 0::d.i 1::d.i 2::d.i 3::(aZ.flatMap eP++B))=(A++[d.i 0,d.i 1,d.i 2])++(d.i 3::(aZ.flatMap eP++B)) by simp];rw[show A.length+1+1+1=(A++[d.i 0,d.i 1,d.i 2]).length by simp];exact bK _ _ _
  obtain⟨v',ih⟩:=Jr l aZ (A++eP d) B (d.i 3) (by rw[h];simp);rw[show(A++eP d).length=A.length+1+1+1+1 by simp[eP]]at ih;refine⟨v', ?_⟩;simp only[zac,lL];rw[yG v (by omega),g0,yG _ (by omega),g1,yG _ (by omega),g2,yG _ (by omega),g3,ih];simp only[zaS,nrP];rw[show A.length+1+1+1+1+4*aZ.length=A.length+4*(aZ.length+1) by omega];rfl
theorem It (l:List Int):∀(ns:List Dat) (A B:List Int) (v:Int),l=A++(ns.flatMap j7++B)->∃v',eJ ns.length (rdS l A.length v)=(ns.map nrN,rdS l (A.length+3*ns.length) v')
 |[],A,B,v,_=>⟨v,rfl⟩
 |d::ns,A,B,v,h=>by
  have hl:l=A++(d.i 0::d.i 1::d.i 2::(ns.flatMap j7++B)):=by rw[h];simp[j7]
  have hlen:l.length=A.length+3+(ns.flatMap j7++B).length:=by rw[hl];simp only[zab,zac];omega
  have g0:l.getD A.length 0=d.i 0:=by rw[hl];exact bK _ _ _
  have g1:l.getD (A.length+1) 0=d.i 1:=by
   rw[hl,show A++(d.i 0::d.i 1::d.i 2::(ns.flatMap j7++B))=(A++[d.i 0])++(d.i 1::d.i 2::(ns.flatMap j7++B)) by simp];rw[show A.length+1=(A++[d.i 0]).length by simp];exact bK _ _ _
  have g2:l.getD (A.length+1+1) 0=d.i 2:=by
   rw[hl,show A++(d.i 0::d.i 1::d.i 2::(ns.flatMap j7++B))=(A++[d.i 0,d.i 1])++(d.i 2::(ns.flatMap j7++B)) by simp];rw[show A.length+1+1=(A++[d.i 0,d.i 1]).length by simp];exact bK _ _ _
  obtain⟨v',ih⟩:=It l ns (A++j7 d) B (d.i 2) (by rw[h];simp);rw[show(A++j7 d).length=A.length+1+1+1 by simp[j7]]at ih;refine⟨v', ?_⟩;simp only[zac,eJ];rw[yG v (by omega),g0,yG _ (by omega),g1,yG _ (by omega),g2,ih];simp only[zaS,nrN];rw[show A.length+1+1+1+3*ns.length=A.length+3*(ns.length+1) by omega];rfl
theorem EL {ra:bM} {aZ:List Dat} {rb:bF} {notes:List Dat} {next:Int} (hr:eT ra aZ rb notes next=true):vN (mz ra aZ rb notes next)=⟨ra,rb,next,true,aZ.map nrP,notes.map nrN⟩:=by
 have hb:aZ.length<=160/\notes.length<=8:=by
  unfold eT at hr;simp only[zae,zaf]at hr;omega
 generalize hl:mz ra aZ rb notes next=l;have hlen:l.length=18+(4*aZ.length+(1+3*notes.length)):=by
  have h1:∀p:List Dat,(p.flatMap eP).length=4*p.length:=fun p=>by
   induction p with
   |nil=>rfl
   |cons x p ih=>simp only[zaZ,zab,ih,eP,zac,zar];omega
  have h2:∀p:List Dat,(p.flatMap j7).length=3*p.length:=fun p=>by
   induction p with
   |nil=>rfl
   |cons x p ih=>simp only[zaZ,zab,ih,j7,zac,zar];omega
  rw[<-hl];simp only[mz,lW,zab,zac,zar,h1,h2];omega
 have s0:(⟨0,0,(l.length:Int),false,l⟩:RdR)=rdS l 0 0:=rfl;have hd:∀i,i<18->l.getD i 0=(lW ra aZ rb next).getD i 0:=fun i hi=>by
  rw[<-hl];unfold mz;simp only[zag];rw[zax (by simpa[lW]using hi)]
 have m1:rdM 0 (l.length:Int) false l 1=rdS l 1 (bI ra.call):=by
  have e:l.getD 0 0=bI ra.call:=hd 0 (by omega);have:=PG (l:=l) (k:=0) 0 1 (by omega) (by rw[e];cases ra.call<;>decide) (by rw[e];cases ra.call<;>decide);rw[e]at this;exact this
 have nxk:∀(k:Nat) (v:Int),k<18->nx (rdS l k v)=rdS l (k+1) ((lW ra aZ rb next).getD k 0):=fun k v hk=>by rw[yG v (by omega),hd k hk]
 have m18:mx (rdS l 17 next) 160=rdS l 18 (aZ.length:Int):=by
  have e:l.getD 17 0=(aZ.length:Int):=hd 17 (by omega);have:=PG (l:=l) (k:=17) next 160 (by omega) (by rw[e];omega) (by rw[e];omega)
  rwa [e]at this
 have h1:∀p:List Dat,(p.flatMap eP).length=4*p.length:=fun p=>by
  induction p with
  |nil=>rfl
  |cons x p ih=>simp only[zaZ,zab,ih,eP,zac,zar];omega
 obtain⟨v1,p1⟩:=Jr l aZ (lW ra aZ rb next) ((notes.length:Int)::notes.flatMap j7) (aZ.length:Int) hl.symm;have p1:lL aZ.length (rdS l 18 (aZ.length:Int))=(aZ.map nrP,rdS l (18+4*aZ.length) v1):=p1;have hA:(lW ra aZ rb next++aZ.flatMap eP).length=18+4*aZ.length:=by rw[zab,h1];rfl
 have m24:mx (rdS l (18+4*aZ.length) v1) 8=rdS l (18+4*aZ.length+1) (notes.length:Int):=by
  have e:l.getD (18+4*aZ.length) 0=(notes.length:Int):=by
   rw[<-hl];unfold mz;rw[show lW ra aZ rb next++(aZ.flatMap eP++(notes.length:Int)::notes.flatMap j7)=(lW ra aZ rb next++aZ.flatMap eP)++(notes.length:Int)::notes.flatMap j7 by simp,<-hA];exact bK _ _ _
  have:=PG (l:=l) (k:=18+4*aZ.length) v1 8 (by omega) (by rw[e];omega) (by rw[e];omega)
  rwa [e]at this
 obtain⟨v2,p2⟩:=It l notes (lW ra aZ rb next++aZ.flatMap eP++[(notes.length:Int)]) [] (notes.length:Int) (by rw[<-hl];simp[mz]);rw[zab,hA]at p2;have p2:eJ notes.length (rdS l (18+4*aZ.length+1) (notes.length:Int))=(notes.map nrN,rdS l (18+4*aZ.length+1+3*notes.length) v2):=p2;have key:eO 0 (l.length:Int) false l=⟨ra,rb,next,aZ.map nrP,notes.map nrN,rdS l (18+4*aZ.length+1+3*notes.length) v2⟩:=by
  unfold eO Ez;dsimp only;rw[m1];simp(disch:=omega) only[nxk,Nat.reduceAdd];rw[show(lW ra aZ rb next).getD 16 0=next from rfl,m18];rw[show(rdS l 18 (aZ.length:Int)).v.toNat=aZ.length from rfl,p1];dsimp only;rw[m24];rw[show(rdS l (18+4*aZ.length+1) (notes.length:Int)).v.toNat=notes.length from rfl,p2];have hc:((rdS l 1 (bI ra.call)).v==1)=ra.call:=by cases h:ra.call<;>simp[rdS,bI,h]
  rw[hc];rfl
 have hq:∀d:Dat,(nrP d).i 0=d.i 0/\(nrP d).i 1=d.i 1/\(nrP d).i 2=d.i 2/\(nrP d).i 3=d.i 3:=fun d=>⟨rfl,rfl,rfl,rfl⟩
 have hr2:eT ra (aZ.map nrP) rb (notes.map nrN) next=true:=by
  unfold eT at hr⊢;have a1:(aZ.map nrP).all xo=aZ.all xo:=by
   rw[List.all_map];rfl
  have a2:(notes.map nrN).all vr=notes.all vr:=by
   rw[List.all_map];rfl
  rw[zaW,zaW,a1,a2];exact hr
 unfold vN;rw[key];dsimp only;have hn:(rdS l (18+4*aZ.length+1+3*notes.length) v2).n=0:=by
  show((l.length-(18+4*aZ.length+1+3*notes.length):Nat):Int)=0;omega
 rw[hn,hr2];rfl
theorem AG:∀(a b:List Int),lM a b=true↔a=b
 |[],[]=>by simp[lM]
 |[],_::_=>by simp[lM]
 |_::_,[]=>by simp[lM]
 |x::a,y::b=>by
  have ih:=AG a b;simp only[lM,zae,ih,zaE,List.cons.injEq]
theorem GP {ra:bM} {aZ:List Dat} {rb:bF} {notes:List Dat} {next:Int} (hr:eT ra aZ rb notes next=true):∀n∈mz ra aZ rb notes next,-9223372036854775808<=n/\n<=9223372036854775807:=by
 unfold eT yC at hr;simp only[List.all_cons,List.all_nil,zT,zae,zaf,zao]at hr;obtain⟨h1,h2,h3,h4,h5,h6,⟨q1,q2,q3,q4,q5,q6,q7,q8,q9,q10,q11,q12,q13,_⟩,h8,h9,h10,h11⟩:=hr;have hb:0<=bI ra.call/\bI ra.call<=1:=by cases ra.call<;>decide
 intro n hn;unfold mz lW at hn;simp only[zbe,zaT,List.mem_flatMap,List.not_mem_nil,or_false]at hn;rcases hn with(rfl|rfl|rfl|rfl|rfl|rfl|rfl|rfl|rfl|rfl|rfl|rfl|rfl|rfl|rfl|rfl|rfl|rfl)|⟨d,hd,hn⟩|rfl|⟨d,hd,hn⟩
 all_goals try omega
 . have hp:=h10 d hd;unfold xo at hp;simp only[zae,zaf]at hp;simp only[eP,zaT,List.not_mem_nil,or_false]at hn;rcases hn with rfl|rfl|rfl|rfl<;>omega
 . have hp:=h11 d hd;unfold vr at hp;simp only[List.all_cons,List.all_nil,zT,zae,zaf]at hp;simp only[j7,zaT,List.not_mem_nil,or_false]at hn;rcases hn with rfl|rfl|rfl<;>omega
theorem decode_encode {ra:bM} {aZ:List Dat} {rb:bF} {notes:List Dat} {next:Int} (hr:eT ra aZ rb notes next=true):dZ (gz ra aZ rb notes next)=⟨ra,rb,next,true,aZ.map nrP,notes.map nrN⟩:=by
 unfold gz;rw[hr,zaw];unfold dZ;have hl:=gq (mz ra aZ rb notes next);have e:((cF (mz ra aZ rb notes next)).length%8==0)=true:=by rw[zaE];omega
 rw[e,zaw,sU (GP hr)];exact EL hr
theorem Gr {ra:bM} {aZ:List Dat} {rb:bF} {notes:List Dat} {next:Int} (hr:eT ra aZ rb notes next=false):gz ra aZ rb notes next=[]:=by unfold gz;rw[hr];rfl
theorem BS {ra:bM} {aZ:List Dat} {rb:bF} {notes:List Dat} {next:Int} (hr:eT ra aZ rb notes next=true):0<(gz ra aZ rb notes next).length/\(gz ra aZ rb notes next).length<=6000:=by
 have hb:aZ.length<=160/\notes.length<=8:=by
  unfold eT at hr;simp only[zae,zaf]at hr;omega
 unfold gz;rw[hr,zaw,gq];have h1:∀p:List Dat,(p.flatMap eP).length=4*p.length:=fun p=>by
  induction p with
  |nil=>rfl
  |cons x p ih=>simp only[zaZ,zab,ih,eP,zac,zar];omega
 have h2:∀p:List Dat,(p.flatMap j7).length=3*p.length:=fun p=>by
  induction p with
  |nil=>rfl
  |cons x p ih=>simp only[zaZ,zab,ih,j7,zac,zar];omega
 simp only[mz,lW,zab,zac,zar,h1,h2];omega
def Zw:Int × List Dat × ao × aq × ai × List Dat × List Dat × List Dat × List Dat × List Dat × List Dat × List Dat->Bool × List Un:=fun(a0,a1,a2,a3,a4,a5,a6,a7,a8,a9,a10,a11)=>(decide (0<=a0)&&dX (⟨a2,a3,a4,a5,a6,a7,a8,a9,a10,a11⟩:aa),Uns.enc ((aG (⟨a2,a3,a4,a5,a6,a7,a8,a9,a10,a11⟩:aa) a1).ra:bM)++[.d ((aG (⟨a2,a3,a4,a5,a6,a7,a8,a9,a10,a11⟩:aa) a1).aZ)]++Uns.enc ((aG (⟨a2,a3,a4,a5,a6,a7,a8,a9,a10,a11⟩:aa) a1).rb:bF)++[.d ((aG (⟨a2,a3,a4,a5,a6,a7,a8,a9,a10,a11⟩:aa) a1).notes),.i ((aG (⟨a2,a3,a4,a5,a6,a7,a8,a9,a10,a11⟩:aa) a1).next),.i ((aG (⟨a2,a3,a4,a5,a6,a7,a8,a9,a10,a11⟩:aa) a1).e)]++Uns.enc ((aG (⟨a2,a3,a4,a5,a6,a7,a8,a9,a10,a11⟩:aa) a1).t.a:ao)++Uns.enc ((aG (⟨a2,a3,a4,a5,a6,a7,a8,a9,a10,a11⟩:aa) a1).t.b:aq)++Uns.enc ((aG (⟨a2,a3,a4,a5,a6,a7,a8,a9,a10,a11⟩:aa) a1).t.n:ai)++[.d ((aG (⟨a2,a3,a4,a5,a6,a7,a8,a9,a10,a11⟩:aa) a1).t.aK),.d ((aG (⟨a2,a3,a4,a5,a6,a7,a8,a9,a10,a11⟩:aa) a1).t.notes),.d ((aG (⟨a2,a3,a4,a5,a6,a7,a8,a9,a10,a11⟩:aa) a1).t.s0),.d ((aG (⟨a2,a3,a4,a5,a6,a7,a8,a9,a10,a11⟩:aa) a1).t.s1),.d ((aG (⟨a2,a3,a4,a5,a6,a7,a8,a9,a10,a11⟩:aa) a1).t.s2),.d ((aG (⟨a2,a3,a4,a5,a6,a7,a8,a9,a10,a11⟩:aa) a1).t.aJ),.d ((aG (⟨a2,a3,a4,a5,a6,a7,a8,a9,a10,a11⟩:aa) a1).t.tr)])
def X2:Pn:=⟨[.agg [.bool,.int .i64,.int .i64,.int .i64,.int .i64,.int .i64,.int .i64,.int .i64,.int .i64,.int .i64,.int .i64,.af (sI 4),.int .i64,.int .i64,.int .i64,.int .i64,.int .i64,.af (sI 3),.int .i64],.int .i64],[.cells [.int .i64,.int .i64,.int .i64,.buf 9 2,.buf 10 3,.int .i64,.int .i64,.int .i64,.int .i64,.int .i64,.int .i64,.int .i64,.int .i64,.int .i64,.int .i64,.buf 11 2,.buf 12 2,.buf 13 2,.ptr 14 0 0,.buf 16 7,.int .i64,.int .i64,.int .i64,.int .i64,.int .i64,.int .i64,.int .i64,.int .i64,.int .i64,.bool],.gone,.gone,.gone,.gone,.gone,.gone,.gone,.gone,.af (sI 2),.af (sI 3),.af (sI 2),.af (sI 2),.af (sI 2),.cells [.buf 15 5],.af (sB 4),.af (sI 7)],0⟩
theorem EI:ER 98 (mkE N98.en X2 Zw):=LB Je (by kernel_rfl) fun(a0,a1,a2,a3,a4,a5,a6,a7,a8,a9,a10,a11)=>⟨rfl,by kernel_rfl⟩
def Z5:Tb Tryz.prog LQ TE XX:=aan.add 98 _ EI
def Y3:jq->List Un:=fun r=>Uns.enc (r.ra:bM)++[.d r.aZ]++Uns.enc (r.rb:bF)++[.d r.notes,.i r.next,.i r.e]++Uns.enc (r.t.a:ao)++Uns.enc (r.t.b:aq)++Uns.enc (r.t.n:ai)++[.d r.t.aK,.d r.t.notes,.d r.t.s0,.d r.t.s1,.d r.t.s2,.d r.t.aJ,.d r.t.tr]
def YS:Int × List Dat × ao × aq × ai × List Dat × List Dat × List Dat × List Dat × List Dat × List Dat × List Dat->Bool × jq:=fun(a0,a1,a2,a3,a4,a5,a6,a7,a8,a9,a10,a11)=>(decide (0<=a0)&&dX (⟨a2,a3,a4,a5,a6,a7,a8,a9,a10,a11⟩:aa),(aG (⟨a2,a3,a4,a5,a6,a7,a8,a9,a10,a11⟩:aa) a1))
theorem J2:ER 98 (mkB N98.en X2 YS Y3):=rebind EI fun(a0,a1,a2,a3,a4,a5,a6,a7,a8,a9,a10,a11)=>rfl
def Ll:Tb Tryz.prog LQ TE XX:=Z5.add 98 _ J2
def Fk (q:Int->Bool) (c:List Dat):Nat:=((c.map fun d=>d.i 0).filter q).length
theorem xE (a k:Int) (q:Int->Bool):∀(xs:List Int) (c:List Dat) (i:Int),xs.length=c.length->(∀j,j<c.length->q ((ag c j).i 0)=false->xs.getD j 0<=0)->(bR a k i xs).length<=Fk q c
 |[],_,_,_,_=>by simp[bR]
 |x::xs,[],_,h,_=>by simp at h
 |x::xs,d::c,i,h,hx=>by
  have ih:=xE a k q xs c (i+1) (by simpa using h) fun j hj hs=>hx (j+1) (by simpa using hj) hs
  have h0:=hx 0 (by simp);rw[show ag (d::c) 0=d from rfl,show(x::xs).getD 0 0=x from rfl]at h0;unfold Fk at ih⊢;simp only[bR,zab,zaS,List.filter_cons];cases hs:q (d.i 0)with
  |true=>
   rw[if_pos rfl,zac]
   split<;>simp only[zac,zar]<;>omega
  |false=>
   rw[if_neg (by have:=h0 hs;omega),if_neg (by simp)];simpa using ih
theorem KS (j:Nat) (q:Int->Bool) {xs:List Int} {c:List Dat} (h:xs.length=c.length):Fk q (bX j xs c)=Fk q c:=by
 have:∀(xs:List Int) (c:List Dat),xs.length=c.length->(bX j xs c).map (fun d=>d.i 0)=c.map fun d=>d.i 0:=by
  intro xs
  induction xs with
  |nil=>intro c h;rw[zaH h.symm];rfl
  |cons x xs ih=>
   intro c h;cases c with
   |nil=>simp at h
   |cons d c=>
    simp only[bX,zaS,ih c (by simpa using h)]
    congr 1
    unfold cH
    split<;>rfl
 unfold Fk;rw[this xs c h]
theorem DT (r:Int):∀l:List Int,(l.filter fun y=>y==r).length+(l.filter fun y=>decide (r+1<=y)).length<=(l.filter fun y=>decide (r<=y)).length
 |[]=>by simp
 |y::l=>by
  have:=DT r l;simp only[List.filter_cons,zaE,zaf]
  by_cases h1:y=r
  . rw[if_pos h1,if_neg (by omega),if_pos (by omega)];simp only[zac];omega
  . rw[if_neg h1]
    by_cases h2:r+1<=y
    . rw[if_pos h2,if_pos (by omega)];simp only[zac];omega
    . rw[if_neg h2,if_neg (by omega)];omega
theorem Rf (q:Int->Bool) (c:List Dat):Fk q c<=c.length:=by
 have:=List.length_filter_le q (c.map fun d=>d.i 0)
 rwa [zaW]at this
theorem Gx {c:List Dat} {sel:Dat->Bool} {j:Nat} (hj:j=1\/j=2) (n:Int) (h:aV c=true):∀i,i<c.length->sel (ag c i)=false->(aw sel j n c).getD i 0<=0:=fun i hi hs=>by
 have:=(dG sel hj n h).2.2 i hi;rw[hs,zal]at this;exact this.2
theorem A4 (a kd:Int):∀(k:Nat) (r n:Int) (c:List Dat),aV c=true->(bG a kd k r n c).2.1.length<=Fk (fun y=>decide (r<=y)) c
 |0,r,n,c,h=>by simp[bG]
 |k+1,r,n,c,h=>by
  have g:=(pC (aL r) (j:=1) (.inl rfl) n h).1;have l:=(dG (aL r) (j:=1) (.inl rfl) n h).1;have i:=A4 a kd k (r+1) (n-(aw (aL r) 1 n c).sum) _ g;rw[KS 1 _ l]at i;have p:=xE a kd (fun y=>y==r) (aw (aL r) 1 n c) c 0 l fun j hj hs=>Gx (.inl rfl) n h j hj hs
  have f:=DT r (c.map fun d=>d.i 0);simp only[bG,zab];unfold Fk at*
  omega
theorem KI (a kd rk:Int) {x:bu} {c:List Dat} (h:aV c=true):(dU a kd rk x c).2.2.length<=c.length+1:=by
 have p1:=yT a kd;have r2:=fun n=>zaM (A4 a kd 8 0 n c h) (Rf _ c)
 have q:=fun sel j n hj=>(dG (c:=c) sel (j:=j) hj n h).1
 have q4:=fun xs=>jz a kd xs 0
 unfold dU
 split
 . have:=p1 (min x.fee x.aA);simp only;omega
 split
 . have:=p1 (min x.ca x.aA);simp only;omega
 split
 . have:=p1 (min x.room x.aA);simp only;omega
 split
 . have:=q (aL rk) 2 x.aA (.inr rfl);have:=q4 (aw (aL rk) 2 x.aA c);simp only;omega
 split
 . have:=r2 (min x.ar x.aA);simp only;omega
 split
 . have:=q (fun _=>true) 1 (min x.ar x.aA) (.inl rfl);have:=q4 (aw (fun _=>true) 1 (min x.ar x.aA) c);simp only;omega
 split
 . have:=r2 x.aA;simp only;omega
 simp
theorem EX:∀(l:List Dat) (a:Int) (x:bu) (c:List Dat),ot x=true->aV c=true->(eD a l x c).2.2.length<=(c.length+1)*l.length
 |[],a,x,c,_,_=>by simp[eD]
 |s::l,a,x,c,hx,h=>by
  obtain⟨h1,h2,h3,_⟩:=rV a (s.i 0) (s.i 1) hx h;have i:=EX l (a+1) _ _ h1 h2;have p:=KI a (s.i 0) (s.i 1) (x:=x) h;simp only[eD,zab,zac,Nat.mul_add,zb9];rw[h3]at i;omega
theorem zk:∀(l pre:List Dat),qn pre l=true->∀d∈l,zf d=true
 |[],_,_,d,hd=>by simp at hd
 |x::l,pre,h,d,hd=>by
  simp only[qn,zae]at h;rcases zaT.1 hd with rfl|hd
  . exact h.1
  . exact zk l _ h.2.2 d hd
theorem DB (j:Nat):∀(l:List Dat),(∀d∈l,0<=d.i j)->∀d∈l,d.i j<=al j l
 |[],_,d,hd=>by simp at hd
 |x::l,h,d,hd=>by
  have h0:=h x (by simp);have hr:=fun y hy=>h y (zaN x hy)
  have hs:=fw j l hr;simp only[al];rcases zaT.1 hd with rfl|hd
  . omega
  . have:=DB j l hr d hd;omega
def Zf (k:Nat) (x:Dat):Prop:=(0<=x.i 0/\x.i 0<=15)/\(1<=x.i 1/\x.i 1<=7)/\(1<=x.i 3/\x.i 3<=800000000000000)/\(-1<=x.i 2/\x.i 2<(k:Int))/\(x.i 2<0↔(x.i 1=1\/x.i 1=2\/x.i 1=6))
section
variable {T : aa} {l : List Dat} (h : ff T) (he : (cP T l).e = 0)
include h he
theorem FU:(∀d∈(dH T l).2.2,Zf T.tr.length d)/\(dH T l).2.2.length<=144:=by
 obtain⟨k,p,g,c,_⟩:=tu h he;obtain⟨s1,s2,_⟩:=nb h he;obtain⟨x1,x2,_⟩:=qV h he;have st:=oA h;have sl:=b9 st;have tl:=dt h;have sr:∀d∈fF (gK T) T.n.mode,zf d=true:=zk _ [] (by simp only[fA,zae]at st;exact st.2);refine⟨fun d hd=> ?_, ?_⟩
 . obtain⟨q1,_,q2,q3,q4,q5⟩:=p d hd;have:=DB 3 _ (fun d hd=>by have:=(s1 d hd).1;omega) d hd;have:=sr _ (lH (l:=fF (gK T) T.n.mode) (i:=(d.i 0-0).toNat) (by omega));simp only[zf,zae,zaf]at this;unfold Zf;rw[<-q2]at q5 this;exact⟨by omega,this.1,by omega,q4,q5⟩
 . have:=EX (fF (gK T) T.n.mode) 0 (cX T l) _ x1 x2;rw[zaW,pk h]at this;have m:=Nat.mul_le_mul (show T.tr.length+1<=9 by omega) sl.2;unfold dH;omega
end
@[ext] structure bn where
 mC:Int
 off:Bool
 m5:Int
 lit:Bool
instance : Uns bn := Uns.via (B := Int × Bool × Int × Bool) (fun x => (x.mC, x.off, x.m5, x.lit)) (fun x => match x with | (mC, off, m5, lit) => ⟨mC, off, m5, lit⟩) (fun _ => rfl)
def bh (m:bn):Bool × bn:=bif m.off then(false,m)else bif !m.lit then(true,m)else bif m.m5==0 then(false,{m with off:=true})else(true,{m with m5:=w64 (m.m5-1)})
theorem qB (m:bn) (A C:bn->Option (List Un)):(bif m.off then A m else bif !m.lit then C m else bif m.m5==0 then A {m with off:=true}else C {m with m5:=w64 (m.m5-1)})=bif (bh m).1 then C (bh m).2 else A (bh m).2:=by
 unfold bh;cases m.off
 . cases m.lit
   . rfl
   . cases (m.m5==0)<;>rfl
 . rfl
def N12:aC:=⟨Ll.tab,12,⟨[],[],0⟩,⟨[.ptr 0 0 0],[.cells [.buf 1 1,.int .i64,.bool,.int .i64,.bool],.ints .u8],0⟩,[]⟩
def t12 (m:Nat):Unit->Option (List Un):=fun _=>
 some (Uns.enc ((⟨0,false,0,false⟩:bn):bn)++[.l ([])])
def f12:Unit->Bool × List Un:=fun _=>(true,Uns.enc (((⟨0,false,0,false⟩:bn)):bn)++[.l (([]:List Int))])
theorem Ul:∃m,t12 m ()=some (Uns.enc (((⟨0,false,0,false⟩:bn)):bn)++[.l (([]:List Int))]):=by
 exact⟨0,rfl⟩
theorem Pc:ER 12 (mkE N12.en N12.ex f12):=an ae Ll.right (fun m=>[]) (t:=t12) (by kernel_rfl) (fun m=>aB) (fun m a=>by kernel_rfl) fun _ hc=>Ul
def T12:Tb Tryz.prog LQ TE XX:=Ll.add 12 _ Pc
def YP:aC:=⟨T12.tab,130,⟨[.ptr 0 0 0,.ints .u8],[.cells [.buf 1 1,.int .i64,.bool,.int .i64,.bool],.ints .u8],0⟩,⟨[.int .i64],[.cells [.buf 2 1,.int .i64,.bool,.int .i64,.bool],.gone,.ints .u8],0⟩,[]⟩
def t130 (m:Nat):List Int × bn × List Int->Option (List Un):=fun(a0,a1,a2)=>
 bif a1.off then
 some ([.i 7]++Uns.enc (a1:bn)++[.l a2])
 else
 bif !a1.lit then
 chk (fits (a2.length+a0.length) 1)<|
 some ([.i 0]++Uns.enc (a1:bn)++[.l (a2++a0)])
 else
 bif a1.m5==0 then
 some ([.i 7]++Uns.enc (({a1 with off:=true}:bn):bn)++[.l a2])
 else
 chk (fits (a2.length+a0.length) 1)<|
 some ([.i 0]++Uns.enc (({a1 with m5:=(w64 (a1.m5-1))}:bn):bn)++[.l (a2++a0)])
def f130:List Int × bn × List Int->Bool × List Un:=fun(a0,a1,a2)=>(decide (a2.length+a0.length<1000000),[.i ((bif (bh a1).1 then 0 else 7:Int))]++Uns.enc (((bh a1).2):bn)++[.l ((bif (bh a1).1 then a2++a0 else a2))])
theorem Pf (a0:List Int) (a1:bn) (a2:List Int) (hc:(decide (a2.length+a0.length<1000000))=true):∃m,t130 m (a0,a1,a2)=some ([.i ((bif (bh a1).1 then 0 else 7:Int))]++Uns.enc (((bh a1).2):bn)++[.l ((bif (bh a1).1 then a2++a0 else a2))]):=by
 have hl:=zaj hc;refine⟨0,(qB a1 (fun n=>some ([Un.i 7]++Uns.enc n++[Un.l a2])) (fun n=>chk (fits (a2.length+a0.length) 1)<|some ([Un.i 0]++Uns.enc n++[Un.l (a2++a0)]))).trans ?_⟩;rw[bL (by omega) (by omega)];cases (bh a1).1<;>rfl
theorem M5:ER 130 (mkE YP.en YP.ex f130):=an ae T12.right (fun m=>[]) (t:=t130) (by kernel_rfl) (fun m=>aB) (fun m a=>by kernel_rfl) fun(a0,a1,a2) hc=>Pf a0 a1 a2 hc
def Ua:Tb Tryz.prog LQ TE XX:=T12.add 130 _ M5
def Xl:aC:=⟨Ua.tab,131,⟨[.ptr 0 0 0],[.cells [.buf 1 1,.int .i64,.bool,.int .i64,.bool],.ints .u8],0⟩,⟨[.int .i64],[.cells [.buf 1 1,.int .i64,.bool,.int .i64,.bool],.ints .u8],0⟩,[]⟩
def t131 (m:Nat):bn × List Int->Option (List Un):=fun(a0,a1)=>
 bif a0.off then
 some ([.i 7]++Uns.enc (a0:bn)++[.l a1])
 else
 bif !a0.lit then
 some ([.i 0]++Uns.enc (({a0 with mC:=(a1.length:Int)}:bn):bn)++[.l a1])
 else
 bif a0.m5==0 then
 some ([.i 7]++Uns.enc (({a0 with off:=true}:bn):bn)++[.l a1])
 else
 some ([.i 0]++Uns.enc (({a0 with mC:=(a1.length:Int),m5:=(w64 (a0.m5-1))}:bn):bn)++[.l a1])
def f131:bn × List Int->Bool × List Un:=fun(a0,a1)=>(true,[.i ((bif (bh a0).1 then 0 else 7:Int))]++Uns.enc (((bif (bh a0).1 then {(bh a0).2 with mC:=(a1.length:Int)}else(bh a0).2)):bn)++[.l (a1)])
theorem R2 (a0:bn) (a1:List Int):∃m,t131 m (a0,a1)=some ([.i ((bif (bh a0).1 then 0 else 7:Int))]++Uns.enc (((bif (bh a0).1 then {(bh a0).2 with mC:=(a1.length:Int)}else(bh a0).2)):bn)++[.l (a1)]):=by
 refine⟨0,(qB a0 (fun n=>some ([Un.i 7]++Uns.enc n++[Un.l a1])) (fun n=>some ([Un.i 0]++Uns.enc ({n with mC:=(a1.length:Int)}:bn)++[Un.l a1]))).trans ?_⟩;cases (bh a0).1<;>rfl
theorem Nb:ER 131 (mkE Xl.en Xl.ex f131):=an ae Ua.right (fun m=>[]) (t:=t131) (by kernel_rfl) (fun m=>aB) (fun m a=>by kernel_rfl) fun(a0,a1) hc=>R2 a0 a1
def Va:Tb Tryz.prog LQ TE XX:=Ua.add 131 _ Nb
def N90:aC:=⟨Va.tab,90,⟨[.ptr 0 0 0,.int .i64],[.cells [.buf 1 1,.int .i64,.bool,.int .i64,.bool],.ints .u8],0⟩,⟨[.int .i64],[.cells [.buf 2 1,.int .i64,.bool,.int .i64,.bool],.gone,.ints .u8],0⟩,[]⟩
def t90 (m:Nat):Int × bn × List Int->Option (List Un):=fun(a0,a1,a2)=>
 bif decide (a0<0)then
 some ([.i 1]++Uns.enc (a1:bn)++[.l a2])
 else
 bif (decide (a0>(a2.length:Int)))then
 some ([.i 1]++Uns.enc (a1:bn)++[.l a2])
 else
 bif a1.off then
 some ([.i 7]++Uns.enc (a1:bn)++[.l a2])
 else
 bif !a1.lit then
 chk (decide (0<=a0)&&(true&&decide (0<=a0.toNat/\a0.toNat<=a2.length)))<|
 chk (decide ((List.take a0.toNat a2).length<1000000))<|
 some ([.i 0]++Uns.enc (({a1 with mC:=a0}:bn):bn)++[.l (List.take a0.toNat a2)])
 else
 bif a1.m5==0 then
 some ([.i 7]++Uns.enc (({a1 with off:=true}:bn):bn)++[.l a2])
 else
 chk (decide (0<=a0)&&(true&&decide (0<=a0.toNat/\a0.toNat<=a2.length)))<|
 chk (decide ((List.take a0.toNat a2).length<1000000))<|
 some ([.i 0]++Uns.enc (({a1 with mC:=a0,m5:=(w64 (a1.m5-1))}:bn):bn)++[.l (List.take a0.toNat a2)])
def f90:Int × bn × List Int->Bool × List Un:=fun(a0,a1,a2)=>(decide (0<=a0/\a0<=(a2.length:Int)/\a2.length<1000000),[.i ((bif (bh a1).1 then 0 else 7:Int))]++Uns.enc (((bif (bh a1).1 then {(bh a1).2 with mC:=a0}else(bh a1).2)):bn)++[.l ((bif (bh a1).1 then a2.take a0.toNat else a2))])
theorem Ux (a0:Int) (a1:bn) (a2:List Int) (hc:(decide (0<=a0/\a0<=(a2.length:Int)/\a2.length<1000000))=true):∃m,t90 m (a0,a1,a2)=some ([.i ((bif (bh a1).1 then 0 else 7:Int))]++Uns.enc (((bif (bh a1).1 then {(bh a1).2 with mC:=a0}else(bh a1).2)):bn)++[.l ((bif (bh a1).1 then a2.take a0.toNat else a2))]):=by
 obtain⟨h0,h1,h2⟩:=zaj hc;have hl:(List.take a0.toNat a2).length<1000000:=by rw[zav];omega
 have hk:(decide (0<=a0)&&(true&&decide (0<=a0.toNat/\a0.toNat<=a2.length)))=true:=by
  rw[zaa h0,zaa (show 0<=a0.toNat/\a0.toNat<=a2.length by omega)];rfl
 refine⟨0,dV (zap (by omega)) (dV (zap (by omega)) ((qB a1 (fun n=>some ([Un.i 7]++Uns.enc n++[Un.l a2])) (fun n=>chk (decide (0<=a0)&&(true&&decide (0<=a0.toNat/\a0.toNat<=a2.length)))<|chk (decide ((List.take a0.toNat a2).length<1000000))<|some ([Un.i 0]++Uns.enc ({n with mC:=a0}:bn)++[Un.l (List.take a0.toNat a2)]))).trans ?_))⟩;rw[hk,zaa hl];cases (bh a1).1<;>rfl
theorem OM:ER 90 (mkE N90.en N90.ex f90):=an ae Va.right (fun m=>[]) (t:=t90) (by kernel_rfl) (fun m=>aB) (fun m a=>by kernel_rfl) fun(a0,a1,a2) hc=>Ux a0 a1 a2 hc
def T90:Tb Tryz.prog LQ TE XX:=Va.add 90 _ OM
def N31:aC:=⟨T90.tab,31,⟨[.ptr 0 0 0],[.cells [.buf 1 1,.int .i64,.bool,.int .i64,.bool],.ints .u8],2⟩,⟨[.buf 2 1],[.cells [.buf 1 1,.int .i64,.bool,.int .i64,.bool],.ints .u8,.ints .u8],2⟩,[]⟩
def t31 (m:Nat):bn × List Int->Option (List Un):=fun(a0,a1)=>
 bif a0.off then
 some (Uns.enc (a0:bn)++[.l a1,.l ([])])
 else
 chk (decide (a1.length<1000000))<|
 some (Uns.enc (a0:bn)++[.l a1,.l a1])
def f31:bn × List Int->Bool × List Un:=fun(a0,a1)=>(decide (a1.length<1000000),Uns.enc ((a0):bn)++[.l (a1),.l ((bif a0.off then[]else a1))])
theorem Uw (a0:bn) (a1:List Int) (hc:(decide (a1.length<1000000))=true):∃m,t31 m (a0,a1)=some (Uns.enc ((a0):bn)++[.l (a1),.l ((bif a0.off then[]else a1))]):=by
 refine⟨0, ?_⟩;unfold t31
 try dsimp only
 rw[hc];cases a0.off<;>rfl
theorem IA:ER 31 (mkE N31.en N31.ex f31):=an ae T90.right (fun m=>[]) (t:=t31) (by kernel_rfl) (fun m=>aB) (fun m a=>by kernel_rfl) fun(a0,a1) hc=>Uw a0 a1 hc
def T31:Tb Tryz.prog LQ TE XX:=T90.add 31 _ IA
def ZF:bn × List Int->Bool × List Un:=fun(a0,a1)=>(decide (a1.length<1000000),[.l (bif a0.off then[]else a1)]++Uns.enc (a0:bn)++[.l a1])
def ZM:Pn:=⟨[.ints .u8],[.cells [.buf 1 1,.int .i64,.bool,.int .i64,.bool],.ints .u8],2⟩
theorem KL:ER 31 (mkE N31.en ZM ZF):=LB IA (by kernel_rfl) fun(a0,a1)=>⟨rfl,by kernel_rfl⟩
def QC:Tb Tryz.prog LQ TE XX:=T31.add 31 _ KL
def dF (l:List Int):Bool:=decide (l.length<=1000000)&&l.all fun x=>decide (0<=x/\x<256)
theorem fN {l:List Int}:dF l=true↔l.length<=1000000/\∀x∈l,0<=x/\x<256:=by
 simp only[dF,zae,zaf,zao]
def dO (l:List Int):Int:=l.sum%65536
theorem XR {x:Int} (h0:0<=x) (h1:x<9223372036854775808):w64 ((BitVec.ofInt 64 x&&&BitVec.ofInt 64 65535).toNat)=x%65536:=by
 obtain⟨n,rfl⟩:∃n:Nat,x=n:=⟨x.toNat,by omega⟩
 have e:(BitVec.ofInt 64 (n:Int)&&&BitVec.ofInt 64 65535).toNat=n%65536:=by
  rw[BitVec.toNat_and];have h1:(BitVec.ofInt 64 (n:Int)).toNat=n:=by
   rw[zbI];omega
  have h2:(BitVec.ofInt 64 65535).toNat=2^16-1:=by decide
  rw[h1,h2,Nat.and_two_pow_sub_one_eq_mod]
 rw[e,ab (by omega) (by omega)];omega
def WD:aC:=⟨QC.tab,166,⟨[.ints .u8],[],0⟩,⟨[.int .i64],[],0⟩,[]⟩
abbrev Cg:Type:=Int × List Int × Int × Int
def vU (m:Nat) (k:Cg->Option (List Un)):Cg->Option (List Un):=fun(a0,a1,a2,a3)=>
 bif decide (a3<a2)then
 chk (inb a3 a1.length)<|
 chk (decide (a3.toNat<a1.length))<|
 k ((w64 (a0+(w64 (a1.getD a3.toNat 0)))),a1,a2,(w64 (a3+1)))
 else
 some ([.i (w64 ((BitVec.ofInt 64 a0&&&BitVec.ofInt 64 65535).toNat))])
def sQ (m:Nat):Nat->Cg->Option (List Un):=bq (vU m)
theorem uF (m:Nat) (n:Nat):sQ m (n+1)=vU m (sQ m n):=rfl
def HD (F:Cg->Option (List Un)):aU:=⟨[.lp [0,1,0,1,1],.blk 0,.code [1,1,1]],⟨frm 19 [(3,.int .i64),(6,.ints .u8),(7,.int .i64),(8,.int .i64)],[],0⟩,onU F⟩
theorem Wu (m:Nat):∀n,HO WD (HD (sQ m n)):=au ae QC.right (fun k=>[HD k]) (fun k h=>(aH h aB)) fun k a=>by kernel_rfl
def t166 (m:Nat):List Int->Option (List Un):=fun a0=>
 sQ m m (0,a0,(a0.length:Int),0)
theorem YT (m:Nat):∀(rest pre:List Int) (n:Nat) (s:Int),rest.length<n->(pre++rest).length<=1000000->(∀x∈rest,0<=x/\x<256)->0<=s->s<=256*pre.length->sQ m n (s,pre++rest,((pre++rest).length:Int),(pre.length:Int))=some [.i ((s+rest.sum)%65536)]:=by
 intro rest
 induction rest with
 |nil=>
  intro pre n s hn hl hb h0 h1;obtain⟨n,rfl⟩:=ak n (by simp at hn;omega);simp only[zaK]at hl;rw[uF];unfold vU;dsimp only;rw[az (by simp),XR h0 (by omega)];simp
 |cons x rest ih=>
  intro pre n s hn hl hb h0 h1;obtain⟨n,rfl⟩:=ak n (by simp at hn;omega);have hx:=hb x (by simp);have:=ih (pre++[x]) n (s+x) (by simp at hn;omega) (by simpa using hl) (fun y hy=>hb y (zaN _ hy)) (by omega) (by simp;omega);simp only[zac,zab]at hn hl;rw[uF];unfold vU;dsimp only;rw[aQ (by simp only[zab,zac];omega),cJ (by omega) (by simp only[zab,zac];omega),aP (by simp)];have hg:(pre++x::rest).getD (pre.length:Int).toNat 0=x:=by simp
  rw[hg,ab (n:=x) (by omega) (by omega),ab (n:=s+x) (by omega) (by omega)];have e:w64 ((pre.length:Int)+1)=((pre++[x]).length:Int):=by
   rw[ab (by omega) (by omega)];simp
  rw[e,show pre++x::rest=(pre++[x])++rest by simp,this,zbt,Int.add_assoc]
def f166:List Int->Bool × List Un:=fun a0=>(dF a0,[.i (dO a0)])
theorem QM (a0:List Int) (hc:(dF a0)=true):∃m,t166 m a0=some ([.i (dO a0)]):=by
 obtain⟨hl,hb⟩:=fN.1 hc;refine⟨a0.length+1, ?_⟩;have:=YT (a0.length+1) a0 [] (a0.length+1) 0 (by omega) (by simpa using hl) hb (by omega) (by simp);rw[za3]at this;exact this
theorem Ox:ER 166 (mkE WD.en WD.ex f166):=an ae QC.right (fun m=>[HD (sQ m m)]) (t:=t166) (by kernel_rfl) (fun m=>(aH (Wu m m) aB)) (fun m a=>by kernel_rfl) fun a0 hc=>QM a0 hc
def QZ:Tb Tryz.prog LQ TE XX:=QC.add 166 _ Ox
def ez (l:List Int):Int:=l.foldl (fun n x=>n*256+x) 0
theorem NH {n x:Int} (h0:0<=n) (h1:n<4294967296) (h2:0<=x) (h3:x<256):w64 ((BitVec.ofInt 64 (w64 (n*2^(min (8:Int).toNat 64)))|||BitVec.ofInt 64 (w64 x)).toNat)=n*256+x:=by
 rw[show(2:Int)^(min (8:Int).toNat 64)=256 by decide,ab (n:=n*256) (by omega) (by omega),ab (n:=x) (by omega) (by omega)];obtain⟨a,rfl⟩:∃a:Nat,n=a:=⟨n.toNat,by omega⟩
 obtain⟨c,rfl⟩:∃c:Nat,x=c:=⟨x.toNat,by omega⟩
 have e:(BitVec.ofInt 64 ((a:Int)*256)|||BitVec.ofInt 64 (c:Int)).toNat=256*a+c:=by
  rw[BitVec.toNat_or];have h1:(BitVec.ofInt 64 ((a:Int)*256)).toNat=256*a:=by
   rw[zbI];omega
  have h2:(BitVec.ofInt 64 (c:Int)).toNat=c:=by
   rw[zbI];omega
  rw[h1,h2,HR a c (by omega)]
 rw[e,ab (by omega) (by omega)];omega
def VX:aC:=⟨QZ.tab,165,⟨[.ints .u8],[],0⟩,⟨[.int .i64],[],0⟩,[]⟩
abbrev CP:Type:=Int × List Int × Int × Int
def vO (m:Nat) (k:CP->Option (List Un)):CP->Option (List Un):=fun(a0,a1,a2,a3)=>
 bif decide (a3<a2)then
 chk (inb a3 a1.length)<|
 chk (decide (a3.toNat<a1.length))<|
 k ((w64 ((BitVec.ofInt 64 (w64 (a0*2^(min (8:Int).toNat 64)))|||BitVec.ofInt 64 (w64 (a1.getD a3.toNat 0))).toNat)),a1,a2,(w64 (a3+1)))
 else
 some ([.i a0])
def ta (m:Nat):Nat->CP->Option (List Un):=bq (vO m)
theorem u6 (m:Nat) (n:Nat):ta m (n+1)=vO m (ta m n):=rfl
def HM (F:CP->Option (List Un)):aU:=⟨[.lp [0,1,0,1,1],.blk 0,.code [1,1,1]],⟨frm 19 [(3,.int .i64),(6,.ints .u8),(7,.int .i64),(8,.int .i64)],[],0⟩,onU F⟩
theorem Uq (m:Nat):∀n,HO VX (HM (ta m n)):=au ae QZ.right (fun k=>[HM k]) (fun k h=>(aH h aB)) fun k a=>by kernel_rfl
def t165 (m:Nat):List Int->Option (List Un):=fun a0=>
 ta m m (0,a0,(a0.length:Int),0)
theorem Yv (m:Nat):∀(rest pre:List Int) (n:Nat) (s:Int),rest.length<n->(pre++rest).length<=4->(∀x∈rest,0<=x/\x<256)->0<=s->s<256^pre.length->ta m n (s,pre++rest,((pre++rest).length:Int),(pre.length:Int))=some [.i (rest.foldl (fun n x=>n*256+x) s)]:=by
 intro rest
 induction rest with
 |nil=>
  intro pre n s hn hl hb h0 h1;obtain⟨n,rfl⟩:=ak n (by simp at hn;omega);rw[u6];unfold vO;dsimp only;rw[az (by simp)];rfl
 |cons x rest ih=>
  intro pre n s hn hl hb h0 h1;obtain⟨n,rfl⟩:=ak n (by simp at hn;omega);have hx:=hb x (by simp);have hp:(256:Int)^(pre++[x]).length=256^pre.length*256:=by rw[zab,List.length_singleton,Int.pow_succ]
  have hp3:(256:Int)^pre.length<=16777216:=by
   simp only[zab,zac]at hl;have:pre.length=0\/pre.length=1\/pre.length=2\/pre.length=3:=by omega
   rcases this with h|h|h|h<;>rw[h]<;>decide
  have:=ih (pre++[x]) n (s*256+x) (by simp at hn;omega) (by simpa using hl) (fun y hy=>hb y (zaN _ hy)) (by omega) (by rw[hp];omega);simp only[zac,zab]at hn hl;rw[u6];unfold vO;dsimp only;rw[aQ (by simp only[zab,zac];omega),cJ (by omega) (by simp only[zab,zac];omega),aP (by simp)];have hg:(pre++x::rest).getD (pre.length:Int).toNat 0=x:=by simp
  rw[hg,NH h0 (by omega) hx.1 hx.2];have e:w64 ((pre.length:Int)+1)=((pre++[x]).length:Int):=by
   rw[ab (by omega) (by omega)];simp
  rw[e,show pre++x::rest=(pre++[x])++rest by simp,this];rfl
def f165:List Int->Bool × List Un:=fun a0=>(decide (a0.length<=4)&&a0.all fun x=>decide (0<=x/\x<256),[.i (ez a0)])
theorem RZ (a0:List Int) (hc:(decide (a0.length<=4)&&a0.all fun x=>decide (0<=x/\x<256))=true):∃m,t165 m a0=some ([.i (ez a0)]):=by
 simp only[zae,zaf,zao]at hc;refine⟨a0.length+1, ?_⟩;exact Yv (a0.length+1) a0 [] (a0.length+1) 0 (by omega) (by simpa using hc.1) hc.2 (by omega) (by simp)
theorem KM:ER 165 (mkE VX.en VX.ex f165):=an ae QZ.right (fun m=>[HM (ta m m)]) (t:=t165) (by kernel_rfl) (fun m=>(aH (Uq m m) aB)) (fun m a=>by kernel_rfl) fun a0 hc=>RZ a0 hc
def Wn:Tb Tryz.prog LQ TE XX:=QZ.add 165 _ KM
theorem u8m (x:Int):wu8 x=x%256:=by show IntKind.u8.wrap x=_;simp[IntKind.wrap,IntKind.bits,IntKind.signed]
def gD (n:Int):List Int:=[n/256%256,n%256]
def dW (s:Int) (b:List Int):List Int:=gD (b.length:Int)++gD (s/65536)++gD s
def dR (s:Int) (b:List Int):List Int:=dW s b++gD (dO (dW s b))++b++gD (dO b)
theorem Nt (x k:Int) (hk:0<k):Int.fdiv x k=x/k:=Int.fdiv_eq_ediv_of_nonneg _ (by omega)
theorem J0 (n:Int):∀x∈gD n,0<=x/\x<256:=by
 intro x hx;simp only[gD,zaT,List.not_mem_nil,or_false]at hx;omega
theorem HL (s:Int) (b:List Int):∀x∈dW s b,0<=x/\x<256:=by
 intro x hx;simp only[dW,zbe]at hx;rcases hx with(hx|hx)|hx<;>exact J0 _ x hx
theorem zV (s:Int) (b:List Int):(dW s b).length=6:=rfl
theorem mM (s:Int) (b:List Int):(dR s b).length=b.length+10:=by
 simp only[dR,zab,zV,gD,zac,zar];omega
theorem SK (l:List Int):0<=dO l/\dO l<65536:=by unfold dO;omega
theorem qZ {α:Type} (h x z:List α) (k:Nat) (hk:h.length=k) (hx:x.length<=z.length):List.take k (h++z)++x++List.drop (k+x.length) (h++z)=h++x++z.drop x.length:=by
 subst hk;rw[List.take_append_of_le_length (zam _),List.take_length,List.drop_append,List.drop_of_length_le (show h.length<=h.length+x.length by omega),Nat.add_sub_cancel_left,zat]
def Zd:aC:=⟨Wn.tab,129,⟨[.int .i64,.ints .u8],[],0⟩,⟨[.ints .u8],[],0⟩,[]⟩
def t129 (m:Nat):Int × List Int->Option (List Un):=fun(a0,a1)=>
 bif decide (a0<0)then
 some ([.l ([]:List Int)])
 else
 bif (decide (a0>4294967295))then
 some ([.l ([]:List Int)])
 else
 bif (decide ((a1.length:Int)>60000))then
 some ([.l ([]:List Int)])
 else
 lt ((Int.fdiv (a1.length:Int) (2^(min (8:Int).toNat 64))):Int) fun x3=>
 lt ((Int.fdiv a0 (2^(min (16:Int).toNat 64))):Int) fun x4=>
 lt ((Int.fdiv x4 (2^(min (8:Int).toNat 64))):Int) fun x5=>
 lt ((Int.fdiv a0 (2^(min (8:Int).toNat 64))):Int) fun x6=>
 lt ((List.take 0 (List.replicate 6 0)++([(wu8 x3),(wu8 (a1.length:Int))])++List.drop (0+([(wu8 x3),(wu8 (a1.length:Int))]).length) (List.replicate 6 0)):List Int) fun l7=>
 lt ((List.take 2 l7++([(wu8 x5),(wu8 x4)])++List.drop (2+([(wu8 x5),(wu8 x4)]).length) l7):List Int) fun l8=>
 lt ((List.take 4 l8++([(wu8 x6),(wu8 a0)])++List.drop (4+([(wu8 x6),(wu8 a0)]).length) l8):List Int) fun l9=>
 chk (dF (List.take 6 l9))<|
 lt ((Int.fdiv (dO (List.take 6 l9)) (2^(min (8:Int).toNat 64))):Int) fun x10=>
 lt ((wu8 (dO (List.take 6 l9))):Int) fun x11=>
 chk (dF a1)<|
 lt ((Int.fdiv (dO a1) (2^(min (8:Int).toNat 64))):Int) fun x12=>
 lt ((w64 (8+(a1.length:Int))):Int) fun x13=>
 bif decide (x13<0)then
 none
 else
 bif (decide ((w64 (x13+2))<0))then
 none
 else
 bif (decide ((w64 (x13+2))<0))then
 none
 else
 lt ((w64 ((w64 (x13+2))-0)):Int) fun x16=>
 bif decide (x16>0)then
 chk (decide (0<=x16/\x16<1099511627776/\x16.toNat*1<35184372088832))<|
 lt ((List.replicate x16.toNat 0):List Int) fun l17=>
 chk (true&&(true&&decide (0<=0/\0<=l17.length)))<|
 chk (decide (6<=l17.length))<|
 lt ((List.take 0 l17++(List.take 6 l9)++List.drop (0+(List.take 6 l9).length) l17):List Int) fun l18=>
 chk (decide (8<=l18.length))<|
 lt ((List.take 6 l18++([(wu8 x10),x11])++List.drop (6+([(wu8 x10),x11]).length) l18):List Int) fun l19=>
 chk (fits (8+a1.length) 1)<|
 chk (decide ((8+a1.length)<=l19.length))<|
 lt ((List.take 8 l19++a1++List.drop (8+a1.length) l19):List Int) fun l20=>
 chk (fits ((8+a1.length)+2) 1)<|
 chk (decide (((8+a1.length)+2)<=l20.length))<|
 some ([.l (List.take ((8+a1.length)+2) (List.take (8+a1.length) l20++([(wu8 x12),(wu8 (dO a1))])++List.drop ((8+a1.length)+([(wu8 x12),(wu8 (dO a1))]).length) l20))])
 else
 lt (((List.take 6 l9)++([(wu8 x10),x11])):List Int) fun l22=>
 chk (fits (8+a1.length) 1)<|
 chk (fits ((l22++a1).length+2) 1)<|
 some ([.l ((l22++a1)++([(wu8 x12),(wu8 (dO a1))]))])
def f129:Int × List Int->Bool × List Un:=fun(a0,a1)=>(decide (0<=a0/\a0<=4294967295/\a1.length<=60000)&&dF a1,[.l (dR a0 a1)])
theorem PJ (a0:Int) (a1:List Int) (hc:(decide (0<=a0/\a0<=4294967295/\a1.length<=60000)&&dF a1)=true):∃m,t129 m (a0,a1)=some ([.l (dR a0 a1)]):=by
 rw[zae]at hc;obtain⟨⟨h0,h1,h2⟩,hb⟩:=(⟨zaj hc.1,hc.2⟩:(0<=a0/\a0<=4294967295/\a1.length<=60000)/\dF a1=true)
 refine⟨0,dV (zap (by omega)) (dV (zap (by omega)) (dV (zap (by omega)) ?_))⟩;dsimp only[lt];rw[show(2:Int)^(min (8:Int).toNat 64)=256 by decide,show(2:Int)^(min (16:Int).toNat 64)=65536 by decide];simp only[Nt _ 256 (by decide),Nt _ 65536 (by decide),u8m];have hh:(List.take 4 (List.take 2 (List.take 0 (List.replicate 6 (0:Int))++[(a1.length:Int)/256%256,(a1.length:Int)%256]++List.drop (0+[(a1.length:Int)/256%256,(a1.length:Int)%256].length) (List.replicate 6 0))++[a0/65536/256%256,a0/65536%256]++List.drop (2+[a0/65536/256%256,a0/65536%256].length) (List.take 0 (List.replicate 6 0)++[(a1.length:Int)/256%256,(a1.length:Int)%256]++List.drop (0+[(a1.length:Int)/256%256,(a1.length:Int)%256].length) (List.replicate 6 0)))++[a0/256%256,a0%256]++List.drop (4+[a0/256%256,a0%256].length) (List.take 2 (List.take 0 (List.replicate 6 0)++[(a1.length:Int)/256%256,(a1.length:Int)%256]++List.drop (0+[(a1.length:Int)/256%256,(a1.length:Int)%256].length) (List.replicate 6 0))++[a0/65536/256%256,a0/65536%256]++List.drop (2+[a0/65536/256%256,a0/65536%256].length) (List.take 0 (List.replicate 6 0)++[(a1.length:Int)/256%256,(a1.length:Int)%256]++List.drop (0+[(a1.length:Int)/256%256,(a1.length:Int)%256].length) (List.replicate 6 0))))=dW a0 a1:=rfl;simp only[hh];have hl6:=zV a0 a1;have ht:List.take 6 (dW a0 a1)=dW a0 a1:=rfl;simp only[ht];have hs:=SK (dW a0 a1);refine av (fN.2 ⟨by omega,HL a0 a1⟩) (av hb ?_);rw[ab (n:=8+(a1.length:Int)) (by omega) (by omega),ab (n:=8+(a1.length:Int)+2) (by omega) (by omega),zbs,ab (n:=8+(a1.length:Int)+2) (by omega) (by omega)];refine dV (zap (by omega)) (dV (zap (by omega)) (dV (zap (by omega)) (gv (zaa (by omega)) (av (zaa ⟨by omega,by omega,by omega⟩) ?_))));have e0:(8+(a1.length:Int)+2).toNat=a1.length+10:=by omega
 rw[e0];have e1:=qZ ([]:List Int) (dW a0 a1) (List.replicate (a1.length+10) 0) 0 rfl (by rw[hl6,zbj];omega);rw[zat,zat]at e1;rw[e1,hl6,List.drop_replicate];have two:gD (dO (dW a0 a1))=[dO (dW a0 a1)/256%256,dO (dW a0 a1)%256]:=rfl;have two2:gD (dO a1)=[dO a1/256%256,dO a1%256]:=rfl;rw[<-two,<-two2];have t2:∀n,(gD n).length=2:=fun n=>rfl
 have e2:=qZ (dW a0 a1) (gD (dO (dW a0 a1))) (List.replicate (a1.length+10-6) 0) 6 hl6 (by rw[t2,zbj];omega);rw[e2,t2,List.drop_replicate];have e3:=qZ (dW a0 a1++gD (dO (dW a0 a1))) a1 (List.replicate (a1.length+10-6-2) 0) 8 (by rw[zab,hl6,t2]) (by rw[zbj];omega);rw[e3,List.drop_replicate];have e4:=qZ (dW a0 a1++gD (dO (dW a0 a1))++a1) (gD (dO a1)) (List.replicate (a1.length+10-6-2-a1.length) 0) (8+a1.length) (by rw[zab,zab,hl6,t2]) (by rw[t2,zbj];omega);rw[e4,t2,List.drop_replicate,show a1.length+10-6-2-a1.length-2=0 by omega,List.replicate_zero,zaK];have e5:List.take (8+a1.length+2) (dW a0 a1++gD (dO (dW a0 a1))++a1++gD (dO a1))=dW a0 a1++gD (dO (dW a0 a1))++a1++gD (dO a1):=zbl (by simp only[zab,hl6,t2];omega);rw[e5];have lens:(dW a0 a1++List.replicate (a1.length+10-6) 0).length=a1.length+10:=by rw[zab,hl6,zbj];omega
 refine av (by rw[zbj,zaa (show 0<=0/\0<=a1.length+10 by omega)];rfl) (av (zaa (by rw[zbj];omega)) (av (zaa (by simp only[zab,zbj,hl6];omega)) ?_));rw[bL (by omega) (by omega)];refine av (zaa (by simp only[zab,zbj,hl6,t2];omega)) ?_
 rw[bL (by omega) (by omega)];exact av (zaa (by simp only[zab,zbj,hl6,t2];omega)) rfl
theorem Oz:ER 129 (mkE Zd.en Zd.ex f129):=an ae Wn.right (fun m=>[]) (t:=t129) (by kernel_rfl) (fun m=>aB) (fun m a=>by kernel_rfl) fun(a0,a1) hc=>PJ a0 a1 hc
def Vq:Tb Tryz.prog LQ TE XX:=Wn.add 129 _ Oz
structure OpR where
 text:List Int
 seq:Int
 next:Int
 how:Int
def o7 (r:List Int) (a:Int):OpR:=
 bif decide ((r.length:Int)<8)then⟨[],0,0,1⟩
 else bif dO (r.take 6) !=ez ((r.drop 6).take 2)then⟨[],0,0,2⟩
 else bif decide (ez (r.take 2)>60000)then⟨[],0,0,2⟩
 else bif decide ((r.length:Int)-8<ez (r.take 2)+2)then⟨[],0,0,1⟩
 else bif dO ((r.drop 8).take (ez (r.take 2)).toNat) !=ez ((r.drop (8+(ez (r.take 2)).toNat)).take 2)then⟨[],0,0,2⟩
 else⟨(r.drop 8).take (ez (r.take 2)).toNat,ez ((r.drop 2).take 4),a+10+ez (r.take 2),0⟩
def dx (b:List Int) (a:Int):OpR:=bif decide (a<0)||decide (a>(b.length:Int))then⟨[],0,0,2⟩else o7 (b.drop a.toNat) a
theorem BY:∀(l:List Int),(∀x∈l,0<=x/\x<256)->∀s:Int,0<=s->0<=l.foldl (fun n x=>n*256+x) s
 |[],_,s,h=>h
 |x::l,hb,s,h=>by
  have:=hb x (by simp);exact BY l (fun y hy=>hb y (zaN _ hy)) (s*256+x) (by omega)
def QK:aC:=⟨Vq.tab,122,⟨[.ints .u8,.int .i64],[],0⟩,⟨[.ints .u8,.int .i64,.int .i64,.int .i64],[],0⟩,[]⟩
def t122 (m:Nat):List Int × Int->Option (List Un):=fun(a0,a1)=>
 bif decide (a1<0)then
 some ([.l ([]:List Int),.i 0,.i 0,.i 2])
 else
 bif (decide (a1>(a0.length:Int)))then
 some ([.l ([]:List Int),.i 0,.i 0,.i 2])
 else
 chk (true&&(decide (0<=a1)&&decide (a1.toNat<=a0.length/\a0.length<=a0.length)))<|
 lt ((List.take (a0.length-a1.toNat) (List.drop a1.toNat a0)):List Int) fun l2=>
 bif (decide ((l2.length:Int)<8))then
 some ([.l ([]:List Int),.i 0,.i 0,.i 1])
 else
 chk (true&&(true&&decide (0<=2/\2<=l2.length)))<|
 chk (decide ((List.take 2 l2).length<=4)&&(List.take 2 l2).all fun x=>decide (0<=x/\x<256))<|
 chk (true&&(true&&decide (0<=6/\6<=l2.length)))<|
 chk (dF (List.take 6 l2))<|
 chk (true&&(true&&decide (6<=8/\8<=l2.length)))<|
 lt ((List.take 2 (List.drop 6 l2)):List Int) fun l4=>
 chk (decide (l4.length<=4)&&l4.all fun x=>decide (0<=x/\x<256))<|
 bif ((dO (List.take 6 l2)) !=(ez l4))then
 some ([.l ([]:List Int),.i 0,.i 0,.i 2])
 else
 bif (decide ((ez (List.take 2 l2))>60000))then
 some ([.l ([]:List Int),.i 0,.i 0,.i 2])
 else
 bif decide ((w64 ((l2.length:Int)-8))<(w64 ((ez (List.take 2 l2))+2)))then
 some ([.l ([]:List Int),.i 0,.i 0,.i 1])
 else
 lt ((w64 (8+(ez (List.take 2 l2)))):Int) fun x9=>
 chk (decide (0<=x9)&&(true&&decide (8<=x9.toNat/\x9.toNat<=l2.length)))<|
 lt ((List.take (x9.toNat-8) (List.drop 8 l2)):List Int) fun l10=>
 chk (dF l10)<|
 lt ((w64 (8+(ez (List.take 2 l2)))):Int) fun x11=>
 lt ((w64 (8+(ez (List.take 2 l2)))):Int) fun x12=>
 chk (decide (0<=(w64 (x12+2)))&&(decide (0<=x11)&&decide (x11.toNat<=(w64 (x12+2)).toNat/\(w64 (x12+2)).toNat<=l2.length)))<|
 lt ((List.take (((w64 (x12+2)).toNat)-x11.toNat) (List.drop x11.toNat l2)):List Int) fun l13=>
 chk (decide (l13.length<=4)&&l13.all fun x=>decide (0<=x/\x<256))<|
 bif ((dO l10) !=(ez l13))then
 some ([.l ([]:List Int),.i 0,.i 0,.i 2])
 else
 chk (decide (l10.length<1000000))<|
 chk (true&&(true&&decide (2<=6/\6<=l2.length)))<|
 lt ((List.take 4 (List.drop 2 l2)):List Int) fun l15=>
 chk (decide (l15.length<=4)&&l15.all fun x=>decide (0<=x/\x<256))<|
 some ([.l l10,.i (ez l15),.i (w64 ((w64 ((w64 (a1+8))+(ez (List.take 2 l2))))+2)),.i 0])
def f122:List Int × Int->Bool × List Un:=fun(a0,a1)=>(dF a0,[.l ((dx a0 a1).text),.i ((dx a0 a1).seq),.i ((dx a0 a1).next),.i ((dx a0 a1).how)])
theorem PE (a0:List Int) (a1:Int) (hc:(dF a0)=true):∃m,t122 m (a0,a1)=some ([.l ((dx a0 a1).text),.i ((dx a0 a1).seq),.i ((dx a0 a1).next),.i ((dx a0 a1).how)]):=by
 obtain⟨hl,hb⟩:=fN.1 hc;refine⟨0, ?_⟩;unfold t122 dx
 try dsimp only
 by_cases h0:a1<0
 . rw[aQ h0,zaa h0];rfl
 rw[az h0,zap h0]
 by_cases h1:a1>(a0.length:Int)
 . rw[aQ h1,zaa h1];rfl
 rw[az h1,zap h1];refine av (by rw[zaa (show 0<=a1 by omega),zaa (show a1.toNat<=a0.length/\a0.length<=a0.length by omega)];rfl) ?_
 dsimp only[lt,Bool.or_self,cond_false];rw[zbl (show(List.drop a1.toNat a0).length<=a0.length-a1.toNat by rw[za6];omega)];have hbr:∀x∈List.drop a1.toNat a0,0<=x/\x<256:=fun x hx=>hb x (List.mem_of_mem_drop hx)
 have hlr:(List.drop a1.toNat a0).length<=1000000:=by rw[za6];omega
 generalize List.drop a1.toNat a0=r at*
 unfold o7
 by_cases h2:(r.length:Int)<8
 . rw[aQ h2,zaa h2];rfl
 rw[az h2,zap h2];have bt:∀k,∀x∈List.take k r,0<=x/\x<256:=fun k x hx=>hbr x (List.mem_of_mem_take hx)
 have bd:∀j k,∀x∈List.take k (List.drop j r),0<=x/\x<256:=fun j k x hx=>hbr x (List.mem_of_mem_drop (List.mem_of_mem_take hx))
 have few:∀(l:List Int),l.length<=4->(∀x∈l,0<=x/\x<256)->(decide (l.length<=4)&&l.all fun x=>decide (0<=x/\x<256))=true:=fun l h k=>by
  rw[zaa h,zbg,zao];exact fun x hx=>zaa (k x hx)
 have tl:∀k,(List.take k r).length<=k:=fun k=>by rw[zav];omega
 have dl:∀j k,(List.take k (List.drop j r)).length<=k:=fun j k=>by rw[zav];omega
 have tr:∀(k:Nat),k<=r.length->(true&&(true&&decide (0<=k/\k<=r.length)))=true:=fun k h=>by rw[zaa (show 0<=k/\k<=r.length by omega)];rfl
 have tr2:∀(j k:Nat),j<=k->k<=r.length->(true&&(true&&decide (j<=k/\k<=r.length)))=true:=fun j k h h'=>by rw[zaa (show j<=k/\k<=r.length from⟨h,h'⟩)];rfl
 have n0:=BY _ (bt 2) 0 (by omega);rw[show List.foldl (fun n x=>n*256+x) 0 (List.take 2 r)=ez (List.take 2 r) from rfl]at n0;refine av (tr 2 (by omega)) (av (few _ (by have:=tl 2;omega) (bt 2)) (av (tr 6 (by omega)) (av (fN.2 ⟨by have:=tl 6;omega,bt 6⟩) (av (tr2 6 8 (by decide) (by omega)) (av (few _ (by have:=dl 6 2;omega) (bd 6 2)) ?_)))));cases (dO (List.take 6 r) !=ez (List.take 2 (List.drop 6 r)))
 case true=>rfl
 by_cases h3:ez (List.take 2 r)>60000
 . rw[zal,aQ h3,zaa h3];rfl
 rw[zal,az h3,zap h3];generalize ez (List.take 2 r)=n at*
 rw[ab (n:=(r.length:Int)-8) (by omega) (by omega),ab (n:=n+2) (by omega) (by omega),ab (n:=8+n) (by omega) (by omega),ab (n:=8+n+2) (by omega) (by omega)]
 by_cases h4:(r.length:Int)-8<n+2
 . rw[aQ h4,zaa h4];rfl
 rw[az h4,zap h4];have e8:(8+n).toNat=8+n.toNat:=by omega
 have e10:(8+n+2).toNat=8+n.toNat+2:=by omega
 rw[e8,e10,show 8+n.toNat-8=n.toNat by omega,show 8+n.toNat+2-(8+n.toNat)=2 by omega];refine av (by rw[zaa (show 0<=8+n by omega),zaa (show 8<=8+n.toNat/\8+n.toNat<=r.length by omega)];rfl) (av (fN.2 ⟨by have:=dl 8 n.toNat;omega,bd 8 n.toNat⟩) (av (by rw[zaa (show 0<=8+n+2 by omega),zaa (show 0<=8+n by omega),zaa (show 8+n.toNat<=8+n.toNat+2/\8+n.toNat+2<=r.length by omega)];rfl) (av (few _ (by have:=dl (8+n.toNat) 2;omega) (bd (8+n.toNat) 2)) ?_)));cases (dO (List.take n.toNat (List.drop 8 r)) !=ez (List.take 2 (List.drop (8+n.toNat) r)))
 case true=>rfl
 refine av (zaa (by have:=dl 8 n.toNat;omega)) (av (tr2 2 6 (by decide) (by omega)) (av (few _ (by have:=dl 2 4;omega) (bd 2 4)) ?_));rw[ab (n:=a1+8) (by omega) (by omega),ab (n:=a1+8+n) (by omega) (by omega),ab (n:=a1+8+n+2) (by omega) (by omega),show a1+8+n+2=a1+10+n by omega];rfl
theorem EZ:ER 122 (mkE QK.en QK.ex f122):=an ae Vq.right (fun m=>[]) (t:=t122) (by kernel_rfl) (fun m=>aB) (fun m a=>by kernel_rfl) fun(a0,a1) hc=>PE a0 a1 hc
def ZR:Tb Tryz.prog LQ TE XX:=Vq.add 122 _ EZ
def Za:OpR->List Un:=fun r=>[.l r.text,.i r.seq,.i r.next,.i r.how]
def Zk:List Int × Int->Bool × OpR:=fun(a0,a1)=>(dF a0,(dx a0 a1))
theorem Kt:ER 122 (mkB QK.en QK.ex Zk Za):=rebind EZ fun(a0,a1)=>rfl
def IW:Tb Tryz.prog LQ TE XX:=ZR.add 122 _ Kt
@[ext] structure eE where
 count:Int
 bad:Bool
instance : Uns eE := Uns.via (B := Int × Bool) (fun x => (x.count, x.bad)) (fun x => match x with | (count, bad) => ⟨count, bad⟩) (fun _ => rfl)
def qC (l:List Int):Dat:= .r [.r (l.map .n)]
structure S6 where
 l:List Dat
 pos:Int
 ok:Bool
def kj:Nat->List Int->Int->List Dat->S6
 |0,_,a,acc=>⟨acc,a,true⟩
 |k+1,b,a,acc=>
  bif decide (a<(b.length:Int))then
   bif (dx b a).how==1 then⟨acc,a,true⟩
   else bif (dx b a).how==2 then⟨[],0,false⟩
   else bif (dx b a).seq !=(acc.length:Int)+1 then⟨[],0,false⟩
   else kj k b (dx b a).next (acc++[qC (dx b a).text])
  else⟨acc,a,true⟩
def cD (b:List Int):S6:=kj (b.length+1) b 0 []
theorem GQ {r:List Int} {a:Int} (h1:(o7 r a).how≠1) (h2:(o7 r a).how≠2):(o7 r a).next=a+10+ez (r.take 2)/\ez (r.take 2)+10<=(r.length:Int):=by
 unfold o7 at h1 h2⊢
 by_cases c1:(r.length:Int)<8
 . rw[zaa c1]at h1;exact absurd rfl h1
 rw[zap c1]at h1 h2⊢;simp only[zal]at h1 h2⊢;cases c2:(dO (r.take 6) !=ez ((r.drop 6).take 2))
 case true=>rw[c2]at h2;exact absurd rfl h2
 rw[c2]at h1 h2;simp only[zal]at h1 h2⊢
 by_cases c3:ez (r.take 2)>60000
 . rw[zaa c3]at h2;exact absurd rfl h2
 rw[zap c3]at h1 h2⊢;simp only[zal]at h1 h2⊢
 by_cases c4:(r.length:Int)-8<ez (r.take 2)+2
 . rw[zaa c4]at h1;exact absurd rfl h1
 rw[zap c4]at h1 h2⊢;simp only[zal]at h1 h2⊢;cases c5:(dO ((r.drop 8).take (ez (r.take 2)).toNat) !=ez ((r.drop (8+(ez (r.take 2)).toNat)).take 2))
 case true=>rw[c5]at h2;exact absurd rfl h2
 simp only[zal];exact⟨trivial,by omega⟩
theorem xS {b:List Int} {a:Int} (h0:0<=a) (h1:a<=(b.length:Int)):dx b a=o7 (b.drop a.toNat) a:=by
 unfold dx;rw[zap (show ¬a<0 by omega),zap (show ¬a>(b.length:Int) by omega)];rfl
theorem qt {b:List Int} {a:Int} (hb:∀x∈b,0<=x/\x<256) (h0:0<=a) (h1:a<=(b.length:Int)) (k1:(dx b a).how≠1) (k2:(dx b a).how≠2):a+10<=(dx b a).next/\(dx b a).next<=(b.length:Int):=by
 rw[xS h0 h1]at k1 k2⊢;obtain⟨e1,e2⟩:=GQ k1 k2;rw[za6]at e2;have n0:=BY (List.take 2 (b.drop a.toNat)) (fun x hx=>hb x (List.mem_of_mem_drop (List.mem_of_mem_take hx))) 0 (by omega);rw[show List.foldl (fun n x=>n*256+x) 0 (List.take 2 (b.drop a.toNat))=ez (List.take 2 (b.drop a.toNat)) from rfl]at n0;omega
theorem D9 {b:List Int} (hb:∀x∈b,0<=x/\x<256):∀(k:Nat) (a:Int) (acc:List Dat),0<=a->a<=(b.length:Int)->0<=(kj k b a acc).pos/\(kj k b a acc).pos<=(b.length:Int)
 |0,a,acc,h0,h1=>⟨h0,h1⟩
 |k+1,a,acc,h0,h1=>by
  simp only[kj]
  by_cases c:a<(b.length:Int)
  . rw[zaa c,zaw]
    by_cases k1:(dx b a).how=1
    . rw[mw k1];exact⟨h0,h1⟩
    rw[jh k1,zal]
    by_cases k2:(dx b a).how=2
    . rw[mw k2,zaw];exact⟨zb5 _,(by omega:(0:Int)<=(b.length:Int))⟩
    rw[jh k2,zal];cases ((dx b a).seq !=(acc.length:Int)+1)
    . rw[zal];obtain⟨n1,n2⟩:=qt hb h0 h1 k1 k2;exact D9 hb k _ _ (by omega) n2
    . exact⟨zb5 _,(by omega:(0:Int)<=(b.length:Int))⟩
  . rw[zap c];exact⟨h0,h1⟩
theorem N4 {b:List Int} (hb:∀x∈b,0<=x/\x<256):0<=(cD b).pos/\(cD b).pos<=(b.length:Int):=D9 hb _ 0 [] (by omega) (by omega)
def N89:aC:=⟨IW.tab,89,⟨[.ints .u8],[],0⟩,⟨[.af [.ints .u8],.int .i64,.bool],[],0⟩,[]⟩
abbrev I3:Type:=List Int × Int × List Dat
def Ge (m:Nat) (k:I3->Option (List Un)):I3->Option (List Un):=fun(a0,a1,a2)=>
 bif (decide (a1<(a0.length:Int)))then
 chk (dF a0)<|
 bd ((dx a0 a1):OpR) fun r2=>
 bif r2.how==1 then
 some ([.d a2,.i a1,.b true])
 else
 bif r2.how==2 then
 some ([.d ([]:List Dat),.i 0,.b false])
 else
 bif r2.seq !=(w64 ((a2.length:Int)+1))then
 some ([.d ([]:List Dat),.i 0,.b false])
 else
 chk (fits (a2.length+1) 24)<|
 k (a0,r2.next,(a2++([.r [.r (List.map .n r2.text)]])))
 else
 some ([.d a2,.i a1,.b true])
def A3 (m:Nat):Nat->I3->Option (List Un):=bq (Ge m)
theorem G2 (m:Nat) (n:Nat):A3 m (n+1)=Ge m (A3 m n):=rfl
def Lb (F:I3->Option (List Un)):aU:=⟨[.lp [0,0,1,1,1],.blk 0,.code [1,1,1,1]],⟨frm 41 [(0,.ints .u8),(5,.buf 0 1),(6,.int .i64)],[.af [.ints .u8]],0⟩,onU F⟩
theorem Xt (m:Nat):∀n,HO N89 (Lb (A3 m n)):=au ae IW.right (fun k=>[Lb k]) (fun k h=>(aH h aB)) fun k a=>by kernel_rfl
def t89 (m:Nat):List Int->Option (List Un):=fun a0=>
 A3 m m (a0,0,[])
theorem Wf (m:Nat) {b:List Int} (hl:b.length<=1000000) (hb:∀x∈b,0<=x/\x<256):∀(k n:Nat) (a:Int) (acc:List Dat),k<n->(b.length:Int)-a<k->0<=a->a<=(b.length:Int)->(acc.length:Int)<=a->
 A3 m n (b,a,acc)=some [.d (kj k b a acc).l,.i (kj k b a acc).pos,.b (kj k b a acc).ok]:=by
 intro k
 induction k with
 |zero=>intro n a acc hn hk h0 h1 ha;omega
 |succ k ih=>
  intro n a acc hn hk h0 h1 ha;obtain⟨n,rfl⟩:=ak n (by omega);rw[G2];unfold Ge;dsimp only;simp only[kj]
  by_cases c:a<(b.length:Int)
  . rw[zaa c,zaw,zaw];refine av (fN.2 ⟨hl,hb⟩) ?_
    dsimp only[bd]
    by_cases k1:(dx b a).how=1
    . rw[mw k1];rfl
    rw[jh k1,zal,zal]
    by_cases k2:(dx b a).how=2
    . rw[mw k2];rfl
    rw[jh k2,zal,zal,ab (n:=(acc.length:Int)+1) (by omega) (by omega)];obtain⟨n1,n2⟩:=qt hb h0 h1 k1 k2;cases ((dx b a).seq !=(acc.length:Int)+1)
    . rw[zal,zal,bL (by omega) (by omega)];exact ih n _ _ (by omega) (by omega) (by omega) n2 (by simp;omega)
    . rfl
  . rw[zap c];rfl
def f89:List Int->Bool × List Un:=fun a0=>(dF a0,[.d ((cD a0).l),.i ((cD a0).pos),.b ((cD a0).ok)])
theorem Uc (a0:List Int) (hc:(dF a0)=true):∃m,t89 m a0=some ([.d ((cD a0).l),.i ((cD a0).pos),.b ((cD a0).ok)]):=by
 obtain⟨hl,hb⟩:=fN.1 hc;exact⟨a0.length+3,Wf (a0.length+3) hl hb (a0.length+1) _ 0 [] (by omega) (by omega) (by omega) (by omega) (by simp)⟩
theorem Rw:ER 89 (mkE N89.en N89.ex f89):=an ae IW.right (fun m=>[Lb (A3 m m)]) (t:=t89) (by kernel_rfl) (fun m=>(aH (Xt m m) aB)) (fun m a=>by kernel_rfl) fun a0 hc=>Uc a0 hc
def T89:Tb Tryz.prog LQ TE XX:=IW.add 89 _ Rw
structure Zx where
 j:Int
 l:List Dat
 e:Int
 n:bn
 b:List Int
 c:eE
def tR (m:bn) (b:List Int):Zx:=
 bif m.off then⟨-1,[],7,m,b,⟨0,false⟩⟩
 else bif !(cD b).ok then⟨-1,[],8,m,b,⟨0,false⟩⟩
 else bif decide ((cD b).pos<(b.length:Int))then
  bif (bh m).1 then⟨0,(cD b).l,0,{(bh m).2 with mC:=(cD b).pos},b.take (cD b).pos.toNat,⟨((cD b).l.length:Int),false⟩⟩
  else⟨-1,[],7,(bh m).2,b,⟨0,false⟩⟩
 else⟨0,(cD b).l,0,m,b,⟨((cD b).l.length:Int),false⟩⟩
structure Ld where
 e:Int
 c:eE
 n:bn
 b:List Int
def nP (x:List Int) (c:eE) (m:bn) (b:List Int):Ld:=
 bif c.bad then⟨8,c,m,b⟩
 else bif (bh m).1 then
  bif (bh (bh m).2).1 then⟨0,{c with count:=c.count+1},{(bh (bh m).2).2 with mC:=((b++dR (c.count+1) x).length:Int)},b++dR (c.count+1) x⟩
  else⟨7,{c with bad:=true},(bh (bh m).2).2,b++dR (c.count+1) x⟩
 else⟨7,{c with bad:=true},(bh m).2,b⟩
def N93:aC:=⟨T89.tab,93,⟨[.ptr 0 0 0,.ints .u8],[.cells [.ptr 1 0 0,.int .i64,.bool],.cells [.buf 2 1,.int .i64,.bool,.int .i64,.bool],.ints .u8],0⟩,⟨[.int .i64],[.cells [.ptr 1 0 0,.int .i64,.bool],.cells [.buf 3 1,.int .i64,.bool,.int .i64,.bool],.gone,.ints .u8],0⟩,[]⟩
def t93 (m:Nat):List Int × eE × bn × List Int->Option (List Un):=fun(a0,a1,a2,a3)=>
 chk (decide (0<=(w64 (a1.count+1))/\(w64 (a1.count+1))<=4294967295/\a0.length<=60000)&&dF a0)<|
 lt ((dR (w64 (a1.count+1)) a0):List Int) fun l1=>
 bif decide (l1.length=0)then
 both (
 some ([.i 1]++Uns.enc (a1:eE)++Uns.enc (a2:bn)++[.l a3])) (
 bif a1.bad then
 some ([.i 8]++Uns.enc (a1:eE)++Uns.enc (a2:bn)++[.l a3])
 else
 chk (decide (a3.length+l1.length<1000000))<|
 lt ((bif (bh a2).1 then 0 else 7:Int):Int) fun x2=>
 lt ((bif (bh a2).1 then a3++l1 else a3):List Int) fun l3=>
 bif x2==0 then
 lt ((bif (bh ((bh a2).2)).1 then 0 else 7:Int):Int) fun x4=>
 lt ((bif (bh ((bh a2).2)).1 then {(bh ((bh a2).2)).2 with mC:=(l3.length:Int)}else(bh ((bh a2).2)).2):bn) fun g5=>
 bif x4 !=0 then
 some ([.i x4]++Uns.enc (({a1 with bad:=true}:eE):eE)++Uns.enc (g5:bn)++[.l l3])
 else
 some ([.i 0]++Uns.enc (({a1 with count:=(w64 (a1.count+1))}:eE):eE)++Uns.enc (g5:bn)++[.l l3])
 else
 bif x2 !=0 then
 some ([.i x2]++Uns.enc (({a1 with bad:=true}:eE):eE)++Uns.enc (((bh a2).2):bn)++[.l l3])
 else
 some ([.i 0]++Uns.enc (({a1 with count:=(w64 (a1.count+1))}:eE):eE)++Uns.enc (((bh a2).2):bn)++[.l l3]))
 else
 bif a1.bad then
 some ([.i 8]++Uns.enc (a1:eE)++Uns.enc (a2:bn)++[.l a3])
 else
 chk (decide (a3.length+l1.length<1000000))<|
 lt ((bif (bh a2).1 then 0 else 7:Int):Int) fun x6=>
 lt ((bif (bh a2).1 then a3++l1 else a3):List Int) fun l7=>
 bif x6==0 then
 lt ((bif (bh ((bh a2).2)).1 then 0 else 7:Int):Int) fun x8=>
 lt ((bif (bh ((bh a2).2)).1 then {(bh ((bh a2).2)).2 with mC:=(l7.length:Int)}else(bh ((bh a2).2)).2):bn) fun g9=>
 bif x8 !=0 then
 some ([.i x8]++Uns.enc (({a1 with bad:=true}:eE):eE)++Uns.enc (g9:bn)++[.l l7])
 else
 some ([.i 0]++Uns.enc (({a1 with count:=(w64 (a1.count+1))}:eE):eE)++Uns.enc (g9:bn)++[.l l7])
 else
 bif x6 !=0 then
 some ([.i x6]++Uns.enc (({a1 with bad:=true}:eE):eE)++Uns.enc (((bh a2).2):bn)++[.l l7])
 else
 some ([.i 0]++Uns.enc (({a1 with count:=(w64 (a1.count+1))}:eE):eE)++Uns.enc (((bh a2).2):bn)++[.l l7])
def f93:List Int × eE × bn × List Int->Bool × List Un:=fun(a0,a1,a2,a3)=>(decide (0<=a1.count/\a1.count<1000000/\a0.length<=60000/\a3.length<900000)&&dF a0,[.i ((nP a0 a1 a2 a3).e)]++Uns.enc (((nP a0 a1 a2 a3).c):eE)++Uns.enc (((nP a0 a1 a2 a3).n):bn)++[.l ((nP a0 a1 a2 a3).b)])
theorem Wz (a0:List Int) (a1:eE) (a2:bn) (a3:List Int) (hc:(decide (0<=a1.count/\a1.count<1000000/\a0.length<=60000/\a3.length<900000)&&dF a0)=true):∃m,t93 m (a0,a1,a2,a3)=some ([.i ((nP a0 a1 a2 a3).e)]++Uns.enc (((nP a0 a1 a2 a3).c):eE)++Uns.enc (((nP a0 a1 a2 a3).n):bn)++[.l ((nP a0 a1 a2 a3).b)]):=by
 rw[zae]at hc;obtain⟨hd,hb⟩:=hc;obtain⟨h0,h1,h2,h3⟩:=zaj hd;have hs:=mM (a1.count+1) a0;refine⟨0, ?_⟩;unfold t93 nP
 try dsimp only
 rw[ab (n:=a1.count+1) (by omega) (by omega)];refine av (by rw[zaa (show 0<=a1.count+1/\a1.count+1<=4294967295/\a0.length<=60000 by omega),hb];rfl) ?_
 dsimp only[lt];generalize dR (a1.count+1) a0=s at*
 refine dV (zap (by omega)) ?_
 cases a1.bad
 case true=>rfl
 rw[zal,zal];refine av (zaa (by omega)) ?_
 cases (bh a2).1
 case false=>rfl
 cases (bh (bh a2).2).1<;>rfl
theorem I0:ER 93 (mkE N93.en N93.ex f93):=an ae T89.right (fun m=>[]) (t:=t93) (by kernel_rfl) (fun m=>aB) (fun m a=>by kernel_rfl) fun(a0,a1,a2,a3) hc=>Wz a0 a1 a2 a3 hc
def T93:Tb Tryz.prog LQ TE XX:=T89.add 93 _ I0
def aas:Ld->List Un:=fun r=>[.i r.e]++Uns.enc (r.c:eE)++Uns.enc (r.n:bn)++[.l r.b]
def aak:List Int × eE × bn × List Int->Bool × Ld:=fun(a0,a1,a2,a3)=>(decide (0<=a1.count/\a1.count<1000000/\a0.length<=60000/\a3.length<900000)&&dF a0,(nP a0 a1 a2 a3))
theorem Lm:ER 93 (mkB N93.en N93.ex aak aas):=rebind I0 fun(a0,a1,a2,a3)=>rfl
def Ho:Tb Tryz.prog LQ TE XX:=T93.add 93 _ Lm
end
end Go.Proofs.YtfaojedfnjdnnaaGreat
