/- Part of a proof: Closing, ClosePlain, Close, Runs, Lines, TheWord, Record, Back, Own, TheMedium, Frame, Journal, DealDoc, TapeDoc. Conditions: none. -/
import Derived.Test.YtfaojedfnjdnnaaGreatQ5
set_option linter.unusedVariables false
set_option linter.unusedSimpArgs false
set_option linter.unnecessarySimpa false
set_option linter.unusedSectionVars false
namespace Go.Proofs.YtfaojedfnjdnnaaGreat
noncomputable section
open Go Go.Proofs.YtfaojedfnjdnnaaGreat.Ev
set_option maxRecDepth 20000
@[ext] structure cJ where
 call:Bool
 period:Int
 mode:Int
 ar:Int
 fU:Int
 aP:Int
 bc:Int
 draw:Int
 advance:Int
 fee:Int
 due:Int
instance : Uns cJ := Uns.via (B := Bool × Int × Int × Int × Int × Int × Int × Int × Int × Int × Int) (fun x => (x.call, x.period, x.mode, x.ar, x.fU, x.aP, x.bc, x.draw, x.advance, x.fee, x.due)) (fun x => match x with | (call, period, mode, ar, fU, aP, bc, draw, advance, fee, due) => ⟨call, period, mode, ar, fU, aP, bc, draw, advance, fee, due⟩) (fun _ => rfl)
@[ext] structure cC where
 eE:Int
 aN:Int
 bq:Int
 out:Int
 xD:Int
instance : Uns cC := Uns.via (B := Int × Int × Int × Int × Int) (fun x => (x.eE, x.aN, x.bq, x.out, x.xD)) (fun x => match x with | (eE, aN, bq, out, xD) => ⟨eE, aN, bq, out, xD⟩) (fun _ => rfl)
def eH (a:av) (p bal r:Int):Int:=GQ bal r a.basis (gS a.year a.month 1 p) (gQ a.year a.month 1 p) (iZ a.year a.month 1 p) (gS a.year a.month 1 (p+1)) (gQ a.year a.month 1 (p+1)) (iZ a.year a.month 1 (p+1))
theorem wo {y m p:Int} (h1:1<=y) (h2:y<=9000) (h3:1<=m) (h4:m<=12) (h5:0<=p) (h6:p<=700):1<=gS y m 1 p/\gS y m 1 p<=9999/\1<=gQ y m 1 p/\gQ y m 1 p<=12/\iZ y m 1 p=1/\cD (gS y m 1 p) (gQ y m 1 p) (iZ y m 1 p)=true/\12*gS y m 1 p+gQ y m 1 p=12*y+m+p:=by
 have l1:=pZ (y:=y) (m:=m) h1 (by omega) h3 h4;have hs:jc y m 1 p=true:=by
  unfold jc;rw[show cD y m 1=true from eJ.2 ⟨by omega,by omega⟩];simp only[zbb,zag];omega
 unfold gS gQ iZ;rw[hs,if_pos rfl,if_pos rfl,if_pos rfl];have l2:=pZ (y:=(12*y+m-1+p)/12) (m:=(12*y+m-1+p)%12+1) (by omega) (by omega) (by omega) (by omega);have hd:min 1 (dC ((12*y+m-1+p)/12) ((12*y+m-1+p)%12+1))=1:=by omega
 rw[hd];exact⟨by omega,by omega,by omega,by omega,rfl,eJ.2 ⟨by omega,by omega⟩,by omega⟩
theorem Hg {b y m y' m':Int} (h1:1<=y) (h2:y<=9999) (h3:1<=m) (h4:m<=12) (h5:12*y'+m'=12*y+m+1) (h6:1<=m') (h7:m'<=12) (r1:cD y m 1=true) (r2:cD y' m' 1=true):0<=mI b y m 1 y' m' 1/\mI b y m 1 y' m' 1<=731:=by
 have n1:=vK r1;have n2:=vK r2;have a1:=sh h1;have a2:=sh (y:=y+1) (by omega);have q1:=sH y;have q2:=sH (y+1);unfold mI
 split
 . split
   . unfold com;rw[if_neg (by omega)];omega
   . split
     . rename_i h _ _;have hy:y'=y\/y'=y+1:=by omega
       rcases hy with rfl|rfl<;>omega
     . omega
 . omega
theorem NJ {n b:Int} (p:Int) (hp:p=3600000\/p=3650000) (h1:0<=n) (h2:n<=1099511627776) (h3:0<=b) (h4:b<=3655000):0<=mdV n b p 2/\mdV n b p 2<=1200000000000:=by
 unfold mdV
 split
 . have hm:=zb3 h4 h1;have hz:=za9 h1 h3;have e:=zbm (n*b) p;have r0:=zbz (n*b) (show p≠0 by omega);have d0:0<=n*b/p:=zbG hz (by omega);have d1:n*b/p<=1117000000000:=by
    have:n*b<4018800800000000001:=by omega
    rcases hp with rfl|rfl<;>omega
   unfold mdQ
   split<;>omega
 . omega
theorem te {a:av} {p bal:Int} (r:Int) (h1:1<=a.year) (h2:a.year<=9000) (h3:1<=a.month) (h4:a.month<=12) (h5:0<=p) (h6:p<=650) (b0:0<=bal) (b1:bal<=1099511627776):0<=eH a p bal r/\eH a p bal r<=1200000000000:=by
 obtain⟨s1,s2,s3,s4,s5,s6,s7⟩:=wo h1 h2 h3 h4 h5 (by omega);obtain⟨t1,t2,t3,t4,t5,t6,t7⟩:=wo h1 h2 h3 h4 (show 0<=p+1 by omega) (by omega);unfold eH GQ;rw[s5]at s6⊢;rw[t5]at t6⊢
 split
 . rename_i hr;have hd:=Hg (b:=a.basis) s1 s2 s3 s4 (by omega) t3 t4 s6 t6;have k0:=za9 hr.1 hd.1;have k1:=Int.mul_le_mul hr.2 hd.2 hd.1 (show(0:Int)<=5000 by omega);exact NJ _ (by unfold Bg;split<;>omega) b0 b1 k0 (by omega)
 . omega
def fA (a:av) (p:Int) (d:Dat):Dat:=HJ (eH a p (bA d) (d.i 2)) d
theorem Nt {d:Dat} (h:bn d=true):0<=bA d/\bA d<=1099511627776:=by
 have:=cS h;unfold bA;omega
def ZM:aA:=⟨Ur.tab,140,⟨[.ptr 0 0 0,.z0],aU 0,0⟩,⟨[.z0,.z0],aU 0,0⟩,[]⟩
abbrev E7:Type:=Int × Int × Int × Int × av × aw × aq × LD0 × LD0 × LD0 × LD0 × LD0 × LD0 × LD0 × Int × Int × Int × Int × Int × Int
def yF (m:Nat) (k:E7->OU0):E7->OU0:=fun(a0,a1,a2,a3,a4,a5,a6,a7,a8,a9,a10,a11,a12,a13,a14,a15,a16,a17,a18,a19)=>
 bif decide (a3<a2)then
 chk (inb a3 a13.length)<|
 chk (decide (a3.toNat<a13.length))<|
 lt (ai a13 a3.toNat:Dat) fun d9=>
 chk (decide (a3.toNat<a13.length))<|
 lt ((GQ (w64 (w64 ((d9.i 1)-w64 ((d9.i 3)-(d9.i 4)))-(d9.i 6))) ((ai a13 a3.toNat).i 2) a4.basis a14 a15 a16 a17 a18 a19):Int) fun x12=>
 chk (decide (0<=x12/\x12<=1125899906842624)&&(decide (0<=(a3.toNat:Int)/\(a3.toNat:Int).toNat<a13.length)&&bn (ai a13 (a3.toNat:Int).toNat)))<|
 k (a0,(w64 (a1+x12)),a2,(w64 (a3+1)),a4,a5,a6,a7,a8,a9,a10,a11,a12,(a13.set (a3.toNat:Int).toNat (HJ x12 (ai a13 (a3.toNat:Int).toNat))),a14,a15,a16,a17,a18,a19)
 else
 some ([.i a0,.i a1]++Uns.enc (a4:av)++Uns.enc (a5:aw)++Uns.enc (a6:aq)++[.d a7,.d a8,.d a9,.d a10,.d a11,.d a12,.d a13])
def sD (m:Nat):Nat->E7->OU0:=aZ (yF m)
theorem vY (m:Nat) (n:Nat):sD m (n+1)=yF m (sD m n):=rfl
def IX (F:E7->OU0):aQ:=⟨[.lp [0,1,0,1,1,1,1,1],.blk 0,.code [1,1,1,1,1,1]],⟨frm 88 [(0,.ptr 0 0 0),(6,.ptr 9 0 0),(7,.ptr 10 0 0),(8,.z0),(10,.z0),(49,.z0),(50,.z0)],aU 0++[.cells [.z0,.z0,.z0],.cells [.z0,.z0,.z0]],0⟩,onU F⟩
theorem YH (m:Nat):∀n,HO ZM (IX (sD m n)):=an ae Ur.right (fun k=>[IX k]) (fun k h=>(aI h az)) fun k a=>by kernel_rfl
def t140 (m:Nat):Int × av × aw × aq × LD0 × LD0 × LD0 × LD0 × LD0 × LD0 × LD0->OU0:=fun(a0,a1,a2,a3,a4,a5,a6,a7,a8,a9,a10)=>
 lt ((gS a1.year a1.month 1 a3.period):Int) fun x1=>
 lt ((gQ a1.year a1.month 1 a3.period):Int) fun x2=>
 lt ((iZ a1.year a1.month 1 a3.period):Int) fun x3=>
 lt ((gS a1.year a1.month 1 (w64 (a3.period+1))):Int) fun x4=>
 lt ((gQ a1.year a1.month 1 (w64 (a3.period+1))):Int) fun x5=>
 lt ((iZ a1.year a1.month 1 (w64 (a3.period+1))):Int) fun x6=>
 lt ((GQ a0 a2.fee a1.basis x1 x2 x3 x4 x5 x6):Int) fun x7=>
 sD m m (x7,0,(a10.length:Int),0,a1,a2,({a3 with fee:=(w64 (a3.fee+x7))}:aq),a4,a5,a6,a7,a8,a9,a10,x1,x2,x3,x4,x5,x6)
theorem TN (m:Nat) (fe:Int) (xa:av) (xb:aw) (xn:aq) (x1 x2 x3 x4 x5 x6:LD0) (p:Int) (hf:∀d,bn d=true->0<=eH xa p (bA d) (d.i 2)/\eH xa p (bA d) (d.i 2)<=1200000000000):∀(rest pre:LD0) (n:Nat) (s:Int),rest.length<n->(pre++rest).length<=1000->(∀d∈rest,bn d=true)->0<=s->s<=1200000000000*pre.length->
 sD m n (fe,s,((pre++rest).length:Int),(pre.length:Int),xa,xb,xn,x1,x2,x3,x4,x5,x6,pre++rest,gS xa.year xa.month 1 p,gQ xa.year xa.month 1 p,iZ xa.year xa.month 1 p,gS xa.year xa.month 1 (p+1),gQ xa.year xa.month 1 (p+1),iZ xa.year xa.month 1 (p+1))=
  some ([.i fe,.i (s+bY (fun d=>eH xa p (bA d) (d.i 2)) rest)]++Uns.enc xa++Uns.enc xb++Uns.enc xn++[.d x1,.d x2,.d x3,.d x4,.d x5,.d x6,.d (pre++rest.map (fA xa p))]):=by
 intro rest
 induction rest with
 |nil=>
  intro pre n s hn hl hg s0 s1;obtain⟨n,rfl⟩:=ah n (by simp at hn;omega);rw[vY];unfold yF;dsimp only;simp[ay,bY]
 |cons x rest ih=>
  intro pre n s hn hl hg s0 s1;obtain⟨n,rfl⟩:=ah n (by simp at hn;omega);simp only[zac,zab]at hn hl;have hx:=cS (hg x (by simp));have hb:=hf x (hg x (by simp));have hgx:=hg x (by simp);have:=ih (pre++[fA xa p x]) n (s+eH xa p (bA x) (x.i 2)) (by omega) (by simp;omega) (fun d hd=>hg d (by simp[hd])) (by omega) (by simp;omega);have e:w64 (w64 (x.i 1-w64 (x.i 3-x.i 4))-x.i 6)=bA x:=by rw[aa (n:=x.i 3-x.i 4) (by omega) (by omega),aa (n:=x.i 1-_) (by omega) (by omega),aa (by omega) (by omega)];rfl
  have e2:∀z,GQ z (x.i 2) xa.basis (gS xa.year xa.month 1 p) (gQ xa.year xa.month 1 p) (iZ xa.year xa.month 1 p) (gS xa.year xa.month 1 (p+1)) (gQ xa.year xa.month 1 (p+1)) (iZ xa.year xa.month 1 (p+1))=eH xa p z (x.i 2):=fun z=>rfl
  rw[vY];unfold yF;dsimp only;simp only[bY,zaS,LNi,ax,lt_eq,e,e2,hgx,zbf,DR];rw[show HJ (eH xa p (bA x) (x.i 2)) x=fA xa p x from rfl];simp(disch:=omega) only[TRa,TRi,aa,LNl,LNi,zad,ax];simp only[LNl,LNi,zad]at this⊢;exact this
def f140:Int × av × aw × aq × LD0 × LD0 × LD0 × LD0 × LD0 × LD0 × LD0->Bool × List Un:=fun(a0,a1,a2,a3,a4,a5,a6,a7,a8,a9,a10)=>(decide ((1<=a1.year/\a1.year<=9000/\1<=a1.month/\a1.month<=12)/\(0<=a3.period/\a3.period<=600)/\(0<=a3.fee/\a3.fee<=1125899906842624)/\(0<=a0/\a0<=1099511627776))&&(decide (a10.length<=1000)&&a10.all bn),[.i (eH a1 a3.period a0 a2.fee),.i (bY (fun d=>eH a1 a3.period (bA d) (d.i 2)) a10)]++Uns.enc ((a1):av)++Uns.enc ((a2):aw)++Uns.enc (({a3 with fee:=a3.fee+eH a1 a3.period a0 a2.fee}):aq)++[.d (a4),.d (a5),.d (a6),.d (a7),.d (a8),.d (a9),.d (a10.map (fA a1 a3.period))])
theorem OQ:ER 140 (mkE ZM.en ZM.ex f140):=ak ae Ur.right (fun m=>[IX (sD m m)]) (t:=t140) (by kernel_rfl) (fun m=>(aI (YH m m) az)) (fun m a=>by kernel_rfl) fun(a0,a1,a2,a3,a4,a5,a6,a7,a8,a9,a10) hc=>by
 dsimp only[f140]at hc⊢;simp only[zae,zag,zam]at hc;obtain⟨⟨⟨h1,h2,h3,h4⟩,⟨h5,h6⟩,⟨h7,h8⟩,h9,h10⟩,h11,h12⟩:=hc;have hs:=te a2.fee h1 h2 h3 h4 h5 (show a3.period<=650 by omega) h9 h10;have hf:∀d,bn d=true->0<=eH a1 a3.period (bA d) (d.i 2)/\eH a1 a3.period (bA d) (d.i 2)<=1200000000000:=fun d hd=>te _ h1 h2 h3 h4 h5 (by omega) (Nt hd).1 (Nt hd).2
 refine⟨a10.length+1, ?_⟩;unfold t140;dsimp only[lt];rw[aa (n:=a3.period+1) (by omega) (by omega)];refine(show sD _ _ (eH a1 a3.period a0 a2.fee,0,(a10.length:Int),0,a1,a2,{a3 with fee:=w64 (a3.fee+eH a1 a3.period a0 a2.fee)},a4,a5,a6,a7,a8,a9,a10,_,_,_,_,_,_)=_ from ?_);rw[aa (n:=a3.fee+_) (by omega) (by omega)];exact(TN _ _ a1 a2 _ a4 a5 a6 a7 a8 a9 a3.period hf a10 [] (a10.length+1) 0 (by omega) (by simpa using h11) h12 (by omega) (by simp)).trans (by simp only[za4,zat])
def UR:TB:=Ur.ad OQ
def H9 (x:Int) (d:Dat):Int:=max (min x (d.i 5)) 0
def qG (x:Int) (d:Dat):Dat:= .r [.n (d.i 0),.n (d.i 1),.n (d.i 2),.n (d.i 3),.n (d.i 4),.n (d.i 5-H9 x d),.n (d.i 6)]
def lF (n:aq) (p:Dat):aq:=if p.i 1=1 then {n with fee:=n.fee-p.i 3}else if p.i 1=2 then {n with out:=n.out-p.i 3}else if p.i 1=6 then {n with rin:=n.rin+p.i 3}else n
def ob (c:LD0) (p:Dat):LD0:=if p.i 1=1 then c else if p.i 1=2 then c else if p.i 1=6 then c else if p.i 1=3 then c.set (p.i 2).toNat (qG (p.i 3) (ai c (p.i 2).toNat))else c.set (p.i 2).toNat (yZ (p.i 3) (ai c (p.i 2).toNat))
def eP:LD0->aq->LD0->aq × LD0
 |[],n,c=>(n,c)
 |p::l,n,c=>eP l (lF n p) (ob c p)
def N0 (k:Nat) (p:Dat):Bool:=decide (0<=p.i 3)&&(decide (p.i 1=1\/p.i 1=2\/p.i 1=6)||decide (0<=p.i 2/\p.i 2<(k:Int)))
theorem yP {k:Nat} {p:Dat} (h:N0 k p=true):0<=p.i 3/\((p.i 1=1\/p.i 1=2\/p.i 1=6)\/(0<=p.i 2/\p.i 2<(k:Int))):=by
 simp only[N0,zae,zbj,zag]at h;exact h
def G0 (l:LD0) (n:aq) (c:LD0):Bool:=decide (l.length<=1000000)&&(l.all (N0 c.length)&&(decide (au 3 l<=144115188075855872/\(0<=n.fee/\n.fee<=144115188075855872)/\(0<=n.out/\n.out<=144115188075855872)/\(0<=n.rin/\n.rin<=144115188075855872))&&(decide (c.length<=1000)&&c.all bn)))
theorem B6 (c:LD0) (p:Dat):(ob c p).length=c.length:=by unfold ob;repeat' split
 all_goals simp
theorem EZ {d:Dat} (x:Int) (h:bn d=true):bn (qG x d)=true:=by
 have:=cS h;refine zaa ?_
 simp only[qG,H9,fL,gR,AQ,rE,sf];omega
theorem JM {c:LD0} {p:Dat} (hp:N0 c.length p=true) (h:fm c):fm (ob c p):=by
 have hp:=yP hp;unfold ob
 by_cases h1:p.i 1=1
 . rw[if_pos h1];exact h
 rw[if_neg h1]
 by_cases h2:p.i 1=2
 . rw[if_pos h2];exact h
 rw[if_neg h2]
 by_cases h3:p.i 1=6
 . rw[if_pos h3];exact h
 rw[if_neg h3];have hj:(p.i 2).toNat<c.length:=by omega
 split
 . exact qQ h (EZ _ (di hj h.2))
 . exact qQ h (NV _ (di hj h.2))
def Zc:aA:=⟨UR.tab,147,⟨[.np 0 0 0,.ab (sI 4)],aU 0,0⟩,⟨[],aU 0,0⟩,[]⟩
abbrev EM:Type:=Int × LD0 × Int × Int × av × aw × aq × LD0 × LD0 × LD0 × LD0 × LD0 × LD0 × LD0
def yp (m:Nat) (k:EM->OU0):EM->OU0:=fun(a0,a1,a2,a3,a4,a5,a6,a7,a8,a9,a10,a11,a12,a13)=>
 bif decide (a3<a2)then
 chk (inb a3 a1.length)<|
 chk (decide (a3.toNat<a1.length))<|
 lt (ai a1 a3.toNat:Dat) fun d1=>
 bif (d1.i 1)==1 then
 chk (decide (0<=a0))<|
 chk (decide (0<=a0))<|
 k (a0,a1,a2,(w64 (a3+1)),a4,a5,({a6 with fee:=(w64 (a6.fee-(d1.i 3)))}:aq),a7,a8,a9,a10,a11,a12,a13)
 else
 bif (d1.i 1)==2 then
 chk (decide (0<=a0))<|
 chk (decide (0<=a0))<|
 k (a0,a1,a2,(w64 (a3+1)),a4,a5,({a6 with out:=(w64 (a6.out-(d1.i 3)))}:aq),a7,a8,a9,a10,a11,a12,a13)
 else
 bif (d1.i 1)==6 then
 chk (decide (0<=a0))<|
 chk (decide (0<=0)&&decide ((0:Int)<=a6.rin/\(0:Int)<=(d1.i 3)/\a6.rin+(d1.i 3)<=(1152921504606846976:Int)))<|
 k (a0,a1,a2,(w64 (a3+1)),a4,a5,({a6 with rin:=a6.rin+(d1.i 3)}),a7,a8,a9,a10,a11,a12,a13)
 else
 bif (d1.i 1)==3 then
 chk (decide (0<=a0))<|
 chk (inb (d1.i 2) a13.length)<|
 chk (decide ((d1.i 2).toNat<a13.length))<|
 lt (ai a13 ((d1.i 2).toNat):Dat) fun d5=>
 lt ((if (d5.i 5)<(d1.i 3)then(d5.i 5)else(d1.i 3)):Int) fun x6=>
 chk (decide ((d1.i 2).toNat<a13.length))<|
 chk (decide ((d1.i 2).toNat<a13.length))<|
 lt (ai a13 ((d1.i 2).toNat):Dat) fun d9=>
 k (a0,a1,a2,(w64 (a3+1)),a4,a5,a6,a7,a8,a9,a10,a11,a12,(List.set a13 ((d1.i 2).toNat) (.r [.n (d9.i 0),.n (d9.i 1),.n (d9.i 2),.n (d9.i 3),.n (d9.i 4),.n (w64 (((ai a13 ((d1.i 2).toNat)).i 5)-(if x6<0 then 0 else x6))),.n (d9.i 6)])))
 else
 chk (decide (0<=a0))<|
 chk (inb (d1.i 2) a13.length)<|
 chk (decide (0<=((d1.i 2).toNat:Int)/\((d1.i 2).toNat:Int).toNat<a13.length)&&bn (ai a13 ((d1.i 2).toNat:Int).toNat))<|
 k (a0,a1,a2,(w64 (a3+1)),a4,a5,a6,a7,a8,a9,a10,a11,a12,(a13.set ((d1.i 2).toNat:Int).toNat (yZ (d1.i 3) (ai a13 ((d1.i 2).toNat:Int).toNat))))
 else
 some (Uns.enc (a4:av)++Uns.enc (a5:aw)++Uns.enc (a6:aq)++[.d a7,.d a8,.d a9,.d a10,.d a11,.d a12,.d a13])
def vu (m:Nat):Nat->EM->OU0:=aZ (yp m)
theorem wR (m:Nat) (n:Nat):vu m (n+1)=yp m (vu m n):=rfl
def KE (F:EM->OU0):aQ:=⟨[.lp [0,1],.blk 0],⟨frm 67 [(0,.np 0 0 0),(6,.ab (sI 4)),(7,.z0),(8,.z0)],aU 0,0⟩,onU F⟩
theorem Y0 (m:Nat):∀n,HO Zc (KE (vu m n)):=an ae UR.right (fun k=>[KE k]) (fun k h=>(aI h az)) fun k a=>by kernel_rfl
def t147 (m:Nat):Int × LD0 × av × aw × aq × LD0 × LD0 × LD0 × LD0 × LD0 × LD0 × LD0->OU0:=fun(a0,a1,a2,a3,a4,a5,a6,a7,a8,a9,a10,a11)=>
 vu m m (a0,a1,(a1.length:Int),0,a2,a3,a4,a5,a6,a7,a8,a9,a10,a11)
theorem ZH (m:Nat) (p0:Int) (hp0:0<=p0) (xa:av) (xb:aw) (x1 x2 x3 x4 x5 x6:LD0):∀(rest pre:LD0) (n:Nat) (y:aq) (c:LD0),rest.length<n->(pre++rest).length<=1000000->(∀d∈rest,N0 c.length d=true)->fm c->
 (-288230376151711744<=y.fee-au 3 rest/\y.fee<=288230376151711744)->(-288230376151711744<=y.out-au 3 rest/\y.out<=288230376151711744)->(0<=y.rin/\y.rin+au 3 rest<=576460752303423488)->
 vu m n (p0,pre++rest,((pre++rest).length:Int),(pre.length:Int),xa,xb,y,x1,x2,x3,x4,x5,x6,c)=some (Uns.enc xa++Uns.enc xb++Uns.enc (eP rest y c).1++[.d x1,.d x2,.d x3,.d x4,.d x5,.d x6,.d (eP rest y c).2]):=by
 intro rest
 induction rest with
 |nil=>
  intro pre n y c hn hl hp hg f1 f2 f3;obtain⟨n,rfl⟩:=ah n (by simp at hn;omega);rw[wR];unfold yp;dsimp only;simp[ay,eP]
 |cons x rest ih=>
  intro pre n y c hn hl hp hg f1 f2 f3;obtain⟨n,rfl⟩:=ah n (by simp at hn;omega);simp only[zac,zab]at hn hl;have hx:=yP (hp x (by simp));have hr:=fun d hd=>hp d (zay _ hd)
  have hs:=gv 3 rest fun d hd=>(yP (hr d hd)).1
  have hT:=JM (hp x (by simp)) hg;have hN:(-288230376151711744<=(lF y x).fee-au 3 rest/\(lF y x).fee<=288230376151711744)/\(-288230376151711744<=(lF y x).out-au 3 rest/\(lF y x).out<=288230376151711744)/\(0<=(lF y x).rin/\(lF y x).rin+au 3 rest<=576460752303423488):=by
   simp only[au]at f1 f2 f3;unfold lF
   by_cases h1:x.i 1=1
   . rw[if_pos h1];simp only;omega
   rw[if_neg h1]
   by_cases h2:x.i 1=2
   . rw[if_pos h2];simp only;omega
   rw[if_neg h2]
   by_cases h3:x.i 1=6
   . rw[if_pos h3];simp only;omega
   rw[if_neg h3];omega
  have:=ih (pre++[x]) n (lF y x) (ob c x) (by omega) (by simp;omega) (by rw[B6];exact hr) hT hN.1 hN.2.1 hN.2.2;simp only[au]at f1 f2 f3;simp only[eP];rw[wR];unfold yp;dsimp only;unfold lF ob at this⊢
  by_cases h1:x.i 1=1
  . simp only[if_pos h1]at this⊢;simp(disch:=omega) only[TRa,TRi,aa,LNl,LNi,zad,ax];simp only[LNl,LNi,zad]at this⊢;exact this
  simp only[if_neg h1]at this⊢
  by_cases h2:x.i 1=2
  . simp only[if_pos h2]at this⊢;simp(disch:=omega) only[TRa,TRi,aa,LNl,LNi,zad,ax];simp only[LNl,LNi,zad]at this⊢;exact this
  simp only[if_neg h2]at this⊢
  by_cases h6:x.i 1=6
  . simp only[if_pos h6]at this⊢;simp only[show decide ((0:Nat)<=0)=true from rfl,zbb];simp(disch:=omega) only[TRa,TRi,aa,LNl,LNi,zad,ax];simp only[LNl,LNi,zad]at this⊢;exact this
  simp only[if_neg h6]at this⊢;have hj:(x.i 2).toNat<c.length:=by omega
  have hd:=cS (di hj hg.2);have hd2:=di hj hg.2;have hjn:(((x.i 2).toNat:Int)).toNat=(x.i 2).toNat:=zau _
  by_cases h3:x.i 1=3
  . simp only[if_pos h3]at this⊢;have e:(if (if (ai c (x.i 2).toNat).i 5<x.i 3 then(ai c (x.i 2).toNat).i 5 else x.i 3)<0 then 0 else(if (ai c (x.i 2).toNat).i 5<x.i 3 then(ai c (x.i 2).toNat).i 5 else x.i 3))=H9 (x.i 3) (ai c (x.i 2).toNat):=by unfold H9;omega
    have hv:0<=H9 (x.i 3) (ai c (x.i 2).toNat)/\H9 (x.i 3) (ai c (x.i 2).toNat)<=(ai c (x.i 2).toNat).i 5:=by unfold H9;omega
    simp(disch:=omega) only[lt_eq,bQ,aJ,aL,dZ,dL,LNl,LNi,zad,ax,e];rw[aa (n:=(ai c (x.i 2).toNat).i 5-_) (by omega) (by omega),aa (by omega) (by omega)];unfold qG at this;simp only[LNl,LNi,zad]at this⊢;exact this
  . simp only[if_neg h3]at this⊢;simp(disch:=omega) only[lt_eq,bQ,aJ,aL,dZ,dL,LNl,LNi,zad,ax,hd2,zbf];rw[aa (by omega) (by omega)];simp only[LNl,LNi,zad]at this⊢;exact this
def f147:Int × LD0 × av × aw × aq × LD0 × LD0 × LD0 × LD0 × LD0 × LD0 × LD0->Bool × List Un:=fun(a0,a1,a2,a3,a4,a5,a6,a7,a8,a9,a10,a11)=>(decide (0<=a0)&&G0 a1 a4 a11,Uns.enc ((a2):av)++Uns.enc ((a3):aw)++Uns.enc (((eP a1 a4 a11).1):aq)++[.d (a5),.d (a6),.d (a7),.d (a8),.d (a9),.d (a10),.d ((eP a1 a4 a11).2)])
theorem QD:ER 147 (mkE Zc.en Zc.ex f147):=ak ae UR.right (fun m=>[KE (vu m m)]) (t:=t147) (by kernel_rfl) (fun m=>(aI (Y0 m m) az)) (fun m a=>by kernel_rfl) fun(a0,a1,a2,a3,a4,a5,a6,a7,a8,a9,a10,a11) hc=>by
 dsimp only[f147]at hc⊢;simp only[G0,zae,zag,zam]at hc;obtain⟨h0,h1,h2,⟨h3,h4,h5,h6⟩,h7,h8⟩:=hc;have hs:=gv 3 a1 fun d hd=>(yP (h2 d hd)).1
 refine⟨a1.length+1, ?_⟩;exact ZH _ a0 h0 a2 a3 a5 a6 a7 a8 a9 a10 a1 [] (a1.length+1) a4 a11 (by omega) (by simpa using h1) h2 ⟨h7,h8⟩ (by omega) (by omega) (by omega)
def TM:TB:=UR.ad QD
def Dc (parts aN has:Int):Int:=max (mdV aN parts 10000 0-has) 0
def gP (d:Dat):Dat:= .r [.n (d.i 0),.n (bA d),.n (d.i 5)]
theorem YG (n b p h:Int):0<=mdV n b p h/\mdV n b p h<=1152921504606846976:=by
 unfold mdV
 split
 . rename_i hk;simp only[rX,zag]at hk;have:0<=n*b/p:=zbG (za9 hk.1 (by omega)) (by omega);refine⟨?_,by omega⟩;unfold mdQ
   split<;>omega
 . omega
theorem Dt {l:LD0} (h1:l.length<=1000) (h2:∀d∈l,fG d=true):0<=au 1 l/\au 1 l<=1099511627776000:=by
 have:=tP 1 1099511627776 l fun d hd=>tU (h2 d hd)
 omega
def XI:aA:=⟨TM.tab,145,⟨[.ptr 0 0 0,.agg [.z0,.z0,.z0,.z0]],aU 0,9⟩,⟨[.agg [.z0,.z0,.z0,.z0,.buf 9 3]],aU 0++[.ab (sI 3)],9⟩,[]⟩
abbrev D9:Type:=Int × Int × av × aw × aq × LD0 × LD0 × LD0 × LD0 × LD0 × LD0 × LD0 × Int × Int × Int × Int × Int × Int × Int × Int × LD0 × LD0
def yG (m:Nat) (k:D9->OU0):D9->OU0:=fun(a0,a1,a2,a3,a4,a5,a6,a7,a8,a9,a10,a11,a12,a13,a14,a15,a16,a17,a18,a19,a20,a21)=>
 bif decide (a1<a0)then
 chk (inb a1 a11.length)<|
 chk (decide (a1.toNat<a11.length))<|
 lt (ai a11 a1.toNat:Dat) fun d8=>
 chk (fits (a21.length+1) 24)<|
 k (a0,(w64 (a1+1)),a2,a3,a4,a5,a6,a7,a8,a9,a10,a11,a12,a13,a14,a15,a16,a17,a18,a19,a20,(a21++([.r [.n (d8.i 0),.n (w64 (w64 ((d8.i 1)-w64 ((d8.i 3)-(d8.i 4)))-(d8.i 6))),.n (d8.i 5)]])))
 else
 some ([.i a16,.i a17,.i a18,.i a19]++Uns.enc (a2:av)++Uns.enc (a3:aw)++Uns.enc (a4:aq)++[.d a5,.d a6,.d a7,.d a8,.d a9,.d a10,.d a11,.d a21])
def rR (m:Nat):Nat->D9->OU0:=aZ (yG m)
theorem wE (m:Nat) (n:Nat):rR m (n+1)=yG m (rR m n):=rfl
def Jo (F:D9->OU0):aQ:=⟨[.lp [0,1,0,1,1,1],.blk 0,.code [1,1,1,1]],⟨frm 78 [(4,.ptr 9 0 0),(9,.ptr 10 0 0),(57,.buf 8 7),(58,.z0),(59,.z0)],aU 0++[.cells [.z0,.z0,.z0,.z0,.buf 11 3],.cells [.z0,.z0,.z0,.z0,.buf 12 3],.ab (sI 3),.ab (sI 3)],9⟩,onU F⟩
theorem Yk (m:Nat):∀n,HO XI (Jo (rR m n)):=an ae TM.right (fun k=>[Jo k]) (fun k h=>(aI h az)) fun k a=>by kernel_rfl
def t145 (m:Nat):Int × Int × Int × Int × av × aw × aq × LD0 × LD0 × LD0 × LD0 × LD0 × LD0 × LD0->OU0:=fun(a0,a1,a2,a3,a4,a5,a6,a7,a8,a9,a10,a11,a12,a13)=>
 chk (decide (0<=0)&&(decide (a13.length<=1000)&&a13.all bn))<|
 lt ((w64 ((w64 (a0+a3))+a2)):Int) fun x1=>
 chk (decide (0<([.r [.r a12]]:LD0).length)&&(decide (((ai ([.r [.r a12]]:LD0) 0).d 0).length<=1000)&&((ai ([.r [.r a12]]:LD0) 0).d 0).all fG))<|
 lt ((w64 (a6.rin-a6.bM)):Int) fun x4=>
 lt ((mdV (au 1 ((ai ([.r [.r a12]]:LD0) 0).d 0)) a5.target 10000 0):Int) fun x5=>
 rR m m ((a13.length:Int),0,a4,a5,a6,a7,a8,a9,a10,a11,a12,a13,0,0,0,0,a6.fee,a6.out,(if (bY bA a13)<x1 then(bY bA a13)else x1),(if (w64 (x5-x4))<0 then 0 else(w64 (x5-x4))),[],[])
theorem acV (m:Nat) (xa:av) (xb:aw) (xn:aq) (x1 x2 x3 x4 x5 x6 z0:LD0) (z1 z2 z3 z4 w1 w2 w3 w4:Int):∀(rest pre:LD0) (n:Nat),rest.length<n->(pre++rest).length<=1000->(∀d∈rest,bn d=true)->
 rR m n (((pre++rest).length:Int),(pre.length:Int),xa,xb,xn,x1,x2,x3,x4,x5,x6,pre++rest,z1,z2,z3,z4,w1,w2,w3,w4,z0,pre.map gP)=
  some ([.i w1,.i w2,.i w3,.i w4]++Uns.enc xa++Uns.enc xb++Uns.enc xn++[.d x1,.d x2,.d x3,.d x4,.d x5,.d x6,.d (pre++rest),.d ((pre++rest).map gP)]):=by
 intro rest
 induction rest with
 |nil=>
  intro pre n hn hl hg;obtain⟨n,rfl⟩:=ah n (by simp at hn;omega);rw[wE];unfold yG;dsimp only;simp[ay]
 |cons x rest ih=>
  intro pre n hn hl hg;obtain⟨n,rfl⟩:=ah n (by simp at hn;omega);simp only[zac,zab]at hn hl;have e:=Vn (hg x (by simp));have:=ih (pre++[x]) n (by omega) (by simp;omega) (fun d hd=>hg d (by simp[hd]));rw[zb6,show[x].map gP=[.r [.n (x.i 0),.n (bA x),.n (x.i 5)]] from rfl]at this;rw[wE];unfold yG;dsimp only;simp only[LNi,ax,lt_eq,e];simp(disch:=omega) only[TRa,TRi,aa,LNl,LNi,zad,ax];simp only[LNl,LNi,zad]at this⊢;exact this
def f145:Int × Int × Int × Int × av × aw × aq × LD0 × LD0 × LD0 × LD0 × LD0 × LD0 × LD0->Bool × List Un:=fun(a0,a1,a2,a3,a4,a5,a6,a7,a8,a9,a10,a11,a12,a13)=>(decide (((0<=a0/\a0<=1125899906842624)/\(0<=a2/\a2<=1125899906842624)/\(0<=a3/\a3<=1125899906842624))/\(0<=a6.bM/\a6.bM<=a6.rin/\a6.rin<=1152921504606846976))&&((decide (a12.length<=1000)&&a12.all fG)&&(decide (a13.length<=1000)&&a13.all bn)),[.i (a6.fee),.i (a6.out),.i (min (a0+a3+a2) (bY bA a13)),.i (Dc a5.target (au 1 a12) (a6.rin-a6.bM))]++Uns.enc ((a4):av)++Uns.enc ((a5):aw)++Uns.enc ((a6):aq)++[.d (a7),.d (a8),.d (a9),.d (a10),.d (a11),.d (a12),.d (a13),.d (a13.map gP)])
theorem Px:ER 145 (mkE XI.en XI.ex f145):=ak ae TM.right (fun m=>[Jo (rR m m)]) (t:=t145) (by kernel_rfl) (fun m=>(aI (Yk m m) az)) (fun m a=>by kernel_rfl) fun(a0,a1,a2,a3,a4,a5,a6,a7,a8,a9,a10,a11,a12,a13) hc=>by
 dsimp only[f145]at hc⊢;simp only[zae,zag,zam]at hc;obtain⟨⟨⟨h1,h2,h3⟩,h4,h5,h6⟩,⟨h7,h8⟩,h9,h10⟩:=hc;have hg:fm a13:=⟨h9,h10⟩
 have hb:=Dt h7 h8;have hs:=(kj a13 h10).1;have hm:=YG (au 1 a12) a5.target 10000 0;have hlb:(decide (a12.length<=1000)&&a12.all fG)=true:=by rw[zae,zam];exact⟨zaa h7,h8⟩
 refine⟨a13.length+1, ?_⟩;unfold t145 Dc;dsimp only[lt];refine al (by rw[gm hg];rfl) ?_
 refine al (zaG.2 ⟨rfl,hlb⟩) ?_
 change rR _ _ (_,_,_,_,_,_,_,_,_,_,_,_,_,_,_,_,_,_,(if bY bA a13<w64 (w64 (a0+a3)+a2)then bY bA a13 else w64 (w64 (a0+a3)+a2)),(if w64 (mdV (au 1 a12) a5.target 10000 0-w64 (a6.rin-a6.bM))<0 then 0 else w64 (mdV (au 1 a12) a5.target 10000 0-w64 (a6.rin-a6.bM))),_,_)=_;rw[aa (n:=a0+a3) (by omega) (by omega),aa (n:=a0+a3+a2) (by omega) (by omega),aa (n:=a6.rin-a6.bM) (by omega) (by omega),aa (n:=mdV _ _ _ _-_) (by omega) (by omega)];rw[show(if bY bA a13<a0+a3+a2 then bY bA a13 else a0+a3+a2)=min (a0+a3+a2) (bY bA a13) by omega,show ∀z:Int,(if z<0 then 0 else z)=max z 0 from fun z=>by omega];exact acV _ a4 a5 a6 a7 a8 a9 a10 a11 a12 _ _ _ _ _ _ _ _ _ a13 [] (a13.length+1) (by omega) (by simpa using h9) h10
def VZ:TB:=TM.ad Px
theorem AA:∀(k:Nat) (n:Int),dz n k++[n+k]=dz n (k+1)
 |0,n=>by simp[dz]
 |k+1,n=>by
  have:=AA k (n+1);simp only[dz,zaC,zaL,zad]at this⊢;rw[<-this,show n+1+(k:Int)=n+((k:Int)+1) by omega]
theorem Bm (u p l r:Int):0<=eL u p l r/\eL u p l r<=max u 0/\eL u p l r<=max (u-p) 0/\eL u p l r<=max (l-r) 0:=by unfold eL;omega
def W6:aA:=⟨VZ.tab,148,⟨[.ptr 0 0 0,.agg [.z0,.z0,.z0,.z0]],aU 0,0⟩,⟨[],aU 0,0⟩,[]⟩
abbrev DZ:Type:=Int × Int × Int × av × aw × aq × LD0 × LD0 × LD0 × LD0 × LD0 × LD0 × LD0 × LI0
def yA (m:Nat) (k:DZ->OU0):DZ->OU0:=fun(a0,a1,a2,a3,a4,a5,a6,a7,a8,a9,a10,a11,a12,a13)=>
 bif decide (a2<a1)then
 chk (inb a2 a12.length)<|
 chk (fits (a13.length+([(a2.toNat:Int)]).length) 8)<|
 k (a0,a1,(w64 (a2+1)),a3,a4,a5,a6,a7,a8,a9,a10,a11,a12,(a13++([(a2.toNat:Int)])))
 else
 chk (decide (0<([.r [.r a11]]:LD0).length)&&(decide (((ai ([.r [.r a11]]:LD0) 0).d 0).length<=1000)&&((ai ([.r [.r a11]]:LD0) 0).d 0).all fG))<|
 lt ((au 1 ((ai ([.r [.r a11]]:LD0) 0).d 0)):Int) fun x1=>
 chk (decide ((-1152921504606846976<=a0/\a0<=1152921504606846976)/\(-1152921504606846976<=x1/\x1<=1152921504606846976)/\(-1152921504606846976<=a5.aP/\a5.aP<=1152921504606846976)/\(-1152921504606846976<=a5.bc/\a5.bc<=1152921504606846976)))<|
 chk (decide ((eL a0 x1 a5.aP a5.bc)<=1152921504606846976)&&((decide (a13=dz 0 a12.length))&&(decide (a12.length<=1000)&&a12.all bn)))<|
 some (Uns.enc (a3:av)++Uns.enc (a4:aw)++Uns.enc (a5:aq)++[.d a6,.d a7,.d a8,.d a9,.d a10,.d a11,.d (ly (eL a0 x1 a5.aP a5.bc) a12)])
def ur (m:Nat):Nat->DZ->OU0:=aZ (yA m)
theorem xe (m:Nat) (n:Nat):ur m (n+1)=yA m (ur m n):=rfl
def Kx (F:DZ->OU0):aQ:=⟨[.lp [0,1,0,1,1,1,1,1],.blk 0,.code [1,1,1,1,1,1]],⟨frm 70 [(0,.ptr 0 0 0),(7,.z0),(8,.buf 9 1),(39,.z0),(40,.z0)],aU 0++[.fh 8 7 0],0⟩,onU F⟩
theorem ZO (m:Nat):∀n,HO W6 (Kx (ur m n)):=an ae VZ.right (fun k=>[Kx k]) (fun k h=>(aI h az)) fun k a=>by kernel_rfl
def t148 (m:Nat):Int × Int × Int × Int × av × aw × aq × LD0 × LD0 × LD0 × LD0 × LD0 × LD0 × LD0->OU0:=fun(a0,a1,a2,a3,a4,a5,a6,a7,a8,a9,a10,a11,a12,a13)=>
 chk (decide (0<=0)&&(decide (a13.length<=1000)&&a13.all bn))<|
 ur m m ((bY unD a13),(a13.length:Int),0,a4,a5,({a6 with aP:=(w64 (a6.aP+a2)),bc:=(w64 (a6.bc+a3))}:aq),a7,a8,a9,a10,a11,a12,a13,[])
theorem abH (m:Nat) (u:Int) (xa:av) (xb:aw) (y:aq) (x1 x2 x3 x4 x5 x6 x7:LD0) (hu:0<=u/\u<=1099511627776000) (h1:0<=y.aP/\y.aP<=1152921504606846976) (h2:0<=y.bc/\y.bc<=1152921504606846976) (h3:(decide (x6.length<=1000)&&x6.all fG)=true) (hb:0<=au 1 x6/\au 1 x6<=1099511627776000) (hg:fm x7):∀(k i n:Nat),i+k=x7.length->k<n->
 ur m n (u,(x7.length:Int),(i:Int),xa,xb,y,x1,x2,x3,x4,x5,x6,x7,dz 0 i)=some (Uns.enc xa++Uns.enc xb++Uns.enc y++[.d x1,.d x2,.d x3,.d x4,.d x5,.d x6,.d (ly (eL u (au 1 x6) y.aP y.bc) x7)]):=by
 intro k
 induction k with
 |zero=>
  intro i n hi hn;obtain⟨n,rfl⟩:=ah n (by omega);have ht:=Bm u (au 1 x6) y.aP y.bc;have hgb:=gm hg;obtain rfl:i=x7.length:=by omega
  rw[xe];unfold yA;dsimp only;rw[ay (by omega)];dsimp only[lt];refine al (zaG.2 ⟨rfl,h3⟩) ?_
  change chk (decide ((-1152921504606846976<=u/\u<=1152921504606846976)/\(-1152921504606846976<=au 1 x6/\au 1 x6<=1152921504606846976)/\(-1152921504606846976<=y.aP/\y.aP<=1152921504606846976)/\(-1152921504606846976<=y.bc/\y.bc<=1152921504606846976))) (chk (decide (eL u (au 1 x6) y.aP y.bc<=1152921504606846976)&&(decide (dz 0 x7.length=dz 0 x7.length)&&(decide (x7.length<=1000)&&x7.all bn))) _)=_;rw[aJ (by omega)];exact al (by rw[zae,zae];exact⟨@zaa _ _ (by omega),@zaa _ _ rfl,hgb⟩) rfl
 |succ k ih=>
  intro i n hi hn;obtain⟨n,rfl⟩:=ah n (by omega);have hg1:=hg.1;have hL:=iB i 0;have:=ih (i+1) n (by omega) (by omega);rw[<-AA i 0]at this;rw[xe];unfold yA;dsimp only;simp(disch:=omega) only[TRa,TRi,aa,LNl,LNi,zad,hL];simp only[LNl,LNi,zad]at this⊢;exact this
def f148:Int × Int × Int × Int × av × aw × aq × LD0 × LD0 × LD0 × LD0 × LD0 × LD0 × LD0->Bool × List Un:=fun(a0,a1,a2,a3,a4,a5,a6,a7,a8,a9,a10,a11,a12,a13)=>(decide (((0<=a0/\a0<=1125899906842624)/\(0<=a2/\a2<=1125899906842624)/\(0<=a3/\a3<=1125899906842624))/\(0<=a6.aP/\a6.aP<=1125899906842624)/\(0<=a6.bc/\a6.bc<=1125899906842624))&&((decide (a12.length<=1000)&&a12.all fG)&&(decide (a13.length<=1000)&&a13.all bn)),Uns.enc ((a4):av)++Uns.enc ((a5):aw)++Uns.enc (({a6 with aP:=a6.aP+a2,bc:=a6.bc+a3}):aq)++[.d (a7),.d (a8),.d (a9),.d (a10),.d (a11),.d (a12),.d (ly (eL (bY unD a13) (au 1 a12) (a6.aP+a2) (a6.bc+a3)) a13)])
theorem O6:ER 148 (mkE W6.en W6.ex f148):=ak ae VZ.right (fun m=>[Kx (ur m m)]) (t:=t148) (by kernel_rfl) (fun m=>(aI (ZO m m) az)) (fun m a=>by kernel_rfl) fun(a0,a1,a2,a3,a4,a5,a6,a7,a8,a9,a10,a11,a12,a13) hc=>by
 dsimp only[f148]at hc⊢;simp only[zae,zag,zam]at hc;obtain⟨⟨⟨h1,h2,h3⟩,h4,h5⟩,⟨h7,h8⟩,h9,h10⟩:=hc;have hg:fm a13:=⟨h9,h10⟩
 have hb:=Dt h7 h8;have hs:=(kj a13 h10).2.2.2.1;refine⟨a13.length+1, ?_⟩;unfold t148;dsimp only;refine al (by rw[gm hg];rfl) ?_
 rw[aa (n:=a6.aP+a2) (by omega) (by omega),aa (n:=a6.bc+a3) (by omega) (by omega)];exact abH _ _ a4 a5 {a6 with aP:=a6.aP+a2,bc:=a6.bc+a3} a7 a8 a9 a10 a11 a12 a13 (by omega) (by simp only;omega) (by simp only;omega) (by rw[zae,zam];exact⟨zaa h7,h8⟩) hb hg a13.length 0 (a13.length+1) (by omega) (by omega)
def T6:TB:=VZ.ad O6
def J0 (d:Dat):Dat:= .r [.n (bA d),.n (d.i 5),.n (d.i 6)]
def Zd:aA:=⟨T6.tab,152,⟨[.agg [.bool,.z0,.z0,.z0,.z0,.z0,.z0,.z0,.z0,.z0,.z0,.buf 9 4,.z0,.z0,.z0,.z0,.z0,.eM,.z0],.np 0 0 0],aU 0++[.ab (sI 4)],10⟩,⟨[.agg [.bool,.z0,.z0,.z0,.z0,.z0,.z0,.z0,.z0,.z0,.z0,.buf 9 4,.z0,.z0,.z0,.z0,.z0,.buf 10 3,.z0]],aU 0++[.ab (sI 4),.ab (sI 3)],10⟩,[]⟩
abbrev En:Type:=Int × Int × av × aw × aq × LD0 × LD0 × LD0 × LD0 × LD0 × LD0 × LD0 × LD0 × cJ × cC × Int × cJ × cC × Int × LD0 × LD0 × LD0
def yO (m:Nat) (k:En->OU0):En->OU0:=fun(a0,a1,a2,a3,a4,a5,a6,a7,a8,a9,a10,a11,a12,a13,a14,a15,a16,a17,a18,a19,a20,a21)=>
 bif decide (a1<a0)then
 chk (inb a1 a11.length)<|
 chk (decide (a1.toNat<a11.length))<|
 lt (ai a11 a1.toNat:Dat) fun d3=>
 chk (fits (a19.length+1) 24)<|
 k (a0,(w64 (a1+1)),a2,a3,a4,a5,a6,a7,a8,a9,a10,a11,a12,a13,a14,a15,a16,a17,a18,(a19++([.r [.n (w64 (w64 ((d3.i 1)-w64 ((d3.i 3)-(d3.i 4)))-(d3.i 6))),.n (d3.i 5),.n (d3.i 6)]])),a20,a21)
 else
 some (Uns.enc (a13:cJ)++Uns.enc (a14:cC)++[.i a15]++Uns.enc (a2:av)++Uns.enc (a3:aw)++Uns.enc (a4:aq)++[.d a5,.d a6,.d a7,.d a8,.d a9,.d a10,.d a11,.d a12,.d a19])
def vw (m:Nat):Nat->En->OU0:=aZ (yO m)
theorem xk (m:Nat) (n:Nat):vw m (n+1)=yO m (vw m n):=rfl
def JT (F:En->OU0):aQ:=⟨[.lp [0,1,0,1,1],.blk 0,.code [1,1,1]],⟨frm 58 [(2,.ptr 10 0 0),(4,.ptr 11 0 0),(38,.buf 8 7),(39,.z0),(40,.z0)],aU 0++[.ab (sI 4),.cells [.bool,.z0,.z0,.z0,.z0,.z0,.z0,.z0,.z0,.z0,.z0,.buf 9 4,.z0,.z0,.z0,.z0,.z0,.buf 12 3,.z0],.cells [.bool,.z0,.z0,.z0,.z0,.z0,.z0,.z0,.z0,.z0,.z0,.buf 13 4,.z0,.z0,.z0,.z0,.z0,.buf 14 3,.z0],.ab (sI 3),.ab (sI 4),.ab (sI 3)],10⟩,onU F⟩
theorem Zi (m:Nat):∀n,HO Zd (JT (vw m n)):=an ae T6.right (fun k=>[JT k]) (fun k h=>(aI h az)) fun k a=>by kernel_rfl
def t152 (m:Nat):cJ × cC × Int × Int × av × aw × aq × LD0 × LD0 × LD0 × LD0 × LD0 × LD0 × LD0 × LD0->OU0:=fun(a0,a1,a2,a3,a4,a5,a6,a7,a8,a9,a10,a11,a12,a13,a14)=>
 chk (decide (0<=a3))<|
 chk (decide (0<([.r [.r a12]]:LD0).length)&&(decide (((ai ([.r [.r a12]]:LD0) 0).d 0).length<=1000)&&((ai ([.r [.r a12]]:LD0) 0).d 0).all fG))<|
 chk (decide (0<=a3))<|
 chk (decide (0<=a3))<|
 chk (decide (0<=a3))<|
 chk (decide (0<=a3))<|
 chk (decide (0<=a3))<|
 vw m m ((a13.length:Int),0,a4,a5,a6,a7,a8,a9,a10,a11,a12,a13,a14,a0,(⟨a1.eE,(au 1 ((ai ([.r [.r a12]]:LD0) 0).d 0)),(w64 (a6.rin-a6.bM)),a6.out,a6.fee⟩:cC),a6.mode,(⟨false,0,0,0,0,0,0,0,0,0,0⟩:cJ),(⟨0,0,0,0,0⟩:cC),0,[],[],[])
theorem V3 (m:Nat) (xa:av) (xb:aw) (xn:aq) (x1 x2 x3 x4 x5 x6 py:LD0) (ra za:cJ) (rb zb:cC) (nx zx:Int) (z1 z2:LD0):∀(rest pre:LD0) (n:Nat),rest.length<n->(pre++rest).length<=1000->(∀d∈rest,bn d=true)->
 vw m n (((pre++rest).length:Int),(pre.length:Int),xa,xb,xn,x1,x2,x3,x4,x5,x6,pre++rest,py,ra,rb,nx,za,zb,zx,pre.map J0,z1,z2)=
  some (Uns.enc ra++Uns.enc rb++[.i nx]++Uns.enc xa++Uns.enc xb++Uns.enc xn++[.d x1,.d x2,.d x3,.d x4,.d x5,.d x6,.d (pre++rest),.d py,.d ((pre++rest).map J0)]):=by
 intro rest
 induction rest with
 |nil=>
  intro pre n hn hl hg;obtain⟨n,rfl⟩:=ah n (by simp at hn;omega);rw[xk];unfold yO;dsimp only;simp[ay]
 |cons x rest ih=>
  intro pre n hn hl hg;obtain⟨n,rfl⟩:=ah n (by simp at hn;omega);simp only[zac,zab]at hn hl;have e:=Vn (hg x (by simp));have:=ih (pre++[x]) n (by omega) (by simp;omega) (fun d hd=>hg d (by simp[hd]));rw[zb6,show[x].map J0=[.r [.n (bA x),.n (x.i 5),.n (x.i 6)]] from rfl]at this;rw[xk];unfold yO;dsimp only;simp only[LNi,ax,lt_eq,e];simp(disch:=omega) only[TRa,TRi,aa,LNl,LNi,zad,ax];simp only[LNl,LNi,zad]at this⊢;exact this
def f152:cJ × cC × Int × Int × av × aw × aq × LD0 × LD0 × LD0 × LD0 × LD0 × LD0 × LD0 × LD0->Bool × List Un:=fun(a0,a1,a2,a3,a4,a5,a6,a7,a8,a9,a10,a11,a12,a13,a14)=>(decide (0<=a3)&&(decide (0<=a6.bM/\a6.bM<=a6.rin/\a6.rin<=1152921504606846976)&&((decide (a12.length<=1000)&&a12.all fG)&&(decide (a13.length<=1000)&&a13.all bn))),Uns.enc ((a0):cJ)++Uns.enc (((⟨a1.eE,au 1 a12,a6.rin-a6.bM,a6.out,a6.fee⟩:cC)):cC)++[.i (a6.mode)]++Uns.enc ((a4):av)++Uns.enc ((a5):aw)++Uns.enc ((a6):aq)++[.d (a7),.d (a8),.d (a9),.d (a10),.d (a11),.d (a12),.d (a13),.d (a14),.d (a13.map J0)])
theorem Py:ER 152 (mkE Zd.en Zd.ex f152):=ak ae T6.right (fun m=>[JT (vw m m)]) (t:=t152) (by kernel_rfl) (fun m=>(aI (Zi m m) az)) (fun m a=>by kernel_rfl) fun(a0,a1,a2,a3,a4,a5,a6,a7,a8,a9,a10,a11,a12,a13,a14) hc=>by
 dsimp only[f152]at hc⊢;simp only[zae,zag,zam]at hc;obtain⟨h0,⟨h4,h5,h6⟩,⟨h7,h8⟩,h9,h10⟩:=hc;have hb:=Dt h7 h8;have hlb:(decide (a12.length<=1000)&&a12.all fG)=true:=by rw[zae,zam];exact⟨zaa h7,h8⟩
 refine⟨a13.length+1, ?_⟩;unfold t152;dsimp only[lt];simp only[aJ h0];refine al (zaG.2 ⟨rfl,hlb⟩) ?_
 rw[aa (n:=a6.rin-a6.bM) (by omega) (by omega)];exact V3 _ a4 a5 a6 a7 a8 a9 a10 a11 a12 a14 a0 _ _ _ _ _ _ _ a13 [] (a13.length+1) (by omega) (by simpa using h9) h10
def X9:TB:=T6.ad Py
section
variable (m : Nat) (xa : av) (xb : aw) (xn : aq) (x1 x2 x3 x4 x5 x6 x7 : LD0)
end
def V2 (a b p:Int):Bool:=decide (0<=a/\a<=1099511627776/\0<=b/\b<=1099511627776/\0<=p/\p<=100000)
def cH (a b p:Int):Bool:=V2 a b p&&decide (b*p<=a*10000)
def dH (a b p:Int):Bool:=V2 a b p&&decide (a*10000<=b*p)
def aaQ:aA:=⟨X9.tab,192,⟨[.z0,.z0,.z0],[],0⟩,⟨[.bool],[],0⟩,[]⟩
def t192 (m:Nat):Int × Int × Int->OU0:=fun(a0,a1,a2)=>
 bif decide (a0>=0)then
 bif (decide (a0<=1099511627776))then
 bif decide (a1>=0)then
 bif (decide (a1<=1099511627776))then
 bif decide (a2>=0)then
 bif decide (a2<=100000)then
 some ([.b (decide ((w64 (a0*10000))>=(w64 (a1*a2))))])
 else
 some ([.b false])
 else
 some ([.b false])
 else
 some ([.b false])
 else
 some ([.b false])
 else
 some ([.b false])
 else
 some ([.b false])
def f192:Int × Int × Int->Bool × List Un:=fun(a0,a1,a2)=>(true,[.b (cH a0 a1 a2)])
theorem P6:ER 192 (mkE aaQ.en aaQ.ex f192):=ak ae X9.right (fun m=>[]) (t:=t192) (by kernel_rfl) (fun m=>az) (fun m a=>by kernel_rfl) fun(a0,a1,a2) hc=>by
 dsimp only[f192]at⊢;unfold t192 cH V2;dsimp only[ge_iff_le]
 by_cases h:0<=a0/\a0<=1099511627776/\0<=a1/\a1<=1099511627776/\0<=a2/\a2<=100000
 . obtain⟨h1,h2,h3,h4,h5,h6⟩:=h;have hm:=Int.mul_le_mul h4 h6 h5 (show(0:Int)<=1099511627776 by omega);have hm0:=za9 h3 h5;refine⟨0, ?_⟩;rw[zaa (show 0<=a0/\a0<=1099511627776/\0<=a1/\a1<=1099511627776/\0<=a2/\a2<=100000 from⟨h1,h2,h3,h4,h5,h6⟩)];simp(disch:=omega) only[TRa,aa,zbb]
 . refine⟨0, ?_⟩;rw[zan h]
   by_cases h1:0<=a0
   . by_cases h2:a0<=1099511627776
     . by_cases h3:0<=a1
       . by_cases h4:a1<=1099511627776
         . by_cases h5:0<=a2
           . simp[h1,h2,h3,h4,h5,show ¬a2<=100000 by omega]
           . simp[h1,h2,h3,h4,h5]
         . simp[h1,h2,h3,h4]
       . simp[h1,h2,h3]
     . simp[h1,h2]
   . simp[h1]
def YP:TB:=X9.ad P6
def abL:aA:=⟨YP.tab,193,⟨[.z0,.z0,.z0],[],0⟩,⟨[.bool],[],0⟩,[]⟩
def t193 (m:Nat):Int × Int × Int->OU0:=fun(a0,a1,a2)=>
 bif decide (a0>=0)then
 bif (decide (a0<=1099511627776))then
 bif decide (a1>=0)then
 bif (decide (a1<=1099511627776))then
 bif decide (a2>=0)then
 bif decide (a2<=100000)then
 some ([.b (decide ((w64 (a0*10000))<=(w64 (a1*a2))))])
 else
 some ([.b false])
 else
 some ([.b false])
 else
 some ([.b false])
 else
 some ([.b false])
 else
 some ([.b false])
 else
 some ([.b false])
def f193:Int × Int × Int->Bool × List Un:=fun(a0,a1,a2)=>(true,[.b (dH a0 a1 a2)])
theorem QJ:ER 193 (mkE abL.en abL.ex f193):=ak ae YP.right (fun m=>[]) (t:=t193) (by kernel_rfl) (fun m=>az) (fun m a=>by kernel_rfl) fun(a0,a1,a2) hc=>by
 dsimp only[f193]at⊢;unfold t193 dH V2;dsimp only[ge_iff_le]
 by_cases h:0<=a0/\a0<=1099511627776/\0<=a1/\a1<=1099511627776/\0<=a2/\a2<=100000
 . obtain⟨h1,h2,h3,h4,h5,h6⟩:=h;have hm:=Int.mul_le_mul h4 h6 h5 (show(0:Int)<=1099511627776 by omega);have hm0:=za9 h3 h5;refine⟨0, ?_⟩;rw[zaa (show 0<=a0/\a0<=1099511627776/\0<=a1/\a1<=1099511627776/\0<=a2/\a2<=100000 from⟨h1,h2,h3,h4,h5,h6⟩)];simp(disch:=omega) only[TRa,aa,zbb]
 . refine⟨0, ?_⟩;rw[zan h]
   by_cases h1:0<=a0
   . by_cases h2:a0<=1099511627776
     . by_cases h3:0<=a1
       . by_cases h4:a1<=1099511627776
         . by_cases h5:0<=a2
           . simp[h1,h2,h3,h4,h5,show ¬a2<=100000 by omega]
           . simp[h1,h2,h3,h4,h5]
         . simp[h1,h2,h3,h4]
       . simp[h1,h2,h3]
     . simp[h1,h2]
   . simp[h1]
def ZW:TB:=YP.ad QJ
def abT:aA:=⟨ZW.tab,150,⟨[.agg [.z0,.z0,.z0,.z0,.z0],.agg [.z0,.z0,.z0,.z0,.z0,.z0,.z0]],[],0⟩,⟨[.agg [.bool,.bool,.bool,.bool]],[],0⟩,[]⟩
def t150 (m:Nat):Int × Int × Int × Int × Int × Int × Int × Int × Int × Int × Int × Int->OU0:=fun(a0,a1,a2,a3,a4,a5,a6,a7,a8,a9,a10,a11)=>
 bif a0==0 then
 bif a1==0 then
 bif a2==0 then
 bif a3==0 then
 some ([.b true,.b true,.b true,.b true])
 else
 some ([.b true,.b true,.b true,.b (dH a11 a6 a3)])
 else
 bif a3==0 then
 some ([.b true,.b true,.b (dH a10 a5 a2),.b true])
 else
 some ([.b true,.b true,.b (dH a10 a5 a2),.b (dH a11 a6 a3)])
 else
 bif a2==0 then
 bif a3==0 then
 some ([.b true,.b (cH a8 a9 a1),.b true,.b true])
 else
 some ([.b true,.b (cH a8 a9 a1),.b true,.b (dH a11 a6 a3)])
 else
 bif a3==0 then
 some ([.b true,.b (cH a8 a9 a1),.b (dH a10 a5 a2),.b true])
 else
 some ([.b true,.b (cH a8 a9 a1),.b (dH a10 a5 a2),.b (dH a11 a6 a3)])
 else
 bif a1==0 then
 bif a2==0 then
 bif a3==0 then
 some ([.b (cH a5 a7 a0),.b true,.b true,.b true])
 else
 some ([.b (cH a5 a7 a0),.b true,.b true,.b (dH a11 a6 a3)])
 else
 bif a3==0 then
 some ([.b (cH a5 a7 a0),.b true,.b (dH a10 a5 a2),.b true])
 else
 some ([.b (cH a5 a7 a0),.b true,.b (dH a10 a5 a2),.b (dH a11 a6 a3)])
 else
 bif a2==0 then
 bif a3==0 then
 some ([.b (cH a5 a7 a0),.b (cH a8 a9 a1),.b true,.b true])
 else
 some ([.b (cH a5 a7 a0),.b (cH a8 a9 a1),.b true,.b (dH a11 a6 a3)])
 else
 bif a3==0 then
 some ([.b (cH a5 a7 a0),.b (cH a8 a9 a1),.b (dH a10 a5 a2),.b true])
 else
 some ([.b (cH a5 a7 a0),.b (cH a8 a9 a1),.b (dH a10 a5 a2),.b (dH a11 a6 a3)])
def f150:Int × Int × Int × Int × Int × Int × Int × Int × Int × Int × Int × Int->Bool × List Un:=fun(a0,a1,a2,a3,a4,a5,a6,a7,a8,a9,a10,a11)=>(true,[.b ((a0==0||cH a5 a7 a0)),.b ((a1==0||cH a8 a9 a1)),.b ((a2==0||dH a10 a5 a2)),.b ((a3==0||dH a11 a6 a3))])
theorem OM:ER 150 (mkE abT.en abT.ex f150):=ak ae ZW.right (fun m=>[]) (t:=t150) (by kernel_rfl) (fun m=>az) (fun m a=>by kernel_rfl) fun(a0,a1,a2,a3,a4,a5,a6,a7,a8,a9,a10,a11) hc=>by
 dsimp only[f150]at⊢;refine⟨0, ?_⟩;unfold t150;dsimp only;cases a0==0<;>cases a1==0<;>cases a2==0<;>cases a3==0<;>rfl
def Zq:TB:=ZW.ad OM
def jA (need has:Int):Int:=max (min (max need 0) has) 0
def N2 (need has may:Int):Int:=max (min (max need 0-jA need has) may) 0
def acO:aA:=⟨Zq.tab,142,⟨[.z0,.np 0 0 20,.z0,.z0],aU 0,0⟩,⟨[.z0,.z0],aU 0,0⟩,[]⟩
def t142 (m:Nat):Int × Int × Int × Int × av × aw × aq × LD0 × LD0 × LD0 × LD0 × LD0 × LD0 × LD0->OU0:=fun(a0,a1,a2,a3,a4,a5,a6,a7,a8,a9,a10,a11,a12,a13)=>
 lt ((if a0<0 then 0 else a0):Int) fun x1=>
 bif (!((decide (a1<0))&&true))then
 chk (decide (0<=a1))<|
 lt ((w64 (a6.rin-a6.bM)):Int) fun x3=>
 lt ((if x3<x1 then x3 else x1):Int) fun x4=>
 lt ((if x4<0 then 0 else x4):Int) fun x5=>
 chk (decide (0<=a1))<|
 chk (decide (0<=a1))<|
 lt ((if (w64 (a3-a2))<(w64 (x1-x5))then(w64 (a3-a2))else(w64 (x1-x5))):Int) fun x6=>
 some ([.i x5,.i (if x6<0 then 0 else x6)]++Uns.enc (a4:av)++Uns.enc (a5:aw)++Uns.enc (({a6 with bM:=(w64 (a6.bM+x5))}:aq):aq)++[.d a7,.d a8,.d a9,.d a10,.d a11,.d a12,.d a13])
 else
 lt ((if (w64 (a3-a2))<(w64 (x1-0))then(w64 (a3-a2))else(w64 (x1-0))):Int) fun x8=>
 some ([.i 0,.i (if x8<0 then 0 else x8)]++Uns.enc (a4:av)++Uns.enc (a5:aw)++Uns.enc (a6:aq)++[.d a7,.d a8,.d a9,.d a10,.d a11,.d a12,.d a13])
def f142:Int × Int × Int × Int × av × aw × aq × LD0 × LD0 × LD0 × LD0 × LD0 × LD0 × LD0->Bool × List Un:=fun(a0,a1,a2,a3,a4,a5,a6,a7,a8,a9,a10,a11,a12,a13)=>(decide (0<=a1)&&decide ((-1152921504606846976<=a0/\a0<=1152921504606846976)/\((0:Int)<=a6.bM/\a6.bM<=a6.rin/\a6.rin<=(1152921504606846976:Int))/\(0<=a2/\a2<=1152921504606846976)/\(0<=a3/\a3<=1152921504606846976)),[.i (jA a0 (a6.rin-a6.bM)),.i (N2 a0 (a6.rin-a6.bM) (a3-a2))]++Uns.enc ((a4):av)++Uns.enc ((a5):aw)++Uns.enc (({a6 with bM:=a6.bM+jA a0 (a6.rin-a6.bM)}):aq)++[.d (a7),.d (a8),.d (a9),.d (a10),.d (a11),.d (a12),.d (a13)])
theorem P1:ER 142 (mkE acO.en acO.ex f142):=ak ae Zq.right (fun m=>[]) (t:=t142) (by kernel_rfl) (fun m=>az) (fun m a=>by kernel_rfl) fun(a0,a1,a2,a3,a4,a5,a6,a7,a8,a9,a10,a11,a12,a13) hc=>by
 dsimp only[f142]at hc⊢;simp only[zae,zag]at hc;obtain⟨h0,⟨h1,h2⟩,⟨h3,h4,h5⟩,⟨h6,h7⟩,h8,h9⟩:=hc;refine⟨0, ?_⟩;unfold t142;dsimp only;simp only[zbf,lt_eq,zan (show ¬a1<0 by omega),Bool.not_false,zaw,zaa h0,k9];rw[aa (n:=a6.rin-a6.bM) (by omega) (by omega),aa (n:=a3-a2) (by omega) (by omega)];have e:(if (if a6.rin-a6.bM<(if a0<0 then 0 else a0)then a6.rin-a6.bM else(if a0<0 then 0 else a0))<0 then 0 else(if a6.rin-a6.bM<(if a0<0 then 0 else a0)then a6.rin-a6.bM else(if a0<0 then 0 else a0)))=jA a0 (a6.rin-a6.bM):=by unfold jA;omega
 have hd:0<=jA a0 (a6.rin-a6.bM)/\jA a0 (a6.rin-a6.bM)<=1152921504606846976/\jA a0 (a6.rin-a6.bM)<=max a0 0/\jA a0 (a6.rin-a6.bM)<=a6.rin-a6.bM:=by unfold jA;omega
 rw[e,show(if a0<0 then 0 else a0)=max a0 0 by omega,aa (n:=max a0 0-_) (by omega) (by omega),aa (n:=a6.bM+_) (by omega) (by omega)];rw[show(if (if a3-a2<max a0 0-jA a0 (a6.rin-a6.bM)then a3-a2 else max a0 0-jA a0 (a6.rin-a6.bM))<0 then 0 else(if a3-a2<max a0 0-jA a0 (a6.rin-a6.bM)then a3-a2 else max a0 0-jA a0 (a6.rin-a6.bM)))=N2 a0 (a6.rin-a6.bM) (a3-a2) by unfold N2;omega]
def Xl:TB:=Zq.ad P1
def gk (d:aT) (m:Int):LD0:=if m=0 then d.s0 else if m=1 then d.s1 else if m=2 then d.s2 else[]
def abz:aA:=⟨Xl.tab,146,⟨[.agg [.z0,.z0,.z0,.ab (sI 2),.ab (sI 3),.z0,.z0,.z0,.z0,.z0,.z0,.z0,.z0,.z0,.z0,.ab (sI 2),.ab (sI 2),.ab (sI 2)],.agg [.z0,.z0]],[],0⟩,⟨[.buf 0 2],[.ab (sI 2)],0⟩,[]⟩
def t146 (m:Nat):aT × Int × Int->OU0:=fun(a0,a1,a2)=>
 bif decide (a1<0)then
 some ([.d ([])])
 else
 bif decide (a1>=3)then
 some ([.d ([])])
 else
 chk (inb a1 3)<|
 chk (decide (a1.toNat<3))<|
 chk (decide ((List.getD [a0.s0,a0.s1,a0.s2] a1.toNat []).length<1000000))<|
 some ([.d (List.getD [a0.s0,a0.s1,a0.s2] a1.toNat [])])
def f146:aT × Int × Int->Bool × List Un:=fun(a0,a1,a2)=>(decide (a0.s0.length<1000000/\a0.s1.length<1000000/\a0.s2.length<1000000),[.d (gk a0 a1)])
theorem RR:ER 146 (mkE abz.en abz.ex f146):=ak ae Xl.right (fun m=>[]) (t:=t146) (by kernel_rfl) (fun m=>az) (fun m a=>by kernel_rfl) fun(a0,a1,a2) hc=>by
 dsimp only[f146]at hc⊢;obtain⟨h1,h2,h3⟩:=zaj hc;refine⟨0, ?_⟩;unfold t146 gk;dsimp only
 by_cases c0:a1<0
 . rw[aL c0,if_neg (by omega),if_neg (by omega),if_neg (by omega)]
 by_cases c3:a1>=3
 . rw[ay c0,aL c3,if_neg (by omega),if_neg (by omega),if_neg (by omega)]
 rw[ay c0,ay c3,bQ (by omega) (by omega),aJ (by omega)];obtain rfl|rfl|rfl:a1=0\/a1=1\/a1=2:=by omega
 . exact(aJ h1).trans rfl
 . exact(aJ h2).trans rfl
 . exact(aJ h3).trans rfl
def ZF:TB:=Xl.ad RR
def jB (d:Dat):Prop:=0<=d.i 1/\0<=d.i 2/\d.i 1+d.i 2<=1099511627776/\(0<=d.i 3/\d.i 3<=12)/\(d.b 4=true->d.i 1=0)/\(d.b 4=false->d.i 2=0)
theorem HL {p q r s l:Int} (h:jK p q r s l=true):(0<=p/\p<=1099511627776)/\(0<=q/\q<=1099511627776)/\(0<=r/\r<=1099511627776)/\(0<=s/\s<=1099511627776)/\0<=l/\l<=12:=by
 simp only[jK,zae,zag]at h;omega
theorem Sf {x d:Dat} (hx:jB x) (hl:jK (d.i 1) (d.i 2) (d.i 3) (d.i 4) (d.i 5)=true) (hm:Ej x d=true):jB (pk x d)/\(pk x d).i 1=x.i 1-(d.i 1+d.i 2)-kY (x.i 1) (d.i 1) (d.i 2) (d.b 6)/\(pk x d).i 2=x.i 2+kY (x.i 1) (d.i 1) (d.i 2) (d.b 6)-d.i 4/\
 0<=kY (x.i 1) (d.i 1) (d.i 2) (d.b 6)/\d.i 1+d.i 2+kY (x.i 1) (d.i 1) (d.i 2) (d.b 6)<=x.i 1/\d.i 4<=x.i 2+kY (x.i 1) (d.i 1) (d.i 2) (d.b 6):=by
 obtain⟨x1,x2,x3,x4,x5,x6⟩:=hx;have l:=HL hl;have e1:(pk x d).i 1=Ch (x.i 1) (d.i 1) (d.i 2) (d.b 6):=rfl;have e2:(pk x d).i 2=vJ (x.i 1) (x.i 2) (d.i 1) (d.i 2) (d.i 4) (d.b 6):=rfl;have e3:(pk x d).i 3=uM (x.i 1) (x.b 4) (d.i 1) (d.i 2) (d.i 5) (d.b 6):=rfl;have e4:(pk x d).b 4=(d.b 6||x.b 4):=ZP _;unfold jB;rw[e1,e2,e3,e4];unfold Ej BL at hm;unfold Ch vJ uM kY;generalize d.i 1=p at*
 generalize d.i 2=q at*
 generalize d.i 3=r at*
 generalize d.i 4=s at*
 generalize d.i 5=t at*
 generalize x.i 1=b at*
 generalize x.i 2=o at*
 clear e1 e2 e3 e4 hl;cases hb:x.b 4
 . have:=x6 hb;simp only[hb,zal,show w64 (b-p)=b-p from aa (by omega) (by omega),show w64 (b-p-q)=b-p-q from aa (by omega) (by omega)]at hm;simp only[show w64 (p+q)=p+q from aa (by omega) (by omega),show w64 (b-(p+q))=b-(p+q) from aa (by omega) (by omega)]
   by_cases hn:b-p-q<0
   . rw[zaa hn]at hm;cases hm
   rw[zan hn,zal]at hm;cases hd:d.b 6
   . simp only[hd,zal,zaI]at hm;subst hm;simp only[zal,Bool.or_self,zbv,zb4,show w64 o=o from aa (by omega) (by omega)];have hz:0<=(bif b-(p+q)==0 then 0 else t)/\(bif b-(p+q)==0 then 0 else t)<=12:=by cases (b-(p+q)==0)<;>simp only[zaw,zal]<;>omega
     and_intros<;>first|trivial|omega|(intro h;cases h;done)|(intro _;omega)
   . simp only[hd,zaw,show w64 (o+(b-p-q))=o+(b-p-q) from aa (by omega) (by omega)]at hm;have hr:s<=o+(b-p-q):=by
      by_cases hs:s<=o+(b-p-q)
      . exact hs
      . rw[zan hs,zal,zaI]at hm;omega
     simp only[zaw,Bool.or_false,show w64 (o+(b-(p+q)))=o+(b-(p+q)) from aa (by omega) (by omega),show w64 (o+(b-(p+q))-s)=o+(b-(p+q))-s from aa (by omega) (by omega)]
     and_intros<;>first|trivial|omega|(intro h;cases h;done)|(intro _;omega)
 . have:=x5 hb;subst this;rw[hb]at hm;simp only[zaw,zae,zaI,Bool.not_eq_true',zag]at hm;obtain⟨rfl,rfl,h3,h4,h5,h6⟩:=hm;rw[h5];simp only[zaw,zal,zcj,show w64 0=0 by decide,zbv,zb4,show w64 (o-s)=o-s from aa (by omega) (by omega)]
   and_intros<;>first|trivial|omega|(intro h;cases h;done)|(intro _;omega)
theorem s8 {β:Type} (f:Dat->β) (y:Dat):∀(l:LD0) (j:Nat),j<l.length->f y=f (ai l j)->(l.set j y).map f=l.map f
 |[],j,h,_=>by simp at h
 |d::l,0,_,h=>by simp only[List.set_cons_zero,zaS,h];rfl
 |d::l,j+1,h,hy=>by simp only[zbR,zaS,s8 f y l j (by simpa using h) hy]
theorem iG {l:LD0} (h:∀d∈l,jB d):0<=au 1 l/\0<=au 2 l:=⟨gv 1 l fun d hd=>(h d hd).1,gv 2 l fun d hd=>(h d hd).2.1⟩
theorem Cd:∀(t l:LD0) (last p q s r:Int) (x:Pz),(∀d∈l,jB d)->ku last t=true->gO l p q s r t=some x->au 1 l+au 2 l<=1099511627776->(0<=p/\p+au 1 l<=4398046511104)->(0<=s/\s+au 1 l<=4398046511104)->(0<=r/\r+au 1 l+au 2 l<=4398046511104)->(0<=q/\q+1099511627776*t.length<=1125899906842624)->
 (∀d∈x.aN,jB d)/\x.aN.map (fun d=>d.i 0)=l.map (fun d=>d.i 0)/\au 1 x.aN=au 1 l-(x.p-p)-(x.l-s)/\au 2 x.aN=au 2 l+(x.l-s)-(x.r-r)/\p<=x.p/\s<=x.l/\r<=x.r/\(q<=x.q/\x.q<=q+1099511627776*t.length)/\x.e=0
 |[],l,last,p,q,s,r,x,hl,ht,h,b1,b2,b3,b4,b5=>by
  simp only[gO,zak]at h;subst h;exact⟨hl,rfl,by simp,by simp,by simp,by simp,by simp,by simp,rfl⟩
 |d::t,l,last,p,q,s,r,x,hl,ht,h,b1,b2,b3,b4,b5=>by
  simp only[ku]at ht
  split at ht
  . cases ht
  . split at ht
    . rename_i hT;unfold gO at h
      split at h
      . cases h
      . rename_i hi
        split at h
        . rename_i hm;rcases FA (d.i 0) l 0 with hj|⟨hj1,hj2⟩
          . omega
          . have hj:(gJ (d.i 0) 0 l).toNat<l.length:=by omega
            generalize (gJ (d.i 0) 0 l).toNat=j at*
            obtain⟨r1,r2,r3,r4,r5,r6⟩:=Sf (hl _ (tH hj)) hT hm;have lt:=HL hT;have s1:=pK 1 (pk (ai l j) d) l j hj;have s2:=pK 2 (pk (ai l j) d) l j hj;have hl':=Mj (p:=jB) (j:=j) hl r1;obtain⟨n1,n2⟩:=iG hl;obtain⟨n3,n4⟩:=iG hl';rw[r2]at s1;rw[r3]at s2;simp only[zac,zaL,zad]at b5;generalize kY ((ai l j).i 1) (d.i 1) (d.i 2) (d.b 6)=z at*
            rw[show w64 (d.i 1+d.i 2)=d.i 1+d.i 2 from aa (by omega) (by omega),show w64 (p+(d.i 1+d.i 2))=p+(d.i 1+d.i 2) from aa (by omega) (by omega),show w64 (q+d.i 3)=q+d.i 3 from aa (by omega) (by omega),show w64 (s+z)=s+z from aa (by omega) (by omega),show w64 (r+d.i 4)=r+d.i 4 from aa (by omega) (by omega)]at h;obtain⟨c1,c2,c3,c4,c5,c6,c7,c8,c9⟩:=Cd t _ _ _ _ _ _ x hl' ht h (by omega) (by omega) (by omega) (by omega) (by omega);refine⟨c1,c2.trans (s8 _ _ _ _ hj rfl),by omega,by omega,by omega,by omega,by omega, ?_,c9⟩;simp only[zac,zaL,zad];omega
        . cases h
    . cases ht
theorem NC {t l:LD0} (hl:∀d∈l,jB d) (b:au 1 l+au 2 l<=1099511627776) (he:(aK t l).e=0):
 (∀d∈(aK t l).aN,jB d)/\(aK t l).aN.map (fun d=>d.i 0)=l.map (fun d=>d.i 0)/\au 1 (aK t l).aN=au 1 l-(aK t l).p-(aK t l).l/\au 2 (aK t l).aN=au 2 l+(aK t l).l-(aK t l).r/\
 0<=(aK t l).p/\0<=(aK t l).l/\0<=(aK t l).r/\0<=(aK t l).q/\(aK t l).q<=70368744177664:=by
 unfold aK at he⊢
 split at he
 . rename_i ht;rw[if_pos ht];simp only[mq,zae,zag]at ht;cases hx:gO l 0 0 0 0 t with
   |none=>rw[hx]at he;cases he
   |some x=>
    obtain⟨n1,n2⟩:=iG hl;obtain⟨c1,c2,c3,c4,c5,c6,c7,c8,c9⟩:=Cd t l 0 0 0 0 0 x hl ht.2 hx b (by omega) (by omega) (by omega) (by omega);simp only[zbD];exact⟨c1,c2,by omega,by omega,c5,c6,c7,c8.1,by omega⟩
 . cases he
theorem pT (f:Dat->Bool):∀l:LD0,(∀d∈l,0<=d.i 3)->0<=bE f l
 |[],_=>zcc 0
 |d::l,h=>by
  have:=h d (by simp);have:=pT f l fun x hx=>h x (by simp[hx])
  simp only[bE];cases f d<;>simp only[zaw,zal]<;>omega
def xU (d e:Dat) (b s:Int):Prop:=e.i 0=d.i 0/\e.i 1=d.i 1/\e.i 2=d.i 2/\e.i 3=d.i 3+b/\e.i 4=d.i 4/\e.i 5=d.i 5-s/\e.i 6=d.i 6
def amt (f:Dat->Bool) (d:Dat):Int:=bif f d then d.i 3 else 0
theorem jT (f:Dat->Bool) (d:Dat) (l:LD0):bE f (d::l)=amt f d+bE f l:=rfl
theorem RT {n:aq} {x:Dat} {c:LD0} (h3:0<=x.i 3) (hk:(x.i 1=1\/x.i 1=2\/x.i 1=6)\/(0<=x.i 2/\x.i 2<(c.length:Int))) (hb:∀i,i<c.length->amt (toB i) x<=bA (ai c i)/\amt (toI i) x<=(ai c i).i 5):
 lF n x={n with fee:=n.fee-amt kF x,out:=n.out-amt kR x,rin:=n.rin+amt kT x}/\∀i,i<c.length->xU (ai c i) (ai (ob c x) i) (amt (toB i) x) (amt (toI i) x):=by
 have zero:∀i,kI x=false->kB x=false->xU (ai c i) (ai c i) (amt (toB i) x) (amt (toI i) x):=fun i h1 h2=>by
  simp only[amt,toB,toI,h1,h2,zbN,zal];exact⟨rfl,rfl,rfl,by omega,rfl,by omega,rfl⟩
 unfold lF ob
 by_cases h1:x.i 1=1
 . have a1:kF x=true:=by simp[kF,h1]
   have a2:kR x=false:=by simp[kR,h1]
   have a3:kT x=false:=by simp[kT,h1]
   have a4:kI x=false:=by simp[kI,h1]
   have a5:kB x=false:=by simp[kB,a1]
   rw[if_pos h1,if_pos h1];refine⟨?_,fun i hi=>zero i a4 a5⟩;simp only[amt,a1,a2,a3,zaw,zal,zbv,zb4]
 rw[if_neg h1,if_neg h1];have a1:kF x=false:=lG h1
 by_cases h2:x.i 1=2
 . have a2:kR x=true:=by simp[kR,h2]
   have a3:kT x=false:=by simp[kT,h2]
   have a4:kI x=false:=by simp[kI,h2]
   have a5:kB x=false:=by simp[kB,a2]
   rw[if_pos h2,if_pos h2];refine⟨?_,fun i hi=>zero i a4 a5⟩;simp only[amt,a1,a2,a3,zaw,zal,zbv,zb4]
 rw[if_neg h2,if_neg h2];have a2:kR x=false:=lG h2
 by_cases h6:x.i 1=6
 . have a3:kT x=true:=by simp[kT,h6]
   have a4:kI x=false:=by simp[kI,h6]
   have a5:kB x=false:=by simp[kB,a3]
   rw[if_pos h6,if_pos h6];refine⟨?_,fun i hi=>zero i a4 a5⟩;simp only[amt,a1,a2,a3,zaw,zal,zbv,zb4]
 rw[if_neg h6,if_neg h6];have a3:kT x=false:=lG h6;refine⟨by simp only[amt,a1,a2,a3,zal,zbv,zb4],fun i hi=> ?_⟩;have hj:(x.i 2).toNat<c.length:=by omega
 have hx2:x.i 2=((x.i 2).toNat:Int):=by omega
 generalize (x.i 2).toNat=j at*
 have hbj:=hb j hj
 by_cases h3':x.i 1=3
 . have a4:kI x=true:=by simp[kI,h3']
   have a5:kB x=false:=by simp[kB,a4]
   rw[if_pos h3'];simp only[amt,toB,toI,a4,a5,zbN,zbb,zal,hx2]at hbj⊢
   by_cases hij:i=j
   . subst hij;rw[beq_self_eq_true,zaw]at hbj⊢;rw[Ac hj];refine⟨rfl,rfl,rfl,by simp only[qG,gR];omega,rfl, ?_,rfl⟩;simp only[qG,rE,H9];omega
   . rw[show((j:Int)==(i:Int))=false from lG (by omega),zal,qx hij];exact⟨rfl,rfl,rfl,by omega,rfl,by omega,rfl⟩
 . have a4:kI x=false:=lG h3';have a5:kB x=true:=by simp[kB,a1,a2,a3,a4]
   rw[if_neg h3'];simp only[amt,toB,toI,a4,a5,zbN,zbb,zal,hx2]at hbj⊢
   by_cases hij:i=j
   . subst hij;rw[beq_self_eq_true,zaw]at hbj⊢;rw[Ac hj];refine⟨rfl,rfl,rfl, ?_,rfl,by simp only[yZ,rE];omega,rfl⟩;simp only[yZ,gR,rG];omega
   . rw[show((j:Int)==(i:Int))=false from lG (by omega),zal,qx hij];exact⟨rfl,rfl,rfl,by omega,rfl,by omega,rfl⟩
theorem Co:∀(p:LD0) (n:aq) (c:LD0),(∀d∈p,0<=d.i 3)->(∀d∈p,(d.i 1=1\/d.i 1=2\/d.i 1=6)\/(0<=d.i 2/\d.i 2<(c.length:Int)))->(∀i,i<c.length->bE (toB i) p<=bA (ai c i)/\bE (toI i) p<=(ai c i).i 5)->
 (eP p n c).1={n with fee:=n.fee-bE kF p,out:=n.out-bE kR p,rin:=n.rin+bE kT p}/\(eP p n c).2.length=c.length/\∀i,i<c.length->xU (ai c i) (ai (eP p n c).2 i) (bE (toB i) p) (bE (toI i) p)
 |[],n,c,_,_,_=>by
  refine⟨by simp[eP,bE],rfl,fun i hi=>⟨rfl,rfl,rfl, ?_,rfl, ?_,rfl⟩⟩<;>simp[eP,bE]
 |x::p,n,c,h0,hk,hb=>by
  have n0:=fun f=>pT f p fun d hd=>h0 d (zay _ hd)
  have hx0:=h0 x (by simp);have m0:∀f,0<=amt f x:=fun f=>by unfold amt;cases f x<;>simp only[zaw,zal]<;>omega
  obtain⟨o1,o2⟩:=RT (n:=n) hx0 (hk x (by simp)) fun i hi=>by
   have:=hb i hi;rw[jT,jT]at this;have:=n0 (toB i);have:=n0 (toI i);omega
  have hl:=B6 c x;obtain⟨i1,i2,i3⟩:=Co p (lF n x) (ob c x) (fun d hd=>h0 d (zay _ hd)) (fun d hd=>by rw[hl];exact hk d (zay _ hd)) fun i hi=>by
   rw[hl]at hi;have:=hb i hi;rw[jT,jT]at this;obtain⟨_,e1,_,e3,e4,e5,e6⟩:=o2 i hi;unfold bA at this⊢;omega
  refine⟨?_,i2.trans hl,fun i hi=> ?_⟩
  . show(eP p (lF n x) (ob c x)).1=_;rw[i1,o1];simp only[jT,Int.sub_sub,zcl]
  . obtain⟨e0,e1,e2,e3,e4,e5,e6⟩:=o2 i hi;obtain⟨f0,f1,f2,f3,f4,f5,f6⟩:=i3 i (by rw[hl];exact hi);rw[jT,jT];exact⟨f0.trans e0,f1.trans e1,f2.trans e2,by show(ai (eP p (lF n x) (ob c x)).2 i).i 3=_;omega,f4.trans e4,by show(ai (eP p (lF n x) (ob c x)).2 i).i 5=_;omega,f6.trans e6⟩
def je (d e:Dat):Prop:=e.i 0=d.i 0/\e.i 1=d.i 1/\e.i 2=d.i 2/\e.i 3=d.i 3/\e.i 4=d.i 4/\e.i 5=d.i 5
theorem je.refl (d:Dat):je d d:=⟨rfl,rfl,rfl,rfl,rfl,rfl⟩
theorem je.trans {a b c:Dat} (h:je a b) (k:je b c):je a c:=⟨k.1.trans h.1,k.2.1.trans h.2.1,k.2.2.1.trans h.2.2.1,k.2.2.2.1.trans h.2.2.2.1,k.2.2.2.2.1.trans h.2.2.2.2.1,k.2.2.2.2.2.trans h.2.2.2.2.2⟩
structure gq (c c' : List Dat) : Prop where
 len:c'.length=c.length
 row:∀i,i<c.length->je (ai c i) (ai c' i)
theorem gq.refl (c:LD0):gq c c:=⟨rfl,fun _ _=> .refl _⟩
theorem gq.trans {a b c:LD0} (h:gq a b) (k:gq b c):gq a c:=⟨k.len.trans h.len,fun i hi=>(h.row i hi).trans (k.row i (by rw[h.len];exact hi))⟩
theorem gq.set {c:LD0} {j:Nat} {y:Dat} (hj:j<c.length) (h:je (ai c j) y):gq c (c.set j y):=⟨za1,fun i hi=>by
 by_cases e:i=j
 . subst e;rw[Ac hj];exact h
 . rw[qx e];exact .refl _⟩
theorem F2 (w:Int) (d:Dat):je d (fR w d):=⟨rfl,rfl,rfl,rfl,rfl,rfl⟩
theorem Iz (w:Int) (d:Dat):je d (jg w d):=⟨rfl,rfl,rfl,rfl,rfl,rfl⟩
theorem Dh (f:Dat->Int):∀c:LD0,(∀d∈c,f d=0)->bY f c=0
 |[],_=>rfl
 |d::c,h=>by simp only[bY,h d (by simp),Dh f c fun x hx=>h x (by simp[hx])];rfl
theorem CJ (j:Nat):∀c:LD0,(∀d∈c,d.i j=0)->au j c=0
 |[],_=>rfl
 |d::c,h=>by simp only[au,h d (by simp),CJ j c fun x hx=>h x (by simp[hx])];rfl
theorem Wc {c:LD0} {j:Nat} {y:Dat} (hj:j<c.length) (h:je (ai c j) y):bY unD (c.set j y)=bY unD c:=by
 obtain⟨_,h1,_,h3,h4,_⟩:=h;rw[Hp _ _ _ _ hj];unfold unD;omega
theorem Lv (t:Int):∀(k:Nat) (c:LD0),fm c->Am t c<k->fm (xA k t c)/\gq c (xA k t c)/\(au 6 c<=t->au 6 (xA k t c)=min t (bY unD c))/\(t<=au 6 c->xA k t c=c)
 |0,c,_,h=>by omega
 |k+1,c,hg,h=>by
  have hu:=kj c hg.2;unfold xA
  by_cases hs:au 6 c<t
  . rw[if_pos hs]
    by_cases hj:iS c c.length 0 (-1)<0
    . rw[if_pos hj];refine⟨hg,.refl c,fun _=> ?_,fun _=>rfl⟩;have h0:=((yT c c.length 0 (-1) (by omega) (.inl (by omega))).1 hj).2;have:bY bA c=0:=Dh _ _ fun d hd=>by
       obtain⟨i,hi,rfl⟩:=qd hd;have:=h0 i (by omega) hi;have:=(Nt (di hi hg.2)).1;omega
      omega
    . rw[if_neg hj];obtain⟨a1,a2,a3,a4⟩:=WH hg hs (by omega);have hw:=F2 (t-au 6 c) (ai c (iS c c.length 0 (-1)).toNat);have hun:=Wc a1 hw;have has:=gq.set a1 hw;generalize c.set (iS c c.length 0 (-1)).toNat (fR (t-au 6 c) (ai c (iS c c.length 0 (-1)).toNat))=c' at*
      obtain⟨b1,b2,b3,b4⟩:=Lv t k c' a2 (by omega);exact⟨b1,has.trans b2,fun _=>by rw[b3 a4,hun],fun _=>by omega⟩
  . rw[if_neg hs];exact⟨hg,.refl c,fun _=>by omega,fun _=>rfl⟩
theorem Mi (t:Int) (h0:0<=t):∀(k:Nat) (c:LD0),fm c->yW t c<k->fm (vm k t c)/\gq c (vm k t c)/\(t<=au 6 c->au 6 (vm k t c)=t)/\(au 6 c<=t->vm k t c=c)
 |0,c,_,h=>by omega
 |k+1,c,hg,h=>by
  have hu:=kj c hg.2;unfold vm
  by_cases hs:t<au 6 c
  . rw[if_pos hs]
    by_cases hj:iT c c.length 0 (-1)<0
    . have h0:=((yS c c.length 0 (-1) (by omega) (.inl (by omega))).1 hj).2;have:au 6 c=0:=CJ _ _ fun d hd=>by
       obtain⟨i,hi,rfl⟩:=qd hd;have:=h0 i (by omega) hi;have:=(cS (di hi hg.2)).2.2.2.2.1;omega
      omega
    . rw[if_neg hj];obtain⟨a1,a2,a3,a4⟩:=WK hg hs (by omega);have has:=gq.set a1 (Iz (au 6 c-t) (ai c (iT c c.length 0 (-1)).toNat));generalize c.set (iT c c.length 0 (-1)).toNat (jg (au 6 c-t) (ai c (iT c c.length 0 (-1)).toNat))=c' at*
      obtain⟨b1,b2,b3,b4⟩:=Mi t h0 k c' a2 (by omega);exact⟨b1,has.trans b2,fun _=>b3 a4,fun _=>by omega⟩
  . rw[if_neg hs];exact⟨hg,.refl c,fun _=>by omega,fun _=>rfl⟩
theorem NO {t:Int} {c:LD0} (hg:fm c) (h0:0<=t) (h1:t<=bY unD c):fm (ly t c)/\gq c (ly t c)/\au 6 (ly t c)=t:=by
 obtain⟨a1,a2,a3,a4⟩:=Lv t (c.length+2) c hg (HK t c);unfold ly;rw[show max t 0=t by omega];obtain⟨b1,b2,b3,b4⟩:=Mi t h0 (c.length+2) (xA (c.length+2) t c) a1 (by have:=Ho t (xA (c.length+2) t c);rwa [a2.len]at this);refine⟨b1,a2.trans b2, ?_⟩
 by_cases hs:au 6 c<=t
 . have:=a3 hs;rw[b4 (by omega)];omega
 . rw[a4 (by omega)]at b3⊢;exact b3 (by omega)
structure WJ (d : aT) : Prop where
 year:1<=d.a.year/\d.a.year<=9000
 month:1<=d.a.month/\d.a.month<=12
 basis:0<=d.a.basis/\d.a.basis<=2
 fee:0<=d.b.fee/\d.b.fee<=5000
 bq:0<=d.b.bq/\d.b.bq<=1099511627776
 target:0<=d.b.target/\d.b.target<=10000
 advance:0<=d.b.advance/\d.b.advance<=1099511627776
 eX:0<=d.b.eX/\d.b.eX<=600
 oc:0<=d.b.oc/\d.b.oc<=100000
 ic:0<=d.b.ic/\d.b.ic<=100000
 late:0<=d.b.late/\d.b.late<=100000
 lv:0<=d.b.lv/\d.b.lv<=100000
 clean:0<=d.b.clean/\d.b.clean<=100000
 aeG:((cI d).getD (0,0)).1=au 1 d.aC
 aN:0<=au 1 d.aC/\au 1 d.aC<=1099511627776
 JC:1<=d.aC.length/\d.aC.length<=64
 GZ:∀x∈d.aC,0<=x.i 1/\x.i 1<=1099511627776
 ids:(d.aC.map fun x=>x.i 0).Pairwise (·<·)
 pos:∀x∈d.aC,0<x.i 0
 NG:1<=d.notes.length/\d.notes.length<=8
 note:∀x∈d.notes,(0<=x.i 0/\x.i 0<=7)/\(1<=x.i 1/\x.i 1<=1099511627776)/\(0<=x.i 2/\x.i 2<=5000)
 sumn:au 1 d.notes<=au 1 d.aC
 s0:eF d.s0=true
 s1:eF d.s1=true
 s2:eF d.s2=true
theorem Cp:∀(l:LD0) (last all r:Int),0<=all->iX last all l=some r->r=all+au 1 l/\(all<=1099511627776->r<=1099511627776)/\(∀x∈l,0<=x.i 1/\x.i 1<=1099511627776/\last<x.i 0)/\(l.map fun x=>x.i 0).Pairwise (·<·)
 |[],last,all,r,h0,h=>by
  simp only[iX,zak]at h;subst h;exact⟨by simp[au],fun h=>h,fun x hx=>by simp at hx,List.Pairwise.nil⟩
 |d::l,last,all,r,h0,h=>by
  unfold iX at h
  split at h
  . cases h
  . rename_i hl
    split at h
    . rename_i hb;obtain⟨h1,h2,h3,h4⟩:=Cp l _ _ _ (by omega) h;refine⟨by simp only[au];omega,fun _=>h2 (by omega),fun x hx=> ?_, ?_⟩
      . rcases zaN.1 hx with rfl|hx
        . omega
        . have:=h3 x hx;omega
      . simp only[zaS,List.pairwise_cons];refine⟨fun y hy=> ?_,h4⟩;obtain⟨x,hx,rfl⟩:=za7.1 hy;exact(h3 x hx).2.2
    . cases h
theorem Ca (most:Int) (hm:most<=1099511627776):∀(l:LD0) (all r:Int),0<=all->mg most all l=some r->r=all+au 1 l/\(all<=most->r<=most)/\∀x∈l,(0<=x.i 0/\x.i 0<=7)/\(1<=x.i 1/\x.i 1<=1099511627776)/\(0<=x.i 2/\x.i 2<=5000)
 |[],all,r,h0,h=>by
  simp only[mg,zak]at h;subst h;exact⟨by simp[au],fun h=>h,fun x hx=>by simp at hx⟩
 |d::l,all,r,h0,h=>by
  unfold mg at h
  split at h
  . rename_i hb;obtain⟨h1,h2,h3⟩:=Ca most hm l _ _ (by omega) h;refine⟨by simp only[au];omega,fun _=>h2 (by omega),fun x hx=> ?_⟩;rcases zaN.1 hx with rfl|hx
    . omega
    . exact h3 x hx
  . cases h
theorem dU {d:aT} (h:(cI d).isSome=true):WJ d:=by
 unfold cI at h
 split at h
 . cases h
 . rename_i p hp
   split at h
   . cases h
   . rename_i n hn
     split at h
     . rename_i hc;have hs:cI d=some (p,n):=by unfold cI;simp only[hp,hn,if_pos hc]
       simp only[zae,qc,zag]at hc;obtain⟨⟨t1,t2,t3,t4,t5,t6,t7,t8,t9,t10,t11,t12,t13⟩,s0,s1,s2⟩:=hc;unfold gy at hp
       split at hp
       . rename_i hl;obtain⟨l1,l2,l3,l4⟩:=Cp _ _ _ _ (by omega) hp;have l2:=l2 (by omega);unfold lZ at hn
         split at hn
         . rename_i hnl;obtain⟨n1,n2,n3⟩:=Ca p (by omega) _ _ _ (by omega) hn;have h0:=gv 1 d.aC fun x hx=>(l3 x hx).1
           have n2:=n2 (by omega);exact⟨t6,t7,t8,t9,t10,t11,t12,t13,t1,t2,t3,t4,t5,by rw[hs];show p=_;omega,by omega,hl,fun x hx=>⟨(l3 x hx).1,(l3 x hx).2.1⟩,l4,fun x hx=>(l3 x hx).2.2,hnl,n3,by omega,s0,s1,s2⟩
         . cases hn
       . cases hp
     . cases h
def ik (T:af):aT:=⟨T.a,T.aC,T.notes,T.b,T.s0,T.s1,T.s2⟩
structure ee (T : af) : Prop where
 Ar:(cI (ik T)).isSome=true
 WD:T.tr.map (fun d=>(d.i 0,d.i 1,d.i 2))=T.notes.map (fun d=>(d.i 0,d.i 1,d.i 2))
 Vq:∀d∈T.tr,bn d=true/\d.i 5<=1200000000000*T.n.period
 ids:T.aN.map (fun d=>d.i 0)=T.aC.map (fun d=>d.i 0)
 GZ:∀d∈T.aN,jB d
 bal:au 1 T.aN+au 2 T.aN+T.n.bc<=au 1 T.aC
 lost:T.n.aP-T.n.bc=au 2 T.aN
 Nd:0<=T.n.bc
 period:0<=T.n.period/\T.n.period<=600
 mode:0<=T.n.mode/\T.n.mode<=2
 bf:0<=T.n.bf/\T.n.bf<=T.n.period
 fee:0<=T.n.fee/\T.n.fee<=1200000000000*T.n.period
 out:0<=T.n.out/\T.n.out<=T.b.advance
 res:0<=T.n.bM/\T.n.bM<=T.n.rin/\T.n.rin<=1200000000000*(T.n.period+1)
 down:au 6 T.tr<=au 2 T.aN
section
variable (T : af) (l : LD0)
def cP:Pz:=aK l T.aN
def ta:Int:=eH T.a T.n.period (au 1 T.aN) T.b.fee
def I3:Int:=bY (fun d=>eH T.a T.n.period (bA d) (d.i 2)) T.tr
def cTr:LD0:=T.tr.map (fA T.a T.n.period)
def cIn:Int:=(cP T l).p+(cP T l).q+(cP T l).r
def pF:Int:=T.n.fee+ta T+au 5 (cTr T)-cIn T l
def iz:Int:=jA (pF T l) (T.n.rin-T.n.bM)
def rN:Int:=N2 (pF T l) (T.n.rin-T.n.bM) (T.b.advance-T.n.out)
def cN1:aq:={T.n with fee:=T.n.fee+ta T,bM:=T.n.bM+iz T l}
def cX:bC:=⟨cIn T l+iz T l+rN T l,T.n.fee+ta T,T.n.out,min ((cP T l).p+(cP T l).r+(cP T l).l) (bY bA (cTr T)),Dc T.b.target (au 1 (cP T l).aN) (T.n.rin-(T.n.bM+iz T l))⟩
def dS:bC × LD0 × LD0:=fV 0 (gk (ik T) T.n.mode) (cX T l) ((cTr T).map gP)
def eO:aq × LD0:=eP (dS T l).2.2 (cN1 T l) (cTr T)
def cN2:aq:={(eO T l).1 with out:=(eO T l).1.out+rN T l,aP:=(eO T l).1.aP+(cP T l).l,bc:=(eO T l).1.bc+(cP T l).r}
def nQ:LD0:=ly (eL (bY unD (eO T l).2) (au 1 (cP T l).aN) (cN2 T l).aP (cN2 T l).bc) (eO T l).2
def zW:Int × Int:=ez T.n.mode T.n.bf T.b.eX (T.b.oc==0||cH (au 1 (cP T l).aN) (bY bA (nQ T l)) T.b.oc) (T.b.ic==0||cH (min (cP T l).q 1099511627776) (min (I3 T) 1099511627776) T.b.ic)
 (T.b.late==0||dH (dJ 2 (cP T l).aN+dJ 3 (cP T l).aN) (au 1 (cP T l).aN) T.b.late) (T.b.lv==0||dH ((cN2 T l).aP-(cN2 T l).bc) (au 1 T.aC) T.b.lv)
def cN3:aq:={cN2 T l with mode:=(zW T l).1,bf:=(zW T l).2,period:=T.n.period+1}
end
structure pU where
 ra:cJ
 rb:cC
 next:Int
 e:Int
 t:af
 bm:List Dat
 notes:List Dat
def noR (e:Int) (T:af):pU:=⟨⟨false,0,0,0,0,0,0,0,0,0,0⟩,⟨0,0,0,0,0⟩,0,e,T,[],[]⟩
def fj (T:af) (l:LD0):pU:=
 ⟨⟨false,T.n.period+1,T.n.mode,(cP T l).p,(cP T l).q,(cP T l).l,(cP T l).r,iz T l,rN T l,ta T,I3 T⟩,⟨(dS T l).1.aD,au 1 (cP T l).aN,(cN2 T l).rin-(cN2 T l).bM,(cN2 T l).out,(cN2 T l).fee⟩,(zW T l).1,0,
  {T with n:=cN3 T l,aN:=(cP T l).aN,tr:=nQ T l},(dS T l).2.2,(nQ T l).map J0⟩
def aH (T:af) (l:LD0):pU:=bif T.n.gU then noR 5 T else bif decide (T.n.period>=600)then noR 4 T else bif (cP T l).e !=0 then noR (cP T l).e T else fj T l
theorem Hq (f:Dat->Dat) {l:LD0} {i:Nat} (h:i<l.length):ai (l.map f) i=f (ai l i):=by
 rw[kQ (by simpa using h),kQ h,List.getElem_map]
theorem GF (a:av) (p:Int):∀l:LD0,au 5 (l.map (fA a p))=au 5 l+bY (fun d=>eH a p (bA d) (d.i 2)) l/\au 6 (l.map (fA a p))=au 6 l/\bY bA (l.map (fA a p))=bY bA l
 |[]=>⟨rfl,rfl,rfl⟩
 |d::l=>by
  obtain⟨h1,h2,h3⟩:=GF a p l;have e5:(fA a p d).i 5=d.i 5+eH a p (bA d) (d.i 2):=rfl;have e6:(fA a p d).i 6=d.i 6:=rfl;have eb:bA (fA a p d)=bA d:=rfl;simp only[zaS,au,bY,h1,h2,h3,e5,e6,eb]
  and_intros<;>first|trivial|omega
theorem Mc (f:Dat->Int) (b:Int):∀l:LD0,(∀d∈l,0<=f d/\f d<=b)->0<=bY f l/\bY f l<=b*l.length
 |[],_=>by simp[bY]
 |d::l,h=>by
  have h1:=h d (by simp);have h2:=Mc f b l fun x hx=>h x (by simp[hx])
  simp only[bY,zac,zaL,zce];omega
theorem OS {n b:Int} (h1:0<=n) (h2:n<=1099511627776) (h3:0<=b) (h4:b<=10000):mdV n b 10000 0=n*b/10000/\0<=mdV n b 10000 0/\mdV n b 10000 0<=n:=by
 have hm:=zb3 h4 h1;have hz:=za9 h1 h3;have i:=ac4 (n:=n) (b:=b) (p:=10000) (h:=0) h1 (by omega) h3 (by omega) (by omega) (by omega) (by omega) (by omega) (by omega);rw[i.2.1,Zp];omega
theorem bL {l:LD0} (h:eF l=true):1<=l.length/\l.length<=16:=by
 simp only[eF,zae,zag]at h;omega
theorem Oa {T:af} {i:Nat} (hi:i<(cTr T).length):ai ((cTr T).map gP) i=gP (ai (cTr T) i):=Hq _ hi
section
variable {T : af} {l : LD0} (h : ee T) (hp : T.n.period < 600) (he : (cP T l).e = 0)
include h
theorem Dm:T.tr.length=T.notes.length:=by
 have:=zcm List.length h.WD;simpa using this
theorem fI:T.tr.length<=8/\1<=T.tr.length:=by
 have:=(dU h.Ar).NG;rw[Dm h];exact⟨this.2,this.1⟩
theorem GW:fm T.tr:=⟨by have:=fI h;omega,fun d hd=>(h.Vq d hd).1⟩
theorem jN:T.aN.length=T.aC.length/\T.aN.length<=64:=by
 have:=zcm List.length h.ids;have:=(dU h.Ar).JC;simp only[zaU,ik]at*
 omega
theorem oa:0<=au 1 T.aN/\0<=au 2 T.aN/\au 1 T.aN+au 2 T.aN+T.n.bc<=1099511627776:=by
 have h1:=iG h.GZ;have h2:=(dU h.Ar).aN.2;have h3:=h.bal;have:au 1 (ik T).aC=au 1 T.aC:=rfl;omega
theorem nK:(0<=ta T/\ta T<=1200000000000)/\fm (cTr T)/\(∀d∈cTr T,d.i 5<=1200000000000*(T.n.period+1))/\(I3 T=au 5 (cTr T)-au 5 T.tr/\0<=I3 T/\I3 T<=1200000000000*T.tr.length)/\bY bA (cTr T)=bY bA T.tr/\au 6 (cTr T)=au 6 T.tr:=by
 have D:=dU h.Ar;obtain⟨b1,b2,b3⟩:=oa h;have r0:=h.Nd;have hs:∀d∈T.tr,0<=eH T.a T.n.period (bA d) (d.i 2)/\eH T.a T.n.period (bA d) (d.i 2)<=1200000000000:=fun d hd=>
  te _ D.year.1 D.year.2 D.month.1 D.month.2 h.period.1 (by have:=h.period.2;omega) (Nt (h.Vq d hd).1).1 (Nt (h.Vq d hd).1).2
 obtain⟨a1,a2,a3⟩:=GF T.a T.n.period T.tr;have sd:=Mc (fun d=>eH T.a T.n.period (bA d) (d.i 2)) 1200000000000 T.tr hs;have hsh:∀d∈cTr T,bn d=true/\d.i 5<=1200000000000*(T.n.period+1):=fun d hd=>by
  obtain⟨x,hx,rfl⟩:=za7.1 hd;obtain⟨g,g5⟩:=h.Vq x hx;have g':=cS g;have:=hs x hx;have:=h.period;have e5:(fA T.a T.n.period x).i 5=x.i 5+eH T.a T.n.period (bA x) (x.i 2):=rfl;refine⟨zaa ?_,by omega⟩;rw[e5];show(0<=x.i 1/\x.i 1<=1099511627776/\0<=x.i 3/\x.i 4=0/\0<=x.i 6/\x.i 3+x.i 6<=x.i 1/\_);omega
 refine⟨te _ D.year.1 D.year.2 D.month.1 D.month.2 h.period.1 (by have:=h.period.2;omega) b1 (by omega),⟨by simp only[cTr,zaU];have:=fI h;omega,fun d hd=>(hsh d hd).1⟩,fun d hd=>(hsh d hd).2,⟨?_,sd.1,sd.2⟩,a3,a2⟩;show bY _ T.tr=au 5 (T.tr.map (fA T.a T.n.period))-au 5 T.tr;omega
theorem qT:(cTr T).length=T.tr.length:=by simp[cTr]
include he
theorem tw:(∀d∈(cP T l).aN,jB d)/\(cP T l).aN.map (fun d=>d.i 0)=T.aN.map (fun d=>d.i 0)/\au 1 (cP T l).aN=au 1 T.aN-(cP T l).p-(cP T l).l/\au 2 (cP T l).aN=au 2 T.aN+(cP T l).l-(cP T l).r/\
 0<=(cP T l).p/\0<=(cP T l).l/\0<=(cP T l).r/\0<=(cP T l).q/\(cP T l).q<=70368744177664:=by
 have b:=oa h;have r0:=h.Nd;exact NC h.GZ (by omega) he
theorem om:(0<=cIn T l/\cIn T l<=75000000000000)/\(-1000000000000000<=pF T l/\pF T l<=10000000000000000)/\(0<=iz T l/\iz T l<=T.n.rin-T.n.bM/\iz T l<=max (pF T l) 0)/\(0<=rN T l/\rN T l<=T.b.advance-T.n.out):=by
 obtain⟨p1,p2,p3,p4,p5,p6,p7,p8,p9⟩:=tw h he;obtain⟨a1,a2,a3,a4,a5⟩:=nK h;have n1:=iG p1;have b:=oa h;have r0:=h.Nd;have hi:0<=cIn T l/\cIn T l<=75000000000000:=by unfold cIn;omega
 have s5:=(kj (cTr T) a2.2).2.1;have hl:=fI h;have f:=h.fee;have p:=h.period;have s5':au 5 (cTr T)<=1200000000000*601*8:=by
  have:=tP 5 (1200000000000*601) (cTr T) fun d hd=>⟨(cS (a2.2 d hd)).2.2.2.2.2.2.1,by have:=a3 d hd;omega⟩
  have:=qT h;omega
 have hn: -1000000000000000<=pF T l/\pF T l<=10000000000000000:=by unfold pF;omega
 have r:=h.res;have o:=h.out;refine⟨hi,hn, ?_, ?_⟩
 . unfold iz jA;omega
 . unfold rN N2;omega
theorem tW:rV (cX T l)=true/\bk ((cTr T).map gP)=true/\((cX T l).room<=1099511627776/\(cX T l).aD<=800000000000000):=by
 obtain⟨p1,p2,p3,p4,p5,p6,p7,p8,p9⟩:=tw h he;obtain⟨a1,a2,a3,a4,a5⟩:=nK h;obtain⟨c1,c2,c3,c4⟩:=om h he;have n1:=iG p1;have b:=oa h;have D:=dU h.Ar;have r:=h.res;have o:=h.out;have hpe:=h.period;have f:=h.fee;have r0:=h.Nd;have sb:=(kj (cTr T) a2.2).1;have tg:0<=T.b.target/\T.b.target<=10000:=D.target;have ad:T.b.advance<=1099511627776:=D.advance.2;have g:=OS (n:=au 1 (cP T l).aN) (b:=T.b.target) n1.1 (by omega) tg.1 tg.2;refine⟨zaa ?_,zm (by rw[zaU];exact a2.1) fun d hd=> ?_, ?_, ?_⟩
 . simp only[cX,Dc];omega
 . obtain⟨x,hx,rfl⟩:=za7.1 hd;have g:=cS (a2.2 x hx);have gb:=Nt (a2.2 x hx);simp only[ng,gP,zae,fL,j8];clear p1 p2 p3 p4 p5 p6 p7 p8 p9 a1 a3 a4 a5 c1 c2 c3 c4 D r o f r0 sb tg ad b n1 hpe;exact⟨rfl,zaa (by omega)⟩
 . simp only[cX,Dc];omega
 . simp only[cX];omega
end
theorem G7 {m p c:Int} {o i a s:Bool} (hm:0<=m/\m<=2) (hp:0<=p):(0<=(ez m p c o i a s).1/\(ez m p c o i a s).1<=2)/\0<=(ez m p c o i a s).2/\(ez m p c o i a s).2<=p+1:=by
 unfold ez
 repeat' split
 all_goals (simp only;omega)
section
variable {T : af} {l : LD0} (h : ee T) (hp : T.n.period < 600) (he : (cP T l).e = 0)
include h
theorem qf:eF (gk (ik T) T.n.mode)=true:=by
 have D:=dU h.Ar;have m:=h.mode;unfold gk
 by_cases m0:T.n.mode=0
 . rw[if_pos m0];exact D.s0
 rw[if_neg m0]
 by_cases m1:T.n.mode=1
 . rw[if_pos m1];exact D.s1
 rw[if_neg m1,if_pos (by omega)];exact D.s2
include he
theorem ue:Kept (cX T l) ((cTr T).map gP) (dS T l).2.2 (dS T l).1 (dS T l).2.1/\(∀d∈(dS T l).2.2,OK T.tr.length 0 (gk (ik T) T.n.mode) d)/\rV (dS T l).1=true/\bk (dS T l).2.1=true/\(dS T l).2.2.length<=128000:=by
 obtain⟨x1,x2,x3,x4⟩:=tW h he;have k:=CM (gk (ik T) T.n.mode) 0 (cX T l) _ x1 x2;have o:=Mw (gk (ik T) T.n.mode) 0 (cX T l) _ x1 x2;have sl:=bL (qf h);have e:((cTr T).map gP).length=T.tr.length:=by rw[zaU,qT h]
 rw[e]at k;exact⟨k.1,k.2.1,o.1,o.2.1,by have:=o.2.2.2;unfold dS;omega⟩
theorem oV:(∀d∈(dS T l).2.2,1<=d.i 3/\((d.i 1=1\/d.i 1=2\/d.i 1=6)\/(0<=d.i 2/\d.i 2<(T.tr.length:Int))))/\au 3 (dS T l).2.2<=800000000000000/\
 (0<=bE kF (dS T l).2.2/\bE kF (dS T l).2.2<=T.n.fee+ta T)/\(0<=bE kR (dS T l).2.2/\bE kR (dS T l).2.2<=T.n.out)/\(0<=bE kT (dS T l).2.2/\bE kT (dS T l).2.2<=(cX T l).room)/\
 ∀i,i<T.tr.length->(0<=bE (toB i) (dS T l).2.2/\bE (toB i) (dS T l).2.2<=bA (ai (cTr T) i))/\(0<=bE (toI i) (dS T l).2.2/\bE (toI i) (dS T l).2.2<=(ai (cTr T) i).i 5):=by
 obtain⟨k,p,g,c,_⟩:=ue h he;obtain⟨x1,x2,x3,x4⟩:=tW h he;have g:=yr g;have hpp:∀d∈(dS T l).2.2,1<=d.i 3/\((d.i 1=1\/d.i 1=2\/d.i 1=6)\/(0<=d.i 2/\d.i 2<(T.tr.length:Int))):=fun d hd=>by
  obtain⟨_,_,h1,h2,h3,h4⟩:=p d hd;refine⟨h2, ?_⟩;rw[<-h1]at h4
  by_cases hn:d.i 2<0
  . exact .inl (h4.1 hn)
  . exact .inr (by omega)
 have n0:=fun f=>pT f (dS T l).2.2 fun d hd=>by have:=(hpp d hd).1;omega
 have kf:=k.fee;have kr:=k.cf;have kt:=k.room;have kc:=k.aD;have e1:(cX T l).fee=T.n.fee+ta T:=rfl;have e2:(cX T l).cf=T.n.out:=rfl;refine⟨hpp,by omega,⟨n0 _,by omega⟩,⟨n0 _,by omega⟩,⟨n0 _,by omega⟩,fun i hi=> ?_⟩;have hl:=qT h;have hr:=k.row i (by rw[zaU];omega);rw[Oa (by omega)]at hr;have hc:=dh ((cq c).2 _ (tH (l:=(dS T l).2.1) (j:=i) (by rw[k.len,zaU];omega)));rw[hr]at hc;have b1:(gP (ai (cTr T) i)).i 1=bA (ai (cTr T) i):=rfl;have b2:(gP (ai (cTr T) i)).i 2=(ai (cTr T) i).i 5:=rfl;simp only[fL,j8,b1,b2]at hc;exact⟨⟨n0 _,by omega⟩,⟨n0 _,by omega⟩⟩
theorem mE:(eO T l).1={T.n with fee:=T.n.fee+ta T-bE kF (dS T l).2.2,out:=T.n.out-bE kR (dS T l).2.2,rin:=T.n.rin+bE kT (dS T l).2.2,bM:=T.n.bM+iz T l}/\(eO T l).2.length=T.tr.length/\fm (eO T l).2/\
 (∀i,i<T.tr.length->xU (ai (cTr T) i) (ai (eO T l).2 i) (bE (toB i) (dS T l).2.2) (bE (toI i) (dS T l).2.2))/\G0 (dS T l).2.2 (cN1 T l) (cTr T)=true:=by
 obtain⟨s1,s2,s3,s4,s5,s6⟩:=oV h he;obtain⟨k,p,g,c,pl⟩:=ue h he;obtain⟨a1,a2,a3,a4,a5⟩:=nK h;obtain⟨c1,c2,c3,c4⟩:=om h he;have hl:=qT h;obtain⟨d1,d2,d3⟩:=Co (dS T l).2.2 (cN1 T l) (cTr T) (fun d hd=>by have:=(s1 d hd).1;omega) (fun d hd=>by rw[hl];exact(s1 d hd).2) (fun i hi=>by have:=s6 i (by omega);omega);have f:=h.fee;have o:=h.out;have r:=h.res;have hpe:=h.period;have ad:T.b.advance<=1099511627776:=(dU h.Ar).advance.2;have hg:fm (eO T l).2:=by
  have hdl:(eO T l).2.length=(cTr T).length:=d2;refine⟨by have:=a2.1;omega,fun d hd=> ?_⟩;obtain⟨i,hi,rfl⟩:=qd hd;obtain⟨_,e1,_,e3,e4,e5,e6⟩:=d3 i (by omega);have:=s6 i (by omega);have gi:=cS (di (c:=cTr T) (i:=i) (by omega) a2.2);have e1':(ai (eO T l).2 i).i 1=(ai (cTr T) i).i 1:=e1;have e3':(ai (eO T l).2 i).i 3=(ai (cTr T) i).i 3+bE (toB i) (dS T l).2.2:=e3;have e4':(ai (eO T l).2 i).i 4=(ai (cTr T) i).i 4:=e4;have e5':(ai (eO T l).2 i).i 5=(ai (cTr T) i).i 5-bE (toI i) (dS T l).2.2:=e5;have e6':(ai (eO T l).2 i).i 6=(ai (cTr T) i).i 6:=e6;refine zaa ?_
  rw[e1',e3',e4',e5',e6'];unfold bA at this;omega
 refine⟨d1,d2.trans hl,hg,fun i hi=>d3 i (by omega), ?_⟩;simp only[G0,zae,zag,zam];refine⟨by omega,fun d hd=> ?_,⟨by omega, ?_⟩,a2⟩
 . have:=s1 d hd;simp only[N0,zae,zbj,zag,hl];exact⟨by omega,this.2⟩
 . simp only[cN1];omega
theorem tO:cN2 T l={T.n with fee:=T.n.fee+ta T-bE kF (dS T l).2.2,out:=T.n.out-bE kR (dS T l).2.2+rN T l,rin:=T.n.rin+bE kT (dS T l).2.2,bM:=T.n.bM+iz T l,aP:=T.n.aP+(cP T l).l,bc:=T.n.bc+(cP T l).r}:=by
 unfold cN2;rw[(mE h he).1]
theorem uS:0<=eL (bY unD (eO T l).2) (au 1 (cP T l).aN) (cN2 T l).aP (cN2 T l).bc/\eL (bY unD (eO T l).2) (au 1 (cP T l).aN) (cN2 T l).aP (cN2 T l).bc<=bY unD (eO T l).2/\
 eL (bY unD (eO T l).2) (au 1 (cP T l).aN) (cN2 T l).aP (cN2 T l).bc<=au 2 (cP T l).aN/\(cN2 T l).aP-(cN2 T l).bc=au 2 (cP T l).aN:=by
 obtain⟨p1,p2,p3,p4,p5,p6,p7,p8,p9⟩:=tw h he;have g:=(mE h he).2.2.1;have u:=(kj _ g.2).2.2.2.1;have t:=Bm (bY unD (eO T l).2) (au 1 (cP T l).aN) (cN2 T l).aP (cN2 T l).bc;have n1:=iG p1;have hl:=h.lost;have e:(cN2 T l).aP-(cN2 T l).bc=au 2 (cP T l).aN:=by rw[tO h he];simp only;omega
 omega
theorem uy:fm (nQ T l)/\gq (eO T l).2 (nQ T l)/\au 6 (nQ T l)=eL (bY unD (eO T l).2) (au 1 (cP T l).aN) (cN2 T l).aP (cN2 T l).bc:=by
 have t:=uS h he;exact NO (mE h he).2.2.1 t.1 t.2.1
theorem Cw:(nQ T l).length=T.tr.length/\∀i,i<T.tr.length->(ai (nQ T l) i).i 0=(ai T.tr i).i 0/\(ai (nQ T l) i).i 1=(ai T.tr i).i 1/\(ai (nQ T l) i).i 2=(ai T.tr i).i 2/\(ai (nQ T l) i).i 3=(ai T.tr i).i 3+bE (toB i) (dS T l).2.2/\(ai (nQ T l) i).i 4=(ai T.tr i).i 4/\
 (ai (nQ T l) i).i 5=(ai T.tr i).i 5+eH T.a T.n.period (bA (ai T.tr i)) ((ai T.tr i).i 2)-bE (toI i) (dS T l).2.2/\ai (cTr T) i=fA T.a T.n.period (ai T.tr i):=by
 obtain⟨d1,d2,d3,d4,d5⟩:=mE h he;obtain⟨g,s,_⟩:=uy h he;refine⟨s.len.trans d2,fun i hi=> ?_⟩;obtain⟨r0,r1,r2,r3,r4,r5⟩:=s.row i (by omega);obtain⟨e0,e1,e2,e3,e4,e5,e6⟩:=d4 i hi;have hr:ai (cTr T) i=fA T.a T.n.period (ai T.tr i):=Hq _ hi;rw[hr]at e0 e1 e2 e3 e4 e5;have q5:(fA T.a T.n.period (ai T.tr i)).i 5=(ai T.tr i).i 5+eH T.a T.n.period (bA (ai T.tr i)) ((ai T.tr i).i 2):=rfl;rw[q5]at e5;exact⟨r0.trans e0,r1.trans e1,r2.trans e2,r3.trans e3,r4.trans e4,r5.trans e5,hr⟩
include hp
theorem zI:ee (fj T l).t:=by
 obtain⟨p1,p2,p3,p4,p5,p6,p7,p8,p9⟩:=tw h he;obtain⟨a1,a2,a3,a4,a5⟩:=nK h;obtain⟨c1,c2,c3,c4⟩:=om h he;obtain⟨s1,s2,s3,s4,s5,s6⟩:=oV h he;obtain⟨x1,x2,x3,x4⟩:=tW h he;obtain⟨t1,t2,t3⟩:=uy h he;obtain⟨g1,g2,g3,g4⟩:=uS h he;obtain⟨r1,r2⟩:=Cw h he;have e:=tO h he;have n:=G7 (c:=T.b.eX) (o:=(T.b.oc==0||cH (au 1 (cP T l).aN) (bY bA (nQ T l)) T.b.oc)) (i:=(T.b.ic==0||cH (min (cP T l).q 1099511627776) (min (I3 T) 1099511627776) T.b.ic))
  (a:=(T.b.late==0||dH (dJ 2 (cP T l).aN+dJ 3 (cP T l).aN) (au 1 (cP T l).aN) T.b.late)) (s:=(T.b.lv==0||dH ((cN2 T l).aP-(cN2 T l).bc) (au 1 T.aC) T.b.lv)) h.mode h.bf.1
 have bl:=h.bal;have r0:=h.Nd;have pe:=h.period;have pa:=h.bf;have fe:=h.fee;have ou:=h.out;have re:=h.res;refine⟨h.Ar, ?_,fun d hd=> ?_,p2.trans h.ids,p1, ?_,g4, ?_, ?_,n.1, ?_, ?_, ?_, ?_, ?_⟩
 . refine Eq.trans ?_ h.WD;refine List.ext_getElem (by simp[fj,r1]) fun i h1 h2=> ?_
   simp only[zaU]at h1 h2;have hi:i<T.tr.length:=h2;have:=r2 i hi;rw[kQ (show i<(nQ T l).length by omega),kQ hi]at this;simp only[List.getElem_map];exact Prod.ext this.1 (Prod.ext this.2.1 this.2.2.1)
 . refine⟨t1.2 d hd, ?_⟩;obtain⟨i,hi,rfl⟩:=qd (show d∈nQ T l from hd);have hi:i<T.tr.length:=by omega
   have:=(r2 i hi).2.2.2.2.2.1;have q:=a3 _ (tH (l:=cTr T) (j:=i) (by rw[qT h];exact hi));rw[(r2 i hi).2.2.2.2.2.2]at q;have q5:(fA T.a T.n.period (ai T.tr i)).i 5=(ai T.tr i).i 5+eH T.a T.n.period (bA (ai T.tr i)) ((ai T.tr i).i 2):=rfl;rw[q5]at q;have:=(s6 i hi).2.1;show(ai (nQ T l) i).i 5<=1200000000000*(T.n.period+1)
   omega
 . show au 1 (cP T l).aN+au 2 (cP T l).aN+(cN2 T l).bc<=au 1 T.aC;rw[e];simp only;omega
 . show 0<=(cN2 T l).bc;rw[e];simp only;omega
 . show 0<=T.n.period+1/\T.n.period+1<=600;omega
 . show 0<=(zW T l).2/\(zW T l).2<=T.n.period+1;exact⟨n.2.1,by have:=n.2.2;unfold zW;omega⟩
 . show 0<=(cN2 T l).fee/\(cN2 T l).fee<=1200000000000*(T.n.period+1)
   rw[e];simp only;omega
 . show 0<=(cN2 T l).out/\(cN2 T l).out<=T.b.advance;rw[e];simp only;omega
 . show 0<=(cN2 T l).bM/\(cN2 T l).bM<=(cN2 T l).rin/\(cN2 T l).rin<=1200000000000*(T.n.period+1+1)
   rw[e];simp only;omega
 . show au 6 (nQ T l)<=au 2 (cP T l).aN;omega
end
def la (T:af):Bool:= @decide (ee T) (Classical.propDecidable _)
theorem jW {T:af}:la T=true↔ee T:=by unfold la;simp
theorem Ld {l:LD0} (h:∀d∈l,jB d) (hl:l.length<=1000):(decide (l.length<=1000)&&l.all fG)=true:=by
 rw[zae,zam];exact⟨zaa hl,fun d hd=>zaa (by have:=h d hd;unfold jB at this;omega)⟩
theorem rU {T:af} (h:ee T):T.aC.length<1000000/\T.notes.length<1000000/\T.s0.length<1000000/\T.s1.length<1000000/\T.s2.length<1000000/\T.aN.length<1000000/\T.tr.length<1000000:=by
 have D:=dU h.Ar;have h0:=bL D.s0;have h1:=bL D.s1;have h2:=bL D.s2;have h3:=jN h;have h4:=fI h;have h5:=Dm h;have:(ik T).aC=T.aC:=rfl;have:=D.JC;simp only[ik]at*
 omega
theorem G9 {T:af} (h:ee T):(gk (ik T) T.n.mode).length<=16:=(bL (qf h)).2
def N98:aA:=⟨ZF.tab,98,⟨[.np 0 0 0,.ab (sB 6)],aU 0,0⟩,⟨[.agg [.bool,.z0,.z0,.z0,.z0,.z0,.z0,.z0,.z0,.z0,.z0,.buf 17 4,.z0,.z0,.z0,.z0,.z0,.buf 18 3,.z0],.z0],[.cells [.z0,.z0,.z0,.buf 9 2,.buf 10 3,.z0,.z0,.z0,.z0,.z0,.z0,.z0,.z0,.z0,.z0,.buf 11 2,.buf 12 2,.buf 13 2,.ptr 14 0 0,.buf 16 7,.z0,.z0,.z0,.z0,.z0,.z0,.z0,.z0,.z0,.bool],.gone,.gone,.gone,.gone,.gone,.gone,.gone,.gone,.ab (sI 2),.ab (sI 3),.ab (sI 2),.ab (sI 2),.ab (sI 2),.cells [.buf 15 5],.ab (sB 4),.ab (sI 7),.ab (sI 4),.ab (sI 3)],0⟩,[]⟩
def t98 (m:Nat):Int × LD0 × av × aw × aq × LD0 × LD0 × LD0 × LD0 × LD0 × LD0 × LD0->OU0:=fun(a0,a1,a2,a3,a4,a5,a6,a7,a8,a9,a10,a11)=>
 chk (decide (0<=a0))<|
 bif a4.gU then
 some (Uns.enc ((⟨false,0,0,0,0,0,0,0,0,0,0⟩:cJ):cJ)++Uns.enc ((⟨0,0,0,0,0⟩:cC):cC)++[.i 0,.i 5]++Uns.enc (a2:av)++Uns.enc (a3:aw)++Uns.enc (a4:aq)++[.d a5,.d a6,.d a7,.d a8,.d a9,.d a10,.d a11,.d ([]),.d ([])])
 else
 chk (decide (0<=a0))<|
 bif (decide (a4.period>=600))then
 some (Uns.enc ((⟨false,0,0,0,0,0,0,0,0,0,0⟩:cJ):cJ)++Uns.enc ((⟨0,0,0,0,0⟩:cC):cC)++[.i 0,.i 4]++Uns.enc (a2:av)++Uns.enc (a3:aw)++Uns.enc (a4:aq)++[.d a5,.d a6,.d a7,.d a8,.d a9,.d a10,.d a11,.d ([]),.d ([])])
 else
 chk (decide (0<=a0)&&decide (a5.length<1000000/\a6.length<1000000/\a7.length<1000000/\a8.length<1000000/\a9.length<1000000/\a10.length<1000000/\a11.length<1000000))<|
 chk (decide (0<([.r [.r a10]]:LD0).length)&&(decide (((ai ([.r [.r a10]]:LD0) 0).d 0).length<=1000)&&((ai ([.r [.r a10]]:LD0) 0).d 0).all fG))<|
 lt ((au 1 ((ai ([.r [.r a10]]:LD0) 0).d 0)):Int) fun x2=>
 chk (decide (a10.length<1000000))<|
 bif (((aK a1 a10).e) !=0)then
 some (Uns.enc ((⟨false,0,0,0,0,0,0,0,0,0,0⟩:cJ):cJ)++Uns.enc ((⟨0,0,0,0,0⟩:cC):cC)++[.i 0,.i ((aK a1 a10).e)]++Uns.enc (a2:av)++Uns.enc (a3:aw)++Uns.enc (a4:aq)++[.d a5,.d a6,.d a7,.d a8,.d a9,.d a10,.d a11,.d ([]),.d ([])])
 else
 chk (decide ((1<=a2.year/\a2.year<=9000/\1<=a2.month/\a2.month<=12)/\(0<=a4.period/\a4.period<=600)/\(0<=a4.fee/\a4.fee<=1125899906842624)/\(0<=x2/\x2<=1099511627776))&&(decide (a11.length<=1000)&&a11.all bn))<|
 lt ((bY (fun d=>eH a2 a4.period (bA d) (d.i 2)) a11):Int) fun x4=>
 lt (({a4 with fee:=a4.fee+eH a2 a4.period x2 a3.fee}):aq) fun g5=>
 chk (decide (0<=0)&&(decide ((a11.map (fA a2 a4.period)).length<=1000)&&(a11.map (fA a2 a4.period)).all bn))<|
 lt ((w64 (g5.fee+(au 5 (a11.map (fA a2 a4.period))))):Int) fun x6=>
 lt ((w64 ((w64 ((w64 ((w64 (((aK a1 a10).p)+((aK a1 a10).q)))+((aK a1 a10).r)))+0))+0)):Int) fun x9=>
 chk (decide (0<=0)&&decide ((-1152921504606846976<=(w64 (x6-x9))/\(w64 (x6-x9))<=1152921504606846976)/\((0:Int)<=g5.bM/\g5.bM<=g5.rin/\g5.rin<=(1152921504606846976:Int))/\(0<=g5.out/\g5.out<=1152921504606846976)/\(0<=a3.advance/\a3.advance<=1152921504606846976)))<|
 lt ((jA (w64 (x6-x9)) (g5.rin-g5.bM)):Int) fun x10=>
 lt ((N2 (w64 (x6-x9)) (g5.rin-g5.bM) (a3.advance-g5.out)):Int) fun x11=>
 lt (({g5 with bM:=g5.bM+jA (w64 (x6-x9)) (g5.rin-g5.bM)}):aq) fun g12=>
 lt ((w64 ((w64 ((w64 ((w64 (((aK a1 a10).p)+((aK a1 a10).q)))+((aK a1 a10).r)))+x10))+x11)):Int) fun x15=>
 chk (decide (((0<=((aK a1 a10).p)/\((aK a1 a10).p)<=1125899906842624)/\(0<=((aK a1 a10).l)/\((aK a1 a10).l)<=1125899906842624)/\(0<=((aK a1 a10).r)/\((aK a1 a10).r)<=1125899906842624))/\(0<=g12.bM/\g12.bM<=g12.rin/\g12.rin<=1152921504606846976))&&((decide (((aK a1 a10).aN).length<=1000)&&((aK a1 a10).aN).all fG)&&(decide ((a11.map (fA a2 a4.period)).length<=1000)&&(a11.map (fA a2 a4.period)).all bn)))<|
 lt ((min (((aK a1 a10).p)+((aK a1 a10).r)+((aK a1 a10).l)) (bY bA (a11.map (fA a2 a4.period)))):Int) fun x16=>
 lt ((Dc a3.target (au 1 ((aK a1 a10).aN)) (g12.rin-g12.bM)):Int) fun x17=>
 chk (decide ((⟨a2,a5,a6,a3,a7,a8,a9⟩:aT).s0.length<1000000/\(⟨a2,a5,a6,a3,a7,a8,a9⟩:aT).s1.length<1000000/\(⟨a2,a5,a6,a3,a7,a8,a9⟩:aT).s2.length<1000000))<|
 lt ((gk (⟨a2,a5,a6,a3,a7,a8,a9⟩:aT) g12.mode):LD0) fun l18=>
 chk (decide (l18.length<=1000000)&&(rV ⟨x15,g12.fee,g12.out,x16,x17⟩&&bk ((a11.map (fA a2 a4.period)).map gP)))<|
 lt (((fV 0 l18 ⟨x15,g12.fee,g12.out,x16,x17⟩ ((a11.map (fA a2 a4.period)).map gP)).2.2):LD0) fun l24=>
 chk (decide (0<=0)&&G0 l24 g12 (a11.map (fA a2 a4.period)))<|
 lt (((eP l24 g12 (a11.map (fA a2 a4.period))).1).out:Int) fun x26=>
 chk (decide (((0<=((aK a1 a10).p)/\((aK a1 a10).p)<=1125899906842624)/\(0<=((aK a1 a10).l)/\((aK a1 a10).l)<=1125899906842624)/\(0<=((aK a1 a10).r)/\((aK a1 a10).r)<=1125899906842624))/\(0<=({((eP l24 g12 (a11.map (fA a2 a4.period))).1)with out:=(w64 (x26+x11))}:aq).aP/\({((eP l24 g12 (a11.map (fA a2 a4.period))).1)with out:=(w64 (x26+x11))}:aq).aP<=1125899906842624)/\(0<=({((eP l24 g12 (a11.map (fA a2 a4.period))).1)with out:=(w64 (x26+x11))}:aq).bc/\({((eP l24 g12 (a11.map (fA a2 a4.period))).1)with out:=(w64 (x26+x11))}:aq).bc<=1125899906842624))&&((decide (((aK a1 a10).aN).length<=1000)&&((aK a1 a10).aN).all fG)&&(decide (((eP l24 g12 (a11.map (fA a2 a4.period))).2).length<=1000)&&((eP l24 g12 (a11.map (fA a2 a4.period))).2).all bn)))<|
 lt (({({((eP l24 g12 (a11.map (fA a2 a4.period))).1)with out:=(w64 (x26+x11))}:aq)with aP:=({((eP l24 g12 (a11.map (fA a2 a4.period))).1)with out:=(w64 (x26+x11))}:aq).aP+((aK a1 a10).l),bc:=({((eP l24 g12 (a11.map (fA a2 a4.period))).1)with out:=(w64 (x26+x11))}:aq).bc+((aK a1 a10).r)}):aq) fun g27=>
 lt ((ly (eL (bY unD ((eP l24 g12 (a11.map (fA a2 a4.period))).2)) (au 1 ((aK a1 a10).aN)) (({((eP l24 g12 (a11.map (fA a2 a4.period))).1)with out:=(w64 (x26+x11))}:aq).aP+((aK a1 a10).l)) (({((eP l24 g12 (a11.map (fA a2 a4.period))).1)with out:=(w64 (x26+x11))}:aq).bc+((aK a1 a10).r))) ((eP l24 g12 (a11.map (fA a2 a4.period))).2)):LD0) fun l28=>
 chk (decide (0<=0)&&((decide (((aK a1 a10).aN).length<=1000)&&((aK a1 a10).aN).all fG)&&(decide (l28.length<=1000)&&l28.all bn)))<|
 lt ((a3.oc==0||cH (au 1 ((aK a1 a10).aN)) (bY bA l28) a3.oc):Bool) fun x32=>
 lt ((a3.ic==0||cH (min ((aK a1 a10).q) 1099511627776) (min x4 1099511627776) a3.ic):Bool) fun x33=>
 lt ((a3.late==0||dH (dJ 2 ((aK a1 a10).aN)+dJ 3 ((aK a1 a10).aN)) (au 1 ((aK a1 a10).aN)) a3.late):Bool) fun x34=>
 lt ((a3.lv==0||dH (w64 (g27.aP-g27.bc)) (((cI (⟨a2,a5,a6,a3,a7,a8,a9⟩:aT)).getD (0,0)).1) a3.lv):Bool) fun x35=>
 chk (decide (0<=g27.bf/\g27.bf<=1000000))<|
 chk (decide (0<=a0))<|
 chk (decide (0<=a0)&&(decide (0<=({g27 with mode:=(ez g27.mode g27.bf a3.eX x32 x33 x34 x35).1,bf:=(ez g27.mode g27.bf a3.eX x32 x33 x34 x35).2,period:=(w64 (g27.period+1))}:aq).bM/\({g27 with mode:=(ez g27.mode g27.bf a3.eX x32 x33 x34 x35).1,bf:=(ez g27.mode g27.bf a3.eX x32 x33 x34 x35).2,period:=(w64 (g27.period+1))}:aq).bM<=({g27 with mode:=(ez g27.mode g27.bf a3.eX x32 x33 x34 x35).1,bf:=(ez g27.mode g27.bf a3.eX x32 x33 x34 x35).2,period:=(w64 (g27.period+1))}:aq).rin/\({g27 with mode:=(ez g27.mode g27.bf a3.eX x32 x33 x34 x35).1,bf:=(ez g27.mode g27.bf a3.eX x32 x33 x34 x35).2,period:=(w64 (g27.period+1))}:aq).rin<=1152921504606846976)&&((decide (((aK a1 a10).aN).length<=1000)&&((aK a1 a10).aN).all fG)&&(decide (l28.length<=1000)&&l28.all bn))))<|
 some (Uns.enc ((⟨false,(w64 (a4.period+1)),a4.mode,(aK a1 a10).p,(aK a1 a10).q,(aK a1 a10).l,(aK a1 a10).r,x10,x11,(eH a2 a4.period x2 a3.fee),x4⟩:cJ):cJ)++Uns.enc ((⟨(⟨((fV 0 l18 ⟨x15,g12.fee,g12.out,x16,x17⟩ ((a11.map (fA a2 a4.period)).map gP)).1.aD),0,0,0,0⟩:cC).eE,au 1 ((aK a1 a10).aN),({g27 with mode:=(ez g27.mode g27.bf a3.eX x32 x33 x34 x35).1,bf:=(ez g27.mode g27.bf a3.eX x32 x33 x34 x35).2,period:=(w64 (g27.period+1))}:aq).rin-({g27 with mode:=(ez g27.mode g27.bf a3.eX x32 x33 x34 x35).1,bf:=(ez g27.mode g27.bf a3.eX x32 x33 x34 x35).2,period:=(w64 (g27.period+1))}:aq).bM,({g27 with mode:=(ez g27.mode g27.bf a3.eX x32 x33 x34 x35).1,bf:=(ez g27.mode g27.bf a3.eX x32 x33 x34 x35).2,period:=(w64 (g27.period+1))}:aq).out,({g27 with mode:=(ez g27.mode g27.bf a3.eX x32 x33 x34 x35).1,bf:=(ez g27.mode g27.bf a3.eX x32 x33 x34 x35).2,period:=(w64 (g27.period+1))}:aq).fee⟩:cC):cC)++[.i (({g27 with mode:=(ez g27.mode g27.bf a3.eX x32 x33 x34 x35).1,bf:=(ez g27.mode g27.bf a3.eX x32 x33 x34 x35).2,period:=(w64 (g27.period+1))}:aq).mode),.i 0]++Uns.enc (a2:av)++Uns.enc (a3:aw)++Uns.enc (({g27 with mode:=(ez g27.mode g27.bf a3.eX x32 x33 x34 x35).1,bf:=(ez g27.mode g27.bf a3.eX x32 x33 x34 x35).2,period:=(w64 (g27.period+1))}:aq):aq)++[.d a5,.d a6,.d a7,.d a8,.d a9,.d ((aK a1 a10).aN),.d l28,.d l24,.d (l28.map J0)])
def f98:Int × LD0 × av × aw × aq × LD0 × LD0 × LD0 × LD0 × LD0 × LD0 × LD0->Bool × List Un:=fun(a0,a1,a2,a3,a4,a5,a6,a7,a8,a9,a10,a11)=>(decide (0<=a0)&&la (⟨a2,a3,a4,a5,a6,a7,a8,a9,a10,a11⟩:af),Uns.enc (((aH (⟨a2,a3,a4,a5,a6,a7,a8,a9,a10,a11⟩:af) a1).ra):cJ)++Uns.enc (((aH (⟨a2,a3,a4,a5,a6,a7,a8,a9,a10,a11⟩:af) a1).rb):cC)++[.i ((aH (⟨a2,a3,a4,a5,a6,a7,a8,a9,a10,a11⟩:af) a1).next),.i ((aH (⟨a2,a3,a4,a5,a6,a7,a8,a9,a10,a11⟩:af) a1).e)]++Uns.enc (((aH (⟨a2,a3,a4,a5,a6,a7,a8,a9,a10,a11⟩:af) a1).t.a):av)++Uns.enc (((aH (⟨a2,a3,a4,a5,a6,a7,a8,a9,a10,a11⟩:af) a1).t.b):aw)++Uns.enc (((aH (⟨a2,a3,a4,a5,a6,a7,a8,a9,a10,a11⟩:af) a1).t.n):aq)++[.d ((aH (⟨a2,a3,a4,a5,a6,a7,a8,a9,a10,a11⟩:af) a1).t.aC),.d ((aH (⟨a2,a3,a4,a5,a6,a7,a8,a9,a10,a11⟩:af) a1).t.notes),.d ((aH (⟨a2,a3,a4,a5,a6,a7,a8,a9,a10,a11⟩:af) a1).t.s0),.d ((aH (⟨a2,a3,a4,a5,a6,a7,a8,a9,a10,a11⟩:af) a1).t.s1),.d ((aH (⟨a2,a3,a4,a5,a6,a7,a8,a9,a10,a11⟩:af) a1).t.s2),.d ((aH (⟨a2,a3,a4,a5,a6,a7,a8,a9,a10,a11⟩:af) a1).t.aN),.d ((aH (⟨a2,a3,a4,a5,a6,a7,a8,a9,a10,a11⟩:af) a1).t.tr),.d ((aH (⟨a2,a3,a4,a5,a6,a7,a8,a9,a10,a11⟩:af) a1).bm),.d ((aH (⟨a2,a3,a4,a5,a6,a7,a8,a9,a10,a11⟩:af) a1).notes)])
set_option maxHeartbeats 4000000 in
theorem ME:ER 98 (mkE N98.en N98.ex f98):=ak ae ZF.right (fun m=>[]) (t:=t98) (by kernel_rfl) (fun m=>az) (fun m a=>by kernel_rfl) fun(a0,a1,a2,a3,a4,a5,a6,a7,a8,a9,a10,a11) hc=>by
 dsimp only[f98]at hc⊢;have h0:=zaj (zaG.1 hc).1;have h:=jW.1 (zaG.1 hc).2;clear hc;have hl:=rU h;have hpl:=jN h;have hts:=fI h;have hpe:0<=a4.period/\a4.period<=600:=h.period;have hpa:0<=a4.bf/\a4.bf<=a4.period:=h.bf;refine⟨0, ?_⟩;unfold t98;cases ho:a4.gU with
 |true=>
  have hC:aH (⟨a2,a3,a4,a5,a6,a7,a8,a9,a10,a11⟩:af) a1=noR 5 (⟨a2,a3,a4,a5,a6,a7,a8,a9,a10,a11⟩:af):=by unfold aH;rw[show((⟨a2,a3,a4,a5,a6,a7,a8,a9,a10,a11⟩:af)).n.gU=true from ho];rfl
  rw[hC];dsimp only;exact al (zaa h0) (cu ho rfl)
 |false=>
 dsimp only;refine al (zaa h0) (cm ho (al (zaa h0) ?_))
 by_cases hp:a4.period>=600
 . have hC:aH (⟨a2,a3,a4,a5,a6,a7,a8,a9,a10,a11⟩:af) a1=noR 4 (⟨a2,a3,a4,a5,a6,a7,a8,a9,a10,a11⟩:af):=by unfold aH;rw[show((⟨a2,a3,a4,a5,a6,a7,a8,a9,a10,a11⟩:af)).n.gU=false from ho,tf,aL hp]
   rw[hC,aL hp];rfl
 rw[ay hp];refine al (zaG.2 ⟨zaa h0,zaa hl⟩) ?_
 refine al (zaG.2 ⟨rfl,Ld (l:=a10) h.GZ (zaP hpl.2 (by decide))⟩) ?_
 refine od fun x2 e2=> ?_
 obtain rfl:x2=au 1 a10:=e2;refine al (zaa hl.2.2.2.2.2.1) ?_
 by_cases he:(cP (⟨a2,a3,a4,a5,a6,a7,a8,a9,a10,a11⟩:af) a1).e=0
 case neg=>
  have hC:aH (⟨a2,a3,a4,a5,a6,a7,a8,a9,a10,a11⟩:af) a1=noR (cP (⟨a2,a3,a4,a5,a6,a7,a8,a9,a10,a11⟩:af) a1).e (⟨a2,a3,a4,a5,a6,a7,a8,a9,a10,a11⟩:af):=by unfold aH;rw[show((⟨a2,a3,a4,a5,a6,a7,a8,a9,a10,a11⟩:af)).n.gU=false from ho,tf,ay hp,dr he]
  rw[hC];exact dr he
 have hC:aH (⟨a2,a3,a4,a5,a6,a7,a8,a9,a10,a11⟩:af) a1=fj (⟨a2,a3,a4,a5,a6,a7,a8,a9,a10,a11⟩:af) a1:=by unfold aH;rw[show((⟨a2,a3,a4,a5,a6,a7,a8,a9,a10,a11⟩:af)).n.gU=false from ho,tf,ay hp,cU he]
 rw[hC];refine Eq.trans (cU he) ?_
 have hp':((⟨a2,a3,a4,a5,a6,a7,a8,a9,a10,a11⟩:af)).n.period<600:=by simp only;omega
 have D:=dU h.Ar;have b:0<=au 1 a10/\0<=au 2 a10/\au 1 a10+au 2 a10+a4.bc<=1099511627776:=oa h;have r0:0<=a4.bc:=h.Nd;have f:0<=a4.fee/\a4.fee<=1200000000000*a4.period:=h.fee;have o:0<=a4.out/\a4.out<=a3.advance:=h.out;have r:0<=a4.bM/\a4.bM<=a4.rin/\a4.rin<=1200000000000*(a4.period+1):=h.res;have lo:a4.aP-a4.bc=au 2 a10:=h.lost;obtain⟨q1,q2,q3,q4,q5,q6,q7,q8,q9⟩:=tw h he;obtain⟨c1,c2,c3,c4,c5⟩:=nK h;obtain⟨m1,m2,m3,m4⟩:=om h he;have m3:0<=iz (⟨a2,a3,a4,a5,a6,a7,a8,a9,a10,a11⟩:af) a1/\iz (⟨a2,a3,a4,a5,a6,a7,a8,a9,a10,a11⟩:af) a1<=a4.rin-a4.bM:=⟨m3.1,m3.2.1⟩
 have m4:0<=rN (⟨a2,a3,a4,a5,a6,a7,a8,a9,a10,a11⟩:af) a1/\rN (⟨a2,a3,a4,a5,a6,a7,a8,a9,a10,a11⟩:af) a1<=a3.advance-a4.out:=m4;obtain⟨x1,x2,x3,x4⟩:=tW h he;obtain⟨d1,d2,d3,d4,d5⟩:=mE h he;obtain⟨t1,t2,t3⟩:=uy h he;have u2:=tO h he;have k:=G9 h;have ad:0<=a3.advance/\a3.advance<=1099511627776:=D.advance;have nq:=iG q1;have hpa9:a10.length<=64:=hpl.2;have ad0:(cP (⟨a2,a3,a4,a5,a6,a7,a8,a9,a10,a11⟩:af) a1).aN.length<=1000:=by
  have hq:(cP (⟨a2,a3,a4,a5,a6,a7,a8,a9,a10,a11⟩:af) a1).aN.length=a10.length:=by have:=zcm List.length q2;simpa using this
  omega
 have hpo:=Ld q1 ad0;have s5:=(kj _ c2.2).2.1;have st:=oV h he;have q3:au 1 (cP (⟨a2,a3,a4,a5,a6,a7,a8,a9,a10,a11⟩:af) a1).aN=au 1 a10-(cP (⟨a2,a3,a4,a5,a6,a7,a8,a9,a10,a11⟩:af) a1).p-(cP (⟨a2,a3,a4,a5,a6,a7,a8,a9,a10,a11⟩:af) a1).l:=q3;have q4:au 2 (cP (⟨a2,a3,a4,a5,a6,a7,a8,a9,a10,a11⟩:af) a1).aN=au 2 a10+(cP (⟨a2,a3,a4,a5,a6,a7,a8,a9,a10,a11⟩:af) a1).l-(cP (⟨a2,a3,a4,a5,a6,a7,a8,a9,a10,a11⟩:af) a1).r:=q4;have stT:=st.2.2.2.2.1;have stR:0<=bE kR (dS (⟨a2,a3,a4,a5,a6,a7,a8,a9,a10,a11⟩:af) a1).2.2/\bE kR (dS (⟨a2,a3,a4,a5,a6,a7,a8,a9,a10,a11⟩:af) a1).2.2<=a4.out:=st.2.2.2.1;have s5l:au 5 (cTr (⟨a2,a3,a4,a5,a6,a7,a8,a9,a10,a11⟩:af))<=1125899906842624000:=by have:=c2.1;omega
 refine al (zaG.2 ⟨zaa ⟨⟨D.year.1,D.year.2,D.month.1,D.month.2⟩,hpe,⟨f.1,by omega⟩,b.1,by omega⟩,gm (GW h)⟩) ?_
 refine od fun x3' e3=> ?_
 obtain rfl:x3'=I3 (⟨a2,a3,a4,a5,a6,a7,a8,a9,a10,a11⟩:af):=e3;refine od fun g4 e4=> ?_
 obtain rfl:g4={a4 with fee:=a4.fee+ta (⟨a2,a3,a4,a5,a6,a7,a8,a9,a10,a11⟩:af)}:=e4;refine al (zaG.2 ⟨rfl,gm c2⟩) ?_
 refine od fun x5 e5=> ?_
 obtain rfl:x5=a4.fee+ta (⟨a2,a3,a4,a5,a6,a7,a8,a9,a10,a11⟩:af)+au 5 (cTr (⟨a2,a3,a4,a5,a6,a7,a8,a9,a10,a11⟩:af)):=e5.trans (aa (n:=a4.fee+ta (⟨a2,a3,a4,a5,a6,a7,a8,a9,a10,a11⟩:af)+au 5 (cTr (⟨a2,a3,a4,a5,a6,a7,a8,a9,a10,a11⟩:af))) (by omega) (by omega));refine od fun x8 e8=> ?_
 obtain rfl:x8=cIn (⟨a2,a3,a4,a5,a6,a7,a8,a9,a10,a11⟩:af) a1:=e8.trans (by
  have i:=m1;unfold cIn at i⊢;rw[show w64 ((aK a1 a10).p+(aK a1 a10).q)=(cP (⟨a2,a3,a4,a5,a6,a7,a8,a9,a10,a11⟩:af) a1).p+(cP (⟨a2,a3,a4,a5,a6,a7,a8,a9,a10,a11⟩:af) a1).q from aa (by show _<=(cP (⟨a2,a3,a4,a5,a6,a7,a8,a9,a10,a11⟩:af) a1).p+(cP (⟨a2,a3,a4,a5,a6,a7,a8,a9,a10,a11⟩:af) a1).q;omega) (by show(cP (⟨a2,a3,a4,a5,a6,a7,a8,a9,a10,a11⟩:af) a1).p+(cP (⟨a2,a3,a4,a5,a6,a7,a8,a9,a10,a11⟩:af) a1).q<=_;omega)];rw[show w64 ((cP (⟨a2,a3,a4,a5,a6,a7,a8,a9,a10,a11⟩:af) a1).p+(cP (⟨a2,a3,a4,a5,a6,a7,a8,a9,a10,a11⟩:af) a1).q+(aK a1 a10).r)=(cP (⟨a2,a3,a4,a5,a6,a7,a8,a9,a10,a11⟩:af) a1).p+(cP (⟨a2,a3,a4,a5,a6,a7,a8,a9,a10,a11⟩:af) a1).q+(cP (⟨a2,a3,a4,a5,a6,a7,a8,a9,a10,a11⟩:af) a1).r from aa (by show _<=(cP (⟨a2,a3,a4,a5,a6,a7,a8,a9,a10,a11⟩:af) a1).p+(cP (⟨a2,a3,a4,a5,a6,a7,a8,a9,a10,a11⟩:af) a1).q+(cP (⟨a2,a3,a4,a5,a6,a7,a8,a9,a10,a11⟩:af) a1).r;omega) (by show(cP (⟨a2,a3,a4,a5,a6,a7,a8,a9,a10,a11⟩:af) a1).p+(cP (⟨a2,a3,a4,a5,a6,a7,a8,a9,a10,a11⟩:af) a1).q+(cP (⟨a2,a3,a4,a5,a6,a7,a8,a9,a10,a11⟩:af) a1).r<=_;omega)];have w:w64 ((cP (⟨a2,a3,a4,a5,a6,a7,a8,a9,a10,a11⟩:af) a1).p+(cP (⟨a2,a3,a4,a5,a6,a7,a8,a9,a10,a11⟩:af) a1).q+(cP (⟨a2,a3,a4,a5,a6,a7,a8,a9,a10,a11⟩:af) a1).r)=(cP (⟨a2,a3,a4,a5,a6,a7,a8,a9,a10,a11⟩:af) a1).p+(cP (⟨a2,a3,a4,a5,a6,a7,a8,a9,a10,a11⟩:af) a1).q+(cP (⟨a2,a3,a4,a5,a6,a7,a8,a9,a10,a11⟩:af) a1).r:=aa (by omega) (by omega);simp only[zb4,w])
 have en:w64 (a4.fee+ta (⟨a2,a3,a4,a5,a6,a7,a8,a9,a10,a11⟩:af)+au 5 (cTr (⟨a2,a3,a4,a5,a6,a7,a8,a9,a10,a11⟩:af))-cIn (⟨a2,a3,a4,a5,a6,a7,a8,a9,a10,a11⟩:af) a1)=pF (⟨a2,a3,a4,a5,a6,a7,a8,a9,a10,a11⟩:af) a1:=aa (by show _<=pF (⟨a2,a3,a4,a5,a6,a7,a8,a9,a10,a11⟩:af) a1;omega) (by show pF (⟨a2,a3,a4,a5,a6,a7,a8,a9,a10,a11⟩:af) a1<=_;omega);rw[en];refine al (zaG.2 ⟨rfl,zaa ⟨by omega,⟨r.1,r.2.1,by show a4.rin<=_;omega⟩,⟨o.1,by show a4.out<=_;omega⟩,D.advance.1,by omega⟩⟩) ?_
 refine od fun x9 e9=> ?_
 obtain rfl:x9=iz (⟨a2,a3,a4,a5,a6,a7,a8,a9,a10,a11⟩:af) a1:=e9;refine od fun x10 e10=> ?_
 obtain rfl:x10=rN (⟨a2,a3,a4,a5,a6,a7,a8,a9,a10,a11⟩:af) a1:=e10;refine od fun g11 e11=> ?_
 obtain rfl:g11=cN1 (⟨a2,a3,a4,a5,a6,a7,a8,a9,a10,a11⟩:af) a1:=e11;refine od fun x14 e14=> ?_
 obtain rfl:x14=(cX (⟨a2,a3,a4,a5,a6,a7,a8,a9,a10,a11⟩:af) a1).aD:=e14.trans (by
  have i:=m1;have z:(cX (⟨a2,a3,a4,a5,a6,a7,a8,a9,a10,a11⟩:af) a1).aD=cIn (⟨a2,a3,a4,a5,a6,a7,a8,a9,a10,a11⟩:af) a1+iz (⟨a2,a3,a4,a5,a6,a7,a8,a9,a10,a11⟩:af) a1+rN (⟨a2,a3,a4,a5,a6,a7,a8,a9,a10,a11⟩:af) a1:=rfl;rw[z];unfold cIn at i⊢;rw[show w64 ((aK a1 a10).p+(aK a1 a10).q)=(cP (⟨a2,a3,a4,a5,a6,a7,a8,a9,a10,a11⟩:af) a1).p+(cP (⟨a2,a3,a4,a5,a6,a7,a8,a9,a10,a11⟩:af) a1).q from aa (by show _<=(cP (⟨a2,a3,a4,a5,a6,a7,a8,a9,a10,a11⟩:af) a1).p+(cP (⟨a2,a3,a4,a5,a6,a7,a8,a9,a10,a11⟩:af) a1).q;omega) (by show(cP (⟨a2,a3,a4,a5,a6,a7,a8,a9,a10,a11⟩:af) a1).p+(cP (⟨a2,a3,a4,a5,a6,a7,a8,a9,a10,a11⟩:af) a1).q<=_;omega)];rw[show w64 ((cP (⟨a2,a3,a4,a5,a6,a7,a8,a9,a10,a11⟩:af) a1).p+(cP (⟨a2,a3,a4,a5,a6,a7,a8,a9,a10,a11⟩:af) a1).q+(aK a1 a10).r)=(cP (⟨a2,a3,a4,a5,a6,a7,a8,a9,a10,a11⟩:af) a1).p+(cP (⟨a2,a3,a4,a5,a6,a7,a8,a9,a10,a11⟩:af) a1).q+(cP (⟨a2,a3,a4,a5,a6,a7,a8,a9,a10,a11⟩:af) a1).r from aa (by show _<=(cP (⟨a2,a3,a4,a5,a6,a7,a8,a9,a10,a11⟩:af) a1).p+(cP (⟨a2,a3,a4,a5,a6,a7,a8,a9,a10,a11⟩:af) a1).q+(cP (⟨a2,a3,a4,a5,a6,a7,a8,a9,a10,a11⟩:af) a1).r;omega) (by show(cP (⟨a2,a3,a4,a5,a6,a7,a8,a9,a10,a11⟩:af) a1).p+(cP (⟨a2,a3,a4,a5,a6,a7,a8,a9,a10,a11⟩:af) a1).q+(cP (⟨a2,a3,a4,a5,a6,a7,a8,a9,a10,a11⟩:af) a1).r<=_;omega)];rw[aa (n:=(cP (⟨a2,a3,a4,a5,a6,a7,a8,a9,a10,a11⟩:af) a1).p+(cP (⟨a2,a3,a4,a5,a6,a7,a8,a9,a10,a11⟩:af) a1).q+(cP (⟨a2,a3,a4,a5,a6,a7,a8,a9,a10,a11⟩:af) a1).r+iz (⟨a2,a3,a4,a5,a6,a7,a8,a9,a10,a11⟩:af) a1) (by omega) (by omega),aa (n:=(cP (⟨a2,a3,a4,a5,a6,a7,a8,a9,a10,a11⟩:af) a1).p+(cP (⟨a2,a3,a4,a5,a6,a7,a8,a9,a10,a11⟩:af) a1).q+(cP (⟨a2,a3,a4,a5,a6,a7,a8,a9,a10,a11⟩:af) a1).r+iz (⟨a2,a3,a4,a5,a6,a7,a8,a9,a10,a11⟩:af) a1+rN (⟨a2,a3,a4,a5,a6,a7,a8,a9,a10,a11⟩:af) a1) (by omega) (by omega)])
 have c1r:(0<=(cN1 (⟨a2,a3,a4,a5,a6,a7,a8,a9,a10,a11⟩:af) a1).bM/\(cN1 (⟨a2,a3,a4,a5,a6,a7,a8,a9,a10,a11⟩:af) a1).bM<=(cN1 (⟨a2,a3,a4,a5,a6,a7,a8,a9,a10,a11⟩:af) a1).rin/\(cN1 (⟨a2,a3,a4,a5,a6,a7,a8,a9,a10,a11⟩:af) a1).rin<=1152921504606846976):=by
  show 0<=a4.bM+iz (⟨a2,a3,a4,a5,a6,a7,a8,a9,a10,a11⟩:af) a1/\a4.bM+iz (⟨a2,a3,a4,a5,a6,a7,a8,a9,a10,a11⟩:af) a1<=a4.rin/\a4.rin<=_;omega
 refine al (zaG.2 ⟨zaa ⟨⟨⟨q5,by show(cP (⟨a2,a3,a4,a5,a6,a7,a8,a9,a10,a11⟩:af) a1).p<=_;omega⟩,⟨q6,by show(cP (⟨a2,a3,a4,a5,a6,a7,a8,a9,a10,a11⟩:af) a1).l<=_;omega⟩,q7,by show(cP (⟨a2,a3,a4,a5,a6,a7,a8,a9,a10,a11⟩:af) a1).r<=_;omega⟩,c1r⟩,zaG.2 ⟨hpo,gm c2⟩⟩) ?_
 refine od fun x15 e15=> ?_
 obtain rfl:x15=(cX (⟨a2,a3,a4,a5,a6,a7,a8,a9,a10,a11⟩:af) a1).ar:=e15;refine od fun x16 e16=> ?_
 obtain rfl:x16=(cX (⟨a2,a3,a4,a5,a6,a7,a8,a9,a10,a11⟩:af) a1).room:=e16;refine al (zaa ⟨hl.2.2.1,hl.2.2.2.1,hl.2.2.2.2.1⟩) ?_
 refine od fun l17 e17=> ?_
 obtain rfl:l17=gk (ik (⟨a2,a3,a4,a5,a6,a7,a8,a9,a10,a11⟩:af)) ((⟨a2,a3,a4,a5,a6,a7,a8,a9,a10,a11⟩:af)).n.mode:=e17;refine al (zaG.2 ⟨zaa (by omega),zaG.2 ⟨x1,x2⟩⟩) ?_
 refine od fun l23 e23=> ?_
 obtain rfl:l23=(dS (⟨a2,a3,a4,a5,a6,a7,a8,a9,a10,a11⟩:af) a1).2.2:=e23;refine al d5 ?_
 refine od fun x25 e25=> ?_
 obtain rfl:x25=(eO (⟨a2,a3,a4,a5,a6,a7,a8,a9,a10,a11⟩:af) a1).1.out:=e25;have eo:w64 ((eO (⟨a2,a3,a4,a5,a6,a7,a8,a9,a10,a11⟩:af) a1).1.out+rN (⟨a2,a3,a4,a5,a6,a7,a8,a9,a10,a11⟩:af) a1)=(cN2 (⟨a2,a3,a4,a5,a6,a7,a8,a9,a10,a11⟩:af) a1).out:=by
  refine Eq.trans (aa ?_ ?_) rfl
  . rw[d1];show _<=a4.out-bE kR (dS (⟨a2,a3,a4,a5,a6,a7,a8,a9,a10,a11⟩:af) a1).2.2+rN (⟨a2,a3,a4,a5,a6,a7,a8,a9,a10,a11⟩:af) a1;omega
  . rw[d1];show a4.out-bE kR (dS (⟨a2,a3,a4,a5,a6,a7,a8,a9,a10,a11⟩:af) a1).2.2+rN (⟨a2,a3,a4,a5,a6,a7,a8,a9,a10,a11⟩:af) a1<=_;omega
 rw[eo];refine al (zaG.2 ⟨zaa ⟨⟨⟨q5,by show(cP (⟨a2,a3,a4,a5,a6,a7,a8,a9,a10,a11⟩:af) a1).p<=_;omega⟩,⟨q6,by show(cP (⟨a2,a3,a4,a5,a6,a7,a8,a9,a10,a11⟩:af) a1).l<=_;omega⟩,q7,by show(cP (⟨a2,a3,a4,a5,a6,a7,a8,a9,a10,a11⟩:af) a1).r<=_;omega⟩,⟨by show 0<=(eO (⟨a2,a3,a4,a5,a6,a7,a8,a9,a10,a11⟩:af) a1).1.aP;rw[d1];show 0<=a4.aP;omega,by show(eO (⟨a2,a3,a4,a5,a6,a7,a8,a9,a10,a11⟩:af) a1).1.aP<=_;rw[d1];show a4.aP<=_;omega⟩,by show 0<=(eO (⟨a2,a3,a4,a5,a6,a7,a8,a9,a10,a11⟩:af) a1).1.bc;rw[d1];exact r0,by show(eO (⟨a2,a3,a4,a5,a6,a7,a8,a9,a10,a11⟩:af) a1).1.bc<=_;rw[d1];show a4.bc<=_;omega⟩,zaG.2 ⟨hpo,gm d3⟩⟩) ?_
 refine od fun g26 e26=> ?_
 obtain rfl:g26=cN2 (⟨a2,a3,a4,a5,a6,a7,a8,a9,a10,a11⟩:af) a1:=e26;refine od fun l27 e27=> ?_
 obtain rfl:l27=nQ (⟨a2,a3,a4,a5,a6,a7,a8,a9,a10,a11⟩:af) a1:=e27;refine al (zaG.2 ⟨rfl,zaG.2 ⟨hpo,gm t1⟩⟩) ?_
 refine od fun x31 e31=> ?_
 refine od fun x32 e32=> ?_
 refine od fun x33 e33=> ?_
 refine od fun x34 e34=> ?_
 have g4:=(uS h he).2.2.2;have el:w64 ((cN2 (⟨a2,a3,a4,a5,a6,a7,a8,a9,a10,a11⟩:af) a1).aP-(cN2 (⟨a2,a3,a4,a5,a6,a7,a8,a9,a10,a11⟩:af) a1).bc)=(cN2 (⟨a2,a3,a4,a5,a6,a7,a8,a9,a10,a11⟩:af) a1).aP-(cN2 (⟨a2,a3,a4,a5,a6,a7,a8,a9,a10,a11⟩:af) a1).bc:=aa (by omega) (by omega);rw[el,show((cI (⟨a2,a5,a6,a3,a7,a8,a9⟩:aT)).getD (0,0)).1=au 1 a5 from D.aeG]at e34;have n2m:(cN2 (⟨a2,a3,a4,a5,a6,a7,a8,a9,a10,a11⟩:af) a1).mode=a4.mode/\(cN2 (⟨a2,a3,a4,a5,a6,a7,a8,a9,a10,a11⟩:af) a1).bf=a4.bf/\(cN2 (⟨a2,a3,a4,a5,a6,a7,a8,a9,a10,a11⟩:af) a1).period=a4.period:=by rw[u2];exact⟨rfl,rfl,rfl⟩
 have ep:w64 ((cN2 (⟨a2,a3,a4,a5,a6,a7,a8,a9,a10,a11⟩:af) a1).period+1)=a4.period+1:=by rw[n2m.2.2];exact aa (by omega) (by omega)
 have ex:ez (cN2 (⟨a2,a3,a4,a5,a6,a7,a8,a9,a10,a11⟩:af) a1).mode (cN2 (⟨a2,a3,a4,a5,a6,a7,a8,a9,a10,a11⟩:af) a1).bf a3.eX x31 x32 x33 x34=zW (⟨a2,a3,a4,a5,a6,a7,a8,a9,a10,a11⟩:af) a1:=by rw[n2m.1,n2m.2.1,e31,e32,e33,e34];rfl
 rw[ep,ex];refine al (zaa ?_) ?_
 . rw[n2m.2.1];omega
 have c2r:(0<=(cN2 (⟨a2,a3,a4,a5,a6,a7,a8,a9,a10,a11⟩:af) a1).bM/\(cN2 (⟨a2,a3,a4,a5,a6,a7,a8,a9,a10,a11⟩:af) a1).bM<=(cN2 (⟨a2,a3,a4,a5,a6,a7,a8,a9,a10,a11⟩:af) a1).rin/\(cN2 (⟨a2,a3,a4,a5,a6,a7,a8,a9,a10,a11⟩:af) a1).rin<=1152921504606846976):=by
  rw[u2];show 0<=a4.bM+iz (⟨a2,a3,a4,a5,a6,a7,a8,a9,a10,a11⟩:af) a1/\a4.bM+iz (⟨a2,a3,a4,a5,a6,a7,a8,a9,a10,a11⟩:af) a1<=a4.rin+bE kT (dS (⟨a2,a3,a4,a5,a6,a7,a8,a9,a10,a11⟩:af) a1).2.2/\a4.rin+bE kT (dS (⟨a2,a3,a4,a5,a6,a7,a8,a9,a10,a11⟩:af) a1).2.2<=_;omega
 refine al (zaa h0) ?_
 refine al (zaG.2 ⟨zaa h0,zaG.2 ⟨zaa c2r,zaG.2 ⟨hpo,gm t1⟩⟩⟩) ?_
 rw[show w64 (a4.period+1)=a4.period+1 from aa (by omega) (by omega)];rfl
def T98:TB:=ZF.ad ME
theorem Bj (d:Dat):(kD d).i 0=d.i 0/\(kD d).i 1=d.i 1/\(kD d).i 2=0/\(kD d).i 3=0/\(kD d).b 4=false:=⟨rfl,rfl,rfl,rfl,rfl⟩
theorem CX:∀l:LD0,au 1 (l.map kD)=au 1 l/\au 2 (l.map kD)=0
 |[]=>⟨rfl,rfl⟩
 |d::l=>by
  obtain⟨h1,h2⟩:=CX l;simp only[zaS,au,h1,h2,(Bj d).2.1,(Bj d).2.2.1];exact⟨trivial,rfl⟩
theorem CN:∀l:LD0,au 5 (l.map wC)=0/\au 6 (l.map wC)=0
 |[]=>⟨rfl,rfl⟩
 |d::l=>by
  obtain⟨h1,h2⟩:=CN l;simp only[zaS,au,h1,h2,wC,rE,sf]
  decide
theorem PG {d:aT} (h:(cI d).isSome=true):ee (dG d):=by
 have D:=dU h;obtain⟨s1,s2⟩:=CX d.aC;obtain⟨n5,n6⟩:=CN d.notes;refine⟨h, ?_,fun x hx=> ?_, ?_,fun x hx=> ?_, ?_, ?_,zcc _, ?_, ?_, ?_, ?_, ?_, ?_, ?_⟩
 . simp only[dG,List.map_map];rfl
 . obtain⟨y,hy,rfl⟩:=za7.1 (show x∈d.notes.map wC from hx);have:=D.note y hy;refine⟨zaa ?_, ?_⟩
   . show(0<=y.i 1/\y.i 1<=1099511627776/\(0:Int)<=0/\(0:Int)=0/\(0:Int)<=0/\(0:Int)+0<=y.i 1/\(0:Int)<=0/\(0:Int)<=1125899906842624);omega
   . show(0:Int)<=1200000000000*0;omega
 . simp only[dG,List.map_map];rfl
 . obtain⟨y,hy,rfl⟩:=za7.1 (show x∈d.aC.map kD from hx);have:=D.GZ y hy;obtain⟨_,e1,e2,e3,e4⟩:=Bj y;unfold jB;rw[e1,e2,e3,e4]
   and_intros<;>first|omega|(intro h;cases h;done)|(intro _;rfl)
 . show au 1 (d.aC.map kD)+au 2 (d.aC.map kD)+0<=au 1 d.aC;omega
 . show(0:Int)-0=au 2 (d.aC.map kD);omega
 . show(0:Int)<=0/\(0:Int)<=600;omega
 . show(0:Int)<=0/\(0:Int)<=2;omega
 . show(0:Int)<=0/\(0:Int)<=0;omega
 . show(0:Int)<=0/\(0:Int)<=1200000000000*0;omega
 . exact⟨zcc _,D.advance.1⟩
 . show(0:Int)<=0/\0<=d.b.bq/\d.b.bq<=1200000000000*(0+1)
   have:=D.bq;omega
 . show au 6 (d.notes.map wC)<=au 2 (d.aC.map kD);omega
def gN:aT:=⟨⟨2024,1,0⟩,[.r [.n 1,.n 100]],[.r [.n 0,.n 100,.n 0]],⟨0,0,0,0,0,0,0,0,0,0⟩,[.r [.n 3,.n 0],.r [.n 7,.n 0]],[.r [.n 3,.n 0],.r [.n 7,.n 0]],[.r [.n 3,.n 0],.r [.n 7,.n 0]]⟩
theorem II:(cI gN).isSome=true:=by kernel_rfl
def mM:LD0:=[.r [.n 1,.n 40,.n 0,.n 0,.n 0,.n 0,.n (bI false)]]
theorem Cz:(aH (dG gN) mM).ra=⟨false,1,0,40,0,0,0,0,0,0,0⟩/\(aH (dG gN) mM).rb=⟨0,60,0,0,0⟩/\(aH (dG gN) mM).next=0/\(aH (dG gN) mM).e=0/\(aH (dG gN) mM).bm=[.r [.n 1,.n 7,.n 0,.n 40]]/\(aH (dG gN) mM).notes=[.r [.n 60,.n 0,.n 0]]:=by
 refine⟨?_, ?_, ?_, ?_, ?_, ?_⟩<;>kernel_rfl
def N16:aA:=⟨T98.tab,16,⟨[],[],0⟩,⟨[.agg [.z0,.z0,.z0,.buf 0 2,.buf 1 3,.z0,.z0,.z0,.z0,.z0,.z0,.z0,.z0,.z0,.z0,.buf 2 2,.buf 3 2,.buf 4 2]],[.ab (sI 2),.ab (sI 3),.ab (sI 2),.ab (sI 2),.ab (sI 2)],0⟩,[]⟩
def t16 (m:Nat):Unit->OU0:=fun _=>
 some (Uns.enc ((⟨2024,1,0⟩:av):av)++Uns.enc ((⟨0,0,0,0,0,0,0,0,0,0⟩:aw):aw)++[.d ([.r [.n 1,.n 100]]:LD0),.d ([.r [.n 0,.n 100,.n 0]]:LD0),.d ([.r [.n 3,.n 0],.r [.n 7,.n 0]]:LD0),.d ([.r [.n 3,.n 0],.r [.n 7,.n 0]]:LD0),.d ([.r [.n 3,.n 0],.r [.n 7,.n 0]]:LD0)])
def f16:Unit->Bool × List Un:=fun _=>(true,Uns.enc ((gN.a):av)++Uns.enc ((gN.b):aw)++[.d (gN.aC),.d (gN.notes),.d (gN.s0),.d (gN.s1),.d (gN.s2)])
theorem Vt:ER 16 (mkE N16.en N16.ex f16):=ak ae T98.right (fun m=>[]) (t:=t16) (by kernel_rfl) (fun m=>az) (fun m a=>by kernel_rfl) fun _ hc=>by
 dsimp only[f16]at⊢;exact⟨0,rfl⟩
def T16:TB:=T98.ad Vt
theorem Bi (k:ck):(cI (bF k)).isSome=true:=by rw[F3];rfl
theorem QN {T:af} {l:LD0} (ho:T.n.gU=false) (hp:T.n.period<600) (he:(cP T l).e=0):aH T l=fj T l:=by
 unfold aH;rw[ho,tf,ay (by omega),cU he]
def rW (d:Dat):Dat:= .r [.n (d.i 0),.n (d.i 1)]
def qh (p q r s t u:LI0) (l:LD0):LD0:=ofL p q r s t u (l.map fun d=>d.i 2) 0 (l.map rW)
theorem HW (id:Int) (x:Dat) (hx:x.i 0=id):∀(pre:LD0) (rest:LD0) (i:Int),(∀d∈pre,d.i 0≠id)->gJ id i (pre++x::rest)=i+pre.length
 |[],rest,i,_=>by simp only[zat,gJ,if_pos hx,zar];omega
 |d::pre,rest,i,h=>by
  have:=HW id x hx pre rest (i+1) fun y hy=>h y (by simp[hy])
  simp only[zaC,gJ,if_neg (h d (by simp)),this,zac,zaL];omega
theorem ab5 {p q r s t u:LI0} {i:Int} {x n:Dat} (hx:jB x) (hb:0<x.i 1) (hn:n.i 0=x.i 0/\n.i 1=x.i 1):jK ((jk p q r s t u i n).i 1) ((jk p q r s t u i n).i 2) ((jk p q r s t u i n).i 3) ((jk p q r s t u i n).i 4) ((jk p q r s t u i n).i 5)=true/\Ej x (jk p q r s t u i n)=true/\(jk p q r s t u i n).i 0=x.i 0:=by
 obtain⟨n0,n1⟩:=hn;obtain⟨x1,x2,x3,x4,x5,x6⟩:=hx;have h4:x.b 4=false:=by
  cases hc:x.b 4
  . rfl
  . have:=x5 hc;omega
 unfold jk;rw[n0,n1];dsimp only;have b1:=aV (a:=bB p i) (show(0:Int)<=x.i 1/4 by omega);generalize within (bB p i) 0 (x.i 1/4)=y at*
 have b2:0<=(if within (bB q i) 0 (2*(x.i 1-y))>x.i 1-y then 0 else within (bB q i) 0 (2*(x.i 1-y)))/\(if within (bB q i) 0 (2*(x.i 1-y))>x.i 1-y then 0 else within (bB q i) 0 (2*(x.i 1-y)))<=x.i 1-y:=by
  have:=aV (a:=bB q i) (show(0:Int)<=2*(x.i 1-y) by omega)
  split<;>omega
 generalize (if within (bB q i) 0 (2*(x.i 1-y))>x.i 1-y then 0 else within (bB q i) 0 (2*(x.i 1-y)))=z at*
 have b3:=aV (a:=bB r i) (show(0:Int)<=1+x.i 1/50 by omega);generalize within (bB r i) 0 (1+x.i 1/50)=v at*
 have b4:=aV (a:=bB s i) (show(0:Int)<=x.i 1-y-z by omega);generalize within (bB s i) 0 (x.i 1-y-z)=c at*
 have b5:=aV (a:=bB t i) (show(0:Int)<=24 by omega);generalize within (bB t i) 0 24=w at*
 generalize w64 ((BitVec.ofInt 64 (bB u i)&&&BitVec.ofInt 64 7).toNat)=e;refine⟨?_, ?_,rfl⟩
 . show jK y z v (if e=7 then c else 0) (if 0<w-12 then w-12 else 0)=true;simp only[jK,zae,zag];refine⟨by omega,by omega,by omega,by omega,by omega,by omega, ?_, ?_, ?_, ?_⟩<;>split<;>omega
 . show BL (x.i 1) (x.i 2) (x.b 4) y z v (if e=7 then c else 0) (if 0<w-12 then w-12 else 0) (bI (decide (e=7)) !=0)=true;rw[ZP,h4];unfold BL;rw[zal,show w64 (x.i 1-y)=x.i 1-y from aa (by omega) (by omega),show w64 (x.i 1-y-z)=x.i 1-y-z from aa (by omega) (by omega),zan (show ¬x.i 1-y-z<0 by omega),zal,show w64 (x.i 2+(x.i 1-y-z))=x.i 2+(x.i 1-y-z) from aa (by omega) (by omega)]
   by_cases he:e=7
   . rw[zaa he,zaw,if_pos he,zaa (show c<=x.i 2+(x.i 1-y-z) by omega)];rfl
   . rw[zan he,zal,if_neg he];rfl
theorem aba {s lost:LI0} {j:Nat} {x n:Dat} (hx:jB x) (hb:¬0<x.i 1) (hn:n.i 0=x.i 0) (hl:lost.getD j 0=x.i 2):jK ((jY s lost j n).i 1) ((jY s lost j n).i 2) ((jY s lost j n).i 3) ((jY s lost j n).i 4) ((jY s lost j n).i 5)=true/\Ej x (jY s lost j n)=true/\(jY s lost j n).i 0=x.i 0:=by
 obtain⟨x1,x2,x3,x4,x5,x6⟩:=hx;have e0:x.i 1=0:=by omega
 unfold jY;rw[hn,zau,hl];have hc:∃c,(if (j:Int)<(lost.length:Int)/\0<x.i 2 then within (bB s j) 0 (x.i 2)else 0)=c/\0<=c/\c<=x.i 2:=by
  refine⟨_,rfl, ?_, ?_⟩<;>split
  . exact(aV x2).1
  . omega
  . exact(aV x2).2
  . omega
 obtain⟨c,hc,c0,c1⟩:=hc;rw[hc];refine⟨?_, ?_,rfl⟩
 . show jK 0 0 0 c 0=true;simp only[jK,zae,zag]
   and_intros<;>omega
 . show BL (x.i 1) (x.i 2) (x.b 4) 0 0 0 c 0 (bI false !=0)=true;rw[ZP];unfold BL;cases h4:x.b 4
   . have:=x6 h4;have:c=0:=by omega
     subst this;rw[e0];rfl
   . simp only[zaw,beq_self_eq_true,zbb,Bool.not_false];exact zaa c1
theorem Jv (p q r s t u lost:LI0):∀(rest pre:LD0) (last a b c d:Int),(∀x∈rest,jB x)->(∀x∈pre,x.i 0<=last)->((pre++rest).map fun x=>x.i 0).Pairwise (·<·)->(∀x∈rest,last<x.i 0/\0<x.i 0)->(∀j,j<rest.length->lost.getD (pre.length+j) 0=(ai rest j).i 2)->0<=last->
 ku last (ofL p q r s t u lost pre.length (rest.map rW))=true/\∃y,gO (pre++rest) a b c d (ofL p q r s t u lost pre.length (rest.map rW))=some y/\y.e=0
 |[],pre,last,a,b,c,d,_,_,_,_,_,_=>⟨rfl,⟨a,b,c,d,0,pre++[]⟩,rfl,rfl⟩
 |x::rest,pre,last,a,b,c,d,hl,hp,hw,hlt,hlo,h0=>by
  have hx:=hl x (by simp);have hx0:=hlt x (by simp);have afM:∀j,j<rest.length->lost.getD (pre.length+1+j) 0=(ai rest j).i 2:=fun j hj=>by
   have:=hlo (j+1) (by simpa using hj);rw[show pre.length+1+j=pre.length+(j+1) by omega,this];rfl
  have hl0:lost.getD pre.length 0=x.i 2:=hlo 0 (by simp);have hw2:∀z∈rest,x.i 0<z.i 0:=by
   rw[zb6,List.pairwise_append]at hw;have:=(List.pairwise_cons.1 hw.2.1).1;intro z hz;exact this _ (za7.2 ⟨z,hz,rfl⟩)
  have step:∀(y:Dat) (a b c d:Int),y.i 0=x.i 0->ku (x.i 0) (ofL p q r s t u lost ((pre.length:Int)+1) (rest.map rW))=true/\∃z,gO (pre++y::rest) a b c d (ofL p q r s t u lost ((pre.length:Int)+1) (rest.map rW))=some z/\z.e=0:=fun y a b c d hy=>by
   have:=Jv p q r s t u lost rest (pre++[y]) (x.i 0) a b c d (fun z hz=>hl z (by simp[hz])) (fun z hz=>by
    rcases za0.1 hz with hz|hz
    . have:=hp z hz;omega
    . rw[zbg.1 hz];omega) (by simpa[hy]using hw) (fun z hz=>by have:=hw2 z hz;omega) (by simpa using afM) (by omega)
   simpa using this
  have skip:ku last (ofL p q r s t u lost ((pre.length:Int)+1) (rest.map rW))=true/\∃z,gO (pre++x::rest) a b c d (ofL p q r s t u lost ((pre.length:Int)+1) (rest.map rW))=some z/\z.e=0:=by
   have h1:=Jv p q r s t u lost rest (pre++[x]) last a b c d;refine⟨?_,(step x a b c d rfl).2⟩;have tm:∀(l:LD0),ku (x.i 0) l=true->ku last l=true:=fun l h=>by
    cases l with
    |nil=>rfl
    |cons w l=>
     unfold ku at h⊢
     split at h
     . cases h
     . rw[if_neg (by omega)];exact h
   exact tm _ (step x a b c d rfl).1
  have line:∀e:Dat,jK (e.i 1) (e.i 2) (e.i 3) (e.i 4) (e.i 5)=true/\Ej x e=true/\e.i 0=x.i 0->ku last (e::ofL p q r s t u lost ((pre.length:Int)+1) (rest.map rW))=true/\∃y,gO (pre++x::rest) a b c d (e::ofL p q r s t u lost ((pre.length:Int)+1) (rest.map rW))=some y/\y.e=0:=fun e he=>by
   obtain⟨e1,e2,e3⟩:=he;have hi:gJ (e.i 0) 0 (pre++x::rest)=(pre.length:Int):=by
    rw[e3,HW (x.i 0) x rfl pre rest 0 fun z hz=>by have:=hp z hz;omega];omega
   refine⟨?_, ?_⟩
   . unfold ku;rw[e3,if_neg (by omega),if_pos e1];exact(step x a b c d rfl).1
   . unfold gO;rw[hi,if_neg (by omega),zau,ax,if_pos e2,DR];exact(step (pk x e) _ _ _ _ rfl).2
  simp only[zaS];unfold ofL
  split
  . simpa using skip
  . by_cases hb:0<(rW x).i 1
    . rw[if_pos hb,List.singleton_append];exact line _ (ab5 hx hb ⟨rfl,rfl⟩)
    . rw[if_neg hb,List.singleton_append];exact line _ (aba hx hb rfl hl0)
theorem Pk {T:af} (h:ee T) (p q r s t u:LI0):(cP T (qh p q r s t u T.aN)).e=0:=by
 have D:=dU h.Ar;have hl:=jN h;have rh:∀x∈T.aN,0<x.i 0:=fun x hx=>by
  have hm:x.i 0∈T.aN.map (fun d=>d.i 0):=za7.2 ⟨x,hx,rfl⟩;rw[h.ids]at hm;obtain⟨y,hy,e⟩:=za7.1 hm;have:=D.pos y hy;omega
 obtain⟨a1,y,a2,a3⟩:=Jv p q r s t u (T.aN.map fun d=>d.i 2) T.aN [] 0 0 0 0 0 h.GZ (fun x hx=>by cases hx) (by
  have e:=h.ids;rw[zat,e];exact D.ids) (fun x hx=>by have:=rh x hx;omega) (fun j hj=>by
   rw[zar,zaF,kQ hj,zaf];simp[hj]) (by omega)
 have hlen:=LU p q r s t u (T.aN.map fun d=>d.i 2) (T.aN.map rW) 0;unfold cP aK qh;have ht:mq (ofL p q r s t u (T.aN.map fun d=>d.i 2) 0 (T.aN.map rW))=true:=by
  simp only[mq,zae,zag];exact⟨by rw[zaU]at hlen;omega,a1⟩
 rw[if_pos ht];rw[show gO T.aN 0 0 0 0 (ofL p q r s t u (T.aN.map fun d=>d.i 2) 0 (T.aN.map rW))=some y from a2];exact a3
theorem Jt {T:af} (h:ee T) (ho:T.n.gU=false) (hp:T.n.period<600) {l:LD0} (he:(cP T l).e=0):aH T l=fj T l/\ee (fj T l).t/\(fj T l).t.n.gU=false/\(fj T l).t.n.period=T.n.period+1/\(fj T l).t.n.mode=(fj T l).next/\(0<=(fj T l).next/\(fj T l).next<=2)/\(T.n.mode=2->(fj T l).next=2)/\(fj T l).ra.mode=T.n.mode/\(fj T l).ra.period=T.n.period+1:=by
 have u:=tO h he;refine⟨QN ho hp he,zI h hp he, ?_,rfl,rfl,(G7 h.mode h.bf.1).1,fun hm=> ?_,rfl,rfl⟩
 . show(cN2 T l).gU=false;rw[u];exact ho
 . show(ez _ _ _ _ _ _ _).1=2;unfold ez;rw[if_pos (.inl hm)]
theorem SF {T:af} (h:ee T):(decide (T.aN.length<1000)&&T.aN.all (fun d=>decide (d.i 1<=1152921504606846976/\d.i 2<=1152921504606846976)))=true:=by
 rw[zae,zam];have:=jN h;exact⟨zaa (by omega),fun d hd=>zaa (by have:=h.GZ d hd;unfold jB at this;omega)⟩
def qi (n:Int):LI0:=[wu8 (Int.fdiv n 72057594037927936),wu8 (Int.fdiv n 281474976710656),wu8 (Int.fdiv n 1099511627776),wu8 (Int.fdiv n 4294967296),wu8 (Int.fdiv n 16777216),wu8 (Int.fdiv n 65536),wu8 (Int.fdiv n 256),wu8 (Int.fdiv n 1)]
def cQ (l:LI0):LI0:=l.flatMap qi
theorem Q3:(2:Int)^(min (56:Int).toNat 64)=72057594037927936/\(2:Int)^(min (48:Int).toNat 64)=281474976710656/\(2:Int)^(min (40:Int).toNat 64)=1099511627776/\(2:Int)^(min (32:Int).toNat 64)=4294967296/\(2:Int)^(min (24:Int).toNat 64)=16777216/\(2:Int)^(min (16:Int).toNat 64)=65536/\(2:Int)^(min (8:Int).toNat 64)=256/\(2:Int)^(min (0:Int).toNat 64)=1:=by decide
def N52:aA:=⟨T16.tab,52,⟨[.ints .i64],[],0⟩,⟨[.buf 0 1],[.ints .u8],0⟩,[[0,1,1,0,0,1,1,0,0,1,0,1,1]]⟩
abbrev MB:Type:=LI0 × Int × Int × LI0
def Fo (m:Nat) (k:MB->OU0):MB->OU0:=fun(a0,a1,a2,a3)=>
 bif decide (a2<a1)then
 chk (inb a2 a0.length)<|
 chk (decide (a2.toNat<a0.length))<|
 lt ((Int.fdiv (a0.getD a2.toNat 0) (2^(min (56:Int).toNat 64))):Int) fun x1=>
 chk (fits (a3.length+1) 1)<|
 chk (fits ((a3++([(wu8 x1)])).length+1) 1)<|
 lt (((a3++([(wu8 x1)]))++([(wu8 (Int.fdiv (a0.getD a2.toNat 0) (2^(min (48:Int).toNat 64))))])):LI0) fun l3=>
 lt ((Int.fdiv (a0.getD a2.toNat 0) (2^(min (40:Int).toNat 64))):Int) fun x4=>
 chk (fits (l3.length+1) 1)<|
 chk (fits ((l3++([(wu8 x4)])).length+1) 1)<|
 lt (((l3++([(wu8 x4)]))++([(wu8 (Int.fdiv (a0.getD a2.toNat 0) (2^(min (32:Int).toNat 64))))])):LI0) fun l6=>
 lt ((Int.fdiv (a0.getD a2.toNat 0) (2^(min (24:Int).toNat 64))):Int) fun x7=>
 chk (fits (l6.length+1) 1)<|
 chk (fits ((l6++([(wu8 x7)])).length+1) 1)<|
 lt (((l6++([(wu8 x7)]))++([(wu8 (Int.fdiv (a0.getD a2.toNat 0) (2^(min (16:Int).toNat 64))))])):LI0) fun l9=>
 lt ((Int.fdiv (a0.getD a2.toNat 0) (2^(min (8:Int).toNat 64))):Int) fun x10=>
 chk (fits (l9.length+1) 1)<|
 chk (fits ((l9++([(wu8 x10)])).length+1) 1)<|
 k (a0,a1,(w64 (a2+1)),((l9++([(wu8 x10)]))++([(wu8 (Int.fdiv (a0.getD a2.toNat 0) (2^(min (0:Int).toNat 64))))])))
 else
 some ([.l a3])
def Ct (m:Nat):Nat->MB->OU0:=aZ (Fo m)
theorem AZ (m:Nat) (n:Nat):Ct m (n+1)=Fo m (Ct m n):=rfl
def QS (F:MB->OU0):aQ:=⟨[.lp [0,1,0,1,1],.blk 0,.code [1,1,1]],⟨frm 27 [(3,.buf 0 1),(7,.ints .i64),(8,.z0),(9,.z0)],[.ints .u8],0⟩,onU F⟩
theorem abA (m:Nat):∀n,HO N52 (QS (Ct m n)):=an ae T16.right (fun k=>[QS k]) (fun k h=>(aI h az)) fun k a=>by kernel_rfl
def t52 (m:Nat):LI0->OU0:=fun a0=>
 Ct m m (a0,(a0.length:Int),0,[])
theorem TJ (m:Nat):∀(rest pre acc:LI0) (n:Nat),rest.length<n->(pre++rest).length<=1000000->acc.length=8*pre.length->Ct m n (pre++rest,((pre++rest).length:Int),(pre.length:Int),acc)=some [.l (acc++cQ rest)]:=by
 intro rest
 induction rest with
 |nil=>
  intro pre acc n hn hl ha;obtain⟨n,rfl⟩:=ah n (by simp at hn;omega);rw[AZ];unfold Fo;dsimp only;rw[ay (by simp)];simp[cQ]
 |cons x rest ih=>
  intro pre acc n hn hl ha;obtain⟨n,rfl⟩:=ah n (by simp at hn;omega);simp only[zac,zab]at hn hl;rw[AZ];unfold Fo;dsimp only;rw[aL (by simp only[zab,zac];omega),bQ (by omega) (by simp only[zab,zac];omega),aJ (by simp)];have hx:(pre++x::rest).getD (pre.length:Int).toNat 0=x:=by simp
  obtain⟨p1,p2,p3,p4,p5,p6,p7,p8⟩:=Q3;have f:∀k,k<=8->fits (acc.length+k) 1=true:=fun k hk=>zaa (by omega)
  dsimp only[lt];simp only[hx,p1,p2,p3,p4,p5,p6,p7,p8,zab,zac,zar,zaF,zbe,Nat.reduceAdd,f 1 (by decide),f 2 (by decide),f 3 (by decide),f 4 (by decide),f 5 (by decide),f 6 (by decide),f 7 (by decide),f 8 (by decide),chk,zaw];have:=ih (pre++[x]) (acc++qi x) n (by omega) (by simp;omega) (by simp[qi,ha];omega);have e:w64 ((pre.length:Int)+1)=((pre++[x]).length:Int):=by
   rw[aa (by omega) (by omega)];simp
  rw[e];have e2:acc++cQ (x::rest)=(acc++qi x)++cQ rest:=by simp[cQ]
  rw[e2,<-this];simp only[zaq,zaC,zat,qi,zab,zac,zar,zaF,zbe,Nat.add_comm 1]
def f52:LI0->Bool × List Un:=fun a0=>(decide (a0.length<=1000000),[.l (cQ a0)])
theorem TW:ER 52 (mkE N52.en N52.ex f52):=ak ae T16.right (fun m=>[QS (Ct m m)]) (t:=t52) (by kernel_rfl) (fun m=>(aI (abA m m) az)) (fun m a=>by kernel_rfl) fun a0 hc=>by
 dsimp only[f52]at hc⊢;have hl:=zaj hc;refine⟨a0.length+1, ?_⟩;have:=TJ (a0.length+1) a0 [] [] (a0.length+1) (by omega) (by simpa using hl) rfl;simp only[zat]at this;exact this
def T52:TB:=T16.ad TW
structure RdR where
 v:Int
 o:Int
 n:Int
 bad:Bool
 l:List Int
def rdN (o n:Int) (bad:Bool) (l:LI0):RdR:=bif bad||(n.toNat:Int)==0 then⟨0,o.toNat,n.toNat,true,l⟩else⟨l.getD o.toNat 0,((o.toNat+1:Nat):Int),((n.toNat-1:Nat):Int),bad,l⟩
def rdM (o n:Int) (bad:Bool) (l:LI0) (most:Int):RdR:=let r:=rdN o n bad l;bif decide (r.v<0)||decide (r.v>most)then {r with v:=0,bad:=true}else r
def N95:aA:=⟨T52.tab,95,⟨[.ptr 0 0 0],[.cells [.sl 1 1,.bool],.ints .i64],0⟩,⟨[.z0],[.cells [.sl 1 1,.bool],.ints .i64],0⟩,[]⟩
def t95 (m:Nat):Int × Int × Bool × LI0->OU0:=fun(a0,a1,a2,a3)=>
 bif a2 then
 some ([.i 0,.i (a0.toNat:Int),.i (a1.toNat:Int),.b true,.l a3])
 else
 bif (a1.toNat:Int)==0 then
 some ([.i 0,.i (a0.toNat:Int),.i (a1.toNat:Int),.b true,.l a3])
 else
 chk (inb 0 a1.toNat)<|
 chk (decide (a0.toNat<a3.length))<|
 chk (true&&(true&&decide (1<=a1.toNat/\a1.toNat<=a1.toNat)))<|
 some ([.i (a3.getD a0.toNat 0),.i (((a0.toNat+1):Nat):Int),.i (((a1.toNat-1):Nat):Int),.b a2,.l a3])
def f95:Int × Int × Bool × LI0->Bool × List Un:=fun(a0,a1,a2,a3)=>(decide (a0.toNat+a1.toNat<=a3.length),[.i ((rdN a0 a1 a2 a3).v),.i ((rdN a0 a1 a2 a3).o),.i ((rdN a0 a1 a2 a3).n),.b ((rdN a0 a1 a2 a3).bad),.l ((rdN a0 a1 a2 a3).l)])
theorem LD:ER 95 (mkE N95.en N95.ex f95):=ak ae T52.right (fun m=>[]) (t:=t95) (by kernel_rfl) (fun m=>az) (fun m a=>by kernel_rfl) fun(a0,a1,a2,a3) hc=>by
 dsimp only[f95]at hc⊢;have hl:=zaj hc;refine⟨0, ?_⟩;unfold t95 rdN;dsimp only;cases a2 with
 |true=>rfl
 |false=>
  rw[zcj];cases h:((a1.toNat:Int)==0)with
  |true=>rfl
  |false=>
   have h:¬(a1.toNat:Int)=0:=by simpa using h
   rw[zal,zal,zal,bQ (by decide) (by omega),aJ (by omega)];exact al (by simp;omega) rfl
def T95:TB:=T52.ad LD
def afe:RdR->List Un:=fun r=>[.i r.v,.i r.o,.i r.n,.b r.bad,.l r.l]
def aep:Int × Int × Bool × LI0->Bool × RdR:=fun(a0,a1,a2,a3)=>(decide (a0.toNat+a1.toNat<=a3.length),(rdN a0 a1 a2 a3))
theorem PM:ER 95 (mkB N95.en N95.ex aep afe):=rebind LD fun(a0,a1,a2,a3)=>rfl
def Zo:TB:=T95.ad PM
def N60:aA:=⟨Zo.tab,60,⟨[.ptr 0 0 0],[.cells [.sl 1 1,.bool],.ints .i64],2⟩,⟨[.bool],[.cells [.sl 1 1,.bool],.ints .i64],2⟩,[]⟩
def t60 (m:Nat):Int × Int × Bool × LI0->OU0:=fun(a0,a1,a2,a3)=>
 bif !a2 then
 some ([.b ((a1.toNat:Int)==0),.i (a0.toNat:Int),.i (a1.toNat:Int),.b a2,.l a3])
 else
 some ([.b false,.i (a0.toNat:Int),.i (a1.toNat:Int),.b a2,.l a3])
def f60:Int × Int × Bool × LI0->Bool × List Un:=fun(a0,a1,a2,a3)=>(true,[.b ((!a2&&(a1.toNat:Int)==0)),.i ((a0.toNat:Int)),.i ((a1.toNat:Int)),.b (a2),.l (a3)])
theorem Ue:ER 60 (mkE N60.en N60.ex f60):=ak ae Zo.right (fun m=>[]) (t:=t60) (by kernel_rfl) (fun m=>az) (fun m a=>by kernel_rfl) fun(a0,a1,a2,a3) hc=>by
 dsimp only[f60]at⊢;refine⟨0, ?_⟩;unfold t60;cases a2<;>rfl
def T60:TB:=Zo.ad Ue
def N58:aA:=⟨T60.tab,58,⟨[.ints .i64],[],0⟩,⟨[.ptr 0 0 0],[.cells [.sl 1 1,.bool],.ints .i64],0⟩,[]⟩
def t58 (m:Nat):LI0->OU0:=fun a0=>
 chk (decide (a0.length<1000000))<|
 some ([.i 0,.i (a0.length:Int),.b false,.l a0])
def f58:LI0->Bool × List Un:=fun a0=>(decide (a0.length<1000000),[.i (0),.i ((a0.length:Int)),.b (false),.l (a0)])
theorem Uh:ER 58 (mkE N58.en N58.ex f58):=ak ae T60.right (fun m=>[]) (t:=t58) (by kernel_rfl) (fun m=>az) (fun m a=>by kernel_rfl) fun a0 hc=>by
 dsimp only[f58]at hc⊢;refine⟨0, ?_⟩;unfold t58;exact al hc rfl
def T58:TB:=T60.ad Uh
def N96:aA:=⟨T58.tab,96,⟨[.ptr 0 0 0,.z0],[.cells [.sl 1 1,.bool],.ints .i64],0⟩,⟨[.z0],[.cells [.sl 1 1,.bool],.ints .i64],0⟩,[]⟩
def t96 (m:Nat):Int × Int × Int × Bool × LI0->OU0:=fun(a0,a1,a2,a3,a4)=>
 chk (decide ((a1.toNat:Int).toNat+(a2.toNat:Int).toNat<=a4.length))<|
 bd ((rdN (a1.toNat:Int) (a2.toNat:Int) a3 a4):RdR) fun r1=>
 bif decide (r1.v<0)then
 some ([.i 0,.i (r1.o.toNat:Int),.i (r1.n.toNat:Int),.b true,.l r1.l])
 else
 bif decide (r1.v>a0)then
 some ([.i 0,.i (r1.o.toNat:Int),.i (r1.n.toNat:Int),.b true,.l r1.l])
 else
 some ([.i r1.v,.i (r1.o.toNat:Int),.i (r1.n.toNat:Int),.b r1.bad,.l r1.l])
theorem TG (o n:Int) (b:Bool) (l:LI0):((rdN o n b l).o.toNat:Int)=(rdN o n b l).o/\((rdN o n b l).n.toNat:Int)=(rdN o n b l).n:=by
 unfold rdN;cases (b||(n.toNat:Int)==0)with
 |true=>exact⟨rfl,rfl⟩
 |false=>exact⟨rfl,rfl⟩
theorem NX (o n:Int) (b:Bool) (l:LI0):rdN (o.toNat:Int) (n.toNat:Int) b l=rdN o n b l:=rfl
def f96:Int × Int × Int × Bool × LI0->Bool × List Un:=fun(a0,a1,a2,a3,a4)=>(decide (a1.toNat+a2.toNat<=a4.length),[.i ((rdM a1 a2 a3 a4 a0).v),.i ((rdM a1 a2 a3 a4 a0).o),.i ((rdM a1 a2 a3 a4 a0).n),.b ((rdM a1 a2 a3 a4 a0).bad),.l ((rdM a1 a2 a3 a4 a0).l)])
theorem Lc:ER 96 (mkE N96.en N96.ex f96):=ak ae T58.right (fun m=>[]) (t:=t96) (by kernel_rfl) (fun m=>az) (fun m a=>by kernel_rfl) fun(a0,a1,a2,a3,a4) hc=>by
 dsimp only[f96]at hc⊢;have hl:=zaj hc;refine⟨0, ?_⟩;unfold t96;dsimp only[bd];refine al (zaa (by omega)) ?_
 rw[NX];obtain⟨n1,n2⟩:=TG a1 a2 a3 a4;rw[n1,n2];unfold rdM;dsimp only;cases decide ((rdN a1 a2 a3 a4).v<0)with
 |true=>rfl
 |false=>cases decide ((rdN a1 a2 a3 a4).v>a0)<;>rfl
def T96:TB:=T58.ad Lc
def ae3:RdR->List Un:=fun r=>[.i r.v,.i r.o,.i r.n,.b r.bad,.l r.l]
def aeY:Int × Int × Int × Bool × LI0->Bool × RdR:=fun(a0,a1,a2,a3,a4)=>(decide (a1.toNat+a2.toNat<=a4.length),(rdM a1 a2 a3 a4 a0))
theorem QU:ER 96 (mkB N96.en N96.ex aeY ae3):=rebind Lc fun(a0,a1,a2,a3,a4)=>rfl
def VW:TB:=T96.ad QU
def Et (n:Int):Bool:=decide (0<=n)&&decide (n<=1152921504606846976)
def Yp:aA:=⟨VW.tab,104,⟨[.ints .i64],[],0⟩,⟨[.bool],[],0⟩,[]⟩
abbrev DD:Type:=LI0 × Int × Int
def yi (m:Nat) (k:DD->OU0):DD->OU0:=fun(a0,a1,a2)=>
 bif decide (a2<a1)then
 chk (inb a2 a0.length)<|
 chk (decide (a2.toNat<a0.length))<|
 bif (decide ((a0.getD a2.toNat 0)<0))then
 some ([.b false])
 else
 bif (decide ((a0.getD a2.toNat 0)>1152921504606846976))then
 some ([.b false])
 else
 k (a0,a1,(w64 (a2+1)))
 else
 some ([.b true])
def uT (m:Nat):Nat->DD->OU0:=aZ (yi m)
theorem wL (m:Nat) (n:Nat):uT m (n+1)=yi m (uT m n):=rfl
def JD (F:DD->OU0):aQ:=⟨[.lp [0,1,0,1],.blk 0,.code [1,1]],⟨frm 18 [(5,.ints .i64),(6,.z0),(7,.z0)],[],0⟩,onU F⟩
theorem Zs (m:Nat):∀n,HO Yp (JD (uT m n)):=an ae VW.right (fun k=>[JD k]) (fun k h=>(aI h az)) fun k a=>by kernel_rfl
def t104 (m:Nat):LI0->OU0:=fun a0=>
 uT m m (a0,(a0.length:Int),0)
theorem acy (m:Nat):∀(rest pre:LI0) (n:Nat),rest.length<n->(pre++rest).length<=1000000->uT m n (pre++rest,((pre++rest).length:Int),(pre.length:Int))=some [.b (rest.all Et)]:=by
 intro rest
 induction rest with
 |nil=>
  intro pre n hn hl;obtain⟨n,rfl⟩:=ah n (by simp at hn;omega);rw[wL];unfold yi;dsimp only;rw[ay (by simp)];rfl
 |cons x rest ih=>
  intro pre n hn hl;obtain⟨n,rfl⟩:=ah n (by simp at hn;omega);simp only[zac,zab]at hn hl;rw[wL];unfold yi;dsimp only;rw[aL (by simp only[zab,zac];omega),bQ (by omega) (by simp only[zab,zac];omega),aJ (by simp)];have hx:(pre++x::rest).getD (pre.length:Int).toNat 0=x:=by simp
  have:=ih (pre++[x]) n (by omega) (by simp;omega);have e:w64 ((pre.length:Int)+1)=((pre++[x]).length:Int):=by
   rw[aa (by omega) (by omega)];simp
  have e3:pre++x::rest=(pre++[x])++rest:=by simp
  rw[hx,F5,FG,e,e3,this,qM,qM];simp only[List.all_cons,Et,Bool.and_assoc]
def f104:LI0->Bool × List Un:=fun a0=>(decide (a0.length<=1000000),[.b (a0.all Et)])
theorem P0:ER 104 (mkE Yp.en Yp.ex f104):=ak ae VW.right (fun m=>[JD (uT m m)]) (t:=t104) (by kernel_rfl) (fun m=>(aI (Zs m m) az)) (fun m a=>by kernel_rfl) fun a0 hc=>by
 dsimp only[f104]at hc⊢;have hl:=zaj hc;refine⟨a0.length+1, ?_⟩;exact acy (a0.length+1) a0 [] (a0.length+1) (by omega) (by simpa using hl)
def R7:TB:=VW.ad P0
structure ML where
 ra:cJ
 rb:cC
 next:Int
 bm:List Dat
 notes:List Dat
 r:RdR
def nx (r:RdR):RdR:=rdN r.o r.n r.bad r.l
def mx (r:RdR) (most:Int):RdR:=rdM r.o r.n r.bad r.l most
def mR:Nat->RdR->LD0 × RdR
 |0,r=>([],r)
 |k+1,r=>let s:=nx (nx (nx (nx r)));(.r [.n (nx r).v,.n (nx (nx r)).v,.n (nx (nx (nx r))).v,.n s.v]::(mR k s).1,(mR k s).2)
def fc:Nat->RdR->LD0 × RdR
 |0,r=>([],r)
 |k+1,r=>let s:=nx (nx (nx r));(.r [.n (nx r).v,.n (nx (nx r)).v,.n s.v]::(fc k s).1,(fc k s).2)
def F6 (r1 r17:RdR):cJ × cC × Int:=
 let r2:=nx r1;let r3:=nx r2;let r4:=nx r3;let r5:=nx r4;let r6:=nx r5;let r7:=nx r6;let r8:=nx r7;let r9:=nx r8;let r10:=nx r9;let r11:=nx r10;let r12:=nx r11;let r13:=nx r12;let r14:=nx r13;let r15:=nx r14;let r16:=nx r15
 (⟨r1.v==1,r2.v,r3.v,r4.v,r5.v,r6.v,r7.v,r8.v,r9.v,r10.v,r11.v⟩,⟨r12.v,r13.v,r14.v,r15.v,r16.v⟩,r17.v)
def iO (o n:Int) (bad:Bool) (l:LI0):ML:=
 let r1:=rdM o n bad l 1
 let r17:=nx (nx (nx (nx (nx (nx (nx (nx (nx (nx (nx (nx (nx (nx (nx (nx r1)))))))))))))))
 let h:=F6 r1 r17
 let r18:=mx r17 160
 let p:=mR r18.v.toNat r18
 let r24:=mx p.2 8
 let q:=fc r24.v.toNat r24
 ⟨h.1,h.2.1,h.2.2,p.1,q.1,q.2⟩
def RdI (r:RdR):Prop:=(r.o.toNat:Int)=r.o/\(r.n.toNat:Int)=r.n/\r.o.toNat+r.n.toNat<=r.l.length
theorem HB {o n:Int} {b:Bool} {l:LI0} (h:o.toNat+n.toNat<=l.length):RdI (rdN o n b l)/\(rdN o n b l).l=l:=by
 unfold rdN RdI;cases hb:(b||(n.toNat:Int)==0)with
 |true=>exact⟨⟨rfl,rfl,h⟩,rfl⟩
 |false=>
  simp only[zbS,zbU]at hb;refine⟨⟨rfl,rfl, ?_⟩,rfl⟩;simp only[zal,zau];omega
theorem bK {r:RdR} (h:RdI r):RdI (nx r):=(HB h.2.2).1
theorem Qq {o n:Int} {b:Bool} {l:LI0} {most:Int} (h:o.toNat+n.toNat<=l.length):RdI (rdM o n b l most):=by
 have:=(HB (b:=b) h).1;unfold rdM;dsimp only;cases (decide ((rdN o n b l).v<0)||decide ((rdN o n b l).v>most))<;>exact this
theorem uE {r:RdR} {most:Int} (h:RdI r):RdI (mx r most):=Qq h.2.2
theorem Hi {o n:Int} {b:Bool} {l:LI0} {most:Int} (hm:0<=most):0<=(rdM o n b l most).v/\(rdM o n b l most).v<=most:=by
 unfold rdM;dsimp only;cases h:(decide ((rdN o n b l).v<0)||decide ((rdN o n b l).v>most))with
 |true=>exact⟨zcc _,hm⟩
 |false=>
  simp only[zbS,decide_eq_false_iff_not]at h;simp only[zal];omega
theorem LM:∀(k:Nat) {r:RdR},RdI r->RdI (mR k r).2
 |0,r,h=>h
 |k+1,r,h=>LM k (bK (bK (bK (bK h))))
theorem Fx:∀(k:Nat) {r:RdR},RdI r->RdI (fc k r).2
 |0,r,h=>h
 |k+1,r,h=>Fx k (bK (bK (bK h)))
def N59:aA:=⟨R7.tab,59,⟨[.ptr 0 0 0],[.cells [.sl 1 1,.bool],.ints .i64],0⟩,⟨[.agg [.bool,.z0,.z0,.z0,.z0,.z0,.z0,.z0,.z0,.z0,.z0,.buf 2 4,.z0,.z0,.z0,.z0,.z0,.buf 3 3,.z0]],[.cells [.sl 1 1,.bool],.ints .i64,.ab (sI 4),.ab (sI 3)],0⟩,[[0,1,0,1,1,1],[0,1,0,1,0,0,1,1,0,0,1,0,1,1,1,1],[0,1,0,1,0,0,1,1,0,0,1,0,1,1,1,1,1]]⟩
abbrev LL:Type:=Int × Int × Int × Int × Bool × LI0 × cJ × cC × Int × cJ × cC × Int × LD0 × LD0 × LD0 × LD0
abbrev L8:Type:=Int × Int × Int × Int × Bool × LI0 × cJ × cC × Int × cJ × cC × Int × LD0 × LD0 × LD0 × LD0
def Ez (m:Nat) (k:LL->OU0):LL->OU0:=fun(a0,a1,a2,a3,a4,a5,a6,a7,a8,a9,a10,a11,a12,a13,a14,a15)=>
 bif decide (a1<a0)then
 chk (decide ((a2.toNat:Int).toNat+(a3.toNat:Int).toNat<=a5.length))<|
 bd ((rdN (a2.toNat:Int) (a3.toNat:Int) a4 a5):RdR) fun r25=>
 chk (decide ((r25.o.toNat:Int).toNat+(r25.n.toNat:Int).toNat<=r25.l.length))<|
 bd ((rdN (r25.o.toNat:Int) (r25.n.toNat:Int) r25.bad r25.l):RdR) fun r26=>
 chk (decide ((r26.o.toNat:Int).toNat+(r26.n.toNat:Int).toNat<=r26.l.length))<|
 bd ((rdN (r26.o.toNat:Int) (r26.n.toNat:Int) r26.bad r26.l):RdR) fun r27=>
 chk (fits (a15.length+1) 24)<|
 k (a0,(w64 (a1+1)),(r27.o.toNat:Int),(r27.n.toNat:Int),r27.bad,r27.l,a6,a7,a8,a9,a10,a11,a12,a13,a14,(a15++([.r [.n r25.v,.n r26.v,.n r27.v]])))
 else
 some (Uns.enc (a9:cJ)++Uns.enc (a10:cC)++[.i a11,.i (a2.toNat:Int),.i (a3.toNat:Int),.b a4,.l a5,.d a14,.d a15])
def Cf (m:Nat):Nat->LL->OU0:=aZ (Ez m)
theorem y6 (m:Nat) (n:Nat):Cf m (n+1)=Ez m (Cf m n):=rfl
def Ss (F:LL->OU0):aQ:=⟨[.lp [0,1,0,1,1,1,1,1],.blk 6,.code [1,1,1,1,1,1]],⟨frm 92 [(0,.ptr 0 0 0),(2,.ptr 2 0 0),(3,.ptr 3 0 0),(73,.z0),(74,.z0)],[.cells [.sl 1 1,.bool],.ints .i64,.cells [.bool,.z0,.z0,.z0,.z0,.z0,.z0,.z0,.z0,.z0,.z0,.buf 4 4,.z0,.z0,.z0,.z0,.z0,.buf 5 3,.z0],.cells [.bool,.z0,.z0,.z0,.z0,.z0,.z0,.z0,.z0,.z0,.z0,.buf 6 4,.z0,.z0,.z0,.z0,.z0,.buf 7 3,.z0],.ab (sI 4),.ab (sI 3),.ab (sI 4),.ab (sI 3)],0⟩,onU F⟩
def Fa (m:Nat) (k:L8->OU0):L8->OU0:=fun(a0,a1,a2,a3,a4,a5,a6,a7,a8,a9,a10,a11,a12,a13,a14,a15)=>
 bif decide (a1<a0)then
 chk (decide ((a2.toNat:Int).toNat+(a3.toNat:Int).toNat<=a5.length))<|
 bd ((rdN (a2.toNat:Int) (a3.toNat:Int) a4 a5):RdR) fun r19=>
 chk (decide ((r19.o.toNat:Int).toNat+(r19.n.toNat:Int).toNat<=r19.l.length))<|
 bd ((rdN (r19.o.toNat:Int) (r19.n.toNat:Int) r19.bad r19.l):RdR) fun r20=>
 chk (decide ((r20.o.toNat:Int).toNat+(r20.n.toNat:Int).toNat<=r20.l.length))<|
 bd ((rdN (r20.o.toNat:Int) (r20.n.toNat:Int) r20.bad r20.l):RdR) fun r21=>
 chk (decide ((r21.o.toNat:Int).toNat+(r21.n.toNat:Int).toNat<=r21.l.length))<|
 bd ((rdN (r21.o.toNat:Int) (r21.n.toNat:Int) r21.bad r21.l):RdR) fun r22=>
 chk (fits (a14.length+1) 32)<|
 k (a0,(w64 (a1+1)),(r22.o.toNat:Int),(r22.n.toNat:Int),r22.bad,r22.l,a6,a7,a8,a9,a10,a11,a12,a13,(a14++([.r [.n r19.v,.n r20.v,.n r21.v,.n r22.v]])),a15)
 else
 chk (decide ((a2.toNat:Int).toNat+(a3.toNat:Int).toNat<=a5.length))<|
 bd ((rdM (a2.toNat:Int) (a3.toNat:Int) a4 a5 8):RdR) fun r24=>
 Cf m m (r24.v,0,(r24.o.toNat:Int),(r24.n.toNat:Int),r24.bad,r24.l,a6,a7,a8,a9,a10,a11,a12,a13,a14,a15)
def Dg (m:Nat):Nat->L8->OU0:=aZ (Fa m)
theorem Bo (m:Nat) (n:Nat):Dg m (n+1)=Fa m (Dg m n):=rfl
def OR (F:L8->OU0):aQ:=⟨[.lp [0,1,0,1,1,1,1],.blk 2,.code [1,1,1,1,1]],⟨frm 92 [(0,.ptr 0 0 0),(2,.ptr 2 0 0),(3,.ptr 3 0 0),(47,.z0),(48,.z0)],[.cells [.sl 1 1,.bool],.ints .i64,.cells [.bool,.z0,.z0,.z0,.z0,.z0,.z0,.z0,.z0,.z0,.z0,.buf 4 4,.z0,.z0,.z0,.z0,.z0,.buf 5 3,.z0],.cells [.bool,.z0,.z0,.z0,.z0,.z0,.z0,.z0,.z0,.z0,.z0,.buf 6 4,.z0,.z0,.z0,.z0,.z0,.buf 7 3,.z0],.ab (sI 4),.ab (sI 3),.ab (sI 4),.ab (sI 3)],0⟩,onU F⟩
theorem aaY (m:Nat):∀n,HO N59 (Ss (Cf m n)):=an ae R7.right (fun k=>[Ss k]) (fun k h=>(aI h az)) fun k a=>by kernel_rfl
theorem abU (m:Nat):∀n,HO N59 (OR (Dg m n)):=an ae R7.right (fun k=>[OR k,Ss (Cf m m)]) (fun k h=>(aI h (aI (aaY m m) az))) fun k a=>by kernel_rfl
def t59 (m:Nat):Int × Int × Bool × LI0->OU0:=fun(a0,a1,a2,a3)=>
 chk (decide ((a0.toNat:Int).toNat+(a1.toNat:Int).toNat<=a3.length))<|
 bd ((rdM (a0.toNat:Int) (a1.toNat:Int) a2 a3 1):RdR) fun r1=>
 chk (decide ((r1.o.toNat:Int).toNat+(r1.n.toNat:Int).toNat<=r1.l.length))<|
 bd ((rdN (r1.o.toNat:Int) (r1.n.toNat:Int) r1.bad r1.l):RdR) fun r2=>
 chk (decide ((r2.o.toNat:Int).toNat+(r2.n.toNat:Int).toNat<=r2.l.length))<|
 bd ((rdN (r2.o.toNat:Int) (r2.n.toNat:Int) r2.bad r2.l):RdR) fun r3=>
 chk (decide ((r3.o.toNat:Int).toNat+(r3.n.toNat:Int).toNat<=r3.l.length))<|
 bd ((rdN (r3.o.toNat:Int) (r3.n.toNat:Int) r3.bad r3.l):RdR) fun r4=>
 chk (decide ((r4.o.toNat:Int).toNat+(r4.n.toNat:Int).toNat<=r4.l.length))<|
 bd ((rdN (r4.o.toNat:Int) (r4.n.toNat:Int) r4.bad r4.l):RdR) fun r5=>
 chk (decide ((r5.o.toNat:Int).toNat+(r5.n.toNat:Int).toNat<=r5.l.length))<|
 bd ((rdN (r5.o.toNat:Int) (r5.n.toNat:Int) r5.bad r5.l):RdR) fun r6=>
 chk (decide ((r6.o.toNat:Int).toNat+(r6.n.toNat:Int).toNat<=r6.l.length))<|
 bd ((rdN (r6.o.toNat:Int) (r6.n.toNat:Int) r6.bad r6.l):RdR) fun r7=>
 chk (decide ((r7.o.toNat:Int).toNat+(r7.n.toNat:Int).toNat<=r7.l.length))<|
 bd ((rdN (r7.o.toNat:Int) (r7.n.toNat:Int) r7.bad r7.l):RdR) fun r8=>
 chk (decide ((r8.o.toNat:Int).toNat+(r8.n.toNat:Int).toNat<=r8.l.length))<|
 bd ((rdN (r8.o.toNat:Int) (r8.n.toNat:Int) r8.bad r8.l):RdR) fun r9=>
 chk (decide ((r9.o.toNat:Int).toNat+(r9.n.toNat:Int).toNat<=r9.l.length))<|
 bd ((rdN (r9.o.toNat:Int) (r9.n.toNat:Int) r9.bad r9.l):RdR) fun r10=>
 chk (decide ((r10.o.toNat:Int).toNat+(r10.n.toNat:Int).toNat<=r10.l.length))<|
 bd ((rdN (r10.o.toNat:Int) (r10.n.toNat:Int) r10.bad r10.l):RdR) fun r11=>
 chk (decide ((r11.o.toNat:Int).toNat+(r11.n.toNat:Int).toNat<=r11.l.length))<|
 bd ((rdN (r11.o.toNat:Int) (r11.n.toNat:Int) r11.bad r11.l):RdR) fun r12=>
 chk (decide ((r12.o.toNat:Int).toNat+(r12.n.toNat:Int).toNat<=r12.l.length))<|
 bd ((rdN (r12.o.toNat:Int) (r12.n.toNat:Int) r12.bad r12.l):RdR) fun r13=>
 chk (decide ((r13.o.toNat:Int).toNat+(r13.n.toNat:Int).toNat<=r13.l.length))<|
 bd ((rdN (r13.o.toNat:Int) (r13.n.toNat:Int) r13.bad r13.l):RdR) fun r14=>
 chk (decide ((r14.o.toNat:Int).toNat+(r14.n.toNat:Int).toNat<=r14.l.length))<|
 bd ((rdN (r14.o.toNat:Int) (r14.n.toNat:Int) r14.bad r14.l):RdR) fun r15=>
 chk (decide ((r15.o.toNat:Int).toNat+(r15.n.toNat:Int).toNat<=r15.l.length))<|
 bd ((rdN (r15.o.toNat:Int) (r15.n.toNat:Int) r15.bad r15.l):RdR) fun r16=>
 chk (decide ((r16.o.toNat:Int).toNat+(r16.n.toNat:Int).toNat<=r16.l.length))<|
 bd ((rdN (r16.o.toNat:Int) (r16.n.toNat:Int) r16.bad r16.l):RdR) fun r17=>
 chk (decide ((r17.o.toNat:Int).toNat+(r17.n.toNat:Int).toNat<=r17.l.length))<|
 bd ((rdM (r17.o.toNat:Int) (r17.n.toNat:Int) r17.bad r17.l 160):RdR) fun r18=>
 Dg m m (r18.v,0,(r18.o.toNat:Int),(r18.n.toNat:Int),r18.bad,r18.l,(⟨false,0,0,0,0,0,0,0,0,0,0⟩:cJ),(⟨0,0,0,0,0⟩:cC),0,(⟨r1.v==1,r2.v,r3.v,r4.v,r5.v,r6.v,r7.v,r8.v,r9.v,r10.v,r11.v⟩:cJ),(⟨r12.v,r13.v,r14.v,r15.v,r16.v⟩:cC),r17.v,[],[],[],[])
theorem YR (m:Nat) (xa:cJ) (xb:cC) (xn:Int) (ya:cJ) (yb:cC) (yn:Int) (z1 z2 p:LD0):∀(c:Nat) (n:Nat) (k:Nat) (r:RdR) (acc:LD0),c<n->k+c<=8->acc.length<=k->RdI r->
 Cf m n (((k+c:Nat):Int),(k:Int),r.o,r.n,r.bad,r.l,xa,xb,xn,ya,yb,yn,z1,z2,p,acc)=some (Uns.enc ya++Uns.enc yb++[.i yn,.i (fc c r).2.o,.i (fc c r).2.n,.b (fc c r).2.bad,.l (fc c r).2.l,.d p,.d (acc++(fc c r).1)]):=by
 intro c
 induction c with
 |zero=>
  intro n k r acc hn hk ha hr;obtain⟨n,rfl⟩:=ah n (by omega);rw[y6];unfold Ez;dsimp only;rw[ay (by omega),hr.1,hr.2.1];simp[fc]
 |succ c ih=>
  intro n k r acc hn hk ha hr;obtain⟨n,rfl⟩:=ah n (by omega);rw[y6];unfold Ez;dsimp only;have h1:=bK hr;have h2:=bK h1;have h3:=bK h2;rw[aL (by omega)];dsimp only[bd];rw[hr.1,hr.2.1];refine al (zaa hr.2.2) ?_
  rw[show rdN r.o r.n r.bad r.l=nx r from rfl,h1.1,h1.2.1];refine al (zaa h1.2.2) ?_
  rw[show rdN (nx r).o (nx r).n (nx r).bad (nx r).l=nx (nx r) from rfl,h2.1,h2.2.1];refine al (zaa h2.2.2) ?_
  rw[show rdN (nx (nx r)).o (nx (nx r)).n (nx (nx r)).bad (nx (nx r)).l=nx (nx (nx r)) from rfl,h3.1,h3.2.1];rw[bD (by omega) (by omega)];have:=ih n (k+1) (nx (nx (nx r))) (acc++[.r [.n (nx r).v,.n (nx (nx r)).v,.n (nx (nx (nx r))).v]]) (by omega) (by omega) (by simp;omega) h3;have e:w64 ((k:Int)+1)=((k+1:Nat):Int):=by rw[aa (by omega) (by omega)];simp
  rw[e,show k+(c+1)=k+1+c by omega,this];simp only[fc,zaq,zaC,zat]
theorem Yc (m:Nat) (hm:9<=m) (xa:cJ) (xb:cC) (xn:Int) (ya:cJ) (yb:cC) (yn:Int) (z1 z2:LD0):∀(c:Nat) (n:Nat) (k:Nat) (r:RdR) (acc:LD0),c<n->k+c<=160->acc.length<=k->RdI r->
 Dg m n (((k+c:Nat):Int),(k:Int),r.o,r.n,r.bad,r.l,xa,xb,xn,ya,yb,yn,z1,z2,acc,[])=
  (let p:=mR c r;let t:=mx p.2 8;let q:=fc t.v.toNat t;some (Uns.enc ya++Uns.enc yb++[.i yn,.i q.2.o,.i q.2.n,.b q.2.bad,.l q.2.l,.d (acc++p.1),.d q.1])):=by
 intro c
 induction c with
 |zero=>
  intro n k r acc hn hk ha hr;obtain⟨n,rfl⟩:=ah n (by omega);rw[Bo];unfold Fa;dsimp only;rw[ay (by omega),hr.1,hr.2.1];dsimp only[bd];refine al (zaa hr.2.2) ?_
  have ht:=uE (most:=8) hr;rw[show rdM r.o r.n r.bad r.l 8=mx r 8 from rfl,ht.1,ht.2.1];have hv:0<=(mx r 8).v/\(mx r 8).v<=8:=Hi (by decide);have:=YR m xa xb xn ya yb yn z1 z2 acc (mx r 8).v.toNat m 0 (mx r 8) [] (by omega) (by omega) (by simp) ht;rw[show(((0+(mx r 8).v.toNat:Nat)):Int)=(mx r 8).v by omega]at this;simp only[mR,zaH];exact this
 |succ c ih=>
  intro n k r acc hn hk ha hr;obtain⟨n,rfl⟩:=ah n (by omega);rw[Bo];unfold Fa;dsimp only;have h1:=bK hr;have h2:=bK h1;have h3:=bK h2;have h4:=bK h3;rw[aL (by omega)];dsimp only[bd];rw[hr.1,hr.2.1];refine al (zaa hr.2.2) ?_
  rw[show rdN r.o r.n r.bad r.l=nx r from rfl,h1.1,h1.2.1];refine al (zaa h1.2.2) ?_
  rw[show rdN (nx r).o (nx r).n (nx r).bad (nx r).l=nx (nx r) from rfl,h2.1,h2.2.1];refine al (zaa h2.2.2) ?_
  rw[show rdN (nx (nx r)).o (nx (nx r)).n (nx (nx r)).bad (nx (nx r)).l=nx (nx (nx r)) from rfl,h3.1,h3.2.1];refine al (zaa h3.2.2) ?_
  rw[show rdN (nx (nx (nx r))).o (nx (nx (nx r))).n (nx (nx (nx r))).bad (nx (nx (nx r))).l=nx (nx (nx (nx r))) from rfl,h4.1,h4.2.1];rw[bD (by omega) (by omega)];have:=ih n (k+1) (nx (nx (nx (nx r)))) (acc++[.r [.n (nx r).v,.n (nx (nx r)).v,.n (nx (nx (nx r))).v,.n (nx (nx (nx (nx r)))).v]]) (by omega) (by omega) (by simp;omega) h4;have e:w64 ((k:Int)+1)=((k+1:Nat):Int):=by rw[aa (by omega) (by omega)];simp
  rw[e,show k+(c+1)=k+1+c by omega,this];simp only[mR,zaq,zaC,zat]
theorem fu {r:RdR} (h:RdI r) {β:Type} (f:RdR->Option β):(chk (decide ((r.o.toNat:Int).toNat+(r.n.toNat:Int).toNat<=r.l.length))<|bd (rdN (r.o.toNat:Int) (r.n.toNat:Int) r.bad r.l) f)=f (nx r):=by
 rw[h.1,h.2.1];exact al (zaa h.2.2) rfl
def f59:Int × Int × Bool × LI0->Bool × List Un:=fun(a0,a1,a2,a3)=>(decide (a0.toNat+a1.toNat<=a3.length),Uns.enc (((iO a0 a1 a2 a3).ra):cJ)++Uns.enc (((iO a0 a1 a2 a3).rb):cC)++[.i ((iO a0 a1 a2 a3).next),.i ((iO a0 a1 a2 a3).r.o),.i ((iO a0 a1 a2 a3).r.n),.b ((iO a0 a1 a2 a3).r.bad),.l ((iO a0 a1 a2 a3).r.l),.d ((iO a0 a1 a2 a3).bm),.d ((iO a0 a1 a2 a3).notes)])
set_option maxHeartbeats 2000000 in
theorem K9:ER 59 (mkE N59.en N59.ex f59):=ak ae R7.right (fun m=>[OR (Dg m m)]) (t:=t59) (by kernel_rfl) (fun m=>(aI (abU m m) az)) (fun m a=>by kernel_rfl) fun(a0,a1,a2,a3) hc=>by
 dsimp only[f59]at hc⊢;have hl:=zaj hc;refine⟨200, ?_⟩;unfold t59;have i1:RdI (rdM a0 a1 a2 a3 1):=Qq hl;refine al (zaa hl) ?_
 rw[show bd (rdM (a0.toNat:Int) (a1.toNat:Int) a2 a3 1)=bd (rdM a0 a1 a2 a3 1) from rfl];have e1:∀{β:Type} (f:RdR->Option β),bd (rdM a0 a1 a2 a3 1) f=f (rdM a0 a1 a2 a3 1):=fun f=>rfl
 rw[e1];have i2:=bK i1;have i3:=bK i2;have i4:=bK i3;have i5:=bK i4;have i6:=bK i5;have i7:=bK i6;have i8:=bK i7;have i9:=bK i8;have i10:=bK i9;have i11:=bK i10;have i12:=bK i11;have i13:=bK i12;have i14:=bK i13;have i15:=bK i14;have i16:=bK i15;have i17:=bK i16;rw[fu i1,fu i2,fu i3,fu i4,fu i5,fu i6,fu i7,fu i8,fu i9,fu i10,fu i11,fu i12,fu i13,fu i14,fu i15,fu i16];rw[i17.1,i17.2.1];refine al (zaa i17.2.2) ?_
 dsimp only[bd];have i18:=uE (most:=160) i17;unfold iO;dsimp only;generalize nx (nx (nx (nx (nx (nx (nx (nx (nx (nx (nx (nx (nx (nx (nx (nx (rdM a0 a1 a2 a3 1))))))))))))))))=r17 at*
 rw[show rdM r17.o r17.n r17.bad r17.l 160=mx r17 160 from rfl,i18.1,i18.2.1];have hv:0<=(mx r17 160).v/\(mx r17 160).v<=160:=Hi (by decide);have:=Yc 200 (by decide) (⟨false,0,0,0,0,0,0,0,0,0,0⟩:cJ) (⟨0,0,0,0,0⟩:cC) 0 (F6 (rdM a0 a1 a2 a3 1) r17).1 (F6 (rdM a0 a1 a2 a3 1) r17).2.1 (F6 (rdM a0 a1 a2 a3 1) r17).2.2 [] [] (mx r17 160).v.toNat 200 0 (mx r17 160) [] (by omega) (by omega) (by simp) i18;rw[show(((0+(mx r17 160).v.toNat:Nat)):Int)=(mx r17 160).v by omega]at this;exact this
def T59:TB:=R7.ad K9
def aeI:ML->List Un:=fun r=>Uns.enc (r.ra:cJ)++Uns.enc (r.rb:cC)++[.i r.next,.i r.r.o,.i r.r.n,.b r.r.bad,.l r.r.l,.d r.bm,.d r.notes]
def ae7:Int × Int × Bool × LI0->Bool × ML:=fun(a0,a1,a2,a3)=>(decide (a0.toNat+a1.toNat<=a3.length),(iO a0 a1 a2 a3))
theorem P2:ER 59 (mkB N59.en N59.ex ae7 aeI):=rebind K9 fun(a0,a1,a2,a3)=>rfl
def Sx:TB:=T59.ad P2
theorem Hn {α:Type} {c d:Bool} {F Y:α}:(bif c then(bif !d then F else Y)else F)=bif c&&d then Y else F:=by cases c<;>cases d<;>rfl
theorem cond_not {α:Type} {d:Bool} {F Y:α}:(bif !d then F else Y)=bif d then Y else F:=by cases d<;>rfl
def Av (d:Dat):Bool:=decide (d.i 0>=0)&&(decide (d.i 0<=15)&&(decide (d.i 1>=1)&&(decide (d.i 1<=7)&&(decide (d.i 2>= -1)&&(decide (d.i 2<=7)&&(decide (d.i 3>=1)&&decide (d.i 3<=1152921504606846976)))))))
def wO (d:Dat):Bool:=([d.i 0,d.i 1,d.i 2]:LI0).all Et
def zH (ra:cJ) (rb:cC):LI0:=[ra.ar,ra.fU,ra.aP,ra.bc,ra.draw,ra.advance,ra.fee,ra.due,rb.eE,rb.aN,rb.bq,rb.out,rb.xD]
def fB (ra:cJ) (bm:LD0) (rb:cC) (notes:LD0) (next:Int):Bool:=
 decide (ra.period>=0)&&(decide (ra.period<=600)&&(decide (ra.mode>=0)&&(decide (ra.mode<=2)&&(decide (next>=0)&&(decide (next<=2)&&((zH ra rb).all Et&&(decide ((bm.length:Int)<=160)&&(decide ((notes.length:Int)<=8)&&(bm.all Av&&notes.all wO)))))))))
def N61:aA:=⟨Sx.tab,61,⟨[.agg [.bool,.z0,.z0,.z0,.z0,.z0,.z0,.z0,.z0,.z0,.z0,.ab (sI 4),.z0,.z0,.z0,.z0,.z0,.ab (sI 3),.z0]],[],0⟩,⟨[.bool],[],0⟩,[]⟩
abbrev Mg:Type:=LD0 × Int × Int
abbrev K2:Type:=LD0 × Int × Int × cJ × LD0 × cC × LD0 × Int
def EG (m:Nat) (k:Mg->OU0):Mg->OU0:=fun(a0,a1,a2)=>
 bif decide (a2<a1)then
 chk (inb a2 a0.length)<|
 chk (decide (a2.toNat<a0.length))<|
 lt (ai a0 a2.toNat:Dat) fun d8=>
 chk (decide (([(d8.i 0),(d8.i 1),(d8.i 2)]:LI0).length<=1000000))<|
 bif !(([(d8.i 0),(d8.i 1),(d8.i 2)]:LI0).all Et)then
 some ([.b false])
 else
 k (a0,a1,(w64 (a2+1)))
 else
 some ([.b true])
def C4 (m:Nat):Nat->Mg->OU0:=aZ (EG m)
theorem Aj (m:Nat) (n:Nat):C4 m (n+1)=EG m (C4 m n):=rfl
def RO (F:Mg->OU0):aQ:=⟨[.lp [0,1,0,1,1,1],.blk 2,.code [1,1,1,1]],⟨frm 82 [(72,.ab (sI 3)),(73,.z0),(74,.z0)],[],0⟩,onU F⟩
def D3 (m:Nat) (k:K2->OU0):K2->OU0:=fun(a0,a1,a2,a3,a4,a5,a6,a7)=>
 bif decide (a2<a1)then
 chk (inb a2 a0.length)<|
 chk (decide (a2.toNat<a0.length))<|
 lt (ai a0 a2.toNat:Dat) fun d5=>
 bif decide ((d5.i 0)>=0)then
 bif !(decide ((d5.i 0)<=15))then
 some ([.b false])
 else
 bif decide ((d5.i 1)>=1)then
 bif !(decide ((d5.i 1)<=7))then
 some ([.b false])
 else
 bif (decide ((d5.i 2)>=(-1)))then
 bif !(decide ((d5.i 2)<=7))then
 some ([.b false])
 else
 bif decide ((d5.i 3)>=1)then
 bif !(decide ((d5.i 3)<=1152921504606846976))then
 some ([.b false])
 else
 k (a0,a1,(w64 (a2+1)),a3,a4,a5,a6,a7)
 else
 some ([.b false])
 else
 some ([.b false])
 else
 some ([.b false])
 else
 some ([.b false])
 else
 C4 m m (a6,(a6.length:Int),0)
def y5 (m:Nat):Nat->K2->OU0:=aZ (D3 m)
theorem By (m:Nat) (n:Nat):y5 m (n+1)=D3 m (y5 m n):=rfl
def Rn (F:K2->OU0):aQ:=⟨[.lp [0,1,0,1,1],.blk 0,.code [1,1,1]],⟨frm 82 [(1,.ptr 0 0 0),(42,.ab (sI 4)),(43,.z0),(44,.z0)],[.cells [.bool,.z0,.z0,.z0,.z0,.z0,.z0,.z0,.z0,.z0,.z0,.ab (sI 4),.z0,.z0,.z0,.z0,.z0,.ab (sI 3),.z0]],0⟩,onU F⟩
theorem aaN (m:Nat):∀n,HO N61 (RO (C4 m n)):=an ae Sx.right (fun k=>[RO k]) (fun k h=>(aI h az)) fun k a=>by kernel_rfl
theorem abx (m:Nat):∀n,HO N61 (Rn (y5 m n)):=an ae Sx.right (fun k=>[Rn k,RO (C4 m m)]) (fun k h=>(aI h (aI (aaN m m) az))) fun k a=>by kernel_rfl
def t61 (m:Nat):cJ × LD0 × cC × LD0 × Int->OU0:=fun(a0,a1,a2,a3,a4)=>
 bif decide (a0.period>=0)then
 bif !(decide (a0.period<=600))then
 some ([.b false])
 else
 bif decide (a0.mode>=0)then
 bif !(decide (a0.mode<=2))then
 some ([.b false])
 else
 bif decide (a4>=0)then
 bif !(decide (a4<=2))then
 some ([.b false])
 else
 chk (decide (([a0.ar,a0.fU,a0.aP,a0.bc,a0.draw,a0.advance,a0.fee,a0.due,a2.eE,a2.aN,a2.bq,a2.out,a2.xD]:LI0).length<=1000000))<|
 bif !(([a0.ar,a0.fU,a0.aP,a0.bc,a0.draw,a0.advance,a0.fee,a0.due,a2.eE,a2.aN,a2.bq,a2.out,a2.xD]:LI0).all Et)then
 some ([.b false])
 else
 bif (decide ((a1.length:Int)>160))then
 some ([.b false])
 else
 bif (decide ((a3.length:Int)>8))then
 some ([.b false])
 else
 y5 m m (a1,(a1.length:Int),0,a0,a1,a2,a3,a4)
 else
 some ([.b false])
 else
 some ([.b false])
 else
 some ([.b false])
theorem Uk (m:Nat):∀(rest pre:LD0) (n:Nat),rest.length<n->(pre++rest).length<=1000000->C4 m n (pre++rest,((pre++rest).length:Int),(pre.length:Int))=some [.b (rest.all wO)]:=by
 intro rest
 induction rest with
 |nil=>
  intro pre n hn hl;obtain⟨n,rfl⟩:=ah n (by simp at hn;omega);rw[Aj];unfold EG;dsimp only;rw[ay (by simp)];rfl
 |cons x rest ih=>
  intro pre n hn hl;obtain⟨n,rfl⟩:=ah n (by simp at hn;omega);simp only[zac,zab]at hn hl;rw[Aj];unfold EG;dsimp only;rw[aL (by simp only[zab,zac];omega),bQ (by omega) (by simp only[zab,zac];omega),aJ (by simp)];have hx:ai (pre++x::rest) (pre.length:Int).toNat=x:=by simp[ai]
  have:=ih (pre++[x]) n (by omega) (by simp;omega);have e:w64 ((pre.length:Int)+1)=((pre++[x]).length:Int):=by
   rw[aa (by omega) (by omega)];simp
  have e3:pre++x::rest=(pre++[x])++rest:=by simp
  rw[hx];dsimp only[lt];refine al rfl ?_
  rw[cond_not,e,e3,this,qM];simp only[List.all_cons,wO]
theorem VD (m:Nat) (ra:cJ) (xp:LD0) (rb:cC) (notes:LD0) (xn:Int) (hm:notes.length<m) (hn9:notes.length<=1000000):∀(rest pre:LD0) (n:Nat),rest.length<n->(pre++rest).length<=1000000->y5 m n (pre++rest,((pre++rest).length:Int),(pre.length:Int),ra,xp,rb,notes,xn)=some [.b (rest.all Av&&notes.all wO)]:=by
 intro rest
 induction rest with
 |nil=>
  intro pre n hn hl;obtain⟨n,rfl⟩:=ah n (by simp at hn;omega);rw[By];unfold D3;dsimp only;rw[ay (by simp)];exact Uk m notes [] m hm hn9
 |cons x rest ih=>
  intro pre n hn hl;obtain⟨n,rfl⟩:=ah n (by simp at hn;omega);simp only[zac,zab]at hn hl;rw[By];unfold D3;dsimp only;rw[aL (by simp only[zab,zac];omega),bQ (by omega) (by simp only[zab,zac];omega),aJ (by simp)];have hx:ai (pre++x::rest) (pre.length:Int).toNat=x:=by simp[ai]
  have:=ih (pre++[x]) n (by omega) (by simp;omega);have e:w64 ((pre.length:Int)+1)=((pre++[x]).length:Int):=by
   rw[aa (by omega) (by omega)];simp
  have e3:pre++x::rest=(pre++[x])++rest:=by simp
  rw[hx];dsimp only[lt];rw[e,e3,this];simp only[Hn,qM,List.all_cons,Av,Bool.and_assoc]
def f61:cJ × LD0 × cC × LD0 × Int->Bool × List Un:=fun(a0,a1,a2,a3,a4)=>(decide (a1.length<=1000000)&&decide (a3.length<=1000000),[.b ((fB a0 a1 a2 a3 a4))])
theorem Ut:ER 61 (mkE N61.en N61.ex f61):=ak ae Sx.right (fun m=>[Rn (y5 m m)]) (t:=t61) (by kernel_rfl) (fun m=>(aI (abx m m) az)) (fun m a=>by kernel_rfl) fun(a0,a1,a2,a3,a4) hc=>by
 dsimp only[f61]at hc⊢;have hc':=hc;simp only[zae,zag]at hc';obtain⟨h1,h2⟩:=hc';refine⟨a1.length+a3.length+1, ?_⟩;have this:y5 (a1.length+a3.length+1) (a1.length+a3.length+1) (a1,(a1.length:Int),0,a0,a1,a2,a3,a4)=some [.b (a1.all Av&&a3.all wO)]:=VD (a1.length+a3.length+1) a0 a1 a2 a3 a4 (by omega) h2 a1 [] (a1.length+a3.length+1) (by omega) (by simpa using h1);unfold t61;dsimp only;rw[this];simp only[Hn,cond_not,FG];rw[show(decide (([a0.ar,a0.fU,a0.aP,a0.bc,a0.draw,a0.advance,a0.fee,a0.due,a2.eE,a2.aN,a2.bq,a2.out,a2.xD]:LI0).length<=1000000))=true from rfl];simp only[chk,zaw,qM,fB,zH,Bool.and_assoc]
def T61:TB:=Sx.ad Ut
def eV (d:Dat):LI0:=[d.i 0,d.i 1,d.i 2,d.i 3]
def lx (d:Dat):LI0:=[d.i 0,d.i 1,d.i 2]
def mO (ra:cJ) (bm:LD0) (rb:cC) (next:Int):LI0:=[bI ra.call,ra.period,ra.mode,ra.ar,ra.fU,ra.aP,ra.bc,ra.draw,ra.advance,ra.fee,ra.due,rb.eE,rb.aN,rb.bq,rb.out,rb.xD,next,(bm.length:Int)]
def nJ (ra:cJ) (bm:LD0) (rb:cC) (notes:LD0) (next:Int):LI0:=mO ra bm rb next++(bm.flatMap eV++((notes.length:Int)::notes.flatMap lx))
def jj (ra:cJ) (bm:LD0) (rb:cC) (notes:LD0) (next:Int):LI0:=bif fB ra bm rb notes next then cQ (nJ ra bm rb notes next)else[]
def N99:aA:=⟨T61.tab,99,⟨[.agg [.bool,.z0,.z0,.z0,.z0,.z0,.z0,.z0,.z0,.z0,.z0,.ab (sI 4),.z0,.z0,.z0,.z0,.z0,.ab (sI 3),.z0]],[],0⟩,⟨[.buf 0 1],[.ints .u8],0⟩,[]⟩
abbrev K7:Type:=LD0 × Int × Int × LI0
abbrev Lo:Type:=LD0 × Int × Int × cJ × LD0 × cC × LD0 × Int × LI0
def D7 (m:Nat) (k:K7->OU0):K7->OU0:=fun(a0,a1,a2,a3)=>
 bif decide (a2<a1)then
 chk (inb a2 a0.length)<|
 chk (decide (a2.toNat<a0.length))<|
 lt (ai a0 a2.toNat:Dat) fun d4=>
 chk (fits (a3.length+3) 8)<|
 k (a0,a1,(w64 (a2+1)),(a3++([(d4.i 0),(d4.i 1),(d4.i 2)])))
 else
 chk (decide (a3.length<=1000000))<|
 some ([.l (cQ a3)])
def CT (m:Nat):Nat->K7->OU0:=aZ (D7 m)
theorem AI (m:Nat) (n:Nat):CT m (n+1)=D7 m (CT m n):=rfl
def PO (F:K7->OU0):aQ:=⟨[.lp [0,1,0,1,1,1,1,1,1,1,1],.blk 2,.code [1,1,1,1,1,1,1,1,1]],⟨frm 69 [(4,.buf 0 1),(57,.ab (sI 3)),(58,.z0),(59,.z0)],[.ints .i64],0⟩,onU F⟩
def DC (m:Nat) (k:Lo->OU0):Lo->OU0:=fun(a0,a1,a2,a3,a4,a5,a6,a7,a8)=>
 bif decide (a2<a1)then
 chk (inb a2 a0.length)<|
 chk (decide (a2.toNat<a0.length))<|
 lt (ai a0 a2.toNat:Dat) fun d1=>
 chk (fits (a8.length+4) 8)<|
 k (a0,a1,(w64 (a2+1)),a3,a4,a5,a6,a7,(a8++([(d1.i 0),(d1.i 1),(d1.i 2),(d1.i 3)])))
 else
 chk (fits (a8.length+1) 8)<|
 CT m m (a6,(a6.length:Int),0,(a8++([(a6.length:Int)])))
def wa (m:Nat):Nat->Lo->OU0:=aZ (DC m)
theorem zf (m:Nat) (n:Nat):wa m (n+1)=DC m (wa m n):=rfl
def R5 (F:Lo->OU0):aQ:=⟨[.lp [0,1,0,1,1,1,1,1,1],.blk 0,.code [1,1,1,1,1,1,1]],⟨frm 69 [(1,.ptr 0 0 0),(4,.buf 1 1),(32,.ab (sI 4)),(33,.z0),(34,.z0)],[.cells [.bool,.z0,.z0,.z0,.z0,.z0,.z0,.z0,.z0,.z0,.z0,.ab (sI 4),.z0,.z0,.z0,.z0,.z0,.ab (sI 3),.z0],.ints .i64],0⟩,onU F⟩
theorem acB (m:Nat):∀n,HO N99 (PO (CT m n)):=an ae T61.right (fun k=>[PO k]) (fun k h=>(aI h az)) fun k a=>by kernel_rfl
theorem aco (m:Nat):∀n,HO N99 (R5 (wa m n)):=an ae T61.right (fun k=>[R5 k,PO (CT m m)]) (fun k h=>(aI h (aI (acB m m) az))) fun k a=>by kernel_rfl
def t99 (m:Nat):cJ × LD0 × cC × LD0 × Int->OU0:=fun(a0,a1,a2,a3,a4)=>
 chk (decide (a1.length<=1000000)&&decide (a3.length<=1000000))<|
 bif !(fB a0 a1 a2 a3 a4)then
 some ([.l ([])])
 else
 bif a0.call then
 wa m m (a1,(a1.length:Int),0,a0,a1,a2,a3,a4,([1,a0.period,a0.mode,a0.ar,a0.fU,a0.aP,a0.bc,a0.draw,a0.advance,a0.fee,a0.due,a2.eE,a2.aN,a2.bq,a2.out,a2.xD,a4,(a1.length:Int)]:LI0))
 else
 wa m m (a1,(a1.length:Int),0,a0,a1,a2,a3,a4,([0,a0.period,a0.mode,a0.ar,a0.fU,a0.aP,a0.bc,a0.draw,a0.advance,a0.fee,a0.due,a2.eE,a2.aN,a2.bq,a2.out,a2.xD,a4,(a1.length:Int)]:LI0))
theorem aaP (m:Nat):∀(rest pre:LD0) (acc:LI0) (n:Nat),rest.length<n->(pre++rest).length<=8->acc.length+3*rest.length<=1000->CT m n (pre++rest,((pre++rest).length:Int),(pre.length:Int),acc)=some [.l (cQ (acc++rest.flatMap lx))]:=by
 intro rest
 induction rest with
 |nil=>
  intro pre acc n hn hl ha;obtain⟨n,rfl⟩:=ah n (by simp at hn;omega);rw[AI];unfold D7;dsimp only;rw[ay (by simp)];refine(al (zaa (by simp at ha;omega)) rfl).trans ?_
  simp
 |cons x rest ih=>
  intro pre acc n hn hl ha;obtain⟨n,rfl⟩:=ah n (by simp at hn;omega);simp only[zac,zab]at hn hl ha;rw[AI];unfold D7;dsimp only;rw[aL (by simp only[zab,zac];omega),bQ (by omega) (by simp only[zab,zac];omega),aJ (by simp)];have hx:ai (pre++x::rest) (pre.length:Int).toNat=x:=by simp[ai]
  have:=ih (pre++[x]) (acc++lx x) n (by omega) (by simp;omega) (by simp[lx];omega);have e:w64 ((pre.length:Int)+1)=((pre++[x]).length:Int):=by
   rw[aa (by omega) (by omega)];simp
  have e3:pre++x::rest=(pre++[x])++rest:=by simp
  rw[hx];dsimp only[lt];rw[bD (by omega) (by omega),e,e3];refine Eq.trans this ?_
  simp
theorem ab7 (m:Nat) (ra:cJ) (xp:LD0) (rb:cC) (notes:LD0) (xn:Int) (hm:notes.length<m) (h8:notes.length<=8):∀(rest pre:LD0) (acc:LI0) (n:Nat),rest.length<n->(pre++rest).length<=160->acc.length+4*rest.length<=700->wa m n (pre++rest,((pre++rest).length:Int),(pre.length:Int),ra,xp,rb,notes,xn,acc)=some [.l (cQ (acc++(rest.flatMap eV++((notes.length:Int)::notes.flatMap lx))))]:=by
 intro rest
 induction rest with
 |nil=>
  intro pre acc n hn hl ha;obtain⟨n,rfl⟩:=ah n (by simp at hn;omega);rw[zf];unfold DC;dsimp only;rw[ay (by simp)];simp only[zar]at ha;rw[bD (by omega) (by omega)];have:=aaP m notes [] (acc++[(notes.length:Int)]) m hm (by simpa using h8) (by simp;omega);refine Eq.trans this ?_
  simp
 |cons x rest ih=>
  intro pre acc n hn hl ha;obtain⟨n,rfl⟩:=ah n (by simp at hn;omega);simp only[zac,zab]at hn hl ha;rw[zf];unfold DC;dsimp only;rw[aL (by simp only[zab,zac];omega),bQ (by omega) (by simp only[zab,zac];omega),aJ (by simp)];have hx:ai (pre++x::rest) (pre.length:Int).toNat=x:=by simp[ai]
  have:=ih (pre++[x]) (acc++eV x) n (by omega) (by simp;omega) (by simp[eV];omega);have e:w64 ((pre.length:Int)+1)=((pre++[x]).length:Int):=by
   rw[aa (by omega) (by omega)];simp
  have e3:pre++x::rest=(pre++[x])++rest:=by simp
  rw[hx];dsimp only[lt];rw[bD (by omega) (by omega),e,e3];refine Eq.trans this ?_
  simp
def f99:cJ × LD0 × cC × LD0 × Int->Bool × List Un:=fun(a0,a1,a2,a3,a4)=>(decide (a1.length<=1000000)&&decide (a3.length<=1000000),[.l (jj a0 a1 a2 a3 a4)])
theorem TS:ER 99 (mkE N99.en N99.ex f99):=ak ae T61.right (fun m=>[R5 (wa m m)]) (t:=t99) (by kernel_rfl) (fun m=>(aI (aco m m) az)) (fun m a=>by kernel_rfl) fun(a0,a1,a2,a3,a4) hc=>by
 dsimp only[f99]at hc⊢;refine⟨200, ?_⟩;unfold t99 jj;refine al hc ?_
 cases hr:fB a0 a1 a2 a3 a4 with
 |false=>rfl
 |true=>
  have hb:a1.length<=160/\a3.length<=8:=by
   unfold fB at hr;simp only[zae,zag]at hr;omega
  have key:∀c:Int,wa 200 200 (a1,(a1.length:Int),0,a0,a1,a2,a3,a4,([c,a0.period,a0.mode,a0.ar,a0.fU,a0.aP,a0.bc,a0.draw,a0.advance,a0.fee,a0.due,a2.eE,a2.aN,a2.bq,a2.out,a2.xD,a4,(a1.length:Int)]:LI0))=some [.l (cQ (([c,a0.period,a0.mode,a0.ar,a0.fU,a0.aP,a0.bc,a0.draw,a0.advance,a0.fee,a0.due,a2.eE,a2.aN,a2.bq,a2.out,a2.xD,a4,(a1.length:Int)]:LI0)++(a1.flatMap eV++((a3.length:Int)::a3.flatMap lx))))]:=fun c=>
   ab7 200 a0 a1 a2 a3 a4 (by omega) hb.2 a1 [] _ 200 (by omega) (by simpa using hb.1) (by simp;omega)
  refine cm rfl ?_
  unfold nJ mO;cases MT:a0.call with
  |true=>exact key 1
  |false=>exact key 0
def T99:TB:=T61.ad TS
structure NL where
 ra:cJ
 rb:cC
 next:Int
 ok:Bool
 bm:List Dat
 notes:List Dat
def Sl:NL:=⟨⟨false,0,0,0,0,0,0,0,0,0,0⟩,⟨0,0,0,0,0⟩,0,false,[],[]⟩
def yu (l:LI0):NL:=
 let r:=iO 0 (l.length:Int) false l
 bif !r.r.bad&&r.r.n==0 then(bif fB r.ra r.bm r.rb r.notes r.next then⟨r.ra,r.rb,r.next,true,r.bm,r.notes⟩else Sl)else Sl
def ig (xs:LI0):NL:=bif xs.length%8==0 then yu (bX xs)else Sl
def N19:aA:=⟨T99.tab,19,⟨[.ints .u8],[],0⟩,⟨[.agg [.bool,.z0,.z0,.z0,.z0,.z0,.z0,.z0,.z0,.z0,.z0,.buf 0 4,.z0,.z0,.z0,.z0,.z0,.buf 1 3,.z0],.bool],[.ab (sI 4),.ab (sI 3)],0⟩,[]⟩
def t19 (m:Nat):LI0->OU0:=fun a0=>
 chk (decide (a0.length<=140737488351232))<|
 bif !(a0.length%8==0)then
 some (Uns.enc ((⟨false,0,0,0,0,0,0,0,0,0,0⟩:cJ):cJ)++Uns.enc ((⟨0,0,0,0,0⟩:cC):cC)++[.i 0,.b false,.d ([]),.d ([])])
 else
 chk (decide ((fo a0).length<1000000))<|
 lt (((fo a0).length:Int):Int) fun x1=>
 chk (decide ((0:Int).toNat+(x1.toNat:Int).toNat<=(fo a0).length))<|
 bd ((iO 0 (x1.toNat:Int) false (fo a0)):ML) fun r2=>
 bif !(!r2.r.bad&&((r2.r.n.toNat:Int).toNat:Int)==0)then
 some (Uns.enc ((⟨false,0,0,0,0,0,0,0,0,0,0⟩:cJ):cJ)++Uns.enc ((⟨0,0,0,0,0⟩:cC):cC)++[.i 0,.b false,.d ([]),.d ([])])
 else
 chk (decide (r2.bm.length<=1000000)&&decide (r2.notes.length<=1000000))<|
 bif !(fB r2.ra r2.bm r2.rb r2.notes r2.next)then
 some (Uns.enc ((⟨false,0,0,0,0,0,0,0,0,0,0⟩:cJ):cJ)++Uns.enc ((⟨0,0,0,0,0⟩:cC):cC)++[.i 0,.b false,.d ([]),.d ([])])
 else
 some (Uns.enc (r2.ra:cJ)++Uns.enc (r2.rb:cC)++[.i r2.next,.b true,.d r2.bm,.d r2.notes])
theorem qH (xs:LI0):(bX xs).length=xs.length/8:=by simp[bX]
theorem Cm:∀(k:Nat) (r:RdR),(mR k r).1.length=k
 |0,r=>rfl
 |k+1,r=>by simp only[mR,zac,Cm k]
theorem Di:∀(k:Nat) (r:RdR),(fc k r).1.length=k
 |0,r=>rfl
 |k+1,r=>by simp only[fc,zac,Di k]
theorem V0 {o n:Int} {b:Bool} {l:LI0} (h:o.toNat+n.toNat<=l.length):RdI (iO o n b l).r/\(iO o n b l).bm.length<=160/\(iO o n b l).notes.length<=8:=by
 have i1:RdI (rdM o n b l 1):=Qq h;have i17:=bK (bK (bK (bK (bK (bK (bK (bK (bK (bK (bK (bK (bK (bK (bK (bK i1)))))))))))))));have i18:=uE (most:=160) i17;unfold iO;dsimp only;generalize nx (nx (nx (nx (nx (nx (nx (nx (nx (nx (nx (nx (nx (nx (nx (nx (rdM o n b l 1))))))))))))))))=r17 at*
 have hv:0<=(mx r17 160).v/\(mx r17 160).v<=160:=Hi (by decide);have iP:=LM (mx r17 160).v.toNat i18;have i24:=uE (most:=8) iP;have hw:0<=(mx (mR (mx r17 160).v.toNat (mx r17 160)).2 8).v/\(mx (mR (mx r17 160).v.toNat (mx r17 160)).2 8).v<=8:=Hi (by decide);refine⟨Fx _ i24, ?_, ?_⟩
 . rw[Cm];omega
 . rw[Di];omega
def f19:LI0->Bool × List Un:=fun a0=>(decide (a0.length<=1000000),Uns.enc (((ig a0).ra):cJ)++Uns.enc (((ig a0).rb):cC)++[.i ((ig a0).next),.b ((ig a0).ok),.d ((ig a0).bm),.d ((ig a0).notes)])
theorem LV:ER 19 (mkE N19.en N19.ex f19):=ak ae T99.right (fun m=>[]) (t:=t19) (by kernel_rfl) (fun m=>az) (fun m a=>by kernel_rfl) fun a0 hc=>by
 dsimp only[f19]at hc⊢;have hl:=zaj hc;refine⟨0, ?_⟩;unfold t19 ig;refine al (zaa (by omega)) ?_
 cases h8:(a0.length%8==0)with
 |false=>rfl
 |true=>
  have e:fo a0=bX a0:=by unfold fo;rw[h8];rfl
  rw[e];have hw:=qH a0;refine cm rfl (al (zaa (by omega)) ?_);dsimp only[lt,bd];refine al (zaa (by simp)) ?_
  rw[show(((bX a0).length:Int).toNat:Int)=((bX a0).length:Int) from rfl];obtain⟨hI,hp,hn⟩:=V0 (o:=0) (n:=((bX a0).length:Int)) (b:=false) (l:=bX a0) (by simp);rw[zaw];unfold yu;dsimp only;generalize iO 0 ((bX a0).length:Int) false (bX a0)=r at*
  rw[show((r.r.n.toNat:Int).toNat:Int)=r.r.n from hI.2.1];cases hb:(!r.r.bad&&r.r.n==0)with
  |false=>rfl
  |true=>
   refine cm rfl (al (zaG.2 ⟨zaa (by omega),zaa (by omega)⟩) ?_);cases hr:fB r.ra r.bm r.rb r.notes r.next with
   |false=>rfl
   |true=>rfl
def T19:TB:=T99.ad LV
def ae2:NL->List Un:=fun r=>Uns.enc (r.ra:cJ)++Uns.enc (r.rb:cC)++[.i r.next,.b r.ok,.d r.bm,.d r.notes]
def aez:LI0->Bool × NL:=fun a0=>(decide (a0.length<=1000000),(ig a0))
theorem QV:ER 19 (mkB N19.en N19.ex aez ae2):=rebind LV fun a0=>rfl
def ae6:TB:=T19.ad QV
theorem Lb (a c:Nat) (h:c<256):(256*a)|||c=256*a+c:=by
 have:=Nat.two_pow_add_eq_or_of_lt (i:=8) (b:=c) (by simpa using h) a;simpa using this.symm
theorem qn (n c:Int) (h0:0<=c) (h1:c<256):Iw.stp n c=RowKit.wrap64 (n*256+c):=by
 unfold Iw.stp Go.bits;simp only[RowKit.wrap64];rw[IntKind.wrap_i64,BitVec.toNat_or,zbB,zbB];rw[show((2^IntKind.i64.bits:Nat):Int)=18446744073709551616 from rfl];have e1:(((n*256+9223372036854775808)%18446744073709551616-9223372036854775808)%18446744073709551616).toNat=256*(n%72057594037927936).toNat:=by omega
 have e2:(((c+9223372036854775808)%18446744073709551616-9223372036854775808)%18446744073709551616).toNat=c.toNat:=by omega
 rw[e1,e2,Lb _ _ (by omega)];omega
theorem Rg {n:Int} (h: -9223372036854775808<=n/\n<=9223372036854775807) (f:Nat->Int) (hf:∀i,i<8->f i=(qi n).getD i 0):Iw.val f 8=n:=by
 have b0:=hf 0 (by decide);have b1:=hf 1 (by decide);have b2:=hf 2 (by decide);have b3:=hf 3 (by decide);have b4:=hf 4 (by decide);have b5:=hf 5 (by decide);have b6:=hf 6 (by decide);have b7:=hf 7 (by decide);simp only[qi,zaO,zaE]at b0 b1 b2 b3 b4 b5 b6 b7;have u8:∀x:Int,wu8 x=x%256:=fun x=>by show IntKind.u8.wrap x=_;simp[IntKind.wrap,IntKind.bits,IntKind.signed]
 rw[u8]at b0 b1 b2 b3 b4 b5 b6 b7;have fd:∀(x k:Int),0<k->Int.fdiv x k=x/k:=fun x k hk=>Int.fdiv_eq_ediv_of_nonneg _ (by omega)
 rw[fd _ _ (by decide)]at b0 b1 b2 b3 b4 b5 b6 b7;simp only[Iw.val,b0,b1,b2,b3,b4,b5,b6,b7];rw[qn _ _ (by omega) (by omega),qn _ _ (by omega) (by omega),qn _ _ (by omega) (by omega),qn _ _ (by omega) (by omega),qn _ _ (by omega) (by omega),qn _ _ (by omega) (by omega),qn _ _ (by omega) (by omega),qn _ _ (by omega) (by omega)];simp only[RowKit.wrap64];omega
theorem qI (n:Int):(qi n).length=8:=rfl
theorem gB (l:LI0):(cQ l).length=8*l.length:=by
 induction l with
 |nil=>rfl
 |cons x l ih=>simp only[cQ,zaX,zab,qI,zac]at ih⊢;omega
theorem Cg:∀(l:LI0) (k i:Nat),k<l.length->i<8->(cQ l).getD (k*8+i) 0=(qi (l.getD k 0)).getD i 0
 |[],k,i,h,_=>by simp at h
 |x::l,0,i,_,hi=>by
  simp only[cQ,zaX,zca,zaF,zaf,zbu,zbD];rw[zax (by rw[qI];exact hi)]
 |x::l,k+1,i,h,hi=>by
  have:=Cg l k i (by simpa using h) hi;simp only[cQ,zaX,zaE,zaf]at this⊢;rw[zaK (by rw[qI];omega),qI,show(k+1)*8+i-8=k*8+i by omega];exact this
theorem vq {l:LI0} (h:∀n∈l,-9223372036854775808<=n/\n<=9223372036854775807):bX (cQ l)=l:=by
 have hl:(cQ l).length/8=l.length:=by rw[gB];omega
 apply List.ext_getElem
 . rw[qH,hl]
 . intro k h1 h2;have e0:(bX (cQ l))[k]=Iw.val (fun i=>(cQ l).getD (k*8+i) 0) 8:=by simp[bX]
   rw[e0];have e:=Rg (h l[k] (zbw h2)) (fun i=>(cQ l).getD (k*8+i) 0) (fun i hi=>by
    show(cQ l).getD (k*8+i) 0=_;rw[Cg l k i h2 hi];simp[h2])
   exact e
def rdS (l:LI0) (k:Nat) (v:Int):RdR:=⟨v,(k:Int),((l.length-k:Nat):Int),false,l⟩
theorem zF {l:LI0} {k:Nat} (v:Int) (h:k<l.length):nx (rdS l k v)=rdS l (k+1) (l.getD k 0):=by
 unfold nx rdN rdS;have e:(((((l.length-k:Nat):Int).toNat:Nat):Int)==0)=false:=by
  rw[zbU];simp;omega
 rw[zcj,e,zal];simp only[zau];rw[show l.length-k-1=l.length-(k+1) by omega]
theorem Vd {l:LI0} {k:Nat} (v most:Int) (h:k<l.length) (h0:0<=l.getD k 0) (h1:l.getD k 0<=most):mx (rdS l k v) most=rdS l (k+1) (l.getD k 0):=by
 have:=zF v h;unfold nx at this;unfold mx rdM;dsimp only;rw[this];rw[show(rdS l (k+1) (l.getD k 0)).v=l.getD k 0 from rfl,zan (show ¬l.getD k 0<0 by omega),zan (show ¬l.getD k 0>most by omega)];rfl
def nrP (d:Dat):Dat:= .r [.n (d.i 0),.n (d.i 1),.n (d.i 2),.n (d.i 3)]
def nrN (d:Dat):Dat:= .r [.n (d.i 0),.n (d.i 1),.n (d.i 2)]
theorem br (A:LI0) (x:Int) (B:LI0):(A++x::B).getD A.length 0=x:=by simp
theorem LF (l:LI0):∀(bm:LD0) (A B:LI0) (v:Int),l=A++(bm.flatMap eV++B)->∃v',mR bm.length (rdS l A.length v)=(bm.map nrP,rdS l (A.length+4*bm.length) v')
 |[],A,B,v,_=>⟨v,rfl⟩
 |d::bm,A,B,v,h=>by
  have hl:l=A++(d.i 0::d.i 1::d.i 2::d.i 3::(bm.flatMap eV++B)):=by rw[h];simp[eV]
  have hlen:l.length=A.length+4+(bm.flatMap eV++B).length:=by rw[hl];simp only[zab,zac];omega
  have g0:l.getD A.length 0=d.i 0:=by rw[hl];exact br _ _ _
  have g1:l.getD (A.length+1) 0=d.i 1:=by
   rw[hl,show A++(d.i 0::d.i 1::d.i 2::d.i 3::(bm.flatMap eV++B))=(A++[d.i 0])++(d.i 1::d.i 2::d.i 3::(bm.flatMap eV++B)) by simp];rw[show A.length+1=(A++[d.i 0]).length by simp];exact br _ _ _
  have g2:l.getD (A.length+1+1) 0=d.i 2:=by
   rw[hl,show A++(d.i 0::d.i 1::d.i 2::d.i 3::(bm.flatMap eV++B))=(A++[d.i 0,d.i 1])++(d.i 2::d.i 3::(bm.flatMap eV++B)) by simp];rw[show A.length+1+1=(A++[d.i 0,d.i 1]).length by simp];exact br _ _ _
  have g3:l.getD (A.length+1+1+1) 0=d.i 3:=by
   rw[hl,show A++(d.i 0::d.i 1::d.i 2::d.i 3::(bm.flatMap eV++B))=(A++[d.i 0,d.i 1,d.i 2])++(d.i 3::(bm.flatMap eV++B)) by simp];rw[show A.length+1+1+1=(A++[d.i 0,d.i 1,d.i 2]).length by simp];exact br _ _ _
  obtain⟨v',ih⟩:=LF l bm (A++eV d) B (d.i 3) (by rw[h];simp);rw[show(A++eV d).length=A.length+1+1+1+1 by simp[eV]]at ih;refine⟨v', ?_⟩;simp only[zac,mR];rw[zF v (by omega),g0,zF _ (by omega),g1,zF _ (by omega),g2,zF _ (by omega),g3,ih];simp only[zaS,nrP];rw[show A.length+1+1+1+1+4*bm.length=A.length+4*(bm.length+1) by omega];rfl
theorem LS (l:LI0):∀(ns:LD0) (A B:LI0) (v:Int),l=A++(ns.flatMap lx++B)->∃v',fc ns.length (rdS l A.length v)=(ns.map nrN,rdS l (A.length+3*ns.length) v')
 |[],A,B,v,_=>⟨v,rfl⟩
 |d::ns,A,B,v,h=>by
  have hl:l=A++(d.i 0::d.i 1::d.i 2::(ns.flatMap lx++B)):=by rw[h];simp[lx]
  have hlen:l.length=A.length+3+(ns.flatMap lx++B).length:=by rw[hl];simp only[zab,zac];omega
  have g0:l.getD A.length 0=d.i 0:=by rw[hl];exact br _ _ _
  have g1:l.getD (A.length+1) 0=d.i 1:=by
   rw[hl,show A++(d.i 0::d.i 1::d.i 2::(ns.flatMap lx++B))=(A++[d.i 0])++(d.i 1::d.i 2::(ns.flatMap lx++B)) by simp];rw[show A.length+1=(A++[d.i 0]).length by simp];exact br _ _ _
  have g2:l.getD (A.length+1+1) 0=d.i 2:=by
   rw[hl,show A++(d.i 0::d.i 1::d.i 2::(ns.flatMap lx++B))=(A++[d.i 0,d.i 1])++(d.i 2::(ns.flatMap lx++B)) by simp];rw[show A.length+1+1=(A++[d.i 0,d.i 1]).length by simp];exact br _ _ _
  obtain⟨v',ih⟩:=LS l ns (A++lx d) B (d.i 2) (by rw[h];simp);rw[show(A++lx d).length=A.length+1+1+1 by simp[lx]]at ih;refine⟨v', ?_⟩;simp only[zac,fc];rw[zF v (by omega),g0,zF _ (by omega),g1,zF _ (by omega),g2,ih];simp only[zaS,nrN];rw[show A.length+1+1+1+3*ns.length=A.length+3*(ns.length+1) by omega];rfl
theorem Gy {ra:cJ} {bm:LD0} {rb:cC} {notes:LD0} {next:Int} (hr:fB ra bm rb notes next=true):yu (nJ ra bm rb notes next)=⟨ra,rb,next,true,bm.map nrP,notes.map nrN⟩:=by
 have hb:bm.length<=160/\notes.length<=8:=by
  unfold fB at hr;simp only[zae,zag]at hr;omega
 generalize hl:nJ ra bm rb notes next=l;have hlen:l.length=18+(4*bm.length+(1+3*notes.length)):=by
  have h1:∀p:LD0,(p.flatMap eV).length=4*p.length:=fun p=>by
   induction p with
   |nil=>rfl
   |cons x p ih=>simp only[zaX,zab,ih,eV,zac,zar];omega
  have h2:∀p:LD0,(p.flatMap lx).length=3*p.length:=fun p=>by
   induction p with
   |nil=>rfl
   |cons x p ih=>simp only[zaX,zab,ih,lx,zac,zar];omega
  rw[<-hl];simp only[nJ,mO,zab,zac,zar,h1,h2];omega
 have s0:(⟨0,0,(l.length:Int),false,l⟩:RdR)=rdS l 0 0:=rfl;have hd:∀i,i<18->l.getD i 0=(mO ra bm rb next).getD i 0:=fun i hi=>by
  rw[<-hl];unfold nJ;simp only[zaf];rw[zax (by simpa[mO]using hi)]
 have m1:rdM 0 (l.length:Int) false l 1=rdS l 1 (bI ra.call):=by
  have e:l.getD 0 0=bI ra.call:=hd 0 (by omega);have:=Vd (l:=l) (k:=0) 0 1 (by omega) (by rw[e];cases ra.call<;>decide) (by rw[e];cases ra.call<;>decide);rw[e]at this;exact this
 have nxk:∀(k:Nat) (v:Int),k<18->nx (rdS l k v)=rdS l (k+1) ((mO ra bm rb next).getD k 0):=fun k v hk=>by rw[zF v (by omega),hd k hk]
 have m18:mx (rdS l 17 next) 160=rdS l 18 (bm.length:Int):=by
  have e:l.getD 17 0=(bm.length:Int):=hd 17 (by omega);have:=Vd (l:=l) (k:=17) next 160 (by omega) (by rw[e];omega) (by rw[e];omega)
  rwa [e]at this
 have h1:∀p:LD0,(p.flatMap eV).length=4*p.length:=fun p=>by
  induction p with
  |nil=>rfl
  |cons x p ih=>simp only[zaX,zab,ih,eV,zac,zar];omega
 obtain⟨v1,p1⟩:=LF l bm (mO ra bm rb next) ((notes.length:Int)::notes.flatMap lx) (bm.length:Int) hl.symm;have p1:mR bm.length (rdS l 18 (bm.length:Int))=(bm.map nrP,rdS l (18+4*bm.length) v1):=p1;have hA:(mO ra bm rb next++bm.flatMap eV).length=18+4*bm.length:=by rw[zab,h1];rfl
 have m24:mx (rdS l (18+4*bm.length) v1) 8=rdS l (18+4*bm.length+1) (notes.length:Int):=by
  have e:l.getD (18+4*bm.length) 0=(notes.length:Int):=by
   rw[<-hl];unfold nJ;rw[show mO ra bm rb next++(bm.flatMap eV++(notes.length:Int)::notes.flatMap lx)=(mO ra bm rb next++bm.flatMap eV)++(notes.length:Int)::notes.flatMap lx by simp,<-hA];exact br _ _ _
  have:=Vd (l:=l) (k:=18+4*bm.length) v1 8 (by omega) (by rw[e];omega) (by rw[e];omega)
  rwa [e]at this
 obtain⟨v2,p2⟩:=LS l notes (mO ra bm rb next++bm.flatMap eV++[(notes.length:Int)]) [] (notes.length:Int) (by rw[<-hl];simp[nJ]);rw[zab,hA]at p2;have p2:fc notes.length (rdS l (18+4*bm.length+1) (notes.length:Int))=(notes.map nrN,rdS l (18+4*bm.length+1+3*notes.length) v2):=p2;have key:iO 0 (l.length:Int) false l=⟨ra,rb,next,bm.map nrP,notes.map nrN,rdS l (18+4*bm.length+1+3*notes.length) v2⟩:=by
  unfold iO F6;dsimp only;rw[m1];simp(disch:=omega) only[nxk,Nat.reduceAdd];rw[show(mO ra bm rb next).getD 16 0=next from rfl,m18];rw[show(rdS l 18 (bm.length:Int)).v.toNat=bm.length from rfl,p1];dsimp only;rw[m24];rw[show(rdS l (18+4*bm.length+1) (notes.length:Int)).v.toNat=notes.length from rfl,p2];have hc:((rdS l 1 (bI ra.call)).v==1)=ra.call:=by cases h:ra.call<;>simp[rdS,bI,h]
  rw[hc];rfl
 have hq:∀d:Dat,(nrP d).i 0=d.i 0/\(nrP d).i 1=d.i 1/\(nrP d).i 2=d.i 2/\(nrP d).i 3=d.i 3:=fun d=>⟨rfl,rfl,rfl,rfl⟩
 have hr2:fB ra (bm.map nrP) rb (notes.map nrN) next=true:=by
  unfold fB at hr⊢;have a1:(bm.map nrP).all Av=bm.all Av:=by
   rw[List.all_map];rfl
  have a2:(notes.map nrN).all wO=notes.all wO:=by
   rw[List.all_map];rfl
  rw[zaU,zaU,a1,a2];exact hr
 unfold yu;rw[key];dsimp only;have hn:(rdS l (18+4*bm.length+1+3*notes.length) v2).n=0:=by
  show((l.length-(18+4*bm.length+1+3*notes.length):Nat):Int)=0;omega
 rw[hn,hr2];rfl
theorem iQ:∀(a b:LI0),gE a b=true↔a=b
 |[],[]=>by simp[gE]
 |[],_::_=>by simp[gE]
 |_::_,[]=>by simp[gE]
 |x::a,y::b=>by
  have ih:=iQ a b;simp only[gE,zae,ih,zaI,List.cons.injEq]
theorem Iy {ra:cJ} {bm:LD0} {rb:cC} {notes:LD0} {next:Int} (hr:fB ra bm rb notes next=true):∀n∈nJ ra bm rb notes next,-9223372036854775808<=n/\n<=9223372036854775807:=by
 unfold fB zH at hr;simp only[List.all_cons,List.all_nil,Et,zae,zag,zam]at hr;obtain⟨h1,h2,h3,h4,h5,h6,⟨q1,q2,q3,q4,q5,q6,q7,q8,q9,q10,q11,q12,q13,_⟩,h8,h9,h10,h11⟩:=hr;have hb:0<=bI ra.call/\bI ra.call<=1:=by cases ra.call<;>decide
 intro n hn;unfold nJ mO at hn;simp only[za0,zaN,List.mem_flatMap,zbH,or_false]at hn;rcases hn with(rfl|rfl|rfl|rfl|rfl|rfl|rfl|rfl|rfl|rfl|rfl|rfl|rfl|rfl|rfl|rfl|rfl|rfl)|⟨d,hd,hn⟩|rfl|⟨d,hd,hn⟩
 all_goals try omega
 . have hp:=h10 d hd;unfold Av at hp;simp only[zae,zag]at hp;simp only[eV,zaN,zbH,or_false]at hn;rcases hn with rfl|rfl|rfl|rfl<;>omega
 . have hp:=h11 d hd;unfold wO at hp;simp only[List.all_cons,List.all_nil,Et,zae,zag]at hp;simp only[lx,zaN,zbH,or_false]at hn;rcases hn with rfl|rfl|rfl<;>omega
theorem decode_encode {ra:cJ} {bm:LD0} {rb:cC} {notes:LD0} {next:Int} (hr:fB ra bm rb notes next=true):ig (jj ra bm rb notes next)=⟨ra,rb,next,true,bm.map nrP,notes.map nrN⟩:=by
 unfold jj;rw[hr,zaw];unfold ig;have hl:=gB (nJ ra bm rb notes next);have e:((cQ (nJ ra bm rb notes next)).length%8==0)=true:=by rw[zaI];omega
 rw[e,zaw,vq (Iy hr)];exact Gy hr
theorem KA {ra:cJ} {bm:LD0} {rb:cC} {notes:LD0} {next:Int} (hr:fB ra bm rb notes next=false):jj ra bm rb notes next=[]:=by unfold jj;rw[hr];rfl
theorem DW {ra:cJ} {bm:LD0} {rb:cC} {notes:LD0} {next:Int} (hr:fB ra bm rb notes next=true):0<(jj ra bm rb notes next).length/\(jj ra bm rb notes next).length<=6000:=by
 have hb:bm.length<=160/\notes.length<=8:=by
  unfold fB at hr;simp only[zae,zag]at hr;omega
 unfold jj;rw[hr,zaw,gB];have h1:∀p:LD0,(p.flatMap eV).length=4*p.length:=fun p=>by
  induction p with
  |nil=>rfl
  |cons x p ih=>simp only[zaX,zab,ih,eV,zac,zar];omega
 have h2:∀p:LD0,(p.flatMap lx).length=3*p.length:=fun p=>by
  induction p with
  |nil=>rfl
  |cons x p ih=>simp only[zaX,zab,ih,lx,zac,zar];omega
 simp only[nJ,mO,zab,zac,zar,h1,h2];omega
def aeR:Int × LD0 × av × aw × aq × LD0 × LD0 × LD0 × LD0 × LD0 × LD0 × LD0->Bool × List Un:=fun(a0,a1,a2,a3,a4,a5,a6,a7,a8,a9,a10,a11)=>(decide (0<=a0)&&la (⟨a2,a3,a4,a5,a6,a7,a8,a9,a10,a11⟩:af),Uns.enc ((aH (⟨a2,a3,a4,a5,a6,a7,a8,a9,a10,a11⟩:af) a1).ra:cJ)++[.d ((aH (⟨a2,a3,a4,a5,a6,a7,a8,a9,a10,a11⟩:af) a1).bm)]++Uns.enc ((aH (⟨a2,a3,a4,a5,a6,a7,a8,a9,a10,a11⟩:af) a1).rb:cC)++[.d ((aH (⟨a2,a3,a4,a5,a6,a7,a8,a9,a10,a11⟩:af) a1).notes),.i ((aH (⟨a2,a3,a4,a5,a6,a7,a8,a9,a10,a11⟩:af) a1).next),.i ((aH (⟨a2,a3,a4,a5,a6,a7,a8,a9,a10,a11⟩:af) a1).e)]++Uns.enc ((aH (⟨a2,a3,a4,a5,a6,a7,a8,a9,a10,a11⟩:af) a1).t.a:av)++Uns.enc ((aH (⟨a2,a3,a4,a5,a6,a7,a8,a9,a10,a11⟩:af) a1).t.b:aw)++Uns.enc ((aH (⟨a2,a3,a4,a5,a6,a7,a8,a9,a10,a11⟩:af) a1).t.n:aq)++[.d ((aH (⟨a2,a3,a4,a5,a6,a7,a8,a9,a10,a11⟩:af) a1).t.aC),.d ((aH (⟨a2,a3,a4,a5,a6,a7,a8,a9,a10,a11⟩:af) a1).t.notes),.d ((aH (⟨a2,a3,a4,a5,a6,a7,a8,a9,a10,a11⟩:af) a1).t.s0),.d ((aH (⟨a2,a3,a4,a5,a6,a7,a8,a9,a10,a11⟩:af) a1).t.s1),.d ((aH (⟨a2,a3,a4,a5,a6,a7,a8,a9,a10,a11⟩:af) a1).t.s2),.d ((aH (⟨a2,a3,a4,a5,a6,a7,a8,a9,a10,a11⟩:af) a1).t.aN),.d ((aH (⟨a2,a3,a4,a5,a6,a7,a8,a9,a10,a11⟩:af) a1).t.tr)])
def ac8:Pn:=⟨[.agg [.bool,.z0,.z0,.z0,.z0,.z0,.z0,.z0,.z0,.z0,.z0,.ab (sI 4),.z0,.z0,.z0,.z0,.z0,.ab (sI 3),.z0],.z0],[.cells [.z0,.z0,.z0,.buf 9 2,.buf 10 3,.z0,.z0,.z0,.z0,.z0,.z0,.z0,.z0,.z0,.z0,.buf 11 2,.buf 12 2,.buf 13 2,.ptr 14 0 0,.buf 16 7,.z0,.z0,.z0,.z0,.z0,.z0,.z0,.z0,.z0,.bool],.gone,.gone,.gone,.gone,.gone,.gone,.gone,.gone,.ab (sI 2),.ab (sI 3),.ab (sI 2),.ab (sI 2),.ab (sI 2),.cells [.buf 15 5],.ab (sB 4),.ab (sI 7)],0⟩
theorem Gd:ER 98 (mkE N98.en ac8 aeR):=RU ME (by kernel_rfl) fun(a0,a1,a2,a3,a4,a5,a6,a7,a8,a9,a10,a11)=>⟨rfl,by kernel_rfl⟩
def aeN:TB:=ae6.ad Gd
def aaT:pU->List Un:=fun r=>Uns.enc (r.ra:cJ)++[.d r.bm]++Uns.enc (r.rb:cC)++[.d r.notes,.i r.next,.i r.e]++Uns.enc (r.t.a:av)++Uns.enc (r.t.b:aw)++Uns.enc (r.t.n:aq)++[.d r.t.aC,.d r.t.notes,.d r.t.s0,.d r.t.s1,.d r.t.s2,.d r.t.aN,.d r.t.tr]
def acF:Int × LD0 × av × aw × aq × LD0 × LD0 × LD0 × LD0 × LD0 × LD0 × LD0->Bool × pU:=fun(a0,a1,a2,a3,a4,a5,a6,a7,a8,a9,a10,a11)=>(decide (0<=a0)&&la (⟨a2,a3,a4,a5,a6,a7,a8,a9,a10,a11⟩:af),(aH (⟨a2,a3,a4,a5,a6,a7,a8,a9,a10,a11⟩:af) a1))
theorem Oj:ER 98 (mkB N98.en ac8 acF aaT):=rebind Gd fun(a0,a1,a2,a3,a4,a5,a6,a7,a8,a9,a10,a11)=>rfl
def Rx:TB:=aeN.ad Oj
def F9 (q:Int->Bool) (c:LD0):Nat:=((c.map fun d=>d.i 0).filter q).length
theorem zR (a k:Int) (q:Int->Bool):∀(xs:LI0) (c:LD0) (i:Int),xs.length=c.length->(∀j,j<c.length->q ((ai c j).i 0)=false->xs.getD j 0<=0)->(cj a k i xs).length<=F9 q c
 |[],_,_,_,_=>by simp[cj]
 |x::xs,[],_,h,_=>by simp at h
 |x::xs,d::c,i,h,hx=>by
  have ih:=zR a k q xs c (i+1) (by simpa using h) fun j hj hs=>hx (j+1) (by simpa using hj) hs
  have h0:=hx 0 (by simp);rw[show ai (d::c) 0=d from rfl,show(x::xs).getD 0 0=x from rfl]at h0;unfold F9 at ih⊢;simp only[cj,zab,zaS,List.filter_cons];cases hs:q (d.i 0)with
  |true=>
   rw[if_pos rfl,zac]
   split<;>simp only[zac,zar]<;>omega
  |false=>
   rw[if_neg (by have:=h0 hs;omega),if_neg (by simp)];simpa using ih
theorem SE (j:Nat) (q:Int->Bool) {xs:LI0} {c:LD0} (h:xs.length=c.length):F9 q (cy j xs c)=F9 q c:=by
 have:∀(xs:LI0) (c:LD0),xs.length=c.length->(cy j xs c).map (fun d=>d.i 0)=c.map fun d=>d.i 0:=by
  intro xs
  induction xs with
  |nil=>intro c h;rw[zaB h.symm];rfl
  |cons x xs ih=>
   intro c h;cases c with
   |nil=>simp at h
   |cons d c=>
    simp only[cy,zaS,ih c (by simpa using h)]
    congr 1
    unfold cO
    split<;>rfl
 unfold F9;rw[this xs c h]
theorem Gn (r:Int):∀l:LI0,(l.filter fun y=>y==r).length+(l.filter fun y=>decide (r+1<=y)).length<=(l.filter fun y=>decide (r<=y)).length
 |[]=>by simp
 |y::l=>by
  have:=Gn r l;simp only[List.filter_cons,zaI,zag]
  by_cases h1:y=r
  . rw[if_pos h1,if_neg (by omega),if_pos (by omega)];simp only[zac];omega
  . rw[if_neg h1]
    by_cases h2:r+1<=y
    . rw[if_pos h2,if_pos (by omega)];simp only[zac];omega
    . rw[if_neg h2,if_neg (by omega)];omega
theorem UG (q:Int->Bool) (c:LD0):F9 q c<=c.length:=by
 have:=List.length_filter_le q (c.map fun d=>d.i 0)
 rwa [zaU]at this
theorem KB {c:LD0} {sel:Dat->Bool} {j:Nat} (hj:j=1\/j=2) (n:Int) (h:bk c=true):∀i,i<c.length->sel (ai c i)=false->(aB sel j n c).getD i 0<=0:=fun i hi hs=>by
 have:=(dO sel hj n h).2.2 i hi;rw[hs,zal]at this;exact this.2
theorem B7 (a kd:Int):∀(k:Nat) (r n:Int) (c:LD0),bk c=true->(bR a kd k r n c).2.1.length<=F9 (fun y=>decide (r<=y)) c
 |0,r,n,c,h=>by simp[bR]
 |k+1,r,n,c,h=>by
  have g:=(qL (aR r) (j:=1) (.inl rfl) n h).1;have l:=(dO (aR r) (j:=1) (.inl rfl) n h).1;have i:=B7 a kd k (r+1) (n-(aB (aR r) 1 n c).sum) _ g;rw[SE 1 _ l]at i;have p:=zR a kd (fun y=>y==r) (aB (aR r) 1 n c) c 0 l fun j hj hs=>KB (.inl rfl) n h j hj hs
  have f:=Gn r (c.map fun d=>d.i 0);simp only[bR,zab];unfold F9 at*
  omega
theorem M5 (a kd rk:Int) {x:bC} {c:LD0} (h:bk c=true):(fp a kd rk x c).2.2.length<=c.length+1:=by
 have p1:=AN a kd;have r2:=fun n=>zaP (B7 a kd 8 0 n c h) (UG _ c)
 have q:=fun sel j n hj=>(dO (c:=c) sel (j:=j) hj n h).1
 have q4:=fun xs=>jZ a kd xs 0
 unfold fp
 split
 . have:=p1 (min x.fee x.aD);simp only;omega
 split
 . have:=p1 (min x.cf x.aD);simp only;omega
 split
 . have:=p1 (min x.room x.aD);simp only;omega
 split
 . have:=q (aR rk) 2 x.aD (.inr rfl);have:=q4 (aB (aR rk) 2 x.aD c);simp only;omega
 split
 . have:=r2 (min x.ar x.aD);simp only;omega
 split
 . have:=q (fun _=>true) 1 (min x.ar x.aD) (.inl rfl);have:=q4 (aB (fun _=>true) 1 (min x.ar x.aD) c);simp only;omega
 split
 . have:=r2 x.aD;simp only;omega
 simp
theorem GY:∀(l:LD0) (a:Int) (x:bC) (c:LD0),rV x=true->bk c=true->(fV a l x c).2.2.length<=(c.length+1)*l.length
 |[],a,x,c,_,_=>by simp[fV]
 |s::l,a,x,c,hx,h=>by
  obtain⟨h1,h2,h3,_⟩:=sY a (s.i 0) (s.i 1) hx h;have i:=GY l (a+1) _ _ h1 h2;have p:=M5 a (s.i 0) (s.i 1) (x:=x) h;simp only[fV,zab,zac,Nat.mul_add,zcf];rw[h3]at i;omega
theorem y4:∀(l pre:LD0),j6 pre l=true->∀d∈l,sg d=true
 |[],_,_,d,hd=>by simp at hd
 |x::l,pre,h,d,hd=>by
  simp only[j6,zae]at h;rcases zaN.1 hd with rfl|hd
  . exact h.1
  . exact y4 l _ h.2.2 d hd
theorem HP (j:Nat):∀(l:LD0),(∀d∈l,0<=d.i j)->∀d∈l,d.i j<=au j l
 |[],_,d,hd=>by simp at hd
 |x::l,h,d,hd=>by
  have h0:=h x (by simp);have hr:=fun y hy=>h y (zay x hy)
  have hs:=gv j l hr;simp only[au];rcases zaN.1 hd with rfl|hd
  . omega
  . have:=HP j l hr d hd;omega
def adg (k:Nat) (x:Dat):Prop:=(0<=x.i 0/\x.i 0<=15)/\(1<=x.i 1/\x.i 1<=7)/\(1<=x.i 3/\x.i 3<=800000000000000)/\(-1<=x.i 2/\x.i 2<(k:Int))/\(x.i 2<0↔(x.i 1=1\/x.i 1=2\/x.i 1=6))
section
variable {T : af} {l : LD0} (h : ee T) (he : (cP T l).e = 0)
include h he
theorem Ja:(∀d∈(dS T l).2.2,adg T.tr.length d)/\(dS T l).2.2.length<=144:=by
 obtain⟨k,p,g,c,_⟩:=ue h he;obtain⟨s1,s2,_⟩:=oV h he;obtain⟨x1,x2,_⟩:=tW h he;have st:=qf h;have sl:=bL st;have tl:=fI h;have sr:∀d∈gk (ik T) T.n.mode,sg d=true:=y4 _ [] (by simp only[eF,zae]at st;exact st.2);refine⟨fun d hd=> ?_, ?_⟩
 . obtain⟨q1,_,q2,q3,q4,q5⟩:=p d hd;have:=HP 3 _ (fun d hd=>by have:=(s1 d hd).1;omega) d hd;have:=sr _ (mW (l:=gk (ik T) T.n.mode) (i:=(d.i 0-0).toNat) (by omega));simp only[sg,zae,zag]at this;unfold adg;rw[<-q2]at q5 this;exact⟨by omega,this.1,by omega,q4,q5⟩
 . have:=GY (gk (ik T) T.n.mode) 0 (cX T l) _ x1 x2;rw[zaU,qT h]at this;have m:=Nat.mul_le_mul (show T.tr.length+1<=9 by omega) sl.2;unfold dS;omega
end
@[ext] structure aW where
 ji:Int
 off:Bool
 nI:Int
 lit:Bool
instance : Uns aW := Uns.via (B := Int × Bool × Int × Bool) (fun x => (x.ji, x.off, x.nI, x.lit)) (fun x => match x with | (ji, off, nI, lit) => ⟨ji, off, nI, lit⟩) (fun _ => rfl)
def bz (m:aW):Bool × aW:=bif m.off then(false,m)else bif !m.lit then(true,m)else bif m.nI==0 then(false,{m with off:=true})else(true,{m with nI:=w64 (m.nI-1)})
theorem sq (m:aW) (A C:aW->OU0):(bif m.off then A m else bif !m.lit then C m else bif m.nI==0 then A {m with off:=true}else C {m with nI:=w64 (m.nI-1)})=bif (bz m).1 then C (bz m).2 else A (bz m).2:=by
 unfold bz;cases m.off
 . cases m.lit
   . rfl
   . cases (m.nI==0)<;>rfl
 . rfl
def N12:aA:=⟨Rx.tab,12,⟨[],[],0⟩,⟨[.ptr 0 0 0],[.cells [.buf 1 1,.z0,.bool,.z0,.bool],.ints .u8],0⟩,[]⟩
def t12 (m:Nat):Unit->OU0:=fun _=>
 some (Uns.enc ((⟨0,false,0,false⟩:aW):aW)++[.l ([])])
def f12:Unit->Bool × List Un:=fun _=>(true,Uns.enc (((⟨0,false,0,false⟩:aW)):aW)++[.l (([]:LI0))])
theorem VV:ER 12 (mkE N12.en N12.ex f12):=ak ae Rx.right (fun m=>[]) (t:=t12) (by kernel_rfl) (fun m=>az) (fun m a=>by kernel_rfl) fun _ hc=>by
 dsimp only[f12]at⊢;exact⟨0,rfl⟩
def T12:TB:=Rx.ad VV
def acR:aA:=⟨T12.tab,130,⟨[.ptr 0 0 0,.ints .u8],[.cells [.buf 1 1,.z0,.bool,.z0,.bool],.ints .u8],0⟩,⟨[.z0],[.cells [.buf 2 1,.z0,.bool,.z0,.bool],.gone,.ints .u8],0⟩,[]⟩
def t130 (m:Nat):LI0 × aW × LI0->OU0:=fun(a0,a1,a2)=>
 bif a1.off then
 some ([.i 7]++Uns.enc (a1:aW)++[.l a2])
 else
 bif !a1.lit then
 chk (fits (a2.length+a0.length) 1)<|
 some ([.i 0]++Uns.enc (a1:aW)++[.l (a2++a0)])
 else
 bif a1.nI==0 then
 some ([.i 7]++Uns.enc (({a1 with off:=true}:aW):aW)++[.l a2])
 else
 chk (fits (a2.length+a0.length) 1)<|
 some ([.i 0]++Uns.enc (({a1 with nI:=(w64 (a1.nI-1))}:aW):aW)++[.l (a2++a0)])
def f130:LI0 × aW × LI0->Bool × List Un:=fun(a0,a1,a2)=>(decide (a2.length+a0.length<1000000),[.i ((bif (bz a1).1 then 0 else 7:Int))]++Uns.enc (((bz a1).2):aW)++[.l ((bif (bz a1).1 then a2++a0 else a2))])
theorem QE:ER 130 (mkE acR.en acR.ex f130):=ak ae T12.right (fun m=>[]) (t:=t130) (by kernel_rfl) (fun m=>az) (fun m a=>by kernel_rfl) fun(a0,a1,a2) hc=>by
 dsimp only[f130]at hc⊢;have hl:=zaj hc;refine⟨0,(sq a1 (fun n=>some ([Un.i 7]++Uns.enc n++[Un.l a2])) (fun n=>chk (fits (a2.length+a0.length) 1)<|some ([Un.i 0]++Uns.enc n++[Un.l (a2++a0)]))).trans ?_⟩;rw[bD (by omega) (by omega)];cases (bz a1).1<;>rfl
def XN:TB:=T12.ad QE
def abO:aA:=⟨XN.tab,131,⟨[.ptr 0 0 0],[.cells [.buf 1 1,.z0,.bool,.z0,.bool],.ints .u8],0⟩,⟨[.z0],[.cells [.buf 1 1,.z0,.bool,.z0,.bool],.ints .u8],0⟩,[]⟩
def t131 (m:Nat):aW × LI0->OU0:=fun(a0,a1)=>
 bif a0.off then
 some ([.i 7]++Uns.enc (a0:aW)++[.l a1])
 else
 bif !a0.lit then
 some ([.i 0]++Uns.enc (({a0 with ji:=(a1.length:Int)}:aW):aW)++[.l a1])
 else
 bif a0.nI==0 then
 some ([.i 7]++Uns.enc (({a0 with off:=true}:aW):aW)++[.l a1])
 else
 some ([.i 0]++Uns.enc (({a0 with ji:=(a1.length:Int),nI:=(w64 (a0.nI-1))}:aW):aW)++[.l a1])
def f131:aW × LI0->Bool × List Un:=fun(a0,a1)=>(true,[.i ((bif (bz a0).1 then 0 else 7:Int))]++Uns.enc (((bif (bz a0).1 then {(bz a0).2 with ji:=(a1.length:Int)}else(bz a0).2)):aW)++[.l (a1)])
theorem Qt:ER 131 (mkE abO.en abO.ex f131):=ak ae XN.right (fun m=>[]) (t:=t131) (by kernel_rfl) (fun m=>az) (fun m a=>by kernel_rfl) fun(a0,a1) hc=>by
 dsimp only[f131]at⊢;refine⟨0,(sq a0 (fun n=>some ([Un.i 7]++Uns.enc n++[Un.l a1])) (fun n=>some ([Un.i 0]++Uns.enc ({n with ji:=(a1.length:Int)}:aW)++[Un.l a1]))).trans ?_⟩;cases (bz a0).1<;>rfl
def ZE:TB:=XN.ad Qt
def N90:aA:=⟨ZE.tab,90,⟨[.ptr 0 0 0,.z0],[.cells [.buf 1 1,.z0,.bool,.z0,.bool],.ints .u8],0⟩,⟨[.z0],[.cells [.buf 2 1,.z0,.bool,.z0,.bool],.gone,.ints .u8],0⟩,[]⟩
def t90 (m:Nat):Int × aW × LI0->OU0:=fun(a0,a1,a2)=>
 bif decide (a0<0)then
 some ([.i 1]++Uns.enc (a1:aW)++[.l a2])
 else
 bif (decide (a0>(a2.length:Int)))then
 some ([.i 1]++Uns.enc (a1:aW)++[.l a2])
 else
 bif a1.off then
 some ([.i 7]++Uns.enc (a1:aW)++[.l a2])
 else
 bif !a1.lit then
 chk (decide (0<=a0)&&(true&&decide (0<=a0.toNat/\a0.toNat<=a2.length)))<|
 chk (decide ((List.take a0.toNat a2).length<1000000))<|
 some ([.i 0]++Uns.enc (({a1 with ji:=a0}:aW):aW)++[.l (List.take a0.toNat a2)])
 else
 bif a1.nI==0 then
 some ([.i 7]++Uns.enc (({a1 with off:=true}:aW):aW)++[.l a2])
 else
 chk (decide (0<=a0)&&(true&&decide (0<=a0.toNat/\a0.toNat<=a2.length)))<|
 chk (decide ((List.take a0.toNat a2).length<1000000))<|
 some ([.i 0]++Uns.enc (({a1 with ji:=a0,nI:=(w64 (a1.nI-1))}:aW):aW)++[.l (List.take a0.toNat a2)])
def f90:Int × aW × LI0->Bool × List Un:=fun(a0,a1,a2)=>(decide (0<=a0/\a0<=(a2.length:Int)/\a2.length<1000000),[.i ((bif (bz a1).1 then 0 else 7:Int))]++Uns.enc (((bif (bz a1).1 then {(bz a1).2 with ji:=a0}else(bz a1).2)):aW)++[.l ((bif (bz a1).1 then a2.take a0.toNat else a2))])
theorem Vo:ER 90 (mkE N90.en N90.ex f90):=ak ae ZE.right (fun m=>[]) (t:=t90) (by kernel_rfl) (fun m=>az) (fun m a=>by kernel_rfl) fun(a0,a1,a2) hc=>by
 dsimp only[f90]at hc⊢;obtain⟨h0,h1,h2⟩:=zaj hc;have hl:(List.take a0.toNat a2).length<1000000:=by rw[zas];omega
 have hk:(decide (0<=a0)&&(true&&decide (0<=a0.toNat/\a0.toNat<=a2.length)))=true:=by
  rw[zaa h0,zaa (show 0<=a0.toNat/\a0.toNat<=a2.length by omega)];rfl
 refine⟨0,cm (zan (by omega)) (cm (zan (by omega)) ((sq a1 (fun n=>some ([Un.i 7]++Uns.enc n++[Un.l a2])) (fun n=>chk (decide (0<=a0)&&(true&&decide (0<=a0.toNat/\a0.toNat<=a2.length)))<|chk (decide ((List.take a0.toNat a2).length<1000000))<|some ([Un.i 0]++Uns.enc ({n with ji:=a0}:aW)++[Un.l (List.take a0.toNat a2)]))).trans ?_))⟩;rw[hk,zaa hl];cases (bz a1).1<;>rfl
def T90:TB:=ZE.ad Vo
def N31:aA:=⟨T90.tab,31,⟨[.ptr 0 0 0],[.cells [.buf 1 1,.z0,.bool,.z0,.bool],.ints .u8],2⟩,⟨[.buf 2 1],[.cells [.buf 1 1,.z0,.bool,.z0,.bool],.ints .u8,.ints .u8],2⟩,[]⟩
def t31 (m:Nat):aW × LI0->OU0:=fun(a0,a1)=>
 bif a0.off then
 some (Uns.enc (a0:aW)++[.l a1,.l ([])])
 else
 chk (decide (a1.length<1000000))<|
 some (Uns.enc (a0:aW)++[.l a1,.l a1])
def f31:aW × LI0->Bool × List Un:=fun(a0,a1)=>(decide (a1.length<1000000),Uns.enc ((a0):aW)++[.l (a1),.l ((bif a0.off then[]else a1))])
theorem Lm:ER 31 (mkE N31.en N31.ex f31):=ak ae T90.right (fun m=>[]) (t:=t31) (by kernel_rfl) (fun m=>az) (fun m a=>by kernel_rfl) fun(a0,a1) hc=>by
 dsimp only[f31]at hc⊢;refine⟨0, ?_⟩;unfold t31
 try dsimp only
 rw[hc];cases a0.off<;>rfl
def T31:TB:=T90.ad Lm
def aeQ:aW × LI0->Bool × List Un:=fun(a0,a1)=>(decide (a1.length<1000000),[.l (bif a0.off then[]else a1)]++Uns.enc (a0:aW)++[.l a1])
def afb:Pn:=⟨[.ints .u8],[.cells [.buf 1 1,.z0,.bool,.z0,.bool],.ints .u8],2⟩
theorem Rd:ER 31 (mkE N31.en afb aeQ):=RU Lm (by kernel_rfl) fun(a0,a1)=>⟨rfl,by kernel_rfl⟩
def ZA:TB:=T31.ad Rd
def G5 (m:aW) (l:LI0) (fw:Int):Int:=m.ji+max 0 (min fw ((l.length:Int)-m.ji))
def im (m:aW) (l:LI0) (a:Int):Bool:= !m.off&&(!decide (m.ji<(l.length:Int))&&decide (0<=a/\a<(l.length:Int)))
def cz (l:LI0) (a x:Int):LI0:=l.set a.toNat (wu8 ((BitVec.ofInt 8 (l.getD a.toNat 0)^^^BitVec.ofInt 8 x).toNat))
def N32:aA:=⟨ZA.tab,32,⟨[.ptr 0 0 0,.z0,.int .u8],[.cells [.buf 1 1,.z0,.bool,.z0,.bool],.ints .u8],0⟩,⟨[.bool],[.cells [.buf 1 1,.z0,.bool,.z0,.bool],.ints .u8],0⟩,[]⟩
def t32 (m:Nat):Int × Int × aW × LI0->OU0:=fun(a0,a1,a2,a3)=>
 bif a2.off then
 some ([.b false]++Uns.enc (a2:aW)++[.l a3])
 else
 bif (decide (a2.ji<(a3.length:Int)))then
 some ([.b false]++Uns.enc (a2:aW)++[.l a3])
 else
 bif decide (a0<0)then
 some ([.b false]++Uns.enc (a2:aW)++[.l a3])
 else
 bif (decide (a0>=(a3.length:Int)))then
 some ([.b false]++Uns.enc (a2:aW)++[.l a3])
 else
 chk (inb a0 a3.length)<|
 chk (decide (a0.toNat<a3.length))<|
 chk (inb a0 a3.length)<|
 chk (decide (a0.toNat<a3.length))<|
 some ([.b true]++Uns.enc (a2:aW)++[.l (List.set a3 a0.toNat (wu8 ((BitVec.ofInt 8 (a3.getD a0.toNat 0)^^^BitVec.ofInt 8 a1).toNat)))])
def f32:Int × Int × aW × LI0->Bool × List Un:=fun(a0,a1,a2,a3)=>(decide (a3.length<1000000),[.b (im a2 a3 a0)]++Uns.enc ((a2):aW)++[.l ((bif im a2 a3 a0 then cz a3 a0 a1 else a3))])
theorem TF:ER 32 (mkE N32.en N32.ex f32):=ak ae ZA.right (fun m=>[]) (t:=t32) (by kernel_rfl) (fun m=>az) (fun m a=>by kernel_rfl) fun(a0,a1,a2,a3) hc=>by
 dsimp only[f32]at hc⊢;have hl:=zaj hc;refine⟨0, ?_⟩;unfold t32 im cz
 try dsimp only
 cases ho:a2.off
 . by_cases h1:a2.ji<(a3.length:Int)
   . rw[zaa h1];rfl
   rw[zan h1]
   by_cases h2:a0<0
   . rw[zaa h2,zan (show ¬(0<=a0/\a0<(a3.length:Int)) by omega)];rfl
   rw[zan h2]
   by_cases h3:a0>=(a3.length:Int)
   . rw[zaa h3,zan (show ¬(0<=a0/\a0<(a3.length:Int)) by omega)];rfl
   rw[zan h3,zaa (show 0<=a0/\a0<(a3.length:Int) by omega)];refine(bQ (by omega) (by omega)).trans (al (zaa (by omega)) ((bQ (by omega) (by omega)).trans (al (zaa (by omega)) rfl)))
 . rfl
def T32:TB:=ZA.ad TF
def N30:aA:=⟨T32.tab,30,⟨[.ptr 0 0 0],[.cells [.buf 1 1,.z0,.bool,.z0,.bool],.ints .u8],2⟩,⟨[.ptr 2 0 0],[.cells [.buf 1 1,.z0,.bool,.z0,.bool],.ints .u8,.cells [.buf 3 1,.z0,.bool,.z0,.bool],.ints .u8],2⟩,[]⟩
def t30 (m:Nat):aW × LI0->OU0:=fun(a0,a1)=>
 chk (decide (a1.length<1000000))<|
 some (Uns.enc (a0:aW)++[.l a1]++Uns.enc (a0:aW)++[.l a1])
def f30:aW × LI0->Bool × List Un:=fun(a0,a1)=>(decide (a1.length<1000000),Uns.enc ((a0):aW)++[.l (a1)]++Uns.enc ((a0):aW)++[.l (a1)])
theorem Wi:ER 30 (mkE N30.en N30.ex f30):=ak ae T32.right (fun m=>[]) (t:=t30) (by kernel_rfl) (fun m=>az) (fun m a=>by kernel_rfl) fun(a0,a1) hc=>by
 dsimp only[f30]at hc⊢;exact⟨0,al hc rfl⟩
def T30:TB:=T32.ad Wi
def cG (l:LI0):Bool:=decide (l.length<=1000000)&&l.all fun x=>decide (0<=x/\x<256)
theorem eC {l:LI0}:cG l=true↔l.length<=1000000/\∀x∈l,0<=x/\x<256:=by
 simp only[cG,zae,zag,zam]
def cA (l:LI0):Int:=l.sum%65536
theorem acS {x:Int} (h0:0<=x) (h1:x<9223372036854775808):w64 ((BitVec.ofInt 64 x&&&BitVec.ofInt 64 65535).toNat)=x%65536:=by
 obtain⟨n,rfl⟩:∃n:Nat,x=n:=⟨x.toNat,by omega⟩
 have e:(BitVec.ofInt 64 (n:Int)&&&BitVec.ofInt 64 65535).toNat=n%65536:=by
  rw[BitVec.toNat_and];have h1:(BitVec.ofInt 64 (n:Int)).toNat=n:=by
   rw[zbB];omega
  have h2:(BitVec.ofInt 64 65535).toNat=2^16-1:=by decide
  rw[h1,h2,Nat.and_two_pow_sub_one_eq_mod]
 rw[e,aa (by omega) (by omega)];omega
def ZR:aA:=⟨T30.tab,166,⟨[.ints .u8],[],0⟩,⟨[.z0],[],0⟩,[]⟩
abbrev Dx:Type:=Int × LI0 × Int × Int
def yf (m:Nat) (k:Dx->OU0):Dx->OU0:=fun(a0,a1,a2,a3)=>
 bif decide (a3<a2)then
 chk (inb a3 a1.length)<|
 chk (decide (a3.toNat<a1.length))<|
 k ((w64 (a0+(w64 (a1.getD a3.toNat 0)))),a1,a2,(w64 (a3+1)))
 else
 some ([.i (w64 ((BitVec.ofInt 64 a0&&&BitVec.ofInt 64 65535).toNat))])
def vB (m:Nat):Nat->Dx->OU0:=aZ (yf m)
theorem xl (m:Nat) (n:Nat):vB m (n+1)=yf m (vB m n):=rfl
def Kq (F:Dx->OU0):aQ:=⟨[.lp [0,1,0,1,1],.blk 0,.code [1,1,1]],⟨frm 19 [(3,.z0),(6,.ints .u8),(7,.z0),(8,.z0)],[],0⟩,onU F⟩
theorem Xq (m:Nat):∀n,HO ZR (Kq (vB m n)):=an ae T30.right (fun k=>[Kq k]) (fun k h=>(aI h az)) fun k a=>by kernel_rfl
def t166 (m:Nat):LI0->OU0:=fun a0=>
 vB m m (0,a0,(a0.length:Int),0)
theorem ace (m:Nat):∀(rest pre:LI0) (n:Nat) (s:Int),rest.length<n->(pre++rest).length<=1000000->(∀x∈rest,0<=x/\x<256)->0<=s->s<=256*pre.length->vB m n (s,pre++rest,((pre++rest).length:Int),(pre.length:Int))=some [.i ((s+rest.sum)%65536)]:=by
 intro rest
 induction rest with
 |nil=>
  intro pre n s hn hl hb h0 h1;obtain⟨n,rfl⟩:=ah n (by simp at hn;omega);simp only[zaH]at hl;rw[xl];unfold yf;dsimp only;rw[ay (by simp),acS h0 (by omega)];simp
 |cons x rest ih=>
  intro pre n s hn hl hb h0 h1;obtain⟨n,rfl⟩:=ah n (by simp at hn;omega);have hx:=hb x (by simp);have:=ih (pre++[x]) n (s+x) (by simp at hn;omega) (by simpa using hl) (fun y hy=>hb y (zay _ hy)) (by omega) (by simp;omega);simp only[zac,zab]at hn hl;rw[xl];unfold yf;dsimp only;rw[aL (by simp only[zab,zac];omega),bQ (by omega) (by simp only[zab,zac];omega),aJ (by simp)];have hg:(pre++x::rest).getD (pre.length:Int).toNat 0=x:=by simp
  rw[hg,aa (n:=x) (by omega) (by omega),aa (n:=s+x) (by omega) (by omega)];have e:w64 ((pre.length:Int)+1)=((pre++[x]).length:Int):=by
   rw[aa (by omega) (by omega)];simp
  rw[e,show pre++x::rest=(pre++[x])++rest by simp,this,zbs,zcl]
def f166:LI0->Bool × List Un:=fun a0=>(cG a0,[.i (cA a0)])
theorem Rf:ER 166 (mkE ZR.en ZR.ex f166):=ak ae T30.right (fun m=>[Kq (vB m m)]) (t:=t166) (by kernel_rfl) (fun m=>(aI (Xq m m) az)) (fun m a=>by kernel_rfl) fun a0 hc=>by
 dsimp only[f166]at hc⊢;obtain⟨hl,hb⟩:=eC.1 hc;refine⟨a0.length+1, ?_⟩;have:=ace (a0.length+1) a0 [] (a0.length+1) 0 (by omega) (by simpa using hl) hb (by omega) (by simp);rw[za4]at this;exact this
def TQ:TB:=T30.ad Rf
def dm (l:LI0):Int:=l.foldl (fun n x=>n*256+x) 0
theorem P9 {n x:Int} (h0:0<=n) (h1:n<4294967296) (h2:0<=x) (h3:x<256):w64 ((BitVec.ofInt 64 (w64 (n*2^(min (8:Int).toNat 64)))|||BitVec.ofInt 64 (w64 x)).toNat)=n*256+x:=by
 rw[show(2:Int)^(min (8:Int).toNat 64)=256 by decide,aa (n:=n*256) (by omega) (by omega),aa (n:=x) (by omega) (by omega)];obtain⟨a,rfl⟩:∃a:Nat,n=a:=⟨n.toNat,by omega⟩
 obtain⟨c,rfl⟩:∃c:Nat,x=c:=⟨x.toNat,by omega⟩
 have e:(BitVec.ofInt 64 ((a:Int)*256)|||BitVec.ofInt 64 (c:Int)).toNat=256*a+c:=by
  rw[BitVec.toNat_or];have h1:(BitVec.ofInt 64 ((a:Int)*256)).toNat=256*a:=by
   rw[zbB];omega
  have h2:(BitVec.ofInt 64 (c:Int)).toNat=c:=by
   rw[zbB];omega
  rw[h1,h2,Lb a c (by omega)]
 rw[e,aa (by omega) (by omega)];omega
def ZN:aA:=⟨TQ.tab,165,⟨[.ints .u8],[],0⟩,⟨[.z0],[],0⟩,[]⟩
abbrev DO:Type:=Int × LI0 × Int × Int
def ym (m:Nat) (k:DO->OU0):DO->OU0:=fun(a0,a1,a2,a3)=>
 bif decide (a3<a2)then
 chk (inb a3 a1.length)<|
 chk (decide (a3.toNat<a1.length))<|
 k ((w64 ((BitVec.ofInt 64 (w64 (a0*2^(min (8:Int).toNat 64)))|||BitVec.ofInt 64 (w64 (a1.getD a3.toNat 0))).toNat)),a1,a2,(w64 (a3+1)))
 else
 some ([.i a0])
def vL (m:Nat):Nat->DO->OU0:=aZ (ym m)
theorem xu (m:Nat) (n:Nat):vL m (n+1)=ym m (vL m n):=rfl
def JB (F:DO->OU0):aQ:=⟨[.lp [0,1,0,1,1],.blk 0,.code [1,1,1]],⟨frm 19 [(3,.z0),(6,.ints .u8),(7,.z0),(8,.z0)],[],0⟩,onU F⟩
theorem X7 (m:Nat):∀n,HO ZN (JB (vL m n)):=an ae TQ.right (fun k=>[JB k]) (fun k h=>(aI h az)) fun k a=>by kernel_rfl
def t165 (m:Nat):LI0->OU0:=fun a0=>
 vL m m (0,a0,(a0.length:Int),0)
theorem acm (m:Nat):∀(rest pre:LI0) (n:Nat) (s:Int),rest.length<n->(pre++rest).length<=4->(∀x∈rest,0<=x/\x<256)->0<=s->s<256^pre.length->vL m n (s,pre++rest,((pre++rest).length:Int),(pre.length:Int))=some [.i (rest.foldl (fun n x=>n*256+x) s)]:=by
 intro rest
 induction rest with
 |nil=>
  intro pre n s hn hl hb h0 h1;obtain⟨n,rfl⟩:=ah n (by simp at hn;omega);rw[xu];unfold ym;dsimp only;rw[ay (by simp)];rfl
 |cons x rest ih=>
  intro pre n s hn hl hb h0 h1;obtain⟨n,rfl⟩:=ah n (by simp at hn;omega);have hx:=hb x (by simp);have hp:(256:Int)^(pre++[x]).length=256^pre.length*256:=by rw[zab,List.length_singleton,Int.pow_succ]
  have hp3:(256:Int)^pre.length<=16777216:=by
   simp only[zab,zac]at hl;have:pre.length=0\/pre.length=1\/pre.length=2\/pre.length=3:=by omega
   rcases this with h|h|h|h<;>rw[h]<;>decide
  have:=ih (pre++[x]) n (s*256+x) (by simp at hn;omega) (by simpa using hl) (fun y hy=>hb y (zay _ hy)) (by omega) (by rw[hp];omega);simp only[zac,zab]at hn hl;rw[xu];unfold ym;dsimp only;rw[aL (by simp only[zab,zac];omega),bQ (by omega) (by simp only[zab,zac];omega),aJ (by simp)];have hg:(pre++x::rest).getD (pre.length:Int).toNat 0=x:=by simp
  rw[hg,P9 h0 (by omega) hx.1 hx.2];have e:w64 ((pre.length:Int)+1)=((pre++[x]).length:Int):=by
   rw[aa (by omega) (by omega)];simp
  rw[e,show pre++x::rest=(pre++[x])++rest by simp,this];rfl
def f165:LI0->Bool × List Un:=fun a0=>(decide (a0.length<=4)&&a0.all fun x=>decide (0<=x/\x<256),[.i (dm a0)])
theorem OA:ER 165 (mkE ZN.en ZN.ex f165):=ak ae TQ.right (fun m=>[JB (vL m m)]) (t:=t165) (by kernel_rfl) (fun m=>(aI (X7 m m) az)) (fun m a=>by kernel_rfl) fun a0 hc=>by
 dsimp only[f165]at hc⊢;simp only[zae,zag,zam]at hc;refine⟨a0.length+1, ?_⟩;exact acm (a0.length+1) a0 [] (a0.length+1) 0 (by omega) (by simpa using hc.1) hc.2 (by omega) (by simp)
def X8:TB:=TQ.ad OA
theorem u8m (x:Int):wu8 x=x%256:=by show IntKind.u8.wrap x=_;simp[IntKind.wrap,IntKind.bits,IntKind.signed]
def dP (n:Int):LI0:=[n/256%256,n%256]
def cr (s:Int) (b:LI0):LI0:=dP (b.length:Int)++dP (s/65536)++dP s
def bT (s:Int) (b:LI0):LI0:=cr s b++dP (cA (cr s b))++b++dP (cA b)
theorem QP (x k:Int) (hk:0<k):Int.fdiv x k=x/k:=Int.fdiv_eq_ediv_of_nonneg _ (by omega)
theorem vi (n:Int):∀x∈dP n,0<=x/\x<256:=by
 intro x hx;simp only[dP,zaN,zbH,or_false]at hx;omega
theorem sy (s:Int) (b:LI0):∀x∈cr s b,0<=x/\x<256:=by
 intro x hx;simp only[cr,za0]at hx;rcases hx with(hx|hx)|hx<;>exact vi _ x hx
theorem vv (s:Int) (b:LI0):(cr s b).length=6:=rfl
theorem iA (s:Int) (b:LI0):(bT s b).length=b.length+10:=by
 simp only[bT,zab,vv,dP,zac,zar];omega
theorem Vk (l:LI0):0<=cA l/\cA l<65536:=by unfold cA;omega
theorem sQ {α:Type} (h x z:List α) (k:Nat) (hk:h.length=k) (hx:x.length<=z.length):List.take k (h++z)++x++List.drop (k+x.length) (h++z)=h++x++z.drop x.length:=by
 subst hk;rw[zb1 (zap _),List.take_length,List.drop_append,List.drop_of_length_le (show h.length<=h.length+x.length by omega),Nat.add_sub_cancel_left,zat]
def ab0:aA:=⟨X8.tab,129,⟨[.z0,.ints .u8],[],0⟩,⟨[.ints .u8],[],0⟩,[]⟩
def t129 (m:Nat):Int × LI0->OU0:=fun(a0,a1)=>
 bif decide (a0<0)then
 some ([.l ([]:LI0)])
 else
 bif (decide (a0>4294967295))then
 some ([.l ([]:LI0)])
 else
 bif (decide ((a1.length:Int)>60000))then
 some ([.l ([]:LI0)])
 else
 lt ((Int.fdiv (a1.length:Int) (2^(min (8:Int).toNat 64))):Int) fun x3=>
 lt ((Int.fdiv a0 (2^(min (16:Int).toNat 64))):Int) fun x4=>
 lt ((Int.fdiv x4 (2^(min (8:Int).toNat 64))):Int) fun x5=>
 lt ((Int.fdiv a0 (2^(min (8:Int).toNat 64))):Int) fun x6=>
 lt ((List.take 0 (List.replicate 6 0)++([(wu8 x3),(wu8 (a1.length:Int))])++List.drop (0+([(wu8 x3),(wu8 (a1.length:Int))]).length) (List.replicate 6 0)):LI0) fun l7=>
 lt ((List.take 2 l7++([(wu8 x5),(wu8 x4)])++List.drop (2+([(wu8 x5),(wu8 x4)]).length) l7):LI0) fun l8=>
 lt ((List.take 4 l8++([(wu8 x6),(wu8 a0)])++List.drop (4+([(wu8 x6),(wu8 a0)]).length) l8):LI0) fun l9=>
 chk (cG (List.take 6 l9))<|
 lt ((Int.fdiv (cA (List.take 6 l9)) (2^(min (8:Int).toNat 64))):Int) fun x10=>
 lt ((wu8 (cA (List.take 6 l9))):Int) fun x11=>
 chk (cG a1)<|
 lt ((Int.fdiv (cA a1) (2^(min (8:Int).toNat 64))):Int) fun x12=>
 lt ((w64 (8+(a1.length:Int))):Int) fun x13=>
 bif decide (x13<0)then
 none
 else
 bif (decide ((w64 (x13+2))<0))then
 none
 else
 bif (decide ((w64 (x13+2))<0))then
 none
 else
 lt ((w64 ((w64 (x13+2))-0)):Int) fun x16=>
 bif decide (x16>0)then
 chk (decide (0<=x16/\x16<1099511627776/\x16.toNat*1<35184372088832))<|
 lt ((List.replicate x16.toNat 0):LI0) fun l17=>
 chk (true&&(true&&decide (0<=0/\0<=l17.length)))<|
 chk (decide (6<=l17.length))<|
 lt ((List.take 0 l17++(List.take 6 l9)++List.drop (0+(List.take 6 l9).length) l17):LI0) fun l18=>
 chk (decide (8<=l18.length))<|
 lt ((List.take 6 l18++([(wu8 x10),x11])++List.drop (6+([(wu8 x10),x11]).length) l18):LI0) fun l19=>
 chk (fits (8+a1.length) 1)<|
 chk (decide ((8+a1.length)<=l19.length))<|
 lt ((List.take 8 l19++a1++List.drop (8+a1.length) l19):LI0) fun l20=>
 chk (fits ((8+a1.length)+2) 1)<|
 chk (decide (((8+a1.length)+2)<=l20.length))<|
 some ([.l (List.take ((8+a1.length)+2) (List.take (8+a1.length) l20++([(wu8 x12),(wu8 (cA a1))])++List.drop ((8+a1.length)+([(wu8 x12),(wu8 (cA a1))]).length) l20))])
 else
 lt (((List.take 6 l9)++([(wu8 x10),x11])):LI0) fun l22=>
 chk (fits (8+a1.length) 1)<|
 chk (fits ((l22++a1).length+2) 1)<|
 some ([.l ((l22++a1)++([(wu8 x12),(wu8 (cA a1))]))])
def f129:Int × LI0->Bool × List Un:=fun(a0,a1)=>(decide (0<=a0/\a0<=4294967295/\a1.length<=60000)&&cG a1,[.l (bT a0 a1)])
theorem OT:ER 129 (mkE ab0.en ab0.ex f129):=ak ae X8.right (fun m=>[]) (t:=t129) (by kernel_rfl) (fun m=>az) (fun m a=>by kernel_rfl) fun(a0,a1) hc=>by
 dsimp only[f129]at hc⊢;rw[zae]at hc;obtain⟨⟨h0,h1,h2⟩,hb⟩:=(⟨zaj hc.1,hc.2⟩:(0<=a0/\a0<=4294967295/\a1.length<=60000)/\cG a1=true)
 refine⟨0,cm (zan (by omega)) (cm (zan (by omega)) (cm (zan (by omega)) ?_))⟩;dsimp only[lt];rw[show(2:Int)^(min (8:Int).toNat 64)=256 by decide,show(2:Int)^(min (16:Int).toNat 64)=65536 by decide];simp only[QP _ 256 (by decide),QP _ 65536 (by decide),u8m];have hh:(List.take 4 (List.take 2 (List.take 0 (List.replicate 6 (0:Int))++[(a1.length:Int)/256%256,(a1.length:Int)%256]++List.drop (0+[(a1.length:Int)/256%256,(a1.length:Int)%256].length) (List.replicate 6 0))++[a0/65536/256%256,a0/65536%256]++List.drop (2+[a0/65536/256%256,a0/65536%256].length) (List.take 0 (List.replicate 6 0)++[(a1.length:Int)/256%256,(a1.length:Int)%256]++List.drop (0+[(a1.length:Int)/256%256,(a1.length:Int)%256].length) (List.replicate 6 0)))++[a0/256%256,a0%256]++List.drop (4+[a0/256%256,a0%256].length) (List.take 2 (List.take 0 (List.replicate 6 0)++[(a1.length:Int)/256%256,(a1.length:Int)%256]++List.drop (0+[(a1.length:Int)/256%256,(a1.length:Int)%256].length) (List.replicate 6 0))++[a0/65536/256%256,a0/65536%256]++List.drop (2+[a0/65536/256%256,a0/65536%256].length) (List.take 0 (List.replicate 6 0)++[(a1.length:Int)/256%256,(a1.length:Int)%256]++List.drop (0+[(a1.length:Int)/256%256,(a1.length:Int)%256].length) (List.replicate 6 0))))=cr a0 a1:=rfl;simp only[hh];have hl6:=vv a0 a1;have ht:List.take 6 (cr a0 a1)=cr a0 a1:=rfl;simp only[ht];have hs:=Vk (cr a0 a1);refine al (eC.2 ⟨by omega,sy a0 a1⟩) (al hb ?_);rw[aa (n:=8+(a1.length:Int)) (by omega) (by omega),aa (n:=8+(a1.length:Int)+2) (by omega) (by omega),zbv,aa (n:=8+(a1.length:Int)+2) (by omega) (by omega)];refine cm (zan (by omega)) (cm (zan (by omega)) (cm (zan (by omega)) (cu (zaa (by omega)) (al (zaa ⟨by omega,by omega,by omega⟩) ?_))));have e0:(8+(a1.length:Int)+2).toNat=a1.length+10:=by omega
 rw[e0];have e1:=sQ ([]:LI0) (cr a0 a1) (List.replicate (a1.length+10) 0) 0 rfl (by rw[hl6,zbn];omega);rw[zat,zat]at e1;rw[e1,hl6,List.drop_replicate];have two:dP (cA (cr a0 a1))=[cA (cr a0 a1)/256%256,cA (cr a0 a1)%256]:=rfl;have two2:dP (cA a1)=[cA a1/256%256,cA a1%256]:=rfl;rw[<-two,<-two2];have t2:∀n,(dP n).length=2:=fun n=>rfl
 have e2:=sQ (cr a0 a1) (dP (cA (cr a0 a1))) (List.replicate (a1.length+10-6) 0) 6 hl6 (by rw[t2,zbn];omega);rw[e2,t2,List.drop_replicate];have e3:=sQ (cr a0 a1++dP (cA (cr a0 a1))) a1 (List.replicate (a1.length+10-6-2) 0) 8 (by rw[zab,hl6,t2]) (by rw[zbn];omega);rw[e3,List.drop_replicate];have e4:=sQ (cr a0 a1++dP (cA (cr a0 a1))++a1) (dP (cA a1)) (List.replicate (a1.length+10-6-2-a1.length) 0) (8+a1.length) (by rw[zab,zab,hl6,t2]) (by rw[t2,zbn];omega);rw[e4,t2,List.drop_replicate,show a1.length+10-6-2-a1.length-2=0 by omega,List.replicate_zero,zaH];have e5:List.take (8+a1.length+2) (cr a0 a1++dP (cA (cr a0 a1))++a1++dP (cA a1))=cr a0 a1++dP (cA (cr a0 a1))++a1++dP (cA a1):=zbq (by simp only[zab,hl6,t2];omega);rw[e5];have lens:(cr a0 a1++List.replicate (a1.length+10-6) 0).length=a1.length+10:=by rw[zab,hl6,zbn];omega
 refine al (by rw[zbn,zaa (show 0<=0/\0<=a1.length+10 by omega)];rfl) (al (zaa (by rw[zbn];omega)) (al (zaa (by simp only[zab,zbn,hl6];omega)) ?_));rw[bD (by omega) (by omega)];refine al (zaa (by simp only[zab,zbn,hl6,t2];omega)) ?_
 rw[bD (by omega) (by omega)];exact al (zaa (by simp only[zab,zbn,hl6,t2];omega)) rfl
def XK:TB:=X8.ad OT
structure OpR where
 text:List Int
 seq:Int
 next:Int
 how:Int
def jL (r:LI0) (a:Int):OpR:=
 bif decide ((r.length:Int)<8)then⟨[],0,0,1⟩
 else bif cA (r.take 6) !=dm ((r.drop 6).take 2)then⟨[],0,0,2⟩
 else bif decide (dm (r.take 2)>60000)then⟨[],0,0,2⟩
 else bif decide ((r.length:Int)-8<dm (r.take 2)+2)then⟨[],0,0,1⟩
 else bif cA ((r.drop 8).take (dm (r.take 2)).toNat) !=dm ((r.drop (8+(dm (r.take 2)).toNat)).take 2)then⟨[],0,0,2⟩
 else⟨(r.drop 8).take (dm (r.take 2)).toNat,dm ((r.drop 2).take 4),a+10+dm (r.take 2),0⟩
def dW (b:LI0) (a:Int):OpR:=bif decide (a<0)||decide (a>(b.length:Int))then⟨[],0,0,2⟩else jL (b.drop a.toNat) a
theorem Ds:∀(l:LI0),(∀x∈l,0<=x/\x<256)->∀s:Int,0<=s->0<=l.foldl (fun n x=>n*256+x) s
 |[],_,s,h=>h
 |x::l,hb,s,h=>by
  have:=hb x (by simp);exact Ds l (fun y hy=>hb y (zay _ hy)) (s*256+x) (by omega)
def VN:aA:=⟨XK.tab,122,⟨[.ints .u8,.z0],[],0⟩,⟨[.ints .u8,.z0,.z0,.z0],[],0⟩,[]⟩
def t122 (m:Nat):LI0 × Int->OU0:=fun(a0,a1)=>
 bif decide (a1<0)then
 some ([.l ([]:LI0),.i 0,.i 0,.i 2])
 else
 bif (decide (a1>(a0.length:Int)))then
 some ([.l ([]:LI0),.i 0,.i 0,.i 2])
 else
 chk (true&&(decide (0<=a1)&&decide (a1.toNat<=a0.length/\a0.length<=a0.length)))<|
 lt ((List.take (a0.length-a1.toNat) (List.drop a1.toNat a0)):LI0) fun l2=>
 bif (decide ((l2.length:Int)<8))then
 some ([.l ([]:LI0),.i 0,.i 0,.i 1])
 else
 chk (true&&(true&&decide (0<=2/\2<=l2.length)))<|
 chk (decide ((List.take 2 l2).length<=4)&&(List.take 2 l2).all fun x=>decide (0<=x/\x<256))<|
 chk (true&&(true&&decide (0<=6/\6<=l2.length)))<|
 chk (cG (List.take 6 l2))<|
 chk (true&&(true&&decide (6<=8/\8<=l2.length)))<|
 lt ((List.take 2 (List.drop 6 l2)):LI0) fun l4=>
 chk (decide (l4.length<=4)&&l4.all fun x=>decide (0<=x/\x<256))<|
 bif ((cA (List.take 6 l2)) !=(dm l4))then
 some ([.l ([]:LI0),.i 0,.i 0,.i 2])
 else
 bif (decide ((dm (List.take 2 l2))>60000))then
 some ([.l ([]:LI0),.i 0,.i 0,.i 2])
 else
 bif decide ((w64 ((l2.length:Int)-8))<(w64 ((dm (List.take 2 l2))+2)))then
 some ([.l ([]:LI0),.i 0,.i 0,.i 1])
 else
 lt ((w64 (8+(dm (List.take 2 l2)))):Int) fun x9=>
 chk (decide (0<=x9)&&(true&&decide (8<=x9.toNat/\x9.toNat<=l2.length)))<|
 lt ((List.take (x9.toNat-8) (List.drop 8 l2)):LI0) fun l10=>
 chk (cG l10)<|
 lt ((w64 (8+(dm (List.take 2 l2)))):Int) fun x11=>
 lt ((w64 (8+(dm (List.take 2 l2)))):Int) fun x12=>
 chk (decide (0<=(w64 (x12+2)))&&(decide (0<=x11)&&decide (x11.toNat<=(w64 (x12+2)).toNat/\(w64 (x12+2)).toNat<=l2.length)))<|
 lt ((List.take (((w64 (x12+2)).toNat)-x11.toNat) (List.drop x11.toNat l2)):LI0) fun l13=>
 chk (decide (l13.length<=4)&&l13.all fun x=>decide (0<=x/\x<256))<|
 bif ((cA l10) !=(dm l13))then
 some ([.l ([]:LI0),.i 0,.i 0,.i 2])
 else
 chk (decide (l10.length<1000000))<|
 chk (true&&(true&&decide (2<=6/\6<=l2.length)))<|
 lt ((List.take 4 (List.drop 2 l2)):LI0) fun l15=>
 chk (decide (l15.length<=4)&&l15.all fun x=>decide (0<=x/\x<256))<|
 some ([.l l10,.i (dm l15),.i (w64 ((w64 ((w64 (a1+8))+(dm (List.take 2 l2))))+2)),.i 0])
def f122:LI0 × Int->Bool × List Un:=fun(a0,a1)=>(cG a0,[.l ((dW a0 a1).text),.i ((dW a0 a1).seq),.i ((dW a0 a1).next),.i ((dW a0 a1).how)])
theorem H5:ER 122 (mkE VN.en VN.ex f122):=ak ae XK.right (fun m=>[]) (t:=t122) (by kernel_rfl) (fun m=>az) (fun m a=>by kernel_rfl) fun(a0,a1) hc=>by
 dsimp only[f122]at hc⊢;obtain⟨hl,hb⟩:=eC.1 hc;refine⟨0, ?_⟩;unfold t122 dW
 try dsimp only
 by_cases h0:a1<0
 . rw[aL h0,zaa h0];rfl
 rw[ay h0,zan h0]
 by_cases h1:a1>(a0.length:Int)
 . rw[aL h1,zaa h1];rfl
 rw[ay h1,zan h1];refine al (by rw[zaa (show 0<=a1 by omega),zaa (show a1.toNat<=a0.length/\a0.length<=a0.length by omega)];rfl) ?_
 dsimp only[lt,Bool.or_self,cond_false];rw[zbq (show(List.drop a1.toNat a0).length<=a0.length-a1.toNat by rw[zbd];omega)];have hbr:∀x∈List.drop a1.toNat a0,0<=x/\x<256:=fun x hx=>hb x (List.mem_of_mem_drop hx)
 have hlr:(List.drop a1.toNat a0).length<=1000000:=by rw[zbd];omega
 generalize List.drop a1.toNat a0=r at*
 unfold jL
 by_cases h2:(r.length:Int)<8
 . rw[aL h2,zaa h2];rfl
 rw[ay h2,zan h2];have bt:∀k,∀x∈List.take k r,0<=x/\x<256:=fun k x hx=>hbr x (List.mem_of_mem_take hx)
 have bd:∀j k,∀x∈List.take k (List.drop j r),0<=x/\x<256:=fun j k x hx=>hbr x (List.mem_of_mem_drop (List.mem_of_mem_take hx))
 have few:∀(l:LI0),l.length<=4->(∀x∈l,0<=x/\x<256)->(decide (l.length<=4)&&l.all fun x=>decide (0<=x/\x<256))=true:=fun l h k=>by
  rw[zaa h,zbb,zam];exact fun x hx=>zaa (k x hx)
 have tl:∀k,(List.take k r).length<=k:=fun k=>by rw[zas];omega
 have dl:∀j k,(List.take k (List.drop j r)).length<=k:=fun j k=>by rw[zas];omega
 have tr:∀(k:Nat),k<=r.length->(true&&(true&&decide (0<=k/\k<=r.length)))=true:=fun k h=>by rw[zaa (show 0<=k/\k<=r.length by omega)];rfl
 have tr2:∀(j k:Nat),j<=k->k<=r.length->(true&&(true&&decide (j<=k/\k<=r.length)))=true:=fun j k h h'=>by rw[zaa (show j<=k/\k<=r.length from⟨h,h'⟩)];rfl
 have n0:=Ds _ (bt 2) 0 (by omega);rw[show List.foldl (fun n x=>n*256+x) 0 (List.take 2 r)=dm (List.take 2 r) from rfl]at n0;refine al (tr 2 (by omega)) (al (few _ (by have:=tl 2;omega) (bt 2)) (al (tr 6 (by omega)) (al (eC.2 ⟨by have:=tl 6;omega,bt 6⟩) (al (tr2 6 8 (by decide) (by omega)) (al (few _ (by have:=dl 6 2;omega) (bd 6 2)) ?_)))));cases (cA (List.take 6 r) !=dm (List.take 2 (List.drop 6 r)))
 case true=>rfl
 by_cases h3:dm (List.take 2 r)>60000
 . rw[zal,aL h3,zaa h3];rfl
 rw[zal,ay h3,zan h3];generalize dm (List.take 2 r)=n at*
 rw[aa (n:=(r.length:Int)-8) (by omega) (by omega),aa (n:=n+2) (by omega) (by omega),aa (n:=8+n) (by omega) (by omega),aa (n:=8+n+2) (by omega) (by omega)]
 by_cases h4:(r.length:Int)-8<n+2
 . rw[aL h4,zaa h4];rfl
 rw[ay h4,zan h4];have e8:(8+n).toNat=8+n.toNat:=by omega
 have e10:(8+n+2).toNat=8+n.toNat+2:=by omega
 rw[e8,e10,show 8+n.toNat-8=n.toNat by omega,show 8+n.toNat+2-(8+n.toNat)=2 by omega];refine al (by rw[zaa (show 0<=8+n by omega),zaa (show 8<=8+n.toNat/\8+n.toNat<=r.length by omega)];rfl) (al (eC.2 ⟨by have:=dl 8 n.toNat;omega,bd 8 n.toNat⟩) (al (by rw[zaa (show 0<=8+n+2 by omega),zaa (show 0<=8+n by omega),zaa (show 8+n.toNat<=8+n.toNat+2/\8+n.toNat+2<=r.length by omega)];rfl) (al (few _ (by have:=dl (8+n.toNat) 2;omega) (bd (8+n.toNat) 2)) ?_)));cases (cA (List.take n.toNat (List.drop 8 r)) !=dm (List.take 2 (List.drop (8+n.toNat) r)))
 case true=>rfl
 refine al (zaa (by have:=dl 8 n.toNat;omega)) (al (tr2 2 6 (by decide) (by omega)) (al (few _ (by have:=dl 2 4;omega) (bd 2 4)) ?_));rw[aa (n:=a1+8) (by omega) (by omega),aa (n:=a1+8+n) (by omega) (by omega),aa (n:=a1+8+n+2) (by omega) (by omega),show a1+8+n+2=a1+10+n by omega];rfl
def aeA:TB:=XK.ad H5
def ac0:OpR->List Un:=fun r=>[.l r.text,.i r.seq,.i r.next,.i r.how]
def ade:LI0 × Int->Bool × OpR:=fun(a0,a1)=>(cG a0,(dW a0 a1))
theorem MY:ER 122 (mkB VN.en VN.ex ade ac0):=rebind H5 fun(a0,a1)=>rfl
def L5:TB:=aeA.ad MY
@[ext] structure eU where
 count:Int
 bad:Bool
instance : Uns eU := Uns.via (B := Int × Bool) (fun x => (x.count, x.bad)) (fun x => match x with | (count, bad) => ⟨count, bad⟩) (fun _ => rfl)
def mN (l:LI0):Dat:= .r [.r (l.map .n)]
structure WE where
 l:List Dat
 pos:Int
 ok:Bool
def jI:Nat->LI0->Int->LD0->WE
 |0,_,a,acc=>⟨acc,a,true⟩
 |k+1,b,a,acc=>
  bif decide (a<(b.length:Int))then
   bif (dW b a).how==1 then⟨acc,a,true⟩
   else bif (dW b a).how==2 then⟨[],0,false⟩
   else bif (dW b a).seq !=(acc.length:Int)+1 then⟨[],0,false⟩
   else jI k b (dW b a).next (acc++[mN (dW b a).text])
  else⟨acc,a,true⟩
def cF (b:LI0):WE:=jI (b.length+1) b 0 []
theorem ID {r:LI0} {a:Int} (h1:(jL r a).how≠1) (h2:(jL r a).how≠2):(jL r a).next=a+10+dm (r.take 2)/\dm (r.take 2)+10<=(r.length:Int):=by
 unfold jL at h1 h2⊢
 by_cases c1:(r.length:Int)<8
 . rw[zaa c1]at h1;exact absurd rfl h1
 rw[zan c1]at h1 h2⊢;simp only[zal]at h1 h2⊢;cases c2:(cA (r.take 6) !=dm ((r.drop 6).take 2))
 case true=>rw[c2]at h2;exact absurd rfl h2
 rw[c2]at h1 h2;simp only[zal]at h1 h2⊢
 by_cases c3:dm (r.take 2)>60000
 . rw[zaa c3]at h2;exact absurd rfl h2
 rw[zan c3]at h1 h2⊢;simp only[zal]at h1 h2⊢
 by_cases c4:(r.length:Int)-8<dm (r.take 2)+2
 . rw[zaa c4]at h1;exact absurd rfl h1
 rw[zan c4]at h1 h2⊢;simp only[zal]at h1 h2⊢;cases c5:(cA ((r.drop 8).take (dm (r.take 2)).toNat) !=dm ((r.drop (8+(dm (r.take 2)).toNat)).take 2))
 case true=>rw[c5]at h2;exact absurd rfl h2
 simp only[zal];exact⟨trivial,by omega⟩
theorem pw {b:LI0} {a:Int} (h0:0<=a) (h1:a<=(b.length:Int)):dW b a=jL (b.drop a.toNat) a:=by
 unfold dW;rw[zan (show ¬a<0 by omega),zan (show ¬a>(b.length:Int) by omega)];rfl
theorem sC {b:LI0} {a:Int} (hb:∀x∈b,0<=x/\x<256) (h0:0<=a) (h1:a<=(b.length:Int)) (k1:(dW b a).how≠1) (k2:(dW b a).how≠2):a+10<=(dW b a).next/\(dW b a).next<=(b.length:Int):=by
 rw[pw h0 h1]at k1 k2⊢;obtain⟨e1,e2⟩:=ID k1 k2;rw[zbd]at e2;have n0:=Ds (List.take 2 (b.drop a.toNat)) (fun x hx=>hb x (List.mem_of_mem_drop (List.mem_of_mem_take hx))) 0 (by omega);rw[show List.foldl (fun n x=>n*256+x) 0 (List.take 2 (b.drop a.toNat))=dm (List.take 2 (b.drop a.toNat)) from rfl]at n0;omega
theorem Gw {b:LI0} (hb:∀x∈b,0<=x/\x<256):∀(k:Nat) (a:Int) (acc:LD0),0<=a->a<=(b.length:Int)->0<=(jI k b a acc).pos/\(jI k b a acc).pos<=(b.length:Int)
 |0,a,acc,h0,h1=>⟨h0,h1⟩
 |k+1,a,acc,h0,h1=>by
  simp only[jI]
  by_cases c:a<(b.length:Int)
  . rw[zaa c,zaw]
    by_cases k1:(dW b a).how=1
    . rw[jE k1];exact⟨h0,h1⟩
    rw[lG k1,zal]
    by_cases k2:(dW b a).how=2
    . rw[jE k2,zaw];exact⟨zcc _,(by omega:(0:Int)<=(b.length:Int))⟩
    rw[lG k2,zal];cases ((dW b a).seq !=(acc.length:Int)+1)
    . rw[zal];obtain⟨n1,n2⟩:=sC hb h0 h1 k1 k2;exact Gw hb k _ _ (by omega) n2
    . exact⟨zcc _,(by omega:(0:Int)<=(b.length:Int))⟩
  . rw[zan c];exact⟨h0,h1⟩
theorem QR {b:LI0} (hb:∀x∈b,0<=x/\x<256):0<=(cF b).pos/\(cF b).pos<=(b.length:Int):=Gw hb _ 0 [] (by omega) (by omega)
def N89:aA:=⟨L5.tab,89,⟨[.ints .u8],[],0⟩,⟨[.ab [.ints .u8],.z0,.bool],[],0⟩,[]⟩
abbrev LX:Type:=LI0 × Int × LD0
def IU (m:Nat) (k:LX->OU0):LX->OU0:=fun(a0,a1,a2)=>
 bif (decide (a1<(a0.length:Int)))then
 chk (cG a0)<|
 bd ((dW a0 a1):OpR) fun r2=>
 bif r2.how==1 then
 some ([.d a2,.i a1,.b true])
 else
 bif r2.how==2 then
 some ([.d ([]:LD0),.i 0,.b false])
 else
 bif r2.seq !=(w64 ((a2.length:Int)+1))then
 some ([.d ([]:LD0),.i 0,.b false])
 else
 chk (fits (a2.length+1) 24)<|
 k (a0,r2.next,(a2++([.r [.r (List.map .n r2.text)]])))
 else
 some ([.d a2,.i a1,.b true])
def C5 (m:Nat):Nat->LX->OU0:=aZ (IU m)
theorem Js (m:Nat) (n:Nat):C5 m (n+1)=IU m (C5 m n):=rfl
def QF (F:LX->OU0):aQ:=⟨[.lp [0,0,1,1,1],.blk 0,.code [1,1,1,1]],⟨frm 41 [(0,.ints .u8),(5,.buf 0 1),(6,.z0)],[.ab [.ints .u8]],0⟩,onU F⟩
theorem acZ (m:Nat):∀n,HO N89 (QF (C5 m n)):=an ae L5.right (fun k=>[QF k]) (fun k h=>(aI h az)) fun k a=>by kernel_rfl
def t89 (m:Nat):LI0->OU0:=fun a0=>
 C5 m m (a0,0,[])
theorem Xm (m:Nat) {b:LI0} (hl:b.length<=1000000) (hb:∀x∈b,0<=x/\x<256):∀(k n:Nat) (a:Int) (acc:LD0),k<n->(b.length:Int)-a<k->0<=a->a<=(b.length:Int)->(acc.length:Int)<=a->
 C5 m n (b,a,acc)=some [.d (jI k b a acc).l,.i (jI k b a acc).pos,.b (jI k b a acc).ok]:=by
 intro k
 induction k with
 |zero=>intro n a acc hn hk h0 h1 ha;omega
 |succ k ih=>
  intro n a acc hn hk h0 h1 ha;obtain⟨n,rfl⟩:=ah n (by omega);rw[Js];unfold IU;dsimp only;simp only[jI]
  by_cases c:a<(b.length:Int)
  . rw[zaa c,zaw,zaw];refine al (eC.2 ⟨hl,hb⟩) ?_
    dsimp only[bd]
    by_cases k1:(dW b a).how=1
    . rw[jE k1];rfl
    rw[lG k1,zal,zal]
    by_cases k2:(dW b a).how=2
    . rw[jE k2];rfl
    rw[lG k2,zal,zal,aa (n:=(acc.length:Int)+1) (by omega) (by omega)];obtain⟨n1,n2⟩:=sC hb h0 h1 k1 k2;cases ((dW b a).seq !=(acc.length:Int)+1)
    . rw[zal,zal,bD (by omega) (by omega)];exact ih n _ _ (by omega) (by omega) (by omega) n2 (by simp;omega)
    . rfl
  . rw[zan c];rfl
def f89:LI0->Bool × List Un:=fun a0=>(cG a0,[.d ((cF a0).l),.i ((cF a0).pos),.b ((cF a0).ok)])
theorem UK:ER 89 (mkE N89.en N89.ex f89):=ak ae L5.right (fun m=>[QF (C5 m m)]) (t:=t89) (by kernel_rfl) (fun m=>(aI (acZ m m) az)) (fun m a=>by kernel_rfl) fun a0 hc=>by
 dsimp only[f89]at hc⊢;obtain⟨hl,hb⟩:=eC.1 hc;exact⟨a0.length+3,Xm (a0.length+3) hl hb (a0.length+1) _ 0 [] (by omega) (by omega) (by omega) (by omega) (by simp)⟩
def T89:TB:=L5.ad UK
structure aeB where
 j:Int
 l:List Dat
 e:Int
 n:aW
 b:List Int
 c:eU
def qZ (m:aW) (b:LI0):aeB:=
 bif m.off then⟨-1,[],7,m,b,⟨0,false⟩⟩
 else bif !(cF b).ok then⟨-1,[],8,m,b,⟨0,false⟩⟩
 else bif decide ((cF b).pos<(b.length:Int))then
  bif (bz m).1 then⟨0,(cF b).l,0,{(bz m).2 with ji:=(cF b).pos},b.take (cF b).pos.toNat,⟨((cF b).l.length:Int),false⟩⟩
  else⟨-1,[],7,(bz m).2,b,⟨0,false⟩⟩
 else⟨0,(cF b).l,0,m,b,⟨((cF b).l.length:Int),false⟩⟩
structure Qu where
 e:Int
 c:eU
 n:aW
 b:List Int
def tx (x:LI0) (c:eU) (m:aW) (b:LI0):Qu:=
 bif c.bad then⟨8,c,m,b⟩
 else bif (bz m).1 then
  bif (bz (bz m).2).1 then⟨0,{c with count:=c.count+1},{(bz (bz m).2).2 with ji:=((b++bT (c.count+1) x).length:Int)},b++bT (c.count+1) x⟩
  else⟨7,{c with bad:=true},(bz (bz m).2).2,b++bT (c.count+1) x⟩
 else⟨7,{c with bad:=true},(bz m).2,b⟩
def N93:aA:=⟨T89.tab,93,⟨[.ptr 0 0 0,.ints .u8],[.cells [.ptr 1 0 0,.z0,.bool],.cells [.buf 2 1,.z0,.bool,.z0,.bool],.ints .u8],0⟩,⟨[.z0],[.cells [.ptr 1 0 0,.z0,.bool],.cells [.buf 3 1,.z0,.bool,.z0,.bool],.gone,.ints .u8],0⟩,[]⟩
def t93 (m:Nat):LI0 × eU × aW × LI0->OU0:=fun(a0,a1,a2,a3)=>
 chk (decide (0<=(w64 (a1.count+1))/\(w64 (a1.count+1))<=4294967295/\a0.length<=60000)&&cG a0)<|
 lt ((bT (w64 (a1.count+1)) a0):LI0) fun l1=>
 bif decide (l1.length=0)then
 both (
 some ([.i 1]++Uns.enc (a1:eU)++Uns.enc (a2:aW)++[.l a3])) (
 bif a1.bad then
 some ([.i 8]++Uns.enc (a1:eU)++Uns.enc (a2:aW)++[.l a3])
 else
 chk (decide (a3.length+l1.length<1000000))<|
 lt ((bif (bz a2).1 then 0 else 7:Int):Int) fun x2=>
 lt ((bif (bz a2).1 then a3++l1 else a3):LI0) fun l3=>
 bif x2==0 then
 lt ((bif (bz ((bz a2).2)).1 then 0 else 7:Int):Int) fun x4=>
 lt ((bif (bz ((bz a2).2)).1 then {(bz ((bz a2).2)).2 with ji:=(l3.length:Int)}else(bz ((bz a2).2)).2):aW) fun g5=>
 bif x4 !=0 then
 some ([.i x4]++Uns.enc (({a1 with bad:=true}:eU):eU)++Uns.enc (g5:aW)++[.l l3])
 else
 some ([.i 0]++Uns.enc (({a1 with count:=(w64 (a1.count+1))}:eU):eU)++Uns.enc (g5:aW)++[.l l3])
 else
 bif x2 !=0 then
 some ([.i x2]++Uns.enc (({a1 with bad:=true}:eU):eU)++Uns.enc (((bz a2).2):aW)++[.l l3])
 else
 some ([.i 0]++Uns.enc (({a1 with count:=(w64 (a1.count+1))}:eU):eU)++Uns.enc (((bz a2).2):aW)++[.l l3]))
 else
 bif a1.bad then
 some ([.i 8]++Uns.enc (a1:eU)++Uns.enc (a2:aW)++[.l a3])
 else
 chk (decide (a3.length+l1.length<1000000))<|
 lt ((bif (bz a2).1 then 0 else 7:Int):Int) fun x6=>
 lt ((bif (bz a2).1 then a3++l1 else a3):LI0) fun l7=>
 bif x6==0 then
 lt ((bif (bz ((bz a2).2)).1 then 0 else 7:Int):Int) fun x8=>
 lt ((bif (bz ((bz a2).2)).1 then {(bz ((bz a2).2)).2 with ji:=(l7.length:Int)}else(bz ((bz a2).2)).2):aW) fun g9=>
 bif x8 !=0 then
 some ([.i x8]++Uns.enc (({a1 with bad:=true}:eU):eU)++Uns.enc (g9:aW)++[.l l7])
 else
 some ([.i 0]++Uns.enc (({a1 with count:=(w64 (a1.count+1))}:eU):eU)++Uns.enc (g9:aW)++[.l l7])
 else
 bif x6 !=0 then
 some ([.i x6]++Uns.enc (({a1 with bad:=true}:eU):eU)++Uns.enc (((bz a2).2):aW)++[.l l7])
 else
 some ([.i 0]++Uns.enc (({a1 with count:=(w64 (a1.count+1))}:eU):eU)++Uns.enc (((bz a2).2):aW)++[.l l7])
def f93:LI0 × eU × aW × LI0->Bool × List Un:=fun(a0,a1,a2,a3)=>(decide (0<=a1.count/\a1.count<1000000/\a0.length<=60000/\a3.length<900000)&&cG a0,[.i ((tx a0 a1 a2 a3).e)]++Uns.enc (((tx a0 a1 a2 a3).c):eU)++Uns.enc (((tx a0 a1 a2 a3).n):aW)++[.l ((tx a0 a1 a2 a3).b)])
theorem Mt:ER 93 (mkE N93.en N93.ex f93):=ak ae T89.right (fun m=>[]) (t:=t93) (by kernel_rfl) (fun m=>az) (fun m a=>by kernel_rfl) fun(a0,a1,a2,a3) hc=>by
 dsimp only[f93]at hc⊢;rw[zae]at hc;obtain⟨hd,hb⟩:=hc;obtain⟨h0,h1,h2,h3⟩:=zaj hd;have hs:=iA (a1.count+1) a0;refine⟨0, ?_⟩;unfold t93 tx
 try dsimp only
 rw[aa (n:=a1.count+1) (by omega) (by omega)];refine al (by rw[zaa (show 0<=a1.count+1/\a1.count+1<=4294967295/\a0.length<=60000 by omega),hb];rfl) ?_
 dsimp only[lt];generalize bT (a1.count+1) a0=s at*
 refine cm (zan (by omega)) ?_
 cases a1.bad
 case true=>rfl
 rw[zal,zal];refine al (zaa (by omega)) ?_
 cases (bz a2).1
 case false=>rfl
 cases (bz (bz a2).2).1<;>rfl
def T93:TB:=T89.ad Mt
def ae0:Qu->List Un:=fun r=>[.i r.e]++Uns.enc (r.c:eU)++Uns.enc (r.n:aW)++[.l r.b]
def aeO:LI0 × eU × aW × LI0->Bool × Qu:=fun(a0,a1,a2,a3)=>(decide (0<=a1.count/\a1.count<1000000/\a0.length<=60000/\a3.length<900000)&&cG a0,(tx a0 a1 a2 a3))
theorem Rk:ER 93 (mkB N93.en N93.ex aeO ae0):=rebind Mt fun(a0,a1,a2,a3)=>rfl
def IS:TB:=T93.ad Rk
def dk (d:Dat):LI0:=[d.i 0,d.i 1]
def lM (d:Dat):LI0:=[d.i 0,d.i 1,d.i 2]
def bU (f:Dat->LI0) (l:LD0):LI0:=(l.length:Int)::l.flatMap f
def iD (d:aT):LI0:=[d.a.year,d.a.month,d.a.basis,d.b.fee,d.b.bq,d.b.target,d.b.advance,d.b.eX,d.b.oc,d.b.ic,d.b.late,d.b.lv,d.b.clean]++(bU dk d.aC++(bU lM d.notes++(bU dk d.s0++(bU dk d.s1++bU dk d.s2))))
def dF (d:aT):LI0:=bif (cI d).isSome then cQ (iD d)else[]
def N15:aA:=⟨IS.tab,15,⟨[.agg [.z0,.z0,.z0,.ab (sI 2),.ab (sI 3),.z0,.z0,.z0,.z0,.z0,.z0,.z0,.z0,.z0,.z0,.ab (sI 2),.ab (sI 2),.ab (sI 2)]],[],0⟩,⟨[.buf 0 1],[.ints .u8],0⟩,[]⟩
abbrev Ll:Type:=LD0 × LD0 × LD0 × Int × LD0 × Int × Int × LI0
abbrev rA:Type:=LD0 × LD0 × LD0 × Int × LI0
abbrev Me:Type:=LD0 × Int × Int × aT × LI0
abbrev K0:Type:=LD0 × Int × Int × aT × LI0
def FE (m:Nat) (k2:rA->OU0) (k:Ll->OU0):Ll->OU0:=fun(a0,a1,a2,a3,a4,a5,a6,a7)=>
 bif decide (a6<a5)then
 chk (inb a6 a4.length)<|
 chk (decide (a6.toNat<a4.length))<|
 lt (ai a4 a6.toNat:Dat) fun d7=>
 chk (fits (a7.length+2) 8)<|
 k (a0,a1,a2,a3,a4,a5,(w64 (a6+1)),(a7++([(d7.i 0),(d7.i 1)])))
 else
 k2 (a0,a1,a2,(w64 (a3+1)),a7)
def zj (m:Nat) (k2:rA->OU0):Nat->Ll->OU0:=aZ (FE m k2)
theorem Bl (m:Nat) (k2:rA->OU0) (n:Nat):zj m k2 (n+1)=FE m k2 (zj m k2 n):=rfl
def Qg (F:Ll->OU0):aQ:=⟨[.lp [0,1,1,1,0,0,1,1,0,0,1,0,1,1,1,1,1,1,1,1],.blk 6,.blk 5,.code [1,1,1,0,0,1,0,1,1,1,1,1,1,1,1],.lp [0,1,0,1,1,1,1,1,1,1,1],.blk 4,.code [1,1,1,1,1,1,1,1,1]],⟨frm 116 [(4,.buf 0 1),(90,.agg [.ab (sI 2),.ab (sI 2),.ab (sI 2)]),(91,.z0),(99,.ab (sI 2)),(100,.z0),(101,.z0)],[.ints .i64],0⟩,onU F⟩
def u7 (m:Nat) (k:rA->OU0):rA->OU0:=fun(a0,a1,a2,a3,a4)=>
 bif decide (a3<3)then
 chk (inb a3 3)<|
 chk (decide (a3.toNat<3))<|
 chk (fits (a4.length+1) 8)<|
 zj m k m (a0,a1,a2,a3,(List.getD [a0,a1,a2] a3.toNat []),((List.getD [a0,a1,a2] a3.toNat []).length:Int),0,(a4++([((List.getD [a0,a1,a2] a3.toNat []).length:Int)])))
 else
 chk (decide (a4.length<=1000000))<|
 some ([.l (cQ a4)])
def zC (m:Nat):Nat->rA->OU0:=aZ (u7 m)
theorem oC (m:Nat) (n:Nat):zC m (n+1)=u7 m (zC m n):=rfl
def L4 (F:rA->OU0):aQ:=⟨[.lp [0,1,0,1,1,1,1,1,1,1,1],.blk 4,.code [1,1,1,1,1,1,1,1,1]],⟨frm 116 [(4,.buf 0 1),(90,.agg [.ab (sI 2),.ab (sI 2),.ab (sI 2)]),(91,.z0)],[.ints .i64],0⟩,onU F⟩
def Ew (m:Nat) (k:Me->OU0):Me->OU0:=fun(a0,a1,a2,a3,a4)=>
 bif decide (a2<a1)then
 chk (inb a2 a0.length)<|
 chk (decide (a2.toNat<a0.length))<|
 lt (ai a0 a2.toNat:Dat) fun d4=>
 chk (fits (a4.length+3) 8)<|
 k (a0,a1,(w64 (a2+1)),a3,(a4++([(d4.i 0),(d4.i 1),(d4.i 2)])))
 else
 zC m m (a3.s0,a3.s1,a3.s2,0,a4)
def z8 (m:Nat):Nat->Me->OU0:=aZ (Ew m)
theorem A4 (m:Nat) (n:Nat):z8 m (n+1)=Ew m (z8 m n):=rfl
def Pp (F:Me->OU0):aQ:=⟨[.lp [0,1,0,1,1,1,1,1,1,1],.blk 2,.code [1,1,1,1,1,1,1,1]],⟨frm 116 [(1,.ptr 0 0 0),(4,.buf 1 1),(73,.ab (sI 3)),(74,.z0),(75,.z0)],[.cells [.z0,.z0,.z0,.ab (sI 2),.ab (sI 3),.z0,.z0,.z0,.z0,.z0,.z0,.z0,.z0,.z0,.z0,.ab (sI 2),.ab (sI 2),.ab (sI 2)],.ints .i64],0⟩,onU F⟩
def Fz (m:Nat) (k:K0->OU0):K0->OU0:=fun(a0,a1,a2,a3,a4)=>
 bif decide (a2<a1)then
 chk (inb a2 a0.length)<|
 chk (decide (a2.toNat<a0.length))<|
 lt (ai a0 a2.toNat:Dat) fun d1=>
 chk (fits (a4.length+2) 8)<|
 k (a0,a1,(w64 (a2+1)),a3,(a4++([(d1.i 0),(d1.i 1)])))
 else
 chk (fits (a4.length+1) 8)<|
 z8 m m (a3.notes,(a3.notes.length:Int),0,a3,(a4++([(a3.notes.length:Int)])))
def Dk (m:Nat):Nat->K0->OU0:=aZ (Fz m)
theorem AM (m:Nat) (n:Nat):Dk m (n+1)=Fz m (Dk m n):=rfl
def Ox (F:K0->OU0):aQ:=⟨[.lp [0,1,0,1,1,1,1,1],.blk 0,.code [1,1,1,1,1,1]],⟨frm 116 [(1,.ptr 0 0 0),(4,.buf 1 1),(52,.ab (sI 2)),(53,.z0),(54,.z0)],[.cells [.z0,.z0,.z0,.ab (sI 2),.ab (sI 3),.z0,.z0,.z0,.z0,.z0,.z0,.z0,.z0,.z0,.z0,.ab (sI 2),.ab (sI 2),.ab (sI 2)],.ints .i64],0⟩,onU F⟩
theorem acz (m:Nat) (k2:rA->OU0) (h2:HO N15 (L4 k2)):∀n,HO N15 (Qg (zj m k2 n)):=an ae IS.right (fun k=>[L4 k2,Qg k]) (fun k h=>(aI h2 (aI h az))) fun k a=>by kernel_rfl
theorem abv (m:Nat):∀n,HO N15 (L4 (zC m n)):=an ae IS.right (fun k=>[Qg (zj m (k) m)]) (fun k h=>(aI (acz m _ h m) az)) fun k a=>by kernel_rfl
theorem abQ (m:Nat):∀n,HO N15 (Pp (z8 m n)):=an ae IS.right (fun k=>[Pp k,L4 (zC m m)]) (fun k h=>(aI h (aI (abv m m) az))) fun k a=>by kernel_rfl
theorem acJ (m:Nat):∀n,HO N15 (Ox (Dk m n)):=an ae IS.right (fun k=>[Ox k,Pp (z8 m m)]) (fun k h=>(aI h (aI (abQ m m) az))) fun k a=>by kernel_rfl
def t15 (m:Nat):aT->OU0:=fun a0=>
 bif !((cI a0).isSome)then
 some ([.l ([])])
 else
 Dk m m (a0.aC,(a0.aC.length:Int),0,a0,([a0.a.year,a0.a.month,a0.a.basis,a0.b.fee,a0.b.bq,a0.b.target,a0.b.advance,a0.b.eX,a0.b.oc,a0.b.ic,a0.b.late,a0.b.lv,a0.b.clean,(a0.aC.length:Int)]:LI0))
theorem aeP (m:Nat) (d:aT):∀(rest pre:LD0) (n:Nat) (acc:LI0),rest.length<n->(pre++rest).length<=1000000->acc.length+2*rest.length<=1000000->Dk m n (pre++rest,((pre++rest).length:Int),(pre.length:Int),d,acc)=z8 m m (d.notes,(d.notes.length:Int),0,d,acc++rest.flatMap dk++[(d.notes.length:Int)]):=by
 intro rest
 induction rest with
 |nil=>
  intro pre n acc hn hl ha;obtain⟨n,rfl⟩:=ah n (by simp at hn;omega);simp only[zar]at ha;rw[AM];unfold Fz;dsimp only;rw[ay (by simp),bD (by omega) (by omega)];simp
 |cons x rest ih=>
  intro pre n acc hn hl ha;obtain⟨n,rfl⟩:=ah n (by simp at hn;omega);simp only[zac]at hn ha;have:=ih (pre++[x]) n (acc++dk x) (by omega) (by simpa using hl) (by simp[dk];omega);simp only[zab,zac]at hl;rw[AM];unfold Fz;dsimp only;rw[aL (by simp only[zab,zac];omega),bQ (by omega) (by simp only[zab,zac];omega),aJ (by simp),aa (n:=(pre.length:Int)+1) (by omega) (by omega)];simp only[lt_eq,zau,ax];rw[bD (by omega) (by omega)];rw[show acc++[x.i 0,x.i 1]=acc++dk x from rfl];simp only[zaX,zaq,zaC,zat,zab,zac,zar,zaF]at this⊢;exact this
theorem aeM (m:Nat) (d:aT):∀(rest pre:LD0) (n:Nat) (acc:LI0),rest.length<n->(pre++rest).length<=1000000->acc.length+3*rest.length<=1000000->z8 m n (pre++rest,((pre++rest).length:Int),(pre.length:Int),d,acc)=zC m m (d.s0,d.s1,d.s2,0,acc++rest.flatMap lM):=by
 intro rest
 induction rest with
 |nil=>
  intro pre n acc hn hl ha;obtain⟨n,rfl⟩:=ah n (by simp at hn;omega);rw[A4];unfold Ew;dsimp only;rw[ay (by simp)];simp
 |cons x rest ih=>
  intro pre n acc hn hl ha;obtain⟨n,rfl⟩:=ah n (by simp at hn;omega);simp only[zac]at hn ha;have:=ih (pre++[x]) n (acc++lM x) (by omega) (by simpa using hl) (by simp[lM];omega);simp only[zab,zac]at hl;rw[A4];unfold Ew;dsimp only;rw[aL (by simp only[zab,zac];omega),bQ (by omega) (by simp only[zab,zac];omega),aJ (by simp),aa (n:=(pre.length:Int)+1) (by omega) (by omega)];simp only[lt_eq,zau,ax];rw[bD (by omega) (by omega)];rw[show acc++[x.i 0,x.i 1,x.i 2]=acc++lM x from rfl];simp only[zaX,zaq,zaC,zat,zab,zac,zar,zaF]at this⊢;exact this
theorem aev (m:Nat) (k2:rA->OU0) (x0 x1 x2:LD0) (j:Int):∀(rest pre:LD0) (n:Nat) (acc:LI0),rest.length<n->(pre++rest).length<=1000000->acc.length+2*rest.length<=1000000->zj m k2 n (x0,x1,x2,j,pre++rest,((pre++rest).length:Int),(pre.length:Int),acc)=k2 (x0,x1,x2,w64 (j+1),acc++rest.flatMap dk):=by
 intro rest
 induction rest with
 |nil=>
  intro pre n acc hn hl ha;obtain⟨n,rfl⟩:=ah n (by simp at hn;omega);rw[Bl];unfold FE;dsimp only;rw[ay (by simp)];simp
 |cons x rest ih=>
  intro pre n acc hn hl ha;obtain⟨n,rfl⟩:=ah n (by simp at hn;omega);simp only[zac]at hn ha;have:=ih (pre++[x]) n (acc++dk x) (by omega) (by simpa using hl) (by simp[dk];omega);simp only[zab,zac]at hl;rw[Bl];unfold FE;dsimp only;rw[aL (by simp only[zab,zac];omega),bQ (by omega) (by simp only[zab,zac];omega),aJ (by simp),aa (n:=(pre.length:Int)+1) (by omega) (by omega)];simp only[lt_eq,zau,ax];rw[bD (by omega) (by omega)];rw[show acc++[x.i 0,x.i 1]=acc++dk x from rfl];simp only[zaX,zaq,zaC,zat,zab,zac,zar,zaF]at this⊢;exact this
theorem ae9 (m:Nat) (hm:100<m) (x0 x1 x2:LD0) (h0:x0.length<=16) (h1:x1.length<=16) (h2:x2.length<=16) (n:Nat) (acc:LI0) (ha:acc.length<=900000):zC m (n+4) (x0,x1,x2,0,acc)=some [.l (cQ (acc++bU dk x0++bU dk x1++bU dk x2))]:=by
 have fl:∀x:LD0,(bU dk x).length=2*x.length+1:=fun x=>by
  have:∀l:LD0,(l.flatMap dk).length=2*l.length:=fun l=>by
   induction l with
   |nil=>rfl
   |cons y l ih=>simp only[zaX,zab,ih,dk,zac,zar];omega
  simp only[bU,zac,this]
 have e:∀(x:LD0) (z:LI0),z++[(x.length:Int)]++x.flatMap dk=z++bU dk x:=fun x z=>by simp[bU]
 have go:∀(x:LD0) (z:LI0) (j:Int) (k2:rA->OU0),x.length<=16->z.length<=990000->(chk (fits (z.length+1) 8)<|zj m k2 m (x0,x1,x2,j,x,(x.length:Int),0,z++[(x.length:Int)]))=k2 (x0,x1,x2,w64 (j+1),z++bU dk x):=fun x z j k2 hx hz=>by
  rw[bD (by omega) (by omega)];have:=aev m k2 x0 x1 x2 j x [] m (z++[(x.length:Int)]) (by omega) (by simp;omega) (by simp;omega);rw[e]at this;exact this
 rw[oC];unfold u7;dsimp only;refine(cu rfl (al rfl (al rfl (go x0 acc 0 _ h0 (by omega))))).trans ?_
 rw[show w64 ((0:Int)+1)=1 by decide,oC];unfold u7;dsimp only;refine(cu rfl (al rfl (al rfl (go x1 _ 1 _ h1 (by have:=fl x0;simp only[zab];omega))))).trans ?_
 rw[show w64 ((1:Int)+1)=2 by decide,oC];unfold u7;dsimp only;refine(cu rfl (al rfl (al rfl (go x2 _ 2 _ h2 (by have:=fl x0;have:=fl x1;simp only[zab];omega))))).trans ?_
 rw[show w64 ((2:Int)+1)=3 by decide,oC];unfold u7;dsimp only;exact cm rfl (al (zaa (by have:=fl x0;have:=fl x1;have:=fl x2;simp only[zab];omega)) rfl)
def f15:aT->Bool × List Un:=fun a0=>(true,[.l (dF a0)])
theorem Ux:ER 15 (mkE N15.en N15.ex f15):=ak ae IS.right (fun m=>[Ox (Dk m m)]) (t:=t15) (by kernel_rfl) (fun m=>(aI (acJ m m) az)) (fun m a=>by kernel_rfl) fun a0 hc=>by
 dsimp only[f15]at⊢;refine⟨2000, ?_⟩;unfold t15 dF
 try dsimp only
 cases hs:(cI a0).isSome
 case false=>rfl
 have D:=dU hs;have h1:=D.JC;have h2:=D.NG;have h3:=bL D.s0;have h4:=bL D.s1;have h5:=bL D.s2;dsimp only[Bool.not_true,cond_false,cond_true];have e0:=aeP 2000 a0 a0.aC [] 2000 [a0.a.year,a0.a.month,a0.a.basis,a0.b.fee,a0.b.bq,a0.b.target,a0.b.advance,a0.b.eX,a0.b.oc,a0.b.ic,a0.b.late,a0.b.lv,a0.b.clean,(a0.aC.length:Int)] (by omega) (by simp;omega) (by simp;omega);refine e0.trans ?_
 have fl:∀l:LD0,(l.flatMap dk).length=2*l.length:=fun l=>by
  induction l with
  |nil=>rfl
  |cons y l ih=>simp only[zaX,zab,ih,dk,zac,zar];omega
 have fl3:∀l:LD0,(l.flatMap lM).length=3*l.length:=fun l=>by
  induction l with
  |nil=>rfl
  |cons y l ih=>simp only[zaX,zab,ih,lM,zac,zar];omega
 refine(aeM 2000 a0 a0.notes [] 2000 _ (by omega) (by simp;omega) (by simp only[zab,zac,zar,fl];omega)).trans ?_
 refine(ae9 2000 (by omega) a0.s0 a0.s1 a0.s2 h3.2 h4.2 h5.2 1996 _ (by simp only[zab,zac,zar,fl,fl3];omega)).trans ?_
 simp[iD,bU]
def T15:TB:=IS.ad Ux
def cv:Nat->RdR->LD0 × RdR
 |0,r=>([],r)
 |k+1,r=>(.r [.n (nx r).v,.n (nx (nx r)).v]::(cv k (nx (nx r))).1,(cv k (nx (nx r))).2)
theorem MP:∀(k:Nat) {r:RdR},RdI r->RdI (cv k r).2
 |0,r,h=>h
 |k+1,r,h=>MP k (bK (bK h))
structure HD where
 d:aT
 r:RdR
def dX (r:RdR) (most:Int):LD0 × RdR:=cv (mx r most).v.toNat (mx r most)
def tq (r:RdR) (most:Int):LD0 × RdR:=fc (mx r most).v.toNat (mx r most)
def Eg (r1:RdR):av × aw:=
 let r2:=nx r1;let r3:=nx r2;let r4:=nx r3;let r5:=nx r4;let r6:=nx r5;let r7:=nx r6;let r8:=nx r7;let r9:=nx r8;let r10:=nx r9;let r11:=nx r10;let r12:=nx r11;let r13:=nx r12
 (⟨r1.v,r2.v,r3.v⟩,⟨r4.v,r5.v,r6.v,r7.v,r8.v,r9.v,r10.v,r11.v,r12.v,r13.v⟩)
def PY (a:av) (b:aw) (r13:RdR):HD:=
 let p:=dX r13 64
 let q:=tq p.2 8
 let u:=dX q.2 16
 let v:=dX u.2 16
 let w:=dX v.2 16
 ⟨⟨a,p.1,q.1,b,u.1,v.1,w.1⟩,w.2⟩
def dQ (o n:Int) (bad:Bool) (l:LI0):HD:=
 PY (Eg (rdN o n bad l)).1 (Eg (rdN o n bad l)).2 (nx (nx (nx (nx (nx (nx (nx (nx (nx (nx (nx (nx (rdN o n bad l)))))))))))))
theorem Nf {r:RdR} {most:Int} (h:0<=most):0<=(mx r most).v/\(mx r most).v<=most:=Hi h
theorem mX {r:RdR} {most:Int} (h:RdI r):RdI (dX r most).2:=MP _ (uE h)
theorem LZ {r:RdR} {most:Int} (h:RdI r):RdI (tq r most).2:=Fx _ (uE h)
def Ec:aA:=⟨T15.tab,124,⟨[.ptr 0 0 0],[.cells [.sl 1 1,.bool],.ints .i64],0⟩,⟨[.agg [.z0,.z0,.z0,.buf 2 2,.buf 3 3,.z0,.z0,.z0,.z0,.z0,.z0,.z0,.z0,.z0,.z0,.buf 4 2,.buf 5 2,.buf 6 2]],[.cells [.sl 1 1,.bool],.ints .i64,.ab (sI 2),.ab (sI 3),.ab (sI 2),.ab (sI 2),.ab (sI 2)],0⟩,[[0,1,0,1,1]]⟩
abbrev EW:Type:=Int × Int × Int × Int × Int × Int × Bool × LI0 × av × aw × av × aw × LD0 × LD0 × LD0 × LD0 × LD0 × LD0 × LD0 × LD0 × LD0 × LD0
abbrev mr:Type:=Int × Int × Int × Bool × LI0 × av × aw × av × aw × LD0 × LD0 × LD0 × LD0 × LD0 × LD0 × LD0 × LD0 × LD0 × LD0
abbrev EK:Type:=Int × Int × Int × Int × Bool × LI0 × av × aw × av × aw × LD0 × LD0 × LD0 × LD0 × LD0 × LD0 × LD0 × LD0 × LD0 × LD0
abbrev EH:Type:=Int × Int × Int × Int × Bool × LI0 × av × aw × av × aw × LD0 × LD0 × LD0 × LD0 × LD0 × LD0 × LD0 × LD0 × LD0 × LD0
def m7 (m:Nat) (k3:mr->OU0) (k:EW->OU0):EW->OU0:=fun(a0,a1,a2,a3,a4,a5,a6,a7,a8,a9,a10,a11,a12,a13,a14,a15,a16,a17,a18,a19,a20,a21)=>
 bif decide (a3<a2)then
 chk (decide ((a4.toNat:Int).toNat+(a5.toNat:Int).toNat<=a7.length))<|
 bd ((rdN (a4.toNat:Int) (a5.toNat:Int) a6 a7):RdR) fun r24=>
 bif decide (a0=0)then
 chk (decide ((r24.o.toNat:Int).toNat+(r24.n.toNat:Int).toNat<=r24.l.length))<|
 bd ((rdN (r24.o.toNat:Int) (r24.n.toNat:Int) r24.bad r24.l):RdR) fun r25=>
 chk (fits (a19.length+1) 16)<|
 bif decide (a0=0)then
 k (a0,a1,a2,(w64 (a3+1)),(r25.o.toNat:Int),(r25.n.toNat:Int),r25.bad,r25.l,a8,a9,a10,a11,a12,a13,a14,a15,a16,a17,a18,(a19++([.r [.n r24.v,.n r25.v]])),a20,a21)
 else
 bif decide (a0=1)then
 none
 else
 bif decide (a0=2)then
 none
 else
 none
 else
 bif decide (a0=1)then
 chk (decide ((r24.o.toNat:Int).toNat+(r24.n.toNat:Int).toNat<=r24.l.length))<|
 bd ((rdN (r24.o.toNat:Int) (r24.n.toNat:Int) r24.bad r24.l):RdR) fun r27=>
 chk (fits (a20.length+1) 16)<|
 bif decide (a0=0)then
 none
 else
 bif decide (a0=1)then
 k (a0,a1,a2,(w64 (a3+1)),(r27.o.toNat:Int),(r27.n.toNat:Int),r27.bad,r27.l,a8,a9,a10,a11,a12,a13,a14,a15,a16,a17,a18,a19,(a20++([.r [.n r24.v,.n r27.v]])),a21)
 else
 bif decide (a0=2)then
 none
 else
 none
 else
 bif decide (a0=2)then
 chk (decide ((r24.o.toNat:Int).toNat+(r24.n.toNat:Int).toNat<=r24.l.length))<|
 bd ((rdN (r24.o.toNat:Int) (r24.n.toNat:Int) r24.bad r24.l):RdR) fun r29=>
 chk (fits (a21.length+1) 16)<|
 bif decide (a0=0)then
 none
 else
 bif decide (a0=1)then
 none
 else
 bif decide (a0=2)then
 k (a0,a1,a2,(w64 (a3+1)),(r29.o.toNat:Int),(r29.n.toNat:Int),r29.bad,r29.l,a8,a9,a10,a11,a12,a13,a14,a15,a16,a17,a18,a19,a20,(a21++([.r [.n r24.v,.n r29.v]])))
 else
 none
 else
 none
 else
 k3 ((w64 (a1+1)),(a4.toNat:Int),(a5.toNat:Int),a6,a7,a8,a9,a10,a11,a12,a13,a14,a15,a16,a17,a18,a19,a20,a21)
def pH (m:Nat) (k3:mr->OU0):Nat->EW->OU0:=aZ (m7 m k3)
theorem iN (m:Nat) (k3:mr->OU0) (n:Nat):pH m k3 (n+1)=m7 m k3 (pH m k3 n):=rfl
def JU (F:EW->OU0):aQ:=⟨[.lp [0,1,1,0,0,1,1,0,0,1,0,1,1,1,1,1],.blk 8,.blk 7,.code [1,1,1,0,0,1,0,1,1,1,1,1],.lp [0,1,0,1,1,1,1,1],.blk 6,.code [1,1,1,1,1,1]],⟨frm 100 [(0,.ptr 0 0 0),(2,.ptr 2 0 0),(3,.ptr 3 0 0),(9,.z0),(75,.z0),(79,.z0),(80,.z0)],[.cells [.sl 1 1,.bool],.ints .i64,.cells [.z0,.z0,.z0,.buf 4 2,.buf 5 3,.z0,.z0,.z0,.z0,.z0,.z0,.z0,.z0,.z0,.z0,.buf 6 2,.buf 7 2,.buf 8 2],.cells [.z0,.z0,.z0,.buf 9 2,.buf 10 3,.z0,.z0,.z0,.z0,.z0,.z0,.z0,.z0,.z0,.z0,.buf 11 2,.buf 12 2,.buf 13 2],.ab (sI 2),.ab (sI 3),.ab (sI 2),.ab (sI 2),.ab (sI 2),.ab (sI 2),.ab (sI 3),.ab (sI 2),.ab (sI 2),.ab (sI 2)],0⟩,onU F⟩
def qU (m:Nat) (k:mr->OU0):mr->OU0:=fun(a0,a1,a2,a3,a4,a5,a6,a7,a8,a9,a10,a11,a12,a13,a14,a15,a16,a17,a18)=>
 bif decide (a0<3)then
 chk (decide ((a1.toNat:Int).toNat+(a2.toNat:Int).toNat<=a4.length))<|
 bd ((rdM (a1.toNat:Int) (a2.toNat:Int) a3 a4 16):RdR) fun r23=>
 pH m k m (a0,a0,r23.v,0,(r23.o.toNat:Int),(r23.n.toNat:Int),r23.bad,r23.l,a5,a6,a7,a8,a9,a10,a11,a12,a13,a14,a15,a16,a17,a18)
 else
 some (Uns.enc (a7:av)++Uns.enc (a8:aw)++[.i (a1.toNat:Int),.i (a2.toNat:Int),.b a3,.l a4,.d a14,.d a15,.d a16,.d a17,.d a18])
def ma (m:Nat):Nat->mr->OU0:=aZ (qU m)
theorem mU (m:Nat) (n:Nat):ma m (n+1)=qU m (ma m n):=rfl
def DM (F:mr->OU0):aQ:=⟨[.lp [0,1,0,1,1,1,1,1],.blk 6,.code [1,1,1,1,1,1]],⟨frm 100 [(0,.ptr 0 0 0),(2,.ptr 2 0 0),(3,.ptr 3 0 0),(75,.z0)],[.cells [.sl 1 1,.bool],.ints .i64,.cells [.z0,.z0,.z0,.buf 4 2,.buf 5 3,.z0,.z0,.z0,.z0,.z0,.z0,.z0,.z0,.z0,.z0,.buf 6 2,.buf 7 2,.buf 8 2],.cells [.z0,.z0,.z0,.buf 9 2,.buf 10 3,.z0,.z0,.z0,.z0,.z0,.z0,.z0,.z0,.z0,.z0,.buf 11 2,.buf 12 2,.buf 13 2],.ab (sI 2),.ab (sI 3),.ab (sI 2),.ab (sI 2),.ab (sI 2),.ab (sI 2),.ab (sI 3),.ab (sI 2),.ab (sI 2),.ab (sI 2)],0⟩,onU F⟩
def xQ (m:Nat) (k:EK->OU0):EK->OU0:=fun(a0,a1,a2,a3,a4,a5,a6,a7,a8,a9,a10,a11,a12,a13,a14,a15,a16,a17,a18,a19)=>
 bif decide (a1<a0)then
 chk (decide ((a2.toNat:Int).toNat+(a3.toNat:Int).toNat<=a5.length))<|
 bd ((rdN (a2.toNat:Int) (a3.toNat:Int) a4 a5):RdR) fun r19=>
 chk (decide ((r19.o.toNat:Int).toNat+(r19.n.toNat:Int).toNat<=r19.l.length))<|
 bd ((rdN (r19.o.toNat:Int) (r19.n.toNat:Int) r19.bad r19.l):RdR) fun r20=>
 chk (decide ((r20.o.toNat:Int).toNat+(r20.n.toNat:Int).toNat<=r20.l.length))<|
 bd ((rdN (r20.o.toNat:Int) (r20.n.toNat:Int) r20.bad r20.l):RdR) fun r21=>
 chk (fits (a16.length+1) 24)<|
 k (a0,(w64 (a1+1)),(r21.o.toNat:Int),(r21.n.toNat:Int),r21.bad,r21.l,a6,a7,a8,a9,a10,a11,a12,a13,a14,a15,(a16++([.r [.n r19.v,.n r20.v,.n r21.v]])),a17,a18,a19)
 else
 ma m m (0,(a2.toNat:Int),(a3.toNat:Int),a4,a5,a6,a7,a8,a9,a10,a11,a12,a13,a14,a15,a16,a17,a18,a19)
def vr (m:Nat):Nat->EK->OU0:=aZ (xQ m)
theorem wq (m:Nat) (n:Nat):vr m (n+1)=xQ m (vr m n):=rfl
def JS (F:EK->OU0):aQ:=⟨[.lp [0,1,0,1,1,1,1],.blk 4,.code [1,1,1,1,1]],⟨frm 100 [(0,.ptr 0 0 0),(2,.ptr 2 0 0),(3,.ptr 3 0 0),(57,.z0),(58,.z0)],[.cells [.sl 1 1,.bool],.ints .i64,.cells [.z0,.z0,.z0,.buf 4 2,.buf 5 3,.z0,.z0,.z0,.z0,.z0,.z0,.z0,.z0,.z0,.z0,.buf 6 2,.buf 7 2,.buf 8 2],.cells [.z0,.z0,.z0,.buf 9 2,.buf 10 3,.z0,.z0,.z0,.z0,.z0,.z0,.z0,.z0,.z0,.z0,.buf 11 2,.buf 12 2,.buf 13 2],.ab (sI 2),.ab (sI 3),.ab (sI 2),.ab (sI 2),.ab (sI 2),.ab (sI 2),.ab (sI 3),.ab (sI 2),.ab (sI 2),.ab (sI 2)],0⟩,onU F⟩
def xX (m:Nat) (k:EH->OU0):EH->OU0:=fun(a0,a1,a2,a3,a4,a5,a6,a7,a8,a9,a10,a11,a12,a13,a14,a15,a16,a17,a18,a19)=>
 bif decide (a1<a0)then
 chk (decide ((a2.toNat:Int).toNat+(a3.toNat:Int).toNat<=a5.length))<|
 bd ((rdN (a2.toNat:Int) (a3.toNat:Int) a4 a5):RdR) fun r15=>
 chk (decide ((r15.o.toNat:Int).toNat+(r15.n.toNat:Int).toNat<=r15.l.length))<|
 bd ((rdN (r15.o.toNat:Int) (r15.n.toNat:Int) r15.bad r15.l):RdR) fun r16=>
 chk (fits (a15.length+1) 16)<|
 k (a0,(w64 (a1+1)),(r16.o.toNat:Int),(r16.n.toNat:Int),r16.bad,r16.l,a6,a7,a8,a9,a10,a11,a12,a13,a14,(a15++([.r [.n r15.v,.n r16.v]])),a16,a17,a18,a19)
 else
 chk (decide ((a2.toNat:Int).toNat+(a3.toNat:Int).toNat<=a5.length))<|
 bd ((rdM (a2.toNat:Int) (a3.toNat:Int) a4 a5 8):RdR) fun r18=>
 vr m m (r18.v,0,(r18.o.toNat:Int),(r18.n.toNat:Int),r18.bad,r18.l,a6,a7,a8,a9,a10,a11,a12,a13,a14,a15,a16,a17,a18,a19)
def vb (m:Nat):Nat->EH->OU0:=aZ (xX m)
theorem wK (m:Nat) (n:Nat):vb m (n+1)=xX m (vb m n):=rfl
def Ji (F:EH->OU0):aQ:=⟨[.lp [0,1,0,1,1,1],.blk 2,.code [1,1,1,1]],⟨frm 100 [(0,.ptr 0 0 0),(2,.ptr 2 0 0),(3,.ptr 3 0 0),(41,.z0),(42,.z0)],[.cells [.sl 1 1,.bool],.ints .i64,.cells [.z0,.z0,.z0,.buf 4 2,.buf 5 3,.z0,.z0,.z0,.z0,.z0,.z0,.z0,.z0,.z0,.z0,.buf 6 2,.buf 7 2,.buf 8 2],.cells [.z0,.z0,.z0,.buf 9 2,.buf 10 3,.z0,.z0,.z0,.z0,.z0,.z0,.z0,.z0,.z0,.z0,.buf 11 2,.buf 12 2,.buf 13 2],.ab (sI 2),.ab (sI 3),.ab (sI 2),.ab (sI 2),.ab (sI 2),.ab (sI 2),.ab (sI 3),.ab (sI 2),.ab (sI 2),.ab (sI 2)],0⟩,onU F⟩
theorem Xo (m:Nat) (k3:mr->OU0) (h3:HO Ec (DM k3)):∀n,HO Ec (JU (pH m k3 n)):=an ae T15.right (fun k=>[DM k3,JU k]) (fun k h=>(aI h3 (aI h az))) fun k a=>by kernel_rfl
theorem YT (m:Nat):∀n,HO Ec (DM (ma m n)):=an ae T15.right (fun k=>[JU (pH m (k) m)]) (fun k h=>(aI (Xo m _ h m) az)) fun k a=>by kernel_rfl
theorem Zn (m:Nat):∀n,HO Ec (JS (vr m n)):=an ae T15.right (fun k=>[JS k,DM (ma m m)]) (fun k h=>(aI h (aI (YT m m) az))) fun k a=>by kernel_rfl
theorem Xi (m:Nat):∀n,HO Ec (Ji (vb m n)):=an ae T15.right (fun k=>[Ji k,JS (vr m m)]) (fun k h=>(aI h (aI (Zn m m) az))) fun k a=>by kernel_rfl
def t124 (m:Nat):Int × Int × Bool × LI0->OU0:=fun(a0,a1,a2,a3)=>
 chk (decide ((a0.toNat:Int).toNat+(a1.toNat:Int).toNat<=a3.length))<|
 bd ((rdN (a0.toNat:Int) (a1.toNat:Int) a2 a3):RdR) fun r1=>
 chk (decide ((r1.o.toNat:Int).toNat+(r1.n.toNat:Int).toNat<=r1.l.length))<|
 bd ((rdN (r1.o.toNat:Int) (r1.n.toNat:Int) r1.bad r1.l):RdR) fun r2=>
 chk (decide ((r2.o.toNat:Int).toNat+(r2.n.toNat:Int).toNat<=r2.l.length))<|
 bd ((rdN (r2.o.toNat:Int) (r2.n.toNat:Int) r2.bad r2.l):RdR) fun r3=>
 chk (decide ((r3.o.toNat:Int).toNat+(r3.n.toNat:Int).toNat<=r3.l.length))<|
 bd ((rdN (r3.o.toNat:Int) (r3.n.toNat:Int) r3.bad r3.l):RdR) fun r4=>
 chk (decide ((r4.o.toNat:Int).toNat+(r4.n.toNat:Int).toNat<=r4.l.length))<|
 bd ((rdN (r4.o.toNat:Int) (r4.n.toNat:Int) r4.bad r4.l):RdR) fun r5=>
 chk (decide ((r5.o.toNat:Int).toNat+(r5.n.toNat:Int).toNat<=r5.l.length))<|
 bd ((rdN (r5.o.toNat:Int) (r5.n.toNat:Int) r5.bad r5.l):RdR) fun r6=>
 chk (decide ((r6.o.toNat:Int).toNat+(r6.n.toNat:Int).toNat<=r6.l.length))<|
 bd ((rdN (r6.o.toNat:Int) (r6.n.toNat:Int) r6.bad r6.l):RdR) fun r7=>
 chk (decide ((r7.o.toNat:Int).toNat+(r7.n.toNat:Int).toNat<=r7.l.length))<|
 bd ((rdN (r7.o.toNat:Int) (r7.n.toNat:Int) r7.bad r7.l):RdR) fun r8=>
 chk (decide ((r8.o.toNat:Int).toNat+(r8.n.toNat:Int).toNat<=r8.l.length))<|
 bd ((rdN (r8.o.toNat:Int) (r8.n.toNat:Int) r8.bad r8.l):RdR) fun r9=>
 chk (decide ((r9.o.toNat:Int).toNat+(r9.n.toNat:Int).toNat<=r9.l.length))<|
 bd ((rdN (r9.o.toNat:Int) (r9.n.toNat:Int) r9.bad r9.l):RdR) fun r10=>
 chk (decide ((r10.o.toNat:Int).toNat+(r10.n.toNat:Int).toNat<=r10.l.length))<|
 bd ((rdN (r10.o.toNat:Int) (r10.n.toNat:Int) r10.bad r10.l):RdR) fun r11=>
 chk (decide ((r11.o.toNat:Int).toNat+(r11.n.toNat:Int).toNat<=r11.l.length))<|
 bd ((rdN (r11.o.toNat:Int) (r11.n.toNat:Int) r11.bad r11.l):RdR) fun r12=>
 chk (decide ((r12.o.toNat:Int).toNat+(r12.n.toNat:Int).toNat<=r12.l.length))<|
 bd ((rdN (r12.o.toNat:Int) (r12.n.toNat:Int) r12.bad r12.l):RdR) fun r13=>
 chk (decide ((r13.o.toNat:Int).toNat+(r13.n.toNat:Int).toNat<=r13.l.length))<|
 bd ((rdM (r13.o.toNat:Int) (r13.n.toNat:Int) r13.bad r13.l 64):RdR) fun r14=>
 vb m m (r14.v,0,(r14.o.toNat:Int),(r14.n.toNat:Int),r14.bad,r14.l,(⟨0,0,0⟩:av),(⟨0,0,0,0,0,0,0,0,0,0⟩:aw),(⟨r1.v,r2.v,r3.v⟩:av),(⟨r4.v,r5.v,r6.v,r7.v,r8.v,r9.v,r10.v,r11.v,r12.v,r13.v⟩:aw),[],[],[],[],[],[],[],[],[],[])
theorem RA (m:Nat) (k3:mr->OU0) (xa:av) (xb:aw) (ya:av) (yb:aw) (z1 z2 z3 z4 z5 p q s0 s1 s2:LD0):∀(c n k:Nat) (r:RdR) (acc:LD0),c<n->k+c<=16->acc.length<=k->RdI r->
 pH m k3 n (0,0,((k+c:Nat):Int),(k:Int),r.o,r.n,r.bad,r.l,xa,xb,ya,yb,z1,z2,z3,z4,z5,p,q,acc,s1,s2)=k3 (1,(cv c r).2.o,(cv c r).2.n,(cv c r).2.bad,(cv c r).2.l,xa,xb,ya,yb,z1,z2,z3,z4,z5,p,q,(acc++(cv c r).1),s1,s2):=by
 intro c
 induction c with
 |zero=>
  intro n k r acc hn hk ha hr;obtain⟨n,rfl⟩:=ah n (by omega);rw[iN];unfold m7;dsimp only;rw[ay (by omega),hr.1,hr.2.1];rw[show w64 ((0:Int)+1)=1 by decide];simp[cv]
 |succ c ih=>
  intro n k r acc hn hk ha hr;obtain⟨n,rfl⟩:=ah n (by omega);rw[iN];unfold m7;dsimp only;have h1:=bK hr;have h2:=bK h1;rw[aL (by omega)];dsimp only[bd];rw[hr.1,hr.2.1];refine al (zaa hr.2.2) ?_
  rw[show rdN r.o r.n r.bad r.l=nx r from rfl,h1.1,h1.2.1];refine cu rfl (al (zaa h1.2.2) ?_);rw[show rdN (nx r).o (nx r).n (nx r).bad (nx r).l=nx (nx r) from rfl];rw[bD (by omega) (by omega)];refine(cu rfl ?_);have:=ih n (k+1) (nx (nx r)) (acc++[.r [.n (nx r).v,.n (nx (nx r)).v]]) (by omega) (by omega) (by simp;omega) h2;have e:w64 ((k:Int)+1)=((k+1:Nat):Int):=by rw[aa (by omega) (by omega)];simp
  rw[e,h2.1,h2.2.1,show k+(c+1)=k+1+c by omega];simp only[cv];rw[show acc++(Dat.r [.n (nx r).v,.n (nx (nx r)).v]::(cv c (nx (nx r))).1)=acc++[Dat.r [.n (nx r).v,.n (nx (nx r)).v]]++(cv c (nx (nx r))).1 by simp];exact this
theorem R8 (m:Nat) (k3:mr->OU0) (xa:av) (xb:aw) (ya:av) (yb:aw) (z1 z2 z3 z4 z5 p q s0 s1 s2:LD0):∀(c n k:Nat) (r:RdR) (acc:LD0),c<n->k+c<=16->acc.length<=k->RdI r->
 pH m k3 n (1,1,((k+c:Nat):Int),(k:Int),r.o,r.n,r.bad,r.l,xa,xb,ya,yb,z1,z2,z3,z4,z5,p,q,s0,acc,s2)=k3 (2,(cv c r).2.o,(cv c r).2.n,(cv c r).2.bad,(cv c r).2.l,xa,xb,ya,yb,z1,z2,z3,z4,z5,p,q,s0,(acc++(cv c r).1),s2):=by
 intro c
 induction c with
 |zero=>
  intro n k r acc hn hk ha hr;obtain⟨n,rfl⟩:=ah n (by omega);rw[iN];unfold m7;dsimp only;rw[ay (by omega),hr.1,hr.2.1];rw[show w64 ((1:Int)+1)=2 by decide];simp[cv]
 |succ c ih=>
  intro n k r acc hn hk ha hr;obtain⟨n,rfl⟩:=ah n (by omega);rw[iN];unfold m7;dsimp only;have h1:=bK hr;have h2:=bK h1;rw[aL (by omega)];dsimp only[bd];rw[hr.1,hr.2.1];refine al (zaa hr.2.2) ?_
  rw[show rdN r.o r.n r.bad r.l=nx r from rfl,h1.1,h1.2.1];refine cm rfl (cu rfl (al (zaa h1.2.2) ?_));rw[show rdN (nx r).o (nx r).n (nx r).bad (nx r).l=nx (nx r) from rfl];rw[bD (by omega) (by omega)];refine(cm rfl (cu rfl ?_));have:=ih n (k+1) (nx (nx r)) (acc++[.r [.n (nx r).v,.n (nx (nx r)).v]]) (by omega) (by omega) (by simp;omega) h2;have e:w64 ((k:Int)+1)=((k+1:Nat):Int):=by rw[aa (by omega) (by omega)];simp
  rw[e,h2.1,h2.2.1,show k+(c+1)=k+1+c by omega];simp only[cv];rw[show acc++(Dat.r [.n (nx r).v,.n (nx (nx r)).v]::(cv c (nx (nx r))).1)=acc++[Dat.r [.n (nx r).v,.n (nx (nx r)).v]]++(cv c (nx (nx r))).1 by simp];exact this
theorem Pq (m:Nat) (k3:mr->OU0) (xa:av) (xb:aw) (ya:av) (yb:aw) (z1 z2 z3 z4 z5 p q s0 s1 s2:LD0):∀(c n k:Nat) (r:RdR) (acc:LD0),c<n->k+c<=16->acc.length<=k->RdI r->
 pH m k3 n (2,2,((k+c:Nat):Int),(k:Int),r.o,r.n,r.bad,r.l,xa,xb,ya,yb,z1,z2,z3,z4,z5,p,q,s0,s1,acc)=k3 (3,(cv c r).2.o,(cv c r).2.n,(cv c r).2.bad,(cv c r).2.l,xa,xb,ya,yb,z1,z2,z3,z4,z5,p,q,s0,s1,(acc++(cv c r).1)):=by
 intro c
 induction c with
 |zero=>
  intro n k r acc hn hk ha hr;obtain⟨n,rfl⟩:=ah n (by omega);rw[iN];unfold m7;dsimp only;rw[ay (by omega),hr.1,hr.2.1];rw[show w64 ((2:Int)+1)=3 by decide];simp[cv]
 |succ c ih=>
  intro n k r acc hn hk ha hr;obtain⟨n,rfl⟩:=ah n (by omega);rw[iN];unfold m7;dsimp only;have h1:=bK hr;have h2:=bK h1;rw[aL (by omega)];dsimp only[bd];rw[hr.1,hr.2.1];refine al (zaa hr.2.2) ?_
  rw[show rdN r.o r.n r.bad r.l=nx r from rfl,h1.1,h1.2.1];refine cm rfl (cm rfl (cu rfl (al (zaa h1.2.2) ?_)));rw[show rdN (nx r).o (nx r).n (nx r).bad (nx r).l=nx (nx r) from rfl];rw[bD (by omega) (by omega)];refine(cm rfl (cm rfl (cu rfl ?_)));have:=ih n (k+1) (nx (nx r)) (acc++[.r [.n (nx r).v,.n (nx (nx r)).v]]) (by omega) (by omega) (by simp;omega) h2;have e:w64 ((k:Int)+1)=((k+1:Nat):Int):=by rw[aa (by omega) (by omega)];simp
  rw[e,h2.1,h2.2.1,show k+(c+1)=k+1+c by omega];simp only[cv];rw[show acc++(Dat.r [.n (nx r).v,.n (nx (nx r)).v]::(cv c (nx (nx r))).1)=acc++[Dat.r [.n (nx r).v,.n (nx (nx r)).v]]++(cv c (nx (nx r))).1 by simp];exact this
theorem Xv (m:Nat) (hm:100<m) (xa:av) (xb:aw) (ya:av) (yb:aw) (z1 z2 z3 z4 z5 p q:LD0) (r:RdR) (hr:RdI r) (n:Nat):
 ma m (n+4) (0,r.o,r.n,r.bad,r.l,xa,xb,ya,yb,z1,z2,z3,z4,z5,p,q,[],[],[])=some (Uns.enc ya++Uns.enc yb++[.i (dX (dX (dX r 16).2 16).2 16).2.o,.i (dX (dX (dX r 16).2 16).2 16).2.n,.b (dX (dX (dX r 16).2 16).2 16).2.bad,.l (dX (dX (dX r 16).2 16).2 16).2.l,.d p,.d q,.d (dX r 16).1,.d (dX (dX r 16).2 16).1,.d (dX (dX (dX r 16).2 16).2 16).1]):=by
 have i0:=mX (most:=16) hr;have i1:=mX (most:=16) i0;have i2:=mX (most:=16) i1;have go:∀(r:RdR),RdI r->∀{β:Type} (f:RdR->Option β),(chk (decide ((r.o.toNat:Int).toNat+(r.n.toNat:Int).toNat<=r.l.length))<|bd (rdM (r.o.toNat:Int) (r.n.toNat:Int) r.bad r.l 16) f)=f (mx r 16):=fun r h β f=>by
  rw[h.1,h.2.1];exact al (zaa h.2.2) rfl
 rw[mU];unfold qU;dsimp only;refine cu rfl ((go r hr _).trans ?_);have v0:=Nf (r:=r) (most:=16) (by decide);have m0:=uE (most:=16) hr;have e0:=RA m (ma m (n+3)) xa xb ya yb z1 z2 z3 z4 z5 p q [] [] [] (mx r 16).v.toNat m 0 (mx r 16) [] (by omega) (by omega) (by simp) m0;rw[show(((0+(mx r 16).v.toNat:Nat)):Int)=(mx r 16).v by omega,zat]at e0;rw[m0.1,m0.2.1];refine e0.trans ?_
 rw[show(cv (mx r 16).v.toNat (mx r 16))=dX r 16 from rfl];generalize dX r 16=u at*
 rw[mU];unfold qU;dsimp only;refine cu rfl ((go u.2 i0 _).trans ?_);have v1:=Nf (r:=u.2) (most:=16) (by decide);have m1:=uE (most:=16) i0;have e1:=R8 m (ma m (n+2)) xa xb ya yb z1 z2 z3 z4 z5 p q u.1 [] [] (mx u.2 16).v.toNat m 0 (mx u.2 16) [] (by omega) (by omega) (by simp) m1;rw[show(((0+(mx u.2 16).v.toNat:Nat)):Int)=(mx u.2 16).v by omega,zat]at e1;rw[m1.1,m1.2.1];refine e1.trans ?_
 rw[show(cv (mx u.2 16).v.toNat (mx u.2 16))=dX u.2 16 from rfl];generalize dX u.2 16=v at*
 rw[mU];unfold qU;dsimp only;refine cu rfl ((go v.2 i1 _).trans ?_);have v2:=Nf (r:=v.2) (most:=16) (by decide);have m2:=uE (most:=16) i1;have e2:=Pq m (ma m (n+1)) xa xb ya yb z1 z2 z3 z4 z5 p q u.1 v.1 [] (mx v.2 16).v.toNat m 0 (mx v.2 16) [] (by omega) (by omega) (by simp) m2;rw[show(((0+(mx v.2 16).v.toNat:Nat)):Int)=(mx v.2 16).v by omega,zat]at e2;rw[m2.1,m2.2.1];refine e2.trans ?_
 rw[show(cv (mx v.2 16).v.toNat (mx v.2 16))=dX v.2 16 from rfl];generalize dX v.2 16=w at*
 rw[mU];unfold qU;dsimp only;refine cm rfl ?_
 rw[i2.1,i2.2.1]
theorem YX (m:Nat) (hm:100<m) (xa:av) (xb:aw) (ya:av) (yb:aw) (z1 z2 z3 z4 z5 p:LD0):∀(c n k:Nat) (r:RdR) (acc:LD0),c<n->k+c<=64->acc.length<=k->RdI r->
 vr m n (((k+c:Nat):Int),(k:Int),r.o,r.n,r.bad,r.l,xa,xb,ya,yb,z1,z2,z3,z4,z5,p,acc,[],[],[])=ma m m (0,(fc c r).2.o,(fc c r).2.n,(fc c r).2.bad,(fc c r).2.l,xa,xb,ya,yb,z1,z2,z3,z4,z5,p,acc++(fc c r).1,[],[],[]):=by
 intro c
 induction c with
 |zero=>
  intro n k r acc hn hk ha hr;obtain⟨n,rfl⟩:=ah n (by omega);rw[wq];unfold xQ;dsimp only;rw[ay (by omega),hr.1,hr.2.1];simp[fc]
 |succ c ih=>
  intro n k r acc hn hk ha hr;obtain⟨n,rfl⟩:=ah n (by omega);rw[wq];unfold xQ;dsimp only;have h1:=bK hr;have h2:=bK h1;have h3:=bK h2;rw[aL (by omega)];dsimp only[bd];rw[hr.1,hr.2.1];refine al (zaa hr.2.2) ?_
  rw[show rdN r.o r.n r.bad r.l=nx r from rfl,h1.1,h1.2.1];refine al (zaa h1.2.2) ?_
  rw[show rdN (nx r).o (nx r).n (nx r).bad (nx r).l=nx (nx r) from rfl,h2.1,h2.2.1];refine al (zaa h2.2.2) ?_
  rw[show rdN (nx (nx r)).o (nx (nx r)).n (nx (nx r)).bad (nx (nx r)).l=nx (nx (nx r)) from rfl,h3.1,h3.2.1];rw[bD (by omega) (by omega)];have:=ih n (k+1) (nx (nx (nx r))) (acc++[.r [.n (nx r).v,.n (nx (nx r)).v,.n (nx (nx (nx r))).v]]) (by omega) (by omega) (by simp;omega) h3;have e:w64 ((k:Int)+1)=((k+1:Nat):Int):=by rw[aa (by omega) (by omega)];simp
  rw[e,show k+(c+1)=k+1+c by omega];simp only[fc];rw[show acc++(Dat.r [.n (nx r).v,.n (nx (nx r)).v,.n (nx (nx (nx r))).v]::(fc c (nx (nx (nx r)))).1)=acc++[Dat.r [.n (nx r).v,.n (nx (nx r)).v,.n (nx (nx (nx r))).v]]++(fc c (nx (nx (nx r)))).1 by simp];exact this
theorem YO (m:Nat) (hm:100<m) (xa:av) (xb:aw) (ya:av) (yb:aw) (z1 z2 z3 z4 z5:LD0):∀(c n k:Nat) (r:RdR) (acc:LD0),c<n->k+c<=64->acc.length<=k->RdI r->
 vb m n (((k+c:Nat):Int),(k:Int),r.o,r.n,r.bad,r.l,xa,xb,ya,yb,z1,z2,z3,z4,z5,acc,[],[],[],[])=ma m m (0,(tq (cv c r).2 8).2.o,(tq (cv c r).2 8).2.n,(tq (cv c r).2 8).2.bad,(tq (cv c r).2 8).2.l,xa,xb,ya,yb,z1,z2,z3,z4,z5,acc++(cv c r).1,(tq (cv c r).2 8).1,[],[],[]):=by
 intro c
 induction c with
 |zero=>
  intro n k r acc hn hk ha hr;obtain⟨n,rfl⟩:=ah n (by omega);rw[wK];unfold xX;dsimp only;rw[ay (by omega),hr.1,hr.2.1];dsimp only[bd];refine al (zaa hr.2.2) ?_
  have m0:=uE (most:=8) hr;rw[show rdM r.o r.n r.bad r.l 8=mx r 8 from rfl,m0.1,m0.2.1];have v0:=Nf (r:=r) (most:=8) (by decide);have:=YX m hm xa xb ya yb z1 z2 z3 z4 z5 acc (mx r 8).v.toNat m 0 (mx r 8) [] (by omega) (by omega) (by simp) m0;rw[show(((0+(mx r 8).v.toNat:Nat)):Int)=(mx r 8).v by omega,zat]at this;simp only[cv,zaH];exact this
 |succ c ih=>
  intro n k r acc hn hk ha hr;obtain⟨n,rfl⟩:=ah n (by omega);rw[wK];unfold xX;dsimp only;have h1:=bK hr;have h2:=bK h1;rw[aL (by omega)];dsimp only[bd];rw[hr.1,hr.2.1];refine al (zaa hr.2.2) ?_
  rw[show rdN r.o r.n r.bad r.l=nx r from rfl,h1.1,h1.2.1];refine al (zaa h1.2.2) ?_
  rw[show rdN (nx r).o (nx r).n (nx r).bad (nx r).l=nx (nx r) from rfl,h2.1,h2.2.1];rw[bD (by omega) (by omega)];have:=ih n (k+1) (nx (nx r)) (acc++[.r [.n (nx r).v,.n (nx (nx r)).v]]) (by omega) (by omega) (by simp;omega) h2;have e:w64 ((k:Int)+1)=((k+1:Nat):Int):=by rw[aa (by omega) (by omega)];simp
  rw[e,show k+(c+1)=k+1+c by omega];simp only[cv];rw[show acc++(Dat.r [.n (nx r).v,.n (nx (nx r)).v]::(cv c (nx (nx r))).1)=acc++[Dat.r [.n (nx r).v,.n (nx (nx r)).v]]++(cv c (nx (nx r))).1 by simp];exact this
def f124:Int × Int × Bool × LI0->Bool × List Un:=fun(a0,a1,a2,a3)=>(decide (a0.toNat+a1.toNat<=a3.length),Uns.enc (((dQ a0 a1 a2 a3).d.a):av)++Uns.enc (((dQ a0 a1 a2 a3).d.b):aw)++[.i ((dQ a0 a1 a2 a3).r.o),.i ((dQ a0 a1 a2 a3).r.n),.b ((dQ a0 a1 a2 a3).r.bad),.l ((dQ a0 a1 a2 a3).r.l),.d ((dQ a0 a1 a2 a3).d.aC),.d ((dQ a0 a1 a2 a3).d.notes),.d ((dQ a0 a1 a2 a3).d.s0),.d ((dQ a0 a1 a2 a3).d.s1),.d ((dQ a0 a1 a2 a3).d.s2)])
set_option maxHeartbeats 4000000 in
theorem H7:ER 124 (mkE Ec.en Ec.ex f124):=ak ae T15.right (fun m=>[Ji (vb m m)]) (t:=t124) (by kernel_rfl) (fun m=>(aI (Xi m m) az)) (fun m a=>by kernel_rfl) fun(a0,a1,a2,a3) hc=>by
 dsimp only[f124]at hc⊢;have hl:=zaj hc;refine⟨200, ?_⟩;unfold t124 dQ Eg
 try dsimp only
 have i1:RdI (rdN a0 a1 a2 a3):=(HB hl).1;refine al (zaa hl) ?_
 rw[show bd (rdN (a0.toNat:Int) (a1.toNat:Int) a2 a3)=bd (rdN a0 a1 a2 a3) from rfl];have e1:∀{β:Type} (f:RdR->Option β),bd (rdN a0 a1 a2 a3) f=f (rdN a0 a1 a2 a3):=fun f=>rfl
 rw[e1];generalize rdN a0 a1 a2 a3=r1 at*
 have i2:=bK i1;have i3:=bK i2;have i4:=bK i3;have i5:=bK i4;have i6:=bK i5;have i7:=bK i6;have i8:=bK i7;have i9:=bK i8;have i10:=bK i9;have i11:=bK i10;have i12:=bK i11;have i13:=bK i12;rw[fu i1,fu i2,fu i3,fu i4,fu i5,fu i6,fu i7,fu i8,fu i9,fu i10,fu i11,fu i12];rw[i13.1,i13.2.1];refine al (zaa i13.2.2) ?_
 dsimp only[bd];generalize nx (nx (nx (nx (nx (nx (nx (nx (nx (nx (nx (nx r1)))))))))))=r13 at*
 have m0:=uE (most:=64) i13;rw[show rdM r13.o r13.n r13.bad r13.l 64=mx r13 64 from rfl,m0.1,m0.2.1];have v0:=Nf (r:=r13) (most:=64) (by decide);have:=YO 200 (by decide) (⟨0,0,0⟩:av) (⟨0,0,0,0,0,0,0,0,0,0⟩:aw) (⟨r1.v,(nx r1).v,(nx (nx r1)).v⟩:av) (⟨(nx (nx (nx r1))).v,(nx (nx (nx (nx r1)))).v,(nx (nx (nx (nx (nx r1))))).v,(nx (nx (nx (nx (nx (nx r1)))))).v,(nx (nx (nx (nx (nx (nx (nx r1))))))).v,(nx (nx (nx (nx (nx (nx (nx (nx r1)))))))).v,(nx (nx (nx (nx (nx (nx (nx (nx (nx r1))))))))).v,(nx (nx (nx (nx (nx (nx (nx (nx (nx (nx r1)))))))))).v,(nx (nx (nx (nx (nx (nx (nx (nx (nx (nx (nx r1))))))))))).v,r13.v⟩:aw) [] [] [] [] [] (mx r13 64).v.toNat 200 0 (mx r13 64) [] (by omega) (by omega) (by simp) m0;rw[show(((0+(mx r13 64).v.toNat:Nat)):Int)=(mx r13 64).v by omega,zat]at this;refine this.trans ?_
 rw[show cv (mx r13 64).v.toNat (mx r13 64)=dX r13 64 from rfl];exact Xv 200 (by decide) _ _ _ _ _ _ _ _ _ _ _ _ (LZ (mX i13)) 196
def ae5:TB:=T15.ad H7
def abS:HD->List Un:=fun r=>Uns.enc (r.d.a:av)++Uns.enc (r.d.b:aw)++[.i r.r.o,.i r.r.n,.b r.r.bad,.l r.r.l,.d r.d.aC,.d r.d.notes,.d r.d.s0,.d r.d.s1,.d r.d.s2]
def aa2:Int × Int × Bool × LI0->Bool × HD:=fun(a0,a1,a2,a3)=>(decide (a0.toNat+a1.toNat<=a3.length),(dQ a0 a1 a2 a3))
theorem M0:ER 124 (mkB Ec.en Ec.ex aa2 abS):=rebind H7 fun(a0,a1,a2,a3)=>rfl
def Sb:TB:=ae5.ad M0
structure DdR where
 e:Int
 d:aT
def Iu:aT:=⟨⟨0,0,0⟩,[],[],⟨0,0,0,0,0,0,0,0,0,0⟩,[],[],[]⟩
def ddV (l:LI0):DdR:=
 bif !(!(dQ 0 (l.length:Int) false l).r.bad&&(dQ 0 (l.length:Int) false l).r.n==0)then⟨1,Iu⟩
 else bif !(cI (dQ 0 (l.length:Int) false l).d).isSome then⟨2,Iu⟩else⟨0,(dQ 0 (l.length:Int) false l).d⟩
def dK (b:LI0):DdR:=bif !(b.length%8==0)then⟨1,Iu⟩else ddV (bX b)
theorem O3 {o n:Int} {b:Bool} {l:LI0} (h:o.toNat+n.toNat<=l.length):RdI (dQ o n b l).r:=by
 have i1:RdI (rdN o n b l):=(HB h).1;exact mX (mX (mX (LZ (mX (bK (bK (bK (bK (bK (bK (bK (bK (bK (bK (bK (bK i1))))))))))))))))
def N91:aA:=⟨Sb.tab,91,⟨[.ints .u8],[],0⟩,⟨[.agg [.z0,.z0,.z0,.buf 0 2,.buf 1 3,.z0,.z0,.z0,.z0,.z0,.z0,.z0,.z0,.z0,.z0,.buf 2 2,.buf 3 2,.buf 4 2],.z0],[.ab (sI 2),.ab (sI 3),.ab (sI 2),.ab (sI 2),.ab (sI 2)],0⟩,[]⟩
def t91 (m:Nat):LI0->OU0:=fun a0=>
 chk (decide (a0.length<=140737488351232))<|
 bif !(a0.length%8==0)then
 some (Uns.enc ((⟨0,0,0⟩:av):av)++Uns.enc ((⟨0,0,0,0,0,0,0,0,0,0⟩:aw):aw)++[.i 1,.d ([]),.d ([]),.d ([]),.d ([]),.d ([])])
 else
 chk (decide ((fo a0).length<1000000))<|
 lt (((fo a0).length:Int):Int) fun x1=>
 chk (decide ((0:Int).toNat+(x1.toNat:Int).toNat<=(fo a0).length))<|
 bd ((dQ 0 (x1.toNat:Int) false (fo a0)):HD) fun r2=>
 bif !(!r2.r.bad&&((r2.r.n.toNat:Int).toNat:Int)==0)then
 some (Uns.enc ((⟨0,0,0⟩:av):av)++Uns.enc ((⟨0,0,0,0,0,0,0,0,0,0⟩:aw):aw)++[.i 1,.d ([]),.d ([]),.d ([]),.d ([]),.d ([])])
 else
 bif !((cI r2.d).isSome)then
 some (Uns.enc ((⟨0,0,0⟩:av):av)++Uns.enc ((⟨0,0,0,0,0,0,0,0,0,0⟩:aw):aw)++[.i 2,.d ([]),.d ([]),.d ([]),.d ([]),.d ([])])
 else
 some (Uns.enc (r2.d.a:av)++Uns.enc (r2.d.b:aw)++[.i 0,.d r2.d.aC,.d r2.d.notes,.d r2.d.s0,.d r2.d.s1,.d r2.d.s2])
def f91:LI0->Bool × List Un:=fun a0=>(decide (a0.length<=1000000),Uns.enc (((dK a0).d.a):av)++Uns.enc (((dK a0).d.b):aw)++[.i ((dK a0).e),.d ((dK a0).d.aC),.d ((dK a0).d.notes),.d ((dK a0).d.s0),.d ((dK a0).d.s1),.d ((dK a0).d.s2)])
theorem Vc:ER 91 (mkE N91.en N91.ex f91):=ak ae Sb.right (fun m=>[]) (t:=t91) (by kernel_rfl) (fun m=>az) (fun m a=>by kernel_rfl) fun a0 hc=>by
 dsimp only[f91]at hc⊢;have hl:=zaj hc;refine⟨0, ?_⟩;unfold t91 dK
 try dsimp only
 refine al (zaa (by omega)) ?_
 cases h8:(a0.length%8==0)with
 |false=>rfl
 |true=>
  have e:fo a0=bX a0:=by unfold fo;rw[h8];rfl
  rw[e];have hw:=qH a0;refine cm rfl (al (zaa (by omega)) ?_);dsimp only[lt,bd];refine al (zaa (by simp)) ?_
  rw[show(((bX a0).length:Int).toNat:Int)=((bX a0).length:Int) from rfl];have hI:=O3 (o:=0) (n:=((bX a0).length:Int)) (b:=false) (l:=bX a0) (by simp);unfold ddV
  try dsimp only[Bool.not_true,cond_false]
  generalize dQ 0 ((bX a0).length:Int) false (bX a0)=r at*
  rw[hI.2.1,hI.2.1];cases (!r.r.bad&&r.r.n==0)
  case false=>rfl
  cases (cI r.d).isSome<;>rfl
def T91:TB:=Sb.ad Vc
def lI (p:Int) (l:LD0):Bool:=decide (1<=p/\p<=600)&&mq l
def N56:aA:=⟨T91.tab,56,⟨[.z0,.ab (sB 6)],[],0⟩,⟨[.bool],[],0⟩,[]⟩
def t56 (m:Nat):Int × LD0->OU0:=fun(a0,a1)=>
 bif decide (a0>=1)then
 bif decide (a0<=600)then
 some ([.b (mq a1)])
 else
 some ([.b false])
 else
 some ([.b false])
def f56:Int × LD0->Bool × List Un:=fun(a0,a1)=>(true,[.b (lI a0 a1)])
theorem Tz:ER 56 (mkE N56.en N56.ex f56):=ak ae T91.right (fun m=>[]) (t:=t56) (by kernel_rfl) (fun m=>az) (fun m a=>by kernel_rfl) fun(a0,a1) hc=>by
 dsimp only[f56]at⊢;refine⟨0, ?_⟩;unfold t56 lI
 try dsimp only
 by_cases h1:a0>=1
 . by_cases h2:a0<=600
   . rw[aL h1,aL h2,zaa ⟨h1,h2⟩];rfl
   . rw[aL h1,ay h2,zan (fun h=>h2 h.2)];rfl
 . rw[ay h1,zan (fun h=>h1 h.1)];rfl
def T56:TB:=T91.ad Tz
def nv (d:Dat):LI0:=[d.i 0,d.i 1,d.i 2,d.i 3,d.i 4,d.i 5,bI (d.b 6)]
def gM (p:Int) (l:LD0):LI0:=p::(l.length:Int)::l.flatMap nv
def dM (p:Int) (l:LD0):LI0:=bif lI p l then cQ (gM p l)else[]
theorem qY {p:Int} {l:LD0} (h:lI p l=true):(1<=p/\p<=600)/\l.length<=64:=by
 simp only[lI,mq,zae,zag]at h;omega
def N18:aA:=⟨T56.tab,18,⟨[.z0,.ab (sB 6)],[],0⟩,⟨[.buf 0 1],[.ints .u8],0⟩,[]⟩
abbrev K1:Type:=LD0 × Int × Int × LI0
def FJ (m:Nat) (k:K1->OU0):K1->OU0:=fun(a0,a1,a2,a3)=>
 bif decide (a2<a1)then
 chk (inb a2 a0.length)<|
 chk (decide (a2.toNat<a0.length))<|
 lt (ai a0 a2.toNat:Dat) fun d1=>
 bif (d1.b 6)then
 chk (fits (a3.length+7) 8)<|
 k (a0,a1,(w64 (a2+1)),(a3++([(d1.i 0),(d1.i 1),(d1.i 2),(d1.i 3),(d1.i 4),(d1.i 5),1])))
 else
 chk (fits (a3.length+7) 8)<|
 k (a0,a1,(w64 (a2+1)),(a3++([(d1.i 0),(d1.i 1),(d1.i 2),(d1.i 3),(d1.i 4),(d1.i 5),0])))
 else
 chk (decide (a3.length<=1000000))<|
 some ([.l (cQ a3)])
def C8 (m:Nat):Nat->K1->OU0:=aZ (FJ m)
theorem AF (m:Nat) (n:Nat):C8 m (n+1)=FJ m (C8 m n):=rfl
def P8 (F:K1->OU0):aQ:=⟨[.lp [0,1,0,1,1,1],.blk 0,.code [1,1,1,1]],⟨frm 44 [(5,.buf 0 1),(17,.ab (sB 6)),(18,.z0),(19,.z0)],[.ints .i64],0⟩,onU F⟩
theorem abM (m:Nat):∀n,HO N18 (P8 (C8 m n)):=an ae T56.right (fun k=>[P8 k]) (fun k h=>(aI h az)) fun k a=>by kernel_rfl
def t18 (m:Nat):Int × LD0->OU0:=fun(a0,a1)=>
 bif !(lI a0 a1)then
 some ([.l ([])])
 else
 C8 m m (a1,(a1.length:Int),0,([a0,(a1.length:Int)]:LI0))
theorem Zb (m:Nat):∀(rest pre:LD0) (n:Nat) (acc:LI0),rest.length<n->(pre++rest).length<=1000->acc.length+7*rest.length<=100000->C8 m n (pre++rest,((pre++rest).length:Int),(pre.length:Int),acc)=some [.l (cQ (acc++rest.flatMap nv))]:=by
 intro rest
 induction rest with
 |nil=>
  intro pre n acc hn hl ha;obtain⟨n,rfl⟩:=ah n (by simp at hn;omega);simp only[zar]at ha;rw[AF];unfold FJ;dsimp only;rw[ay (by simp)];refine al (zaa (by omega)) ?_
  simp
 |cons x rest ih=>
  intro pre n acc hn hl ha;obtain⟨n,rfl⟩:=ah n (by simp at hn;omega);simp only[zac]at hn ha;have:=ih (pre++[x]) n (acc++nv x) (by omega) (by simpa using hl) (by simp[nv];omega);simp only[zab,zac]at hl;rw[AF];unfold FJ;dsimp only;rw[aL (by simp only[zab,zac];omega),bQ (by omega) (by simp only[zab,zac];omega),aJ (by simp),aa (n:=(pre.length:Int)+1) (by omega) (by omega)];simp only[lt_eq,zau,ax];have e:∀k,acc++[x.i 0,x.i 1,x.i 2,x.i 3,x.i 4,x.i 5,k]=acc++([x.i 0,x.i 1,x.i 2,x.i 3,x.i 4,x.i 5]++[k]):=fun k=>rfl
  rw[bD (by omega) (by omega),bD (by omega) (by omega)];have e7:nv x=[x.i 0,x.i 1,x.i 2,x.i 3,x.i 4,x.i 5,bI (x.b 6)]:=rfl;simp only[zaX,zaq,zaC,zat,zab,zac,zar,zaF,e7]at this⊢;cases h6:x.b 6
  . rw[h6]at this;exact this
  . rw[h6]at this;exact this
def f18:Int × LD0->Bool × List Un:=fun(a0,a1)=>(true,[.l (dM a0 a1)])
theorem T7:ER 18 (mkE N18.en N18.ex f18):=ak ae T56.right (fun m=>[P8 (C8 m m)]) (t:=t18) (by kernel_rfl) (fun m=>(aI (abM m m) az)) (fun m a=>by kernel_rfl) fun(a0,a1) hc=>by
 dsimp only[f18]at⊢;refine⟨100, ?_⟩;unfold t18 dM
 try dsimp only
 cases hB:lI a0 a1 with
 |false=>rfl
 |true=>
  have hl:=(qY hB).2;exact Zb 100 a1 [] 100 [a0,(a1.length:Int)] (by omega) (by simp;omega) (by simp;omega)
def T18:TB:=T56.ad T7
structure TdR where
 p:Int
 e:Int
 l:List Dat
def mP:Nat->RdR->LD0 × RdR
 |0,r=>([],r)
 |k+1,r=>let s:=nx (nx (nx (nx (nx (nx r)))));(.r [.n (nx r).v,.n (nx (nx r)).v,.n (nx (nx (nx r))).v,.n (nx (nx (nx (nx r)))).v,.n (nx (nx (nx (nx (nx r))))).v,.n s.v,.n (bI ((mx s 1).v==1))]::(mP k (mx s 1)).1,(mP k (mx s 1)).2)
def wj (l:LI0):RdR:=rdN 0 (l.length:Int) false l
def zM (l:LI0):LD0 × RdR:=mP (mx (wj l) 64).v.toNat (mx (wj l) 64)
def Jz (l:LI0):TdR:=
 bif !(!(zM l).2.bad&&(zM l).2.n==0)then⟨0,1,[]⟩
 else bif lI (wj l).v (zM l).1 then⟨(wj l).v,0,(zM l).1⟩else⟨0,3,[]⟩
def aY (b:LI0):TdR:=bif !(b.length%8==0)then⟨0,1,[]⟩else Jz (bX b)
def N53:aA:=⟨T18.tab,53,⟨[.ints .u8],[],0⟩,⟨[.z0,.buf 0 7,.z0],[.ab (sB 6)],0⟩,[[0,1,0,1,0,0,1,1,0,0,1,0,1,1,1,1,1,1]]⟩
abbrev LJ:Type:=Int × Int × Int × Int × Int × Bool × LD0 × LI0
def DT (m:Nat) (k:LJ->OU0):LJ->OU0:=fun(a0,a1,a2,a3,a4,a5,a6,a7)=>
 bif decide (a2<a1)then
 chk (decide ((a3.toNat:Int).toNat+(a4.toNat:Int).toNat<=a7.length))<|
 bd ((rdN (a3.toNat:Int) (a4.toNat:Int) a5 a7):RdR) fun r4=>
 chk (decide ((r4.o.toNat:Int).toNat+(r4.n.toNat:Int).toNat<=r4.l.length))<|
 bd ((rdN (r4.o.toNat:Int) (r4.n.toNat:Int) r4.bad r4.l):RdR) fun r5=>
 chk (decide ((r5.o.toNat:Int).toNat+(r5.n.toNat:Int).toNat<=r5.l.length))<|
 bd ((rdN (r5.o.toNat:Int) (r5.n.toNat:Int) r5.bad r5.l):RdR) fun r6=>
 chk (decide ((r6.o.toNat:Int).toNat+(r6.n.toNat:Int).toNat<=r6.l.length))<|
 bd ((rdN (r6.o.toNat:Int) (r6.n.toNat:Int) r6.bad r6.l):RdR) fun r7=>
 chk (decide ((r7.o.toNat:Int).toNat+(r7.n.toNat:Int).toNat<=r7.l.length))<|
 bd ((rdN (r7.o.toNat:Int) (r7.n.toNat:Int) r7.bad r7.l):RdR) fun r8=>
 chk (decide ((r8.o.toNat:Int).toNat+(r8.n.toNat:Int).toNat<=r8.l.length))<|
 bd ((rdN (r8.o.toNat:Int) (r8.n.toNat:Int) r8.bad r8.l):RdR) fun r9=>
 chk (decide ((r9.o.toNat:Int).toNat+(r9.n.toNat:Int).toNat<=r9.l.length))<|
 bd ((rdM (r9.o.toNat:Int) (r9.n.toNat:Int) r9.bad r9.l 1):RdR) fun r10=>
 chk (fits (a6.length+1) 56)<|
 k (a0,a1,(w64 (a2+1)),(r10.o.toNat:Int),(r10.n.toNat:Int),r10.bad,(a6++([.r [.n r4.v,.n r5.v,.n r6.v,.n r7.v,.n r8.v,.n r9.v,.n (bI (r10.v==1))]])),r10.l)
 else
 bif !(!a5&&((a4.toNat:Int).toNat:Int)==0)then
 some ([.i 0,.i 1,.d ([])])
 else
 bif !(lI a0 a6)then
 some ([.i 0,.i 3,.d ([])])
 else
 some ([.i a0,.i 0,.d a6])
def Df (m:Nat):Nat->LJ->OU0:=aZ (DT m)
theorem zn (m:Nat) (n:Nat):Df m (n+1)=DT m (Df m n):=rfl
def RZ (F:LJ->OU0):aQ:=⟨[.lp [0,1,0,1,1,1,1,1,1],.blk 0,.code [1,1,1,1,1,1,1]],⟨frm 65 [(7,.ptr 0 0 0),(8,.z0),(9,.buf 1 7),(25,.z0),(26,.z0)],[.cells [.sl 2 1,.bool],.ab (sB 6),.ints .i64],0⟩,onU F⟩
theorem acj (m:Nat):∀n,HO N53 (RZ (Df m n)):=an ae T18.right (fun k=>[RZ k]) (fun k h=>(aI h az)) fun k a=>by kernel_rfl
def t53 (m:Nat):LI0->OU0:=fun a0=>
 chk (decide (a0.length<=140737488351232))<|
 bif !(a0.length%8==0)then
 some ([.i 0,.i 1,.d ([])])
 else
 chk (decide ((fo a0).length<1000000))<|
 lt (((fo a0).length:Int):Int) fun x1=>
 chk (decide ((0:Int).toNat+(x1.toNat:Int).toNat<=(fo a0).length))<|
 bd ((rdN 0 (x1.toNat:Int) false (fo a0)):RdR) fun r2=>
 chk (decide ((r2.o.toNat:Int).toNat+(r2.n.toNat:Int).toNat<=r2.l.length))<|
 bd ((rdM (r2.o.toNat:Int) (r2.n.toNat:Int) r2.bad r2.l 64):RdR) fun r3=>
 Df m m (r2.v,r3.v,0,(r3.o.toNat:Int),(r3.n.toNat:Int),r3.bad,[],r3.l)
theorem aen (m:Nat) (p:Int):∀(c n k:Nat) (r:RdR) (acc:LD0),c<n->k+c<=64->acc.length<=k->RdI r->
 Df m n (p,((k+c:Nat):Int),(k:Int),r.o,r.n,r.bad,acc,r.l)=(bif !(!(mP c r).2.bad&&(mP c r).2.n==0)then some [.i 0,.i 1,.d []]else bif lI p (acc++(mP c r).1)then some [.i p,.i 0,.d (acc++(mP c r).1)]else some [.i 0,.i 3,.d []]):=by
 intro c
 induction c with
 |zero=>
  intro n k r acc hn hk ha hr;obtain⟨n,rfl⟩:=ah n (by omega);rw[zn];unfold DT;dsimp only;rw[ay (by omega),hr.2.1,hr.2.1];simp only[mP,zaH];cases (!r.bad&&r.n==0)
  . rfl
  . simp only[zbr,zal];cases lI p acc<;>rfl
 |succ c ih=>
  intro n k r acc hn hk ha hr;obtain⟨n,rfl⟩:=ah n (by omega);rw[zn];unfold DT;dsimp only;have h1:=bK hr;have h2:=bK h1;have h3:=bK h2;have h4:=bK h3;have h5:=bK h4;have h6:=bK h5;have h7:=uE (most:=1) h6;rw[aL (by omega)];dsimp only[bd];rw[hr.1,hr.2.1];refine al (zaa hr.2.2) ?_
  rw[show rdN r.o r.n r.bad r.l=nx r from rfl,h1.1,h1.2.1];refine al (zaa h1.2.2) ?_
  rw[show rdN (nx r).o (nx r).n (nx r).bad (nx r).l=nx (nx r) from rfl,h2.1,h2.2.1];refine al (zaa h2.2.2) ?_
  rw[show rdN (nx (nx r)).o (nx (nx r)).n (nx (nx r)).bad (nx (nx r)).l=nx (nx (nx r)) from rfl,h3.1,h3.2.1];refine al (zaa h3.2.2) ?_
  rw[show rdN (nx (nx (nx r))).o (nx (nx (nx r))).n (nx (nx (nx r))).bad (nx (nx (nx r))).l=nx (nx (nx (nx r))) from rfl,h4.1,h4.2.1];refine al (zaa h4.2.2) ?_
  rw[show rdN (nx (nx (nx (nx r)))).o (nx (nx (nx (nx r)))).n (nx (nx (nx (nx r)))).bad (nx (nx (nx (nx r)))).l=nx (nx (nx (nx (nx r)))) from rfl,h5.1,h5.2.1];refine al (zaa h5.2.2) ?_
  rw[show rdN (nx (nx (nx (nx (nx r))))).o (nx (nx (nx (nx (nx r))))).n (nx (nx (nx (nx (nx r))))).bad (nx (nx (nx (nx (nx r))))).l=nx (nx (nx (nx (nx (nx r))))) from rfl,h6.1,h6.2.1];refine al (zaa h6.2.2) ?_
  simp only[mP];generalize nx (nx (nx (nx (nx (nx r)))))=s at*
  rw[show rdM s.o s.n s.bad s.l 1=mx s 1 from rfl,h7.1,h7.2.1,bD (by omega) (by omega)];have e:w64 ((k:Int)+1)=((k+1:Nat):Int):=by rw[aa (by omega) (by omega)];simp
  rw[e,show k+(c+1)=k+1+c by omega,ih n (k+1) (mx s 1) _ (by omega) (by omega) (by simp;omega) h7];simp only[zaq,zaC,zat]
def f53:LI0->Bool × List Un:=fun a0=>(decide (a0.length<=1000000),[.i ((aY a0).p),.i ((aY a0).e),.d ((aY a0).l)])
theorem U4:ER 53 (mkE N53.en N53.ex f53):=ak ae T18.right (fun m=>[RZ (Df m m)]) (t:=t53) (by kernel_rfl) (fun m=>(aI (acj m m) az)) (fun m a=>by kernel_rfl) fun a0 hc=>by
 dsimp only[f53]at hc⊢;have hl:=zaj hc;refine⟨100, ?_⟩;unfold t53 aY
 try dsimp only
 refine al (zaa (by omega)) ?_
 cases h8:(a0.length%8==0)with
 |false=>rfl
 |true=>
  have e:fo a0=bX a0:=by unfold fo;rw[h8];rfl
  rw[e];have hw:=qH a0;refine cm rfl (al (zaa (by omega)) ?_);dsimp only[lt,bd];refine al (zaa (by simp)) ?_
  rw[show(((bX a0).length:Int).toNat:Int)=((bX a0).length:Int) from rfl];have i1:RdI (wj (bX a0)):=(HB (by simp)).1;rw[show rdN 0 ((bX a0).length:Int) false (bX a0)=wj (bX a0) from rfl];unfold Jz zM
  try dsimp only[Bool.not_true,cond_false]
  generalize wj (bX a0)=r at*
  rw[i1.1,i1.2.1];refine al (zaa i1.2.2) ?_
  have i2:=uE (most:=64) i1;rw[show rdM r.o r.n r.bad r.l 64=mx r 64 from rfl,i2.1,i2.2.1];have v0:=Nf (r:=r) (most:=64) (by decide);have:=aen 100 r.v (mx r 64).v.toNat 100 0 (mx r 64) [] (by omega) (by omega) (by simp) i2;rw[show(((0+(mx r 64).v.toNat:Nat)):Int)=(mx r 64).v by omega,zat]at this;refine this.trans ?_
  cases (!(!(mP (mx r 64).v.toNat (mx r 64)).2.bad&&(mP (mx r 64).v.toNat (mx r 64)).2.n==0))
  . simp only[zal];cases lI r.v (mP (mx r 64).v.toNat (mx r 64)).1<;>rfl
  . rfl
def T53:TB:=T18.ad U4
end
end Go.Proofs.YtfaojedfnjdnnaaGreat
