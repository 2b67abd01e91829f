/- Part of a proof: Closing, ClosePlain, Close, Runs, Lines, TheWord, Record, Back, Own, TheMedium, Frame, Journal, DealDoc, TapeDoc. Conditions: none. -/
import Derived.Test.YtfaojedfnjdnnaaGreatQ5
set_option linter.unusedVariables false
set_option linter.unusedSimpArgs false
set_option linter.unnecessarySimpa false
set_option linter.unusedSectionVars false
namespace Go.Proofs.YtfaojedfnjdnnaaGreat
noncomputable section
open Go Go.Proofs.YtfaojedfnjdnnaaGreat.Ev
set_option maxRecDepth 20000
@[ext] structure cE where
 call:Bool
 period:Int
 mode:Int
 ar:Int
 fU:Int
 aP:Int
 ba:Int
 draw:Int
 advance:Int
 fee:Int
 due:Int
instance : Uns cE := Uns.via (B := Bool × Int × Int × Int × Int × Int × Int × Int × Int × Int × Int) (fun x => (x.call, x.period, x.mode, x.ar, x.fU, x.aP, x.ba, x.draw, x.advance, x.fee, x.due)) (fun x => match x with | (call, period, mode, ar, fU, aP, ba, draw, advance, fee, due) => ⟨call, period, mode, ar, fU, aP, ba, draw, advance, fee, due⟩) (fun _ => rfl)
@[ext] structure cz where
 eI:Int
 aN:Int
 bq:Int
 out:Int
 xy:Int
instance : Uns cz := Uns.via (B := Int × Int × Int × Int × Int) (fun x => (x.eI, x.aN, x.bq, x.out, x.xy)) (fun x => match x with | (eI, aN, bq, out, xy) => ⟨eI, aN, bq, out, xy⟩) (fun _ => rfl)
def eG (a:av) (p bal r:Int):Int:=Gg bal r a.basis (gS a.year a.month 1 p) (gO a.year a.month 1 p) (jn a.year a.month 1 p) (gS a.year a.month 1 (p+1)) (gO a.year a.month 1 (p+1)) (jn a.year a.month 1 (p+1))
theorem wY {y m p:Int} (h1:1<=y) (h2:y<=9000) (h3:1<=m) (h4:m<=12) (h5:0<=p) (h6:p<=700):1<=gS y m 1 p/\gS y m 1 p<=9999/\1<=gO y m 1 p/\gO y m 1 p<=12/\jn y m 1 p=1/\cB (gS y m 1 p) (gO y m 1 p) (jn y m 1 p)=true/\12*gS y m 1 p+gO y m 1 p=12*y+m+p:=by
 have l1:=qe (y:=y) (m:=m) h1 (by omega) h3 h4;have hs:jr y m 1 p=true:=by
  unfold jr;rw[show cB y m 1=true from eH.2 ⟨by omega,by omega⟩];simp only[zbb,zag];omega
 unfold gS gO jn;rw[hs,if_pos rfl,if_pos rfl,if_pos rfl];have l2:=qe (y:=(12*y+m-1+p)/12) (m:=(12*y+m-1+p)%12+1) (by omega) (by omega) (by omega) (by omega);have hd:min 1 (dB ((12*y+m-1+p)/12) ((12*y+m-1+p)%12+1))=1:=by omega
 rw[hd];exact⟨by omega,by omega,by omega,by omega,rfl,eH.2 ⟨by omega,by omega⟩,by omega⟩
theorem GL {b y m y' m':Int} (h1:1<=y) (h2:y<=9999) (h3:1<=m) (h4:m<=12) (h5:12*y'+m'=12*y+m+1) (h6:1<=m') (h7:m'<=12) (r1:cB y m 1=true) (r2:cB y' m' 1=true):0<=mn b y m 1 y' m' 1/\mn b y m 1 y' m' 1<=731:=by
 have n1:=uV r1;have n2:=uV r2;have a1:=rU h1;have a2:=rU (y:=y+1) (by omega);have q1:=sX y;have q2:=sX (y+1);unfold mn
 split
 . split
   . unfold com;rw[if_neg (by omega)];omega
   . split
     . rename_i h _ _;have hy:y'=y\/y'=y+1:=by omega
       rcases hy with rfl|rfl<;>omega
     . omega
 . omega
theorem MW {n b:Int} (p:Int) (hp:p=3600000\/p=3650000) (h1:0<=n) (h2:n<=1099511627776) (h3:0<=b) (h4:b<=3655000):0<=mdV n b p 2/\mdV n b p 2<=1200000000000:=by
 unfold mdV
 split
 . have hm:=zb3 h4 h1;have hz:=za9 h1 h3;have e:=zbm (n*b) p;have r0:=zbz (n*b) (show p≠0 by omega);have d0:0<=n*b/p:=zbG hz (by omega);have d1:n*b/p<=1117000000000:=by
    have:n*b<4018800800000000001:=by omega
    rcases hp with rfl|rfl<;>omega
   unfold mdQ
   split<;>omega
 . omega
theorem sO {a:av} {p bal:Int} (r:Int) (h1:1<=a.year) (h2:a.year<=9000) (h3:1<=a.month) (h4:a.month<=12) (h5:0<=p) (h6:p<=650) (b0:0<=bal) (b1:bal<=1099511627776):0<=eG a p bal r/\eG a p bal r<=1200000000000:=by
 obtain⟨s1,s2,s3,s4,s5,s6,s7⟩:=wY h1 h2 h3 h4 h5 (by omega);obtain⟨t1,t2,t3,t4,t5,t6,t7⟩:=wY h1 h2 h3 h4 (show 0<=p+1 by omega) (by omega);unfold eG Gg;rw[s5]at s6⊢;rw[t5]at t6⊢
 split
 . rename_i hr;have hd:=GL (b:=a.basis) s1 s2 s3 s4 (by omega) t3 t4 s6 t6;have k0:=za9 hr.1 hd.1;have k1:=Int.mul_le_mul hr.2 hd.2 hd.1 (show(0:Int)<=5000 by omega);exact MW _ (by unfold zD;split<;>omega) b0 b1 k0 (by omega)
 . omega
def fy (a:av) (p:Int) (d:Dat):Dat:=H5 (eG a p (bA d) (d.i 2)) d
theorem Na {d:Dat} (h:bn d=true):0<=bA d/\bA d<=1099511627776:=by
 have:=cS h;unfold bA;omega
def Xo:aA:=⟨V5.tab,140,⟨[.ptr 0 0 0,.z0],aT 0,0⟩,⟨[.z0,.z0],aT 0,0⟩,[]⟩
abbrev EJ:Type:=Int × Int × Int × Int × av × aw × ao × LD0 × LD0 × LD0 × LD0 × LD0 × LD0 × LD0 × Int × Int × Int × Int × Int × Int
def xZ (m:Nat) (k:EJ->OU0):EJ->OU0:=fun(a0,a1,a2,a3,a4,a5,a6,a7,a8,a9,a10,a11,a12,a13,a14,a15,a16,a17,a18,a19)=>
 bif decide (a3<a2)then
 chk (inb a3 a13.length)<|
 chk (decide (a3.toNat<a13.length))<|
 lt (ai a13 a3.toNat:Dat) fun d9=>
 chk (decide (a3.toNat<a13.length))<|
 lt ((Gg (w64 (w64 ((d9.i 1)-w64 ((d9.i 3)-(d9.i 4)))-(d9.i 6))) ((ai a13 a3.toNat).i 2) a4.basis a14 a15 a16 a17 a18 a19):Int) fun x12=>
 chk (decide (0<=x12/\x12<=1125899906842624)&&(decide (0<=(a3.toNat:Int)/\(a3.toNat:Int).toNat<a13.length)&&bn (ai a13 (a3.toNat:Int).toNat)))<|
 k (a0,(w64 (a1+x12)),a2,(w64 (a3+1)),a4,a5,a6,a7,a8,a9,a10,a11,a12,(a13.set (a3.toNat:Int).toNat (H5 x12 (ai a13 (a3.toNat:Int).toNat))),a14,a15,a16,a17,a18,a19)
 else
 some ([.i a0,.i a1]++Uns.enc (a4:av)++Uns.enc (a5:aw)++Uns.enc (a6:ao)++[.d a7,.d a8,.d a9,.d a10,.d a11,.d a12,.d a13])
def rO (m:Nat):Nat->EJ->OU0:=aX (xZ m)
theorem wH (m:Nat) (n:Nat):rO m (n+1)=xZ m (rO m n):=rfl
def IQ (F:EJ->OU0):aQ:=⟨[.lp [0,1,0,1,1,1,1,1],.blk 0,.code [1,1,1,1,1,1]],⟨frm 88 [(0,.ptr 0 0 0),(6,.ptr 9 0 0),(7,.ptr 10 0 0),(8,.z0),(10,.z0),(49,.z0),(50,.z0)],aT 0++[.cells [.z0,.z0,.z0],.cells [.z0,.z0,.z0]],0⟩,onU F⟩
theorem Ye (m:Nat):∀n,HO Xo (IQ (rO m n)):=an ae V5.right (fun k=>[IQ k]) (fun k h=>(aI h az)) fun k a=>by kernel_rfl
def t140 (m:Nat):Int × av × aw × ao × LD0 × LD0 × LD0 × LD0 × LD0 × LD0 × LD0->OU0:=fun(a0,a1,a2,a3,a4,a5,a6,a7,a8,a9,a10)=>
 lt ((gS a1.year a1.month 1 a3.period):Int) fun x1=>
 lt ((gO a1.year a1.month 1 a3.period):Int) fun x2=>
 lt ((jn a1.year a1.month 1 a3.period):Int) fun x3=>
 lt ((gS a1.year a1.month 1 (w64 (a3.period+1))):Int) fun x4=>
 lt ((gO a1.year a1.month 1 (w64 (a3.period+1))):Int) fun x5=>
 lt ((jn a1.year a1.month 1 (w64 (a3.period+1))):Int) fun x6=>
 lt ((Gg a0 a2.fee a1.basis x1 x2 x3 x4 x5 x6):Int) fun x7=>
 rO m m (x7,0,(a10.length:Int),0,a1,a2,({a3 with fee:=(w64 (a3.fee+x7))}:ao),a4,a5,a6,a7,a8,a9,a10,x1,x2,x3,x4,x5,x6)
theorem Vb (m:Nat) (fe:Int) (xa:av) (xb:aw) (xn:ao) (x1 x2 x3 x4 x5 x6:LD0) (p:Int) (hf:∀d,bn d=true->0<=eG xa p (bA d) (d.i 2)/\eG xa p (bA d) (d.i 2)<=1200000000000):∀(rest pre:LD0) (n:Nat) (s:Int),rest.length<n->(pre++rest).length<=1000->(∀d∈rest,bn d=true)->0<=s->s<=1200000000000*pre.length->
 rO m n (fe,s,((pre++rest).length:Int),(pre.length:Int),xa,xb,xn,x1,x2,x3,x4,x5,x6,pre++rest,gS xa.year xa.month 1 p,gO xa.year xa.month 1 p,jn xa.year xa.month 1 p,gS xa.year xa.month 1 (p+1),gO xa.year xa.month 1 (p+1),jn xa.year xa.month 1 (p+1))=
  some ([.i fe,.i (s+bX (fun d=>eG xa p (bA d) (d.i 2)) rest)]++Uns.enc xa++Uns.enc xb++Uns.enc xn++[.d x1,.d x2,.d x3,.d x4,.d x5,.d x6,.d (pre++rest.map (fy xa p))]):=by
 intro rest
 induction rest with
 |nil=>
  intro pre n s hn hl hg s0 s1;obtain⟨n,rfl⟩:=ah n (by simp at hn;omega);rw[wH];unfold xZ;dsimp only;simp[ay,bX]
 |cons x rest ih=>
  intro pre n s hn hl hg s0 s1;obtain⟨n,rfl⟩:=ah n (by simp at hn;omega);simp only[zac,zab]at hn hl;have hx:=cS (hg x (by simp));have hb:=hf x (hg x (by simp));have hgx:=hg x (by simp);have:=ih (pre++[fy xa p x]) n (s+eG xa p (bA x) (x.i 2)) (by omega) (by simp;omega) (fun d hd=>hg d (by simp[hd])) (by omega) (by simp;omega);have e:w64 (w64 (x.i 1-w64 (x.i 3-x.i 4))-x.i 6)=bA x:=by rw[aa (n:=x.i 3-x.i 4) (by omega) (by omega),aa (n:=x.i 1-_) (by omega) (by omega),aa (by omega) (by omega)];rfl
  have e2:∀z,Gg z (x.i 2) xa.basis (gS xa.year xa.month 1 p) (gO xa.year xa.month 1 p) (jn xa.year xa.month 1 p) (gS xa.year xa.month 1 (p+1)) (gO xa.year xa.month 1 (p+1)) (jn xa.year xa.month 1 (p+1))=eG xa p z (x.i 2):=fun z=>rfl
  rw[wH];unfold xZ;dsimp only;simp only[bX,zaS,LNi,ax,lt_eq,e,e2,hgx,zbf,D9];rw[show H5 (eG xa p (bA x) (x.i 2)) x=fy xa p x from rfl];simp(disch:=omega) only[TRa,TRi,aa,LNl,LNi,zad,ax];simp only[LNl,LNi,zad]at this⊢;exact this
def f140:Int × av × aw × ao × LD0 × LD0 × LD0 × LD0 × LD0 × LD0 × LD0->Bool × List Un:=fun(a0,a1,a2,a3,a4,a5,a6,a7,a8,a9,a10)=>(decide ((1<=a1.year/\a1.year<=9000/\1<=a1.month/\a1.month<=12)/\(0<=a3.period/\a3.period<=600)/\(0<=a3.fee/\a3.fee<=1125899906842624)/\(0<=a0/\a0<=1099511627776))&&(decide (a10.length<=1000)&&a10.all bn),[.i (eG a1 a3.period a0 a2.fee),.i (bX (fun d=>eG a1 a3.period (bA d) (d.i 2)) a10)]++Uns.enc ((a1):av)++Uns.enc ((a2):aw)++Uns.enc (({a3 with fee:=a3.fee+eG a1 a3.period a0 a2.fee}):ao)++[.d (a4),.d (a5),.d (a6),.d (a7),.d (a8),.d (a9),.d (a10.map (fy a1 a3.period))])
theorem RO:ER 140 (mkE Xo.en Xo.ex f140):=ak ae V5.right (fun m=>[IQ (rO m m)]) (t:=t140) (by kernel_rfl) (fun m=>(aI (Ye m m) az)) (fun m a=>by kernel_rfl) fun(a0,a1,a2,a3,a4,a5,a6,a7,a8,a9,a10) hc=>by
 dsimp only[f140]at hc⊢;simp only[zae,zag,zam]at hc;obtain⟨⟨⟨h1,h2,h3,h4⟩,⟨h5,h6⟩,⟨h7,h8⟩,h9,h10⟩,h11,h12⟩:=hc;have hs:=sO a2.fee h1 h2 h3 h4 h5 (show a3.period<=650 by omega) h9 h10;have hf:∀d,bn d=true->0<=eG a1 a3.period (bA d) (d.i 2)/\eG a1 a3.period (bA d) (d.i 2)<=1200000000000:=fun d hd=>sO _ h1 h2 h3 h4 h5 (by omega) (Na hd).1 (Na hd).2
 refine⟨a10.length+1, ?_⟩;unfold t140;dsimp only[lt];rw[aa (n:=a3.period+1) (by omega) (by omega)];refine(show rO _ _ (eG a1 a3.period a0 a2.fee,0,(a10.length:Int),0,a1,a2,{a3 with fee:=w64 (a3.fee+eG a1 a3.period a0 a2.fee)},a4,a5,a6,a7,a8,a9,a10,_,_,_,_,_,_)=_ from ?_);rw[aa (n:=a3.fee+_) (by omega) (by omega)];exact(Vb _ _ a1 a2 _ a4 a5 a6 a7 a8 a9 a3.period hf a10 [] (a10.length+1) 0 (by omega) (by simpa using h11) h12 (by omega) (by simp)).trans (by simp only[za4,zas])
def VC:TB:=V5.ad RO
def GJ (x:Int) (d:Dat):Int:=max (min x (d.i 5)) 0
def qC (x:Int) (d:Dat):Dat:= .r [.n (d.i 0),.n (d.i 1),.n (d.i 2),.n (d.i 3),.n (d.i 4),.n (d.i 5-GJ x d),.n (d.i 6)]
def lE (n:ao) (p:Dat):ao:=if p.i 1=1 then {n with fee:=n.fee-p.i 3}else if p.i 1=2 then {n with out:=n.out-p.i 3}else if p.i 1=6 then {n with rin:=n.rin+p.i 3}else n
def nR (c:LD0) (p:Dat):LD0:=if p.i 1=1 then c else if p.i 1=2 then c else if p.i 1=6 then c else if p.i 1=3 then c.set (p.i 2).toNat (qC (p.i 3) (ai c (p.i 2).toNat))else c.set (p.i 2).toNat (AI (p.i 3) (ai c (p.i 2).toNat))
def eM:LD0->ao->LD0->ao × LD0
 |[],n,c=>(n,c)
 |p::l,n,c=>eM l (lE n p) (nR c p)
def ND (k:Nat) (p:Dat):Bool:=decide (0<=p.i 3)&&(decide (p.i 1=1\/p.i 1=2\/p.i 1=6)||decide (0<=p.i 2/\p.i 2<(k:Int)))
theorem xS {k:Nat} {p:Dat} (h:ND k p=true):0<=p.i 3/\((p.i 1=1\/p.i 1=2\/p.i 1=6)\/(0<=p.i 2/\p.i 2<(k:Int))):=by
 simp only[ND,zae,zbj,zag]at h;exact h
def FZ (l:LD0) (n:ao) (c:LD0):Bool:=decide (l.length<=1000000)&&(l.all (ND c.length)&&(decide (au 3 l<=144115188075855872/\(0<=n.fee/\n.fee<=144115188075855872)/\(0<=n.out/\n.out<=144115188075855872)/\(0<=n.rin/\n.rin<=144115188075855872))&&(decide (c.length<=1000)&&c.all bn)))
theorem Dd (c:LD0) (p:Dat):(nR c p).length=c.length:=by unfold nR;repeat' split
 all_goals simp
theorem Et {d:Dat} (x:Int) (h:bn d=true):bn (qC x d)=true:=by
 have:=cS h;refine zaa ?_
 simp only[qC,GJ,fQ,gQ,Bc,rP,rY];omega
theorem Jm {c:LD0} {p:Dat} (hp:ND c.length p=true) (h:fo c):fo (nR c p):=by
 have hp:=xS hp;unfold nR
 by_cases h1:p.i 1=1
 . rw[if_pos h1];exact h
 rw[if_neg h1]
 by_cases h2:p.i 1=2
 . rw[if_pos h2];exact h
 rw[if_neg h2]
 by_cases h3:p.i 1=6
 . rw[if_pos h3];exact h
 rw[if_neg h3];have hj:(p.i 2).toNat<c.length:=by omega
 split
 . exact qB h (Et _ (de hj h.2))
 . exact qB h (Nn _ (de hj h.2))
def Y1:aA:=⟨VC.tab,147,⟨[.np 0 0 0,.ab (sI 4)],aT 0,0⟩,⟨[],aT 0,0⟩,[]⟩
abbrev DR:Type:=Int × LD0 × Int × Int × av × aw × ao × LD0 × LD0 × LD0 × LD0 × LD0 × LD0 × LD0
def yA (m:Nat) (k:DR->OU0):DR->OU0:=fun(a0,a1,a2,a3,a4,a5,a6,a7,a8,a9,a10,a11,a12,a13)=>
 bif decide (a3<a2)then
 chk (inb a3 a1.length)<|
 chk (decide (a3.toNat<a1.length))<|
 lt (ai a1 a3.toNat:Dat) fun d1=>
 bif (d1.i 1)==1 then
 chk (decide (0<=a0))<|
 chk (decide (0<=a0))<|
 k (a0,a1,a2,(w64 (a3+1)),a4,a5,({a6 with fee:=(w64 (a6.fee-(d1.i 3)))}:ao),a7,a8,a9,a10,a11,a12,a13)
 else
 bif (d1.i 1)==2 then
 chk (decide (0<=a0))<|
 chk (decide (0<=a0))<|
 k (a0,a1,a2,(w64 (a3+1)),a4,a5,({a6 with out:=(w64 (a6.out-(d1.i 3)))}:ao),a7,a8,a9,a10,a11,a12,a13)
 else
 bif (d1.i 1)==6 then
 chk (decide (0<=a0))<|
 chk (decide (0<=0)&&decide ((0:Int)<=a6.rin/\(0:Int)<=(d1.i 3)/\a6.rin+(d1.i 3)<=(1152921504606846976:Int)))<|
 k (a0,a1,a2,(w64 (a3+1)),a4,a5,({a6 with rin:=a6.rin+(d1.i 3)}),a7,a8,a9,a10,a11,a12,a13)
 else
 bif (d1.i 1)==3 then
 chk (decide (0<=a0))<|
 chk (inb (d1.i 2) a13.length)<|
 chk (decide ((d1.i 2).toNat<a13.length))<|
 lt (ai a13 ((d1.i 2).toNat):Dat) fun d5=>
 lt ((if (d5.i 5)<(d1.i 3)then(d5.i 5)else(d1.i 3)):Int) fun x6=>
 chk (decide ((d1.i 2).toNat<a13.length))<|
 chk (decide ((d1.i 2).toNat<a13.length))<|
 lt (ai a13 ((d1.i 2).toNat):Dat) fun d9=>
 k (a0,a1,a2,(w64 (a3+1)),a4,a5,a6,a7,a8,a9,a10,a11,a12,(List.set a13 ((d1.i 2).toNat) (.r [.n (d9.i 0),.n (d9.i 1),.n (d9.i 2),.n (d9.i 3),.n (d9.i 4),.n (w64 (((ai a13 ((d1.i 2).toNat)).i 5)-(if x6<0 then 0 else x6))),.n (d9.i 6)])))
 else
 chk (decide (0<=a0))<|
 chk (inb (d1.i 2) a13.length)<|
 chk (decide (0<=((d1.i 2).toNat:Int)/\((d1.i 2).toNat:Int).toNat<a13.length)&&bn (ai a13 ((d1.i 2).toNat:Int).toNat))<|
 k (a0,a1,a2,(w64 (a3+1)),a4,a5,a6,a7,a8,a9,a10,a11,a12,(a13.set ((d1.i 2).toNat:Int).toNat (AI (d1.i 3) (ai a13 ((d1.i 2).toNat:Int).toNat))))
 else
 some (Uns.enc (a4:av)++Uns.enc (a5:aw)++Uns.enc (a6:ao)++[.d a7,.d a8,.d a9,.d a10,.d a11,.d a12,.d a13])
def vM (m:Nat):Nat->DR->OU0:=aX (yA m)
theorem wA (m:Nat) (n:Nat):vM m (n+1)=yA m (vM m n):=rfl
def Ks (F:DR->OU0):aQ:=⟨[.lp [0,1],.blk 0],⟨frm 67 [(0,.np 0 0 0),(6,.ab (sI 4)),(7,.z0),(8,.z0)],aT 0,0⟩,onU F⟩
theorem Zn (m:Nat):∀n,HO Y1 (Ks (vM m n)):=an ae VC.right (fun k=>[Ks k]) (fun k h=>(aI h az)) fun k a=>by kernel_rfl
def t147 (m:Nat):Int × LD0 × av × aw × ao × LD0 × LD0 × LD0 × LD0 × LD0 × LD0 × LD0->OU0:=fun(a0,a1,a2,a3,a4,a5,a6,a7,a8,a9,a10,a11)=>
 vM m m (a0,a1,(a1.length:Int),0,a2,a3,a4,a5,a6,a7,a8,a9,a10,a11)
theorem XI (m:Nat) (p0:Int) (hp0:0<=p0) (xa:av) (xb:aw) (x1 x2 x3 x4 x5 x6:LD0):∀(rest pre:LD0) (n:Nat) (y:ao) (c:LD0),rest.length<n->(pre++rest).length<=1000000->(∀d∈rest,ND c.length d=true)->fo c->
 (-288230376151711744<=y.fee-au 3 rest/\y.fee<=288230376151711744)->(-288230376151711744<=y.out-au 3 rest/\y.out<=288230376151711744)->(0<=y.rin/\y.rin+au 3 rest<=576460752303423488)->
 vM m n (p0,pre++rest,((pre++rest).length:Int),(pre.length:Int),xa,xb,y,x1,x2,x3,x4,x5,x6,c)=some (Uns.enc xa++Uns.enc xb++Uns.enc (eM rest y c).1++[.d x1,.d x2,.d x3,.d x4,.d x5,.d x6,.d (eM rest y c).2]):=by
 intro rest
 induction rest with
 |nil=>
  intro pre n y c hn hl hp hg f1 f2 f3;obtain⟨n,rfl⟩:=ah n (by simp at hn;omega);rw[wA];unfold yA;dsimp only;simp[ay,eM]
 |cons x rest ih=>
  intro pre n y c hn hl hp hg f1 f2 f3;obtain⟨n,rfl⟩:=ah n (by simp at hn;omega);simp only[zac,zab]at hn hl;have hx:=xS (hp x (by simp));have hr:=fun d hd=>hp d (zay _ hd)
  have hs:=gG 3 rest fun d hd=>(xS (hr d hd)).1
  have hT:=Jm (hp x (by simp)) hg;have hN:(-288230376151711744<=(lE y x).fee-au 3 rest/\(lE y x).fee<=288230376151711744)/\(-288230376151711744<=(lE y x).out-au 3 rest/\(lE y x).out<=288230376151711744)/\(0<=(lE y x).rin/\(lE y x).rin+au 3 rest<=576460752303423488):=by
   simp only[au]at f1 f2 f3;unfold lE
   by_cases h1:x.i 1=1
   . rw[if_pos h1];simp only;omega
   rw[if_neg h1]
   by_cases h2:x.i 1=2
   . rw[if_pos h2];simp only;omega
   rw[if_neg h2]
   by_cases h3:x.i 1=6
   . rw[if_pos h3];simp only;omega
   rw[if_neg h3];omega
  have:=ih (pre++[x]) n (lE y x) (nR c x) (by omega) (by simp;omega) (by rw[Dd];exact hr) hT hN.1 hN.2.1 hN.2.2;simp only[au]at f1 f2 f3;simp only[eM];rw[wA];unfold yA;dsimp only;unfold lE nR at this⊢
  by_cases h1:x.i 1=1
  . simp only[if_pos h1]at this⊢;simp(disch:=omega) only[TRa,TRi,aa,LNl,LNi,zad,ax];simp only[LNl,LNi,zad]at this⊢;exact this
  simp only[if_neg h1]at this⊢
  by_cases h2:x.i 1=2
  . simp only[if_pos h2]at this⊢;simp(disch:=omega) only[TRa,TRi,aa,LNl,LNi,zad,ax];simp only[LNl,LNi,zad]at this⊢;exact this
  simp only[if_neg h2]at this⊢
  by_cases h6:x.i 1=6
  . simp only[if_pos h6]at this⊢;simp only[show decide ((0:Nat)<=0)=true from rfl,zbb];simp(disch:=omega) only[TRa,TRi,aa,LNl,LNi,zad,ax];simp only[LNl,LNi,zad]at this⊢;exact this
  simp only[if_neg h6]at this⊢;have hj:(x.i 2).toNat<c.length:=by omega
  have hd:=cS (de hj hg.2);have hd2:=de hj hg.2;have hjn:(((x.i 2).toNat:Int)).toNat=(x.i 2).toNat:=zat _
  by_cases h3:x.i 1=3
  . simp only[if_pos h3]at this⊢;have e:(if (if (ai c (x.i 2).toNat).i 5<x.i 3 then(ai c (x.i 2).toNat).i 5 else x.i 3)<0 then 0 else(if (ai c (x.i 2).toNat).i 5<x.i 3 then(ai c (x.i 2).toNat).i 5 else x.i 3))=GJ (x.i 3) (ai c (x.i 2).toNat):=by unfold GJ;omega
    have hv:0<=GJ (x.i 3) (ai c (x.i 2).toNat)/\GJ (x.i 3) (ai c (x.i 2).toNat)<=(ai c (x.i 2).toNat).i 5:=by unfold GJ;omega
    simp(disch:=omega) only[lt_eq,bQ,aJ,aK,dY,dL,LNl,LNi,zad,ax,e];rw[aa (n:=(ai c (x.i 2).toNat).i 5-_) (by omega) (by omega),aa (by omega) (by omega)];unfold qC at this;simp only[LNl,LNi,zad]at this⊢;exact this
  . simp only[if_neg h3]at this⊢;simp(disch:=omega) only[lt_eq,bQ,aJ,aK,dY,dL,LNl,LNi,zad,ax,hd2,zbf];rw[aa (by omega) (by omega)];simp only[LNl,LNi,zad]at this⊢;exact this
def f147:Int × LD0 × av × aw × ao × LD0 × LD0 × LD0 × LD0 × LD0 × LD0 × LD0->Bool × List Un:=fun(a0,a1,a2,a3,a4,a5,a6,a7,a8,a9,a10,a11)=>(decide (0<=a0)&&FZ a1 a4 a11,Uns.enc ((a2):av)++Uns.enc ((a3):aw)++Uns.enc (((eM a1 a4 a11).1):ao)++[.d (a5),.d (a6),.d (a7),.d (a8),.d (a9),.d (a10),.d ((eM a1 a4 a11).2)])
theorem OX:ER 147 (mkE Y1.en Y1.ex f147):=ak ae VC.right (fun m=>[Ks (vM m m)]) (t:=t147) (by kernel_rfl) (fun m=>(aI (Zn m m) az)) (fun m a=>by kernel_rfl) fun(a0,a1,a2,a3,a4,a5,a6,a7,a8,a9,a10,a11) hc=>by
 dsimp only[f147]at hc⊢;simp only[FZ,zae,zag,zam]at hc;obtain⟨h0,h1,h2,⟨h3,h4,h5,h6⟩,h7,h8⟩:=hc;have hs:=gG 3 a1 fun d hd=>(xS (h2 d hd)).1
 refine⟨a1.length+1, ?_⟩;exact XI _ a0 h0 a2 a3 a5 a6 a7 a8 a9 a10 a1 [] (a1.length+1) a4 a11 (by omega) (by simpa using h1) h2 ⟨h7,h8⟩ (by omega) (by omega) (by omega)
def Wm:TB:=VC.ad OX
def Cw (parts aN has:Int):Int:=max (mdV aN parts 10000 0-has) 0
def gN (d:Dat):Dat:= .r [.n (d.i 0),.n (bA d),.n (d.i 5)]
theorem Yo (n b p h:Int):0<=mdV n b p h/\mdV n b p h<=1152921504606846976:=by
 unfold mdV
 split
 . rename_i hk;simp only[sn,zag]at hk;have:0<=n*b/p:=zbG (za9 hk.1 (by omega)) (by omega);refine⟨?_,by omega⟩;unfold mdQ
   split<;>omega
 . omega
theorem Fu {l:LD0} (h1:l.length<=1000) (h2:∀d∈l,fE d=true):0<=au 1 l/\au 1 l<=1099511627776000:=by
 have:=tx 1 1099511627776 l fun d hd=>tt (h2 d hd)
 omega
def Yq:aA:=⟨Wm.tab,145,⟨[.ptr 0 0 0,.agg [.z0,.z0,.z0,.z0]],aT 0,9⟩,⟨[.agg [.z0,.z0,.z0,.z0,.buf 9 3]],aT 0++[.ab (sI 3)],9⟩,[]⟩
abbrev EF:Type:=Int × Int × av × aw × ao × LD0 × LD0 × LD0 × LD0 × LD0 × LD0 × LD0 × Int × Int × Int × Int × Int × Int × Int × Int × LD0 × LD0
def xX (m:Nat) (k:EF->OU0):EF->OU0:=fun(a0,a1,a2,a3,a4,a5,a6,a7,a8,a9,a10,a11,a12,a13,a14,a15,a16,a17,a18,a19,a20,a21)=>
 bif decide (a1<a0)then
 chk (inb a1 a11.length)<|
 chk (decide (a1.toNat<a11.length))<|
 lt (ai a11 a1.toNat:Dat) fun d8=>
 chk (fits (a21.length+1) 24)<|
 k (a0,(w64 (a1+1)),a2,a3,a4,a5,a6,a7,a8,a9,a10,a11,a12,a13,a14,a15,a16,a17,a18,a19,a20,(a21++([.r [.n (d8.i 0),.n (w64 (w64 ((d8.i 1)-w64 ((d8.i 3)-(d8.i 4)))-(d8.i 6))),.n (d8.i 5)]])))
 else
 some ([.i a16,.i a17,.i a18,.i a19]++Uns.enc (a2:av)++Uns.enc (a3:aw)++Uns.enc (a4:ao)++[.d a5,.d a6,.d a7,.d a8,.d a9,.d a10,.d a11,.d a21])
def rE (m:Nat):Nat->EF->OU0:=aX (xX m)
theorem xe (m:Nat) (n:Nat):rE m (n+1)=xX m (rE m n):=rfl
def Ji (F:EF->OU0):aQ:=⟨[.lp [0,1,0,1,1,1],.blk 0,.code [1,1,1,1]],⟨frm 78 [(4,.ptr 9 0 0),(9,.ptr 10 0 0),(57,.buf 8 7),(58,.z0),(59,.z0)],aT 0++[.cells [.z0,.z0,.z0,.z0,.buf 11 3],.cells [.z0,.z0,.z0,.z0,.buf 12 3],.ab (sI 3),.ab (sI 3)],9⟩,onU F⟩
theorem ZS (m:Nat):∀n,HO Yq (Ji (rE m n)):=an ae Wm.right (fun k=>[Ji k]) (fun k h=>(aI h az)) fun k a=>by kernel_rfl
def t145 (m:Nat):Int × Int × Int × Int × av × aw × ao × LD0 × LD0 × LD0 × LD0 × LD0 × LD0 × LD0->OU0:=fun(a0,a1,a2,a3,a4,a5,a6,a7,a8,a9,a10,a11,a12,a13)=>
 chk (decide (0<=0)&&(decide (a13.length<=1000)&&a13.all bn))<|
 lt ((w64 ((w64 (a0+a3))+a2)):Int) fun x1=>
 chk (decide (0<([.r [.r a12]]:LD0).length)&&(decide (((ai ([.r [.r a12]]:LD0) 0).d 0).length<=1000)&&((ai ([.r [.r a12]]:LD0) 0).d 0).all fE))<|
 lt ((w64 (a6.rin-a6.bP)):Int) fun x4=>
 lt ((mdV (au 1 ((ai ([.r [.r a12]]:LD0) 0).d 0)) a5.target 10000 0):Int) fun x5=>
 rE m m ((a13.length:Int),0,a4,a5,a6,a7,a8,a9,a10,a11,a12,a13,0,0,0,0,a6.fee,a6.out,(if (bX bA a13)<x1 then(bX bA a13)else x1),(if (w64 (x5-x4))<0 then 0 else(w64 (x5-x4))),[],[])
theorem aby (m:Nat) (xa:av) (xb:aw) (xn:ao) (x1 x2 x3 x4 x5 x6 z0:LD0) (z1 z2 z3 z4 w1 w2 w3 w4:Int):∀(rest pre:LD0) (n:Nat),rest.length<n->(pre++rest).length<=1000->(∀d∈rest,bn d=true)->
 rE m n (((pre++rest).length:Int),(pre.length:Int),xa,xb,xn,x1,x2,x3,x4,x5,x6,pre++rest,z1,z2,z3,z4,w1,w2,w3,w4,z0,pre.map gN)=
  some ([.i w1,.i w2,.i w3,.i w4]++Uns.enc xa++Uns.enc xb++Uns.enc xn++[.d x1,.d x2,.d x3,.d x4,.d x5,.d x6,.d (pre++rest),.d ((pre++rest).map gN)]):=by
 intro rest
 induction rest with
 |nil=>
  intro pre n hn hl hg;obtain⟨n,rfl⟩:=ah n (by simp at hn;omega);rw[xe];unfold xX;dsimp only;simp[ay]
 |cons x rest ih=>
  intro pre n hn hl hg;obtain⟨n,rfl⟩:=ah n (by simp at hn;omega);simp only[zac,zab]at hn hl;have e:=Vt (hg x (by simp));have:=ih (pre++[x]) n (by omega) (by simp;omega) (fun d hd=>hg d (by simp[hd]));rw[zb5,show[x].map gN=[.r [.n (x.i 0),.n (bA x),.n (x.i 5)]] from rfl]at this;rw[xe];unfold xX;dsimp only;simp only[LNi,ax,lt_eq,e];simp(disch:=omega) only[TRa,TRi,aa,LNl,LNi,zad,ax];simp only[LNl,LNi,zad]at this⊢;exact this
def f145:Int × Int × Int × Int × av × aw × ao × LD0 × LD0 × LD0 × LD0 × LD0 × LD0 × LD0->Bool × List Un:=fun(a0,a1,a2,a3,a4,a5,a6,a7,a8,a9,a10,a11,a12,a13)=>(decide (((0<=a0/\a0<=1125899906842624)/\(0<=a2/\a2<=1125899906842624)/\(0<=a3/\a3<=1125899906842624))/\(0<=a6.bP/\a6.bP<=a6.rin/\a6.rin<=1152921504606846976))&&((decide (a12.length<=1000)&&a12.all fE)&&(decide (a13.length<=1000)&&a13.all bn)),[.i (a6.fee),.i (a6.out),.i (min (a0+a3+a2) (bX bA a13)),.i (Cw a5.target (au 1 a12) (a6.rin-a6.bP))]++Uns.enc ((a4):av)++Uns.enc ((a5):aw)++Uns.enc ((a6):ao)++[.d (a7),.d (a8),.d (a9),.d (a10),.d (a11),.d (a12),.d (a13),.d (a13.map gN)])
theorem Pj:ER 145 (mkE Yq.en Yq.ex f145):=ak ae Wm.right (fun m=>[Ji (rE m m)]) (t:=t145) (by kernel_rfl) (fun m=>(aI (ZS m m) az)) (fun m a=>by kernel_rfl) fun(a0,a1,a2,a3,a4,a5,a6,a7,a8,a9,a10,a11,a12,a13) hc=>by
 dsimp only[f145]at hc⊢;simp only[zae,zag,zam]at hc;obtain⟨⟨⟨h1,h2,h3⟩,h4,h5,h6⟩,⟨h7,h8⟩,h9,h10⟩:=hc;have hg:fo a13:=⟨h9,h10⟩
 have hb:=Fu h7 h8;have hs:=(j9 a13 h10).1;have hm:=Yo (au 1 a12) a5.target 10000 0;have hlb:(decide (a12.length<=1000)&&a12.all fE)=true:=by rw[zae,zam];exact⟨zaa h7,h8⟩
 refine⟨a13.length+1, ?_⟩;unfold t145 Cw;dsimp only[lt];refine al (by rw[gq hg];rfl) ?_
 refine al (zaG.2 ⟨rfl,hlb⟩) ?_
 change rE _ _ (_,_,_,_,_,_,_,_,_,_,_,_,_,_,_,_,_,_,(if bX bA a13<w64 (w64 (a0+a3)+a2)then bX bA a13 else w64 (w64 (a0+a3)+a2)),(if w64 (mdV (au 1 a12) a5.target 10000 0-w64 (a6.rin-a6.bP))<0 then 0 else w64 (mdV (au 1 a12) a5.target 10000 0-w64 (a6.rin-a6.bP))),_,_)=_;rw[aa (n:=a0+a3) (by omega) (by omega),aa (n:=a0+a3+a2) (by omega) (by omega),aa (n:=a6.rin-a6.bP) (by omega) (by omega),aa (n:=mdV _ _ _ _-_) (by omega) (by omega)];rw[show(if bX bA a13<a0+a3+a2 then bX bA a13 else a0+a3+a2)=min (a0+a3+a2) (bX bA a13) by omega,show ∀z:Int,(if z<0 then 0 else z)=max z 0 from fun z=>by omega];exact aby _ a4 a5 a6 a7 a8 a9 a10 a11 a12 _ _ _ _ _ _ _ _ _ a13 [] (a13.length+1) (by omega) (by simpa using h9) h10
def U4:TB:=Wm.ad Pj
theorem zi:∀(k:Nat) (n:Int),dA n k++[n+k]=dA n (k+1)
 |0,n=>by simp[dA]
 |k+1,n=>by
  have:=zi k (n+1);simp only[dA,zaC,zaL,zad]at this⊢;rw[<-this,show n+1+(k:Int)=n+((k:Int)+1) by omega]
theorem A4 (u p l r:Int):0<=eK u p l r/\eK u p l r<=max u 0/\eK u p l r<=max (u-p) 0/\eK u p l r<=max (l-r) 0:=by unfold eK;omega
def ZP:aA:=⟨U4.tab,148,⟨[.ptr 0 0 0,.agg [.z0,.z0,.z0,.z0]],aT 0,0⟩,⟨[],aT 0,0⟩,[]⟩
abbrev Dz:Type:=Int × Int × Int × av × aw × ao × LD0 × LD0 × LD0 × LD0 × LD0 × LD0 × LD0 × LI0
def xQ (m:Nat) (k:Dz->OU0):Dz->OU0:=fun(a0,a1,a2,a3,a4,a5,a6,a7,a8,a9,a10,a11,a12,a13)=>
 bif decide (a2<a1)then
 chk (inb a2 a12.length)<|
 chk (fits (a13.length+([(a2.toNat:Int)]).length) 8)<|
 k (a0,a1,(w64 (a2+1)),a3,a4,a5,a6,a7,a8,a9,a10,a11,a12,(a13++([(a2.toNat:Int)])))
 else
 chk (decide (0<([.r [.r a11]]:LD0).length)&&(decide (((ai ([.r [.r a11]]:LD0) 0).d 0).length<=1000)&&((ai ([.r [.r a11]]:LD0) 0).d 0).all fE))<|
 lt ((au 1 ((ai ([.r [.r a11]]:LD0) 0).d 0)):Int) fun x1=>
 chk (decide ((-1152921504606846976<=a0/\a0<=1152921504606846976)/\(-1152921504606846976<=x1/\x1<=1152921504606846976)/\(-1152921504606846976<=a5.aP/\a5.aP<=1152921504606846976)/\(-1152921504606846976<=a5.ba/\a5.ba<=1152921504606846976)))<|
 chk (decide ((eK a0 x1 a5.aP a5.ba)<=1152921504606846976)&&((decide (a13=dA 0 a12.length))&&(decide (a12.length<=1000)&&a12.all bn)))<|
 some (Uns.enc (a3:av)++Uns.enc (a4:aw)++Uns.enc (a5:ao)++[.d a6,.d a7,.d a8,.d a9,.d a10,.d a11,.d (lg (eK a0 x1 a5.aP a5.ba) a12)])
def u7 (m:Nat):Nat->Dz->OU0:=aX (xQ m)
theorem vW (m:Nat) (n:Nat):u7 m (n+1)=xQ m (u7 m n):=rfl
def JZ (F:Dz->OU0):aQ:=⟨[.lp [0,1,0,1,1,1,1,1],.blk 0,.code [1,1,1,1,1,1]],⟨frm 70 [(0,.ptr 0 0 0),(7,.z0),(8,.buf 9 1),(39,.z0),(40,.z0)],aT 0++[.fh 8 7 0],0⟩,onU F⟩
theorem YW (m:Nat):∀n,HO ZP (JZ (u7 m n)):=an ae U4.right (fun k=>[JZ k]) (fun k h=>(aI h az)) fun k a=>by kernel_rfl
def t148 (m:Nat):Int × Int × Int × Int × av × aw × ao × LD0 × LD0 × LD0 × LD0 × LD0 × LD0 × LD0->OU0:=fun(a0,a1,a2,a3,a4,a5,a6,a7,a8,a9,a10,a11,a12,a13)=>
 chk (decide (0<=0)&&(decide (a13.length<=1000)&&a13.all bn))<|
 u7 m m ((bX unD a13),(a13.length:Int),0,a4,a5,({a6 with aP:=(w64 (a6.aP+a2)),ba:=(w64 (a6.ba+a3))}:ao),a7,a8,a9,a10,a11,a12,a13,[])
theorem abH (m:Nat) (u:Int) (xa:av) (xb:aw) (y:ao) (x1 x2 x3 x4 x5 x6 x7:LD0) (hu:0<=u/\u<=1099511627776000) (h1:0<=y.aP/\y.aP<=1152921504606846976) (h2:0<=y.ba/\y.ba<=1152921504606846976) (h3:(decide (x6.length<=1000)&&x6.all fE)=true) (hb:0<=au 1 x6/\au 1 x6<=1099511627776000) (hg:fo x7):∀(k i n:Nat),i+k=x7.length->k<n->
 u7 m n (u,(x7.length:Int),(i:Int),xa,xb,y,x1,x2,x3,x4,x5,x6,x7,dA 0 i)=some (Uns.enc xa++Uns.enc xb++Uns.enc y++[.d x1,.d x2,.d x3,.d x4,.d x5,.d x6,.d (lg (eK u (au 1 x6) y.aP y.ba) x7)]):=by
 intro k
 induction k with
 |zero=>
  intro i n hi hn;obtain⟨n,rfl⟩:=ah n (by omega);have ht:=A4 u (au 1 x6) y.aP y.ba;have hgb:=gq hg;obtain rfl:i=x7.length:=by omega
  rw[vW];unfold xQ;dsimp only;rw[ay (by omega)];dsimp only[lt];refine al (zaG.2 ⟨rfl,h3⟩) ?_
  change chk (decide ((-1152921504606846976<=u/\u<=1152921504606846976)/\(-1152921504606846976<=au 1 x6/\au 1 x6<=1152921504606846976)/\(-1152921504606846976<=y.aP/\y.aP<=1152921504606846976)/\(-1152921504606846976<=y.ba/\y.ba<=1152921504606846976))) (chk (decide (eK u (au 1 x6) y.aP y.ba<=1152921504606846976)&&(decide (dA 0 x7.length=dA 0 x7.length)&&(decide (x7.length<=1000)&&x7.all bn))) _)=_;rw[aJ (by omega)];exact al (by rw[zae,zae];exact⟨@zaa _ _ (by omega),@zaa _ _ rfl,hgb⟩) rfl
 |succ k ih=>
  intro i n hi hn;obtain⟨n,rfl⟩:=ah n (by omega);have hg1:=hg.1;have hL:=iG i 0;have:=ih (i+1) n (by omega) (by omega);rw[<-zi i 0]at this;rw[vW];unfold xQ;dsimp only;simp(disch:=omega) only[TRa,TRi,aa,LNl,LNi,zad,hL];simp only[LNl,LNi,zad]at this⊢;exact this
def f148:Int × Int × Int × Int × av × aw × ao × LD0 × LD0 × LD0 × LD0 × LD0 × LD0 × LD0->Bool × List Un:=fun(a0,a1,a2,a3,a4,a5,a6,a7,a8,a9,a10,a11,a12,a13)=>(decide (((0<=a0/\a0<=1125899906842624)/\(0<=a2/\a2<=1125899906842624)/\(0<=a3/\a3<=1125899906842624))/\(0<=a6.aP/\a6.aP<=1125899906842624)/\(0<=a6.ba/\a6.ba<=1125899906842624))&&((decide (a12.length<=1000)&&a12.all fE)&&(decide (a13.length<=1000)&&a13.all bn)),Uns.enc ((a4):av)++Uns.enc ((a5):aw)++Uns.enc (({a6 with aP:=a6.aP+a2,ba:=a6.ba+a3}):ao)++[.d (a7),.d (a8),.d (a9),.d (a10),.d (a11),.d (a12),.d (lg (eK (bX unD a13) (au 1 a12) (a6.aP+a2) (a6.ba+a3)) a13)])
theorem P5:ER 148 (mkE ZP.en ZP.ex f148):=ak ae U4.right (fun m=>[JZ (u7 m m)]) (t:=t148) (by kernel_rfl) (fun m=>(aI (YW m m) az)) (fun m a=>by kernel_rfl) fun(a0,a1,a2,a3,a4,a5,a6,a7,a8,a9,a10,a11,a12,a13) hc=>by
 dsimp only[f148]at hc⊢;simp only[zae,zag,zam]at hc;obtain⟨⟨⟨h1,h2,h3⟩,h4,h5⟩,⟨h7,h8⟩,h9,h10⟩:=hc;have hg:fo a13:=⟨h9,h10⟩
 have hb:=Fu h7 h8;have hs:=(j9 a13 h10).2.2.2.1;refine⟨a13.length+1, ?_⟩;unfold t148;dsimp only;refine al (by rw[gq hg];rfl) ?_
 rw[aa (n:=a6.aP+a2) (by omega) (by omega),aa (n:=a6.ba+a3) (by omega) (by omega)];exact abH _ _ a4 a5 {a6 with aP:=a6.aP+a2,ba:=a6.ba+a3} a7 a8 a9 a10 a11 a12 a13 (by omega) (by simp only;omega) (by simp only;omega) (by rw[zae,zam];exact⟨zaa h7,h8⟩) hb hg a13.length 0 (a13.length+1) (by omega) (by omega)
def Uh:TB:=U4.ad P5
def JK (d:Dat):Dat:= .r [.n (bA d),.n (d.i 5),.n (d.i 6)]
def ZQ:aA:=⟨Uh.tab,152,⟨[.agg [.bool,.z0,.z0,.z0,.z0,.z0,.z0,.z0,.z0,.z0,.z0,.buf 9 4,.z0,.z0,.z0,.z0,.z0,.eL,.z0],.np 0 0 0],aT 0++[.ab (sI 4)],10⟩,⟨[.agg [.bool,.z0,.z0,.z0,.z0,.z0,.z0,.z0,.z0,.z0,.z0,.buf 9 4,.z0,.z0,.z0,.z0,.z0,.buf 10 3,.z0]],aT 0++[.ab (sI 4),.ab (sI 3)],10⟩,[]⟩
abbrev Ft:Type:=Int × Int × av × aw × ao × LD0 × LD0 × LD0 × LD0 × LD0 × LD0 × LD0 × LD0 × cE × cz × Int × cE × cz × Int × LD0 × LD0 × LD0
def ym (m:Nat) (k:Ft->OU0):Ft->OU0:=fun(a0,a1,a2,a3,a4,a5,a6,a7,a8,a9,a10,a11,a12,a13,a14,a15,a16,a17,a18,a19,a20,a21)=>
 bif decide (a1<a0)then
 chk (inb a1 a11.length)<|
 chk (decide (a1.toNat<a11.length))<|
 lt (ai a11 a1.toNat:Dat) fun d3=>
 chk (fits (a19.length+1) 24)<|
 k (a0,(w64 (a1+1)),a2,a3,a4,a5,a6,a7,a8,a9,a10,a11,a12,a13,a14,a15,a16,a17,a18,(a19++([.r [.n (w64 (w64 ((d3.i 1)-w64 ((d3.i 3)-(d3.i 4)))-(d3.i 6))),.n (d3.i 5),.n (d3.i 6)]])),a20,a21)
 else
 some (Uns.enc (a13:cE)++Uns.enc (a14:cz)++[.i a15]++Uns.enc (a2:av)++Uns.enc (a3:aw)++Uns.enc (a4:ao)++[.d a5,.d a6,.d a7,.d a8,.d a9,.d a10,.d a11,.d a12,.d a19])
def vv (m:Nat):Nat->Ft->OU0:=aX (ym m)
theorem wZ (m:Nat) (n:Nat):vv m (n+1)=ym m (vv m n):=rfl
def IB (F:Ft->OU0):aQ:=⟨[.lp [0,1,0,1,1],.blk 0,.code [1,1,1]],⟨frm 58 [(2,.ptr 10 0 0),(4,.ptr 11 0 0),(38,.buf 8 7),(39,.z0),(40,.z0)],aT 0++[.ab (sI 4),.cells [.bool,.z0,.z0,.z0,.z0,.z0,.z0,.z0,.z0,.z0,.z0,.buf 9 4,.z0,.z0,.z0,.z0,.z0,.buf 12 3,.z0],.cells [.bool,.z0,.z0,.z0,.z0,.z0,.z0,.z0,.z0,.z0,.z0,.buf 13 4,.z0,.z0,.z0,.z0,.z0,.buf 14 3,.z0],.ab (sI 3),.ab (sI 4),.ab (sI 3)],10⟩,onU F⟩
theorem ZF (m:Nat):∀n,HO ZQ (IB (vv m n)):=an ae Uh.right (fun k=>[IB k]) (fun k h=>(aI h az)) fun k a=>by kernel_rfl
def t152 (m:Nat):cE × cz × Int × Int × av × aw × ao × LD0 × LD0 × LD0 × LD0 × LD0 × LD0 × LD0 × LD0->OU0:=fun(a0,a1,a2,a3,a4,a5,a6,a7,a8,a9,a10,a11,a12,a13,a14)=>
 chk (decide (0<=a3))<|
 chk (decide (0<([.r [.r a12]]:LD0).length)&&(decide (((ai ([.r [.r a12]]:LD0) 0).d 0).length<=1000)&&((ai ([.r [.r a12]]:LD0) 0).d 0).all fE))<|
 chk (decide (0<=a3))<|
 chk (decide (0<=a3))<|
 chk (decide (0<=a3))<|
 chk (decide (0<=a3))<|
 chk (decide (0<=a3))<|
 vv m m ((a13.length:Int),0,a4,a5,a6,a7,a8,a9,a10,a11,a12,a13,a14,a0,(⟨a1.eI,(au 1 ((ai ([.r [.r a12]]:LD0) 0).d 0)),(w64 (a6.rin-a6.bP)),a6.out,a6.fee⟩:cz),a6.mode,(⟨false,0,0,0,0,0,0,0,0,0,0⟩:cE),(⟨0,0,0,0,0⟩:cz),0,[],[],[])
theorem TV (m:Nat) (xa:av) (xb:aw) (xn:ao) (x1 x2 x3 x4 x5 x6 py:LD0) (ra za:cE) (rb zb:cz) (nx zx:Int) (z1 z2:LD0):∀(rest pre:LD0) (n:Nat),rest.length<n->(pre++rest).length<=1000->(∀d∈rest,bn d=true)->
 vv m n (((pre++rest).length:Int),(pre.length:Int),xa,xb,xn,x1,x2,x3,x4,x5,x6,pre++rest,py,ra,rb,nx,za,zb,zx,pre.map JK,z1,z2)=
  some (Uns.enc ra++Uns.enc rb++[.i nx]++Uns.enc xa++Uns.enc xb++Uns.enc xn++[.d x1,.d x2,.d x3,.d x4,.d x5,.d x6,.d (pre++rest),.d py,.d ((pre++rest).map JK)]):=by
 intro rest
 induction rest with
 |nil=>
  intro pre n hn hl hg;obtain⟨n,rfl⟩:=ah n (by simp at hn;omega);rw[wZ];unfold ym;dsimp only;simp[ay]
 |cons x rest ih=>
  intro pre n hn hl hg;obtain⟨n,rfl⟩:=ah n (by simp at hn;omega);simp only[zac,zab]at hn hl;have e:=Vt (hg x (by simp));have:=ih (pre++[x]) n (by omega) (by simp;omega) (fun d hd=>hg d (by simp[hd]));rw[zb5,show[x].map JK=[.r [.n (bA x),.n (x.i 5),.n (x.i 6)]] from rfl]at this;rw[wZ];unfold ym;dsimp only;simp only[LNi,ax,lt_eq,e];simp(disch:=omega) only[TRa,TRi,aa,LNl,LNi,zad,ax];simp only[LNl,LNi,zad]at this⊢;exact this
def f152:cE × cz × Int × Int × av × aw × ao × LD0 × LD0 × LD0 × LD0 × LD0 × LD0 × LD0 × LD0->Bool × List Un:=fun(a0,a1,a2,a3,a4,a5,a6,a7,a8,a9,a10,a11,a12,a13,a14)=>(decide (0<=a3)&&(decide (0<=a6.bP/\a6.bP<=a6.rin/\a6.rin<=1152921504606846976)&&((decide (a12.length<=1000)&&a12.all fE)&&(decide (a13.length<=1000)&&a13.all bn))),Uns.enc ((a0):cE)++Uns.enc (((⟨a1.eI,au 1 a12,a6.rin-a6.bP,a6.out,a6.fee⟩:cz)):cz)++[.i (a6.mode)]++Uns.enc ((a4):av)++Uns.enc ((a5):aw)++Uns.enc ((a6):ao)++[.d (a7),.d (a8),.d (a9),.d (a10),.d (a11),.d (a12),.d (a13),.d (a14),.d (a13.map JK)])
theorem QP:ER 152 (mkE ZQ.en ZQ.ex f152):=ak ae Uh.right (fun m=>[IB (vv m m)]) (t:=t152) (by kernel_rfl) (fun m=>(aI (ZF m m) az)) (fun m a=>by kernel_rfl) fun(a0,a1,a2,a3,a4,a5,a6,a7,a8,a9,a10,a11,a12,a13,a14) hc=>by
 dsimp only[f152]at hc⊢;simp only[zae,zag,zam]at hc;obtain⟨h0,⟨h4,h5,h6⟩,⟨h7,h8⟩,h9,h10⟩:=hc;have hb:=Fu h7 h8;have hlb:(decide (a12.length<=1000)&&a12.all fE)=true:=by rw[zae,zam];exact⟨zaa h7,h8⟩
 refine⟨a13.length+1, ?_⟩;unfold t152;dsimp only[lt];simp only[aJ h0];refine al (zaG.2 ⟨rfl,hlb⟩) ?_
 rw[aa (n:=a6.rin-a6.bP) (by omega) (by omega)];exact TV _ a4 a5 a6 a7 a8 a9 a10 a11 a12 a14 a0 _ _ _ _ _ _ _ a13 [] (a13.length+1) (by omega) (by simpa using h9) h10
def Z2:TB:=Uh.ad QP
section
variable (m : Nat) (xa : av) (xb : aw) (xn : ao) (x1 x2 x3 x4 x5 x6 x7 : LD0)
end
def UQ (a b p:Int):Bool:=decide (0<=a/\a<=1099511627776/\0<=b/\b<=1099511627776/\0<=p/\p<=100000)
def cC (a b p:Int):Bool:=UQ a b p&&decide (b*p<=a*10000)
def dD (a b p:Int):Bool:=UQ a b p&&decide (a*10000<=b*p)
def adg:aA:=⟨Z2.tab,192,⟨[.z0,.z0,.z0],[],0⟩,⟨[.bool],[],0⟩,[]⟩
def t192 (m:Nat):Int × Int × Int->OU0:=fun(a0,a1,a2)=>
 bif decide (a0>=0)then
 bif (decide (a0<=1099511627776))then
 bif decide (a1>=0)then
 bif (decide (a1<=1099511627776))then
 bif decide (a2>=0)then
 bif decide (a2<=100000)then
 some ([.b (decide ((w64 (a0*10000))>=(w64 (a1*a2))))])
 else
 some ([.b false])
 else
 some ([.b false])
 else
 some ([.b false])
 else
 some ([.b false])
 else
 some ([.b false])
 else
 some ([.b false])
def f192:Int × Int × Int->Bool × List Un:=fun(a0,a1,a2)=>(true,[.b (cC a0 a1 a2)])
theorem PY:ER 192 (mkE adg.en adg.ex f192):=ak ae Z2.right (fun m=>[]) (t:=t192) (by kernel_rfl) (fun m=>az) (fun m a=>by kernel_rfl) fun(a0,a1,a2) hc=>by
 dsimp only[f192]at⊢;unfold t192 cC UQ;dsimp only[ge_iff_le]
 by_cases h:0<=a0/\a0<=1099511627776/\0<=a1/\a1<=1099511627776/\0<=a2/\a2<=100000
 . obtain⟨h1,h2,h3,h4,h5,h6⟩:=h;have hm:=Int.mul_le_mul h4 h6 h5 (show(0:Int)<=1099511627776 by omega);have hm0:=za9 h3 h5;refine⟨0, ?_⟩;rw[zaa (show 0<=a0/\a0<=1099511627776/\0<=a1/\a1<=1099511627776/\0<=a2/\a2<=100000 from⟨h1,h2,h3,h4,h5,h6⟩)];simp(disch:=omega) only[TRa,aa,zbb]
 . refine⟨0, ?_⟩;rw[zao h]
   by_cases h1:0<=a0
   . by_cases h2:a0<=1099511627776
     . by_cases h3:0<=a1
       . by_cases h4:a1<=1099511627776
         . by_cases h5:0<=a2
           . simp[h1,h2,h3,h4,h5,show ¬a2<=100000 by omega]
           . simp[h1,h2,h3,h4,h5]
         . simp[h1,h2,h3,h4]
       . simp[h1,h2,h3]
     . simp[h1,h2]
   . simp[h1]
def ZB:TB:=Z2.ad PY
def acL:aA:=⟨ZB.tab,193,⟨[.z0,.z0,.z0],[],0⟩,⟨[.bool],[],0⟩,[]⟩
def t193 (m:Nat):Int × Int × Int->OU0:=fun(a0,a1,a2)=>
 bif decide (a0>=0)then
 bif (decide (a0<=1099511627776))then
 bif decide (a1>=0)then
 bif (decide (a1<=1099511627776))then
 bif decide (a2>=0)then
 bif decide (a2<=100000)then
 some ([.b (decide ((w64 (a0*10000))<=(w64 (a1*a2))))])
 else
 some ([.b false])
 else
 some ([.b false])
 else
 some ([.b false])
 else
 some ([.b false])
 else
 some ([.b false])
 else
 some ([.b false])
def f193:Int × Int × Int->Bool × List Un:=fun(a0,a1,a2)=>(true,[.b (dD a0 a1 a2)])
theorem Si:ER 193 (mkE acL.en acL.ex f193):=ak ae ZB.right (fun m=>[]) (t:=t193) (by kernel_rfl) (fun m=>az) (fun m a=>by kernel_rfl) fun(a0,a1,a2) hc=>by
 dsimp only[f193]at⊢;unfold t193 dD UQ;dsimp only[ge_iff_le]
 by_cases h:0<=a0/\a0<=1099511627776/\0<=a1/\a1<=1099511627776/\0<=a2/\a2<=100000
 . obtain⟨h1,h2,h3,h4,h5,h6⟩:=h;have hm:=Int.mul_le_mul h4 h6 h5 (show(0:Int)<=1099511627776 by omega);have hm0:=za9 h3 h5;refine⟨0, ?_⟩;rw[zaa (show 0<=a0/\a0<=1099511627776/\0<=a1/\a1<=1099511627776/\0<=a2/\a2<=100000 from⟨h1,h2,h3,h4,h5,h6⟩)];simp(disch:=omega) only[TRa,aa,zbb]
 . refine⟨0, ?_⟩;rw[zao h]
   by_cases h1:0<=a0
   . by_cases h2:a0<=1099511627776
     . by_cases h3:0<=a1
       . by_cases h4:a1<=1099511627776
         . by_cases h5:0<=a2
           . simp[h1,h2,h3,h4,h5,show ¬a2<=100000 by omega]
           . simp[h1,h2,h3,h4,h5]
         . simp[h1,h2,h3,h4]
       . simp[h1,h2,h3]
     . simp[h1,h2]
   . simp[h1]
def XT:TB:=ZB.ad Si
def aat:aA:=⟨XT.tab,150,⟨[.agg [.z0,.z0,.z0,.z0,.z0],.agg [.z0,.z0,.z0,.z0,.z0,.z0,.z0]],[],0⟩,⟨[.agg [.bool,.bool,.bool,.bool]],[],0⟩,[]⟩
def t150 (m:Nat):Int × Int × Int × Int × Int × Int × Int × Int × Int × Int × Int × Int->OU0:=fun(a0,a1,a2,a3,a4,a5,a6,a7,a8,a9,a10,a11)=>
 bif a0==0 then
 bif a1==0 then
 bif a2==0 then
 bif a3==0 then
 some ([.b true,.b true,.b true,.b true])
 else
 some ([.b true,.b true,.b true,.b (dD a11 a6 a3)])
 else
 bif a3==0 then
 some ([.b true,.b true,.b (dD a10 a5 a2),.b true])
 else
 some ([.b true,.b true,.b (dD a10 a5 a2),.b (dD a11 a6 a3)])
 else
 bif a2==0 then
 bif a3==0 then
 some ([.b true,.b (cC a8 a9 a1),.b true,.b true])
 else
 some ([.b true,.b (cC a8 a9 a1),.b true,.b (dD a11 a6 a3)])
 else
 bif a3==0 then
 some ([.b true,.b (cC a8 a9 a1),.b (dD a10 a5 a2),.b true])
 else
 some ([.b true,.b (cC a8 a9 a1),.b (dD a10 a5 a2),.b (dD a11 a6 a3)])
 else
 bif a1==0 then
 bif a2==0 then
 bif a3==0 then
 some ([.b (cC a5 a7 a0),.b true,.b true,.b true])
 else
 some ([.b (cC a5 a7 a0),.b true,.b true,.b (dD a11 a6 a3)])
 else
 bif a3==0 then
 some ([.b (cC a5 a7 a0),.b true,.b (dD a10 a5 a2),.b true])
 else
 some ([.b (cC a5 a7 a0),.b true,.b (dD a10 a5 a2),.b (dD a11 a6 a3)])
 else
 bif a2==0 then
 bif a3==0 then
 some ([.b (cC a5 a7 a0),.b (cC a8 a9 a1),.b true,.b true])
 else
 some ([.b (cC a5 a7 a0),.b (cC a8 a9 a1),.b true,.b (dD a11 a6 a3)])
 else
 bif a3==0 then
 some ([.b (cC a5 a7 a0),.b (cC a8 a9 a1),.b (dD a10 a5 a2),.b true])
 else
 some ([.b (cC a5 a7 a0),.b (cC a8 a9 a1),.b (dD a10 a5 a2),.b (dD a11 a6 a3)])
def f150:Int × Int × Int × Int × Int × Int × Int × Int × Int × Int × Int × Int->Bool × List Un:=fun(a0,a1,a2,a3,a4,a5,a6,a7,a8,a9,a10,a11)=>(true,[.b ((a0==0||cC a5 a7 a0)),.b ((a1==0||cC a8 a9 a1)),.b ((a2==0||dD a10 a5 a2)),.b ((a3==0||dD a11 a6 a3))])
theorem Pr:ER 150 (mkE aat.en aat.ex f150):=ak ae XT.right (fun m=>[]) (t:=t150) (by kernel_rfl) (fun m=>az) (fun m a=>by kernel_rfl) fun(a0,a1,a2,a3,a4,a5,a6,a7,a8,a9,a10,a11) hc=>by
 dsimp only[f150]at⊢;refine⟨0, ?_⟩;unfold t150;dsimp only;cases a0==0<;>cases a1==0<;>cases a2==0<;>cases a3==0<;>rfl
def ZU:TB:=XT.ad Pr
def jy (need has:Int):Int:=max (min (max need 0) has) 0
def Nl (need has may:Int):Int:=max (min (max need 0-jy need has) may) 0
def aaC:aA:=⟨ZU.tab,142,⟨[.z0,.np 0 0 20,.z0,.z0],aT 0,0⟩,⟨[.z0,.z0],aT 0,0⟩,[]⟩
def t142 (m:Nat):Int × Int × Int × Int × av × aw × ao × LD0 × LD0 × LD0 × LD0 × LD0 × LD0 × LD0->OU0:=fun(a0,a1,a2,a3,a4,a5,a6,a7,a8,a9,a10,a11,a12,a13)=>
 lt ((if a0<0 then 0 else a0):Int) fun x1=>
 bif (!((decide (a1<0))&&true))then
 chk (decide (0<=a1))<|
 lt ((w64 (a6.rin-a6.bP)):Int) fun x3=>
 lt ((if x3<x1 then x3 else x1):Int) fun x4=>
 lt ((if x4<0 then 0 else x4):Int) fun x5=>
 chk (decide (0<=a1))<|
 chk (decide (0<=a1))<|
 lt ((if (w64 (a3-a2))<(w64 (x1-x5))then(w64 (a3-a2))else(w64 (x1-x5))):Int) fun x6=>
 some ([.i x5,.i (if x6<0 then 0 else x6)]++Uns.enc (a4:av)++Uns.enc (a5:aw)++Uns.enc (({a6 with bP:=(w64 (a6.bP+x5))}:ao):ao)++[.d a7,.d a8,.d a9,.d a10,.d a11,.d a12,.d a13])
 else
 lt ((if (w64 (a3-a2))<(w64 (x1-0))then(w64 (a3-a2))else(w64 (x1-0))):Int) fun x8=>
 some ([.i 0,.i (if x8<0 then 0 else x8)]++Uns.enc (a4:av)++Uns.enc (a5:aw)++Uns.enc (a6:ao)++[.d a7,.d a8,.d a9,.d a10,.d a11,.d a12,.d a13])
def f142:Int × Int × Int × Int × av × aw × ao × LD0 × LD0 × LD0 × LD0 × LD0 × LD0 × LD0->Bool × List Un:=fun(a0,a1,a2,a3,a4,a5,a6,a7,a8,a9,a10,a11,a12,a13)=>(decide (0<=a1)&&decide ((-1152921504606846976<=a0/\a0<=1152921504606846976)/\((0:Int)<=a6.bP/\a6.bP<=a6.rin/\a6.rin<=(1152921504606846976:Int))/\(0<=a2/\a2<=1152921504606846976)/\(0<=a3/\a3<=1152921504606846976)),[.i (jy a0 (a6.rin-a6.bP)),.i (Nl a0 (a6.rin-a6.bP) (a3-a2))]++Uns.enc ((a4):av)++Uns.enc ((a5):aw)++Uns.enc (({a6 with bP:=a6.bP+jy a0 (a6.rin-a6.bP)}):ao)++[.d (a7),.d (a8),.d (a9),.d (a10),.d (a11),.d (a12),.d (a13)])
theorem R8:ER 142 (mkE aaC.en aaC.ex f142):=ak ae ZU.right (fun m=>[]) (t:=t142) (by kernel_rfl) (fun m=>az) (fun m a=>by kernel_rfl) fun(a0,a1,a2,a3,a4,a5,a6,a7,a8,a9,a10,a11,a12,a13) hc=>by
 dsimp only[f142]at hc⊢;simp only[zae,zag]at hc;obtain⟨h0,⟨h1,h2⟩,⟨h3,h4,h5⟩,⟨h6,h7⟩,h8,h9⟩:=hc;refine⟨0, ?_⟩;unfold t142;dsimp only;simp only[zbf,lt_eq,zao (show ¬a1<0 by omega),Bool.not_false,zaw,zaa h0,lh];rw[aa (n:=a6.rin-a6.bP) (by omega) (by omega),aa (n:=a3-a2) (by omega) (by omega)];have e:(if (if a6.rin-a6.bP<(if a0<0 then 0 else a0)then a6.rin-a6.bP else(if a0<0 then 0 else a0))<0 then 0 else(if a6.rin-a6.bP<(if a0<0 then 0 else a0)then a6.rin-a6.bP else(if a0<0 then 0 else a0)))=jy a0 (a6.rin-a6.bP):=by unfold jy;omega
 have hd:0<=jy a0 (a6.rin-a6.bP)/\jy a0 (a6.rin-a6.bP)<=1152921504606846976/\jy a0 (a6.rin-a6.bP)<=max a0 0/\jy a0 (a6.rin-a6.bP)<=a6.rin-a6.bP:=by unfold jy;omega
 rw[e,show(if a0<0 then 0 else a0)=max a0 0 by omega,aa (n:=max a0 0-_) (by omega) (by omega),aa (n:=a6.bP+_) (by omega) (by omega)];rw[show(if (if a3-a2<max a0 0-jy a0 (a6.rin-a6.bP)then a3-a2 else max a0 0-jy a0 (a6.rin-a6.bP))<0 then 0 else(if a3-a2<max a0 0-jy a0 (a6.rin-a6.bP)then a3-a2 else max a0 0-jy a0 (a6.rin-a6.bP)))=Nl a0 (a6.rin-a6.bP) (a3-a2) by unfold Nl;omega]
def YK:TB:=ZU.ad R8
def gh (d:aU) (m:Int):LD0:=if m=0 then d.s0 else if m=1 then d.s1 else if m=2 then d.s2 else[]
def abu:aA:=⟨YK.tab,146,⟨[.agg [.z0,.z0,.z0,.ab (sI 2),.ab (sI 3),.z0,.z0,.z0,.z0,.z0,.z0,.z0,.z0,.z0,.z0,.ab (sI 2),.ab (sI 2),.ab (sI 2)],.agg [.z0,.z0]],[],0⟩,⟨[.buf 0 2],[.ab (sI 2)],0⟩,[]⟩
def t146 (m:Nat):aU × Int × Int->OU0:=fun(a0,a1,a2)=>
 bif decide (a1<0)then
 some ([.d ([])])
 else
 bif decide (a1>=3)then
 some ([.d ([])])
 else
 chk (inb a1 3)<|
 chk (decide (a1.toNat<3))<|
 chk (decide ((List.getD [a0.s0,a0.s1,a0.s2] a1.toNat []).length<1000000))<|
 some ([.d (List.getD [a0.s0,a0.s1,a0.s2] a1.toNat [])])
def f146:aU × Int × Int->Bool × List Un:=fun(a0,a1,a2)=>(decide (a0.s0.length<1000000/\a0.s1.length<1000000/\a0.s2.length<1000000),[.d (gh a0 a1)])
theorem QY:ER 146 (mkE abu.en abu.ex f146):=ak ae YK.right (fun m=>[]) (t:=t146) (by kernel_rfl) (fun m=>az) (fun m a=>by kernel_rfl) fun(a0,a1,a2) hc=>by
 dsimp only[f146]at hc⊢;obtain⟨h1,h2,h3⟩:=zaj hc;refine⟨0, ?_⟩;unfold t146 gh;dsimp only
 by_cases c0:a1<0
 . rw[aK c0,if_neg (by omega),if_neg (by omega),if_neg (by omega)]
 by_cases c3:a1>=3
 . rw[ay c0,aK c3,if_neg (by omega),if_neg (by omega),if_neg (by omega)]
 rw[ay c0,ay c3,bQ (by omega) (by omega),aJ (by omega)];obtain rfl|rfl|rfl:a1=0\/a1=1\/a1=2:=by omega
 . exact(aJ h1).trans rfl
 . exact(aJ h2).trans rfl
 . exact(aJ h3).trans rfl
def Zs:TB:=YK.ad QY
def jB (d:Dat):Prop:=0<=d.i 1/\0<=d.i 2/\d.i 1+d.i 2<=1099511627776/\(0<=d.i 3/\d.i 3<=12)/\(d.b 4=true->d.i 1=0)/\(d.b 4=false->d.i 2=0)
theorem F7 {p q r s l:Int} (h:jI p q r s l=true):(0<=p/\p<=1099511627776)/\(0<=q/\q<=1099511627776)/\(0<=r/\r<=1099511627776)/\(0<=s/\s<=1099511627776)/\0<=l/\l<=12:=by
 simp only[jI,zae,zag]at h;omega
theorem Rx {x d:Dat} (hx:jB x) (hl:jI (d.i 1) (d.i 2) (d.i 3) (d.i 4) (d.i 5)=true) (hm:Fo x d=true):jB (pd x d)/\(pd x d).i 1=x.i 1-(d.i 1+d.i 2)-kU (x.i 1) (d.i 1) (d.i 2) (d.b 6)/\(pd x d).i 2=x.i 2+kU (x.i 1) (d.i 1) (d.i 2) (d.b 6)-d.i 4/\
 0<=kU (x.i 1) (d.i 1) (d.i 2) (d.b 6)/\d.i 1+d.i 2+kU (x.i 1) (d.i 1) (d.i 2) (d.b 6)<=x.i 1/\d.i 4<=x.i 2+kU (x.i 1) (d.i 1) (d.i 2) (d.b 6):=by
 obtain⟨x1,x2,x3,x4,x5,x6⟩:=hx;have l:=F7 hl;have e1:(pd x d).i 1=C7 (x.i 1) (d.i 1) (d.i 2) (d.b 6):=rfl;have e2:(pd x d).i 2=u6 (x.i 1) (x.i 2) (d.i 1) (d.i 2) (d.i 4) (d.b 6):=rfl;have e3:(pd x d).i 3=uh (x.i 1) (x.b 4) (d.i 1) (d.i 2) (d.i 5) (d.b 6):=rfl;have e4:(pd x d).b 4=(d.b 6||x.b 4):=Z0 _;unfold jB;rw[e1,e2,e3,e4];unfold Fo BT at hm;unfold C7 u6 uh kU;generalize d.i 1=p at*
 generalize d.i 2=q at*
 generalize d.i 3=r at*
 generalize d.i 4=s at*
 generalize d.i 5=t at*
 generalize x.i 1=b at*
 generalize x.i 2=o at*
 clear e1 e2 e3 e4 hl;cases hb:x.b 4
 . have:=x6 hb;simp only[hb,zal,show w64 (b-p)=b-p from aa (by omega) (by omega),show w64 (b-p-q)=b-p-q from aa (by omega) (by omega)]at hm;simp only[show w64 (p+q)=p+q from aa (by omega) (by omega),show w64 (b-(p+q))=b-(p+q) from aa (by omega) (by omega)]
   by_cases hn:b-p-q<0
   . rw[zaa hn]at hm;cases hm
   rw[zao hn,zal]at hm;cases hd:d.b 6
   . simp only[hd,zal,zaH]at hm;subst hm;simp only[zal,Bool.or_self,zbv,zb4,show w64 o=o from aa (by omega) (by omega)];have hz:0<=(bif b-(p+q)==0 then 0 else t)/\(bif b-(p+q)==0 then 0 else t)<=12:=by cases (b-(p+q)==0)<;>simp only[zaw,zal]<;>omega
     and_intros<;>first|trivial|omega|(intro h;cases h;done)|(intro _;omega)
   . simp only[hd,zaw,show w64 (o+(b-p-q))=o+(b-p-q) from aa (by omega) (by omega)]at hm;have hr:s<=o+(b-p-q):=by
      by_cases hs:s<=o+(b-p-q)
      . exact hs
      . rw[zao hs,zal,zaH]at hm;omega
     simp only[zaw,Bool.or_false,show w64 (o+(b-(p+q)))=o+(b-(p+q)) from aa (by omega) (by omega),show w64 (o+(b-(p+q))-s)=o+(b-(p+q))-s from aa (by omega) (by omega)]
     and_intros<;>first|trivial|omega|(intro h;cases h;done)|(intro _;omega)
 . have:=x5 hb;subst this;rw[hb]at hm;simp only[zaw,zae,zaH,Bool.not_eq_true',zag]at hm;obtain⟨rfl,rfl,h3,h4,h5,h6⟩:=hm;rw[h5];simp only[zaw,zal,zcj,show w64 0=0 by decide,zbv,zb4,show w64 (o-s)=o-s from aa (by omega) (by omega)]
   and_intros<;>first|trivial|omega|(intro h;cases h;done)|(intro _;omega)
theorem tG {β:Type} (f:Dat->β) (y:Dat):∀(l:LD0) (j:Nat),j<l.length->f y=f (ai l j)->(l.set j y).map f=l.map f
 |[],j,h,_=>by simp at h
 |d::l,0,_,h=>by simp only[List.set_cons_zero,zaS,h];rfl
 |d::l,j+1,h,hy=>by simp only[zbR,zaS,tG f y l j (by simpa using h) hy]
theorem iM {l:LD0} (h:∀d∈l,jB d):0<=au 1 l/\0<=au 2 l:=⟨gG 1 l fun d hd=>(h d hd).1,gG 2 l fun d hd=>(h d hd).2.1⟩
theorem CE:∀(t l:LD0) (last p q s r:Int) (x:PZ),(∀d∈l,jB d)->ky last t=true->gR l p q s r t=some x->au 1 l+au 2 l<=1099511627776->(0<=p/\p+au 1 l<=4398046511104)->(0<=s/\s+au 1 l<=4398046511104)->(0<=r/\r+au 1 l+au 2 l<=4398046511104)->(0<=q/\q+1099511627776*t.length<=1125899906842624)->
 (∀d∈x.aN,jB d)/\x.aN.map (fun d=>d.i 0)=l.map (fun d=>d.i 0)/\au 1 x.aN=au 1 l-(x.p-p)-(x.l-s)/\au 2 x.aN=au 2 l+(x.l-s)-(x.r-r)/\p<=x.p/\s<=x.l/\r<=x.r/\(q<=x.q/\x.q<=q+1099511627776*t.length)/\x.e=0
 |[],l,last,p,q,s,r,x,hl,ht,h,b1,b2,b3,b4,b5=>by
  simp only[gR,zak]at h;subst h;exact⟨hl,rfl,by simp,by simp,by simp,by simp,by simp,by simp,rfl⟩
 |d::t,l,last,p,q,s,r,x,hl,ht,h,b1,b2,b3,b4,b5=>by
  simp only[ky]at ht
  split at ht
  . cases ht
  . split at ht
    . rename_i hT;unfold gR at h
      split at h
      . cases h
      . rename_i hi
        split at h
        . rename_i hm;rcases EH (d.i 0) l 0 with hj|⟨hj1,hj2⟩
          . omega
          . have hj:(gI (d.i 0) 0 l).toNat<l.length:=by omega
            generalize (gI (d.i 0) 0 l).toNat=j at*
            obtain⟨r1,r2,r3,r4,r5,r6⟩:=Rx (hl _ (tJ hj)) hT hm;have lt:=F7 hT;have s1:=qq 1 (pd (ai l j) d) l j hj;have s2:=qq 2 (pd (ai l j) d) l j hj;have hl':=LH (p:=jB) (j:=j) hl r1;obtain⟨n1,n2⟩:=iM hl;obtain⟨n3,n4⟩:=iM hl';rw[r2]at s1;rw[r3]at s2;simp only[zac,zaL,zad]at b5;generalize kU ((ai l j).i 1) (d.i 1) (d.i 2) (d.b 6)=z at*
            rw[show w64 (d.i 1+d.i 2)=d.i 1+d.i 2 from aa (by omega) (by omega),show w64 (p+(d.i 1+d.i 2))=p+(d.i 1+d.i 2) from aa (by omega) (by omega),show w64 (q+d.i 3)=q+d.i 3 from aa (by omega) (by omega),show w64 (s+z)=s+z from aa (by omega) (by omega),show w64 (r+d.i 4)=r+d.i 4 from aa (by omega) (by omega)]at h;obtain⟨c1,c2,c3,c4,c5,c6,c7,c8,c9⟩:=CE t _ _ _ _ _ _ x hl' ht h (by omega) (by omega) (by omega) (by omega) (by omega);refine⟨c1,c2.trans (tG _ _ _ _ hj rfl),by omega,by omega,by omega,by omega,by omega, ?_,c9⟩;simp only[zac,zaL,zad];omega
        . cases h
    . cases ht
theorem NY {t l:LD0} (hl:∀d∈l,jB d) (b:au 1 l+au 2 l<=1099511627776) (he:(aL t l).e=0):
 (∀d∈(aL t l).aN,jB d)/\(aL t l).aN.map (fun d=>d.i 0)=l.map (fun d=>d.i 0)/\au 1 (aL t l).aN=au 1 l-(aL t l).p-(aL t l).l/\au 2 (aL t l).aN=au 2 l+(aL t l).l-(aL t l).r/\
 0<=(aL t l).p/\0<=(aL t l).l/\0<=(aL t l).r/\0<=(aL t l).q/\(aL t l).q<=70368744177664:=by
 unfold aL at he⊢
 split at he
 . rename_i ht;rw[if_pos ht];simp only[mj,zae,zag]at ht;cases hx:gR l 0 0 0 0 t with
   |none=>rw[hx]at he;cases he
   |some x=>
    obtain⟨n1,n2⟩:=iM hl;obtain⟨c1,c2,c3,c4,c5,c6,c7,c8,c9⟩:=CE t l 0 0 0 0 0 x hl ht.2 hx b (by omega) (by omega) (by omega) (by omega);simp only[zbD];exact⟨c1,c2,by omega,by omega,c5,c6,c7,c8.1,by omega⟩
 . cases he
theorem pz (f:Dat->Bool):∀l:LD0,(∀d∈l,0<=d.i 3)->0<=bE f l
 |[],_=>zcb 0
 |d::l,h=>by
  have:=h d (by simp);have:=pz f l fun x hx=>h x (by simp[hx])
  simp only[bE];cases f d<;>simp only[zaw,zal]<;>omega
def yM (d e:Dat) (b s:Int):Prop:=e.i 0=d.i 0/\e.i 1=d.i 1/\e.i 2=d.i 2/\e.i 3=d.i 3+b/\e.i 4=d.i 4/\e.i 5=d.i 5-s/\e.i 6=d.i 6
def amt (f:Dat->Bool) (d:Dat):Int:=bif f d then d.i 3 else 0
theorem jM (f:Dat->Bool) (d:Dat) (l:LD0):bE f (d::l)=amt f d+bE f l:=rfl
theorem Rc {n:ao} {x:Dat} {c:LD0} (h3:0<=x.i 3) (hk:(x.i 1=1\/x.i 1=2\/x.i 1=6)\/(0<=x.i 2/\x.i 2<(c.length:Int))) (hb:∀i,i<c.length->amt (toB i) x<=bA (ai c i)/\amt (toI i) x<=(ai c i).i 5):
 lE n x={n with fee:=n.fee-amt kF x,out:=n.out-amt kR x,rin:=n.rin+amt kT x}/\∀i,i<c.length->yM (ai c i) (ai (nR c x) i) (amt (toB i) x) (amt (toI i) x):=by
 have zero:∀i,kI x=false->kB x=false->yM (ai c i) (ai c i) (amt (toB i) x) (amt (toI i) x):=fun i h1 h2=>by
  simp only[amt,toB,toI,h1,h2,zbN,zal];exact⟨rfl,rfl,rfl,by omega,rfl,by omega,rfl⟩
 unfold lE nR
 by_cases h1:x.i 1=1
 . have a1:kF x=true:=by simp[kF,h1]
   have a2:kR x=false:=by simp[kR,h1]
   have a3:kT x=false:=by simp[kT,h1]
   have a4:kI x=false:=by simp[kI,h1]
   have a5:kB x=false:=by simp[kB,a1]
   rw[if_pos h1,if_pos h1];refine⟨?_,fun i hi=>zero i a4 a5⟩;simp only[amt,a1,a2,a3,zaw,zal,zbv,zb4]
 rw[if_neg h1,if_neg h1];have a1:kF x=false:=lB h1
 by_cases h2:x.i 1=2
 . have a2:kR x=true:=by simp[kR,h2]
   have a3:kT x=false:=by simp[kT,h2]
   have a4:kI x=false:=by simp[kI,h2]
   have a5:kB x=false:=by simp[kB,a2]
   rw[if_pos h2,if_pos h2];refine⟨?_,fun i hi=>zero i a4 a5⟩;simp only[amt,a1,a2,a3,zaw,zal,zbv,zb4]
 rw[if_neg h2,if_neg h2];have a2:kR x=false:=lB h2
 by_cases h6:x.i 1=6
 . have a3:kT x=true:=by simp[kT,h6]
   have a4:kI x=false:=by simp[kI,h6]
   have a5:kB x=false:=by simp[kB,a3]
   rw[if_pos h6,if_pos h6];refine⟨?_,fun i hi=>zero i a4 a5⟩;simp only[amt,a1,a2,a3,zaw,zal,zbv,zb4]
 rw[if_neg h6,if_neg h6];have a3:kT x=false:=lB h6;refine⟨by simp only[amt,a1,a2,a3,zal,zbv,zb4],fun i hi=> ?_⟩;have hj:(x.i 2).toNat<c.length:=by omega
 have hx2:x.i 2=((x.i 2).toNat:Int):=by omega
 generalize (x.i 2).toNat=j at*
 have hbj:=hb j hj
 by_cases h3':x.i 1=3
 . have a4:kI x=true:=by simp[kI,h3']
   have a5:kB x=false:=by simp[kB,a4]
   rw[if_pos h3'];simp only[amt,toB,toI,a4,a5,zbN,zbb,zal,hx2]at hbj⊢
   by_cases hij:i=j
   . subst hij;rw[beq_self_eq_true,zaw]at hbj⊢;rw[zR hj];refine⟨rfl,rfl,rfl,by simp only[qC,gQ];omega,rfl, ?_,rfl⟩;simp only[qC,rP,GJ];omega
   . rw[show((j:Int)==(i:Int))=false from lB (by omega),zal,qi hij];exact⟨rfl,rfl,rfl,by omega,rfl,by omega,rfl⟩
 . have a4:kI x=false:=lB h3';have a5:kB x=true:=by simp[kB,a1,a2,a3,a4]
   rw[if_neg h3'];simp only[amt,toB,toI,a4,a5,zbN,zbb,zal,hx2]at hbj⊢
   by_cases hij:i=j
   . subst hij;rw[beq_self_eq_true,zaw]at hbj⊢;rw[zR hj];refine⟨rfl,rfl,rfl, ?_,rfl,by simp only[AI,rP];omega,rfl⟩;simp only[AI,gQ,sm];omega
   . rw[show((j:Int)==(i:Int))=false from lB (by omega),zal,qi hij];exact⟨rfl,rfl,rfl,by omega,rfl,by omega,rfl⟩
theorem CA:∀(p:LD0) (n:ao) (c:LD0),(∀d∈p,0<=d.i 3)->(∀d∈p,(d.i 1=1\/d.i 1=2\/d.i 1=6)\/(0<=d.i 2/\d.i 2<(c.length:Int)))->(∀i,i<c.length->bE (toB i) p<=bA (ai c i)/\bE (toI i) p<=(ai c i).i 5)->
 (eM p n c).1={n with fee:=n.fee-bE kF p,out:=n.out-bE kR p,rin:=n.rin+bE kT p}/\(eM p n c).2.length=c.length/\∀i,i<c.length->yM (ai c i) (ai (eM p n c).2 i) (bE (toB i) p) (bE (toI i) p)
 |[],n,c,_,_,_=>by
  refine⟨by simp[eM,bE],rfl,fun i hi=>⟨rfl,rfl,rfl, ?_,rfl, ?_,rfl⟩⟩<;>simp[eM,bE]
 |x::p,n,c,h0,hk,hb=>by
  have n0:=fun f=>pz f p fun d hd=>h0 d (zay _ hd)
  have hx0:=h0 x (by simp);have m0:∀f,0<=amt f x:=fun f=>by unfold amt;cases f x<;>simp only[zaw,zal]<;>omega
  obtain⟨o1,o2⟩:=Rc (n:=n) hx0 (hk x (by simp)) fun i hi=>by
   have:=hb i hi;rw[jM,jM]at this;have:=n0 (toB i);have:=n0 (toI i);omega
  have hl:=Dd c x;obtain⟨i1,i2,i3⟩:=CA p (lE n x) (nR c x) (fun d hd=>h0 d (zay _ hd)) (fun d hd=>by rw[hl];exact hk d (zay _ hd)) fun i hi=>by
   rw[hl]at hi;have:=hb i hi;rw[jM,jM]at this;obtain⟨_,e1,_,e3,e4,e5,e6⟩:=o2 i hi;unfold bA at this⊢;omega
  refine⟨?_,i2.trans hl,fun i hi=> ?_⟩
  . show(eM p (lE n x) (nR c x)).1=_;rw[i1,o1];simp only[jM,Int.sub_sub,zcl]
  . obtain⟨e0,e1,e2,e3,e4,e5,e6⟩:=o2 i hi;obtain⟨f0,f1,f2,f3,f4,f5,f6⟩:=i3 i (by rw[hl];exact hi);rw[jM,jM];exact⟨f0.trans e0,f1.trans e1,f2.trans e2,by show(ai (eM p (lE n x) (nR c x)).2 i).i 3=_;omega,f4.trans e4,by show(ai (eM p (lE n x) (nR c x)).2 i).i 5=_;omega,f6.trans e6⟩
def iX (d e:Dat):Prop:=e.i 0=d.i 0/\e.i 1=d.i 1/\e.i 2=d.i 2/\e.i 3=d.i 3/\e.i 4=d.i 4/\e.i 5=d.i 5
theorem iX.refl (d:Dat):iX d d:=⟨rfl,rfl,rfl,rfl,rfl,rfl⟩
theorem iX.trans {a b c:Dat} (h:iX a b) (k:iX b c):iX a c:=⟨k.1.trans h.1,k.2.1.trans h.2.1,k.2.2.1.trans h.2.2.1,k.2.2.2.1.trans h.2.2.2.1,k.2.2.2.2.1.trans h.2.2.2.2.1,k.2.2.2.2.2.trans h.2.2.2.2.2⟩
structure gj (c c' : List Dat) : Prop where
 len:c'.length=c.length
 row:∀i,i<c.length->iX (ai c i) (ai c' i)
theorem gj.refl (c:LD0):gj c c:=⟨rfl,fun _ _=> .refl _⟩
theorem gj.trans {a b c:LD0} (h:gj a b) (k:gj b c):gj a c:=⟨k.len.trans h.len,fun i hi=>(h.row i hi).trans (k.row i (by rw[h.len];exact hi))⟩
theorem gj.set {c:LD0} {j:Nat} {y:Dat} (hj:j<c.length) (h:iX (ai c j) y):gj c (c.set j y):=⟨za1,fun i hi=>by
 by_cases e:i=j
 . subst e;rw[zR hj];exact h
 . rw[qi e];exact .refl _⟩
theorem He (w:Int) (d:Dat):iX d (fO w d):=⟨rfl,rfl,rfl,rfl,rfl,rfl⟩
theorem JI (w:Int) (d:Dat):iX d (jo w d):=⟨rfl,rfl,rfl,rfl,rfl,rfl⟩
theorem Dg (f:Dat->Int):∀c:LD0,(∀d∈c,f d=0)->bX f c=0
 |[],_=>rfl
 |d::c,h=>by simp only[bX,h d (by simp),Dg f c fun x hx=>h x (by simp[hx])];rfl
theorem CG (j:Nat):∀c:LD0,(∀d∈c,d.i j=0)->au j c=0
 |[],_=>rfl
 |d::c,h=>by simp only[au,h d (by simp),CG j c fun x hx=>h x (by simp[hx])];rfl
theorem Uc {c:LD0} {j:Nat} {y:Dat} (hj:j<c.length) (h:iX (ai c j) y):bX unD (c.set j y)=bX unD c:=by
 obtain⟨_,h1,_,h3,h4,_⟩:=h;rw[Hz _ _ _ _ hj];unfold unD;omega
theorem Lv (t:Int):∀(k:Nat) (c:LD0),fo c->zV t c<k->fo (xu k t c)/\gj c (xu k t c)/\(au 6 c<=t->au 6 (xu k t c)=min t (bX unD c))/\(t<=au 6 c->xu k t c=c)
 |0,c,_,h=>by omega
 |k+1,c,hg,h=>by
  have hu:=j9 c hg.2;unfold xu
  by_cases hs:au 6 c<t
  . rw[if_pos hs]
    by_cases hj:iR c c.length 0 (-1)<0
    . rw[if_pos hj];refine⟨hg,.refl c,fun _=> ?_,fun _=>rfl⟩;have h0:=((yi c c.length 0 (-1) (by omega) (.inl (by omega))).1 hj).2;have:bX bA c=0:=Dg _ _ fun d hd=>by
       obtain⟨i,hi,rfl⟩:=pV hd;have:=h0 i (by omega) hi;have:=(Na (de hi hg.2)).1;omega
      omega
    . rw[if_neg hj];obtain⟨a1,a2,a3,a4⟩:=WE hg hs (by omega);have hw:=He (t-au 6 c) (ai c (iR c c.length 0 (-1)).toNat);have hun:=Uc a1 hw;have has:=gj.set a1 hw;generalize c.set (iR c c.length 0 (-1)).toNat (fO (t-au 6 c) (ai c (iR c c.length 0 (-1)).toNat))=c' at*
      obtain⟨b1,b2,b3,b4⟩:=Lv t k c' a2 (by omega);exact⟨b1,has.trans b2,fun _=>by rw[b3 a4,hun],fun _=>by omega⟩
  . rw[if_neg hs];exact⟨hg,.refl c,fun _=>by omega,fun _=>rfl⟩
theorem L9 (t:Int) (h0:0<=t):∀(k:Nat) (c:LD0),fo c->At t c<k->fo (vL k t c)/\gj c (vL k t c)/\(t<=au 6 c->au 6 (vL k t c)=t)/\(au 6 c<=t->vL k t c=c)
 |0,c,_,h=>by omega
 |k+1,c,hg,h=>by
  have hu:=j9 c hg.2;unfold vL
  by_cases hs:t<au 6 c
  . rw[if_pos hs]
    by_cases hj:iT c c.length 0 (-1)<0
    . have h0:=((xT c c.length 0 (-1) (by omega) (.inl (by omega))).1 hj).2;have:au 6 c=0:=CG _ _ fun d hd=>by
       obtain⟨i,hi,rfl⟩:=pV hd;have:=h0 i (by omega) hi;have:=(cS (de hi hg.2)).2.2.2.2.1;omega
      omega
    . rw[if_neg hj];obtain⟨a1,a2,a3,a4⟩:=WD hg hs (by omega);have has:=gj.set a1 (JI (au 6 c-t) (ai c (iT c c.length 0 (-1)).toNat));generalize c.set (iT c c.length 0 (-1)).toNat (jo (au 6 c-t) (ai c (iT c c.length 0 (-1)).toNat))=c' at*
      obtain⟨b1,b2,b3,b4⟩:=L9 t h0 k c' a2 (by omega);exact⟨b1,has.trans b2,fun _=>b3 a4,fun _=>by omega⟩
  . rw[if_neg hs];exact⟨hg,.refl c,fun _=>by omega,fun _=>rfl⟩
theorem M3 {t:Int} {c:LD0} (hg:fo c) (h0:0<=t) (h1:t<=bX unD c):fo (lg t c)/\gj c (lg t c)/\au 6 (lg t c)=t:=by
 obtain⟨a1,a2,a3,a4⟩:=Lv t (c.length+2) c hg (Hy t c);unfold lg;rw[show max t 0=t by omega];obtain⟨b1,b2,b3,b4⟩:=L9 t h0 (c.length+2) (xu (c.length+2) t c) a1 (by have:=G4 t (xu (c.length+2) t c);rwa [a2.len]at this);refine⟨b1,a2.trans b2, ?_⟩
 by_cases hs:au 6 c<=t
 . have:=a3 hs;rw[b4 (by omega)];omega
 . rw[a4 (by omega)]at b3⊢;exact b3 (by omega)
structure WG (d : aU) : Prop where
 year:1<=d.a.year/\d.a.year<=9000
 month:1<=d.a.month/\d.a.month<=12
 basis:0<=d.a.basis/\d.a.basis<=2
 fee:0<=d.b.fee/\d.b.fee<=5000
 bq:0<=d.b.bq/\d.b.bq<=1099511627776
 target:0<=d.b.target/\d.b.target<=10000
 advance:0<=d.b.advance/\d.b.advance<=1099511627776
 eX:0<=d.b.eX/\d.b.eX<=600
 oc:0<=d.b.oc/\d.b.oc<=100000
 ic:0<=d.b.ic/\d.b.ic<=100000
 late:0<=d.b.late/\d.b.late<=100000
 kY:0<=d.b.kY/\d.b.kY<=100000
 clean:0<=d.b.clean/\d.b.clean<=100000
 aeJ:((cD d).getD (0,0)).1=au 1 d.aC
 aN:0<=au 1 d.aC/\au 1 d.aC<=1099511627776
 JL:1<=d.aC.length/\d.aC.length<=64
 Hf:∀x∈d.aC,0<=x.i 1/\x.i 1<=1099511627776
 ids:(d.aC.map fun x=>x.i 0).Pairwise (·<·)
 pos:∀x∈d.aC,0<x.i 0
 NV:1<=d.notes.length/\d.notes.length<=8
 note:∀x∈d.notes,(0<=x.i 0/\x.i 0<=7)/\(1<=x.i 1/\x.i 1<=1099511627776)/\(0<=x.i 2/\x.i 2<=5000)
 sumn:au 1 d.notes<=au 1 d.aC
 s0:eF d.s0=true
 s1:eF d.s1=true
 s2:eF d.s2=true
theorem Cf:∀(l:LD0) (last all r:Int),0<=all->jl last all l=some r->r=all+au 1 l/\(all<=1099511627776->r<=1099511627776)/\(∀x∈l,0<=x.i 1/\x.i 1<=1099511627776/\last<x.i 0)/\(l.map fun x=>x.i 0).Pairwise (·<·)
 |[],last,all,r,h0,h=>by
  simp only[jl,zak]at h;subst h;exact⟨by simp[au],fun h=>h,fun x hx=>by simp at hx,List.Pairwise.nil⟩
 |d::l,last,all,r,h0,h=>by
  unfold jl at h
  split at h
  . cases h
  . rename_i hl
    split at h
    . rename_i hb;obtain⟨h1,h2,h3,h4⟩:=Cf l _ _ _ (by omega) h;refine⟨by simp only[au];omega,fun _=>h2 (by omega),fun x hx=> ?_, ?_⟩
      . rcases zaN.1 hx with rfl|hx
        . omega
        . have:=h3 x hx;omega
      . simp only[zaS,List.pairwise_cons];refine⟨fun y hy=> ?_,h4⟩;obtain⟨x,hx,rfl⟩:=za7.1 hy;exact(h3 x hx).2.2
    . cases h
theorem Di (most:Int) (hm:most<=1099511627776):∀(l:LD0) (all r:Int),0<=all->mB most all l=some r->r=all+au 1 l/\(all<=most->r<=most)/\∀x∈l,(0<=x.i 0/\x.i 0<=7)/\(1<=x.i 1/\x.i 1<=1099511627776)/\(0<=x.i 2/\x.i 2<=5000)
 |[],all,r,h0,h=>by
  simp only[mB,zak]at h;subst h;exact⟨by simp[au],fun h=>h,fun x hx=>by simp at hx⟩
 |d::l,all,r,h0,h=>by
  unfold mB at h
  split at h
  . rename_i hb;obtain⟨h1,h2,h3⟩:=Di most hm l _ _ (by omega) h;refine⟨by simp only[au];omega,fun _=>h2 (by omega),fun x hx=> ?_⟩;rcases zaN.1 hx with rfl|hx
    . omega
    . exact h3 x hx
  . cases h
theorem dS {d:aU} (h:(cD d).isSome=true):WG d:=by
 unfold cD at h
 split at h
 . cases h
 . rename_i p hp
   split at h
   . cases h
   . rename_i n hn
     split at h
     . rename_i hc;have hs:cD d=some (p,n):=by unfold cD;simp only[hp,hn,if_pos hc]
       simp only[zae,qf,zag]at hc;obtain⟨⟨t1,t2,t3,t4,t5,t6,t7,t8,t9,t10,t11,t12,t13⟩,s0,s1,s2⟩:=hc;unfold gC at hp
       split at hp
       . rename_i hl;obtain⟨l1,l2,l3,l4⟩:=Cf _ _ _ _ (by omega) hp;have l2:=l2 (by omega);unfold mg at hn
         split at hn
         . rename_i hnl;obtain⟨n1,n2,n3⟩:=Di p (by omega) _ _ _ (by omega) hn;have h0:=gG 1 d.aC fun x hx=>(l3 x hx).1
           have n2:=n2 (by omega);exact⟨t6,t7,t8,t9,t10,t11,t12,t13,t1,t2,t3,t4,t5,by rw[hs];show p=_;omega,by omega,hl,fun x hx=>⟨(l3 x hx).1,(l3 x hx).2.1⟩,l4,fun x hx=>(l3 x hx).2.2,hnl,n3,by omega,s0,s1,s2⟩
         . cases hn
       . cases hp
     . cases h
def ik (T:af):aU:=⟨T.a,T.aC,T.notes,T.b,T.s0,T.s1,T.s2⟩
structure ee (T : af) : Prop where
 A8:(cD (ik T)).isSome=true
 WC:T.tr.map (fun d=>(d.i 0,d.i 1,d.i 2))=T.notes.map (fun d=>(d.i 0,d.i 1,d.i 2))
 TG:∀d∈T.tr,bn d=true/\d.i 5<=1200000000000*T.n.period
 ids:T.aN.map (fun d=>d.i 0)=T.aC.map (fun d=>d.i 0)
 Hf:∀d∈T.aN,jB d
 bal:au 1 T.aN+au 2 T.aN+T.n.ba<=au 1 T.aC
 lost:T.n.aP-T.n.ba=au 2 T.aN
 NC:0<=T.n.ba
 period:0<=T.n.period/\T.n.period<=600
 mode:0<=T.n.mode/\T.n.mode<=2
 bf:0<=T.n.bf/\T.n.bf<=T.n.period
 fee:0<=T.n.fee/\T.n.fee<=1200000000000*T.n.period
 out:0<=T.n.out/\T.n.out<=T.b.advance
 res:0<=T.n.bP/\T.n.bP<=T.n.rin/\T.n.rin<=1200000000000*(T.n.period+1)
 down:au 6 T.tr<=au 2 T.aN
section
variable (T : af) (l : LD0)
def cP:PZ:=aL l T.aN
def sS:Int:=eG T.a T.n.period (au 1 T.aN) T.b.fee
def IF:Int:=bX (fun d=>eG T.a T.n.period (bA d) (d.i 2)) T.tr
def cTr:LD0:=T.tr.map (fy T.a T.n.period)
def cIn:Int:=(cP T l).p+(cP T l).q+(cP T l).r
def qg:Int:=T.n.fee+sS T+au 5 (cTr T)-cIn T l
def iz:Int:=jy (qg T l) (T.n.rin-T.n.bP)
def se:Int:=Nl (qg T l) (T.n.rin-T.n.bP) (T.b.advance-T.n.out)
def cN1:ao:={T.n with fee:=T.n.fee+sS T,bP:=T.n.bP+iz T l}
def cX:bC:=⟨cIn T l+iz T l+se T l,T.n.fee+sS T,T.n.out,min ((cP T l).p+(cP T l).r+(cP T l).l) (bX bA (cTr T)),Cw T.b.target (au 1 (cP T l).aN) (T.n.rin-(T.n.bP+iz T l))⟩
def dR:bC × LD0 × LD0:=fT 0 (gh (ik T) T.n.mode) (cX T l) ((cTr T).map gN)
def eO:ao × LD0:=eM (dR T l).2.2 (cN1 T l) (cTr T)
def cN2:ao:={(eO T l).1 with out:=(eO T l).1.out+se T l,aP:=(eO T l).1.aP+(cP T l).l,ba:=(eO T l).1.ba+(cP T l).r}
def nD:LD0:=lg (eK (bX unD (eO T l).2) (au 1 (cP T l).aN) (cN2 T l).aP (cN2 T l).ba) (eO T l).2
def zN:Int × Int:=ev T.n.mode T.n.bf T.b.eX (T.b.oc==0||cC (au 1 (cP T l).aN) (bX bA (nD T l)) T.b.oc) (T.b.ic==0||cC (min (cP T l).q 1099511627776) (min (IF T) 1099511627776) T.b.ic)
 (T.b.late==0||dD (dJ 2 (cP T l).aN+dJ 3 (cP T l).aN) (au 1 (cP T l).aN) T.b.late) (T.b.kY==0||dD ((cN2 T l).aP-(cN2 T l).ba) (au 1 T.aC) T.b.kY)
def cN3:ao:={cN2 T l with mode:=(zN T l).1,bf:=(zN T l).2,period:=T.n.period+1}
end
structure px where
 ra:cE
 rb:cz
 next:Int
 e:Int
 t:af
 bm:List Dat
 notes:List Dat
def noR (e:Int) (T:af):px:=⟨⟨false,0,0,0,0,0,0,0,0,0,0⟩,⟨0,0,0,0,0⟩,0,e,T,[],[]⟩
def fc (T:af) (l:LD0):px:=
 ⟨⟨false,T.n.period+1,T.n.mode,(cP T l).p,(cP T l).q,(cP T l).l,(cP T l).r,iz T l,se T l,sS T,IF T⟩,⟨(dR T l).1.aD,au 1 (cP T l).aN,(cN2 T l).rin-(cN2 T l).bP,(cN2 T l).out,(cN2 T l).fee⟩,(zN T l).1,0,
  {T with n:=cN3 T l,aN:=(cP T l).aN,tr:=nD T l},(dR T l).2.2,(nD T l).map JK⟩
def aH (T:af) (l:LD0):px:=bif T.n.hG then noR 5 T else bif decide (T.n.period>=600)then noR 4 T else bif (cP T l).e !=0 then noR (cP T l).e T else fc T l
theorem HI (f:Dat->Dat) {l:LD0} {i:Nat} (h:i<l.length):ai (l.map f) i=f (ai l i):=by
 rw[kJ (by simpa using h),kJ h,List.getElem_map]
theorem HX (a:av) (p:Int):∀l:LD0,au 5 (l.map (fy a p))=au 5 l+bX (fun d=>eG a p (bA d) (d.i 2)) l/\au 6 (l.map (fy a p))=au 6 l/\bX bA (l.map (fy a p))=bX bA l
 |[]=>⟨rfl,rfl,rfl⟩
 |d::l=>by
  obtain⟨h1,h2,h3⟩:=HX a p l;have e5:(fy a p d).i 5=d.i 5+eG a p (bA d) (d.i 2):=rfl;have e6:(fy a p d).i 6=d.i 6:=rfl;have eb:bA (fy a p d)=bA d:=rfl;simp only[zaS,au,bX,h1,h2,h3,e5,e6,eb]
  and_intros<;>first|trivial|omega
theorem LM (f:Dat->Int) (b:Int):∀l:LD0,(∀d∈l,0<=f d/\f d<=b)->0<=bX f l/\bX f l<=b*l.length
 |[],_=>by simp[bX]
 |d::l,h=>by
  have h1:=h d (by simp);have h2:=LM f b l fun x hx=>h x (by simp[hx])
  simp only[bX,zac,zaL,zce];omega
theorem ON {n b:Int} (h1:0<=n) (h2:n<=1099511627776) (h3:0<=b) (h4:b<=10000):mdV n b 10000 0=n*b/10000/\0<=mdV n b 10000 0/\mdV n b 10000 0<=n:=by
 have hm:=zb3 h4 h1;have hz:=za9 h1 h3;have i:=abF (n:=n) (b:=b) (p:=10000) (h:=0) h1 (by omega) h3 (by omega) (by omega) (by omega) (by omega) (by omega) (by omega);rw[i.2.1,Xq];omega
theorem bL {l:LD0} (h:eF l=true):1<=l.length/\l.length<=16:=by
 simp only[eF,zae,zag]at h;omega
theorem Oa {T:af} {i:Nat} (hi:i<(cTr T).length):ai ((cTr T).map gN) i=gN (ai (cTr T) i):=HI _ hi
section
variable {T : af} {l : LD0} (h : ee T) (hp : T.n.period < 600) (he : (cP T l).e = 0)
include h
theorem Da:T.tr.length=T.notes.length:=by
 have:=zcm List.length h.WC;simpa using this
theorem fF:T.tr.length<=8/\1<=T.tr.length:=by
 have:=(dS h.A8).NV;rw[Da h];exact⟨this.2,this.1⟩
theorem HN:fo T.tr:=⟨by have:=fF h;omega,fun d hd=>(h.TG d hd).1⟩
theorem jY:T.aN.length=T.aC.length/\T.aN.length<=64:=by
 have:=zcm List.length h.ids;have:=(dS h.A8).JL;simp only[zaW,ik]at*
 omega
theorem nY:0<=au 1 T.aN/\0<=au 2 T.aN/\au 1 T.aN+au 2 T.aN+T.n.ba<=1099511627776:=by
 have h1:=iM h.Hf;have h2:=(dS h.A8).aN.2;have h3:=h.bal;have:au 1 (ik T).aC=au 1 T.aC:=rfl;omega
theorem nE:(0<=sS T/\sS T<=1200000000000)/\fo (cTr T)/\(∀d∈cTr T,d.i 5<=1200000000000*(T.n.period+1))/\(IF T=au 5 (cTr T)-au 5 T.tr/\0<=IF T/\IF T<=1200000000000*T.tr.length)/\bX bA (cTr T)=bX bA T.tr/\au 6 (cTr T)=au 6 T.tr:=by
 have D:=dS h.A8;obtain⟨b1,b2,b3⟩:=nY h;have r0:=h.NC;have hs:∀d∈T.tr,0<=eG T.a T.n.period (bA d) (d.i 2)/\eG T.a T.n.period (bA d) (d.i 2)<=1200000000000:=fun d hd=>
  sO _ D.year.1 D.year.2 D.month.1 D.month.2 h.period.1 (by have:=h.period.2;omega) (Na (h.TG d hd).1).1 (Na (h.TG d hd).1).2
 obtain⟨a1,a2,a3⟩:=HX T.a T.n.period T.tr;have sd:=LM (fun d=>eG T.a T.n.period (bA d) (d.i 2)) 1200000000000 T.tr hs;have hsh:∀d∈cTr T,bn d=true/\d.i 5<=1200000000000*(T.n.period+1):=fun d hd=>by
  obtain⟨x,hx,rfl⟩:=za7.1 hd;obtain⟨g,g5⟩:=h.TG x hx;have g':=cS g;have:=hs x hx;have:=h.period;have e5:(fy T.a T.n.period x).i 5=x.i 5+eG T.a T.n.period (bA x) (x.i 2):=rfl;refine⟨zaa ?_,by omega⟩;rw[e5];show(0<=x.i 1/\x.i 1<=1099511627776/\0<=x.i 3/\x.i 4=0/\0<=x.i 6/\x.i 3+x.i 6<=x.i 1/\_);omega
 refine⟨sO _ D.year.1 D.year.2 D.month.1 D.month.2 h.period.1 (by have:=h.period.2;omega) b1 (by omega),⟨by simp only[cTr,zaW];have:=fF h;omega,fun d hd=>(hsh d hd).1⟩,fun d hd=>(hsh d hd).2,⟨?_,sd.1,sd.2⟩,a3,a2⟩;show bX _ T.tr=au 5 (T.tr.map (fy T.a T.n.period))-au 5 T.tr;omega
theorem qV:(cTr T).length=T.tr.length:=by simp[cTr]
include he
theorem sK:(∀d∈(cP T l).aN,jB d)/\(cP T l).aN.map (fun d=>d.i 0)=T.aN.map (fun d=>d.i 0)/\au 1 (cP T l).aN=au 1 T.aN-(cP T l).p-(cP T l).l/\au 2 (cP T l).aN=au 2 T.aN+(cP T l).l-(cP T l).r/\
 0<=(cP T l).p/\0<=(cP T l).l/\0<=(cP T l).r/\0<=(cP T l).q/\(cP T l).q<=70368744177664:=by
 have b:=nY h;have r0:=h.NC;exact NY h.Hf (by omega) he
theorem oR:(0<=cIn T l/\cIn T l<=75000000000000)/\(-1000000000000000<=qg T l/\qg T l<=10000000000000000)/\(0<=iz T l/\iz T l<=T.n.rin-T.n.bP/\iz T l<=max (qg T l) 0)/\(0<=se T l/\se T l<=T.b.advance-T.n.out):=by
 obtain⟨p1,p2,p3,p4,p5,p6,p7,p8,p9⟩:=sK h he;obtain⟨a1,a2,a3,a4,a5⟩:=nE h;have n1:=iM p1;have b:=nY h;have r0:=h.NC;have hi:0<=cIn T l/\cIn T l<=75000000000000:=by unfold cIn;omega
 have s5:=(j9 (cTr T) a2.2).2.1;have hl:=fF h;have f:=h.fee;have p:=h.period;have s5':au 5 (cTr T)<=1200000000000*601*8:=by
  have:=tx 5 (1200000000000*601) (cTr T) fun d hd=>⟨(cS (a2.2 d hd)).2.2.2.2.2.2.1,by have:=a3 d hd;omega⟩
  have:=qV h;omega
 have hn: -1000000000000000<=qg T l/\qg T l<=10000000000000000:=by unfold qg;omega
 have r:=h.res;have o:=h.out;refine⟨hi,hn, ?_, ?_⟩
 . unfold iz jy;omega
 . unfold se Nl;omega
theorem tS:su (cX T l)=true/\bk ((cTr T).map gN)=true/\((cX T l).room<=1099511627776/\(cX T l).aD<=800000000000000):=by
 obtain⟨p1,p2,p3,p4,p5,p6,p7,p8,p9⟩:=sK h he;obtain⟨a1,a2,a3,a4,a5⟩:=nE h;obtain⟨c1,c2,c3,c4⟩:=oR h he;have n1:=iM p1;have b:=nY h;have D:=dS h.A8;have r:=h.res;have o:=h.out;have hpe:=h.period;have f:=h.fee;have r0:=h.NC;have sb:=(j9 (cTr T) a2.2).1;have tg:0<=T.b.target/\T.b.target<=10000:=D.target;have ad:T.b.advance<=1099511627776:=D.advance.2;have g:=ON (n:=au 1 (cP T l).aN) (b:=T.b.target) n1.1 (by omega) tg.1 tg.2;refine⟨zaa ?_,yU (by rw[zaW];exact a2.1) fun d hd=> ?_, ?_, ?_⟩
 . simp only[cX,Cw];omega
 . obtain⟨x,hx,rfl⟩:=za7.1 hd;have g:=cS (a2.2 x hx);have gb:=Na (a2.2 x hx);simp only[nj,gN,zae,fQ,jK];clear p1 p2 p3 p4 p5 p6 p7 p8 p9 a1 a3 a4 a5 c1 c2 c3 c4 D r o f r0 sb tg ad b n1 hpe;exact⟨rfl,zaa (by omega)⟩
 . simp only[cX,Cw];omega
 . simp only[cX];omega
end
theorem Hr {m p c:Int} {o i a s:Bool} (hm:0<=m/\m<=2) (hp:0<=p):(0<=(ev m p c o i a s).1/\(ev m p c o i a s).1<=2)/\0<=(ev m p c o i a s).2/\(ev m p c o i a s).2<=p+1:=by
 unfold ev
 repeat' split
 all_goals (simp only;omega)
section
variable {T : af} {l : LD0} (h : ee T) (hp : T.n.period < 600) (he : (cP T l).e = 0)
include h
theorem qt:eF (gh (ik T) T.n.mode)=true:=by
 have D:=dS h.A8;have m:=h.mode;unfold gh
 by_cases m0:T.n.mode=0
 . rw[if_pos m0];exact D.s0
 rw[if_neg m0]
 by_cases m1:T.n.mode=1
 . rw[if_pos m1];exact D.s1
 rw[if_neg m1,if_pos (by omega)];exact D.s2
include he
theorem vH:Kept (cX T l) ((cTr T).map gN) (dR T l).2.2 (dR T l).1 (dR T l).2.1/\(∀d∈(dR T l).2.2,QF T.tr.length 0 (gh (ik T) T.n.mode) d)/\su (dR T l).1=true/\bk (dR T l).2.1=true/\(dR T l).2.2.length<=128000:=by
 obtain⟨x1,x2,x3,x4⟩:=tS h he;have k:=Cv (gh (ik T) T.n.mode) 0 (cX T l) _ x1 x2;have o:=Mz (gh (ik T) T.n.mode) 0 (cX T l) _ x1 x2;have sl:=bL (qt h);have e:((cTr T).map gN).length=T.tr.length:=by rw[zaW,qV h]
 rw[e]at k;exact⟨k.1,k.2.1,o.1,o.2.1,by have:=o.2.2.2;unfold dR;omega⟩
theorem og:(∀d∈(dR T l).2.2,1<=d.i 3/\((d.i 1=1\/d.i 1=2\/d.i 1=6)\/(0<=d.i 2/\d.i 2<(T.tr.length:Int))))/\au 3 (dR T l).2.2<=800000000000000/\
 (0<=bE kF (dR T l).2.2/\bE kF (dR T l).2.2<=T.n.fee+sS T)/\(0<=bE kR (dR T l).2.2/\bE kR (dR T l).2.2<=T.n.out)/\(0<=bE kT (dR T l).2.2/\bE kT (dR T l).2.2<=(cX T l).room)/\
 ∀i,i<T.tr.length->(0<=bE (toB i) (dR T l).2.2/\bE (toB i) (dR T l).2.2<=bA (ai (cTr T) i))/\(0<=bE (toI i) (dR T l).2.2/\bE (toI i) (dR T l).2.2<=(ai (cTr T) i).i 5):=by
 obtain⟨k,p,g,c,_⟩:=vH h he;obtain⟨x1,x2,x3,x4⟩:=tS h he;have g:=yj g;have hpp:∀d∈(dR T l).2.2,1<=d.i 3/\((d.i 1=1\/d.i 1=2\/d.i 1=6)\/(0<=d.i 2/\d.i 2<(T.tr.length:Int))):=fun d hd=>by
  obtain⟨_,_,h1,h2,h3,h4⟩:=p d hd;refine⟨h2, ?_⟩;rw[<-h1]at h4
  by_cases hn:d.i 2<0
  . exact .inl (h4.1 hn)
  . exact .inr (by omega)
 have n0:=fun f=>pz f (dR T l).2.2 fun d hd=>by have:=(hpp d hd).1;omega
 have kf:=k.fee;have kr:=k.cf;have kt:=k.room;have kc:=k.aD;have e1:(cX T l).fee=T.n.fee+sS T:=rfl;have e2:(cX T l).cf=T.n.out:=rfl;refine⟨hpp,by omega,⟨n0 _,by omega⟩,⟨n0 _,by omega⟩,⟨n0 _,by omega⟩,fun i hi=> ?_⟩;have hl:=qV h;have hr:=k.row i (by rw[zaW];omega);rw[Oa (by omega)]at hr;have hc:=cZ ((cr c).2 _ (tJ (l:=(dR T l).2.1) (j:=i) (by rw[k.len,zaW];omega)));rw[hr]at hc;have b1:(gN (ai (cTr T) i)).i 1=bA (ai (cTr T) i):=rfl;have b2:(gN (ai (cTr T) i)).i 2=(ai (cTr T) i).i 5:=rfl;simp only[fQ,jK,b1,b2]at hc;exact⟨⟨n0 _,by omega⟩,⟨n0 _,by omega⟩⟩
theorem lY:(eO T l).1={T.n with fee:=T.n.fee+sS T-bE kF (dR T l).2.2,out:=T.n.out-bE kR (dR T l).2.2,rin:=T.n.rin+bE kT (dR T l).2.2,bP:=T.n.bP+iz T l}/\(eO T l).2.length=T.tr.length/\fo (eO T l).2/\
 (∀i,i<T.tr.length->yM (ai (cTr T) i) (ai (eO T l).2 i) (bE (toB i) (dR T l).2.2) (bE (toI i) (dR T l).2.2))/\FZ (dR T l).2.2 (cN1 T l) (cTr T)=true:=by
 obtain⟨s1,s2,s3,s4,s5,s6⟩:=og h he;obtain⟨k,p,g,c,pl⟩:=vH h he;obtain⟨a1,a2,a3,a4,a5⟩:=nE h;obtain⟨c1,c2,c3,c4⟩:=oR h he;have hl:=qV h;obtain⟨d1,d2,d3⟩:=CA (dR T l).2.2 (cN1 T l) (cTr T) (fun d hd=>by have:=(s1 d hd).1;omega) (fun d hd=>by rw[hl];exact(s1 d hd).2) (fun i hi=>by have:=s6 i (by omega);omega);have f:=h.fee;have o:=h.out;have r:=h.res;have hpe:=h.period;have ad:T.b.advance<=1099511627776:=(dS h.A8).advance.2;have hg:fo (eO T l).2:=by
  have hdl:(eO T l).2.length=(cTr T).length:=d2;refine⟨by have:=a2.1;omega,fun d hd=> ?_⟩;obtain⟨i,hi,rfl⟩:=pV hd;obtain⟨_,e1,_,e3,e4,e5,e6⟩:=d3 i (by omega);have:=s6 i (by omega);have gi:=cS (de (c:=cTr T) (i:=i) (by omega) a2.2);have e1':(ai (eO T l).2 i).i 1=(ai (cTr T) i).i 1:=e1;have e3':(ai (eO T l).2 i).i 3=(ai (cTr T) i).i 3+bE (toB i) (dR T l).2.2:=e3;have e4':(ai (eO T l).2 i).i 4=(ai (cTr T) i).i 4:=e4;have e5':(ai (eO T l).2 i).i 5=(ai (cTr T) i).i 5-bE (toI i) (dR T l).2.2:=e5;have e6':(ai (eO T l).2 i).i 6=(ai (cTr T) i).i 6:=e6;refine zaa ?_
  rw[e1',e3',e4',e5',e6'];unfold bA at this;omega
 refine⟨d1,d2.trans hl,hg,fun i hi=>d3 i (by omega), ?_⟩;simp only[FZ,zae,zag,zam];refine⟨by omega,fun d hd=> ?_,⟨by omega, ?_⟩,a2⟩
 . have:=s1 d hd;simp only[ND,zae,zbj,zag,hl];exact⟨by omega,this.2⟩
 . simp only[cN1];omega
theorem tQ:cN2 T l={T.n with fee:=T.n.fee+sS T-bE kF (dR T l).2.2,out:=T.n.out-bE kR (dR T l).2.2+se T l,rin:=T.n.rin+bE kT (dR T l).2.2,bP:=T.n.bP+iz T l,aP:=T.n.aP+(cP T l).l,ba:=T.n.ba+(cP T l).r}:=by
 unfold cN2;rw[(lY h he).1]
theorem vk:0<=eK (bX unD (eO T l).2) (au 1 (cP T l).aN) (cN2 T l).aP (cN2 T l).ba/\eK (bX unD (eO T l).2) (au 1 (cP T l).aN) (cN2 T l).aP (cN2 T l).ba<=bX unD (eO T l).2/\
 eK (bX unD (eO T l).2) (au 1 (cP T l).aN) (cN2 T l).aP (cN2 T l).ba<=au 2 (cP T l).aN/\(cN2 T l).aP-(cN2 T l).ba=au 2 (cP T l).aN:=by
 obtain⟨p1,p2,p3,p4,p5,p6,p7,p8,p9⟩:=sK h he;have g:=(lY h he).2.2.1;have u:=(j9 _ g.2).2.2.2.1;have t:=A4 (bX unD (eO T l).2) (au 1 (cP T l).aN) (cN2 T l).aP (cN2 T l).ba;have n1:=iM p1;have hl:=h.lost;have e:(cN2 T l).aP-(cN2 T l).ba=au 2 (cP T l).aN:=by rw[tQ h he];simp only;omega
 omega
theorem uw:fo (nD T l)/\gj (eO T l).2 (nD T l)/\au 6 (nD T l)=eK (bX unD (eO T l).2) (au 1 (cP T l).aN) (cN2 T l).aP (cN2 T l).ba:=by
 have t:=vk h he;exact M3 (lY h he).2.2.1 t.1 t.2.1
theorem Cy:(nD T l).length=T.tr.length/\∀i,i<T.tr.length->(ai (nD T l) i).i 0=(ai T.tr i).i 0/\(ai (nD T l) i).i 1=(ai T.tr i).i 1/\(ai (nD T l) i).i 2=(ai T.tr i).i 2/\(ai (nD T l) i).i 3=(ai T.tr i).i 3+bE (toB i) (dR T l).2.2/\(ai (nD T l) i).i 4=(ai T.tr i).i 4/\
 (ai (nD T l) i).i 5=(ai T.tr i).i 5+eG T.a T.n.period (bA (ai T.tr i)) ((ai T.tr i).i 2)-bE (toI i) (dR T l).2.2/\ai (cTr T) i=fy T.a T.n.period (ai T.tr i):=by
 obtain⟨d1,d2,d3,d4,d5⟩:=lY h he;obtain⟨g,s,_⟩:=uw h he;refine⟨s.len.trans d2,fun i hi=> ?_⟩;obtain⟨r0,r1,r2,r3,r4,r5⟩:=s.row i (by omega);obtain⟨e0,e1,e2,e3,e4,e5,e6⟩:=d4 i hi;have hr:ai (cTr T) i=fy T.a T.n.period (ai T.tr i):=HI _ hi;rw[hr]at e0 e1 e2 e3 e4 e5;have q5:(fy T.a T.n.period (ai T.tr i)).i 5=(ai T.tr i).i 5+eG T.a T.n.period (bA (ai T.tr i)) ((ai T.tr i).i 2):=rfl;rw[q5]at e5;exact⟨r0.trans e0,r1.trans e1,r2.trans e2,r3.trans e3,r4.trans e4,r5.trans e5,hr⟩
include hp
theorem Ah:ee (fc T l).t:=by
 obtain⟨p1,p2,p3,p4,p5,p6,p7,p8,p9⟩:=sK h he;obtain⟨a1,a2,a3,a4,a5⟩:=nE h;obtain⟨c1,c2,c3,c4⟩:=oR h he;obtain⟨s1,s2,s3,s4,s5,s6⟩:=og h he;obtain⟨x1,x2,x3,x4⟩:=tS h he;obtain⟨t1,t2,t3⟩:=uw h he;obtain⟨g1,g2,g3,g4⟩:=vk h he;obtain⟨r1,r2⟩:=Cy h he;have e:=tQ h he;have n:=Hr (c:=T.b.eX) (o:=(T.b.oc==0||cC (au 1 (cP T l).aN) (bX bA (nD T l)) T.b.oc)) (i:=(T.b.ic==0||cC (min (cP T l).q 1099511627776) (min (IF T) 1099511627776) T.b.ic))
  (a:=(T.b.late==0||dD (dJ 2 (cP T l).aN+dJ 3 (cP T l).aN) (au 1 (cP T l).aN) T.b.late)) (s:=(T.b.kY==0||dD ((cN2 T l).aP-(cN2 T l).ba) (au 1 T.aC) T.b.kY)) h.mode h.bf.1
 have bl:=h.bal;have r0:=h.NC;have pe:=h.period;have pa:=h.bf;have fe:=h.fee;have ou:=h.out;have re:=h.res;refine⟨h.A8, ?_,fun d hd=> ?_,p2.trans h.ids,p1, ?_,g4, ?_, ?_,n.1, ?_, ?_, ?_, ?_, ?_⟩
 . refine Eq.trans ?_ h.WC;refine List.ext_getElem (by simp[fc,r1]) fun i h1 h2=> ?_
   simp only[zaW]at h1 h2;have hi:i<T.tr.length:=h2;have:=r2 i hi;rw[kJ (show i<(nD T l).length by omega),kJ hi]at this;simp only[List.getElem_map];exact Prod.ext this.1 (Prod.ext this.2.1 this.2.2.1)
 . refine⟨t1.2 d hd, ?_⟩;obtain⟨i,hi,rfl⟩:=pV (show d∈nD T l from hd);have hi:i<T.tr.length:=by omega
   have:=(r2 i hi).2.2.2.2.2.1;have q:=a3 _ (tJ (l:=cTr T) (j:=i) (by rw[qV h];exact hi));rw[(r2 i hi).2.2.2.2.2.2]at q;have q5:(fy T.a T.n.period (ai T.tr i)).i 5=(ai T.tr i).i 5+eG T.a T.n.period (bA (ai T.tr i)) ((ai T.tr i).i 2):=rfl;rw[q5]at q;have:=(s6 i hi).2.1;show(ai (nD T l) i).i 5<=1200000000000*(T.n.period+1)
   omega
 . show au 1 (cP T l).aN+au 2 (cP T l).aN+(cN2 T l).ba<=au 1 T.aC;rw[e];simp only;omega
 . show 0<=(cN2 T l).ba;rw[e];simp only;omega
 . show 0<=T.n.period+1/\T.n.period+1<=600;omega
 . show 0<=(zN T l).2/\(zN T l).2<=T.n.period+1;exact⟨n.2.1,by have:=n.2.2;unfold zN;omega⟩
 . show 0<=(cN2 T l).fee/\(cN2 T l).fee<=1200000000000*(T.n.period+1)
   rw[e];simp only;omega
 . show 0<=(cN2 T l).out/\(cN2 T l).out<=T.b.advance;rw[e];simp only;omega
 . show 0<=(cN2 T l).bP/\(cN2 T l).bP<=(cN2 T l).rin/\(cN2 T l).rin<=1200000000000*(T.n.period+1+1)
   rw[e];simp only;omega
 . show au 6 (nD T l)<=au 2 (cP T l).aN;omega
end
def kV (T:af):Bool:= @decide (ee T) (Classical.propDecidable _)
theorem jO {T:af}:kV T=true↔ee T:=by unfold kV;simp
theorem LA {l:LD0} (h:∀d∈l,jB d) (hl:l.length<=1000):(decide (l.length<=1000)&&l.all fE)=true:=by
 rw[zae,zam];exact⟨zaa hl,fun d hd=>zaa (by have:=h d hd;unfold jB at this;omega)⟩
theorem rT {T:af} (h:ee T):T.aC.length<1000000/\T.notes.length<1000000/\T.s0.length<1000000/\T.s1.length<1000000/\T.s2.length<1000000/\T.aN.length<1000000/\T.tr.length<1000000:=by
 have D:=dS h.A8;have h0:=bL D.s0;have h1:=bL D.s1;have h2:=bL D.s2;have h3:=jY h;have h4:=fF h;have h5:=Da h;have:(ik T).aC=T.aC:=rfl;have:=D.JL;simp only[ik]at*
 omega
theorem GX {T:af} (h:ee T):(gh (ik T) T.n.mode).length<=16:=(bL (qt h)).2
def N98:aA:=⟨Zs.tab,98,⟨[.np 0 0 0,.ab (sB 6)],aT 0,0⟩,⟨[.agg [.bool,.z0,.z0,.z0,.z0,.z0,.z0,.z0,.z0,.z0,.z0,.buf 17 4,.z0,.z0,.z0,.z0,.z0,.buf 18 3,.z0],.z0],[.cells [.z0,.z0,.z0,.buf 9 2,.buf 10 3,.z0,.z0,.z0,.z0,.z0,.z0,.z0,.z0,.z0,.z0,.buf 11 2,.buf 12 2,.buf 13 2,.ptr 14 0 0,.buf 16 7,.z0,.z0,.z0,.z0,.z0,.z0,.z0,.z0,.z0,.bool],.gone,.gone,.gone,.gone,.gone,.gone,.gone,.gone,.ab (sI 2),.ab (sI 3),.ab (sI 2),.ab (sI 2),.ab (sI 2),.cells [.buf 15 5],.ab (sB 4),.ab (sI 7),.ab (sI 4),.ab (sI 3)],0⟩,[]⟩
def t98 (m:Nat):Int × LD0 × av × aw × ao × LD0 × LD0 × LD0 × LD0 × LD0 × LD0 × LD0->OU0:=fun(a0,a1,a2,a3,a4,a5,a6,a7,a8,a9,a10,a11)=>
 chk (decide (0<=a0))<|
 bif a4.hG then
 some (Uns.enc ((⟨false,0,0,0,0,0,0,0,0,0,0⟩:cE):cE)++Uns.enc ((⟨0,0,0,0,0⟩:cz):cz)++[.i 0,.i 5]++Uns.enc (a2:av)++Uns.enc (a3:aw)++Uns.enc (a4:ao)++[.d a5,.d a6,.d a7,.d a8,.d a9,.d a10,.d a11,.d ([]),.d ([])])
 else
 chk (decide (0<=a0))<|
 bif (decide (a4.period>=600))then
 some (Uns.enc ((⟨false,0,0,0,0,0,0,0,0,0,0⟩:cE):cE)++Uns.enc ((⟨0,0,0,0,0⟩:cz):cz)++[.i 0,.i 4]++Uns.enc (a2:av)++Uns.enc (a3:aw)++Uns.enc (a4:ao)++[.d a5,.d a6,.d a7,.d a8,.d a9,.d a10,.d a11,.d ([]),.d ([])])
 else
 chk (decide (0<=a0)&&decide (a5.length<1000000/\a6.length<1000000/\a7.length<1000000/\a8.length<1000000/\a9.length<1000000/\a10.length<1000000/\a11.length<1000000))<|
 chk (decide (0<([.r [.r a10]]:LD0).length)&&(decide (((ai ([.r [.r a10]]:LD0) 0).d 0).length<=1000)&&((ai ([.r [.r a10]]:LD0) 0).d 0).all fE))<|
 lt ((au 1 ((ai ([.r [.r a10]]:LD0) 0).d 0)):Int) fun x2=>
 chk (decide (a10.length<1000000))<|
 bif (((aL a1 a10).e) !=0)then
 some (Uns.enc ((⟨false,0,0,0,0,0,0,0,0,0,0⟩:cE):cE)++Uns.enc ((⟨0,0,0,0,0⟩:cz):cz)++[.i 0,.i ((aL a1 a10).e)]++Uns.enc (a2:av)++Uns.enc (a3:aw)++Uns.enc (a4:ao)++[.d a5,.d a6,.d a7,.d a8,.d a9,.d a10,.d a11,.d ([]),.d ([])])
 else
 chk (decide ((1<=a2.year/\a2.year<=9000/\1<=a2.month/\a2.month<=12)/\(0<=a4.period/\a4.period<=600)/\(0<=a4.fee/\a4.fee<=1125899906842624)/\(0<=x2/\x2<=1099511627776))&&(decide (a11.length<=1000)&&a11.all bn))<|
 lt ((bX (fun d=>eG a2 a4.period (bA d) (d.i 2)) a11):Int) fun x4=>
 lt (({a4 with fee:=a4.fee+eG a2 a4.period x2 a3.fee}):ao) fun g5=>
 chk (decide (0<=0)&&(decide ((a11.map (fy a2 a4.period)).length<=1000)&&(a11.map (fy a2 a4.period)).all bn))<|
 lt ((w64 (g5.fee+(au 5 (a11.map (fy a2 a4.period))))):Int) fun x6=>
 lt ((w64 ((w64 ((w64 ((w64 (((aL a1 a10).p)+((aL a1 a10).q)))+((aL a1 a10).r)))+0))+0)):Int) fun x9=>
 chk (decide (0<=0)&&decide ((-1152921504606846976<=(w64 (x6-x9))/\(w64 (x6-x9))<=1152921504606846976)/\((0:Int)<=g5.bP/\g5.bP<=g5.rin/\g5.rin<=(1152921504606846976:Int))/\(0<=g5.out/\g5.out<=1152921504606846976)/\(0<=a3.advance/\a3.advance<=1152921504606846976)))<|
 lt ((jy (w64 (x6-x9)) (g5.rin-g5.bP)):Int) fun x10=>
 lt ((Nl (w64 (x6-x9)) (g5.rin-g5.bP) (a3.advance-g5.out)):Int) fun x11=>
 lt (({g5 with bP:=g5.bP+jy (w64 (x6-x9)) (g5.rin-g5.bP)}):ao) fun g12=>
 lt ((w64 ((w64 ((w64 ((w64 (((aL a1 a10).p)+((aL a1 a10).q)))+((aL a1 a10).r)))+x10))+x11)):Int) fun x15=>
 chk (decide (((0<=((aL a1 a10).p)/\((aL a1 a10).p)<=1125899906842624)/\(0<=((aL a1 a10).l)/\((aL a1 a10).l)<=1125899906842624)/\(0<=((aL a1 a10).r)/\((aL a1 a10).r)<=1125899906842624))/\(0<=g12.bP/\g12.bP<=g12.rin/\g12.rin<=1152921504606846976))&&((decide (((aL a1 a10).aN).length<=1000)&&((aL a1 a10).aN).all fE)&&(decide ((a11.map (fy a2 a4.period)).length<=1000)&&(a11.map (fy a2 a4.period)).all bn)))<|
 lt ((min (((aL a1 a10).p)+((aL a1 a10).r)+((aL a1 a10).l)) (bX bA (a11.map (fy a2 a4.period)))):Int) fun x16=>
 lt ((Cw a3.target (au 1 ((aL a1 a10).aN)) (g12.rin-g12.bP)):Int) fun x17=>
 chk (decide ((⟨a2,a5,a6,a3,a7,a8,a9⟩:aU).s0.length<1000000/\(⟨a2,a5,a6,a3,a7,a8,a9⟩:aU).s1.length<1000000/\(⟨a2,a5,a6,a3,a7,a8,a9⟩:aU).s2.length<1000000))<|
 lt ((gh (⟨a2,a5,a6,a3,a7,a8,a9⟩:aU) g12.mode):LD0) fun l18=>
 chk (decide (l18.length<=1000000)&&(su ⟨x15,g12.fee,g12.out,x16,x17⟩&&bk ((a11.map (fy a2 a4.period)).map gN)))<|
 lt (((fT 0 l18 ⟨x15,g12.fee,g12.out,x16,x17⟩ ((a11.map (fy a2 a4.period)).map gN)).2.2):LD0) fun l24=>
 chk (decide (0<=0)&&FZ l24 g12 (a11.map (fy a2 a4.period)))<|
 lt (((eM l24 g12 (a11.map (fy a2 a4.period))).1).out:Int) fun x26=>
 chk (decide (((0<=((aL a1 a10).p)/\((aL a1 a10).p)<=1125899906842624)/\(0<=((aL a1 a10).l)/\((aL a1 a10).l)<=1125899906842624)/\(0<=((aL a1 a10).r)/\((aL a1 a10).r)<=1125899906842624))/\(0<=({((eM l24 g12 (a11.map (fy a2 a4.period))).1)with out:=(w64 (x26+x11))}:ao).aP/\({((eM l24 g12 (a11.map (fy a2 a4.period))).1)with out:=(w64 (x26+x11))}:ao).aP<=1125899906842624)/\(0<=({((eM l24 g12 (a11.map (fy a2 a4.period))).1)with out:=(w64 (x26+x11))}:ao).ba/\({((eM l24 g12 (a11.map (fy a2 a4.period))).1)with out:=(w64 (x26+x11))}:ao).ba<=1125899906842624))&&((decide (((aL a1 a10).aN).length<=1000)&&((aL a1 a10).aN).all fE)&&(decide (((eM l24 g12 (a11.map (fy a2 a4.period))).2).length<=1000)&&((eM l24 g12 (a11.map (fy a2 a4.period))).2).all bn)))<|
 lt (({({((eM l24 g12 (a11.map (fy a2 a4.period))).1)with out:=(w64 (x26+x11))}:ao)with aP:=({((eM l24 g12 (a11.map (fy a2 a4.period))).1)with out:=(w64 (x26+x11))}:ao).aP+((aL a1 a10).l),ba:=({((eM l24 g12 (a11.map (fy a2 a4.period))).1)with out:=(w64 (x26+x11))}:ao).ba+((aL a1 a10).r)}):ao) fun g27=>
 lt ((lg (eK (bX unD ((eM l24 g12 (a11.map (fy a2 a4.period))).2)) (au 1 ((aL a1 a10).aN)) (({((eM l24 g12 (a11.map (fy a2 a4.period))).1)with out:=(w64 (x26+x11))}:ao).aP+((aL a1 a10).l)) (({((eM l24 g12 (a11.map (fy a2 a4.period))).1)with out:=(w64 (x26+x11))}:ao).ba+((aL a1 a10).r))) ((eM l24 g12 (a11.map (fy a2 a4.period))).2)):LD0) fun l28=>
 chk (decide (0<=0)&&((decide (((aL a1 a10).aN).length<=1000)&&((aL a1 a10).aN).all fE)&&(decide (l28.length<=1000)&&l28.all bn)))<|
 lt ((a3.oc==0||cC (au 1 ((aL a1 a10).aN)) (bX bA l28) a3.oc):Bool) fun x32=>
 lt ((a3.ic==0||cC (min ((aL a1 a10).q) 1099511627776) (min x4 1099511627776) a3.ic):Bool) fun x33=>
 lt ((a3.late==0||dD (dJ 2 ((aL a1 a10).aN)+dJ 3 ((aL a1 a10).aN)) (au 1 ((aL a1 a10).aN)) a3.late):Bool) fun x34=>
 lt ((a3.kY==0||dD (w64 (g27.aP-g27.ba)) (((cD (⟨a2,a5,a6,a3,a7,a8,a9⟩:aU)).getD (0,0)).1) a3.kY):Bool) fun x35=>
 chk (decide (0<=g27.bf/\g27.bf<=1000000))<|
 chk (decide (0<=a0))<|
 chk (decide (0<=a0)&&(decide (0<=({g27 with mode:=(ev g27.mode g27.bf a3.eX x32 x33 x34 x35).1,bf:=(ev g27.mode g27.bf a3.eX x32 x33 x34 x35).2,period:=(w64 (g27.period+1))}:ao).bP/\({g27 with mode:=(ev g27.mode g27.bf a3.eX x32 x33 x34 x35).1,bf:=(ev g27.mode g27.bf a3.eX x32 x33 x34 x35).2,period:=(w64 (g27.period+1))}:ao).bP<=({g27 with mode:=(ev g27.mode g27.bf a3.eX x32 x33 x34 x35).1,bf:=(ev g27.mode g27.bf a3.eX x32 x33 x34 x35).2,period:=(w64 (g27.period+1))}:ao).rin/\({g27 with mode:=(ev g27.mode g27.bf a3.eX x32 x33 x34 x35).1,bf:=(ev g27.mode g27.bf a3.eX x32 x33 x34 x35).2,period:=(w64 (g27.period+1))}:ao).rin<=1152921504606846976)&&((decide (((aL a1 a10).aN).length<=1000)&&((aL a1 a10).aN).all fE)&&(decide (l28.length<=1000)&&l28.all bn))))<|
 some (Uns.enc ((⟨false,(w64 (a4.period+1)),a4.mode,(aL a1 a10).p,(aL a1 a10).q,(aL a1 a10).l,(aL a1 a10).r,x10,x11,(eG a2 a4.period x2 a3.fee),x4⟩:cE):cE)++Uns.enc ((⟨(⟨((fT 0 l18 ⟨x15,g12.fee,g12.out,x16,x17⟩ ((a11.map (fy a2 a4.period)).map gN)).1.aD),0,0,0,0⟩:cz).eI,au 1 ((aL a1 a10).aN),({g27 with mode:=(ev g27.mode g27.bf a3.eX x32 x33 x34 x35).1,bf:=(ev g27.mode g27.bf a3.eX x32 x33 x34 x35).2,period:=(w64 (g27.period+1))}:ao).rin-({g27 with mode:=(ev g27.mode g27.bf a3.eX x32 x33 x34 x35).1,bf:=(ev g27.mode g27.bf a3.eX x32 x33 x34 x35).2,period:=(w64 (g27.period+1))}:ao).bP,({g27 with mode:=(ev g27.mode g27.bf a3.eX x32 x33 x34 x35).1,bf:=(ev g27.mode g27.bf a3.eX x32 x33 x34 x35).2,period:=(w64 (g27.period+1))}:ao).out,({g27 with mode:=(ev g27.mode g27.bf a3.eX x32 x33 x34 x35).1,bf:=(ev g27.mode g27.bf a3.eX x32 x33 x34 x35).2,period:=(w64 (g27.period+1))}:ao).fee⟩:cz):cz)++[.i (({g27 with mode:=(ev g27.mode g27.bf a3.eX x32 x33 x34 x35).1,bf:=(ev g27.mode g27.bf a3.eX x32 x33 x34 x35).2,period:=(w64 (g27.period+1))}:ao).mode),.i 0]++Uns.enc (a2:av)++Uns.enc (a3:aw)++Uns.enc (({g27 with mode:=(ev g27.mode g27.bf a3.eX x32 x33 x34 x35).1,bf:=(ev g27.mode g27.bf a3.eX x32 x33 x34 x35).2,period:=(w64 (g27.period+1))}:ao):ao)++[.d a5,.d a6,.d a7,.d a8,.d a9,.d ((aL a1 a10).aN),.d l28,.d l24,.d (l28.map JK)])
def f98:Int × LD0 × av × aw × ao × LD0 × LD0 × LD0 × LD0 × LD0 × LD0 × LD0->Bool × List Un:=fun(a0,a1,a2,a3,a4,a5,a6,a7,a8,a9,a10,a11)=>(decide (0<=a0)&&kV (⟨a2,a3,a4,a5,a6,a7,a8,a9,a10,a11⟩:af),Uns.enc (((aH (⟨a2,a3,a4,a5,a6,a7,a8,a9,a10,a11⟩:af) a1).ra):cE)++Uns.enc (((aH (⟨a2,a3,a4,a5,a6,a7,a8,a9,a10,a11⟩:af) a1).rb):cz)++[.i ((aH (⟨a2,a3,a4,a5,a6,a7,a8,a9,a10,a11⟩:af) a1).next),.i ((aH (⟨a2,a3,a4,a5,a6,a7,a8,a9,a10,a11⟩:af) a1).e)]++Uns.enc (((aH (⟨a2,a3,a4,a5,a6,a7,a8,a9,a10,a11⟩:af) a1).t.a):av)++Uns.enc (((aH (⟨a2,a3,a4,a5,a6,a7,a8,a9,a10,a11⟩:af) a1).t.b):aw)++Uns.enc (((aH (⟨a2,a3,a4,a5,a6,a7,a8,a9,a10,a11⟩:af) a1).t.n):ao)++[.d ((aH (⟨a2,a3,a4,a5,a6,a7,a8,a9,a10,a11⟩:af) a1).t.aC),.d ((aH (⟨a2,a3,a4,a5,a6,a7,a8,a9,a10,a11⟩:af) a1).t.notes),.d ((aH (⟨a2,a3,a4,a5,a6,a7,a8,a9,a10,a11⟩:af) a1).t.s0),.d ((aH (⟨a2,a3,a4,a5,a6,a7,a8,a9,a10,a11⟩:af) a1).t.s1),.d ((aH (⟨a2,a3,a4,a5,a6,a7,a8,a9,a10,a11⟩:af) a1).t.s2),.d ((aH (⟨a2,a3,a4,a5,a6,a7,a8,a9,a10,a11⟩:af) a1).t.aN),.d ((aH (⟨a2,a3,a4,a5,a6,a7,a8,a9,a10,a11⟩:af) a1).t.tr),.d ((aH (⟨a2,a3,a4,a5,a6,a7,a8,a9,a10,a11⟩:af) a1).bm),.d ((aH (⟨a2,a3,a4,a5,a6,a7,a8,a9,a10,a11⟩:af) a1).notes)])
set_option maxHeartbeats 4000000 in
theorem Lo:ER 98 (mkE N98.en N98.ex f98):=ak ae Zs.right (fun m=>[]) (t:=t98) (by kernel_rfl) (fun m=>az) (fun m a=>by kernel_rfl) fun(a0,a1,a2,a3,a4,a5,a6,a7,a8,a9,a10,a11) hc=>by
 dsimp only[f98]at hc⊢;have h0:=zaj (zaG.1 hc).1;have h:=jO.1 (zaG.1 hc).2;clear hc;have hl:=rT h;have hpl:=jY h;have hts:=fF h;have hpe:0<=a4.period/\a4.period<=600:=h.period;have hpa:0<=a4.bf/\a4.bf<=a4.period:=h.bf;refine⟨0, ?_⟩;unfold t98;cases ho:a4.hG with
 |true=>
  have hC:aH (⟨a2,a3,a4,a5,a6,a7,a8,a9,a10,a11⟩:af) a1=noR 5 (⟨a2,a3,a4,a5,a6,a7,a8,a9,a10,a11⟩:af):=by unfold aH;rw[show((⟨a2,a3,a4,a5,a6,a7,a8,a9,a10,a11⟩:af)).n.hG=true from ho];rfl
  rw[hC];dsimp only;exact al (zaa h0) (cq ho rfl)
 |false=>
 dsimp only;refine al (zaa h0) (ck ho (al (zaa h0) ?_))
 by_cases hp:a4.period>=600
 . have hC:aH (⟨a2,a3,a4,a5,a6,a7,a8,a9,a10,a11⟩:af) a1=noR 4 (⟨a2,a3,a4,a5,a6,a7,a8,a9,a10,a11⟩:af):=by unfold aH;rw[show((⟨a2,a3,a4,a5,a6,a7,a8,a9,a10,a11⟩:af)).n.hG=false from ho,tF,aK hp]
   rw[hC,aK hp];rfl
 rw[ay hp];refine al (zaG.2 ⟨zaa h0,zaa hl⟩) ?_
 refine al (zaG.2 ⟨rfl,LA (l:=a10) h.Hf (zaP hpl.2 (by decide))⟩) ?_
 refine nV fun x2 e2=> ?_
 obtain rfl:x2=au 1 a10:=e2;refine al (zaa hl.2.2.2.2.2.1) ?_
 by_cases he:(cP (⟨a2,a3,a4,a5,a6,a7,a8,a9,a10,a11⟩:af) a1).e=0
 case neg=>
  have hC:aH (⟨a2,a3,a4,a5,a6,a7,a8,a9,a10,a11⟩:af) a1=noR (cP (⟨a2,a3,a4,a5,a6,a7,a8,a9,a10,a11⟩:af) a1).e (⟨a2,a3,a4,a5,a6,a7,a8,a9,a10,a11⟩:af):=by unfold aH;rw[show((⟨a2,a3,a4,a5,a6,a7,a8,a9,a10,a11⟩:af)).n.hG=false from ho,tF,ay hp,dk he]
  rw[hC];exact dk he
 have hC:aH (⟨a2,a3,a4,a5,a6,a7,a8,a9,a10,a11⟩:af) a1=fc (⟨a2,a3,a4,a5,a6,a7,a8,a9,a10,a11⟩:af) a1:=by unfold aH;rw[show((⟨a2,a3,a4,a5,a6,a7,a8,a9,a10,a11⟩:af)).n.hG=false from ho,tF,ay hp,cY he]
 rw[hC];refine Eq.trans (cY he) ?_
 have hp':((⟨a2,a3,a4,a5,a6,a7,a8,a9,a10,a11⟩:af)).n.period<600:=by simp only;omega
 have D:=dS h.A8;have b:0<=au 1 a10/\0<=au 2 a10/\au 1 a10+au 2 a10+a4.ba<=1099511627776:=nY h;have r0:0<=a4.ba:=h.NC;have f:0<=a4.fee/\a4.fee<=1200000000000*a4.period:=h.fee;have o:0<=a4.out/\a4.out<=a3.advance:=h.out;have r:0<=a4.bP/\a4.bP<=a4.rin/\a4.rin<=1200000000000*(a4.period+1):=h.res;have lo:a4.aP-a4.ba=au 2 a10:=h.lost;obtain⟨q1,q2,q3,q4,q5,q6,q7,q8,q9⟩:=sK h he;obtain⟨c1,c2,c3,c4,c5⟩:=nE h;obtain⟨m1,m2,m3,m4⟩:=oR h he;have m3:0<=iz (⟨a2,a3,a4,a5,a6,a7,a8,a9,a10,a11⟩:af) a1/\iz (⟨a2,a3,a4,a5,a6,a7,a8,a9,a10,a11⟩:af) a1<=a4.rin-a4.bP:=⟨m3.1,m3.2.1⟩
 have m4:0<=se (⟨a2,a3,a4,a5,a6,a7,a8,a9,a10,a11⟩:af) a1/\se (⟨a2,a3,a4,a5,a6,a7,a8,a9,a10,a11⟩:af) a1<=a3.advance-a4.out:=m4;obtain⟨x1,x2,x3,x4⟩:=tS h he;obtain⟨d1,d2,d3,d4,d5⟩:=lY h he;obtain⟨t1,t2,t3⟩:=uw h he;have u2:=tQ h he;have k:=GX h;have ad:0<=a3.advance/\a3.advance<=1099511627776:=D.advance;have nq:=iM q1;have hpa9:a10.length<=64:=hpl.2;have ad0:(cP (⟨a2,a3,a4,a5,a6,a7,a8,a9,a10,a11⟩:af) a1).aN.length<=1000:=by
  have hq:(cP (⟨a2,a3,a4,a5,a6,a7,a8,a9,a10,a11⟩:af) a1).aN.length=a10.length:=by have:=zcm List.length q2;simpa using this
  omega
 have hpo:=LA q1 ad0;have s5:=(j9 _ c2.2).2.1;have st:=og h he;have q3:au 1 (cP (⟨a2,a3,a4,a5,a6,a7,a8,a9,a10,a11⟩:af) a1).aN=au 1 a10-(cP (⟨a2,a3,a4,a5,a6,a7,a8,a9,a10,a11⟩:af) a1).p-(cP (⟨a2,a3,a4,a5,a6,a7,a8,a9,a10,a11⟩:af) a1).l:=q3;have q4:au 2 (cP (⟨a2,a3,a4,a5,a6,a7,a8,a9,a10,a11⟩:af) a1).aN=au 2 a10+(cP (⟨a2,a3,a4,a5,a6,a7,a8,a9,a10,a11⟩:af) a1).l-(cP (⟨a2,a3,a4,a5,a6,a7,a8,a9,a10,a11⟩:af) a1).r:=q4;have stT:=st.2.2.2.2.1;have stR:0<=bE kR (dR (⟨a2,a3,a4,a5,a6,a7,a8,a9,a10,a11⟩:af) a1).2.2/\bE kR (dR (⟨a2,a3,a4,a5,a6,a7,a8,a9,a10,a11⟩:af) a1).2.2<=a4.out:=st.2.2.2.1;have s5l:au 5 (cTr (⟨a2,a3,a4,a5,a6,a7,a8,a9,a10,a11⟩:af))<=1125899906842624000:=by have:=c2.1;omega
 refine al (zaG.2 ⟨zaa ⟨⟨D.year.1,D.year.2,D.month.1,D.month.2⟩,hpe,⟨f.1,by omega⟩,b.1,by omega⟩,gq (HN h)⟩) ?_
 refine nV fun x3' e3=> ?_
 obtain rfl:x3'=IF (⟨a2,a3,a4,a5,a6,a7,a8,a9,a10,a11⟩:af):=e3;refine nV fun g4 e4=> ?_
 obtain rfl:g4={a4 with fee:=a4.fee+sS (⟨a2,a3,a4,a5,a6,a7,a8,a9,a10,a11⟩:af)}:=e4;refine al (zaG.2 ⟨rfl,gq c2⟩) ?_
 refine nV fun x5 e5=> ?_
 obtain rfl:x5=a4.fee+sS (⟨a2,a3,a4,a5,a6,a7,a8,a9,a10,a11⟩:af)+au 5 (cTr (⟨a2,a3,a4,a5,a6,a7,a8,a9,a10,a11⟩:af)):=e5.trans (aa (n:=a4.fee+sS (⟨a2,a3,a4,a5,a6,a7,a8,a9,a10,a11⟩:af)+au 5 (cTr (⟨a2,a3,a4,a5,a6,a7,a8,a9,a10,a11⟩:af))) (by omega) (by omega));refine nV fun x8 e8=> ?_
 obtain rfl:x8=cIn (⟨a2,a3,a4,a5,a6,a7,a8,a9,a10,a11⟩:af) a1:=e8.trans (by
  have i:=m1;unfold cIn at i⊢;rw[show w64 ((aL a1 a10).p+(aL a1 a10).q)=(cP (⟨a2,a3,a4,a5,a6,a7,a8,a9,a10,a11⟩:af) a1).p+(cP (⟨a2,a3,a4,a5,a6,a7,a8,a9,a10,a11⟩:af) a1).q from aa (by show _<=(cP (⟨a2,a3,a4,a5,a6,a7,a8,a9,a10,a11⟩:af) a1).p+(cP (⟨a2,a3,a4,a5,a6,a7,a8,a9,a10,a11⟩:af) a1).q;omega) (by show(cP (⟨a2,a3,a4,a5,a6,a7,a8,a9,a10,a11⟩:af) a1).p+(cP (⟨a2,a3,a4,a5,a6,a7,a8,a9,a10,a11⟩:af) a1).q<=_;omega)];rw[show w64 ((cP (⟨a2,a3,a4,a5,a6,a7,a8,a9,a10,a11⟩:af) a1).p+(cP (⟨a2,a3,a4,a5,a6,a7,a8,a9,a10,a11⟩:af) a1).q+(aL a1 a10).r)=(cP (⟨a2,a3,a4,a5,a6,a7,a8,a9,a10,a11⟩:af) a1).p+(cP (⟨a2,a3,a4,a5,a6,a7,a8,a9,a10,a11⟩:af) a1).q+(cP (⟨a2,a3,a4,a5,a6,a7,a8,a9,a10,a11⟩:af) a1).r from aa (by show _<=(cP (⟨a2,a3,a4,a5,a6,a7,a8,a9,a10,a11⟩:af) a1).p+(cP (⟨a2,a3,a4,a5,a6,a7,a8,a9,a10,a11⟩:af) a1).q+(cP (⟨a2,a3,a4,a5,a6,a7,a8,a9,a10,a11⟩:af) a1).r;omega) (by show(cP (⟨a2,a3,a4,a5,a6,a7,a8,a9,a10,a11⟩:af) a1).p+(cP (⟨a2,a3,a4,a5,a6,a7,a8,a9,a10,a11⟩:af) a1).q+(cP (⟨a2,a3,a4,a5,a6,a7,a8,a9,a10,a11⟩:af) a1).r<=_;omega)];have w:w64 ((cP (⟨a2,a3,a4,a5,a6,a7,a8,a9,a10,a11⟩:af) a1).p+(cP (⟨a2,a3,a4,a5,a6,a7,a8,a9,a10,a11⟩:af) a1).q+(cP (⟨a2,a3,a4,a5,a6,a7,a8,a9,a10,a11⟩:af) a1).r)=(cP (⟨a2,a3,a4,a5,a6,a7,a8,a9,a10,a11⟩:af) a1).p+(cP (⟨a2,a3,a4,a5,a6,a7,a8,a9,a10,a11⟩:af) a1).q+(cP (⟨a2,a3,a4,a5,a6,a7,a8,a9,a10,a11⟩:af) a1).r:=aa (by omega) (by omega);simp only[zb4,w])
 have en:w64 (a4.fee+sS (⟨a2,a3,a4,a5,a6,a7,a8,a9,a10,a11⟩:af)+au 5 (cTr (⟨a2,a3,a4,a5,a6,a7,a8,a9,a10,a11⟩:af))-cIn (⟨a2,a3,a4,a5,a6,a7,a8,a9,a10,a11⟩:af) a1)=qg (⟨a2,a3,a4,a5,a6,a7,a8,a9,a10,a11⟩:af) a1:=aa (by show _<=qg (⟨a2,a3,a4,a5,a6,a7,a8,a9,a10,a11⟩:af) a1;omega) (by show qg (⟨a2,a3,a4,a5,a6,a7,a8,a9,a10,a11⟩:af) a1<=_;omega);rw[en];refine al (zaG.2 ⟨rfl,zaa ⟨by omega,⟨r.1,r.2.1,by show a4.rin<=_;omega⟩,⟨o.1,by show a4.out<=_;omega⟩,D.advance.1,by omega⟩⟩) ?_
 refine nV fun x9 e9=> ?_
 obtain rfl:x9=iz (⟨a2,a3,a4,a5,a6,a7,a8,a9,a10,a11⟩:af) a1:=e9;refine nV fun x10 e10=> ?_
 obtain rfl:x10=se (⟨a2,a3,a4,a5,a6,a7,a8,a9,a10,a11⟩:af) a1:=e10;refine nV fun g11 e11=> ?_
 obtain rfl:g11=cN1 (⟨a2,a3,a4,a5,a6,a7,a8,a9,a10,a11⟩:af) a1:=e11;refine nV fun x14 e14=> ?_
 obtain rfl:x14=(cX (⟨a2,a3,a4,a5,a6,a7,a8,a9,a10,a11⟩:af) a1).aD:=e14.trans (by
  have i:=m1;have z:(cX (⟨a2,a3,a4,a5,a6,a7,a8,a9,a10,a11⟩:af) a1).aD=cIn (⟨a2,a3,a4,a5,a6,a7,a8,a9,a10,a11⟩:af) a1+iz (⟨a2,a3,a4,a5,a6,a7,a8,a9,a10,a11⟩:af) a1+se (⟨a2,a3,a4,a5,a6,a7,a8,a9,a10,a11⟩:af) a1:=rfl;rw[z];unfold cIn at i⊢;rw[show w64 ((aL a1 a10).p+(aL a1 a10).q)=(cP (⟨a2,a3,a4,a5,a6,a7,a8,a9,a10,a11⟩:af) a1).p+(cP (⟨a2,a3,a4,a5,a6,a7,a8,a9,a10,a11⟩:af) a1).q from aa (by show _<=(cP (⟨a2,a3,a4,a5,a6,a7,a8,a9,a10,a11⟩:af) a1).p+(cP (⟨a2,a3,a4,a5,a6,a7,a8,a9,a10,a11⟩:af) a1).q;omega) (by show(cP (⟨a2,a3,a4,a5,a6,a7,a8,a9,a10,a11⟩:af) a1).p+(cP (⟨a2,a3,a4,a5,a6,a7,a8,a9,a10,a11⟩:af) a1).q<=_;omega)];rw[show w64 ((cP (⟨a2,a3,a4,a5,a6,a7,a8,a9,a10,a11⟩:af) a1).p+(cP (⟨a2,a3,a4,a5,a6,a7,a8,a9,a10,a11⟩:af) a1).q+(aL a1 a10).r)=(cP (⟨a2,a3,a4,a5,a6,a7,a8,a9,a10,a11⟩:af) a1).p+(cP (⟨a2,a3,a4,a5,a6,a7,a8,a9,a10,a11⟩:af) a1).q+(cP (⟨a2,a3,a4,a5,a6,a7,a8,a9,a10,a11⟩:af) a1).r from aa (by show _<=(cP (⟨a2,a3,a4,a5,a6,a7,a8,a9,a10,a11⟩:af) a1).p+(cP (⟨a2,a3,a4,a5,a6,a7,a8,a9,a10,a11⟩:af) a1).q+(cP (⟨a2,a3,a4,a5,a6,a7,a8,a9,a10,a11⟩:af) a1).r;omega) (by show(cP (⟨a2,a3,a4,a5,a6,a7,a8,a9,a10,a11⟩:af) a1).p+(cP (⟨a2,a3,a4,a5,a6,a7,a8,a9,a10,a11⟩:af) a1).q+(cP (⟨a2,a3,a4,a5,a6,a7,a8,a9,a10,a11⟩:af) a1).r<=_;omega)];rw[aa (n:=(cP (⟨a2,a3,a4,a5,a6,a7,a8,a9,a10,a11⟩:af) a1).p+(cP (⟨a2,a3,a4,a5,a6,a7,a8,a9,a10,a11⟩:af) a1).q+(cP (⟨a2,a3,a4,a5,a6,a7,a8,a9,a10,a11⟩:af) a1).r+iz (⟨a2,a3,a4,a5,a6,a7,a8,a9,a10,a11⟩:af) a1) (by omega) (by omega),aa (n:=(cP (⟨a2,a3,a4,a5,a6,a7,a8,a9,a10,a11⟩:af) a1).p+(cP (⟨a2,a3,a4,a5,a6,a7,a8,a9,a10,a11⟩:af) a1).q+(cP (⟨a2,a3,a4,a5,a6,a7,a8,a9,a10,a11⟩:af) a1).r+iz (⟨a2,a3,a4,a5,a6,a7,a8,a9,a10,a11⟩:af) a1+se (⟨a2,a3,a4,a5,a6,a7,a8,a9,a10,a11⟩:af) a1) (by omega) (by omega)])
 have c1r:(0<=(cN1 (⟨a2,a3,a4,a5,a6,a7,a8,a9,a10,a11⟩:af) a1).bP/\(cN1 (⟨a2,a3,a4,a5,a6,a7,a8,a9,a10,a11⟩:af) a1).bP<=(cN1 (⟨a2,a3,a4,a5,a6,a7,a8,a9,a10,a11⟩:af) a1).rin/\(cN1 (⟨a2,a3,a4,a5,a6,a7,a8,a9,a10,a11⟩:af) a1).rin<=1152921504606846976):=by
  show 0<=a4.bP+iz (⟨a2,a3,a4,a5,a6,a7,a8,a9,a10,a11⟩:af) a1/\a4.bP+iz (⟨a2,a3,a4,a5,a6,a7,a8,a9,a10,a11⟩:af) a1<=a4.rin/\a4.rin<=_;omega
 refine al (zaG.2 ⟨zaa ⟨⟨⟨q5,by show(cP (⟨a2,a3,a4,a5,a6,a7,a8,a9,a10,a11⟩:af) a1).p<=_;omega⟩,⟨q6,by show(cP (⟨a2,a3,a4,a5,a6,a7,a8,a9,a10,a11⟩:af) a1).l<=_;omega⟩,q7,by show(cP (⟨a2,a3,a4,a5,a6,a7,a8,a9,a10,a11⟩:af) a1).r<=_;omega⟩,c1r⟩,zaG.2 ⟨hpo,gq c2⟩⟩) ?_
 refine nV fun x15 e15=> ?_
 obtain rfl:x15=(cX (⟨a2,a3,a4,a5,a6,a7,a8,a9,a10,a11⟩:af) a1).ar:=e15;refine nV fun x16 e16=> ?_
 obtain rfl:x16=(cX (⟨a2,a3,a4,a5,a6,a7,a8,a9,a10,a11⟩:af) a1).room:=e16;refine al (zaa ⟨hl.2.2.1,hl.2.2.2.1,hl.2.2.2.2.1⟩) ?_
 refine nV fun l17 e17=> ?_
 obtain rfl:l17=gh (ik (⟨a2,a3,a4,a5,a6,a7,a8,a9,a10,a11⟩:af)) ((⟨a2,a3,a4,a5,a6,a7,a8,a9,a10,a11⟩:af)).n.mode:=e17;refine al (zaG.2 ⟨zaa (by omega),zaG.2 ⟨x1,x2⟩⟩) ?_
 refine nV fun l23 e23=> ?_
 obtain rfl:l23=(dR (⟨a2,a3,a4,a5,a6,a7,a8,a9,a10,a11⟩:af) a1).2.2:=e23;refine al d5 ?_
 refine nV fun x25 e25=> ?_
 obtain rfl:x25=(eO (⟨a2,a3,a4,a5,a6,a7,a8,a9,a10,a11⟩:af) a1).1.out:=e25;have eo:w64 ((eO (⟨a2,a3,a4,a5,a6,a7,a8,a9,a10,a11⟩:af) a1).1.out+se (⟨a2,a3,a4,a5,a6,a7,a8,a9,a10,a11⟩:af) a1)=(cN2 (⟨a2,a3,a4,a5,a6,a7,a8,a9,a10,a11⟩:af) a1).out:=by
  refine Eq.trans (aa ?_ ?_) rfl
  . rw[d1];show _<=a4.out-bE kR (dR (⟨a2,a3,a4,a5,a6,a7,a8,a9,a10,a11⟩:af) a1).2.2+se (⟨a2,a3,a4,a5,a6,a7,a8,a9,a10,a11⟩:af) a1;omega
  . rw[d1];show a4.out-bE kR (dR (⟨a2,a3,a4,a5,a6,a7,a8,a9,a10,a11⟩:af) a1).2.2+se (⟨a2,a3,a4,a5,a6,a7,a8,a9,a10,a11⟩:af) a1<=_;omega
 rw[eo];refine al (zaG.2 ⟨zaa ⟨⟨⟨q5,by show(cP (⟨a2,a3,a4,a5,a6,a7,a8,a9,a10,a11⟩:af) a1).p<=_;omega⟩,⟨q6,by show(cP (⟨a2,a3,a4,a5,a6,a7,a8,a9,a10,a11⟩:af) a1).l<=_;omega⟩,q7,by show(cP (⟨a2,a3,a4,a5,a6,a7,a8,a9,a10,a11⟩:af) a1).r<=_;omega⟩,⟨by show 0<=(eO (⟨a2,a3,a4,a5,a6,a7,a8,a9,a10,a11⟩:af) a1).1.aP;rw[d1];show 0<=a4.aP;omega,by show(eO (⟨a2,a3,a4,a5,a6,a7,a8,a9,a10,a11⟩:af) a1).1.aP<=_;rw[d1];show a4.aP<=_;omega⟩,by show 0<=(eO (⟨a2,a3,a4,a5,a6,a7,a8,a9,a10,a11⟩:af) a1).1.ba;rw[d1];exact r0,by show(eO (⟨a2,a3,a4,a5,a6,a7,a8,a9,a10,a11⟩:af) a1).1.ba<=_;rw[d1];show a4.ba<=_;omega⟩,zaG.2 ⟨hpo,gq d3⟩⟩) ?_
 refine nV fun g26 e26=> ?_
 obtain rfl:g26=cN2 (⟨a2,a3,a4,a5,a6,a7,a8,a9,a10,a11⟩:af) a1:=e26;refine nV fun l27 e27=> ?_
 obtain rfl:l27=nD (⟨a2,a3,a4,a5,a6,a7,a8,a9,a10,a11⟩:af) a1:=e27;refine al (zaG.2 ⟨rfl,zaG.2 ⟨hpo,gq t1⟩⟩) ?_
 refine nV fun x31 e31=> ?_
 refine nV fun x32 e32=> ?_
 refine nV fun x33 e33=> ?_
 refine nV fun x34 e34=> ?_
 have g4:=(vk h he).2.2.2;have el:w64 ((cN2 (⟨a2,a3,a4,a5,a6,a7,a8,a9,a10,a11⟩:af) a1).aP-(cN2 (⟨a2,a3,a4,a5,a6,a7,a8,a9,a10,a11⟩:af) a1).ba)=(cN2 (⟨a2,a3,a4,a5,a6,a7,a8,a9,a10,a11⟩:af) a1).aP-(cN2 (⟨a2,a3,a4,a5,a6,a7,a8,a9,a10,a11⟩:af) a1).ba:=aa (by omega) (by omega);rw[el,show((cD (⟨a2,a5,a6,a3,a7,a8,a9⟩:aU)).getD (0,0)).1=au 1 a5 from D.aeJ]at e34;have n2m:(cN2 (⟨a2,a3,a4,a5,a6,a7,a8,a9,a10,a11⟩:af) a1).mode=a4.mode/\(cN2 (⟨a2,a3,a4,a5,a6,a7,a8,a9,a10,a11⟩:af) a1).bf=a4.bf/\(cN2 (⟨a2,a3,a4,a5,a6,a7,a8,a9,a10,a11⟩:af) a1).period=a4.period:=by rw[u2];exact⟨rfl,rfl,rfl⟩
 have ep:w64 ((cN2 (⟨a2,a3,a4,a5,a6,a7,a8,a9,a10,a11⟩:af) a1).period+1)=a4.period+1:=by rw[n2m.2.2];exact aa (by omega) (by omega)
 have ex:ev (cN2 (⟨a2,a3,a4,a5,a6,a7,a8,a9,a10,a11⟩:af) a1).mode (cN2 (⟨a2,a3,a4,a5,a6,a7,a8,a9,a10,a11⟩:af) a1).bf a3.eX x31 x32 x33 x34=zN (⟨a2,a3,a4,a5,a6,a7,a8,a9,a10,a11⟩:af) a1:=by rw[n2m.1,n2m.2.1,e31,e32,e33,e34];rfl
 rw[ep,ex];refine al (zaa ?_) ?_
 . rw[n2m.2.1];omega
 have c2r:(0<=(cN2 (⟨a2,a3,a4,a5,a6,a7,a8,a9,a10,a11⟩:af) a1).bP/\(cN2 (⟨a2,a3,a4,a5,a6,a7,a8,a9,a10,a11⟩:af) a1).bP<=(cN2 (⟨a2,a3,a4,a5,a6,a7,a8,a9,a10,a11⟩:af) a1).rin/\(cN2 (⟨a2,a3,a4,a5,a6,a7,a8,a9,a10,a11⟩:af) a1).rin<=1152921504606846976):=by
  rw[u2];show 0<=a4.bP+iz (⟨a2,a3,a4,a5,a6,a7,a8,a9,a10,a11⟩:af) a1/\a4.bP+iz (⟨a2,a3,a4,a5,a6,a7,a8,a9,a10,a11⟩:af) a1<=a4.rin+bE kT (dR (⟨a2,a3,a4,a5,a6,a7,a8,a9,a10,a11⟩:af) a1).2.2/\a4.rin+bE kT (dR (⟨a2,a3,a4,a5,a6,a7,a8,a9,a10,a11⟩:af) a1).2.2<=_;omega
 refine al (zaa h0) ?_
 refine al (zaG.2 ⟨zaa h0,zaG.2 ⟨zaa c2r,zaG.2 ⟨hpo,gq t1⟩⟩⟩) ?_
 rw[show w64 (a4.period+1)=a4.period+1 from aa (by omega) (by omega)];rfl
def T98:TB:=Zs.ad Lo
theorem Bm (d:Dat):(ku d).i 0=d.i 0/\(ku d).i 1=d.i 1/\(ku d).i 2=0/\(ku d).i 3=0/\(ku d).b 4=false:=⟨rfl,rfl,rfl,rfl,rfl⟩
theorem Co:∀l:LD0,au 1 (l.map ku)=au 1 l/\au 2 (l.map ku)=0
 |[]=>⟨rfl,rfl⟩
 |d::l=>by
  obtain⟨h1,h2⟩:=Co l;simp only[zaS,au,h1,h2,(Bm d).2.1,(Bm d).2.2.1];exact⟨trivial,rfl⟩
theorem B8:∀l:LD0,au 5 (l.map wJ)=0/\au 6 (l.map wJ)=0
 |[]=>⟨rfl,rfl⟩
 |d::l=>by
  obtain⟨h1,h2⟩:=B8 l;simp only[zaS,au,h1,h2,wJ,rP,rY]
  decide
theorem Oy {d:aU} (h:(cD d).isSome=true):ee (dE d):=by
 have D:=dS h;obtain⟨s1,s2⟩:=Co d.aC;obtain⟨n5,n6⟩:=B8 d.notes;refine⟨h, ?_,fun x hx=> ?_, ?_,fun x hx=> ?_, ?_, ?_,zcb _, ?_, ?_, ?_, ?_, ?_, ?_, ?_⟩
 . simp only[dE,List.map_map];rfl
 . obtain⟨y,hy,rfl⟩:=za7.1 (show x∈d.notes.map wJ from hx);have:=D.note y hy;refine⟨zaa ?_, ?_⟩
   . show(0<=y.i 1/\y.i 1<=1099511627776/\(0:Int)<=0/\(0:Int)=0/\(0:Int)<=0/\(0:Int)+0<=y.i 1/\(0:Int)<=0/\(0:Int)<=1125899906842624);omega
   . show(0:Int)<=1200000000000*0;omega
 . simp only[dE,List.map_map];rfl
 . obtain⟨y,hy,rfl⟩:=za7.1 (show x∈d.aC.map ku from hx);have:=D.Hf y hy;obtain⟨_,e1,e2,e3,e4⟩:=Bm y;unfold jB;rw[e1,e2,e3,e4]
   and_intros<;>first|omega|(intro h;cases h;done)|(intro _;rfl)
 . show au 1 (d.aC.map ku)+au 2 (d.aC.map ku)+0<=au 1 d.aC;omega
 . show(0:Int)-0=au 2 (d.aC.map ku);omega
 . show(0:Int)<=0/\(0:Int)<=600;omega
 . show(0:Int)<=0/\(0:Int)<=2;omega
 . show(0:Int)<=0/\(0:Int)<=0;omega
 . show(0:Int)<=0/\(0:Int)<=1200000000000*0;omega
 . exact⟨zcb _,D.advance.1⟩
 . show(0:Int)<=0/\0<=d.b.bq/\d.b.bq<=1200000000000*(0+1)
   have:=D.bq;omega
 . show au 6 (d.notes.map wJ)<=au 2 (d.aC.map ku);omega
def gP:aU:=⟨⟨2024,1,0⟩,[.r [.n 1,.n 100]],[.r [.n 0,.n 100,.n 0]],⟨0,0,0,0,0,0,0,0,0,0⟩,[.r [.n 3,.n 0],.r [.n 7,.n 0]],[.r [.n 3,.n 0],.r [.n 7,.n 0]],[.r [.n 3,.n 0],.r [.n 7,.n 0]]⟩
theorem Ke:(cD gP).isSome=true:=by kernel_rfl
def mH:LD0:=[.r [.n 1,.n 40,.n 0,.n 0,.n 0,.n 0,.n (bI false)]]
theorem Dh:(aH (dE gP) mH).ra=⟨false,1,0,40,0,0,0,0,0,0,0⟩/\(aH (dE gP) mH).rb=⟨0,60,0,0,0⟩/\(aH (dE gP) mH).next=0/\(aH (dE gP) mH).e=0/\(aH (dE gP) mH).bm=[.r [.n 1,.n 7,.n 0,.n 40]]/\(aH (dE gP) mH).notes=[.r [.n 60,.n 0,.n 0]]:=by
 refine⟨?_, ?_, ?_, ?_, ?_, ?_⟩<;>kernel_rfl
def N16:aA:=⟨T98.tab,16,⟨[],[],0⟩,⟨[.agg [.z0,.z0,.z0,.buf 0 2,.buf 1 3,.z0,.z0,.z0,.z0,.z0,.z0,.z0,.z0,.z0,.z0,.buf 2 2,.buf 3 2,.buf 4 2]],[.ab (sI 2),.ab (sI 3),.ab (sI 2),.ab (sI 2),.ab (sI 2)],0⟩,[]⟩
def t16 (m:Nat):Unit->OU0:=fun _=>
 some (Uns.enc ((⟨2024,1,0⟩:av):av)++Uns.enc ((⟨0,0,0,0,0,0,0,0,0,0⟩:aw):aw)++[.d ([.r [.n 1,.n 100]]:LD0),.d ([.r [.n 0,.n 100,.n 0]]:LD0),.d ([.r [.n 3,.n 0],.r [.n 7,.n 0]]:LD0),.d ([.r [.n 3,.n 0],.r [.n 7,.n 0]]:LD0),.d ([.r [.n 3,.n 0],.r [.n 7,.n 0]]:LD0)])
def f16:Unit->Bool × List Un:=fun _=>(true,Uns.enc ((gP.a):av)++Uns.enc ((gP.b):aw)++[.d (gP.aC),.d (gP.notes),.d (gP.s0),.d (gP.s1),.d (gP.s2)])
theorem UT:ER 16 (mkE N16.en N16.ex f16):=ak ae T98.right (fun m=>[]) (t:=t16) (by kernel_rfl) (fun m=>az) (fun m a=>by kernel_rfl) fun _ hc=>by
 dsimp only[f16]at⊢;exact⟨0,rfl⟩
def T16:TB:=T98.ad UT
theorem A2 (k:cj):(cD (bF k)).isSome=true:=by rw[Hx];rfl
theorem RD {T:af} {l:LD0} (ho:T.n.hG=false) (hp:T.n.period<600) (he:(cP T l).e=0):aH T l=fc T l:=by
 unfold aH;rw[ho,tF,ay (by omega),cY he]
def rW (d:Dat):Dat:= .r [.n (d.i 0),.n (d.i 1)]
def qa (p q r s t u:LI0) (l:LD0):LD0:=ofL p q r s t u (l.map fun d=>d.i 2) 0 (l.map rW)
theorem Hg (id:Int) (x:Dat) (hx:x.i 0=id):∀(pre:LD0) (rest:LD0) (i:Int),(∀d∈pre,d.i 0≠id)->gI id i (pre++x::rest)=i+pre.length
 |[],rest,i,_=>by simp only[zas,gI,if_pos hx,zar];omega
 |d::pre,rest,i,h=>by
  have:=Hg id x hx pre rest (i+1) fun y hy=>h y (by simp[hy])
  simp only[zaC,gI,if_neg (h d (by simp)),this,zac,zaL];omega
theorem acO {p q r s t u:LI0} {i:Int} {x n:Dat} (hx:jB x) (hb:0<x.i 1) (hn:n.i 0=x.i 0/\n.i 1=x.i 1):jI ((ji p q r s t u i n).i 1) ((ji p q r s t u i n).i 2) ((ji p q r s t u i n).i 3) ((ji p q r s t u i n).i 4) ((ji p q r s t u i n).i 5)=true/\Fo x (ji p q r s t u i n)=true/\(ji p q r s t u i n).i 0=x.i 0:=by
 obtain⟨n0,n1⟩:=hn;obtain⟨x1,x2,x3,x4,x5,x6⟩:=hx;have h4:x.b 4=false:=by
  cases hc:x.b 4
  . rfl
  . have:=x5 hc;omega
 unfold ji;rw[n0,n1];dsimp only;have b1:=aV (a:=bB p i) (show(0:Int)<=x.i 1/4 by omega);generalize within (bB p i) 0 (x.i 1/4)=y at*
 have b2:0<=(if within (bB q i) 0 (2*(x.i 1-y))>x.i 1-y then 0 else within (bB q i) 0 (2*(x.i 1-y)))/\(if within (bB q i) 0 (2*(x.i 1-y))>x.i 1-y then 0 else within (bB q i) 0 (2*(x.i 1-y)))<=x.i 1-y:=by
  have:=aV (a:=bB q i) (show(0:Int)<=2*(x.i 1-y) by omega)
  split<;>omega
 generalize (if within (bB q i) 0 (2*(x.i 1-y))>x.i 1-y then 0 else within (bB q i) 0 (2*(x.i 1-y)))=z at*
 have b3:=aV (a:=bB r i) (show(0:Int)<=1+x.i 1/50 by omega);generalize within (bB r i) 0 (1+x.i 1/50)=v at*
 have b4:=aV (a:=bB s i) (show(0:Int)<=x.i 1-y-z by omega);generalize within (bB s i) 0 (x.i 1-y-z)=c at*
 have b5:=aV (a:=bB t i) (show(0:Int)<=24 by omega);generalize within (bB t i) 0 24=w at*
 generalize w64 ((BitVec.ofInt 64 (bB u i)&&&BitVec.ofInt 64 7).toNat)=e;refine⟨?_, ?_,rfl⟩
 . show jI y z v (if e=7 then c else 0) (if 0<w-12 then w-12 else 0)=true;simp only[jI,zae,zag];refine⟨by omega,by omega,by omega,by omega,by omega,by omega, ?_, ?_, ?_, ?_⟩<;>split<;>omega
 . show BT (x.i 1) (x.i 2) (x.b 4) y z v (if e=7 then c else 0) (if 0<w-12 then w-12 else 0) (bI (decide (e=7)) !=0)=true;rw[Z0,h4];unfold BT;rw[zal,show w64 (x.i 1-y)=x.i 1-y from aa (by omega) (by omega),show w64 (x.i 1-y-z)=x.i 1-y-z from aa (by omega) (by omega),zao (show ¬x.i 1-y-z<0 by omega),zal,show w64 (x.i 2+(x.i 1-y-z))=x.i 2+(x.i 1-y-z) from aa (by omega) (by omega)]
   by_cases he:e=7
   . rw[zaa he,zaw,if_pos he,zaa (show c<=x.i 2+(x.i 1-y-z) by omega)];rfl
   . rw[zao he,zal,if_neg he];rfl
theorem ac0 {s lost:LI0} {j:Nat} {x n:Dat} (hx:jB x) (hb:¬0<x.i 1) (hn:n.i 0=x.i 0) (hl:lost.getD j 0=x.i 2):jI ((jX s lost j n).i 1) ((jX s lost j n).i 2) ((jX s lost j n).i 3) ((jX s lost j n).i 4) ((jX s lost j n).i 5)=true/\Fo x (jX s lost j n)=true/\(jX s lost j n).i 0=x.i 0:=by
 obtain⟨x1,x2,x3,x4,x5,x6⟩:=hx;have e0:x.i 1=0:=by omega
 unfold jX;rw[hn,zat,hl];have hc:∃c,(if (j:Int)<(lost.length:Int)/\0<x.i 2 then within (bB s j) 0 (x.i 2)else 0)=c/\0<=c/\c<=x.i 2:=by
  refine⟨_,rfl, ?_, ?_⟩<;>split
  . exact(aV x2).1
  . omega
  . exact(aV x2).2
  . omega
 obtain⟨c,hc,c0,c1⟩:=hc;rw[hc];refine⟨?_, ?_,rfl⟩
 . show jI 0 0 0 c 0=true;simp only[jI,zae,zag]
   and_intros<;>omega
 . show BT (x.i 1) (x.i 2) (x.b 4) 0 0 0 c 0 (bI false !=0)=true;rw[Z0];unfold BT;cases h4:x.b 4
   . have:=x6 h4;have:c=0:=by omega
     subst this;rw[e0];rfl
   . simp only[zaw,beq_self_eq_true,zbb,Bool.not_false];exact zaa c1
theorem IE (p q r s t u lost:LI0):∀(rest pre:LD0) (last a b c d:Int),(∀x∈rest,jB x)->(∀x∈pre,x.i 0<=last)->((pre++rest).map fun x=>x.i 0).Pairwise (·<·)->(∀x∈rest,last<x.i 0/\0<x.i 0)->(∀j,j<rest.length->lost.getD (pre.length+j) 0=(ai rest j).i 2)->0<=last->
 ky last (ofL p q r s t u lost pre.length (rest.map rW))=true/\∃y,gR (pre++rest) a b c d (ofL p q r s t u lost pre.length (rest.map rW))=some y/\y.e=0
 |[],pre,last,a,b,c,d,_,_,_,_,_,_=>⟨rfl,⟨a,b,c,d,0,pre++[]⟩,rfl,rfl⟩
 |x::rest,pre,last,a,b,c,d,hl,hp,hw,hlt,hlo,h0=>by
  have hx:=hl x (by simp);have hx0:=hlt x (by simp);have afN:∀j,j<rest.length->lost.getD (pre.length+1+j) 0=(ai rest j).i 2:=fun j hj=>by
   have:=hlo (j+1) (by simpa using hj);rw[show pre.length+1+j=pre.length+(j+1) by omega,this];rfl
  have hl0:lost.getD pre.length 0=x.i 2:=hlo 0 (by simp);have hw2:∀z∈rest,x.i 0<z.i 0:=by
   rw[zb5,List.pairwise_append]at hw;have:=(List.pairwise_cons.1 hw.2.1).1;intro z hz;exact this _ (za7.2 ⟨z,hz,rfl⟩)
  have step:∀(y:Dat) (a b c d:Int),y.i 0=x.i 0->ky (x.i 0) (ofL p q r s t u lost ((pre.length:Int)+1) (rest.map rW))=true/\∃z,gR (pre++y::rest) a b c d (ofL p q r s t u lost ((pre.length:Int)+1) (rest.map rW))=some z/\z.e=0:=fun y a b c d hy=>by
   have:=IE p q r s t u lost rest (pre++[y]) (x.i 0) a b c d (fun z hz=>hl z (by simp[hz])) (fun z hz=>by
    rcases za0.1 hz with hz|hz
    . have:=hp z hz;omega
    . rw[zbg.1 hz];omega) (by simpa[hy]using hw) (fun z hz=>by have:=hw2 z hz;omega) (by simpa using afN) (by omega)
   simpa using this
  have skip:ky last (ofL p q r s t u lost ((pre.length:Int)+1) (rest.map rW))=true/\∃z,gR (pre++x::rest) a b c d (ofL p q r s t u lost ((pre.length:Int)+1) (rest.map rW))=some z/\z.e=0:=by
   have h1:=IE p q r s t u lost rest (pre++[x]) last a b c d;refine⟨?_,(step x a b c d rfl).2⟩;have tm:∀(l:LD0),ky (x.i 0) l=true->ky last l=true:=fun l h=>by
    cases l with
    |nil=>rfl
    |cons w l=>
     unfold ky at h⊢
     split at h
     . cases h
     . rw[if_neg (by omega)];exact h
   exact tm _ (step x a b c d rfl).1
  have line:∀e:Dat,jI (e.i 1) (e.i 2) (e.i 3) (e.i 4) (e.i 5)=true/\Fo x e=true/\e.i 0=x.i 0->ky last (e::ofL p q r s t u lost ((pre.length:Int)+1) (rest.map rW))=true/\∃y,gR (pre++x::rest) a b c d (e::ofL p q r s t u lost ((pre.length:Int)+1) (rest.map rW))=some y/\y.e=0:=fun e he=>by
   obtain⟨e1,e2,e3⟩:=he;have hi:gI (e.i 0) 0 (pre++x::rest)=(pre.length:Int):=by
    rw[e3,Hg (x.i 0) x rfl pre rest 0 fun z hz=>by have:=hp z hz;omega];omega
   refine⟨?_, ?_⟩
   . unfold ky;rw[e3,if_neg (by omega),if_pos e1];exact(step x a b c d rfl).1
   . unfold gR;rw[hi,if_neg (by omega),zat,ax,if_pos e2,D9];exact(step (pd x e) _ _ _ _ rfl).2
  simp only[zaS];unfold ofL
  split
  . simpa using skip
  . by_cases hb:0<(rW x).i 1
    . rw[if_pos hb,List.singleton_append];exact line _ (acO hx hb ⟨rfl,rfl⟩)
    . rw[if_neg hb,List.singleton_append];exact line _ (ac0 hx hb rfl hl0)
theorem OM {T:af} (h:ee T) (p q r s t u:LI0):(cP T (qa p q r s t u T.aN)).e=0:=by
 have D:=dS h.A8;have hl:=jY h;have qY:∀x∈T.aN,0<x.i 0:=fun x hx=>by
  have hm:x.i 0∈T.aN.map (fun d=>d.i 0):=za7.2 ⟨x,hx,rfl⟩;rw[h.ids]at hm;obtain⟨y,hy,e⟩:=za7.1 hm;have:=D.pos y hy;omega
 obtain⟨a1,y,a2,a3⟩:=IE p q r s t u (T.aN.map fun d=>d.i 2) T.aN [] 0 0 0 0 0 h.Hf (fun x hx=>by cases hx) (by
  have e:=h.ids;rw[zas,e];exact D.ids) (fun x hx=>by have:=qY x hx;omega) (fun j hj=>by
   rw[zar,zaF,kJ hj,zaf];simp[hj]) (by omega)
 have hlen:=Lb p q r s t u (T.aN.map fun d=>d.i 2) (T.aN.map rW) 0;unfold cP aL qa;have ht:mj (ofL p q r s t u (T.aN.map fun d=>d.i 2) 0 (T.aN.map rW))=true:=by
  simp only[mj,zae,zag];exact⟨by rw[zaW]at hlen;omega,a1⟩
 rw[if_pos ht];rw[show gR T.aN 0 0 0 0 (ofL p q r s t u (T.aN.map fun d=>d.i 2) 0 (T.aN.map rW))=some y from a2];exact a3
theorem J8 {T:af} (h:ee T) (ho:T.n.hG=false) (hp:T.n.period<600) {l:LD0} (he:(cP T l).e=0):aH T l=fc T l/\ee (fc T l).t/\(fc T l).t.n.hG=false/\(fc T l).t.n.period=T.n.period+1/\(fc T l).t.n.mode=(fc T l).next/\(0<=(fc T l).next/\(fc T l).next<=2)/\(T.n.mode=2->(fc T l).next=2)/\(fc T l).ra.mode=T.n.mode/\(fc T l).ra.period=T.n.period+1:=by
 have u:=tQ h he;refine⟨RD ho hp he,Ah h hp he, ?_,rfl,rfl,(Hr h.mode h.bf.1).1,fun hm=> ?_,rfl,rfl⟩
 . show(cN2 T l).hG=false;rw[u];exact ho
 . show(ev _ _ _ _ _ _ _).1=2;unfold ev;rw[if_pos (.inl hm)]
theorem Se {T:af} (h:ee T):(decide (T.aN.length<1000)&&T.aN.all (fun d=>decide (d.i 1<=1152921504606846976/\d.i 2<=1152921504606846976)))=true:=by
 rw[zae,zam];have:=jY h;exact⟨zaa (by omega),fun d hd=>zaa (by have:=h.Hf d hd;unfold jB at this;omega)⟩
def qu (n:Int):LI0:=[wu8 (Int.fdiv n 72057594037927936),wu8 (Int.fdiv n 281474976710656),wu8 (Int.fdiv n 1099511627776),wu8 (Int.fdiv n 4294967296),wu8 (Int.fdiv n 16777216),wu8 (Int.fdiv n 65536),wu8 (Int.fdiv n 256),wu8 (Int.fdiv n 1)]
def cO (l:LI0):LI0:=l.flatMap qu
theorem O7:(2:Int)^(min (56:Int).toNat 64)=72057594037927936/\(2:Int)^(min (48:Int).toNat 64)=281474976710656/\(2:Int)^(min (40:Int).toNat 64)=1099511627776/\(2:Int)^(min (32:Int).toNat 64)=4294967296/\(2:Int)^(min (24:Int).toNat 64)=16777216/\(2:Int)^(min (16:Int).toNat 64)=65536/\(2:Int)^(min (8:Int).toNat 64)=256/\(2:Int)^(min (0:Int).toNat 64)=1:=by decide
def N52:aA:=⟨T16.tab,52,⟨[.ints .i64],[],0⟩,⟨[.buf 0 1],[.ints .u8],0⟩,[[0,1,1,0,0,1,1,0,0,1,0,1,1]]⟩
abbrev Ll:Type:=LI0 × Int × Int × LI0
def DB (m:Nat) (k:Ll->OU0):Ll->OU0:=fun(a0,a1,a2,a3)=>
 bif decide (a2<a1)then
 chk (inb a2 a0.length)<|
 chk (decide (a2.toNat<a0.length))<|
 lt ((Int.fdiv (a0.getD a2.toNat 0) (2^(min (56:Int).toNat 64))):Int) fun x1=>
 chk (fits (a3.length+1) 1)<|
 chk (fits ((a3++([(wu8 x1)])).length+1) 1)<|
 lt (((a3++([(wu8 x1)]))++([(wu8 (Int.fdiv (a0.getD a2.toNat 0) (2^(min (48:Int).toNat 64))))])):LI0) fun l3=>
 lt ((Int.fdiv (a0.getD a2.toNat 0) (2^(min (40:Int).toNat 64))):Int) fun x4=>
 chk (fits (l3.length+1) 1)<|
 chk (fits ((l3++([(wu8 x4)])).length+1) 1)<|
 lt (((l3++([(wu8 x4)]))++([(wu8 (Int.fdiv (a0.getD a2.toNat 0) (2^(min (32:Int).toNat 64))))])):LI0) fun l6=>
 lt ((Int.fdiv (a0.getD a2.toNat 0) (2^(min (24:Int).toNat 64))):Int) fun x7=>
 chk (fits (l6.length+1) 1)<|
 chk (fits ((l6++([(wu8 x7)])).length+1) 1)<|
 lt (((l6++([(wu8 x7)]))++([(wu8 (Int.fdiv (a0.getD a2.toNat 0) (2^(min (16:Int).toNat 64))))])):LI0) fun l9=>
 lt ((Int.fdiv (a0.getD a2.toNat 0) (2^(min (8:Int).toNat 64))):Int) fun x10=>
 chk (fits (l9.length+1) 1)<|
 chk (fits ((l9++([(wu8 x10)])).length+1) 1)<|
 k (a0,a1,(w64 (a2+1)),((l9++([(wu8 x10)]))++([(wu8 (Int.fdiv (a0.getD a2.toNat 0) (2^(min (0:Int).toNat 64))))])))
 else
 some ([.l a3])
def CM (m:Nat):Nat->Ll->OU0:=aX (DB m)
theorem Bx (m:Nat) (n:Nat):CM m (n+1)=DB m (CM m n):=rfl
def Ov (F:Ll->OU0):aQ:=⟨[.lp [0,1,0,1,1],.blk 0,.code [1,1,1]],⟨frm 27 [(3,.buf 0 1),(7,.ints .i64),(8,.z0),(9,.z0)],[.ints .u8],0⟩,onU F⟩
theorem acw (m:Nat):∀n,HO N52 (Ov (CM m n)):=an ae T16.right (fun k=>[Ov k]) (fun k h=>(aI h az)) fun k a=>by kernel_rfl
def t52 (m:Nat):LI0->OU0:=fun a0=>
 CM m m (a0,(a0.length:Int),0,[])
theorem Wn (m:Nat):∀(rest pre acc:LI0) (n:Nat),rest.length<n->(pre++rest).length<=1000000->acc.length=8*pre.length->CM m n (pre++rest,((pre++rest).length:Int),(pre.length:Int),acc)=some [.l (acc++cO rest)]:=by
 intro rest
 induction rest with
 |nil=>
  intro pre acc n hn hl ha;obtain⟨n,rfl⟩:=ah n (by simp at hn;omega);rw[Bx];unfold DB;dsimp only;rw[ay (by simp)];simp[cO]
 |cons x rest ih=>
  intro pre acc n hn hl ha;obtain⟨n,rfl⟩:=ah n (by simp at hn;omega);simp only[zac,zab]at hn hl;rw[Bx];unfold DB;dsimp only;rw[aK (by simp only[zab,zac];omega),bQ (by omega) (by simp only[zab,zac];omega),aJ (by simp)];have hx:(pre++x::rest).getD (pre.length:Int).toNat 0=x:=by simp
  obtain⟨p1,p2,p3,p4,p5,p6,p7,p8⟩:=O7;have f:∀k,k<=8->fits (acc.length+k) 1=true:=fun k hk=>zaa (by omega)
  dsimp only[lt];simp only[hx,p1,p2,p3,p4,p5,p6,p7,p8,zab,zac,zar,zaF,zbe,Nat.reduceAdd,f 1 (by decide),f 2 (by decide),f 3 (by decide),f 4 (by decide),f 5 (by decide),f 6 (by decide),f 7 (by decide),f 8 (by decide),chk,zaw];have:=ih (pre++[x]) (acc++qu x) n (by omega) (by simp;omega) (by simp[qu,ha];omega);have e:w64 ((pre.length:Int)+1)=((pre++[x]).length:Int):=by
   rw[aa (by omega) (by omega)];simp
  rw[e];have e2:acc++cO (x::rest)=(acc++qu x)++cO rest:=by simp[cO]
  rw[e2,<-this];simp only[zaq,zaC,zas,qu,zab,zac,zar,zaF,zbe,Nat.add_comm 1]
def f52:LI0->Bool × List Un:=fun a0=>(decide (a0.length<=1000000),[.l (cO a0)])
theorem T2:ER 52 (mkE N52.en N52.ex f52):=ak ae T16.right (fun m=>[Ov (CM m m)]) (t:=t52) (by kernel_rfl) (fun m=>(aI (acw m m) az)) (fun m a=>by kernel_rfl) fun a0 hc=>by
 dsimp only[f52]at hc⊢;have hl:=zaj hc;refine⟨a0.length+1, ?_⟩;have:=Wn (a0.length+1) a0 [] [] (a0.length+1) (by omega) (by simpa using hl) rfl;simp only[zas]at this;exact this
def T52:TB:=T16.ad T2
structure RdR where
 v:Int
 o:Int
 n:Int
 bad:Bool
 l:List Int
def rdN (o n:Int) (bad:Bool) (l:LI0):RdR:=bif bad||(n.toNat:Int)==0 then⟨0,o.toNat,n.toNat,true,l⟩else⟨l.getD o.toNat 0,((o.toNat+1:Nat):Int),((n.toNat-1:Nat):Int),bad,l⟩
def rdM (o n:Int) (bad:Bool) (l:LI0) (most:Int):RdR:=let r:=rdN o n bad l;bif decide (r.v<0)||decide (r.v>most)then {r with v:=0,bad:=true}else r
def N95:aA:=⟨T52.tab,95,⟨[.ptr 0 0 0],[.cells [.sl 1 1,.bool],.ints .i64],0⟩,⟨[.z0],[.cells [.sl 1 1,.bool],.ints .i64],0⟩,[]⟩
def t95 (m:Nat):Int × Int × Bool × LI0->OU0:=fun(a0,a1,a2,a3)=>
 bif a2 then
 some ([.i 0,.i (a0.toNat:Int),.i (a1.toNat:Int),.b true,.l a3])
 else
 bif (a1.toNat:Int)==0 then
 some ([.i 0,.i (a0.toNat:Int),.i (a1.toNat:Int),.b true,.l a3])
 else
 chk (inb 0 a1.toNat)<|
 chk (decide (a0.toNat<a3.length))<|
 chk (true&&(true&&decide (1<=a1.toNat/\a1.toNat<=a1.toNat)))<|
 some ([.i (a3.getD a0.toNat 0),.i (((a0.toNat+1):Nat):Int),.i (((a1.toNat-1):Nat):Int),.b a2,.l a3])
def f95:Int × Int × Bool × LI0->Bool × List Un:=fun(a0,a1,a2,a3)=>(decide (a0.toNat+a1.toNat<=a3.length),[.i ((rdN a0 a1 a2 a3).v),.i ((rdN a0 a1 a2 a3).o),.i ((rdN a0 a1 a2 a3).n),.b ((rdN a0 a1 a2 a3).bad),.l ((rdN a0 a1 a2 a3).l)])
theorem Mb:ER 95 (mkE N95.en N95.ex f95):=ak ae T52.right (fun m=>[]) (t:=t95) (by kernel_rfl) (fun m=>az) (fun m a=>by kernel_rfl) fun(a0,a1,a2,a3) hc=>by
 dsimp only[f95]at hc⊢;have hl:=zaj hc;refine⟨0, ?_⟩;unfold t95 rdN;dsimp only;cases a2 with
 |true=>rfl
 |false=>
  rw[zcj];cases h:((a1.toNat:Int)==0)with
  |true=>rfl
  |false=>
   have h:¬(a1.toNat:Int)=0:=by simpa using h
   rw[zal,zal,zal,bQ (by decide) (by omega),aJ (by omega)];exact al (by simp;omega) rfl
def T95:TB:=T52.ad Mb
def aeu:RdR->List Un:=fun r=>[.i r.v,.i r.o,.i r.n,.b r.bad,.l r.l]
def afb:Int × Int × Bool × LI0->Bool × RdR:=fun(a0,a1,a2,a3)=>(decide (a0.toNat+a1.toNat<=a3.length),(rdN a0 a1 a2 a3))
theorem RL:ER 95 (mkB N95.en N95.ex afb aeu):=rebind Mb fun(a0,a1,a2,a3)=>rfl
def Yc:TB:=T95.ad RL
def N60:aA:=⟨Yc.tab,60,⟨[.ptr 0 0 0],[.cells [.sl 1 1,.bool],.ints .i64],2⟩,⟨[.bool],[.cells [.sl 1 1,.bool],.ints .i64],2⟩,[]⟩
def t60 (m:Nat):Int × Int × Bool × LI0->OU0:=fun(a0,a1,a2,a3)=>
 bif !a2 then
 some ([.b ((a1.toNat:Int)==0),.i (a0.toNat:Int),.i (a1.toNat:Int),.b a2,.l a3])
 else
 some ([.b false,.i (a0.toNat:Int),.i (a1.toNat:Int),.b a2,.l a3])
def f60:Int × Int × Bool × LI0->Bool × List Un:=fun(a0,a1,a2,a3)=>(true,[.b ((!a2&&(a1.toNat:Int)==0)),.i ((a0.toNat:Int)),.i ((a1.toNat:Int)),.b (a2),.l (a3)])
theorem Vy:ER 60 (mkE N60.en N60.ex f60):=ak ae Yc.right (fun m=>[]) (t:=t60) (by kernel_rfl) (fun m=>az) (fun m a=>by kernel_rfl) fun(a0,a1,a2,a3) hc=>by
 dsimp only[f60]at⊢;refine⟨0, ?_⟩;unfold t60;cases a2<;>rfl
def T60:TB:=Yc.ad Vy
def N58:aA:=⟨T60.tab,58,⟨[.ints .i64],[],0⟩,⟨[.ptr 0 0 0],[.cells [.sl 1 1,.bool],.ints .i64],0⟩,[]⟩
def t58 (m:Nat):LI0->OU0:=fun a0=>
 chk (decide (a0.length<1000000))<|
 some ([.i 0,.i (a0.length:Int),.b false,.l a0])
def f58:LI0->Bool × List Un:=fun a0=>(decide (a0.length<1000000),[.i (0),.i ((a0.length:Int)),.b (false),.l (a0)])
theorem Wg:ER 58 (mkE N58.en N58.ex f58):=ak ae T60.right (fun m=>[]) (t:=t58) (by kernel_rfl) (fun m=>az) (fun m a=>by kernel_rfl) fun a0 hc=>by
 dsimp only[f58]at hc⊢;refine⟨0, ?_⟩;unfold t58;exact al hc rfl
def T58:TB:=T60.ad Wg
def N96:aA:=⟨T58.tab,96,⟨[.ptr 0 0 0,.z0],[.cells [.sl 1 1,.bool],.ints .i64],0⟩,⟨[.z0],[.cells [.sl 1 1,.bool],.ints .i64],0⟩,[]⟩
def t96 (m:Nat):Int × Int × Int × Bool × LI0->OU0:=fun(a0,a1,a2,a3,a4)=>
 chk (decide ((a1.toNat:Int).toNat+(a2.toNat:Int).toNat<=a4.length))<|
 bd ((rdN (a1.toNat:Int) (a2.toNat:Int) a3 a4):RdR) fun r1=>
 bif decide (r1.v<0)then
 some ([.i 0,.i (r1.o.toNat:Int),.i (r1.n.toNat:Int),.b true,.l r1.l])
 else
 bif decide (r1.v>a0)then
 some ([.i 0,.i (r1.o.toNat:Int),.i (r1.n.toNat:Int),.b true,.l r1.l])
 else
 some ([.i r1.v,.i (r1.o.toNat:Int),.i (r1.n.toNat:Int),.b r1.bad,.l r1.l])
theorem Vo (o n:Int) (b:Bool) (l:LI0):((rdN o n b l).o.toNat:Int)=(rdN o n b l).o/\((rdN o n b l).n.toNat:Int)=(rdN o n b l).n:=by
 unfold rdN;cases (b||(n.toNat:Int)==0)with
 |true=>exact⟨rfl,rfl⟩
 |false=>exact⟨rfl,rfl⟩
theorem Nd (o n:Int) (b:Bool) (l:LI0):rdN (o.toNat:Int) (n.toNat:Int) b l=rdN o n b l:=rfl
def f96:Int × Int × Int × Bool × LI0->Bool × List Un:=fun(a0,a1,a2,a3,a4)=>(decide (a1.toNat+a2.toNat<=a4.length),[.i ((rdM a1 a2 a3 a4 a0).v),.i ((rdM a1 a2 a3 a4 a0).o),.i ((rdM a1 a2 a3 a4 a0).n),.b ((rdM a1 a2 a3 a4 a0).bad),.l ((rdM a1 a2 a3 a4 a0).l)])
theorem LL:ER 96 (mkE N96.en N96.ex f96):=ak ae T58.right (fun m=>[]) (t:=t96) (by kernel_rfl) (fun m=>az) (fun m a=>by kernel_rfl) fun(a0,a1,a2,a3,a4) hc=>by
 dsimp only[f96]at hc⊢;have hl:=zaj hc;refine⟨0, ?_⟩;unfold t96;dsimp only[bd];refine al (zaa (by omega)) ?_
 rw[Nd];obtain⟨n1,n2⟩:=Vo a1 a2 a3 a4;rw[n1,n2];unfold rdM;dsimp only;cases decide ((rdN a1 a2 a3 a4).v<0)with
 |true=>rfl
 |false=>cases decide ((rdN a1 a2 a3 a4).v>a0)<;>rfl
def T96:TB:=T58.ad LL
def ae5:RdR->List Un:=fun r=>[.i r.v,.i r.o,.i r.n,.b r.bad,.l r.l]
def aff:Int × Int × Int × Bool × LI0->Bool × RdR:=fun(a0,a1,a2,a3,a4)=>(decide (a1.toNat+a2.toNat<=a4.length),(rdM a1 a2 a3 a4 a0))
theorem OZ:ER 96 (mkB N96.en N96.ex aff ae5):=rebind LL fun(a0,a1,a2,a3,a4)=>rfl
def Uf:TB:=T96.ad OZ
def EV (n:Int):Bool:=decide (0<=n)&&decide (n<=1152921504606846976)
def Yv:aA:=⟨Uf.tab,104,⟨[.ints .i64],[],0⟩,⟨[.bool],[],0⟩,[]⟩
abbrev E9:Type:=LI0 × Int × Int
def yh (m:Nat) (k:E9->OU0):E9->OU0:=fun(a0,a1,a2)=>
 bif decide (a2<a1)then
 chk (inb a2 a0.length)<|
 chk (decide (a2.toNat<a0.length))<|
 bif (decide ((a0.getD a2.toNat 0)<0))then
 some ([.b false])
 else
 bif (decide ((a0.getD a2.toNat 0)>1152921504606846976))then
 some ([.b false])
 else
 k (a0,a1,(w64 (a2+1)))
 else
 some ([.b true])
def uY (m:Nat):Nat->E9->OU0:=aX (yh m)
theorem wK (m:Nat) (n:Nat):uY m (n+1)=yh m (uY m n):=rfl
def Kl (F:E9->OU0):aQ:=⟨[.lp [0,1,0,1],.blk 0,.code [1,1]],⟨frm 18 [(5,.ints .i64),(6,.z0),(7,.z0)],[],0⟩,onU F⟩
theorem Y8 (m:Nat):∀n,HO Yv (Kl (uY m n)):=an ae Uf.right (fun k=>[Kl k]) (fun k h=>(aI h az)) fun k a=>by kernel_rfl
def t104 (m:Nat):LI0->OU0:=fun a0=>
 uY m m (a0,(a0.length:Int),0)
theorem abg (m:Nat):∀(rest pre:LI0) (n:Nat),rest.length<n->(pre++rest).length<=1000000->uY m n (pre++rest,((pre++rest).length:Int),(pre.length:Int))=some [.b (rest.all EV)]:=by
 intro rest
 induction rest with
 |nil=>
  intro pre n hn hl;obtain⟨n,rfl⟩:=ah n (by simp at hn;omega);rw[wK];unfold yh;dsimp only;rw[ay (by simp)];rfl
 |cons x rest ih=>
  intro pre n hn hl;obtain⟨n,rfl⟩:=ah n (by simp at hn;omega);simp only[zac,zab]at hn hl;rw[wK];unfold yh;dsimp only;rw[aK (by simp only[zab,zac];omega),bQ (by omega) (by simp only[zab,zac];omega),aJ (by simp)];have hx:(pre++x::rest).getD (pre.length:Int).toNat 0=x:=by simp
  have:=ih (pre++[x]) n (by omega) (by simp;omega);have e:w64 ((pre.length:Int)+1)=((pre++[x]).length:Int):=by
   rw[aa (by omega) (by omega)];simp
  have e3:pre++x::rest=(pre++[x])++rest:=by simp
  rw[hx,HG,DO,e,e3,this,qI,qI];simp only[List.all_cons,EV,Bool.and_assoc]
def f104:LI0->Bool × List Un:=fun a0=>(decide (a0.length<=1000000),[.b (a0.all EV)])
theorem OQ:ER 104 (mkE Yv.en Yv.ex f104):=ak ae Uf.right (fun m=>[Kl (uY m m)]) (t:=t104) (by kernel_rfl) (fun m=>(aI (Y8 m m) az)) (fun m a=>by kernel_rfl) fun a0 hc=>by
 dsimp only[f104]at hc⊢;have hl:=zaj hc;refine⟨a0.length+1, ?_⟩;exact abg (a0.length+1) a0 [] (a0.length+1) (by omega) (by simpa using hl)
def OG:TB:=Uf.ad OQ
structure K5 where
 ra:cE
 rb:cz
 next:Int
 bm:List Dat
 notes:List Dat
 r:RdR
def nx (r:RdR):RdR:=rdN r.o r.n r.bad r.l
def mx (r:RdR) (most:Int):RdR:=rdM r.o r.n r.bad r.l most
def mR:Nat->RdR->LD0 × RdR
 |0,r=>([],r)
 |k+1,r=>let s:=nx (nx (nx (nx r)));(.r [.n (nx r).v,.n (nx (nx r)).v,.n (nx (nx (nx r))).v,.n s.v]::(mR k s).1,(mR k s).2)
def eV:Nat->RdR->LD0 × RdR
 |0,r=>([],r)
 |k+1,r=>let s:=nx (nx (nx r));(.r [.n (nx r).v,.n (nx (nx r)).v,.n s.v]::(eV k s).1,(eV k s).2)
def Hl (r1 r17:RdR):cE × cz × Int:=
 let r2:=nx r1;let r3:=nx r2;let r4:=nx r3;let r5:=nx r4;let r6:=nx r5;let r7:=nx r6;let r8:=nx r7;let r9:=nx r8;let r10:=nx r9;let r11:=nx r10;let r12:=nx r11;let r13:=nx r12;let r14:=nx r13;let r15:=nx r14;let r16:=nx r15
 (⟨r1.v==1,r2.v,r3.v,r4.v,r5.v,r6.v,r7.v,r8.v,r9.v,r10.v,r11.v⟩,⟨r12.v,r13.v,r14.v,r15.v,r16.v⟩,r17.v)
def iw (o n:Int) (bad:Bool) (l:LI0):K5:=
 let r1:=rdM o n bad l 1
 let r17:=nx (nx (nx (nx (nx (nx (nx (nx (nx (nx (nx (nx (nx (nx (nx (nx r1)))))))))))))))
 let h:=Hl r1 r17
 let r18:=mx r17 160
 let p:=mR r18.v.toNat r18
 let r24:=mx p.2 8
 let q:=eV r24.v.toNat r24
 ⟨h.1,h.2.1,h.2.2,p.1,q.1,q.2⟩
def RdI (r:RdR):Prop:=(r.o.toNat:Int)=r.o/\(r.n.toNat:Int)=r.n/\r.o.toNat+r.n.toNat<=r.l.length
theorem HE {o n:Int} {b:Bool} {l:LI0} (h:o.toNat+n.toNat<=l.length):RdI (rdN o n b l)/\(rdN o n b l).l=l:=by
 unfold rdN RdI;cases hb:(b||(n.toNat:Int)==0)with
 |true=>exact⟨⟨rfl,rfl,h⟩,rfl⟩
 |false=>
  simp only[zbS,zbU]at hb;refine⟨⟨rfl,rfl, ?_⟩,rfl⟩;simp only[zal,zat];omega
theorem bH {r:RdR} (h:RdI r):RdI (nx r):=(HE h.2.2).1
theorem PG {o n:Int} {b:Bool} {l:LI0} {most:Int} (h:o.toNat+n.toNat<=l.length):RdI (rdM o n b l most):=by
 have:=(HE (b:=b) h).1;unfold rdM;dsimp only;cases (decide ((rdN o n b l).v<0)||decide ((rdN o n b l).v>most))<;>exact this
theorem uC {r:RdR} {most:Int} (h:RdI r):RdI (mx r most):=PG h.2.2
theorem GC {o n:Int} {b:Bool} {l:LI0} {most:Int} (hm:0<=most):0<=(rdM o n b l most).v/\(rdM o n b l most).v<=most:=by
 unfold rdM;dsimp only;cases h:(decide ((rdN o n b l).v<0)||decide ((rdN o n b l).v>most))with
 |true=>exact⟨zcb _,hm⟩
 |false=>
  simp only[zbS,decide_eq_false_iff_not]at h;simp only[zal];omega
theorem Me:∀(k:Nat) {r:RdR},RdI r->RdI (mR k r).2
 |0,r,h=>h
 |k+1,r,h=>Me k (bH (bH (bH (bH h))))
theorem DP:∀(k:Nat) {r:RdR},RdI r->RdI (eV k r).2
 |0,r,h=>h
 |k+1,r,h=>DP k (bH (bH (bH h)))
def N59:aA:=⟨OG.tab,59,⟨[.ptr 0 0 0],[.cells [.sl 1 1,.bool],.ints .i64],0⟩,⟨[.agg [.bool,.z0,.z0,.z0,.z0,.z0,.z0,.z0,.z0,.z0,.z0,.buf 2 4,.z0,.z0,.z0,.z0,.z0,.buf 3 3,.z0]],[.cells [.sl 1 1,.bool],.ints .i64,.ab (sI 4),.ab (sI 3)],0⟩,[[0,1,0,1,1,1],[0,1,0,1,0,0,1,1,0,0,1,0,1,1,1,1],[0,1,0,1,0,0,1,1,0,0,1,0,1,1,1,1,1]]⟩
abbrev LR:Type:=Int × Int × Int × Int × Bool × LI0 × cE × cz × Int × cE × cz × Int × LD0 × LD0 × LD0 × LD0
abbrev MB:Type:=Int × Int × Int × Int × Bool × LI0 × cE × cz × Int × cE × cz × Int × LD0 × LD0 × LD0 × LD0
def EK (m:Nat) (k:LR->OU0):LR->OU0:=fun(a0,a1,a2,a3,a4,a5,a6,a7,a8,a9,a10,a11,a12,a13,a14,a15)=>
 bif decide (a1<a0)then
 chk (decide ((a2.toNat:Int).toNat+(a3.toNat:Int).toNat<=a5.length))<|
 bd ((rdN (a2.toNat:Int) (a3.toNat:Int) a4 a5):RdR) fun r25=>
 chk (decide ((r25.o.toNat:Int).toNat+(r25.n.toNat:Int).toNat<=r25.l.length))<|
 bd ((rdN (r25.o.toNat:Int) (r25.n.toNat:Int) r25.bad r25.l):RdR) fun r26=>
 chk (decide ((r26.o.toNat:Int).toNat+(r26.n.toNat:Int).toNat<=r26.l.length))<|
 bd ((rdN (r26.o.toNat:Int) (r26.n.toNat:Int) r26.bad r26.l):RdR) fun r27=>
 chk (fits (a15.length+1) 24)<|
 k (a0,(w64 (a1+1)),(r27.o.toNat:Int),(r27.n.toNat:Int),r27.bad,r27.l,a6,a7,a8,a9,a10,a11,a12,a13,a14,(a15++([.r [.n r25.v,.n r26.v,.n r27.v]])))
 else
 some (Uns.enc (a9:cE)++Uns.enc (a10:cz)++[.i a11,.i (a2.toNat:Int),.i (a3.toNat:Int),.b a4,.l a5,.d a14,.d a15])
def CJ (m:Nat):Nat->LR->OU0:=aX (EK m)
theorem A9 (m:Nat) (n:Nat):CJ m (n+1)=EK m (CJ m n):=rfl
def Ru (F:LR->OU0):aQ:=⟨[.lp [0,1,0,1,1,1,1,1],.blk 6,.code [1,1,1,1,1,1]],⟨frm 92 [(0,.ptr 0 0 0),(2,.ptr 2 0 0),(3,.ptr 3 0 0),(73,.z0),(74,.z0)],[.cells [.sl 1 1,.bool],.ints .i64,.cells [.bool,.z0,.z0,.z0,.z0,.z0,.z0,.z0,.z0,.z0,.z0,.buf 4 4,.z0,.z0,.z0,.z0,.z0,.buf 5 3,.z0],.cells [.bool,.z0,.z0,.z0,.z0,.z0,.z0,.z0,.z0,.z0,.z0,.buf 6 4,.z0,.z0,.z0,.z0,.z0,.buf 7 3,.z0],.ab (sI 4),.ab (sI 3),.ab (sI 4),.ab (sI 3)],0⟩,onU F⟩
def EL (m:Nat) (k:MB->OU0):MB->OU0:=fun(a0,a1,a2,a3,a4,a5,a6,a7,a8,a9,a10,a11,a12,a13,a14,a15)=>
 bif decide (a1<a0)then
 chk (decide ((a2.toNat:Int).toNat+(a3.toNat:Int).toNat<=a5.length))<|
 bd ((rdN (a2.toNat:Int) (a3.toNat:Int) a4 a5):RdR) fun r19=>
 chk (decide ((r19.o.toNat:Int).toNat+(r19.n.toNat:Int).toNat<=r19.l.length))<|
 bd ((rdN (r19.o.toNat:Int) (r19.n.toNat:Int) r19.bad r19.l):RdR) fun r20=>
 chk (decide ((r20.o.toNat:Int).toNat+(r20.n.toNat:Int).toNat<=r20.l.length))<|
 bd ((rdN (r20.o.toNat:Int) (r20.n.toNat:Int) r20.bad r20.l):RdR) fun r21=>
 chk (decide ((r21.o.toNat:Int).toNat+(r21.n.toNat:Int).toNat<=r21.l.length))<|
 bd ((rdN (r21.o.toNat:Int) (r21.n.toNat:Int) r21.bad r21.l):RdR) fun r22=>
 chk (fits (a14.length+1) 32)<|
 k (a0,(w64 (a1+1)),(r22.o.toNat:Int),(r22.n.toNat:Int),r22.bad,r22.l,a6,a7,a8,a9,a10,a11,a12,a13,(a14++([.r [.n r19.v,.n r20.v,.n r21.v,.n r22.v]])),a15)
 else
 chk (decide ((a2.toNat:Int).toNat+(a3.toNat:Int).toNat<=a5.length))<|
 bd ((rdM (a2.toNat:Int) (a3.toNat:Int) a4 a5 8):RdR) fun r24=>
 CJ m m (r24.v,0,(r24.o.toNat:Int),(r24.n.toNat:Int),r24.bad,r24.l,a6,a7,a8,a9,a10,a11,a12,a13,a14,a15)
def CS (m:Nat):Nat->MB->OU0:=aX (EL m)
theorem Bj (m:Nat) (n:Nat):CS m (n+1)=EL m (CS m n):=rfl
def Sz (F:MB->OU0):aQ:=⟨[.lp [0,1,0,1,1,1,1],.blk 2,.code [1,1,1,1,1]],⟨frm 92 [(0,.ptr 0 0 0),(2,.ptr 2 0 0),(3,.ptr 3 0 0),(47,.z0),(48,.z0)],[.cells [.sl 1 1,.bool],.ints .i64,.cells [.bool,.z0,.z0,.z0,.z0,.z0,.z0,.z0,.z0,.z0,.z0,.buf 4 4,.z0,.z0,.z0,.z0,.z0,.buf 5 3,.z0],.cells [.bool,.z0,.z0,.z0,.z0,.z0,.z0,.z0,.z0,.z0,.z0,.buf 6 4,.z0,.z0,.z0,.z0,.z0,.buf 7 3,.z0],.ab (sI 4),.ab (sI 3),.ab (sI 4),.ab (sI 3)],0⟩,onU F⟩
theorem abr (m:Nat):∀n,HO N59 (Ru (CJ m n)):=an ae OG.right (fun k=>[Ru k]) (fun k h=>(aI h az)) fun k a=>by kernel_rfl
theorem acE (m:Nat):∀n,HO N59 (Sz (CS m n)):=an ae OG.right (fun k=>[Sz k,Ru (CJ m m)]) (fun k h=>(aI h (aI (abr m m) az))) fun k a=>by kernel_rfl
def t59 (m:Nat):Int × Int × Bool × LI0->OU0:=fun(a0,a1,a2,a3)=>
 chk (decide ((a0.toNat:Int).toNat+(a1.toNat:Int).toNat<=a3.length))<|
 bd ((rdM (a0.toNat:Int) (a1.toNat:Int) a2 a3 1):RdR) fun r1=>
 chk (decide ((r1.o.toNat:Int).toNat+(r1.n.toNat:Int).toNat<=r1.l.length))<|
 bd ((rdN (r1.o.toNat:Int) (r1.n.toNat:Int) r1.bad r1.l):RdR) fun r2=>
 chk (decide ((r2.o.toNat:Int).toNat+(r2.n.toNat:Int).toNat<=r2.l.length))<|
 bd ((rdN (r2.o.toNat:Int) (r2.n.toNat:Int) r2.bad r2.l):RdR) fun r3=>
 chk (decide ((r3.o.toNat:Int).toNat+(r3.n.toNat:Int).toNat<=r3.l.length))<|
 bd ((rdN (r3.o.toNat:Int) (r3.n.toNat:Int) r3.bad r3.l):RdR) fun r4=>
 chk (decide ((r4.o.toNat:Int).toNat+(r4.n.toNat:Int).toNat<=r4.l.length))<|
 bd ((rdN (r4.o.toNat:Int) (r4.n.toNat:Int) r4.bad r4.l):RdR) fun r5=>
 chk (decide ((r5.o.toNat:Int).toNat+(r5.n.toNat:Int).toNat<=r5.l.length))<|
 bd ((rdN (r5.o.toNat:Int) (r5.n.toNat:Int) r5.bad r5.l):RdR) fun r6=>
 chk (decide ((r6.o.toNat:Int).toNat+(r6.n.toNat:Int).toNat<=r6.l.length))<|
 bd ((rdN (r6.o.toNat:Int) (r6.n.toNat:Int) r6.bad r6.l):RdR) fun r7=>
 chk (decide ((r7.o.toNat:Int).toNat+(r7.n.toNat:Int).toNat<=r7.l.length))<|
 bd ((rdN (r7.o.toNat:Int) (r7.n.toNat:Int) r7.bad r7.l):RdR) fun r8=>
 chk (decide ((r8.o.toNat:Int).toNat+(r8.n.toNat:Int).toNat<=r8.l.length))<|
 bd ((rdN (r8.o.toNat:Int) (r8.n.toNat:Int) r8.bad r8.l):RdR) fun r9=>
 chk (decide ((r9.o.toNat:Int).toNat+(r9.n.toNat:Int).toNat<=r9.l.length))<|
 bd ((rdN (r9.o.toNat:Int) (r9.n.toNat:Int) r9.bad r9.l):RdR) fun r10=>
 chk (decide ((r10.o.toNat:Int).toNat+(r10.n.toNat:Int).toNat<=r10.l.length))<|
 bd ((rdN (r10.o.toNat:Int) (r10.n.toNat:Int) r10.bad r10.l):RdR) fun r11=>
 chk (decide ((r11.o.toNat:Int).toNat+(r11.n.toNat:Int).toNat<=r11.l.length))<|
 bd ((rdN (r11.o.toNat:Int) (r11.n.toNat:Int) r11.bad r11.l):RdR) fun r12=>
 chk (decide ((r12.o.toNat:Int).toNat+(r12.n.toNat:Int).toNat<=r12.l.length))<|
 bd ((rdN (r12.o.toNat:Int) (r12.n.toNat:Int) r12.bad r12.l):RdR) fun r13=>
 chk (decide ((r13.o.toNat:Int).toNat+(r13.n.toNat:Int).toNat<=r13.l.length))<|
 bd ((rdN (r13.o.toNat:Int) (r13.n.toNat:Int) r13.bad r13.l):RdR) fun r14=>
 chk (decide ((r14.o.toNat:Int).toNat+(r14.n.toNat:Int).toNat<=r14.l.length))<|
 bd ((rdN (r14.o.toNat:Int) (r14.n.toNat:Int) r14.bad r14.l):RdR) fun r15=>
 chk (decide ((r15.o.toNat:Int).toNat+(r15.n.toNat:Int).toNat<=r15.l.length))<|
 bd ((rdN (r15.o.toNat:Int) (r15.n.toNat:Int) r15.bad r15.l):RdR) fun r16=>
 chk (decide ((r16.o.toNat:Int).toNat+(r16.n.toNat:Int).toNat<=r16.l.length))<|
 bd ((rdN (r16.o.toNat:Int) (r16.n.toNat:Int) r16.bad r16.l):RdR) fun r17=>
 chk (decide ((r17.o.toNat:Int).toNat+(r17.n.toNat:Int).toNat<=r17.l.length))<|
 bd ((rdM (r17.o.toNat:Int) (r17.n.toNat:Int) r17.bad r17.l 160):RdR) fun r18=>
 CS m m (r18.v,0,(r18.o.toNat:Int),(r18.n.toNat:Int),r18.bad,r18.l,(⟨false,0,0,0,0,0,0,0,0,0,0⟩:cE),(⟨0,0,0,0,0⟩:cz),0,(⟨r1.v==1,r2.v,r3.v,r4.v,r5.v,r6.v,r7.v,r8.v,r9.v,r10.v,r11.v⟩:cE),(⟨r12.v,r13.v,r14.v,r15.v,r16.v⟩:cz),r17.v,[],[],[],[])
theorem Xm (m:Nat) (xa:cE) (xb:cz) (xn:Int) (ya:cE) (yb:cz) (yn:Int) (z1 z2 p:LD0):∀(c:Nat) (n:Nat) (k:Nat) (r:RdR) (acc:LD0),c<n->k+c<=8->acc.length<=k->RdI r->
 CJ m n (((k+c:Nat):Int),(k:Int),r.o,r.n,r.bad,r.l,xa,xb,xn,ya,yb,yn,z1,z2,p,acc)=some (Uns.enc ya++Uns.enc yb++[.i yn,.i (eV c r).2.o,.i (eV c r).2.n,.b (eV c r).2.bad,.l (eV c r).2.l,.d p,.d (acc++(eV c r).1)]):=by
 intro c
 induction c with
 |zero=>
  intro n k r acc hn hk ha hr;obtain⟨n,rfl⟩:=ah n (by omega);rw[A9];unfold EK;dsimp only;rw[ay (by omega),hr.1,hr.2.1];simp[eV]
 |succ c ih=>
  intro n k r acc hn hk ha hr;obtain⟨n,rfl⟩:=ah n (by omega);rw[A9];unfold EK;dsimp only;have h1:=bH hr;have h2:=bH h1;have h3:=bH h2;rw[aK (by omega)];dsimp only[bd];rw[hr.1,hr.2.1];refine al (zaa hr.2.2) ?_
  rw[show rdN r.o r.n r.bad r.l=nx r from rfl,h1.1,h1.2.1];refine al (zaa h1.2.2) ?_
  rw[show rdN (nx r).o (nx r).n (nx r).bad (nx r).l=nx (nx r) from rfl,h2.1,h2.2.1];refine al (zaa h2.2.2) ?_
  rw[show rdN (nx (nx r)).o (nx (nx r)).n (nx (nx r)).bad (nx (nx r)).l=nx (nx (nx r)) from rfl,h3.1,h3.2.1];rw[bD (by omega) (by omega)];have:=ih n (k+1) (nx (nx (nx r))) (acc++[.r [.n (nx r).v,.n (nx (nx r)).v,.n (nx (nx (nx r))).v]]) (by omega) (by omega) (by simp;omega) h3;have e:w64 ((k:Int)+1)=((k+1:Nat):Int):=by rw[aa (by omega) (by omega)];simp
  rw[e,show k+(c+1)=k+1+c by omega,this];simp only[eV,zaq,zaC,zas]
theorem W5 (m:Nat) (hm:9<=m) (xa:cE) (xb:cz) (xn:Int) (ya:cE) (yb:cz) (yn:Int) (z1 z2:LD0):∀(c:Nat) (n:Nat) (k:Nat) (r:RdR) (acc:LD0),c<n->k+c<=160->acc.length<=k->RdI r->
 CS m n (((k+c:Nat):Int),(k:Int),r.o,r.n,r.bad,r.l,xa,xb,xn,ya,yb,yn,z1,z2,acc,[])=
  (let p:=mR c r;let t:=mx p.2 8;let q:=eV t.v.toNat t;some (Uns.enc ya++Uns.enc yb++[.i yn,.i q.2.o,.i q.2.n,.b q.2.bad,.l q.2.l,.d (acc++p.1),.d q.1])):=by
 intro c
 induction c with
 |zero=>
  intro n k r acc hn hk ha hr;obtain⟨n,rfl⟩:=ah n (by omega);rw[Bj];unfold EL;dsimp only;rw[ay (by omega),hr.1,hr.2.1];dsimp only[bd];refine al (zaa hr.2.2) ?_
  have ht:=uC (most:=8) hr;rw[show rdM r.o r.n r.bad r.l 8=mx r 8 from rfl,ht.1,ht.2.1];have hv:0<=(mx r 8).v/\(mx r 8).v<=8:=GC (by decide);have:=Xm m xa xb xn ya yb yn z1 z2 acc (mx r 8).v.toNat m 0 (mx r 8) [] (by omega) (by omega) (by simp) ht;rw[show(((0+(mx r 8).v.toNat:Nat)):Int)=(mx r 8).v by omega]at this;simp only[mR,zaK];exact this
 |succ c ih=>
  intro n k r acc hn hk ha hr;obtain⟨n,rfl⟩:=ah n (by omega);rw[Bj];unfold EL;dsimp only;have h1:=bH hr;have h2:=bH h1;have h3:=bH h2;have h4:=bH h3;rw[aK (by omega)];dsimp only[bd];rw[hr.1,hr.2.1];refine al (zaa hr.2.2) ?_
  rw[show rdN r.o r.n r.bad r.l=nx r from rfl,h1.1,h1.2.1];refine al (zaa h1.2.2) ?_
  rw[show rdN (nx r).o (nx r).n (nx r).bad (nx r).l=nx (nx r) from rfl,h2.1,h2.2.1];refine al (zaa h2.2.2) ?_
  rw[show rdN (nx (nx r)).o (nx (nx r)).n (nx (nx r)).bad (nx (nx r)).l=nx (nx (nx r)) from rfl,h3.1,h3.2.1];refine al (zaa h3.2.2) ?_
  rw[show rdN (nx (nx (nx r))).o (nx (nx (nx r))).n (nx (nx (nx r))).bad (nx (nx (nx r))).l=nx (nx (nx (nx r))) from rfl,h4.1,h4.2.1];rw[bD (by omega) (by omega)];have:=ih n (k+1) (nx (nx (nx (nx r)))) (acc++[.r [.n (nx r).v,.n (nx (nx r)).v,.n (nx (nx (nx r))).v,.n (nx (nx (nx (nx r)))).v]]) (by omega) (by omega) (by simp;omega) h4;have e:w64 ((k:Int)+1)=((k+1:Nat):Int):=by rw[aa (by omega) (by omega)];simp
  rw[e,show k+(c+1)=k+1+c by omega,this];simp only[mR,zaq,zaC,zas]
theorem fm {r:RdR} (h:RdI r) {β:Type} (f:RdR->Option β):(chk (decide ((r.o.toNat:Int).toNat+(r.n.toNat:Int).toNat<=r.l.length))<|bd (rdN (r.o.toNat:Int) (r.n.toNat:Int) r.bad r.l) f)=f (nx r):=by
 rw[h.1,h.2.1];exact al (zaa h.2.2) rfl
def f59:Int × Int × Bool × LI0->Bool × List Un:=fun(a0,a1,a2,a3)=>(decide (a0.toNat+a1.toNat<=a3.length),Uns.enc (((iw a0 a1 a2 a3).ra):cE)++Uns.enc (((iw a0 a1 a2 a3).rb):cz)++[.i ((iw a0 a1 a2 a3).next),.i ((iw a0 a1 a2 a3).r.o),.i ((iw a0 a1 a2 a3).r.n),.b ((iw a0 a1 a2 a3).r.bad),.l ((iw a0 a1 a2 a3).r.l),.d ((iw a0 a1 a2 a3).bm),.d ((iw a0 a1 a2 a3).notes)])
set_option maxHeartbeats 2000000 in
theorem LG:ER 59 (mkE N59.en N59.ex f59):=ak ae OG.right (fun m=>[Sz (CS m m)]) (t:=t59) (by kernel_rfl) (fun m=>(aI (acE m m) az)) (fun m a=>by kernel_rfl) fun(a0,a1,a2,a3) hc=>by
 dsimp only[f59]at hc⊢;have hl:=zaj hc;refine⟨200, ?_⟩;unfold t59;have i1:RdI (rdM a0 a1 a2 a3 1):=PG hl;refine al (zaa hl) ?_
 rw[show bd (rdM (a0.toNat:Int) (a1.toNat:Int) a2 a3 1)=bd (rdM a0 a1 a2 a3 1) from rfl];have e1:∀{β:Type} (f:RdR->Option β),bd (rdM a0 a1 a2 a3 1) f=f (rdM a0 a1 a2 a3 1):=fun f=>rfl
 rw[e1];have i2:=bH i1;have i3:=bH i2;have i4:=bH i3;have i5:=bH i4;have i6:=bH i5;have i7:=bH i6;have i8:=bH i7;have i9:=bH i8;have i10:=bH i9;have i11:=bH i10;have i12:=bH i11;have i13:=bH i12;have i14:=bH i13;have i15:=bH i14;have i16:=bH i15;have i17:=bH i16;rw[fm i1,fm i2,fm i3,fm i4,fm i5,fm i6,fm i7,fm i8,fm i9,fm i10,fm i11,fm i12,fm i13,fm i14,fm i15,fm i16];rw[i17.1,i17.2.1];refine al (zaa i17.2.2) ?_
 dsimp only[bd];have i18:=uC (most:=160) i17;unfold iw;dsimp only;generalize nx (nx (nx (nx (nx (nx (nx (nx (nx (nx (nx (nx (nx (nx (nx (nx (rdM a0 a1 a2 a3 1))))))))))))))))=r17 at*
 rw[show rdM r17.o r17.n r17.bad r17.l 160=mx r17 160 from rfl,i18.1,i18.2.1];have hv:0<=(mx r17 160).v/\(mx r17 160).v<=160:=GC (by decide);have:=W5 200 (by decide) (⟨false,0,0,0,0,0,0,0,0,0,0⟩:cE) (⟨0,0,0,0,0⟩:cz) 0 (Hl (rdM a0 a1 a2 a3 1) r17).1 (Hl (rdM a0 a1 a2 a3 1) r17).2.1 (Hl (rdM a0 a1 a2 a3 1) r17).2.2 [] [] (mx r17 160).v.toNat 200 0 (mx r17 160) [] (by omega) (by omega) (by simp) i18;rw[show(((0+(mx r17 160).v.toNat:Nat)):Int)=(mx r17 160).v by omega]at this;exact this
def T59:TB:=OG.ad LG
def aeQ:K5->List Un:=fun r=>Uns.enc (r.ra:cE)++Uns.enc (r.rb:cz)++[.i r.next,.i r.r.o,.i r.r.n,.b r.r.bad,.l r.r.l,.d r.bm,.d r.notes]
def aep:Int × Int × Bool × LI0->Bool × K5:=fun(a0,a1,a2,a3)=>(decide (a0.toNat+a1.toNat<=a3.length),(iw a0 a1 a2 a3))
theorem OD:ER 59 (mkB N59.en N59.ex aep aeQ):=rebind LG fun(a0,a1,a2,a3)=>rfl
def Rf:TB:=T59.ad OD
theorem Gv {α:Type} {c d:Bool} {F Y:α}:(bif c then(bif !d then F else Y)else F)=bif c&&d then Y else F:=by cases c<;>cases d<;>rfl
theorem cond_not {α:Type} {d:Bool} {F Y:α}:(bif !d then F else Y)=bif d then Y else F:=by cases d<;>rfl
def z8 (d:Dat):Bool:=decide (d.i 0>=0)&&(decide (d.i 0<=15)&&(decide (d.i 1>=1)&&(decide (d.i 1<=7)&&(decide (d.i 2>= -1)&&(decide (d.i 2<=7)&&(decide (d.i 3>=1)&&decide (d.i 3<=1152921504606846976)))))))
def v8 (d:Dat):Bool:=([d.i 0,d.i 1,d.i 2]:LI0).all EV
def y5 (ra:cE) (rb:cz):LI0:=[ra.ar,ra.fU,ra.aP,ra.ba,ra.draw,ra.advance,ra.fee,ra.due,rb.eI,rb.aN,rb.bq,rb.out,rb.xy]
def fA (ra:cE) (bm:LD0) (rb:cz) (notes:LD0) (next:Int):Bool:=
 decide (ra.period>=0)&&(decide (ra.period<=600)&&(decide (ra.mode>=0)&&(decide (ra.mode<=2)&&(decide (next>=0)&&(decide (next<=2)&&((y5 ra rb).all EV&&(decide ((bm.length:Int)<=160)&&(decide ((notes.length:Int)<=8)&&(bm.all z8&&notes.all v8)))))))))
def N61:aA:=⟨Rf.tab,61,⟨[.agg [.bool,.z0,.z0,.z0,.z0,.z0,.z0,.z0,.z0,.z0,.z0,.ab (sI 4),.z0,.z0,.z0,.z0,.z0,.ab (sI 3),.z0]],[],0⟩,⟨[.bool],[],0⟩,[]⟩
abbrev KY:Type:=LD0 × Int × Int
abbrev Lu:Type:=LD0 × Int × Int × cE × LD0 × cz × LD0 × Int
def DG (m:Nat) (k:KY->OU0):KY->OU0:=fun(a0,a1,a2)=>
 bif decide (a2<a1)then
 chk (inb a2 a0.length)<|
 chk (decide (a2.toNat<a0.length))<|
 lt (ai a0 a2.toNat:Dat) fun d8=>
 chk (decide (([(d8.i 0),(d8.i 1),(d8.i 2)]:LI0).length<=1000000))<|
 bif !(([(d8.i 0),(d8.i 1),(d8.i 2)]:LI0).all EV)then
 some ([.b false])
 else
 k (a0,a1,(w64 (a2+1)))
 else
 some ([.b true])
def Ck (m:Nat):Nat->KY->OU0:=aX (DG m)
theorem AH (m:Nat) (n:Nat):Ck m (n+1)=DG m (Ck m n):=rfl
def Qx (F:KY->OU0):aQ:=⟨[.lp [0,1,0,1,1,1],.blk 2,.code [1,1,1,1]],⟨frm 82 [(72,.ab (sI 3)),(73,.z0),(74,.z0)],[],0⟩,onU F⟩
def FG (m:Nat) (k:Lu->OU0):Lu->OU0:=fun(a0,a1,a2,a3,a4,a5,a6,a7)=>
 bif decide (a2<a1)then
 chk (inb a2 a0.length)<|
 chk (decide (a2.toNat<a0.length))<|
 lt (ai a0 a2.toNat:Dat) fun d5=>
 bif decide ((d5.i 0)>=0)then
 bif !(decide ((d5.i 0)<=15))then
 some ([.b false])
 else
 bif decide ((d5.i 1)>=1)then
 bif !(decide ((d5.i 1)<=7))then
 some ([.b false])
 else
 bif (decide ((d5.i 2)>=(-1)))then
 bif !(decide ((d5.i 2)<=7))then
 some ([.b false])
 else
 bif decide ((d5.i 3)>=1)then
 bif !(decide ((d5.i 3)<=1152921504606846976))then
 some ([.b false])
 else
 k (a0,a1,(w64 (a2+1)),a3,a4,a5,a6,a7)
 else
 some ([.b false])
 else
 some ([.b false])
 else
 some ([.b false])
 else
 some ([.b false])
 else
 Ck m m (a6,(a6.length:Int),0)
def y9 (m:Nat):Nat->Lu->OU0:=aX (FG m)
theorem Bd (m:Nat) (n:Nat):y9 m (n+1)=FG m (y9 m n):=rfl
def RC (F:Lu->OU0):aQ:=⟨[.lp [0,1,0,1,1],.blk 0,.code [1,1,1]],⟨frm 82 [(1,.ptr 0 0 0),(42,.ab (sI 4)),(43,.z0),(44,.z0)],[.cells [.bool,.z0,.z0,.z0,.z0,.z0,.z0,.z0,.z0,.z0,.z0,.ab (sI 4),.z0,.z0,.z0,.z0,.z0,.ab (sI 3),.z0]],0⟩,onU F⟩
theorem aa1 (m:Nat):∀n,HO N61 (Qx (Ck m n)):=an ae Rf.right (fun k=>[Qx k]) (fun k h=>(aI h az)) fun k a=>by kernel_rfl
theorem acp (m:Nat):∀n,HO N61 (RC (y9 m n)):=an ae Rf.right (fun k=>[RC k,Qx (Ck m m)]) (fun k h=>(aI h (aI (aa1 m m) az))) fun k a=>by kernel_rfl
def t61 (m:Nat):cE × LD0 × cz × LD0 × Int->OU0:=fun(a0,a1,a2,a3,a4)=>
 bif decide (a0.period>=0)then
 bif !(decide (a0.period<=600))then
 some ([.b false])
 else
 bif decide (a0.mode>=0)then
 bif !(decide (a0.mode<=2))then
 some ([.b false])
 else
 bif decide (a4>=0)then
 bif !(decide (a4<=2))then
 some ([.b false])
 else
 chk (decide (([a0.ar,a0.fU,a0.aP,a0.ba,a0.draw,a0.advance,a0.fee,a0.due,a2.eI,a2.aN,a2.bq,a2.out,a2.xy]:LI0).length<=1000000))<|
 bif !(([a0.ar,a0.fU,a0.aP,a0.ba,a0.draw,a0.advance,a0.fee,a0.due,a2.eI,a2.aN,a2.bq,a2.out,a2.xy]:LI0).all EV)then
 some ([.b false])
 else
 bif (decide ((a1.length:Int)>160))then
 some ([.b false])
 else
 bif (decide ((a3.length:Int)>8))then
 some ([.b false])
 else
 y9 m m (a1,(a1.length:Int),0,a0,a1,a2,a3,a4)
 else
 some ([.b false])
 else
 some ([.b false])
 else
 some ([.b false])
theorem TP (m:Nat):∀(rest pre:LD0) (n:Nat),rest.length<n->(pre++rest).length<=1000000->Ck m n (pre++rest,((pre++rest).length:Int),(pre.length:Int))=some [.b (rest.all v8)]:=by
 intro rest
 induction rest with
 |nil=>
  intro pre n hn hl;obtain⟨n,rfl⟩:=ah n (by simp at hn;omega);rw[AH];unfold DG;dsimp only;rw[ay (by simp)];rfl
 |cons x rest ih=>
  intro pre n hn hl;obtain⟨n,rfl⟩:=ah n (by simp at hn;omega);simp only[zac,zab]at hn hl;rw[AH];unfold DG;dsimp only;rw[aK (by simp only[zab,zac];omega),bQ (by omega) (by simp only[zab,zac];omega),aJ (by simp)];have hx:ai (pre++x::rest) (pre.length:Int).toNat=x:=by simp[ai]
  have:=ih (pre++[x]) n (by omega) (by simp;omega);have e:w64 ((pre.length:Int)+1)=((pre++[x]).length:Int):=by
   rw[aa (by omega) (by omega)];simp
  have e3:pre++x::rest=(pre++[x])++rest:=by simp
  rw[hx];dsimp only[lt];refine al rfl ?_
  rw[cond_not,e,e3,this,qI];simp only[List.all_cons,v8]
theorem Wf (m:Nat) (ra:cE) (xp:LD0) (rb:cz) (notes:LD0) (xn:Int) (hm:notes.length<m) (hn9:notes.length<=1000000):∀(rest pre:LD0) (n:Nat),rest.length<n->(pre++rest).length<=1000000->y9 m n (pre++rest,((pre++rest).length:Int),(pre.length:Int),ra,xp,rb,notes,xn)=some [.b (rest.all z8&&notes.all v8)]:=by
 intro rest
 induction rest with
 |nil=>
  intro pre n hn hl;obtain⟨n,rfl⟩:=ah n (by simp at hn;omega);rw[Bd];unfold FG;dsimp only;rw[ay (by simp)];exact TP m notes [] m hm hn9
 |cons x rest ih=>
  intro pre n hn hl;obtain⟨n,rfl⟩:=ah n (by simp at hn;omega);simp only[zac,zab]at hn hl;rw[Bd];unfold FG;dsimp only;rw[aK (by simp only[zab,zac];omega),bQ (by omega) (by simp only[zab,zac];omega),aJ (by simp)];have hx:ai (pre++x::rest) (pre.length:Int).toNat=x:=by simp[ai]
  have:=ih (pre++[x]) n (by omega) (by simp;omega);have e:w64 ((pre.length:Int)+1)=((pre++[x]).length:Int):=by
   rw[aa (by omega) (by omega)];simp
  have e3:pre++x::rest=(pre++[x])++rest:=by simp
  rw[hx];dsimp only[lt];rw[e,e3,this];simp only[Gv,qI,List.all_cons,z8,Bool.and_assoc]
def f61:cE × LD0 × cz × LD0 × Int->Bool × List Un:=fun(a0,a1,a2,a3,a4)=>(decide (a1.length<=1000000)&&decide (a3.length<=1000000),[.b ((fA a0 a1 a2 a3 a4))])
theorem U9:ER 61 (mkE N61.en N61.ex f61):=ak ae Rf.right (fun m=>[RC (y9 m m)]) (t:=t61) (by kernel_rfl) (fun m=>(aI (acp m m) az)) (fun m a=>by kernel_rfl) fun(a0,a1,a2,a3,a4) hc=>by
 dsimp only[f61]at hc⊢;have hc':=hc;simp only[zae,zag]at hc';obtain⟨h1,h2⟩:=hc';refine⟨a1.length+a3.length+1, ?_⟩;have this:y9 (a1.length+a3.length+1) (a1.length+a3.length+1) (a1,(a1.length:Int),0,a0,a1,a2,a3,a4)=some [.b (a1.all z8&&a3.all v8)]:=Wf (a1.length+a3.length+1) a0 a1 a2 a3 a4 (by omega) h2 a1 [] (a1.length+a3.length+1) (by omega) (by simpa using h1);unfold t61;dsimp only;rw[this];simp only[Gv,cond_not,DO];rw[show(decide (([a0.ar,a0.fU,a0.aP,a0.ba,a0.draw,a0.advance,a0.fee,a0.due,a2.eI,a2.aN,a2.bq,a2.out,a2.xy]:LI0).length<=1000000))=true from rfl];simp only[chk,zaw,qI,fA,y5,Bool.and_assoc]
def T61:TB:=Rf.ad U9
def eY (d:Dat):LI0:=[d.i 0,d.i 1,d.i 2,d.i 3]
def kW (d:Dat):LI0:=[d.i 0,d.i 1,d.i 2]
def mO (ra:cE) (bm:LD0) (rb:cz) (next:Int):LI0:=[bI ra.call,ra.period,ra.mode,ra.ar,ra.fU,ra.aP,ra.ba,ra.draw,ra.advance,ra.fee,ra.due,rb.eI,rb.aN,rb.bq,rb.out,rb.xy,next,(bm.length:Int)]
def nz (ra:cE) (bm:LD0) (rb:cz) (notes:LD0) (next:Int):LI0:=mO ra bm rb next++(bm.flatMap eY++((notes.length:Int)::notes.flatMap kW))
def jf (ra:cE) (bm:LD0) (rb:cz) (notes:LD0) (next:Int):LI0:=bif fA ra bm rb notes next then cO (nz ra bm rb notes next)else[]
def N99:aA:=⟨T61.tab,99,⟨[.agg [.bool,.z0,.z0,.z0,.z0,.z0,.z0,.z0,.z0,.z0,.z0,.ab (sI 4),.z0,.z0,.z0,.z0,.z0,.ab (sI 3),.z0]],[],0⟩,⟨[.buf 0 1],[.ints .u8],0⟩,[]⟩
abbrev K6:Type:=LD0 × Int × Int × LI0
abbrev MI:Type:=LD0 × Int × Int × cE × LD0 × cz × LD0 × Int × LI0
def Ed (m:Nat) (k:K6->OU0):K6->OU0:=fun(a0,a1,a2,a3)=>
 bif decide (a2<a1)then
 chk (inb a2 a0.length)<|
 chk (decide (a2.toNat<a0.length))<|
 lt (ai a0 a2.toNat:Dat) fun d4=>
 chk (fits (a3.length+3) 8)<|
 k (a0,a1,(w64 (a2+1)),(a3++([(d4.i 0),(d4.i 1),(d4.i 2)])))
 else
 chk (decide (a3.length<=1000000))<|
 some ([.l (cO a3)])
def De (m:Nat):Nat->K6->OU0:=aX (Ed m)
theorem Bw (m:Nat) (n:Nat):De m (n+1)=Ed m (De m n):=rfl
def Pa (F:K6->OU0):aQ:=⟨[.lp [0,1,0,1,1,1,1,1,1,1,1],.blk 2,.code [1,1,1,1,1,1,1,1,1]],⟨frm 69 [(4,.buf 0 1),(57,.ab (sI 3)),(58,.z0),(59,.z0)],[.ints .i64],0⟩,onU F⟩
def En (m:Nat) (k:MI->OU0):MI->OU0:=fun(a0,a1,a2,a3,a4,a5,a6,a7,a8)=>
 bif decide (a2<a1)then
 chk (inb a2 a0.length)<|
 chk (decide (a2.toNat<a0.length))<|
 lt (ai a0 a2.toNat:Dat) fun d1=>
 chk (fits (a8.length+4) 8)<|
 k (a0,a1,(w64 (a2+1)),a3,a4,a5,a6,a7,(a8++([(d1.i 0),(d1.i 1),(d1.i 2),(d1.i 3)])))
 else
 chk (fits (a8.length+1) 8)<|
 De m m (a6,(a6.length:Int),0,(a8++([(a6.length:Int)])))
def w7 (m:Nat):Nat->MI->OU0:=aX (En m)
theorem zX (m:Nat) (n:Nat):w7 m (n+1)=En m (w7 m n):=rfl
def Qi (F:MI->OU0):aQ:=⟨[.lp [0,1,0,1,1,1,1,1,1],.blk 0,.code [1,1,1,1,1,1,1]],⟨frm 69 [(1,.ptr 0 0 0),(4,.buf 1 1),(32,.ab (sI 4)),(33,.z0),(34,.z0)],[.cells [.bool,.z0,.z0,.z0,.z0,.z0,.z0,.z0,.z0,.z0,.z0,.ab (sI 4),.z0,.z0,.z0,.z0,.z0,.ab (sI 3),.z0],.ints .i64],0⟩,onU F⟩
theorem ace (m:Nat):∀n,HO N99 (Pa (De m n)):=an ae T61.right (fun k=>[Pa k]) (fun k h=>(aI h az)) fun k a=>by kernel_rfl
theorem aaS (m:Nat):∀n,HO N99 (Qi (w7 m n)):=an ae T61.right (fun k=>[Qi k,Pa (De m m)]) (fun k h=>(aI h (aI (ace m m) az))) fun k a=>by kernel_rfl
def t99 (m:Nat):cE × LD0 × cz × LD0 × Int->OU0:=fun(a0,a1,a2,a3,a4)=>
 chk (decide (a1.length<=1000000)&&decide (a3.length<=1000000))<|
 bif !(fA a0 a1 a2 a3 a4)then
 some ([.l ([])])
 else
 bif a0.call then
 w7 m m (a1,(a1.length:Int),0,a0,a1,a2,a3,a4,([1,a0.period,a0.mode,a0.ar,a0.fU,a0.aP,a0.ba,a0.draw,a0.advance,a0.fee,a0.due,a2.eI,a2.aN,a2.bq,a2.out,a2.xy,a4,(a1.length:Int)]:LI0))
 else
 w7 m m (a1,(a1.length:Int),0,a0,a1,a2,a3,a4,([0,a0.period,a0.mode,a0.ar,a0.fU,a0.aP,a0.ba,a0.draw,a0.advance,a0.fee,a0.due,a2.eI,a2.aN,a2.bq,a2.out,a2.xy,a4,(a1.length:Int)]:LI0))
theorem abR (m:Nat):∀(rest pre:LD0) (acc:LI0) (n:Nat),rest.length<n->(pre++rest).length<=8->acc.length+3*rest.length<=1000->De m n (pre++rest,((pre++rest).length:Int),(pre.length:Int),acc)=some [.l (cO (acc++rest.flatMap kW))]:=by
 intro rest
 induction rest with
 |nil=>
  intro pre acc n hn hl ha;obtain⟨n,rfl⟩:=ah n (by simp at hn;omega);rw[Bw];unfold Ed;dsimp only;rw[ay (by simp)];refine(al (zaa (by simp at ha;omega)) rfl).trans ?_
  simp
 |cons x rest ih=>
  intro pre acc n hn hl ha;obtain⟨n,rfl⟩:=ah n (by simp at hn;omega);simp only[zac,zab]at hn hl ha;rw[Bw];unfold Ed;dsimp only;rw[aK (by simp only[zab,zac];omega),bQ (by omega) (by simp only[zab,zac];omega),aJ (by simp)];have hx:ai (pre++x::rest) (pre.length:Int).toNat=x:=by simp[ai]
  have:=ih (pre++[x]) (acc++kW x) n (by omega) (by simp;omega) (by simp[kW];omega);have e:w64 ((pre.length:Int)+1)=((pre++[x]).length:Int):=by
   rw[aa (by omega) (by omega)];simp
  have e3:pre++x::rest=(pre++[x])++rest:=by simp
  rw[hx];dsimp only[lt];rw[bD (by omega) (by omega),e,e3];refine Eq.trans this ?_
  simp
theorem abW (m:Nat) (ra:cE) (xp:LD0) (rb:cz) (notes:LD0) (xn:Int) (hm:notes.length<m) (h8:notes.length<=8):∀(rest pre:LD0) (acc:LI0) (n:Nat),rest.length<n->(pre++rest).length<=160->acc.length+4*rest.length<=700->w7 m n (pre++rest,((pre++rest).length:Int),(pre.length:Int),ra,xp,rb,notes,xn,acc)=some [.l (cO (acc++(rest.flatMap eY++((notes.length:Int)::notes.flatMap kW))))]:=by
 intro rest
 induction rest with
 |nil=>
  intro pre acc n hn hl ha;obtain⟨n,rfl⟩:=ah n (by simp at hn;omega);rw[zX];unfold En;dsimp only;rw[ay (by simp)];simp only[zar]at ha;rw[bD (by omega) (by omega)];have:=abR m notes [] (acc++[(notes.length:Int)]) m hm (by simpa using h8) (by simp;omega);refine Eq.trans this ?_
  simp
 |cons x rest ih=>
  intro pre acc n hn hl ha;obtain⟨n,rfl⟩:=ah n (by simp at hn;omega);simp only[zac,zab]at hn hl ha;rw[zX];unfold En;dsimp only;rw[aK (by simp only[zab,zac];omega),bQ (by omega) (by simp only[zab,zac];omega),aJ (by simp)];have hx:ai (pre++x::rest) (pre.length:Int).toNat=x:=by simp[ai]
  have:=ih (pre++[x]) (acc++eY x) n (by omega) (by simp;omega) (by simp[eY];omega);have e:w64 ((pre.length:Int)+1)=((pre++[x]).length:Int):=by
   rw[aa (by omega) (by omega)];simp
  have e3:pre++x::rest=(pre++[x])++rest:=by simp
  rw[hx];dsimp only[lt];rw[bD (by omega) (by omega),e,e3];refine Eq.trans this ?_
  simp
def f99:cE × LD0 × cz × LD0 × Int->Bool × List Un:=fun(a0,a1,a2,a3,a4)=>(decide (a1.length<=1000000)&&decide (a3.length<=1000000),[.l (jf a0 a1 a2 a3 a4)])
theorem Ue:ER 99 (mkE N99.en N99.ex f99):=ak ae T61.right (fun m=>[Qi (w7 m m)]) (t:=t99) (by kernel_rfl) (fun m=>(aI (aaS m m) az)) (fun m a=>by kernel_rfl) fun(a0,a1,a2,a3,a4) hc=>by
 dsimp only[f99]at hc⊢;refine⟨200, ?_⟩;unfold t99 jf;refine al hc ?_
 cases hr:fA a0 a1 a2 a3 a4 with
 |false=>rfl
 |true=>
  have hb:a1.length<=160/\a3.length<=8:=by
   unfold fA at hr;simp only[zae,zag]at hr;omega
  have key:∀c:Int,w7 200 200 (a1,(a1.length:Int),0,a0,a1,a2,a3,a4,([c,a0.period,a0.mode,a0.ar,a0.fU,a0.aP,a0.ba,a0.draw,a0.advance,a0.fee,a0.due,a2.eI,a2.aN,a2.bq,a2.out,a2.xy,a4,(a1.length:Int)]:LI0))=some [.l (cO (([c,a0.period,a0.mode,a0.ar,a0.fU,a0.aP,a0.ba,a0.draw,a0.advance,a0.fee,a0.due,a2.eI,a2.aN,a2.bq,a2.out,a2.xy,a4,(a1.length:Int)]:LI0)++(a1.flatMap eY++((a3.length:Int)::a3.flatMap kW))))]:=fun c=>
   abW 200 a0 a1 a2 a3 a4 (by omega) hb.2 a1 [] _ 200 (by omega) (by simpa using hb.1) (by simp;omega)
  refine ck rfl ?_
  unfold nz mO;cases MR:a0.call with
  |true=>exact key 1
  |false=>exact key 0
def T99:TB:=T61.ad Ue
structure M5 where
 ra:cE
 rb:cz
 next:Int
 ok:Bool
 bm:List Dat
 notes:List Dat
def Qv:M5:=⟨⟨false,0,0,0,0,0,0,0,0,0,0⟩,⟨0,0,0,0,0⟩,0,false,[],[]⟩
def yt (l:LI0):M5:=
 let r:=iw 0 (l.length:Int) false l
 bif !r.r.bad&&r.r.n==0 then(bif fA r.ra r.bm r.rb r.notes r.next then⟨r.ra,r.rb,r.next,true,r.bm,r.notes⟩else Qv)else Qv
def ij (xs:LI0):M5:=bif xs.length%8==0 then yt (bW xs)else Qv
def N19:aA:=⟨T99.tab,19,⟨[.ints .u8],[],0⟩,⟨[.agg [.bool,.z0,.z0,.z0,.z0,.z0,.z0,.z0,.z0,.z0,.z0,.buf 0 4,.z0,.z0,.z0,.z0,.z0,.buf 1 3,.z0],.bool],[.ab (sI 4),.ab (sI 3)],0⟩,[]⟩
def t19 (m:Nat):LI0->OU0:=fun a0=>
 chk (decide (a0.length<=140737488351232))<|
 bif !(a0.length%8==0)then
 some (Uns.enc ((⟨false,0,0,0,0,0,0,0,0,0,0⟩:cE):cE)++Uns.enc ((⟨0,0,0,0,0⟩:cz):cz)++[.i 0,.b false,.d ([]),.d ([])])
 else
 chk (decide ((ft a0).length<1000000))<|
 lt (((ft a0).length:Int):Int) fun x1=>
 chk (decide ((0:Int).toNat+(x1.toNat:Int).toNat<=(ft a0).length))<|
 bd ((iw 0 (x1.toNat:Int) false (ft a0)):K5) fun r2=>
 bif !(!r2.r.bad&&((r2.r.n.toNat:Int).toNat:Int)==0)then
 some (Uns.enc ((⟨false,0,0,0,0,0,0,0,0,0,0⟩:cE):cE)++Uns.enc ((⟨0,0,0,0,0⟩:cz):cz)++[.i 0,.b false,.d ([]),.d ([])])
 else
 chk (decide (r2.bm.length<=1000000)&&decide (r2.notes.length<=1000000))<|
 bif !(fA r2.ra r2.bm r2.rb r2.notes r2.next)then
 some (Uns.enc ((⟨false,0,0,0,0,0,0,0,0,0,0⟩:cE):cE)++Uns.enc ((⟨0,0,0,0,0⟩:cz):cz)++[.i 0,.b false,.d ([]),.d ([])])
 else
 some (Uns.enc (r2.ra:cE)++Uns.enc (r2.rb:cz)++[.i r2.next,.b true,.d r2.bm,.d r2.notes])
theorem qR (xs:LI0):(bW xs).length=xs.length/8:=by simp[bW]
theorem Cr:∀(k:Nat) (r:RdR),(mR k r).1.length=k
 |0,r=>rfl
 |k+1,r=>by simp only[mR,zac,Cr k]
theorem CL:∀(k:Nat) (r:RdR),(eV k r).1.length=k
 |0,r=>rfl
 |k+1,r=>by simp only[eV,zac,CL k]
theorem TH {o n:Int} {b:Bool} {l:LI0} (h:o.toNat+n.toNat<=l.length):RdI (iw o n b l).r/\(iw o n b l).bm.length<=160/\(iw o n b l).notes.length<=8:=by
 have i1:RdI (rdM o n b l 1):=PG h;have i17:=bH (bH (bH (bH (bH (bH (bH (bH (bH (bH (bH (bH (bH (bH (bH (bH i1)))))))))))))));have i18:=uC (most:=160) i17;unfold iw;dsimp only;generalize nx (nx (nx (nx (nx (nx (nx (nx (nx (nx (nx (nx (nx (nx (nx (nx (rdM o n b l 1))))))))))))))))=r17 at*
 have hv:0<=(mx r17 160).v/\(mx r17 160).v<=160:=GC (by decide);have iP:=Me (mx r17 160).v.toNat i18;have i24:=uC (most:=8) iP;have hw:0<=(mx (mR (mx r17 160).v.toNat (mx r17 160)).2 8).v/\(mx (mR (mx r17 160).v.toNat (mx r17 160)).2 8).v<=8:=GC (by decide);refine⟨DP _ i24, ?_, ?_⟩
 . rw[Cr];omega
 . rw[CL];omega
def f19:LI0->Bool × List Un:=fun a0=>(decide (a0.length<=1000000),Uns.enc (((ij a0).ra):cE)++Uns.enc (((ij a0).rb):cz)++[.i ((ij a0).next),.b ((ij a0).ok),.d ((ij a0).bm),.d ((ij a0).notes)])
theorem Lr:ER 19 (mkE N19.en N19.ex f19):=ak ae T99.right (fun m=>[]) (t:=t19) (by kernel_rfl) (fun m=>az) (fun m a=>by kernel_rfl) fun a0 hc=>by
 dsimp only[f19]at hc⊢;have hl:=zaj hc;refine⟨0, ?_⟩;unfold t19 ij;refine al (zaa (by omega)) ?_
 cases h8:(a0.length%8==0)with
 |false=>rfl
 |true=>
  have e:ft a0=bW a0:=by unfold ft;rw[h8];rfl
  rw[e];have hw:=qR a0;refine ck rfl (al (zaa (by omega)) ?_);dsimp only[lt,bd];refine al (zaa (by simp)) ?_
  rw[show(((bW a0).length:Int).toNat:Int)=((bW a0).length:Int) from rfl];obtain⟨hI,hp,hn⟩:=TH (o:=0) (n:=((bW a0).length:Int)) (b:=false) (l:=bW a0) (by simp);rw[zaw];unfold yt;dsimp only;generalize iw 0 ((bW a0).length:Int) false (bW a0)=r at*
  rw[show((r.r.n.toNat:Int).toNat:Int)=r.r.n from hI.2.1];cases hb:(!r.r.bad&&r.r.n==0)with
  |false=>rfl
  |true=>
   refine ck rfl (al (zaG.2 ⟨zaa (by omega),zaa (by omega)⟩) ?_);cases hr:fA r.ra r.bm r.rb r.notes r.next with
   |false=>rfl
   |true=>rfl
def T19:TB:=T99.ad Lr
def aeY:M5->List Un:=fun r=>Uns.enc (r.ra:cE)++Uns.enc (r.rb:cz)++[.i r.next,.b r.ok,.d r.bm,.d r.notes]
def afa:LI0->Bool × M5:=fun a0=>(decide (a0.length<=1000000),(ij a0))
theorem Pe:ER 19 (mkB N19.en N19.ex afa aeY):=rebind Lr fun a0=>rfl
def afe:TB:=T19.ad Pe
theorem MP (a c:Nat) (h:c<256):(256*a)|||c=256*a+c:=by
 have:=Nat.two_pow_add_eq_or_of_lt (i:=8) (b:=c) (by simpa using h) a;simpa using this.symm
theorem qj (n c:Int) (h0:0<=c) (h1:c<256):Iw.stp n c=RowKit.wrap64 (n*256+c):=by
 unfold Iw.stp Go.bits;simp only[RowKit.wrap64];rw[IntKind.wrap_i64,BitVec.toNat_or,zbB,zbB];rw[show((2^IntKind.i64.bits:Nat):Int)=18446744073709551616 from rfl];have e1:(((n*256+9223372036854775808)%18446744073709551616-9223372036854775808)%18446744073709551616).toNat=256*(n%72057594037927936).toNat:=by omega
 have e2:(((c+9223372036854775808)%18446744073709551616-9223372036854775808)%18446744073709551616).toNat=c.toNat:=by omega
 rw[e1,e2,MP _ _ (by omega)];omega
theorem Rq {n:Int} (h: -9223372036854775808<=n/\n<=9223372036854775807) (f:Nat->Int) (hf:∀i,i<8->f i=(qu n).getD i 0):Iw.val f 8=n:=by
 have b0:=hf 0 (by decide);have b1:=hf 1 (by decide);have b2:=hf 2 (by decide);have b3:=hf 3 (by decide);have b4:=hf 4 (by decide);have b5:=hf 5 (by decide);have b6:=hf 6 (by decide);have b7:=hf 7 (by decide);simp only[qu,zaO,zaE]at b0 b1 b2 b3 b4 b5 b6 b7;have u8:∀x:Int,wu8 x=x%256:=fun x=>by show IntKind.u8.wrap x=_;simp[IntKind.wrap,IntKind.bits,IntKind.signed]
 rw[u8]at b0 b1 b2 b3 b4 b5 b6 b7;have fd:∀(x k:Int),0<k->Int.fdiv x k=x/k:=fun x k hk=>Int.fdiv_eq_ediv_of_nonneg _ (by omega)
 rw[fd _ _ (by decide)]at b0 b1 b2 b3 b4 b5 b6 b7;simp only[Iw.val,b0,b1,b2,b3,b4,b5,b6,b7];rw[qj _ _ (by omega) (by omega),qj _ _ (by omega) (by omega),qj _ _ (by omega) (by omega),qj _ _ (by omega) (by omega),qj _ _ (by omega) (by omega),qj _ _ (by omega) (by omega),qj _ _ (by omega) (by omega),qj _ _ (by omega) (by omega)];simp only[RowKit.wrap64];omega
theorem qQ (n:Int):(qu n).length=8:=rfl
theorem gy (l:LI0):(cO l).length=8*l.length:=by
 induction l with
 |nil=>rfl
 |cons x l ih=>simp only[cO,zaX,zab,qQ,zac]at ih⊢;omega
theorem Cx:∀(l:LI0) (k i:Nat),k<l.length->i<8->(cO l).getD (k*8+i) 0=(qu (l.getD k 0)).getD i 0
 |[],k,i,h,_=>by simp at h
 |x::l,0,i,_,hi=>by
  simp only[cO,zaX,zb9,zaF,zaf,zbu,zbD];rw[zax (by rw[qQ];exact hi)]
 |x::l,k+1,i,h,hi=>by
  have:=Cx l k i (by simpa using h) hi;simp only[cO,zaX,zaE,zaf]at this⊢;rw[zaJ (by rw[qQ];omega),qQ,show(k+1)*8+i-8=k*8+i by omega];exact this
theorem vl {l:LI0} (h:∀n∈l,-9223372036854775808<=n/\n<=9223372036854775807):bW (cO l)=l:=by
 have hl:(cO l).length/8=l.length:=by rw[gy];omega
 apply List.ext_getElem
 . rw[qR,hl]
 . intro k h1 h2;have e0:(bW (cO l))[k]=Iw.val (fun i=>(cO l).getD (k*8+i) 0) 8:=by simp[bW]
   rw[e0];have e:=Rq (h l[k] (zbw h2)) (fun i=>(cO l).getD (k*8+i) 0) (fun i hi=>by
    show(cO l).getD (k*8+i) 0=_;rw[Cx l k i h2 hi];simp[h2])
   exact e
def rdS (l:LI0) (k:Nat) (v:Int):RdR:=⟨v,(k:Int),((l.length-k:Nat):Int),false,l⟩
theorem An {l:LI0} {k:Nat} (v:Int) (h:k<l.length):nx (rdS l k v)=rdS l (k+1) (l.getD k 0):=by
 unfold nx rdN rdS;have e:(((((l.length-k:Nat):Int).toNat:Nat):Int)==0)=false:=by
  rw[zbU];simp;omega
 rw[zcj,e,zal];simp only[zat];rw[show l.length-k-1=l.length-(k+1) by omega]
theorem UM {l:LI0} {k:Nat} (v most:Int) (h:k<l.length) (h0:0<=l.getD k 0) (h1:l.getD k 0<=most):mx (rdS l k v) most=rdS l (k+1) (l.getD k 0):=by
 have:=An v h;unfold nx at this;unfold mx rdM;dsimp only;rw[this];rw[show(rdS l (k+1) (l.getD k 0)).v=l.getD k 0 from rfl,zao (show ¬l.getD k 0<0 by omega),zao (show ¬l.getD k 0>most by omega)];rfl
def nrP (d:Dat):Dat:= .r [.n (d.i 0),.n (d.i 1),.n (d.i 2),.n (d.i 3)]
def nrN (d:Dat):Dat:= .r [.n (d.i 0),.n (d.i 1),.n (d.i 2)]
theorem bu (A:LI0) (x:Int) (B:LI0):(A++x::B).getD A.length 0=x:=by simp
theorem Lx (l:LI0):∀(bm:LD0) (A B:LI0) (v:Int),l=A++(bm.flatMap eY++B)->∃v',mR bm.length (rdS l A.length v)=(bm.map nrP,rdS l (A.length+4*bm.length) v')
 |[],A,B,v,_=>⟨v,rfl⟩
 |d::bm,A,B,v,h=>by
  have hl:l=A++(d.i 0::d.i 1::d.i 2::d.i 3::(bm.flatMap eY++B)):=by rw[h];simp[eY]
  have hlen:l.length=A.length+4+(bm.flatMap eY++B).length:=by rw[hl];simp only[zab,zac];omega
  have g0:l.getD A.length 0=d.i 0:=by rw[hl];exact bu _ _ _
  have g1:l.getD (A.length+1) 0=d.i 1:=by
   rw[hl,show A++(d.i 0::d.i 1::d.i 2::d.i 3::(bm.flatMap eY++B))=(A++[d.i 0])++(d.i 1::d.i 2::d.i 3::(bm.flatMap eY++B)) by simp];rw[show A.length+1=(A++[d.i 0]).length by simp];exact bu _ _ _
  have g2:l.getD (A.length+1+1) 0=d.i 2:=by
   rw[hl,show A++(d.i 0::d.i 1::d.i 2::d.i 3::(bm.flatMap eY++B))=(A++[d.i 0,d.i 1])++(d.i 2::d.i 3::(bm.flatMap eY++B)) by simp];rw[show A.length+1+1=(A++[d.i 0,d.i 1]).length by simp];exact bu _ _ _
  have g3:l.getD (A.length+1+1+1) 0=d.i 3:=by
   rw[hl,show A++(d.i 0::d.i 1::d.i 2::d.i 3::(bm.flatMap eY++B))=(A++[d.i 0,d.i 1,d.i 2])++(d.i 3::(bm.flatMap eY++B)) by simp];rw[show A.length+1+1+1=(A++[d.i 0,d.i 1,d.i 2]).length by simp];exact bu _ _ _
  obtain⟨v',ih⟩:=Lx l bm (A++eY d) B (d.i 3) (by rw[h];simp);rw[show(A++eY d).length=A.length+1+1+1+1 by simp[eY]]at ih;refine⟨v', ?_⟩;simp only[zac,mR];rw[An v (by omega),g0,An _ (by omega),g1,An _ (by omega),g2,An _ (by omega),g3,ih];simp only[zaS,nrP];rw[show A.length+1+1+1+1+4*bm.length=A.length+4*(bm.length+1) by omega];rfl
theorem Li (l:LI0):∀(ns:LD0) (A B:LI0) (v:Int),l=A++(ns.flatMap kW++B)->∃v',eV ns.length (rdS l A.length v)=(ns.map nrN,rdS l (A.length+3*ns.length) v')
 |[],A,B,v,_=>⟨v,rfl⟩
 |d::ns,A,B,v,h=>by
  have hl:l=A++(d.i 0::d.i 1::d.i 2::(ns.flatMap kW++B)):=by rw[h];simp[kW]
  have hlen:l.length=A.length+3+(ns.flatMap kW++B).length:=by rw[hl];simp only[zab,zac];omega
  have g0:l.getD A.length 0=d.i 0:=by rw[hl];exact bu _ _ _
  have g1:l.getD (A.length+1) 0=d.i 1:=by
   rw[hl,show A++(d.i 0::d.i 1::d.i 2::(ns.flatMap kW++B))=(A++[d.i 0])++(d.i 1::d.i 2::(ns.flatMap kW++B)) by simp];rw[show A.length+1=(A++[d.i 0]).length by simp];exact bu _ _ _
  have g2:l.getD (A.length+1+1) 0=d.i 2:=by
   rw[hl,show A++(d.i 0::d.i 1::d.i 2::(ns.flatMap kW++B))=(A++[d.i 0,d.i 1])++(d.i 2::(ns.flatMap kW++B)) by simp];rw[show A.length+1+1=(A++[d.i 0,d.i 1]).length by simp];exact bu _ _ _
  obtain⟨v',ih⟩:=Li l ns (A++kW d) B (d.i 2) (by rw[h];simp);rw[show(A++kW d).length=A.length+1+1+1 by simp[kW]]at ih;refine⟨v', ?_⟩;simp only[zac,eV];rw[An v (by omega),g0,An _ (by omega),g1,An _ (by omega),g2,ih];simp only[zaS,nrN];rw[show A.length+1+1+1+3*ns.length=A.length+3*(ns.length+1) by omega];rfl
theorem GO {ra:cE} {bm:LD0} {rb:cz} {notes:LD0} {next:Int} (hr:fA ra bm rb notes next=true):yt (nz ra bm rb notes next)=⟨ra,rb,next,true,bm.map nrP,notes.map nrN⟩:=by
 have hb:bm.length<=160/\notes.length<=8:=by
  unfold fA at hr;simp only[zae,zag]at hr;omega
 generalize hl:nz ra bm rb notes next=l;have hlen:l.length=18+(4*bm.length+(1+3*notes.length)):=by
  have h1:∀p:LD0,(p.flatMap eY).length=4*p.length:=fun p=>by
   induction p with
   |nil=>rfl
   |cons x p ih=>simp only[zaX,zab,ih,eY,zac,zar];omega
  have h2:∀p:LD0,(p.flatMap kW).length=3*p.length:=fun p=>by
   induction p with
   |nil=>rfl
   |cons x p ih=>simp only[zaX,zab,ih,kW,zac,zar];omega
  rw[<-hl];simp only[nz,mO,zab,zac,zar,h1,h2];omega
 have s0:(⟨0,0,(l.length:Int),false,l⟩:RdR)=rdS l 0 0:=rfl;have hd:∀i,i<18->l.getD i 0=(mO ra bm rb next).getD i 0:=fun i hi=>by
  rw[<-hl];unfold nz;simp only[zaf];rw[zax (by simpa[mO]using hi)]
 have m1:rdM 0 (l.length:Int) false l 1=rdS l 1 (bI ra.call):=by
  have e:l.getD 0 0=bI ra.call:=hd 0 (by omega);have:=UM (l:=l) (k:=0) 0 1 (by omega) (by rw[e];cases ra.call<;>decide) (by rw[e];cases ra.call<;>decide);rw[e]at this;exact this
 have nxk:∀(k:Nat) (v:Int),k<18->nx (rdS l k v)=rdS l (k+1) ((mO ra bm rb next).getD k 0):=fun k v hk=>by rw[An v (by omega),hd k hk]
 have m18:mx (rdS l 17 next) 160=rdS l 18 (bm.length:Int):=by
  have e:l.getD 17 0=(bm.length:Int):=hd 17 (by omega);have:=UM (l:=l) (k:=17) next 160 (by omega) (by rw[e];omega) (by rw[e];omega)
  rwa [e]at this
 have h1:∀p:LD0,(p.flatMap eY).length=4*p.length:=fun p=>by
  induction p with
  |nil=>rfl
  |cons x p ih=>simp only[zaX,zab,ih,eY,zac,zar];omega
 obtain⟨v1,p1⟩:=Lx l bm (mO ra bm rb next) ((notes.length:Int)::notes.flatMap kW) (bm.length:Int) hl.symm;have p1:mR bm.length (rdS l 18 (bm.length:Int))=(bm.map nrP,rdS l (18+4*bm.length) v1):=p1;have hA:(mO ra bm rb next++bm.flatMap eY).length=18+4*bm.length:=by rw[zab,h1];rfl
 have m24:mx (rdS l (18+4*bm.length) v1) 8=rdS l (18+4*bm.length+1) (notes.length:Int):=by
  have e:l.getD (18+4*bm.length) 0=(notes.length:Int):=by
   rw[<-hl];unfold nz;rw[show mO ra bm rb next++(bm.flatMap eY++(notes.length:Int)::notes.flatMap kW)=(mO ra bm rb next++bm.flatMap eY)++(notes.length:Int)::notes.flatMap kW by simp,<-hA];exact bu _ _ _
  have:=UM (l:=l) (k:=18+4*bm.length) v1 8 (by omega) (by rw[e];omega) (by rw[e];omega)
  rwa [e]at this
 obtain⟨v2,p2⟩:=Li l notes (mO ra bm rb next++bm.flatMap eY++[(notes.length:Int)]) [] (notes.length:Int) (by rw[<-hl];simp[nz]);rw[zab,hA]at p2;have p2:eV notes.length (rdS l (18+4*bm.length+1) (notes.length:Int))=(notes.map nrN,rdS l (18+4*bm.length+1+3*notes.length) v2):=p2;have key:iw 0 (l.length:Int) false l=⟨ra,rb,next,bm.map nrP,notes.map nrN,rdS l (18+4*bm.length+1+3*notes.length) v2⟩:=by
  unfold iw Hl;dsimp only;rw[m1];simp(disch:=omega) only[nxk,Nat.reduceAdd];rw[show(mO ra bm rb next).getD 16 0=next from rfl,m18];rw[show(rdS l 18 (bm.length:Int)).v.toNat=bm.length from rfl,p1];dsimp only;rw[m24];rw[show(rdS l (18+4*bm.length+1) (notes.length:Int)).v.toNat=notes.length from rfl,p2];have hc:((rdS l 1 (bI ra.call)).v==1)=ra.call:=by cases h:ra.call<;>simp[rdS,bI,h]
  rw[hc];rfl
 have hq:∀d:Dat,(nrP d).i 0=d.i 0/\(nrP d).i 1=d.i 1/\(nrP d).i 2=d.i 2/\(nrP d).i 3=d.i 3:=fun d=>⟨rfl,rfl,rfl,rfl⟩
 have hr2:fA ra (bm.map nrP) rb (notes.map nrN) next=true:=by
  unfold fA at hr⊢;have a1:(bm.map nrP).all z8=bm.all z8:=by
   rw[List.all_map];rfl
  have a2:(notes.map nrN).all v8=notes.all v8:=by
   rw[List.all_map];rfl
  rw[zaW,zaW,a1,a2];exact hr
 unfold yt;rw[key];dsimp only;have hn:(rdS l (18+4*bm.length+1+3*notes.length) v2).n=0:=by
  show((l.length-(18+4*bm.length+1+3*notes.length):Nat):Int)=0;omega
 rw[hn,hr2];rfl
theorem iH:∀(a b:LI0),gE a b=true↔a=b
 |[],[]=>by simp[gE]
 |[],_::_=>by simp[gE]
 |_::_,[]=>by simp[gE]
 |x::a,y::b=>by
  have ih:=iH a b;simp only[gE,zae,ih,zaH,List.cons.injEq]
theorem JY {ra:cE} {bm:LD0} {rb:cz} {notes:LD0} {next:Int} (hr:fA ra bm rb notes next=true):∀n∈nz ra bm rb notes next,-9223372036854775808<=n/\n<=9223372036854775807:=by
 unfold fA y5 at hr;simp only[List.all_cons,List.all_nil,EV,zae,zag,zam]at hr;obtain⟨h1,h2,h3,h4,h5,h6,⟨q1,q2,q3,q4,q5,q6,q7,q8,q9,q10,q11,q12,q13,_⟩,h8,h9,h10,h11⟩:=hr;have hb:0<=bI ra.call/\bI ra.call<=1:=by cases ra.call<;>decide
 intro n hn;unfold nz mO at hn;simp only[za0,zaN,List.mem_flatMap,zbH,or_false]at hn;rcases hn with(rfl|rfl|rfl|rfl|rfl|rfl|rfl|rfl|rfl|rfl|rfl|rfl|rfl|rfl|rfl|rfl|rfl|rfl)|⟨d,hd,hn⟩|rfl|⟨d,hd,hn⟩
 all_goals try omega
 . have hp:=h10 d hd;unfold z8 at hp;simp only[zae,zag]at hp;simp only[eY,zaN,zbH,or_false]at hn;rcases hn with rfl|rfl|rfl|rfl<;>omega
 . have hp:=h11 d hd;unfold v8 at hp;simp only[List.all_cons,List.all_nil,EV,zae,zag]at hp;simp only[kW,zaN,zbH,or_false]at hn;rcases hn with rfl|rfl|rfl<;>omega
theorem decode_encode {ra:cE} {bm:LD0} {rb:cz} {notes:LD0} {next:Int} (hr:fA ra bm rb notes next=true):ij (jf ra bm rb notes next)=⟨ra,rb,next,true,bm.map nrP,notes.map nrN⟩:=by
 unfold jf;rw[hr,zaw];unfold ij;have hl:=gy (nz ra bm rb notes next);have e:((cO (nz ra bm rb notes next)).length%8==0)=true:=by rw[zaH];omega
 rw[e,zaw,vl (JY hr)];exact GO hr
theorem Jo {ra:cE} {bm:LD0} {rb:cz} {notes:LD0} {next:Int} (hr:fA ra bm rb notes next=false):jf ra bm rb notes next=[]:=by unfold jf;rw[hr];rfl
theorem DL {ra:cE} {bm:LD0} {rb:cz} {notes:LD0} {next:Int} (hr:fA ra bm rb notes next=true):0<(jf ra bm rb notes next).length/\(jf ra bm rb notes next).length<=6000:=by
 have hb:bm.length<=160/\notes.length<=8:=by
  unfold fA at hr;simp only[zae,zag]at hr;omega
 unfold jf;rw[hr,zaw,gy];have h1:∀p:LD0,(p.flatMap eY).length=4*p.length:=fun p=>by
  induction p with
  |nil=>rfl
  |cons x p ih=>simp only[zaX,zab,ih,eY,zac,zar];omega
 have h2:∀p:LD0,(p.flatMap kW).length=3*p.length:=fun p=>by
  induction p with
  |nil=>rfl
  |cons x p ih=>simp only[zaX,zab,ih,kW,zac,zar];omega
 simp only[nz,mO,zab,zac,zar,h1,h2];omega
def aeM:Int × LD0 × av × aw × ao × LD0 × LD0 × LD0 × LD0 × LD0 × LD0 × LD0->Bool × List Un:=fun(a0,a1,a2,a3,a4,a5,a6,a7,a8,a9,a10,a11)=>(decide (0<=a0)&&kV (⟨a2,a3,a4,a5,a6,a7,a8,a9,a10,a11⟩:af),Uns.enc ((aH (⟨a2,a3,a4,a5,a6,a7,a8,a9,a10,a11⟩:af) a1).ra:cE)++[.d ((aH (⟨a2,a3,a4,a5,a6,a7,a8,a9,a10,a11⟩:af) a1).bm)]++Uns.enc ((aH (⟨a2,a3,a4,a5,a6,a7,a8,a9,a10,a11⟩:af) a1).rb:cz)++[.d ((aH (⟨a2,a3,a4,a5,a6,a7,a8,a9,a10,a11⟩:af) a1).notes),.i ((aH (⟨a2,a3,a4,a5,a6,a7,a8,a9,a10,a11⟩:af) a1).next),.i ((aH (⟨a2,a3,a4,a5,a6,a7,a8,a9,a10,a11⟩:af) a1).e)]++Uns.enc ((aH (⟨a2,a3,a4,a5,a6,a7,a8,a9,a10,a11⟩:af) a1).t.a:av)++Uns.enc ((aH (⟨a2,a3,a4,a5,a6,a7,a8,a9,a10,a11⟩:af) a1).t.b:aw)++Uns.enc ((aH (⟨a2,a3,a4,a5,a6,a7,a8,a9,a10,a11⟩:af) a1).t.n:ao)++[.d ((aH (⟨a2,a3,a4,a5,a6,a7,a8,a9,a10,a11⟩:af) a1).t.aC),.d ((aH (⟨a2,a3,a4,a5,a6,a7,a8,a9,a10,a11⟩:af) a1).t.notes),.d ((aH (⟨a2,a3,a4,a5,a6,a7,a8,a9,a10,a11⟩:af) a1).t.s0),.d ((aH (⟨a2,a3,a4,a5,a6,a7,a8,a9,a10,a11⟩:af) a1).t.s1),.d ((aH (⟨a2,a3,a4,a5,a6,a7,a8,a9,a10,a11⟩:af) a1).t.s2),.d ((aH (⟨a2,a3,a4,a5,a6,a7,a8,a9,a10,a11⟩:af) a1).t.aN),.d ((aH (⟨a2,a3,a4,a5,a6,a7,a8,a9,a10,a11⟩:af) a1).t.tr)])
def aaJ:Pn:=⟨[.agg [.bool,.z0,.z0,.z0,.z0,.z0,.z0,.z0,.z0,.z0,.z0,.ab (sI 4),.z0,.z0,.z0,.z0,.z0,.ab (sI 3),.z0],.z0],[.cells [.z0,.z0,.z0,.buf 9 2,.buf 10 3,.z0,.z0,.z0,.z0,.z0,.z0,.z0,.z0,.z0,.z0,.buf 11 2,.buf 12 2,.buf 13 2,.ptr 14 0 0,.buf 16 7,.z0,.z0,.z0,.z0,.z0,.z0,.z0,.z0,.z0,.bool],.gone,.gone,.gone,.gone,.gone,.gone,.gone,.gone,.ab (sI 2),.ab (sI 3),.ab (sI 2),.ab (sI 2),.ab (sI 2),.cells [.buf 15 5],.ab (sB 4),.ab (sI 7)],0⟩
theorem Ia:ER 98 (mkE N98.en aaJ aeM):=OB Lo (by kernel_rfl) fun(a0,a1,a2,a3,a4,a5,a6,a7,a8,a9,a10,a11)=>⟨rfl,by kernel_rfl⟩
def aeq:TB:=afe.ad Ia
def aar:px->List Un:=fun r=>Uns.enc (r.ra:cE)++[.d r.bm]++Uns.enc (r.rb:cz)++[.d r.notes,.i r.next,.i r.e]++Uns.enc (r.t.a:av)++Uns.enc (r.t.b:aw)++Uns.enc (r.t.n:ao)++[.d r.t.aC,.d r.t.notes,.d r.t.s0,.d r.t.s1,.d r.t.s2,.d r.t.aN,.d r.t.tr]
def aa6:Int × LD0 × av × aw × ao × LD0 × LD0 × LD0 × LD0 × LD0 × LD0 × LD0->Bool × px:=fun(a0,a1,a2,a3,a4,a5,a6,a7,a8,a9,a10,a11)=>(decide (0<=a0)&&kV (⟨a2,a3,a4,a5,a6,a7,a8,a9,a10,a11⟩:af),(aH (⟨a2,a3,a4,a5,a6,a7,a8,a9,a10,a11⟩:af) a1))
theorem NQ:ER 98 (mkB N98.en aaJ aa6 aar):=rebind Ia fun(a0,a1,a2,a3,a4,a5,a6,a7,a8,a9,a10,a11)=>rfl
def OI:TB:=aeq.ad NQ
def GZ (q:Int->Bool) (c:LD0):Nat:=((c.map fun d=>d.i 0).filter q).length
theorem AL (a k:Int) (q:Int->Bool):∀(xs:LI0) (c:LD0) (i:Int),xs.length=c.length->(∀j,j<c.length->q ((ai c j).i 0)=false->xs.getD j 0<=0)->(cd a k i xs).length<=GZ q c
 |[],_,_,_,_=>by simp[cd]
 |x::xs,[],_,h,_=>by simp at h
 |x::xs,d::c,i,h,hx=>by
  have ih:=AL a k q xs c (i+1) (by simpa using h) fun j hj hs=>hx (j+1) (by simpa using hj) hs
  have h0:=hx 0 (by simp);rw[show ai (d::c) 0=d from rfl,show(x::xs).getD 0 0=x from rfl]at h0;unfold GZ at ih⊢;simp only[cd,zab,zaS,List.filter_cons];cases hs:q (d.i 0)with
  |true=>
   rw[if_pos rfl,zac]
   split<;>simp only[zac,zar]<;>omega
  |false=>
   rw[if_neg (by have:=h0 hs;omega),if_neg (by simp)];simpa using ih
theorem QB (j:Nat) (q:Int->Bool) {xs:LI0} {c:LD0} (h:xs.length=c.length):GZ q (cw j xs c)=GZ q c:=by
 have:∀(xs:LI0) (c:LD0),xs.length=c.length->(cw j xs c).map (fun d=>d.i 0)=c.map fun d=>d.i 0:=by
  intro xs
  induction xs with
  |nil=>intro c h;rw[zaB h.symm];rfl
  |cons x xs ih=>
   intro c h;cases c with
   |nil=>simp at h
   |cons d c=>
    simp only[cw,zaS,ih c (by simpa using h)]
    congr 1
    unfold cM
    split<;>rfl
 unfold GZ;rw[this xs c h]
theorem Ha (r:Int):∀l:LI0,(l.filter fun y=>y==r).length+(l.filter fun y=>decide (r+1<=y)).length<=(l.filter fun y=>decide (r<=y)).length
 |[]=>by simp
 |y::l=>by
  have:=Ha r l;simp only[List.filter_cons,zaH,zag]
  by_cases h1:y=r
  . rw[if_pos h1,if_neg (by omega),if_pos (by omega)];simp only[zac];omega
  . rw[if_neg h1]
    by_cases h2:r+1<=y
    . rw[if_pos h2,if_pos (by omega)];simp only[zac];omega
    . rw[if_neg h2,if_neg (by omega)];omega
theorem Vj (q:Int->Bool) (c:LD0):GZ q c<=c.length:=by
 have:=List.length_filter_le q (c.map fun d=>d.i 0)
 rwa [zaW]at this
theorem I7 {c:LD0} {sel:Dat->Bool} {j:Nat} (hj:j=1\/j=2) (n:Int) (h:bk c=true):∀i,i<c.length->sel (ai c i)=false->(aB sel j n c).getD i 0<=0:=fun i hi hs=>by
 have:=(dQ sel hj n h).2.2 i hi;rw[hs,zal]at this;exact this.2
theorem Cd (a kd:Int):∀(k:Nat) (r n:Int) (c:LD0),bk c=true->(bR a kd k r n c).2.1.length<=GZ (fun y=>decide (r<=y)) c
 |0,r,n,c,h=>by simp[bR]
 |k+1,r,n,c,h=>by
  have g:=(qP (aR r) (j:=1) (.inl rfl) n h).1;have l:=(dQ (aR r) (j:=1) (.inl rfl) n h).1;have i:=Cd a kd k (r+1) (n-(aB (aR r) 1 n c).sum) _ g;rw[QB 1 _ l]at i;have p:=AL a kd (fun y=>y==r) (aB (aR r) 1 n c) c 0 l fun j hj hs=>I7 (.inl rfl) n h j hj hs
  have f:=Ha r (c.map fun d=>d.i 0);simp only[bR,zab];unfold GZ at*
  omega
theorem Og (a kd rk:Int) {x:bC} {c:LD0} (h:bk c=true):(fq a kd rk x c).2.2.length<=c.length+1:=by
 have p1:=A1 a kd;have r2:=fun n=>zaP (Cd a kd 8 0 n c h) (Vj _ c)
 have q:=fun sel j n hj=>(dQ (c:=c) sel (j:=j) hj n h).1
 have q4:=fun xs=>j4 a kd xs 0
 unfold fq
 split
 . have:=p1 (min x.fee x.aD);simp only;omega
 split
 . have:=p1 (min x.cf x.aD);simp only;omega
 split
 . have:=p1 (min x.room x.aD);simp only;omega
 split
 . have:=q (aR rk) 2 x.aD (.inr rfl);have:=q4 (aB (aR rk) 2 x.aD c);simp only;omega
 split
 . have:=r2 (min x.ar x.aD);simp only;omega
 split
 . have:=q (fun _=>true) 1 (min x.ar x.aD) (.inl rfl);have:=q4 (aB (fun _=>true) 1 (min x.ar x.aD) c);simp only;omega
 split
 . have:=r2 x.aD;simp only;omega
 simp
theorem Hi:∀(l:LD0) (a:Int) (x:bC) (c:LD0),su x=true->bk c=true->(fT a l x c).2.2.length<=(c.length+1)*l.length
 |[],a,x,c,_,_=>by simp[fT]
 |s::l,a,x,c,hx,h=>by
  obtain⟨h1,h2,h3,_⟩:=s8 a (s.i 0) (s.i 1) hx h;have i:=Hi l (a+1) _ _ h1 h2;have p:=Og a (s.i 0) (s.i 1) (x:=x) h;simp only[fT,zab,zac,Nat.mul_add,zcf];rw[h3]at i;omega
theorem Az:∀(l pre:LD0),jV pre l=true->∀d∈l,rV d=true
 |[],_,_,d,hd=>by simp at hd
 |x::l,pre,h,d,hd=>by
  simp only[jV,zae]at h;rcases zaN.1 hd with rfl|hd
  . exact h.1
  . exact Az l _ h.2.2 d hd
theorem Gh (j:Nat):∀(l:LD0),(∀d∈l,0<=d.i j)->∀d∈l,d.i j<=au j l
 |[],_,d,hd=>by simp at hd
 |x::l,h,d,hd=>by
  have h0:=h x (by simp);have hr:=fun y hy=>h y (zay x hy)
  have hs:=gG j l hr;simp only[au];rcases zaN.1 hd with rfl|hd
  . omega
  . have:=Gh j l hr d hd;omega
def abZ (k:Nat) (x:Dat):Prop:=(0<=x.i 0/\x.i 0<=15)/\(1<=x.i 1/\x.i 1<=7)/\(1<=x.i 3/\x.i 3<=800000000000000)/\(-1<=x.i 2/\x.i 2<(k:Int))/\(x.i 2<0↔(x.i 1=1\/x.i 1=2\/x.i 1=6))
section
variable {T : af} {l : LD0} (h : ee T) (he : (cP T l).e = 0)
include h he
theorem J7:(∀d∈(dR T l).2.2,abZ T.tr.length d)/\(dR T l).2.2.length<=144:=by
 obtain⟨k,p,g,c,_⟩:=vH h he;obtain⟨s1,s2,_⟩:=og h he;obtain⟨x1,x2,_⟩:=tS h he;have st:=qt h;have sl:=bL st;have tl:=fF h;have sr:∀d∈gh (ik T) T.n.mode,rV d=true:=Az _ [] (by simp only[eF,zae]at st;exact st.2);refine⟨fun d hd=> ?_, ?_⟩
 . obtain⟨q1,_,q2,q3,q4,q5⟩:=p d hd;have:=Gh 3 _ (fun d hd=>by have:=(s1 d hd).1;omega) d hd;have:=sr _ (mN (l:=gh (ik T) T.n.mode) (i:=(d.i 0-0).toNat) (by omega));simp only[rV,zae,zag]at this;unfold abZ;rw[<-q2]at q5 this;exact⟨by omega,this.1,by omega,q4,q5⟩
 . have:=Hi (gh (ik T) T.n.mode) 0 (cX T l) _ x1 x2;rw[zaW,qV h]at this;have m:=Nat.mul_le_mul (show T.tr.length+1<=9 by omega) sl.2;unfold dR;omega
end
@[ext] structure bc where
 lI:Int
 off:Bool
 oz:Int
 lit:Bool
instance : Uns bc := Uns.via (B := Int × Bool × Int × Bool) (fun x => (x.lI, x.off, x.oz, x.lit)) (fun x => match x with | (lI, off, oz, lit) => ⟨lI, off, oz, lit⟩) (fun _ => rfl)
def bz (m:bc):Bool × bc:=bif m.off then(false,m)else bif !m.lit then(true,m)else bif m.oz==0 then(false,{m with off:=true})else(true,{m with oz:=w64 (m.oz-1)})
theorem sj (m:bc) (A C:bc->OU0):(bif m.off then A m else bif !m.lit then C m else bif m.oz==0 then A {m with off:=true}else C {m with oz:=w64 (m.oz-1)})=bif (bz m).1 then C (bz m).2 else A (bz m).2:=by
 unfold bz;cases m.off
 . cases m.lit
   . rfl
   . cases (m.oz==0)<;>rfl
 . rfl
def N12:aA:=⟨OI.tab,12,⟨[],[],0⟩,⟨[.ptr 0 0 0],[.cells [.buf 1 1,.z0,.bool,.z0,.bool],.ints .u8],0⟩,[]⟩
def t12 (m:Nat):Unit->OU0:=fun _=>
 some (Uns.enc ((⟨0,false,0,false⟩:bc):bc)++[.l ([])])
def f12:Unit->Bool × List Un:=fun _=>(true,Uns.enc (((⟨0,false,0,false⟩:bc)):bc)++[.l (([]:LI0))])
theorem TW:ER 12 (mkE N12.en N12.ex f12):=ak ae OI.right (fun m=>[]) (t:=t12) (by kernel_rfl) (fun m=>az) (fun m a=>by kernel_rfl) fun _ hc=>by
 dsimp only[f12]at⊢;exact⟨0,rfl⟩
def T12:TB:=OI.ad TW
def abD:aA:=⟨T12.tab,130,⟨[.ptr 0 0 0,.ints .u8],[.cells [.buf 1 1,.z0,.bool,.z0,.bool],.ints .u8],0⟩,⟨[.z0],[.cells [.buf 2 1,.z0,.bool,.z0,.bool],.gone,.ints .u8],0⟩,[]⟩
def t130 (m:Nat):LI0 × bc × LI0->OU0:=fun(a0,a1,a2)=>
 bif a1.off then
 some ([.i 7]++Uns.enc (a1:bc)++[.l a2])
 else
 bif !a1.lit then
 chk (fits (a2.length+a0.length) 1)<|
 some ([.i 0]++Uns.enc (a1:bc)++[.l (a2++a0)])
 else
 bif a1.oz==0 then
 some ([.i 7]++Uns.enc (({a1 with off:=true}:bc):bc)++[.l a2])
 else
 chk (fits (a2.length+a0.length) 1)<|
 some ([.i 0]++Uns.enc (({a1 with oz:=(w64 (a1.oz-1))}:bc):bc)++[.l (a2++a0)])
def f130:LI0 × bc × LI0->Bool × List Un:=fun(a0,a1,a2)=>(decide (a2.length+a0.length<1000000),[.i ((bif (bz a1).1 then 0 else 7:Int))]++Uns.enc (((bz a1).2):bc)++[.l ((bif (bz a1).1 then a2++a0 else a2))])
theorem Rv:ER 130 (mkE abD.en abD.ex f130):=ak ae T12.right (fun m=>[]) (t:=t130) (by kernel_rfl) (fun m=>az) (fun m a=>by kernel_rfl) fun(a0,a1,a2) hc=>by
 dsimp only[f130]at hc⊢;have hl:=zaj hc;refine⟨0,(sj a1 (fun n=>some ([Un.i 7]++Uns.enc n++[Un.l a2])) (fun n=>chk (fits (a2.length+a0.length) 1)<|some ([Un.i 0]++Uns.enc n++[Un.l (a2++a0)]))).trans ?_⟩;rw[bD (by omega) (by omega)];cases (bz a1).1<;>rfl
def Zx:TB:=T12.ad Rv
def aax:aA:=⟨Zx.tab,131,⟨[.ptr 0 0 0],[.cells [.buf 1 1,.z0,.bool,.z0,.bool],.ints .u8],0⟩,⟨[.z0],[.cells [.buf 1 1,.z0,.bool,.z0,.bool],.ints .u8],0⟩,[]⟩
def t131 (m:Nat):bc × LI0->OU0:=fun(a0,a1)=>
 bif a0.off then
 some ([.i 7]++Uns.enc (a0:bc)++[.l a1])
 else
 bif !a0.lit then
 some ([.i 0]++Uns.enc (({a0 with lI:=(a1.length:Int)}:bc):bc)++[.l a1])
 else
 bif a0.oz==0 then
 some ([.i 7]++Uns.enc (({a0 with off:=true}:bc):bc)++[.l a1])
 else
 some ([.i 0]++Uns.enc (({a0 with lI:=(a1.length:Int),oz:=(w64 (a0.oz-1))}:bc):bc)++[.l a1])
def f131:bc × LI0->Bool × List Un:=fun(a0,a1)=>(true,[.i ((bif (bz a0).1 then 0 else 7:Int))]++Uns.enc (((bif (bz a0).1 then {(bz a0).2 with lI:=(a1.length:Int)}else(bz a0).2)):bc)++[.l (a1)])
theorem QN:ER 131 (mkE aax.en aax.ex f131):=ak ae Zx.right (fun m=>[]) (t:=t131) (by kernel_rfl) (fun m=>az) (fun m a=>by kernel_rfl) fun(a0,a1) hc=>by
 dsimp only[f131]at⊢;refine⟨0,(sj a0 (fun n=>some ([Un.i 7]++Uns.enc n++[Un.l a1])) (fun n=>some ([Un.i 0]++Uns.enc ({n with lI:=(a1.length:Int)}:bc)++[Un.l a1]))).trans ?_⟩;cases (bz a0).1<;>rfl
def Zr:TB:=Zx.ad QN
def N90:aA:=⟨Zr.tab,90,⟨[.ptr 0 0 0,.z0],[.cells [.buf 1 1,.z0,.bool,.z0,.bool],.ints .u8],0⟩,⟨[.z0],[.cells [.buf 2 1,.z0,.bool,.z0,.bool],.gone,.ints .u8],0⟩,[]⟩
def t90 (m:Nat):Int × bc × LI0->OU0:=fun(a0,a1,a2)=>
 bif decide (a0<0)then
 some ([.i 1]++Uns.enc (a1:bc)++[.l a2])
 else
 bif (decide (a0>(a2.length:Int)))then
 some ([.i 1]++Uns.enc (a1:bc)++[.l a2])
 else
 bif a1.off then
 some ([.i 7]++Uns.enc (a1:bc)++[.l a2])
 else
 bif !a1.lit then
 chk (decide (0<=a0)&&(true&&decide (0<=a0.toNat/\a0.toNat<=a2.length)))<|
 chk (decide ((List.take a0.toNat a2).length<1000000))<|
 some ([.i 0]++Uns.enc (({a1 with lI:=a0}:bc):bc)++[.l (List.take a0.toNat a2)])
 else
 bif a1.oz==0 then
 some ([.i 7]++Uns.enc (({a1 with off:=true}:bc):bc)++[.l a2])
 else
 chk (decide (0<=a0)&&(true&&decide (0<=a0.toNat/\a0.toNat<=a2.length)))<|
 chk (decide ((List.take a0.toNat a2).length<1000000))<|
 some ([.i 0]++Uns.enc (({a1 with lI:=a0,oz:=(w64 (a1.oz-1))}:bc):bc)++[.l (List.take a0.toNat a2)])
def f90:Int × bc × LI0->Bool × List Un:=fun(a0,a1,a2)=>(decide (0<=a0/\a0<=(a2.length:Int)/\a2.length<1000000),[.i ((bif (bz a1).1 then 0 else 7:Int))]++Uns.enc (((bif (bz a1).1 then {(bz a1).2 with lI:=a0}else(bz a1).2)):bc)++[.l ((bif (bz a1).1 then a2.take a0.toNat else a2))])
theorem Wd:ER 90 (mkE N90.en N90.ex f90):=ak ae Zr.right (fun m=>[]) (t:=t90) (by kernel_rfl) (fun m=>az) (fun m a=>by kernel_rfl) fun(a0,a1,a2) hc=>by
 dsimp only[f90]at hc⊢;obtain⟨h0,h1,h2⟩:=zaj hc;have hl:(List.take a0.toNat a2).length<1000000:=by rw[zav];omega
 have hk:(decide (0<=a0)&&(true&&decide (0<=a0.toNat/\a0.toNat<=a2.length)))=true:=by
  rw[zaa h0,zaa (show 0<=a0.toNat/\a0.toNat<=a2.length by omega)];rfl
 refine⟨0,ck (zao (by omega)) (ck (zao (by omega)) ((sj a1 (fun n=>some ([Un.i 7]++Uns.enc n++[Un.l a2])) (fun n=>chk (decide (0<=a0)&&(true&&decide (0<=a0.toNat/\a0.toNat<=a2.length)))<|chk (decide ((List.take a0.toNat a2).length<1000000))<|some ([Un.i 0]++Uns.enc ({n with lI:=a0}:bc)++[Un.l (List.take a0.toNat a2)]))).trans ?_))⟩;rw[hk,zaa hl];cases (bz a1).1<;>rfl
def T90:TB:=Zr.ad Wd
def N31:aA:=⟨T90.tab,31,⟨[.ptr 0 0 0],[.cells [.buf 1 1,.z0,.bool,.z0,.bool],.ints .u8],2⟩,⟨[.buf 2 1],[.cells [.buf 1 1,.z0,.bool,.z0,.bool],.ints .u8,.ints .u8],2⟩,[]⟩
def t31 (m:Nat):bc × LI0->OU0:=fun(a0,a1)=>
 bif a0.off then
 some (Uns.enc (a0:bc)++[.l a1,.l ([])])
 else
 chk (decide (a1.length<1000000))<|
 some (Uns.enc (a0:bc)++[.l a1,.l a1])
def f31:bc × LI0->Bool × List Un:=fun(a0,a1)=>(decide (a1.length<1000000),Uns.enc ((a0):bc)++[.l (a1),.l ((bif a0.off then[]else a1))])
theorem LC:ER 31 (mkE N31.en N31.ex f31):=ak ae T90.right (fun m=>[]) (t:=t31) (by kernel_rfl) (fun m=>az) (fun m a=>by kernel_rfl) fun(a0,a1) hc=>by
 dsimp only[f31]at hc⊢;refine⟨0, ?_⟩;unfold t31
 try dsimp only
 rw[hc];cases a0.off<;>rfl
def T31:TB:=T90.ad LC
def ae2:bc × LI0->Bool × List Un:=fun(a0,a1)=>(decide (a1.length<1000000),[.l (bif a0.off then[]else a1)]++Uns.enc (a0:bc)++[.l a1])
def aeS:Pn:=⟨[.ints .u8],[.cells [.buf 1 1,.z0,.bool,.z0,.bool],.ints .u8],2⟩
theorem QV:ER 31 (mkE N31.en aeS ae2):=OB LC (by kernel_rfl) fun(a0,a1)=>⟨rfl,by kernel_rfl⟩
def YQ:TB:=T31.ad QV
def ir (m:bc) (l:LI0) (a:Int):Bool:= !m.off&&(!decide (m.lI<(l.length:Int))&&decide (0<=a/\a<(l.length:Int)))
def cv (l:LI0) (a x:Int):LI0:=l.set a.toNat (wu8 ((BitVec.ofInt 8 (l.getD a.toNat 0)^^^BitVec.ofInt 8 x).toNat))
def N32:aA:=⟨YQ.tab,32,⟨[.ptr 0 0 0,.z0,.int .u8],[.cells [.buf 1 1,.z0,.bool,.z0,.bool],.ints .u8],0⟩,⟨[.bool],[.cells [.buf 1 1,.z0,.bool,.z0,.bool],.ints .u8],0⟩,[]⟩
def t32 (m:Nat):Int × Int × bc × LI0->OU0:=fun(a0,a1,a2,a3)=>
 bif a2.off then
 some ([.b false]++Uns.enc (a2:bc)++[.l a3])
 else
 bif (decide (a2.lI<(a3.length:Int)))then
 some ([.b false]++Uns.enc (a2:bc)++[.l a3])
 else
 bif decide (a0<0)then
 some ([.b false]++Uns.enc (a2:bc)++[.l a3])
 else
 bif (decide (a0>=(a3.length:Int)))then
 some ([.b false]++Uns.enc (a2:bc)++[.l a3])
 else
 chk (inb a0 a3.length)<|
 chk (decide (a0.toNat<a3.length))<|
 chk (inb a0 a3.length)<|
 chk (decide (a0.toNat<a3.length))<|
 some ([.b true]++Uns.enc (a2:bc)++[.l (List.set a3 a0.toNat (wu8 ((BitVec.ofInt 8 (a3.getD a0.toNat 0)^^^BitVec.ofInt 8 a1).toNat)))])
def f32:Int × Int × bc × LI0->Bool × List Un:=fun(a0,a1,a2,a3)=>(decide (a3.length<1000000),[.b (ir a2 a3 a0)]++Uns.enc ((a2):bc)++[.l ((bif ir a2 a3 a0 then cv a3 a0 a1 else a3))])
theorem Vz:ER 32 (mkE N32.en N32.ex f32):=ak ae YQ.right (fun m=>[]) (t:=t32) (by kernel_rfl) (fun m=>az) (fun m a=>by kernel_rfl) fun(a0,a1,a2,a3) hc=>by
 dsimp only[f32]at hc⊢;have hl:=zaj hc;refine⟨0, ?_⟩;unfold t32 ir cv
 try dsimp only
 cases ho:a2.off
 . by_cases h1:a2.lI<(a3.length:Int)
   . rw[zaa h1];rfl
   rw[zao h1]
   by_cases h2:a0<0
   . rw[zaa h2,zao (show ¬(0<=a0/\a0<(a3.length:Int)) by omega)];rfl
   rw[zao h2]
   by_cases h3:a0>=(a3.length:Int)
   . rw[zaa h3,zao (show ¬(0<=a0/\a0<(a3.length:Int)) by omega)];rfl
   rw[zao h3,zaa (show 0<=a0/\a0<(a3.length:Int) by omega)];refine(bQ (by omega) (by omega)).trans (al (zaa (by omega)) ((bQ (by omega) (by omega)).trans (al (zaa (by omega)) rfl)))
 . rfl
def T32:TB:=YQ.ad Vz
def N30:aA:=⟨T32.tab,30,⟨[.ptr 0 0 0],[.cells [.buf 1 1,.z0,.bool,.z0,.bool],.ints .u8],2⟩,⟨[.ptr 2 0 0],[.cells [.buf 1 1,.z0,.bool,.z0,.bool],.ints .u8,.cells [.buf 3 1,.z0,.bool,.z0,.bool],.ints .u8],2⟩,[]⟩
def t30 (m:Nat):bc × LI0->OU0:=fun(a0,a1)=>
 chk (decide (a1.length<1000000))<|
 some (Uns.enc (a0:bc)++[.l a1]++Uns.enc (a0:bc)++[.l a1])
def f30:bc × LI0->Bool × List Un:=fun(a0,a1)=>(decide (a1.length<1000000),Uns.enc ((a0):bc)++[.l (a1)]++Uns.enc ((a0):bc)++[.l (a1)])
theorem Uz:ER 30 (mkE N30.en N30.ex f30):=ak ae T32.right (fun m=>[]) (t:=t30) (by kernel_rfl) (fun m=>az) (fun m a=>by kernel_rfl) fun(a0,a1) hc=>by
 dsimp only[f30]at hc⊢;exact⟨0,al hc rfl⟩
def T30:TB:=T32.ad Uz
def cF (l:LI0):Bool:=decide (l.length<=1000000)&&l.all fun x=>decide (0<=x/\x<256)
theorem ez {l:LI0}:cF l=true↔l.length<=1000000/\∀x∈l,0<=x/\x<256:=by
 simp only[cF,zae,zag,zam]
def cK (l:LI0):Int:=l.sum%65536
theorem abe {x:Int} (h0:0<=x) (h1:x<9223372036854775808):w64 ((BitVec.ofInt 64 x&&&BitVec.ofInt 64 65535).toNat)=x%65536:=by
 obtain⟨n,rfl⟩:∃n:Nat,x=n:=⟨x.toNat,by omega⟩
 have e:(BitVec.ofInt 64 (n:Int)&&&BitVec.ofInt 64 65535).toNat=n%65536:=by
  rw[BitVec.toNat_and];have h1:(BitVec.ofInt 64 (n:Int)).toNat=n:=by
   rw[zbB];omega
  have h2:(BitVec.ofInt 64 65535).toNat=2^16-1:=by decide
  rw[h1,h2,Nat.and_two_pow_sub_one_eq_mod]
 rw[e,aa (by omega) (by omega)];omega
def Yt:aA:=⟨T30.tab,166,⟨[.ints .u8],[],0⟩,⟨[.z0],[],0⟩,[]⟩
abbrev Er:Type:=Int × LI0 × Int × Int
def yC (m:Nat) (k:Er->OU0):Er->OU0:=fun(a0,a1,a2,a3)=>
 bif decide (a3<a2)then
 chk (inb a3 a1.length)<|
 chk (decide (a3.toNat<a1.length))<|
 k ((w64 (a0+(w64 (a1.getD a3.toNat 0)))),a1,a2,(w64 (a3+1)))
 else
 some ([.i (w64 ((BitVec.ofInt 64 a0&&&BitVec.ofInt 64 65535).toNat))])
def uF (m:Nat):Nat->Er->OU0:=aX (yC m)
theorem wB (m:Nat) (n:Nat):uF m (n+1)=yC m (uF m n):=rfl
def I6 (F:Er->OU0):aQ:=⟨[.lp [0,1,0,1,1],.blk 0,.code [1,1,1]],⟨frm 19 [(3,.z0),(6,.ints .u8),(7,.z0),(8,.z0)],[],0⟩,onU F⟩
theorem Xf (m:Nat):∀n,HO Yt (I6 (uF m n)):=an ae T30.right (fun k=>[I6 k]) (fun k h=>(aI h az)) fun k a=>by kernel_rfl
def t166 (m:Nat):LI0->OU0:=fun a0=>
 uF m m (0,a0,(a0.length:Int),0)
theorem aas (m:Nat):∀(rest pre:LI0) (n:Nat) (s:Int),rest.length<n->(pre++rest).length<=1000000->(∀x∈rest,0<=x/\x<256)->0<=s->s<=256*pre.length->uF m n (s,pre++rest,((pre++rest).length:Int),(pre.length:Int))=some [.i ((s+rest.sum)%65536)]:=by
 intro rest
 induction rest with
 |nil=>
  intro pre n s hn hl hb h0 h1;obtain⟨n,rfl⟩:=ah n (by simp at hn;omega);simp only[zaK]at hl;rw[wB];unfold yC;dsimp only;rw[ay (by simp),abe h0 (by omega)];simp
 |cons x rest ih=>
  intro pre n s hn hl hb h0 h1;obtain⟨n,rfl⟩:=ah n (by simp at hn;omega);have hx:=hb x (by simp);have:=ih (pre++[x]) n (s+x) (by simp at hn;omega) (by simpa using hl) (fun y hy=>hb y (zay _ hy)) (by omega) (by simp;omega);simp only[zac,zab]at hn hl;rw[wB];unfold yC;dsimp only;rw[aK (by simp only[zab,zac];omega),bQ (by omega) (by simp only[zab,zac];omega),aJ (by simp)];have hg:(pre++x::rest).getD (pre.length:Int).toNat 0=x:=by simp
  rw[hg,aa (n:=x) (by omega) (by omega),aa (n:=s+x) (by omega) (by omega)];have e:w64 ((pre.length:Int)+1)=((pre++[x]).length:Int):=by
   rw[aa (by omega) (by omega)];simp
  rw[e,show pre++x::rest=(pre++[x])++rest by simp,this,zbs,zcl]
def f166:LI0->Bool × List Un:=fun a0=>(cF a0,[.i (cK a0)])
theorem Qp:ER 166 (mkE Yt.en Yt.ex f166):=ak ae T30.right (fun m=>[I6 (uF m m)]) (t:=t166) (by kernel_rfl) (fun m=>(aI (Xf m m) az)) (fun m a=>by kernel_rfl) fun a0 hc=>by
 dsimp only[f166]at hc⊢;obtain⟨hl,hb⟩:=ez.1 hc;refine⟨a0.length+1, ?_⟩;have:=aas (a0.length+1) a0 [] (a0.length+1) 0 (by omega) (by simpa using hl) hb (by omega) (by simp);rw[za4]at this;exact this
def Ur:TB:=T30.ad Qp
def dv (l:LI0):Int:=l.foldl (fun n x=>n*256+x) 0
theorem OS {n x:Int} (h0:0<=n) (h1:n<4294967296) (h2:0<=x) (h3:x<256):w64 ((BitVec.ofInt 64 (w64 (n*2^(min (8:Int).toNat 64)))|||BitVec.ofInt 64 (w64 x)).toNat)=n*256+x:=by
 rw[show(2:Int)^(min (8:Int).toNat 64)=256 by decide,aa (n:=n*256) (by omega) (by omega),aa (n:=x) (by omega) (by omega)];obtain⟨a,rfl⟩:∃a:Nat,n=a:=⟨n.toNat,by omega⟩
 obtain⟨c,rfl⟩:∃c:Nat,x=c:=⟨x.toNat,by omega⟩
 have e:(BitVec.ofInt 64 ((a:Int)*256)|||BitVec.ofInt 64 (c:Int)).toNat=256*a+c:=by
  rw[BitVec.toNat_or];have h1:(BitVec.ofInt 64 ((a:Int)*256)).toNat=256*a:=by
   rw[zbB];omega
  have h2:(BitVec.ofInt 64 (c:Int)).toNat=c:=by
   rw[zbB];omega
  rw[h1,h2,MP a c (by omega)]
 rw[e,aa (by omega) (by omega)];omega
def Xb:aA:=⟨Ur.tab,165,⟨[.ints .u8],[],0⟩,⟨[.z0],[],0⟩,[]⟩
abbrev Ek:Type:=Int × LI0 × Int × Int
def yk (m:Nat) (k:Ek->OU0):Ek->OU0:=fun(a0,a1,a2,a3)=>
 bif decide (a3<a2)then
 chk (inb a3 a1.length)<|
 chk (decide (a3.toNat<a1.length))<|
 k ((w64 ((BitVec.ofInt 64 (w64 (a0*2^(min (8:Int).toNat 64)))|||BitVec.ofInt 64 (w64 (a1.getD a3.toNat 0))).toNat)),a1,a2,(w64 (a3+1)))
 else
 some ([.i a0])
def uR (m:Nat):Nat->Ek->OU0:=aX (yk m)
theorem wI (m:Nat) (n:Nat):uR m (n+1)=yk m (uR m n):=rfl
def IK (F:Ek->OU0):aQ:=⟨[.lp [0,1,0,1,1],.blk 0,.code [1,1,1]],⟨frm 19 [(3,.z0),(6,.ints .u8),(7,.z0),(8,.z0)],[],0⟩,onU F⟩
theorem Yj (m:Nat):∀n,HO Xb (IK (uR m n)):=an ae Ur.right (fun k=>[IK k]) (fun k h=>(aI h az)) fun k a=>by kernel_rfl
def t165 (m:Nat):LI0->OU0:=fun a0=>
 uR m m (0,a0,(a0.length:Int),0)
theorem acx (m:Nat):∀(rest pre:LI0) (n:Nat) (s:Int),rest.length<n->(pre++rest).length<=4->(∀x∈rest,0<=x/\x<256)->0<=s->s<256^pre.length->uR m n (s,pre++rest,((pre++rest).length:Int),(pre.length:Int))=some [.i (rest.foldl (fun n x=>n*256+x) s)]:=by
 intro rest
 induction rest with
 |nil=>
  intro pre n s hn hl hb h0 h1;obtain⟨n,rfl⟩:=ah n (by simp at hn;omega);rw[wI];unfold yk;dsimp only;rw[ay (by simp)];rfl
 |cons x rest ih=>
  intro pre n s hn hl hb h0 h1;obtain⟨n,rfl⟩:=ah n (by simp at hn;omega);have hx:=hb x (by simp);have hp:(256:Int)^(pre++[x]).length=256^pre.length*256:=by rw[zab,List.length_singleton,Int.pow_succ]
  have hp3:(256:Int)^pre.length<=16777216:=by
   simp only[zab,zac]at hl;have:pre.length=0\/pre.length=1\/pre.length=2\/pre.length=3:=by omega
   rcases this with h|h|h|h<;>rw[h]<;>decide
  have:=ih (pre++[x]) n (s*256+x) (by simp at hn;omega) (by simpa using hl) (fun y hy=>hb y (zay _ hy)) (by omega) (by rw[hp];omega);simp only[zac,zab]at hn hl;rw[wI];unfold yk;dsimp only;rw[aK (by simp only[zab,zac];omega),bQ (by omega) (by simp only[zab,zac];omega),aJ (by simp)];have hg:(pre++x::rest).getD (pre.length:Int).toNat 0=x:=by simp
  rw[hg,OS h0 (by omega) hx.1 hx.2];have e:w64 ((pre.length:Int)+1)=((pre++[x]).length:Int):=by
   rw[aa (by omega) (by omega)];simp
  rw[e,show pre++x::rest=(pre++[x])++rest by simp,this];rfl
def f165:LI0->Bool × List Un:=fun a0=>(decide (a0.length<=4)&&a0.all fun x=>decide (0<=x/\x<256),[.i (dv a0)])
theorem Sb:ER 165 (mkE Xb.en Xb.ex f165):=ak ae Ur.right (fun m=>[IK (uR m m)]) (t:=t165) (by kernel_rfl) (fun m=>(aI (Yj m m) az)) (fun m a=>by kernel_rfl) fun a0 hc=>by
 dsimp only[f165]at hc⊢;simp only[zae,zag,zam]at hc;refine⟨a0.length+1, ?_⟩;exact acx (a0.length+1) a0 [] (a0.length+1) 0 (by omega) (by simpa using hc.1) hc.2 (by omega) (by simp)
def Xi:TB:=Ur.ad Sb
theorem u8m (x:Int):wu8 x=x%256:=by show IntKind.u8.wrap x=_;simp[IntKind.wrap,IntKind.bits,IntKind.signed]
def fg (n:Int):LI0:=[n/256%256,n%256]
def di (s:Int) (b:LI0):LI0:=fg (b.length:Int)++fg (s/65536)++fg s
def cQ (s:Int) (b:LI0):LI0:=di s b++fg (cK (di s b))++b++fg (cK b)
theorem PB (x k:Int) (hk:0<k):Int.fdiv x k=x/k:=Int.fdiv_eq_ediv_of_nonneg _ (by omega)
theorem vi (n:Int):∀x∈fg n,0<=x/\x<256:=by
 intro x hx;simp only[fg,zaN,zbH,or_false]at hx;omega
theorem rX (s:Int) (b:LI0):∀x∈di s b,0<=x/\x<256:=by
 intro x hx;simp only[di,za0]at hx;rcases hx with(hx|hx)|hx<;>exact vi _ x hx
theorem ui (s:Int) (b:LI0):(di s b).length=6:=rfl
theorem lS (s:Int) (b:LI0):(cQ s b).length=b.length+10:=by
 simp only[cQ,zab,ui,fg,zac,zar];omega
theorem U1 (l:LI0):0<=cK l/\cK l<65536:=by unfold cK;omega
theorem tL {α:Type} (h x z:List α) (k:Nat) (hk:h.length=k) (hx:x.length<=z.length):List.take k (h++z)++x++List.drop (k+x.length) (h++z)=h++x++z.drop x.length:=by
 subst hk;rw[zb1 (zap _),List.take_length,List.drop_append,List.drop_of_length_le (show h.length<=h.length+x.length by omega),Nat.add_sub_cancel_left,zas]
def acJ:aA:=⟨Xi.tab,129,⟨[.z0,.ints .u8],[],0⟩,⟨[.ints .u8],[],0⟩,[]⟩
def t129 (m:Nat):Int × LI0->OU0:=fun(a0,a1)=>
 bif decide (a0<0)then
 some ([.l ([]:LI0)])
 else
 bif (decide (a0>4294967295))then
 some ([.l ([]:LI0)])
 else
 bif (decide ((a1.length:Int)>60000))then
 some ([.l ([]:LI0)])
 else
 lt ((Int.fdiv (a1.length:Int) (2^(min (8:Int).toNat 64))):Int) fun x3=>
 lt ((Int.fdiv a0 (2^(min (16:Int).toNat 64))):Int) fun x4=>
 lt ((Int.fdiv x4 (2^(min (8:Int).toNat 64))):Int) fun x5=>
 lt ((Int.fdiv a0 (2^(min (8:Int).toNat 64))):Int) fun x6=>
 lt ((List.take 0 (List.replicate 6 0)++([(wu8 x3),(wu8 (a1.length:Int))])++List.drop (0+([(wu8 x3),(wu8 (a1.length:Int))]).length) (List.replicate 6 0)):LI0) fun l7=>
 lt ((List.take 2 l7++([(wu8 x5),(wu8 x4)])++List.drop (2+([(wu8 x5),(wu8 x4)]).length) l7):LI0) fun l8=>
 lt ((List.take 4 l8++([(wu8 x6),(wu8 a0)])++List.drop (4+([(wu8 x6),(wu8 a0)]).length) l8):LI0) fun l9=>
 chk (cF (List.take 6 l9))<|
 lt ((Int.fdiv (cK (List.take 6 l9)) (2^(min (8:Int).toNat 64))):Int) fun x10=>
 lt ((wu8 (cK (List.take 6 l9))):Int) fun x11=>
 chk (cF a1)<|
 lt ((Int.fdiv (cK a1) (2^(min (8:Int).toNat 64))):Int) fun x12=>
 lt ((w64 (8+(a1.length:Int))):Int) fun x13=>
 bif decide (x13<0)then
 none
 else
 bif (decide ((w64 (x13+2))<0))then
 none
 else
 bif (decide ((w64 (x13+2))<0))then
 none
 else
 lt ((w64 ((w64 (x13+2))-0)):Int) fun x16=>
 bif decide (x16>0)then
 chk (decide (0<=x16/\x16<1099511627776/\x16.toNat*1<35184372088832))<|
 lt ((List.replicate x16.toNat 0):LI0) fun l17=>
 chk (true&&(true&&decide (0<=0/\0<=l17.length)))<|
 chk (decide (6<=l17.length))<|
 lt ((List.take 0 l17++(List.take 6 l9)++List.drop (0+(List.take 6 l9).length) l17):LI0) fun l18=>
 chk (decide (8<=l18.length))<|
 lt ((List.take 6 l18++([(wu8 x10),x11])++List.drop (6+([(wu8 x10),x11]).length) l18):LI0) fun l19=>
 chk (fits (8+a1.length) 1)<|
 chk (decide ((8+a1.length)<=l19.length))<|
 lt ((List.take 8 l19++a1++List.drop (8+a1.length) l19):LI0) fun l20=>
 chk (fits ((8+a1.length)+2) 1)<|
 chk (decide (((8+a1.length)+2)<=l20.length))<|
 some ([.l (List.take ((8+a1.length)+2) (List.take (8+a1.length) l20++([(wu8 x12),(wu8 (cK a1))])++List.drop ((8+a1.length)+([(wu8 x12),(wu8 (cK a1))]).length) l20))])
 else
 lt (((List.take 6 l9)++([(wu8 x10),x11])):LI0) fun l22=>
 chk (fits (8+a1.length) 1)<|
 chk (fits ((l22++a1).length+2) 1)<|
 some ([.l ((l22++a1)++([(wu8 x12),(wu8 (cK a1))]))])
def f129:Int × LI0->Bool × List Un:=fun(a0,a1)=>(decide (0<=a0/\a0<=4294967295/\a1.length<=60000)&&cF a1,[.l (cQ a0 a1)])
theorem Px:ER 129 (mkE acJ.en acJ.ex f129):=ak ae Xi.right (fun m=>[]) (t:=t129) (by kernel_rfl) (fun m=>az) (fun m a=>by kernel_rfl) fun(a0,a1) hc=>by
 dsimp only[f129]at hc⊢;rw[zae]at hc;obtain⟨⟨h0,h1,h2⟩,hb⟩:=(⟨zaj hc.1,hc.2⟩:(0<=a0/\a0<=4294967295/\a1.length<=60000)/\cF a1=true)
 refine⟨0,ck (zao (by omega)) (ck (zao (by omega)) (ck (zao (by omega)) ?_))⟩;dsimp only[lt];rw[show(2:Int)^(min (8:Int).toNat 64)=256 by decide,show(2:Int)^(min (16:Int).toNat 64)=65536 by decide];simp only[PB _ 256 (by decide),PB _ 65536 (by decide),u8m];have hh:(List.take 4 (List.take 2 (List.take 0 (List.replicate 6 (0:Int))++[(a1.length:Int)/256%256,(a1.length:Int)%256]++List.drop (0+[(a1.length:Int)/256%256,(a1.length:Int)%256].length) (List.replicate 6 0))++[a0/65536/256%256,a0/65536%256]++List.drop (2+[a0/65536/256%256,a0/65536%256].length) (List.take 0 (List.replicate 6 0)++[(a1.length:Int)/256%256,(a1.length:Int)%256]++List.drop (0+[(a1.length:Int)/256%256,(a1.length:Int)%256].length) (List.replicate 6 0)))++[a0/256%256,a0%256]++List.drop (4+[a0/256%256,a0%256].length) (List.take 2 (List.take 0 (List.replicate 6 0)++[(a1.length:Int)/256%256,(a1.length:Int)%256]++List.drop (0+[(a1.length:Int)/256%256,(a1.length:Int)%256].length) (List.replicate 6 0))++[a0/65536/256%256,a0/65536%256]++List.drop (2+[a0/65536/256%256,a0/65536%256].length) (List.take 0 (List.replicate 6 0)++[(a1.length:Int)/256%256,(a1.length:Int)%256]++List.drop (0+[(a1.length:Int)/256%256,(a1.length:Int)%256].length) (List.replicate 6 0))))=di a0 a1:=rfl;simp only[hh];have hl6:=ui a0 a1;have ht:List.take 6 (di a0 a1)=di a0 a1:=rfl;simp only[ht];have hs:=U1 (di a0 a1);refine al (ez.2 ⟨by omega,rX a0 a1⟩) (al hb ?_);rw[aa (n:=8+(a1.length:Int)) (by omega) (by omega),aa (n:=8+(a1.length:Int)+2) (by omega) (by omega),zbv,aa (n:=8+(a1.length:Int)+2) (by omega) (by omega)];refine ck (zao (by omega)) (ck (zao (by omega)) (ck (zao (by omega)) (cq (zaa (by omega)) (al (zaa ⟨by omega,by omega,by omega⟩) ?_))));have e0:(8+(a1.length:Int)+2).toNat=a1.length+10:=by omega
 rw[e0];have e1:=tL ([]:LI0) (di a0 a1) (List.replicate (a1.length+10) 0) 0 rfl (by rw[hl6,zbn];omega);rw[zas,zas]at e1;rw[e1,hl6,List.drop_replicate];have two:fg (cK (di a0 a1))=[cK (di a0 a1)/256%256,cK (di a0 a1)%256]:=rfl;have two2:fg (cK a1)=[cK a1/256%256,cK a1%256]:=rfl;rw[<-two,<-two2];have t2:∀n,(fg n).length=2:=fun n=>rfl
 have e2:=tL (di a0 a1) (fg (cK (di a0 a1))) (List.replicate (a1.length+10-6) 0) 6 hl6 (by rw[t2,zbn];omega);rw[e2,t2,List.drop_replicate];have e3:=tL (di a0 a1++fg (cK (di a0 a1))) a1 (List.replicate (a1.length+10-6-2) 0) 8 (by rw[zab,hl6,t2]) (by rw[zbn];omega);rw[e3,List.drop_replicate];have e4:=tL (di a0 a1++fg (cK (di a0 a1))++a1) (fg (cK a1)) (List.replicate (a1.length+10-6-2-a1.length) 0) (8+a1.length) (by rw[zab,zab,hl6,t2]) (by rw[t2,zbn];omega);rw[e4,t2,List.drop_replicate,show a1.length+10-6-2-a1.length-2=0 by omega,List.replicate_zero,zaK];have e5:List.take (8+a1.length+2) (di a0 a1++fg (cK (di a0 a1))++a1++fg (cK a1))=di a0 a1++fg (cK (di a0 a1))++a1++fg (cK a1):=zbq (by simp only[zab,hl6,t2];omega);rw[e5];have lens:(di a0 a1++List.replicate (a1.length+10-6) 0).length=a1.length+10:=by rw[zab,hl6,zbn];omega
 refine al (by rw[zbn,zaa (show 0<=0/\0<=a1.length+10 by omega)];rfl) (al (zaa (by rw[zbn];omega)) (al (zaa (by simp only[zab,zbn,hl6];omega)) ?_));rw[bD (by omega) (by omega)];refine al (zaa (by simp only[zab,zbn,hl6,t2];omega)) ?_
 rw[bD (by omega) (by omega)];exact al (zaa (by simp only[zab,zbn,hl6,t2];omega)) rfl
def XO:TB:=Xi.ad Px
structure OpR where
 text:List Int
 seq:Int
 next:Int
 how:Int
def lD (r:LI0) (a:Int):OpR:=
 bif decide ((r.length:Int)<8)then⟨[],0,0,1⟩
 else bif cK (r.take 6) !=dv ((r.drop 6).take 2)then⟨[],0,0,2⟩
 else bif decide (dv (r.take 2)>60000)then⟨[],0,0,2⟩
 else bif decide ((r.length:Int)-8<dv (r.take 2)+2)then⟨[],0,0,1⟩
 else bif cK ((r.drop 8).take (dv (r.take 2)).toNat) !=dv ((r.drop (8+(dv (r.take 2)).toNat)).take 2)then⟨[],0,0,2⟩
 else⟨(r.drop 8).take (dv (r.take 2)).toNat,dv ((r.drop 2).take 4),a+10+dv (r.take 2),0⟩
def dT (b:LI0) (a:Int):OpR:=bif decide (a<0)||decide (a>(b.length:Int))then⟨[],0,0,2⟩else lD (b.drop a.toNat) a
theorem Fj:∀(l:LI0),(∀x∈l,0<=x/\x<256)->∀s:Int,0<=s->0<=l.foldl (fun n x=>n*256+x) s
 |[],_,s,h=>h
 |x::l,hb,s,h=>by
  have:=hb x (by simp);exact Fj l (fun y hy=>hb y (zay _ hy)) (s*256+x) (by omega)
def TY:aA:=⟨XO.tab,122,⟨[.ints .u8,.z0],[],0⟩,⟨[.ints .u8,.z0,.z0,.z0],[],0⟩,[]⟩
def t122 (m:Nat):LI0 × Int->OU0:=fun(a0,a1)=>
 bif decide (a1<0)then
 some ([.l ([]:LI0),.i 0,.i 0,.i 2])
 else
 bif (decide (a1>(a0.length:Int)))then
 some ([.l ([]:LI0),.i 0,.i 0,.i 2])
 else
 chk (true&&(decide (0<=a1)&&decide (a1.toNat<=a0.length/\a0.length<=a0.length)))<|
 lt ((List.take (a0.length-a1.toNat) (List.drop a1.toNat a0)):LI0) fun l2=>
 bif (decide ((l2.length:Int)<8))then
 some ([.l ([]:LI0),.i 0,.i 0,.i 1])
 else
 chk (true&&(true&&decide (0<=2/\2<=l2.length)))<|
 chk (decide ((List.take 2 l2).length<=4)&&(List.take 2 l2).all fun x=>decide (0<=x/\x<256))<|
 chk (true&&(true&&decide (0<=6/\6<=l2.length)))<|
 chk (cF (List.take 6 l2))<|
 chk (true&&(true&&decide (6<=8/\8<=l2.length)))<|
 lt ((List.take 2 (List.drop 6 l2)):LI0) fun l4=>
 chk (decide (l4.length<=4)&&l4.all fun x=>decide (0<=x/\x<256))<|
 bif ((cK (List.take 6 l2)) !=(dv l4))then
 some ([.l ([]:LI0),.i 0,.i 0,.i 2])
 else
 bif (decide ((dv (List.take 2 l2))>60000))then
 some ([.l ([]:LI0),.i 0,.i 0,.i 2])
 else
 bif decide ((w64 ((l2.length:Int)-8))<(w64 ((dv (List.take 2 l2))+2)))then
 some ([.l ([]:LI0),.i 0,.i 0,.i 1])
 else
 lt ((w64 (8+(dv (List.take 2 l2)))):Int) fun x9=>
 chk (decide (0<=x9)&&(true&&decide (8<=x9.toNat/\x9.toNat<=l2.length)))<|
 lt ((List.take (x9.toNat-8) (List.drop 8 l2)):LI0) fun l10=>
 chk (cF l10)<|
 lt ((w64 (8+(dv (List.take 2 l2)))):Int) fun x11=>
 lt ((w64 (8+(dv (List.take 2 l2)))):Int) fun x12=>
 chk (decide (0<=(w64 (x12+2)))&&(decide (0<=x11)&&decide (x11.toNat<=(w64 (x12+2)).toNat/\(w64 (x12+2)).toNat<=l2.length)))<|
 lt ((List.take (((w64 (x12+2)).toNat)-x11.toNat) (List.drop x11.toNat l2)):LI0) fun l13=>
 chk (decide (l13.length<=4)&&l13.all fun x=>decide (0<=x/\x<256))<|
 bif ((cK l10) !=(dv l13))then
 some ([.l ([]:LI0),.i 0,.i 0,.i 2])
 else
 chk (decide (l10.length<1000000))<|
 chk (true&&(true&&decide (2<=6/\6<=l2.length)))<|
 lt ((List.take 4 (List.drop 2 l2)):LI0) fun l15=>
 chk (decide (l15.length<=4)&&l15.all fun x=>decide (0<=x/\x<256))<|
 some ([.l l10,.i (dv l15),.i (w64 ((w64 ((w64 (a1+8))+(dv (List.take 2 l2))))+2)),.i 0])
def f122:LI0 × Int->Bool × List Un:=fun(a0,a1)=>(cF a0,[.l ((dT a0 a1).text),.i ((dT a0 a1).seq),.i ((dT a0 a1).next),.i ((dT a0 a1).how)])
theorem Ga:ER 122 (mkE TY.en TY.ex f122):=ak ae XO.right (fun m=>[]) (t:=t122) (by kernel_rfl) (fun m=>az) (fun m a=>by kernel_rfl) fun(a0,a1) hc=>by
 dsimp only[f122]at hc⊢;obtain⟨hl,hb⟩:=ez.1 hc;refine⟨0, ?_⟩;unfold t122 dT
 try dsimp only
 by_cases h0:a1<0
 . rw[aK h0,zaa h0];rfl
 rw[ay h0,zao h0]
 by_cases h1:a1>(a0.length:Int)
 . rw[aK h1,zaa h1];rfl
 rw[ay h1,zao h1];refine al (by rw[zaa (show 0<=a1 by omega),zaa (show a1.toNat<=a0.length/\a0.length<=a0.length by omega)];rfl) ?_
 dsimp only[lt,Bool.or_self,cond_false];rw[zbq (show(List.drop a1.toNat a0).length<=a0.length-a1.toNat by rw[zbd];omega)];have hbr:∀x∈List.drop a1.toNat a0,0<=x/\x<256:=fun x hx=>hb x (List.mem_of_mem_drop hx)
 have hlr:(List.drop a1.toNat a0).length<=1000000:=by rw[zbd];omega
 generalize List.drop a1.toNat a0=r at*
 unfold lD
 by_cases h2:(r.length:Int)<8
 . rw[aK h2,zaa h2];rfl
 rw[ay h2,zao h2];have bt:∀k,∀x∈List.take k r,0<=x/\x<256:=fun k x hx=>hbr x (List.mem_of_mem_take hx)
 have bd:∀j k,∀x∈List.take k (List.drop j r),0<=x/\x<256:=fun j k x hx=>hbr x (List.mem_of_mem_drop (List.mem_of_mem_take hx))
 have few:∀(l:LI0),l.length<=4->(∀x∈l,0<=x/\x<256)->(decide (l.length<=4)&&l.all fun x=>decide (0<=x/\x<256))=true:=fun l h k=>by
  rw[zaa h,zbb,zam];exact fun x hx=>zaa (k x hx)
 have tl:∀k,(List.take k r).length<=k:=fun k=>by rw[zav];omega
 have dl:∀j k,(List.take k (List.drop j r)).length<=k:=fun j k=>by rw[zav];omega
 have tr:∀(k:Nat),k<=r.length->(true&&(true&&decide (0<=k/\k<=r.length)))=true:=fun k h=>by rw[zaa (show 0<=k/\k<=r.length by omega)];rfl
 have tr2:∀(j k:Nat),j<=k->k<=r.length->(true&&(true&&decide (j<=k/\k<=r.length)))=true:=fun j k h h'=>by rw[zaa (show j<=k/\k<=r.length from⟨h,h'⟩)];rfl
 have n0:=Fj _ (bt 2) 0 (by omega);rw[show List.foldl (fun n x=>n*256+x) 0 (List.take 2 r)=dv (List.take 2 r) from rfl]at n0;refine al (tr 2 (by omega)) (al (few _ (by have:=tl 2;omega) (bt 2)) (al (tr 6 (by omega)) (al (ez.2 ⟨by have:=tl 6;omega,bt 6⟩) (al (tr2 6 8 (by decide) (by omega)) (al (few _ (by have:=dl 6 2;omega) (bd 6 2)) ?_)))));cases (cK (List.take 6 r) !=dv (List.take 2 (List.drop 6 r)))
 case true=>rfl
 by_cases h3:dv (List.take 2 r)>60000
 . rw[zal,aK h3,zaa h3];rfl
 rw[zal,ay h3,zao h3];generalize dv (List.take 2 r)=n at*
 rw[aa (n:=(r.length:Int)-8) (by omega) (by omega),aa (n:=n+2) (by omega) (by omega),aa (n:=8+n) (by omega) (by omega),aa (n:=8+n+2) (by omega) (by omega)]
 by_cases h4:(r.length:Int)-8<n+2
 . rw[aK h4,zaa h4];rfl
 rw[ay h4,zao h4];have e8:(8+n).toNat=8+n.toNat:=by omega
 have e10:(8+n+2).toNat=8+n.toNat+2:=by omega
 rw[e8,e10,show 8+n.toNat-8=n.toNat by omega,show 8+n.toNat+2-(8+n.toNat)=2 by omega];refine al (by rw[zaa (show 0<=8+n by omega),zaa (show 8<=8+n.toNat/\8+n.toNat<=r.length by omega)];rfl) (al (ez.2 ⟨by have:=dl 8 n.toNat;omega,bd 8 n.toNat⟩) (al (by rw[zaa (show 0<=8+n+2 by omega),zaa (show 0<=8+n by omega),zaa (show 8+n.toNat<=8+n.toNat+2/\8+n.toNat+2<=r.length by omega)];rfl) (al (few _ (by have:=dl (8+n.toNat) 2;omega) (bd (8+n.toNat) 2)) ?_)));cases (cK (List.take n.toNat (List.drop 8 r)) !=dv (List.take 2 (List.drop (8+n.toNat) r)))
 case true=>rfl
 refine al (zaa (by have:=dl 8 n.toNat;omega)) (al (tr2 2 6 (by decide) (by omega)) (al (few _ (by have:=dl 2 4;omega) (bd 2 4)) ?_));rw[aa (n:=a1+8) (by omega) (by omega),aa (n:=a1+8+n) (by omega) (by omega),aa (n:=a1+8+n+2) (by omega) (by omega),show a1+8+n+2=a1+10+n by omega];rfl
def aeO:TB:=XO.ad Ga
def aaB:OpR->List Un:=fun r=>[.l r.text,.i r.seq,.i r.next,.i r.how]
def acn:LI0 × Int->Bool × OpR:=fun(a0,a1)=>(cF a0,(dT a0 a1))
theorem Np:ER 122 (mkB TY.en TY.ex acn aaB):=rebind Ga fun(a0,a1)=>rfl
def Lf:TB:=aeO.ad Np
@[ext] structure eZ where
 count:Int
 bad:Bool
instance : Uns eZ := Uns.via (B := Int × Bool) (fun x => (x.count, x.bad)) (fun x => match x with | (count, bad) => ⟨count, bad⟩) (fun _ => rfl)
def pk (l:LI0):Dat:= .r [.r (l.map .n)]
structure WH where
 l:List Dat
 pos:Int
 ok:Bool
def jz:Nat->LI0->Int->LD0->WH
 |0,_,a,acc=>⟨acc,a,true⟩
 |k+1,b,a,acc=>
  bif decide (a<(b.length:Int))then
   bif (dT b a).how==1 then⟨acc,a,true⟩
   else bif (dT b a).how==2 then⟨[],0,false⟩
   else bif (dT b a).seq !=(acc.length:Int)+1 then⟨[],0,false⟩
   else jz k b (dT b a).next (acc++[pk (dT b a).text])
  else⟨acc,a,true⟩
def cG (b:LI0):WH:=jz (b.length+1) b 0 []
theorem JF {r:LI0} {a:Int} (h1:(lD r a).how≠1) (h2:(lD r a).how≠2):(lD r a).next=a+10+dv (r.take 2)/\dv (r.take 2)+10<=(r.length:Int):=by
 unfold lD at h1 h2⊢
 by_cases c1:(r.length:Int)<8
 . rw[zaa c1]at h1;exact absurd rfl h1
 rw[zao c1]at h1 h2⊢;simp only[zal]at h1 h2⊢;cases c2:(cK (r.take 6) !=dv ((r.drop 6).take 2))
 case true=>rw[c2]at h2;exact absurd rfl h2
 rw[c2]at h1 h2;simp only[zal]at h1 h2⊢
 by_cases c3:dv (r.take 2)>60000
 . rw[zaa c3]at h2;exact absurd rfl h2
 rw[zao c3]at h1 h2⊢;simp only[zal]at h1 h2⊢
 by_cases c4:(r.length:Int)-8<dv (r.take 2)+2
 . rw[zaa c4]at h1;exact absurd rfl h1
 rw[zao c4]at h1 h2⊢;simp only[zal]at h1 h2⊢;cases c5:(cK ((r.drop 8).take (dv (r.take 2)).toNat) !=dv ((r.drop (8+(dv (r.take 2)).toNat)).take 2))
 case true=>rw[c5]at h2;exact absurd rfl h2
 simp only[zal];exact⟨trivial,by omega⟩
theorem pG {b:LI0} {a:Int} (h0:0<=a) (h1:a<=(b.length:Int)):dT b a=lD (b.drop a.toNat) a:=by
 unfold dT;rw[zao (show ¬a<0 by omega),zao (show ¬a>(b.length:Int) by omega)];rfl
theorem rS {b:LI0} {a:Int} (hb:∀x∈b,0<=x/\x<256) (h0:0<=a) (h1:a<=(b.length:Int)) (k1:(dT b a).how≠1) (k2:(dT b a).how≠2):a+10<=(dT b a).next/\(dT b a).next<=(b.length:Int):=by
 rw[pG h0 h1]at k1 k2⊢;obtain⟨e1,e2⟩:=JF k1 k2;rw[zbd]at e2;have n0:=Fj (List.take 2 (b.drop a.toNat)) (fun x hx=>hb x (List.mem_of_mem_drop (List.mem_of_mem_take hx))) 0 (by omega);rw[show List.foldl (fun n x=>n*256+x) 0 (List.take 2 (b.drop a.toNat))=dv (List.take 2 (b.drop a.toNat)) from rfl]at n0;omega
theorem FX {b:LI0} (hb:∀x∈b,0<=x/\x<256):∀(k:Nat) (a:Int) (acc:LD0),0<=a->a<=(b.length:Int)->0<=(jz k b a acc).pos/\(jz k b a acc).pos<=(b.length:Int)
 |0,a,acc,h0,h1=>⟨h0,h1⟩
 |k+1,a,acc,h0,h1=>by
  simp only[jz]
  by_cases c:a<(b.length:Int)
  . rw[zaa c,zaw]
    by_cases k1:(dT b a).how=1
    . rw[jG k1];exact⟨h0,h1⟩
    rw[lB k1,zal]
    by_cases k2:(dT b a).how=2
    . rw[jG k2,zaw];exact⟨zcb _,(by omega:(0:Int)<=(b.length:Int))⟩
    rw[lB k2,zal];cases ((dT b a).seq !=(acc.length:Int)+1)
    . rw[zal];obtain⟨n1,n2⟩:=rS hb h0 h1 k1 k2;exact FX hb k _ _ (by omega) n2
    . exact⟨zcb _,(by omega:(0:Int)<=(b.length:Int))⟩
  . rw[zao c];exact⟨h0,h1⟩
theorem Ow {b:LI0} (hb:∀x∈b,0<=x/\x<256):0<=(cG b).pos/\(cG b).pos<=(b.length:Int):=FX hb _ 0 [] (by omega) (by omega)
def N89:aA:=⟨Lf.tab,89,⟨[.ints .u8],[],0⟩,⟨[.ab [.ints .u8],.z0,.bool],[],0⟩,[]⟩
abbrev MA:Type:=LI0 × Int × LD0
def Kf (m:Nat) (k:MA->OU0):MA->OU0:=fun(a0,a1,a2)=>
 bif (decide (a1<(a0.length:Int)))then
 chk (cF a0)<|
 bd ((dT a0 a1):OpR) fun r2=>
 bif r2.how==1 then
 some ([.d a2,.i a1,.b true])
 else
 bif r2.how==2 then
 some ([.d ([]:LD0),.i 0,.b false])
 else
 bif r2.seq !=(w64 ((a2.length:Int)+1))then
 some ([.d ([]:LD0),.i 0,.b false])
 else
 chk (fits (a2.length+1) 24)<|
 k (a0,r2.next,(a2++([.r [.r (List.map .n r2.text)]])))
 else
 some ([.d a2,.i a1,.b true])
def B6 (m:Nat):Nat->MA->OU0:=aX (Kf m)
theorem Kj (m:Nat) (n:Nat):B6 m (n+1)=Kf m (B6 m n):=rfl
def Ox (F:MA->OU0):aQ:=⟨[.lp [0,0,1,1,1],.blk 0,.code [1,1,1,1]],⟨frm 41 [(0,.ints .u8),(5,.buf 0 1),(6,.z0)],[.ab [.ints .u8]],0⟩,onU F⟩
theorem ab3 (m:Nat):∀n,HO N89 (Ox (B6 m n)):=an ae Lf.right (fun k=>[Ox k]) (fun k h=>(aI h az)) fun k a=>by kernel_rfl
def t89 (m:Nat):LI0->OU0:=fun a0=>
 B6 m m (a0,0,[])
theorem YX (m:Nat) {b:LI0} (hl:b.length<=1000000) (hb:∀x∈b,0<=x/\x<256):∀(k n:Nat) (a:Int) (acc:LD0),k<n->(b.length:Int)-a<k->0<=a->a<=(b.length:Int)->(acc.length:Int)<=a->
 B6 m n (b,a,acc)=some [.d (jz k b a acc).l,.i (jz k b a acc).pos,.b (jz k b a acc).ok]:=by
 intro k
 induction k with
 |zero=>intro n a acc hn hk h0 h1 ha;omega
 |succ k ih=>
  intro n a acc hn hk h0 h1 ha;obtain⟨n,rfl⟩:=ah n (by omega);rw[Kj];unfold Kf;dsimp only;simp only[jz]
  by_cases c:a<(b.length:Int)
  . rw[zaa c,zaw,zaw];refine al (ez.2 ⟨hl,hb⟩) ?_
    dsimp only[bd]
    by_cases k1:(dT b a).how=1
    . rw[jG k1];rfl
    rw[lB k1,zal,zal]
    by_cases k2:(dT b a).how=2
    . rw[jG k2];rfl
    rw[lB k2,zal,zal,aa (n:=(acc.length:Int)+1) (by omega) (by omega)];obtain⟨n1,n2⟩:=rS hb h0 h1 k1 k2;cases ((dT b a).seq !=(acc.length:Int)+1)
    . rw[zal,zal,bD (by omega) (by omega)];exact ih n _ _ (by omega) (by omega) (by omega) n2 (by simp;omega)
    . rfl
  . rw[zao c];rfl
def f89:LI0->Bool × List Un:=fun a0=>(cF a0,[.d ((cG a0).l),.i ((cG a0).pos),.b ((cG a0).ok)])
theorem VJ:ER 89 (mkE N89.en N89.ex f89):=ak ae Lf.right (fun m=>[Ox (B6 m m)]) (t:=t89) (by kernel_rfl) (fun m=>(aI (ab3 m m) az)) (fun m a=>by kernel_rfl) fun a0 hc=>by
 dsimp only[f89]at hc⊢;obtain⟨hl,hb⟩:=ez.1 hc;exact⟨a0.length+3,YX (a0.length+3) hl hb (a0.length+1) _ 0 [] (by omega) (by omega) (by omega) (by omega) (by simp)⟩
def T89:TB:=Lf.ad VJ
structure afd where
 j:Int
 l:List Dat
 e:Int
 n:bc
 b:List Int
 c:eZ
def ta (m:bc) (b:LI0):afd:=
 bif m.off then⟨-1,[],7,m,b,⟨0,false⟩⟩
 else bif !(cG b).ok then⟨-1,[],8,m,b,⟨0,false⟩⟩
 else bif decide ((cG b).pos<(b.length:Int))then
  bif (bz m).1 then⟨0,(cG b).l,0,{(bz m).2 with lI:=(cG b).pos},b.take (cG b).pos.toNat,⟨((cG b).l.length:Int),false⟩⟩
  else⟨-1,[],7,(bz m).2,b,⟨0,false⟩⟩
 else⟨0,(cG b).l,0,m,b,⟨((cG b).l.length:Int),false⟩⟩
structure RV where
 e:Int
 c:eZ
 n:bc
 b:List Int
def ti (x:LI0) (c:eZ) (m:bc) (b:LI0):RV:=
 bif c.bad then⟨8,c,m,b⟩
 else bif (bz m).1 then
  bif (bz (bz m).2).1 then⟨0,{c with count:=c.count+1},{(bz (bz m).2).2 with lI:=((b++cQ (c.count+1) x).length:Int)},b++cQ (c.count+1) x⟩
  else⟨7,{c with bad:=true},(bz (bz m).2).2,b++cQ (c.count+1) x⟩
 else⟨7,{c with bad:=true},(bz m).2,b⟩
def N93:aA:=⟨T89.tab,93,⟨[.ptr 0 0 0,.ints .u8],[.cells [.ptr 1 0 0,.z0,.bool],.cells [.buf 2 1,.z0,.bool,.z0,.bool],.ints .u8],0⟩,⟨[.z0],[.cells [.ptr 1 0 0,.z0,.bool],.cells [.buf 3 1,.z0,.bool,.z0,.bool],.gone,.ints .u8],0⟩,[]⟩
def t93 (m:Nat):LI0 × eZ × bc × LI0->OU0:=fun(a0,a1,a2,a3)=>
 chk (decide (0<=(w64 (a1.count+1))/\(w64 (a1.count+1))<=4294967295/\a0.length<=60000)&&cF a0)<|
 lt ((cQ (w64 (a1.count+1)) a0):LI0) fun l1=>
 bif decide (l1.length=0)then
 both (
 some ([.i 1]++Uns.enc (a1:eZ)++Uns.enc (a2:bc)++[.l a3])) (
 bif a1.bad then
 some ([.i 8]++Uns.enc (a1:eZ)++Uns.enc (a2:bc)++[.l a3])
 else
 chk (decide (a3.length+l1.length<1000000))<|
 lt ((bif (bz a2).1 then 0 else 7:Int):Int) fun x2=>
 lt ((bif (bz a2).1 then a3++l1 else a3):LI0) fun l3=>
 bif x2==0 then
 lt ((bif (bz ((bz a2).2)).1 then 0 else 7:Int):Int) fun x4=>
 lt ((bif (bz ((bz a2).2)).1 then {(bz ((bz a2).2)).2 with lI:=(l3.length:Int)}else(bz ((bz a2).2)).2):bc) fun g5=>
 bif x4 !=0 then
 some ([.i x4]++Uns.enc (({a1 with bad:=true}:eZ):eZ)++Uns.enc (g5:bc)++[.l l3])
 else
 some ([.i 0]++Uns.enc (({a1 with count:=(w64 (a1.count+1))}:eZ):eZ)++Uns.enc (g5:bc)++[.l l3])
 else
 bif x2 !=0 then
 some ([.i x2]++Uns.enc (({a1 with bad:=true}:eZ):eZ)++Uns.enc (((bz a2).2):bc)++[.l l3])
 else
 some ([.i 0]++Uns.enc (({a1 with count:=(w64 (a1.count+1))}:eZ):eZ)++Uns.enc (((bz a2).2):bc)++[.l l3]))
 else
 bif a1.bad then
 some ([.i 8]++Uns.enc (a1:eZ)++Uns.enc (a2:bc)++[.l a3])
 else
 chk (decide (a3.length+l1.length<1000000))<|
 lt ((bif (bz a2).1 then 0 else 7:Int):Int) fun x6=>
 lt ((bif (bz a2).1 then a3++l1 else a3):LI0) fun l7=>
 bif x6==0 then
 lt ((bif (bz ((bz a2).2)).1 then 0 else 7:Int):Int) fun x8=>
 lt ((bif (bz ((bz a2).2)).1 then {(bz ((bz a2).2)).2 with lI:=(l7.length:Int)}else(bz ((bz a2).2)).2):bc) fun g9=>
 bif x8 !=0 then
 some ([.i x8]++Uns.enc (({a1 with bad:=true}:eZ):eZ)++Uns.enc (g9:bc)++[.l l7])
 else
 some ([.i 0]++Uns.enc (({a1 with count:=(w64 (a1.count+1))}:eZ):eZ)++Uns.enc (g9:bc)++[.l l7])
 else
 bif x6 !=0 then
 some ([.i x6]++Uns.enc (({a1 with bad:=true}:eZ):eZ)++Uns.enc (((bz a2).2):bc)++[.l l7])
 else
 some ([.i 0]++Uns.enc (({a1 with count:=(w64 (a1.count+1))}:eZ):eZ)++Uns.enc (((bz a2).2):bc)++[.l l7])
def f93:LI0 × eZ × bc × LI0->Bool × List Un:=fun(a0,a1,a2,a3)=>(decide (0<=a1.count/\a1.count<1000000/\a0.length<=60000/\a3.length<900000)&&cF a0,[.i ((ti a0 a1 a2 a3).e)]++Uns.enc (((ti a0 a1 a2 a3).c):eZ)++Uns.enc (((ti a0 a1 a2 a3).n):bc)++[.l ((ti a0 a1 a2 a3).b)])
theorem L2:ER 93 (mkE N93.en N93.ex f93):=ak ae T89.right (fun m=>[]) (t:=t93) (by kernel_rfl) (fun m=>az) (fun m a=>by kernel_rfl) fun(a0,a1,a2,a3) hc=>by
 dsimp only[f93]at hc⊢;rw[zae]at hc;obtain⟨hd,hb⟩:=hc;obtain⟨h0,h1,h2,h3⟩:=zaj hd;have hs:=lS (a1.count+1) a0;refine⟨0, ?_⟩;unfold t93 ti
 try dsimp only
 rw[aa (n:=a1.count+1) (by omega) (by omega)];refine al (by rw[zaa (show 0<=a1.count+1/\a1.count+1<=4294967295/\a0.length<=60000 by omega),hb];rfl) ?_
 dsimp only[lt];generalize cQ (a1.count+1) a0=s at*
 refine ck (zao (by omega)) ?_
 cases a1.bad
 case true=>rfl
 rw[zal,zal];refine al (zaa (by omega)) ?_
 cases (bz a2).1
 case false=>rfl
 cases (bz (bz a2).2).1<;>rfl
def T93:TB:=T89.ad L2
def aeN:RV->List Un:=fun r=>[.i r.e]++Uns.enc (r.c:eZ)++Uns.enc (r.n:bc)++[.l r.b]
def ae0:LI0 × eZ × bc × LI0->Bool × RV:=fun(a0,a1,a2,a3)=>(decide (0<=a1.count/\a1.count<1000000/\a0.length<=60000/\a3.length<900000)&&cF a0,(ti a0 a1 a2 a3))
theorem Pd:ER 93 (mkB N93.en N93.ex ae0 aeN):=rebind L2 fun(a0,a1,a2,a3)=>rfl
def J6:TB:=T93.ad Pd
def dj (d:Dat):LI0:=[d.i 0,d.i 1]
def lK (d:Dat):LI0:=[d.i 0,d.i 1,d.i 2]
def bU (f:Dat->LI0) (l:LD0):LI0:=(l.length:Int)::l.flatMap f
def iB (d:aU):LI0:=[d.a.year,d.a.month,d.a.basis,d.b.fee,d.b.bq,d.b.target,d.b.advance,d.b.eX,d.b.oc,d.b.ic,d.b.late,d.b.kY,d.b.clean]++(bU dj d.aC++(bU lK d.notes++(bU dj d.s0++(bU dj d.s1++bU dj d.s2))))
def dG (d:aU):LI0:=bif (cD d).isSome then cO (iB d)else[]
def N15:aA:=⟨J6.tab,15,⟨[.agg [.z0,.z0,.z0,.ab (sI 2),.ab (sI 3),.z0,.z0,.z0,.z0,.z0,.z0,.z0,.z0,.z0,.z0,.ab (sI 2),.ab (sI 2),.ab (sI 2)]],[],0⟩,⟨[.buf 0 1],[.ints .u8],0⟩,[]⟩
abbrev KZ:Type:=LD0 × LD0 × LD0 × Int × LD0 × Int × Int × LI0
abbrev ri:Type:=LD0 × LD0 × LD0 × Int × LI0
abbrev La:Type:=LD0 × Int × Int × aU × LI0
abbrev Mr:Type:=LD0 × Int × Int × aU × LI0
def Fz (m:Nat) (k2:ri->OU0) (k:KZ->OU0):KZ->OU0:=fun(a0,a1,a2,a3,a4,a5,a6,a7)=>
 bif decide (a6<a5)then
 chk (inb a6 a4.length)<|
 chk (decide (a6.toNat<a4.length))<|
 lt (ai a4 a6.toNat:Dat) fun d7=>
 chk (fits (a7.length+2) 8)<|
 k (a0,a1,a2,a3,a4,a5,(w64 (a6+1)),(a7++([(d7.i 0),(d7.i 1)])))
 else
 k2 (a0,a1,a2,(w64 (a3+1)),a7)
def AZ (m:Nat) (k2:ri->OU0):Nat->KZ->OU0:=aX (Fz m k2)
theorem AP (m:Nat) (k2:ri->OU0) (n:Nat):AZ m k2 (n+1)=Fz m k2 (AZ m k2 n):=rfl
def RN (F:KZ->OU0):aQ:=⟨[.lp [0,1,1,1,0,0,1,1,0,0,1,0,1,1,1,1,1,1,1,1],.blk 6,.blk 5,.code [1,1,1,0,0,1,0,1,1,1,1,1,1,1,1],.lp [0,1,0,1,1,1,1,1,1,1,1],.blk 4,.code [1,1,1,1,1,1,1,1,1]],⟨frm 116 [(4,.buf 0 1),(90,.agg [.ab (sI 2),.ab (sI 2),.ab (sI 2)]),(91,.z0),(99,.ab (sI 2)),(100,.z0),(101,.z0)],[.ints .i64],0⟩,onU F⟩
def vG (m:Nat) (k:ri->OU0):ri->OU0:=fun(a0,a1,a2,a3,a4)=>
 bif decide (a3<3)then
 chk (inb a3 3)<|
 chk (decide (a3.toNat<3))<|
 chk (fits (a4.length+1) 8)<|
 AZ m k m (a0,a1,a2,a3,(List.getD [a0,a1,a2] a3.toNat []),((List.getD [a0,a1,a2] a3.toNat []).length:Int),0,(a4++([((List.getD [a0,a1,a2] a3.toNat []).length:Int)])))
 else
 chk (decide (a4.length<=1000000))<|
 some ([.l (cO a4)])
def y4 (m:Nat):Nat->ri->OU0:=aX (vG m)
theorem oQ (m:Nat) (n:Nat):y4 m (n+1)=vG m (y4 m n):=rfl
def MF (F:ri->OU0):aQ:=⟨[.lp [0,1,0,1,1,1,1,1,1,1,1],.blk 4,.code [1,1,1,1,1,1,1,1,1]],⟨frm 116 [(4,.buf 0 1),(90,.agg [.ab (sI 2),.ab (sI 2),.ab (sI 2)]),(91,.z0)],[.ints .i64],0⟩,onU F⟩
def EY (m:Nat) (k:La->OU0):La->OU0:=fun(a0,a1,a2,a3,a4)=>
 bif decide (a2<a1)then
 chk (inb a2 a0.length)<|
 chk (decide (a2.toNat<a0.length))<|
 lt (ai a0 a2.toNat:Dat) fun d4=>
 chk (fits (a4.length+3) 8)<|
 k (a0,a1,(w64 (a2+1)),a3,(a4++([(d4.i 0),(d4.i 1),(d4.i 2)])))
 else
 y4 m m (a3.s0,a3.s1,a3.s2,0,a4)
def Bf (m:Nat):Nat->La->OU0:=aX (EY m)
theorem Bl (m:Nat) (n:Nat):Bf m (n+1)=EY m (Bf m n):=rfl
def RE (F:La->OU0):aQ:=⟨[.lp [0,1,0,1,1,1,1,1,1,1],.blk 2,.code [1,1,1,1,1,1,1,1]],⟨frm 116 [(1,.ptr 0 0 0),(4,.buf 1 1),(73,.ab (sI 3)),(74,.z0),(75,.z0)],[.cells [.z0,.z0,.z0,.ab (sI 2),.ab (sI 3),.z0,.z0,.z0,.z0,.z0,.z0,.z0,.z0,.z0,.z0,.ab (sI 2),.ab (sI 2),.ab (sI 2)],.ints .i64],0⟩,onU F⟩
def DE (m:Nat) (k:Mr->OU0):Mr->OU0:=fun(a0,a1,a2,a3,a4)=>
 bif decide (a2<a1)then
 chk (inb a2 a0.length)<|
 chk (decide (a2.toNat<a0.length))<|
 lt (ai a0 a2.toNat:Dat) fun d1=>
 chk (fits (a4.length+2) 8)<|
 k (a0,a1,(w64 (a2+1)),a3,(a4++([(d1.i 0),(d1.i 1)])))
 else
 chk (fits (a4.length+1) 8)<|
 Bf m m (a3.notes,(a3.notes.length:Int),0,a3,(a4++([(a3.notes.length:Int)])))
def C6 (m:Nat):Nat->Mr->OU0:=aX (DE m)
theorem A0 (m:Nat) (n:Nat):C6 m (n+1)=DE m (C6 m n):=rfl
def QE (F:Mr->OU0):aQ:=⟨[.lp [0,1,0,1,1,1,1,1],.blk 0,.code [1,1,1,1,1,1]],⟨frm 116 [(1,.ptr 0 0 0),(4,.buf 1 1),(52,.ab (sI 2)),(53,.z0),(54,.z0)],[.cells [.z0,.z0,.z0,.ab (sI 2),.ab (sI 3),.z0,.z0,.z0,.z0,.z0,.z0,.z0,.z0,.z0,.z0,.ab (sI 2),.ab (sI 2),.ab (sI 2)],.ints .i64],0⟩,onU F⟩
theorem abf (m:Nat) (k2:ri->OU0) (h2:HO N15 (MF k2)):∀n,HO N15 (RN (AZ m k2 n)):=an ae J6.right (fun k=>[MF k2,RN k]) (fun k h=>(aI h2 (aI h az))) fun k a=>by kernel_rfl
theorem abz (m:Nat):∀n,HO N15 (MF (y4 m n)):=an ae J6.right (fun k=>[RN (AZ m (k) m)]) (fun k h=>(aI (abf m _ h m) az)) fun k a=>by kernel_rfl
theorem abc (m:Nat):∀n,HO N15 (RE (Bf m n)):=an ae J6.right (fun k=>[RE k,MF (y4 m m)]) (fun k h=>(aI h (aI (abz m m) az))) fun k a=>by kernel_rfl
theorem aaH (m:Nat):∀n,HO N15 (QE (C6 m n)):=an ae J6.right (fun k=>[QE k,RE (Bf m m)]) (fun k h=>(aI h (aI (abc m m) az))) fun k a=>by kernel_rfl
def t15 (m:Nat):aU->OU0:=fun a0=>
 bif !((cD a0).isSome)then
 some ([.l ([])])
 else
 C6 m m (a0.aC,(a0.aC.length:Int),0,a0,([a0.a.year,a0.a.month,a0.a.basis,a0.b.fee,a0.b.bq,a0.b.target,a0.b.advance,a0.b.eX,a0.b.oc,a0.b.ic,a0.b.late,a0.b.kY,a0.b.clean,(a0.aC.length:Int)]:LI0))
theorem aeP (m:Nat) (d:aU):∀(rest pre:LD0) (n:Nat) (acc:LI0),rest.length<n->(pre++rest).length<=1000000->acc.length+2*rest.length<=1000000->C6 m n (pre++rest,((pre++rest).length:Int),(pre.length:Int),d,acc)=Bf m m (d.notes,(d.notes.length:Int),0,d,acc++rest.flatMap dj++[(d.notes.length:Int)]):=by
 intro rest
 induction rest with
 |nil=>
  intro pre n acc hn hl ha;obtain⟨n,rfl⟩:=ah n (by simp at hn;omega);simp only[zar]at ha;rw[A0];unfold DE;dsimp only;rw[ay (by simp),bD (by omega) (by omega)];simp
 |cons x rest ih=>
  intro pre n acc hn hl ha;obtain⟨n,rfl⟩:=ah n (by simp at hn;omega);simp only[zac]at hn ha;have:=ih (pre++[x]) n (acc++dj x) (by omega) (by simpa using hl) (by simp[dj];omega);simp only[zab,zac]at hl;rw[A0];unfold DE;dsimp only;rw[aK (by simp only[zab,zac];omega),bQ (by omega) (by simp only[zab,zac];omega),aJ (by simp),aa (n:=(pre.length:Int)+1) (by omega) (by omega)];simp only[lt_eq,zat,ax];rw[bD (by omega) (by omega)];rw[show acc++[x.i 0,x.i 1]=acc++dj x from rfl];simp only[zaX,zaq,zaC,zas,zab,zac,zar,zaF]at this⊢;exact this
theorem aeX (m:Nat) (d:aU):∀(rest pre:LD0) (n:Nat) (acc:LI0),rest.length<n->(pre++rest).length<=1000000->acc.length+3*rest.length<=1000000->Bf m n (pre++rest,((pre++rest).length:Int),(pre.length:Int),d,acc)=y4 m m (d.s0,d.s1,d.s2,0,acc++rest.flatMap lK):=by
 intro rest
 induction rest with
 |nil=>
  intro pre n acc hn hl ha;obtain⟨n,rfl⟩:=ah n (by simp at hn;omega);rw[Bl];unfold EY;dsimp only;rw[ay (by simp)];simp
 |cons x rest ih=>
  intro pre n acc hn hl ha;obtain⟨n,rfl⟩:=ah n (by simp at hn;omega);simp only[zac]at hn ha;have:=ih (pre++[x]) n (acc++lK x) (by omega) (by simpa using hl) (by simp[lK];omega);simp only[zab,zac]at hl;rw[Bl];unfold EY;dsimp only;rw[aK (by simp only[zab,zac];omega),bQ (by omega) (by simp only[zab,zac];omega),aJ (by simp),aa (n:=(pre.length:Int)+1) (by omega) (by omega)];simp only[lt_eq,zat,ax];rw[bD (by omega) (by omega)];rw[show acc++[x.i 0,x.i 1,x.i 2]=acc++lK x from rfl];simp only[zaX,zaq,zaC,zas,zab,zac,zar,zaF]at this⊢;exact this
theorem afh (m:Nat) (k2:ri->OU0) (x0 x1 x2:LD0) (j:Int):∀(rest pre:LD0) (n:Nat) (acc:LI0),rest.length<n->(pre++rest).length<=1000000->acc.length+2*rest.length<=1000000->AZ m k2 n (x0,x1,x2,j,pre++rest,((pre++rest).length:Int),(pre.length:Int),acc)=k2 (x0,x1,x2,w64 (j+1),acc++rest.flatMap dj):=by
 intro rest
 induction rest with
 |nil=>
  intro pre n acc hn hl ha;obtain⟨n,rfl⟩:=ah n (by simp at hn;omega);rw[AP];unfold Fz;dsimp only;rw[ay (by simp)];simp
 |cons x rest ih=>
  intro pre n acc hn hl ha;obtain⟨n,rfl⟩:=ah n (by simp at hn;omega);simp only[zac]at hn ha;have:=ih (pre++[x]) n (acc++dj x) (by omega) (by simpa using hl) (by simp[dj];omega);simp only[zab,zac]at hl;rw[AP];unfold Fz;dsimp only;rw[aK (by simp only[zab,zac];omega),bQ (by omega) (by simp only[zab,zac];omega),aJ (by simp),aa (n:=(pre.length:Int)+1) (by omega) (by omega)];simp only[lt_eq,zat,ax];rw[bD (by omega) (by omega)];rw[show acc++[x.i 0,x.i 1]=acc++dj x from rfl];simp only[zaX,zaq,zaC,zas,zab,zac,zar,zaF]at this⊢;exact this
theorem aek (m:Nat) (hm:100<m) (x0 x1 x2:LD0) (h0:x0.length<=16) (h1:x1.length<=16) (h2:x2.length<=16) (n:Nat) (acc:LI0) (ha:acc.length<=900000):y4 m (n+4) (x0,x1,x2,0,acc)=some [.l (cO (acc++bU dj x0++bU dj x1++bU dj x2))]:=by
 have fl:∀x:LD0,(bU dj x).length=2*x.length+1:=fun x=>by
  have:∀l:LD0,(l.flatMap dj).length=2*l.length:=fun l=>by
   induction l with
   |nil=>rfl
   |cons y l ih=>simp only[zaX,zab,ih,dj,zac,zar];omega
  simp only[bU,zac,this]
 have e:∀(x:LD0) (z:LI0),z++[(x.length:Int)]++x.flatMap dj=z++bU dj x:=fun x z=>by simp[bU]
 have go:∀(x:LD0) (z:LI0) (j:Int) (k2:ri->OU0),x.length<=16->z.length<=990000->(chk (fits (z.length+1) 8)<|AZ m k2 m (x0,x1,x2,j,x,(x.length:Int),0,z++[(x.length:Int)]))=k2 (x0,x1,x2,w64 (j+1),z++bU dj x):=fun x z j k2 hx hz=>by
  rw[bD (by omega) (by omega)];have:=afh m k2 x0 x1 x2 j x [] m (z++[(x.length:Int)]) (by omega) (by simp;omega) (by simp;omega);rw[e]at this;exact this
 rw[oQ];unfold vG;dsimp only;refine(cq rfl (al rfl (al rfl (go x0 acc 0 _ h0 (by omega))))).trans ?_
 rw[show w64 ((0:Int)+1)=1 by decide,oQ];unfold vG;dsimp only;refine(cq rfl (al rfl (al rfl (go x1 _ 1 _ h1 (by have:=fl x0;simp only[zab];omega))))).trans ?_
 rw[show w64 ((1:Int)+1)=2 by decide,oQ];unfold vG;dsimp only;refine(cq rfl (al rfl (al rfl (go x2 _ 2 _ h2 (by have:=fl x0;have:=fl x1;simp only[zab];omega))))).trans ?_
 rw[show w64 ((2:Int)+1)=3 by decide,oQ];unfold vG;dsimp only;exact ck rfl (al (zaa (by have:=fl x0;have:=fl x1;have:=fl x2;simp only[zab];omega)) rfl)
def f15:aU->Bool × List Un:=fun a0=>(true,[.l (dG a0)])
theorem Wh:ER 15 (mkE N15.en N15.ex f15):=ak ae J6.right (fun m=>[QE (C6 m m)]) (t:=t15) (by kernel_rfl) (fun m=>(aI (aaH m m) az)) (fun m a=>by kernel_rfl) fun a0 hc=>by
 dsimp only[f15]at⊢;refine⟨2000, ?_⟩;unfold t15 dG
 try dsimp only
 cases hs:(cD a0).isSome
 case false=>rfl
 have D:=dS hs;have h1:=D.JL;have h2:=D.NV;have h3:=bL D.s0;have h4:=bL D.s1;have h5:=bL D.s2;dsimp only[Bool.not_true,cond_false,cond_true];have e0:=aeP 2000 a0 a0.aC [] 2000 [a0.a.year,a0.a.month,a0.a.basis,a0.b.fee,a0.b.bq,a0.b.target,a0.b.advance,a0.b.eX,a0.b.oc,a0.b.ic,a0.b.late,a0.b.kY,a0.b.clean,(a0.aC.length:Int)] (by omega) (by simp;omega) (by simp;omega);refine e0.trans ?_
 have fl:∀l:LD0,(l.flatMap dj).length=2*l.length:=fun l=>by
  induction l with
  |nil=>rfl
  |cons y l ih=>simp only[zaX,zab,ih,dj,zac,zar];omega
 have fl3:∀l:LD0,(l.flatMap lK).length=3*l.length:=fun l=>by
  induction l with
  |nil=>rfl
  |cons y l ih=>simp only[zaX,zab,ih,lK,zac,zar];omega
 refine(aeX 2000 a0 a0.notes [] 2000 _ (by omega) (by simp;omega) (by simp only[zab,zac,zar,fl];omega)).trans ?_
 refine(aek 2000 (by omega) a0.s0 a0.s1 a0.s2 h3.2 h4.2 h5.2 1996 _ (by simp only[zab,zac,zar,fl,fl3];omega)).trans ?_
 simp[iB,bU]
def T15:TB:=J6.ad Wh
def ct:Nat->RdR->LD0 × RdR
 |0,r=>([],r)
 |k+1,r=>(.r [.n (nx r).v,.n (nx (nx r)).v]::(ct k (nx (nx r))).1,(ct k (nx (nx r))).2)
theorem Mo:∀(k:Nat) {r:RdR},RdI r->RdI (ct k r).2
 |0,r,h=>h
 |k+1,r,h=>Mo k (bH (bH h))
structure Ic where
 d:aU
 r:RdR
def dU (r:RdR) (most:Int):LD0 × RdR:=ct (mx r most).v.toNat (mx r most)
def sH (r:RdR) (most:Int):LD0 × RdR:=eV (mx r most).v.toNat (mx r most)
def Dy (r1:RdR):av × aw:=
 let r2:=nx r1;let r3:=nx r2;let r4:=nx r3;let r5:=nx r4;let r6:=nx r5;let r7:=nx r6;let r8:=nx r7;let r9:=nx r8;let r10:=nx r9;let r11:=nx r10;let r12:=nx r11;let r13:=nx r12
 (⟨r1.v,r2.v,r3.v⟩,⟨r4.v,r5.v,r6.v,r7.v,r8.v,r9.v,r10.v,r11.v,r12.v,r13.v⟩)
def PK (a:av) (b:aw) (r13:RdR):Ic:=
 let p:=dU r13 64
 let q:=sH p.2 8
 let u:=dU q.2 16
 let v:=dU u.2 16
 let w:=dU v.2 16
 ⟨⟨a,p.1,q.1,b,u.1,v.1,w.1⟩,w.2⟩
def dP (o n:Int) (bad:Bool) (l:LI0):Ic:=
 PK (Dy (rdN o n bad l)).1 (Dy (rdN o n bad l)).2 (nx (nx (nx (nx (nx (nx (nx (nx (nx (nx (nx (nx (rdN o n bad l)))))))))))))
theorem Nx {r:RdR} {most:Int} (h:0<=most):0<=(mx r most).v/\(mx r most).v<=most:=GC h
theorem mL {r:RdR} {most:Int} (h:RdI r):RdI (dU r most).2:=Mo _ (uC h)
theorem LO {r:RdR} {most:Int} (h:RdI r):RdI (sH r most).2:=DP _ (uC h)
def DJ:aA:=⟨T15.tab,124,⟨[.ptr 0 0 0],[.cells [.sl 1 1,.bool],.ints .i64],0⟩,⟨[.agg [.z0,.z0,.z0,.buf 2 2,.buf 3 3,.z0,.z0,.z0,.z0,.z0,.z0,.z0,.z0,.z0,.z0,.buf 4 2,.buf 5 2,.buf 6 2]],[.cells [.sl 1 1,.bool],.ints .i64,.ab (sI 2),.ab (sI 3),.ab (sI 2),.ab (sI 2),.ab (sI 2)],0⟩,[[0,1,0,1,1]]⟩
abbrev DQ:Type:=Int × Int × Int × Int × Int × Int × Bool × LI0 × av × aw × av × aw × LD0 × LD0 × LD0 × LD0 × LD0 × LD0 × LD0 × LD0 × LD0 × LD0
abbrev mD:Type:=Int × Int × Int × Bool × LI0 × av × aw × av × aw × LD0 × LD0 × LD0 × LD0 × LD0 × LD0 × LD0 × LD0 × LD0 × LD0
abbrev Eh:Type:=Int × Int × Int × Int × Bool × LI0 × av × aw × av × aw × LD0 × LD0 × LD0 × LD0 × LD0 × LD0 × LD0 × LD0 × LD0 × LD0
abbrev DH:Type:=Int × Int × Int × Int × Bool × LI0 × av × aw × av × aw × LD0 × LD0 × LD0 × LD0 × LD0 × LD0 × LD0 × LD0 × LD0 × LD0
def m5 (m:Nat) (k3:mD->OU0) (k:DQ->OU0):DQ->OU0:=fun(a0,a1,a2,a3,a4,a5,a6,a7,a8,a9,a10,a11,a12,a13,a14,a15,a16,a17,a18,a19,a20,a21)=>
 bif decide (a3<a2)then
 chk (decide ((a4.toNat:Int).toNat+(a5.toNat:Int).toNat<=a7.length))<|
 bd ((rdN (a4.toNat:Int) (a5.toNat:Int) a6 a7):RdR) fun r24=>
 bif decide (a0=0)then
 chk (decide ((r24.o.toNat:Int).toNat+(r24.n.toNat:Int).toNat<=r24.l.length))<|
 bd ((rdN (r24.o.toNat:Int) (r24.n.toNat:Int) r24.bad r24.l):RdR) fun r25=>
 chk (fits (a19.length+1) 16)<|
 bif decide (a0=0)then
 k (a0,a1,a2,(w64 (a3+1)),(r25.o.toNat:Int),(r25.n.toNat:Int),r25.bad,r25.l,a8,a9,a10,a11,a12,a13,a14,a15,a16,a17,a18,(a19++([.r [.n r24.v,.n r25.v]])),a20,a21)
 else
 bif decide (a0=1)then
 none
 else
 bif decide (a0=2)then
 none
 else
 none
 else
 bif decide (a0=1)then
 chk (decide ((r24.o.toNat:Int).toNat+(r24.n.toNat:Int).toNat<=r24.l.length))<|
 bd ((rdN (r24.o.toNat:Int) (r24.n.toNat:Int) r24.bad r24.l):RdR) fun r27=>
 chk (fits (a20.length+1) 16)<|
 bif decide (a0=0)then
 none
 else
 bif decide (a0=1)then
 k (a0,a1,a2,(w64 (a3+1)),(r27.o.toNat:Int),(r27.n.toNat:Int),r27.bad,r27.l,a8,a9,a10,a11,a12,a13,a14,a15,a16,a17,a18,a19,(a20++([.r [.n r24.v,.n r27.v]])),a21)
 else
 bif decide (a0=2)then
 none
 else
 none
 else
 bif decide (a0=2)then
 chk (decide ((r24.o.toNat:Int).toNat+(r24.n.toNat:Int).toNat<=r24.l.length))<|
 bd ((rdN (r24.o.toNat:Int) (r24.n.toNat:Int) r24.bad r24.l):RdR) fun r29=>
 chk (fits (a21.length+1) 16)<|
 bif decide (a0=0)then
 none
 else
 bif decide (a0=1)then
 none
 else
 bif decide (a0=2)then
 k (a0,a1,a2,(w64 (a3+1)),(r29.o.toNat:Int),(r29.n.toNat:Int),r29.bad,r29.l,a8,a9,a10,a11,a12,a13,a14,a15,a16,a17,a18,a19,a20,(a21++([.r [.n r24.v,.n r29.v]])))
 else
 none
 else
 none
 else
 k3 ((w64 (a1+1)),(a4.toNat:Int),(a5.toNat:Int),a6,a7,a8,a9,a10,a11,a12,a13,a14,a15,a16,a17,a18,a19,a20,a21)
def pP (m:Nat) (k3:mD->OU0):Nat->DQ->OU0:=aX (m5 m k3)
theorem iF (m:Nat) (k3:mD->OU0) (n:Nat):pP m k3 (n+1)=m5 m k3 (pP m k3 n):=rfl
def Is (F:DQ->OU0):aQ:=⟨[.lp [0,1,1,0,0,1,1,0,0,1,0,1,1,1,1,1],.blk 8,.blk 7,.code [1,1,1,0,0,1,0,1,1,1,1,1],.lp [0,1,0,1,1,1,1,1],.blk 6,.code [1,1,1,1,1,1]],⟨frm 100 [(0,.ptr 0 0 0),(2,.ptr 2 0 0),(3,.ptr 3 0 0),(9,.z0),(75,.z0),(79,.z0),(80,.z0)],[.cells [.sl 1 1,.bool],.ints .i64,.cells [.z0,.z0,.z0,.buf 4 2,.buf 5 3,.z0,.z0,.z0,.z0,.z0,.z0,.z0,.z0,.z0,.z0,.buf 6 2,.buf 7 2,.buf 8 2],.cells [.z0,.z0,.z0,.buf 9 2,.buf 10 3,.z0,.z0,.z0,.z0,.z0,.z0,.z0,.z0,.z0,.z0,.buf 11 2,.buf 12 2,.buf 13 2],.ab (sI 2),.ab (sI 3),.ab (sI 2),.ab (sI 2),.ab (sI 2),.ab (sI 2),.ab (sI 3),.ab (sI 2),.ab (sI 2),.ab (sI 2)],0⟩,onU F⟩
def qA (m:Nat) (k:mD->OU0):mD->OU0:=fun(a0,a1,a2,a3,a4,a5,a6,a7,a8,a9,a10,a11,a12,a13,a14,a15,a16,a17,a18)=>
 bif decide (a0<3)then
 chk (decide ((a1.toNat:Int).toNat+(a2.toNat:Int).toNat<=a4.length))<|
 bd ((rdM (a1.toNat:Int) (a2.toNat:Int) a3 a4 16):RdR) fun r23=>
 pP m k m (a0,a0,r23.v,0,(r23.o.toNat:Int),(r23.n.toNat:Int),r23.bad,r23.l,a5,a6,a7,a8,a9,a10,a11,a12,a13,a14,a15,a16,a17,a18)
 else
 some (Uns.enc (a7:av)++Uns.enc (a8:aw)++[.i (a1.toNat:Int),.i (a2.toNat:Int),.b a3,.l a4,.d a14,.d a15,.d a16,.d a17,.d a18])
def mq (m:Nat):Nat->mD->OU0:=aX (qA m)
theorem na (m:Nat) (n:Nat):mq m (n+1)=qA m (mq m n):=rfl
def Fp (F:mD->OU0):aQ:=⟨[.lp [0,1,0,1,1,1,1,1],.blk 6,.code [1,1,1,1,1,1]],⟨frm 100 [(0,.ptr 0 0 0),(2,.ptr 2 0 0),(3,.ptr 3 0 0),(75,.z0)],[.cells [.sl 1 1,.bool],.ints .i64,.cells [.z0,.z0,.z0,.buf 4 2,.buf 5 3,.z0,.z0,.z0,.z0,.z0,.z0,.z0,.z0,.z0,.z0,.buf 6 2,.buf 7 2,.buf 8 2],.cells [.z0,.z0,.z0,.buf 9 2,.buf 10 3,.z0,.z0,.z0,.z0,.z0,.z0,.z0,.z0,.z0,.z0,.buf 11 2,.buf 12 2,.buf 13 2],.ab (sI 2),.ab (sI 3),.ab (sI 2),.ab (sI 2),.ab (sI 2),.ab (sI 2),.ab (sI 3),.ab (sI 2),.ab (sI 2),.ab (sI 2)],0⟩,onU F⟩
def xP (m:Nat) (k:Eh->OU0):Eh->OU0:=fun(a0,a1,a2,a3,a4,a5,a6,a7,a8,a9,a10,a11,a12,a13,a14,a15,a16,a17,a18,a19)=>
 bif decide (a1<a0)then
 chk (decide ((a2.toNat:Int).toNat+(a3.toNat:Int).toNat<=a5.length))<|
 bd ((rdN (a2.toNat:Int) (a3.toNat:Int) a4 a5):RdR) fun r19=>
 chk (decide ((r19.o.toNat:Int).toNat+(r19.n.toNat:Int).toNat<=r19.l.length))<|
 bd ((rdN (r19.o.toNat:Int) (r19.n.toNat:Int) r19.bad r19.l):RdR) fun r20=>
 chk (decide ((r20.o.toNat:Int).toNat+(r20.n.toNat:Int).toNat<=r20.l.length))<|
 bd ((rdN (r20.o.toNat:Int) (r20.n.toNat:Int) r20.bad r20.l):RdR) fun r21=>
 chk (fits (a16.length+1) 24)<|
 k (a0,(w64 (a1+1)),(r21.o.toNat:Int),(r21.n.toNat:Int),r21.bad,r21.l,a6,a7,a8,a9,a10,a11,a12,a13,a14,a15,(a16++([.r [.n r19.v,.n r20.v,.n r21.v]])),a17,a18,a19)
 else
 mq m m (0,(a2.toNat:Int),(a3.toNat:Int),a4,a5,a6,a7,a8,a9,a10,a11,a12,a13,a14,a15,a16,a17,a18,a19)
def vq (m:Nat):Nat->Eh->OU0:=aX (xP m)
theorem wq (m:Nat) (n:Nat):vq m (n+1)=xP m (vq m n):=rfl
def IN (F:Eh->OU0):aQ:=⟨[.lp [0,1,0,1,1,1,1],.blk 4,.code [1,1,1,1,1]],⟨frm 100 [(0,.ptr 0 0 0),(2,.ptr 2 0 0),(3,.ptr 3 0 0),(57,.z0),(58,.z0)],[.cells [.sl 1 1,.bool],.ints .i64,.cells [.z0,.z0,.z0,.buf 4 2,.buf 5 3,.z0,.z0,.z0,.z0,.z0,.z0,.z0,.z0,.z0,.z0,.buf 6 2,.buf 7 2,.buf 8 2],.cells [.z0,.z0,.z0,.buf 9 2,.buf 10 3,.z0,.z0,.z0,.z0,.z0,.z0,.z0,.z0,.z0,.z0,.buf 11 2,.buf 12 2,.buf 13 2],.ab (sI 2),.ab (sI 3),.ab (sI 2),.ab (sI 2),.ab (sI 2),.ab (sI 2),.ab (sI 3),.ab (sI 2),.ab (sI 2),.ab (sI 2)],0⟩,onU F⟩
def yc (m:Nat) (k:DH->OU0):DH->OU0:=fun(a0,a1,a2,a3,a4,a5,a6,a7,a8,a9,a10,a11,a12,a13,a14,a15,a16,a17,a18,a19)=>
 bif decide (a1<a0)then
 chk (decide ((a2.toNat:Int).toNat+(a3.toNat:Int).toNat<=a5.length))<|
 bd ((rdN (a2.toNat:Int) (a3.toNat:Int) a4 a5):RdR) fun r15=>
 chk (decide ((r15.o.toNat:Int).toNat+(r15.n.toNat:Int).toNat<=r15.l.length))<|
 bd ((rdN (r15.o.toNat:Int) (r15.n.toNat:Int) r15.bad r15.l):RdR) fun r16=>
 chk (fits (a15.length+1) 16)<|
 k (a0,(w64 (a1+1)),(r16.o.toNat:Int),(r16.n.toNat:Int),r16.bad,r16.l,a6,a7,a8,a9,a10,a11,a12,a13,a14,(a15++([.r [.n r15.v,.n r16.v]])),a16,a17,a18,a19)
 else
 chk (decide ((a2.toNat:Int).toNat+(a3.toNat:Int).toNat<=a5.length))<|
 bd ((rdM (a2.toNat:Int) (a3.toNat:Int) a4 a5 8):RdR) fun r18=>
 vq m m (r18.v,0,(r18.o.toNat:Int),(r18.n.toNat:Int),r18.bad,r18.l,a6,a7,a8,a9,a10,a11,a12,a13,a14,a15,a16,a17,a18,a19)
def vn (m:Nat):Nat->DH->OU0:=aX (yc m)
theorem wC (m:Nat) (n:Nat):vn m (n+1)=yc m (vn m n):=rfl
def Kg (F:DH->OU0):aQ:=⟨[.lp [0,1,0,1,1,1],.blk 2,.code [1,1,1,1]],⟨frm 100 [(0,.ptr 0 0 0),(2,.ptr 2 0 0),(3,.ptr 3 0 0),(41,.z0),(42,.z0)],[.cells [.sl 1 1,.bool],.ints .i64,.cells [.z0,.z0,.z0,.buf 4 2,.buf 5 3,.z0,.z0,.z0,.z0,.z0,.z0,.z0,.z0,.z0,.z0,.buf 6 2,.buf 7 2,.buf 8 2],.cells [.z0,.z0,.z0,.buf 9 2,.buf 10 3,.z0,.z0,.z0,.z0,.z0,.z0,.z0,.z0,.z0,.z0,.buf 11 2,.buf 12 2,.buf 13 2],.ab (sI 2),.ab (sI 3),.ab (sI 2),.ab (sI 2),.ab (sI 2),.ab (sI 2),.ab (sI 3),.ab (sI 2),.ab (sI 2),.ab (sI 2)],0⟩,onU F⟩
theorem YG (m:Nat) (k3:mD->OU0) (h3:HO DJ (Fp k3)):∀n,HO DJ (Is (pP m k3 n)):=an ae T15.right (fun k=>[Fp k3,Is k]) (fun k h=>(aI h3 (aI h az))) fun k a=>by kernel_rfl
theorem Zp (m:Nat):∀n,HO DJ (Fp (mq m n)):=an ae T15.right (fun k=>[Is (pP m (k) m)]) (fun k h=>(aI (YG m _ h m) az)) fun k a=>by kernel_rfl
theorem Zg (m:Nat):∀n,HO DJ (IN (vq m n)):=an ae T15.right (fun k=>[IN k,Fp (mq m m)]) (fun k h=>(aI h (aI (Zp m m) az))) fun k a=>by kernel_rfl
theorem X1 (m:Nat):∀n,HO DJ (Kg (vn m n)):=an ae T15.right (fun k=>[Kg k,IN (vq m m)]) (fun k h=>(aI h (aI (Zg m m) az))) fun k a=>by kernel_rfl
def t124 (m:Nat):Int × Int × Bool × LI0->OU0:=fun(a0,a1,a2,a3)=>
 chk (decide ((a0.toNat:Int).toNat+(a1.toNat:Int).toNat<=a3.length))<|
 bd ((rdN (a0.toNat:Int) (a1.toNat:Int) a2 a3):RdR) fun r1=>
 chk (decide ((r1.o.toNat:Int).toNat+(r1.n.toNat:Int).toNat<=r1.l.length))<|
 bd ((rdN (r1.o.toNat:Int) (r1.n.toNat:Int) r1.bad r1.l):RdR) fun r2=>
 chk (decide ((r2.o.toNat:Int).toNat+(r2.n.toNat:Int).toNat<=r2.l.length))<|
 bd ((rdN (r2.o.toNat:Int) (r2.n.toNat:Int) r2.bad r2.l):RdR) fun r3=>
 chk (decide ((r3.o.toNat:Int).toNat+(r3.n.toNat:Int).toNat<=r3.l.length))<|
 bd ((rdN (r3.o.toNat:Int) (r3.n.toNat:Int) r3.bad r3.l):RdR) fun r4=>
 chk (decide ((r4.o.toNat:Int).toNat+(r4.n.toNat:Int).toNat<=r4.l.length))<|
 bd ((rdN (r4.o.toNat:Int) (r4.n.toNat:Int) r4.bad r4.l):RdR) fun r5=>
 chk (decide ((r5.o.toNat:Int).toNat+(r5.n.toNat:Int).toNat<=r5.l.length))<|
 bd ((rdN (r5.o.toNat:Int) (r5.n.toNat:Int) r5.bad r5.l):RdR) fun r6=>
 chk (decide ((r6.o.toNat:Int).toNat+(r6.n.toNat:Int).toNat<=r6.l.length))<|
 bd ((rdN (r6.o.toNat:Int) (r6.n.toNat:Int) r6.bad r6.l):RdR) fun r7=>
 chk (decide ((r7.o.toNat:Int).toNat+(r7.n.toNat:Int).toNat<=r7.l.length))<|
 bd ((rdN (r7.o.toNat:Int) (r7.n.toNat:Int) r7.bad r7.l):RdR) fun r8=>
 chk (decide ((r8.o.toNat:Int).toNat+(r8.n.toNat:Int).toNat<=r8.l.length))<|
 bd ((rdN (r8.o.toNat:Int) (r8.n.toNat:Int) r8.bad r8.l):RdR) fun r9=>
 chk (decide ((r9.o.toNat:Int).toNat+(r9.n.toNat:Int).toNat<=r9.l.length))<|
 bd ((rdN (r9.o.toNat:Int) (r9.n.toNat:Int) r9.bad r9.l):RdR) fun r10=>
 chk (decide ((r10.o.toNat:Int).toNat+(r10.n.toNat:Int).toNat<=r10.l.length))<|
 bd ((rdN (r10.o.toNat:Int) (r10.n.toNat:Int) r10.bad r10.l):RdR) fun r11=>
 chk (decide ((r11.o.toNat:Int).toNat+(r11.n.toNat:Int).toNat<=r11.l.length))<|
 bd ((rdN (r11.o.toNat:Int) (r11.n.toNat:Int) r11.bad r11.l):RdR) fun r12=>
 chk (decide ((r12.o.toNat:Int).toNat+(r12.n.toNat:Int).toNat<=r12.l.length))<|
 bd ((rdN (r12.o.toNat:Int) (r12.n.toNat:Int) r12.bad r12.l):RdR) fun r13=>
 chk (decide ((r13.o.toNat:Int).toNat+(r13.n.toNat:Int).toNat<=r13.l.length))<|
 bd ((rdM (r13.o.toNat:Int) (r13.n.toNat:Int) r13.bad r13.l 64):RdR) fun r14=>
 vn m m (r14.v,0,(r14.o.toNat:Int),(r14.n.toNat:Int),r14.bad,r14.l,(⟨0,0,0⟩:av),(⟨0,0,0,0,0,0,0,0,0,0⟩:aw),(⟨r1.v,r2.v,r3.v⟩:av),(⟨r4.v,r5.v,r6.v,r7.v,r8.v,r9.v,r10.v,r11.v,r12.v,r13.v⟩:aw),[],[],[],[],[],[],[],[],[],[])
theorem R5 (m:Nat) (k3:mD->OU0) (xa:av) (xb:aw) (ya:av) (yb:aw) (z1 z2 z3 z4 z5 p q s0 s1 s2:LD0):∀(c n k:Nat) (r:RdR) (acc:LD0),c<n->k+c<=16->acc.length<=k->RdI r->
 pP m k3 n (0,0,((k+c:Nat):Int),(k:Int),r.o,r.n,r.bad,r.l,xa,xb,ya,yb,z1,z2,z3,z4,z5,p,q,acc,s1,s2)=k3 (1,(ct c r).2.o,(ct c r).2.n,(ct c r).2.bad,(ct c r).2.l,xa,xb,ya,yb,z1,z2,z3,z4,z5,p,q,(acc++(ct c r).1),s1,s2):=by
 intro c
 induction c with
 |zero=>
  intro n k r acc hn hk ha hr;obtain⟨n,rfl⟩:=ah n (by omega);rw[iF];unfold m5;dsimp only;rw[ay (by omega),hr.1,hr.2.1];rw[show w64 ((0:Int)+1)=1 by decide];simp[ct]
 |succ c ih=>
  intro n k r acc hn hk ha hr;obtain⟨n,rfl⟩:=ah n (by omega);rw[iF];unfold m5;dsimp only;have h1:=bH hr;have h2:=bH h1;rw[aK (by omega)];dsimp only[bd];rw[hr.1,hr.2.1];refine al (zaa hr.2.2) ?_
  rw[show rdN r.o r.n r.bad r.l=nx r from rfl,h1.1,h1.2.1];refine cq rfl (al (zaa h1.2.2) ?_);rw[show rdN (nx r).o (nx r).n (nx r).bad (nx r).l=nx (nx r) from rfl];rw[bD (by omega) (by omega)];refine(cq rfl ?_);have:=ih n (k+1) (nx (nx r)) (acc++[.r [.n (nx r).v,.n (nx (nx r)).v]]) (by omega) (by omega) (by simp;omega) h2;have e:w64 ((k:Int)+1)=((k+1:Nat):Int):=by rw[aa (by omega) (by omega)];simp
  rw[e,h2.1,h2.2.1,show k+(c+1)=k+1+c by omega];simp only[ct];rw[show acc++(Dat.r [.n (nx r).v,.n (nx (nx r)).v]::(ct c (nx (nx r))).1)=acc++[Dat.r [.n (nx r).v,.n (nx (nx r)).v]]++(ct c (nx (nx r))).1 by simp];exact this
theorem O5 (m:Nat) (k3:mD->OU0) (xa:av) (xb:aw) (ya:av) (yb:aw) (z1 z2 z3 z4 z5 p q s0 s1 s2:LD0):∀(c n k:Nat) (r:RdR) (acc:LD0),c<n->k+c<=16->acc.length<=k->RdI r->
 pP m k3 n (1,1,((k+c:Nat):Int),(k:Int),r.o,r.n,r.bad,r.l,xa,xb,ya,yb,z1,z2,z3,z4,z5,p,q,s0,acc,s2)=k3 (2,(ct c r).2.o,(ct c r).2.n,(ct c r).2.bad,(ct c r).2.l,xa,xb,ya,yb,z1,z2,z3,z4,z5,p,q,s0,(acc++(ct c r).1),s2):=by
 intro c
 induction c with
 |zero=>
  intro n k r acc hn hk ha hr;obtain⟨n,rfl⟩:=ah n (by omega);rw[iF];unfold m5;dsimp only;rw[ay (by omega),hr.1,hr.2.1];rw[show w64 ((1:Int)+1)=2 by decide];simp[ct]
 |succ c ih=>
  intro n k r acc hn hk ha hr;obtain⟨n,rfl⟩:=ah n (by omega);rw[iF];unfold m5;dsimp only;have h1:=bH hr;have h2:=bH h1;rw[aK (by omega)];dsimp only[bd];rw[hr.1,hr.2.1];refine al (zaa hr.2.2) ?_
  rw[show rdN r.o r.n r.bad r.l=nx r from rfl,h1.1,h1.2.1];refine ck rfl (cq rfl (al (zaa h1.2.2) ?_));rw[show rdN (nx r).o (nx r).n (nx r).bad (nx r).l=nx (nx r) from rfl];rw[bD (by omega) (by omega)];refine(ck rfl (cq rfl ?_));have:=ih n (k+1) (nx (nx r)) (acc++[.r [.n (nx r).v,.n (nx (nx r)).v]]) (by omega) (by omega) (by simp;omega) h2;have e:w64 ((k:Int)+1)=((k+1:Nat):Int):=by rw[aa (by omega) (by omega)];simp
  rw[e,h2.1,h2.2.1,show k+(c+1)=k+1+c by omega];simp only[ct];rw[show acc++(Dat.r [.n (nx r).v,.n (nx (nx r)).v]::(ct c (nx (nx r))).1)=acc++[Dat.r [.n (nx r).v,.n (nx (nx r)).v]]++(ct c (nx (nx r))).1 by simp];exact this
theorem Pu (m:Nat) (k3:mD->OU0) (xa:av) (xb:aw) (ya:av) (yb:aw) (z1 z2 z3 z4 z5 p q s0 s1 s2:LD0):∀(c n k:Nat) (r:RdR) (acc:LD0),c<n->k+c<=16->acc.length<=k->RdI r->
 pP m k3 n (2,2,((k+c:Nat):Int),(k:Int),r.o,r.n,r.bad,r.l,xa,xb,ya,yb,z1,z2,z3,z4,z5,p,q,s0,s1,acc)=k3 (3,(ct c r).2.o,(ct c r).2.n,(ct c r).2.bad,(ct c r).2.l,xa,xb,ya,yb,z1,z2,z3,z4,z5,p,q,s0,s1,(acc++(ct c r).1)):=by
 intro c
 induction c with
 |zero=>
  intro n k r acc hn hk ha hr;obtain⟨n,rfl⟩:=ah n (by omega);rw[iF];unfold m5;dsimp only;rw[ay (by omega),hr.1,hr.2.1];rw[show w64 ((2:Int)+1)=3 by decide];simp[ct]
 |succ c ih=>
  intro n k r acc hn hk ha hr;obtain⟨n,rfl⟩:=ah n (by omega);rw[iF];unfold m5;dsimp only;have h1:=bH hr;have h2:=bH h1;rw[aK (by omega)];dsimp only[bd];rw[hr.1,hr.2.1];refine al (zaa hr.2.2) ?_
  rw[show rdN r.o r.n r.bad r.l=nx r from rfl,h1.1,h1.2.1];refine ck rfl (ck rfl (cq rfl (al (zaa h1.2.2) ?_)));rw[show rdN (nx r).o (nx r).n (nx r).bad (nx r).l=nx (nx r) from rfl];rw[bD (by omega) (by omega)];refine(ck rfl (ck rfl (cq rfl ?_)));have:=ih n (k+1) (nx (nx r)) (acc++[.r [.n (nx r).v,.n (nx (nx r)).v]]) (by omega) (by omega) (by simp;omega) h2;have e:w64 ((k:Int)+1)=((k+1:Nat):Int):=by rw[aa (by omega) (by omega)];simp
  rw[e,h2.1,h2.2.1,show k+(c+1)=k+1+c by omega];simp only[ct];rw[show acc++(Dat.r [.n (nx r).v,.n (nx (nx r)).v]::(ct c (nx (nx r))).1)=acc++[Dat.r [.n (nx r).v,.n (nx (nx r)).v]]++(ct c (nx (nx r))).1 by simp];exact this
theorem XQ (m:Nat) (hm:100<m) (xa:av) (xb:aw) (ya:av) (yb:aw) (z1 z2 z3 z4 z5 p q:LD0) (r:RdR) (hr:RdI r) (n:Nat):
 mq m (n+4) (0,r.o,r.n,r.bad,r.l,xa,xb,ya,yb,z1,z2,z3,z4,z5,p,q,[],[],[])=some (Uns.enc ya++Uns.enc yb++[.i (dU (dU (dU r 16).2 16).2 16).2.o,.i (dU (dU (dU r 16).2 16).2 16).2.n,.b (dU (dU (dU r 16).2 16).2 16).2.bad,.l (dU (dU (dU r 16).2 16).2 16).2.l,.d p,.d q,.d (dU r 16).1,.d (dU (dU r 16).2 16).1,.d (dU (dU (dU r 16).2 16).2 16).1]):=by
 have i0:=mL (most:=16) hr;have i1:=mL (most:=16) i0;have i2:=mL (most:=16) i1;have go:∀(r:RdR),RdI r->∀{β:Type} (f:RdR->Option β),(chk (decide ((r.o.toNat:Int).toNat+(r.n.toNat:Int).toNat<=r.l.length))<|bd (rdM (r.o.toNat:Int) (r.n.toNat:Int) r.bad r.l 16) f)=f (mx r 16):=fun r h β f=>by
  rw[h.1,h.2.1];exact al (zaa h.2.2) rfl
 rw[na];unfold qA;dsimp only;refine cq rfl ((go r hr _).trans ?_);have v0:=Nx (r:=r) (most:=16) (by decide);have m0:=uC (most:=16) hr;have e0:=R5 m (mq m (n+3)) xa xb ya yb z1 z2 z3 z4 z5 p q [] [] [] (mx r 16).v.toNat m 0 (mx r 16) [] (by omega) (by omega) (by simp) m0;rw[show(((0+(mx r 16).v.toNat:Nat)):Int)=(mx r 16).v by omega,zas]at e0;rw[m0.1,m0.2.1];refine e0.trans ?_
 rw[show(ct (mx r 16).v.toNat (mx r 16))=dU r 16 from rfl];generalize dU r 16=u at*
 rw[na];unfold qA;dsimp only;refine cq rfl ((go u.2 i0 _).trans ?_);have v1:=Nx (r:=u.2) (most:=16) (by decide);have m1:=uC (most:=16) i0;have e1:=O5 m (mq m (n+2)) xa xb ya yb z1 z2 z3 z4 z5 p q u.1 [] [] (mx u.2 16).v.toNat m 0 (mx u.2 16) [] (by omega) (by omega) (by simp) m1;rw[show(((0+(mx u.2 16).v.toNat:Nat)):Int)=(mx u.2 16).v by omega,zas]at e1;rw[m1.1,m1.2.1];refine e1.trans ?_
 rw[show(ct (mx u.2 16).v.toNat (mx u.2 16))=dU u.2 16 from rfl];generalize dU u.2 16=v at*
 rw[na];unfold qA;dsimp only;refine cq rfl ((go v.2 i1 _).trans ?_);have v2:=Nx (r:=v.2) (most:=16) (by decide);have m2:=uC (most:=16) i1;have e2:=Pu m (mq m (n+1)) xa xb ya yb z1 z2 z3 z4 z5 p q u.1 v.1 [] (mx v.2 16).v.toNat m 0 (mx v.2 16) [] (by omega) (by omega) (by simp) m2;rw[show(((0+(mx v.2 16).v.toNat:Nat)):Int)=(mx v.2 16).v by omega,zas]at e2;rw[m2.1,m2.2.1];refine e2.trans ?_
 rw[show(ct (mx v.2 16).v.toNat (mx v.2 16))=dU v.2 16 from rfl];generalize dU v.2 16=w at*
 rw[na];unfold qA;dsimp only;refine ck rfl ?_
 rw[i2.1,i2.2.1]
theorem YF (m:Nat) (hm:100<m) (xa:av) (xb:aw) (ya:av) (yb:aw) (z1 z2 z3 z4 z5 p:LD0):∀(c n k:Nat) (r:RdR) (acc:LD0),c<n->k+c<=64->acc.length<=k->RdI r->
 vq m n (((k+c:Nat):Int),(k:Int),r.o,r.n,r.bad,r.l,xa,xb,ya,yb,z1,z2,z3,z4,z5,p,acc,[],[],[])=mq m m (0,(eV c r).2.o,(eV c r).2.n,(eV c r).2.bad,(eV c r).2.l,xa,xb,ya,yb,z1,z2,z3,z4,z5,p,acc++(eV c r).1,[],[],[]):=by
 intro c
 induction c with
 |zero=>
  intro n k r acc hn hk ha hr;obtain⟨n,rfl⟩:=ah n (by omega);rw[wq];unfold xP;dsimp only;rw[ay (by omega),hr.1,hr.2.1];simp[eV]
 |succ c ih=>
  intro n k r acc hn hk ha hr;obtain⟨n,rfl⟩:=ah n (by omega);rw[wq];unfold xP;dsimp only;have h1:=bH hr;have h2:=bH h1;have h3:=bH h2;rw[aK (by omega)];dsimp only[bd];rw[hr.1,hr.2.1];refine al (zaa hr.2.2) ?_
  rw[show rdN r.o r.n r.bad r.l=nx r from rfl,h1.1,h1.2.1];refine al (zaa h1.2.2) ?_
  rw[show rdN (nx r).o (nx r).n (nx r).bad (nx r).l=nx (nx r) from rfl,h2.1,h2.2.1];refine al (zaa h2.2.2) ?_
  rw[show rdN (nx (nx r)).o (nx (nx r)).n (nx (nx r)).bad (nx (nx r)).l=nx (nx (nx r)) from rfl,h3.1,h3.2.1];rw[bD (by omega) (by omega)];have:=ih n (k+1) (nx (nx (nx r))) (acc++[.r [.n (nx r).v,.n (nx (nx r)).v,.n (nx (nx (nx r))).v]]) (by omega) (by omega) (by simp;omega) h3;have e:w64 ((k:Int)+1)=((k+1:Nat):Int):=by rw[aa (by omega) (by omega)];simp
  rw[e,show k+(c+1)=k+1+c by omega];simp only[eV];rw[show acc++(Dat.r [.n (nx r).v,.n (nx (nx r)).v,.n (nx (nx (nx r))).v]::(eV c (nx (nx (nx r)))).1)=acc++[Dat.r [.n (nx r).v,.n (nx (nx r)).v,.n (nx (nx (nx r))).v]]++(eV c (nx (nx (nx r)))).1 by simp];exact this
theorem YT (m:Nat) (hm:100<m) (xa:av) (xb:aw) (ya:av) (yb:aw) (z1 z2 z3 z4 z5:LD0):∀(c n k:Nat) (r:RdR) (acc:LD0),c<n->k+c<=64->acc.length<=k->RdI r->
 vn m n (((k+c:Nat):Int),(k:Int),r.o,r.n,r.bad,r.l,xa,xb,ya,yb,z1,z2,z3,z4,z5,acc,[],[],[],[])=mq m m (0,(sH (ct c r).2 8).2.o,(sH (ct c r).2 8).2.n,(sH (ct c r).2 8).2.bad,(sH (ct c r).2 8).2.l,xa,xb,ya,yb,z1,z2,z3,z4,z5,acc++(ct c r).1,(sH (ct c r).2 8).1,[],[],[]):=by
 intro c
 induction c with
 |zero=>
  intro n k r acc hn hk ha hr;obtain⟨n,rfl⟩:=ah n (by omega);rw[wC];unfold yc;dsimp only;rw[ay (by omega),hr.1,hr.2.1];dsimp only[bd];refine al (zaa hr.2.2) ?_
  have m0:=uC (most:=8) hr;rw[show rdM r.o r.n r.bad r.l 8=mx r 8 from rfl,m0.1,m0.2.1];have v0:=Nx (r:=r) (most:=8) (by decide);have:=YF m hm xa xb ya yb z1 z2 z3 z4 z5 acc (mx r 8).v.toNat m 0 (mx r 8) [] (by omega) (by omega) (by simp) m0;rw[show(((0+(mx r 8).v.toNat:Nat)):Int)=(mx r 8).v by omega,zas]at this;simp only[ct,zaK];exact this
 |succ c ih=>
  intro n k r acc hn hk ha hr;obtain⟨n,rfl⟩:=ah n (by omega);rw[wC];unfold yc;dsimp only;have h1:=bH hr;have h2:=bH h1;rw[aK (by omega)];dsimp only[bd];rw[hr.1,hr.2.1];refine al (zaa hr.2.2) ?_
  rw[show rdN r.o r.n r.bad r.l=nx r from rfl,h1.1,h1.2.1];refine al (zaa h1.2.2) ?_
  rw[show rdN (nx r).o (nx r).n (nx r).bad (nx r).l=nx (nx r) from rfl,h2.1,h2.2.1];rw[bD (by omega) (by omega)];have:=ih n (k+1) (nx (nx r)) (acc++[.r [.n (nx r).v,.n (nx (nx r)).v]]) (by omega) (by omega) (by simp;omega) h2;have e:w64 ((k:Int)+1)=((k+1:Nat):Int):=by rw[aa (by omega) (by omega)];simp
  rw[e,show k+(c+1)=k+1+c by omega];simp only[ct];rw[show acc++(Dat.r [.n (nx r).v,.n (nx (nx r)).v]::(ct c (nx (nx r))).1)=acc++[Dat.r [.n (nx r).v,.n (nx (nx r)).v]]++(ct c (nx (nx r))).1 by simp];exact this
def f124:Int × Int × Bool × LI0->Bool × List Un:=fun(a0,a1,a2,a3)=>(decide (a0.toNat+a1.toNat<=a3.length),Uns.enc (((dP a0 a1 a2 a3).d.a):av)++Uns.enc (((dP a0 a1 a2 a3).d.b):aw)++[.i ((dP a0 a1 a2 a3).r.o),.i ((dP a0 a1 a2 a3).r.n),.b ((dP a0 a1 a2 a3).r.bad),.l ((dP a0 a1 a2 a3).r.l),.d ((dP a0 a1 a2 a3).d.aC),.d ((dP a0 a1 a2 a3).d.notes),.d ((dP a0 a1 a2 a3).d.s0),.d ((dP a0 a1 a2 a3).d.s1),.d ((dP a0 a1 a2 a3).d.s2)])
set_option maxHeartbeats 4000000 in
theorem HB:ER 124 (mkE DJ.en DJ.ex f124):=ak ae T15.right (fun m=>[Kg (vn m m)]) (t:=t124) (by kernel_rfl) (fun m=>(aI (X1 m m) az)) (fun m a=>by kernel_rfl) fun(a0,a1,a2,a3) hc=>by
 dsimp only[f124]at hc⊢;have hl:=zaj hc;refine⟨200, ?_⟩;unfold t124 dP Dy
 try dsimp only
 have i1:RdI (rdN a0 a1 a2 a3):=(HE hl).1;refine al (zaa hl) ?_
 rw[show bd (rdN (a0.toNat:Int) (a1.toNat:Int) a2 a3)=bd (rdN a0 a1 a2 a3) from rfl];have e1:∀{β:Type} (f:RdR->Option β),bd (rdN a0 a1 a2 a3) f=f (rdN a0 a1 a2 a3):=fun f=>rfl
 rw[e1];generalize rdN a0 a1 a2 a3=r1 at*
 have i2:=bH i1;have i3:=bH i2;have i4:=bH i3;have i5:=bH i4;have i6:=bH i5;have i7:=bH i6;have i8:=bH i7;have i9:=bH i8;have i10:=bH i9;have i11:=bH i10;have i12:=bH i11;have i13:=bH i12;rw[fm i1,fm i2,fm i3,fm i4,fm i5,fm i6,fm i7,fm i8,fm i9,fm i10,fm i11,fm i12];rw[i13.1,i13.2.1];refine al (zaa i13.2.2) ?_
 dsimp only[bd];generalize nx (nx (nx (nx (nx (nx (nx (nx (nx (nx (nx (nx r1)))))))))))=r13 at*
 have m0:=uC (most:=64) i13;rw[show rdM r13.o r13.n r13.bad r13.l 64=mx r13 64 from rfl,m0.1,m0.2.1];have v0:=Nx (r:=r13) (most:=64) (by decide);have:=YT 200 (by decide) (⟨0,0,0⟩:av) (⟨0,0,0,0,0,0,0,0,0,0⟩:aw) (⟨r1.v,(nx r1).v,(nx (nx r1)).v⟩:av) (⟨(nx (nx (nx r1))).v,(nx (nx (nx (nx r1)))).v,(nx (nx (nx (nx (nx r1))))).v,(nx (nx (nx (nx (nx (nx r1)))))).v,(nx (nx (nx (nx (nx (nx (nx r1))))))).v,(nx (nx (nx (nx (nx (nx (nx (nx r1)))))))).v,(nx (nx (nx (nx (nx (nx (nx (nx (nx r1))))))))).v,(nx (nx (nx (nx (nx (nx (nx (nx (nx (nx r1)))))))))).v,(nx (nx (nx (nx (nx (nx (nx (nx (nx (nx (nx r1))))))))))).v,r13.v⟩:aw) [] [] [] [] [] (mx r13 64).v.toNat 200 0 (mx r13 64) [] (by omega) (by omega) (by simp) m0;rw[show(((0+(mx r13 64).v.toNat:Nat)):Int)=(mx r13 64).v by omega,zas]at this;refine this.trans ?_
 rw[show ct (mx r13 64).v.toNat (mx r13 64)=dU r13 64 from rfl];exact XQ 200 (by decide) _ _ _ _ _ _ _ _ _ _ _ _ (LO (mL i13)) 196
def afl:TB:=T15.ad HB
def ack:Ic->List Un:=fun r=>Uns.enc (r.d.a:av)++Uns.enc (r.d.b:aw)++[.i r.r.o,.i r.r.n,.b r.r.bad,.l r.r.l,.d r.d.aC,.d r.d.notes,.d r.d.s0,.d r.d.s1,.d r.d.s2]
def aaV:Int × Int × Bool × LI0->Bool × Ic:=fun(a0,a1,a2,a3)=>(decide (a0.toNat+a1.toNat<=a3.length),(dP a0 a1 a2 a3))
theorem Nc:ER 124 (mkB DJ.en DJ.ex aaV ack):=rebind HB fun(a0,a1,a2,a3)=>rfl
def Py:TB:=afl.ad Nc
structure DdR where
 e:Int
 d:aU
def Jj:aU:=⟨⟨0,0,0⟩,[],[],⟨0,0,0,0,0,0,0,0,0,0⟩,[],[],[]⟩
def ddV (l:LI0):DdR:=
 bif !(!(dP 0 (l.length:Int) false l).r.bad&&(dP 0 (l.length:Int) false l).r.n==0)then⟨1,Jj⟩
 else bif !(cD (dP 0 (l.length:Int) false l).d).isSome then⟨2,Jj⟩else⟨0,(dP 0 (l.length:Int) false l).d⟩
def dK (b:LI0):DdR:=bif !(b.length%8==0)then⟨1,Jj⟩else ddV (bW b)
theorem RA {o n:Int} {b:Bool} {l:LI0} (h:o.toNat+n.toNat<=l.length):RdI (dP o n b l).r:=by
 have i1:RdI (rdN o n b l):=(HE h).1;exact mL (mL (mL (LO (mL (bH (bH (bH (bH (bH (bH (bH (bH (bH (bH (bH (bH i1))))))))))))))))
def N91:aA:=⟨Py.tab,91,⟨[.ints .u8],[],0⟩,⟨[.agg [.z0,.z0,.z0,.buf 0 2,.buf 1 3,.z0,.z0,.z0,.z0,.z0,.z0,.z0,.z0,.z0,.z0,.buf 2 2,.buf 3 2,.buf 4 2],.z0],[.ab (sI 2),.ab (sI 3),.ab (sI 2),.ab (sI 2),.ab (sI 2)],0⟩,[]⟩
def t91 (m:Nat):LI0->OU0:=fun a0=>
 chk (decide (a0.length<=140737488351232))<|
 bif !(a0.length%8==0)then
 some (Uns.enc ((⟨0,0,0⟩:av):av)++Uns.enc ((⟨0,0,0,0,0,0,0,0,0,0⟩:aw):aw)++[.i 1,.d ([]),.d ([]),.d ([]),.d ([]),.d ([])])
 else
 chk (decide ((ft a0).length<1000000))<|
 lt (((ft a0).length:Int):Int) fun x1=>
 chk (decide ((0:Int).toNat+(x1.toNat:Int).toNat<=(ft a0).length))<|
 bd ((dP 0 (x1.toNat:Int) false (ft a0)):Ic) fun r2=>
 bif !(!r2.r.bad&&((r2.r.n.toNat:Int).toNat:Int)==0)then
 some (Uns.enc ((⟨0,0,0⟩:av):av)++Uns.enc ((⟨0,0,0,0,0,0,0,0,0,0⟩:aw):aw)++[.i 1,.d ([]),.d ([]),.d ([]),.d ([]),.d ([])])
 else
 bif !((cD r2.d).isSome)then
 some (Uns.enc ((⟨0,0,0⟩:av):av)++Uns.enc ((⟨0,0,0,0,0,0,0,0,0,0⟩:aw):aw)++[.i 2,.d ([]),.d ([]),.d ([]),.d ([]),.d ([])])
 else
 some (Uns.enc (r2.d.a:av)++Uns.enc (r2.d.b:aw)++[.i 0,.d r2.d.aC,.d r2.d.notes,.d r2.d.s0,.d r2.d.s1,.d r2.d.s2])
def f91:LI0->Bool × List Un:=fun a0=>(decide (a0.length<=1000000),Uns.enc (((dK a0).d.a):av)++Uns.enc (((dK a0).d.b):aw)++[.i ((dK a0).e),.d ((dK a0).d.aC),.d ((dK a0).d.notes),.d ((dK a0).d.s0),.d ((dK a0).d.s1),.d ((dK a0).d.s2)])
theorem We:ER 91 (mkE N91.en N91.ex f91):=ak ae Py.right (fun m=>[]) (t:=t91) (by kernel_rfl) (fun m=>az) (fun m a=>by kernel_rfl) fun a0 hc=>by
 dsimp only[f91]at hc⊢;have hl:=zaj hc;refine⟨0, ?_⟩;unfold t91 dK
 try dsimp only
 refine al (zaa (by omega)) ?_
 cases h8:(a0.length%8==0)with
 |false=>rfl
 |true=>
  have e:ft a0=bW a0:=by unfold ft;rw[h8];rfl
  rw[e];have hw:=qR a0;refine ck rfl (al (zaa (by omega)) ?_);dsimp only[lt,bd];refine al (zaa (by simp)) ?_
  rw[show(((bW a0).length:Int).toNat:Int)=((bW a0).length:Int) from rfl];have hI:=RA (o:=0) (n:=((bW a0).length:Int)) (b:=false) (l:=bW a0) (by simp);unfold ddV
  try dsimp only[Bool.not_true,cond_false]
  generalize dP 0 ((bW a0).length:Int) false (bW a0)=r at*
  rw[hI.2.1,hI.2.1];cases (!r.r.bad&&r.r.n==0)
  case false=>rfl
  cases (cD r.d).isSome<;>rfl
def T91:TB:=Py.ad We
def ly (p:Int) (l:LD0):Bool:=decide (1<=p/\p<=600)&&mj l
def N56:aA:=⟨T91.tab,56,⟨[.z0,.ab (sB 6)],[],0⟩,⟨[.bool],[],0⟩,[]⟩
def t56 (m:Nat):Int × LD0->OU0:=fun(a0,a1)=>
 bif decide (a0>=1)then
 bif decide (a0<=600)then
 some ([.b (mj a1)])
 else
 some ([.b false])
 else
 some ([.b false])
def f56:Int × LD0->Bool × List Un:=fun(a0,a1)=>(true,[.b (ly a0 a1)])
theorem Uy:ER 56 (mkE N56.en N56.ex f56):=ak ae T91.right (fun m=>[]) (t:=t56) (by kernel_rfl) (fun m=>az) (fun m a=>by kernel_rfl) fun(a0,a1) hc=>by
 dsimp only[f56]at⊢;refine⟨0, ?_⟩;unfold t56 ly
 try dsimp only
 by_cases h1:a0>=1
 . by_cases h2:a0<=600
   . rw[aK h1,aK h2,zaa ⟨h1,h2⟩];rfl
   . rw[aK h1,ay h2,zao (fun h=>h2 h.2)];rfl
 . rw[ay h1,zao (fun h=>h1 h.1)];rfl
def T56:TB:=T91.ad Uy
def ng (d:Dat):LI0:=[d.i 0,d.i 1,d.i 2,d.i 3,d.i 4,d.i 5,bI (d.b 6)]
def gL (p:Int) (l:LD0):LI0:=p::(l.length:Int)::l.flatMap ng
def dI (p:Int) (l:LD0):LI0:=bif ly p l then cO (gL p l)else[]
theorem qN {p:Int} {l:LD0} (h:ly p l=true):(1<=p/\p<=600)/\l.length<=64:=by
 simp only[ly,mj,zae,zag]at h;omega
def N18:aA:=⟨T56.tab,18,⟨[.z0,.ab (sB 6)],[],0⟩,⟨[.buf 0 1],[.ints .u8],0⟩,[]⟩
abbrev LK:Type:=LD0 × Int × Int × LI0
def E2 (m:Nat) (k:LK->OU0):LK->OU0:=fun(a0,a1,a2,a3)=>
 bif decide (a2<a1)then
 chk (inb a2 a0.length)<|
 chk (decide (a2.toNat<a0.length))<|
 lt (ai a0 a2.toNat:Dat) fun d1=>
 bif (d1.b 6)then
 chk (fits (a3.length+7) 8)<|
 k (a0,a1,(w64 (a2+1)),(a3++([(d1.i 0),(d1.i 1),(d1.i 2),(d1.i 3),(d1.i 4),(d1.i 5),1])))
 else
 chk (fits (a3.length+7) 8)<|
 k (a0,a1,(w64 (a2+1)),(a3++([(d1.i 0),(d1.i 1),(d1.i 2),(d1.i 3),(d1.i 4),(d1.i 5),0])))
 else
 chk (decide (a3.length<=1000000))<|
 some ([.l (cO a3)])
def CZ (m:Nat):Nat->LK->OU0:=aX (E2 m)
theorem zf (m:Nat) (n:Nat):CZ m (n+1)=E2 m (CZ m n):=rfl
def Ry (F:LK->OU0):aQ:=⟨[.lp [0,1,0,1,1,1],.blk 0,.code [1,1,1,1]],⟨frm 44 [(5,.buf 0 1),(17,.ab (sB 6)),(18,.z0),(19,.z0)],[.ints .i64],0⟩,onU F⟩
theorem aaR (m:Nat):∀n,HO N18 (Ry (CZ m n)):=an ae T56.right (fun k=>[Ry k]) (fun k h=>(aI h az)) fun k a=>by kernel_rfl
def t18 (m:Nat):Int × LD0->OU0:=fun(a0,a1)=>
 bif !(ly a0 a1)then
 some ([.l ([])])
 else
 CZ m m (a1,(a1.length:Int),0,([a0,(a1.length:Int)]:LI0))
theorem ZM (m:Nat):∀(rest pre:LD0) (n:Nat) (acc:LI0),rest.length<n->(pre++rest).length<=1000->acc.length+7*rest.length<=100000->CZ m n (pre++rest,((pre++rest).length:Int),(pre.length:Int),acc)=some [.l (cO (acc++rest.flatMap ng))]:=by
 intro rest
 induction rest with
 |nil=>
  intro pre n acc hn hl ha;obtain⟨n,rfl⟩:=ah n (by simp at hn;omega);simp only[zar]at ha;rw[zf];unfold E2;dsimp only;rw[ay (by simp)];refine al (zaa (by omega)) ?_
  simp
 |cons x rest ih=>
  intro pre n acc hn hl ha;obtain⟨n,rfl⟩:=ah n (by simp at hn;omega);simp only[zac]at hn ha;have:=ih (pre++[x]) n (acc++ng x) (by omega) (by simpa using hl) (by simp[ng];omega);simp only[zab,zac]at hl;rw[zf];unfold E2;dsimp only;rw[aK (by simp only[zab,zac];omega),bQ (by omega) (by simp only[zab,zac];omega),aJ (by simp),aa (n:=(pre.length:Int)+1) (by omega) (by omega)];simp only[lt_eq,zat,ax];have e:∀k,acc++[x.i 0,x.i 1,x.i 2,x.i 3,x.i 4,x.i 5,k]=acc++([x.i 0,x.i 1,x.i 2,x.i 3,x.i 4,x.i 5]++[k]):=fun k=>rfl
  rw[bD (by omega) (by omega),bD (by omega) (by omega)];have e7:ng x=[x.i 0,x.i 1,x.i 2,x.i 3,x.i 4,x.i 5,bI (x.b 6)]:=rfl;simp only[zaX,zaq,zaC,zas,zab,zac,zar,zaF,e7]at this⊢;cases h6:x.b 6
  . rw[h6]at this;exact this
  . rw[h6]at this;exact this
def f18:Int × LD0->Bool × List Un:=fun(a0,a1)=>(true,[.l (dI a0 a1)])
theorem VH:ER 18 (mkE N18.en N18.ex f18):=ak ae T56.right (fun m=>[Ry (CZ m m)]) (t:=t18) (by kernel_rfl) (fun m=>(aI (aaR m m) az)) (fun m a=>by kernel_rfl) fun(a0,a1) hc=>by
 dsimp only[f18]at⊢;refine⟨100, ?_⟩;unfold t18 dI
 try dsimp only
 cases hB:ly a0 a1 with
 |false=>rfl
 |true=>
  have hl:=(qN hB).2;exact ZM 100 a1 [] 100 [a0,(a1.length:Int)] (by omega) (by simp;omega) (by simp;omega)
def T18:TB:=T56.ad VH
structure TdR where
 p:Int
 e:Int
 l:List Dat
def m8:Nat->RdR->LD0 × RdR
 |0,r=>([],r)
 |k+1,r=>let s:=nx (nx (nx (nx (nx (nx r)))));(.r [.n (nx r).v,.n (nx (nx r)).v,.n (nx (nx (nx r))).v,.n (nx (nx (nx (nx r)))).v,.n (nx (nx (nx (nx (nx r))))).v,.n s.v,.n (bI ((mx s 1).v==1))]::(m8 k (mx s 1)).1,(m8 k (mx s 1)).2)
def w5 (l:LI0):RdR:=rdN 0 (l.length:Int) false l
def AU (l:LI0):LD0 × RdR:=m8 (mx (w5 l) 64).v.toNat (mx (w5 l) 64)
def JO (l:LI0):TdR:=
 bif !(!(AU l).2.bad&&(AU l).2.n==0)then⟨0,1,[]⟩
 else bif ly (w5 l).v (AU l).1 then⟨(w5 l).v,0,(AU l).1⟩else⟨0,3,[]⟩
def aY (b:LI0):TdR:=bif !(b.length%8==0)then⟨0,1,[]⟩else JO (bW b)
def N53:aA:=⟨T18.tab,53,⟨[.ints .u8],[],0⟩,⟨[.z0,.buf 0 7,.z0],[.ab (sB 6)],0⟩,[[0,1,0,1,0,0,1,1,0,0,1,0,1,1,1,1,1,1]]⟩
abbrev LW:Type:=Int × Int × Int × Int × Int × Bool × LD0 × LI0
def Fi (m:Nat) (k:LW->OU0):LW->OU0:=fun(a0,a1,a2,a3,a4,a5,a6,a7)=>
 bif decide (a2<a1)then
 chk (decide ((a3.toNat:Int).toNat+(a4.toNat:Int).toNat<=a7.length))<|
 bd ((rdN (a3.toNat:Int) (a4.toNat:Int) a5 a7):RdR) fun r4=>
 chk (decide ((r4.o.toNat:Int).toNat+(r4.n.toNat:Int).toNat<=r4.l.length))<|
 bd ((rdN (r4.o.toNat:Int) (r4.n.toNat:Int) r4.bad r4.l):RdR) fun r5=>
 chk (decide ((r5.o.toNat:Int).toNat+(r5.n.toNat:Int).toNat<=r5.l.length))<|
 bd ((rdN (r5.o.toNat:Int) (r5.n.toNat:Int) r5.bad r5.l):RdR) fun r6=>
 chk (decide ((r6.o.toNat:Int).toNat+(r6.n.toNat:Int).toNat<=r6.l.length))<|
 bd ((rdN (r6.o.toNat:Int) (r6.n.toNat:Int) r6.bad r6.l):RdR) fun r7=>
 chk (decide ((r7.o.toNat:Int).toNat+(r7.n.toNat:Int).toNat<=r7.l.length))<|
 bd ((rdN (r7.o.toNat:Int) (r7.n.toNat:Int) r7.bad r7.l):RdR) fun r8=>
 chk (decide ((r8.o.toNat:Int).toNat+(r8.n.toNat:Int).toNat<=r8.l.length))<|
 bd ((rdN (r8.o.toNat:Int) (r8.n.toNat:Int) r8.bad r8.l):RdR) fun r9=>
 chk (decide ((r9.o.toNat:Int).toNat+(r9.n.toNat:Int).toNat<=r9.l.length))<|
 bd ((rdM (r9.o.toNat:Int) (r9.n.toNat:Int) r9.bad r9.l 1):RdR) fun r10=>
 chk (fits (a6.length+1) 56)<|
 k (a0,a1,(w64 (a2+1)),(r10.o.toNat:Int),(r10.n.toNat:Int),r10.bad,(a6++([.r [.n r4.v,.n r5.v,.n r6.v,.n r7.v,.n r8.v,.n r9.v,.n (bI (r10.v==1))]])),r10.l)
 else
 bif !(!a5&&((a4.toNat:Int).toNat:Int)==0)then
 some ([.i 0,.i 1,.d ([])])
 else
 bif !(ly a0 a6)then
 some ([.i 0,.i 3,.d ([])])
 else
 some ([.i a0,.i 0,.d a6])
def CX (m:Nat):Nat->LW->OU0:=aX (Fi m)
theorem zY (m:Nat) (n:Nat):CX m (n+1)=Fi m (CX m n):=rfl
def Rp (F:LW->OU0):aQ:=⟨[.lp [0,1,0,1,1,1,1,1,1],.blk 0,.code [1,1,1,1,1,1,1]],⟨frm 65 [(7,.ptr 0 0 0),(8,.z0),(9,.buf 1 7),(25,.z0),(26,.z0)],[.cells [.sl 2 1,.bool],.ab (sB 6),.ints .i64],0⟩,onU F⟩
theorem aaF (m:Nat):∀n,HO N53 (Rp (CX m n)):=an ae T18.right (fun k=>[Rp k]) (fun k h=>(aI h az)) fun k a=>by kernel_rfl
def t53 (m:Nat):LI0->OU0:=fun a0=>
 chk (decide (a0.length<=140737488351232))<|
 bif !(a0.length%8==0)then
 some ([.i 0,.i 1,.d ([])])
 else
 chk (decide ((ft a0).length<1000000))<|
 lt (((ft a0).length:Int):Int) fun x1=>
 chk (decide ((0:Int).toNat+(x1.toNat:Int).toNat<=(ft a0).length))<|
 bd ((rdN 0 (x1.toNat:Int) false (ft a0)):RdR) fun r2=>
 chk (decide ((r2.o.toNat:Int).toNat+(r2.n.toNat:Int).toNat<=r2.l.length))<|
 bd ((rdM (r2.o.toNat:Int) (r2.n.toNat:Int) r2.bad r2.l 64):RdR) fun r3=>
 CX m m (r2.v,r3.v,0,(r3.o.toNat:Int),(r3.n.toNat:Int),r3.bad,[],r3.l)
theorem afc (m:Nat) (p:Int):∀(c n k:Nat) (r:RdR) (acc:LD0),c<n->k+c<=64->acc.length<=k->RdI r->
 CX m n (p,((k+c:Nat):Int),(k:Int),r.o,r.n,r.bad,acc,r.l)=(bif !(!(m8 c r).2.bad&&(m8 c r).2.n==0)then some [.i 0,.i 1,.d []]else bif ly p (acc++(m8 c r).1)then some [.i p,.i 0,.d (acc++(m8 c r).1)]else some [.i 0,.i 3,.d []]):=by
 intro c
 induction c with
 |zero=>
  intro n k r acc hn hk ha hr;obtain⟨n,rfl⟩:=ah n (by omega);rw[zY];unfold Fi;dsimp only;rw[ay (by omega),hr.2.1,hr.2.1];simp only[m8,zaK];cases (!r.bad&&r.n==0)
  . rfl
  . simp only[zbr,zal];cases ly p acc<;>rfl
 |succ c ih=>
  intro n k r acc hn hk ha hr;obtain⟨n,rfl⟩:=ah n (by omega);rw[zY];unfold Fi;dsimp only;have h1:=bH hr;have h2:=bH h1;have h3:=bH h2;have h4:=bH h3;have h5:=bH h4;have h6:=bH h5;have h7:=uC (most:=1) h6;rw[aK (by omega)];dsimp only[bd];rw[hr.1,hr.2.1];refine al (zaa hr.2.2) ?_
  rw[show rdN r.o r.n r.bad r.l=nx r from rfl,h1.1,h1.2.1];refine al (zaa h1.2.2) ?_
  rw[show rdN (nx r).o (nx r).n (nx r).bad (nx r).l=nx (nx r) from rfl,h2.1,h2.2.1];refine al (zaa h2.2.2) ?_
  rw[show rdN (nx (nx r)).o (nx (nx r)).n (nx (nx r)).bad (nx (nx r)).l=nx (nx (nx r)) from rfl,h3.1,h3.2.1];refine al (zaa h3.2.2) ?_
  rw[show rdN (nx (nx (nx r))).o (nx (nx (nx r))).n (nx (nx (nx r))).bad (nx (nx (nx r))).l=nx (nx (nx (nx r))) from rfl,h4.1,h4.2.1];refine al (zaa h4.2.2) ?_
  rw[show rdN (nx (nx (nx (nx r)))).o (nx (nx (nx (nx r)))).n (nx (nx (nx (nx r)))).bad (nx (nx (nx (nx r)))).l=nx (nx (nx (nx (nx r)))) from rfl,h5.1,h5.2.1];refine al (zaa h5.2.2) ?_
  rw[show rdN (nx (nx (nx (nx (nx r))))).o (nx (nx (nx (nx (nx r))))).n (nx (nx (nx (nx (nx r))))).bad (nx (nx (nx (nx (nx r))))).l=nx (nx (nx (nx (nx (nx r))))) from rfl,h6.1,h6.2.1];refine al (zaa h6.2.2) ?_
  simp only[m8];generalize nx (nx (nx (nx (nx (nx r)))))=s at*
  rw[show rdM s.o s.n s.bad s.l 1=mx s 1 from rfl,h7.1,h7.2.1,bD (by omega) (by omega)];have e:w64 ((k:Int)+1)=((k+1:Nat):Int):=by rw[aa (by omega) (by omega)];simp
  rw[e,show k+(c+1)=k+1+c by omega,ih n (k+1) (mx s 1) _ (by omega) (by omega) (by simp;omega) h7];simp only[zaq,zaC,zas]
def f53:LI0->Bool × List Un:=fun a0=>(decide (a0.length<=1000000),[.i ((aY a0).p),.i ((aY a0).e),.d ((aY a0).l)])
theorem TT:ER 53 (mkE N53.en N53.ex f53):=ak ae T18.right (fun m=>[Rp (CX m m)]) (t:=t53) (by kernel_rfl) (fun m=>(aI (aaF m m) az)) (fun m a=>by kernel_rfl) fun a0 hc=>by
 dsimp only[f53]at hc⊢;have hl:=zaj hc;refine⟨100, ?_⟩;unfold t53 aY
 try dsimp only
 refine al (zaa (by omega)) ?_
 cases h8:(a0.length%8==0)with
 |false=>rfl
 |true=>
  have e:ft a0=bW a0:=by unfold ft;rw[h8];rfl
  rw[e];have hw:=qR a0;refine ck rfl (al (zaa (by omega)) ?_);dsimp only[lt,bd];refine al (zaa (by simp)) ?_
  rw[show(((bW a0).length:Int).toNat:Int)=((bW a0).length:Int) from rfl];have i1:RdI (w5 (bW a0)):=(HE (by simp)).1;rw[show rdN 0 ((bW a0).length:Int) false (bW a0)=w5 (bW a0) from rfl];unfold JO AU
  try dsimp only[Bool.not_true,cond_false]
  generalize w5 (bW a0)=r at*
  rw[i1.1,i1.2.1];refine al (zaa i1.2.2) ?_
  have i2:=uC (most:=64) i1;rw[show rdM r.o r.n r.bad r.l 64=mx r 64 from rfl,i2.1,i2.2.1];have v0:=Nx (r:=r) (most:=64) (by decide);have:=afc 100 r.v (mx r 64).v.toNat 100 0 (mx r 64) [] (by omega) (by omega) (by simp) i2;rw[show(((0+(mx r 64).v.toNat:Nat)):Int)=(mx r 64).v by omega,zas]at this;refine this.trans ?_
  cases (!(!(m8 (mx r 64).v.toNat (mx r 64)).2.bad&&(m8 (mx r 64).v.toNat (mx r 64)).2.n==0))
  . simp only[zal];cases ly r.v (m8 (mx r 64).v.toNat (mx r 64)).1<;>rfl
  . rfl
def T53:TB:=T18.ad TT
end
end Go.Proofs.YtfaojedfnjdnnaaGreat
