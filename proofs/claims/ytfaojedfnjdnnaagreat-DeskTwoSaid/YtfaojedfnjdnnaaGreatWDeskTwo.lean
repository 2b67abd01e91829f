/- A part of the walk. -/
import Derived.Test.YtfaojedfnjdnnaaGreatQ7
set_option linter.unusedVariables false
set_option linter.unusedSimpArgs false
namespace Go.Proofs.YtfaojedfnjdnnaaGreat
noncomputable section
open Go Go.Proofs.YtfaojedfnjdnnaaGreat.Ev
set_option maxRecDepth 20000
def HS:List Par:=[(true,[.int .i64,.int .i64,.int .i64,.int .i64,.int .i64,.int .i64,.int .i64,.int .i64,.int .i64,.int .i64,.int .i64,.int .i64,.int .i64,.ints .i64,.ints .i64,.ints .i64,.ints .i64,.ints .i64,.ints .i64,.ints .i64]),(true,[.int .i64,.int .i64,.int .i64,.int .i64,.int .i64,.int .i64,.int .i64,.int .i64,.int .i64,.int .i64,.int .i64,.int .i64,.int .i64,.ints .i64,.ints .i64,.ints .i64,.ints .i64,.ints .i64,.ints .i64,.ints .i64]),(false,[.ab [.ints .i64,.ints .i64,.ints .i64,.ints .i64,.ints .i64,.ints .i64]]),(false,[.ab [.ints .i64,.ints .i64,.ints .i64,.ints .i64,.ints .i64,.ints .i64]])]
def N5:aA:=⟨T3.tab,5,⟨List.map Par.vp HS,[],0⟩,⟨[.bool],[],0⟩,[]⟩
abbrev U7:Type:=LD0 × LD0 × Int × Int × Int × Int × ao × ao × av × aw × av × aw × LD0 × LD0 × LD0 × LD0 × LD0 × LD0 × LD0 × LD0 × LD0 × LD0
def MC (m:Nat) (k:U7->OU0):U7->OU0:=fun(a0,a1,a2,a3,a4,a5,a6,a7,a8,a9,a10,a11,a12,a13,a14,a15,a16,a17,a18,a19,a20,a21)=>
 bif decide (a5<a4)then
 chk (inb a5 a0.length)<|
 chk (decide (a5.toNat<a0.length))<|
 lt (ai a0 a5.toNat:Dat) fun d10=>
 chk (decide (0<=a2)&&(cB a6&&(decide ((⟨a8,a12,a13,a9,a14,a15,a16⟩:aT).aC.length<=64)&&(decide (a6.has<0)||decide ((⟨a8,a12,a13,a9,a14,a15,a16⟩:aT).aC.length=a6.t.aN.length)))))<|
 lt ((dM (w64 (a5+1)) (nu (d10.l 0) (d10.l 1) (d10.l 2) (d10.l 3) (d10.l 4) (d10.l 5) (⟨a8,a12,a13,a9,a14,a15,a16⟩:aT).aC a6)):LI0) fun l12=>
 chk (decide (0<=a2)&&(mh l12&&cB a6))<|
 bd ((dB l12 a6):nY) fun r13=>
 chk (inb a5 a1.length)<|
 chk (decide (a5.toNat<a1.length))<|
 lt (ai a1 a5.toNat:Dat) fun d14=>
 chk (decide (0<=a3)&&(cB a7&&(decide ((⟨a10,a17,a18,a11,a19,a20,a21⟩:aT).aC.length<=64)&&(decide (a7.has<0)||decide ((⟨a10,a17,a18,a11,a19,a20,a21⟩:aT).aC.length=a7.t.aN.length)))))<|
 lt ((dM (w64 (a5+1)) (nu (d14.l 0) (d14.l 1) (d14.l 2) (d14.l 3) (d14.l 4) (d14.l 5) (⟨a10,a17,a18,a11,a19,a20,a21⟩:aT).aC a7)):LI0) fun l16=>
 chk (decide (0<=a3)&&(mh l16&&cB a7))<|
 bd ((dB l16 a7):nY) fun r17=>
 bif r13.e !=0 then
 some ([.b false])
 else
 bif r17.e !=0 then
 some ([.b false])
 else
 k (a0,a1,a2,a3,a4,(w64 (a5+1)),r13.d,r17.d,a8,a9,a10,a11,a12,a13,a14,a15,a16,a17,a18,a19,a20,a21)
 else
 chk (decide (a6.b.length<1000000))<|
 chk (decide (a6.b.length<900000)&&cG a6.b&&cZ a6.b)<|
 bd ((fy a6.n a6.b):rf) fun r18=>
 bif ((decide (r18.j<0))&&true)then
 some ([.b false])
 else
 bif r18.e !=0 then
 some ([.b false])
 else
 chk (decide (0<=r18.j)&&(cB (⟨r18.o.has,r18.o.c,r18.n,r18.b,r18.o.aF,r18.o.t⟩:ao)))<|
 lt ((iu (⟨r18.o.has,r18.o.c,r18.n,r18.b,r18.o.aF,r18.o.t⟩:ao)):LI0) fun l20=>
 chk (decide (0<=a2)&&(cB a6))<|
 chk (decide (l20.length<1099511627776))<|
 bif !(gE l20 (iu a6))then
 some ([.b false])
 else
 chk (decide (0<=a2)&&(cB a6))<|
 lt ((dM (w64 (a4+1)) ([]:LD0)):LI0) fun l21=>
 chk (decide (0<=r18.j)&&(mh l21&&cB (⟨r18.o.has,r18.o.c,r18.n,r18.b,r18.o.aF,r18.o.t⟩:ao)))<|
 bd ((dB l21 (⟨r18.o.has,r18.o.c,r18.n,r18.b,r18.o.aF,r18.o.t⟩:ao)):nY) fun r22=>
 bif r22.e==0 then
 chk (decide (0<=r18.j))<|
 bif ((r22.d.aF.length:Int)==(w64 (a4+1)))then
 chk (decide (0<=a2))<|
 bif ((a6.aF.length:Int)==a4)then
 chk (decide (0<=a3))<|
 bif ((a7.aF.length:Int)==a4)then
 chk (decide (0<=a2)&&(cB a6))<|
 chk (decide ((iu a6).length<1099511627776))<|
 bif (gE (iu a6) (iu a6))then
 some ([.b true])
 else
 some ([.b false])
 else
 some ([.b false])
 else
 some ([.b false])
 else
 some ([.b false])
 else
 some ([.b false])
def IW (m:Nat):Nat->U7->OU0:=aZ (MC m)
theorem Dj (m:Nat) (n:Nat):IW m (n+1)=MC m (IW m n):=rfl
def VK (F:U7->OU0):aQ:=⟨[.lp [0,1,0,1,1,1,1,1,1,1,1],.blk 0,.code [1,1,1,1,1,1,1,1,1]],⟨frm 180 [(2,.ab [.ints .i64,.ints .i64,.ints .i64,.ints .i64,.ints .i64,.ints .i64]),(3,.ab [.ints .i64,.ints .i64,.ints .i64,.ints .i64,.ints .i64,.ints .i64]),(9,.ptr 2 0 0),(11,.np 0 0 0),(13,.np 14 0 0),(15,.ptr 28 0 0),(16,.ptr 29 0 0),(17,.z0),(18,.z0)],[.cells [.ptr 1 0 0,.np 5 0 0,.buf 4 1,.any],.cells [.ptr 2 0 0,.z0,.bool],.cells [.buf 3 1,.z0,.bool,.z0,.bool],.ints .u8,.ab [.ints .u8]]++aU 5++[.cells [.ptr 15 0 0,.np 19 0 0,.buf 18 1,.any],.cells [.ptr 16 0 0,.z0,.bool],.cells [.buf 17 1,.z0,.bool,.z0,.bool],.ints .u8,.ab [.ints .u8]]++aU 19++[.cells [.z0,.z0,.z0,.buf 30 2,.buf 31 3,.z0,.z0,.z0,.z0,.z0,.z0,.z0,.z0,.z0,.z0,.buf 32 2,.buf 33 2,.buf 34 2],.cells [.z0,.z0,.z0,.buf 35 2,.buf 36 3,.z0,.z0,.z0,.z0,.z0,.z0,.z0,.z0,.z0,.z0,.buf 37 2,.buf 38 2,.buf 39 2],.ab (sI 2),.ab (sI 3),.ab (sI 2),.ab (sI 2),.ab (sI 2),.ab (sI 2),.ab (sI 3),.ab (sI 2),.ab (sI 2),.ab (sI 2)],0⟩,onU F⟩
theorem aeH (m:Nat):∀n,HO N5 (VK (IW m n)):=an ae T3.right (fun k=>[VK k]) (fun k h=>(aI h az)) fun k a=>by kernel_rfl
def t5 (m:Nat):ck × ck × LD0 × LD0->OU0:=fun(a0,a1,a2,a3)=>
 chk (decide (([]:LI0).length<900000)&&cG ([]:LI0)&&cZ ([]:LI0))<|
 bd ((fy (⟨0,false,0,false⟩:aW) ([]:LI0)):rf) fun r3=>
 chk (decide (([]:LI0).length<900000)&&cG ([]:LI0)&&cZ ([]:LI0))<|
 bd ((fy (⟨0,false,0,false⟩:aW) ([]:LI0)):rf) fun r4=>
 chk (decide (a0.notes.length<=140737488355328))<|
 chk (decide (a1.notes.length<=140737488355328))<|
 bif ((decide (r3.j<0))&&true)then
 some ([.b false])
 else
 bif ((decide (r4.j<0))&&true)then
 some ([.b false])
 else
 chk (decide (0<=r3.j)&&(mh (dF (bF a0))&&cB (⟨r3.o.has,r3.o.c,r3.n,r3.b,r3.o.aF,r3.o.t⟩:ao)))<|
 bd ((pb (dF (bF a0)) (⟨r3.o.has,r3.o.c,r3.n,r3.b,r3.o.aF,r3.o.t⟩:ao)):nY) fun r7=>
 bif r7.e !=0 then
 some ([.b false])
 else
 chk (decide (0<=r4.j)&&(mh (dF (bF a1))&&cB (⟨r4.o.has,r4.o.c,r4.n,r4.b,r4.o.aF,r4.o.t⟩:ao)))<|
 bd ((pb (dF (bF a1)) (⟨r4.o.has,r4.o.c,r4.n,r4.b,r4.o.aF,r4.o.t⟩:ao)):nY) fun r8=>
 bif r8.e !=0 then
 some ([.b false])
 else
 IW m m (a2,a3,r3.j,r4.j,(if 5<(if (a3.length:Int)<(a2.length:Int)then(a3.length:Int)else(a2.length:Int))then 5 else(if (a3.length:Int)<(a2.length:Int)then(a3.length:Int)else(a2.length:Int))),0,r7.d,r8.d,((bF a0).a),((bF a0).b),((bF a1).a),((bF a1).b),(bF a0).aC,(bF a0).notes,(bF a0).s0,(bF a0).s1,(bF a0).s2,(bF a1).aC,(bF a1).notes,(bF a1).s0,(bF a1).s1,(bF a1).s2)
theorem aca (m:Nat) (ts us:LD0) (d e:aT) (M:Nat) (hM:M<=5) (ht:M<=ts.length) (hu:M<=us.length):∀(c n i:Nat) (s z:ao) (xs ys:List (LI0)),i+c=M->c<n->Run d i s xs->Run e i z ys->
 IW m n (ts,us,0,0,(M:Int),(i:Int),s,z,d.a,d.b,e.a,e.b,d.aC,d.notes,d.s0,d.s1,d.s2,e.aC,e.notes,e.s0,e.s1,e.s2)=some [.b true]:=by
 intro c
 induction c with
 |zero=>
  intro n i s z xs ys hi hn hs hz;obtain⟨n,rfl⟩:=ah n (by omega);have hiM:i=M:=by omega
  subst hiM;rw[Dj];unfold MC;dsimp only;have hl:=hs.live.len;rw[ay (by omega)];refine al (zaa (by omega)) (al hs.okB (lj fun r18 h18=> ?_));rw[hs.opened]at h18;refine cm (by rw[h18];rfl) (cm (by rw[h18];rfl) ?_);have es:({has:=r18.o.has,c:=r18.o.c,n:=r18.n,b:=r18.b,aF:=r18.o.aF,t:=r18.o.t}:ao)=s:=by rw[h18];rfl
  have ej:r18.j=0:=by rw[h18]
  rw[es,ej];simp only[lt_eq];refine al hs.live.okD (al hs.live.okD (al (zaa hs.zS) (cm (by rw[(iQ _ _).2 rfl];rfl) (al hs.live.okD ?_))));rw[aa (n:=(i:Int)+1) (by omega) (by omega)];obtain⟨s',e1,R1,e2,e3⟩:=hs.next (by omega) (Xz s.t) fun e he=>absurd he (by simp)
  refine al (by rw[iM];exact hs.live.okD) (lj fun r22 h22=> ?_);rw[e1]at h22;refine cu (by rw[h22];rfl) (al rfl (cu (by rw[h22];exact jE (by show(s'.aF.length:Int)=_;rw[R1.aF];omega)) (al rfl (cu (jE (by rw[hs.aF])) (al rfl (cu (jE (by rw[hz.aF])) (al hs.live.okD (al (zaa hs.zS) (cu ((iQ _ _).2 rfl) rfl)))))))))
 |succ c ih=>
  intro n i s z xs ys hi hn hs hz;obtain⟨n,rfl⟩:=ah n (by omega);rw[Dj];unfold MC;dsimp only;rw[aL (by omega),bQ (by omega) (by omega),aJ (by omega)];simp only[lt_eq];rw[aa (n:=(i:Int)+1) (by omega) (by omega)];obtain⟨s',e1,R1,_⟩:=hs.made (by omega) ((ai ts (i:Int).toNat).l 0) ((ai ts (i:Int).toNat).l 1) ((ai ts (i:Int).toNat).l 2) ((ai ts (i:Int).toNat).l 3) ((ai ts (i:Int).toNat).l 4) ((ai ts (i:Int).toNat).l 5);obtain⟨z',f1,R2,_⟩:=hz.made (by omega) ((ai us (i:Int).toNat).l 0) ((ai us (i:Int).toNat).l 1) ((ai us (i:Int).toNat).l 2) ((ai us (i:Int).toNat).l 3) ((ai us (i:Int).toNat).l 4) ((ai us (i:Int).toNat).l 5);refine al hs.okL (al (by rw[iM];exact hs.live.okD) (lj fun r13 h13=> ?_));rw[e1]at h13;rw[bQ (by omega) (by omega),aJ (by omega)];refine al hz.okL (al (by rw[iM];exact hz.live.okD) (lj fun r17 h17=> ?_));rw[f1]at h17;refine cm (by rw[h13];rfl) (cm (by rw[h17];rfl) ?_);rw[show r13.d=s' by rw[h13],show r17.d=z' by rw[h17]];exact ih n (i+1) s' z' _ _ (by omega) (by omega) R1 R2
theorem abh (b0:Int) (wb0:(Lit.int .i64 b0).wf=true) (b1:Int) (wb1:(Lit.int .i64 b1).wf=true) (b2:Int) (wb2:(Lit.int .i64 b2).wf=true) (b3:Int) (wb3:(Lit.int .i64 b3).wf=true) (b4:Int) (wb4:(Lit.int .i64 b4).wf=true) (b5:Int) (wb5:(Lit.int .i64 b5).wf=true) (b6:Int) (wb6:(Lit.int .i64 b6).wf=true) (b7:Int) (wb7:(Lit.int .i64 b7).wf=true) (b8:Int) (wb8:(Lit.int .i64 b8).wf=true) (b9:Int) (wb9:(Lit.int .i64 b9).wf=true) (b10:Int) (Tf:(Lit.int .i64 b10).wf=true) (b11:Int) (Tg:(Lit.int .i64 b11).wf=true) (b12:Int) (Th:(Lit.int .i64 b12).wf=true) (b13:LI0) (Ti:b13.length<=140737488355328/\∀x∈b13,(Lit.int .i64 x).wf=true) (b14:LI0) (KZ:b14.length<=140737488355328/\∀x∈b14,(Lit.int .i64 x).wf=true) (b15:LI0) (Tj:b15.length<=140737488355328/\∀x∈b15,(Lit.int .i64 x).wf=true) (b16:LI0) (Tk:b16.length<=140737488355328/\∀x∈b16,(Lit.int .i64 x).wf=true) (b17:LI0) (Tl:b17.length<=140737488355328/\∀x∈b17,(Lit.int .i64 x).wf=true) (b18:LI0) (Tm:b18.length<=140737488355328/\∀x∈b18,(Lit.int .i64 x).wf=true) (b19:LI0) (Tn:b19.length<=140737488355328/\∀x∈b19,(Lit.int .i64 x).wf=true) (b20:Int) (To:(Lit.int .i64 b20).wf=true) (b21:Int) (Tp:(Lit.int .i64 b21).wf=true) (b22:Int) (Ov:(Lit.int .i64 b22).wf=true) (b23:Int) (ad1:(Lit.int .i64 b23).wf=true) (b24:Int) (ad2:(Lit.int .i64 b24).wf=true) (b25:Int) (ad3:(Lit.int .i64 b25).wf=true) (b26:Int) (ad4:(Lit.int .i64 b26).wf=true) (b27:Int) (ad5:(Lit.int .i64 b27).wf=true) (b28:Int) (ad6:(Lit.int .i64 b28).wf=true) (b29:Int) (ad7:(Lit.int .i64 b29).wf=true) (b30:Int) (ad8:(Lit.int .i64 b30).wf=true) (b31:Int) (ad9:(Lit.int .i64 b31).wf=true) (b32:Int) (aea:(Lit.int .i64 b32).wf=true) (b33:LI0) (aeb:b33.length<=140737488355328/\∀x∈b33,(Lit.int .i64 x).wf=true) (b34:LI0) (aaq:b34.length<=140737488355328/\∀x∈b34,(Lit.int .i64 x).wf=true) (b35:LI0) (aec:b35.length<=140737488355328/\∀x∈b35,(Lit.int .i64 x).wf=true) (b36:LI0) (aed:b36.length<=140737488355328/\∀x∈b36,(Lit.int .i64 x).wf=true) (b37:LI0) (aee:b37.length<=140737488355328/\∀x∈b37,(Lit.int .i64 x).wf=true) (b38:LI0) (aef:b38.length<=140737488355328/\∀x∈b38,(Lit.int .i64 x).wf=true) (b39:LI0) (aeg:b39.length<=140737488355328/\∀x∈b39,(Lit.int .i64 x).wf=true) (b40:LD0) (aeh:b40.length<=140737488355328/\∀x∈b40,WfR [.ints .i64,.ints .i64,.ints .i64,.ints .i64,.ints .i64,.ints .i64] x.sub) (b41:LD0) (aei:b41.length<=140737488355328/\∀x∈b41,WfR [.ints .i64,.ints .i64,.ints .i64,.ints .i64,.ints .i64,.ints .i64] x.sub):∃m,t5 m ((⟨(⟨b0,b1,b2⟩:av),(⟨b3,b4,b5,b6,b7,b8,b9,b10,b11,b12⟩:aw),b13,b14,b15,b16,b17,b18,b19⟩:ck),(⟨(⟨b20,b21,b22⟩:av),(⟨b23,b24,b25,b26,b27,b28,b29,b30,b31,b32⟩:aw),b33,b34,b35,b36,b37,b38,b39⟩:ck),b40,b41)=some [.b true]:=by
 have hn0:(⟨⟨b0,b1,b2⟩,⟨b3,b4,b5,b6,b7,b8,b9,b10,b11,b12⟩,b13,b14,b15,b16,b17,b18,b19⟩:ck).notes.length<=140737488355328:=KZ.1;have hn1:(⟨⟨b20,b21,b22⟩,⟨b23,b24,b25,b26,b27,b28,b29,b30,b31,b32⟩,b33,b34,b35,b36,b37,b38,b39⟩:ck).notes.length<=140737488355328:=aaq.1;generalize (⟨⟨b0,b1,b2⟩,⟨b3,b4,b5,b6,b7,b8,b9,b10,b11,b12⟩,b13,b14,b15,b16,b17,b18,b19⟩:ck)=k at hn0;generalize (⟨⟨b20,b21,b22⟩,⟨b23,b24,b25,b26,b27,b28,b29,b30,b31,b32⟩,b33,b34,b35,b36,b37,b38,b39⟩:ck)=q at hn1;refine⟨100, ?_⟩;unfold t5;refine al rfl (lj fun r3 h3=>al rfl (lj fun r4 h4=> ?_));rw[Br]at h3 h4;refine al (zaa hn0) (al (zaa hn1) (cm (by rw[h3];rfl) (cm (by rw[h4];rfl) ?_)));obtain⟨s,e1,R1⟩:=Run.load k;obtain⟨z,e2,R2⟩:=Run.load q;have es3:({has:=r3.o.has,c:=r3.o.c,n:=r3.n,b:=r3.b,aF:=r3.o.aF,t:=r3.o.t}:ao)=ev:=by rw[h3];rfl
 have es4:({has:=r4.o.has,c:=r4.o.c,n:=r4.n,b:=r4.b,aF:=r4.o.aF,t:=r4.o.t}:ao)=ev:=by rw[h4];rfl
 rw[es3,es4,show r3.j=0 by rw[h3],show r4.j=0 by rw[h4]];have ok:(decide ((0:Int)<=0)&&(mh (dF (bF k))&&cB ev))=true:=by rw[nO];exact(Live.new ⟨0,false,0,false⟩).okD
 have ok2:(decide ((0:Int)<=0)&&(mh (dF (bF q))&&cB ev))=true:=by rw[nO];exact(Live.new ⟨0,false,0,false⟩).okD
 refine al ok (lj fun r7 h7=> ?_);rw[e1]at h7;refine cm (by rw[h7];rfl) (al ok2 (lj fun r8 h8=> ?_));rw[e2]at h8;refine cm (by rw[h8];rfl) ?_
 rw[show r7.d=s by rw[h7],show r8.d=z by rw[h8]];have hN:∀x y:Nat,(if 5<(if (y:Int)<(x:Int)then(y:Int)else(x:Int))then 5 else(if (y:Int)<(x:Int)then(y:Int)else(x:Int)))=((min 5 (min x y):Nat):Int):=fun x y=>by split<;>split<;>omega
 rw[hN];exact aca 100 b40 b41 (bF k) (bF q) (min 5 (min b40.length b41.length)) (by omega) (by omega) (by omega) (min 5 (min b40.length b41.length)) 100 0 s z _ _ (by omega) (by omega) R1 R2
set_option maxRecDepth 20000 in
theorem G8 {HH:Type} {enc:TypeId × Value->HH} {w:World} {base:Nat} {vs:List Value} {ds:List (DataW HH)} {ps:List MemPlace} (hsh:w.ShapedOpen Tryz.prog)
 (hd:DataW.TrodAll enc Tryz.prog w 0 (fun _=>true) true Tryz.f5.params.toList vs ds ps) {us':List TypeId} {gs:List (DataW HH)} (hz:(DataW.weightsEach Tryz.prog (Tryz.f5.params.toList++us') (ds++gs)).all (·<=reachBytes)=true) (FY:∀(j:Nat) t v,Tryz.f5.params.toList[j]? =some t->vs[j]? =some v->Value.okWide Tryz.prog w .any base t v):
 Calls Tryz.prog 5 vs.toArray w fun e w'=>e= .returned (.bool true)/\RowKit.Below w.heap.size w w':=
 Gq Seat.mix Seat.names Hh Ow (pars:=HS) (by kernel_rfl) (fun us h=>by
  change WfU [.int .i64,.int .i64,.int .i64,.int .i64,.int .i64,.int .i64,.int .i64,.int .i64,.int .i64,.int .i64,.int .i64,.int .i64,.int .i64,.ints .i64,.ints .i64,.ints .i64,.ints .i64,.ints .i64,.ints .i64,.ints .i64,.int .i64,.int .i64,.int .i64,.int .i64,.int .i64,.int .i64,.int .i64,.int .i64,.int .i64,.int .i64,.int .i64,.int .i64,.int .i64,.ints .i64,.ints .i64,.ints .i64,.ints .i64,.ints .i64,.ints .i64,.ints .i64,.ab [.ints .i64,.ints .i64,.ints .i64,.ints .i64,.ints .i64,.ints .i64],.ab [.ints .i64,.ints .i64,.ints .i64,.ints .i64,.ints .i64,.ints .i64]] us at h;obtain⟨b0,u,rfl,wb0,h⟩:=bP h;obtain⟨b1,u,rfl,wb1,h⟩:=bP h;obtain⟨b2,u,rfl,wb2,h⟩:=bP h;obtain⟨b3,u,rfl,wb3,h⟩:=bP h;obtain⟨b4,u,rfl,wb4,h⟩:=bP h;obtain⟨b5,u,rfl,wb5,h⟩:=bP h;obtain⟨b6,u,rfl,wb6,h⟩:=bP h;obtain⟨b7,u,rfl,wb7,h⟩:=bP h;obtain⟨b8,u,rfl,wb8,h⟩:=bP h;obtain⟨b9,u,rfl,wb9,h⟩:=bP h;obtain⟨b10,u,rfl,Tf,h⟩:=bP h;obtain⟨b11,u,rfl,Tg,h⟩:=bP h;obtain⟨b12,u,rfl,Th,h⟩:=bP h;obtain⟨b13,u,rfl,Ti,h⟩:=dn h;obtain⟨b14,u,rfl,KZ,h⟩:=dn h;obtain⟨b15,u,rfl,Tj,h⟩:=dn h;obtain⟨b16,u,rfl,Tk,h⟩:=dn h;obtain⟨b17,u,rfl,Tl,h⟩:=dn h;obtain⟨b18,u,rfl,Tm,h⟩:=dn h;obtain⟨b19,u,rfl,Tn,h⟩:=dn h;obtain⟨b20,u,rfl,To,h⟩:=bP h;obtain⟨b21,u,rfl,Tp,h⟩:=bP h;obtain⟨b22,u,rfl,Ov,h⟩:=bP h;obtain⟨b23,u,rfl,ad1,h⟩:=bP h;obtain⟨b24,u,rfl,ad2,h⟩:=bP h;obtain⟨b25,u,rfl,ad3,h⟩:=bP h;obtain⟨b26,u,rfl,ad4,h⟩:=bP h;obtain⟨b27,u,rfl,ad5,h⟩:=bP h;obtain⟨b28,u,rfl,ad6,h⟩:=bP h;obtain⟨b29,u,rfl,ad7,h⟩:=bP h;obtain⟨b30,u,rfl,ad8,h⟩:=bP h;obtain⟨b31,u,rfl,ad9,h⟩:=bP h;obtain⟨b32,u,rfl,aea,h⟩:=bP h;obtain⟨b33,u,rfl,aeb,h⟩:=dn h;obtain⟨b34,u,rfl,aaq,h⟩:=dn h;obtain⟨b35,u,rfl,aec,h⟩:=dn h;obtain⟨b36,u,rfl,aed,h⟩:=dn h;obtain⟨b37,u,rfl,aee,h⟩:=dn h;obtain⟨b38,u,rfl,aef,h⟩:=dn h;obtain⟨b39,u,rfl,aeg,h⟩:=dn h;obtain⟨b40,u,rfl,aeh,h⟩:=yD h;obtain⟨b41,u,rfl,aei,h⟩:=yD h;obtain rfl:=JQ h;obtain⟨m,hm⟩:=abh b0 wb0 b1 wb1 b2 wb2 b3 wb3 b4 wb4 b5 wb5 b6 wb6 b7 wb7 b8 wb8 b9 wb9 b10 Tf b11 Tg b12 Th b13 Ti b14 KZ b15 Tj b16 Tk b17 Tl b18 Tm b19 Tn b20 To b21 Tp b22 Ov b23 ad1 b24 ad2 b25 ad3 b26 ad4 b27 ad5 b28 ad6 b29 ad7 b30 ad8 b31 ad9 b32 aea b33 aeb b34 aaq b35 aec b36 aed b37 aee b38 aef b39 aeg b40 aeh b41 aei;have G:N5.Gf Tryz.prog LQ KN (Uns.enc ((⟨(⟨b0,b1,b2⟩:av),(⟨b3,b4,b5,b6,b7,b8,b9,b10,b11,b12⟩:aw),b13,b14,b15,b16,b17,b18,b19⟩:ck),(⟨(⟨b20,b21,b22⟩:av),(⟨b23,b24,b25,b26,b27,b28,b29,b30,b31,b32⟩:aw),b33,b34,b35,b36,b37,b38,b39⟩:ck),b40,b41)) ([VK (IW m m)])=t5 m ((⟨(⟨b0,b1,b2⟩:av),(⟨b3,b4,b5,b6,b7,b8,b9,b10,b11,b12⟩:aw),b13,b14,b15,b16,b17,b18,b19⟩:ck),(⟨(⟨b20,b21,b22⟩:av),(⟨b23,b24,b25,b26,b27,b28,b29,b30,b31,b32⟩:aw),b33,b34,b35,b36,b37,b38,b39⟩:ck),b40,b41):=by kernel_rfl
  exact N5.R3 ae T3.right (W:=[VK (IW m m)]) (by kernel_rfl) (by kernel_rfl) (by kernel_rfl) (aI (aeH m m) az) (G.trans hm)) hsh hd hz FY
end
end Go.Proofs.YtfaojedfnjdnnaaGreat
