/- Part of a proof: TheDesk, DeskOpen, Docs, Replay, DeskLines, DeskRuns, DeskKeep, DeskSpoil, DeskFall. Conditions: none. -/
import Derived.Test.YtfaojedfnjdnnaaGreatQ6
set_option linter.unusedVariables false
set_option linter.unusedSimpArgs false
set_option linter.unnecessarySimpa false
set_option linter.unusedSectionVars false
namespace Go.Proofs.YtfaojedfnjdnnaaGreat
noncomputable section
open Go Go.Proofs.YtfaojedfnjdnnaaGreat.Ev
set_option maxRecDepth 20000
instance : Uns af := Uns.via (B := av × aw × aq × LD0 × LD0 × LD0 × LD0 × LD0 × LD0 × LD0) (fun x => (x.a, x.b, x.n, x.aC, x.notes, x.s0, x.s1, x.s2, x.aN, x.tr)) (fun x => match x with | (a, b, n, aC, notes, s0, s1, s2, aN, tr) => ⟨a, b, n, aC, notes, s0, s1, s2, aN, tr⟩) (fun _ => rfl)
@[ext] structure ao where
 has:Int
 c:eU
 n:aW
 b:List Int
 aF:List Dat
 t:af
instance : Uns ao := Uns.via (B := Int × eU × aW × LI0 × LD0 × af) (fun x => (x.has, x.c, x.n, x.b, x.aF, x.t)) (fun x => match x with | (has, c, n, b, aF, t) => ⟨has, c, n, b, aF, t⟩) (fun _ => rfl)
@[ext] structure gZ where
 has:Int
 c:eU
 aF:List Dat
 t:af
instance : Uns gZ := Uns.via (B := Int × eU × LD0 × af) (fun x => (x.has, x.c, x.aF, x.t)) (fun x => match x with | (has, c, aF, t) => ⟨has, c, aF, t⟩) (fun _ => rfl)
structure Ny where
 j:Int
 txt:List Int
 e:Int
 t:af
def noT:af:=⟨⟨0,0,0⟩,⟨0,0,0,0,0,0,0,0,0,0⟩,⟨0,0,0,0,0,0,0,0,0,false⟩,[],[],[],[],[],[],[]⟩
def noA (e:Int):Ny:=⟨-1,[],e,noT⟩
def nW (r:pU):LI0:=jj r.ra r.bm r.rb r.notes r.next
def cK (b:LI0) (s:ao):Ny:=bif decide (s.has<0)then bif (dK b).e !=0 then noA (dK b).e else⟨0,[],0,dG (dK b).d⟩else noA 4
def bG (p:Int) (l:LD0) (s:ao):Ny:=bif p !=(s.aF.length:Int)+1 then noA 4 else bif (aH s.t l).e !=0 then noA (aH s.t l).e else⟨0,nW (aH s.t l),0,(aH s.t l).t⟩
def lu (s:ao):Ny:=noA 4
theorem GL {b:LI0} (h:(dK b).e=0):(cI (dK b).d).isSome=true:=by
 unfold dK at h⊢;cases c:(!(b.length%8==0))
 . rw[c]at h;simp only[zal]at h⊢;unfold ddV at h⊢;cases c2:(!(!(dQ 0 ((bX b).length:Int) false (bX b)).r.bad&&(dQ 0 ((bX b).length:Int) false (bX b)).r.n==0))
   . rw[c2]at h;simp only[zal]at h⊢;cases c3:(cI (dQ 0 ((bX b).length:Int) false (bX b)).d).isSome
     . rw[c3]at h;cases h
     . exact c3
   . rw[c2]at h;cases h
 . rw[c]at h;cases h
theorem GV {T:af} {l:LD0} (h:(aH T l).e=0):T.n.gU=false/\T.n.period<600/\(cP T l).e=0/\aH T l=fj T l:=by
 unfold aH at h⊢;cases ho:T.n.gU
 case true=>rw[ho]at h;cases h
 rw[ho]at h;simp only[zal]at h⊢
 by_cases hp:T.n.period>=600
 . rw[zaa hp]at h;cases h
 rw[zan hp]at h⊢;simp only[zal]at h⊢
 by_cases he:(cP T l).e=0
 . rw[cU he];exact⟨trivial,by omega,he,rfl⟩
 . rw[dr he]at h;exact absurd h he
def N49:aA:=⟨T53.tab,49,⟨[.ptr 0 0 0,.ints .u8],[.cells [.ptr 1 0 0,.np 5 0 0,.buf 4 1,.any],.cells [.ptr 2 0 0,.z0,.bool],.cells [.buf 3 1,.z0,.bool,.z0,.bool],.ints .u8,.ab [.ints .u8]]++aU 5,14⟩,⟨[.np 14 0 0,.z0],[.cells [.ptr 1 0 0,.np 5 0 0,.buf 4 1,.any],.cells [.ptr 2 0 0,.z0,.bool],.cells [.buf 3 1,.z0,.bool,.z0,.bool],.ints .u8,.ab [.ints .u8]]++aU 5++aU 14,14⟩,[]⟩
def t49 (m:Nat):LI0 × ao->OU0:=fun(a0,a1)=>
 bif (!((decide (a1.has<0))&&true))then
 some ([.i (-1),.i 4]++Uns.enc (a1:ao)++Uns.enc ((⟨(⟨0,0,0⟩:av),(⟨0,0,0,0,0,0,0,0,0,0⟩:aw),(⟨0,0,0,0,0,0,0,0,0,false⟩:aq),[],[],[],[],[],[],[]⟩:af):af))
 else
 chk (decide (a0.length<=1000000))<|
 bif ((dK a0).e) !=0 then
 some ([.i (-1),.i ((dK a0).e)]++Uns.enc (a1:ao)++Uns.enc ((⟨(⟨0,0,0⟩:av),(⟨0,0,0,0,0,0,0,0,0,0⟩:aw),(⟨0,0,0,0,0,0,0,0,0,false⟩:aq),[],[],[],[],[],[],[]⟩:af):af))
 else
 chk (decide (((dK a0).d).aC.length<1000000/\((dK a0).d).notes.length<1000000/\((dK a0).d).s0.length<1000000/\((dK a0).d).s1.length<1000000/\((dK a0).d).s2.length<1000000))<|
 some ([.i ((if (cI ((dK a0).d)).isSome then 0 else-1):Int),.i ((if (cI ((dK a0).d)).isSome then 0 else 2):Int)]++Uns.enc (a1:ao)++Uns.enc ((sM ((dK a0).d)):af))
def f49:LI0 × ao->Bool × List Un:=fun(a0,a1)=>(decide (a0.length<=1000000),[.i ((cK a0 a1).j),.i ((cK a0 a1).e)]++Uns.enc ((a1):ao)++Uns.enc (((cK a0 a1).t):af))
theorem T5:ER 49 (mkE N49.en N49.ex f49):=ak ae T53.right (fun m=>[]) (t:=t49) (by kernel_rfl) (fun m=>az) (fun m a=>by kernel_rfl) fun(a0,a1) hc=>by
 dsimp only[f49]at hc⊢;refine⟨0, ?_⟩;unfold t49 cK
 try dsimp only
 by_cases h:a1.has<0
 case neg=>rw[zan h];rfl
 rw[zaa h];refine cm rfl (al hc ?_)
 by_cases he:(dK a0).e=0
 case neg=>rw[dr he,zaw,dr he];rfl
 have hs:=GL he;have D:=dU hs;have h1:=D.JC;have h2:=D.NG;have h3:=bL D.s0;have h4:=bL D.s1;have h5:=bL D.s2;rw[cU he,zaw,cU he];refine al (zaa ⟨by omega,by omega,by omega,by omega,by omega⟩) ?_
 have hT:sM (dK a0).d=dG (dK a0).d:=by unfold sM;rw[hs];rfl
 rw[hs,hT];rfl
def T49:TB:=T53.ad T5
def N54:aA:=⟨T49.tab,54,⟨[.ptr 0 0 0,.z0,.ab (sB 6)],[.cells [.ptr 1 0 0,.np 5 0 0,.buf 4 1,.any],.cells [.ptr 2 0 0,.z0,.bool],.cells [.buf 3 1,.z0,.bool,.z0,.bool],.ints .u8,.ab [.ints .u8]]++aU 5,14⟩,⟨[.np 14 0 0,.ints .u8,.z0],[.cells [.ptr 1 0 0,.np 5 0 0,.buf 4 1,.any],.cells [.ptr 2 0 0,.z0,.bool],.cells [.buf 3 1,.z0,.bool,.z0,.bool],.ints .u8,.ab [.ints .u8]]++aU 5++aU 14,14⟩,[]⟩
def t54 (m:Nat):Int × LD0 × ao->OU0:=fun(a0,a1,a2)=>
 bif a0 !=(w64 ((a2.aF.length:Int)+1))then
 some ([.i (-1),.l ([]:LI0),.i 4]++Uns.enc (a2:ao)++Uns.enc ((⟨(⟨0,0,0⟩:av),(⟨0,0,0,0,0,0,0,0,0,0⟩:aw),(⟨0,0,0,0,0,0,0,0,0,false⟩:aq),[],[],[],[],[],[],[]⟩:af):af))
 else
 chk (decide (0<=a2.has)&&decide (a2.t.aC.length<1000000/\a2.t.notes.length<1000000/\a2.t.s0.length<1000000/\a2.t.s1.length<1000000/\a2.t.s2.length<1000000/\a2.t.aN.length<1000000/\a2.t.tr.length<1000000))<|
 chk (decide (0<=0)&&la a2.t)<|
 bd ((aH a2.t a1):pU) fun r2=>
 bif r2.e !=0 then
 some ([.i (-1),.l ([]:LI0),.i r2.e]++Uns.enc (a2:ao)++Uns.enc ((⟨(⟨0,0,0⟩:av),(⟨0,0,0,0,0,0,0,0,0,0⟩:aw),(⟨0,0,0,0,0,0,0,0,0,false⟩:aq),[],[],[],[],[],[],[]⟩:af):af))
 else
 chk (decide (r2.bm.length<=1000000)&&decide (r2.notes.length<=1000000))<|
 some ([.i 0,.l (jj r2.ra r2.bm r2.rb r2.notes r2.next),.i 0]++Uns.enc (a2:ao)++Uns.enc (r2.t:af))
def f54:Int × LD0 × ao->Bool × List Un:=fun(a0,a1,a2)=>(decide (0<=a2.has/\a2.aF.length<1000000)&&la a2.t,[.i ((bG a0 a1 a2).j),.l ((bG a0 a1 a2).txt),.i ((bG a0 a1 a2).e)]++Uns.enc ((a2):ao)++Uns.enc (((bG a0 a1 a2).t):af))
theorem Uw:ER 54 (mkE N54.en N54.ex f54):=ak ae T49.right (fun m=>[]) (t:=t54) (by kernel_rfl) (fun m=>az) (fun m a=>by kernel_rfl) fun(a0,a1,a2) hc=>by
 dsimp only[f54]at hc⊢;rw[zae]at hc;obtain⟨h0,h1⟩:=zaj hc.1;have h:=jW.1 hc.2;have hl:=rU h;refine⟨0, ?_⟩;unfold t54 bG
 try dsimp only
 rw[aa (n:=(a2.aF.length:Int)+1) (by omega) (by omega)];cases (a0 !=(a2.aF.length:Int)+1)
 case true=>rfl
 rw[zal,zal];refine al (by rw[zaa h0,zaa hl];rfl) (al hc.2 ?_)
 try dsimp only[bd]
 by_cases he:(aH a2.t a1).e=0
 case neg=>rw[dr he,dr he];rfl
 rw[cU he,cU he];obtain⟨c1,c2,c3,c4⟩:=GV he;refine al ?_ rfl;rw[c4];have p1:=(Ja h c3).2;have p2:=(Cw h c3).1;have p3:=fI h;rw[zaa (show(fj a2.t a1).bm.length<=1000000 by show(dS a2.t a1).2.2.length<=_;omega),zaa (show(fj a2.t a1).notes.length<=1000000 by show((nQ a2.t a1).map J0).length<=_;rw[zaU];omega)];rfl
def T54:TB:=T49.ad Uw
def f85:ao->Bool × List Un:=fun _=>(false,[])
def I85:Pn:=⟨[.ptr 0 0 0],[.cells [.ptr 1 0 0,.np 5 0 0,.buf 4 1,.any],.cells [.ptr 2 0 0,.z0,.bool],.cells [.buf 3 1,.z0,.bool,.z0,.bool],.ints .u8,.ab [.ints .u8]]++aU 5,14⟩
def X85:Pn:=⟨[.np 14 0 0,.ints .u8,.z0],[.cells [.ptr 1 0 0,.np 5 0 0,.buf 4 1,.any],.cells [.ptr 2 0 0,.z0,.bool],.cells [.buf 3 1,.z0,.bool,.z0,.bool],.ints .u8,.ab [.ints .u8]]++aU 5++aU 14,14⟩
theorem Vl:ER 85 (mkE I85 X85 f85):=fun us Y hY=>by
 have hY:onU (fun a=>some ((f85 a).1,Ys.now (f85 a).2)) us=some (true,Y):=hY;unfold onU at hY
 split at hY
 . split at hY
   . cases hY
   . cases hY
 . cases hY
def T85:TB:=T54.ad Vl
def BA (x:LI0) (s:ao):Int:=(tx x s.c s.n s.b).e
def J8 (x:LI0) (s:ao):ao:={s with c:=(tx x s.c s.n s.b).c,n:=(tx x s.c s.n s.b).n,b:=(tx x s.c s.n s.b).b}
structure nY where
 txt:List Int
 e:Int
 d:ao
def Cr (x:LI0) (a:Ny) (aF:LD0) (s:ao):nY:=
 bif a.e !=0 then⟨[],a.e,s⟩else bif BA x s !=0 then⟨[],BA x s,J8 x s⟩else⟨a.txt,0,{J8 x s with has:=a.j,aF:=aF,t:=a.t}⟩
def pb (b:LI0) (s:ao):nY:=Cr (1::b) (cK b s) s.aF s
def na (p:Int) (s:ao):nY:=bif decide (p<1)||decide (p>(s.aF.length:Int))then⟨[],4,s⟩else⟨(ai s.aF (p-1).toNat).l 0,0,s⟩
theorem Nv (p:Int) (s:ao):(na p s).d=s:=by
 unfold na;cases (decide (p<1)||decide (p>(s.aF.length:Int)))<;>rfl
def dB (b:LI0) (s:ao):nY:=
 bif decide (s.has<0)then⟨[],4,s⟩
 else bif (aY b).e !=0 then⟨[],(aY b).e,s⟩
 else bif decide ((aY b).p<=(s.aF.length:Int))then na (aY b).p s
 else Cr (2::b) (bG (aY b).p (aY b).l s) (s.aF++[mN (bG (aY b).p (aY b).l s).txt]) s
def cB (s:ao):Bool:=decide (0<=s.c.count/\s.c.count<1000000/\s.b.length<900000/\s.aF.length<1000000)&&((s.aF.all fun d=>decide ((d.l 0).length<1000000))&&(decide (s.has<0)||la s.t))
theorem jX {s:ao}:cB s=true↔(0<=s.c.count/\s.c.count<1000000/\s.b.length<900000/\s.aF.length<1000000)/\(∀d∈s.aF,(d.l 0).length<1000000)/\(s.has<0\/ee s.t):=by
 unfold cB;rw[zae,zae,zag,zam,zbj,zag,jW];simp only[zag]
def mh (b:LI0):Bool:=decide (b.length<=59000)&&cG b
theorem mH {b:LI0}:mh b=true↔b.length<=59000/\∀x∈b,0<=x/\x<256:=by
 unfold mh;rw[zae,zag,eC];exact⟨fun h=>⟨h.1,h.2.2⟩,fun h=>⟨h.1,by omega,h.2⟩⟩
theorem Cx {k:Int} {b:LI0} (hk:0<=k/\k<256) (h:mh b=true):cG (k::b)=true:=by
 obtain⟨h1,h2⟩:=mH.1 h;refine eC.2 ⟨by simp;omega,fun x hx=> ?_⟩;rcases zaN.1 hx with rfl|hx
 . exact hk
 . exact h2 x hx
theorem Hc (r:pU):(nW r).length<=6000:=by
 unfold nW;cases h:fB r.ra r.bm r.rb r.notes r.next with
 |true=>exact(DW h).2
 |false=>rw[KA h];simp
theorem wc (p:Int) (l:LD0) (s:ao):(bG p l s).txt.length<=6000:=by
 unfold bG;cases (p !=(s.aF.length:Int)+1)<;>cases ((aH s.t l).e !=0)<;>first|exact Hc _|exact zbt _
def N50:aA:=⟨T85.tab,50,⟨[.ptr 0 0 0,.int .u8,.ints .u8],[.cells [.ptr 1 0 0,.np 5 0 0,.buf 4 1,.any],.cells [.ptr 2 0 0,.z0,.bool],.cells [.buf 3 1,.z0,.bool,.z0,.bool],.ints .u8,.ab [.ints .u8]]++aU 5,0⟩,⟨[.z0],[.cells [.ptr 1 0 0,.np 16 0 0,.buf 15 1,.any],.cells [.ptr 2 0 0,.z0,.bool],.cells [.buf 14 1,.z0,.bool,.z0,.bool],.gone,.gone,.gone,.gone,.gone,.gone,.gone,.gone,.gone,.gone,.gone,.ints .u8,.ab [.ints .u8]]++aU 16,0⟩,[]⟩
def t50 (m:Nat):Int × LI0 × ao->OU0:=fun(a0,a1,a2)=>
 chk (fits (1+a1.length) 1)<|
 bif decide (a1.length=0)then
 chk (decide (0<=a2.c.count/\a2.c.count<1000000/\([a0]:LI0).length<=60000/\a2.b.length<900000)&&cG ([a0]:LI0))<|
 bd ((tx ([a0]:LI0) a2.c a2.n a2.b):Qu) fun r1=>
 some ([.i r1.e]++Uns.enc (({a2 with c:=r1.c,n:=r1.n,b:=r1.b}:ao):ao))
 else
 chk (decide (0<=a2.c.count/\a2.c.count<1000000/\(([a0])++a1).length<=60000/\a2.b.length<900000)&&cG (([a0])++a1))<|
 bd ((tx (([a0])++a1) a2.c a2.n a2.b):Qu) fun r2=>
 some ([.i r2.e]++Uns.enc (({a2 with c:=r2.c,n:=r2.n,b:=r2.b}:ao):ao))
def f50:Int × LI0 × ao->Bool × List Un:=fun(a0,a1,a2)=>(decide (0<=a2.c.count/\a2.c.count<1000000/\a1.length<=59000/\a2.b.length<900000)&&cG (a0::a1),[.i (BA (a0::a1) a2)]++Uns.enc ((J8 (a0::a1) a2):ao))
theorem Uo:ER 50 (mkE N50.en N50.ex f50):=ak ae T85.right (fun m=>[]) (t:=t50) (by kernel_rfl) (fun m=>az) (fun m a=>by kernel_rfl) fun(a0,a1,a2) hc=>by
 dsimp only[f50]at hc⊢;rw[zae]at hc;obtain⟨h0,h1,h2,h3⟩:=zaj hc.1;refine⟨0, ?_⟩;unfold t50
 try dsimp only
 rw[bD (by omega) (by omega)]
 by_cases h:a1.length=0
 . have e:=zaB h;subst e;refine cu rfl (al (by rw[hc.2,zaa (show 0<=a2.c.count/\a2.c.count<1000000/\([a0]:LI0).length<=60000/\a2.b.length<900000 from⟨h0,h1,by simp,h3⟩)];rfl) rfl)
 . refine cm (zan h) (al ?_ rfl);rw[show([a0]++a1)=a0::a1 from rfl,hc.2,zaa (show 0<=a2.c.count/\a2.c.count<1000000/\(a0::a1).length<=60000/\a2.b.length<900000 from⟨h0,h1,by simp;omega,h3⟩)];rfl
def T50:TB:=T85.ad Uo
def N14:aA:=⟨T50.tab,14,⟨[.ptr 0 0 0,.ints .u8],[.cells [.ptr 1 0 0,.np 5 0 0,.buf 4 1,.any],.cells [.ptr 2 0 0,.z0,.bool],.cells [.buf 3 1,.z0,.bool,.z0,.bool],.ints .u8,.ab [.ints .u8]]++aU 5,0⟩,⟨[.z0],[.cells [.ptr 1 0 0,.np 16 0 0,.buf 15 1,.any],.cells [.ptr 2 0 0,.z0,.bool],.cells [.buf 14 1,.z0,.bool,.z0,.bool],.gone,.gone,.gone,.gone,.gone,.gone,.gone,.gone,.gone,.gone,.gone,.ints .u8,.ab [.ints .u8]]++aU 16,0⟩,[]⟩
def t14 (m:Nat):LI0 × ao->OU0:=fun(a0,a1)=>
 chk (decide (a0.length<=1000000))<|
 bif (((cK a0 a1).e)==0)then
 chk (decide (0<=a1.c.count/\a1.c.count<1000000/\a0.length<=59000/\a1.b.length<900000)&&cG (1::a0))<|
 lt ((J8 (1::a0) a1):ao) fun g2=>
 bif ((BA (1::a0) a1)==0)then
 some ([.i (BA (1::a0) a1)]++Uns.enc (({g2 with has:=(cK a0 a1).j,t:=(cK a0 a1).t}:ao):ao))
 else
 some ([.i (BA (1::a0) a1)]++Uns.enc (g2:ao))
 else
 bif (((cK a0 a1).e)==0)then
 some ([.i ((cK a0 a1).e)]++Uns.enc (({a1 with has:=(cK a0 a1).j,t:=(cK a0 a1).t}:ao):ao))
 else
 some ([.i ((cK a0 a1).e)]++Uns.enc (a1:ao))
def f14:LI0 × ao->Bool × List Un:=fun(a0,a1)=>(mh a0&&cB a1,[.i ((pb a0 a1).e)]++Uns.enc (((pb a0 a1).d):ao))
theorem MM:ER 14 (mkE N14.en N14.ex f14):=ak ae T50.right (fun m=>[]) (t:=t14) (by kernel_rfl) (fun m=>az) (fun m a=>by kernel_rfl) fun(a0,a1) hc=>by
 dsimp only[f14]at hc⊢;rw[zae]at hc;obtain⟨k1,k2⟩:=mH.1 hc.1;obtain⟨⟨d1,d2,d3,d4⟩,_⟩:=jX.1 hc.2;refine⟨0, ?_⟩;unfold t14 pb Cr
 try dsimp only
 refine al (zaa (by omega)) ?_
 by_cases h:(cK a0 a1).e=0
 case neg=>rw[dL h,dL h,dr h]
 rw[dZ h,cU h];refine al (by rw[Cx (by decide) hc.1,zaa (show 0<=a1.c.count/\a1.c.count<1000000/\a0.length<=59000/\a1.b.length<900000 from⟨d1,d2,k1,d3⟩)];rfl) ?_
 try dsimp only[lt]
 by_cases h2:BA (1::a0) a1=0
 . rw[dZ h2,cU h2,h2];rfl
 . rw[dL h2,dr h2]
def T14:TB:=T50.ad MM
def N27:aA:=⟨T14.tab,27,⟨[.ptr 0 0 0,.z0],[.cells [.ptr 1 0 0,.np 5 0 0,.buf 4 1,.any],.cells [.ptr 2 0 0,.z0,.bool],.cells [.buf 3 1,.z0,.bool,.z0,.bool],.ints .u8,.ab [.ints .u8]]++aU 5,14⟩,⟨[.ints .u8,.z0],[.cells [.ptr 1 0 0,.np 5 0 0,.buf 4 1,.any],.cells [.ptr 2 0 0,.z0,.bool],.cells [.buf 3 1,.z0,.bool,.z0,.bool],.ints .u8,.ab [.ints .u8]]++aU 5,14⟩,[]⟩
def t27 (m:Nat):Int × ao->OU0:=fun(a0,a1)=>
 bif decide (a0<1)then
 some ([.l ([]:LI0),.i 4]++Uns.enc (a1:ao))
 else
 bif (decide (a0>(a1.aF.length:Int)))then
 some ([.l ([]:LI0),.i 4]++Uns.enc (a1:ao))
 else
 chk (inb (w64 (a0-1)) a1.aF.length)<|
 chk (decide ((w64 (a0-1)).toNat<a1.aF.length))<|
 lt (ai a1.aF ((w64 (a0-1)).toNat):Dat) fun d2=>
 chk (decide ((d2.l 0).length<1000000))<|
 some ([.l (d2.l 0),.i 0]++Uns.enc (a1:ao))
def f27:Int × ao->Bool × List Un:=fun(a0,a1)=>(cB a1,[.l ((na a0 a1).txt),.i ((na a0 a1).e)]++Uns.enc ((a1):ao))
theorem UN:ER 27 (mkE N27.en N27.ex f27):=ak ae T14.right (fun m=>[]) (t:=t27) (by kernel_rfl) (fun m=>az) (fun m a=>by kernel_rfl) fun(a0,a1) hc=>by
 dsimp only[f27]at hc⊢;obtain⟨⟨d1,d2,d3,d4⟩,d5,_⟩:=jX.1 hc;refine⟨0, ?_⟩;unfold t27 na
 try dsimp only
 by_cases h1:a0<1
 . rw[aL h1,zaa h1];rfl
 rw[ay h1,zan h1]
 by_cases h2:a0>(a1.aF.length:Int)
 . rw[aL h2,zaa h2];rfl
 rw[ay h2,zan h2,aa (n:=a0-1) (by omega) (by omega),bQ (by omega) (by omega),aJ (by omega)];exact al (zaa (d5 _ (mW (by omega)))) rfl
def T27:TB:=T14.ad UN
def N17:aA:=⟨T27.tab,17,⟨[.ptr 0 0 0,.ints .u8],[.cells [.ptr 1 0 0,.np 5 0 0,.buf 4 1,.any],.cells [.ptr 2 0 0,.z0,.bool],.cells [.buf 3 1,.z0,.bool,.z0,.bool],.ints .u8,.ab [.ints .u8]]++aU 5,0⟩,⟨[.ints .u8,.z0],[.cells [.ptr 1 0 0,.np 16 0 0,.buf 15 1,.any],.cells [.ptr 2 0 0,.z0,.bool],.cells [.buf 14 1,.z0,.bool,.z0,.bool],.gone,.gone,.gone,.gone,.gone,.gone,.gone,.gone,.gone,.gone,.gone,.ints .u8,.ab [.ints .u8]]++aU 16,0⟩,[]⟩
def t17 (m:Nat):LI0 × ao->OU0:=fun(a0,a1)=>
 bif ((decide (a1.has<0))&&true)then
 some ([.l ([]:LI0),.i 4]++Uns.enc (a1:ao))
 else
 chk (decide (a0.length<=1000000))<|
 bif ((aY a0).e) !=0 then
 some ([.l ([]:LI0),.i ((aY a0).e)]++Uns.enc (a1:ao))
 else
 bif (decide (((aY a0).p)<=(a1.aF.length:Int)))then
 chk (cB a1)<|
 some ([.l ((na ((aY a0).p) a1).txt),.i ((na ((aY a0).p) a1).e)]++Uns.enc (a1:ao))
 else
 chk (decide (0<=a1.has/\a1.aF.length<1000000)&&la a1.t)<|
 bif (((bG ((aY a0).p) ((aY a0).l) a1).e)==0)then
 chk (decide (0<=a1.c.count/\a1.c.count<1000000/\a0.length<=59000/\a1.b.length<900000)&&cG (2::a0))<|
 lt ((J8 (2::a0) a1):ao) fun g4=>
 bif ((BA (2::a0) a1) !=0)then
 some ([.l ([]:LI0),.i (BA (2::a0) a1)]++Uns.enc (g4:ao))
 else
 chk (fits (g4.aF.length+1) 24)<|
 chk (decide (((bG ((aY a0).p) ((aY a0).l) a1).txt).length<1000000))<|
 some ([.l ((bG ((aY a0).p) ((aY a0).l) a1).txt),.i 0]++Uns.enc (({g4 with has:=(bG ((aY a0).p) ((aY a0).l) a1).j,aF:=(g4.aF++([.r [.r (List.map .n ((bG ((aY a0).p) ((aY a0).l) a1).txt))]])),t:=(bG ((aY a0).p) ((aY a0).l) a1).t}:ao):ao))
 else
 bif (((bG ((aY a0).p) ((aY a0).l) a1).e) !=0)then
 some ([.l ([]:LI0),.i ((bG ((aY a0).p) ((aY a0).l) a1).e)]++Uns.enc (a1:ao))
 else
 chk (fits (a1.aF.length+1) 24)<|
 chk (decide (((bG ((aY a0).p) ((aY a0).l) a1).txt).length<1000000))<|
 some ([.l ((bG ((aY a0).p) ((aY a0).l) a1).txt),.i 0]++Uns.enc (({a1 with has:=(bG ((aY a0).p) ((aY a0).l) a1).j,aF:=(a1.aF++([.r [.r (List.map .n ((bG ((aY a0).p) ((aY a0).l) a1).txt))]])),t:=(bG ((aY a0).p) ((aY a0).l) a1).t}:ao):ao))
def f17:LI0 × ao->Bool × List Un:=fun(a0,a1)=>(mh a0&&cB a1,[.l ((dB a0 a1).txt),.i ((dB a0 a1).e)]++Uns.enc (((dB a0 a1).d):ao))
theorem Ls:ER 17 (mkE N17.en N17.ex f17):=ak ae T27.right (fun m=>[]) (t:=t17) (by kernel_rfl) (fun m=>az) (fun m a=>by kernel_rfl) fun(a0,a1) hc=>by
 dsimp only[f17]at hc⊢;rw[zae]at hc;obtain⟨k1,k2⟩:=mH.1 hc.1;obtain⟨⟨d1,d2,d3,d4⟩,d5,d6⟩:=jX.1 hc.2;refine⟨0, ?_⟩;unfold t17 dB
 try dsimp only
 by_cases h0:a1.has<0
 . rw[zaa h0];rfl
 rw[zan h0];refine cm rfl (al (zaa (by omega)) ?_);rw[zal]
 by_cases h1:(aY a0).e=0
 case neg=>rw[dr h1,dr h1]
 rw[cU h1,cU h1]
 by_cases h2:(aY a0).p<=(a1.aF.length:Int)
 . rw[aL h2,aL h2];exact al hc.2 (by rw[Nv])
 rw[ay h2,ay h2];have hT:la a1.t=true:=by
  rcases d6 with h|h
  . exact absurd h h0
  . exact jW.2 h
 refine al (by rw[hT,zaa (show 0<=a1.has/\a1.aF.length<1000000 by omega)];rfl) ?_
 unfold Cr
 try dsimp only[lt]
 have hl:=wc (aY a0).p (aY a0).l a1
 by_cases h3:(bG (aY a0).p (aY a0).l a1).e=0
 case neg=>rw[dL h3,dr h3,dr h3]
 rw[dZ h3,cU h3];refine al (by rw[Cx (by decide) hc.1,zaa (show 0<=a1.c.count/\a1.c.count<1000000/\a0.length<=59000/\a1.b.length<900000 from⟨d1,d2,k1,d3⟩)];rfl) ?_
 by_cases h4:BA (2::a0) a1=0
 . rw[cU h4,cU h4];rw[show(J8 (2::a0) a1).aF=a1.aF from rfl];refine(bD (by omega) (by omega)).trans (al (zaa (by omega)) rfl)
 . rw[dr h4,dr h4]
def T17:TB:=T27.ad Ls
def iu (s:ao):LI0:=bif decide (s.has<0)then[]else hG s.t.n s.t.aN s.t.tr
def N29:aA:=⟨T17.tab,29,⟨[.ptr 0 0 0],[.cells [.ptr 1 0 0,.np 5 0 0,.buf 4 1,.any],.cells [.ptr 2 0 0,.z0,.bool],.cells [.buf 3 1,.z0,.bool,.z0,.bool],.ints .u8,.ab [.ints .u8]]++aU 5,14⟩,⟨[.buf 14 1],[.cells [.ptr 1 0 0,.np 5 0 0,.buf 4 1,.any],.cells [.ptr 2 0 0,.z0,.bool],.cells [.buf 3 1,.z0,.bool,.z0,.bool],.ints .u8,.ab [.ints .u8]]++aU 5++[.ints .i64],14⟩,[]⟩
def t29 (m:Nat):ao->OU0:=fun a0=>
 bif ((decide (a0.has<0))&&true)then
 some (Uns.enc (a0:ao)++[.l ([])])
 else
 chk (decide (0<=a0.has)&&decide (a0.t.aN.length<1000000/\a0.t.tr.length<1000000))<|
 some (Uns.enc (a0:ao)++[.l (hG a0.t.n a0.t.aN a0.t.tr)])
def f29:ao->Bool × List Un:=fun a0=>(cB a0,Uns.enc ((a0):ao)++[.l ((iu a0))])
theorem MJ:ER 29 (mkE N29.en N29.ex f29):=ak ae T17.right (fun m=>[]) (t:=t29) (by kernel_rfl) (fun m=>az) (fun m a=>by kernel_rfl) fun a0 hc=>by
 dsimp only[f29]at hc⊢;obtain⟨_,_,d6⟩:=jX.1 hc;refine⟨0, ?_⟩;unfold t29 iu
 try dsimp only
 by_cases h0:a0.has<0
 . rw[zaa h0];rfl
 have h:ee a0.t:=d6.resolve_left h0;have hl:=rU h;rw[zan h0];exact cm rfl (al (by rw[zaa (show 0<=a0.has by omega),zaa (show a0.t.aN.length<1000000/\a0.t.tr.length<1000000 by omega)];rfl) rfl)
def T29:TB:=T17.ad MJ
structure AgR where
 ok:Bool
 d:ao
def cR (b:LI0) (s:ao):AgR:=
 bif (b.length:Int)==0 then⟨false,s⟩
 else bif b.getD 0 0==1 then⟨(cK (b.drop 1) s).e==0,{s with has:=(cK (b.drop 1) s).j,t:=(cK (b.drop 1) s).t}⟩
 else bif b.getD 0 0==2&& !decide (s.has<0)then
  bif (aY (b.drop 1)).e !=0 then⟨false,s⟩
  else⟨(bG (aY (b.drop 1)).p (aY (b.drop 1)).l s).e==0,{s with has:=(bG (aY (b.drop 1)).p (aY (b.drop 1)).l s).j,aF:=s.aF++[mN (bG (aY (b.drop 1)).p (aY (b.drop 1)).l s).txt],t:=(bG (aY (b.drop 1)).p (aY (b.drop 1)).l s).t}⟩
 else bif b.getD 0 0==3&&((b.drop 1).length:Int)==0 then⟨(lu s).e==0,{s with has:=(lu s).j,t:=(lu s).t}⟩
 else⟨false,s⟩
def N48:aA:=⟨T29.tab,48,⟨[.ptr 0 0 0,.ints .u8],[.cells [.ptr 1 0 0,.np 5 0 0,.buf 4 1,.any],.cells [.ptr 2 0 0,.z0,.bool],.cells [.buf 3 1,.z0,.bool,.z0,.bool],.ints .u8,.ab [.ints .u8]]++aU 5,0⟩,⟨[.bool],[.cells [.ptr 1 0 0,.np 16 0 0,.buf 15 1,.any],.cells [.ptr 2 0 0,.z0,.bool],.cells [.buf 14 1,.z0,.bool,.z0,.bool],.gone,.gone,.gone,.gone,.gone,.gone,.gone,.gone,.gone,.gone,.gone,.ints .u8,.ab [.ints .u8]]++aU 16,0⟩,[]⟩
def t48 (m:Nat):LI0 × ao->OU0:=fun(a0,a1)=>
 bif (a0.length:Int)==0 then
 some ([.b false]++Uns.enc (a1:ao))
 else
 chk (inb 0 a0.length)<|
 chk (decide (0<a0.length))<|
 chk (true&&(true&&decide (1<=a0.length/\a0.length<=a0.length)))<|
 lt ((List.take (a0.length-1) (List.drop 1 a0)):LI0) fun l1=>
 bif (a0.getD 0 0)==1 then
 chk (decide (l1.length<=1000000))<|
 some ([.b (((cK l1 a1).e)==0)]++Uns.enc (({a1 with has:=(cK l1 a1).j,t:=(cK l1 a1).t}:ao):ao))
 else
 bif (a0.getD 0 0)==2 then
 bif (!((decide (a1.has<0))&&true))then
 chk (decide (l1.length<=1000000))<|
 bif ((aY l1).e) !=0 then
 some ([.b false]++Uns.enc (a1:ao))
 else
 chk (decide (0<=a1.has/\a1.aF.length<1000000)&&la a1.t)<|
 chk (fits (a1.aF.length+1) 24)<|
 some ([.b (((bG ((aY l1).p) ((aY l1).l) a1).e)==0)]++Uns.enc (({a1 with has:=(bG ((aY l1).p) ((aY l1).l) a1).j,aF:=(a1.aF++([.r [.r (List.map .n ((bG ((aY l1).p) ((aY l1).l) a1).txt))]])),t:=(bG ((aY l1).p) ((aY l1).l) a1).t}:ao):ao))
 else
 bif (a0.getD 0 0)==3 then
 bif (l1.length:Int)==0 then
 none
 else
 some ([.b false]++Uns.enc (a1:ao))
 else
 some ([.b false]++Uns.enc (a1:ao))
 else
 bif (a0.getD 0 0)==3 then
 bif (l1.length:Int)==0 then
 none
 else
 some ([.b false]++Uns.enc (a1:ao))
 else
 some ([.b false]++Uns.enc (a1:ao))
def f48:LI0 × ao->Bool × List Un:=fun(a0,a1)=>(decide (a0.length<=1000000)&&cB a1&& !(a0.getD 0 0==3),[.b ((cR a0 a1).ok)]++Uns.enc (((cR a0 a1).d):ao))
theorem V8:ER 48 (mkE N48.en N48.ex f48):=ak ae T29.right (fun m=>[]) (t:=t48) (by kernel_rfl) (fun m=>az) (fun m a=>by kernel_rfl) fun(a0,a1) hc=>by
 dsimp only[f48]at hc⊢;rw[zae]at hc;obtain⟨hc,hn3⟩:=hc;rw[zae]at hc;have hl:=zaj hc.1;obtain⟨⟨d1,d2,d3,d4⟩,d5,d6⟩:=jX.1 hc.2;have hE:(decide (a1.has<0)||la a1.t)=true:=by rw[zbj,zag,jW];exact d6
 refine⟨0, ?_⟩;unfold t48 cR
 try dsimp only
 by_cases h:(a0.length:Int)=0
 . rw[dZ h,dZ h]
 rw[dL h,dL h];refine(bQ (by omega) (by omega)).trans (al (zaa (by omega)) (al (by rw[zaa (show 1<=a0.length/\a0.length<=a0.length by omega)];rfl) ?_))
 try dsimp only[lt]
 rw[zbq (show(List.drop 1 a0).length<=a0.length-1 by rw[zbd];omega)];have hr:(List.drop 1 a0).length<=1000000:=by rw[zbd];omega
 generalize List.drop 1 a0=r at*
 generalize a0.getD 0 0=k at*
 by_cases k1:k=1
 . rw[dZ k1,dZ k1];exact al (zaa hr) rfl
 rw[dL k1,dL k1];have Te:∀(Z:OU0),(bif k==3 then Z else some ([Un.b false]++Uns.enc a1))=some ([Un.b (bif k==3&&(r.length:Int)==0 then(⟨(lu a1).e==0,{a1 with has:=(lu a1).j,t:=(lu a1).t}⟩:AgR)else⟨false,a1⟩).ok]++Uns.enc (bif k==3&&(r.length:Int)==0 then(⟨(lu a1).e==0,{a1 with has:=(lu a1).j,t:=(lu a1).t}⟩:AgR)else⟨false,a1⟩).d):=fun _=>by
  cases hk:(k==3)with
  |false=>rfl
  |true=>rw[hk]at hn3;cases hn3
 by_cases k2:k=2
 . rw[dZ k2]
   by_cases h0:a1.has<0
   . rw[zaa h0,jE k2]
     try rw[zaa h0]at Te
     exact Te _
   . rw[zan h0,jE k2];refine cu rfl (al (zaa hr) ?_);rw[show(true&& !false)=true from rfl,zaw]
     by_cases he:(aY r).e=0
     case neg=>rw[dr he,dr he]
     rw[cU he,cU he];have h:ee a1.t:=d6.resolve_left h0;refine al (by rw[jW.2 h,zaa (show 0<=a1.has/\a1.aF.length<1000000 by omega)];rfl) ((bD (by omega) (by omega)).trans rfl)
 . rw[dL k2,lG k2,zbN,zal];exact Te _
def T48:TB:=T29.ad V8
theorem Ad (l:LI0):(mN l).l 0=l:=by
 show(l.map Dat.n).map Dat.int=l;rw[List.map_map];exact(List.map_congr_left fun x _=>rfl).trans (List.map_id l)
def jF:LD0->ao->AgR
 |[],s=>⟨true,s⟩
 |d::l,s=>bif !(cR (d.l 0) s).ok then⟨false,(cR (d.l 0) s).d⟩else jF l (cR (d.l 0) s).d
theorem Ea (b:LI0) (s:ao):(cR b s).d.n=s.n/\(cR b s).d.b=s.b/\(cR b s).d.c=s.c:=by
 unfold cR;cases ((b.length:Int)==0)<;>cases (b.getD 0 0==1)<;>cases (b.getD 0 0==2&& !decide (s.has<0))<;>cases (b.getD 0 0==3&&((b.drop 1).length:Int)==0)<;>cases ((aY (b.drop 1)).e !=0)<;>exact⟨rfl,rfl,rfl⟩
theorem Nl (b:LI0) (s:ao):(cK b s).j<0\/ee (cK b s).t:=by
 unfold cK;cases decide (s.has<0)
 case false=>exact .inl (by show(-1:Int)<0;decide)
 by_cases h:(dK b).e=0
 . rw[zaw,cU h];exact .inr (PG (GL h))
 . rw[zaw,dr h];exact .inl (by show(-1:Int)<0;decide)
theorem Nk {p:Int} {l:LD0} {s:ao} (h:ee s.t):(bG p l s).j<0\/ee (bG p l s).t:=by
 unfold bG;cases (p !=(s.aF.length:Int)+1)
 case true=>exact .inl (by show(-1:Int)<0;decide)
 by_cases he:(aH s.t l).e=0
 . rw[zal,cU he];obtain⟨c1,c2,c3,c4⟩:=GV he;rw[c4];exact .inr (zI h c2 c3)
 . rw[zal,dr he];exact .inl (by show(-1:Int)<0;decide)
theorem Ri {s:ao} (h:s.has<0\/ee s.t):(lu s).j<0\/ee (lu s).t:=by
 unfold lu;exact .inl (by show(-1:Int)<0;decide)
structure Ck (s : ao) : Prop where
 aF:∀d∈s.aF,(d.l 0).length<=6000
 po:s.has<0\/ee s.t
theorem Ck.okD {s:ao} (h:Ck s) (h1:0<=s.c.count/\s.c.count<1000000) (h2:s.b.length<900000) (h3:s.aF.length<1000000):cB s=true:=
 jX.2 ⟨⟨h1.1,h1.2,h2,h3⟩,fun d hd=>by have:=h.aF d hd;omega,h.po⟩
theorem Lp {s:ao} (b:LI0) (h:Ck s):Ck (cR b s).d/\(cR b s).d.aF.length<=s.aF.length+1:=by
 unfold cR;cases ((b.length:Int)==0)
 case true=>exact⟨h,zbV _⟩
 cases (b.getD 0 0==1)
 case true=>exact⟨⟨h.aF,Nl _ _⟩,zbV _⟩
 cases c2:(b.getD 0 0==2&& !decide (s.has<0))
 case true=>
  cases ((aY (b.drop 1)).e !=0)
  case true=>exact⟨h,zbV _⟩
  have h0:¬s.has<0:=fun hn=>by rw[zaa hn,zbr,Bool.and_false]at c2;cases c2
  refine⟨⟨fun d hd=> ?_,Nk (h.po.resolve_left h0)⟩,by show(s.aF++[_]).length<=_;simp⟩;rcases za0.1 (show d∈s.aF++[_] from hd)with hd|hd
  . exact h.aF d hd
  . rw[zbg.1 hd];have:=wc (aY (b.drop 1)).p (aY (b.drop 1)).l s;rw[Ad];exact this
 cases (b.getD 0 0==3&&((b.drop 1).length:Int)==0)
 case true=>exact⟨⟨h.aF,Ri h.po⟩,zbV _⟩
 exact⟨h,zbV _⟩
theorem N4 (b:LI0) (a:Int):(dW b a).text.length<=b.length:=by
 unfold dW jL;cases (decide (a<0)||decide (a>(b.length:Int)))
 case true=>exact zbt _
 rw[zal];generalize hr:b.drop a.toNat=r;have hl:r.length<=b.length:=by rw[<-hr,zbd];omega
 cases decide ((r.length:Int)<8)
 case true=>exact zbt _
 cases (cA (r.take 6) !=dm ((r.drop 6).take 2))
 case true=>exact zbt _
 cases decide (dm (r.take 2)>60000)
 case true=>exact zbt _
 cases decide ((r.length:Int)-8<dm (r.take 2)+2)
 case true=>exact zbt _
 cases (cA ((r.drop 8).take (dm (r.take 2)).toNat) !=dm ((r.drop (8+(dm (r.take 2)).toNat)).take 2))
 case true=>exact zbt _
 show((r.drop 8).take (dm (r.take 2)).toNat).length<=_;rw[zas,zbd];omega
theorem De {b:LI0} (hb:∀x∈b,0<=x/\x<256):∀(k:Nat) (a:Int) (acc:LD0),0<=a->a<=(b.length:Int)->(acc.length:Int)<=a->(∀d∈acc,(d.l 0).length<=b.length)->(jI k b a acc).l.length<=b.length/\∀d∈(jI k b a acc).l,(d.l 0).length<=b.length
 |0,a,acc,h0,h1,h2,h3=>⟨by show acc.length<=_;omega,h3⟩
 |k+1,a,acc,h0,h1,h2,h3=>by
  have hN:([]:LD0).length<=b.length/\∀d∈([]:LD0),(d.l 0).length<=b.length:=⟨zbt _,fun d hd=>absurd hd (by simp)⟩
  simp only[jI]
  by_cases c:a<(b.length:Int)
  . rw[zaa c,zaw]
    by_cases k1:(dW b a).how=1
    . rw[jE k1];exact⟨by show acc.length<=_;omega,h3⟩
    rw[lG k1,zal]
    by_cases k2:(dW b a).how=2
    . rw[jE k2,zaw];exact hN
    rw[lG k2,zal];cases ((dW b a).seq !=(acc.length:Int)+1)
    . rw[zal];obtain⟨n1,n2⟩:=sC hb h0 h1 k1 k2;refine De hb k _ _ (by omega) n2 (by simp;omega) fun d hd=> ?_
      rcases za0.1 hd with hd|hd
      . exact h3 d hd
      . rw[zbg.1 hd,Ad];exact N4 b a
    . exact hN
  . rw[zan c];exact⟨by show acc.length<=_;omega,h3⟩
theorem Nb {b:LI0} (hb:∀x∈b,0<=x/\x<256):(cF b).l.length<=b.length/\∀d∈(cF b).l,(d.l 0).length<=b.length:=
 De hb _ 0 [] (by omega) (by omega) (by simp) fun d hd=>absurd hd (by simp)
def cZ (b:LI0):Bool:=(cF b).l.all fun d=> !((d.l 0).getD 0 0==3)
structure rf where
 j:Int
 e:Int
 n:aW
 b:List Int
 o:gZ
def noO:gZ:=⟨-1,⟨0,false⟩,[],noT⟩
def wI (s:ao):gZ:=⟨s.has,s.c,s.aF,s.t⟩
def QB (r:AgR) (n:aW) (b:LI0):rf:=bif r.ok then⟨0,0,n,b,wI r.d⟩else⟨-1,8,n,b,noO⟩
def Kk (c:eU) (n:aW) (b:LI0):ao:=⟨-1,c,n,b,[],noT⟩
def fy (m:aW) (b:LI0):rf:=
 bif (qZ m b).e !=0 then⟨-1,(qZ m b).e,(qZ m b).n,(qZ m b).b,noO⟩else QB (jF (qZ m b).l (Kk (qZ m b).c (qZ m b).n (qZ m b).b)) (qZ m b).n (qZ m b).b
def N13:aA:=⟨T48.tab,13,⟨[.ptr 0 0 0],[.cells [.buf 1 1,.z0,.bool,.z0,.bool],.ints .u8],0⟩,⟨[.np 3 0 0,.z0],[.cells [.buf 2 1,.z0,.bool,.z0,.bool],.gone,.ints .u8,.cells [.ptr 4 0 0,.np 6 0 0,.buf 5 1,.any],.cells [.ptr 0 0 0,.z0,.bool],.ab [.ints .u8]]++aU 6,0⟩,[]⟩
abbrev Ml:Type:=LD0 × Int × Int × aW × gZ × LI0
def DS (m:Nat) (k:Ml->OU0):Ml->OU0:=fun(a0,a1,a2,a3,a4,a5)=>
 bif decide (a2<a1)then
 chk (inb a2 a0.length)<|
 chk (decide (a2.toNat<a0.length))<|
 lt (ai a0 a2.toNat:Dat) fun d6=>
 chk (decide ((d6.l 0).length<=1000000)&&cB (⟨a4.has,a4.c,a3,a5,a4.aF,a4.t⟩:ao)&& !((d6.l 0).getD 0 0==3))<|
 lt (((cR (d6.l 0) (⟨a4.has,a4.c,a3,a5,a4.aF,a4.t⟩:ao)).d):ao) fun g8=>
 bif !((cR (d6.l 0) (⟨a4.has,a4.c,a3,a5,a4.aF,a4.t⟩:ao)).ok)then
 some ([.i (-1),.i 8]++Uns.enc (g8.n:aW)++[.l g8.b]++Uns.enc ((⟨(-1),(⟨0,false⟩:eU),[],(⟨(⟨0,0,0⟩:av),(⟨0,0,0,0,0,0,0,0,0,0⟩:aw),(⟨0,0,0,0,0,0,0,0,0,false⟩:aq),[],[],[],[],[],[],[]⟩:af)⟩:gZ):gZ))
 else
 k (a0,a1,(w64 (a2+1)),g8.n,(⟨g8.has,g8.c,g8.aF,g8.t⟩:gZ),g8.b)
 else
 some ([.i 0,.i 0]++Uns.enc (a3:aW)++[.l a5]++Uns.enc (a4:gZ))
def wN (m:Nat):Nat->Ml->OU0:=aZ (DS m)
theorem Ak (m:Nat) (n:Nat):wN m (n+1)=DS m (wN m n):=rfl
def Qx (F:Ml->OU0):aQ:=⟨[.lp [0,1,0,1,1,1,1],.blk 0,.code [1,1,1,1,1]],⟨frm 34 [(7,.ptr 2 0 0),(22,.ab [.ints .u8]),(23,.z0),(24,.z0)],[.cells [.buf 14 1,.z0,.bool,.z0,.bool],.gone,.cells [.ptr 3 0 0,.np 5 0 0,.buf 4 1,.any],.cells [.ptr 0 0 0,.z0,.bool],.ab [.ints .u8]]++aU 5++[.ints .u8],0⟩,onU F⟩
theorem aa3 (m:Nat):∀n,HO N13 (Qx (wN m n)):=an ae T48.right (fun k=>[Qx k]) (fun k h=>(aI h az)) fun k a=>by kernel_rfl
def t13 (m:Nat):aW × LI0->OU0:=fun(a0,a1)=>
 bif a0.off then
 some ([.i (-1),.i 7]++Uns.enc (a0:aW)++[.l a1]++Uns.enc ((⟨(-1),(⟨0,false⟩:eU),[],(⟨(⟨0,0,0⟩:av),(⟨0,0,0,0,0,0,0,0,0,0⟩:aw),(⟨0,0,0,0,0,0,0,0,0,false⟩:aq),[],[],[],[],[],[],[]⟩:af)⟩:gZ):gZ))
 else
 chk (decide (a1.length<1000000))<|
 lt ((bif a0.off then[]else a1):LI0) fun l1=>
 chk (cG l1)<|
 bif !((cF l1).ok)then
 some ([.i (-1),.i 8]++Uns.enc (a0:aW)++[.l a1]++Uns.enc ((⟨(-1),(⟨0,false⟩:eU),[],(⟨(⟨0,0,0⟩:av),(⟨0,0,0,0,0,0,0,0,0,0⟩:aw),(⟨0,0,0,0,0,0,0,0,0,false⟩:aq),[],[],[],[],[],[],[]⟩:af)⟩:gZ):gZ))
 else
 bif (decide (((cF l1).pos)<(l1.length:Int)))then
 chk (decide (0<=((cF l1).pos)/\((cF l1).pos)<=(a1.length:Int)/\a1.length<1000000))<|
 lt ((bif (bz a0).1 then 0 else 7:Int):Int) fun x3=>
 lt ((bif (bz a0).1 then {(bz a0).2 with ji:=((cF l1).pos)}else(bz a0).2):aW) fun g4=>
 lt ((bif (bz a0).1 then a1.take ((cF l1).pos).toNat else a1):LI0) fun l5=>
 bif x3 !=0 then
 bif x3 !=0 then
 some ([.i (-1),.i x3]++Uns.enc (g4:aW)++[.l l5]++Uns.enc ((⟨(-1),(⟨0,false⟩:eU),[],(⟨(⟨0,0,0⟩:av),(⟨0,0,0,0,0,0,0,0,0,0⟩:aw),(⟨0,0,0,0,0,0,0,0,0,false⟩:aq),[],[],[],[],[],[],[]⟩:af)⟩:gZ):gZ))
 else
 none
 else
 wN m m ((cF l1).l,(((cF l1).l).length:Int),0,g4,(⟨(-1),(⟨(((cF l1).l).length:Int),false⟩:eU),[],(⟨(⟨0,0,0⟩:av),(⟨0,0,0,0,0,0,0,0,0,0⟩:aw),(⟨0,0,0,0,0,0,0,0,0,false⟩:aq),[],[],[],[],[],[],[]⟩:af)⟩:gZ),l5)
 else
 wN m m ((cF l1).l,(((cF l1).l).length:Int),0,a0,(⟨(-1),(⟨(((cF l1).l).length:Int),false⟩:eU),[],(⟨(⟨0,0,0⟩:av),(⟨0,0,0,0,0,0,0,0,0,0⟩:aw),(⟨0,0,0,0,0,0,0,0,0,false⟩:aq),[],[],[],[],[],[],[]⟩:af)⟩:gZ),a1)
def abe (r:rf):List Un:=[.i r.j,.i r.e]++Uns.enc r.n++[.l r.b]++Uns.enc r.o
theorem Xc (m:Nat):∀(rest pre:LD0) (n:Nat) (s:ao),rest.length<n->Ck s->(0<=s.c.count/\s.c.count<1000000)->s.b.length<900000->s.aF.length<=pre.length->(pre++rest).length<1000000->(∀d∈rest,(d.l 0).length<=1000000/\(!((d.l 0).getD 0 0==3))=true)->
 wN m n (pre++rest,((pre++rest).length:Int),(pre.length:Int),s.n,({has:=s.has,c:=s.c,aF:=s.aF,t:=s.t}:gZ),s.b)=some (abe (QB (jF rest s) s.n s.b)):=by
 intro rest
 induction rest with
 |nil=>
  intro pre n s hn hI hc hb hr hl hx;obtain⟨n,rfl⟩:=ah n (by simp at hn;omega);rw[Ak];unfold DS;dsimp only;rw[ay (by simp)];rfl
 |cons d rest ih=>
  intro pre n s hn hI hc hb hr hl hx;obtain⟨n,rfl⟩:=ah n (by simp at hn;omega);have hl2:pre.length+rest.length+1<1000000:=by simp only[zab,zac]at hl;omega
  rw[Ak];unfold DS;dsimp only;rw[aL (by simp only[zab,zac];omega),bQ (by omega) (by simp only[zab,zac];omega),aJ (by simp)];have hg:ai (pre++d::rest) (pre.length:Int).toNat=d:=by rw[zau];exact ax _ _ _
  rw[hg];have hs:({has:=s.has,c:=s.c,n:=s.n,b:=s.b,aF:=s.aF,t:=s.t}:ao)=s:=rfl;refine al (by rw[zaa (hx d (by simp)).1,(hx d (by simp)).2,zbf,zbb];exact hI.okD hc hb (by omega)) ?_
  dsimp only[lt];obtain⟨k1,k2,k3⟩:=Ea (d.l 0) s;obtain⟨i1,i2⟩:=Lp (d.l 0) hI;simp only[jF];cases (cR (d.l 0) s).ok
  case false=>rw[show(!false)=true from rfl,zaw,zaw,k1,k2];rfl
  rw[show(!true)=false from rfl,zal,zal];have e:w64 ((pre.length:Int)+1)=((pre++[d]).length:Int):=by
   rw[aa (by omega) (by omega)];simp
  have:=ih (pre++[d]) n (cR (d.l 0) s).d (by simp at hn;omega) i1 (by rw[k3];exact hc) (by rw[k2];exact hb) (by rw[zab,List.length_singleton];omega) (by simpa using hl) (fun x hx'=>hx x (zay _ hx'));rw[e,show pre++d::rest=(pre++[d])++rest by simp,this,k1,k2]
def f13:aW × LI0->Bool × List Un:=fun(a0,a1)=>(decide (a1.length<900000)&&cG a1&&cZ a1,[.i ((fy a0 a1).j),.i ((fy a0 a1).e)]++Uns.enc (((fy a0 a1).n):aW)++[.l ((fy a0 a1).b)]++Uns.enc (((fy a0 a1).o):gZ))
theorem Mu:ER 13 (mkE N13.en N13.ex f13):=ak ae T48.right (fun m=>[Qx (wN m m)]) (t:=t13) (by kernel_rfl) (fun m=>(aI (aa3 m m) az)) (fun m a=>by kernel_rfl) fun(a0,a1) hc=>by
 dsimp only[f13]at hc⊢;rw[zae]at hc;obtain⟨hc,hn3⟩:=hc;rw[zae]at hc;obtain⟨hl0,hB⟩:=hc;have hl:=zaj hl0;obtain⟨_,hb⟩:=eC.1 hB;have ha:=QR hb;obtain⟨r1,r2⟩:=Nb hb;refine⟨900010, ?_⟩;unfold t13 fy qZ
 try dsimp only
 cases ho:a0.off
 case true=>rfl
 dsimp only[lt,cond_false];refine al (zaa (by omega)) (al hB ?_);cases (cF a1).ok
 case false=>rfl
 have D:∀(n:aW) (b:LI0),b.length<900000->wN 900010 900010 ((cF a1).l,((cF a1).l.length:Int),0,n,({has:= -1,c:={count:=((cF a1).l.length:Int),bad:=false},aF:=[],t:=noT}:gZ),b)=some (abe (QB (jF (cF a1).l (Kk {count:=((cF a1).l.length:Int),bad:=false} n b)) n b)):=fun n b h=>
  Xc 900010 (cF a1).l [] 900010 (Kk {count:=((cF a1).l.length:Int),bad:=false} n b) (by omega) {aF:=fun d hd=>absurd (show d∈([]:LD0) from hd) (by simp),po:= .inl (by show(-1:Int)<0;decide)} ⟨by show 0<=((cF a1).l.length:Int);omega,by show((cF a1).l.length:Int)<1000000;omega⟩ h (zap _) (by rw[zat];omega) fun d hd=>⟨by have:=r2 d hd;omega,zam.1 hn3 d hd⟩
 by_cases h:(cF a1).pos<(a1.length:Int)
 . rw[zaa h];dsimp only[Bool.not_true,cond_false,cond_true];refine al (zaa ⟨ha.1,ha.2,by omega⟩) ?_
   cases (bz a0).1
   . rfl
   . exact D _ _ (by show(a1.take _).length<900000;rw[zas];omega)
 . rw[zan h];exact D _ _ hl
def T13:TB:=T48.ad Mu
theorem UM {A:Type} [Uns A] {P:Program} {L:List FuncId} {O:bp} {g:FuncId} {j col:Nat} {vs:List VP} {bs:List BP} {lk:Nat} {en en' ex:Pn} {f:A->Bool × List Un} {f':Int × A->Bool × List Un}
 (e1:en=⟨.ptr j 0 col::vs,bs,lk⟩) (e2:en'=⟨.np j 0 col::vs,bs,lk⟩) (h:eB P L O g (mkE en ex f)) (e:∀n a,f' (n,a)=(decide (0<=n)&&(f a).1,(f a).2)):eB P L O g (mkE en' ex f'):=by
 subst e1 e2;intro us Y hY;have hY:onU (fun p=>some ((f' p).1,Ys.now (f' p).2)) us=some (true,Y):=hY;unfold onU at hY
 split at hY
 case h_2=>cases hY
 rename_i p r hd;obtain⟨n,a⟩:=p
 split at hY
 case h_2=>cases hY
 have hY:some ((f' (n,a)).1,Ys.now (f' (n,a)).2)=some (true,Y):=hY;rw[e n a]at hY;simp only[zak,zaT,zae,zag]at hY;obtain⟨⟨h0,h1⟩,rfl⟩:=hY;unfold Uns.dec instUnsProd at hd;dsimp only at hd
 split at hd
 case h_2=>cases hd
 rename_i n' r1 hn
 split at hd
 case h_2=>cases hd
 rename_i a' r2 ha;cases hd;have hu:us= .i n::r1:=Uns.ok _ _ _ hn;subst hu;have t:=h r1 (.now (f a).2) (by
  show onU (fun a=>some ((f a).1,Ys.now (f a).2)) r1=_;unfold onU;rw[ha];simp only[h1])
 intro φ H ws hnb hS hD;have hz:(⟨.np j 0 col::vs,bs,lk⟩:Pn).bx (.i n::r1)=(⟨.ptr j 0 col::vs,bs,lk⟩:Pn).bx r1:=by
  show({gH (dA bs ((Un.i n::r1).drop (1+VP.mB vs)))with lock:=lk}:aj)={gH (dA bs (r1.drop (0+VP.mB vs)))with lock:=lk}
  rw[Nat.add_comm 1,List.drop_succ_cons,zaF]
 have hS':Sim φ ((⟨.ptr j 0 col::vs,bs,lk⟩:Pn).bx r1) H:=hz▸hS;have hB':NB φ ((⟨.ptr j 0 col::vs,bs,lk⟩:Pn).bx r1) H:=hz▸hnb;obtain⟨v,vs',rfl,k1,k2⟩:=DVL.gG (show DVL φ H (Ev.Own φ ((⟨.np j 0 col::vs,bs,lk⟩:Pn).bx (.i n::r1))) (.np j 0 col n::VP.tos vs r1) ws from hD);rw[hz]at k1 k2;have k1':DV φ H (Ev.Own φ ((⟨.ptr j 0 col::vs,bs,lk⟩:Pn).bx r1)) (.ptr j 0 0 col) v:=by
  cases k1 with
  |kU _ _ _ _ hn=>omega
  |np _ _ _ x _ _ hx=>
   have:n.toNat*0+col=0*0+col:=by omega
   rw[this];exact .ptr _ _ _ _ _ hx
 obtain⟨N,y,H',φ',c1,c2,c3⟩:=t φ H (v::vs') hB' hS' (.cons k1' k2);refine⟨N,y,H',φ',c1, ?_,c3⟩;show lH (bw ⟨.np j 0 col::vs,bs,lk⟩ ex) φ ((⟨.np j 0 col::vs,bs,lk⟩:Pn).bx (.i n::r1)) H φ' _ H';rw[hz];exact c2
def afg:rf->List Un:=fun r=>[.i r.j,.i r.e]++Uns.enc (r.n:aW)++[.l r.b]++Uns.enc (r.o:gZ)
def ael:aW × LI0->Bool × rf:=fun(a0,a1)=>(decide (a1.length<900000)&&cG a1&&cZ a1,(fy a0 a1))
theorem Pu:ER 13 (mkB N13.en N13.ex ael afg):=rebind Mu fun(a0,a1)=>rfl
def aeS:TB:=T13.ad Pu
def aeL:Int × LI0 × ao->Bool × List Un:=fun(a0,a1,a2)=>(decide (0<=a0)&&(f14 (a1,a2)).1,(f14 (a1,a2)).2)
def adk:Pn:=⟨[.np 0 0 0,.ints .u8],[.cells [.ptr 1 0 0,.np 5 0 0,.buf 4 1,.any],.cells [.ptr 2 0 0,.z0,.bool],.cells [.buf 3 1,.z0,.bool,.z0,.bool],.ints .u8,.ab [.ints .u8]]++aU 5,0⟩
theorem Ie:ER 14 (mkE adk N14.ex aeL):=UM (en:=N14.en) rfl rfl MM fun n (a0,a1)=>rfl
def afl:TB:=aeS.ad Ie
def afm:Int × LI0 × ao->Bool × List Un:=fun(a0,a1,a2)=>(decide (0<=a0)&&(f17 (a1,a2)).1,(f17 (a1,a2)).2)
def ab9:Pn:=⟨[.np 0 0 0,.ints .u8],[.cells [.ptr 1 0 0,.np 5 0 0,.buf 4 1,.any],.cells [.ptr 2 0 0,.z0,.bool],.cells [.buf 3 1,.z0,.bool,.z0,.bool],.ints .u8,.ab [.ints .u8]]++aU 5,0⟩
theorem F4:ER 17 (mkE ab9 N17.ex afm):=UM (en:=N17.en) rfl rfl Ls fun n (a0,a1)=>rfl
def aeV:TB:=afl.ad F4
def aeo:Int × ao->Bool × List Un:=fun(a0,a1)=>(decide (0<=a0)&&(f29 (a1)).1,(f29 (a1)).2)
def aeX:Pn:=⟨[.np 0 0 0],[.cells [.ptr 1 0 0,.np 5 0 0,.buf 4 1,.any],.cells [.ptr 2 0 0,.z0,.bool],.cells [.buf 3 1,.z0,.bool,.z0,.bool],.ints .u8,.ab [.ints .u8]]++aU 5,14⟩
theorem Rc:ER 29 (mkE aeX N29.ex aeo):=UM (en:=N29.en) rfl rfl MJ fun n a0=>rfl
def aff:TB:=aeV.ad Rc
def acU:nY->List Un:=fun r=>[.i r.e]++Uns.enc (r.d:ao)
def aaw:Int × LI0 × ao->Bool × nY:=fun(a0,a1,a2)=>(decide (0<=a0)&&(mh a1&&cB a2),(pb a1 a2))
theorem NK:ER 14 (mkB adk N14.ex aaw acU):=rebind Ie fun(a0,a1,a2)=>rfl
def acL:TB:=aff.ad NK
def ab6:nY->List Un:=fun r=>[.l r.txt,.i r.e]++Uns.enc (r.d:ao)
def aay:Int × LI0 × ao->Bool × nY:=fun(a0,a1,a2)=>(decide (0<=a0)&&(mh a1&&cB a2),(dB a1 a2))
theorem Oc:ER 17 (mkB ab9 N17.ex aay ab6):=rebind F4 fun(a0,a1,a2)=>rfl
def Ly:TB:=acL.ad Oc
def nr2 (d:Dat):Dat:= .r [.n (d.i 0),.n (d.i 1)]
def nr7 (d:Dat):Dat:= .r [.n (d.i 0),.n (d.i 1),.n (d.i 2),.n (d.i 3),.n (d.i 4),.n (d.i 5),.n (bI (d.b 6))]
def I64 (n:Int):Prop:= -9223372036854775808<=n/\n<=9223372036854775807
theorem mc (f:Dat->LI0) (k:Nat) (hf:∀d,(f d).length=k):∀l:LD0,(l.flatMap f).length=k*l.length
 |[]=>by simp
 |x::l=>by rw[zaX,zab,hf,mc f k hf l,zac,Nat.mul_succ];omega
theorem C0 (f:Dat->LI0) (k:Nat) (hf:∀d,(f d).length=k) (l:LD0):(bU f l).length=1+k*l.length:=by
 rw[bU,zac,mc f k hf];omega
theorem k8 {l A B:LI0} {x:Int} (v:Int) (h:l=A++x::B):nx (rdS l A.length v)=rdS l (A++[x]).length x:=by
 rw[zF v (by rw[h];simp)];rw[show l.getD A.length 0=x by rw[h];exact br _ _ _,zab];rfl
theorem DP {l A B:LI0} {x:Int} (v most:Int) (h:l=A++x::B) (h0:0<=x) (h1:x<=most):mx (rdS l A.length v) most=rdS l (A++[x]).length x:=by
 have e:l.getD A.length 0=x:=by rw[h];exact br _ _ _
 rw[Vd v most (by rw[h];simp) (by rw[e];exact h0) (by rw[e];exact h1),e,zab];rfl
theorem LI (l:LI0):∀(x:LD0) (A B:LI0) (v:Int),l=A++(x.flatMap dk++B)->∃v',cv x.length (rdS l A.length v)=(x.map nr2,rdS l (A++x.flatMap dk).length v')
 |[],A,B,v,_=>⟨v,by rw[List.flatMap_nil,zaH];rfl⟩
 |d::x,A,B,v,h=>by
  have h:l=A++d.i 0::d.i 1::(x.flatMap dk++B):=by rw[h];simp[dk]
  have e0:=k8 (A:=A) (x:=d.i 0) v h;have e1:=k8 (l:=l) (A:=A++[d.i 0]) (x:=d.i 1) (B:=x.flatMap dk++B) (d.i 0) (by rw[h];simp);obtain⟨v',ih⟩:=LI l x (A++[d.i 0]++[d.i 1]) B (d.i 1) (by rw[h];simp);refine⟨v', ?_⟩;simp only[zac,cv];rw[e0,e1,ih];simp only[zaS,nr2,rdS,zaX,dk,zaq,zaC,zat]
theorem MF (l:LI0):∀(x:LD0) (A B:LI0) (v:Int),l=A++(x.flatMap lM++B)->∃v',fc x.length (rdS l A.length v)=(x.map nrN,rdS l (A++x.flatMap lM).length v')
 |[],A,B,v,_=>⟨v,by rw[List.flatMap_nil,zaH];rfl⟩
 |d::x,A,B,v,h=>by
  have h:l=A++d.i 0::d.i 1::d.i 2::(x.flatMap lM++B):=by rw[h];simp[lM]
  have e0:=k8 (A:=A) (x:=d.i 0) v h;have e1:=k8 (l:=l) (A:=A++[d.i 0]) (x:=d.i 1) (B:=d.i 2::(x.flatMap lM++B)) (d.i 0) (by rw[h];simp);have e2:=k8 (l:=l) (A:=A++[d.i 0]++[d.i 1]) (x:=d.i 2) (B:=x.flatMap lM++B) (d.i 1) (by rw[h];simp);obtain⟨v',ih⟩:=MF l x (A++[d.i 0]++[d.i 1]++[d.i 2]) B (d.i 2) (by rw[h];simp);refine⟨v', ?_⟩;simp only[zac,fc];rw[e0,e1,e2,ih];simp only[zaS,nrN,rdS,zaX,lM,zaq,zaC,zat]
theorem yd {l:LI0} {x:LD0} {A B:LI0} (v most:Int) (h:l=A++(bU dk x++B)) (hm:(x.length:Int)<=most):∃v',dX (rdS l A.length v) most=(x.map nr2,rdS l (A++bU dk x).length v'):=by
 have e:=DP (l:=l) (A:=A) (x:=(x.length:Int)) (B:=x.flatMap dk++B) v most (by rw[h];simp[bU]) (by omega) hm;obtain⟨v',ih⟩:=LI l x (A++[(x.length:Int)]) B (x.length:Int) (by rw[h];simp[bU]);refine⟨v', ?_⟩;unfold dX;rw[e,show(rdS l (A++[(x.length:Int)]).length (x.length:Int)).v.toNat=x.length from rfl,ih];simp only[bU,zaq,zaC,zat]
theorem UX {l:LI0} {x:LD0} {A B:LI0} (v most:Int) (h:l=A++(bU lM x++B)) (hm:(x.length:Int)<=most):∃v',tq (rdS l A.length v) most=(x.map nrN,rdS l (A++bU lM x).length v'):=by
 have e:=DP (l:=l) (A:=A) (x:=(x.length:Int)) (B:=x.flatMap lM++B) v most (by rw[h];simp[bU]) (by omega) hm;obtain⟨v',ih⟩:=MF l x (A++[(x.length:Int)]) B (x.length:Int) (by rw[h];simp[bU]);refine⟨v', ?_⟩;unfold tq;rw[e,show(rdS l (A++[(x.length:Int)]).length (x.length:Int)).v.toNat=x.length from rfl,ih];simp only[bU,zaq,zaC,zat]
def headD (d:aT):LI0:=[d.a.year,d.a.month,d.a.basis,d.b.fee,d.b.bq,d.b.target,d.b.advance,d.b.eX,d.b.oc,d.b.ic,d.b.late,d.b.lv,d.b.clean]
def nrD (d:aT):aT:=⟨d.a,d.aC.map nr2,d.notes.map nrN,d.b,d.s0.map nr2,d.s1.map nr2,d.s2.map nr2⟩
theorem KI {d:aT} {l:LI0} (hl:iD d=l) (h0:d.aC.length<=64) (h1:d.notes.length<=8) (h2:d.s0.length<=16) (h3:d.s1.length<=16) (h4:d.s2.length<=16):∃v,dQ 0 (l.length:Int) false l=⟨nrD d,rdS l l.length v⟩:=by
 have hlen:13<=l.length:=by rw[<-hl];simp[iD]
 have hd:∀i,i<13->l.getD i 0=(headD d).getD i 0:=fun i hi=>by
  rw[<-hl];unfold iD;simp only[zaf];rw[zax (by simpa using hi)];rfl
 have nxk:∀(k:Nat) (v:Int),k<13->nx (rdS l k v)=rdS l (k+1) ((headD d).getD k 0):=fun k v hk=>by rw[zF v (by omega),hd k hk]
 have n1:rdN 0 (l.length:Int) false l=rdS l 1 d.a.year:=nxk 0 0 (by decide);obtain⟨v1,p1⟩:=yd (l:=l) (x:=d.aC) (A:=headD d) (B:=bU lM d.notes++(bU dk d.s0++(bU dk d.s1++bU dk d.s2))) d.b.clean 64 hl.symm (by omega);obtain⟨v2,p2⟩:=UX (l:=l) (x:=d.notes) (A:=headD d++bU dk d.aC) (B:=bU dk d.s0++(bU dk d.s1++bU dk d.s2)) v1 8 (by rw[<-hl];simp only[iD,headD,zaq]) (by omega);obtain⟨v3,p3⟩:=yd (l:=l) (x:=d.s0) (A:=headD d++bU dk d.aC++bU lM d.notes) (B:=bU dk d.s1++bU dk d.s2) v2 16 (by rw[<-hl];simp only[iD,headD,zaq]) (by omega);obtain⟨v4,p4⟩:=yd (l:=l) (x:=d.s1) (A:=headD d++bU dk d.aC++bU lM d.notes++bU dk d.s0) (B:=bU dk d.s2) v3 16 (by rw[<-hl];simp only[iD,headD,zaq]) (by omega);obtain⟨v5,p5⟩:=yd (l:=l) (x:=d.s2) (A:=headD d++bU dk d.aC++bU lM d.notes++bU dk d.s0++bU dk d.s1) (B:=[]) v4 16 (by rw[<-hl];simp only[iD,headD,zaq,zaH]) (by omega);have he:headD d++bU dk d.aC++bU lM d.notes++bU dk d.s0++bU dk d.s1++bU dk d.s2=l:=by rw[<-hl];simp only[iD,headD,zaq]
 rw[he]at p5;refine⟨v5, ?_⟩;unfold dQ Eg;rw[n1];simp(disch:=omega) only[nxk,Nat.reduceAdd];unfold PY;have p1:dX (rdS l 13 ((headD d).getD 12 0)) 64=(d.aC.map nr2,rdS l (headD d++bU dk d.aC).length v1):=p1;simp only[p1,p2,p3,p4,p5];rfl
theorem Qy {d:aT} (D:WJ d):(iD d).length<=300:=by
 have h1:=D.JC;have h2:=D.NG;have h3:=bL D.s0;have h4:=bL D.s1;have h5:=bL D.s2;simp only[iD,zab,C0 dk 2 (fun _=>rfl),C0 lM 3 (fun _=>rfl),zac,zar];omega
theorem Dl {d:aT} (hs:(cI d).isSome=true) (hn:∀n∈iD d,I64 n) (hd:nrD d=d):dK (dF d)=⟨0,d⟩:=by
 have D:=dU hs;have h1:=D.JC;have h2:=D.NG;have h3:=bL D.s0;have h4:=bL D.s1;have h5:=bL D.s2;obtain⟨v,e⟩:=KI (d:=d) rfl (by omega) (by omega) h3.2 h4.2 h5.2;rw[hd]at e;unfold dK dF;rw[hs,zaw,gB,show(8*(iD d).length%8==0)=true by rw[Nat.mul_mod_right];rfl,vq hn];unfold ddV;rw[e];dsimp only;rw[hs];have:(rdS (iD d) (iD d).length v).n=0:=by show(((iD d).length-(iD d).length:Nat):Int)=0;omega
 rw[this];rfl
theorem CC {d:aT}:(dF d).length<=2400:=by
 unfold dF;cases hs:(cI d).isSome
 . exact zbt _
 . rw[zaw,gB];have:=Qy (dU hs);omega
theorem u8_in (x:Int):0<=wu8 x/\wu8 x<256:=by rw[u8m];omega
theorem wX (l:LI0):∀x∈cQ l,0<=x/\x<256:=by
 intro x hx;obtain⟨n,_,h⟩:=List.mem_flatMap.1 (show x∈l.flatMap qi from hx);simp only[qi,zaN,zbH,or_false]at h;rcases h with h|h|h|h|h|h|h|h<;>rw[h]<;>exact u8_in _
theorem nO (d:aT):mh (dF d)=true:=by
 refine mH.2 ⟨by have:=CC (d:=d);omega,fun x hx=> ?_⟩;unfold dF at hx;cases hs:(cI d).isSome
 . rw[hs]at hx;exact absurd hx (by simp)
 . rw[hs]at hx;exact wX _ x hx
theorem aaF (b:Bool):(0<=bI b/\bI b<=1)/\((bI b==1)=b):=by cases b<;>decide
theorem Lf (l:LI0):∀(x:LD0) (A B:LI0) (v:Int),l=A++(x.flatMap nv++B)->∃v',mP x.length (rdS l A.length v)=(x.map nr7,rdS l (A++x.flatMap nv).length v')
 |[],A,B,v,_=>⟨v,by rw[List.flatMap_nil,zaH];rfl⟩
 |d::x,A,B,v,h=>by
  have h:l=A++d.i 0::d.i 1::d.i 2::d.i 3::d.i 4::d.i 5::bI (d.b 6)::(x.flatMap nv++B):=by rw[h];simp[nv]
  obtain⟨b1,b2⟩:=aaF (d.b 6);have e0:=k8 (A:=A) (x:=d.i 0) v h;have e1:=k8 (l:=l) (A:=A++[d.i 0]) (x:=d.i 1) (B:=d.i 2::d.i 3::d.i 4::d.i 5::bI (d.b 6)::(x.flatMap nv++B)) (d.i 0) (by rw[h];simp);have e2:=k8 (l:=l) (A:=A++[d.i 0]++[d.i 1]) (x:=d.i 2) (B:=d.i 3::d.i 4::d.i 5::bI (d.b 6)::(x.flatMap nv++B)) (d.i 1) (by rw[h];simp);have e3:=k8 (l:=l) (A:=A++[d.i 0]++[d.i 1]++[d.i 2]) (x:=d.i 3) (B:=d.i 4::d.i 5::bI (d.b 6)::(x.flatMap nv++B)) (d.i 2) (by rw[h];simp);have e4:=k8 (l:=l) (A:=A++[d.i 0]++[d.i 1]++[d.i 2]++[d.i 3]) (x:=d.i 4) (B:=d.i 5::bI (d.b 6)::(x.flatMap nv++B)) (d.i 3) (by rw[h];simp);have e5:=k8 (l:=l) (A:=A++[d.i 0]++[d.i 1]++[d.i 2]++[d.i 3]++[d.i 4]) (x:=d.i 5) (B:=bI (d.b 6)::(x.flatMap nv++B)) (d.i 4) (by rw[h];simp);have e6:=DP (l:=l) (A:=A++[d.i 0]++[d.i 1]++[d.i 2]++[d.i 3]++[d.i 4]++[d.i 5]) (x:=bI (d.b 6)) (B:=x.flatMap nv++B) (d.i 5) 1 (by rw[h];simp) b1.1 b1.2;obtain⟨v',ih⟩:=Lf l x (A++[d.i 0]++[d.i 1]++[d.i 2]++[d.i 3]++[d.i 4]++[d.i 5]++[bI (d.b 6)]) B (bI (d.b 6)) (by rw[h];simp);refine⟨v', ?_⟩;simp only[zac,mP];rw[e0,e1,e2,e3,e4,e5,e6,ih];simp only[zaS,nr7,rdS,b2,zaX,nv,zaq,zaC,zat]
theorem qO {p:Int} {l:LD0} (hT:lI p l=true) (hn:∀n∈gM p l,I64 n) (hd:l.map nr7=l):aY (dM p l)=⟨p,0,l⟩:=by
 obtain⟨_,hl⟩:=qY hT;unfold aY dM;rw[hT,zaw,gB,show(8*(gM p l).length%8==0)=true by rw[Nat.mul_mod_right];rfl,vq hn];have n1:wj (gM p l)=rdS (gM p l) 1 p:=k8 (l:=gM p l) (A:=[]) (x:=p) (B:=(l.length:Int)::l.flatMap nv) 0 rfl;have n2:mx (rdS (gM p l) 1 p) 64=rdS (gM p l) 2 (l.length:Int):=DP (l:=gM p l) (A:=[p]) (x:=(l.length:Int)) (B:=l.flatMap nv) p 64 rfl (by omega) (by omega);obtain⟨v,e⟩:=Lf (gM p l) l [p,(l.length:Int)] [] (l.length:Int) (by rw[zaH];rfl);have hw:zM (gM p l)=(l,rdS (gM p l) (gM p l).length v):=by
  unfold zM;rw[n1,n2,show(rdS (gM p l) 2 (l.length:Int)).v.toNat=l.length from rfl];refine e.trans ?_
  rw[hd];rfl
 unfold Jz;rw[hw,n1];dsimp only;rw[show(rdS (gM p l) 1 p).v=p from rfl,hT];have:(rdS (gM p l) (gM p l).length v).n=0:=by show(((gM p l).length-(gM p l).length:Nat):Int)=0;omega
 rw[this];rfl
theorem iM (p:Int) (l:LD0):mh (dM p l)=true:=by
 unfold dM;cases hT:lI p l
 . rfl
 . obtain⟨_,hl⟩:=qY hT;rw[zaw];refine mH.2 ⟨?_,wX _⟩;rw[gB];simp only[gM,zac,mc nv 7 (fun _=>rfl)];omega
theorem kA (n:Int):dm (dP n)=n%65536:=by
 show(0*256+n/256%256)*256+n%256=n%65536;omega
theorem NS {s:Int} (h0:0<=s) (h1:s<4294967296):dm (dP (s/65536)++dP s)=s:=by
 show(((0*256+s/65536/256%256)*256+s/65536%256)*256+s/256%256)*256+s%256=s;omega
theorem tR (l:LI0):0<=cA l/\cA l<65536:=by unfold cA;omega
theorem nL (s:Int) (x rest:LI0):bT s x++rest=cr s x++(dP (cA (cr s x))++(x++(dP (cA x)++rest))):=by simp[bT]
theorem zB {s:Int} {x:LI0} (rest:LI0) (a:Int) (h0:0<=s) (h1:s<4294967296) (hx:x.length<=60000):jL (bT s x++rest) a=⟨x,s,a+10+(x.length:Int),0⟩:=by
 have e6:(bT s x++rest).take 6=cr s x:=by rw[nL];rfl
 have e2:((bT s x++rest).drop 6).take 2=dP (cA (cr s x)):=by rw[nL];rfl
 have el:(bT s x++rest).take 2=dP (x.length:Int):=by rw[nL];rfl
 have es:((bT s x++rest).drop 2).take 4=dP (s/65536)++dP s:=by rw[nL];rfl
 have e8:(bT s x++rest).drop 8=x++(dP (cA x)++rest):=by rw[nL];rfl
 have hlen:(bT s x++rest).length=x.length+10+rest.length:=by rw[zab,iA]
 have n2:dm (dP (x.length:Int))=(x.length:Int):=by rw[kA];omega
 have n6:dm (dP (cA (cr s x)))=cA (cr s x):=by rw[kA];have:=tR (cr s x);omega
 have nx:dm (dP (cA x))=cA x:=by rw[kA];have:=tR x;omega
 have et:((bT s x++rest).drop 8).take x.length=x:=by rw[e8];exact zbO
 have eu:((bT s x++rest).drop (8+x.length)).take 2=dP (cA x):=by
  rw[<-zcb,e8,za8];rfl
 unfold jL;rw[e6,e2,el,es,n2,n6,zau,et,eu,nx,NS h0 h1,hlen,zan (by omega),zb5,zan (by omega),zan (by omega),zb5];rfl
theorem Oi {s:Int} {x:LI0} (a:Int) (j:Nat) (hx:x.length<=60000) (hj:j<x.length+10):(jL ((bT s x).take j) a).how=1:=by
 have hs:bT s x=cr s x++(dP (cA (cr s x))++(x++dP (cA x))):=by simp[bT]
 have hlen:((bT s x).take j).length=j:=by rw[zas,iA];omega
 unfold jL;rw[hlen]
 by_cases h8:(j:Int)<8
 . rw[zaa h8];rfl
 obtain⟨i,rfl⟩:∃i,j=i+8:=⟨j-8,by omega⟩
 have e:(bT s x).take (i+8)=cr s x++(dP (cA (cr s x))++(x++dP (cA x)).take i):=by rw[hs];rfl
 have e6:((bT s x).take (i+8)).take 6=cr s x:=by rw[e];rfl
 have e2:(((bT s x).take (i+8)).drop 6).take 2=dP (cA (cr s x)):=by rw[e];rfl
 have el:((bT s x).take (i+8)).take 2=dP (x.length:Int):=by rw[e];rfl
 have n2:dm (dP (x.length:Int))=(x.length:Int):=by rw[kA];omega
 have n6:dm (dP (cA (cr s x)))=cA (cr s x):=by rw[kA];have:=tR (cr s x);omega
 rw[e6,e2,el,n2,n6,zan h8,zb5,zan (by omega),zaa (by omega)];rfl
def bH:Nat->List (LI0)->LI0
 |_,[]=>[]
 |n,x::xs=>bT ((n:Int)+1) x++bH (n+1) xs
theorem th (y:LI0):∀(xs:List (LI0)) (n:Nat),bH n (xs++[y])=bH n xs++bT (((n+xs.length:Nat):Int)+1) y
 |[],n=>by simp[bH]
 |x::xs,n=>by
  rw[zaC,bH,th y xs (n+1),bH,zaq,zac,show n+1+xs.length=n+(xs.length+1) by omega]
theorem kK {M:Nat}:∀(xs:List (LI0)) (n:Nat),(∀x∈xs,x.length<=M)->xs.length*10<=(bH n xs).length/\(bH n xs).length<=xs.length*(M+10)
 |[],n,_=>by simp[bH]
 |x::xs,n,h=>by
  obtain⟨h1,h2⟩:=kK xs (n+1) fun y hy=>h y (zay _ hy)
  have:=h x (by simp);rw[bH,zab,iA,zac,za2,za2];omega
theorem GG {b:LI0}:∀(xs:List (LI0)) (n:Nat) (acc:LD0) (pre tail:LI0) (j:Nat),b=pre++(bH n xs++tail)->acc.length=n->n+xs.length<4294967295->(∀x∈xs,x.length<=60000)->
 jI (xs.length+j) b (pre.length:Int) acc=jI j b ((pre++bH n xs).length:Int) (acc++xs.map mN)
 |[],n,acc,pre,tail,j,_,_,_,_=>by simp[bH]
 |x::xs,n,acc,pre,tail,j,hb,ha,hn,hx=>by
  have hb:b=pre++(bT ((n:Int)+1) x++(bH (n+1) xs++tail)):=by rw[hb,bH,zaq]
  have hl:=hx x (by simp);rw[zac]at hn;have hlen:pre.length+10<=b.length:=by rw[hb,zab,zab,iA];omega
  have ho:dW b (pre.length:Int)=⟨x,(n:Int)+1,(pre.length:Int)+10+(x.length:Int),0⟩:=by
   rw[pw (by omega) (by omega),zau]
   conv=>lhs;rw[hb,za8]
   exact zB _ _ (by omega) (by omega) hl
  have ih:=GG (b:=b) xs (n+1) (acc++[mN x]) (pre++bT ((n:Int)+1) x) tail j (by rw[hb,zaq]) (by simp[ha]) (by omega) fun y hy=>hx y (zay _ hy)
  rw[zac,show xs.length+1+j=xs.length+j+1 by omega];simp only[jI];rw[ho];dsimp only;rw[zaa (show(pre.length:Int)<(b.length:Int) by omega),zaw,show((0:Int)==1)=false from rfl,show((0:Int)==2)=false from rfl,zal,zal,ha,zb5,zal];have e:(pre.length:Int)+10+(x.length:Int)=((pre++bT ((n:Int)+1) x).length:Int):=by rw[zab,iA];omega
  rw[e,ih,bH,zaq,zaq,zaS];rfl
theorem vh {xs:List (LI0)} (tail:LI0) (hn:xs.length<1000000) (hx:∀x∈xs,x.length<=60000) (ht:∀a,tail=[]\/(jL tail a).how=1):cF (bH 0 xs++tail)=⟨xs.map mN,((bH 0 xs).length:Int),true⟩:=by
 have hl:=(kK xs 0 hx).1;have hL:(bH 0 xs++tail).length=(bH 0 xs).length+tail.length:=zab;obtain⟨j,hj⟩:∃j,(bH 0 xs++tail).length+1=xs.length+j:=⟨(bH 0 xs++tail).length+1-xs.length,by omega⟩
 have e:=GG (b:=bH 0 xs++tail) xs 0 [] [] tail j rfl rfl (by omega) hx;rw[zat,zat]at e;unfold cF;rw[hj];refine e.trans ?_
 cases j with
 |zero=>rfl
 |succ j=>
  simp only[jI]
  by_cases ht0:tail=[]
  . subst ht0;rw[zaH,zan (Int.lt_irrefl _)];rfl
  . have hp:0<tail.length:=List.length_pos_iff.2 ht0;rw[zaa (show((bH 0 xs).length:Int)<((bH 0 xs++tail).length:Int) by omega),zaw];have ho:(dW (bH 0 xs++tail) ((bH 0 xs).length:Int)).how=1:=by
     rw[pw (by omega) (by omega),zau,za8];exact(ht _).resolve_left ht0
    rw[ho];rfl
theorem y9 (x:LI0) (s:ao) (c:eU) (n:aW) (b:LI0):cR x {s with c:=c,n:=n,b:=b}=⟨(cR x s).ok,{(cR x s).d with c:=c,n:=n,b:=b}⟩:=by
 unfold cR;cases ((x.length:Int)==0)
 case true=>rfl
 cases (x.getD 0 0==1)
 case true=>rfl
 rw[zal,zal,zal,zal];dsimp only;cases (x.getD 0 0==2&& !decide (s.has<0))
 case true=>cases ((aY (x.drop 1)).e !=0)<;>rfl
 cases (x.getD 0 0==3&&((x.drop 1).length:Int)==0)<;>rfl
theorem vk (c:eU) (n:aW) (b:LI0):∀(l:LD0) (s:ao),jF l {s with c:=c,n:=n,b:=b}=⟨(jF l s).ok,{(jF l s).d with c:=c,n:=n,b:=b}⟩
 |[],s=>rfl
 |d::l,s=>by
  simp only[jF];rw[y9];dsimp only;cases (cR (d.l 0) s).ok
  . rfl
  . exact vk c n b l _
theorem CK (x:LI0):∀(l:LD0) (s:ao),(jF l s).ok=true->jF (l++[mN x]) s=⟨(cR x (jF l s).d).ok,(cR x (jF l s).d).d⟩
 |[],s,_=>by
  simp only[zat,jF,Ad];cases h:(cR x s).ok<;>rfl
 |d::l,s,h=>by
  simp only[zaC,jF]at h⊢;cases hk:(cR (d.l 0) s).ok
  . rw[hk]at h;cases h
  . rw[hk]at h;exact CK x l _ h
def ev:ao:=Kk ⟨0,false⟩ ⟨0,false,0,false⟩ []
structure Live (s : ao) (xs : List (List Int)) : Prop where
 bytes:s.b=bH 0 xs
 count:s.c=⟨(xs.length:Int),false⟩
 short:∀x∈xs,x.length<=3601
 many:xs.length<=240
 aF:s.aF.length<=xs.length
 ok:Ck s
 OE:jF (xs.map mN) ev=⟨true,{ev with has:=s.has,aF:=s.aF,t:=s.t}⟩
theorem Live.len {s:ao} {xs:List (LI0)} (h:Live s xs):s.b.length<=880000:=by
 have:=(kK xs 0 h.short).2;rw[h.bytes];have:=h.many;omega
theorem Live.okD {s:ao} {xs:List (LI0)} (h:Live s xs):cB s=true:=by
 have:=h.len;have:=h.many;have:=h.aF;exact h.ok.okD (by rw[h.count];dsimp only;omega) (by omega) (by omega)
theorem Live.new (n:aW):Live (Kk ⟨0,false⟩ n []) [] where
 bytes:=rfl
 count:=rfl
 short:=fun x hx=>absurd hx (by simp)
 many:=by simp
 aF:=zap _
 ok:=⟨fun d hd=>absurd (show d∈([]:LD0) from hd) (by simp),.inl (by show(-1:Int)<0;decide)⟩
 OE:=rfl
theorem Live.fw {s s':ao} {xs:List (LI0)} {x:LI0} (h:Live s xs) (ha:cR x s=⟨true,{s with has:=s'.has,aF:=s'.aF,t:=s'.t}⟩) (hb:s'.b=s.b++bT ((xs.length:Int)+1) x) (hc:s'.c=⟨(xs.length:Int)+1,false⟩) (hx:x.length<=3601) (hn:xs.length<240):Live s' (xs++[x]):=by
 have hI:=Lp x h.ok;rw[ha]at hI;obtain⟨i1,i2⟩:=hI;refine⟨?_, ?_, ?_, ?_, ?_,⟨i1.aF,i1.po⟩, ?_⟩
 . rw[hb,h.bytes,th,zaF]
 . rw[hc,zab];simp
 . intro y hy;rcases za0.1 hy with hy|hy
   . exact h.short y hy
   . rw[zbg.1 hy];exact hx
 . rw[zab,List.length_singleton];omega
 . rw[zab,List.length_singleton];have i2:s'.aF.length<=s.aF.length+1:=i2;have:=h.aF;omega
 . rw[zb6,List.map_singleton,CK x _ _ (by rw[h.OE]),h.OE];have e:=y9 x s ev.c ev.n ev.b;rw[ha]at e;have e:cR x {ev with has:=s.has,aF:=s.aF,t:=s.t}=⟨true,{ev with has:=s'.has,aF:=s'.aF,t:=s'.t}⟩:=e;rw[e]
theorem Live.opened {s:ao} {xs:List (LI0)} (h:Live s xs) (m:aW) (ho:m.off=false):fy m s.b=⟨0,0,m,s.b,wI s⟩:=by
 have hx:∀x∈xs,x.length<=60000:=fun x hx=>by have:=h.short x hx;omega
 have e:=vh (xs:=xs) [] (by have:=h.many;omega) hx fun _=> .inl rfl
 rw[zaH]at e;have hj:qZ m s.b=⟨0,xs.map mN,0,m,s.b,⟨(xs.length:Int),false⟩⟩:=by
  unfold qZ;rw[ho,h.bytes,e];dsimp only;rw[zan (Int.lt_irrefl _),zaU];rfl
 unfold fy;rw[hj];dsimp only;have:=vk ⟨(xs.length:Int),false⟩ m s.b (xs.map mN) ev;rw[h.OE]at this;have:jF (xs.map mN) (Kk ⟨(xs.length:Int),false⟩ m s.b)=⟨true,{s with c:=⟨(xs.length:Int),false⟩,n:=m,b:=s.b}⟩:=this;rw[this];unfold QB wI;rw[h.count];rfl
def Up (m:aW):Prop:=m.off=false/\m.lit=false
theorem Up.XY {m:aW} (h:Up m):bz m=(true,m):=by unfold bz;rw[h.1,h.2];rfl
theorem ZZ {s:ao} (x:LI0) (hu:Up s.n) (hb:s.c.bad=false):tx x s.c s.n s.b=⟨0,⟨s.c.count+1,false⟩,{s.n with ji:=((s.b++bT (s.c.count+1) x).length:Int)},s.b++bT (s.c.count+1) x⟩:=by
 unfold tx;rw[hb,hu.XY];dsimp only[cond_false,cond_true];rw[hu.XY];rfl
def kept (x:LI0) (s:ao):ao:={s with c:=⟨s.c.count+1,false⟩,n:={s.n with ji:=((s.b++bT (s.c.count+1) x).length:Int)},b:=s.b++bT (s.c.count+1) x}
theorem MH {s:ao} {x:LI0} {a:Ny} {aF:LD0} (hu:Up s.n) (hb:s.c.bad=false) (ha:a.e=0):Cr x a aF s=⟨a.txt,0,{kept x s with has:=a.j,aF:=aF,t:=a.t}⟩:=by
 unfold Cr BA J8;rw[ZZ x hu hb,ha];rfl
theorem Live.bad {s:ao} {xs:List (LI0)} (h:Live s xs):s.c.bad=false:=by rw[h.count]
theorem Live.load {s:ao} {xs:List (LI0)} {d:aT} (h:Live s xs) (hu:Up s.n) (h0:s.has<0) (hd:dK (dF d)=⟨0,d⟩) (hn:xs.length<240):
 pb (dF d) s=⟨[],0,{kept (1::dF d) s with has:=0,t:=dG d}⟩/\Live {kept (1::dF d) s with has:=0,t:=dG d} (xs++[1::dF d]):=by
 have hl:cK (dF d) s=⟨0,[],0,dG d⟩:=by
  unfold cK;rw[zaa h0,hd];rfl
 have hlen:=CC (d:=d);refine⟨?_,h.fw (x:=1::dF d) ?_ ?_ ?_ (by rw[zac];omega) hn⟩
 . unfold pb;rw[hl,MH hu h.bad rfl];rfl
 . unfold cR;rw[show(((1::dF d).length:Int)==0)=false by rw[zbU,zac];omega];simp only[zaO,List.drop_succ_cons,zbQ];rw[hl];rfl
 . show s.b++bT (s.c.count+1) _=_;rw[h.count]
 . show eU.mk (s.c.count+1) false=_;rw[h.count]
theorem Live.Rs {s:ao} {xs:List (LI0)} {l:LD0} (h:Live s xs) (hu:Up s.n) (h0:¬s.has<0) (hd:aY (dM ((s.aF.length:Int)+1) l)=⟨(s.aF.length:Int)+1,0,l⟩) (he:(aH s.t l).e=0) (hn:xs.length<240):
 dB (dM ((s.aF.length:Int)+1) l) s=⟨nW (aH s.t l),0,{kept (2::dM ((s.aF.length:Int)+1) l) s with has:=0,aF:=s.aF++[mN (nW (aH s.t l))],t:=(aH s.t l).t}⟩/\Live {kept (2::dM ((s.aF.length:Int)+1) l) s with has:=0,aF:=s.aF++[mN (nW (aH s.t l))],t:=(aH s.t l).t} (xs++[2::dM ((s.aF.length:Int)+1) l]):=by
 have hcl:bG ((s.aF.length:Int)+1) l s=⟨0,nW (aH s.t l),0,(aH s.t l).t⟩:=by
  unfold bG;rw[zb5,zal,cU he]
 have hlen:(dM ((s.aF.length:Int)+1) l).length<=3600:=by
  unfold dM;cases hT:lI ((s.aF.length:Int)+1) l
  . exact zbt _
  . obtain⟨_,hl⟩:=qY hT;rw[zaw,gB];simp only[gM,zac,mc nv 7 (fun _=>rfl)];omega
 generalize dM ((s.aF.length:Int)+1) l=y at*
 refine⟨?_,h.fw (x:=2::y) ?_ ?_ ?_ (by rw[zac];omega) hn⟩
 . unfold dB;rw[zan h0,zal,hd];dsimp only;rw[zan (show ¬(s.aF.length:Int)+1<=(s.aF.length:Int) by omega),hcl,MH hu h.bad rfl];rfl
 . unfold cR;rw[show(((2::y).length:Int)==0)=false by rw[zbU,zac];omega];simp only[zaO,List.drop_succ_cons,zbQ];rw[hd];dsimp only;rw[hcl,zan h0];rfl
 . show s.b++bT (s.c.count+1) _=_;rw[h.count]
 . show eU.mk (s.c.count+1) false=_;rw[h.count]
def pq:LD0->LD0->LD0
 |d::l,y::z=> .r [.n (d.i 0),.n (y.i 1)]::pq l z
 |_,_=>[]
theorem CZ:∀(l z:LD0) (d y:Dat),l.length=z.length->pq (l++[d]) (z++[y])=pq l z++[.r [.n (d.i 0),.n (y.i 1)]]
 |[],[],d,y,_=>rfl
 |[],_::_,_,_,h=>by simp at h
 |_::_,[],_,_,h=>by simp at h
 |a::l,b::z,d,y,h=>by
  simp only[zaC,pq];rw[CZ l z d y (by simpa using h)]
theorem AJ:∀(l z:LD0),(pq l z).length<=z.length
 |[],z=>by simp[pq]
 |_::_,[]=>by simp[pq]
 |a::l,b::z=>by simp only[pq,zac];have:=AJ l z;omega
theorem H8:∀(l z:LD0),∀d∈pq l z,∃y∈z,d.i 1=y.i 1
 |[],z,d,h=>by simp[pq]at h
 |_::_,[],d,h=>by simp[pq]at h
 |a::l,b::z,d,h=>by
  simp only[pq,zaN]at h;rcases h with rfl|h
  . exact⟨b,by simp,rfl⟩
  . obtain⟨y,hy,e⟩:=H8 l z d h;exact⟨y,zay _ hy,e⟩
theorem Gv:∀(l z:LD0),l.map (fun d=>d.i 0)=z.map (fun d=>d.i 0)->pq l z=z.map rW
 |[],[],_=>rfl
 |[],_::_,h=>by simp at h
 |_::_,[],h=>by simp at h
 |a::l,b::z,h=>by
  simp only[zaS,List.cons.injEq]at h;simp only[pq,zaS,Gv l z h.2,rW,h.1]
def nu (p q r s t u:LI0) (aC:LD0) (z:ao):LD0:=bif decide (z.has<0)then[]else ofL p q r s t u (z.t.aN.map fun d=>d.i 2) 0 (pq aC z.t.aN)
theorem HZ {p q r s t u:LI0} {aC:LD0} {z:ao} (h0:¬z.has<0) (h:aC.map (fun d=>d.i 0)=z.t.aN.map (fun d=>d.i 0)):nu p q r s t u aC z=qh p q r s t u z.t.aN:=by
 unfold nu qh;rw[zan h0,Gv _ _ h];rfl
theorem MZ (n:aq) (pre rest tr:LD0) (y:Dat):(hG n (pre++y::rest) tr).getD (11+5*pre.length) 0=y.i 1/\(hG n (pre++y::rest) tr).getD (12+5*pre.length) 0=y.i 2/\12+5*pre.length<(hG n (pre++y::rest) tr).length:=by
 have hl:(pre.flatMap nF).length=5*pre.length:=mc nF 5 (fun _=>rfl) pre;have e:hG n (pre++y::rest) tr=([n.period,n.mode,n.bf,n.out,n.fee,n.aP,n.bc,bI n.gU,n.rin,n.bM]++pre.flatMap nF)++y.i 0::y.i 1::y.i 2::([y.i 3,bI (y.b 4)]++(rest.flatMap nF++tr.flatMap ti)):=by simp[hG,nF]
 generalize hA:[n.period,n.mode,n.bf,n.out,n.fee,n.aP,n.bc,bI n.gU,n.rin,n.bM]++pre.flatMap nF=A at e;have hAl:A.length=10+5*pre.length:=by rw[<-hA,zab,hl];rfl
 generalize [y.i 3,bI (y.b 4)]++(rest.flatMap nF++tr.flatMap ti)=Z at e;rw[e];refine⟨?_, ?_, ?_⟩
 . rw[show A++y.i 0::y.i 1::y.i 2::Z=(A++[y.i 0])++y.i 1::y.i 2::Z by simp,show 11+5*pre.length=(A++[y.i 0]).length by simp[hAl];omega];exact br _ _ _
 . rw[show A++y.i 0::y.i 1::y.i 2::Z=(A++[y.i 0,y.i 1])++y.i 2::Z by simp,show 12+5*pre.length=(A++[y.i 0,y.i 1]).length by simp[hAl];omega];exact br _ _ _
 . simp only[zab,zac,hAl];omega
def N25:aA:=⟨Ly.tab,25,⟨[.ptr 0 0 0,.agg [.z0,.z0,.z0,.ab (sI 2),.ab (sI 3),.z0,.z0,.z0,.z0,.z0,.z0,.z0,.z0,.z0,.z0,.ab (sI 2),.ab (sI 2),.ab (sI 2)],.agg [.ints .i64,.ints .i64,.ints .i64,.ints .i64,.ints .i64,.ints .i64]],[.cells [.ptr 1 0 0,.np 5 0 0,.buf 4 1,.any],.cells [.ptr 2 0 0,.z0,.bool],.cells [.buf 3 1,.z0,.bool,.z0,.bool],.ints .u8,.ab [.ints .u8]]++aU 5,14⟩,⟨[.buf 14 7],[.cells [.ptr 1 0 0,.np 5 0 0,.buf 4 1,.any],.cells [.ptr 2 0 0,.z0,.bool],.cells [.buf 3 1,.z0,.bool,.z0,.bool],.ints .u8,.ab [.ints .u8]]++aU 5++[.ab (sB 6)],14⟩,[]⟩
abbrev MQ:Type:=LD0 × Int × Int × Int × eU × aW × LI0 × LD0 × av × aw × aq × LD0 × LD0 × LD0 × LD0 × LD0 × LD0 × LD0 × LI0 × LI0 × LI0 × LI0 × LI0 × LI0 × LI0 × LD0 × LI0
def uf (m:Nat) (k:MQ->OU0):MQ->OU0:=fun(a0,a1,a2,a3,a4,a5,a6,a7,a8,a9,a10,a11,a12,a13,a14,a15,a16,a17,a18,a19,a20,a21,a22,a23,a24,a25,a26)=>
 bif decide (a2<a1)then
 chk (inb a2 a0.length)<|
 chk (decide (a2.toNat<a0.length))<|
 lt ((w64 (10+(w64 (5*a2)))):Int) fun x2=>
 bif (decide ((w64 (x2+2))<(a24.length:Int)))then
 chk (inb (w64 (x2+1)) a24.length)<|
 chk (decide ((w64 (x2+1)).toNat<a24.length))<|
 chk (fits (a25.length+1) 16)<|
 chk (inb (w64 (x2+2)) a24.length)<|
 chk (decide ((w64 (x2+2)).toNat<a24.length))<|
 chk (fits (a26.length+1) 8)<|
 k (a0,a1,(w64 (a2+1)),a3,a4,a5,a6,a7,a8,a9,a10,a11,a12,a13,a14,a15,a16,a17,a18,a19,a20,a21,a22,a23,a24,(a25++([.r [.n ((ai a0 a2.toNat).i 0),.n (a24.getD ((w64 (x2+1)).toNat) 0)]])),(a26++([(a24.getD ((w64 (x2+2)).toNat) 0)])))
 else
 k (a0,a1,(w64 (a2+1)),a3,a4,a5,a6,a7,a8,a9,a10,a11,a12,a13,a14,a15,a16,a17,a18,a19,a20,a21,a22,a23,a24,a25,a26)
 else
 chk (decide (a25.length<1000000)&&(a25.all (fun d=>decide (d.i 1<=1152921504606846976))&&a26.all fun y=>decide (y<=2305843009213693952)))<|
 some (Uns.enc ((⟨a3,a4,a5,a6,a7,(⟨a8,a9,a10,a11,a12,a13,a14,a15,a16,a17⟩:af)⟩:ao):ao)++[.d (ofL a18 a19 a20 a21 a22 a23 a26 0 a25)])
def zK (m:Nat):Nat->MQ->OU0:=aZ (uf m)
theorem ox (m:Nat) (n:Nat):zK m (n+1)=uf m (zK m n):=rfl
def Pl (F:MQ->OU0):aQ:=⟨[.lp [0,1,0,1,1,1,1],.blk 0,.code [1,1,1,1,1]],⟨frm 55 [(5,.ptr 14 0 0),(7,.buf 15 1),(8,.buf 16 2),(9,.buf 17 1),(16,.ab (sI 2)),(17,.z0),(18,.z0)],[.cells [.ptr 1 0 0,.np 5 0 0,.buf 4 1,.any],.cells [.ptr 2 0 0,.z0,.bool],.cells [.buf 3 1,.z0,.bool,.z0,.bool],.ints .u8,.ab [.ints .u8]]++aU 5++[.cells [.ints .i64,.ints .i64,.ints .i64,.ints .i64,.ints .i64,.ints .i64],.ints .i64,.ab (sI 2),.ints .i64],14⟩,onU F⟩
theorem abm (m:Nat):∀n,HO N25 (Pl (zK m n)):=an ae Ly.right (fun k=>[Pl k]) (fun k h=>(aI h az)) fun k a=>by kernel_rfl
def t25 (m:Nat):aT × LI0 × LI0 × LI0 × LI0 × LI0 × LI0 × ao->OU0:=fun(a0,a1,a2,a3,a4,a5,a6,a7)=>
 chk (decide (0<=0)&&(cB a7))<|
 zK m m (a0.aC,(a0.aC.length:Int),0,a7.has,a7.c,a7.n,a7.b,a7.aF,a7.t.a,a7.t.b,a7.t.n,a7.t.aC,a7.t.notes,a7.t.s0,a7.t.s1,a7.t.s2,a7.t.aN,a7.t.tr,a1,a2,a3,a4,a5,a6,(iu a7),[],[])
theorem Vy (m:Nat) (z:ao) (p q r s t u:LI0) (h0:z.has<0):∀(rest pre:LD0) (n:Nat),rest.length<n->(pre++rest).length<=64->
 zK m n (pre++rest,((pre++rest).length:Int),(pre.length:Int),z.has,z.c,z.n,z.b,z.aF,z.t.a,z.t.b,z.t.n,z.t.aC,z.t.notes,z.t.s0,z.t.s1,z.t.s2,z.t.aN,z.t.tr,p,q,r,s,t,u,[],[],[])=some (Uns.enc z++[.d []]):=by
 intro rest
 induction rest with
 |nil=>
  intro pre n hn hl;obtain⟨n,rfl⟩:=ah n (by simp at hn;omega);rw[ox];unfold uf;dsimp only;rw[ay (by simp)];rfl
 |cons x rest ih=>
  intro pre n hn hl;obtain⟨n,rfl⟩:=ah n (by simp at hn;omega);have:=ih (pre++[x]) n (by simp at hn;omega) (by simpa using hl);simp only[zac,zab]at hn hl;rw[ox];unfold uf;dsimp only;rw[aL (by simp only[zab,zac];omega),bQ (by omega) (by simp only[zab,zac];omega),aJ (by simp)];simp only[lt_eq];rw[aa (n:=5*(pre.length:Int)) (by omega) (by omega),aa (n:=10+5*(pre.length:Int)) (by omega) (by omega),aa (n:=10+5*(pre.length:Int)+2) (by omega) (by omega),ay (by simp only[zar];omega)];have e:w64 ((pre.length:Int)+1)=((pre++[x]).length:Int):=by
   rw[aa (by omega) (by omega)];simp
  rw[e,show pre++x::rest=(pre++[x])++rest by simp];exact this
theorem TR (m:Nat) (z:ao) (p q r s t u:LI0) (hp:∀d∈z.t.aN,d.i 1<=1152921504606846976/\d.i 2<=1152921504606846976):∀(rest pre py ry:LD0) (n:Nat),rest.length<n->(pre++rest).length<=64->pre.length=py.length->rest.length=ry.length->z.t.aN=py++ry->
 zK m n (pre++rest,((pre++rest).length:Int),(pre.length:Int),z.has,z.c,z.n,z.b,z.aF,z.t.a,z.t.b,z.t.n,z.t.aC,z.t.notes,z.t.s0,z.t.s1,z.t.s2,z.t.aN,z.t.tr,p,q,r,s,t,u,hG z.t.n z.t.aN z.t.tr,pq pre py,py.map (fun d=>d.i 2))=some (Uns.enc z++[.d (ofL p q r s t u (z.t.aN.map fun d=>d.i 2) 0 (pq (pre++rest) z.t.aN))]):=by
 intro rest
 induction rest with
 |nil=>
  intro pre py ry n hn hl h1 h2 h3;obtain⟨n,rfl⟩:=ah n (by simp at hn;omega);have hr:ry=[]:=zaB (by simpa using h2.symm);subst hr;simp only[zaH]at hl h3⊢;rw[ox];unfold uf;dsimp only;have hl2:=AJ pre py;have k1:(pq pre py).all (fun d=>decide (d.i 1<=1152921504606846976))=true:=zam.2 fun d hd=>by
   obtain⟨y,hy,e⟩:=H8 pre py d hd;exact zaa (by rw[e];exact(hp y (h3▸hy)).1)
  have k2:(py.map (fun d=>d.i 2)).all (fun y=>decide (y<=2305843009213693952))=true:=zam.2 fun d hd=>by
   obtain⟨x,hx,rfl⟩:=za7.1 hd;exact zaa (by have:=(hp x (h3▸hx)).2;omega)
  rw[ay (by omega),k1,k2,zck,zbf,aJ (by omega),<-h3]
 |cons x rest ih=>
  intro pre py ry n hn hl h1 h2 h3;obtain⟨n,rfl⟩:=ah n (by simp at hn;omega);obtain⟨y,ry,rfl⟩:∃y l,ry=y::l:=by
   cases ry with
   |nil=>simp at h2
   |cons y l=>exact⟨y,l,rfl⟩
  have:=ih (pre++[x]) (py++[y]) ry n (by simp at hn;omega) (by simpa using hl) (by simp[h1]) (by simpa using h2) (by rw[h3];simp);rw[CZ _ _ _ _ h1,zb6]at this;simp only[zac,zab]at hn hl h2;obtain⟨g1,g2,g3⟩:=MZ z.t.n py ry z.t.tr y;rw[<-h3]at g1 g2 g3;have hpl:=AJ pre py;rw[ox];unfold uf;dsimp only;rw[aL (by simp only[zab,zac];omega),bQ (by omega) (by simp only[zab,zac];omega),aJ (by simp)];simp only[lt_eq];rw[aa (n:=5*(pre.length:Int)) (by omega) (by omega),aa (n:=10+5*(pre.length:Int)) (by omega) (by omega),aa (n:=10+5*(pre.length:Int)+2) (by omega) (by omega),aa (n:=10+5*(pre.length:Int)+1) (by omega) (by omega),aL (by omega),bQ (by omega) (by omega),aJ (by omega),bD (by omega) (by omega),bQ (by omega) (by omega),aJ (by omega),bD (by rw[zaU];omega) (by rw[zaU];omega)];rw[show(10+5*(pre.length:Int)+1).toNat=11+5*py.length by omega,show(10+5*(pre.length:Int)+2).toNat=12+5*py.length by omega,g1,g2];have hg:ai (pre++x::rest) (pre.length:Int).toNat=x:=by rw[zau];exact ax _ _ _
  have e:w64 ((pre.length:Int)+1)=((pre++[x]).length:Int):=by
   rw[aa (by omega) (by omega)];simp
  rw[hg,e,show pre++x::rest=(pre++[x])++rest by simp];exact this
def f25:aT × LI0 × LI0 × LI0 × LI0 × LI0 × LI0 × ao->Bool × List Un:=fun(a0,a1,a2,a3,a4,a5,a6,a7)=>(cB a7&&(decide (a0.aC.length<=64)&&(decide (a7.has<0)||decide (a0.aC.length=a7.t.aN.length))),Uns.enc ((a7):ao)++[.d (nu a1 a2 a3 a4 a5 a6 a0.aC a7)])
theorem LG:ER 25 (mkE N25.en N25.ex f25):=ak ae Ly.right (fun m=>[Pl (zK m m)]) (t:=t25) (by kernel_rfl) (fun m=>(aI (abm m m) az)) (fun m a=>by kernel_rfl) fun(a0,a1,a2,a3,a4,a5,a6,a7) hc=>by
 dsimp only[f25]at hc⊢;simp only[zae,zbj,zag]at hc;obtain⟨hD,hl,ho⟩:=hc;obtain⟨_,_,d6⟩:=jX.1 hD;refine⟨100, ?_⟩;unfold t25 nu iu;refine al (by rw[hD];rfl) ?_
 by_cases h0:a7.has<0
 . rw[zaa h0];exact Vy 100 a7 a1 a2 a3 a4 a5 a6 h0 a0.aC [] 100 (by omega) hl
 . rw[zan h0];have hk:=SF (d6.resolve_left h0);rw[zae,zam]at hk;exact TR 100 a7 a1 a2 a3 a4 a5 a6 (fun d hd=>zaj (hk.2 d hd)) a0.aC [] [] a7.t.aN 100 (by omega) hl rfl (ho.resolve_left h0) rfl
def T25:TB:=Ly.ad LG
def aeC:Int × aT × LI0 × LI0 × LI0 × LI0 × LI0 × LI0 × ao->Bool × List Un:=fun(a0,a1,a2,a3,a4,a5,a6,a7,a8)=>(decide (0<=a0)&&(f25 (a1,a2,a3,a4,a5,a6,a7,a8)).1,(f25 (a1,a2,a3,a4,a5,a6,a7,a8)).2)
def aeW:Pn:=⟨[.np 0 0 0,.agg [.z0,.z0,.z0,.ab (sI 2),.ab (sI 3),.z0,.z0,.z0,.z0,.z0,.z0,.z0,.z0,.z0,.z0,.ab (sI 2),.ab (sI 2),.ab (sI 2)],.agg [.ints .i64,.ints .i64,.ints .i64,.ints .i64,.ints .i64,.ints .i64]],[.cells [.ptr 1 0 0,.np 5 0 0,.buf 4 1,.any],.cells [.ptr 2 0 0,.z0,.bool],.cells [.buf 3 1,.z0,.bool,.z0,.bool],.ints .u8,.ab [.ints .u8]]++aU 5,14⟩
theorem Sk:ER 25 (mkE aeW N25.ex aeC):=UM (en:=N25.en) rfl rfl LG fun n (a0,a1,a2,a3,a4,a5,a6,a7)=>rfl
def Zh:TB:=T25.ad Sk
theorem yo {l:LI0} (h:l.all (fun n=>decide (-9223372036854775808<=n/\n<=9223372036854775807))=true):∀n∈l,I64 n:=fun n hn=>by
 have:=zam.1 h n hn;rw[zag]at this;exact this
theorem PX:dK (dF gN)=⟨0,gN⟩:=Dl II (yo (by kernel_rfl)) rfl
theorem SD:aY (dM 1 mM)=⟨1,0,mM⟩:=qO (by kernel_rfl) (yo (by kernel_rfl)) rfl
def KC:LD0:=[.r [.n 1,.n 50,.n 0,.n 0,.n 0,.n 0,.n (bI false)]]
theorem Ng:aY (dM 1 KC)=⟨1,0,KC⟩:=qO (by kernel_rfl) (yo (by kernel_rfl)) rfl
theorem M6:aY (dM 3 [])=⟨3,0,[]⟩:=qO (by kernel_rfl) (yo (by kernel_rfl)) rfl
theorem Br:fy ⟨0,false,0,false⟩ []=⟨0,0,⟨0,false,0,false⟩,[],wI ev⟩:=(Live.new ⟨0,false,0,false⟩).opened ⟨0,false,0,false⟩ rfl
def MR:ao:={kept (1::dF gN) ev with has:=0,t:=dG gN}
theorem GI:pb (dF gN) ev=⟨[],0,MR⟩/\Live MR [1::dF gN]:=
 (Live.new ⟨0,false,0,false⟩).load ⟨rfl,rfl⟩ (by show(-1:Int)<0;decide) PX (by decide)
def rn:ao:={kept (2::dM 1 mM) MR with has:=0,aF:=[mN (nW (aH (dG gN) mM))],t:=(aH (dG gN) mM).t}
theorem JJ:dB (dM 1 mM) MR=⟨nW (aH (dG gN) mM),0,rn⟩/\Live rn ([1::dF gN]++[2::dM 1 mM]):=
 GI.2.Rs (l:=mM) ⟨rfl,rfl⟩ (by show ¬(0:Int)<0;decide) SD Cz.2.2.2.1 (by decide)
theorem NW:dB (dM 1 KC) rn=⟨nW (aH (dG gN) mM),0,rn⟩:=by
 unfold dB;rw[Ng];exact zcm (fun x=>nY.mk x 0 rn) (Ad _)
theorem NP:dB (dM 3 []) rn=⟨[],4,rn⟩:=by
 unfold dB;rw[M6];rfl
theorem Kw:ig (nW (aH (dG gN) mM))=⟨⟨false,1,0,40,0,0,0,0,0,0,0⟩,⟨0,60,0,0,0⟩,0,true,[.r [.n 1,.n 7,.n 0,.n 40]],[.r [.n 60,.n 0,.n 0]]⟩:=by
 obtain⟨o1,o2,o3,o4,o5,o6⟩:=Cz;unfold nW;rw[o1,o2,o3,o5,o6,decode_encode (by kernel_rfl)];rfl
def N3:aA:=⟨Zh.tab,3,⟨[],[],0⟩,⟨[.bool],[],0⟩,[]⟩
def t3 (m:Nat):Unit->OU0:=fun _=>
 chk (decide (([]:LI0).length<900000)&&cG ([]:LI0)&&cZ ([]:LI0))<|
 bd ((fy (⟨0,false,0,false⟩:aW) ([]:LI0)):rf) fun r2=>
 bif ((decide (r2.j<0))&&true)then
 some ([.b false])
 else
 bif r2.e !=0 then
 some ([.b false])
 else
 chk (decide (0<=r2.j)&&(mh (dF gN)&&cB (⟨r2.o.has,r2.o.c,r2.n,r2.b,r2.o.aF,r2.o.t⟩:ao)))<|
 bd ((pb (dF gN) (⟨r2.o.has,r2.o.c,r2.n,r2.b,r2.o.aF,r2.o.t⟩:ao)):nY) fun r4=>
 bif r4.e !=0 then
 some ([.b false])
 else
 lt ((dM 1 ([.r [.n 1,.n 40,.n 0,.n 0,.n 0,.n 0,.n (bI false)]]:LD0)):LI0) fun l5=>
 chk (decide (0<=r2.j)&&(mh l5&&cB r4.d))<|
 bd ((dB l5 r4.d):nY) fun r6=>
 lt ((dM 1 ([.r [.n 1,.n 50,.n 0,.n 0,.n 0,.n 0,.n (bI false)]]:LD0)):LI0) fun l7=>
 chk (decide (0<=r2.j)&&(mh l7&&cB r6.d))<|
 bd ((dB l7 r6.d):nY) fun r8=>
 lt ((dM 3 ([]:LD0)):LI0) fun l9=>
 chk (decide (0<=r2.j)&&(mh l9&&cB r8.d))<|
 bd ((dB l9 r8.d):nY) fun r10=>
 chk (decide (r6.txt.length<=1000000))<|
 bd ((ig r6.txt):NL) fun r11=>
 bif r6.e==0 then
 bif r8.e==0 then
 chk (decide (r6.txt.length<1099511627776))<|
 bif (gE r6.txt r8.txt)then
 bif r10.e==4 then
 bif r11.ok then
 bif r11.ra.ar==40 then
 chk (decide (0<=r2.j))<|
 some ([.b ((r10.d.aF.length:Int)==1)])
 else
 some ([.b false])
 else
 some ([.b false])
 else
 some ([.b false])
 else
 some ([.b false])
 else
 some ([.b false])
 else
 some ([.b false])
def f3:Unit->Bool × List Un:=fun _=>(true,[.b (true)])
theorem ZT:ER 3 (mkE N3.en N3.ex f3):=ak ae Zh.right (fun m=>[]) (t:=t3) (by kernel_rfl) (fun m=>az) (fun m a=>by kernel_rfl) fun _ hc=>by
 dsimp only[f3]at⊢;refine⟨0, ?_⟩;unfold t3;obtain⟨a1,a2⟩:=GI;obtain⟨b1,b2⟩:=JJ;refine al rfl (lj fun r2 h2=> ?_);rw[Br]at h2;refine cm (by rw[h2];rfl) (cm (by rw[h2];rfl) ?_);have e2:({has:=r2.o.has,c:=r2.o.c,n:=r2.n,b:=r2.b,aF:=r2.o.aF,t:=r2.o.t}:ao)=ev:=by rw[h2];rfl
 have j2:decide (0<=r2.j)=true:=by rw[h2];rfl
 rw[e2,j2];refine al (by rw[nO];exact(Live.new ⟨0,false,0,false⟩).okD) (lj fun r4 h4=> ?_);rw[a1]at h4;refine cm (by rw[h4];rfl) ?_
 refine al (by rw[iM,h4];exact a2.okD) (lj fun r6 h6=> ?_);have h6:r6=⟨nW (aH (dG gN) mM),0,rn⟩:=by rw[h6,h4];exact b1
 refine al (by rw[iM,h6];exact b2.okD) (lj fun r8 h8=> ?_);have h8:r8=⟨nW (aH (dG gN) mM),0,rn⟩:=by rw[h8,h6];exact NW
 refine al (by rw[iM,h8];exact b2.okD) (lj fun r10 h10=> ?_);have h10:r10=⟨[],4,rn⟩:=by rw[h10,h8];exact NP
 have hl:=Hc (aH (dG gN) mM);refine al (by rw[h6];exact zaa (show(nW (aH (dG gN) mM)).length<=1000000 by omega)) (lj fun r11 h11=> ?_);rw[h6]at h11;have h11:=h11.trans Kw;refine cu (by rw[h6];rfl) (cu (by rw[h8];rfl) (al (by rw[h6];exact zaa (show(nW (aH (dG gN) mM)).length<1099511627776 by omega)) (cu (by rw[h6,h8];exact(iQ _ _).2 rfl) ?_)));exact cu (by rw[h10];rfl) (cu (by rw[h11]) (cu (by rw[h11];rfl) (al rfl (by rw[h10];rfl))))
def T3:TB:=Zh.ad ZT
theorem Aq:∀(r:LI0) (acc:LD0),(∀d∈acc,nr2 d=d/\(0<=d.i 0/\d.i 0<=7)/\(0<=d.i 1/\d.i 1<=7))->∀d∈gD acc r,nr2 d=d/\(0<=d.i 0/\d.i 0<=7)/\(0<=d.i 1/\d.i 1<=7)
 |[],acc,h=>h
 |x::r,acc,h=>by
  unfold gD;refine Aq r _ ?_
  split
  . exact h
  . intro d hd;rcases za0.1 hd with hd|hd
    . exact h d hd
    . rw[zbg.1 hd];have w:1<=within x 1 7/\within x 1 7<=7:=aV (by decide);have v:0<=jJ x/\jJ x<=7:=by
       unfold jJ
       split
       . have:0<=within (w64 (x.tdiv 7)) 0 3/\within (w64 (x.tdiv 7)) 0 3<=3:=aV (by decide);omega
       . omega
      exact⟨rfl,⟨by show 0<=within x 1 7;omega,by show within x 1 7<=7;omega⟩,v⟩
theorem oT (l:LI0):∀d∈ja l,nr2 d=d/\(0<=d.i 0/\d.i 0<=7)/\(0<=d.i 1/\d.i 1<=7):=by
 unfold ja
 split
 . simp only[Ab,zaN,zbH,or_false,forall_eq_or_imp,forall_eq];refine⟨?_, ?_, ?_, ?_, ?_, ?_⟩<;>exact⟨rfl,by decide,by decide⟩
 . exact Aq _ [] fun d hd=>absurd hd (by simp)
theorem Af:∀(l:LI0) (i:Nat),∀d∈gh i l,nr2 d=d/\(0<=d.i 0/\d.i 0<=2*(i+l.length)+1)
 |[],i=>by simp[gh]
 |x::l,i=>by
  simp only[gh,zaN,forall_eq_or_imp];refine⟨⟨rfl, ?_⟩,fun d hd=> ?_⟩
  . show 0<=2*(i:Int)+1/\2*(i:Int)+1<=2*((i:Int)+((x::l).length:Int))+1;rw[zac];omega
  . have:=Af l (i+1) d hd;rw[zac];exact⟨this.1,by omega⟩
theorem rM (k:ck):∀d∈eQ k,nr2 d=d/\(0<=d.i 0/\d.i 0<=2000):=by
 simp only[eQ,mn,za0,zbg]
 rintro d (h|rfl)
 . have h1:=Af _ _ d h;have:(k.aC.take 10).length<=10:=by rw[zas];omega
   exact⟨h1.1,by omega⟩
 . exact⟨rfl,by decide⟩
theorem my {f:Dat->Dat}:∀{l:LD0},(∀d∈l,f d=d)->l.map f=l
 |[],_=>rfl
 |x::l,h=>by rw[zaS,h x (by simp),my fun d hd=>h d (zay _ hd)]
theorem J9 (k:ck):∀d∈il k,nrN d=d:=by
 intro d hd;obtain⟨i,_,rfl⟩:=za7.1 hd;rfl
theorem M4 (k:ck):nrD (bF k)=bF k:=by
 unfold nrD;show(⟨_,(eQ k).map nr2,(il k).map nrN,_,(ja k.s0).map nr2,(ja k.s1).map nr2,(ja k.s2).map nr2⟩:aT)=_;rw[my fun d hd=>(rM k d hd).1,my (J9 k),my fun d hd=>(oT k.s0 d hd).1,my fun d hd=>(oT k.s1 d hd).1,my fun d hd=>(oT k.s2 d hd).1];rfl
theorem I64.of {n:Int} {a b:Int} (h:a<=n/\n<=b) (ha: -9223372036854775808<=a) (hb:b<=9223372036854775807):I64 n:=⟨by omega,by omega⟩
theorem nB {f:Dat->LI0} {l:LD0} (hl:l.length<=1000) (h:∀d∈l,∀n∈f d,I64 n):∀n∈bU f l,I64 n:=by
 intro n hn;rcases zaN.1 hn with rfl|hn
 . exact⟨by omega,by omega⟩
 . obtain⟨d,hd,hn⟩:=List.mem_flatMap.1 hn;exact h d hd n hn
theorem QA (k:ck):∀n∈iD (bF k),I64 n:=by
 have D:=dU (Bi k);have h1:=D.JC;have h2:=D.NG;have h3:=bL D.s0;have h4:=bL D.s1;have h5:=bL D.s2;have st:∀l:LI0,∀d∈ja l,∀n∈dk d,I64 n:=fun l d hd n hn=>by
  obtain⟨_,a,b⟩:=oT l d hd;simp only[dk,zaN,zbH,or_false]at hn;rcases hn with rfl|rfl
  . exact I64.of a (by decide) (by decide)
  . exact I64.of b (by decide) (by decide)
 intro n hn;simp only[iD,za0]at hn;rcases hn with hn|hn|hn|hn|hn|hn
 . have e1:=D.year;have e2:=D.month;have e3:=D.basis;have e4:=D.fee;have e5:=D.bq;have e6:=D.target;have e7:=D.advance;have e8:=D.eX;have e9:=D.oc;have e10:=D.ic;have e11:=D.late;have e12:=D.lv;have e13:=D.clean;simp only[zaN,zbH,or_false]at hn;unfold I64;rcases hn with h|h|h|h|h|h|h|h|h|h|h|h|h<;>rw[h]<;>omega
 . refine nB (by omega) (fun d hd n hn=> ?_) n hn;have a:=(rM k d hd).2;have b:=D.GZ d hd;simp only[dk,zaN,zbH,or_false]at hn;rcases hn with rfl|rfl
   . exact I64.of a (by decide) (by decide)
   . exact I64.of b (by decide) (by decide)
 . refine nB (by omega) (fun d hd n hn=> ?_) n hn;obtain⟨a,b,c⟩:=D.note d hd;simp only[lM,zaN,zbH,or_false]at hn;rcases hn with rfl|rfl|rfl
   . exact I64.of a (by decide) (by decide)
   . exact I64.of b (by decide) (by decide)
   . exact I64.of c (by decide) (by decide)
 . exact nB (zaP h3.2 (by decide)) (st k.s0) n hn
 . exact nB (zaP h4.2 (by decide)) (st k.s1) n hn
 . exact nB (zaP h5.2 (by decide)) (st k.s2) n hn
theorem M7 (k:ck):dK (dF (bF k))=⟨0,bF k⟩:=Dl (Bi k) (QA k) (M4 k)
theorem LB (p q r s t u lost:LI0):∀(l:LD0) (i:Int),∀d∈ofL p q r s t u lost i l,nr7 d=d/\∃x∈l,d.i 0=x.i 0
 |[],i=>by simp[ofL]
 |x::l,i=>by
  intro d hd;unfold ofL at hd;rcases za0.1 hd with hd|hd
  . have live:nr7 (jk p q r s t u i x)=jk p q r s t u i x/\(jk p q r s t u i x).i 0=x.i 0:=by
     refine⟨?_,rfl⟩;unfold jk;generalize decide (w64 ((BitVec.ofInt 64 (bB u i)&&&BitVec.ofInt 64 7).toNat)=7)=b;cases b<;>rfl
    have gone:nr7 (jY s lost i x)=jY s lost i x/\(jY s lost i x).i 0=x.i 0:=⟨rfl,rfl⟩
    split at hd
    . simp at hd
    . split at hd<;>rw[zbg.1 hd]
      . exact⟨live.1,x,by simp,live.2⟩
      . exact⟨gone.1,x,by simp,gone.2⟩
  . obtain⟨h1,y,hy,h2⟩:=LB p q r s t u lost l (i+1) d hd;exact⟨h1,y,zay _ hy,h2⟩
theorem Wl {T:af} {l:LD0} (h:(cP T l).e=0):mq l=true:=by
 unfold cP aK at h
 by_cases ht:mq l=true
 . exact ht
 . rw[if_neg ht]at h;cases h
theorem CG:∀(l:LD0) (last:Int),ku last l=true->∀d∈l,jK (d.i 1) (d.i 2) (d.i 3) (d.i 4) (d.i 5)=true
 |[],_,_=>by simp
 |x::l,last,h=>by
  unfold ku at h
  split at h
  . cases h
  . split at h
    . rename_i hl;intro d hd;rcases zaN.1 hd with rfl|hd
      . exact hl
      . exact CG l _ h d hd
    . cases h
theorem oO:∀(xs:List (LI0)) (n:Nat),(∀x∈xs,∀y∈x,0<=y/\y<256)->∀y∈bH n xs,0<=y/\y<256
 |[],n,_,y,hy=>absurd hy (by simp[bH])
 |x::xs,n,h,y,hy=>by
  rcases za0.1 hy with hy|hy
  . unfold bT at hy;simp only[za0]at hy;rcases hy with((hy|hy)|hy)|hy
    . exact sy _ _ y hy
    . exact vi _ y hy
    . exact h x (by simp) y hy
    . exact vi _ y hy
  . exact oO xs (n+1) (fun z hz=>h z (zay _ hz)) y hy
structure Run (d : aT) (i : Nat) (s : ao) (xs : List (List Int)) : Prop where
 live:Live s xs
 len:xs.length=i+1
 up:Up s.n
 has:s.has=0
 aF:s.aF.length=i
 per:s.t.n.period=(i:Int)
 gU:s.t.n.gU=false
 aC:s.t.aC=d.aC
 ji:s.n.ji=(s.b.length:Int)
 small:∀x∈d.aC,0<=x.i 0/\x.i 0<=2000
 byte:∀x∈xs,∀y∈x,0<=y/\y<256
 head:∀x∈xs,(!(x.getD 0 0==3))=true
section
variable {d : aT} {i : Nat} {s : ao} {xs : List (LI0)} (h : Run d i s xs)
include h
theorem Run.Xg:¬s.has<0:=by rw[h.has];decide
theorem Run.po:ee s.t:=h.live.ok.po.resolve_left h.Xg
theorem Run.ids:d.aC.map (fun d=>d.i 0)=s.t.aN.map (fun d=>d.i 0):=by rw[h.po.ids,h.aC]
theorem Run.okL:(cB s&&(decide (d.aC.length<=64)&&(decide (s.has<0)||decide (d.aC.length=s.t.aN.length))))=true:=by
 have h1:=jN h.po;have h2:d.aC.length=s.t.aN.length:=by have:=zcm List.length h.ids;simpa using this
 rw[h.live.okD,zaa (show d.aC.length<=64 by omega),zaa h2,Bool.or_true];rfl
theorem Run.lines (p q r z t u:LI0):nu p q r z t u d.aC s=qh p q r z t u s.t.aN:=HZ h.Xg h.ids
theorem Run.tape (hi:i<600) {l:LD0} (he:(cP s.t l).e=0) (hr:∀e∈l,nr7 e=e/\(0<=e.i 0/\e.i 0<=2000)):aY (dM ((s.aF.length:Int)+1) l)=⟨(s.aF.length:Int)+1,0,l⟩:=by
 have hT:=Wl he;have hT':=hT;simp only[mq,zae,zag]at hT';rw[h.aF];refine qO (by unfold lI;rw[hT,zaa (show 1<=(i:Int)+1/\(i:Int)+1<=600 by omega)];rfl) (fun n hn=> ?_) (my fun e he=>(hr e he).1);unfold gM at hn;rcases zaN.1 hn with rfl|hn
 . exact⟨by omega,by omega⟩
 rcases zaN.1 hn with rfl|hn
 . exact⟨by omega,by omega⟩
 obtain⟨e,he,hn⟩:=List.mem_flatMap.1 hn;have hm:=CG l 0 hT'.2 e he;have h0:=(hr e he).2;have hb:=(aaF (e.b 6)).1;simp only[jK,zae,zag]at hm;simp only[nv,zaN,zbH,or_false]at hn;unfold I64;rcases hn with h|h|h|h|h|h|h<;>rw[h]<;>omega
theorem Run.next (hi:i<200) {l:LD0} (he:(cP s.t l).e=0) (hr:∀e∈l,nr7 e=e/\(0<=e.i 0/\e.i 0<=2000)):∃s',dB (dM ((i:Int)+1) l) s=⟨nW (aH s.t l),0,s'⟩/\Run d (i+1) s' (xs++[2::dM ((i:Int)+1) l])/\s'.aF=s.aF++[mN (nW (aH s.t l))]/\s'.t=(fj s.t l).t:=by
 have hT:=h.po;have hp:s.t.n.period<600:=by rw[h.per];omega
 obtain⟨c1,c2,c3,c4,_⟩:=Jt hT h.gU hp he;have hz:(aH s.t l).e=0:=by rw[c1];rfl
 obtain⟨r1,r2⟩:=h.live.Rs h.up h.Xg (h.tape (by omega) he hr) hz (by rw[h.len];omega);rw[h.aF]at r1 r2;refine⟨_,r1,⟨r2,by rw[zab,h.len];rfl,h.up,rfl, ?_, ?_, ?_, ?_,rfl,h.small,fun x hx=> ?_,fun x hx=> ?_⟩,rfl,by show(aH s.t l).t=_;rw[c1]⟩
 . show(s.aF++[_]).length=_;rw[zab,h.aF];rfl
 . show(aH s.t l).t.n.period=_;rw[c1,c4,h.per];omega
 . show(aH s.t l).t.n.gU=_;rw[c1];exact c3
 . show(aH s.t l).t.aC=_;rw[c1];exact h.aC
 . rcases za0.1 hx with hx|hx
   . exact h.byte x hx
   . rw[zbg.1 hx];intro y hy;rcases zaN.1 hy with rfl|hy
     . decide
     . exact(mH.1 (iM _ _)).2 y hy
 . rcases za0.1 hx with hx|hx
   . exact h.head x hx
   . rw[zbg.1 hx];rfl
theorem Run.made (hi:i<200) (p q r z t u:LI0):∃s',dB (dM ((i:Int)+1) (nu p q r z t u d.aC s)) s=⟨nW (aH s.t (qh p q r z t u s.t.aN)),0,s'⟩/\Run d (i+1) s' (xs++[2::dM ((i:Int)+1) (nu p q r z t u d.aC s)])/\s'.aF=s.aF++[mN (nW (aH s.t (qh p q r z t u s.t.aN)))]/\s'.t=(fj s.t (qh p q r z t u s.t.aN)).t:=by
 rw[h.lines];refine h.next hi (Pk h.po p q r z t u) fun e he=> ?_
 obtain⟨e1,x,hx,e2⟩:=LB _ _ _ _ _ _ _ _ _ e he;obtain⟨y,hy,rfl⟩:=za7.1 hx;have:y.i 0∈d.aC.map (fun d=>d.i 0):=by rw[h.ids];exact za7.2 ⟨y,hy,rfl⟩
 obtain⟨w,hw,e3⟩:=za7.1 this;have e2:e.i 0=y.i 0:=e2;exact⟨e1,by rw[e2,<-e3];exact h.small w hw⟩
theorem Run.opened:fy s.n s.b=⟨0,0,s.n,s.b,wI s⟩:=h.live.opened s.n h.up.1
theorem Run.noC:cZ s.b=true:=by
 have hx:∀x∈xs,x.length<=60000:=fun x hx=>by have:=h.live.short x hx;omega
 have e:=vh (xs:=xs) [] (by have:=h.live.many;omega) hx fun _=> .inl rfl
 rw[zaH]at e;unfold cZ;rw[h.live.bytes,e];refine zam.2 fun d hd=> ?_
 obtain⟨x,hx,rfl⟩:=za7.1 hd;rw[Ad];exact h.head x hx
theorem Run.afc:(decide (s.b.length<900000)&&cG s.b)=true:=by
 have:=h.live.len;rw[zaa (show s.b.length<900000 by omega),zbb];refine eC.2 ⟨by omega, ?_⟩;rw[h.live.bytes];exact oO xs 0 h.byte
theorem Run.okB:(decide (s.b.length<900000)&&cG s.b&&cZ s.b)=true:=by rw[h.afc,h.noC];rfl
end
theorem Xz (T:af):(cP T []).e=0:=rfl
theorem Nj {s:ao} (h:s.has<0\/ee s.t):(iu s).length<=400:=by
 unfold iu
 by_cases h0:s.has<0
 . rw[zaa h0];exact zbt _
 rw[zan h0,zal];have h1:=jN (h.resolve_left h0);have h2:=fI (h.resolve_left h0);unfold hG;simp only[zab,mc nF 5 (fun _=>rfl),mc ti 3 (fun _=>rfl),zac,zar];omega
theorem Run.zS {d:aT} {i:Nat} {s:ao} {xs:List (LI0)} (h:Run d i s xs):(iu s).length<1099511627776:=by
 have:=Nj (s:=s) h.live.ok.po;omega
theorem Run.load (k:ck):∃s',pb (dF (bF k)) ev=⟨[],0,s'⟩/\Run (bF k) 0 s' [1::dF (bF k)]:=by
 obtain⟨r1,r2⟩:=(Live.new ⟨0,false,0,false⟩).load (d:=bF k) ⟨rfl,rfl⟩ (by show(-1:Int)<0;decide) (M7 k) (by decide);refine⟨_,r1,r2,rfl,⟨rfl,rfl⟩,rfl,rfl,rfl,rfl,rfl,rfl,fun x hx=>(rM k x hx).2,fun x hx y hy=> ?_,fun x hx=>by rw[zbg.1 hx];rfl⟩;rw[zbg.1 hx]at hy;rcases zaN.1 hy with rfl|hy
 . decide
 . exact(mH.1 (nO _)).2 y hy
theorem Hk:∀(l:LI0) (i:Nat) (v:Int),i<l.length->(l.set i v).sum=l.sum+v-l.getD i 0
 |[],i,v,h=>by simp at h
 |x::l,0,v,_=>by simp only[List.set_cons_zero,zbs,zaO];omega
 |x::l,i+1,v,h=>by
  have:=Hk l i v (by simpa using h);simp only[zbR,zbs,zaE,this];omega
theorem HG {l:LI0} {i:Nat} {v:Int} (h:i<l.length) (hv:0<=v/\v<256) (ho:0<=l.getD i 0/\l.getD i 0<256) (hn:v≠l.getD i 0):cA (l.set i v)≠cA l:=by
 unfold cA;rw[Hk l i v h];omega
theorem MO {n v:Int} {i:Nat} (hi:i<2) (hn:v≠(dP n).getD i 0):dm ((dP n).set i v)≠dm (dP n):=by
 have:i=0\/i=1:=by omega
 rcases this with rfl|rfl
 . have hn:v≠n/256%256:=hn;show(0*256+v)*256+n%256≠(0*256+n/256%256)*256+n%256;omega
 . have hn:v≠n%256:=hn;show(0*256+n/256%256)*256+v≠(0*256+n/256%256)*256+n%256;omega
theorem K8 {H T Z:LI0} (a:Int) (hH:H.length=6) (hT:T.length=2) (h:cA H≠dm T):(jL (H++(T++Z)) a).how=2:=by
 have e6:(H++(T++Z)).take 6=H:=by rw[<-hH];exact zbO
 have e2:((H++(T++Z)).drop 6).take 2=T:=by rw[<-hH,za8,<-hT];exact zbO
 have hl:¬((H++(T++Z)).length:Int)<8:=by simp only[zab];omega
 unfold jL;rw[e6,e2,zan hl,bne_iff_ne.2 h];rfl
theorem Li {H T X U Z:LI0} (a:Int) (hH:H.length=6) (hT:T.length=2) (hU:U.length=2) (h1:cA H=dm T) (h2:dm (H.take 2)=(X.length:Int)) (h3:X.length<=60000) (h:cA X≠dm U):(jL (H++(T++(X++(U++Z)))) a).how=2:=by
 have e6:(H++(T++(X++(U++Z)))).take 6=H:=by rw[<-hH];exact zbO
 have d6:(H++(T++(X++(U++Z)))).drop 6=T++(X++(U++Z)):=by rw[<-hH];exact za8
 have e2:(T++(X++(U++Z))).take 2=T:=by rw[<-hT];exact zbO
 have d8:(H++(T++(X++(U++Z)))).drop 8=X++(U++Z):=by
  rw[show 8=6+2 from rfl,<-zcb,d6,<-hT];exact za8
 have el:(H++(T++(X++(U++Z)))).take 2=H.take 2:=zb1 (by omega);have et:(X++(U++Z)).take X.length=X:=zbO;have eu:((H++(T++(X++(U++Z)))).drop (8+X.length)).take 2=U:=by
  rw[<-zcb,d8,za8,<-hU];exact zbO
 have hl:(H++(T++(X++(U++Z)))).length=10+X.length+Z.length:=by simp only[zab];omega
 unfold jL;rw[e6,d6,e2,el,h1,zb5,h2,zau,d8,et,eu,bne_iff_ne.2 h,hl,zan (by omega),zan (by omega),zan (by omega)];rfl
theorem ot {a b:LI0} {i:Nat} (h:i<a.length):(a++b).getD i 0=a.getD i 0:=by
 simp only[zaf];rw[zax h]
theorem oI {a b:LI0} {i:Nat} (h:a.length<=i):(a++b).getD i 0=b.getD (i-a.length) 0:=by
 simp only[zaf];rw[zaK h]
theorem nT {l:LI0} (h:∀x∈l,0<=x/\x<256) {i:Nat} (hi:i<l.length):0<=l.getD i 0/\l.getD i 0<256:=by
 rw[zaf,zah hi];exact h _ (zbw hi)
theorem Ek {s:Int} {x:LI0} {i:Nat} {v:Int} (rest:LI0) (a:Int) (hx:x.length<=60000) (hb:∀y∈x,0<=y/\y<256) (hi:i<x.length+10) (hv:0<=v/\v<256) (hn:v≠(bT s x).getD i 0):(jL ((bT s x).set i v++rest) a).how=2:=by
 have hH:=vv s x;have n6:dm (dP (cA (cr s x)))=cA (cr s x):=by rw[kA];have:=tR (cr s x);omega
 have nx:dm (dP (cA x))=cA x:=by rw[kA];have:=tR x;omega
 have n2:dm ((cr s x).take 2)=(x.length:Int):=by
  show dm (dP (x.length:Int))=_;rw[kA];omega
 have hs:bT s x=cr s x++(dP (cA (cr s x))++(x++dP (cA x))):=by simp[bT]
 rw[hs]at hn⊢;have hT:(dP (cA (cr s x))).length=2:=rfl;have hU:(dP (cA x)).length=2:=rfl
 by_cases c1:i<6
 . rw[ot (by omega)]at hn;rw[List.set_append_left _ _ (by omega),zaq,zaq];exact K8 a (by rw[za1];exact hH) rfl (by rw[n6];exact HG (by omega) hv (nT (sy s x) (by omega)) hn)
 rw[oI (by omega)]at hn;rw[List.set_append_right _ _ (by omega)]
 by_cases c2:i<8
 . rw[ot (by omega)]at hn;rw[List.set_append_left _ _ (by omega),zaq,zaq];exact K8 a hH (by rw[za1];rfl) (fun e=>MO (by omega) hn (by rw[<-e,n6]))
 rw[oI (by omega)]at hn;rw[List.set_append_right _ _ (by omega)]
 by_cases c3:i<8+x.length
 . rw[ot (by omega)]at hn;rw[List.set_append_left _ _ (by omega),zaq,zaq,zaq];exact Li a hH rfl rfl n6.symm (by rw[za1];exact n2) (by rw[za1];exact hx) (by rw[nx];exact HG (by omega) hv (nT hb (by omega)) hn)
 . rw[oI (by omega)]at hn;rw[List.set_append_right _ _ (by omega),zaq,zaq,zaq];exact Li a hH rfl (by rw[za1];rfl) n6.symm n2 hx (fun e=>MO (by omega) hn (by rw[<-e,nx]))
theorem xd {b:LI0} {v:Int} (hv:0<=v/\v<256):∀(xs:List (LI0)) (n:Nat) (acc:LD0) (pre:LI0) (i j:Nat),b=pre++(bH n xs).set i v->i<(bH n xs).length->v≠(bH n xs).getD i 0->acc.length=n->n+xs.length<4294967295->(∀x∈xs,x.length<=60000)->(∀x∈xs,∀y∈x,0<=y/\y<256)->
 jI (xs.length+j) b (pre.length:Int) acc=⟨[],0,false⟩
 |[],n,acc,pre,i,j,_,h,_,_,_,_,_=>by simp[bH]at h
 |x::xs,n,acc,pre,i,j,hb,hi,hne,ha,hn,hx,hy=>by
  have hl:=hx x (by simp);rw[zac]at hn;have hsl:=iA ((n:Int)+1) x;rw[bH]at hb hi hne;rw[zab]at hi;have hlen:pre.length+10<=b.length:=by rw[hb,zab,za1,zab];omega
  rw[zac,show xs.length+1+j=xs.length+j+1 by omega];simp only[jI];rw[zaa (show(pre.length:Int)<(b.length:Int) by omega),zaw]
  by_cases c:i<(bT ((n:Int)+1) x).length
  . rw[List.set_append_left _ _ c]at hb;rw[ot c]at hne;have ho:(dW b (pre.length:Int)).how=2:=by
     rw[pw (by omega) (by omega),zau]
     conv=>lhs;rw[hb,za8]
     exact Ek _ _ hl (hy x (by simp)) (by omega) hv hne
    rw[ho];rfl
  . rw[List.set_append_right _ _ (by omega)]at hb;rw[oI (by omega)]at hne;have ho:dW b (pre.length:Int)=⟨x,(n:Int)+1,(pre.length:Int)+10+(x.length:Int),0⟩:=by
     rw[pw (by omega) (by omega),zau]
     conv=>lhs;rw[hb,za8]
     exact zB _ _ (by omega) (by omega) hl
    have ih:=xd (b:=b) hv xs (n+1) (acc++[mN x]) (pre++bT ((n:Int)+1) x) (i-(bT ((n:Int)+1) x).length) j (by rw[hb,zaq]) (by omega) hne (by simp[ha]) (by omega) (fun y h=>hx y (zay _ h)) (fun y h=>hy y (zay _ h));rw[ho];dsimp only;rw[show((0:Int)==1)=false from rfl,show((0:Int)==2)=false from rfl,zal,zal,ha,zb5,zal];have e:(pre.length:Int)+10+(x.length:Int)=((pre++bT ((n:Int)+1) x).length:Int):=by rw[zab,hsl];omega
    rw[e];exact ih
def xy (a x:Int):Int:=wu8 ((BitVec.ofInt 8 a^^^BitVec.ofInt 8 x).toNat)
theorem ofInt8 {a:Int} (h:0<=a/\a<256):((BitVec.ofInt 8 a).toNat:Int)=a:=by
 rw[zbB];omega
theorem yv (a x:Int):BitVec.ofInt 8 (xy a x)=BitVec.ofInt 8 a^^^BitVec.ofInt 8 x:=by
 unfold xy;rw[u8m];apply BitVec.eq_of_toNat_eq;rw[zbB];have:=(BitVec.ofInt 8 a^^^BitVec.ofInt 8 x).isLt;omega
theorem xO (a x:Int):0<=xy a x/\xy a x<256:=u8_in _
theorem XM {a b:Int} (ha:0<=a/\a<256) (hb:0<=b/\b<256) (h:BitVec.ofInt 8 a=BitVec.ofInt 8 b):a=b:=by
 have:=zcm (fun z:BitVec 8=>(z.toNat:Int)) h;rw[ofInt8 ha,ofInt8 hb]at this;exact this
theorem Zg {a:Int} (ha:0<=a/\a<256):xy a 0=a:=XM (xO a 0) ha (by rw[yv];simp)
theorem XE {a:Int} (x:Int) (ha:0<=a/\a<256):xy (xy a x) x=a:=XM (xO _ x) ha (by rw[yv,yv,BitVec.xor_assoc,BitVec.xor_self,BitVec.xor_zero])
theorem Vj {a x:Int} (ha:0<=a/\a<256) (hx:0<=x/\x<256) (h0:x≠0):xy a x≠a:=fun h=>by
 have e:BitVec.ofInt 8 a^^^BitVec.ofInt 8 x=BitVec.ofInt 8 a:=by rw[<-yv,h]
 have:BitVec.ofInt 8 x=BitVec.ofInt 8 0:=by
  have:=zcm (fun z=>BitVec.ofInt 8 a^^^z) e;simp only[<-BitVec.xor_assoc,BitVec.xor_self,BitVec.zero_xor]at this;rw[this];rfl
 exact h0 (XM hx (by omega) this)
theorem Vs {x:Int} (h:(Lit.int .u8 x).wf=true):0<=x/\x<256:=by
 simp[Lit.wf,IntKind.min,IntKind.max,IntKind.bits,IntKind.signed]at h;omega
theorem lU (l:LI0) (a x:Int):cz l a x=l.set a.toNat (xy (l.getD a.toNat 0) x):=rfl
theorem sT {l:LI0} {i:Nat} {v:Int} (h:v=l.getD i 0):l.set i v=l:=by
 by_cases hi:i<l.length
 . subst h;apply zby;intro k;rw[zbo]
   split
   . rename_i e;subst e;rw[zaf,zah hi];rfl
   . rfl
 . exact List.set_eq_of_length_le (by omega)
theorem yg {l:LI0} {a:Int} (hb:∀y∈l,0<=y/\y<256) (ha:0<=a/\a<(l.length:Int)):cz l a 0=l:=by
 rw[lU];exact sT (Zg (nT hb (by omega)))
theorem Mb {l:LI0} {a:Int} (x:Int) (hb:∀y∈l,0<=y/\y<256) (ha:0<=a/\a<(l.length:Int)):cz (cz l a x) a x=l:=by
 rw[lU,lU];have hi:a.toNat<l.length:=by omega
 have e:(l.set a.toNat (xy (l.getD a.toNat 0) x)).getD a.toNat 0=xy (l.getD a.toNat 0) x:=by
  rw[zaf,List.getElem?_set_self hi];rfl
 rw[e,List.set_set,XE x (nT hb hi)];exact sT rfl
theorem se (l:LI0) (a x:Int):(cz l a x).length=l.length:=by rw[lU,za1]
theorem v8 {l:LI0} (a x:Int) (hb:∀y∈l,0<=y/\y<256):∀y∈cz l a x,0<=y/\y<256:=by
 intro y hy;rw[lU]at hy;rcases zbM hy with h|h
 . exact hb y h
 . rw[h];exact xO _ _
section
variable {d : aT} {i : Nat} {s : ao} {xs : List (LI0)} (h : Run d i s xs)
include h
theorem Run.bb:∀y∈s.b,0<=y/\y<256:=by
 rw[h.live.bytes];exact oO xs 0 h.byte
theorem Run.b10:10<=s.b.length:=by
 have:=(kK xs 0 h.live.short).1;rw[h.live.bytes];have:=h.len;omega
theorem Run.Mv {a:Int} (ha:0<=a/\a<(s.b.length:Int)):im s.n s.b a=true:=by
 unfold im;rw[h.up.1,h.ji,zan (Int.lt_irrefl _),zaa ha];rfl
theorem Run.wT {a x:Int} (ha:0<=a/\a<(s.b.length:Int)) (hx:0<=x/\x<256) (h0:x≠0):cF (cz s.b a x)=⟨[],0,false⟩:=by
 have hs:∀x∈xs,x.length<=60000:=fun x hx=>by have:=h.live.short x hx;omega
 have hi:a.toNat<s.b.length:=by omega
 have hl:=(kK xs 0 h.live.short).1;obtain⟨j,hj⟩:∃j,(cz s.b a x).length+1=xs.length+j:=⟨(cz s.b a x).length+1-xs.length,by rw[se,h.live.bytes];omega⟩
 unfold cF;rw[hj];have e:=h.live.bytes;refine xd (v:=xy (s.b.getD a.toNat 0) x) (xO _ _) xs 0 [] [] a.toNat j ?_ (by rw[<-e];exact hi) ?_ rfl (by have:=h.live.many;omega) hs h.byte
 . rw[lU,<-e];rfl
 . rw[<-e];exact Vj (nT h.bb hi) hx h0
theorem Run.spoilt {a x:Int} (ha:0<=a/\a<(s.b.length:Int)) (hx:0<=x/\x<256) (h0:x≠0):fy s.n (cz s.b a x)=⟨-1,8,s.n,cz s.b a x,noO⟩:=by
 unfold fy qZ;rw[h.up.1,h.wT ha hx h0];rfl
theorem Run.CQ {a x:Int} (ha:0<=a/\a<(s.b.length:Int)) (hx:0<=x/\x<256) (h0:x≠0):cZ (cz s.b a x)=true:=by
 unfold cZ;rw[h.wT ha hx h0];rfl
end
structure aeJ (d : aT) (ok : Nat) (s : ao) (aF : List Dat) : Prop where
 ji:0<=s.n.ji/\s.n.ji<=(s.b.length:Int)/\s.b.length<1000000
 up:∀kp:Int,0<=kp->∃(i1:Nat) (zz:ao) (xs:List (List Int)) (m:aW),
  (decide ((s.b.take (G5 s.n s.b kp).toNat).length<900000)&&cG (s.b.take (G5 s.n s.b kp).toNat)&&cZ (s.b.take (G5 s.n s.b kp).toNat))=true/\
  fy ⟨G5 s.n s.b kp,false,s.n.nI,false⟩ (s.b.take (G5 s.n s.b kp).toNat)=⟨0,0,m,zz.b,wI zz⟩/\m.off=false/\Run d i1 zz xs/\(i1=ok\/i1=ok+1)/\∃t,aF=zz.aF++t
theorem Run.cut {d:aT} {i:Nat} {z:ao} {xs:List (LI0)} (h:Run d i z xs) {m:aW} (hm:Up m) (y:LI0) (hy:y.length<=60000) (j:Nat) (hj:j<y.length+10):
 cF (z.b++(bT ((xs.length:Int)+1) y).take j)=⟨xs.map mN,(z.b.length:Int),true⟩/\∃m',fy m (z.b++(bT ((xs.length:Int)+1) y).take j)=⟨0,0,m',z.b,wI z⟩/\m'.off=false:=by
 obtain⟨mf,mo,mu,ml⟩:=m;obtain⟨h1,h2⟩:=hm;have h1:mo=false:=h1;have h2:ml=false:=h2;subst h1 h2;have hm:Up ⟨mf,false,mu,false⟩:=⟨rfl,rfl⟩
 have hx:∀x∈xs,x.length<=60000:=fun x hx=>by have:=h.live.short x hx;omega
 have e:=vh (xs:=xs) ((bT ((xs.length:Int)+1) y).take j) (by have:=h.live.many;omega) hx fun a=> .inr (Oi a j hy hj)
 rw[<-h.live.bytes]at e;refine⟨e, ?_⟩
 by_cases h0:j=0
 . subst h0;rw[List.take_zero,zaH];exact⟨_,h.live.opened ⟨mf,false,mu,false⟩ rfl,rfl⟩
 have hl:((bT ((xs.length:Int)+1) y).take j).length=j:=by rw[zas,iA];omega
 have hjv:qZ ⟨mf,false,mu,false⟩ (z.b++(bT ((xs.length:Int)+1) y).take j)=⟨0,xs.map mN,0,(⟨(z.b.length:Int),false,mu,false⟩:aW),z.b,⟨(xs.length:Int),false⟩⟩:=by
  unfold qZ;rw[e,hm.XY];dsimp only;rw[zaa (show(z.b.length:Int)<((z.b++(bT ((xs.length:Int)+1) y).take j).length:Int) by rw[zab,hl];omega),zau,zbO,zaU];rfl
 refine⟨(⟨(z.b.length:Int),false,mu,false⟩:aW), ?_,rfl⟩;unfold fy;rw[hjv];dsimp only;have:=vk ⟨(xs.length:Int),false⟩ (⟨(z.b.length:Int),false,mu,false⟩:aW) z.b (xs.map mN) ev;rw[h.live.OE]at this;have:jF (xs.map mN) (Kk ⟨(xs.length:Int),false⟩ (⟨(z.b.length:Int),false,mu,false⟩:aW) z.b)=⟨true,{z with c:=⟨(xs.length:Int),false⟩,n:=(⟨(z.b.length:Int),false,mu,false⟩:aW),b:=z.b}⟩:=this;rw[this];unfold QB wI;rw[h.live.count];rfl
end
end Go.Proofs.YtfaojedfnjdnnaaGreat
