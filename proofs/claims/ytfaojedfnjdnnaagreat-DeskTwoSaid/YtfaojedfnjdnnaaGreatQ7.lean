/- Part of a proof: TheDesk, DeskOpen, Docs, Replay, DeskLines, DeskRuns, DeskKeep, DeskSpoil. Conditions: none. -/
import Derived.Test.YtfaojedfnjdnnaaGreatQ6
set_option linter.unusedVariables false
set_option linter.unusedSimpArgs false
set_option linter.unnecessarySimpa false
set_option linter.unusedSectionVars false
namespace Go.Proofs.YtfaojedfnjdnnaaGreat
noncomputable section
open Go Go.Proofs.YtfaojedfnjdnnaaGreat.Ev
set_option maxRecDepth 20000
instance : Uns af := Uns.via (B := av × aw × ao × LD0 × LD0 × LD0 × LD0 × LD0 × LD0 × LD0) (fun x => (x.a, x.b, x.n, x.aC, x.notes, x.s0, x.s1, x.s2, x.aN, x.tr)) (fun x => match x with | (a, b, n, aC, notes, s0, s1, s2, aN, tr) => ⟨a, b, n, aC, notes, s0, s1, s2, aN, tr⟩) (fun _ => rfl)
@[ext] structure aq where
 has:Int
 c:eZ
 n:bc
 b:List Int
 aG:List Dat
 t:af
instance : Uns aq := Uns.via (B := Int × eZ × bc × LI0 × LD0 × af) (fun x => (x.has, x.c, x.n, x.b, x.aG, x.t)) (fun x => match x with | (has, c, n, b, aG, t) => ⟨has, c, n, b, aG, t⟩) (fun _ => rfl)
@[ext] structure gU where
 has:Int
 c:eZ
 aG:List Dat
 t:af
instance : Uns gU := Uns.via (B := Int × eZ × LD0 × af) (fun x => (x.has, x.c, x.aG, x.t)) (fun x => match x with | (has, c, aG, t) => ⟨has, c, aG, t⟩) (fun _ => rfl)
structure NJ where
 j:Int
 txt:List Int
 e:Int
 t:af
def noT:af:=⟨⟨0,0,0⟩,⟨0,0,0,0,0,0,0,0,0,0⟩,⟨0,0,0,0,0,0,0,0,0,false⟩,[],[],[],[],[],[],[]⟩
def noA (e:Int):NJ:=⟨-1,[],e,noT⟩
def nT (r:px):LI0:=jf r.ra r.bm r.rb r.notes r.next
def cH (b:LI0) (s:aq):NJ:=bif decide (s.has<0)then bif (dK b).e !=0 then noA (dK b).e else⟨0,[],0,dE (dK b).d⟩else noA 4
def bG (p:Int) (l:LD0) (s:aq):NJ:=bif p !=(s.aG.length:Int)+1 then noA 4 else bif (aH s.t l).e !=0 then noA (aH s.t l).e else⟨0,nT (aH s.t l),0,(aH s.t l).t⟩
def k9 (s:aq):NJ:=noA 4
theorem Gi {b:LI0} (h:(dK b).e=0):(cD (dK b).d).isSome=true:=by
 unfold dK at h⊢;cases c:(!(b.length%8==0))
 . rw[c]at h;simp only[zal]at h⊢;unfold ddV at h⊢;cases c2:(!(!(dP 0 ((bW b).length:Int) false (bW b)).r.bad&&(dP 0 ((bW b).length:Int) false (bW b)).r.n==0))
   . rw[c2]at h;simp only[zal]at h⊢;cases c3:(cD (dP 0 ((bW b).length:Int) false (bW b)).d).isSome
     . rw[c3]at h;cases h
     . exact c3
   . rw[c2]at h;cases h
 . rw[c]at h;cases h
theorem Hu {T:af} {l:LD0} (h:(aH T l).e=0):T.n.hG=false/\T.n.period<600/\(cP T l).e=0/\aH T l=fc T l:=by
 unfold aH at h⊢;cases ho:T.n.hG
 case true=>rw[ho]at h;cases h
 rw[ho]at h;simp only[zal]at h⊢
 by_cases hp:T.n.period>=600
 . rw[zaa hp]at h;cases h
 rw[zao hp]at h⊢;simp only[zal]at h⊢
 by_cases he:(cP T l).e=0
 . rw[cY he];exact⟨trivial,by omega,he,rfl⟩
 . rw[dk he]at h;exact absurd h he
def N49:aA:=⟨T53.tab,49,⟨[.ptr 0 0 0,.ints .u8],[.cells [.ptr 1 0 0,.np 5 0 0,.buf 4 1,.any],.cells [.ptr 2 0 0,.z0,.bool],.cells [.buf 3 1,.z0,.bool,.z0,.bool],.ints .u8,.ab [.ints .u8]]++aT 5,14⟩,⟨[.np 14 0 0,.z0],[.cells [.ptr 1 0 0,.np 5 0 0,.buf 4 1,.any],.cells [.ptr 2 0 0,.z0,.bool],.cells [.buf 3 1,.z0,.bool,.z0,.bool],.ints .u8,.ab [.ints .u8]]++aT 5++aT 14,14⟩,[]⟩
def t49 (m:Nat):LI0 × aq->OU0:=fun(a0,a1)=>
 bif (!((decide (a1.has<0))&&true))then
 some ([.i (-1),.i 4]++Uns.enc (a1:aq)++Uns.enc ((⟨(⟨0,0,0⟩:av),(⟨0,0,0,0,0,0,0,0,0,0⟩:aw),(⟨0,0,0,0,0,0,0,0,0,false⟩:ao),[],[],[],[],[],[],[]⟩:af):af))
 else
 chk (decide (a0.length<=1000000))<|
 bif ((dK a0).e) !=0 then
 some ([.i (-1),.i ((dK a0).e)]++Uns.enc (a1:aq)++Uns.enc ((⟨(⟨0,0,0⟩:av),(⟨0,0,0,0,0,0,0,0,0,0⟩:aw),(⟨0,0,0,0,0,0,0,0,0,false⟩:ao),[],[],[],[],[],[],[]⟩:af):af))
 else
 chk (decide (((dK a0).d).aC.length<1000000/\((dK a0).d).notes.length<1000000/\((dK a0).d).s0.length<1000000/\((dK a0).d).s1.length<1000000/\((dK a0).d).s2.length<1000000))<|
 some ([.i ((if (cD ((dK a0).d)).isSome then 0 else-1):Int),.i ((if (cD ((dK a0).d)).isSome then 0 else 2):Int)]++Uns.enc (a1:aq)++Uns.enc ((sW ((dK a0).d)):af))
def f49:LI0 × aq->Bool × List Un:=fun(a0,a1)=>(decide (a0.length<=1000000),[.i ((cH a0 a1).j),.i ((cH a0 a1).e)]++Uns.enc ((a1):aq)++Uns.enc (((cH a0 a1).t):af))
theorem VD:ER 49 (mkE N49.en N49.ex f49):=ak ae T53.right (fun m=>[]) (t:=t49) (by kernel_rfl) (fun m=>az) (fun m a=>by kernel_rfl) fun(a0,a1) hc=>by
 dsimp only[f49]at hc⊢;refine⟨0, ?_⟩;unfold t49 cH
 try dsimp only
 by_cases h:a1.has<0
 case neg=>rw[zao h];rfl
 rw[zaa h];refine ck rfl (al hc ?_)
 by_cases he:(dK a0).e=0
 case neg=>rw[dk he,zaw,dk he];rfl
 have hs:=Gi he;have D:=dS hs;have h1:=D.JL;have h2:=D.NV;have h3:=bL D.s0;have h4:=bL D.s1;have h5:=bL D.s2;rw[cY he,zaw,cY he];refine al (zaa ⟨by omega,by omega,by omega,by omega,by omega⟩) ?_
 have hT:sW (dK a0).d=dE (dK a0).d:=by unfold sW;rw[hs];rfl
 rw[hs,hT];rfl
def T49:TB:=T53.ad VD
def N54:aA:=⟨T49.tab,54,⟨[.ptr 0 0 0,.z0,.ab (sB 6)],[.cells [.ptr 1 0 0,.np 5 0 0,.buf 4 1,.any],.cells [.ptr 2 0 0,.z0,.bool],.cells [.buf 3 1,.z0,.bool,.z0,.bool],.ints .u8,.ab [.ints .u8]]++aT 5,14⟩,⟨[.np 14 0 0,.ints .u8,.z0],[.cells [.ptr 1 0 0,.np 5 0 0,.buf 4 1,.any],.cells [.ptr 2 0 0,.z0,.bool],.cells [.buf 3 1,.z0,.bool,.z0,.bool],.ints .u8,.ab [.ints .u8]]++aT 5++aT 14,14⟩,[]⟩
def t54 (m:Nat):Int × LD0 × aq->OU0:=fun(a0,a1,a2)=>
 bif a0 !=(w64 ((a2.aG.length:Int)+1))then
 some ([.i (-1),.l ([]:LI0),.i 4]++Uns.enc (a2:aq)++Uns.enc ((⟨(⟨0,0,0⟩:av),(⟨0,0,0,0,0,0,0,0,0,0⟩:aw),(⟨0,0,0,0,0,0,0,0,0,false⟩:ao),[],[],[],[],[],[],[]⟩:af):af))
 else
 chk (decide (0<=a2.has)&&decide (a2.t.aC.length<1000000/\a2.t.notes.length<1000000/\a2.t.s0.length<1000000/\a2.t.s1.length<1000000/\a2.t.s2.length<1000000/\a2.t.aN.length<1000000/\a2.t.tr.length<1000000))<|
 chk (decide (0<=0)&&kV a2.t)<|
 bd ((aH a2.t a1):px) fun r2=>
 bif r2.e !=0 then
 some ([.i (-1),.l ([]:LI0),.i r2.e]++Uns.enc (a2:aq)++Uns.enc ((⟨(⟨0,0,0⟩:av),(⟨0,0,0,0,0,0,0,0,0,0⟩:aw),(⟨0,0,0,0,0,0,0,0,0,false⟩:ao),[],[],[],[],[],[],[]⟩:af):af))
 else
 chk (decide (r2.bm.length<=1000000)&&decide (r2.notes.length<=1000000))<|
 some ([.i 0,.l (jf r2.ra r2.bm r2.rb r2.notes r2.next),.i 0]++Uns.enc (a2:aq)++Uns.enc (r2.t:af))
def f54:Int × LD0 × aq->Bool × List Un:=fun(a0,a1,a2)=>(decide (0<=a2.has/\a2.aG.length<1000000)&&kV a2.t,[.i ((bG a0 a1 a2).j),.l ((bG a0 a1 a2).txt),.i ((bG a0 a1 a2).e)]++Uns.enc ((a2):aq)++Uns.enc (((bG a0 a1 a2).t):af))
theorem V7:ER 54 (mkE N54.en N54.ex f54):=ak ae T49.right (fun m=>[]) (t:=t54) (by kernel_rfl) (fun m=>az) (fun m a=>by kernel_rfl) fun(a0,a1,a2) hc=>by
 dsimp only[f54]at hc⊢;rw[zae]at hc;obtain⟨h0,h1⟩:=zaj hc.1;have h:=jO.1 hc.2;have hl:=rT h;refine⟨0, ?_⟩;unfold t54 bG
 try dsimp only
 rw[aa (n:=(a2.aG.length:Int)+1) (by omega) (by omega)];cases (a0 !=(a2.aG.length:Int)+1)
 case true=>rfl
 rw[zal,zal];refine al (by rw[zaa h0,zaa hl];rfl) (al hc.2 ?_)
 try dsimp only[bd]
 by_cases he:(aH a2.t a1).e=0
 case neg=>rw[dk he,dk he];rfl
 rw[cY he,cY he];obtain⟨c1,c2,c3,c4⟩:=Hu he;refine al ?_ rfl;rw[c4];have p1:=(J7 h c3).2;have p2:=(Cy h c3).1;have p3:=fF h;rw[zaa (show(fc a2.t a1).bm.length<=1000000 by show(dR a2.t a1).2.2.length<=_;omega),zaa (show(fc a2.t a1).notes.length<=1000000 by show((nD a2.t a1).map JK).length<=_;rw[zaW];omega)];rfl
def T54:TB:=T49.ad V7
def f85:aq->Bool × List Un:=fun _=>(false,[])
def I85:Pn:=⟨[.ptr 0 0 0],[.cells [.ptr 1 0 0,.np 5 0 0,.buf 4 1,.any],.cells [.ptr 2 0 0,.z0,.bool],.cells [.buf 3 1,.z0,.bool,.z0,.bool],.ints .u8,.ab [.ints .u8]]++aT 5,14⟩
def X85:Pn:=⟨[.np 14 0 0,.ints .u8,.z0],[.cells [.ptr 1 0 0,.np 5 0 0,.buf 4 1,.any],.cells [.ptr 2 0 0,.z0,.bool],.cells [.buf 3 1,.z0,.bool,.z0,.bool],.ints .u8,.ab [.ints .u8]]++aT 5++aT 14,14⟩
theorem Tp:ER 85 (mkE I85 X85 f85):=fun us Y hY=>by
 have hY:onU (fun a=>some ((f85 a).1,Ys.now (f85 a).2)) us=some (true,Y):=hY;unfold onU at hY
 split at hY
 . split at hY
   . cases hY
   . cases hY
 . cases hY
def T85:TB:=T54.ad Tp
def A7 (x:LI0) (s:aq):Int:=(ti x s.c s.n s.b).e
def JX (x:LI0) (s:aq):aq:={s with c:=(ti x s.c s.n s.b).c,n:=(ti x s.c s.n s.b).n,b:=(ti x s.c s.n s.b).b}
structure nQ where
 txt:List Int
 e:Int
 d:aq
def Ct (x:LI0) (a:NJ) (aG:LD0) (s:aq):nQ:=
 bif a.e !=0 then⟨[],a.e,s⟩else bif A7 x s !=0 then⟨[],A7 x s,JX x s⟩else⟨a.txt,0,{JX x s with has:=a.j,aG:=aG,t:=a.t}⟩
def o8 (b:LI0) (s:aq):nQ:=Ct (1::b) (cH b s) s.aG s
def mU (p:Int) (s:aq):nQ:=bif decide (p<1)||decide (p>(s.aG.length:Int))then⟨[],4,s⟩else⟨(ai s.aG (p-1).toNat).l 0,0,s⟩
theorem Ob (p:Int) (s:aq):(mU p s).d=s:=by
 unfold mU;cases (decide (p<1)||decide (p>(s.aG.length:Int)))<;>rfl
def dC (b:LI0) (s:aq):nQ:=
 bif decide (s.has<0)then⟨[],4,s⟩
 else bif (aY b).e !=0 then⟨[],(aY b).e,s⟩
 else bif decide ((aY b).p<=(s.aG.length:Int))then mU (aY b).p s
 else Ct (2::b) (bG (aY b).p (aY b).l s) (s.aG++[pk (bG (aY b).p (aY b).l s).txt]) s
def cy (s:aq):Bool:=decide (0<=s.c.count/\s.c.count<1000000/\s.b.length<900000/\s.aG.length<1000000)&&((s.aG.all fun d=>decide ((d.l 0).length<1000000))&&(decide (s.has<0)||kV s.t))
theorem j6 {s:aq}:cy s=true↔(0<=s.c.count/\s.c.count<1000000/\s.b.length<900000/\s.aG.length<1000000)/\(∀d∈s.aG,(d.l 0).length<1000000)/\(s.has<0\/ee s.t):=by
 unfold cy;rw[zae,zae,zag,zam,zbj,zag,jO];simp only[zag]
def mu (b:LI0):Bool:=decide (b.length<=59000)&&cF b
theorem mw {b:LI0}:mu b=true↔b.length<=59000/\∀x∈b,0<=x/\x<256:=by
 unfold mu;rw[zae,zag,ez];exact⟨fun h=>⟨h.1,h.2.2⟩,fun h=>⟨h.1,by omega,h.2⟩⟩
theorem C0 {k:Int} {b:LI0} (hk:0<=k/\k<256) (h:mu b=true):cF (k::b)=true:=by
 obtain⟨h1,h2⟩:=mw.1 h;refine ez.2 ⟨by simp;omega,fun x hx=> ?_⟩;rcases zaN.1 hx with rfl|hx
 . exact hk
 . exact h2 x hx
theorem G5 (r:px):(nT r).length<=6000:=by
 unfold nT;cases h:fA r.ra r.bm r.rb r.notes r.next with
 |true=>exact(DL h).2
 |false=>rw[Jo h];simp
theorem wE (p:Int) (l:LD0) (s:aq):(bG p l s).txt.length<=6000:=by
 unfold bG;cases (p !=(s.aG.length:Int)+1)<;>cases ((aH s.t l).e !=0)<;>first|exact G5 _|exact zbt _
def N50:aA:=⟨T85.tab,50,⟨[.ptr 0 0 0,.int .u8,.ints .u8],[.cells [.ptr 1 0 0,.np 5 0 0,.buf 4 1,.any],.cells [.ptr 2 0 0,.z0,.bool],.cells [.buf 3 1,.z0,.bool,.z0,.bool],.ints .u8,.ab [.ints .u8]]++aT 5,0⟩,⟨[.z0],[.cells [.ptr 1 0 0,.np 16 0 0,.buf 15 1,.any],.cells [.ptr 2 0 0,.z0,.bool],.cells [.buf 14 1,.z0,.bool,.z0,.bool],.gone,.gone,.gone,.gone,.gone,.gone,.gone,.gone,.gone,.gone,.gone,.ints .u8,.ab [.ints .u8]]++aT 16,0⟩,[]⟩
def t50 (m:Nat):Int × LI0 × aq->OU0:=fun(a0,a1,a2)=>
 chk (fits (1+a1.length) 1)<|
 bif decide (a1.length=0)then
 chk (decide (0<=a2.c.count/\a2.c.count<1000000/\([a0]:LI0).length<=60000/\a2.b.length<900000)&&cF ([a0]:LI0))<|
 bd ((ti ([a0]:LI0) a2.c a2.n a2.b):RV) fun r1=>
 some ([.i r1.e]++Uns.enc (({a2 with c:=r1.c,n:=r1.n,b:=r1.b}:aq):aq))
 else
 chk (decide (0<=a2.c.count/\a2.c.count<1000000/\(([a0])++a1).length<=60000/\a2.b.length<900000)&&cF (([a0])++a1))<|
 bd ((ti (([a0])++a1) a2.c a2.n a2.b):RV) fun r2=>
 some ([.i r2.e]++Uns.enc (({a2 with c:=r2.c,n:=r2.n,b:=r2.b}:aq):aq))
def f50:Int × LI0 × aq->Bool × List Un:=fun(a0,a1,a2)=>(decide (0<=a2.c.count/\a2.c.count<1000000/\a1.length<=59000/\a2.b.length<900000)&&cF (a0::a1),[.i (A7 (a0::a1) a2)]++Uns.enc ((JX (a0::a1) a2):aq))
theorem Vm:ER 50 (mkE N50.en N50.ex f50):=ak ae T85.right (fun m=>[]) (t:=t50) (by kernel_rfl) (fun m=>az) (fun m a=>by kernel_rfl) fun(a0,a1,a2) hc=>by
 dsimp only[f50]at hc⊢;rw[zae]at hc;obtain⟨h0,h1,h2,h3⟩:=zaj hc.1;refine⟨0, ?_⟩;unfold t50
 try dsimp only
 rw[bD (by omega) (by omega)]
 by_cases h:a1.length=0
 . have e:=zaB h;subst e;refine cq rfl (al (by rw[hc.2,zaa (show 0<=a2.c.count/\a2.c.count<1000000/\([a0]:LI0).length<=60000/\a2.b.length<900000 from⟨h0,h1,by simp,h3⟩)];rfl) rfl)
 . refine ck (zao h) (al ?_ rfl);rw[show([a0]++a1)=a0::a1 from rfl,hc.2,zaa (show 0<=a2.c.count/\a2.c.count<1000000/\(a0::a1).length<=60000/\a2.b.length<900000 from⟨h0,h1,by simp;omega,h3⟩)];rfl
def T50:TB:=T85.ad Vm
def N14:aA:=⟨T50.tab,14,⟨[.ptr 0 0 0,.ints .u8],[.cells [.ptr 1 0 0,.np 5 0 0,.buf 4 1,.any],.cells [.ptr 2 0 0,.z0,.bool],.cells [.buf 3 1,.z0,.bool,.z0,.bool],.ints .u8,.ab [.ints .u8]]++aT 5,0⟩,⟨[.z0],[.cells [.ptr 1 0 0,.np 16 0 0,.buf 15 1,.any],.cells [.ptr 2 0 0,.z0,.bool],.cells [.buf 14 1,.z0,.bool,.z0,.bool],.gone,.gone,.gone,.gone,.gone,.gone,.gone,.gone,.gone,.gone,.gone,.ints .u8,.ab [.ints .u8]]++aT 16,0⟩,[]⟩
def t14 (m:Nat):LI0 × aq->OU0:=fun(a0,a1)=>
 chk (decide (a0.length<=1000000))<|
 bif (((cH a0 a1).e)==0)then
 chk (decide (0<=a1.c.count/\a1.c.count<1000000/\a0.length<=59000/\a1.b.length<900000)&&cF (1::a0))<|
 lt ((JX (1::a0) a1):aq) fun g2=>
 bif ((A7 (1::a0) a1)==0)then
 some ([.i (A7 (1::a0) a1)]++Uns.enc (({g2 with has:=(cH a0 a1).j,t:=(cH a0 a1).t}:aq):aq))
 else
 some ([.i (A7 (1::a0) a1)]++Uns.enc (g2:aq))
 else
 bif (((cH a0 a1).e)==0)then
 some ([.i ((cH a0 a1).e)]++Uns.enc (({a1 with has:=(cH a0 a1).j,t:=(cH a0 a1).t}:aq):aq))
 else
 some ([.i ((cH a0 a1).e)]++Uns.enc (a1:aq))
def f14:LI0 × aq->Bool × List Un:=fun(a0,a1)=>(mu a0&&cy a1,[.i ((o8 a0 a1).e)]++Uns.enc (((o8 a0 a1).d):aq))
theorem Ln:ER 14 (mkE N14.en N14.ex f14):=ak ae T50.right (fun m=>[]) (t:=t14) (by kernel_rfl) (fun m=>az) (fun m a=>by kernel_rfl) fun(a0,a1) hc=>by
 dsimp only[f14]at hc⊢;rw[zae]at hc;obtain⟨k1,k2⟩:=mw.1 hc.1;obtain⟨⟨d1,d2,d3,d4⟩,_⟩:=j6.1 hc.2;refine⟨0, ?_⟩;unfold t14 o8 Ct
 try dsimp only
 refine al (zaa (by omega)) ?_
 by_cases h:(cH a0 a1).e=0
 case neg=>rw[dL h,dL h,dk h]
 rw[dY h,cY h];refine al (by rw[C0 (by decide) hc.1,zaa (show 0<=a1.c.count/\a1.c.count<1000000/\a0.length<=59000/\a1.b.length<900000 from⟨d1,d2,k1,d3⟩)];rfl) ?_
 try dsimp only[lt]
 by_cases h2:A7 (1::a0) a1=0
 . rw[dY h2,cY h2,h2];rfl
 . rw[dL h2,dk h2]
def T14:TB:=T50.ad Ln
def N27:aA:=⟨T14.tab,27,⟨[.ptr 0 0 0,.z0],[.cells [.ptr 1 0 0,.np 5 0 0,.buf 4 1,.any],.cells [.ptr 2 0 0,.z0,.bool],.cells [.buf 3 1,.z0,.bool,.z0,.bool],.ints .u8,.ab [.ints .u8]]++aT 5,14⟩,⟨[.ints .u8,.z0],[.cells [.ptr 1 0 0,.np 5 0 0,.buf 4 1,.any],.cells [.ptr 2 0 0,.z0,.bool],.cells [.buf 3 1,.z0,.bool,.z0,.bool],.ints .u8,.ab [.ints .u8]]++aT 5,14⟩,[]⟩
def t27 (m:Nat):Int × aq->OU0:=fun(a0,a1)=>
 bif decide (a0<1)then
 some ([.l ([]:LI0),.i 4]++Uns.enc (a1:aq))
 else
 bif (decide (a0>(a1.aG.length:Int)))then
 some ([.l ([]:LI0),.i 4]++Uns.enc (a1:aq))
 else
 chk (inb (w64 (a0-1)) a1.aG.length)<|
 chk (decide ((w64 (a0-1)).toNat<a1.aG.length))<|
 lt (ai a1.aG ((w64 (a0-1)).toNat):Dat) fun d2=>
 chk (decide ((d2.l 0).length<1000000))<|
 some ([.l (d2.l 0),.i 0]++Uns.enc (a1:aq))
def f27:Int × aq->Bool × List Un:=fun(a0,a1)=>(cy a1,[.l ((mU a0 a1).txt),.i ((mU a0 a1).e)]++Uns.enc ((a1):aq))
theorem VM:ER 27 (mkE N27.en N27.ex f27):=ak ae T14.right (fun m=>[]) (t:=t27) (by kernel_rfl) (fun m=>az) (fun m a=>by kernel_rfl) fun(a0,a1) hc=>by
 dsimp only[f27]at hc⊢;obtain⟨⟨d1,d2,d3,d4⟩,d5,_⟩:=j6.1 hc;refine⟨0, ?_⟩;unfold t27 mU
 try dsimp only
 by_cases h1:a0<1
 . rw[aK h1,zaa h1];rfl
 rw[ay h1,zao h1]
 by_cases h2:a0>(a1.aG.length:Int)
 . rw[aK h2,zaa h2];rfl
 rw[ay h2,zao h2,aa (n:=a0-1) (by omega) (by omega),bQ (by omega) (by omega),aJ (by omega)];exact al (zaa (d5 _ (mN (by omega)))) rfl
def T27:TB:=T14.ad VM
def N17:aA:=⟨T27.tab,17,⟨[.ptr 0 0 0,.ints .u8],[.cells [.ptr 1 0 0,.np 5 0 0,.buf 4 1,.any],.cells [.ptr 2 0 0,.z0,.bool],.cells [.buf 3 1,.z0,.bool,.z0,.bool],.ints .u8,.ab [.ints .u8]]++aT 5,0⟩,⟨[.ints .u8,.z0],[.cells [.ptr 1 0 0,.np 16 0 0,.buf 15 1,.any],.cells [.ptr 2 0 0,.z0,.bool],.cells [.buf 14 1,.z0,.bool,.z0,.bool],.gone,.gone,.gone,.gone,.gone,.gone,.gone,.gone,.gone,.gone,.gone,.ints .u8,.ab [.ints .u8]]++aT 16,0⟩,[]⟩
def t17 (m:Nat):LI0 × aq->OU0:=fun(a0,a1)=>
 bif ((decide (a1.has<0))&&true)then
 some ([.l ([]:LI0),.i 4]++Uns.enc (a1:aq))
 else
 chk (decide (a0.length<=1000000))<|
 bif ((aY a0).e) !=0 then
 some ([.l ([]:LI0),.i ((aY a0).e)]++Uns.enc (a1:aq))
 else
 bif (decide (((aY a0).p)<=(a1.aG.length:Int)))then
 chk (cy a1)<|
 some ([.l ((mU ((aY a0).p) a1).txt),.i ((mU ((aY a0).p) a1).e)]++Uns.enc (a1:aq))
 else
 chk (decide (0<=a1.has/\a1.aG.length<1000000)&&kV a1.t)<|
 bif (((bG ((aY a0).p) ((aY a0).l) a1).e)==0)then
 chk (decide (0<=a1.c.count/\a1.c.count<1000000/\a0.length<=59000/\a1.b.length<900000)&&cF (2::a0))<|
 lt ((JX (2::a0) a1):aq) fun g4=>
 bif ((A7 (2::a0) a1) !=0)then
 some ([.l ([]:LI0),.i (A7 (2::a0) a1)]++Uns.enc (g4:aq))
 else
 chk (fits (g4.aG.length+1) 24)<|
 chk (decide (((bG ((aY a0).p) ((aY a0).l) a1).txt).length<1000000))<|
 some ([.l ((bG ((aY a0).p) ((aY a0).l) a1).txt),.i 0]++Uns.enc (({g4 with has:=(bG ((aY a0).p) ((aY a0).l) a1).j,aG:=(g4.aG++([.r [.r (List.map .n ((bG ((aY a0).p) ((aY a0).l) a1).txt))]])),t:=(bG ((aY a0).p) ((aY a0).l) a1).t}:aq):aq))
 else
 bif (((bG ((aY a0).p) ((aY a0).l) a1).e) !=0)then
 some ([.l ([]:LI0),.i ((bG ((aY a0).p) ((aY a0).l) a1).e)]++Uns.enc (a1:aq))
 else
 chk (fits (a1.aG.length+1) 24)<|
 chk (decide (((bG ((aY a0).p) ((aY a0).l) a1).txt).length<1000000))<|
 some ([.l ((bG ((aY a0).p) ((aY a0).l) a1).txt),.i 0]++Uns.enc (({a1 with has:=(bG ((aY a0).p) ((aY a0).l) a1).j,aG:=(a1.aG++([.r [.r (List.map .n ((bG ((aY a0).p) ((aY a0).l) a1).txt))]])),t:=(bG ((aY a0).p) ((aY a0).l) a1).t}:aq):aq))
def f17:LI0 × aq->Bool × List Un:=fun(a0,a1)=>(mu a0&&cy a1,[.l ((dC a0 a1).txt),.i ((dC a0 a1).e)]++Uns.enc (((dC a0 a1).d):aq))
theorem LY:ER 17 (mkE N17.en N17.ex f17):=ak ae T27.right (fun m=>[]) (t:=t17) (by kernel_rfl) (fun m=>az) (fun m a=>by kernel_rfl) fun(a0,a1) hc=>by
 dsimp only[f17]at hc⊢;rw[zae]at hc;obtain⟨k1,k2⟩:=mw.1 hc.1;obtain⟨⟨d1,d2,d3,d4⟩,d5,d6⟩:=j6.1 hc.2;refine⟨0, ?_⟩;unfold t17 dC
 try dsimp only
 by_cases h0:a1.has<0
 . rw[zaa h0];rfl
 rw[zao h0];refine ck rfl (al (zaa (by omega)) ?_);rw[zal]
 by_cases h1:(aY a0).e=0
 case neg=>rw[dk h1,dk h1]
 rw[cY h1,cY h1]
 by_cases h2:(aY a0).p<=(a1.aG.length:Int)
 . rw[aK h2,aK h2];exact al hc.2 (by rw[Ob])
 rw[ay h2,ay h2];have hT:kV a1.t=true:=by
  rcases d6 with h|h
  . exact absurd h h0
  . exact jO.2 h
 refine al (by rw[hT,zaa (show 0<=a1.has/\a1.aG.length<1000000 by omega)];rfl) ?_
 unfold Ct
 try dsimp only[lt]
 have hl:=wE (aY a0).p (aY a0).l a1
 by_cases h3:(bG (aY a0).p (aY a0).l a1).e=0
 case neg=>rw[dL h3,dk h3,dk h3]
 rw[dY h3,cY h3];refine al (by rw[C0 (by decide) hc.1,zaa (show 0<=a1.c.count/\a1.c.count<1000000/\a0.length<=59000/\a1.b.length<900000 from⟨d1,d2,k1,d3⟩)];rfl) ?_
 by_cases h4:A7 (2::a0) a1=0
 . rw[cY h4,cY h4];rw[show(JX (2::a0) a1).aG=a1.aG from rfl];refine(bD (by omega) (by omega)).trans (al (zaa (by omega)) rfl)
 . rw[dk h4,dk h4]
def T17:TB:=T27.ad LY
def iO (s:aq):LI0:=bif decide (s.has<0)then[]else gW s.t.n s.t.aN s.t.tr
def N29:aA:=⟨T17.tab,29,⟨[.ptr 0 0 0],[.cells [.ptr 1 0 0,.np 5 0 0,.buf 4 1,.any],.cells [.ptr 2 0 0,.z0,.bool],.cells [.buf 3 1,.z0,.bool,.z0,.bool],.ints .u8,.ab [.ints .u8]]++aT 5,14⟩,⟨[.buf 14 1],[.cells [.ptr 1 0 0,.np 5 0 0,.buf 4 1,.any],.cells [.ptr 2 0 0,.z0,.bool],.cells [.buf 3 1,.z0,.bool,.z0,.bool],.ints .u8,.ab [.ints .u8]]++aT 5++[.ints .i64],14⟩,[]⟩
def t29 (m:Nat):aq->OU0:=fun a0=>
 bif ((decide (a0.has<0))&&true)then
 some (Uns.enc (a0:aq)++[.l ([])])
 else
 chk (decide (0<=a0.has)&&decide (a0.t.aN.length<1000000/\a0.t.tr.length<1000000))<|
 some (Uns.enc (a0:aq)++[.l (gW a0.t.n a0.t.aN a0.t.tr)])
def f29:aq->Bool × List Un:=fun a0=>(cy a0,Uns.enc ((a0):aq)++[.l ((iO a0))])
theorem Ld:ER 29 (mkE N29.en N29.ex f29):=ak ae T17.right (fun m=>[]) (t:=t29) (by kernel_rfl) (fun m=>az) (fun m a=>by kernel_rfl) fun a0 hc=>by
 dsimp only[f29]at hc⊢;obtain⟨_,_,d6⟩:=j6.1 hc;refine⟨0, ?_⟩;unfold t29 iO
 try dsimp only
 by_cases h0:a0.has<0
 . rw[zaa h0];rfl
 have h:ee a0.t:=d6.resolve_left h0;have hl:=rT h;rw[zao h0];exact ck rfl (al (by rw[zaa (show 0<=a0.has by omega),zaa (show a0.t.aN.length<1000000/\a0.t.tr.length<1000000 by omega)];rfl) rfl)
def T29:TB:=T17.ad Ld
structure AgR where
 ok:Bool
 d:aq
def cN (b:LI0) (s:aq):AgR:=
 bif (b.length:Int)==0 then⟨false,s⟩
 else bif b.getD 0 0==1 then⟨(cH (b.drop 1) s).e==0,{s with has:=(cH (b.drop 1) s).j,t:=(cH (b.drop 1) s).t}⟩
 else bif b.getD 0 0==2&& !decide (s.has<0)then
  bif (aY (b.drop 1)).e !=0 then⟨false,s⟩
  else⟨(bG (aY (b.drop 1)).p (aY (b.drop 1)).l s).e==0,{s with has:=(bG (aY (b.drop 1)).p (aY (b.drop 1)).l s).j,aG:=s.aG++[pk (bG (aY (b.drop 1)).p (aY (b.drop 1)).l s).txt],t:=(bG (aY (b.drop 1)).p (aY (b.drop 1)).l s).t}⟩
 else bif b.getD 0 0==3&&((b.drop 1).length:Int)==0 then⟨(k9 s).e==0,{s with has:=(k9 s).j,t:=(k9 s).t}⟩
 else⟨false,s⟩
def N48:aA:=⟨T29.tab,48,⟨[.ptr 0 0 0,.ints .u8],[.cells [.ptr 1 0 0,.np 5 0 0,.buf 4 1,.any],.cells [.ptr 2 0 0,.z0,.bool],.cells [.buf 3 1,.z0,.bool,.z0,.bool],.ints .u8,.ab [.ints .u8]]++aT 5,0⟩,⟨[.bool],[.cells [.ptr 1 0 0,.np 16 0 0,.buf 15 1,.any],.cells [.ptr 2 0 0,.z0,.bool],.cells [.buf 14 1,.z0,.bool,.z0,.bool],.gone,.gone,.gone,.gone,.gone,.gone,.gone,.gone,.gone,.gone,.gone,.ints .u8,.ab [.ints .u8]]++aT 16,0⟩,[]⟩
def t48 (m:Nat):LI0 × aq->OU0:=fun(a0,a1)=>
 bif (a0.length:Int)==0 then
 some ([.b false]++Uns.enc (a1:aq))
 else
 chk (inb 0 a0.length)<|
 chk (decide (0<a0.length))<|
 chk (true&&(true&&decide (1<=a0.length/\a0.length<=a0.length)))<|
 lt ((List.take (a0.length-1) (List.drop 1 a0)):LI0) fun l1=>
 bif (a0.getD 0 0)==1 then
 chk (decide (l1.length<=1000000))<|
 some ([.b (((cH l1 a1).e)==0)]++Uns.enc (({a1 with has:=(cH l1 a1).j,t:=(cH l1 a1).t}:aq):aq))
 else
 bif (a0.getD 0 0)==2 then
 bif (!((decide (a1.has<0))&&true))then
 chk (decide (l1.length<=1000000))<|
 bif ((aY l1).e) !=0 then
 some ([.b false]++Uns.enc (a1:aq))
 else
 chk (decide (0<=a1.has/\a1.aG.length<1000000)&&kV a1.t)<|
 chk (fits (a1.aG.length+1) 24)<|
 some ([.b (((bG ((aY l1).p) ((aY l1).l) a1).e)==0)]++Uns.enc (({a1 with has:=(bG ((aY l1).p) ((aY l1).l) a1).j,aG:=(a1.aG++([.r [.r (List.map .n ((bG ((aY l1).p) ((aY l1).l) a1).txt))]])),t:=(bG ((aY l1).p) ((aY l1).l) a1).t}:aq):aq))
 else
 bif (a0.getD 0 0)==3 then
 bif (l1.length:Int)==0 then
 none
 else
 some ([.b false]++Uns.enc (a1:aq))
 else
 some ([.b false]++Uns.enc (a1:aq))
 else
 bif (a0.getD 0 0)==3 then
 bif (l1.length:Int)==0 then
 none
 else
 some ([.b false]++Uns.enc (a1:aq))
 else
 some ([.b false]++Uns.enc (a1:aq))
def f48:LI0 × aq->Bool × List Un:=fun(a0,a1)=>(decide (a0.length<=1000000)&&cy a1&& !(a0.getD 0 0==3),[.b ((cN a0 a1).ok)]++Uns.enc (((cN a0 a1).d):aq))
theorem VK:ER 48 (mkE N48.en N48.ex f48):=ak ae T29.right (fun m=>[]) (t:=t48) (by kernel_rfl) (fun m=>az) (fun m a=>by kernel_rfl) fun(a0,a1) hc=>by
 dsimp only[f48]at hc⊢;rw[zae]at hc;obtain⟨hc,hn3⟩:=hc;rw[zae]at hc;have hl:=zaj hc.1;obtain⟨⟨d1,d2,d3,d4⟩,d5,d6⟩:=j6.1 hc.2;have hE:(decide (a1.has<0)||kV a1.t)=true:=by rw[zbj,zag,jO];exact d6
 refine⟨0, ?_⟩;unfold t48 cN
 try dsimp only
 by_cases h:(a0.length:Int)=0
 . rw[dY h,dY h]
 rw[dL h,dL h];refine(bQ (by omega) (by omega)).trans (al (zaa (by omega)) (al (by rw[zaa (show 1<=a0.length/\a0.length<=a0.length by omega)];rfl) ?_))
 try dsimp only[lt]
 rw[zbq (show(List.drop 1 a0).length<=a0.length-1 by rw[zbd];omega)];have hr:(List.drop 1 a0).length<=1000000:=by rw[zbd];omega
 generalize List.drop 1 a0=r at*
 generalize a0.getD 0 0=k at*
 by_cases k1:k=1
 . rw[dY k1,dY k1];exact al (zaa hr) rfl
 rw[dL k1,dL k1];have Ta:∀(Z:OU0),(bif k==3 then Z else some ([Un.b false]++Uns.enc a1))=some ([Un.b (bif k==3&&(r.length:Int)==0 then(⟨(k9 a1).e==0,{a1 with has:=(k9 a1).j,t:=(k9 a1).t}⟩:AgR)else⟨false,a1⟩).ok]++Uns.enc (bif k==3&&(r.length:Int)==0 then(⟨(k9 a1).e==0,{a1 with has:=(k9 a1).j,t:=(k9 a1).t}⟩:AgR)else⟨false,a1⟩).d):=fun _=>by
  cases hk:(k==3)with
  |false=>rfl
  |true=>rw[hk]at hn3;cases hn3
 by_cases k2:k=2
 . rw[dY k2]
   by_cases h0:a1.has<0
   . rw[zaa h0,jG k2]
     try rw[zaa h0]at Ta
     exact Ta _
   . rw[zao h0,jG k2];refine cq rfl (al (zaa hr) ?_);rw[show(true&& !false)=true from rfl,zaw]
     by_cases he:(aY r).e=0
     case neg=>rw[dk he,dk he]
     rw[cY he,cY he];have h:ee a1.t:=d6.resolve_left h0;refine al (by rw[jO.2 h,zaa (show 0<=a1.has/\a1.aG.length<1000000 by omega)];rfl) ((bD (by omega) (by omega)).trans rfl)
 . rw[dL k2,lB k2,zbN,zal];exact Ta _
def T48:TB:=T29.ad VK
theorem y7 (l:LI0):(pk l).l 0=l:=by
 show(l.map Dat.n).map Dat.int=l;rw[List.map_map];exact(List.map_congr_left fun x _=>rfl).trans (List.map_id l)
def kC:LD0->aq->AgR
 |[],s=>⟨true,s⟩
 |d::l,s=>bif !(cN (d.l 0) s).ok then⟨false,(cN (d.l 0) s).d⟩else kC l (cN (d.l 0) s).d
theorem FC (b:LI0) (s:aq):(cN b s).d.n=s.n/\(cN b s).d.b=s.b/\(cN b s).d.c=s.c:=by
 unfold cN;cases ((b.length:Int)==0)<;>cases (b.getD 0 0==1)<;>cases (b.getD 0 0==2&& !decide (s.has<0))<;>cases (b.getD 0 0==3&&((b.drop 1).length:Int)==0)<;>cases ((aY (b.drop 1)).e !=0)<;>exact⟨rfl,rfl,rfl⟩
theorem M6 (b:LI0) (s:aq):(cH b s).j<0\/ee (cH b s).t:=by
 unfold cH;cases decide (s.has<0)
 case false=>exact .inl (by show(-1:Int)<0;decide)
 by_cases h:(dK b).e=0
 . rw[zaw,cY h];exact .inr (Oy (Gi h))
 . rw[zaw,dk h];exact .inl (by show(-1:Int)<0;decide)
theorem N4 {p:Int} {l:LD0} {s:aq} (h:ee s.t):(bG p l s).j<0\/ee (bG p l s).t:=by
 unfold bG;cases (p !=(s.aG.length:Int)+1)
 case true=>exact .inl (by show(-1:Int)<0;decide)
 by_cases he:(aH s.t l).e=0
 . rw[zal,cY he];obtain⟨c1,c2,c3,c4⟩:=Hu he;rw[c4];exact .inr (Ah h c2 c3)
 . rw[zal,dk he];exact .inl (by show(-1:Int)<0;decide)
theorem Qq {s:aq} (h:s.has<0\/ee s.t):(k9 s).j<0\/ee (k9 s).t:=by
 unfold k9;exact .inl (by show(-1:Int)<0;decide)
structure C3 (s : aq) : Prop where
 aG:∀d∈s.aG,(d.l 0).length<=6000
 ph:s.has<0\/ee s.t
theorem C3.okD {s:aq} (h:C3 s) (h1:0<=s.c.count/\s.c.count<1000000) (h2:s.b.length<900000) (h3:s.aG.length<1000000):cy s=true:=
 j6.2 ⟨⟨h1.1,h1.2,h2,h3⟩,fun d hd=>by have:=h.aG d hd;omega,h.ph⟩
theorem ME {s:aq} (b:LI0) (h:C3 s):C3 (cN b s).d/\(cN b s).d.aG.length<=s.aG.length+1:=by
 unfold cN;cases ((b.length:Int)==0)
 case true=>exact⟨h,zbV _⟩
 cases (b.getD 0 0==1)
 case true=>exact⟨⟨h.aG,M6 _ _⟩,zbV _⟩
 cases c2:(b.getD 0 0==2&& !decide (s.has<0))
 case true=>
  cases ((aY (b.drop 1)).e !=0)
  case true=>exact⟨h,zbV _⟩
  have h0:¬s.has<0:=fun hn=>by rw[zaa hn,zbr,Bool.and_false]at c2;cases c2
  refine⟨⟨fun d hd=> ?_,N4 (h.ph.resolve_left h0)⟩,by show(s.aG++[_]).length<=_;simp⟩;rcases za0.1 (show d∈s.aG++[_] from hd)with hd|hd
  . exact h.aG d hd
  . rw[zbg.1 hd];have:=wE (aY (b.drop 1)).p (aY (b.drop 1)).l s;rw[y7];exact this
 cases (b.getD 0 0==3&&((b.drop 1).length:Int)==0)
 case true=>exact⟨⟨h.aG,Qq h.ph⟩,zbV _⟩
 exact⟨h,zbV _⟩
theorem NA (b:LI0) (a:Int):(dT b a).text.length<=b.length:=by
 unfold dT lD;cases (decide (a<0)||decide (a>(b.length:Int)))
 case true=>exact zbt _
 rw[zal];generalize hr:b.drop a.toNat=r;have hl:r.length<=b.length:=by rw[<-hr,zbd];omega
 cases decide ((r.length:Int)<8)
 case true=>exact zbt _
 cases (cK (r.take 6) !=dv ((r.drop 6).take 2))
 case true=>exact zbt _
 cases decide (dv (r.take 2)>60000)
 case true=>exact zbt _
 cases decide ((r.length:Int)-8<dv (r.take 2)+2)
 case true=>exact zbt _
 cases (cK ((r.drop 8).take (dv (r.take 2)).toNat) !=dv ((r.drop (8+(dv (r.take 2)).toNat)).take 2))
 case true=>exact zbt _
 show((r.drop 8).take (dv (r.take 2)).toNat).length<=_;rw[zav,zbd];omega
theorem CF {b:LI0} (hb:∀x∈b,0<=x/\x<256):∀(k:Nat) (a:Int) (acc:LD0),0<=a->a<=(b.length:Int)->(acc.length:Int)<=a->(∀d∈acc,(d.l 0).length<=b.length)->(jz k b a acc).l.length<=b.length/\∀d∈(jz k b a acc).l,(d.l 0).length<=b.length
 |0,a,acc,h0,h1,h2,h3=>⟨by show acc.length<=_;omega,h3⟩
 |k+1,a,acc,h0,h1,h2,h3=>by
  have hN:([]:LD0).length<=b.length/\∀d∈([]:LD0),(d.l 0).length<=b.length:=⟨zbt _,fun d hd=>absurd hd (by simp)⟩
  simp only[jz]
  by_cases c:a<(b.length:Int)
  . rw[zaa c,zaw]
    by_cases k1:(dT b a).how=1
    . rw[jG k1];exact⟨by show acc.length<=_;omega,h3⟩
    rw[lB k1,zal]
    by_cases k2:(dT b a).how=2
    . rw[jG k2,zaw];exact hN
    rw[lB k2,zal];cases ((dT b a).seq !=(acc.length:Int)+1)
    . rw[zal];obtain⟨n1,n2⟩:=rS hb h0 h1 k1 k2;refine CF hb k _ _ (by omega) n2 (by simp;omega) fun d hd=> ?_
      rcases za0.1 hd with hd|hd
      . exact h3 d hd
      . rw[zbg.1 hd,y7];exact NA b a
    . exact hN
  . rw[zao c];exact⟨by show acc.length<=_;omega,h3⟩
theorem Ni {b:LI0} (hb:∀x∈b,0<=x/\x<256):(cG b).l.length<=b.length/\∀d∈(cG b).l,(d.l 0).length<=b.length:=
 CF hb _ 0 [] (by omega) (by omega) (by simp) fun d hd=>absurd hd (by simp)
def dn (b:LI0):Bool:=(cG b).l.all fun d=> !((d.l 0).getD 0 0==3)
structure qX where
 j:Int
 e:Int
 n:bc
 b:List Int
 o:gU
def noO:gU:=⟨-1,⟨0,false⟩,[],noT⟩
def F1 (s:aq):gU:=⟨s.has,s.c,s.aG,s.t⟩
def Wj (r:AgR) (n:bc) (b:LI0):qX:=bif r.ok then⟨0,0,n,b,F1 r.d⟩else⟨-1,8,n,b,noO⟩
def NT (c:eZ) (n:bc) (b:LI0):aq:=⟨-1,c,n,b,[],noT⟩
def gn (m:bc) (b:LI0):qX:=
 bif (ta m b).e !=0 then⟨-1,(ta m b).e,(ta m b).n,(ta m b).b,noO⟩else Wj (kC (ta m b).l (NT (ta m b).c (ta m b).n (ta m b).b)) (ta m b).n (ta m b).b
def N13:aA:=⟨T48.tab,13,⟨[.ptr 0 0 0],[.cells [.buf 1 1,.z0,.bool,.z0,.bool],.ints .u8],0⟩,⟨[.np 3 0 0,.z0],[.cells [.buf 2 1,.z0,.bool,.z0,.bool],.gone,.ints .u8,.cells [.ptr 4 0 0,.np 6 0 0,.buf 5 1,.any],.cells [.ptr 0 0 0,.z0,.bool],.ab [.ints .u8]]++aT 6,0⟩,[]⟩
abbrev LP:Type:=LD0 × Int × Int × bc × gU × LI0
def DC (m:Nat) (k:LP->OU0):LP->OU0:=fun(a0,a1,a2,a3,a4,a5)=>
 bif decide (a2<a1)then
 chk (inb a2 a0.length)<|
 chk (decide (a2.toNat<a0.length))<|
 lt (ai a0 a2.toNat:Dat) fun d6=>
 chk (decide ((d6.l 0).length<=1000000)&&cy (⟨a4.has,a4.c,a3,a5,a4.aG,a4.t⟩:aq)&& !((d6.l 0).getD 0 0==3))<|
 lt (((cN (d6.l 0) (⟨a4.has,a4.c,a3,a5,a4.aG,a4.t⟩:aq)).d):aq) fun g8=>
 bif !((cN (d6.l 0) (⟨a4.has,a4.c,a3,a5,a4.aG,a4.t⟩:aq)).ok)then
 some ([.i (-1),.i 8]++Uns.enc (g8.n:bc)++[.l g8.b]++Uns.enc ((⟨(-1),(⟨0,false⟩:eZ),[],(⟨(⟨0,0,0⟩:av),(⟨0,0,0,0,0,0,0,0,0,0⟩:aw),(⟨0,0,0,0,0,0,0,0,0,false⟩:ao),[],[],[],[],[],[],[]⟩:af)⟩:gU):gU))
 else
 k (a0,a1,(w64 (a2+1)),g8.n,(⟨g8.has,g8.c,g8.aG,g8.t⟩:gU),g8.b)
 else
 some ([.i 0,.i 0]++Uns.enc (a3:bc)++[.l a5]++Uns.enc (a4:gU))
def wF (m:Nat):Nat->LP->OU0:=aX (DC m)
theorem AO (m:Nat) (n:Nat):wF m (n+1)=DC m (wF m n):=rfl
def Pv (F:LP->OU0):aQ:=⟨[.lp [0,1,0,1,1,1,1],.blk 0,.code [1,1,1,1,1]],⟨frm 34 [(7,.ptr 2 0 0),(22,.ab [.ints .u8]),(23,.z0),(24,.z0)],[.cells [.buf 14 1,.z0,.bool,.z0,.bool],.gone,.cells [.ptr 3 0 0,.np 5 0 0,.buf 4 1,.any],.cells [.ptr 0 0 0,.z0,.bool],.ab [.ints .u8]]++aT 5++[.ints .u8],0⟩,onU F⟩
theorem acP (m:Nat):∀n,HO N13 (Pv (wF m n)):=an ae T48.right (fun k=>[Pv k]) (fun k h=>(aI h az)) fun k a=>by kernel_rfl
def t13 (m:Nat):bc × LI0->OU0:=fun(a0,a1)=>
 bif a0.off then
 some ([.i (-1),.i 7]++Uns.enc (a0:bc)++[.l a1]++Uns.enc ((⟨(-1),(⟨0,false⟩:eZ),[],(⟨(⟨0,0,0⟩:av),(⟨0,0,0,0,0,0,0,0,0,0⟩:aw),(⟨0,0,0,0,0,0,0,0,0,false⟩:ao),[],[],[],[],[],[],[]⟩:af)⟩:gU):gU))
 else
 chk (decide (a1.length<1000000))<|
 lt ((bif a0.off then[]else a1):LI0) fun l1=>
 chk (cF l1)<|
 bif !((cG l1).ok)then
 some ([.i (-1),.i 8]++Uns.enc (a0:bc)++[.l a1]++Uns.enc ((⟨(-1),(⟨0,false⟩:eZ),[],(⟨(⟨0,0,0⟩:av),(⟨0,0,0,0,0,0,0,0,0,0⟩:aw),(⟨0,0,0,0,0,0,0,0,0,false⟩:ao),[],[],[],[],[],[],[]⟩:af)⟩:gU):gU))
 else
 bif (decide (((cG l1).pos)<(l1.length:Int)))then
 chk (decide (0<=((cG l1).pos)/\((cG l1).pos)<=(a1.length:Int)/\a1.length<1000000))<|
 lt ((bif (bz a0).1 then 0 else 7:Int):Int) fun x3=>
 lt ((bif (bz a0).1 then {(bz a0).2 with lI:=((cG l1).pos)}else(bz a0).2):bc) fun g4=>
 lt ((bif (bz a0).1 then a1.take ((cG l1).pos).toNat else a1):LI0) fun l5=>
 bif x3 !=0 then
 bif x3 !=0 then
 some ([.i (-1),.i x3]++Uns.enc (g4:bc)++[.l l5]++Uns.enc ((⟨(-1),(⟨0,false⟩:eZ),[],(⟨(⟨0,0,0⟩:av),(⟨0,0,0,0,0,0,0,0,0,0⟩:aw),(⟨0,0,0,0,0,0,0,0,0,false⟩:ao),[],[],[],[],[],[],[]⟩:af)⟩:gU):gU))
 else
 none
 else
 wF m m ((cG l1).l,(((cG l1).l).length:Int),0,g4,(⟨(-1),(⟨(((cG l1).l).length:Int),false⟩:eZ),[],(⟨(⟨0,0,0⟩:av),(⟨0,0,0,0,0,0,0,0,0,0⟩:aw),(⟨0,0,0,0,0,0,0,0,0,false⟩:ao),[],[],[],[],[],[],[]⟩:af)⟩:gU),l5)
 else
 wF m m ((cG l1).l,(((cG l1).l).length:Int),0,a0,(⟨(-1),(⟨(((cG l1).l).length:Int),false⟩:eZ),[],(⟨(⟨0,0,0⟩:av),(⟨0,0,0,0,0,0,0,0,0,0⟩:aw),(⟨0,0,0,0,0,0,0,0,0,false⟩:ao),[],[],[],[],[],[],[]⟩:af)⟩:gU),a1)
def adb (r:qX):List Un:=[.i r.j,.i r.e]++Uns.enc r.n++[.l r.b]++Uns.enc r.o
theorem Zm (m:Nat):∀(rest pre:LD0) (n:Nat) (s:aq),rest.length<n->C3 s->(0<=s.c.count/\s.c.count<1000000)->s.b.length<900000->s.aG.length<=pre.length->(pre++rest).length<1000000->(∀d∈rest,(d.l 0).length<=1000000/\(!((d.l 0).getD 0 0==3))=true)->
 wF m n (pre++rest,((pre++rest).length:Int),(pre.length:Int),s.n,({has:=s.has,c:=s.c,aG:=s.aG,t:=s.t}:gU),s.b)=some (adb (Wj (kC rest s) s.n s.b)):=by
 intro rest
 induction rest with
 |nil=>
  intro pre n s hn hI hc hb hr hl hx;obtain⟨n,rfl⟩:=ah n (by simp at hn;omega);rw[AO];unfold DC;dsimp only;rw[ay (by simp)];rfl
 |cons d rest ih=>
  intro pre n s hn hI hc hb hr hl hx;obtain⟨n,rfl⟩:=ah n (by simp at hn;omega);have hl2:pre.length+rest.length+1<1000000:=by simp only[zab,zac]at hl;omega
  rw[AO];unfold DC;dsimp only;rw[aK (by simp only[zab,zac];omega),bQ (by omega) (by simp only[zab,zac];omega),aJ (by simp)];have hg:ai (pre++d::rest) (pre.length:Int).toNat=d:=by rw[zat];exact ax _ _ _
  rw[hg];have hs:({has:=s.has,c:=s.c,n:=s.n,b:=s.b,aG:=s.aG,t:=s.t}:aq)=s:=rfl;refine al (by rw[zaa (hx d (by simp)).1,(hx d (by simp)).2,zbf,zbb];exact hI.okD hc hb (by omega)) ?_
  dsimp only[lt];obtain⟨k1,k2,k3⟩:=FC (d.l 0) s;obtain⟨i1,i2⟩:=ME (d.l 0) hI;simp only[kC];cases (cN (d.l 0) s).ok
  case false=>rw[show(!false)=true from rfl,zaw,zaw,k1,k2];rfl
  rw[show(!true)=false from rfl,zal,zal];have e:w64 ((pre.length:Int)+1)=((pre++[d]).length:Int):=by
   rw[aa (by omega) (by omega)];simp
  have:=ih (pre++[d]) n (cN (d.l 0) s).d (by simp at hn;omega) i1 (by rw[k3];exact hc) (by rw[k2];exact hb) (by rw[zab,List.length_singleton];omega) (by simpa using hl) (fun x hx'=>hx x (zay _ hx'));rw[e,show pre++d::rest=(pre++[d])++rest by simp,this,k1,k2]
def f13:bc × LI0->Bool × List Un:=fun(a0,a1)=>(decide (a1.length<900000)&&cF a1&&dn a1,[.i ((gn a0 a1).j),.i ((gn a0 a1).e)]++Uns.enc (((gn a0 a1).n):bc)++[.l ((gn a0 a1).b)]++Uns.enc (((gn a0 a1).o):gU))
theorem Lp:ER 13 (mkE N13.en N13.ex f13):=ak ae T48.right (fun m=>[Pv (wF m m)]) (t:=t13) (by kernel_rfl) (fun m=>(aI (acP m m) az)) (fun m a=>by kernel_rfl) fun(a0,a1) hc=>by
 dsimp only[f13]at hc⊢;rw[zae]at hc;obtain⟨hc,hn3⟩:=hc;rw[zae]at hc;obtain⟨hl0,hB⟩:=hc;have hl:=zaj hl0;obtain⟨_,hb⟩:=ez.1 hB;have ha:=Ow hb;obtain⟨r1,r2⟩:=Ni hb;refine⟨900010, ?_⟩;unfold t13 gn ta
 try dsimp only
 cases ho:a0.off
 case true=>rfl
 dsimp only[lt,cond_false];refine al (zaa (by omega)) (al hB ?_);cases (cG a1).ok
 case false=>rfl
 have D:∀(n:bc) (b:LI0),b.length<900000->wF 900010 900010 ((cG a1).l,((cG a1).l.length:Int),0,n,({has:= -1,c:={count:=((cG a1).l.length:Int),bad:=false},aG:=[],t:=noT}:gU),b)=some (adb (Wj (kC (cG a1).l (NT {count:=((cG a1).l.length:Int),bad:=false} n b)) n b)):=fun n b h=>
  Zm 900010 (cG a1).l [] 900010 (NT {count:=((cG a1).l.length:Int),bad:=false} n b) (by omega) {aG:=fun d hd=>absurd (show d∈([]:LD0) from hd) (by simp),ph:= .inl (by show(-1:Int)<0;decide)} ⟨by show 0<=((cG a1).l.length:Int);omega,by show((cG a1).l.length:Int)<1000000;omega⟩ h (zap _) (by rw[zas];omega) fun d hd=>⟨by have:=r2 d hd;omega,zam.1 hn3 d hd⟩
 by_cases h:(cG a1).pos<(a1.length:Int)
 . rw[zaa h];dsimp only[Bool.not_true,cond_false,cond_true];refine al (zaa ⟨ha.1,ha.2,by omega⟩) ?_
   cases (bz a0).1
   . rfl
   . exact D _ _ (by show(a1.take _).length<900000;rw[zav];omega)
 . rw[zao h];exact D _ _ hl
def T13:TB:=T48.ad Lp
theorem VU {A:Type} [Uns A] {P:Program} {L:List FuncId} {O:bp} {g:FuncId} {j col:Nat} {vs:List VP} {bs:List BP} {lk:Nat} {en en' ex:Pn} {f:A->Bool × List Un} {f':Int × A->Bool × List Un}
 (e1:en=⟨.ptr j 0 col::vs,bs,lk⟩) (e2:en'=⟨.np j 0 col::vs,bs,lk⟩) (h:eA P L O g (mkE en ex f)) (e:∀n a,f' (n,a)=(decide (0<=n)&&(f a).1,(f a).2)):eA P L O g (mkE en' ex f'):=by
 subst e1 e2;intro us Y hY;have hY:onU (fun p=>some ((f' p).1,Ys.now (f' p).2)) us=some (true,Y):=hY;unfold onU at hY
 split at hY
 case h_2=>cases hY
 rename_i p r hd;obtain⟨n,a⟩:=p
 split at hY
 case h_2=>cases hY
 have hY:some ((f' (n,a)).1,Ys.now (f' (n,a)).2)=some (true,Y):=hY;rw[e n a]at hY;simp only[zak,zaT,zae,zag]at hY;obtain⟨⟨h0,h1⟩,rfl⟩:=hY;unfold Uns.dec instUnsProd at hd;dsimp only at hd
 split at hd
 case h_2=>cases hd
 rename_i n' r1 hn
 split at hd
 case h_2=>cases hd
 rename_i a' r2 ha;cases hd;have hu:us= .i n::r1:=Uns.ok _ _ _ hn;subst hu;have t:=h r1 (.now (f a).2) (by
  show onU (fun a=>some ((f a).1,Ys.now (f a).2)) r1=_;unfold onU;rw[ha];simp only[h1])
 intro φ H ws hnb hS hD;have hz:(⟨.np j 0 col::vs,bs,lk⟩:Pn).bx (.i n::r1)=(⟨.ptr j 0 col::vs,bs,lk⟩:Pn).bx r1:=by
  show({gB (dz bs ((Un.i n::r1).drop (1+VP.lZ vs)))with lock:=lk}:aj)={gB (dz bs (r1.drop (0+VP.lZ vs)))with lock:=lk}
  rw[Nat.add_comm 1,List.drop_succ_cons,zaF]
 have hS':Sim φ ((⟨.ptr j 0 col::vs,bs,lk⟩:Pn).bx r1) H:=hz▸hS;have hB':NB φ ((⟨.ptr j 0 col::vs,bs,lk⟩:Pn).bx r1) H:=hz▸hnb;obtain⟨v,vs',rfl,k1,k2⟩:=DVL.gv (show DVL φ H (Ev.Own φ ((⟨.np j 0 col::vs,bs,lk⟩:Pn).bx (.i n::r1))) (.np j 0 col n::VP.tos vs r1) ws from hD);rw[hz]at k1 k2;have k1':DV φ H (Ev.Own φ ((⟨.ptr j 0 col::vs,bs,lk⟩:Pn).bx r1)) (.ptr j 0 0 col) v:=by
  cases k1 with
  |kE _ _ _ _ hn=>omega
  |np _ _ _ x _ _ hx=>
   have:n.toNat*0+col=0*0+col:=by omega
   rw[this];exact .ptr _ _ _ _ _ hx
 obtain⟨N,y,H',φ',c1,c2,c3⟩:=t φ H (v::vs') hB' hS' (.cons k1' k2);refine⟨N,y,H',φ',c1, ?_,c3⟩;show lA (bw ⟨.np j 0 col::vs,bs,lk⟩ ex) φ ((⟨.np j 0 col::vs,bs,lk⟩:Pn).bx (.i n::r1)) H φ' _ H';rw[hz];exact c2
def aeH:qX->List Un:=fun r=>[.i r.j,.i r.e]++Uns.enc (r.n:bc)++[.l r.b]++Uns.enc (r.o:gU)
def aeZ:bc × LI0->Bool × qX:=fun(a0,a1)=>(decide (a1.length<900000)&&cF a1&&dn a1,(gn a0 a1))
theorem Rs:ER 13 (mkB N13.en N13.ex aeZ aeH):=rebind Lp fun(a0,a1)=>rfl
def ae9:TB:=T13.ad Rs
def aev:Int × LI0 × aq->Bool × List Un:=fun(a0,a1,a2)=>(decide (0<=a0)&&(f14 (a1,a2)).1,(f14 (a1,a2)).2)
def abT:Pn:=⟨[.np 0 0 0,.ints .u8],[.cells [.ptr 1 0 0,.np 5 0 0,.buf 4 1,.any],.cells [.ptr 2 0 0,.z0,.bool],.cells [.buf 3 1,.z0,.bool,.z0,.bool],.ints .u8,.ab [.ints .u8]]++aT 5,0⟩
theorem F5:ER 14 (mkE abT N14.ex aev):=VU (en:=N14.en) rfl rfl Ln fun n (a0,a1)=>rfl
def aes:TB:=ae9.ad F5
def aeK:Int × LI0 × aq->Bool × List Un:=fun(a0,a1,a2)=>(decide (0<=a0)&&(f17 (a1,a2)).1,(f17 (a1,a2)).2)
def acg:Pn:=⟨[.np 0 0 0,.ints .u8],[.cells [.ptr 1 0 0,.np 5 0 0,.buf 4 1,.any],.cells [.ptr 2 0 0,.z0,.bool],.cells [.buf 3 1,.z0,.bool,.z0,.bool],.ints .u8,.ab [.ints .u8]]++aT 5,0⟩
theorem H4:ER 17 (mkE acg N17.ex aeK):=VU (en:=N17.en) rfl rfl LY fun n (a0,a1)=>rfl
def aey:TB:=aes.ad H4
def aeI:Int × aq->Bool × List Un:=fun(a0,a1)=>(decide (0<=a0)&&(f29 (a1)).1,(f29 (a1)).2)
def afk:Pn:=⟨[.np 0 0 0],[.cells [.ptr 1 0 0,.np 5 0 0,.buf 4 1,.any],.cells [.ptr 2 0 0,.z0,.bool],.cells [.buf 3 1,.z0,.bool,.z0,.bool],.ints .u8,.ab [.ints .u8]]++aT 5,14⟩
theorem Ql:ER 29 (mkE afk N29.ex aeI):=VU (en:=N29.en) rfl rfl Ld fun n a0=>rfl
def aem:TB:=aey.ad Ql
def aaI:nQ->List Un:=fun r=>[.i r.e]++Uns.enc (r.d:aq)
def aaQ:Int × LI0 × aq->Bool × nQ:=fun(a0,a1,a2)=>(decide (0<=a0)&&(mu a1&&cy a2),(o8 a1 a2))
theorem MX:ER 14 (mkB abT N14.ex aaQ aaI):=rebind F5 fun(a0,a1,a2)=>rfl
def acQ:TB:=aem.ad MX
def aa5:nQ->List Un:=fun r=>[.l r.txt,.i r.e]++Uns.enc (r.d:aq)
def aa3:Int × LI0 × aq->Bool × nQ:=fun(a0,a1,a2)=>(decide (0<=a0)&&(mu a1&&cy a2),(dC a1 a2))
theorem NF:ER 17 (mkB acg N17.ex aa3 aa5):=rebind H4 fun(a0,a1,a2)=>rfl
def LZ:TB:=acQ.ad NF
def nr2 (d:Dat):Dat:= .r [.n (d.i 0),.n (d.i 1)]
def nr7 (d:Dat):Dat:= .r [.n (d.i 0),.n (d.i 1),.n (d.i 2),.n (d.i 3),.n (d.i 4),.n (d.i 5),.n (bI (d.b 6))]
def I64 (n:Int):Prop:= -9223372036854775808<=n/\n<=9223372036854775807
theorem mf (f:Dat->LI0) (k:Nat) (hf:∀d,(f d).length=k):∀l:LD0,(l.flatMap f).length=k*l.length
 |[]=>by simp
 |x::l=>by rw[zaX,zab,hf,mf f k hf l,zac,Nat.mul_succ];omega
theorem Ch (f:Dat->LI0) (k:Nat) (hf:∀d,(f d).length=k) (l:LD0):(bU f l).length=1+k*l.length:=by
 rw[bU,zac,mf f k hf];omega
theorem lq {l A B:LI0} {x:Int} (v:Int) (h:l=A++x::B):nx (rdS l A.length v)=rdS l (A++[x]).length x:=by
 rw[An v (by rw[h];simp)];rw[show l.getD A.length 0=x by rw[h];exact bu _ _ _,zab];rfl
theorem EE {l A B:LI0} {x:Int} (v most:Int) (h:l=A++x::B) (h0:0<=x) (h1:x<=most):mx (rdS l A.length v) most=rdS l (A++[x]).length x:=by
 have e:l.getD A.length 0=x:=by rw[h];exact bu _ _ _
 rw[UM v most (by rw[h];simp) (by rw[e];exact h0) (by rw[e];exact h1),e,zab];rfl
theorem L7 (l:LI0):∀(x:LD0) (A B:LI0) (v:Int),l=A++(x.flatMap dj++B)->∃v',ct x.length (rdS l A.length v)=(x.map nr2,rdS l (A++x.flatMap dj).length v')
 |[],A,B,v,_=>⟨v,by rw[List.flatMap_nil,zaK];rfl⟩
 |d::x,A,B,v,h=>by
  have h:l=A++d.i 0::d.i 1::(x.flatMap dj++B):=by rw[h];simp[dj]
  have e0:=lq (A:=A) (x:=d.i 0) v h;have e1:=lq (l:=l) (A:=A++[d.i 0]) (x:=d.i 1) (B:=x.flatMap dj++B) (d.i 0) (by rw[h];simp);obtain⟨v',ih⟩:=L7 l x (A++[d.i 0]++[d.i 1]) B (d.i 1) (by rw[h];simp);refine⟨v', ?_⟩;simp only[zac,ct];rw[e0,e1,ih];simp only[zaS,nr2,rdS,zaX,dj,zaq,zaC,zas]
theorem MJ (l:LI0):∀(x:LD0) (A B:LI0) (v:Int),l=A++(x.flatMap lK++B)->∃v',eV x.length (rdS l A.length v)=(x.map nrN,rdS l (A++x.flatMap lK).length v')
 |[],A,B,v,_=>⟨v,by rw[List.flatMap_nil,zaK];rfl⟩
 |d::x,A,B,v,h=>by
  have h:l=A++d.i 0::d.i 1::d.i 2::(x.flatMap lK++B):=by rw[h];simp[lK]
  have e0:=lq (A:=A) (x:=d.i 0) v h;have e1:=lq (l:=l) (A:=A++[d.i 0]) (x:=d.i 1) (B:=d.i 2::(x.flatMap lK++B)) (d.i 0) (by rw[h];simp);have e2:=lq (l:=l) (A:=A++[d.i 0]++[d.i 1]) (x:=d.i 2) (B:=x.flatMap lK++B) (d.i 1) (by rw[h];simp);obtain⟨v',ih⟩:=MJ l x (A++[d.i 0]++[d.i 1]++[d.i 2]) B (d.i 2) (by rw[h];simp);refine⟨v', ?_⟩;simp only[zac,eV];rw[e0,e1,e2,ih];simp only[zaS,nrN,rdS,zaX,lK,zaq,zaC,zas]
theorem yv {l:LI0} {x:LD0} {A B:LI0} (v most:Int) (h:l=A++(bU dj x++B)) (hm:(x.length:Int)<=most):∃v',dU (rdS l A.length v) most=(x.map nr2,rdS l (A++bU dj x).length v'):=by
 have e:=EE (l:=l) (A:=A) (x:=(x.length:Int)) (B:=x.flatMap dj++B) v most (by rw[h];simp[bU]) (by omega) hm;obtain⟨v',ih⟩:=L7 l x (A++[(x.length:Int)]) B (x.length:Int) (by rw[h];simp[bU]);refine⟨v', ?_⟩;unfold dU;rw[e,show(rdS l (A++[(x.length:Int)]).length (x.length:Int)).v.toNat=x.length from rfl,ih];simp only[bU,zaq,zaC,zas]
theorem VR {l:LI0} {x:LD0} {A B:LI0} (v most:Int) (h:l=A++(bU lK x++B)) (hm:(x.length:Int)<=most):∃v',sH (rdS l A.length v) most=(x.map nrN,rdS l (A++bU lK x).length v'):=by
 have e:=EE (l:=l) (A:=A) (x:=(x.length:Int)) (B:=x.flatMap lK++B) v most (by rw[h];simp[bU]) (by omega) hm;obtain⟨v',ih⟩:=MJ l x (A++[(x.length:Int)]) B (x.length:Int) (by rw[h];simp[bU]);refine⟨v', ?_⟩;unfold sH;rw[e,show(rdS l (A++[(x.length:Int)]).length (x.length:Int)).v.toNat=x.length from rfl,ih];simp only[bU,zaq,zaC,zas]
def headD (d:aU):LI0:=[d.a.year,d.a.month,d.a.basis,d.b.fee,d.b.bq,d.b.target,d.b.advance,d.b.eX,d.b.oc,d.b.ic,d.b.late,d.b.kY,d.b.clean]
def nrD (d:aU):aU:=⟨d.a,d.aC.map nr2,d.notes.map nrN,d.b,d.s0.map nr2,d.s1.map nr2,d.s2.map nr2⟩
theorem Jc {d:aU} {l:LI0} (hl:iB d=l) (h0:d.aC.length<=64) (h1:d.notes.length<=8) (h2:d.s0.length<=16) (h3:d.s1.length<=16) (h4:d.s2.length<=16):∃v,dP 0 (l.length:Int) false l=⟨nrD d,rdS l l.length v⟩:=by
 have hlen:13<=l.length:=by rw[<-hl];simp[iB]
 have hd:∀i,i<13->l.getD i 0=(headD d).getD i 0:=fun i hi=>by
  rw[<-hl];unfold iB;simp only[zaf];rw[zax (by simpa using hi)];rfl
 have nxk:∀(k:Nat) (v:Int),k<13->nx (rdS l k v)=rdS l (k+1) ((headD d).getD k 0):=fun k v hk=>by rw[An v (by omega),hd k hk]
 have n1:rdN 0 (l.length:Int) false l=rdS l 1 d.a.year:=nxk 0 0 (by decide);obtain⟨v1,p1⟩:=yv (l:=l) (x:=d.aC) (A:=headD d) (B:=bU lK d.notes++(bU dj d.s0++(bU dj d.s1++bU dj d.s2))) d.b.clean 64 hl.symm (by omega);obtain⟨v2,p2⟩:=VR (l:=l) (x:=d.notes) (A:=headD d++bU dj d.aC) (B:=bU dj d.s0++(bU dj d.s1++bU dj d.s2)) v1 8 (by rw[<-hl];simp only[iB,headD,zaq]) (by omega);obtain⟨v3,p3⟩:=yv (l:=l) (x:=d.s0) (A:=headD d++bU dj d.aC++bU lK d.notes) (B:=bU dj d.s1++bU dj d.s2) v2 16 (by rw[<-hl];simp only[iB,headD,zaq]) (by omega);obtain⟨v4,p4⟩:=yv (l:=l) (x:=d.s1) (A:=headD d++bU dj d.aC++bU lK d.notes++bU dj d.s0) (B:=bU dj d.s2) v3 16 (by rw[<-hl];simp only[iB,headD,zaq]) (by omega);obtain⟨v5,p5⟩:=yv (l:=l) (x:=d.s2) (A:=headD d++bU dj d.aC++bU lK d.notes++bU dj d.s0++bU dj d.s1) (B:=[]) v4 16 (by rw[<-hl];simp only[iB,headD,zaq,zaK]) (by omega);have he:headD d++bU dj d.aC++bU lK d.notes++bU dj d.s0++bU dj d.s1++bU dj d.s2=l:=by rw[<-hl];simp only[iB,headD,zaq]
 rw[he]at p5;refine⟨v5, ?_⟩;unfold dP Dy;rw[n1];simp(disch:=omega) only[nxk,Nat.reduceAdd];unfold PK;have p1:dU (rdS l 13 ((headD d).getD 12 0)) 64=(d.aC.map nr2,rdS l (headD d++bU dj d.aC).length v1):=p1;simp only[p1,p2,p3,p4,p5];rfl
theorem Q9 {d:aU} (D:WG d):(iB d).length<=300:=by
 have h1:=D.JL;have h2:=D.NV;have h3:=bL D.s0;have h4:=bL D.s1;have h5:=bL D.s2;simp only[iB,zab,Ch dj 2 (fun _=>rfl),Ch lK 3 (fun _=>rfl),zac,zar];omega
theorem CT {d:aU} (hs:(cD d).isSome=true) (hn:∀n∈iB d,I64 n) (hd:nrD d=d):dK (dG d)=⟨0,d⟩:=by
 have D:=dS hs;have h1:=D.JL;have h2:=D.NV;have h3:=bL D.s0;have h4:=bL D.s1;have h5:=bL D.s2;obtain⟨v,e⟩:=Jc (d:=d) rfl (by omega) (by omega) h3.2 h4.2 h5.2;rw[hd]at e;unfold dK dG;rw[hs,zaw,gy,show(8*(iB d).length%8==0)=true by rw[Nat.mul_mod_right];rfl,vl hn];unfold ddV;rw[e];dsimp only;rw[hs];have:(rdS (iB d) (iB d).length v).n=0:=by show(((iB d).length-(iB d).length:Nat):Int)=0;omega
 rw[this];rfl
theorem Cb {d:aU}:(dG d).length<=2400:=by
 unfold dG;cases hs:(cD d).isSome
 . exact zbt _
 . rw[zaw,gy];have:=Q9 (dS hs);omega
theorem u8_in (x:Int):0<=wu8 x/\wu8 x<256:=by rw[u8m];omega
theorem vS (l:LI0):∀x∈cO l,0<=x/\x<256:=by
 intro x hx;obtain⟨n,_,h⟩:=List.mem_flatMap.1 (show x∈l.flatMap qu from hx);simp only[qu,zaN,zbH,or_false]at h;rcases h with h|h|h|h|h|h|h|h<;>rw[h]<;>exact u8_in _
theorem nU (d:aU):mu (dG d)=true:=by
 refine mw.2 ⟨by have:=Cb (d:=d);omega,fun x hx=> ?_⟩;unfold dG at hx;cases hs:(cD d).isSome
 . rw[hs]at hx;exact absurd hx (by simp)
 . rw[hs]at hx;exact vS _ x hx
theorem aaD (b:Bool):(0<=bI b/\bI b<=1)/\((bI b==1)=b):=by cases b<;>decide
theorem Lk (l:LI0):∀(x:LD0) (A B:LI0) (v:Int),l=A++(x.flatMap ng++B)->∃v',m8 x.length (rdS l A.length v)=(x.map nr7,rdS l (A++x.flatMap ng).length v')
 |[],A,B,v,_=>⟨v,by rw[List.flatMap_nil,zaK];rfl⟩
 |d::x,A,B,v,h=>by
  have h:l=A++d.i 0::d.i 1::d.i 2::d.i 3::d.i 4::d.i 5::bI (d.b 6)::(x.flatMap ng++B):=by rw[h];simp[ng]
  obtain⟨b1,b2⟩:=aaD (d.b 6);have e0:=lq (A:=A) (x:=d.i 0) v h;have e1:=lq (l:=l) (A:=A++[d.i 0]) (x:=d.i 1) (B:=d.i 2::d.i 3::d.i 4::d.i 5::bI (d.b 6)::(x.flatMap ng++B)) (d.i 0) (by rw[h];simp);have e2:=lq (l:=l) (A:=A++[d.i 0]++[d.i 1]) (x:=d.i 2) (B:=d.i 3::d.i 4::d.i 5::bI (d.b 6)::(x.flatMap ng++B)) (d.i 1) (by rw[h];simp);have e3:=lq (l:=l) (A:=A++[d.i 0]++[d.i 1]++[d.i 2]) (x:=d.i 3) (B:=d.i 4::d.i 5::bI (d.b 6)::(x.flatMap ng++B)) (d.i 2) (by rw[h];simp);have e4:=lq (l:=l) (A:=A++[d.i 0]++[d.i 1]++[d.i 2]++[d.i 3]) (x:=d.i 4) (B:=d.i 5::bI (d.b 6)::(x.flatMap ng++B)) (d.i 3) (by rw[h];simp);have e5:=lq (l:=l) (A:=A++[d.i 0]++[d.i 1]++[d.i 2]++[d.i 3]++[d.i 4]) (x:=d.i 5) (B:=bI (d.b 6)::(x.flatMap ng++B)) (d.i 4) (by rw[h];simp);have e6:=EE (l:=l) (A:=A++[d.i 0]++[d.i 1]++[d.i 2]++[d.i 3]++[d.i 4]++[d.i 5]) (x:=bI (d.b 6)) (B:=x.flatMap ng++B) (d.i 5) 1 (by rw[h];simp) b1.1 b1.2;obtain⟨v',ih⟩:=Lk l x (A++[d.i 0]++[d.i 1]++[d.i 2]++[d.i 3]++[d.i 4]++[d.i 5]++[bI (d.b 6)]) B (bI (d.b 6)) (by rw[h];simp);refine⟨v', ?_⟩;simp only[zac,m8];rw[e0,e1,e2,e3,e4,e5,e6,ih];simp only[zaS,nr7,rdS,b2,zaX,ng,zaq,zaC,zas]
theorem qS {p:Int} {l:LD0} (hT:ly p l=true) (hn:∀n∈gL p l,I64 n) (hd:l.map nr7=l):aY (dI p l)=⟨p,0,l⟩:=by
 obtain⟨_,hl⟩:=qN hT;unfold aY dI;rw[hT,zaw,gy,show(8*(gL p l).length%8==0)=true by rw[Nat.mul_mod_right];rfl,vl hn];have n1:w5 (gL p l)=rdS (gL p l) 1 p:=lq (l:=gL p l) (A:=[]) (x:=p) (B:=(l.length:Int)::l.flatMap ng) 0 rfl;have n2:mx (rdS (gL p l) 1 p) 64=rdS (gL p l) 2 (l.length:Int):=EE (l:=gL p l) (A:=[p]) (x:=(l.length:Int)) (B:=l.flatMap ng) p 64 rfl (by omega) (by omega);obtain⟨v,e⟩:=Lk (gL p l) l [p,(l.length:Int)] [] (l.length:Int) (by rw[zaK];rfl);have hw:AU (gL p l)=(l,rdS (gL p l) (gL p l).length v):=by
  unfold AU;rw[n1,n2,show(rdS (gL p l) 2 (l.length:Int)).v.toNat=l.length from rfl];refine e.trans ?_
  rw[hd];rfl
 unfold JO;rw[hw,n1];dsimp only;rw[show(rdS (gL p l) 1 p).v=p from rfl,hT];have:(rdS (gL p l) (gL p l).length v).n=0:=by show(((gL p l).length-(gL p l).length:Nat):Int)=0;omega
 rw[this];rfl
theorem iJ (p:Int) (l:LD0):mu (dI p l)=true:=by
 unfold dI;cases hT:ly p l
 . rfl
 . obtain⟨_,hl⟩:=qN hT;rw[zaw];refine mw.2 ⟨?_,vS _⟩;rw[gy];simp only[gL,zac,mf ng 7 (fun _=>rfl)];omega
theorem nA (n:Int):dv (fg n)=n%65536:=by
 show(0*256+n/256%256)*256+n%256=n%65536;omega
theorem M1 {s:Int} (h0:0<=s) (h1:s<4294967296):dv (fg (s/65536)++fg s)=s:=by
 show(((0*256+s/65536/256%256)*256+s/65536%256)*256+s/256%256)*256+s%256=s;omega
theorem yf (l:LI0):0<=cK l/\cK l<65536:=by unfold cK;omega
theorem nv (s:Int) (x rest:LI0):cQ s x++rest=di s x++(fg (cK (di s x))++(x++(fg (cK x)++rest))):=by simp[cQ]
theorem Bi {s:Int} {x:LI0} (rest:LI0) (a:Int) (h0:0<=s) (h1:s<4294967296) (hx:x.length<=60000):lD (cQ s x++rest) a=⟨x,s,a+10+(x.length:Int),0⟩:=by
 have e6:(cQ s x++rest).take 6=di s x:=by rw[nv];rfl
 have e2:((cQ s x++rest).drop 6).take 2=fg (cK (di s x)):=by rw[nv];rfl
 have el:(cQ s x++rest).take 2=fg (x.length:Int):=by rw[nv];rfl
 have es:((cQ s x++rest).drop 2).take 4=fg (s/65536)++fg s:=by rw[nv];rfl
 have e8:(cQ s x++rest).drop 8=x++(fg (cK x)++rest):=by rw[nv];rfl
 have hlen:(cQ s x++rest).length=x.length+10+rest.length:=by rw[zab,lS]
 have n2:dv (fg (x.length:Int))=(x.length:Int):=by rw[nA];omega
 have n6:dv (fg (cK (di s x)))=cK (di s x):=by rw[nA];have:=yf (di s x);omega
 have nx:dv (fg (cK x))=cK x:=by rw[nA];have:=yf x;omega
 have et:((cQ s x++rest).drop 8).take x.length=x:=by rw[e8];exact zbQ
 have eu:((cQ s x++rest).drop (8+x.length)).take 2=fg (cK x):=by
  rw[<-zca,e8,za8];rfl
 unfold lD;rw[e6,e2,el,es,n2,n6,zat,et,eu,nx,M1 h0 h1,hlen,zao (by omega),zcd,zao (by omega),zao (by omega),zcd];rfl
def bK:Nat->List (LI0)->LI0
 |_,[]=>[]
 |n,x::xs=>cQ ((n:Int)+1) x++bK (n+1) xs
theorem tC (y:LI0):∀(xs:List (LI0)) (n:Nat),bK n (xs++[y])=bK n xs++cQ (((n+xs.length:Nat):Int)+1) y
 |[],n=>by simp[bK]
 |x::xs,n=>by
  rw[zaC,bK,tC y xs (n+1),bK,zaq,zac,show n+1+xs.length=n+(xs.length+1) by omega]
theorem kM {M:Nat}:∀(xs:List (LI0)) (n:Nat),(∀x∈xs,x.length<=M)->xs.length*10<=(bK n xs).length/\(bK n xs).length<=xs.length*(M+10)
 |[],n,_=>by simp[bK]
 |x::xs,n,h=>by
  obtain⟨h1,h2⟩:=kM xs (n+1) fun y hy=>h y (zay _ hy)
  have:=h x (by simp);rw[bK,zab,lS,zac,za2,za2];omega
theorem HV {b:LI0}:∀(xs:List (LI0)) (n:Nat) (acc:LD0) (pre tail:LI0) (j:Nat),b=pre++(bK n xs++tail)->acc.length=n->n+xs.length<4294967295->(∀x∈xs,x.length<=60000)->
 jz (xs.length+j) b (pre.length:Int) acc=jz j b ((pre++bK n xs).length:Int) (acc++xs.map pk)
 |[],n,acc,pre,tail,j,_,_,_,_=>by simp[bK]
 |x::xs,n,acc,pre,tail,j,hb,ha,hn,hx=>by
  have hb:b=pre++(cQ ((n:Int)+1) x++(bK (n+1) xs++tail)):=by rw[hb,bK,zaq]
  have hl:=hx x (by simp);rw[zac]at hn;have hlen:pre.length+10<=b.length:=by rw[hb,zab,zab,lS];omega
  have ho:dT b (pre.length:Int)=⟨x,(n:Int)+1,(pre.length:Int)+10+(x.length:Int),0⟩:=by
   rw[pG (by omega) (by omega),zat]
   conv=>lhs;rw[hb,za8]
   exact Bi _ _ (by omega) (by omega) hl
  have ih:=HV (b:=b) xs (n+1) (acc++[pk x]) (pre++cQ ((n:Int)+1) x) tail j (by rw[hb,zaq]) (by simp[ha]) (by omega) fun y hy=>hx y (zay _ hy)
  rw[zac,show xs.length+1+j=xs.length+j+1 by omega];simp only[jz];rw[ho];dsimp only;rw[zaa (show(pre.length:Int)<(b.length:Int) by omega),zaw,show((0:Int)==1)=false from rfl,show((0:Int)==2)=false from rfl,zal,zal,ha,zcd,zal];have e:(pre.length:Int)+10+(x.length:Int)=((pre++cQ ((n:Int)+1) x).length:Int):=by rw[zab,lS];omega
  rw[e,ih,bK,zaq,zaq,zaS];rfl
theorem Db {xs:List (LI0)} (tail:LI0) (hn:xs.length<1000000) (hx:∀x∈xs,x.length<=60000) (ht:∀a,tail=[]\/(lD tail a).how=1):cG (bK 0 xs++tail)=⟨xs.map pk,((bK 0 xs).length:Int),true⟩:=by
 have hl:=(kM xs 0 hx).1;have hL:(bK 0 xs++tail).length=(bK 0 xs).length+tail.length:=zab;obtain⟨j,hj⟩:∃j,(bK 0 xs++tail).length+1=xs.length+j:=⟨(bK 0 xs++tail).length+1-xs.length,by omega⟩
 have e:=HV (b:=bK 0 xs++tail) xs 0 [] [] tail j rfl rfl (by omega) hx;rw[zas,zas]at e;unfold cG;rw[hj];refine e.trans ?_
 cases j with
 |zero=>rfl
 |succ j=>
  simp only[jz]
  by_cases ht0:tail=[]
  . subst ht0;rw[zaK,zao (Int.lt_irrefl _)];rfl
  . have hp:0<tail.length:=List.length_pos_iff.2 ht0;rw[zaa (show((bK 0 xs).length:Int)<((bK 0 xs++tail).length:Int) by omega),zaw];have ho:(dT (bK 0 xs++tail) ((bK 0 xs).length:Int)).how=1:=by
     rw[pG (by omega) (by omega),zat,za8];exact(ht _).resolve_left ht0
    rw[ho];rfl
theorem zA (x:LI0) (s:aq) (c:eZ) (n:bc) (b:LI0):cN x {s with c:=c,n:=n,b:=b}=⟨(cN x s).ok,{(cN x s).d with c:=c,n:=n,b:=b}⟩:=by
 unfold cN;cases ((x.length:Int)==0)
 case true=>rfl
 cases (x.getD 0 0==1)
 case true=>rfl
 rw[zal,zal,zal,zal];dsimp only;cases (x.getD 0 0==2&& !decide (s.has<0))
 case true=>cases ((aY (x.drop 1)).e !=0)<;>rfl
 cases (x.getD 0 0==3&&((x.drop 1).length:Int)==0)<;>rfl
theorem CD (c:eZ) (n:bc) (b:LI0):∀(l:LD0) (s:aq),kC l {s with c:=c,n:=n,b:=b}=⟨(kC l s).ok,{(kC l s).d with c:=c,n:=n,b:=b}⟩
 |[],s=>rfl
 |d::l,s=>by
  simp only[kC];rw[zA];dsimp only;cases (cN (d.l 0) s).ok
  . rfl
  . exact CD c n b l _
theorem CO (x:LI0):∀(l:LD0) (s:aq),(kC l s).ok=true->kC (l++[pk x]) s=⟨(cN x (kC l s).d).ok,(cN x (kC l s).d).d⟩
 |[],s,_=>by
  simp only[zas,kC,y7];cases h:(cN x s).ok<;>rfl
 |d::l,s,h=>by
  simp only[zaC,kC]at h⊢;cases hk:(cN (d.l 0) s).ok
  . rw[hk]at h;cases h
  . rw[hk]at h;exact CO x l _ h
def eC:aq:=NT ⟨0,false⟩ ⟨0,false,0,false⟩ []
structure Live (s : aq) (xs : List (List Int)) : Prop where
 bytes:s.b=bK 0 xs
 count:s.c=⟨(xs.length:Int),false⟩
 short:∀x∈xs,x.length<=3601
 many:xs.length<=240
 aG:s.aG.length<=xs.length
 ok:C3 s
 UU:kC (xs.map pk) eC=⟨true,{eC with has:=s.has,aG:=s.aG,t:=s.t}⟩
theorem Live.len {s:aq} {xs:List (LI0)} (h:Live s xs):s.b.length<=880000:=by
 have:=(kM xs 0 h.short).2;rw[h.bytes];have:=h.many;omega
theorem Live.okD {s:aq} {xs:List (LI0)} (h:Live s xs):cy s=true:=by
 have:=h.len;have:=h.many;have:=h.aG;exact h.ok.okD (by rw[h.count];dsimp only;omega) (by omega) (by omega)
theorem Live.new (n:bc):Live (NT ⟨0,false⟩ n []) [] where
 bytes:=rfl
 count:=rfl
 short:=fun x hx=>absurd hx (by simp)
 many:=by simp
 aG:=zap _
 ok:=⟨fun d hd=>absurd (show d∈([]:LD0) from hd) (by simp),.inl (by show(-1:Int)<0;decide)⟩
 UU:=rfl
theorem Live.fJ {s s':aq} {xs:List (LI0)} {x:LI0} (h:Live s xs) (ha:cN x s=⟨true,{s with has:=s'.has,aG:=s'.aG,t:=s'.t}⟩) (hb:s'.b=s.b++cQ ((xs.length:Int)+1) x) (hc:s'.c=⟨(xs.length:Int)+1,false⟩) (hx:x.length<=3601) (hn:xs.length<240):Live s' (xs++[x]):=by
 have hI:=ME x h.ok;rw[ha]at hI;obtain⟨i1,i2⟩:=hI;refine⟨?_, ?_, ?_, ?_, ?_,⟨i1.aG,i1.ph⟩, ?_⟩
 . rw[hb,h.bytes,tC,zaF]
 . rw[hc,zab];simp
 . intro y hy;rcases za0.1 hy with hy|hy
   . exact h.short y hy
   . rw[zbg.1 hy];exact hx
 . rw[zab,List.length_singleton];omega
 . rw[zab,List.length_singleton];have i2:s'.aG.length<=s.aG.length+1:=i2;have:=h.aG;omega
 . rw[zb5,List.map_singleton,CO x _ _ (by rw[h.UU]),h.UU];have e:=zA x s eC.c eC.n eC.b;rw[ha]at e;have e:cN x {eC with has:=s.has,aG:=s.aG,t:=s.t}=⟨true,{eC with has:=s'.has,aG:=s'.aG,t:=s'.t}⟩:=e;rw[e]
theorem Live.opened {s:aq} {xs:List (LI0)} (h:Live s xs) (m:bc) (ho:m.off=false):gn m s.b=⟨0,0,m,s.b,F1 s⟩:=by
 have hx:∀x∈xs,x.length<=60000:=fun x hx=>by have:=h.short x hx;omega
 have e:=Db (xs:=xs) [] (by have:=h.many;omega) hx fun _=> .inl rfl
 rw[zaK]at e;have hj:ta m s.b=⟨0,xs.map pk,0,m,s.b,⟨(xs.length:Int),false⟩⟩:=by
  unfold ta;rw[ho,h.bytes,e];dsimp only;rw[zao (Int.lt_irrefl _),zaW];rfl
 unfold gn;rw[hj];dsimp only;have:=CD ⟨(xs.length:Int),false⟩ m s.b (xs.map pk) eC;rw[h.UU]at this;have:kC (xs.map pk) (NT ⟨(xs.length:Int),false⟩ m s.b)=⟨true,{s with c:=⟨(xs.length:Int),false⟩,n:=m,b:=s.b}⟩:=this;rw[this];unfold Wj F1;rw[h.count];rfl
def Up (m:bc):Prop:=m.off=false/\m.lit=false
theorem Up.ab2 {m:bc} (h:Up m):bz m=(true,m):=by unfold bz;rw[h.1,h.2];rfl
theorem Y6 {s:aq} (x:LI0) (hu:Up s.n) (hb:s.c.bad=false):ti x s.c s.n s.b=⟨0,⟨s.c.count+1,false⟩,{s.n with lI:=((s.b++cQ (s.c.count+1) x).length:Int)},s.b++cQ (s.c.count+1) x⟩:=by
 unfold ti;rw[hb,hu.ab2];dsimp only[cond_false,cond_true];rw[hu.ab2];rfl
def kept (x:LI0) (s:aq):aq:={s with c:=⟨s.c.count+1,false⟩,n:={s.n with lI:=((s.b++cQ (s.c.count+1) x).length:Int)},b:=s.b++cQ (s.c.count+1) x}
theorem K3 {s:aq} {x:LI0} {a:NJ} {aG:LD0} (hu:Up s.n) (hb:s.c.bad=false) (ha:a.e=0):Ct x a aG s=⟨a.txt,0,{kept x s with has:=a.j,aG:=aG,t:=a.t}⟩:=by
 unfold Ct A7 JX;rw[Y6 x hu hb,ha];rfl
theorem Live.bad {s:aq} {xs:List (LI0)} (h:Live s xs):s.c.bad=false:=by rw[h.count]
theorem Live.load {s:aq} {xs:List (LI0)} {d:aU} (h:Live s xs) (hu:Up s.n) (h0:s.has<0) (hd:dK (dG d)=⟨0,d⟩) (hn:xs.length<240):
 o8 (dG d) s=⟨[],0,{kept (1::dG d) s with has:=0,t:=dE d}⟩/\Live {kept (1::dG d) s with has:=0,t:=dE d} (xs++[1::dG d]):=by
 have hl:cH (dG d) s=⟨0,[],0,dE d⟩:=by
  unfold cH;rw[zaa h0,hd];rfl
 have hlen:=Cb (d:=d);refine⟨?_,h.fJ (x:=1::dG d) ?_ ?_ ?_ (by rw[zac];omega) hn⟩
 . unfold o8;rw[hl,K3 hu h.bad rfl];rfl
 . unfold cN;rw[show(((1::dG d).length:Int)==0)=false by rw[zbU,zac];omega];simp only[zaO,List.drop_succ_cons,zbP];rw[hl];rfl
 . show s.b++cQ (s.c.count+1) _=_;rw[h.count]
 . show eZ.mk (s.c.count+1) false=_;rw[h.count]
theorem Live.Qh {s:aq} {xs:List (LI0)} {l:LD0} (h:Live s xs) (hu:Up s.n) (h0:¬s.has<0) (hd:aY (dI ((s.aG.length:Int)+1) l)=⟨(s.aG.length:Int)+1,0,l⟩) (he:(aH s.t l).e=0) (hn:xs.length<240):
 dC (dI ((s.aG.length:Int)+1) l) s=⟨nT (aH s.t l),0,{kept (2::dI ((s.aG.length:Int)+1) l) s with has:=0,aG:=s.aG++[pk (nT (aH s.t l))],t:=(aH s.t l).t}⟩/\Live {kept (2::dI ((s.aG.length:Int)+1) l) s with has:=0,aG:=s.aG++[pk (nT (aH s.t l))],t:=(aH s.t l).t} (xs++[2::dI ((s.aG.length:Int)+1) l]):=by
 have hcl:bG ((s.aG.length:Int)+1) l s=⟨0,nT (aH s.t l),0,(aH s.t l).t⟩:=by
  unfold bG;rw[zcd,zal,cY he]
 have hlen:(dI ((s.aG.length:Int)+1) l).length<=3600:=by
  unfold dI;cases hT:ly ((s.aG.length:Int)+1) l
  . exact zbt _
  . obtain⟨_,hl⟩:=qN hT;rw[zaw,gy];simp only[gL,zac,mf ng 7 (fun _=>rfl)];omega
 generalize dI ((s.aG.length:Int)+1) l=y at*
 refine⟨?_,h.fJ (x:=2::y) ?_ ?_ ?_ (by rw[zac];omega) hn⟩
 . unfold dC;rw[zao h0,zal,hd];dsimp only;rw[zao (show ¬(s.aG.length:Int)+1<=(s.aG.length:Int) by omega),hcl,K3 hu h.bad rfl];rfl
 . unfold cN;rw[show(((2::y).length:Int)==0)=false by rw[zbU,zac];omega];simp only[zaO,List.drop_succ_cons,zbP];rw[hd];dsimp only;rw[hcl,zao h0];rfl
 . show s.b++cQ (s.c.count+1) _=_;rw[h.count]
 . show eZ.mk (s.c.count+1) false=_;rw[h.count]
def pn:LD0->LD0->LD0
 |d::l,y::z=> .r [.n (d.i 0),.n (y.i 1)]::pn l z
 |_,_=>[]
theorem CB:∀(l z:LD0) (d y:Dat),l.length=z.length->pn (l++[d]) (z++[y])=pn l z++[.r [.n (d.i 0),.n (y.i 1)]]
 |[],[],d,y,_=>rfl
 |[],_::_,_,_,h=>by simp at h
 |_::_,[],_,_,h=>by simp at h
 |a::l,b::z,d,y,h=>by
  simp only[zaC,pn];rw[CB l z d y (by simpa using h)]
theorem AV:∀(l z:LD0),(pn l z).length<=z.length
 |[],z=>by simp[pn]
 |_::_,[]=>by simp[pn]
 |a::l,b::z=>by simp only[pn,zac];have:=AV l z;omega
theorem Ht:∀(l z:LD0),∀d∈pn l z,∃y∈z,d.i 1=y.i 1
 |[],z,d,h=>by simp[pn]at h
 |_::_,[],d,h=>by simp[pn]at h
 |a::l,b::z,d,h=>by
  simp only[pn,zaN]at h;rcases h with rfl|h
  . exact⟨b,by simp,rfl⟩
  . obtain⟨y,hy,e⟩:=Ht l z d h;exact⟨y,zay _ hy,e⟩
theorem HM:∀(l z:LD0),l.map (fun d=>d.i 0)=z.map (fun d=>d.i 0)->pn l z=z.map rW
 |[],[],_=>rfl
 |[],_::_,h=>by simp at h
 |_::_,[],h=>by simp at h
 |a::l,b::z,h=>by
  simp only[zaS,List.cons.injEq]at h;simp only[pn,zaS,HM l z h.2,rW,h.1]
def nh (p q r s t u:LI0) (aC:LD0) (z:aq):LD0:=bif decide (z.has<0)then[]else ofL p q r s t u (z.t.aN.map fun d=>d.i 2) 0 (pn aC z.t.aN)
theorem GG {p q r s t u:LI0} {aC:LD0} {z:aq} (h0:¬z.has<0) (h:aC.map (fun d=>d.i 0)=z.t.aN.map (fun d=>d.i 0)):nh p q r s t u aC z=qa p q r s t u z.t.aN:=by
 unfold nh qa;rw[zao h0,HM _ _ h];rfl
theorem NP (n:ao) (pre rest tr:LD0) (y:Dat):(gW n (pre++y::rest) tr).getD (11+5*pre.length) 0=y.i 1/\(gW n (pre++y::rest) tr).getD (12+5*pre.length) 0=y.i 2/\12+5*pre.length<(gW n (pre++y::rest) tr).length:=by
 have hl:(pre.flatMap nM).length=5*pre.length:=mf nM 5 (fun _=>rfl) pre;have e:gW n (pre++y::rest) tr=([n.period,n.mode,n.bf,n.out,n.fee,n.aP,n.ba,bI n.hG,n.rin,n.bP]++pre.flatMap nM)++y.i 0::y.i 1::y.i 2::([y.i 3,bI (y.b 4)]++(rest.flatMap nM++tr.flatMap tU)):=by simp[gW,nM]
 generalize hA:[n.period,n.mode,n.bf,n.out,n.fee,n.aP,n.ba,bI n.hG,n.rin,n.bP]++pre.flatMap nM=A at e;have hAl:A.length=10+5*pre.length:=by rw[<-hA,zab,hl];rfl
 generalize [y.i 3,bI (y.b 4)]++(rest.flatMap nM++tr.flatMap tU)=Z at e;rw[e];refine⟨?_, ?_, ?_⟩
 . rw[show A++y.i 0::y.i 1::y.i 2::Z=(A++[y.i 0])++y.i 1::y.i 2::Z by simp,show 11+5*pre.length=(A++[y.i 0]).length by simp[hAl];omega];exact bu _ _ _
 . rw[show A++y.i 0::y.i 1::y.i 2::Z=(A++[y.i 0,y.i 1])++y.i 2::Z by simp,show 12+5*pre.length=(A++[y.i 0,y.i 1]).length by simp[hAl];omega];exact bu _ _ _
 . simp only[zab,zac,hAl];omega
def N25:aA:=⟨LZ.tab,25,⟨[.ptr 0 0 0,.agg [.z0,.z0,.z0,.ab (sI 2),.ab (sI 3),.z0,.z0,.z0,.z0,.z0,.z0,.z0,.z0,.z0,.z0,.ab (sI 2),.ab (sI 2),.ab (sI 2)],.agg [.ints .i64,.ints .i64,.ints .i64,.ints .i64,.ints .i64,.ints .i64]],[.cells [.ptr 1 0 0,.np 5 0 0,.buf 4 1,.any],.cells [.ptr 2 0 0,.z0,.bool],.cells [.buf 3 1,.z0,.bool,.z0,.bool],.ints .u8,.ab [.ints .u8]]++aT 5,14⟩,⟨[.buf 14 7],[.cells [.ptr 1 0 0,.np 5 0 0,.buf 4 1,.any],.cells [.ptr 2 0 0,.z0,.bool],.cells [.buf 3 1,.z0,.bool,.z0,.bool],.ints .u8,.ab [.ints .u8]]++aT 5++[.ab (sB 6)],14⟩,[]⟩
abbrev Lm:Type:=LD0 × Int × Int × Int × eZ × bc × LI0 × LD0 × av × aw × ao × LD0 × LD0 × LD0 × LD0 × LD0 × LD0 × LD0 × LI0 × LI0 × LI0 × LI0 × LI0 × LI0 × LI0 × LD0 × LI0
def uo (m:Nat) (k:Lm->OU0):Lm->OU0:=fun(a0,a1,a2,a3,a4,a5,a6,a7,a8,a9,a10,a11,a12,a13,a14,a15,a16,a17,a18,a19,a20,a21,a22,a23,a24,a25,a26)=>
 bif decide (a2<a1)then
 chk (inb a2 a0.length)<|
 chk (decide (a2.toNat<a0.length))<|
 lt ((w64 (10+(w64 (5*a2)))):Int) fun x2=>
 bif (decide ((w64 (x2+2))<(a24.length:Int)))then
 chk (inb (w64 (x2+1)) a24.length)<|
 chk (decide ((w64 (x2+1)).toNat<a24.length))<|
 chk (fits (a25.length+1) 16)<|
 chk (inb (w64 (x2+2)) a24.length)<|
 chk (decide ((w64 (x2+2)).toNat<a24.length))<|
 chk (fits (a26.length+1) 8)<|
 k (a0,a1,(w64 (a2+1)),a3,a4,a5,a6,a7,a8,a9,a10,a11,a12,a13,a14,a15,a16,a17,a18,a19,a20,a21,a22,a23,a24,(a25++([.r [.n ((ai a0 a2.toNat).i 0),.n (a24.getD ((w64 (x2+1)).toNat) 0)]])),(a26++([(a24.getD ((w64 (x2+2)).toNat) 0)])))
 else
 k (a0,a1,(w64 (a2+1)),a3,a4,a5,a6,a7,a8,a9,a10,a11,a12,a13,a14,a15,a16,a17,a18,a19,a20,a21,a22,a23,a24,a25,a26)
 else
 chk (decide (a25.length<1000000)&&(a25.all (fun d=>decide (d.i 1<=1152921504606846976))&&a26.all fun y=>decide (y<=2305843009213693952)))<|
 some (Uns.enc ((⟨a3,a4,a5,a6,a7,(⟨a8,a9,a10,a11,a12,a13,a14,a15,a16,a17⟩:af)⟩:aq):aq)++[.d (ofL a18 a19 a20 a21 a22 a23 a26 0 a25)])
def zd (m:Nat):Nat->Lm->OU0:=aX (uo m)
theorem oq (m:Nat) (n:Nat):zd m (n+1)=uo m (zd m n):=rfl
def QT (F:Lm->OU0):aQ:=⟨[.lp [0,1,0,1,1,1,1],.blk 0,.code [1,1,1,1,1]],⟨frm 55 [(5,.ptr 14 0 0),(7,.buf 15 1),(8,.buf 16 2),(9,.buf 17 1),(16,.ab (sI 2)),(17,.z0),(18,.z0)],[.cells [.ptr 1 0 0,.np 5 0 0,.buf 4 1,.any],.cells [.ptr 2 0 0,.z0,.bool],.cells [.buf 3 1,.z0,.bool,.z0,.bool],.ints .u8,.ab [.ints .u8]]++aT 5++[.cells [.ints .i64,.ints .i64,.ints .i64,.ints .i64,.ints .i64,.ints .i64],.ints .i64,.ab (sI 2),.ints .i64],14⟩,onU F⟩
theorem ab4 (m:Nat):∀n,HO N25 (QT (zd m n)):=an ae LZ.right (fun k=>[QT k]) (fun k h=>(aI h az)) fun k a=>by kernel_rfl
def t25 (m:Nat):aU × LI0 × LI0 × LI0 × LI0 × LI0 × LI0 × aq->OU0:=fun(a0,a1,a2,a3,a4,a5,a6,a7)=>
 chk (decide (0<=0)&&(cy a7))<|
 zd m m (a0.aC,(a0.aC.length:Int),0,a7.has,a7.c,a7.n,a7.b,a7.aG,a7.t.a,a7.t.b,a7.t.n,a7.t.aC,a7.t.notes,a7.t.s0,a7.t.s1,a7.t.s2,a7.t.aN,a7.t.tr,a1,a2,a3,a4,a5,a6,(iO a7),[],[])
theorem V0 (m:Nat) (z:aq) (p q r s t u:LI0) (h0:z.has<0):∀(rest pre:LD0) (n:Nat),rest.length<n->(pre++rest).length<=64->
 zd m n (pre++rest,((pre++rest).length:Int),(pre.length:Int),z.has,z.c,z.n,z.b,z.aG,z.t.a,z.t.b,z.t.n,z.t.aC,z.t.notes,z.t.s0,z.t.s1,z.t.s2,z.t.aN,z.t.tr,p,q,r,s,t,u,[],[],[])=some (Uns.enc z++[.d []]):=by
 intro rest
 induction rest with
 |nil=>
  intro pre n hn hl;obtain⟨n,rfl⟩:=ah n (by simp at hn;omega);rw[oq];unfold uo;dsimp only;rw[ay (by simp)];rfl
 |cons x rest ih=>
  intro pre n hn hl;obtain⟨n,rfl⟩:=ah n (by simp at hn;omega);have:=ih (pre++[x]) n (by simp at hn;omega) (by simpa using hl);simp only[zac,zab]at hn hl;rw[oq];unfold uo;dsimp only;rw[aK (by simp only[zab,zac];omega),bQ (by omega) (by simp only[zab,zac];omega),aJ (by simp)];simp only[lt_eq];rw[aa (n:=5*(pre.length:Int)) (by omega) (by omega),aa (n:=10+5*(pre.length:Int)) (by omega) (by omega),aa (n:=10+5*(pre.length:Int)+2) (by omega) (by omega),ay (by simp only[zar];omega)];have e:w64 ((pre.length:Int)+1)=((pre++[x]).length:Int):=by
   rw[aa (by omega) (by omega)];simp
  rw[e,show pre++x::rest=(pre++[x])++rest by simp];exact this
theorem Tx (m:Nat) (z:aq) (p q r s t u:LI0) (hp:∀d∈z.t.aN,d.i 1<=1152921504606846976/\d.i 2<=1152921504606846976):∀(rest pre py ry:LD0) (n:Nat),rest.length<n->(pre++rest).length<=64->pre.length=py.length->rest.length=ry.length->z.t.aN=py++ry->
 zd m n (pre++rest,((pre++rest).length:Int),(pre.length:Int),z.has,z.c,z.n,z.b,z.aG,z.t.a,z.t.b,z.t.n,z.t.aC,z.t.notes,z.t.s0,z.t.s1,z.t.s2,z.t.aN,z.t.tr,p,q,r,s,t,u,gW z.t.n z.t.aN z.t.tr,pn pre py,py.map (fun d=>d.i 2))=some (Uns.enc z++[.d (ofL p q r s t u (z.t.aN.map fun d=>d.i 2) 0 (pn (pre++rest) z.t.aN))]):=by
 intro rest
 induction rest with
 |nil=>
  intro pre py ry n hn hl h1 h2 h3;obtain⟨n,rfl⟩:=ah n (by simp at hn;omega);have hr:ry=[]:=zaB (by simpa using h2.symm);subst hr;simp only[zaK]at hl h3⊢;rw[oq];unfold uo;dsimp only;have hl2:=AV pre py;have k1:(pn pre py).all (fun d=>decide (d.i 1<=1152921504606846976))=true:=zam.2 fun d hd=>by
   obtain⟨y,hy,e⟩:=Ht pre py d hd;exact zaa (by rw[e];exact(hp y (h3▸hy)).1)
  have k2:(py.map (fun d=>d.i 2)).all (fun y=>decide (y<=2305843009213693952))=true:=zam.2 fun d hd=>by
   obtain⟨x,hx,rfl⟩:=za7.1 hd;exact zaa (by have:=(hp x (h3▸hx)).2;omega)
  rw[ay (by omega),k1,k2,zck,zbf,aJ (by omega),<-h3]
 |cons x rest ih=>
  intro pre py ry n hn hl h1 h2 h3;obtain⟨n,rfl⟩:=ah n (by simp at hn;omega);obtain⟨y,ry,rfl⟩:∃y l,ry=y::l:=by
   cases ry with
   |nil=>simp at h2
   |cons y l=>exact⟨y,l,rfl⟩
  have:=ih (pre++[x]) (py++[y]) ry n (by simp at hn;omega) (by simpa using hl) (by simp[h1]) (by simpa using h2) (by rw[h3];simp);rw[CB _ _ _ _ h1,zb5]at this;simp only[zac,zab]at hn hl h2;obtain⟨g1,g2,g3⟩:=NP z.t.n py ry z.t.tr y;rw[<-h3]at g1 g2 g3;have hpl:=AV pre py;rw[oq];unfold uo;dsimp only;rw[aK (by simp only[zab,zac];omega),bQ (by omega) (by simp only[zab,zac];omega),aJ (by simp)];simp only[lt_eq];rw[aa (n:=5*(pre.length:Int)) (by omega) (by omega),aa (n:=10+5*(pre.length:Int)) (by omega) (by omega),aa (n:=10+5*(pre.length:Int)+2) (by omega) (by omega),aa (n:=10+5*(pre.length:Int)+1) (by omega) (by omega),aK (by omega),bQ (by omega) (by omega),aJ (by omega),bD (by omega) (by omega),bQ (by omega) (by omega),aJ (by omega),bD (by rw[zaW];omega) (by rw[zaW];omega)];rw[show(10+5*(pre.length:Int)+1).toNat=11+5*py.length by omega,show(10+5*(pre.length:Int)+2).toNat=12+5*py.length by omega,g1,g2];have hg:ai (pre++x::rest) (pre.length:Int).toNat=x:=by rw[zat];exact ax _ _ _
  have e:w64 ((pre.length:Int)+1)=((pre++[x]).length:Int):=by
   rw[aa (by omega) (by omega)];simp
  rw[hg,e,show pre++x::rest=(pre++[x])++rest by simp];exact this
def f25:aU × LI0 × LI0 × LI0 × LI0 × LI0 × LI0 × aq->Bool × List Un:=fun(a0,a1,a2,a3,a4,a5,a6,a7)=>(cy a7&&(decide (a0.aC.length<=64)&&(decide (a7.has<0)||decide (a0.aC.length=a7.t.aN.length))),Uns.enc ((a7):aq)++[.d (nh a1 a2 a3 a4 a5 a6 a0.aC a7)])
theorem Mg:ER 25 (mkE N25.en N25.ex f25):=ak ae LZ.right (fun m=>[QT (zd m m)]) (t:=t25) (by kernel_rfl) (fun m=>(aI (ab4 m m) az)) (fun m a=>by kernel_rfl) fun(a0,a1,a2,a3,a4,a5,a6,a7) hc=>by
 dsimp only[f25]at hc⊢;simp only[zae,zbj,zag]at hc;obtain⟨hD,hl,ho⟩:=hc;obtain⟨_,_,d6⟩:=j6.1 hD;refine⟨100, ?_⟩;unfold t25 nh iO;refine al (by rw[hD];rfl) ?_
 by_cases h0:a7.has<0
 . rw[zaa h0];exact V0 100 a7 a1 a2 a3 a4 a5 a6 h0 a0.aC [] 100 (by omega) hl
 . rw[zao h0];have hk:=Se (d6.resolve_left h0);rw[zae,zam]at hk;exact Tx 100 a7 a1 a2 a3 a4 a5 a6 (fun d hd=>zaj (hk.2 d hd)) a0.aC [] [] a7.t.aN 100 (by omega) hl rfl (ho.resolve_left h0) rfl
def T25:TB:=LZ.ad Mg
def afj:Int × aU × LI0 × LI0 × LI0 × LI0 × LI0 × LI0 × aq->Bool × List Un:=fun(a0,a1,a2,a3,a4,a5,a6,a7,a8)=>(decide (0<=a0)&&(f25 (a1,a2,a3,a4,a5,a6,a7,a8)).1,(f25 (a1,a2,a3,a4,a5,a6,a7,a8)).2)
def aeD:Pn:=⟨[.np 0 0 0,.agg [.z0,.z0,.z0,.ab (sI 2),.ab (sI 3),.z0,.z0,.z0,.z0,.z0,.z0,.z0,.z0,.z0,.z0,.ab (sI 2),.ab (sI 2),.ab (sI 2)],.agg [.ints .i64,.ints .i64,.ints .i64,.ints .i64,.ints .i64,.ints .i64]],[.cells [.ptr 1 0 0,.np 5 0 0,.buf 4 1,.any],.cells [.ptr 2 0 0,.z0,.bool],.cells [.buf 3 1,.z0,.bool,.z0,.bool],.ints .u8,.ab [.ints .u8]]++aT 5,14⟩
theorem Sg:ER 25 (mkE aeD N25.ex afj):=VU (en:=N25.en) rfl rfl Mg fun n (a0,a1,a2,a3,a4,a5,a6,a7)=>rfl
def XP:TB:=T25.ad Sg
theorem yO {l:LI0} (h:l.all (fun n=>decide (-9223372036854775808<=n/\n<=9223372036854775807))=true):∀n∈l,I64 n:=fun n hn=>by
 have:=zam.1 h n hn;rw[zag]at this;exact this
theorem RP:dK (dG gP)=⟨0,gP⟩:=CT Ke (yO (by kernel_rfl)) rfl
theorem Po:aY (dI 1 mH)=⟨1,0,mH⟩:=qS (by kernel_rfl) (yO (by kernel_rfl)) rfl
def JJ:LD0:=[.r [.n 1,.n 50,.n 0,.n 0,.n 0,.n 0,.n (bI false)]]
theorem Ny:aY (dI 1 JJ)=⟨1,0,JJ⟩:=qS (by kernel_rfl) (yO (by kernel_rfl)) rfl
theorem NI:aY (dI 3 [])=⟨3,0,[]⟩:=qS (by kernel_rfl) (yO (by kernel_rfl)) rfl
theorem zT:gn ⟨0,false,0,false⟩ []=⟨0,0,⟨0,false,0,false⟩,[],F1 eC⟩:=(Live.new ⟨0,false,0,false⟩).opened ⟨0,false,0,false⟩ rfl
def Mt:aq:={kept (1::dG gP) eC with has:=0,t:=dE gP}
theorem HY:o8 (dG gP) eC=⟨[],0,Mt⟩/\Live Mt [1::dG gP]:=
 (Live.new ⟨0,false,0,false⟩).load ⟨rfl,rfl⟩ (by show(-1:Int)<0;decide) RP (by decide)
def rn:aq:={kept (2::dI 1 mH) Mt with has:=0,aG:=[pk (nT (aH (dE gP) mH))],t:=(aH (dE gP) mH).t}
theorem J0:dC (dI 1 mH) Mt=⟨nT (aH (dE gP) mH),0,rn⟩/\Live rn ([1::dG gP]++[2::dI 1 mH]):=
 HY.2.Qh (l:=mH) ⟨rfl,rfl⟩ (by show ¬(0:Int)<0;decide) Po Dh.2.2.2.1 (by decide)
theorem Nb:dC (dI 1 JJ) rn=⟨nT (aH (dE gP) mH),0,rn⟩:=by
 unfold dC;rw[Ny];exact zcm (fun x=>nQ.mk x 0 rn) (y7 _)
theorem M8:dC (dI 3 []) rn=⟨[],4,rn⟩:=by
 unfold dC;rw[NI];rfl
theorem Kw:ij (nT (aH (dE gP) mH))=⟨⟨false,1,0,40,0,0,0,0,0,0,0⟩,⟨0,60,0,0,0⟩,0,true,[.r [.n 1,.n 7,.n 0,.n 40]],[.r [.n 60,.n 0,.n 0]]⟩:=by
 obtain⟨o1,o2,o3,o4,o5,o6⟩:=Dh;unfold nT;rw[o1,o2,o3,o5,o6,decode_encode (by kernel_rfl)];rfl
def N3:aA:=⟨XP.tab,3,⟨[],[],0⟩,⟨[.bool],[],0⟩,[]⟩
def t3 (m:Nat):Unit->OU0:=fun _=>
 chk (decide (([]:LI0).length<900000)&&cF ([]:LI0)&&dn ([]:LI0))<|
 bd ((gn (⟨0,false,0,false⟩:bc) ([]:LI0)):qX) fun r2=>
 bif ((decide (r2.j<0))&&true)then
 some ([.b false])
 else
 bif r2.e !=0 then
 some ([.b false])
 else
 chk (decide (0<=r2.j)&&(mu (dG gP)&&cy (⟨r2.o.has,r2.o.c,r2.n,r2.b,r2.o.aG,r2.o.t⟩:aq)))<|
 bd ((o8 (dG gP) (⟨r2.o.has,r2.o.c,r2.n,r2.b,r2.o.aG,r2.o.t⟩:aq)):nQ) fun r4=>
 bif r4.e !=0 then
 some ([.b false])
 else
 lt ((dI 1 ([.r [.n 1,.n 40,.n 0,.n 0,.n 0,.n 0,.n (bI false)]]:LD0)):LI0) fun l5=>
 chk (decide (0<=r2.j)&&(mu l5&&cy r4.d))<|
 bd ((dC l5 r4.d):nQ) fun r6=>
 lt ((dI 1 ([.r [.n 1,.n 50,.n 0,.n 0,.n 0,.n 0,.n (bI false)]]:LD0)):LI0) fun l7=>
 chk (decide (0<=r2.j)&&(mu l7&&cy r6.d))<|
 bd ((dC l7 r6.d):nQ) fun r8=>
 lt ((dI 3 ([]:LD0)):LI0) fun l9=>
 chk (decide (0<=r2.j)&&(mu l9&&cy r8.d))<|
 bd ((dC l9 r8.d):nQ) fun r10=>
 chk (decide (r6.txt.length<=1000000))<|
 bd ((ij r6.txt):M5) fun r11=>
 bif r6.e==0 then
 bif r8.e==0 then
 chk (decide (r6.txt.length<1099511627776))<|
 bif (gE r6.txt r8.txt)then
 bif r10.e==4 then
 bif r11.ok then
 bif r11.ra.ar==40 then
 chk (decide (0<=r2.j))<|
 some ([.b ((r10.d.aG.length:Int)==1)])
 else
 some ([.b false])
 else
 some ([.b false])
 else
 some ([.b false])
 else
 some ([.b false])
 else
 some ([.b false])
 else
 some ([.b false])
def f3:Unit->Bool × List Un:=fun _=>(true,[.b (true)])
theorem Xx:ER 3 (mkE N3.en N3.ex f3):=ak ae XP.right (fun m=>[]) (t:=t3) (by kernel_rfl) (fun m=>az) (fun m a=>by kernel_rfl) fun _ hc=>by
 dsimp only[f3]at⊢;refine⟨0, ?_⟩;unfold t3;obtain⟨a1,a2⟩:=HY;obtain⟨b1,b2⟩:=J0;refine al rfl (lu fun r2 h2=> ?_);rw[zT]at h2;refine ck (by rw[h2];rfl) (ck (by rw[h2];rfl) ?_);have e2:({has:=r2.o.has,c:=r2.o.c,n:=r2.n,b:=r2.b,aG:=r2.o.aG,t:=r2.o.t}:aq)=eC:=by rw[h2];rfl
 have j2:decide (0<=r2.j)=true:=by rw[h2];rfl
 rw[e2,j2];refine al (by rw[nU];exact(Live.new ⟨0,false,0,false⟩).okD) (lu fun r4 h4=> ?_);rw[a1]at h4;refine ck (by rw[h4];rfl) ?_
 refine al (by rw[iJ,h4];exact a2.okD) (lu fun r6 h6=> ?_);have h6:r6=⟨nT (aH (dE gP) mH),0,rn⟩:=by rw[h6,h4];exact b1
 refine al (by rw[iJ,h6];exact b2.okD) (lu fun r8 h8=> ?_);have h8:r8=⟨nT (aH (dE gP) mH),0,rn⟩:=by rw[h8,h6];exact Nb
 refine al (by rw[iJ,h8];exact b2.okD) (lu fun r10 h10=> ?_);have h10:r10=⟨[],4,rn⟩:=by rw[h10,h8];exact M8
 have hl:=G5 (aH (dE gP) mH);refine al (by rw[h6];exact zaa (show(nT (aH (dE gP) mH)).length<=1000000 by omega)) (lu fun r11 h11=> ?_);rw[h6]at h11;have h11:=h11.trans Kw;refine cq (by rw[h6];rfl) (cq (by rw[h8];rfl) (al (by rw[h6];exact zaa (show(nT (aH (dE gP) mH)).length<1099511627776 by omega)) (cq (by rw[h6,h8];exact(iH _ _).2 rfl) ?_)));exact cq (by rw[h10];rfl) (cq (by rw[h11]) (cq (by rw[h11];rfl) (al rfl (by rw[h10];rfl))))
def T3:TB:=XP.ad Xx
theorem Ao:∀(r:LI0) (acc:LD0),(∀d∈acc,nr2 d=d/\(0<=d.i 0/\d.i 0<=7)/\(0<=d.i 1/\d.i 1<=7))->∀d∈gA acc r,nr2 d=d/\(0<=d.i 0/\d.i 0<=7)/\(0<=d.i 1/\d.i 1<=7)
 |[],acc,h=>h
 |x::r,acc,h=>by
  unfold gA;refine Ao r _ ?_
  split
  . exact h
  . intro d hd;rcases za0.1 hd with hd|hd
    . exact h d hd
    . rw[zbg.1 hd];have w:1<=within x 1 7/\within x 1 7<=7:=aV (by decide);have v:0<=jD x/\jD x<=7:=by
       unfold jD
       split
       . have:0<=within (w64 (x.tdiv 7)) 0 3/\within (w64 (x.tdiv 7)) 0 3<=3:=aV (by decide);omega
       . omega
      exact⟨rfl,⟨by show 0<=within x 1 7;omega,by show within x 1 7<=7;omega⟩,v⟩
theorem oJ (l:LI0):∀d∈jm l,nr2 d=d/\(0<=d.i 0/\d.i 0<=7)/\(0<=d.i 1/\d.i 1<=7):=by
 unfold jm
 split
 . simp only[AS,zaN,zbH,or_false,forall_eq_or_imp,forall_eq];refine⟨?_, ?_, ?_, ?_, ?_, ?_⟩<;>exact⟨rfl,by decide,by decide⟩
 . exact Ao _ [] fun d hd=>absurd hd (by simp)
theorem AW:∀(l:LI0) (i:Nat),∀d∈gg i l,nr2 d=d/\(0<=d.i 0/\d.i 0<=2*(i+l.length)+1)
 |[],i=>by simp[gg]
 |x::l,i=>by
  simp only[gg,zaN,forall_eq_or_imp];refine⟨⟨rfl, ?_⟩,fun d hd=> ?_⟩
  . show 0<=2*(i:Int)+1/\2*(i:Int)+1<=2*((i:Int)+((x::l).length:Int))+1;rw[zac];omega
  . have:=AW l (i+1) d hd;rw[zac];exact⟨this.1,by omega⟩
theorem so (k:cj):∀d∈eQ k,nr2 d=d/\(0<=d.i 0/\d.i 0<=2000):=by
 simp only[eQ,ml,za0,zbg]
 rintro d (h|rfl)
 . have h1:=AW _ _ d h;have:(k.aC.take 10).length<=10:=by rw[zav];omega
   exact⟨h1.1,by omega⟩
 . exact⟨rfl,by decide⟩
theorem mr {f:Dat->Dat}:∀{l:LD0},(∀d∈l,f d=d)->l.map f=l
 |[],_=>rfl
 |x::l,h=>by rw[zaS,h x (by simp),mr fun d hd=>h d (zay _ hd)]
theorem Kh (k:cj):∀d∈im k,nrN d=d:=by
 intro d hd;obtain⟨i,_,rfl⟩:=za7.1 hd;rfl
theorem NH (k:cj):nrD (bF k)=bF k:=by
 unfold nrD;show(⟨_,(eQ k).map nr2,(im k).map nrN,_,(jm k.s0).map nr2,(jm k.s1).map nr2,(jm k.s2).map nr2⟩:aU)=_;rw[mr fun d hd=>(so k d hd).1,mr (Kh k),mr fun d hd=>(oJ k.s0 d hd).1,mr fun d hd=>(oJ k.s1 d hd).1,mr fun d hd=>(oJ k.s2 d hd).1];rfl
theorem I64.of {n:Int} {a b:Int} (h:a<=n/\n<=b) (ha: -9223372036854775808<=a) (hb:b<=9223372036854775807):I64 n:=⟨by omega,by omega⟩
theorem nr {f:Dat->LI0} {l:LD0} (hl:l.length<=1000) (h:∀d∈l,∀n∈f d,I64 n):∀n∈bU f l,I64 n:=by
 intro n hn;rcases zaN.1 hn with rfl|hn
 . exact⟨by omega,by omega⟩
 . obtain⟨d,hd,hn⟩:=List.mem_flatMap.1 hn;exact h d hd n hn
theorem PL (k:cj):∀n∈iB (bF k),I64 n:=by
 have D:=dS (A2 k);have h1:=D.JL;have h2:=D.NV;have h3:=bL D.s0;have h4:=bL D.s1;have h5:=bL D.s2;have st:∀l:LI0,∀d∈jm l,∀n∈dj d,I64 n:=fun l d hd n hn=>by
  obtain⟨_,a,b⟩:=oJ l d hd;simp only[dj,zaN,zbH,or_false]at hn;rcases hn with rfl|rfl
  . exact I64.of a (by decide) (by decide)
  . exact I64.of b (by decide) (by decide)
 intro n hn;simp only[iB,za0]at hn;rcases hn with hn|hn|hn|hn|hn|hn
 . have e1:=D.year;have e2:=D.month;have e3:=D.basis;have e4:=D.fee;have e5:=D.bq;have e6:=D.target;have e7:=D.advance;have e8:=D.eX;have e9:=D.oc;have e10:=D.ic;have e11:=D.late;have e12:=D.kY;have e13:=D.clean;simp only[zaN,zbH,or_false]at hn;unfold I64;rcases hn with h|h|h|h|h|h|h|h|h|h|h|h|h<;>rw[h]<;>omega
 . refine nr (by omega) (fun d hd n hn=> ?_) n hn;have a:=(so k d hd).2;have b:=D.Hf d hd;simp only[dj,zaN,zbH,or_false]at hn;rcases hn with rfl|rfl
   . exact I64.of a (by decide) (by decide)
   . exact I64.of b (by decide) (by decide)
 . refine nr (by omega) (fun d hd n hn=> ?_) n hn;obtain⟨a,b,c⟩:=D.note d hd;simp only[lK,zaN,zbH,or_false]at hn;rcases hn with rfl|rfl|rfl
   . exact I64.of a (by decide) (by decide)
   . exact I64.of b (by decide) (by decide)
   . exact I64.of c (by decide) (by decide)
 . exact nr (zaP h3.2 (by decide)) (st k.s0) n hn
 . exact nr (zaP h4.2 (by decide)) (st k.s1) n hn
 . exact nr (zaP h5.2 (by decide)) (st k.s2) n hn
theorem N1 (k:cj):dK (dG (bF k))=⟨0,bF k⟩:=CT (A2 k) (PL k) (NH k)
theorem Mc (p q r s t u lost:LI0):∀(l:LD0) (i:Int),∀d∈ofL p q r s t u lost i l,nr7 d=d/\∃x∈l,d.i 0=x.i 0
 |[],i=>by simp[ofL]
 |x::l,i=>by
  intro d hd;unfold ofL at hd;rcases za0.1 hd with hd|hd
  . have live:nr7 (ji p q r s t u i x)=ji p q r s t u i x/\(ji p q r s t u i x).i 0=x.i 0:=by
     refine⟨?_,rfl⟩;unfold ji;generalize decide (w64 ((BitVec.ofInt 64 (bB u i)&&&BitVec.ofInt 64 7).toNat)=7)=b;cases b<;>rfl
    have gone:nr7 (jX s lost i x)=jX s lost i x/\(jX s lost i x).i 0=x.i 0:=⟨rfl,rfl⟩
    split at hd
    . simp at hd
    . split at hd<;>rw[zbg.1 hd]
      . exact⟨live.1,x,by simp,live.2⟩
      . exact⟨gone.1,x,by simp,gone.2⟩
  . obtain⟨h1,y,hy,h2⟩:=Mc p q r s t u lost l (i+1) d hd;exact⟨h1,y,zay _ hy,h2⟩
theorem TI {T:af} {l:LD0} (h:(cP T l).e=0):mj l=true:=by
 unfold cP aL at h
 by_cases ht:mj l=true
 . exact ht
 . rw[if_neg ht]at h;cases h
theorem Cc:∀(l:LD0) (last:Int),ky last l=true->∀d∈l,jI (d.i 1) (d.i 2) (d.i 3) (d.i 4) (d.i 5)=true
 |[],_,_=>by simp
 |x::l,last,h=>by
  unfold ky at h
  split at h
  . cases h
  . split at h
    . rename_i hl;intro d hd;rcases zaN.1 hd with rfl|hd
      . exact hl
      . exact Cc l _ h d hd
    . cases h
theorem oE:∀(xs:List (LI0)) (n:Nat),(∀x∈xs,∀y∈x,0<=y/\y<256)->∀y∈bK n xs,0<=y/\y<256
 |[],n,_,y,hy=>absurd hy (by simp[bK])
 |x::xs,n,h,y,hy=>by
  rcases za0.1 hy with hy|hy
  . unfold cQ at hy;simp only[za0]at hy;rcases hy with((hy|hy)|hy)|hy
    . exact rX _ _ y hy
    . exact vi _ y hy
    . exact h x (by simp) y hy
    . exact vi _ y hy
  . exact oE xs (n+1) (fun z hz=>h z (zay _ hz)) y hy
structure Run (d : aU) (i : Nat) (s : aq) (xs : List (List Int)) : Prop where
 live:Live s xs
 len:xs.length=i+1
 up:Up s.n
 has:s.has=0
 aG:s.aG.length=i
 per:s.t.n.period=(i:Int)
 hG:s.t.n.hG=false
 aC:s.t.aC=d.aC
 lI:s.n.lI=(s.b.length:Int)
 small:∀x∈d.aC,0<=x.i 0/\x.i 0<=2000
 byte:∀x∈xs,∀y∈x,0<=y/\y<256
 head:∀x∈xs,(!(x.getD 0 0==3))=true
section
variable {d : aU} {i : Nat} {s : aq} {xs : List (LI0)} (h : Run d i s xs)
include h
theorem Run.Zc:¬s.has<0:=by rw[h.has];decide
theorem Run.ph:ee s.t:=h.live.ok.ph.resolve_left h.Zc
theorem Run.ids:d.aC.map (fun d=>d.i 0)=s.t.aN.map (fun d=>d.i 0):=by rw[h.ph.ids,h.aC]
theorem Run.okL:(cy s&&(decide (d.aC.length<=64)&&(decide (s.has<0)||decide (d.aC.length=s.t.aN.length))))=true:=by
 have h1:=jY h.ph;have h2:d.aC.length=s.t.aN.length:=by have:=zcm List.length h.ids;simpa using this
 rw[h.live.okD,zaa (show d.aC.length<=64 by omega),zaa h2,Bool.or_true];rfl
theorem Run.lines (p q r z t u:LI0):nh p q r z t u d.aC s=qa p q r z t u s.t.aN:=GG h.Zc h.ids
theorem Run.tape (hi:i<600) {l:LD0} (he:(cP s.t l).e=0) (hr:∀e∈l,nr7 e=e/\(0<=e.i 0/\e.i 0<=2000)):aY (dI ((s.aG.length:Int)+1) l)=⟨(s.aG.length:Int)+1,0,l⟩:=by
 have hT:=TI he;have hT':=hT;simp only[mj,zae,zag]at hT';rw[h.aG];refine qS (by unfold ly;rw[hT,zaa (show 1<=(i:Int)+1/\(i:Int)+1<=600 by omega)];rfl) (fun n hn=> ?_) (mr fun e he=>(hr e he).1);unfold gL at hn;rcases zaN.1 hn with rfl|hn
 . exact⟨by omega,by omega⟩
 rcases zaN.1 hn with rfl|hn
 . exact⟨by omega,by omega⟩
 obtain⟨e,he,hn⟩:=List.mem_flatMap.1 hn;have hm:=Cc l 0 hT'.2 e he;have h0:=(hr e he).2;have hb:=(aaD (e.b 6)).1;simp only[jI,zae,zag]at hm;simp only[ng,zaN,zbH,or_false]at hn;unfold I64;rcases hn with h|h|h|h|h|h|h<;>rw[h]<;>omega
theorem Run.next (hi:i<200) {l:LD0} (he:(cP s.t l).e=0) (hr:∀e∈l,nr7 e=e/\(0<=e.i 0/\e.i 0<=2000)):∃s',dC (dI ((i:Int)+1) l) s=⟨nT (aH s.t l),0,s'⟩/\Run d (i+1) s' (xs++[2::dI ((i:Int)+1) l])/\s'.aG=s.aG++[pk (nT (aH s.t l))]/\s'.t=(fc s.t l).t:=by
 have hT:=h.ph;have hp:s.t.n.period<600:=by rw[h.per];omega
 obtain⟨c1,c2,c3,c4,_⟩:=J8 hT h.hG hp he;have hz:(aH s.t l).e=0:=by rw[c1];rfl
 obtain⟨r1,r2⟩:=h.live.Qh h.up h.Zc (h.tape (by omega) he hr) hz (by rw[h.len];omega);rw[h.aG]at r1 r2;refine⟨_,r1,⟨r2,by rw[zab,h.len];rfl,h.up,rfl, ?_, ?_, ?_, ?_,rfl,h.small,fun x hx=> ?_,fun x hx=> ?_⟩,rfl,by show(aH s.t l).t=_;rw[c1]⟩
 . show(s.aG++[_]).length=_;rw[zab,h.aG];rfl
 . show(aH s.t l).t.n.period=_;rw[c1,c4,h.per];omega
 . show(aH s.t l).t.n.hG=_;rw[c1];exact c3
 . show(aH s.t l).t.aC=_;rw[c1];exact h.aC
 . rcases za0.1 hx with hx|hx
   . exact h.byte x hx
   . rw[zbg.1 hx];intro y hy;rcases zaN.1 hy with rfl|hy
     . decide
     . exact(mw.1 (iJ _ _)).2 y hy
 . rcases za0.1 hx with hx|hx
   . exact h.head x hx
   . rw[zbg.1 hx];rfl
theorem Run.made (hi:i<200) (p q r z t u:LI0):∃s',dC (dI ((i:Int)+1) (nh p q r z t u d.aC s)) s=⟨nT (aH s.t (qa p q r z t u s.t.aN)),0,s'⟩/\Run d (i+1) s' (xs++[2::dI ((i:Int)+1) (nh p q r z t u d.aC s)])/\s'.aG=s.aG++[pk (nT (aH s.t (qa p q r z t u s.t.aN)))]/\s'.t=(fc s.t (qa p q r z t u s.t.aN)).t:=by
 rw[h.lines];refine h.next hi (OM h.ph p q r z t u) fun e he=> ?_
 obtain⟨e1,x,hx,e2⟩:=Mc _ _ _ _ _ _ _ _ _ e he;obtain⟨y,hy,rfl⟩:=za7.1 hx;have:y.i 0∈d.aC.map (fun d=>d.i 0):=by rw[h.ids];exact za7.2 ⟨y,hy,rfl⟩
 obtain⟨w,hw,e3⟩:=za7.1 this;have e2:e.i 0=y.i 0:=e2;exact⟨e1,by rw[e2,<-e3];exact h.small w hw⟩
theorem Run.opened:gn s.n s.b=⟨0,0,s.n,s.b,F1 s⟩:=h.live.opened s.n h.up.1
theorem Run.noC:dn s.b=true:=by
 have hx:∀x∈xs,x.length<=60000:=fun x hx=>by have:=h.live.short x hx;omega
 have e:=Db (xs:=xs) [] (by have:=h.live.many;omega) hx fun _=> .inl rfl
 rw[zaK]at e;unfold dn;rw[h.live.bytes,e];refine zam.2 fun d hd=> ?_
 obtain⟨x,hx,rfl⟩:=za7.1 hd;rw[y7];exact h.head x hx
theorem Run.aez:(decide (s.b.length<900000)&&cF s.b)=true:=by
 have:=h.live.len;rw[zaa (show s.b.length<900000 by omega),zbb];refine ez.2 ⟨by omega, ?_⟩;rw[h.live.bytes];exact oE xs 0 h.byte
theorem Run.okB:(decide (s.b.length<900000)&&cF s.b&&dn s.b)=true:=by rw[h.aez,h.noC];rfl
end
theorem YH (T:af):(cP T []).e=0:=rfl
theorem N9 {s:aq} (h:s.has<0\/ee s.t):(iO s).length<=400:=by
 unfold iO
 by_cases h0:s.has<0
 . rw[zaa h0];exact zbt _
 rw[zao h0,zal];have h1:=jY (h.resolve_left h0);have h2:=fF (h.resolve_left h0);unfold gW;simp only[zab,mf nM 5 (fun _=>rfl),mf tU 3 (fun _=>rfl),zac,zar];omega
theorem Run.yX {d:aU} {i:Nat} {s:aq} {xs:List (LI0)} (h:Run d i s xs):(iO s).length<1099511627776:=by
 have:=N9 (s:=s) h.live.ok.ph;omega
theorem Run.load (k:cj):∃s',o8 (dG (bF k)) eC=⟨[],0,s'⟩/\Run (bF k) 0 s' [1::dG (bF k)]:=by
 obtain⟨r1,r2⟩:=(Live.new ⟨0,false,0,false⟩).load (d:=bF k) ⟨rfl,rfl⟩ (by show(-1:Int)<0;decide) (N1 k) (by decide);refine⟨_,r1,r2,rfl,⟨rfl,rfl⟩,rfl,rfl,rfl,rfl,rfl,rfl,fun x hx=>(so k x hx).2,fun x hx y hy=> ?_,fun x hx=>by rw[zbg.1 hx];rfl⟩;rw[zbg.1 hx]at hy;rcases zaN.1 hy with rfl|hy
 . decide
 . exact(mw.1 (nU _)).2 y hy
theorem Hs:∀(l:LI0) (i:Nat) (v:Int),i<l.length->(l.set i v).sum=l.sum+v-l.getD i 0
 |[],i,v,h=>by simp at h
 |x::l,0,v,_=>by simp only[List.set_cons_zero,zbs,zaO];omega
 |x::l,i+1,v,h=>by
  have:=Hs l i v (by simpa using h);simp only[zbR,zbs,zaE,this];omega
theorem GP {l:LI0} {i:Nat} {v:Int} (h:i<l.length) (hv:0<=v/\v<256) (ho:0<=l.getD i 0/\l.getD i 0<256) (hn:v≠l.getD i 0):cK (l.set i v)≠cK l:=by
 unfold cK;rw[Hs l i v h];omega
theorem LN {n v:Int} {i:Nat} (hi:i<2) (hn:v≠(fg n).getD i 0):dv ((fg n).set i v)≠dv (fg n):=by
 have:i=0\/i=1:=by omega
 rcases this with rfl|rfl
 . have hn:v≠n/256%256:=hn;show(0*256+v)*256+n%256≠(0*256+n/256%256)*256+n%256;omega
 . have hn:v≠n%256:=hn;show(0*256+n/256%256)*256+v≠(0*256+n/256%256)*256+n%256;omega
theorem L5 {H T Z:LI0} (a:Int) (hH:H.length=6) (hT:T.length=2) (h:cK H≠dv T):(lD (H++(T++Z)) a).how=2:=by
 have e6:(H++(T++Z)).take 6=H:=by rw[<-hH];exact zbQ
 have e2:((H++(T++Z)).drop 6).take 2=T:=by rw[<-hH,za8,<-hT];exact zbQ
 have hl:¬((H++(T++Z)).length:Int)<8:=by simp only[zab];omega
 unfold lD;rw[e6,e2,zao hl,bne_iff_ne.2 h];rfl
theorem My {H T X U Z:LI0} (a:Int) (hH:H.length=6) (hT:T.length=2) (hU:U.length=2) (h1:cK H=dv T) (h2:dv (H.take 2)=(X.length:Int)) (h3:X.length<=60000) (h:cK X≠dv U):(lD (H++(T++(X++(U++Z)))) a).how=2:=by
 have e6:(H++(T++(X++(U++Z)))).take 6=H:=by rw[<-hH];exact zbQ
 have d6:(H++(T++(X++(U++Z)))).drop 6=T++(X++(U++Z)):=by rw[<-hH];exact za8
 have e2:(T++(X++(U++Z))).take 2=T:=by rw[<-hT];exact zbQ
 have d8:(H++(T++(X++(U++Z)))).drop 8=X++(U++Z):=by
  rw[show 8=6+2 from rfl,<-zca,d6,<-hT];exact za8
 have el:(H++(T++(X++(U++Z)))).take 2=H.take 2:=zb1 (by omega);have et:(X++(U++Z)).take X.length=X:=zbQ;have eu:((H++(T++(X++(U++Z)))).drop (8+X.length)).take 2=U:=by
  rw[<-zca,d8,za8,<-hU];exact zbQ
 have hl:(H++(T++(X++(U++Z)))).length=10+X.length+Z.length:=by simp only[zab];omega
 unfold lD;rw[e6,d6,e2,el,h1,zcd,h2,zat,d8,et,eu,bne_iff_ne.2 h,hl,zao (by omega),zao (by omega),zao (by omega)];rfl
theorem oH {a b:LI0} {i:Nat} (h:i<a.length):(a++b).getD i 0=a.getD i 0:=by
 simp only[zaf];rw[zax h]
theorem od {a b:LI0} {i:Nat} (h:a.length<=i):(a++b).getD i 0=b.getD (i-a.length) 0:=by
 simp only[zaf];rw[zaJ h]
theorem nO {l:LI0} (h:∀x∈l,0<=x/\x<256) {i:Nat} (hi:i<l.length):0<=l.getD i 0/\l.getD i 0<256:=by
 rw[zaf,zah hi];exact h _ (zbw hi)
theorem Dv {s:Int} {x:LI0} {i:Nat} {v:Int} (rest:LI0) (a:Int) (hx:x.length<=60000) (hb:∀y∈x,0<=y/\y<256) (hi:i<x.length+10) (hv:0<=v/\v<256) (hn:v≠(cQ s x).getD i 0):(lD ((cQ s x).set i v++rest) a).how=2:=by
 have hH:=ui s x;have n6:dv (fg (cK (di s x)))=cK (di s x):=by rw[nA];have:=yf (di s x);omega
 have nx:dv (fg (cK x))=cK x:=by rw[nA];have:=yf x;omega
 have n2:dv ((di s x).take 2)=(x.length:Int):=by
  show dv (fg (x.length:Int))=_;rw[nA];omega
 have hs:cQ s x=di s x++(fg (cK (di s x))++(x++fg (cK x))):=by simp[cQ]
 rw[hs]at hn⊢;have hT:(fg (cK (di s x))).length=2:=rfl;have hU:(fg (cK x)).length=2:=rfl
 by_cases c1:i<6
 . rw[oH (by omega)]at hn;rw[List.set_append_left _ _ (by omega),zaq,zaq];exact L5 a (by rw[za1];exact hH) rfl (by rw[n6];exact GP (by omega) hv (nO (rX s x) (by omega)) hn)
 rw[od (by omega)]at hn;rw[List.set_append_right _ _ (by omega)]
 by_cases c2:i<8
 . rw[oH (by omega)]at hn;rw[List.set_append_left _ _ (by omega),zaq,zaq];exact L5 a hH (by rw[za1];rfl) (fun e=>LN (by omega) hn (by rw[<-e,n6]))
 rw[od (by omega)]at hn;rw[List.set_append_right _ _ (by omega)]
 by_cases c3:i<8+x.length
 . rw[oH (by omega)]at hn;rw[List.set_append_left _ _ (by omega),zaq,zaq,zaq];exact My a hH rfl rfl n6.symm (by rw[za1];exact n2) (by rw[za1];exact hx) (by rw[nx];exact GP (by omega) hv (nO hb (by omega)) hn)
 . rw[od (by omega)]at hn;rw[List.set_append_right _ _ (by omega),zaq,zaq,zaq];exact My a hH rfl (by rw[za1];rfl) n6.symm n2 hx (fun e=>LN (by omega) hn (by rw[<-e,nx]))
theorem vX {b:LI0} {v:Int} (hv:0<=v/\v<256):∀(xs:List (LI0)) (n:Nat) (acc:LD0) (pre:LI0) (i j:Nat),b=pre++(bK n xs).set i v->i<(bK n xs).length->v≠(bK n xs).getD i 0->acc.length=n->n+xs.length<4294967295->(∀x∈xs,x.length<=60000)->(∀x∈xs,∀y∈x,0<=y/\y<256)->
 jz (xs.length+j) b (pre.length:Int) acc=⟨[],0,false⟩
 |[],n,acc,pre,i,j,_,h,_,_,_,_,_=>by simp[bK]at h
 |x::xs,n,acc,pre,i,j,hb,hi,hne,ha,hn,hx,hy=>by
  have hl:=hx x (by simp);rw[zac]at hn;have hsl:=lS ((n:Int)+1) x;rw[bK]at hb hi hne;rw[zab]at hi;have hlen:pre.length+10<=b.length:=by rw[hb,zab,za1,zab];omega
  rw[zac,show xs.length+1+j=xs.length+j+1 by omega];simp only[jz];rw[zaa (show(pre.length:Int)<(b.length:Int) by omega),zaw]
  by_cases c:i<(cQ ((n:Int)+1) x).length
  . rw[List.set_append_left _ _ c]at hb;rw[oH c]at hne;have ho:(dT b (pre.length:Int)).how=2:=by
     rw[pG (by omega) (by omega),zat]
     conv=>lhs;rw[hb,za8]
     exact Dv _ _ hl (hy x (by simp)) (by omega) hv hne
    rw[ho];rfl
  . rw[List.set_append_right _ _ (by omega)]at hb;rw[od (by omega)]at hne;have ho:dT b (pre.length:Int)=⟨x,(n:Int)+1,(pre.length:Int)+10+(x.length:Int),0⟩:=by
     rw[pG (by omega) (by omega),zat]
     conv=>lhs;rw[hb,za8]
     exact Bi _ _ (by omega) (by omega) hl
    have ih:=vX (b:=b) hv xs (n+1) (acc++[pk x]) (pre++cQ ((n:Int)+1) x) (i-(cQ ((n:Int)+1) x).length) j (by rw[hb,zaq]) (by omega) hne (by simp[ha]) (by omega) (fun y h=>hx y (zay _ h)) (fun y h=>hy y (zay _ h));rw[ho];dsimp only;rw[show((0:Int)==1)=false from rfl,show((0:Int)==2)=false from rfl,zal,zal,ha,zcd,zal];have e:(pre.length:Int)+10+(x.length:Int)=((pre++cQ ((n:Int)+1) x).length:Int):=by rw[zab,hsl];omega
    rw[e];exact ih
def xA (a x:Int):Int:=wu8 ((BitVec.ofInt 8 a^^^BitVec.ofInt 8 x).toNat)
theorem ofInt8 {a:Int} (h:0<=a/\a<256):((BitVec.ofInt 8 a).toNat:Int)=a:=by
 rw[zbB];omega
theorem yp (a x:Int):BitVec.ofInt 8 (xA a x)=BitVec.ofInt 8 a^^^BitVec.ofInt 8 x:=by
 unfold xA;rw[u8m];apply BitVec.eq_of_toNat_eq;rw[zbB];have:=(BitVec.ofInt 8 a^^^BitVec.ofInt 8 x).isLt;omega
theorem yw (a x:Int):0<=xA a x/\xA a x<256:=u8_in _
theorem YM {a b:Int} (ha:0<=a/\a<256) (hb:0<=b/\b<256) (h:BitVec.ofInt 8 a=BitVec.ofInt 8 b):a=b:=by
 have:=zcm (fun z:BitVec 8=>(z.toNat:Int)) h;rw[ofInt8 ha,ofInt8 hb]at this;exact this
theorem ZC {a:Int} (ha:0<=a/\a<256):xA a 0=a:=YM (yw a 0) ha (by rw[yp];simp)
theorem Xw {a:Int} (x:Int) (ha:0<=a/\a<256):xA (xA a x) x=a:=YM (yw _ x) ha (by rw[yp,yp,BitVec.xor_assoc,BitVec.xor_self,BitVec.xor_zero])
theorem UD {a x:Int} (ha:0<=a/\a<256) (hx:0<=x/\x<256) (h0:x≠0):xA a x≠a:=fun h=>by
 have e:BitVec.ofInt 8 a^^^BitVec.ofInt 8 x=BitVec.ofInt 8 a:=by rw[<-yp,h]
 have:BitVec.ofInt 8 x=BitVec.ofInt 8 0:=by
  have:=zcm (fun z=>BitVec.ofInt 8 a^^^z) e;simp only[<-BitVec.xor_assoc,BitVec.xor_self,BitVec.zero_xor]at this;rw[this];rfl
 exact h0 (YM hx (by omega) this)
theorem VN {x:Int} (h:(Lit.int .u8 x).wf=true):0<=x/\x<256:=by
 simp[Lit.wf,IntKind.min,IntKind.max,IntKind.bits,IntKind.signed]at h;omega
theorem lT (l:LI0) (a x:Int):cv l a x=l.set a.toNat (xA (l.getD a.toNat 0) x):=rfl
theorem th {l:LI0} {i:Nat} {v:Int} (h:v=l.getD i 0):l.set i v=l:=by
 by_cases hi:i<l.length
 . subst h;apply zby;intro k;rw[zbo]
   split
   . rename_i e;subst e;rw[zaf,zah hi];rfl
   . rfl
 . exact List.set_eq_of_length_le (by omega)
theorem xY {l:LI0} {a:Int} (hb:∀y∈l,0<=y/\y<256) (ha:0<=a/\a<(l.length:Int)):cv l a 0=l:=by
 rw[lT];exact th (ZC (nO hb (by omega)))
theorem Lt {l:LI0} {a:Int} (x:Int) (hb:∀y∈l,0<=y/\y<256) (ha:0<=a/\a<(l.length:Int)):cv (cv l a x) a x=l:=by
 rw[lT,lT];have hi:a.toNat<l.length:=by omega
 have e:(l.set a.toNat (xA (l.getD a.toNat 0) x)).getD a.toNat 0=xA (l.getD a.toNat 0) x:=by
  rw[zaf,List.getElem?_set_self hi];rfl
 rw[e,List.set_set,Xw x (nO hb hi)];exact th rfl
theorem si (l:LI0) (a x:Int):(cv l a x).length=l.length:=by rw[lT,za1]
theorem vT {l:LI0} (a x:Int) (hb:∀y∈l,0<=y/\y<256):∀y∈cv l a x,0<=y/\y<256:=by
 intro y hy;rw[lT]at hy;rcases zbM hy with h|h
 . exact hb y h
 . rw[h];exact yw _ _
section
variable {d : aU} {i : Nat} {s : aq} {xs : List (LI0)} (h : Run d i s xs)
include h
theorem Run.bb:∀y∈s.b,0<=y/\y<256:=by
 rw[h.live.bytes];exact oE xs 0 h.byte
theorem Run.b10:10<=s.b.length:=by
 have:=(kM xs 0 h.live.short).1;rw[h.live.bytes];have:=h.len;omega
theorem Run.MH {a:Int} (ha:0<=a/\a<(s.b.length:Int)):ir s.n s.b a=true:=by
 unfold ir;rw[h.up.1,h.lI,zao (Int.lt_irrefl _),zaa ha];rfl
theorem Run.wc {a x:Int} (ha:0<=a/\a<(s.b.length:Int)) (hx:0<=x/\x<256) (h0:x≠0):cG (cv s.b a x)=⟨[],0,false⟩:=by
 have hs:∀x∈xs,x.length<=60000:=fun x hx=>by have:=h.live.short x hx;omega
 have hi:a.toNat<s.b.length:=by omega
 have hl:=(kM xs 0 h.live.short).1;obtain⟨j,hj⟩:∃j,(cv s.b a x).length+1=xs.length+j:=⟨(cv s.b a x).length+1-xs.length,by rw[si,h.live.bytes];omega⟩
 unfold cG;rw[hj];have e:=h.live.bytes;refine vX (v:=xA (s.b.getD a.toNat 0) x) (yw _ _) xs 0 [] [] a.toNat j ?_ (by rw[<-e];exact hi) ?_ rfl (by have:=h.live.many;omega) hs h.byte
 . rw[lT,<-e];rfl
 . rw[<-e];exact UD (nO h.bb hi) hx h0
theorem Run.spoilt {a x:Int} (ha:0<=a/\a<(s.b.length:Int)) (hx:0<=x/\x<256) (h0:x≠0):gn s.n (cv s.b a x)=⟨-1,8,s.n,cv s.b a x,noO⟩:=by
 unfold gn ta;rw[h.up.1,h.wc ha hx h0];rfl
theorem Run.B3 {a x:Int} (ha:0<=a/\a<(s.b.length:Int)) (hx:0<=x/\x<256) (h0:x≠0):dn (cv s.b a x)=true:=by
 unfold dn;rw[h.wc ha hx h0];rfl
end
end
end Go.Proofs.YtfaojedfnjdnnaaGreat
