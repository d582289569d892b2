/- Run over a field that is made gives the document's lists. -/
import Derived.Test.YteaimnemobnknaaML1
import Derived.Test.YteaimnemobnknaaMJ3
import Derived.Test.YteaimnemobnknaaME1
import Derived.Test.YteaimnemobnknaaX0
import Derived.Test.YteaimnemobnknaaZ3
set_option linter.unusedSimpArgs false
set_option linter.unusedVariables false
set_option maxRecDepth 100000
set_option maxHeartbeats 4000000
namespace Go.Proofs.Yteaimnemobnknaa
open Go.RowKit Go.Lib
structure FieldG(Q V N:Nat):Prop where
 pr:Prm Q
 od:Ord V N Q
 v:V<Q
 n1:1<=N
 nq:N<Q
 lo:1099511627776<Q
 q:Q<=2199023255552
theorem fieldG{o q v:Nat}(F:FieldQ o q)(W:WofA o q v):FieldG q v o:=by
 obtain⟨a,a2,aq,hv,hg,-⟩:=W
 have hp:=F.pr
 have hlo:=F.lo
 have hq0:NeZero q:=⟨by omega⟩
 have o1:=F.o1
 have ob:=F.ob
 have hhi:=F.hi
 have hvl:v<q:=by rw[hv];exact Nat.mod_lt _ (by omega)
 have h1:v^o%q=1:=by
  have:=one_pw hp.1 (fermat hp (a:=a) (λhd=>by have:=Nat.le_of_dvd (by omega) hd;omega))
  rw[hv]
  unfold pmod
  rw[<-Nat.pow_mod,<-Nat.pow_mul,Nat.div_mul_cancel F.dvd]
  exact this
 refine⟨hp,ord_of (by omega) (by omega) (by omega) h1 λr hr=>?_,hvl,o1,by omega,hlo,by omega⟩
 unfold goodW goodL at hg
 have:=List.all_eq_true.1 hg r hr
 intro he
 unfold pmod at this
 rw[he] at this
 simp at this
structure PlanG(Q V O:Nat)(kind:Int)(N:Nat)(r:Int)(q:Fo):Prop where
 fo:FieldG Q V O
 ck:checkE kind N r q N=0
 le:N<=512
 rt:∀x∈(kind,(N:Int),r)::q.flat,rootN x.1 x.2.1∣O
theorem PlanG.n1{Q V O:Nat}{kind:Int}{N:Nat}{r:Int}{q:Fo}(P:PlanG Q V O kind N r q):1<=N:=by
 have:=(check_fine (B:=512) (by omega) P.ck (by have:=P.le;omega)).2.2
 omega
theorem PlanG.dvd{Q V O:Nat}{kind:Int}{N:Nat}{r:Int}{q:Fo}(P:PlanG Q V O kind N r q):N∣O:=by
 have:=root_dvd (P.rt _ (List.mem_cons_self ..))
 exact this
section
variable {Q V O : Nat} {kind : Int} {N : Nat} {r : Int} {q : Fo}
theorem PlanG.lawOk(P:PlanG Q V O kind N r q):(fieldV Q V O).Ok Mem.plain:=field_ok Q V O P.fo.pr (by have:=P.fo.lo;omega) (by have:=P.fo.q;omega) (by have:=P.fo.q;have:=P.fo.v;omega) P.fo.n1 (by have:=P.fo.q;have:=P.fo.nq;omega)
theorem PlanG.planC(P:PlanG Q V O kind N r q):PlanC Mem.plain (fieldV Q V O) kind N r q N (nodeR (fieldV Q V O) kind N r q):=by
 have h:=(plans_all P.lawOk (.cons kind N r q .nil) (check_fine (B:=512) (by omega) P.ck (by have:=P.le;omega)).1).1
 have e:(N:Int).toNat=N:=Int.toNat_natCast N
 rw[e] at h
 exact h
theorem PlanG.node(P:PlanG Q V O kind N r q){s:Int}(hs:s=1\/s=-1){x:Nat->Int}(hx:InQ Q x)(j:Nat)(hj:j<N):nodeR (fieldV Q V O) kind N r q s x j=((rdF Q V O N s x j:Nat):Int):=by
 have hq0:NeZero Q:=⟨by have:=P.fo.pr.1;omega⟩
 have H:=hom_law P.fo.pr P.fo.od P.fo.nq
 have hD:=(runs_dft H (.cons kind N r q .nil) (check_fine (B:=512) (by omega) P.ck (by have:=P.le;omega)).1 (λy hy=>P.rt y (by simpa[Fo.flat] using hy))).1 s hs x j (by rw[Int.toNat_natCast];exact hj)
 have hin:0<=nodeR (fieldV Q V O) kind N r q s x j/\nodeR (fieldV Q V O) kind N r q s x j<Q:=P.planC.cl s x hx j
 have hlt:=rdF_lt (v:=V) (o:=O) (n:=N) P.fo.pr.1 s x j
 refine hq_inj hin.1 hin.2 (by omega) (by omega) ?_
 rw[rdF_dft P.fo.pr P.fo.od P.fo.nq P.n1 P.dvd hs x j]
 rw[Int.toNat_natCast] at hD
 exact hD
theorem PlanG.rd_in(P:PlanG Q V O kind N r q)(s:Int)(x:Nat->Int):InQ Q (λj=>((rdF Q V O N s x j:Nat):Int)):=λj=>by
 have hlt:=rdF_lt (v:=V) (o:=O) (n:=N) P.fo.pr.1 s x j
 show 0<=((rdF Q V O N s x j:Nat):Int)/\((rdF Q V O N s x j:Nat):Int)<Q
 omega
theorem PlanG.rng(P:PlanG Q V O kind N r q){x:Nat->Int}(h:InQ Q x):Rng x:=λi=>by
 have:=h i
 have:=P.fo.q
 omega
theorem Run_g(P:PlanG Q V O kind N r q)(s:Int)(hs:s=1\/s=-1)(hc:q.count<=549755813888)(w:World)(A:Option Addr)(c:Nat)(X:Option Addr)(cx:Nat)(x:Nat->Int)(hk:Kids w A 0 q)(hX:IntsAt w X N x)(hx:InQ Q x):
  Calls Try.prog 16 #[.iface 60 (rgV Q V O),plV kind N r A q.len c,.slice X N cx,.int .i64 s] w λz w'=>∃g,z=.returned (.tuple #[.slice (some ⟨g,0,none⟩) N N,.int .i64 0])/\w.heap.size<=g/\IntsAt w' (some ⟨g,0,none⟩) N (λj=>((rdF Q V O N s x j:Nat):Int))/\Below w.heap.size w w':=by
 have hch:ChkC kind N r q N 0:=by have:=Check_any kind N r q N hc;rw[P.ck] at this;exact this
 refine(Run_r P.lawOk kind r q N _ P.planC hch s hs w A c X cx x hk hX hx trivial).mono ?_
 rintro z w' ⟨g,rfl,hg,ho,hon⟩
 exact⟨g,rfl,hg,ho.ints.congr λj hj=>P.node hs hx j hj,hon.fr⟩
end
theorem remF_in(q:Nat)(q1:1<=q)(f:Nat->Int):InQ q (remF q f):=λi=>
 ⟨Int.emod_nonneg (f i) (by omega),Int.emod_lt_of_pos (f i) (by omega)⟩
theorem ord_check{kind n r:Int}{q:Fo}{o:Nat}(h:ordR kind n r q=(o,0)):checkE kind n r q n=0:=by
 unfold ordR at h
 by_cases he:checkE kind n r q n=0
 ·exact he
 ·rw[if_pos he] at h
  exact absurd (congrArg Prod.snd h) he
theorem planG{kind:Int}{N:Nat}{r:Int}{q:Fo}{o Q v:Nat}(F:FieldQ o Q)(W:WofA o Q v)(ho:ordR kind N r q=(o,0))(hN:N<=512):PlanG Q v o kind N r q:=⟨fieldG F W,ord_check ho,hN,ordR_dvd ho⟩
theorem Exact_any(kind:Int)(N:Nat)(r:Int)(q:Fo)(s:Int)(hs:s=1\/s=-1)(hc:q.count<=549755813888)(o Q:Nat)(F:FieldQ o Q)(ho:ordR kind N r q=(o,0))(hN:N<=512)(w:World)(B:Option Addr)(c:Nat)(hk:Kids w B 0 q)(A:Option Addr)(cm:Nat)(f:Nat->Int)(hI:IntsAt w A N f)(hR:Rng f):
  Calls Try.prog 32 #[plV kind N r B q.len c,.slice A N cm,.int .i64 s] w λz w'=>∃(v g:Nat),WofA o Q v/\z=.returned (.tuple #[.slice (some ⟨g,0,none⟩) N N,rgV Q v o,.int .i64 0])/\IntsAt w' (some ⟨g,0,none⟩) N (λj=>((rdF Q v o N s (remF Q f) j:Nat):Int))/\Below w.heap.size w w':=by
 have HO:=aZ (λw h=>Order_any kind N r q hc w B c h)
 rw[ho] at HO
 have HMK:=aZ (λw=>Make_any o Q F w)
 have hlo:=F.lo
 have hhi:=F.hi
 have ob:=F.ob
 have HEL:=aZ (λ(v:Nat) w h=>melements_any Q v o (by omega) (by omega) A N cm f w h hR (by omega))
 have HRU:=aZ (λ(v:Nat) (W:WofA o Q v) (w:World) (h:Kids w B 0 q) (X:Option Addr) (hX:IntsAt w X N (remF Q f))=>Run_g (planG F W ho hN) s hs hc w B c X N (remF Q f) h hX (remF_in Q (by omega) f))
 have HK:=aZ hk
 have HI:=aZ hI
 obtain⟨W0,hW0⟩:∃W0,W0=(w.alloc (.cells #[.int .i64 kind,.int .i64 N,.int .i64 r,.slice B q.len c] 26)).alloc (.cells #[.int .i64 0,.int .i64 0,.int .i64 0] 60):=⟨_,rfl⟩
 have hb0:Below w.heap.size w W0:=by rw[hW0];exact((Below.refl _ w).alloc (Nat.le_refl _) _).alloc (by simp) _
 have hp0:PlBox W0 w.heap.size kind N r B q.len c:=by
  rw[hW0]
  exact(PlBox.new w _ _ _ _ _ _ _).below ((Below.refl _ _).alloc (Nat.le_refl _) _)
 have hr0:RB W0 (w.heap.size+1):=by
  rw[hW0]
  have:=RB.new (w.alloc (.cells #[.int .i64 kind,.int .i64 N,.int .i64 r,.slice B q.len c] 26)) 60
  simp only[World.size_alloc] at this
  exact this
 have HB0:=aZ hb0
 have HP0:=aZ hp0
 have HR0:=aZ hr0
 obtain⟨p0,p1,p2,p3⟩:=hp0
 clear hI hR hk hb0 hr0 hc ho F
 go_enter Try.func32,Try.ntmps32
 go_wp2_with fail
 try rw[<-hW0]
 refine(HO.out W0 (HK.out.below HB0.out)).mono ?_
 rintro z w1 ⟨rfl,hb1⟩
 have HB1:=aZ (HB0.out.trans (hb1.mono HB0.out.size))
 have HR1:=aZ (HR0.out.below hb1)
 have HP1:=aZ (HP0.out.below hb1)
 clear hb1 hW0 HO p0 p1 p2 p3 HP0 HR0 HB0
 go_wp2_with fail
 refine(HMK.out w1).mono ?_
 rintro z w2 ⟨v,hv,rfl,hb2⟩
 have HV:=aZ hv
 have HB2:=aZ (HB1.out.trans (hb2.mono HB1.out.size))
 have HR2:=aZ (HR1.out.below hb2)
 have HP2:=aZ (HP1.out.below hb2)
 have HELv:=aZ (HEL.out v)
 have HRUv:=aZ (HRU.out v hv)
 clear hb2 hv HMK HEL HRU HR1 HP1 HB1
 go_upto_region 5 with(fail)
 obtain⟨w3,hw3⟩:∃w3,w3=w2.alloc (.cells #[.int .i64 Q,.int .i64 v,.int .i64 o] 60):=⟨_,rfl⟩
 have hb3:Below w2.heap.size w2 w3:=by rw[hw3];exact(Below.refl _ w2).alloc (Nat.le_refl _) _
 have hT3:=Tri.new w2 (Q:Int) v o 60
 rw[<-hw3] at hT3|-
 obtain⟨bF,hbF⟩:∃bF,w2.heap.size=bF:=⟨_,rfl⟩
 have HNE:Hid (w.heap.size+1≠bF):=aZ (by have:=HR2.out.l;omega)
 rw[hbF] at hT3|-
 have HB3:=aZ (HB2.out.trans (hb3.mono HB2.out.size))
 have HR3:=aZ (HR2.out.below hb3)
 have HP3:=aZ (HP2.out.below hb3)
 have HT3:=aZ hT3
 clear hw3 hb3 hbF HR2 HP2 HB2 hT3
 go_upto_region 7 with(fail)
 obtain⟨t0,t1,t2⟩:=HT3.out
 obtain⟨p0,p1,p2,p3⟩:=HP3.out
 refine wp_region_T (λw'=>w'.cell? ⟨bF,0,none⟩=some (.int .i64 Q)/\w'.cell? ⟨bF,1,none⟩=some (.int .i64 v)/\w'.cell? ⟨bF,2,none⟩=some (.int .i64 o)/\w'.cell? ⟨w.heap.size,0,none⟩=some (.int .i64 kind)/\w'.cell? ⟨w.heap.size,1,none⟩=some (.int .i64 N)/\w'.cell? ⟨w.heap.size,2,none⟩=some (.int .i64 r)/\w'.cell? ⟨w.heap.size,3,none⟩=some (.slice B q.len c)) 12 ⟨t0,t1,t2,p0,p1,p2,p3⟩ (λhS0=>?_)
 refine Takes.intro [0,1,2,3,4,6] ?_
 repeat(refine Takes.go (v:=?_) hS0 ?_;try simp only[nrm,Act.put])
 refine Takes.nil ?_
 refine wpAnyS_1 5 (λK hK=>?_)
 go_simp
 refine(HELv.out _ (HI.out.keep HB3.out.drew)).mono ?_
 rintro z w4 ⟨g4,rfl,hi4,hb4⟩
 have hb34:Below w3.heap.size w3 w4:=(Below.refl _ w3).drew.trans hb4
 have HI4:=aZ hi4
 have HB4:=aZ (HB3.out.trans (hb34.mono HB3.out.size))
 have hS1:(λw'=>w'.cell? ⟨bF,0,none⟩=some (.int .i64 Q)/\w'.cell? ⟨bF,1,none⟩=some (.int .i64 v)/\w'.cell? ⟨bF,2,none⟩=some (.int .i64 o)/\w'.cell? ⟨w.heap.size,0,none⟩=some (.int .i64 kind)/\w'.cell? ⟨w.heap.size,1,none⟩=some (.int .i64 N)/\w'.cell? ⟨w.heap.size,2,none⟩=some (.int .i64 r)/\w'.cell? ⟨w.heap.size,3,none⟩=some (.slice B q.len c)) w4:=⟨keep_cell hb34 t0,keep_cell hb34 t1,keep_cell hb34 t2,keep_cell hb34 p0,keep_cell hb34 p1,keep_cell hb34 p2,keep_cell hb34 p3⟩
 refine hK.out _ _ (λ_=>hS1) ?_
 clear hK K
 try simp only[nrm,Act.put]
 refine wpAnyS_1 7 (λK hK=>?_)
 go_simp
 refine(HRUv.out w4 (HK.out.below HB4.out) _ HI4.out).mono ?_
 rintro z w5 ⟨g5,rfl,hg5,hi5,hb5⟩
 have hb35:Below w3.heap.size w3 w5:=hb34.trans (hb5.mono hb34.size)
 have HI5:=aZ hi5
 have HB5:=aZ (HB3.out.trans (hb35.mono HB3.out.size))
 have hS2:(λw'=>w'.cell? ⟨bF,0,none⟩=some (.int .i64 Q)/\w'.cell? ⟨bF,1,none⟩=some (.int .i64 v)/\w'.cell? ⟨bF,2,none⟩=some (.int .i64 o)/\w'.cell? ⟨w.heap.size,0,none⟩=some (.int .i64 kind)/\w'.cell? ⟨w.heap.size,1,none⟩=some (.int .i64 N)/\w'.cell? ⟨w.heap.size,2,none⟩=some (.int .i64 r)/\w'.cell? ⟨w.heap.size,3,none⟩=some (.slice B q.len c)) w5:=⟨keep_cell hb35 t0,keep_cell hb35 t1,keep_cell hb35 t2,keep_cell hb35 p0,keep_cell hb35 p1,keep_cell hb35 p2,keep_cell hb35 p3⟩
 refine hK.out _ _ (λ_=>hS2) ?_
 clear hK K
 try simp only[nrm,Act.put]
 refine Takes.intro [8,9,10,11] ?_
 repeat(refine Takes.go (v:=?_) hS2 ?_;try simp only[nrm,Act.put])
 refine Takes.nil ?_
 refine wpAnyS_fin 1 12 ?_
 simp only[nrd]
 have HR5:=aZ (HR3.out.below hb35)
 have HNE5:Hid (g5≠w.heap.size+1):=aZ (by have h1:=HR3.out.l;have h2:=hb34.size;omega)
 obtain⟨t0,t1,t2,-⟩:=hS2
 clear hS0 hS1 hg5 hb34 hb35 hb5 hi5 hb4 hi4 HELv HRUv
 go_upto_region 10 with(fail)
 obtain⟨⟨r0,r1,r2⟩,hz,hlb⟩:=HR5.out
 have hz0:=hz 0 (by omega)
 have hz1:=hz 1 (by omega)
 have hz2:=hz 2 (by omega)
 clear hz hlb
 have HFI:=aZ (((HI5.out.other (g:=w.heap.size+1) (j:=0) (v:=.int .i64 Q) (λb o e=>by injection e with e;injection e with e1 e2;rw[<-e1];exact HNE5.out)).other (g:=w.heap.size+1) (j:=1) (v:=.int .i64 v) (λb o e=>by injection e with e;injection e with e1 e2;rw[<-e1];exact HNE5.out)).other (g:=w.heap.size+1) (j:=2) (v:=.int .i64 o) (λb o e=>by injection e with e;injection e with e1 e2;rw[<-e1];exact HNE5.out))
 have HBF:=aZ (below_three HB5.out (b:=w.heap.size+1) (by omega) (.int .i64 Q) (.int .i64 v) (.int .i64 o))
 have HTF:=aZ (tri_set HR5.out.t Q v o)
 clear HI5 HB5 HR5
 go_region
 go_wp2
 obtain⟨u0,u1,u2⟩:=HTF.out
 exact bodyPost_ret (v:=.tuple #[.slice (some ⟨g5,0,none⟩) N N,rgV Q v o,.int .i64 0]) (by simp[results,Try.results32,go_sem,u0,u1,u2]) rfl ⟨v,g5,HV.out,rfl,HFI.out.keep (Below.refl _ _).drew,HBF.out.drew⟩
theorem Exact_no(kind n r:Int)(q:Fo)(s:Int)(hc:q.count<=549755813888)(o Q:Nat)(F:FieldQ o Q)(ho:ordR kind n r q=(o,0))(m:Nat)(hm:m<=1048576)(hne:runE kind n r q m s≠0)(w:World)(B:Option Addr)(c:Nat)(hk:Kids w B 0 q)(A:Option Addr)(cm:Nat)(f:Nat->Int)(hI:IntsAt w A m f)(hR:Rng f):
  Calls Try.prog 32 #[plV kind n r B q.len c,.slice A m cm,.int .i64 s] w λz w'=>z=.returned (.tuple #[.slice none 0 0,rgV 0 0 0,.int .i64 (runE kind n r q m s)])/\Below w.heap.size w w':=by
 have HO:=aZ (λw h=>Order_any kind n r q hc w B c h)
 rw[ho] at HO
 have HMK:=aZ (λw=>Make_any o Q F w)
 have hlo:=F.lo
 have hhi:=F.hi
 have ob:=F.ob
 have HEL:=aZ (λ(v:Nat) w h=>melements_any Q v o (by omega) (by omega) A m cm f w h hR hm)
 have HRU:=aZ (λ(v:Nat) (w:World) (h:Kids w B 0 q) (X:Option Addr)=>Run_no (.iface 60 (rgV Q v o)) kind n r q hc s m hne w B c X m h)
 obtain⟨E,hE⟩:∃E,runE kind n r q m s=E:=⟨_,rfl⟩
 rw[hE] at HRU hne|-
 have heb:(E==0)=false:=by simpa using hne
 have HK:=aZ hk
 have HI:=aZ hI
 obtain⟨W0,hW0⟩:∃W0,W0=(w.alloc (.cells #[.int .i64 kind,.int .i64 n,.int .i64 r,.slice B q.len c] 26)).alloc (.cells #[.int .i64 0,.int .i64 0,.int .i64 0] 60):=⟨_,rfl⟩
 have hb0:Below w.heap.size w W0:=by rw[hW0];exact((Below.refl _ w).alloc (Nat.le_refl _) _).alloc (by simp) _
 have hp0:PlBox W0 w.heap.size kind n r B q.len c:=by
  rw[hW0]
  exact(PlBox.new w _ _ _ _ _ _ _).below ((Below.refl _ _).alloc (Nat.le_refl _) _)
 have hr0:RB W0 (w.heap.size+1):=by
  rw[hW0]
  have:=RB.new (w.alloc (.cells #[.int .i64 kind,.int .i64 n,.int .i64 r,.slice B q.len c] 26)) 60
  simp only[World.size_alloc] at this
  exact this
 have HB0:=aZ hb0
 have HP0:=aZ hp0
 have HR0:=aZ hr0
 obtain⟨p0,p1,p2,p3⟩:=hp0
 clear hI hR hk hb0 hr0 hc ho F hE hne
 go_enter Try.func32,Try.ntmps32
 go_wp2_with fail
 try rw[<-hW0]
 refine(HO.out W0 (HK.out.below HB0.out)).mono ?_
 rintro z w1 ⟨rfl,hb1⟩
 have HB1:=aZ (HB0.out.trans (hb1.mono HB0.out.size))
 have HR1:=aZ (HR0.out.below hb1)
 have HP1:=aZ (HP0.out.below hb1)
 clear hb1 hW0 HO p0 p1 p2 p3 HP0 HR0 HB0
 go_wp2_with fail
 refine(HMK.out w1).mono ?_
 rintro z w2 ⟨v,hv,rfl,hb2⟩
 have HV:=aZ hv
 have HB2:=aZ (HB1.out.trans (hb2.mono HB1.out.size))
 have HR2:=aZ (HR1.out.below hb2)
 have HP2:=aZ (HP1.out.below hb2)
 have HELv:=aZ (HEL.out v)
 have HRUv:=aZ (HRU.out v)
 clear hb2 hv HMK HEL HRU HR1 HP1 HB1
 go_upto_region 5 with(fail)
 obtain⟨w3,hw3⟩:∃w3,w3=w2.alloc (.cells #[.int .i64 Q,.int .i64 v,.int .i64 o] 60):=⟨_,rfl⟩
 have hb3:Below w2.heap.size w2 w3:=by rw[hw3];exact(Below.refl _ w2).alloc (Nat.le_refl _) _
 have hT3:=Tri.new w2 (Q:Int) v o 60
 rw[<-hw3] at hT3|-
 obtain⟨bF,hbF⟩:∃bF,w2.heap.size=bF:=⟨_,rfl⟩
 have HNE:Hid (w.heap.size+1≠bF):=aZ (by have:=HR2.out.l;omega)
 rw[hbF] at hT3|-
 have HB3:=aZ (HB2.out.trans (hb3.mono HB2.out.size))
 have HR3:=aZ (HR2.out.below hb3)
 have HP3:=aZ (HP2.out.below hb3)
 have HT3:=aZ hT3
 clear hw3 hb3 hbF HR2 HP2 HB2 hT3
 go_upto_region 7 with(fail)
 obtain⟨t0,t1,t2⟩:=HT3.out
 obtain⟨p0,p1,p2,p3⟩:=HP3.out
 refine wp_region_T (λw'=>w'.cell? ⟨bF,0,none⟩=some (.int .i64 Q)/\w'.cell? ⟨bF,1,none⟩=some (.int .i64 v)/\w'.cell? ⟨bF,2,none⟩=some (.int .i64 o)/\w'.cell? ⟨w.heap.size,0,none⟩=some (.int .i64 kind)/\w'.cell? ⟨w.heap.size,1,none⟩=some (.int .i64 n)/\w'.cell? ⟨w.heap.size,2,none⟩=some (.int .i64 r)/\w'.cell? ⟨w.heap.size,3,none⟩=some (.slice B q.len c)) 12 ⟨t0,t1,t2,p0,p1,p2,p3⟩ (λhS0=>?_)
 refine Takes.intro [0,1,2,3,4,6] ?_
 repeat(refine Takes.go (v:=?_) hS0 ?_;try simp only[nrm,Act.put])
 refine Takes.nil ?_
 refine wpAnyS_1 5 (λK hK=>?_)
 go_simp
 refine(HELv.out _ (HI.out.keep HB3.out.drew)).mono ?_
 rintro z w4 ⟨g4,rfl,hi4,hb4⟩
 have hb34:Below w3.heap.size w3 w4:=(Below.refl _ w3).drew.trans hb4
 have HI4:=aZ hi4
 have HB4:=aZ (HB3.out.trans (hb34.mono HB3.out.size))
 have hS1:(λw'=>w'.cell? ⟨bF,0,none⟩=some (.int .i64 Q)/\w'.cell? ⟨bF,1,none⟩=some (.int .i64 v)/\w'.cell? ⟨bF,2,none⟩=some (.int .i64 o)/\w'.cell? ⟨w.heap.size,0,none⟩=some (.int .i64 kind)/\w'.cell? ⟨w.heap.size,1,none⟩=some (.int .i64 n)/\w'.cell? ⟨w.heap.size,2,none⟩=some (.int .i64 r)/\w'.cell? ⟨w.heap.size,3,none⟩=some (.slice B q.len c)) w4:=⟨keep_cell hb34 t0,keep_cell hb34 t1,keep_cell hb34 t2,keep_cell hb34 p0,keep_cell hb34 p1,keep_cell hb34 p2,keep_cell hb34 p3⟩
 refine hK.out _ _ (λ_=>hS1) ?_
 clear hK K
 try simp only[nrm,Act.put]
 refine wpAnyS_1 7 (λK hK=>?_)
 go_simp
 refine(HRUv.out w4 (HK.out.below HB4.out) _).mono ?_
 rintro z w5 ⟨rfl,hb5⟩
 have hb35:Below w3.heap.size w3 w5:=hb34.trans (hb5.mono hb34.size)
 have HB5:=aZ (HB3.out.trans (hb35.mono HB3.out.size))
 have hS2:(λw'=>w'.cell? ⟨bF,0,none⟩=some (.int .i64 Q)/\w'.cell? ⟨bF,1,none⟩=some (.int .i64 v)/\w'.cell? ⟨bF,2,none⟩=some (.int .i64 o)/\w'.cell? ⟨w.heap.size,0,none⟩=some (.int .i64 kind)/\w'.cell? ⟨w.heap.size,1,none⟩=some (.int .i64 n)/\w'.cell? ⟨w.heap.size,2,none⟩=some (.int .i64 r)/\w'.cell? ⟨w.heap.size,3,none⟩=some (.slice B q.len c)) w5:=⟨keep_cell hb35 t0,keep_cell hb35 t1,keep_cell hb35 t2,keep_cell hb35 p0,keep_cell hb35 p1,keep_cell hb35 p2,keep_cell hb35 p3⟩
 refine hK.out _ _ (λ_=>hS2) ?_
 clear hK K
 try simp only[nrm,Act.put]
 refine Takes.intro [8,9,10,11] ?_
 repeat(refine Takes.go (v:=?_) hS2 ?_;try simp only[nrm,Act.put])
 refine Takes.nil ?_
 refine wpAnyS_fin 1 12 ?_
 simp only[nrd]
 have HR5:=aZ (HR3.out.below hb35)
 obtain⟨t0,t1,t2,-⟩:=hS2
 clear hS0 hS1 hb34 hb35 hb5 hb4 hi4 HELv HRUv
 obtain⟨⟨r0,r1,r2⟩,hz,hlb⟩:=HR5.out
 have hz0:=hz 0 (by omega)
 have hz1:=hz 1 (by omega)
 have hz2:=hz 2 (by omega)
 clear hz hlb
 have HBF:=aZ (below_three HB5.out (b:=w.heap.size+1) (by omega) (.int .i64 0) (.int .i64 0) (.int .i64 0))
 have HTF:=aZ (tri_set HR5.out.t 0 0 0)
 clear HB5 HR5
 go_wp2
 obtain⟨u0,u1,u2⟩:=HTF.out
 exact bodyPost_ret (v:=.tuple #[.slice none 0 0,rgV 0 0 0,.int .i64 E]) (by simp[results,Try.results32,go_sem,u0,u1,u2]) rfl ⟨rfl,HBF.out⟩
end Go.Proofs.Yteaimnemobnknaa
