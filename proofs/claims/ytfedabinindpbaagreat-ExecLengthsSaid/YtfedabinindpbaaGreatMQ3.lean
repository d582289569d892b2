/- The contract of the Root of exec's ring. -/
import Derived.Test.YtfedabinindpbaaGreatX0
import Derived.Test.YtfedabinindpbaaGreatMQ2
import Derived.Test.YtfedabinindpbaaGreatMQ1
import Derived.Test.YtfedabinindpbaaGreatRK
import Derived.Shelf.Abstract
set_option maxRecDepth 100000
set_option maxHeartbeats 4000000
set_option linter.unusedSimpArgs false
set_option linter.unusedVariables false
namespace Go.Proofs.YtfedabinindpbaaGreat
open Go.RowKit Go.Lib
theorem tmod_two(k:Int)(n:Nat)(h:1<=n):∃j:Nat,j<n/\k%n=j/\(k.tmod n=j\/k.tmod n=(j:Int)-n):=by
 have h1:=Int.emod_nonneg k (show(n:Int)≠0 by omega)
 have h2:=Int.emod_lt_of_pos k (show(0:Int)<n by omega)
 refine⟨(k%n).toNat,by omega,by omega,?_⟩
 by_cases hk:0<=k
 ·left;rw[Int.tmod_eq_emod_of_nonneg hk];omega
 ·obtain⟨a,rfl⟩:∃a,k=-a:=⟨-k,by omega⟩
  have ht:(-a).tmod (n:Int)=-(a%n):=by rw[Int.neg_tmod,Int.tmod_eq_emod_of_nonneg (by omega)]
  have r1:=Int.emod_nonneg a (show(n:Int)≠0 by omega)
  have r2:=Int.emod_lt_of_pos a (show(0:Int)<n by omega)
  have hd:a=n*(a/n)+a%n:=(Int.mul_ediv_add_emod a n).symm
  have e:(-a)%(n:Int)=(-(a%n))%n:=by
   have:-a=-(a%n)+n*(-(a/n)):=by rw[Int.mul_neg];omega
   rw[this,Int.add_mul_emod_self_left]
  rw[ht]
  by_cases h0:a%n=0
  ·left;rw[e,h0];rfl
  ·right
   have e2:(-(a%n))%(n:Int)=n-a%n:=by
    have:-(a%n)=(n-a%n)+n*(-1):=by omega
    rw[this,Int.add_mul_emod_self_left,Int.emod_eq_of_lt (by omega) (by omega)]
   rw[e,e2];omega
theorem loop_start(n:Nat)(w:World):RowC (w.alloc (.cells (zsC n) 29)) w.heap.size n (upToC 0 (λi=>croot i n)):=(zs_rowC n w _).congr λi hi=>by unfold upToC;rw[if_neg (by omega)]
theorem ringRoot_any(r:Nat)(k:Int)(n:Nat)(w:World)(k1:-4294967296<=k)(k2:k<=4294967296)(n1:1<=n)(n2:n<=65536)(hw:(XM r).St w):
  Calls Tryz.prog 207 #[.agg #[.map (some r)],.int .i64 k,.int .i64 n] w λz w'=>(∃u,z=.returned (cV u)/\nC u=croot k n)/\(XM r).On w w':=by
 have H:=XM_ok r
 obtain⟨W,hW⟩:∃W,W=(w.alloc (.cells #[.map (some r)] 93)).alloc (.cells #[.float .f64 0,.float .f64 0] 29):=⟨_,rfl⟩
 have hb:Below w.heap.size w W:=by rw[hW];exact((Below.refl _ w).alloc (Nat.le_refl _) _).alloc (by simp) _
 have HON:=aZ ((H.on_refl hw).below H hb)
 obtain⟨es,clock,hmap,htab⟩:=id HON.out.st
 have hlook:=run_lookI r clock n es W hmap
 have hmk:=mk_C n (by omega) W
 have c0:W.cell? ⟨w.heap.size,0,none⟩=some (.map (some r)):=by rw[hW];simp[go_sem]
 have HRES:Hid ((W.cell? ⟨w.heap.size+1,0,none⟩=some (.float .f64 0)/\W.cell? ⟨w.heap.size+1,1,none⟩=some (.float .f64 0)/\W.frozen? ⟨w.heap.size+1,0,none⟩=false/\W.frozen? ⟨w.heap.size+1,1,none⟩=false)/\w.heap.size+1<W.heap.size):=
  aZ (by subst hW;exact⟨⟨by simp[go_sem],by simp[go_sem],by simp[go_sem],by simp[go_sem]⟩,by simp⟩)
 have HPVR:Hid (BoxC (XM r) W (w.heap.size+1) (0,0)):=aZ ⟨HRES.out.1.1,HRES.out.1.2.1,HRES.out.1.2.2.1,HRES.out.1.2.2.2,HRES.out.2,H.new hw hb (by omega)⟩
 obtain⟨j,hj,hjm,hjt⟩:=tmod_two k n n1
 have hCR:Hid (croot k n=croot j n):=aZ (by unfold croot;rw[hjm,Int.emod_eq_of_lt (by omega) (by omega)])
 have hn0:¬(n:Int)=0:=by omega
 have hn0n:¬n=0:=by omega
 have HH:=aZ H
 have HTAB:=aZ htab
 have HMAP:=aZ hmap
 have HRW:=aZ hw
 clear hjm hw htab hmap H
 go_enter Tryz.func207,Tryz.ntmps207
 go_upto_region 1 with(fail)
 rw[<-hW]
 clear hW hb
 have HUW:=aZ (hjt)
 clear hjt
 cases hk:fi n es 0 with
 |some q=>
   obtain⟨i,v⟩:=q
   obtain⟨c,hmem⟩:=fi_mem _ _ _ _ _ hk
   obtain⟨b,N,hv,hN,hN1,hbr,hrow⟩:=HTAB.out _ hmem
   obtain rfl:N=n:=by have:(n:Int)=N:=hN;omega
   have hv:v=.slice (some ⟨b,0,none⟩) N N:=hv
   subst hv
   rw[hk] at hlook
   dsimp only[Option.isSome] at hlook
   have HROW:=aZ hrow
   clear hmem hrow hN hk
   obtain⟨u,t0,t1,-,-,hu⟩:=HROW.out j hj
   have HUU:=aZ hu
   obtain⟨x0,x1,x2,x3,-,-⟩:=HPVR.out
   have HFIN:=aZ ((HPVR.out).set HH.out HON.out (Nat.le_succ _) u)
   obtain⟨y0,y1,-,-,-,-⟩:=HFIN.out.1
   unfold setB at y0 y1
   have hjn:(j:Int)<N:=by omega
   have hj0:(0:Int)<=j:=by omega
   have hj00:¬(j:Int)<0:=by omega
   have hjneg:(j:Int)-N<0:=by omega
   have hwr1:IntKind.i64.wrap ((j:Int)-N+N)=j:=by rw[IntKind.wrap_i64];omega
   have hwr2:wrap64 ((j:Int)-N+N)=j:=by unfold wrap64;omega
   clear hu
   rcases HUW.out with ht|ht
   all_goals
    go_wp2
    exact bodyPost_ret (v:=cV u) (by simp[results,Tryz.results207,go_sem,y0,y1]) rfl ⟨⟨u.1,u.2,rfl,by rw[hCR.out];exact HUU.out⟩,HFIN.out.2⟩
 |none=>
   rw[hk] at hlook
   dsimp only[Option.isSome] at hlook
   have HK:=aZ hk
   clear hk
   go_wp2
   go_loopw [23] (λvi wr=>∃m:Nat,m<=n/\vi=.int .i64 m/\Hid (RowC wr W.heap.size n (upToC m (λi=>croot i n)))/\Hid (Below W.heap.size W wr)) (λvi _=>n-(intOf vi).toNat)
   case atStart=>exact⟨0,by omega,rfl,aZ (loop_start n W),aZ ((Below.refl _ W).alloc (Nat.le_refl _) _)⟩
   case round=>
    obtain⟨m,hm,rfl,hr,hb⟩:=hrel
    by_cases hlt:m<n
    ·have hmi:(m:Int)<n:=by omega
     obtain⟨ht,hf1,hf2,-,-⟩:=T.turn_fn m n (by omega) (by omega)
     have HT:=aZ (ht wr)
     obtain⟨tc,htc⟩:∃tc:Fin 18446744073709551616,tc.val=T.tuC m n:=⟨⟨_,hf1.1⟩,rfl⟩
     obtain⟨ts,hts⟩:∃ts:Fin 18446744073709551616,ts.val=T.tuS m n:=⟨⟨_,hf2.1⟩,rfl⟩
     have HQ:Hid (nC (tc,ts)=croot m n):=aZ (by unfold nC croot;rw[Int.emod_eq_of_lt (by omega) (by omega),htc,hts])
     rw[<-htc,<-hts] at HT
     clear ht hf1 hf2 htc hts
     go_wp2_with fail
     refine HT.out.mono ?_
     rintro z w2 ⟨rfl,hb2⟩
     have hr2:=hr.out.keep hb2
     obtain⟨v0,r1,r2,r3,r4,-⟩:=hr2 m hlt
     have HS:Hid (RowC (putC w2 W.heap.size m (tc,ts)) W.heap.size n (upToC (m+1) (λi=>croot i n))):=aZ ((hr2.set hlt (tc,ts)).congr λi hi=>by
      rw[<-upToC_next,HQ.out])
     have HB2:Hid (Below W.heap.size W (putC w2 W.heap.size m (tc,ts))):=aZ (((hb.out.trans (hb2.mono hb.out.size)).setCell (p:=⟨_,_,_⟩) (Nat.le_refl _) _).setCell (p:=⟨_,_,_⟩) (Nat.le_refl _) _)
     clear hr2 hb2 hlook hmk
     go_wp2
     exact⟨⟨m+1,by omega,by go_num,HS,HB2⟩,by simp[intOf];omega⟩
    ·obtain rfl:m=n:=by omega
     have HR:Hid (RowC wr W.heap.size m (λi=>croot i m)):=aZ (hr.out.congr λi hi=>by unfold upToC;rw[if_pos hi])
     have hst:=run_storeI r clock m (.slice (some ⟨W.heap.size,0,none⟩) m m) es wr ((hb.out.block r (some_lt HMAP.out)).trans HMAP.out) HK.out
     obtain⟨HP1,HP2⟩:=XM_put (b:=W.heap.size) HMAP.out HTAB.out hb.out (Nat.le_refl _) n1 HR.out
     have c1:=keep_cell hb.out c0
     obtain⟨X,hX⟩:∃X,X=putE wr r es m (.slice (some ⟨W.heap.size,0,none⟩) m m) clock:=⟨_,rfl⟩
     rw[<-hX] at hst HP1 HP2
     have HO:=aZ (HON.out.trans HH.out HP1)
     have HPX:=aZ (HPVR.out.keep HH.out HP1 HON.out.st)
     have HR2:=aZ HP2
     clear hX HP1 HP2 c0 hmk hlook hb hr HR
     obtain⟨u,t0,t1,-,-,hu⟩:=HR2.out j hj
     have HUU:=aZ hu
     obtain⟨x0,x1,x2,x3,-,-⟩:=HPX.out
     have HFIN:=aZ ((HPX.out).set HH.out HO.out (Nat.le_succ _) u)
     obtain⟨y0,y1,-,-,-,-⟩:=HFIN.out.1
     unfold setB at y0 y1
     have hjn:(j:Int)<m:=by omega
     have hj0:(0:Int)<=j:=by omega
     have hj00:¬(j:Int)<0:=by omega
     have hjneg:(j:Int)-m<0:=by omega
     have hwr1:IntKind.i64.wrap ((j:Int)-m+m)=j:=by rw[IntKind.wrap_i64];omega
     have hwr2:wrap64 ((j:Int)-m+m)=j:=by unfold wrap64;omega
     clear hu
     rcases HUW.out with ht|ht
     all_goals
      go_wp2
      exact bodyPost_ret (v:=cV u) (by simp[results,Tryz.results207,go_sem,y0,y1]) rfl ⟨⟨u.1,u.2,rfl,by rw[hCR.out];exact HUU.out⟩,HFIN.out.2⟩
theorem xnil_Zero(r:Nat)(w:World):(nilAhead 344 93 (.agg #[.map (some r)]) "Zero").run Tryz.prog w=.ok (some false) w:=by kernel_rfl
theorem xmet_Zero(r:Nat)(w:World):(method 344 93 (.agg #[.map (some r)]) "Zero").run Tryz.prog w=.ok (209,.agg #[.map (some r)]) w:=by kernel_rfl
theorem xent_Zero(args:Array Value)(w:World):(callFunc 209 args).run Tryz.prog w=.ok (.enter 209 args) w:=enters_of Tryz.func209 (by kernel_rfl) rfl args w
theorem xnil_Add(r:Nat)(w:World):(nilAhead 344 93 (.agg #[.map (some r)]) "Add").run Tryz.prog w=.ok (some false) w:=by kernel_rfl
theorem xmet_Add(r:Nat)(w:World):(method 344 93 (.agg #[.map (some r)]) "Add").run Tryz.prog w=.ok (204,.agg #[.map (some r)]) w:=by kernel_rfl
theorem xent_Add(args:Array Value)(w:World):(callFunc 204 args).run Tryz.prog w=.ok (.enter 204 args) w:=enters_of Tryz.func204 (by kernel_rfl) rfl args w
theorem xnil_Sub(r:Nat)(w:World):(nilAhead 344 93 (.agg #[.map (some r)]) "Sub").run Tryz.prog w=.ok (some false) w:=by kernel_rfl
theorem xmet_Sub(r:Nat)(w:World):(method 344 93 (.agg #[.map (some r)]) "Sub").run Tryz.prog w=.ok (208,.agg #[.map (some r)]) w:=by kernel_rfl
theorem xent_Sub(args:Array Value)(w:World):(callFunc 208 args).run Tryz.prog w=.ok (.enter 208 args) w:=enters_of Tryz.func208 (by kernel_rfl) rfl args w
theorem xnil_Mul(r:Nat)(w:World):(nilAhead 344 93 (.agg #[.map (some r)]) "Mul").run Tryz.prog w=.ok (some false) w:=by kernel_rfl
theorem xmet_Mul(r:Nat)(w:World):(method 344 93 (.agg #[.map (some r)]) "Mul").run Tryz.prog w=.ok (205,.agg #[.map (some r)]) w:=by kernel_rfl
theorem xent_Mul(args:Array Value)(w:World):(callFunc 205 args).run Tryz.prog w=.ok (.enter 205 args) w:=enters_of Tryz.func205 (by kernel_rfl) rfl args w
theorem xnil_Over(r:Nat)(w:World):(nilAhead 344 93 (.agg #[.map (some r)]) "Over").run Tryz.prog w=.ok (some false) w:=by kernel_rfl
theorem xmet_Over(r:Nat)(w:World):(method 344 93 (.agg #[.map (some r)]) "Over").run Tryz.prog w=.ok (206,.agg #[.map (some r)]) w:=by kernel_rfl
theorem xent_Over(args:Array Value)(w:World):(callFunc 206 args).run Tryz.prog w=.ok (.enter 206 args) w:=enters_of Tryz.func206 (by kernel_rfl) rfl args w
theorem xnil_Root(r:Nat)(w:World):(nilAhead 344 93 (.agg #[.map (some r)]) "Root").run Tryz.prog w=.ok (some false) w:=by kernel_rfl
theorem xmet_Root(r:Nat)(w:World):(method 344 93 (.agg #[.map (some r)]) "Root").run Tryz.prog w=.ok (207,.agg #[.map (some r)]) w:=by kernel_rfl
theorem xent_Root(args:Array Value)(w:World):(callFunc 207 args).run Tryz.prog w=.ok (.enter 207 args) w:=enters_of Tryz.func207 (by kernel_rfl) rfl args w
def ringR:Rg Cx:=⟨(0,0),cadd,csub,cmul,cover,croot⟩
def ringC(r:Nat):RingC:=⟨93,.agg #[.map (some r)],209,204,208,205,206,207,ringR⟩
theorem ringC_ok(r:Nat):(ringC r).Ok (XM r) where
 mem:=XM_ok r
 nz:=xnil_Zero r
 mz:=xmet_Zero r
 cz:=xent_Zero
 na:=xnil_Add r
 ma:=xmet_Add r
 ca:=xent_Add
 ns:=xnil_Sub r
 ms:=xmet_Sub r
 cs:=xent_Sub
 nm:=xnil_Mul r
 mm:=xmet_Mul r
 cm:=xent_Mul
 no:=xnil_Over r
 mo:=xmet_Over r
 co:=xent_Over
 nr:=xnil_Root r
 mr:=xmet_Root r
 cr:=xent_Root
 zero w h:=(ringZero_any r w).mono λz w' k=>⟨k.1,((XM_ok r).on_refl h).below (XM_ok r) k.2⟩
 add a b w h:=(ringAdd_any r a b w).mono λz w' k=>⟨k.1,((XM_ok r).on_refl h).below (XM_ok r) k.2⟩
 sub a b w h:=(ringSub_any r a b w).mono λz w' k=>⟨k.1,((XM_ok r).on_refl h).below (XM_ok r) k.2⟩
 mul a b w h:=(ringMul_any r a b w).mono λz w' k=>⟨k.1,((XM_ok r).on_refl h).below (XM_ok r) k.2⟩
 over a n w n1 n2 h:=(ringOver_any r a n w n1 n2).mono λz w' k=>⟨k.1,((XM_ok r).on_refl h).below (XM_ok r) k.2⟩
 root k n w k1 k2 n1 n2 h:=ringRoot_any r k n w k1 k2 n1 n2 h
 z0:=rfl
section
variable {M : Mem} {ρ : RingC}
abbrev rnC(ρ:RingC)(s:Int):Value:=.agg #[.iface ρ.t ρ.v,.int .i64 s]
structure PlanX(M:Mem)(ρ:RingC)(kind n r:Int)(kids:Fo)(N:Nat)(F:Tr Cx):Prop where
 run:∀s:Int,s=1\/s=-1->∀(w:World) (A:Option Addr) (c:Nat) (X:Option Addr) (cx:Nat) (x:Nat->Cx),Kids w A 0 kids->CsAt w X N x->M.St w->
  Calls Tryz.prog 79 #[rnC ρ s,plV kind n r A kids.len c,.slice X N cx] w λz w'=>∃g,z=.returned (.slice (some ⟨g,0,none⟩) N N)/\w.heap.size<=g/\OwnC M w' g N (F s x)/\M.On w w'
theorem planX_leaf(H:ρ.Ok M)(N:Nat)(h1:1<=N)(h2:N<=32768)(kids:Fo):PlanX M ρ 0 N 0 kids N (directF ρ.R N):=by
 refine⟨λs hs w A c X cx x hk hX hw=>?_⟩
 have HH:=aZ H
 have HX:=aZ hX
 have HW:=aZ hw
 clear H hk hX hw hs
 go_enter Tryz.func79,Tryz.ntmps79
 go_wp2_with fail
 have hb1:=boxes_on HH.out.mem HW.out (.cells #[.iface ρ.t ρ.v,.int .i64 s] 131) (.cells #[.int .i64 0,.int .i64 N,.int .i64 0,.slice A kids.len c] 46)
 refine(DirectC_r HH.out X N cx s x _ (HX.out.keepM HH.out.mem hb1 HW.out) h2 hb1.st).mono ?_
 rintro z w1 ⟨g,rfl,hg,ho,hb2⟩
 have HB:=aZ (hb1.trans HH.out.mem hb2)
 have HO:=aZ ho
 have HG:Hid (w.heap.size<=g):=aZ (by have:=HH.out.mem.size hb1.fr;omega)
 clear hb1 hb2 ho hg
 go_wp2
 go_ret
 exact⟨g,rfl,HG.out,HO.out,HB.out⟩
theorem RunC_r(H:ρ.Ok M)(kind r:Int)(kids:Fo)(N:Nat)(F:Tr Cx)(P:PlanX M ρ kind N r kids N F)(C:ChkC kind N r kids N 0)(s:Int)(hs:s=1\/s=-1)(w:World)(A:Option Addr)(c:Nat)(X:Option Addr)(cx:Nat)(x:Nat->Cx)(hk:Kids w A 0 kids)(hX:CsAt w X N x)(hw:M.St w):
  Calls Tryz.prog 45 #[.iface ρ.t ρ.v,plV kind N r A kids.len c,.slice X N cx,.int .i64 s] w λz w'=>∃g,z=.returned (.tuple #[.slice (some ⟨g,0,none⟩) N N,.int .i64 0])/\w.heap.size<=g/\OwnC M w' g N (F s x)/\M.On w w':=by
 have HH:=aZ H
 have HP:=aZ P
 have HC:=aZ C
 have HX:=aZ hX
 have HW:=aZ hw
 have HK:=aZ hk
 have HS:=aZ hs
 clear H P C hX hw hk
 have key:∀s:Int,s=1\/s=-1->Calls Tryz.prog 45 #[.iface ρ.t ρ.v,plV kind N r A kids.len c,.slice X N cx,.int .i64 s] w λz w'=>∃g,z=.returned (.tuple #[.slice (some ⟨g,0,none⟩) N N,.int .i64 0])/\w.heap.size<=g/\OwnC M w' g N (F s x)/\M.On w w':=by
  intro s hs
  rcases hs with rfl|rfl
  all_goals
   go_enter Tryz.func45,Tryz.ntmps45
   go_wp2_with fail
   have hb1:=box_on HH.out.mem HW.out (.cells #[.int .i64 kind,.int .i64 N,.int .i64 r,.slice A kids.len c] 46)
   refine(HC.out _ A c (Kids.keep HH.out.mem hb1 HW.out HK.out)).mono ?_
   rintro z w1 ⟨⟨a,rfl⟩,hb⟩
   have HB1:=aZ (hb1.below HH.out.mem hb)
   have p0:=keep_cell hb (show(w.alloc (.cells #[.int .i64 kind,.int .i64 N,.int .i64 r,.slice A kids.len c] 46)).cell? ⟨w.heap.size,0,none⟩=some (.int .i64 kind) by simp[go_sem])
   have p1:=keep_cell hb (show(w.alloc (.cells #[.int .i64 kind,.int .i64 N,.int .i64 r,.slice A kids.len c] 46)).cell? ⟨w.heap.size,1,none⟩=some (.int .i64 N) by simp[go_sem])
   have p2:=keep_cell hb (show(w.alloc (.cells #[.int .i64 kind,.int .i64 N,.int .i64 r,.slice A kids.len c] 46)).cell? ⟨w.heap.size,2,none⟩=some (.int .i64 r) by simp[go_sem])
   have p3:=keep_cell hb (show(w.alloc (.cells #[.int .i64 kind,.int .i64 N,.int .i64 r,.slice A kids.len c] 46)).cell? ⟨w.heap.size,3,none⟩=some (.slice A kids.len c) by simp[go_sem])
   clear hb hb1
   go_wp2_with fail
   refine(HP.out.run _ (by first|exact .inl rfl|exact .inr rfl) _ A c X cx x (Kids.keep HH.out.mem HB1.out HW.out HK.out) (HX.out.keepM HH.out.mem HB1.out HW.out) HB1.out.st).mono ?_
   rintro z w2 ⟨g,rfl,hg,ho,hb2⟩
   have HO:=aZ ho
   have HB:=aZ (HB1.out.trans HH.out.mem hb2)
   have HG:Hid (w.heap.size<=g):=aZ (by have:=HH.out.mem.size HB1.out.fr;omega)
   clear ho hb2 hg p0 p1 p2 p3
   go_wp2
   go_ret2
   exact⟨g,rfl,HG.out,HO.out,HB.out⟩
 exact key s HS.out
theorem RunC_chk(v:Value)(kind n r:Int)(kids:Fo)(e:Int)(he:e≠0)(C:ChkC kind n r kids n e)(s:Int)(l:Nat)(w:World)(A:Option Addr)(c:Nat)(X:Option Addr)(cx:Nat)(hk:Kids w A 0 kids)(hkk:∀w',Below w.heap.size w w'->Kids w' A 0 kids):
  Calls Tryz.prog 45 #[v,plV kind n r A kids.len c,.slice X l cx,.int .i64 s] w λz w'=>z=.returned (.tuple #[.slice none 0 0,.int .i64 e])/\Below w.heap.size w w':=by
 have HC:=aZ C
 have HK:=aZ hkk
 have he2:(e==0)=false:=by simpa using he
 have he3:(e != 0)=true:=by simpa using he
 clear C hk hkk
 go_enter Tryz.func45,Tryz.ntmps45
 go_wp2_with fail
 have hb1:Below w.heap.size w (w.alloc (.cells #[.int .i64 kind,.int .i64 n,.int .i64 r,.slice A kids.len c] 46)):=(Below.refl _ w).alloc (Nat.le_refl _) _
 refine(HC.out _ A c (HK.out _ hb1)).mono ?_
 rintro z w1 ⟨⟨a,rfl⟩,hb⟩
 have HB1:=aZ (hb1.trans (hb.mono (by simp)))
 clear hb hb1
 go_wp2
 go_ret2
 exact⟨rfl,HB1.out⟩
end
end Go.Proofs.YtfedabinindpbaaGreat
