/- The walk of RealRefuses. -/
import Derived.Test.YtmgfaeineklccaaGreatX0
import Derived.Test.YtmgfaeineklccaaGreatMO3
import Derived.Test.YtmgfaeineklccaaGreatMG1
import Derived.Test.YtmgfaeineklccaaGreatG6
import Derived.Test.YtmgfaeineklccaaGreatMZ5
import Derived.Test.YtmgfaeineklccaaGreatZ2
import Derived.Test.YtmgfaeineklccaaGreatMV4
set_option maxRecDepth 100000
set_option maxHeartbeats 8000000
set_option linter.unusedSimpArgs false
set_option linter.unusedVariables false
namespace Go.Proofs.YtmgfaeineklccaaGreat
open Go.RowKit Go.Lib
@[go_sem] theorem run_minO9{P:Program}(w:World)(ts:Array TypeId)(t:TypeId)(x y:Int):
  (Builtin.min_ ts t #[.int .i64 x,.int .i64 y]).run P w=.ok (.int .i64 (min x y)) w:=by
 show([Value.int .i64 y].foldlM Builtin.min2 (.int .i64 x)).run P w=_
 simp[List.foldlM,Builtin.min2]
 omega
def ths(v5 v6 v7:Value)(L:List Rx)(u:Rx):Nat->Thr
 |0=>⟨52,47,2,16,.agg #[.float .f64 0,.float .f64 0],v5,L.length,cxV L,[.float .f64 (u.1:Nat),.float .f64 (u.2:Nat)],cV u⟩
 |1=>⟨33,53,1,8,.float .f64 0,v6,L.length,fltV (L.map Prod.fst),[.float .f64 (u.1:Nat)],.float .f64 (u.1:Nat)⟩
 |_=>⟨33,53,1,8,.float .f64 0,v7,L.length,fltV (L.map Prod.snd),[.float .f64 (u.2:Nat)],.float .f64 (u.2:Nat)⟩
theorem ths_ok(v5 v6 v7:Value)(L:List Rx)(u:Rx)(hk:L.length+1<=1099511627776):∀t,t<3->(ths v5 v6 v7 L u t).Ok:=by
 intro t ht
 rcases t with _|_|_|t
 ·refine⟨Tryz.underlying47,info_C,rfl,(by decide:0<2),(by decide:16<=64),rfl,λx hx=>?_,hk,bs_C u⟩
  have hx:x=.float .f64 (u.1:Nat)\/x=.float .f64 (u.2:Nat):=by simpa[ths] using hx
  rcases hx with rfl|rfl<;>rfl
 ·refine⟨Tryz.underlying53,info_float,rfl,(by decide:0<1),(by decide:8<=64),rfl,λx hx=>?_,hk,bs_float u.1⟩
  have hx:x=.float .f64 (u.1:Nat):=by simpa[ths] using hx
  subst hx;rfl
 ·refine⟨Tryz.underlying53,info_float,rfl,(by decide:0<1),(by decide:8<=64),rfl,λx hx=>?_,hk,bs_float u.2⟩
  have hx:x=.float .f64 (u.2:Nat):=by simpa[ths] using hx
  subst hx;rfl
 ·omega
def u64F(x:Int):Wd:=⟨(IntKind.u64.wrap x).toNat,by rw[IntKind.wrap_u64];omega⟩
def FinS(w:World)(A:Option Addr)(n:Nat):Prop:=∀i,i<n->∃b o,∃u:Rx,A=some ⟨b,o,none⟩/\w.cell? ⟨b,o+i*2,none⟩=some (.float .f64 u.1)/\w.cell? ⟨b,o+i*2+1,none⟩=some (.float .f64 u.2)/\finB u.1=true/\finB u.2=true
theorem FinS.keep{W w1:World}{A:Option Addr}{n:Nat}(hb:Below W.heap.size W w1)(h:FinS W A n):FinS w1 A n:=λi hi=>by
 obtain⟨b,o,u,e,h1,h2,h3⟩:=h i hi
 exact⟨b,o,u,e,keep_cell hb h1,keep_cell hb h2,h3⟩
def FinA(w:World)(A:Option Addr)(n:Nat):Prop:=∀i,i<n->∃b o,∃u:Wd,A=some ⟨b,o,none⟩/\w.cell? ⟨b,o+i,none⟩=some (.float .f64 (u:Nat))/\finB u=true
theorem FinA.keep{W w1:World}{A:Option Addr}{n:Nat}(hb:Below W.heap.size W w1)(h:FinA W A n):FinA w1 A n:=λi hi=>by
 obtain⟨b,o,u,e,h1,h3⟩:=h i hi
 exact⟨b,o,u,e,keep_cell hb h1,h3⟩
theorem forwardU(k N r:Int)(q:Fo)(hq:q.count<=549755813888)(A:Option Addr)(c:Nat)(X:Option Addr)(n cx:Nat)(x:Nat->Nat)(w:World)(hk:Kids w A 0 q)(hX:FsAt w X n x)(hn:n<=300):
  Calls Tryz.prog 29 #[plV k N r A q.len c,.slice X n cx] w λz w'=>(∃Aa la ca,z=.returned (.tuple #[.slice Aa la ca,.int .i64 (fwdE (checkE k N r q (wantsI n)) n x)])/\FinS w' Aa la/\la<=300/\(fwdE (checkE k N r q (wantsI n)) n x≠0->la=0)/\(fwdE (checkE k N r q (wantsI n)) n x=0->la=n/2+1))/\Below w.heap.size w w':=by
 refine(forwardG k N r q hq A c X n cx x w hk hX hn).mono ?_
 rintro z w' ⟨h|⟨g,c',h1,h2,h3⟩,hb⟩
 ·exact⟨⟨_,_,_,h.2,λi hi=>by omega,by omega,λ_=>rfl,λh2=>absurd h2 h.1⟩,hb⟩
 ·rw[h1]
  refine⟨⟨_,_,_,h2,λi hi=>?_,by omega,λh=>absurd rfl h,λ_=>rfl⟩,hb⟩
  obtain⟨u,d0,d1,f0,f1⟩:=h3 i hi
  exact⟨g,0,u,rfl,by rw[Nat.zero_add];exact d0,by rw[Nat.zero_add];exact d1,by unfold finB;rw[decide_eq_false f0];rfl,by unfold finB;rw[decide_eq_false f1];rfl⟩
theorem backwardU(k N r:Int)(q:Fo)(hq:q.count<=549755813888)(A:Option Addr)(c:Nat)(X:Option Addr)(l cx:Nat)(n:Int)(h:Nat->Cx)(w:World)(hk:Kids w A 0 q)(hX:CsAt w X l h)(hl:l<=150):
  Calls Tryz.prog 31 #[plV k N r A q.len c,.slice X l cx,.int .i64 n] w λz w'=>(∃Aa la ca,z=.returned (.tuple #[.slice Aa la ca,.int .i64 (bwdE (checkE k N r q (wantsI n)) n l h)])/\FinA w' Aa la/\la<=300/\(bwdE (checkE k N r q (wantsI n)) n l h≠0->la=0)/\(bwdE (checkE k N r q (wantsI n)) n l h=0->(la:Int)=n))/\Below w.heap.size w w':=by
 refine(backwardG k N r q hq A c X l cx n h w hk hX hl).mono ?_
 rintro z w' ⟨h|⟨v,L,h1,h2,h3,h4,h5,h6⟩,hb⟩
 ·exact⟨⟨_,_,_,h.2,λi hi=>by omega,by omega,λ_=>rfl,λh2=>absurd h2 h.1⟩,hb⟩
 ·rw[h1]
  obtain⟨A5,c5,rfl,hc,-⟩:=owns_cells h5
  refine⟨⟨_,_,_,h2,λi hi=>?_,h4,λh=>absurd rfl h,λ_=>h3⟩,hb⟩
  obtain⟨b,o,e,hx⟩:=hc i (.float .f64 ((L[i]:Wd):Nat)) (by unfold fltV;simp[hi])
  have:=h6 i hi
  rw[List.getD_eq_getElem?_getD,List.getElem?_eq_getElem hi] at this
  exact⟨b,o,L[i],e,hx,this⟩
theorem RealRefuses_any(Al:Option Addr)(nl cl:Nat)(f:Nat->Nat->Int)(Ab:Option Addr)(nb cb:Nat)(fb:Nat->Int×Int)(sx:Int)(b0:-9223372036854775808<=sx)(b1:sx<=9223372036854775807)(w:World)(hN:NodesAt w Al nl f)(hnl:nl<=1125899906842624)(hB:BitsAt w Ab nb fb)(hn:nb<=9223372036854775807)(hAc:Ab=none->cb=0)(hnc:nb<=cb)(hc:cb<=9223372036854775807):
  Calls Tryz.prog 6 #[.slice Al nl cl,.slice Ab nb cb,.int .i64 sx] w λz w'=>z=.returned (.bool true)/\Below w.heap.size w w':=by
 have HBU:=aZ (build21 Al nl cl f w hN hnl)
 have HXB:=aZ (And.intro b0 b1)
 have HBI:=aZ hB
 have HWK:=aZ wakes21_any
 clear hN hB
 clear b0 b1
 go_enter Tryz.func6,Tryz.ntmps6
 go_wp2_with fail
 refine HBU.out.mono ?_
 rintro z w1 ⟨kd,pn,pr,pq,B,c,B',c',rfl,hq,hk1,hk2,hb⟩
 have HQ:=aZ hq
 have KK1:=aZ hk1
 have KL1:=aZ hk2
 have BB1:=aZ hb
 clear hq hk1 hk2 hb HBU
 go_upto_region 2 with(fail)
 obtain⟨w2,hw2⟩:∃w2,w2=(w1.alloc (.cells #[.int .i64 kd,.int .i64 pn,.int .i64 pr,.slice B pq.len c] 27)).alloc (.cells #[.int .i64 kd,.int .i64 pn,.int .i64 pr,.slice B' pq.len c'] 30):=⟨_,rfl⟩
 have hb2:Below w1.heap.size w1 w2:=by rw[hw2];exact((Below.refl _ w1).alloc (Nat.le_refl _) _).alloc (by simp) _
 have hp2:PlBox w2 w1.heap.size kd pn pr B pq.len c:=by
  rw[hw2]
  exact(PlBox.new w1 _ _ _ _ _ _ _).below ((Below.refl _ _).alloc (Nat.le_refl _) _)
 have hq2:PlBox w2 (w1.heap.size+1) kd pn pr B' pq.len c':=by
  rw[hw2]
  have:=PlBox.new (w1.alloc (.cells #[.int .i64 kd,.int .i64 pn,.int .i64 pr,.slice B pq.len c] 27)) kd pn pr B' pq.len c' 30
  simp only[World.size_alloc] at this
  exact this
 rw[<-hw2]
 obtain⟨bP,hbP⟩:∃bP,w1.heap.size=bP:=⟨_,rfl⟩
 rw[hbP] at hp2 hq2|-
 have PP2:=aZ hp2
 have PL2:=aZ hq2
 have KK2:=aZ (KK1.out.below hb2)
 have KL2:=aZ (KL1.out.below hb2)
 have BB2:Hid (Below w.heap.size w w2):=aZ (BB1.out.trans (hb2.mono BB1.out.size))
 have HB2:=aZ (HBI.out.keep BB2.out)
 clear hw2 hb2 hp2 hq2 hbP KK1 KL1 BB1 HBI
 go_upto_region 4 with fail
 obtain⟨m,hm,hmn⟩:∃m:Nat,min (nb:Int) 60=(m:Int)/\m<=nb:=⟨min nb 60,by omega,by omega⟩
 have hm60:m<=60:=by omega
 have hmc:(m:Int)<=cb:=by omega
 have hm0:(0:Int)<=(m:Int):=by omega
 have HM:=aZ hmn
 go_cut [36,37,38] from 32 to 38 (λs36 s37 s38 wx=>(∃c',s36=.slice Ab m c')/\s37=.int .i64 m/\s38=.int .i64 0/\wx=w2)
 case first=>
  rcases Ab with _|a
  ·obtain rfl:=hAc rfl
   obtain rfl:nb=0:=by omega
   obtain rfl:m=0:=by omega
   go_wp2_with fail
   go_meet
   exact⟨⟨0,rfl⟩,rfl,rfl,rfl⟩
  ·go_wp2_with (fail)
   ·go_meet
    obtain rfl:m=60:=by omega
    exact⟨⟨cb,rfl⟩,rfl,rfl,rfl⟩
   ·go_meet
    obtain rfl:m=nb:=by omega
    exact⟨⟨cb,rfl⟩,rfl,rfl,rfl⟩
 case rest=>
 obtain⟨⟨c3,rfl⟩,rfl,rfl,rfl⟩:=hcut
 rename World=>w2
 apply_assumption
 clear hm hmn hAc hnc hc hn hmc
 go_wp2_with fail
 go_loopw [9,10,11,38] (λv5 v6 v7 vi wr=>∃(k:Nat) (L:List Rx),k<=m/\vi=.int .i64 k/\Hid (L.length=k)/\Hid (OwnX wr w2.heap.size v5 L)/\Hid (OwnL wr w2.heap.size v6 (L.map Prod.fst))/\Hid (OwnL wr w2.heap.size v7 (L.map Prod.snd))/\Hid (Apart v5 v6/\Apart v5 v7/\Apart v6 v7)/\Hid (Below w2.heap.size w2 wr)) (λ_ _ _ vi _=>m-(intOf vi).toNat)
 case atStart=>exact⟨0,[],by omega,rfl,aZ rfl,aZ (OwnX.nil _ _),aZ (OwnL.nil _ _),aZ (OwnL.nil _ _),aZ ⟨λg e=>(by cases e),λg e=>(by cases e),λg e=>(by cases e)⟩,aZ (Below.refl _ _)⟩
 case round=>
  rename World=>wr
  obtain⟨k,L,hk,rfl,hL,o5,o6,o7,hap,hb⟩:=hrel
  by_cases hlt:k<m
  ·have hki:(k:Int)<m:=by omega
   have hk9:k+1<=32768:=by omega
   obtain⟨b,o,rfl,y0,y1⟩:=(HB2.out.keep hb.out) k (by have:=HM.out;omega)
   obtain⟨x0,hx0⟩:∃x0,(fb k).1=x0:=⟨_,rfl⟩
   obtain⟨x1,hx1⟩:∃x1,(fb k).2=x1:=⟨_,rfl⟩
   rw[hx0] at y0
   rw[hx1] at y1
   clear hx0 hx1
   obtain⟨u,hu⟩:∃u,u64F x0=u:=⟨_,rfl⟩
   obtain⟨v,hv⟩:∃v,u64F x1=v:=⟨_,rfl⟩
   have hu1:(IntKind.u64.wrap x0).toNat=(u:Nat):=by rw[<-hu];rfl
   have hv1:(IntKind.u64.wrap x1).toNat=(v:Nat):=by rw[<-hv];rfl
   have hfrom:=run_fromF
   clear hu hv
   generalize hv5:u9=v5 at*
   generalize hv6:u10=v6 at*
   generalize hv7:u11=v7 at*
   clear hv5 hv6 hv7
   go_upto_region 7 with fail
   obtain⟨wb,hwb⟩:∃wb,wb=wr.alloc (.cells #[.int .i64 x0,.int .i64 x1] 48):=⟨_,rfl⟩
   obtain⟨gb,hgb⟩:∃gb,gb=wr.heap.size:=⟨_,rfl⟩
   have hc0:wb.cell? ⟨gb,0,none⟩=some (.int .i64 x0):=by rw[hwb,hgb,World.cell?_alloc_new];rfl
   have hc1:wb.cell? ⟨gb,1,none⟩=some (.int .i64 x1):=by rw[hwb,hgb,World.cell?_alloc_new];rfl
   have HBB:Hid (Below wr.heap.size wr wb):=aZ (by rw[hwb];exact(Below.refl _ wr).alloc (Nat.le_refl _) _)
   rw[<-hwb,<-hgb]
   clear hwb hgb y0 y1
   go_upto_region 7 with fail
   refine wp_region_S (λw'=>w'.cell? ⟨gb,0,none⟩=some (.int .i64 x0)/\w'.cell? ⟨gb,1,none⟩=some (.int .i64 x1)) 10 (by kernel_rfl) ?_
   have hS0:wb.drew.cell? ⟨gb,0,none⟩=some (.int .i64 x0)/\wb.drew.cell? ⟨gb,1,none⟩=some (.int .i64 x1):=⟨hc0,hc1⟩
   have hS1:(wb.alloc (.cells #[.float .f64 0,.float .f64 0] 52)).drew.cell? ⟨gb,0,none⟩=some (.int .i64 x0)/\(wb.alloc (.cells #[.float .f64 0,.float .f64 0] 52)).drew.cell? ⟨gb,1,none⟩=some (.int .i64 x1):=⟨keep_cell ((Below.refl _ wb).alloc (Nat.le_refl _) _) hc0,keep_cell ((Below.refl _ wb).alloc (Nat.le_refl _) _) hc1⟩
   have hzC:=zero_C
   refine Takes.intro [0,1,2,4,5,6] ?_
   repeat(refine Takes.step (v:=?_) (by kernel_rfl) rfl (λ_ _ _ h=>h) rfl hS0 (λw2 hSw=>by(try dsimp only at hSw);go_simp;try with_reducible rfl) ?_;try simp only[nrm,Act.put])
   refine Takes.nil ?_
   refine wpAnyS_pair (i:=3) (j:=9) (by kernel_rfl) rfl rfl rfl rfl (λK hK=>?_) (λK hK=>?_)
   go_simp
   refine hK.out _ _ (λ_=>hS0) ?_
   clear hK K
   try simp only[nrm,Act.put]
   refine wpAnyS_pair (i:=7) (j:=9) (by kernel_rfl) rfl rfl rfl rfl (λK hK=>?_) (λK hK=>?_)
   go_simp
   refine hK.out _ _ (λ_=>hS0) ?_
   clear hK K
   try simp only[nrm,Act.put]
   refine Takes.intro [8] ?_
   repeat(refine Takes.step (v:=?_) (by kernel_rfl) rfl (λ_ _ _ h=>h) rfl hS0 (λw2 hSw=>by(try dsimp only at hSw);go_simp;try with_reducible rfl) ?_;try simp only[nrm,Act.put])
   refine Takes.nil ?_
   refine wpAnyS_1 9 (λK hK=>?_)
   go_simp
   refine hK.out _ _ (λ_=>hS1) ?_
   clear hK K
   try simp only[nrm,Act.put]
   refine wpAnyS_fin 1 10 ?_
   simp only[nrd]
   rotate_left
   go_simp
   refine hK.out _ _ (λ_=>hS1) ?_
   clear hK K
   try simp only[nrm,Act.put]
   refine wpAnyS_1 7 (λK hK=>?_)
   go_simp
   refine hK.out _ _ (λ_=>hS1) ?_
   clear hK K
   try simp only[nrm,Act.put]
   refine Takes.intro [8] ?_
   repeat(refine Takes.step (v:=?_) (by kernel_rfl) rfl (λ_ _ _ h=>h) rfl hS1 (λw2 hSw=>by(try dsimp only at hSw);go_simp;try with_reducible rfl) ?_;try simp only[nrm,Act.put])
   refine Takes.nil ?_
   refine wpAnyS_fin 1 10 ?_
   simp only[nrd]
   rotate_left
   go_simp
   refine hK.out _ _ (λ_=>hS1) ?_
   clear hK K
   try simp only[nrm,Act.put]
   refine wpAnyS_1 3 (λK hK=>?_)
   go_simp
   refine hK.out _ _ (λ_=>hS1) ?_
   clear hK K
   try simp only[nrm,Act.put]
   refine wpAnyS_1 7 (λK hK=>?_)
   go_simp
   refine hK.out _ _ (λ_=>hS1) ?_
   clear hK K
   try simp only[nrm,Act.put]
   refine Takes.intro [8] ?_
   repeat(refine Takes.step (v:=?_) (by kernel_rfl) rfl (λ_ _ _ h=>h) rfl hS1 (λw2 hSw=>by(try dsimp only at hSw);go_simp;try with_reducible rfl) ?_;try simp only[nrm,Act.put])
   refine Takes.nil ?_
   refine wpAnyS_fin 1 10 ?_
   simp only[nrd]
   all_goals clear hS0 hS1 hzC
   all_goals go_upto_region 8 with fail
   all_goals
    obtain⟨wC,hwC⟩:∃wC,wC=(wb.alloc (.cells #[.float .f64 (u:Nat),.float .f64 (v:Nat)] 52)).drew:=⟨_,rfl⟩
    obtain⟨gC,hgC0⟩:∃gC,gC=wb.heap.size:=⟨_,rfl⟩
    have hd0:wC.cell? ⟨gC,0,none⟩=some (.float .f64 (u:Nat)):=by rw[hwC,hgC0];show(wb.alloc _).cell? _=_;rw[World.cell?_alloc_new];rfl
    have hd1:wC.cell? ⟨gC,1,none⟩=some (.float .f64 (v:Nat)):=by rw[hwC,hgC0];show(wb.alloc _).cell? _=_;rw[World.cell?_alloc_new];rfl
    have HBRC:Hid (Below wr.heap.size wr wC):=aZ (by rw[hwC];exact(HBB.out.alloc HBB.out.size _).drew)
    have HBC:Hid (Below w2.heap.size w2 wC):=aZ (hb.out.trans (HBRC.out.mono hb.out.size))
    have hgC:wr.heap.size<=gC:=by rw[hgC0];exact HBB.out.size
    have HTR:Hid (∀t,t<3->wr.ownsRow w2.heap.size (ths v5 v6 v7 L (u,v) t).e (ths v5 v6 v7 L (u,v) t).sz (ths v5 v6 v7 L (u,v) t).v (ths v5 v6 v7 L (u,v) t).k (ths v5 v6 v7 L (u,v) t).xs):=aZ (λt ht=>by
     rcases t with _|_|_|t
     ·exact o5.out
     ·have h1:=o6.out;unfold OwnL at h1;rw[List.length_map] at h1;exact h1
     ·have h1:=o7.out;unfold OwnL at h1;rw[List.length_map] at h1;exact h1
     ·omega)
    have HAP:Hid (∀s t,s<3->t<3->s≠t->∀g,(ths v5 v6 v7 L (u,v) s).v.ownBlock=some g->(ths v5 v6 v7 L (u,v) t).v.ownBlock≠some g):=aZ (λs t hs ht hne=>by
     rcases s with _|_|_|s<;>rcases t with _|_|_|t
     all_goals first|omega|exact absurd rfl hne|exact hap.out.1|exact hap.out.2.1|exact hap.out.2.2|exact hap.out.1.symm|exact hap.out.2.1.symm|exact hap.out.2.2.symm)
    rw[<-hwC,<-hgC0]
    clear hwC hgC0 hc0 hc1 HBB hap o5 o6 o7
    refine wp_region_S (λw'=>(w'.cell? ⟨gC,0,none⟩=some (.float .f64 (u:Nat))/\w'.cell? ⟨gC,1,none⟩=some (.float .f64 (v:Nat)))/\Hid (Below w2.heap.size w2 w')) 13 (by kernel_rfl) ?_
    have hS0:(wC.drew.cell? ⟨gC,0,none⟩=some (.float .f64 (u:Nat))/\wC.drew.cell? ⟨gC,1,none⟩=some (.float .f64 (v:Nat)))/\Hid (Below w2.heap.size w2 wC.drew):=⟨⟨hd0,hd1⟩,aZ (HBC.out.drew)⟩
    refine Takes.intro [0,1,4,5,6,9,10,11] ?_
    repeat(refine Takes.step (v:=?_) (by kernel_rfl) rfl (λ_ _ _ h=>h) rfl hS0 (λw2 hSw=>by(try dsimp only at hSw);go_simp;try with_reducible rfl) ?_;try simp only[nrm,Act.put])
    refine Takes.nil ?_
    refine wpAppends 3 w2.heap.size (ths v5 v6 v7 L (u,v)) [2,3,7,8,12,13] [[],[0],[],[2,1],[],[4,3]] [53,54,58,59,63,64] 3 14 (ths_ok _ _ _ _ _ (by have:=hL.out;omega)) rfl rfl (by decide) (λq hq=>(by rcases q with _|_|_|q<;>first|decide|omega)) (by kernel_rfl) (by decide) rfl (by kernel_rfl) hS0 ?_ ?_ HBC.out.size ?_ ?_ ?_ ?_ ?_
    ·intro w' o ⟨⟨e0,e1⟩,e2⟩ hsz
     exact⟨⟨keep_cell ((Below.refl _ w').alloc (Nat.le_refl _) _) e0,keep_cell ((Below.refl _ w').alloc (Nat.le_refl _) _) e1⟩,aZ (e2.out.alloc hsz _)⟩
    ·intro w' w'' t ht ⟨⟨e0,e1⟩,e2⟩ hsz hg
     have hne:(ths v5 v6 v7 L (u,v) t).v.ownBlock≠some gC:=λe=>by
      have:=World.ownsRow.lt (HTR.out t ht) gC e
      have:=hgC
      omega
     exact⟨⟨grown_cell hg e0 hne,grown_cell hg e1 hne⟩,aZ (e2.out.grown hg hsz (λg e=>(World.ownsRow.lt (HTR.out t ht) g e).1))⟩
    ·intro t ht
     exact owns_below (HTR.out t ht) (HBRC.out.drew)
    ·exact HAP.out
    ·intro t ht
     rcases t with _|_|_|t
     ·exact⟨_,_,_,rfl,rfl,rfl,rfl,rfl,λx=>(eval_putG_no x _ _ _ _ (by decide)).trans (by kernel_rfl)⟩
     ·exact⟨_,_,_,rfl,rfl,rfl,rfl,rfl,λx=>(eval_putG_no x _ _ _ _ (by decide)).trans (by kernel_rfl)⟩
     ·exact⟨_,_,_,rfl,rfl,rfl,rfl,rfl,λx=>(eval_putG_no x _ _ _ _ (by decide)).trans (by kernel_rfl)⟩
     ·omega
    ·intro t ht
     rcases t with _|_|_|t
     ·exact⟨_,_,_,_,rfl,rfl,rfl,rfl,rfl,λx=>(eval_putG_no x _ _ _ _ (by decide)).trans (by kernel_rfl),λx=>eval_putG_at x 53 _ 0 _ 0 (by decide) rfl (of_decide_eq_true (by kernel_rfl))⟩
     ·exact⟨_,_,_,_,rfl,rfl,rfl,rfl,rfl,λx=>(eval_putG_no x _ _ _ _ (by decide)).trans (by kernel_rfl),λx=>eval_putG_at x 58 _ 0 _ 2 (by decide) rfl (of_decide_eq_true (by kernel_rfl))⟩
     ·exact⟨_,_,_,_,rfl,rfl,rfl,rfl,rfl,λx=>(eval_putG_no x _ _ _ _ (by decide)).trans (by kernel_rfl),λx=>eval_putG_at x 63 _ 0 _ 4 (by decide) rfl (of_decide_eq_true (by kernel_rfl))⟩
     ·omega
    intro x wE hSE hGr
    obtain⟨g5,c5,e5,r5⟩:=hGr.row 0 (by decide)
    obtain⟨g6,c6,e6,r6⟩:=hGr.row 1 (by decide)
    obtain⟨g7,c7,e7,r7⟩:=hGr.row 2 (by decide)
    have a1:=hGr.ap 0 1 (by decide) (by decide) (by decide)
    have a2:=hGr.ap 0 2 (by decide) (by decide) (by decide)
    have a3:=hGr.ap 1 2 (by decide) (by decide) (by decide)
    rw[show 2*0+1=1 from rfl] at e5 a1 a2
    rw[show 2*1+1=3 from rfl] at e6 a1 a3
    rw[show 2*2+1=5 from rfl] at e7 a2 a3
    rw[e5] at a1 a2
    rw[e6] at a1 a3
    rw[e7] at a2 a3
    have HR5:Hid (OwnX wE w2.heap.size (.slice (some ⟨g5,0,none⟩) (k+1) c5) (L++[(u,v)])):=aZ (by
     unfold OwnX
     rw[List.length_append,<-cxV_app,<-hL.out]
     exact r5)
    have HR6:Hid (OwnL wE w2.heap.size (.slice (some ⟨g6,0,none⟩) (k+1) c6) ((L++[(u,v)]).map Prod.fst)):=aZ (by
     unfold OwnL
     rw[List.length_map,List.length_append,List.map_append,List.map_cons,List.map_nil,<-fltV_app,<-hL.out]
     exact r6)
    have HR7:Hid (OwnL wE w2.heap.size (.slice (some ⟨g7,0,none⟩) (k+1) c7) ((L++[(u,v)]).map Prod.snd)):=aZ (by
     unfold OwnL
     rw[List.length_map,List.length_append,List.map_append,List.map_cons,List.map_nil,<-fltV_app,<-hL.out]
     exact r7)
    have HAP2:=aZ (And.intro a1 (And.intro a2 a3))
    have HBE:=hSE.2
    have HL2:Hid ((L++[(u,v)]).length=k+1):=aZ (by rw[List.length_append,hL.out];rfl)
    have e5:x 1=.slice (some ⟨g5,0,none⟩) (k+1:Nat) c5:=by rw[<-hL.out];exact e5
    have e6:x 3=.slice (some ⟨g6,0,none⟩) (k+1:Nat) c6:=by rw[<-hL.out];exact e6
    have e7:x 5=.slice (some ⟨g7,0,none⟩) (k+1:Nat) c7:=by rw[<-hL.out];exact e7
    clear hGr hSE r5 r6 r7 a1 a2 a3 HTR HAP hS0 hd0 hd1 HBRC HBC
    simp only[putG,Nat.zero_add,Nat.reduceAdd,List.setIfInBounds_toArray,List.set_cons_zero,List.set_cons_succ,Act.put,e5,e6,e7,List.toList_toArray,List.drop_succ_cons,List.drop_zero]
    go_wp2
    exact⟨⟨k+1,L++[(u,v)],by omega,by go_num,HL2,HR5,HR6,HR7,HAP2,HBE⟩,by simp[intOf];omega⟩
  ·obtain rfl:k=m:=by omega
   obtain⟨B5,d5,rfl,hX5,-⟩:=o5.out.cs
   obtain⟨B6,d6,rfl,hX6,-⟩:=o6.out.fs
   obtain⟨B7,d7,rfl,hX7,-⟩:=o7.out.fs
   obtain⟨h,hh⟩:∃h:Nat->Cx,h=λi=>nC (L.getD i (0,0)):=⟨_,rfl⟩
   rw[<-hh] at hX5
   rw[List.length_map] at hX6 hX7|-
   rw[List.length_map]
   have hX6:FsAt wr B6 L.length (λi=>(h i).1):=hX6.congr (λi hi=>by
    rw[hh]
    show nz _=nz _
    rw[List.getD_eq_getElem?_getD,List.getD_eq_getElem?_getD,List.getElem?_map,List.getElem?_eq_getElem hi]
    rfl)
   have hX7:FsAt wr B7 L.length (λi=>(h i).2):=hX7.congr (λi hi=>by
    rw[hh]
    show nz _=nz _
    rw[List.getD_eq_getElem?_getD,List.getD_eq_getElem?_getD,List.getElem?_map,List.getElem?_eq_getElem hi]
    rfl)
   have hLk:=hL.out
   rw[hLk] at hX5 hX6 hX7|-
   have HX5:=aZ hX5
   have HX6:=aZ hX6
   have HX7:=aZ hX7
   have HK60:=aZ hm60
   have HBW:=aZ (BB2.out.trans (hb.out.mono BB2.out.size))
   have HPP:=aZ (And.intro (PP2.out.below hb.out) (KK2.out.below hb.out))
   have HPL:=aZ (And.intro (PL2.out.below hb.out) (KL2.out.below hb.out))
   clear hX5 hX6 hX7 hm60 hh o5 o6 o7 hap hL hLk hlt hk hb PP2 PL2 KK2 KL2 BB2 HB2 HM hm0
   have HFW:=aZ (λw h1 h2=>forwardU kd pn pr pq HQ.out B c B6 k d6 (λi=>(h i).1) w h1 h2 (by have:=HK60.out;omega))
   have HRF:=aZ (λw h1 h2=>RForward_any kd pn pr pq (by have:=HQ.out;omega) B' c' B6 k d6 (λi=>(h i).1) w h1 h2 (by have:=HK60.out;omega))
   obtain⟨e1,he1⟩:∃e1,e1=fwdE (checkE kd pn pr pq (wantsI k)) k (λi=>(h i).1):=⟨_,rfl⟩
   rw[<-he1] at HFW HRF
   clear he1
   obtain⟨x0,x1,x2,x3⟩:=HPP.out.1
   go_wp2_with fail
   refine(HFW.out wr HPP.out.2 HX6.out).mono ?_
   rintro z w3 ⟨⟨Aa,la,ca,rfl,hfs,hla,hz1,hz2⟩,hb3⟩
   have HFS:=aZ hfs
   have HLA:=aZ (And.intro hla (And.intro hz1 hz2))
   have LA9:=aZ hla
   have HB3:=aZ hb3
   have HPL3:=aZ (And.intro (HPL.out.1.below hb3) (HPL.out.2.below hb3))
   clear hfs hla hz1 hz2 hb3 x0 x1 x2 x3 HFW
   obtain⟨x0,x1,x2,x3⟩:=HPL3.out.1
   go_wp2_with fail
   refine(HRF.out w3 HPL3.out.2 (HX6.out.keep HB3.out)).mono ?_
   rintro z w4 ⟨rfl,hb4⟩
   have HB4:=aZ (HB3.out.trans (hb4.mono HB3.out.size))
   have HFS4:=aZ (HFS.out.keep hb4)
   clear hb4 x0 x1 x2 x3 HRF HPL3 HFS
   go_upto_region 12 with fail
   go_cut [99] from 75 to 99 (λs99 wx=>s99=.bool false/\wx=w4)
   case first=>
    obtain⟨kh,hkh⟩:∃kh:Nat,k/2=kh:=⟨_,rfl⟩
    have hkh1:(k:Int)/2=(kh:Int):=by omega
    have hkb:kh<=60:=by have:=HK60.out;omega
    by_cases h0:e1=0
    ·have hla:=HLA.out.2.2 h0
     rw[hkh] at hla
     subst h0
     have h5:((la:Int) != (kh:Int)+1)=false:=by
      have:(la:Int)=(kh:Int)+1:=by omega
      simpa using this
     have h6:((la:Int) != (k:Int)/2+1)=false:=by rw[hkh1];exact h5
     have hk9:k<=60:=HK60.out
     clear hla hkh
     go_wp2_with fail
     go_meet
     exact⟨rfl,rfl⟩
    ·have hla:=HLA.out.2.1 h0
     subst hla
     have h1:(e1==0)=false:=by simpa using h0
     have h2:(e1 != 0)=true:=by simpa using h0
     clear hkh
     go_wp2_with fail
     go_meet
     exact⟨rfl,rfl⟩
   case rest=>
   obtain⟨rfl,rfl⟩:=hcut
   rename World=>w4
   apply_assumption
   clear HLA
   go_wp2_with fail
   go_loopw [102] (λvi wy=>∃j:Nat,j<=la/\vi=.int .i64 j/\Hid (Below w4.heap.size w4 wy)) (λvi _=>la-(intOf vi).toNat)
   case atStart=>exact⟨0,by omega,rfl,aZ (Below.refl _ _)⟩
   case round=>
    rename World=>wy
    obtain⟨j,hj,rfl,hby⟩:=hrel
    by_cases hlt:j<la
    ·have hji:(j:Int)<la:=by omega
     have hj9:j+1<=1000:=by have:=LA9.out;omega
     obtain⟨b,o,y,rfl,c0,c1,ey1,ey2⟩:=(HFS4.out.keep hby.out) j hlt
     obtain⟨wb,hwb⟩:∃wb,wb=wy.alloc (.cells #[.float .f64 (y.1:Nat),.float .f64 (y.2:Nat)] 52):=⟨_,rfl⟩
     obtain⟨gb,hgb⟩:∃gb,gb=wy.heap.size:=⟨_,rfl⟩
     have hc0:wb.cell? ⟨gb,0,none⟩=some (.float .f64 (y.1:Nat)):=by rw[hwb,hgb,World.cell?_alloc_new];rfl
     have hc1:wb.cell? ⟨gb,1,none⟩=some (.float .f64 (y.2:Nat)):=by rw[hwb,hgb,World.cell?_alloc_new];rfl
     have HBT:Hid (Below w4.heap.size w4 wb):=aZ (by rw[hwb];exact hby.out.alloc hby.out.size _)
     clear hby
     go_upto_region 17 with fail
     rw[<-hwb,<-hgb]
     clear hwb hgb c0 c1
     go_wp2_with fail
     refine(RFin_any _ y.1.isLt _).mono ?_
     rintro z wq ⟨rfl,rfl⟩
     rw[ey1]
     go_wp2_with fail
     refine(RFin_any _ y.2.isLt _).mono ?_
     rintro z wq ⟨rfl,rfl⟩
     rw[ey2]
     go_wp2
     exact⟨⟨j+1,by omega,by go_num,HBT⟩,by simp[intOf];omega⟩
    ·obtain rfl:j=la:=by omega
     have HB5:=aZ (HB4.out.trans (hby.out.mono HB4.out.size))
     clear hby HB4 hlt hj HFS4
     obtain⟨d,hd⟩:∃d:Int,2*(k:Int)=d:=⟨_,rfl⟩
     have hk60:k<=60:=HK60.out
     obtain⟨y1,hy1⟩:∃y1:Int,d-1=y1:=⟨_,rfl⟩
     obtain⟨y2,hy2⟩:∃y2:Int,d-2=y2:=⟨_,rfl⟩
     have hd0:wrap64 (2*(k:Int))=d:=by rw[hd];unfold wrap64;omega
     have hd1:IntKind.i64.wrap (2*(k:Int))=d:=by rw[hd,IntKind.wrap_i64];omega
     have hy10:wrap64 (d-1)=y1:=by rw[hy1];unfold wrap64;omega
     have hy11:IntKind.i64.wrap (d-1)=y1:=by rw[hy1,IntKind.wrap_i64];omega
     have hy20:wrap64 (d-2)=y2:=by rw[hy2];unfold wrap64;omega
     have hy21:IntKind.i64.wrap (d-2)=y2:=by rw[hy2,IntKind.wrap_i64];omega
     have HYB:Hid (-9223372036854775808<=y1/\y1<=9223372036854775807/\-9223372036854775808<=y2/\y2<=9223372036854775807):=aZ (by omega)
     clear hd hy1 hy2 hk60
     obtain⟨wI,hwI⟩:∃wI,wI=wy.alloc (.cells #[.int .i64 sx,.int .i64 y1,.int .i64 y2] 3):=⟨_,rfl⟩
     obtain⟨gI,hgI⟩:∃gI,gI=wy.heap.size:=⟨_,rfl⟩
     have hbI:Below wy.heap.size wy wI:=by rw[hwI];exact(Below.refl _ wy).alloc (Nat.le_refl _) _
     obtain⟨ms,hms⟩:∃ms:Nat->Int,ms=λi=>if i=0 then sx else if i=1 then y1 else y2:=⟨_,rfl⟩
     have hcI:∀i,i<3->wI.cell? ⟨gI,i,none⟩=some (.int .i64 (ms i)):=by
      intro i hi
      rw[hwI,hgI,hms,World.cell?_alloc_new]
      rcases i with _|_|_|i
      ·rfl
      ·rfl
      ·rfl
      ·omega
     have hmb:∀i,i<3->-9223372036854775808<=ms i/\ms i<=9223372036854775807:=by
      intro i hi
      have:=HYB.out
      have:=HXB.out
      rw[hms]
      dsimp only
      split
      ·omega
      ·split<;>omega
     have HMB:=aZ hmb
     have HCI:=aZ hcI
     have HBI:=aZ (HB5.out.trans (hbI.mono HB5.out.size))
     clear hmb hcI hbI hms HYB HB5
     go_upto_region 21 with fail
     rw[<-hwI,<-hgI]
     clear hwI hgI hd0 hd1 hy10 hy11 hy20 hy21
     go_loopw [128] (λvi wz=>∃s:Nat,s<=3/\vi=.int .i64 s/\Hid (Below wI.heap.size wI wz/\Below wr.heap.size wr wz)) (λvi _=>3-(intOf vi).toNat)
     case atStart=>exact⟨0,by omega,rfl,aZ ⟨Below.refl _ _,HBI.out⟩⟩
     case round=>
      rename World=>wz
      obtain⟨s,hs,rfl,hbz⟩:=hrel
      by_cases hlt:s<3
      ·have hsi:(s:Int)<3:=by omega
       have hs0:(0:Int)<=s:=by omega
       have hci:=keep_cell hbz.out.1 (HCI.out s hlt)
       have hmb:=HMB.out s hlt
       obtain⟨mq,hmq⟩:∃mq,ms s=mq:=⟨_,rfl⟩
       rw[hmq] at hci hmb
       clear hmq
       have HBK:=aZ (λw h1 h2=>backwardU kd pn pr pq HQ.out B c B5 k d5 mq h w h1 h2 (by have:=HK60.out;omega))
       have HRB:=aZ (λw h1 h2 h3=>RBackward_any kd pn pr pq (by have:=HQ.out;omega) B' c' B6 B7 k d6 d7 mq h w h1 h2 h3 (by have:=HK60.out;omega))
       obtain⟨e2,he2⟩:∃e2,e2=bwdE (checkE kd pn pr pq (wantsI mq)) mq k h:=⟨_,rfl⟩
       rw[<-he2] at HBK HRB
       have HMQ:=aZ hmb
       clear he2 hmb
       have HBZ:=aZ hbz.out.2
       have HBZI:=aZ hbz.out.1
       have HPZ:=aZ (And.intro (HPP.out.1.below hbz.out.2) (HPP.out.2.below hbz.out.2))
       have HX5Z:=aZ (HX5.out.keep hbz.out.2)
       clear hbz
       obtain⟨x0,x1,x2,x3⟩:=HPZ.out.1
       go_wp2_with fail
       refine(HBK.out wz HPZ.out.2 HX5Z.out).mono ?_
       rintro z wv ⟨⟨Ab2,lb,cb2,rfl,hfa,hlb,hz1,hz2⟩,hbv⟩
       have HFA:=aZ hfa
       have HLB:=aZ (And.intro hlb (And.intro hz1 hz2))
       have LB9:=aZ hlb
       have HBV:=aZ (HBZ.out.trans (hbv.mono HBZ.out.size))
       have HBVI:=aZ (HBZI.out.trans (hbv.mono HBZI.out.size))
       clear hfa hlb hz1 hz2 hbv x0 x1 x2 x3 HBK HPZ HX5Z HBZ HBZI hci
       have HPV:=aZ (And.intro (HPL.out.1.below HBV.out) (HPL.out.2.below HBV.out))
       obtain⟨x0,x1,x2,x3⟩:=HPV.out.1
       go_wp2_with fail
       refine(HRB.out wv HPV.out.2 (HX6.out.keep HBV.out) (HX7.out.keep HBV.out)).mono ?_
       rintro z wu ⟨rfl,hbu⟩
       have HBU2:=aZ (HBV.out.trans (hbu.mono HBV.out.size))
       have HBUI:=aZ (HBVI.out.trans (hbu.mono HBVI.out.size))
       have HFAU:=aZ (HFA.out.keep hbu)
       clear hbu x0 x1 x2 x3 HRB HPV HFA HBV HBVI
       go_upto_region 25 with fail
       go_cut [165] from 144 to 165 (λs165 wx=>s165=.bool false/\wx=wu)
       case first=>
        by_cases h0:e2=0
        ·have hlb:=HLB.out.2.2 h0
         subst h0
         have h5:((lb:Int) != mq)=false:=by simpa using hlb
         have hmb:=HMQ.out
         clear hlb
         go_wp2_with fail
         go_meet
         exact⟨rfl,rfl⟩
        ·have hlb:=HLB.out.2.1 h0
         subst hlb
         have h1:(e2==0)=false:=by simpa using h0
         have h2:(e2 != 0)=true:=by simpa using h0
         go_wp2_with fail
         go_meet
         exact⟨rfl,rfl⟩
       case rest=>
       obtain⟨rfl,rfl⟩:=hcut
       rename World=>wu
       apply_assumption
       clear HLB
       go_wp2_with fail
       go_loopw [168] (λvi wt=>∃j:Nat,j<=lb/\vi=.int .i64 j/\Hid (Below wu.heap.size wu wt)) (λvi _=>lb-(intOf vi).toNat)
       case atStart=>exact⟨0,by omega,rfl,aZ (Below.refl _ _)⟩
       case round=>
        rename World=>wt
        obtain⟨j2,hj2,rfl,hbt⟩:=hrel
        by_cases hlt2:j2<lb
        ·have hji:(j2:Int)<lb:=by omega
         have hj9:j2+1<=1000:=by have:=LB9.out;omega
         obtain⟨b,o,y,rfl,c0,ey1⟩:=(HFAU.out.keep hbt.out) j2 hlt2
         go_wp2_with fail
         refine(RFin_any _ y.isLt _).mono ?_
         rintro z wq ⟨rfl,rfl⟩
         rw[ey1]
         go_wp2
         exact⟨⟨j2+1,by omega,by go_num,hbt⟩,by simp[intOf];omega⟩
        ·obtain rfl:j2=lb:=by omega
         have HBT2:=aZ (And.intro (HBUI.out.trans (hbt.out.mono HBUI.out.size)) (HBU2.out.trans (hbt.out.mono HBU2.out.size)))
         clear hbt HBU2 HBUI HFAU hlt2 hj2
         go_wp2
         exact⟨⟨s+1,by omega,by go_num,HBT2⟩,by simp[intOf];omega⟩
      ·obtain rfl:s=3:=by omega
       have HBF:=aZ (HBW.out.trans (hbz.out.2.mono HBW.out.size))
       clear hbz
       go_wp2_with fail
       refine(HWK.out _).mono ?_
       rintro z w9 ⟨rfl,hb9⟩
       have HBG:=aZ (HBF.out.trans (hb9.mono HBF.out.size))
       clear hb9
       go_wp2
       go_ret
       exact⟨rfl,HBG.out⟩
end Go.Proofs.YtmgfaeineklccaaGreat
