/- The walk of ExecRefuses. -/
import Derived.Test.YtmgfaeineklccaaGreatMH3
import Derived.Test.YtmgfaeineklccaaGreatMH1
import Derived.Test.YtmgfaeineklccaaGreatG6
import Derived.Test.YtmgfaeineklccaaGreatMV3
set_option maxRecDepth 100000
set_option maxHeartbeats 8000000
set_option linter.unusedSimpArgs false
set_option linter.unusedVariables false
namespace Go.Proofs.YtmgfaeineklccaaGreat
open Go.RowKit Go.Lib
@[go_sem] theorem run_minH22 {P:Program} (w:World) (ts:Array TypeId) (t:TypeId) (x y:Int):
  (Builtin.min_ ts t #[.int .i64 x,.int .i64 y]).run P w=.ok (.int .i64 (min x y)) w:=by
 show([Value.int .i64 y].foldlM Builtin.min2 (.int .i64 x)).run P w=_
 simp[List.foldlM,Builtin.min2]
 omega
def u64G (x:Int):Wd:=⟨(IntKind.u64.wrap x).toNat,by rw[IntKind.wrap_u64];omega⟩
section
variable {P : Program} {md : Region.Mode} {ops : Array Oper} {Q : Exit -> Act -> World -> Prop} {S : World -> Prop} {t : Nat}
theorem wpAnyS_oneH {i:Nat} {oi:Oper} {fuel:Nat} {listed:Array Bool} {a:Act} {w:World} (hr:oneOk md ops listed i=true) (hi:ops[i]?=some oi) (hwn:Region.wanted oi (yielded ops a.tmps)=true)
  (h:∀K:Act->World->Prop,Hid (∀a' w',(i<t->S w')->wpAnyS P md ops Q S t fuel (listed.setIfInBounds i true) a' w'->K a' w')->Oper.wp P oi a w K Q):wpAnyS P md ops Q S t (fuel+1) listed a w:=by
 unfold oneOk at hr
 rw[beq_iff_eq] at hr
 refine⟨fun h0=>(by rw[hr] at h0;cases h0),fun j hj=>?_⟩
 rw[hr] at hj
 obtain rfl:=List.mem_singleton.1 hj
 unfold wpOp
 rw[hi]
 simp only[hwn,if_true]
 exact .inl (h _ (Lib.hid fun a' w' h1 h2=>⟨h1,h2⟩))
end
theorem ExecRefuses_any (Al:Option Addr) (nl cl:Nat) (f:Nat->Nat->Int) (Ab:Option Addr) (nb cb:Nat) (fb:Nat->Int×Int) (s:Int) (b0:-9223372036854775808<=s) (b1:s<=9223372036854775807) (w:World) (hN:NodesAt w Al nl f) (hnl:nl<=1125899906842624) (hB:BitsAt w Ab nb fb) (hn:nb<=9223372036854775807) (hAc:Ab=none->cb=0) (hnc:nb<=cb) (hc:cb<=9223372036854775807):
  Calls Tryz.prog 4 #[.slice Al nl cl,.slice Ab nb cb,.int .i64 s] w fun z w'=>z=.returned (.bool true)/\Below w.heap.size w w':=by
 have HBU:=Lib.hid (build20 Al nl cl f w hN hnl)
 have HBI:=Lib.hid hB
 have HWK:=Lib.hid wakes20_any
 clear hN hB
 go_enter Tryz.func4,Tryz.ntmps4
 go_wp2_with fail
 refine HBU.out.mono ?_
 rintro z w1 ⟨k,n,r,q,B,c,B',c',rfl,hq,hk1,hk2,hb⟩
 have HQ:=Lib.hid hq
 have KK1:=Lib.hid hk1
 have KL1:=Lib.hid hk2
 have BB1:=Lib.hid hb
 clear hq hk1 hk2 hb HBU
 go_upto_region 2 with(fail)
 obtain⟨w2,hw2⟩:∃w2,w2=(w1.alloc (.cells #[.int .i64 k,.int .i64 n,.int .i64 r,.slice B q.len c] 27)).alloc (.cells #[.int .i64 k,.int .i64 n,.int .i64 r,.slice B' q.len c'] 30):=⟨_,rfl⟩
 have hb2:Below w1.heap.size w1 w2:=by rw[hw2];exact((Below.refl _ w1).alloc (Nat.le_refl _) _).alloc (by simp) _
 have hp2:PlBox w2 w1.heap.size k n r B q.len c:=by
  rw[hw2]
  exact(PlBox.new w1 _ _ _ _ _ _ _).below ((Below.refl _ _).alloc (Nat.le_refl _) _)
 have hq2:PlBox w2 (w1.heap.size+1) k n r B' q.len c':=by
  rw[hw2]
  have:=PlBox.new (w1.alloc (.cells #[.int .i64 k,.int .i64 n,.int .i64 r,.slice B q.len c] 27)) k n r B' q.len c' 30
  simp only[World.size_alloc] at this
  exact this
 rw[<-hw2]
 obtain⟨bP,hbP⟩:∃bP,w1.heap.size=bP:=⟨_,rfl⟩
 rw[hbP] at hp2 hq2|-
 have PP2:=Lib.hid hp2
 have PL2:=Lib.hid hq2
 have KK2:=Lib.hid (KK1.out.below hb2)
 have KL2:=Lib.hid (KL1.out.below hb2)
 have BB2:Hid (Below w.heap.size w w2):=Lib.hid (BB1.out.trans (hb2.mono BB1.out.size))
 have HB2:=Lib.hid (HBI.out.keep BB2.out)
 clear hw2 hb2 hp2 hq2 hbP KK1 KL1 BB1 HBI
 go_upto_region 3 with fail
 obtain⟨m,hm,hmn⟩:∃m:Nat,min (nb:Int) 100=(m:Int)/\m<=nb:=⟨min nb 100,by omega,by omega⟩
 have hm100:m<=100:=by omega
 have hmc:(m:Int)<=cb:=by omega
 have hm0:(0:Int)<=(m:Int):=by omega
 have HM:=Lib.hid hmn
 go_cut [31,32,33] from 27 to 33 (fun s31 s32 s33 wx=>(∃c',s31=.slice Ab m c')/\s32=.int .i64 m/\s33=.int .i64 0/\wx=w2)
 case first=>
  rcases Ab with _|a
  ·obtain rfl:=hAc rfl
   obtain rfl:nb=0:=by omega
   obtain rfl:m=0:=by omega
   go_wp2_with fail
   go_meet
   exact⟨⟨0,rfl⟩,rfl,rfl,rfl⟩
  ·go_wp2_with (fail)
   ·go_meet
    obtain rfl:m=100:=by omega
    exact⟨⟨cb,rfl⟩,rfl,rfl,rfl⟩
   ·go_meet
    obtain rfl:m=nb:=by omega
    exact⟨⟨cb,rfl⟩,rfl,rfl,rfl⟩
 case rest=>
 obtain⟨⟨c3,rfl⟩,rfl,rfl,rfl⟩:=hcut
 rename World=>w2
 apply_assumption
 clear hm hmn hAc hnc hc hn hmc
 go_wp2_with fail
 go_loopw [9,33] (fun v9 vi wr=>∃(j:Nat) (L:List Rx),j<=m/\vi=.int .i64 j/\Hid (L.length=j)/\Hid (OwnX wr w2.heap.size v9 L)/\Hid (Below w2.heap.size w2 wr)) (fun _ vi _=>m-(intOf vi).toNat)
 case atStart=>exact⟨0,[],by omega,rfl,Lib.hid rfl,Lib.hid (OwnX.nil _ _),Lib.hid (Below.refl _ _)⟩
 case round=>
  obtain⟨j,L,hj,rfl,hL,o9,hb⟩:=hrel
  by_cases hlt:j<m
  ·have hji:(j:Int)<m:=by omega
   have hj9:j+1<=32768:=by omega
   obtain⟨b,o,rfl,y0,y1⟩:=(HB2.out.keep hb.out) j (by have:=HM.out;omega)
   obtain⟨x0,hx0⟩:∃x0,(fb j).1=x0:=⟨_,rfl⟩
   obtain⟨x1,hx1⟩:∃x1,(fb j).2=x1:=⟨_,rfl⟩
   rw[hx0] at y0
   rw[hx1] at y1
   clear hx0 hx1
   obtain⟨u,hu⟩:∃u,u64G x0=u:=⟨_,rfl⟩
   obtain⟨v,hv⟩:∃v,u64G x1=v:=⟨_,rfl⟩
   have hu1:(IntKind.u64.wrap x0).toNat=(u:Nat):=by rw[<-hu];rfl
   have hv1:(IntKind.u64.wrap x1).toNat=(v:Nat):=by rw[<-hv];rfl
   have hfrom:=run_fromF
   clear hu hv
   generalize hv9:u9=v9 at*
   clear hv9
   obtain⟨wb,hwb⟩:∃wb,wb=wr.alloc (.cells #[.int .i64 x0,.int .i64 x1] 48):=⟨_,rfl⟩
   obtain⟨gb,hgb⟩:∃gb,gb=wr.heap.size:=⟨_,rfl⟩
   have hc0:wb.cell? ⟨gb,0,none⟩=some (.int .i64 x0):=by rw[hwb,hgb,World.cell?_alloc_new];rfl
   have hc1:wb.cell? ⟨gb,1,none⟩=some (.int .i64 x1):=by rw[hwb,hgb,World.cell?_alloc_new];rfl
   have HBB:Hid (Below wr.heap.size wr wb):=Lib.hid (by rw[hwb];exact(Below.refl _ wr).alloc (Nat.le_refl _) _)
   have HNB0:Hid (v9.ownBlock≠some gb):=Lib.hid (fun e=>by have:=(World.ownsRow.lt o9.out gb e).2;omega)
   go_upto_region 6 with fail
   rw[<-hwb,<-hgb]
   clear hwb hgb y0 y1
   refine wp_region_S (fun w'=>w'.cell? ⟨gb,0,none⟩=some (.int .i64 x0)/\w'.cell? ⟨gb,1,none⟩=some (.int .i64 x1)) 12 (by kernel_rfl) ?_
   have hS0:=(⟨hc0,hc1⟩:wb.drew.cell? ⟨gb,0,none⟩=some (.int .i64 x0)/\wb.drew.cell? ⟨gb,1,none⟩=some (.int .i64 x1))
   refine Takes.intro [0,1,2,3,5,6,7] ?_
   repeat(refine Takes.step (v:=?_) (by kernel_rfl) rfl (fun _ _ _ h=>h) rfl hS0 (fun w hSw=>by(try dsimp only at hSw);go_simp;try with_reducible rfl) ?_;try simp only[List.getElem_toArray,List.getElem_cons_zero,List.getElem_cons_succ,Act.put,List.setIfInBounds_toArray,List.set_cons_zero,List.set_cons_succ])
   refine Takes.nil ?_
   refine wpAnyS_one (i:=4) (by kernel_rfl) rfl rfl (fun K hK=>?_)
   go_simp
   refine hK.out _ _ (fun _=>hS0) ?_
   clear hK K
   try simp only[List.getElem_toArray,List.getElem_cons_zero,List.getElem_cons_succ,Act.put,List.setIfInBounds_toArray,List.set_cons_zero,List.set_cons_succ]
   refine wpAnyS_one (i:=8) (by kernel_rfl) rfl rfl (fun K hK=>?_)
   go_simp
   refine hK.out _ _ (fun _=>hS0) ?_
   clear hK K
   try simp only[List.getElem_toArray,List.getElem_cons_zero,List.getElem_cons_succ,Act.put,List.setIfInBounds_toArray,List.set_cons_zero,List.set_cons_succ]
   refine Takes.intro [9] ?_
   repeat(refine Takes.step (v:=?_) (by kernel_rfl) rfl (fun _ _ _ h=>h) rfl hS0 (fun w hSw=>by(try dsimp only at hSw);go_simp;try with_reducible rfl) ?_;try simp only[List.getElem_toArray,List.getElem_cons_zero,List.getElem_cons_succ,Act.put,List.setIfInBounds_toArray,List.set_cons_zero,List.set_cons_succ])
   refine Takes.nil ?_
   have hbs:=bs_C (u,v)
   refine wpAnyS_one (i:=10) (by kernel_rfl) rfl rfl (fun K hK=>?_)
   go_simp
   obtain⟨wc,hwc⟩:∃wc,wc=(wb.alloc (.cells #[.float .f64 (u:Nat),.float .f64 (v:Nat)] 52)).drew:=⟨_,rfl⟩
   obtain⟨gc,hgc⟩:∃gc,gc=wb.heap.size:=⟨_,rfl⟩
   have hd0:wc.cell? ⟨gc,0,none⟩=some (.float .f64 (u:Nat)):=by rw[hwc,hgc];show(wb.alloc _).cell? _=_;rw[World.cell?_alloc_new];rfl
   have hd1:wc.cell? ⟨gc,1,none⟩=some (.float .f64 (v:Nat)):=by rw[hwc,hgc];show(wb.alloc _).cell? _=_;rw[World.cell?_alloc_new];rfl
   have hbc:Below wb.heap.size wb wc:=by rw[hwc];exact((Below.refl _ wb).alloc (Nat.le_refl _) _).drew
   have hS1:wc.cell? ⟨gb,0,none⟩=some (.int .i64 x0)/\wc.cell? ⟨gb,1,none⟩=some (.int .i64 x1):=⟨keep_cell hbc hS0.1,keep_cell hbc hS0.2⟩
   have HBC:Hid (Below wr.heap.size wr wc):=Lib.hid (HBB.out.trans (hbc.mono HBB.out.size))
   rw[<-hwc,<-hgc]
   refine hK.out _ _ (fun _=>hS1) ?_
   clear hK K hwc hgc hbc hbs hc0 hc1
   try simp only[List.getElem_toArray,List.getElem_cons_zero,List.getElem_cons_succ,Act.put,List.setIfInBounds_toArray,List.set_cons_zero,List.set_cons_succ]
   refine wpAnyS_one (i:=11) (by kernel_rfl) rfl rfl (fun K hK=>?_)
   refine wp_app1X _ _ rfl w2.heap.size v9 L rfl (owns_below o9.out HBC.out) gc _ (u,v) rfl hd0 hd1 (by have:=hL.out;omega) (hb.out.trans (HBC.out.mono hb.out.size)).size ?_
   intro g cap wd hr hg hs
   have hS2:wd.cell? ⟨gb,0,none⟩=some (.int .i64 x0)/\wd.cell? ⟨gb,1,none⟩=some (.int .i64 x1):=⟨grown_cell hg.out hS1.1 HNB0.out,grown_cell hg.out hS1.2 HNB0.out⟩
   have HBD:Hid (Below w2.heap.size w2 wd):=Lib.hid ((hb.out.trans (HBC.out.mono hb.out.size)).grown hg.out (hb.out.trans (HBC.out.mono hb.out.size)).size (fun g e=>(World.ownsRow.lt o9.out g e).1))
   refine hK.out _ _ (fun _=>hS2) ?_
   clear hK K hg hs hd0 hd1 hS1 hS2 hS0
   try simp only[List.getElem_toArray,List.getElem_cons_zero,List.getElem_cons_succ,Act.put,List.setIfInBounds_toArray,List.set_cons_zero,List.set_cons_succ]
   refine wpAnyS_end 1 12 (by kernel_rfl) (by decide) rfl ?_
   simp only[List.toList_toArray,List.drop_succ_cons,List.drop_zero]
   have HL2:Hid ((L++[(u,v)]).length=j+1):=Lib.hid (by rw[List.length_append,hL.out];rfl)
   obtain⟨V,hV⟩:∃V,V=Value.slice (some ⟨g,0,none⟩) (L.length+1) cap:=⟨_,rfl⟩
   rw[<-hV] at hr|-
   clear hV hfrom hu1 hv1 HBC HBB o9 hb HNB0 hL
   go_wp2
   exact⟨⟨j+1,_,by omega,by go_num,HL2,hr,HBD⟩,by simp[intOf];omega⟩
  ·obtain rfl:j=m:=by omega
   obtain⟨A9,c9,rfl,hX,h9c,h9m,-⟩:=OwnX.cs o9.out
   have hL:=hL.out
   subst hL
   obtain⟨x,hx⟩:∃x:Nat->Cx,x=fun i=>nC (L.getD i (0,0)):=⟨_,rfl⟩
   rw[<-hx] at hX
   obtain⟨l,hl⟩:∃l,l=L.length:=⟨_,rfl⟩
   rw[<-hl] at hX hm100 h9c|-
   have HX:=Lib.hid hX
   have HL:=Lib.hid hm100
   have HBW:=Lib.hid (BB2.out.trans (hb.out.mono BB2.out.size))
   have HPP:=Lib.hid (And.intro (PP2.out.below hb.out) (KK2.out.below hb.out))
   have HPL:=Lib.hid (And.intro (PL2.out.below hb.out) (KL2.out.below hb.out))
   clear hX hx hl o9 hb PP2 PL2 KK2 KL2 BB2 HB2 HM h9m hlt hj hm0
   go_wp2_with fail
   refine(scaled0_any A9 l c9 x wr HX.out (by have:=HL.out;omega)).mono ?_
   rintro z w4 ⟨uA,vA,La,Ma,rfl,hl1,hl2,ho1,ho2,hap,hb4⟩
   have H4:=Lib.hid (And.intro (And.intro hl1 hl2) (And.intro ho1 (And.intro ho2 (And.intro hap hb4))))
   clear hl1 hl2 ho1 ho2 hap hb4
   go_wp2_with fail
   go_loopw [14,57] (fun v14 vi wx=>∃(i:Nat) (P Q:List Wd),i<=l/\vi=.int .i64 i/\Hid (P.length=l/\Q.length=l)/\Hid (OwnL wx wr.heap.size uA P)/\Hid (OwnL wx wr.heap.size vA Q)/\Hid (Pre P i (fun i=>(x i).1)/\Pre Q i (fun i=>(x i).2))/\Hid (Below wr.heap.size wr wx)) (fun _ vi _=>l-(intOf vi).toNat)
   case atStart=>exact⟨0,La,Ma,by omega,rfl,Lib.hid H4.out.1,Lib.hid H4.out.2.1,Lib.hid H4.out.2.2.1,Lib.hid ⟨fun i h=>by omega,fun i h=>by omega⟩,Lib.hid H4.out.2.2.2.2⟩
   case round=>
    have HAP:Hid (Apart uA vA):=Lib.hid H4.out.2.2.2.1
    rename World=>wx
    obtain⟨i,P,Q,hi,rfl,hlen,hu,hv,hpre,hb⟩:=hrel
    by_cases hlt:i<l
    ·have hii:(i:Int)<l:=by omega
     have hi9:i+1<=1000:=by have:=HL.out;omega
     obtain⟨b,o,y,rfl,c0,c1,hy⟩:=(HX.out.keep hb.out) i hlt
     obtain⟨g1,k1,e1,h11,h12,h13⟩:=OwnL.form hu.out (by have:=hlen.out.1;omega)
     obtain⟨g2,k2,e2,h21,h22,h23⟩:=OwnL.form hv.out (by have:=hlen.out.2;omega)
     rw[hlen.out.1] at e1 h13
     rw[hlen.out.2] at e2 h23
     subst e1 e2
     obtain⟨wb,hwb⟩:∃wb,wb=wx.alloc (.cells #[.float .f64 (y.1:Nat),.float .f64 (y.2:Nat)] 52):=⟨_,rfl⟩
     obtain⟨gb,hgb⟩:∃gb,gb=wx.heap.size:=⟨_,rfl⟩
     have hc0:wb.cell? ⟨gb,0,none⟩=some (.float .f64 (y.1:Nat)):=by rw[hwb,hgb,World.cell?_alloc_new];rfl
     have hc1:wb.cell? ⟨gb,1,none⟩=some (.float .f64 (y.2:Nat)):=by rw[hwb,hgb,World.cell?_alloc_new];rfl
     have hbb:Below wx.heap.size wx wb:=by rw[hwb];exact(Below.refl _ wx).alloc (Nat.le_refl _) _
     have HBB:Hid (Below wr.heap.size wr wb):=Lib.hid (hb.out.trans (hbb.mono hb.out.size))
     have HO1:=Lib.hid (hu.out.below hbb)
     have HO2:=Lib.hid (hv.out.below hbb)
     have HNE:Hid (gb≠g1/\gb≠g2):=Lib.hid (by omega)
     have HPR:Hid (Pre (P.set i y.1) (i+1) (fun i=>(x i).1)/\Pre (Q.set i y.2) (i+1) (fun i=>(x i).2)):=Lib.hid ⟨hpre.out.1.set (by have:=hlen.out.1;omega) _ (congrArg Prod.fst hy),hpre.out.2.set (by have:=hlen.out.2;omega) _ (congrArg Prod.snd hy)⟩
     have HLN:Hid ((P.set i y.1).length=l/\(Q.set i y.2).length=l):=Lib.hid ⟨by rw[List.length_set];exact hlen.out.1,by rw[List.length_set];exact hlen.out.2⟩
     have HGE:Hid (wr.heap.size<=g1/\wr.heap.size<=g2):=Lib.hid ⟨h11,h21⟩
     clear hbb hu hv hy hpre hb h11 h12 h21 h22
     go_upto_region 12 with fail
     rw[<-hwb,<-hgb]
     clear hwb hgb c0 c1
     obtain⟨p1,hp1⟩:=HO1.out.cell hlen.out.1 hlt
     have hf1:=HO1.out.free hlen.out.1 i
     refine wp_region_S (fun w'=>w'.cell? ⟨gb,0,none⟩=some (.float .f64 (y.1:Nat))/\w'.cell? ⟨gb,1,none⟩=some (.float .f64 (y.2:Nat))) 10 (by kernel_rfl) ?_
     have hS0:=(⟨hc0,hc1⟩:wb.drew.cell? ⟨gb,0,none⟩=some (.float .f64 (y.1:Nat))/\wb.drew.cell? ⟨gb,1,none⟩=some (.float .f64 (y.2:Nat)))
     refine Takes.intro [0,1,2,3,4,5,6,7,8] ?_
     repeat(refine Takes.step (v:=?_) (by kernel_rfl) rfl (fun _ _ _ h=>h) rfl hS0 (fun w hSw=>by(try dsimp only at hSw);go_simp;try with_reducible rfl) ?_;try simp only[List.getElem_toArray,List.getElem_cons_zero,List.getElem_cons_succ,Act.put,List.setIfInBounds_toArray,List.set_cons_zero,List.set_cons_succ])
     refine Takes.nil ?_
     refine wpAnyS_one (i:=9) (by kernel_rfl) rfl rfl (fun K hK=>?_)
     go_simp
     obtain⟨wc,hwc⟩:∃wc,wc=(wb.setCell ⟨g1,i,none⟩ (.float .f64 (y.1:Nat))).drew:=⟨_,rfl⟩
     have hst:=OwnL.stored HO1.out hlen.out.1 i y.1
     have hgr:wb.grownBy wc (some g1):=by rw[hwc];exact⟨rfl,rfl,rfl,hst.2.size,hst.2.block⟩
     have HQ1:Hid (OwnL wc wr.heap.size (.slice (some ⟨g1,0,none⟩) l k1) (P.set i y.1)):=Lib.hid (by rw[hwc];exact hst.1)
     have HQ2:Hid (OwnL wc wr.heap.size (.slice (some ⟨g2,0,none⟩) l k2) Q):=Lib.hid (by have h:=OwnL.kept (v2:=.slice (some ⟨g1,0,none⟩) l k1) HO2.out hst.2 HAP.out;rw[hwc];exact h)
     have HBC:Hid (Below wr.heap.size wr wc):=Lib.hid (by rw[hwc];exact(HBB.out.setCell (p:=⟨_,_,_⟩) HGE.out.1 _).drew)
     have hS1:wc.cell? ⟨gb,0,none⟩=some (.float .f64 (y.1:Nat))/\wc.cell? ⟨gb,1,none⟩=some (.float .f64 (y.2:Nat)):=⟨grown_cell hgr hS0.1 (fun e=>HNE.out.1 (Option.some.inj e).symm),grown_cell hgr hS0.2 (fun e=>HNE.out.1 (Option.some.inj e).symm)⟩
     rw[<-hwc]
     refine hK.out _ _ (fun _=>hS1) ?_
     clear hK K hwc hst hgr hS0 hf1 hp1 HO1 HO2 HBB hc0 hc1
     try simp only[List.getElem_toArray,List.getElem_cons_zero,List.getElem_cons_succ,Act.put,List.setIfInBounds_toArray,List.set_cons_zero,List.set_cons_succ]
     refine wpAnyS_end 2 10 (by kernel_rfl) (by decide) rfl ?_
     simp only[List.toList_toArray,List.drop_succ_cons,List.drop_zero]
     obtain⟨p2,hp2⟩:=HQ2.out.cell hlen.out.2 hlt
     have hf2:=HQ2.out.free hlen.out.2 i
     have hst2:=OwnL.stored HQ2.out hlen.out.2 i y.2
     have HR2:=Lib.hid hst2.1
     have HR1:=Lib.hid (OwnL.kept (v2:=.slice (some ⟨g2,0,none⟩) l k2) HQ1.out hst2.2 HAP.out.symm)
     have HBD:Hid (Below wr.heap.size wr (wc.setCell ⟨g2,i,none⟩ (.float .f64 (y.2:Nat)))):=Lib.hid (HBC.out.setCell (p:=⟨_,_,_⟩) HGE.out.2 _)
     clear hst2 hS1 HQ1 HQ2 HBC HAP HNE hlen
     go_wp2
     exact⟨⟨i+1,_,_,by omega,by go_num,HLN,HR1,HR2,HPR,HBD⟩,by simp[intOf];omega⟩
    ·obtain rfl:i=l:=by omega
     obtain⟨X1,k1,e1,f1,-⟩:=OwnL.fs hu.out
     obtain⟨X2,k2,e2,f2,-⟩:=OwnL.fs hv.out
     rw[hlen.out.1] at e1 f1
     rw[hlen.out.2] at e2 f2
     subst e1 e2
     have HF1:Hid (FsAt wx X1 i (fun i=>(x i).1)):=Lib.hid (f1.congr fun j hj=>hpre.out.1 j hj)
     have HF2:Hid (FsAt wx X2 i (fun i=>(x i).2)):=Lib.hid (f2.congr fun j hj=>hpre.out.2 j hj)
     have HPLX:=Lib.hid (And.intro (HPL.out.1.below hb.out) (HPL.out.2.below hb.out))
     have HM:=Lib.hid (fun w h1 h2 h3=>RMay20_any k n r q (by have:=HQ.out;omega) B' c' X1 X2 i k1 k2 x s w h1 h2 h3 (by have:=HL.out;omega))
     have HEX:=Lib.hid (fun w h1 h2=>execG k n r q HQ.out B c A9 i c9 x s w h1 h2 (by have:=HL.out;omega))
     have HIN:=Lib.hid (fun w h1 h2=>inverseG k n r q HQ.out B c A9 i c9 x s w h1 h2 (by have:=HL.out;omega))
     obtain⟨e,he⟩:∃e,e=mayE (checkE k n r q n) n i s (guardE x i):=⟨_,rfl⟩
     rw[<-he] at HM HEX HIN
     have HE:=Lib.hid he
     have HBX:=Lib.hid hb.out
     clear f1 f2 hpre hu hv hlen HAP H4 hL he hb h9c hm100 hi hlt b0 b1 HPL
     obtain⟨x0,x1,x2,x3⟩:=HPLX.out.1
     go_wp2_with fail
     refine(HM.out wx HPLX.out.2 HF1.out HF2.out).mono ?_
     rintro z w5 ⟨rfl,hb5⟩
     have HB5:=Lib.hid (HBX.out.trans (hb5.mono HBX.out.size))
     have HP5:=Lib.hid (And.intro (HPP.out.1.below HB5.out) (HPP.out.2.below HB5.out))
     have HX5:=Lib.hid (HX.out.keep HB5.out)
     clear x0 x1 x2 x3 hb5 HM HPLX HF1 HF2 HBX HPP HX
     obtain⟨x0,x1,x2,x3⟩:=HP5.out.1
     by_cases h0:e=0
     ·subst h0
      obtain⟨-,h2,-,-⟩:=mayE_zero HE.out.symm
      subst h2
      have hgt:¬(i:Int)>100:=by have:=HL.out;omega
      clear HE
      go_wp2_with fail
      refine(HEX.out w5 HP5.out.2 HX5.out).mono ?_
      rintro z w6 ⟨hz,hb6⟩
      rcases hz with⟨hne,-⟩|⟨gy,M,-,hM,n1,-,rfl,-,hfy⟩
      ·exact absurd rfl hne
      obtain rfl:M=i:=by omega
      have HB6:=Lib.hid (HB5.out.trans (hb6.mono HB5.out.size))
      have HFY:=Lib.hid hfy
      have HX6:=Lib.hid (HX5.out.keep hb6)
      have HP6:=Lib.hid (And.intro (HP5.out.1.below hb6) (HP5.out.2.below hb6))
      clear x0 x1 x2 x3 hb6 hfy HB5 HX5 HP5 HEX hM n1
      obtain⟨x0,x1,x2,x3⟩:=HP6.out.1
      go_wp2_with fail
      refine(HIN.out w6 HP6.out.2 HX6.out).mono ?_
      rintro z w7 ⟨hz,hb7⟩
      rcases hz with⟨hne,-⟩|⟨gz,N,-,hN,n1,-,rfl,-,hfz⟩
      ·exact absurd rfl hne
      obtain rfl:N=M:=by omega
      have HB7:=Lib.hid (HB6.out.trans (hb7.mono HB6.out.size))
      have HFY7:=Lib.hid (HFY.out.keep hb7)
      have HFZ:=Lib.hid hfz
      have HP7:=Lib.hid (HP6.out.1.below hb7)
      clear x0 x1 x2 x3 hb7 hfz HB6 HX6 HP6 HIN hN n1 HFY
      go_wp2_with fail
      refine(HWK.out _).mono ?_
      rintro z w8 ⟨rfl,hb8⟩
      have HB8:=Lib.hid (HB7.out.trans (hb8.mono HB7.out.size))
      have HFY8:=Lib.hid (HFY7.out.keep hb8)
      have HFZ8:=Lib.hid (HFZ.out.keep hb8)
      have HP8:=Lib.hid (HP7.out.below hb8)
      clear hb8 HB7 HFY7 HFZ HP7 HWK
      go_wp2_with fail
      go_loopw [21,126] (fun _ vi wt=>∃j:Nat,j<=N/\vi=.int .i64 j/\Hid (Below w8.heap.size w8 wt)) (fun _ vi _=>N-(intOf vi).toNat)
      case atStart=>exact⟨0,by omega,rfl,Lib.hid (Below.refl _ _)⟩
      case round=>
       rename World=>wt
       obtain⟨j,hj,rfl,hb⟩:=hrel
       by_cases hlt:j<N
       ·have hji:(j:Int)<N:=by omega
        have hj9:j+1<=1000:=by have:=HL.out;omega
        obtain⟨y,y0,y1,fy1,fy2⟩:=(HFY8.out.keep hb.out) j hlt
        obtain⟨v,z0,z1,fv1,fv2⟩:=(HFZ8.out.keep hb.out) j hlt
        have ey1:finB y.1=true:=by unfold finB;rw[decide_eq_false fy1];rfl
        have ey2:finB y.2=true:=by unfold finB;rw[decide_eq_false fy2];rfl
        have ev1:finB v.1=true:=by unfold finB;rw[decide_eq_false fv1];rfl
        have ev2:finB v.2=true:=by unfold finB;rw[decide_eq_false fv2];rfl
        have HBT:=hb
        clear fy1 fy2 fv1 fv2 hb hgt
        go_wp2_with fail
        refine(RFin_any _ y.1.isLt _).mono ?_
        rintro z wq ⟨rfl,rfl⟩
        rw[ey1]
        go_wp2_with fail
        refine(RFin_any _ y.2.isLt _).mono ?_
        rintro z wq ⟨rfl,rfl⟩
        rw[ey2]
        go_wp2_with fail
        refine(RFin_any _ v.1.isLt _).mono ?_
        rintro z wq ⟨rfl,rfl⟩
        rw[ev1]
        go_wp2_with fail
        refine(RFin_any _ v.2.isLt _).mono ?_
        rintro z wq ⟨rfl,rfl⟩
        rw[ev2]
        go_wp2
        exact⟨⟨j+1,by omega,by go_num,HBT⟩,by simp[intOf];omega⟩
       ·obtain rfl:j=N:=by omega
        have HBF:=Lib.hid (HBW.out.trans ((HB8.out.trans (hb.out.mono HB8.out.size)).mono HBW.out.size))
        obtain⟨x0,x1,x2,x3⟩:=HP8.out.below hb.out
        go_wp2
        go_ret
        exact⟨rfl,HBF.out⟩
     ·have h1:(e==0)=false:=by simpa using h0
      have h2:(e != 0)=true:=by simpa using h0
      clear HE
      go_wp2_with fail
      refine(HEX.out w5 HP5.out.2 HX5.out).mono ?_
      rintro z w6 ⟨hz,hb6⟩
      rcases hz with⟨-,rfl⟩|⟨gy,M,hM,-⟩
      rotate_left
      ·exact absurd hM h0
      have HB6:=Lib.hid (HB5.out.trans (hb6.mono HB5.out.size))
      have HX6:=Lib.hid (HX5.out.keep hb6)
      have HP6:=Lib.hid (And.intro (HP5.out.1.below hb6) (HP5.out.2.below hb6))
      clear x0 x1 x2 x3 hb6 HB5 HX5 HP5 HEX
      obtain⟨x0,x1,x2,x3⟩:=HP6.out.1
      go_wp2_with fail
      refine(HIN.out w6 HP6.out.2 HX6.out).mono ?_
      rintro z w7 ⟨hz,hb7⟩
      rcases hz with⟨-,rfl⟩|⟨gy,M,hM,-⟩
      rotate_left
      ·exact absurd hM h0
      have HB7:=Lib.hid (HB6.out.trans (hb7.mono HB6.out.size))
      clear x0 x1 x2 x3 hb7 HB6 HX6 HP6 HIN
      go_wp2_with fail
      refine(HWK.out _).mono ?_
      rintro z w8 ⟨rfl,hb8⟩
      have HBF:=Lib.hid (HBW.out.trans ((HB7.out.trans (hb8.mono HB7.out.size)).mono HBW.out.size))
      clear hb8 HB7 HWK
      go_wp2
      go_loopw [21,126] (fun _ vi wt=>vi=.int .i64 0/\w8=wt) (fun _ _ _=>0)
      case atStart=>exact⟨rfl,rfl⟩
      case round=>
       obtain⟨rfl,rfl⟩:=hrel
       go_wp2
       go_ret
       exact⟨rfl,HBF.out⟩
end Go.Proofs.YtmgfaeineklccaaGreat
