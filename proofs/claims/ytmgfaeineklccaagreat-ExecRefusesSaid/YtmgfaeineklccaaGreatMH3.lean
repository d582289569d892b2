/- The document's Finite of every float, Scale by 0 of every float. -/
import Derived.Test.YtmgfaeineklccaaGreatMQ4
import Derived.Test.YtmgfaeineklccaaGreatMI3
import Derived.Test.YtmgfaeineklccaaGreatMA5
import Derived.Test.YtmgfaeineklccaaGreatMH1
import Derived.Test.YtmgfaeineklccaaGreatMC4
import Derived.Test.YtmgfaeineklccaaGreatMY3
import Derived.Laws.Closers25b
import Derived.Laws.OwnMore
set_option maxRecDepth 100000
set_option maxHeartbeats 2000000
set_option linter.unusedSimpArgs false
set_option linter.unusedVariables false
namespace Go.Proofs.YtmgfaeineklccaaGreat
open Go.RowKit Go.Lib
theorem or_lt (a b:Int):(bits .or .u64 a b).toNat<18446744073709551616:=by
 have h1:=bits_hi_u64 .or a b
 have h2:=bits_lo_u64 .or a b
 omega
def finB (x:Nat):Bool:=!decide (x%9223372036854775808/4503599627370496=2047)
theorem RFin_any (x:Nat) (hx:x<18446744073709551616) (w:World):Calls Tryz.prog 26 #[.float .f64 x] w fun z w'=>z=.returned (.bool (finB x))/\w=w':=by
 have hbits:=run_bitsF
 obtain⟨e,he⟩:∃e:Int,IntKind.u64.wrap ((x:Int)*2)/9007199254740992=e:=⟨_,rfl⟩
 have HB:Hid ((e != 2047)=finB x):=Lib.hid (by
  unfold finB
  rw[IntKind.wrap_u64] at he
  have:(e=2047)=(x%9223372036854775808/4503599627370496=2047):=propext (by omega)
  by_cases h:x%9223372036854775808/4503599627370496=2047
  ·rw[decide_eq_true h,this.symm.mp h];rfl
  ·rw[decide_eq_false h]
   have h2:e≠2047:=fun k=>h (this.mp k)
   simpa using h2)
 go_enter Tryz.func26,Tryz.ntmps26
 go_wp2
 go_ret
 exact⟨congrArg (fun b=>Ending.returned (Value.bool b)) HB.out,rfl⟩
theorem Parts_rng (x:Nat) (hx:x<18446744073709551616) (hf:finB x=true) (h0:x%9223372036854775808≠0) (w:World):Calls Tryz.prog 120 #[.float .f64 x] w fun z w'=>(∃M E:Int,M≠0/\-9007199254740992<M/\M<9007199254740992/\-1074<=E/\E<=971/\z=.returned (.tuple #[.int .i64 M,.int .i64 E]))/\w=w':=by
 have hbits:=run_bitsF
 obtain⟨e0,he0⟩:∃e:Int,IntKind.u64.wrap ((x:Int)*2)/9007199254740992=e:=⟨_,rfl⟩
 obtain⟨m0,hm0⟩:∃q:Int,IntKind.u64.wrap ((x:Int)*4096)/4096=q:=⟨_,rfl⟩
 have hf2:x%9223372036854775808/4503599627370496≠2047:=by unfold finB at hf;simpa using hf
 have h1:0<=e0/\e0<=2046:=by rw[IntKind.wrap_u64] at he0;omega
 have h2:0<=m0/\m0<4503599627370496:=by rw[IntKind.wrap_u64] at hm0;omega
 have h3:e0=0->0<m0:=by rw[IntKind.wrap_u64] at he0 hm0;omega
 obtain⟨e,he⟩:∃e,wrap64 e0=e:=⟨_,rfl⟩
 have he1:e=e0:=by rw[<-he];unfold wrap64;omega
 obtain⟨m,hm⟩:∃m,wrap64 m0=m:=⟨_,rfl⟩
 have hm1:m=m0:=by rw[<-hm];unfold wrap64;omega
 have hs:∃s:Int,(x:Int)/9223372036854775808=s:=⟨_,rfl⟩
 obtain⟨s,hs⟩:=hs
 rw[<-he1] at h1 h3
 rw[<-hm1] at h2 h3
 have H1:=Lib.hid (And.intro h1 (And.intro h2 h3))
 clear he1 hm1 hf hf2 h0
 go_enter Tryz.func120,Tryz.ntmps120
 go_wp2
 all_goals go_ret2
 all_goals
  refine⟨⟨_,_,?_,?_,?_,?_,?_,rfl⟩,rfl⟩
  all_goals have:=H1.out
  all_goals omega
theorem RScale0_any (x:Nat) (hx:x<18446744073709551616) (w:World):Calls Tryz.prog 70 #[.float .f64 x,.int .i64 0] w fun z w'=>(∃y:Nat,y<18446744073709551616/\z=.returned (.float .f64 y))/\w=w':=by
 have hbits:=run_bitsF
 have hfrom:=run_fromF
 have C1:=Lib.hid (fun w=>RFin_any x hx w)
 have C2:=Lib.hid (fun h0 h1 w=>Parts_rng x hx h0 h1 w)
 have HZ:Hid ((FloatKind.f64.format.order x 0==some Ordering.eq)=false->x%9223372036854775808≠0):=Lib.hid (fun h e=>by
  have:x=0\/x=9223372036854775808:=by omega
  rcases this with rfl|rfl<;>exact absurd h (by decide))
 obtain⟨c0,hc0⟩:∃c,(FloatKind.f64.format.order x 0==some Ordering.eq)=c:=⟨_,rfl⟩
 rw[hc0] at HZ
 go_enter Tryz.func70,Tryz.ntmps70
 go_wp2_with fail
 refine(C1.out _).mono ?_
 rintro z w' ⟨rfl,rfl⟩
 cases hf:finB x
 ·go_wp2
  go_ret
  exact⟨⟨x,hx,rfl⟩,rfl⟩
 cases c0
 case true=>
  go_wp2
  go_ret
  exact⟨⟨x,hx,rfl⟩,rfl⟩
 obtain⟨s,hs⟩:∃s:Int,IntKind.u64.wrap ((x:Int)/9223372036854775808*9223372036854775808)=s:=⟨_,rfl⟩
 go_wp2_with fail
 refine(C2.out hf (HZ.out (by trivial)) _).mono ?_
 rintro z w' ⟨⟨M,E,h1,h2,h3,h4,h5,rfl⟩,rfl⟩
 have HM:=Lib.hid (And.intro h1 (And.intro h2 (And.intro h3 (And.intro h4 h5))))
 clear h1 h4 h5 hf C1 C2 HZ
 go_wp2
 all_goals clear h2 h3
 all_goals
  go_loopw [8,9] (fun mv ev wr=>∃m e:Int,mv=.int .i64 m/\ev=.int .i64 e/\Hid (1<=m/\m<9007199254740992/\e<=971/\-1074<=e+m)/\w=wr) (fun mv _ _=>(9007199254740992-intOf mv).toNat)
 case atStart=>exact⟨_,_,rfl,rfl,Lib.hid (by have:=HM.out;omega),rfl⟩
 case atStart=>exact⟨_,_,rfl,rfl,Lib.hid (by have:=HM.out;omega),rfl⟩
 all_goals
  obtain⟨m,e,rfl,rfl,HI,rfl⟩:=hrel
  by_cases hlt:m<4503599627370496
  ·have h1:=HI.out.1
   have h2:-9223372036854770000<=e-1/\e-1<=971:=by have:=HI.out;omega
   have HN:Hid (1<=m*2/\m*2<9007199254740992/\e-1<=971/\-1074<=e-1+m*2):=Lib.hid (by have:=HI.out;omega)
   go_wp2
   exact⟨⟨_,_,rfl,rfl,HN,trivial⟩,by simp only[intOf];omega⟩
  ·obtain⟨h1,h2,h3,h4⟩:=HI.out
   have h5:-9223372036854770000<=e:=by omega
   go_wp2
   all_goals go_ret
   all_goals exact⟨⟨_,or_lt _ _,rfl⟩,rfl⟩
end Go.Proofs.YtmgfaeineklccaaGreat
set_option maxRecDepth 100000
set_option maxHeartbeats 4000000
set_option linter.unusedSimpArgs false
set_option linter.unusedVariables false
namespace Go.Proofs.YtmgfaeineklccaaGreat
open Go.RowKit Go.Lib
theorem scaled0_any (X:Option Addr) (n c:Nat) (x:Nat->Cx) (w:World) (hX:CsAt w X n x) (hn:n<=1000):
  Calls Tryz.prog 22 #[.slice X n c,.int .i64 0] w fun z w'=>∃(u v:Value) (L M:List Wd),z=.returned (.tuple #[u,v])/\L.length=n/\M.length=n/\OwnL w' w.heap.size u L/\OwnL w' w.heap.size v M/\Apart u v/\Below w.heap.size w w':=by
 have HX:=Lib.hid hX
 have HN:=Lib.hid hn
 clear hX hn
 go_enter Tryz.func22,Tryz.ntmps22
 go_wp2
 go_loopw [6,7,12] (fun u v vi wr=>∃(k:Nat) (L M:List Wd),k<=n/\vi=.int .i64 k/\Hid (L.length=k)/\Hid (M.length=k)/\Hid (OwnL wr w.heap.size u L)/\Hid (OwnL wr w.heap.size v M)/\Hid (Apart u v)/\Hid (Below w.heap.size w wr)) (fun _ _ vi _=>n-(intOf vi).toNat)
 case atStart=>exact⟨0,[],[],by omega,rfl,Lib.hid rfl,Lib.hid rfl,Lib.hid (OwnL.nil _ _),Lib.hid (OwnL.nil _ _),Lib.hid (fun g e=>(by cases e)),Lib.hid (Below.refl _ _)⟩
 case round=>
  obtain⟨k,L,M,hk,rfl,hL,hM,hu,hv,hap,hb⟩:=hrel
  by_cases hlt:k<n
  ·have hki:(k:Int)<n:=by omega
   have hk9:k+1<=1000:=by have:=HN.out;omega
   obtain⟨b,o,y,rfl,c0,c1,-⟩:=(HX.out.keep hb.out) k hlt
   generalize hv5:u6=u at*
   generalize hv6:u7=v at*
   clear hv5 hv6
   obtain⟨wb,hwb⟩:∃wb,wb=wr.alloc (.cells #[.float .f64 (y.1:Nat),.float .f64 (y.2:Nat)] 52):=⟨_,rfl⟩
   obtain⟨gb,hgb⟩:∃gb,gb=wr.heap.size:=⟨_,rfl⟩
   have hc0:wb.cell? ⟨gb,0,none⟩=some (.float .f64 (y.1:Nat)):=by rw[hwb,hgb,World.cell?_alloc_new];rfl
   have hc1:wb.cell? ⟨gb,1,none⟩=some (.float .f64 (y.2:Nat)):=by rw[hwb,hgb,World.cell?_alloc_new];rfl
   have hbb:Below wr.heap.size wr wb:=by rw[hwb];exact(Below.refl _ wr).alloc (Nat.le_refl _) _
   have HB2:Hid (Below w.heap.size w wb):=Lib.hid (hb.out.trans (hbb.mono hb.out.size))
   have HU2:=Lib.hid (hu.out.below hbb)
   have HV2:=Lib.hid (hv.out.below hbb)
   have HNU:Hid (∀g,u.ownBlock=some g->g<gb):=Lib.hid (fun g e=>by rw[hgb];exact(hu.out.lt g e).2)
   have HNV:Hid (∀g,v.ownBlock=some g->g<gb):=Lib.hid (fun g e=>by rw[hgb];exact(hv.out.lt g e).2)
   have HGB:Hid (gb<wb.heap.size):=Lib.hid (by rw[hwb,hgb];simp)
   clear hbb hu hv hb
   go_upto_region 5 with fail
   rw[<-hwb,<-hgb]
   clear hwb hgb c0 c1
   refine wp_region_S (fun w'=>(w'.cell? ⟨gb,0,none⟩=some (.float .f64 (y.1:Nat))/\w'.cell? ⟨gb,1,none⟩=some (.float .f64 (y.2:Nat)))) 14 (by kernel_rfl) ?_
   have hS0:(wb.drew.cell? ⟨gb,0,none⟩=some (.float .f64 (y.1:Nat))/\wb.drew.cell? ⟨gb,1,none⟩=some (.float .f64 (y.2:Nat))):=⟨hc0,hc1⟩
   refine Takes.intro [0,1,2,3,7,8,9,10] ?_
   repeat(refine Takes.step (v:=?_) (by kernel_rfl) rfl (fun _ _ _ h=>h) rfl hS0 (fun w hSw=>by(try dsimp only at hSw);go_simp;try with_reducible rfl) ?_;try simp only[List.getElem_toArray,List.getElem_cons_zero,List.getElem_cons_succ,Act.put,List.setIfInBounds_toArray,List.set_cons_zero,List.set_cons_succ])
   refine Takes.nil ?_
   refine wpAnyS_one (i:=4) (by kernel_rfl) rfl rfl (fun K hK=>?_)
   go_simp
   refine(RScale0_any _ y.1.isLt _).mono ?_
   rintro z w2x ⟨⟨p0,hp,rfl⟩,rfl⟩
   obtain⟨p,rfl⟩:∃p:Wd,p0=(p:Nat):=⟨⟨p0,hp⟩,rfl⟩
   refine hK.out _ _ (fun _=>hS0) ?_
   clear hK K hp
   try simp only[List.getElem_toArray,List.getElem_cons_zero,List.getElem_cons_succ,Act.put,List.setIfInBounds_toArray,List.set_cons_zero,List.set_cons_succ]
   refine wpAnyS_one (i:=5) (by kernel_rfl) rfl rfl (fun K hK=>?_)
   have hbs:=bs_float p
   go_simp
   obtain⟨wc,hwc⟩:∃wc,wc=(wb.alloc (.cells #[.float .f64 (p:Nat)] 33)).drew:=⟨_,rfl⟩
   obtain⟨gc,hgc⟩:∃gc,gc=wb.heap.size:=⟨_,rfl⟩
   have hagc:wc.cell? ⟨gc,0,none⟩=some (.float .f64 (p:Nat)):=by rw[hwc,hgc];show(wb.alloc _).cell? _=_;rw[World.cell?_alloc_new];rfl
   have HBC:Hid (Below wb.heap.size wb wc):=Lib.hid (by rw[hwc];exact((Below.refl _ wb).alloc (Nat.le_refl _) _).drew)
   have hszwc:gc<wc.heap.size:=by rw[hwc,hgc];simp
   have hS0n:(wc.cell? ⟨gb,0,none⟩=some (.float .f64 (y.1:Nat))/\wc.cell? ⟨gb,1,none⟩=some (.float .f64 (y.2:Nat))):=⟨keep_cell HBC.out hS0.1,keep_cell HBC.out hS0.2⟩
   rw[<-hwc,<-hgc]
   refine hK.out _ _ (fun _=>hS0n) ?_
   clear hK K hwc hbs
   try simp only[List.getElem_toArray,List.getElem_cons_zero,List.getElem_cons_succ,Act.put,List.setIfInBounds_toArray,List.set_cons_zero,List.set_cons_succ]
   refine wpAnyS_one (i:=6) (by kernel_rfl) rfl rfl (fun K hK=>?_)
   refine wp_app1L _ _ rfl w.heap.size u L rfl (HU2.out.below HBC.out) gc _ p rfl hagc (by have:=hL.out;omega) (HB2.out.trans (HBC.out.mono HB2.out.size)).size ?_
   intro g1 k1 wd hr1 hg1 hs1
   have hne1:u.ownBlock≠some gb:=fun e=>Nat.lt_irrefl _ (HNU.out gb e)
   have hS2:(wd.cell? ⟨gb,0,none⟩=some (.float .f64 (y.1:Nat))/\wd.cell? ⟨gb,1,none⟩=some (.float .f64 (y.2:Nat))):=⟨grown_cell hg1.out hS0n.1 hne1,grown_cell hg1.out hS0n.2 hne1⟩
   have HBD:Hid (Below w.heap.size w wd):=Lib.hid ((HB2.out.trans (HBC.out.mono HB2.out.size)).grown hg1.out (HB2.out.trans (HBC.out.mono HB2.out.size)).size (fun g e=>(HU2.out.lt g e).1))
   have HVD:Hid (OwnL wd w.heap.size v M):=Lib.hid ((HV2.out.below HBC.out).kept hg1.out hap.out)
   have HAD:Hid (Apart (.slice (some ⟨g1,0,none⟩) (L.length+1) k1) v):=Lib.hid (hap.out.next (HV2.out.below HBC.out) hs1.out)
   refine hK.out _ _ (fun _=>hS2) ?_
   clear hK K hg1 hs1 hagc hszwc hne1 HU2 HV2 HBC HB2 hap hS0n hS0
   try simp only[List.getElem_toArray,List.getElem_cons_zero,List.getElem_cons_succ,Act.put,List.setIfInBounds_toArray,List.set_cons_zero,List.set_cons_succ]
   refine wpAnyS_one (i:=11) (by kernel_rfl) rfl rfl (fun K hK=>?_)
   go_simp
   refine(RScale0_any _ y.2.isLt _).mono ?_
   rintro z w3x ⟨⟨q0,hq,rfl⟩,rfl⟩
   obtain⟨q,rfl⟩:∃q:Wd,q0=(q:Nat):=⟨⟨q0,hq⟩,rfl⟩
   refine hK.out _ _ (fun _=>hS2) ?_
   clear hK K hq
   try simp only[List.getElem_toArray,List.getElem_cons_zero,List.getElem_cons_succ,Act.put,List.setIfInBounds_toArray,List.set_cons_zero,List.set_cons_succ]
   refine wpAnyS_one (i:=12) (by kernel_rfl) rfl rfl (fun K hK=>?_)
   have hbs:=bs_float q
   go_simp
   obtain⟨we,hwe⟩:∃we,we=(wd.alloc (.cells #[.float .f64 (q:Nat)] 33)):=⟨_,rfl⟩
   obtain⟨ge,hge⟩:∃ge,ge=wd.heap.size:=⟨_,rfl⟩
   have hage:we.cell? ⟨ge,0,none⟩=some (.float .f64 (q:Nat)):=by rw[hwe,hge];show(wd.alloc _).cell? _=_;rw[World.cell?_alloc_new];rfl
   have HBE:Hid (Below wd.heap.size wd we):=Lib.hid (by rw[hwe];exact(Below.refl _ wd).alloc (Nat.le_refl _) _)
   have hszwe:ge<we.heap.size:=by rw[hwe,hge];simp
   have hS2n:(we.cell? ⟨gb,0,none⟩=some (.float .f64 (y.1:Nat))/\we.cell? ⟨gb,1,none⟩=some (.float .f64 (y.2:Nat))):=⟨keep_cell HBE.out hS2.1,keep_cell HBE.out hS2.2⟩
   rw[<-hwe,<-hge]
   refine hK.out _ _ (fun _=>hS2n) ?_
   clear hK K hwe hbs
   try simp only[List.getElem_toArray,List.getElem_cons_zero,List.getElem_cons_succ,Act.put,List.setIfInBounds_toArray,List.set_cons_zero,List.set_cons_succ]
   refine wpAnyS_one (i:=13) (by kernel_rfl) rfl rfl (fun K hK=>?_)
   refine wp_app1L _ _ rfl w.heap.size v M rfl (HVD.out.below HBE.out) ge _ q rfl hage (by have:=hM.out;omega) (HBD.out.trans (HBE.out.mono HBD.out.size)).size ?_
   intro g2 k2 wf hr2 hg2 hs2
   have hne2:v.ownBlock≠some gb:=fun e=>Nat.lt_irrefl _ (HNV.out gb e)
   have hS3:(wf.cell? ⟨gb,0,none⟩=some (.float .f64 (y.1:Nat))/\wf.cell? ⟨gb,1,none⟩=some (.float .f64 (y.2:Nat))):=⟨grown_cell hg2.out hS2n.1 hne2,grown_cell hg2.out hS2n.2 hne2⟩
   have HBF:Hid (Below w.heap.size w wf):=Lib.hid ((HBD.out.trans (HBE.out.mono HBD.out.size)).grown hg2.out (HBD.out.trans (HBE.out.mono HBD.out.size)).size (fun g e=>(HVD.out.lt g e).1))
   have HRU:Hid (OwnL wf w.heap.size (.slice (some ⟨g1,0,none⟩) (L.length+1) k1) (L++[p])):=Lib.hid ((OwnL.below hr1.out HBE.out).kept hg2.out HAD.out.symm)
   have HAF:Hid (Apart (.slice (some ⟨g1,0,none⟩) (L.length+1) k1) (.slice (some ⟨g2,0,none⟩) (M.length+1) k2)):=Lib.hid ((HAD.out.symm.next (OwnL.below hr1.out HBE.out) hs2.out).symm)
   refine hK.out _ _ (fun _=>hS3) ?_
   clear hK K hg2 hs2 hage hszwe hne2 HVD HBE HBD HAD hS2n hS2 hr1 hS3
   try simp only[List.getElem_toArray,List.getElem_cons_zero,List.getElem_cons_succ,Act.put,List.setIfInBounds_toArray,List.set_cons_zero,List.set_cons_succ]
   refine wpAnyS_end 2 14 (by kernel_rfl) (by decide) rfl ?_
   simp only[List.toList_toArray,List.drop_succ_cons,List.drop_zero]
   have HL2:Hid ((L++[p]).length=k+1):=Lib.hid (by rw[List.length_append,hL.out];rfl)
   have HM2:Hid ((M++[q]).length=k+1):=Lib.hid (by rw[List.length_append,hM.out];rfl)
   obtain⟨V1,hV1⟩:∃V,V=Value.slice (some ⟨g1,0,none⟩) (L.length+1) k1:=⟨_,rfl⟩
   obtain⟨V2,hV2⟩:∃V,V=Value.slice (some ⟨g2,0,none⟩) (M.length+1) k2:=⟨_,rfl⟩
   rw[<-hV1] at HRU HAF
   rw[<-hV2] at hr2 HAF
   rw[<-hV1,<-hV2]
   clear hV1 hV2 hgc hge hc0 hc1 HNU HNV HGB hL hM HX
   go_wp2
   exact⟨⟨k+1,_,_,by omega,by go_num,HL2,HM2,HRU,hr2,HAF,HBF⟩,by simp[intOf];omega⟩
  ·obtain rfl:k=n:=by omega
   go_wp2
   go_ret2
   exact⟨_,_,L,M,rfl,hL.out,hM.out,hu.out,hv.out,hap.out,hb.out⟩
end Go.Proofs.YtmgfaeineklccaaGreat
set_option linter.unusedSimpArgs false
set_option linter.unusedVariables false
namespace Go.Proofs.YtmgfaeineklccaaGreat
open Go.RowKit Go.Lib Fl
theorem nz_lt18 {x:Nat} (h:x<18446744073709551616):nz x<18446744073709551616:=by
 unfold nz
 split
 ·decide
 ·exact h
open CG in
theorem fitsC_fin (u:Rx) (h:fitsC W900 (nC u)=true):FinC (nC u)/\nsq (vC (nC u))<=RR.of (om*om/56539106072908298546665520023773392506479484700019806659891398441363832832):=by
 unfold fitsC nC at h
 simp only[Bool.and_eq_true] at h
 obtain⟨c1,c2⟩:=fits_val h.1 (nz_lt18 u.1.isLt)
 obtain⟨d1,d2⟩:=fits_val h.2 (nz_lt18 u.2.isLt)
 refine⟨⟨c1,d1⟩,?_⟩
 rw[nsq_vC]
 refine RR.of_le.2 ?_
 unfold nC nq
 grind
open CG in
theorem guard_fin {x:Nat->Cx} {N:Nat} {w:World} {A:Option Addr} (hX:CsAt w A N x) (hg:guardE x N=0):∀i,i<N->FinC (x i)/\nsq (vC (x i))<=RR.of (om*om/56539106072908298546665520023773392506479484700019806659891398441363832832):=fun i hi=>by
 obtain⟨b,o,u,-,-,-,hu⟩:=hX i hi
 have:=guardE_zero.1 hg i hi
 rw[<-hu] at this|-
 exact fitsC_fin u this
open CG in
theorem inv_fin {N:Nat} {y:Nat->Cx} (n1:1<=N) (n2:N<=65536) (hf:∀i,i<N->FinC (y i)) (hn:nS N (fun i=>vC (y i))<=oM):∀i,i<N->FinC (overF ringR y N i):=fun i hi=>
 (c_over (hf i hi) n1 n2 (by have:=nS_term (f:=fun i=>vC (y i)) hi;grind)).1
end Go.Proofs.YtmgfaeineklccaaGreat
set_option maxRecDepth 100000
set_option linter.unusedSimpArgs false
set_option linter.unusedVariables false
namespace Go.Proofs.YtmgfaeineklccaaGreat
open Go.RowKit Go.Lib Fl
theorem RPower900 (w:World):Calls Tryz.prog 126 #[.int .i64 900] w fun z w'=>z=.returned (.float .f64 W900)/\w=w':=by
 have hfrom:=run_fromF
 go_enter Tryz.func126,Tryz.ntmps126
 go_wp2
 go_ret
 exact⟨rfl,rfl⟩
def leB (x:Nat):Bool:=FloatKind.f64.format.order x W900==some Ordering.lt||FloatKind.f64.format.order x W900==some Ordering.eq
theorem fnt_W900:Fnt W900:=⟨by decide,by decide⟩
theorem leB_iv {x:Nat} (hx:Fnt x):leB x=decide (iv x<=iv W900):=by
 have h:FloatKind.f64.format.order x W900=some (compare (iv x) (iv W900)):=order_spec hx fnt_W900
 unfold leB
 rw[h]
 generalize iv x=a
 generalize iv W900=b
 rcases Int.lt_trichotomy a b with h1|h1|h1
 ·rw[Int.compare_eq_lt.2 h1,decide_eq_true (Int.le_of_lt h1)];rfl
 ·rw[Int.compare_eq_eq.2 h1,decide_eq_true (by omega)];rfl
 ·rw[Int.compare_eq_gt.2 h1,decide_eq_false (by omega)];rfl
theorem iv_nn19 {r:Nat} (h:r<9218868437227405312):0<=iv r:=by
 rw[iv_low h rfl rfl]
 exact Int.mul_nonneg (by omega) (Int.le_of_lt (Int.pow_pos (by decide)))
theorem may_word {x:Nat} (hx:x<18446744073709551616):(finB x&&(leB x&&leB (T.fneg x)))=fitsB W900 x:=by
 cases hf:finB x
 ·cases hg:fitsB W900 x
  ·rfl
  ·have:=(CG.fits_val hg (by omega)).1.2
   unfold finB at hf
   simp at hf
   omega
 have hF:Fnt x:=by
  unfold finB at hf
  simp at hf
  exact⟨by omega,by omega⟩
 have hF2:=hF.2
 obtain⟨n1,n2⟩:=T.fneg_spec hF
 have hw:0<=iv W900:=iv_nn19 (by decide)
 have he:fitsB W900 x=leB (x%9223372036854775808):=rfl
 rw[he,leB_iv hF,leB_iv n1,n2]
 by_cases hs:x<9223372036854775808
 ·rw[Nat.mod_eq_of_lt hs,leB_iv hF]
  have:=iv_nn19 (r:=x) (by omega)
  rw[show decide (-iv x<=iv W900)=true from decide_eq_true (by omega)]
  simp
 ·have e:x%9223372036854775808=T.fneg x:=by
    rw[T.fneg_eq,T.xor63 x (by omega),if_neg (by omega)]
    omega
  rw[e,leB_iv n1,n2]
  have h2:=iv_nn19 (r:=x-9223372036854775808) (by omega)
  have e2:x-9223372036854775808=T.fneg x:=by omega
  rw[e2,n2] at h2
  rw[show decide (iv x<=iv W900)=true from decide_eq_true (by omega)]
  simp
theorem RMay06_any (u:Wd) (w:World):Calls Tryz.prog 73 #[.float .f64 (u:Nat)] w fun z w'=>z=.returned (.bool (fitsB W900 u))/\w=w':=by
 have C1:=Lib.hid (fun w=>RFin_any u u.isLt w)
 have C2:=Lib.hid (fun w=>RPower900 w)
 go_enter Tryz.func73,Tryz.ntmps73
 go_wp2_with fail
 refine(C1.out _).mono ?_
 rintro z w' ⟨rfl,rfl⟩
 go_wp2_with fail
 refine(C2.out _).mono ?_
 rintro z w' ⟨rfl,rfl⟩
 have h:=may_word u.isLt
 go_wp2
 ·go_ret
  refine⟨congrArg (fun b=>Ending.returned (Value.bool b)) ?_,rfl⟩
  rw[<-h,‹finB u=true›]
  rfl
 ·rename_i h1 h2
  have h3:leB u=false:=by
   unfold leB
   simpa using h2
  go_ret
  refine⟨congrArg (fun b=>Ending.returned (Value.bool b)) ?_,rfl⟩
  rw[<-h,h3]
  simp
 ·rename_i h1
  go_ret
  refine⟨congrArg (fun b=>Ending.returned (Value.bool b)) ?_,rfl⟩
  rw[<-h]
  simp[h1]
end Go.Proofs.YtmgfaeineklccaaGreat
set_option maxRecDepth 100000
set_option maxHeartbeats 4000000
set_option linter.unusedSimpArgs false
set_option linter.unusedVariables false
namespace Go.Proofs.YtmgfaeineklccaaGreat
open Go.RowKit Go.Lib
theorem RMay20_any (kind n r:Int) (q:Fo) (hq:q.count<=1099511627776) (A:Option Addr) (c:Nat) (X Y:Option Addr) (l cx cy:Nat) (x:Nat->Cx) (s:Int) (w:World) (hk:Kids w A 0 q) (hX:FsAt w X l (fun i=>(x i).1)) (hY:FsAt w Y l (fun i=>(x i).2)) (hl:l<=1000):
  Calls Tryz.prog 23 #[plV kind n r A q.len c,.slice X l cx,.slice Y l cy,.int .i64 s] w fun z w'=>z=.returned (.int .i64 (mayE (checkE kind n r q n) n l s (guardE x l)))/\Below w.heap.size w w':=by
 have HC:=Lib.hid (fun w A c hk=>RCheck_any kind n r q n hq w A c hk)
 have HX:=Lib.hid (And.intro hX hY)
 have HL:=Lib.hid hl
 obtain⟨ge,hge⟩:∃ge,ge=guardE x l:=⟨_,rfl⟩
 obtain⟨e,hE⟩:∃e,e=checkE kind n r q n:=⟨_,rfl⟩
 rw[<-hge,<-hE]
 rw[<-hE] at HC
 have HGE:=Lib.hid hge
 obtain⟨er,her⟩:∃er,er=mayE e n l s ge:=⟨_,rfl⟩
 rw[<-her]
 have HE:=Lib.hid her
 obtain⟨W,hW⟩:∃W,W=w.alloc (.cells #[.int .i64 kind,.int .i64 n,.int .i64 r,.slice A q.len c] 30):=⟨_,rfl⟩
 have hb:Below w.heap.size w W:=by rw[hW];exact(Below.refl _ w).alloc (Nat.le_refl _) _
 obtain⟨p0,p1,p2,p3⟩:=PlBox.new w kind n r A q.len c 30
 rw[<-hW] at p0 p1 p2 p3
 have HB:=Lib.hid hb
 have HK:=Lib.hid (Kids.below hk hb)
 clear hX hY her hb hk hge hE hl
 go_enter Tryz.func23,Tryz.ntmps23
 go_upto_region 1 with(fail)
 rw[<-hW]
 clear hW
 go_wp2_with fail
 refine(HC.out W A c HK.out).mono ?_
 rintro z w1 ⟨⟨a,rfl⟩,hb1⟩
 have p1':=keep_cell hb1 p1
 have HB1:=Lib.hid (HB.out.trans (hb1.mono HB.out.size))
 clear hb1 p0 p1 p2 p3 HC HK HB
 by_cases he:e=0
 ·subst he
  by_cases h1:16384<n
  ·obtain rfl:er=3:=by rw[HE.out];unfold mayE;rw[if_neg (by omega),if_pos h1]
   clear HE
   go_wp2
   go_ret
   exact⟨rfl,HB1.out⟩
  ·by_cases h2:(l:Int)=n
   ·have h1':¬n>16384:=h1
    have h1'':n<=16384:=by omega
    by_cases h3:s=1\/s=-1
    ·obtain rfl:er=ge:=by rw[HE.out];unfold mayE;rw[if_neg (by omega),if_neg h1,if_neg (by omega),if_neg (by omega)]
     clear HE
     rcases h3 with rfl|rfl
     all_goals
      go_wp2_with fail
      go_loopw [11,12,13] (fun vi _ _ wr=>∃k:Nat,k<=l/\vi=.int .i64 k/\Hid (idxI (badC W900) x k=-1)/\Hid (w1=wr)) (fun vi _ _ _=>l-(intOf vi).toNat)
     case atStart=>exact⟨0,by omega,rfl,Lib.hid rfl,Lib.hid rfl⟩
     case atStart=>exact⟨0,by omega,rfl,Lib.hid rfl,Lib.hid rfl⟩
     all_goals
      obtain⟨k,hk,rfl,hi,hwr⟩:=hrel
      have hwr:=hwr.out
      subst hwr
      by_cases hlt:k<l
      ·have hki:(k:Int)<l:=by omega
       obtain⟨b,o,u,rfl,c0,hu⟩:=(HX.out.1.keep HB1.out) k hlt
       obtain⟨b',o',v,rfl,d0,hv⟩:=(HX.out.2.keep HB1.out) k hlt
       have hu:nz u=(x k).1:=hu
       have hv:nz v=(x k).2:=hv
       have HUV:Hid (badC W900 (x k)=(!(fitsB W900 u&&fitsB W900 v))):=Lib.hid (by unfold badC fitsC;rw[<-hu,<-hv,fits_nz,fits_nz])
       have hk9:k+1<=1000:=by have:=HL.out;omega
       clear hu hv
       go_wp2_with fail
       refine(RMay06_any u _).mono ?_
       rintro z w' ⟨rfl,rfl⟩
       go_wp2_with fail
       refine(RMay06_any v _).mono ?_
       rintro z w' ⟨rfl,rfl⟩
       cases h7:fitsB W900 u<;>cases h8:fitsB W900 v
       all_goals rw[h7,h8] at HUV
       case true.true=>
        have HI:Hid (idxI (badC W900) x (k+1)=-1):=Lib.hid (idxI_next hi.out HUV.out)
        go_wp2
        exact⟨⟨k+1,by omega,by go_num,HI,Lib.hid trivial⟩,by simp[intOf];omega⟩
       all_goals
        have HI:Hid (5=er):=Lib.hid (by rw[HGE.out];unfold guardE;rw[idxI_at hlt hi.out HUV.out,if_neg (by omega)])
        go_wp2
        go_ret
        exact⟨by rw[<-HI.out];rfl,HB1.out⟩
      ·obtain rfl:k=l:=by omega
       have HI:Hid (0=er):=Lib.hid (by rw[HGE.out];unfold guardE;rw[if_pos hi.out])
       go_wp2
       go_ret
       exact⟨by rw[<-HI.out];rfl,HB1.out⟩
    ·have h4:¬s=1:=fun e=>h3 (.inl e)
     have h5:¬s=-1:=fun e=>h3 (.inr e)
     obtain rfl:er=6:=by rw[HE.out];unfold mayE;rw[if_neg (by omega),if_neg h1,if_neg (by omega),if_pos ⟨h4,h5⟩]
     have h6:(s != 1)=true:=by simpa using h4
     have h7:(s !=-1)=true:=by simpa using h5
     clear HE h3
     go_wp2
     go_ret
     exact⟨rfl,HB1.out⟩
   ·obtain rfl:er=4:=by rw[HE.out];unfold mayE;rw[if_neg (by omega),if_neg h1,if_pos h2]
    clear HE
    go_wp2
    go_ret
    exact⟨rfl,HB1.out⟩
 ·obtain rfl:er=e:=by rw[HE.out];unfold mayE;rw[if_pos he]
  clear HE
  go_wp2
  go_ret
  exact⟨rfl,HB1.out⟩
theorem OwnL.form {w:World} {base:Nat} {v:Value} {L:List Wd} (h:OwnL w base v L) (hp:0<L.length):∃g cap,v=.slice (some ⟨g,0,none⟩) L.length cap/\base<=g/\g<w.heap.size/\L.length<=cap:=by
 rcases h.2 with⟨-,e⟩|⟨g,cap,cur,rfl,hb,hg,hc,-⟩
 ·omega
 ·exact⟨g,cap,rfl,hb,(Array.getElem?_eq_some_iff.1 hg).1,hc⟩
theorem OwnL.stored {w:World} {base g n cap:Nat} {L:List Wd} (h:OwnL w base (.slice (some ⟨g,0,none⟩) n cap) L) (hn:L.length=n) (j:Nat) (u:Wd):
  OwnL (w.setCell ⟨g,j,none⟩ (.float .f64 (u:Nat))) base (.slice (some ⟨g,0,none⟩) n cap) (L.set j u)/\w.grownBy (w.setCell ⟨g,j,none⟩ (.float .f64 (u:Nat))) (some g):=by
 subst hn
 obtain⟨h1,h2⟩:=World.ownsRow.stored h j (.float .f64 (u:Nat))
 refine⟨?_,h2⟩
 unfold OwnL fltV
 rw[List.length_set,List.map_set]
 exact h1
theorem OwnL.free {w:World} {base g n cap:Nat} {L:List Wd} (h:OwnL w base (.slice (some ⟨g,0,none⟩) n cap) L) (hn:L.length=n) (j:Nat):w.frozen? ⟨g,j,none⟩=false:=by
 subst hn
 exact World.ownsRow.frozenAt h j
theorem OwnL.cell {w:World} {base g n cap:Nat} {L:List Wd} (h:OwnL w base (.slice (some ⟨g,0,none⟩) n cap) L) (hn:L.length=n) {j:Nat} (hj:j<n):∃u:Wd,w.cell? ⟨g,j,none⟩=some (.float .f64 (u:Nat)):=by
 subst hn
 have:=World.ownsRow.cellAt h j (by omega)
 refine⟨L[j],?_⟩
 rw[this]
 unfold fltV
 simp[hj]
def Pre (L:List Wd) (k:Nat) (f:Nat->Nat):Prop:=∀i,i<k->nz (L.getD i 0)=f i
theorem Pre.set {L:List Wd} {k:Nat} {f:Nat->Nat} (h:Pre L k f) (hk:k<L.length) (u:Wd) (hu:nz u=f k):Pre (L.set k u) (k+1) f:=fun i hi=>by
 rw[List.getD_eq_getElem?_getD]
 by_cases e:i=k
 ·subst e
  rw[List.getElem?_set_self hk]
  exact hu
 ·rw[List.getElem?_set_ne (fun e2=>e e2.symm),<-List.getD_eq_getElem?_getD]
  exact h i (by omega)
def FinAt (w:World) (g n:Nat):Prop:=∀i,i<n->∃u:Rx,w.cell? ⟨g,i*2,none⟩=some (.float .f64 u.1)/\w.cell? ⟨g,i*2+1,none⟩=some (.float .f64 u.2)/\(u.1:Nat)%9223372036854775808/4503599627370496≠2047/\(u.2:Nat)%9223372036854775808/4503599627370496≠2047
theorem FinAt.keep {W w1:World} {g n:Nat} (hb:Below W.heap.size W w1) (h:FinAt W g n):FinAt w1 g n:=fun i hi=>by
 obtain⟨u,h1,h2,h3⟩:=h i hi
 exact⟨u,keep_cell hb h1,keep_cell hb h2,h3⟩
theorem fin_word {u:Nat} (h:Fl.Fnt (nz u)):u%9223372036854775808/4503599627370496≠2047:=by
 have e:nz u=u:=by
  unfold nz at h|-
  split at h
  ·exact absurd h (by decide)
  ·rename_i k;rw[if_neg k]
 rw[e] at h
 have:=h.2
 omega
theorem RowC.fin {w:World} {g n:Nat} {f:Nat->Cx} (h:RowC w g n f) (hf:∀i,i<n->CG.FinC (f i)):FinAt w g n:=fun i hi=>by
 obtain⟨u,h1,h2,-,-,h5⟩:=h i hi
 have:=hf i hi
 rw[<-h5] at this
 exact⟨u,h1,h2,fin_word this.1,fin_word this.2⟩
def GivesF (w:World) (n:Int) (e:Int) (z:Ending) (w':World):Prop:=(e≠0/\z=.returned (.tuple #[.slice none 0 0,.int .i64 e]))\/∃(g N:Nat),e=0/\n=N/\1<=N/\N<=300/\z=.returned (.tuple #[.slice (some ⟨g,0,none⟩) N N,.int .i64 0])/\w.heap.size<=g/\FinAt w' g N
theorem mayE_zero {e n:Int} {l:Nat} {s g:Int} (h:mayE e n l s g=0):e=0/\(l:Int)=n/\(s=1\/s=-1)/\g=0:=by
 unfold mayE at h
 split at h
 ·omega
 split at h
 ·cases h
 split at h
 ·cases h
 split at h
 ·cases h
 ·exact⟨by omega,by omega,by omega,h⟩
theorem check_pos {k n r:Int} {q:Fo} (h:checkE k n r q n=0):1<=n:=by
 unfold checkE at h
 by_cases h1:n<1\/32768<n
 ·rw[if_pos h1] at h;cases h
 ·omega
theorem execG (k n r:Int) (q:Fo) (hq:q.count<=549755813888) (A:Option Addr) (c:Nat) (X:Option Addr) (l cx:Nat) (x:Nat->Cx) (s:Int) (w:World) (hk:Kids w A 0 q) (hX:CsAt w X l x) (hl:l<=300):
  Calls Tryz.prog 24 #[plV k n r A q.len c,.slice X l cx,.int .i64 s] w fun z w'=>GivesF w n (mayE (checkE k n r q n) n l s (guardE x l)) z w'/\Below w.heap.size w w':=by
 by_cases he:mayE (checkE k n r q n) n l s (guardE x l)=0
 ·obtain⟨h1,h2,h3,h4⟩:=mayE_zero he
  subst h2
  have hp:=check_pos h1
  refine(Execute_ok k r q l (exF k l r q) (planE_all (B:=300) (by decide) k r l q h1 hl) (by rw[<-h1];exact Check_any k l r q l hq) A c X cx x s w hk hX (by omega) h3 h4).mono ?_
  rintro z w' ⟨g,rfl,g1,g2,g3,hb⟩
  exact⟨.inr ⟨g,l,he,rfl,by omega,hl,rfl,g1,g3.fin (CG.plan_finite k r q l (by omega) hl h1 x (guard_fin hX h4) s h3).1⟩,hb⟩
 ·refine(Execute_bad k n r q _ (Check_any k n r q n hq) A c X l cx x s w hk hX (by omega) he).mono ?_
  rintro z w' ⟨rfl,hb⟩
  exact⟨.inl ⟨he,rfl⟩,hb⟩
theorem inverseG (k n r:Int) (q:Fo) (hq:q.count<=549755813888) (A:Option Addr) (c:Nat) (X:Option Addr) (l cx:Nat) (x:Nat->Cx) (s:Int) (w:World) (hk:Kids w A 0 q) (hX:CsAt w X l x) (hl:l<=300):
  Calls Tryz.prog 25 #[plV k n r A q.len c,.slice X l cx,.int .i64 s] w fun z w'=>GivesF w n (mayE (checkE k n r q n) n l s (guardE x l)) z w'/\Below w.heap.size w w':=by
 by_cases he:mayE (checkE k n r q n) n l s (guardE x l)=0
 ·obtain⟨h1,h2,h3,h4⟩:=mayE_zero he
  subst h2
  have hp:=check_pos h1
  refine(Inverse_ok k r q l (exF k l r q) (planE_all (B:=300) (by decide) k r l q h1 hl) (by rw[<-h1];exact Check_any k l r q l hq) A c X cx x s w hk hX (by omega) (by omega) h3 h4).mono ?_
  rintro z w' ⟨g,rfl,g1,g2,g3,hb⟩
  have hp:=CG.plan_finite k r q l (by omega) hl h1 x (guard_fin hX h4) (-s) (by omega)
  exact⟨.inr ⟨g,l,he,rfl,by omega,hl,rfl,g1,g3.fin (inv_fin (by omega) (by omega) hp.1 hp.2)⟩,hb⟩
 ·refine(Inverse_bad k n r q _ (Check_any k n r q n hq) A c X l cx x s w hk hX (by omega) he).mono ?_
  rintro z w' ⟨rfl,hb⟩
  exact⟨.inl ⟨he,rfl⟩,hb⟩
end Go.Proofs.YtmgfaeineklccaaGreat
