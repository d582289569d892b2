/- Run and Back: what they refuse; Back over any ring; the document's May. -/
import Derived.Test.YteaimnemobnknaaX0
import Derived.Test.YteaimnemobnknaaMC4
import Derived.Test.YteaimnemobnknaaMC3
import Derived.Test.YteaimnemobnknaaMR2
import Derived.Test.YteaimnemobnknaaMW2
import Derived.Test.YteaimnemobnknaaZ3
set_option maxRecDepth 100000
set_option maxHeartbeats 4000000
set_option linter.unusedSimpArgs false
set_option linter.unusedVariables false
namespace Go.Proofs.Yteaimnemobnknaa
open Go.RowKit Go.Lib
def runE(kind n r:Int)(q:Fo)(l s:Int):Int:=if checkE kind n r q n≠0 then checkE kind n r q n else if l≠n then 4 else if s≠1/\s≠-1 then 6 else 0
theorem May_any(kind n r:Int)(q:Fo)(l s:Int)(hN:q.count<=549755813888)(w:World)(A:Option Addr)(c:Nat)(hk:Kids w A 0 q):
  Calls Try.prog 14 #[plV kind n r A q.len c,.int .i64 l,.int .i64 s] w (Ret w (.int .i64 (runE kind n r q l s))):=by
 have FIN:Hid (∀t,Below w.heap.size w (w.alloc (.cells #[.int .i64 kind,.int .i64 n,.int .i64 r,.slice A q.len c] t))):=aZ (λt=>(Below.refl _ w).alloc (Nat.le_refl _) _)
 have HC:=aZ (λw h=>RCheck_any kind n r q n (by omega) w A c h)
 have HK:=aZ hk
 unfold runE
 generalize checkE kind n r q n=e at*
 clear hk hN
 by_cases he:e=0
 ·subst he
  rw[if_neg (by simp)]
  by_cases hl:l=n
  ·subst hl
   rw[if_neg (by simp)]
   have key:∀v:Int,(if s≠1/\s≠-1 then 6 else 0)=v->Calls Try.prog 14 #[plV kind l r A q.len c,.int .i64 l,.int .i64 s] w (Ret w (.int .i64 v)):=by
    intro v hv
    by_cases s1:s=1
    ·subst s1
     obtain rfl:v=0:=by rw[<-hv];rfl
     clear hv
     go_enter Try.func14,Try.ntmps14
     go_wp2_with fail
     have hP:=PlBox.new w kind l r A q.len c 29
     refine(HC.out _ (HK.out.below (FIN.out _))).mono ?_
     rintro z w1 ⟨⟨a,rfl⟩,hb1⟩
     obtain⟨p0,p1,p2,p3⟩:=hP.below hb1
     have HB:=aZ ((FIN.out _).trans (hb1.mono (by simp)))
     clear hb1 hP
     go_wp2
     go_ret
     exact⟨rfl,HB.out⟩
    ·by_cases s2:s=-1
     ·subst s2
      obtain rfl:v=0:=by rw[<-hv];rfl
      clear hv
      go_enter Try.func14,Try.ntmps14
      go_wp2_with fail
      have hP:=PlBox.new w kind l r A q.len c 29
      refine(HC.out _ (HK.out.below (FIN.out _))).mono ?_
      rintro z w1 ⟨⟨a,rfl⟩,hb1⟩
      obtain⟨p0,p1,p2,p3⟩:=hP.below hb1
      have HB:=aZ ((FIN.out _).trans (hb1.mono (by simp)))
      clear hb1 hP
      go_wp2
      go_ret
      exact⟨rfl,HB.out⟩
     ·obtain rfl:v=6:=by rw[<-hv,if_pos ⟨s1,s2⟩]
      have s1i:(s != 1)=true:=by simpa using s1
      have s2i:(s !=-1)=true:=by simpa using s2
      clear hv
      go_enter Try.func14,Try.ntmps14
      go_wp2_with fail
      have hP:=PlBox.new w kind l r A q.len c 29
      refine(HC.out _ (HK.out.below (FIN.out _))).mono ?_
      rintro z w1 ⟨⟨a,rfl⟩,hb1⟩
      obtain⟨p0,p1,p2,p3⟩:=hP.below hb1
      have HB:=aZ ((FIN.out _).trans (hb1.mono (by simp)))
      clear hb1 hP
      go_wp2
      go_ret
      exact⟨rfl,HB.out⟩
   exact key _ rfl
  ·rw[if_pos hl]
   have hli:(l != n)=true:=by simpa using hl
   clear hl
   go_enter Try.func14,Try.ntmps14
   go_wp2_with fail
   have hP:=PlBox.new w kind n r A q.len c 29
   refine(HC.out _ (HK.out.below (FIN.out _))).mono ?_
   rintro z w1 ⟨⟨a,rfl⟩,hb1⟩
   obtain⟨p0,p1,p2,p3⟩:=hP.below hb1
   have HB:=aZ ((FIN.out _).trans (hb1.mono (by simp)))
   clear hb1 hP
   go_wp2
   go_ret
   exact⟨rfl,HB.out⟩
 ·rw[if_pos he]
  have hei:(e != 0)=true:=by simpa using he
  clear he
  go_enter Try.func14,Try.ntmps14
  go_wp2_with fail
  refine(HC.out _ (HK.out.below (FIN.out _))).mono ?_
  rintro z w1 ⟨⟨a,rfl⟩,hb1⟩
  have HB:=aZ ((FIN.out _).trans (hb1.mono (by simp)))
  clear hb1
  go_wp2
  go_ret
  exact⟨rfl,HB.out⟩
theorem Run_no(v:Value)(kind n r:Int)(q:Fo)(hN:q.count<=549755813888)(s:Int)(l:Nat)(he:runE kind n r q l s≠0)(w:World)(A:Option Addr)(c:Nat)(X:Option Addr)(cx:Nat)(hk:Kids w A 0 q):
  Calls Try.prog 16 #[v,plV kind n r A q.len c,.slice X l cx,.int .i64 s] w λz w'=>z=.returned (.tuple #[.slice none 0 0,.int .i64 (runE kind n r q l s)])/\Below w.heap.size w w':=by
 have C:=Check_any kind n r q n hN
 unfold runE at he|-
 generalize checkE kind n r q n=e at*
 by_cases h0:e=0
 ·subst h0
  rw[if_neg (by simp)] at he|-
  have HC:=aZ C
  have HK:=aZ hk
  have FIN:Hid (∀t,Below w.heap.size w (w.alloc (.cells #[.int .i64 kind,.int .i64 n,.int .i64 r,.slice A q.len c] t))):=aZ (λt=>(Below.refl _ w).alloc (Nat.le_refl _) _)
  clear C hk
  by_cases hl:(l:Int)=n
  ·rw[if_neg (by simp[hl])] at he|-
   by_cases hs:s≠1/\s≠-1
   ·rw[if_pos hs]
    have s1i:(s != 1)=true:=by simpa using hs.1
    have s2i:(s !=-1)=true:=by simpa using hs.2
    have hli:((l:Int) != n)=false:=by simpa using hl
    clear hs he hl
    go_enter Try.func16,Try.ntmps16
    go_wp2_with fail
    have hP:=PlBox.new w kind n r A q.len c 26
    refine(HC.out _ A c (HK.out.below (FIN.out _))).mono ?_
    rintro z w1 ⟨⟨a,rfl⟩,hb1⟩
    obtain⟨p0,p1,p2,p3⟩:=hP.below hb1
    have HB:=aZ ((FIN.out _).trans (hb1.mono (by simp)))
    clear hb1 hP
    go_wp2
    go_ret2
    exact⟨rfl,HB.out⟩
   ·rw[if_neg hs] at he
    exact absurd rfl he
  ·rw[if_pos hl]
   have hli:((l:Int) != n)=true:=by simpa using hl
   clear he hl
   go_enter Try.func16,Try.ntmps16
   go_wp2_with fail
   have hP:=PlBox.new w kind n r A q.len c 26
   refine(HC.out _ A c (HK.out.below (FIN.out _))).mono ?_
   rintro z w1 ⟨⟨a,rfl⟩,hb1⟩
   obtain⟨p0,p1,p2,p3⟩:=hP.below hb1
   have HB:=aZ ((FIN.out _).trans (hb1.mono (by simp)))
   clear hb1 hP
   go_wp2
   go_ret2
   exact⟨rfl,HB.out⟩
 ·rw[if_pos h0]
  exact Run_chk v kind n r q e h0 C s l w A c X cx hk (λw' hb=>hk.below hb)
theorem Back_no(v:Value)(kind n r:Int)(q:Fo)(hN:q.count<=549755813888)(s:Int)(l:Nat)(he:runE kind n r q l s≠0)(w:World)(A:Option Addr)(c:Nat)(X:Option Addr)(cx:Nat)(hk:Kids w A 0 q):
  Calls Try.prog 17 #[v,plV kind n r A q.len c,.slice X l cx,.int .i64 s] w λz w'=>z=.returned (.tuple #[.slice none 0 0,.int .i64 (runE kind n r q l s)])/\Below w.heap.size w w':=by
 have key:∀t:Int,runE kind n r q l t=runE kind n r q l s->∀w,Kids w A 0 q->Calls Try.prog 16 #[v,plV kind n r A q.len c,.slice X l cx,.int .i64 t] w λz w'=>z=.returned (.tuple #[.slice none 0 0,.int .i64 (runE kind n r q l s)])/\Below w.heap.size w w':=λt ht w hk=>by
  rw[<-ht]
  exact Run_no v kind n r q hN t l (by rw[ht];exact he) w A c X cx hk
 have k1:s=1->runE kind n r q l (-1)=runE kind n r q l s:=λe=>by rw[e];rfl
 have k2:s=-1->runE kind n r q l 1=runE kind n r q l s:=λe=>by rw[e];rfl
 have k3:s≠1->s≠-1->runE kind n r q l 0=runE kind n r q l s:=λa b=>by unfold runE;rw[if_pos (show(0:Int)≠1/\(0:Int)≠-1 by omega),if_pos (show s≠1/\s≠-1 from⟨a,b⟩)]
 generalize runE kind n r q l s=e at*
 have HKY:=aZ key
 have HK:=aZ hk
 have FIN:Hid (∀t,Below w.heap.size w (w.alloc (.cells #[.int .i64 kind,.int .i64 n,.int .i64 r,.slice A q.len c] t))):=aZ (λt=>(Below.refl _ w).alloc (Nat.le_refl _) _)
 have hei:(e != 0)=true:=by simpa using he
 clear key hk he
 by_cases s1:s=1
 ·have H1:=aZ (HKY.out (-1) (k1 s1))
  subst s1
  clear k1 k2 k3 HKY
  go_enter Try.func17,Try.ntmps17
  go_wp2_with fail
  refine(H1.out _ (HK.out.below (FIN.out _))).mono ?_
  rintro z w1 ⟨rfl,hb1⟩
  have HB:=aZ ((FIN.out _).trans (hb1.mono (by simp)))
  clear hb1
  go_wp2
  go_ret2
  exact⟨rfl,HB.out⟩
 ·by_cases s2:s=-1
  ·have H1:=aZ (HKY.out 1 (k2 s2))
   subst s2
   clear k1 k2 k3 HKY
   go_enter Try.func17,Try.ntmps17
   go_wp2_with fail
   refine(H1.out _ (HK.out.below (FIN.out _))).mono ?_
   rintro z w1 ⟨rfl,hb1⟩
   have HB:=aZ ((FIN.out _).trans (hb1.mono (by simp)))
   clear hb1
   go_wp2
   go_ret2
   exact⟨rfl,HB.out⟩
  ·have H1:=aZ (HKY.out 0 (k3 s1 s2))
   have s1i:(s != 1)=true:=by simpa using s1
   have s2i:(s !=-1)=true:=by simpa using s2
   clear k1 k2 k3 HKY
   go_enter Try.func17,Try.ntmps17
   go_wp2_with fail
   refine(H1.out _ (HK.out.below (FIN.out _))).mono ?_
   rintro z w1 ⟨rfl,hb1⟩
   have HB:=aZ ((FIN.out _).trans (hb1.mono (by simp)))
   clear hb1
   go_wp2
   go_ret2
   exact⟨rfl,HB.out⟩
section
variable {M : Mem} {ρ : RingV}
theorem Back_r(H:ρ.Ok M)(kind r:Int)(kids:Fo)(N:Nat)(h1:1<=N)(h2:N<=32768)(F:Tr Int)(P:PlanC M ρ kind N r kids N F)(C:ChkC kind N r kids N 0)(s:Int)(hs:s=1\/s=-1)(w:World)(A:Option Addr)(c:Nat)(X:Option Addr)(cx:Nat)(x:Nat->Int)(hk:Kids w A 0 kids)(hX:IntsAt w X N x)(hx:AllIn ρ x)(hw:M.St w):
  Calls Try.prog 17 #[.iface ρ.t ρ.v,plV kind N r A kids.len c,.slice X N cx,.int .i64 s] w λz w'=>∃g,z=.returned (.tuple #[.slice (some ⟨g,0,none⟩) N N,.int .i64 0])/\w.heap.size<=g/\Own M w' g N (overF ρ.R (F (-s) x) N)/\M.On w w':=by
 have HH:=aZ H
 have HP:=aZ P
 have HRN:=aZ (λs hs w hk hX hw=>Run_r H kind r kids N F P C s hs w A c X cx x hk hX hx hw)
 have HX:=aZ hX
 have HI:=aZ hx
 have HW:=aZ hw
 have HK:=aZ hk
 have HNN:Hid (1<=N/\N<=32768):=aZ ⟨h1,h2⟩
 clear H P C hX hx hw hk h1 h2
 rcases hs with rfl|rfl
 all_goals
  go_enter Try.func17,Try.ntmps17
  go_wp2_with fail
  have hb1:=box_on HH.out.mem HW.out (.cells #[.int .i64 kind,.int .i64 N,.int .i64 r,.slice A kids.len c] 26)
  have hP:=PlBox.new w kind N r A kids.len c 26
  refine(HRN.out _ (by first|exact .inl rfl|exact .inr rfl) _ (Kids.keep HH.out.mem hb1 HW.out HK.out) (HX.out.keepM HH.out.mem hb1 HW.out) hb1.st).mono ?_
  rintro z w1 ⟨g,rfl,hg,ho,hb⟩
  obtain⟨p0,p1,p2,p3⟩:=hP.keep HH.out.mem hb hb1.st
  have HB1:=aZ (hb1.trans HH.out.mem hb)
  have HO:=aZ ho
  clear hb hb1 ho hP
  go_wp2_with fail
  refine(Over_r HH.out (some ⟨g,0,none⟩) N N N _ _ HO.out.ints (HP.out.cl _ _ HI.out) (by have:=HNN.out;omega) HNN.out.1 HNN.out.2 HB1.out.st).mono ?_
  rintro z w2 ⟨rfl,ho2,hb2⟩
  have HO2:=aZ ho2
  have HB:=aZ (HB1.out.trans HH.out.mem hb2)
  have HG:Hid (w.heap.size<=w1.heap.size):=aZ (HH.out.mem.size HB1.out.fr)
  clear ho2 hb2 hg p0 p1 p2 p3
  go_wp2
  go_ret2
  exact⟨_,rfl,HG.out,HO2.out,HB.out⟩
end
theorem lnil_Zero(q v N:Nat)(w:World):(nilAhead 292 35 (rgV q v N) "Zero").run Try.prog w=.ok (some false) w:=by kernel_rfl
theorem lmet_Zero(q v N:Nat)(w:World):(method 292 35 (rgV q v N) "Zero").run Try.prog w=.ok (151,rgV q v N) w:=by kernel_rfl
theorem lent_Zero(args:Array Value)(w:World):(callFunc 151 args).run Try.prog w=.ok (.enter 151 args) w:=enters_of Try.func151 (by kernel_rfl) rfl args w
theorem lnil_Add(q v N:Nat)(w:World):(nilAhead 292 35 (rgV q v N) "Add").run Try.prog w=.ok (some false) w:=by kernel_rfl
theorem lmet_Add(q v N:Nat)(w:World):(method 292 35 (rgV q v N) "Add").run Try.prog w=.ok (26,rgV q v N) w:=by kernel_rfl
theorem lent_Add(args:Array Value)(w:World):(callFunc 26 args).run Try.prog w=.ok (.enter 26 args) w:=enters_of Try.func26 (by kernel_rfl) rfl args w
theorem lnil_Sub(q v N:Nat)(w:World):(nilAhead 292 35 (rgV q v N) "Sub").run Try.prog w=.ok (some false) w:=by kernel_rfl
theorem lmet_Sub(q v N:Nat)(w:World):(method 292 35 (rgV q v N) "Sub").run Try.prog w=.ok (150,rgV q v N) w:=by kernel_rfl
theorem lent_Sub(args:Array Value)(w:World):(callFunc 150 args).run Try.prog w=.ok (.enter 150 args) w:=enters_of Try.func150 (by kernel_rfl) rfl args w
theorem lnil_Mul(q v N:Nat)(w:World):(nilAhead 292 35 (rgV q v N) "Mul").run Try.prog w=.ok (some false) w:=by kernel_rfl
theorem lmet_Mul(q v N:Nat)(w:World):(method 292 35 (rgV q v N) "Mul").run Try.prog w=.ok (25,rgV q v N) w:=by kernel_rfl
theorem lent_Mul(args:Array Value)(w:World):(callFunc 25 args).run Try.prog w=.ok (.enter 25 args) w:=enters_of Try.func25 (by kernel_rfl) rfl args w
theorem lnil_Over(q v N:Nat)(w:World):(nilAhead 292 35 (rgV q v N) "Over").run Try.prog w=.ok (some false) w:=by kernel_rfl
theorem lmet_Over(q v N:Nat)(w:World):(method 292 35 (rgV q v N) "Over").run Try.prog w=.ok (148,rgV q v N) w:=by kernel_rfl
theorem lent_Over(args:Array Value)(w:World):(callFunc 148 args).run Try.prog w=.ok (.enter 148 args) w:=enters_of Try.func148 (by kernel_rfl) rfl args w
theorem lnil_Root(q v N:Nat)(w:World):(nilAhead 292 35 (rgV q v N) "Root").run Try.prog w=.ok (some false) w:=by kernel_rfl
theorem lmet_Root(q v N:Nat)(w:World):(method 292 35 (rgV q v N) "Root").run Try.prog w=.ok (149,rgV q v N) w:=by kernel_rfl
theorem lent_Root(args:Array Value)(w:World):(callFunc 149 args).run Try.prog w=.ok (.enter 149 args) w:=enters_of Try.func149 (by kernel_rfl) rfl args w
def lawV(q v N:Nat):RingV:=⟨35,rgV q v N,151,26,150,25,148,149,lawRg q v N,λa=>0<=a/\a<q⟩
theorem rootR_lt(q v N:Nat)(q1:1<=q)(k n:Int):rootR q v N k n<q:=by
 unfold rootR
 split
 ·omega
 ·split
  ·omega
  ·exact pmod_lt _ _ _ q1
theorem overN_lt(q:Nat)(q1:1<=q)(a n:Int):overN q a n<q:=Nat.mod_lt _ q1
theorem law_ok(q v N:Nat)(q1:2<=q)(hq:q<=4503599627370496)(hv:v<=4503599627370496)(hN:N<=4503599627370496):(lawV q v N).Ok Mem.plain where
 mem:=Mem.plain_ok
 nz:=lnil_Zero q v N
 mz:=lmet_Zero q v N
 cz:=lent_Zero
 na:=lnil_Add q v N
 ma:=lmet_Add q v N
 ca:=lent_Add
 ns:=lnil_Sub q v N
 ms:=lmet_Sub q v N
 cs:=lent_Sub
 nm:=lnil_Mul q v N
 mm:=lmet_Mul q v N
 cm:=lent_Mul
 no:=lnil_Over q v N
 mo:=lmet_Over q v N
 co:=lent_Over
 nr:=lnil_Root q v N
 mr:=lmet_Root q v N
 cr:=lent_Root
 zero w _:=(lzero_any q v N w).mono λz w' h=>⟨h.1,trivial,h.2⟩
 add a b w ha hb _:=(ladd_any q v N a b (by omega) hq ha.1 ha.2 hb.1 hb.2 w).mono λz w' h=>⟨h.1,trivial,h.2⟩
 sub a b w ha hb _:=(lsub_any q v N a b (by omega) hq ha.1 ha.2 hb.1 hb.2 w).mono λz w' h=>⟨h.1,trivial,h.2⟩
 mul a b w ha hb _:=(lmul_any q v N a b (by omega) hq ha.1 ha.2 hb.1 hb.2 w).mono λz w' h=>⟨h.1,trivial,h.2⟩
 over a n w ha n1 n2 _:=(lover_any q v N a n q1 hq (by have:=ha.1;omega) (by have:=ha.2;omega) (by omega) (by omega) w).mono λz w' h=>⟨h.1,trivial,h.2⟩
 root k n w k1 k2 n1 n2 _:=(lroot_any q v N k n (by omega) hq hv hN (by omega) (by omega) (by omega) (by omega) w).mono λz w' h=>⟨h.1,trivial,h.2⟩
 z0:=rfl
 iz:=⟨Int.le_refl _,by show(0:Int)<q;omega⟩
 ia a b _ _:=⟨Int.emod_nonneg _ (by omega),Int.emod_lt_of_pos _ (by omega)⟩
 is a b _ _:=⟨Int.emod_nonneg _ (by omega),Int.emod_lt_of_pos _ (by omega)⟩
 im a b _ _:=⟨Int.emod_nonneg _ (by omega),Int.emod_lt_of_pos _ (by omega)⟩
 io a n _ _ _:=⟨Int.natCast_nonneg _,by have:=overN_lt q (by omega) a n;show((overN q a n:Nat):Int)<q;omega⟩
 ir k n _ _:=⟨Int.natCast_nonneg _,by have:=rootR_lt q v N (by omega) k n;show((rootR q v N k n:Nat):Int)<q;omega⟩
theorem info_rpower:(Try.prog.info? 152).map (λi=>(i.zero,i.size,i.bytes))=some (some (.agg #[.int .i64 0,.int .i64 0]),2,16):=by kernel_rfl
theorem le_div{d n:Nat}(hd:1<=d):d<=n/d↔d*d<=n:=Nat.le_div_iff_mul_le (by omega)
theorem owns_setBox{w:World}{base n sz b o:Nat}{e:TypeId}{v:Value}{xs:List Value}(u:Value)(h:w.ownsRow base e sz v n xs)(hb:v.ownBlock≠some b):(w.setCell ⟨b,o,none⟩ u).ownsRow base e sz v n xs:=
 ownsRow_setCell_other h (a:=⟨b,o,none⟩) (λe=>hb e) u
theorem owns_fresh{w:World}{base n sz:Nat}{e:TypeId}{v:Value}{xs:List Value}(h:w.ownsRow base e sz v n xs):v.ownBlock≠some w.heap.size:=λe=>by
 have:=(World.ownsRow.lt h _ e).2
 omega
theorem RFactor_any(N:Nat)(h1:1<=N)(h2:N<=1099511627776)(w:World):
  Calls Try.prog 114 #[.int .i64 N] w λz w'=>∃A c L,z=.returned (.slice A L.length c)/\L.length<=64/\PairsAt w' A L/\L.map Prod.fst=facL N N 2/\Below w.heap.size w w':=by
 have h0:¬(N:Int)<1:=by omega
 have HF:Hid (FacS N N 2 []):=aZ ⟨⟨N,by omega,rfl⟩,by omega,h1,by omega,.inr (by omega),by simp⟩
 go_enter Try.func114,Try.ntmps114
 go_wp2
 go_loopw [4,0,3] (λvp vn vo wr=>∃(p n:Nat) (L:List (Nat×Nat)),vp=.int .i64 p/\vn=.int .i64 n/\Hid (wr.ownsRow w.heap.size 152 2 vo L.length (pairsV L))/\Hid (FacS N n p L)/\Hid (Below w.heap.size w wr)/\p<=2199023255552) (λvp vn _ _=>(intOf vn).toNat*4398046511104+(4398046511104-(intOf vp).toNat))
 case atStart=>exact⟨2,N,[],rfl,rfl,aZ (World.ownsRow_nil _ _ _ _),HF,aZ (Below.refl _ _),by omega⟩
 case round=>
  clear HF
  obtain⟨p,n,L,rfl,rfl,hown,hf,hb,hpb⟩:=hrel
  have hn1:=hf.out.n1
  have hnN:=hf.out.le
  have hp2:=hf.out.p2
  have hq:(n:Int).tdiv p=((n/p:Nat):Int):=by rw[Int.tdiv_eq_ediv_of_nonneg (by omega)];omega
  have hqm:n/p<=n:=Nat.div_le_self _ _
  have hd0:((p:Int)==0)=false:=by rw[beq_eq_false_iff_ne];omega
  have hd1:¬(p:Int)=0:=by omega
  have HLE:=aZ (le_div (d:=p) (n:=n) (by omega))
  obtain⟨Q,hQ⟩:∃Q,n/p=Q:=⟨_,rfl⟩
  have HQ:=aZ hQ
  rw[hQ] at hq hqm
  clear hQ
  by_cases hlt:p<=Q
  ·have hlti:(p:Int)<=(Q:Int):=by omega
   have HSQ:Hid (p*p<=n):=aZ (HLE.out.1 (by rw[HQ.out];exact hlt))
   have hn2:2<=n:=by omega
   have hp1:p<=1048577:=by
    rcases hf.out.sq with h|h
    ·omega
    ·exact sq_le h h2
   have hlen:=len_le hf.out.big hn2 h2
   have ht:(n:Int).tmod p=((n%p:Nat):Int):=by rw[Int.tmod_eq_emod_of_nonneg (by omega)];omega
   obtain⟨x,hx⟩:∃x,n%p=x:=⟨_,rfl⟩
   have hxl:x<p:=by rw[<-hx];exact Nat.mod_lt _ (by omega)
   rw[hx] at ht
   by_cases h0':x=0
   ·subst h0'
    have HNP:Hid (n%p=0):=aZ hx
    have ht':(n:Int).tmod p=0:=ht
    have hFR:=owns_fresh hown.out
    clear ht hx
    go_wp2
    obtain⟨W1,hW1⟩:∃W1,W1=wr.alloc (.cells #[.int .i64 p,.int .i64 0] 152):=⟨_,rfl⟩
    have hpair:=pair_new wr (p:Int) 0 152
    have hfr:(wr.alloc (.cells #[.int .i64 p,.int .i64 0] 152)).frozen? ⟨wr.heap.size,1,none⟩=false:=by simp[go_sem]
    have hO1:=World.ownsRow.alloc hown.out (.cells #[.int .i64 p,.int .i64 0] 152)
    have hB1:Below w.heap.size w (wr.alloc (.cells #[.int .i64 p,.int .i64 0] 152)):=hb.out.alloc hb.out.size _
    rw[<-hW1] at hpair hfr hO1 hB1|-
    obtain⟨bF,hbF⟩:∃bF,wr.heap.size=bF:=⟨_,rfl⟩
    have hbs:w.heap.size<=bF:=by rw[<-hbF];exact hb.out.size
    rw[hbF] at hpair hfr hFR|-
    have HP:=aZ hpair
    have HFZ:=aZ hfr
    have HO1:=aZ hO1
    have HB1:=aZ hB1
    have HFR:=aZ hFR
    have HBS:=aZ hbs
    clear hpair hfr hO1 hB1 hW1 hbF hown hb hFR
    go_loopw [0] (λvm wi=>∃m e:Nat,vm=.int .i64 m/\Hid (DivS n p m e)/\Hid (wi.ownsRow w.heap.size 152 2 u3 L.length (pairsV L))/\Hid (wi.cell? ⟨bF,0,none⟩=some (.int .i64 p)/\wi.cell? ⟨bF,1,none⟩=some (.int .i64 e)/\wi.frozen? ⟨bF,1,none⟩=false)/\Hid (Below w.heap.size w wi)) (λvm _=>(intOf vm).toNat)
    case atStart=>exact⟨n,0,rfl,aZ ⟨⟨64,by omega,by omega,rfl⟩,by omega,by omega,.inl ⟨rfl,rfl⟩⟩,HO1,aZ ⟨HP.out.1,HP.out.2,HFZ.out⟩,HB1⟩
    case round=>
     rename World=>wi
     obtain⟨m,e,rfl,hd,hown,hcl,hbw⟩:=hrel
     clear HP HFZ HO1 HB1
     have he64:=hd.out.e64
     have hm1:=hd.out.m1
     have hmn:=hd.out.le
     have htm:(m:Int).tmod p=((m%p:Nat):Int):=by rw[Int.tmod_eq_emod_of_nonneg (by omega)];omega
     obtain⟨y,hy⟩:∃y,m%p=y:=⟨_,rfl⟩
     rw[hy] at htm
     by_cases hmq:y=0
     ·subst hmq
      have htm':(m:Int).tmod p=0:=htm
      have HN:=aZ (hd.out.step hp2 hy)
      have hdlt:m/p<m:=Nat.div_lt_self (by omega) (by omega)
      have hqm':(m:Int).tdiv p=((m/p:Nat):Int):=by rw[Int.tdiv_eq_ediv_of_nonneg (by omega)];omega
      obtain⟨d,hdv⟩:∃d,m/p=d:=⟨_,rfl⟩
      rw[hdv] at HN hdlt hqm'
      obtain⟨c0,c1,c2⟩:=hcl.out
      have HO:=aZ (owns_setBox (o:=1) (.int .i64 ((e:Int)+1)) hown.out HFR.out)
      have HB2:Hid (Below w.heap.size w (wi.setCell ⟨bF,1,none⟩ (.int .i64 ((e:Int)+1)))):=aZ (hbw.out.setCell (p:=⟨bF,1,none⟩) HBS.out _)
      have HC:Hid ((wi.setCell ⟨bF,1,none⟩ (.int .i64 ((e:Int)+1))).cell? ⟨bF,0,none⟩=some (.int .i64 p)/\(wi.setCell ⟨bF,1,none⟩ (.int .i64 ((e:Int)+1))).cell? ⟨bF,1,none⟩=some (.int .i64 ((e+1:Nat):Int))/\(wi.setCell ⟨bF,1,none⟩ (.int .i64 ((e:Int)+1))).frozen? ⟨bF,1,none⟩=false):=aZ ⟨by
        rw[World.cell?_setCell_other]
        ·exact c0
        ·intro h;have:=congrArg Addr.off h;simp at this,by
        rw[World.cell?_setCell_same' _ _ _ (by rw[c1];rfl)];rfl,by rw[World.frozen?_setCell];exact c2⟩
      clear hdv htm hy hd hown hcl hbw
      go_wp2
      exact⟨⟨d,e+1,rfl,HN,HO,HC,HB2⟩,by simp[intOf];omega⟩
     ·have htm':((y:Int)==0)=false:=by rw[beq_eq_false_iff_ne];omega
      have hm:=hd.out.done (by rw[hy];exact hmq)
      have HM:Hid (stripL 64 n p=m):=aZ hm.symm
      have HFN:=aZ (hf.out.hit hn2 HSQ.out HNP.out e)
      obtain⟨c0,c1,c2⟩:=hcl.out
      have hsz:=hbw.out.size
      clear hm hd hy hf
      go_wp2_with (at_builtin;refine wpList_appG rfl _ _ 149 152 rfl 2 16 (.agg #[.int .i64 0,.int .i64 0]) Try.underlying149 info_rpower rfl (by omega) (by omega) w.heap.size _ L.length (pairsV L) rfl (World.ownsRow.alloc hown.out _) _ _ [.int .i64 p,.int .i64 e] rfl rfl (cells_two _ _ _ _) (ones_two _ _) (by omega) (by simp;omega) ?_;intro v' w' g1 g2)
      rw[pairsV_app] at g1
      have HB:=aZ (owns_grow (World.ownsRow.alloc hown.out _) (hbw.out.alloc hbw.out.size _) g2.out (by simp;omega))
      have HO:Hid (w'.ownsRow w.heap.size 152 2 v' (L++[(p,e)]).length (pairsV (L++[(p,e)]))):=aZ (by rw[List.length_append];exact g1.out)
      clear g1 g2 hcl hown hbw c0 c1 c2
      go_wp2
      exact⟨⟨p+1,m,L++[(p,e)],by go_num,rfl,HO,by rw[<-HM.out];exact HFN,HB,by omega⟩,by simp[intOf];omega⟩
   ·have hxi:((x:Int) != 0)=true:=by simp;omega
    have HFN:=aZ (hf.out.miss hn2 HSQ.out (by rw[hx];exact h0'))
    clear hx hf
    go_wp2
    exact⟨⟨p+1,n,L,by go_num,rfl,hown,HFN,hb,by omega⟩,by simp[intOf];omega⟩
  ·have hlti:¬(p:Int)<=(Q:Int):=by omega
   have HSQ:Hid (n<p*p):=aZ (by
    have:=mt HLE.out.2 (by rw[HQ.out];exact hlt)
    omega)
   by_cases hn:n=1
   ·have hni:¬(1:Int)<n:=by omega
    obtain⟨A,c,rfl,hc,hlc,hcm,-⟩:=owns_cells hown.out
    have hl:L.length<=64:=by
     have:=hf.out.big
     rw[hn] at this
     apply Classical.byContradiction
     intro hh
     have h4:2^64<=2^L.length:=Nat.pow_le_pow_right (by omega) (by omega)
     omega
    have HC:=aZ (CellsAt.pairs hc)
    have HE:Hid (L.map Prod.fst=facL N N 2):=aZ (by
     obtain⟨f,_,he⟩:=hf.out.ex
     rw[hn,facL_one,List.append_nil] at he
     exact he)
    clear hc hlc hcm hn
    go_wp2
    go_ret
    exact⟨A,c,L,rfl,hl,HC.out,HE.out,hb.out⟩
   ·have hn2:2<=n:=by omega
    have hni:(1:Int)<n:=by omega
    have hlen:=len_le hf.out.big hn2 h2
    have hf2:=hf.out.last hn2 HSQ.out 1
    have HE:Hid ((L++[(n,1)]).map Prod.fst=facL N N 2):=aZ (by
     obtain⟨f,_,he⟩:=hf2.ex
     rw[facL_one,List.append_nil] at he
     exact he)
    have hsz:=hb.out.size
    clear hf2
    go_wp2_with (at_builtin;refine wpList_appG rfl _ _ 149 152 rfl 2 16 (.agg #[.int .i64 0,.int .i64 0]) Try.underlying149 info_rpower rfl (by omega) (by omega) w.heap.size _ L.length (pairsV L) rfl (World.ownsRow.alloc hown.out _) _ _ [.int .i64 n,.int .i64 1] rfl rfl (cells_two _ _ _ _) (ones_two _ _) (by omega) (by simp;omega) ?_;intro v' w' g1 g2)
    rw[show [Value.int IntKind.i64 (n:Int),Value.int IntKind.i64 1]=[.int .i64 (n:Int),.int .i64 ((1:Nat):Int)] from rfl,pairsV_app] at g1
    have HB:=aZ (owns_grow (World.ownsRow.alloc hown.out _) (hb.out.alloc hb.out.size _) g2.out (by simp;omega))
    have hO:w'.ownsRow w.heap.size 152 2 v' (L++[(n,1)]).length (pairsV (L++[(n,1)])):=by rw[List.length_append];exact g1.out
    obtain⟨A,c,rfl,hc,hlc,hcm,-⟩:=owns_cells hO
    have HC:=aZ (CellsAt.pairs hc)
    have hll:(L++[(n,1)]).length<=64:=by rw[List.length_append];show L.length+1<=64;omega
    have HLL:=aZ hll
    clear g1 g2 hc hlc hcm hO hll
    go_ret
    exact⟨A,c,L++[(n,1)],rfl,HLL.out,HC.out,HE.out,HB.out⟩
def justB(v o q:Nat):Bool:=if pmod v o q=1 then(facL o o 2).all λp=>decide (pmod v (o/p) q≠1) else false
theorem Just_any(v o q:Nat)(hv:v<q)(o1:1<=o)(o2:o<=1099511627776)(hq:q<=4611686018427387904)(w:World):
  Calls Try.prog 87 #[.int .i64 v,.int .i64 o,.int .i64 q] w (Ret w (.bool (justB v o q))):=by
 have hvq:(v:Int)%(q:Int)=(v:Int):=by rw[<-Int.natCast_emod,Nat.mod_eq_of_lt hv]
 have HP:=aZ (λ(e:Nat) (he:e<=1099511627776) w=>RPow_any (v:Int) v e q hvq (by omega) hq (by omega) (by omega) (by omega) w)
 have HF:=aZ (λw=>RFactor_any o o1 o2 w)
 have HB1:Hid (1<=o/\o<=1099511627776):=aZ ⟨o1,o2⟩
 unfold justB
 by_cases h1:pmod v o q=1
 ·rw[if_pos h1]
  have HP1:=aZ (HP.out o o2)
  rw[h1] at HP1
  have HFL:Hid (∀p∈facL o o 2,2<=p/\p<=max o 2):=aZ (λp hp=>facL_ge o o 2 (by omega) p hp)
  obtain⟨R,hR⟩:∃R,((facL o o 2).all λp=>decide (pmod v (o/p) q≠1))=R:=⟨_,rfl⟩
  rw[hR]
  have HR:=aZ hR
  generalize facL o o 2=F at*
  clear h1 hR hvq
  go_enter Try.func87,Try.ntmps87
  go_wp2_with fail
  refine(HP1.out _).mono ?_
  rintro z w' ⟨rfl,rfl⟩
  go_wp2_with fail
  refine(HF.out _).mono ?_
  rintro z w1 ⟨A,c,L,rfl,hl,hL,hLF,hb1⟩
  have HL:=aZ hL
  have HLF:=aZ hLF
  have HB:=aZ hb1
  clear hL hLF hb1
  go_wp2
  go_loopw [9] (λvi wr=>∃i:Nat,i<=L.length/\vi=.int .i64 i/\wr=w1/\Hid (((F.drop i).all λp=>decide (pmod v (o/p) q≠1))=R)) (λvi _=>L.length-(intOf vi).toNat)
  case atStart=>exact⟨0,Nat.zero_le _,rfl,rfl,HR⟩
  case round=>
   obtain⟨i,hi,rfl,rfl,hr⟩:=hrel
   clear HR
   by_cases hlt:i<L.length
   ·have hlti:(i:Int)<(L.length:Int):=by omega
    obtain⟨p,e,hpe⟩:∃p e,L[i]?=some (p,e):=⟨L[i].1,L[i].2,by rw[List.getElem?_eq_getElem hlt]⟩
    obtain⟨b,ob,rfl,cp,-⟩:=HL.out i p e hpe
    have hFi:F[i]?=some p:=by rw[<-HLF.out,List.getElem?_map,hpe];rfl
    have hp2:=HFL.out p (List.mem_of_getElem? hFi)
    have hdr:F.drop i=p::F.drop (i+1):=by
     rw[List.getElem?_eq_some_iff] at hFi
     obtain⟨hlt',he⟩:=hFi
     rw[List.drop_eq_getElem_cons hlt',he]
    have hro:=hr.out
    rw[hdr,List.all_cons] at hro
    have HPP:=aZ (HP.out (o/p) (Nat.le_trans (Nat.div_le_self _ _) HB1.out.2))
    have hdv:(o:Int).tdiv p=((o/p:Nat):Int):=by rw[Int.tdiv_eq_ediv_of_nonneg (by omega)];omega
    have hdl:o/p<=o:=Nat.div_le_self _ _
    have hp0:¬(p:Int)=0:=by omega
    have hp1:((p:Int)==0)=false:=by rw[beq_eq_false_iff_ne];omega
    obtain⟨d,hd⟩:∃d,o/p=d:=⟨_,rfl⟩
    rw[hd] at HPP hdv hdl hro
    obtain⟨x,hx⟩:∃x,pmod v d q=x:=⟨_,rfl⟩
    rw[hx] at HPP hro
    have ho2:=HB1.out.2
    by_cases hx1:x=1
    ·subst hx1
     have HRF:Hid (R=false):=aZ (by rw[<-hro];simp)
     clear hd hx hro hr hdr hFi hpe hp2
     go_wp2_with fail
     refine(HPP.out _).mono ?_
     rintro z w' ⟨rfl,rfl⟩
     go_wp2
     go_ret
     exact⟨by rw[HRF.out];rfl,HB.out⟩
    ·have hxi:((x:Int)==1)=false:=by rw[beq_eq_false_iff_ne];omega
     have HRN:Hid (((F.drop (i+1)).all λp=>decide (pmod v (o/p) q≠1))=R):=aZ (by rw[<-hro,decide_eq_true hx1,Bool.true_and])
     clear hd hx hro hr hdr hFi hpe hp2 hx1
     go_wp2_with fail
     refine(HPP.out _).mono ?_
     rintro z w' ⟨rfl,rfl⟩
     go_wp2
     exact⟨⟨i+1,by omega,by go_num,trivial,HRN⟩,by simp[intOf];omega⟩
   ·obtain rfl:i=L.length:=by omega
    have HRT:Hid (R=true):=aZ (by
     have hl:F.length=L.length:=by rw[<-HLF.out,List.length_map]
     rw[<-hr.out,<-hl,List.drop_length]
     rfl)
    clear hr
    go_wp2
    go_ret
    exact⟨by rw[HRT.out];rfl,HB.out⟩
 ·rw[if_neg h1]
  have HP1:=aZ (HP.out o o2)
  obtain⟨x,hx⟩:∃x,pmod v o q=x:=⟨_,rfl⟩
  rw[hx] at HP1 h1
  have hxi:((x:Int) != 1)=true:=by simp;omega
  clear hx h1 hvq
  go_enter Try.func87,Try.ntmps87
  go_wp2_with fail
  refine(HP1.out _).mono ?_
  rintro z w' ⟨rfl,rfl⟩
  go_wp2
  go_ret
  exact⟨rfl,Below.refl _ _⟩
theorem just_pos{v o q:Nat}(o1:1<=o)(h:justB v o q=true):v≠0:=by
 rintro rfl
 unfold justB at h
 have:pmod 0 o q=0:=by unfold pmod;rw[Nat.zero_pow (by omega),Nat.zero_mod]
 rw[this] at h
 simp at h
abbrev fdV(q v N:Nat):Value:=.agg #[.int .i64 q,.int .i64 v,.int .i64 N]
theorem tri_set{W:World}{b:Nat}{x y z:Int}(h:Tri W b x y z)(q v N:Int):Tri (((W.setCell ⟨b,0,none⟩ (.int .i64 q)).setCell ⟨b,1,none⟩ (.int .i64 v)).setCell ⟨b,2,none⟩ (.int .i64 N)) b q v N:=by
 obtain⟨h0,h1,h2⟩:=h
 have e:∀(W:World) (i j:Nat) (u:Value),i≠j->(W.setCell ⟨b,i,none⟩ u).cell? ⟨b,j,none⟩=W.cell? ⟨b,j,none⟩:=λW i j u hij=>by
  rw[World.cell?_setCell_other]
  intro h;exact hij (congrArg Addr.off h)
 refine⟨?_,?_,?_⟩
 ·rw[e _ _ _ _ (by omega),e _ _ _ _ (by omega)]
  exact World.cell?_setCell_same' _ _ _ (by rw[h0];rfl)
 ·rw[e _ _ _ _ (by omega)]
  exact World.cell?_setCell_same' _ _ _ (by rw[e _ _ _ _ (by omega),h1];rfl)
 ·exact World.cell?_setCell_same' _ _ _ (by rw[e _ _ _ _ (by omega),e _ _ _ _ (by omega),h2];rfl)
theorem below_three{w W:World}{b:Nat}(hB:Below w.heap.size w W)(hb:w.heap.size<=b)(x y z:Value):Below w.heap.size w (((W.setCell ⟨b,0,none⟩ x).setCell ⟨b,1,none⟩ y).setCell ⟨b,2,none⟩ z):=
 ((hB.setCell (p:=⟨b,0,none⟩) hb _).setCell (p:=⟨b,1,none⟩) hb _).setCell (p:=⟨b,2,none⟩) hb _
def KY(base:Nat)(g:Option Nat)(w:World)(B:Option Addr)(q:Fo):Prop:=∀w':World,(∀k,base<=k->k<w.heap.size->g≠some k->w'.heap[k]?=w.heap[k]?)->Kids w' B 0 q
theorem KY.kids{base:Nat}{g:Option Nat}{w:World}{B:Option Addr}{q:Fo}(h:KY base g w B q):Kids w B 0 q:=h w λ_ _ _ _=>rfl
theorem KY.mono{base base':Nat}{g:Option Nat}{w:World}{B:Option Addr}{q:Fo}(h:KY base g w B q)(hb:base'<=base):KY base' g w B q:=λw' h'=>h w' λk h1 h2 h3=>h' k (by omega) h2 h3
theorem KY.all{base:Nat}{g:Option Nat}{w:World}{B:Option Addr}{q:Fo}(h:KY base g w B q):KY base none w B q:=λw' h'=>h w' λk h1 h2 h3=>h' k h1 h2 (by simp)
theorem KY.low{base:Nat}{g:Option Nat}{w:World}{B:Option Addr}{q:Fo}(h:KY base none w B q)(hg:∀k,g=some k->k<base):KY base g w B q:=λw' h'=>h w' λk h1 h2 h3=>h' k h1 h2 (λe=>by have:=hg k e;omega)
theorem KY.below{base:Nat}{g:Option Nat}{w w1:World}{B:Option Addr}{q:Fo}(h:KY base g w B q)(hb:Below w.heap.size w w1):KY base g w1 B q:=λw' h'=>h w' λk h1 h2 h3=>(h' k h1 (Nat.lt_of_lt_of_le h2 hb.size) h3).trans (hb.block k h2)
theorem KY.grown{base:Nat}{g g':Option Nat}{w w1:World}{B:Option Addr}{q:Fo}(h:KY base g w B q)(hg:w.grownBy w1 g)(h':g'=g\/∀k,g'=some k->w.heap.size<=k):KY base g' w1 B q:=λw' hw=>h w' λk h1 h2 h3=>by
 refine(hw k h1 (Nat.lt_of_lt_of_le h2 hg.size) ?_).trans (hg.block k h2 (Ne.symm h3))
 rcases h' with rfl|h'
 ·exact h3
 ·intro e;have:=h' k e;omega
theorem KY.set{base:Nat}{g:Option Nat}{w:World}{B:Option Addr}{q:Fo}(h:KY base g w B q){p:Addr}(v:Value)(hp:p.block<base):KY base g (w.setCell p v) B q:=λw' hw=>h w' λk h1 h2 h3=>by
 refine(hw k h1 (by simpa[World.setCell] using h2) h3).trans ?_
 exact Below.heap_setCell w p v k (by omega)
def RowK(base:Nat)(g:Option Nat)(w:World):Fo->List Value->Prop
 |.nil,xs=>xs=[]
 |.cons k n r q rest,xs=>∃(B:Option Addr) (c:Nat) (ys:List Value),xs=.int .i64 k::.int .i64 n::.int .i64 r::.slice B q.len c::ys/\KY base g w B q/\RowK base g w rest ys
theorem RowK.map{base base':Nat}{g g':Option Nat}{w w':World}(h:∀B q,KY base g w B q->KY base' g' w' B q):∀{fo:Fo} {xs:List Value},RowK base g w fo xs->RowK base' g' w' fo xs
 |.nil,_,e=>e
 |.cons _ _ _ _ _,_,⟨B,c,ys,e,hk,hr⟩=>⟨B,c,ys,e,h _ _ hk,RowK.map h hr⟩
def Fo.snoc:Fo->Int->Int->Int->Fo->Fo
 |.nil,k,n,r,q=>.cons k n r q .nil
 |.cons a b c d rest,k,n,r,q=>.cons a b c d (rest.snoc k n r q)
theorem snoc_len:∀(fo:Fo) (k n r:Int) (q:Fo),(fo.snoc k n r q).len=fo.len+1
 |.nil,_,_,_,_=>rfl
 |.cons _ _ _ _ rest,k,n,r,q=>by
   have:=snoc_len rest k n r q
   simp only[Fo.snoc,Fo.len,this]
theorem snoc_count:∀(fo:Fo) (k n r:Int) (q:Fo),(fo.snoc k n r q).count=fo.count+(1+q.count)
 |.nil,_,_,_,_=>by simp[Fo.snoc,Fo.count]
 |.cons _ _ _ _ rest,k,n,r,q=>by
   have:=snoc_count rest k n r q
   simp only[Fo.snoc,Fo.count,this]
   omega
theorem RowK.snoc{base:Nat}{g:Option Nat}{w:World}{k n r:Int}{q:Fo}{B:Option Addr}(c:Nat)(hq:KY base g w B q):∀{fo:Fo} {xs:List Value},RowK base g w fo xs->RowK base g w (fo.snoc k n r q) (xs++[.int .i64 k,.int .i64 n,.int .i64 r,.slice B q.len c])
 |.nil,xs,e=>by
   have e':xs=[]:=e
   subst e'
   exact⟨B,c,[],rfl,hq,rfl⟩
 |.cons _ _ _ _ rest,xs,⟨B',c',ys,e,hk,hr⟩=>⟨B',c',ys++[.int .i64 k,.int .i64 n,.int .i64 r,.slice B q.len c],by rw[e];rfl,hk,RowK.snoc c hq hr⟩
theorem RowK.length{base:Nat}{g:Option Nat}{w:World}:∀{fo:Fo} {xs:List Value},RowK base g w fo xs->xs.length=fo.len*4
 |.nil,xs,e=>by have e':xs=[]:=e;subst e';rfl
 |.cons _ _ _ _ rest,xs,⟨B',c',ys,e,hk,hr⟩=>by
   have:=RowK.length hr
   rw[e]
   simp only[List.length_cons,Fo.len,this]
   omega
theorem RowK.kids{base:Nat}{g:Option Nat}{w w':World}{b:Nat}(hw:∀B q,KY base g w B q->Kids w' B 0 q):∀{fo:Fo} {xs:List Value} (j:Nat),RowK base g w fo xs->(∀t v,xs[t]?=some v->w'.cell? ⟨b,j*4+t,none⟩=some v)->Kids w' (some ⟨b,0,none⟩) j fo
 |.nil,_,_,_,_=>trivial
 |.cons k n r q rest,xs,j,⟨B,c,ys,e,hk,hr⟩,hx=>by
   subst e
   refine⟨⟨b,0,B,c,rfl,?_,?_,?_,?_,hw _ _ hk⟩,RowK.kids hw (j+1) hr λt v ht=>?_⟩
   ·rw[Nat.zero_add];exact hx 0 _ rfl
   ·rw[Nat.zero_add];exact hx 1 _ rfl
   ·rw[Nat.zero_add];exact hx 2 _ rfl
   ·rw[Nat.zero_add];exact hx 3 _ rfl
   ·have:=hx (t+4) v (by simpa using ht)
    rw[show(j+1)*4+t=j*4+(t+4) by omega]
    exact this
def RowP(base:Nat)(e:TypeId)(w:World)(v:Value)(fo:Fo):Prop:=∃xs,w.ownsRow base e 4 v fo.len xs/\RowK base v.ownBlock w fo xs
theorem RowP.nil(base:Nat)(e:TypeId)(w:World):RowP base e w (.slice none 0 0) .nil:=⟨[],World.ownsRow_nil _ _ _ _,rfl⟩
theorem RowP.below{base:Nat}{e:TypeId}{w w':World}{v:Value}{fo:Fo}(h:RowP base e w v fo)(hb:Below w.heap.size w w'):RowP base e w' v fo:=by
 obtain⟨xs,h1,h2⟩:=h
 exact⟨xs,owns_below h1 hb,h2.map λ_ _ h=>h.below hb⟩
theorem RowP.lt{base:Nat}{e:TypeId}{w:World}{v:Value}{fo:Fo}(h:RowP base e w v fo):∀k,v.ownBlock=some k->base<=k/\k<w.heap.size:=by
 obtain⟨xs,h1,h2⟩:=h
 exact World.ownsRow.lt h1
theorem RowP.set{base:Nat}{e:TypeId}{w:World}{v:Value}{fo:Fo}(h:RowP base e w v fo){b o:Nat}(u:Value)(hb:b<base):RowP base e (w.setCell ⟨b,o,none⟩ u) v fo:=by
 obtain⟨xs,h1,h2⟩:=h
 exact⟨xs,ownsRow_setCell_below h1 (a:=⟨b,o,none⟩) hb u,h2.map λ_ _ h=>h.set u hb⟩
theorem RowP.form{base:Nat}{e:TypeId}{w:World}{v:Value}{fo:Fo}(h:RowP base e w v fo):∃A c,v=.slice A fo.len c/\KY base none w A fo:=by
 obtain⟨xs,h1,h2⟩:=h
 rcases h1.2 with⟨rfl,hl⟩|⟨g,cap,cur,rfl,hb,hg,-,-,-,ht⟩
 ·refine⟨none,0,by rw[hl],λw' _=>?_⟩
  rcases fo with _|⟨_,_,_,_,_⟩
  ·trivial
  ·simp[Fo.len] at hl
 ·refine⟨some ⟨g,0,none⟩,cap,rfl,λw' hw=>?_⟩
  have hlt:=(Array.getElem?_eq_some_iff.1 hg).1
  refine RowK.kids (λB q h=>h w' λk k1 k2 k3=>hw k k1 k2 (by simp)) 0 h2 λt v ht'=>?_
  rw[Nat.zero_mul,Nat.zero_add]
  have h3:w.cell? ⟨g,t,none⟩=some v:=by
   rw[World.ownsRow.cellAt h1 t (by
    have:=(List.getElem?_eq_some_iff.1 ht').1
    rw[h1.1] at this
    exact this)]
   exact ht'
  rw[World.cell?_of_block (w:=w) (a:=⟨g,t,none⟩) (hw g hb hlt (by simp)),h3]
theorem RowP.snoc{base:Nat}{e:TypeId}{w w':World}{v:Value}{fo:Fo}{xs:List Value}{k n r:Int}{q:Fo}{B:Option Addr}{c g cap:Nat}(h2:RowK base v.ownBlock w fo xs)(hq:KY base v.ownBlock w B q)(hO:w'.ownsRow base e 4 (.slice (some ⟨g,0,none⟩) (fo.len+1) cap) (fo.len+1) (xs++[.int .i64 k,.int .i64 n,.int .i64 r,.slice B q.len c]))(hG:w.grownBy w' v.ownBlock)(hL:v.ownBlock=some g\/g=w.heap.size):RowP base e w' (.slice (some ⟨g,0,none⟩) (fo.len+1) cap) (fo.snoc k n r q):=by
 have key:∀B q,KY base v.ownBlock w B q->KY base (some g) w' B q:=λB q h=>h.grown hG (hL.elim (λe=>.inl e.symm) (λe=>.inr λk' h=>by cases h;omega))
 exact⟨_,by rw[snoc_len];exact hO,RowK.snoc c (key _ _ hq) (h2.map key)⟩
def Fo.take:Nat->Fo->Fo
 |0,_=>.nil
 |_+1,.nil=>.nil
 |i+1,.cons a b c d rest=>.cons a b c d (rest.take i)
theorem take_succ:∀(i:Nat) (fo:Fo) {k n r:Int} {q rest:Fo},fo.drop i=.cons k n r q rest->fo.take (i+1)=(fo.take i).snoc k n r q
 |i,.nil,_,_,_,_,_,h=>by rw[drop_nil] at h;cases h
 |0,.cons k n r q rest,_,_,_,_,_,h=>by
   injection h with h1 h2 h3 h4 h5
   subst h1 h2 h3 h4
   rfl
 |i+1,.cons k n r q rest,_,_,_,_,_,h=>by
   have:=take_succ i rest h
   rw[Fo.take,this]
   rfl
theorem take_all:∀(i:Nat) (fo:Fo),fo.len<=i->fo.take i=fo
 |0,.nil,_=>rfl
 |_+1,.nil,_=>rfl
 |0,.cons _ _ _ _ _,h=>by simp[Fo.len] at h
 |i+1,.cons a b c d rest,h=>by rw[Fo.take,take_all i rest (by simp[Fo.len] at h;omega)]
theorem take_len:∀(i:Nat) (fo:Fo),i<=fo.len->(fo.take i).len=i
 |0,_,_=>rfl
 |_+1,.nil,h=>by simp[Fo.len] at h
 |i+1,.cons _ _ _ _ rest,h=>by rw[Fo.take,Fo.len,take_len i rest (by simp[Fo.len] at h;omega)]
theorem info_rplan:(Try.prog.info? 29).map (λi=>(i.zero,i.size,i.bytes))=some (some (.agg #[.int .i64 0,.int .i64 0,.int .i64 0,.slice none 0 0]),4,48):=by kernel_rfl
theorem info_plan:(Try.prog.info? 26).map (λi=>(i.zero,i.size,i.bytes))=some (some (.agg #[.int .i64 0,.int .i64 0,.int .i64 0,.slice none 0 0]),4,48):=by kernel_rfl
theorem bs_rplan(a b c d:Value)(w:World):(Instr.buildSlice 27 1 #[(0,.agg #[a,b,c,d])]).run Try.prog w=.ok (.slice (some ⟨w.heap.size,0,none⟩) 1 1) (w.alloc (.cells #[a,b,c,d] 29)):=by
 obtain⟨i0,hi,hz0,hz1,hz2⟩:=info_parts info_rplan
 refine run_buildSlice w 27 29 1 _ #[a,b,c,d] i0 _ Try.underlying27 hi hz0 (by rw[hz1];decide) (by rw[hz1];decide) ?_
 rw[hz1]
 have hr:Array.range 4=#[0,1,2,3]:=by decide
 simp[Instr.fill,Value.cells,hr]
theorem bs_plan(a b c d:Value)(w:World):(Instr.buildSlice 24 1 #[(0,.agg #[a,b,c,d])]).run Try.prog w=.ok (.slice (some ⟨w.heap.size,0,none⟩) 1 1) (w.alloc (.cells #[a,b,c,d] 26)):=by
 obtain⟨i0,hi,hz0,hz1,hz2⟩:=info_parts info_plan
 refine run_buildSlice w 24 26 1 _ #[a,b,c,d] i0 _ Try.underlying24 hi hz0 (by rw[hz1];decide) (by rw[hz1];decide) ?_
 rw[hz1]
 have hr:Array.range 4=#[0,1,2,3]:=by decide
 simp[Instr.fill,Value.cells,hr]
theorem cells_four(w:World)(a b c d:Value)(t:TypeId)(n:Nat)(hn:n=w.heap.size)(j:Nat)(u:Value)(h:[a,b,c,d][j]?=some u):(w.alloc (.cells #[a,b,c,d] t)).cell? ⟨n,j,none⟩=some u:=by
 subst hn
 match j,h with
 |0,h=>simp at h;subst h;simp[go_sem]
 |1,h=>simp at h;subst h;simp[go_sem]
 |2,h=>simp at h;subst h;simp[go_sem]
 |3,h=>simp at h;subst h;simp[go_sem]
 |j+4,h=>simp at h
theorem one_four(k n r:Int)(A:Option Addr)(l c:Nat)(u:Value)(h:u∈[Value.int .i64 k,.int .i64 n,.int .i64 r,.slice A l c]):u.oneCell'=true:=by
 simp only[List.mem_cons,List.not_mem_nil,or_false] at h
 rcases h with rfl|rfl|rfl|rfl<;>rfl
def PlFree(w:World)(b:Nat):Prop:=∀j,j<4->w.frozen? ⟨b,j,none⟩=false
theorem PlFree.keep{w w':World}{b:Nat}(h:PlFree w b)(hb:Below w.heap.size w w')(hl:b<w.heap.size):PlFree w' b:=λj hj=>keep_free hb hl (h j hj)
theorem PlFree.set{w:World}{b:Nat}(h:PlFree w b)(p:Addr)(v:Value):PlFree (w.setCell p v) b:=λj hj=>by rw[World.frozen?_setCell];exact h j hj
theorem PlFree.grown{w w':World}{b:Nat}{row:Option Nat}(h:PlFree w b)(hg:w.grownBy w' row)(hl:b<w.heap.size)(hne:row≠some b):PlFree w' b:=λj hj=>by
 rw[World.frozen?_of_block (w:=w) (a:=⟨b,j,none⟩) (hg.block b hl (Ne.symm hne))];exact h j hj
theorem PlFree.new(w:World)(a b c d:Value)(t:TypeId):PlFree (w.alloc (.cells #[a,b,c,d] t)) w.heap.size:=λj hj=>by simp[go_sem]
theorem PlBox.grown{w w':World}{b:Nat}{row:Option Nat}{kind n r:Int}{A:Option Addr}{l c:Nat}(h:PlBox w b kind n r A l c)(hg:w.grownBy w' row)(hne:row≠some b):PlBox w' b kind n r A l c:=
 ⟨grown_cell hg h.1 hne,grown_cell hg h.2.1 hne,grown_cell hg h.2.2.1 hne,grown_cell hg h.2.2.2 hne⟩
theorem PlBox.other{w:World}{b b' o:Nat}{kind n r:Int}{A:Option Addr}{l c:Nat}(h:PlBox w b kind n r A l c)(u:Value)(hne:b≠b'):PlBox (w.setCell ⟨b',o,none⟩ u) b kind n r A l c:=by
 have e:∀j,(w.setCell ⟨b',o,none⟩ u).cell? ⟨b,j,none⟩=w.cell? ⟨b,j,none⟩:=λj=>by
  rw[World.cell?_setCell_other]
  intro h;exact hne (congrArg Addr.block h).symm
 exact⟨by rw[e];exact h.1,by rw[e];exact h.2.1,by rw[e];exact h.2.2.1,by rw[e];exact h.2.2.2⟩
theorem PlBox.kid{w:World}{b:Nat}{kind n r:Int}{A:Option Addr}{l c:Nat}(h:PlBox w b kind n r A l c)(A':Option Addr)(l' c':Nat):PlBox (w.setCell ⟨b,3,none⟩ (.slice A' l' c')) b kind n r A' l' c':=by
 have e:∀j,j≠3->(w.setCell ⟨b,3,none⟩ (.slice A' l' c')).cell? ⟨b,j,none⟩=w.cell? ⟨b,j,none⟩:=λj hj=>by
  rw[World.cell?_setCell_other]
  intro h;exact hj (congrArg Addr.off h).symm
 exact⟨by rw[e _ (by omega)];exact h.1,by rw[e _ (by omega)];exact h.2.1,by rw[e _ (by omega)];exact h.2.2.1,World.cell?_setCell_same' _ _ _ (by rw[h.2.2.2];rfl)⟩
theorem PlBox.put{w:World}{b:Nat}{kind n r:Int}{A:Option Addr}{l c:Nat}(h:PlBox w b kind n r A l c)(k' n' r':Int)(A':Option Addr)(l' c':Nat):
  PlBox ((((w.setCell ⟨b,0,none⟩ (.int .i64 k')).setCell ⟨b,1,none⟩ (.int .i64 n')).setCell ⟨b,2,none⟩ (.int .i64 r')).setCell ⟨b,3,none⟩ (.slice A' l' c')) b k' n' r' A' l' c':=by
 obtain⟨h0,h1,h2,h3⟩:=h
 have e:∀(W:World) (i j:Nat) (u:Value),i≠j->(W.setCell ⟨b,i,none⟩ u).cell? ⟨b,j,none⟩=W.cell? ⟨b,j,none⟩:=λW i j u hij=>by
  rw[World.cell?_setCell_other]
  intro h;exact hij (congrArg Addr.off h)
 refine⟨?_,?_,?_,?_⟩
 ·rw[e _ _ _ _ (by omega),e _ _ _ _ (by omega),e _ _ _ _ (by omega)]
  exact World.cell?_setCell_same' _ _ _ (by rw[h0];rfl)
 ·rw[e _ _ _ _ (by omega),e _ _ _ _ (by omega)]
  exact World.cell?_setCell_same' _ _ _ (by rw[e _ _ _ _ (by omega),h1];rfl)
 ·rw[e _ _ _ _ (by omega)]
  exact World.cell?_setCell_same' _ _ _ (by rw[e _ _ _ _ (by omega),e _ _ _ _ (by omega),h2];rfl)
 ·exact World.cell?_setCell_same' _ _ _ (by rw[e _ _ _ _ (by omega),e _ _ _ _ (by omega),e _ _ _ _ (by omega),h3];rfl)
theorem below_four{w W:World}{b:Nat}(hB:Below w.heap.size w W)(hb:w.heap.size<=b)(x y z u:Value):Below w.heap.size w ((((W.setCell ⟨b,0,none⟩ x).setCell ⟨b,1,none⟩ y).setCell ⟨b,2,none⟩ z).setCell ⟨b,3,none⟩ u):=
 (((hB.setCell (p:=⟨b,0,none⟩) hb _).setCell (p:=⟨b,1,none⟩) hb _).setCell (p:=⟨b,2,none⟩) hb _).setCell (p:=⟨b,3,none⟩) hb _
theorem KY.set4{base:Nat}{g:Option Nat}{w:World}{B:Option Addr}{q:Fo}(h:KY base g w B q){b:Nat}(x y z u:Value)(hp:b<base):KY base g ((((w.setCell ⟨b,0,none⟩ x).setCell ⟨b,1,none⟩ y).setCell ⟨b,2,none⟩ z).setCell ⟨b,3,none⟩ u) B q:=
 (((h.set x (p:=⟨b,0,none⟩) hp).set y (p:=⟨b,1,none⟩) hp).set z (p:=⟨b,2,none⟩) hp).set u (p:=⟨b,3,none⟩) hp
def PlanRef18(kind n r:Int)(q:Fo):Prop:=q.count<=549755813888->∀(w:World) (A:Option Addr) (c:Nat),Kids w A 0 q->
 Calls Try.prog 20 #[plV kind n r A q.len c] w λz w'=>∃(B:Option Addr) (c':Nat),z=.returned (plV kind n r B q.len c')/\KY w.heap.size none w' B q/\Below w.heap.size w w'
theorem planRef_all18:∀fo:Fo,fo.all PlanRef18:=Fo.all_of λkind n r q ih=>by
 intro hc w A c hk
 have HK:=aZ hk
 have HIH:=aZ ih
 have HC:=aZ hc
 have hql:q.len<=549755813888:=by have:=len_count' q;omega
 clear hk ih hc
 go_enter Try.func20,Try.ntmps20
 go_wp2
 obtain⟨W1,hW1⟩:∃W1,W1=((w.alloc (.cells #[.int .i64 kind,.int .i64 n,.int .i64 r,.slice A q.len c] 26)).alloc (.cells #[.int .i64 0,.int .i64 0,.int .i64 0,.slice none 0 0] 29)).alloc (.cells #[.int .i64 kind,.int .i64 n,.int .i64 r,.slice none 0 0] 29):=⟨_,rfl⟩
 have hb1:Below w.heap.size w W1:=by rw[hW1];exact(((Below.refl _ w).alloc (Nat.le_refl _) _).alloc (by simp) _).alloc (by simp;omega) _
 have hs1:W1.heap.size=w.heap.size+3:=by rw[hW1];simp
 have hq1:PlBox W1 (w.heap.size+2) kind n r none 0 0/\PlFree W1 (w.heap.size+2):=by
  rw[hW1]
  have h1:=PlBox.new ((w.alloc (.cells #[.int .i64 kind,.int .i64 n,.int .i64 r,.slice A q.len c] 26)).alloc (.cells #[.int .i64 0,.int .i64 0,.int .i64 0,.slice none 0 0] 29)) kind n r none 0 0 29
  have h2:=PlFree.new ((w.alloc (.cells #[.int .i64 kind,.int .i64 n,.int .i64 r,.slice A q.len c] 26)).alloc (.cells #[.int .i64 0,.int .i64 0,.int .i64 0,.slice none 0 0] 29)) (.int .i64 kind) (.int .i64 n) (.int .i64 r) (.slice none 0 0) 29
  simp only[World.size_alloc] at h1 h2
  exact⟨h1,h2⟩
 have hr1:PlBox W1 (w.heap.size+1) 0 0 0 none 0 0/\PlFree W1 (w.heap.size+1):=by
  rw[hW1]
  have h1:=(PlBox.new (w.alloc (.cells #[.int .i64 kind,.int .i64 n,.int .i64 r,.slice A q.len c] 26)) 0 0 0 none 0 0 29).below ((Below.refl _ _).alloc (Nat.le_refl _) (.cells #[.int .i64 kind,.int .i64 n,.int .i64 r,.slice none 0 0] 29))
  have h2:=(PlFree.new (w.alloc (.cells #[.int .i64 kind,.int .i64 n,.int .i64 r,.slice A q.len c] 26)) (.int .i64 0) (.int .i64 0) (.int .i64 0) (.slice none 0 0) 29).keep ((Below.refl _ _).alloc (Nat.le_refl _) (.cells #[.int .i64 kind,.int .i64 n,.int .i64 r,.slice none 0 0] 29)) (by simp)
  simp only[World.size_alloc] at h1 h2
  exact⟨h1,h2⟩
 rw[<-hW1]
 clear hW1
 have HB1:=aZ hb1
 have HS1:=aZ hs1
 have HQ1:=aZ hq1
 have HR1:=aZ hr1
 clear hb1 hs1 hq1 hr1
 go_loopw [16] (λvi wr=>∃(i:Nat) (B:Option Addr) (cb:Nat),i<=q.len/\vi=.int .i64 i/\Hid (RowP (w.heap.size+3) 29 wr (.slice B i cb) (q.take i))/\Hid (PlBox wr (w.heap.size+2) kind n r B i cb/\PlFree wr (w.heap.size+2))/\Hid (PlBox wr (w.heap.size+1) 0 0 0 none 0 0/\PlFree wr (w.heap.size+1))/\Hid (w.heap.size+3<=wr.heap.size/\Below w.heap.size w wr)) (λvi _=>q.len-(intOf vi).toNat)
 case atStart=>exact⟨0,none,0,Nat.zero_le _,rfl,aZ (RowP.nil _ _ _),HQ1,HR1,aZ ⟨by rw[HS1.out];exact Nat.le_refl _,HB1.out⟩⟩
 case round=>
  obtain⟨i,B,cb,hi,rfl,hrow,hq,hr,hbw⟩:=hrel
  clear HQ1 HR1 HB1 HS1
  by_cases hlt:i<q.len
  ·have hlti:(i:Int)<(q.len:Int):=by omega
   obtain⟨k',n',r',q',rest,hd⟩:=drop_lt i q hlt
   obtain⟨bA,oA,B',c',rfl,k0,k1,k2,k3,k5⟩:=HK.out.at' hd
   have j0:=keep_cell hbw.out.2 k0
   have j1:=keep_cell hbw.out.2 k1
   have j2:=keep_cell hbw.out.2 k2
   have j3:=keep_cell hbw.out.2 k3
   have HTS:=aZ (take_succ i q hd)
   have HTL:=aZ (take_len i q (by omega))
   have hq'c:q'.count<=549755813888:=by
    have h1:=count_kid hd
    have h2:=upto_all q (i+1)
    have:=HC.out
    omega
   have HE:=aZ (λw' h=>Fo.all_at HIH.out hd hq'c w' B' c' h)
   have HKB:=aZ (k5.below hbw.out.2)
   have bs:=bs_rplan
   clear k0 k1 k2 k3 k5 hd hq'c
   go_upto_region 5 with(fail)
   have hbk:=PlBox.new wr k' n' r' B' q'.len c' 26
   have hbB:Below wr.heap.size wr (wr.alloc (.cells #[.int .i64 k',.int .i64 n',.int .i64 r',.slice B' q'.len c'] 26)):=(Below.refl _ wr).alloc (Nat.le_refl _) _
   obtain⟨Wk,hWk⟩:∃Wk,Wk=wr.alloc (.cells #[.int .i64 k',.int .i64 n',.int .i64 r',.slice B' q'.len c'] 26):=⟨_,rfl⟩
   rw[<-hWk] at hbk hbB|-
   have HBK:Hid (PlBox Wk wr.heap.size k' n' r' B' q'.len c'/\PlBox Wk (w.heap.size+2) kind n r B i cb):=aZ ⟨hbk,hq.out.1.below hbB⟩
   have HBB:=aZ hbB
   obtain⟨bK,hbK⟩:∃bK,wr.heap.size=bK:=⟨_,rfl⟩
   rw[hbK] at HBK|-
   clear hWk hbk hbB j0 j1 j2 j3 hbK
   refine wp_region_T (λw'=>w'.cell? ⟨bK,0,none⟩=some (.int .i64 k')/\w'.cell? ⟨bK,1,none⟩=some (.int .i64 n')/\w'.cell? ⟨bK,2,none⟩=some (.int .i64 r')/\w'.cell? ⟨bK,3,none⟩=some (.slice B' q'.len c')/\w'.cell? ⟨w.heap.size+2,3,none⟩=some (.slice B i cb)) 5 ⟨HBK.out.1.1,HBK.out.1.2.1,HBK.out.1.2.2.1,HBK.out.1.2.2.2,HBK.out.2.2.2.2⟩ (λhS0=>?_)
   refine Takes.intro [0,1,2] ?_
   repeat(refine Takes.go (v:=?_) hS0 ?_;try simp only[nrm,Act.put])
   refine Takes.nil ?_
   refine wpAnyS_1 3 (λK hK=>?_)
   go_simp
   refine(HE.out _ (HKB.out.below (HBB.out.trans (Below.refl _ Wk).drew))).mono ?_
   rintro z w3 ⟨Bn,cn,rfl,hky,hb3⟩
   have HKY:=aZ hky
   have HB3:Hid (Below Wk.heap.size Wk w3):=aZ ((Below.refl _ Wk).drew.trans hb3)
   have hS1:(λw'=>w'.cell? ⟨bK,0,none⟩=some (.int .i64 k')/\w'.cell? ⟨bK,1,none⟩=some (.int .i64 n')/\w'.cell? ⟨bK,2,none⟩=some (.int .i64 r')/\w'.cell? ⟨bK,3,none⟩=some (.slice B' q'.len c')/\w'.cell? ⟨w.heap.size+2,3,none⟩=some (.slice B i cb)) w3:=⟨keep_cell HB3.out hS0.1,keep_cell HB3.out hS0.2.1,keep_cell HB3.out hS0.2.2.1,keep_cell HB3.out hS0.2.2.2.1,keep_cell HB3.out hS0.2.2.2.2⟩
   clear hky hb3
   refine hK.out _ _ (λ_=>hS1) ?_
   clear hK K
   try simp only[nrm,Act.put]
   refine wpAnyS_1 4 (λK hK=>?_)
   go_simp
   obtain⟨w4,hw4⟩:∃w4,w4=w3.alloc (.cells #[.int .i64 k',.int .i64 n',.int .i64 r',.slice Bn q'.len cn] 29):=⟨_,rfl⟩
   have hbn:Below w3.heap.size w3 w4:=by rw[hw4];exact(Below.refl _ w3).alloc (Nat.le_refl _) _
   have HNEW:Hid (∀j u,[Value.int .i64 k',.int .i64 n',.int .i64 r',.slice Bn q'.len cn][j]?=some u->w4.cell? ⟨w3.heap.size,j,none⟩=some u):=aZ (by rw[hw4];exact cells_four _ _ _ _ _ _ _ rfl)
   rw[<-hw4]
   have HKY4:=aZ (HKY.out.below hbn)
   have HB4:Hid (Below Wk.heap.size Wk w4):=aZ (HB3.out.trans (hbn.mono HB3.out.size))
   have hS2:(λw'=>w'.cell? ⟨bK,0,none⟩=some (.int .i64 k')/\w'.cell? ⟨bK,1,none⟩=some (.int .i64 n')/\w'.cell? ⟨bK,2,none⟩=some (.int .i64 r')/\w'.cell? ⟨bK,3,none⟩=some (.slice B' q'.len c')/\w'.cell? ⟨w.heap.size+2,3,none⟩=some (.slice B i cb)) w4:=⟨keep_cell hbn hS1.1,keep_cell hbn hS1.2.1,keep_cell hbn hS1.2.2.1,keep_cell hbn hS1.2.2.2.1,keep_cell hbn hS1.2.2.2.2⟩
   have HBN:=aZ hbn
   clear hbn hw4
   refine hK.out _ _ (λ_=>hS2) ?_
   clear hK K
   try simp only[nrm,Act.put]
   refine wpAnyS_fin 3 5 ?_
   simp only[nrd]
   have HB5:Hid (Below wr.heap.size wr w4):=aZ (HBB.out.trans (HB4.out.mono HBB.out.size))
   obtain⟨xs,hO,hRK⟩:=hrow.out.below HB5.out
   have HRK:=aZ hRK
   have HRO:=aZ hO
   have HT4:Hid (∀k,k<w.heap.size+3->(Value.slice B i cb).ownBlock≠some k):=aZ (λk hk e=>by have:=(hrow.out.lt k e).1;omega)
   have HQ4:Hid (PlBox w4 (w.heap.size+2) kind n r B i cb/\PlFree w4 (w.heap.size+2)):=aZ ⟨hq.out.1.below HB5.out,hq.out.2.keep HB5.out (by have:=hbw.out.1;omega)⟩
   have HR4:Hid (PlBox w4 (w.heap.size+1) 0 0 0 none 0 0/\PlFree w4 (w.heap.size+1)):=aZ ⟨hr.out.1.below HB5.out,hr.out.2.keep HB5.out (by have:=hbw.out.1;omega)⟩
   have HB6:Hid (w.heap.size+3<=w4.heap.size/\Below w.heap.size w w4):=aZ ⟨by have:=hbw.out.1;have:=HB5.out.size;omega,hbw.out.2.trans (HB5.out.mono (by have:=hbw.out.1;omega))⟩
   have HKQ:Hid (KY (w.heap.size+3) (Value.slice B i cb).ownBlock w4 Bn q'):=aZ ((HKY4.out.low (λk e=>by have:=(hrow.out.lt k e).2;have:=HBB.out.size;show k<Wk.heap.size;omega)).mono (by have:=hbw.out.1;have:=HBB.out.size;show w.heap.size+3<=Wk.heap.size;omega))
   rw[HTL.out] at HRO
   have hi40:i+1<=1099511627776:=by omega
   have hs4:=HB6.out.1
   clear hO hRK hrow hS2 hS1 hS0 HBK HKY4 HKY HB3 HB4 HBB hq hr hbw HB5 HKB HE
   go_wp2_with (at_builtin;refine wpList_appL rfl _ _ 27 29 rfl 4 48 (.agg #[.int .i64 0,.int .i64 0,.int .i64 0,.slice none 0 0]) Try.underlying27 info_rplan rfl (by omega) (by omega) (w.heap.size+3) (.slice B i cb) i xs rfl HRO.out _ _ [.int .i64 k',.int .i64 n',.int .i64 r',.slice Bn q'.len cn] rfl rfl HNEW.out (one_four _ _ _ _ _ _) hi40 hs4 ?_;intro g2 cap2 w5 hO2 hG2 hL2;obtain⟨a0,a1,a2,a3⟩:=HQ4.out.1.grown hG2.out (HT4.out _ (by omega));have hf5:=(HQ4.out.2.grown hG2.out (by omega) (HT4.out _ (by omega))) 3 (by omega))
   have hRN:=RowP.snoc HRK.out HKQ.out (by rw[HTL.out];exact hO2.out) hG2.out hL2.out
   rw[HTL.out,<-HTS.out] at hRN
   have HRN:=aZ (hRN.set (b:=w.heap.size+2) (o:=3) (.slice (some ⟨g2,0,none⟩) (i+1) cap2) (by omega))
   have HQN:Hid (PlBox (w5.setCell ⟨w.heap.size+2,3,none⟩ (.slice (some ⟨g2,0,none⟩) (i+1) cap2)) (w.heap.size+2) kind n r (some ⟨g2,0,none⟩) (i+1) cap2/\PlFree (w5.setCell ⟨w.heap.size+2,3,none⟩ (.slice (some ⟨g2,0,none⟩) (i+1) cap2)) (w.heap.size+2)):=aZ ⟨PlBox.kid ⟨a0,a1,a2,a3⟩ _ _ _,(HQ4.out.2.grown hG2.out (by omega) (HT4.out _ (by omega))).set _ _⟩
   have HRR:Hid (PlBox (w5.setCell ⟨w.heap.size+2,3,none⟩ (.slice (some ⟨g2,0,none⟩) (i+1) cap2)) (w.heap.size+1) 0 0 0 none 0 0/\PlFree (w5.setCell ⟨w.heap.size+2,3,none⟩ (.slice (some ⟨g2,0,none⟩) (i+1) cap2)) (w.heap.size+1)):=aZ ⟨(HR4.out.1.grown hG2.out (HT4.out _ (by omega))).other _ (by omega),(HR4.out.2.grown hG2.out (by omega) (HT4.out _ (by omega))).set _ _⟩
   have HBN2:Hid (w.heap.size+3<=(w5.setCell ⟨w.heap.size+2,3,none⟩ (.slice (some ⟨g2,0,none⟩) (i+1) cap2)).heap.size/\Below w.heap.size w (w5.setCell ⟨w.heap.size+2,3,none⟩ (.slice (some ⟨g2,0,none⟩) (i+1) cap2))):=aZ ⟨by have:=hG2.out.size;simp[World.setCell];omega,(HB6.out.2.grown hG2.out (by omega) (λk e=>by
    rcases Nat.lt_or_ge k (w.heap.size+3) with h|h
    ·exact absurd e (HT4.out k h)
    ·omega)).setCell (p:=⟨w.heap.size+2,3,none⟩) (by show w.heap.size<=w.heap.size+2;omega) _⟩
   clear hRN hO2 hG2 hL2 a0 a1 a2 a3 hf5 HRK HRO HQ4 HR4 HKQ HT4 HB6
   exact⟨⟨i+1,_,_,by omega,by first|rfl|go_num,HRN,HQN,HRR,HBN2⟩,by simp[intOf];omega⟩
  ·obtain rfl:i=q.len:=by omega
   have HRW:=aZ hrow.out
   rw[take_all _ _ (Nat.le_refl _)] at HRW
   obtain⟨A2,c2,hA2,hKY⟩:=HRW.out.form
   have hA3:B=A2/\cb=c2:=by
    injection hA2 with h1 h2 h3
    exact⟨h1,h3⟩
   obtain⟨rfl,rfl⟩:=hA3
   obtain⟨q0,q1,q2,q3⟩:=hq.out.1
   obtain⟨r0,r1,r2,r3⟩:=hr.out.1
   have hf0:=hr.out.2 0 (by omega)
   have hf1:=hr.out.2 1 (by omega)
   have hf2:=hr.out.2 2 (by omega)
   have hf3:=hr.out.2 3 (by omega)
   have HKY:=aZ (hKY.mono (show w.heap.size<=w.heap.size+3 by omega))
   have HKZ:=aZ hKY
   clear hKY hA2 HRW hrow
   go_wp2
   obtain⟨s0,s1,s2,s3⟩:=hr.out.1.put kind n r B q.len cb
   refine bodyPost_ret (v:=plV kind n r B q.len cb) (by simp[results,Try.results20,go_sem,s0,s1,s2,s3]) rfl ⟨B,cb,rfl,?_,below_four hbw.out.2 (by omega) _ _ _ _⟩
   exact(HKZ.out.set4 _ _ _ _ (show w.heap.size+1<w.heap.size+3 by omega)).mono (by omega)
def PlanRef19(kind n r:Int)(q:Fo):Prop:=q.count<=549755813888->∀(w:World) (A:Option Addr) (c:Nat),Kids w A 0 q->
 Calls Try.prog 34 #[plV kind n r A q.len c] w λz w'=>∃(B:Option Addr) (c':Nat),z=.returned (plV kind n r B q.len c')/\KY w.heap.size none w' B q/\Below w.heap.size w w'
theorem planRef_all19:∀fo:Fo,fo.all PlanRef19:=Fo.all_of λkind n r q ih=>by
 intro hc w A c hk
 have HK:=aZ hk
 have HIH:=aZ ih
 have HC:=aZ hc
 have hql:q.len<=549755813888:=by have:=len_count' q;omega
 clear hk ih hc
 go_enter Try.func34,Try.ntmps34
 go_wp2
 obtain⟨W1,hW1⟩:∃W1,W1=((w.alloc (.cells #[.int .i64 kind,.int .i64 n,.int .i64 r,.slice A q.len c] 26)).alloc (.cells #[.int .i64 0,.int .i64 0,.int .i64 0,.slice none 0 0] 29)).alloc (.cells #[.int .i64 kind,.int .i64 n,.int .i64 r,.slice none 0 0] 29):=⟨_,rfl⟩
 have hb1:Below w.heap.size w W1:=by rw[hW1];exact(((Below.refl _ w).alloc (Nat.le_refl _) _).alloc (by simp) _).alloc (by simp;omega) _
 have hs1:W1.heap.size=w.heap.size+3:=by rw[hW1];simp
 have hq1:PlBox W1 (w.heap.size+2) kind n r none 0 0/\PlFree W1 (w.heap.size+2):=by
  rw[hW1]
  have h1:=PlBox.new ((w.alloc (.cells #[.int .i64 kind,.int .i64 n,.int .i64 r,.slice A q.len c] 26)).alloc (.cells #[.int .i64 0,.int .i64 0,.int .i64 0,.slice none 0 0] 29)) kind n r none 0 0 29
  have h2:=PlFree.new ((w.alloc (.cells #[.int .i64 kind,.int .i64 n,.int .i64 r,.slice A q.len c] 26)).alloc (.cells #[.int .i64 0,.int .i64 0,.int .i64 0,.slice none 0 0] 29)) (.int .i64 kind) (.int .i64 n) (.int .i64 r) (.slice none 0 0) 29
  simp only[World.size_alloc] at h1 h2
  exact⟨h1,h2⟩
 have hr1:PlBox W1 (w.heap.size+1) 0 0 0 none 0 0/\PlFree W1 (w.heap.size+1):=by
  rw[hW1]
  have h1:=(PlBox.new (w.alloc (.cells #[.int .i64 kind,.int .i64 n,.int .i64 r,.slice A q.len c] 26)) 0 0 0 none 0 0 29).below ((Below.refl _ _).alloc (Nat.le_refl _) (.cells #[.int .i64 kind,.int .i64 n,.int .i64 r,.slice none 0 0] 29))
  have h2:=(PlFree.new (w.alloc (.cells #[.int .i64 kind,.int .i64 n,.int .i64 r,.slice A q.len c] 26)) (.int .i64 0) (.int .i64 0) (.int .i64 0) (.slice none 0 0) 29).keep ((Below.refl _ _).alloc (Nat.le_refl _) (.cells #[.int .i64 kind,.int .i64 n,.int .i64 r,.slice none 0 0] 29)) (by simp)
  simp only[World.size_alloc] at h1 h2
  exact⟨h1,h2⟩
 rw[<-hW1]
 clear hW1
 have HB1:=aZ hb1
 have HS1:=aZ hs1
 have HQ1:=aZ hq1
 have HR1:=aZ hr1
 clear hb1 hs1 hq1 hr1
 go_loopw [16] (λvi wr=>∃(i:Nat) (B:Option Addr) (cb:Nat),i<=q.len/\vi=.int .i64 i/\Hid (RowP (w.heap.size+3) 29 wr (.slice B i cb) (q.take i))/\Hid (PlBox wr (w.heap.size+2) kind n r B i cb/\PlFree wr (w.heap.size+2))/\Hid (PlBox wr (w.heap.size+1) 0 0 0 none 0 0/\PlFree wr (w.heap.size+1))/\Hid (w.heap.size+3<=wr.heap.size/\Below w.heap.size w wr)) (λvi _=>q.len-(intOf vi).toNat)
 case atStart=>exact⟨0,none,0,Nat.zero_le _,rfl,aZ (RowP.nil _ _ _),HQ1,HR1,aZ ⟨by rw[HS1.out];exact Nat.le_refl _,HB1.out⟩⟩
 case round=>
  obtain⟨i,B,cb,hi,rfl,hrow,hq,hr,hbw⟩:=hrel
  clear HQ1 HR1 HB1 HS1
  by_cases hlt:i<q.len
  ·have hlti:(i:Int)<(q.len:Int):=by omega
   obtain⟨k',n',r',q',rest,hd⟩:=drop_lt i q hlt
   obtain⟨bA,oA,B',c',rfl,k0,k1,k2,k3,k5⟩:=HK.out.at' hd
   have j0:=keep_cell hbw.out.2 k0
   have j1:=keep_cell hbw.out.2 k1
   have j2:=keep_cell hbw.out.2 k2
   have j3:=keep_cell hbw.out.2 k3
   have HTS:=aZ (take_succ i q hd)
   have HTL:=aZ (take_len i q (by omega))
   have hq'c:q'.count<=549755813888:=by
    have h1:=count_kid hd
    have h2:=upto_all q (i+1)
    have:=HC.out
    omega
   have HE:=aZ (λw' h=>Fo.all_at HIH.out hd hq'c w' B' c' h)
   have HKB:=aZ (k5.below hbw.out.2)
   have bs:=bs_rplan
   clear k0 k1 k2 k3 k5 hd hq'c
   go_upto_region 5 with(fail)
   have hbk:=PlBox.new wr k' n' r' B' q'.len c' 26
   have hbB:Below wr.heap.size wr (wr.alloc (.cells #[.int .i64 k',.int .i64 n',.int .i64 r',.slice B' q'.len c'] 26)):=(Below.refl _ wr).alloc (Nat.le_refl _) _
   obtain⟨Wk,hWk⟩:∃Wk,Wk=wr.alloc (.cells #[.int .i64 k',.int .i64 n',.int .i64 r',.slice B' q'.len c'] 26):=⟨_,rfl⟩
   rw[<-hWk] at hbk hbB|-
   have HBK:Hid (PlBox Wk wr.heap.size k' n' r' B' q'.len c'/\PlBox Wk (w.heap.size+2) kind n r B i cb):=aZ ⟨hbk,hq.out.1.below hbB⟩
   have HBB:=aZ hbB
   obtain⟨bK,hbK⟩:∃bK,wr.heap.size=bK:=⟨_,rfl⟩
   rw[hbK] at HBK|-
   clear hWk hbk hbB j0 j1 j2 j3 hbK
   refine wp_region_T (λw'=>w'.cell? ⟨bK,0,none⟩=some (.int .i64 k')/\w'.cell? ⟨bK,1,none⟩=some (.int .i64 n')/\w'.cell? ⟨bK,2,none⟩=some (.int .i64 r')/\w'.cell? ⟨bK,3,none⟩=some (.slice B' q'.len c')/\w'.cell? ⟨w.heap.size+2,3,none⟩=some (.slice B i cb)) 5 ⟨HBK.out.1.1,HBK.out.1.2.1,HBK.out.1.2.2.1,HBK.out.1.2.2.2,HBK.out.2.2.2.2⟩ (λhS0=>?_)
   refine Takes.intro [0,1,2] ?_
   repeat(refine Takes.go (v:=?_) hS0 ?_;try simp only[nrm,Act.put])
   refine Takes.nil ?_
   refine wpAnyS_1 3 (λK hK=>?_)
   go_simp
   refine(HE.out _ (HKB.out.below (HBB.out.trans (Below.refl _ Wk).drew))).mono ?_
   rintro z w3 ⟨Bn,cn,rfl,hky,hb3⟩
   have HKY:=aZ hky
   have HB3:Hid (Below Wk.heap.size Wk w3):=aZ ((Below.refl _ Wk).drew.trans hb3)
   have hS1:(λw'=>w'.cell? ⟨bK,0,none⟩=some (.int .i64 k')/\w'.cell? ⟨bK,1,none⟩=some (.int .i64 n')/\w'.cell? ⟨bK,2,none⟩=some (.int .i64 r')/\w'.cell? ⟨bK,3,none⟩=some (.slice B' q'.len c')/\w'.cell? ⟨w.heap.size+2,3,none⟩=some (.slice B i cb)) w3:=⟨keep_cell HB3.out hS0.1,keep_cell HB3.out hS0.2.1,keep_cell HB3.out hS0.2.2.1,keep_cell HB3.out hS0.2.2.2.1,keep_cell HB3.out hS0.2.2.2.2⟩
   clear hky hb3
   refine hK.out _ _ (λ_=>hS1) ?_
   clear hK K
   try simp only[nrm,Act.put]
   refine wpAnyS_1 4 (λK hK=>?_)
   go_simp
   obtain⟨w4,hw4⟩:∃w4,w4=w3.alloc (.cells #[.int .i64 k',.int .i64 n',.int .i64 r',.slice Bn q'.len cn] 29):=⟨_,rfl⟩
   have hbn:Below w3.heap.size w3 w4:=by rw[hw4];exact(Below.refl _ w3).alloc (Nat.le_refl _) _
   have HNEW:Hid (∀j u,[Value.int .i64 k',.int .i64 n',.int .i64 r',.slice Bn q'.len cn][j]?=some u->w4.cell? ⟨w3.heap.size,j,none⟩=some u):=aZ (by rw[hw4];exact cells_four _ _ _ _ _ _ _ rfl)
   rw[<-hw4]
   have HKY4:=aZ (HKY.out.below hbn)
   have HB4:Hid (Below Wk.heap.size Wk w4):=aZ (HB3.out.trans (hbn.mono HB3.out.size))
   have hS2:(λw'=>w'.cell? ⟨bK,0,none⟩=some (.int .i64 k')/\w'.cell? ⟨bK,1,none⟩=some (.int .i64 n')/\w'.cell? ⟨bK,2,none⟩=some (.int .i64 r')/\w'.cell? ⟨bK,3,none⟩=some (.slice B' q'.len c')/\w'.cell? ⟨w.heap.size+2,3,none⟩=some (.slice B i cb)) w4:=⟨keep_cell hbn hS1.1,keep_cell hbn hS1.2.1,keep_cell hbn hS1.2.2.1,keep_cell hbn hS1.2.2.2.1,keep_cell hbn hS1.2.2.2.2⟩
   have HBN:=aZ hbn
   clear hbn hw4
   refine hK.out _ _ (λ_=>hS2) ?_
   clear hK K
   try simp only[nrm,Act.put]
   refine wpAnyS_fin 3 5 ?_
   simp only[nrd]
   have HB5:Hid (Below wr.heap.size wr w4):=aZ (HBB.out.trans (HB4.out.mono HBB.out.size))
   obtain⟨xs,hO,hRK⟩:=hrow.out.below HB5.out
   have HRK:=aZ hRK
   have HRO:=aZ hO
   have HT4:Hid (∀k,k<w.heap.size+3->(Value.slice B i cb).ownBlock≠some k):=aZ (λk hk e=>by have:=(hrow.out.lt k e).1;omega)
   have HQ4:Hid (PlBox w4 (w.heap.size+2) kind n r B i cb/\PlFree w4 (w.heap.size+2)):=aZ ⟨hq.out.1.below HB5.out,hq.out.2.keep HB5.out (by have:=hbw.out.1;omega)⟩
   have HR4:Hid (PlBox w4 (w.heap.size+1) 0 0 0 none 0 0/\PlFree w4 (w.heap.size+1)):=aZ ⟨hr.out.1.below HB5.out,hr.out.2.keep HB5.out (by have:=hbw.out.1;omega)⟩
   have HB6:Hid (w.heap.size+3<=w4.heap.size/\Below w.heap.size w w4):=aZ ⟨by have:=hbw.out.1;have:=HB5.out.size;omega,hbw.out.2.trans (HB5.out.mono (by have:=hbw.out.1;omega))⟩
   have HKQ:Hid (KY (w.heap.size+3) (Value.slice B i cb).ownBlock w4 Bn q'):=aZ ((HKY4.out.low (λk e=>by have:=(hrow.out.lt k e).2;have:=HBB.out.size;show k<Wk.heap.size;omega)).mono (by have:=hbw.out.1;have:=HBB.out.size;show w.heap.size+3<=Wk.heap.size;omega))
   rw[HTL.out] at HRO
   have hi40:i+1<=1099511627776:=by omega
   have hs4:=HB6.out.1
   clear hO hRK hrow hS2 hS1 hS0 HBK HKY4 HKY HB3 HB4 HBB hq hr hbw HB5 HKB HE
   go_wp2_with (at_builtin;refine wpList_appL rfl _ _ 27 29 rfl 4 48 (.agg #[.int .i64 0,.int .i64 0,.int .i64 0,.slice none 0 0]) Try.underlying27 info_rplan rfl (by omega) (by omega) (w.heap.size+3) (.slice B i cb) i xs rfl HRO.out _ _ [.int .i64 k',.int .i64 n',.int .i64 r',.slice Bn q'.len cn] rfl rfl HNEW.out (one_four _ _ _ _ _ _) hi40 hs4 ?_;intro g2 cap2 w5 hO2 hG2 hL2;obtain⟨a0,a1,a2,a3⟩:=HQ4.out.1.grown hG2.out (HT4.out _ (by omega));have hf5:=(HQ4.out.2.grown hG2.out (by omega) (HT4.out _ (by omega))) 3 (by omega))
   have hRN:=RowP.snoc HRK.out HKQ.out (by rw[HTL.out];exact hO2.out) hG2.out hL2.out
   rw[HTL.out,<-HTS.out] at hRN
   have HRN:=aZ (hRN.set (b:=w.heap.size+2) (o:=3) (.slice (some ⟨g2,0,none⟩) (i+1) cap2) (by omega))
   have HQN:Hid (PlBox (w5.setCell ⟨w.heap.size+2,3,none⟩ (.slice (some ⟨g2,0,none⟩) (i+1) cap2)) (w.heap.size+2) kind n r (some ⟨g2,0,none⟩) (i+1) cap2/\PlFree (w5.setCell ⟨w.heap.size+2,3,none⟩ (.slice (some ⟨g2,0,none⟩) (i+1) cap2)) (w.heap.size+2)):=aZ ⟨PlBox.kid ⟨a0,a1,a2,a3⟩ _ _ _,(HQ4.out.2.grown hG2.out (by omega) (HT4.out _ (by omega))).set _ _⟩
   have HRR:Hid (PlBox (w5.setCell ⟨w.heap.size+2,3,none⟩ (.slice (some ⟨g2,0,none⟩) (i+1) cap2)) (w.heap.size+1) 0 0 0 none 0 0/\PlFree (w5.setCell ⟨w.heap.size+2,3,none⟩ (.slice (some ⟨g2,0,none⟩) (i+1) cap2)) (w.heap.size+1)):=aZ ⟨(HR4.out.1.grown hG2.out (HT4.out _ (by omega))).other _ (by omega),(HR4.out.2.grown hG2.out (by omega) (HT4.out _ (by omega))).set _ _⟩
   have HBN2:Hid (w.heap.size+3<=(w5.setCell ⟨w.heap.size+2,3,none⟩ (.slice (some ⟨g2,0,none⟩) (i+1) cap2)).heap.size/\Below w.heap.size w (w5.setCell ⟨w.heap.size+2,3,none⟩ (.slice (some ⟨g2,0,none⟩) (i+1) cap2))):=aZ ⟨by have:=hG2.out.size;simp[World.setCell];omega,(HB6.out.2.grown hG2.out (by omega) (λk e=>by
    rcases Nat.lt_or_ge k (w.heap.size+3) with h|h
    ·exact absurd e (HT4.out k h)
    ·omega)).setCell (p:=⟨w.heap.size+2,3,none⟩) (by show w.heap.size<=w.heap.size+2;omega) _⟩
   clear hRN hO2 hG2 hL2 a0 a1 a2 a3 hf5 HRK HRO HQ4 HR4 HKQ HT4 HB6
   exact⟨⟨i+1,_,_,by omega,by first|rfl|go_num,HRN,HQN,HRR,HBN2⟩,by simp[intOf];omega⟩
  ·obtain rfl:i=q.len:=by omega
   have HRW:=aZ hrow.out
   rw[take_all _ _ (Nat.le_refl _)] at HRW
   obtain⟨A2,c2,hA2,hKY⟩:=HRW.out.form
   have hA3:B=A2/\cb=c2:=by
    injection hA2 with h1 h2 h3
    exact⟨h1,h3⟩
   obtain⟨rfl,rfl⟩:=hA3
   obtain⟨q0,q1,q2,q3⟩:=hq.out.1
   obtain⟨r0,r1,r2,r3⟩:=hr.out.1
   have hf0:=hr.out.2 0 (by omega)
   have hf1:=hr.out.2 1 (by omega)
   have hf2:=hr.out.2 2 (by omega)
   have hf3:=hr.out.2 3 (by omega)
   have HKY:=aZ (hKY.mono (show w.heap.size<=w.heap.size+3 by omega))
   have HKZ:=aZ hKY
   clear hKY hA2 HRW hrow
   go_wp2
   obtain⟨s0,s1,s2,s3⟩:=hr.out.1.put kind n r B q.len cb
   refine bodyPost_ret (v:=plV kind n r B q.len cb) (by simp[results,Try.results34,go_sem,s0,s1,s2,s3]) rfl ⟨B,cb,rfl,?_,below_four hbw.out.2 (by omega) _ _ _ _⟩
   exact(HKZ.out.set4 _ _ _ _ (show w.heap.size+1<w.heap.size+3 by omega)).mono (by omega)
end Go.Proofs.Yteaimnemobnknaa
