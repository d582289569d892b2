/- pick and planOf: a plan, and whether it can be. -/
import Derived.Test.YteaimnemobnknaaD3L18
import Derived.Test.YteaimnemobnknaaMC6
set_option linter.unusedSimpArgs false
set_option linter.unusedVariables false
namespace Go.Proofs.Yteaimnemobnknaa
open Go.RowKit Go.Lib

theorem cand_blue {n : Nat} {k r : Int} (h : Cand n true k r) : k ≠ 4 := by
  rcases h with ⟨h, _⟩ | ⟨h, _⟩ | ⟨h, _⟩ | ⟨h, _⟩ | ⟨_, _, h, _⟩
  · omega
  · omega
  · omega
  · omega
  · cases h
theorem pick_blue18 : ∀ n : Nat, 1 ≤ n → n ≤ 32768 → PickC18 n true := by
  intro n
  induction n using Nat.strongRecOn with
  | ind n ih =>
    intro h1 hn
    refine pick_step18 n true h1 hn fun k r hc x hx => ?_
    obtain ⟨m, rfl, hm1, hm2, hm⟩ := cand_wants hc h1 hn x hx
    refine ⟨m, rfl, hm1, ?_⟩
    rcases hm with h4 | hlt
    · exact absurd h4 (cand_blue hc)
    · exact ih m hlt hm1 hm2
theorem pick_all18 : ∀ n : Nat, 1 ≤ n → n ≤ 32768 → PickC18 n false := by
  intro n
  induction n using Nat.strongRecOn with
  | ind n ih =>
    intro h1 hn
    refine pick_step18 n false h1 hn fun k r hc x hx => ?_
    obtain ⟨m, rfl, hm1, hm2, hm⟩ := cand_wants hc h1 hn x hx
    refine ⟨m, rfl, hm1, ?_⟩
    by_cases h4 : k = 4
    · subst h4
      exact pick_blue18 m hm1 hm2
    · have e : (false || k == 4) = false := by simpa using h4
      rw [e]
      exact ih m (hm.resolve_left h4) hm1 hm2

set_option maxRecDepth 100000 in
set_option maxHeartbeats 4000000 in
theorem planOf18 (n : Nat) (h1 : 1 ≤ n) (hn : n ≤ 32768) (Ac : Option Addr) (nc cc : Nat) (f : Nat → Int) (w : World) (hI : IntsAt w Ac nc f) (hnc : nc ≤ 1125899906842624) :
    Calls Try.prog 18 #[.int .i64 n, .slice Ac nc cc] w fun z w' => ∃ (kind r : Int) (q : Fo) (Bk : Option Addr) (ck : Nat), z = .returned (.tuple #[plV kind n r Bk q.len ck, .bool (decide (checkE kind n r q n = 0))]) ∧ q.count ≤ 524288 ∧ Kids w' Bk 0 q ∧ Below w.heap.size w w' := by
  have hcap : capN false n ≤ 524288 := by unfold capN; simp; omega
  obtain ⟨W1, hW1⟩ : ∃ W1, W1 = ((w.alloc (.cells #[.int .i64 0, .int .i64 0, .int .i64 0, .slice none 0 0] 26)).alloc (.cells #[.int .i64 0] 3)).alloc (.cells #[.int .i64 40] 3) := ⟨_, rfl⟩
  have hb1 : Below w.heap.size w W1 := by rw [hW1]; exact (((Below.refl _ w).alloc (Nat.le_refl _) _).alloc (by simp) _).alloc (by simp; omega) _
  have hs1 : W1.heap.size = w.heap.size + 3 := by rw [hW1]; simp
  have hx1 : IntBox W1 (w.heap.size + 1) 0 := by rw [hW1]; exact ⟨by go_simp, by go_simp⟩
  have hx2 : IntBox W1 (w.heap.size + 2) 40 := by rw [hW1]; exact ⟨by go_simp, by go_simp⟩
  have hx0 : PlBox W1 w.heap.size 0 0 0 none 0 0 ∧ PlFree W1 w.heap.size := by
    rw [hW1]
    have hb : Below (w.alloc (.cells #[.int .i64 0, .int .i64 0, .int .i64 0, .slice none 0 0] 26)).heap.size (w.alloc (.cells #[.int .i64 0, .int .i64 0, .int .i64 0, .slice none 0 0] 26)) (((w.alloc (.cells #[.int .i64 0, .int .i64 0, .int .i64 0, .slice none 0 0] 26)).alloc (.cells #[.int .i64 0] 3)).alloc (.cells #[.int .i64 40] 3)) := ((Below.refl _ _).alloc (Nat.le_refl _) _).alloc (by simp) _
    exact ⟨(PlBox.new w 0 0 0 none 0 0 _).below hb, (PlFree.new w _ _ _ _ _).keep hb (by simp)⟩
  have HP : Hid (PkH W1 (w.heap.size + 1) (w.heap.size + 2) Ac nc) := Lib.hid ⟨by omega, by omega, by omega, fun h0 b o e => by have := hI.block h0 b o e; omega⟩
  have HC := Lib.hid (pick_all18 n h1 hn W1 Ac nc cc f (w.heap.size + 1) (w.heap.size + 2) 0 40 (hI.keep hb1) hnc hx1 hx2 HP.out (by omega) (by omega) (by omega) (by omega))
  have HX := Lib.hid hx0
  have HB1 := Lib.hid hb1
  have HS1 := Lib.hid hs1
  have HSZ := Lib.hid hs1
  clear hb1 hs1 hx1 hx2 hx0 HP hI
  go_enter Try.func18, Try.ntmps18
  go_wp2_with fail
  rw [← hW1]
  refine HC.out.mono ?_
  rintro z w2 ⟨kind, r, q, Bk, ck, a', l', rfl, hq, hky, ho, ha, hl, -⟩
  have HKY := Lib.hid hky
  have hs2 : w.heap.size + 3 ≤ w2.heap.size := by have := ho.size; rw [HS1.out] at this; exact this
  have HB2 : Hid (Below w.heap.size w w2) := Lib.hid (HB1.out.trans (ho.below (by omega) (by omega) (by rw [HS1.out]; omega)))
  have HX2 : Hid (PlBox w2 w.heap.size 0 0 0 none 0 0 ∧ PlFree w2 w.heap.size) := Lib.hid (by
    have e := ho.block w.heap.size (by rw [HS1.out]; omega) (by omega) (by omega)
    exact ⟨HX.out.1.same e, HX.out.2.same e⟩)
  have hqc : q.count ≤ 524288 := by omega
  clear hW1 hky ho ha hl HC HX HB1 HS1
  go_upto_region 3 with fail
  obtain ⟨W3, hW3⟩ : ∃ W3, W3 = w2.alloc (.cells #[.int .i64 kind, .int .i64 n, .int .i64 r, .slice Bk q.len ck] 26) := ⟨_, rfl⟩
  have hb3 : Below w2.heap.size w2 W3 := by rw [hW3]; exact (Below.refl _ w2).alloc (Nat.le_refl _) _
  have hp3 := PlBox.new w2 kind n r Bk q.len ck 26
  rw [← hW3] at hp3 ⊢
  have HP3 := Lib.hid hp3
  have HKD : Hid (Kids W3 Bk 0 q) := Lib.hid (HKY.out.kids.below hb3)
  have HB3 : Hid (Below w.heap.size w W3) := Lib.hid (HB2.out.trans (hb3.mono (by omega)))
  have HX3 : Hid (PlBox W3 w.heap.size 0 0 0 none 0 0 ∧ PlFree W3 w.heap.size) := Lib.hid ⟨HX2.out.1.below hb3, HX2.out.2.keep hb3 (by omega)⟩
  have hs3 : w.heap.size + 3 ≤ W3.heap.size := by have := hb3.size; omega
  obtain ⟨bp, hbp⟩ : ∃ bp, w2.heap.size = bp := ⟨_, rfl⟩
  rw [hbp] at hp3 HP3 hs2 ⊢
  have HKY3 := Lib.hid (HKY.out.below hb3)
  obtain ⟨p0, p1, p2, p3⟩ := hp3
  have HPR := Lib.hid ((planRef_all18 (.cons kind n r q .nil)).1 (by omega) W3 Bk ck HKD.out)
  clear hW3 hb3 hbp HB2 HX2 HKY
  go_wp2_with fail
  refine HPR.out.mono ?_
  rintro z w4 ⟨B4, c4, rfl, hky4, hb4⟩
  have HC4 := Lib.hid (RCheck_any kind n r q n (by omega) w4 B4 c4 hky4.kids)
  have HB4 : Hid (Below w.heap.size w w4) := Lib.hid (HB3.out.trans (hb4.mono (by omega)))
  have HP4 := Lib.hid (HP3.out.below hb4)
  have HX4 : Hid (PlBox w4 w.heap.size 0 0 0 none 0 0 ∧ PlFree w4 w.heap.size) := Lib.hid ⟨HX3.out.1.below hb4, HX3.out.2.keep hb4 (by omega)⟩
  have HK4 := Lib.hid (HKD.out.below hb4)
  have hs4 : w.heap.size + 3 ≤ w4.heap.size := by have := hb4.size; omega
  have HKY4 := Lib.hid (HKY3.out.below hb4)
  clear hb4 hky4 p0 p1 p2 p3 HPR HB3 HP3 HX3 HKD hs3 HKY3
  go_wp2_with fail
  refine HC4.out.mono ?_
  rintro z w5 ⟨⟨at0, rfl⟩, hb5⟩
  have HB5 : Hid (Below w.heap.size w w5) := Lib.hid (HB4.out.trans (hb5.mono (by omega)))
  have hp5 := HP4.out.below hb5
  have HX5 : Hid (PlBox w5 w.heap.size 0 0 0 none 0 0 ∧ PlFree w5 w.heap.size) := Lib.hid ⟨HX4.out.1.below hb5, HX4.out.2.keep hb5 (by omega)⟩
  have HKY5 := Lib.hid (HKY4.out.below hb5)
  obtain ⟨p0, p1, p2, p3⟩ := hp5
  obtain ⟨⟨q0, q1, q2, q3⟩, hfr⟩ := HX5.out
  have hf0 := hfr 0 (by omega)
  have hf1 := hfr 1 (by omega)
  have hf2 := hfr 2 (by omega)
  have hf3 := hfr 3 (by omega)
  have HPUT := Lib.hid (HX5.out.1.put kind n r Bk q.len ck)
  have HBF := Lib.hid (below_four HB5.out (Nat.le_refl _) (.int .i64 kind) (.int .i64 n) (.int .i64 r) (.slice Bk q.len ck))
  have HKF := Lib.hid (HKY5.out.set4 (.int .i64 kind) (.int .i64 n) (.int .i64 r) (.slice Bk q.len ck) (show w.heap.size < _ by rw [show W1.heap.size = w.heap.size + 3 from HSZ.out]; omega))
  obtain ⟨e, he⟩ : ∃ e, checkE kind n r q n = e := ⟨_, rfl⟩
  have hdd : decide (e = 0) = (e == 0) := by cases h : (e == 0) <;> simp_all
  have HE := Lib.hid he
  clear hfr
  rw [he]
  clear he
  go_wp2_with fail
  obtain ⟨s0, s1, s2, s3⟩ := HPUT.out
  refine bodyPost_ret (v := .tuple #[plV kind n r Bk q.len ck, .bool (e == 0)]) (by simp [results, Try.results18, go_sem, s0, s1, s2, s3]) rfl ⟨kind, r, q, Bk, ck, by rw [HE.out, hdd], hqc, HKF.out.kids, HBF.out⟩
end Go.Proofs.Yteaimnemobnknaa
