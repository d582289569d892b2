/- The walk of IndexThere. -/
import Derived.Test.YtkjnlgbpfpkjhaaP5
import Derived.Test.YtkjnlgbpfpkjhaaB15
import Derived.Test.YtkjnlgbpfpkjhaaB18
set_option linter.unusedSimpArgs false
set_option linter.unusedVariables false
namespace Go.Proofs.Ytkjnlgbpfpkjhaa
open Go.RowKit

/-- A block of three integers. -/
def Tri (w : World) (b : Nat) (x y z : Int) : Prop := w.cell? ⟨b, 0, none⟩ = some (.int .i64 x) ∧ w.cell? ⟨b, 1, none⟩ = some (.int .i64 y) ∧ w.cell? ⟨b, 2, none⟩ = some (.int .i64 z)
theorem Tri.keep {W w1 : World} {b : Nat} {x y z : Int} (hb : Below W.heap.size W w1) (h : Tri W b x y z) : Tri w1 b x y z := ⟨keep_cell hb h.1, keep_cell hb h.2.1, keep_cell hb h.2.2⟩
theorem Tri.keepAt {c : Nat} {W w1 : World} {b : Nat} {x y z : Int} (hb : Below c W w1) (hc : b < c) (h : Tri W b x y z) : Tri w1 b x y z :=
  ⟨(hb.cell (p := ⟨b, 0, none⟩) hc).trans h.1, (hb.cell (p := ⟨b, 1, none⟩) hc).trans h.2.1, (hb.cell (p := ⟨b, 2, none⟩) hc).trans h.2.2⟩
theorem Tri.new (w : World) (x y z : Int) (t : TypeId) : Tri (w.alloc (.cells #[.int .i64 x, .int .i64 y, .int .i64 z] t)) w.heap.size x y z := ⟨by simp [go_sem], by simp [go_sem], by simp [go_sem]⟩

theorem IntsAt.keepAt {c : Nat} {W w1 : World} {A : Option Addr} {n : Nat} {f : Nat → Int} (hb : Below c W w1) (hc : 0 < n → ∀ b o, A = some ⟨b, o, none⟩ → b < c) (h : IntsAt W A n f) : IntsAt w1 A n f := fun i hi => by
  obtain ⟨b, o, e, hcell⟩ := h i hi
  exact ⟨b, o, e, (hb.cell (p := ⟨b, o + i, none⟩) (hc (by omega) b o e)).trans hcell⟩

set_option maxRecDepth 100000 in
set_option maxHeartbeats 1000000 in
theorem there_no (A : Option Addr) (n c : Nat) (x y z e : Int) (w : World) (hn : n ≤ 17592186044416) (hs : y ≤ 9223372036854775807) (hcn : z ≤ 9223372036854775807) (h : Str n x y z e) (he : e ≠ 0) :
    Calls Try.prog 9 #[.slice A n c, .agg #[.int .i64 x, .int .i64 y, .int .i64 z]] w fun z w' => z = .returned (.bool true) ∧ Below w.heap.size w w' := by
  have HG := Lib.hid (fun w => Gather_no A n c x y z e w hn hs hcn h he)
  have h0 : (e != 0) = true := by rw [bne_iff_ne]; exact he
  have HT := Lib.hid (Tri.new w x y z 51)
  obtain ⟨t0, t1, t2⟩ := HT.out
  clear h he
  go_enter Try.func9, Try.ntmps9
  go_wp2_with fail
  refine (HG.out _).mono ?_
  rintro v w' ⟨rfl, rfl⟩
  go_wp2_with fail
  refine (wakes_any _).mono ?_
  rintro v w1 ⟨rfl, hb1⟩
  have HB1 : Hid (Below w.heap.size w w1) := Lib.hid (((Below.refl _ w).alloc (Nat.le_refl _) _).trans (hb1.mono (by simp)))
  clear hb1 t0 t1 t2
  go_wp2_with fail
  refine (wakes_any _).mono ?_
  rintro v w2 ⟨rfl, hb2⟩
  have HB2 := Lib.hid (HB1.out.trans (hb2.mono HB1.out.size))
  clear hb2
  go_wp2
  go_ret
  exact ⟨rfl, HB2.out⟩

theorem wrap_ne (v : Int) : wrap64 (v + 1) ≠ v := by unfold wrap64; omega

/-- One more, as the machine has it. -/
def inc (f : Nat → Int) (off st : Int) : Nat → Int := fun k => wrap64 (gath f off st k + 1)

theorem scat_inc {f : Nat → Int} {off st : Int} {m y : Nat} (h1 : 0 ≤ off) (h3 : 1 ≤ st) (h : hit off st m y) : scat f (inc f off st) off st m y = wrap64 (f y + 1) := by
  have e := scat_gath (f := f) (m := m) h1 h3 y
  unfold scat at e ⊢
  rw [if_pos h] at e ⊢
  unfold inc
  rw [e]
theorem scat_else {f g : Nat → Int} {off st : Int} {m y : Nat} (h : ¬ hit off st m y) : scat f g off st m y = f y := by unfold scat; rw [if_neg h]

set_option maxRecDepth 100000 in
set_option maxHeartbeats 4000000 in
theorem there_ok (A : Option Addr) (n c m : Nat) (x y : Int) (f : Nat → Int) (w : World) (hA : IntsAt w A n f) (hc : A = none → c = 0) (hn : n ≤ 17592186044416) (hn0 : 0 < n) (h1 : 0 ≤ x) (h3 : 1 ≤ y) (hs : y ≤ 9223372036854775807) (h : Fits n x y m) :
    Calls Try.prog 9 #[.slice A n c, .agg #[.int .i64 x, .int .i64 y, .int .i64 m]] w fun z w' => z = .returned (.bool true) ∧ Below w.heap.size w w' := by
  have hm := fits_le h h1 h3 (by omega)
  have H := Lib.hid h
  have HT := Lib.hid (Tri.new w x y m 51)
  have HA := Lib.hid (hA.alloc (.cells #[.int .i64 x, .int .i64 y, .int .i64 m] 51))
  have HL : Hid (∀ b o, A = some ⟨b, o, none⟩ → b < w.heap.size) := Lib.hid (hA.block hn0)
  have HC := Lib.hid hc
  have HB0 : Hid (Below w.heap.size w (w.alloc (.cells #[.int .i64 x, .int .i64 y, .int .i64 m] 51))) := Lib.hid ((Below.refl _ w).alloc (Nat.le_refl _) _)
  obtain ⟨t0, t1, t2⟩ := HT.out
  clear hA h hc
  go_enter Try.func9, Try.ntmps9
  go_wp2_with fail
  obtain ⟨W0, hW0⟩ : ∃ W0, W0 = w.alloc (.cells #[.int .i64 x, .int .i64 y, .int .i64 m] 51) := ⟨_, rfl⟩
  have hz0 : W0.heap.size = w.heap.size + 1 := by rw [hW0]; simp
  rw [← hW0] at HT HA HB0 t0 t1 t2 ⊢
  have HZ0 := Lib.hid hz0
  clear hW0 hz0
  refine (Gather_ok A n c m x y f _ HA.out hn h1 h3 hs H.out).mono ?_
  rintro v w1 ⟨bG, rfl, ⟨hg, hgl⟩, hr1, hb1⟩
  have HR1 := Lib.hid hr1
  have HA1 := Lib.hid (HA.out.keep hb1)
  have HT1 := Lib.hid (HT.out.keep hb1)
  have HB1 := Lib.hid (HB0.out.trans (hb1.mono HB0.out.size))
  have hz1 : w.heap.size < w1.heap.size := by have := hb1.size; have := HZ0.out; omega
  have hgz : w.heap.size < bG := by have := HZ0.out; omega
  clear hr1 hb1 hg HT HA HB0 t0 t1 t2
  go_wp2_with fail
  refine (wakes_any _).mono ?_
  rintro v w2 ⟨rfl, hb2⟩
  have HR2 := Lib.hid (HR1.out.keep hb2)
  have HA2 := Lib.hid (HA1.out.keep hb2)
  have HT2 := Lib.hid (HT1.out.keep hb2)
  have HB2 := Lib.hid (HB1.out.trans (hb2.mono HB1.out.size))
  have hz2 : w1.heap.size ≤ w2.heap.size := hb2.size
  clear hb2 HR1 HA1 HT1 HB1
  go_wp2_with (at_builtin; refine wpList_cat rfl _ _ rfl rfl A n c f rfl HA2.out HC.out (by omega) ?_; intro A1 c1 w3 h1' h2'; obtain ⟨b1, hb1, rfl, hr3⟩ := h1'.out.resolve_left (by omega); have HT3 := Lib.hid (HT2.out.keep h2'.out); obtain ⟨t0, t1, t2⟩ := HT3.out)
  have HO3 := Lib.hid hr3
  have HR3 := Lib.hid (HR2.out.keep h2'.out)
  have HA3 := Lib.hid (HA2.out.keep h2'.out)
  have HB3 := Lib.hid (HB2.out.trans (h2'.out.mono HB2.out.size))
  have hz3 : w2.heap.size ≤ w3.heap.size := h2'.out.size
  have hl1 : b1 < w3.heap.size := World.block_lt_of_cell? _ _ (hr3 0 hn0).1
  have hne : bG ≠ b1 := by omega
  clear h1' h2' hr3 HR2 HA2 HT2 HB2
  refine (Scatter_ok b1 n c1 _ m m x y f (gath f x y) _ HO3.out HR3.out.ints (fun h0 b' o e => by cases e; exact hne) hn h1 h3 hs H.out).mono ?_
  rintro v w4 ⟨rfl, hr4, ho4⟩
  have HO4 : Hid (Row w4 b1 n f) := Lib.hid (hr4.congr fun i hi => scat_gath h1 h3 i)
  have HB34 := Lib.hid (ho4.below (c := b1) (Nat.le_refl _) (by omega))
  have HA4 := Lib.hid (HA3.out.keepAt HB34.out (fun _ b o e => by have := HL.out b o e; omega))
  have HT4 := Lib.hid (HT3.out.keepAt HB34.out (by omega))
  have HR4 : Hid (Row w4 bG m (gath f x y)) := Lib.hid (HR3.out.only ho4 hne)
  have HB4 : Hid (Below w.heap.size w w4) := Lib.hid (HB3.out.trans (ho4.below (by omega) (by omega)))
  have hz4 : w3.heap.size ≤ w4.heap.size := ho4.size
  clear hr4 ho4 HB34 HA3 HT3 HR3 HB3 HO3 t0 t1 t2
  go_wp2_with fail
  refine (same_below _ _ n _ _ f _ HO4.out.ints HA4.out (by omega)).mono ?_
  rintro v w5 ⟨rfl, hb5⟩
  have HO5 := Lib.hid (HO4.out.keep hb5)
  have HA5 := Lib.hid (HA4.out.keep hb5)
  have HT5 := Lib.hid (HT4.out.keep hb5)
  have HR5 : Hid (Row w5 bG m (gath f x y)) := Lib.hid (HR4.out.keep hb5)
  have HB5 := Lib.hid (HB4.out.trans (hb5.mono HB4.out.size))
  have hz5 : w4.heap.size ≤ w5.heap.size := hb5.size
  clear hb5 HO4 HA4 HT4 HR4 HB4
  go_wp2
  go_loopw [8, 52] (fun q i wr => ∃ k : Nat, k ≤ m ∧ i = .int .i64 k ∧ Hid (Row wr bG m (fun j => if j < k then inc f x y j else gath f x y j)) ∧ Hid (OnlyB bG w5 wr)) (fun _ i _ => m - (intOf i).toNat)
  case atStart => exact ⟨0, by omega, rfl, Lib.hid (HR5.out.congr fun i hi => by simp), Lib.hid (OnlyB.refl _ _)⟩
  case round =>
    obtain ⟨k, hk, rfl, hr, ho⟩ := hrel
    by_cases hlt : k < m
    · have hki : (k : Int) < m := by omega
      obtain ⟨r1, r2⟩ := hr.out k hlt
      simp only [Nat.lt_irrefl, if_false] at r1
      have HI : Hid (inc f x y k = wrap64 (gath f x y k + 1)) := Lib.hid rfl
      have HS := Lib.hid ((hr.out.set hlt (inc f x y k)).congr (g := fun j => if j < k + 1 then inc f x y j else gath f x y j) fun i hi => by
        unfold upd
        by_cases e : i = k
        · rw [if_pos e, if_pos (by omega), e]
        · rw [if_neg e]
          by_cases e2 : i < k
          · simp [e2, show i < k + 1 from by omega]
          · simp [e2, show ¬ i < k + 1 from by omega])
      have HO2 := Lib.hid (ho.out.setCell k none (.int .i64 (inc f x y k)))
      obtain ⟨u, hu⟩ : ∃ u, gath f x y k = u := ⟨_, rfl⟩
      rw [hu] at r1 HI
      rw [HI.out] at HS HO2
      clear hu
      go_wp2
      exact ⟨⟨k + 1, by omega, by go_num, HS, HO2⟩, by simp [intOf]; omega⟩
    · obtain rfl : k = m := by omega
      have HR6 : Hid (Row wr bG k (inc f x y)) := Lib.hid (hr.out.congr fun i hi => by simp [hi])
      have HO6 := Lib.hid (HO5.out.only ho.out (Ne.symm hne))
      have HB56 := Lib.hid (ho.out.below (c := w.heap.size + 1) (by omega) (by omega))
      have HA6 := Lib.hid (HA5.out.keepAt HB56.out (fun _ b o e => by have := HL.out b o e; omega))
      have HT6 := Lib.hid (HT5.out.keepAt HB56.out (by omega))
      have HB6 : Hid (Below w.heap.size w wr) := Lib.hid (HB5.out.trans (ho.out.below (by omega) (by omega)))
      have hz6 : w5.heap.size ≤ wr.heap.size := ho.out.size
      obtain ⟨t0, t1, t2⟩ := HT6.out
      clear hr ho HO5 HA5 HT5 HR5 HB5 HB56 hlt hk
      go_wp2_with fail
      refine (Scatter_ok b1 n c1 _ k k x y f (inc f x y) _ HO6.out HR6.out.ints (fun h0 b' o e => by cases e; exact hne) hn h1 h3 hs H.out).mono ?_
      rintro v w7 ⟨rfl, hr7, ho7⟩
      have HR7 := Lib.hid hr7
      have HA7 := Lib.hid (HA6.out.keepAt (ho7.below (c := b1) (Nat.le_refl _) (by omega)) (fun _ b o e => by have := HL.out b o e; omega))
      have HB7 : Hid (Below w.heap.size w w7) := Lib.hid (HB6.out.trans (ho7.below (by omega) (by omega)))
      clear hr7 ho7 HR6 HO6 HA6 HT6 HB6 t0 t1 t2
      have HC7 := Lib.hid (cntH_all h1 h3 k H.out)
      go_wp2
      go_loopw [9, 10, 72] (fun q r i wr => ∃ j : Nat, j ≤ n ∧ i = .int .i64 j ∧ q = .int .i64 (cntH x y k j) ∧ Hid (∃ s, wr = w7.drewN s)) (fun _ _ i _ => n - (intOf i).toNat)
      case atStart => exact ⟨0, by omega, rfl, rfl, Lib.hid ⟨0, rfl⟩⟩
      case round =>
        obtain ⟨j, hj, rfl, rfl, hw⟩ := hrel
        by_cases hlt : j < n
        · have hji : (j : Int) < n := by omega
          obtain ⟨s, hs7⟩ := hw.out
          subst hs7
          obtain ⟨b, o, rfl, hc⟩ := HA7.out j hlt
          obtain ⟨r1, r2⟩ := HR7.out j hlt
          have hcl := cntH_le x y k j
          by_cases hh : hit x y k j
          · have hne2 := wrap_ne (f j)
            rw [scat_inc h1 h3 hh] at r1
            have HN : Hid (((cntH x y k (j + 1) : Nat) : Int) = (cntH x y k j : Int) + 1) := Lib.hid (by
              show ((cntH x y k j + (if hit x y k j then 1 else 0) : Nat) : Int) = _
              rw [if_pos hh]; omega)
            obtain ⟨u, hu⟩ : ∃ u, f j = u := ⟨_, rfl⟩
            rw [hu] at r1 hc hne2
            obtain ⟨u', hu'⟩ : ∃ u', wrap64 (u + 1) = u' := ⟨_, rfl⟩
            rw [hu'] at r1 hne2
            obtain ⟨d, hd⟩ : ∃ d, cntH x y k j = d := ⟨_, rfl⟩
            rw [hd] at hcl HN ⊢
            have hb1' : (u' != u) = true := by rw [bne_iff_ne]; exact hne2
            have k1 : (w7.drewN s).cell? ⟨b1, j, none⟩ = some (.int .i64 u') := r1
            have k2 : (w7.drewN s).cell? ⟨b, o + j, none⟩ = some (.int .i64 u) := hc
            clear hu hu' hh hd hne2
            go_wp2_with fail
            go_quiet (fail)
            go_wp2
            exact ⟨⟨j + 1, by omega, by go_num, by rw [HN.out], Lib.hid ⟨s + nq, rfl⟩⟩, by simp [intOf]; omega⟩
          · rw [scat_else hh] at r1
            have HN : Hid (cntH x y k (j + 1) = cntH x y k j) := Lib.hid (by
              show cntH x y k j + (if hit x y k j then 1 else 0) = _
              rw [if_neg hh]; omega)
            obtain ⟨u, hu⟩ : ∃ u, f j = u := ⟨_, rfl⟩
            rw [hu] at r1 hc
            obtain ⟨d, hd⟩ : ∃ d, cntH x y k j = d := ⟨_, rfl⟩
            rw [hd] at hcl HN ⊢
            have k1 : (w7.drewN s).cell? ⟨b1, j, none⟩ = some (.int .i64 u) := r1
            have k2 : (w7.drewN s).cell? ⟨b, o + j, none⟩ = some (.int .i64 u) := hc
            clear hu hh hd
            go_wp2_with fail
            go_quiet (fail)
            go_wp2
            exact ⟨⟨j + 1, by omega, by go_num, by rw [HN.out], Lib.hid ⟨s + nq, rfl⟩⟩, by simp [intOf]; omega⟩
        · obtain rfl : j = n := by omega
          rw [HC7.out]
          obtain ⟨s, hs7⟩ := hw.out
          subst hs7
          go_wp2
          go_ret
          exact ⟨rfl, HB7.out.trans ((below_drewN w7 s).mono HB7.out.size)⟩
set_option maxRecDepth 100000 in
set_option maxHeartbeats 4000000 in
theorem there_nil (A : Option Addr) (c : Nat) (x y : Int) (w : World) (hc : A = none → c = 0) (h1 : 0 ≤ x) (h3 : 1 ≤ y) (hs : y ≤ 9223372036854775807) :
    Calls Try.prog 9 #[.slice A 0 c, .agg #[.int .i64 x, .int .i64 y, .int .i64 0]] w fun z w' => z = .returned (.bool true) ∧ Below w.heap.size w w' := by
  have HT := Lib.hid (Tri.new w x y 0 51)
  have HC := Lib.hid hc
  have HB0 : Hid (Below w.heap.size w (w.alloc (.cells #[.int .i64 x, .int .i64 y, .int .i64 0] 51))) := Lib.hid ((Below.refl _ w).alloc (Nat.le_refl _) _)
  obtain ⟨t0, t1, t2⟩ := HT.out
  clear hc
  go_enter Try.func9, Try.ntmps9
  go_wp2_with fail
  refine (Gather_ok A 0 c 0 x y (fun _ => 0) _ (IntsAt.nil _ _ _) (by omega) h1 h3 hs (.inl rfl)).mono ?_
  rintro v w1 ⟨bG, rfl, ⟨hg, hgl⟩, hr1, hb1⟩
  have HT1 := Lib.hid (HT.out.keep hb1)
  have HB1 := Lib.hid (HB0.out.trans (hb1.mono HB0.out.size))
  clear hr1 hb1 hg hgl HT HB0 t0 t1 t2
  go_wp2_with fail
  refine (wakes_any _).mono ?_
  rintro v w2 ⟨rfl, hb2⟩
  have HT2 := Lib.hid (HT1.out.keep hb2)
  have HB2 := Lib.hid (HB1.out.trans (hb2.mono HB1.out.size))
  clear hb2 HT1 HB1
  go_wp2_with (at_builtin; refine wpList_cat rfl _ _ rfl rfl A 0 c (fun _ => 0) rfl (IntsAt.nil _ _ _) HC.out (by omega) ?_; intro A1 c1 w3 h1' h2'; have HT3 := Lib.hid (HT2.out.keep h2'.out); obtain ⟨t0, t1, t2⟩ := HT3.out)
  have HB3 := Lib.hid (HB2.out.trans (h2'.out.mono HB2.out.size))
  clear h1' h2' HT2 HB2
  refine (Scatter_nil A1 0 c1 _ 0 x y _ (by omega) h1 h3 hs).mono ?_
  rintro v w' ⟨rfl, rfl⟩
  go_wp2_with fail
  refine (same_below _ _ 0 _ _ (fun _ => 0) _ (IntsAt.nil _ _ _) (IntsAt.nil _ _ _) (by omega)).mono ?_
  rintro v w5 ⟨rfl, hb5⟩
  have HT5 := Lib.hid (HT3.out.keep hb5)
  have HB5 := Lib.hid (HB3.out.trans (hb5.mono HB3.out.size))
  clear hb5 HT3 HB3 t0 t1 t2
  obtain ⟨t0, t1, t2⟩ := HT5.out
  go_wp2
  go_loop [8, 52] (fun q i => i = .int .i64 0) (fun _ _ => 0)
  case atStart => rfl
  case round =>
    obtain rfl := hrel
    go_wp2_with fail
    refine (Scatter_nil A1 0 c1 _ 0 x y _ (by omega) h1 h3 hs).mono ?_
    rintro v w' ⟨rfl, rfl⟩
    go_wp2
    go_loop [9, 10, 72] (fun q r i => i = .int .i64 0 ∧ q = .int .i64 0) (fun _ _ _ => 0)
    case atStart => exact ⟨rfl, rfl⟩
    case round =>
      obtain ⟨rfl, rfl⟩ := hrel
      go_wp2
      go_ret
      exact ⟨rfl, HB5.out⟩

theorem indexThere_all (A : Option Addr) (n c : Nat) (f : Nat → Int) (x y z : Int) (w : World) (hA : IntsAt w A n f) (hn : n ≤ 17592186044416) (hc : A = none → c = 0) (hy : y ≤ 9223372036854775807) (hz : z ≤ 9223372036854775807) :
    Calls Try.prog 9 #[.slice A n c, .agg #[.int .i64 x, .int .i64 y, .int .i64 z]] w fun z w' => z = .returned (.bool true) ∧ Below w.heap.size w w' := by
  obtain ⟨e, he⟩ := str_ex n x y z
  cases he with
  | arg h => exact there_no A n c x y z 2 w hn hy hz (.arg h) (by decide)
  | len h1 h2 h3 h => exact there_no A n c x y z 4 w hn hy hz (.len h1 h2 h3 h) (by decide)
  | ok h1 h2 h3 h =>
    obtain ⟨m, rfl⟩ := Int.eq_ofNat_of_zero_le h2
    by_cases hn0 : n = 0
    · subst hn0
      have := fits_le h h1 h3 (by omega)
      obtain rfl : m = 0 := by omega
      exact there_nil A c x y w hc h1 h3 hy
    · exact there_ok A n c m x y f w hA hc hn (by omega) h1 h3 hy h
end Go.Proofs.Ytkjnlgbpfpkjhaa
