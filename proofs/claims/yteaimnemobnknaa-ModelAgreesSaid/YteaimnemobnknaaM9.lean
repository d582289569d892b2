/- slices.Equal; a field for two plans. -/
import Derived.Test.YteaimnemobnknaaMM1
set_option linter.unusedSimpArgs false
set_option linter.unusedVariables false
namespace Go.Proofs.Yteaimnemobnknaa
open Go.RowKit Go.Lib

set_option maxRecDepth 100000 in
set_option maxHeartbeats 2000000 in
theorem Equal_any (A A' : Option Addr) (n c m c' : Nat) (f g : Nat → Int) (w : World) (hA : IntsAt w A n f) (hA' : IntsAt w A' m g) (hn : n ≤ 1125899906842624) (hm : m ≤ 1125899906842624) :
    Calls Try.prog 73 #[.slice A n c, .slice A' m c'] w fun z w' => z = .returned (.bool (sameB2 n m f g)) ∧ Qt w w' := by
  have HA := Lib.hid hA
  have HA' := Lib.hid hA'
  clear hA hA'
  by_cases hnm : n = m
  · subst hnm
    go_enter Try.func73, Try.ntmps73
    go_wp2
    go_loopw [5, 13] (fun _ vi wr => ∃ k : Nat, k ≤ n ∧ vi = .int .i64 k ∧ Hid (∀ i, i < k → f i = g i) ∧ Hid (Qt w wr)) (fun _ vi _ => n - (intOf vi).toNat)
    case atStart => exact ⟨0, Nat.zero_le _, rfl, Lib.hid (fun i hi => by omega), Lib.hid (Qt.refl w)⟩
    case round =>
      obtain ⟨k, hk, rfl, he, hq⟩ := hrel
      by_cases hlt : k < n
      · have hki : (k : Int) < n := by omega
        obtain ⟨b1, o1, rfl, c1⟩ := HA.out.keep hq.out.below k hlt
        obtain ⟨b2, o2, rfl, c2⟩ := HA'.out.keep hq.out.below k hlt
        go_upto_region 6 with fail
        refine wp_region_S (fun w' => w'.cell? ⟨b1, o1 + k, none⟩ = some (.int .i64 (f k)) ∧ w'.cell? ⟨b2, o2 + k, none⟩ = some (.int .i64 (g k))) 8 (by kernel_rfl) ?_
        have hS0 := (⟨c1, c2⟩ : (fun w' => w'.cell? ⟨b1, o1 + k, none⟩ = some (.int .i64 (f k)) ∧ w'.cell? ⟨b2, o2 + k, none⟩ = some (.int .i64 (g k))) wr.drew)
        refine wpAnyS_take (i := 0) (v := ?_) (by kernel_rfl) rfl (fun _ _ _ h => h) rfl hS0 (fun w hSw => by (try dsimp only at hSw); go_simp; try with_reducible rfl) ?_
        try simp only [List.getElem_toArray, List.getElem_cons_zero, List.getElem_cons_succ, Act.put, List.setIfInBounds_toArray, List.set_cons_zero, List.set_cons_succ]
        refine wpAnyS_take (i := 1) (v := ?_) (by kernel_rfl) rfl (fun _ _ _ h => h) rfl hS0 (fun w hSw => by (try dsimp only at hSw); go_simp; try with_reducible rfl) ?_
        try simp only [List.getElem_toArray, List.getElem_cons_zero, List.getElem_cons_succ, Act.put, List.setIfInBounds_toArray, List.set_cons_zero, List.set_cons_succ]
        refine wpAnyS_take (i := 2) (v := ?_) (by kernel_rfl) rfl (fun _ _ _ h => h) rfl hS0 (fun w hSw => by (try dsimp only at hSw); go_simp; try with_reducible rfl) ?_
        try simp only [List.getElem_toArray, List.getElem_cons_zero, List.getElem_cons_succ, Act.put, List.setIfInBounds_toArray, List.set_cons_zero, List.set_cons_succ]
        refine wpAnyS_take (i := 3) (v := ?_) (by kernel_rfl) rfl (fun _ _ _ h => h) rfl hS0 (fun w hSw => by (try dsimp only at hSw); go_simp; try with_reducible rfl) ?_
        try simp only [List.getElem_toArray, List.getElem_cons_zero, List.getElem_cons_succ, Act.put, List.setIfInBounds_toArray, List.set_cons_zero, List.set_cons_succ]
        refine wpAnyS_take (i := 4) (v := ?_) (by kernel_rfl) rfl (fun _ _ _ h => h) rfl hS0 (fun w hSw => by (try dsimp only at hSw); go_simp; try with_reducible rfl) ?_
        try simp only [List.getElem_toArray, List.getElem_cons_zero, List.getElem_cons_succ, Act.put, List.setIfInBounds_toArray, List.set_cons_zero, List.set_cons_succ]
        refine wpAnyS_take (i := 5) (v := ?_) (by kernel_rfl) rfl (fun _ _ _ h => h) rfl hS0 (fun w hSw => by (try dsimp only at hSw); go_simp; try with_reducible rfl) ?_
        try simp only [List.getElem_toArray, List.getElem_cons_zero, List.getElem_cons_succ, Act.put, List.setIfInBounds_toArray, List.set_cons_zero, List.set_cons_succ]
        refine wpAnyS_take (i := 6) (v := ?_) (by kernel_rfl) rfl (fun _ _ _ h => h) rfl hS0 (fun w hSw => by (try dsimp only at hSw); go_simp; try with_reducible rfl) ?_
        try simp only [List.getElem_toArray, List.getElem_cons_zero, List.getElem_cons_succ, Act.put, List.setIfInBounds_toArray, List.set_cons_zero, List.set_cons_succ]
        refine wpAnyS_take (i := 7) (v := ?_) (by kernel_rfl) rfl (fun _ _ _ h => h) rfl hS0 (fun w hSw => by (try dsimp only at hSw); go_simp; try with_reducible rfl) ?_
        try simp only [List.getElem_toArray, List.getElem_cons_zero, List.getElem_cons_succ, Act.put, List.setIfInBounds_toArray, List.set_cons_zero, List.set_cons_succ]
        refine wpAnyS_end 1 8 (by kernel_rfl) (by decide) rfl ?_
        simp only [List.toList_toArray, List.drop_succ_cons, List.drop_zero]
        clear hS0
        have HQ : Hid (Qt w wr.drew) := Lib.hid (hq.out.trans ⟨1, rfl⟩)
        by_cases hfg : f k = g k
        · have hb : (f k != g k) = false := by simp [hfg]
          have HE : Hid (∀ i, i < k + 1 → f i = g i) := Lib.hid (fun i hi => by
            by_cases h : i = k
            · rw [h]; exact hfg
            · exact he.out i (by omega))
          clear c1 c2 hfg
          go_wp2
          exact ⟨⟨k + 1, by omega, by go_num, HE, HQ⟩, by simp [intOf]; omega⟩
        · have hb : (f k != g k) = true := by simp [hfg]
          have hs : sameB2 n n f g = false := by
            unfold sameB2
            exact decide_eq_false (fun h => hfg (h.2 k hlt))
          clear c1 c2
          go_wp2
          go_ret
          exact ⟨by rw [hs]; rfl, HQ.out⟩
      · obtain rfl : k = n := by omega
        have hs : sameB2 k k f g = true := by
          unfold sameB2
          exact decide_eq_true ⟨rfl, he.out⟩
        go_wp2
        go_ret
        exact ⟨by rw [hs]; rfl, hq.out⟩
  · have hnb : ¬ (n : Int) = m := by omega
    have hs : sameB2 n m f g = false := by
      unfold sameB2
      exact decide_eq_false (fun h => hnm h.1)
    rw [hs]
    go_enter Try.func73, Try.ntmps73
    go_wp2
    go_ret
    exact ⟨rfl, Qt.refl w⟩

/-- The least common multiple of two plans' orders, and the error. -/
def bothR (x y : Nat × Int) : Nat × Int := if x.2 ≠ 0 then (0, x.2) else if y.2 ≠ 0 then (0, y.2) else if (lcmF x.1 y.1 1099511627776).2 = true then ((lcmF x.1 y.1 1099511627776).1, 0) else (0, 28)
set_option maxRecDepth 100000 in
set_option maxHeartbeats 4000000 in
theorem both_any (k1 n1 r1 : Int) (q1 : Fo) (k2 n2 r2 : Int) (q2 : Fo) (hN1 : q1.count ≤ 549755813888) (hN2 : q2.count ≤ 549755813888) (w : World) (A1 A2 : Option Addr) (c1 c2 : Nat) (hk1 : Kids w A1 0 q1) (hk2 : Kids w A2 0 q2)
    (h1 : (ordR k1 n1 r1 q1).2 = 0 → 1 ≤ (ordR k1 n1 r1 q1).1 ∧ (ordR k1 n1 r1 q1).1 ≤ 1099511627776) (h2 : (ordR k2 n2 r2 q2).2 = 0 → 1 ≤ (ordR k2 n2 r2 q2).1 ∧ (ordR k2 n2 r2 q2).1 ≤ 1099511627776)
    (hF : (bothR (ordR k1 n1 r1 q1) (ordR k2 n2 r2 q2)).2 = 0 → ∃ Q, FieldQ (bothR (ordR k1 n1 r1 q1) (ordR k2 n2 r2 q2)).1 Q) :
    Calls Try.prog 72 #[plV k1 n1 r1 A1 q1.len c1, plV k2 n2 r2 A2 q2.len c2] w fun z w' => ∃ Q V O : Nat, z = .returned (.tuple #[rgV Q V O, .int .i64 (bothR (ordR k1 n1 r1 q1) (ordR k2 n2 r2 q2)).2]) ∧ ((bothR (ordR k1 n1 r1 q1) (ordR k2 n2 r2 q2)).2 = 0 → O = (bothR (ordR k1 n1 r1 q1) (ordR k2 n2 r2 q2)).1 ∧ FieldQ O Q ∧ WofA O Q V) ∧ Below w.heap.size w w' := by
  have HO1 := Lib.hid (fun w h => Order_any k1 n1 r1 q1 hN1 w A1 c1 h)
  have HO2 := Lib.hid (fun w h => Order_any k2 n2 r2 q2 hN2 w A2 c2 h)
  have HK1 := Lib.hid hk1
  have HK2 := Lib.hid hk2
  obtain ⟨⟨o1, e1⟩, hO1⟩ : ∃ R, ordR k1 n1 r1 q1 = R := ⟨_, rfl⟩
  obtain ⟨⟨o2, e2⟩, hO2⟩ : ∃ R, ordR k2 n2 r2 q2 = R := ⟨_, rfl⟩
  rw [hO1] at HO1 h1 hF ⊢
  rw [hO2] at HO2 h2 hF ⊢
  dsimp only at HO1 HO2 h1 h2
  obtain ⟨⟨L, E⟩, hBB⟩ : ∃ B, bothR (o1, e1) (o2, e2) = B := ⟨_, rfl⟩
  rw [hBB] at hF ⊢
  have HBB := Lib.hid hBB
  dsimp only at hF ⊢
  have HF := Lib.hid hF
  have H1 := Lib.hid h1
  have H2 := Lib.hid h2
  obtain ⟨W0, hW0⟩ : ∃ W0, W0 = ((w.alloc (.cells #[.int .i64 k1, .int .i64 n1, .int .i64 r1, .slice A1 q1.len c1] 26)).alloc (.cells #[.int .i64 k2, .int .i64 n2, .int .i64 r2, .slice A2 q2.len c2] 26)).alloc (.cells #[.int .i64 0, .int .i64 0, .int .i64 0] 60) := ⟨_, rfl⟩
  have hb0 : Below w.heap.size w W0 := by rw [hW0]; exact (((Below.refl _ w).alloc (Nat.le_refl _) _).alloc (by simp) _).alloc (by simp; omega) _
  have hp1 : PlBox W0 w.heap.size k1 n1 r1 A1 q1.len c1 := by
    rw [hW0]
    exact (PlBox.new w k1 n1 r1 A1 q1.len c1 _).below (((Below.refl _ _).alloc (Nat.le_refl _) _).alloc (by simp) _)
  have hp2 : PlBox W0 (w.heap.size + 1) k2 n2 r2 A2 q2.len c2 := by
    rw [hW0]
    have := (PlBox.new (w.alloc (.cells #[.int .i64 k1, .int .i64 n1, .int .i64 r1, .slice A1 q1.len c1] 26)) k2 n2 r2 A2 q2.len c2 26).below ((Below.refl _ _).alloc (Nat.le_refl _) (.cells #[.int .i64 0, .int .i64 0, .int .i64 0] 60))
    simp only [World.size_alloc] at this
    exact this
  have hr0 : RB W0 (w.heap.size + 2) := by
    rw [hW0]
    have := RB.new ((w.alloc (.cells #[.int .i64 k1, .int .i64 n1, .int .i64 r1, .slice A1 q1.len c1] 26)).alloc (.cells #[.int .i64 k2, .int .i64 n2, .int .i64 r2, .slice A2 q2.len c2] 26)) 60
    simp only [World.size_alloc] at this
    exact this
  have HB0 := Lib.hid hb0
  have HP2 := Lib.hid hp2
  have HR0 := Lib.hid hr0
  obtain ⟨p0, p1, p2, p3⟩ := hp1
  clear hk1 hk2 hb0 hp2 hr0 hN1 hN2 hO1 hO2 h1 h2 hF hBB
  go_enter Try.func72, Try.ntmps72
  go_wp2_with fail
  try rw [← hW0]
  refine (HO1.out W0 (HK1.out.below HB0.out)).mono ?_
  rintro z w1 ⟨rfl, hb1⟩
  have HB1 := Lib.hid (HB0.out.trans (hb1.mono HB0.out.size))
  have HR1 := Lib.hid (HR0.out.below hb1)
  have hp2 := HP2.out.below hb1
  obtain ⟨p0, p1, p2, p3⟩ := hp2
  clear hb1 hW0 HO1 HB0 HR0
  by_cases he1 : e1 = 0
  case neg =>
    have heb : (e1 == 0) = false := by simpa using he1
    obtain ⟨rfl, rfl⟩ : L = 0 ∧ E = e1 := by have := HBB.out; unfold bothR at this; rw [if_pos he1] at this; exact ⟨(congrArg Prod.fst this).symm, (congrArg Prod.snd this).symm⟩
    obtain ⟨⟨r0, r1, r2⟩, hz, hlb⟩ := HR1.out
    have hz0 := hz 0 (by omega)
    have hz1 := hz 1 (by omega)
    have hz2 := hz 2 (by omega)
    clear hz hlb
    have HBF := Lib.hid (below_three HB1.out (b := w.heap.size + 2) (by omega) (.int .i64 0) (.int .i64 0) (.int .i64 0))
    have HTF := Lib.hid (tri_set HR1.out.t 0 0 0)
    clear HB1 HR1
    go_wp2
    obtain ⟨u0, u1, u2⟩ := HTF.out
    exact bodyPost_ret (v := .tuple #[rgV 0 0 0, .int .i64 E]) (by simp [results, Try.results72, go_sem, u0, u1, u2]) rfl ⟨0, 0, 0, rfl, fun h => absurd h he1, HBF.out⟩
  subst he1
  go_wp2_with fail
  refine (HO2.out w1 (HK2.out.below HB1.out)).mono ?_
  rintro z w2 ⟨rfl, hb2⟩
  have HB2 := Lib.hid (HB1.out.trans (hb2.mono HB1.out.size))
  have HR2 := Lib.hid (HR1.out.below hb2)
  clear hb2 HO2 HB1 HR1 p0 p1 p2 p3
  by_cases he2 : e2 = 0
  case neg =>
    have heb : (e2 == 0) = false := by simpa using he2
    obtain ⟨rfl, rfl⟩ : L = 0 ∧ E = e2 := by have := HBB.out; unfold bothR at this; rw [if_neg (by simp), if_pos he2] at this; exact ⟨(congrArg Prod.fst this).symm, (congrArg Prod.snd this).symm⟩
    obtain ⟨⟨r0, r1, r2⟩, hz, hlb⟩ := HR2.out
    have hz0 := hz 0 (by omega)
    have hz1 := hz 1 (by omega)
    have hz2 := hz 2 (by omega)
    clear hz hlb
    have HBF := Lib.hid (below_three HB2.out (b := w.heap.size + 2) (by omega) (.int .i64 0) (.int .i64 0) (.int .i64 0))
    have HTF := Lib.hid (tri_set HR2.out.t 0 0 0)
    clear HB2 HR2
    go_wp2
    obtain ⟨u0, u1, u2⟩ := HTF.out
    exact bodyPost_ret (v := .tuple #[rgV 0 0 0, .int .i64 E]) (by simp [results, Try.results72, go_sem, u0, u1, u2]) rfl ⟨0, 0, 0, rfl, fun h => absurd h he2, HBF.out⟩
  subst he2
  obtain ⟨x1, x2⟩ : 1 ≤ o1 ∧ o1 ≤ 1099511627776 := by first | exact H1.out rfl | exact H1.out trivial
  obtain ⟨y1, y2⟩ : 1 ≤ o2 ∧ o2 ≤ 1099511627776 := by first | exact H2.out rfl | exact H2.out trivial
  have HL := Lib.hid (fun w => PLcm_any o1 o2 1099511627776 x1 y1 (by omega) x2 y2 (by omega) w)
  obtain ⟨⟨l, ok⟩, hl⟩ : ∃ R, lcmF o1 o2 1099511627776 = R := ⟨_, rfl⟩
  have hB2 := HBB.out
  unfold bothR at hB2
  rw [if_neg (by simp), if_neg (by simp)] at hB2
  dsimp only at hB2
  rw [hl] at HL hB2
  dsimp only at HL hB2
  go_wp2_with fail
  refine (HL.out _).mono ?_
  rintro z w3 ⟨rfl, hq3⟩
  have HB3 := Lib.hid (HB2.out.trans (hq3.below.mono HB2.out.size))
  have HR3 := Lib.hid (HR2.out.below hq3.below)
  clear hq3 HL HB2 HR2 hl
  rcases ok with _ | _
  · rw [if_neg (by decide)] at hB2
    obtain ⟨rfl, rfl⟩ : L = 0 ∧ E = 28 := ⟨(congrArg Prod.fst hB2).symm, (congrArg Prod.snd hB2).symm⟩
    obtain ⟨⟨r0, r1, r2⟩, hz, hlb⟩ := HR3.out
    have hz0 := hz 0 (by omega)
    have hz1 := hz 1 (by omega)
    have hz2 := hz 2 (by omega)
    clear hz hlb hB2
    have HBF := Lib.hid (below_three HB3.out (b := w.heap.size + 2) (by omega) (.int .i64 0) (.int .i64 0) (.int .i64 0))
    have HTF := Lib.hid (tri_set HR3.out.t 0 0 0)
    clear HB3 HR3
    go_wp2
    obtain ⟨u0, u1, u2⟩ := HTF.out
    exact bodyPost_ret (v := .tuple #[rgV 0 0 0, .int .i64 28]) (by simp [results, Try.results72, go_sem, u0, u1, u2]) rfl ⟨0, 0, 0, rfl, fun h => absurd h (by decide), HBF.out⟩
  · rw [if_pos rfl] at hB2
    obtain ⟨rfl, rfl⟩ : L = l ∧ E = 0 := ⟨(congrArg Prod.fst hB2).symm, (congrArg Prod.snd hB2).symm⟩
    obtain ⟨Q, F⟩ : ∃ Q, FieldQ L Q := by first | exact HF.out rfl | exact HF.out trivial
    have HMK := Lib.hid (fun w => Make_any L Q F w)
    have HFF := Lib.hid F
    clear hB2 F HF
    go_wp2_with fail
    refine (HMK.out w3).mono ?_
    rintro z w4 ⟨v, hv, rfl, hb4⟩
    have HV := Lib.hid hv
    have HB4 := Lib.hid (HB3.out.trans (hb4.mono HB3.out.size))
    have HR4 := Lib.hid (HR3.out.below hb4)
    clear hv hb4 HMK HB3 HR3
    obtain ⟨⟨r0, r1, r2⟩, hz, hlb⟩ := HR4.out
    have hz0 := hz 0 (by omega)
    have hz1 := hz 1 (by omega)
    have hz2 := hz 2 (by omega)
    clear hz hlb
    have HBF := Lib.hid (below_three HB4.out (b := w.heap.size + 2) (by omega) (.int .i64 Q) (.int .i64 v) (.int .i64 L))
    have HTF := Lib.hid (tri_set HR4.out.t Q v L)
    clear HB4 HR4
    go_wp2
    obtain ⟨u0, u1, u2⟩ := HTF.out
    exact bodyPost_ret (v := .tuple #[rgV Q v L, .int .i64 0]) (by simp [results, Try.results72, go_sem, u0, u1, u2]) rfl ⟨Q, v, L, rfl, by first | exact fun _ => ⟨rfl, HFF.out, HV.out⟩ | exact ⟨rfl, HFF.out, HV.out⟩, HBF.out⟩
end Go.Proofs.Yteaimnemobnknaa
