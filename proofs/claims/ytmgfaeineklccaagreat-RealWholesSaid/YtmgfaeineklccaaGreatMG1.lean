/- The document's whole of a half. -/
import Derived.Test.YtmgfaeineklccaaGreatMI1
import Derived.Test.YtmgfaeineklccaaGreatMC4
import Derived.Test.YtmgfaeineklccaaGreatMY1
import Derived.Test.YtmgfaeineklccaaGreatMF1
import Derived.Great.BuildSlice
import Derived.Deep.Slices
set_option linter.unusedSimpArgs false
set_option linter.unusedVariables false
namespace Go.Proofs.YtmgfaeineklccaaGreat
open Go.RowKit Go.Lib

theorem bs_float (u : Wd) (w : World) : (Instr.buildSlice 53 1 #[(0, .float .f64 (u : Nat))]).run Tryz.prog w = .ok (.slice (some ⟨w.heap.size, 0, none⟩) 1 1) (w.alloc (.cells #[.float .f64 (u : Nat)] 33)) := by
  obtain ⟨i0, hi, hz0, hz1, hz2⟩ := info_parts info_float
  refine run_buildSlice w 53 33 1 _ #[.float .f64 (u : Nat)] i0 _ Tryz.underlying53 hi hz0 (by rw [hz1]; decide) (by rw [hz1]; decide) ?_
  rw [hz1]
  have hr : Array.range 1 = #[0] := by decide
  simp [Instr.fill, Value.cells, hr]
/-- Two lists lie apart. -/
def Apart (v1 v2 : Value) : Prop := ∀ g, v1.ownBlock = some g → v2.ownBlock ≠ some g
theorem Apart.symm {v1 v2 : Value} (h : Apart v1 v2) : Apart v2 v1 := fun g e1 e2 => h g e2 e1
theorem OwnL.kept {w w' : World} {base : Nat} {v v2 : Value} {L : List Wd} (h : OwnL w base v L) (hg : w.grownBy w' v2.ownBlock) (ha : Apart v2 v) : OwnL w' base v L := by
  refine World.ownsRow.kept h hg ?_
  cases e : v.ownBlock with
  | none => exact .inl rfl
  | some g => exact .inr (fun e2 => ha g e2.symm e)
theorem OwnL.below {w w' : World} {base : Nat} {v : Value} {L : List Wd} (h : OwnL w base v L) (hb : Below w.heap.size w w') : OwnL w' base v L := owns_below h hb
theorem OwnL.lt {w : World} {base : Nat} {v : Value} {L : List Wd} (h : OwnL w base v L) (g : Nat) (e : v.ownBlock = some g) : base ≤ g ∧ g < w.heap.size := World.ownsRow.lt h g e
/-- What stands behind two appends. -/
theorem Apart.next {w : World} {base : Nat} {v1 v2 : Value} {M : List Wd} {g n c : Nat} (h : Apart v1 v2) (h2 : OwnL w base v2 M) (hL : v1.ownBlock = some g ∨ g = w.heap.size) : Apart (.slice (some ⟨g, 0, none⟩) n c) v2 := by
  intro k e1 e2
  have e1 : g = k := by
    have : (Value.slice (some ⟨g, 0, none⟩) n c).ownBlock = some g := rfl
    rw [this] at e1
    simpa using e1
  subst e1
  rcases hL with hL | hL
  · exact h g hL e2
  · have := (h2.lt g e2).2
    omega
def WhL (h : Nat → Cx) (n : Nat) (L M : List Wd) : Prop := ∀ j, j < L.length → nz (L.getD j 0) = (wholeC h n j).1 ∧ nz (M.getD j 0) = (wholeC h n j).2
theorem WhL.next {h : Nat → Cx} {n : Nat} {L M : List Wd} (hw : WhL h n L M) (hl : M.length = L.length) (u v : Wd) (hu : nz u = (wholeC h n L.length).1) (hv : nz v = (wholeC h n L.length).2) : WhL h n (L ++ [u]) (M ++ [v]) := by
  intro j hj
  rw [List.length_append] at hj
  rw [List.getD_eq_getElem?_getD, List.getD_eq_getElem?_getD]
  by_cases e : j < L.length
  · rw [List.getElem?_append_left e, List.getElem?_append_left (by omega)]
    have := hw j e
    rwa [List.getD_eq_getElem?_getD, List.getD_eq_getElem?_getD] at this
  · have : j = L.length := by simp at hj; omega
    subst this
    rw [List.getElem?_append_right (by omega), List.getElem?_append_right (by omega), Nat.sub_self, hl, Nat.sub_self]
    exact ⟨hu, hv⟩

set_option maxRecDepth 100000 in
set_option maxHeartbeats 4000000 in
theorem refWhole_any (A B : Option Addr) (n l c c' : Nat) (h : Nat → Cx) (w : World) (hA : FsAt w A l (fun i => (h i).1)) (hB : FsAt w B l (fun i => (h i).2)) (hl : l = n / 2 + 1) (n1 : 1 ≤ n) (n2 : n ≤ 16384) :
    Calls Tryz.prog 35 #[.slice A l c, .slice B l c', .int .i64 n] w fun z w' => ∃ u v L M, z = .returned (.tuple #[u, v]) ∧ OwnL w' w.heap.size u L ∧ OwnL w' w.heap.size v M ∧ L.length = n ∧ M.length = n ∧ WhL h n L M ∧ Below w.heap.size w w' := by
  obtain ⟨bA, oA, -, rfl, -, -⟩ := hA 0 (by omega)
  obtain ⟨bB, oB, -, rfl, -, -⟩ := hB 0 (by omega)
  have HA := Lib.hid hA
  have HB := Lib.hid hB
  have HL := Lib.hid hl
  have HN := Lib.hid (And.intro n1 n2)
  have bs := bs_float
  clear hA hB hl n1
  go_enter Tryz.func35, Tryz.ntmps35
  go_wp2
  go_loopw [8, 9, 10] (fun av bv jv wr => ∃ (j : Nat) (L M : List Wd), j ≤ n ∧ jv = .int .i64 j ∧ Hid (L.length = j ∧ M.length = j) ∧ Hid (OwnL wr w.heap.size av L) ∧ Hid (OwnL wr w.heap.size bv M) ∧ Hid (Apart av bv) ∧ Hid (WhL h n L M) ∧ Hid (Below w.heap.size w wr)) (fun _ _ jv _ => n - (intOf jv).toNat)
  case atStart => exact ⟨0, [], [], Nat.zero_le _, rfl, Lib.hid ⟨rfl, rfl⟩, Lib.hid (OwnL.nil _ _), Lib.hid (OwnL.nil _ _), Lib.hid (fun g e => by cases e), Lib.hid (fun j hj => by simp at hj), Lib.hid (Below.refl _ _)⟩
  case round =>
    obtain ⟨j, L, M, hj, rfl, HLM, oa, ob, oap, hwh, hb⟩ := hrel
    by_cases hlt : j < n
    · have hlti : (j : Int) < n := by omega
      obtain ⟨kk, hkk⟩ : ∃ kk, atK n j = kk := ⟨_, rfl⟩
      have hkl : kk < l := by rw [← hkk, HL.out]; exact atK_le hlt
      have hRE := wholeC_re h n j hlt
      have hIM := wholeC_im h n j hlt
      rw [hkk] at hRE
      obtain ⟨_, _, ur, e, cr, hur⟩ := (HA.out.keep hb.out) kk hkl
      cases e
      obtain ⟨_, _, ui, e, ci, hui⟩ := (HB.out.keep hb.out) kk hkl
      cases e
      dsimp only at hur hui
      have HU : Hid (nz ur = (wholeC h n j).1) := Lib.hid (by rw [hur, hRE])
      have HLL := Lib.hid (show kk < l from hkl)
      obtain ⟨wa, hwa⟩ : ∃ wa, wa = wr.alloc (.cells #[.float .f64 (ur : Nat)] 33) := ⟨_, rfl⟩
      have hba : Below wr.heap.size wr wa := by rw [hwa]; exact (Below.refl _ wr).alloc (Nat.le_refl _) _
      have hn0 : wa.cell? ⟨wr.heap.size, 0, none⟩ = some (.float .f64 (ur : Nat)) := by rw [hwa, World.cell?_alloc_new]; rfl
      have HO1 : Hid (wa.ownsRow w.heap.size 33 1 u8 j (fltV L)) := Lib.hid (by have h1 := oa.out.below hba; unfold OwnL at h1; rw [HLM.out.1] at h1; exact h1)
      have HB1 := Lib.hid (ob.out.below hba)
      have HBA : Hid (Below w.heap.size w wa) := Lib.hid (hb.out.trans (hba.mono hb.out.size))
      have hbs : w.heap.size ≤ wa.heap.size := HBA.out.size
      have hj40 : j + 1 ≤ 1099511627776 := by omega
      have HWA := Lib.hid hwa
      have HHB := Lib.hid hba
      clear hwa hba
      -- the words behind, by cases
      have fin : ∀ (vv : Wd), nz vv = (wholeC h n j).2 → ∀ g1 cap1 (w5 : World), w5.ownsRow w.heap.size 33 1 (.slice (some ⟨g1, 0, none⟩) (j + 1) cap1) (j + 1) (fltV L ++ [.float .f64 (ur : Nat)]) → wa.grownBy w5 u8.ownBlock → (u8.ownBlock = some g1 ∨ g1 = wa.heap.size) →
          ∀ g2 cap2 (w7 : World), w7.ownsRow w.heap.size 33 1 (.slice (some ⟨g2, 0, none⟩) (j + 1) cap2) (j + 1) (fltV M ++ [.float .f64 (vv : Nat)]) → (w5.alloc (.cells #[.float .f64 (vv : Nat)] 33)).grownBy w7 u9.ownBlock → (u9.ownBlock = some g2 ∨ g2 = (w5.alloc (.cells #[.float .f64 (vv : Nat)] 33)).heap.size) →
          Hid ((L ++ [ur]).length = j + 1 ∧ (M ++ [vv]).length = j + 1) ∧ Hid (OwnL w7 w.heap.size (.slice (some ⟨g1, 0, none⟩) (j + 1) cap1) (L ++ [ur])) ∧ Hid (OwnL w7 w.heap.size (.slice (some ⟨g2, 0, none⟩) (j + 1) cap2) (M ++ [vv])) ∧ Hid (Apart (.slice (some ⟨g1, 0, none⟩) (j + 1) cap1) (.slice (some ⟨g2, 0, none⟩) (j + 1) cap2)) ∧ Hid (WhL h n (L ++ [ur]) (M ++ [vv])) ∧ Hid (Below w.heap.size w w7) := by
        intro vv hvv g1 cap1 w5 hO hG hL g2 cap2 w7 hO2 hG2 hL2
        have e1 : (L ++ [ur]).length = j + 1 := by rw [List.length_append, HLM.out.1]; rfl
        have e2 : (M ++ [vv]).length = j + 1 := by rw [List.length_append, HLM.out.2]; rfl
        have o1 : OwnL w5 w.heap.size (.slice (some ⟨g1, 0, none⟩) (j + 1) cap1) (L ++ [ur]) := by unfold OwnL; rw [e1, ← fltV_app]; exact hO
        have o2 : OwnL w7 w.heap.size (.slice (some ⟨g2, 0, none⟩) (j + 1) cap2) (M ++ [vv]) := by unfold OwnL; rw [e2, ← fltV_app]; exact hO2
        have hb5 : Below w5.heap.size w5 (w5.alloc (.cells #[.float .f64 (vv : Nat)] 33)) := (Below.refl _ _).alloc (Nat.le_refl _) _
        have ap1 : Apart (.slice (some ⟨g1, 0, none⟩) (j + 1) cap1) u9 := Apart.next oap.out HB1.out hL
        have m5 : OwnL w5 w.heap.size u9 M := HB1.out.kept hG oap.out
        have ap2 : Apart (.slice (some ⟨g2, 0, none⟩) (j + 1) cap2) (.slice (some ⟨g1, 0, none⟩) (j + 1) cap1) := Apart.next ap1.symm (o1.below hb5) hL2
        have B5 : Below w.heap.size w w5 := HBA.out.grown hG HBA.out.size (fun k e => (oa.out.lt k e).1)
        have B6 : Below w.heap.size w (w5.alloc (.cells #[.float .f64 (vv : Nat)] 33)) := B5.trans (hb5.mono B5.size)
        exact ⟨Lib.hid ⟨e1, e2⟩, Lib.hid ((o1.below hb5).kept hG2 ap1.symm), Lib.hid o2, Lib.hid ap2.symm, Lib.hid (hwh.out.next (by rw [HLM.out.1, HLM.out.2]) ur vv (by rw [HLM.out.1]; exact HU.out) (by rw [HLM.out.1]; exact hvv)), Lib.hid (B6.grown hG2 B6.size (fun k e => (m5.lt k e).1))⟩
      have FIN := Lib.hid fin
      have M5 : Hid (∀ w5 : World, wa.grownBy w5 u8.ownBlock → w5.ownsRow w.heap.size 33 1 u9 j (fltV M) ∧ w.heap.size ≤ w5.heap.size) := Lib.hid (fun w5 hG => ⟨by have h1 := HB1.out.kept hG oap.out; unfold OwnL at h1; rw [HLM.out.2] at h1; exact h1, Nat.le_trans hbs hG.size⟩)
      clear fin hRE hkl
      by_cases c1 : n < 2 * j
      · have hk2 : kk = n - j := by rw [← hkk]; unfold atK; rw [if_pos c1]
        subst hk2
        have g1 : 2 * (j : Int) > n := by omega
        have g2 : ((j : Int) == 0) = false := by simp; omega
        have g3 : (2 * (j : Int) == (n : Int)) = false := by simp; omega
        have g4 : (n : Int) - j < l := by have := HLL.out; omega
        obtain ⟨vv, hvv⟩ : ∃ vv : Wd, negF ui = vv := ⟨_, rfl⟩
        have HV : Hid (nz vv = (wholeC h n j).2) := Lib.hid (by rw [hIM, if_neg (by omega), if_pos c1, ← hui, ← hvv]; exact nz_neg _)
        have hun := unary_negF ui
        rw [hvv] at hun
        clear hkk hIM hur hui c1 hvv
        go_upto_region 15 with (fail)
        go_upto_region 16 with (at_builtin; rw [← HWA.out]; refine Go.Proofs.YtmgfaeineklccaaGreat.wpList_appL rfl _ _ 53 33 rfl 1 8 (.float .f64 0) Tryz.underlying53 info_float rfl (by omega) (by omega) w.heap.size u8 j (fltV L) rfl HO1.out _ 1 [.float .f64 (ur : Nat)] rfl rfl (fun i u hi => by rcases i with _ | i <;> simp at hi; subst hi; exact hn0) (fun u hu => by simp at hu; subst hu; rfl) hj40 hbs (fun ga cap1 w5 hO2 hG2 hL2 => ?_))
        obtain ⟨m5, hs5⟩ := M5.out w5 hG2.out
        have HM5 := Lib.hid m5
        have FIN5 := Lib.hid (fun gg cap2 w7 => FIN.out vv HV.out ga cap1 w5 hO2.out hG2.out hL2.out gg cap2 w7)
        clear m5 hO2 hG2 hL2 FIN HO1 hn0 hbs cr ci M5
        have hn6 : (w5.alloc (.cells #[.float .f64 (vv : Nat)] 33)).cell? ⟨w5.heap.size, 0, none⟩ = some (.float .f64 (vv : Nat)) := by rw [World.cell?_alloc_new]; rfl
        have hb6 : w.heap.size ≤ (w5.alloc (.cells #[.float .f64 (vv : Nat)] 33)).heap.size := by simp; omega
        have HO6 : Hid ((w5.alloc (.cells #[.float .f64 (vv : Nat)] 33)).ownsRow w.heap.size 33 1 u9 j (fltV M)) := Lib.hid (owns_below HM5.out ((Below.refl _ _).alloc (Nat.le_refl _) _))
        go_wp2_with (at_builtin; refine Go.Proofs.YtmgfaeineklccaaGreat.wpList_appL rfl _ _ 53 33 rfl 1 8 (.float .f64 0) Tryz.underlying53 info_float rfl (by omega) (by omega) w.heap.size u9 j (fltV M) rfl HO6.out _ 1 [.float .f64 (vv : Nat)] rfl rfl (fun i u hi => by rcases i with _ | i <;> simp at hi; subst hi; exact hn6) (fun u hu => by simp at hu; subst hu; rfl) hj40 hb6 (fun gg cap2 w7 hO2 hG2 hL2 => ?_))
        obtain ⟨r1, r2, r3, r4, r5, r6⟩ := FIN5.out gg cap2 w7 hO2.out hG2.out hL2.out
        clear hO2 hG2 hL2 FIN5 hn6 hb6 HO6 HM5 hs5
        go_wp2
        exact ⟨⟨j + 1, L ++ [ur], M ++ [vv], by omega, by go_num, r1, r2, r3, r4, r5, r6⟩, by simp [intOf]; omega⟩
      · have hk2 : j = kk := by rw [← hkk]; unfold atK; rw [if_neg c1]
        subst hk2
        have g1 : ¬ 2 * (j : Int) > n := by omega
        have g4 : (j : Int) < l := by have := HLL.out; omega
        by_cases c2 : j = 0 ∨ 2 * j = n
        · obtain ⟨vv, hvv⟩ : ∃ vv : Wd, 0 = vv := ⟨_, rfl⟩
          have HV : Hid (nz vv = (wholeC h n j).2) := Lib.hid (by rw [hIM, if_pos c2, ← hvv]; kernel_rfl)
          have hv0 : ((vv : Wd) : Nat) = 0 := by rw [← hvv]; rfl
          subst hvv
          by_cases c3 : j = 0
          · have g2 : ((j : Int) == 0) = true := by simp; omega
            clear hkk hIM hur hui c1 c2 c3 hv0
            go_upto_region 15 with (fail)
            go_upto_region 16 with (at_builtin; rw [← HWA.out]; refine Go.Proofs.YtmgfaeineklccaaGreat.wpList_appL rfl _ _ 53 33 rfl 1 8 (.float .f64 0) Tryz.underlying53 info_float rfl (by omega) (by omega) w.heap.size u8 j (fltV L) rfl HO1.out _ 1 [.float .f64 (ur : Nat)] rfl rfl (fun i u hi => by rcases i with _ | i <;> simp at hi; subst hi; exact hn0) (fun u hu => by simp at hu; subst hu; rfl) hj40 hbs (fun ga cap1 w5 hO2 hG2 hL2 => ?_))
            obtain ⟨m5, hs5⟩ := M5.out w5 hG2.out
            have HM5 := Lib.hid m5
            have FIN5 := Lib.hid (fun gg cap2 w7 => FIN.out 0 HV.out ga cap1 w5 hO2.out hG2.out hL2.out gg cap2 w7)
            clear m5 hO2 hG2 hL2 FIN HO1 hn0 hbs cr ci M5
            have hn6 : (w5.alloc (.cells #[.float .f64 ((0:Wd) : Nat)] 33)).cell? ⟨w5.heap.size, 0, none⟩ = some (.float .f64 ((0:Wd) : Nat)) := by rw [World.cell?_alloc_new]; rfl
            have hb6 : w.heap.size ≤ (w5.alloc (.cells #[.float .f64 ((0:Wd) : Nat)] 33)).heap.size := by simp; omega
            have HO6 : Hid ((w5.alloc (.cells #[.float .f64 ((0:Wd) : Nat)] 33)).ownsRow w.heap.size 33 1 u9 j (fltV M)) := Lib.hid (owns_below HM5.out ((Below.refl _ _).alloc (Nat.le_refl _) _))
            go_wp2_with (at_builtin; refine Go.Proofs.YtmgfaeineklccaaGreat.wpList_appL rfl _ _ 53 33 rfl 1 8 (.float .f64 0) Tryz.underlying53 info_float rfl (by omega) (by omega) w.heap.size u9 j (fltV M) rfl HO6.out _ 1 [.float .f64 ((0:Wd) : Nat)] rfl rfl (fun i u hi => by rcases i with _ | i <;> simp at hi; subst hi; exact hn6) (fun u hu => by simp at hu; subst hu; rfl) hj40 hb6 (fun gg cap2 w7 hO2 hG2 hL2 => ?_))
            obtain ⟨r1, r2, r3, r4, r5, r6⟩ := FIN5.out gg cap2 w7 hO2.out hG2.out hL2.out
            clear hO2 hG2 hL2 FIN5 hn6 hb6 HO6 HM5 hs5
            go_wp2
            exact ⟨⟨j + 1, L ++ [ur], M ++ [(0:Wd)], by omega, by go_num, r1, r2, r3, r4, r5, r6⟩, by simp [intOf]; omega⟩
          · have g2 : ((j : Int) == 0) = false := by simp; omega
            have g3 : (2 * (j : Int) == (n : Int)) = true := by simp; omega
            clear hkk hIM hur hui c1 c2 c3 hv0
            go_upto_region 15 with (fail)
            go_upto_region 16 with (at_builtin; rw [← HWA.out]; refine Go.Proofs.YtmgfaeineklccaaGreat.wpList_appL rfl _ _ 53 33 rfl 1 8 (.float .f64 0) Tryz.underlying53 info_float rfl (by omega) (by omega) w.heap.size u8 j (fltV L) rfl HO1.out _ 1 [.float .f64 (ur : Nat)] rfl rfl (fun i u hi => by rcases i with _ | i <;> simp at hi; subst hi; exact hn0) (fun u hu => by simp at hu; subst hu; rfl) hj40 hbs (fun ga cap1 w5 hO2 hG2 hL2 => ?_))
            obtain ⟨m5, hs5⟩ := M5.out w5 hG2.out
            have HM5 := Lib.hid m5
            have FIN5 := Lib.hid (fun gg cap2 w7 => FIN.out 0 HV.out ga cap1 w5 hO2.out hG2.out hL2.out gg cap2 w7)
            clear m5 hO2 hG2 hL2 FIN HO1 hn0 hbs cr ci M5
            have hn6 : (w5.alloc (.cells #[.float .f64 ((0:Wd) : Nat)] 33)).cell? ⟨w5.heap.size, 0, none⟩ = some (.float .f64 ((0:Wd) : Nat)) := by rw [World.cell?_alloc_new]; rfl
            have hb6 : w.heap.size ≤ (w5.alloc (.cells #[.float .f64 ((0:Wd) : Nat)] 33)).heap.size := by simp; omega
            have HO6 : Hid ((w5.alloc (.cells #[.float .f64 ((0:Wd) : Nat)] 33)).ownsRow w.heap.size 33 1 u9 j (fltV M)) := Lib.hid (owns_below HM5.out ((Below.refl _ _).alloc (Nat.le_refl _) _))
            go_wp2_with (at_builtin; refine Go.Proofs.YtmgfaeineklccaaGreat.wpList_appL rfl _ _ 53 33 rfl 1 8 (.float .f64 0) Tryz.underlying53 info_float rfl (by omega) (by omega) w.heap.size u9 j (fltV M) rfl HO6.out _ 1 [.float .f64 ((0:Wd) : Nat)] rfl rfl (fun i u hi => by rcases i with _ | i <;> simp at hi; subst hi; exact hn6) (fun u hu => by simp at hu; subst hu; rfl) hj40 hb6 (fun gg cap2 w7 hO2 hG2 hL2 => ?_))
            obtain ⟨r1, r2, r3, r4, r5, r6⟩ := FIN5.out gg cap2 w7 hO2.out hG2.out hL2.out
            clear hO2 hG2 hL2 FIN5 hn6 hb6 HO6 HM5 hs5
            go_wp2
            exact ⟨⟨j + 1, L ++ [ur], M ++ [(0:Wd)], by omega, by go_num, r1, r2, r3, r4, r5, r6⟩, by simp [intOf]; omega⟩
        · have g2 : ((j : Int) == 0) = false := by simp; omega
          have g3 : (2 * (j : Int) == (n : Int)) = false := by simp; omega
          obtain ⟨vv, hvv⟩ : ∃ vv : Wd, ui = vv := ⟨_, rfl⟩
          have HV : Hid (nz vv = (wholeC h n j).2) := Lib.hid (by rw [hIM, if_neg c2, if_neg c1, ← hui, ← hvv])
          rw [hvv] at ci
          clear hkk hIM hur hui c1 c2 hvv
          go_upto_region 15 with (fail)
          go_upto_region 16 with (at_builtin; rw [← HWA.out]; refine Go.Proofs.YtmgfaeineklccaaGreat.wpList_appL rfl _ _ 53 33 rfl 1 8 (.float .f64 0) Tryz.underlying53 info_float rfl (by omega) (by omega) w.heap.size u8 j (fltV L) rfl HO1.out _ 1 [.float .f64 (ur : Nat)] rfl rfl (fun i u hi => by rcases i with _ | i <;> simp at hi; subst hi; exact hn0) (fun u hu => by simp at hu; subst hu; rfl) hj40 hbs (fun ga cap1 w5 hO2 hG2 hL2 => ?_))
          obtain ⟨m5, hs5⟩ := M5.out w5 hG2.out
          have HM5 := Lib.hid m5
          have FIN5 := Lib.hid (fun gg cap2 w7 => FIN.out vv HV.out ga cap1 w5 hO2.out hG2.out hL2.out gg cap2 w7)
          clear m5 hO2 hG2 hL2 FIN HO1 hn0 hbs cr ci M5
          have hn6 : (w5.alloc (.cells #[.float .f64 (vv : Nat)] 33)).cell? ⟨w5.heap.size, 0, none⟩ = some (.float .f64 (vv : Nat)) := by rw [World.cell?_alloc_new]; rfl
          have hb6 : w.heap.size ≤ (w5.alloc (.cells #[.float .f64 (vv : Nat)] 33)).heap.size := by simp; omega
          have HO6 : Hid ((w5.alloc (.cells #[.float .f64 (vv : Nat)] 33)).ownsRow w.heap.size 33 1 u9 j (fltV M)) := Lib.hid (owns_below HM5.out ((Below.refl _ _).alloc (Nat.le_refl _) _))
          go_wp2_with (at_builtin; refine Go.Proofs.YtmgfaeineklccaaGreat.wpList_appL rfl _ _ 53 33 rfl 1 8 (.float .f64 0) Tryz.underlying53 info_float rfl (by omega) (by omega) w.heap.size u9 j (fltV M) rfl HO6.out _ 1 [.float .f64 (vv : Nat)] rfl rfl (fun i u hi => by rcases i with _ | i <;> simp at hi; subst hi; exact hn6) (fun u hu => by simp at hu; subst hu; rfl) hj40 hb6 (fun gg cap2 w7 hO2 hG2 hL2 => ?_))
          obtain ⟨r1, r2, r3, r4, r5, r6⟩ := FIN5.out gg cap2 w7 hO2.out hG2.out hL2.out
          clear hO2 hG2 hL2 FIN5 hn6 hb6 HO6 HM5 hs5
          go_wp2
          exact ⟨⟨j + 1, L ++ [ur], M ++ [vv], by omega, by go_num, r1, r2, r3, r4, r5, r6⟩, by simp [intOf]; omega⟩
    · obtain rfl : j = n := by omega
      obtain ⟨A1, k1, rfl, -⟩ := oa.out.fs
      obtain ⟨A2, k2, rfl, -⟩ := ob.out.fs
      go_wp2
      go_ret2
      exact ⟨_, _, L, M, rfl, oa.out, ob.out, HLM.out.1, HLM.out.2, hwh.out, hb.out⟩
end Go.Proofs.YtmgfaeineklccaaGreat
/- Layer 21: real.even. -/
set_option linter.unusedSimpArgs false
set_option linter.unusedVariables false
namespace Go.Proofs.YtmgfaeineklccaaGreat
open Go.RowKit Go.Lib

def evC (x : Nat → Nat) : Nat → Cx := fun k => (x (2 * k), x (2 * k + 1))
def evV (Z : Nat → Cx) (m n j : Nat) : Cx := cadd (chalf (cadd (Z (j % m)) (cconj (Z ((m - j) % m))))) (cmul (cturn3 (chalf (csub (Z (j % m)) (cconj (Z ((m - j) % m)))))) (hroot j n))
def evF (Z : Nat → Cx) (m n : Nat) : Nat → Cx := updT (evV Z m n) m ((evV Z m n m).1, 0)
theorem nz_zero0 : nz 0 = 0 := by kernel_rfl

set_option maxRecDepth 100000 in
set_option maxHeartbeats 4000000 in
theorem even_any (kind r : Int) (q : Fo) (m : Nat) (F : Tr Cx) (P : PlanE kind r q m F) (C : ChkC kind m r q m 0) (A : Option Addr) (c : Nat) (X : Option Addr) (n cx : Nat) (x : Nat → Nat) (w : World) (hk : Kids w A 0 q) (hX : FsAt w X n x) (hn : n = 2 * m) (m1 : 1 ≤ m) (m2 : m ≤ 8192) (hg : guardE (evC x) m = 0) :
    Calls Tryz.prog 83 #[plV kind m r A q.len c, .slice X n cx] w fun z w' => ∃ g, z = .returned (.slice (some ⟨g, 0, none⟩) (m + 1 : Nat) (m + 1 : Nat)) ∧ w.heap.size ≤ g ∧ g < w'.heap.size ∧ RowC w' g (m + 1) (evF (F (-1) (evC x)) m n) ∧ Below w.heap.size w w' := by
  have MO := Mem.plain_ok
  obtain ⟨Z, hZZ⟩ : ∃ Z, F (-1) (evC x) = Z := ⟨_, rfl⟩
  rw [hZZ]
  have HZZ := Lib.hid hZZ
  clear hZZ
  obtain ⟨W, hW⟩ : ∃ W, W = w.alloc (.cells #[.int .i64 kind, .int .i64 m, .int .i64 r, .slice A q.len c] 27) := ⟨_, rfl⟩
  have hbb : Below w.heap.size w W := by rw [hW]; exact (Below.refl _ w).alloc (Nat.le_refl _) _
  obtain ⟨p0, p1, p2, p3⟩ := PlBox.new w kind m r A q.len c 27
  rw [← hW] at p0 p1 p2 p3
  obtain ⟨bP, hbP⟩ : ∃ bP, bP = w.heap.size := ⟨_, rfl⟩
  rw [← hbP] at p0 p1 p2 p3
  have HPB := Lib.hid (And.intro p0 (And.intro p1 (And.intro p2 p3)))
  have HB := Lib.hid hbb
  have HK := Lib.hid (hk.below hbb)
  have HX := Lib.hid (hX.keep hbb)
  have HP := Lib.hid P
  have HC := Lib.hid C
  have HG := Lib.hid hg
  have HN := Lib.hid (And.intro hn (And.intro m1 m2))
  have hmk := mk_C m (by omega)
  obtain ⟨m3, hm3⟩ : ∃ m3 : Nat, m + 1 = m3 := ⟨_, rfl⟩
  rw [hm3]
  have hmk3 := mk_C m3 (by omega)
  have hq0 : wrap64 ((n : Int) / 2) = (m : Int) := by rw [show (n : Int) / 2 = (m : Int) by omega]; exact wrap64_nat m (by omega)
  have hq1 : IntKind.i64.wrap ((n : Int) / 2) = (m : Int) := by rw [show (n : Int) / 2 = (m : Int) by omega]; exact wrapI_nat m (by omega)
  have hq2 : wrap64 ((m : Int) + 1) = (m3 : Int) := by rw [show (m : Int) + 1 = (m3 : Int) by omega]; exact wrap64_nat m3 (by omega)
  have hq3 : IntKind.i64.wrap ((m : Int) + 1) = (m3 : Int) := by rw [show (m : Int) + 1 = (m3 : Int) by omega]; exact wrapI_nat m3 (by omega)
  have HM3 := Lib.hid hm3
  clear hk hX P C hg p0 p1 p2 p3 hbb hn m1 m2 hm3
  go_enter Tryz.func83, Tryz.ntmps83
  go_upto_region 1 with (fail)
  rw [← hW, ← hbP]
  clear hW hbP
  go_wp2
  clear hmk
  go_loopw [23] (fun vi wr => ∃ k : Nat, k ≤ m ∧ vi = .int .i64 k ∧ Hid (OwnC Mem.plain wr W.heap.size m (upToC k (evC x))) ∧ Hid (Mem.plain.On W wr)) (fun vi _ => m - (intOf vi).toNat)
  case atStart =>
    obtain ⟨h1, h2⟩ := OwnC.make MO (MO.on_refl (w := W) trivial) m 52
    exact ⟨0, by omega, rfl, Lib.hid h1.empty, Lib.hid h2⟩
  case round =>
    obtain ⟨k, hk, rfl, hr, hb⟩ := hrel
    by_cases hlt : k < m
    · have hki : (k : Int) < m := by omega
      have hk9 : k + 1 ≤ 32768 := by have := HN.out; omega
      obtain ⟨d, hd⟩ : ∃ d, 2 * k = d := ⟨_, rfl⟩
      obtain ⟨e, he⟩ : ∃ e, d + 1 = e := ⟨_, rfl⟩
      have hdn : d < n := by have := HN.out; omega
      have hen : e < n := by have := HN.out; omega
      have hn9 : n ≤ 32768 := by have := HN.out; omega
      obtain ⟨b, o, u, rfl, hcd, hud⟩ := (HX.out.keep hb.out.fr) d hdn
      obtain ⟨b', o', v, e', hce, hve⟩ := (HX.out.keep hb.out.fr) e hen
      cases e'
      have HUV : Hid (nC (u, v) = evC x k) := Lib.hid (by unfold nC evC; dsimp only; rw [hud, hve, ← he, ← hd])
      have hd0 : wrap64 (2 * (k : Int)) = (d : Int) := by rw [show 2 * (k : Int) = (d : Int) by omega]; exact wrap64_nat d (by omega)
      have hd1 : IntKind.i64.wrap (2 * (k : Int)) = (d : Int) := by rw [show 2 * (k : Int) = (d : Int) by omega]; exact wrapI_nat d (by omega)
      have he0 : wrap64 ((d : Int) + 1) = (e : Int) := by rw [show (d : Int) + 1 = (e : Int) by omega]; exact wrap64_nat e (by omega)
      have he1 : IntKind.i64.wrap ((d : Int) + 1) = (e : Int) := by rw [show (d : Int) + 1 = (e : Int) by omega]; exact wrapI_nat e (by omega)
      have hdi : (d : Int) < n := by omega
      have hei : (e : Int) < n := by omega
      clear hd he hud hve hn9
      go_upto_region 7 with (fail)
      refine wp_region_S (fun w' => w'.cell? ⟨b, o + d, none⟩ = some (.float .f64 (u : Nat)) ∧ w'.cell? ⟨b, o + e, none⟩ = some (.float .f64 (v : Nat))) 14 (by kernel_rfl) ?_
      have hS0 := (⟨hcd, hce⟩ : wr.drew.cell? ⟨b, o + d, none⟩ = some (.float .f64 (u : Nat)) ∧ wr.drew.cell? ⟨b, o + e, none⟩ = some (.float .f64 (v : Nat)))
      refine Takes.intro [0,1,2,3,4,5,6,7,8,9,10,11,12,13] ?_
      repeat (refine Takes.step (v := ?_) (by kernel_rfl) rfl (fun _ _ _ h => h) rfl hS0 (fun w hSw => by (try dsimp only at hSw); go_simp; try with_reducible rfl) ?_; try simp only [List.getElem_toArray, List.getElem_cons_zero, List.getElem_cons_succ, Act.put, List.setIfInBounds_toArray, List.set_cons_zero, List.set_cons_succ])
      refine Takes.nil ?_
      refine wpAnyS_end 2 14 (by kernel_rfl) (by decide) rfl ?_
      simp only [List.toList_toArray, List.drop_succ_cons, List.drop_zero]
      obtain ⟨u0, r1, r2, r3, r4, -⟩ := hr.out.row k hlt
      have HN2 := Lib.hid (hr.out.set MO hb.out (Nat.le_refl _) hlt (u, v))
      clear hS0 hr hb hcd hce
      go_wp2
      exact ⟨⟨k + 1, by omega, by go_num, Lib.hid ((HN2.out.1.nextC HUV.out).keep MO ((MO.on_refl trivial).drew MO) trivial), Lib.hid (HN2.out.2.drew MO)⟩, by simp [intOf]; omega⟩
    · obtain rfl : k = m := by omega
      have HZ0 := Lib.hid hr.out.full
      have p0 := on_cell MO trivial hb HPB.out.1
      have p1 := on_cell MO trivial hb HPB.out.2.1
      have p2 := on_cell MO trivial hb HPB.out.2.2.1
      have p3 := on_cell MO trivial hb HPB.out.2.2.2
      have HCL := Lib.hid (Execute_ok kind r q k F HP.out HC.out A c (some ⟨W.heap.size, 0, none⟩) k (evC x) (-1) wr (HK.out.below hb.out.fr) HZ0.out.cs (by have := HN.out; omega) (.inr rfl) HG.out)
      have HBw : Hid (Below w.heap.size w wr) := Lib.hid (HB.out.trans (hb.out.fr.mono HB.out.size))
      clear hr hb hlt HZ0 HK HX HPB
      go_wp2_with fail
      refine HCL.out.mono ?_
      rintro z w1 ⟨gZ, rfl, -, hgZ, hZ, hb1⟩
      have HZ := Lib.hid hZ
      have HB1 : Hid (Below w.heap.size w w1) := Lib.hid (HBw.out.trans (hb1.mono HBw.out.size))
      clear hb1 hZ p0 p1 p2 p3 HCL HBw hgZ HP HC HG
      rw [HZZ.out] at HZ
      go_wp2
      clear hmk3 hq0 hq1 hq2 hq3
      go_loopw [53] (fun vi wr => ∃ j : Nat, j ≤ m3 ∧ vi = .int .i64 j ∧ Hid (OwnC Mem.plain wr w1.heap.size m3 (upToC j (evV Z k n))) ∧ Hid (Mem.plain.On w1 wr)) (fun vi _ => m3 - (intOf vi).toNat)
      case atStart =>
        obtain ⟨h1, h2⟩ := OwnC.make MO (MO.on_refl (w := w1) trivial) m3 52
        exact ⟨0, by omega, rfl, Lib.hid h1.empty, Lib.hid h2⟩
      case round =>
        rename World => wr
        obtain ⟨j, hj, rfl, HOWN, hb⟩ := hrel
        by_cases hlt : j < m3
        · have hji : (j : Int) < m3 := by omega
          have hk0 : ¬ (k : Int) = 0 := by have := HN.out; omega
          have hk0n : ¬ k = 0 := by omega
          obtain ⟨a, ha⟩ : ∃ a, j % k = a := ⟨_, rfl⟩
          obtain ⟨s, hs⟩ : ∃ s, k - j = s := ⟨_, rfl⟩
          obtain ⟨b, hbe⟩ : ∃ b, s % k = b := ⟨_, rfl⟩
          have hak : a < k := by rw [← ha]; exact Nat.mod_lt _ (by omega)
          have hbk : b < k := by rw [← hbe]; exact Nat.mod_lt _ (by omega)
          have hai : (a : Int) < k := by omega
          have hbi : (b : Int) < k := by omega
          have hjk : j ≤ k := by have := HM3.out; omega
          have hj9 : j + 1 ≤ 32768 := by have := HN.out; omega
          have hat : (j : Int).tmod k = (a : Int) := by rw [Int.tmod_eq_emod_of_nonneg (by omega), ← Int.natCast_emod, ha]
          have hae : (j : Int) % k = (a : Int) := by rw [← Int.natCast_emod, ha]
          have hbt : (s : Int).tmod k = (b : Int) := by rw [Int.tmod_eq_emod_of_nonneg (by omega), ← Int.natCast_emod, hbe]
          have hbm : (s : Int) % k = (b : Int) := by rw [← Int.natCast_emod, hbe]
          have hs9 : s ≤ 32768 := by have := HN.out; omega
          have hs0 : wrap64 ((k : Int) - j) = (s : Int) := by rw [show (k : Int) - j = (s : Int) by omega]; exact wrap64_nat s (by omega)
          have hs1 : IntKind.i64.wrap ((k : Int) - j) = (s : Int) := by rw [show (k : Int) - j = (s : Int) by omega]; exact wrapI_nat s (by omega)
          have HJB : Hid (-65536 ≤ (j : Int) ∧ (j : Int) ≤ 65536 ∧ (1 : Int) ≤ n ∧ (n : Int) ≤ 65536) := Lib.hid (by have := HN.out; omega)
          obtain ⟨za, z1, z2, -, -, hza⟩ := (HZ.out.keep hb.out.fr) a hak
          obtain ⟨zb, z3, z4, -, -, hzb⟩ := (HZ.out.keep hb.out.fr) b hbk
          obtain ⟨zc, hzc⟩ : ∃ zc : Rx, (zb.1, negF zb.2) = zc := ⟨_, rfl⟩
          have HVZ : Hid (nC za = Z (j % k) ∧ nC zc = cconj (Z ((k - j) % k))) := Lib.hid ⟨by rw [hza, ha], by rw [← hzc, nC_conj, hzb, hs, hbe]⟩
          have HC : Hid ((wr.cell? ⟨gZ, a * 2, none⟩ = some (.float .f64 za.1)) ∧ (wr.cell? ⟨gZ, a * 2 + 1, none⟩ = some (.float .f64 za.2)) ∧ (wr.cell? ⟨gZ, b * 2, none⟩ = some (.float .f64 zb.1)) ∧ (wr.cell? ⟨gZ, b * 2 + 1, none⟩ = some (.float .f64 zb.2))) := Lib.hid ⟨z1, z2, z3, z4⟩
          clear ha hs hbe hjk hs9 z1 z2 z3 z4 hza hzb hak hbk
          have HS14 : Hid (∀ w', Hid (Mem.plain.On wr w') → (w'.cell? ⟨gZ, a * 2, none⟩ = some (.float .f64 za.1) ∧ w'.cell? ⟨gZ, a * 2 + 1, none⟩ = some (.float .f64 za.2) ∧ w'.cell? ⟨gZ, b * 2, none⟩ = some (.float .f64 zb.1) ∧ w'.cell? ⟨gZ, b * 2 + 1, none⟩ = some (.float .f64 zb.2) ∧ Hid (Mem.plain.On wr w'))) := Lib.hid (fun w' h => ⟨on_cell MO trivial h HC.out.1, on_cell MO trivial h HC.out.2.1, on_cell MO trivial h HC.out.2.2.1, on_cell MO trivial h HC.out.2.2.2, h⟩)
          go_upto_region 14 with (fail)
          refine wp_region_S (fun w' => (w'.cell? ⟨gZ, a * 2, none⟩ = some (.float .f64 za.1) ∧ w'.cell? ⟨gZ, a * 2 + 1, none⟩ = some (.float .f64 za.2) ∧ w'.cell? ⟨gZ, b * 2, none⟩ = some (.float .f64 zb.1) ∧ w'.cell? ⟨gZ, b * 2 + 1, none⟩ = some (.float .f64 zb.2) ∧ Hid (Mem.plain.On wr w'))) 17 (by kernel_rfl) ?_
          have hS0 := HS14.out _ (Lib.hid ((MO.on_refl trivial).drew MO))
          refine Takes.intro [0,1,2,3,4,5,6,7,8,9,10,11,12,13] ?_
          repeat (refine Takes.step (v := ?_) (by kernel_rfl) rfl (fun _ _ _ h => h) rfl hS0 (fun w hSw => by (try dsimp only at hSw); go_simp; try with_reducible rfl) ?_; try simp only [List.getElem_toArray, List.getElem_cons_zero, List.getElem_cons_succ, Act.put, List.setIfInBounds_toArray, List.set_cons_zero, List.set_cons_succ])
          refine Takes.nil ?_
          refine wpFl_begin 15 16 11 12 (FlC Mem.plain wr.heap.size) (by simp) (by simp) hS0 (fun x1 x2 => FlC.start _ _ _ _) ?_
          clear hS0
          refine wpFl_one 14 70 (floatsC MO (D := wr) (fun w h => h.2.2.2.2.out) (fun w h => HS14.out w (Lib.hid h)) (by decide) (by decide) ⟨_, rfl, rfl, rfl, rfl⟩ ⟨_, rfl, rfl, rfl, rfl⟩) (by kernel_rfl) rfl rfl rfl (by decide) (by decide) (by decide) (by decide) ?_
          intro g1 x1 g2 x2 wa hSa hFa K hK
          try simp only [ptA, List.getElem_toArray, List.getElem_cons_zero, List.getElem_cons_succ, Act.put, List.setIfInBounds_toArray, List.set_cons_zero, List.set_cons_succ] at hK ⊢
          go_simp
          refine (Conj_any zb _).mono ?_
          rintro z wz ⟨hz, hb2⟩
          rw [hzc] at hz
          subst hz
          have hb3 : Mem.plain.On wa wz := ⟨trivial, hb2⟩
          refine hK.out _ _ (HS14.out _ (Lib.hid (hSa.2.2.2.2.out.trans MO hb3))) (FlC.keep MO hFa hb3 trivial) ?_
          clear hK K hb2 hb3 hFa hSa
          try simp only [ptA, List.getElem_toArray, List.getElem_cons_zero, List.getElem_cons_succ, Act.put, List.setIfInBounds_toArray, List.set_cons_zero, List.set_cons_succ]
          refine wpFl_end 2 17 (floatsC MO (D := wr) (fun w h => h.2.2.2.2.out) (fun w h => HS14.out w (Lib.hid h)) (by decide) (by decide) ⟨_, rfl, rfl, rfl, rfl⟩ ⟨_, rfl, rfl, rfl, rfl⟩) (by kernel_rfl) (by decide) rfl ?_
          intro x1 x2 wa hSa hFa
          obtain ⟨p1, p2, rfl, rfl, hpp, lp1, lp2, bp1, bp2⟩ := hFa.done
          simp only [List.toList_toArray, List.drop_succ_cons, List.drop_zero]
          try simp only [ptA, List.getElem_toArray, List.getElem_cons_zero, List.getElem_cons_succ, Act.put, List.setIfInBounds_toArray, List.set_cons_zero, List.set_cons_succ]
          obtain ⟨k0, k1, k2, k3, k4, k5⟩ := box2 MO hSa.2.2.2.2.out trivial lp1 lp2 hpp bp1 bp2 za zc
          unfold setB at k0 k1 k2 k3 k4 k5
          obtain ⟨i0, i1, i2, i3, -, -⟩ := bp1
          obtain ⟨j0, j1, j2, j3, -, -⟩ := k0
          go_upto_region 15 with (fail)
          obtain ⟨wA, hW⟩ : ∃ wA, wA = (((wa.setCell ⟨p1, 0, none⟩ (.float .f64 za.1)).setCell ⟨p1, 1, none⟩ (.float .f64 za.2)).setCell ⟨p2, 0, none⟩ (.float .f64 zc.1)).setCell ⟨p2, 1, none⟩ (.float .f64 zc.2) := ⟨_, rfl⟩
          rw [← hW] at k1 k2 k3 k4 k5 ⊢
          obtain ⟨gA, hp1⟩ : ∃ gA, gA = p1 := ⟨_, rfl⟩
          obtain ⟨gB, hp2⟩ : ∃ gB, gB = p2 := ⟨_, rfl⟩
          rw [← hp1] at k1 lp1 ⊢
          rw [← hp2] at k2 lp2 ⊢
          have HU_wA := Lib.hid k1
          have HV_wA := Lib.hid k2
          have HD_wA := Lib.hid k3
          have HG_wA := Lib.hid (k5 _ _ _ HOWN.out)
          clear i0 i1 i2 i3 j0 j1 j2 j3 k1 k2 k3 k4 k5 hW hp1 hp2 lp1 lp2 hpp hSa hFa
          clear HS14 HC hzc
          have HO_wA := Lib.hid (hb.out.trans MO HD_wA.out)
          have HS15 : Hid (∀ w', Hid (Mem.plain.On wA w') → (w'.cell? ⟨gA, 0, none⟩ = some (.float .f64 za.1) ∧ w'.cell? ⟨gA, 1, none⟩ = some (.float .f64 za.2) ∧ w'.cell? ⟨gB, 0, none⟩ = some (.float .f64 zc.1) ∧ w'.cell? ⟨gB, 1, none⟩ = some (.float .f64 zc.2) ∧ Hid (Mem.plain.On wA w'))) := Lib.hid (fun w' h => ⟨on_cell MO trivial h HU_wA.out.c0, on_cell MO trivial h HU_wA.out.c1, on_cell MO trivial h HV_wA.out.c0, on_cell MO trivial h HV_wA.out.c1, h⟩)
          go_upto_region 15 with (fail)
          refine wp_region_S (fun w' => (w'.cell? ⟨gA, 0, none⟩ = some (.float .f64 za.1) ∧ w'.cell? ⟨gA, 1, none⟩ = some (.float .f64 za.2) ∧ w'.cell? ⟨gB, 0, none⟩ = some (.float .f64 zc.1) ∧ w'.cell? ⟨gB, 1, none⟩ = some (.float .f64 zc.2) ∧ Hid (Mem.plain.On wA w'))) 11 (by kernel_rfl) ?_
          have hS0 := HS15.out _ (Lib.hid ((MO.on_refl trivial).drew MO))
          refine Takes.intro [0,1,4,5] ?_
          repeat (refine Takes.step (v := ?_) (by kernel_rfl) rfl (fun _ _ _ h => h) rfl hS0 (fun w hSw => by (try dsimp only at hSw); go_simp; try with_reducible rfl) ?_; try simp only [List.getElem_toArray, List.getElem_cons_zero, List.getElem_cons_succ, Act.put, List.setIfInBounds_toArray, List.set_cons_zero, List.set_cons_succ])
          refine Takes.nil ?_
          refine wpFl_begin 9 10 13 14 (FlC Mem.plain wA.heap.size) (by simp) (by simp) hS0 (fun x1 x2 => FlC.start _ _ _ _) ?_
          clear hS0
          refine wpFl_one 2 73 (floatsC MO (D := wA) (fun w h => h.2.2.2.2.out) (fun w h => HS15.out w (Lib.hid h)) (by decide) (by decide) ⟨_, rfl, rfl, rfl, rfl⟩ ⟨_, rfl, rfl, rfl, rfl⟩) (by kernel_rfl) rfl rfl rfl (by decide) (by decide) (by decide) (by decide) ?_
          intro g1 x1 g2 x2 wa hSa hFa K hK
          try simp only [ptA, List.getElem_toArray, List.getElem_cons_zero, List.getElem_cons_succ, Act.put, List.setIfInBounds_toArray, List.set_cons_zero, List.set_cons_succ] at hK ⊢
          go_simp
          refine (addC_any za zc _).mono ?_
          rintro z wz ⟨⟨q1, rfl, hq1⟩, hb2⟩
          have HQ1 := Lib.hid hq1
          clear hq1
          have hb3 : Mem.plain.On wa wz := ⟨trivial, hb2⟩
          refine hK.out _ _ (HS15.out _ (Lib.hid (hSa.2.2.2.2.out.trans MO hb3))) (FlC.keep MO hFa hb3 trivial) ?_
          clear hK K hb2 hb3 hFa hSa
          try simp only [ptA, List.getElem_toArray, List.getElem_cons_zero, List.getElem_cons_succ, Act.put, List.setIfInBounds_toArray, List.set_cons_zero, List.set_cons_succ]
          refine wpFl_one 3 74 (floatsC MO (D := wA) (fun w h => h.2.2.2.2.out) (fun w h => HS15.out w (Lib.hid h)) (by decide) (by decide) ⟨_, rfl, rfl, rfl, rfl⟩ ⟨_, rfl, rfl, rfl, rfl⟩) (by kernel_rfl) rfl rfl rfl (by decide) (by decide) (by decide) (by decide) ?_
          intro g1 x1 g2 x2 wa hSa hFa K hK
          try simp only [ptA, List.getElem_toArray, List.getElem_cons_zero, List.getElem_cons_succ, Act.put, List.setIfInBounds_toArray, List.set_cons_zero, List.set_cons_succ] at hK ⊢
          go_simp
          refine (half_any q1 _).mono ?_
          rintro z wz ⟨⟨q2, rfl, hq2⟩, hb2⟩
          have HQ2 := Lib.hid hq2
          clear hq2
          have hb3 : Mem.plain.On wa wz := ⟨trivial, hb2⟩
          refine hK.out _ _ (HS15.out _ (Lib.hid (hSa.2.2.2.2.out.trans MO hb3))) (FlC.keep MO hFa hb3 trivial) ?_
          clear hK K hb2 hb3 hFa hSa
          try simp only [ptA, List.getElem_toArray, List.getElem_cons_zero, List.getElem_cons_succ, Act.put, List.setIfInBounds_toArray, List.set_cons_zero, List.set_cons_succ]
          refine wpFl_one 6 77 (floatsC MO (D := wA) (fun w h => h.2.2.2.2.out) (fun w h => HS15.out w (Lib.hid h)) (by decide) (by decide) ⟨_, rfl, rfl, rfl, rfl⟩ ⟨_, rfl, rfl, rfl, rfl⟩) (by kernel_rfl) rfl rfl rfl (by decide) (by decide) (by decide) (by decide) ?_
          intro g1 x1 g2 x2 wa hSa hFa K hK
          try simp only [ptA, List.getElem_toArray, List.getElem_cons_zero, List.getElem_cons_succ, Act.put, List.setIfInBounds_toArray, List.set_cons_zero, List.set_cons_succ] at hK ⊢
          go_simp
          refine (subC_any za zc _).mono ?_
          rintro z wz ⟨⟨q3, rfl, hq3⟩, hb2⟩
          have HQ3 := Lib.hid hq3
          clear hq3
          have hb3 : Mem.plain.On wa wz := ⟨trivial, hb2⟩
          refine hK.out _ _ (HS15.out _ (Lib.hid (hSa.2.2.2.2.out.trans MO hb3))) (FlC.keep MO hFa hb3 trivial) ?_
          clear hK K hb2 hb3 hFa hSa
          try simp only [ptA, List.getElem_toArray, List.getElem_cons_zero, List.getElem_cons_succ, Act.put, List.setIfInBounds_toArray, List.set_cons_zero, List.set_cons_succ]
          refine wpFl_one 7 78 (floatsC MO (D := wA) (fun w h => h.2.2.2.2.out) (fun w h => HS15.out w (Lib.hid h)) (by decide) (by decide) ⟨_, rfl, rfl, rfl, rfl⟩ ⟨_, rfl, rfl, rfl, rfl⟩) (by kernel_rfl) rfl rfl rfl (by decide) (by decide) (by decide) (by decide) ?_
          intro g1 x1 g2 x2 wa hSa hFa K hK
          try simp only [ptA, List.getElem_toArray, List.getElem_cons_zero, List.getElem_cons_succ, Act.put, List.setIfInBounds_toArray, List.set_cons_zero, List.set_cons_succ] at hK ⊢
          go_simp
          refine (half_any q3 _).mono ?_
          rintro z wz ⟨⟨q4, rfl, hq4⟩, hb2⟩
          have HQ4 := Lib.hid hq4
          clear hq4
          have hb3 : Mem.plain.On wa wz := ⟨trivial, hb2⟩
          refine hK.out _ _ (HS15.out _ (Lib.hid (hSa.2.2.2.2.out.trans MO hb3))) (FlC.keep MO hFa hb3 trivial) ?_
          clear hK K hb2 hb3 hFa hSa
          try simp only [ptA, List.getElem_toArray, List.getElem_cons_zero, List.getElem_cons_succ, Act.put, List.setIfInBounds_toArray, List.set_cons_zero, List.set_cons_succ]
          refine wpFl_one 8 79 (floatsC MO (D := wA) (fun w h => h.2.2.2.2.out) (fun w h => HS15.out w (Lib.hid h)) (by decide) (by decide) ⟨_, rfl, rfl, rfl, rfl⟩ ⟨_, rfl, rfl, rfl, rfl⟩) (by kernel_rfl) rfl rfl rfl (by decide) (by decide) (by decide) (by decide) ?_
          intro g1 x1 g2 x2 wa hSa hFa K hK
          try simp only [ptA, List.getElem_toArray, List.getElem_cons_zero, List.getElem_cons_succ, Act.put, List.setIfInBounds_toArray, List.set_cons_zero, List.set_cons_succ] at hK ⊢
          go_simp
          refine (Turn3_any q4 _).mono ?_
          rintro z wz ⟨hz, hb2⟩
          obtain ⟨q5, hq5⟩ : ∃ q5 : Rx, (q4.2, negF q4.1) = q5 := ⟨_, rfl⟩
          rw [hq5] at hz
          subst hz
          have HQ5 : Hid (nC q5 = cturn3 (nC q4)) := Lib.hid (by rw [← hq5]; exact nC_turn3 q4)
          clear hq5
          have hb3 : Mem.plain.On wa wz := ⟨trivial, hb2⟩
          refine hK.out _ _ (HS15.out _ (Lib.hid (hSa.2.2.2.2.out.trans MO hb3))) (FlC.keep MO hFa hb3 trivial) ?_
          clear hK K hb2 hb3 hFa hSa
          try simp only [ptA, List.getElem_toArray, List.getElem_cons_zero, List.getElem_cons_succ, Act.put, List.setIfInBounds_toArray, List.set_cons_zero, List.set_cons_succ]
          refine wpFl_end 2 11 (floatsC MO (D := wA) (fun w h => h.2.2.2.2.out) (fun w h => HS15.out w (Lib.hid h)) (by decide) (by decide) ⟨_, rfl, rfl, rfl, rfl⟩ ⟨_, rfl, rfl, rfl, rfl⟩) (by kernel_rfl) (by decide) rfl ?_
          intro x1 x2 wa hSa hFa
          obtain ⟨p1, p2, rfl, rfl, hpp, lp1, lp2, bp1, bp2⟩ := hFa.done
          simp only [List.toList_toArray, List.drop_succ_cons, List.drop_zero]
          try simp only [ptA, List.getElem_toArray, List.getElem_cons_zero, List.getElem_cons_succ, Act.put, List.setIfInBounds_toArray, List.set_cons_zero, List.set_cons_succ]
          obtain ⟨k0, k1, k2, k3, k4, k5⟩ := box2 MO hSa.2.2.2.2.out trivial lp1 lp2 hpp bp1 bp2 q2 q5
          unfold setB at k0 k1 k2 k3 k4 k5
          obtain ⟨i0, i1, i2, i3, -, -⟩ := bp1
          obtain ⟨j0, j1, j2, j3, -, -⟩ := k0
          go_upto_region 16 with (fail)
          obtain ⟨wB, hW⟩ : ∃ wB, wB = (((wa.setCell ⟨p1, 0, none⟩ (.float .f64 q2.1)).setCell ⟨p1, 1, none⟩ (.float .f64 q2.2)).setCell ⟨p2, 0, none⟩ (.float .f64 q5.1)).setCell ⟨p2, 1, none⟩ (.float .f64 q5.2) := ⟨_, rfl⟩
          rw [← hW] at k1 k2 k3 k4 k5 ⊢
          obtain ⟨gE, hp1⟩ : ∃ gE, gE = p1 := ⟨_, rfl⟩
          obtain ⟨gO, hp2⟩ : ∃ gO, gO = p2 := ⟨_, rfl⟩
          rw [← hp1] at k1 lp1 ⊢
          rw [← hp2] at k2 lp2 ⊢
          have HU_wB := Lib.hid k1
          have HV_wB := Lib.hid k2
          have HD_wB := Lib.hid k3
          have HG_wB := Lib.hid (k5 _ _ _ HG_wA.out)
          clear i0 i1 i2 i3 j0 j1 j2 j3 k1 k2 k3 k4 k5 hW hp1 hp2 lp1 lp2 hpp hSa hFa
          have HO_wB := Lib.hid (HO_wA.out.trans MO HD_wB.out)
          have HV8 : Hid (∀ a b c : Cx, nC q2 = a → True) := Lib.hid (fun _ _ _ _ => trivial)
          clear HS15 HD_wA HD_wB HU_wA HV_wA HG_wA HOWN hb HV8
          have HS16 : Hid (∀ w', Hid (Mem.plain.On wB w') → w'.cell? ⟨gE, 0, none⟩ = some (.float .f64 q2.1) ∧ w'.cell? ⟨gE, 1, none⟩ = some (.float .f64 q2.2) ∧ w'.cell? ⟨gO, 0, none⟩ = some (.float .f64 q5.1) ∧ w'.cell? ⟨gO, 1, none⟩ = some (.float .f64 q5.2) ∧ Hid (Mem.plain.On wB w')) := Lib.hid (fun w' h => ⟨on_cell MO trivial h HU_wB.out.c0, on_cell MO trivial h HU_wB.out.c1, on_cell MO trivial h HV_wB.out.c0, on_cell MO trivial h HV_wB.out.c1, h⟩)
          go_upto_region 16 with (fail)
          refine wp_region_S (fun w' => w'.cell? ⟨gE, 0, none⟩ = some (.float .f64 q2.1) ∧ w'.cell? ⟨gE, 1, none⟩ = some (.float .f64 q2.2) ∧ w'.cell? ⟨gO, 0, none⟩ = some (.float .f64 q5.1) ∧ w'.cell? ⟨gO, 1, none⟩ = some (.float .f64 q5.2) ∧ Hid (Mem.plain.On wB w')) 9 (by kernel_rfl) ?_
          have hS0 := HS16.out _ (Lib.hid ((MO.on_refl trivial).drew MO))
          refine Takes.intro [0,1,2,3,4,5] ?_
          repeat (refine Takes.step (v := ?_) (by kernel_rfl) rfl (fun _ _ _ h => h) rfl hS0 (fun w hSw => by (try dsimp only at hSw); go_simp; try with_reducible rfl) ?_; try simp only [List.getElem_toArray, List.getElem_cons_zero, List.getElem_cons_succ, Act.put, List.setIfInBounds_toArray, List.set_cons_zero, List.set_cons_succ])
          refine Takes.nil ?_
          refine wpAnyS_one (i := 6) (by kernel_rfl) rfl rfl (fun K hK => ?_)
          go_simp
          refine (root_any (j : Int) n _ HJB.out.1 HJB.out.2.1 HJB.out.2.2.1 HJB.out.2.2.2).mono ?_
          rintro z wz1 ⟨⟨q6, rfl, hq6⟩, hb2⟩
          have Hq6 := Lib.hid hq6
          have hS1 := HS16.out _ (Lib.hid (hS0.2.2.2.2.out.below MO hb2))
          clear hb2 hq6
          refine hK.out _ _ (fun _ => hS1) ?_
          clear hK K
          try simp only [List.getElem_toArray, List.getElem_cons_zero, List.getElem_cons_succ, Act.put, List.setIfInBounds_toArray, List.set_cons_zero, List.set_cons_succ]
          refine wpAnyS_one (i := 7) (by kernel_rfl) rfl rfl (fun K hK => ?_)
          go_simp
          refine (mulC_any q5 q6 _).mono ?_
          rintro z wz2 ⟨⟨q7, rfl, hq7⟩, hb2⟩
          have Hq7 := Lib.hid hq7
          have hS2 := HS16.out _ (Lib.hid (hS1.2.2.2.2.out.below MO hb2))
          clear hb2 hq7
          refine hK.out _ _ (fun _ => hS2) ?_
          clear hK K
          try simp only [List.getElem_toArray, List.getElem_cons_zero, List.getElem_cons_succ, Act.put, List.setIfInBounds_toArray, List.set_cons_zero, List.set_cons_succ]
          refine wpAnyS_one (i := 8) (by kernel_rfl) rfl rfl (fun K hK => ?_)
          go_simp
          refine (addC_any q2 q7 _).mono ?_
          rintro z wz3 ⟨⟨q8, rfl, hq8⟩, hb2⟩
          have Hq8 := Lib.hid hq8
          have hS3 := HS16.out _ (Lib.hid (hS2.2.2.2.2.out.below MO hb2))
          clear hb2 hq8
          refine hK.out _ _ (fun _ => hS3) ?_
          clear hK K
          try simp only [List.getElem_toArray, List.getElem_cons_zero, List.getElem_cons_succ, Act.put, List.setIfInBounds_toArray, List.set_cons_zero, List.set_cons_succ]
          refine wpAnyS_end 2 9 (by kernel_rfl) (by decide) rfl ?_
          simp only [List.toList_toArray, List.drop_succ_cons, List.drop_zero]
          have hr2 := HG_wB.out.keep MO hS3.2.2.2.2.out trivial
          obtain ⟨u0, r1, r2, r3, r4, -⟩ := hr2.row j hlt
          have HN2 := Lib.hid (hr2.set MO (HO_wB.out.trans MO hS3.2.2.2.2.out) (Nat.le_refl _) hlt q8)
          have HQ8 : Hid (nC q8 = evV Z k n j) := Lib.hid (by rw [Hq8.out, Hq7.out, Hq6.out, HQ2.out, HQ5.out, HQ4.out, HQ3.out, HQ1.out, HVZ.out.1, HVZ.out.2]; rfl)
          clear hr2 hS0 hS1 hS2 hS3 HG_wB HO_wB HS16 HU_wB HV_wB
          go_wp2
          exact ⟨⟨j + 1, by omega, by go_num, Lib.hid (HN2.out.1.nextC HQ8.out), Lib.hid HN2.out.2⟩, by simp [intOf]; omega⟩
        · obtain rfl : j = m3 := by omega
          have hj9 : j ≤ 32768 := by have := HN.out; have := HM3.out; omega
          have HR := HOWN.out.full
          have hkm : k < j := by have := HM3.out; omega
          have hki : (k : Int) < j := by omega
          obtain ⟨u0, r1, r2, r3, r4, -⟩ := HR.row k hkm
          have HN2 := Lib.hid (HR.row.setIm hkm 0)
          have HLT := Lib.hid HR.lt
          have HBB : Hid (Below w.heap.size w (wr.setCell ⟨w1.heap.size, k * 2 + 1, none⟩ (.float .f64 ((0 : Fin 18446744073709551616) : Nat)))) := Lib.hid ((HB1.out.trans (hb.out.fr.mono HB1.out.size)).setCell (p := ⟨w1.heap.size, _, none⟩) HB1.out.size _)
          clear hlt HR
          go_wp2
          go_ret
          refine ⟨w1.heap.size, rfl, HB1.out.size, by simpa using HLT.out, HN2.out.congr (fun i hi => ?_), HBB.out⟩
          unfold evF
          rfl
end Go.Proofs.YtmgfaeineklccaaGreat
/- Layer 21: real.pairs. -/
set_option linter.unusedSimpArgs false
set_option linter.unusedVariables false
namespace Go.Proofs.YtmgfaeineklccaaGreat
open Go.RowKit Go.Lib

def prV (H : Nat → Cx) (m n j : Nat) : Cx := cadd (chalf (cadd (H j) (H (j + m)))) (cturn1 (cmul (chalf (csub (H j) (H (j + m)))) (hroot (-(j : Int)) n)))
def PrL (Y : Nat → Cx) (L : List Wd) (j : Nat) : Prop := ∀ k, k < j → nz (L.getD (2 * k) 0) = (Y k).1 ∧ nz (L.getD (2 * k + 1) 0) = (Y k).2
theorem PrL.next {Y : Nat → Cx} {L : List Wd} {j : Nat} (h : PrL Y L j) (hl : L.length = 2 * j) (u : Rx) (hu : nC u = Y j) : PrL Y (L ++ [u.1, u.2]) (j + 1) := by
  intro k hk
  rw [List.getD_eq_getElem?_getD, List.getD_eq_getElem?_getD]
  by_cases e : k < j
  · rw [List.getElem?_append_left (by omega), List.getElem?_append_left (by omega)]
    have := h k e
    rwa [List.getD_eq_getElem?_getD, List.getD_eq_getElem?_getD] at this
  · obtain rfl : k = j := by omega
    rw [List.getElem?_append_right (by omega), List.getElem?_append_right (by omega), hl, Nat.sub_self, show 2 * k + 1 - 2 * k = 1 by omega, ← hu]
    exact ⟨rfl, rfl⟩
theorem owns_mono {w : World} {base base' : Nat} {v : Value} {L : List Wd} (h : OwnL w base v L) (hle : base' ≤ base) : OwnL w base' v L := by
  refine ⟨h.1, ?_⟩
  rcases h.2 with hn | ⟨g, cap, cur, e, hb, rest⟩
  · exact .inl hn
  · exact .inr ⟨g, cap, cur, e, Nat.le_trans hle hb, rest⟩
theorem wpList_app2 {ops : Array Oper} {rest : List Oper} {o : Oper} {a : Act} {w : World} {Q : Exit → Act → World → Prop} (hgd : o.guard = none) (s x : Operand) (t e : TypeId)
    (ho : o.op = .call { callee := .builtin .append, args := #[s, x], argTypes := #[t, t] }) (sz bytes : Nat) (z : Value) (hU : Tryz.prog.underlying t = some (.slice e))
    (hI : (Tryz.prog.info? e).map (fun i => (i.zero, i.size, i.bytes)) = some (some z, sz, bytes)) (hzs : z.cells.size = sz) (hsz : 0 < sz) (hby : bytes ≤ 64)
    (base : Nat) (v : Value) (k : Nat) (xs : List Value) (hs : a.eval s = v) (hown : w.ownsRow base e sz v k xs)
    (b c : Nat) (news : List Value) (hl : news.length = 2 * sz) (hx : a.eval x = .slice (some ⟨b, 0, none⟩) 2 c) (hn : ∀ j u, news[j]? = some u → w.cell? ⟨b, j, none⟩ = some u) (h1 : ∀ u ∈ news, u.oneCell' = true)
    (hk : k + 2 ≤ 1099511627776) (hbase : base ≤ w.heap.size)
    (h : ∀ g cap w', Hid (w'.ownsRow base e sz (.slice (some ⟨g, 0, none⟩) (k + 2) cap) (k + 2) (xs ++ news)) → Hid (w.grownBy w' v.ownBlock) → Hid (v.ownBlock = some g ∨ g = w.heap.size) → wpList Tryz.prog ops Q rest (a.put o.dst (.slice (some ⟨g, 0, none⟩) (k + 2) cap)) w') : wpList Tryz.prog ops Q (o :: rest) a w := by
  obtain ⟨i0, hi, hz0, hz1, hz2⟩ := info_parts hI
  refine wpList_append_lies w hgd s x t ho base e i0 z sz bytes hU hi hz0 hz1 hz2 hzs hsz v k xs hs hown ⟨b, 0, none⟩ 2 c news hx (by omega) ?_ h1 (by omega) (by unfold maxLen; omega) ?_ hbase _ rfl ?_
  · intro j u hj
    have := hn j u hj
    rw [Addr.add]
    split
    · rename_i e; subst e; exact this
    · simpa using this
  · have : (k + 2) * bytes ≤ 1099511627776 * 64 := Nat.mul_le_mul hk hby
    omega
  · intro g cap w' h1 h2 h3 _
    exact h g cap w' (Lib.hid h1) (Lib.hid h2) (Lib.hid h3)

theorem bs2_float (u v : Wd) (w : World) : (Instr.buildSlice 53 2 #[(0, .float .f64 (u : Nat)), (1, .float .f64 (v : Nat))]).run Tryz.prog w = .ok (.slice (some ⟨w.heap.size, 0, none⟩) 2 2) (w.alloc (.cells #[.float .f64 (u : Nat), .float .f64 (v : Nat)] 33)) := by
  obtain ⟨i0, hi, hz0, hz1, hz2⟩ := info_parts info_float
  refine run_buildSlice w 53 33 2 _ #[.float .f64 (u : Nat), .float .f64 (v : Nat)] i0 _ Tryz.underlying53 hi hz0 (by rw [hz1]; decide) (by rw [hz1]; decide) ?_
  rw [hz1]
  have hr : Array.range 2 = #[0, 1] := by decide
  have hr1 : Array.range 1 = #[0] := by decide
  simp [Instr.fill, Value.cells, hr, hr1]

set_option maxRecDepth 100000 in
set_option maxHeartbeats 4000000 in
theorem pairs_any (kind r : Int) (q : Fo) (m : Nat) (F : Tr Cx) (P : PlanE kind r q m F) (C : ChkC kind m r q m 0) (A : Option Addr) (c : Nat) (X : Option Addr) (l n cx : Nat) (h : Nat → Cx) (w : World) (hk : Kids w A 0 q) (hX : CsAt w X l h) (hl : l = n / 2 + 1) (hn : n = 2 * m) (m1 : 1 ≤ m) (m2 : m ≤ 8192) (hg : guardE (prV (wholeC h n) m n) m = 0) :
    Calls Tryz.prog 90 #[plV kind m r A q.len c, .slice X l cx, .int .i64 n] w fun z w' => ∃ v L, z = .returned v ∧ OwnL w' w.heap.size v L ∧ L.length = n ∧ PrL (overF ringR (F 1 (prV (wholeC h n) m n)) m) L m ∧ Below w.heap.size w w' := by
  have MO := Mem.plain_ok
  obtain ⟨Z, hZZ⟩ : ∃ Z, overF ringR (F 1 (prV (wholeC h n) m n)) m = Z := ⟨_, rfl⟩
  rw [hZZ]
  obtain ⟨W, hW⟩ : ∃ W, W = w.alloc (.cells #[.int .i64 kind, .int .i64 m, .int .i64 r, .slice A q.len c] 27) := ⟨_, rfl⟩
  have hbb : Below w.heap.size w W := by rw [hW]; exact (Below.refl _ w).alloc (Nat.le_refl _) _
  obtain ⟨p0, p1, p2, p3⟩ := PlBox.new w kind m r A q.len c 27
  rw [← hW] at p0 p1 p2 p3
  obtain ⟨bP, hbP⟩ : ∃ bP, bP = w.heap.size := ⟨_, rfl⟩
  rw [← hbP] at p0 p1 p2 p3
  have HPB := Lib.hid (And.intro p0 (And.intro p1 (And.intro p2 p3)))
  have HB := Lib.hid hbb
  have HK := Lib.hid (hk.below hbb)
  have HWH := Lib.hid (whole_any X n l cx h W (hX.keep hbb) hl (by omega) (by omega))
  obtain ⟨H, hH⟩ : ∃ H, wholeC h n = H := ⟨_, rfl⟩
  rw [hH] at HWH hg hZZ
  have HZZ := Lib.hid hZZ
  have HP := Lib.hid P
  have HC := Lib.hid C
  have HG := Lib.hid hg
  have HN := Lib.hid (And.intro hn (And.intro m1 m2))
  have hmk := mk_C m (by omega)
  have hbs := bs2_float
  have hq0 : wrap64 ((n : Int) / 2) = (m : Int) := by rw [show (n : Int) / 2 = (m : Int) by omega]; exact wrap64_nat m (by omega)
  have hq1 : IntKind.i64.wrap ((n : Int) / 2) = (m : Int) := by rw [show (n : Int) / 2 = (m : Int) by omega]; exact wrapI_nat m (by omega)
  clear hk hX P C hg p0 p1 p2 p3 hbb hn m1 m2 hZZ hH hl
  go_enter Tryz.func90, Tryz.ntmps90
  go_upto_region 1 with (fail)
  rw [← hW, ← hbP]
  clear hW hbP
  go_wp2_with fail
  refine HWH.out.mono ?_
  rintro z w1 ⟨gF, rfl, -, -, hF, hb1⟩
  have HF := Lib.hid hF
  have HB1 := Lib.hid hb1
  clear hF hb1 HWH
  go_wp2
  clear hmk hq0 hq1
  go_loopw [27] (fun vi wr => ∃ k : Nat, k ≤ m ∧ vi = .int .i64 k ∧ Hid (OwnC Mem.plain wr w1.heap.size m (upToC k (prV H m n))) ∧ Hid (Mem.plain.On w1 wr)) (fun vi _ => m - (intOf vi).toNat)
  case atStart =>
    obtain ⟨h1, h2⟩ := OwnC.make MO (MO.on_refl (w := w1) trivial) m 52
    exact ⟨0, by omega, rfl, Lib.hid h1.empty, Lib.hid h2⟩
  case round =>
    obtain ⟨j, hj, rfl, HOWN, hb⟩ := hrel
    by_cases hlt : j < m
    · have hji : (j : Int) < m := by omega
      have hj9 : j + 1 ≤ 32768 := by have := HN.out; omega
      obtain ⟨b, hbe⟩ : ∃ b, j + m = b := ⟨_, rfl⟩
      have hjn : j < n := by have := HN.out; omega
      have hbn : b < n := by have := HN.out; omega
      have hn9 : n ≤ 16384 := by have := HN.out; omega
      have hjni : (j : Int) < n := by omega
      have hbni : (b : Int) < n := by omega
      have hb0 : wrap64 ((j : Int) + m) = (b : Int) := by rw [show (j : Int) + m = (b : Int) by omega]; exact wrap64_nat b (by omega)
      have hb1 : IntKind.i64.wrap ((j : Int) + m) = (b : Int) := by rw [show (j : Int) + m = (b : Int) by omega]; exact wrapI_nat b (by omega)
      obtain ⟨jm, hjm⟩ : ∃ jm : Int, -(j : Int) = jm := ⟨_, rfl⟩
      have hjm0 : wrap64 (-(j : Int)) = jm := by rw [hjm]; unfold wrap64; omega
      have hjm1 : IntKind.i64.wrap (-(j : Int)) = jm := by rw [hjm, IntKind.wrap_i64]; omega
      have HJM := Lib.hid hjm
      have HJB : Hid (-65536 ≤ jm ∧ jm ≤ 65536 ∧ (1 : Int) ≤ n ∧ (n : Int) ≤ 65536) := Lib.hid (by have := HN.out; omega)
      obtain ⟨za, z1, z2, -, -, hza⟩ := (HF.out.keep hb.out.fr) j hjn
      obtain ⟨zb, z3, z4, -, -, hzb⟩ := (HF.out.keep hb.out.fr) b hbn
      have HVZ : Hid (nC za = H j ∧ nC zb = H (j + m)) := Lib.hid ⟨hza, by rw [hzb, hbe]⟩
      have HC7 : Hid ((wr.cell? ⟨gF, j * 2, none⟩ = some (.float .f64 za.1)) ∧ (wr.cell? ⟨gF, j * 2 + 1, none⟩ = some (.float .f64 za.2)) ∧ (wr.cell? ⟨gF, b * 2, none⟩ = some (.float .f64 zb.1)) ∧ (wr.cell? ⟨gF, b * 2 + 1, none⟩ = some (.float .f64 zb.2))) := Lib.hid ⟨z1, z2, z3, z4⟩
      clear hbe hjn hbn hn9 z1 z2 z3 z4 hza hzb hjm
      have HS7 : Hid (∀ w', Hid (Mem.plain.On wr w') → (w'.cell? ⟨gF, j * 2, none⟩ = some (.float .f64 za.1) ∧ w'.cell? ⟨gF, j * 2 + 1, none⟩ = some (.float .f64 za.2) ∧ w'.cell? ⟨gF, b * 2, none⟩ = some (.float .f64 zb.1) ∧ w'.cell? ⟨gF, b * 2 + 1, none⟩ = some (.float .f64 zb.2) ∧ Hid (Mem.plain.On wr w'))) := Lib.hid (fun w' h => ⟨on_cell MO trivial h HC7.out.1, on_cell MO trivial h HC7.out.2.1, on_cell MO trivial h HC7.out.2.2.1, on_cell MO trivial h HC7.out.2.2.2, h⟩)
      go_upto_region 7 with (fail)
      refine wp_region_S (fun w' => (w'.cell? ⟨gF, j * 2, none⟩ = some (.float .f64 za.1) ∧ w'.cell? ⟨gF, j * 2 + 1, none⟩ = some (.float .f64 za.2) ∧ w'.cell? ⟨gF, b * 2, none⟩ = some (.float .f64 zb.1) ∧ w'.cell? ⟨gF, b * 2 + 1, none⟩ = some (.float .f64 zb.2) ∧ Hid (Mem.plain.On wr w'))) 13 (by kernel_rfl) ?_
      have hS0 := HS7.out _ (Lib.hid ((MO.on_refl trivial).drew MO))
      refine Takes.intro [0,1,2,3,4,5,6,7,8,9] ?_
      repeat (refine Takes.step (v := ?_) (by kernel_rfl) rfl (fun _ _ _ h => h) rfl hS0 (fun w hSw => by (try dsimp only at hSw); go_simp; try with_reducible rfl) ?_; try simp only [List.getElem_toArray, List.getElem_cons_zero, List.getElem_cons_succ, Act.put, List.setIfInBounds_toArray, List.set_cons_zero, List.set_cons_succ])
      refine Takes.nil ?_
      have hzC := zero_C
      have HOD : Hid (Mem.plain.On wr wr.drew) := Lib.hid ((MO.on_refl trivial).drew MO)
      have HOE : Hid (Mem.plain.On wr (wr.drew.alloc (.cells #[.float .f64 0, .float .f64 0] 52))) := Lib.hid (HOD.out.below MO ((Below.refl _ _).alloc (Nat.le_refl _) _))
      have HOF : Hid (Mem.plain.On wr ((wr.drew.alloc (.cells #[.float .f64 0, .float .f64 0] 52)).alloc (.cells #[.float .f64 0, .float .f64 0] 52))) := Lib.hid (HOE.out.below MO ((Below.refl _ _).alloc (Nat.le_refl _) _))
      have hsz : (wr.alloc (.cells #[.float .f64 0, .float .f64 0] 52)).heap.size = wr.heap.size + 1 := by simp
      have hF2 := FlC.one MO ((MO.on_refl (w := wr) trivial).below MO ((Below.refl _ wr).alloc (Nat.le_refl _) (.cells #[.float .f64 0, .float .f64 0] 52))) (FlC.one MO (MO.on_refl (w := wr) trivial) (FlC.start wr.heap.size undef undef wr) 52).swap 52
      rw [hsz] at hF2
      have hF3 := FlC.keep MO hF2 ((MO.on_refl trivial).drew MO) trivial
      clear hF2 hsz
      refine wpAnyS_two (i := 10) (j := 11) (di := 11) (dj := 12) (fun v1 v2 w2 => FlC Mem.plain wr.heap.size true v1 true v2 w2) (by kernel_rfl) rfl rfl (by decide) (by decide) rfl rfl (fun K hK => ?_) (fun K hK => ?_) ?_
      · try simp only [List.getElem_toArray, List.getElem_cons_zero, List.getElem_cons_succ, Act.put, List.setIfInBounds_toArray, List.set_cons_zero, List.set_cons_succ] at hK
        go_simp
        refine hK.out _ _ (HS7.out _ HOE) (fun K2 hK2 => ?_)
        clear hK K
        try simp only [List.getElem_toArray, List.getElem_cons_zero, List.getElem_cons_succ, Act.put, List.setIfInBounds_toArray, List.set_cons_zero, List.set_cons_succ] at hK2 ⊢
        go_simp
        exact hK2.out _ _ (HS7.out _ HOF) hF3.swap
      · try simp only [List.getElem_toArray, List.getElem_cons_zero, List.getElem_cons_succ, Act.put, List.setIfInBounds_toArray, List.set_cons_zero, List.set_cons_succ] at hK
        go_simp
        refine hK.out _ _ (HS7.out _ HOE) (fun K2 hK2 => ?_)
        clear hK K
        try simp only [List.getElem_toArray, List.getElem_cons_zero, List.getElem_cons_succ, Act.put, List.setIfInBounds_toArray, List.set_cons_zero, List.set_cons_succ] at hK2 ⊢
        go_simp
        exact hK2.out _ _ (HS7.out _ HOF) hF3
      intro v1 v2 wa hSa hFa
      clear hS0 HOD HOE HOF hzC hF3
      obtain ⟨p1, p2, rfl, rfl, hpp, lp1, lp2, bp1, bp2⟩ := hFa.done
      try simp only [List.getElem_toArray, List.getElem_cons_zero, List.getElem_cons_succ, Act.put, List.setIfInBounds_toArray, List.set_cons_zero, List.set_cons_succ]
      obtain ⟨k0, k1, k2, k3, k4, k5⟩ := box2 MO hSa.2.2.2.2.out trivial lp1 lp2 hpp bp1 bp2 za zb
      have k6 := (bp1.set MO hSa.2.2.2.2.out lp1 za).2
      have hS3 := HS7.out _ (Lib.hid k6)
      unfold setB at k0 k1 k2 k3 k4 k5 k6 hS3
      obtain ⟨i0, i1, i2, i3, -, -⟩ := bp1
      obtain ⟨j0, j1, j2, j3, -, -⟩ := k0
      refine wpAnyS_one (i := 12) (by kernel_rfl) rfl rfl (fun K hK => ?_)
      go_simp
      refine hK.out _ _ (fun _ => hS3) ?_
      clear hK K hS3 k6
      try simp only [List.getElem_toArray, List.getElem_cons_zero, List.getElem_cons_succ, Act.put, List.setIfInBounds_toArray, List.set_cons_zero, List.set_cons_succ]
      refine wpAnyS_end 1 13 (by kernel_rfl) (by decide) rfl ?_
      simp only [List.toList_toArray, List.drop_succ_cons, List.drop_zero]
      go_upto_region 8 with (fail)
      obtain ⟨wA, hW⟩ : ∃ wA, wA = (((wa.setCell ⟨p1, 0, none⟩ (.float .f64 za.1)).setCell ⟨p1, 1, none⟩ (.float .f64 za.2)).setCell ⟨p2, 0, none⟩ (.float .f64 zb.1)).setCell ⟨p2, 1, none⟩ (.float .f64 zb.2) := ⟨_, rfl⟩
      rw [← hW] at k1 k2 k3 k4 k5 ⊢
      obtain ⟨gA, hp1⟩ : ∃ gA, gA = p1 := ⟨_, rfl⟩
      obtain ⟨gB, hp2⟩ : ∃ gB, gB = p2 := ⟨_, rfl⟩
      rw [← hp1] at k1 lp1 ⊢
      rw [← hp2] at k2 lp2 ⊢
      have HU_wA := Lib.hid k1
      have HV_wA := Lib.hid k2
      have HD_wA := Lib.hid k3
      have HG_wA := Lib.hid (k5 _ _ _ HOWN.out)
      clear i0 i1 i2 i3 j0 j1 j2 j3 k1 k2 k3 k4 k5 hW hp1 hp2 lp1 lp2 hpp hSa hFa
      clear HS7 HC7
      have HO_wA := Lib.hid (hb.out.trans MO HD_wA.out)
      have HS8 : Hid (∀ w', Hid (Mem.plain.On wA w') → (w'.cell? ⟨gA, 0, none⟩ = some (.float .f64 za.1) ∧ w'.cell? ⟨gA, 1, none⟩ = some (.float .f64 za.2) ∧ w'.cell? ⟨gB, 0, none⟩ = some (.float .f64 zb.1) ∧ w'.cell? ⟨gB, 1, none⟩ = some (.float .f64 zb.2) ∧ Hid (Mem.plain.On wA w'))) := Lib.hid (fun w' h => ⟨on_cell MO trivial h HU_wA.out.c0, on_cell MO trivial h HU_wA.out.c1, on_cell MO trivial h HV_wA.out.c0, on_cell MO trivial h HV_wA.out.c1, h⟩)
      go_upto_region 8 with (fail)
      refine wp_region_S (fun w' => (w'.cell? ⟨gA, 0, none⟩ = some (.float .f64 za.1) ∧ w'.cell? ⟨gA, 1, none⟩ = some (.float .f64 za.2) ∧ w'.cell? ⟨gB, 0, none⟩ = some (.float .f64 zb.1) ∧ w'.cell? ⟨gB, 1, none⟩ = some (.float .f64 zb.2) ∧ Hid (Mem.plain.On wA w'))) 15 (by kernel_rfl) ?_
      have hS0 := HS8.out _ (Lib.hid ((MO.on_refl trivial).drew MO))
      refine Takes.intro [0,1,4,5,8,9,10] ?_
      repeat (refine Takes.step (v := ?_) (by kernel_rfl) rfl (fun _ _ _ h => h) rfl hS0 (fun w hSw => by (try dsimp only at hSw); go_simp; try with_reducible rfl) ?_; try simp only [List.getElem_toArray, List.getElem_cons_zero, List.getElem_cons_succ, Act.put, List.setIfInBounds_toArray, List.set_cons_zero, List.set_cons_succ])
      refine Takes.nil ?_
      refine wpFl_begin 13 14 13 14 (FlC Mem.plain wA.heap.size) (by simp) (by simp) hS0 (fun x1 x2 => FlC.start _ _ _ _) ?_
      clear hS0
      refine wpFl_one 2 42 (floatsC MO (D := wA) (fun w h => h.2.2.2.2.out) (fun w h => HS8.out w (Lib.hid h)) (by decide) (by decide) ⟨_, rfl, rfl, rfl, rfl⟩ ⟨_, rfl, rfl, rfl, rfl⟩) (by kernel_rfl) rfl rfl rfl (by decide) (by decide) (by decide) (by decide) ?_
      intro g1 x1 g2 x2 wa hSa hFa K hK
      try simp only [ptA, List.getElem_toArray, List.getElem_cons_zero, List.getElem_cons_succ, Act.put, List.setIfInBounds_toArray, List.set_cons_zero, List.set_cons_succ] at hK ⊢
      go_simp
      refine (addC_any za zb _).mono ?_
      rintro z wz ⟨⟨q1, rfl, hq1⟩, hb2⟩
      have Hq1 := Lib.hid hq1
      clear hq1
      have hb3 : Mem.plain.On wa wz := ⟨trivial, hb2⟩
      refine hK.out _ _ (HS8.out _ (Lib.hid (hSa.2.2.2.2.out.trans MO hb3))) (FlC.keep MO hFa hb3 trivial) ?_
      clear hK K hb2 hb3 hFa hSa
      try simp only [ptA, List.getElem_toArray, List.getElem_cons_zero, List.getElem_cons_succ, Act.put, List.setIfInBounds_toArray, List.set_cons_zero, List.set_cons_succ]
      refine wpFl_one 3 43 (floatsC MO (D := wA) (fun w h => h.2.2.2.2.out) (fun w h => HS8.out w (Lib.hid h)) (by decide) (by decide) ⟨_, rfl, rfl, rfl, rfl⟩ ⟨_, rfl, rfl, rfl, rfl⟩) (by kernel_rfl) rfl rfl rfl (by decide) (by decide) (by decide) (by decide) ?_
      intro g1 x1 g2 x2 wa hSa hFa K hK
      try simp only [ptA, List.getElem_toArray, List.getElem_cons_zero, List.getElem_cons_succ, Act.put, List.setIfInBounds_toArray, List.set_cons_zero, List.set_cons_succ] at hK ⊢
      go_simp
      refine (half_any q1 _).mono ?_
      rintro z wz ⟨⟨q2, rfl, hq2⟩, hb2⟩
      have Hq2 := Lib.hid hq2
      clear hq2
      have hb3 : Mem.plain.On wa wz := ⟨trivial, hb2⟩
      refine hK.out _ _ (HS8.out _ (Lib.hid (hSa.2.2.2.2.out.trans MO hb3))) (FlC.keep MO hFa hb3 trivial) ?_
      clear hK K hb2 hb3 hFa hSa
      try simp only [ptA, List.getElem_toArray, List.getElem_cons_zero, List.getElem_cons_succ, Act.put, List.setIfInBounds_toArray, List.set_cons_zero, List.set_cons_succ]
      refine wpFl_one 6 46 (floatsC MO (D := wA) (fun w h => h.2.2.2.2.out) (fun w h => HS8.out w (Lib.hid h)) (by decide) (by decide) ⟨_, rfl, rfl, rfl, rfl⟩ ⟨_, rfl, rfl, rfl, rfl⟩) (by kernel_rfl) rfl rfl rfl (by decide) (by decide) (by decide) (by decide) ?_
      intro g1 x1 g2 x2 wa hSa hFa K hK
      try simp only [ptA, List.getElem_toArray, List.getElem_cons_zero, List.getElem_cons_succ, Act.put, List.setIfInBounds_toArray, List.set_cons_zero, List.set_cons_succ] at hK ⊢
      go_simp
      refine (subC_any za zb _).mono ?_
      rintro z wz ⟨⟨q3, rfl, hq3⟩, hb2⟩
      have Hq3 := Lib.hid hq3
      clear hq3
      have hb3 : Mem.plain.On wa wz := ⟨trivial, hb2⟩
      refine hK.out _ _ (HS8.out _ (Lib.hid (hSa.2.2.2.2.out.trans MO hb3))) (FlC.keep MO hFa hb3 trivial) ?_
      clear hK K hb2 hb3 hFa hSa
      try simp only [ptA, List.getElem_toArray, List.getElem_cons_zero, List.getElem_cons_succ, Act.put, List.setIfInBounds_toArray, List.set_cons_zero, List.set_cons_succ]
      refine wpFl_one 7 47 (floatsC MO (D := wA) (fun w h => h.2.2.2.2.out) (fun w h => HS8.out w (Lib.hid h)) (by decide) (by decide) ⟨_, rfl, rfl, rfl, rfl⟩ ⟨_, rfl, rfl, rfl, rfl⟩) (by kernel_rfl) rfl rfl rfl (by decide) (by decide) (by decide) (by decide) ?_
      intro g1 x1 g2 x2 wa hSa hFa K hK
      try simp only [ptA, List.getElem_toArray, List.getElem_cons_zero, List.getElem_cons_succ, Act.put, List.setIfInBounds_toArray, List.set_cons_zero, List.set_cons_succ] at hK ⊢
      go_simp
      refine (half_any q3 _).mono ?_
      rintro z wz ⟨⟨q4, rfl, hq4⟩, hb2⟩
      have Hq4 := Lib.hid hq4
      clear hq4
      have hb3 : Mem.plain.On wa wz := ⟨trivial, hb2⟩
      refine hK.out _ _ (HS8.out _ (Lib.hid (hSa.2.2.2.2.out.trans MO hb3))) (FlC.keep MO hFa hb3 trivial) ?_
      clear hK K hb2 hb3 hFa hSa
      try simp only [ptA, List.getElem_toArray, List.getElem_cons_zero, List.getElem_cons_succ, Act.put, List.setIfInBounds_toArray, List.set_cons_zero, List.set_cons_succ]
      refine wpFl_one 11 51 (floatsC MO (D := wA) (fun w h => h.2.2.2.2.out) (fun w h => HS8.out w (Lib.hid h)) (by decide) (by decide) ⟨_, rfl, rfl, rfl, rfl⟩ ⟨_, rfl, rfl, rfl, rfl⟩) (by kernel_rfl) rfl rfl rfl (by decide) (by decide) (by decide) (by decide) ?_
      intro g1 x1 g2 x2 wa hSa hFa K hK
      try simp only [ptA, List.getElem_toArray, List.getElem_cons_zero, List.getElem_cons_succ, Act.put, List.setIfInBounds_toArray, List.set_cons_zero, List.set_cons_succ] at hK ⊢
      go_simp
      refine (root_any jm n _ HJB.out.1 HJB.out.2.1 HJB.out.2.2.1 HJB.out.2.2.2).mono ?_
      rintro z wz ⟨⟨q5, rfl, hq5⟩, hb2⟩
      have Hq5 := Lib.hid hq5
      clear hq5
      have hb3 : Mem.plain.On wa wz := ⟨trivial, hb2⟩
      refine hK.out _ _ (HS8.out _ (Lib.hid (hSa.2.2.2.2.out.trans MO hb3))) (FlC.keep MO hFa hb3 trivial) ?_
      clear hK K hb2 hb3 hFa hSa
      try simp only [ptA, List.getElem_toArray, List.getElem_cons_zero, List.getElem_cons_succ, Act.put, List.setIfInBounds_toArray, List.set_cons_zero, List.set_cons_succ]
      refine wpFl_one 12 52 (floatsC MO (D := wA) (fun w h => h.2.2.2.2.out) (fun w h => HS8.out w (Lib.hid h)) (by decide) (by decide) ⟨_, rfl, rfl, rfl, rfl⟩ ⟨_, rfl, rfl, rfl, rfl⟩) (by kernel_rfl) rfl rfl rfl (by decide) (by decide) (by decide) (by decide) ?_
      intro g1 x1 g2 x2 wa hSa hFa K hK
      try simp only [ptA, List.getElem_toArray, List.getElem_cons_zero, List.getElem_cons_succ, Act.put, List.setIfInBounds_toArray, List.set_cons_zero, List.set_cons_succ] at hK ⊢
      go_simp
      refine (mulC_any q4 q5 _).mono ?_
      rintro z wz ⟨⟨q6, rfl, hq6⟩, hb2⟩
      have Hq6 := Lib.hid hq6
      clear hq6
      have hb3 : Mem.plain.On wa wz := ⟨trivial, hb2⟩
      refine hK.out _ _ (HS8.out _ (Lib.hid (hSa.2.2.2.2.out.trans MO hb3))) (FlC.keep MO hFa hb3 trivial) ?_
      clear hK K hb2 hb3 hFa hSa
      try simp only [ptA, List.getElem_toArray, List.getElem_cons_zero, List.getElem_cons_succ, Act.put, List.setIfInBounds_toArray, List.set_cons_zero, List.set_cons_succ]
      refine wpFl_end 2 15 (floatsC MO (D := wA) (fun w h => h.2.2.2.2.out) (fun w h => HS8.out w (Lib.hid h)) (by decide) (by decide) ⟨_, rfl, rfl, rfl, rfl⟩ ⟨_, rfl, rfl, rfl, rfl⟩) (by kernel_rfl) (by decide) rfl ?_
      intro x1 x2 wa hSa hFa
      obtain ⟨p1, p2, rfl, rfl, hpp, lp1, lp2, bp1, bp2⟩ := hFa.done
      simp only [List.toList_toArray, List.drop_succ_cons, List.drop_zero]
      try simp only [ptA, List.getElem_toArray, List.getElem_cons_zero, List.getElem_cons_succ, Act.put, List.setIfInBounds_toArray, List.set_cons_zero, List.set_cons_succ]
      obtain ⟨k0, k1, k2, k3, k4, k5⟩ := box2 MO hSa.2.2.2.2.out trivial lp1 lp2 hpp bp1 bp2 q2 q6
      unfold setB at k0 k1 k2 k3 k4 k5
      obtain ⟨i0, i1, i2, i3, -, -⟩ := bp1
      obtain ⟨j0, j1, j2, j3, -, -⟩ := k0
      go_upto_region 9 with (fail)
      obtain ⟨wB, hW⟩ : ∃ wB, wB = (((wa.setCell ⟨p1, 0, none⟩ (.float .f64 q2.1)).setCell ⟨p1, 1, none⟩ (.float .f64 q2.2)).setCell ⟨p2, 0, none⟩ (.float .f64 q6.1)).setCell ⟨p2, 1, none⟩ (.float .f64 q6.2) := ⟨_, rfl⟩
      rw [← hW] at k1 k2 k3 k4 k5 ⊢
      obtain ⟨gE, hp1⟩ : ∃ gE, gE = p1 := ⟨_, rfl⟩
      obtain ⟨gO, hp2⟩ : ∃ gO, gO = p2 := ⟨_, rfl⟩
      rw [← hp1] at k1 lp1 ⊢
      rw [← hp2] at k2 lp2 ⊢
      have HU_wB := Lib.hid k1
      have HV_wB := Lib.hid k2
      have HD_wB := Lib.hid k3
      have HG_wB := Lib.hid (k5 _ _ _ HG_wA.out)
      clear i0 i1 i2 i3 j0 j1 j2 j3 k1 k2 k3 k4 k5 hW hp1 hp2 lp1 lp2 hpp hSa hFa
      have HO_wB := Lib.hid (HO_wA.out.trans MO HD_wB.out)
      clear HS8 HD_wA HD_wB HU_wA HV_wA HG_wA HOWN hb
      have HS9 : Hid (∀ w', Hid (Mem.plain.On wB w') → w'.cell? ⟨gE, 0, none⟩ = some (.float .f64 q2.1) ∧ w'.cell? ⟨gE, 1, none⟩ = some (.float .f64 q2.2) ∧ w'.cell? ⟨gO, 0, none⟩ = some (.float .f64 q6.1) ∧ w'.cell? ⟨gO, 1, none⟩ = some (.float .f64 q6.2) ∧ Hid (Mem.plain.On wB w')) := Lib.hid (fun w' h => ⟨on_cell MO trivial h HU_wB.out.c0, on_cell MO trivial h HU_wB.out.c1, on_cell MO trivial h HV_wB.out.c0, on_cell MO trivial h HV_wB.out.c1, h⟩)
      go_upto_region 9 with (fail)
      refine wp_region_S (fun w' => w'.cell? ⟨gE, 0, none⟩ = some (.float .f64 q2.1) ∧ w'.cell? ⟨gE, 1, none⟩ = some (.float .f64 q2.2) ∧ w'.cell? ⟨gO, 0, none⟩ = some (.float .f64 q6.1) ∧ w'.cell? ⟨gO, 1, none⟩ = some (.float .f64 q6.2) ∧ Hid (Mem.plain.On wB w')) 6 (by kernel_rfl) ?_
      have hS0 := HS9.out _ (Lib.hid ((MO.on_refl trivial).drew MO))
      refine Takes.intro [0,1,2,3] ?_
      repeat (refine Takes.step (v := ?_) (by kernel_rfl) rfl (fun _ _ _ h => h) rfl hS0 (fun w hSw => by (try dsimp only at hSw); go_simp; try with_reducible rfl) ?_; try simp only [List.getElem_toArray, List.getElem_cons_zero, List.getElem_cons_succ, Act.put, List.setIfInBounds_toArray, List.set_cons_zero, List.set_cons_succ])
      refine Takes.nil ?_
      refine wpAnyS_one (i := 4) (by kernel_rfl) rfl rfl (fun K hK => ?_)
      go_simp
      refine (Turn1_any q6 _).mono ?_
      rintro z wz1 ⟨hz, hb2⟩
      obtain ⟨q7, hq7⟩ : ∃ q7 : Rx, (negF q6.2, q6.1) = q7 := ⟨_, rfl⟩
      rw [hq7] at hz
      subst hz
      have Hq7 : Hid (nC q7 = cturn1 (nC q6)) := Lib.hid (by rw [← hq7]; exact nC_turn1 q6)
      have hS1 := HS9.out _ (Lib.hid (hS0.2.2.2.2.out.below MO hb2))
      clear hb2 hq7
      refine hK.out _ _ (fun _ => hS1) ?_
      clear hK K
      try simp only [List.getElem_toArray, List.getElem_cons_zero, List.getElem_cons_succ, Act.put, List.setIfInBounds_toArray, List.set_cons_zero, List.set_cons_succ]
      refine wpAnyS_one (i := 5) (by kernel_rfl) rfl rfl (fun K hK => ?_)
      go_simp
      refine (addC_any q2 q7 _).mono ?_
      rintro z wz2 ⟨⟨q8, rfl, hq8⟩, hb2⟩
      have Hq8 := Lib.hid hq8
      have hS2 := HS9.out _ (Lib.hid (hS1.2.2.2.2.out.below MO hb2))
      clear hb2 hq8
      refine hK.out _ _ (fun _ => hS2) ?_
      clear hK K
      try simp only [List.getElem_toArray, List.getElem_cons_zero, List.getElem_cons_succ, Act.put, List.setIfInBounds_toArray, List.set_cons_zero, List.set_cons_succ]
      refine wpAnyS_end 2 6 (by kernel_rfl) (by decide) rfl ?_
      simp only [List.toList_toArray, List.drop_succ_cons, List.drop_zero]
      have hr2 := HG_wB.out.keep MO hS2.2.2.2.2.out trivial
      obtain ⟨u0, r1, r2, r3, r4, -⟩ := hr2.row j hlt
      have HN2 := Lib.hid (hr2.set MO (HO_wB.out.trans MO hS2.2.2.2.2.out) (Nat.le_refl _) hlt q8)
      have HQ8 : Hid (nC q8 = prV H m n j) := Lib.hid (by rw [Hq8.out, Hq7.out, Hq6.out, Hq5.out, Hq4.out, Hq3.out, Hq2.out, Hq1.out, HVZ.out.1, HVZ.out.2, ← HJM.out]; rfl)
      clear hr2 hS0 hS1 hS2 HG_wB HO_wB HS9 HU_wB HV_wB
      go_wp2
      exact ⟨⟨j + 1, by omega, by go_num, Lib.hid (HN2.out.1.nextC HQ8.out), Lib.hid HN2.out.2⟩, by simp [intOf]; omega⟩
    · obtain rfl : j = m := by omega
      have HZ0 := Lib.hid HOWN.out.full
      have HOW : Hid (Mem.plain.On W wr) := Lib.hid (((MO.on_refl (w := W) trivial).below MO HB1.out).trans MO hb.out)
      have p0 := on_cell MO trivial HOW HPB.out.1
      have p1 := on_cell MO trivial HOW HPB.out.2.1
      have p2 := on_cell MO trivial HOW HPB.out.2.2.1
      have p3 := on_cell MO trivial HOW HPB.out.2.2.2
      have HCL := Lib.hid (Inverse_ok kind r q j F HP.out HC.out A c (some ⟨w1.heap.size, 0, none⟩) j (prV H j n) (-1) wr (HK.out.below HOW.out.fr) HZ0.out.cs (by have := HN.out; omega) (by have := HN.out; omega) (.inr rfl) HG.out)
      have HBw : Hid (Below w.heap.size w wr) := Lib.hid (HB.out.trans (HOW.out.fr.mono HB.out.size))
      clear HOWN hb hlt HZ0 HK HPB HOW HB1 HF
      go_wp2_with fail
      refine HCL.out.mono ?_
      rintro z w2 ⟨gZ, rfl, -, hgZ, hZ, hb1⟩
      rw [show -(-1 : Int) = 1 by decide, HZZ.out] at hZ
      have HZ := Lib.hid hZ
      have HB2 : Hid (Below w.heap.size w w2) := Lib.hid (HBw.out.trans (hb1.mono HBw.out.size))
      clear hb1 hZ p0 p1 p2 p3 HCL HBw hgZ HP HC HG HZZ
      go_wp2
      go_loopw [15, 69] (fun lv vi wr => ∃ (k : Nat) (L : List Wd), k ≤ j ∧ vi = .int .i64 k ∧ Hid (L.length = 2 * k) ∧ Hid (OwnL wr w2.heap.size lv L) ∧ Hid (PrL Z L k) ∧ Hid (Below w2.heap.size w2 wr)) (fun _ vi _ => j - (intOf vi).toNat)
      case atStart => exact ⟨0, [], by omega, rfl, Lib.hid rfl, Lib.hid (OwnL.nil _ _), Lib.hid (fun k hk => by omega), Lib.hid (Below.refl _ _)⟩
      case round =>
        rename World => wr
        obtain ⟨k, L, hk, rfl, hL, ho, hp, hb⟩ := hrel
        by_cases hlt : k < j
        · have hki : (k : Int) < j := by omega
          have hk9 : k + 1 ≤ 32768 := by have := HN.out; omega
          obtain ⟨u, z1, z2, -, -, hu⟩ := (HZ.out.keep hb.out) k hlt
          have HU := Lib.hid hu
          clear hu
          go_upto_region 16 with (fail)
          obtain ⟨W1, hW1, hb1, c0, c1, -⟩ := boxC wr u 52
          rw [← hW1]
          obtain ⟨wb, hwb⟩ : ∃ wb, wb = W1.alloc (.cells #[.float .f64 (u.1 : Nat), .float .f64 (u.2 : Nat)] 33) := ⟨_, rfl⟩
          have hb2 : Below W1.heap.size W1 wb := by rw [hwb]; exact (Below.refl _ W1).alloc (Nat.le_refl _) _
          have hn0 : wb.cell? ⟨W1.heap.size, 0, none⟩ = some (.float .f64 (u.1 : Nat)) := by rw [hwb, World.cell?_alloc_new]; rfl
          have hn1 : wb.cell? ⟨W1.heap.size, 1, none⟩ = some (.float .f64 (u.2 : Nat)) := by rw [hwb, World.cell?_alloc_new]; rfl
          have hb3 := hb1.trans (hb2.mono hb1.size)
          have HO1 : Hid (wb.ownsRow w2.heap.size 33 1 u15 (2 * k) (fltV L)) := Lib.hid (by have h1 := owns_below ho.out hb3; unfold OwnL at h1; rw [hL.out] at h1; exact h1)
          have HBA : Hid (Below w2.heap.size w2 wb) := Lib.hid (hb.out.trans (hb3.mono hb.out.size))
          have hbs2 : w2.heap.size ≤ wb.heap.size := HBA.out.size
          have hj40 : 2 * k + 2 ≤ 1099511627776 := by omega
          have HWB := Lib.hid hwb
          clear hW1 hb1 hb2 hb3 hwb z1 z2
          go_wp2_with (at_builtin; go_loud (rw [← HWB.out]; refine Go.Proofs.YtmgfaeineklccaaGreat.wpList_app2 rfl _ _ 53 33 rfl 1 8 (.float .f64 0) Tryz.underlying53 info_float rfl (by omega) (by omega) w2.heap.size u15 (2 * k) (fltV L) rfl HO1.out _ _ [.float .f64 (u.1 : Nat), .float .f64 (u.2 : Nat)] rfl rfl (fun i x hi => by rcases i with _ | _ | i <;> simp at hi <;> subst hi; exact hn0; exact hn1) (fun x hx => by simp at hx; rcases hx with rfl | rfl <;> rfl) hj40 hbs2 (fun ga cap1 w5 hO2 hG2 hL2 => ?_)))
          have e1 : (L ++ [u.1, u.2]).length = 2 * (k + 1) := by rw [List.length_append, hL.out]; rfl
          have HR1 : Hid (OwnL w5 w2.heap.size (.slice (some ⟨ga, 0, none⟩) (2 * k + 2) cap1) (L ++ [u.1, u.2])) := Lib.hid (by unfold OwnL; rw [e1, show 2 * (k + 1) = 2 * k + 2 by omega, show fltV (L ++ [u.1, u.2]) = fltV L ++ [.float .f64 (u.1 : Nat), .float .f64 (u.2 : Nat)] by simp [fltV]]; exact hO2.out)
          have HR2 := Lib.hid (hp.out.next hL.out u HU.out)
          have HR3 : Hid (Below w2.heap.size w2 w5) := Lib.hid (HBA.out.grown hG2.out HBA.out.size (fun k e => (World.ownsRow.lt HO1.out k e).1))
          have HR0 := Lib.hid e1
          clear hO2 hG2 hL2 HO1 hn0 hn1 c0 c1 hb ho hp e1
          go_wp2
          exact ⟨⟨k + 1, _, by omega, by go_num, HR0, HR1, HR2, HR3⟩, by simp [intOf]; omega⟩
        · obtain rfl : k = j := by omega
          have HBB : Hid (Below w.heap.size w wr) := Lib.hid (HB2.out.trans (hb.out.mono HB2.out.size))
          obtain ⟨A1, k1, rfl, -⟩ := ho.out.fs
          go_wp2
          go_ret
          exact ⟨_, L, rfl, owns_mono ho.out HB2.out.size, by rw [hL.out, HN.out.1], hp.out, HBB.out⟩
end Go.Proofs.YtmgfaeineklccaaGreat
/- Layer 21: real.Forward and real.Backward of an even number of elements, where all is well. -/
set_option linter.unusedSimpArgs false
set_option linter.unusedVariables false
namespace Go.Proofs.YtmgfaeineklccaaGreat
open Go.RowKit Go.Lib

theorem ent_great (args : Array Value) (w : World) : (callFunc 82 args).run Tryz.prog w = .ok (.enter 82 args) w := enters_of Tryz.func82 (by kernel_rfl) rfl args w
theorem ent_great2 (args : Array Value) (w : World) : (callFunc 89 args).run Tryz.prog w = .ok (.enter 89 args) w := enters_of Tryz.func89 (by kernel_rfl) rfl args w
theorem great_nz (u : Fin 18446744073709551616) (w : World) : Calls Tryz.prog 82 #[.float .f64 (u : Nat)] w fun z w' => z = .returned (.bool (!fitsB W890 (nz u))) ∧ Below w.heap.size w w' := by
  rw [fits_nz]
  refine (great_any u w u.isLt).mono ?_
  rintro z w' ⟨rfl, rfl⟩
  exact ⟨rfl, Below.refl _ _⟩
def fwF (Z : Nat → Cx) (m n : Nat) : Nat → Cx := updT (evF Z m n) 0 ((evF Z m n 0).1, 0)

set_option maxRecDepth 100000 in
set_option maxHeartbeats 4000000 in
theorem Forward_even (kind r : Int) (q : Fo) (m : Nat) (F : Tr Cx) (P : PlanE kind r q m F) (C : ChkC kind m r q m 0) (A : Option Addr) (c : Nat) (X : Option Addr) (n cx : Nat) (x : Nat → Nat) (w : World) (hk : Kids w A 0 q) (hX : FsAt w X n x) (hn : n = 2 * m) (m1 : 1 ≤ m) (m2 : m ≤ 8192) (hg : guardE (evC x) m = 0) (hf : idxI (onF fun y => !fitsB W890 y) (reF x) n = -1) :
    Calls Tryz.prog 29 #[plV kind m r A q.len c, .slice X n cx] w fun z w' => ∃ g, z = .returned (.tuple #[.slice (some ⟨g, 0, none⟩) (m + 1 : Nat) (m + 1 : Nat), .int .i64 0]) ∧ w.heap.size ≤ g ∧ g < w'.heap.size ∧ RowC w' g (m + 1) (fwF (F (-1) (evC x)) m n) ∧ Below w.heap.size w w' := by
  obtain ⟨W, hW⟩ : ∃ W, W = w.alloc (.cells #[.int .i64 kind, .int .i64 m, .int .i64 r, .slice A q.len c] 27) := ⟨_, rfl⟩
  have hbb : Below w.heap.size w W := by rw [hW]; exact (Below.refl _ w).alloc (Nat.le_refl _) _
  obtain ⟨p0, p1, p2, p3⟩ := PlBox.new w kind m r A q.len c 27
  rw [← hW] at p0 p1 p2 p3
  obtain ⟨bP, hbP⟩ : ∃ bP, bP = w.heap.size := ⟨_, rfl⟩
  rw [← hbP] at p0 p1 p2 p3
  have hwn : wantsI (n : Int) = (m : Int) := by unfold wantsI; rw [if_neg (by omega), if_pos (by omega)]; omega
  have hm := fun w2 (hb : Below W.heap.size W w2) => hmay_any kind m r q n 0 (by rw [hwn]; exact C) A c w2 ((hk.below hbb).below hb)
  rw [show hmayE (n : Int) 0 = 0 by unfold hmayE; rw [if_neg (by omega)]] at hm
  have hc := fun w2 (hb : Below W.heap.size W w2) => ContainsF_any 82 (fun y => !fitsB W890 y) ent_great great_nz X n cx x w2 ((hX.keep hbb).keep hb) (by omega)
  rw [hf] at hc
  have he := fun w2 (hb : Below W.heap.size W w2) => even_any kind r q m F P C A c X n cx x w2 ((hk.below hbb).below hb) ((hX.keep hbb).keep hb) hn m1 m2 hg
  obtain ⟨E, hE⟩ : ∃ E, evF (F (-1) (evC x)) m n = E := ⟨_, rfl⟩
  unfold fwF
  rw [hE] at he ⊢
  have HM := Lib.hid hm
  have HC := Lib.hid hc
  have HE := Lib.hid he
  have HB := Lib.hid hbb
  obtain ⟨m3, hm3⟩ : ∃ m3 : Nat, m + 1 = m3 := ⟨_, rfl⟩
  rw [hm3] at HE ⊢
  have h3 : 0 < m3 := by omega
  have h3i : (0 : Int) < m3 := by omega
  have hpi : (n : Int) % 2 = 0 := by omega
  have hpt : (n : Int).tmod 2 = 0 := by rw [Int.tmod_eq_emod_of_nonneg (by omega)]; omega
  have h63 : n < 9223372036854775808 := by omega
  clear hm hc he hbb hwn P C hk hX hE hg hf m1 m2 hn hm3
  go_enter Tryz.func29, Tryz.ntmps29
  go_upto_region 1 with (fail)
  rw [← hW, ← hbP]
  clear hW hbP
  go_wp2_with fail
  refine (HM.out W (Below.refl _ _)).mono ?_
  rintro z w1 ⟨rfl, hb1⟩
  have HB1 := Lib.hid hb1
  have q0 := keep_cell hb1 p0
  have q1 := keep_cell hb1 p1
  have q2 := keep_cell hb1 p2
  have q3 := keep_cell hb1 p3
  clear hb1 p0 p1 p2 p3 HM
  go_wp2_with fail
  refine (HC.out w1 HB1.out).mono ?_
  rintro z w2 ⟨rfl, hb2⟩
  have HB2 : Hid (Below W.heap.size W w2) := Lib.hid (HB1.out.trans (hb2.mono HB1.out.size))
  have p0 := keep_cell hb2 q0
  have p1 := keep_cell hb2 q1
  have p2 := keep_cell hb2 q2
  have p3 := keep_cell hb2 q3
  have hd : decide ((0 : Int) ≤ -1) = false := by decide
  clear hb2 q0 q1 q2 q3 HC
  go_wp2_with fail
  refine (HE.out w2 HB2.out).mono ?_
  rintro z w3 ⟨g, rfl, hg1, hg2, hr, hb3⟩
  have HG : Hid (w.heap.size ≤ g ∧ g < w3.heap.size) := Lib.hid ⟨Nat.le_trans HB.out.size (Nat.le_trans HB2.out.size hg1), hg2⟩
  have HB3 : Hid (Below w.heap.size w w3) := Lib.hid (HB.out.trans ((HB2.out.trans (hb3.mono HB2.out.size)).mono HB.out.size))
  obtain ⟨u, r1, r2, r3, r4, -⟩ := hr 0 h3
  have hR := hr.setIm h3 0
  rw [Nat.zero_mul] at r1 r2 r3 r4 hR
  rw [Nat.zero_add] at r2 r4 hR
  have HR := Lib.hid hR
  have HBB : Hid (Below w.heap.size w (w3.setCell ⟨g, 1, none⟩ (.float .f64 ((0 : Fin 18446744073709551616) : Nat)))) := Lib.hid (HB3.out.setCell (p := ⟨g, _, none⟩) HG.out.1 _)
  clear hg1 hg2 hr hb3 hR p0 p1 p2 p3 HE
  go_wp2
  go_ret2
  exact ⟨g, rfl, HG.out.1, by simpa using HG.out.2, HR.out, HBB.out⟩

set_option maxRecDepth 100000 in
set_option maxHeartbeats 4000000 in
theorem Backward_even (kind r : Int) (q : Fo) (m : Nat) (F : Tr Cx) (P : PlanE kind r q m F) (C : ChkC kind m r q m 0) (A : Option Addr) (c : Nat) (X : Option Addr) (l n cx : Nat) (h : Nat → Cx) (w : World) (hk : Kids w A 0 q) (hX : CsAt w X l h) (hl : l = n / 2 + 1) (hn : n = 2 * m) (m1 : 1 ≤ m) (m2 : m ≤ 8192) (hg : guardE (prV (wholeC h n) m n) m = 0) (hf : idxI (fun y => !fitsC W890 y) h l = -1) :
    Calls Tryz.prog 31 #[plV kind m r A q.len c, .slice X l cx, .int .i64 n] w fun z w' => ∃ v L, z = .returned (.tuple #[v, .int .i64 0]) ∧ OwnL w' w.heap.size v L ∧ L.length = n ∧ PrL (overF ringR (F 1 (prV (wholeC h n) m n)) m) L m ∧ Below w.heap.size w w' := by
  have hl9 : l < 9223372036854775808 := by omega
  have hm9 : m < 9223372036854775808 := by omega
  have hnm : (n : Int) / 2 = (m : Int) := by omega
  have hml : (m : Int) + 1 = (l : Int) := by omega
  have hpi : (n : Int) % 2 = 0 := by omega
  have hpt : (n : Int).tmod 2 = 0 := by rw [Int.tmod_eq_emod_of_nonneg (by omega)]; exact hpi
  have hq0 : wrap64 ((n : Int) / 2) = (m : Int) := by rw [hnm]; exact wrap64_nat m hm9
  have hq1 : IntKind.i64.wrap ((n : Int) / 2) = (m : Int) := by rw [hnm]; exact wrapI_nat m hm9
  have hq2 : wrap64 ((m : Int) + 1) = (l : Int) := by rw [hml]; exact wrap64_nat l hl9
  have hq3 : IntKind.i64.wrap ((m : Int) + 1) = (l : Int) := by rw [hml]; exact wrapI_nat l hl9
  have hl40 : l ≤ 4398046511104 := by omega
  have hwn : wantsI (n : Int) = (m : Int) := by unfold wantsI; rw [if_neg (by omega), if_pos (by omega)]; omega
  have hbad : ¬ ((n : Int) < 1 ∨ 16384 < (n : Int)) := by omega
  obtain ⟨W, hW⟩ : ∃ W, W = w.alloc (.cells #[.int .i64 kind, .int .i64 m, .int .i64 r, .slice A q.len c] 27) := ⟨_, rfl⟩
  have hbb : Below w.heap.size w W := by rw [hW]; exact (Below.refl _ w).alloc (Nat.le_refl _) _
  obtain ⟨p0, p1, p2, p3⟩ := PlBox.new w kind m r A q.len c 27
  rw [← hW] at p0 p1 p2 p3
  obtain ⟨bP, hbP⟩ : ∃ bP, bP = w.heap.size := ⟨_, rfl⟩
  rw [← hbP] at p0 p1 p2 p3
  have hm := fun w2 (hb : Below W.heap.size W w2) => hmay_any kind m r q n 0 (by rw [hwn]; exact C) A c w2 ((hk.below hbb).below hb)
  rw [show hmayE (n : Int) 0 = 0 by unfold hmayE; rw [if_neg hbad]] at hm
  have hc := fun w2 (hb : Below W.heap.size W w2) => ContainsC_any 89 (fun y => !fitsC W890 y) ent_great2 great2_any X l cx h w2 ((hX.keep hbb).keep hb) hl40
  rw [hf] at hc
  have he := fun w2 (hb : Below W.heap.size W w2) => pairs_any kind r q m F P C A c X l n cx h w2 ((hk.below hbb).below hb) ((hX.keep hbb).keep hb) hl hn m1 m2 hg
  have HM := Lib.hid hm
  have HC := Lib.hid hc
  have HE := Lib.hid he
  have HB := Lib.hid hbb
  obtain ⟨YY, hY⟩ : ∃ YY, overF ringR (F 1 (prV (wholeC h n) m n)) m = YY := ⟨_, rfl⟩
  rw [hY] at HE ⊢
  clear hm hc he hbb hwn P C hk hX hg hf m1 m2 hn hl hY hl9 hm9 hnm hml hl40 hbad
  go_enter Tryz.func31, Tryz.ntmps31
  go_upto_region 1 with (fail)
  rw [← hW, ← hbP]
  clear hW hbP
  go_wp2_with fail
  refine (HM.out W (Below.refl _ _)).mono ?_
  rintro z w1 ⟨rfl, hb1⟩
  have HB1 := Lib.hid hb1
  have q0 := keep_cell hb1 p0
  have q1 := keep_cell hb1 p1
  have q2 := keep_cell hb1 p2
  have q3 := keep_cell hb1 p3
  clear hb1 p0 p1 p2 p3 HM
  go_wp2_with fail
  refine (HC.out w1 HB1.out).mono ?_
  rintro z w2 ⟨rfl, hb2⟩
  have HB2 : Hid (Below W.heap.size W w2) := Lib.hid (HB1.out.trans (hb2.mono HB1.out.size))
  have p0 := keep_cell hb2 q0
  have p1 := keep_cell hb2 q1
  have p2 := keep_cell hb2 q2
  have p3 := keep_cell hb2 q3
  have hd : decide ((0 : Int) ≤ -1) = false := by decide
  clear hb2 q0 q1 q2 q3 HC
  go_wp2_with fail
  refine (HE.out w2 HB2.out).mono ?_
  rintro z w3 ⟨v, L, rfl, ho, hLl, hp, hb3⟩
  have HO := Lib.hid (owns_mono ho (Nat.le_trans HB.out.size HB2.out.size))
  have HL := Lib.hid hLl
  have HP := Lib.hid hp
  have HB3 : Hid (Below w.heap.size w w3) := Lib.hid (HB.out.trans ((HB2.out.trans (hb3.mono HB2.out.size)).mono HB.out.size))
  clear ho hLl hp hb3 p0 p1 p2 p3 HE
  go_wp2
  obtain ⟨A1, k1, rfl, -⟩ := HO.out.fs
  go_ret2
  exact ⟨_, L, rfl, HO.out, HL.out, HP.out, HB3.out⟩
end Go.Proofs.YtmgfaeineklccaaGreat
/- What layer 21's document fixes. -/
set_option linter.unusedSimpArgs false
set_option linter.unusedVariables false
namespace Go.Proofs.YtmgfaeineklccaaGreat
open Go.RowKit Go.Lib

theorem word_of21 {x v : Nat} (h : nz x = v) (hv : v ≠ 9221120237041090560) : x = v := by
  rw [nz_eq] at h
  cases e : isN x
  · rw [e] at h; exact h
  · rw [e] at h; exact absurd h.symm hv
def x21 : Nat → Nat := fun i => if i = 0 then 4607182418800017408 else if i = 1 then 4611686018427387904 else if i = 2 then 4613937818241073152 else 4616189618054758400
def h21 : Nat → Cx := fun i => if i = 0 then (4621819117588971520, 0) else if i = 1 then (13835058055282163712, 4611686018427387904) else (13835058055282163712, 0)
theorem chk21 : ChkC 0 2 0 .nil 2 0 := by
  have h := Check_any 0 2 0 .nil 2 (by decide)
  rwa [show checkE 0 2 0 .nil 2 = 0 by kernel_rfl] at h
theorem plan21 : PlanE 0 0 .nil 2 (directF ringR 2) := fun m => planX_leaf (ringC_ok m) 2 (by decide) (by decide) .nil
theorem vals21 : ∀ i, i < 3 → fwF (directF ringR 2 (-1) (evC x21)) 2 4 i = h21 i := by
  intro i hi
  rcases i with _ | _ | _ | i
  · kernel_rfl
  · kernel_rfl
  · kernel_rfl
  · omega
theorem guard21 : guardE (evC x21) 2 = 0 := by kernel_rfl
theorem fit21 : idxI (onF fun y => !fitsB W890 y) (reF x21) 4 = -1 := by kernel_rfl
theorem guard21b : guardE (prV (wholeC h21 4) 2 4) 2 = 0 := by kernel_rfl
theorem fit21b : idxI (fun y => !fitsC W890 y) h21 3 = -1 := by kernel_rfl
theorem vals21b : (overF ringR (directF ringR 2 1 (prV (wholeC h21 4) 2 4)) 2 1).2 = 4616189618054758400 := by kernel_rfl
theorem fwd21 (w : World) (A : Option Addr) (c : Nat) (X : Option Addr) (cx : Nat) (hX : FsAt w X 4 x21) :
    Calls Tryz.prog 29 #[plV 0 2 0 A 0 c, .slice X 4 cx] w fun z w' => ∃ g, z = .returned (.tuple #[.slice (some ⟨g, 0, none⟩) 3 3, .int .i64 0]) ∧ RowC w' g 3 h21 ∧ Below w.heap.size w w' := by
  refine (Forward_even 0 0 .nil 2 (directF ringR 2) plan21 chk21 A c X 4 cx x21 w trivial hX (by decide) (by decide) (by decide) guard21 fit21).mono ?_
  rintro z w' ⟨g, rfl, -, -, hr, hb⟩
  exact ⟨g, rfl, hr.congr vals21, hb⟩
theorem bwd21 (w : World) (A : Option Addr) (c : Nat) (X : Option Addr) (cx : Nat) (hX : CsAt w X 3 h21) :
    Calls Tryz.prog 31 #[plV 0 2 0 A 0 c, .slice X 3 cx, .int .i64 4] w fun z w' => ∃ B d y, z = .returned (.tuple #[.slice B 4 d, .int .i64 0]) ∧ FsAt w' B 4 y ∧ y 3 = 4616189618054758400 ∧ Below w.heap.size w w' := by
  refine (Backward_even 0 0 .nil 2 (directF ringR 2) plan21 chk21 A c X 3 4 cx h21 w trivial hX (by decide) (by decide) (by decide) (by decide) guard21b fit21b).mono ?_
  rintro z w' ⟨v, L, rfl, ho, hl, hp, hb⟩
  obtain ⟨B, d, rfl, hf, -⟩ := ho.fs
  rw [hl] at hf ⊢
  exact ⟨B, d, _, rfl, hf, (hp 1 (by decide)).2.trans vals21b, hb⟩

set_option maxRecDepth 100000 in
set_option maxHeartbeats 4000000 in
theorem wakes21_any (w : World) : Calls Tryz.prog 33 #[] w fun z w' => z = .returned (.bool true) ∧ Below w.heap.size w w' := by
  obtain ⟨W, hW⟩ : ∃ W, W = (w.alloc (.cells #[.int .i64 0, .int .i64 2, .int .i64 0, .slice none 0 0] 27)).alloc (.cells #[.float .f64 4607182418800017408, .float .f64 4611686018427387904, .float .f64 4613937818241073152, .float .f64 4616189618054758400] 33) := ⟨_, rfl⟩
  have hb : Below w.heap.size w W := by rw [hW]; exact ((Below.refl _ w).alloc (Nat.le_refl _) _).alloc (by simp) _
  have hP : PlBox W w.heap.size 0 2 0 none 0 0 := by
    rw [hW]
    exact ⟨by simp [go_sem], by simp [go_sem], by simp [go_sem], by simp [go_sem]⟩
  have hX : FsAt W (some ⟨w.heap.size + 1, 0, none⟩) 4 x21 := by
    intro i hi
    rw [hW]
    rcases i with _ | _ | _ | _ | i
    · exact ⟨_, _, ⟨4607182418800017408, by decide⟩, rfl, by simp [go_sem], by kernel_rfl⟩
    · exact ⟨_, _, ⟨4611686018427387904, by decide⟩, rfl, by simp [go_sem], by kernel_rfl⟩
    · exact ⟨_, _, ⟨4613937818241073152, by decide⟩, rfl, by simp [go_sem], by kernel_rfl⟩
    · exact ⟨_, _, ⟨4616189618054758400, by decide⟩, rfl, by simp [go_sem], by kernel_rfl⟩
    · omega
  have HX := Lib.hid (fwd21 W none 0 _ 4 hX)
  have HB := Lib.hid hb
  have HP := Lib.hid hP
  clear hX hb hP
  go_enter Tryz.func33, Tryz.ntmps33
  go_upto_region 2 with (fail)
  go_wp2_with fail
  rw [← hW]
  clear hW
  refine HX.out.mono ?_
  rintro z w1 ⟨g, rfl, hr, hb1⟩
  have HB1 := Lib.hid (HB.out.trans (hb1.mono HB.out.size))
  have HR := Lib.hid hr
  obtain ⟨p0, p1, p2, p3⟩ := HP.out.below hb1
  clear hb1 hr
  obtain ⟨W2, hW2⟩ : ∃ W2, W2 = w1.alloc (.cells #[.float .f64 4621819117588971520, .float .f64 0, .float .f64 13835058055282163712, .float .f64 4611686018427387904, .float .f64 13835058055282163712, .float .f64 0] 52) := ⟨_, rfl⟩
  have hb2 : Below w1.heap.size w1 W2 := by rw [hW2]; exact (Below.refl _ _).alloc (Nat.le_refl _) _
  have hX2 : CsAt W2 (some ⟨w1.heap.size, 0, none⟩) 3 h21 := by
    intro i hi
    rw [hW2]
    rcases i with _ | _ | _ | i
    · exact ⟨_, _, (⟨4621819117588971520, by decide⟩, 0), rfl, by simp [go_sem], by simp [go_sem], by kernel_rfl⟩
    · exact ⟨_, _, (⟨13835058055282163712, by decide⟩, ⟨4611686018427387904, by decide⟩), rfl, by simp [go_sem], by simp [go_sem], by kernel_rfl⟩
    · exact ⟨_, _, (⟨13835058055282163712, by decide⟩, 0), rfl, by simp [go_sem], by simp [go_sem], by kernel_rfl⟩
    · omega
  have HX2 := Lib.hid (bwd21 W2 none 0 _ 3 hX2)
  have HB2 := Lib.hid (HB1.out.trans (hb2.mono HB1.out.size))
  have HR2 := Lib.hid (HR.out.keep hb2)
  clear hX2 hb2 HR HX HP
  go_wp2_with fail
  rw [← hW2]
  clear hW2 p0 p1 p2 p3
  refine HX2.out.mono ?_
  rintro z w3 ⟨B, d, y, rfl, hf, hy, hb3⟩
  have HB3 := Lib.hid (HB2.out.trans (hb3.mono HB2.out.size))
  have HR3 := HR2.out.keep hb3
  obtain ⟨u, r0, -, -, -, hu⟩ := HR3 0 (by decide)
  have hu1 : (u.1 : Nat) = 4621819117588971520 := word_of21 (congrArg Prod.fst hu) (by decide)
  rw [hu1, Nat.zero_mul] at r0
  obtain ⟨v, -, r1, -, -, hv⟩ := HR3 1 (by decide)
  have hv1 : (v.2 : Nat) = 4611686018427387904 := word_of21 (congrArg Prod.snd hv) (by decide)
  rw [hv1, Nat.one_mul, show 2 + 1 = 3 by decide] at r1
  obtain ⟨b, o, x, rfl, r2, hx⟩ := hf 3 (by decide)
  have hx1 : (x : Nat) = 4616189618054758400 := word_of21 (hx.trans hy) (by decide)
  rw [hx1] at r2
  clear hf hy hb3 HR3 HR2 hu hu1 hv hv1 hx hx1 HX2
  have o1 : (FloatKind.f64.format.order 4621819117588971520 4621813488089437307 == some Ordering.gt) = true := by kernel_rfl
  have o2 : (FloatKind.f64.format.order 4621819117588971520 4621824747088505733 == some Ordering.lt) = true := by kernel_rfl
  have o3 : (FloatKind.f64.format.order 4611686018427387904 4611640982431114199 == some Ordering.gt) = true := by kernel_rfl
  have o4 : (FloatKind.f64.format.order 4611686018427387904 4611708536425524756 == some Ordering.lt) = true := by kernel_rfl
  have o5 : (FloatKind.f64.format.order 4616189618054758400 4616167100056621548 == some Ordering.gt) = true := by kernel_rfl
  have o6 : (FloatKind.f64.format.order 4616189618054758400 4616200877053826826 == some Ordering.lt) = true := by kernel_rfl
  have hw5 := HWants_any 5 w3
  rw [show wantsI 5 = 5 by kernel_rfl] at hw5
  have HW5 := Lib.hid hw5
  clear hw5
  go_wp2_with fail
  refine HW5.out.mono ?_
  rintro z w4 ⟨rfl, rfl⟩
  go_wp2
  go_ret
  exact ⟨rfl, HB3.out⟩
end Go.Proofs.YtmgfaeineklccaaGreat
/- How an argument of layer 21 looks: pairs of 64 bits. -/
set_option linter.unusedSimpArgs false
set_option linter.unusedVariables false
namespace Go.Proofs.YtmgfaeineklccaaGreat
open Go.ChangeShapes Go.WideShapes Go.ChangeAt Go.RowKit

/-- The slice at A reads as the pairs f 0, .., f (n - 1). -/
def BitsAt (w : World) (A : Option Addr) (n : Nat) (f : Nat → Int × Int) : Prop := ∀ i, i < n → ∃ b o, A = some ⟨b, o, none⟩ ∧ w.cell? ⟨b, o + i * 2, none⟩ = some (.int .i64 (f i).1) ∧ w.cell? ⟨b, o + i * 2 + 1, none⟩ = some (.int .i64 (f i).2)
theorem BitsAt.keep {W w1 : World} {A : Option Addr} {n : Nat} {f : Nat → Int × Int} (hb : Below W.heap.size W w1) (h : BitsAt W A n f) : BitsAt w1 A n f := fun i hi => by
  obtain ⟨b, o, e, h1, h2⟩ := h i hi
  exact ⟨b, o, e, keep_cell hb h1, keep_cell hb h2⟩
theorem cells_two64 : Tryz.prog.cellsOf 48 = 2 := by kernel_rfl

set_option maxRecDepth 100000 in
theorem trod_two64 {H : Type} {enc : TypeId × Value → H} {W : World} {base n : Nat} {sp : Nat → Bool} {hd : Bool} {cs : List Value} {x : DataW H × List MemPlace} (hl : cs.length = 2) (h : DataW.trod enc Tryz.prog W base sp hd n 48 cs = some x) : ∃ a b : Int, cs = [.int .i64 a, .int .i64 b] := by
  obtain ⟨c0, c1, rfl⟩ : ∃ a b, cs = [a, b] := by
    match cs, hl with
    | [a, b], _ => exact ⟨a, b, rfl⟩
  obtain ⟨xs, m, rfl, hx, _, hn, hel⟩ := DataW.trod_array Tryz.underlying48 h
  have h0 := hel 0 (by omega)
  have h1 := hel 1 (by omega)
  rw [cells_int64] at h0 h1
  obtain ⟨y0, y1, rfl⟩ : ∃ a b, xs = [a, b] := by
    match xs, hn with
    | [a, b], _ => exact ⟨a, b, rfl⟩
  obtain ⟨x0, e0, _, _⟩ := DataW.trod_int Tryz.underlying2 h0
  obtain ⟨x1, e1, _, _⟩ := DataW.trod_int Tryz.underlying2 h1
  simp at e0 e1
  subst e0 e1
  exact ⟨x0, x1, rfl⟩

set_option maxRecDepth 100000 in
theorem shape_bits {H : Type} {enc : TypeId × Value → H} {W : World} {base : Nat} {v : Value} {d : DataW H} {p : List MemPlace} (hval : Value.okWide Tryz.prog W .any base 46 v)
    (h : DataW.Trod enc Tryz.prog W 0 (fun _ => true) true 46 v d p) : ∃ A n c f, v = .slice A n c ∧ BitsAt W A n f ∧ n ≤ 9223372036854775807 ∧ (A = none → c = 0) ∧ n ≤ c ∧ c ≤ 9223372036854775807 := by
  obtain ⟨a0, len, cap, rfl⟩ := okWide_slice Tryz.underlying46 hval
  obtain ⟨fuel, hf⟩ := h
  rcases Deep.open_slice Tryz.underlying46 hf with ⟨hcs, hx⟩ | ⟨a, len', cap', m, n, D, Pl, hcs, _, hl, hm, hmm, hx, hel⟩
  · simp [Value.cells] at hcs
    obtain ⟨rfl, rfl, rfl⟩ := hcs
    exact ⟨_, _, _, fun _ => (0, 0), rfl, fun i hi => by omega, by omega, fun _ => rfl, by omega, by omega⟩
  · simp [Value.cells] at hcs
    obtain ⟨rfl, rfl, rfl⟩ := hcs
    have hlm : len ≤ m := by rw [hmm]; split <;> omega
    have each : ∀ i, i < len → ∃ q : Int × Int, W.cell? (a.add (i * 2)) = some (.int .i64 q.1) ∧ W.cell? (a.add (i * 2 + 1)) = some (.int .i64 q.2) := by
      intro i hi
      obtain ⟨cs', h1, h2⟩ := hel i (by omega)
      rw [cells_two64] at h1
      obtain ⟨_, hlen, hcell⟩ := World.cells?_some h1
      obtain ⟨x, y, rfl⟩ := trod_two64 hlen h2
      have e0 := hcell 0 (by omega)
      have e1 := hcell 1 (by omega)
      rw [Deep.add_add] at e0 e1
      exact ⟨(x, y), by simpa using e0, by simpa using e1⟩
    obtain ⟨q, hq⟩ := Deep.choose_lt each
    refine ⟨_, _, _, q, rfl, ?_, by unfold maxLen at hm; omega, (fun e => by cases e), by omega, by unfold maxLen at hm; omega⟩
    intro i hi
    obtain ⟨b, off, spot⟩ := a
    have hspot : spot = none := by simpa [Addr.add] using World.cell?_spot (hq 0 (by omega)).1
    subst hspot
    refine ⟨b, off, rfl, ?_⟩
    have := hq i hi
    rw [add_plain, add_plain] at this
    exact this
end Go.Proofs.YtmgfaeineklccaaGreat
