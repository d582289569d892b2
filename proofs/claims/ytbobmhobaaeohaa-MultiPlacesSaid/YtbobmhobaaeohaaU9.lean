/- The law of sizes and places. -/
import Derived.Test.YtbobmhobaaeohaaMU1
import Derived.Test.YtbobmhobaaeohaaU8
set_option linter.unusedSimpArgs false
set_option linter.unusedVariables false
namespace Go.Proofs.Ytbobmhobaaeohaa
open Go.RowKit Go.Lib

theorem sizeV_pos {f : Nat → Int} {l : Nat} : 0 < sizeV f l ↔ sizeB f l = true := by
  unfold sizeV
  cases h : sizeB f l
  · simp
  · simp only [if_true, iff_true]
    unfold sizeB at h
    simp only [Bool.and_eq_true] at h
    have := (okT_bd h.2).1
    omega
set_option maxRecDepth 100000 in
theorem Places_any (A : Option Addr) (n c : Nat) (f : Nat → Int) (B : Option Addr) (m e : Nat) (g : Nat → Int) (w : World) (hA : IntsAt w A n f) (hn : n ≤ 1125899906842624) (hB : IntsAt w B m g) (hm : m ≤ 1125899906842624) :
    Calls Try.prog 3 #[.slice A n c, .slice B m e] w fun z w' => z = .returned (.bool true) ∧ Below w.heap.size w w' := by
  have H1 := Lib.hid (Size_any A n c f w hA)
  have H2 := Lib.hid (refSize_any A n c f w hA)
  have H3 := Lib.hid (Place_any A B n m c e f g w hA hB)
  have H4 := Lib.hid (refPlace_any A B n m c e f g w hA hB)
  have HP := Lib.hid (@sizeV_pos f n)
  obtain ⟨v, hv⟩ : ∃ v, v = sizeV f n := ⟨_, rfl⟩
  obtain ⟨p, hp⟩ : ∃ p, p = placeV f g n m := ⟨_, rfl⟩
  obtain ⟨q, hq⟩ : ∃ q, q = placeE f g n m := ⟨_, rfl⟩
  obtain ⟨b, hb⟩ : ∃ b, b = sizeB f n := ⟨_, rfl⟩
  rw [← hv, ← hb] at H1 HP
  rw [← hv] at H2
  rw [← hp, ← hq] at H3 H4
  clear hv hp hq hb hn hm hA hB
  cases b
  · have hv0 : v ≤ 0 := by
      have := HP.out
      simp only [Bool.false_eq_true, iff_false] at this
      omega
    rw [if_neg (by decide)] at H1
    have HV := Lib.hid hv0
    clear hv0 HP
    go_enter Try.func3, Try.ntmps3
    go_upto_region 1 with (fail)
    go_wp2_with fail
    refine H1.out.mono ?_
    rintro z w1 ⟨rfl, rfl⟩
    go_wp2_with fail
    refine H2.out.mono ?_
    rintro z w1 ⟨rfl, rfl⟩
    go_wp2_with fail
    refine H3.out.mono ?_
    rintro z w1 ⟨rfl, rfl⟩
    go_wp2_with fail
    refine H4.out.mono ?_
    rintro z w1 ⟨rfl, hb1⟩
    have HB1 := Lib.hid hb1
    clear hb1
    go_wp2_with fail
    refine (wakes22_any _).mono ?_
    rintro z w2 ⟨rfl, hb2⟩
    have HB2 := Lib.hid (HB1.out.trans (hb2.mono HB1.out.size))
    clear hb2 H1 H2 H3 H4 HB1
    go_wp2
    all_goals first | (go_ret; exact ⟨rfl, HB2.out⟩) | (exfalso; have := HV.out; omega) | (rw [show decide (0 < v) = false from decide_eq_false (by have := HV.out; omega)]; go_ret; exact ⟨rfl, HB2.out⟩) | (rw [show decide (0 < v) = true from decide_eq_true HV.out]; go_ret; exact ⟨rfl, HB2.out⟩)
  · have hv0 : 0 < v := by
      have := HP.out
      simp only [iff_true] at this
      omega
    rw [if_pos rfl] at H1
    have HV := Lib.hid hv0
    clear hv0 HP
    go_enter Try.func3, Try.ntmps3
    go_upto_region 1 with (fail)
    go_wp2_with fail
    refine H1.out.mono ?_
    rintro z w1 ⟨rfl, rfl⟩
    go_wp2_with fail
    refine H2.out.mono ?_
    rintro z w1 ⟨rfl, rfl⟩
    go_wp2_with fail
    refine H3.out.mono ?_
    rintro z w1 ⟨rfl, rfl⟩
    go_wp2_with fail
    refine H4.out.mono ?_
    rintro z w1 ⟨rfl, hb1⟩
    have HB1 := Lib.hid hb1
    clear hb1
    go_wp2_with fail
    refine (wakes22_any _).mono ?_
    rintro z w2 ⟨rfl, hb2⟩
    have HB2 := Lib.hid (HB1.out.trans (hb2.mono HB1.out.size))
    clear hb2 H1 H2 H3 H4 HB1
    go_wp2
    all_goals first | (go_ret; exact ⟨rfl, HB2.out⟩) | (exfalso; have := HV.out; omega) | (rw [show decide (0 < v) = false from decide_eq_false (by have := HV.out; omega)]; go_ret; exact ⟨rfl, HB2.out⟩) | (rw [show decide (0 < v) = true from decide_eq_true HV.out]; go_ret; exact ⟨rfl, HB2.out⟩)
end Go.Proofs.Ytbobmhobaaeohaa
