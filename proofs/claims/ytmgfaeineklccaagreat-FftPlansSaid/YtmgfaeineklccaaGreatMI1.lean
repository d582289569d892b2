/- Layer 21: is any number too great? -/
import Derived.Test.YtmgfaeineklccaaGreatMQ4
set_option linter.unusedSimpArgs false
set_option linter.unusedVariables false
namespace Go.Proofs.YtmgfaeineklccaaGreat
open Go.RowKit Go.Lib

set_option maxRecDepth 100000 in
set_option maxHeartbeats 2000000 in
theorem IndexFuncP_any (f : FuncId) (p : Cx → Bool) (hent : ∀ (args : Array Value) w, (callFunc f args).run Tryz.prog w = .ok (.enter f args) w)
    (hf : ∀ (u : Rx) w, Calls Tryz.prog f #[cV u] w fun z w' => z = .returned (.bool (p (nC u))) ∧ Below w.heap.size w w')
    (X : Option Addr) (n c : Nat) (x : Nat → Cx) (w : World) (hX : CsAt w X n x) (hn : n ≤ 4398046511104) :
    Calls Tryz.prog 100 #[.slice X n c, .func (.func f) #[] #[]] w fun z w' => z = .returned (.int .i64 (idxI p x n)) ∧ Below w.heap.size w w' := by
  have HF := Lib.hid hf
  have HX := Lib.hid hX
  clear hf hX
  go_enter Tryz.func100, Tryz.ntmps100
  go_wp2
  go_loopw [8] (fun vi wr => ∃ k : Nat, k ≤ n ∧ vi = .int .i64 k ∧ Hid (idxI p x k = -1) ∧ Hid (Below w.heap.size w wr)) (fun vi _ => n - (intOf vi).toNat)
  case atStart => exact ⟨0, by omega, rfl, Lib.hid rfl, Lib.hid (Below.refl _ _)⟩
  case round =>
    obtain ⟨k, hk, rfl, hi, hb⟩ := hrel
    by_cases hlt : k < n
    · obtain ⟨b', o, u, rfl, hc1, hc2, hu⟩ := HX.out.keep hb.out k hlt
      have HU := Lib.hid hu
      clear hu
      have hki : (k : Int) < n := by omega
      go_wp2_with fail
      refine (HF.out u wr).mono ?_
      rintro z w2 ⟨rfl, hb2⟩
      have HB2 := Lib.hid (hb.out.trans (hb2.mono hb.out.size))
      clear hb2 hc1 hc2
      cases hp : p (nC u)
      · have HI : Hid (idxI p x (k + 1) = -1) := Lib.hid (idxI_next hi.out (by rw [← HU.out]; exact hp))
        clear hp
        go_wp2
        exact ⟨⟨k + 1, by omega, by go_num, HI, HB2⟩, by simp [intOf]; omega⟩
      · have HI : Hid (idxI p x n = k) := Lib.hid (idxI_at hlt hi.out (by rw [← HU.out]; exact hp))
        clear hp
        go_wp2
        go_ret
        exact ⟨by rw [HI.out]; rfl, HB2.out⟩
    · obtain rfl : k = n := by omega
      go_wp2
      go_ret
      exact ⟨by rw [hi.out]; rfl, hb.out⟩

set_option maxRecDepth 100000 in
theorem ContainsC_any (f : FuncId) (p : Cx → Bool) (hent : ∀ (args : Array Value) w, (callFunc f args).run Tryz.prog w = .ok (.enter f args) w)
    (hf : ∀ (u : Rx) w, Calls Tryz.prog f #[cV u] w fun z w' => z = .returned (.bool (p (nC u))) ∧ Below w.heap.size w w')
    (X : Option Addr) (n c : Nat) (x : Nat → Cx) (w : World) (hX : CsAt w X n x) (hn : n ≤ 4398046511104) :
    Calls Tryz.prog 88 #[.slice X n c, .func (.func f) #[] #[]] w fun z w' => z = .returned (.bool (decide (0 ≤ idxI p x n))) ∧ Below w.heap.size w w' := by
  have HI := Lib.hid (IndexFuncP_any f p hent hf X n c x w hX hn)
  clear hf hX hent
  go_enter Tryz.func88, Tryz.ntmps88
  go_wp2_with fail
  refine HI.out.mono ?_
  rintro z w1 ⟨rfl, hb⟩
  have HB := Lib.hid hb
  clear hb
  go_wp2
  go_ret
  exact ⟨rfl, HB.out⟩
end Go.Proofs.YtmgfaeineklccaaGreat
