/- slices.IndexFunc, slices.ContainsFunc over complex floats; cplx.Guard. -/
import Derived.Test.YtbobmhobaaeohaaQ11
import Derived.Shelf.Abstract
set_option linter.unusedSimpArgs false
set_option linter.unusedVariables false
namespace Go.Proofs.Ytbobmhobaaeohaa
open Go.RowKit Go.Lib

/-- The place of the first that is so, or -1. -/
def idxI (p : Cx → Bool) (x : Nat → Cx) : Nat → Int
  | 0 => -1
  | n + 1 => if idxI p x n = -1 then (if p (x n) = true then (n : Int) else -1) else idxI p x n
theorem idxI_at {p : Cx → Bool} {x : Nat → Cx} {k n : Nat} (hk : k < n) (h : idxI p x k = -1) (hp : p (x k) = true) : idxI p x n = k := by
  induction n with
  | zero => omega
  | succ n ih =>
    unfold idxI
    by_cases e : k = n
    · subst e; rw [if_pos h, if_pos hp]
    · have := ih (by omega)
      rw [this, if_neg (by omega)]
theorem idxI_next {p : Cx → Bool} {x : Nat → Cx} {k : Nat} (h : idxI p x k = -1) (hp : p (x k) = false) : idxI p x (k + 1) = -1 := by
  unfold idxI
  rw [if_pos h, if_neg (by rw [hp]; decide)]
theorem idxI_no {p : Cx → Bool} {x : Nat → Cx} {n : Nat} : idxI p x n = -1 ↔ ∀ i, i < n → p (x i) = false := by
  induction n with
  | zero => exact ⟨fun _ i hi => absurd hi (by omega), fun _ => rfl⟩
  | succ n ih =>
    unfold idxI
    by_cases h : idxI p x n = -1
    · rw [if_pos h]
      constructor
      · intro hh i hi
        by_cases e : i = n
        · subst e
          cases hp : p (x i)
          · rfl
          · rw [hp, if_pos rfl] at hh; omega
        · exact ih.1 h i (by omega)
      · intro hh; rw [hh n (by omega)]; rfl
    · rw [if_neg h]
      exact ⟨fun hh => absurd hh h, fun hh => absurd (ih.2 fun i hi => hh i (by omega)) h⟩
theorem idxI_ge (p : Cx → Bool) (x : Nat → Cx) (n : Nat) : idxI p x n = -1 ∨ 0 ≤ idxI p x n := by
  induction n with
  | zero => exact .inl rfl
  | succ n ih =>
    unfold idxI
    split
    · split
      · exact .inr (by omega)
      · exact .inl rfl
    · rcases ih with h | h
      · contradiction
      · exact .inr h

set_option maxRecDepth 100000 in
set_option maxHeartbeats 2000000 in
theorem IndexFuncC_any (f : FuncId) (b : Nat) (g : FuncId) (p : Cx → Bool) (hent : ∀ (args : Array Value) w, (callFunc f args).run Try.prog w = .ok (.enter f args) w)
    (hf : ∀ (u : Rx) w, FnBox w b g → Calls Try.prog f #[cV u, .pointer (some ⟨b, 0, none⟩)] w fun z w' => z = .returned (.bool (p (nC u))) ∧ Below w.heap.size w w')
    (X : Option Addr) (n c : Nat) (x : Nat → Cx) (w : World) (hX : CsAt w X n x) (hn : n ≤ 4398046511104) (hb : FnBox w b g) :
    Calls Try.prog 29 #[.slice X n c, .func (.func f) #[] #[.pointer (some ⟨b, 0, none⟩)]] w fun z w' => z = .returned (.int .i64 (idxI p x n)) ∧ Below w.heap.size w w' := by
  have HF := Lib.hid hf
  have HX := Lib.hid hX
  have HB := Lib.hid hb
  clear hf hX hb
  go_enter Try.func29, Try.ntmps29
  go_wp2
  go_loopw [8] (fun vi wr => ∃ k : Nat, k ≤ n ∧ vi = .int .i64 k ∧ Hid (idxI p x k = -1) ∧ Hid (Below w.heap.size w wr)) (fun vi _ => n - (intOf vi).toNat)
  case atStart => exact ⟨0, by omega, rfl, Lib.hid rfl, Lib.hid (Below.refl _ _)⟩
  case round =>
    obtain ⟨k, hk, rfl, hi, hb⟩ := hrel
    by_cases hlt : k < n
    · obtain ⟨b', o, u, rfl, hc1, hc2, hu⟩ := HX.out.keep hb.out k hlt
      have HU := Lib.hid hu
      clear hu
      have hki : (k : Int) < n := by omega
      go_wp2_with fail
      refine (HF.out u wr (by have := HB.out; unfold FnBox at this ⊢; exact keep_cell hb.out this)).mono ?_
      rintro z w2 ⟨rfl, hb2⟩
      have HB2 := Lib.hid (hb.out.trans (hb2.mono hb.out.size))
      clear hb2 hc1 hc2
      cases hp : p (nC u)
      · have HI : Hid (idxI p x (k + 1) = -1) := Lib.hid (idxI_next hi.out (by rw [← HU.out]; exact hp))
        clear hp
        go_wp2
        exact ⟨⟨k + 1, by omega, by go_num, HI, HB2⟩, by simp [intOf]; omega⟩
      · have HI : Hid (idxI p x n = k) := Lib.hid (idxI_at hlt hi.out (by rw [← HU.out]; exact hp))
        clear hp
        go_wp2
        go_ret
        exact ⟨by rw [HI.out]; rfl, HB2.out⟩
    · obtain rfl : k = n := by omega
      go_wp2
      go_ret
      exact ⟨by rw [hi.out]; rfl, hb.out⟩

def badC (lim : Nat) (c : Cx) : Bool := !fitsC lim c
set_option maxRecDepth 100000 in
set_option maxHeartbeats 2000000 in
/-- Guard: the place of the first that is too great, and the error. -/
theorem Guard_any (X : Option Addr) (n c : Nat) (x : Nat → Cx) (w : World) (hX : CsAt w X n x) (hn : n ≤ 4398046511104) :
    Calls Try.prog 30 #[.slice X n c] w fun z w' => (∃ a : Int, z = .returned (.tuple #[.int .i64 a, .int .i64 (if idxI (badC W900) x n = -1 then 0 else 5)])) ∧ Below w.heap.size w w' := by
  obtain ⟨er, her⟩ : ∃ er : Int, (if idxI (badC W900) x n = -1 then 0 else 5) = er := ⟨_, rfl⟩
  rw [her]
  have HE := Lib.hid her
  have HX := Lib.hid hX
  clear hX her
  go_enter Try.func30, Try.ntmps30
  go_upto_region 2 with (fail)
  obtain ⟨W, hW⟩ : ∃ W, W = w.alloc (.cells #[.func (.func 35) #[] #[]] 52) := ⟨_, rfl⟩
  have hb : Below w.heap.size w W := by rw [hW]; exact (Below.refl _ w).alloc (Nat.le_refl _) _
  have hF : FnBox W w.heap.size 35 := by unfold FnBox; rw [hW, World.cell?_alloc_new]; rfl
  rw [← hW]
  have HB := Lib.hid hb
  have HX2 := Lib.hid (HX.out.keep hb)
  have HFB := Lib.hid hF
  clear hW hb hF HX
  go_wp2_with fail
  refine (IndexFuncC_any 36 w.heap.size 35 (badC W900) (fun args w => enters_of Try.func36 (by kernel_rfl) rfl args w) (fun u w h => guard2_any u _ w h) X n c x W HX2.out hn HFB.out).mono ?_
  rintro z w2 ⟨rfl, hb2⟩
  have HB2 := Lib.hid (HB.out.trans (hb2.mono HB.out.size))
  clear hb2
  rcases idxI_ge (badC W900) x n with h | h
  · obtain rfl : er = 0 := by rw [← HE.out, if_pos h]
    rw [h]
    go_wp2
    go_ret2
    exact ⟨⟨0, rfl⟩, HB2.out⟩
  · obtain rfl : er = 5 := by rw [← HE.out, if_neg (by omega)]
    clear HE
    generalize idxI (badC W900) x n = i at *
    have h2 : ¬ i < 0 := by omega
    go_wp2
    go_ret2
    exact ⟨⟨i, rfl⟩, HB2.out⟩
end Go.Proofs.Ytbobmhobaaeohaa
