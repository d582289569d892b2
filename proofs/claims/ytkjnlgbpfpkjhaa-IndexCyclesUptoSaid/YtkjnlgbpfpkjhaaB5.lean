/- The contract of number. -/
import Derived.Test.YtkjnlgbpfpkjhaaB4
import Derived.Shelf.RegionOpen
set_option linter.unusedSimpArgs false
set_option linter.unusedVariables false
namespace Go.Proofs.Ytkjnlgbpfpkjhaa
open Go.RowKit Go.Shelf

attribute [local go_sem] Oper.semAt_some

/-- What has been gathered. -/
def horW (f d : Nat → Int) (n : Nat) (l : List Nat) : Int := l.foldl (fun a j => wrap64 (wrap64 (a * f (n - 1 - j)) + d (n - 1 - j))) 0
theorem horW_snoc (f d : Nat → Int) (n : Nat) (l : List Nat) (j : Nat) : horW f d n (l ++ [j]) = wrap64 (wrap64 (horW f d n l * f (n - 1 - j)) + d (n - 1 - j)) := by simp [horW]
theorem horW_hor {f d : Nat → Int} {n : Nat} {m : Int} (h : prodTo f n = some m) (hd : ∀ i, i < n → 0 ≤ d i ∧ d i < f i) : ∀ k, k ≤ n → horW f d n (List.range k) = hor f d n k
  | 0, _ => rfl
  | k + 1, hk => by
    rw [List.range_succ, horW_snoc, horW_hor h hd k (by omega)]
    have b1 := hor_bd h hd k (by omega)
    have b2 := hor_bd h hd (k + 1) hk
    obtain ⟨_, _, _, h4, _⟩ := prodTo_wt h
    have b3 := hd (n - 1 - k) (by omega)
    have b4 := h4 (n - 1 - k) (by omega)
    have e : hor f d n (k + 1) = hor f d n k * f (n - 1 - k) + d (n - 1 - k) := rfl
    have b5 := Int.mul_nonneg b1.1 (show 0 ≤ f (n - 1 - k) by omega)
    have e1 : wrap64 (hor f d n k * f (n - 1 - k)) = hor f d n k * f (n - 1 - k) := IntWalk.wrap64_in _ ⟨by omega, by omega⟩
    rw [e1, IntWalk.wrap64_in _ ⟨by omega, by omega⟩, e]

theorem number_end {n B : Nat} {f d : Nat → Int} {w W : World} {pre : List (Fin n)} {x : Fin n} {sv : Value} {acc r y : Int} {a : Act} (hc : W.cell? ⟨w.heap.size + 1, 0, none⟩ = some (.int .i64 acc)) (hf : W.frozen? ⟨w.heap.size + 1, 0, none⟩ = false)
    (hd : W.cell? ⟨w.heap.size, 0, none⟩ = some sv) (hB : Below w.heap.size w W) (hs : horW f d n (List.map Fin.val pre ++ [x.val]) = wrap64 (wrap64 (acc * r) + y)) :
    ownPostG B (Kept (w.heap.size + 1) (w.heap.size + 3))
      (fun pre W => (W.cell? ⟨w.heap.size + 1, 0, none⟩ = some (.int .i64 (horW f d n (pre.map Fin.val))) ∧ W.frozen? ⟨w.heap.size + 1, 0, none⟩ = false ∧ W.cell? ⟨w.heap.size, 0, none⟩ = some sv) ∧ Below w.heap.size w W)
      (fun _ _ _ => False) (pre ++ [x]) W Exit.normal a (W.setCell ⟨w.heap.size + 1, 0, none⟩ (.int .i64 (IntKind.i64.wrap (IntKind.i64.wrap (acc * r) + y)))).drew := by
  refine ⟨((KeepsOthers.setCell W _ _).trans (KeepsOthers.drew _)).from _, ((Kept.refl _ _ W).set _ _ _).drew, ⟨?_, ?_, ?_⟩, (hB.setCell (p := ⟨w.heap.size + 1, 0, none⟩) (by show w.heap.size ≤ w.heap.size + 1; omega) _).drew⟩
  · rw [List.map_append]
    show World.cell? (W.setCell _ _) _ = some (.int .i64 (horW f d n (List.map Fin.val pre ++ [x.val])))
    rw [hs]
    have e : ∀ n : Int, wrap64 n = IntKind.i64.wrap n := fun n => (IntWalk.i64_left n).symm
    rw [e, e]
    exact World.cell?_setCell_same _ _ _ hc
  · show World.frozen? (W.setCell _ _) _ = false
    rw [World.frozen?_setCell]; exact hf
  · show World.cell? (W.setCell _ _) _ = _
    rw [World.cell?_setCell_other]
    · exact hd
    · intro e; have := congrArg Addr.block e; simp at this

theorem mix : Try.prog.follows Departure.mixedOrders = true := by kernel_rfl

set_option maxRecDepth 100000 in
set_option maxHeartbeats 2000000 in
theorem number_in (F : Fence) (m : Nat) (h30 : F.fn 30) (h33 : F.fn 33) (h34 : F.fn 34) (hro : F.round = none) (hm : 3 ≤ m) (A A' : Option Addr) (n c c' : Nat) (f d : Nat → Int) (w : World) (hA : IntsAt w A n d) (hA' : IntsAt w A' n f) (hn : n ≤ 30) :
    CallsIn F m Try.prog 30 #[.slice A n c, .slice A' n c'] w fun e W' => e = .returned (.int .i64 (horW f d n (List.range n))) ∧ Below w.heap.size w W' := by
  have h1 : 1 ≤ m := by omega
  refine callsIn_of_wp_marks Try.func30 rfl h30 ?_ hro
  simp only [Try.ntmps30, List.size_toArray, List.length_cons, List.length_nil, Nat.reduceAdd, Nat.reduceSub, Array.replicate_succ, Array.replicate_zero, List.push_toArray, List.append_toArray, List.nil_append, List.cons_append]
  gi_wp2_with (gi_at_call 33; refine (backward_in F (m - 1) h33 hro _ _ _ _).mono ?_; rintro e w' ⟨rfl, rfl⟩)
  have bD := Boxed.new w 22 (.slice A n c)
  have bK := Boxed.new (w.alloc (.cells #[.slice A n c] 22)) 3 (.int .i64 0)
  have bN := Boxed.new ((w.alloc (.cells #[.slice A n c] 22)).alloc (.cells #[.int .i64 0] 3)) 22 (.slice A' n c')
  simp only [World.size_alloc] at bK bN
  have hB0 : Below w.heap.size w (((w.alloc (.cells #[.slice A n c] 22)).alloc (.cells #[.int .i64 0] 3)).alloc (.cells #[.slice A' n c'] 22)) := (((Below.refl _ w).alloc (Nat.le_refl _) _).alloc (by simp) _).alloc (by simp; omega) _
  have hI0 : IntsAt (((w.alloc (.cells #[.slice A n c] 22)).alloc (.cells #[.int .i64 0] 3)).alloc (.cells #[.slice A' n c'] 22)) A' n f := ((hA'.alloc _).alloc _).alloc _
  refine wpIn_rangeFunc_ownG hro h1 (gf := 34) (lb := #[.pointer (some ⟨w.heap.size + 1 + 1, 0, none⟩)]) rfl h34 (enters_of Try.func34 (by kernel_rfl) rfl)
    (back_stops F (m - 1) h34 hro (by omega) (w.heap.size + 1 + 1) (w.heap.size + 1) (w.heap.size + 3) n c' A' f (by omega) _ ⟨by omega, by omega⟩ (by simp) bN.cell (fun h b o e => ?hblk) hI0)
    Kept.trans (fun W l o o' hl h _ _ => Kept.put W l o o' (by simpa using hl) h) (Below.refl _ _) (fun _ => rfl)
    (fun pre W => (W.cell? ⟨w.heap.size + 1, 0, none⟩ = some (.int .i64 (horW f d n (pre.map Fin.val))) ∧ W.frozen? ⟨w.heap.size + 1, 0, none⟩ = false ∧ W.cell? ⟨w.heap.size, 0, none⟩ = some (.slice A n c)) ∧ Below w.heap.size w W)
    (fun _ _ _ => False)
    (OwnFrom.and (Own.from (fun s A B row hs hg hr => ⟨cell_kept hs.1 hg hr, (frozen_kept hs.1 hg hr).trans hs.2.1, cell_kept hs.2.2 hg hr⟩) _) (ownFrom_below (Nat.le_refl _) (by simp; omega)))
    (fun _ _ _ _ _ hs _ _ => hs)
    ⟨⟨(bK.alloc _).cell, (bK.alloc _).frozen, ((bD.alloc _).alloc _).cell⟩, hB0⟩
    (fun x => { tmps := #[.slice A n c, .slice A' n c', .pointer (some ⟨w.heap.size, 0, none⟩), undef, .int .i64 0, .pointer (some ⟨w.heap.size + 1, 0, none⟩), .int .i64 ((n - 1 - x.val : Nat) : Int), .int .i64 (f (n - 1 - x.val)), .slice A' n c', .func (.func 34) #[] #[.pointer (some ⟨w.heap.size + 1 + 1, 0, none⟩)], .int .i64 ((n - 1 - x.val : Nat) : Int), .int .i64 (f (n - 1 - x.val)), undef, undef, undef, undef, undef, undef, undef, undef, undef], defers := [] }) ?assign ?body ?done ?stop
  case hblk =>
    have := hA'.block h b o e
    exact ⟨by omega, by omega⟩
  case assign =>
    intro l x W K hK
    simp only [bw]
    gi_wp2
    exact hK
  case body =>
    rintro l pre x W ⟨⟨hc, hf, hd⟩, hB⟩ _
    have hxl := x.isLt
    obtain ⟨j, hj⟩ : ∃ j : Nat, n - 1 - x.val = j := ⟨_, rfl⟩
    have hjn : j < n := by omega
    obtain ⟨b, o, rfl, hdc⟩ := hA.keep hB j hjn
    have HS := Lib.hid (horW_snoc f d n (pre.map Fin.val) x.val)
    rw [hj] at HS
    rw [hj]
    obtain ⟨acc, ha⟩ : ∃ acc, horW f d n (pre.map Fin.val) = acc := ⟨_, rfl⟩
    rw [ha] at hc HS
    obtain ⟨r, hr⟩ : ∃ r, f j = r := ⟨_, rfl⟩
    obtain ⟨y, hy⟩ : ∃ y, d j = y := ⟨_, rfl⟩
    rw [hr, hy] at HS
    rw [hr]
    rw [hy] at hdc
    have HBB := Lib.hid hB
    clear ha hr hy hj hB bD bK bN hB0 hI0 hA'
    have hmix : Try.prog.follows Departure.mixedOrders = true := mix
    gi_wp2
    gi_region_with_o fail
    all_goals gi_wp2
    all_goals with_reducible exact number_end hc hf hd HBB.out HS.out
  case done =>
    rintro D ys W hD hu ⟨⟨hc, _⟩, hB⟩ hK
    have hu' : ys.map Fin.val = List.range n := hu
    rw [hu'] at hc
    gi_wp2
    refine ⟨by simp, .inl ⟨_, _, rfl, run_takeDeferred hK, ?_⟩⟩
    exact ⟨_, results_tmp rfl _ _ _, rfl, hB.trans (belowK_b (w := w) (Nat.le_refl _) W D _ _ (by simp at hD; omega) hK rfl rfl)⟩
  case stop =>
    rintro D c pre W _ _ h _
    exact h.elim
theorem number_any (A A' : Option Addr) (n c c' : Nat) (f d : Nat → Int) (w : World) (hA : IntsAt w A n d) (hA' : IntsAt w A' n f) (hn : n ≤ 30) (m : Int) (hp : prodTo f n = some m) (hd : ∀ i, i < n → 0 ≤ d i ∧ d i < f i) :
    Calls Try.prog 30 #[.slice A n c, .slice A' n c'] w fun z w' => z = .returned (.int .i64 (num f d n)) ∧ Below w.heap.size w w' := by
  have h := (callsIn_wide (n := 3)).1 (number_in Fence.wide 3 trivial trivial trivial rfl (by omega) A A' n c c' f d w hA hA' hn)
  rwa [horW_hor hp hd n (Nat.le_refl _), hor_all] at h

end Go.Proofs.Ytkjnlgbpfpkjhaa
