import Derived.Test.YtnpkblidlmkagaaV9
import Derived.MapKept
import Derived.WideKeyRuns
import Derived.Laws.StructEq
import Derived.KernelRfl
import Derived.BigQuiet
import Derived.Laws.CopyRow
import Derived.Deep.AppendSrc
import Derived.Deep.RegionLaw
import Derived.Lib.Overlaps
import Derived.Shelf.Spec.SlicesInsert
import Derived.Lib.AppendZerosOnto
import Derived.Lib.SliceRun
/- Maps whose keys are a size and a sign: what a look-up, a store, a deletion do. -/
set_option linter.unusedSimpArgs false
set_option linter.unusedVariables false
namespace Go.Proofs.Ytnpkblidlmkagaa
open Go Go.RowKit

abbrev keyV (k : Int × Int) : Value := .agg #[.int .i64 k.1, .int .i64 k.2]

@[go_sem] theorem run_eq_key (a b c d : Int) (w : World) : (Op.equalIn 10000 89 (.agg #[.int .i64 a, .int .i64 b]) (.agg #[.int .i64 c, .int .i64 d])).run Try.prog w = .ok (a == c && b == d) w := by
  have u3 := Try.underlying3
  have a3 := Try.isAgg3
  have z3 := Try.sizeOf3
  have hS : Try.prog.underlying 89 = some (.struct (Try.prog.fieldsOf 89)) := by kernel_rfl
  have hp : Try.prog.stoodInHeld 89 = false := by kernel_rfl
  rw [show (10000 : Nat) = 9999 + 1 from rfl, run_equalIn_agg w 9999 89 _ _ hS hp]
  simp only [Program.fieldsOf, Try.underlying89]
  go_simp
  by_cases h1 : a = c <;> by_cases h2 : b = d <;> simp [h1, h2]

/-- An entry of a map of tables. -/
abbrev ent (e : (Int × Int) × Value × Nat) : MapEntry := { key := keyV e.1, val := e.2.1, born := e.2.2 }

/-- The first entry of a key. -/
def fidx (k : Int × Int) : List ((Int × Int) × Value × Nat) → Nat → Option (Nat × Value)
  | [], _ => none
  | e :: es, i => if k = e.1 then some (i, e.2.1) else fidx k es (i + 1)

theorem run_findAsking (k : Int × Int) (w : World) : ∀ (es : List ((Int × Int) × Value × Nat)) (i : Nat), (Instr.findAsking 89 (keyV k) (es.map ent) i).run Try.prog w = .ok (fidx k es i) w
  | [], i => by simp [Instr.findAsking, fidx]
  | e :: es, i => by
    have ih := run_findAsking k w es (i + 1)
    have h := run_eq_key k.1 k.2 e.1.1 e.1.2 w
    obtain ⟨⟨a, b⟩, v, n⟩ := e
    obtain ⟨c, d⟩ := k
    simp only [List.map_cons, Instr.findAsking, fidx]
    have h' : (Op.equal 89 (keyV (c, d)) (keyV (a, b))).run Try.prog w = .ok (c == a && d == b) w := h
    simp only [Sem.run_bind, h', Result.andThen_ok]
    by_cases h1 : c = a
    · subst h1
      by_cases h2 : d = b
      · subst h2
        simp
      · simp [h2]
        exact ih
    · simp [h1]
      exact ih

theorem run_findKey89 (k : Int × Int) (es : List ((Int × Int) × Value × Nat)) (w : World) : (Instr.findKey 89 (keyV k) (es.map ent)).run Try.prog w = .ok (fidx k es 0) w := by
  unfold Instr.findKey
  rcases es with _ | ⟨e, es⟩
  · simp [run_underlying Try.underlying89, Instr.findNow, fidx]
  · have : Instr.findNow (.struct #[{ name := "N", type := 3, offset := 0, embedded := false, tag := "", pkgPath := "", byteOffset := 0 }, { name := "Sign", type := 3, offset := 1, embedded := false, tag := "", pkgPath := "", byteOffset := 8 }]) (keyV k) (List.map ent (e :: es)) 0 = none := by
      simp [Instr.findNow, Instr.sameNow]
    simp [run_underlying Try.underlying89, this]
    exact run_findAsking k w (e :: es) 0

theorem run_check3 (em : Bool) (n : Nat) (a : Int) (w : World) : (Instr.checkKey em (n + 1) 3 (.int .i64 a)).run Try.prog w = .ok () w := by
  simp only [Instr.checkKey, Sem.run_bind, run_underlying Try.underlying3, Result.andThen_ok]
  rfl
theorem run_check89' (em : Bool) (n : Nat) (k : Int × Int) (w : World) : (Instr.checkKey em (n + 1 + 1) 89 (keyV k)).run Try.prog w = .ok () w := by
  have a3 := Try.isAgg3
  have z3 := Try.sizeOf3
  have h1 := fun w => run_check3 em n k.1 w
  have h2 := fun w => run_check3 em n k.2 w
  generalize hm : n + 1 = m at *
  simp only [Instr.checkKey, Sem.run_bind, run_underlying Try.underlying89, Result.andThen_ok]
  go_simp
theorem run_check89 (em : Bool) (k : Int × Int) (w : World) : (Instr.checkKey em 10000 89 (keyV k)).run Try.prog w = .ok () w := run_check89' em 9998 k w

theorem run_zero78 (w : World) : (zeroValue 78).run Try.prog w = .ok (.slice none 0 0) w := by
  go_simp

/-- A look-up with its second result. -/
theorem run_look (r clock : Nat) (k : Int × Int) (es : List ((Int × Int) × Value × Nat)) (w : World) (h : w.heap[r]? = some (.map (es.map ent).toArray clock)) :
    (Instr.lookup 118 (.map (some r)) (keyV k) true).run Try.prog w = .ok (.tuple #[(match fidx k es 0 with | some (_, v) => v | none => .slice none 0 0), .bool (fidx k es 0).isSome]) w := by
  unfold Instr.lookup
  have hf := run_findKey89 k es w
  simp only [Sem.run_bind, run_underlying Try.underlying118, Result.andThen_ok, MapKept.run_getObj_map h, Sem.run_pure, run_check89]
  simp only [hf, Result.andThen_ok]
  cases hk : fidx k es 0 with
  | none => simp [run_zero78]
  | some q => simp

/-- A store under a key that is not there. -/
theorem run_store (r clock : Nat) (k : Int × Int) (v : Value) (es : List ((Int × Int) × Value × Nat)) (w : World) (h : w.heap[r]? = some (.map (es.map ent).toArray clock)) (hk : fidx k es 0 = none) :
    (Instr.mapUpdate 118 (.map (some r)) (keyV k) v).run Try.prog w = .ok () { w with heap := w.heap.setIfInBounds r (.map ((es ++ [(k, v, clock)]).map ent).toArray (clock + 1)) } := by
  unfold Instr.mapUpdate
  have hf := run_findKey89 k es w
  simp only [Sem.run_bind, run_underlying Try.underlying118, Result.andThen_ok, MapKept.run_getObj_map h, run_check89, hf, hk, MapKept.run_setObj_map _ h]
  simp

theorem eraseIdx_map' {α β : Type} (f : α → β) : ∀ (l : List α) (i : Nat), (l.map f).eraseIdx i = (l.eraseIdx i).map f
  | [], _ => by simp
  | a :: l, 0 => by simp
  | a :: l, i + 1 => by simp [eraseIdx_map' f l i]

/-- A deletion. -/
theorem run_drop (r clock : Nat) (k : Int × Int) (ty : TypeId) (es : List ((Int × Int) × Value × Nat)) (w : World) (h : w.heap[r]? = some (.map (es.map ent).toArray clock)) (i : Nat) (v : Value) (hk : fidx k es 0 = some (i, v)) :
    (Builtin.delete_ #[118, 89] ty #[.map (some r), keyV k]).run Try.prog w = .ok (.tuple #[]) { w with heap := w.heap.setIfInBounds r (.map ((es.eraseIdx i).map ent).toArray clock) } := by
  unfold Builtin.delete_
  have hf := run_findKey89 k es w
  simp [Sem.run_bind, run_underlying Try.underlying118, Result.andThen_ok, MapKept.run_getObj_map h, run_check89, hf, hk, MapKept.run_setObj_map _ h]
  rw [eraseIdx_map']

/-- The value under a key. -/
def lk (k : Int × Int) (es : List ((Int × Int) × Value × Nat)) : Option Value := (fidx k es 0).map (·.2)

theorem fidx_shift (k : Int × Int) : ∀ (es : List ((Int × Int) × Value × Nat)) (i j : Nat), fidx k es (i + j) = (fidx k es i).map fun q => (q.1 + j, q.2)
  | [], _, _ => rfl
  | e :: es, i, j => by
    unfold fidx
    split
    · rfl
    · rw [show i + j + 1 = (i + 1) + j by omega]
      exact fidx_shift k es (i + 1) j

theorem lk_nil (k : Int × Int) : lk k [] = none := rfl
theorem lk_cons (k : Int × Int) (e : (Int × Int) × Value × Nat) (es : List ((Int × Int) × Value × Nat)) : lk k (e :: es) = if k = e.1 then some e.2.1 else lk k es := by
  unfold lk
  rw [fidx]
  split
  · rfl
  · rw [fidx_shift k es 0 1]
    simp [Function.comp_def]

theorem lk_append (k : Int × Int) : ∀ (es fs : List ((Int × Int) × Value × Nat)), lk k (es ++ fs) = (lk k es).or (lk k fs)
  | [], fs => by simp [lk_nil]
  | e :: es, fs => by
    rw [List.cons_append, lk_cons, lk_cons]
    split
    · rfl
    · exact lk_append k es fs

theorem lk_none (k : Int × Int) : ∀ es, lk k es = none ↔ k ∉ es.map (·.1)
  | [] => by simp [lk_nil]
  | e :: es => by
    rw [lk_cons]
    have := lk_none k es
    split
    · rename_i h; simp [h]
    · rename_i h; simp [this, h]

theorem fidx_none {k : Int × Int} {es : List ((Int × Int) × Value × Nat)} (h : lk k es = none) : fidx k es 0 = none := by
  unfold lk at h
  simpa using h

theorem fidx_some {k : Int × Int} : ∀ {es : List ((Int × Int) × Value × Nat)}, k ∈ es.map (·.1) → (es.map (·.1)).Nodup → ∃ i v, fidx k es 0 = some (i, v) ∧ lk k es = some v ∧ (∀ k', lk k' (es.eraseIdx i) = if k' = k then none else lk k' es) ∧ ((es.eraseIdx i).map (·.1)).Nodup
  | [], h, _ => by simp at h
  | e :: es, h, hn => by
    simp only [List.map_cons, List.nodup_cons] at hn
    by_cases hk : k = e.1
    · refine ⟨0, e.2.1, by rw [fidx, if_pos hk], by rw [lk_cons, if_pos hk], fun k' => ?_, ?_⟩
      · rw [List.eraseIdx_cons_zero, lk_cons]
        by_cases h' : k' = k
        · rw [if_pos h', (lk_none k' es).2 (by rw [h', hk]; exact hn.1)]
        · rw [if_neg h', if_neg (by rw [← hk]; exact h')]
      · rw [List.eraseIdx_cons_zero]; exact hn.2
    · have hm : k ∈ es.map (·.1) := by
        simp only [List.map_cons, List.mem_cons] at h
        rcases h with h | h
        · exact absurd h hk
        · exact h
      obtain ⟨i, v, h1, h2, h3, h4⟩ := fidx_some hm hn.2
      refine ⟨i + 1, v, ?_, by rw [lk_cons, if_neg hk]; exact h2, fun k' => ?_, ?_⟩
      · rw [fidx, if_neg hk, fidx_shift k es 0 1, h1]; rfl
      · rw [List.eraseIdx_cons_succ, lk_cons, lk_cons, h3 k']
        by_cases h' : k' = k
        · rw [if_pos h', if_neg (by rw [h']; exact hk), if_pos h']
        · rw [if_neg h', if_neg h']
      · rw [List.eraseIdx_cons_succ]
        simp only [List.map_cons, List.nodup_cons]
        refine ⟨fun hc => hn.1 ?_, h4⟩
        obtain ⟨x, hx, hx1⟩ := List.mem_map.1 hc
        exact List.mem_map.2 ⟨x, List.mem_of_mem_eraseIdx hx, hx1⟩

end Go.Proofs.Ytnpkblidlmkagaa

/- A table of roots: the contract of build. -/
set_option linter.unusedSimpArgs false
set_option linter.unusedVariables false
namespace Go.Proofs.Ytnpkblidlmkagaa
open Go.RowKit

/-- n complex numbers in block b, that may be written. -/
def RowF (w : World) (b n : Nat) (f g : Nat → Nat) : Prop := ∀ i, i < n → (w.cell? ⟨b, i * 2, none⟩ = some (.float .f64 (f i)) ∧ w.frozen? ⟨b, i * 2, none⟩ = false) ∧ (w.cell? ⟨b, i * 2 + 1, none⟩ = some (.float .f64 (g i)) ∧ w.frozen? ⟨b, i * 2 + 1, none⟩ = false)

theorem RowF.keep {W w1 : World} {b n : Nat} {f g : Nat → Nat} (hb : Below W.heap.size W w1) (h : RowF W b n f g) : RowF w1 b n f g := fun i hi => by
  obtain ⟨⟨h1, h2⟩, h3, h4⟩ := h i hi
  exact ⟨⟨keep_cell hb h1, keep_free hb (World.block_lt_of_cell? _ _ h1) h2⟩, keep_cell hb h3, keep_free hb (World.block_lt_of_cell? _ _ h3) h4⟩
theorem RowF.congr {w : World} {b n : Nat} {f g f' g' : Nat → Nat} (h : RowF w b n f g) (e1 : ∀ i, i < n → f i = f' i) (e2 : ∀ i, i < n → g i = g' i) : RowF w b n f' g' := fun i hi => by rw [← e1 i hi, ← e2 i hi]; exact h i hi
theorem RowF.lt {w : World} {b n : Nat} {f g : Nat → Nat} (h : RowF w b n f g) (hn : 0 < n) : b < w.heap.size := World.block_lt_of_cell? _ _ (h 0 hn).1.1
theorem RowF.set {w : World} {b n : Nat} {f g : Nat → Nat} (h : RowF w b n f g) {j : Nat} (hj : j < n) (u v : Nat) :
    RowF ((w.setCell ⟨b, j * 2, none⟩ (.float .f64 u)).setCell ⟨b, j * 2 + 1, none⟩ (.float .f64 v)) b n (fun i => if i = j then u else f i) (fun i => if i = j then v else g i) := by
  intro i hi
  obtain ⟨⟨h1, h2⟩, h3, h4⟩ := h i hi
  simp only [World.frozen?_setCell]
  refine ⟨⟨?_, h2⟩, ?_, h4⟩
  · rw [World.cell?_setCell_other _ _ _ _ (fun e => by have := congrArg Addr.off e; simp at this; omega)]
    by_cases e : i = j
    · subst e; rw [if_pos rfl]; exact World.cell?_setCell_same _ _ _ h1
    · rw [if_neg e, World.cell?_setCell_other _ _ _ _ (fun e' => by have := congrArg Addr.off e'; simp at this; omega)]
      exact h1
  · by_cases e : i = j
    · subst e; rw [if_pos rfl]
      refine World.cell?_setCell_same (u := .float .f64 (g i)) _ _ _ ?_
      rw [World.cell?_setCell_other _ _ _ _ (fun e => by have := congrArg Addr.off e; simp at this)]
      exact h3
    · rw [if_neg e, World.cell?_setCell_other _ _ _ _ (fun e' => by have := congrArg Addr.off e'; simp at this; omega), World.cell?_setCell_other _ _ _ _ (fun e' => by have := congrArg Addr.off e'; simp at this; omega)]
      exact h3

/-- The table of a size and a sign. -/
def Tab (w : World) (b n : Nat) (s : Int) : Prop := RowF w b n (fun i => tuC (s * i) n) (fun i => tuS (s * i) n)

theorem info83 : (Try.prog.info? 83).map (fun i => (i.zero, i.size, i.bytes)) = some (some (.agg #[.float .f64 0, .float .f64 0]), 2, 16) := by kernel_rfl
/-- n complex noughts. -/
def zc (n : Nat) : Array Value := madeCells #[.float .f64 0, .float .f64 0] (n * 2)
theorem mk78 (n : Nat) (hn : n ≤ 17592186044416) (w : World) : (Instr.makeSlice 78 (.int .i64 n) (.int .i64 n)).run Try.prog w = .ok (.slice (some ⟨w.heap.size, 0, none⟩) n n) (w.alloc (.cells (zc n) 83)) := by
  obtain ⟨i0, hi, hz0, hz1, hz2⟩ := info_parts info83
  have h := run_make (P := Try.prog) w 78 83 i0 _ Try.underlying78 hi hz0 .i64 .i64 n n (by omega) (by omega) (by rw [hz2]; omega) (by omega)
  rw [hz1] at h
  simpa [zc, Value.cells] using h
theorem zc_row (n : Nat) (w : World) : RowF (w.alloc (.cells (zc n) 83)) w.heap.size n (fun _ => 0) (fun _ => 0) := by
  intro i hi
  refine ⟨⟨?_, World.frozen?_alloc_new _ _ _ _⟩, ?_, World.frozen?_alloc_new _ _ _ _⟩
  · rw [World.cell?_alloc_new, zc]
    simp [madeCells, show i * 2 < n * 2 by omega]
  · rw [World.cell?_alloc_new, zc]
    simp [madeCells, show i * 2 + 1 < n * 2 by omega, show (i * 2 + 1) % 2 = 1 by omega]

set_option maxRecDepth 100000 in
set_option maxHeartbeats 4000000 in
theorem build_any (n : Nat) (s : Int) (w : World) (n1 : 1 ≤ n) (n2 : n ≤ 32768) (hs : s = 1 ∨ s = -1) :
    Calls Try.prog 93 #[keyV ((n : Int), s)] w fun z w' => ∃ b, z = .returned (.slice (some ⟨b, 0, none⟩) n n) ∧ w.heap.size ≤ b ∧ Tab w' b n s ∧ Below w.heap.size w w' := by
  have hmk := mk78 n (by omega)
  have hturn : ∀ i : Nat, ∀ w, Calls Try.prog 47 #[.int .i64 (s * i), .int .i64 n] w fun z w' => z = .returned (.tuple #[.float .f64 (tuC (s * i) n), .float .f64 (tuS (s * i) n)]) ∧ Below w.heap.size w w' := fun i => (turn_fn (s * i) n (by omega) (by omega)).1
  have HT := Lib.hid hturn
  have B0 := Lib.hid (((Below.refl _ w).alloc (Nat.le_refl _) (.cells #[.int .i64 (n : Int), .int .i64 s] 89)).alloc (by simp) (.cells (zc n) 83))
  have R0 : Hid (RowF ((w.alloc (.cells #[.int .i64 (n : Int), .int .i64 s] 89)).alloc (.cells (zc n) 83)) (w.heap.size + 1) n (fun _ => 0) (fun _ => 0)) := Lib.hid (by
    have := zc_row n (w.alloc (.cells #[.int .i64 (n : Int), .int .i64 s] 89))
    simpa using this)
  have T0 : Hid (Two ((w.alloc (.cells #[.int .i64 (n : Int), .int .i64 s] 89)).alloc (.cells (zc n) 83)) w.heap.size (.int .i64 (n : Int)) (.int .i64 s)) := Lib.hid ((Two.new w _ _ 89).alloc _)
  clear hturn
  go_enter Try.func93, Try.ntmps93
  go_wp2_with fail
  go_loopw [12] (fun i wr => ∃ k : Nat, k ≤ n ∧ i = .int .i64 k ∧ Hid (RowF wr (w.heap.size + 1) n (fun i => if i < k then tuC (s * i) n else 0) (fun i => if i < k then tuS (s * i) n else 0)) ∧ Hid (Two wr w.heap.size (.int .i64 (n : Int)) (.int .i64 s)) ∧ Hid (Below w.heap.size w wr)) (fun i _ => n - (intOf i).toNat)
  case atStart =>
    refine ⟨0, by omega, rfl, Lib.hid ?_, T0, B0⟩
    have := R0.out
    simpa using this
  case round =>
    obtain ⟨k, hk, rfl, hr, ht, hb⟩ := hrel
    clear R0 T0 B0
    have lr := hr.out.lt (by omega)
    have lt := ht.out.lt
    by_cases hlt : k < n
    · have hki : (k : Int) < n := by omega
      obtain ⟨r0, r1, f0, f1⟩ := ht.out
      have wm : wrap64 (s * (k : Int)) = s * k := by
        rcases hs with rfl | rfl
        · unfold wrap64; omega
        · unfold wrap64; omega
      go_wp2_with (first | simp only [wm] | fail)
      refine (HT.out k _).mono ?_
      rintro z w1 ⟨rfl, hb1⟩
      have hr1 := hr.out.keep hb1
      have HR := Lib.hid (hr1.set hlt (tuC (s * k) n) (tuS (s * k) n))
      have H2 := Lib.hid (ht.out.keep hb1)
      have hb2 := hb.out.trans (hb1.mono hb.out.size)
      have HB := Lib.hid ((hb2.setCell (p := ⟨w.heap.size + 1, k * 2, none⟩) (by show w.heap.size ≤ w.heap.size + 1; omega) (.float .f64 (tuC (s * k) n))).setCell (p := ⟨w.heap.size + 1, k * 2 + 1, none⟩) (by show w.heap.size ≤ w.heap.size + 1; omega) (.float .f64 (tuS (s * k) n)))
      obtain ⟨⟨c0, c1⟩, c2, c3⟩ := hr1 k hlt
      clear hr1 hb1 hb2 r0 r1 f0 f1
      go_wp2_with fail
      refine ⟨⟨k + 1, by omega, by go_num, Lib.hid ?_, Lib.hid ?_, HB⟩, by simp [intOf]; omega⟩
      · refine HR.out.congr (fun i hi => ?_) (fun i hi => ?_)
        · by_cases h1 : i = k
          · subst h1; rw [if_pos rfl, if_pos (by omega)]
          · rw [if_neg h1]
            by_cases h2 : i < k
            · rw [if_pos h2, if_pos (by omega)]
            · rw [if_neg h2, if_neg (by omega)]
        · by_cases h1 : i = k
          · subst h1; rw [if_pos rfl, if_pos (by omega)]
          · rw [if_neg h1]
            by_cases h2 : i < k
            · rw [if_pos h2, if_pos (by omega)]
            · rw [if_neg h2, if_neg (by omega)]
      · exact (H2.out.setOther ⟨w.heap.size + 1, k * 2, none⟩ (by show w.heap.size + 1 ≠ w.heap.size; omega) _).setOther ⟨w.heap.size + 1, k * 2 + 1, none⟩ (by show w.heap.size + 1 ≠ w.heap.size; omega) _
    · obtain rfl : k = n := by omega
      go_wp2_with fail
      go_ret
      exact ⟨w.heap.size + 1, rfl, by omega, hr.out.congr (fun i hi => if_pos hi) (fun i hi => if_pos hi), hb.out⟩

end Go.Proofs.Ytnpkblidlmkagaa

/- Lists of keys: the contract of slices.Index. -/
set_option linter.unusedSimpArgs false
set_option linter.unusedVariables false
namespace Go.Proofs.Ytnpkblidlmkagaa
open Go.RowKit

/-- The cells of keys. -/
def kL : List (Int × Int) → List Value
  | [] => []
  | k :: K => .int .i64 k.1 :: .int .i64 k.2 :: kL K

theorem kL_length : ∀ K, (kL K).length = K.length * 2
  | [] => rfl
  | k :: K => by simp only [kL, List.length_cons, kL_length K]; omega
theorem kL_append : ∀ K L, kL (K ++ L) = kL K ++ kL L
  | [], L => rfl
  | k :: K, L => by simp only [kL, List.cons_append, kL_append K L]
theorem kL_get : ∀ (K : List (Int × Int)) (i : Nat) (k : Int × Int), K[i]? = some k → (kL K)[i * 2]? = some (.int .i64 k.1) ∧ (kL K)[i * 2 + 1]? = some (.int .i64 k.2)
  | [], i, k, h => by simp at h
  | a :: K, 0, k, h => by simp at h; subst h; exact ⟨rfl, rfl⟩
  | a :: K, i + 1, k, h => by
    have := kL_get K i k (by simpa using h)
    rw [show (i + 1) * 2 = i * 2 + 1 + 1 by omega]
    exact this
theorem kL_one : ∀ K, ∀ v ∈ kL K, v.oneCell' = true
  | [], v, h => by simp [kL] at h
  | k :: K, v, h => by
    simp only [kL, List.mem_cons] at h
    rcases h with rfl | rfl | h
    · rfl
    · rfl
    · exact kL_one K v h
theorem kL_take : ∀ (K : List (Int × Int)) (i : Nat), (kL K).take (i * 2) = kL (K.take i)
  | [], i => by simp [kL]
  | k :: K, 0 => rfl
  | k :: K, i + 1 => by
    rw [show (i + 1) * 2 = i * 2 + 1 + 1 by omega]
    simp only [kL, List.take_succ_cons, kL_take K i]
theorem kL_drop : ∀ (K : List (Int × Int)) (i : Nat), (kL K).drop (i * 2) = kL (K.drop i)
  | [], i => by simp [kL]
  | k :: K, 0 => rfl
  | k :: K, i + 1 => by
    rw [show (i + 1) * 2 = i * 2 + 1 + 1 by omega]
    simp only [kL, List.drop_succ_cons, kL_drop K i]

/-- The keys K in block b, of capacity c, that may be written. -/
structure KRow (w : World) (b c : Nat) (K : List (Int × Int)) : Prop where
  le : K.length ≤ c
  mx : c ≤ maxLen
  obj : ∃ (cur : Array Value) (rest : List Value), w.heap[b]? = some (.cells cur 89 (0, 0)) ∧ cur.toList = kL K ++ rest ∧ cur.size = c * 2

theorem KRow.vals {w : World} {b c : Nat} {K : List (Int × Int)} (h : KRow w b c K) : ∀ i k, K[i]? = some k → w.cell? ⟨b, i * 2, none⟩ = some (.int .i64 k.1) ∧ w.cell? ⟨b, i * 2 + 1, none⟩ = some (.int .i64 k.2) := by
  obtain ⟨cur, rest, h1, h2, h3⟩ := h.obj
  intro i k hk
  obtain ⟨g1, g2⟩ := kL_get K i k hk
  have hi : i < K.length := (List.getElem?_eq_some_iff.1 hk).1
  have hl := kL_length K
  constructor
  · simp only [World.cell?, h1]
    rw [← Array.getElem?_toList, h2, List.getElem?_append_left (by omega), g1]
    rfl
  · simp only [World.cell?, h1]
    rw [← Array.getElem?_toList, h2, List.getElem?_append_left (by omega), g2]
    rfl
theorem KRow.lt {w : World} {b c : Nat} {K : List (Int × Int)} (h : KRow w b c K) : b < w.heap.size := by
  obtain ⟨cur, rest, h1, _⟩ := h.obj
  exact (Array.getElem?_eq_some_iff.1 h1).1
theorem KRow.of_block {W w1 : World} {b c : Nat} {K : List (Int × Int)} (hb : w1.heap[b]? = W.heap[b]?) (h : KRow W b c K) : KRow w1 b c K := by
  obtain ⟨cur, rest, h1, h2, h3⟩ := h.obj
  exact ⟨h.le, h.mx, cur, rest, by rw [hb]; exact h1, h2, h3⟩
theorem KRow.keep {W w1 : World} {b c : Nat} {K : List (Int × Int)} (hb : Below W.heap.size W w1) (h : KRow W b c K) : KRow w1 b c K := h.of_block (hb.block b h.lt)
theorem KRow.drew {w : World} {b c : Nat} {K : List (Int × Int)} (h : KRow w b c K) : KRow w.drew b c K := KRow.of_block (W := w) rfl h

/-- The slice of the keys. -/
def KV (w : World) (v : Value) (K : List (Int × Int)) : Prop := (v = .slice none 0 0 ∧ K = []) ∨ ∃ b c, v = .slice (some ⟨b, 0, none⟩) K.length c ∧ KRow w b c K

theorem idx_ne : ∀ (K : List (Int × Int)) (k : Int × Int) (i : Nat), i < K.idxOf k → K[i]? ≠ some k
  | [], _, _, h => by simp at h
  | a :: K, k, i, h => by
    rw [List.idxOf_cons] at h
    by_cases e : a = k
    · subst e; simp at h
    · have : (a == k) = false := by simpa using e
      rw [this] at h
      simp at h
      rcases i with _ | i
      · simpa using e
      · simpa using idx_ne K k i (by omega)

set_option maxRecDepth 100000 in
set_option maxHeartbeats 2000000 in
theorem index_any (v : Value) (K : List (Int × Int)) (k : Int × Int) (w : World) (hv : KV w v K) (hm : k ∈ K) :
    Calls Try.prog 89 #[v, keyV k] w fun z w' => z = .returned (.int .i64 (K.idxOf k)) ∧ Below w.heap.size w w' := by
  rcases hv with ⟨rfl, rfl⟩ | ⟨b, c, rfl, hr⟩
  · simp at hm
  obtain ⟨k1, k2⟩ := k
  have hlt := List.idxOf_lt_length_of_mem hm
  obtain ⟨m, hm'⟩ : ∃ m, m = K.idxOf (k1, k2) := ⟨_, rfl⟩
  rw [← hm'] at hlt ⊢
  have hget : K[m]? = some (k1, k2) := by
    rw [hm', List.getElem?_eq_getElem (by omega)]
    simp
  have hne : ∀ i, i < m → K[i]? ≠ some (k1, k2) := by
    intro i hi
    exact idx_ne K (k1, k2) i (by omega)
  have HR := Lib.hid (hr.keep ((Below.refl _ w).alloc (Nat.le_refl _) (.cells #[.int .i64 k1, .int .i64 k2] 89)))
  have HN := Lib.hid hne
  have HG := Lib.hid hget
  have hmx : K.length ≤ 9223372036854775807 := by have := hr.le; have := hr.mx; unfold maxLen at this; omega
  have HT := Lib.hid (Two.new w (.int .i64 k1) (.int .i64 k2) 89)
  have HB := Lib.hid ((Below.refl _ w).alloc (Nat.le_refl _) (.cells #[.int .i64 k1, .int .i64 k2] 89))
  have hb := hr.lt
  clear hr hm hm' hne hget
  go_enter Try.func89, Try.ntmps89
  go_wp2_with fail
  go_loopw [8] (fun i wr => ∃ j : Nat, j ≤ m ∧ i = .int .i64 j ∧ Hid (KRow wr b c K) ∧ Hid (Two wr w.heap.size (.int .i64 k1) (.int .i64 k2)) ∧ Hid (Below w.heap.size w wr)) (fun i _ => K.length - (intOf i).toNat)
  case atStart => exact ⟨0, by omega, rfl, HR, HT, HB⟩
  case round =>
    obtain ⟨j, hj, rfl, hr, ht, hbw⟩ := hrel
    clear HR HT HB
    have hjl : j < K.length := by omega
    obtain ⟨⟨a, b'⟩, hk⟩ : ∃ q, K[j]? = some q := ⟨_, List.getElem?_eq_getElem hjl⟩
    obtain ⟨c0, c1⟩ := hr.out.vals j _ hk
    obtain ⟨T0, T1, T2, T3⟩ := ht.out
    have hji : (j : Int) < K.length := by omega
    by_cases hjm : j = m
    · subst hjm
      have := HG.out
      rw [hk] at this
      obtain ⟨rfl, rfl⟩ : a = k1 ∧ b' = k2 := by simpa using this
      go_wp2_with fail
      go_region
      go_wp2_with fail
      go_ret
      exact ⟨rfl, hbw.out.drew⟩
    · have hd := HN.out j (by omega)
      rw [hk] at hd
      have hq : ¬ k1 = a ∨ (k1 = a ∧ ¬ k2 = b') := by
        by_cases h1 : k1 = a
        · exact .inr ⟨h1, fun h2 => hd (by rw [h1, h2])⟩
        · exact .inl h1
      clear hd
      rcases hq with hq | ⟨rfl, hq⟩
      all_goals
        go_wp2_with fail
        go_region
        go_wp2_with fail
        exact ⟨⟨j + 1, by omega, by go_num, Lib.hid hr.out.drew, Lib.hid (ht.out), Lib.hid hbw.out.drew⟩, by simp [intOf]; omega⟩

end Go.Proofs.Ytnpkblidlmkagaa

/- Keys written by copy, append, clear. -/
set_option linter.unusedSimpArgs false
set_option linter.unusedVariables false
namespace Go.Proofs.Ytnpkblidlmkagaa
open Go Go.RowKit

theorem info89 : (Try.prog.info? 89).map (fun i => (i.zero, i.size, i.bytes)) = some (some (.agg #[.int .i64 0, .int .i64 0]), 2, 16) := by kernel_rfl

/-- copy of keys. -/
theorem run_copyK (w : World) (ty : TypeId) (g o dLen dCap : Nat) (a : Addr) (sLen sCap : Nat) (cur : Array Value) (t : TypeId) (cs : List Value)
    (hg : w.heap[g]? = some (.cells cur t (0, 0))) (hn : cs.length = Nat.min sLen dLen * 2)
    (hsrc : ∀ j v, cs[j]? = some v → w.cell? (a.add j) = some v) (hfit : o + cs.length ≤ cur.size) (h1 : ∀ v ∈ cs, v.oneCell' = true) :
    (Builtin.copy_ #[85, 85] ty #[.slice (some ⟨g, o, none⟩) dLen dCap, .slice (some a) sLen sCap]).run Try.prog w =
      .ok (goInt (Nat.min sLen dLen)) (w.setRow g (cur.toList.take o ++ cs ++ cur.toList.drop (o + cs.length)).toArray) := by
  obtain ⟨i0, hi, hz0, hz1, hz2⟩ := info_parts info89
  have hl := run_firstCells_some (P := Try.prog) w 2 (Nat.min sLen dLen) a sLen sCap cs hn hsrc
  have hst := run_storeCells_at Try.prog g o t cs 0 cur w hg (by simpa using hfit) h1
  simp only [Nat.add_zero] at hst
  simp [Builtin.copy_, run_underlying Try.underlying85, Builtin.lenOf, sizeOf, typeInfo, hi, hz1, hl, hst]

/-- append of keys that fit in. -/
theorem run_appendK (w : World) (ty : TypeId) (g o sLen sCap : Nat) (a : Addr) (n c : Nat) (cur : Array Value) (t : TypeId) (cs : List Value)
    (hg : w.heap[g]? = some (.cells cur t (0, 0))) (hn : cs.length = n * 2) (hroom : sLen + n ≤ sCap)
    (hsrc : ∀ j v, cs[j]? = some v → w.cell? (a.add j) = some v) (hfit : o + sLen * 2 + cs.length ≤ cur.size) (h1 : ∀ v ∈ cs, v.oneCell' = true) :
    (Builtin.append_ #[85, 85] ty #[.slice (some ⟨g, o, none⟩) sLen sCap, .slice (some a) n c]).run Try.prog w =
      .ok (.slice (some ⟨g, o, none⟩) (sLen + n) sCap) (w.setRow g (cur.toList.take (o + sLen * 2) ++ cs ++ cur.toList.drop (o + sLen * 2 + cs.length)).toArray) := by
  obtain ⟨i0, hi, hz0, hz1, hz2⟩ := info_parts info89
  have hl := run_firstCells_some (P := Try.prog) w 2 n a n c cs hn hsrc
  have hst := run_storeCells_at Try.prog g (o + sLen * 2) t cs 0 cur w hg (by simpa using hfit) h1
  simp only [Nat.add_zero] at hst
  simp [Builtin.append_, run_underlying Try.underlying85, Builtin.lenOf, sizeOf, typeInfo, hi, hz1, hl, hst, hroom, Addr.add_lit]

/-- clear of keys. -/
theorem run_clearK (w : World) (ty : TypeId) (g o n c : Nat) (cur : Array Value) (t : TypeId) (hn : 0 < n)
    (hg : w.heap[g]? = some (.cells cur t (0, 0))) (hfit : o + n * 2 ≤ cur.size) :
    ∃ zs : List Value, zs.length = n * 2 ∧ (Builtin.clear_ #[85] ty #[.slice (some ⟨g, o, none⟩) n c]).run Try.prog w =
      .ok (.tuple #[]) (w.setRow g (cur.toList.take o ++ zs ++ cur.toList.drop (o + zs.length)).toArray) := by
  obtain ⟨i0, hi, hz0, hz1, hz2⟩ := info_parts info89
  obtain ⟨zs, hzs⟩ : ∃ zs, zs = (Builtin.zeroCells #[.int .i64 0, .int .i64 0] n).toList := ⟨_, rfl⟩
  have hlen : zs.length = n * 2 := by rw [hzs]; simp [Builtin.zeroCells]
  have hone : ∀ v ∈ zs, v.oneCell' = true := by
    intro v hv
    rw [hzs] at hv
    simp [Builtin.zeroCells] at hv
    obtain ⟨i, hi, rfl⟩ := hv
    rcases (show i % 2 = 0 ∨ i % 2 = 1 by omega) with e | e <;> rw [e] <;> rfl
  refine ⟨zs, hlen, ?_⟩
  have hst := run_storeCells_at Try.prog g o t zs 0 cur w hg (by simp; omega) hone
  simp only [Nat.add_zero] at hst
  obtain ⟨m, rfl⟩ : ∃ m, n = m + 1 := ⟨n - 1, by omega⟩
  have hz : ∀ w, (zeroValue 89).run Try.prog w = .ok (.agg #[.int .i64 0, .int .i64 0]) w := fun w => by
    simp [zeroValue, typeInfo, hi, hz0]
  simp [Builtin.clear_, run_underlying Try.underlying85, hz, Value.cells, ← hzs, hst]

end Go.Proofs.Ytnpkblidlmkagaa

/- The contract of slices.Delete of one key. -/
set_option linter.unusedSimpArgs false
set_option linter.unusedVariables false
namespace Go.Proofs.Ytnpkblidlmkagaa
open Go Go.RowKit

theorem OnlyB.setRow {b : Nat} {x y : World} (h : OnlyB b x y) (cs : Array Value) : OnlyB b x (y.setRow b cs) :=
  h.trans ⟨rfl, rfl, rfl, by simp [World.setRow], fun k hk hb => setRow_other y b k cs hb⟩

theorem step_append {P : Program} {ops : Array Oper} {o : Oper} {a : Act} {w : World} {K : Act → World → Prop} {Q : Exit → Act → World → Prop} {E : Prop} (hgd : o.guard = none) (s x : Operand) (t t' : TypeId)
    (ho : o.op = .call { callee := .builtin .append, args := #[s, x], argTypes := #[t, t'] }) (vs vx v : Value) (w' : World) (hs : a.eval s = vs) (hx : a.eval x = vx) (hr : (Builtin.append_ #[t, t'] o.type #[vs, vx]).run P w = .ok v w')
    (h : K (a.put o.dst v) w') : if Region.wanted o (yielded ops a.tmps) = true then Oper.wp P o a w K Q else E := by
  have hw : Region.wanted o (yielded ops a.tmps) = true := by simp [Region.wanted, hgd]
  rw [if_pos hw]
  unfold Oper.wp
  simp [execOp, ho, resolve, invoke, builtin, hs, hx, hr, Result.andThen]
  exact h

set_option maxRecDepth 100000 in
set_option maxHeartbeats 2000000 in
theorem delete_any (b c i : Nat) (K : List (Int × Int)) (w : World) (hi : i < K.length) (hr : KRow w b c K) :
    Calls Try.prog 91 #[.slice (some ⟨b, 0, none⟩) K.length c, .int .i64 i, .int .i64 ((i : Int) + 1)] w fun z w' => z = .returned (.slice (some ⟨b, 0, none⟩) (K.length - 1) c) ∧ KRow w' b c (K.eraseIdx i) ∧ OnlyB b w w' := by
  obtain ⟨cur, rest, h1, h2, h3⟩ := hr.obj
  have hle := hr.le
  have hmx : c ≤ 9223372036854775807 := by have := hr.mx; unfold maxLen at this; omega
  obtain ⟨n, hn⟩ : ∃ n, n = K.length := ⟨_, rfl⟩
  rw [← hn] at hi hle ⊢
  have HR := Lib.hid hr
  have H1 := Lib.hid h1
  have H2 := Lib.hid h2
  have H3 := Lib.hid h3
  have HN := Lib.hid hn
  clear hr h1 h2 h3 hn
  have i1 : (i : Int) + 1 ≤ n := by omega
  have i0 : (i : Int) < n := by omega
  have nc : (n : Int) ≤ c := by omega
  go_enter Try.func91, Try.ntmps91
  go_upto_region 5 with fail
  have hlK := kL_length K
  have hdl : (kL (K.drop (i + 1))).length = (n - (i + 1)) * 2 := by rw [kL_length, List.length_drop, ← HN.out]
  have hcs : cur.size = c * 2 := H3.out
  have hmul : (n - (i + 1)) * 2 + (i + 1) * 2 = n * 2 := by omega
  obtain ⟨cur5, hc5⟩ : ∃ cur5 : Array Value, cur5 = (cur.toList.take (0 + i * 2) ++ kL (K.drop (i + 1)) ++ cur.toList.drop (0 + i * 2 + (kL (K.drop (i + 1))).length)).toArray := ⟨_, rfl⟩
  obtain ⟨W5, hW5⟩ : ∃ W5, W5 = w.drew.setRow b cur5 := ⟨_, rfl⟩
  have happ : ∀ (ty : TypeId) (ad : Addr) (cc : Nat), (n - (i + 1) = 0 ∨ ad = ⟨b, (i + 1) * 2, none⟩) → (Builtin.append_ #[85, 85] ty #[.slice (some ⟨b, 0, none⟩) i c, .slice (some ad) (n - (i + 1)) cc]).run Try.prog w.drew = .ok (.slice (some ⟨b, 0, none⟩) (n - 1) c) W5 := by
    intro ty ad cc had
    have h := run_appendK w.drew ty b 0 i c ad (n - (i + 1)) cc cur 89 (kL (K.drop (i + 1))) H1.out hdl (by omega) ?_ (by rw [hdl, hcs]; omega) (kL_one _)
    · rw [h, hW5, hc5, show i + (n - (i + 1)) = n - 1 by omega]
    · intro j v hj
      have hjl : j < (kL (K.drop (i + 1))).length := (List.getElem?_eq_some_iff.1 hj).1
      rcases had with h0 | rfl
      · rw [hdl, h0] at hjl; omega
      · rw [Addr.add_lit]
        show w.cell? _ = _
        simp only [World.cell?, H1.out]
        rw [← Array.getElem?_toList, H2.out, List.getElem?_append_left (by rw [hlK, ← HN.out]; omega)]
        rw [← kL_drop, List.getElem?_drop] at hj
        rw [hj]; rfl
  have h5 : W5.heap[b]? = some (.cells cur5 89 (0, 0)) := by rw [hW5]; exact setRow_heap w.drew b cur _ 89 (0, 0) H1.out
  have l5 : cur5.toList = kL (K.eraseIdx i) ++ cur.toList.drop ((n - 1) * 2) := by
    rw [hc5, List.eraseIdx_eq_take_drop_succ, kL_append, ← kL_take K i, hdl, Nat.zero_add]
    simp only [List.toList_toArray]
    rw [H2.out, List.take_append_of_le_length (by rw [hlK, ← HN.out]; omega), show i * 2 + (n - (i + 1)) * 2 = (n - 1) * 2 by omega]
  have s5 : cur5.size = c * 2 := by
    have hl := congrArg List.length l5
    rw [List.length_append, kL_length, List.length_drop, List.length_eraseIdx, ← HN.out, if_pos hi, Array.length_toList, Array.length_toList, hcs] at hl
    omega
  obtain ⟨zs, hz, hclr0⟩ := run_clearK W5 0 b ((n - 1) * 2) 1 (c - (n - 1)) cur5 89 (by omega) h5 (by rw [s5]; omega)
  obtain ⟨W6, hW6⟩ : ∃ W6, W6 = W5.setRow b (cur5.toList.take ((n - 1) * 2) ++ zs ++ cur5.toList.drop ((n - 1) * 2 + zs.length)).toArray := ⟨_, rfl⟩
  have hclr : (Builtin.clear_ #[85] 0 #[.slice (some ⟨b, (n - 1) * 2, none⟩) (n - (n - 1)) (c - (n - 1))]).run Try.prog W5 = .ok (.tuple #[]) W6 := by rw [show n - (n - 1) = 1 by omega, hclr0, hW6]
  have hend : KRow W6 b c (K.eraseIdx i) ∧ OnlyB b w W6 := by
    refine ⟨⟨?_, HR.out.mx, _, zs ++ cur5.toList.drop ((n - 1) * 2 + zs.length), by rw [hW6]; exact setRow_heap W5 b cur5 _ 89 (0, 0) h5, ?_, ?_⟩, ?_⟩
    · rw [List.length_eraseIdx, ← HN.out, if_pos hi]; omega
    · simp only [List.toList_toArray, List.append_assoc]
      congr 1
      have hle : (kL (K.eraseIdx i)).length = (n - 1) * 2 := by rw [kL_length, List.length_eraseIdx, ← HN.out, if_pos hi]
      rw [l5, List.take_append_of_le_length (by omega), ← hle, List.take_length]
    · simp only [List.size_toArray, List.length_append, List.length_take, List.length_drop, Array.length_toList, s5, hz]
      omega
    · rw [hW6, hW5]
      exact ((OnlyB.refl b w).drew.setRow _).setRow _
  have HE := Lib.hid hend
  clear hend hclr0 hz l5 s5 h5 hlK hdl hmul hcs hc5 hW5 hW6
  have e1 : i ≤ c := by omega
  have e2 : i + 1 ≤ n := by omega
  have e3 : ¬ ((i : Int) < 0) := by omega
  have e4 : ¬ ((i : Int) + 1 < 0) := by omega
  have e5 : 0 ≤ (i : Int) + 1 := by omega
  have hn1 : ((n - 1 : Nat) : Int) = (n : Int) - 1 := by omega
  by_cases hc : i + 1 < c
  · have q1 : ((i : Int) + 1) < c := by omega
    have q2 : ¬ c = i + 1 := by omega
    have happ1 := happ 85 ⟨b, (i + 1) * 2, none⟩ (c - (i + 1)) (.inr rfl)
    clear happ
    go_region_law (refine step_append rfl (.tmp 22) (.tmp 25) 85 85 rfl _ _ _ _ rfl rfl happ1 ?_)
    go_wp2_with fail
    go_ret
    exact ⟨rfl, HE.out⟩
  · obtain rfl : c = i + 1 := by omega
    have e6 : (i : Int) ≤ (i : Int) + 1 := by omega
    have e7 : (n : Int) ≤ (i : Int) + 1 := by omega
    clear happ HE hclr
    obtain ⟨zs', hz', hclrB⟩ := run_clearK w.drew 0 b (i * 2) 1 1 cur 89 (by omega) H1.out (by rw [H3.out]; omega)
    obtain ⟨W7, hW7⟩ : ∃ W7, W7 = w.drew.setRow b (cur.toList.take (i * 2) ++ zs' ++ cur.toList.drop (i * 2 + zs'.length)).toArray := ⟨_, rfl⟩
    have hclr1 : (Builtin.clear_ #[85] 0 #[.slice (some ⟨b, i * 2, none⟩) (n - i) 1]).run Try.prog w.drew = .ok (.tuple #[]) W7 := by rw [show n - i = 1 by omega, hclrB, hW7]
    have hend : KRow W7 b (i + 1) (K.eraseIdx i) ∧ OnlyB b w W7 := by
      have hn : n = K.length := HN.out
      refine ⟨⟨?_, HR.out.mx, _, zs' ++ cur.toList.drop (i * 2 + zs'.length), by rw [hW7]; exact setRow_heap w.drew b cur _ 89 (0, 0) H1.out, ?_, ?_⟩, ?_⟩
      · rw [List.length_eraseIdx, ← hn, if_pos hi]; omega
      · simp only [List.toList_toArray, List.append_assoc]
        congr 1
        have hle : (kL (K.eraseIdx i)).length = i * 2 := by rw [kL_length, List.length_eraseIdx, ← hn, if_pos hi]; omega
        rw [List.eraseIdx_eq_take_drop_succ, List.drop_eq_nil_of_le (by omega), List.append_nil, ← kL_take, H2.out, List.take_append_of_le_length (by rw [kL_length, ← hn]; omega)]
      · simp only [List.size_toArray, List.length_append, List.length_take, List.length_drop, Array.length_toList, H3.out, hz']
        omega
      · rw [hW7]
        exact (OnlyB.refl b w).drew.setRow _
    have HE := Lib.hid hend
    clear hend hclrB hz' hW7
    go_region
    go_wp2_with fail
    go_ret
    refine ⟨?_, HE.out⟩
    rw [show n - 1 = i by omega]
    rfl

end Go.Proofs.Ytnpkblidlmkagaa

/- The contract of slices.Insert of one key ahead of all. -/
set_option linter.unusedSimpArgs false
set_option linter.unusedVariables false
namespace Go.Proofs.Ytnpkblidlmkagaa
open Go Go.RowKit

set_option maxHeartbeats 4000000 in
set_option maxRecDepth 100000 in
theorem insert_shift (b c vb vc n : Nat) (K : List (Int × Int)) (k : Int × Int) (w : World) (hn : n = K.length) (h0 : 0 < n) (hroom : n + 1 ≤ c) (hr : KRow w b c K) (hvb : vb ≠ b)
    (hv : w.heap[vb]? = some (.cells #[.int .i64 k.1, .int .i64 k.2] 89 (0, 0))) :
    Calls Try.prog 90 #[.slice (some ⟨b, 0, none⟩) n c, .int .i64 0, .slice (some ⟨vb, 0, none⟩) 1 vc] w fun z w' => z = .returned (.slice (some ⟨b, 0, none⟩) (n + 1) c) ∧ KRow w' b c (k :: K) ∧ OnlyB b w w' := by
  obtain ⟨cur, rest, h1, h2, h3⟩ := hr.obj
  have hmx : c ≤ 9223372036854775807 := by have := hr.mx; unfold maxLen at this; omega
  have hmx' := hr.mx
  have hlK : (kL K).length = n * 2 := by rw [kL_length, hn]
  have z89 : ∀ w, (Go.sizeOf 89).run Try.prog w = .ok 2 w := fun w => by
    obtain ⟨i0, hi, hz0, hz1, hz2⟩ := info_parts info89
    simp [sizeOf, typeInfo, hi, hz1]
  have hsa : w.shape? vb = some (89, 2) := by simp [World.shape?, hv]
  have hsb : w.shape? b = some (89, c * 2) := by simp [World.shape?, h1, h3]
  have hfa : w.frozen? ⟨vb, 0, none⟩ = false := by simp [World.frozen?, hv]
  have hfe : w.frozen? { block := vb, off := 2 } = false := by simp [World.frozen?, hv]
  have hov : ∀ lb cb, (callFunc 107 #[.slice (some ⟨vb, 0, none⟩) 1 vc, .slice (some ⟨b, 2, none⟩) lb cb]).run Try.prog w = .ok (.value (.bool false)) w := fun lb cb => by
    rw [run_callFunc_extern Try.func107 (by kernel_rfl) (by kernel_rfl) (by kernel_rfl) (e := Extern.SlicesOverlaps.overlaps #[85, 85] #[4]) (by kernel_rfl),
      Lib.run_overlaps_apart w 85 4 89 Try.underlying85 2 z89 ⟨vb, 0, none⟩ ⟨b, 2, none⟩ 1 vc lb cb hvb 89 89 2 (c * 2) hsa hsb (by omega) hfa hfe]
    rfl
  obtain ⟨cur1, hc1⟩ : ∃ cur1 : Array Value, cur1 = (cur.toList.take 2 ++ kL K ++ cur.toList.drop (2 + (kL K).length)).toArray := ⟨_, rfl⟩
  obtain ⟨W1, hW1⟩ : ∃ W1, W1 = w.drew.setRow b cur1 := ⟨_, rfl⟩
  have hcp1 : ∀ ty dl dc sl sc, Nat.min sl dl = n → (Builtin.copy_ #[85, 85] ty #[.slice (some ⟨b, 2, none⟩) dl dc, .slice (some ⟨b, 0, none⟩) sl sc]).run Try.prog w.drew = .ok (goInt n) W1 := by
    intro ty dl dc sl sc hm
    have h := run_copyK w.drew ty b 2 dl dc ⟨b, 0, none⟩ sl sc cur 89 (kL K) h1 (by rw [hm, hlK]) ?_ (by rw [hlK, h3]; omega) (kL_one _)
    · rw [h, hm, hW1, hc1]
    · intro j v hj
      rw [Addr.add_lit, Nat.zero_add]
      show w.cell? _ = _
      simp only [World.cell?, h1]
      rw [← Array.getElem?_toList, h2, List.getElem?_append_left (List.getElem?_eq_some_iff.1 hj).1, hj]
      rfl
  have g1 : W1.heap[b]? = some (.cells cur1 89 (0, 0)) := by rw [hW1]; exact setRow_heap w.drew b cur _ 89 (0, 0) h1
  have gv : W1.heap[vb]? = some (.cells #[.int .i64 k.1, .int .i64 k.2] 89 (0, 0)) := by rw [hW1, setRow_other w.drew b vb _ hvb]; exact hv
  have s1 : cur1.size = c * 2 := by
    rw [hc1]
    simp only [List.size_toArray, List.length_append, List.length_take, List.length_drop, Array.length_toList, hlK, h3]
    omega
  obtain ⟨W2, hW2⟩ : ∃ W2, W2 = W1.setRow b (cur1.toList.take 0 ++ kL [k] ++ cur1.toList.drop (0 + (kL [k]).length)).toArray := ⟨_, rfl⟩
  have hcp2 : ∀ ty dl dc, 1 ≤ dl → (Builtin.copy_ #[85, 85] ty #[.slice (some ⟨b, 0, none⟩) dl dc, .slice (some ⟨vb, 0, none⟩) 1 vc]).run Try.prog W1 = .ok (goInt 1) W2 := by
    intro ty dl dc hd
    have hm : Nat.min 1 dl = 1 := by simp [Nat.min_def]; omega
    have h := run_copyK W1 ty b 0 dl dc ⟨vb, 0, none⟩ 1 vc cur1 89 (kL [k]) g1 (by rw [hm]; rfl) ?_ (by rw [s1]; show 0 + 2 ≤ _; omega) (kL_one _)
    · rw [h, hm, hW2]; rfl
    · intro j v hj
      rw [Addr.add_lit, Nat.zero_add]
      simp only [World.cell?, gv]
      rw [← Array.getElem?_toList]
      have : (#[Value.int .i64 k.1, Value.int .i64 k.2] : Array Value).toList = kL [k] := rfl
      rw [this, hj]; rfl
  have hend : KRow W2 b c (k :: K) ∧ OnlyB b w W2 := by
    refine ⟨⟨by rw [List.length_cons, ← hn]; exact hroom, hmx', _, cur.toList.drop (2 + n * 2), by rw [hW2]; exact setRow_heap W1 b cur1 _ 89 (0, 0) g1, ?_, ?_⟩, ?_⟩
    · have e2 : 2 ≤ cur.toList.length := by rw [Array.length_toList, h3]; omega
      have : (kL [k]).length = 2 := rfl
      rw [this, hc1]
      simp only [List.toList_toArray, List.take_zero, List.nil_append, Nat.zero_add]
      rw [List.append_assoc, List.drop_append_of_le_length (by rw [List.length_take]; omega), List.drop_of_length_le (by rw [List.length_take]; omega), List.nil_append, hlK]
      rfl
    · have : (kL [k]).length = 2 := rfl
      rw [this]
      simp only [List.size_toArray, List.length_append, List.length_take, List.length_drop, Array.length_toList, s1, this]
      omega
    · rw [hW2, hW1]
      exact ((OnlyB.refl b w).drew.setRow _).setRow _
  have HE := Lib.hid hend
  clear hend hW2 hW1 hc1 s1 g1 gv hsa hsb hfa hfe hv h1 h2 h3 hlK hr hmx'
  have hz2 : ¬ ((0 : Int) = (n : Int)) := by omega
  have hb2 : ¬ c = 1 := by omega
  have hb4 : ¬ c = 0 := by omega
  have hn1 : (n : Int) + 1 ≤ c := by omega
  clear hn
  go_enter Try.func90, Try.ntmps90
  go_wp2_with (simp only [hov])
  have q1 : (0 : Int) ≤ (n : Int) + 1 := by omega
  have q2 : (1 : Int) ≤ (n : Int) + 1 := by omega
  have hw1 : IntKind.i64.wrap 1 = 1 := by decide
  have mixed : Try.prog.follows .mixedOrders = true := by kernel_rfl
  go_region_law_o (refine step_copy_runI rfl _ _ 85 85 rfl _ _ (by simp [Act.eval, Act.put]) (by simp [Act.eval, Act.put]) (hcp1 _ _ _ _ _ (by simp [Nat.min_def])) ?_)
  go_wp2_with (at_builtin; refine wpList_copy_runI _ rfl _ _ 85 85 rfl _ _ rfl rfl (hcp2 _ _ _ (by omega)) ?_)
  go_ret
  exact ⟨rfl, HE.out⟩

end Go.Proofs.Ytnpkblidlmkagaa

/- The contract of slices.Insert of one key ahead of all: at no key, and without room. -/
set_option linter.unusedSimpArgs false
set_option linter.unusedVariables false
namespace Go.Proofs.Ytnpkblidlmkagaa
open Go Go.RowKit

theorem cell_kL {w : World} {b : Nat} {cur : Array Value} {K : List (Int × Int)} {rest : List Value} (h1 : w.heap[b]? = some (.cells cur 89 (0, 0))) (h2 : cur.toList = kL K ++ rest) : ∀ j v, (kL K)[j]? = some v → w.cell? ((⟨b, 0, none⟩ : Addr).add j) = some v := by
  intro j v hj
  rw [Addr.add_lit, Nat.zero_add]
  simp only [World.cell?, h1]
  rw [← Array.getElem?_toList, h2, List.getElem?_append_left (List.getElem?_eq_some_iff.1 hj).1, hj]
  rfl
theorem cell_key {w : World} {b : Nat} {k : Int × Int} (h : w.heap[b]? = some (.cells #[.int .i64 k.1, .int .i64 k.2] 89 (0, 0))) : ∀ j v, (kL [k])[j]? = some v → w.cell? ((⟨b, 0, none⟩ : Addr).add j) = some v :=
  cell_kL (cur := #[.int .i64 k.1, .int .i64 k.2]) (rest := []) h rfl

set_option maxHeartbeats 4000000 in
set_option maxRecDepth 100000 in
/-- No key, and room. -/
theorem insert_first (b c vb vc : Nat) (k : Int × Int) (w : World) (hc : 1 ≤ c) (hr : KRow w b c []) (hvb : vb ≠ b)
    (hv : w.heap[vb]? = some (.cells #[.int .i64 k.1, .int .i64 k.2] 89 (0, 0))) :
    Calls Try.prog 90 #[.slice (some ⟨b, 0, none⟩) 0 c, .int .i64 0, .slice (some ⟨vb, 0, none⟩) 1 vc] w fun z w' => z = .returned (.slice (some ⟨b, 0, none⟩) 1 c) ∧ KRow w' b c [k] ∧ OnlyB b w w' := by
  obtain ⟨cur, rest, h1, h2, h3⟩ := hr.obj
  have hmx' := hr.mx
  have hmx : c ≤ 9223372036854775807 := by have := hr.mx; unfold maxLen at this; omega
  obtain ⟨W1, hW1⟩ : ∃ W1, W1 = w.setRow b (cur.toList.take (0 + 0 * 2) ++ kL [k] ++ cur.toList.drop (0 + 0 * 2 + (kL [k]).length)).toArray := ⟨_, rfl⟩
  have hrun : ∀ ty, (Builtin.append_ #[85, 85] ty #[.slice (some ⟨b, 0, none⟩) 0 c, .slice (some ⟨vb, 0, none⟩) 1 vc]).run Try.prog w = .ok (.slice (some ⟨b, 0, none⟩) 1 c) W1 := fun ty => by
    have h := run_appendK w ty b 0 0 c ⟨vb, 0, none⟩ 1 vc cur 89 (kL [k]) h1 rfl (by omega) (cell_key hv) (by show 0 + 0 * 2 + 2 ≤ _; omega) (kL_one _)
    rw [h, hW1]
  have hend : KRow W1 b c [k] ∧ OnlyB b w W1 := by
    refine ⟨⟨hc, hmx', _, cur.toList.drop 2, by rw [hW1]; exact setRow_heap w b cur _ 89 (0, 0) h1, ?_, ?_⟩, ?_⟩
    · simp only [List.toList_toArray, Nat.zero_mul, Nat.add_zero, List.take_zero, List.nil_append]
      rfl
    · have : (kL [k]).length = 2 := rfl
      simp only [List.size_toArray, List.length_append, List.length_take, List.length_drop, Array.length_toList, this, h3]
      omega
    · rw [hW1]; exact (OnlyB.refl b w).setRow _
  have HE := Lib.hid hend
  clear hend hW1 h1 h2 h3 hr hv hmx'
  go_enter Try.func90, Try.ntmps90
  go_wp2_with (at_builtin; refine Lib.wpList_append_run _ rfl _ _ _ _ rfl _ _ rfl rfl _ _ (hrun _) ?_)
  go_ret
  exact ⟨rfl, HE.out⟩

set_option maxHeartbeats 4000000 in
set_option maxRecDepth 100000 in
/-- No key, and no room (nil). -/
theorem insert_nil (vb vc : Nat) (k : Int × Int) (w : World) (hv : w.heap[vb]? = some (.cells #[.int .i64 k.1, .int .i64 k.2] 89 (0, 0))) :
    Calls Try.prog 90 #[.slice none 0 0, .int .i64 0, .slice (some ⟨vb, 0, none⟩) 1 vc] w fun z w' => ∃ G, z = .returned (.slice (some ⟨w.heap.size, 0, none⟩) 1 G) ∧ KRow w' w.heap.size G [k] ∧ Below w.heap.size w w' := by
  obtain ⟨i0, hi0, hz0, hzs, hzb⟩ := info_parts info89
  have hsrc : Src Try.prog i0.size 85 (.slice (some ⟨vb, 0, none⟩) 1 vc) 1 (kL [k]) w := by
    rw [hzs]
    exact Src.ofSlice w Try.underlying85 ⟨vb, 0, none⟩ 1 vc (kL [k]) rfl (cell_key hv) (kL_one _)
  have hold : (Builtin.firstCells i0.size 0 (.slice none 0 0)).run Try.prog w.drew = .ok ([] : List Value).toArray w.drew := by
    rw [hzs]; exact run_firstCells_none w.drew 2 0 0 0
  obtain ⟨G, hG⟩ : ∃ G, G = grownCap w 1 0 89 := ⟨_, rfl⟩
  obtain ⟨W1, hW1⟩ : ∃ W1, W1 = w.drew.alloc (.cells (([] ++ kL [k] : List Value).toArray ++ Builtin.zeroCells (Value.agg #[.int .i64 0, .int .i64 0]).cells (G - 1)) 89) := ⟨_, rfl⟩
  have hrun : ∀ ty, (Builtin.append_ #[85, 85] ty #[.slice none 0 0, .slice (some ⟨vb, 0, none⟩) 1 vc]).run Try.prog w = .ok (.slice (some ⟨w.heap.size, 0, none⟩) 1 G) W1 := fun ty => by
    have h := run_append_grow_src w 85 85 ty 89 i0 _ Try.underlying85 hi0 hz0 none 0 0 [] hold _ 1 (kL [k]) hsrc (by omega) (by omega) (by rw [hzb]; exact growslice_fits (by omega) (by omega))
    rw [h, hW1, hG]
  have hGn : 1 ≤ G := by rw [hG]; exact grownCap_ge w _ _ _
  have hG63 : G ≤ maxLen := by rw [hG]; exact grownCap_le_maxLen w 1 0 89 (by unfold maxLen; omega)
  have hend : KRow W1 w.heap.size G [k] ∧ Below w.heap.size w W1 := by
    refine ⟨⟨hGn, hG63, _, (Builtin.zeroCells (Value.agg #[.int .i64 0, .int .i64 0]).cells (G - 1)).toList, by rw [hW1]; exact (MapKept.heap_alloc w.drew _).1, ?_, ?_⟩, ?_⟩
    · simp
    · have : (kL [k]).length = 2 := rfl
      simp [Builtin.zeroCells, Value.cells, this]
      omega
    · rw [hW1]; exact ((Below.refl _ w).drew).alloc (Nat.le_refl _) _
  have HE := Lib.hid hend
  clear hend hW1 hG hold hsrc hv hGn hG63
  go_enter Try.func90, Try.ntmps90
  go_wp2_with (at_builtin; refine Lib.wpList_append_run _ rfl _ _ _ _ rfl _ _ rfl rfl _ _ (hrun _) ?_)
  go_ret
  exact ⟨G, rfl, HE.out⟩

set_option maxHeartbeats 4000000 in
set_option maxRecDepth 100000 in
/-- Keys, and no room. -/
theorem insert_grow (b c vb vc n : Nat) (K : List (Int × Int)) (k : Int × Int) (w : World) (hn : n = K.length) (h0 : 0 < n) (hroom : c < n + 1) (hn2 : n ≤ 1000000) (hr : KRow w b c K)
    (hv : w.heap[vb]? = some (.cells #[.int .i64 k.1, .int .i64 k.2] 89 (0, 0))) :
    Calls Try.prog 90 #[.slice (some ⟨b, 0, none⟩) n c, .int .i64 0, .slice (some ⟨vb, 0, none⟩) 1 vc] w fun z w' => ∃ G, z = .returned (.slice (some ⟨w.heap.size, 0, none⟩) (n + 1) G) ∧ KRow w' w.heap.size G (k :: K) ∧ Below w.heap.size w w' := by
  obtain ⟨i0, hi0, hz0, hzs, hzb⟩ := info_parts info89
  obtain ⟨cur, rest, h1, h2, h3⟩ := hr.obj
  have hnc : n ≤ c := by rw [hn]; exact hr.le
  have hlK : (kL K).length = n * 2 := by rw [kL_length, hn]
  have hbw : b < w.heap.size := hr.lt
  have hvw : vb < w.heap.size := (Array.getElem?_eq_some_iff.1 hv).1
  have hold : (Builtin.firstCells i0.size 0 (.slice (some ⟨b, 0, none⟩) 0 c)).run Try.prog w.drew = .ok ([] : List Value).toArray w.drew := by
    rw [hzs]; exact run_firstCells_some w.drew 2 0 ⟨b, 0, none⟩ 0 c [] rfl (fun j v hj => by simp at hj)
  obtain ⟨G, hG⟩ : ∃ G, G = grownCap w (n + 1) c 89 := ⟨_, rfl⟩
  obtain ⟨ROW, hROW⟩ : ∃ ROW : Array Value, ROW = ([] : List Value).toArray ++ Builtin.zeroCells (Value.agg #[.int .i64 0, .int .i64 0]).cells (n + 1) ++ Builtin.zeroCells (Value.agg #[.int .i64 0, .int .i64 0]).cells (G - (n + 1)) := ⟨_, rfl⟩
  have hGn : n + 1 ≤ G := by rw [hG]; exact grownCap_ge w _ _ _
  have hG63 : G ≤ maxLen := by rw [hG]; exact grownCap_le_maxLen w (n + 1) c 89 (by unfold maxLen; omega)
  have hG64 : G ≤ 9223372036854775807 := by unfold maxLen at hG63; omega
  have hRs : ROW.size = G * 2 := by
    rw [hROW]
    simp [Builtin.zeroCells, Value.cells]
    omega
  have hrz : ∀ ty, (Builtin.append_ #[85, 3] ty #[.slice (some ⟨b, 0, none⟩) 0 c, .int .i64 ((n : Int) + 1)]).run Try.prog w = .ok (.slice (some ⟨w.heap.size, 0, none⟩) (n + 1) G) (w.drew.alloc (.cells ROW 89)) := fun ty => by
    have h := Lib.run_append_grow_zeros w 85 3 ty 89 i0 _ .i64 .i64 Try.underlying85 Try.underlying3 hi0 hz0 (some ⟨b, 0, none⟩) 0 c [] hold (n + 1) (by omega) (by omega) (by omega) (by omega) (by rw [hzb]; omega) (by rw [hzb]; exact growslice_fits (by omega) (by omega))
    simp only [Nat.zero_add] at h
    rw [← hG, ← hROW] at h
    exact h
  obtain ⟨R1, hR1⟩ : ∃ R1 : Array Value, R1 = (ROW.toList.take 0 ++ kL [k] ++ ROW.toList.drop (0 + (kL [k]).length)).toArray := ⟨_, rfl⟩
  obtain ⟨R2, hR2⟩ : ∃ R2 : Array Value, R2 = (R1.toList.take 2 ++ kL K ++ R1.toList.drop (2 + (kL K).length)).toArray := ⟨_, rfl⟩
  have e2 : (kL [k]).length = 2 := rfl
  have hR1s : R1.size = G * 2 := by
    rw [hR1]
    simp only [List.size_toArray, List.length_append, List.length_take, List.length_drop, Array.length_toList, hRs, e2]
    omega
  have hcpA : ∀ (W : World), W.heap[w.heap.size]? = some (.cells ROW 89 (0, 0)) → W.heap[vb]? = w.heap[vb]? → ∀ ty dl dc, 1 ≤ dl → (Builtin.copy_ #[85, 85] ty #[.slice (some ⟨w.heap.size, 0, none⟩) dl dc, .slice (some ⟨vb, 0, none⟩) 1 vc]).run Try.prog W = .ok (goInt 1) (W.setRow w.heap.size R1) := by
    intro W hg hw ty dl dc hd
    have hm : Nat.min 1 dl = 1 := by simp [Nat.min_def]; omega
    have h := run_copyK W ty w.heap.size 0 dl dc ⟨vb, 0, none⟩ 1 vc ROW 89 (kL [k]) hg (by rw [hm]; rfl) (cell_key (by rw [hw]; exact hv)) (by rw [hRs, e2]; omega) (kL_one _)
    rw [h, hm, hR1]; rfl
  have hcpB : ∀ (W : World), W.heap[w.heap.size]? = some (.cells R1 89 (0, 0)) → W.heap[b]? = w.heap[b]? → ∀ ty dl dc sl sc, Nat.min sl dl = n → (Builtin.copy_ #[85, 85] ty #[.slice (some ⟨w.heap.size, 2, none⟩) dl dc, .slice (some ⟨b, 0, none⟩) sl sc]).run Try.prog W = .ok (goInt n) (W.setRow w.heap.size R2) := by
    intro W hg hw ty dl dc sl sc hm
    have h := run_copyK W ty w.heap.size 2 dl dc ⟨b, 0, none⟩ sl sc R1 89 (kL K) hg (by rw [hm, hlK]) (cell_kL (by rw [hw]; exact h1) h2) (by rw [hR1s, hlK]; omega) (kL_one _)
    rw [h, hm, hR2]
  have hl2 : R2.toList = kL (k :: K) ++ R1.toList.drop (2 + n * 2) := by
    rw [hR2]
    simp only [List.toList_toArray]
    have : R1.toList.take 2 = kL [k] := by
      rw [hR1]
      simp only [List.toList_toArray, List.take_zero, List.nil_append]
      rw [List.take_append_of_le_length (by omega), ← e2, List.take_length]
    rw [this, hlK]
    rfl
  have hR2s : R2.size = G * 2 := by
    rw [hR2]
    simp only [List.size_toArray, List.length_append, List.length_take, List.length_drop, Array.length_toList, hR1s, hlK]
    omega
  have HE : Hid (∀ (W : World), (∃ old, W.heap[w.heap.size]? = some (.cells old 89 (0, 0))) → Below w.heap.size w W → KRow (W.setRow w.heap.size R2) w.heap.size G (k :: K) ∧ Below w.heap.size w (W.setRow w.heap.size R2)) := Lib.hid (by
    rintro W ⟨old, hold⟩ hb
    exact ⟨⟨by rw [List.length_cons, ← hn]; exact hGn, hG63, R2, _, setRow_heap W _ old _ 89 (0, 0) hold, hl2, hR2s⟩, hb.trans ⟨rfl, rfl, rfl, by simp [World.setRow], fun j hj => setRow_other W _ j _ (by omega)⟩⟩)
  clear hG hROW hR1 hR2 hl2 hR2s hR1s hRs hold
  have hz2 : ¬ ((0 : Int) = (n : Int)) := by omega
  have hz3 : (c : Int) < (n : Int) + 1 := by omega
  have hG1 : ¬ G = 1 := by omega
  have hG0 : ¬ G = 0 := by omega
  have hc0 : ¬ c = 0 := by omega
  have mixed : Try.prog.follows .mixedOrders = true := by kernel_rfl
  have hw1 : IntKind.i64.wrap 1 = 1 := by decide
  have q1 : (0 : Int) ≤ (n : Int) + 1 := by omega
  have q2 : (1 : Int) ≤ (n : Int) + 1 := by omega
  have q3 : (0 : Int) ≤ (n : Int) := by omega
  have gA : ((w.alloc (.cells ROW 89)).drew).heap[w.heap.size]? = some (.cells ROW 89 (0, 0)) := (MapKept.heap_alloc w _).1
  have gV : ((w.alloc (.cells ROW 89)).drew).heap[vb]? = w.heap[vb]? := (MapKept.heap_alloc w _).2 vb hvw
  have gB : ((w.alloc (.cells ROW 89)).drew).heap[b]? = w.heap[b]? := (MapKept.heap_alloc w _).2 b hbw
  have g2 : ((((w.alloc (.cells ROW 89)).drew).setRow w.heap.size R1).drew).heap[w.heap.size]? = some (.cells R1 89 (0, 0)) := setRow_heap _ _ ROW _ 89 (0, 0) gA
  have g3 : ((((w.alloc (.cells ROW 89)).drew).setRow w.heap.size R1).drew).heap[b]? = w.heap[b]? := (setRow_other _ _ b _ (by omega)).trans gB
  have bA : Below w.heap.size w ((((w.alloc (.cells ROW 89)).drew).setRow w.heap.size R1).drew) := by
    have h1 := ((Below.refl w.heap.size w).alloc (Nat.le_refl _) (.cells ROW 89)).drew
    have h2 : Below w.heap.size ((w.alloc (.cells ROW 89)).drew) (((w.alloc (.cells ROW 89)).drew).setRow w.heap.size R1) := ⟨rfl, rfl, rfl, by simp [World.setRow], fun j hj => setRow_other _ _ j _ (by omega)⟩
    exact (h1.trans h2).drew
  have hA1 := hcpA _ gA gV 3 (n + 1) G (by omega)
  have G2 := Lib.hid g2
  have G3 := Lib.hid g3
  have BA := Lib.hid bA
  clear gA gV gB g2 g3 bA h1 h2 h3 hv hr hn hlK hbw hvw
  go_enter Try.func90, Try.ntmps90
  go_wp2_with (at_builtin; refine Lib.wpList_append_run _ rfl _ _ _ _ rfl _ _ rfl rfl _ _ (hrz _) ?_)
  go_region_law_o (refine step_copy_runI rfl _ _ 85 85 rfl (.slice (some ⟨w.heap.size, 2, none⟩) n (G - 1)) (.slice (some ⟨b, 0, none⟩) n c) (by simp [Act.eval, Act.put]) (by simp [Act.eval, Act.put]) (hcpB _ G2.out G3.out 3 n (G - 1) n c (by simp [Nat.min_def])) ?_)
  go_wp2_with fail
  go_ret
  exact ⟨G, rfl, HE.out _ ⟨_, G2.out⟩ BA.out⟩

end Go.Proofs.Ytnpkblidlmkagaa

/- Only some blocks may have turned; slices.Insert of one key ahead of all, by one contract; the cache in memory. -/
set_option linter.unusedSimpArgs false
set_option linter.unusedVariables false
namespace Go.Proofs.Ytnpkblidlmkagaa
open Go Go.RowKit

/-- Of what was there the blocks of S alone may have turned. -/
structure OnlyS (S : Nat → Prop) (w w' : World) : Prop where
  os : w'.os = w.os
  tape : w'.tape = w.tape
  output : w'.output = w.output
  size : w.heap.size ≤ w'.heap.size
  block : ∀ k, k < w.heap.size → ¬ S k → w'.heap[k]? = w.heap[k]?

theorem OnlyS.refl (S : Nat → Prop) (w : World) : OnlyS S w w := ⟨rfl, rfl, rfl, Nat.le_refl _, fun _ _ _ => rfl⟩
theorem OnlyS.trans {S : Nat → Prop} {x y z : World} (h : OnlyS S x y) (k : OnlyS S y z) : OnlyS S x z :=
  ⟨k.os.trans h.os, k.tape.trans h.tape, k.output.trans h.output, Nat.le_trans h.size k.size, fun i hi hb => (k.block i (Nat.lt_of_lt_of_le hi h.size) hb).trans (h.block i hi hb)⟩
theorem OnlyS.of_below {S : Nat → Prop} {x y : World} (h : Below x.heap.size x y) : OnlyS S x y := ⟨h.os, h.tape, h.output, h.size, fun k hk _ => h.block k hk⟩
theorem OnlyS.of_only {S : Nat → Prop} {b : Nat} {x y : World} (h : OnlyB b x y) (hb : S b) : OnlyS S x y := ⟨h.os, h.tape, h.output, h.size, fun k hk hn => h.block k hk (fun e => hn (e ▸ hb))⟩
theorem OnlyS.mono {S T : Nat → Prop} {x y : World} (h : OnlyS S x y) (hST : ∀ b, b < x.heap.size → S b → T b) : OnlyS T x y := ⟨h.os, h.tape, h.output, h.size, fun k hk hn => h.block k hk (fun e => hn (hST k hk e))⟩
theorem OnlyS.drew {S : Nat → Prop} {x y : World} (h : OnlyS S x y) : OnlyS S x y.drew := ⟨h.os, h.tape, h.output, h.size, h.block⟩

/-- The block of a slice. -/
def KB (v : Value) (b : Nat) : Prop := ∃ n c, v = .slice (some ⟨b, 0, none⟩) n c

/-- The slice of the keys: nil, or a row with room for one at least. -/
def KS (w : World) (v : Value) (K : List (Int × Int)) : Prop := (v = .slice none 0 0 ∧ K = []) ∨ ∃ b c, v = .slice (some ⟨b, 0, none⟩) K.length c ∧ 1 ≤ c ∧ KRow w b c K

theorem KS.kv {w : World} {v : Value} {K : List (Int × Int)} (h : KS w v K) : KV w v K := by
  rcases h with h | ⟨b, c, h1, _, h2⟩
  · exact .inl h
  · exact .inr ⟨b, c, h1, h2⟩
theorem KS.of_block {W w1 : World} {v : Value} {K : List (Int × Int)} (h : KS W v K) (hb : ∀ b, KB v b → w1.heap[b]? = W.heap[b]?) : KS w1 v K := by
  rcases h with h | ⟨b, c, h1, h0, h2⟩
  · exact .inl h
  · exact .inr ⟨b, c, h1, h0, KRow.of_block (W := W) (hb b ⟨_, _, h1⟩) h2⟩
theorem KS.lt {w : World} {v : Value} {K : List (Int × Int)} (h : KS w v K) : ∀ b, KB v b → b < w.heap.size := by
  rintro b ⟨n, c, e⟩
  rcases h with ⟨h, _⟩ | ⟨b', c', h1, h0, h2⟩
  · rw [h] at e; cases e
  · rw [h1] at e; cases e; exact h2.lt

theorem insert_any (kv : Value) (K : List (Int × Int)) (k : Int × Int) (vb vc : Nat) (w : World) (hk : KS w kv K) (hlen : K.length ≤ 1000000) (hvb : ¬ KB kv vb)
    (hv : w.heap[vb]? = some (.cells #[.int .i64 k.1, .int .i64 k.2] 89 (0, 0))) :
    Calls Try.prog 90 #[kv, .int .i64 0, .slice (some ⟨vb, 0, none⟩) 1 vc] w fun z w' => ∃ kv', z = .returned kv' ∧ KS w' kv' (k :: K) ∧ OnlyS (KB kv) w w' ∧ (∀ b, KB kv' b → KB kv b ∨ w.heap.size ≤ b) := by
  rcases hk with ⟨rfl, rfl⟩ | ⟨b, c, rfl, hc, hr⟩
  · refine (insert_nil vb vc k w hv).mono ?_
    rintro z w' ⟨G, rfl, h1, h2⟩
    refine ⟨_, rfl, .inr ⟨_, G, rfl, h1.le, h1⟩, OnlyS.of_below h2, ?_⟩
    rintro b ⟨n, c, e⟩
    cases e; exact .inr (Nat.le_refl _)
  · have hne : vb ≠ b := fun e => hvb ⟨_, _, by rw [e]⟩
    by_cases h0 : K = []
    · subst h0
      refine (insert_first b c vb vc k w hc hr hne hv).mono ?_
      rintro z w' ⟨rfl, h1, h2⟩
      refine ⟨_, rfl, .inr ⟨b, c, rfl, hc, h1⟩, OnlyS.of_only h2 ⟨_, _, rfl⟩, ?_⟩
      rintro b' ⟨n, c', e⟩
      cases e; exact .inl ⟨_, _, rfl⟩
    · have hp : 0 < K.length := List.length_pos_iff.2 h0
      by_cases hroom : K.length + 1 ≤ c
      · refine (insert_shift b c vb vc K.length K k w rfl hp hroom hr hne hv).mono ?_
        rintro z w' ⟨rfl, h1, h2⟩
        refine ⟨_, rfl, .inr ⟨b, c, rfl, hc, h1⟩, OnlyS.of_only h2 ⟨_, _, rfl⟩, ?_⟩
        rintro b' ⟨n, c', e⟩
        cases e; exact .inl ⟨_, _, rfl⟩
      · refine (insert_grow b c vb vc K.length K k w rfl hp (by omega) hlen hr hv).mono ?_
        rintro z w' ⟨G, rfl, h1, h2⟩
        refine ⟨_, rfl, .inr ⟨_, G, rfl, by have := h1.le; simp at this; omega, h1⟩, OnlyS.of_below h2, ?_⟩
        rintro b' ⟨n, c', e⟩
        cases e; exact .inr (Nat.le_refl _)

/-- The sum of the sizes. -/
def sumN : List (Int × Int) → Int
  | [] => 0
  | k :: K => k.1 + sumN K
theorem sumN_append : ∀ K L, sumN (K ++ L) = sumN K + sumN L
  | [], L => by simp [sumN]
  | k :: K, L => by simp only [sumN, List.cons_append, sumN_append K L]; omega

/-- A table that is kept: a row of its own. -/
def TabK (w : World) (v : Value) (k : Int × Int) : Prop := ∃ (b c n : Nat) (cur : Array Value), v = .slice (some ⟨b, 0, none⟩) n c ∧ (n : Int) = k.1 ∧ w.heap[b]? = some (.cells cur 83 (0, 0)) ∧ Tab w b n k.2

theorem TabK.of_block {W w1 : World} {v : Value} {k : Int × Int} (h : TabK W v k) (hb : ∀ (b : Nat) (cur : Array Value), W.heap[b]? = some (Obj.cells cur 83 (0, 0)) → w1.heap[b]? = W.heap[b]?) : TabK w1 v k := by
  obtain ⟨b, c, n, cur, h1, h2, h3, h4⟩ := h
  have e := hb b cur h3
  refine ⟨b, c, n, cur, h1, h2, by rw [e]; exact h3, fun i hi => ?_⟩
  obtain ⟨⟨g1, g2⟩, g3, g4⟩ := h4 i hi
  rw [World.cell?_of_block (w := W) (a := ⟨b, i * 2, none⟩) e, World.cell?_of_block (w := W) (a := ⟨b, i * 2 + 1, none⟩) e, World.frozen?_of_block (w := W) (a := ⟨b, i * 2, none⟩) e, World.frozen?_of_block (w := W) (a := ⟨b, i * 2 + 1, none⟩) e]
  exact ⟨⟨g1, g2⟩, g3, g4⟩

/-- The cache at p: how many numbers it keeps at most, its keys (the one used last first), how many were found and made. -/
structure CA (w : World) (p : Nat) (M : Int) (K : List (Int × Int)) (F D : Int) (kv : Value) (r : Nat) (es : List ((Int × Int) × Value × Nat)) (clock : Nat) : Prop where
  obj : w.heap[p]? = some (.cells #[.int .i64 M, .int .i64 (sumN K), kv, .map (some r), .int .i64 F, .int .i64 D] 120 (0, 0))
  kept : KS w kv K
  mp : w.heap[r]? = some (.map (es.map ent).toArray clock)
  nd : (es.map (·.1)).Nodup
  keys : ∀ k, k ∈ es.map (·.1) ↔ k ∈ K
  tabs : ∀ k v, lk k es = some v → TabK w v k
  kn : K.Nodup
  ks : ∀ k ∈ K, 1 ≤ k.1 ∧ k.1 ≤ 32768 ∧ (k.2 = 1 ∨ k.2 = -1)
  m0 : 0 ≤ M
  m1 : M ≤ 65536
  sm : sumN K ≤ M

/-- The blocks that the cache may turn. -/
def Core (p r : Nat) (kv : Value) (b : Nat) : Prop := b = p ∨ b = r ∨ KB kv b

theorem sumN_nonneg : ∀ K : List (Int × Int), (∀ k ∈ K, 1 ≤ k.1) → 0 ≤ sumN K
  | [], _ => by simp [sumN]
  | k :: K, h => by
    have h1 := sumN_nonneg K (fun x hx => h x (List.mem_cons_of_mem _ hx))
    have h2 := h k List.mem_cons_self
    simp only [sumN]
    omega
theorem CA.s0 {w : World} {p : Nat} {M : Int} {K : List (Int × Int)} {F D : Int} {kv : Value} {r : Nat} {es : List ((Int × Int) × Value × Nat)} {clock : Nat} (h : CA w p M K F D kv r es clock) : 0 ≤ sumN K := sumN_nonneg K (fun k hk => (h.ks k hk).1)

theorem CA.len {w : World} {p : Nat} {M : Int} {K : List (Int × Int)} {F D : Int} {kv : Value} {r : Nat} {es : List ((Int × Int) × Value × Nat)} {clock : Nat} (h : CA w p M K F D kv r es clock) : K.length ≤ 65536 := by
  have h1 : ∀ L : List (Int × Int), (∀ k ∈ L, 1 ≤ k.1) → (L.length : Int) ≤ sumN L := by
    intro L
    induction L with
    | nil => intro _; simp [sumN]
    | cons k L ih =>
      intro hk
      have := ih (fun x hx => hk x (List.mem_cons_of_mem _ hx))
      have := hk k List.mem_cons_self
      simp only [sumN, List.length_cons]
      omega
  have := h1 K (fun k hk => (h.ks k hk).1)
  have := h.sm
  have := h.m1
  omega

end Go.Proofs.Ytnpkblidlmkagaa

/- The contract of slices.Clone at complex numbers. -/
set_option linter.unusedSimpArgs false
set_option linter.unusedVariables false
namespace Go.Proofs.Ytnpkblidlmkagaa
open Go Go.RowKit

/-- The cells of n complex numbers. -/
def cL (f g : Nat → Nat) (n : Nat) : List Value := (List.range (n * 2)).map fun j => if j % 2 = 0 then .float .f64 (f (j / 2)) else .float .f64 (g (j / 2))
theorem cL_length (f g : Nat → Nat) (n : Nat) : (cL f g n).length = n * 2 := by simp [cL]
theorem cL_one (f g : Nat → Nat) (n : Nat) : ∀ v ∈ cL f g n, v.oneCell' = true := by
  intro v hv
  simp only [cL, List.mem_map] at hv
  obtain ⟨j, _, rfl⟩ := hv
  split <;> rfl
theorem cL_get (f g : Nat → Nat) (n j : Nat) (v : Value) (h : (cL f g n)[j]? = some v) : j < n * 2 ∧ v = if j % 2 = 0 then .float .f64 (f (j / 2)) else .float .f64 (g (j / 2)) := by
  have hj : j < n * 2 := by
    have := (List.getElem?_eq_some_iff.1 h).1
    rwa [cL_length] at this
  refine ⟨hj, ?_⟩
  simp only [cL, List.getElem?_map, List.getElem?_range hj, Option.map_some, Option.some.injEq] at h
  exact h.symm
theorem RowF.cells {w : World} {b n : Nat} {f g : Nat → Nat} (h : RowF w b n f g) : ∀ j v, (cL f g n)[j]? = some v → w.cell? ((⟨b, 0, none⟩ : Addr).add j) = some v := by
  intro j v hj
  obtain ⟨hl, rfl⟩ := cL_get f g n j v hj
  rw [Addr.add_lit, Nat.zero_add]
  have hi := h (j / 2) (by omega)
  by_cases e : j % 2 = 0
  · rw [if_pos e]
    have := hi.1.1
    rwa [show j / 2 * 2 = j by omega] at this
  · rw [if_neg e]
    have := hi.2.1
    rwa [show j / 2 * 2 + 1 = j by omega] at this
theorem RowF.of_obj {w : World} {b n : Nat} {f g : Nat → Nat} {cur : Array Value} {rest : List Value} {t : TypeId} (h1 : w.heap[b]? = some (.cells cur t (0, 0))) (h2 : cur.toList = cL f g n ++ rest) : RowF w b n f g := by
  have key : ∀ j, j < n * 2 → w.cell? ⟨b, j, none⟩ = some (if j % 2 = 0 then .float .f64 (f (j / 2)) else .float .f64 (g (j / 2))) := by
    intro j hj
    simp only [World.cell?, h1]
    rw [← Array.getElem?_toList, h2, List.getElem?_append_left (by rw [cL_length]; exact hj)]
    simp only [cL, List.getElem?_map, List.getElem?_range hj, Option.map_some]
    rfl
  have fr : ∀ j, w.frozen? ⟨b, j, none⟩ = false := fun j => by simp [World.frozen?, h1]
  intro i hi
  refine ⟨⟨?_, fr _⟩, ?_, fr _⟩
  · have := key (i * 2) (by omega)
    rw [if_pos (by omega), show i * 2 / 2 = i by omega] at this
    exact this
  · have := key (i * 2 + 1) (by omega)
    rw [if_neg (by omega), show (i * 2 + 1) / 2 = i by omega] at this
    exact this

set_option maxRecDepth 100000 in
set_option maxHeartbeats 2000000 in
theorem cloneC (b n c : Nat) (s : Int) (w : World) (h : Tab w b n s) (n1 : 1 ≤ n) (n2 : n ≤ 32768) :
    Calls Try.prog 92 #[.slice (some ⟨b, 0, none⟩) n c] w fun z w' => ∃ (b' c' : Nat) (cur : Array Value), z = .returned (.slice (some ⟨b', 0, none⟩) n c') ∧ w.heap.size ≤ b' ∧ w'.heap[b']? = some (.cells cur 83 (0, 0)) ∧ Tab w' b' n s ∧ Below w.heap.size w w' := by
  have q78 : ∀ (w : World) (a : Option Addr) (n c n' c' : Nat), (binOp .eql 78 (.slice a n c) (.slice none n' c')).run Try.prog w = .ok (.bool a.isNone) w := fun w a n c n' c' => Lib.run_eql_slice_nil w _ _ a n c n' c' Try.underlying78
  obtain ⟨i0, hi0, hz0, hzs, hzb⟩ := info_parts info83
  obtain ⟨w0, hw0⟩ : ∃ w0, w0 = w.alloc (.cells #[] 83) := ⟨_, rfl⟩
  have h' : Tab w0 b n s := by rw [hw0]; exact RowF.keep ((Below.refl _ w).alloc (Nat.le_refl _) _) h
  obtain ⟨cs, hcs⟩ : ∃ cs, cs = cL (fun i => tuC (s * i) n) (fun i => tuS (s * i) n) n := ⟨_, rfl⟩
  have hsrc : Src Try.prog i0.size 78 (.slice (some ⟨b, 0, none⟩) n c) n cs w0 := by
    rw [hzs, hcs]
    exact Src.ofSlice w0 Try.underlying78 ⟨b, 0, none⟩ n c _ (cL_length _ _ _) (RowF.cells h') (cL_one _ _ _)
  have hold : (Builtin.firstCells i0.size 0 (.slice (some ⟨w.heap.size, 0, none⟩) 0 0)).run Try.prog w0.drew = .ok ([] : List Value).toArray w0.drew := by
    rw [hzs]; exact run_firstCells_some w0.drew 2 0 ⟨w.heap.size, 0, none⟩ 0 0 [] rfl (fun j v hj => by simp at hj)
  obtain ⟨G, hG⟩ : ∃ G, G = grownCap w0 n 0 83 := ⟨_, rfl⟩
  obtain ⟨cur, hcur⟩ : ∃ cur : Array Value, cur = ([] ++ cs : List Value).toArray ++ Builtin.zeroCells (Value.agg #[.float .f64 0, .float .f64 0]).cells (G - n) := ⟨_, rfl⟩
  obtain ⟨W1, hW1⟩ : ∃ W1, W1 = w0.drew.alloc (.cells cur 83) := ⟨_, rfl⟩
  have hs0 : w0.heap.size = w.heap.size + 1 := by rw [hw0]; simp
  have hrun : ∀ ty, (Builtin.append_ #[78, 78] ty #[.slice (some ⟨w.heap.size, 0, none⟩) 0 0, .slice (some ⟨b, 0, none⟩) n c]).run Try.prog w0 = .ok (.slice (some ⟨w.heap.size + 1, 0, none⟩) n G) W1 := fun ty => by
    have h := run_append_grow_src w0 78 78 ty 83 i0 _ Try.underlying78 hi0 hz0 (some ⟨w.heap.size, 0, none⟩) 0 0 [] hold _ n cs hsrc (by omega) (by omega) (by rw [hzb]; exact growslice_fits (by omega) (by omega))
    simp only [Nat.zero_add] at h
    rw [h, hW1, hcur, hG, hs0]
  have hobj : W1.heap[w.heap.size + 1]? = some (.cells cur 83 (0, 0)) := by
    rw [hW1, ← hs0]; exact (MapKept.heap_alloc w0.drew _).1
  have hend : Tab W1 (w.heap.size + 1) n s ∧ Below w.heap.size w W1 := by
    refine ⟨RowF.of_obj (rest := (Builtin.zeroCells (Value.agg #[.float .f64 0, .float .f64 0]).cells (G - n)).toList) hobj (by rw [hcur, ← hcs]; simp), ?_⟩
    rw [hW1, hw0]
    exact ((((Below.refl _ w).alloc (Nat.le_refl _) _).drew).alloc (by simp [World.drew]) _)
  have HE := Lib.hid hend
  have HO := Lib.hid hobj
  rw [hw0] at hrun
  clear hend hobj hW1 hcur hG hold hsrc hcs h h' hs0 hw0
  go_enter Try.func92, Try.ntmps92
  go_wp2_with (at_builtin; refine Lib.wpList_append_run _ rfl _ _ _ _ rfl _ _ rfl rfl _ _ (hrun _) ?_)
  go_ret
  exact ⟨_, G, cur, rfl, by omega, HO.out, HE.out⟩

end Go.Proofs.Ytnpkblidlmkagaa

/- The contract of drop: the key used longest ago goes. -/
set_option linter.unusedSimpArgs false
set_option linter.unusedVariables false
namespace Go.Proofs.Ytnpkblidlmkagaa
open Go Go.RowKit

theorem step_delete {P : Program} {ops : Array Oper} {o : Oper} {a : Act} {w : World} {K : Act → World → Prop} {Q : Exit → Act → World → Prop} {E : Prop} (hgd : o.guard = none) (s x : Operand) (t t' : TypeId)
    (ho : o.op = .call { callee := .builtin .delete, args := #[s, x], argTypes := #[t, t'] }) (vs vx v : Value) (w' : World) (hs : a.eval s = vs) (hx : a.eval x = vx) (hr : (Builtin.delete_ #[t, t'] o.type #[vs, vx]).run P w = .ok v w')
    (h : K (a.put o.dst v) w') : if Region.wanted o (yielded ops a.tmps) = true then Oper.wp P o a w K Q else E := by
  have hw : Region.wanted o (yielded ops a.tmps) = true := by simp [Region.wanted, hgd]
  rw [if_pos hw]
  unfold Oper.wp
  simp [execOp, ho, resolve, invoke, builtin, hs, hx, hr, Result.andThen]
  exact h

theorem obj_set {w : World} {p : Nat} {cur : Array Value} {t : TypeId} (h : w.heap[p]? = some (.cells cur t (0, 0))) (i : Nat) (v : Value) : (w.setCell ⟨p, i, none⟩ v).heap[p]? = some (.cells (cur.setIfInBounds i v) t (0, 0)) := by
  rw [setCell_eq_setRow w p i cur t (0, 0) v h]
  exact setRow_heap w p cur _ t (0, 0) h
theorem obj_other (w : World) (p i q : Nat) (v : Value) (h : q ≠ p) : (w.setCell ⟨p, i, none⟩ v).heap[q]? = w.heap[q]? := Below.heap_setCell _ _ _ _ h

/-- The six cells of a cache. -/
theorem six {w : World} {p : Nat} {v0 v1 v2 v3 v4 v5 : Value} (h : w.heap[p]? = some (.cells #[v0, v1, v2, v3, v4, v5] 120 (0, 0))) :
    (w.cell? ⟨p, 0, none⟩ = some v0 ∧ w.cell? ⟨p, 1, none⟩ = some v1 ∧ w.cell? ⟨p, 2, none⟩ = some v2 ∧ w.cell? ⟨p, 3, none⟩ = some v3 ∧ w.cell? ⟨p, 4, none⟩ = some v4 ∧ w.cell? ⟨p, 5, none⟩ = some v5) ∧
    (w.frozen? ⟨p, 0, none⟩ = false ∧ w.frozen? ⟨p, 1, none⟩ = false ∧ w.frozen? ⟨p, 2, none⟩ = false ∧ w.frozen? ⟨p, 3, none⟩ = false ∧ w.frozen? ⟨p, 4, none⟩ = false ∧ w.frozen? ⟨p, 5, none⟩ = false) := by
  simp [World.cell?, World.frozen?, h]

set_option maxRecDepth 100000 in
set_option maxHeartbeats 4000000 in
theorem drop_any (p r clock : Nat) (M F D : Int) (K : List (Int × Int)) (k : Int × Int) (kv : Value) (es : List ((Int × Int) × Value × Nat)) (w : World) (h : CA w p M (K ++ [k]) F D kv r es clock) :
    Calls Try.prog 94 #[.pointer (some ⟨p, 0, none⟩)] w fun z w' => z = .returned (.tuple #[]) ∧ ∃ kv' es', CA w' p M K F D kv' r es' clock ∧ OnlyS (Core p r kv) w w' ∧ (∀ b, KB kv' b → KB kv b) ∧ (∀ q u, lk q es' = some u → lk q es = some u) := by
  have hlen := h.len
  obtain ⟨b, c, hkv, hc, hr⟩ : ∃ b c, kv = .slice (some ⟨b, 0, none⟩) (K.length + 1) c ∧ 1 ≤ c ∧ KRow w b c (K ++ [k]) := by
    rcases h.kept with ⟨_, h2⟩ | ⟨b, c, h1, h2, h3⟩
    · simp at h2
    · exact ⟨b, c, by rw [h1]; simp, h2, h3⟩
  subst hkv
  obtain ⟨n, hn⟩ : ∃ n, n = K.length := ⟨_, rfl⟩
  rw [← hn] at h ⊢
  have hnc : n + 1 ≤ c := by have := hr.le; simp at this; omega
  have hmx : c ≤ 9223372036854775807 := by have := hr.mx; unfold maxLen at this; omega
  obtain ⟨k1, k2⟩ := k
  obtain ⟨q0, q1⟩ := hr.vals n (k1, k2) (by rw [hn]; simp)
  obtain ⟨⟨c0, c1, c2, c3, c4, c5⟩, f0, f1, f2, f3, f4, f5⟩ := six h.obj
  have hb := hr.lt
  have hp : p < w.heap.size := (Array.getElem?_eq_some_iff.1 h.obj).1
  have hrr : r < w.heap.size := (Array.getElem?_eq_some_iff.1 h.mp).1
  have hpr : p ≠ r := fun e => by have h1 := h.obj; have h2 := h.mp; rw [e, h2] at h1; cases h1
  have hpb : p ≠ b := fun e => by
    obtain ⟨cur, rest, g1, _⟩ := hr.obj
    have h1 := h.obj; rw [e, g1] at h1; cases h1
  have hus : sumN (K ++ [(k1, k2)]) = sumN K + k1 := by rw [sumN_append]; simp [sumN]
  have kb := h.ks (k1, k2) (by simp)
  have s0 : 0 ≤ sumN K := by
    have h1 : ∀ L : List (Int × Int), (∀ k ∈ L, 1 ≤ k.1) → 0 ≤ sumN L := by
      intro L
      induction L with
      | nil => intro _; simp [sumN]
      | cons k L ih =>
        intro hk
        have := ih (fun x hx => hk x (List.mem_cons_of_mem _ hx))
        have := hk k List.mem_cons_self
        simp only [sumN]
        omega
    exact h1 K (fun k hk => (h.ks k (List.mem_append_left _ hk)).1)
  have sm := h.sm
  have m1 := h.m1
  rw [hus] at c1 sm
  have ws : wrap64 (sumN K + k1 - k1) = sumN K := by unfold wrap64; omega
  have HC := Lib.hid h
  have HR := Lib.hid hr
  have HN := Lib.hid hn
  have HU := Lib.hid hus
  clear h hr hn hus
  have n1 : (0 : Int) ≤ (n : Int) := by omega
  have n2 : (n : Int) < (n : Int) + 1 := by omega
  go_enter Try.func94, Try.ntmps94
  go_upto_region 3 with fail
  have e0 : wrap64 (sumN K + k1 - k1) = sumN K := ws
  obtain ⟨W4, hW4⟩ : ∃ W4, W4 = ((w.setCell ⟨p, 2, none⟩ (.slice (some ⟨b, 0, none⟩) n c)).setCell ⟨p, 1, none⟩ (.int .i64 (sumN K))).alloc (.cells #[.int .i64 k1, .int .i64 k2] 89) := ⟨_, rfl⟩
  have old : ∀ q, q < w.heap.size → q ≠ p → W4.heap[q]? = w.heap[q]? := by
    intro q hq hqp
    rw [hW4, Below.heap_alloc _ _ _ (by simp [World.setCell]; exact hq), obj_other _ _ _ _ _ hqp, obj_other _ _ _ _ _ hqp]
  have hobj : W4.heap[p]? = some (.cells #[.int .i64 M, .int .i64 (sumN K), .slice (some ⟨b, 0, none⟩) n c, .map (some r), .int .i64 F, .int .i64 D] 120 (0, 0)) := by
    have h1 := HC.out.obj
    rw [HU.out] at h1
    rw [hW4, Below.heap_alloc _ _ _ (by simp [World.setCell]; exact hp), obj_set (obj_set h1 2 _) 1 _]
    rfl
  have hmap : W4.drew.drew.heap[r]? = some (.map (es.map ent).toArray clock) := (old r hrr (fun e => hpr e.symm)).trans HC.out.mp
  obtain ⟨i, v, hi1, hi2, hi3, hi4⟩ := fidx_some (k := (k1, k2)) ((HC.out.keys (k1, k2)).2 (by simp)) HC.out.nd
  obtain ⟨W6, hW6⟩ : ∃ W6 : World, W6 = { W4.drew.drew with heap := W4.drew.drew.heap.setIfInBounds r (.map ((es.eraseIdx i).map ent).toArray clock) } := ⟨_, rfl⟩
  have hdel : ∀ ty, (Builtin.delete_ #[118, 89] ty #[.map (some r), keyV (k1, k2)]).run Try.prog W4.drew.drew = .ok (.tuple #[]) W6 := fun ty => by
    rw [run_drop r clock (k1, k2) ty es W4.drew.drew hmap i v hi1, hW6]
  have hset := MapKept.heap_set (o' := .map ((es.eraseIdx i).map ent).toArray clock) hmap
  have old6 : ∀ q, q ≠ r → W6.heap[q]? = W4.heap[q]? := by
    intro q hq
    rw [hW6]; exact hset.2 q hq
  have hnd := HC.out.kn
  have hkK : (k1, k2) ∉ K := by
    rw [List.nodup_append] at hnd
    exact fun hm => hnd.2.2 _ hm _ (List.mem_singleton_self _) rfl
  have hsz : w.heap.size ≤ W6.heap.size := by
    rw [hW6, hW4]; simp [World.setCell, World.drew]
  have hend : CA W6 p M K F D (.slice (some ⟨b, 0, none⟩) n c) r (es.eraseIdx i) clock ∧ OnlyS (Core p r (.slice (some ⟨b, 0, none⟩) (n + 1) c)) w W6 ∧ (∀ q u, lk q (es.eraseIdx i) = some u → lk q es = some u) := by
    refine ⟨⟨?_, ?_, ?_, hi4, ?_, ?_, ?_, ?_, HC.out.m0, HC.out.m1, ?_⟩, ?_, ?_⟩
    · rw [old6 p hpr]; exact hobj
    · refine .inr ⟨b, c, by rw [HN.out], hc, ?_⟩
      obtain ⟨cur, rest, g1, g2, g3⟩ := HR.out.obj
      refine ⟨by rw [← HN.out]; omega, HR.out.mx, cur, kL [(k1, k2)] ++ rest, ?_, by rw [g2, kL_append, List.append_assoc], g3⟩
      have hbr : b ≠ r := fun e => by have h2 := HC.out.mp; rw [e, h2] at g1; cases g1
      rw [old6 b hbr, old b hb (fun e => hpb e.symm)]; exact g1
    · rw [hW6]; exact hset.1
    · intro q
      have h1 := HC.out.keys q
      have h2 := (lk_none q (es.eraseIdx i))
      have h3 := lk_none q es
      rw [hi3 q] at h2
      by_cases e : q = (k1, k2)
      · subst e
        rw [if_pos rfl] at h2
        constructor
        · intro hm; exact absurd hm (h2.1 rfl)
        · intro hm; exact absurd hm hkK
      · rw [if_neg e] at h2
        have h4 : q ∈ (es.eraseIdx i).map (·.1) ↔ q ∈ es.map (·.1) := by
          constructor
          · intro hm; apply Decidable.byContradiction; intro hc; exact (h2.1 (h3.2 hc)) hm
          · intro hm; apply Decidable.byContradiction; intro hc; exact (h3.1 (h2.2 hc)) hm
        rw [h4, h1, List.mem_append, List.mem_singleton]
        constructor
        · rintro (hm | hm)
          · exact hm
          · exact absurd hm e
        · exact .inl
    · intro q u hq
      rw [hi3 q] at hq
      split at hq
      · cases hq
      · refine (HC.out.tabs q u hq).of_block (fun b' cur' hb' => ?_)
        have n1 : b' ≠ r := fun e => by have h2 := HC.out.mp; rw [e, h2] at hb'; cases hb'
        have n2 : b' ≠ p := fun e => by have h2 := HC.out.obj; rw [e, h2] at hb'; cases hb'
        rw [old6 b' n1, old b' (Array.getElem?_eq_some_iff.1 hb').1 n2]
    · exact (List.nodup_append.1 hnd).1
    · exact fun q hq => HC.out.ks q (List.mem_append_left _ hq)
    · omega
    · refine ⟨by rw [hW6, hW4]; rfl, by rw [hW6, hW4]; rfl, by rw [hW6, hW4]; rfl, hsz, fun q hq hnq => ?_⟩
      rw [old6 q (fun e => hnq (.inr (.inl e))), old q hq (fun e => hnq (.inl e))]
    · intro q u hq
      rw [hi3 q] at hq
      split at hq
      · cases hq
      · exact hq
  have k3 := (six hobj).1.2.2.2.1
  have HE := Lib.hid hend
  clear hend hset old old6 hobj hmap hi1 hi2 hi3 hi4 hW6 hnd hkK hsz
  have mixed : Try.prog.follows .mixedOrders = true := by kernel_rfl
  go_region
  go_upto_region 4 with fail
  rw [← hW4]
  have k0 : W4.cell? ⟨w.heap.size, 0, none⟩ = some (.int .i64 k1) := by rw [hW4]; simp [go_sem, World.setCell]
  have k00 : W4.cell? ⟨w.heap.size, 1, none⟩ = some (.int .i64 k2) := by rw [hW4]; simp [go_sem, World.setCell]
  clear hW4
  go_region_law (refine step_delete rfl _ _ 118 89 rfl _ _ _ _ rfl rfl (hdel _) ?_)
  all_goals
    go_wp2_with fail
    go_end0
    refine ⟨rfl, _, ⟨_, HE.out.1, HE.out.2.1, ?_, fun a b u h => HE.out.2.2 (a, b) u h⟩⟩
    rintro b' ⟨n', c', e⟩
    cases e; exact ⟨_, _, rfl⟩

end Go.Proofs.Ytnpkblidlmkagaa

/- The contract of Table: a table that is made and not kept; what is refused. -/
set_option linter.unusedSimpArgs false
set_option linter.unusedVariables false
namespace Go.Proofs.Ytnpkblidlmkagaa
open Go Go.RowKit

set_option maxRecDepth 100000 in
set_option maxHeartbeats 4000000 in
theorem table_size (p : Nat) (n s : Int) (w : World) (h : n < 1 ∨ 32768 < n) : Calls Try.prog 67 #[.pointer (some ⟨p, 0, none⟩), .int .i64 n, .int .i64 s] w fun z w' => z = .returned (.tuple #[.slice none 0 0, .int .i64 3]) ∧ w = w' := by
  go_enter Try.func67, Try.ntmps67
  rcases h with h | h
  · go_wp2_with fail
    go_ret2
    exact ⟨rfl, rfl⟩
  · have h1 : ¬ n < 1 := by omega
    go_wp2_with fail
    go_ret2
    exact ⟨rfl, rfl⟩

set_option maxRecDepth 100000 in
set_option maxHeartbeats 4000000 in
theorem table_sign (p : Nat) (n s : Int) (w : World) (h1 : 1 ≤ n) (h2 : n ≤ 32768) (h3 : s ≠ 1) (h4 : s ≠ -1) : Calls Try.prog 67 #[.pointer (some ⟨p, 0, none⟩), .int .i64 n, .int .i64 s] w fun z w' => z = .returned (.tuple #[.slice none 0 0, .int .i64 6]) ∧ w = w' := by
  go_enter Try.func67, Try.ntmps67
  have e1 : ¬ n < 1 := by omega
  have e2 : ¬ 32768 < n := by omega
  have e3 : (s != 1) = true := by simpa using h3
  have e4 : (s != -1) = true := by simpa using h4
  have e5 : ¬ s = 1 := h3
  have e6 : ¬ s = -1 := h4
  go_wp2_with fail
  go_ret2
  exact ⟨rfl, rfl⟩

set_option maxRecDepth 100000 in
set_option maxHeartbeats 4000000 in
theorem table_nil (n s : Int) (w : World) : Calls Try.prog 67 #[.pointer none, .int .i64 n, .int .i64 s] w fun z w' => z = .returned (.tuple #[.slice none 0 0, .int .i64 1]) ∧ w = w' := by
  go_enter Try.func67, Try.ntmps67
  go_wp2_with fail
  go_ret2
  exact ⟨rfl, rfl⟩

/-- No table that is kept lies in block b. -/
def NoTab (es : List ((Int × Int) × Value × Nat)) (b : Nat) : Prop := ∀ k v, lk k es = some v → ¬ KB v b

/-- All that a cache is, of its blocks alone. -/
theorem CA.of_blocks {w w1 : World} {p : Nat} {M : Int} {K : List (Int × Int)} {F D : Int} {kv : Value} {r : Nat} {es : List ((Int × Int) × Value × Nat)} {clock : Nat} (h : CA w p M K F D kv r es clock)
    (hp : w1.heap[p]? = w.heap[p]?) (hr : w1.heap[r]? = w.heap[r]?) (hk : ∀ b, KB kv b → w1.heap[b]? = w.heap[b]?) (ht : ∀ (k : Int × Int) (v : Value), lk k es = some v → ∀ b, KB v b → w1.heap[b]? = w.heap[b]?) : CA w1 p M K F D kv r es clock := by
  refine ⟨by rw [hp]; exact h.obj, h.kept.of_block hk, by rw [hr]; exact h.mp, h.nd, h.keys, fun k v hv => ?_, h.kn, h.ks, h.m0, h.m1, h.sm⟩
  obtain ⟨b, c, n, cur, h1, h2, h3, h4⟩ := h.tabs k v hv
  have e := ht k v hv b ⟨_, _, h1⟩
  refine ⟨b, c, n, cur, h1, h2, by rw [e]; exact h3, fun i hi => ?_⟩
  obtain ⟨⟨g1, g2⟩, g3, g4⟩ := h4 i hi
  rw [World.cell?_of_block (w := w) (a := ⟨b, i * 2, none⟩) e, World.cell?_of_block (w := w) (a := ⟨b, i * 2 + 1, none⟩) e, World.frozen?_of_block (w := w) (a := ⟨b, i * 2, none⟩) e, World.frozen?_of_block (w := w) (a := ⟨b, i * 2 + 1, none⟩) e]
  exact ⟨⟨g1, g2⟩, g3, g4⟩
theorem CA.tlt {w : World} {p : Nat} {M : Int} {K : List (Int × Int)} {F D : Int} {kv : Value} {r : Nat} {es : List ((Int × Int) × Value × Nat)} {clock : Nat} (h : CA w p M K F D kv r es clock) {k : Int × Int} {v : Value} (hv : lk k es = some v) {b : Nat} (hb : KB v b) : b < w.heap.size := by
  obtain ⟨b', c, n, cur, h1, h2, h3, h4⟩ := h.tabs k v hv
  obtain ⟨n', c', e⟩ := hb
  rw [h1] at e; cases e
  exact (Array.getElem?_eq_some_iff.1 h3).1
theorem CA.keep {w w1 : World} {p : Nat} {M : Int} {K : List (Int × Int)} {F D : Int} {kv : Value} {r : Nat} {es : List ((Int × Int) × Value × Nat)} {clock : Nat} (h : CA w p M K F D kv r es clock) (hb : Below w.heap.size w w1) : CA w1 p M K F D kv r es clock :=
  h.of_blocks (hb.block p (Array.getElem?_eq_some_iff.1 h.obj).1) (hb.block r (Array.getElem?_eq_some_iff.1 h.mp).1) (fun b hk => hb.block b (h.kept.lt b hk)) (fun _ _ hv b hk => hb.block b (h.tlt hv hk))
theorem CA.drew {w : World} {p : Nat} {M : Int} {K : List (Int × Int)} {F D : Int} {kv : Value} {r : Nat} {es : List ((Int × Int) × Value × Nat)} {clock : Nat} (h : CA w p M K F D kv r es clock) : CA w.drew p M K F D kv r es clock :=
  h.of_blocks rfl rfl (fun _ _ => rfl) (fun _ _ _ _ _ => rfl)
theorem CA.pb {w : World} {p : Nat} {M : Int} {K : List (Int × Int)} {F D : Int} {kv : Value} {r : Nat} {es : List ((Int × Int) × Value × Nat)} {clock : Nat} (h : CA w p M K F D kv r es clock) {b : Nat} (hb : KB kv b) : b ≠ p ∧ b ≠ r := by
  obtain ⟨n', c', e⟩ := hb
  rcases h.kept with ⟨h1, _⟩ | ⟨b', c', h1, h0, h2⟩
  · rw [h1] at e; cases e
  · rw [h1] at e; cases e
    obtain ⟨cur, rest, g1, _⟩ := h2.obj
    exact ⟨fun e => (by have h1 := h.obj; rw [← e, g1] at h1; cases h1), fun e => (by have h1 := h.mp; rw [← e, g1] at h1; cases h1)⟩
theorem CA.pt {w : World} {p : Nat} {M : Int} {K : List (Int × Int)} {F D : Int} {kv : Value} {r : Nat} {es : List ((Int × Int) × Value × Nat)} {clock : Nat} (h : CA w p M K F D kv r es clock) {k : Int × Int} {v : Value} (hv : lk k es = some v) {b : Nat} (hb : KB v b) : b ≠ p ∧ b ≠ r ∧ ¬ KB kv b := by
  obtain ⟨b', c, n, cur, h1, h2, h3, h4⟩ := h.tabs k v hv
  obtain ⟨n', c', e⟩ := hb
  rw [h1] at e; cases e
  refine ⟨fun e => (by have h1 := h.obj; rw [← e, h3] at h1; cases h1), fun e => (by have h1 := h.mp; rw [← e, h3] at h1; cases h1), ?_⟩
  rintro ⟨n', c', e⟩
  rcases h.kept with ⟨h1, _⟩ | ⟨b', c', h1, h0, h2⟩
  · rw [h1] at e; cases e
  · rw [h1] at e; cases e
    obtain ⟨cur, rest, g1, _⟩ := h2.obj
    rw [g1] at h3; cases h3
theorem CA.pr {w : World} {p : Nat} {M : Int} {K : List (Int × Int)} {F D : Int} {kv : Value} {r : Nat} {es : List ((Int × Int) × Value × Nat)} {clock : Nat} (h : CA w p M K F D kv r es clock) : p ≠ r := fun e => by
  have h1 := h.obj; have h2 := h.mp; rw [e, h2] at h1; cases h1
/-- Behind a store of numbers into the cache's own block. -/
theorem CA.turned {w w1 : World} {p : Nat} {M : Int} {K : List (Int × Int)} {F D F' D' : Int} {kv : Value} {r : Nat} {es : List ((Int × Int) × Value × Nat)} {clock : Nat} (h : CA w p M K F D kv r es clock)
    (ho : w1.heap[p]? = some (.cells #[.int .i64 M, .int .i64 (sumN K), kv, .map (some r), .int .i64 F', .int .i64 D'] 120 (0, 0))) (hb : ∀ b, b < w.heap.size → b ≠ p → w1.heap[b]? = w.heap[b]?) : CA w1 p M K F' D' kv r es clock := by
  refine ⟨ho, h.kept.of_block (fun b hk => hb b (h.kept.lt b hk) (h.pb hk).1), (hb r (Array.getElem?_eq_some_iff.1 h.mp).1 (fun e => h.pr e.symm)).trans h.mp, h.nd, h.keys, fun k v hv => (h.tabs k v hv).of_block (fun b cur hc => hb b (Array.getElem?_eq_some_iff.1 hc).1 ?_), h.kn, h.ks, h.m0, h.m1, h.sm⟩
  intro e
  have h1 := h.obj; rw [← e, hc] at h1; cases h1

set_option maxRecDepth 100000 in
set_option maxHeartbeats 4000000 in
/-- A table that is not there, and too great to be kept. -/
theorem table_made (p r clock n : Nat) (M F D s : Int) (K : List (Int × Int)) (kv : Value) (es : List ((Int × Int) × Value × Nat)) (w : World) (h : CA w p M K F D kv r es clock) (n1 : 1 ≤ n) (n2 : n ≤ 32768) (hs : s = 1 ∨ s = -1) (hk : ((n : Int), s) ∉ K) (hM : M < n)
    (d0 : 0 ≤ D) (d1 : D < 9223372036854775807) :
    Calls Try.prog 67 #[.pointer (some ⟨p, 0, none⟩), .int .i64 n, .int .i64 s] w fun z w' => ∃ b, z = .returned (.tuple #[.slice (some ⟨b, 0, none⟩) n n, .int .i64 0]) ∧ w.heap.size ≤ b ∧ Tab w' b n s ∧ CA w' p M K F (D + 1) kv r es clock ∧ OnlyS (Core p r kv) w w' := by
  obtain ⟨⟨c0, c1, c2, c3, c4, c5⟩, f0, f1, f2, f3, f4, f5⟩ := six h.obj
  have hp : p < w.heap.size := (Array.getElem?_eq_some_iff.1 h.obj).1
  have e1 : ¬ (n : Int) < 1 := by omega
  have e2 : ¬ 32768 < (n : Int) := by omega
  have hlk : fidx ((n : Int), s) es 0 = none := fidx_none ((lk_none _ _).2 (fun hm => hk ((h.keys _).1 hm)))
  obtain ⟨W1, hW1⟩ : ∃ W1, W1 = w.alloc (.cells #[.int .i64 (n : Int), .int .i64 s] 89) := ⟨_, rfl⟩
  have hmap : W1.drew.heap[r]? = some (.map (es.map ent).toArray clock) := by
    rw [hW1]; exact (MapKept.heap_alloc w _).2 r (Array.getElem?_eq_some_iff.1 h.mp).1 |>.trans h.mp
  have hlook := run_look r clock ((n : Int), s) es W1.drew hmap
  rw [hlk] at hlook
  simp only [keyV, Option.isSome_none] at hlook
  rw [hW1] at hlook
  have wd : wrap64 (D + 1) = D + 1 := by unfold wrap64; omega
  obtain ⟨W2, hW2⟩ : ∃ W2, W2 = ((w.setCell ⟨p, 5, none⟩ (.int .i64 (D + 1))).alloc (.cells #[.int .i64 (n : Int), .int .i64 s] 89)).drew := ⟨_, rfl⟩
  have old2 : ∀ q, q < w.heap.size → q ≠ p → W2.heap[q]? = w.heap[q]? := by
    intro q hq hqp
    rw [hW2]
    exact (Below.heap_alloc _ _ _ (by simp [World.setCell]; exact hq)).trans (obj_other _ _ _ _ _ hqp)
  have obj2 : W2.heap[p]? = some (.cells #[.int .i64 M, .int .i64 (sumN K), kv, .map (some r), .int .i64 F, .int .i64 (D + 1)] 120 (0, 0)) := by
    rw [hW2]
    exact (Below.heap_alloc _ _ _ (by simp [World.setCell]; exact hp)).trans (obj_set h.obj 5 _)
  have C2 := h.turned obj2 old2
  have hsz2 : w.heap.size ≤ W2.heap.size := by rw [hW2]; simp [World.setCell, World.drew]
  have O2 : OnlyS (Core p r kv) w W2 := ⟨by rw [hW2]; rfl, by rw [hW2]; rfl, by rw [hW2]; rfl, hsz2, fun q hq hn => old2 q hq (fun e => hn (.inl e))⟩
  have HC := Lib.hid C2
  have HO := Lib.hid O2
  have BU := Lib.hid (fun w => build_any n s w n1 n2 hs)
  clear h hk hlk hmap hW1 old2 obj2 C2 O2
  go_enter Try.func67, Try.ntmps67
  rcases hs with rfl | rfl
  all_goals
    go_upto_region 8 with fail
    go_region
    go_wp2_with fail
    rw [← hW2]
    refine (BU.out W2).mono ?_
    rintro z w1 ⟨b, rfl, hb, ht, hbw⟩
    have C3 := HC.out.keep hbw
    have HT := Lib.hid ht
    have HC3 := Lib.hid C3
    have HB := Lib.hid hbw
    obtain ⟨⟨c0', c1', c2', c3', c4', c5'⟩, f0', f1', f2', f3', f4', f5'⟩ := six C3.obj
    clear ht C3 hbw hlook
    go_wp2_with fail
    go_ret2
    exact ⟨b, rfl, by omega, HT.out, HC3.out, HO.out.trans (OnlyS.of_below HB.out)⟩

end Go.Proofs.Ytnpkblidlmkagaa
