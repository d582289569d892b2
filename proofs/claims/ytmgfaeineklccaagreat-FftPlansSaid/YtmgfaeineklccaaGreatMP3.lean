/- Plans in memory, whatever of a set of blocks is written; rows of them that are built by append. -/
import Derived.Test.YtmgfaeineklccaaGreatMV1
import Derived.Test.YtmgfaeineklccaaGreatMP1
import Derived.Test.YtmgfaeineklccaaGreatMP2
import Derived.MapKept
import Derived.WideKeyRuns
import Derived.Laws.StructEq
import Derived.KernelRfl
import Derived.Lib.SliceRun
set_option linter.unusedSimpArgs false
set_option linter.unusedVariables false
namespace Go.Proofs.YtmgfaeineklccaaGreat
open Go.RowKit Go.Lib

/-- Of what was there the blocks of a set alone may have turned. -/
structure OnlyZ (S : Nat → Prop) (w w' : World) : Prop where
  os : w'.os = w.os
  tape : w'.tape = w.tape
  output : w'.output = w.output
  size : w.heap.size ≤ w'.heap.size
  block : ∀ k, k < w.heap.size → ¬ S k → w'.heap[k]? = w.heap[k]?
theorem OnlyZ.refl (S : Nat → Prop) (w : World) : OnlyZ S w w := ⟨rfl, rfl, rfl, Nat.le_refl _, fun _ _ _ => rfl⟩
theorem OnlyZ.trans {S : Nat → Prop} {x y z : World} (h : OnlyZ S x y) (k : OnlyZ S y z) : OnlyZ S x z :=
  ⟨k.os.trans h.os, k.tape.trans h.tape, k.output.trans h.output, Nat.le_trans h.size k.size, fun i hi ha => (k.block i (Nat.lt_of_lt_of_le hi h.size) ha).trans (h.block i hi ha)⟩
theorem OnlyZ.trans' {S T : Nat → Prop} {x y z : World} (h : OnlyZ S x y) (k : OnlyZ T y z) (hT : ∀ i, i < x.heap.size → T i → S i) : OnlyZ S x z :=
  ⟨k.os.trans h.os, k.tape.trans h.tape, k.output.trans h.output, Nat.le_trans h.size k.size, fun i hi ha => (k.block i (Nat.lt_of_lt_of_le hi h.size) (fun t => ha (hT i hi t))).trans (h.block i hi ha)⟩
theorem OnlyZ.of_below {S : Nat → Prop} {x y : World} {b : Nat} (h : Below b x y) (hb : ∀ k, b ≤ k → k < x.heap.size → S k) : OnlyZ S x y := ⟨h.os, h.tape, h.output, h.size, fun i hi hs => h.block i (by
  rcases Nat.lt_or_ge i b with h0 | h0
  · exact h0
  · exact absurd (hb i h0 hi) hs)⟩
theorem OnlyZ.of_only {S : Nat → Prop} {x y : World} {b : Nat} (h : OnlyB b x y) (hb : S b) : OnlyZ S x y := ⟨h.os, h.tape, h.output, h.size, fun i hi hs => h.block i hi (fun e => hs (e ▸ hb))⟩
theorem OnlyZ.mono {S T : Nat → Prop} {x y : World} (h : OnlyZ S x y) (hT : ∀ i, i < x.heap.size → S i → T i) : OnlyZ T x y := ⟨h.os, h.tape, h.output, h.size, fun i hi ht => h.block i hi (fun s => ht (hT i hi s))⟩
theorem OnlyZ.below {S : Nat → Prop} {x y : World} {c : Nat} (h : OnlyZ S x y) (hc : c ≤ x.heap.size) (hs : ∀ k, S k → c ≤ k) : Below c x y := ⟨h.os, h.tape, h.output, h.size, fun i hi => h.block i (by omega) (fun s => by have := hs i s; omega)⟩
theorem OnlyZ.of_grown {S : Nat → Prop} {x y : World} {g : Option Nat} (h : x.grownBy y g) (hg : ∀ k, g = some k → S k) : OnlyZ S x y := ⟨h.os, h.tape, h.output, h.size, fun i hi hs => h.block i hi (fun e => hs (hg i e.symm))⟩

/-- Kids in memory, apart from a set of blocks. -/
def KZ (S : Nat → Prop) (w : World) (B : Option Addr) (q : Fo) : Prop := ∀ w' : World, (∀ k, k < w.heap.size → ¬ S k → w'.heap[k]? = w.heap[k]?) → Kids w' B 0 q
theorem KZ.kids {S : Nat → Prop} {w : World} {B : Option Addr} {q : Fo} (h : KZ S w B q) : Kids w B 0 q := h w fun _ _ _ => rfl
theorem KZ.move {S T : Nat → Prop} {w w1 : World} {B : Option Addr} {q : Fo} (h : KZ S w B q) (hs : w.heap.size ≤ w1.heap.size) (hb : ∀ k, k < w.heap.size → ¬ S k → w1.heap[k]? = w.heap[k]?) (hT : ∀ k, k < w.heap.size → T k → S k) : KZ T w1 B q :=
  fun w' hw => h w' fun k h1 h2 => (hw k (Nat.lt_of_lt_of_le h1 hs) (fun t => h2 (hT k h1 t))).trans (hb k h1 h2)
theorem KZ.only {S : Nat → Prop} {w w1 : World} {B : Option Addr} {q : Fo} (h : KZ S w B q) (ho : OnlyZ S w w1) : KZ S w1 B q := h.move ho.size ho.block fun _ _ t => t
theorem KZ.mono {S T : Nat → Prop} {w : World} {B : Option Addr} {q : Fo} (h : KZ S w B q) (hT : ∀ k, k < w.heap.size → T k → S k) : KZ T w B q := h.move (Nat.le_refl _) (fun _ _ _ => rfl) hT
theorem KZ.below {S : Nat → Prop} {w w1 : World} {B : Option Addr} {q : Fo} (h : KZ S w B q) (hb : Below w.heap.size w w1) : KZ S w1 B q := h.move hb.size (fun k hk _ => hb.block k hk) fun _ _ t => t
theorem KY.kz {S : Nat → Prop} {base : Nat} {g : Option Nat} {w : World} {B : Option Addr} {q : Fo} (h : KY base g w B q) (hS : ∀ k, S k → k < base ∨ g = some k) : KZ S w B q := fun w' hw => h w' fun k h1 h2 h3 => hw k h2 (fun s => by
  rcases hS k s with h | h
  · omega
  · exact h3 h)
theorem KZ.nil (S : Nat → Prop) (w : World) (B : Option Addr) : KZ S w B .nil := fun _ _ => trivial

/-- A row of plans as cells. -/
def RowZ (S : Nat → Prop) (w : World) : Fo → List Value → Prop
  | .nil, xs => xs = []
  | .cons k n r q rest, xs => ∃ (B : Option Addr) (c : Nat) (ys : List Value), xs = .int .i64 k :: .int .i64 n :: .int .i64 r :: .slice B q.len c :: ys ∧ KZ S w B q ∧ RowZ S w rest ys
theorem RowZ.map {S T : Nat → Prop} {w w' : World} (h : ∀ B q, KZ S w B q → KZ T w' B q) : ∀ {fo : Fo} {xs : List Value}, RowZ S w fo xs → RowZ T w' fo xs
  | .nil, _, e => e
  | .cons _ _ _ _ _, _, ⟨B, c, ys, e, hk, hr⟩ => ⟨B, c, ys, e, h _ _ hk, RowZ.map h hr⟩
theorem RowZ.snoc {S : Nat → Prop} {w : World} {k n r : Int} {q : Fo} {B : Option Addr} (c : Nat) (hq : KZ S w B q) : ∀ {fo : Fo} {xs : List Value}, RowZ S w fo xs → RowZ S w (fo.snoc k n r q) (xs ++ [.int .i64 k, .int .i64 n, .int .i64 r, .slice B q.len c])
  | .nil, xs, e => by
    have e' : xs = [] := e
    subst e'
    exact ⟨B, c, [], rfl, hq, rfl⟩
  | .cons _ _ _ _ rest, xs, ⟨B', c', ys, e, hk, hr⟩ => ⟨B', c', ys ++ [.int .i64 k, .int .i64 n, .int .i64 r, .slice B q.len c], by rw [e]; rfl, hk, RowZ.snoc c hq hr⟩
theorem RowZ.kids {S : Nat → Prop} {w w' : World} {b : Nat} (hw : ∀ B q, KZ S w B q → Kids w' B 0 q) : ∀ {fo : Fo} {xs : List Value} (j : Nat), RowZ S w fo xs → (∀ t v, xs[t]? = some v → w'.cell? ⟨b, j * 4 + t, none⟩ = some v) → Kids w' (some ⟨b, 0, none⟩) j fo
  | .nil, _, _, _, _ => trivial
  | .cons k n r q rest, xs, j, ⟨B, c, ys, e, hk, hr⟩, hx => by
    subst e
    refine ⟨⟨b, 0, B, c, rfl, ?_, ?_, ?_, ?_, hw _ _ hk⟩, RowZ.kids hw (j + 1) hr fun t v ht => ?_⟩
    · rw [Nat.zero_add]; exact hx 0 _ rfl
    · rw [Nat.zero_add]; exact hx 1 _ rfl
    · rw [Nat.zero_add]; exact hx 2 _ rfl
    · rw [Nat.zero_add]; exact hx 3 _ rfl
    · have := hx (t + 4) v (by simpa using ht)
      rw [show (j + 1) * 4 + t = j * 4 + (t + 4) by omega]
      exact this
/-- A row of plans that is the call's own. -/
def RowQ (S : Nat → Prop) (base : Nat) (e : TypeId) (w : World) (v : Value) (fo : Fo) : Prop := ∃ xs, w.ownsRow base e 4 v fo.len xs ∧ RowZ (fun k => S k ∨ v.ownBlock = some k) w fo xs
theorem RowQ.nil (S : Nat → Prop) (base : Nat) (e : TypeId) (w : World) : RowQ S base e w (.slice none 0 0) .nil := ⟨[], World.ownsRow_nil _ _ _ _, rfl⟩
theorem RowQ.lt {S : Nat → Prop} {base : Nat} {e : TypeId} {w : World} {v : Value} {fo : Fo} (h : RowQ S base e w v fo) : ∀ k, v.ownBlock = some k → base ≤ k ∧ k < w.heap.size := by
  obtain ⟨xs, h1, h2⟩ := h
  exact World.ownsRow.lt h1
theorem owns_same {w w1 : World} {base n sz : Nat} {e : TypeId} {v : Value} {xs : List Value} (h : w.ownsRow base e sz v n xs) (k : ∀ g, v.ownBlock = some g → w1.heap[g]? = w.heap[g]?) : w1.ownsRow base e sz v n xs := by
  refine ⟨h.1, ?_⟩
  rcases h.2 with h0 | ⟨g, cap, cur, hv, hb, hg, h1, h2, h3, h4⟩
  · exact .inl h0
  · exact .inr ⟨g, cap, cur, hv, hb, (k g (by rw [hv]; rfl)).trans hg, h1, h2, h3, h4⟩
theorem RowQ.move {S T : Nat → Prop} {base : Nat} {e : TypeId} {w w1 : World} {v : Value} {fo : Fo} (h : RowQ S base e w v fo) (ho : OnlyZ S w w1) (hne : ∀ k, v.ownBlock = some k → ¬ S k) (hT : ∀ k, k < w.heap.size → T k → S k) : RowQ T base e w1 v fo := by
  have hlt := h.lt
  obtain ⟨xs, h1, h2⟩ := h
  refine ⟨xs, owns_same h1 fun g hg => ho.block g (hlt g hg).2 (hne g hg), h2.map fun _ _ h => h.move ho.size (fun k hk hn => ho.block k hk (fun s => hn (.inl s))) (fun k hk t => t.imp (hT k hk) id)⟩
theorem RowQ.form {S : Nat → Prop} {base : Nat} {e : TypeId} {w : World} {v : Value} {fo : Fo} (h : RowQ S base e w v fo) : ∃ A c, v = .slice A fo.len c ∧ ((∀ k, v.ownBlock = some k → ¬ S k) → KZ S w A fo) := by
  obtain ⟨xs, h1, h2⟩ := h
  rcases h1.2 with ⟨rfl, hl⟩ | ⟨g, cap, cur, rfl, hb, hg, -, -, -, ht⟩
  · refine ⟨none, 0, by rw [hl], fun _ w' _ => ?_⟩
    rcases fo with _ | ⟨_, _, _, _, _⟩
    · trivial
    · simp [Fo.len] at hl
  · refine ⟨some ⟨g, 0, none⟩, cap, rfl, fun hne w' hw => ?_⟩
    have hlt := (Array.getElem?_eq_some_iff.1 hg).1
    refine RowZ.kids (fun B q h => h w' fun k k1 k2 => hw k k1 (fun s => k2 (.inl s))) 0 h2 fun t v ht' => ?_
    rw [Nat.zero_mul, Nat.zero_add]
    have h3 : w.cell? ⟨g, t, none⟩ = some v := by
      rw [World.ownsRow.cellAt h1 t (by
        have := (List.getElem?_eq_some_iff.1 ht').1
        rw [h1.1] at this
        exact this)]
      exact ht'
    rw [World.cell?_of_block (w := w) (a := ⟨g, t, none⟩) (hw g hlt (hne g rfl)), h3]
/-- Behind an append. -/
theorem RowQ.snoc {S : Nat → Prop} {base : Nat} {e : TypeId} {w w' : World} {v : Value} {fo : Fo} {xs : List Value} {k n r : Int} {q : Fo} {B : Option Addr} {c g cap : Nat}
    (h2 : RowZ (fun k => S k ∨ v.ownBlock = some k) w fo xs) (hq : KZ (fun k => S k ∨ v.ownBlock = some k) w B q) (hO : w'.ownsRow base e 4 (.slice (some ⟨g, 0, none⟩) (fo.len + 1) cap) (fo.len + 1) (xs ++ [.int .i64 k, .int .i64 n, .int .i64 r, .slice B q.len c]))
    (hG : w.grownBy w' v.ownBlock) (hL : v.ownBlock = some g ∨ g = w.heap.size) : RowQ S base e w' (.slice (some ⟨g, 0, none⟩) (fo.len + 1) cap) (fo.snoc k n r q) := by
  have key : ∀ B q, KZ (fun k => S k ∨ v.ownBlock = some k) w B q → KZ (fun k => S k ∨ some g = some k) w' B q := fun B q h => h.move hG.size (fun k hk hn => hG.block k hk (fun e => hn (.inr e.symm))) (fun k hk t => by
    rcases t with t | t
    · exact .inl t
    · refine .inr ?_
      rcases hL with e | e
      · exact e.trans t
      · injection t with t; omega)
  exact ⟨_, by rw [snoc_len]; exact hO, RowZ.snoc c (key _ _ hq) (h2.map key)⟩
end Go.Proofs.YtmgfaeineklccaaGreat
/- The searcher's map: keys are a size and a truth value; what a look-up and a store do. -/
set_option linter.unusedSimpArgs false
set_option linter.unusedVariables false
namespace Go.Proofs.YtmgfaeineklccaaGreat
open Go.RowKit Go.Lib

abbrev keyB (k : Int × Bool) : Value := .agg #[.int .i64 k.1, .bool k.2]

set_option maxRecDepth 100000 in
theorem run_eq_keyB (a c : Int) (b d : Bool) (w : World) : (Op.equalIn 10000 207 (.agg #[.int .i64 a, .bool b]) (.agg #[.int .i64 c, .bool d])).run Tryz.prog w = .ok (a == c && b == d) w := by
  have u3 := Tryz.underlying3
  have a3 := Tryz.isAgg3
  have z3 := Tryz.sizeOf3
  have u4 := Tryz.underlying4
  have a4 := Tryz.isAgg4
  have z4 := Tryz.sizeOf4
  have hS : Tryz.prog.underlying 207 = some (.struct (Tryz.prog.fieldsOf 207)) := by kernel_rfl
  have hp : Tryz.prog.stoodInHeld 207 = false := by kernel_rfl
  rw [show (10000 : Nat) = 9999 + 1 from rfl, run_equalIn_agg w 9999 207 _ _ hS hp]
  simp only [Program.fieldsOf, Tryz.underlying207]
  go_simp
  by_cases h1 : a = c <;> by_cases h2 : b = d <;> simp [h1, h2]

abbrev entB (e : (Int × Bool) × Value × Nat) : MapEntry := { key := keyB e.1, val := e.2.1, born := e.2.2 }
/-- The first entry of a key. -/
def fidB (k : Int × Bool) : List ((Int × Bool) × Value × Nat) → Nat → Option (Nat × Value)
  | [], _ => none
  | e :: es, i => if k = e.1 then some (i, e.2.1) else fidB k es (i + 1)
theorem run_findAskingB (k : Int × Bool) (w : World) : ∀ (es : List ((Int × Bool) × Value × Nat)) (i : Nat), (Instr.findAsking 207 (keyB k) (es.map entB) i).run Tryz.prog w = .ok (fidB k es i) w
  | [], i => by simp [Instr.findAsking, fidB]
  | e :: es, i => by
    have ih := run_findAskingB k w es (i + 1)
    have h := run_eq_keyB k.1 e.1.1 k.2 e.1.2 w
    obtain ⟨⟨a, b⟩, v, n⟩ := e
    obtain ⟨c, d⟩ := k
    simp only [List.map_cons, Instr.findAsking, fidB]
    have h' : (Op.equal 207 (keyB (c, d)) (keyB (a, b))).run Tryz.prog w = .ok (c == a && d == b) w := h
    simp only [Sem.run_bind, h', Result.andThen_ok]
    by_cases h1 : c = a
    · subst h1
      by_cases h2 : d = b
      · subst h2
        simp
      · simp [h2]
        exact ih
    · simp [h1]
      exact ih
theorem run_findKeyB (k : Int × Bool) (es : List ((Int × Bool) × Value × Nat)) (w : World) : (Instr.findKey 207 (keyB k) (es.map entB)).run Tryz.prog w = .ok (fidB k es 0) w := by
  unfold Instr.findKey
  rcases es with _ | ⟨e, es⟩
  · simp [run_underlying Tryz.underlying207, Instr.findNow, fidB]
  · have h0 := run_findAskingB k w (e :: es) 0
    have hS : ∃ fs, Tryz.prog.underlying 207 = some (.struct fs) := ⟨_, Tryz.underlying207⟩
    obtain ⟨fs, hS⟩ := hS
    have : Instr.findNow (.struct fs) (keyB k) (List.map entB (e :: es)) 0 = none := by
      simp [Instr.findNow, Instr.sameNow]
    simp [run_underlying hS, this]
    exact h0
theorem run_checkIB (em : Bool) (n : Nat) (a : Int) (w : World) : (Instr.checkKey em (n + 1) 3 (.int .i64 a)).run Tryz.prog w = .ok () w := by
  simp only [Instr.checkKey, Sem.run_bind, run_underlying Tryz.underlying3, Result.andThen_ok]
  rfl
theorem run_checkL (em : Bool) (n : Nat) (a : Bool) (w : World) : (Instr.checkKey em (n + 1) 4 (.bool a)).run Tryz.prog w = .ok () w := by
  simp only [Instr.checkKey, Sem.run_bind, run_underlying Tryz.underlying4, Result.andThen_ok]
  rfl
theorem run_checkKB' (em : Bool) (n : Nat) (k : Int × Bool) (w : World) : (Instr.checkKey em (n + 1 + 1) 207 (keyB k)).run Tryz.prog w = .ok () w := by
  have a3 := Tryz.isAgg3
  have z3 := Tryz.sizeOf3
  have a4 := Tryz.isAgg4
  have z4 := Tryz.sizeOf4
  have h1 := fun w => run_checkIB em n k.1 w
  have h2 := fun w => run_checkL em n k.2 w
  generalize hm : n + 1 = m at *
  simp only [Instr.checkKey, Sem.run_bind, run_underlying Tryz.underlying207, Result.andThen_ok]
  go_simp
theorem run_checkKB (em : Bool) (k : Int × Bool) (w : World) : (Instr.checkKey em 10000 207 (keyB k)).run Tryz.prog w = .ok () w := run_checkKB' em 9998 k w
/-- What stands for no plan. -/
abbrev noBV : Value := .agg #[.int .i64 0, .int .i64 0, .int .i64 0, .slice none 0 0, .int .i64 0]
theorem run_zeroB (w : World) : (zeroValue 204).run Tryz.prog w = .ok noBV w := by
  go_simp
/-- A look-up with its second result. -/
theorem run_lookB (r clock : Nat) (k : Int × Bool) (es : List ((Int × Bool) × Value × Nat)) (w : World) (h : w.heap[r]? = some (.map (es.map entB).toArray clock)) :
    (Instr.lookup 200 (.map (some r)) (keyB k) true).run Tryz.prog w = .ok (.tuple #[(match fidB k es 0 with | some (_, v) => v | none => noBV), .bool (fidB k es 0).isSome]) w := by
  unfold Instr.lookup
  have hf := run_findKeyB k es w
  simp only [Sem.run_bind, run_underlying Tryz.underlying200, Result.andThen_ok, MapKept.run_getObj_map h, Sem.run_pure, run_checkKB]
  simp only [hf, Result.andThen_ok]
  cases hk : fidB k es 0 with
  | none => simp [run_zeroB]
  | some q => simp
/-- A store under a key that is not there. -/
theorem run_storeB (r clock : Nat) (k : Int × Bool) (v : Value) (es : List ((Int × Bool) × Value × Nat)) (w : World) (h : w.heap[r]? = some (.map (es.map entB).toArray clock)) (hk : fidB k es 0 = none) :
    (Instr.mapUpdate 200 (.map (some r)) (keyB k) v).run Tryz.prog w = .ok () { w with heap := w.heap.setIfInBounds r (.map ((es ++ [(k, v, clock)]).map entB).toArray (clock + 1)) } := by
  unfold Instr.mapUpdate
  have hf := run_findKeyB k es w
  simp only [Sem.run_bind, run_underlying Tryz.underlying200, Result.andThen_ok, MapKept.run_getObj_map h, run_checkKB, hf, hk, MapKept.run_setObj_map _ h]
  simp
theorem fidB_none {k : Int × Bool} : ∀ {es : List ((Int × Bool) × Value × Nat)} {i : Nat}, (∀ e ∈ es, e.1 ≠ k) → fidB k es i = none
  | [], _, _ => rfl
  | e :: es, i, h => by
    unfold fidB
    rw [if_neg (fun e' => h e List.mem_cons_self e'.symm)]
    exact fidB_none fun d hd => h d (List.mem_cons_of_mem _ hd)
theorem fidB_some {k : Int × Bool} : ∀ {es : List ((Int × Bool) × Value × Nat)} {i : Nat} {q : Nat × Value}, fidB k es i = some q → ∃ e ∈ es, e.1 = k ∧ e.2.1 = q.2
  | [], _, _, h => by cases h
  | e :: es, i, q, h => by
    unfold fidB at h
    by_cases e1 : k = e.1
    · rw [if_pos e1] at h
      injection h with h
      exact ⟨e, List.mem_cons_self, e1.symm, by rw [← h]⟩
    · rw [if_neg e1] at h
      obtain ⟨d, hd, h1, h2⟩ := fidB_some h
      exact ⟨d, List.mem_cons_of_mem _ hd, h1, h2⟩
theorem fidB_no {k : Int × Bool} : ∀ {es : List ((Int × Bool) × Value × Nat)} {i : Nat}, fidB k es i = none → ∀ e ∈ es, e.1 ≠ k
  | [], _, _, _, h => by cases h
  | e :: es, i, h, d, hd => by
    unfold fidB at h
    by_cases e1 : k = e.1
    · rw [if_pos e1] at h; cases h
    · rw [if_neg e1] at h
      rcases List.mem_cons.1 hd with rfl | hd
      · exact fun e' => e1 e'.symm
      · exact fidB_no h d hd
end Go.Proofs.YtmgfaeineklccaaGreat
/- Contract: search.fits. -/
set_option linter.unusedSimpArgs false
set_option linter.unusedVariables false
namespace Go.Proofs.YtmgfaeineklccaaGreat
open Go.RowKit Go.Lib

set_option maxRecDepth 100000 in
set_option maxHeartbeats 1000000 in
theorem Wants_big (n r : Int) (A : Option Addr) (l c : Nat) (w : World) (h1 : 16384 < n) (h2 : n ≤ 32768) :
    Calls Tryz.prog 161 #[plV 4 n r A l c] w (WantsC w [0]) := by
  have bs1 := bs_int1
  have HP := Lib.hid (fun w => Padded_no n (.inr h1) w)
  go_enter Tryz.func161, Tryz.ntmps161
  go_wp2_with fail
  refine (HP.out _).mono ?_
  rintro z w' ⟨rfl, rfl⟩
  go_wp2
  go_ret
  exact ⟨⟨_, rfl, ints_one _ _ _ _ (by simp), fun b o e => by cases e; first | (simp; done) | exact HB.drew.size | omega⟩, ((Below.refl _ w).alloc (Nat.le_refl _) _).alloc (by simp) _⟩

/-- Plans that stand for kids that are not there yet. -/
def dumF : Nat → Fo
  | 0 => .nil
  | n + 1 => .cons 0 0 0 .nil (dumF n)
theorem dumF_snoc : ∀ n, (dumF n).snoc 0 0 0 .nil = dumF (n + 1)
  | 0 => rfl
  | n + 1 => by
    show Fo.cons 0 0 0 .nil ((dumF n).snoc 0 0 0 .nil) = _
    rw [dumF_snoc n]
    rfl
theorem dumF_len : ∀ n, (dumF n).len = n
  | 0 => rfl
  | n + 1 => by show (dumF n).len + 1 = _; rw [dumF_len n]
theorem dumF_count : ∀ n, (dumF n).count = n
  | 0 => rfl
  | n + 1 => by show 1 + 0 + (dumF n).count = _; rw [dumF_count n]; omega
/-- The sizes that a node's kids must have, as the program tells them. -/
def wantsP (k n r : Int) : List Int := if k = 4 ∧ 16384 < n then [0] else wantsF k n r
/-- May these be sizes? -/
def rngB (ws : List Int) : Bool := ws.all fun x => decide (1 ≤ x ∧ x ≤ 32768)
theorem dum_okC {n : Nat} {k r : Int} (h1 : 1 ≤ n) (hn : n ≤ 32768) (h4 : ¬ (k = 4 ∧ 16384 < n)) (hr : rngB (wantsF k n r) = true) (hl : (wantsF k n r).length ≤ 2) :
    okC n (k, r) = (decide (checkE k n r (dumF (wantsF k n r).length) n = 0) || decide (checkAt k n r (dumF (wantsF k n r).length) n > 0)) := by
  unfold okC checkE checkAt
  have a1 : ¬ ((n : Int) < 1 ∨ 32768 < (n : Int)) := by omega
  have a2 : ¬ 64 < 1 + (dumF (wantsF k n r).length).count := by rw [dumF_count]; omega
  rw [if_neg h4, if_neg a1, if_neg a1, if_neg a2, if_neg a2]
  have hb : (Fo.cons k n r (dumF (wantsF k n r).length) .nil).bad [(n : Int)] false = if nodeE k n r (wantsF k n r).length n false ≠ 0 then nodeE k n r (wantsF k n r).length n false else (dumF (wantsF k n r).length).bad (wantsF k n r) (false || k == 4) := by
    simp only [Fo.bad, List.headD_cons, dumF_len]
    (repeat' split) <;> first | rfl | omega
  have hm : (Fo.cons k n r (dumF (wantsF k n r).length) .nil).numb [(n : Int)] false 0 = if nodeE k n r (wantsF k n r).length n false ≠ 0 then 0 else (dumF (wantsF k n r).length).numb (wantsF k n r) (false || k == 4) 1 := by
    simp only [Fo.numb, List.headD_cons, dumF_len]
    (repeat' split) <;> first | rfl | omega
  rw [hb, hm]
  by_cases he : nodeE k n r (wantsF k n r).length n false = 0
  · have he' : ¬ nodeE k n r (wantsF k n r).length n false ≠ 0 := fun h => h he
    rw [if_neg he', if_neg he', he]
    clear he he' hb hm
    generalize wantsF k n r = ws at hr
    rcases ws with _ | ⟨x, ws⟩
    · rfl
    · have hx : 1 ≤ x := by
        unfold rngB at hr
        rw [List.all_cons, Bool.and_eq_true] at hr
        exact (of_decide_eq_true hr.1).1
      have hd : nodeE 0 0 0 0 x (false || k == 4) = 21 := by
        unfold nodeE
        rw [if_neg (by rintro (h | h | ⟨h, _⟩) <;> omega), if_pos (by omega)]
      have e1 : (dumF (x :: ws).length).bad (x :: ws) (false || k == 4) = 21 := by
        show (Fo.cons 0 0 0 .nil (dumF ws.length)).bad (x :: ws) _ = 21
        rw [Fo.bad]
        show (if nodeE 0 0 0 0 x _ ≠ 0 then nodeE 0 0 0 0 x _ else _) = 21
        rw [hd]; rfl
      have e2 : (dumF (x :: ws).length).numb (x :: ws) (false || k == 4) 1 = 1 := by
        show (Fo.cons 0 0 0 .nil (dumF ws.length)).numb (x :: ws) _ 1 = 1
        rw [Fo.numb]
        show (if nodeE 0 0 0 0 x _ ≠ 0 then 1 else _) = (1 : Int)
        rw [hd]; rfl
      rw [e1, e2]
      rfl
  · rw [if_pos he, if_pos he, if_neg he, decide_eq_false he]
    rfl
theorem rng_no {n : Nat} {k r : Int} (hc : k = 0 ∨ k = 1 ∨ k = 2 ∨ k = 3 ∨ k = 4) (h1 : 1 ≤ n) (hn : n ≤ 32768) (h : rngB (wantsP k n r) = false) : okC n (k, r) = false := by
  unfold okC
  by_cases h4 : k = 4 ∧ 16384 < n
  · rw [if_pos h4]
  · rw [if_neg h4]
    refine decide_eq_false fun he => ?_
    have hw := node_wants he (by omega) (by omega)
    unfold wantsP at h
    rw [if_neg (by omega)] at h
    have : rngB (wantsF k n r) = true := by
      unfold rngB
      rw [List.all_eq_true]
      exact fun x hx => decide_eq_true (hw x hx)
    rw [h] at this
    cases this

theorem RowP.keepZ {base : Nat} {e : TypeId} {w w1 : World} {v : Value} {fo : Fo} (h : RowP base e w v fo) (hb : Below w.heap.size w w1) : RowP base e w1 v fo := h.below hb

set_option maxRecDepth 100000 in
set_option maxHeartbeats 4000000 in
theorem fits_any (n : Nat) (k r : Int) (h1 : 1 ≤ n) (hn : n ≤ 32768) (hk : k = 0 ∨ k = 1 ∨ k = 2 ∨ k = 3 ∨ k = 4) (w : World) :
    Calls Tryz.prog 184 #[plV k n r none 0 0] w fun z w' => z = .returned (.bool (okC n (k, r))) ∧ Below w.heap.size w w' := by
  obtain ⟨ws, hws⟩ : ∃ ws, wantsP k n r = ws := ⟨_, rfl⟩
  have hl : ws.length ≤ 2 := by rw [← hws]; unfold wantsP wantsF; (repeat' split) <;> simp
  have HWN : Hid (∀ w, Calls Tryz.prog 161 #[plV k n r none 0 0] w fun z w' => ∃ A', z = .returned (.slice A' ws.length ws.length) ∧ IntsAt w' A' ws.length (fun i => ws.getD i 0) ∧ (∀ b o, A' = some ⟨b, o, none⟩ → w.heap.size ≤ b) ∧ Below w.heap.size w w') := Lib.hid (fun w => by
    have hW : Calls Tryz.prog 161 #[plV k n r none 0 0] w (WantsC w ws) := by
      rw [← hws]
      unfold wantsP
      by_cases h4 : k = 4 ∧ 16384 < (n : Int)
      · rw [if_pos h4]
        obtain ⟨rfl, h4⟩ := h4
        exact Wants_big n r none 0 0 w h4 (by omega)
      · rw [if_neg h4]
        exact Wants_any k n r none 0 0 w (by omega) (by omega) (fun e => by omega)
    refine hW.mono ?_
    rintro z w' ⟨⟨A', rfl, hi, hg⟩, hb⟩
    exact ⟨A', rfl, hi, hg, hb⟩)
  have HNO : Hid (rngB ws = false → okC n (k, r) = false) := Lib.hid (by rw [← hws]; exact rng_no hk h1 hn)
  have HYES : Hid (rngB ws = true → okC n (k, r) = (decide (checkE k n r (dumF ws.length) n = 0) || decide (checkAt k n r (dumF ws.length) n > 0))) := Lib.hid (fun hr => by
    have h4 : ¬ (k = 4 ∧ 16384 < n) := fun h4 => by
      rw [← hws] at hr
      unfold wantsP at hr
      rw [if_pos (by omega)] at hr
      exact absurd hr (by decide)
    have e : wantsF k n r = ws := by
      rw [← hws]; unfold wantsP; rw [if_neg (by omega)]
    rw [← e] at hr hl ⊢
    exact dum_okC h1 hn h4 hr hl)
  have HCK := Lib.hid (fun w A c h => CheckM_any k n r (dumF ws.length) n (by rw [dumF_count]; omega) w A c h)
  rw [dumF_len] at HCK
  obtain ⟨E, hE⟩ : ∃ E, checkE k n r (dumF ws.length) n = E := ⟨_, rfl⟩
  obtain ⟨T, hT⟩ : ∃ T, checkAt k n r (dumF ws.length) n = T := ⟨_, rfl⟩
  rw [hE, hT] at HCK HYES
  obtain ⟨ans, hans⟩ : ∃ ans, okC n (k, r) = ans := ⟨_, rfl⟩
  rw [hans] at HNO HYES ⊢
  obtain ⟨m, hm⟩ : ∃ m, ws.length = m := ⟨_, rfl⟩
  rw [hm] at HWN HCK hl
  have HM := Lib.hid hm
  have HP0 := Lib.hid (And.intro (PlBox.new w k n r none 0 0 27) (PlFree.new w (.int .i64 k) (.int .i64 n) (.int .i64 r) (.slice none 0 0) 27))
  have HB0 := Lib.hid ((Below.refl _ w).alloc (Nat.le_refl _) (.cells #[.int .i64 k, .int .i64 n, .int .i64 r, .slice none 0 0] 27))
  obtain ⟨W, hW⟩ : ∃ W, W = w.alloc (.cells #[.int .i64 k, .int .i64 n, .int .i64 r, .slice none 0 0] 27) := ⟨_, rfl⟩
  have hWs : W.heap.size = w.heap.size + 1 := by rw [hW]; simp
  rw [← hW] at HP0 HB0
  have HW := Lib.hid hW
  have HWS := Lib.hid hWs
  clear hW hE hT hans hk h1 hn hm hws hWs
  have bs := bs_plan
  go_enter Tryz.func184, Tryz.ntmps184
  go_wp2_with fail
  rw [← HW.out]
  have hP0 := HP0.out.1
  refine (HWN.out _).mono ?_
  rintro z w2 ⟨A', rfl, hwi, hwg, hbw⟩
  have HP2 := Lib.hid (And.intro (HP0.out.1.below hbw) (HP0.out.2.keep hbw (by have := HWS.out; omega)))
  have HB2 : Hid (w.heap.size < w2.heap.size ∧ Below w.heap.size w w2) := Lib.hid ⟨by have := HWS.out; have := hbw.size; omega, HB0.out.trans (hbw.mono HB0.out.size)⟩
  have HWI := Lib.hid hwi
  have HWG : Hid (∀ b o, A' = some ⟨b, o, none⟩ → w.heap.size < b) := Lib.hid (fun b o e => by have := hwg b o e; have := HWS.out; omega)
  clear hbw hwi hwg hP0
  go_wp2_with fail
  go_loopw [10] (fun vi wr => ∃ (i : Nat) (B : Option Addr) (c : Nat), i ≤ m ∧ vi = .int .i64 i ∧ Hid (∀ j, j < i → 1 ≤ ws.getD j 0 ∧ ws.getD j 0 ≤ 32768) ∧ Hid (PlBox wr w.heap.size k n r B i c ∧ PlFree wr w.heap.size) ∧ Hid (RowP w2.heap.size 27 wr (.slice B i c) (dumF i)) ∧ Hid (Below w.heap.size w wr ∧ w2.heap.size ≤ wr.heap.size) ∧ Hid (IntsAt wr A' m (fun i => ws.getD i 0))) (fun vi _ => m - (intOf vi).toNat)
  case atStart => exact ⟨0, none, 0, Nat.zero_le _, rfl, Lib.hid (fun j hj => by omega), HP2, Lib.hid (RowP.nil _ _ _), Lib.hid ⟨HB2.out.2, Nat.le_refl _⟩, HWI⟩
  case round =>
    obtain ⟨i, B, c, hi, rfl, hrg, hP, hR, hB, hI⟩ := hrel
    by_cases hlt : i < m
    · have hlti : (i : Int) < (m : Int) := by omega
      obtain ⟨bw, ow, rfl, hcw0⟩ := hI.out i hlt
      have hcw : wr.cell? ⟨bw, ow + i, none⟩ = some (.int .i64 (ws.getD i 0)) := hcw0
      obtain ⟨x, hx⟩ : ∃ x, ws.getD i 0 = x := ⟨_, rfl⟩
      have HX := Lib.hid hx
      rw [hx] at hcw
      clear hcw0 hx
      have HBAD : Hid (¬ (1 ≤ x ∧ x ≤ 32768) → ans = false) := Lib.hid (fun hb => HNO.out (by
        unfold rngB
        rw [List.all_eq_false]
        refine ⟨x, ?_, ?_⟩
        · rw [← HX.out, List.getD_eq_getElem?_getD, List.getElem?_eq_getElem (by have := HM.out; omega)]
          exact List.getElem_mem _
        · simpa using hb))
      by_cases hx1 : x < 1
      · go_wp2
        go_ret
        exact ⟨by rw [HBAD.out (by omega)]; rfl, hB.out.1⟩
      · by_cases hx2 : 32768 < x
        · go_wp2
          go_ret
          exact ⟨by rw [HBAD.out (by omega)]; rfl, hB.out.1⟩
        · have HRG : Hid (∀ j, j < i + 1 → 1 ≤ ws.getD j 0 ∧ ws.getD j 0 ≤ 32768) := Lib.hid (fun j hj => by
            rcases Nat.lt_or_ge j i with h | h
            · exact hrg.out j h
            · have e : j = i := by omega
              rw [e, HX.out]; omega)
          obtain ⟨q0, q1, q2, q3⟩ := hP.out.1
          have hfr := hP.out.2 3 (by omega)
          obtain ⟨xs, hO, hRK⟩ := hR.out
          have HRK := Lib.hid hRK
          have HRO := Lib.hid hO
          have hlen := dumF_len i
          rw [hlen] at HRO
          have hi40 : i + 1 ≤ 1099511627776 := by omega
          have hs4 : w2.heap.size ≤ wr.heap.size + 1 := by have := hB.out.2; omega
          have HOL := Lib.hid hR.out.lt
          have HBS := HB2.out.1
          clear hO hRK hlen
          go_wp2_with (at_builtin; go_loud (refine wpList_appL rfl _ _ 25 27 rfl 4 48 (.agg #[.int .i64 0, .int .i64 0, .int .i64 0, .slice none 0 0]) Tryz.underlying25 info_plan rfl (by omega) (by omega) w2.heap.size (.slice B i c) i xs rfl (World.ownsRow.alloc HRO.out _) _ _ [.int .i64 0, .int .i64 0, .int .i64 0, .slice none 0 0] rfl rfl (cells_four _ _ _ _ _ _ _ rfl) (one_four _ _ _ _ _ _) hi40 (by simpa using hs4) ?_); intro g2 cap2 w6 hO2 hG2 hL2; obtain ⟨d0, d1, d2, d3⟩ := ((hP.out.1.below ((Below.refl _ wr).alloc (Nat.le_refl _) (.cells #[.int .i64 0, .int .i64 0, .int .i64 0, .slice none 0 0] 27))).grown hG2.out (fun e => by have := (HOL.out _ e).1; omega)); have hf6 := ((hP.out.2.keep ((Below.refl _ wr).alloc (Nat.le_refl _) (.cells #[.int .i64 0, .int .i64 0, .int .i64 0, .slice none 0 0] 27)) (cell_lt hP.out.1.1)).grown hG2.out (by have := cell_lt hP.out.1.1; simp; omega) (fun e => by have := (HOL.out _ e).1; omega)) 3 (by omega))
          have hb5 : Below wr.heap.size wr (wr.alloc (.cells #[.int .i64 0, .int .i64 0, .int .i64 0, .slice none 0 0] 27)) := (Below.refl _ wr).alloc (Nat.le_refl _) _
          generalize wr.alloc (.cells #[.int .i64 0, .int .i64 0, .int .i64 0, .slice none 0 0] 27) = w5 at hG2 hL2 hb5
          have hbl : ∀ k, k < w2.heap.size → w6.heap[k]? = wr.heap[k]? := fun k hk => (hG2.out.block k (by have := hb5.size; have := hB.out.2; omega) (fun e => by have := (HOL.out k e.symm).1; omega)).trans (hb5.block k (by have := hB.out.2; omega))
          have hsz6 : wr.heap.size ≤ w6.heap.size := Nat.le_trans hb5.size hG2.out.size
          have hset : ∀ k u, k ≠ w.heap.size → (w6.setCell ⟨w.heap.size, 3, none⟩ u).heap[k]? = w6.heap[k]? := fun k u hk => heap_set _ hk
          have HPN := Lib.hid (And.intro (PlBox.kid (hP.out.1.same (hbl _ HBS)) (some ⟨g2, 0, none⟩) (i + 1) cap2) ((hP.out.2.same (hbl _ HBS)).set ⟨w.heap.size, 3, none⟩ (.slice (some ⟨g2, 0, none⟩) (i + 1) cap2)))
          have hO3 := hO2.out
          have hRK5 := HRK.out.map (fun B q h => h.below hb5)
          have hRP : RowP w2.heap.size 27 w6 (.slice (some ⟨g2, 0, none⟩) ((dumF i).len + 1) cap2) ((dumF i).snoc 0 0 0 .nil) := RowP.snoc (q := .nil) (B := none) (c := 0) hRK5 (fun _ _ => trivial) (by rw [dumF_len]; exact hO3) hG2.out hL2.out
          rw [dumF_len, dumF_snoc] at hRP
          have HRN := Lib.hid (hRP.set (o := 3) (.slice (some ⟨g2, 0, none⟩) (i + 1) cap2) HBS)
          have HBN : Hid (Below w.heap.size w (w6.setCell ⟨w.heap.size, 3, none⟩ (.slice (some ⟨g2, 0, none⟩) (i + 1) cap2)) ∧ w2.heap.size ≤ (w6.setCell ⟨w.heap.size, 3, none⟩ (.slice (some ⟨g2, 0, none⟩) (i + 1) cap2)).heap.size) := Lib.hid ⟨(Below.grown hB.out.1 (w' := w6) ⟨hG2.out.os.trans hb5.os, hG2.out.tape.trans hb5.tape, hG2.out.output.trans hb5.output, hsz6, fun k hk hne => (hG2.out.block k (Nat.lt_of_lt_of_le hk hb5.size) hne).trans (hb5.block k hk)⟩ (Nat.le_trans (Nat.le_of_lt HBS) hB.out.2) (fun k e => by have := (HOL.out k e).1; omega)).setCell (by simp) _, by have := hB.out.2; simp [World.setCell]; omega⟩
          have HIN : Hid (IntsAt (w6.setCell ⟨w.heap.size, 3, none⟩ (.slice (some ⟨g2, 0, none⟩) (i + 1) cap2)) (some ⟨bw, ow, none⟩) m (fun i => ws.getD i 0)) := Lib.hid ((hI.out.same fun h0 b o e => hbl b (HWI.out.block h0 b o e)).same fun h0 b o e => hset b _ (by have := HWG.out b o e; omega))
          clear hO2 hG2 hL2 d0 d1 d2 d3 hf6 hO3 hRK5 hRP hset hbl hsz6 hb5
          exact ⟨⟨i + 1, _, _, by omega, by go_num, HRG, HPN, HRN, HBN, HIN⟩, by simp [intOf]; omega⟩
    · obtain rfl : i = m := by omega
      have hgood : rngB ws = true := by
        unfold rngB
        rw [List.all_eq_true]
        intro x hx
        obtain ⟨t, ht, rfl⟩ := List.getElem_of_mem hx
        have := hrg.out t (by rw [← HM.out]; exact ht)
        rw [List.getD_eq_getElem?_getD, List.getElem?_eq_getElem ht] at this
        exact decide_eq_true this
      have HA := Lib.hid (HYES.out hgood)
      obtain ⟨q0, q1, q2, q3⟩ := hP.out.1
      have HKD : Hid (Kids wr B 0 (dumF i)) := Lib.hid (by
        obtain ⟨A2, c2, e, hky⟩ := hR.out.form
        injection e with e1 e2 e3
        rw [e1]
        exact hky.kids)
      clear hgood
      go_wp2_with fail
      refine (HCK.out _ _ _ HKD.out).mono ?_
      rintro z w3 ⟨rfl, hb3⟩
      have HB3 := Lib.hid (hB.out.1.trans (hb3.mono hB.out.1.size))
      clear hb3 q0 q1 q2 q3
      by_cases hE0 : E = 0
      · subst hE0
        go_wp2
        go_ret
        exact ⟨by rw [HA.out]; rfl, HB3.out⟩
      · have hE1 : (E == 0) = false := by rw [beq_eq_false_iff_ne]; exact hE0
        have HE0 := Lib.hid hE0
        clear hE0
        go_wp2
        go_ret
        exact ⟨by rw [HA.out, decide_eq_false HE0.out]; rfl, HB3.out⟩
end Go.Proofs.YtmgfaeineklccaaGreat
/- Contract: slices.DeleteFunc of plans without kids. -/
set_option linter.unusedSimpArgs false
set_option linter.unusedVariables false
namespace Go.Proofs.YtmgfaeineklccaaGreat
open Go.RowKit Go.Lib

/-- A row of plans without kids, from a block's start on. -/
structure GRow (w : World) (g n N : Nat) (f : Nat → Int × Int) : Prop where
  cell : ∀ i, i < n → ∀ j, j < 4 → w.cell? ⟨g, i * 4 + j, none⟩ = (oneV N (f i))[j]?
theorem GRow.at' {w : World} {g n N : Nat} {f : Nat → Int × Int} (h : GRow w g n N f) {i : Nat} (hi : i < n) :
    w.cell? ⟨g, i * 4, none⟩ = some (.int .i64 (f i).1) ∧ w.cell? ⟨g, i * 4 + 1, none⟩ = some (.int .i64 N) ∧ w.cell? ⟨g, i * 4 + 2, none⟩ = some (.int .i64 (f i).2) ∧ w.cell? ⟨g, i * 4 + 3, none⟩ = some (.slice none 0 0) :=
  ⟨h.cell i hi 0 (by omega), h.cell i hi 1 (by omega), h.cell i hi 2 (by omega), h.cell i hi 3 (by omega)⟩
theorem GRow.same {w w' : World} {g n N : Nat} {f : Nat → Int × Int} (h : GRow w g n N f) (e : w'.heap[g]? = w.heap[g]?) : GRow w' g n N f :=
  ⟨fun i hi j hj => (World.cell?_of_block (w := w) (a := ⟨g, i * 4 + j, none⟩) e).trans (h.cell i hi j hj)⟩
theorem GRow.mono {w : World} {g n m N : Nat} {f : Nat → Int × Int} (h : GRow w g n N f) (hm : m ≤ n) : GRow w g m N f := ⟨fun i hi => h.cell i (by omega)⟩
theorem GRow.congr {w : World} {g n N : Nat} {f f' : Nat → Int × Int} (h : GRow w g n N f) (e : ∀ i, i < n → f i = f' i) : GRow w g n N f' := ⟨fun i hi j hj => by rw [← e i hi]; exact h.cell i hi j hj⟩
/-- A block of cells that may be written. -/
def Wr (w : World) (g sz : Nat) : Prop := ∃ cur : Array Value, w.heap[g]? = some (.cells cur 27 (0, 0)) ∧ cur.size = sz
theorem Wr.lt {w : World} {g sz : Nat} (h : Wr w g sz) : g < w.heap.size := by
  obtain ⟨cur, h, _⟩ := h
  exact (Array.getElem?_eq_some_iff.1 h).1
theorem Wr.free {w : World} {g sz : Nat} (h : Wr w g sz) (o : Nat) : w.frozen? ⟨g, o, none⟩ = false := by
  obtain ⟨cur, h, _⟩ := h
  simp [World.frozen?, h]
theorem Wr.same {w w' : World} {g sz : Nat} (h : Wr w g sz) (e : w'.heap[g]? = w.heap[g]?) : Wr w' g sz := by
  obtain ⟨cur, h, h2⟩ := h
  exact ⟨cur, e.trans h, h2⟩
theorem Wr.set {w : World} {g sz : Nat} (h : Wr w g sz) (o : Nat) (v : Value) : Wr (w.setCell ⟨g, o, none⟩ v) g sz := by
  obtain ⟨cur, h, h2⟩ := h
  have hl := (Array.getElem?_eq_some_iff.1 h).1
  refine ⟨cur.setIfInBounds o v, ?_, by simpa using h2⟩
  show (w.heap.modify g _)[g]? = _
  rw [Array.getElem?_modify]
  simp [h]
/-- The world with one plan written. -/
def putPl (w : World) (g i N : Nat) (c : Int × Int) : World :=
  (((w.setCell ⟨g, i * 4, none⟩ (.int .i64 c.1)).setCell ⟨g, i * 4 + 1, none⟩ (.int .i64 N)).setCell ⟨g, i * 4 + 2, none⟩ (.int .i64 c.2)).setCell ⟨g, i * 4 + 3, none⟩ (.slice none 0 0)
theorem Wr.put {w : World} {g sz : Nat} (h : Wr w g sz) (i N : Nat) (c : Int × Int) : Wr (putPl w g i N c) g sz := (((h.set _ _).set _ _).set _ _).set _ _
theorem only_putPl (w : World) (g i N : Nat) (c : Int × Int) : OnlyB g w (putPl w g i N c) := ((((OnlyB.refl g w).setCell _ _ _).setCell _ _ _).setCell _ _ _).setCell _ _ _
theorem GRow.put {w : World} {g n N : Nat} {f : Nat → Int × Int} (h : GRow w g n N f) {i : Nat} (hi : i < n) (c : Int × Int) : GRow (putPl w g i N c) g n N (fun t => if t = i then c else f t) := by
  have ne : ∀ {x y : Nat}, x ≠ y → (⟨g, x, none⟩ : Addr) ≠ ⟨g, y, none⟩ := fun h e => h (congrArg Addr.off e)
  obtain ⟨a0, a1, a2, a3⟩ := h.at' hi
  refine ⟨fun t ht j hj => ?_⟩
  unfold putPl
  by_cases e : t = i
  · subst e
    show _ = (oneV N (if t = t then c else f t))[j]?
    rw [if_pos rfl]
    match j, hj with
    | 0, _ =>
      rw [World.cell?_setCell_other _ _ _ _ (ne (by omega)), World.cell?_setCell_other _ _ _ _ (ne (by omega)), World.cell?_setCell_other _ _ _ _ (ne (by omega))]
      exact World.cell?_setCell_same _ _ _ a0
    | 1, _ =>
      rw [World.cell?_setCell_other _ _ _ _ (ne (by omega)), World.cell?_setCell_other _ _ _ _ (ne (by omega))]
      refine World.cell?_setCell_same _ _ _ (u := .int .i64 N) ?_
      rw [World.cell?_setCell_other _ _ _ _ (ne (by omega))]
      exact a1
    | 2, _ =>
      rw [World.cell?_setCell_other _ _ _ _ (ne (by omega))]
      refine World.cell?_setCell_same _ _ _ (u := .int .i64 (f t).2) ?_
      rw [World.cell?_setCell_other _ _ _ _ (ne (by omega)), World.cell?_setCell_other _ _ _ _ (ne (by omega))]
      exact a2
    | 3, _ =>
      refine World.cell?_setCell_same _ _ _ (u := .slice none 0 0) ?_
      rw [World.cell?_setCell_other _ _ _ _ (ne (by omega)), World.cell?_setCell_other _ _ _ _ (ne (by omega)), World.cell?_setCell_other _ _ _ _ (ne (by omega))]
      exact a3
  · show _ = (oneV N (if t = i then c else f t))[j]?
    rw [if_neg e, ← h.cell t ht j hj, World.cell?_setCell_other _ _ _ _ (ne (by omega)), World.cell?_setCell_other _ _ _ _ (ne (by omega)), World.cell?_setCell_other _ _ _ _ (ne (by omega)), World.cell?_setCell_other _ _ _ _ (ne (by omega))]
/-- clear of plans. -/
theorem run_clearP (w : World) (ty : TypeId) (g o n c : Nat) (cur : Array Value) (t : TypeId) (hn : 0 < n)
    (hg : w.heap[g]? = some (.cells cur t (0, 0))) (hfit : o + n * 4 ≤ cur.size) :
    ∃ zs : List Value, zs.length = n * 4 ∧ (Builtin.clear_ #[25] ty #[.slice (some ⟨g, o, none⟩) n c]).run Tryz.prog w =
      .ok (.tuple #[]) (w.setRow g (cur.toList.take o ++ zs ++ cur.toList.drop (o + zs.length)).toArray) := by
  obtain ⟨i0, hi, hz0, hz1, hz2⟩ := info_parts info_plan
  obtain ⟨zs, hzs⟩ : ∃ zs, zs = (Builtin.zeroCells #[.int .i64 0, .int .i64 0, .int .i64 0, .slice none 0 0] n).toList := ⟨_, rfl⟩
  have hlen : zs.length = n * 4 := by rw [hzs]; simp [Builtin.zeroCells]
  have hone : ∀ v ∈ zs, v.oneCell' = true := by
    intro v hv
    rw [hzs] at hv
    simp [Builtin.zeroCells] at hv
    obtain ⟨i, hi, rfl⟩ := hv
    rcases (show i % 4 = 0 ∨ i % 4 = 1 ∨ i % 4 = 2 ∨ i % 4 = 3 by omega) with e | e | e | e <;> rw [e] <;> rfl
  refine ⟨zs, hlen, ?_⟩
  have hst := run_storeCells_at Tryz.prog g o t zs 0 cur w hg (by simp; omega) hone
  simp only [Nat.add_zero] at hst
  obtain ⟨m, rfl⟩ : ∃ m, n = m + 1 := ⟨n - 1, by omega⟩
  have hz : ∀ w, (zeroValue 27).run Tryz.prog w = .ok (.agg #[.int .i64 0, .int .i64 0, .int .i64 0, .slice none 0 0]) w := fun w => by
    simp [zeroValue, typeInfo, hi, hz0]
  simp [Builtin.clear_, run_underlying Tryz.underlying25, hz, Value.cells, ← hzs, hst]
theorem clear_keeps {w : World} {g o n c sz N i : Nat} {f : Nat → Int × Int} (hw : Wr w g sz) (hg : GRow w g i N f) (ho : o = i * 4) (hn : 0 < n) (hfit : o + n * 4 ≤ sz) :
    ∃ w', (Builtin.clear_ #[25] 0 #[.slice (some ⟨g, o, none⟩) n c]).run Tryz.prog w = .ok (.tuple #[]) w' ∧ OnlyB g w w' ∧ GRow w' g i N f := by
  obtain ⟨cur, h1, h2⟩ := hw
  obtain ⟨zs, hl, hr⟩ := run_clearP w 0 g o n c cur _ hn h1 (by omega)
  have hlt := (Array.getElem?_eq_some_iff.1 h1).1
  refine ⟨_, hr, (OnlyB.refl g w).trans ⟨rfl, rfl, rfl, by simp [World.setRow], fun k hk hb => setRow_other w g k _ hb⟩, ⟨fun t ht j hj => ?_⟩⟩
  rw [← hg.cell t ht j hj]
  have e1 : t * 4 + j < o := by omega
  simp only [World.cell?, World.setRow, h1]
  rw [Array.getElem?_modify]
  simp [h1]
  rw [List.getElem?_append_left (by simp; omega), List.getElem?_take_of_lt e1]
  simp

/-- Where the first one stands that may not be. -/
def idxL (n : Nat) (f : Nat → Int × Int) : Nat → Int
  | 0 => -1
  | m + 1 => if idxL n f m ≠ -1 then idxL n f m else if okC n (f m) = true then -1 else m
theorem idxL_none {n : Nat} {f : Nat → Int × Int} : ∀ {m : Nat}, idxL n f m = -1 → ∀ i, i < m → okC n (f i) = true
  | 0, _, i, hi => by omega
  | m + 1, h, i, hi => by
    unfold idxL at h
    by_cases e : idxL n f m = -1
    · rw [if_neg (by simp [e])] at h
      by_cases e2 : okC n (f m) = true
      · rcases Nat.lt_or_ge i m with h3 | h3
        · exact idxL_none e i h3
        · rw [show i = m by omega]; exact e2
      · rw [if_neg e2] at h; omega
    · rw [if_pos e] at h; exact absurd h e
theorem idxL_at {n : Nat} {f : Nat → Int × Int} {k : Nat} (h : idxL n f k = -1) (hk : okC n (f k) = false) : ∀ {m : Nat}, k < m → idxL n f m = k
  | 0, hm => by omega
  | m + 1, hm => by
    unfold idxL
    rcases Nat.lt_or_ge k m with h3 | h3
    · have := idxL_at h hk h3
      rw [if_pos (by rw [this]; omega), this]
    · obtain rfl : k = m := by omega
      rw [if_neg (by simp [h]), if_neg (by simp [hk])]
theorem idxL_next {n : Nat} {f : Nat → Int × Int} {k : Nat} (h : idxL n f k = -1) (hk : okC n (f k) = true) : idxL n f (k + 1) = -1 := by
  unfold idxL
  rw [if_neg (by simp [h]), if_pos hk]
theorem idxL_some {n : Nat} {f : Nat → Int × Int} : ∀ {m : Nat} {k : Int}, idxL n f m = k → k ≠ -1 → ∃ i : Nat, k = i ∧ i < m ∧ okC n (f i) = false ∧ ∀ t, t < i → okC n (f t) = true
  | 0, k, h, hk => absurd h.symm hk
  | m + 1, k, h, hk => by
    unfold idxL at h
    by_cases e : idxL n f m = -1
    · rw [if_neg (by simp [e])] at h
      by_cases e2 : okC n (f m) = true
      · rw [if_pos e2] at h; exact absurd h.symm hk
      · rw [if_neg e2] at h
        exact ⟨m, h.symm, by omega, by simpa using e2, fun t ht => idxL_none e t ht⟩
    · rw [if_pos e] at h
      obtain ⟨i, h1, h2, h3, h4⟩ := idxL_some h hk
      exact ⟨i, h1, by omega, h3, h4⟩

set_option maxRecDepth 100000 in
set_option maxHeartbeats 1000000 in
theorem shapes1_any (n : Nat) (k r : Int) (h1 : 1 ≤ n) (hn : n ≤ 32768) (hk : k = 0 ∨ k = 1 ∨ k = 2 ∨ k = 3 ∨ k = 4) (w : World) :
    Calls Tryz.prog 183 #[plV k n r none 0 0] w fun z w' => z = .returned (.bool (!okC n (k, r))) ∧ Below w.heap.size w w' := by
  have HF := Lib.hid (fun w => fits_any n k r h1 hn hk w)
  have HB0 := Lib.hid ((Below.refl _ w).alloc (Nat.le_refl _) (.cells #[.int .i64 k, .int .i64 n, .int .i64 r, .slice none 0 0] 27))
  generalize okC n (k, r) = ans at HF ⊢
  go_enter Tryz.func183, Tryz.ntmps183
  go_wp2_with fail
  refine (HF.out _).mono ?_
  rintro z w2 ⟨rfl, hb⟩
  have HB2 := Lib.hid (HB0.out.trans (hb.mono HB0.out.size))
  clear hb
  go_wp2
  go_ret
  exact ⟨rfl, HB2.out⟩

set_option maxRecDepth 100000 in
set_option maxHeartbeats 2000000 in
theorem IndexPl_any (n : Nat) (h1 : 1 ≤ n) (hn : n ≤ 32768) (g l c : Nat) (f : Nat → Int × Int) (hf : ∀ i, i < l → (f i).1 = 0 ∨ (f i).1 = 1 ∨ (f i).1 = 2 ∨ (f i).1 = 3 ∨ (f i).1 = 4) (hl : l ≤ 1099511627776) (w : World) (hw : GRow w g l n f) (hg : g < w.heap.size) :
    Calls Tryz.prog 199 #[.slice (some ⟨g, 0, none⟩) l c, .func (.func 183) #[] #[]] w fun z w' => z = .returned (.int .i64 (idxL n f l)) ∧ Below w.heap.size w w' := by
  have HF := Lib.hid (fun k r hk w => shapes1_any n k r h1 hn hk w)
  have HFI := Lib.hid hf
  have HW := Lib.hid hw
  have HG := Lib.hid hg
  clear hf hw hg h1 hn
  go_enter Tryz.func199, Tryz.ntmps199
  go_wp2
  go_loopw [8] (fun vi wr => ∃ k : Nat, k ≤ l ∧ vi = .int .i64 k ∧ Hid (idxL n f k = -1) ∧ Hid (Below w.heap.size w wr)) (fun vi _ => l - (intOf vi).toNat)
  case atStart => exact ⟨0, by omega, rfl, Lib.hid rfl, Lib.hid (Below.refl _ _)⟩
  case round =>
    obtain ⟨k, hk, rfl, hi, hb⟩ := hrel
    by_cases hlt : k < l
    · obtain ⟨c0, c1, c2, c3⟩ := (HW.out.same (hb.out.block g HG.out)).at' hlt
      have hki : (k : Int) < l := by omega
      have HK := Lib.hid (HFI.out k hlt)
      go_wp2_with fail
      refine (HF.out (f k).1 (f k).2 HK.out wr).mono ?_
      rintro z w2 ⟨rfl, hb2⟩
      have HB2 := Lib.hid (hb.out.trans (hb2.mono hb.out.size))
      clear hb2 c0 c1 c2 c3
      cases hp : okC n (f k)
      · have HI : Hid (idxL n f l = k) := Lib.hid (idxL_at hi.out hp hlt)
        have hp' : okC n ((f k).1, (f k).2) = false := hp
        clear hp
        go_wp2
        go_ret
        exact ⟨by rw [HI.out]; rfl, HB2.out⟩
      · have HI : Hid (idxL n f (k + 1) = -1) := Lib.hid (idxL_next hi.out hp)
        have hp' : okC n ((f k).1, (f k).2) = true := hp
        clear hp
        go_wp2
        exact ⟨⟨k + 1, by omega, by go_num, HI, HB2⟩, by simp [intOf]; omega⟩
    · obtain rfl : k = l := by omega
      go_wp2
      go_ret
      exact ⟨by rw [hi.out]; rfl, hb.out⟩
end Go.Proofs.YtmgfaeineklccaaGreat
/- Contract: slices.DeleteFunc of plans without kids. -/
set_option linter.unusedSimpArgs false
set_option linter.unusedVariables false
namespace Go.Proofs.YtmgfaeineklccaaGreat
open Go.RowKit Go.Lib

/-- What the loop keeps: the first i are those that may be among the first j. -/
structure SPl (L : List (Int × Int)) (n i j : Nat) (F : Nat → Int × Int) : Prop where
  len : i = ((L.take j).filter (okC n)).length
  low : ∀ t, t < i → F t = ((L.take j).filter (okC n)).getD t (0, 0)
  high : ∀ t, j ≤ t → t < L.length → F t = L.getD t (0, 0)
theorem SPl.start {L : List (Int × Int)} {n k : Nat} (hk : k < L.length) (h0 : okC n (L.getD k (0, 0)) = false) (h : ∀ t, t < k → okC n (L.getD t (0, 0)) = true) : SPl L n k (k + 1) (fun t => L.getD t (0, 0)) := by
  have e1 : L.take (k + 1) = L.take k ++ [L.getD k (0, 0)] := by
    rw [List.take_add_one, List.getD_eq_getElem?_getD, List.getElem?_eq_getElem hk]; rfl
  have e2 : (L.take k).filter (okC n) = L.take k := List.filter_eq_self.2 fun c hc => by
    obtain ⟨t, ht, rfl⟩ := List.getElem_of_mem hc
    have htk : t < k := by simp at ht; omega
    have := h t htk
    rw [List.getD_eq_getElem?_getD, List.getElem?_eq_getElem (by omega)] at this
    rw [List.getElem_take]
    exact this
  have e3 : (L.take (k + 1)).filter (okC n) = L.take k := by
    rw [e1, List.filter_append, e2, List.filter_cons_of_neg (by rw [h0]; simp)]
    simp
  refine ⟨by rw [e3]; simp; omega, fun t ht => ?_, fun _ _ _ => rfl⟩
  rw [e3, List.getD_eq_getElem?_getD, List.getD_eq_getElem?_getD, List.getElem?_take_of_lt ht]
theorem SPl.lt {L : List (Int × Int)} {n i j : Nat} {F : Nat → Int × Int} (h : SPl L n i j F) : i ≤ j := by
  rw [h.len]
  exact Nat.le_trans (List.length_filter_le _ _) (by simp; omega)
theorem SPl.keep {L : List (Int × Int)} {n i j : Nat} {F : Nat → Int × Int} (h : SPl L n i j F) (hj : j < L.length) (ho : okC n (F j) = true) : SPl L n (i + 1) (j + 1) (fun t => if t = i then F j else F t) := by
  have hF := h.high j (Nat.le_refl _) hj
  have e1 : L.take (j + 1) = L.take j ++ [F j] := by
    rw [List.take_add_one, hF, List.getD_eq_getElem?_getD, List.getElem?_eq_getElem hj]; rfl
  have e3 : (L.take (j + 1)).filter (okC n) = (L.take j).filter (okC n) ++ [F j] := by
    rw [e1, List.filter_append, List.filter_cons_of_pos ho]; rfl
  have hl := h.len
  have hij := h.lt
  refine ⟨by rw [e3, List.length_append, ← hl]; rfl, fun t ht => ?_, fun t h1 h2 => ?_⟩
  · show (if t = i then F j else F t) = _
    rw [e3, List.getD_eq_getElem?_getD]
    by_cases e : t = i
    · rw [if_pos e, List.getElem?_append_right (by omega), e, ← hl, Nat.sub_self]; rfl
    · rw [if_neg e, List.getElem?_append_left (by omega), ← List.getD_eq_getElem?_getD]
      exact h.low t (by omega)
  · show (if t = i then F j else F t) = _
    rw [if_neg (by omega)]
    exact h.high t (by omega) h2
theorem SPl.skip {L : List (Int × Int)} {n i j : Nat} {F : Nat → Int × Int} (h : SPl L n i j F) (hj : j < L.length) (ho : okC n (F j) = false) : SPl L n i (j + 1) F := by
  have hF := h.high j (Nat.le_refl _) hj
  have e1 : L.take (j + 1) = L.take j ++ [F j] := by
    rw [List.take_add_one, hF, List.getD_eq_getElem?_getD, List.getElem?_eq_getElem hj]; rfl
  have e3 : (L.take (j + 1)).filter (okC n) = (L.take j).filter (okC n) := by
    rw [e1, List.filter_append, List.filter_cons_of_neg (by rw [ho]; simp)]; simp
  exact ⟨by rw [e3]; exact h.len, by rw [e3]; exact h.low, fun t h1 h2 => h.high t (by omega) h2⟩

set_option maxRecDepth 100000 in
set_option maxHeartbeats 4000000 in
theorem DeletePl_any (n : Nat) (h1 : 1 ≤ n) (hn : n ≤ 32768) (g l c : Nat) (L : List (Int × Int)) (hL : L.length = l) (hf : ∀ x ∈ L, x.1 = 0 ∨ x.1 = 1 ∨ x.1 = 2 ∨ x.1 = 3 ∨ x.1 = 4) (hl : l ≤ 1099511627776) (hlc : l ≤ c) (hc : c ≤ 9223372036854775807) (w : World) (hw : GRow w g l n (fun i => L.getD i (0, 0))) (hW : Wr w g (c * 4)) :
    Calls Tryz.prog 182 #[.slice (some ⟨g, 0, none⟩) l c, .func (.func 183) #[] #[]] w fun z w' =>
      z = .returned (.slice (some ⟨g, 0, none⟩) (L.filter (okC n)).length c) ∧ GRow w' g (L.filter (okC n)).length n (fun i => (L.filter (okC n)).getD i (0, 0)) ∧ OnlyB g w w' := by
  have hf' : ∀ i, i < l → (L.getD i (0, 0)).1 = 0 ∨ (L.getD i (0, 0)).1 = 1 ∨ (L.getD i (0, 0)).1 = 2 ∨ (L.getD i (0, 0)).1 = 3 ∨ (L.getD i (0, 0)).1 = 4 := fun i hi => by
    rw [List.getD_eq_getElem?_getD, List.getElem?_eq_getElem (by omega)]
    exact hf _ (List.getElem_mem _)
  have HI := Lib.hid (IndexPl_any n h1 hn g l c (fun i => L.getD i (0, 0)) hf' hl w hw hW.lt)
  have HF := Lib.hid (fun k r hk w => shapes1_any n k r h1 hn hk w)
  have HFI := Lib.hid hf'
  have HW := Lib.hid hW
  have HG := Lib.hid hw
  have HLL := Lib.hid hL
  have HGL := Lib.hid hW.lt
  clear hf hw hW h1 hn hf'
  go_enter Tryz.func182, Tryz.ntmps182
  go_wp2_with fail
  refine HI.out.mono ?_
  rintro z w1 ⟨rfl, hb1⟩
  have HG1 := Lib.hid (HG.out.same (hb1.block g HGL.out))
  have HW1 := Lib.hid (HW.out.same (hb1.block g HGL.out))
  have HO1 := Lib.hid (OnlyB.of_below (b := g) hb1)
  clear hb1
  by_cases hx : idxL n (fun i => L.getD i (0, 0)) l = -1
  · have hall : L.filter (okC n) = L := List.filter_eq_self.2 fun x hx' => by
      obtain ⟨t, ht, rfl⟩ := List.getElem_of_mem hx'
      have := idxL_none hx t (by omega)
      rw [List.getD_eq_getElem?_getD, List.getElem?_eq_getElem ht] at this
      exact this
    have HALL := Lib.hid hall
    rw [hx]
    clear hx hall
    go_wp2
    go_ret
    exact ⟨by rw [HALL.out, HLL.out]; rfl, by rw [HALL.out, HLL.out]; exact HG1.out, HO1.out⟩
  · obtain ⟨k, hk, hkl, hk0, hka⟩ := idxL_some rfl hx
    rw [hk]
    have HS := Lib.hid (SPl.start (by omega) hk0 hka)
    have hki : ((k : Int) == -1) = false := by rw [beq_eq_false_iff_ne]; omega
    clear hx hk hk0 hka
    go_wp2_with fail
    go_loopw [5, 6] (fun v5 v6 wr => ∃ (i j : Nat) (F : Nat → Int × Int), i < j ∧ j ≤ l ∧ v5 = .int .i64 i ∧ v6 = .int .i64 j ∧ Hid (SPl L n i j F) ∧ Hid (GRow wr g l n F) ∧ Hid (Wr wr g (c * 4)) ∧ Hid (OnlyB g w wr)) (fun _ v6 _ => l - (intOf v6).toNat)
    case atStart => exact ⟨k, k + 1, _, by omega, by omega, rfl, by go_num, HS, HG1, HW1, HO1⟩
    case round =>
      obtain ⟨i, j, F, hij, hjl, rfl, rfl, hs, hg, hw, ho⟩ := hrel
      by_cases hlt : j < l
      · have hlti : (j : Int) < (l : Int) := by omega
        obtain ⟨c0, c1, c2, c3⟩ := hg.out.at' hlt
        have HK : Hid ((F j).1 = 0 ∨ (F j).1 = 1 ∨ (F j).1 = 2 ∨ (F j).1 = 3 ∨ (F j).1 = 4) := Lib.hid (by
          rw [hs.out.high j (Nat.le_refl _) (by rw [HLL.out]; exact hlt)]
          exact HFI.out j hlt)
        have HBX := Lib.hid ((Below.refl _ wr).alloc (Nat.le_refl _) (.cells #[.int .i64 (F j).1, .int .i64 n, .int .i64 (F j).2, .slice none 0 0] 27))
        have HPX := Lib.hid (PlBox.new wr (F j).1 n (F j).2 none 0 0 27)
        obtain ⟨W, hW⟩ : ∃ W, W = wr.alloc (.cells #[.int .i64 (F j).1, .int .i64 n, .int .i64 (F j).2, .slice none 0 0] 27) := ⟨_, rfl⟩
        rw [← hW] at HBX HPX
        have hp0 := HPX.out
        obtain ⟨p0, p1, p2, p3⟩ := hp0
        have HGW := Lib.hid (hw.out.lt)
        go_upto_region 8 with fail
        rw [← hW]
        clear hW c0 c1 c2 c3
        go_wp2_with fail
        refine (HF.out (F j).1 (F j).2 HK.out _).mono ?_
        rintro z w2 ⟨rfl, hb2⟩
        have HB2 := Lib.hid (HBX.out.trans (hb2.mono HBX.out.size))
        have HG2 := Lib.hid (hg.out.same (HB2.out.block g HGW.out))
        have HW2 := Lib.hid (hw.out.same (HB2.out.block g HGW.out))
        have HO2 := Lib.hid (ho.out.trans (OnlyB.of_below HB2.out))
        obtain ⟨p0', p1', p2', p3'⟩ := HPX.out.below hb2
        clear hb2 p0 p1 p2 p3
        cases hp : okC n (F j)
        · have hp' : okC n ((F j).1, (F j).2) = false := hp
          have HSN := Lib.hid (hs.out.skip (by rw [HLL.out]; exact hlt) hp)
          clear hp
          go_wp2
          exact ⟨⟨i, j + 1, F, by omega, by omega, rfl, by go_num, HSN, HG2, HW2, HO2⟩, by simp [intOf]; omega⟩
        · have hp' : okC n ((F j).1, (F j).2) = true := hp
          have HSN := Lib.hid (hs.out.keep (by rw [HLL.out]; exact hlt) hp)
          have HG3 := Lib.hid (HG2.out.put (i := i) (by omega) (F j))
          have HW3 := Lib.hid (HW2.out.put i n (F j))
          have HO3 := Lib.hid (HO2.out.trans (only_putPl w2 g i n (F j)))
          obtain ⟨d0, d1, d2, d3⟩ := HG2.out.at' (i := i) (by omega)
          have f0 := HW2.out.free (i * 4)
          have f1 := HW2.out.free (i * 4 + 1)
          have f2 := HW2.out.free (i * 4 + 2)
          have f3 := HW2.out.free (i * 4 + 3)
          have hil : (i : Int) < (l : Int) := by omega
          clear hp
          go_wp2
          exact ⟨⟨i + 1, j + 1, _, by omega, by omega, by go_num, by go_num, HSN, HG3, HW3, HO3⟩, by simp [intOf]; omega⟩
      · obtain rfl : j = l := by omega
        have e1 : L.take j = L := List.take_of_length_le (by rw [HLL.out]; exact Nat.le_refl _)
        have HSL : Hid (i = (L.filter (okC n)).length ∧ ∀ t, t < i → F t = (L.filter (okC n)).getD t (0, 0)) := Lib.hid (by
          have h1 := hs.out.len
          have h2 := hs.out.low
          rw [e1] at h1 h2
          exact ⟨h1, h2⟩)
        have hic : (i : Int) ≤ (j : Int) := by omega
        have hjc : (j : Int) ≤ (c : Int) := by omega
        have hil0 : (0 : Int) ≤ (i : Int) := by omega
        have hli0 : (i : Int) ≤ (c : Int) := by omega
        obtain ⟨W2, hclr, ho2, hg2⟩ := clear_keeps (n := j - i) (c := c - i) hw.out (hg.out.mono (m := i) (by omega)) rfl (by omega) (by omega)
        have HO4 := Lib.hid (ho.out.trans ho2)
        have HG4 := Lib.hid (hg2.congr HSL.out.2)
        have HE : Hid (i = (L.filter (okC n)).length) := Lib.hid HSL.out.1
        clear e1 ho2 hg2
        go_wp2
        go_ret
        exact ⟨by rw [← HE.out]; rfl, by rw [← HE.out]; exact HG4.out, HO4.out⟩
end Go.Proofs.YtmgfaeineklccaaGreat
/- Contract: search.shapes. -/
set_option linter.unusedSimpArgs false
set_option linter.unusedVariables false
namespace Go.Proofs.YtmgfaeineklccaaGreat
open Go.RowKit Go.Lib

theorem owns_growP {base n : Nat} {w : World} {g cap : Nat} {cs : List (Int × Int)} (h : w.ownsRow base 27 4 (.slice (some ⟨g, 0, none⟩) cs.length cap) cs.length (candV n cs)) :
    GRow w g cs.length n (fun i => cs.getD i (0, 0)) ∧ Wr w g (cap * 4) ∧ cs.length ≤ cap ∧ cap ≤ maxLen := by
  refine ⟨⟨fun i hi j hj => ?_⟩, ?_⟩
  · rw [World.ownsRow.cellAt h (i * 4 + j) (by omega), List.getD_eq_getElem?_getD, List.getElem?_eq_getElem hi]
    exact candV_at n cs i _ (List.getElem?_eq_getElem hi) j hj
  · rcases h.2 with ⟨h0, _⟩ | ⟨g', cap', cur, hv, hb, hg, h1, h2, h3, h4⟩
    · cases h0
    · cases hv
      exact ⟨⟨cur, hg, h3⟩, h1, h2⟩
theorem owns_formP {base n : Nat} {w : World} {v : Value} {cs : List (Int × Int)} (h : w.ownsRow base 27 4 v cs.length (candV n cs)) (h0 : 0 < cs.length) : ∃ g cap, v = .slice (some ⟨g, 0, none⟩) cs.length cap ∧ base ≤ g ∧ g < w.heap.size := by
  rcases h.2 with ⟨_, h1⟩ | ⟨g', cap', cur, hv, hb, hg, h1, h2, h3, h4⟩
  · omega
  · exact ⟨g', cap', hv, hb, (Array.getElem?_eq_some_iff.1 hg).1⟩
theorem owns_first (w : World) (base n : Nat) (hb : base ≤ w.heap.size) : (w.alloc (.cells #[.int .i64 0, .int .i64 n, .int .i64 0, .slice none 0 0] 27)).ownsRow base 27 4 (.slice (some ⟨w.heap.size, 0, none⟩) 1 1) 1 (candV n [(0, 0)]) := by
  exact ⟨rfl, .inr ⟨w.heap.size, 1, #[.int .i64 0, .int .i64 n, .int .i64 0, .slice none 0 0], rfl, hb, by show (w.heap.push _)[w.heap.size]? = _; rw [Array.getElem?_push_size], Nat.le_refl _, by decide, rfl, rfl⟩⟩
theorem grown_below {base : Nat} {w w6 : World} {o : Obj} {own : Option Nat} (hG : (w.alloc o).grownBy w6 own) (hown : ∀ k, own = some k → base ≤ k) (hb : base ≤ w.heap.size) : Below base w w6 :=
  ⟨hG.os, hG.tape, hG.output, Nat.le_trans (by simp) hG.size, fun k hk => (hG.block k (by simp; omega) (fun e => by have := hown k e.symm; omega)).trans (((Below.refl _ w).alloc (Nat.le_refl _) o).block k (by omega))⟩
theorem cells_8 (w : World) (a b c d a' b' c' d' : Value) (t : TypeId) (n : Nat) (hn : n = w.heap.size) (j : Nat) (u : Value) (h : [a, b, c, d, a', b', c', d'][j]? = some u) : (w.alloc (.cells #[a, b, c, d, a', b', c', d'] t)).cell? ⟨n, j, none⟩ = some u := by
  subst hn
  match j, h with
  | 0, h => injection h with h; subst h; go_simp
  | 1, h => injection h with h; subst h; go_simp
  | 2, h => injection h with h; subst h; go_simp
  | 3, h => injection h with h; subst h; go_simp
  | 4, h => injection h with h; subst h; go_simp
  | 5, h => injection h with h; subst h; go_simp
  | 6, h => injection h with h; subst h; go_simp
  | 7, h => injection h with h; subst h; go_simp
  | _ + 8, h => simp at h
theorem one_8 (k n r k' n' r' : Int) (u : Value) (h : u ∈ [Value.int .i64 k, .int .i64 n, .int .i64 r, .slice none 0 0, .int .i64 k', .int .i64 n', .int .i64 r', .slice none 0 0]) : u.oneCell' = true := by
  simp only [List.mem_cons, List.not_mem_nil, or_false] at h
  rcases h with rfl | rfl | rfl | rfl | rfl | rfl | rfl | rfl <;> rfl

/-- The box of a key. -/
def KBox (w : World) (b n : Nat) (blue : Bool) : Prop := w.cell? ⟨b, 0, none⟩ = some (.int .i64 n) ∧ w.cell? ⟨b, 1, none⟩ = some (.bool blue)
theorem KBox.same {w w' : World} {b n : Nat} {blue : Bool} (h : KBox w b n blue) (e : w'.heap[b]? = w.heap[b]?) : KBox w' b n blue := ⟨cell_same h.1 e, cell_same h.2 e⟩
theorem radU_one (r : Nat) : radU 1 r = [] := by
  induction r with
  | zero => rfl
  | succ r ih =>
    unfold radU
    rw [ih, if_neg (by rintro ⟨h1, h2⟩; have : 1 % r = 1 := Nat.mod_eq_of_lt (by omega); omega)]
    rfl
theorem allU_kind {n : Nat} {blue : Bool} {c : Int × Int} (h : c ∈ allU n blue) : c.1 = 0 ∨ c.1 = 1 ∨ c.1 = 2 ∨ c.1 = 3 ∨ c.1 = 4 := by
  unfold allU at h
  simp only [List.mem_append] at h
  rcases h with ((h | h) | h) | h
  · simp only [List.mem_cons, List.not_mem_nil, or_false] at h; subst h; exact .inl rfl
  · obtain ⟨r, rfl, -⟩ := radU_mem h; exact .inr (.inl rfl)
  · simp only [List.mem_cons, List.not_mem_nil, or_false] at h
    rcases h with rfl | rfl
    · exact .inr (.inr (.inl rfl))
    · exact .inr (.inr (.inr (.inl rfl)))
  · split at h
    · cases h
    · simp only [List.mem_cons, List.not_mem_nil, or_false] at h; subst h; exact .inr (.inr (.inr (.inr rfl)))
theorem allU_len (n : Nat) (blue : Bool) : (allU n blue).length ≤ n + 4 := by
  have := radU_len n n
  unfold allU
  cases blue <;> simp <;> omega

set_option maxRecDepth 100000 in
set_option maxHeartbeats 4000000 in
theorem shapes_any (n : Nat) (blue : Bool) (h1 : 1 ≤ n) (hn : n ≤ 32768) (w : World) :
    Calls Tryz.prog 160 #[.agg #[.int .i64 n, .bool blue]] w fun z w' => ∃ g cap, z = .returned (.slice (some ⟨g, 0, none⟩) (candL n blue).length cap) ∧ GRow w' g (candL n blue).length n (fun i => (candL n blue).getD i (0, 0)) ∧ w.heap.size ≤ g ∧ g < w'.heap.size ∧ Below w.heap.size w w' := by
  have HN : Hid (1 ≤ n ∧ n ≤ 32768) := Lib.hid ⟨h1, hn⟩
  have bs := bs_plan
  have bs2 := bs_plans2
  obtain ⟨W, hW⟩ : ∃ W, W = w.alloc (.cells #[.int .i64 n, .bool blue] 207) := ⟨_, rfl⟩
  have hb0 : Below w.heap.size w W := by rw [hW]; exact (Below.refl _ w).alloc (Nat.le_refl _) _
  have hs0 : W.heap.size = w.heap.size + 1 := by rw [hW]; simp
  have hk0 : KBox W w.heap.size n blue := by rw [hW]; exact ⟨by go_simp, by go_simp⟩
  have hO0 := owns_first W W.heap.size n (Nat.le_refl _)
  obtain ⟨W1, hW1⟩ : ∃ W1, W1 = W.alloc (.cells #[.int .i64 0, .int .i64 n, .int .i64 0, .slice none 0 0] 27) := ⟨_, rfl⟩
  have hb1 : Below W.heap.size W W1 := by rw [hW1]; exact (Below.refl _ W).alloc (Nat.le_refl _) _
  have hs1 : W1.heap.size = W.heap.size + 1 := by rw [hW1]; simp
  rw [← hW1] at hO0
  have HW := Lib.hid hW
  have HW1 := Lib.hid hW1
  have HB1 := Lib.hid (hb0.trans (hb1.mono (by omega)))
  have HK0 := Lib.hid hk0
  have HK1 := Lib.hid (hk0.same (hb1.block _ (by omega)))
  have HS0 := Lib.hid hs0
  have HO := Lib.hid hO0
  clear hW hW1 hb0 hb1 hk0 hO0 hs0
  go_enter Tryz.func160, Tryz.ntmps160
  go_upto_region 1 with fail
  rw [← HW.out]
  have hkc := HK0.out.1
  go_wp2_with fail
  rw [← HW1.out]
  clear hkc
  have hcs0 : ([((0 : Int), (0 : Int))] : List (Int × Int)) = [(0, 0)] ++ radU n 2 := by
    have : radU n 2 = [] := by
      show (([] ++ (if 2 ≤ 0 ∧ n % 0 = 0 then _ else [])) ++ (if 2 ≤ 1 ∧ n % 1 = 0 then _ else [])) = []
      rw [if_neg (by omega), if_neg (by omega)]
      rfl
    rw [this]; rfl
  go_loopw [3, 4] (fun v3 v4 wr => ∃ (r : Nat) (cs : List (Int × Int)), v4 = .int .i64 r ∧ 2 ≤ r ∧ r ≤ n + 1 ∧ Hid (r ≤ n ∨ r = 2) ∧ Hid (cs = [(0, 0)] ++ radU n r) ∧ Hid (wr.ownsRow W.heap.size 27 4 v3 cs.length (candV n cs)) ∧ Hid (KBox wr w.heap.size n blue) ∧ Hid (Below w.heap.size w wr ∧ W.heap.size ≤ wr.heap.size)) (fun _ v4 _ => n + 3 - (intOf v4).toNat)
  case atStart => exact ⟨2, [(0, 0)], rfl, by omega, by omega, Lib.hid (.inr rfl), Lib.hid hcs0, HO, HK1, Lib.hid ⟨HB1.out, by rw [hs1]; omega⟩⟩
  case round =>
    clear HO HK1 hcs0 HB1 HK0 HW1 hs1
    obtain ⟨r, cs, rfl, hr2, hrm, hrx, hcs, hO, hK, hB⟩ := hrel
    have hclen : 0 < cs.length ∧ cs.length ≤ 40000 := by
      rw [hcs.out]
      have := radU_len n r
      simp
      omega
    obtain ⟨g, cap, rfl, hgb, hgl⟩ := owns_formP hO.out hclen.1
    obtain ⟨k0, k1⟩ := hK.out
    by_cases hlt : r < n
    · have hlti : (r : Int) < (n : Int) := by omega
      have ht : (n : Int).tmod r = ((n % r : Nat) : Int) := by rw [Int.tmod_eq_emod_of_nonneg (by omega)]; omega
      have hr0 : ¬ (r : Int) = 0 := by omega
      have hr0b : ((r : Int) == 0) = false := by rw [beq_eq_false_iff_ne]; omega
      have hnx : radU n (r + 1) = radU n r ++ (if 2 ≤ r ∧ n % r = 0 then [((1 : Int), (r : Int))] else []) := rfl
      obtain ⟨x, hx⟩ : ∃ x, n % r = x := ⟨_, rfl⟩
      have hxl : x < r := by rw [← hx]; exact Nat.mod_lt _ (by omega)
      rw [hx] at ht hnx
      have HMN : Hid (r + 1 ≤ n ∨ r + 1 = 2) := Lib.hid (.inl (by omega))
      clear hx hrm
      by_cases h0 : x = 0
      · subst h0
        rw [if_pos ⟨hr2, rfl⟩] at hnx
        have HNX : Hid (cs ++ [((1 : Int), (r : Int))] = [(0, 0)] ++ radU n (r + 1)) := Lib.hid (by rw [hnx, hcs.out, List.append_assoc])
        have hle0 : cs.length + 1 ≤ 1099511627776 := by omega
        have hbw := hB.out.2
        clear hnx
        go_wp2_with (at_builtin; go_loud (refine wpList_appM rfl _ _ 25 27 rfl 4 48 (.agg #[.int .i64 0, .int .i64 0, .int .i64 0, .slice none 0 0]) Tryz.underlying25 info_plan rfl (by omega) (by omega) W.heap.size _ cs.length 1 (by omega) (candV n cs) rfl (World.ownsRow.alloc hO.out _) _ _ [Value.int .i64 1, .int .i64 n, .int .i64 r, .slice none 0 0] rfl rfl (cells_four _ _ _ _ _ _ _ rfl) (one_four _ _ _ _ _ _) hle0 (by simp; omega) ?_); intro g2 cap2 w5 hO2 hG2 hL2)
        have hgb2 := grown_below hG2.out (fun k e => (World.ownsRow.lt hO.out k e).1) hbw
        have HON : Hid (w5.ownsRow W.heap.size 27 4 (.slice (some ⟨g2, 0, none⟩) (cs ++ [((1 : Int), (r : Int))]).length cap2) (cs ++ [((1 : Int), (r : Int))]).length (candV n (cs ++ [((1 : Int), (r : Int))]))) := Lib.hid (by
          rw [candV_app, List.length_append]
          exact hO2.out)
        have HKN := Lib.hid (hK.out.same (hgb2.block _ (by have := HS0.out; omega)))
        have HBN : Hid (Below w.heap.size w w5 ∧ W.heap.size ≤ w5.heap.size) := Lib.hid ⟨hB.out.1.trans (hgb2.mono (by have := HS0.out; omega)), Nat.le_trans hbw hgb2.size⟩
        clear hO2 hG2 hL2 hgb2
        have HNX2 := HNX
        clear bs bs2 hle0 hbw k0 k1 HNX2 ht hr0 hr0b hxl hclen hgb hgl
        exact ⟨⟨r + 1, _, by go_num, by omega, by omega, HMN, HNX, by rw [List.length_append] at HON ⊢; exact HON, HKN, HBN⟩, by simp [intOf]; omega⟩
      · have h0' : ¬ (x : Int) = 0 := by omega
        have h0b : ((x : Int) == 0) = false := by rw [beq_eq_false_iff_ne]; omega
        rw [if_neg (by rintro ⟨_, h⟩; exact h0 h), List.append_nil] at hnx
        have HNX : Hid (cs = [(0, 0)] ++ radU n (r + 1)) := Lib.hid (by rw [hnx]; exact hcs.out)
        clear hnx h0
        go_wp2_with fail
        exact ⟨⟨r + 1, cs, by go_num, by omega, by omega, HMN, HNX, hO, hK, hB⟩, by simp [intOf]; omega⟩
    · have hend : radU n r = radU n n := by
        by_cases h2 : 2 ≤ n
        · rw [show r = n by have := hrx.out; omega]
        · have e1 : n = 1 := by omega
          rw [e1, radU_one, radU_one]
      have hlti : ¬ (r : Int) < (n : Int) := by omega
      have hle0 : cs.length + 2 ≤ 1099511627776 := by omega
      have hbw := hB.out.2
      have HCS : Hid (cs = [(0, 0)] ++ radU n n) := Lib.hid (by rw [← hend]; exact hcs.out)
      clear hend hcs hrm hrx
      go_upto_region 8 with (at_builtin; go_loud (refine wpList_appM rfl _ _ 25 27 rfl 4 48 (.agg #[.int .i64 0, .int .i64 0, .int .i64 0, .slice none 0 0]) Tryz.underlying25 info_plan rfl (by omega) (by omega) W.heap.size _ cs.length 2 (by omega) (candV n cs) rfl (World.ownsRow.alloc hO.out _) _ _ [Value.int .i64 2, .int .i64 n, .int .i64 0, .slice none 0 0, .int .i64 3, .int .i64 n, .int .i64 0, .slice none 0 0] rfl rfl (cells_8 _ _ _ _ _ _ _ _ _ _ _ rfl) (one_8 _ _ _ _ _ _) hle0 (by simp; omega) ?_); intro g2 cap2 w5 hO2 hG2 hL2)
      have hgb2 := grown_below hG2.out (fun k e => (World.ownsRow.lt hO.out k e).1) hbw
      obtain ⟨cs2, hcs2⟩ : ∃ cs2, cs2 = cs ++ [((2 : Int), (0 : Int)), ((3 : Int), (0 : Int))] := ⟨_, rfl⟩
      have hl2 : cs2.length = cs.length + 2 := by rw [hcs2]; simp
      have HON : Hid (w5.ownsRow W.heap.size 27 4 (.slice (some ⟨g2, 0, none⟩) cs2.length cap2) cs2.length (candV n cs2)) := Lib.hid (by
        rw [hcs2, candV_app, List.length_append]
        exact hO2.out)
      have hKN := hK.out.same (hgb2.block _ (by have := HS0.out; omega))
      have HKN := Lib.hid hKN
      have HBN : Hid (Below w.heap.size w w5 ∧ W.heap.size ≤ w5.heap.size) := Lib.hid ⟨hB.out.1.trans (hgb2.mono (by have := HS0.out; omega)), Nat.le_trans hbw hgb2.size⟩
      have HCS2 : Hid (cs2 = [(0, 0)] ++ radU n n ++ [((2 : Int), (0 : Int)), ((3 : Int), (0 : Int))]) := Lib.hid (by rw [hcs2, HCS.out])
      have e2 : ((cs.length : Nat) : Int) + 2 = ((cs2.length : Nat) : Int) := by omega
      rw [← hl2]
      clear hO2 hG2 hL2 hgb2 hcs2 k0 k1 HCS hO hK hB hclen hle0 hl2 e2
      have hc2l : 0 < cs2.length ∧ cs2.length ≤ 40002 := by
        rw [HCS2.out]
        have := radU_len n n
        simp
        omega
      obtain ⟨k0, k1⟩ := hKN
      have HFIN : Hid (∀ (g3 cap3 : Nat) (w6 : World) (cs3 : List (Int × Int)), cs3 = allU n blue → w6.ownsRow W.heap.size 27 4 (.slice (some ⟨g3, 0, none⟩) cs3.length cap3) cs3.length (candV n cs3) → Below w.heap.size w w6 →
          Calls Tryz.prog 182 #[.slice (some ⟨g3, 0, none⟩) cs3.length cap3, .func (.func 183) #[] #[]] w6 fun z w' => z = .returned (.slice (some ⟨g3, 0, none⟩) (candL n blue).length cap3) ∧ GRow w' g3 (candL n blue).length n (fun i => (candL n blue).getD i (0, 0)) ∧ w.heap.size ≤ g3 ∧ g3 < w'.heap.size ∧ Below w.heap.size w w') := Lib.hid (fun g3 cap3 w6 cs3 he ho hb => by
        obtain ⟨a1, a2, a3, a4⟩ := owns_growP ho
        have hgl := World.ownsRow.lt ho g3 rfl
        have hW0 := HS0.out
        have := allU_len n blue
        refine (DeletePl_any n h1 hn g3 cs3.length cap3 cs3 rfl (fun x hx => allU_kind (blue := blue) (by rw [← he]; exact hx)) (by rw [he]; omega) a3 (by unfold maxLen at a4; omega) w6 a1 a2).mono ?_
        rintro z w' ⟨rfl, hg, hob⟩
        rw [he, cand_all] at hg ⊢
        exact ⟨rfl, hg, by omega, Nat.lt_of_lt_of_le hgl.2 hob.size, hb.trans ⟨hob.os, hob.tape, hob.output, hob.size, fun k hk => hob.block k (by have := hb.size; omega) (by omega)⟩⟩)
      cases blue
      · have hle0 : cs2.length + 1 ≤ 1099511627776 := by omega
        have hbw2 := HBN.out.2
        go_upto_region 10 with (at_builtin; go_loud (refine wpList_appM rfl _ _ 25 27 rfl 4 48 (.agg #[.int .i64 0, .int .i64 0, .int .i64 0, .slice none 0 0]) Tryz.underlying25 info_plan rfl (by omega) (by omega) W.heap.size _ cs2.length 1 (by omega) (candV n cs2) rfl (World.ownsRow.alloc HON.out _) _ _ [Value.int .i64 4, .int .i64 n, .int .i64 0, .slice none 0 0] rfl rfl (cells_four _ _ _ _ _ _ _ rfl) (one_four _ _ _ _ _ _) hle0 (by simp; omega) ?_); intro g3 cap3 w6 hO3 hG3 hL3)
        have hgb3 := grown_below hG3.out (fun k e => (World.ownsRow.lt HON.out k e).1) hbw2
        have hcl := HFIN.out g3 cap3 w6 (cs2 ++ [((4 : Int), (0 : Int))]) (by rw [HCS2.out]; rfl) (by rw [candV_app, List.length_append]; exact hO3.out) (HBN.out.1.trans (hgb3.mono (by have := HS0.out; omega)))
        rw [List.length_append] at hcl
        have HCL := Lib.hid hcl
        clear hO3 hG3 hL3 hgb3 hcl k0 k1
        go_wp2_with fail
        refine HCL.out.mono ?_
        rintro z w7 ⟨rfl, p1, p2, p3, p4⟩
        have HPP := Lib.hid (And.intro p1 (And.intro p2 (And.intro p3 p4)))
        clear p1 p2 p3 p4
        go_wp2
        go_ret
        exact ⟨_, _, rfl, HPP.out⟩
      · have hcl := HFIN.out g2 cap2 w5 cs2 (by rw [HCS2.out]; unfold allU; rw [if_pos rfl, List.append_nil]) HON.out HBN.out.1
        have HCL := Lib.hid hcl
        clear hcl
        go_wp2_with fail
        refine HCL.out.mono ?_
        rintro z w7 ⟨rfl, p1, p2, p3, p4⟩
        have HPP := Lib.hid (And.intro p1 (And.intro p2 (And.intro p3 p4)))
        clear p1 p2 p3 p4
        go_wp2
        go_ret
        exact ⟨_, _, rfl, HPP.out⟩
end Go.Proofs.YtmgfaeineklccaaGreat
