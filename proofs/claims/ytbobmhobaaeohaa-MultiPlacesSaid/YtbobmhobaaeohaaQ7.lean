/- exec's ring keeps its roots in a map: what is held in memory, and that it is in good order. -/
import Derived.Test.YtbobmhobaaeohaaQ6
import Derived.Test.YtbobmhobaaeohaaTV
import Derived.MapKept
set_option linter.unusedSimpArgs false
set_option linter.unusedVariables false
namespace Go.Proofs.Ytbobmhobaaeohaa
open Go.RowKit Go.Lib

/-- An entry of a map of tables. -/
abbrev entI (e : Int × Value × Nat) : MapEntry := { key := .int .i64 e.1, val := e.2.1, born := e.2.2 }
def fi (k : Int) : List (Int × Value × Nat) → Nat → Option (Nat × Value)
  | [], _ => none
  | e :: es, i => if k = e.1 then some (i, e.2.1) else fi k es (i + 1)
theorem findNow_int (k : Int) : ∀ (es : List (Int × Value × Nat)) (i : Nat), Instr.findNow (.int .i64) (.int .i64 k) (es.map entI) i = some (fi k es i)
  | [], i => rfl
  | e :: es, i => by
    simp only [List.map_cons, Instr.findNow, Instr.sameNow, fi]
    by_cases h : k = e.1
    · subst h; simp
    · have : (k == e.1) = false := by simp [h]
      rw [if_neg h, this]
      exact findNow_int k es (i + 1)
theorem fi_mem (k : Int) : ∀ (es : List (Int × Value × Nat)) (i j : Nat) (v : Value), fi k es i = some (j, v) → ∃ c, (k, v, c) ∈ es
  | [], _, _, _, h => by cases h
  | e :: es, i, j, v, h => by
    unfold fi at h
    by_cases hk : k = e.1
    · rw [if_pos hk] at h
      cases h
      exact ⟨e.2.2, by rw [hk]; exact List.mem_cons_self⟩
    · rw [if_neg hk] at h
      obtain ⟨c, hc⟩ := fi_mem k es _ _ _ h
      exact ⟨c, List.mem_cons_of_mem _ hc⟩
theorem run_checkI' (em : Bool) (n : Nat) (k : Int) (w : World) : (Instr.checkKey em (n + 1) 2 (.int .i64 k)).run Try.prog w = .ok () w := by
  simp only [Instr.checkKey, Sem.run_bind, run_underlying Try.underlying2, Result.andThen_ok]
  rfl
theorem run_checkI (em : Bool) (k : Int) (w : World) : (Instr.checkKey em 10000 2 (.int .i64 k)).run Try.prog w = .ok () w := run_checkI' em 9999 k w
theorem info_Cs : (Try.prog.info? 36).map (fun i => (i.zero, i.size, i.bytes)) = some (some (.slice none 0 0), 1, 24) := by kernel_rfl
theorem run_zeroCs (w : World) : (zeroValue 36).run Try.prog w = .ok (.slice none 0 0) w := by
  obtain ⟨i0, hi, hz0, -, -⟩ := info_parts info_Cs
  simp [zeroValue, typeInfo, hi, hz0]
theorem run_lookI (r clock : Nat) (k : Int) (es : List (Int × Value × Nat)) (w : World) (h : w.heap[r]? = some (.map (es.map entI).toArray clock)) :
    (Instr.lookup 59 (.map (some r)) (.int .i64 k) true).run Try.prog w = .ok (.tuple #[(match fi k es 0 with | some (_, v) => v | none => .slice none 0 0), .bool (fi k es 0).isSome]) w := by
  unfold Instr.lookup
  have hf := fun w => MapKept.run_findKey (P := Try.prog) (w := w) Try.underlying2 (findNow_int k es 0)
  simp only [Sem.run_bind, run_underlying Try.underlying59, Result.andThen_ok, MapKept.run_getObj_map h, Sem.run_pure, run_checkI, hf]
  cases hk : fi k es 0 with
  | none => simp [run_zeroCs]
  | some q => simp
/-- The world with an entry more. -/
def putE (w : World) (r : Nat) (es : List (Int × Value × Nat)) (k : Int) (v : Value) (clock : Nat) : World := { w with heap := w.heap.setIfInBounds r (.map ((es ++ [(k, v, clock)]).map entI).toArray (clock + 1)) }
theorem run_storeI (r clock : Nat) (k : Int) (v : Value) (es : List (Int × Value × Nat)) (w : World) (h : w.heap[r]? = some (.map (es.map entI).toArray clock)) (hk : fi k es 0 = none) :
    (Instr.mapUpdate 59 (.map (some r)) (.int .i64 k) v).run Try.prog w = .ok () (putE w r es k v clock) := by
  unfold Instr.mapUpdate
  have hf := fun w => MapKept.run_findKey (P := Try.prog) (w := w) Try.underlying2 (findNow_int k es 0)
  simp only [Sem.run_bind, run_underlying Try.underlying59, Result.andThen_ok, MapKept.run_getObj_map h, run_checkI, hf, hk, MapKept.run_setObj_map _ h]
  simp [putE]

/-- A root, as it is kept. -/
def croot (k n : Int) : Cx := (nz (T.tuC (k % n) n), nz (T.tuS (k % n) n))
/-- A table. -/
def Tabl (r : Nat) (w : World) (e : Int × Value × Nat) : Prop := ∃ b N : Nat, e.2.1 = .slice (some ⟨b, 0, none⟩) N N ∧ e.1 = (N : Int) ∧ 1 ≤ N ∧ b ≠ r ∧ RowC w b N (fun i => croot i N)
theorem Tabl.lt {r : Nat} {w : World} {e : Int × Value × Nat} {b N : Nat} (h : Tabl r w e) (e1 : e.2.1 = .slice (some ⟨b, 0, none⟩) N N) : b < w.heap.size ∧ b ≠ r := by
  obtain ⟨b', N', h1, h2, h3, h4, h5⟩ := h
  rw [h1] at e1
  cases e1
  obtain ⟨u, hc, -⟩ := h5 0 (by omega)
  exact ⟨World.block_lt_of_cell? _ _ hc, h4⟩
theorem Tabl.of {r : Nat} {w w' : World} {e : Int × Value × Nat} (h : Tabl r w e) (H : ∀ b, b < w.heap.size → b ≠ r → (∃ N, e.2.1 = .slice (some ⟨b, 0, none⟩) N N) → w'.heap[b]? = w.heap[b]?) : Tabl r w' e := by
  obtain ⟨b, N, h1, h2, h3, h4, h5⟩ := id h
  have hl := (h.lt h1).1
  have hb := H b hl h4 ⟨N, h1⟩
  exact ⟨b, N, h1, h2, h3, h4, h5.of fun i v hc => ⟨by rw [World.cell?_of_block (w := w) hb]; exact hc, World.frozen?_of_block (w := w) hb⟩⟩
/-- The blocks of the tables that the map at r holds. -/
def InTab (r : Nat) (w : World) (b : Nat) : Prop := ∃ (arr : Array MapEntry) (clock : Nat), w.heap[r]? = some (.map arr clock) ∧ ∃ m ∈ arr.toList, ∃ N, m.val = .slice (some ⟨b, 0, none⟩) N N
def XM (r : Nat) : Mem := ⟨fun w => ∃ (es : List (Int × Value × Nat)) (clock : Nat), w.heap[r]? = some (.map (es.map entI).toArray clock) ∧ ∀ e ∈ es, Tabl r w e, fun w b => b = r ∨ InTab r w b, fun w w' => OnlyB r w w' ∧ ∀ b, b < w.heap.size → InTab r w' b → InTab r w b⟩
theorem some_lt {w : World} {r : Nat} {o : Obj} (h : w.heap[r]? = some o) : r < w.heap.size := (Array.getElem?_eq_some_iff.1 h).1
theorem InTab.of {r : Nat} {w w' : World} (e : w'.heap[r]? = w.heap[r]?) {b : Nat} (h : InTab r w' b) : InTab r w b := by
  obtain ⟨arr, c, h1, h2⟩ := h
  exact ⟨arr, c, by rw [← e]; exact h1, h2⟩
theorem st_of {r : Nat} {w w' : World} (h : (XM r).St w) (e : w'.heap[r]? = w.heap[r]?) (H : ∀ b, b < w.heap.size → b ≠ r → InTab r w b → w'.heap[b]? = w.heap[b]?) : (XM r).St w' := by
  obtain ⟨es, c, h1, h2⟩ := h
  exact ⟨es, c, by rw [e]; exact h1, fun x hx => (h2 x hx).of fun b hb hr hN => H b hb hr ⟨_, c, h1, entI x, by simpa using ⟨x.1, x.2.1, x.2.2, hx, rfl, rfl, rfl⟩, hN⟩⟩
theorem in_lt {r : Nat} {w : World} (h : (XM r).St w) {b : Nat} (hb : InTab r w b) : b < w.heap.size ∧ b ≠ r := by
  obtain ⟨es, c, h1, h2⟩ := h
  obtain ⟨arr, c', h3, m, hm, N, hN⟩ := hb
  rw [h1] at h3
  cases h3
  obtain ⟨e, he, rfl⟩ := List.mem_map.1 hm
  exact (h2 e he).lt hN
theorem map_cell {w : World} {r : Nat} {arr : Array MapEntry} {c : Nat} (h : w.heap[r]? = some (.map arr c)) {o : Nat} {v : Value} (hc : w.cell? ⟨r, o, none⟩ = some v) : False := by
  unfold World.cell? at hc
  rw [h] at hc
  simp at hc
theorem XM_ok (r : Nat) : (XM r).Ok where
  st := fun {w w'} h hb => by
    obtain ⟨es, c, h1, -⟩ := id h
    exact st_of h (hb.block r (some_lt h1)) (fun b hl _ _ => hb.block b hl)
  fr := fun {w w'} h hb => by
    obtain ⟨es, c, h1, -⟩ := id h
    exact ⟨OnlyB.of_below hb, fun b _ hi => hi.of (hb.block r (some_lt h1))⟩
  trans := fun {a b c} h k => ⟨h.1.trans k.1, fun x hx hi => h.2 x hx (k.2 x (Nat.lt_of_lt_of_le hx h.1.size) hi)⟩
  size := fun h => h.1.size
  cell := fun {w w' b o v} h k hc => by
    obtain ⟨es, c, h1, -⟩ := h
    by_cases e : b = r
    · subst e; exact (map_cell h1 hc).elim
    · rw [k.1.cell (p := ⟨b, o, none⟩) (World.block_lt_of_cell? _ _ hc) e]; exact hc
  free := fun {w w' b o v} h k hc => by
    obtain ⟨es, c, h1, -⟩ := h
    by_cases e : b = r
    · subst e; exact (map_cell h1 hc).elim
    · exact k.1.frozen (p := ⟨b, o, none⟩) (World.block_lt_of_cell? _ _ hc) e
  pv := fun {w w' b} _ k hb hn hp => hn (by
    rcases hp with e | hp
    · exact .inl e
    · exact .inr (k.2 b hb hp))
  new := fun {w w' b} h hb hl hp => by
    obtain ⟨es, c, h1, -⟩ := id h
    have hr := some_lt h1
    rcases hp with e | hp
    · omega
    · have := (in_lt h (hp.of (hb.block r hr))).1
      omega
  only := fun {B w w' g} h k hg hn ho => by
    obtain ⟨es, c, h1, -⟩ := id h
    have hgr : r ≠ g := fun e => hn (.inl e.symm)
    have hm := ho.block r (some_lt h1) hgr
    refine ⟨st_of h hm fun b hl _ hi => ho.block b hl fun e => hn (.inr (e ▸ hi)), ⟨?_, fun b hb hi => k.2 b hb (hi.of hm)⟩⟩
    exact ⟨ho.os.trans k.1.os, ho.tape.trans k.1.tape, ho.output.trans k.1.output, Nat.le_trans k.1.size ho.size, fun x hx hxr => (ho.block x (Nat.lt_of_lt_of_le hx k.1.size) (by omega)).trans (k.1.block x hx hxr)⟩
  onlypv := fun {w w' g b} h hn ho hb hp hq => by
    obtain ⟨es, c, h1, -⟩ := id h
    have hgr : r ≠ g := fun e => hn (.inl e.symm)
    rcases hq with e | hq
    · exact hp (.inl e)
    · exact hp (.inr (hq.of (ho.block r (some_lt h1) hgr)))
/-- A new map. -/
theorem XM_new (w : World) : (XM w.heap.size).St (w.alloc (.map #[] 0)) := ⟨[], 0, (MapKept.heap_alloc w _).1, by simp⟩
/-- A table more. -/
theorem XM_put {r : Nat} {w w' : World} {es : List (Int × Value × Nat)} {clock b N : Nat} (h1 : w.heap[r]? = some (.map (es.map entI).toArray clock)) (h2 : ∀ e ∈ es, Tabl r w e) (hb : Below w.heap.size w w') (hl : w.heap.size ≤ b) (hN : 1 ≤ N) (hr : RowC w' b N (fun i => croot i N)) :
    (XM r).On w (putE w' r es N (.slice (some ⟨b, 0, none⟩) N N) clock) ∧ RowC (putE w' r es N (.slice (some ⟨b, 0, none⟩) N N) clock) b N (fun i => croot i N) := by
  have hlt := some_lt h1
  have hr' : r < w'.heap.size := Nat.lt_of_lt_of_le hlt hb.size
  have hsame : ∀ x, x ≠ r → (putE w' r es N (.slice (some ⟨b, 0, none⟩) N N) clock).heap[x]? = w'.heap[x]? := fun x hx => by
    unfold putE
    simp [Array.getElem?_setIfInBounds, Ne.symm hx]
  have hmap : (putE w' r es N (.slice (some ⟨b, 0, none⟩) N N) clock).heap[r]? = some (.map ((es ++ [((N : Int), Value.slice (some ⟨b, 0, none⟩) N N, clock)]).map entI).toArray (clock + 1)) := by
    unfold putE
    simp [Array.getElem?_setIfInBounds, hr']
  have hne : b ≠ r := by omega
  have hrow : RowC (putE w' r es N (.slice (some ⟨b, 0, none⟩) N N) clock) b N (fun i => croot i N) := hr.of fun i v hc => ⟨by rw [World.cell?_of_block (w := w') (hsame b hne)]; exact hc, World.frozen?_of_block (w := w') (hsame b hne)⟩
  refine ⟨⟨⟨_, _, hmap, fun e he => ?_⟩, ?_, fun x hx hi => ?_⟩, hrow⟩
  · rcases List.mem_append.1 he with he | he
    · exact (h2 e he).of fun x hx hxr _ => (hsame x hxr).trans (hb.block x hx)
    · obtain rfl := List.mem_singleton.1 he
      exact ⟨b, N, rfl, rfl, hN, hne, hrow⟩
  · exact ⟨hb.os, hb.tape, hb.output, by simpa [putE] using hb.size, fun x hx hxr => (hsame x hxr).trans (hb.block x hx)⟩
  · obtain ⟨arr, c, h3, m, hm, N', hN'⟩ := hi
    rw [hmap] at h3
    cases h3
    obtain ⟨e, he, rfl⟩ := List.mem_map.1 hm
    rcases List.mem_append.1 he with he | he
    · exact ⟨_, _, h1, entI e, List.mem_map.2 ⟨e, he, rfl⟩, N', hN'⟩
    · obtain rfl := List.mem_singleton.1 he
      cases hN'
      omega
end Go.Proofs.Ytbobmhobaaeohaa
