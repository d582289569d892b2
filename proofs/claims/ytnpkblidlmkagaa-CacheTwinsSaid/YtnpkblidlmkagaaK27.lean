/- Two caches beside each other, and their twins of the document. -/
import Derived.Test.YtnpkblidlmkagaaKC
set_option linter.unusedSimpArgs false
set_option linter.unusedVariables false
namespace Go.Proofs.Ytnpkblidlmkagaa
open Go Go.RowKit Fl

def FineK (σ : St) : Prop := σ.1.Nodup ∧ (∀ k ∈ σ.1, 1 ≤ k.1) ∧ sumN σ.1 ≤ 65536 ∧ σ.1.length ≤ 65536

/-- Two caches of the program, two of the document. -/
structure Twin (base : Nat) (w : World) (p1 r1 p2 r2 q1 q2 : Nat) (M1 M2 : Int) (σ1 σ2 ρ1 ρ2 : St) (kv1 kv2 : Value) (es1 es2 : List ((Int × Int) × Value × Nat)) (c1 c2 : Nat) (v1 v2 : Value) : Prop where
  a : CA w p1 M1 σ1.1 σ1.2.1 σ1.2.2 kv1 r1 es1 c1
  b : CA w p2 M2 σ2.1 σ2.2.1 σ2.2.2 kv2 r2 es2 c2
  r : RA w q1 M1 ρ1.1.reverse ρ1.2.1 ρ1.2.2 v1
  s : RA w q2 M2 ρ2.1.reverse ρ2.2.1 ρ2.2.2 v2
  pp : p1 ≠ p2
  rr : r1 ≠ r2
  qq : q1 ≠ q2
  kk : ∀ b, KB kv1 b → ¬ KB kv2 b
  ll : ∀ b, LB v1 b → ¬ LB v2 b
  f1 : FineK ρ1
  f2 : FineK ρ2
  l1 : base ≤ p1 ∧ base ≤ r1 ∧ base ≤ q1 ∧ (∀ b, KB kv1 b → base ≤ b) ∧ (∀ b, LB v1 b → base ≤ b)
  l2 : base ≤ p2 ∧ base ≤ r2 ∧ base ≤ q2 ∧ (∀ b, KB kv2 b → base ≤ b) ∧ (∀ b, LB v2 b → base ≤ b)

theorem Twin.swap {base : Nat} {w : World} {p1 r1 p2 r2 q1 q2 : Nat} {M1 M2 : Int} {σ1 σ2 ρ1 ρ2 : St} {kv1 kv2 : Value} {es1 es2 : List ((Int × Int) × Value × Nat)} {c1 c2 : Nat} {v1 v2 : Value} (h : Twin base w p1 r1 p2 r2 q1 q2 M1 M2 σ1 σ2 ρ1 ρ2 kv1 kv2 es1 es2 c1 c2 v1 v2) : Twin base w p2 r2 p1 r1 q2 q1 M2 M1 σ2 σ1 ρ2 ρ1 kv2 kv1 es2 es1 c2 c1 v2 v1 :=
  ⟨h.b, h.a, h.s, h.r, fun e => h.pp e.symm, fun e => h.rr e.symm, fun e => h.qq e.symm, fun b h1 h2 => h.kk b h2 h1, fun b h1 h2 => h.ll b h2 h1, h.f2, h.f1, h.l2, h.l1⟩
theorem Twin.keep {base : Nat} {w w1 : World} {p1 r1 p2 r2 q1 q2 : Nat} {M1 M2 : Int} {σ1 σ2 ρ1 ρ2 : St} {kv1 kv2 : Value} {es1 es2 : List ((Int × Int) × Value × Nat)} {c1 c2 : Nat} {v1 v2 : Value} (h : Twin base w p1 r1 p2 r2 q1 q2 M1 M2 σ1 σ2 ρ1 ρ2 kv1 kv2 es1 es2 c1 c2 v1 v2) (hb : Below w.heap.size w w1) : Twin base w1 p1 r1 p2 r2 q1 q2 M1 M2 σ1 σ2 ρ1 ρ2 kv1 kv2 es1 es2 c1 c2 v1 v2 :=
  ⟨h.a.keep hb, h.b.keep hb, h.r.keep hb, h.s.keep hb, h.pp, h.rr, h.qq, h.kk, h.ll, h.f1, h.f2, h.l1, h.l2⟩

/-- Two caches, what they hold left unnamed. -/
def Twins (base : Nat) (w : World) (p1 r1 p2 r2 q1 q2 : Nat) (M1 M2 : Int) (σ1 σ2 ρ1 ρ2 : St) : Prop := ∃ kv1 kv2 es1 es2 c1 c2 v1 v2, Twin base w p1 r1 p2 r2 q1 q2 M1 M2 σ1 σ2 ρ1 ρ2 kv1 kv2 es1 es2 c1 c2 v1 v2

theorem Twins.swap {base : Nat} {w : World} {p1 r1 p2 r2 q1 q2 : Nat} {M1 M2 : Int} {σ1 σ2 ρ1 ρ2 : St} (h : Twins base w p1 r1 p2 r2 q1 q2 M1 M2 σ1 σ2 ρ1 ρ2) : Twins base w p2 r2 p1 r1 q2 q1 M2 M1 σ2 σ1 ρ2 ρ1 := by
  obtain ⟨kv1, kv2, es1, es2, c1, c2, v1, v2, h⟩ := h
  exact ⟨_, _, _, _, _, _, _, _, h.swap⟩
theorem Twins.keep {base : Nat} {w w1 : World} {p1 r1 p2 r2 q1 q2 : Nat} {M1 M2 : Int} {σ1 σ2 ρ1 ρ2 : St} (h : Twins base w p1 r1 p2 r2 q1 q2 M1 M2 σ1 σ2 ρ1 ρ2) (hb : Below w.heap.size w w1) : Twins base w1 p1 r1 p2 r2 q1 q2 M1 M2 σ1 σ2 ρ1 ρ2 := by
  obtain ⟨kv1, kv2, es1, es2, c1, c2, v1, v2, h⟩ := h
  exact ⟨_, _, _, _, _, _, _, _, h.keep hb⟩

theorem Twins.table {base : Nat} {w : World} {p1 r1 p2 r2 q1 q2 : Nat} {M1 M2 : Int} {σ1 σ2 ρ1 ρ2 : St} (h : Twins base w p1 r1 p2 r2 q1 q2 M1 M2 σ1 σ2 ρ1 ρ2) (n s : Int) (f0 : 0 ≤ σ1.2.1) (f1 : σ1.2.1 < 9223372036854775807) (d0 : 0 ≤ σ1.2.2) (d1 : σ1.2.2 < 9223372036854775807) (hbs : base ≤ w.heap.size) :
    Calls Try.prog 67 #[.pointer (some ⟨p1, 0, none⟩), .int .i64 n, .int .i64 s] w fun z w' => ∃ (v : Value), z = .returned v ∧ Twins base w' p1 r1 p2 r2 q1 q2 M1 M2 (askK M1 σ1 n s).2 σ2 ρ1 ρ2 ∧ Below base w w' := by
  obtain ⟨kv1, kv2, es1, es2, c1, c2, v1, v2, h⟩ := h
  refine (table_any p1 r1 c1 M1 σ1.2.1 σ1.2.2 σ1.1 kv1 es1 w h.a n s f0 f1 d0 d1).mono ?_
  rintro z w' ⟨σ', e, kv', es', clock', tv, ha, rfl, g1, g2, g3, g4⟩
  have ha' : askK M1 σ1 n s = (e, σ') := ha
  rw [ha']
  obtain ⟨l1, l2, l3, l4, l5⟩ := h.l1
  have typ : ∀ b (cur : Array Value) t sp, w.heap[b]? = some (.cells cur t sp) → t ≠ 120 → t ≠ 89 → ¬ Core p1 r1 kv1 b := fun b cur t sp hb t1 t2 => h.a.other hb t1 t2
  refine ⟨_, rfl, ⟨kv', kv2, es', es2, clock', c2, v1, v2, g1, ?_, ?_, ?_, h.pp, h.rr, h.qq, ?_, h.ll, h.f1, h.f2, ⟨l1, l2, l3, ?_, l5⟩, h.l2⟩, ⟨g2.os, g2.tape, g2.output, g2.size, fun b hb => g2.block b (by omega) ?_⟩⟩
  · refine h.b.of_blocks (g2.block p2 (Array.getElem?_eq_some_iff.1 h.b.obj).1 ?_) (g2.block r2 (Array.getElem?_eq_some_iff.1 h.b.mp).1 ?_) (fun b hb => g2.block b (h.b.kept.lt b hb) ?_) (fun k v hv b hb => g2.block b (h.b.tlt hv hb) ?_)
    · rintro (e | e | e)
      · exact h.pp e.symm
      · have h1 := h.b.obj; have h2 := h.a.mp; rw [e, h2] at h1; cases h1
      · obtain ⟨n', c', e⟩ := e
        rcases h.a.kept with ⟨h3, _⟩ | ⟨b', c', h3, h0, h4⟩
        · rw [h3] at e; cases e
        · rw [h3] at e; cases e
          obtain ⟨cur2, rest, g1, _⟩ := h4.obj
          have h1 := h.b.obj; rw [g1] at h1; cases h1
    · rintro (e | e | e)
      · have h1 := h.b.mp; have h2 := h.a.obj; rw [e, h2] at h1; cases h1
      · exact h.rr e.symm
      · obtain ⟨n', c', e⟩ := e
        rcases h.a.kept with ⟨h3, _⟩ | ⟨b', c', h3, h0, h4⟩
        · rw [h3] at e; cases e
        · rw [h3] at e; cases e
          obtain ⟨cur2, rest, g1, _⟩ := h4.obj
          have h1 := h.b.mp; rw [g1] at h1; cases h1
    · have hrow : ∃ cur, w.heap[b]? = some (.cells cur 89 (0, 0)) := by
        obtain ⟨n', c', e⟩ := hb
        rcases h.b.kept with ⟨h3, _⟩ | ⟨b', c', h3, h0, h4⟩
        · rw [h3] at e; cases e
        · rw [h3] at e; cases e
          obtain ⟨cur2, rest, g1, _⟩ := h4.obj
          exact ⟨_, g1⟩
      obtain ⟨cur, hc⟩ := hrow
      rintro (e | e | e)
      · have h2 := h.a.obj; rw [← e, hc] at h2; cases h2
      · have h2 := h.a.mp; rw [← e, hc] at h2; cases h2
      · exact h.kk b e hb
    · obtain ⟨b', c', n', cur, h1, h2, h3, h4⟩ := h.b.tabs k v hv
      obtain ⟨n'', c'', e⟩ := hb
      rw [h1] at e; cases e
      exact typ _ _ _ _ h3 (by decide) (by decide)
  · exact h.r.past g2 (fun b cur t sp hb ht => typ b _ _ _ hb (by rcases ht with rfl | rfl <;> decide) (by rcases ht with rfl | rfl <;> decide))
  · exact h.s.past g2 (fun b cur t sp hb ht => typ b _ _ _ hb (by rcases ht with rfl | rfl <;> decide) (by rcases ht with rfl | rfl <;> decide))
  · intro b hb hb2
    rcases g3 b hb with h1 | h1
    · exact h.kk b h1 hb2
    · have := h.b.kept.lt b hb2; omega
  · intro b hb
    rcases g3 b hb with h1 | h1
    · exact l4 b h1
    · omega
  · rintro (e | e | e)
    · omega
    · omega
    · have := l4 b e; omega

theorem Twins.ask {base : Nat} {w : World} {p1 r1 p2 r2 q1 q2 : Nat} {M1 M2 : Int} {σ2 ρ1 ρ2 : St} {n s : Int} (h : Twins base w p1 r1 p2 r2 q1 q2 M1 M2 (askK M1 ρ1 n s).2 σ2 ρ1 ρ2) (f0 : 0 ≤ ρ1.2.1) (f1 : ρ1.2.1 < 9223372036854775807) (d0 : 0 ≤ ρ1.2.2) (d1 : ρ1.2.2 < 9223372036854775807) (hbs : base ≤ w.heap.size) :
    Calls Try.prog 73 #[.pointer (some ⟨q1, 0, none⟩), .int .i64 n, .int .i64 s] w fun z w' => ∃ (v : Value), z = .returned v ∧ Twins base w' p1 r1 p2 r2 q1 q2 M1 M2 (askK M1 ρ1 n s).2 σ2 (askK M1 ρ1 n s).2 ρ2 ∧ Below base w w' := by
  obtain ⟨kv1, kv2, es1, es2, c1, c2, v1, v2, h⟩ := h
  obtain ⟨k1, k2, k3, k4⟩ := h.f1
  refine (ask_any q1 M1 ρ1.2.1 ρ1.2.2 ρ1.1 v1 w h.r k1 k2 k3 k4 n s f0 f1 d0 d1).mono ?_
  rintro z w' ⟨σ', e, v', ha, rfl, g1, g2, g3⟩
  have ha' : askK M1 ρ1 n s = (e, σ') := ha
  rw [ha'] at h ⊢
  obtain ⟨l1, l2, l3, l4, l5⟩ := h.l1
  have typ : ∀ b (cur : Array Value) t sp, w.heap[b]? = some (.cells cur t sp) → t ≠ 130 → t ≠ 131 → ¬ (b = q1 ∨ LB v1 b) := fun b cur t sp hb t1 t2 => h.r.other hb t1 t2
  have mp : ∀ (rr : Nat) es' clock', w.heap[rr]? = some (.map es' clock') → ¬ (rr = q1 ∨ LB v1 rr) := by
    rintro rr es' clock' hm (e | e)
    · have h8 := h.r.obj; rw [← e, hm] at h8; cases h8
    · obtain ⟨cur2, h8⟩ := h.r.ls.typ _ e
      rw [hm] at h8; cases h8
  refine ⟨_, rfl, ⟨kv1, kv2, es1, es2, c1, c2, v', v2, h.a.past g2 (fun b cur t sp hb ht => typ b _ _ _ hb (by rcases ht with rfl | rfl | rfl <;> decide) (by rcases ht with rfl | rfl | rfl <;> decide)) (mp r1), h.b.past g2 (fun b cur t sp hb ht => typ b _ _ _ hb (by rcases ht with rfl | rfl | rfl <;> decide) (by rcases ht with rfl | rfl | rfl <;> decide)) (mp r2), g1, ?_, h.pp, h.rr, h.qq, h.kk, ?_, ?_, h.f2, ⟨l1, l2, l3, l4, ?_⟩, h.l2⟩, ⟨g2.os, g2.tape, g2.output, g2.size, fun b hb => g2.block b (by omega) ?_⟩⟩
  · refine h.s.of_blocks (g2.block q2 (Array.getElem?_eq_some_iff.1 h.s.obj).1 ?_) (fun b hb => g2.block b (h.s.ls.lt b hb) ?_)
    · rintro (e | e)
      · exact h.qq e.symm
      · obtain ⟨cur2, h8⟩ := h.r.ls.typ _ e
        have h9 := h.s.obj; rw [h8] at h9; cases h9
    · rintro (e | e)
      · obtain ⟨cur2, h8⟩ := h.s.ls.typ _ hb
        have h9 := h.r.obj; rw [← e, h8] at h9; cases h9
      · exact h.ll b e hb
  · intro b hb hb2
    rcases g3 b hb with h1 | h1
    · exact h.ll b h1 hb2
    · have := h.s.ls.lt b hb2; omega
  · exact ⟨h.a.kn, fun k hk => (h.a.ks k hk).1, by have := h.a.sm; have := h.a.m1; show sumN σ'.1 ≤ 65536; have h0 : sumN σ'.1 ≤ M1 := h.a.sm; omega, h.a.len⟩
  · intro b hb
    rcases g3 b hb with h1 | h1
    · exact l5 b h1
    · omega
  · rintro (e | e)
    · omega
    · have := l5 b e; omega

theorem Twins.kept {base : Nat} {w : World} {p1 r1 p2 r2 q1 q2 : Nat} {M1 M2 : Int} {σ1 σ2 ρ1 ρ2 : St} (h : Twins base w p1 r1 p2 r2 q1 q2 M1 M2 σ1 σ2 ρ1 ρ2) : Calls Try.prog 68 #[.pointer (some ⟨p1, 0, none⟩)] w fun z w' => ∃ v', z = .returned v' ∧ KV w' v' σ1.1 ∧ (∀ b, KB v' b → w.heap.size ≤ b) ∧ Below w.heap.size w w' := by
  obtain ⟨kv1, kv2, es1, es2, c1, c2, v1, v2, h⟩ := h
  exact kept_any p1 r1 c1 M1 σ1.2.1 σ1.2.2 σ1.1 kv1 es1 w h.a
theorem Twins.same {base : Nat} {w : World} {p1 r1 p2 r2 q1 q2 : Nat} {M1 M2 : Int} {σ1 σ2 ρ2 : St} (h : Twins base w p1 r1 p2 r2 q1 q2 M1 M2 σ1 σ2 σ1 ρ2) : Calls Try.prog 72 #[.pointer (some ⟨p1, 0, none⟩), .pointer (some ⟨q1, 0, none⟩)] w fun z w' => z = .returned (.bool true) ∧ Below w.heap.size w w' := by
  obtain ⟨kv1, kv2, es1, es2, c1, c2, v1, v2, h⟩ := h
  exact same_any p1 r1 c1 q1 M1 M1 σ1.2.1 σ1.2.2 σ1.1 kv1 v1 es1 w h.a h.r

end Go.Proofs.Ytnpkblidlmkagaa
