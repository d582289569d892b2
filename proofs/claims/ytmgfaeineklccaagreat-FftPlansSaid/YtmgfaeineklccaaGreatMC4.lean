/- The document's Is, Padded, Wants, sized. -/
import Derived.Test.YtmgfaeineklccaaGreatMC1
import Derived.Test.YtmgfaeineklccaaGreatMC2
import Derived.Deep.AppendLies
import Derived.WalkSmall
set_option linter.unusedSimpArgs false
set_option linter.unusedVariables false
namespace Go.Proofs.YtmgfaeineklccaaGreat
open Go.RowKit Go.Lib

theorem priL_step (f d n : Nat) : priL (f + 1) d n = if d ≤ n / d then (if n % d = 0 then false else priL f (d + 1) n) else true := by
  show (bif Nat.ble d (n / d) then (bif Nat.beq (n % d) 0 then false else priL f (d + 1) n) else true) = _
  rw [bif_le, bif_eq]

set_option maxRecDepth 100000 in
set_option maxHeartbeats 1000000 in
theorem RIs_any (n : Int) (w : World) (hn : n ≤ 4611686018427387904) : Calls Tryz.prog 139 #[.int .i64 n] w fun z w' => z = .returned (.bool (primeB n.toNat)) ∧ w = w' := by
  by_cases h2 : n < 2
  · have e : primeB n.toNat = false := by
      unfold primeB
      rw [bif_le, if_pos (by omega)]
    rw [e]
    go_enter Tryz.func139, Tryz.ntmps139
    go_wp2
    go_ret
    exact ⟨rfl, rfl⟩
  · obtain ⟨m, rfl⟩ : ∃ m : Nat, n = m := ⟨n.toNat, by omega⟩
    have e : primeB (m : Int).toNat = priL m 2 m := by
      show primeB m = _
      unfold primeB
      rw [bif_le, if_neg (by omega)]
    rw [e]
    obtain ⟨R, hR⟩ : ∃ R, priL m 2 m = R := ⟨_, rfl⟩
    rw [hR]
    have HR := Lib.hid hR
    have HM : Hid (2 ≤ m ∧ m ≤ 4611686018427387904) := Lib.hid (by omega)
    clear e hR
    go_enter Tryz.func139, Tryz.ntmps139
    go_wp2
    go_loop [3] (fun vd => ∃ f d : Nat, vd = .int .i64 d ∧ 2 ≤ d ∧ d ≤ m + 1 ∧ m ≤ d + f ∧ Hid (priL f d m = R)) (fun vd => m + 1 - (intOf vd).toNat)
    case atStart => exact ⟨m, 2, rfl, by omega, by have := HM.out; omega, by omega, HR⟩
    case round =>
      clear HR
      obtain ⟨f, d, rfl, hd2, hdm, hf, hr⟩ := hrel
      have hm2 := HM.out.1
      have hm3 := HM.out.2
      have hq : (m : Int).tdiv d = ((m / d : Nat) : Int) := by rw [Int.tdiv_eq_ediv_of_nonneg (by omega)]; omega
      have hqm : m / d ≤ m := Nat.div_le_self _ _
      have hd0 : ((d : Int) == 0) = false := by rw [beq_eq_false_iff_ne]; omega
      have hd1 : ¬ (d : Int) = 0 := by omega
      have hle : d ≤ m / d ↔ d * d ≤ m := Nat.le_div_iff_mul_le (by omega)
      have HLE := Lib.hid hle
      obtain ⟨Q, hQ⟩ : ∃ Q, m / d = Q := ⟨_, rfl⟩
      have HQ := Lib.hid hQ
      rw [hQ] at hq hqm hle
      clear hle hQ
      by_cases hlt : d ≤ Q
      · have hdd : d * d ≤ m := HLE.out.1 (by rw [HQ.out]; exact hlt)
        have hlti : (d : Int) ≤ (Q : Int) := by omega
        have hdlt : d < m := by
          have h1 := HLE.out.1 (by rw [HQ.out]; exact hlt)
          have : 2 * d ≤ d * d := Nat.mul_le_mul_right d hd2
          omega
        obtain ⟨f, rfl⟩ : ∃ f', f = f' + 1 := ⟨f - 1, by omega⟩
        have hro := hr.out
        rw [priL_step, HQ.out, if_pos hlt] at hro
        have ht : (m : Int).tmod d = ((m % d : Nat) : Int) := by rw [Int.tmod_eq_emod_of_nonneg (by omega)]; omega
        obtain ⟨x, hx⟩ : ∃ x, m % d = x := ⟨_, rfl⟩
        have hxl : x < d := by rw [← hx]; exact Nat.mod_lt _ (by omega)
        rw [hx] at hro ht
        by_cases h0 : x = 0
        · subst h0
          rw [if_pos rfl] at hro
          have HRF := Lib.hid hro
          clear hro hr HQ HLE hx
          have ht' : (m : Int).tmod d = 0 := ht
          clear ht
          go_wp2
          go_ret
          exact ⟨by rw [← HRF.out]; rfl, rfl⟩
        · rw [if_neg h0] at hro
          have h0i : ((x : Int) == 0) = false := by rw [beq_eq_false_iff_ne]; omega
          have HRF := Lib.hid hro
          clear hro hr HQ HLE hx
          go_wp2
          exact ⟨⟨f, d + 1, by go_num, by omega, by omega, by omega, HRF⟩, by simp [intOf]; omega⟩
      · have hlti : ¬ (d : Int) ≤ (Q : Int) := by omega
        have HRF : Hid (R = true) := Lib.hid (by
          have := hr.out
          rcases f with _ | f
          · exact this.symm
          · rw [priL_step, HQ.out, if_neg hlt] at this
            exact this.symm)
        clear hr HQ HLE
        go_wp2
        go_ret
        exact ⟨by rw [HRF.out]; rfl, rfl⟩

set_option maxRecDepth 100000 in
theorem RPadded_ok (n : Nat) (h1 : 1 ≤ n) (h2 : n ≤ 16384) (w : World) :
    Calls Tryz.prog 119 #[.int .i64 n] w fun z w' => z = .returned (.tuple #[.int .i64 (padF n : Nat), .int .i64 0]) ∧ w = w' := by
  have h0 : ¬ (n : Int) < 1 := by omega
  have h3 : (n : Int) ≤ 16384 := by omega
  have hP := padF_spec n h1 h2
  have HR : Hid (padL 20 1 n = padF n) := Lib.hid rfl
  have hR := hP.2.2.2.2
  have hG := hP.1
  generalize padF n = P at *
  clear hP
  go_enter Tryz.func119, Tryz.ntmps119
  go_wp2
  go_loop [4] (fun vm => ∃ f m : Nat, vm = .int .i64 m ∧ 1 ≤ m ∧ m ≤ 65536 ∧ Hid (padL f m n = P)) (fun vm => 65536 - (intOf vm).toNat)
  case atStart => exact ⟨20, 1, rfl, by omega, by omega, HR⟩
  case round =>
    clear HR
    obtain ⟨f, m, rfl, hm, hm2, hp⟩ := hrel
    by_cases hlt : m < 2 * n - 1
    · have hlti : ¬ 2 * (n : Int) - 1 ≤ (m : Int) := by omega
      obtain ⟨f, rfl⟩ : ∃ f', f = f' + 1 := ⟨f - 1, by
        have : f ≠ 0 := by
          rintro rfl
          have h1 : m = P := hp.out
          omega
        omega⟩
      have hpo : Hid (padL f (2 * m) n = P) := Lib.hid (by
        have := hp.out
        rw [show padL (f + 1) m n = if m < 2 * n - 1 then padL f (2 * m) n else m from rfl, if_pos hlt] at this
        exact this)
      clear hp
      go_wp2
      exact ⟨⟨f, 2 * m, by go_num, by omega, by omega, hpo⟩, by simp [intOf]; omega⟩
    · have hlti : 2 * (n : Int) - 1 ≤ (m : Int) := by omega
      have HE : Hid (m = P) := Lib.hid (by
        have := hp.out
        rcases f with _ | f
        · exact this
        · rw [show padL (f + 1) m n = if m < 2 * n - 1 then padL f (2 * m) n else m from rfl, if_neg hlt] at this
          exact this)
      clear hp hlt
      go_wp2
      go_ret2
      exact ⟨by rw [← HE.out]; rfl, rfl⟩

theorem pow4_iff (m : Nat) (hm : m ≤ 32768) : pow4 m = true ↔ ∃ e, 2 ≤ e ∧ m = 2 ^ e := by
  constructor
  · intro h
    obtain ⟨e, he⟩ := pow4_pow h
    refine ⟨e, ?_, he⟩
    rcases e with _ | _ | e
    · rw [he] at h; exact absurd h (by decide)
    · rw [he] at h; exact absurd h (by decide)
    · omega
  · rintro ⟨e, he, rfl⟩
    have : e ≤ 15 := by
      rcases Nat.lt_or_ge 15 e with h | h
      · have := Nat.pow_le_pow_right (show 0 < 2 by omega) (show 16 ≤ e by omega)
        omega
      · exact h
    have : e = 2 ∨ e = 3 ∨ e = 4 ∨ e = 5 ∨ e = 6 ∨ e = 7 ∨ e = 8 ∨ e = 9 ∨ e = 10 ∨ e = 11 ∨ e = 12 ∨ e = 13 ∨ e = 14 ∨ e = 15 := by omega
    rcases this with rfl | rfl | rfl | rfl | rfl | rfl | rfl | rfl | rfl | rfl | rfl | rfl | rfl | rfl <;> decide
set_option maxRecDepth 100000 in
set_option maxHeartbeats 1000000 in
theorem RWants_any (kind n r : Int) (A : Option Addr) (l c : Nat) (w : World) (h1 : 1 ≤ n) (h2 : n ≤ 32768) (h4 : kind = 4 → n ≤ 16384) :
    Calls Tryz.prog 69 #[plV kind n r A l c] w (WantsC w (wantsF kind n r)) := by
  have bs1 := bs_int1
  have bs2 := bs_int2
  by_cases k1 : kind = 1
  · subst k1
    clear h4
    by_cases r1 : r < 1
    · have e : wantsF 1 n r = [0, 0] := by unfold wantsF; rw [if_pos rfl, if_pos r1]
      rw [e]
      clear e
      go_enter Tryz.func69, Tryz.ntmps69
      go_wp2
      go_ret
      exact ⟨⟨_, rfl, ints_two _ _ _ _ _ (by simp), fun b o e => by cases e; first | (simp; done) | exact HB.drew.size | omega⟩, ((Below.refl _ w).alloc (Nat.le_refl _) _).alloc (by simp) _⟩
    · have e : wantsF 1 n r = [r, n / r] := by unfold wantsF; rw [if_pos rfl, if_neg r1]
      rw [e]
      clear e
      have hb := Int.ediv_le_self r (show 0 ≤ n by omega)
      have hb0 := Int.ediv_nonneg (show 0 ≤ n by omega) (show 0 ≤ r by omega)
      have ht : n.tdiv r = n / r := Int.tdiv_eq_ediv_of_nonneg (by omega)
      have hr0 : (r == 0) = false := by rw [beq_eq_false_iff_ne]; omega
      have hr1 : ¬ r = 0 := by omega
      generalize n / r = q at *
      have hw : IntKind.i64.wrap q = q := by rw [IntKind.wrap_i64]; omega
      clear hb hb0
      go_enter Tryz.func69, Tryz.ntmps69
      go_upto_region 5 with (fail)
      obtain ⟨W, hW⟩ : ∃ W, W = w.alloc (.cells #[.int .i64 1, .int .i64 n, .int .i64 r, .slice A l c] 30) := ⟨_, rfl⟩
      have HP : PlBox W w.heap.size 1 n r A l c := by rw [hW]; exact PlBox.new w 1 n r A l c 30
      have HB : Below w.heap.size w W := by rw [hW]; exact (Below.refl _ w).alloc (Nat.le_refl _) _
      rw [← hW]
      clear hW
      refine wp_region_S (fun w' => w'.cell? ⟨w.heap.size, 0, none⟩ = some (.int .i64 1) ∧ w'.cell? ⟨w.heap.size, 1, none⟩ = some (.int .i64 n) ∧ w'.cell? ⟨w.heap.size, 2, none⟩ = some (.int .i64 r) ∧ w'.cell? ⟨w.heap.size, 3, none⟩ = some (.slice A l c)) 7 (by kernel_rfl) ?_
      have hS0 := (HP : PlBox W.drew w.heap.size 1 n r A l c)
      refine wpAnyS_take (i := 0) (v := ?_) (by kernel_rfl) rfl (fun _ _ _ h => h) rfl hS0 (fun w hSw => by (try dsimp only at hSw); go_simp; try with_reducible rfl) ?_
      try simp only [List.getElem_toArray, List.getElem_cons_zero, List.getElem_cons_succ, Act.put, List.setIfInBounds_toArray, List.set_cons_zero, List.set_cons_succ]
      refine wpAnyS_take (i := 1) (v := ?_) (by kernel_rfl) rfl (fun _ _ _ h => h) rfl hS0 (fun w hSw => by (try dsimp only at hSw); go_simp; try with_reducible rfl) ?_
      try simp only [List.getElem_toArray, List.getElem_cons_zero, List.getElem_cons_succ, Act.put, List.setIfInBounds_toArray, List.set_cons_zero, List.set_cons_succ]
      refine wpAnyS_take (i := 2) (v := ?_) (by kernel_rfl) rfl (fun _ _ _ h => h) rfl hS0 (fun w hSw => by (try dsimp only at hSw); go_simp; try with_reducible rfl) ?_
      try simp only [List.getElem_toArray, List.getElem_cons_zero, List.getElem_cons_succ, Act.put, List.setIfInBounds_toArray, List.set_cons_zero, List.set_cons_succ]
      refine wpAnyS_take (i := 3) (v := ?_) (by kernel_rfl) rfl (fun _ _ _ h => h) rfl hS0 (fun w hSw => by (try dsimp only at hSw); go_simp; try with_reducible rfl) ?_
      try simp only [List.getElem_toArray, List.getElem_cons_zero, List.getElem_cons_succ, Act.put, List.setIfInBounds_toArray, List.set_cons_zero, List.set_cons_succ]
      refine wpAnyS_take (i := 4) (v := ?_) (by kernel_rfl) rfl (fun _ _ _ h => h) rfl hS0 (fun w hSw => by (try dsimp only at hSw); go_simp; try with_reducible rfl) ?_
      try simp only [List.getElem_toArray, List.getElem_cons_zero, List.getElem_cons_succ, Act.put, List.setIfInBounds_toArray, List.set_cons_zero, List.set_cons_succ]
      refine wpAnyS_take (i := 5) (v := ?_) (by kernel_rfl) rfl (fun _ _ _ h => h) rfl hS0 (fun w hSw => by (try dsimp only at hSw); go_simp; try with_reducible rfl) ?_
      try simp only [List.getElem_toArray, List.getElem_cons_zero, List.getElem_cons_succ, Act.put, List.setIfInBounds_toArray, List.set_cons_zero, List.set_cons_succ]
      refine wpAnyS_take (i := 6) (v := ?_) (by kernel_rfl) rfl (fun _ _ _ h => h) rfl hS0 (fun w hSw => by (try dsimp only at hSw); go_simp; try with_reducible rfl) ?_
      try simp only [List.getElem_toArray, List.getElem_cons_zero, List.getElem_cons_succ, Act.put, List.setIfInBounds_toArray, List.set_cons_zero, List.set_cons_succ]
      refine wpAnyS_end 2 7 (by kernel_rfl) (by decide) rfl ?_
      simp only [List.toList_toArray, List.drop_succ_cons, List.drop_zero]
      go_wp2
      go_ret
      exact ⟨⟨_, rfl, ints_two _ _ _ _ _ (by simp), fun b o e => by cases e; first | (simp; done) | exact HB.drew.size | omega⟩, HB.drew.alloc HB.drew.size _⟩
  · by_cases k3 : kind = 3
    · subst k3
      clear h4 k1
      have e : wantsF 3 n r = [n - 1] := rfl
      rw [e]
      clear e
      go_enter Tryz.func69, Tryz.ntmps69
      go_wp2
      go_ret
      exact ⟨⟨_, rfl, ints_one _ _ _ _ (by simp), fun b o e => by cases e; first | (simp; done) | exact HB.drew.size | omega⟩, ((Below.refl _ w).alloc (Nat.le_refl _) _).alloc (by simp) _⟩
    · by_cases k4 : kind = 4
      · subst k4
        obtain ⟨m, rfl⟩ : ∃ m : Nat, n = m := ⟨n.toNat, by omega⟩
        have hP := RPadded_ok m (by omega) (by have := h4 rfl; omega)
        have e : wantsF 4 m r = [(padF m : Int)] := rfl
        rw [e]
        generalize padF m = p at *
        have HP := Lib.hid hP
        clear hP e h4
        go_enter Tryz.func69, Tryz.ntmps69
        go_wp2_with fail
        refine (HP.out _).mono ?_
        rintro z w' ⟨rfl, rfl⟩
        go_wp2
        go_ret
        exact ⟨⟨_, rfl, ints_one _ _ _ _ (by simp), fun b o e => by cases e; first | (simp; done) | exact HB.drew.size | omega⟩, ((Below.refl _ w).alloc (Nat.le_refl _) _).alloc (by simp) _⟩
      · have e : wantsF kind n r = [] := by unfold wantsF; rw [if_neg k1, if_neg k3, if_neg k4]
        rw [e]
        clear e h4
        go_enter Tryz.func69, Tryz.ntmps69
        go_wp2
        go_ret
        exact ⟨⟨none, rfl, IntsAt.nil _ _ _, fun b o e => by cases e⟩, (Below.refl _ w).alloc (Nat.le_refl _) _⟩

end Go.Proofs.YtmgfaeineklccaaGreat
/- The document's Node. -/
set_option linter.unusedSimpArgs false
set_option linter.unusedVariables false
namespace Go.Proofs.YtmgfaeineklccaaGreat
open Go.RowKit Go.Lib

/-- A box with a plan in its first cells; what is behind. -/
def SnBox (w : World) (b : Nat) (kind n r : Int) (A : Option Addr) (l c : Nat) (want : Int) (blue : Bool) : Prop :=
  w.cell? ⟨b, 0, none⟩ = some (.int .i64 kind) ∧ w.cell? ⟨b, 1, none⟩ = some (.int .i64 n) ∧ w.cell? ⟨b, 2, none⟩ = some (.int .i64 r) ∧ w.cell? ⟨b, 3, none⟩ = some (.slice A l c) ∧ w.cell? ⟨b, 4, none⟩ = some (.int .i64 want) ∧ w.cell? ⟨b, 5, none⟩ = some (.bool blue)
theorem SnBox.new (w : World) (kind n r : Int) (A : Option Addr) (l c : Nat) (want : Int) (blue : Bool) (t : TypeId) : SnBox (w.alloc (.cells #[.int .i64 kind, .int .i64 n, .int .i64 r, .slice A l c, .int .i64 want, .bool blue] t)) w.heap.size kind n r A l c want blue :=
  ⟨by simp [go_sem], by simp [go_sem], by simp [go_sem], by simp [go_sem], by simp [go_sem], by simp [go_sem]⟩
theorem SnBox.below {w w' : World} {b : Nat} {kind n r : Int} {A : Option Addr} {l c : Nat} {want : Int} {blue : Bool} (h : SnBox w b kind n r A l c want blue) (hb : Below w.heap.size w w') : SnBox w' b kind n r A l c want blue :=
  ⟨keep_cell hb h.1, keep_cell hb h.2.1, keep_cell hb h.2.2.1, keep_cell hb h.2.2.2.1, keep_cell hb h.2.2.2.2.1, keep_cell hb h.2.2.2.2.2⟩

end Go.Proofs.YtmgfaeineklccaaGreat
/- The document's Nodes. -/
set_option linter.unusedSimpArgs false
set_option linter.unusedVariables false
namespace Go.Proofs.YtmgfaeineklccaaGreat
open Go.RowKit Go.Lib

theorem len_count' : ∀ fo : Fo, fo.len ≤ fo.count
  | .nil => Nat.le_refl _
  | .cons _ _ _ q rest => by
    have := len_count' rest
    simp only [Fo.len, Fo.count]
    omega
theorem count_kid {i : Nat} {q : Fo} {k' n' r' : Int} {q' rest : Fo} (h : q.drop i = .cons k' n' r' q' rest) : (q.upto (i + 1)).length = (q.upto i).length + (1 + q'.count) := by
  have := congrArg List.length (upto_succ i q h)
  rw [List.length_append, List.length_cons, flat_len] at this
  omega

end Go.Proofs.YtmgfaeineklccaaGreat
/- The document's Check. -/
set_option linter.unusedSimpArgs false
set_option linter.unusedVariables false
namespace Go.Proofs.YtmgfaeineklccaaGreat
open Go.RowKit Go.Lib

/-- What is still to be looked at. -/
structure SN where
  kind : Int
  n : Int
  r : Int
  q : Fo
  A : Option Addr
  c : Nat
  want : Int
  blue : Bool
def SN.cells (x : SN) : List Value := [.int .i64 x.kind, .int .i64 x.n, .int .i64 x.r, .slice x.A x.q.len x.c, .int .i64 x.want, .bool x.blue]
def SN.bad (x : SN) : Int := (Fo.cons x.kind x.n x.r x.q .nil).bad [x.want] x.blue
def SN.Ok (w : World) (x : SN) : Prop := Kids w x.A 0 x.q ∧ 1 ≤ x.want ∧ x.want ≤ 32768
theorem count_drop {q : Fo} {i : Nat} {k' n' r' : Int} {q' rest : Fo} (h : q.drop i = .cons k' n' r' q' rest) : (q.drop i).count = 1 + q'.count + (q.drop (i + 1)).count := by
  rw [h, drop_succ i q h, Fo.count]
/-- append of one element to a row of the call's own, and where it lies. -/
theorem wpList_appL {ops : Array Oper} {rest : List Oper} {o : Oper} {a : Act} {w : World} {Q : Exit → Act → World → Prop} (hgd : o.guard = none) (s x : Operand) (t e : TypeId)
    (ho : o.op = .call { callee := .builtin .append, args := #[s, x], argTypes := #[t, t] }) (sz bytes : Nat) (z : Value) (hU : Tryz.prog.underlying t = some (.slice e))
    (hI : (Tryz.prog.info? e).map (fun i => (i.zero, i.size, i.bytes)) = some (some z, sz, bytes)) (hzs : z.cells.size = sz) (hsz : 0 < sz) (hby : bytes ≤ 64)
    (base : Nat) (v : Value) (k : Nat) (xs : List Value) (hs : a.eval s = v) (hown : w.ownsRow base e sz v k xs)
    (b c : Nat) (news : List Value) (hl : news.length = sz) (hx : a.eval x = .slice (some ⟨b, 0, none⟩) 1 c) (hn : ∀ j u, news[j]? = some u → w.cell? ⟨b, j, none⟩ = some u) (h1 : ∀ u ∈ news, u.oneCell' = true)
    (hk : k + 1 ≤ 1099511627776) (hbase : base ≤ w.heap.size)
    (h : ∀ g cap w', Hid (w'.ownsRow base e sz (.slice (some ⟨g, 0, none⟩) (k + 1) cap) (k + 1) (xs ++ news)) → Hid (w.grownBy w' v.ownBlock) → Hid (v.ownBlock = some g ∨ g = w.heap.size) → wpList Tryz.prog ops Q rest (a.put o.dst (.slice (some ⟨g, 0, none⟩) (k + 1) cap)) w') : wpList Tryz.prog ops Q (o :: rest) a w := by
  obtain ⟨i0, hi, hz0, hz1, hz2⟩ := info_parts hI
  refine wpList_append_lies w hgd s x t ho base e i0 z sz bytes hU hi hz0 hz1 hz2 hzs hsz v k xs hs hown ⟨b, 0, none⟩ 1 c news hx (by omega) ?_ h1 (by omega) (by unfold maxLen; omega) ?_ hbase _ rfl ?_
  · intro j u hj
    have := hn j u hj
    rw [Addr.add]
    split
    · rename_i e; subst e; exact this
    · simpa using this
  · have : (k + 1) * bytes ≤ 1099511627776 * 64 := Nat.mul_le_mul hk hby
    omega
  · intro g cap w' h1 h2 h3 _
    exact h g cap w' (Lib.hid h1) (Lib.hid h2) (Lib.hid h3)

theorem owns_below {W w1 : World} {base n sz : Nat} {e : TypeId} {v : Value} {xs : List Value} (h : W.ownsRow base e sz v n xs) (hb : Below W.heap.size W w1) : w1.ownsRow base e sz v n xs :=
  h.kept (row := none) ⟨hb.os, hb.tape, hb.output, hb.size, fun k hk _ => hb.block k hk⟩ (by
    cases v.ownBlock
    · exact .inl rfl
    · exact .inr (by simp))
theorem grown_cell {w w' : World} {row : Option Nat} (hg : w.grownBy w' row) {b o : Nat} {v : Value} (hc : w.cell? ⟨b, o, none⟩ = some v) (hne : row ≠ some b) : w'.cell? ⟨b, o, none⟩ = some v := by
  rw [World.cell?_of_block (w := w) (a := ⟨b, o, none⟩) (hg.block b (World.block_lt_of_cell? _ _ hc) (Ne.symm hne)), hc]
theorem SnBox.grown {w w' : World} {row : Option Nat} (hg : w.grownBy w' row) {b : Nat} {kind n r : Int} {A : Option Addr} {l c : Nat} {want : Int} {blue : Bool} (h : SnBox w b kind n r A l c want blue) (hne : row ≠ some b) : SnBox w' b kind n r A l c want blue :=
  ⟨grown_cell hg h.1 hne, grown_cell hg h.2.1 hne, grown_cell hg h.2.2.1 hne, grown_cell hg h.2.2.2.1 hne, grown_cell hg h.2.2.2.2.1 hne, grown_cell hg h.2.2.2.2.2 hne⟩

end Go.Proofs.YtmgfaeineklccaaGreat
