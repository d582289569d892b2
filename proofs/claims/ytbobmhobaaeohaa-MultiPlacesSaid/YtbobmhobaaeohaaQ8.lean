/- The contract of the Root of exec's ring. -/
import Derived.Test.YtbobmhobaaeohaaQ7
set_option linter.unusedSimpArgs false
set_option linter.unusedVariables false
namespace Go.Proofs.Ytbobmhobaaeohaa
open Go.RowKit Go.Lib

theorem tmod_two (k : Int) (n : Nat) (h : 1 ≤ n) : ∃ j : Nat, j < n ∧ k % n = j ∧ (k.tmod n = j ∨ k.tmod n = (j : Int) - n) := by
  have h1 := Int.emod_nonneg k (show (n : Int) ≠ 0 by omega)
  have h2 := Int.emod_lt_of_pos k (show (0 : Int) < n by omega)
  refine ⟨(k % n).toNat, by omega, by omega, ?_⟩
  by_cases hk : 0 ≤ k
  · left; rw [Int.tmod_eq_emod_of_nonneg hk]; omega
  · obtain ⟨a, rfl⟩ : ∃ a, k = -a := ⟨-k, by omega⟩
    have ht : (-a).tmod (n : Int) = -(a % n) := by rw [Int.neg_tmod, Int.tmod_eq_emod_of_nonneg (by omega)]
    have r1 := Int.emod_nonneg a (show (n : Int) ≠ 0 by omega)
    have r2 := Int.emod_lt_of_pos a (show (0 : Int) < n by omega)
    have hd : a = n * (a / n) + a % n := (Int.mul_ediv_add_emod a n).symm
    have e : (-a) % (n : Int) = (-(a % n)) % n := by
      have : -a = -(a % n) + n * (-(a / n)) := by rw [Int.mul_neg]; omega
      rw [this, Int.add_mul_emod_self_left]
    rw [ht]
    by_cases h0 : a % n = 0
    · left; rw [e, h0]; rfl
    · right
      have e2 : (-(a % n)) % (n : Int) = n - a % n := by
        have : -(a % n) = (n - a % n) + n * (-1) := by omega
        rw [this, Int.add_mul_emod_self_left, Int.emod_eq_of_lt (by omega) (by omega)]
      rw [e, e2]; omega

set_option maxRecDepth 100000 in
theorem loop_start (n : Nat) (w : World) : RowC (w.alloc (.cells (zsC n) 41)) w.heap.size n (upToC 0 (fun i => croot i n)) := (zs_rowC n w _).congr fun i hi => by unfold upToC; rw [if_neg (by omega)]

set_option maxRecDepth 100000 in
set_option maxHeartbeats 4000000 in
theorem ringRoot_any (r : Nat) (k : Int) (n : Nat) (w : World) (k1 : -4294967296 ≤ k) (k2 : k ≤ 4294967296) (n1 : 1 ≤ n) (n2 : n ≤ 65536) (hw : (XM r).St w) :
    Calls Try.prog 96 #[.agg #[.map (some r)], .int .i64 k, .int .i64 n] w fun z w' => (∃ u, z = .returned (cV u) ∧ nC u = croot k n) ∧ (XM r).On w w' := by
  have H := XM_ok r
  obtain ⟨W, hW⟩ : ∃ W, W = (w.alloc (.cells #[.map (some r)] 61)).alloc (.cells #[.float .f64 0, .float .f64 0] 41) := ⟨_, rfl⟩
  have hb : Below w.heap.size w W := by rw [hW]; exact ((Below.refl _ w).alloc (Nat.le_refl _) _).alloc (by simp) _
  have HON := Lib.hid ((H.on_refl hw).below H hb)
  obtain ⟨es, clock, hmap, htab⟩ := id HON.out.st
  have hlook := run_lookI r clock n es W hmap
  have hmk := mk_C n (by omega) W
  have c0 : W.cell? ⟨w.heap.size, 0, none⟩ = some (.map (some r)) := by rw [hW]; simp [go_sem]
  have HRES : Hid ((W.cell? ⟨w.heap.size + 1, 0, none⟩ = some (.float .f64 0) ∧ W.cell? ⟨w.heap.size + 1, 1, none⟩ = some (.float .f64 0) ∧ W.frozen? ⟨w.heap.size + 1, 0, none⟩ = false ∧ W.frozen? ⟨w.heap.size + 1, 1, none⟩ = false) ∧ w.heap.size + 1 < W.heap.size) :=
    Lib.hid (by subst hW; exact ⟨⟨by simp [go_sem], by simp [go_sem], by simp [go_sem], by simp [go_sem]⟩, by simp⟩)
  have HPVR : Hid (BoxC (XM r) W (w.heap.size + 1) (0, 0)) := Lib.hid ⟨HRES.out.1.1, HRES.out.1.2.1, HRES.out.1.2.2.1, HRES.out.1.2.2.2, HRES.out.2, H.new hw hb (by omega)⟩
  obtain ⟨j, hj, hjm, hjt⟩ := tmod_two k n n1
  have hCR : Hid (croot k n = croot j n) := Lib.hid (by unfold croot; rw [hjm, Int.emod_eq_of_lt (by omega) (by omega)])
  have hn0 : ¬ (n : Int) = 0 := by omega
  have hn0n : ¬ n = 0 := by omega
  have HH := Lib.hid H
  have HTAB := Lib.hid htab
  have HMAP := Lib.hid hmap
  have HRW := Lib.hid hw
  clear hjm hw htab hmap H
  go_enter Try.func96, Try.ntmps96
  go_upto_region 1 with (fail)
  rw [← hW]
  clear hW hb
  have HUW := Lib.hid (hjt)
  clear hjt
  cases hk : fi n es 0 with
  | some q =>
    obtain ⟨i, v⟩ := q
    obtain ⟨c, hmem⟩ := fi_mem _ _ _ _ _ hk
    obtain ⟨b, N, hv, hN, hN1, hbr, hrow⟩ := HTAB.out _ hmem
    obtain rfl : N = n := by have : (n : Int) = N := hN; omega
    have hv : v = .slice (some ⟨b, 0, none⟩) N N := hv
    subst hv
    rw [hk] at hlook
    dsimp only [Option.isSome] at hlook
    have HROW := Lib.hid hrow
    clear hmem hrow hN hk
    obtain ⟨u, t0, t1, -, -, hu⟩ := HROW.out j hj
    have HUU := Lib.hid hu
    obtain ⟨x0, x1, x2, x3, -, -⟩ := HPVR.out
    have HFIN := Lib.hid ((HPVR.out).set HH.out HON.out (Nat.le_succ _) u)
    obtain ⟨y0, y1, -, -, -, -⟩ := HFIN.out.1
    unfold setB at y0 y1
    have hjn : (j : Int) < N := by omega
    have hj0 : (0 : Int) ≤ j := by omega
    have hj00 : ¬ (j : Int) < 0 := by omega
    have hjneg : (j : Int) - N < 0 := by omega
    have hwr1 : IntKind.i64.wrap ((j : Int) - N + N) = j := by rw [IntKind.wrap_i64]; omega
    have hwr2 : wrap64 ((j : Int) - N + N) = j := by unfold wrap64; omega
    clear hu
    rcases HUW.out with ht | ht
    all_goals
      go_wp2
      exact bodyPost_ret (v := cV u) (by simp [results, Try.results96, go_sem, y0, y1]) rfl ⟨⟨u.1, u.2, rfl, by rw [hCR.out]; exact HUU.out⟩, HFIN.out.2⟩
  | none =>
    rw [hk] at hlook
    dsimp only [Option.isSome] at hlook
    have HK := Lib.hid hk
    clear hk
    go_wp2
    go_loopw [23] (fun vi wr => ∃ m : Nat, m ≤ n ∧ vi = .int .i64 m ∧ Hid (RowC wr W.heap.size n (upToC m (fun i => croot i n))) ∧ Hid (Below W.heap.size W wr)) (fun vi _ => n - (intOf vi).toNat)
    case atStart => exact ⟨0, by omega, rfl, Lib.hid (loop_start n W), Lib.hid ((Below.refl _ W).alloc (Nat.le_refl _) _)⟩
    case round =>
      obtain ⟨m, hm, rfl, hr, hb⟩ := hrel
      by_cases hlt : m < n
      · have hmi : (m : Int) < n := by omega
        obtain ⟨ht, hf1, hf2, -, -⟩ := T.turn_fn m n (by omega) (by omega)
        have HT := Lib.hid (ht wr)
        obtain ⟨tc, htc⟩ : ∃ tc : Fin 18446744073709551616, tc.val = T.tuC m n := ⟨⟨_, hf1.1⟩, rfl⟩
        obtain ⟨ts, hts⟩ : ∃ ts : Fin 18446744073709551616, ts.val = T.tuS m n := ⟨⟨_, hf2.1⟩, rfl⟩
        have HQ : Hid (nC (tc, ts) = croot m n) := Lib.hid (by unfold nC croot; rw [Int.emod_eq_of_lt (by omega) (by omega), htc, hts])
        rw [← htc, ← hts] at HT
        clear ht hf1 hf2 htc hts
        go_wp2_with fail
        refine HT.out.mono ?_
        rintro z w2 ⟨rfl, hb2⟩
        have hr2 := hr.out.keep hb2
        obtain ⟨v0, r1, r2, r3, r4, -⟩ := hr2 m hlt
        have HS : Hid (RowC (putC w2 W.heap.size m (tc, ts)) W.heap.size n (upToC (m + 1) (fun i => croot i n))) := Lib.hid ((hr2.set hlt (tc, ts)).congr fun i hi => by
          rw [← upToC_next, HQ.out])
        have HB2 : Hid (Below W.heap.size W (putC w2 W.heap.size m (tc, ts))) := Lib.hid (((hb.out.trans (hb2.mono hb.out.size)).setCell (p := ⟨_, _, _⟩) (Nat.le_refl _) _).setCell (p := ⟨_, _, _⟩) (Nat.le_refl _) _)
        clear hr2 hb2 hlook hmk
        go_wp2
        exact ⟨⟨m + 1, by omega, by go_num, HS, HB2⟩, by simp [intOf]; omega⟩
      · obtain rfl : m = n := by omega
        have HR : Hid (RowC wr W.heap.size m (fun i => croot i m)) := Lib.hid (hr.out.congr fun i hi => by unfold upToC; rw [if_pos hi])
        have hst := run_storeI r clock m (.slice (some ⟨W.heap.size, 0, none⟩) m m) es wr ((hb.out.block r (some_lt HMAP.out)).trans HMAP.out) HK.out
        obtain ⟨HP1, HP2⟩ := XM_put (b := W.heap.size) HMAP.out HTAB.out hb.out (Nat.le_refl _) n1 HR.out
        have c1 := keep_cell hb.out c0
        obtain ⟨X, hX⟩ : ∃ X, X = putE wr r es m (.slice (some ⟨W.heap.size, 0, none⟩) m m) clock := ⟨_, rfl⟩
        rw [← hX] at hst HP1 HP2
        have HO := Lib.hid (HON.out.trans HH.out HP1)
        have HPX := Lib.hid (HPVR.out.keep HH.out HP1 HON.out.st)
        have HR2 := Lib.hid HP2
        clear hX HP1 HP2 c0 hmk hlook hb hr HR
        obtain ⟨u, t0, t1, -, -, hu⟩ := HR2.out j hj
        have HUU := Lib.hid hu
        obtain ⟨x0, x1, x2, x3, -, -⟩ := HPX.out
        have HFIN := Lib.hid ((HPX.out).set HH.out HO.out (Nat.le_succ _) u)
        obtain ⟨y0, y1, -, -, -, -⟩ := HFIN.out.1
        unfold setB at y0 y1
        have hjn : (j : Int) < m := by omega
        have hj0 : (0 : Int) ≤ j := by omega
        have hj00 : ¬ (j : Int) < 0 := by omega
        have hjneg : (j : Int) - m < 0 := by omega
        have hwr1 : IntKind.i64.wrap ((j : Int) - m + m) = j := by rw [IntKind.wrap_i64]; omega
        have hwr2 : wrap64 ((j : Int) - m + m) = j := by unfold wrap64; omega
        clear hu
        rcases HUW.out with ht | ht
        all_goals
          go_wp2
          exact bodyPost_ret (v := cV u) (by simp [results, Try.results96, go_sem, y0, y1]) rfl ⟨⟨u.1, u.2, rfl, by rw [hCR.out]; exact HUU.out⟩, HFIN.out.2⟩
end Go.Proofs.Ytbobmhobaaeohaa
