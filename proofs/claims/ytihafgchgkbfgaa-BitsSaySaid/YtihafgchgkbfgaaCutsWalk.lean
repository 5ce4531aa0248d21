/- BitsCuts of package hourglasslaw1: its walk, for any int64 and any int. -/
import Derived.Test.YtihafgchgkbfgaaCut
namespace Go.Proofs.Ytihafgchgkbfgaa.Hand
open Go.RowKit Go.Proofs.YtihafgchgkbfgaaW.PrintWords Go.Proofs.YtihafgchgkbfgaaW.PrintLast Go.Proofs.YtihafgchgkbfgaaW.PrintMore
open Go.Proofs.Ytihafgchgkbfgaa.Plain

set_option maxHeartbeats 800000 in
theorem cuts_out (v n : Int) (w : World) (h : n < 1 ∨ 63 < n) : Calls Try.prog 8 #[.int .i64 v, .int .i64 n] w fun e w' => e = .returned (.bool true) ∧ Below w.heap.size w w' := by
  rcases h with h | h
  · go_enter Try.func8, Try.ntmps8
    go_wp2_with fail
    refine (awake_true _).mono ?_
    rintro e w1 ⟨rfl, hb⟩
    go_wp2_with fail
    go_ret
    exact ⟨rfl, hb⟩
  · have h' : ¬ n < 1 := by omega
    go_enter Try.func8, Try.ntmps8
    go_wp2_with fail
    refine (awake_true _).mono ?_
    rintro e w1 ⟨rfl, hb⟩
    go_wp2_with fail
    go_ret
    exact ⟨rfl, hb⟩

theorem half_facts (n : Int) (h1 : 1 ≤ n) (h2 : n ≤ 63) : (n - 1).toNat = n.toNat - 1 ∧ wrap64 ((2 : Int) ^ (n.toNat - 1)) = 2 ^ (n.toNat - 1) ∧ wrap64 (-((2 : Int) ^ (n.toNat - 1))) = -2 ^ (n.toNat - 1) ∧ IntKind.u64.wrap ((2 : Int) ^ n.toNat) = 2 * 2 ^ (n.toNat - 1) := by
  obtain ⟨m, rfl⟩ := Int.eq_ofNat_of_zero_le (show 0 ≤ n by omega)
  rw [Int.toNat_natCast]
  have hm : (2 : Nat) ^ (m - 1) ≤ 2 ^ 62 := Nat.pow_le_pow_right (by decide) (by omega)
  have hp : (0 : Nat) < 2 ^ (m - 1) := Nat.pow_pos (by decide)
  have hs : (2 : Int) ^ m = 2 * 2 ^ (m - 1) := by
    have : m = m - 1 + 1 := by omega
    conv => lhs; rw [this, Int.pow_succ, Int.mul_comm]
  have hc : (2 : Int) ^ (m - 1) = ((2 ^ (m - 1) : Nat) : Int) := by simp
  rw [hs, hc]
  generalize (2 : Nat) ^ (m - 1) = H at *
  refine ⟨by omega, by unfold wrap64; omega, by unfold wrap64; omega, by rw [IntKind.wrap_u64]; omega⟩

set_option maxHeartbeats 1600000 in
set_option maxRecDepth 100000 in
theorem cuts_in (v n : Int) (w : World) (h1 : 1 ≤ n) (h2 : n ≤ 63) : Calls Try.prog 8 #[.int .i64 v, .int .i64 n] w fun e w' => e = .returned (.bool true) ∧ Below w.heap.size w w' := by
  obtain ⟨ok, u0, u1⟩ := cut_ok v n h1 h2
  obtain ⟨f0, f1, f2, f3⟩ := half_facts n h1 h2
  have HCC := Aside0.mk (fun w => cut_any v n w)
  have HSS := Aside0.mk (fun w => sign_any (cutx v (sp n)) n w)
  rw [f0] at ok u1
  rw [ok] at HCC
  generalize hS : sgn (cutx v (sp n)) (sp n) = S at *
  generalize cutx v (sp n) = u at *
  have g3 : decide (u < IntKind.u64.wrap ((2 : Int) ^ n.toNat)) = true := decide_eq_true (by rw [f3]; exact u1)
  have b1 : decide (n < 1) = false := decide_eq_false (by omega)
  have b2 : decide (63 < n) = false := decide_eq_false (by omega)
  by_cases c1 : -(2 : Int) ^ (n.toNat - 1) ≤ v
  · have g1 : decide (wrap64 (-wrap64 ((2 : Int) ^ (n.toNat - 1))) ≤ v) = true := decide_eq_true (by rw [f1, f2]; exact c1)
    by_cases c2 : v < (2 : Int) ^ (n.toNat - 1)
    · have g2 : decide (v < wrap64 ((2 : Int) ^ (n.toNat - 1))) = true := decide_eq_true (by rw [f1]; exact c2)
      rw [decide_eq_true (And.intro c1 c2)] at ok HCC
      clear f0 f1 f2 f3 c1 c2 u0 u1 hS
      go_enter Try.func8, Try.ntmps8
      go_wp2_with fail
      refine (awake_true _).mono ?_
      rintro e w1 ⟨rfl, hb⟩
      go_wp2_with fail
      refine (HCC.out _).mono ?_
      rintro e w2 ⟨rfl, nd, rfl⟩
      go_wp2_with fail
      refine (HSS.out _).mono ?_
      rintro e w2 ⟨rfl, nd2, rfl⟩
      go_wp2_with fail
      go_ret
      exact ⟨rfl, by repeat (first | exact hb | apply pw_below_drewN | apply below_drew1)⟩
    · have g2 : decide (v < wrap64 ((2 : Int) ^ (n.toNat - 1))) = false := decide_eq_false (by rw [f1]; exact c2)
      rw [decide_eq_false (fun h => c2 h.2)] at HCC
      clear f0 f1 f2 f3 c1 c2 u0 u1 hS ok
      go_enter Try.func8, Try.ntmps8
      go_wp2_with fail
      refine (awake_true _).mono ?_
      rintro e w1 ⟨rfl, hb⟩
      go_wp2_with fail
      refine (HCC.out _).mono ?_
      rintro e w2 ⟨rfl, nd, rfl⟩
      go_wp2_with fail
      go_ret
      exact ⟨rfl, by repeat (first | exact hb | apply pw_below_drewN | apply below_drew1)⟩
  · have g1 : decide (wrap64 (-wrap64 ((2 : Int) ^ (n.toNat - 1))) ≤ v) = false := decide_eq_false (by rw [f1, f2]; exact c1)
    rw [decide_eq_false (fun h => c1 h.1)] at HCC
    clear f0 f1 f2 f3 c1 u0 u1 hS ok
    go_enter Try.func8, Try.ntmps8
    go_wp2_with fail
    refine (awake_true _).mono ?_
    rintro e w1 ⟨rfl, hb⟩
    go_wp2_with fail
    refine (HCC.out _).mono ?_
    rintro e w2 ⟨rfl, nd, rfl⟩
    go_wp2_with fail
    go_ret
    exact ⟨rfl, by repeat (first | exact hb | apply pw_below_drewN | apply below_drew1)⟩

theorem cuts_true (v n : Int) (w : World) (_ : (Lit.int .i64 v).wf = true) (_ : (Lit.int .i64 n).wf = true) : Calls Try.prog 8 #[.int .i64 v, .int .i64 n] w fun e w' => e = .returned (.bool true) ∧ Below w.heap.size w w' := by
  by_cases h : n < 1 ∨ 63 < n
  · exact cuts_out v n w h
  · exact cuts_in v n w (by omega) (by omega)
end Go.Proofs.Ytihafgchgkbfgaa.Hand
