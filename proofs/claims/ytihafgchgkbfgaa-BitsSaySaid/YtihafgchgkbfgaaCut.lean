/- bits.spare, bits.Sign, bits.Cut: their walks. -/
import Derived.Test.YtihafgchgkbfgaaAwake
import Derived.Test.YtihafgchgkbfgaaPlain
namespace Go.Proofs.Ytihafgchgkbfgaa.Hand
open Go.RowKit Go.Proofs.YtihafgchgkbfgaaW.PrintWords Go.Proofs.YtihafgchgkbfgaaW.PrintLast Go.Proofs.YtihafgchgkbfgaaW.PrintMore
open Go.Proofs.Ytihafgchgkbfgaa.Plain

/-- How many bits are not meant. -/
def sp (n : Int) : Int := if n < 1 ∨ 64 < n then 0 else 64 - n
theorem sp_range (n : Int) : 0 ≤ sp n ∧ sp n ≤ 63 := by unfold sp; split <;> omega

set_option maxHeartbeats 800000 in
theorem spare_any (f : Nat) (hf : f = 25) (n : Int) (w : World) : Calls Try.prog f #[.int .i64 n] w fun e w' => e = .returned (.int .i64 (sp n)) ∧ w = w' := by
  subst hf
  by_cases h1 : n < 1
  · have e : sp n = 0 := by unfold sp; rw [if_pos (.inl h1)]
    rw [e]
    clear e
    go_enter Try.func25, Try.ntmps25
    go_wp2
    go_ret
    exact ⟨rfl, rfl⟩
  · by_cases h2 : 64 < n
    · have e : sp n = 0 := by unfold sp; rw [if_pos (.inr h2)]
      rw [e]
      clear e
      go_enter Try.func25, Try.ntmps25
      go_wp2
      go_ret
      exact ⟨rfl, rfl⟩
    · have e : sp n = 64 - n := by unfold sp; rw [if_neg (by omega)]
      rw [e]
      clear e
      go_enter Try.func25, Try.ntmps25
      go_wp2
      go_ret
      exact ⟨rfl, rfl⟩

/-- What Sign tells, in the walk's own spelling. -/
def sgn (v s : Int) : Int := wrap64 (IntKind.u64.wrap (v * 2 ^ s.toNat)) / 2 ^ s.toNat
/-- What Cut tells. -/
def cutx (v s : Int) : Int := IntKind.u64.wrap (IntKind.u64.wrap v * 2 ^ s.toNat) / 2 ^ s.toNat

set_option maxHeartbeats 800000 in
/-- bits.Sign, for any number and any count. -/
theorem sign_any (v n : Int) (w : World) : Calls Try.prog 19 #[.int .u64 v, .int .i64 n] w fun e w' => e = .returned (.int .i64 (sgn v (sp n))) ∧ Drawn0 w w' := by
  obtain ⟨s0, s1⟩ := sp_range n
  have HS := Aside0.mk (spare_any 25 rfl n)
  generalize sp n = s at *
  go_enter Try.func19, Try.ntmps19
  go_wp2_with fail
  go_quiet ((go_at_call 25; exact Calls.quiet_of_same ((HS.out _).mono fun e w' h => ⟨h.1, h.2.symm⟩)))
  go_wp2_with fail
  go_ret
  exact ⟨rfl, ⟨_, rfl⟩⟩

set_option maxHeartbeats 800000 in
/-- bits.Cut, for any number and any count. -/
theorem cut_any (v n : Int) (w : World) : Calls Try.prog 18 #[.int .i64 v, .int .i64 n] w fun e w' => e = .returned (.tuple #[.int .u64 (cutx v (sp n)), .bool (sgn (cutx v (sp n)) (sp n) == v)]) ∧ Drawn0 w w' := by
  obtain ⟨s0, s1⟩ := sp_range n
  have HS := Aside0.mk (spare_any 25 rfl n)
  have HG := Aside0.mk (fun x w => sign_any x n w)
  generalize sp n = s at *
  go_enter Try.func18, Try.ntmps18
  go_wp2_with fail
  go_quiet ((go_at_call 25; exact Calls.quiet_of_same ((HS.out _).mono fun e w' h => ⟨h.1, h.2.symm⟩)))
  go_wp2_with fail
  refine (HG.out _ _).mono ?_
  rintro e w1 ⟨rfl, nd, rfl⟩
  go_wp2_with fail
  go_ret2
  exact ⟨rfl, ⟨_, rfl⟩⟩

/-! ### what they tell, over n bits (1 to 63): H is half of what fits -/
theorem pows (n : Nat) (h1 : 1 ≤ n) (h2 : n ≤ 63) : (2 : Int) ^ (64 - n) * (2 * 2 ^ (n - 1)) = 18446744073709551616 ∧ (0 : Int) < 2 ^ (64 - n) ∧ (0 : Int) < 2 ^ (n - 1) := by
  refine ⟨?_, Int.pow_pos (by decide), Int.pow_pos (by decide)⟩
  have : (2 : Int) * 2 ^ (n - 1) = 2 ^ (n - 1 + 1) := by rw [Int.pow_succ, Int.mul_comm]
  rw [this, ← Int.pow_add, show 64 - n + (n - 1 + 1) = 64 from by omega]
  decide

theorem cut_is (v n : Int) (h1 : 1 ≤ n) (h2 : n ≤ 63) :
    cutx v (sp n) = v % (2 * 2 ^ (n - 1).toNat) ∧ sgn (v % (2 * 2 ^ (n - 1).toNat)) (sp n) = (v + 2 ^ (n - 1).toNat) % (2 * 2 ^ (n - 1).toNat) - 2 ^ (n - 1).toNat := by
  obtain ⟨m, rfl⟩ := Int.eq_ofNat_of_zero_le (show 0 ≤ n by omega)
  have es : sp (m : Int) = ((64 - m : Nat) : Int) := by unfold sp; rw [if_neg (by omega)]; omega
  have en : ((m : Int) - 1).toNat = m - 1 := by omega
  rw [es, en]
  obtain ⟨p1, p2, p3⟩ := pows m (by omega) (by omega)
  unfold cutx sgn wrap64
  rw [Int.toNat_natCast]
  generalize (2 : Int) ^ (64 - m) = P at *
  generalize (2 : Int) ^ (m - 1) = H at *
  have p4 : P * H = 9223372036854775808 := by
    have : P * (2 * H) = 2 * (P * H) := by rw [Int.mul_left_comm]
    omega
  rw [IntKind.wrap_u64, IntKind.wrap_u64, IntKind.wrap_u64, ← p1]
  have hM : 0 < 2 * H := by omega
  constructor
  · rw [Int.mul_comm (v % (P * (2 * H))) P, Int.mul_emod_mul_of_pos _ _ p2, Int.mul_ediv_cancel_left _ (by omega)]
    rw [Int.emod_emod_of_dvd _ (Int.dvd_mul_left P (2 * H))]
  · have hr0 := Int.emod_nonneg v (show 2 * H ≠ 0 by omega)
    have hr1 := Int.emod_lt_of_pos v hM
    have e1 : v % (2 * H) * P % (P * (2 * H)) = P * (v % (2 * H)) := by
      rw [Int.mul_comm (v % (2 * H)) P, Int.mul_emod_mul_of_pos _ _ p2, Int.emod_emod_of_dvd _ (Int.dvd_refl _)]
    rw [e1]
    have e2 : (P * (v % (2 * H)) + 9223372036854775808) % (P * (2 * H)) = P * ((v + H) % (2 * H)) := by
      rw [← p4, ← Int.mul_add, Int.mul_emod_mul_of_pos _ _ p2, Int.emod_add_emod]
    rw [e2, ← p4, ← Int.mul_sub, Int.mul_ediv_cancel_left _ (by omega)]

theorem cut_ok (v n : Int) (h1 : 1 ≤ n) (h2 : n ≤ 63) :
    (sgn (cutx v (sp n)) (sp n) == v) = decide (-2 ^ (n - 1).toNat ≤ v ∧ v < 2 ^ (n - 1).toNat) ∧ 0 ≤ cutx v (sp n) ∧ cutx v (sp n) < 2 * 2 ^ (n - 1).toNat := by
  obtain ⟨e1, e2⟩ := cut_is v n h1 h2
  rw [e1, e2]
  have hp : (0 : Int) < 2 ^ (n - 1).toNat := Int.pow_pos (by decide)
  generalize (2 : Int) ^ (n - 1).toNat = H at *
  have r0 := Int.emod_nonneg v (show 2 * H ≠ 0 by omega)
  have r1 := Int.emod_lt_of_pos v (show 0 < 2 * H by omega)
  refine ⟨?_, r0, r1⟩
  rw [Bool.eq_iff_iff, beq_iff_eq, decide_eq_true_iff]
  constructor
  · intro h
    have q0 := Int.emod_nonneg (v + H) (show 2 * H ≠ 0 by omega)
    have q1 := Int.emod_lt_of_pos (v + H) (show 0 < 2 * H by omega)
    omega
  · intro ⟨a, b⟩
    rw [Int.emod_eq_of_lt (by omega) (by omega)]
    omega
end Go.Proofs.Ytihafgchgkbfgaa.Hand
