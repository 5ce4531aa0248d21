/- hourglassref1.width, low, Sign, Cut: their walks, and that they tell what bits.Sign and bits.Cut tell. -/
import Derived.Test.YtihafgchgkbfgaaCutsWalk
namespace Go.Proofs.Ytihafgchgkbfgaa.Hand
open Go.RowKit Go.Proofs.YtihafgchgkbfgaaW.PrintWords Go.Proofs.YtihafgchgkbfgaaW.PrintLast Go.Proofs.YtihafgchgkbfgaaW.PrintMore
open Go.Proofs.Ytihafgchgkbfgaa.Plain

/-- How many bits are meant. -/
def wd (n : Int) : Int := if n < 1 ∨ 64 < n then 64 else n

set_option maxHeartbeats 800000 in
theorem width_any (n : Int) (w : World) : Calls Try.prog 27 #[.int .i64 n] w fun e w' => e = .returned (.int .i64 (wd n)) ∧ w = w' := by
  by_cases h1 : n < 1
  · have e : wd n = 64 := by unfold wd; rw [if_pos (.inl h1)]
    rw [e]
    clear e
    go_enter Try.func27, Try.ntmps27
    go_wp2
    go_ret
    exact ⟨rfl, rfl⟩
  · by_cases h2 : 64 < n
    · have e : wd n = 64 := by unfold wd; rw [if_pos (.inr h2)]
      rw [e]
      clear e
      go_enter Try.func27, Try.ntmps27
      go_wp2
      go_ret
      exact ⟨rfl, rfl⟩
    · have e : wd n = n := by unfold wd; rw [if_neg (by omega)]
      rw [e]
      clear e
      go_enter Try.func27, Try.ntmps27
      go_wp2
      go_ret
      exact ⟨rfl, rfl⟩

theorem sgn_mod (v n : Int) (h1 : 1 ≤ n) (h2 : n ≤ 63) : sgn v (sp n) = (v + 2 ^ (n - 1).toNat) % (2 * 2 ^ (n - 1).toNat) - 2 ^ (n - 1).toNat := by
  rw [← (cut_is v n h1 h2).2]
  obtain ⟨m, rfl⟩ := Int.eq_ofNat_of_zero_le (show 0 ≤ n by omega)
  have es : sp (m : Int) = ((64 - m : Nat) : Int) := by unfold sp; rw [if_neg (by omega)]; omega
  have en : ((m : Int) - 1).toNat = m - 1 := by omega
  rw [es, en]
  obtain ⟨p1, p2, p3⟩ := pows m (by omega) (by omega)
  unfold sgn
  rw [Int.toNat_natCast]
  generalize (2 : Int) ^ (64 - m) = P at *
  generalize (2 : Int) ^ (m - 1) = H at *
  have e : IntKind.u64.wrap (v * P) = IntKind.u64.wrap (v % (2 * H) * P) := by
    rw [IntKind.wrap_u64, IntKind.wrap_u64, ← p1, Int.mul_comm v P, Int.mul_emod_mul_of_pos _ _ p2, Int.mul_comm (v % (2 * H)) P, Int.mul_emod_mul_of_pos _ _ p2, Int.emod_emod_of_dvd _ (Int.dvd_refl _)]
  rw [e]

set_option maxHeartbeats 800000 in
theorem low_any (v n : Int) (w : World) (h1 : 1 ≤ n) (h2 : n ≤ 64) (v0 : 0 ≤ v) : Calls Try.prog 26 #[.int .u64 v, .int .i64 n] w fun e w' => e = .returned (.int .u64 (if n = 64 then v else v % (2 * 2 ^ (n - 1).toNat))) ∧ w = w' := by
  by_cases h : n = 64
  · subst h
    rw [if_pos rfl]
    clear h1 h2 v0
    go_enter Try.func26, Try.ntmps26
    go_wp2
    go_ret
    exact ⟨rfl, rfl⟩
  · rw [if_neg h]
    have hb : (n == 64) = false := beq_eq_false_iff_ne.2 h
    have h63 : n ≤ 63 := by omega
    obtain ⟨f0, _, _, f3⟩ := half_facts n h1 h63
    have hp : (0 : Int) < 2 ^ (n.toNat - 1) := Int.pow_pos (by decide)
    have nz : ¬ IntKind.u64.wrap ((2 : Int) ^ n.toNat) = 0 := by rw [f3]; omega
    have er : v % IntKind.u64.wrap ((2 : Int) ^ n.toNat) = v % (2 * 2 ^ (n - 1).toNat) := by rw [f3, f0]
    rw [← er]
    clear h h2 f0 f3 hp er
    go_enter Try.func26, Try.ntmps26
    go_wp2
    go_ret
    exact ⟨rfl, rfl⟩

theorem wd_range (n : Int) : 1 ≤ wd n ∧ wd n ≤ 64 := by unfold wd; split <;> omega
def lowv (v n : Int) : Int := if n = 64 then v else v % (2 * 2 ^ (n - 1).toNat)

theorem wd_in (n : Int) (h1 : 1 ≤ n) (h2 : n ≤ 63) : wd n = n := by unfold wd; rw [if_neg (by omega)]
theorem wd_out (n : Int) (h : ¬ (1 ≤ n ∧ n ≤ 63)) : wd n = 64 := by unfold wd; split <;> omega
theorem sp_out (n : Int) (h : ¬ (1 ≤ n ∧ n ≤ 63)) : sp n = 0 := by unfold sp; split <;> omega

theorem sgn_low (v n : Int) (h1 : 1 ≤ n) (h2 : n ≤ 63) (H : Int) (hH : H = 2 ^ (n.toNat - 1)) : sgn v (sp n) = if v % (2 * H) < H then v % (2 * H) else v % (2 * H) - 2 * H := by
  obtain ⟨f0, _, _, _⟩ := half_facts n h1 h2
  rw [sgn_mod v n h1 h2, f0, ← hH]
  have hp : (0 : Int) < H := by rw [hH]; exact Int.pow_pos (by decide)
  have r0 := Int.emod_nonneg v (show 2 * H ≠ 0 by omega)
  have r1 := Int.emod_lt_of_pos v (show 0 < 2 * H by omega)
  rw [← Int.emod_add_emod]
  generalize v % (2 * H) = u at *
  split
  · rw [Int.emod_eq_of_lt (by omega) (by omega)]; omega
  · have : (u + H) % (2 * H) = u - H := by
      rw [show u + H = (u - H) + 2 * H from by omega, Int.add_emod_right, Int.emod_eq_of_lt (by omega) (by omega)]
    rw [this]; omega

theorem half_bound (n : Int) (h1 : 1 ≤ n) (h2 : n ≤ 63) : (2 : Int) ^ (n.toNat - 1) ≤ 4611686018427387904 := by
  have hm : (2 : Nat) ^ (n.toNat - 1) ≤ 2 ^ 62 := Nat.pow_le_pow_right (by decide) (by omega)
  have hc : (2 : Int) ^ (n.toNat - 1) = ((2 ^ (n.toNat - 1) : Nat) : Int) := by simp
  rw [hc]
  generalize (2 : Nat) ^ (n.toNat - 1) = H at *
  omega
theorem wrap_in (x : Int) (h0 : -9223372036854775808 ≤ x) (h1 : x < 9223372036854775808) : wrap64 x = x := by unfold wrap64; omega
theorem fin_low (u H : Int) (h0 : 0 ≤ u) (h1 : u < 2 * H) (hb : H ≤ 4611686018427387904) : wrap64 u = u := wrap_in u (by omega) (by omega)
theorem fin_high (u H : Int) (h0 : 0 ≤ u) (h1 : u < 2 * H) (hp : 0 < H) (hb : H ≤ 4611686018427387904) : wrap64 (wrap64 (wrap64 u - wrap64 H) - wrap64 H) = u - 2 * H := by
  rw [wrap_in u (by omega) (by omega), wrap_in H (by omega) (by omega), wrap_in (u - H) (by omega) (by omega), wrap_in (u - H - H) (by omega) (by omega)]
  omega

set_option maxHeartbeats 800000 in
theorem refsign_any (v n : Int) (w : World) (v0 : 0 ≤ v) (v1 : v < 18446744073709551616) : Calls Try.prog 24 #[.int .u64 v, .int .i64 n] w fun e w' => e = .returned (.int .i64 (sgn v (sp n))) ∧ w = w' := by
  have HW := Aside0.mk (width_any n)
  by_cases hn : 1 ≤ n ∧ n ≤ 63
  · obtain ⟨h1, h2⟩ := hn
    have HL := Aside0.mk (fun w => low_any v n w h1 (by omega) v0)
    have HS := Aside0.mk (sgn_low v n h1 h2 _ rfl)
    rw [wd_in n h1 h2] at HW
    rw [if_neg (by omega : ¬ n = 64), (half_facts n h1 h2).1] at HL
    have hp : (0 : Int) < 2 ^ (n.toNat - 1) := Int.pow_pos (by decide)
    have r0 := Int.emod_nonneg v (show 2 * (2 : Int) ^ (n.toNat - 1) ≠ 0 by omega)
    have r1 := Int.emod_lt_of_pos v (show 0 < 2 * (2 : Int) ^ (n.toNat - 1) by omega)
    have hq0 : ∀ u H : Int, 0 ≤ u → u < 2 * H → 0 < H → (u / H == 1) = !decide (u < H) := by
      intro u H a b c
      by_cases d : u < H
      · rw [Int.ediv_eq_zero_of_lt a d]; simp [d]
      · have : u / H = 1 := by
          rw [show u = (u - H) + 1 * H from by omega, Int.add_mul_ediv_right _ _ (by omega), Int.ediv_eq_zero_of_lt (by omega) (by omega)]; rfl
        rw [this]; simp [d]
    have hq := hq0 _ _ r0 r1 hp
    have HF := Aside0.mk (half_facts n h1 h2)
    have HP := Aside0.mk (And.intro r0 (And.intro r1 hp))
    clear hq0 r0 r1 hp v0 v1
    by_cases hlt : v % (2 * (2 : Int) ^ (n.toNat - 1)) < 2 ^ (n.toNat - 1)
    · rw [decide_eq_true hlt] at hq
      rw [if_pos hlt] at HS
      have hq1 : (v % (2 * (2 : Int) ^ (n.toNat - 1)) / 2 ^ (n.toNat - 1) == 1) = false := hq
      clear hq hlt
      go_enter Try.func24, Try.ntmps24
      go_wp2_with fail
      refine (HW.out _).mono ?_
      rintro e w1 ⟨rfl, rfl⟩
      go_wp2_with fail
      refine (HL.out _).mono ?_
      rintro e w1 ⟨rfl, rfl⟩
      go_wp2_with fail
      go_ret
      refine ⟨?_, rfl⟩
      rw [HS.out]
      show Ending.returned (Value.int IntKind.i64 _) = _
      rw [fin_low _ _ HP.out.1 HP.out.2.1 (half_bound n h1 h2)]
    · rw [decide_eq_false hlt] at hq
      rw [if_neg hlt] at HS
      have hq1 : (v % (2 * (2 : Int) ^ (n.toNat - 1)) / 2 ^ (n.toNat - 1) == 1) = true := hq
      clear hq hlt
      go_enter Try.func24, Try.ntmps24
      go_wp2_with fail
      refine (HW.out _).mono ?_
      rintro e w1 ⟨rfl, rfl⟩
      go_wp2_with fail
      refine (HL.out _).mono ?_
      rintro e w1 ⟨rfl, rfl⟩
      go_wp2_with fail
      go_ret
      refine ⟨?_, rfl⟩
      rw [HS.out]
      show Ending.returned (Value.int IntKind.i64 _) = _
      rw [fin_high _ _ HP.out.1 HP.out.2.1 HP.out.2.2 (half_bound n h1 h2)]
  · rw [wd_out n hn] at HW
    rw [sp_out n hn]
    have HL := Aside0.mk (fun w => low_any v 64 w (by decide) (by decide) v0)
    simp only [if_true] at HL
    have hs : sgn v 0 = wrap64 v := by
      unfold sgn
      simp only [Int.toNat_zero, Int.pow_zero, Int.mul_one, Int.ediv_one]
      rw [IntKind.wrap_u64, Int.emod_eq_of_lt v0 v1]
    have HS := Aside0.mk hs
    clear hs hn v0 v1
    go_enter Try.func24, Try.ntmps24
    go_wp2_with fail
    refine (HW.out _).mono ?_
    rintro e w1 ⟨rfl, rfl⟩
    go_wp2_with fail
    refine (HL.out _).mono ?_
    rintro e w1 ⟨rfl, rfl⟩
    go_wp2_with fail
    go_ret
    exact ⟨by rw [HS.out]; rfl, rfl⟩

/-- What the reference's lowest bits are: just Cut's. -/
theorem low_cut (v n : Int) : (if wd n = 64 then IntKind.u64.wrap v else IntKind.u64.wrap v % (2 * 2 ^ (wd n - 1).toNat)) = cutx v (sp n) := by
  by_cases hn : 1 ≤ n ∧ n ≤ 63
  · obtain ⟨h1, h2⟩ := hn
    rw [wd_in n h1 h2, if_neg (by omega), (cut_is v n h1 h2).1, IntKind.wrap_u64]
    obtain ⟨f0, _, _, f3⟩ := half_facts n h1 h2
    obtain ⟨m, rfl⟩ := Int.eq_ofNat_of_zero_le (show 0 ≤ n by omega)
    obtain ⟨p1, p2, p3⟩ := pows m (by omega) (by omega)
    have en : ((m : Int) - 1).toNat = m - 1 := by omega
    rw [en, ← p1, Int.emod_emod_of_dvd _ (Int.dvd_mul_left _ _)]
  · rw [wd_out n hn, sp_out n hn, if_pos rfl]
    unfold cutx
    simp only [Int.toNat_zero, Int.pow_zero, Int.mul_one, Int.ediv_one]
    rw [IntKind.wrap_u64, IntKind.wrap_u64, Int.emod_emod_of_dvd _ (Int.dvd_refl _)]

theorem cutx_range (v n : Int) : 0 ≤ cutx v (sp n) ∧ cutx v (sp n) < 18446744073709551616 := by
  by_cases hn : 1 ≤ n ∧ n ≤ 63
  · obtain ⟨_, c0, c1⟩ := cut_ok v n hn.1 hn.2
    have := half_bound n hn.1 hn.2
    rw [(half_facts n hn.1 hn.2).1] at c1
    omega
  · rw [← low_cut, wd_out n hn, if_pos rfl, IntKind.wrap_u64]; omega

set_option maxHeartbeats 800000 in
theorem refcut_any (v n : Int) (w : World) : Calls Try.prog 21 #[.int .i64 v, .int .i64 n] w fun e w' => e = .returned (.tuple #[.int .u64 (cutx v (sp n)), .bool (sgn (cutx v (sp n)) (sp n) == v)]) ∧ Drawn0 w w' := by
  obtain ⟨d1, d2⟩ := wd_range n
  have HW := Aside0.mk (width_any n)
  have HL := Aside0.mk (fun w => low_any (IntKind.u64.wrap v) (wd n) w d1 d2 (by rw [IntKind.wrap_u64]; omega))
  simp only [low_cut] at HL
  obtain ⟨c0, c1⟩ := cutx_range v n
  have HS := Aside0.mk (fun w => refsign_any (cutx v (sp n)) n w c0 c1)
  generalize wd n = d at *
  generalize cutx v (sp n) = u at *
  clear c0 c1
  go_enter Try.func21, Try.ntmps21
  go_wp2_with fail
  refine (HW.out _).mono ?_
  rintro e w1 ⟨rfl, rfl⟩
  go_wp2_with fail
  refine (HL.out _).mono ?_
  rintro e w1 ⟨rfl, rfl⟩
  go_wp2_with fail
  refine (HS.out _).mono ?_
  rintro e w1 ⟨rfl, rfl⟩
  go_wp2_with fail
  go_ret2
  exact ⟨rfl, Drawn0.refl _⟩
end Go.Proofs.Ytihafgchgkbfgaa.Hand
