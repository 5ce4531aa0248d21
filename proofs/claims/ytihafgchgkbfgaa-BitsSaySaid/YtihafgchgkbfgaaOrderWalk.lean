/- BitsOrder of package hourglasslaw1: its walk, for every int64. -/
import Derived.Test.YtihafgchgkbfgaaAwake
import Derived.Test.YtihafgchgkbfgaaPlain
import Derived.Lib.Zigzag
namespace Go.Proofs.Ytihafgchgkbfgaa.Hand
open Go.RowKit Go.Proofs.YtihafgchgkbfgaaW.PrintWords Go.Proofs.YtihafgchgkbfgaaW.PrintLast Go.Proofs.YtihafgchgkbfgaaW.PrintMore
open Go.Proofs.Ytihafgchgkbfgaa.PGet Go.Proofs.Ytihafgchgkbfgaa.PPut Go.Proofs.Ytihafgchgkbfgaa.PZig Go.Proofs.Ytihafgchgkbfgaa.Plain

def zz (v : Int) : Int := if 0 ≤ v then 2 * v else -2 * v - 1

theorem zig_is (v : Int) (h0 : -9223372036854775808 ≤ v) (h1 : v < 9223372036854775808) : bits_Zig.f v = some (zz v) := by
  unfold bits_Zig.f zz
  by_cases h : 0 ≤ v
  · have e1 : IntKind.u64.wrap (IntKind.u64.wrap v * 2) = (((2 * v).toNat : Nat) : Int) := by
      rw [IntKind.wrap_u64, IntKind.wrap_u64]; omega
    have e2 : IntKind.u64.wrap (v / 9223372036854775808) = ((0 : Nat) : Int) := by
      rw [IntKind.wrap_u64]; omega
    rw [e1, e2, u64_xor_nat _ _ (by omega) (by omega), Nat.xor_zero, if_pos h]
    congr 1; omega
  · have e1 : IntKind.u64.wrap (IntKind.u64.wrap v * 2) = (((2 * v + 18446744073709551616).toNat : Nat) : Int) := by
      rw [IntKind.wrap_u64, IntKind.wrap_u64]; omega
    have e2 : IntKind.u64.wrap (v / 9223372036854775808) = ((2 ^ 64 - 1 : Nat) : Int) := by
      rw [IntKind.wrap_u64]; omega
    rw [e1, e2, u64_xor_nat _ _ (by omega) (by decide), Nat.xor_comm, Go.Lib.xor_ones64 _ (by omega), if_neg h]
    congr 1; omega

theorem and1 (x : Int) (h₀ : 0 ≤ x) (h₁ : x < 18446744073709551616) : Go.bits .and .u64 x 1 = x % 2 := Go.Lib.u64_and1 x h₀ h₁

set_option maxHeartbeats 800000 in
set_option maxRecDepth 100000 in
theorem order_true (v : Int) (w : World) (hv : (Lit.int .i64 v).wf = true) : Calls Try.prog 4 #[.int .i64 v] w fun e w' => e = .returned (.bool true) ∧ Below w.heap.size w w' := by
  obtain ⟨h0, h1⟩ := wf_i64 hv
  have HZ := zig_is v h0 h1
  by_cases h : 0 ≤ v
  · have b1 : (Go.bits .and .u64 (zz v) 1 == 0) = true := by
      rw [beq_iff_eq, and1 _ (by unfold zz; split <;> omega) (by unfold zz; split <;> omega)]; unfold zz; split <;> omega
    have b2 : ((zz v) / 2 == IntKind.u64.wrap v) = true := by
      rw [beq_iff_eq, IntKind.wrap_u64]; unfold zz; split <;> omega
    have bt : decide (0 ≤ v) = true := decide_eq_true h
    generalize zz v = U at *
    have A1 := Aside0.mk HZ
    clear HZ h0 h1 hv h
    go_enter Try.func4, Try.ntmps4
    go_wp2_with fail
    refine (awake_true _).mono ?_
    rintro e w1 ⟨rfl, hb⟩
    go_wp2_with fail
    refine (bits_Zig.calls v U _ A1.out).mono ?_
    rintro e w2 ⟨rfl, nd, rfl⟩
    go_wp2_with fail
    go_ret
    exact ⟨rfl, by repeat (first | exact hb | apply pw_below_drewN | apply below_drew1)⟩
  · have b1 : (Go.bits .and .u64 (zz v) 1 == 1) = true := by
      rw [beq_iff_eq, and1 _ (by unfold zz; split <;> omega) (by unfold zz; split <;> omega)]; unfold zz; split <;> omega
    have b2 : ((zz v) / 2 == IntKind.u64.wrap (wrap64 (-1 - v))) = true := by
      rw [beq_iff_eq, IntKind.wrap_u64]; unfold zz wrap64; split <;> omega
    have bt : decide (0 ≤ v) = false := decide_eq_false h
    generalize zz v = U at *
    have A1 := Aside0.mk HZ
    clear HZ h0 h1 hv h
    go_enter Try.func4, Try.ntmps4
    go_wp2_with fail
    refine (awake_true _).mono ?_
    rintro e w1 ⟨rfl, hb⟩
    go_wp2_with fail
    refine (bits_Zig.calls v U _ A1.out).mono ?_
    rintro e w2 ⟨rfl, nd, rfl⟩
    go_wp2_with fail
    go_ret
    exact ⟨rfl, by repeat (first | exact hb | apply pw_below_drewN | apply below_drew1)⟩
end Go.Proofs.Ytihafgchgkbfgaa.Hand
