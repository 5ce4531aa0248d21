/- What the reference's Put, Zig, Zag tell: just what enc, zz, zg do. -/
import Derived.Test.YtihafgchgkbfgaaBackPlain
import Derived.Test.YtihafgchgkbfgaaRefPut1
import Derived.Test.YtihafgchgkbfgaaRefZig1
import Derived.Test.YtihafgchgkbfgaaRefZag1
namespace Go.Proofs.Ytihafgchgkbfgaa.Hand
open Go.RowKit Go.Proofs.YtihafgchgkbfgaaW.PrintWords Go.Proofs.YtihafgchgkbfgaaW.PrintLast Go.Proofs.YtihafgchgkbfgaaW.PrintMore
open Go.Proofs.Ytihafgchgkbfgaa.PRefPut Go.Proofs.Ytihafgchgkbfgaa.PRefZig Go.Proofs.Ytihafgchgkbfgaa.PRefZag Go.Proofs.Ytihafgchgkbfgaa.Plain

theorem refzig_is (v : Int) (h0 : -9223372036854775808 ≤ v) (h1 : v < 9223372036854775808) : hourglassref1_Zig.f v = some (zz v) := by
  unfold hourglassref1_Zig.f zz
  by_cases h : 0 ≤ v
  · rw [if_pos h, if_pos h]
    congr 1
    rw [IntKind.wrap_u64, IntKind.wrap_u64]; omega
  · rw [if_neg h, if_neg h]
    have e : wrap64 (-wrap64 (v + 1)) = -(v + 1) := by
      have e1 : wrap64 (v + 1) = v + 1 := by unfold wrap64; omega
      rw [e1]; unfold wrap64; omega
    rw [e]
    congr 1
    rw [IntKind.wrap_u64, IntKind.wrap_u64, IntKind.wrap_u64]; omega

theorem refzag_is (v : Int) (h0 : 0 ≤ v) (h1 : v < 18446744073709551616) : hourglassref1_Zag.f v = some (zg v) := by
  unfold hourglassref1_Zag.f zg
  rw [Int.tmod_eq_emod_of_nonneg h0, Int.tdiv_eq_ediv_of_nonneg h0]
  have e : IntKind.u64.wrap (v / 2) = v / 2 := by rw [IntKind.wrap_u64]; omega
  rw [e]
  by_cases h : v % 2 = 0
  · rw [if_pos h, if_pos h]
    congr 1
    unfold wrap64; omega
  · rw [if_neg h, if_neg h]
    congr 1
    have e1 : wrap64 (v / 2) = v / 2 := by unfold wrap64; omega
    rw [e1]
    have e2 : wrap64 (-(v / 2)) = -(v / 2) := by unfold wrap64; omega
    clear e1
    rw [e2]
    clear e2
    unfold wrap64; omega

theorem refput_loop : ∀ (d n k : Nat), n < 128 ^ (d + 1) → d < k → n < 18446744073709551616 → hourglassref1_Put.f k (n : Int) = some (enc n) := by
  intro d
  induction d with
  | zero =>
    intro n k hn hk _
    obtain ⟨k, rfl⟩ : ∃ m, k = m + 1 := ⟨k - 1, by omega⟩
    have hn' : n < 128 := by simpa using hn
    rw [hourglassref1_Put.f, if_pos (by omega), enc_small hn', show ((n : Int) % 256) = n from by omega]
  | succ d ih =>
    intro n k hn hk h64
    obtain ⟨k, rfl⟩ : ∃ m, k = m + 1 := ⟨k - 1, by omega⟩
    rw [hourglassref1_Put.f]
    by_cases h : n < 128
    · rw [if_pos (by omega), enc_small h, show ((n : Int) % 256) = n from by omega]
    · rw [if_neg (by omega), enc_great h]
      have e1 : IntKind.u64.wrap (Int.tdiv (n : Int) 128) = ((n / 128 : Nat) : Int) := by
        rw [Int.tdiv_eq_ediv_of_nonneg (by omega), IntKind.wrap_u64]; omega
      have e2 : ((Int.tmod (n : Int) 128 % 256 + 128) % 256) = ((n % 128 + 128 : Nat) : Int) := by
        rw [Int.tmod_eq_emod_of_nonneg (by omega)]; omega
      rw [e1, e2, ih (n / 128) k (by rw [Nat.pow_succ] at hn; exact Nat.div_lt_of_lt_mul (by rw [Nat.mul_comm]; exact hn)) (by omega) (by omega)]
      have hl := enc_length 9 (n / 128) (lt_pow10 _ (by omega))
      simp only [Option.bind_some, List.length_singleton]
      rw [if_pos (by omega)]
      rfl
theorem refput_is (n : Nat) (h : n < 18446744073709551616) : hourglassref1_Put.f 20 (n : Int) = some (enc n) := refput_loop 9 n 20 (lt_pow10 n h) (by omega) h
end Go.Proofs.Ytihafgchgkbfgaa.Hand
