/- Folding and unfolding of signs; a number that is written and read back. -/
import Derived.Test.YtihafgchgkbfgaaOrderWalk
import Derived.Test.YtihafgchgkbfgaaPZagx1
namespace Go.Proofs.Ytihafgchgkbfgaa.Hand
open Go.RowKit Go.Proofs.YtihafgchgkbfgaaW.PrintWords Go.Proofs.YtihafgchgkbfgaaW.PrintLast Go.Proofs.YtihafgchgkbfgaaW.PrintMore
open Go.Proofs.Ytihafgchgkbfgaa.PGet Go.Proofs.Ytihafgchgkbfgaa.PPut Go.Proofs.Ytihafgchgkbfgaa.PZig Go.Proofs.Ytihafgchgkbfgaa.PZag Go.Proofs.Ytihafgchgkbfgaa.Plain

theorem putEqs : PutEqs bits_Put.l0 := fun _ _ _ => rfl
theorem getEqs' : GetEqs bits_Get.l0 bits_Get.j1 := ⟨fun _ _ _ _ _ => rfl, fun _ _ _ _ _ _ _ _ => rfl⟩

theorem put_is (n : Nat) (acc : List Int) (hn : n < 18446744073709551616) (ha : acc.length + 9 < 140737488355328) : bits_Put.f 20 acc (n : Int) = some (acc ++ enc n) := by
  unfold bits_Put.f
  simp only [Option.bind_some, List.length_nil, Nat.zero_add, List.nil_append]
  rw [if_pos (by omega)]
  exact put_whole putEqs n acc 20 hn (by omega) ha

theorem get_is (n : Nat) (b : List Int) (hn : n < 18446744073709551616) : bits_Get.f 30 (enc n ++ b) = some ((n : Int), ((enc n).length : Int), 0) := by
  unfold bits_Get.f
  exact get_whole getEqs' n b 30 hn (by omega)

def zg (v : Int) : Int := if v % 2 = 0 then v / 2 else -(v / 2) - 1

theorem xor_comm_i64 (a b : Int) : Go.bits .xor .i64 a b = Go.bits .xor .i64 b a := by
  show IntKind.i64.wrap ((BitVec.ofInt 64 a ^^^ BitVec.ofInt 64 b).toNat : Int) = IntKind.i64.wrap ((BitVec.ofInt 64 b ^^^ BitVec.ofInt 64 a).toNat : Int)
  rw [BitVec.xor_comm]
theorem xor_zero_i64 (a : Nat) (h : a < 9223372036854775808) : Go.bits .xor .i64 (a : Int) 0 = a := by
  show IntKind.i64.wrap ((BitVec.ofInt 64 (a : Int) ^^^ BitVec.ofInt 64 0).toNat : Int) = _
  have h2 : (BitVec.ofInt 64 (a : Int)).toNat = a := by
    rw [BitVec.ofInt_natCast, BitVec.toNat_ofNat]; exact Nat.mod_eq_of_lt (by omega)
  rw [BitVec.toNat_xor, h2, show (BitVec.ofInt 64 0).toNat = 0 from by decide, Nat.xor_zero, IntKind.wrap_i64]
  omega

theorem zag_is (v : Int) (h0 : 0 ≤ v) (h1 : v < 18446744073709551616) : bits_Zag.f v = some (zg v) := by
  obtain ⟨V, hV⟩ := Int.eq_ofNat_of_zero_le (show 0 ≤ v / 2 by omega)
  unfold bits_Zag.f zg
  have e1 : wrap64 (v / 2) = (V : Int) := by unfold wrap64; omega
  rw [e1, and1 v h0 h1]
  by_cases h : v % 2 = 0
  · rw [if_pos h, h, show wrap64 (-wrap64 0) = 0 from by decide +kernel, xor_zero_i64 V (by omega), hV]
  · rw [if_neg h, show v % 2 = 1 from by omega, show wrap64 (-wrap64 1) = -1 from by decide +kernel, xor_comm_i64, Go.Lib.i64_not V (by omega), hV]

theorem zag_zig (v : Int) (h0 : -9223372036854775808 ≤ v) (h1 : v < 9223372036854775808) : 0 ≤ zz v ∧ zz v < 18446744073709551616 ∧ zg (zz v) = v := by
  unfold zg zz
  split <;> refine ⟨by omega, by omega, ?_⟩ <;> split <;> omega
theorem zig_zag (v : Int) (h0 : 0 ≤ v) (h1 : v < 18446744073709551616) : -9223372036854775808 ≤ zg v ∧ zg v < 9223372036854775808 ∧ zz (zg v) = v := by
  unfold zz zg
  split <;> refine ⟨by omega, by omega, ?_⟩ <;> split <;> omega
end Go.Proofs.Ytihafgchgkbfgaa.Hand
