/- BitsFew of package hourglasslaw1: its walk, for any two uint64. -/
import Derived.Test.YtihafgchgkbfgaaAwake
import Derived.Test.YtihafgchgkbfgaaPlain
import Derived.Test.YtihafgchgkbfgaaPLenx1
namespace Go.Proofs.Ytihafgchgkbfgaa.Hand
open Go.RowKit Go.Proofs.YtihafgchgkbfgaaW.PrintWords Go.Proofs.YtihafgchgkbfgaaW.PrintLast Go.Proofs.YtihafgchgkbfgaaW.PrintMore
open Go.Proofs.Ytihafgchgkbfgaa.PGet Go.Proofs.Ytihafgchgkbfgaa.PPut Go.Proofs.Ytihafgchgkbfgaa.PLen Go.Proofs.Ytihafgchgkbfgaa.Plain

theorem len_loop : ∀ (d n : Nat) (x : Int) (k : Nat), n < 128 ^ (d + 1) → d < k → 0 ≤ x → x + d < 1000 → bits_Len.l0 k (n : Int) x = some (x + ((enc n).length : Int) - 1) := by
  intro d
  induction d with
  | zero =>
    intro n x k hn hk _ _
    obtain ⟨k, rfl⟩ : ∃ m, k = m + 1 := ⟨k - 1, by omega⟩
    have hn' : n < 128 := by simpa using hn
    simp only [bits_Len.l0]
    rw [if_neg (by omega), enc_small hn']
    congr 1; simp
  | succ d ih =>
    intro n x k hn hk h0 hx
    obtain ⟨k, rfl⟩ : ∃ m, k = m + 1 := ⟨k - 1, by omega⟩
    simp only [bits_Len.l0]
    by_cases h : n < 128
    · rw [if_neg (by omega), enc_small h]
      congr 1; simp
    · rw [if_pos (by omega), show ((n : Int) / 128) = ((n / 128 : Nat) : Int) from by omega, show wrap64 (x + 1) = x + 1 from by unfold wrap64; omega]
      rw [ih (n / 128) (x + 1) k (by rw [Nat.pow_succ] at hn; exact Nat.div_lt_of_lt_mul (by rw [Nat.mul_comm]; exact hn)) (by omega) (by omega) (by omega), enc_great h]
      congr 1; simp; omega

theorem len_is (n : Nat) (h : n < 18446744073709551616) : bits_Len.f 10 (n : Int) = some ((enc n).length : Int) := by
  unfold bits_Len.f
  rw [len_loop 9 n 1 10 (lt_pow10 n h) (by omega) (by omega) (by omega)]
  congr 1; omega

/-- A number of so many bytes lies between two powers. -/
theorem enc_between (n : Nat) : n < 128 ^ (enc n).length ∧ ((enc n).length = 1 ∨ 128 ^ ((enc n).length - 1) ≤ n) := by
  induction n using Nat.strongRecOn with
  | ind n ih =>
    by_cases h : n < 128
    · rw [enc_small h]; simp; omega
    · obtain ⟨h1, h2⟩ := ih (n / 128) (by omega)
      rw [enc_great h]
      simp only [List.length_cons, Nat.add_sub_cancel]
      generalize (enc (n / 128)).length = L at *
      rw [Nat.pow_succ]
      refine ⟨by omega, .inr ?_⟩
      rcases h2 with h2 | h2
      · subst h2; omega
      · cases L with
        | zero => simp; omega
        | succ L => rw [Nat.pow_succ]; simp only [Nat.add_sub_cancel] at h2; omega

theorem enc_mono (a b : Nat) (h : a ≤ b) : (enc a).length ≤ (enc b).length := by
  by_cases hl : (enc a).length ≤ (enc b).length
  · exact hl
  · obtain ⟨_, ha⟩ := enc_between a
    obtain ⟨hb, _⟩ := enc_between b
    have h1 := enc_pos b
    rcases ha with ha | ha
    · omega
    · have := Nat.pow_le_pow_right (n := 128) (by decide) (show (enc b).length ≤ (enc a).length - 1 by omega)
      omega

set_option maxHeartbeats 800000 in
set_option maxRecDepth 100000 in
theorem few_late (a b : Int) (w : World) (h : b < a) : Calls Try.prog 7 #[.int .u64 a, .int .u64 b] w fun e w' => e = .returned (.bool true) ∧ Below w.heap.size w w' := by
  have bt : decide (b < a) = true := decide_eq_true h
  clear h
  go_enter Try.func7, Try.ntmps7
  go_wp2_with fail
  refine (awake_true _).mono ?_
  rintro e w1 ⟨rfl, hb⟩
  go_wp2_with fail
  go_ret
  exact ⟨rfl, by repeat (first | exact hb | apply pw_below_drewN | apply below_drew1)⟩

/-- What the two lengths are, in whole numbers. -/
theorem few_facts (a b : Int) (va : (Lit.int .u64 a).wf = true) (vb : (Lit.int .u64 b).wf = true) (h : ¬ b < a) :
    ∃ m n : Int, bits_Len.f 10 a = some m ∧ bits_Len.f 10 b = some n ∧ m ≤ n ∧ 1 ≤ n ∧ n ≤ 10 ∧ b < 128 ^ n.toNat ∧ (n = 1 ∨ 128 ^ (n.toNat - 1) ≤ b) := by
  obtain ⟨a0, a1⟩ := wf_u64 va
  obtain ⟨b0, b1⟩ := wf_u64 vb
  obtain ⟨A, rfl⟩ := Int.eq_ofNat_of_zero_le a0
  obtain ⟨B, rfl⟩ := Int.eq_ofNat_of_zero_le b0
  have hmono := enc_mono A B (by omega)
  have h1 := enc_pos B
  have h10 := enc_length 9 B (lt_pow10 B (by omega))
  obtain ⟨c1, c2⟩ := enc_between B
  refine ⟨_, _, len_is A (by omega), len_is B (by omega), by omega, by omega, by omega, ?_, ?_⟩
  · rw [Int.toNat_natCast]; exact_mod_cast c1
  · rw [Int.toNat_natCast]
    rcases c2 with c2 | c2
    · left; omega
    · right; exact_mod_cast c2

set_option maxHeartbeats 4000000 in
set_option maxRecDepth 100000 in
theorem few_true (a b : Int) (w : World) (va : (Lit.int .u64 a).wf = true) (vb : (Lit.int .u64 b).wf = true) : Calls Try.prog 7 #[.int .u64 a, .int .u64 b] w fun e w' => e = .returned (.bool true) ∧ Below w.heap.size w w' := by
  by_cases h : b < a
  · exact few_late a b w h
  · obtain ⟨m, n, la, lb, hmn, h1, h10, c1, c2⟩ := few_facts a b va vb h
    have bt : decide (b < a) = false := decide_eq_false h
    have LA := Aside0.mk la
    have LB := Aside0.mk lb
    have c3 : n = 1 ∨ n = 2 ∨ n = 3 ∨ n = 4 ∨ n = 5 ∨ n = 6 ∨ n = 7 ∨ n = 8 ∨ n = 9 ∨ n = 10 := by omega
    clear va vb h la lb
    rcases c3 with rfl | rfl | rfl | rfl | rfl | rfl | rfl | rfl | rfl | rfl
    all_goals
      have C1 := Aside0.mk c1
      have C2 := Aside0.mk c2
      have ct1 := decide_eq_true hmn
      clear hmn h1 h10 c1 c2
      go_enter Try.func7, Try.ntmps7
      go_wp2_with fail
      refine (awake_true _).mono ?_
      rintro e w1 ⟨rfl, hb⟩
      go_wp2_with fail
      refine (bits_Len.calls 10 _ _ _ LB.out).mono ?_
      rintro e w2 ⟨rfl, nd, rfl⟩
      go_wp2_with fail
      refine (bits_Len.calls 10 _ _ _ LA.out).mono ?_
      rintro e w2 ⟨rfl, nd2, rfl⟩
      go_wp2_with fail
      all_goals
        have C1o := C1.out
        have C2o := C2.out
        simp only [Int.reduceToNat, Int.reducePow, Nat.reduceSub] at C1o C2o
        clear C1 C2 LA LB
        first
        | (exfalso; omega)
        | (go_ret; exact ⟨rfl, by repeat (first | exact hb | apply pw_below_drewN | apply below_drew1)⟩)
        | (go_ret; exact ⟨by rw [decide_eq_true (by omega)]; rfl, by repeat (first | exact hb | apply pw_below_drewN | apply below_drew1)⟩)
end Go.Proofs.Ytihafgchgkbfgaa.Hand
