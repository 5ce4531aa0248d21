/- Plain facts on numbers in groups of seven bits: what Put writes (enc), that Get reads it back, that rows of them are told apart. No program in sight: the printed functions come in by their own equations. -/
import Derived.Laws.BitsAllLaws
import Derived.Laws.BitsLemmas
import Derived.Laws.BytesArg
import Derived.RowKit
import Derived.Test.YtihafgchgkbfgaaWMore
namespace Go.Proofs.Ytihafgchgkbfgaa.Plain
open Go.RowKit Go.Proofs.YtihafgchgkbfgaaW.PrintWords Go.Proofs.YtihafgchgkbfgaaW.PrintLast Go.Proofs.YtihafgchgkbfgaaW.PrintMore

/-- A number's bytes. -/
def enc (n : Nat) : List Int := if n < 128 then [(n : Int)] else ((n % 128 + 128 : Nat) : Int) :: enc (n / 128)
termination_by n
decreasing_by omega

theorem enc_small {n : Nat} (h : n < 128) : enc n = [(n : Int)] := by rw [enc, if_pos h]
theorem enc_great {n : Nat} (h : ¬ n < 128) : enc n = ((n % 128 + 128 : Nat) : Int) :: enc (n / 128) := by rw [enc, if_neg h]

theorem or128 : ∀ m : Fin 256, (m.val ||| 128) = m.val % 128 + 128 := by decide +kernel
theorem and127 : ∀ m : Fin 256, (m.val &&& 127) = m.val % 128 := by decide +kernel

theorem byte_or (n : Nat) : Go.bits .or .u8 ((n : Int) % 256) 128 = ((n % 128 + 128 : Nat) : Int) := by
  have h : ((n : Int) % 256) = ((n % 256 : Nat) : Int) := by omega
  have h8 : (128 : Int) = ((128 : Nat) : Int) := rfl
  rw [h, h8, u8_or_nat _ _ (Nat.mod_lt _ (by decide)) (by decide)]
  have := or128 ⟨n % 256, Nat.mod_lt _ (by decide)⟩
  simp only at this
  rw [this]
  congr 1
  omega

theorem byte_and (n : Nat) (h : n < 256) : IntKind.u64.wrap (Go.bits .and .u8 (n : Int) 127) = ((n % 128 : Nat) : Int) := by
  have h8 : (127 : Int) = ((127 : Nat) : Int) := rfl
  rw [h8, u8_and_nat _ _ h (by decide)]
  have := and127 ⟨n, h⟩
  simp only at this
  rw [this]
  simp only [IntKind.wrap, IntKind.bits, IntKind.signed]
  simp
  omega

theorem pow7 (i : Nat) : (2 : Nat) ^ (7 * i) = 128 ^ i := by rw [Nat.pow_mul]

/-- A group, put where it belongs. -/
theorem join (V g i : Nat) (hi : i ≤ 9) (hV : V < 128 ^ i) (hg : V + g * 128 ^ i < 18446744073709551616) :
    Go.bits .or .u64 (V : Int) (shl .u64 (g : Int) (wrap64 (7 * (i : Int)))) = ((V + g * 128 ^ i : Nat) : Int) := by
  have h7 : wrap64 (7 * (i : Int)) = ((7 * i : Nat) : Int) := by unfold wrap64; omega
  have hp := pow7 i
  unfold shl
  rw [h7, Int.toNat_natCast]
  have hb : IntKind.u64.bits = 64 := rfl
  rw [hb, Nat.min_eq_left (by omega)]
  have hc : ((g : Int) * 2 ^ (7 * i)) = ((g * 128 ^ i : Nat) : Int) := by
    rw [← hp]; simp
  rw [hc]
  have hw : IntKind.u64.wrap ((g * 128 ^ i : Nat) : Int) = ((g * 128 ^ i : Nat) : Int) := by
    simp only [IntKind.wrap, IntKind.bits, IntKind.signed]
    generalize g * 128 ^ i = q at *
    simp
    omega
  rw [hw, u64_or_nat _ _ (by omega) (by omega)]
  congr 1
  rw [← hp] at hV ⊢
  rw [Nat.or_comm, Nat.mul_comm g, ← Nat.two_pow_add_eq_or_of_lt hV g]
  omega

/-! ### Put -/
def PutEqs (L : Nat → Int → List Int → Option (List Int)) : Prop :=
  ∀ k x1 x5, L (k + 1) x1 x5 = if x1 > 127 then (if x5.length < 140737488355328 then (L k (x1 / 128) (x5 ++ [Go.bits .or .u8 ((x1) % 256) 128])) else (none)) else (if x5.length < 140737488355328 then (some (x5 ++ [(x1) % 256])) else (none))

theorem put_loop {L : Nat → Int → List Int → Option (List Int)} (H : PutEqs L) : ∀ (d n : Nat) (acc : List Int) (k : Nat), n < 128 ^ (d + 1) → d < k → acc.length + d < 140737488355328 → L k (n : Int) acc = some (acc ++ enc n) := by
  intro d
  induction d with
  | zero =>
    intro n acc k hn hk ha
    obtain ⟨k, rfl⟩ : ∃ m, k = m + 1 := ⟨k - 1, by omega⟩
    have hn' : n < 128 := by simpa using hn
    rw [H, if_neg (by omega), if_pos (by omega), enc_small hn', show ((n : Int) % 256) = n from by omega]
  | succ d ih =>
    intro n acc k hn hk ha
    obtain ⟨k, rfl⟩ : ∃ m, k = m + 1 := ⟨k - 1, by omega⟩
    by_cases h : n < 128
    · rw [H, if_neg (by omega), if_pos (by omega), enc_small h, show ((n : Int) % 256) = n from by omega]
    · rw [H, if_pos (by omega), if_pos (by omega), byte_or, show ((n : Int) / 128) = ((n / 128 : Nat) : Int) from by omega]
      rw [ih (n / 128) _ k (by rw [Nat.pow_succ] at hn; exact Nat.div_lt_of_lt_mul (by rw [Nat.mul_comm]; exact hn)) (by omega) (by simp; omega), enc_great h]
      simp

theorem enc_bytes (n : Nat) : ∀ x ∈ enc n, 0 ≤ x ∧ x < 256 := by
  induction n using Nat.strongRecOn with
  | ind n ih =>
    by_cases h : n < 128
    · rw [enc_small h]; intro x hx; simp at hx; omega
    · rw [enc_great h]; intro x hx
      rcases List.mem_cons.1 hx with rfl | hx
      · omega
      · exact ih (n / 128) (by omega) x hx

theorem enc_length (d : Nat) : ∀ n, n < 128 ^ (d + 1) → (enc n).length ≤ d + 1 := by
  induction d with
  | zero => intro n h; rw [enc_small (by simpa using h)]; simp
  | succ d ih =>
    intro n h
    by_cases hn : n < 128
    · rw [enc_small hn]; simp
    · rw [enc_great hn]
      have := ih (n / 128) (by rw [Nat.pow_succ] at h; exact Nat.div_lt_of_lt_mul (by rw [Nat.mul_comm]; exact h))
      simp; omega

theorem enc_pos (n : Nat) : 1 ≤ (enc n).length := by
  by_cases hn : n < 128
  · rw [enc_small hn]; simp
  · rw [enc_great hn]; simp

/-- No number's bytes begin another's. -/
theorem enc_apart : ∀ (a b : Nat) (s t : List Int), enc a ++ s = enc b ++ t → a = b ∧ s = t := by
  intro a
  induction a using Nat.strongRecOn with
  | ind a ih =>
    intro b s t h
    by_cases ha : a < 128 <;> by_cases hb : b < 128
    · rw [enc_small ha, enc_small hb] at h; simp at h; exact ⟨by omega, h.2⟩
    · rw [enc_small ha, enc_great hb] at h; simp at h; omega
    · rw [enc_great ha, enc_small hb] at h; simp at h; omega
    · rw [enc_great ha, enc_great hb] at h; simp only [List.cons_append, List.cons.injEq] at h
      obtain ⟨h1, h2⟩ := h
      obtain ⟨h3, h4⟩ := ih (a / 128) (by omega) _ _ _ h2
      exact ⟨by omega, h4⟩

theorem wrap7_pos (i : Nat) (h : i ≤ 9) : 0 ≤ wrap64 (7 * (i : Int)) := by
  have h7 : wrap64 (7 * (i : Int)) = ((7 * i : Nat) : Int) := by unfold wrap64; omega
  rw [h7]; omega

/-! ### Get -/
def GetEqs (L : Nat → Int → List Int → Int → Int → Option (Int × Int × Int)) (J : Nat → Int → Int → Int → List Int → Int → Int → Bool → Option (Int × Int × Int)) : Prop :=
  (∀ k x2 x7 x8 x9, L (k + 1) x2 x7 x8 x9 = if x9 < x8 then (if 0 ≤ x9 then (if x9 < (x7.length : Int) then (if x9 = 10 then (J k x2 x9 (rd x7 x9) x7 x8 x9 true) else (if x9 = 9 then (J k x2 x9 (rd x7 x9) x7 x8 x9 (decide ((rd x7 x9) > 1))) else (J k x2 x9 (rd x7 x9) x7 x8 x9 false))) else (none)) else (none)) else (some (0, 0, 3))) ∧
  (∀ k x2 x5 x6 x7 x8 x9 x23, J (k + 1) x2 x5 x6 x7 x8 x9 x23 = if x23 = true then (some (0, 0, 3)) else (if 0 ≤ (wrap64 (7 * x5)) then (if x6 < 128 then (if x6 = 0 then (if x5 > 0 then (some (0, 0, 3)) else (some (Go.bits .or .u64 x2 (shl .u64 (IntKind.u64.wrap (Go.bits .and .u8 x6 127)) (wrap64 (7 * x5))), wrap64 (x5 + 1), 0))) else (some (Go.bits .or .u64 x2 (shl .u64 (IntKind.u64.wrap (Go.bits .and .u8 x6 127)) (wrap64 (7 * x5))), wrap64 (x5 + 1), 0))) else (L k (Go.bits .or .u64 x2 (shl .u64 (IntKind.u64.wrap (Go.bits .and .u8 x6 127)) (wrap64 (7 * x5)))) x7 x8 (wrap64 (x9 + 1)))) else (none)))

theorem rd_mid (pre : List Int) (x : Int) (post : List Int) : rd (pre ++ x :: post) (pre.length : Int) = x := by
  unfold rd; simp

theorem get_back {L : Nat → Int → List Int → Int → Int → Option (Int × Int × Int)} {J : Nat → Int → Int → Int → List Int → Int → Int → Bool → Option (Int × Int × Int)} (H : GetEqs L J) :
    ∀ (d n : Nat) (pre b : List Int) (V k : Nat), n < 128 ^ (d + 1) → 2 * d + 1 < k → (0 < pre.length → 0 < n) → pre.length ≤ 9 → V < 128 ^ pre.length → V + n * 128 ^ pre.length < 18446744073709551616 →
      L k (V : Int) (pre ++ (enc n ++ b)) ((pre ++ (enc n ++ b)).length : Int) (pre.length : Int) = some (((V + n * 128 ^ pre.length : Nat) : Int), ((pre.length + (enc n).length : Nat) : Int), 0) := by
  intro d
  induction d with
  | zero =>
    intro n pre b V k hn hk hpos hi hV hT
    obtain ⟨k, rfl⟩ : ∃ m, k = m + 2 := ⟨k - 2, by omega⟩
    have hn' : n < 128 := by simpa using hn
    have h9 : pre.length = 9 → n ≤ 1 := by
      intro h; rw [h] at hT; omega
    rw [H.1, enc_small hn']
    simp only [List.singleton_append]
    rw [if_pos (by simp; omega), if_pos (by omega), if_pos (by simp; omega), if_neg (by omega)]
    simp only [rd_mid]
    have key : J (k + 1) (V : Int) (pre.length : Int) (n : Int) (pre ++ (n : Int) :: b) ((pre ++ (n : Int) :: b).length : Int) (pre.length : Int) false = some (((V + n * 128 ^ pre.length : Nat) : Int), ((pre.length + [(n : Int)].length : Nat) : Int), 0) := by
      rw [H.2, if_neg (by simp), if_pos (wrap7_pos _ hi), if_pos (by omega), byte_and n (by omega), Nat.mod_eq_of_lt hn', join V n pre.length hi hV hT]
      have hw : wrap64 ((pre.length : Int) + 1) = ((pre.length + [(n : Int)].length : Nat) : Int) := by unfold wrap64; simp; omega
      rw [hw]
      by_cases h0 : (n : Int) = 0
      · rw [if_pos h0, if_neg (by omega)]
      · rw [if_neg h0]
    by_cases h : (pre.length : Int) = 9
    · rw [if_pos h, show decide ((n : Int) > 1) = false from by have := h9 (by omega); simp; omega]; exact key
    · rw [if_neg h]; exact key
  | succ d ih =>
    intro n pre b V k hn hk hpos hi hV hT
    by_cases hn' : n < 128
    · obtain ⟨k, rfl⟩ : ∃ m, k = m + 2 := ⟨k - 2, by omega⟩
      have h9 : pre.length = 9 → n ≤ 1 := by
        intro h; rw [h] at hT; omega
      rw [H.1, enc_small hn']
      simp only [List.singleton_append]
      rw [if_pos (by simp; omega), if_pos (by omega), if_pos (by simp; omega), if_neg (by omega)]
      simp only [rd_mid]
      have key : J (k + 1) (V : Int) (pre.length : Int) (n : Int) (pre ++ (n : Int) :: b) ((pre ++ (n : Int) :: b).length : Int) (pre.length : Int) false = some (((V + n * 128 ^ pre.length : Nat) : Int), ((pre.length + [(n : Int)].length : Nat) : Int), 0) := by
        rw [H.2, if_neg (by simp), if_pos (wrap7_pos _ hi), if_pos (by omega), byte_and n (by omega), Nat.mod_eq_of_lt hn', join V n pre.length hi hV hT]
        have hw : wrap64 ((pre.length : Int) + 1) = ((pre.length + [(n : Int)].length : Nat) : Int) := by unfold wrap64; simp; omega
        rw [hw]
        by_cases h0 : (n : Int) = 0
        · rw [if_pos h0, if_neg (by omega)]
        · rw [if_neg h0]
      by_cases h : (pre.length : Int) = 9
      · rw [if_pos h, show decide ((n : Int) > 1) = false from by have := h9 (by omega); simp; omega]; exact key
      · rw [if_neg h]; exact key
    · obtain ⟨k, rfl⟩ : ∃ m, k = m + 2 := ⟨k - 2, by omega⟩
      have h8 : pre.length ≤ 8 := by
        have : pre.length ≠ 9 := by intro h; rw [h] at hT; omega
        omega
      have hsplit : n * 128 ^ pre.length = (n % 128) * 128 ^ pre.length + (n / 128) * 128 ^ (pre.length + 1) := by
        have := Nat.div_add_mod n 128
        rw [Nat.pow_succ]
        generalize 128 ^ pre.length = p at *
        calc n * p = (128 * (n / 128) + n % 128) * p := by rw [this]
          _ = n % 128 * p + n / 128 * (p * 128) := by rw [Nat.add_mul, Nat.add_comm, Nat.mul_comm p 128, ← Nat.mul_assoc, Nat.mul_comm (n / 128) 128]
      have hlow : (n % 128) * 128 ^ pre.length + V < 128 ^ (pre.length + 1) := by
        have h1 : n % 128 ≤ 127 := by omega
        have h2 := Nat.mul_le_mul_right (128 ^ pre.length) h1
        rw [Nat.pow_succ]
        omega
      rw [H.1, enc_great hn']
      simp only [List.cons_append]
      rw [if_pos (by simp; omega), if_pos (by omega), if_pos (by simp; omega), if_neg (by omega), if_neg (by omega), rd_mid]
      rw [H.2, if_neg (by simp), if_pos (wrap7_pos _ hi), if_neg (by omega), byte_and _ (by omega), show (n % 128 + 128) % 128 = n % 128 from by omega, join V (n % 128) pre.length hi hV (by omega)]
      have hw : wrap64 ((pre.length : Int) + 1) = ((pre ++ [((n % 128 + 128 : Nat) : Int)]).length : Int) := by unfold wrap64; simp; omega
      rw [hw, show pre ++ ((n % 128 + 128 : Nat) : Int) :: (enc (n / 128) ++ b) = (pre ++ [((n % 128 + 128 : Nat) : Int)]) ++ (enc (n / 128) ++ b) from by simp]
      rw [ih (n / 128) (pre ++ [((n % 128 + 128 : Nat) : Int)]) b _ k (by rw [Nat.pow_succ] at hn; exact Nat.div_lt_of_lt_mul (by rw [Nat.mul_comm]; exact hn)) (by omega) (fun _ => by omega) (by simp; omega) (by simp only [List.length_append, List.length_cons, List.length_nil]; rw [Nat.zero_add]; omega) (by simp only [List.length_append, List.length_cons, List.length_nil]; rw [Nat.zero_add]; omega)]
      have hl1 : (pre ++ [((n % 128 + 128 : Nat) : Int)]).length = pre.length + 1 := by simp
      have e1 : V + n % 128 * 128 ^ pre.length + n / 128 * 128 ^ (pre.length + 1) = V + n * 128 ^ pre.length := by rw [hsplit]; omega
      have e2 : pre.length + 1 + (enc (n / 128)).length = pre.length + (((n % 128 + 128 : Nat) : Int) :: enc (n / 128)).length := by simp only [List.length_cons]; omega
      rw [hl1, e1, e2]

theorem lt_pow10 (n : Nat) (h : n < 18446744073709551616) : n < 128 ^ (9 + 1) := by
  have : (128 : Nat) ^ (9 + 1) = 1180591620717411303424 := by decide
  omega

theorem get_whole {L : Nat → Int → List Int → Int → Int → Option (Int × Int × Int)} {J : Nat → Int → Int → Int → List Int → Int → Int → Bool → Option (Int × Int × Int)} (H : GetEqs L J)
    (n : Nat) (b : List Int) (k : Nat) (hn : n < 18446744073709551616) (hk : 19 < k) : L k 0 (enc n ++ b) ((enc n ++ b).length : Int) 0 = some ((n : Int), ((enc n).length : Int), 0) := by
  have := get_back H 9 n [] b 0 k (lt_pow10 n hn) (by omega) (by simp) (by simp) (by simp) (by simpa using hn)
  simpa using this

theorem put_whole {L : Nat → Int → List Int → Option (List Int)} (H : PutEqs L) (n : Nat) (acc : List Int) (k : Nat) (hn : n < 18446744073709551616) (hk : 9 < k) (ha : acc.length + 9 < 140737488355328) : L k (n : Int) acc = some (acc ++ enc n) :=
  put_loop H 9 n acc k (lt_pow10 n hn) hk ha

theorem wf_u64 {x : Int} (h : (Lit.int .u64 x).wf = true) : 0 ≤ x ∧ x < 18446744073709551616 := by
  simp [Lit.wf, IntKind.min, IntKind.max, IntKind.bits, IntKind.signed] at h
  omega
theorem wf_i64 {x : Int} (h : (Lit.int .i64 x).wf = true) : -9223372036854775808 ≤ x ∧ x < 9223372036854775808 := by
  simp [Lit.wf, IntKind.min, IntKind.max, IntKind.bits, IntKind.signed] at h
  omega
theorem wf_u8 {x : Int} (h : (Lit.int .u8 x).wf = true) : 0 ≤ x ∧ x < 256 := by
  simp [Lit.wf, IntKind.min, IntKind.max, IntKind.bits, IntKind.signed] at h
  omega

end Go.Proofs.Ytihafgchgkbfgaa.Plain
