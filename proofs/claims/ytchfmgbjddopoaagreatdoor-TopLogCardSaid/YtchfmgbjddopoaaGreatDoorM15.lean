import Derived.Laws.BitsAllLaws
import Derived.Laws.BitsLemmas
import Derived.Laws.BytesArg
import Derived.RowKit
import Derived.Lib.Zigzag
import Derived.Test.YtchfmgbjddopoaaGreatDoorM04
import Derived.Test.YtchfmgbjddopoaaGreatDoorM07
import Derived.Test.YtchfmgbjddopoaaGreatDoorM10
import Derived.Test.YtchfmgbjddopoaaGreatDoorM11
import Derived.Test.YtchfmgbjddopoaaGreatDoorM13
import Derived.Test.YtchfmgbjddopoaaGreatDoorM14
set_option linter.unusedVariables false
set_option linter.unusedSimpArgs false
set_option maxHeartbeats 6400000
set_option maxRecDepth 100000
namespace Go.Proofs.YtchfmgbjddopoaaGreatDoor.Plain
open Go.RowKit Go.Proofs.YtchfmgbjddopoaaGreatDoorW.PrintWords Go.Proofs.YtchfmgbjddopoaaGreatDoorW.PrintLast Go.Proofs.YtchfmgbjddopoaaGreatDoorW.PrintMore
theorem ZP : ∀ m : Fin 256, (m.val ||| 128) = m.val % 128 + 128 := by decide +kernel
theorem ZB : ∀ m : Fin 256, (m.val &&& 127) = m.val % 128 := by decide +kernel
theorem Yo (n : Nat) : Go.bits .or .u8 ((n : Int) % 256) 128 = ((n % 128 + 128 : Nat) : Int) := by
 have h : ((n : Int) % 256) = ((n % 256 : Nat) : Int) := by omega
 have h8 : (128 : Int) = ((128 : Nat) : Int) := rfl
 rw [h, h8, u8_or_nat _ _ (Nat.mod_lt _ (by decide)) (by decide)]
 have := ZP ⟨n % 256, Nat.mod_lt _ (by decide)⟩
 simp only at this
 rw [this]
 congr 1
 omega
theorem LX (n : Nat) (h : n < 256) : IntKind.u64.wrap (Go.bits .and .u8 (n : Int) 127) = ((n % 128 : Nat) : Int) := by
 have h8 : (127 : Int) = ((127 : Nat) : Int) := rfl
 rw [h8, u8_and_nat _ _ h (by decide)]
 have := ZB ⟨n, h⟩
 simp only at this
 rw [this]
 simp only [IntKind.wrap, IntKind.bits, IntKind.signed]
 simp
 omega
theorem pow7 (i : Nat) : (2 : Nat) ^ (7 * i) = 128 ^ i := by rw [Nat.pow_mul]
theorem join (V g i : Nat) (hi : i ≤ 9) (hV : V < 128 ^ i) (hg : V + g * 128 ^ i < 18446744073709551616) :
   Go.bits .or .u64 (V : Int) (shl .u64 (g : Int) (wrap64 (7 * (i : Int)))) = ((V + g * 128 ^ i : Nat) : Int) := by
 have h7 : wrap64 (7 * (i : Int)) = ((7 * i : Nat) : Int) := by unfold wrap64; omega
 have hp := pow7 i
 unfold shl
 rw [h7, Int.toNat_natCast]
 have hb : IntKind.u64.bits = 64 := rfl
 rw [hb, Nat.min_eq_left (by omega)]
 have hc : ((g : Int) * 2 ^ (7 * i)) = ((g * 128 ^ i : Nat) : Int) := by
   rw [← hp]; simp
 rw [hc]
 have hw : IntKind.u64.wrap ((g * 128 ^ i : Nat) : Int) = ((g * 128 ^ i : Nat) : Int) := by
   simp only [IntKind.wrap, IntKind.bits, IntKind.signed]
   generalize g * 128 ^ i = q at *
   simp
   omega
 rw [hw, u64_or_nat _ _ (by omega) (by omega)]
 congr 1
 rw [← hp] at hV ⊢
 rw [Nat.or_comm, Nat.mul_comm g, ← Nat.two_pow_add_eq_or_of_lt hV g]
 omega
def Ui (L : Nat → Int → List Int → Option (List Int)) : Prop :=
 ∀ k x1 x5, L (k + 1) x1 x5 = if x1 > 127 then (if x5.length < 140737488355328 then (L k (x1 / 128) (x5 ++ [Go.bits .or .u8 ((x1) % 256) 128])) else (none)) else (if x5.length < 140737488355328 then (some (x5 ++ [(x1) % 256])) else (none))
theorem VO {L : Nat → Int → List Int → Option (List Int)} (H : Ui L) : ∀ (d n : Nat) (acc : List Int) (k : Nat), n < 128 ^ (d + 1) → d < k → acc.length + d < 140737488355328 → L k (n : Int) acc = some (acc ++ enc n) := by
 intro d
 induction d with
 | zero =>
   intro n acc k hn hk ha
   obtain ⟨k, rfl⟩ : ∃ m, k = m + 1 := ⟨k - 1, by omega⟩
   have hn' : n < 128 := by simpa using hn
   rw [H, if_neg (by omega), if_pos (by omega), DR hn', show ((n : Int) % 256) = n from by omega]
 | succ d ih =>
   intro n acc k hn hk ha
   obtain ⟨k, rfl⟩ : ∃ m, k = m + 1 := ⟨k - 1, by omega⟩
   by_cases h : n < 128
   · rw [H, if_neg (by omega), if_pos (by omega), DR h, show ((n : Int) % 256) = n from by omega]
   · rw [H, if_pos (by omega), if_pos (by omega), Yo, show ((n : Int) / 128) = ((n / 128 : Nat) : Int) from by omega]
     rw [ih (n / 128) _ k (by rw [Nat.pow_succ] at hn; exact Nat.div_lt_of_lt_mul (by rw [Nat.mul_comm]; exact hn)) (by omega) (by simp; omega), EZ h]
     simp
theorem I9 (i : Nat) (h : i ≤ 9) : 0 ≤ wrap64 (7 * (i : Int)) := by
 have h7 : wrap64 (7 * (i : Int)) = ((7 * i : Nat) : Int) := by unfold wrap64; omega
 rw [h7]; omega
def Uk (L : Nat → Int → List Int → Int → Int → Option (Int × Int × Int)) (J : Nat → Int → Int → Int → List Int → Int → Int → Bool → Option (Int × Int × Int)) : Prop :=
 (∀ k x2 x7 x8 x9, L (k + 1) x2 x7 x8 x9 = if x9 < x8 then (if 0 ≤ x9 then (if x9 < (x7.length : Int) then (if x9 = 10 then (J k x2 x9 (rd x7 x9) x7 x8 x9 true) else (if x9 = 9 then (J k x2 x9 (rd x7 x9) x7 x8 x9 (decide ((rd x7 x9) > 1))) else (J k x2 x9 (rd x7 x9) x7 x8 x9 false))) else (none)) else (none)) else (some (0, 0, 3))) ∧
 (∀ k x2 x5 x6 x7 x8 x9 x23, J (k + 1) x2 x5 x6 x7 x8 x9 x23 = if x23 = true then (some (0, 0, 3)) else (if 0 ≤ (wrap64 (7 * x5)) then (if x6 < 128 then (if x6 = 0 then (if x5 > 0 then (some (0, 0, 3)) else (some (Go.bits .or .u64 x2 (shl .u64 (IntKind.u64.wrap (Go.bits .and .u8 x6 127)) (wrap64 (7 * x5))), wrap64 (x5 + 1), 0))) else (some (Go.bits .or .u64 x2 (shl .u64 (IntKind.u64.wrap (Go.bits .and .u8 x6 127)) (wrap64 (7 * x5))), wrap64 (x5 + 1), 0))) else (L k (Go.bits .or .u64 x2 (shl .u64 (IntKind.u64.wrap (Go.bits .and .u8 x6 127)) (wrap64 (7 * x5)))) x7 x8 (wrap64 (x9 + 1)))) else (none)))
theorem Ue (pre : List Int) (x : Int) (post : List Int) : rd (pre ++ x :: post) (pre.length : Int) = x := by
 unfold rd; simp
theorem Wp {L : Nat → Int → List Int → Int → Int → Option (Int × Int × Int)} {J : Nat → Int → Int → Int → List Int → Int → Int → Bool → Option (Int × Int × Int)} (H : Uk L J) :
   ∀ (d n : Nat) (pre b : List Int) (V k : Nat), n < 128 ^ (d + 1) → 2 * d + 1 < k → (0 < pre.length → 0 < n) → pre.length ≤ 9 → V < 128 ^ pre.length → V + n * 128 ^ pre.length < 18446744073709551616 →
     L k (V : Int) (pre ++ (enc n ++ b)) ((pre ++ (enc n ++ b)).length : Int) (pre.length : Int) = some (((V + n * 128 ^ pre.length : Nat) : Int), ((pre.length + (enc n).length : Nat) : Int), 0) := by
 intro d
 induction d with
 | zero =>
   intro n pre b V k hn hk hpos hi hV hT
   obtain ⟨k, rfl⟩ : ∃ m, k = m + 2 := ⟨k - 2, by omega⟩
   have hn' : n < 128 := by simpa using hn
   have h9 : pre.length = 9 → n ≤ 1 := by
     intro h; rw [h] at hT; omega
   rw [H.1, DR hn']
   simp only [List.singleton_append]
   rw [if_pos (by simp; omega), if_pos (by omega), if_pos (by simp; omega), if_neg (by omega)]
   simp only [Ue]
   have key : J (k + 1) (V : Int) (pre.length : Int) (n : Int) (pre ++ (n : Int) :: b) ((pre ++ (n : Int) :: b).length : Int) (pre.length : Int) false = some (((V + n * 128 ^ pre.length : Nat) : Int), ((pre.length + [(n : Int)].length : Nat) : Int), 0) := by
     rw [H.2, if_neg (by simp), if_pos (I9 _ hi), if_pos (by omega), LX n (by omega), Nat.mod_eq_of_lt hn', join V n pre.length hi hV hT]
     have hw : wrap64 ((pre.length : Int) + 1) = ((pre.length + [(n : Int)].length : Nat) : Int) := by unfold wrap64; simp; omega
     rw [hw]
     by_cases h0 : (n : Int) = 0
     · rw [if_pos h0, if_neg (by omega)]
     · rw [if_neg h0]
   by_cases h : (pre.length : Int) = 9
   · rw [if_pos h, show decide ((n : Int) > 1) = false from by have := h9 (by omega); simp; omega]; exact key
   · rw [if_neg h]; exact key
 | succ d ih =>
   intro n pre b V k hn hk hpos hi hV hT
   by_cases hn' : n < 128
   · obtain ⟨k, rfl⟩ : ∃ m, k = m + 2 := ⟨k - 2, by omega⟩
     have h9 : pre.length = 9 → n ≤ 1 := by
       intro h; rw [h] at hT; omega
     rw [H.1, DR hn']
     simp only [List.singleton_append]
     rw [if_pos (by simp; omega), if_pos (by omega), if_pos (by simp; omega), if_neg (by omega)]
     simp only [Ue]
     have key : J (k + 1) (V : Int) (pre.length : Int) (n : Int) (pre ++ (n : Int) :: b) ((pre ++ (n : Int) :: b).length : Int) (pre.length : Int) false = some (((V + n * 128 ^ pre.length : Nat) : Int), ((pre.length + [(n : Int)].length : Nat) : Int), 0) := by
       rw [H.2, if_neg (by simp), if_pos (I9 _ hi), if_pos (by omega), LX n (by omega), Nat.mod_eq_of_lt hn', join V n pre.length hi hV hT]
       have hw : wrap64 ((pre.length : Int) + 1) = ((pre.length + [(n : Int)].length : Nat) : Int) := by unfold wrap64; simp; omega
       rw [hw]
       by_cases h0 : (n : Int) = 0
       · rw [if_pos h0, if_neg (by omega)]
       · rw [if_neg h0]
     by_cases h : (pre.length : Int) = 9
     · rw [if_pos h, show decide ((n : Int) > 1) = false from by have := h9 (by omega); simp; omega]; exact key
     · rw [if_neg h]; exact key
   · obtain ⟨k, rfl⟩ : ∃ m, k = m + 2 := ⟨k - 2, by omega⟩
     have h8 : pre.length ≤ 8 := by
       have : pre.length ≠ 9 := by intro h; rw [h] at hT; omega
       omega
     have hsplit : n * 128 ^ pre.length = (n % 128) * 128 ^ pre.length + (n / 128) * 128 ^ (pre.length + 1) := by
       have := Nat.div_add_mod n 128
       rw [Nat.pow_succ]
       generalize 128 ^ pre.length = p at *
       calc n * p = (128 * (n / 128) + n % 128) * p := by rw [this]
         _ = n % 128 * p + n / 128 * (p * 128) := by rw [Nat.add_mul, Nat.add_comm, Nat.mul_comm p 128, ← Nat.mul_assoc, Nat.mul_comm (n / 128) 128]
     have hlow : (n % 128) * 128 ^ pre.length + V < 128 ^ (pre.length + 1) := by
       have h1 : n % 128 ≤ 127 := by omega
       have h2 := Nat.mul_le_mul_right (128 ^ pre.length) h1
       rw [Nat.pow_succ]
       omega
     rw [H.1, EZ hn']
     simp only [List.cons_append]
     rw [if_pos (by simp; omega), if_pos (by omega), if_pos (by simp; omega), if_neg (by omega), if_neg (by omega), Ue]
     rw [H.2, if_neg (by simp), if_pos (I9 _ hi), if_neg (by omega), LX _ (by omega), show (n % 128 + 128) % 128 = n % 128 from by omega, join V (n % 128) pre.length hi hV (by omega)]
     have hw : wrap64 ((pre.length : Int) + 1) = ((pre ++ [((n % 128 + 128 : Nat) : Int)]).length : Int) := by unfold wrap64; simp; omega
     rw [hw, show pre ++ ((n % 128 + 128 : Nat) : Int) :: (enc (n / 128) ++ b) = (pre ++ [((n % 128 + 128 : Nat) : Int)]) ++ (enc (n / 128) ++ b) from by simp]
     rw [ih (n / 128) (pre ++ [((n % 128 + 128 : Nat) : Int)]) b _ k (by rw [Nat.pow_succ] at hn; exact Nat.div_lt_of_lt_mul (by rw [Nat.mul_comm]; exact hn)) (by omega) (fun _ => by omega) (by simp; omega) (by simp only [List.length_append, List.length_cons, List.length_nil]; rw [Nat.zero_add]; omega) (by simp only [List.length_append, List.length_cons, List.length_nil]; rw [Nat.zero_add]; omega)]
     have hl1 : (pre ++ [((n % 128 + 128 : Nat) : Int)]).length = pre.length + 1 := by simp
     have e1 : V + n % 128 * 128 ^ pre.length + n / 128 * 128 ^ (pre.length + 1) = V + n * 128 ^ pre.length := by rw [hsplit]; omega
     have e2 : pre.length + 1 + (enc (n / 128)).length = pre.length + (((n % 128 + 128 : Nat) : Int) :: enc (n / 128)).length := by simp only [List.length_cons]; omega
     rw [hl1, e1, e2]
theorem Rq (n : Nat) (h : n < 18446744073709551616) : n < 128 ^ (9 + 1) := by
 have : (128 : Nat) ^ (9 + 1) = 1180591620717411303424 := by decide
 omega
theorem Vf {L : Nat → Int → List Int → Int → Int → Option (Int × Int × Int)} {J : Nat → Int → Int → Int → List Int → Int → Int → Bool → Option (Int × Int × Int)} (H : Uk L J)
   (n : Nat) (b : List Int) (k : Nat) (hn : n < 18446744073709551616) (hk : 19 < k) : L k 0 (enc n ++ b) ((enc n ++ b).length : Int) 0 = some ((n : Int), ((enc n).length : Int), 0) := by
 have := Wp H 9 n [] b 0 k (Rq n hn) (by omega) (by simp) (by simp) (by simp) (by simpa using hn)
 simpa using this
theorem UY {L : Nat → Int → List Int → Option (List Int)} (H : Ui L) (n : Nat) (acc : List Int) (k : Nat) (hn : n < 18446744073709551616) (hk : 9 < k) (ha : acc.length + 9 < 140737488355328) : L k (n : Int) acc = some (acc ++ enc n) :=
 VO H 9 n acc k (Rq n hn) hk ha
theorem YQ (v : Int) (h0 : -9223372036854775808 ≤ v) (h1 : v < 9223372036854775808) : PZig.Gn.f v = some (zz v) := by
 unfold PZig.Gn.f zz
 by_cases h : 0 ≤ v
 · have e1 : IntKind.u64.wrap (IntKind.u64.wrap v * 2) = (((2 * v).toNat : Nat) : Int) := by
     rw [IntKind.wrap_u64, IntKind.wrap_u64]; omega
   have e2 : IntKind.u64.wrap (v / 9223372036854775808) = ((0 : Nat) : Int) := by
     rw [IntKind.wrap_u64]; omega
   rw [e1, e2, u64_xor_nat _ _ (by omega) (by omega), Nat.xor_zero, if_pos h]
   congr 1; omega
 · have e1 : IntKind.u64.wrap (IntKind.u64.wrap v * 2) = (((2 * v + 18446744073709551616).toNat : Nat) : Int) := by
     rw [IntKind.wrap_u64, IntKind.wrap_u64]; omega
   have e2 : IntKind.u64.wrap (v / 9223372036854775808) = ((2 ^ 64 - 1 : Nat) : Int) := by
     rw [IntKind.wrap_u64]; omega
   rw [e1, e2, u64_xor_nat _ _ (by omega) (by decide), Nat.xor_comm, Go.Lib.xor_ones64 _ (by omega), if_neg h]
   congr 1; omega
theorem and1 (x : Int) (h₀ : 0 ≤ x) (h₁ : x < 18446744073709551616) : Go.bits .and .u64 x 1 = x % 2 := Go.Lib.u64_and1 x h₀ h₁
theorem Y7 : Ui PPut.CE.l0 := fun _ _ _ => rfl
theorem Ye : Uk PGet.BC.l0 PGet.BC.j1 := ⟨fun _ _ _ _ _ => rfl, fun _ _ _ _ _ _ _ _ => rfl⟩
theorem Y6 (n : Nat) (acc : List Int) (hn : n < 18446744073709551616) (ha : acc.length + 9 < 140737488355328) : PPut.CE.f 20 acc (n : Int) = some (acc ++ enc n) := by
 unfold PPut.CE.f
 simp only [Option.bind_some, List.length_nil, Nat.zero_add, List.nil_append]
 rw [if_pos (by omega)]
 exact UY Y7 n acc 20 hn (by omega) ha
theorem Zn (n : Nat) (b : List Int) (hn : n < 18446744073709551616) : PGet.BC.f 30 (enc n ++ b) = some ((n : Int), ((enc n).length : Int), 0) := by
 unfold PGet.BC.f
 exact Vf Ye n b 30 hn (by omega)
def zg (v : Int) : Int := if v % 2 = 0 then v / 2 else -(v / 2) - 1
theorem Oj (a b : Int) : Go.bits .xor .i64 a b = Go.bits .xor .i64 b a := by
 show IntKind.i64.wrap ((BitVec.ofInt 64 a ^^^ BitVec.ofInt 64 b).toNat : Int) = IntKind.i64.wrap ((BitVec.ofInt 64 b ^^^ BitVec.ofInt 64 a).toNat : Int)
 rw [BitVec.xor_comm]
theorem Oi (a : Nat) (h : a < 9223372036854775808) : Go.bits .xor .i64 (a : Int) 0 = a := by
 show IntKind.i64.wrap ((BitVec.ofInt 64 (a : Int) ^^^ BitVec.ofInt 64 0).toNat : Int) = _
 have h2 : (BitVec.ofInt 64 (a : Int)).toNat = a := by
   rw [BitVec.ofInt_natCast, BitVec.toNat_ofNat]; exact Nat.mod_eq_of_lt (by omega)
 rw [BitVec.toNat_xor, h2, show (BitVec.ofInt 64 0).toNat = 0 from by decide, Nat.xor_zero, IntKind.wrap_i64]
 omega
theorem YT (v : Int) (h0 : 0 ≤ v) (h1 : v < 18446744073709551616) : PZag.Gp.f v = some (zg v) := by
 obtain ⟨V, hV⟩ := Int.eq_ofNat_of_zero_le (show 0 ≤ v / 2 by omega)
 unfold PZag.Gp.f zg
 have e1 : wrap64 (v / 2) = (V : Int) := by unfold wrap64; omega
 rw [e1, and1 v h0 h1]
 by_cases h : v % 2 = 0
 · rw [if_pos h, h, show wrap64 (-wrap64 0) = 0 from by decide +kernel, Oi V (by omega), hV]
 · rw [if_neg h, show v % 2 = 1 from by omega, show wrap64 (-wrap64 1) = -1 from by decide +kernel, Oj, Go.Lib.i64_not V (by omega), hV]
theorem Xo (v : Int) (h0 : -9223372036854775808 ≤ v) (h1 : v < 9223372036854775808) : 0 ≤ zz v ∧ zz v < 18446744073709551616 ∧ zg (zz v) = v := by
 unfold zg zz
 split <;> refine ⟨by omega, by omega, ?_⟩ <;> split <;> omega
end Go.Proofs.YtchfmgbjddopoaaGreatDoor.Plain
namespace Go.Proofs.YtchfmgbjddopoaaGreatDoor.Hand
open Go.RowKit Go.Proofs.YtchfmgbjddopoaaGreatDoorW.PrintWords Go.Proofs.YtchfmgbjddopoaaGreatDoorW.PrintLast Go.Proofs.YtchfmgbjddopoaaGreatDoorW.PrintMore
attribute [local go_sem ↓] Go.wp_at_zero Go.wp_at_succ
open Plain (Ky Wr Rc Ver Ent St Bytes enc pack zz zg Dk Ce)
theorem UV {w : World} {base : Nat} {ok : Nat → Prop} {v : Value} {l : List Int} (h : Kd.R (Kd.int .u8) 5 w base ok v l) : Bq w base v l := by
 obtain ⟨_, inner, ho, hr⟩ := h
 rw [Kd.UX hr] at ho
 exact ho
section
variable {w : World} {B : Nat} {v : Value} {l : List Int}
theorem put_any (n : Nat) (h : Bq w B v l) (hl : l.length ≤ 1000000) (hn : n < 18446744073709551616) : Calls Tryz.prog 36 #[v, .int .u64 n] w fun e w' => ∃ v', e = .returned v' ∧ Bq w' w.heap.size v' (l ++ enc n) ∧ Below w.heap.size w w' := by
 obtain ⟨A, c, rfl⟩ := Bq.slice h
 refine (PPut.CE.calls 20 A c l n _ w (Vu h) (Pn h) (Plain.Y6 n l hn (by omega))).mono ?_
 rintro e w' ⟨v', rfl, hr, hb⟩
 exact ⟨v', rfl, UV hr, hb⟩
theorem GZ (n : Nat) (h : Bq w B v l) (hl : l.length ≤ 1000000) (hn : n < 9223372036854775808) : Calls Tryz.prog 37 #[v, .int .i64 n] w fun e w' => ∃ v', e = .returned v' ∧ Bq w' w.heap.size v' (l ++ enc n) ∧ Below w.heap.size w w' := by
 have hp := put_any n h hl (by omega)
 obtain ⟨A, c, rfl⟩ := Bq.slice h
 have e1 : IntKind.u64.wrap (n : Int) = (n : Int) := by rw [IntKind.wrap_u64]; omega
 clear h hl hn
 go_enter Tryz.func37, Tryz.ntmps37
 go_wp2_with (go_at_call 36; refine hp.mono ?_; clear hp; rintro e w1 ⟨v', rfl, h⟩)
 go_returns
 exact ⟨v', rfl, h⟩
theorem VT (t n : Int) (ht : Dk t) (h0 : 0 ≤ n) (h1 : n < 256) : Go.bits .or .u64 (IntKind.u64.wrap ((IntKind.u64.wrap t) * 256)) (IntKind.u64.wrap n) = ((pack t n : Nat) : Int) := by
 unfold Dk at ht
 obtain ⟨T, rfl⟩ := Int.eq_ofNat_of_zero_le ht.1
 obtain ⟨M, rfl⟩ := Int.eq_ofNat_of_zero_le h0
 have e1 : IntKind.u64.wrap ((IntKind.u64.wrap ((T : Nat) : Int)) * 256) = ((2 ^ 8 * T : Nat) : Int) := by
   rw [IntKind.wrap_u64, IntKind.wrap_u64]; omega
 have e2 : IntKind.u64.wrap ((M : Nat) : Int) = ((M : Nat) : Int) := by rw [IntKind.wrap_u64]; omega
 rw [e1, e2, u64_or_nat _ _ (by omega) (by omega), ← Nat.two_pow_add_eq_or_of_lt (by omega) T]
 unfold pack
 omega
theorem VU (w : World) (t n : Int) (ht : Dk t) (h0 : 0 ≤ n) (h1 : n < 256) : Calls Tryz.prog 75 #[.agg #[.int .i64 t, .int .u8 n]] w fun e w' => e = .returned (.tuple #[.int .u64 (pack t n : Nat), .int .i64 0]) ∧ Below w.heap.size w w' := by
 have hG : Aa (∀ W, Calls Tryz.prog 29 #[.agg #[.int .i64 t, .int .u8 n]] W fun e w' => e = .returned (.bool true) ∧ Below W.heap.size W w') := ⟨fun W => by have := BD W t n; rwa [show Ce t = true from Plain.EH.2 ht] at this⟩
 have hp := Aa.mk (VT t n ht h0 h1)
 clear ht h0 h1
 go_enter Tryz.func75, Tryz.ntmps75
 go_wp2_with (first
   | ((with_reducible refine Ac (N := 1) rfl ?_); refine Aj (N := 1) (C := #[.int .i64 t, .int .u8 n]) rfl rfl (by first | (go_simp; done) | (go_simp; rfl)) ?_; intro g1 w1 h1 b1 f1; have c0 : w1.cell? ⟨g1, 0, none⟩ = some (.int .i64 t) := Bk.cell b1.out rfl; have c1 : w1.cell? ⟨g1, 1, none⟩ = some (.int .u8 n) := Bk.cell b1.out rfl)
   | (go_at_call 29; refine (hG.out _).mono ?_; rintro e w2 ⟨rfl, f2⟩; have b2 := Aa.mk (b1.out.Ad f2); replace f2 := Aa.mk f2; have d0 : w2.cell? ⟨g1, 0, none⟩ = some (.int .i64 t) := Bk.cell b2.out rfl; have d1 : w2.cell? ⟨g1, 1, none⟩ = some (.int .u8 n) := Bk.cell b2.out rfl))
 go_returns
 exact ⟨by rw [← hp.out]; rfl, f1.out.trans (f2.out.mono f1.out.size)⟩
theorem Ey (t n : Int) (h : Bq w B v l) (hl : l.length ≤ 1000000) (ht : Dk t) (h0 : 0 ≤ n) (h1 : n < 256) : Calls Tryz.prog 40 #[v, .agg #[.int .i64 t, .int .u8 n]] w fun e w' => ∃ v', e = .returned v' ∧ Bq w' w.heap.size v' (l ++ enc (pack t n)) ∧ Below w.heap.size w w' := by
 have hP := Aa.mk fun W => VU W t n ht h0 h1
 have hlt := Plain.FU ht h0 h1
 have hU : Aa (∀ W, Below w.heap.size w W → Calls Tryz.prog 36 #[v, .int .u64 (pack t n : Nat)] W fun e w' => ∃ v', e = .returned v' ∧ Bq w' w.heap.size v' (l ++ enc (pack t n)) ∧ Below W.heap.size W w') := ⟨fun W f => (put_any (pack t n) (own_below h f) hl (by omega)).mono (by
   rintro e w' ⟨v', rfl, ho, f'⟩
   exact ⟨v', rfl, AV ho f.size, f'⟩)⟩
 obtain ⟨A, c, rfl⟩ := Bq.slice h
 clear h hl ht h0 h1 hlt
 generalize pack t n = K at hP hU ⊢
 go_enter Tryz.func40, Tryz.ntmps40
 go_wp2_with (first
   | ((with_reducible refine Ac (N := 3) rfl ?_); refine Aj (N := 3) (C := #[.int .i64 t, .int .u8 n]) rfl rfl (by first | (go_simp; done) | (go_simp; rfl)) ?_; intro g1 w1 h1 b1 f1; have c0 : w1.cell? ⟨g1, 0, none⟩ = some (.int .i64 t) := Bk.cell b1.out rfl; have c1 : w1.cell? ⟨g1, 1, none⟩ = some (.int .u8 n) := Bk.cell b1.out rfl)
   | (go_at_call 75; refine (hP.out _).mono ?_; rintro e w2 ⟨rfl, f2⟩; have F2 := Aa.mk (f1.out.trans (f2.mono f1.out.size)); clear f2)
   | (go_at_call 36; refine (hU.out _ F2.out).mono ?_; rintro e w3 ⟨v', rfl, ho, f3⟩; replace f3 := Aa.mk f3; replace ho := Aa.mk ho))
 go_returns
 exact ⟨v', rfl, ho.out, F2.out.trans (f3.out.mono F2.out.size)⟩
end
theorem Xm (w : World) (x : Int) (h0 : -9223372036854775808 ≤ x) (h1 : x < 9223372036854775808) : Calls Tryz.prog 38 #[.int .i64 x] w fun e w' => e = .returned (.int .u64 (zz x)) ∧ Az w w' := PZig.Gn.calls x (zz x) w (Plain.YQ x h0 h1)
theorem Xp (w : World) (x : Int) (h0 : -9223372036854775808 ≤ x) (h1 : x < 9223372036854775808) : Calls Tryz.prog 44 #[.int .u64 (zz x)] w fun e w' => e = .returned (.int .i64 x) ∧ Az w w' := by
 have := Plain.Xo x h0 h1
 exact PZag.Gp.calls (zz x) x w (by rw [Plain.YT _ this.1 this.2.1, this.2.2])
theorem get_any (w : World) (A : Option Addr) (c n : Nat) (rest : List Int) (hC : Kd.C (Kd.int .u8) w A (enc n ++ rest).length (enc n ++ rest)) (hc : (enc n ++ rest).length ≤ c) (hn : n < 18446744073709551616) :
   Calls Tryz.prog 77 #[.slice A (enc n ++ rest).length c] w fun e w' => e = .returned (.tuple #[.int .u64 n, .int .i64 ((enc n).length : Int), .int .i64 0]) ∧ Az w w' :=
 PGet.BC.calls 30 A c (enc n ++ rest) n ((enc n).length : Int) 0 w hC hc (Plain.Zn n rest hn)
theorem RQ (w : World) (t n : Int) (ht : Dk t) (h0 : 0 ≤ n) (h1 : n < 256) : Calls Tryz.prog 78 #[.int .u64 (pack t n : Nat)] w fun e w' => e = .returned (.tuple #[.agg #[.int .i64 t, .int .u8 n], .int .i64 0]) ∧ Below w.heap.size w w' := by
 refine PUnpack.Ew.calls _ t n 0 w ?_
 have hp := Plain.FU ht h0 h1
 have hz : pack t n &&& 2 ^ 63 = 0 := by
   refine Nat.eq_of_testBit_eq fun i => ?_
   rw [Nat.testBit_and, Nat.testBit_two_pow, Nat.zero_testBit]
   by_cases hi : 63 = i
   · subst hi
     rw [Nat.testBit_lt_two_pow (by omega)]
     rfl
   · simp [hi]
 unfold PUnpack.Ew.f
 rw [show (9223372036854775808 : Int) = ((2 ^ 63 : Nat) : Int) from by decide, u64_and_nat _ _ (by omega) (by decide), hz, if_pos (show ((0 : Nat) : Int) = 0 from rfl)]
 have e : ((pack t n : Nat) : Int) = t * 256 + n := by
   unfold pack Dk at *
   omega
 rw [e, IntWalk.wrap64_in _ (by unfold Dk at ht; constructor <;> omega)]
 congr 2
 · omega
 · congr 1
   omega
end Go.Proofs.YtchfmgbjddopoaaGreatDoor.Hand
namespace Go.Proofs.YtchfmgbjddopoaaGreatDoor.Hand
open Go.RowKit Go.Proofs.YtchfmgbjddopoaaGreatDoorW.PrintWords Go.Proofs.YtchfmgbjddopoaaGreatDoorW.PrintLast Go.Proofs.YtchfmgbjddopoaaGreatDoorW.PrintMore
attribute [local go_sem ↓] Go.wp_at_zero Go.wp_at_succ
open Plain (Ky Wr Rc Ver Ent St Bytes enc IR EL encR zz pack Dk)
def Rdr (w : World) (g b : Nat) (l : List Int) : Prop :=
 ∃ o c, Bk w g #[.slice (some ⟨b, o, none⟩) l.length c, .bool false] 95 ∧ l.length ≤ c ∧ l.length ≤ 1000000 ∧ b ≠ g ∧ b < w.heap.size ∧ ∀ j x, l[j]? = some x → w.cell? ⟨b, o + j, none⟩ = some (.int .u8 x)
section
variable {w w' : World} {g b : Nat} {l : List Int} {T : Nat → Prop}
theorem Rdr.fr (h : Rdr w g b l) (f : Fr T w w') (hg : ¬ T g) (hb : ¬ T b) : Rdr w' g b l := by
 obtain ⟨o, c, h1, h2, h3, h4, h5, h6⟩ := h
 exact ⟨o, c, Ob.fr h1 f hg, h2, h3, h4, Nat.lt_of_lt_of_le h5 f.size, fun j x hj => by rw [CQ (f.block b h5 hb)]; exact h6 j x hj⟩
theorem Rdr.below (h : Rdr w g b l) (f : Below w.heap.size w w') : Rdr w' g b l := h.fr (T := fun _ => False) (Fr.of_below f) id id
theorem Rdr.lt (h : Rdr w g b l) : g < w.heap.size := by
 obtain ⟨o, c, h1, _⟩ := h
 exact Ob.lt h1
theorem ZT {w : World} {b o : Nat} {l : List Int} (hl : l.length ≤ 1000000) (h : ∀ j x, l[j]? = some x → w.cell? ⟨b, o + j, none⟩ = some (.int .u8 x)) : Kd.C (Kd.int .u8) w (some ⟨b, o, none⟩) l.length l :=
 Kd.FI (enc := Value.int .u8) (d := (0 : Int)) (h1 := fun _ => rfl) ⟨rfl, by omega, fun _ => ⟨_, rfl, fun j hj => by
   rw [Addr.add_mid, List.getD_eq_getElem?_getD]
   exact h j _ (by rw [List.getElem?_eq_getElem hj]; rfl)⟩⟩
theorem Rdr.step {o c m : Nat} {w : World} {g b : Nat} {l1 l2 : List Int} {o' c' : Nat} (hm : m = l1.length) (h2 : (l1 ++ l2).length ≤ c) (h3 : (l1 ++ l2).length ≤ 1000000) (h4 : b ≠ g) (h5 : b < w.heap.size)
   (h6 : ∀ j x, (l1 ++ l2)[j]? = some x → w.cell? ⟨b, o + j, none⟩ = some (.int .u8 x)) (h1 : Bk w g #[.slice (some ⟨b, o', none⟩) ((l1 ++ l2).length - m) c', .bool false] 95) (ho : c' = c - m) (hoo : c' ≠ 0 → o' = o + m) : Rdr w g b l2 := by
 subst hm
 rw [List.length_append, Nat.add_sub_cancel_left] at h1
 simp only [List.length_append] at h2 h3
 refine ⟨o', c', h1, by omega, by omega, h4, h5, fun j x hj => ?_⟩
 have hjl := (List.getElem?_eq_some_iff.1 hj).1
 rw [hoo (by omega), Nat.add_assoc]
 exact h6 _ x (by rw [List.getElem?_append_right (by omega), Nat.add_sub_cancel_left]; exact hj)
end
theorem Po (w : World) (g b n : Nat) (rest : List Int) (h : Rdr w g b (enc n ++ rest)) (hn : n < 18446744073709551616) :
   Calls Tryz.prog 45 #[.pointer (some ⟨g, 0, none⟩)] w fun e w' => e = .returned (.int .u64 n) ∧ Rdr w' g b rest ∧ Fr (fun k => k = g) w w' := by
 obtain ⟨o, c, h1, h2, h3, h4, h5, h6⟩ := h
 have c0 : w.cell? ⟨g, 0, none⟩ = some (.slice (some ⟨b, o, none⟩) (enc n ++ rest).length c) := Bk.cell h1 rfl
 have z0 := Bk.free h1 0
 have hG := get_any w (some ⟨b, o, none⟩) c n rest (ZT h3 h6) h2 hn
 obtain ⟨m, hm⟩ : ∃ m, m = (enc n).length := ⟨_, rfl⟩
 obtain ⟨L, hL⟩ : ∃ L, L = (enc n ++ rest).length := ⟨_, rfl⟩
 rw [← hm] at hG
 rw [← hL] at hG c0
 have hmL : m ≤ L := by rw [hm, hL, List.length_append]; omega
 have hLc : L ≤ c := by rw [hL]; exact h2
 have hLm : L ≤ 1000000 := by rw [hL]; exact h3
 have hfin : Aa (∀ (W : World) (o' c' : Nat), Bk W g #[.slice (some ⟨b, o', none⟩) (L - m) c', .bool false] 95 → Fr (fun k => k = g) w W → c' = c - m → (c' ≠ 0 → o' = o + m) → Rdr W g b rest) := ⟨fun W o' c' hB f ho hoo =>
   Rdr.step hm h2 h3 h4 (Nat.lt_of_lt_of_le h5 f.size) (fun j x hj => by rw [CQ (f.block b h5 h4)]; exact h6 j x hj) (by rw [← hL]; exact hB) ho hoo⟩
 replace h1 := Aa.mk h1
 clear h2 h3 h6 hm hL
 go_enter Tryz.func45, Tryz.ntmps45
 go_wp2_with (first
   | (go_at_call 77; refine hG.mono ?_; clear hG; rintro e w1 ⟨rfl, q, rfl⟩; have h1' := Aa.mk (Ob.drewN h1.out q)))
 · go_returns
   exact ⟨rfl, hfin.out _ _ _ (Bk.set h1'.out 0 _) (((Fr.refl _ w).drewN q).set g 0 _ (.inl rfl)) (by omega) (fun e => by omega), ((Fr.refl _ w).drewN q).set g 0 _ (.inl rfl)⟩
 · go_returns
   exact ⟨rfl, hfin.out _ _ _ (Bk.set h1'.out 0 _) (((Fr.refl _ w).drewN q).set g 0 _ (.inl rfl)) rfl (fun _ => rfl), ((Fr.refl _ w).drewN q).set g 0 _ (.inl rfl)⟩
theorem EM (w : World) (g b n : Nat) (M : Int) (rest : List Int) (h : Rdr w g b (enc n ++ rest)) (hn : (n : Int) ≤ M) (hM : M < 1000000) :
   Calls Tryz.prog 43 #[.pointer (some ⟨g, 0, none⟩), .int .i64 M] w fun e w' => e = .returned (.int .i64 n) ∧ Rdr w' g b rest ∧ Fr (fun k => k = g) w w' := by
 have hN := Po w g b n rest h (by omega)
 have d1 : decide (M < (n : Int)) = false := by simp; omega
 have d2 : decide ((n : Int) > M) = false := by simp; omega
 clear h
 go_enter Tryz.func43, Tryz.ntmps43
 go_wp2_with (first
   | (go_at_call 45; refine hN.mono ?_; clear hN; rintro e w1 ⟨rfl, r1, f1⟩; replace r1 := Aa.mk r1; replace f1 := Aa.mk f1))
 go_returns
 exact ⟨rfl, r1.out, f1.out⟩
abbrev BX (t n : Int) : Array Value := #[.int .i64 t, .int .u8 n]
theorem Ic : (Tryz.prog.info? 32).map (·.size) = some 2 := by kernel_rfl
theorem Gs (w : World) (g b : Nat) (t n : Int) (rest : List Int) (h : Rdr w g b (enc (pack t n) ++ rest)) (ht : Dk t) (h0 : 0 ≤ n) (h1 : n < 256) :
   Calls Tryz.prog 46 #[.pointer (some ⟨g, 0, none⟩)] w fun e w' => e = .returned (.agg (BX t n)) ∧ Rdr w' g b rest ∧ Fr (fun k => k = g) w w' := by
 have hN := fun W (hW : Rdr W g b (enc (pack t n) ++ rest)) => Po W g b (pack t n) rest hW (by have := Plain.FU ht h0 h1; omega)
 have hU : ∀ W, Calls Tryz.prog 78 #[.int .u64 (pack t n : Nat)] W fun e w' => e = .returned (.tuple #[.agg (BX t n), .int .i64 0]) ∧ Below W.heap.size W w' := fun W => RQ W t n ht h0 h1
 replace hN := Aa.mk hN
 replace hU := Aa.mk hU
 replace h := Aa.mk h
 obtain ⟨C, hC⟩ : ∃ C, C = BX t n := ⟨_, rfl⟩
 rw [← hC] at hU
 have hCs : Aa (C.size = 2) := ⟨by rw [hC]; rfl⟩
 have hC1 : Aa (C.all (·.oneCell') = true) := ⟨by rw [hC]; kernel_rfl⟩
 rw [← hC]
 clear ht h0 h1 hC
 go_enter Tryz.func46, Tryz.ntmps46
 go_wp2_with (first
   | ((with_reducible refine Ac (N := 2) rfl ?_); refine Aj (N := 2) (C := BX 0 0) rfl rfl (by first | (go_simp; done) | (go_simp; rfl)) ?_; intro g1 w1 h1 b1 f1; have r1 := Aa.mk (h.out.below f1.out))
   | (go_at_call 45; refine (hN.out _ r1.out).mono ?_; rintro e w2 ⟨rfl, r2, f2⟩; have b2 := Aa.mk (Ob.fr b1.out f2 (by have := h.out.lt; have := h1.out; omega)); replace r2 := Aa.mk r2; replace f2 := Aa.mk f2)
   | (go_at_call 78; refine (hU.out _).mono ?_; rintro e w3 ⟨rfl, f3⟩; have b3 := Aa.mk (Ob.Ad b2.out f3); have r3 := Aa.mk (r2.out.below f3); replace f3 := Aa.mk f3)
   | ((with_reducible refine Ac (N := 3) rfl ?_); refine Aj (N := 3) (C := BX 0 0) rfl rfl (by first | (go_simp; done) | (go_simp; rfl)) ?_; intro g4 w4 h4 b4 f4; have r4 := Aa.mk (r3.out.below f4.out))
   | ((with_reducible refine Af (t := 32) (p := 3) (v := .tmp 9) rfl ?_); go_must (refine Ak rfl (ty := 32) (x := .tmp 3) (y := .tmp 9) (cells := C) rfl rfl rfl b4.out (by rw [hCs.out]; exact Ic) hC1.out (by rw [hCs.out]; exact Nat.le_refl 2) C (Aq hCs.out) ?_); intro w5 b5 f5)
   | ((with_reducible refine Ac (N := 15) rfl ?_); go_must (refine Au (N := 15) rfl rfl rfl rfl b5.out Tryz.underlying32 rfl Ic C.toList (AU hCs.out) (by rw [Array.length_toList, hCs.out]) ?_))
   | ((with_reducible refine Af (t := 32) (p := 2) (v := .tmp 15) rfl ?_)
      have b25 := Aa.mk (Ob.fr (Ob.Ad b3.out f4.out) f5.out (by have := (Ob.lt b3.out); have := h4.out; omega))
      go_must (refine Ak rfl (ty := 32) (x := .tmp 2) (y := .tmp 15) (cells := C) rfl rfl rfl b25.out (by rw [hCs.out]; exact Ic) hC1.out (by rw [hCs.out]; exact Nat.le_refl 2) C (Aq hCs.out) ?_); intro w6 b6 f6))
 have q1 := h1.out
 have q4 := h4.out
 have s1 := f1.out.size
 have s2 := f2.out.size
 have s3 := f3.out.size
 have s4 := f4.out.size
 have hb := h.out.lt
 have hb4 := r4.out
 obtain ⟨_, _, _, _, _, hne, hbl, _⟩ := h.out
 refine DY Tryz.results46 rfl b6.out Tryz.underlying32 rfl Ic hCs.out rfl ⟨rfl, (hb4.fr f5.out (by omega) (by omega)).fr f6.out (by omega) (by omega), ?_⟩
 have F : Fr (fun k => k = g ∨ k = g1 ∨ k = g4) w w6 := (((((Fr.of_below f1.out).trans (f2.out.weaken fun k _ e => .inl e)).trans (Fr.of_below f3.out)).trans (Fr.of_below f4.out)).trans (f5.out.weaken fun k _ e => .inr (.inr e))).trans (f6.out.weaken fun k _ e => .inr (.inl e))
 exact F.weaken fun k hk e => by omega
end Go.Proofs.YtchfmgbjddopoaaGreatDoor.Hand
namespace Go.Proofs.YtchfmgbjddopoaaGreatDoor.Hand
open Go.RowKit Go.Proofs.YtchfmgbjddopoaaGreatDoorW.PrintWords Go.Proofs.YtchfmgbjddopoaaGreatDoorW.PrintLast Go.Proofs.YtchfmgbjddopoaaGreatDoorW.PrintMore
attribute [local go_sem ↓] Go.wp_at_zero Go.wp_at_succ
open Plain (Ky Wr Rc Ver Ent St Bytes ltS GU)
abbrev GV (w : World) (v : Value) (vs : List Ver) : Prop := w.ownsRow 0 116 4 v vs.length (vs.flatMap En)
theorem GV.row {w : World} {v : Value} {vs : List Ver} (h : GV w v vs) : WM w v vs := RowK.own BZ h rfl
theorem Y8 (w : World) (v : Ver) (t n : Int) : Calls Tryz.prog 185 #[.agg (En v).toArray, .agg (BX t n)] w fun e w' => e = .returned (.int .i64 (GU v.t v.n t n)) ∧ Below w.heap.size w w' := by
 obtain ⟨t1, n1, x, y⟩ := v
 have hC : ∀ W, Calls Tryz.prog 68 #[.agg #[.int .i64 t1, .int .u8 n1], .agg #[.int .i64 t, .int .u8 n]] W fun e w' => e = .returned (.int .i64 (GU t1 n1 t n)) ∧ Below W.heap.size W w' := fun W => D6 W t1 n1 t n
 obtain ⟨X, hX⟩ : ∃ X, X = GU t1 n1 t n := ⟨_, rfl⟩
 rw [← hX] at hC
 show Calls Tryz.prog 185 #[.agg #[.int .i64 t1, .int .u8 n1, .string x, .bool y], .agg #[.int .i64 t, .int .u8 n]] w fun e w' => e = .returned (.int .i64 (GU t1 n1 t n)) ∧ Below w.heap.size w w'
 rw [← hX]
 clear hX
 replace hC := Aa.mk hC
 go_enter Tryz.func185, Tryz.ntmps185
 go_wp2_with (first
   | ((with_reducible refine Ac (N := 2) rfl ?_); refine Aj (N := 2) (C := #[.int .i64 t1, .int .u8 n1, .string x, .bool y]) rfl rfl (by first | (go_simp; done) | (go_simp; rfl)) ?_; intro g2 w1 h2 b2 f1)
   | ((with_reducible refine Ac (N := 3) rfl ?_); refine Aj (N := 3) (C := #[.int .i64 t, .int .u8 n]) rfl rfl (by first | (go_simp; done) | (go_simp; rfl)) ?_; intro g3 w2 h3 b3 f2; have b22 := Aa.mk (b2.out.Ad f2.out); have c0 := Bk.cell b22.out (j := 0) rfl; have c1 := Bk.cell b22.out (j := 1) rfl; have d0 := Bk.cell b3.out (j := 0) rfl; have d1 := Bk.cell b3.out (j := 1) rfl)
   | (go_at_call 68; refine (hC.out _).mono ?_; rintro e w3 ⟨rfl, f3⟩; replace f3 := Aa.mk f3))
 go_returns
 exact ⟨rfl, (f1.out.trans (f2.out.mono f1.out.size)).trans (f3.out.mono (Nat.le_trans f1.out.size f2.out.size))⟩
theorem PS (w : World) (v : Value) (vs : List Ver) (t n : Int) (h : GV w v vs) (hn : vs.length ≤ 1000) (hlt : ∀ x ∈ vs, ltS x.t x.n t n) :
   Calls Tryz.prog 184 #[v, .agg (BX t n), .func (.func 185) #[] #[]] w fun e w' => e = .returned (.tuple #[.int .i64 vs.length, .bool false]) ∧ Below w.heap.size w w' := by
 obtain ⟨A, c, rfl⟩ := h.row.slice
 obtain ⟨N, hN⟩ : ∃ N, N = vs.length := ⟨_, rfl⟩
 have hr := h.row
 rw [← hN] at hr hn ⊢
 have hP : ∀ (x : Ver) W, Calls Tryz.prog 185 #[.agg (En x).toArray, .agg (BX t n)] W fun e w' => e = .returned (.int .i64 (GU x.t x.n t n)) ∧ Below W.heap.size W w' := fun x W => Y8 W x t n
 have hlt2 : ∀ x ∈ vs, GU x.t x.n t n = -1 := fun x hx => by
   have := hlt x hx
   unfold GU
   unfold ltS at this
   repeat' split
   all_goals omega
 replace hr := Aa.mk hr
 replace hN := Aa.mk hN
 replace hP := Aa.mk hP
 replace hlt2 := Aa.mk hlt2
 clear hlt h
 go_enter Tryz.func184, Tryz.ntmps184
 go_wp2_with (first
   | ((with_reducible refine Ac (N := 4) rfl ?_); refine Aj (N := 4) (C := #[.int .i64 t, .int .u8 n]) rfl rfl (by first | (go_simp; done) | (go_simp; rfl)) ?_; intro g2 w1 h2 b2 f1))
 go_loopw [9, 10] (fun i j w' => ∃ k : Nat, k ≤ N ∧ i = .int .i64 k ∧ j = .int .i64 N ∧ Aa (Bk w' g2 #[.int .i64 t, .int .u8 n] 32) ∧ Aa (Below w.heap.size w w')) (fun i _ _ => N - (intOf i).toNat)
 case atStart => exact ⟨0, Nat.zero_le _, rfl, rfl, b2, f1⟩
 case round =>
   obtain ⟨k, hk, rfl, rfl, hb, HB⟩ := hrel
   by_cases hlt : k < N
   case neg =>
     obtain rfl : k = N := by omega
     have d1 : decide ((k : Int) < (k : Int)) = false := by simp
     have d2 : decide (k < k) = false := by simp
     go_wp2_with fail
     go_quiet (fail)
     go_wp2_with fail
     go_returns
     exact ⟨rfl, Ae HB.out _⟩
   obtain ⟨m, hm⟩ : ∃ m, m = (k + N) / 2 := ⟨_, rfl⟩
   have hm1 : k ≤ m ∧ m < N := by omega
   have d1 : decide ((k : Int) < (N : Int)) = true := by simp; omega
   have d2 : decide (k < N) = true := by simp; omega
   have e1 : ((k : Int) + (N : Int)) / 2 = (m : Int) := by omega
   obtain ⟨b, o, rfl, hbn, hc, hbs, hrr⟩ := (hr.out.below HB.out).at_ (by rw [← hN.out]; omega)
   replace hrr := hrr m (by rw [← hN.out]; omega)
   have hx := hlt2.out (vs[m]!) (by rw [getElem!_pos vs m (by rw [← hN.out]; omega)]; exact List.getElem_mem _)
   generalize vs[m]! = x at hrr hx
   replace hm := Aa.mk hm
   clear hbn
   replace hbs := Aa.mk hbs
   replace hx := Aa.mk hx
   replace hrr := Aa.mk hrr
   go_wp2_with fail
   have hver : ∀ W, Below wr.heap.size wr W → W.cell? ⟨b, o + m * 4, none⟩ = some (.int .i64 x.t) ∧ W.cell? ⟨b, o + m * 4 + 1, none⟩ = some (.int .u8 x.n) ∧ W.cell? ⟨b, o + m * 4 + 2, none⟩ = some (.string x.val) ∧ W.cell? ⟨b, o + m * 4 + 3, none⟩ = some (.bool x.gone) := fun W f => by
     have e := fun j => CQ (f.block b hbs.out) j
     exact ⟨(e _).trans (hrr.out 0 _ rfl), (e _).trans (hrr.out 1 _ rfl), (e _).trans (hrr.out 2 _ rfl), (e _).trans (hrr.out 3 _ rfl)⟩
   replace hver := Aa.mk hver
   have hP1 : Aa (∀ W, Calls Tryz.prog 185 #[.agg (En x).toArray, .agg (BX t n)] W fun e w' => e = .returned (.int .i64 (-1)) ∧ Below W.heap.size W w') := ⟨fun W => by have := hP.out x W; rwa [hx.out] at this⟩
   have e2 : IntKind.i64.wrap ((m : Int) + 1) = ((m + 1 : Nat) : Int) := by rw [IntWalk.i64_in _ ⟨by omega, by omega⟩]; rfl
   have hm2 := Aa.mk hm1
   have hn2 := Aa.mk hn
   clear hm1
   refine wp_region_noPanic ?_
   go_region_held_law (fun w' => (w'.cell? ⟨b, o + m * 4, none⟩ = some (.int .i64 x.t) ∧ w'.cell? ⟨b, o + m * 4 + 1, none⟩ = some (.int .u8 x.n) ∧ w'.cell? ⟨b, o + m * 4 + 2, none⟩ = some (.string x.val) ∧ w'.cell? ⟨b, o + m * 4 + 3, none⟩ = some (.bool x.gone)) ∧ (w'.cell? ⟨g2, 0, none⟩ = some (.int .i64 t) ∧ w'.cell? ⟨g2, 1, none⟩ = some (.int .u8 n)) ∧ Bk w' g2 #[.int .i64 t, .int .u8 n] 32)
     ((first | exact ⟨hver.out _ (Ag (Below.refl _ _)), ⟨Bk.cell hb.out.drew rfl, Bk.cell hb.out.drew rfl⟩, hb.out.drew⟩ | exact ⟨hver.out _ (Aa.out G3), ⟨Bk.cell (Aa.out b3) rfl, Bk.cell (Aa.out b3) rfl⟩, Aa.out b3⟩))
     ((go_at_call 185
       refine (hP1.out _).mono ?_
       rintro e w3 ⟨rfl, f3⟩
       have b3 := Aa.mk (Ob.Ad hb.out.drew f3)
       have G3 := Aa.mk ((Ag (Below.refl wr.heap.size wr)).trans f3)
       clear f3))
   refine NoPanic.normal ?_
   go_split_ands
   go_wp2_with fail
   have := hm2.out
   refine ⟨⟨m + 1, by omega, by rw [Int.natCast_add]; rfl, rfl, b3, ⟨HB.out.trans (G3.out.mono HB.out.size)⟩⟩, ?_⟩
   simp only [intOf]
   clear hn e2 e1
   omega
structure Lc (w : World) (c : Nat) (v : Value) (vs : List Ver) : Prop where
 c : Bk w c #[v] 213
 v : GV w v vs
theorem Lc.below {w w' : World} {c : Nat} {v : Value} {vs : List Ver} (h : Lc w c v vs) (f : Below w.heap.size w w') : Lc w' c v vs := ⟨h.c.Ad f, own_below h.v f⟩
theorem Lc.fr {w w' : World} {c : Nat} {v : Value} {vs : List Ver} {T : Nat → Prop} (h : Lc w c v vs) (f : Fr T w w') (hc : ¬ T c) (hv : ∀ k, T k → v.ownBlock ≠ some k) : Lc w' c v vs := ⟨Ob.fr h.c f hc, AP h.v f hv⟩
theorem Kv (w : World) (c : Nat) (v : Value) (vs : List Ver) (t n : Int) (h : Lc w c v vs) (hn : vs.length ≤ 1000) (hlt : ∀ x ∈ vs, ltS x.t x.n t n) :
   Calls Tryz.prog 134 #[.pointer (some ⟨c, 0, none⟩), .agg (BX t n)] w fun e w' => e = .returned (.tuple #[.int .i64 vs.length, .bool false]) ∧ Below w.heap.size w w' := by
 obtain ⟨A, cp, rfl⟩ := h.v.row.slice
 have hS : Aa (∀ W, GV W (.slice A vs.length cp) vs → Calls Tryz.prog 184 #[.slice A vs.length cp, .agg (BX t n), .func (.func 185) #[] #[]] W fun e w' => e = .returned (.tuple #[.int .i64 vs.length, .bool false]) ∧ Below W.heap.size W w') := ⟨fun W hW => PS W _ vs t n hW hn hlt⟩
 obtain ⟨N, hN⟩ : ∃ N, N = vs.length := ⟨_, rfl⟩
 rw [← hN] at hS h ⊢
 replace h := Aa.mk h
 replace hN := Aa.mk hN
 clear hn hlt
 go_enter Tryz.func134, Tryz.ntmps134
 go_wp2_with (first
   | ((with_reducible refine Ac (N := 3) rfl ?_); refine Aj (N := 3) (C := #[.int .i64 t, .int .u8 n]) rfl rfl (by first | (go_simp; done) | (go_simp; rfl)) ?_; intro g2 w1 h2 b2 f1; have hc1 := Aa.mk (h.out.below f1.out)))
 refine wp_region_noPanic ?_
 go_region_held_law (fun w' => (w'.cell? ⟨c, 0, none⟩ = some (.slice A N cp) ∧ w'.cell? ⟨g2, 0, none⟩ = some (.int .i64 t) ∧ w'.cell? ⟨g2, 1, none⟩ = some (.int .u8 n)) ∧ Bk w' c #[.slice A N cp] 213 ∧ Bk w' g2 #[.int .i64 t, .int .u8 n] 32)
   ((first | exact ⟨⟨Bk.cell hc1.out.c.drew rfl, Bk.cell b2.out.drew rfl, Bk.cell b2.out.drew rfl⟩, hc1.out.c.drew, b2.out.drew⟩ | exact ⟨⟨Bk.cell (hc1.out.c.drew.Ad (Aa.out f3)) rfl, Bk.cell (b2.out.drew.Ad (Aa.out f3)) rfl, Bk.cell (b2.out.drew.Ad (Aa.out f3)) rfl⟩, hc1.out.c.drew.Ad (Aa.out f3), b2.out.drew.Ad (Aa.out f3)⟩))
   ((go_at_call 184; refine (hS.out _ (hc1.out.below (Ag (Below.refl _ _))).v).mono ?_; rintro e w3 ⟨rfl, f3⟩; replace f3 := Aa.mk f3))
 refine NoPanic.normal ?_
 go_split_ands
 go_wp2_with fail
 go_returns
 have h := f1.out.size
 exact ⟨rfl, f1.out.trans ((Ag (Below.refl _ _)).trans (f3.out.mono h))⟩
theorem N7 (w : World) (c : Nat) (v : Value) (vs : List Ver) (t n : Int) (h : Lc w c v vs) (hn : vs.length ≤ 1000) (hlt : ∀ x ∈ vs, ltS x.t x.n t n) :
   Calls Tryz.prog 127 #[.pointer (some ⟨c, 0, none⟩), .agg (BX t n)] w fun e w' => e = .returned (.bool false) ∧ Below w.heap.size w w' := by
 have hS : Aa (∀ W, Lc W c v vs → Calls Tryz.prog 134 #[.pointer (some ⟨c, 0, none⟩), .agg #[.int .i64 t, .int .u8 n]] W fun e w' => e = .returned (.tuple #[.int .i64 vs.length, .bool false]) ∧ Below W.heap.size W w') := ⟨fun W hW => Kv W c v vs t n hW hn hlt⟩
 replace h := Aa.mk h
 clear hn hlt
 go_enter Tryz.func127, Tryz.ntmps127
 go_wp2_with (first
   | ((with_reducible refine Ac (N := 3) rfl ?_); refine Aj (N := 3) (C := #[.int .i64 t, .int .u8 n]) rfl rfl (by first | (go_simp; done) | (go_simp; rfl)) ?_; intro g2 w1 h2 b2 f1; have hc1 := Aa.mk (h.out.below f1.out); have c0 := Bk.cell b2.out (j := 0) rfl; have c1 := Bk.cell b2.out (j := 1) rfl)
   | (go_at_call 134; refine (hS.out _ hc1.out).mono ?_; rintro e w3 ⟨rfl, f3⟩; replace f3 := Aa.mk f3))
 go_returns
 have h := f1.out.size
 exact ⟨rfl, f1.out.trans (f3.out.mono h)⟩
theorem Oe (w : World) (c : Nat) (v : Value) (vs : List Ver) (h : Lc w c v vs) : Calls Tryz.prog 179 #[.pointer (some ⟨c, 0, none⟩)] w fun e w' => e = .returned (.int .i64 vs.length) ∧ w' = w := by
 obtain ⟨A, cp, rfl⟩ := h.v.row.slice
 have c0 : w.cell? ⟨c, 0, none⟩ = some (.slice A vs.length cp) := Bk.cell h.c rfl
 clear h
 go_enter Tryz.func179, Tryz.ntmps179
 go_wp2_with fail
 go_returns
 exact ⟨rfl, rfl⟩
end Go.Proofs.YtchfmgbjddopoaaGreatDoor.Hand
