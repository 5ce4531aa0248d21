/- Rows of numbers, plain: unlike rows have unlike bytes; what is left of a row's bytes behind its first numbers. -/
import Derived.Test.YtihafgchgkbfgaaBackPlain
namespace Go.Proofs.Ytihafgchgkbfgaa.Hand
open Go.RowKit Go.Proofs.YtihafgchgkbfgaaW.PrintWords Go.Proofs.YtihafgchgkbfgaaW.PrintLast Go.Proofs.YtihafgchgkbfgaaW.PrintMore
open Go.Proofs.Ytihafgchgkbfgaa.Plain

/-- The first n numbers' bytes, one behind the other. -/
def encN (l : List Int) : Nat → List Int
  | 0 => []
  | n + 1 => encN l n ++ enc (rd l n).toNat
/-- A row's bytes. -/
def encs (l : List Int) : List Int := l.flatMap fun x => enc x.toNat
theorem encs_nil : encs [] = [] := rfl
theorem encs_cons (x : Int) (l : List Int) : encs (x :: l) = enc x.toNat ++ encs l := List.flatMap_cons
theorem encs_append (l m : List Int) : encs (l ++ m) = encs l ++ encs m := List.flatMap_append
theorem rd_get {l : List Int} (n : Nat) (h : n < l.length) : rd l (n : Int) = l[n] := by
  unfold rd
  rw [Int.toNat_natCast, List.getD_eq_getElem?_getD, List.getElem?_eq_getElem h]
  rfl
theorem encN_take (l : List Int) : ∀ n, n ≤ l.length → encN l n = encs (l.take n)
  | 0, _ => by simp [encN, encs]
  | n + 1, h => by
    simp only [encN]
    rw [encN_take l n (by omega), rd_get n (by omega), List.take_succ_eq_append_getElem (by omega), encs_append, encs_cons, encs_nil, List.append_nil]
theorem encN_whole (l : List Int) : encN l l.length = encs l := by rw [encN_take l _ (Nat.le_refl _), List.take_length]
theorem encs_drop (l : List Int) (n : Nat) (h : n < l.length) : encs (l.drop n) = enc (rd l n).toNat ++ encs (l.drop (n + 1)) := by
  rw [List.drop_eq_getElem_cons h, rd_get n h, encs_cons]

theorem encs_apart : ∀ (a b : List Int), (∀ x ∈ a, 0 ≤ x) → (∀ x ∈ b, 0 ≤ x) → encs a = encs b → a = b
  | [], [], _, _, _ => rfl
  | [], y :: b, _, _, h => by
    have := enc_pos y.toNat
    have h2 : (encs ([] : List Int)).length = (encs (y :: b)).length := by rw [h]
    rw [encs_cons, encs_nil, List.length_append, List.length_nil] at h2
    omega
  | x :: a, [], _, _, h => by
    have := enc_pos x.toNat
    have h2 : (encs (x :: a)).length = (encs ([] : List Int)).length := by rw [h]
    rw [encs_cons, encs_nil, List.length_append, List.length_nil] at h2
    omega
  | x :: a, y :: b, ha, hb, h => by
    have h' : enc x.toNat ++ encs a = enc y.toNat ++ encs b := by rwa [encs_cons, encs_cons] at h
    obtain ⟨h1, h2⟩ := enc_apart _ _ _ _ h'
    have hx := ha x (by simp)
    have hy := hb y (by simp)
    rw [encs_apart a b (fun z hz => ha z (by simp [hz])) (fun z hz => hb z (by simp [hz])) h2, show x = y from by omega]

theorem encs_bytes (l : List Int) : ∀ x ∈ encs l, 0 ≤ x ∧ x < 256 := by
  intro x hx
  obtain ⟨y, _, hy⟩ := List.mem_flatMap.1 hx
  exact enc_bytes _ x hy

theorem byte_inj {x y : Int} (hx : 0 ≤ x ∧ x < 256) (hy : 0 ≤ y ∧ y < 256) (h : UInt8.ofNat x.toNat = UInt8.ofNat y.toNat) : x = y := by
  have := congrArg UInt8.toNat h
  simp only [UInt8.toNat_ofNat'] at this
  omega
theorem map_inj : ∀ (a b : List Int), (∀ x ∈ a, 0 ≤ x ∧ x < 256) → (∀ x ∈ b, 0 ≤ x ∧ x < 256) → a.map (fun n => UInt8.ofNat n.toNat) = b.map (fun n => UInt8.ofNat n.toNat) → a = b
  | [], [], _, _, _ => rfl
  | [], _ :: _, _, _, h => by simp at h
  | _ :: _, [], _, _, h => by simp at h
  | x :: a, y :: b, ha, hb, h => by
    simp only [List.map_cons, List.cons.injEq] at h
    rw [byte_inj (ha x (by simp)) (hb y (by simp)) h.1, map_inj a b (fun z hz => ha z (by simp [hz])) (fun z hz => hb z (by simp [hz])) h.2]

/-- Texts of bytes are alike where the bytes are. -/
theorem str_eq (a b : List Int) (ha : ∀ x ∈ a, 0 ≤ x ∧ x < 256) (hb : ∀ x ∈ b, 0 ≤ x ∧ x < 256) : ((strOfNums a).toList == (strOfNums b).toList) = decide (a = b) := by
  rw [ByteArray.toList_eq, ByteArray.toList_eq]
  rw [Bool.eq_iff_iff, beq_iff_eq, decide_eq_true_iff]
  constructor
  · intro h
    exact map_inj a b ha hb h
  · intro h; rw [h]
theorem str_rows (a b : List Int) (ha : ∀ x ∈ a, 0 ≤ x) (hb : ∀ x ∈ b, 0 ≤ x) : ((strOfNums (encN a a.length)).toList == (strOfNums (encN b b.length)).toList) = decide (a = b) := by
  rw [encN_whole, encN_whole, str_eq _ _ (encs_bytes a) (encs_bytes b)]
  congr 1
  exact propext ⟨encs_apart a b ha hb, fun h => by rw [h]⟩

/-- What 'alike' holds ahead of round n. -/
def al (l0 l1 : List Int) : Nat → Bool
  | 0 => (l0.length : Int) == (l1.length : Int)
  | n + 1 => rd l0 n == rd l1 n
theorem al_len (l0 l1 : List Int) (n : Nat) (h : ∀ j, j < n + 1 → al l0 l1 j = true) : l0.length = l1.length := by
  have := h 0 (by omega)
  simp only [al, beq_iff_eq] at this
  omega
/-- Where the loop stops, 'alike' tells whether the rows are. -/
theorem al_end (l0 l1 : List Int) (n : Nat) (hn : n ≤ l0.length) (h : ∀ j, j < n → al l0 l1 j = true) (hs : ¬ (al l0 l1 n = true ∧ n < l0.length)) : al l0 l1 n = decide (l0 = l1) := by
  cases hb : al l0 l1 n with
  | true =>
    have hnl : n = l0.length := by
      have : ¬ n < l0.length := fun h => hs ⟨hb, h⟩
      omega
    have hall : ∀ j, j < n + 1 → al l0 l1 j = true := fun j hj => by
      by_cases e : j = n
      · rw [e]; exact hb
      · exact h j (by omega)
    have hl := al_len l0 l1 n hall
    symm
    rw [decide_eq_true_iff]
    apply List.ext_getElem hl
    intro j h1 h2
    have := hall (j + 1) (by omega)
    simp only [al, beq_iff_eq] at this
    rw [rd_get j h1, rd_get j h2] at this
    exact this
  | false =>
    symm
    rw [decide_eq_false_iff_not]
    intro e
    subst e
    cases n with
    | zero => simp [al] at hb
    | succ n => simp [al] at hb
end Go.Proofs.Ytihafgchgkbfgaa.Hand
