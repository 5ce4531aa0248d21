/- Plain facts on changes within a text: two bytes that change their places, four bytes side by side that are changed, change the sum. No program in sight. -/
import Derived.Test.YtdjhjbjcfebaeaaAdd
namespace Go.Proofs.Ytdjhjbjcfebaeaa.Plain
open Go.RowKit Go.Proofs.YtdjhjbjcfebaeaaW.PrintWords

theorem upd_diff (c d : Nat) (x y : Nat) : upd (c ^^^ d) ((x ^^^ y : Nat) : Int) = upd c (x : Int) ^^^ rep 8 (d ^^^ y) := by
  unfold upd
  rw [← rep_xor, Int.toNat_natCast, Int.toNat_natCast]
  congr 1
  ac_rfl

theorem fold4 (c : Nat) (b0 b1 b2 b3 y0 y1 y2 y3 : Nat) :
    fold c [((b0 ^^^ y0 : Nat) : Int), ((b1 ^^^ y1 : Nat) : Int), ((b2 ^^^ y2 : Nat) : Int), ((b3 ^^^ y3 : Nat) : Int)] = fold c [(b0 : Int), (b1 : Int), (b2 : Int), (b3 : Int)] ^^^ burst y0 y1 y2 y3 := by
  unfold fold burst
  simp only [List.foldl_cons, List.foldl_nil]
  have h0 : upd c ((b0 ^^^ y0 : Nat) : Int) = upd c (b0 : Int) ^^^ rep 8 y0 := by
    have := upd_diff c 0 b0 y0
    rwa [Nat.xor_zero, Nat.zero_xor] at this
  rw [h0, upd_diff, upd_diff, upd_diff]

theorem xor_self_add {a b : Nat} (h : a ^^^ b = a) : b = 0 := by
  have : a ^^^ (a ^^^ b) = a ^^^ a := by rw [h]
  rwa [← Nat.xor_assoc, Nat.xor_self, Nat.zero_xor] at this

/-- Four bytes side by side, one of them at least changed: another sum. -/
theorem burst_changes (pre post : List Int) (b0 b1 b2 b3 y0 y1 y2 y3 : Nat) (hpre : ∀ x ∈ pre, x < 256)
    (hb : b0 < 256 ∧ b1 < 256 ∧ b2 < 256 ∧ b3 < 256) (h0 : y0 < 256) (h1 : y1 < 256) (h2 : y2 < 256) (h3 : y3 < 256) (hy : ¬ (y0 = 0 ∧ y1 = 0 ∧ y2 = 0 ∧ y3 = 0)) :
    add 0 (pre ++ [((b0 ^^^ y0 : Nat) : Int), ((b1 ^^^ y1 : Nat) : Int), ((b2 ^^^ y2 : Nat) : Int), ((b3 ^^^ y3 : Nat) : Int)] ++ post) ≠ add 0 (pre ++ [(b0 : Int), (b1 : Int), (b2 : Int), (b3 : Int)] ++ post) := by
  intro h
  unfold add at h
  have h' : ∀ a b : Nat, ones ^^^ a = ones ^^^ b → a = b := fun a b e => by
    have : ones ^^^ (ones ^^^ a) = ones ^^^ (ones ^^^ b) := by rw [e]
    rwa [ones_ones, ones_ones] at this
  have e := h' _ _ h
  rw [fold_append, fold_append, fold_append, fold_append, fold4] at e
  have lp : fold (ones ^^^ 0) pre < 4294967296 := fold_lt pre (xor_lt ones_lt (by decide)) hpre
  have l4 : fold (fold (ones ^^^ 0) pre) [(b0 : Int), (b1 : Int), (b2 : Int), (b3 : Int)] < 4294967296 := fold_lt _ lp (by
    intro x hx; simp at hx; rcases hx with rfl | rfl | rfl | rfl <;> omega)
  have lb : burst y0 y1 y2 y3 < 4294967296 := by
    unfold burst
    exact rep_lt 8 (xor_lt (rep_lt 8 (xor_lt (rep_lt 8 (xor_lt (rep_lt 8 (by omega)) (by omega))) (by omega))) (by omega))
  exact hy (burst_zero h0 h1 h2 h3 (xor_self_add (fold_apart post (xor_lt l4 lb) l4 e)))

/-- Two unlike bytes side by side that change their places: another sum. -/
theorem swap_changes (pre post : List Int) (a b : Nat) (hpre : ∀ x ∈ pre, x < 256) (ha : a < 256) (hb : b < 256) (h : a ≠ b) :
    add 0 (pre ++ (b : Int) :: (a : Int) :: post) ≠ add 0 (pre ++ (a : Int) :: (b : Int) :: post) := by
  intro e
  unfold add at e
  have h' : ∀ a b : Nat, ones ^^^ a = ones ^^^ b → a = b := fun a b e => by
    have : ones ^^^ (ones ^^^ a) = ones ^^^ (ones ^^^ b) := by rw [e]
    rwa [ones_ones, ones_ones] at this
  have e := h' _ _ e
  rw [fold_append, fold_append] at e
  have lp : fold (ones ^^^ 0) pre < 4294967296 := fold_lt pre (xor_lt ones_lt (by decide)) hpre
  generalize fold (ones ^^^ 0) pre = c at *
  have e2 : fold (upd (upd c b) a) post = fold (upd (upd c a) b) post := e
  have hba : (b : Nat) = a ^^^ (a ^^^ b) := by rw [← Nat.xor_assoc, Nat.xor_self, Nat.zero_xor]
  have hab : (a : Nat) = b ^^^ (a ^^^ b) := by rw [Nat.xor_comm a b, ← Nat.xor_assoc, Nat.xor_self, Nat.zero_xor]
  have s1 : upd c (b : Int) = upd c (a : Int) ^^^ rep 8 (a ^^^ b) := by
    have := upd_diff c 0 a (a ^^^ b)
    rwa [Nat.xor_zero, Nat.zero_xor, ← hba] at this
  have s2 : upd (upd c (b : Int)) (a : Int) = upd (upd c (a : Int)) (b : Int) ^^^ rep 8 (rep 8 (a ^^^ b) ^^^ (a ^^^ b)) := by
    have := upd_diff (upd c (a : Int)) (rep 8 (a ^^^ b)) b (a ^^^ b)
    rw [← hab] at this
    rw [s1]
    exact this
  have hx : a ^^^ b < 256 := Nat.xor_lt_two_pow (n := 8) ha hb
  have l1 : upd c (a : Int) < 4294967296 := upd_lt lp (by omega)
  have l2 : upd (upd c (a : Int)) (b : Int) < 4294967296 := upd_lt l1 (by omega)
  have l3 : rep 8 (rep 8 (a ^^^ b) ^^^ (a ^^^ b)) < 4294967296 := rep_lt 8 (xor_lt (rep_lt 8 (by omega)) (by omega))
  have e3 := fold_apart post (by rw [s2]; exact xor_lt l2 l3) l2 e2
  rw [s2] at e3
  have e4 := xor_self_add e3
  have z0 : rep 8 0 = 0 := by decide
  have e5 : burst 0 0 (a ^^^ b) (a ^^^ b) = 0 := by
    unfold burst
    rw [z0, Nat.xor_zero, z0, Nat.zero_xor]
    exact e4
  have := (burst_zero (by decide) (by decide) hx hx e5).2.2.1
  exact h (xor_eq_zero this)

theorem rd_at (l : List Int) (k : Nat) (h : k < l.length) : rd l (k : Int) = l[k] := by
  unfold rd
  rw [Int.toNat_natCast, List.getD_eq_getElem?_getD, List.getElem?_eq_getElem h]
  rfl

/-- The text's exchange, and what it does to the sum. -/
theorem swap_set (l : List Int) (i : Int) (hb : ∀ x ∈ l, 0 ≤ x ∧ x < 256) (h1 : 0 ≤ i) (h2 : i ≤ (l.length : Int) - 2) (he : rd l i ≠ rd l (i + 1)) :
    add 0 ((l.set i.toNat (rd l (i + 1))).set (i + 1).toNat (rd l i)) ≠ add 0 l := by
  obtain ⟨k, rfl⟩ := Int.eq_ofNat_of_zero_le h1
  have hk1 : k < l.length := by omega
  have hk2 : k + 1 < l.length := by omega
  have e1 : ((k : Int) + 1) = ((k + 1 : Nat) : Int) := by omega
  rw [e1] at he ⊢
  rw [rd_at l k hk1, rd_at l (k + 1) hk2] at he ⊢
  rw [Int.toNat_natCast, Int.toNat_natCast]
  have hd : l = l.take k ++ l[k] :: l[k + 1] :: l.drop (k + 2) := by
    rw [← List.drop_eq_getElem_cons, ← List.drop_eq_getElem_cons, List.take_append_drop]
  obtain ⟨a0, a1⟩ := hb _ (List.getElem_mem hk1)
  obtain ⟨c0, c1⟩ := hb _ (List.getElem_mem hk2)
  have hp : ∀ x ∈ l.take k, x < 256 := fun x hx => (hb x (List.mem_of_mem_take hx)).2
  have hlen : (l.take k).length = k := by simp; omega
  generalize l[k] = A at *
  generalize l[k + 1] = B at *
  generalize l.take k = pre at *
  generalize l.drop (k + 2) = post at *
  subst hd
  subst hlen
  obtain ⟨a, rfl⟩ := Int.eq_ofNat_of_zero_le a0
  obtain ⟨b, rfl⟩ := Int.eq_ofNat_of_zero_le c0
  have := swap_changes pre post a b hp (by omega) (by omega) (by omega)
  simpa using this

end Go.Proofs.Ytdjhjbjcfebaeaa.Plain
