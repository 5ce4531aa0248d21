import Derived.Test.YtchfmgbjddopoaaGreatDoorM13
import Derived.Test.YtchfmgbjddopoaaGreatDoorM25
import Derived.Test.YtchfmgbjddopoaaGreatDoorM28
set_option linter.unusedVariables false
set_option linter.unusedSimpArgs false
set_option maxHeartbeats 6400000
set_option maxRecDepth 100000
namespace Go.Proofs.YtchfmgbjddopoaaGreatDoor.Hand
open Go.RowKit Go.Proofs.YtchfmgbjddopoaaGreatDoorW.PrintWords Go.Proofs.YtchfmgbjddopoaaGreatDoorW.PrintLast Go.Proofs.YtchfmgbjddopoaaGreatDoorW.PrintMore
attribute [local go_sem ↓] Go.wp_at_zero Go.wp_at_succ
open Plain (Ky Wr Rc Ver Ent St Bytes Ce TY Ez ES Dv CJ QH)
theorem XJ (pre : List Int) (x : Int) (post : List Int) : rd (pre ++ x :: post) (pre.length : Int) = x := by
 unfold rd; simp
theorem XI (pre : List Int) (y : Int) (post : List Int) : rd (pre ++ [y] ++ post) (pre.length : Int) = y := by
 unfold rd; simp
theorem wrap_succ (i : Nat) (h : i < 1000000) : wrap64 ((i : Int) + 1) = ((i + 1 : Nat) : Int) := by
 rw [IntWalk.wrap64_in _ ⟨by omega, by omega⟩]; omega
theorem UG (i : Nat) (h : i < 1000000) : wrap64 (((i + 1 : Nat) : Int) - 1) = (i : Int) := by
 rw [IntWalk.wrap64_in _ ⟨by omega, by omega⟩]; omega
theorem Uz (l : List Int) (hl : l.length < 1000000) : ∀ (post pre : List Int) (last : Int) (k : Nat), l = pre ++ post → post.length < k → (pre = [] ∧ last = -1 ∨ ∃ p, pre = p ++ [last] ∧ 0 ≤ last) →
   PGoodParts.Bd.l0 k l l (l.length : Int) (pre.length : Int) = some (ES last post && decide (1 ≤ l.length))
 | [], pre, last, 0, _, hk, _ => by simp at hk
 | _ :: _, pre, last, 0, _, hk, _ => by simp at hk
 | [], pre, last, k + 1, e, hk, hp => by
   unfold PGoodParts.Bd.l0
   have : l.length = pre.length := by rw [e]; simp
   rw [if_neg (by omega)]
   simp only [ES, Bool.true_and]
   congr 1
   rw [Bool.eq_iff_iff, decide_eq_true_eq, decide_eq_true_eq]
   omega
 | x :: post, pre, last, k + 1, e, hk, hp => by
   unfold PGoodParts.Bd.l0
   have hlen : l.length = pre.length + (post.length + 1) := by rw [e]; simp
   have hx : rd l (pre.length : Int) = x := by rw [e]; exact XJ pre x post
   rw [if_pos (by omega), if_pos (by omega), if_pos (by omega), hx]
   have ih : last < x → x < 8 → 0 ≤ x → PGoodParts.Bd.l0 k l l (l.length : Int) (wrap64 ((pre.length : Int) + 1)) = some (ES x post && decide (1 ≤ l.length)) := fun h1 h2 h3 => by
     rw [wrap_succ _ (by omega), show pre.length + 1 = (pre ++ [x]).length by simp]
     exact Uz l hl post (pre ++ [x]) x k (by rw [e]; simp) (by simp at hk; omega) (.inr ⟨pre, rfl, h3⟩)
   simp only [ES]
   by_cases h0 : x < 0
   · rw [if_pos h0]
     rcases hp with ⟨_, rfl⟩ | ⟨p, _, hlast⟩
     · rw [decide_eq_false (show ¬ (-1 : Int) < x by omega)]; simp
     · rw [decide_eq_false (show ¬ last < x by omega)]; simp
   rw [if_neg h0]
   by_cases h8 : x ≥ 8
   · rw [if_pos h8, decide_eq_false (show ¬ x < 8 by omega)]; simp
   rw [if_neg h8, decide_eq_true (show x < 8 by omega)]
   rcases hp with ⟨rfl, rfl⟩ | ⟨p, rfl, hlast⟩
   · rw [if_neg (by simp), ih (by omega) (by omega) (by omega), decide_eq_true (show (-1 : Int) < x by omega)]
     simp
   · have hpl : (p ++ [last]).length = p.length + 1 := by simp
     rw [if_pos (by rw [hpl]; omega), hpl, UG _ (by simp at hlen; omega), if_pos (by omega), if_pos (by rw [hlen, hpl]; omega)]
     have hy : rd l (p.length : Int) = last := by rw [e]; exact XI p last (x :: post)
     rw [hy]
     by_cases hlt : x ≤ last
     · rw [if_pos hlt, decide_eq_false (show ¬ last < x by omega)]; simp
     · rw [hpl] at ih
       rw [if_neg hlt, ih (by omega) (by omega) (by omega), decide_eq_true (show last < x by omega)]
       simp
theorem Y4 {w : World} {A : Option Addr} {n c : Nat} {l : List Int} (h : YF w (.slice A n c) l) (hl : l.length ≤ 1000000) : Kd.C (Kd.int .i64) w A l.length l ∧ l.length ≤ c := by
 by_cases h0 : l.length = 0
 · have : l = [] := List.eq_nil_of_length_eq_zero h0
   subst this
   exact ⟨Kd.FI (enc := Value.int .i64) (d := (0 : Int)) (h1 := fun _ => rfl) ⟨rfl, by simp, fun hp => absurd hp (by simp)⟩, Nat.zero_le _⟩
 · obtain ⟨b, o, rfl, hn, hc, _, hr⟩ := h.at_ (by omega)
   refine ⟨Kd.FI (enc := Value.int .i64) (d := (0 : Int)) (h1 := fun _ => rfl) ⟨rfl, by omega, fun _ => ⟨_, rfl, fun j hj => ?_⟩⟩, by omega⟩
   have := hr j hj 0 _ rfl
   rw [Addr.add_mid]
   rw [Nat.mul_one, Nat.add_zero, getElem!_pos l j hj] at this
   rw [this, List.getD_eq_getElem?_getD, List.getElem?_eq_getElem hj]
   rfl
theorem Tv (w : World) (A : Option Addr) (n c : Nat) (l : List Int) (h : YF w (.slice A n c) l) (hl : l.length ≤ 1000) : Calls Tryz.prog 30 #[.slice A n c] w fun e w' => e = .returned (.bool (ES (-1) l && decide (1 ≤ l.length))) ∧ Below w.heap.size w w' := by
 have hn : n = l.length := by
   obtain ⟨A', c', e⟩ := h.slice
   injection e
 subst hn
 obtain ⟨hC, hc⟩ := Y4 h (by omega)
 refine (PGoodParts.Bd.calls 1001 A c l _ w hC hc (Uz l (by omega) l [] (-1) 1001 rfl (by omega) (.inl ⟨rfl, rfl⟩))).mono ?_
 rintro e w' ⟨rfl, nd, rfl⟩
 exact ⟨rfl, Ae (Below.refl _ _) nd⟩
abbrev recL (r : Rc) (wv pv : Value) : Array Value := #[.int .i64 r.kind, .int .i64 r.id, .int .i64 r.t0, .int .u8 r.n0, .int .i64 r.t1, .int .u8 r.n1, wv, .bool r.yes, pv]
def Xaq (g : Nat) (r : Rc) (wv pv : Value) (w : World) : Prop :=
 w.cell? ⟨g, 0, none⟩ = some (.int .i64 r.kind) ∧ w.cell? ⟨g, 1, none⟩ = some (.int .i64 r.id) ∧ w.cell? ⟨g, 2, none⟩ = some (.int .i64 r.t0) ∧ w.cell? ⟨g, 3, none⟩ = some (.int .u8 r.n0) ∧ w.cell? ⟨g, 4, none⟩ = some (.int .i64 r.t1) ∧ w.cell? ⟨g, 5, none⟩ = some (.int .u8 r.n1) ∧ w.cell? ⟨g, 6, none⟩ = some wv ∧ w.cell? ⟨g, 7, none⟩ = some (.bool r.yes) ∧ w.cell? ⟨g, 8, none⟩ = some pv
theorem recAt {g : Nat} {r : Rc} {wv pv : Value} {w : World} (h : Bk w g (Df r wv pv) 36) : Xaq g r wv pv w := ⟨h.cell rfl, h.cell rfl, h.cell rfl, h.cell rfl, h.cell rfl, h.cell rfl, h.cell rfl, h.cell rfl, h.cell rfl⟩
theorem II (w : World) (r : Rc) (A1 A2 : Option Addr) (n1 c1 n2 c2 : Nat) (h : KZ w r (.slice A1 n1 c1) (.slice A2 n2 c2)) (hl : r.parts.length ≤ 1000) : Calls Tryz.prog 7 #[.agg (Df r (.slice A1 n1 c1) (.slice A2 n2 c2))] w fun e w' => e = .returned (.bool (Dv r)) ∧ Below w.heap.size w w' := by
 obtain ⟨X, hX⟩ : ∃ X, X = Dv r := ⟨_, rfl⟩
 rw [← hX]
 replace hX := Aa.mk hX
 obtain ⟨D, hD⟩ : ∃ D, D = Df (CJ r) (if r.kind = 1 then .slice A1 n1 c1 else .slice none 0 0) (if r.kind = 4 then .slice A2 n2 c2 else .slice none 0 0) := ⟨_, rfl⟩
 have hO : Aa (∀ W, Calls Tryz.prog 27 #[.agg (recL r (.slice A1 n1 c1) (.slice A2 n2 c2))] W fun e W' => e = .returned (.agg D) ∧ Below W.heap.size W W') := ⟨fun W => by rw [hD]; exact VN W r A1 A2 n1 c1 n2 c2⟩
 have hS : Aa (∀ W, KZ W r (.slice A1 n1 c1) (.slice A2 n2 c2) → Calls Tryz.prog 17 #[.agg (recL r (.slice A1 n1 c1) (.slice A2 n2 c2)), .agg D] W fun e W' => e = .returned (.bool (decide (r = CJ r))) ∧ Below W.heap.size W W') := ⟨fun W hW => by
   obtain ⟨B1, m1, d1, e1⟩ : ∃ B m d, (if r.kind = 1 then Value.slice A1 n1 c1 else .slice none 0 0) = .slice B m d := by split <;> exact ⟨_, _, _, rfl⟩
   obtain ⟨B2, m2, d2, e2⟩ : ∃ B m d, (if r.kind = 4 then Value.slice A2 n2 c2 else .slice none 0 0) = .slice B m d := by split <;> exact ⟨_, _, _, rfl⟩
   rw [hD, e1, e2]
   refine QZ W r (CJ r) A1 A2 B1 B2 n1 c1 n2 c2 m1 d1 m2 d2 hW ?_
   rw [← e1, ← e2]
   unfold CJ
   by_cases k1 : r.kind = 1
   · rw [if_pos k1, if_pos k1, if_neg (by omega)]
     exact ⟨hW.ws, RowK.nil _ _ _ _ _, hW.lw, by simp⟩
   rw [if_neg k1, if_neg k1]
   by_cases k4 : r.kind = 4
   · rw [if_pos k4, if_neg (by omega), if_pos k4]
     exact ⟨RowK.nil _ _ _ _ _, hW.ps, by simp, hW.lp⟩
   rw [if_neg k4, if_neg k4]
   split <;> exact ⟨RowK.nil _ _ _ _ _, RowK.nil _ _ _ _ _, by simp, by simp⟩⟩
 obtain ⟨C, hC⟩ : ∃ C, C = Df r (.slice A1 n1 c1) (.slice A2 n2 c2) := ⟨_, rfl⟩
 rw [← hC]
 replace hC := Aa.mk hC
 clear hD
 replace h := Aa.mk h
 replace hl := Aa.mk hl
 go_enter Tryz.func7, Tryz.ntmps7
 go_wp2_with (first
   | ((with_reducible refine Ac (N := 1) rfl ?_); refine Aj (N := 1) (C := C) rfl rfl (by first | (go_simp; done) | (go_simp; rfl)) ?_; intro g1 w1 h1 b1 f1; rw [hC.out] at b1))
 refine wp_region_noPanic ?_
 go_region_held_law (fun w' => (w'.cell? ⟨g1, 0, none⟩ = some (.int .i64 r.kind) ∧ w'.cell? ⟨g1, 1, none⟩ = some (.int .i64 r.id) ∧ w'.cell? ⟨g1, 2, none⟩ = some (.int .i64 r.t0) ∧ w'.cell? ⟨g1, 3, none⟩ = some (.int .u8 r.n0) ∧ w'.cell? ⟨g1, 4, none⟩ = some (.int .i64 r.t1) ∧ w'.cell? ⟨g1, 5, none⟩ = some (.int .u8 r.n1) ∧ w'.cell? ⟨g1, 6, none⟩ = some (.slice A1 n1 c1) ∧ w'.cell? ⟨g1, 7, none⟩ = some (.bool r.yes) ∧ w'.cell? ⟨g1, 8, none⟩ = some (.slice A2 n2 c2)) ∧ Bk w' g1 (Df r (.slice A1 n1 c1) (.slice A2 n2 c2)) 36)
   ((first | exact ⟨recAt b1.out.drew, b1.out.drew⟩ | exact ⟨recAt (Aa.out b2), Aa.out b2⟩ | exact ⟨recAt (Aa.out b3), Aa.out b3⟩))
   ((first
     | (go_at_call 27; refine (hO.out _).mono ?_; rintro e w2 ⟨rfl, f2⟩; have F2 : Aa (Below w.heap.size w w2) := ⟨(Ag f1.out).trans (f2.mono f1.out.size)⟩; have b2 := Aa.mk (b1.out.drew.Ad f2); clear f2)
     | (go_at_call 17; refine (hS.out _ (h.out.below (Aa.out F2))).mono ?_; rintro e w3 ⟨rfl, f3⟩; have F3 : Aa (Below w.heap.size w w3) := ⟨(Aa.out F2).trans (f3.mono (Aa.out F2).size)⟩; have b3 := Aa.mk ((Aa.out b2).Ad f3); clear f3)))
 refine NoPanic.normal ?_
 go_split_ands
 clear b2 F2
 cases hY : decide (r = CJ r)
 case false =>
   obtain rfl : X = false := by rw [hX.out, Dv, hY]; rfl
   clear hX hY
   go_wp2_with fail
   go_returns
   exact ⟨rfl, F3.out⟩
 have hX2 : Aa (X = (if r.kind = 1 then Ez (QH r)
  else if r.kind = 2 then decide (1 ≤ r.id) && Ce r.t1
  else if r.kind = 3 then decide (1 ≤ r.id)
  else if r.kind = 4 then decide (1 ≤ r.id) && Ce r.t1 && (ES (-1) r.parts && decide (1 ≤ r.parts.length))
  else if r.kind = 5 then decide (r.id = 0) && Ce r.t1 && decide (r.n1 = 0)
  else false)) := ⟨by rw [hX.out, Dv, hY, Bool.true_and]⟩
 clear hX hY
 have hw3 := Aa.mk (h.out.below F3.out)
 by_cases k1 : r.kind = 1
 · have hX3 : Aa (X = Ez (QH r)) := ⟨by rw [hX2.out, if_pos k1]⟩
   clear hX2
   go_wp2_with (first
     | (go_at_call 28; go_must (refine (Je w3 (QH r) A1 n1 c1 hw3.out.ws hw3.out.lw).mono ?_); rintro _ w4 ⟨rfl, f4⟩; replace f4 := Aa.mk f4))
   go_returns
   exact ⟨by rw [hX3.out]; rfl, F3.out.trans (f4.out.mono F3.out.size)⟩
 have d1 : (r.kind == 1) = false := by simpa using k1
 by_cases k2 : r.kind = 2
 · have hX3 : Aa (X = (decide (1 ≤ r.id) && Ce r.t1)) := ⟨by rw [hX2.out, if_neg k1, if_pos k2]⟩
   clear hX2 d1 k1
   go_wp2_with (first
     | (go_at_call 29; go_must (refine (BD w3 r.t1 r.n1).mono ?_); rintro _ w4 ⟨rfl, f4⟩; replace f4 := Aa.mk f4))
   all_goals go_returns
   · rename_i x
     exact ⟨by rw [hX3.out, decide_eq_true x]; rfl, F3.out.trans (f4.out.mono F3.out.size)⟩
   · rename_i x
     exact ⟨by rw [hX3.out, decide_eq_false (by omega)]; rfl, F3.out⟩
 have d2 : (r.kind == 2) = false := by simpa using k2
 by_cases k3 : r.kind = 3
 · have hX3 : Aa (X = decide (1 ≤ r.id)) := ⟨by rw [hX2.out, if_neg k1, if_neg k2, if_pos k3]⟩
   clear hX2 d1 d2 k1 k2
   go_wp2_with fail
   all_goals go_returns
   exact ⟨by rw [hX3.out]; rfl, F3.out⟩
 have d3 : (r.kind == 3) = false := by simpa using k3
 by_cases k4 : r.kind = 4
 · have hX3 : Aa (X = (decide (1 ≤ r.id) && Ce r.t1 && (ES (-1) r.parts && decide (1 ≤ r.parts.length)))) := ⟨by rw [hX2.out, if_neg k1, if_neg k2, if_neg k3, if_pos k4]⟩
   clear hX2 d1 d2 d3 k1 k2 k3
   go_wp2_with (first
     | (go_at_call 29; go_must (refine (BD w3 r.t1 r.n1).mono ?_); rintro _ w4 ⟨rfl, f4⟩; replace f4 := Aa.mk f4; have q8 : w4.cell? ⟨g1, 8, none⟩ = some (.slice A2 n2 c2) := Bk.cell (C := Df r (.slice A1 n1 c1) (.slice A2 n2 c2)) (b3.out.Ad f4.out) rfl; have F4 : Aa (Below w.heap.size w w4) := ⟨F3.out.trans (f4.out.mono F3.out.size)⟩)
     | (go_at_call 30; go_must (refine (Tv w4 A2 n2 c2 r.parts (h.out.below F4.out).ps hl.out).mono ?_); rintro _ w5 ⟨rfl, f5⟩; replace f5 := Aa.mk f5))
   all_goals go_returns
   · rename_i x1 x2
     exact ⟨by rw [hX3.out, decide_eq_true x1, x2]; rfl, F4.out.trans (f5.out.mono F4.out.size)⟩
   · rename_i x1 x2
     obtain rfl : X = false := by rw [hX3.out, show Ce r.t1 = false from by simpa using x2]; simp
     exact ⟨rfl, F4.out⟩
   · rename_i x
     obtain rfl : X = false := by rw [hX3.out, decide_eq_false (by omega)]; rfl
     exact ⟨rfl, F3.out⟩
 have d4 : (r.kind == 4) = false := by simpa using k4
 by_cases k5 : r.kind = 5
 · have hX3 : Aa (X = (decide (r.id = 0) && Ce r.t1 && decide (r.n1 = 0))) := ⟨by rw [hX2.out, if_neg k1, if_neg k2, if_neg k3, if_neg k4, if_pos k5]⟩
   clear hX2 d1 d2 d3 d4 k1 k2 k3 k4
   go_wp2_with (first
     | (go_at_call 29; go_must (refine (BD w3 r.t1 r.n1).mono ?_); rintro _ w4 ⟨rfl, f4⟩; replace f4 := Aa.mk f4; have q8 : w4.cell? ⟨g1, 5, none⟩ = some (.int .u8 r.n1) := Bk.cell (C := Df r (.slice A1 n1 c1) (.slice A2 n2 c2)) (b3.out.Ad f4.out) rfl; have F4 : Aa (Below w.heap.size w w4) := ⟨F3.out.trans (f4.out.mono F3.out.size)⟩))
   all_goals go_returns
   · rename_i x1 x2
     obtain rfl : X = (r.n1 == 0) := by rw [hX3.out, decide_eq_true x1, x2]; rfl
     exact ⟨rfl, F4.out⟩
   · rename_i x1 x2
     obtain rfl : X = false := by rw [hX3.out, show Ce r.t1 = false from by simpa using x2]; simp
     exact ⟨rfl, F4.out⟩
   · rename_i x
     obtain rfl : X = false := by rw [hX3.out, decide_eq_false x]; rfl
     exact ⟨rfl, F3.out⟩
 have d5 : (r.kind == 5) = false := by simpa using k5
 have hX3 : Aa (X = false) := ⟨by rw [hX2.out, if_neg k1, if_neg k2, if_neg k3, if_neg k4, if_neg k5]⟩
 clear hX2 k1 k2 k3 k4 k5
 go_wp2_with fail
 go_returns
 exact ⟨by rw [hX3.out]; rfl, F3.out⟩
end Go.Proofs.YtchfmgbjddopoaaGreatDoor.Hand
namespace Go.Proofs.YtchfmgbjddopoaaGreatDoor.Hand
open Go.RowKit Go.Proofs.YtchfmgbjddopoaaGreatDoorW.PrintWords Go.Proofs.YtchfmgbjddopoaaGreatDoorW.PrintLast Go.Proofs.YtchfmgbjddopoaaGreatDoorW.PrintMore
attribute [local go_sem ↓] Go.wp_at_zero Go.wp_at_succ
open Plain (Ky Wr Rc Ver Ent St Bytes enc IR EL encR zz pack Fit Dv)
section
variable {w : World} {B : Nat} {v : Value} {l : List Int}
theorem num_int (x : Int) (h : Bq w B v l) (hl : l.length ≤ 1000000) (h0 : 0 ≤ x) (h1 : x < 9223372036854775808) : Calls Tryz.prog 37 #[v, .int .i64 x] w fun e w' => ∃ v', e = .returned v' ∧ Bq w' w.heap.size v' (l ++ enc x.toNat) ∧ Below w.heap.size w w' := by
 have := GZ x.toNat h hl (by omega)
 rwa [Int.toNat_of_nonneg h0] at this
theorem XK (x : Int) (h : Bq w B v l) (hl : l.length ≤ 1000000) (h0 : 0 ≤ x) (h1 : x < 18446744073709551616) : Calls Tryz.prog 36 #[v, .int .u64 x] w fun e w' => ∃ v', e = .returned v' ∧ Bq w' w.heap.size v' (l ++ enc x.toNat) ∧ Below w.heap.size w w' := by
 have := put_any x.toNat h hl (by omega)
 rwa [Int.toNat_of_nonneg h0] at this
end
theorem LC {x : Int} (h0 : 0 ≤ x) (h1 : x < 9223372036854775808) : 0 ≤ zz x ∧ zz x < 18446744073709551616 := by
 unfold zz
 rw [if_pos h0]
 omega
theorem VM (w : World) (B : Nat) : Bq w B (.slice none 0 0) [] := World.ownsRow_nil _ _ _ _
theorem U0 (l : List Int) (h8 : l.length ≤ 8) (h : ∀ p ∈ l, 0 ≤ p ∧ p < 8) (j : Nat) : ((l.take j).flatMap fun p => enc p.toNat).length ≤ 8 := by
 have key : ∀ l : List Int, (∀ p ∈ l, 0 ≤ p ∧ p < 8) → (l.flatMap fun p => enc p.toNat).length ≤ l.length := by
   intro l
   induction l with
   | nil => intro _; simp
   | cons x l ih =>
     intro h
     rw [List.flatMap_cons, List.length_append, List.length_cons]
     have := ih fun p hp => h p (List.mem_cons_of_mem _ hp)
     have h2 : (enc x.toNat).length ≤ 1 := Plain.BI 0 _ (by have := h x List.mem_cons_self; omega)
     omega
 have h1 := key (l.take j) fun p hp => h p (List.mem_of_mem_take hp)
 have h2 : (l.take j).length ≤ l.length := by rw [List.length_take]; omega
 omega
theorem XF (w : World) (r : Rc) (A1 A2 : Option Addr) (n1 c1 n2 c2 : Nat) (h : KZ w r (.slice A1 n1 c1) (.slice A2 n2 c2)) (hf : Fit r) (hg : Dv r = true) :
   Calls Tryz.prog 9 #[.agg (Df r (.slice A1 n1 c1) (.slice A2 n2 c2))] w fun e w' => ∃ v', e = .returned v' ∧ Bq w' w.heap.size v' (encR r) ∧ Below w.heap.size w w' := by
 obtain ⟨C, hC⟩ : ∃ C, C = Df r (.slice A1 n1 c1) (.slice A2 n2 c2) := ⟨_, rfl⟩
 have hG : Aa (∀ W, KZ W r (.slice A1 n1 c1) (.slice A2 n2 c2) → Calls Tryz.prog 7 #[.agg C] W fun e W' => e = .returned (.bool true) ∧ Below W.heap.size W W') := ⟨fun W hW => by
   have := II W r A1 A2 n1 c1 n2 c2 hW (by have := hf.some; omega)
   rw [hg] at this
   rw [hC]
   exact this⟩
 have hs : Aa (C.size = 9) := ⟨by rw [hC]; rfl⟩
 have hz := LC hf.id.1 hf.id.2
 have hid := hf.id
 have hkd := hf.kind
 replace hz := Aa.mk hz
 replace hid := Aa.mk hid
 replace hkd := Aa.mk hkd
 have hn1 : Aa (n1 = r.ws.length) := ⟨by
   obtain ⟨A', c', e'⟩ := h.ws.slice
   injection e'⟩
 have hn2 : Aa (n2 = r.parts.length) := ⟨by
   obtain ⟨A', c', e'⟩ := h.ps.slice
   injection e'⟩
 rw [← hC]
 replace hC := Aa.mk hC
 replace h := Aa.mk h
 replace hf := Aa.mk hf
 clear hg
 go_enter Tryz.func9, Tryz.ntmps9
 go_wp2_with (first
   | ((with_reducible refine Ac (N := 1) rfl ?_); refine Aj (N := 1) (C := C) rfl rfl (by first | (go_simp; done) | (go_simp; rfl)) ?_; intro g1 w1 h1 b1 f1)
   | ((with_reducible refine Ac (N := 7) rfl ?_); (refine Au (N := 7) rfl rfl rfl rfl b1.out Tryz.underlying36 rfl Bh C.toList (AU hs.out) (by rw [Array.length_toList, hs.out]) ?_))
   | (go_at_call 7; (refine (hG.out _ (h.out.below f1.out)).mono ?_); rintro e w2 ⟨rfl, f2⟩; have F2 : Aa (Below w.heap.size w w2) := ⟨f1.out.trans (f2.mono f1.out.size)⟩; have b2 := Aa.mk (hC.out ▸ b1.out.Ad f2); clear f2))
 clear b1
 refine wp_region_noPanic ?_
 go_region_held_law (fun w' => (w'.cell? ⟨g1, 0, none⟩ = some (.int .i64 r.kind) ∧ w'.cell? ⟨g1, 1, none⟩ = some (.int .i64 r.id)) ∧ Bk w' g1 (Df r (.slice A1 n1 c1) (.slice A2 n2 c2)) 36)
   ((first | exact ⟨⟨Bk.cell b2.out.drew rfl, Bk.cell b2.out.drew rfl⟩, b2.out.drew⟩ | exact ⟨⟨Bk.cell (Aa.out b5) rfl, Bk.cell (Aa.out b5) rfl⟩, Aa.out b5⟩ | exact ⟨⟨Bk.cell (Aa.out b3) rfl, Bk.cell (Aa.out b3) rfl⟩, Aa.out b3⟩ | exact ⟨⟨Bk.cell (Aa.out b4) rfl, Bk.cell (Aa.out b4) rfl⟩, Aa.out b4⟩))
   ((first
     | (go_at_call 37
        refine (num_int (w := w2.drew) (B := 0) r.kind (VM _ _) (by decide) (by have := hkd.out; omega) (by have := hkd.out; omega)).mono ?_
        rintro e w3 ⟨v3, rfl, r3, f3⟩
        have F3 : Aa (Below w.heap.size w w3) := ⟨(Ag F2.out).trans (f3.mono F2.out.size)⟩
        have b3 := Aa.mk (b2.out.drew.Ad f3)
        replace r3 := Aa.mk r3
        clear f3)
     | (go_at_call 38
        refine (Xm _ r.id (by have := hid.out; omega) (by have := hid.out; omega)).mono ?_
        rintro e w4 ⟨rfl, q4, rfl⟩
        first
        | (have b4 := Aa.mk (Ob.drewN (Aa.out b3) q4)
           have F4 := Aa.mk (Ae (Aa.out F3) q4)
           have r4 := Aa.mk (own_below (Aa.out r3) (Ae (Below.refl _ _) q4)))
        | (have b4 := Aa.mk (Ob.drewN b2.out.drew q4)))
     | (go_at_call 36
        refine (XK (zz r.id) (Aa.out r4) (by have : (enc r.kind.toNat).length ≤ 1 := Plain.BI 0 _ (by have := hkd.out; omega); simp only [List.nil_append]; omega) hz.out.1 hz.out.2).mono ?_
        rintro e w5 ⟨v5, rfl, r5, f5⟩
        have F5 := Aa.mk ((Aa.out F4).trans (f5.mono (Aa.out F4).size))
        have b5 := Aa.mk (Ob.Ad (Aa.out b4) f5)
        have s5 := Aa.mk (Aa.out F4).size
        replace r5 := Aa.mk r5
        clear f5)))
 refine NoPanic.normal ?_
 go_split_ands
 clear b2 b3 b4 F2 F3 r3 r4 hG hz hs hC
 obtain ⟨l5, hl5⟩ : ∃ l5, l5 = ([] ++ enc r.kind.toNat) ++ enc (zz r.id).toNat := ⟨_, rfl⟩
 rw [← hl5] at r5
 have hll5 : Aa (l5.length ≤ 11) := ⟨by
   have h1 : (enc r.kind.toNat).length ≤ 1 := Plain.BI 0 _ (by have := hkd.out; omega)
   have h2 : (enc (zz r.id).toNat).length ≤ 10 := Plain.Hf (by have := LC hid.out.1 hid.out.2; omega)
   rw [hl5]
   simp only [List.nil_append, List.length_append]
   omega⟩
 rw [List.nil_append] at hl5
 replace hl5 := Aa.mk hl5
 obtain ⟨A5, c5, rfl⟩ := Bq.slice r5.out
 have hs0 := Aa.mk hf.out.s0
 have hs1 := Aa.mk hf.out.s1
 have hp1 : Aa ((enc (pack r.t1 r.n1)).length ≤ 10) := ⟨Plain.Hf (by have := Plain.FU hs1.out.1 hs1.out.2.1 hs1.out.2.2; omega)⟩
 have q7 : w5.cell? ⟨g1, 7, none⟩ = some (.bool r.yes) := Bk.cell b5.out rfl
 have q4 : w5.cell? ⟨g1, 4, none⟩ = some (.int .i64 r.t1) := Bk.cell b5.out rfl
 have q5 : w5.cell? ⟨g1, 5, none⟩ = some (.int .u8 r.n1) := Bk.cell b5.out rfl
 by_cases k1 : r.kind = 1
 · have hE : Aa (encR r = l5 ++ (enc (pack r.t0 r.n0) ++ (enc (pack r.t1 r.n1) ++ EL r.ws))) := ⟨by rw [hl5.out, encR, if_pos k1, List.append_assoc]⟩
   have hp0 : Aa ((enc (pack r.t0 r.n0)).length ≤ 10) := ⟨Plain.Hf (by have := Plain.FU hs0.out.1 hs0.out.2.1 hs0.out.2.2; omega)⟩
   go_wp2_with fail
   refine wp_region_noPanic ?_
   go_region_held_law (fun w' => (w'.cell? ⟨g1, 2, none⟩ = some (.int .i64 r.t0) ∧ w'.cell? ⟨g1, 3, none⟩ = some (.int .u8 r.n0) ∧ w'.cell? ⟨g1, 4, none⟩ = some (.int .i64 r.t1) ∧ w'.cell? ⟨g1, 5, none⟩ = some (.int .u8 r.n1) ∧ w'.cell? ⟨g1, 6, none⟩ = some (.slice A1 n1 c1)) ∧ Bk w' g1 (Df r (.slice A1 n1 c1) (.slice A2 n2 c2)) 36)
     ((first | exact ⟨⟨Bk.cell b5.out.drew rfl, Bk.cell b5.out.drew rfl, Bk.cell b5.out.drew rfl, Bk.cell b5.out.drew rfl, Bk.cell b5.out.drew rfl⟩, b5.out.drew⟩ | exact ⟨⟨Bk.cell (Aa.out b8) rfl, Bk.cell (Aa.out b8) rfl, Bk.cell (Aa.out b8) rfl, Bk.cell (Aa.out b8) rfl, Bk.cell (Aa.out b8) rfl⟩, Aa.out b8⟩ | exact ⟨⟨Bk.cell (Aa.out b7) rfl, Bk.cell (Aa.out b7) rfl, Bk.cell (Aa.out b7) rfl, Bk.cell (Aa.out b7) rfl, Bk.cell (Aa.out b7) rfl⟩, Aa.out b7⟩ | exact ⟨⟨Bk.cell (Aa.out b6) rfl, Bk.cell (Aa.out b6) rfl, Bk.cell (Aa.out b6) rfl, Bk.cell (Aa.out b6) rfl, Bk.cell (Aa.out b6) rfl⟩, Aa.out b6⟩))
     ((first
       | (go_at_call 39
          refine (Y5 _ _ _ A1 n1 c1 r.ws (AV (Aa.out r7) (Nat.zero_le _)) (by have := hll5.out; have := hp0.out; have := hp1.out; simp only [List.length_append]; omega) (h.out.below (Aa.out F7)).ws hf.out.few hf.out.ws).mono ?_
          rintro e w8 ⟨v8, rfl, r8, f8⟩
          have F8 := Aa.mk ((Aa.out F7).trans (f8.mono (Aa.out F7).size))
          have b8 := Aa.mk (Ob.Ad (Aa.out b7) f8)
          have s8 := Aa.mk (Aa.out F7).size
          replace r8 := Aa.mk r8
          clear f8)
       | (go_at_call 40
          refine (Ey r.t1 r.n1 (Aa.out r6) (by have := hll5.out; have := hp0.out; simp only [List.length_append]; omega) hs1.out.1 hs1.out.2.1 hs1.out.2.2).mono ?_
          rintro e w7 ⟨v7, rfl, r7, f7⟩
          have F7 := Aa.mk ((Aa.out F6).trans (f7.mono (Aa.out F6).size))
          have b7 := Aa.mk (Ob.Ad (Aa.out b6) f7)
          replace r7 := Aa.mk r7
          clear f7)
       | (go_at_call 40
          refine (Ey (w := w5.drew) r.t0 r.n0 (own_below r5.out (Ag (Below.refl _ _))) (by have := hll5.out; omega) hs0.out.1 hs0.out.2.1 hs0.out.2.2).mono ?_
          rintro e w6 ⟨v6, rfl, r6, f6⟩
          have F6 : Aa (Below w.heap.size w w6) := ⟨(Ag F5.out).trans (f6.mono F5.out.size)⟩
          have b6 := Aa.mk (Ob.Ad b5.out.drew f6)
          replace r6 := Aa.mk r6
          clear f6)))
   refine NoPanic.normal ?_
   go_split_ands
   go_wp2_with fail
   go_returns
   refine ⟨_, rfl, ?_, F8.out⟩
   have := AV r8.out s8.out
   rw [show ((l5 ++ enc (pack r.t0 r.n0)) ++ enc (pack r.t1 r.n1)) ++ EL r.ws = encR r from by rw [hE.out]; simp only [List.append_assoc]] at this
   exact this
 by_cases k25 : r.kind = 2 ∨ r.kind = 5
 · have hE : Aa (encR r = l5 ++ enc (pack r.t1 r.n1)) := ⟨by rw [hl5.out, encR, if_neg k1, if_pos k25, List.append_assoc]⟩
   have d1 : (r.kind == 1) = false := by simpa using k1
   clear k1
   rcases k25 with k25 | k25
   all_goals
     go_wp2_with (first
       | (go_at_call 40; (refine (Ey r.t1 r.n1 r5.out (by have := hll5.out; omega) hs1.out.1 hs1.out.2.1 hs1.out.2.2).mono ?_); rintro e w6 ⟨v6, rfl, r6, f6⟩; replace r6 := Aa.mk r6; replace f6 := Aa.mk f6))
     go_returns
     refine ⟨_, rfl, ?_, F5.out.trans (f6.out.mono F5.out.size)⟩
     rw [hE.out]
     exact AV r6.out F5.out.size
 have d1 : (r.kind == 1) = false := by simpa using k1
 have d2 : (r.kind == 2) = false := by simpa using fun e => k25 (.inl e)
 have d5 : (r.kind == 5) = false := by simpa using fun e => k25 (.inr e)
 by_cases k4 : r.kind = 4
 case neg =>
   have hE : Aa (encR r = l5) := ⟨by rw [hl5.out, encR, if_neg k1, if_neg k25, if_neg k4, List.append_nil]⟩
   have d4 : (r.kind == 4) = false := by simpa using k4
   clear k1 k25 k4
   go_wp2_with fail
   go_returns
   refine ⟨_, rfl, ?_, F5.out⟩
   rw [hE.out]
   exact AV r5.out s5.out
 have hE : Aa (encR r = l5 ++ (enc (if r.yes then 1 else 0) ++ (enc (pack r.t1 r.n1) ++ (enc r.parts.length ++ r.parts.flatMap fun p => enc p.toNat)))) := ⟨by rw [hl5.out, encR, if_neg k1, if_neg k25, if_pos k4, List.append_assoc]⟩
 clear k1 k25
 obtain ⟨gy, hgy⟩ : ∃ gy : Nat, gy = if r.yes then 1 else 0 := ⟨_, rfl⟩
 have hgl : Aa (gy ≤ 1) := ⟨by rw [hgy]; split <;> omega⟩
 have hey : Aa ((enc gy).length ≤ 1) := ⟨Plain.BI 0 _ (by have := hgl.out; omega)⟩
 have hel : Aa ((enc n2).length ≤ 1) := ⟨Plain.BI 0 _ (by have := hf.out.some; have := hn2.out; omega)⟩
 have hnb : n2 ≤ 8 := by have := hf.out.some; have := hn2.out; omega
 rw [← hgy, ← hn2.out] at hE
 have HY : Aa (∀ W (v : Value) (B : Nat) (l : List Int), Bq W B v l → l.length ≤ 1000 → Calls Tryz.prog 37 #[v, .int .i64 (if r.yes then 1 else 0)] W fun e w' => ∃ v', e = .returned v' ∧ Bq w' W.heap.size v' (l ++ enc gy) ∧ Below W.heap.size W w') := ⟨fun W v B l hR hl => by
   have := GZ gy hR (by omega) (by have := hgl.out; omega)
   rwa [show ((gy : Nat) : Int) = if r.yes then 1 else 0 from by rw [hgy]; split <;> rfl] at this⟩
 replace hgy := Aa.mk hgy
 cases hy : r.yes
 all_goals
   rw [hy] at HY q7
   replace hy := Aa.mk hy
   go_wp2_with fail
   refine wp_region_noPanic ?_
   go_region_held_law (fun w' => (w'.cell? ⟨g1, 4, none⟩ = some (.int .i64 r.t1) ∧ w'.cell? ⟨g1, 5, none⟩ = some (.int .u8 r.n1) ∧ w'.cell? ⟨g1, 8, none⟩ = some (.slice A2 n2 c2)) ∧ Bk w' g1 (Df r (.slice A1 n1 c1) (.slice A2 n2 c2)) 36)
     ((first | exact ⟨⟨Bk.cell b5.out.drew rfl, Bk.cell b5.out.drew rfl, Bk.cell b5.out.drew rfl⟩, b5.out.drew⟩ | exact ⟨⟨Bk.cell (Aa.out b8) rfl, Bk.cell (Aa.out b8) rfl, Bk.cell (Aa.out b8) rfl⟩, Aa.out b8⟩ | exact ⟨⟨Bk.cell (Aa.out b7) rfl, Bk.cell (Aa.out b7) rfl, Bk.cell (Aa.out b7) rfl⟩, Aa.out b7⟩ | exact ⟨⟨Bk.cell (Aa.out b6) rfl, Bk.cell (Aa.out b6) rfl, Bk.cell (Aa.out b6) rfl⟩, Aa.out b6⟩))
     ((first
       | (go_at_call 40
          refine (Ey r.t1 r.n1 (Aa.out r6) (by have := hll5.out; have := hey.out; simp only [List.length_append]; omega) hs1.out.1 hs1.out.2.1 hs1.out.2.2).mono ?_
          rintro e w7 ⟨v7, rfl, r7, f7⟩
          have F7 := Aa.mk ((Aa.out F6).trans (f7.mono (Aa.out F6).size))
          have b7 := Aa.mk (Ob.Ad (Aa.out b6) f7)
          replace r7 := Aa.mk r7
          clear f7)
       | (go_at_call 37
          refine (GZ n2 (Aa.out r7) (by have := hll5.out; have := hey.out; have := hp1.out; simp only [List.length_append]; omega) (by omega)).mono ?_
          rintro e w8 ⟨v8, rfl, r8, f8⟩
          have F8 := Aa.mk ((Aa.out F7).trans (f8.mono (Aa.out F7).size))
          have b8 := Aa.mk (Ob.Ad (Aa.out b7) f8)
          have s8 := Aa.mk (Aa.out F7).size
          replace r8 := Aa.mk r8
          clear f8)
       | (go_at_call 37
          refine (HY.out w5.drew _ _ _ (own_below r5.out (Ag (Below.refl _ _))) (by have := hll5.out; omega)).mono ?_
          rintro e w6 ⟨v6, rfl, r6, f6⟩
          have F6 : Aa (Below w.heap.size w w6) := ⟨(Ag F5.out).trans (f6.mono F5.out.size)⟩
          have b6 := Aa.mk (Ob.Ad b5.out.drew f6)
          replace r6 := Aa.mk r6
          clear f6)))
   refine NoPanic.normal ?_
   go_split_ands
   clear b6 b7 r6 r7 F6 F7
   obtain ⟨l8, hl8⟩ : ∃ l8, l8 = ((l5 ++ enc gy) ++ enc (pack r.t1 r.n1)) ++ enc n2 := ⟨_, rfl⟩
   rw [← hl8] at r8
   have hll8 : Aa (l8.length ≤ 23) := ⟨by rw [hl8]; have := hll5.out; have := hey.out; have := hp1.out; have := hel.out; simp only [List.length_append]; omega⟩
   have hE2 : Aa (encR r = l8 ++ r.parts.flatMap fun p => enc p.toNat) := ⟨by rw [hE.out, hl8]; simp only [List.append_assoc]⟩
   clear hl8
   have r8w := Aa.mk (AV r8.out s8.out)
   go_wp2_with fail
   have hen : Aa (∀ j, ((r.parts.take j).flatMap fun p => enc p.toNat).length ≤ 8) := ⟨fun j => U0 r.parts hf.out.some hf.out.parts j⟩
   have hps := Aa.mk (h.out.below F8.out).ps
   go_loopw [3, 55] (fun u p w' => ∃ j : Nat, j ≤ n2 ∧ p = .int .i64 j ∧ Aa (Bq w' w.heap.size u (l8 ++ (r.parts.take j).flatMap fun p => enc p.toNat)) ∧ Aa (Below w.heap.size w w')) (fun _ p _ => n2 - (intOf p).toNat)
   case atStart => exact ⟨0, Nat.zero_le _, rfl, ⟨by simpa using r8w.out⟩, F8⟩
   case round =>
     obtain ⟨j, hj, rfl, HR, HB⟩ := hrel
     by_cases hlt : j < n2
     case neg =>
       have hjn : r.parts.take j = r.parts := List.take_of_length_le (by rw [← hn2.out]; omega)
       rw [hjn] at HR
       have d1 : decide ((j : Int) < (n2 : Int)) = false := by simp; omega
       have d2 : decide (j < n2) = false := by simp; omega
       clear hjn hj
       go_wp2_with fail
       go_returns
       refine ⟨_, rfl, ?_, HB.out⟩
       have := HR.out
       rw [← hE2.out] at this
       exact this
     obtain ⟨b, o, hA2, hbn, hc, hbs, hr⟩ := (h.out.below HB.out).ps.at_ (by rw [← hn2.out]; omega)
     subst hA2
     clear hbn
     have hjw : j < r.parts.length := by rw [← hn2.out]; exact hlt
     replace hr := hr j hjw
     have htk : r.parts.take (j + 1) = r.parts.take j ++ [r.parts[j]!] := by
       rw [List.take_succ_eq_append_getElem hjw, getElem!_pos r.parts j hjw]
     have hxv : 0 ≤ r.parts[j]! ∧ r.parts[j]! < 8 := hf.out.parts _ (by rw [getElem!_pos r.parts j hjw]; exact List.getElem_mem hjw)
     generalize r.parts[j]! = x at hr htk hxv
     have hxv := Aa.mk hxv
     replace hbs := Aa.mk hbs
     have hhn := hen.out j
     obtain ⟨l1, hl1⟩ : ∃ l1, l1 = l8 ++ (r.parts.take j).flatMap fun p => enc p.toNat := ⟨_, rfl⟩
     rw [← hl1] at HR
     have hll : Aa (l1.length ≤ 31) := ⟨by rw [hl1]; simp only [List.length_append]; have := hll8.out; omega⟩
     have htk2 : Aa (l8 ++ ((r.parts.take (j + 1)).flatMap fun p => enc p.toNat) = l1 ++ enc x.toNat) := ⟨by rw [htk, hl1]; simp⟩
     clear hl1 htk hhn hjw
     have hc0 := hr 0 _ rfl
     rw [Nat.add_zero, Nat.mul_one] at hc0
     clear hr
     have d1 : decide ((j : Int) < (n2 : Int)) = true := by simp; omega
     have d2 : decide (j < n2) = true := by simp; omega
     go_wp2_with (first
       | (go_at_call 37; (refine (num_int x HR.out (by have := hll.out; omega) hxv.out.1 (by have := hxv.out; omega)).mono ?_); rintro e w9 ⟨v9, rfl, r9, f9⟩; replace r9 := Aa.mk (AV r9 HB.out.size); replace f9 := Aa.mk f9))
     refine ⟨⟨j + 1, by omega, by rw [Int.natCast_add]; rfl, ⟨by rw [htk2.out]; exact r9.out⟩, ⟨HB.out.trans (f9.out.mono HB.out.size)⟩⟩, ?_⟩
     simp only [intOf]
     omega
end Go.Proofs.YtchfmgbjddopoaaGreatDoor.Hand
