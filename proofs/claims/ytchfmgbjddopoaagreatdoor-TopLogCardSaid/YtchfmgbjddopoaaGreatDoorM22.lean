import Derived.Test.YtchfmgbjddopoaaGreatDoorM11
import Derived.Test.YtchfmgbjddopoaaGreatDoorM17
import Derived.Test.YtchfmgbjddopoaaGreatDoorM18
set_option linter.unusedVariables false
set_option linter.unusedSimpArgs false
set_option maxHeartbeats 6400000
set_option maxRecDepth 100000
namespace Go.Proofs.YtchfmgbjddopoaaGreatDoor.Hand
open Go.RowKit Go.Proofs.YtchfmgbjddopoaaGreatDoorW.PrintWords Go.Proofs.YtchfmgbjddopoaaGreatDoorW.PrintLast Go.Proofs.YtchfmgbjddopoaaGreatDoorW.PrintMore
attribute [local go_sem ↓] Go.wp_at_zero Go.wp_at_succ
open Plain (Ky Wr Rc Ver Ent St Bytes)
theorem Zt (w : World) (A1 A2 : Option Addr) (n m c d : Nat) (h : n = 0 ∨ m = 0) : Calls Tryz.prog 48 #[.slice A1 n c, .slice A2 m d] w fun e w' => e = .returned (.bool (decide (n = m))) ∧ w' = w := by
 by_cases e : n = m
 · subst e
   have h0 : n = 0 := by omega
   subst h0
   go_enter Tryz.func48, Tryz.ntmps48
   go_wp2
   refine wp_loop_rounds 1 ?_
   rw [rounds_succ]
   go_wp2
   go_returns
   exact ⟨rfl, rfl⟩
 · have h1 : ¬ (n : Int) = (m : Int) := by omega
   have h2 : decide (n = m) = false := decide_eq_false e
   rw [h2]
   clear h h2
   go_enter Tryz.func48, Tryz.ntmps48
   go_wp2
   go_returns
   exact ⟨rfl, rfl⟩
theorem Xaa (w : World) (v1 v2 : Value) (xs ys : List Wr) (h1 : Eo w v1 xs) (h2 : Eo w v2 ys) (l1 : xs.length ≤ 9223372036854775807) (l2 : ys.length ≤ 9223372036854775807) :
   Calls Tryz.prog 48 #[v1, v2] w fun e w' => e = .returned (.bool (decide (xs = ys))) ∧ ∃ q, w' = w.drewN q := by
 obtain ⟨A1, c1, rfl⟩ := h1.slice
 obtain ⟨A2, c2, rfl⟩ := h2.slice
 by_cases h0 : xs.length = 0 ∨ ys.length = 0
 · refine (Zt w A1 A2 xs.length ys.length c1 c2 h0).mono ?_
   rintro e w' ⟨rfl, rfl⟩
   refine ⟨?_, 0, rfl⟩
   have e : decide (xs.length = ys.length) = decide (xs = ys) := by
     rw [Bool.eq_iff_iff, decide_eq_true_eq, decide_eq_true_eq]
     refine ⟨fun e => ?_, fun e => by rw [e]⟩
     rw [List.eq_nil_of_length_eq_zero (l := xs) (by omega), List.eq_nil_of_length_eq_zero (l := ys) (by omega)]
   rw [e]
 · obtain ⟨b1, o1, rfl, _, _, _, g1⟩ := h1.at_ (by omega)
   obtain ⟨b2, o2, rfl, _, _, _, g2⟩ := h2.at_ (by omega)
   refine (AnyQ.slices_Equal Tryz.OC 18 Tryz.isAgg105 Tryz.sizeOf105 wrC Bg _ Zg b1 o1 xs.length c1 b2 o2 ys.length c2 xs ys w (Nat.le_refl _) (Nat.le_refl _) l1 l2 (fun j hj i v hv => g1 j hj i v hv) (fun j hj i v hv => g2 j hj i v hv)).mono ?_
   rintro e w' ⟨rfl, q, rfl⟩
   rw [List.take_of_length_le (Nat.le_refl _), List.take_of_length_le (Nat.le_refl _), Gu]
   exact ⟨rfl, q, rfl⟩
theorem Zv (w : World) (A1 A2 : Option Addr) (n m c d : Nat) (h : n = 0 ∨ m = 0) : Calls Tryz.prog 53 #[.slice A1 n c, .slice A2 m d] w fun e w' => e = .returned (.bool (decide (n = m))) ∧ w' = w := by
 by_cases e : n = m
 · subst e
   have h0 : n = 0 := by omega
   subst h0
   go_enter Tryz.func53, Tryz.ntmps53
   go_wp2
   refine wp_loop_rounds 1 ?_
   rw [rounds_succ]
   go_wp2
   go_returns
   exact ⟨rfl, rfl⟩
 · have h1 : ¬ (n : Int) = (m : Int) := by omega
   have h2 : decide (n = m) = false := decide_eq_false e
   rw [h2]
   clear h h2
   go_enter Tryz.func53, Tryz.ntmps53
   go_wp2
   go_returns
   exact ⟨rfl, rfl⟩
theorem Xac (w : World) (v1 v2 : Value) (xs ys : List Ky) (h1 : ZK w v1 xs) (h2 : ZK w v2 ys) (l1 : xs.length ≤ 9223372036854775807) (l2 : ys.length ≤ 9223372036854775807) :
   Calls Tryz.prog 53 #[v1, v2] w fun e w' => e = .returned (.bool (decide (xs = ys))) ∧ ∃ q, w' = w.drewN q := by
 obtain ⟨A1, c1, rfl⟩ := h1.slice
 obtain ⟨A2, c2, rfl⟩ := h2.slice
 by_cases h0 : xs.length = 0 ∨ ys.length = 0
 · refine (Zv w A1 A2 xs.length ys.length c1 c2 h0).mono ?_
   rintro e w' ⟨rfl, rfl⟩
   refine ⟨?_, 0, rfl⟩
   have e : decide (xs.length = ys.length) = decide (xs = ys) := by
     rw [Bool.eq_iff_iff, decide_eq_true_eq, decide_eq_true_eq]
     refine ⟨fun e => ?_, fun e => by rw [e]⟩
     rw [List.eq_nil_of_length_eq_zero (l := xs) (by omega), List.eq_nil_of_length_eq_zero (l := ys) (by omega)]
   rw [e]
 · obtain ⟨b1, o1, rfl, _, _, _, g1⟩ := h1.at_ (by omega)
   obtain ⟨b2, o2, rfl, _, _, _, g2⟩ := h2.at_ (by omega)
   refine (AnyQ.slices_Equal Tryz.OB 16 Tryz.isAgg103 Tryz.sizeOf103 AZ Ai _ QL b1 o1 xs.length c1 b2 o2 ys.length c2 xs ys w (Nat.le_refl _) (Nat.le_refl _) l1 l2 (fun j hj i v hv => g1 j hj i v hv) (fun j hj i v hv => g2 j hj i v hv)).mono ?_
   rintro e w' ⟨rfl, q, rfl⟩
   rw [List.take_of_length_le (Nat.le_refl _), List.take_of_length_le (Nat.le_refl _), Gu]
   exact ⟨rfl, q, rfl⟩
theorem Zu (w : World) (A1 A2 : Option Addr) (n m c d : Nat) (h : n = 0 ∨ m = 0) : Calls Tryz.prog 55 #[.slice A1 n c, .slice A2 m d] w fun e w' => e = .returned (.bool (decide (n = m))) ∧ w' = w := by
 by_cases e : n = m
 · subst e
   have h0 : n = 0 := by omega
   subst h0
   go_enter Tryz.func55, Tryz.ntmps55
   go_wp2
   refine wp_loop_rounds 1 ?_
   rw [rounds_succ]
   go_wp2
   go_returns
   exact ⟨rfl, rfl⟩
 · have h1 : ¬ (n : Int) = (m : Int) := by omega
   have h2 : decide (n = m) = false := decide_eq_false e
   rw [h2]
   clear h h2
   go_enter Tryz.func55, Tryz.ntmps55
   go_wp2
   go_returns
   exact ⟨rfl, rfl⟩
theorem Xab (w : World) (v1 v2 : Value) (xs ys : List Ver) (h1 : WM w v1 xs) (h2 : WM w v2 ys) (l1 : xs.length ≤ 9223372036854775807) (l2 : ys.length ≤ 9223372036854775807) :
   Calls Tryz.prog 55 #[v1, v2] w fun e w' => e = .returned (.bool (decide (xs = ys))) ∧ ∃ q, w' = w.drewN q := by
 obtain ⟨A1, c1, rfl⟩ := h1.slice
 obtain ⟨A2, c2, rfl⟩ := h2.slice
 by_cases h0 : xs.length = 0 ∨ ys.length = 0
 · refine (Zu w A1 A2 xs.length ys.length c1 c2 h0).mono ?_
   rintro e w' ⟨rfl, rfl⟩
   refine ⟨?_, 0, rfl⟩
   have e : decide (xs.length = ys.length) = decide (xs = ys) := by
     rw [Bool.eq_iff_iff, decide_eq_true_eq, decide_eq_true_eq]
     refine ⟨fun e => ?_, fun e => by rw [e]⟩
     rw [List.eq_nil_of_length_eq_zero (l := xs) (by omega), List.eq_nil_of_length_eq_zero (l := ys) (by omega)]
   rw [e]
 · obtain ⟨b1, o1, rfl, _, _, _, g1⟩ := h1.at_ (by omega)
   obtain ⟨b2, o2, rfl, _, _, _, g2⟩ := h2.at_ (by omega)
   refine (AnyQ.slices_Equal Tryz.OA 4 Tryz.isAgg116 Tryz.sizeOf116 En BZ _ XY b1 o1 xs.length c1 b2 o2 ys.length c2 xs ys w (Nat.le_refl _) (Nat.le_refl _) l1 l2 (fun j hj i v hv => g1 j hj i v hv) (fun j hj i v hv => g2 j hj i v hv)).mono ?_
   rintro e w' ⟨rfl, q, rfl⟩
   rw [List.take_of_length_le (Nat.le_refl _), List.take_of_length_le (Nat.le_refl _), Gu]
   exact ⟨rfl, q, rfl⟩
theorem Wu (w : World) (A1 A2 : Option Addr) (n m c d : Nat) (h : n = 0 ∨ m = 0) : Calls Tryz.prog 49 #[.slice A1 n c, .slice A2 m d] w fun e w' => e = .returned (.bool (decide (n = m))) ∧ w' = w := by
 by_cases e : n = m
 · subst e
   have h0 : n = 0 := by omega
   subst h0
   go_enter Tryz.func49, Tryz.ntmps49
   go_wp2
   refine wp_loop_rounds 1 ?_
   rw [rounds_succ]
   go_wp2
   go_returns
   exact ⟨rfl, rfl⟩
 · have h1 : ¬ (n : Int) = (m : Int) := by omega
   have h2 : decide (n = m) = false := decide_eq_false e
   rw [h2]
   clear h h2
   go_enter Tryz.func49, Tryz.ntmps49
   go_wp2
   go_returns
   exact ⟨rfl, rfl⟩
theorem Yg (w : World) (v1 v2 : Value) (xs ys : List Int) (h1 : YF w v1 xs) (h2 : YF w v2 ys) (l1 : xs.length ≤ 9223372036854775807) (l2 : ys.length ≤ 9223372036854775807) :
   Calls Tryz.prog 49 #[v1, v2] w fun e w' => e = .returned (.bool (decide (xs = ys))) ∧ ∃ q, w' = w.drewN q := by
 obtain ⟨A1, c1, rfl⟩ := h1.slice
 obtain ⟨A2, c2, rfl⟩ := h2.slice
 by_cases h0 : xs.length = 0 ∨ ys.length = 0
 · refine (Wu w A1 A2 xs.length ys.length c1 c2 h0).mono ?_
   rintro e w' ⟨rfl, rfl⟩
   refine ⟨?_, 0, rfl⟩
   have e : decide (xs.length = ys.length) = decide (xs = ys) := by
     rw [Bool.eq_iff_iff, decide_eq_true_eq, decide_eq_true_eq]
     refine ⟨fun e => ?_, fun e => by rw [e]⟩
     rw [List.eq_nil_of_length_eq_zero (l := xs) (by omega), List.eq_nil_of_length_eq_zero (l := ys) (by omega)]
   rw [e]
 · obtain ⟨b1, o1, rfl, _, _, _, g1⟩ := h1.at_ (by omega)
   obtain ⟨b2, o2, rfl, _, _, _, g2⟩ := h2.at_ (by omega)
   have e : ∀ (l : List Int) (j : Nat), j < l.length → l[j]! = l.getD j 0 := fun l j hj => by rw [getElem!_pos l j hj, List.getD_eq_getElem?_getD, List.getElem?_eq_getElem hj]; rfl
   refine (Tryz.slices_Equal_int b1 o1 xs.length c1 b2 o2 ys.length c2 xs ys w (Nat.le_refl _) (Nat.le_refl _) l1 l2 (fun j hj => ?_) (fun j hj => ?_)).mono ?_
   · have := g1 j hj 0 _ rfl
     rwa [Nat.mul_one, Nat.add_zero, e xs j hj] at this
   · have := g2 j hj 0 _ rfl
     rwa [Nat.mul_one, Nat.add_zero, e ys j hj] at this
   · rintro e w' ⟨rfl, q, rfl⟩
     rw [List.take_of_length_le (Nat.le_refl _), List.take_of_length_le (Nat.le_refl _)]
     refine ⟨?_, q, rfl⟩
     have e2 : (xs == ys) = decide (xs = ys) := by rw [Bool.eq_iff_iff, beq_iff_eq, decide_eq_true_eq]
     rw [e2]
end Go.Proofs.YtchfmgbjddopoaaGreatDoor.Hand
namespace Go.Proofs.YtchfmgbjddopoaaGreatDoor.Hand
open Go.RowKit Go.Proofs.YtchfmgbjddopoaaGreatDoorW.PrintWords Go.Proofs.YtchfmgbjddopoaaGreatDoorW.PrintLast Go.Proofs.YtchfmgbjddopoaaGreatDoorW.PrintMore
attribute [local go_sem ↓] Go.wp_at_zero Go.wp_at_succ
open Plain (Ky Wr Rc Ver Ent St Bytes Chs chainOf Gi EF Ez CW FQ FM)
theorem Ry {K V W : Type} [DecidableEq K] (f : K → V → W) (k : K) (l : List (K × V)) : (FQ k l).map (fun p => (p.1, f p.1 p.2)) = FQ k (l.map fun p => (p.1, f p.1 p.2)) := by
 unfold FQ
 rw [List.filter_map]
 rfl
section
variable {F : Nat → Prop} {w : World} {tp ml mh : Nat} {tab : List (Int × Ent)} {held : List (Ky × Int)} {ev : Int → Value}
theorem TabAt.free {o : Obj} {k : Ky} (h : TabAt F w tp ml mh tab held ev) (hu : DD (Cc w mh o) mh Dq (FQ k (ER held))) : TabAt F (Cc w mh o) tp ml mh tab (FQ k held) ev := by
 have hF : Fr (fun k => k = mh) w (Cc w mh o) := Fr.put (Fr.refl _ w) mh o (.inl rfl)
 refine ⟨Ob.fr h.t hF (h.h.ne h.t), h.l.fr hF h.ne, ?_, fun p hp => AP (h.e p hp) hF fun k hk e => Ec (h.e p hp) h.h (hk ▸ e), h.ne, h.ft, h.fl, h.fh, h.fe⟩
 have := Ry (fun _ id => Value.int .i64 id) k held
 unfold ER at hu ⊢
 rw [this]
 exact hu
theorem TabAt.drop {o : Obj} {id : Int} (h : TabAt F w tp ml mh tab held ev) (hu : DD (Cc w ml o) ml Iq (FQ id (Ir tab ev))) : TabAt F (Cc w ml o) tp ml mh (FQ id tab) held ev := by
 have hF : Fr (fun k => k = ml) w (Cc w ml o) := Fr.put (Fr.refl _ w) ml o (.inl rfl)
 have hs : ∀ p ∈ FQ id tab, p ∈ tab := fun p hp => (List.mem_filter.1 hp).1
 refine ⟨Ob.fr h.t hF (h.l.ne h.t), ?_, h.h.fr hF (fun e => h.ne e.symm), fun p hp => AP (h.e p (hs p hp)) hF fun k hk e => Ec (h.e p (hs p hp)) h.l (hk ▸ e), h.ne, h.ft, h.fl, h.fh, fun p hp => h.fe p (hs p hp)⟩
 have := Ry (fun i e => Value.agg (IG e (ev i))) id tab
 unfold Ir at hu ⊢
 rw [this]
 exact hu
end
theorem QU (F : Nat → Prop) (w : World) (tp ml mh : Nat) (tab : List (Int × Ent)) (held : List (Ky × Int)) (ev : Int → Value) (id i t0 n0 t1 n1 : Int) (A : Option Addr) (n c : Nat) (ok : Bool) (ws : List Wr) (h : TabAt F w tp ml mh tab held ev)
   (hlk : ∀ W, Below w.heap.size w W → (Instr.lookup 159 (.map (some ml)) (.int .i64 id) true).run Tryz.prog W = .ok (.tuple #[.agg (E6 i t0 n0 t1 n1 (.slice A n c)), .bool ok]) W)
   (hw : Eo w (.slice A n c) ws) (hn : ws.length ≤ 16) (hwl : (Value.slice A n c).ownBlock ≠ some ml) (hwh : (Value.slice A n c).ownBlock ≠ some mh) (hF : ∀ k, F k → k < w.heap.size) :
   Calls Tryz.prog 86 #[.pointer (some ⟨tp, 0, none⟩), .int .i64 id] w fun x w' => x = .returned (.tuple #[.agg (E6 i t0 n0 t1 n1 (.slice A n c)), .bool ok]) ∧ TabAt F w' tp ml mh (FQ id tab) (FM held ws) ev ∧ Fr (fun k => k = ml ∨ k = mh) w w' := by
 have hnn : n = ws.length := by
   obtain ⟨A', c', e'⟩ := hw.slice
   injection e'
 replace hlk := Aa.mk hlk
 replace h := Aa.mk h
 replace hw := Aa.mk hw
 replace hn := Aa.mk hn
 replace hwl := Aa.mk hwl
 replace hwh := Aa.mk hwh
 replace hF := Aa.mk hF
 replace hnn := Aa.mk hnn
 go_enter Tryz.func86, Tryz.ntmps86
 go_wp2_with (first
   | ((with_reducible refine Ac (N := 4) rfl ?_); refine Aj (N := 4) (C := E6 0 0 0 0 0 (.slice none 0 0)) rfl rfl (by first | (go_simp; done) | (go_simp; rfl)) ?_; intro g4 w1 h1 b1 f1; have c0 : w1.cell? ⟨tp, 0, none⟩ = some (.map (some ml)) := Bk.cell (Ob.Ad h.out.t f1.out) rfl; have hl := hlk.out w1 f1.out)
   | ((with_reducible refine Ac (N := 6) rfl ?_); refine Aj (N := 6) (C := E6 0 0 0 0 0 (.slice none 0 0)) rfl rfl (by first | (go_simp; done) | (go_simp; rfl)) ?_; intro g6 w2 h2 b2 f2; have b12 := Aa.mk (b1.out.Ad f2.out); clear hl c0)
   | ((with_reducible refine Af (t := 72) (p := 6) (v := .tmp 17) rfl ?_); (refine Ak rfl (ty := 72) (x := .tmp 6) (y := .tmp 17) (cells := E6 i t0 n0 t1 n1 (.slice A n c)) rfl rfl rfl b2.out CO (by kernel_rfl) (Nat.le_refl 6) (E6 i t0 n0 t1 n1 (.slice A n c)) (Aq (C := E6 0 0 0 0 0 (.slice none 0 0)) rfl) ?_); intro w3 b23 f3
      have h46 : Aa (g4 ≠ g6) := ⟨by have := Ob.lt b1.out; have := h2.out; omega⟩
      have b13 := Aa.mk (Ob.fr b12.out f3.out h46.out)
      have F3 : Aa (Below w.heap.size w w3) := ⟨(Fr.trans (T := fun k => k = g6) ((Fr.of_below f1.out).trans (Fr.of_below f2.out)) f3.out).below (fun k hk e => by have := h2.out; have := f1.out.size; omega) (Nat.le_refl _)⟩
      have T3 := Aa.mk (h.out.below F3.out)
      have W3 := Aa.mk (hw.out.below F3.out)
      have c5 := Bk.cell b23.out (j := 5) rfl))
 have gw : Aa (w.heap.size ≤ g4 ∧ w.heap.size ≤ g6) := ⟨⟨h1.out, Nat.le_trans f1.out.size h2.out⟩⟩
 have Z3 : Aa (Fr (fun k => k = ml ∨ k = mh) w w3) := ⟨Fr.of_below F3.out⟩
 go_loopw [22] (fun p w' => ∃ j : Nat, j ≤ n ∧ p = .int .i64 j ∧ Aa (TabAt F w' tp ml mh tab (FM held (ws.take j)) ev) ∧ Aa (Eo w' (.slice A n c) ws) ∧ Aa (Bk w' g6 (E6 i t0 n0 t1 n1 (.slice A n c)) 72) ∧ Aa (Bk w' g4 (E6 0 0 0 0 0 (.slice none 0 0)) 72) ∧ Aa (Fr (fun k => k = ml ∨ k = mh) w w')) (fun p _ => n - (intOf p).toNat)
 case atStart => exact ⟨0, Nat.zero_le _, rfl, T3, W3, b23, b13, Z3⟩
 case round =>
   obtain ⟨j, hj, rfl, HT, HW, HB, HB4, HF⟩ := hrel
   clear T3 W3 b23 b13 Z3 c5
   by_cases hlt : j < n
   case neg =>
     have hjn : ws.take j = ws := List.take_of_length_le (by rw [← hnn.out]; omega)
     rw [hjn] at HT
     have d1 : decide ((j : Int) < (n : Int)) = false := by simp; omega
     have d2 : decide (j < n) = false := by simp; omega
     have c0 : wr.cell? ⟨tp, 0, none⟩ = some (.map (some ml)) := Bk.cell HT.out.t rfl
     obtain ⟨o2, hdel, HU2⟩ := HT.out.l.strike Nv Tryz.underlying159 id 2 0
     simp only [Iq] at hdel
     clear hjn hj
     go_upto_region 8 with fail
     have T9 := TabAt.drop HT.out HU2
     have P9 : Fr (fun k => k = ml) wr (Cc wr ml o2) := Fr.put (Fr.refl _ wr) ml o2 (.inl rfl)
     have b69 := Aa.mk (Ob.fr HB.out P9 (HT.out.l.ne HB.out))
     have b49 := Aa.mk (Ob.fr HB4.out P9 (HT.out.l.ne HB4.out))
     clear hdel c0 HU2
     have h46 : Aa (g4 ≠ g6) := ⟨by have := Ob.lt b1.out; have := h2.out; omega⟩
     generalize Cc wr ml o2 = w9 at *
     go_wp2_with (first
       | ((with_reducible refine Ac (N := 38) rfl ?_); (refine Au (N := 38) rfl rfl rfl rfl b69.out Tryz.underlying72 rfl CO (E6 i t0 n0 t1 n1 (.slice A n c)).toList (AU rfl) rfl ?_))
       | ((with_reducible refine Af (t := 72) (p := 4) (v := .tmp 38) rfl ?_); (refine Ak rfl (ty := 72) (x := .tmp 4) (y := .tmp 38) (cells := E6 i t0 n0 t1 n1 (.slice A n c)) rfl rfl rfl b49.out CO (by kernel_rfl) (Nat.le_refl 6) (E6 i t0 n0 t1 n1 (.slice A n c)) (Aq (C := E6 0 0 0 0 0 (.slice none 0 0)) rfl) ?_); intro w10 b410 f10))
     refine AO (Tryz.results86) rfl b410.out Tryz.underlying72 rfl CO rfl rfl ⟨rfl, T9.fr f10.out (fun k hk hg => ?_), (HF.out.trans (P9.weaken fun k _ e => .inl e)).after f10.out fun k hk => .inr (by have := gw.out; omega)⟩
     have := hF.out k hg
     have := gw.out
     omega
   obtain ⟨b, o, hA, hbn, hc, hbs, hr⟩ := HW.out.at_ (by rw [← hnn.out]; omega)
   have hjw : j < ws.length := by rw [← hnn.out]; exact hlt
   replace hr := hr j hjw
   have htk : FM held (ws.take (j + 1)) = FQ (ws[j]!).key (FM held (ws.take j)) := by
     rw [List.take_succ_eq_append_getElem hjw, getElem!_pos ws j hjw, FM, List.foldl_append]
     rfl
   generalize ws[j]! = x at hr htk
   subst hA
   clear hbn hjw
   replace hr := Aa.mk hr
   replace htk := Aa.mk htk
   replace hbs := Aa.mk hbs
   have d1 : decide ((j : Int) < (n : Int)) = true := by simp; omega
   have d2 : decide (j < n) = true := by simp; omega
   have hjb : j < 1000000 := by have := hn.out; have := hnn.out; omega
   go_upto_region 5 with (first
     | ((with_reducible refine Ac (N := 25) rfl ?_); (refine BM (N := 25) rfl rfl rfl rfl Tryz.underlying105 rfl (by rw [Bg]; exact Bl) hr.out ?_))
     | ((with_reducible refine Ac (N := 9) rfl ?_); refine Aj (N := 9) (C := Z18) rfl rfl (by first | (go_simp; done) | (go_simp; rfl)) ?_; intro g8 w7 h8 b8 f7)
     | ((with_reducible refine Af (t := 105) (p := 9) (v := .tmp 25) rfl ?_); (refine Ak rfl (ty := 105) (x := .tmp 9) (y := .tmp 25) (cells := (wrC x).toArray) rfl rfl rfl b8.out (by rw [AY]; exact Bl) (Eb x) (by rw [AY]; exact Nat.le_refl 18) (wrC x).toArray (Aq (AY x)) ?_); intro w8 b88 f8))
   have hG8 : ¬ F g8 := fun hk => by
     have := HF.out.size
     have := h8.out
     have := hF.out _ hk
     omega
   have T8 := Aa.mk ((HT.out.below f7.out).fr f8.out fun k hk hg => hG8 (hk ▸ hg))
   have W8 := Aa.mk ((HW.out.below f7.out).fr f8.out fun q hq hk => by
     have e1 : b = q := Option.some.inj hk
     have := hbs.out
     have := h8.out
     omega)
   have b68 := Aa.mk (Ob.fr (Ob.Ad HB.out f7.out) f8.out fun q => by have := HB.out.lt; have := h8.out; omega)
   have b48 := Aa.mk (Ob.fr (Ob.Ad HB4.out f7.out) f8.out fun q => by have := HB4.out.lt; have := h8.out; omega)
   have F8 : Aa (Fr (fun k => k = ml ∨ k = mh) w w8) := ⟨HF.out.after ((Fr.of_below (T := fun k => k = g8) f7.out).trans f8.out) fun k hk => .inr (by have := HF.out.size; have := h8.out; omega)⟩
   have hm8 : g8 ≠ mh := T8.out.h.ne b88.out
   obtain ⟨o2, hdel, HU2⟩ := (T8.out.h.below (Ag (Below.refl _ _))).strike EK Tryz.underlying160 x.key 103 0
   simp only [Dq] at hdel
   have hS2 : ∀ W, Fr (fun k => k = mh) w8 W → (W.cell? ⟨tp, 1, none⟩ = some (.map (some mh)) ∧ W.rangeAt g8 0 (AZ x.key)) := fun W f => ⟨Bk.cell (Ob.fr T8.out.t f (T8.out.h.ne T8.out.t)) rfl, Bk.range (Ob.fr b88.out f hm8) 0 16 (BV x)⟩
   replace hS2 := Aa.mk hS2
   have u79 := Tryz.underlying103
   have i79 : (Tryz.prog.info? 103).map (·.size) = some (AZ x.key).length := by rw [Ai]; exact AB
   refine wp_region_noPanic ?_
   go_region_held_law (fun w' => (w'.cell? ⟨tp, 1, none⟩ = some (.map (some mh)) ∧ w'.rangeAt g8 0 (AZ x.key)))
     (exact hS2.out _ (by repeat (first | exact Fr.refl _ _ | refine Fr.drew ?_ | refine Fr.put ?_ _ _ (.inl rfl))))
     (fail)
   refine NoPanic.normal ?_
   go_split_ands
   have T9 := TabAt.free (T8.out.below (Ag (Below.refl _ _))) HU2
   have P9 : Fr (fun k => k = mh) w8 (Cc w8.drew mh o2) := Fr.put ((Fr.refl _ w8).drew) mh o2 (.inl rfl)
   rw [← htk.out] at T9
   have W9 := W8.out.fr P9 fun q hq hk => hwh.out (hq ▸ hk)
   have b69 := Ob.fr b68.out P9 (T8.out.h.ne b68.out)
   have b49 := Ob.fr b48.out P9 (T8.out.h.ne b48.out)
   generalize Cc w8.drew mh o2 = w9 at *
   go_wp2_with fail
   refine ⟨⟨j + 1, by omega, by rw [Int.natCast_add]; rfl, ⟨T9⟩, ⟨W9⟩, ⟨b69⟩, ⟨b49⟩, ⟨F8.out.trans (P9.weaken fun k _ e => .inr e)⟩⟩, ?_⟩
   simp only [intOf]
   omega
end Go.Proofs.YtchfmgbjddopoaaGreatDoor.Hand
namespace Go.Proofs.YtchfmgbjddopoaaGreatDoor.Hand
open Go.RowKit Go.Proofs.YtchfmgbjddopoaaGreatDoorW.PrintWords Go.Proofs.YtchfmgbjddopoaaGreatDoorW.PrintLast Go.Proofs.YtchfmgbjddopoaaGreatDoorW.PrintMore
attribute [local go_sem ↓] Go.wp_at_zero Go.wp_at_succ
open Plain (Ky Wr Rc Ver Ent St Bytes AX Inv)
def QK (l : List (Int × Int)) : List (Int × Value) := l.map fun p => (p.1, .int .i64 p.2)
structure CZ where
 sp : Nat
 mc : Nat
 tp : Nat
 ml : Nat
 mh : Nat
 mo : Nat
structure Aw (F : Nat → Prop) (w : World) (p : Nat) (ix : CZ) (s : St) (cb : CB) (ev : Int → Value) : Prop where
 bp : Bk w p #[.pointer (some ⟨ix.sp, 0, none⟩), .pointer (some ⟨ix.tp, 0, none⟩), .map (some ix.mo)] 92
 st : AA F w ix.sp ix.mc s.chains cb
 tb : TabAt F w ix.tp ix.ml ix.mh s.tab s.held ev
 ov : DD w ix.mo Iq (QK s.over)
 fp : F p
 fo : F ix.mo
 d : ix.mo ≠ ix.mc ∧ ix.mo ≠ ix.ml ∧ ix.mo ≠ ix.mh ∧ ix.mc ≠ ix.ml ∧ ix.mc ≠ ix.mh
 few : ∀ k, F k → k < w.heap.size
section
variable {F T : Nat → Prop} {w w' : World} {p : Nat} {ix : CZ} {s : St} {cb : CB} {ev : Int → Value}
theorem Aw.below (h : Aw F w p ix s cb ev) (f : Below w.heap.size w w') : Aw F w' p ix s cb ev :=
 ⟨Ob.Ad h.bp f, h.st.below f, h.tb.below f, h.ov.below f, h.fp, h.fo, h.d, fun k hk => Nat.lt_of_lt_of_le (h.few k hk) f.size⟩
theorem Aw.fr (h : Aw F w p ix s cb ev) (f : Fr T w w') (hT : ∀ k, T k → ¬ F k) : Aw F w' p ix s cb ev :=
 ⟨Ob.fr h.bp f fun e => hT _ e h.fp, h.st.fr f hT, h.tb.fr f hT, h.ov.fr f fun e => hT _ e h.fo, h.fp, h.fo, h.d, fun k hk => Nat.lt_of_lt_of_le (h.few k hk) f.size⟩
theorem Va (id : Int) (l : List (Int × Int)) : Plain.look id (QK l) = (Plain.look id l).map fun x => .int .i64 x := IK (fun _ x => .int .i64 x) id l
end
theorem zero3 (W : World) : (zeroValue 3).run Tryz.prog W = .ok (.int .i64 0) W := by kernel_rfl
theorem Ri (w : World) : Calls Tryz.prog 14 #[] w fun e w' => ∃ p ix cb ev, e = .returned (.pointer (some ⟨p, 0, none⟩)) ∧ Aw (fun k => w.heap.size ≤ k ∧ k < w'.heap.size) w' p ix St.none cb ev ∧ Below w.heap.size w w' := by
 go_enter Tryz.func14, Tryz.ntmps14
 go_wp2_with (first
   | (go_at_call 41; refine (Jd _).mono ?_; rintro e w1 ⟨sp, mc, rfl, hsp, hmc, b1, m1, f1⟩; replace b1 := Aa.mk b1; replace m1 := Aa.mk m1; replace f1 := Aa.mk f1; replace hsp := Aa.mk hsp; replace hmc := Aa.mk hmc)
   | (go_at_call 42; refine (Xy _).mono ?_; rintro e w2 ⟨tp, ml, mh, rfl, htp, hml, hmh, hne, b2, m2, m2', f2⟩; replace b2 := Aa.mk b2; replace m2 := Aa.mk m2; replace m2' := Aa.mk m2'; replace f2 := Aa.mk f2; replace htp := Aa.mk htp; replace hml := Aa.mk hml; replace hmh := Aa.mk hmh; replace hne := Aa.mk hne)
   | ((with_reducible refine Ac (N := 3) rfl ?_); refine Ih (N := 3) rfl rfl (by first | (go_simp; done) | (go_simp; rfl)) ?_; intro mo w3 h3 b3 f3)
   | ((with_reducible refine Ac (N := 5) rfl ?_); refine Aj (N := 5) (C := #[.pointer (some ⟨sp, 0, none⟩), .pointer (some ⟨tp, 0, none⟩), .map (some mo)]) rfl rfl (by first | (go_simp; done) | (go_simp; rfl)) ?_; intro p w4 h4 b4 f4))
 go_returns
 have q1 := f1.out.size
 have q2 := f2.out.size
 have q3 := f3.out.size
 have q4 := f4.out.size
 have a1 := hsp.out
 have a2 := hmc.out
 have a3 := htp.out
 have a4 := hml.out
 have a5 := hmh.out
 have a6 := h3.out
 have a7 := h4.out
 have k1 := Ob.lt b1.out
 have k2 := Ob.lt m1.out
 have k3 := Ob.lt b2.out
 have k4 := Ob.lt m2.out
 have k5 := Ob.lt m2'.out
 have k6 := Ob.lt b3.out
 have k7 := Ob.lt b4.out
 have g24 : Below w1.heap.size w1 w4 := (f2.out.trans (f3.out.mono q2)).trans (f4.out.mono (Nat.le_trans q2 q3))
 have g34 : Below w2.heap.size w2 w4 := f3.out.trans (f4.out.mono q3)
 refine ⟨p, ⟨sp, mc, tp, ml, mh, mo⟩, fun _ => (0, .nilIface), fun _ => .nilIface, rfl, ⟨b4.out, ⟨Ob.Ad b1.out g24, DD.new (Ob.Ad m1.out g24), by simp [St.none], by simp [St.none], ?_, ?_, by simp [St.none], by simp [St.none]⟩, ⟨Ob.Ad b2.out g34, DD.new (Ob.Ad m2.out g34), DD.new (Ob.Ad m2'.out g34), by simp [St.none], hne.out, ?_, ?_, ?_, by simp [St.none]⟩, DD.new (Ob.Ad b3.out f4.out), ?_, ?_, ?_, fun k hk => hk.2⟩, ?_⟩
 all_goals (try simp only)
 · omega
 · omega
 · omega
 · omega
 · omega
 · omega
 · omega
 · omega
 · exact (f1.out.trans (g24.mono q1))
end Go.Proofs.YtchfmgbjddopoaaGreatDoor.Hand
