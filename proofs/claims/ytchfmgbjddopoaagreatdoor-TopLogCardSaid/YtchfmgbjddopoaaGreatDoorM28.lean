import Derived.Test.YtchfmgbjddopoaaGreatDoorProg
import Derived.Below
import Derived.Deep.Draws
import Derived.Deep.AppendLies
import Derived.Maps.AppendAt
import Derived.OwnWalk
import Derived.Laws.BytesArg
import Derived.Laws.MakeOwn
import Derived.Laws.OwnMore
import Derived.Deep.OwnRows
import Derived.Tactics
import Derived.Lib.ConvBytes
import Derived.Laws.Slices
import Derived.WalkKit
import Derived.KernelRfl
import Derived.RowKit3
import Derived.Deep.LoopGhost
import Derived.Deep.QuietTactic
import Derived.BigQuiet
import Derived.WideLaws
import Derived.Deep.DeepCutAuto
import Derived.Deep.CutBlock
import Derived.Deep.RegionHeld3
import Derived.Laws.Rows
import Derived.Lib.AppendStr
import Derived.ArgAppend
import Derived.Laws.IdiomCopy
import Derived.OrdersHeld
import Derived.Laws.BitsLemmas
import Derived.RowKit
import Derived.Laws.StructEq
import Derived.Test.YtchfmgbjddopoaaGreatDoorM01
import Derived.Test.YtchfmgbjddopoaaGreatDoorM02
import Derived.Test.YtchfmgbjddopoaaGreatDoorM22
import Derived.Test.YtchfmgbjddopoaaGreatDoorM27
set_option linter.unusedVariables false
set_option linter.unusedSimpArgs false
set_option maxHeartbeats 6400000
set_option maxRecDepth 100000
namespace Go.Proofs.YtchfmgbjddopoaaGreatDoor.Hand
open Go.RowKit Go.Proofs.YtchfmgbjddopoaaGreatDoorW.PrintWords Go.Proofs.YtchfmgbjddopoaaGreatDoorW.PrintLast Go.Proofs.YtchfmgbjddopoaaGreatDoorW.PrintMore
attribute [local go_sem ↓] Go.wp_at_zero Go.wp_at_succ
open Plain (Ky Wr Rc Ver Ent St Bytes)
theorem XU (w : World) (r : Rc) (A1 A2 : Option Addr) (n1 c1 n2 c2 : Nat) (h : r.kind = 4) (hy : r.yes = true) :
   Calls Tryz.prog 27 #[.agg (Df r (.slice A1 n1 c1) (.slice A2 n2 c2))] w fun e w' => e = .returned (.agg (Df (Plain.CJ r) (.slice none 0 0) (.slice A2 n2 c2))) ∧ Below w.heap.size w w' := by
 obtain ⟨O, hO⟩ : ∃ O, O = Df (Plain.CJ r) (.slice none 0 0) (.slice A2 n2 c2) := ⟨_, rfl⟩
 have hR : Aa (O = #[.int .i64 r.kind, .int .i64 r.id, .int .i64 0, .int .u8 0, .int .i64 r.t1, .int .u8 r.n1, .slice none 0 0, .bool true, .slice A2 n2 c2]) := ⟨by rw [hO, Plain.CJ, if_neg (by omega), if_neg (by omega), if_pos h]; simp [Df, hy]⟩
 rw [← hO]
 clear hO
 obtain ⟨C, hC⟩ : ∃ C, C = Df r (.slice A1 n1 c1) (.slice A2 n2 c2) := ⟨_, rfl⟩
 rw [← hC]
 replace hC := Aa.mk hC
 obtain ⟨k, hk⟩ : ∃ k, k = r.kind := ⟨_, rfl⟩
 rw [← hk] at h hR
 subst h
 replace hy := Aa.mk hy
 replace hk := Aa.mk hk
 go_enter Tryz.func27, Tryz.ntmps27
 go_wp2_with (first
   | ((with_reducible refine Ac (N := 1) rfl ?_); refine Aj (N := 1) (C := C) rfl rfl (by first | (go_simp; done) | (go_simp; rfl)) ?_; intro g1 w1 h1 b1 f1; rw [hC.out] at b1)
   | ((with_reducible refine Ac (N := 2) rfl ?_); refine Aj (N := 2) (C := Z9) rfl rfl (by first | (go_simp; done) | (go_simp; rfl)) ?_; intro g2 w2 h2 b2 f2; have b12 := Aa.mk (b1.out.Ad f2.out); have q0 : w2.cell? ⟨g1, 0, none⟩ = some (.int .i64 4) := (Bk.cell b12.out (v := .int .i64 r.kind) rfl).trans (by rw [← hk.out]); have q1 : w2.cell? ⟨g1, 1, none⟩ = some (.int .i64 r.id) := Bk.cell b12.out rfl)
   | ((with_reducible refine Ac (N := 3) rfl ?_); refine Aj (N := 3) (C := Z9) rfl rfl (by first | (go_simp; done) | (go_simp; rfl)) ?_; intro g3 w3 h3 b3 f3; have b13 := Aa.mk (b12.out.Ad f3.out); clear q0 q1)
   | ((with_reducible refine Af (t := 36) (p := 3) (v := .tmp 8) rfl ?_); go_must (refine Ak rfl (ty := 36) (x := .tmp 3) (y := .tmp 8) (cells := #[.int .i64 4, .int .i64 r.id, .int .i64 0, .int .u8 0, .int .i64 0, .int .u8 0, .slice none 0 0, .bool false, .slice none 0 0]) rfl rfl rfl b3.out Bh (by kernel_rfl) (Nat.le_refl 9) #[.int .i64 4, .int .i64 r.id, .int .i64 0, .int .u8 0, .int .i64 0, .int .u8 0, .slice none 0 0, .bool false, .slice none 0 0] (Aq rfl) ?_); intro w4 b34 f4; have b14 := Aa.mk (b13.out.fr f4.out (by have := b12.out.lt; have := h3.out; omega)); have k0 : w4.cell? ⟨g1, 0, none⟩ = some (.int .i64 4) := (Bk.cell b14.out (v := .int .i64 r.kind) rfl).trans (by rw [← hk.out])
      have k4 : w4.cell? ⟨g1, 4, none⟩ = some (.int .i64 r.t1) := Bk.cell b14.out rfl
      have k5 : w4.cell? ⟨g1, 5, none⟩ = some (.int .u8 r.n1) := Bk.cell b14.out rfl
      have k7 : w4.cell? ⟨g1, 7, none⟩ = some (.bool true) := Bk.cell b14.out (by rw [← hy.out]; rfl)
      have k8 : w4.cell? ⟨g1, 8, none⟩ = some (.slice A2 n2 c2) := Bk.cell b14.out rfl
      have p4 : w4.cell? ⟨g3, 4, none⟩ = some (.int .i64 0) := Bk.cell b34.out rfl
      have p5 : w4.cell? ⟨g3, 5, none⟩ = some (.int .u8 0) := Bk.cell b34.out rfl
      have p7 : w4.cell? ⟨g3, 7, none⟩ = some (.bool false) := Bk.cell b34.out rfl
      have p8 : w4.cell? ⟨g3, 8, none⟩ = some (.slice none 0 0) := Bk.cell b34.out rfl
      have z4 := Bk.free b34.out 4
      have z5 := Bk.free b34.out 5
      have z7 := Bk.free b34.out 7
      have z8 := Bk.free b34.out 8))
 go_region
 refine onW (S := fun W' => Aa (∃ D, Bk W' g3 D 36 ∧ D = #[.int .i64 4, .int .i64 r.id, .int .i64 0, .int .u8 0, .int .i64 0, .int .u8 0, .slice none 0 0, .bool true, .slice A2 n2 c2]) ∧ Aa (Fr (fun k => k = g3) w4 W')) ⟨⟨_, Ob.drew (Bk.set (Bk.set b34.out 7 _) 8 _), by simp⟩, ⟨by repeat (first | exact Fr.refl _ _ | refine Fr.drew ?_ | refine Fr.set ?_ _ _ _ (.inl rfl))⟩⟩ ?_
 rintro w5 ⟨e5, f5⟩
 clear k0 k4 k5 k7 k8 p4 p5 p7 p8 z4 z5 z7 z8
 obtain ⟨D1, b5, rfl⟩ := e5.out
 clear e5
 replace b5 := Aa.mk b5
 have b15 := Aa.mk (b14.out.fr f5.out (by have := b12.out.lt; have := h3.out; omega))
 have k4 : w5.cell? ⟨g1, 4, none⟩ = some (.int .i64 r.t1) := Bk.cell b15.out rfl
 have k5 : w5.cell? ⟨g1, 5, none⟩ = some (.int .u8 r.n1) := Bk.cell b15.out rfl
 have k7 : w5.cell? ⟨g1, 7, none⟩ = some (.bool true) := (Bk.cell b15.out (v := .bool r.yes) rfl).trans (by rw [hy.out])
 have p4 : w5.cell? ⟨g3, 4, none⟩ = some (.int .i64 0) := Bk.cell b5.out rfl
 have p5 : w5.cell? ⟨g3, 5, none⟩ = some (.int .u8 0) := Bk.cell b5.out rfl
 have z4 := Bk.free b5.out 4
 have z5 := Bk.free b5.out 5
 go_wp2_with (first
   | ((with_reducible refine Ac (N := 41) rfl ?_)
      go_must (refine onW (S := fun W' => Aa (∃ D, Bk W' g3 D 36 ∧ D = O) ∧ Aa (Fr (fun k => k = g3) w5 W')) ⟨⟨⟨_, Bk.set (Bk.set b5.out 4 _) 5 _, by rw [hR.out]; simp⟩⟩, ⟨by repeat (first | exact Fr.refl _ _ | refine Fr.drew ?_ | refine Fr.set ?_ _ _ _ (.inl rfl))⟩⟩ ?_)
      rintro w6 ⟨e6, f6⟩
      clear k4 k5 k7 p4 p5 z4 z5
      obtain ⟨D, b6, hD⟩ := e6.out
      clear e6
      subst hD
      replace b6 := Aa.mk b6
      have b26 := Aa.mk (((((b2.out.Ad f3.out).fr f4.out (by have := b2.out.lt; have := h3.out; omega)).fr f5.out (by have := b2.out.lt; have := h3.out; omega)).fr f6.out (by have := b2.out.lt; have := h3.out; omega)))
      go_must (refine Au (N := 41) rfl rfl rfl rfl b6.out Tryz.underlying36 rfl Bh D.toList (AU (by rw [hR.out]; rfl)) (by rw [hR.out]; rfl) ?_))
   | ((with_reducible refine Af (t := 36) (p := 2) (v := .tmp 41) rfl ?_); go_must (refine Ak rfl (ty := 36) (x := .tmp 2) (y := .tmp 41) (cells := D) rfl rfl rfl b26.out (by rw [hR.out]; exact Bh) (by rw [hR.out]; kernel_rfl) (by rw [hR.out]; exact Nat.le_refl 9) D (Aq (by rw [hR.out]; rfl)) ?_); intro w7 b7 f7))
 refine DY Tryz.results27 rfl b7.out Tryz.underlying36 rfl Bh (by rw [hR.out]; rfl) rfl ⟨rfl, ?_⟩
 have q1 := h1.out
 have q2 := h2.out
 have q3 := h3.out
 have q4 := f1.out.size
 have q5 := f2.out.size
 exact (Fr.trans (T := fun k => k = g2 ∨ k = g3) (Fr.of_below f1.out) ((Fr.of_below f2.out).trans ((Fr.of_below f3.out).trans ((f4.out.weaken (fun _ _ h => .inr h)).trans ((f5.out.weaken (fun _ _ h => .inr h)).trans ((f6.out.weaken (fun _ _ h => .inr h)).trans (f7.out.weaken (fun _ _ h => .inl h)))))))).below (by omega) (Nat.le_refl _)
theorem XV (w : World) (r : Rc) (A1 A2 : Option Addr) (n1 c1 n2 c2 : Nat) (h : r.kind = 4) (hy : r.yes = false) :
   Calls Tryz.prog 27 #[.agg (Df r (.slice A1 n1 c1) (.slice A2 n2 c2))] w fun e w' => e = .returned (.agg (Df (Plain.CJ r) (.slice none 0 0) (.slice A2 n2 c2))) ∧ Below w.heap.size w w' := by
 obtain ⟨O, hO⟩ : ∃ O, O = Df (Plain.CJ r) (.slice none 0 0) (.slice A2 n2 c2) := ⟨_, rfl⟩
 have hR : Aa (O = #[.int .i64 r.kind, .int .i64 r.id, .int .i64 0, .int .u8 0, .int .i64 0, .int .u8 0, .slice none 0 0, .bool false, .slice A2 n2 c2]) := ⟨by rw [hO, Plain.CJ, if_neg (by omega), if_neg (by omega), if_pos h]; simp [Df, hy]⟩
 rw [← hO]
 clear hO
 obtain ⟨C, hC⟩ : ∃ C, C = Df r (.slice A1 n1 c1) (.slice A2 n2 c2) := ⟨_, rfl⟩
 rw [← hC]
 replace hC := Aa.mk hC
 obtain ⟨k, hk⟩ : ∃ k, k = r.kind := ⟨_, rfl⟩
 rw [← hk] at h hR
 subst h
 replace hy := Aa.mk hy
 replace hk := Aa.mk hk
 go_enter Tryz.func27, Tryz.ntmps27
 go_wp2_with (first
   | ((with_reducible refine Ac (N := 1) rfl ?_); refine Aj (N := 1) (C := C) rfl rfl (by first | (go_simp; done) | (go_simp; rfl)) ?_; intro g1 w1 h1 b1 f1; rw [hC.out] at b1)
   | ((with_reducible refine Ac (N := 2) rfl ?_); refine Aj (N := 2) (C := Z9) rfl rfl (by first | (go_simp; done) | (go_simp; rfl)) ?_; intro g2 w2 h2 b2 f2; have b12 := Aa.mk (b1.out.Ad f2.out); have q0 : w2.cell? ⟨g1, 0, none⟩ = some (.int .i64 4) := (Bk.cell b12.out (v := .int .i64 r.kind) rfl).trans (by rw [← hk.out]); have q1 : w2.cell? ⟨g1, 1, none⟩ = some (.int .i64 r.id) := Bk.cell b12.out rfl)
   | ((with_reducible refine Ac (N := 3) rfl ?_); refine Aj (N := 3) (C := Z9) rfl rfl (by first | (go_simp; done) | (go_simp; rfl)) ?_; intro g3 w3 h3 b3 f3; have b13 := Aa.mk (b12.out.Ad f3.out); clear q0 q1)
   | ((with_reducible refine Af (t := 36) (p := 3) (v := .tmp 8) rfl ?_); go_must (refine Ak rfl (ty := 36) (x := .tmp 3) (y := .tmp 8) (cells := #[.int .i64 4, .int .i64 r.id, .int .i64 0, .int .u8 0, .int .i64 0, .int .u8 0, .slice none 0 0, .bool false, .slice none 0 0]) rfl rfl rfl b3.out Bh (by kernel_rfl) (Nat.le_refl 9) #[.int .i64 4, .int .i64 r.id, .int .i64 0, .int .u8 0, .int .i64 0, .int .u8 0, .slice none 0 0, .bool false, .slice none 0 0] (Aq rfl) ?_); intro w4 b34 f4; have b14 := Aa.mk (b13.out.fr f4.out (by have := b12.out.lt; have := h3.out; omega)); have k0 : w4.cell? ⟨g1, 0, none⟩ = some (.int .i64 4) := (Bk.cell b14.out (v := .int .i64 r.kind) rfl).trans (by rw [← hk.out])
      have k4 : w4.cell? ⟨g1, 4, none⟩ = some (.int .i64 r.t1) := Bk.cell b14.out rfl
      have k5 : w4.cell? ⟨g1, 5, none⟩ = some (.int .u8 r.n1) := Bk.cell b14.out rfl
      have k7 : w4.cell? ⟨g1, 7, none⟩ = some (.bool false) := Bk.cell b14.out (by rw [← hy.out]; rfl)
      have k8 : w4.cell? ⟨g1, 8, none⟩ = some (.slice A2 n2 c2) := Bk.cell b14.out rfl
      have p4 : w4.cell? ⟨g3, 4, none⟩ = some (.int .i64 0) := Bk.cell b34.out rfl
      have p5 : w4.cell? ⟨g3, 5, none⟩ = some (.int .u8 0) := Bk.cell b34.out rfl
      have p7 : w4.cell? ⟨g3, 7, none⟩ = some (.bool false) := Bk.cell b34.out rfl
      have p8 : w4.cell? ⟨g3, 8, none⟩ = some (.slice none 0 0) := Bk.cell b34.out rfl
      have z4 := Bk.free b34.out 4
      have z5 := Bk.free b34.out 5
      have z7 := Bk.free b34.out 7
      have z8 := Bk.free b34.out 8))
 go_region
 refine onW (S := fun W' => Aa (∃ D, Bk W' g3 D 36 ∧ D = #[.int .i64 4, .int .i64 r.id, .int .i64 0, .int .u8 0, .int .i64 0, .int .u8 0, .slice none 0 0, .bool false, .slice A2 n2 c2]) ∧ Aa (Fr (fun k => k = g3) w4 W')) ⟨⟨_, Ob.drew (Bk.set (Bk.set b34.out 7 _) 8 _), by simp⟩, ⟨by repeat (first | exact Fr.refl _ _ | refine Fr.drew ?_ | refine Fr.set ?_ _ _ _ (.inl rfl))⟩⟩ ?_
 rintro w5 ⟨e5, f5⟩
 clear k0 k4 k5 k7 k8 p4 p5 p7 p8 z4 z5 z7 z8
 obtain ⟨D1, b5, rfl⟩ := e5.out
 clear e5
 replace b5 := Aa.mk b5
 have b15 := Aa.mk (b14.out.fr f5.out (by have := b12.out.lt; have := h3.out; omega))
 have k4 : w5.cell? ⟨g1, 4, none⟩ = some (.int .i64 r.t1) := Bk.cell b15.out rfl
 have k5 : w5.cell? ⟨g1, 5, none⟩ = some (.int .u8 r.n1) := Bk.cell b15.out rfl
 have k7 : w5.cell? ⟨g1, 7, none⟩ = some (.bool false) := (Bk.cell b15.out (v := .bool r.yes) rfl).trans (by rw [hy.out])
 have p4 : w5.cell? ⟨g3, 4, none⟩ = some (.int .i64 0) := Bk.cell b5.out rfl
 have p5 : w5.cell? ⟨g3, 5, none⟩ = some (.int .u8 0) := Bk.cell b5.out rfl
 have z4 := Bk.free b5.out 4
 have z5 := Bk.free b5.out 5
 go_wp2_with (first
   | ((with_reducible refine Ac (N := 41) rfl ?_)
      go_must (refine onW (S := fun W' => Aa (∃ D, Bk W' g3 D 36 ∧ D = O) ∧ Aa (Fr (fun k => k = g3) w5 W')) ⟨⟨⟨_, b5.out, by rw [hR.out]⟩⟩, ⟨by repeat (first | exact Fr.refl _ _ | refine Fr.drew ?_ | refine Fr.set ?_ _ _ _ (.inl rfl))⟩⟩ ?_)
      rintro w6 ⟨e6, f6⟩
      clear k4 k5 k7 p4 p5 z4 z5
      obtain ⟨D, b6, hD⟩ := e6.out
      clear e6
      subst hD
      replace b6 := Aa.mk b6
      have b26 := Aa.mk (((((b2.out.Ad f3.out).fr f4.out (by have := b2.out.lt; have := h3.out; omega)).fr f5.out (by have := b2.out.lt; have := h3.out; omega)).fr f6.out (by have := b2.out.lt; have := h3.out; omega)))
      go_must (refine Au (N := 41) rfl rfl rfl rfl b6.out Tryz.underlying36 rfl Bh D.toList (AU (by rw [hR.out]; rfl)) (by rw [hR.out]; rfl) ?_))
   | ((with_reducible refine Af (t := 36) (p := 2) (v := .tmp 41) rfl ?_); go_must (refine Ak rfl (ty := 36) (x := .tmp 2) (y := .tmp 41) (cells := D) rfl rfl rfl b26.out (by rw [hR.out]; exact Bh) (by rw [hR.out]; kernel_rfl) (by rw [hR.out]; exact Nat.le_refl 9) D (Aq (by rw [hR.out]; rfl)) ?_); intro w7 b7 f7))
 refine DY Tryz.results27 rfl b7.out Tryz.underlying36 rfl Bh (by rw [hR.out]; rfl) rfl ⟨rfl, ?_⟩
 have q1 := h1.out
 have q2 := h2.out
 have q3 := h3.out
 have q4 := f1.out.size
 have q5 := f2.out.size
 exact (Fr.trans (T := fun k => k = g2 ∨ k = g3) (Fr.of_below f1.out) ((Fr.of_below f2.out).trans ((Fr.of_below f3.out).trans ((f4.out.weaken (fun _ _ h => .inr h)).trans ((f5.out.weaken (fun _ _ h => .inr h)).trans ((f6.out.weaken (fun _ _ h => .inr h)).trans (f7.out.weaken (fun _ _ h => .inl h)))))))).below (by omega) (Nat.le_refl _)
theorem VN (w : World) (r : Rc) (A1 A2 : Option Addr) (n1 c1 n2 c2 : Nat) :
   Calls Tryz.prog 27 #[.agg (Df r (.slice A1 n1 c1) (.slice A2 n2 c2))] w fun e w' => e = .returned (.agg (Df (Plain.CJ r) (if r.kind = 1 then .slice A1 n1 c1 else .slice none 0 0) (if r.kind = 4 then .slice A2 n2 c2 else .slice none 0 0))) ∧ Below w.heap.size w w' := by
 by_cases h1 : r.kind = 1
 · rw [if_pos h1, if_neg (by omega)]; exact Zd w r A1 A2 n1 c1 n2 c2 h1
 rw [if_neg h1]
 by_cases h4 : r.kind = 4
 · rw [if_pos h4]
   cases hy : r.yes
   · exact XV w r A1 A2 n1 c1 n2 c2 h4 hy
   · exact XU w r A1 A2 n1 c1 n2 c2 h4 hy
 rw [if_neg h4]
 by_cases h2 : r.kind = 2
 · exact Zc w r A1 A2 n1 c1 n2 c2 h2
 by_cases h5 : r.kind = 5
 · exact Zb w r A1 A2 n1 c1 n2 c2 h5
 exact Ze w r A1 A2 n1 c1 n2 c2 h1 h2 h4 h5
structure KZ (w : World) (r : Rc) (wv pv : Value) : Prop where
 ws : Eo w wv r.ws
 ps : YF w pv r.parts
 lw : r.ws.length ≤ 1000000
 lp : r.parts.length ≤ 1000000
theorem KZ.below {w w' : World} {r : Rc} {wv pv : Value} (h : KZ w r wv pv) (f : Below w.heap.size w w') : KZ w' r wv pv := ⟨h.ws.below f, h.ps.below f, h.lw, h.lp⟩
theorem SA {a b : Rc} (h1 : a.kind = b.kind) (h2 : a.id = b.id) (h3 : a.t0 = b.t0 ∧ a.n0 = b.n0) (h4 : a.t1 = b.t1 ∧ a.n1 = b.n1) (h5 : a.yes = b.yes) (h6 : a.ws = b.ws) : decide (a.parts = b.parts) = decide (a = b) := by
 rw [Bool.eq_iff_iff, decide_eq_true_eq, decide_eq_true_eq]
 refine ⟨fun h => ?_, fun h => by rw [h]⟩
 obtain ⟨x1, x2, x3, x4, x5, x6, x7, x8, x9⟩ := a
 obtain ⟨y1, y2, y3, y4, y5, y6, y7, y8, y9⟩ := b
 obtain ⟨h3, h3'⟩ := h3
 obtain ⟨h4, h4'⟩ := h4
 simp only at h h1 h2 h3 h3' h4 h4' h5 h6
 subst h h1 h2 h3 h3' h4 h4' h5 h6
 rfl
theorem QZ (w : World) (a b : Rc) (A1 A2 A3 A4 : Option Addr) (n1 c1 n2 c2 n3 c3 n4 c4 : Nat) (ha : KZ w a (.slice A1 n1 c1) (.slice A2 n2 c2)) (hb : KZ w b (.slice A3 n3 c3) (.slice A4 n4 c4)) :
   Calls Tryz.prog 17 #[.agg (Df a (.slice A1 n1 c1) (.slice A2 n2 c2)), .agg (Df b (.slice A3 n3 c3) (.slice A4 n4 c4))] w fun e w' => e = .returned (.bool (decide (a = b))) ∧ Below w.heap.size w w' := by
 obtain ⟨C, hC⟩ : ∃ C, C = Df a (.slice A1 n1 c1) (.slice A2 n2 c2) := ⟨_, rfl⟩
 obtain ⟨D, hD⟩ : ∃ D, D = Df b (.slice A3 n3 c3) (.slice A4 n4 c4) := ⟨_, rfl⟩
 rw [← hC, ← hD]
 replace hC := Aa.mk hC
 replace hD := Aa.mk hD
 replace ha := Aa.mk ha
 replace hb := Aa.mk hb
 obtain ⟨X, hX⟩ : ∃ X, X = decide (a = b) := ⟨_, rfl⟩
 rw [← hX]
 replace hX := Aa.mk hX
 go_enter Tryz.func17, Tryz.ntmps17
 go_wp2_with (first
   | ((with_reducible refine Ac (N := 2) rfl ?_); refine Aj (N := 2) (C := C) rfl rfl (by first | (go_simp; done) | (go_simp; rfl)) ?_; intro g2 w1 h1 b1 f1; rw [hC.out] at b1)
   | ((with_reducible refine Ac (N := 3) rfl ?_); refine Aj (N := 3) (C := D) rfl rfl (by first | (go_simp; done) | (go_simp; rfl)) ?_; intro g3 w2 h2 b2 f2; rw [hD.out] at b2
      have b12 := Aa.mk (b1.out.Ad f2.out)
      have F2 : Aa (Below w.heap.size w w2) := ⟨f1.out.trans (f2.out.mono f1.out.size)⟩
      have a0 : w2.cell? ⟨g2, 0, none⟩ = some (.int .i64 a.kind) := Bk.cell b12.out rfl
      have a1 : w2.cell? ⟨g2, 1, none⟩ = some (.int .i64 a.id) := Bk.cell b12.out rfl
      have a2 : w2.cell? ⟨g2, 2, none⟩ = some (.int .i64 a.t0) := Bk.cell b12.out rfl
      have a3 : w2.cell? ⟨g2, 3, none⟩ = some (.int .u8 a.n0) := Bk.cell b12.out rfl
      have a4 : w2.cell? ⟨g2, 4, none⟩ = some (.int .i64 a.t1) := Bk.cell b12.out rfl
      have a5 : w2.cell? ⟨g2, 5, none⟩ = some (.int .u8 a.n1) := Bk.cell b12.out rfl
      have a6 : w2.cell? ⟨g2, 6, none⟩ = some (.slice A1 n1 c1) := Bk.cell b12.out rfl
      have a7 : w2.cell? ⟨g2, 7, none⟩ = some (.bool a.yes) := Bk.cell b12.out rfl
      have q0 : w2.cell? ⟨g3, 0, none⟩ = some (.int .i64 b.kind) := Bk.cell b2.out rfl
      have q1 : w2.cell? ⟨g3, 1, none⟩ = some (.int .i64 b.id) := Bk.cell b2.out rfl
      have q2 : w2.cell? ⟨g3, 2, none⟩ = some (.int .i64 b.t0) := Bk.cell b2.out rfl
      have q3 : w2.cell? ⟨g3, 3, none⟩ = some (.int .u8 b.n0) := Bk.cell b2.out rfl
      have q4 : w2.cell? ⟨g3, 4, none⟩ = some (.int .i64 b.t1) := Bk.cell b2.out rfl
      have q5 : w2.cell? ⟨g3, 5, none⟩ = some (.int .u8 b.n1) := Bk.cell b2.out rfl
      have q6 : w2.cell? ⟨g3, 6, none⟩ = some (.slice A3 n3 c3) := Bk.cell b2.out rfl
      have q7 : w2.cell? ⟨g3, 7, none⟩ = some (.bool b.yes) := Bk.cell b2.out rfl
      have s1 := fun W => Jp a.t0 a.n0 b.t0 b.n0 W
      have s2 := fun W => Jp a.t1 a.n1 b.t1 b.n1 W
      have hw2 := Xaa w2 _ _ _ _ (ha.out.ws.below F2.out) (hb.out.ws.below F2.out) (by have := ha.out.lw; omega) (by have := hb.out.lw; omega)
      replace hw2 := Aa.mk hw2)
   | (go_at_call 48; refine hw2.out.mono ?_; rintro e w3 ⟨rfl, q, rfl⟩
      have F3 : Aa (Below w.heap.size w (w2.drewN q)) := ⟨Ae F2.out q⟩
      have a8 : (w2.drewN q).cell? ⟨g2, 8, none⟩ = some (.slice A2 n2 c2) := Bk.cell (b12.out.drewN q) rfl
      have q8 : (w2.drewN q).cell? ⟨g3, 8, none⟩ = some (.slice A4 n4 c4) := Bk.cell (b2.out.drewN q) rfl
      have hp2 := Aa.mk (Yg (w2.drewN q) _ _ _ _ (ha.out.ps.below F3.out) (hb.out.ps.below F3.out) (by have := ha.out.lp; omega) (by have := hb.out.lp; omega)))
   | (go_at_call 49; refine hp2.out.mono ?_; rintro e w4 ⟨rfl, q', rfl⟩))
 all_goals go_returns
 all_goals first
   | (obtain rfl : X = decide (a.parts = b.parts) := by rw [hX.out, SA ‹_› ‹_› ‹_› ‹_› ‹_› ‹_›]
      exact ⟨rfl, Ae F2.out _⟩)
   | (rename_i h
      obtain rfl : X = false := by
        rw [hX.out]
        exact decide_eq_false (fun e => h (by first | exact ⟨by rw [e], by rw [e]⟩ | rw [e]))
      exact ⟨rfl, by first | exact F2.out | exact F3.out⟩)
end Go.Proofs.YtchfmgbjddopoaaGreatDoor.Hand
namespace Go.Proofs.YtchfmgbjddopoaaGreatDoor.PGoodParts
open Go.RowKit Go.Proofs.YtchfmgbjddopoaaGreatDoorW.PrintWords Go.Proofs.YtchfmgbjddopoaaGreatDoorW.PrintLast Go.Proofs.YtchfmgbjddopoaaGreatDoorW.PrintMore
attribute [local go_sem] max2_int min2_int max_two min_two max_three min_three max_four min_four
def errW : Option Int → Value
 | none => .nilIface
 | some c => .iface 0 (.int .i64 c)
theorem errW_none : errW none = .nilIface := rfl
theorem errW_some (c : Int) : errW (some c) = .iface 0 (.int .i64 c) := rfl
def Bd.l0 : Nat → List Int → List Int → Int → Int → Option (Bool)
 | 0, _, _, _, _ => none
 | k + 1, x0, x5, x6, x7 => if x7 < x6 then (if 0 ≤ x7 then (if x7 < (x5.length : Int) then (if (rd x5 x7) < 0 then (some false) else (if (rd x5 x7) ≥ 8 then (some false) else (if x7 > 0 then (if 0 ≤ (wrap64 (x7 - 1)) then (if (wrap64 (x7 - 1)) < (x0.length : Int) then (if (rd x5 x7) ≤ (rd x0 (wrap64 (x7 - 1))) then (some false) else (Bd.l0 k x0 x5 x6 (wrap64 (x7 + 1)))) else (none)) else (none)) else (Bd.l0 k x0 x5 x6 (wrap64 (x7 + 1)))))) else (none)) else (none)) else (some (decide ((x0.length : Int) ≥ 1)))
def Bd.f (k : Nat) (l0 : List Int) : Option (Bool) := Bd.l0 k l0 l0 (l0.length : Int) 0
theorem Bd.calls (k : Nat) (A0 : Option Addr) (c0 : Nat) (l0 : List Int) (r : Bool) (w : World) (hr0 : Kd.C (Kd.int .i64) w A0 l0.length l0) (hc0 : l0.length ≤ c0) (h : Bd.f k l0 = some r) :
   Calls Tryz.prog 30 #[.slice A0 l0.length c0] w fun e w' => e = .returned (.bool r) ∧ Az w w' := by
 have HR0 := Aa.mk hr0
 have HC0 := Aa.mk hc0
 clear hr0 hc0
 have H : (Bd.l0 k l0 l0 (l0.length : Int) 0) = some r := h
 clear h
 have H' := Aa.mk H
 clear H
 go_enter Tryz.func30, Tryz.ntmps30
 go_wp2
 go_loopg [7] k (fun kq v7 w' => ∃ (x7_1 : Int), v7 = .int .i64 x7_1 ∧ Aa (Bd.l0 kq l0 l0 (l0.length : Int) x7_1 = some r) ∧ Aa (kq ≤ k) ∧ Az w w')
 case atStart => exact ⟨(0), (by first | rfl | (simp; done) | (simp [*]; done)), H', ⟨Nat.le_refl _⟩, by repeat (first | exact Az.refl _ | apply Az.step)⟩
 case round =>
   clear H'
   obtain ⟨x7_1, rfl, HA, HK1, ⟨m1, rfl⟩⟩ := hrel
   cases gk with
   | zero => exact absurd HA.out (by simp [Bd.l0])
   | succ k1 =>
     have H := HA.out
     clear HA
     simp only [Bd.l0] at H
     by_cases c2 : x7_1 < (l0.length : Int)
     · rw [if_pos c2] at H
       have c2b0 : decide (x7_1 < (l0.length : Int)) = true := decide_eq_true c2
       clear c2
       by_cases c3 : 0 ≤ x7_1
       · rw [if_pos c3] at H
         have c3b0 : decide (0 ≤ x7_1) = true := decide_eq_true c3
         clear c3
         by_cases c4 : x7_1 < (l0.length : Int)
         · rw [if_pos c4] at H
           have c4b0 : decide (x7_1 < (l0.length : Int)) = true := decide_eq_true c4
           clear c4
           by_cases c5 : (rd l0 x7_1) < 0
           · rw [if_pos c5] at H
             have c5b0 : decide ((rd l0 x7_1) < 0) = true := decide_eq_true c5
             clear c5
             obtain rfl := Option.some.inj H
             have p101 : 0 ≤ (x7_1 : Int) := of_decide_eq_true (by first | (with_reducible assumption) | assumption)
             have q101 : x7_1 < (l0.length : Int) := of_decide_eq_true (by first | (with_reducible assumption) | assumption)
             obtain ⟨ad101, e101, hx101_0⟩ := Kd.Ep HR0.out x7_1 p101 q101
             cases e101
             replace p101 := eq_true p101
             replace q101 := eq_true q101
             go_wp2
             go_ret
             exact ⟨by first | rfl | (simp; done) | (simp [*]; done), by repeat (first | exact Az.refl _ | apply Az.step)⟩
           · rw [if_neg c5] at H
             have c5b0 : decide ((rd l0 x7_1) < 0) = false := decide_eq_false c5
             clear c5
             by_cases c6 : (rd l0 x7_1) ≥ 8
             · rw [if_pos c6] at H
               have c6b0 : decide (8 ≤ (rd l0 x7_1)) = true := decide_eq_true c6
               clear c6
               obtain rfl := Option.some.inj H
               have p101 : 0 ≤ (x7_1 : Int) := of_decide_eq_true (by first | (with_reducible assumption) | assumption)
               have q101 : x7_1 < (l0.length : Int) := of_decide_eq_true (by first | (with_reducible assumption) | assumption)
               obtain ⟨ad101, e101, hx101_0⟩ := Kd.Ep HR0.out x7_1 p101 q101
               cases e101
               replace p101 := eq_true p101
               replace q101 := eq_true q101
               go_wp2
               go_ret
               exact ⟨by first | rfl | (simp; done) | (simp [*]; done), by repeat (first | exact Az.refl _ | apply Az.step)⟩
             · rw [if_neg c6] at H
               have c6b0 : decide (8 ≤ (rd l0 x7_1)) = false := decide_eq_false c6
               clear c6
               by_cases c7 : x7_1 > 0
               · rw [if_pos c7] at H
                 have c7b0 : decide (0 < x7_1) = true := decide_eq_true c7
                 clear c7
                 obtain ⟨ji8, hji8⟩ : ∃ j_ : Int, (wrap64 (x7_1 - 1)) = j_ := ⟨_, rfl⟩
                 replace H : (if 0 ≤ (ji8) then (if (ji8) < (l0.length : Int) then (if (rd l0 x7_1) ≤ (rd l0 (ji8)) then (some false) else (Bd.l0 k1 l0 l0 (l0.length : Int) (wrap64 (x7_1 + 1)))) else (none)) else (none)) = some r := by first | (rw [hji8] at H; exact H) | (simp only [hji8] at H ⊢; exact H)
                 have hji8w : (IntKind.i64.wrap (x7_1 - 1)) = ji8 := (Ph _).trans hji8
                 by_cases c9 : 0 ≤ (ji8)
                 · rw [if_pos c9] at H
                   have c9b0 : decide (0 ≤ (ji8)) = true := decide_eq_true c9
                   clear c9
                   by_cases c10 : (ji8) < (l0.length : Int)
                   · rw [if_pos c10] at H
                     have c10b0 : decide ((ji8) < (l0.length : Int)) = true := decide_eq_true c10
                     clear c10
                     by_cases c11 : (rd l0 x7_1) ≤ (rd l0 (ji8))
                     · rw [if_pos c11] at H
                       have c11b0 : decide ((rd l0 x7_1) ≤ (rd l0 (ji8))) = true := decide_eq_true c11
                       clear c11
                       obtain rfl := Option.some.inj H
                       have p101 : 0 ≤ (x7_1 : Int) := of_decide_eq_true (by first | (with_reducible assumption) | assumption)
                       have q101 : x7_1 < (l0.length : Int) := of_decide_eq_true (by first | (with_reducible assumption) | assumption)
                       obtain ⟨ad101, e101, hx101_0⟩ := Kd.Ep HR0.out x7_1 p101 q101
                       cases e101
                       replace p101 := eq_true p101
                       replace q101 := eq_true q101
                       have p102 : 0 ≤ ((ji8) : Int) := of_decide_eq_true (by first | (with_reducible assumption) | assumption)
                       have q102 : (ji8) < (l0.length : Int) := of_decide_eq_true (by first | (with_reducible assumption) | assumption)
                       obtain ⟨ad102, e102, hx102_0⟩ := Kd.Ep HR0.out (ji8) p102 q102
                       obtain rfl : ad101 = ad102 := (by injection e102)
                       replace p102 := eq_true p102
                       replace q102 := eq_true q102
                       go_wp2
                       go_ret
                       exact ⟨by first | rfl | (simp; done) | (simp only [← hji8] <;> (first | rfl | simp)) | (simp [*]; done), by repeat (first | exact Az.refl _ | apply Az.step)⟩
                     · rw [if_neg c11] at H
                       have c11b0 : decide ((rd l0 x7_1) ≤ (rd l0 (ji8))) = false := decide_eq_false c11
                       clear c11
                       have H' := Aa.mk H
                       clear H
                       have p101 : 0 ≤ (x7_1 : Int) := of_decide_eq_true (by first | (with_reducible assumption) | assumption)
                       have q101 : x7_1 < (l0.length : Int) := of_decide_eq_true (by first | (with_reducible assumption) | assumption)
                       obtain ⟨ad101, e101, hx101_0⟩ := Kd.Ep HR0.out x7_1 p101 q101
                       cases e101
                       replace p101 := eq_true p101
                       replace q101 := eq_true q101
                       have p102 : 0 ≤ ((ji8) : Int) := of_decide_eq_true (by first | (with_reducible assumption) | assumption)
                       have q102 : (ji8) < (l0.length : Int) := of_decide_eq_true (by first | (with_reducible assumption) | assumption)
                       obtain ⟨ad102, e102, hx102_0⟩ := Kd.Ep HR0.out (ji8) p102 q102
                       obtain rfl : ad101 = ad102 := (by injection e102)
                       replace p102 := eq_true p102
                       replace q102 := eq_true q102
                       go_wp2
                       go_roundg k1
                       case measure => have := HK1.out; omega
                       case rel => exact ⟨(wrap64 (x7_1 + 1)), (by first | rfl | (simp; done) | (simp [*]; done)), H', ⟨by have := HK1.out; omega⟩, by repeat (first | exact Az.refl _ | apply Az.step)⟩
                   · rw [if_neg c10] at H
                     exact absurd H (by simp)
                 · rw [if_neg c9] at H
                   exact absurd H (by simp)
               · rw [if_neg c7] at H
                 have c7b0 : decide (0 < x7_1) = false := decide_eq_false c7
                 clear c7
                 have H' := Aa.mk H
                 clear H
                 have p101 : 0 ≤ (x7_1 : Int) := of_decide_eq_true (by first | (with_reducible assumption) | assumption)
                 have q101 : x7_1 < (l0.length : Int) := of_decide_eq_true (by first | (with_reducible assumption) | assumption)
                 obtain ⟨ad101, e101, hx101_0⟩ := Kd.Ep HR0.out x7_1 p101 q101
                 cases e101
                 replace p101 := eq_true p101
                 replace q101 := eq_true q101
                 go_wp2
                 go_roundg k1
                 case measure => have := HK1.out; omega
                 case rel => exact ⟨(wrap64 (x7_1 + 1)), (by first | rfl | (simp; done) | (simp [*]; done)), H', ⟨by have := HK1.out; omega⟩, by repeat (first | exact Az.refl _ | apply Az.step)⟩
         · rw [if_neg c4] at H
           exact absurd H (by simp)
       · rw [if_neg c3] at H
         exact absurd H (by simp)
     · rw [if_neg c2] at H
       have c2b0 : decide (x7_1 < (l0.length : Int)) = false := decide_eq_false c2
       clear c2
       obtain rfl := Option.some.inj H
       go_wp2
       go_ret
       exact ⟨by first | rfl | (simp; done) | (simp [*]; done), by repeat (first | exact Az.refl _ | apply Az.step)⟩
end Go.Proofs.YtchfmgbjddopoaaGreatDoor.PGoodParts
