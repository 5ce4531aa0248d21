import Derived.Test.YtchfmgbjddopoaaGreatDoorProg
import Derived.Below
import Derived.Deep.Draws
import Derived.Deep.AppendLies
import Derived.Maps.AppendAt
import Derived.OwnWalk
import Derived.Laws.BytesArg
import Derived.Laws.MakeOwn
import Derived.Laws.OwnMore
import Derived.Deep.OwnRows
import Derived.Tactics
import Derived.Lib.ConvBytes
import Derived.Laws.Slices
import Derived.WalkKit
import Derived.KernelRfl
import Derived.RowKit3
import Derived.Deep.LoopGhost
import Derived.Deep.QuietTactic
import Derived.BigQuiet
import Derived.WideLaws
import Derived.Deep.DeepCutAuto
import Derived.Deep.CutBlock
import Derived.Deep.RegionHeld3
import Derived.Laws.Rows
import Derived.Lib.AppendStr
import Derived.ArgAppend
import Derived.Laws.IdiomCopy
import Derived.OrdersHeld
import Derived.Laws.BitsLemmas
import Derived.RowKit
import Derived.Laws.StructEq
import Derived.Test.YtchfmgbjddopoaaGreatDoorM01
import Derived.Test.YtchfmgbjddopoaaGreatDoorM02
import Derived.Test.YtchfmgbjddopoaaGreatDoorM03
set_option linter.unusedVariables false
set_option linter.unusedSimpArgs false
set_option maxHeartbeats 6400000
set_option maxRecDepth 100000
namespace Go.Proofs.YtchfmgbjddopoaaGreatDoor.Hand
open Go.RowKit Go.Proofs.YtchfmgbjddopoaaGreatDoorW.PrintWords Go.Proofs.YtchfmgbjddopoaaGreatDoorW.PrintLast Go.Proofs.YtchfmgbjddopoaaGreatDoorW.PrintMore
theorem Bf : (Tryz.prog.info? 247).map (·.size) = some 3 := by kernel_rfl
theorem Ve (w : World) : Calls Tryz.prog 267 #[.int .i64 1972] w fun e w' => e = .returned (.bool true) ∧ w' = w := by
 go_enter Tryz.func267, Tryz.ntmps267
 go_wp2_with fail
 go_returns
 exact ⟨by kernel_rfl, rfl⟩
theorem KI (w : World) : Calls Tryz.prog 215 #[.int .i64 1972, .int .i64 1] w fun e w' => e = .returned (.int .i64 31) ∧ w' = w := by
 go_enter Tryz.func215, Tryz.ntmps215
 go_wp2_with fail
 go_returns
 exact ⟨by kernel_rfl, rfl⟩
theorem Tj (w : World) : Calls Tryz.prog 215 #[.int .i64 1972, .int .i64 2] w fun e w' => e = .returned (.int .i64 29) ∧ w' = w := by
 go_enter Tryz.func215, Tryz.ntmps215
 go_wp2_with (go_at_call 267; refine (Ve _).mono ?_; rintro e w1 ⟨rfl, h⟩; replace h := h.symm; subst h)
 go_returns
 exact ⟨by kernel_rfl, rfl⟩
theorem Ti (w : World) : Calls Tryz.prog 215 #[.int .i64 1972, .int .i64 3] w fun e w' => e = .returned (.int .i64 31) ∧ w' = w := by
 go_enter Tryz.func215, Tryz.ntmps215
 go_wp2_with fail
 go_returns
 exact ⟨by kernel_rfl, rfl⟩
theorem Tf (w : World) : Calls Tryz.prog 215 #[.int .i64 1972, .int .i64 4] w fun e w' => e = .returned (.int .i64 30) ∧ w' = w := by
 go_enter Tryz.func215, Tryz.ntmps215
 go_wp2_with fail
 go_returns
 exact ⟨by kernel_rfl, rfl⟩
theorem Td (w : World) : Calls Tryz.prog 215 #[.int .i64 1972, .int .i64 5] w fun e w' => e = .returned (.int .i64 31) ∧ w' = w := by
 go_enter Tryz.func215, Tryz.ntmps215
 go_wp2_with fail
 go_returns
 exact ⟨by kernel_rfl, rfl⟩
theorem Tc (w : World) : Calls Tryz.prog 215 #[.int .i64 1972, .int .i64 6] w fun e w' => e = .returned (.int .i64 30) ∧ w' = w := by
 go_enter Tryz.func215, Tryz.ntmps215
 go_wp2_with fail
 go_returns
 exact ⟨by kernel_rfl, rfl⟩
theorem SY (w : World) : Calls Tryz.prog 215 #[.int .i64 1972, .int .i64 7] w fun e w' => e = .returned (.int .i64 31) ∧ w' = w := by
 go_enter Tryz.func215, Tryz.ntmps215
 go_wp2_with fail
 go_returns
 exact ⟨by kernel_rfl, rfl⟩
theorem SX (w : World) : Calls Tryz.prog 215 #[.int .i64 1973, .int .i64 1] w fun e w' => e = .returned (.int .i64 31) ∧ w' = w := by
 go_enter Tryz.func215, Tryz.ntmps215
 go_wp2_with fail
 go_returns
 exact ⟨by kernel_rfl, rfl⟩
theorem SV (w : World) : Calls Tryz.prog 215 #[.int .i64 1974, .int .i64 1] w fun e w' => e = .returned (.int .i64 31) ∧ w' = w := by
 go_enter Tryz.func215, Tryz.ntmps215
 go_wp2_with fail
 go_returns
 exact ⟨by kernel_rfl, rfl⟩
theorem SS (w : World) : Calls Tryz.prog 215 #[.int .i64 1975, .int .i64 1] w fun e w' => e = .returned (.int .i64 31) ∧ w' = w := by
 go_enter Tryz.func215, Tryz.ntmps215
 go_wp2_with fail
 go_returns
 exact ⟨by kernel_rfl, rfl⟩
theorem Qy (w : World) : Calls Tryz.prog 266 #[.int .i64 1971, .int .i64 4] w fun e w' => e = .returned (.int .i64 492) ∧ w' = w := by
 go_enter Tryz.func266, Tryz.ntmps266
 go_wp2_with fail
 go_returns
 exact ⟨by kernel_rfl, rfl⟩
theorem MX (w : World) : Calls Tryz.prog 266 #[.int .i64 1971, .int .i64 100] w fun e w' => e = .returned (.int .i64 19) ∧ w' = w := by
 go_enter Tryz.func266, Tryz.ntmps266
 go_wp2_with fail
 go_returns
 exact ⟨by kernel_rfl, rfl⟩
theorem MW (w : World) : Calls Tryz.prog 266 #[.int .i64 1971, .int .i64 400] w fun e w' => e = .returned (.int .i64 4) ∧ w' = w := by
 go_enter Tryz.func266, Tryz.ntmps266
 go_wp2_with fail
 go_returns
 exact ⟨by kernel_rfl, rfl⟩
theorem J8 (w : World) : Calls Tryz.prog 214 #[.int .i64 1972] w fun e w' => e = .returned (.int .i64 720258) ∧ w' = w := by
 go_enter Tryz.func214, Tryz.ntmps214
 go_wp2_with (go_at_call 266; first
   | (with_reducible refine (Qy _).mono ?_; rintro e w1 ⟨rfl, h⟩; replace h := h.symm; subst h)
   | (with_reducible refine (MX _).mono ?_; rintro e w1 ⟨rfl, h⟩; replace h := h.symm; subst h)
   | (with_reducible refine (MW _).mono ?_; rintro e w1 ⟨rfl, h⟩; replace h := h.symm; subst h))
 go_returns
 exact ⟨by kernel_rfl, rfl⟩
theorem Qx (w : World) : Calls Tryz.prog 266 #[.int .i64 1972, .int .i64 4] w fun e w' => e = .returned (.int .i64 493) ∧ w' = w := by
 go_enter Tryz.func266, Tryz.ntmps266
 go_wp2_with fail
 go_returns
 exact ⟨by kernel_rfl, rfl⟩
theorem MV (w : World) : Calls Tryz.prog 266 #[.int .i64 1972, .int .i64 100] w fun e w' => e = .returned (.int .i64 19) ∧ w' = w := by
 go_enter Tryz.func266, Tryz.ntmps266
 go_wp2_with fail
 go_returns
 exact ⟨by kernel_rfl, rfl⟩
theorem MS (w : World) : Calls Tryz.prog 266 #[.int .i64 1972, .int .i64 400] w fun e w' => e = .returned (.int .i64 4) ∧ w' = w := by
 go_enter Tryz.func266, Tryz.ntmps266
 go_wp2_with fail
 go_returns
 exact ⟨by kernel_rfl, rfl⟩
theorem Sr (w : World) : Calls Tryz.prog 214 #[.int .i64 1973] w fun e w' => e = .returned (.int .i64 720624) ∧ w' = w := by
 go_enter Tryz.func214, Tryz.ntmps214
 go_wp2_with (go_at_call 266; first
   | (with_reducible refine (Qx _).mono ?_; rintro e w1 ⟨rfl, h⟩; replace h := h.symm; subst h)
   | (with_reducible refine (MV _).mono ?_; rintro e w1 ⟨rfl, h⟩; replace h := h.symm; subst h)
   | (with_reducible refine (MS _).mono ?_; rintro e w1 ⟨rfl, h⟩; replace h := h.symm; subst h))
 go_returns
 exact ⟨by kernel_rfl, rfl⟩
theorem Qw (w : World) : Calls Tryz.prog 266 #[.int .i64 1973, .int .i64 4] w fun e w' => e = .returned (.int .i64 493) ∧ w' = w := by
 go_enter Tryz.func266, Tryz.ntmps266
 go_wp2_with fail
 go_returns
 exact ⟨by kernel_rfl, rfl⟩
theorem MR (w : World) : Calls Tryz.prog 266 #[.int .i64 1973, .int .i64 100] w fun e w' => e = .returned (.int .i64 19) ∧ w' = w := by
 go_enter Tryz.func266, Tryz.ntmps266
 go_wp2_with fail
 go_returns
 exact ⟨by kernel_rfl, rfl⟩
theorem MQ (w : World) : Calls Tryz.prog 266 #[.int .i64 1973, .int .i64 400] w fun e w' => e = .returned (.int .i64 4) ∧ w' = w := by
 go_enter Tryz.func266, Tryz.ntmps266
 go_wp2_with fail
 go_returns
 exact ⟨by kernel_rfl, rfl⟩
theorem Sm (w : World) : Calls Tryz.prog 214 #[.int .i64 1974] w fun e w' => e = .returned (.int .i64 720989) ∧ w' = w := by
 go_enter Tryz.func214, Tryz.ntmps214
 go_wp2_with (go_at_call 266; first
   | (with_reducible refine (Qw _).mono ?_; rintro e w1 ⟨rfl, h⟩; replace h := h.symm; subst h)
   | (with_reducible refine (MR _).mono ?_; rintro e w1 ⟨rfl, h⟩; replace h := h.symm; subst h)
   | (with_reducible refine (MQ _).mono ?_; rintro e w1 ⟨rfl, h⟩; replace h := h.symm; subst h))
 go_returns
 exact ⟨by kernel_rfl, rfl⟩
theorem Qv (w : World) : Calls Tryz.prog 266 #[.int .i64 1974, .int .i64 4] w fun e w' => e = .returned (.int .i64 493) ∧ w' = w := by
 go_enter Tryz.func266, Tryz.ntmps266
 go_wp2_with fail
 go_returns
 exact ⟨by kernel_rfl, rfl⟩
theorem MP (w : World) : Calls Tryz.prog 266 #[.int .i64 1974, .int .i64 100] w fun e w' => e = .returned (.int .i64 19) ∧ w' = w := by
 go_enter Tryz.func266, Tryz.ntmps266
 go_wp2_with fail
 go_returns
 exact ⟨by kernel_rfl, rfl⟩
theorem MO (w : World) : Calls Tryz.prog 266 #[.int .i64 1974, .int .i64 400] w fun e w' => e = .returned (.int .i64 4) ∧ w' = w := by
 go_enter Tryz.func266, Tryz.ntmps266
 go_wp2_with fail
 go_returns
 exact ⟨by kernel_rfl, rfl⟩
theorem Sj (w : World) : Calls Tryz.prog 214 #[.int .i64 1975] w fun e w' => e = .returned (.int .i64 721354) ∧ w' = w := by
 go_enter Tryz.func214, Tryz.ntmps214
 go_wp2_with (go_at_call 266; first
   | (with_reducible refine (Qv _).mono ?_; rintro e w1 ⟨rfl, h⟩; replace h := h.symm; subst h)
   | (with_reducible refine (MP _).mono ?_; rintro e w1 ⟨rfl, h⟩; replace h := h.symm; subst h)
   | (with_reducible refine (MO _).mono ?_; rintro e w1 ⟨rfl, h⟩; replace h := h.symm; subst h))
 go_returns
 exact ⟨by kernel_rfl, rfl⟩
theorem GL (w : World) : Calls Tryz.prog 213 #[.agg #[.int .i64 1972, .int .i64 1, .int .i64 1]] w fun e w' => e = .returned (.bool true) ∧ Below w.heap.size w w' := by
 go_enter Tryz.func213, Tryz.ntmps213
 go_upto_region 1 with ((with_reducible refine Ac (N := 1) rfl ?_); refine Aj (N := 1) (C := #[.int .i64 1972, .int .i64 1, .int .i64 1]) rfl rfl (by first | (go_simp; done) | (go_simp; rfl)) ?_; intro g1 w1 h1 b1 f1)
 have c0 : w1.cell? ⟨g1, 0, none⟩ = some (.int .i64 1972) := Bk.cell b1.out rfl
 have c1 : w1.cell? ⟨g1, 1, none⟩ = some (.int .i64 1) := Bk.cell b1.out rfl
 have c2 : w1.cell? ⟨g1, 2, none⟩ = some (.int .i64 1) := Bk.cell b1.out rfl
 go_quiet ((go_at_call 215; with_reducible exact Calls.quiet_of_same (KI _)))
 go_wp2_with fail
 go_returns
 exact ⟨rfl, ((Fr.of_below (T := fun _ => False) f1.out).drewN _).Ad⟩
theorem Nh (w : World) : Calls Tryz.prog 162 #[.agg #[.int .i64 1972, .int .i64 1, .int .i64 1]] w fun e w' => e = .returned (.tuple #[.int .i64 730, .int .i64 0]) ∧ Below w.heap.size w w' := by
 go_enter Tryz.func162, Tryz.ntmps162
 go_upto_region 3 with (first
   | ((with_reducible refine Ac (N := 1) rfl ?_); refine Aj (N := 1) (C := #[.int .i64 1972, .int .i64 1, .int .i64 1]) rfl rfl (by first | (go_simp; done) | (go_simp; rfl)) ?_; intro g1 w1 h1 b1 f1)
   | ((with_reducible refine Ac (N := 6) rfl ?_); refine Au (N := 6) rfl rfl rfl rfl b1.out Tryz.underlying247 rfl Bf [.int .i64 1972, .int .i64 1, .int .i64 1] rfl rfl ?_)
   | (go_at_call 213; refine (GL _).mono ?_; rintro e w2 ⟨rfl, f2⟩; have b2 := Aa.mk (b1.out.Ad f2); replace f2 := Aa.mk f2))
 have c0 : w2.cell? ⟨g1, 0, none⟩ = some (.int .i64 1972) := Bk.cell b2.out rfl
 have c1 : w2.cell? ⟨g1, 1, none⟩ = some (.int .i64 1) := Bk.cell b2.out rfl
 have c2 : w2.cell? ⟨g1, 2, none⟩ = some (.int .i64 1) := Bk.cell b2.out rfl
 go_quiet ((go_at_call 214; with_reducible exact Calls.quiet_of_same (J8 _)))
 generalize hw3 : World.drewN _ _ = w3
 have f3 : Aa (Below w2.heap.size w2 w3) := ⟨hw3 ▸ Ae (Below.refl _ _) _⟩
 have b3 := Aa.mk (b2.out.Ad f3.out)
 clear hw3 c0 c1 c2
 have c0 : w3.cell? ⟨g1, 0, none⟩ = some (.int .i64 1972) := Bk.cell b3.out rfl
 have c1 : w3.cell? ⟨g1, 1, none⟩ = some (.int .i64 1) := Bk.cell b3.out rfl
 go_wp2_with fail
 go_loopw [4, 5] (fun d i wq => wq = w3 ∧ (d = .int .i64 720258 ∧ i = .int .i64 1)) (fun _ i _ => 1 - (intOf i).toNat)
 case atStart => exact ⟨rfl, ⟨rfl, rfl⟩⟩
 case round =>
   obtain ⟨hw, hj⟩ := hrel
   replace hw := hw.symm
   subst hw
   obtain ⟨rfl, rfl⟩ := hj
   go_wp2_with fail
   go_returns
   exact ⟨rfl, f1.out.trans ((f2.out.trans (f3.out.mono f2.out.size)).mono f1.out.size)⟩
theorem GK (w : World) : Calls Tryz.prog 213 #[.agg #[.int .i64 1972, .int .i64 7, .int .i64 1]] w fun e w' => e = .returned (.bool true) ∧ Below w.heap.size w w' := by
 go_enter Tryz.func213, Tryz.ntmps213
 go_upto_region 1 with ((with_reducible refine Ac (N := 1) rfl ?_); refine Aj (N := 1) (C := #[.int .i64 1972, .int .i64 7, .int .i64 1]) rfl rfl (by first | (go_simp; done) | (go_simp; rfl)) ?_; intro g1 w1 h1 b1 f1)
 have c0 : w1.cell? ⟨g1, 0, none⟩ = some (.int .i64 1972) := Bk.cell b1.out rfl
 have c1 : w1.cell? ⟨g1, 1, none⟩ = some (.int .i64 7) := Bk.cell b1.out rfl
 have c2 : w1.cell? ⟨g1, 2, none⟩ = some (.int .i64 1) := Bk.cell b1.out rfl
 go_quiet ((go_at_call 215; with_reducible exact Calls.quiet_of_same (SY _)))
 go_wp2_with fail
 go_returns
 exact ⟨rfl, ((Fr.of_below (T := fun _ => False) f1.out).drewN _).Ad⟩
theorem Nc (w : World) : Calls Tryz.prog 162 #[.agg #[.int .i64 1972, .int .i64 7, .int .i64 1]] w fun e w' => e = .returned (.tuple #[.int .i64 912, .int .i64 0]) ∧ Below w.heap.size w w' := by
 go_enter Tryz.func162, Tryz.ntmps162
 go_upto_region 3 with (first
   | ((with_reducible refine Ac (N := 1) rfl ?_); refine Aj (N := 1) (C := #[.int .i64 1972, .int .i64 7, .int .i64 1]) rfl rfl (by first | (go_simp; done) | (go_simp; rfl)) ?_; intro g1 w1 h1 b1 f1)
   | ((with_reducible refine Ac (N := 6) rfl ?_); refine Au (N := 6) rfl rfl rfl rfl b1.out Tryz.underlying247 rfl Bf [.int .i64 1972, .int .i64 7, .int .i64 1] rfl rfl ?_)
   | (go_at_call 213; refine (GK _).mono ?_; rintro e w2 ⟨rfl, f2⟩; have b2 := Aa.mk (b1.out.Ad f2); replace f2 := Aa.mk f2))
 have c0 : w2.cell? ⟨g1, 0, none⟩ = some (.int .i64 1972) := Bk.cell b2.out rfl
 have c1 : w2.cell? ⟨g1, 1, none⟩ = some (.int .i64 7) := Bk.cell b2.out rfl
 have c2 : w2.cell? ⟨g1, 2, none⟩ = some (.int .i64 1) := Bk.cell b2.out rfl
 go_quiet ((go_at_call 214; with_reducible exact Calls.quiet_of_same (J8 _)))
 generalize hw3 : World.drewN _ _ = w3
 have f3 : Aa (Below w2.heap.size w2 w3) := ⟨hw3 ▸ Ae (Below.refl _ _) _⟩
 have b3 := Aa.mk (b2.out.Ad f3.out)
 clear hw3 c0 c1 c2
 have c0 : w3.cell? ⟨g1, 0, none⟩ = some (.int .i64 1972) := Bk.cell b3.out rfl
 have c1 : w3.cell? ⟨g1, 1, none⟩ = some (.int .i64 7) := Bk.cell b3.out rfl
 go_wp2_with fail
 go_loopw [4, 5] (fun d i wq => wq = w3 ∧ (d = .int .i64 720258 ∧ i = .int .i64 1 ∨ d = .int .i64 720289 ∧ i = .int .i64 2 ∨ d = .int .i64 720318 ∧ i = .int .i64 3 ∨ d = .int .i64 720349 ∧ i = .int .i64 4 ∨ d = .int .i64 720379 ∧ i = .int .i64 5 ∨ d = .int .i64 720410 ∧ i = .int .i64 6 ∨ d = .int .i64 720440 ∧ i = .int .i64 7)) (fun _ i _ => 7 - (intOf i).toNat)
 case atStart => exact ⟨rfl, .inl ⟨rfl, rfl⟩⟩
 case round =>
   obtain ⟨hw, hj⟩ := hrel
   replace hw := hw.symm
   subst hw
   rcases hj with ⟨rfl, rfl⟩ | ⟨rfl, rfl⟩ | ⟨rfl, rfl⟩ | ⟨rfl, rfl⟩ | ⟨rfl, rfl⟩ | ⟨rfl, rfl⟩ | ⟨rfl, rfl⟩
   · go_wp2_with (go_at_call 215; refine (KI _).mono ?_; rintro e w4 ⟨rfl, h⟩; replace h := h.symm; subst h)
     go_roundw
     case rel => simp
     case measure => simp [intOf]
   · go_wp2_with (go_at_call 215; refine (Tj _).mono ?_; rintro e w4 ⟨rfl, h⟩; replace h := h.symm; subst h)
     go_roundw
     case rel => simp
     case measure => simp [intOf]
   · go_wp2_with (go_at_call 215; refine (Ti _).mono ?_; rintro e w4 ⟨rfl, h⟩; replace h := h.symm; subst h)
     go_roundw
     case rel => simp
     case measure => simp [intOf]
   · go_wp2_with (go_at_call 215; refine (Tf _).mono ?_; rintro e w4 ⟨rfl, h⟩; replace h := h.symm; subst h)
     go_roundw
     case rel => simp
     case measure => simp [intOf]
   · go_wp2_with (go_at_call 215; refine (Td _).mono ?_; rintro e w4 ⟨rfl, h⟩; replace h := h.symm; subst h)
     go_roundw
     case rel => simp
     case measure => simp [intOf]
   · go_wp2_with (go_at_call 215; refine (Tc _).mono ?_; rintro e w4 ⟨rfl, h⟩; replace h := h.symm; subst h)
     go_roundw
     case rel => simp
     case measure => simp [intOf]
   · go_wp2_with fail
     go_returns
     exact ⟨rfl, f1.out.trans ((f2.out.trans (f3.out.mono f2.out.size)).mono f1.out.size)⟩
theorem GI (w : World) : Calls Tryz.prog 213 #[.agg #[.int .i64 1973, .int .i64 1, .int .i64 1]] w fun e w' => e = .returned (.bool true) ∧ Below w.heap.size w w' := by
 go_enter Tryz.func213, Tryz.ntmps213
 go_upto_region 1 with ((with_reducible refine Ac (N := 1) rfl ?_); refine Aj (N := 1) (C := #[.int .i64 1973, .int .i64 1, .int .i64 1]) rfl rfl (by first | (go_simp; done) | (go_simp; rfl)) ?_; intro g1 w1 h1 b1 f1)
 have c0 : w1.cell? ⟨g1, 0, none⟩ = some (.int .i64 1973) := Bk.cell b1.out rfl
 have c1 : w1.cell? ⟨g1, 1, none⟩ = some (.int .i64 1) := Bk.cell b1.out rfl
 have c2 : w1.cell? ⟨g1, 2, none⟩ = some (.int .i64 1) := Bk.cell b1.out rfl
 go_quiet ((go_at_call 215; with_reducible exact Calls.quiet_of_same (SX _)))
 go_wp2_with fail
 go_returns
 exact ⟨rfl, ((Fr.of_below (T := fun _ => False) f1.out).drewN _).Ad⟩
theorem Nb (w : World) : Calls Tryz.prog 162 #[.agg #[.int .i64 1973, .int .i64 1, .int .i64 1]] w fun e w' => e = .returned (.tuple #[.int .i64 1096, .int .i64 0]) ∧ Below w.heap.size w w' := by
 go_enter Tryz.func162, Tryz.ntmps162
 go_upto_region 3 with (first
   | ((with_reducible refine Ac (N := 1) rfl ?_); refine Aj (N := 1) (C := #[.int .i64 1973, .int .i64 1, .int .i64 1]) rfl rfl (by first | (go_simp; done) | (go_simp; rfl)) ?_; intro g1 w1 h1 b1 f1)
   | ((with_reducible refine Ac (N := 6) rfl ?_); refine Au (N := 6) rfl rfl rfl rfl b1.out Tryz.underlying247 rfl Bf [.int .i64 1973, .int .i64 1, .int .i64 1] rfl rfl ?_)
   | (go_at_call 213; refine (GI _).mono ?_; rintro e w2 ⟨rfl, f2⟩; have b2 := Aa.mk (b1.out.Ad f2); replace f2 := Aa.mk f2))
 have c0 : w2.cell? ⟨g1, 0, none⟩ = some (.int .i64 1973) := Bk.cell b2.out rfl
 have c1 : w2.cell? ⟨g1, 1, none⟩ = some (.int .i64 1) := Bk.cell b2.out rfl
 have c2 : w2.cell? ⟨g1, 2, none⟩ = some (.int .i64 1) := Bk.cell b2.out rfl
 go_quiet ((go_at_call 214; with_reducible exact Calls.quiet_of_same (Sr _)))
 generalize hw3 : World.drewN _ _ = w3
 have f3 : Aa (Below w2.heap.size w2 w3) := ⟨hw3 ▸ Ae (Below.refl _ _) _⟩
 have b3 := Aa.mk (b2.out.Ad f3.out)
 clear hw3 c0 c1 c2
 have c0 : w3.cell? ⟨g1, 0, none⟩ = some (.int .i64 1973) := Bk.cell b3.out rfl
 have c1 : w3.cell? ⟨g1, 1, none⟩ = some (.int .i64 1) := Bk.cell b3.out rfl
 go_wp2_with fail
 go_loopw [4, 5] (fun d i wq => wq = w3 ∧ (d = .int .i64 720624 ∧ i = .int .i64 1)) (fun _ i _ => 1 - (intOf i).toNat)
 case atStart => exact ⟨rfl, ⟨rfl, rfl⟩⟩
 case round =>
   obtain ⟨hw, hj⟩ := hrel
   replace hw := hw.symm
   subst hw
   obtain ⟨rfl, rfl⟩ := hj
   go_wp2_with fail
   go_returns
   exact ⟨rfl, f1.out.trans ((f2.out.trans (f3.out.mono f2.out.size)).mono f1.out.size)⟩
theorem GH (w : World) : Calls Tryz.prog 213 #[.agg #[.int .i64 1974, .int .i64 1, .int .i64 1]] w fun e w' => e = .returned (.bool true) ∧ Below w.heap.size w w' := by
 go_enter Tryz.func213, Tryz.ntmps213
 go_upto_region 1 with ((with_reducible refine Ac (N := 1) rfl ?_); refine Aj (N := 1) (C := #[.int .i64 1974, .int .i64 1, .int .i64 1]) rfl rfl (by first | (go_simp; done) | (go_simp; rfl)) ?_; intro g1 w1 h1 b1 f1)
 have c0 : w1.cell? ⟨g1, 0, none⟩ = some (.int .i64 1974) := Bk.cell b1.out rfl
 have c1 : w1.cell? ⟨g1, 1, none⟩ = some (.int .i64 1) := Bk.cell b1.out rfl
 have c2 : w1.cell? ⟨g1, 2, none⟩ = some (.int .i64 1) := Bk.cell b1.out rfl
 go_quiet ((go_at_call 215; with_reducible exact Calls.quiet_of_same (SV _)))
 go_wp2_with fail
 go_returns
 exact ⟨rfl, ((Fr.of_below (T := fun _ => False) f1.out).drewN _).Ad⟩
theorem Na (w : World) : Calls Tryz.prog 162 #[.agg #[.int .i64 1974, .int .i64 1, .int .i64 1]] w fun e w' => e = .returned (.tuple #[.int .i64 1461, .int .i64 0]) ∧ Below w.heap.size w w' := by
 go_enter Tryz.func162, Tryz.ntmps162
 go_upto_region 3 with (first
   | ((with_reducible refine Ac (N := 1) rfl ?_); refine Aj (N := 1) (C := #[.int .i64 1974, .int .i64 1, .int .i64 1]) rfl rfl (by first | (go_simp; done) | (go_simp; rfl)) ?_; intro g1 w1 h1 b1 f1)
   | ((with_reducible refine Ac (N := 6) rfl ?_); refine Au (N := 6) rfl rfl rfl rfl b1.out Tryz.underlying247 rfl Bf [.int .i64 1974, .int .i64 1, .int .i64 1] rfl rfl ?_)
   | (go_at_call 213; refine (GH _).mono ?_; rintro e w2 ⟨rfl, f2⟩; have b2 := Aa.mk (b1.out.Ad f2); replace f2 := Aa.mk f2))
 have c0 : w2.cell? ⟨g1, 0, none⟩ = some (.int .i64 1974) := Bk.cell b2.out rfl
 have c1 : w2.cell? ⟨g1, 1, none⟩ = some (.int .i64 1) := Bk.cell b2.out rfl
 have c2 : w2.cell? ⟨g1, 2, none⟩ = some (.int .i64 1) := Bk.cell b2.out rfl
 go_quiet ((go_at_call 214; with_reducible exact Calls.quiet_of_same (Sm _)))
 generalize hw3 : World.drewN _ _ = w3
 have f3 : Aa (Below w2.heap.size w2 w3) := ⟨hw3 ▸ Ae (Below.refl _ _) _⟩
 have b3 := Aa.mk (b2.out.Ad f3.out)
 clear hw3 c0 c1 c2
 have c0 : w3.cell? ⟨g1, 0, none⟩ = some (.int .i64 1974) := Bk.cell b3.out rfl
 have c1 : w3.cell? ⟨g1, 1, none⟩ = some (.int .i64 1) := Bk.cell b3.out rfl
 go_wp2_with fail
 go_loopw [4, 5] (fun d i wq => wq = w3 ∧ (d = .int .i64 720989 ∧ i = .int .i64 1)) (fun _ i _ => 1 - (intOf i).toNat)
 case atStart => exact ⟨rfl, ⟨rfl, rfl⟩⟩
 case round =>
   obtain ⟨hw, hj⟩ := hrel
   replace hw := hw.symm
   subst hw
   obtain ⟨rfl, rfl⟩ := hj
   go_wp2_with fail
   go_returns
   exact ⟨rfl, f1.out.trans ((f2.out.trans (f3.out.mono f2.out.size)).mono f1.out.size)⟩
theorem GG (w : World) : Calls Tryz.prog 213 #[.agg #[.int .i64 1975, .int .i64 1, .int .i64 1]] w fun e w' => e = .returned (.bool true) ∧ Below w.heap.size w w' := by
 go_enter Tryz.func213, Tryz.ntmps213
 go_upto_region 1 with ((with_reducible refine Ac (N := 1) rfl ?_); refine Aj (N := 1) (C := #[.int .i64 1975, .int .i64 1, .int .i64 1]) rfl rfl (by first | (go_simp; done) | (go_simp; rfl)) ?_; intro g1 w1 h1 b1 f1)
 have c0 : w1.cell? ⟨g1, 0, none⟩ = some (.int .i64 1975) := Bk.cell b1.out rfl
 have c1 : w1.cell? ⟨g1, 1, none⟩ = some (.int .i64 1) := Bk.cell b1.out rfl
 have c2 : w1.cell? ⟨g1, 2, none⟩ = some (.int .i64 1) := Bk.cell b1.out rfl
 go_quiet ((go_at_call 215; with_reducible exact Calls.quiet_of_same (SS _)))
 go_wp2_with fail
 go_returns
 exact ⟨rfl, ((Fr.of_below (T := fun _ => False) f1.out).drewN _).Ad⟩
theorem MZ (w : World) : Calls Tryz.prog 162 #[.agg #[.int .i64 1975, .int .i64 1, .int .i64 1]] w fun e w' => e = .returned (.tuple #[.int .i64 1826, .int .i64 0]) ∧ Below w.heap.size w w' := by
 go_enter Tryz.func162, Tryz.ntmps162
 go_upto_region 3 with (first
   | ((with_reducible refine Ac (N := 1) rfl ?_); refine Aj (N := 1) (C := #[.int .i64 1975, .int .i64 1, .int .i64 1]) rfl rfl (by first | (go_simp; done) | (go_simp; rfl)) ?_; intro g1 w1 h1 b1 f1)
   | ((with_reducible refine Ac (N := 6) rfl ?_); refine Au (N := 6) rfl rfl rfl rfl b1.out Tryz.underlying247 rfl Bf [.int .i64 1975, .int .i64 1, .int .i64 1] rfl rfl ?_)
   | (go_at_call 213; refine (GG _).mono ?_; rintro e w2 ⟨rfl, f2⟩; have b2 := Aa.mk (b1.out.Ad f2); replace f2 := Aa.mk f2))
 have c0 : w2.cell? ⟨g1, 0, none⟩ = some (.int .i64 1975) := Bk.cell b2.out rfl
 have c1 : w2.cell? ⟨g1, 1, none⟩ = some (.int .i64 1) := Bk.cell b2.out rfl
 have c2 : w2.cell? ⟨g1, 2, none⟩ = some (.int .i64 1) := Bk.cell b2.out rfl
 go_quiet ((go_at_call 214; with_reducible exact Calls.quiet_of_same (Sj _)))
 generalize hw3 : World.drewN _ _ = w3
 have f3 : Aa (Below w2.heap.size w2 w3) := ⟨hw3 ▸ Ae (Below.refl _ _) _⟩
 have b3 := Aa.mk (b2.out.Ad f3.out)
 clear hw3 c0 c1 c2
 have c0 : w3.cell? ⟨g1, 0, none⟩ = some (.int .i64 1975) := Bk.cell b3.out rfl
 have c1 : w3.cell? ⟨g1, 1, none⟩ = some (.int .i64 1) := Bk.cell b3.out rfl
 go_wp2_with fail
 go_loopw [4, 5] (fun d i wq => wq = w3 ∧ (d = .int .i64 721354 ∧ i = .int .i64 1)) (fun _ i _ => 1 - (intOf i).toNat)
 case atStart => exact ⟨rfl, ⟨rfl, rfl⟩⟩
 case round =>
   obtain ⟨hw, hj⟩ := hrel
   replace hw := hw.symm
   subst hw
   obtain ⟨rfl, rfl⟩ := hj
   go_wp2_with fail
   go_returns
   exact ⟨rfl, f1.out.trans ((f2.out.trans (f3.out.mono f2.out.size)).mono f1.out.size)⟩
end Go.Proofs.YtchfmgbjddopoaaGreatDoor.Hand
namespace Go.Proofs.YtchfmgbjddopoaaGreatDoor.Pnumber
open Go.RowKit Go.Proofs.YtchfmgbjddopoaaGreatDoorW.PrintWords Go.Proofs.YtchfmgbjddopoaaGreatDoorW.PrintLast Go.Proofs.YtchfmgbjddopoaaGreatDoorW.PrintMore
attribute [local go_sem] max2_int min2_int max_two min_two max_three min_three max_four min_four
def errW : Option Int → Value
 | none => .nilIface
 | some c => .iface 0 (.int .i64 c)
theorem errW_none : errW none = .nilIface := rfl
theorem errW_some (c : Int) : errW (some c) = .iface 0 (.int .i64 c) := rfl
def Ar.l0 : Nat → ByteArray → Int → Int → Int → Option (Int × Bool)
 | 0, _, _, _, _ => none
 | k + 1, x0, x4, x7, x8 => if x8 < x7 then (if 0 ≤ x8 then (if x8 < (x0.size : Int) then (if (bt x0 x8) < 48 then (some (0, false)) else (if (bt x0 x8) > 57 then (some (0, false)) else (Ar.l0 k x0 (wrap64 ((wrap64 (10 * x4)) + (((bt x0 x8) - 48) % 256))) x7 (wrap64 (x8 + 1))))) else (none)) else (none)) else (some (x4, true))
def Ar.f (k : Nat) (a0 : ByteArray) : Option (Int × Bool) := Ar.l0 k a0 0 (a0.size : Int) 0
theorem Ar.calls (k : Nat) (a0 : ByteArray) (r1 : Int) (r2 : Bool) (w : World) (h : Ar.f k a0 = some (r1, r2)) :
   Calls Tryz.prog 211 #[.string a0] w fun e w' => e = .returned (.tuple #[.int .i64 r1, .bool r2]) ∧ Az w w' := by
 have H : (Ar.l0 k a0 0 (a0.size : Int) 0) = some (r1, r2) := h
 clear h
 have H' := Aa.mk H
 clear H
 go_enter Tryz.func211, Tryz.ntmps211
 go_wp2
 go_loopg [4, 8] k (fun kq v4 v8 w' => ∃ (x4_1 : Int) (x8_1 : Int), v4 = .int .i64 x4_1 ∧ v8 = .int .i64 x8_1 ∧ Aa (Ar.l0 kq a0 x4_1 (a0.size : Int) x8_1 = some (r1, r2)) ∧ Aa (kq ≤ k) ∧ Az w w')
 case atStart => exact ⟨(0), (0), (by first | rfl | (simp; done) | (simp [*]; done)), (by first | rfl | (simp; done) | (simp [*]; done)), H', ⟨Nat.le_refl _⟩, by repeat (first | exact Az.refl _ | apply Az.step)⟩
 case round =>
   clear H'
   obtain ⟨x4_1, x8_1, rfl, rfl, HA, HK1, ⟨m1, rfl⟩⟩ := hrel
   cases gk with
   | zero => exact absurd HA.out (by simp [Ar.l0])
   | succ k1 =>
     have H := HA.out
     clear HA
     simp only [Ar.l0] at H
     by_cases c2 : x8_1 < (a0.size : Int)
     · rw [if_pos c2] at H
       have c2b0 : decide (x8_1 < (a0.size : Int)) = true := decide_eq_true c2
       clear c2
       by_cases c3 : 0 ≤ x8_1
       · rw [if_pos c3] at H
         have c3b0 : decide (0 ≤ x8_1) = true := decide_eq_true c3
         clear c3
         by_cases c4 : x8_1 < (a0.size : Int)
         · rw [if_pos c4] at H
           have c4b0 : decide (x8_1 < (a0.size : Int)) = true := decide_eq_true c4
           clear c4
           by_cases c6 : (bt a0 x8_1) < 48
           · rw [if_pos c6] at H
             have c6b0 : decide ((bt a0 x8_1) < 48) = true := decide_eq_true c6
             clear c6
             simp only [Option.some.injEq, Prod.mk.injEq] at H
             obtain ⟨rfl, rfl⟩ := H
             have p5 : 0 ≤ (x8_1 : Int) := of_decide_eq_true (by first | (with_reducible assumption) | assumption)
             have q5 : x8_1 < (a0.size : Int) := of_decide_eq_true (by first | (with_reducible assumption) | assumption)
             have hx5 := IU a0 x8_1
             replace p5 := eq_true p5
             replace q5 := eq_true q5
             go_wp2
             go_ret2
             exact ⟨by first | rfl | (simp; done) | (simp [*]; done), by repeat (first | exact Az.refl _ | apply Az.step)⟩
           · rw [if_neg c6] at H
             have c6b0 : decide ((bt a0 x8_1) < 48) = false := decide_eq_false c6
             clear c6
             by_cases c8 : (bt a0 x8_1) > 57
             · rw [if_pos c8] at H
               have c8b0 : decide (57 < (bt a0 x8_1)) = true := decide_eq_true c8
               clear c8
               simp only [Option.some.injEq, Prod.mk.injEq] at H
               obtain ⟨rfl, rfl⟩ := H
               have p5 : 0 ≤ (x8_1 : Int) := of_decide_eq_true (by first | (with_reducible assumption) | assumption)
               have q5 : x8_1 < (a0.size : Int) := of_decide_eq_true (by first | (with_reducible assumption) | assumption)
               have hx5 := IU a0 x8_1
               replace p5 := eq_true p5
               replace q5 := eq_true q5
               have p7 : 0 ≤ (x8_1 : Int) := of_decide_eq_true (by first | (with_reducible assumption) | assumption)
               have q7 : x8_1 < (a0.size : Int) := of_decide_eq_true (by first | (with_reducible assumption) | assumption)
               have hx7 := IU a0 x8_1
               replace p7 := eq_true p7
               replace q7 := eq_true q7
               go_wp2
               go_ret2
               exact ⟨by first | rfl | (simp; done) | (simp [*]; done), by repeat (first | exact Az.refl _ | apply Az.step)⟩
             · rw [if_neg c8] at H
               have c8b0 : decide (57 < (bt a0 x8_1)) = false := decide_eq_false c8
               clear c8
               have H' := Aa.mk H
               clear H
               have p5 : 0 ≤ (x8_1 : Int) := of_decide_eq_true (by first | (with_reducible assumption) | assumption)
               have q5 : x8_1 < (a0.size : Int) := of_decide_eq_true (by first | (with_reducible assumption) | assumption)
               have hx5 := IU a0 x8_1
               replace p5 := eq_true p5
               replace q5 := eq_true q5
               have p7 : 0 ≤ (x8_1 : Int) := of_decide_eq_true (by first | (with_reducible assumption) | assumption)
               have q7 : x8_1 < (a0.size : Int) := of_decide_eq_true (by first | (with_reducible assumption) | assumption)
               have hx7 := IU a0 x8_1
               replace p7 := eq_true p7
               replace q7 := eq_true q7
               have p9 : 0 ≤ (x8_1 : Int) := of_decide_eq_true (by first | (with_reducible assumption) | assumption)
               have q9 : x8_1 < (a0.size : Int) := of_decide_eq_true (by first | (with_reducible assumption) | assumption)
               have hx9 := IU a0 x8_1
               replace p9 := eq_true p9
               replace q9 := eq_true q9
               go_wp2
               go_roundg k1
               case measure => have := HK1.out; omega
               case rel => exact ⟨(wrap64 ((wrap64 (10 * x4_1)) + (((bt a0 x8_1) - 48) % 256))), (wrap64 (x8_1 + 1)), (by first | rfl | (simp; done) | (simp [*]; done)), (by first | rfl | (simp; done) | (simp [*]; done)), H', ⟨by have := HK1.out; omega⟩, by repeat (first | exact Az.refl _ | apply Az.step)⟩
         · rw [if_neg c4] at H
           exact absurd H (by simp)
       · rw [if_neg c3] at H
         exact absurd H (by simp)
     · rw [if_neg c2] at H
       have c2b0 : decide (x8_1 < (a0.size : Int)) = false := decide_eq_false c2
       clear c2
       simp only [Option.some.injEq, Prod.mk.injEq] at H
       obtain ⟨rfl, rfl⟩ := H
       go_wp2
       go_ret2
       exact ⟨by first | rfl | (simp; done) | (simp [*]; done), by repeat (first | exact Az.refl _ | apply Az.step)⟩
end Go.Proofs.YtchfmgbjddopoaaGreatDoor.Pnumber
