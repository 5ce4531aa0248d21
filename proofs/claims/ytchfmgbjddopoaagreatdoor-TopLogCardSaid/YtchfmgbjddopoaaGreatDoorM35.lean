import Derived.Deep.QuietTactic
import Derived.BigQuiet
import Derived.Test.YtchfmgbjddopoaaGreatDoorProg
import Derived.Below
import Derived.Deep.Draws
import Derived.Deep.AppendLies
import Derived.Maps.AppendAt
import Derived.OwnWalk
import Derived.Laws.BytesArg
import Derived.Laws.MakeOwn
import Derived.Laws.OwnMore
import Derived.Deep.OwnRows
import Derived.Tactics
import Derived.Lib.ConvBytes
import Derived.Laws.Slices
import Derived.WalkKit
import Derived.KernelRfl
import Derived.RowKit3
import Derived.Deep.LoopGhost
import Derived.WideLaws
import Derived.Deep.DeepCutAuto
import Derived.Deep.CutBlock
import Derived.Deep.RegionHeld3
import Derived.Laws.Rows
import Derived.Lib.AppendStr
import Derived.ArgAppend
import Derived.Laws.IdiomCopy
import Derived.OrdersHeld
import Derived.Laws.BitsLemmas
import Derived.RowKit
import Derived.Laws.StructEq
import Derived.Test.YtchfmgbjddopoaaGreatDoorM01
import Derived.Test.YtchfmgbjddopoaaGreatDoorM02
import Derived.Test.YtchfmgbjddopoaaGreatDoorM03
import Derived.Test.YtchfmgbjddopoaaGreatDoorM04
import Derived.Test.YtchfmgbjddopoaaGreatDoorM34
set_option linter.unusedVariables false
set_option linter.unusedSimpArgs false
set_option maxHeartbeats 6400000
set_option maxRecDepth 100000
namespace Go.Proofs.YtchfmgbjddopoaaGreatDoor.Hand
open Go.RowKit Go.Proofs.YtchfmgbjddopoaaGreatDoorW.PrintWords Go.Proofs.YtchfmgbjddopoaaGreatDoorW.PrintLast Go.Proofs.YtchfmgbjddopoaaGreatDoorW.PrintMore
attribute [local go_sem ↓] Go.wp_at_zero Go.wp_at_succ
theorem YP (w : World) : Calls Tryz.prog 192 #[.int .i64 0] w fun e w' => e = .returned (.string ⟨#[48]⟩) ∧ w' = w :=
 (Tryz.strconv_Itoa_small 0 (by decide) w).mono fun _ _ h => ⟨(by decide +kernel : (⟨(Lib.decDigits 0).toArray⟩ : ByteArray) = ⟨#[48]⟩) ▸ h.1, h.2⟩
theorem YO (w : World) : Calls Tryz.prog 192 #[.int .i64 1] w fun e w' => e = .returned (.string ⟨#[49]⟩) ∧ w' = w :=
 (Tryz.strconv_Itoa_small 1 (by decide) w).mono fun _ _ h => ⟨(by decide +kernel : (⟨(Lib.decDigits 1).toArray⟩ : ByteArray) = ⟨#[49]⟩) ▸ h.1, h.2⟩
theorem Xah (w : World) : Calls Tryz.prog 192 #[.int .i64 2] w fun e w' => e = .returned (.string ⟨#[50]⟩) ∧ w' = w :=
 (Tryz.strconv_Itoa_small 2 (by decide) w).mono fun _ _ h => ⟨(by decide +kernel : (⟨(Lib.decDigits 2).toArray⟩ : ByteArray) = ⟨#[50]⟩) ▸ h.1, h.2⟩
theorem Xag (w : World) : Calls Tryz.prog 192 #[.int .i64 3] w fun e w' => e = .returned (.string ⟨#[51]⟩) ∧ w' = w :=
 (Tryz.strconv_Itoa_small 3 (by decide) w).mono fun _ _ h => ⟨(by decide +kernel : (⟨(Lib.decDigits 3).toArray⟩ : ByteArray) = ⟨#[51]⟩) ▸ h.1, h.2⟩
theorem Xaf (w : World) : Calls Tryz.prog 192 #[.int .i64 4] w fun e w' => e = .returned (.string ⟨#[52]⟩) ∧ w' = w :=
 (Tryz.strconv_Itoa_small 4 (by decide) w).mono fun _ _ h => ⟨(by decide +kernel : (⟨(Lib.decDigits 4).toArray⟩ : ByteArray) = ⟨#[52]⟩) ▸ h.1, h.2⟩
theorem Xae (w : World) : Calls Tryz.prog 192 #[.int .i64 5] w fun e w' => e = .returned (.string ⟨#[53]⟩) ∧ w' = w :=
 (Tryz.strconv_Itoa_small 5 (by decide) w).mono fun _ _ h => ⟨(by decide +kernel : (⟨(Lib.decDigits 5).toArray⟩ : ByteArray) = ⟨#[53]⟩) ▸ h.1, h.2⟩
theorem Ub (w : World) : Calls Tryz.prog 192 #[.int .i64 7] w fun e w' => e = .returned (.string ⟨#[55]⟩) ∧ w' = w :=
 (Tryz.strconv_Itoa_small 7 (by decide) w).mono fun _ _ h => ⟨(by decide +kernel : (⟨(Lib.decDigits 7).toArray⟩ : ByteArray) = ⟨#[55]⟩) ▸ h.1, h.2⟩
theorem Xad (w : World) : Calls Tryz.prog 192 #[.int .i64 9] w fun e w' => e = .returned (.string ⟨#[57]⟩) ∧ w' = w :=
 (Tryz.strconv_Itoa_small 9 (by decide) w).mono fun _ _ h => ⟨(by decide +kernel : (⟨(Lib.decDigits 9).toArray⟩ : ByteArray) = ⟨#[57]⟩) ▸ h.1, h.2⟩
theorem TN : (⟨#[49]⟩ : ByteArray) ++ ⟨#[57]⟩ = ⟨#[49, 57]⟩ := by decide +kernel
theorem NC (w : World) : Calls Tryz.prog 265 #[.int .i64 19] w fun e w' => e = .returned (.string ⟨#[49, 57]⟩) ∧ w' = w := by
 go_enter Tryz.func265, Tryz.ntmps265
 have hc := TN
 go_wp2_with (first
   | (go_at_call 192; first
       | (refine (YO _).mono ?_; rintro e w' ⟨rfl, rfl⟩)
       | (refine (Xad _).mono ?_; rintro e w' ⟨rfl, rfl⟩)))
 go_returns
 exact ⟨rfl, rfl⟩
theorem TM : (⟨#[55]⟩ : ByteArray) ++ ⟨#[50]⟩ = ⟨#[55, 50]⟩ := by decide +kernel
theorem WR (w : World) : Calls Tryz.prog 265 #[.int .i64 72] w fun e w' => e = .returned (.string ⟨#[55, 50]⟩) ∧ w' = w := by
 go_enter Tryz.func265, Tryz.ntmps265
 have hc := TM
 go_wp2_with (first
   | (go_at_call 192; first
       | (refine (Ub _).mono ?_; rintro e w' ⟨rfl, rfl⟩)
       | (refine (Xah _).mono ?_; rintro e w' ⟨rfl, rfl⟩)))
 go_returns
 exact ⟨rfl, rfl⟩
theorem TL : (⟨#[55]⟩ : ByteArray) ++ ⟨#[51]⟩ = ⟨#[55, 51]⟩ := by decide +kernel
theorem YZ (w : World) : Calls Tryz.prog 265 #[.int .i64 73] w fun e w' => e = .returned (.string ⟨#[55, 51]⟩) ∧ w' = w := by
 go_enter Tryz.func265, Tryz.ntmps265
 have hc := TL
 go_wp2_with (first
   | (go_at_call 192; first
       | (refine (Ub _).mono ?_; rintro e w' ⟨rfl, rfl⟩)
       | (refine (Xag _).mono ?_; rintro e w' ⟨rfl, rfl⟩)))
 go_returns
 exact ⟨rfl, rfl⟩
theorem TK : (⟨#[55]⟩ : ByteArray) ++ ⟨#[52]⟩ = ⟨#[55, 52]⟩ := by decide +kernel
theorem YY (w : World) : Calls Tryz.prog 265 #[.int .i64 74] w fun e w' => e = .returned (.string ⟨#[55, 52]⟩) ∧ w' = w := by
 go_enter Tryz.func265, Tryz.ntmps265
 have hc := TK
 go_wp2_with (first
   | (go_at_call 192; first
       | (refine (Ub _).mono ?_; rintro e w' ⟨rfl, rfl⟩)
       | (refine (Xaf _).mono ?_; rintro e w' ⟨rfl, rfl⟩)))
 go_returns
 exact ⟨rfl, rfl⟩
theorem TJ : (⟨#[55]⟩ : ByteArray) ++ ⟨#[53]⟩ = ⟨#[55, 53]⟩ := by decide +kernel
theorem YX (w : World) : Calls Tryz.prog 265 #[.int .i64 75] w fun e w' => e = .returned (.string ⟨#[55, 53]⟩) ∧ w' = w := by
 go_enter Tryz.func265, Tryz.ntmps265
 have hc := TJ
 go_wp2_with (first
   | (go_at_call 192; first
       | (refine (Ub _).mono ?_; rintro e w' ⟨rfl, rfl⟩)
       | (refine (Xae _).mono ?_; rintro e w' ⟨rfl, rfl⟩)))
 go_returns
 exact ⟨rfl, rfl⟩
theorem Vq : (⟨#[48]⟩ : ByteArray) ++ ⟨#[49]⟩ = ⟨#[48, 49]⟩ := by decide +kernel
theorem Ld (w : World) : Calls Tryz.prog 265 #[.int .i64 1] w fun e w' => e = .returned (.string ⟨#[48, 49]⟩) ∧ w' = w := by
 go_enter Tryz.func265, Tryz.ntmps265
 have hc := Vq
 go_wp2_with (first
   | (go_at_call 192; first
       | (refine (YP _).mono ?_; rintro e w' ⟨rfl, rfl⟩)
       | (refine (YO _).mono ?_; rintro e w' ⟨rfl, rfl⟩)))
 go_returns
 exact ⟨rfl, rfl⟩
theorem Vp : (⟨#[48]⟩ : ByteArray) ++ ⟨#[55]⟩ = ⟨#[48, 55]⟩ := by decide +kernel
theorem ZN (w : World) : Calls Tryz.prog 265 #[.int .i64 7] w fun e w' => e = .returned (.string ⟨#[48, 55]⟩) ∧ w' = w := by
 go_enter Tryz.func265, Tryz.ntmps265
 have hc := Vp
 go_wp2_with (first
   | (go_at_call 192; first
       | (refine (YP _).mono ?_; rintro e w' ⟨rfl, rfl⟩)
       | (refine (Ub _).mono ?_; rintro e w' ⟨rfl, rfl⟩)))
 go_returns
 exact ⟨rfl, rfl⟩
theorem O9 : (⟨#[]⟩ : ByteArray) ++ ⟨#[49, 57]⟩ ++ ⟨#[55, 50]⟩ ++ ⟨#[45]⟩ ++ ⟨#[48, 49]⟩ ++ ⟨#[45]⟩ ++ ⟨#[48, 49]⟩ = ⟨#[49, 57, 55, 50, 45, 48, 49, 45, 48, 49]⟩ := by decide +kernel
theorem MB (w : World) : Calls Tryz.prog 212 #[.agg #[.int .i64 1972, .int .i64 1, .int .i64 1]] w fun e w' => e = .returned (.string ⟨#[49, 57, 55, 50, 45, 48, 49, 45, 48, 49]⟩) ∧ Below w.heap.size w w' := by
 go_enter Tryz.func212, Tryz.ntmps212
 go_wp2_with (first
   | ((with_reducible refine Ac (N := 1) rfl ?_); refine Aj (N := 1) (C := #[.int .i64 1972, .int .i64 1, .int .i64 1]) rfl rfl (by first | (go_simp; done) | (go_simp; rfl)) ?_; intro g1 w1 h1 b1 f1; have c0 : w1.cell? ⟨g1, 0, none⟩ = some (.int .i64 1972) := Bk.cell b1.out rfl; have c1 : w1.cell? ⟨g1, 1, none⟩ = some (.int .i64 1) := Bk.cell b1.out rfl; have c2 : w1.cell? ⟨g1, 2, none⟩ = some (.int .i64 1) := Bk.cell b1.out rfl)
   | (go_at_call 213; refine (GL _).mono ?_; rintro e w2 ⟨rfl, f2⟩; replace f2 := Aa.mk f2; have b2 := Aa.mk (b1.out.Ad f2.out); clear c0 c1 c2; have c0 : w2.cell? ⟨g1, 0, none⟩ = some (.int .i64 1972) := Bk.cell b2.out rfl; have c1 : w2.cell? ⟨g1, 1, none⟩ = some (.int .i64 1) := Bk.cell b2.out rfl; have c2 : w2.cell? ⟨g1, 2, none⟩ = some (.int .i64 1) := Bk.cell b2.out rfl))
 go_quiet ((go_at_call 265; first
     | (with_reducible exact Calls.quiet_of_same (NC _))
     | (with_reducible exact Calls.quiet_of_same (WR _))
     | (with_reducible exact Calls.quiet_of_same (Ld _))
     | (with_reducible exact Calls.quiet_of_same (Ld _))))
 go_wp2_with fail
 go_returns
 exact ⟨by rw [← O9]; rfl, ((Fr.of_below (T := fun _ => False) f1.out).trans (Fr.of_below f2.out)).drewN _ |>.Ad⟩
theorem O8 : (⟨#[]⟩ : ByteArray) ++ ⟨#[49, 57]⟩ ++ ⟨#[55, 50]⟩ ++ ⟨#[45]⟩ ++ ⟨#[48, 55]⟩ ++ ⟨#[45]⟩ ++ ⟨#[48, 49]⟩ = ⟨#[49, 57, 55, 50, 45, 48, 55, 45, 48, 49]⟩ := by decide +kernel
theorem Me (w : World) : Calls Tryz.prog 212 #[.agg #[.int .i64 1972, .int .i64 7, .int .i64 1]] w fun e w' => e = .returned (.string ⟨#[49, 57, 55, 50, 45, 48, 55, 45, 48, 49]⟩) ∧ Below w.heap.size w w' := by
 go_enter Tryz.func212, Tryz.ntmps212
 go_wp2_with (first
   | ((with_reducible refine Ac (N := 1) rfl ?_); refine Aj (N := 1) (C := #[.int .i64 1972, .int .i64 7, .int .i64 1]) rfl rfl (by first | (go_simp; done) | (go_simp; rfl)) ?_; intro g1 w1 h1 b1 f1; have c0 : w1.cell? ⟨g1, 0, none⟩ = some (.int .i64 1972) := Bk.cell b1.out rfl; have c1 : w1.cell? ⟨g1, 1, none⟩ = some (.int .i64 7) := Bk.cell b1.out rfl; have c2 : w1.cell? ⟨g1, 2, none⟩ = some (.int .i64 1) := Bk.cell b1.out rfl)
   | (go_at_call 213; refine (GK _).mono ?_; rintro e w2 ⟨rfl, f2⟩; replace f2 := Aa.mk f2; have b2 := Aa.mk (b1.out.Ad f2.out); clear c0 c1 c2; have c0 : w2.cell? ⟨g1, 0, none⟩ = some (.int .i64 1972) := Bk.cell b2.out rfl; have c1 : w2.cell? ⟨g1, 1, none⟩ = some (.int .i64 7) := Bk.cell b2.out rfl; have c2 : w2.cell? ⟨g1, 2, none⟩ = some (.int .i64 1) := Bk.cell b2.out rfl))
 go_quiet ((go_at_call 265; first
     | (with_reducible exact Calls.quiet_of_same (NC _))
     | (with_reducible exact Calls.quiet_of_same (WR _))
     | (with_reducible exact Calls.quiet_of_same (ZN _))
     | (with_reducible exact Calls.quiet_of_same (Ld _))))
 go_wp2_with fail
 go_returns
 exact ⟨by rw [← O8]; rfl, ((Fr.of_below (T := fun _ => False) f1.out).trans (Fr.of_below f2.out)).drewN _ |>.Ad⟩
theorem O7 : (⟨#[]⟩ : ByteArray) ++ ⟨#[49, 57]⟩ ++ ⟨#[55, 51]⟩ ++ ⟨#[45]⟩ ++ ⟨#[48, 49]⟩ ++ ⟨#[45]⟩ ++ ⟨#[48, 49]⟩ = ⟨#[49, 57, 55, 51, 45, 48, 49, 45, 48, 49]⟩ := by decide +kernel
theorem Md (w : World) : Calls Tryz.prog 212 #[.agg #[.int .i64 1973, .int .i64 1, .int .i64 1]] w fun e w' => e = .returned (.string ⟨#[49, 57, 55, 51, 45, 48, 49, 45, 48, 49]⟩) ∧ Below w.heap.size w w' := by
 go_enter Tryz.func212, Tryz.ntmps212
 go_wp2_with (first
   | ((with_reducible refine Ac (N := 1) rfl ?_); refine Aj (N := 1) (C := #[.int .i64 1973, .int .i64 1, .int .i64 1]) rfl rfl (by first | (go_simp; done) | (go_simp; rfl)) ?_; intro g1 w1 h1 b1 f1; have c0 : w1.cell? ⟨g1, 0, none⟩ = some (.int .i64 1973) := Bk.cell b1.out rfl; have c1 : w1.cell? ⟨g1, 1, none⟩ = some (.int .i64 1) := Bk.cell b1.out rfl; have c2 : w1.cell? ⟨g1, 2, none⟩ = some (.int .i64 1) := Bk.cell b1.out rfl)
   | (go_at_call 213; refine (GI _).mono ?_; rintro e w2 ⟨rfl, f2⟩; replace f2 := Aa.mk f2; have b2 := Aa.mk (b1.out.Ad f2.out); clear c0 c1 c2; have c0 : w2.cell? ⟨g1, 0, none⟩ = some (.int .i64 1973) := Bk.cell b2.out rfl; have c1 : w2.cell? ⟨g1, 1, none⟩ = some (.int .i64 1) := Bk.cell b2.out rfl; have c2 : w2.cell? ⟨g1, 2, none⟩ = some (.int .i64 1) := Bk.cell b2.out rfl))
 go_quiet ((go_at_call 265; first
     | (with_reducible exact Calls.quiet_of_same (NC _))
     | (with_reducible exact Calls.quiet_of_same (YZ _))
     | (with_reducible exact Calls.quiet_of_same (Ld _))
     | (with_reducible exact Calls.quiet_of_same (Ld _))))
 go_wp2_with fail
 go_returns
 exact ⟨by rw [← O7]; rfl, ((Fr.of_below (T := fun _ => False) f1.out).trans (Fr.of_below f2.out)).drewN _ |>.Ad⟩
theorem O6 : (⟨#[]⟩ : ByteArray) ++ ⟨#[49, 57]⟩ ++ ⟨#[55, 52]⟩ ++ ⟨#[45]⟩ ++ ⟨#[48, 49]⟩ ++ ⟨#[45]⟩ ++ ⟨#[48, 49]⟩ = ⟨#[49, 57, 55, 52, 45, 48, 49, 45, 48, 49]⟩ := by decide +kernel
theorem Mc (w : World) : Calls Tryz.prog 212 #[.agg #[.int .i64 1974, .int .i64 1, .int .i64 1]] w fun e w' => e = .returned (.string ⟨#[49, 57, 55, 52, 45, 48, 49, 45, 48, 49]⟩) ∧ Below w.heap.size w w' := by
 go_enter Tryz.func212, Tryz.ntmps212
 go_wp2_with (first
   | ((with_reducible refine Ac (N := 1) rfl ?_); refine Aj (N := 1) (C := #[.int .i64 1974, .int .i64 1, .int .i64 1]) rfl rfl (by first | (go_simp; done) | (go_simp; rfl)) ?_; intro g1 w1 h1 b1 f1; have c0 : w1.cell? ⟨g1, 0, none⟩ = some (.int .i64 1974) := Bk.cell b1.out rfl; have c1 : w1.cell? ⟨g1, 1, none⟩ = some (.int .i64 1) := Bk.cell b1.out rfl; have c2 : w1.cell? ⟨g1, 2, none⟩ = some (.int .i64 1) := Bk.cell b1.out rfl)
   | (go_at_call 213; refine (GH _).mono ?_; rintro e w2 ⟨rfl, f2⟩; replace f2 := Aa.mk f2; have b2 := Aa.mk (b1.out.Ad f2.out); clear c0 c1 c2; have c0 : w2.cell? ⟨g1, 0, none⟩ = some (.int .i64 1974) := Bk.cell b2.out rfl; have c1 : w2.cell? ⟨g1, 1, none⟩ = some (.int .i64 1) := Bk.cell b2.out rfl; have c2 : w2.cell? ⟨g1, 2, none⟩ = some (.int .i64 1) := Bk.cell b2.out rfl))
 go_quiet ((go_at_call 265; first
     | (with_reducible exact Calls.quiet_of_same (NC _))
     | (with_reducible exact Calls.quiet_of_same (YY _))
     | (with_reducible exact Calls.quiet_of_same (Ld _))
     | (with_reducible exact Calls.quiet_of_same (Ld _))))
 go_wp2_with fail
 go_returns
 exact ⟨by rw [← O6]; rfl, ((Fr.of_below (T := fun _ => False) f1.out).trans (Fr.of_below f2.out)).drewN _ |>.Ad⟩
theorem O5 : (⟨#[]⟩ : ByteArray) ++ ⟨#[49, 57]⟩ ++ ⟨#[55, 53]⟩ ++ ⟨#[45]⟩ ++ ⟨#[48, 49]⟩ ++ ⟨#[45]⟩ ++ ⟨#[48, 49]⟩ = ⟨#[49, 57, 55, 53, 45, 48, 49, 45, 48, 49]⟩ := by decide +kernel
theorem L8 (w : World) : Calls Tryz.prog 212 #[.agg #[.int .i64 1975, .int .i64 1, .int .i64 1]] w fun e w' => e = .returned (.string ⟨#[49, 57, 55, 53, 45, 48, 49, 45, 48, 49]⟩) ∧ Below w.heap.size w w' := by
 go_enter Tryz.func212, Tryz.ntmps212
 go_wp2_with (first
   | ((with_reducible refine Ac (N := 1) rfl ?_); refine Aj (N := 1) (C := #[.int .i64 1975, .int .i64 1, .int .i64 1]) rfl rfl (by first | (go_simp; done) | (go_simp; rfl)) ?_; intro g1 w1 h1 b1 f1; have c0 : w1.cell? ⟨g1, 0, none⟩ = some (.int .i64 1975) := Bk.cell b1.out rfl; have c1 : w1.cell? ⟨g1, 1, none⟩ = some (.int .i64 1) := Bk.cell b1.out rfl; have c2 : w1.cell? ⟨g1, 2, none⟩ = some (.int .i64 1) := Bk.cell b1.out rfl)
   | (go_at_call 213; refine (GG _).mono ?_; rintro e w2 ⟨rfl, f2⟩; replace f2 := Aa.mk f2; have b2 := Aa.mk (b1.out.Ad f2.out); clear c0 c1 c2; have c0 : w2.cell? ⟨g1, 0, none⟩ = some (.int .i64 1975) := Bk.cell b2.out rfl; have c1 : w2.cell? ⟨g1, 1, none⟩ = some (.int .i64 1) := Bk.cell b2.out rfl; have c2 : w2.cell? ⟨g1, 2, none⟩ = some (.int .i64 1) := Bk.cell b2.out rfl))
 go_quiet ((go_at_call 265; first
     | (with_reducible exact Calls.quiet_of_same (NC _))
     | (with_reducible exact Calls.quiet_of_same (YX _))
     | (with_reducible exact Calls.quiet_of_same (Ld _))
     | (with_reducible exact Calls.quiet_of_same (Ld _))))
 go_wp2_with fail
 go_returns
 exact ⟨by rw [← O5]; rfl, ((Fr.of_below (T := fun _ => False) f1.out).trans (Fr.of_below f2.out)).drewN _ |>.Ad⟩
end Go.Proofs.YtchfmgbjddopoaaGreatDoor.Hand
namespace Go.Proofs.YtchfmgbjddopoaaGreatDoor.Pfollows
open Go.RowKit Go.Proofs.YtchfmgbjddopoaaGreatDoorW.PrintWords Go.Proofs.YtchfmgbjddopoaaGreatDoorW.PrintLast Go.Proofs.YtchfmgbjddopoaaGreatDoorW.PrintMore
attribute [local go_sem] max2_int min2_int max_two min_two max_three min_three max_four min_four
def errW : Option Int → Value
 | none => .nilIface
 | some c => .iface 0 (.int .i64 c)
theorem errW_none : errW none = .nilIface := rfl
theorem errW_some (c : Int) : errW (some c) = .iface 0 (.int .i64 c) := rfl
def BU.f (a0_0 : Int) (a0_1 : Int) (a1_0 : Int) (a1_1 : Int) : Option (Bool) := if a1_0 > a0_0 then (if a1_1 = (wrap64 (a0_1 + 1)) then (some true) else (some (a1_1 == (wrap64 (a0_1 - 1))))) else (some false)
theorem BU.calls (a0_0 : Int) (a0_1 : Int) (a1_0 : Int) (a1_1 : Int) (r : Bool) (w : World) (h : BU.f a0_0 a0_1 a1_0 a1_1 = some r) :
   Calls Tryz.prog 167 #[.agg #[.int .i64 a0_0, .int .i64 a0_1], .agg #[.int .i64 a1_0, .int .i64 a1_1]] w fun e w' => e = .returned (.bool r) ∧ Below w.heap.size w w' := by
 have hu256 := Tryz.underlying256
 have HB := Aa.mk (Below.refl w.heap.size w)
 have H : (if a1_0 > a0_0 then (if a1_1 = (wrap64 (a0_1 + 1)) then (some true) else (some (a1_1 == (wrap64 (a0_1 - 1))))) else (some false)) = some r := h
 clear h
 by_cases c3 : a1_0 > a0_0
 · rw [if_pos c3] at H
   have c3b0 : decide (a0_0 < a1_0) = true := decide_eq_true c3
   clear c3
   by_cases c4 : a1_1 = (wrap64 (a0_1 + 1))
   · rw [if_pos c4] at H
     have c4b0 : (a1_1 == (wrap64 (a0_1 + 1))) = true := beq_iff_eq.mpr c4
     have c4b1 : (a1_1 != (wrap64 (a0_1 + 1))) = false := bne_eq_false_iff_eq.mpr c4
     clear c4
     obtain rfl := Option.some.inj H
     go_enter Tryz.func167, Tryz.ntmps167
     go_wp2_with (first | ((with_reducible refine Ac (N := 2) rfl ?_); refine Dl ?hg (N := 2) ?hd (cs := #[.int .i64 a0_0, .int .i64 a0_1]) (t := 256) ?hr ?_; (case hd => rfl); (case hg => rfl); (case hr => first | (go_simp; done) | (go_simp; rfl)); intro gb101 hg w5 hbox hb; have n0_ := Aa.mk (CS (by repeat (first | (with_reducible first | exact HB.out | apply Ah | apply Ae | apply below_drew1) | exact HB.out)) hb); have n1_ := Aa.mk (hbox); have n2_ := Aa.mk ((by rw [hg]; exact (Ba (by repeat (first | (with_reducible first | exact HB.out | apply Ah | apply Ae | apply below_drew1) | exact HB.out))) : w.heap.size ≤ gb101)); have n3_ := Aa.mk ((by rw [hg]; exact (Ba (by repeat (first | (with_reducible first | exact HB.out | apply Ah | apply Ae | apply below_drew1) | exact HB.out))) : w.heap.size ≤ gb101)); clear HB; have HB := n0_; have BK101 := n1_; have GW101 := n2_; have GE101 := n3_; clear n0_ n1_ n2_ n3_; clear hb hbox hg) | ((with_reducible refine Ac (N := 3) rfl ?_); refine Dl ?hg (N := 3) ?hd (cs := #[.int .i64 a1_0, .int .i64 a1_1]) (t := 256) ?hr ?_; (case hd => rfl); (case hg => rfl); (case hr => first | (go_simp; done) | (go_simp; rfl)); intro gb102 hg w6 hbox hb; have n0_ := Aa.mk (Jt (g := gb101) (o := .cells #[.int .i64 a0_0, .int .i64 a0_1] 256 (0, 0)) (by (with_reducible repeat (first | refine blk_drewN ?_ _ | refine blk_drew ?_ | refine blk_alloc ?_ _)); exact BK101.out) hb); have n1_ := Aa.mk (CS (by repeat (first | (with_reducible first | exact HB.out | apply Ah | apply Ae | apply below_drew1 | refine BG ?_ GE101.out) | exact HB.out)) hb); have n2_ := Aa.mk (hbox); have n3_ := Aa.mk ((by rw [hg]; exact (Ba (by repeat (first | (with_reducible first | exact HB.out | apply Ah | apply Ae | apply below_drew1 | refine BG ?_ GE101.out) | exact HB.out))) : w.heap.size ≤ gb102)); have n4_ := Aa.mk ((by rw [hg]; exact (Ba (by repeat (first | (with_reducible first | exact HB.out | apply Ah | apply Ae | apply below_drew1 | refine BG ?_ GE101.out) | exact HB.out))) : w.heap.size ≤ gb102)); have n5_ := Aa.mk ((by rw [hg]; exact Nat.ne_of_lt (IW (g := gb101) (o := .cells #[.int .i64 a0_0, .int .i64 a0_1] 256 (0, 0)) (by (with_reducible repeat (first | refine blk_drewN ?_ _ | refine blk_drew ?_ | refine blk_alloc ?_ _)); exact BK101.out)) : gb101 ≠ gb102)); have n6_ := Aa.mk ((by rw [hg]; exact Nat.ne_of_gt (IW (g := gb101) (o := .cells #[.int .i64 a0_0, .int .i64 a0_1] 256 (0, 0)) (by (with_reducible repeat (first | refine blk_drewN ?_ _ | refine blk_drew ?_ | refine blk_alloc ?_ _)); exact BK101.out)) : gb102 ≠ gb101)); clear BK101; clear HB; have BK101 := n0_; have HB := n1_; have BK102 := n2_; have GW102 := n3_; have GE102 := n4_; have NB101_102 := n5_; have NB102_101 := n6_; clear n0_ n1_ n2_ n3_ n4_ n5_ n6_; clear hb hbox hg; have hnb7 := NB102_101.out; have hnc7 := NB101_102.out; have hcz8_0 : w6.cell? ⟨gb102, 0, none⟩ = some (.int .i64 a1_0) := (BP BK102.out 0).trans rfl; have hcz8_1 : w6.cell? ⟨gb102, 1, none⟩ = some (.int .i64 a1_1) := (BP BK102.out 1).trans rfl; have hfz8_0 := Bj BK102.out 0; have hfz8_1 := Bj BK102.out 1; have hcz9_0 : w6.cell? ⟨gb101, 0, none⟩ = some (.int .i64 a0_0) := (BP BK101.out 0).trans rfl; have hcz9_1 : w6.cell? ⟨gb101, 1, none⟩ = some (.int .i64 a0_1) := (BP BK101.out 1).trans rfl; have hfz9_0 := Bj BK101.out 0; have hfz9_1 := Bj BK101.out 1))
     go_ret
     exact ⟨by first | rfl | (simp [errW_none, errW_some] <;> rfl) | (simp [*, errW_none, errW_some] <;> rfl), by repeat (first | (with_reducible first | exact HB.out | apply Ah | apply Ae | apply below_drew1 | refine BG ?_ GE101.out | refine BG ?_ GE102.out) | exact HB.out)⟩
   · rw [if_neg c4] at H
     have c4b0 : (a1_1 == (wrap64 (a0_1 + 1))) = false := beq_eq_false_iff_ne.mpr c4
     have c4b1 : (a1_1 != (wrap64 (a0_1 + 1))) = true := bne_iff_ne.mpr c4
     obtain rfl := Option.some.inj H
     go_enter Tryz.func167, Tryz.ntmps167
     go_wp2_with (first | ((with_reducible refine Ac (N := 2) rfl ?_); refine Dl ?hg (N := 2) ?hd (cs := #[.int .i64 a0_0, .int .i64 a0_1]) (t := 256) ?hr ?_; (case hd => rfl); (case hg => rfl); (case hr => first | (go_simp; done) | (go_simp; rfl)); intro gb101 hg w10 hbox hb; have n0_ := Aa.mk (CS (by repeat (first | (with_reducible first | exact HB.out | apply Ah | apply Ae | apply below_drew1) | exact HB.out)) hb); have n1_ := Aa.mk (hbox); have n2_ := Aa.mk ((by rw [hg]; exact (Ba (by repeat (first | (with_reducible first | exact HB.out | apply Ah | apply Ae | apply below_drew1) | exact HB.out))) : w.heap.size ≤ gb101)); have n3_ := Aa.mk ((by rw [hg]; exact (Ba (by repeat (first | (with_reducible first | exact HB.out | apply Ah | apply Ae | apply below_drew1) | exact HB.out))) : w.heap.size ≤ gb101)); clear HB; have HB := n0_; have BK101 := n1_; have GW101 := n2_; have GE101 := n3_; clear n0_ n1_ n2_ n3_; clear hb hbox hg) | ((with_reducible refine Ac (N := 3) rfl ?_); refine Dl ?hg (N := 3) ?hd (cs := #[.int .i64 a1_0, .int .i64 a1_1]) (t := 256) ?hr ?_; (case hd => rfl); (case hg => rfl); (case hr => first | (go_simp; done) | (go_simp; rfl)); intro gb102 hg w11 hbox hb; have n0_ := Aa.mk (Jt (g := gb101) (o := .cells #[.int .i64 a0_0, .int .i64 a0_1] 256 (0, 0)) (by (with_reducible repeat (first | refine blk_drewN ?_ _ | refine blk_drew ?_ | refine blk_alloc ?_ _)); exact BK101.out) hb); have n1_ := Aa.mk (CS (by repeat (first | (with_reducible first | exact HB.out | apply Ah | apply Ae | apply below_drew1 | refine BG ?_ GE101.out) | exact HB.out)) hb); have n2_ := Aa.mk (hbox); have n3_ := Aa.mk ((by rw [hg]; exact (Ba (by repeat (first | (with_reducible first | exact HB.out | apply Ah | apply Ae | apply below_drew1 | refine BG ?_ GE101.out) | exact HB.out))) : w.heap.size ≤ gb102)); have n4_ := Aa.mk ((by rw [hg]; exact (Ba (by repeat (first | (with_reducible first | exact HB.out | apply Ah | apply Ae | apply below_drew1 | refine BG ?_ GE101.out) | exact HB.out))) : w.heap.size ≤ gb102)); have n5_ := Aa.mk ((by rw [hg]; exact Nat.ne_of_lt (IW (g := gb101) (o := .cells #[.int .i64 a0_0, .int .i64 a0_1] 256 (0, 0)) (by (with_reducible repeat (first | refine blk_drewN ?_ _ | refine blk_drew ?_ | refine blk_alloc ?_ _)); exact BK101.out)) : gb101 ≠ gb102)); have n6_ := Aa.mk ((by rw [hg]; exact Nat.ne_of_gt (IW (g := gb101) (o := .cells #[.int .i64 a0_0, .int .i64 a0_1] 256 (0, 0)) (by (with_reducible repeat (first | refine blk_drewN ?_ _ | refine blk_drew ?_ | refine blk_alloc ?_ _)); exact BK101.out)) : gb102 ≠ gb101)); clear BK101; clear HB; have BK101 := n0_; have HB := n1_; have BK102 := n2_; have GW102 := n3_; have GE102 := n4_; have NB101_102 := n5_; have NB102_101 := n6_; clear n0_ n1_ n2_ n3_ n4_ n5_ n6_; clear hb hbox hg; have hnb12 := NB102_101.out; have hnc12 := NB101_102.out; have hcz13_0 : w11.cell? ⟨gb102, 0, none⟩ = some (.int .i64 a1_0) := (BP BK102.out 0).trans rfl; have hcz13_1 : w11.cell? ⟨gb102, 1, none⟩ = some (.int .i64 a1_1) := (BP BK102.out 1).trans rfl; have hfz13_0 := Bj BK102.out 0; have hfz13_1 := Bj BK102.out 1; have hcz14_0 : w11.cell? ⟨gb101, 0, none⟩ = some (.int .i64 a0_0) := (BP BK101.out 0).trans rfl; have hcz14_1 : w11.cell? ⟨gb101, 1, none⟩ = some (.int .i64 a0_1) := (BP BK101.out 1).trans rfl; have hfz14_0 := Bj BK101.out 0; have hfz14_1 := Bj BK101.out 1))
     go_ret
     exact ⟨by first | rfl | (simp [errW_none, errW_some] <;> rfl) | (simp [*, errW_none, errW_some] <;> rfl), by repeat (first | (with_reducible first | exact HB.out | apply Ah | apply Ae | apply below_drew1 | refine BG ?_ GE101.out | refine BG ?_ GE102.out) | exact HB.out)⟩
 · rw [if_neg c3] at H
   have c3b0 : decide (a0_0 < a1_0) = false := decide_eq_false c3
   clear c3
   obtain rfl := Option.some.inj H
   go_enter Tryz.func167, Tryz.ntmps167
   go_wp2_with (first | ((with_reducible refine Ac (N := 2) rfl ?_); refine Dl ?hg (N := 2) ?hd (cs := #[.int .i64 a0_0, .int .i64 a0_1]) (t := 256) ?hr ?_; (case hd => rfl); (case hg => rfl); (case hr => first | (go_simp; done) | (go_simp; rfl)); intro gb101 hg w15 hbox hb; have n0_ := Aa.mk (CS (by repeat (first | (with_reducible first | exact HB.out | apply Ah | apply Ae | apply below_drew1) | exact HB.out)) hb); have n1_ := Aa.mk (hbox); have n2_ := Aa.mk ((by rw [hg]; exact (Ba (by repeat (first | (with_reducible first | exact HB.out | apply Ah | apply Ae | apply below_drew1) | exact HB.out))) : w.heap.size ≤ gb101)); have n3_ := Aa.mk ((by rw [hg]; exact (Ba (by repeat (first | (with_reducible first | exact HB.out | apply Ah | apply Ae | apply below_drew1) | exact HB.out))) : w.heap.size ≤ gb101)); clear HB; have HB := n0_; have BK101 := n1_; have GW101 := n2_; have GE101 := n3_; clear n0_ n1_ n2_ n3_; clear hb hbox hg) | ((with_reducible refine Ac (N := 3) rfl ?_); refine Dl ?hg (N := 3) ?hd (cs := #[.int .i64 a1_0, .int .i64 a1_1]) (t := 256) ?hr ?_; (case hd => rfl); (case hg => rfl); (case hr => first | (go_simp; done) | (go_simp; rfl)); intro gb102 hg w16 hbox hb; have n0_ := Aa.mk (Jt (g := gb101) (o := .cells #[.int .i64 a0_0, .int .i64 a0_1] 256 (0, 0)) (by (with_reducible repeat (first | refine blk_drewN ?_ _ | refine blk_drew ?_ | refine blk_alloc ?_ _)); exact BK101.out) hb); have n1_ := Aa.mk (CS (by repeat (first | (with_reducible first | exact HB.out | apply Ah | apply Ae | apply below_drew1 | refine BG ?_ GE101.out) | exact HB.out)) hb); have n2_ := Aa.mk (hbox); have n3_ := Aa.mk ((by rw [hg]; exact (Ba (by repeat (first | (with_reducible first | exact HB.out | apply Ah | apply Ae | apply below_drew1 | refine BG ?_ GE101.out) | exact HB.out))) : w.heap.size ≤ gb102)); have n4_ := Aa.mk ((by rw [hg]; exact (Ba (by repeat (first | (with_reducible first | exact HB.out | apply Ah | apply Ae | apply below_drew1 | refine BG ?_ GE101.out) | exact HB.out))) : w.heap.size ≤ gb102)); have n5_ := Aa.mk ((by rw [hg]; exact Nat.ne_of_lt (IW (g := gb101) (o := .cells #[.int .i64 a0_0, .int .i64 a0_1] 256 (0, 0)) (by (with_reducible repeat (first | refine blk_drewN ?_ _ | refine blk_drew ?_ | refine blk_alloc ?_ _)); exact BK101.out)) : gb101 ≠ gb102)); have n6_ := Aa.mk ((by rw [hg]; exact Nat.ne_of_gt (IW (g := gb101) (o := .cells #[.int .i64 a0_0, .int .i64 a0_1] 256 (0, 0)) (by (with_reducible repeat (first | refine blk_drewN ?_ _ | refine blk_drew ?_ | refine blk_alloc ?_ _)); exact BK101.out)) : gb102 ≠ gb101)); clear BK101; clear HB; have BK101 := n0_; have HB := n1_; have BK102 := n2_; have GW102 := n3_; have GE102 := n4_; have NB101_102 := n5_; have NB102_101 := n6_; clear n0_ n1_ n2_ n3_ n4_ n5_ n6_; clear hb hbox hg; have hnb17 := NB102_101.out; have hnc17 := NB101_102.out; have hcz18_0 : w16.cell? ⟨gb102, 0, none⟩ = some (.int .i64 a1_0) := (BP BK102.out 0).trans rfl; have hcz18_1 : w16.cell? ⟨gb102, 1, none⟩ = some (.int .i64 a1_1) := (BP BK102.out 1).trans rfl; have hfz18_0 := Bj BK102.out 0; have hfz18_1 := Bj BK102.out 1; have hcz19_0 : w16.cell? ⟨gb101, 0, none⟩ = some (.int .i64 a0_0) := (BP BK101.out 0).trans rfl; have hcz19_1 : w16.cell? ⟨gb101, 1, none⟩ = some (.int .i64 a0_1) := (BP BK101.out 1).trans rfl; have hfz19_0 := Bj BK101.out 0; have hfz19_1 := Bj BK101.out 1))
   go_ret
   exact ⟨by first | rfl | (simp [errW_none, errW_some] <;> rfl) | (simp [*, errW_none, errW_some] <;> rfl), by repeat (first | (with_reducible first | exact HB.out | apply Ah | apply Ae | apply below_drew1 | refine BG ?_ GE101.out | refine BG ?_ GE102.out) | exact HB.out)⟩
end Go.Proofs.YtchfmgbjddopoaaGreatDoor.Pfollows
