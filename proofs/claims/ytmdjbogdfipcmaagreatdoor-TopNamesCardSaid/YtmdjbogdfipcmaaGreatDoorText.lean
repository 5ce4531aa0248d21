/- stamp.Text of 1.0. -/
import Derived.Test.YtmdjbogdfipcmaaGreatDoorChain
import Derived.Test.YtmdjbogdfipcmaaGreatDoorShelf
namespace Go.Proofs.YtmdjbogdfipcmaaGreatDoor.Hand
set_option linter.unusedSimpArgs false
set_option linter.unusedVariables false
open Go.RowKit Go.Proofs.YtmdjbogdfipcmaaGreatDoorW.PrintWords Go.Proofs.YtmdjbogdfipcmaaGreatDoorW.PrintLast Go.Proofs.YtmdjbogdfipcmaaGreatDoorW.PrintMore

theorem dec_1 : (⟨(Lib.decDigits 1).toArray⟩ : ByteArray) = ⟨#[49]⟩ := by decide +kernel
theorem dec_0 : (⟨(Lib.decDigits 0).toArray⟩ : ByteArray) = ⟨#[48]⟩ := by decide +kernel
theorem fmt_1 (w : World) : Calls Tryz.prog 54 #[.int .i64 1, .int .i64 10] w fun e w' => e = .returned (.string ⟨#[49]⟩) ∧ w' = w :=
  (Tryz.strconv_FormatInt_10_small 1 (by decide) w).mono fun _ _ h => ⟨dec_1 ▸ h.1, h.2⟩
theorem itoa_0 (w : World) : Calls Tryz.prog 70 #[.int .i64 0] w fun e w' => e = .returned (.string ⟨#[48]⟩) ∧ w' = w :=
  (Tryz.strconv_Itoa_small 0 (by decide) w).mono fun _ _ h => ⟨dec_0 ▸ h.1, h.2⟩
theorem cat_1 : (⟨#[49]⟩ : ByteArray) ++ ⟨#[46]⟩ ++ ⟨#[48]⟩ = ⟨#[49, 46, 48]⟩ := by decide +kernel

theorem stamp_text (w : World) : Calls Tryz.prog 53 #[.agg S1] w fun e w' => e = .returned (.string ⟨#[49, 46, 48]⟩) ∧ Below w.heap.size w w' := by
  go_enter Tryz.func53, Tryz.ntmps53
  go_wp2_with (first
    | ((with_reducible refine gate_dst (N := 1) rfl ?_); refine ev_ptr (N := 1) (C := S1) rfl rfl (by first | (go_simp; done) | (go_simp; rfl)) ?_; intro g1 w1 h1 b1 f1; have c0 : w1.cell? ⟨g1, 0, none⟩ = some (.int .i64 1) := Bk.cell b1.out rfl; have c1 : w1.cell? ⟨g1, 1, none⟩ = some (.int .u8 0) := Bk.cell b1.out rfl))
  have k0 : w1.drew.cell? ⟨g1, 0, none⟩ = some (.int .i64 1) := c0
  have k1 : w1.drew.cell? ⟨g1, 1, none⟩ = some (.int .u8 0) := c1
  refine wp_region_noPanic ?_
  go_region_held_law (fun w' => w'.cell? ⟨g1, 0, none⟩ = some (.int .i64 1) ∧ w'.cell? ⟨g1, 1, none⟩ = some (.int .u8 0))
    ((exact ⟨k0, k1⟩))
    ((first
      | (go_at_call 54; refine (fmt_1 _).mono ?_; rintro e w' ⟨rfl, rfl⟩)
      | (go_at_call 70; refine (itoa_0 _).mono ?_; rintro e w' ⟨rfl, rfl⟩)))
  refine NoPanic.normal ?_
  go_wp2_with fail
  go_returns
  exact ⟨by rw [cat_1]; rfl, (Fr.of_below f1.out).drew.belowS⟩
end Go.Proofs.YtmdjbogdfipcmaaGreatDoor.Hand
