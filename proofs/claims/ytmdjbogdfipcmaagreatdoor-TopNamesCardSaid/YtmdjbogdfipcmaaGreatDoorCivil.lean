/- civil.two, civil.Text, civil.Parse at the five days of the script's table. -/
import Derived.Test.YtmdjbogdfipcmaaGreatDoorKey
import Derived.Test.YtmdjbogdfipcmaaGreatDoorShelf
import Derived.Test.YtmdjbogdfipcmaaGreatDoorPDaysx1
import Derived.Test.YtmdjbogdfipcmaaGreatDoorPnumberx1
import Derived.Deep.QuietTactic
import Derived.BigQuiet
namespace Go.Proofs.YtmdjbogdfipcmaaGreatDoor.Hand
set_option linter.unusedSimpArgs false
set_option linter.unusedVariables false
open Go.RowKit Go.Proofs.YtmdjbogdfipcmaaGreatDoorW.PrintWords Go.Proofs.YtmdjbogdfipcmaaGreatDoorW.PrintLast Go.Proofs.YtmdjbogdfipcmaaGreatDoorW.PrintMore
attribute [local go_sem ↓] Go.wp_at_zero Go.wp_at_succ

theorem dig_0 (w : World) : Calls Tryz.prog 70 #[.int .i64 0] w fun e w' => e = .returned (.string ⟨#[48]⟩) ∧ w' = w :=
  (Tryz.strconv_Itoa_small 0 (by decide) w).mono fun _ _ h => ⟨(by decide +kernel : (⟨(Lib.decDigits 0).toArray⟩ : ByteArray) = ⟨#[48]⟩) ▸ h.1, h.2⟩
theorem dig_1 (w : World) : Calls Tryz.prog 70 #[.int .i64 1] w fun e w' => e = .returned (.string ⟨#[49]⟩) ∧ w' = w :=
  (Tryz.strconv_Itoa_small 1 (by decide) w).mono fun _ _ h => ⟨(by decide +kernel : (⟨(Lib.decDigits 1).toArray⟩ : ByteArray) = ⟨#[49]⟩) ▸ h.1, h.2⟩
theorem dig_2 (w : World) : Calls Tryz.prog 70 #[.int .i64 2] w fun e w' => e = .returned (.string ⟨#[50]⟩) ∧ w' = w :=
  (Tryz.strconv_Itoa_small 2 (by decide) w).mono fun _ _ h => ⟨(by decide +kernel : (⟨(Lib.decDigits 2).toArray⟩ : ByteArray) = ⟨#[50]⟩) ▸ h.1, h.2⟩
theorem dig_3 (w : World) : Calls Tryz.prog 70 #[.int .i64 3] w fun e w' => e = .returned (.string ⟨#[51]⟩) ∧ w' = w :=
  (Tryz.strconv_Itoa_small 3 (by decide) w).mono fun _ _ h => ⟨(by decide +kernel : (⟨(Lib.decDigits 3).toArray⟩ : ByteArray) = ⟨#[51]⟩) ▸ h.1, h.2⟩
theorem dig_4 (w : World) : Calls Tryz.prog 70 #[.int .i64 4] w fun e w' => e = .returned (.string ⟨#[52]⟩) ∧ w' = w :=
  (Tryz.strconv_Itoa_small 4 (by decide) w).mono fun _ _ h => ⟨(by decide +kernel : (⟨(Lib.decDigits 4).toArray⟩ : ByteArray) = ⟨#[52]⟩) ▸ h.1, h.2⟩
theorem dig_5 (w : World) : Calls Tryz.prog 70 #[.int .i64 5] w fun e w' => e = .returned (.string ⟨#[53]⟩) ∧ w' = w :=
  (Tryz.strconv_Itoa_small 5 (by decide) w).mono fun _ _ h => ⟨(by decide +kernel : (⟨(Lib.decDigits 5).toArray⟩ : ByteArray) = ⟨#[53]⟩) ▸ h.1, h.2⟩
theorem dig_6 (w : World) : Calls Tryz.prog 70 #[.int .i64 6] w fun e w' => e = .returned (.string ⟨#[54]⟩) ∧ w' = w :=
  (Tryz.strconv_Itoa_small 6 (by decide) w).mono fun _ _ h => ⟨(by decide +kernel : (⟨(Lib.decDigits 6).toArray⟩ : ByteArray) = ⟨#[54]⟩) ▸ h.1, h.2⟩
theorem dig_7 (w : World) : Calls Tryz.prog 70 #[.int .i64 7] w fun e w' => e = .returned (.string ⟨#[55]⟩) ∧ w' = w :=
  (Tryz.strconv_Itoa_small 7 (by decide) w).mono fun _ _ h => ⟨(by decide +kernel : (⟨(Lib.decDigits 7).toArray⟩ : ByteArray) = ⟨#[55]⟩) ▸ h.1, h.2⟩
theorem dig_8 (w : World) : Calls Tryz.prog 70 #[.int .i64 8] w fun e w' => e = .returned (.string ⟨#[56]⟩) ∧ w' = w :=
  (Tryz.strconv_Itoa_small 8 (by decide) w).mono fun _ _ h => ⟨(by decide +kernel : (⟨(Lib.decDigits 8).toArray⟩ : ByteArray) = ⟨#[56]⟩) ▸ h.1, h.2⟩
theorem dig_9 (w : World) : Calls Tryz.prog 70 #[.int .i64 9] w fun e w' => e = .returned (.string ⟨#[57]⟩) ∧ w' = w :=
  (Tryz.strconv_Itoa_small 9 (by decide) w).mono fun _ _ h => ⟨(by decide +kernel : (⟨(Lib.decDigits 9).toArray⟩ : ByteArray) = ⟨#[57]⟩) ▸ h.1, h.2⟩
theorem cat_two_19 : (⟨#[49]⟩ : ByteArray) ++ ⟨#[57]⟩ = ⟨#[49, 57]⟩ := by decide +kernel
set_option maxRecDepth 100000 in
theorem two_19 (w : World) : Calls Tryz.prog 155 #[.int .i64 19] w fun e w' => e = .returned (.string ⟨#[49, 57]⟩) ∧ w' = w := by
  go_enter Tryz.func155, Tryz.ntmps155
  have hc := cat_two_19
  go_wp2_with (first
    | (go_at_call 70; first
        | (refine (dig_1 _).mono ?_; rintro e w' ⟨rfl, rfl⟩)
        | (refine (dig_9 _).mono ?_; rintro e w' ⟨rfl, rfl⟩)))
  go_returns
  exact ⟨rfl, rfl⟩
theorem cat_two_72 : (⟨#[55]⟩ : ByteArray) ++ ⟨#[50]⟩ = ⟨#[55, 50]⟩ := by decide +kernel
set_option maxRecDepth 100000 in
theorem two_72 (w : World) : Calls Tryz.prog 155 #[.int .i64 72] w fun e w' => e = .returned (.string ⟨#[55, 50]⟩) ∧ w' = w := by
  go_enter Tryz.func155, Tryz.ntmps155
  have hc := cat_two_72
  go_wp2_with (first
    | (go_at_call 70; first
        | (refine (dig_7 _).mono ?_; rintro e w' ⟨rfl, rfl⟩)
        | (refine (dig_2 _).mono ?_; rintro e w' ⟨rfl, rfl⟩)))
  go_returns
  exact ⟨rfl, rfl⟩
theorem cat_two_73 : (⟨#[55]⟩ : ByteArray) ++ ⟨#[51]⟩ = ⟨#[55, 51]⟩ := by decide +kernel
set_option maxRecDepth 100000 in
theorem two_73 (w : World) : Calls Tryz.prog 155 #[.int .i64 73] w fun e w' => e = .returned (.string ⟨#[55, 51]⟩) ∧ w' = w := by
  go_enter Tryz.func155, Tryz.ntmps155
  have hc := cat_two_73
  go_wp2_with (first
    | (go_at_call 70; first
        | (refine (dig_7 _).mono ?_; rintro e w' ⟨rfl, rfl⟩)
        | (refine (dig_3 _).mono ?_; rintro e w' ⟨rfl, rfl⟩)))
  go_returns
  exact ⟨rfl, rfl⟩
theorem cat_two_74 : (⟨#[55]⟩ : ByteArray) ++ ⟨#[52]⟩ = ⟨#[55, 52]⟩ := by decide +kernel
set_option maxRecDepth 100000 in
theorem two_74 (w : World) : Calls Tryz.prog 155 #[.int .i64 74] w fun e w' => e = .returned (.string ⟨#[55, 52]⟩) ∧ w' = w := by
  go_enter Tryz.func155, Tryz.ntmps155
  have hc := cat_two_74
  go_wp2_with (first
    | (go_at_call 70; first
        | (refine (dig_7 _).mono ?_; rintro e w' ⟨rfl, rfl⟩)
        | (refine (dig_4 _).mono ?_; rintro e w' ⟨rfl, rfl⟩)))
  go_returns
  exact ⟨rfl, rfl⟩
theorem cat_two_75 : (⟨#[55]⟩ : ByteArray) ++ ⟨#[53]⟩ = ⟨#[55, 53]⟩ := by decide +kernel
set_option maxRecDepth 100000 in
theorem two_75 (w : World) : Calls Tryz.prog 155 #[.int .i64 75] w fun e w' => e = .returned (.string ⟨#[55, 53]⟩) ∧ w' = w := by
  go_enter Tryz.func155, Tryz.ntmps155
  have hc := cat_two_75
  go_wp2_with (first
    | (go_at_call 70; first
        | (refine (dig_7 _).mono ?_; rintro e w' ⟨rfl, rfl⟩)
        | (refine (dig_5 _).mono ?_; rintro e w' ⟨rfl, rfl⟩)))
  go_returns
  exact ⟨rfl, rfl⟩
theorem cat_two_1 : (⟨#[48]⟩ : ByteArray) ++ ⟨#[49]⟩ = ⟨#[48, 49]⟩ := by decide +kernel
set_option maxRecDepth 100000 in
theorem two_1 (w : World) : Calls Tryz.prog 155 #[.int .i64 1] w fun e w' => e = .returned (.string ⟨#[48, 49]⟩) ∧ w' = w := by
  go_enter Tryz.func155, Tryz.ntmps155
  have hc := cat_two_1
  go_wp2_with (first
    | (go_at_call 70; first
        | (refine (dig_0 _).mono ?_; rintro e w' ⟨rfl, rfl⟩)
        | (refine (dig_1 _).mono ?_; rintro e w' ⟨rfl, rfl⟩)))
  go_returns
  exact ⟨rfl, rfl⟩
theorem cat_two_7 : (⟨#[48]⟩ : ByteArray) ++ ⟨#[55]⟩ = ⟨#[48, 55]⟩ := by decide +kernel
set_option maxRecDepth 100000 in
theorem two_7 (w : World) : Calls Tryz.prog 155 #[.int .i64 7] w fun e w' => e = .returned (.string ⟨#[48, 55]⟩) ∧ w' = w := by
  go_enter Tryz.func155, Tryz.ntmps155
  have hc := cat_two_7
  go_wp2_with (first
    | (go_at_call 70; first
        | (refine (dig_0 _).mono ?_; rintro e w' ⟨rfl, rfl⟩)
        | (refine (dig_7 _).mono ?_; rintro e w' ⟨rfl, rfl⟩)))
  go_returns
  exact ⟨rfl, rfl⟩
theorem cat_1972_1_1 : (⟨#[]⟩ : ByteArray) ++ ⟨#[49, 57]⟩ ++ ⟨#[55, 50]⟩ ++ ⟨#[45]⟩ ++ ⟨#[48, 49]⟩ ++ ⟨#[45]⟩ ++ ⟨#[48, 49]⟩ = ⟨#[49, 57, 55, 50, 45, 48, 49, 45, 48, 49]⟩ := by decide +kernel
theorem good_1972_1_1 : PDays.civil_good.f 20 1972 1 1 = some true := by decide +kernel
set_option maxRecDepth 100000 in
set_option maxHeartbeats 1600000 in
theorem text_1972_1_1 (w : World) : Calls Tryz.prog 102 #[.agg #[.int .i64 1972, .int .i64 1, .int .i64 1]] w fun e w' => e = .returned (.string ⟨#[49, 57, 55, 50, 45, 48, 49, 45, 48, 49]⟩) ∧ Below w.heap.size w w' := by
  go_enter Tryz.func102, Tryz.ntmps102
  go_wp2_with (first
    | ((with_reducible refine gate_dst (N := 1) rfl ?_); refine ev_ptr (N := 1) (C := #[.int .i64 1972, .int .i64 1, .int .i64 1]) rfl rfl (by first | (go_simp; done) | (go_simp; rfl)) ?_; intro g1 w1 h1 b1 f1; have c0 : w1.cell? ⟨g1, 0, none⟩ = some (.int .i64 1972) := Bk.cell b1.out rfl; have c1 : w1.cell? ⟨g1, 1, none⟩ = some (.int .i64 1) := Bk.cell b1.out rfl; have c2 : w1.cell? ⟨g1, 2, none⟩ = some (.int .i64 1) := Bk.cell b1.out rfl)
    | (go_at_call 103; refine (PDays.civil_good.calls 20 _ _ _ _ _ good_1972_1_1).mono ?_; rintro e w2 ⟨rfl, f2⟩; replace f2 := Aside0.mk f2; have b2 := Aside0.mk (b1.out.belowS f2.out); clear c0 c1 c2; have c0 : w2.cell? ⟨g1, 0, none⟩ = some (.int .i64 1972) := Bk.cell b2.out rfl; have c1 : w2.cell? ⟨g1, 1, none⟩ = some (.int .i64 1) := Bk.cell b2.out rfl; have c2 : w2.cell? ⟨g1, 2, none⟩ = some (.int .i64 1) := Bk.cell b2.out rfl))
  go_quiet ((go_at_call 155; first
      | (with_reducible exact Calls.quiet_of_same (two_19 _))
      | (with_reducible exact Calls.quiet_of_same (two_72 _))
      | (with_reducible exact Calls.quiet_of_same (two_1 _))
      | (with_reducible exact Calls.quiet_of_same (two_1 _))))
  go_wp2_with fail
  go_returns
  exact ⟨by rw [← cat_1972_1_1]; rfl, ((Fr.of_below (T := fun _ => False) f1.out).trans (Fr.of_below f2.out)).drewN _ |>.belowS⟩
theorem cat_1972_7_1 : (⟨#[]⟩ : ByteArray) ++ ⟨#[49, 57]⟩ ++ ⟨#[55, 50]⟩ ++ ⟨#[45]⟩ ++ ⟨#[48, 55]⟩ ++ ⟨#[45]⟩ ++ ⟨#[48, 49]⟩ = ⟨#[49, 57, 55, 50, 45, 48, 55, 45, 48, 49]⟩ := by decide +kernel
theorem good_1972_7_1 : PDays.civil_good.f 20 1972 7 1 = some true := by decide +kernel
set_option maxRecDepth 100000 in
set_option maxHeartbeats 1600000 in
theorem text_1972_7_1 (w : World) : Calls Tryz.prog 102 #[.agg #[.int .i64 1972, .int .i64 7, .int .i64 1]] w fun e w' => e = .returned (.string ⟨#[49, 57, 55, 50, 45, 48, 55, 45, 48, 49]⟩) ∧ Below w.heap.size w w' := by
  go_enter Tryz.func102, Tryz.ntmps102
  go_wp2_with (first
    | ((with_reducible refine gate_dst (N := 1) rfl ?_); refine ev_ptr (N := 1) (C := #[.int .i64 1972, .int .i64 7, .int .i64 1]) rfl rfl (by first | (go_simp; done) | (go_simp; rfl)) ?_; intro g1 w1 h1 b1 f1; have c0 : w1.cell? ⟨g1, 0, none⟩ = some (.int .i64 1972) := Bk.cell b1.out rfl; have c1 : w1.cell? ⟨g1, 1, none⟩ = some (.int .i64 7) := Bk.cell b1.out rfl; have c2 : w1.cell? ⟨g1, 2, none⟩ = some (.int .i64 1) := Bk.cell b1.out rfl)
    | (go_at_call 103; refine (PDays.civil_good.calls 20 _ _ _ _ _ good_1972_7_1).mono ?_; rintro e w2 ⟨rfl, f2⟩; replace f2 := Aside0.mk f2; have b2 := Aside0.mk (b1.out.belowS f2.out); clear c0 c1 c2; have c0 : w2.cell? ⟨g1, 0, none⟩ = some (.int .i64 1972) := Bk.cell b2.out rfl; have c1 : w2.cell? ⟨g1, 1, none⟩ = some (.int .i64 7) := Bk.cell b2.out rfl; have c2 : w2.cell? ⟨g1, 2, none⟩ = some (.int .i64 1) := Bk.cell b2.out rfl))
  go_quiet ((go_at_call 155; first
      | (with_reducible exact Calls.quiet_of_same (two_19 _))
      | (with_reducible exact Calls.quiet_of_same (two_72 _))
      | (with_reducible exact Calls.quiet_of_same (two_7 _))
      | (with_reducible exact Calls.quiet_of_same (two_1 _))))
  go_wp2_with fail
  go_returns
  exact ⟨by rw [← cat_1972_7_1]; rfl, ((Fr.of_below (T := fun _ => False) f1.out).trans (Fr.of_below f2.out)).drewN _ |>.belowS⟩
theorem cat_1973_1_1 : (⟨#[]⟩ : ByteArray) ++ ⟨#[49, 57]⟩ ++ ⟨#[55, 51]⟩ ++ ⟨#[45]⟩ ++ ⟨#[48, 49]⟩ ++ ⟨#[45]⟩ ++ ⟨#[48, 49]⟩ = ⟨#[49, 57, 55, 51, 45, 48, 49, 45, 48, 49]⟩ := by decide +kernel
theorem good_1973_1_1 : PDays.civil_good.f 20 1973 1 1 = some true := by decide +kernel
set_option maxRecDepth 100000 in
set_option maxHeartbeats 1600000 in
theorem text_1973_1_1 (w : World) : Calls Tryz.prog 102 #[.agg #[.int .i64 1973, .int .i64 1, .int .i64 1]] w fun e w' => e = .returned (.string ⟨#[49, 57, 55, 51, 45, 48, 49, 45, 48, 49]⟩) ∧ Below w.heap.size w w' := by
  go_enter Tryz.func102, Tryz.ntmps102
  go_wp2_with (first
    | ((with_reducible refine gate_dst (N := 1) rfl ?_); refine ev_ptr (N := 1) (C := #[.int .i64 1973, .int .i64 1, .int .i64 1]) rfl rfl (by first | (go_simp; done) | (go_simp; rfl)) ?_; intro g1 w1 h1 b1 f1; have c0 : w1.cell? ⟨g1, 0, none⟩ = some (.int .i64 1973) := Bk.cell b1.out rfl; have c1 : w1.cell? ⟨g1, 1, none⟩ = some (.int .i64 1) := Bk.cell b1.out rfl; have c2 : w1.cell? ⟨g1, 2, none⟩ = some (.int .i64 1) := Bk.cell b1.out rfl)
    | (go_at_call 103; refine (PDays.civil_good.calls 20 _ _ _ _ _ good_1973_1_1).mono ?_; rintro e w2 ⟨rfl, f2⟩; replace f2 := Aside0.mk f2; have b2 := Aside0.mk (b1.out.belowS f2.out); clear c0 c1 c2; have c0 : w2.cell? ⟨g1, 0, none⟩ = some (.int .i64 1973) := Bk.cell b2.out rfl; have c1 : w2.cell? ⟨g1, 1, none⟩ = some (.int .i64 1) := Bk.cell b2.out rfl; have c2 : w2.cell? ⟨g1, 2, none⟩ = some (.int .i64 1) := Bk.cell b2.out rfl))
  go_quiet ((go_at_call 155; first
      | (with_reducible exact Calls.quiet_of_same (two_19 _))
      | (with_reducible exact Calls.quiet_of_same (two_73 _))
      | (with_reducible exact Calls.quiet_of_same (two_1 _))
      | (with_reducible exact Calls.quiet_of_same (two_1 _))))
  go_wp2_with fail
  go_returns
  exact ⟨by rw [← cat_1973_1_1]; rfl, ((Fr.of_below (T := fun _ => False) f1.out).trans (Fr.of_below f2.out)).drewN _ |>.belowS⟩
theorem cat_1974_1_1 : (⟨#[]⟩ : ByteArray) ++ ⟨#[49, 57]⟩ ++ ⟨#[55, 52]⟩ ++ ⟨#[45]⟩ ++ ⟨#[48, 49]⟩ ++ ⟨#[45]⟩ ++ ⟨#[48, 49]⟩ = ⟨#[49, 57, 55, 52, 45, 48, 49, 45, 48, 49]⟩ := by decide +kernel
theorem good_1974_1_1 : PDays.civil_good.f 20 1974 1 1 = some true := by decide +kernel
set_option maxRecDepth 100000 in
set_option maxHeartbeats 1600000 in
theorem text_1974_1_1 (w : World) : Calls Tryz.prog 102 #[.agg #[.int .i64 1974, .int .i64 1, .int .i64 1]] w fun e w' => e = .returned (.string ⟨#[49, 57, 55, 52, 45, 48, 49, 45, 48, 49]⟩) ∧ Below w.heap.size w w' := by
  go_enter Tryz.func102, Tryz.ntmps102
  go_wp2_with (first
    | ((with_reducible refine gate_dst (N := 1) rfl ?_); refine ev_ptr (N := 1) (C := #[.int .i64 1974, .int .i64 1, .int .i64 1]) rfl rfl (by first | (go_simp; done) | (go_simp; rfl)) ?_; intro g1 w1 h1 b1 f1; have c0 : w1.cell? ⟨g1, 0, none⟩ = some (.int .i64 1974) := Bk.cell b1.out rfl; have c1 : w1.cell? ⟨g1, 1, none⟩ = some (.int .i64 1) := Bk.cell b1.out rfl; have c2 : w1.cell? ⟨g1, 2, none⟩ = some (.int .i64 1) := Bk.cell b1.out rfl)
    | (go_at_call 103; refine (PDays.civil_good.calls 20 _ _ _ _ _ good_1974_1_1).mono ?_; rintro e w2 ⟨rfl, f2⟩; replace f2 := Aside0.mk f2; have b2 := Aside0.mk (b1.out.belowS f2.out); clear c0 c1 c2; have c0 : w2.cell? ⟨g1, 0, none⟩ = some (.int .i64 1974) := Bk.cell b2.out rfl; have c1 : w2.cell? ⟨g1, 1, none⟩ = some (.int .i64 1) := Bk.cell b2.out rfl; have c2 : w2.cell? ⟨g1, 2, none⟩ = some (.int .i64 1) := Bk.cell b2.out rfl))
  go_quiet ((go_at_call 155; first
      | (with_reducible exact Calls.quiet_of_same (two_19 _))
      | (with_reducible exact Calls.quiet_of_same (two_74 _))
      | (with_reducible exact Calls.quiet_of_same (two_1 _))
      | (with_reducible exact Calls.quiet_of_same (two_1 _))))
  go_wp2_with fail
  go_returns
  exact ⟨by rw [← cat_1974_1_1]; rfl, ((Fr.of_below (T := fun _ => False) f1.out).trans (Fr.of_below f2.out)).drewN _ |>.belowS⟩
theorem cat_1975_1_1 : (⟨#[]⟩ : ByteArray) ++ ⟨#[49, 57]⟩ ++ ⟨#[55, 53]⟩ ++ ⟨#[45]⟩ ++ ⟨#[48, 49]⟩ ++ ⟨#[45]⟩ ++ ⟨#[48, 49]⟩ = ⟨#[49, 57, 55, 53, 45, 48, 49, 45, 48, 49]⟩ := by decide +kernel
theorem good_1975_1_1 : PDays.civil_good.f 20 1975 1 1 = some true := by decide +kernel
set_option maxRecDepth 100000 in
set_option maxHeartbeats 1600000 in
theorem text_1975_1_1 (w : World) : Calls Tryz.prog 102 #[.agg #[.int .i64 1975, .int .i64 1, .int .i64 1]] w fun e w' => e = .returned (.string ⟨#[49, 57, 55, 53, 45, 48, 49, 45, 48, 49]⟩) ∧ Below w.heap.size w w' := by
  go_enter Tryz.func102, Tryz.ntmps102
  go_wp2_with (first
    | ((with_reducible refine gate_dst (N := 1) rfl ?_); refine ev_ptr (N := 1) (C := #[.int .i64 1975, .int .i64 1, .int .i64 1]) rfl rfl (by first | (go_simp; done) | (go_simp; rfl)) ?_; intro g1 w1 h1 b1 f1; have c0 : w1.cell? ⟨g1, 0, none⟩ = some (.int .i64 1975) := Bk.cell b1.out rfl; have c1 : w1.cell? ⟨g1, 1, none⟩ = some (.int .i64 1) := Bk.cell b1.out rfl; have c2 : w1.cell? ⟨g1, 2, none⟩ = some (.int .i64 1) := Bk.cell b1.out rfl)
    | (go_at_call 103; refine (PDays.civil_good.calls 20 _ _ _ _ _ good_1975_1_1).mono ?_; rintro e w2 ⟨rfl, f2⟩; replace f2 := Aside0.mk f2; have b2 := Aside0.mk (b1.out.belowS f2.out); clear c0 c1 c2; have c0 : w2.cell? ⟨g1, 0, none⟩ = some (.int .i64 1975) := Bk.cell b2.out rfl; have c1 : w2.cell? ⟨g1, 1, none⟩ = some (.int .i64 1) := Bk.cell b2.out rfl; have c2 : w2.cell? ⟨g1, 2, none⟩ = some (.int .i64 1) := Bk.cell b2.out rfl))
  go_quiet ((go_at_call 155; first
      | (with_reducible exact Calls.quiet_of_same (two_19 _))
      | (with_reducible exact Calls.quiet_of_same (two_75 _))
      | (with_reducible exact Calls.quiet_of_same (two_1 _))
      | (with_reducible exact Calls.quiet_of_same (two_1 _))))
  go_wp2_with fail
  go_returns
  exact ⟨by rw [← cat_1975_1_1]; rfl, ((Fr.of_below (T := fun _ => False) f1.out).trans (Fr.of_below f2.out)).drewN _ |>.belowS⟩
end Go.Proofs.YtmdjbogdfipcmaaGreatDoor.Hand
