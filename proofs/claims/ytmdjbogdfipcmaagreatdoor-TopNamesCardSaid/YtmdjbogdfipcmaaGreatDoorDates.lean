/- civil.Parse at the five days of the script's table; leap.number, leap.read at its five rows. -/
import Derived.Test.YtmdjbogdfipcmaaGreatDoorCivil
import Derived.Test.YtmdjbogdfipcmaaGreatDoorPfollowsx1
import Derived.Shelf.Strings.SlTrimAscii
namespace Go.Proofs.YtmdjbogdfipcmaaGreatDoor.Hand
set_option linter.unusedSimpArgs false
set_option linter.unusedVariables false
open Go.RowKit Go.Proofs.YtmdjbogdfipcmaaGreatDoorW.PrintWords Go.Proofs.YtmdjbogdfipcmaaGreatDoorW.PrintLast Go.Proofs.YtmdjbogdfipcmaaGreatDoorW.PrintMore
attribute [local go_sem ↓] Go.wp_at_zero Go.wp_at_succ

theorem info110 : (Tryz.prog.info? 110).map (·.size) = some 3 := by kernel_rfl
theorem info122 : (Tryz.prog.info? 122).map (·.size) = some 2 := by kernel_rfl
set_option maxRecDepth 100000 in
set_option maxHeartbeats 1600000 in
theorem parse_1972_1_1 (w : World) : Calls Tryz.prog 58 #[.string ⟨#[49, 57, 55, 50, 45, 48, 49, 45, 48, 49]⟩] w fun e w' => e = .returned (.tuple #[.agg #[.int .i64 1972, .int .i64 1, .int .i64 1], .int .i64 0]) ∧ Below w.heap.size w w' := by
  have n1 : Aside0 (Pnumber.civil_number.f 20 ⟨#[49, 57, 55, 50]⟩ = some (1972, true)) := ⟨by decide +kernel⟩
  have n2 : Aside0 (Pnumber.civil_number.f 20 ⟨#[48, 49]⟩ = some (1, true)) := ⟨by decide +kernel⟩
  have n3 : Aside0 (Pnumber.civil_number.f 20 ⟨#[48, 49]⟩ = some (1, true)) := ⟨by decide +kernel⟩
  go_enter Tryz.func58, Tryz.ntmps58
  go_wp2_with (first
    | ((with_reducible refine gate_dst (N := 2) rfl ?_); refine ev_ptr (N := 2) (C := #[.int .i64 0, .int .i64 0, .int .i64 0]) rfl rfl (by first | (go_simp; done) | (go_simp; rfl)) ?_; intro g2 w2 h2 b2 f2)
    | (go_at_call 101; first
        | (refine (Pnumber.civil_number.calls 20 _ _ _ _ n1.out).mono ?_; clear n1; rintro e w3 ⟨rfl, d3, rfl⟩)
        | (refine (Pnumber.civil_number.calls 20 _ _ _ _ n2.out).mono ?_; clear n2; rintro e w3 ⟨rfl, d4, rfl⟩)
        | (refine (Pnumber.civil_number.calls 20 _ _ _ _ n3.out).mono ?_; clear n3; rintro e w3 ⟨rfl, d5, rfl⟩))
    | ((with_reducible refine gate_dst (N := 11) rfl ?_); refine ev_ptr (N := 11) (C := #[.int .i64 0, .int .i64 0, .int .i64 0]) rfl rfl (by first | (go_simp; done) | (go_simp; rfl)) ?_; intro g11 w6 h11 b11 f6)
    | ((with_reducible refine gate_store (t := 110) (p := 11) (v := .tmp 50) rfl ?_); refine ev_store rfl (ty := 110) (x := .tmp 11) (y := .tmp 50) (cells := #[.int .i64 1972, .int .i64 1, .int .i64 1]) rfl rfl rfl b11.out info110 (by kernel_rfl) (by decide) #[.int .i64 1972, .int .i64 1, .int .i64 1] rfl ?_; intro w7 b7 f7)
    | ((with_reducible refine gate_dst (N := 62) rfl ?_); refine ev_loadg (N := 62) rfl (by rfl) rfl rfl b7.out Tryz.underlying110 rfl info110 [.int .i64 1972, .int .i64 1, .int .i64 1] rfl rfl ?_)
    | (go_at_call 102; refine (text_1972_1_1 _).mono ?_; rintro e w8 ⟨rfl, f8⟩; replace f8 := Aside0.mk f8; have b8 := Aside0.mk (b7.out.belowS f8.out))
    | ((with_reducible refine gate_dst (N := 68) rfl ?_); refine ev_load (N := 68) rfl rfl rfl rfl b8.out Tryz.underlying110 rfl info110 [.int .i64 1972, .int .i64 1, .int .i64 1] rfl rfl ?_)
    | ((with_reducible refine gate_store (t := 110) (p := 2) (v := .tmp 68) rfl ?_); refine ev_store rfl (ty := 110) (x := .tmp 2) (y := .tmp 68) (cells := #[.int .i64 1972, .int .i64 1, .int .i64 1]) rfl rfl rfl (show Bk _ g2 #[.int .i64 0, .int .i64 0, .int .i64 0] 110 from (((b2.out.drewN _).belowS f6.out).fr f7.out (by have := b2.out.lt; have := h11.out; simp at this; omega)).belowS f8.out) info110 (by kernel_rfl) (by decide) #[.int .i64 1972, .int .i64 1, .int .i64 1] rfl ?_; intro w9 b9 f9))
  refine ret_cell_tmp (Tryz.results58) rfl b9.out Tryz.underlying110 rfl info110 rfl rfl ⟨rfl, ?_⟩
  have q2 := f2.out.size
  have q3 := h2.out
  have q4 := h11.out
  simp at q4
  exact (Fr.trans (Fr.of_below f2.out) (Fr.trans (T := fun k => k = g2 ∨ k = g11) (Fr.drewN (Fr.refl _ w2) _) ((Fr.of_below f6.out).trans ((f7.out.weaken (fun _ _ h => .inr h)).trans ((Fr.of_below f8.out).trans (f9.out.weaken (fun _ _ h => .inl h))))))).below (by omega) (Nat.le_refl _)
set_option maxRecDepth 100000 in
set_option maxHeartbeats 1600000 in
theorem parse_1972_7_1 (w : World) : Calls Tryz.prog 58 #[.string ⟨#[49, 57, 55, 50, 45, 48, 55, 45, 48, 49]⟩] w fun e w' => e = .returned (.tuple #[.agg #[.int .i64 1972, .int .i64 7, .int .i64 1], .int .i64 0]) ∧ Below w.heap.size w w' := by
  have n1 : Aside0 (Pnumber.civil_number.f 20 ⟨#[49, 57, 55, 50]⟩ = some (1972, true)) := ⟨by decide +kernel⟩
  have n2 : Aside0 (Pnumber.civil_number.f 20 ⟨#[48, 55]⟩ = some (7, true)) := ⟨by decide +kernel⟩
  have n3 : Aside0 (Pnumber.civil_number.f 20 ⟨#[48, 49]⟩ = some (1, true)) := ⟨by decide +kernel⟩
  go_enter Tryz.func58, Tryz.ntmps58
  go_wp2_with (first
    | ((with_reducible refine gate_dst (N := 2) rfl ?_); refine ev_ptr (N := 2) (C := #[.int .i64 0, .int .i64 0, .int .i64 0]) rfl rfl (by first | (go_simp; done) | (go_simp; rfl)) ?_; intro g2 w2 h2 b2 f2)
    | (go_at_call 101; first
        | (refine (Pnumber.civil_number.calls 20 _ _ _ _ n1.out).mono ?_; clear n1; rintro e w3 ⟨rfl, d3, rfl⟩)
        | (refine (Pnumber.civil_number.calls 20 _ _ _ _ n2.out).mono ?_; clear n2; rintro e w3 ⟨rfl, d4, rfl⟩)
        | (refine (Pnumber.civil_number.calls 20 _ _ _ _ n3.out).mono ?_; clear n3; rintro e w3 ⟨rfl, d5, rfl⟩))
    | ((with_reducible refine gate_dst (N := 11) rfl ?_); refine ev_ptr (N := 11) (C := #[.int .i64 0, .int .i64 0, .int .i64 0]) rfl rfl (by first | (go_simp; done) | (go_simp; rfl)) ?_; intro g11 w6 h11 b11 f6)
    | ((with_reducible refine gate_store (t := 110) (p := 11) (v := .tmp 50) rfl ?_); refine ev_store rfl (ty := 110) (x := .tmp 11) (y := .tmp 50) (cells := #[.int .i64 1972, .int .i64 7, .int .i64 1]) rfl rfl rfl b11.out info110 (by kernel_rfl) (by decide) #[.int .i64 1972, .int .i64 7, .int .i64 1] rfl ?_; intro w7 b7 f7)
    | ((with_reducible refine gate_dst (N := 62) rfl ?_); refine ev_loadg (N := 62) rfl (by rfl) rfl rfl b7.out Tryz.underlying110 rfl info110 [.int .i64 1972, .int .i64 7, .int .i64 1] rfl rfl ?_)
    | (go_at_call 102; refine (text_1972_7_1 _).mono ?_; rintro e w8 ⟨rfl, f8⟩; replace f8 := Aside0.mk f8; have b8 := Aside0.mk (b7.out.belowS f8.out))
    | ((with_reducible refine gate_dst (N := 68) rfl ?_); refine ev_load (N := 68) rfl rfl rfl rfl b8.out Tryz.underlying110 rfl info110 [.int .i64 1972, .int .i64 7, .int .i64 1] rfl rfl ?_)
    | ((with_reducible refine gate_store (t := 110) (p := 2) (v := .tmp 68) rfl ?_); refine ev_store rfl (ty := 110) (x := .tmp 2) (y := .tmp 68) (cells := #[.int .i64 1972, .int .i64 7, .int .i64 1]) rfl rfl rfl (show Bk _ g2 #[.int .i64 0, .int .i64 0, .int .i64 0] 110 from (((b2.out.drewN _).belowS f6.out).fr f7.out (by have := b2.out.lt; have := h11.out; simp at this; omega)).belowS f8.out) info110 (by kernel_rfl) (by decide) #[.int .i64 1972, .int .i64 7, .int .i64 1] rfl ?_; intro w9 b9 f9))
  refine ret_cell_tmp (Tryz.results58) rfl b9.out Tryz.underlying110 rfl info110 rfl rfl ⟨rfl, ?_⟩
  have q2 := f2.out.size
  have q3 := h2.out
  have q4 := h11.out
  simp at q4
  exact (Fr.trans (Fr.of_below f2.out) (Fr.trans (T := fun k => k = g2 ∨ k = g11) (Fr.drewN (Fr.refl _ w2) _) ((Fr.of_below f6.out).trans ((f7.out.weaken (fun _ _ h => .inr h)).trans ((Fr.of_below f8.out).trans (f9.out.weaken (fun _ _ h => .inl h))))))).below (by omega) (Nat.le_refl _)
set_option maxRecDepth 100000 in
set_option maxHeartbeats 1600000 in
theorem parse_1973_1_1 (w : World) : Calls Tryz.prog 58 #[.string ⟨#[49, 57, 55, 51, 45, 48, 49, 45, 48, 49]⟩] w fun e w' => e = .returned (.tuple #[.agg #[.int .i64 1973, .int .i64 1, .int .i64 1], .int .i64 0]) ∧ Below w.heap.size w w' := by
  have n1 : Aside0 (Pnumber.civil_number.f 20 ⟨#[49, 57, 55, 51]⟩ = some (1973, true)) := ⟨by decide +kernel⟩
  have n2 : Aside0 (Pnumber.civil_number.f 20 ⟨#[48, 49]⟩ = some (1, true)) := ⟨by decide +kernel⟩
  have n3 : Aside0 (Pnumber.civil_number.f 20 ⟨#[48, 49]⟩ = some (1, true)) := ⟨by decide +kernel⟩
  go_enter Tryz.func58, Tryz.ntmps58
  go_wp2_with (first
    | ((with_reducible refine gate_dst (N := 2) rfl ?_); refine ev_ptr (N := 2) (C := #[.int .i64 0, .int .i64 0, .int .i64 0]) rfl rfl (by first | (go_simp; done) | (go_simp; rfl)) ?_; intro g2 w2 h2 b2 f2)
    | (go_at_call 101; first
        | (refine (Pnumber.civil_number.calls 20 _ _ _ _ n1.out).mono ?_; clear n1; rintro e w3 ⟨rfl, d3, rfl⟩)
        | (refine (Pnumber.civil_number.calls 20 _ _ _ _ n2.out).mono ?_; clear n2; rintro e w3 ⟨rfl, d4, rfl⟩)
        | (refine (Pnumber.civil_number.calls 20 _ _ _ _ n3.out).mono ?_; clear n3; rintro e w3 ⟨rfl, d5, rfl⟩))
    | ((with_reducible refine gate_dst (N := 11) rfl ?_); refine ev_ptr (N := 11) (C := #[.int .i64 0, .int .i64 0, .int .i64 0]) rfl rfl (by first | (go_simp; done) | (go_simp; rfl)) ?_; intro g11 w6 h11 b11 f6)
    | ((with_reducible refine gate_store (t := 110) (p := 11) (v := .tmp 50) rfl ?_); refine ev_store rfl (ty := 110) (x := .tmp 11) (y := .tmp 50) (cells := #[.int .i64 1973, .int .i64 1, .int .i64 1]) rfl rfl rfl b11.out info110 (by kernel_rfl) (by decide) #[.int .i64 1973, .int .i64 1, .int .i64 1] rfl ?_; intro w7 b7 f7)
    | ((with_reducible refine gate_dst (N := 62) rfl ?_); refine ev_loadg (N := 62) rfl (by rfl) rfl rfl b7.out Tryz.underlying110 rfl info110 [.int .i64 1973, .int .i64 1, .int .i64 1] rfl rfl ?_)
    | (go_at_call 102; refine (text_1973_1_1 _).mono ?_; rintro e w8 ⟨rfl, f8⟩; replace f8 := Aside0.mk f8; have b8 := Aside0.mk (b7.out.belowS f8.out))
    | ((with_reducible refine gate_dst (N := 68) rfl ?_); refine ev_load (N := 68) rfl rfl rfl rfl b8.out Tryz.underlying110 rfl info110 [.int .i64 1973, .int .i64 1, .int .i64 1] rfl rfl ?_)
    | ((with_reducible refine gate_store (t := 110) (p := 2) (v := .tmp 68) rfl ?_); refine ev_store rfl (ty := 110) (x := .tmp 2) (y := .tmp 68) (cells := #[.int .i64 1973, .int .i64 1, .int .i64 1]) rfl rfl rfl (show Bk _ g2 #[.int .i64 0, .int .i64 0, .int .i64 0] 110 from (((b2.out.drewN _).belowS f6.out).fr f7.out (by have := b2.out.lt; have := h11.out; simp at this; omega)).belowS f8.out) info110 (by kernel_rfl) (by decide) #[.int .i64 1973, .int .i64 1, .int .i64 1] rfl ?_; intro w9 b9 f9))
  refine ret_cell_tmp (Tryz.results58) rfl b9.out Tryz.underlying110 rfl info110 rfl rfl ⟨rfl, ?_⟩
  have q2 := f2.out.size
  have q3 := h2.out
  have q4 := h11.out
  simp at q4
  exact (Fr.trans (Fr.of_below f2.out) (Fr.trans (T := fun k => k = g2 ∨ k = g11) (Fr.drewN (Fr.refl _ w2) _) ((Fr.of_below f6.out).trans ((f7.out.weaken (fun _ _ h => .inr h)).trans ((Fr.of_below f8.out).trans (f9.out.weaken (fun _ _ h => .inl h))))))).below (by omega) (Nat.le_refl _)
set_option maxRecDepth 100000 in
set_option maxHeartbeats 1600000 in
theorem parse_1974_1_1 (w : World) : Calls Tryz.prog 58 #[.string ⟨#[49, 57, 55, 52, 45, 48, 49, 45, 48, 49]⟩] w fun e w' => e = .returned (.tuple #[.agg #[.int .i64 1974, .int .i64 1, .int .i64 1], .int .i64 0]) ∧ Below w.heap.size w w' := by
  have n1 : Aside0 (Pnumber.civil_number.f 20 ⟨#[49, 57, 55, 52]⟩ = some (1974, true)) := ⟨by decide +kernel⟩
  have n2 : Aside0 (Pnumber.civil_number.f 20 ⟨#[48, 49]⟩ = some (1, true)) := ⟨by decide +kernel⟩
  have n3 : Aside0 (Pnumber.civil_number.f 20 ⟨#[48, 49]⟩ = some (1, true)) := ⟨by decide +kernel⟩
  go_enter Tryz.func58, Tryz.ntmps58
  go_wp2_with (first
    | ((with_reducible refine gate_dst (N := 2) rfl ?_); refine ev_ptr (N := 2) (C := #[.int .i64 0, .int .i64 0, .int .i64 0]) rfl rfl (by first | (go_simp; done) | (go_simp; rfl)) ?_; intro g2 w2 h2 b2 f2)
    | (go_at_call 101; first
        | (refine (Pnumber.civil_number.calls 20 _ _ _ _ n1.out).mono ?_; clear n1; rintro e w3 ⟨rfl, d3, rfl⟩)
        | (refine (Pnumber.civil_number.calls 20 _ _ _ _ n2.out).mono ?_; clear n2; rintro e w3 ⟨rfl, d4, rfl⟩)
        | (refine (Pnumber.civil_number.calls 20 _ _ _ _ n3.out).mono ?_; clear n3; rintro e w3 ⟨rfl, d5, rfl⟩))
    | ((with_reducible refine gate_dst (N := 11) rfl ?_); refine ev_ptr (N := 11) (C := #[.int .i64 0, .int .i64 0, .int .i64 0]) rfl rfl (by first | (go_simp; done) | (go_simp; rfl)) ?_; intro g11 w6 h11 b11 f6)
    | ((with_reducible refine gate_store (t := 110) (p := 11) (v := .tmp 50) rfl ?_); refine ev_store rfl (ty := 110) (x := .tmp 11) (y := .tmp 50) (cells := #[.int .i64 1974, .int .i64 1, .int .i64 1]) rfl rfl rfl b11.out info110 (by kernel_rfl) (by decide) #[.int .i64 1974, .int .i64 1, .int .i64 1] rfl ?_; intro w7 b7 f7)
    | ((with_reducible refine gate_dst (N := 62) rfl ?_); refine ev_loadg (N := 62) rfl (by rfl) rfl rfl b7.out Tryz.underlying110 rfl info110 [.int .i64 1974, .int .i64 1, .int .i64 1] rfl rfl ?_)
    | (go_at_call 102; refine (text_1974_1_1 _).mono ?_; rintro e w8 ⟨rfl, f8⟩; replace f8 := Aside0.mk f8; have b8 := Aside0.mk (b7.out.belowS f8.out))
    | ((with_reducible refine gate_dst (N := 68) rfl ?_); refine ev_load (N := 68) rfl rfl rfl rfl b8.out Tryz.underlying110 rfl info110 [.int .i64 1974, .int .i64 1, .int .i64 1] rfl rfl ?_)
    | ((with_reducible refine gate_store (t := 110) (p := 2) (v := .tmp 68) rfl ?_); refine ev_store rfl (ty := 110) (x := .tmp 2) (y := .tmp 68) (cells := #[.int .i64 1974, .int .i64 1, .int .i64 1]) rfl rfl rfl (show Bk _ g2 #[.int .i64 0, .int .i64 0, .int .i64 0] 110 from (((b2.out.drewN _).belowS f6.out).fr f7.out (by have := b2.out.lt; have := h11.out; simp at this; omega)).belowS f8.out) info110 (by kernel_rfl) (by decide) #[.int .i64 1974, .int .i64 1, .int .i64 1] rfl ?_; intro w9 b9 f9))
  refine ret_cell_tmp (Tryz.results58) rfl b9.out Tryz.underlying110 rfl info110 rfl rfl ⟨rfl, ?_⟩
  have q2 := f2.out.size
  have q3 := h2.out
  have q4 := h11.out
  simp at q4
  exact (Fr.trans (Fr.of_below f2.out) (Fr.trans (T := fun k => k = g2 ∨ k = g11) (Fr.drewN (Fr.refl _ w2) _) ((Fr.of_below f6.out).trans ((f7.out.weaken (fun _ _ h => .inr h)).trans ((Fr.of_below f8.out).trans (f9.out.weaken (fun _ _ h => .inl h))))))).below (by omega) (Nat.le_refl _)
set_option maxRecDepth 100000 in
set_option maxHeartbeats 1600000 in
theorem parse_1975_1_1 (w : World) : Calls Tryz.prog 58 #[.string ⟨#[49, 57, 55, 53, 45, 48, 49, 45, 48, 49]⟩] w fun e w' => e = .returned (.tuple #[.agg #[.int .i64 1975, .int .i64 1, .int .i64 1], .int .i64 0]) ∧ Below w.heap.size w w' := by
  have n1 : Aside0 (Pnumber.civil_number.f 20 ⟨#[49, 57, 55, 53]⟩ = some (1975, true)) := ⟨by decide +kernel⟩
  have n2 : Aside0 (Pnumber.civil_number.f 20 ⟨#[48, 49]⟩ = some (1, true)) := ⟨by decide +kernel⟩
  have n3 : Aside0 (Pnumber.civil_number.f 20 ⟨#[48, 49]⟩ = some (1, true)) := ⟨by decide +kernel⟩
  go_enter Tryz.func58, Tryz.ntmps58
  go_wp2_with (first
    | ((with_reducible refine gate_dst (N := 2) rfl ?_); refine ev_ptr (N := 2) (C := #[.int .i64 0, .int .i64 0, .int .i64 0]) rfl rfl (by first | (go_simp; done) | (go_simp; rfl)) ?_; intro g2 w2 h2 b2 f2)
    | (go_at_call 101; first
        | (refine (Pnumber.civil_number.calls 20 _ _ _ _ n1.out).mono ?_; clear n1; rintro e w3 ⟨rfl, d3, rfl⟩)
        | (refine (Pnumber.civil_number.calls 20 _ _ _ _ n2.out).mono ?_; clear n2; rintro e w3 ⟨rfl, d4, rfl⟩)
        | (refine (Pnumber.civil_number.calls 20 _ _ _ _ n3.out).mono ?_; clear n3; rintro e w3 ⟨rfl, d5, rfl⟩))
    | ((with_reducible refine gate_dst (N := 11) rfl ?_); refine ev_ptr (N := 11) (C := #[.int .i64 0, .int .i64 0, .int .i64 0]) rfl rfl (by first | (go_simp; done) | (go_simp; rfl)) ?_; intro g11 w6 h11 b11 f6)
    | ((with_reducible refine gate_store (t := 110) (p := 11) (v := .tmp 50) rfl ?_); refine ev_store rfl (ty := 110) (x := .tmp 11) (y := .tmp 50) (cells := #[.int .i64 1975, .int .i64 1, .int .i64 1]) rfl rfl rfl b11.out info110 (by kernel_rfl) (by decide) #[.int .i64 1975, .int .i64 1, .int .i64 1] rfl ?_; intro w7 b7 f7)
    | ((with_reducible refine gate_dst (N := 62) rfl ?_); refine ev_loadg (N := 62) rfl (by rfl) rfl rfl b7.out Tryz.underlying110 rfl info110 [.int .i64 1975, .int .i64 1, .int .i64 1] rfl rfl ?_)
    | (go_at_call 102; refine (text_1975_1_1 _).mono ?_; rintro e w8 ⟨rfl, f8⟩; replace f8 := Aside0.mk f8; have b8 := Aside0.mk (b7.out.belowS f8.out))
    | ((with_reducible refine gate_dst (N := 68) rfl ?_); refine ev_load (N := 68) rfl rfl rfl rfl b8.out Tryz.underlying110 rfl info110 [.int .i64 1975, .int .i64 1, .int .i64 1] rfl rfl ?_)
    | ((with_reducible refine gate_store (t := 110) (p := 2) (v := .tmp 68) rfl ?_); refine ev_store rfl (ty := 110) (x := .tmp 2) (y := .tmp 68) (cells := #[.int .i64 1975, .int .i64 1, .int .i64 1]) rfl rfl rfl (show Bk _ g2 #[.int .i64 0, .int .i64 0, .int .i64 0] 110 from (((b2.out.drewN _).belowS f6.out).fr f7.out (by have := b2.out.lt; have := h11.out; simp at this; omega)).belowS f8.out) info110 (by kernel_rfl) (by decide) #[.int .i64 1975, .int .i64 1, .int .i64 1] rfl ?_; intro w9 b9 f9))
  refine ret_cell_tmp (Tryz.results58) rfl b9.out Tryz.underlying110 rfl info110 rfl rfl ⟨rfl, ?_⟩
  have q2 := f2.out.size
  have q3 := h2.out
  have q4 := h11.out
  simp at q4
  exact (Fr.trans (Fr.of_below f2.out) (Fr.trans (T := fun k => k = g2 ∨ k = g11) (Fr.drewN (Fr.refl _ w2) _) ((Fr.of_below f6.out).trans ((f7.out.weaken (fun _ _ h => .inr h)).trans ((Fr.of_below f8.out).trans (f9.out.weaken (fun _ _ h => .inl h))))))).below (by omega) (Nat.le_refl _)
end Go.Proofs.YtmdjbogdfipcmaaGreatDoor.Hand
namespace Go.Proofs.YtmdjbogdfipcmaaGreatDoor.Hand
set_option linter.unusedSimpArgs false
set_option linter.unusedVariables false
open Go.RowKit Go.Proofs.YtmdjbogdfipcmaaGreatDoorW.PrintWords Go.Proofs.YtmdjbogdfipcmaaGreatDoorW.PrintLast Go.Proofs.YtmdjbogdfipcmaaGreatDoorW.PrintMore
attribute [local go_sem ↓] Go.wp_at_zero Go.wp_at_succ

theorem cell0 {w w' : World} {m : Int} (hm : w.cell? ⟨0, 0, none⟩ = some (.int .i64 m)) (f : Below w.heap.size w w') : w'.cell? ⟨0, 0, none⟩ = some (.int .i64 m) := by
  have h0 : 0 < w.heap.size := by
    rcases Nat.eq_zero_or_pos w.heap.size with h | h
    · have h1 : w.heap[0]? = none := Array.getElem?_eq_none (by omega)
      unfold World.cell? at hm
      rw [h1] at hm
      cases hm
    · exact h
  rw [f.cell (p := ⟨0, 0, none⟩) h0]
  exact hm
theorem trim_10 (w : World) : Calls Tryz.prog 38 #[.string ⟨#[49, 48]⟩, .string ⟨#[48, 49, 50, 51, 52, 53, 54, 55, 56, 57]⟩] w fun e w' => e = .returned (.string ⟨#[]⟩) ∧ Below w.heap.size w w' :=
  (Any.strings_Trim_laid Tryz.lays160 (by kernel_rfl) ⟨#[49, 48]⟩ ⟨#[48, 49, 50, 51, 52, 53, 54, 55, 56, 57]⟩ w (by decide) (by decide) (ascii_of_all (by decide +kernel))).mono fun e w' h => ⟨h.1.trans (congrArg (fun l : List UInt8 => Ending.returned (.string ⟨l.toArray⟩)) (by decide +kernel : Lib.trimS [49, 48] [48, 49, 50, 51, 52, 53, 54, 55, 56, 57] = [])), h.2⟩
theorem cutp_10 (w : World) : Calls Tryz.prog 161 #[.string ⟨#[49, 48]⟩, .string ⟨#[45]⟩] w fun e w' => e = .returned (.tuple #[.string ⟨#[49, 48]⟩, .bool false]) ∧ w' = w :=
  (Tryz.strings_CutPrefix ⟨#[49, 48]⟩ ⟨#[45]⟩ w).mono fun e w' h => ⟨h.1.trans (congrArg (fun p : List UInt8 × Bool => Ending.returned (.tuple #[.string ⟨p.1.toArray⟩, .bool p.2])) (by decide +kernel : (Lib.trimPrefix [49, 48] [45], Lib.hasPrefix [49, 48] [45]) = ([49, 48], false))), h.2⟩
theorem atoi_10 (w : World) : Calls Tryz.prog 162 #[.string ⟨#[49, 48]⟩] w fun e w' => e = .returned (.tuple #[.int .i64 10, .nilIface]) ∧ Below w.heap.size w w' :=
  (Tryz.strconv_Atoi ⟨#[49, 48]⟩ 10 (by decide) (by decide +kernel) w).mono fun e w' h => ⟨h.1, by
    obtain ⟨t, rfl⟩ := h.2
    exact Lib.bytesWorld_below _ _ _⟩
set_option maxRecDepth 100000 in
theorem lnum_10 (w : World) : Calls Tryz.prog 112 #[.string ⟨#[49, 48]⟩] w fun e w' => e = .returned (.tuple #[.int .i64 10, .bool true]) ∧ Below w.heap.size w w' := by
  go_enter Tryz.func112, Tryz.ntmps112
  go_wp2_with (first
    | (go_at_call 161; refine (cutp_10 _).mono ?_; rintro e w1 ⟨rfl, rfl⟩)
    | (go_at_call 38; refine (trim_10 _).mono ?_; rintro e w2 ⟨rfl, f2⟩; replace f2 := Aside0.mk f2)
    | (go_at_call 162; refine (atoi_10 _).mono ?_; rintro e w3 ⟨rfl, f3⟩; replace f3 := Aside0.mk f3))
  go_returns
  exact ⟨rfl, f2.out.trans (f3.out.mono f2.out.size)⟩
theorem trim_11 (w : World) : Calls Tryz.prog 38 #[.string ⟨#[49, 49]⟩, .string ⟨#[48, 49, 50, 51, 52, 53, 54, 55, 56, 57]⟩] w fun e w' => e = .returned (.string ⟨#[]⟩) ∧ Below w.heap.size w w' :=
  (Any.strings_Trim_laid Tryz.lays160 (by kernel_rfl) ⟨#[49, 49]⟩ ⟨#[48, 49, 50, 51, 52, 53, 54, 55, 56, 57]⟩ w (by decide) (by decide) (ascii_of_all (by decide +kernel))).mono fun e w' h => ⟨h.1.trans (congrArg (fun l : List UInt8 => Ending.returned (.string ⟨l.toArray⟩)) (by decide +kernel : Lib.trimS [49, 49] [48, 49, 50, 51, 52, 53, 54, 55, 56, 57] = [])), h.2⟩
theorem cutp_11 (w : World) : Calls Tryz.prog 161 #[.string ⟨#[49, 49]⟩, .string ⟨#[45]⟩] w fun e w' => e = .returned (.tuple #[.string ⟨#[49, 49]⟩, .bool false]) ∧ w' = w :=
  (Tryz.strings_CutPrefix ⟨#[49, 49]⟩ ⟨#[45]⟩ w).mono fun e w' h => ⟨h.1.trans (congrArg (fun p : List UInt8 × Bool => Ending.returned (.tuple #[.string ⟨p.1.toArray⟩, .bool p.2])) (by decide +kernel : (Lib.trimPrefix [49, 49] [45], Lib.hasPrefix [49, 49] [45]) = ([49, 49], false))), h.2⟩
theorem atoi_11 (w : World) : Calls Tryz.prog 162 #[.string ⟨#[49, 49]⟩] w fun e w' => e = .returned (.tuple #[.int .i64 11, .nilIface]) ∧ Below w.heap.size w w' :=
  (Tryz.strconv_Atoi ⟨#[49, 49]⟩ 11 (by decide) (by decide +kernel) w).mono fun e w' h => ⟨h.1, by
    obtain ⟨t, rfl⟩ := h.2
    exact Lib.bytesWorld_below _ _ _⟩
set_option maxRecDepth 100000 in
theorem lnum_11 (w : World) : Calls Tryz.prog 112 #[.string ⟨#[49, 49]⟩] w fun e w' => e = .returned (.tuple #[.int .i64 11, .bool true]) ∧ Below w.heap.size w w' := by
  go_enter Tryz.func112, Tryz.ntmps112
  go_wp2_with (first
    | (go_at_call 161; refine (cutp_11 _).mono ?_; rintro e w1 ⟨rfl, rfl⟩)
    | (go_at_call 38; refine (trim_11 _).mono ?_; rintro e w2 ⟨rfl, f2⟩; replace f2 := Aside0.mk f2)
    | (go_at_call 162; refine (atoi_11 _).mono ?_; rintro e w3 ⟨rfl, f3⟩; replace f3 := Aside0.mk f3))
  go_returns
  exact ⟨rfl, f2.out.trans (f3.out.mono f2.out.size)⟩
theorem trim_12 (w : World) : Calls Tryz.prog 38 #[.string ⟨#[49, 50]⟩, .string ⟨#[48, 49, 50, 51, 52, 53, 54, 55, 56, 57]⟩] w fun e w' => e = .returned (.string ⟨#[]⟩) ∧ Below w.heap.size w w' :=
  (Any.strings_Trim_laid Tryz.lays160 (by kernel_rfl) ⟨#[49, 50]⟩ ⟨#[48, 49, 50, 51, 52, 53, 54, 55, 56, 57]⟩ w (by decide) (by decide) (ascii_of_all (by decide +kernel))).mono fun e w' h => ⟨h.1.trans (congrArg (fun l : List UInt8 => Ending.returned (.string ⟨l.toArray⟩)) (by decide +kernel : Lib.trimS [49, 50] [48, 49, 50, 51, 52, 53, 54, 55, 56, 57] = [])), h.2⟩
theorem cutp_12 (w : World) : Calls Tryz.prog 161 #[.string ⟨#[49, 50]⟩, .string ⟨#[45]⟩] w fun e w' => e = .returned (.tuple #[.string ⟨#[49, 50]⟩, .bool false]) ∧ w' = w :=
  (Tryz.strings_CutPrefix ⟨#[49, 50]⟩ ⟨#[45]⟩ w).mono fun e w' h => ⟨h.1.trans (congrArg (fun p : List UInt8 × Bool => Ending.returned (.tuple #[.string ⟨p.1.toArray⟩, .bool p.2])) (by decide +kernel : (Lib.trimPrefix [49, 50] [45], Lib.hasPrefix [49, 50] [45]) = ([49, 50], false))), h.2⟩
theorem atoi_12 (w : World) : Calls Tryz.prog 162 #[.string ⟨#[49, 50]⟩] w fun e w' => e = .returned (.tuple #[.int .i64 12, .nilIface]) ∧ Below w.heap.size w w' :=
  (Tryz.strconv_Atoi ⟨#[49, 50]⟩ 12 (by decide) (by decide +kernel) w).mono fun e w' h => ⟨h.1, by
    obtain ⟨t, rfl⟩ := h.2
    exact Lib.bytesWorld_below _ _ _⟩
set_option maxRecDepth 100000 in
theorem lnum_12 (w : World) : Calls Tryz.prog 112 #[.string ⟨#[49, 50]⟩] w fun e w' => e = .returned (.tuple #[.int .i64 12, .bool true]) ∧ Below w.heap.size w w' := by
  go_enter Tryz.func112, Tryz.ntmps112
  go_wp2_with (first
    | (go_at_call 161; refine (cutp_12 _).mono ?_; rintro e w1 ⟨rfl, rfl⟩)
    | (go_at_call 38; refine (trim_12 _).mono ?_; rintro e w2 ⟨rfl, f2⟩; replace f2 := Aside0.mk f2)
    | (go_at_call 162; refine (atoi_12 _).mono ?_; rintro e w3 ⟨rfl, f3⟩; replace f3 := Aside0.mk f3))
  go_returns
  exact ⟨rfl, f2.out.trans (f3.out.mono f2.out.size)⟩
theorem trim_13 (w : World) : Calls Tryz.prog 38 #[.string ⟨#[49, 51]⟩, .string ⟨#[48, 49, 50, 51, 52, 53, 54, 55, 56, 57]⟩] w fun e w' => e = .returned (.string ⟨#[]⟩) ∧ Below w.heap.size w w' :=
  (Any.strings_Trim_laid Tryz.lays160 (by kernel_rfl) ⟨#[49, 51]⟩ ⟨#[48, 49, 50, 51, 52, 53, 54, 55, 56, 57]⟩ w (by decide) (by decide) (ascii_of_all (by decide +kernel))).mono fun e w' h => ⟨h.1.trans (congrArg (fun l : List UInt8 => Ending.returned (.string ⟨l.toArray⟩)) (by decide +kernel : Lib.trimS [49, 51] [48, 49, 50, 51, 52, 53, 54, 55, 56, 57] = [])), h.2⟩
theorem cutp_13 (w : World) : Calls Tryz.prog 161 #[.string ⟨#[49, 51]⟩, .string ⟨#[45]⟩] w fun e w' => e = .returned (.tuple #[.string ⟨#[49, 51]⟩, .bool false]) ∧ w' = w :=
  (Tryz.strings_CutPrefix ⟨#[49, 51]⟩ ⟨#[45]⟩ w).mono fun e w' h => ⟨h.1.trans (congrArg (fun p : List UInt8 × Bool => Ending.returned (.tuple #[.string ⟨p.1.toArray⟩, .bool p.2])) (by decide +kernel : (Lib.trimPrefix [49, 51] [45], Lib.hasPrefix [49, 51] [45]) = ([49, 51], false))), h.2⟩
theorem atoi_13 (w : World) : Calls Tryz.prog 162 #[.string ⟨#[49, 51]⟩] w fun e w' => e = .returned (.tuple #[.int .i64 13, .nilIface]) ∧ Below w.heap.size w w' :=
  (Tryz.strconv_Atoi ⟨#[49, 51]⟩ 13 (by decide) (by decide +kernel) w).mono fun e w' h => ⟨h.1, by
    obtain ⟨t, rfl⟩ := h.2
    exact Lib.bytesWorld_below _ _ _⟩
set_option maxRecDepth 100000 in
theorem lnum_13 (w : World) : Calls Tryz.prog 112 #[.string ⟨#[49, 51]⟩] w fun e w' => e = .returned (.tuple #[.int .i64 13, .bool true]) ∧ Below w.heap.size w w' := by
  go_enter Tryz.func112, Tryz.ntmps112
  go_wp2_with (first
    | (go_at_call 161; refine (cutp_13 _).mono ?_; rintro e w1 ⟨rfl, rfl⟩)
    | (go_at_call 38; refine (trim_13 _).mono ?_; rintro e w2 ⟨rfl, f2⟩; replace f2 := Aside0.mk f2)
    | (go_at_call 162; refine (atoi_13 _).mono ?_; rintro e w3 ⟨rfl, f3⟩; replace f3 := Aside0.mk f3))
  go_returns
  exact ⟨rfl, f2.out.trans (f3.out.mono f2.out.size)⟩
theorem cut_1972_1_1 (w : World) (m : Int) (hm : w.cell? ⟨0, 0, none⟩ = some (.int .i64 m)) : Calls Tryz.prog 111 #[.string ⟨#[49, 57, 55, 50, 45, 48, 49, 45, 48, 49, 32, 49, 48]⟩, .string ⟨#[32]⟩] w fun e w' => e = .returned (.tuple #[.string ⟨#[49, 57, 55, 50, 45, 48, 49, 45, 48, 49]⟩, .string ⟨#[49, 48]⟩, .bool true]) ∧ ∃ n, w' = w.drewN n :=
  (Tryz.strings_Cut ⟨#[49, 57, 55, 50, 45, 48, 49, 45, 48, 49, 32, 49, 48]⟩ ⟨#[32]⟩ m w (by decide) hm).mono fun e w' h => ⟨h.1.trans (congrArg (fun p : List UInt8 × List UInt8 × Bool => Ending.returned (.tuple #[.string ⟨p.1.toArray⟩, .string ⟨p.2.1.toArray⟩, .bool p.2.2])) (by decide +kernel : Lib.cut [49, 57, 55, 50, 45, 48, 49, 45, 48, 49, 32, 49, 48] [32] = ([49, 57, 55, 50, 45, 48, 49, 45, 48, 49], [49, 48], true))), h.2⟩
theorem days_1972_1_1 : PDays.civil_Days.f 20 1972 1 1 = some (730, 0) := by decide +kernel
set_option maxRecDepth 100000 in
set_option maxHeartbeats 1600000 in
theorem read_1972_1_1 (w : World) (m : Int) (hm : w.cell? ⟨0, 0, none⟩ = some (.int .i64 m)) : Calls Tryz.prog 63 #[.string ⟨#[49, 57, 55, 50, 45, 48, 49, 45, 48, 49, 32, 49, 48]⟩] w fun e w' => e = .returned (.tuple #[.agg #[.int .i64 730, .int .i64 10], .bool true]) ∧ Below w.heap.size w w' := by
  replace hm := Aside0.mk hm
  go_enter Tryz.func63, Tryz.ntmps63
  go_wp2_with (first
    | ((with_reducible refine gate_dst (N := 2) rfl ?_); refine ev_ptr (N := 2) (C := #[.int .i64 0, .int .i64 0]) rfl rfl (by first | (go_simp; done) | (go_simp; rfl)) ?_; intro g2 w2 h2 b2 f2; have hm2 := Aside0.mk (cell0 hm.out f2.out))
    | (go_at_call 111; refine (cut_1972_1_1 _ m hm2.out).mono ?_; rintro e w3 ⟨rfl, d3, rfl⟩)
    | (go_at_call 58; refine (parse_1972_1_1 _).mono ?_; rintro e w4 ⟨rfl, f4⟩; replace f4 := Aside0.mk f4; have b4 := Aside0.mk ((b2.out.drewN d3).belowS f4.out))
    | ((with_reducible refine gate_dst (N := 7) rfl ?_); refine ev_ptr (N := 7) (C := #[.int .i64 0, .int .i64 0, .int .i64 0]) rfl rfl (by first | (go_simp; done) | (go_simp; rfl)) ?_; intro g7 w5 h7 b7 f5; have b5 := Aside0.mk (b4.out.belowS f5.out))
    | ((with_reducible refine gate_store (t := 110) (p := 7) (v := .tmp 21) rfl ?_); refine ev_store rfl (ty := 110) (x := .tmp 7) (y := .tmp 21) (cells := #[.int .i64 1972, .int .i64 1, .int .i64 1]) rfl rfl rfl b7.out info110 (by kernel_rfl) (by decide) #[.int .i64 1972, .int .i64 1, .int .i64 1] rfl ?_; intro w6 b76 f6; have b6 := Aside0.mk (b5.out.fr f6.out (by have := b4.out.lt; have := h7.out; omega)))
    | ((with_reducible refine gate_dst (N := 31) rfl ?_); refine ev_load (N := 31) rfl rfl rfl rfl b76.out Tryz.underlying110 rfl info110 [.int .i64 1972, .int .i64 1, .int .i64 1] rfl rfl ?_)
    | (go_at_call 59; refine (PDays.civil_Days.calls 20 _ _ _ _ _ _ days_1972_1_1).mono ?_; rintro e w7 ⟨rfl, f7⟩; replace f7 := Aside0.mk f7; have b67 := Aside0.mk (b6.out.belowS f7.out))
    | (go_at_call 112; refine (lnum_10 _).mono ?_; rintro e w8 ⟨rfl, f8⟩; replace f8 := Aside0.mk f8; have b8 := Aside0.mk (b67.out.belowS f8.out))
    | ((with_reducible refine gate_store (t := 122) (p := 2) (v := .tmp 42) rfl ?_); refine ev_store rfl (ty := 122) (x := .tmp 2) (y := .tmp 42) (cells := #[.int .i64 730, .int .i64 10]) rfl rfl rfl b8.out info122 (by kernel_rfl) (by decide) #[.int .i64 730, .int .i64 10] rfl ?_; intro w9 b9 f9))
  refine ret_cell_tmp (Tryz.results63) rfl b9.out Tryz.underlying122 rfl info122 rfl rfl ⟨rfl, ?_⟩
  have q2 := f2.out.size
  have q4 := f4.out.size
  have q3 := h2.out
  have q7 := h7.out
  simp at q4
  exact (Fr.trans (Fr.of_below f2.out) (Fr.trans (T := fun k => k = g2 ∨ k = g7) (Fr.drewN (Fr.refl _ w2) _) ((Fr.of_below f4.out).trans ((Fr.of_below f5.out).trans ((f6.out.weaken (fun _ _ h => .inr h)).trans ((Fr.of_below f7.out).trans ((Fr.of_below f8.out).trans (f9.out.weaken (fun _ _ h => .inl h))))))))).below (by omega) (Nat.le_refl _)
theorem cut_1972_7_1 (w : World) (m : Int) (hm : w.cell? ⟨0, 0, none⟩ = some (.int .i64 m)) : Calls Tryz.prog 111 #[.string ⟨#[49, 57, 55, 50, 45, 48, 55, 45, 48, 49, 32, 49, 49]⟩, .string ⟨#[32]⟩] w fun e w' => e = .returned (.tuple #[.string ⟨#[49, 57, 55, 50, 45, 48, 55, 45, 48, 49]⟩, .string ⟨#[49, 49]⟩, .bool true]) ∧ ∃ n, w' = w.drewN n :=
  (Tryz.strings_Cut ⟨#[49, 57, 55, 50, 45, 48, 55, 45, 48, 49, 32, 49, 49]⟩ ⟨#[32]⟩ m w (by decide) hm).mono fun e w' h => ⟨h.1.trans (congrArg (fun p : List UInt8 × List UInt8 × Bool => Ending.returned (.tuple #[.string ⟨p.1.toArray⟩, .string ⟨p.2.1.toArray⟩, .bool p.2.2])) (by decide +kernel : Lib.cut [49, 57, 55, 50, 45, 48, 55, 45, 48, 49, 32, 49, 49] [32] = ([49, 57, 55, 50, 45, 48, 55, 45, 48, 49], [49, 49], true))), h.2⟩
theorem days_1972_7_1 : PDays.civil_Days.f 20 1972 7 1 = some (912, 0) := by decide +kernel
set_option maxRecDepth 100000 in
set_option maxHeartbeats 1600000 in
theorem read_1972_7_1 (w : World) (m : Int) (hm : w.cell? ⟨0, 0, none⟩ = some (.int .i64 m)) : Calls Tryz.prog 63 #[.string ⟨#[49, 57, 55, 50, 45, 48, 55, 45, 48, 49, 32, 49, 49]⟩] w fun e w' => e = .returned (.tuple #[.agg #[.int .i64 912, .int .i64 11], .bool true]) ∧ Below w.heap.size w w' := by
  replace hm := Aside0.mk hm
  go_enter Tryz.func63, Tryz.ntmps63
  go_wp2_with (first
    | ((with_reducible refine gate_dst (N := 2) rfl ?_); refine ev_ptr (N := 2) (C := #[.int .i64 0, .int .i64 0]) rfl rfl (by first | (go_simp; done) | (go_simp; rfl)) ?_; intro g2 w2 h2 b2 f2; have hm2 := Aside0.mk (cell0 hm.out f2.out))
    | (go_at_call 111; refine (cut_1972_7_1 _ m hm2.out).mono ?_; rintro e w3 ⟨rfl, d3, rfl⟩)
    | (go_at_call 58; refine (parse_1972_7_1 _).mono ?_; rintro e w4 ⟨rfl, f4⟩; replace f4 := Aside0.mk f4; have b4 := Aside0.mk ((b2.out.drewN d3).belowS f4.out))
    | ((with_reducible refine gate_dst (N := 7) rfl ?_); refine ev_ptr (N := 7) (C := #[.int .i64 0, .int .i64 0, .int .i64 0]) rfl rfl (by first | (go_simp; done) | (go_simp; rfl)) ?_; intro g7 w5 h7 b7 f5; have b5 := Aside0.mk (b4.out.belowS f5.out))
    | ((with_reducible refine gate_store (t := 110) (p := 7) (v := .tmp 21) rfl ?_); refine ev_store rfl (ty := 110) (x := .tmp 7) (y := .tmp 21) (cells := #[.int .i64 1972, .int .i64 7, .int .i64 1]) rfl rfl rfl b7.out info110 (by kernel_rfl) (by decide) #[.int .i64 1972, .int .i64 7, .int .i64 1] rfl ?_; intro w6 b76 f6; have b6 := Aside0.mk (b5.out.fr f6.out (by have := b4.out.lt; have := h7.out; omega)))
    | ((with_reducible refine gate_dst (N := 31) rfl ?_); refine ev_load (N := 31) rfl rfl rfl rfl b76.out Tryz.underlying110 rfl info110 [.int .i64 1972, .int .i64 7, .int .i64 1] rfl rfl ?_)
    | (go_at_call 59; refine (PDays.civil_Days.calls 20 _ _ _ _ _ _ days_1972_7_1).mono ?_; rintro e w7 ⟨rfl, f7⟩; replace f7 := Aside0.mk f7; have b67 := Aside0.mk (b6.out.belowS f7.out))
    | (go_at_call 112; refine (lnum_11 _).mono ?_; rintro e w8 ⟨rfl, f8⟩; replace f8 := Aside0.mk f8; have b8 := Aside0.mk (b67.out.belowS f8.out))
    | ((with_reducible refine gate_store (t := 122) (p := 2) (v := .tmp 42) rfl ?_); refine ev_store rfl (ty := 122) (x := .tmp 2) (y := .tmp 42) (cells := #[.int .i64 912, .int .i64 11]) rfl rfl rfl b8.out info122 (by kernel_rfl) (by decide) #[.int .i64 912, .int .i64 11] rfl ?_; intro w9 b9 f9))
  refine ret_cell_tmp (Tryz.results63) rfl b9.out Tryz.underlying122 rfl info122 rfl rfl ⟨rfl, ?_⟩
  have q2 := f2.out.size
  have q4 := f4.out.size
  have q3 := h2.out
  have q7 := h7.out
  simp at q4
  exact (Fr.trans (Fr.of_below f2.out) (Fr.trans (T := fun k => k = g2 ∨ k = g7) (Fr.drewN (Fr.refl _ w2) _) ((Fr.of_below f4.out).trans ((Fr.of_below f5.out).trans ((f6.out.weaken (fun _ _ h => .inr h)).trans ((Fr.of_below f7.out).trans ((Fr.of_below f8.out).trans (f9.out.weaken (fun _ _ h => .inl h))))))))).below (by omega) (Nat.le_refl _)
theorem cut_1973_1_1 (w : World) (m : Int) (hm : w.cell? ⟨0, 0, none⟩ = some (.int .i64 m)) : Calls Tryz.prog 111 #[.string ⟨#[49, 57, 55, 51, 45, 48, 49, 45, 48, 49, 32, 49, 50]⟩, .string ⟨#[32]⟩] w fun e w' => e = .returned (.tuple #[.string ⟨#[49, 57, 55, 51, 45, 48, 49, 45, 48, 49]⟩, .string ⟨#[49, 50]⟩, .bool true]) ∧ ∃ n, w' = w.drewN n :=
  (Tryz.strings_Cut ⟨#[49, 57, 55, 51, 45, 48, 49, 45, 48, 49, 32, 49, 50]⟩ ⟨#[32]⟩ m w (by decide) hm).mono fun e w' h => ⟨h.1.trans (congrArg (fun p : List UInt8 × List UInt8 × Bool => Ending.returned (.tuple #[.string ⟨p.1.toArray⟩, .string ⟨p.2.1.toArray⟩, .bool p.2.2])) (by decide +kernel : Lib.cut [49, 57, 55, 51, 45, 48, 49, 45, 48, 49, 32, 49, 50] [32] = ([49, 57, 55, 51, 45, 48, 49, 45, 48, 49], [49, 50], true))), h.2⟩
theorem days_1973_1_1 : PDays.civil_Days.f 20 1973 1 1 = some (1096, 0) := by decide +kernel
set_option maxRecDepth 100000 in
set_option maxHeartbeats 1600000 in
theorem read_1973_1_1 (w : World) (m : Int) (hm : w.cell? ⟨0, 0, none⟩ = some (.int .i64 m)) : Calls Tryz.prog 63 #[.string ⟨#[49, 57, 55, 51, 45, 48, 49, 45, 48, 49, 32, 49, 50]⟩] w fun e w' => e = .returned (.tuple #[.agg #[.int .i64 1096, .int .i64 12], .bool true]) ∧ Below w.heap.size w w' := by
  replace hm := Aside0.mk hm
  go_enter Tryz.func63, Tryz.ntmps63
  go_wp2_with (first
    | ((with_reducible refine gate_dst (N := 2) rfl ?_); refine ev_ptr (N := 2) (C := #[.int .i64 0, .int .i64 0]) rfl rfl (by first | (go_simp; done) | (go_simp; rfl)) ?_; intro g2 w2 h2 b2 f2; have hm2 := Aside0.mk (cell0 hm.out f2.out))
    | (go_at_call 111; refine (cut_1973_1_1 _ m hm2.out).mono ?_; rintro e w3 ⟨rfl, d3, rfl⟩)
    | (go_at_call 58; refine (parse_1973_1_1 _).mono ?_; rintro e w4 ⟨rfl, f4⟩; replace f4 := Aside0.mk f4; have b4 := Aside0.mk ((b2.out.drewN d3).belowS f4.out))
    | ((with_reducible refine gate_dst (N := 7) rfl ?_); refine ev_ptr (N := 7) (C := #[.int .i64 0, .int .i64 0, .int .i64 0]) rfl rfl (by first | (go_simp; done) | (go_simp; rfl)) ?_; intro g7 w5 h7 b7 f5; have b5 := Aside0.mk (b4.out.belowS f5.out))
    | ((with_reducible refine gate_store (t := 110) (p := 7) (v := .tmp 21) rfl ?_); refine ev_store rfl (ty := 110) (x := .tmp 7) (y := .tmp 21) (cells := #[.int .i64 1973, .int .i64 1, .int .i64 1]) rfl rfl rfl b7.out info110 (by kernel_rfl) (by decide) #[.int .i64 1973, .int .i64 1, .int .i64 1] rfl ?_; intro w6 b76 f6; have b6 := Aside0.mk (b5.out.fr f6.out (by have := b4.out.lt; have := h7.out; omega)))
    | ((with_reducible refine gate_dst (N := 31) rfl ?_); refine ev_load (N := 31) rfl rfl rfl rfl b76.out Tryz.underlying110 rfl info110 [.int .i64 1973, .int .i64 1, .int .i64 1] rfl rfl ?_)
    | (go_at_call 59; refine (PDays.civil_Days.calls 20 _ _ _ _ _ _ days_1973_1_1).mono ?_; rintro e w7 ⟨rfl, f7⟩; replace f7 := Aside0.mk f7; have b67 := Aside0.mk (b6.out.belowS f7.out))
    | (go_at_call 112; refine (lnum_12 _).mono ?_; rintro e w8 ⟨rfl, f8⟩; replace f8 := Aside0.mk f8; have b8 := Aside0.mk (b67.out.belowS f8.out))
    | ((with_reducible refine gate_store (t := 122) (p := 2) (v := .tmp 42) rfl ?_); refine ev_store rfl (ty := 122) (x := .tmp 2) (y := .tmp 42) (cells := #[.int .i64 1096, .int .i64 12]) rfl rfl rfl b8.out info122 (by kernel_rfl) (by decide) #[.int .i64 1096, .int .i64 12] rfl ?_; intro w9 b9 f9))
  refine ret_cell_tmp (Tryz.results63) rfl b9.out Tryz.underlying122 rfl info122 rfl rfl ⟨rfl, ?_⟩
  have q2 := f2.out.size
  have q4 := f4.out.size
  have q3 := h2.out
  have q7 := h7.out
  simp at q4
  exact (Fr.trans (Fr.of_below f2.out) (Fr.trans (T := fun k => k = g2 ∨ k = g7) (Fr.drewN (Fr.refl _ w2) _) ((Fr.of_below f4.out).trans ((Fr.of_below f5.out).trans ((f6.out.weaken (fun _ _ h => .inr h)).trans ((Fr.of_below f7.out).trans ((Fr.of_below f8.out).trans (f9.out.weaken (fun _ _ h => .inl h))))))))).below (by omega) (Nat.le_refl _)
theorem cut_1974_1_1 (w : World) (m : Int) (hm : w.cell? ⟨0, 0, none⟩ = some (.int .i64 m)) : Calls Tryz.prog 111 #[.string ⟨#[49, 57, 55, 52, 45, 48, 49, 45, 48, 49, 32, 49, 51]⟩, .string ⟨#[32]⟩] w fun e w' => e = .returned (.tuple #[.string ⟨#[49, 57, 55, 52, 45, 48, 49, 45, 48, 49]⟩, .string ⟨#[49, 51]⟩, .bool true]) ∧ ∃ n, w' = w.drewN n :=
  (Tryz.strings_Cut ⟨#[49, 57, 55, 52, 45, 48, 49, 45, 48, 49, 32, 49, 51]⟩ ⟨#[32]⟩ m w (by decide) hm).mono fun e w' h => ⟨h.1.trans (congrArg (fun p : List UInt8 × List UInt8 × Bool => Ending.returned (.tuple #[.string ⟨p.1.toArray⟩, .string ⟨p.2.1.toArray⟩, .bool p.2.2])) (by decide +kernel : Lib.cut [49, 57, 55, 52, 45, 48, 49, 45, 48, 49, 32, 49, 51] [32] = ([49, 57, 55, 52, 45, 48, 49, 45, 48, 49], [49, 51], true))), h.2⟩
theorem days_1974_1_1 : PDays.civil_Days.f 20 1974 1 1 = some (1461, 0) := by decide +kernel
set_option maxRecDepth 100000 in
set_option maxHeartbeats 1600000 in
theorem read_1974_1_1 (w : World) (m : Int) (hm : w.cell? ⟨0, 0, none⟩ = some (.int .i64 m)) : Calls Tryz.prog 63 #[.string ⟨#[49, 57, 55, 52, 45, 48, 49, 45, 48, 49, 32, 49, 51]⟩] w fun e w' => e = .returned (.tuple #[.agg #[.int .i64 1461, .int .i64 13], .bool true]) ∧ Below w.heap.size w w' := by
  replace hm := Aside0.mk hm
  go_enter Tryz.func63, Tryz.ntmps63
  go_wp2_with (first
    | ((with_reducible refine gate_dst (N := 2) rfl ?_); refine ev_ptr (N := 2) (C := #[.int .i64 0, .int .i64 0]) rfl rfl (by first | (go_simp; done) | (go_simp; rfl)) ?_; intro g2 w2 h2 b2 f2; have hm2 := Aside0.mk (cell0 hm.out f2.out))
    | (go_at_call 111; refine (cut_1974_1_1 _ m hm2.out).mono ?_; rintro e w3 ⟨rfl, d3, rfl⟩)
    | (go_at_call 58; refine (parse_1974_1_1 _).mono ?_; rintro e w4 ⟨rfl, f4⟩; replace f4 := Aside0.mk f4; have b4 := Aside0.mk ((b2.out.drewN d3).belowS f4.out))
    | ((with_reducible refine gate_dst (N := 7) rfl ?_); refine ev_ptr (N := 7) (C := #[.int .i64 0, .int .i64 0, .int .i64 0]) rfl rfl (by first | (go_simp; done) | (go_simp; rfl)) ?_; intro g7 w5 h7 b7 f5; have b5 := Aside0.mk (b4.out.belowS f5.out))
    | ((with_reducible refine gate_store (t := 110) (p := 7) (v := .tmp 21) rfl ?_); refine ev_store rfl (ty := 110) (x := .tmp 7) (y := .tmp 21) (cells := #[.int .i64 1974, .int .i64 1, .int .i64 1]) rfl rfl rfl b7.out info110 (by kernel_rfl) (by decide) #[.int .i64 1974, .int .i64 1, .int .i64 1] rfl ?_; intro w6 b76 f6; have b6 := Aside0.mk (b5.out.fr f6.out (by have := b4.out.lt; have := h7.out; omega)))
    | ((with_reducible refine gate_dst (N := 31) rfl ?_); refine ev_load (N := 31) rfl rfl rfl rfl b76.out Tryz.underlying110 rfl info110 [.int .i64 1974, .int .i64 1, .int .i64 1] rfl rfl ?_)
    | (go_at_call 59; refine (PDays.civil_Days.calls 20 _ _ _ _ _ _ days_1974_1_1).mono ?_; rintro e w7 ⟨rfl, f7⟩; replace f7 := Aside0.mk f7; have b67 := Aside0.mk (b6.out.belowS f7.out))
    | (go_at_call 112; refine (lnum_13 _).mono ?_; rintro e w8 ⟨rfl, f8⟩; replace f8 := Aside0.mk f8; have b8 := Aside0.mk (b67.out.belowS f8.out))
    | ((with_reducible refine gate_store (t := 122) (p := 2) (v := .tmp 42) rfl ?_); refine ev_store rfl (ty := 122) (x := .tmp 2) (y := .tmp 42) (cells := #[.int .i64 1461, .int .i64 13]) rfl rfl rfl b8.out info122 (by kernel_rfl) (by decide) #[.int .i64 1461, .int .i64 13] rfl ?_; intro w9 b9 f9))
  refine ret_cell_tmp (Tryz.results63) rfl b9.out Tryz.underlying122 rfl info122 rfl rfl ⟨rfl, ?_⟩
  have q2 := f2.out.size
  have q4 := f4.out.size
  have q3 := h2.out
  have q7 := h7.out
  simp at q4
  exact (Fr.trans (Fr.of_below f2.out) (Fr.trans (T := fun k => k = g2 ∨ k = g7) (Fr.drewN (Fr.refl _ w2) _) ((Fr.of_below f4.out).trans ((Fr.of_below f5.out).trans ((f6.out.weaken (fun _ _ h => .inr h)).trans ((Fr.of_below f7.out).trans ((Fr.of_below f8.out).trans (f9.out.weaken (fun _ _ h => .inl h))))))))).below (by omega) (Nat.le_refl _)
theorem cut_1975_1_1 (w : World) (m : Int) (hm : w.cell? ⟨0, 0, none⟩ = some (.int .i64 m)) : Calls Tryz.prog 111 #[.string ⟨#[49, 57, 55, 53, 45, 48, 49, 45, 48, 49, 32, 49, 50]⟩, .string ⟨#[32]⟩] w fun e w' => e = .returned (.tuple #[.string ⟨#[49, 57, 55, 53, 45, 48, 49, 45, 48, 49]⟩, .string ⟨#[49, 50]⟩, .bool true]) ∧ ∃ n, w' = w.drewN n :=
  (Tryz.strings_Cut ⟨#[49, 57, 55, 53, 45, 48, 49, 45, 48, 49, 32, 49, 50]⟩ ⟨#[32]⟩ m w (by decide) hm).mono fun e w' h => ⟨h.1.trans (congrArg (fun p : List UInt8 × List UInt8 × Bool => Ending.returned (.tuple #[.string ⟨p.1.toArray⟩, .string ⟨p.2.1.toArray⟩, .bool p.2.2])) (by decide +kernel : Lib.cut [49, 57, 55, 53, 45, 48, 49, 45, 48, 49, 32, 49, 50] [32] = ([49, 57, 55, 53, 45, 48, 49, 45, 48, 49], [49, 50], true))), h.2⟩
theorem days_1975_1_1 : PDays.civil_Days.f 20 1975 1 1 = some (1826, 0) := by decide +kernel
set_option maxRecDepth 100000 in
set_option maxHeartbeats 1600000 in
theorem read_1975_1_1 (w : World) (m : Int) (hm : w.cell? ⟨0, 0, none⟩ = some (.int .i64 m)) : Calls Tryz.prog 63 #[.string ⟨#[49, 57, 55, 53, 45, 48, 49, 45, 48, 49, 32, 49, 50]⟩] w fun e w' => e = .returned (.tuple #[.agg #[.int .i64 1826, .int .i64 12], .bool true]) ∧ Below w.heap.size w w' := by
  replace hm := Aside0.mk hm
  go_enter Tryz.func63, Tryz.ntmps63
  go_wp2_with (first
    | ((with_reducible refine gate_dst (N := 2) rfl ?_); refine ev_ptr (N := 2) (C := #[.int .i64 0, .int .i64 0]) rfl rfl (by first | (go_simp; done) | (go_simp; rfl)) ?_; intro g2 w2 h2 b2 f2; have hm2 := Aside0.mk (cell0 hm.out f2.out))
    | (go_at_call 111; refine (cut_1975_1_1 _ m hm2.out).mono ?_; rintro e w3 ⟨rfl, d3, rfl⟩)
    | (go_at_call 58; refine (parse_1975_1_1 _).mono ?_; rintro e w4 ⟨rfl, f4⟩; replace f4 := Aside0.mk f4; have b4 := Aside0.mk ((b2.out.drewN d3).belowS f4.out))
    | ((with_reducible refine gate_dst (N := 7) rfl ?_); refine ev_ptr (N := 7) (C := #[.int .i64 0, .int .i64 0, .int .i64 0]) rfl rfl (by first | (go_simp; done) | (go_simp; rfl)) ?_; intro g7 w5 h7 b7 f5; have b5 := Aside0.mk (b4.out.belowS f5.out))
    | ((with_reducible refine gate_store (t := 110) (p := 7) (v := .tmp 21) rfl ?_); refine ev_store rfl (ty := 110) (x := .tmp 7) (y := .tmp 21) (cells := #[.int .i64 1975, .int .i64 1, .int .i64 1]) rfl rfl rfl b7.out info110 (by kernel_rfl) (by decide) #[.int .i64 1975, .int .i64 1, .int .i64 1] rfl ?_; intro w6 b76 f6; have b6 := Aside0.mk (b5.out.fr f6.out (by have := b4.out.lt; have := h7.out; omega)))
    | ((with_reducible refine gate_dst (N := 31) rfl ?_); refine ev_load (N := 31) rfl rfl rfl rfl b76.out Tryz.underlying110 rfl info110 [.int .i64 1975, .int .i64 1, .int .i64 1] rfl rfl ?_)
    | (go_at_call 59; refine (PDays.civil_Days.calls 20 _ _ _ _ _ _ days_1975_1_1).mono ?_; rintro e w7 ⟨rfl, f7⟩; replace f7 := Aside0.mk f7; have b67 := Aside0.mk (b6.out.belowS f7.out))
    | (go_at_call 112; refine (lnum_12 _).mono ?_; rintro e w8 ⟨rfl, f8⟩; replace f8 := Aside0.mk f8; have b8 := Aside0.mk (b67.out.belowS f8.out))
    | ((with_reducible refine gate_store (t := 122) (p := 2) (v := .tmp 42) rfl ?_); refine ev_store rfl (ty := 122) (x := .tmp 2) (y := .tmp 42) (cells := #[.int .i64 1826, .int .i64 12]) rfl rfl rfl b8.out info122 (by kernel_rfl) (by decide) #[.int .i64 1826, .int .i64 12] rfl ?_; intro w9 b9 f9))
  refine ret_cell_tmp (Tryz.results63) rfl b9.out Tryz.underlying122 rfl info122 rfl rfl ⟨rfl, ?_⟩
  have q2 := f2.out.size
  have q4 := f4.out.size
  have q3 := h2.out
  have q7 := h7.out
  simp at q4
  exact (Fr.trans (Fr.of_below f2.out) (Fr.trans (T := fun k => k = g2 ∨ k = g7) (Fr.drewN (Fr.refl _ w2) _) ((Fr.of_below f4.out).trans ((Fr.of_below f5.out).trans ((f6.out.weaken (fun _ _ h => .inr h)).trans ((Fr.of_below f7.out).trans ((Fr.of_below f8.out).trans (f9.out.weaken (fun _ _ h => .inl h))))))))).below (by omega) (Nat.le_refl _)
end Go.Proofs.YtmdjbogdfipcmaaGreatDoor.Hand
