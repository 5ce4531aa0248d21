import Derived.Shelf.Strings.SlTrimAscii
import Derived.Test.YtchfmgbjddopoaaGreatDoorM35
set_option linter.unusedVariables false
set_option linter.unusedSimpArgs false
set_option maxHeartbeats 6400000
set_option maxRecDepth 100000
section
namespace Go.Proofs.YtchfmgbjddopoaaGreatDoor.Hand
open Go.RowKit Go.Proofs.YtchfmgbjddopoaaGreatDoorW.PrintWords Go.Proofs.YtchfmgbjddopoaaGreatDoorW.PrintLast Go.Proofs.YtchfmgbjddopoaaGreatDoorW.PrintMore
attribute [local go_sem ↓] Go.wp_at_zero Go.wp_at_succ
theorem Dp : (Tryz.prog.info? 256).map (·.size) = some 2 := by kernel_rfl
theorem JW (w : World) : Calls Tryz.prog 161 #[.string ⟨#[49, 57, 55, 50, 45, 48, 49, 45, 48, 49]⟩] w fun e w' => e = .returned (.tuple #[.agg #[.int .i64 1972, .int .i64 1, .int .i64 1], .int .i64 0]) ∧ Below w.heap.size w w' := by
 have n1 : Aa (Pnumber.Ar.f 20 ⟨#[49, 57, 55, 50]⟩ = some (1972, true)) := ⟨by decide +kernel⟩
 have n2 : Aa (Pnumber.Ar.f 20 ⟨#[48, 49]⟩ = some (1, true)) := ⟨by decide +kernel⟩
 have n3 : Aa (Pnumber.Ar.f 20 ⟨#[48, 49]⟩ = some (1, true)) := ⟨by decide +kernel⟩
 go_enter Tryz.func161, Tryz.ntmps161
 go_wp2_with (first
   | ((with_reducible refine Ac (N := 2) rfl ?_); refine Aj (N := 2) (C := #[.int .i64 0, .int .i64 0, .int .i64 0]) rfl rfl (by first | (go_simp; done) | (go_simp; rfl)) ?_; intro g2 w2 h2 b2 f2)
   | (go_at_call 211; first
       | (refine (Pnumber.Ar.calls 20 _ _ _ _ n1.out).mono ?_; clear n1; rintro e w3 ⟨rfl, d3, rfl⟩)
       | (refine (Pnumber.Ar.calls 20 _ _ _ _ n2.out).mono ?_; clear n2; rintro e w3 ⟨rfl, d4, rfl⟩)
       | (refine (Pnumber.Ar.calls 20 _ _ _ _ n3.out).mono ?_; clear n3; rintro e w3 ⟨rfl, d5, rfl⟩))
   | ((with_reducible refine Ac (N := 11) rfl ?_); refine Aj (N := 11) (C := #[.int .i64 0, .int .i64 0, .int .i64 0]) rfl rfl (by first | (go_simp; done) | (go_simp; rfl)) ?_; intro g11 w6 h11 b11 f6)
   | ((with_reducible refine Af (t := 247) (p := 11) (v := .tmp 50) rfl ?_); refine Ak rfl (ty := 247) (x := .tmp 11) (y := .tmp 50) (cells := #[.int .i64 1972, .int .i64 1, .int .i64 1]) rfl rfl rfl b11.out Bf (by kernel_rfl) (by decide) #[.int .i64 1972, .int .i64 1, .int .i64 1] rfl ?_; intro w7 b7 f7)
   | ((with_reducible refine Ac (N := 62) rfl ?_); refine BO (N := 62) rfl (by rfl) rfl rfl b7.out Tryz.underlying247 rfl Bf [.int .i64 1972, .int .i64 1, .int .i64 1] rfl rfl ?_)
   | (go_at_call 212; refine (MB _).mono ?_; rintro e w8 ⟨rfl, f8⟩; replace f8 := Aa.mk f8; have b8 := Aa.mk (b7.out.Ad f8.out))
   | ((with_reducible refine Ac (N := 68) rfl ?_); refine Au (N := 68) rfl rfl rfl rfl b8.out Tryz.underlying247 rfl Bf [.int .i64 1972, .int .i64 1, .int .i64 1] rfl rfl ?_)
   | ((with_reducible refine Af (t := 247) (p := 2) (v := .tmp 68) rfl ?_); refine Ak rfl (ty := 247) (x := .tmp 2) (y := .tmp 68) (cells := #[.int .i64 1972, .int .i64 1, .int .i64 1]) rfl rfl rfl (show Bk _ g2 #[.int .i64 0, .int .i64 0, .int .i64 0] 247 from (((b2.out.drewN _).Ad f6.out).fr f7.out (by have := b2.out.lt; have := h11.out; simp at this; omega)).Ad f8.out) Bf (by kernel_rfl) (by decide) #[.int .i64 1972, .int .i64 1, .int .i64 1] rfl ?_; intro w9 b9 f9))
 refine AO (Tryz.results161) rfl b9.out Tryz.underlying247 rfl Bf rfl rfl ⟨rfl, ?_⟩
 have q2 := f2.out.size
 have q3 := h2.out
 have q4 := h11.out
 simp at q4
 exact (Fr.trans (Fr.of_below f2.out) (Fr.trans (T := fun k => k = g2 ∨ k = g11) (Fr.drewN (Fr.refl _ w2) _) ((Fr.of_below f6.out).trans ((f7.out.weaken (fun _ _ h => .inr h)).trans ((Fr.of_below f8.out).trans (f9.out.weaken (fun _ _ h => .inl h))))))).below (by omega) (Nat.le_refl _)
theorem JV (w : World) : Calls Tryz.prog 161 #[.string ⟨#[49, 57, 55, 50, 45, 48, 55, 45, 48, 49]⟩] w fun e w' => e = .returned (.tuple #[.agg #[.int .i64 1972, .int .i64 7, .int .i64 1], .int .i64 0]) ∧ Below w.heap.size w w' := by
 have n1 : Aa (Pnumber.Ar.f 20 ⟨#[49, 57, 55, 50]⟩ = some (1972, true)) := ⟨by decide +kernel⟩
 have n2 : Aa (Pnumber.Ar.f 20 ⟨#[48, 55]⟩ = some (7, true)) := ⟨by decide +kernel⟩
 have n3 : Aa (Pnumber.Ar.f 20 ⟨#[48, 49]⟩ = some (1, true)) := ⟨by decide +kernel⟩
 go_enter Tryz.func161, Tryz.ntmps161
 go_wp2_with (first
   | ((with_reducible refine Ac (N := 2) rfl ?_); refine Aj (N := 2) (C := #[.int .i64 0, .int .i64 0, .int .i64 0]) rfl rfl (by first | (go_simp; done) | (go_simp; rfl)) ?_; intro g2 w2 h2 b2 f2)
   | (go_at_call 211; first
       | (refine (Pnumber.Ar.calls 20 _ _ _ _ n1.out).mono ?_; clear n1; rintro e w3 ⟨rfl, d3, rfl⟩)
       | (refine (Pnumber.Ar.calls 20 _ _ _ _ n2.out).mono ?_; clear n2; rintro e w3 ⟨rfl, d4, rfl⟩)
       | (refine (Pnumber.Ar.calls 20 _ _ _ _ n3.out).mono ?_; clear n3; rintro e w3 ⟨rfl, d5, rfl⟩))
   | ((with_reducible refine Ac (N := 11) rfl ?_); refine Aj (N := 11) (C := #[.int .i64 0, .int .i64 0, .int .i64 0]) rfl rfl (by first | (go_simp; done) | (go_simp; rfl)) ?_; intro g11 w6 h11 b11 f6)
   | ((with_reducible refine Af (t := 247) (p := 11) (v := .tmp 50) rfl ?_); refine Ak rfl (ty := 247) (x := .tmp 11) (y := .tmp 50) (cells := #[.int .i64 1972, .int .i64 7, .int .i64 1]) rfl rfl rfl b11.out Bf (by kernel_rfl) (by decide) #[.int .i64 1972, .int .i64 7, .int .i64 1] rfl ?_; intro w7 b7 f7)
   | ((with_reducible refine Ac (N := 62) rfl ?_); refine BO (N := 62) rfl (by rfl) rfl rfl b7.out Tryz.underlying247 rfl Bf [.int .i64 1972, .int .i64 7, .int .i64 1] rfl rfl ?_)
   | (go_at_call 212; refine (Me _).mono ?_; rintro e w8 ⟨rfl, f8⟩; replace f8 := Aa.mk f8; have b8 := Aa.mk (b7.out.Ad f8.out))
   | ((with_reducible refine Ac (N := 68) rfl ?_); refine Au (N := 68) rfl rfl rfl rfl b8.out Tryz.underlying247 rfl Bf [.int .i64 1972, .int .i64 7, .int .i64 1] rfl rfl ?_)
   | ((with_reducible refine Af (t := 247) (p := 2) (v := .tmp 68) rfl ?_); refine Ak rfl (ty := 247) (x := .tmp 2) (y := .tmp 68) (cells := #[.int .i64 1972, .int .i64 7, .int .i64 1]) rfl rfl rfl (show Bk _ g2 #[.int .i64 0, .int .i64 0, .int .i64 0] 247 from (((b2.out.drewN _).Ad f6.out).fr f7.out (by have := b2.out.lt; have := h11.out; simp at this; omega)).Ad f8.out) Bf (by kernel_rfl) (by decide) #[.int .i64 1972, .int .i64 7, .int .i64 1] rfl ?_; intro w9 b9 f9))
 refine AO (Tryz.results161) rfl b9.out Tryz.underlying247 rfl Bf rfl rfl ⟨rfl, ?_⟩
 have q2 := f2.out.size
 have q3 := h2.out
 have q4 := h11.out
 simp at q4
 exact (Fr.trans (Fr.of_below f2.out) (Fr.trans (T := fun k => k = g2 ∨ k = g11) (Fr.drewN (Fr.refl _ w2) _) ((Fr.of_below f6.out).trans ((f7.out.weaken (fun _ _ h => .inr h)).trans ((Fr.of_below f8.out).trans (f9.out.weaken (fun _ _ h => .inl h))))))).below (by omega) (Nat.le_refl _)
theorem JU (w : World) : Calls Tryz.prog 161 #[.string ⟨#[49, 57, 55, 51, 45, 48, 49, 45, 48, 49]⟩] w fun e w' => e = .returned (.tuple #[.agg #[.int .i64 1973, .int .i64 1, .int .i64 1], .int .i64 0]) ∧ Below w.heap.size w w' := by
 have n1 : Aa (Pnumber.Ar.f 20 ⟨#[49, 57, 55, 51]⟩ = some (1973, true)) := ⟨by decide +kernel⟩
 have n2 : Aa (Pnumber.Ar.f 20 ⟨#[48, 49]⟩ = some (1, true)) := ⟨by decide +kernel⟩
 have n3 : Aa (Pnumber.Ar.f 20 ⟨#[48, 49]⟩ = some (1, true)) := ⟨by decide +kernel⟩
 go_enter Tryz.func161, Tryz.ntmps161
 go_wp2_with (first
   | ((with_reducible refine Ac (N := 2) rfl ?_); refine Aj (N := 2) (C := #[.int .i64 0, .int .i64 0, .int .i64 0]) rfl rfl (by first | (go_simp; done) | (go_simp; rfl)) ?_; intro g2 w2 h2 b2 f2)
   | (go_at_call 211; first
       | (refine (Pnumber.Ar.calls 20 _ _ _ _ n1.out).mono ?_; clear n1; rintro e w3 ⟨rfl, d3, rfl⟩)
       | (refine (Pnumber.Ar.calls 20 _ _ _ _ n2.out).mono ?_; clear n2; rintro e w3 ⟨rfl, d4, rfl⟩)
       | (refine (Pnumber.Ar.calls 20 _ _ _ _ n3.out).mono ?_; clear n3; rintro e w3 ⟨rfl, d5, rfl⟩))
   | ((with_reducible refine Ac (N := 11) rfl ?_); refine Aj (N := 11) (C := #[.int .i64 0, .int .i64 0, .int .i64 0]) rfl rfl (by first | (go_simp; done) | (go_simp; rfl)) ?_; intro g11 w6 h11 b11 f6)
   | ((with_reducible refine Af (t := 247) (p := 11) (v := .tmp 50) rfl ?_); refine Ak rfl (ty := 247) (x := .tmp 11) (y := .tmp 50) (cells := #[.int .i64 1973, .int .i64 1, .int .i64 1]) rfl rfl rfl b11.out Bf (by kernel_rfl) (by decide) #[.int .i64 1973, .int .i64 1, .int .i64 1] rfl ?_; intro w7 b7 f7)
   | ((with_reducible refine Ac (N := 62) rfl ?_); refine BO (N := 62) rfl (by rfl) rfl rfl b7.out Tryz.underlying247 rfl Bf [.int .i64 1973, .int .i64 1, .int .i64 1] rfl rfl ?_)
   | (go_at_call 212; refine (Md _).mono ?_; rintro e w8 ⟨rfl, f8⟩; replace f8 := Aa.mk f8; have b8 := Aa.mk (b7.out.Ad f8.out))
   | ((with_reducible refine Ac (N := 68) rfl ?_); refine Au (N := 68) rfl rfl rfl rfl b8.out Tryz.underlying247 rfl Bf [.int .i64 1973, .int .i64 1, .int .i64 1] rfl rfl ?_)
   | ((with_reducible refine Af (t := 247) (p := 2) (v := .tmp 68) rfl ?_); refine Ak rfl (ty := 247) (x := .tmp 2) (y := .tmp 68) (cells := #[.int .i64 1973, .int .i64 1, .int .i64 1]) rfl rfl rfl (show Bk _ g2 #[.int .i64 0, .int .i64 0, .int .i64 0] 247 from (((b2.out.drewN _).Ad f6.out).fr f7.out (by have := b2.out.lt; have := h11.out; simp at this; omega)).Ad f8.out) Bf (by kernel_rfl) (by decide) #[.int .i64 1973, .int .i64 1, .int .i64 1] rfl ?_; intro w9 b9 f9))
 refine AO (Tryz.results161) rfl b9.out Tryz.underlying247 rfl Bf rfl rfl ⟨rfl, ?_⟩
 have q2 := f2.out.size
 have q3 := h2.out
 have q4 := h11.out
 simp at q4
 exact (Fr.trans (Fr.of_below f2.out) (Fr.trans (T := fun k => k = g2 ∨ k = g11) (Fr.drewN (Fr.refl _ w2) _) ((Fr.of_below f6.out).trans ((f7.out.weaken (fun _ _ h => .inr h)).trans ((Fr.of_below f8.out).trans (f9.out.weaken (fun _ _ h => .inl h))))))).below (by omega) (Nat.le_refl _)
theorem JS (w : World) : Calls Tryz.prog 161 #[.string ⟨#[49, 57, 55, 52, 45, 48, 49, 45, 48, 49]⟩] w fun e w' => e = .returned (.tuple #[.agg #[.int .i64 1974, .int .i64 1, .int .i64 1], .int .i64 0]) ∧ Below w.heap.size w w' := by
 have n1 : Aa (Pnumber.Ar.f 20 ⟨#[49, 57, 55, 52]⟩ = some (1974, true)) := ⟨by decide +kernel⟩
 have n2 : Aa (Pnumber.Ar.f 20 ⟨#[48, 49]⟩ = some (1, true)) := ⟨by decide +kernel⟩
 have n3 : Aa (Pnumber.Ar.f 20 ⟨#[48, 49]⟩ = some (1, true)) := ⟨by decide +kernel⟩
 go_enter Tryz.func161, Tryz.ntmps161
 go_wp2_with (first
   | ((with_reducible refine Ac (N := 2) rfl ?_); refine Aj (N := 2) (C := #[.int .i64 0, .int .i64 0, .int .i64 0]) rfl rfl (by first | (go_simp; done) | (go_simp; rfl)) ?_; intro g2 w2 h2 b2 f2)
   | (go_at_call 211; first
       | (refine (Pnumber.Ar.calls 20 _ _ _ _ n1.out).mono ?_; clear n1; rintro e w3 ⟨rfl, d3, rfl⟩)
       | (refine (Pnumber.Ar.calls 20 _ _ _ _ n2.out).mono ?_; clear n2; rintro e w3 ⟨rfl, d4, rfl⟩)
       | (refine (Pnumber.Ar.calls 20 _ _ _ _ n3.out).mono ?_; clear n3; rintro e w3 ⟨rfl, d5, rfl⟩))
   | ((with_reducible refine Ac (N := 11) rfl ?_); refine Aj (N := 11) (C := #[.int .i64 0, .int .i64 0, .int .i64 0]) rfl rfl (by first | (go_simp; done) | (go_simp; rfl)) ?_; intro g11 w6 h11 b11 f6)
   | ((with_reducible refine Af (t := 247) (p := 11) (v := .tmp 50) rfl ?_); refine Ak rfl (ty := 247) (x := .tmp 11) (y := .tmp 50) (cells := #[.int .i64 1974, .int .i64 1, .int .i64 1]) rfl rfl rfl b11.out Bf (by kernel_rfl) (by decide) #[.int .i64 1974, .int .i64 1, .int .i64 1] rfl ?_; intro w7 b7 f7)
   | ((with_reducible refine Ac (N := 62) rfl ?_); refine BO (N := 62) rfl (by rfl) rfl rfl b7.out Tryz.underlying247 rfl Bf [.int .i64 1974, .int .i64 1, .int .i64 1] rfl rfl ?_)
   | (go_at_call 212; refine (Mc _).mono ?_; rintro e w8 ⟨rfl, f8⟩; replace f8 := Aa.mk f8; have b8 := Aa.mk (b7.out.Ad f8.out))
   | ((with_reducible refine Ac (N := 68) rfl ?_); refine Au (N := 68) rfl rfl rfl rfl b8.out Tryz.underlying247 rfl Bf [.int .i64 1974, .int .i64 1, .int .i64 1] rfl rfl ?_)
   | ((with_reducible refine Af (t := 247) (p := 2) (v := .tmp 68) rfl ?_); refine Ak rfl (ty := 247) (x := .tmp 2) (y := .tmp 68) (cells := #[.int .i64 1974, .int .i64 1, .int .i64 1]) rfl rfl rfl (show Bk _ g2 #[.int .i64 0, .int .i64 0, .int .i64 0] 247 from (((b2.out.drewN _).Ad f6.out).fr f7.out (by have := b2.out.lt; have := h11.out; simp at this; omega)).Ad f8.out) Bf (by kernel_rfl) (by decide) #[.int .i64 1974, .int .i64 1, .int .i64 1] rfl ?_; intro w9 b9 f9))
 refine AO (Tryz.results161) rfl b9.out Tryz.underlying247 rfl Bf rfl rfl ⟨rfl, ?_⟩
 have q2 := f2.out.size
 have q3 := h2.out
 have q4 := h11.out
 simp at q4
 exact (Fr.trans (Fr.of_below f2.out) (Fr.trans (T := fun k => k = g2 ∨ k = g11) (Fr.drewN (Fr.refl _ w2) _) ((Fr.of_below f6.out).trans ((f7.out.weaken (fun _ _ h => .inr h)).trans ((Fr.of_below f8.out).trans (f9.out.weaken (fun _ _ h => .inl h))))))).below (by omega) (Nat.le_refl _)
theorem JR (w : World) : Calls Tryz.prog 161 #[.string ⟨#[49, 57, 55, 53, 45, 48, 49, 45, 48, 49]⟩] w fun e w' => e = .returned (.tuple #[.agg #[.int .i64 1975, .int .i64 1, .int .i64 1], .int .i64 0]) ∧ Below w.heap.size w w' := by
 have n1 : Aa (Pnumber.Ar.f 20 ⟨#[49, 57, 55, 53]⟩ = some (1975, true)) := ⟨by decide +kernel⟩
 have n2 : Aa (Pnumber.Ar.f 20 ⟨#[48, 49]⟩ = some (1, true)) := ⟨by decide +kernel⟩
 have n3 : Aa (Pnumber.Ar.f 20 ⟨#[48, 49]⟩ = some (1, true)) := ⟨by decide +kernel⟩
 go_enter Tryz.func161, Tryz.ntmps161
 go_wp2_with (first
   | ((with_reducible refine Ac (N := 2) rfl ?_); refine Aj (N := 2) (C := #[.int .i64 0, .int .i64 0, .int .i64 0]) rfl rfl (by first | (go_simp; done) | (go_simp; rfl)) ?_; intro g2 w2 h2 b2 f2)
   | (go_at_call 211; first
       | (refine (Pnumber.Ar.calls 20 _ _ _ _ n1.out).mono ?_; clear n1; rintro e w3 ⟨rfl, d3, rfl⟩)
       | (refine (Pnumber.Ar.calls 20 _ _ _ _ n2.out).mono ?_; clear n2; rintro e w3 ⟨rfl, d4, rfl⟩)
       | (refine (Pnumber.Ar.calls 20 _ _ _ _ n3.out).mono ?_; clear n3; rintro e w3 ⟨rfl, d5, rfl⟩))
   | ((with_reducible refine Ac (N := 11) rfl ?_); refine Aj (N := 11) (C := #[.int .i64 0, .int .i64 0, .int .i64 0]) rfl rfl (by first | (go_simp; done) | (go_simp; rfl)) ?_; intro g11 w6 h11 b11 f6)
   | ((with_reducible refine Af (t := 247) (p := 11) (v := .tmp 50) rfl ?_); refine Ak rfl (ty := 247) (x := .tmp 11) (y := .tmp 50) (cells := #[.int .i64 1975, .int .i64 1, .int .i64 1]) rfl rfl rfl b11.out Bf (by kernel_rfl) (by decide) #[.int .i64 1975, .int .i64 1, .int .i64 1] rfl ?_; intro w7 b7 f7)
   | ((with_reducible refine Ac (N := 62) rfl ?_); refine BO (N := 62) rfl (by rfl) rfl rfl b7.out Tryz.underlying247 rfl Bf [.int .i64 1975, .int .i64 1, .int .i64 1] rfl rfl ?_)
   | (go_at_call 212; refine (L8 _).mono ?_; rintro e w8 ⟨rfl, f8⟩; replace f8 := Aa.mk f8; have b8 := Aa.mk (b7.out.Ad f8.out))
   | ((with_reducible refine Ac (N := 68) rfl ?_); refine Au (N := 68) rfl rfl rfl rfl b8.out Tryz.underlying247 rfl Bf [.int .i64 1975, .int .i64 1, .int .i64 1] rfl rfl ?_)
   | ((with_reducible refine Af (t := 247) (p := 2) (v := .tmp 68) rfl ?_); refine Ak rfl (ty := 247) (x := .tmp 2) (y := .tmp 68) (cells := #[.int .i64 1975, .int .i64 1, .int .i64 1]) rfl rfl rfl (show Bk _ g2 #[.int .i64 0, .int .i64 0, .int .i64 0] 247 from (((b2.out.drewN _).Ad f6.out).fr f7.out (by have := b2.out.lt; have := h11.out; simp at this; omega)).Ad f8.out) Bf (by kernel_rfl) (by decide) #[.int .i64 1975, .int .i64 1, .int .i64 1] rfl ?_; intro w9 b9 f9))
 refine AO (Tryz.results161) rfl b9.out Tryz.underlying247 rfl Bf rfl rfl ⟨rfl, ?_⟩
 have q2 := f2.out.size
 have q3 := h2.out
 have q4 := h11.out
 simp at q4
 exact (Fr.trans (Fr.of_below f2.out) (Fr.trans (T := fun k => k = g2 ∨ k = g11) (Fr.drewN (Fr.refl _ w2) _) ((Fr.of_below f6.out).trans ((f7.out.weaken (fun _ _ h => .inr h)).trans ((Fr.of_below f8.out).trans (f9.out.weaken (fun _ _ h => .inl h))))))).below (by omega) (Nat.le_refl _)
end Go.Proofs.YtchfmgbjddopoaaGreatDoor.Hand
namespace Go.Proofs.YtchfmgbjddopoaaGreatDoor.Hand
open Go.RowKit Go.Proofs.YtchfmgbjddopoaaGreatDoorW.PrintWords Go.Proofs.YtchfmgbjddopoaaGreatDoorW.PrintLast Go.Proofs.YtchfmgbjddopoaaGreatDoorW.PrintMore
attribute [local go_sem ↓] Go.wp_at_zero Go.wp_at_succ
theorem cell0 {w w' : World} {m : Int} (hm : w.cell? ⟨0, 0, none⟩ = some (.int .i64 m)) (f : Below w.heap.size w w') : w'.cell? ⟨0, 0, none⟩ = some (.int .i64 m) := by
 have h0 : 0 < w.heap.size := by
   rcases Nat.eq_zero_or_pos w.heap.size with h | h
   · have h1 : w.heap[0]? = none := Array.getElem?_eq_none (by omega)
     unfold World.cell? at hm
     rw [h1] at hm
     cases hm
   · exact h
 rw [f.cell (p := ⟨0, 0, none⟩) h0]
 exact hm
theorem Xw (w : World) : Calls Tryz.prog 142 #[.string ⟨#[49, 48]⟩, .string ⟨#[48, 49, 50, 51, 52, 53, 54, 55, 56, 57]⟩] w fun e w' => e = .returned (.string ⟨#[]⟩) ∧ Below w.heap.size w w' :=
 (Any.strings_Trim_laid Tryz.lays160 (by kernel_rfl) ⟨#[49, 48]⟩ ⟨#[48, 49, 50, 51, 52, 53, 54, 55, 56, 57]⟩ w (by decide) (by decide) (ascii_of_all (by decide +kernel))).mono fun e w' h => ⟨h.1.trans (congrArg (fun l : List UInt8 => Ending.returned (.string ⟨l.toArray⟩)) (by decide +kernel : Lib.trimS [49, 48] [48, 49, 50, 51, 52, 53, 54, 55, 56, 57] = [])), h.2⟩
theorem Ym (w : World) : Calls Tryz.prog 271 #[.string ⟨#[49, 48]⟩, .string ⟨#[45]⟩] w fun e w' => e = .returned (.tuple #[.string ⟨#[49, 48]⟩, .bool false]) ∧ w' = w :=
 (Tryz.strings_CutPrefix ⟨#[49, 48]⟩ ⟨#[45]⟩ w).mono fun e w' h => ⟨h.1.trans (congrArg (fun p : List UInt8 × Bool => Ending.returned (.tuple #[.string ⟨p.1.toArray⟩, .bool p.2])) (by decide +kernel : (Lib.trimPrefix [49, 48] [45], Lib.hasPrefix [49, 48] [45]) = ([49, 48], false))), h.2⟩
theorem Yy (w : World) : Calls Tryz.prog 272 #[.string ⟨#[49, 48]⟩] w fun e w' => e = .returned (.tuple #[.int .i64 10, .nilIface]) ∧ Below w.heap.size w w' :=
 (Tryz.strconv_Atoi ⟨#[49, 48]⟩ 10 (by decide) (by decide +kernel) w).mono fun e w' h => ⟨h.1, by
   obtain ⟨t, rfl⟩ := h.2
   exact Lib.bytesWorld_below _ _ _⟩
theorem X3 (w : World) : Calls Tryz.prog 222 #[.string ⟨#[49, 48]⟩] w fun e w' => e = .returned (.tuple #[.int .i64 10, .bool true]) ∧ Below w.heap.size w w' := by
 go_enter Tryz.func222, Tryz.ntmps222
 go_wp2_with (first
   | (go_at_call 271; refine (Ym _).mono ?_; rintro e w1 ⟨rfl, rfl⟩)
   | (go_at_call 142; refine (Xw _).mono ?_; rintro e w2 ⟨rfl, f2⟩; replace f2 := Aa.mk f2)
   | (go_at_call 272; refine (Yy _).mono ?_; rintro e w3 ⟨rfl, f3⟩; replace f3 := Aa.mk f3))
 go_returns
 exact ⟨rfl, f2.out.trans (f3.out.mono f2.out.size)⟩
theorem Xv (w : World) : Calls Tryz.prog 142 #[.string ⟨#[49, 49]⟩, .string ⟨#[48, 49, 50, 51, 52, 53, 54, 55, 56, 57]⟩] w fun e w' => e = .returned (.string ⟨#[]⟩) ∧ Below w.heap.size w w' :=
 (Any.strings_Trim_laid Tryz.lays160 (by kernel_rfl) ⟨#[49, 49]⟩ ⟨#[48, 49, 50, 51, 52, 53, 54, 55, 56, 57]⟩ w (by decide) (by decide) (ascii_of_all (by decide +kernel))).mono fun e w' h => ⟨h.1.trans (congrArg (fun l : List UInt8 => Ending.returned (.string ⟨l.toArray⟩)) (by decide +kernel : Lib.trimS [49, 49] [48, 49, 50, 51, 52, 53, 54, 55, 56, 57] = [])), h.2⟩
theorem Yl (w : World) : Calls Tryz.prog 271 #[.string ⟨#[49, 49]⟩, .string ⟨#[45]⟩] w fun e w' => e = .returned (.tuple #[.string ⟨#[49, 49]⟩, .bool false]) ∧ w' = w :=
 (Tryz.strings_CutPrefix ⟨#[49, 49]⟩ ⟨#[45]⟩ w).mono fun e w' h => ⟨h.1.trans (congrArg (fun p : List UInt8 × Bool => Ending.returned (.tuple #[.string ⟨p.1.toArray⟩, .bool p.2])) (by decide +kernel : (Lib.trimPrefix [49, 49] [45], Lib.hasPrefix [49, 49] [45]) = ([49, 49], false))), h.2⟩
theorem Yx (w : World) : Calls Tryz.prog 272 #[.string ⟨#[49, 49]⟩] w fun e w' => e = .returned (.tuple #[.int .i64 11, .nilIface]) ∧ Below w.heap.size w w' :=
 (Tryz.strconv_Atoi ⟨#[49, 49]⟩ 11 (by decide) (by decide +kernel) w).mono fun e w' h => ⟨h.1, by
   obtain ⟨t, rfl⟩ := h.2
   exact Lib.bytesWorld_below _ _ _⟩
theorem X0 (w : World) : Calls Tryz.prog 222 #[.string ⟨#[49, 49]⟩] w fun e w' => e = .returned (.tuple #[.int .i64 11, .bool true]) ∧ Below w.heap.size w w' := by
 go_enter Tryz.func222, Tryz.ntmps222
 go_wp2_with (first
   | (go_at_call 271; refine (Yl _).mono ?_; rintro e w1 ⟨rfl, rfl⟩)
   | (go_at_call 142; refine (Xv _).mono ?_; rintro e w2 ⟨rfl, f2⟩; replace f2 := Aa.mk f2)
   | (go_at_call 272; refine (Yx _).mono ?_; rintro e w3 ⟨rfl, f3⟩; replace f3 := Aa.mk f3))
 go_returns
 exact ⟨rfl, f2.out.trans (f3.out.mono f2.out.size)⟩
theorem Xu (w : World) : Calls Tryz.prog 142 #[.string ⟨#[49, 50]⟩, .string ⟨#[48, 49, 50, 51, 52, 53, 54, 55, 56, 57]⟩] w fun e w' => e = .returned (.string ⟨#[]⟩) ∧ Below w.heap.size w w' :=
 (Any.strings_Trim_laid Tryz.lays160 (by kernel_rfl) ⟨#[49, 50]⟩ ⟨#[48, 49, 50, 51, 52, 53, 54, 55, 56, 57]⟩ w (by decide) (by decide) (ascii_of_all (by decide +kernel))).mono fun e w' h => ⟨h.1.trans (congrArg (fun l : List UInt8 => Ending.returned (.string ⟨l.toArray⟩)) (by decide +kernel : Lib.trimS [49, 50] [48, 49, 50, 51, 52, 53, 54, 55, 56, 57] = [])), h.2⟩
theorem Yk (w : World) : Calls Tryz.prog 271 #[.string ⟨#[49, 50]⟩, .string ⟨#[45]⟩] w fun e w' => e = .returned (.tuple #[.string ⟨#[49, 50]⟩, .bool false]) ∧ w' = w :=
 (Tryz.strings_CutPrefix ⟨#[49, 50]⟩ ⟨#[45]⟩ w).mono fun e w' h => ⟨h.1.trans (congrArg (fun p : List UInt8 × Bool => Ending.returned (.tuple #[.string ⟨p.1.toArray⟩, .bool p.2])) (by decide +kernel : (Lib.trimPrefix [49, 50] [45], Lib.hasPrefix [49, 50] [45]) = ([49, 50], false))), h.2⟩
theorem Yw (w : World) : Calls Tryz.prog 272 #[.string ⟨#[49, 50]⟩] w fun e w' => e = .returned (.tuple #[.int .i64 12, .nilIface]) ∧ Below w.heap.size w w' :=
 (Tryz.strconv_Atoi ⟨#[49, 50]⟩ 12 (by decide) (by decide +kernel) w).mono fun e w' h => ⟨h.1, by
   obtain ⟨t, rfl⟩ := h.2
   exact Lib.bytesWorld_below _ _ _⟩
theorem Ux (w : World) : Calls Tryz.prog 222 #[.string ⟨#[49, 50]⟩] w fun e w' => e = .returned (.tuple #[.int .i64 12, .bool true]) ∧ Below w.heap.size w w' := by
 go_enter Tryz.func222, Tryz.ntmps222
 go_wp2_with (first
   | (go_at_call 271; refine (Yk _).mono ?_; rintro e w1 ⟨rfl, rfl⟩)
   | (go_at_call 142; refine (Xu _).mono ?_; rintro e w2 ⟨rfl, f2⟩; replace f2 := Aa.mk f2)
   | (go_at_call 272; refine (Yw _).mono ?_; rintro e w3 ⟨rfl, f3⟩; replace f3 := Aa.mk f3))
 go_returns
 exact ⟨rfl, f2.out.trans (f3.out.mono f2.out.size)⟩
theorem Xt (w : World) : Calls Tryz.prog 142 #[.string ⟨#[49, 51]⟩, .string ⟨#[48, 49, 50, 51, 52, 53, 54, 55, 56, 57]⟩] w fun e w' => e = .returned (.string ⟨#[]⟩) ∧ Below w.heap.size w w' :=
 (Any.strings_Trim_laid Tryz.lays160 (by kernel_rfl) ⟨#[49, 51]⟩ ⟨#[48, 49, 50, 51, 52, 53, 54, 55, 56, 57]⟩ w (by decide) (by decide) (ascii_of_all (by decide +kernel))).mono fun e w' h => ⟨h.1.trans (congrArg (fun l : List UInt8 => Ending.returned (.string ⟨l.toArray⟩)) (by decide +kernel : Lib.trimS [49, 51] [48, 49, 50, 51, 52, 53, 54, 55, 56, 57] = [])), h.2⟩
theorem Yj (w : World) : Calls Tryz.prog 271 #[.string ⟨#[49, 51]⟩, .string ⟨#[45]⟩] w fun e w' => e = .returned (.tuple #[.string ⟨#[49, 51]⟩, .bool false]) ∧ w' = w :=
 (Tryz.strings_CutPrefix ⟨#[49, 51]⟩ ⟨#[45]⟩ w).mono fun e w' h => ⟨h.1.trans (congrArg (fun p : List UInt8 × Bool => Ending.returned (.tuple #[.string ⟨p.1.toArray⟩, .bool p.2])) (by decide +kernel : (Lib.trimPrefix [49, 51] [45], Lib.hasPrefix [49, 51] [45]) = ([49, 51], false))), h.2⟩
theorem Yv (w : World) : Calls Tryz.prog 272 #[.string ⟨#[49, 51]⟩] w fun e w' => e = .returned (.tuple #[.int .i64 13, .nilIface]) ∧ Below w.heap.size w w' :=
 (Tryz.strconv_Atoi ⟨#[49, 51]⟩ 13 (by decide) (by decide +kernel) w).mono fun e w' h => ⟨h.1, by
   obtain ⟨t, rfl⟩ := h.2
   exact Lib.bytesWorld_below _ _ _⟩
theorem XZ (w : World) : Calls Tryz.prog 222 #[.string ⟨#[49, 51]⟩] w fun e w' => e = .returned (.tuple #[.int .i64 13, .bool true]) ∧ Below w.heap.size w w' := by
 go_enter Tryz.func222, Tryz.ntmps222
 go_wp2_with (first
   | (go_at_call 271; refine (Yj _).mono ?_; rintro e w1 ⟨rfl, rfl⟩)
   | (go_at_call 142; refine (Xt _).mono ?_; rintro e w2 ⟨rfl, f2⟩; replace f2 := Aa.mk f2)
   | (go_at_call 272; refine (Yv _).mono ?_; rintro e w3 ⟨rfl, f3⟩; replace f3 := Aa.mk f3))
 go_returns
 exact ⟨rfl, f2.out.trans (f3.out.mono f2.out.size)⟩
theorem OW (w : World) (m : Int) (hm : w.cell? ⟨0, 0, none⟩ = some (.int .i64 m)) : Calls Tryz.prog 221 #[.string ⟨#[49, 57, 55, 50, 45, 48, 49, 45, 48, 49, 32, 49, 48]⟩, .string ⟨#[32]⟩] w fun e w' => e = .returned (.tuple #[.string ⟨#[49, 57, 55, 50, 45, 48, 49, 45, 48, 49]⟩, .string ⟨#[49, 48]⟩, .bool true]) ∧ ∃ n, w' = w.drewN n :=
 (Tryz.strings_Cut ⟨#[49, 57, 55, 50, 45, 48, 49, 45, 48, 49, 32, 49, 48]⟩ ⟨#[32]⟩ m w (by decide) hm).mono fun e w' h => ⟨h.1.trans (congrArg (fun p : List UInt8 × List UInt8 × Bool => Ending.returned (.tuple #[.string ⟨p.1.toArray⟩, .string ⟨p.2.1.toArray⟩, .bool p.2.2])) (by decide +kernel : Lib.cut [49, 57, 55, 50, 45, 48, 49, 45, 48, 49, 32, 49, 48] [32] = ([49, 57, 55, 50, 45, 48, 49, 45, 48, 49], [49, 48], true))), h.2⟩
theorem MK (w : World) (m : Int) (hm : w.cell? ⟨0, 0, none⟩ = some (.int .i64 m)) : Calls Tryz.prog 166 #[.string ⟨#[49, 57, 55, 50, 45, 48, 49, 45, 48, 49, 32, 49, 48]⟩] w fun e w' => e = .returned (.tuple #[.agg #[.int .i64 730, .int .i64 10], .bool true]) ∧ Below w.heap.size w w' := by
 replace hm := Aa.mk hm
 go_enter Tryz.func166, Tryz.ntmps166
 go_wp2_with (first
   | ((with_reducible refine Ac (N := 2) rfl ?_); refine Aj (N := 2) (C := #[.int .i64 0, .int .i64 0]) rfl rfl (by first | (go_simp; done) | (go_simp; rfl)) ?_; intro g2 w2 h2 b2 f2; have hm2 := Aa.mk (cell0 hm.out f2.out))
   | (go_at_call 221; refine (OW _ m hm2.out).mono ?_; rintro e w3 ⟨rfl, d3, rfl⟩)
   | (go_at_call 161; refine (JW _).mono ?_; rintro e w4 ⟨rfl, f4⟩; replace f4 := Aa.mk f4; have b4 := Aa.mk ((b2.out.drewN d3).Ad f4.out))
   | ((with_reducible refine Ac (N := 7) rfl ?_); refine Aj (N := 7) (C := #[.int .i64 0, .int .i64 0, .int .i64 0]) rfl rfl (by first | (go_simp; done) | (go_simp; rfl)) ?_; intro g7 w5 h7 b7 f5; have b5 := Aa.mk (b4.out.Ad f5.out))
   | ((with_reducible refine Af (t := 247) (p := 7) (v := .tmp 21) rfl ?_); refine Ak rfl (ty := 247) (x := .tmp 7) (y := .tmp 21) (cells := #[.int .i64 1972, .int .i64 1, .int .i64 1]) rfl rfl rfl b7.out Bf (by kernel_rfl) (by decide) #[.int .i64 1972, .int .i64 1, .int .i64 1] rfl ?_; intro w6 b76 f6; have b6 := Aa.mk (b5.out.fr f6.out (by have := b4.out.lt; have := h7.out; omega)))
   | ((with_reducible refine Ac (N := 31) rfl ?_); refine Au (N := 31) rfl rfl rfl rfl b76.out Tryz.underlying247 rfl Bf [.int .i64 1972, .int .i64 1, .int .i64 1] rfl rfl ?_)
   | (go_at_call 162; refine (Nh _).mono ?_; rintro e w7 ⟨rfl, f7⟩; replace f7 := Aa.mk f7; have b67 := Aa.mk (b6.out.Ad f7.out))
   | (go_at_call 222; refine (X3 _).mono ?_; rintro e w8 ⟨rfl, f8⟩; replace f8 := Aa.mk f8; have b8 := Aa.mk (b67.out.Ad f8.out))
   | ((with_reducible refine Af (t := 256) (p := 2) (v := .tmp 42) rfl ?_); refine Ak rfl (ty := 256) (x := .tmp 2) (y := .tmp 42) (cells := #[.int .i64 730, .int .i64 10]) rfl rfl rfl b8.out Dp (by kernel_rfl) (by decide) #[.int .i64 730, .int .i64 10] rfl ?_; intro w9 b9 f9))
 refine AO (Tryz.results166) rfl b9.out Tryz.underlying256 rfl Dp rfl rfl ⟨rfl, ?_⟩
 have q2 := f2.out.size
 have q4 := f4.out.size
 have q3 := h2.out
 have q7 := h7.out
 simp at q4
 exact (Fr.trans (Fr.of_below f2.out) (Fr.trans (T := fun k => k = g2 ∨ k = g7) (Fr.drewN (Fr.refl _ w2) _) ((Fr.of_below f4.out).trans ((Fr.of_below f5.out).trans ((f6.out.weaken (fun _ _ h => .inr h)).trans ((Fr.of_below f7.out).trans ((Fr.of_below f8.out).trans (f9.out.weaken (fun _ _ h => .inl h))))))))).below (by omega) (Nat.le_refl _)
theorem OV (w : World) (m : Int) (hm : w.cell? ⟨0, 0, none⟩ = some (.int .i64 m)) : Calls Tryz.prog 221 #[.string ⟨#[49, 57, 55, 50, 45, 48, 55, 45, 48, 49, 32, 49, 49]⟩, .string ⟨#[32]⟩] w fun e w' => e = .returned (.tuple #[.string ⟨#[49, 57, 55, 50, 45, 48, 55, 45, 48, 49]⟩, .string ⟨#[49, 49]⟩, .bool true]) ∧ ∃ n, w' = w.drewN n :=
 (Tryz.strings_Cut ⟨#[49, 57, 55, 50, 45, 48, 55, 45, 48, 49, 32, 49, 49]⟩ ⟨#[32]⟩ m w (by decide) hm).mono fun e w' h => ⟨h.1.trans (congrArg (fun p : List UInt8 × List UInt8 × Bool => Ending.returned (.tuple #[.string ⟨p.1.toArray⟩, .string ⟨p.2.1.toArray⟩, .bool p.2.2])) (by decide +kernel : Lib.cut [49, 57, 55, 50, 45, 48, 55, 45, 48, 49, 32, 49, 49] [32] = ([49, 57, 55, 50, 45, 48, 55, 45, 48, 49], [49, 49], true))), h.2⟩
theorem MJ (w : World) (m : Int) (hm : w.cell? ⟨0, 0, none⟩ = some (.int .i64 m)) : Calls Tryz.prog 166 #[.string ⟨#[49, 57, 55, 50, 45, 48, 55, 45, 48, 49, 32, 49, 49]⟩] w fun e w' => e = .returned (.tuple #[.agg #[.int .i64 912, .int .i64 11], .bool true]) ∧ Below w.heap.size w w' := by
 replace hm := Aa.mk hm
 go_enter Tryz.func166, Tryz.ntmps166
 go_wp2_with (first
   | ((with_reducible refine Ac (N := 2) rfl ?_); refine Aj (N := 2) (C := #[.int .i64 0, .int .i64 0]) rfl rfl (by first | (go_simp; done) | (go_simp; rfl)) ?_; intro g2 w2 h2 b2 f2; have hm2 := Aa.mk (cell0 hm.out f2.out))
   | (go_at_call 221; refine (OV _ m hm2.out).mono ?_; rintro e w3 ⟨rfl, d3, rfl⟩)
   | (go_at_call 161; refine (JV _).mono ?_; rintro e w4 ⟨rfl, f4⟩; replace f4 := Aa.mk f4; have b4 := Aa.mk ((b2.out.drewN d3).Ad f4.out))
   | ((with_reducible refine Ac (N := 7) rfl ?_); refine Aj (N := 7) (C := #[.int .i64 0, .int .i64 0, .int .i64 0]) rfl rfl (by first | (go_simp; done) | (go_simp; rfl)) ?_; intro g7 w5 h7 b7 f5; have b5 := Aa.mk (b4.out.Ad f5.out))
   | ((with_reducible refine Af (t := 247) (p := 7) (v := .tmp 21) rfl ?_); refine Ak rfl (ty := 247) (x := .tmp 7) (y := .tmp 21) (cells := #[.int .i64 1972, .int .i64 7, .int .i64 1]) rfl rfl rfl b7.out Bf (by kernel_rfl) (by decide) #[.int .i64 1972, .int .i64 7, .int .i64 1] rfl ?_; intro w6 b76 f6; have b6 := Aa.mk (b5.out.fr f6.out (by have := b4.out.lt; have := h7.out; omega)))
   | ((with_reducible refine Ac (N := 31) rfl ?_); refine Au (N := 31) rfl rfl rfl rfl b76.out Tryz.underlying247 rfl Bf [.int .i64 1972, .int .i64 7, .int .i64 1] rfl rfl ?_)
   | (go_at_call 162; refine (Nc _).mono ?_; rintro e w7 ⟨rfl, f7⟩; replace f7 := Aa.mk f7; have b67 := Aa.mk (b6.out.Ad f7.out))
   | (go_at_call 222; refine (X0 _).mono ?_; rintro e w8 ⟨rfl, f8⟩; replace f8 := Aa.mk f8; have b8 := Aa.mk (b67.out.Ad f8.out))
   | ((with_reducible refine Af (t := 256) (p := 2) (v := .tmp 42) rfl ?_); refine Ak rfl (ty := 256) (x := .tmp 2) (y := .tmp 42) (cells := #[.int .i64 912, .int .i64 11]) rfl rfl rfl b8.out Dp (by kernel_rfl) (by decide) #[.int .i64 912, .int .i64 11] rfl ?_; intro w9 b9 f9))
 refine AO (Tryz.results166) rfl b9.out Tryz.underlying256 rfl Dp rfl rfl ⟨rfl, ?_⟩
 have q2 := f2.out.size
 have q4 := f4.out.size
 have q3 := h2.out
 have q7 := h7.out
 simp at q4
 exact (Fr.trans (Fr.of_below f2.out) (Fr.trans (T := fun k => k = g2 ∨ k = g7) (Fr.drewN (Fr.refl _ w2) _) ((Fr.of_below f4.out).trans ((Fr.of_below f5.out).trans ((f6.out.weaken (fun _ _ h => .inr h)).trans ((Fr.of_below f7.out).trans ((Fr.of_below f8.out).trans (f9.out.weaken (fun _ _ h => .inl h))))))))).below (by omega) (Nat.le_refl _)
theorem OU (w : World) (m : Int) (hm : w.cell? ⟨0, 0, none⟩ = some (.int .i64 m)) : Calls Tryz.prog 221 #[.string ⟨#[49, 57, 55, 51, 45, 48, 49, 45, 48, 49, 32, 49, 50]⟩, .string ⟨#[32]⟩] w fun e w' => e = .returned (.tuple #[.string ⟨#[49, 57, 55, 51, 45, 48, 49, 45, 48, 49]⟩, .string ⟨#[49, 50]⟩, .bool true]) ∧ ∃ n, w' = w.drewN n :=
 (Tryz.strings_Cut ⟨#[49, 57, 55, 51, 45, 48, 49, 45, 48, 49, 32, 49, 50]⟩ ⟨#[32]⟩ m w (by decide) hm).mono fun e w' h => ⟨h.1.trans (congrArg (fun p : List UInt8 × List UInt8 × Bool => Ending.returned (.tuple #[.string ⟨p.1.toArray⟩, .string ⟨p.2.1.toArray⟩, .bool p.2.2])) (by decide +kernel : Lib.cut [49, 57, 55, 51, 45, 48, 49, 45, 48, 49, 32, 49, 50] [32] = ([49, 57, 55, 51, 45, 48, 49, 45, 48, 49], [49, 50], true))), h.2⟩
theorem MI (w : World) (m : Int) (hm : w.cell? ⟨0, 0, none⟩ = some (.int .i64 m)) : Calls Tryz.prog 166 #[.string ⟨#[49, 57, 55, 51, 45, 48, 49, 45, 48, 49, 32, 49, 50]⟩] w fun e w' => e = .returned (.tuple #[.agg #[.int .i64 1096, .int .i64 12], .bool true]) ∧ Below w.heap.size w w' := by
 replace hm := Aa.mk hm
 go_enter Tryz.func166, Tryz.ntmps166
 go_wp2_with (first
   | ((with_reducible refine Ac (N := 2) rfl ?_); refine Aj (N := 2) (C := #[.int .i64 0, .int .i64 0]) rfl rfl (by first | (go_simp; done) | (go_simp; rfl)) ?_; intro g2 w2 h2 b2 f2; have hm2 := Aa.mk (cell0 hm.out f2.out))
   | (go_at_call 221; refine (OU _ m hm2.out).mono ?_; rintro e w3 ⟨rfl, d3, rfl⟩)
   | (go_at_call 161; refine (JU _).mono ?_; rintro e w4 ⟨rfl, f4⟩; replace f4 := Aa.mk f4; have b4 := Aa.mk ((b2.out.drewN d3).Ad f4.out))
   | ((with_reducible refine Ac (N := 7) rfl ?_); refine Aj (N := 7) (C := #[.int .i64 0, .int .i64 0, .int .i64 0]) rfl rfl (by first | (go_simp; done) | (go_simp; rfl)) ?_; intro g7 w5 h7 b7 f5; have b5 := Aa.mk (b4.out.Ad f5.out))
   | ((with_reducible refine Af (t := 247) (p := 7) (v := .tmp 21) rfl ?_); refine Ak rfl (ty := 247) (x := .tmp 7) (y := .tmp 21) (cells := #[.int .i64 1973, .int .i64 1, .int .i64 1]) rfl rfl rfl b7.out Bf (by kernel_rfl) (by decide) #[.int .i64 1973, .int .i64 1, .int .i64 1] rfl ?_; intro w6 b76 f6; have b6 := Aa.mk (b5.out.fr f6.out (by have := b4.out.lt; have := h7.out; omega)))
   | ((with_reducible refine Ac (N := 31) rfl ?_); refine Au (N := 31) rfl rfl rfl rfl b76.out Tryz.underlying247 rfl Bf [.int .i64 1973, .int .i64 1, .int .i64 1] rfl rfl ?_)
   | (go_at_call 162; refine (Nb _).mono ?_; rintro e w7 ⟨rfl, f7⟩; replace f7 := Aa.mk f7; have b67 := Aa.mk (b6.out.Ad f7.out))
   | (go_at_call 222; refine (Ux _).mono ?_; rintro e w8 ⟨rfl, f8⟩; replace f8 := Aa.mk f8; have b8 := Aa.mk (b67.out.Ad f8.out))
   | ((with_reducible refine Af (t := 256) (p := 2) (v := .tmp 42) rfl ?_); refine Ak rfl (ty := 256) (x := .tmp 2) (y := .tmp 42) (cells := #[.int .i64 1096, .int .i64 12]) rfl rfl rfl b8.out Dp (by kernel_rfl) (by decide) #[.int .i64 1096, .int .i64 12] rfl ?_; intro w9 b9 f9))
 refine AO (Tryz.results166) rfl b9.out Tryz.underlying256 rfl Dp rfl rfl ⟨rfl, ?_⟩
 have q2 := f2.out.size
 have q4 := f4.out.size
 have q3 := h2.out
 have q7 := h7.out
 simp at q4
 exact (Fr.trans (Fr.of_below f2.out) (Fr.trans (T := fun k => k = g2 ∨ k = g7) (Fr.drewN (Fr.refl _ w2) _) ((Fr.of_below f4.out).trans ((Fr.of_below f5.out).trans ((f6.out.weaken (fun _ _ h => .inr h)).trans ((Fr.of_below f7.out).trans ((Fr.of_below f8.out).trans (f9.out.weaken (fun _ _ h => .inl h))))))))).below (by omega) (Nat.le_refl _)
theorem OT (w : World) (m : Int) (hm : w.cell? ⟨0, 0, none⟩ = some (.int .i64 m)) : Calls Tryz.prog 221 #[.string ⟨#[49, 57, 55, 52, 45, 48, 49, 45, 48, 49, 32, 49, 51]⟩, .string ⟨#[32]⟩] w fun e w' => e = .returned (.tuple #[.string ⟨#[49, 57, 55, 52, 45, 48, 49, 45, 48, 49]⟩, .string ⟨#[49, 51]⟩, .bool true]) ∧ ∃ n, w' = w.drewN n :=
 (Tryz.strings_Cut ⟨#[49, 57, 55, 52, 45, 48, 49, 45, 48, 49, 32, 49, 51]⟩ ⟨#[32]⟩ m w (by decide) hm).mono fun e w' h => ⟨h.1.trans (congrArg (fun p : List UInt8 × List UInt8 × Bool => Ending.returned (.tuple #[.string ⟨p.1.toArray⟩, .string ⟨p.2.1.toArray⟩, .bool p.2.2])) (by decide +kernel : Lib.cut [49, 57, 55, 52, 45, 48, 49, 45, 48, 49, 32, 49, 51] [32] = ([49, 57, 55, 52, 45, 48, 49, 45, 48, 49], [49, 51], true))), h.2⟩
theorem MH (w : World) (m : Int) (hm : w.cell? ⟨0, 0, none⟩ = some (.int .i64 m)) : Calls Tryz.prog 166 #[.string ⟨#[49, 57, 55, 52, 45, 48, 49, 45, 48, 49, 32, 49, 51]⟩] w fun e w' => e = .returned (.tuple #[.agg #[.int .i64 1461, .int .i64 13], .bool true]) ∧ Below w.heap.size w w' := by
 replace hm := Aa.mk hm
 go_enter Tryz.func166, Tryz.ntmps166
 go_wp2_with (first
   | ((with_reducible refine Ac (N := 2) rfl ?_); refine Aj (N := 2) (C := #[.int .i64 0, .int .i64 0]) rfl rfl (by first | (go_simp; done) | (go_simp; rfl)) ?_; intro g2 w2 h2 b2 f2; have hm2 := Aa.mk (cell0 hm.out f2.out))
   | (go_at_call 221; refine (OT _ m hm2.out).mono ?_; rintro e w3 ⟨rfl, d3, rfl⟩)
   | (go_at_call 161; refine (JS _).mono ?_; rintro e w4 ⟨rfl, f4⟩; replace f4 := Aa.mk f4; have b4 := Aa.mk ((b2.out.drewN d3).Ad f4.out))
   | ((with_reducible refine Ac (N := 7) rfl ?_); refine Aj (N := 7) (C := #[.int .i64 0, .int .i64 0, .int .i64 0]) rfl rfl (by first | (go_simp; done) | (go_simp; rfl)) ?_; intro g7 w5 h7 b7 f5; have b5 := Aa.mk (b4.out.Ad f5.out))
   | ((with_reducible refine Af (t := 247) (p := 7) (v := .tmp 21) rfl ?_); refine Ak rfl (ty := 247) (x := .tmp 7) (y := .tmp 21) (cells := #[.int .i64 1974, .int .i64 1, .int .i64 1]) rfl rfl rfl b7.out Bf (by kernel_rfl) (by decide) #[.int .i64 1974, .int .i64 1, .int .i64 1] rfl ?_; intro w6 b76 f6; have b6 := Aa.mk (b5.out.fr f6.out (by have := b4.out.lt; have := h7.out; omega)))
   | ((with_reducible refine Ac (N := 31) rfl ?_); refine Au (N := 31) rfl rfl rfl rfl b76.out Tryz.underlying247 rfl Bf [.int .i64 1974, .int .i64 1, .int .i64 1] rfl rfl ?_)
   | (go_at_call 162; refine (Na _).mono ?_; rintro e w7 ⟨rfl, f7⟩; replace f7 := Aa.mk f7; have b67 := Aa.mk (b6.out.Ad f7.out))
   | (go_at_call 222; refine (XZ _).mono ?_; rintro e w8 ⟨rfl, f8⟩; replace f8 := Aa.mk f8; have b8 := Aa.mk (b67.out.Ad f8.out))
   | ((with_reducible refine Af (t := 256) (p := 2) (v := .tmp 42) rfl ?_); refine Ak rfl (ty := 256) (x := .tmp 2) (y := .tmp 42) (cells := #[.int .i64 1461, .int .i64 13]) rfl rfl rfl b8.out Dp (by kernel_rfl) (by decide) #[.int .i64 1461, .int .i64 13] rfl ?_; intro w9 b9 f9))
 refine AO (Tryz.results166) rfl b9.out Tryz.underlying256 rfl Dp rfl rfl ⟨rfl, ?_⟩
 have q2 := f2.out.size
 have q4 := f4.out.size
 have q3 := h2.out
 have q7 := h7.out
 simp at q4
 exact (Fr.trans (Fr.of_below f2.out) (Fr.trans (T := fun k => k = g2 ∨ k = g7) (Fr.drewN (Fr.refl _ w2) _) ((Fr.of_below f4.out).trans ((Fr.of_below f5.out).trans ((f6.out.weaken (fun _ _ h => .inr h)).trans ((Fr.of_below f7.out).trans ((Fr.of_below f8.out).trans (f9.out.weaken (fun _ _ h => .inl h))))))))).below (by omega) (Nat.le_refl _)
theorem OQ (w : World) (m : Int) (hm : w.cell? ⟨0, 0, none⟩ = some (.int .i64 m)) : Calls Tryz.prog 221 #[.string ⟨#[49, 57, 55, 53, 45, 48, 49, 45, 48, 49, 32, 49, 50]⟩, .string ⟨#[32]⟩] w fun e w' => e = .returned (.tuple #[.string ⟨#[49, 57, 55, 53, 45, 48, 49, 45, 48, 49]⟩, .string ⟨#[49, 50]⟩, .bool true]) ∧ ∃ n, w' = w.drewN n :=
 (Tryz.strings_Cut ⟨#[49, 57, 55, 53, 45, 48, 49, 45, 48, 49, 32, 49, 50]⟩ ⟨#[32]⟩ m w (by decide) hm).mono fun e w' h => ⟨h.1.trans (congrArg (fun p : List UInt8 × List UInt8 × Bool => Ending.returned (.tuple #[.string ⟨p.1.toArray⟩, .string ⟨p.2.1.toArray⟩, .bool p.2.2])) (by decide +kernel : Lib.cut [49, 57, 55, 53, 45, 48, 49, 45, 48, 49, 32, 49, 50] [32] = ([49, 57, 55, 53, 45, 48, 49, 45, 48, 49], [49, 50], true))), h.2⟩
theorem MG (w : World) (m : Int) (hm : w.cell? ⟨0, 0, none⟩ = some (.int .i64 m)) : Calls Tryz.prog 166 #[.string ⟨#[49, 57, 55, 53, 45, 48, 49, 45, 48, 49, 32, 49, 50]⟩] w fun e w' => e = .returned (.tuple #[.agg #[.int .i64 1826, .int .i64 12], .bool true]) ∧ Below w.heap.size w w' := by
 replace hm := Aa.mk hm
 go_enter Tryz.func166, Tryz.ntmps166
 go_wp2_with (first
   | ((with_reducible refine Ac (N := 2) rfl ?_); refine Aj (N := 2) (C := #[.int .i64 0, .int .i64 0]) rfl rfl (by first | (go_simp; done) | (go_simp; rfl)) ?_; intro g2 w2 h2 b2 f2; have hm2 := Aa.mk (cell0 hm.out f2.out))
   | (go_at_call 221; refine (OQ _ m hm2.out).mono ?_; rintro e w3 ⟨rfl, d3, rfl⟩)
   | (go_at_call 161; refine (JR _).mono ?_; rintro e w4 ⟨rfl, f4⟩; replace f4 := Aa.mk f4; have b4 := Aa.mk ((b2.out.drewN d3).Ad f4.out))
   | ((with_reducible refine Ac (N := 7) rfl ?_); refine Aj (N := 7) (C := #[.int .i64 0, .int .i64 0, .int .i64 0]) rfl rfl (by first | (go_simp; done) | (go_simp; rfl)) ?_; intro g7 w5 h7 b7 f5; have b5 := Aa.mk (b4.out.Ad f5.out))
   | ((with_reducible refine Af (t := 247) (p := 7) (v := .tmp 21) rfl ?_); refine Ak rfl (ty := 247) (x := .tmp 7) (y := .tmp 21) (cells := #[.int .i64 1975, .int .i64 1, .int .i64 1]) rfl rfl rfl b7.out Bf (by kernel_rfl) (by decide) #[.int .i64 1975, .int .i64 1, .int .i64 1] rfl ?_; intro w6 b76 f6; have b6 := Aa.mk (b5.out.fr f6.out (by have := b4.out.lt; have := h7.out; omega)))
   | ((with_reducible refine Ac (N := 31) rfl ?_); refine Au (N := 31) rfl rfl rfl rfl b76.out Tryz.underlying247 rfl Bf [.int .i64 1975, .int .i64 1, .int .i64 1] rfl rfl ?_)
   | (go_at_call 162; refine (MZ _).mono ?_; rintro e w7 ⟨rfl, f7⟩; replace f7 := Aa.mk f7; have b67 := Aa.mk (b6.out.Ad f7.out))
   | (go_at_call 222; refine (Ux _).mono ?_; rintro e w8 ⟨rfl, f8⟩; replace f8 := Aa.mk f8; have b8 := Aa.mk (b67.out.Ad f8.out))
   | ((with_reducible refine Af (t := 256) (p := 2) (v := .tmp 42) rfl ?_); refine Ak rfl (ty := 256) (x := .tmp 2) (y := .tmp 42) (cells := #[.int .i64 1826, .int .i64 12]) rfl rfl rfl b8.out Dp (by kernel_rfl) (by decide) #[.int .i64 1826, .int .i64 12] rfl ?_; intro w9 b9 f9))
 refine AO (Tryz.results166) rfl b9.out Tryz.underlying256 rfl Dp rfl rfl ⟨rfl, ?_⟩
 have q2 := f2.out.size
 have q4 := f4.out.size
 have q3 := h2.out
 have q7 := h7.out
 simp at q4
 exact (Fr.trans (Fr.of_below f2.out) (Fr.trans (T := fun k => k = g2 ∨ k = g7) (Fr.drewN (Fr.refl _ w2) _) ((Fr.of_below f4.out).trans ((Fr.of_below f5.out).trans ((f6.out.weaken (fun _ _ h => .inr h)).trans ((Fr.of_below f7.out).trans ((Fr.of_below f8.out).trans (f9.out.weaken (fun _ _ h => .inl h))))))))).below (by omega) (Nat.le_refl _)
end Go.Proofs.YtchfmgbjddopoaaGreatDoor.Hand
end
