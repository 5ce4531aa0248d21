import Derived.Shelf.Strings.SlTrimAscii
import Derived.Test.YtchfmgbjddopoaaGreatDoorM03
import Derived.Test.YtchfmgbjddopoaaGreatDoorM04
import Derived.Test.YtchfmgbjddopoaaGreatDoorM38
set_option linter.unusedVariables false
set_option linter.unusedSimpArgs false
set_option maxHeartbeats 6400000
set_option maxRecDepth 100000
namespace Go.Proofs.YtchfmgbjddopoaaGreatDoor.Hand
open Go.RowKit Go.Proofs.YtchfmgbjddopoaaGreatDoorW.PrintWords Go.Proofs.YtchfmgbjddopoaaGreatDoorW.PrintLast Go.Proofs.YtchfmgbjddopoaaGreatDoorW.PrintMore
attribute [local go_sem ↓] Go.wp_at_zero Go.wp_at_succ
theorem PT (w : World) : Calls Tryz.prog 105 #[.int .i64 0] w fun e w' => e = .returned (.string ⟨#[111, 107]⟩) ∧ w' = w := by
 go_enter Tryz.func105, Tryz.ntmps105
 go_wp2
 go_returns
 exact ⟨rfl, rfl⟩
theorem Sz (w : World) : Calls Tryz.prog 108 #[.int .i64 1] w fun e w' => e = .returned (.string ⟨#[49]⟩) ∧ w' = w := by
 go_enter Tryz.func108, Tryz.ntmps108
 go_wp2_with (first
   | (go_at_call 158; refine (YN _).mono ?_; rintro e w' ⟨rfl, rfl⟩))
 go_returns
 exact ⟨rfl, rfl⟩
theorem Vs (w : World) (m s st l : Nat) (lv : Value) (hm : Bk w m #[.pointer (some ⟨s, 0, none⟩), lv] 134) (hs : Bk w s (EU st l 0 0) 195) (hl : Mp w l #[] 0) (hne : s ≠ l) :
   Calls Tryz.prog 98 #[.pointer (some ⟨m, 0, none⟩)] w fun e w' => e = .returned (.string ⟨#[49]⟩) ∧ ∃ x mw, w.heap.size ≤ x ∧ w.heap.size ≤ mw ∧ x ≠ mw ∧ Bk w' s (EU st l 1 0) 195 ∧
     Mp w' l (J4 x) 1 ∧ Bk w' x (RN mw) 244 ∧ Mp w' mw #[] 0 ∧ Fr (fun k => k = s ∨ k = l) w w' := by
 have hB := Su w s st l hs hl hne
 have c0 : w.cell? ⟨m, 0, none⟩ = some (.pointer (some ⟨s, 0, none⟩)) := Bk.cell hm rfl
 clear hs hl hne
 replace hm := Aa.mk hm
 go_enter Tryz.func98, Tryz.ntmps98
 go_wp2_with (first
   | (go_at_call 139; refine hB.mono ?_; clear hB; rintro e w1 ⟨rfl, x, mw, h⟩; replace h := Aa.mk h; clear c0)
   | (go_at_call 108; refine (Sz _).mono ?_; rintro e w' ⟨rfl, rfl⟩))
 go_returns
 exact ⟨rfl, x, mw, h.out⟩
theorem Yz (w : World) (b1 b2 b3 b4 : Nat) : Calls Tryz.prog 102 #[.int .i64 1, .string ⟨#[97]⟩, .string ⟨#[120]⟩, .bool false] w fun e w' => ∃ b1 b2 b3 b4, e = .returned (.func (.func 153) #[] #[.pointer (some ⟨b1, 0, none⟩), .pointer (some ⟨b2, 0, none⟩), .pointer (some ⟨b3, 0, none⟩), .pointer (some ⟨b4, 0, none⟩)]) ∧
   Bk w' b1 #[.string ⟨#[97]⟩] 9 ∧ Bk w' b2 #[.string ⟨#[120]⟩] 9 ∧ Bk w' b3 #[.int .i64 1] 2 ∧ Bk w' b4 #[.bool false] 4 ∧ Below w.heap.size w w' := by
 go_enter Tryz.func102, Tryz.ntmps102
 go_wp2_with (first
   | ((with_reducible refine Ac (N := 4) rfl ?_); refine Aj (N := 4) (C := #[.int .i64 1]) rfl rfl (by first | (go_simp; done) | (go_simp; rfl)) ?_; intro b3 w1 h3 o3 f1)
   | ((with_reducible refine Ac (N := 5) rfl ?_); refine Aj (N := 5) (C := #[.string ⟨#[97]⟩]) rfl rfl (by first | (go_simp; done) | (go_simp; rfl)) ?_; intro b1 w2 h1 o1 f2)
   | ((with_reducible refine Ac (N := 6) rfl ?_); refine Aj (N := 6) (C := #[.string ⟨#[120]⟩]) rfl rfl (by first | (go_simp; done) | (go_simp; rfl)) ?_; intro b2 w3 h2 o2 f3)
   | ((with_reducible refine Ac (N := 7) rfl ?_); refine Aj (N := 7) (C := #[.bool false]) rfl rfl (by first | (go_simp; done) | (go_simp; rfl)) ?_; intro b4 w4 h4 o4 f4))
 go_returns
 exact ⟨b1, b2, b3, b4, rfl, (o1.out.Ad f3.out).Ad f4.out, o2.out.Ad f4.out, ((o3.out.Ad f2.out).Ad f3.out).Ad f4.out, o4.out, ((Fr.of_below (T := fun _ => False) f1.out).trans ((Fr.of_below f2.out).trans ((Fr.of_below f3.out).trans (Fr.of_below f4.out)))).Ad⟩
theorem TU (w : World) : Calls Tryz.prog 103 #[.int .i64 1] w fun e w' => ∃ b, e = .returned (.func (.func 155) #[] #[.pointer (some ⟨b, 0, none⟩)]) ∧ Bk w' b #[.int .i64 1] 2 ∧ Below w.heap.size w w' := by
 go_enter Tryz.func103, Tryz.ntmps103
 go_wp2_with (first
   | ((with_reducible refine Ac (N := 1) rfl ?_); refine Aj (N := 1) (C := #[.int .i64 1]) rfl rfl (by first | (go_simp; done) | (go_simp; rfl)) ?_; intro b3 w1 h3 o3 f1))
 go_returns
 exact ⟨b3, rfl, o3.out, f1.out⟩
end Go.Proofs.YtchfmgbjddopoaaGreatDoor.Hand
section
namespace Go.Proofs.YtchfmgbjddopoaaGreatDoor.Hand
open Go.RowKit Go.Proofs.YtchfmgbjddopoaaGreatDoorW.PrintWords Go.Proofs.YtchfmgbjddopoaaGreatDoorW.PrintLast Go.Proofs.YtchfmgbjddopoaaGreatDoorW.PrintMore
attribute [local go_sem ↓] Go.wp_at_zero Go.wp_at_succ
structure Pt (m s b1 b2 b3 b4 : Nat) (lv : Value) (w : World) : Prop where
 m : Bk w m #[.pointer (some ⟨s, 0, none⟩), lv] 134
 b1 : Bk w b1 #[.string ⟨#[97]⟩] 9
 b2 : Bk w b2 #[.string ⟨#[120]⟩] 9
 b3 : Bk w b3 #[.int .i64 1] 2
 b4 : Bk w b4 #[.bool false] 4
section
variable {m s b1 b2 b3 b4 : Nat} {lv : Value} {w w' : World}
theorem Pt.below (h : Pt m s b1 b2 b3 b4 lv w) (f : Below w.heap.size w w') : Pt m s b1 b2 b3 b4 lv w' := ⟨h.m.Ad f, h.b1.Ad f, h.b2.Ad f, h.b3.Ad f, h.b4.Ad f⟩
theorem Pt.newer (h0 : Pt m s b1 b2 b3 b4 lv w) {w1 : World} {k0 : Nat} (h : Pt m s b1 b2 b3 b4 lv w1) (f : Fr (fun k => k = k0) w1 w') (hk : w.heap.size ≤ k0) : Pt m s b1 b2 b3 b4 lv w' :=
 have q1 := h0.m.lt; have q2 := h0.b1.lt; have q3 := h0.b2.lt; have q4 := h0.b3.lt; have q5 := h0.b4.lt
 ⟨h.m.fr f (by omega), h.b1.fr f (by omega), h.b2.fr f (by omega), h.b3.fr f (by omega), h.b4.fr f (by omega)⟩
theorem Pt.map (h : Pt m s b1 b2 b3 b4 lv w) {k0 c : Nat} {es : Array MapEntry} (hk : Mp w k0 es c) (f : Fr (fun k => k = k0) w w') : Pt m s b1 b2 b3 b4 lv w' := by
 have e : ∀ {b C t}, Bk w b C t → b ≠ k0 := fun hb e => by
   rw [e] at hb
   have := Option.some.inj (hb.symm.trans hk)
   cases this
 exact ⟨h.m.fr f (e h.m), h.b1.fr f (e h.b1), h.b2.fr f (e h.b2), h.b3.fr f (e h.b3), h.b4.fr f (e h.b4)⟩
theorem Pt.drew (h : Pt m s b1 b2 b3 b4 lv w) : Pt m s b1 b2 b3 b4 lv w.drew := ⟨h.m, h.b1, h.b2, h.b3, h.b4⟩
end
theorem YL {m s b1 b2 b3 b4 g7 : Nat} {lv : Value} {w : World} (h : Pt m s b1 b2 b3 b4 lv w) (h7 : Bk w g7 KA 103) :
   w.cell? ⟨m, 0, none⟩ = some (.pointer (some ⟨s, 0, none⟩)) ∧ w.cell? ⟨b2, 0, none⟩ = some (.string ⟨#[120]⟩) ∧ w.cell? ⟨b3, 0, none⟩ = some (.int .i64 1) ∧ w.cell? ⟨b4, 0, none⟩ = some (.bool false) ∧ w.rangeAt g7 0 KA.toList ∧ Pt m s b1 b2 b3 b4 lv w ∧ Bk w g7 KA 103 :=
 ⟨h.m.cell rfl, h.b2.cell rfl, h.b3.cell rfl, h.b4.cell rfl, h7.range 0 16 Ib, h, h7⟩
theorem WI (W : World) : (Instr.build 105 #[(0, .agg KA), (1, .string ⟨#[120]⟩), (2, .bool false)]).run Tryz.prog W = .ok (.agg WA) W := by kernel_rfl
theorem XC (w : World) (m s st l x mw b1 b2 b3 b4 : Nat) (lv : Value) (hP : Pt m s b1 b2 b3 b4 lv w) (hs : Bk w s (EU st l 1 0) 195) (hl : Mp w l (J4 x) 1) (hx : Bk w x (RN mw) 244) (hm : Mp w mw #[] 0) :
   Calls Tryz.prog 153 #[.pointer (some ⟨m, 0, none⟩), .pointer (some ⟨b1, 0, none⟩), .pointer (some ⟨b2, 0, none⟩), .pointer (some ⟨b3, 0, none⟩), .pointer (some ⟨b4, 0, none⟩)] w fun e w' => e = .returned (.string ⟨#[111, 107]⟩) ∧ Mp w' mw Dj 1 ∧ Fr (fun k => k = mw) w w' := by
 have c0 : w.cell? ⟨b1, 0, none⟩ = some (.string ⟨#[97]⟩) := Bk.cell hP.b1 rfl
 replace hP := Aa.mk hP
 replace hs := Aa.mk hs
 replace hl := Aa.mk hl
 replace hx := Aa.mk hx
 replace hm := Aa.mk hm
 go_enter Tryz.func153, Tryz.ntmps153
 go_wp2_with (first
   | (go_at_call 145; refine (Zi _).mono ?_; rintro e w1 ⟨rfl, f1⟩; replace f1 := Aa.mk f1; have P1 := Aa.mk (hP.out.below f1.out); clear c0)
   | ((with_reducible refine Ac (N := 7) rfl ?_); refine Aj (N := 7) (C := Z16) rfl rfl (by first | (go_simp; done) | (go_simp; rfl)) ?_; intro g7 w2 h7 b7 f2; have P2 := Aa.mk (P1.out.below f2.out))
   | ((with_reducible refine Af (t := 103) (p := 7) (v := .tmp 12) rfl ?_); refine Ak rfl (ty := 103) (x := .tmp 7) (y := .tmp 12) rfl rfl rfl b7.out AB QN (by decide) KA QJ ?_; intro w3 b73 f3; have P3 := Aa.mk (P1.out.newer P2.out f3.out h7.out); have c2 : w3.cell? ⟨b2, 0, none⟩ = some (.string ⟨#[120]⟩) := Bk.cell P3.out.b2 rfl))
 have hs3 := Aa.mk (((hs.out.Ad f1.out).Ad f2.out).fr f3.out (by have := (hs.out.Ad f1.out).lt; have := h7.out; omega))
 have hl3 := Aa.mk (((hl.out.Ad f1.out).Ad f2.out).fr f3.out (by have := (hl.out.Ad f1.out).lt; have := h7.out; omega))
 have hx3 := Aa.mk (((hx.out.Ad f1.out).Ad f2.out).fr f3.out (by have := (hx.out.Ad f1.out).lt; have := h7.out; omega))
 have hm3 := Aa.mk (((hm.out.Ad f1.out).Ad f2.out).fr f3.out (by have := (hm.out.Ad f1.out).lt; have := h7.out; omega))
 have hne : Aa (g7 ≠ mw) := ⟨by have := (hm.out.Ad f1.out).lt; have := h7.out; omega⟩
 have u79 := Tryz.underlying103
 have i79 : (Tryz.prog.info? 103).map (·.size) = some KA.toList.length := AB
 have hbw := WI
 refine wp_region_noPanic ?_
 have hQ := Aa.mk (VJ w3.drew s st l x mw hs3.out.drew hl3.out.drew hx3.out.drew hm3.out.drew)
 go_region_held_law (fun w' => w'.cell? ⟨m, 0, none⟩ = some (.pointer (some ⟨s, 0, none⟩)) ∧ w'.cell? ⟨b2, 0, none⟩ = some (.string ⟨#[120]⟩) ∧ w'.cell? ⟨b3, 0, none⟩ = some (.int .i64 1) ∧ w'.cell? ⟨b4, 0, none⟩ = some (.bool false) ∧ w'.rangeAt g7 0 KA.toList ∧ Pt m s b1 b2 b3 b4 lv w' ∧ Bk w' g7 KA 103)
   ((first | exact YL P3.out.drew b73.out.drew | exact YL (Aa.out P4) (Aa.out b74)))
   ((first
     | (go_at_call 154; refine hQ.out.mono ?_
        rintro e w4 ⟨rfl, hm4, f4⟩; replace f4 := Aa.mk f4; replace hm4 := Aa.mk hm4
        have P4 : Aa (Pt m s b1 b2 b3 b4 lv w4) := ⟨P3.out.drew.map hm3.out.drew f4.out⟩
        have b74 : Aa (Bk w4 g7 KA 103) := ⟨b73.out.drew.fr f4.out hne.out⟩)
     | (go_at_call 105; refine (PT _).mono ?_; rintro e w5 ⟨rfl, rfl⟩)))
 refine NoPanic.normal ?_
 clear u79 i79 hbw
 go_wp2_with fail
 go_returns
 have q1 := f1.out.size
 have q7 := h7.out
 exact ⟨rfl, hm4.out, ((Fr.of_below (T := fun k => k = g7 ∨ k = mw) f1.out).trans <| (Fr.of_below f2.out).trans <| (f3.out.weaken (fun _ _ h => .inl h)).drew.trans (f4.out.weaken (fun _ _ h => .inr h))).weaken (fun k hk h => by omega)⟩
end Go.Proofs.YtchfmgbjddopoaaGreatDoor.Hand
namespace Go.Proofs.YtchfmgbjddopoaaGreatDoor.Hand
open Go.RowKit Go.Proofs.YtchfmgbjddopoaaGreatDoorW.PrintWords Go.Proofs.YtchfmgbjddopoaaGreatDoorW.PrintLast Go.Proofs.YtchfmgbjddopoaaGreatDoorW.PrintMore
attribute [local go_sem ↓] Go.wp_at_zero Go.wp_at_succ
theorem Ej {w' : World} {m s b : Nat} {lv : Value} (hm : Bk w' m #[.pointer (some ⟨s, 0, none⟩), lv] 134) (hb : Bk w' b #[.int .i64 1] 2) :
 w'.cell? ⟨m, 0, none⟩ = some (.pointer (some ⟨s, 0, none⟩)) ∧ w'.cell? ⟨b, 0, none⟩ = some (.int .i64 1) ∧ Bk w' m #[.pointer (some ⟨s, 0, none⟩), lv] 134 ∧ Bk w' b #[.int .i64 1] 2 := ⟨hm.cell rfl, hb.cell rfl, hm, hb⟩
theorem Io {w' : World} {m s b g : Nat} {lv v0 v1 : Value} (hm : Bk w' m #[.pointer (some ⟨s, 0, none⟩), lv] 134) (hb : Bk w' b #[.int .i64 1] 2) (h1 : m < g) (h2 : b < g) :
   ((w'.setCell ⟨g, 0, none⟩ v0).setCell ⟨g, 1, none⟩ v1).cell? ⟨m, 0, none⟩ = some (.pointer (some ⟨s, 0, none⟩)) ∧ ((w'.setCell ⟨g, 0, none⟩ v0).setCell ⟨g, 1, none⟩ v1).cell? ⟨b, 0, none⟩ = some (.int .i64 1) ∧ Bk ((w'.setCell ⟨g, 0, none⟩ v0).setCell ⟨g, 1, none⟩ v1) m #[.pointer (some ⟨s, 0, none⟩), lv] 134 ∧ Bk ((w'.setCell ⟨g, 0, none⟩ v0).setCell ⟨g, 1, none⟩ v1) b #[.int .i64 1] 2 :=
 Ej ((hm.far (Nat.ne_of_lt h1) _ _).far (Nat.ne_of_lt h1) _ _) ((hb.far (Nat.ne_of_lt h2) _ _).far (Nat.ne_of_lt h2) _ _)
theorem SB (w : World) (m s st l ch x mw b : Nat) (lv : Value) (hm : Bk w m #[.pointer (some ⟨s, 0, none⟩), lv] 134) (hb : Bk w b #[.int .i64 1] 2) (hC : Cm s st l ch x mw 0 (J4 x) w) :
   Calls Tryz.prog 155 #[.pointer (some ⟨m, 0, none⟩), .pointer (some ⟨b, 0, none⟩)] w fun e w' => e = .returned (.string ⟨#[49, 46, 48]⟩) ∧ Fr (fun k => k = l ∨ k = ch ∨ k = s) w w' := by
 have hmm : Aa ((m ≠ l ∧ m ≠ ch ∧ m ≠ s) ∧ (b ≠ l ∧ b ≠ ch ∧ b ≠ s)) := ⟨by
   refine ⟨⟨?_, ?_, ?_⟩, ?_, ?_, ?_⟩
   · rintro rfl; have := Option.some.inj (hm.symm.trans hC.l); cases this
   · rintro rfl; have := Option.some.inj (hm.symm.trans hC.ch); cases this
   · rintro rfl; have := Option.some.inj (hm.symm.trans hC.s); simp at this
   · rintro rfl; have := Option.some.inj (hb.symm.trans hC.l); cases this
   · rintro rfl; have := Option.some.inj (hb.symm.trans hC.ch); cases this
   · rintro rfl; have := Option.some.inj (hb.symm.trans hC.s); simp at this⟩
 replace hm := Aa.mk hm
 replace hb := Aa.mk hb
 replace hC := Aa.mk hC
 have hQ1 := Aa.mk (Jy w.drew s st l ch x mw hC.out.drew)
 have hQ2 := Aa.mk (Jy (w.alloc (.cells #[.int .i64 0, .int .u8 0] 32)).drew s st l ch x mw (hC.out.alloc _).drew)
 go_enter Tryz.func155, Tryz.ntmps155
 go_wp2_with fail
 refine wp_region_noPanic ?_
 go_region_held_law (fun w' => w'.cell? ⟨m, 0, none⟩ = some (.pointer (some ⟨s, 0, none⟩)) ∧ w'.cell? ⟨b, 0, none⟩ = some (.int .i64 1) ∧ Bk w' m #[.pointer (some ⟨s, 0, none⟩), lv] 134 ∧ Bk w' b #[.int .i64 1] 2)
   ((first | exact Ej hm.out.drew hb.out.drew | exact Ej (Aa.out m2) (Aa.out b2) | exact Ej ((Aa.out m2).alloc _) ((Aa.out b2).alloc _) | exact Ej (hm.out.alloc _).drew (hb.out.alloc _).drew | (with_reducible exact Io (Aa.out m2) (Aa.out b2) hm.out.lt hb.out.lt) | (exact Io ((Aa.out m2).alloc _) ((Aa.out b2).alloc _) (Aa.out m2).lt (Aa.out b2).lt)))
   ((first
     | (go_at_call 156; first | refine hQ1.out.mono ?_ | refine hQ2.out.mono ?_
        rintro e w2 ⟨rfl, f2⟩; replace f2 := Aa.mk f2
        have m2 : Aa (Bk w2 m #[.pointer (some ⟨s, 0, none⟩), lv] 134) := ⟨by refine Ob.fr ?_ f2.out (by have := hmm.out; omega); first | with_reducible exact hm.out.drew | with_reducible exact (hm.out.alloc _).drew⟩
        have b2 : Aa (Bk w2 b #[.int .i64 1] 2) := ⟨by refine Ob.fr ?_ f2.out (by have := hmm.out; omega); first | with_reducible exact hb.out.drew | with_reducible exact (hb.out.alloc _).drew⟩
        try (have b87 : Aa (Bk w2 w.heap.size #[.int .i64 0, .int .u8 0] 32) := ⟨(Ob.new w _).drew.fr f2.out (by have := hC.out.l.lt; have := hC.out.ch.lt; have := hC.out.s.lt; omega)⟩; have n0 := Bk.cell b87.out (j := 0) rfl; have n1 := Bk.cell b87.out (j := 1) rfl; have n2 := Bk.free b87.out 0; have n3 := Bk.free b87.out 1))))
 all_goals refine NoPanic.normal ?_
 · have f2' := f2.out
   refine IJ (S := fun W' => Aa (Bk W' w2.heap.size S1 32) ∧ Aa (Fr (fun k => k = l ∨ k = ch ∨ k = s) w W')) ⟨⟨Ob.new w2 (.cells S1 32)⟩, ⟨((Fr.refl _ w).drew.trans f2').alloc _⟩⟩ ?_
   rintro w3 ⟨b3, f3⟩
   clear f2'
   have c0 : w3.cell? ⟨w2.heap.size, 0, none⟩ = some (.int .i64 1) := Bk.cell b3.out rfl
   have c1 : w3.cell? ⟨w2.heap.size, 1, none⟩ = some (.int .u8 0) := Bk.cell b3.out rfl
   go_wp2_with (first
     | (go_at_call 157; refine (J9 _).mono ?_; rintro e w4 ⟨rfl, f4⟩; replace f4 := Aa.mk f4; clear c0 c1))
   go_returns
   exact ⟨rfl, f3.out.trans (Fr.of_below f4.out)⟩
 · have f2' := f2.out
   refine IJ (S := fun W' => Aa (Bk W' w.heap.size S1 32) ∧ Aa (Fr (fun k => k = l ∨ k = ch ∨ k = s) w W')) ⟨⟨Bk.set (Bk.set b87.out 0 _) 1 _⟩, ⟨((((Fr.refl _ w).alloc _).drew.trans f2').set w.heap.size 0 _ (.inr (Nat.le_refl _))).set w.heap.size 1 _ (.inr (Nat.le_refl _))⟩⟩ ?_
   clear n0 n1 n2 n3
   rintro w3 ⟨b3, f3⟩
   clear f2'
   have c0 : w3.cell? ⟨w.heap.size, 0, none⟩ = some (.int .i64 1) := Bk.cell b3.out rfl
   have c1 : w3.cell? ⟨w.heap.size, 1, none⟩ = some (.int .u8 0) := Bk.cell b3.out rfl
   go_wp2_with (first
     | (go_at_call 157; refine (J9 _).mono ?_; rintro e w4 ⟨rfl, f4⟩; replace f4 := Aa.mk f4; clear c0 c1))
   go_returns
   exact ⟨rfl, f3.out.trans (Fr.of_below f4.out)⟩
end Go.Proofs.YtchfmgbjddopoaaGreatDoor.Hand
end
namespace Go.Proofs.YtchfmgbjddopoaaGreatDoor.Hand
open Go.RowKit Go.Proofs.YtchfmgbjddopoaaGreatDoorW.PrintWords Go.Proofs.YtchfmgbjddopoaaGreatDoorW.PrintLast Go.Proofs.YtchfmgbjddopoaaGreatDoorW.PrintMore
attribute [local go_sem ↓] Go.wp_at_zero Go.wp_at_succ
abbrev RdC (g o n k : Nat) : Array Value := #[.slice (some ⟨g, o, none⟩) n k, .bool false]
theorem GY (w : World) (r g o n k : Nat) (s : ByteArray) (hr : Bk w r (RdC g o (n + 1) (k + 1)) 124) (hs : w.cell? ⟨g, o, none⟩ = some (.string s)) (hn : n ≤ k) :
   Calls Tryz.prog 97 #[.pointer (some ⟨r, 0, none⟩)] w fun e w' => e = .returned (.string s) ∧ (∃ o', (0 < k → o' = o + 1) ∧ Bk w' r (RdC g o' n k) 124) ∧ Fr (fun j => j = r) w w' := by
 have c0 : w.cell? ⟨r, 0, none⟩ = some (.slice (some ⟨g, o, none⟩) (n + 1) (k + 1)) := Bk.cell hr rfl
 have z0 := Bk.free hr 0
 replace hr := Aa.mk hr
 go_enter Tryz.func97, Tryz.ntmps97
 go_wp2_with fail
 · go_returns
   rename_i hk0
   refine ⟨rfl, ?_, (Fr.refl _ w).set r 0 _ (.inl rfl)⟩
   subst k
   exact ⟨o, Bk.set hr.out 0 _⟩
 · go_returns
   exact ⟨rfl, ⟨o + 1, fun _ => rfl, Bk.set hr.out 0 _⟩, (Fr.refl _ w).set r 0 _ (.inl rfl)⟩
theorem Y1 (w : World) : Calls Tryz.prog 142 #[.string ⟨#[49]⟩, .string ⟨#[48, 49, 50, 51, 52, 53, 54, 55, 56, 57]⟩] w fun e w' => e = .returned (.string ⟨#[]⟩) ∧ Below w.heap.size w w' :=
 (Any.strings_Trim_laid Tryz.lays160 (by kernel_rfl) ⟨#[49]⟩ ⟨#[48, 49, 50, 51, 52, 53, 54, 55, 56, 57]⟩ w (by decide) (by decide) (ascii_of_all (by decide +kernel))).mono fun e w' h => ⟨h.1.trans (congrArg (fun l : List UInt8 => Ending.returned (.string ⟨l.toArray⟩)) (by decide +kernel : Lib.trimS [49] [48, 49, 50, 51, 52, 53, 54, 55, 56, 57] = [])), h.2⟩
theorem VP (w : World) : Calls Tryz.prog 141 #[.string ⟨#[49]⟩, .string ⟨#[45]⟩] w fun e w' => e = .returned (.string ⟨#[49]⟩) ∧ w' = w :=
 (Tryz.strings_TrimPrefix ⟨#[49]⟩ ⟨#[45]⟩ w).mono fun e w' h => ⟨h.1.trans (congrArg (fun l : List UInt8 => Ending.returned (.string ⟨l.toArray⟩)) (by decide +kernel : Lib.trimPrefix [49] [45] = [49])), h.2⟩
theorem XP (w : World) : Calls Tryz.prog 143 #[.string ⟨#[49]⟩, .int .i64 10, .int .i64 64] w fun e w' => e = .returned (.tuple #[.int .i64 1, .nilIface]) ∧ Below w.heap.size w w' :=
 (Tryz.strconv_ParseInt_10_at64_ok ⟨#[49]⟩ (by decide) 1 (by decide +kernel) w).mono fun e w' h => ⟨h.1, by
   rcases h.2 with rfl | ⟨t, rfl⟩
   · exact Below.refl _ _
   · exact Lib.bytesWorld_below _ _ _⟩
theorem WV (w : World) (r g o n k : Nat) (hr : Bk w r (RdC g o (n + 1) (k + 1)) 124) (hs : w.cell? ⟨g, o, none⟩ = some (.string ⟨#[49]⟩)) (hn : n ≤ k) :
   Calls Tryz.prog 99 #[.pointer (some ⟨r, 0, none⟩)] w fun e w' => e = .returned (.int .i64 1) ∧ (∃ o', (0 < k → o' = o + 1) ∧ Bk w' r (RdC g o' n k) 124) ∧ Fr (fun j => j = r) w w' := by
 have hw := GY w r g o n k ⟨#[49]⟩ hr hs hn
 clear hr hs hn
 go_enter Tryz.func99, Tryz.ntmps99
 go_wp2_with (first
   | (go_at_call 97; refine hw.mono ?_; clear hw; rintro e w1 ⟨rfl, hr1, f1⟩; replace hr1 := Aa.mk hr1; replace f1 := Aa.mk f1)
   | (go_at_call 141; refine (VP _).mono ?_; rintro e w' ⟨rfl, rfl⟩)
   | (go_at_call 142; refine (Y1 _).mono ?_; rintro e w2 ⟨rfl, f2⟩; replace f2 := Aa.mk f2)
   | (go_at_call 143; refine (XP _).mono ?_; rintro e w3 ⟨rfl, f3⟩; replace f3 := Aa.mk f3))
 go_returns
 obtain ⟨o', ho, h1⟩ := hr1.out
 exact ⟨rfl, ⟨o', ho, (h1.Ad f2.out).Ad f3.out⟩, (f1.out.trans (Fr.of_below f2.out)).trans (Fr.of_below f3.out)⟩
theorem SQ (w : World) (r g k : Nat) (C : Array Value) (hr : Bk w r (RdC g 0 1 (k + 1)) 124) (hg : Bk w g C 9) (h0 : C[0]? = some (.string ⟨#[98, 101, 103, 105, 110]⟩)) :
   Calls Tryz.prog 60 #[.pointer (some ⟨r, 0, none⟩)] w fun e w' => e = .returned (.func (.func 98) #[] #[]) ∧ (∃ o', Bk w' r (RdC g o' 0 k) 124) ∧ Fr (fun j => j = r) w w' := by
 have h1 := Aa.mk (GY w r g 0 0 k _ hr (Bk.cell hg h0) (by omega))
 clear hr hg h0
 go_enter Tryz.func60, Tryz.ntmps60
 go_wp2_with (first
   | (go_at_call 97; refine h1.out.mono ?_; clear h1; rintro e w1 ⟨rfl, ⟨o', _, hr1⟩, f1⟩; replace hr1 := Aa.mk hr1; replace f1 := Aa.mk f1))
 go_returns
 exact ⟨rfl, ⟨o', hr1.out⟩, f1.out⟩
theorem Qb (w : World) (r g k : Nat) (C : Array Value) (hne : g ≠ r) (hr : Bk w r (RdC g 0 2 (k + 2)) 124) (hg : Bk w g C 9) (h0 : C[0]? = some (.string ⟨#[99, 111, 109, 109, 105, 116]⟩)) (h1 : C[1]? = some (.string ⟨#[49]⟩)) :
   Calls Tryz.prog 60 #[.pointer (some ⟨r, 0, none⟩)] w fun e w' => ∃ b, e = .returned (.func (.func 155) #[] #[.pointer (some ⟨b, 0, none⟩)]) ∧ (∃ o', Bk w' r (RdC g o' 0 k) 124) ∧ Bk w' b #[.int .i64 1] 2 ∧ Fr (fun j => j = r) w w' := by
 have q1 := Aa.mk (GY w r g 0 1 (k + 1) _ hr (Bk.cell hg h0) (by omega))
 replace hg := Aa.mk hg
 replace hne := Aa.mk hne
 replace h1 := Aa.mk h1
 clear hr h0
 go_enter Tryz.func60, Tryz.ntmps60
 go_wp2_with (first
   | (go_at_call 97; refine q1.out.mono ?_; clear q1; rintro e w1 ⟨rfl, ⟨o1, ho1, hr1⟩, f1⟩; obtain rfl := ho1 (by omega); have q2 := Aa.mk (WV w1 r g _ 0 k hr1 (Bk.cell (hg.out.fr f1 hne.out) h1.out) (by omega)); replace f1 := Aa.mk f1; clear hr1 ho1)
   | (go_at_call 99; refine q2.out.mono ?_; clear q2; rintro e w2 ⟨rfl, ⟨o2, _, hr2⟩, f2⟩; replace hr2 := Aa.mk hr2; replace f2 := Aa.mk f2)
   | (go_at_call 103; refine (TU _).mono ?_; rintro e w3 ⟨b, rfl, hb, f3⟩; replace hb := Aa.mk hb; replace f3 := Aa.mk f3))
 go_returns
 have F := f1.out.trans f2.out
 exact ⟨b, rfl, ⟨o2, hr2.out.Ad f3.out⟩, hb.out, F.trans (Fr.of_below f3.out)⟩
theorem V3 (w : World) (r g k : Nat) (C : Array Value) (hne : g ≠ r) (hr : Bk w r (RdC g 0 4 (k + 4)) 124) (hg : Bk w g C 9) (h0 : C[0]? = some (.string ⟨#[112, 117, 116]⟩)) (h1 : C[1]? = some (.string ⟨#[49]⟩)) (h2 : C[2]? = some (.string ⟨#[97]⟩)) (h3 : C[3]? = some (.string ⟨#[120]⟩)) :
   Calls Tryz.prog 60 #[.pointer (some ⟨r, 0, none⟩)] w fun e w' => ∃ b1 b2 b3 b4, e = .returned (.func (.func 153) #[] #[.pointer (some ⟨b1, 0, none⟩), .pointer (some ⟨b2, 0, none⟩), .pointer (some ⟨b3, 0, none⟩), .pointer (some ⟨b4, 0, none⟩)]) ∧ (∃ o', Bk w' r (RdC g o' 0 k) 124) ∧
     Bk w' b1 #[.string ⟨#[97]⟩] 9 ∧ Bk w' b2 #[.string ⟨#[120]⟩] 9 ∧ Bk w' b3 #[.int .i64 1] 2 ∧ Bk w' b4 #[.bool false] 4 ∧ Fr (fun j => j = r) w w' := by
 have q1 := Aa.mk (GY w r g 0 3 (k + 3) _ hr (Bk.cell hg h0) (by omega))
 replace hg := Aa.mk hg
 replace hne := Aa.mk hne
 replace h1 := Aa.mk h1
 replace h2 := Aa.mk h2
 replace h3 := Aa.mk h3
 clear hr h0
 go_enter Tryz.func60, Tryz.ntmps60
 go_wp2_with (first
   | (go_at_call 97; refine q1.out.mono ?_; clear q1; rintro e w1 ⟨rfl, ⟨o1, ho1, hr1⟩, f1⟩; obtain rfl := ho1 (by omega); have hg1 := Aa.mk (hg.out.fr f1 hne.out); have q2 := Aa.mk (WV w1 r g _ 2 (k + 2) hr1 (Bk.cell hg1.out h1.out) (by omega)); replace f1 := Aa.mk f1; clear hr1 ho1)
   | (go_at_call 99; refine q2.out.mono ?_; clear q2; rintro e w2 ⟨rfl, ⟨o2, ho2, hr2⟩, f2⟩; obtain rfl := ho2 (by omega); have hg2 := Aa.mk ((Aa.out hg1).fr f2 hne.out); have q3 := Aa.mk (GY w2 r g _ 1 (k + 1) _ hr2 (Bk.cell hg2.out h2.out) (by omega)); replace f2 := Aa.mk f2; clear hr2 ho2)
   | (go_at_call 97; refine q3.out.mono ?_; clear q3; rintro e w3 ⟨rfl, ⟨o3, ho3, hr3⟩, f3⟩; obtain rfl := ho3 (by omega); have hg3 := Aa.mk ((Aa.out hg2).fr f3 hne.out); have q4 := Aa.mk (GY w3 r g _ 0 k _ hr3 (Bk.cell hg3.out h3.out) (by omega)); replace f3 := Aa.mk f3; clear hr3 ho3)
   | (go_at_call 97; refine q4.out.mono ?_; clear q4; rintro e w4 ⟨rfl, ⟨o4, _, hr4⟩, f4⟩; replace hr4 := Aa.mk hr4; replace f4 := Aa.mk f4)
   | (go_at_call 102; refine (Yz _ 0 0 0 0).mono ?_; rintro e w5 ⟨b1, b2, b3, b4, rfl, hb1, hb2, hb3, hb4, f5⟩; replace hb1 := Aa.mk hb1; replace hb2 := Aa.mk hb2; replace hb3 := Aa.mk hb3; replace hb4 := Aa.mk hb4; replace f5 := Aa.mk f5))
 go_returns
 exact ⟨b1, b2, b3, b4, rfl, ⟨o4, hr4.out.Ad f5.out⟩, hb1.out, hb2.out, hb3.out, hb4.out, (((f1.out.trans f2.out).trans f3.out).trans f4.out).trans (Fr.of_below f5.out)⟩
end Go.Proofs.YtchfmgbjddopoaaGreatDoor.Hand
