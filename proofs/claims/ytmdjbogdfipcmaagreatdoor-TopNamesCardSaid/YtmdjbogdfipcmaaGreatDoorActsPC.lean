/- The acts put and commit. -/
import Derived.Test.YtmdjbogdfipcmaaGreatDoorActs
namespace Go.Proofs.YtmdjbogdfipcmaaGreatDoor.Hand
set_option linter.unusedSimpArgs false
set_option linter.unusedVariables false
open Go.RowKit Go.Proofs.YtmdjbogdfipcmaaGreatDoorW.PrintWords Go.Proofs.YtmdjbogdfipcmaaGreatDoorW.PrintLast Go.Proofs.YtmdjbogdfipcmaaGreatDoorW.PrintMore
attribute [local go_sem ↓] Go.wp_at_zero Go.wp_at_succ

/-- What the act put finds. -/
structure Pt (m s b1 b2 b3 b4 : Nat) (lv : Value) (w : World) : Prop where
  m : Bk w m #[.pointer (some ⟨s, 0, none⟩), lv] 42
  b1 : Bk w b1 #[.string ⟨#[97]⟩] 9
  b2 : Bk w b2 #[.string ⟨#[120]⟩] 9
  b3 : Bk w b3 #[.int .i64 1] 2
  b4 : Bk w b4 #[.bool false] 4
section
variable {m s b1 b2 b3 b4 : Nat} {lv : Value} {w w' : World}
theorem Pt.below (h : Pt m s b1 b2 b3 b4 lv w) (f : Below w.heap.size w w') : Pt m s b1 b2 b3 b4 lv w' := ⟨h.m.belowS f, h.b1.belowS f, h.b2.belowS f, h.b3.belowS f, h.b4.belowS f⟩
theorem Pt.newer (h0 : Pt m s b1 b2 b3 b4 lv w) {w1 : World} {k0 : Nat} (h : Pt m s b1 b2 b3 b4 lv w1) (f : Fr (fun k => k = k0) w1 w') (hk : w.heap.size ≤ k0) : Pt m s b1 b2 b3 b4 lv w' :=
  have q1 := h0.m.lt; have q2 := h0.b1.lt; have q3 := h0.b2.lt; have q4 := h0.b3.lt; have q5 := h0.b4.lt
  ⟨h.m.fr f (by omega), h.b1.fr f (by omega), h.b2.fr f (by omega), h.b3.fr f (by omega), h.b4.fr f (by omega)⟩
theorem Pt.map (h : Pt m s b1 b2 b3 b4 lv w) {k0 c : Nat} {es : Array MapEntry} (hk : Mp w k0 es c) (f : Fr (fun k => k = k0) w w') : Pt m s b1 b2 b3 b4 lv w' := by
  have e : ∀ {b C t}, Bk w b C t → b ≠ k0 := fun hb e => by
    rw [e] at hb
    have := Option.some.inj (hb.symm.trans hk)
    cases this
  exact ⟨h.m.fr f (e h.m), h.b1.fr f (e h.b1), h.b2.fr f (e h.b2), h.b3.fr f (e h.b3), h.b4.fr f (e h.b4)⟩
theorem Pt.drew (h : Pt m s b1 b2 b3 b4 lv w) : Pt m s b1 b2 b3 b4 lv w.drew := ⟨h.m, h.b1, h.b2, h.b3, h.b4⟩
end
theorem put_s {m s b1 b2 b3 b4 g7 : Nat} {lv : Value} {w : World} (h : Pt m s b1 b2 b3 b4 lv w) (h7 : Bk w g7 KA 79) :
    w.cell? ⟨m, 0, none⟩ = some (.pointer (some ⟨s, 0, none⟩)) ∧ w.cell? ⟨b2, 0, none⟩ = some (.string ⟨#[120]⟩) ∧ w.cell? ⟨b3, 0, none⟩ = some (.int .i64 1) ∧ w.cell? ⟨b4, 0, none⟩ = some (.bool false) ∧ w.rangeAt g7 0 KA.toList ∧ Pt m s b1 b2 b3 b4 lv w ∧ Bk w g7 KA 79 :=
  ⟨h.m.cell rfl, h.b2.cell rfl, h.b3.cell rfl, h.b4.cell rfl, h7.range 0 16 ka_cut, h, h7⟩
theorem build_wa (W : World) : (Instr.build 96 #[(0, .agg KA), (1, .string ⟨#[120]⟩), (2, .bool false)]).run Tryz.prog W = .ok (.agg WA) W := by kernel_rfl

set_option maxHeartbeats 1600000 in
set_option maxRecDepth 100000 in
theorem run_put (w : World) (m s st l x mw b1 b2 b3 b4 : Nat) (lv : Value) (hP : Pt m s b1 b2 b3 b4 lv w) (hs : Bk w s (SoloC st l 1 0) 67) (hl : Mp w l (OneTxn x) 1) (hx : Bk w x (TxnC mw) 107) (hm : Mp w mw #[] 0) :
    Calls Tryz.prog 49 #[.pointer (some ⟨m, 0, none⟩), .pointer (some ⟨b1, 0, none⟩), .pointer (some ⟨b2, 0, none⟩), .pointer (some ⟨b3, 0, none⟩), .pointer (some ⟨b4, 0, none⟩)] w fun e w' => e = .returned (.string ⟨#[111, 107]⟩) ∧ Mp w' mw OneWrite 1 ∧ Fr (fun k => k = mw) w w' := by
  have c0 : w.cell? ⟨b1, 0, none⟩ = some (.string ⟨#[97]⟩) := Bk.cell hP.b1 rfl
  replace hP := Aside0.mk hP
  replace hs := Aside0.mk hs
  replace hl := Aside0.mk hl
  replace hx := Aside0.mk hx
  replace hm := Aside0.mk hm
  go_enter Tryz.func49, Tryz.ntmps49
  go_wp2_with (first
    | (go_at_call 41; refine (key_of _).mono ?_; rintro e w1 ⟨rfl, f1⟩; replace f1 := Aside0.mk f1; have P1 := Aside0.mk (hP.out.below f1.out); clear c0)
    | ((with_reducible refine gate_dst (N := 7) rfl ?_); refine ev_ptr (N := 7) (C := Z16) rfl rfl (by first | (go_simp; done) | (go_simp; rfl)) ?_; intro g7 w2 h7 b7 f2; have P2 := Aside0.mk (P1.out.below f2.out))
    | ((with_reducible refine gate_store (t := 79) (p := 7) (v := .tmp 12) rfl ?_); refine ev_store rfl (ty := 79) (x := .tmp 7) (y := .tmp 12) rfl rfl rfl b7.out info79 ka_one (by decide) KA z_over ?_; intro w3 b73 f3; have P3 := Aside0.mk (P1.out.newer P2.out f3.out h7.out); have c2 : w3.cell? ⟨b2, 0, none⟩ = some (.string ⟨#[120]⟩) := Bk.cell P3.out.b2 rfl))
  have hs3 := Aside0.mk (((hs.out.belowS f1.out).belowS f2.out).fr f3.out (by have := (hs.out.belowS f1.out).lt; have := h7.out; omega))
  have hl3 := Aside0.mk (((hl.out.belowS f1.out).belowS f2.out).fr f3.out (by have := (hl.out.belowS f1.out).lt; have := h7.out; omega))
  have hx3 := Aside0.mk (((hx.out.belowS f1.out).belowS f2.out).fr f3.out (by have := (hx.out.belowS f1.out).lt; have := h7.out; omega))
  have hm3 := Aside0.mk (((hm.out.belowS f1.out).belowS f2.out).fr f3.out (by have := (hm.out.belowS f1.out).lt; have := h7.out; omega))
  have hne : Aside0 (g7 ≠ mw) := ⟨by have := (hm.out.belowS f1.out).lt; have := h7.out; omega⟩
  have u79 := Tryz.underlying79
  have i79 : (Tryz.prog.info? 79).map (·.size) = some KA.toList.length := info79
  have hbw := build_wa
  refine wp_region_noPanic ?_
  have hQ := Aside0.mk (solo_put w3.drew s st l x mw hs3.out.drew hl3.out.drew hx3.out.drew hm3.out.drew)
  go_region_held_law (fun w' => w'.cell? ⟨m, 0, none⟩ = some (.pointer (some ⟨s, 0, none⟩)) ∧ w'.cell? ⟨b2, 0, none⟩ = some (.string ⟨#[120]⟩) ∧ w'.cell? ⟨b3, 0, none⟩ = some (.int .i64 1) ∧ w'.cell? ⟨b4, 0, none⟩ = some (.bool false) ∧ w'.rangeAt g7 0 KA.toList ∧ Pt m s b1 b2 b3 b4 lv w' ∧ Bk w' g7 KA 79)
    ((first | exact put_s P3.out.drew b73.out.drew | exact put_s (Aside0.out P4) (Aside0.out b74)))
    ((first
      | (go_at_call 50; refine hQ.out.mono ?_
         rintro e w4 ⟨rfl, hm4, f4⟩; replace f4 := Aside0.mk f4; replace hm4 := Aside0.mk hm4
         have P4 : Aside0 (Pt m s b1 b2 b3 b4 lv w4) := ⟨P3.out.drew.map hm3.out.drew f4.out⟩
         have b74 : Aside0 (Bk w4 g7 KA 79) := ⟨b73.out.drew.fr f4.out hne.out⟩)
      | (go_at_call 22; refine (script_done _).mono ?_; rintro e w5 ⟨rfl, rfl⟩)))
  refine NoPanic.normal ?_
  clear u79 i79 hbw
  go_wp2_with fail
  go_returns
  have q1 := f1.out.size
  have q7 := h7.out
  exact ⟨rfl, hm4.out, ((Fr.of_below (T := fun k => k = g7 ∨ k = mw) f1.out).trans <| (Fr.of_below f2.out).trans <| (f3.out.weaken (fun _ _ h => .inl h)).drew.trans (f4.out.weaken (fun _ _ h => .inr h))).weaken (fun k hk h => by omega)⟩
end Go.Proofs.YtmdjbogdfipcmaaGreatDoor.Hand
namespace Go.Proofs.YtmdjbogdfipcmaaGreatDoor.Hand
set_option linter.unusedSimpArgs false
set_option linter.unusedVariables false
open Go.RowKit Go.Proofs.YtmdjbogdfipcmaaGreatDoorW.PrintWords Go.Proofs.YtmdjbogdfipcmaaGreatDoorW.PrintLast Go.Proofs.YtmdjbogdfipcmaaGreatDoorW.PrintMore
attribute [local go_sem ↓] Go.wp_at_zero Go.wp_at_succ

theorem commit_keep {w' : World} {m s b : Nat} {lv : Value} (hm : Bk w' m #[.pointer (some ⟨s, 0, none⟩), lv] 42) (hb : Bk w' b #[.int .i64 1] 2) :
    w'.cell? ⟨m, 0, none⟩ = some (.pointer (some ⟨s, 0, none⟩)) ∧ w'.cell? ⟨b, 0, none⟩ = some (.int .i64 1) ∧ Bk w' m #[.pointer (some ⟨s, 0, none⟩), lv] 42 ∧ Bk w' b #[.int .i64 1] 2 := ⟨hm.cell rfl, hb.cell rfl, hm, hb⟩

theorem commit_keep2 {w' : World} {m s b g : Nat} {lv v0 v1 : Value} (hm : Bk w' m #[.pointer (some ⟨s, 0, none⟩), lv] 42) (hb : Bk w' b #[.int .i64 1] 2) (h1 : m < g) (h2 : b < g) :
    ((w'.setCell ⟨g, 0, none⟩ v0).setCell ⟨g, 1, none⟩ v1).cell? ⟨m, 0, none⟩ = some (.pointer (some ⟨s, 0, none⟩)) ∧ ((w'.setCell ⟨g, 0, none⟩ v0).setCell ⟨g, 1, none⟩ v1).cell? ⟨b, 0, none⟩ = some (.int .i64 1) ∧ Bk ((w'.setCell ⟨g, 0, none⟩ v0).setCell ⟨g, 1, none⟩ v1) m #[.pointer (some ⟨s, 0, none⟩), lv] 42 ∧ Bk ((w'.setCell ⟨g, 0, none⟩ v0).setCell ⟨g, 1, none⟩ v1) b #[.int .i64 1] 2 :=
  commit_keep ((hm.far (Nat.ne_of_lt h1) _ _).far (Nat.ne_of_lt h1) _ _) ((hb.far (Nat.ne_of_lt h2) _ _).far (Nat.ne_of_lt h2) _ _)
set_option maxHeartbeats 1600000 in
theorem run_commit (w : World) (m s st l ch x mw b : Nat) (lv : Value) (hm : Bk w m #[.pointer (some ⟨s, 0, none⟩), lv] 42) (hb : Bk w b #[.int .i64 1] 2) (hC : Cm s st l ch x mw 0 (OneTxn x) w) :
    Calls Tryz.prog 51 #[.pointer (some ⟨m, 0, none⟩), .pointer (some ⟨b, 0, none⟩)] w fun e w' => e = .returned (.string ⟨#[49, 46, 48]⟩) ∧ Fr (fun k => k = l ∨ k = ch ∨ k = s) w w' := by
  have hmm : Aside0 ((m ≠ l ∧ m ≠ ch ∧ m ≠ s) ∧ (b ≠ l ∧ b ≠ ch ∧ b ≠ s)) := ⟨by
    refine ⟨⟨?_, ?_, ?_⟩, ?_, ?_, ?_⟩
    · rintro rfl; have := Option.some.inj (hm.symm.trans hC.l); cases this
    · rintro rfl; have := Option.some.inj (hm.symm.trans hC.ch); cases this
    · rintro rfl; have := Option.some.inj (hm.symm.trans hC.s); simp at this
    · rintro rfl; have := Option.some.inj (hb.symm.trans hC.l); cases this
    · rintro rfl; have := Option.some.inj (hb.symm.trans hC.ch); cases this
    · rintro rfl; have := Option.some.inj (hb.symm.trans hC.s); simp at this⟩
  replace hm := Aside0.mk hm
  replace hb := Aside0.mk hb
  replace hC := Aside0.mk hC
  have hQ1 := Aside0.mk (solo_commit w.drew s st l ch x mw hC.out.drew)
  have hQ2 := Aside0.mk (solo_commit (w.alloc (.cells #[.int .i64 0, .int .u8 0] 98)).drew s st l ch x mw (hC.out.alloc _).drew)
  go_enter Tryz.func51, Tryz.ntmps51
  go_wp2_with fail
  refine wp_region_noPanic ?_
  go_region_held_law (fun w' => w'.cell? ⟨m, 0, none⟩ = some (.pointer (some ⟨s, 0, none⟩)) ∧ w'.cell? ⟨b, 0, none⟩ = some (.int .i64 1) ∧ Bk w' m #[.pointer (some ⟨s, 0, none⟩), lv] 42 ∧ Bk w' b #[.int .i64 1] 2)
    ((first | exact commit_keep hm.out.drew hb.out.drew | exact commit_keep (Aside0.out m2) (Aside0.out b2) | exact commit_keep ((Aside0.out m2).alloc _) ((Aside0.out b2).alloc _) | exact commit_keep (hm.out.alloc _).drew (hb.out.alloc _).drew | (with_reducible exact commit_keep2 (Aside0.out m2) (Aside0.out b2) hm.out.lt hb.out.lt) | (exact commit_keep2 ((Aside0.out m2).alloc _) ((Aside0.out b2).alloc _) (Aside0.out m2).lt (Aside0.out b2).lt)))
    ((first
      | (go_at_call 52; first | refine hQ1.out.mono ?_ | refine hQ2.out.mono ?_
         rintro e w2 ⟨rfl, f2⟩; replace f2 := Aside0.mk f2
         have m2 : Aside0 (Bk w2 m #[.pointer (some ⟨s, 0, none⟩), lv] 42) := ⟨by refine Ob.fr ?_ f2.out (by have := hmm.out; omega); first | with_reducible exact hm.out.drew | with_reducible exact (hm.out.alloc _).drew⟩
         have b2 : Aside0 (Bk w2 b #[.int .i64 1] 2) := ⟨by refine Ob.fr ?_ f2.out (by have := hmm.out; omega); first | with_reducible exact hb.out.drew | with_reducible exact (hb.out.alloc _).drew⟩
         try (have b87 : Aside0 (Bk w2 w.heap.size #[.int .i64 0, .int .u8 0] 98) := ⟨(Ob.new w _).drew.fr f2.out (by have := hC.out.l.lt; have := hC.out.ch.lt; have := hC.out.s.lt; omega)⟩; have n0 := Bk.cell b87.out (j := 0) rfl; have n1 := Bk.cell b87.out (j := 1) rfl; have n2 := Bk.free b87.out 0; have n3 := Bk.free b87.out 1))))
  all_goals refine NoPanic.normal ?_
  · have f2' := f2.out
    refine on_world (S := fun W' => Aside0 (Bk W' w2.heap.size S1 98) ∧ Aside0 (Fr (fun k => k = l ∨ k = ch ∨ k = s) w W')) ⟨⟨Ob.new w2 (.cells S1 98)⟩, ⟨((Fr.refl _ w).drew.trans f2').alloc _⟩⟩ ?_
    rintro w3 ⟨b3, f3⟩
    clear f2'
    have c0 : w3.cell? ⟨w2.heap.size, 0, none⟩ = some (.int .i64 1) := Bk.cell b3.out rfl
    have c1 : w3.cell? ⟨w2.heap.size, 1, none⟩ = some (.int .u8 0) := Bk.cell b3.out rfl
    go_wp2_with (first
      | (go_at_call 53; refine (stamp_text _).mono ?_; rintro e w4 ⟨rfl, f4⟩; replace f4 := Aside0.mk f4; clear c0 c1))
    go_returns
    exact ⟨rfl, f3.out.trans (Fr.of_below f4.out)⟩
  · have f2' := f2.out
    refine on_world (S := fun W' => Aside0 (Bk W' w.heap.size S1 98) ∧ Aside0 (Fr (fun k => k = l ∨ k = ch ∨ k = s) w W')) ⟨⟨Bk.set (Bk.set b87.out 0 _) 1 _⟩, ⟨((((Fr.refl _ w).alloc _).drew.trans f2').set w.heap.size 0 _ (.inr (Nat.le_refl _))).set w.heap.size 1 _ (.inr (Nat.le_refl _))⟩⟩ ?_
    clear n0 n1 n2 n3
    rintro w3 ⟨b3, f3⟩
    clear f2'
    have c0 : w3.cell? ⟨w.heap.size, 0, none⟩ = some (.int .i64 1) := Bk.cell b3.out rfl
    have c1 : w3.cell? ⟨w.heap.size, 1, none⟩ = some (.int .u8 0) := Bk.cell b3.out rfl
    go_wp2_with (first
      | (go_at_call 53; refine (stamp_text _).mono ?_; rintro e w4 ⟨rfl, f4⟩; replace f4 := Aside0.mk f4; clear c0 c1))
    go_returns
    exact ⟨rfl, f3.out.trans (Fr.of_below f4.out)⟩
end Go.Proofs.YtmdjbogdfipcmaaGreatDoor.Hand
