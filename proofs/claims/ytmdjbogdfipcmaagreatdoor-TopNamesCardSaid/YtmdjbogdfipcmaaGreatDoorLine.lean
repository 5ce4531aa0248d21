/- (*reader).line at the three rows of the run. -/
import Derived.Test.YtmdjbogdfipcmaaGreatDoorReader
import Derived.Test.YtmdjbogdfipcmaaGreatDoorActs
namespace Go.Proofs.YtmdjbogdfipcmaaGreatDoor.Hand
set_option linter.unusedSimpArgs false
set_option linter.unusedVariables false
open Go.RowKit Go.Proofs.YtmdjbogdfipcmaaGreatDoorW.PrintWords Go.Proofs.YtmdjbogdfipcmaaGreatDoorW.PrintLast Go.Proofs.YtmdjbogdfipcmaaGreatDoorW.PrintMore
attribute [local go_sem ↓] Go.wp_at_zero Go.wp_at_succ

theorem line_begin (w : World) (r g k : Nat) (C : Array Value) (hr : Bk w r (RdC g 0 1 (k + 1)) 32) (hg : Bk w g C 9) (h0 : C[0]? = some (.string ⟨#[98, 101, 103, 105, 110]⟩)) :
    Calls Tryz.prog 8 #[.pointer (some ⟨r, 0, none⟩)] w fun e w' => e = .returned (.func (.func 15) #[] #[]) ∧ (∃ o', Bk w' r (RdC g o' 0 k) 32) ∧ Fr (fun j => j = r) w w' := by
  have h1 := Aside0.mk (rd_word w r g 0 0 k _ hr (Bk.cell hg h0) (by omega))
  clear hr hg h0
  go_enter Tryz.func8, Tryz.ntmps8
  go_wp2_with (first
    | (go_at_call 14; refine h1.out.mono ?_; clear h1; rintro e w1 ⟨rfl, ⟨o', _, hr1⟩, f1⟩; replace hr1 := Aside0.mk hr1; replace f1 := Aside0.mk f1))
  go_returns
  exact ⟨rfl, ⟨o', hr1.out⟩, f1.out⟩

theorem line_commit (w : World) (r g k : Nat) (C : Array Value) (hne : g ≠ r) (hr : Bk w r (RdC g 0 2 (k + 2)) 32) (hg : Bk w g C 9) (h0 : C[0]? = some (.string ⟨#[99, 111, 109, 109, 105, 116]⟩)) (h1 : C[1]? = some (.string ⟨#[49]⟩)) :
    Calls Tryz.prog 8 #[.pointer (some ⟨r, 0, none⟩)] w fun e w' => ∃ b, e = .returned (.func (.func 51) #[] #[.pointer (some ⟨b, 0, none⟩)]) ∧ (∃ o', Bk w' r (RdC g o' 0 k) 32) ∧ Bk w' b #[.int .i64 1] 2 ∧ Fr (fun j => j = r) w w' := by
  have q1 := Aside0.mk (rd_word w r g 0 1 (k + 1) _ hr (Bk.cell hg h0) (by omega))
  replace hg := Aside0.mk hg
  replace hne := Aside0.mk hne
  replace h1 := Aside0.mk h1
  clear hr h0
  go_enter Tryz.func8, Tryz.ntmps8
  go_wp2_with (first
    | (go_at_call 14; refine q1.out.mono ?_; clear q1; rintro e w1 ⟨rfl, ⟨o1, ho1, hr1⟩, f1⟩; obtain rfl := ho1 (by omega); have q2 := Aside0.mk (rd_num w1 r g _ 0 k hr1 (Bk.cell (hg.out.fr f1 hne.out) h1.out) (by omega)); replace f1 := Aside0.mk f1; clear hr1 ho1)
    | (go_at_call 16; refine q2.out.mono ?_; clear q2; rintro e w2 ⟨rfl, ⟨o2, _, hr2⟩, f2⟩; replace hr2 := Aside0.mk hr2; replace f2 := Aside0.mk f2)
    | (go_at_call 20; refine (act_commit _).mono ?_; rintro e w3 ⟨b, rfl, hb, f3⟩; replace hb := Aside0.mk hb; replace f3 := Aside0.mk f3))
  go_returns
  have F := f1.out.trans f2.out
  exact ⟨b, rfl, ⟨o2, hr2.out.belowS f3.out⟩, hb.out, F.trans (Fr.of_below f3.out)⟩

theorem line_put (w : World) (r g k : Nat) (C : Array Value) (hne : g ≠ r) (hr : Bk w r (RdC g 0 4 (k + 4)) 32) (hg : Bk w g C 9) (h0 : C[0]? = some (.string ⟨#[112, 117, 116]⟩)) (h1 : C[1]? = some (.string ⟨#[49]⟩)) (h2 : C[2]? = some (.string ⟨#[97]⟩)) (h3 : C[3]? = some (.string ⟨#[120]⟩)) :
    Calls Tryz.prog 8 #[.pointer (some ⟨r, 0, none⟩)] w fun e w' => ∃ b1 b2 b3 b4, e = .returned (.func (.func 49) #[] #[.pointer (some ⟨b1, 0, none⟩), .pointer (some ⟨b2, 0, none⟩), .pointer (some ⟨b3, 0, none⟩), .pointer (some ⟨b4, 0, none⟩)]) ∧ (∃ o', Bk w' r (RdC g o' 0 k) 32) ∧
      Bk w' b1 #[.string ⟨#[97]⟩] 9 ∧ Bk w' b2 #[.string ⟨#[120]⟩] 9 ∧ Bk w' b3 #[.int .i64 1] 2 ∧ Bk w' b4 #[.bool false] 4 ∧ Fr (fun j => j = r) w w' := by
  have q1 := Aside0.mk (rd_word w r g 0 3 (k + 3) _ hr (Bk.cell hg h0) (by omega))
  replace hg := Aside0.mk hg
  replace hne := Aside0.mk hne
  replace h1 := Aside0.mk h1
  replace h2 := Aside0.mk h2
  replace h3 := Aside0.mk h3
  clear hr h0
  go_enter Tryz.func8, Tryz.ntmps8
  go_wp2_with (first
    | (go_at_call 14; refine q1.out.mono ?_; clear q1; rintro e w1 ⟨rfl, ⟨o1, ho1, hr1⟩, f1⟩; obtain rfl := ho1 (by omega); have hg1 := Aside0.mk (hg.out.fr f1 hne.out); have q2 := Aside0.mk (rd_num w1 r g _ 2 (k + 2) hr1 (Bk.cell hg1.out h1.out) (by omega)); replace f1 := Aside0.mk f1; clear hr1 ho1)
    | (go_at_call 16; refine q2.out.mono ?_; clear q2; rintro e w2 ⟨rfl, ⟨o2, ho2, hr2⟩, f2⟩; obtain rfl := ho2 (by omega); have hg2 := Aside0.mk ((Aside0.out hg1).fr f2 hne.out); have q3 := Aside0.mk (rd_word w2 r g _ 1 (k + 1) _ hr2 (Bk.cell hg2.out h2.out) (by omega)); replace f2 := Aside0.mk f2; clear hr2 ho2)
    | (go_at_call 14; refine q3.out.mono ?_; clear q3; rintro e w3 ⟨rfl, ⟨o3, ho3, hr3⟩, f3⟩; obtain rfl := ho3 (by omega); have hg3 := Aside0.mk ((Aside0.out hg2).fr f3 hne.out); have q4 := Aside0.mk (rd_word w3 r g _ 0 k _ hr3 (Bk.cell hg3.out h3.out) (by omega)); replace f3 := Aside0.mk f3; clear hr3 ho3)
    | (go_at_call 14; refine q4.out.mono ?_; clear q4; rintro e w4 ⟨rfl, ⟨o4, _, hr4⟩, f4⟩; replace hr4 := Aside0.mk hr4; replace f4 := Aside0.mk f4)
    | (go_at_call 19; refine (act_put _ 0 0 0 0).mono ?_; rintro e w5 ⟨b1, b2, b3, b4, rfl, hb1, hb2, hb3, hb4, f5⟩; replace hb1 := Aside0.mk hb1; replace hb2 := Aside0.mk hb2; replace hb3 := Aside0.mk hb3; replace hb4 := Aside0.mk hb4; replace f5 := Aside0.mk f5))
  go_returns
  exact ⟨b1, b2, b3, b4, rfl, ⟨o4, hr4.out.belowS f5.out⟩, hb1.out, hb2.out, hb3.out, hb4.out, (((f1.out.trans f2.out).trans f3.out).trans f4.out).trans (Fr.of_below f5.out)⟩
end Go.Proofs.YtmdjbogdfipcmaaGreatDoor.Hand
