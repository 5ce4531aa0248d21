/- The three acts of the script: begin, put, commit. -/
import Derived.Test.YtmdjbogdfipcmaaGreatDoorCommit
import Derived.Test.YtmdjbogdfipcmaaGreatDoorText
namespace Go.Proofs.YtmdjbogdfipcmaaGreatDoor.Hand
set_option linter.unusedSimpArgs false
set_option linter.unusedVariables false
open Go.RowKit Go.Proofs.YtmdjbogdfipcmaaGreatDoorW.PrintWords Go.Proofs.YtmdjbogdfipcmaaGreatDoorW.PrintLast Go.Proofs.YtmdjbogdfipcmaaGreatDoorW.PrintMore
attribute [local go_sem ↓] Go.wp_at_zero Go.wp_at_succ

theorem script_done (w : World) : Calls Tryz.prog 22 #[.int .i64 0] w fun e w' => e = .returned (.string ⟨#[111, 107]⟩) ∧ w' = w := by
  go_enter Tryz.func22, Tryz.ntmps22
  go_wp2
  go_returns
  exact ⟨rfl, rfl⟩
theorem script_num (w : World) : Calls Tryz.prog 25 #[.int .i64 1] w fun e w' => e = .returned (.string ⟨#[49]⟩) ∧ w' = w := by
  go_enter Tryz.func25, Tryz.ntmps25
  go_wp2_with (first
    | (go_at_call 54; refine (fmt_1 _).mono ?_; rintro e w' ⟨rfl, rfl⟩))
  go_returns
  exact ⟨rfl, rfl⟩

theorem act_begin (w : World) (m s st l : Nat) (lv : Value) (hm : Bk w m #[.pointer (some ⟨s, 0, none⟩), lv] 42) (hs : Bk w s (SoloC st l 0 0) 67) (hl : Mp w l #[] 0) (hne : s ≠ l) :
    Calls Tryz.prog 15 #[.pointer (some ⟨m, 0, none⟩)] w fun e w' => e = .returned (.string ⟨#[49]⟩) ∧ ∃ x mw, w.heap.size ≤ x ∧ w.heap.size ≤ mw ∧ x ≠ mw ∧ Bk w' s (SoloC st l 1 0) 67 ∧
      Mp w' l (OneTxn x) 1 ∧ Bk w' x (TxnC mw) 107 ∧ Mp w' mw #[] 0 ∧ Fr (fun k => k = s ∨ k = l) w w' := by
  have hB := solo_begin w s st l hs hl hne
  have c0 : w.cell? ⟨m, 0, none⟩ = some (.pointer (some ⟨s, 0, none⟩)) := Bk.cell hm rfl
  clear hs hl hne
  replace hm := Aside0.mk hm
  go_enter Tryz.func15, Tryz.ntmps15
  go_wp2_with (first
    | (go_at_call 35; refine hB.mono ?_; clear hB; rintro e w1 ⟨rfl, x, mw, h⟩; replace h := Aside0.mk h; clear c0)
    | (go_at_call 25; refine (script_num _).mono ?_; rintro e w' ⟨rfl, rfl⟩))
  go_returns
  exact ⟨rfl, x, mw, h.out⟩

theorem act_put (w : World) (b1 b2 b3 b4 : Nat) : Calls Tryz.prog 19 #[.int .i64 1, .string ⟨#[97]⟩, .string ⟨#[120]⟩, .bool false] w fun e w' => ∃ b1 b2 b3 b4, e = .returned (.func (.func 49) #[] #[.pointer (some ⟨b1, 0, none⟩), .pointer (some ⟨b2, 0, none⟩), .pointer (some ⟨b3, 0, none⟩), .pointer (some ⟨b4, 0, none⟩)]) ∧
    Bk w' b1 #[.string ⟨#[97]⟩] 9 ∧ Bk w' b2 #[.string ⟨#[120]⟩] 9 ∧ Bk w' b3 #[.int .i64 1] 2 ∧ Bk w' b4 #[.bool false] 4 ∧ Below w.heap.size w w' := by
  go_enter Tryz.func19, Tryz.ntmps19
  go_wp2_with (first
    | ((with_reducible refine gate_dst (N := 4) rfl ?_); refine ev_ptr (N := 4) (C := #[.int .i64 1]) rfl rfl (by first | (go_simp; done) | (go_simp; rfl)) ?_; intro b3 w1 h3 o3 f1)
    | ((with_reducible refine gate_dst (N := 5) rfl ?_); refine ev_ptr (N := 5) (C := #[.string ⟨#[97]⟩]) rfl rfl (by first | (go_simp; done) | (go_simp; rfl)) ?_; intro b1 w2 h1 o1 f2)
    | ((with_reducible refine gate_dst (N := 6) rfl ?_); refine ev_ptr (N := 6) (C := #[.string ⟨#[120]⟩]) rfl rfl (by first | (go_simp; done) | (go_simp; rfl)) ?_; intro b2 w3 h2 o2 f3)
    | ((with_reducible refine gate_dst (N := 7) rfl ?_); refine ev_ptr (N := 7) (C := #[.bool false]) rfl rfl (by first | (go_simp; done) | (go_simp; rfl)) ?_; intro b4 w4 h4 o4 f4))
  go_returns
  exact ⟨b1, b2, b3, b4, rfl, (o1.out.belowS f3.out).belowS f4.out, o2.out.belowS f4.out, ((o3.out.belowS f2.out).belowS f3.out).belowS f4.out, o4.out, ((Fr.of_below (T := fun _ => False) f1.out).trans ((Fr.of_below f2.out).trans ((Fr.of_below f3.out).trans (Fr.of_below f4.out)))).belowS⟩

theorem act_commit (w : World) : Calls Tryz.prog 20 #[.int .i64 1] w fun e w' => ∃ b, e = .returned (.func (.func 51) #[] #[.pointer (some ⟨b, 0, none⟩)]) ∧ Bk w' b #[.int .i64 1] 2 ∧ Below w.heap.size w w' := by
  go_enter Tryz.func20, Tryz.ntmps20
  go_wp2_with (first
    | ((with_reducible refine gate_dst (N := 1) rfl ?_); refine ev_ptr (N := 1) (C := #[.int .i64 1]) rfl rfl (by first | (go_simp; done) | (go_simp; rfl)) ?_; intro b3 w1 h3 o3 f1))
  go_returns
  exact ⟨b3, rfl, o3.out, f1.out⟩

end Go.Proofs.YtmdjbogdfipcmaaGreatDoor.Hand
