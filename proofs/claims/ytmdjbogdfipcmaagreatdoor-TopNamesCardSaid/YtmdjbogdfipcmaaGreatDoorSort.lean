/- solo.Sorted of the map of one write: one write. -/
import Derived.Test.YtmdjbogdfipcmaaGreatDoorSeq
import Derived.Test.YtmdjbogdfipcmaaGreatDoorShelf
namespace Go.Proofs.YtmdjbogdfipcmaaGreatDoor.Hand
set_option linter.unusedSimpArgs false
set_option linter.unusedVariables false
open Go.RowKit Go.Proofs.YtmdjbogdfipcmaaGreatDoorW.PrintWords Go.Proofs.YtmdjbogdfipcmaaGreatDoorW.PrintLast Go.Proofs.YtmdjbogdfipcmaaGreatDoorW.PrintMore
attribute [local go_sem ↓] Go.wp_at_zero Go.wp_at_succ

theorem len_one : Lib.bitLen (1 : Int).toNat = 1 := by decide

theorem ins_one (w : World) (s v : Value) : Calls Tryz.prog 212 #[s, .int .i64 0, .int .i64 1, v] w fun e w' => e = .returned (.tuple #[]) ∧ w' = w := by
  go_enter Tryz.func212, Tryz.ntmps212
  go_wp2
  refine wp_loop_rounds 1 ?_
  rw [rounds_succ]
  go_wp2
  go_returns
  exact ⟨rfl, rfl⟩

theorem pdq_one (w : World) (s v : Value) (k : Int) : Calls Tryz.prog 199 #[s, .int .i64 0, .int .i64 1, .int .i64 k, v] w fun e w' => e = .returned (.tuple #[]) ∧ w' = w := by
  go_enter Tryz.func199, Tryz.ntmps199
  go_wp2
  refine wp_loop_rounds 1 ?_
  rw [rounds_succ]
  go_wp2_with (first
    | (go_at_call 212; refine (ins_one _ _ _).mono ?_; rintro e w' ⟨rfl, rfl⟩))
  go_returns
  exact ⟨rfl, rfl⟩

theorem sort_one (w : World) (g c : Nat) (v : Value) : Calls Tryz.prog 181 #[.slice (some ⟨g, 0, none⟩) 1 c, v] w fun e w' => e = .returned (.tuple #[]) ∧ w' = w := by
  go_enter Tryz.func181, Tryz.ntmps181
  go_wp2_with (first
    | (go_at_call 192; refine (Tryz.bits_Len 1 _ (by decide) (by decide)).mono ?_; rintro e w' ⟨rfl, rfl⟩; rw [len_one])
    | (go_at_call 199; refine (pdq_one _ _ _ _).mono ?_; rintro e w' ⟨rfl, rfl⟩))
  go_returns
  exact ⟨rfl, rfl⟩

theorem maps_values (w : World) (mw : Nat) (hm : Mp w mw OneWrite 1) : Calls Tryz.prog 145 #[.map (some mw)] w fun e w' => ∃ B, e = .returned (.func (.func 182) #[] #[.pointer (some ⟨B, 0, none⟩)]) ∧ Bk w' B #[.map (some mw)] 105 ∧ Mp w' mw OneWrite 1 ∧ Below w.heap.size w w' := by
  replace hm := Aside0.mk hm
  go_enter Tryz.func145, Tryz.ntmps145
  go_wp2_with (first
    | ((with_reducible refine gate_dst (N := 1) rfl ?_); refine ev_ptr (N := 1) (C := #[.map (some mw)]) rfl rfl (by first | (go_simp; done) | (go_simp; rfl)) ?_; intro B w1 hB b1 f1))
  go_returns
  exact ⟨B, rfl, b1.out, hm.out.belowS f1.out, f1.out⟩

theorem collect_one (w : World) (Bm mw : Nat) (hB : Bk w Bm #[.map (some mw)] 105) (hm : Mp w mw OneWrite 1) :
    Calls Tryz.prog 180 #[.func (.func 182) #[] #[.pointer (some ⟨Bm, 0, none⟩)]] w fun e w' => ∃ g c C, e = .returned (.slice (some ⟨g, 0, none⟩) 1 c) ∧ w.heap.size ≤ g ∧ Bk w' g C 96 ∧ (C.extract 0 (0 + 18)).toList = WA.toList ∧ Below w.heap.size w w' := by
  have hA := append_one w Bm mw hB hm
  clear hB hm
  go_enter Tryz.func180, Tryz.ntmps180
  go_wp2_with (first
    | (go_at_call 198; refine hA.mono ?_; clear hA; rintro e w1 ⟨g, c, C, rfl, h⟩))
  go_returns
  exact ⟨g, c, C, rfl, h⟩

theorem sorted_func (w : World) (Bm mw : Nat) (hB : Bk w Bm #[.map (some mw)] 105) (hm : Mp w mw OneWrite 1) (v : Value) :
    Calls Tryz.prog 144 #[.func (.func 182) #[] #[.pointer (some ⟨Bm, 0, none⟩)], v] w fun e w' => ∃ g c C, e = .returned (.slice (some ⟨g, 0, none⟩) 1 c) ∧ w.heap.size ≤ g ∧ Bk w' g C 96 ∧ (C.extract 0 (0 + 18)).toList = WA.toList ∧ Below w.heap.size w w' := by
  have hA := collect_one w Bm mw hB hm
  clear hB hm
  go_enter Tryz.func144, Tryz.ntmps144
  go_wp2_with (first
    | (go_at_call 180; refine hA.mono ?_; clear hA; rintro e w1 ⟨g, c, C, rfl, h⟩; replace h := Aside0.mk h)
    | (go_at_call 181; refine (sort_one _ _ _ _).mono ?_; rintro e w2 ⟨rfl, rfl⟩))
  go_returns
  exact ⟨g, c, C, rfl, h.out⟩

theorem solo_sorted (w : World) (mw : Nat) (hm : Mp w mw OneWrite 1) :
    Calls Tryz.prog 94 #[.map (some mw)] w fun e w' => ∃ g c C, e = .returned (.slice (some ⟨g, 0, none⟩) 1 c) ∧ w.heap.size ≤ g ∧ Bk w' g C 96 ∧ (C.extract 0 (0 + 18)).toList = WA.toList ∧ Below w.heap.size w w' := by
  have hA := maps_values w mw hm
  clear hm
  go_enter Tryz.func94, Tryz.ntmps94
  go_wp2_with (first
    | (go_at_call 145; refine hA.mono ?_; clear hA; rintro e w1 ⟨B, rfl, hB, hm, f1⟩; have hA2 := sorted_func w1 B mw hB hm; clear hB hm; replace f1 := Aside0.mk f1)
    | (go_at_call 144; refine (hA2 _).mono ?_; clear hA2; rintro e w2 ⟨g, c, C, rfl, hg, hb, hC, hl⟩; replace hb := Aside0.mk hb; replace hC := Aside0.mk hC; replace hl := Aside0.mk hl; replace hg := Aside0.mk hg))
  go_returns
  have q := f1.out.size
  exact ⟨g, c, C, rfl, Nat.le_trans q hg.out, hb.out, hC.out, f1.out.trans (hl.out.mono q)⟩
end Go.Proofs.YtmdjbogdfipcmaaGreatDoor.Hand
