/- store.Good at the one write of this run. -/
import Derived.Test.YtmdjbogdfipcmaaGreatDoorKey
import Derived.Test.YtmdjbogdfipcmaaGreatDoorMaps
import Derived.Test.YtmdjbogdfipcmaaGreatDoorShelf
namespace Go.Proofs.YtmdjbogdfipcmaaGreatDoor.Hand
set_option linter.unusedSimpArgs false
set_option linter.unusedVariables false
open Go.RowKit Go.Proofs.YtmdjbogdfipcmaaGreatDoorW.PrintWords Go.Proofs.YtmdjbogdfipcmaaGreatDoorW.PrintLast Go.Proofs.YtmdjbogdfipcmaaGreatDoorW.PrintMore

theorem no_nought (w : World) : Calls Tryz.prog 81 #[.string ⟨#[97]⟩, .int .u8 0] w fun e w1 => e = .returned (.int .i64 (-1)) ∧ Drawn0 w w1 :=
  (Tryz.strings_IndexByte ⟨#[97]⟩ 0 w).mono fun _ _ h => ⟨h.1, 0, h.2⟩
theorem key_of (w : World) : Calls Tryz.prog 41 #[.string ⟨#[97]⟩] w fun e w' => e = .returned (.tuple #[.agg KA, .int .i64 0]) ∧ Below w.heap.size w w' := of_a w no_nought
theorem key_good (w : World) : Calls Tryz.prog 82 #[.agg KA] w fun e w' => e = .returned (.bool true) ∧ Below w.heap.size w w' := good_a w no_nought

theorem z18_over : over Z18 0 WA.toList = WA := by kernel_rfl
theorem wa_one : WA.all (·.oneCell') = true := by kernel_rfl
theorem wa_cut : (WA.extract 0 (0 + 18)).toList = WA.toList := by kernel_rfl
theorem wa_key : (WA.extract 0 (0 + 16)).toList = KA.toList := by kernel_rfl
theorem wa_16 : WA[16]? = some (.string ⟨#[120]⟩) := by kernel_rfl
theorem wa_17 : WA[17]? = some (.bool false) := by kernel_rfl
theorem zero4 (W : World) : (zeroValue 4).run Tryz.prog W = .ok (.bool false) W := by kernel_rfl

set_option maxHeartbeats 1600000 in
set_option maxRecDepth 100000 in
theorem store_good (w : World) (g c : Nat) {C : Array Value} (hC : (C.extract 0 (0 + 18)).toList = WA.toList) (hb : Bk w g C 96) : Calls Tryz.prog 91 #[.slice (some ⟨g, 0, none⟩) 1 c] w fun e w' => e = .returned (.bool true) ∧ Below w.heap.size w w' := by
  replace hb := Aside0.mk hb
  go_enter Tryz.func91, Tryz.ntmps91
  go_wp2_with (first
    | ((with_reducible refine gate_dst (N := 6) rfl ?_); refine ev_map (N := 6) rfl rfl (by first | (go_simp; done) | (go_simp; rfl)) ?_; intro m w1 hm bm f1; have hb1 := Aside0.mk (hb.out.belowS f1.out)))
  refine wp_loop_rounds 3 ?_
  rw [rounds_succ]
  go_wp2_with (first
    | ((with_reducible refine gate_dst (N := 12) rfl ?_); refine ev_load (N := 12) rfl rfl rfl rfl hb1.out Tryz.underlying96 rfl info96 WA.toList hC rfl ?_)
    | ((with_reducible refine gate_dst (N := 5) rfl ?_); refine ev_ptr (N := 5) (C := Z18) rfl rfl (by first | (go_simp; done) | (go_simp; rfl)) ?_; intro g5 w2 h5 b5 f2; have bm2 := Aside0.mk (bm.out.belowS f2.out))
    | ((with_reducible refine gate_store (t := 96) (p := 5) (v := .tmp 12) rfl ?_); refine ev_store rfl (ty := 96) (x := .tmp 5) (y := .tmp 12) rfl rfl rfl b5.out info96 wa_one (by decide) WA z18_over ?_; intro w3 b3 f3; have bm3 := Aside0.mk (bm2.out.fr f3.out (by have := bm.out.lt; have := h5.out; omega)))
    | ((with_reducible refine gate_dst (N := 14) rfl ?_); refine ev_load (N := 14) rfl rfl rfl rfl b3.out Tryz.underlying79 rfl info79 KA.toList wa_key rfl ?_)
    | (go_at_call 82; refine (key_good _).mono ?_; rintro e w4 ⟨rfl, f4⟩; replace f4 := Aside0.mk f4; have b4 := Aside0.mk (b3.out.belowS f4.out); have bm4 := Aside0.mk (bm3.out.belowS f4.out); have c16 := Bk.cell b4.out wa_16; have c17 := Bk.cell b4.out wa_17; have hlk := run_look_none (ok := false) bm4.out Tryz.underlying195 (ck_a _) fk_a_none zero4; have hup := run_upd_new (val := .bool true) bm4.out Tryz.underlying195 (ck_a _) fk_a_none)
    | ((with_reducible refine gate_dst (N := 20) rfl ?_); refine ev_loadg (N := 20) rfl (by rfl) rfl rfl b4.out Tryz.underlying79 rfl info79 KA.toList wa_key rfl ?_)
    | ((with_reducible refine gate_dst (N := 40) rfl ?_); refine ev_load (N := 40) rfl rfl rfl rfl b4.out Tryz.underlying79 rfl info79 KA.toList wa_key rfl ?_))
  rw [rounds_succ]
  go_wp2_with fail
  go_returns
  have := f1.out.size
  have := f2.out.size
  have := f3.out.size
  have := hm.out
  have := h5.out
  exact ⟨rfl, (Fr.trans (T := fun k => k = m ∨ k = g5) (Fr.of_below f1.out) ((Fr.of_below f2.out).trans ((f3.out.weaken (fun _ _ h => .inr h)).trans (Fr.put (Fr.of_below f4.out) m _ (.inl (.inl rfl)))))).below (by omega) (Nat.le_refl _)⟩
end Go.Proofs.YtmdjbogdfipcmaaGreatDoor.Hand
