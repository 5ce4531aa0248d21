/- slices.BinarySearchFunc over none; (*Chain).place, Has, Len of a chain of none; stamp.Good; store.Many. -/
import Derived.Test.YtmdjbogdfipcmaaGreatDoorNewest
namespace Go.Proofs.YtmdjbogdfipcmaaGreatDoor.Hand
set_option linter.unusedSimpArgs false
set_option linter.unusedVariables false
open Go.RowKit Go.Proofs.YtmdjbogdfipcmaaGreatDoorW.PrintWords Go.Proofs.YtmdjbogdfipcmaaGreatDoorW.PrintLast Go.Proofs.YtmdjbogdfipcmaaGreatDoorW.PrintMore
attribute [local go_sem ↓] Go.wp_at_zero Go.wp_at_succ

abbrev S1 : Array Value := #[.int .i64 1, .int .u8 0]

set_option maxHeartbeats 1600000 in
set_option maxRecDepth 100000 in
theorem search_none (w : World) : Calls Tryz.prog 194 #[.slice none 0 0, .agg S1, .func (.func 195) #[] #[]] w fun e w' => e = .returned (.tuple #[.int .i64 0, .bool false]) ∧ Below w.heap.size w w' := by
  go_enter Tryz.func194, Tryz.ntmps194
  go_wp2_with (first
    | ((with_reducible refine gate_dst (N := 4) rfl ?_); refine ev_ptr (N := 4) (C := S1) rfl rfl (by first | (go_simp; done) | (go_simp; rfl)) ?_; intro g2 w1 h2 b2 f1))
  refine wp_loop_rounds 2 ?_
  rw [rounds_succ]
  go_wp2_with fail
  go_quiet (fail)
  go_wp2_with fail
  go_returns
  exact ⟨rfl, pw_below_drewN f1.out _⟩

set_option maxHeartbeats 1600000 in
set_option maxRecDepth 100000 in
theorem place_none (w : World) (c : Nat) (hc : Bk w c #[.slice none 0 0] 217) : Calls Tryz.prog 178 #[.pointer (some ⟨c, 0, none⟩), .agg S1] w fun e w' => e = .returned (.tuple #[.int .i64 0, .bool false]) ∧ Below w.heap.size w w' := by
  replace hc := Aside0.mk hc
  go_enter Tryz.func178, Tryz.ntmps178
  go_wp2_with (first
    | ((with_reducible refine gate_dst (N := 3) rfl ?_); refine ev_ptr (N := 3) (C := S1) rfl rfl (by first | (go_simp; done) | (go_simp; rfl)) ?_; intro g2 w1 h2 b2 f1; have hc1 := Aside0.mk (hc.out.belowS f1.out)))
  refine wp_region_noPanic ?_
  go_region_held_law (fun w' => w'.cell? ⟨c, 0, none⟩ = some (.slice none 0 0) ∧ w'.cell? ⟨g2, 0, none⟩ = some (.int .i64 1) ∧ w'.cell? ⟨g2, 1, none⟩ = some (.int .u8 0) ∧ Bk w' c #[.slice none 0 0] 217 ∧ Bk w' g2 S1 98)
    ((first | exact ⟨Bk.cell hc1.out.drew rfl, Bk.cell b2.out.drew rfl, Bk.cell b2.out.drew rfl, hc1.out.drew, b2.out.drew⟩ | exact ⟨Bk.cell (hc1.out.drew.belowS (Aside0.out f3)) rfl, Bk.cell (b2.out.drew.belowS (Aside0.out f3)) rfl, Bk.cell (b2.out.drew.belowS (Aside0.out f3)) rfl, hc1.out.drew.belowS (Aside0.out f3), b2.out.drew.belowS (Aside0.out f3)⟩))
    ((go_at_call 194; refine (search_none _).mono ?_; rintro e w3 ⟨rfl, f3⟩; replace f3 := Aside0.mk f3))
  refine NoPanic.normal ?_
  go_wp2_with fail
  go_returns
  have h := f1.out.size
  exact ⟨rfl, f1.out.trans ((below_drew (Below.refl _ _)).trans (f3.out.mono h))⟩

set_option maxHeartbeats 1600000 in
set_option maxRecDepth 100000 in
theorem has_none (w : World) (c : Nat) (hc : Bk w c #[.slice none 0 0] 217) : Calls Tryz.prog 141 #[.pointer (some ⟨c, 0, none⟩), .agg S1] w fun e w' => e = .returned (.bool false) ∧ Below w.heap.size w w' := by
  replace hc := Aside0.mk hc
  go_enter Tryz.func141, Tryz.ntmps141
  go_wp2_with (first
    | ((with_reducible refine gate_dst (N := 3) rfl ?_); refine ev_ptr (N := 3) (C := S1) rfl rfl (by first | (go_simp; done) | (go_simp; rfl)) ?_; intro g2 w1 h2 b2 f1; have hc1 := Aside0.mk (hc.out.belowS f1.out); have c0 : w1.cell? ⟨g2, 0, none⟩ = some (.int .i64 1) := Bk.cell b2.out rfl; have c1 : w1.cell? ⟨g2, 1, none⟩ = some (.int .u8 0) := Bk.cell b2.out rfl)
    | (go_at_call 178; refine (place_none _ _ hc1.out).mono ?_; rintro e w3 ⟨rfl, f3⟩; replace f3 := Aside0.mk f3))
  go_returns
  have h := f1.out.size
  exact ⟨rfl, f1.out.trans (f3.out.mono h)⟩

set_option maxHeartbeats 1600000 in
set_option maxRecDepth 100000 in
theorem len_none (w : World) (c : Nat) (hc : Bk w c #[.slice none 0 0] 217) : Calls Tryz.prog 100 #[.pointer (some ⟨c, 0, none⟩)] w fun e w' => e = .returned (.int .i64 0) ∧ w' = w := by
  have c0 : w.cell? ⟨c, 0, none⟩ = some (.slice none 0 0) := Bk.cell hc rfl
  clear hc
  go_enter Tryz.func100, Tryz.ntmps100
  go_wp2_with fail
  go_returns
  exact ⟨rfl, rfl⟩

set_option maxHeartbeats 1600000 in
set_option maxRecDepth 100000 in
theorem stamp_good (w : World) : Calls Tryz.prog 139 #[.agg S1] w fun e w' => e = .returned (.bool true) ∧ Below w.heap.size w w' := by
  go_enter Tryz.func139, Tryz.ntmps139
  go_wp2_with (first
    | ((with_reducible refine gate_dst (N := 1) rfl ?_); refine ev_ptr (N := 1) (C := S1) rfl rfl (by first | (go_simp; done) | (go_simp; rfl)) ?_; intro g2 w1 h2 b2 f1; have c0 : w1.cell? ⟨g2, 0, none⟩ = some (.int .i64 1) := Bk.cell b2.out rfl))
  go_returns
  exact ⟨rfl, f1.out⟩

set_option maxHeartbeats 1600000 in
set_option maxRecDepth 100000 in
theorem store_many (w : World) (a : Option Addr) (c : Nat) : Calls Tryz.prog 140 #[.slice a 1 c] w fun e w' => e = .returned (.bool true) ∧ w' = w := by
  go_enter Tryz.func140, Tryz.ntmps140
  go_wp2_with fail
  go_returns
  exact ⟨rfl, rfl⟩
end Go.Proofs.YtmdjbogdfipcmaaGreatDoor.Hand
