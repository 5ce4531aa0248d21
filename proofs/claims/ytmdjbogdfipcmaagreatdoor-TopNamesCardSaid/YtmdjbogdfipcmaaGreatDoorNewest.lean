/- (*Chain).Newest of a chain of none; (*Store).of, (*Store).Newest in a store of none. -/
import Derived.Test.YtmdjbogdfipcmaaGreatDoorMaps
import Derived.Test.YtmdjbogdfipcmaaGreatDoorGood
namespace Go.Proofs.YtmdjbogdfipcmaaGreatDoor.Hand
set_option linter.unusedSimpArgs false
set_option linter.unusedVariables false
open Go.RowKit Go.Proofs.YtmdjbogdfipcmaaGreatDoorW.PrintWords Go.Proofs.YtmdjbogdfipcmaaGreatDoorW.PrintLast Go.Proofs.YtmdjbogdfipcmaaGreatDoorW.PrintMore
attribute [local go_sem ↓] Go.wp_at_zero Go.wp_at_succ

abbrev V0 : Array Value := #[.int .i64 0, .int .u8 0, .string ⟨#[]⟩, .bool false]

set_option maxHeartbeats 1600000 in
set_option maxRecDepth 100000 in
theorem chain_newest (w : World) (c : Nat) (hc : Bk w c #[.slice none 0 0] 217) : Calls Tryz.prog 138 #[.pointer (some ⟨c, 0, none⟩)] w fun e w' => e = .returned (.tuple #[.agg V0, .bool false]) ∧ Below w.heap.size w w' := by
  replace hc := Aside0.mk hc
  go_enter Tryz.func138, Tryz.ntmps138
  go_wp2_with (first
    | ((with_reducible refine gate_dst (N := 2) rfl ?_); refine ev_ptr (N := 2) (C := V0) rfl rfl (by first | (go_simp; done) | (go_simp; rfl)) ?_; intro g2 w1 h2 b2 f1; have c0 : w1.cell? ⟨c, 0, none⟩ = some (.slice none 0 0) := Bk.cell (hc.out.belowS f1.out) (j := 0) rfl)
    | ((with_reducible refine gate_store (t := 197) (p := 2) (v := .tmp 10) rfl ?_); refine ev_store rfl (ty := 197) (x := .tmp 2) (y := .tmp 10) rfl rfl rfl b2.out (by kernel_rfl) (by kernel_rfl) (by decide) V0 (by kernel_rfl) ?_; intro w5 b5 f5))
  refine ret_cell_tmp (Tryz.results138) rfl b5.out Tryz.underlying197 rfl (n := 4) (by kernel_rfl) rfl rfl ⟨rfl, ?_⟩
  have := h2.out
  exact ((Fr.of_below f1.out).trans f5.out).below (by omega) (Nat.le_refl _)

theorem of_keep {w' : World} {st ch g : Nat} (hs : Bk w' st #[.map (some ch)] 117) (hm : Mp w' ch #[] 0) (h : Bk w' g KA 79) :
    w'.cell? ⟨st, 0, none⟩ = some (.map (some ch)) ∧ w'.rangeAt g 0 KA.toList ∧ (Instr.lookup 115 (.map (some ch)) (.agg KA) false).run Tryz.prog w' = .ok (.pointer none) w' ∧ Bk w' st #[.map (some ch)] 117 ∧ Mp w' ch #[] 0 ∧ Bk w' g KA 79 :=
  ⟨hs.cell rfl, h.range 0 16 ka_cut, run_look_none (ok := false) hm Tryz.underlying115 (ck_a _) fk_a_none (z := .pointer none) (fun _ => by kernel_rfl), hs, hm, h⟩

set_option maxHeartbeats 1600000 in
set_option maxRecDepth 100000 in
theorem store_of_none (w : World) (st ch : Nat) (hs : Bk w st #[.map (some ch)] 117) (hm : Mp w ch #[] 0) :
    Calls Tryz.prog 137 #[.pointer (some ⟨st, 0, none⟩), .agg KA] w fun e w' => ∃ p, e = .returned (.pointer (some ⟨p, 0, none⟩)) ∧ w.heap.size ≤ p ∧ Bk w' p #[.slice none 0 0] 217 ∧ Below w.heap.size w w' := by
  replace hs := Aside0.mk hs
  replace hm := Aside0.mk hm
  go_enter Tryz.func137, Tryz.ntmps137
  go_wp2_with (first
    | ((with_reducible refine gate_dst (N := 3) rfl ?_); refine ev_ptr (N := 3) (C := KA) rfl rfl (by first | (go_simp; done) | (go_simp; rfl)) ?_; intro g w1 h1 b1 f1; have hs1 := Aside0.mk (hs.out.belowS f1.out); have hm1 := Aside0.mk (hm.out.belowS f1.out)))
  have u79 := Tryz.underlying79
  have i79 : (Tryz.prog.info? 79).map (·.size) = some KA.toList.length := info79
  refine wp_region_noPanic ?_
  go_region_held_law (fun w' => w'.cell? ⟨st, 0, none⟩ = some (.map (some ch)) ∧ w'.rangeAt g 0 KA.toList ∧ (Instr.lookup 115 (.map (some ch)) (.agg KA) false).run Tryz.prog w' = .ok (.pointer none) w' ∧ Bk w' st #[.map (some ch)] 117 ∧ Mp w' ch #[] 0 ∧ Bk w' g KA 79)
    ((first | exact of_keep hs1.out.drew hm1.out.drew b1.out.drew))
    (fail)
  refine NoPanic.normal ?_
  clear u79 i79
  go_wp2_with (go_at_call 177; refine (chain_new _).mono ?_; rintro e w2 ⟨p, rfl, hp, bp, f2⟩)
  go_returns
  have h := f1.out.size
  exact ⟨p, rfl, Nat.le_trans h hp, bp, f1.out.trans ((below_drew (Below.refl _ _)).trans (f2.mono h))⟩

set_option maxHeartbeats 1600000 in
set_option maxRecDepth 100000 in
theorem store_newest (w : World) (st ch : Nat) (hs : Bk w st #[.map (some ch)] 117) (hm : Mp w ch #[] 0) :
    Calls Tryz.prog 92 #[.pointer (some ⟨st, 0, none⟩), .agg KA] w fun e w' => e = .returned (.tuple #[.agg #[.int .i64 0, .int .u8 0], .bool false]) ∧ Below w.heap.size w w' := by
  replace hs := Aside0.mk hs
  replace hm := Aside0.mk hm
  go_enter Tryz.func92, Tryz.ntmps92
  go_wp2_with (first
    | ((with_reducible refine gate_dst (N := 3) rfl ?_); refine ev_ptr (N := 3) (C := KA) rfl rfl (by first | (go_simp; done) | (go_simp; rfl)) ?_; intro g3 w1 h3 b3 f1; have hs1 := Aside0.mk (hs.out.belowS f1.out); have hm1 := Aside0.mk (hm.out.belowS f1.out))
    | ((with_reducible refine gate_dst (N := 4) rfl ?_); refine ev_ptr (N := 4) (C := #[.int .i64 0, .int .u8 0]) rfl rfl (by first | (go_simp; done) | (go_simp; rfl)) ?_; intro g4 w2 h4 b4 f2; have hs2 := Aside0.mk (hs1.out.belowS f2.out); have hm2 := Aside0.mk (hm1.out.belowS f2.out); have b32 := Aside0.mk (b3.out.belowS f2.out))
    | ((with_reducible refine gate_dst (N := 10) rfl ?_); refine ev_load (N := 10) rfl rfl rfl rfl b32.out Tryz.underlying79 rfl info79 KA.toList ka_cut rfl ?_)
    | (go_at_call 137; refine (store_of_none _ _ _ hs2.out hm2.out).mono ?_; rintro e w3 ⟨p, rfl, hp, bp, f3⟩; replace f3 := Aside0.mk f3; replace bp := Aside0.mk bp; have b43 := Aside0.mk (b4.out.belowS f3.out))
    | (go_at_call 138; refine (chain_newest _ _ bp.out).mono ?_; rintro e w4 ⟨rfl, f4⟩; replace f4 := Aside0.mk f4; have b44 := Aside0.mk (b43.out.belowS f4.out))
    | ((with_reducible refine gate_dst (N := 6) rfl ?_); refine ev_ptr (N := 6) (C := V0) rfl rfl (by first | (go_simp; done) | (go_simp; rfl)) ?_; intro g6 w5 h6 b6 f5; have b45 := Aside0.mk (b44.out.belowS f5.out))
    | ((with_reducible refine gate_store (t := 197) (p := 6) (v := .tmp 13) rfl ?_); refine ev_store rfl (ty := 197) (x := .tmp 6) (y := .tmp 13) rfl rfl rfl b6.out (by kernel_rfl) (by kernel_rfl) (by decide) V0 (by kernel_rfl) ?_; intro w6 b66 f6; have b46 := Aside0.mk (b45.out.fr f6.out (by have := b44.out.lt; have := h6.out; omega)); have c0 : w6.cell? ⟨g6, 0, none⟩ = some (.int .i64 0) := Bk.cell b66.out (j := 0) rfl; have c1 : w6.cell? ⟨g6, 1, none⟩ = some (.int .u8 0) := Bk.cell b66.out (j := 1) rfl)
    | ((with_reducible refine gate_store (t := 98) (p := 4) (v := .tmp 16) rfl ?_); refine ev_store rfl (ty := 98) (x := .tmp 4) (y := .tmp 16) rfl rfl rfl b46.out (by kernel_rfl) (by kernel_rfl) (by decide) #[.int .i64 0, .int .u8 0] (by kernel_rfl) ?_; intro w7 b7 f7))
  refine ret_cell_tmp (Tryz.results92) rfl b7.out Tryz.underlying98 rfl (n := 2) (by kernel_rfl) rfl rfl ⟨rfl, ?_⟩
  have := h4.out
  have := h6.out
  have := f1.out.size
  have := f2.out.size
  have := f3.out.size
  have := f4.out.size
  exact (Fr.trans (T := fun k => k = g4 ∨ k = g6) (Fr.of_below f1.out) ((Fr.of_below f2.out).trans ((Fr.of_below f3.out).trans ((Fr.of_below f4.out).trans ((Fr.of_below f5.out).trans ((f6.out.weaken (fun _ _ h => .inr h)).trans (f7.out.weaken (fun _ _ h => .inl h)))))))).below (by omega) (Nat.le_refl _)
end Go.Proofs.YtmdjbogdfipcmaaGreatDoor.Hand
