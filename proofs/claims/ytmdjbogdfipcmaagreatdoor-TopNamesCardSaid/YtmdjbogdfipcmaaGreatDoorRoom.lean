/- slices.Insert into none; (*Chain).Put upon none; (*Store).room. -/
import Derived.Test.YtmdjbogdfipcmaaGreatDoorChain
import Derived.RangeFuncBox
import Derived.Deep.RegionWith
namespace Go.Proofs.YtmdjbogdfipcmaaGreatDoor.Hand
set_option linter.unusedSimpArgs false
set_option linter.unusedVariables false
open Go.RowKit Go.Proofs.YtmdjbogdfipcmaaGreatDoorW.PrintWords Go.Proofs.YtmdjbogdfipcmaaGreatDoorW.PrintLast Go.Proofs.YtmdjbogdfipcmaaGreatDoorW.PrintMore
attribute [local go_sem ↓] Go.wp_at_zero Go.wp_at_succ

/-- The version that this run puts. -/
abbrev VX : Array Value := #[.int .i64 1, .int .u8 0, .string ⟨#[120]⟩, .bool false]
theorem full197 : (Tryz.prog.info? 197).map (fun i => (i.zero, i.size, i.bytes)) = some (some (.agg V0), 4, 40) := by kernel_rfl

set_option maxHeartbeats 1600000 in
set_option maxRecDepth 100000 in
theorem insert_one (w : World) (g : Nat) (hb : Bk w g VX 197) : Calls Tryz.prog 179 #[.slice none 0 0, .int .i64 0, .slice (some ⟨g, 0, none⟩) 1 1] w fun e w' => ∃ a n c, e = .returned (.slice a n c) ∧ Below w.heap.size w w' := by
  obtain ⟨i0, hi, hz0, hz1, hz2⟩ := info_parts full197
  have c0 : w.cell? ⟨g, 0, none⟩ = some (.int .i64 1) := Bk.cell hb rfl
  have c1 : w.cell? ⟨g, 1, none⟩ = some (.int .u8 0) := Bk.cell hb rfl
  have c2 : w.cell? ⟨g, 2, none⟩ = some (.string ⟨#[120]⟩) := Bk.cell hb rfl
  have c3 : w.cell? ⟨g, 3, none⟩ = some (.bool false) := Bk.cell hb rfl
  have hn : Aside0 (∀ j u, ([.int .i64 1, .int .u8 0, .string ⟨#[120]⟩, .bool false] : List Value)[j]? = some u → w.cell? ((⟨g, 0, none⟩ : Addr).add j) = some u) := ⟨fun j u hj => by
    rw [Addr.add_mid, Nat.zero_add]
    exact hb.cell (by simpa using hj)⟩
  have hi' := Aside0.mk hi
  have hz0' := Aside0.mk hz0
  have hz1' := Aside0.mk hz1
  have hz2' := Aside0.mk hz2
  clear hi hz0 hz1 hz2 hb c0 c1 c2 c3
  go_enter Tryz.func179, Tryz.ntmps179
  go_wp2_with (first
    | (at_builtin; refine wpList_append_own_at _ rfl _ _ 215 rfl w.heap.size 197 i0 (.agg V0) 4 40 Tryz.underlying215 hi'.out hz0'.out hz1'.out hz2'.out rfl (by decide) _ 0 [] rfl (World.ownsRow_nil _ _ _ _) ⟨g, 0, none⟩ 1 1 [.int .i64 1, .int .u8 0, .string ⟨#[120]⟩, .bool false] rfl rfl hn.out (by simp [Value.oneCell']) (by simp [maxLen]) (by simp) (Nat.le_refl _) ?_; intro v1 w1 ho hg hnil hat))
  go_returns
  obtain ⟨g', cap', rfl⟩ := ownsRow_succ ho
  exact ⟨_, _, _, rfl, (Below.refl _ w).grown hg (Nat.le_refl _) (fun k hk => by cases hk)⟩

theorem vx_cells {w' : World} {g : Nat} (h : Bk w' g VX 197) : w'.cell? ⟨g, 0, none⟩ = some (.int .i64 1) ∧ w'.cell? ⟨g, 1, none⟩ = some (.int .u8 0) ∧ w'.cell? ⟨g, 2, none⟩ = some (.string ⟨#[120]⟩) ∧ w'.cell? ⟨g, 3, none⟩ = some (.bool false) ∧ Bk w' g VX 197 :=
  ⟨h.cell rfl, h.cell rfl, h.cell rfl, h.cell rfl, h⟩

set_option maxHeartbeats 1600000 in
set_option maxRecDepth 100000 in
theorem chain_put (w : World) (c : Nat) (hc : Bk w c #[.slice none 0 0] 217) : Calls Tryz.prog 143 #[.pointer (some ⟨c, 0, none⟩), .agg VX] w fun e w' => e = .returned (.int .i64 0) ∧ Fr (fun k => k = c) w w' := by
  replace hc := Aside0.mk hc
  go_enter Tryz.func143, Tryz.ntmps143
  go_wp2_with (first
    | ((with_reducible refine gate_dst (N := 3) rfl ?_); refine ev_ptr (N := 3) (C := VX) rfl rfl (by first | (go_simp; done) | (go_simp; rfl)) ?_; intro g3 w1 h3 b3 f1; have hc1 := Aside0.mk (hc.out.belowS f1.out); obtain ⟨c0, c1, c2, c3, _⟩ := vx_cells b3.out)
    | (go_at_call 139; refine (stamp_good _).mono ?_; rintro e w2 ⟨rfl, f2⟩; replace f2 := Aside0.mk f2; have hc2 := Aside0.mk (hc1.out.belowS f2.out); have b32 := Aside0.mk (b3.out.belowS f2.out); clear c0 c1 c2 c3; obtain ⟨c0, c1, c2, c3, _⟩ := vx_cells b32.out)
    | (go_at_call 178; refine (place_none _ _ hc2.out).mono ?_; rintro e w3 ⟨rfl, f3⟩; replace f3 := Aside0.mk f3; have hc3 := Aside0.mk (hc2.out.belowS f3.out); have b33 := Aside0.mk (b32.out.belowS f3.out); clear c0 c1 c2 c3; have x0 : w3.cell? ⟨c, 0, none⟩ = some (.slice none 0 0) := Bk.cell hc3.out rfl))
  have hne : Aside0 (g3 ≠ c) := ⟨by have := hc.out.lt; have := h3.out; omega⟩
  have x1 : ∀ o, (w3.alloc o).cell? ⟨c, 0, none⟩ = some (.slice none 0 0) := fun o => Bk.cell (hc3.out.alloc o) rfl
  obtain ⟨c0, c1, c2, c3, _⟩ := vx_cells b33.out
  go_region_with (go_at_call 179; refine (insert_one _ _ (Ob.drew (Ob.new w3 (.cells VX 197)))).mono ?_; rintro e w6 ⟨a6, n6, k6, rfl, f6⟩; replace f6 := Aside0.mk f6; have b36 := Aside0.mk (Ob.belowS (b33.out.alloc (.cells VX 197)).drew f6.out); have hc6 := Aside0.mk (Ob.belowS (hc3.out.alloc (.cells VX 197)).drew f6.out); have y0 := Bk.isSome hc6.out (j := 0) (by decide); have y1 := Bk.free hc6.out 0; have y2 : w6.cell? ⟨c, 0, none⟩ = some (.slice none 0 0) := Bk.cell hc6.out rfl)
  all_goals go_wp2_with fail
  all_goals go_returns
  all_goals exact ⟨rfl, ((((Fr.of_below f1.out).trans (Fr.of_below f2.out)).trans (Fr.of_below f3.out)).trans (((Fr.refl _ w3).alloc _).drew)).trans (Fr.of_below f6.out) |>.set c 0 _ (.inl rfl)⟩

theorem room_keep {w' : World} {st ch g : Nat} (hs : Bk w' st #[.map (some ch)] 117) (hm : Mp w' ch #[] 0) (h : Bk w' g WA 96) :
    w'.cell? ⟨st, 0, none⟩ = some (.map (some ch)) ∧ w'.rangeAt g 0 KA.toList ∧ (Instr.lookup 115 (.map (some ch)) (.agg KA) false).run Tryz.prog w' = .ok (.pointer none) w' ∧ Bk w' st #[.map (some ch)] 117 ∧ Mp w' ch #[] 0 ∧ Bk w' g WA 96 :=
  ⟨hs.cell rfl, h.range 0 16 wa_key, run_look_none (ok := false) hm Tryz.underlying115 (ck_a _) fk_a_none (z := .pointer none) (fun _ => by kernel_rfl), hs, hm, h⟩

set_option maxHeartbeats 1600000 in
set_option maxRecDepth 100000 in
theorem store_room (w : World) (st ch g n : Nat) (hs : Bk w st #[.map (some ch)] 117) (hm : Mp w ch #[] 0) {C : Array Value} (hC : (C.extract 0 (0 + 18)).toList = WA.toList) (hb : Bk w g C 96) :
    Calls Tryz.prog 142 #[.pointer (some ⟨st, 0, none⟩), .slice (some ⟨g, 0, none⟩) 1 n] w fun e w' => e = .returned (.bool true) ∧ Below w.heap.size w w' := by
  have s0 : w.cell? ⟨st, 0, none⟩ = some (.map (some ch)) := Bk.cell hs rfl
  have hlen := run_len_map hm Tryz.underlying115 3
  replace hs := Aside0.mk hs
  replace hm := Aside0.mk hm
  replace hb := Aside0.mk hb
  go_enter Tryz.func142, Tryz.ntmps142
  go_wp2_with fail
  refine wp_loop_rounds 3 ?_
  rw [rounds_succ]
  clear hlen s0
  go_wp2_with (first
    | ((with_reducible refine gate_dst (N := 18) rfl ?_); refine ev_load (N := 18) rfl rfl rfl rfl hb.out Tryz.underlying96 rfl info96 WA.toList hC rfl ?_)
    | ((with_reducible refine gate_dst (N := 7) rfl ?_); refine ev_ptr (N := 7) (C := Z18) rfl rfl (by first | (go_simp; done) | (go_simp; rfl)) ?_; intro g7 w1 h7 b7 f1; have hs1 := Aside0.mk (hs.out.belowS f1.out); have hm1 := Aside0.mk (hm.out.belowS f1.out))
    | ((with_reducible refine gate_store (t := 96) (p := 7) (v := .tmp 18) rfl ?_); refine ev_store rfl (ty := 96) (x := .tmp 7) (y := .tmp 18) rfl rfl rfl b7.out info96 wa_one (by decide) WA z18_over ?_; intro w2 b72 f2; have hs2 := Aside0.mk (hs1.out.fr f2.out (by have := hs.out.lt; have := h7.out; omega)); have hm2 := Aside0.mk (hm1.out.fr f2.out (by have := hm.out.lt; have := h7.out; omega))))
  have u79 := Tryz.underlying79
  have i79 : (Tryz.prog.info? 79).map (·.size) = some KA.toList.length := info79
  refine wp_region_noPanic ?_
  go_region_held_law (fun w' => w'.cell? ⟨st, 0, none⟩ = some (.map (some ch)) ∧ w'.rangeAt g7 0 KA.toList ∧ (Instr.lookup 115 (.map (some ch)) (.agg KA) false).run Tryz.prog w' = .ok (.pointer none) w' ∧ Bk w' st #[.map (some ch)] 117 ∧ Mp w' ch #[] 0 ∧ Bk w' g7 WA 96)
    ((first | exact room_keep hs2.out.drew hm2.out.drew b72.out.drew))
    (fail)
  refine NoPanic.normal ?_
  clear u79 i79
  go_wp2_with (first
    | ((with_reducible refine gate_dst (N := 31) rfl ?_); refine ev_load (N := 31) rfl rfl rfl rfl b72.out.drew Tryz.underlying79 rfl info79 KA.toList wa_key rfl ?_)
    | (go_at_call 137; refine (store_of_none _ _ _ hs2.out.drew hm2.out.drew).mono ?_; rintro e w3 ⟨p, rfl, hp, bp, f3⟩; replace f3 := Aside0.mk f3; replace bp := Aside0.mk bp)
    | (go_at_call 100; refine (len_none _ _ bp.out).mono ?_; rintro e w4 ⟨rfl, rfl⟩))
  rw [rounds_succ]
  go_wp2_with fail
  go_returns
  have := h7.out
  exact ⟨rfl, ((((Fr.of_below f1.out).trans f2.out).drew).trans (Fr.of_below f3.out)).below (T := fun k => k = g7) (by omega) (Nat.le_refl _)⟩
end Go.Proofs.YtmdjbogdfipcmaaGreatDoor.Hand
