/- (*Solo).Put of the one write, in the one transaction that is open. -/
import Derived.Test.YtmdjbogdfipcmaaGreatDoorBegin
import Derived.Test.YtmdjbogdfipcmaaGreatDoorGood
namespace Go.Proofs.YtmdjbogdfipcmaaGreatDoor.Hand
set_option linter.unusedSimpArgs false
set_option linter.unusedVariables false
open Go.RowKit Go.Proofs.YtmdjbogdfipcmaaGreatDoorW.PrintWords Go.Proofs.YtmdjbogdfipcmaaGreatDoorW.PrintLast Go.Proofs.YtmdjbogdfipcmaaGreatDoorW.PrintMore
attribute [local go_sem ↓] Go.wp_at_zero Go.wp_at_succ

abbrev TxnC (mw : Nat) : Array Value := #[.int .i64 0, .int .u8 0, .map (some mw)]
abbrev OneTxn (x : Nat) : Array MapEntry := #[⟨.int .i64 1, .pointer (some ⟨x, 0, none⟩), 0⟩]

theorem zero96 (W : World) : (zeroValue 96).run Tryz.prog W = .ok (.agg Z18) W := by kernel_rfl
theorem z18_one : ∀ v ∈ Z18.toList, v.oneCell' = true := by
  intro v hv
  simp [Z18] at hv
  rcases hv with rfl | rfl | rfl <;> rfl
theorem store_none (w : World) : (storeCells ⟨w.heap.size, 0, none⟩ Z18.toList).run Tryz.prog ((w.alloc (.cells #[.int .u8 0, .int .u8 0, .int .u8 0, .int .u8 0, .int .u8 0, .int .u8 0, .int .u8 0, .int .u8 0, .int .u8 0, .int .u8 0, .int .u8 0, .int .u8 0, .int .u8 0, .int .u8 0, .int .u8 0, .int .u8 0, .string ⟨#[]⟩, .bool false] 96)).drew) = .ok () ((w.alloc (.cells #[.int .u8 0, .int .u8 0, .int .u8 0, .int .u8 0, .int .u8 0, .int .u8 0, .int .u8 0, .int .u8 0, .int .u8 0, .int .u8 0, .int .u8 0, .int .u8 0, .int .u8 0, .int .u8 0, .int .u8 0, .int .u8 0, .string ⟨#[]⟩, .bool false] 96)).drew.setCells w.heap.size 0 Z18.toList) :=
  run_storeCells_cells (P := Tryz.prog) w.heap.size 0 Z18.toList 0 _ (fun j hj => Bk.isSome (Ob.drew (Ob.new w (.cells Z18 96))) (by simpa using hj)) (fun j _ => Bk.free (Ob.drew (Ob.new w (.cells Z18 96))) _) z18_one
theorem put_keep {w' : World} {x mw g5 : Nat} (hx : Bk w' x (TxnC mw) 107) (hm : Mp w' mw #[] 0) (h5 : Bk w' g5 WA 96) :
    w'.cell? ⟨x, 2, none⟩ = some (.map (some mw)) ∧ w'.rangeAt g5 0 KA.toList ∧ (Instr.lookup 105 (.map (some mw)) (.agg KA) true).run Tryz.prog w' = .ok (.tuple #[.agg Z18, .bool false]) w' ∧ Bk w' x (TxnC mw) 107 ∧ Mp w' mw #[] 0 ∧ Bk w' g5 WA 96 :=
  ⟨hx.cell rfl, h5.range 0 16 wa_key, run_look_none (ok := true) hm Tryz.underlying105 (ck_a _) fk_a_none zero96, hx, hm, h5⟩

theorem put_keep2 {w' : World} {x mw g5 : Nat} (hx : Bk w' x (TxnC mw) 107) (h5 : Bk w' g5 WA 96) :
    w'.cell? ⟨x, 2, none⟩ = some (.map (some mw)) ∧ w'.rangeAt g5 0 KA.toList ∧ (loadCells ⟨g5, 0, none⟩ 18).run Tryz.prog w' = .ok WA w' ∧ Bk w' x (TxnC mw) 107 ∧ Bk w' g5 WA 96 :=
  ⟨hx.cell rfl, h5.range 0 16 wa_key, run_loadCells_list (P := Tryz.prog) w' ⟨g5, 0, none⟩ WA.toList (fun j v hv => by
    rw [Addr.add_mid, Nat.zero_add]
    exact h5.cell (by simpa using hv)), hx, h5⟩

set_option maxHeartbeats 1600000 in
set_option maxRecDepth 100000 in
theorem solo_put (w : World) (s st l x mw : Nat) (hs : Bk w s (SoloC st l 1 0) 67) (hl : Mp w l (OneTxn x) 1) (hx : Bk w x (TxnC mw) 107) (hm : Mp w mw #[] 0) :
    Calls Tryz.prog 50 #[.pointer (some ⟨s, 0, none⟩), .int .i64 1, .agg WA] w fun e w' => e = .returned (.int .i64 0) ∧ Mp w' mw #[⟨.agg KA, .agg WA, 0⟩] 1 ∧ Fr (fun k => k = mw) w w' := by
  replace hs := Aside0.mk hs
  replace hl := Aside0.mk hl
  replace hx := Aside0.mk hx
  replace hm := Aside0.mk hm
  go_enter Tryz.func50, Tryz.ntmps50
  go_wp2_with (first
    | ((with_reducible refine gate_dst (N := 5) rfl ?_); refine ev_ptr (N := 5) (C := WA) rfl rfl (by first | (go_simp; done) | (go_simp; rfl)) ?_; intro g5 w1 h5 b5 f1; have hs1 := Aside0.mk (hs.out.belowS f1.out); have hl1 := Aside0.mk (hl.out.belowS f1.out); have hx1 := Aside0.mk (hx.out.belowS f1.out); have hm1 := Aside0.mk (hm.out.belowS f1.out); obtain ⟨c0, c1, c2, c3, _⟩ := solo_cells hs1.out; have hlk := run_look_some (ok := false) hl1.out Tryz.underlying65 (ck_one _) (fk_one _ _))
    | ((with_reducible refine gate_dst (N := 20) rfl ?_); refine ev_load (N := 20) rfl rfl rfl rfl b5.out Tryz.underlying96 rfl info96 WA.toList wa_cut rfl ?_)
    | ((with_reducible refine gate_dst (N := 21) rfl ?_); refine ev_slice (N := 21) (n := 1) (C := WA) rfl rfl (by first | (go_simp; done) | (go_simp; rfl)) ?_; intro g21 w2 h21 b21 f2)
    | (go_at_call 91; refine (store_good _ _ _ wa_cut b21.out).mono ?_; rintro e w3 ⟨rfl, f3⟩; replace f3 := Aside0.mk f3))
  have hx3 := Aside0.mk ((hx1.out.belowS f2.out).belowS f3.out)
  have hm3 := Aside0.mk ((hm1.out.belowS f2.out).belowS f3.out)
  have b53 := Aside0.mk ((b5.out.belowS f2.out).belowS f3.out)
  clear hlk c0 c1 c2 c3
  have i96 : (Tryz.prog.info? 96).map (·.size) = some WA.toList.length := info96
  have u79 := Tryz.underlying79
  have i79 : (Tryz.prog.info? 79).map (·.size) = some KA.toList.length := info79
  obtain ⟨w6, hst, hx6, hm6, b56, f6⟩ : ∃ w6, (storeCells ⟨w3.heap.size, 0, none⟩ Z18.toList).run Tryz.prog ((w3.alloc (.cells #[.int .u8 0, .int .u8 0, .int .u8 0, .int .u8 0, .int .u8 0, .int .u8 0, .int .u8 0, .int .u8 0, .int .u8 0, .int .u8 0, .int .u8 0, .int .u8 0, .int .u8 0, .int .u8 0, .int .u8 0, .int .u8 0, .string ⟨#[]⟩, .bool false] 96)).drew) = .ok () w6 ∧ Aside0 (Bk w6 x (TxnC mw) 107) ∧ Aside0 (Mp w6 mw #[] 0) ∧ Aside0 (Bk w6 g5 WA 96) ∧ Aside0 (Fr (fun _ => False) w3 w6) :=
    ⟨_, store_none w3, ⟨Ob.setsFar (Nat.ne_of_lt hx3.out.lt) _ _ (hx3.out.alloc _).drew⟩, ⟨Ob.setsFar (Nat.ne_of_lt hm3.out.lt) _ _ (hm3.out.alloc _).drew⟩, ⟨Ob.setsFar (Nat.ne_of_lt b53.out.lt) _ _ (b53.out.alloc _).drew⟩, ⟨Fr.sets _ _ ((Fr.refl _ _).alloc _).drew (.inr (Nat.le_refl _))⟩⟩
  have hxm : Aside0 (x ≠ mw) := ⟨fun e => by have h1 := hx.out; have h2 := hm.out; rw [e] at h1; have := Option.some.inj (h1.symm.trans h2); cases this⟩
  have h5m : Aside0 (g5 ≠ mw) := ⟨by have := hm.out.lt; have := h5.out; omega⟩
  refine wp_region_noPanic ?_
  go_region_held_law (fun w' => w'.cell? ⟨x, 2, none⟩ = some (.map (some mw)) ∧ w'.rangeAt g5 0 KA.toList ∧ (Instr.lookup 105 (.map (some mw)) (.agg KA) true).run Tryz.prog w' = .ok (.tuple #[.agg Z18, .bool false]) w' ∧ Bk w' x (TxnC mw) 107 ∧ Mp w' mw #[] 0 ∧ Bk w' g5 WA 96)
    ((first | exact put_keep hx6.out hm6.out b56.out | exact put_keep hx3.out.drew hm3.out.drew b53.out.drew | exact put_keep (hx3.out.alloc _).drew (hm3.out.alloc _).drew (b53.out.alloc _).drew))
    (fail)
  all_goals refine NoPanic.normal ?_
  all_goals have x2 := Bk.cell hx6.out (j := 2) rfl
  all_goals have hlen := run_len_map hm6.out Tryz.underlying105 3
  all_goals go_wp2_with fail
  all_goals clear hlen x2 hst
  all_goals have hup : (Instr.mapUpdate 105 (.map (some mw)) (.agg KA) (.agg WA)).run Tryz.prog w6.drew = .ok () (putO w6.drew mw (.map #[⟨.agg KA, .agg WA, 0⟩] 1)) := run_upd_new hm6.out.drew Tryz.underlying105 (ck_a _) fk_a_none
  all_goals refine wp_region_noPanic ?_
  all_goals refine wp_region_held_drew (S := fun w' => w'.cell? ⟨x, 2, none⟩ = some (.map (some mw)) ∧ Bk w' x (TxnC mw) 107 ∧ Bk w' g5 WA 96) (by kernel_rfl) ⟨Bk.cell hx6.out.drew (j := 2) rfl, hx6.out.drew, b56.out.drew⟩ (fun hHeld => ?_)
  all_goals refine wpAnyH_take (i := 0) (v := .pointer (some ⟨x, 0, none⟩)) rfl (by kernel_rfl) (by kernel_rfl) (by kernel_rfl) (fun _ _ _ h => h) (Or.inl ⟨by rfl, fun w hSw => by obtain ⟨s2, s5, _⟩ := hSw; go_simp⟩) hHeld ?_
  all_goals try simp only [Act.put, List.setIfInBounds_toArray, List.set_cons_zero, List.set_cons_succ]
  all_goals refine wpAnyH_take (i := 1) (v := .pointer (some ⟨x, 0, none⟩)) rfl (by kernel_rfl) (by kernel_rfl) (by kernel_rfl) (fun _ _ _ h => h) (Or.inl ⟨by rfl, fun w hSw => by obtain ⟨s2, s5, _⟩ := hSw; go_simp⟩) hHeld ?_
  all_goals try simp only [Act.put, List.setIfInBounds_toArray, List.set_cons_zero, List.set_cons_succ]
  all_goals refine wpAnyH_take (i := 2) (v := .pointer (some ⟨x, 2, none⟩)) rfl (by kernel_rfl) (by kernel_rfl) (by kernel_rfl) (fun _ _ _ h => h) (Or.inl ⟨by rfl, fun w hSw => by obtain ⟨s2, s5, _⟩ := hSw; go_simp⟩) hHeld ?_
  all_goals try simp only [Act.put, List.setIfInBounds_toArray, List.set_cons_zero, List.set_cons_succ]
  all_goals refine wpAnyH_take (i := 3) (v := .map (some mw)) rfl (by kernel_rfl) (by kernel_rfl) (by kernel_rfl) (fun _ _ _ h => h) (Or.inl ⟨by rfl, fun w hSw => by obtain ⟨s2, s5, _⟩ := hSw; go_simp⟩) hHeld ?_
  all_goals try simp only [Act.put, List.setIfInBounds_toArray, List.set_cons_zero, List.set_cons_succ]
  all_goals refine wpAnyH_take (i := 4) (v := .pointer (some ⟨g5, 0, none⟩)) rfl (by kernel_rfl) (by kernel_rfl) (by kernel_rfl) (fun _ _ _ h => h) (Or.inl ⟨by rfl, fun w hSw => by obtain ⟨s2, s5, _⟩ := hSw; go_simp⟩) hHeld ?_
  all_goals try simp only [Act.put, List.setIfInBounds_toArray, List.set_cons_zero, List.set_cons_succ]
  all_goals refine wpAnyH_take (i := 5) (v := .agg KA.toList.toArray) rfl (by kernel_rfl) (by kernel_rfl) (by kernel_rfl) (fun _ _ _ h => h) (yieldsIf_load_mid (by rfl) 79 _ rfl g5 0 rfl KA.toList _ (fun w hSw => hSw.2.2.range 0 16 wa_key) Tryz.underlying79 rfl i79) hHeld ?_
  all_goals try simp only [Act.put, List.setIfInBounds_toArray, List.set_cons_zero, List.set_cons_succ]
  all_goals refine wpAnyH_take (i := 6) (v := .agg WA.toList.toArray) rfl (by kernel_rfl) (by kernel_rfl) (by kernel_rfl) (fun _ _ _ h => h) (yieldsIf_load_mid (by rfl) 96 _ rfl g5 0 rfl WA.toList _ (fun w hSw => hSw.2.2.range 0 18 wa_cut) Tryz.underlying96 rfl i96) hHeld ?_
  all_goals try simp only [Act.put, List.setIfInBounds_toArray, List.set_cons_zero, List.set_cons_succ]
  all_goals refine wpAnyH_ready (rs := [7]) (by kernel_rfl) (by simp) (AllReadyH.cons rfl (fun K hK => ?_) AllReadyH.nil)
  all_goals go_simp
  all_goals refine hK.out _ _ ⟨Bk.cell (hx6.out.drew.putFar hxm.out _) (j := 2) rfl, hx6.out.drew.putFar hxm.out _, b56.out.drew.putFar h5m.out _⟩ (fun _ => ?_)
  all_goals refine wpAnyH_done (by kernel_rfl) ?_ _
  all_goals refine NoPanic.normal ?_
  all_goals have bm7 := Aside0.mk (Ob.put hm6.out.drew (.map #[⟨.agg KA, .agg WA, 0⟩] 1))
  all_goals have f7 := Aside0.mk (Fr.put (T1 := fun k => k = mw) (Fr.drew (Fr.refl _ w6)) mw (.map #[⟨.agg KA, .agg WA, 0⟩] 1) (.inl rfl))
  all_goals generalize putO w6.drew mw (.map #[⟨.agg KA, .agg WA, 0⟩] 1) = w7 at *
  all_goals go_wp2_with fail
  all_goals go_returns
  all_goals exact ⟨rfl, bm7.out, (Fr.of_below f1.out).trans ((Fr.of_below f2.out).trans ((Fr.of_below f3.out).trans ((f6.out.weaken (fun _ _ h => h.elim)).trans f7.out)))⟩
end Go.Proofs.YtmdjbogdfipcmaaGreatDoor.Hand
