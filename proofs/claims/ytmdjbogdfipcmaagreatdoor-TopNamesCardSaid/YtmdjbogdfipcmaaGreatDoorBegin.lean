/- (*Solo).Begin at a store that nobody has begun upon. -/
import Derived.Test.YtmdjbogdfipcmaaGreatDoorMaps
namespace Go.Proofs.YtmdjbogdfipcmaaGreatDoor.Hand
set_option linter.unusedSimpArgs false
set_option linter.unusedVariables false
open Go.RowKit Go.Proofs.YtmdjbogdfipcmaaGreatDoorW.PrintWords Go.Proofs.YtmdjbogdfipcmaaGreatDoorW.PrintLast Go.Proofs.YtmdjbogdfipcmaaGreatDoorW.PrintMore
attribute [local go_sem ↓] Go.wp_at_zero Go.wp_at_succ

abbrev SoloC (st l : Nat) (b n : Int) : Array Value := #[.pointer (some ⟨st, 0, none⟩), .map (some l), .int .i64 b, .int .i64 n]

theorem solo_cells {w : World} {s st l : Nat} {b n : Int} (h : Bk w s (SoloC st l b n) 67) : w.cell? ⟨s, 0, none⟩ = some (.pointer (some ⟨st, 0, none⟩)) ∧ w.cell? ⟨s, 1, none⟩ = some (.map (some l)) ∧ w.cell? ⟨s, 2, none⟩ = some (.int .i64 b) ∧ w.cell? ⟨s, 3, none⟩ = some (.int .i64 n) ∧ Bk w s (SoloC st l b n) 67 :=
  ⟨h.cell rfl, h.cell rfl, h.cell rfl, h.cell rfl, h⟩

set_option maxHeartbeats 1600000 in
set_option maxRecDepth 100000 in
theorem solo_begin (w : World) (s st l : Nat) (hs : Bk w s (SoloC st l 0 0) 67) (hl : Mp w l #[] 0) (hne : s ≠ l) :
    Calls Tryz.prog 35 #[.pointer (some ⟨s, 0, none⟩)] w fun e w' => e = .returned (.tuple #[.int .i64 1, .int .i64 0]) ∧ ∃ x mw, w.heap.size ≤ x ∧ w.heap.size ≤ mw ∧ x ≠ mw ∧ Bk w' s (SoloC st l 1 0) 67 ∧
      Mp w' l #[⟨.int .i64 1, .pointer (some ⟨x, 0, none⟩), 0⟩] 1 ∧ Bk w' x #[.int .i64 0, .int .u8 0, .map (some mw)] 107 ∧ Mp w' mw #[] 0 ∧ Fr (fun k => k = s ∨ k = l) w w' := by
  obtain ⟨c0, c1, c2, c3, _⟩ := solo_cells hs
  have hf := hs.free 2
  have hlen := run_len_map hl Tryz.underlying65 3
  replace hs := Aside0.mk hs
  replace hl := Aside0.mk hl
  replace hne := Aside0.mk hne
  go_enter Tryz.func35, Tryz.ntmps35
  go_wp2_with (first
    | ((with_reducible refine gate_store (t := 2) (p := 16) (v := .tmp 14) rfl ?_); refine ev_set rfl (ty := 2) (x := .tmp 16) (y := .tmp 14) (b := s) (j := 2) (v := .int .i64 1) rfl (by first | (go_simp; done) | (go_simp; rfl)) hs.out (SoloC st l 1 0) rfl ?_; intro w1 hs1 f1; have hl1 := Aside0.mk (hl.out.fr f1.out (Ne.symm hne.out)); clear hlen c0 c1 c2 c3 hf; obtain ⟨c0, c1, c2, c3, _⟩ := solo_cells hs1.out))
  have hup : ∀ (o1 o2 : Obj) (v : Value), (Instr.mapUpdate 65 (.map (some l)) (.int .i64 1) v).run Tryz.prog ((w1.alloc o1).alloc o2).drew = .ok () (putO ((w1.alloc o1).alloc o2).drew l (.map #[⟨.int .i64 1, v, 0⟩] 1)) := fun o1 o2 v =>
    run_upd_new (Ob.drew ((hl1.out.alloc o1).alloc o2)) Tryz.underlying65 (ck_one _) fk_one_none
  have hmm := @run_makeMap Tryz.prog
  refine wp_region_noPanic ?_
  go_region_held_law (fun w' => w'.cell? ⟨s, 0, none⟩ = some (.pointer (some ⟨st, 0, none⟩)) ∧ w'.cell? ⟨s, 1, none⟩ = some (.map (some l)) ∧ w'.cell? ⟨s, 2, none⟩ = some (.int .i64 1) ∧ w'.cell? ⟨s, 3, none⟩ = some (.int .i64 0) ∧ Bk w' s (SoloC st l 1 0) 67)
    ((refine solo_cells ?_; repeat (first | exact hs1.out | (go_split_ands; assumption) | refine Ob.drew ?_ | refine Ob.alloc ?_ _ | refine Ob.putFar ?_ hne.out _)))
    (fail)
  refine NoPanic.normal ?_
  have h1 := f1.out.size
  have hll := hl1.out.lt
  have hsl := hs1.out.lt
  have e2 : ((w1.alloc (Obj.map #[] 0)).alloc (Obj.cells #[Value.int IntKind.i64 0, Value.int IntKind.u8 0, Value.map (some w1.heap.size)] 107)).heap.size = w1.heap.size + 1 + 1 := by simp
  have bx : Aside0 (Bk ((w1.alloc (Obj.map #[] 0)).alloc (Obj.cells #[Value.int IntKind.i64 0, Value.int IntKind.u8 0, Value.map (some w1.heap.size)] 107)) (w1.heap.size + 1) #[Value.int IntKind.i64 0, Value.int IntKind.u8 0, Value.map (some w1.heap.size)] 107) := ⟨by
    have := Ob.new (w1.alloc (Obj.map #[] 0)) (Obj.cells #[Value.int IntKind.i64 0, Value.int IntKind.u8 0, Value.map (some w1.heap.size)] 107)
    rwa [show (w1.alloc (Obj.map #[] 0)).heap.size = w1.heap.size + 1 by simp] at this⟩
  have bm : Aside0 (Mp ((w1.alloc (Obj.map #[] 0)).alloc (Obj.cells #[Value.int IntKind.i64 0, Value.int IntKind.u8 0, Value.map (some w1.heap.size)] 107)) w1.heap.size #[] 0) := ⟨(Ob.new w1 _).alloc _⟩
  have bs : Aside0 (Bk ((w1.alloc (Obj.map #[] 0)).alloc (Obj.cells #[Value.int IntKind.i64 0, Value.int IntKind.u8 0, Value.map (some w1.heap.size)] 107)) s (SoloC st l 1 0) 67) := ⟨(hs1.out.alloc _).alloc _⟩
  have bl : Aside0 (Mp ((w1.alloc (Obj.map #[] 0)).alloc (Obj.cells #[Value.int IntKind.i64 0, Value.int IntKind.u8 0, Value.map (some w1.heap.size)] 107)) l #[] 0) := ⟨(hl1.out.alloc _).alloc _⟩
  have fr : Aside0 (Fr (fun k => k = s ∨ k = l) w ((w1.alloc (Obj.map #[] 0)).alloc (Obj.cells #[Value.int IntKind.i64 0, Value.int IntKind.u8 0, Value.map (some w1.heap.size)] 107))) := ⟨((f1.out.weaken (fun _ _ h => .inl h)).alloc _).alloc _⟩
  generalize (w1.alloc (Obj.map #[] 0)).alloc (Obj.cells #[Value.int IntKind.i64 0, Value.int IntKind.u8 0, Value.map (some w1.heap.size)] 107) = w3 at *
  have bl4 := Aside0.mk (Ob.put (bl.out.drew) (Obj.map #[⟨.int .i64 1, .pointer (some ⟨w1.heap.size + 1, 0, none⟩), 0⟩] 1))
  have bs4 := Aside0.mk (Ob.putFar bs.out.drew hne.out (Obj.map #[⟨.int .i64 1, .pointer (some ⟨w1.heap.size + 1, 0, none⟩), 0⟩] 1))
  have bx4 := Aside0.mk (Ob.putFar bx.out.drew (show w1.heap.size + 1 ≠ l by omega) (Obj.map #[⟨.int .i64 1, .pointer (some ⟨w1.heap.size + 1, 0, none⟩), 0⟩] 1))
  have bm4 := Aside0.mk (Ob.putFar bm.out.drew (show w1.heap.size ≠ l by omega) (Obj.map #[⟨.int .i64 1, .pointer (some ⟨w1.heap.size + 1, 0, none⟩), 0⟩] 1))
  have fr4 := Aside0.mk (Fr.put fr.out.drew l (Obj.map #[⟨.int .i64 1, .pointer (some ⟨w1.heap.size + 1, 0, none⟩), 0⟩] 1) (.inl (.inr rfl)))
  clear bl bs bx bm fr hup hmm c0 c1 c2 c3
  generalize putO w3.drew l (Obj.map #[⟨.int .i64 1, .pointer (some ⟨w1.heap.size + 1, 0, none⟩), 0⟩] 1) = w4 at *
  obtain ⟨c0, c1, c2, c3, _⟩ := solo_cells bs4.out
  go_wp2_with fail
  go_returns
  exact ⟨rfl, w1.heap.size + 1, w1.heap.size, by omega, by omega, by omega, bs4.out, bl4.out, bx4.out, bm4.out, fr4.out⟩
end Go.Proofs.YtmdjbogdfipcmaaGreatDoor.Hand
