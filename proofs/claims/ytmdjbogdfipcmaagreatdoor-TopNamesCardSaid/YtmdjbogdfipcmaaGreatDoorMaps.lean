/- Maps whose entries are known; what store.New, solo.New, chain.New make; ranging over the map of the one write. -/
import Derived.Test.YtmdjbogdfipcmaaGreatDoorBase
namespace Go.Proofs.YtmdjbogdfipcmaaGreatDoor.Hand
set_option linter.unusedSimpArgs false
set_option linter.unusedVariables false
open Go.RowKit Go.Proofs.YtmdjbogdfipcmaaGreatDoorW.PrintWords Go.Proofs.YtmdjbogdfipcmaaGreatDoorW.PrintLast Go.Proofs.YtmdjbogdfipcmaaGreatDoorW.PrintMore

/-- w, but block r holds o. -/
def putO (w : World) (r : Nat) (o : Obj) : World := { w with heap := w.heap.setIfInBounds r o }
section
variable {P : Program} {W w : World} {m b : Nat} {o o' : Obj} {es : Array MapEntry} {c : Nat} {T K E : TypeId} {key z v val : Value} {T1 : Nat → Prop}
theorem Ob.put (h : Ob W m o) (o') : Ob (putO W m o') m o' := by
  have := h.lt
  show (W.heap.setIfInBounds m o')[m]? = _
  simp [this]
theorem Ob.putFar (h : Ob W b o) (hne : b ≠ m) (o') : Ob (putO W m o') b o := by
  show (W.heap.setIfInBounds m o')[b]? = _
  rw [Array.getElem?_setIfInBounds_ne (Ne.symm hne)]
  exact h
theorem Fr.put (h : Fr T1 w W) (m : Nat) (o : Obj) (hm : T1 m ∨ w.heap.size ≤ m) : Fr T1 w (putO W m o) :=
  ⟨h.os, h.tape, h.output, by simpa [putO] using h.size, fun k hk hn => by
    have hne : m ≠ k := by
      rintro rfl
      rcases hm with hm | hm
      · exact hn hm
      · omega
    show (W.heap.setIfInBounds m o)[k]? = _
    rw [Array.getElem?_setIfInBounds_ne hne]
    exact h.block k hk hn⟩

theorem run_look_none {ok : Bool} (h : Mp W m es c) (hu : P.underlying T = some (.map K E)) (hck : ∀ W : World, (Instr.checkKey es.isEmpty 10000 K key).run P W = .ok () W) (hfk : ∀ W : World, (Instr.findKey K key es.toList).run P W = .ok none W)
    (hz : ∀ W : World, (zeroValue E).run P W = .ok z W) : (Instr.lookup T (.map (some m)) key ok).run P W = .ok (if ok then .tuple #[z, .bool false] else z) W := by
  unfold Instr.lookup
  simp [Sem.run_bind, run_underlying hu, Result.andThen, MapKept.run_getObj_map h, hck, hfk, hz]
theorem run_look_some {ok : Bool} {i : Nat} (h : Mp W m es c) (hu : P.underlying T = some (.map K E)) (hck : ∀ W : World, (Instr.checkKey es.isEmpty 10000 K key).run P W = .ok () W) (hfk : ∀ W : World, (Instr.findKey K key es.toList).run P W = .ok (some (i, v)) W) :
    (Instr.lookup T (.map (some m)) key ok).run P W = .ok (if ok then .tuple #[v, .bool true] else v) W := by
  unfold Instr.lookup
  simp [Sem.run_bind, run_underlying hu, Result.andThen, MapKept.run_getObj_map h, hck, hfk]
theorem run_upd_new (h : Mp W m es c) (hu : P.underlying T = some (.map K E)) (hck : ∀ W : World, (Instr.checkKey false 10000 K key).run P W = .ok () W) (hfk : ∀ W : World, (Instr.findKey K key es.toList).run P W = .ok none W) :
    (Instr.mapUpdate T (.map (some m)) key val).run P W = .ok () (putO W m (.map (es.push ⟨key, val, c⟩) (c + 1))) := by
  unfold Instr.mapUpdate
  simp [Sem.run_bind, run_underlying hu, Result.andThen, MapKept.run_getObj_map h, hck, hfk, MapKept.run_setObj_map _ h, putO]
theorem run_del_some {i : Nat} (h : Mp W m es c) (hu : P.underlying T = some (.map K E)) (hck : ∀ W : World, (Instr.checkKey es.isEmpty 10000 K key).run P W = .ok () W) (hfk : ∀ W : World, (Instr.findKey K key es.toList).run P W = .ok (some (i, v)) W) (kt ty : TypeId) :
    (Builtin.delete_ #[T, kt] ty #[.map (some m), key]).run P W = .ok (.tuple #[]) (putO W m (.map (es.eraseIdxIfInBounds i) c)) := by
  unfold Builtin.delete_
  simp [Sem.run_bind, run_underlying hu, Result.andThen, MapKept.run_getObj_map h, hck, hfk, MapKept.run_setObj_map _ h, putO]
theorem run_len_map (h : Mp W m es c) (hu : P.underlying T = some (.map K E)) (ty : TypeId) : (Builtin.len_ #[T] ty #[.map (some m)]).run P W = .ok (goInt es.size) W := by
  simp [Builtin.len_, run_underlying hu, Sem.run_bind, Result.andThen, MapKept.run_getObj_map h]
end
/-! The keys of this run: the number 1, the key 'a'. -/
theorem ck_one (e : Bool) (W : World) : (Instr.checkKey e 10000 2 (.int .i64 1)).run Tryz.prog W = .ok () W := by cases e <;> kernel_rfl
theorem fk_one_none (W : World) : (Instr.findKey 2 (.int .i64 1) []).run Tryz.prog W = .ok none W := by kernel_rfl
theorem fk_one (v : Value) (n : Nat) (W : World) : (Instr.findKey 2 (.int .i64 1) [⟨.int .i64 1, v, n⟩]).run Tryz.prog W = .ok (some (0, v)) W := by kernel_rfl
theorem ck_a (e : Bool) (W : World) : (Instr.checkKey e 10000 79 (.agg KA)).run Tryz.prog W = .ok () W := by cases e <;> kernel_rfl
theorem fk_a_none (W : World) : (Instr.findKey 79 (.agg KA) []).run Tryz.prog W = .ok none W := by kernel_rfl
theorem fk_a (v : Value) (n : Nat) (W : World) : (Instr.findKey 79 (.agg KA) [⟨.agg KA, v, n⟩]).run Tryz.prog W = .ok (some (0, v)) W := by kernel_rfl
end Go.Proofs.YtmdjbogdfipcmaaGreatDoor.Hand
namespace Go.Proofs.YtmdjbogdfipcmaaGreatDoor.Hand
set_option linter.unusedSimpArgs false
set_option linter.unusedVariables false
open Go.RowKit Go.Proofs.YtmdjbogdfipcmaaGreatDoorW.PrintWords Go.Proofs.YtmdjbogdfipcmaaGreatDoorW.PrintLast Go.Proofs.YtmdjbogdfipcmaaGreatDoorW.PrintMore

set_option maxHeartbeats 1600000 in
set_option maxRecDepth 100000 in
theorem store_new (w : World) : Calls Tryz.prog 29 #[] w fun e w' => ∃ p m, e = .returned (.pointer (some ⟨p, 0, none⟩)) ∧ w.heap.size ≤ p ∧ w.heap.size ≤ m ∧ Bk w' p #[.map (some m)] 117 ∧ Mp w' m #[] 0 ∧ Below w.heap.size w w' := by
  go_enter Tryz.func29, Tryz.ntmps29
  go_wp2_with (first
    | ((with_reducible refine gate_dst (N := 1) rfl ?_); refine ev_map (N := 1) rfl rfl (by first | (go_simp; done) | (go_simp; rfl)) ?_; intro m w1 hm bm f1)
    | ((with_reducible refine gate_dst (N := 3) rfl ?_); refine ev_ptr (N := 3) (C := #[.map (some m)]) rfl rfl (by first | (go_simp; done) | (go_simp; rfl)) ?_; intro p w2 hp bp f2))
  go_returns
  have h1 := f1.out.size
  have := hp.out
  exact ⟨p, m, rfl, by omega, hm.out, bp.out, bm.out.belowS f2.out, f1.out.trans (f2.out.mono h1)⟩

set_option maxHeartbeats 1600000 in
set_option maxRecDepth 100000 in
theorem chain_new (w : World) : Calls Tryz.prog 177 #[] w fun e w' => ∃ p, e = .returned (.pointer (some ⟨p, 0, none⟩)) ∧ w.heap.size ≤ p ∧ Bk w' p #[.slice none 0 0] 217 ∧ Below w.heap.size w w' := by
  go_enter Tryz.func177, Tryz.ntmps177
  go_wp2_with (first
    | ((with_reducible refine gate_dst (N := 2) rfl ?_); refine ev_ptr (N := 2) (C := #[.slice none 0 0]) rfl rfl (by first | (go_simp; done) | (go_simp; rfl)) ?_; intro p w2 hp bp f2))
  go_returns
  exact ⟨p, rfl, hp.out, bp.out, f2.out⟩

set_option maxHeartbeats 1600000 in
set_option maxRecDepth 100000 in
theorem solo_new (w : World) : Calls Tryz.prog 9 #[] w fun e w' => ∃ s st l ch, e = .returned (.pointer (some ⟨s, 0, none⟩)) ∧ w.heap.size ≤ s ∧ w.heap.size ≤ st ∧ w.heap.size ≤ l ∧ w.heap.size ≤ ch ∧ s ≠ st ∧
    Bk w' s #[.pointer (some ⟨st, 0, none⟩), .map (some l), .int .i64 0, .int .i64 0] 67 ∧ Bk w' st #[.map (some ch)] 117 ∧ Mp w' l #[] 0 ∧ Mp w' ch #[] 0 ∧ l ≠ ch ∧ Below w.heap.size w w' := by
  go_enter Tryz.func9, Tryz.ntmps9
  go_wp2_with (first
    | (go_at_call 29; refine (store_new _).mono ?_; rintro e w1 ⟨st, ch, rfl, hst, hch, bst, bch, f1⟩; replace bst := Aside0.mk bst; replace bch := Aside0.mk bch; replace f1 := Aside0.mk f1; replace hst := Aside0.mk hst; replace hch := Aside0.mk hch)
    | ((with_reducible refine gate_dst (N := 2) rfl ?_); refine ev_map (N := 2) rfl rfl (by first | (go_simp; done) | (go_simp; rfl)) ?_; intro l w2 hl bl f2)
    | ((with_reducible refine gate_dst (N := 4) rfl ?_); refine ev_ptr (N := 4) (C := #[.pointer (some ⟨st, 0, none⟩), .map (some l), .int .i64 0, .int .i64 0]) rfl rfl (by first | (go_simp; done) | (go_simp; rfl)) ?_; intro s w3 hs bs f3))
  go_returns
  have h1 := f1.out.size
  have h2 := f2.out.size
  have := hs.out
  have := hst.out
  have := hl.out
  have := hch.out
  have := (bst.out).lt
  have := (bch.out).lt
  have := (bl.out).lt
  refine ⟨s, st, l, ch, rfl, by omega, by omega, by omega, by omega, by omega, bs.out, (bst.out.belowS f2.out).belowS f3.out, bl.out.belowS f3.out, (bch.out.belowS f2.out).belowS f3.out, by omega, f1.out.trans ((f2.out.mono h1).trans (f3.out.mono (by omega)))⟩
end Go.Proofs.YtmdjbogdfipcmaaGreatDoor.Hand
namespace Go.Proofs.YtmdjbogdfipcmaaGreatDoor.Hand
set_option linter.unusedSimpArgs false
set_option linter.unusedVariables false
open Go.RowKit Go.Proofs.YtmdjbogdfipcmaaGreatDoorW.PrintWords Go.Proofs.YtmdjbogdfipcmaaGreatDoorW.PrintLast Go.Proofs.YtmdjbogdfipcmaaGreatDoorW.PrintMore

/-- The map of the one write. -/
abbrev OneWrite : Array MapEntry := #[⟨.agg KA, .agg WA, 0⟩]
section
variable {W : World} {mw r : Nat}
theorem run_getObj_ob {o : Obj} (h : Ob W r o) (hn : ∀ c t f, o ≠ .cells c t f) : (getObj r).run Tryz.prog W = .ok o W := by
  cases o <;> first | exact absurd rfl (hn _ _ _) | simp [getObj, Sem.run, show W.heap[r]? = _ from h]
theorem run_setObj_ob {o o' : Obj} (h : Ob W r o) (hn : ∀ c t f, o ≠ .cells c t f) : (setObj r o').run Tryz.prog W = .ok () (putO W r o') := by
  cases o <;> first | exact absurd rfl (hn _ _ _) | simp [setObj, Sem.run, show W.heap[r]? = _ from h, putO]
theorem run_range_one (hm : Mp W mw OneWrite 1) : (Instr.range 105 (.map (some mw))).run Tryz.prog W = .ok (.pointer (some ⟨W.heap.size, 0, none⟩)) (W.alloc (.mapIter (some mw) 1 #[] 1)) := by
  unfold Instr.range
  simp [Sem.run_bind, run_underlying Tryz.underlying105, Result.andThen, run_getObj_ob hm (fun _ _ _ h => by cases h), newObj, Sem.run]
theorem run_next_one (ty : TypeId) (hm : Mp W mw OneWrite 1) (hr : Ob W r (.mapIter (some mw) 1 #[] 1)) :
    (Instr.next (.pointer (some ⟨r, 0, none⟩)) false ty).run Tryz.prog W = .ok (.tuple #[.bool true, .agg KA, .agg WA]) (putO W r (.mapIter (some mw) 1 #[0] 1)) := by
  unfold Instr.next
  simp [Sem.run_bind, Result.andThen, run_getObj_ob hm (fun _ _ _ h => by cases h), run_getObj_ob hr (fun _ _ _ h => by cases h), run_setObj_ob hr (fun _ _ _ h => by cases h), choose, Sem.run, Question.forced]
theorem run_next_over (ty : TypeId) (hm : Mp W mw OneWrite 1) (hr : Ob W r (.mapIter (some mw) 1 #[0] 1)) :
    (Instr.next (.pointer (some ⟨r, 0, none⟩)) false ty).run Tryz.prog W = .ok (.tuple #[.bool false]) W := by
  unfold Instr.next
  simp [Sem.run_bind, Result.andThen, run_getObj_ob hm (fun _ _ _ h => by cases h), run_getObj_ob hr (fun _ _ _ h => by cases h), choose, Sem.run, Question.forced]
theorem run_entry_one (hm : Mp W mw OneWrite 1) (hr : Ob W r (.mapIter (some mw) 1 #[0] 1)) :
    (Instr.entry (.pointer (some ⟨r, 0, none⟩))).run Tryz.prog W = .ok (.tuple #[.agg KA, .agg WA]) W := by
  unfold Instr.entry
  simp [Sem.run_bind, Result.andThen, run_getObj_ob hm (fun _ _ _ h => by cases h), run_getObj_ob hr (fun _ _ _ h => by cases h)]
end
end Go.Proofs.YtmdjbogdfipcmaaGreatDoor.Hand
