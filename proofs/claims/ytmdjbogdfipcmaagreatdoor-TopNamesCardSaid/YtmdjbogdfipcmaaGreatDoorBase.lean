/- What the walks of this seat share: a block that is known whole, what a call leaves as it was, and the operations on them. -/
import Derived.Test.YtmdjbogdfipcmaaGreatDoorPDaysx0
import Derived.WalkSpells
import Derived.WalkLawsBesides
import Derived.Laws.Concat
import Derived.Deep.RegionHeldLaw
import Derived.Deep.DrawnRows
import Derived.Lib.LazyBuf
import Derived.Handy
import Derived.LoopN
import Derived.Laws.ResultCell
import Derived.Deep.Upon
import Derived.MapKept
namespace Go.Proofs.YtmdjbogdfipcmaaGreatDoor.Hand
set_option linter.unusedSimpArgs false
set_option linter.unusedVariables false
open Go.RowKit Go.Proofs.YtmdjbogdfipcmaaGreatDoorW.PrintWords Go.Proofs.YtmdjbogdfipcmaaGreatDoorW.PrintLast Go.Proofs.YtmdjbogdfipcmaaGreatDoorW.PrintMore

/-- The key 'a', as sixteen cells. -/
def KA : Array Value := #[.int .u8 97, .int .u8 0, .int .u8 0, .int .u8 0, .int .u8 0, .int .u8 0, .int .u8 0, .int .u8 0, .int .u8 0, .int .u8 0, .int .u8 0, .int .u8 0, .int .u8 0, .int .u8 0, .int .u8 0, .int .u8 0]

/-- The write of 'x' to the key 'a'. -/
def WA : Array Value := #[.int .u8 97, .int .u8 0, .int .u8 0, .int .u8 0, .int .u8 0, .int .u8 0, .int .u8 0, .int .u8 0, .int .u8 0, .int .u8 0, .int .u8 0, .int .u8 0, .int .u8 0, .int .u8 0, .int .u8 0, .int .u8 0, .string ⟨#[120]⟩, .bool false]
/-- No write. -/
def Z18 : Array Value := #[.int .u8 0, .int .u8 0, .int .u8 0, .int .u8 0, .int .u8 0, .int .u8 0, .int .u8 0, .int .u8 0, .int .u8 0, .int .u8 0, .int .u8 0, .int .u8 0, .int .u8 0, .int .u8 0, .int .u8 0, .int .u8 0, .string ⟨#[]⟩, .bool false]
/-- Sixteen noughts. -/
def Z16 : Array Value := #[.int .u8 0, .int .u8 0, .int .u8 0, .int .u8 0, .int .u8 0, .int .u8 0, .int .u8 0, .int .u8 0, .int .u8 0, .int .u8 0, .int .u8 0, .int .u8 0, .int .u8 0, .int .u8 0, .int .u8 0, .int .u8 0]
/-- Block b holds the object o. -/
def Ob (w : World) (b : Nat) (o : Obj) : Prop := w.heap[b]? = some o
/-- Block b holds the cells C, of type t. -/
abbrev Bk (w : World) (b : Nat) (C : Array Value) (t : Nat) : Prop := Ob w b (.cells C t (0, 0))
/-- Block b holds a map. -/
abbrev Mp (w : World) (b : Nat) (es : Array MapEntry) (k : Nat) : Prop := Ob w b (.map es k)

/-- Of what was there, all but the blocks of T is as it was. -/
structure Fr (T : Nat → Prop) (w w' : World) : Prop where
  os : w'.os = w.os
  tape : w'.tape = w.tape
  output : w'.output = w.output
  size : w.heap.size ≤ w'.heap.size
  block : ∀ k, k < w.heap.size → ¬ T k → w'.heap[k]? = w.heap[k]?

section
variable {w w1 w2 : World} {b g : Nat} {o : Obj} {C : Array Value} {t : Nat} {T T1 T2 : Nat → Prop}
theorem Ob.lt (h : Ob w b o) : b < w.heap.size := (Array.getElem?_eq_some_iff.1 h).1
theorem Ob.fr (h : Ob w b o) (hf : Fr T w w1) (hn : ¬ T b) : Ob w1 b o := (hf.block b h.lt hn).trans h
theorem Ob.below {B : Nat} (h : Ob w b o) (hf : Below B w w1) (hn : b < B) : Ob w1 b o := (hf.block b hn).trans h
theorem Ob.belowS (h : Ob w b o) (hf : Below w.heap.size w w1) : Ob w1 b o := h.below hf h.lt
theorem Ob.new (w : World) (o : Obj) : Ob (w.alloc o) w.heap.size o := heap_alloc_new w o
theorem Ob.alloc (h : Ob w b o) (o') : Ob (w.alloc o') b o := (heap_alloc_old w o' h.lt).trans h
theorem Ob.drew (h : Ob w b o) : Ob w.drew b o := h
theorem Ob.drewN (h : Ob w b o) (n : Nat) : Ob (w.drewN n) b o := h
theorem Ob.far (h : Ob w b o) (hne : b ≠ g) (j : Nat) (v : Value) : Ob (w.setCell ⟨g, j, none⟩ v) b o := (Below.heap_setCell w _ v b hne).trans h
theorem Bk.set (h : Bk w b C t) (j : Nat) (v : Value) : Bk (w.setCell ⟨b, j, none⟩ v) b (C.setIfInBounds j v) t := by
  show (w.heap.modify b _)[b]? = _
  rw [Array.getElem?_modify, if_pos rfl, show w.heap[b]? = _ from h]
  simp
theorem Bk.cell (h : Bk w b C t) {j : Nat} {v : Value} (hj : C[j]? = some v) : w.cell? ⟨b, j, none⟩ = some v := by
  unfold World.cell?
  rw [show w.heap[b]? = _ from h]
  simpa using hj
theorem Bk.isSome (h : Bk w b C t) {j : Nat} (hj : j < C.size) : (w.cell? ⟨b, j, none⟩).isSome = true := by
  rw [h.cell (Array.getElem?_eq_getElem hj)]
  rfl
theorem Bk.free (h : Bk w b C t) (j : Nat) : w.frozen? ⟨b, j, none⟩ = false := by
  unfold World.frozen?
  rw [show w.heap[b]? = _ from h]
  simp
theorem Bk.range (h : Bk w b C t) (o' n : Nat) {cs : List Value} (hcs : (C.extract o' (o' + n)).toList = cs) : w.rangeAt b o' cs := hcs ▸ World.rangeAt_of_block h o' n
theorem Bk.there (h : Bk w b C t) {o' n : Nat} (hn : o' + n ≤ C.size) : w.there b o' n := fun j hj => ⟨h.isSome (by omega), h.free _⟩
/-- The cells cs over C, from j on. -/
def over (C : Array Value) : Nat → List Value → Array Value
  | _, [] => C
  | j, v :: r => over (C.setIfInBounds j v) (j + 1) r
theorem Bk.sets : ∀ (cs : List Value) (j : Nat) {w : World} {C : Array Value}, Bk w b C t → Bk (w.setCells b j cs) b (over C j cs) t
  | [], _, _, _, h => h
  | v :: r, j, _, _, h => Bk.sets r (j + 1) (Bk.set h j v)

theorem Ob.setsFar (hne : b ≠ g) : ∀ (cs : List Value) (j : Nat) {w : World}, Ob w b o → Ob (w.setCells g j cs) b o
  | [], _, _, h => h
  | v :: r, j, _, h => Ob.setsFar hne r (j + 1) (Ob.far h hne j v)
theorem Fr.refl (T : Nat → Prop) (w : World) : Fr T w w := ⟨rfl, rfl, rfl, Nat.le_refl _, fun _ _ _ => rfl⟩
theorem Fr.trans (h : Fr T w w1) (h2 : Fr T w1 w2) : Fr T w w2 :=
  ⟨h2.os.trans h.os, h2.tape.trans h.tape, h2.output.trans h.output, Nat.le_trans h.size h2.size, fun k hk hn => (h2.block k (Nat.lt_of_lt_of_le hk h.size) hn).trans (h.block k hk hn)⟩
theorem Fr.weaken (h : Fr T1 w w1) (ht : ∀ k, k < w.heap.size → T1 k → T2 k) : Fr T2 w w1 := ⟨h.os, h.tape, h.output, h.size, fun k hk hn => h.block k hk (fun hT => hn (ht k hk hT))⟩
theorem Fr.of_below (h : Below w.heap.size w w1) : Fr T w w1 := ⟨h.os, h.tape, h.output, h.size, fun k hk _ => h.block k hk⟩
theorem Fr.below {B : Nat} (h : Fr T w w1) (hT : ∀ k, k < B → ¬ T k) (hB : B ≤ w.heap.size) : Below B w w1 := ⟨h.os, h.tape, h.output, h.size, fun k hk => h.block k (Nat.lt_of_lt_of_le hk hB) (hT k hk)⟩
theorem Fr.belowS (h : Fr (fun _ => False) w w1) : Below w.heap.size w w1 := h.below (fun _ _ hf => hf) (Nat.le_refl _)
theorem Fr.alloc (h : Fr T w w1) (o : Obj) : Fr T w (w1.alloc o) := h.trans (Fr.of_below (below_alloc (Below.refl _ _) o))
theorem Fr.drew (h : Fr T w w1) : Fr T w w1.drew := h.trans (Fr.of_below (below_drew (Below.refl _ _)))
theorem Fr.drewN (h : Fr T w w1) (n : Nat) : Fr T w (w1.drewN n) := h.trans (Fr.of_below (pw_below_drewN (Below.refl _ _) n))
theorem Fr.set (h : Fr T w w1) (g j : Nat) (v : Value) (hg : T g ∨ w.heap.size ≤ g) : Fr T w (w1.setCell ⟨g, j, none⟩ v) :=
  ⟨h.os, h.tape, h.output, by simpa [World.setCell] using h.size, fun k hk hn => (Below.heap_setCell w1 _ v k (by
    rintro rfl
    rcases hg with hg | hg
    · exact hn hg
    · exact absurd hk (by simpa using hg))).trans (h.block k hk hn)⟩
theorem Fr.sets : ∀ (cs : List Value) (j : Nat) {w1 : World}, Fr T w w1 → (T g ∨ w.heap.size ≤ g) → Fr T w (w1.setCells g j cs)
  | [], _, _, h, _ => h
  | v :: r, j, _, h, hg => Fr.sets r (j + 1) (h.set g j v hg) hg
end

/-! The operations. -/
section
variable {P : Program} {ops : Array Oper} {rest : List Oper} {op : Oper} {a : Act} {W : World} {Q : Exit → Act → World → Prop}
/-- A new block behind a pointer: 'alloc', 'box'. -/
theorem ev_ptr {N : Tmp} (_hN : op.dst = some N) (hgd : op.guard = none) {C : Array Value} {t : Nat}
    (hrun : (execOp a.eval op).run P W = .ok (.value (.pointer (some ⟨W.heap.size, 0, none⟩))) (W.alloc (.cells C t)))
    (h : ∀ g w1, Aside0 (W.heap.size ≤ g) → Aside0 (Bk w1 g C t) → Aside0 (Below W.heap.size W w1) → wpList P ops Q rest (a.put op.dst (.pointer (some ⟨g, 0, none⟩))) w1) : wpList P ops Q (op :: rest) a W :=
  Kd.event_run hgd hrun (h _ _ ⟨Nat.le_refl _⟩ ⟨Ob.new W _⟩ ⟨below_alloc (Below.refl _ _) _⟩)
/-- A literal slice. -/
theorem ev_slice {N : Tmp} (_hN : op.dst = some N) (hgd : op.guard = none) {C : Array Value} {t n : Nat}
    (hrun : (execOp a.eval op).run P W = .ok (.value (.slice (some ⟨W.heap.size, 0, none⟩) n n)) (W.alloc (.cells C t)))
    (h : ∀ g w1, Aside0 (W.heap.size ≤ g) → Aside0 (Bk w1 g C t) → Aside0 (Below W.heap.size W w1) → wpList P ops Q rest (a.put op.dst (.slice (some ⟨g, 0, none⟩) n n)) w1) : wpList P ops Q (op :: rest) a W :=
  Kd.event_run hgd hrun (h _ _ ⟨Nat.le_refl _⟩ ⟨Ob.new W _⟩ ⟨below_alloc (Below.refl _ _) _⟩)
/-- An empty map. -/
theorem ev_map {N : Tmp} (_hN : op.dst = some N) (hgd : op.guard = none)
    (hrun : (execOp a.eval op).run P W = .ok (.value (.map (some W.heap.size))) (W.alloc (.map #[] 0)))
    (h : ∀ g w1, Aside0 (W.heap.size ≤ g) → Aside0 (Mp w1 g #[] 0) → Aside0 (Below W.heap.size W w1) → wpList P ops Q rest (a.put op.dst (.map (some g))) w1) : wpList P ops Q (op :: rest) a W :=
  Kd.event_run hgd hrun (h _ _ ⟨Nat.le_refl _⟩ ⟨Ob.new W _⟩ ⟨below_alloc (Below.refl _ _) _⟩)
/-- A load of many cells. -/
theorem ev_load {N : Tmp} (_hN : op.dst = some N) (hgd : op.guard = none) {ty : TypeId} {x : Operand} (ho : op.op = .load ty x) {b o' n : Nat} (hx : a.eval x = .pointer (some ⟨b, o', none⟩))
    {C : Array Value} {t : Nat} (hb : Bk W b C t) {d : TypeDesc} (hu : P.underlying ty = some d) (hd : d.isRow = true) (hi : (P.info? ty).map (·.size) = some n)
    (cs : List Value) (hcs : (C.extract o' (o' + n)).toList = cs) (hl : cs.length = n) (h : wpList P ops Q rest (a.put op.dst (.agg cs.toArray)) W) : wpList P ops Q (op :: rest) a W :=
  wpList_load_mid hgd ty x ho b o' hx cs d (Bk.range hb o' n hcs) hu hd (by rw [hl]; exact hi) h
/-- The same, guarded. -/
theorem ev_loadg {N : Tmp} (_hN : op.dst = some N) (hw : Region.wanted op (yielded ops a.tmps) = true) {ty : TypeId} {x : Operand} (ho : op.op = .load ty x) {b o' n : Nat} (hx : a.eval x = .pointer (some ⟨b, o', none⟩))
    {C : Array Value} {t : Nat} (hb : Bk W b C t) {d : TypeDesc} (hu : P.underlying ty = some d) (hd : d.isRow = true) (hi : (P.info? ty).map (·.size) = some n)
    (cs : List Value) (hcs : (C.extract o' (o' + n)).toList = cs) (hl : cs.length = n) (h : wpList P ops Q rest (a.put op.dst (.agg cs.toArray)) W) : wpList P ops Q (op :: rest) a W :=
  wpList_step fun _ hK => by
    rw [if_pos hw]
    exact wp_load_mid ty x ho b o' hx cs d (Bk.range hb o' n hcs) hu hd (by rw [hl]; exact hi) (hK _ _ h)
/-- A store of many cells. -/
theorem ev_store (hgd : op.guard = none) {ty : TypeId} {x y : Operand} (ho : op.op = .store ty x y) {b o' : Nat} {cells : Array Value} (hx : a.eval x = .pointer (some ⟨b, o', none⟩)) (hy : a.eval y = .agg cells)
    {C : Array Value} {t : Nat} (hb : Bk W b C t) (hi : (P.info? ty).map (·.size) = some cells.size) (h1 : cells.all (·.oneCell') = true) (hs : o' + cells.size ≤ C.size)
    (D : Array Value) (hD : over C o' cells.toList = D) (h : ∀ w1, Aside0 (Bk w1 b D t) → Aside0 (Fr (fun k => k = b) W w1) → wpList P ops Q rest (a.put op.dst undef) w1) : wpList P ops Q (op :: rest) a W :=
  wpList_store_mid hgd ty x y ho b o' cells hx hy (Bk.there hb hs) hi h1 (h _ ⟨hD ▸ Bk.sets _ _ hb⟩ ⟨Fr.sets _ _ (Fr.refl _ _) (.inl rfl)⟩)
/-- A store of one cell. -/
theorem ev_set (hgd : op.guard = none) {ty : TypeId} {x y : Operand} (_ho : op.op = .store ty x y) {b j : Nat} {v : Value} (hrun : (execOp a.eval op).run P W = .ok .skip (W.setCell ⟨b, j, none⟩ v))
    {C : Array Value} {t : Nat} (hb : Bk W b C t) (D : Array Value) (hD : C.setIfInBounds j v = D) (h : ∀ w1, Aside0 (Bk w1 b D t) → Aside0 (Fr (fun k => k = b) W w1) → wpList P ops Q rest (a.put op.dst undef) w1) : wpList P ops Q (op :: rest) a W := by
  refine wpList_plain hgd fun K hK => ?_
  unfold Oper.wp
  rw [hrun]
  exact hK _ _ (h _ ⟨hD ▸ Bk.set hb _ _⟩ ⟨(Fr.refl _ _).set b j v (.inl rfl)⟩)
/-- A return whose first result lies in a block. -/
theorem ret_cell_tmp {fn : Func} {p u : Tmp} {ty : TypeId} (hr : fn.results = #[.cell p ty, .tmp u]) {b n : Nat} (hp : a.tmps.getD p undef = .pointer (some ⟨b, 0, none⟩)) {C : Array Value} {t : Nat} (hb : Bk W b C t)
    {d : TypeDesc} (hu : P.underlying ty = some d) (hd : d.isRow = true) (hi : (P.info? ty).map (·.size) = some n) (hn : C.size = n) (hdf : a.defers = []) {R : Ending → World → Prop}
    (hR : R (.returned (.tuple #[.agg C, a.tmps.getD u undef])) W) : bodyPost P fn R .ret a W := by
  refine bodyPost_ret ?_ hdf hR
  have h1 := run_loadVar_mid (P := P) W b 0 ty C.toList d (Bk.range hb 0 n (by rw [← hn]; simp)) hu hd (by rw [Array.length_toList, hn]; exact hi)
  rw [results_cell_tmp hr, hp]
  simp [asAddr, Result.andThen, h1]
end
end Go.Proofs.YtmdjbogdfipcmaaGreatDoor.Hand
