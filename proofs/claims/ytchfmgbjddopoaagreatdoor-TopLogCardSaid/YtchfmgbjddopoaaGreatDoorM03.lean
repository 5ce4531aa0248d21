import Derived.WalkSpells
import Derived.WalkLawsBesides
import Derived.Laws.Concat
import Derived.Deep.RegionHeldLaw
import Derived.Deep.DrawnRows
import Derived.Lib.LazyBuf
import Derived.Handy
import Derived.LoopN
import Derived.Laws.ResultCell
import Derived.Deep.Upon
import Derived.MapKept
import Derived.Test.YtchfmgbjddopoaaGreatDoorProg
import Derived.Below
import Derived.Deep.Draws
import Derived.Deep.AppendLies
import Derived.Maps.AppendAt
import Derived.OwnWalk
import Derived.Laws.BytesArg
import Derived.Laws.MakeOwn
import Derived.Laws.OwnMore
import Derived.Deep.OwnRows
import Derived.Tactics
import Derived.Lib.ConvBytes
import Derived.Laws.Slices
import Derived.WalkKit
import Derived.KernelRfl
import Derived.RowKit3
import Derived.Deep.LoopGhost
import Derived.Deep.QuietTactic
import Derived.BigQuiet
import Derived.WideLaws
import Derived.Deep.DeepCutAuto
import Derived.Deep.CutBlock
import Derived.Deep.RegionHeld3
import Derived.Laws.Rows
import Derived.Lib.AppendStr
import Derived.ArgAppend
import Derived.Laws.IdiomCopy
import Derived.OrdersHeld
import Derived.Laws.BitsLemmas
import Derived.RowKit
import Derived.Laws.StructEq
import Derived.Test.YtchfmgbjddopoaaGreatDoorM01
import Derived.Test.YtchfmgbjddopoaaGreatDoorM02
set_option linter.unusedVariables false
set_option linter.unusedSimpArgs false
set_option maxHeartbeats 6400000
set_option maxRecDepth 100000
namespace Go.Proofs.YtchfmgbjddopoaaGreatDoor.Hand
open Go.RowKit Go.Proofs.YtchfmgbjddopoaaGreatDoorW.PrintWords Go.Proofs.YtchfmgbjddopoaaGreatDoorW.PrintLast Go.Proofs.YtchfmgbjddopoaaGreatDoorW.PrintMore
def KA : Array Value := #[.int .u8 97, .int .u8 0, .int .u8 0, .int .u8 0, .int .u8 0, .int .u8 0, .int .u8 0, .int .u8 0, .int .u8 0, .int .u8 0, .int .u8 0, .int .u8 0, .int .u8 0, .int .u8 0, .int .u8 0, .int .u8 0]
def WA : Array Value := #[.int .u8 97, .int .u8 0, .int .u8 0, .int .u8 0, .int .u8 0, .int .u8 0, .int .u8 0, .int .u8 0, .int .u8 0, .int .u8 0, .int .u8 0, .int .u8 0, .int .u8 0, .int .u8 0, .int .u8 0, .int .u8 0, .string ⟨#[120]⟩, .bool false]
def Z18 : Array Value := #[.int .u8 0, .int .u8 0, .int .u8 0, .int .u8 0, .int .u8 0, .int .u8 0, .int .u8 0, .int .u8 0, .int .u8 0, .int .u8 0, .int .u8 0, .int .u8 0, .int .u8 0, .int .u8 0, .int .u8 0, .int .u8 0, .string ⟨#[]⟩, .bool false]
def Z16 : Array Value := #[.int .u8 0, .int .u8 0, .int .u8 0, .int .u8 0, .int .u8 0, .int .u8 0, .int .u8 0, .int .u8 0, .int .u8 0, .int .u8 0, .int .u8 0, .int .u8 0, .int .u8 0, .int .u8 0, .int .u8 0, .int .u8 0]
def Ob (w : World) (b : Nat) (o : Obj) : Prop := w.heap[b]? = some o
abbrev Bk (w : World) (b : Nat) (C : Array Value) (t : Nat) : Prop := Ob w b (.cells C t (0, 0))
abbrev Mp (w : World) (b : Nat) (es : Array MapEntry) (k : Nat) : Prop := Ob w b (.map es k)
structure Fr (T : Nat → Prop) (w w' : World) : Prop where
 os : w'.os = w.os
 tape : w'.tape = w.tape
 output : w'.output = w.output
 size : w.heap.size ≤ w'.heap.size
 block : ∀ k, k < w.heap.size → ¬ T k → w'.heap[k]? = w.heap[k]?
section
variable {w w1 w2 : World} {b g : Nat} {o : Obj} {C : Array Value} {t : Nat} {T T1 T2 : Nat → Prop}
theorem Ob.lt (h : Ob w b o) : b < w.heap.size := (Array.getElem?_eq_some_iff.1 h).1
theorem Ob.fr (h : Ob w b o) (hf : Fr T w w1) (hn : ¬ T b) : Ob w1 b o := (hf.block b h.lt hn).trans h
theorem Ob.below {B : Nat} (h : Ob w b o) (hf : Below B w w1) (hn : b < B) : Ob w1 b o := (hf.block b hn).trans h
theorem Ob.Ad (h : Ob w b o) (hf : Below w.heap.size w w1) : Ob w1 b o := h.below hf h.lt
theorem Ob.new (w : World) (o : Obj) : Ob (w.alloc o) w.heap.size o := heap_alloc_new w o
theorem Ob.alloc (h : Ob w b o) (o') : Ob (w.alloc o') b o := (heap_alloc_old w o' h.lt).trans h
theorem Ob.drew (h : Ob w b o) : Ob w.drew b o := h
theorem Ob.drewN (h : Ob w b o) (n : Nat) : Ob (w.drewN n) b o := h
theorem Ob.far (h : Ob w b o) (hne : b ≠ g) (j : Nat) (v : Value) : Ob (w.setCell ⟨g, j, none⟩ v) b o := (Below.heap_setCell w _ v b hne).trans h
theorem Bk.set (h : Bk w b C t) (j : Nat) (v : Value) : Bk (w.setCell ⟨b, j, none⟩ v) b (C.setIfInBounds j v) t := by
 show (w.heap.modify b _)[b]? = _
 rw [Array.getElem?_modify, if_pos rfl, show w.heap[b]? = _ from h]
 simp
theorem Bk.cell (h : Bk w b C t) {j : Nat} {v : Value} (hj : C[j]? = some v) : w.cell? ⟨b, j, none⟩ = some v := by
 unfold World.cell?
 rw [show w.heap[b]? = _ from h]
 simpa using hj
theorem Bk.isSome (h : Bk w b C t) {j : Nat} (hj : j < C.size) : (w.cell? ⟨b, j, none⟩).isSome = true := by
 rw [h.cell (Array.getElem?_eq_getElem hj)]
 rfl
theorem Bk.free (h : Bk w b C t) (j : Nat) : w.frozen? ⟨b, j, none⟩ = false := by
 unfold World.frozen?
 rw [show w.heap[b]? = _ from h]
 simp
theorem Bk.range (h : Bk w b C t) (o' n : Nat) {cs : List Value} (hcs : (C.extract o' (o' + n)).toList = cs) : w.rangeAt b o' cs := hcs ▸ World.rangeAt_of_block h o' n
theorem Bk.there (h : Bk w b C t) {o' n : Nat} (hn : o' + n ≤ C.size) : w.there b o' n := fun j hj => ⟨h.isSome (by omega), h.free _⟩
def over (C : Array Value) : Nat → List Value → Array Value
 | _, [] => C
 | j, v :: r => over (C.setIfInBounds j v) (j + 1) r
theorem Bk.sets : ∀ (cs : List Value) (j : Nat) {w : World} {C : Array Value}, Bk w b C t → Bk (w.setCells b j cs) b (over C j cs) t
 | [], _, _, _, h => h
 | v :: r, j, _, _, h => Bk.sets r (j + 1) (Bk.set h j v)
theorem Ob.Le (hne : b ≠ g) : ∀ (cs : List Value) (j : Nat) {w : World}, Ob w b o → Ob (w.setCells g j cs) b o
 | [], _, _, h => h
 | v :: r, j, _, h => Ob.Le hne r (j + 1) (Ob.far h hne j v)
theorem Fr.refl (T : Nat → Prop) (w : World) : Fr T w w := ⟨rfl, rfl, rfl, Nat.le_refl _, fun _ _ _ => rfl⟩
theorem Fr.trans (h : Fr T w w1) (h2 : Fr T w1 w2) : Fr T w w2 :=
 ⟨h2.os.trans h.os, h2.tape.trans h.tape, h2.output.trans h.output, Nat.le_trans h.size h2.size, fun k hk hn => (h2.block k (Nat.lt_of_lt_of_le hk h.size) hn).trans (h.block k hk hn)⟩
theorem Fr.weaken (h : Fr T1 w w1) (ht : ∀ k, k < w.heap.size → T1 k → T2 k) : Fr T2 w w1 := ⟨h.os, h.tape, h.output, h.size, fun k hk hn => h.block k hk (fun hT => hn (ht k hk hT))⟩
theorem Fr.of_below (h : Below w.heap.size w w1) : Fr T w w1 := ⟨h.os, h.tape, h.output, h.size, fun k hk _ => h.block k hk⟩
theorem Fr.below {B : Nat} (h : Fr T w w1) (hT : ∀ k, k < B → ¬ T k) (hB : B ≤ w.heap.size) : Below B w w1 := ⟨h.os, h.tape, h.output, h.size, fun k hk => h.block k (Nat.lt_of_lt_of_le hk hB) (hT k hk)⟩
theorem Fr.Ad (h : Fr (fun _ => False) w w1) : Below w.heap.size w w1 := h.below (fun _ _ hf => hf) (Nat.le_refl _)
theorem Fr.alloc (h : Fr T w w1) (o : Obj) : Fr T w (w1.alloc o) := h.trans (Fr.of_below (Ah (Below.refl _ _) o))
theorem Fr.drew (h : Fr T w w1) : Fr T w w1.drew := h.trans (Fr.of_below (Ag (Below.refl _ _)))
theorem Fr.drewN (h : Fr T w w1) (n : Nat) : Fr T w (w1.drewN n) := h.trans (Fr.of_below (Ae (Below.refl _ _) n))
theorem Fr.set (h : Fr T w w1) (g j : Nat) (v : Value) (hg : T g ∨ w.heap.size ≤ g) : Fr T w (w1.setCell ⟨g, j, none⟩ v) :=
 ⟨h.os, h.tape, h.output, by simpa [World.setCell] using h.size, fun k hk hn => (Below.heap_setCell w1 _ v k (by
   rintro rfl
   rcases hg with hg | hg
   · exact hn hg
   · exact absurd hk (by simpa using hg))).trans (h.block k hk hn)⟩
theorem Fr.sets : ∀ (cs : List Value) (j : Nat) {w1 : World}, Fr T w w1 → (T g ∨ w.heap.size ≤ g) → Fr T w (w1.setCells g j cs)
 | [], _, _, h, _ => h
 | v :: r, j, _, h, hg => Fr.sets r (j + 1) (h.set g j v hg) hg
end
section
variable {P : Program} {ops : Array Oper} {rest : List Oper} {op : Oper} {a : Act} {W : World} {Q : Exit → Act → World → Prop}
theorem Aj {N : Tmp} (_hN : op.dst = some N) (hgd : op.guard = none) {C : Array Value} {t : Nat}
   (hrun : (execOp a.eval op).run P W = .ok (.value (.pointer (some ⟨W.heap.size, 0, none⟩))) (W.alloc (.cells C t)))
   (h : ∀ g w1, Aa (W.heap.size ≤ g) → Aa (Bk w1 g C t) → Aa (Below W.heap.size W w1) → wpList P ops Q rest (a.put op.dst (.pointer (some ⟨g, 0, none⟩))) w1) : wpList P ops Q (op :: rest) a W :=
 Kd.Ee hgd hrun (h _ _ ⟨Nat.le_refl _⟩ ⟨Ob.new W _⟩ ⟨Ah (Below.refl _ _) _⟩)
theorem Cb {N : Tmp} (_hN : op.dst = some N) (hgd : op.guard = none) {C : Array Value} {t n : Nat}
   (hrun : (execOp a.eval op).run P W = .ok (.value (.slice (some ⟨W.heap.size, 0, none⟩) n n)) (W.alloc (.cells C t)))
   (h : ∀ g w1, Aa (W.heap.size ≤ g) → Aa (Bk w1 g C t) → Aa (Below W.heap.size W w1) → wpList P ops Q rest (a.put op.dst (.slice (some ⟨g, 0, none⟩) n n)) w1) : wpList P ops Q (op :: rest) a W :=
 Kd.Ee hgd hrun (h _ _ ⟨Nat.le_refl _⟩ ⟨Ob.new W _⟩ ⟨Ah (Below.refl _ _) _⟩)
theorem Ih {N : Tmp} (_hN : op.dst = some N) (hgd : op.guard = none)
   (hrun : (execOp a.eval op).run P W = .ok (.value (.map (some W.heap.size))) (W.alloc (.map #[] 0)))
   (h : ∀ g w1, Aa (W.heap.size ≤ g) → Aa (Mp w1 g #[] 0) → Aa (Below W.heap.size W w1) → wpList P ops Q rest (a.put op.dst (.map (some g))) w1) : wpList P ops Q (op :: rest) a W :=
 Kd.Ee hgd hrun (h _ _ ⟨Nat.le_refl _⟩ ⟨Ob.new W _⟩ ⟨Ah (Below.refl _ _) _⟩)
theorem Au {N : Tmp} (_hN : op.dst = some N) (hgd : op.guard = none) {ty : TypeId} {x : Operand} (ho : op.op = .load ty x) {b o' n : Nat} (hx : a.eval x = .pointer (some ⟨b, o', none⟩))
   {C : Array Value} {t : Nat} (hb : Bk W b C t) {d : TypeDesc} (hu : P.underlying ty = some d) (hd : d.isRow = true) (hi : (P.info? ty).map (·.size) = some n)
   (cs : List Value) (hcs : (C.extract o' (o' + n)).toList = cs) (hl : cs.length = n) (h : wpList P ops Q rest (a.put op.dst (.agg cs.toArray)) W) : wpList P ops Q (op :: rest) a W :=
 wpList_load_mid hgd ty x ho b o' hx cs d (Bk.range hb o' n hcs) hu hd (by rw [hl]; exact hi) h
theorem BO {N : Tmp} (_hN : op.dst = some N) (hw : Region.wanted op (yielded ops a.tmps) = true) {ty : TypeId} {x : Operand} (ho : op.op = .load ty x) {b o' n : Nat} (hx : a.eval x = .pointer (some ⟨b, o', none⟩))
   {C : Array Value} {t : Nat} (hb : Bk W b C t) {d : TypeDesc} (hu : P.underlying ty = some d) (hd : d.isRow = true) (hi : (P.info? ty).map (·.size) = some n)
   (cs : List Value) (hcs : (C.extract o' (o' + n)).toList = cs) (hl : cs.length = n) (h : wpList P ops Q rest (a.put op.dst (.agg cs.toArray)) W) : wpList P ops Q (op :: rest) a W :=
 wpList_step fun _ hK => by
   rw [if_pos hw]
   exact wp_load_mid ty x ho b o' hx cs d (Bk.range hb o' n hcs) hu hd (by rw [hl]; exact hi) (hK _ _ h)
theorem Ak (hgd : op.guard = none) {ty : TypeId} {x y : Operand} (ho : op.op = .store ty x y) {b o' : Nat} {cells : Array Value} (hx : a.eval x = .pointer (some ⟨b, o', none⟩)) (hy : a.eval y = .agg cells)
   {C : Array Value} {t : Nat} (hb : Bk W b C t) (hi : (P.info? ty).map (·.size) = some cells.size) (h1 : cells.all (·.oneCell') = true) (hs : o' + cells.size ≤ C.size)
   (D : Array Value) (hD : over C o' cells.toList = D) (h : ∀ w1, Aa (Bk w1 b D t) → Aa (Fr (fun k => k = b) W w1) → wpList P ops Q rest (a.put op.dst undef) w1) : wpList P ops Q (op :: rest) a W :=
 wpList_store_mid hgd ty x y ho b o' cells hx hy (Bk.there hb hs) hi h1 (h _ ⟨hD ▸ Bk.sets _ _ hb⟩ ⟨Fr.sets _ _ (Fr.refl _ _) (.inl rfl)⟩)
theorem Ig (hgd : op.guard = none) {ty : TypeId} {x y : Operand} (_ho : op.op = .store ty x y) {b j : Nat} {v : Value} (hrun : (execOp a.eval op).run P W = .ok .skip (W.setCell ⟨b, j, none⟩ v))
   {C : Array Value} {t : Nat} (hb : Bk W b C t) (D : Array Value) (hD : C.setIfInBounds j v = D) (h : ∀ w1, Aa (Bk w1 b D t) → Aa (Fr (fun k => k = b) W w1) → wpList P ops Q rest (a.put op.dst undef) w1) : wpList P ops Q (op :: rest) a W := by
 refine wpList_plain hgd fun K hK => ?_
 unfold Oper.wp
 rw [hrun]
 exact hK _ _ (h _ ⟨hD ▸ Bk.set hb _ _⟩ ⟨(Fr.refl _ _).set b j v (.inl rfl)⟩)
theorem AO {fn : Func} {p u : Tmp} {ty : TypeId} (hr : fn.results = #[.cell p ty, .tmp u]) {b n : Nat} (hp : a.tmps.getD p undef = .pointer (some ⟨b, 0, none⟩)) {C : Array Value} {t : Nat} (hb : Bk W b C t)
   {d : TypeDesc} (hu : P.underlying ty = some d) (hd : d.isRow = true) (hi : (P.info? ty).map (·.size) = some n) (hn : C.size = n) (hdf : a.defers = []) {R : Ending → World → Prop}
   (hR : R (.returned (.tuple #[.agg C, a.tmps.getD u undef])) W) : bodyPost P fn R .ret a W := by
 refine bodyPost_ret ?_ hdf hR
 have h1 := run_loadVar_mid (P := P) W b 0 ty C.toList d (Bk.range hb 0 n (by rw [← hn]; simp)) hu hd (by rw [Array.length_toList, hn]; exact hi)
 rw [results_cell_tmp hr, hp]
 simp [asAddr, Result.andThen, h1]
end
end Go.Proofs.YtchfmgbjddopoaaGreatDoor.Hand
section
namespace Go.Proofs.YtchfmgbjddopoaaGreatDoor.Hand
open Go.RowKit Go.Proofs.YtchfmgbjddopoaaGreatDoorW.PrintWords Go.Proofs.YtchfmgbjddopoaaGreatDoorW.PrintLast Go.Proofs.YtchfmgbjddopoaaGreatDoorW.PrintMore
def Cc (w : World) (r : Nat) (o : Obj) : World := { w with heap := w.heap.setIfInBounds r o }
section
variable {P : Program} {W w : World} {m b : Nat} {o o' : Obj} {es : Array MapEntry} {c : Nat} {T K E : TypeId} {key z v val : Value} {T1 : Nat → Prop}
theorem Ob.put (h : Ob W m o) (o') : Ob (Cc W m o') m o' := by
 have := h.lt
 show (W.heap.setIfInBounds m o')[m]? = _
 simp [this]
theorem Ob.Bi (h : Ob W b o) (hne : b ≠ m) (o') : Ob (Cc W m o') b o := by
 show (W.heap.setIfInBounds m o')[b]? = _
 rw [Array.getElem?_setIfInBounds_ne (Ne.symm hne)]
 exact h
theorem Fr.put (h : Fr T1 w W) (m : Nat) (o : Obj) (hm : T1 m ∨ w.heap.size ≤ m) : Fr T1 w (Cc W m o) :=
 ⟨h.os, h.tape, h.output, by simpa [Cc] using h.size, fun k hk hn => by
   have hne : m ≠ k := by
     rintro rfl
     rcases hm with hm | hm
     · exact hn hm
     · omega
   show (W.heap.setIfInBounds m o)[k]? = _
   rw [Array.getElem?_setIfInBounds_ne hne]
   exact h.block k hk hn⟩
theorem CV {ok : Bool} (h : Mp W m es c) (hu : P.underlying T = some (.map K E)) (hck : ∀ W : World, (Instr.checkKey es.isEmpty 10000 K key).run P W = .ok () W) (hfk : ∀ W : World, (Instr.findKey K key es.toList).run P W = .ok none W)
   (hz : ∀ W : World, (zeroValue E).run P W = .ok z W) : (Instr.lookup T (.map (some m)) key ok).run P W = .ok (if ok then .tuple #[z, .bool false] else z) W := by
 unfold Instr.lookup
 simp [Sem.run_bind, run_underlying hu, Result.andThen, MapKept.run_getObj_map h, hck, hfk, hz]
theorem Dz {ok : Bool} {i : Nat} (h : Mp W m es c) (hu : P.underlying T = some (.map K E)) (hck : ∀ W : World, (Instr.checkKey es.isEmpty 10000 K key).run P W = .ok () W) (hfk : ∀ W : World, (Instr.findKey K key es.toList).run P W = .ok (some (i, v)) W) :
   (Instr.lookup T (.map (some m)) key ok).run P W = .ok (if ok then .tuple #[v, .bool true] else v) W := by
 unfold Instr.lookup
 simp [Sem.run_bind, run_underlying hu, Result.andThen, MapKept.run_getObj_map h, hck, hfk]
theorem DJ (h : Mp W m es c) (hu : P.underlying T = some (.map K E)) (hck : ∀ W : World, (Instr.checkKey false 10000 K key).run P W = .ok () W) (hfk : ∀ W : World, (Instr.findKey K key es.toList).run P W = .ok none W) :
   (Instr.mapUpdate T (.map (some m)) key val).run P W = .ok () (Cc W m (.map (es.push ⟨key, val, c⟩) (c + 1))) := by
 unfold Instr.mapUpdate
 simp [Sem.run_bind, run_underlying hu, Result.andThen, MapKept.run_getObj_map h, hck, hfk, MapKept.run_setObj_map _ h, Cc]
theorem Ik {i : Nat} (h : Mp W m es c) (hu : P.underlying T = some (.map K E)) (hck : ∀ W : World, (Instr.checkKey es.isEmpty 10000 K key).run P W = .ok () W) (hfk : ∀ W : World, (Instr.findKey K key es.toList).run P W = .ok (some (i, v)) W) (kt ty : TypeId) :
   (Builtin.delete_ #[T, kt] ty #[.map (some m), key]).run P W = .ok (.tuple #[]) (Cc W m (.map (es.eraseIdxIfInBounds i) c)) := by
 unfold Builtin.delete_
 simp [Sem.run_bind, run_underlying hu, Result.andThen, MapKept.run_getObj_map h, hck, hfk, MapKept.run_setObj_map _ h, Cc]
theorem run_len_map (h : Mp W m es c) (hu : P.underlying T = some (.map K E)) (ty : TypeId) : (Builtin.len_ #[T] ty #[.map (some m)]).run P W = .ok (goInt es.size) W := by
 simp [Builtin.len_, run_underlying hu, Sem.run_bind, Result.andThen, MapKept.run_getObj_map h]
end
theorem QP (e : Bool) (W : World) : (Instr.checkKey e 10000 2 (.int .i64 1)).run Tryz.prog W = .ok () W := by cases e <;> kernel_rfl
theorem Qr (W : World) : (Instr.findKey 2 (.int .i64 1) []).run Tryz.prog W = .ok none W := by kernel_rfl
theorem Ug (v : Value) (n : Nat) (W : World) : (Instr.findKey 2 (.int .i64 1) [⟨.int .i64 1, v, n⟩]).run Tryz.prog W = .ok (some (0, v)) W := by kernel_rfl
theorem Xg (e : Bool) (W : World) : (Instr.checkKey e 10000 103 (.agg KA)).run Tryz.prog W = .ok () W := by cases e <;> kernel_rfl
theorem Ed (W : World) : (Instr.findKey 103 (.agg KA) []).run Tryz.prog W = .ok none W := by kernel_rfl
end Go.Proofs.YtchfmgbjddopoaaGreatDoor.Hand
namespace Go.Proofs.YtchfmgbjddopoaaGreatDoor.Hand
open Go.RowKit Go.Proofs.YtchfmgbjddopoaaGreatDoorW.PrintWords Go.Proofs.YtchfmgbjddopoaaGreatDoorW.PrintLast Go.Proofs.YtchfmgbjddopoaaGreatDoorW.PrintMore
theorem Jd (w : World) : Calls Tryz.prog 41 #[] w fun e w' => ∃ p m, e = .returned (.pointer (some ⟨p, 0, none⟩)) ∧ w.heap.size ≤ p ∧ w.heap.size ≤ m ∧ Bk w' p #[.map (some m)] 158 ∧ Mp w' m #[] 0 ∧ Below w.heap.size w w' := by
 go_enter Tryz.func41, Tryz.ntmps41
 go_wp2_with (first
   | ((with_reducible refine Ac (N := 1) rfl ?_); refine Ih (N := 1) rfl rfl (by first | (go_simp; done) | (go_simp; rfl)) ?_; intro m w1 hm bm f1)
   | ((with_reducible refine Ac (N := 3) rfl ?_); refine Aj (N := 3) (C := #[.map (some m)]) rfl rfl (by first | (go_simp; done) | (go_simp; rfl)) ?_; intro p w2 hp bp f2))
 go_returns
 have h1 := f1.out.size
 have := hp.out
 exact ⟨p, m, rfl, by omega, hm.out, bp.out, bm.out.Ad f2.out, f1.out.trans (f2.out.mono h1)⟩
theorem Jr (w : World) : Calls Tryz.prog 94 #[] w fun e w' => ∃ p, e = .returned (.pointer (some ⟨p, 0, none⟩)) ∧ w.heap.size ≤ p ∧ Bk w' p #[.slice none 0 0] 213 ∧ Below w.heap.size w w' := by
 go_enter Tryz.func94, Tryz.ntmps94
 go_wp2_with (first
   | ((with_reducible refine Ac (N := 2) rfl ?_); refine Aj (N := 2) (C := #[.slice none 0 0]) rfl rfl (by first | (go_simp; done) | (go_simp; rfl)) ?_; intro p w2 hp bp f2))
 go_returns
 exact ⟨p, rfl, hp.out, bp.out, f2.out⟩
theorem VK (w : World) : Calls Tryz.prog 61 #[] w fun e w' => ∃ s st l ch, e = .returned (.pointer (some ⟨s, 0, none⟩)) ∧ w.heap.size ≤ s ∧ w.heap.size ≤ st ∧ w.heap.size ≤ l ∧ w.heap.size ≤ ch ∧ s ≠ st ∧
   Bk w' s #[.pointer (some ⟨st, 0, none⟩), .map (some l), .int .i64 0, .int .i64 0] 195 ∧ Bk w' st #[.map (some ch)] 158 ∧ Mp w' l #[] 0 ∧ Mp w' ch #[] 0 ∧ l ≠ ch ∧ Below w.heap.size w w' := by
 go_enter Tryz.func61, Tryz.ntmps61
 go_wp2_with (first
   | (go_at_call 41; refine (Jd _).mono ?_; rintro e w1 ⟨st, ch, rfl, hst, hch, bst, bch, f1⟩; replace bst := Aa.mk bst; replace bch := Aa.mk bch; replace f1 := Aa.mk f1; replace hst := Aa.mk hst; replace hch := Aa.mk hch)
   | ((with_reducible refine Ac (N := 2) rfl ?_); refine Ih (N := 2) rfl rfl (by first | (go_simp; done) | (go_simp; rfl)) ?_; intro l w2 hl bl f2)
   | ((with_reducible refine Ac (N := 4) rfl ?_); refine Aj (N := 4) (C := #[.pointer (some ⟨st, 0, none⟩), .map (some l), .int .i64 0, .int .i64 0]) rfl rfl (by first | (go_simp; done) | (go_simp; rfl)) ?_; intro s w3 hs bs f3))
 go_returns
 have h1 := f1.out.size
 have h2 := f2.out.size
 have := hs.out
 have := hst.out
 have := hl.out
 have := hch.out
 have := (bst.out).lt
 have := (bch.out).lt
 have := (bl.out).lt
 refine ⟨s, st, l, ch, rfl, by omega, by omega, by omega, by omega, by omega, bs.out, (bst.out.Ad f2.out).Ad f3.out, bl.out.Ad f3.out, (bch.out.Ad f2.out).Ad f3.out, by omega, f1.out.trans ((f2.out.mono h1).trans (f3.out.mono (by omega)))⟩
end Go.Proofs.YtchfmgbjddopoaaGreatDoor.Hand
namespace Go.Proofs.YtchfmgbjddopoaaGreatDoor.Hand
open Go.RowKit Go.Proofs.YtchfmgbjddopoaaGreatDoorW.PrintWords Go.Proofs.YtchfmgbjddopoaaGreatDoorW.PrintLast Go.Proofs.YtchfmgbjddopoaaGreatDoorW.PrintMore
abbrev Dj : Array MapEntry := #[⟨.agg KA, .agg WA, 0⟩]
section
variable {W : World} {mw r : Nat}
theorem Bc {o : Obj} (h : Ob W r o) (hn : ∀ c t f, o ≠ .cells c t f) : (getObj r).run Tryz.prog W = .ok o W := by
 cases o <;> first | exact absurd rfl (hn _ _ _) | simp [getObj, Sem.run, show W.heap[r]? = _ from h]
theorem Gv {o o' : Obj} (h : Ob W r o) (hn : ∀ c t f, o ≠ .cells c t f) : (setObj r o').run Tryz.prog W = .ok () (Cc W r o') := by
 cases o <;> first | exact absurd rfl (hn _ _ _) | simp [setObj, Sem.run, show W.heap[r]? = _ from h, Cc]
theorem Gw (hm : Mp W mw Dj 1) : (Instr.range 242 (.map (some mw))).run Tryz.prog W = .ok (.pointer (some ⟨W.heap.size, 0, none⟩)) (W.alloc (.mapIter (some mw) 1 #[] 1)) := by
 unfold Instr.range
 simp [Sem.run_bind, run_underlying Tryz.underlying242, Result.andThen, Bc hm (fun _ _ _ h => by cases h), newObj, Sem.run]
theorem Ij (ty : TypeId) (hm : Mp W mw Dj 1) (hr : Ob W r (.mapIter (some mw) 1 #[] 1)) :
   (Instr.next (.pointer (some ⟨r, 0, none⟩)) false ty).run Tryz.prog W = .ok (.tuple #[.bool true, .agg KA, .agg WA]) (Cc W r (.mapIter (some mw) 1 #[0] 1)) := by
 unfold Instr.next
 simp [Sem.run_bind, Result.andThen, Bc hm (fun _ _ _ h => by cases h), Bc hr (fun _ _ _ h => by cases h), Gv hr (fun _ _ _ h => by cases h), choose, Sem.run, Question.forced]
theorem Gx (ty : TypeId) (hm : Mp W mw Dj 1) (hr : Ob W r (.mapIter (some mw) 1 #[0] 1)) :
   (Instr.next (.pointer (some ⟨r, 0, none⟩)) false ty).run Tryz.prog W = .ok (.tuple #[.bool false]) W := by
 unfold Instr.next
 simp [Sem.run_bind, Result.andThen, Bc hm (fun _ _ _ h => by cases h), Bc hr (fun _ _ _ h => by cases h), choose, Sem.run, Question.forced]
theorem Gz (hm : Mp W mw Dj 1) (hr : Ob W r (.mapIter (some mw) 1 #[0] 1)) :
   (Instr.entry (.pointer (some ⟨r, 0, none⟩))).run Tryz.prog W = .ok (.tuple #[.agg KA, .agg WA]) W := by
 unfold Instr.entry
 simp [Sem.run_bind, Result.andThen, Bc hm (fun _ _ _ h => by cases h), Bc hr (fun _ _ _ h => by cases h)]
end
end Go.Proofs.YtchfmgbjddopoaaGreatDoor.Hand
end
namespace Go.Proofs.YtchfmgbjddopoaaGreatDoor.Pgood
open Go.RowKit Go.Proofs.YtchfmgbjddopoaaGreatDoorW.PrintWords Go.Proofs.YtchfmgbjddopoaaGreatDoorW.PrintLast Go.Proofs.YtchfmgbjddopoaaGreatDoorW.PrintMore
attribute [local go_sem] max2_int min2_int max_two min_two max_three min_three max_four min_four
def errW : Option Int → Value
 | none => .nilIface
 | some c => .iface 0 (.int .i64 c)
theorem errW_none : errW none = .nilIface := rfl
theorem errW_some (c : Int) : errW (some c) = .iface 0 (.int .i64 c) := rfl
def C9.l0 : Nat → ByteArray → Int → Int → Option (Bool)
 | 0, _, _, _ => none
 | k + 1, x0, x5, x6 => if x6 < x5 then (if 0 ≤ x6 then (if x6 < (x0.size : Int) then (if (bt x0 x6) < 33 then (some false) else (if (bt x0 x6) > 126 then (some false) else (C9.l0 k x0 x5 (wrap64 (x6 + 1))))) else (none)) else (none)) else (if (x0.size : Int) ≥ 1 then (some (decide ((x0.size : Int) ≤ 20))) else (some false))
def C9.f (k : Nat) (a0 : ByteArray) : Option (Bool) := C9.l0 k a0 (a0.size : Int) 0
theorem C9.calls (k : Nat) (a0 : ByteArray) (r : Bool) (w : World) (h : C9.f k a0 = some r) :
   Calls Tryz.prog 119 #[.string a0] w fun e w' => e = .returned (.bool r) ∧ Az w w' := by
 have H : (C9.l0 k a0 (a0.size : Int) 0) = some r := h
 clear h
 have H' := Aa.mk H
 clear H
 go_enter Tryz.func119, Tryz.ntmps119
 go_wp2
 go_loopg [6] k (fun kq v6 w' => ∃ (x6_1 : Int), v6 = .int .i64 x6_1 ∧ Aa (C9.l0 kq a0 (a0.size : Int) x6_1 = some r) ∧ Aa (kq ≤ k) ∧ Az w w')
 case atStart => exact ⟨(0), (by first | rfl | (simp; done) | (simp [*]; done)), H', ⟨Nat.le_refl _⟩, by repeat (first | exact Az.refl _ | apply Az.step)⟩
 case round =>
   clear H'
   try clear c1
   obtain ⟨x6_1, rfl, HA, HK1, ⟨m1, rfl⟩⟩ := hrel
   cases gk with
   | zero => exact absurd HA.out (by simp [C9.l0])
   | succ k1 =>
     have H := HA.out
     clear HA
     simp only [C9.l0] at H
     by_cases c2 : x6_1 < (a0.size : Int)
     · rw [if_pos c2] at H
       have c2b0 : decide (x6_1 < (a0.size : Int)) = true := decide_eq_true c2
       clear c2
       by_cases c3 : 0 ≤ x6_1
       · rw [if_pos c3] at H
         have c3b0 : decide (0 ≤ x6_1) = true := decide_eq_true c3
         clear c3
         by_cases c4 : x6_1 < (a0.size : Int)
         · rw [if_pos c4] at H
           have c4b0 : decide (x6_1 < (a0.size : Int)) = true := decide_eq_true c4
           clear c4
           by_cases c6 : (bt a0 x6_1) < 33
           · rw [if_pos c6] at H
             have c6b0 : decide ((bt a0 x6_1) < 33) = true := decide_eq_true c6
             clear c6
             obtain rfl := Option.some.inj H
             have p5 : 0 ≤ (x6_1 : Int) := of_decide_eq_true (by first | (with_reducible assumption) | assumption)
             have q5 : x6_1 < (a0.size : Int) := of_decide_eq_true (by first | (with_reducible assumption) | assumption)
             have hx5 := IU a0 x6_1
             replace p5 := eq_true p5
             replace q5 := eq_true q5
             go_wp2
             go_ret
             exact ⟨by first | rfl | (simp; done) | (simp [*]; done), by repeat (first | exact Az.refl _ | apply Az.step)⟩
           · rw [if_neg c6] at H
             have c6b0 : decide ((bt a0 x6_1) < 33) = false := decide_eq_false c6
             clear c6
             by_cases c8 : (bt a0 x6_1) > 126
             · rw [if_pos c8] at H
               have c8b0 : decide (126 < (bt a0 x6_1)) = true := decide_eq_true c8
               clear c8
               obtain rfl := Option.some.inj H
               have p5 : 0 ≤ (x6_1 : Int) := of_decide_eq_true (by first | (with_reducible assumption) | assumption)
               have q5 : x6_1 < (a0.size : Int) := of_decide_eq_true (by first | (with_reducible assumption) | assumption)
               have hx5 := IU a0 x6_1
               replace p5 := eq_true p5
               replace q5 := eq_true q5
               have p7 : 0 ≤ (x6_1 : Int) := of_decide_eq_true (by first | (with_reducible assumption) | assumption)
               have q7 : x6_1 < (a0.size : Int) := of_decide_eq_true (by first | (with_reducible assumption) | assumption)
               have hx7 := IU a0 x6_1
               replace p7 := eq_true p7
               replace q7 := eq_true q7
               go_wp2
               go_ret
               exact ⟨by first | rfl | (simp; done) | (simp [*]; done), by repeat (first | exact Az.refl _ | apply Az.step)⟩
             · rw [if_neg c8] at H
               have c8b0 : decide (126 < (bt a0 x6_1)) = false := decide_eq_false c8
               clear c8
               have H' := Aa.mk H
               clear H
               have p5 : 0 ≤ (x6_1 : Int) := of_decide_eq_true (by first | (with_reducible assumption) | assumption)
               have q5 : x6_1 < (a0.size : Int) := of_decide_eq_true (by first | (with_reducible assumption) | assumption)
               have hx5 := IU a0 x6_1
               replace p5 := eq_true p5
               replace q5 := eq_true q5
               have p7 : 0 ≤ (x6_1 : Int) := of_decide_eq_true (by first | (with_reducible assumption) | assumption)
               have q7 : x6_1 < (a0.size : Int) := of_decide_eq_true (by first | (with_reducible assumption) | assumption)
               have hx7 := IU a0 x6_1
               replace p7 := eq_true p7
               replace q7 := eq_true q7
               go_wp2
               go_roundg k1
               case measure => have := HK1.out; omega
               case rel => exact ⟨(wrap64 (x6_1 + 1)), (by first | rfl | (simp; done) | (simp [*]; done)), H', ⟨by have := HK1.out; omega⟩, by repeat (first | exact Az.refl _ | apply Az.step)⟩
         · rw [if_neg c4] at H
           exact absurd H (by simp)
       · rw [if_neg c3] at H
         exact absurd H (by simp)
     · rw [if_neg c2] at H
       have c2b0 : decide (x6_1 < (a0.size : Int)) = false := decide_eq_false c2
       clear c2
       by_cases c9 : (a0.size : Int) ≥ 1
       · rw [if_pos c9] at H
         have c9b0 : decide (1 ≤ (a0.size : Int)) = true := decide_eq_true c9
         have c9b1 : decide (1 ≤ a0.size) = true := decide_eq_true (by omega)
         clear c9
         obtain rfl := Option.some.inj H
         go_wp2
         go_ret
         exact ⟨by first | rfl | (simp; done) | (simp [*]; done), by repeat (first | exact Az.refl _ | apply Az.step)⟩
       · rw [if_neg c9] at H
         have c9b0 : decide (1 ≤ (a0.size : Int)) = false := decide_eq_false c9
         have c9b1 : decide (1 ≤ a0.size) = false := decide_eq_false (by omega)
         clear c9
         obtain rfl := Option.some.inj H
         go_wp2
         go_ret
         exact ⟨by first | rfl | (simp; done) | (simp [*]; done), by repeat (first | exact Az.refl _ | apply Az.step)⟩
end Go.Proofs.YtchfmgbjddopoaaGreatDoor.Pgood
namespace Go.Proofs.YtchfmgbjddopoaaGreatDoor.Hand
open Go.RowKit Go.Proofs.YtchfmgbjddopoaaGreatDoorW.PrintWords Go.Proofs.YtchfmgbjddopoaaGreatDoorW.PrintLast Go.Proofs.YtchfmgbjddopoaaGreatDoorW.PrintMore
theorem Xh (w : World) : (Go.sizeOf 5).run Tryz.prog w = .ok 1 w := by kernel_rfl
theorem AB : (Tryz.prog.info? 103).map (·.size) = some 16 := by kernel_rfl
theorem Bl : (Tryz.prog.info? 105).map (·.size) = some 18 := by kernel_rfl
theorem Zw (b : Nat) (W : World) (h : (W.cell? ⟨b, 0, none⟩).isSome = true) (hf : W.frozen? ⟨b, 0, none⟩ = false) :
   (Builtin.copy_ #[39, 9] 3 #[.slice (some ⟨b, 0, none⟩) 16 16, .string ⟨#[97]⟩]).run Tryz.prog W = .ok (.int .i64 1) (W.setCell ⟨b, 0, none⟩ (.int .u8 97)) := by
 have h0 : ∀ j, j < (⟨#[97]⟩ : ByteArray).size → j = 0 := fun j hj => by
   have : j < 1 := hj
   omega
 exact run_copy_string W 39 9 3 5 b 0 16 16 ⟨#[97]⟩ Tryz.underlying39 Xh (by decide) (fun j hj => by rw [h0 j hj]; exact h) (fun j hj => by rw [h0 j hj]; exact hf)
theorem z_ka : Z16.setIfInBounds 0 (.int .u8 97) = KA := by kernel_rfl
theorem Ib : (KA.extract 0 (0 + 16)).toList = KA.toList := by kernel_rfl
theorem QJ : over Z16 0 KA.toList = KA := by kernel_rfl
theorem QN : KA.all (·.oneCell') = true := by kernel_rfl
theorem of_a (w : World) (hi : ∀ w', Calls Tryz.prog 203 #[.string ⟨#[97]⟩, .int .u8 0] w' fun e w1 => e = .returned (.int .i64 (-1)) ∧ Az w' w1) :
   Calls Tryz.prog 145 #[.string ⟨#[97]⟩] w fun e w' => e = .returned (.tuple #[.agg KA, .int .i64 0]) ∧ Below w.heap.size w w' := by
 go_enter Tryz.func145, Tryz.ntmps145
 go_wp2_with (first
   | ((with_reducible refine Ac (N := 2) rfl ?_); refine Aj (N := 2) (C := Z16) rfl rfl (by first | (go_simp; done) | (go_simp; rfl)) ?_; intro g2 w2 hg2 b2 f2)
   | ((with_reducible refine Ac (N := 4) rfl ?_); refine Aj (N := 4) (C := Z16) rfl rfl (by first | (go_simp; done) | (go_simp; rfl)) ?_; intro g4 w4 hg4 b4 f4; have b2' := Aa.mk (b2.out.Ad f4.out); have hc := fun n => Zw g4 (w4.drewN n) (Bk.isSome (b4.out.drewN n) (by decide)) (Bk.free (b4.out.drewN n) 0))
   | (go_at_call 203; refine (hi _).mono ?_; rintro e w1 ⟨rfl, n, rfl⟩)
   | ((with_reducible refine Ac (N := 21) rfl ?_); refine Au (N := 21) rfl rfl rfl rfl (z_ka ▸ Bk.set (b4.out.drewN n) 0 (.int .u8 97)) Tryz.underlying103 rfl AB KA.toList Ib rfl ?_; clear hc)
   | ((with_reducible refine Af (t := 103) (p := 2) (v := .tmp 21) rfl ?_); refine Ak rfl (ty := 103) (x := .tmp 2) (y := .tmp 21) rfl rfl rfl (Ob.far (b2'.out.drewN n) (by have := b2.out.lt; have := hg4.out; omega) _ _) AB QN (by decide) KA QJ ?_; intro w5 b5 f5))
 refine AO (Tryz.results145) rfl b5.out Tryz.underlying103 rfl AB rfl rfl ⟨rfl, ?_⟩
 have := f2.out.size
 have := hg2.out
 have := hg4.out
 exact (Fr.trans (Fr.of_below f2.out) (Fr.trans (T := fun k => k = g2 ∨ k = g4) (Fr.of_below f4.out) ((Fr.drewN (Fr.refl _ _) n).set g4 0 _ (.inl (.inr rfl)) |>.trans (f5.out.weaken (fun _ _ h => .inl h))))).below (by omega) (Nat.le_refl _)
theorem ZU (W : World) : (binOp .eql 103 (.agg KA) (.agg KA)).run Tryz.prog W = .ok (.bool true) W := by kernel_rfl
theorem Zx (b : Nat) (W : World) (C : Array Value) (t : Nat) (h : Bk W b C t) (h0 : C[0]? = some (.int .u8 97)) : (convert 39 9 (.slice (some ⟨b, 0, none⟩) 1 16)).run Tryz.prog W = .ok (.string ⟨#[97]⟩) W := by
 have hr : IQ W .u8 (some ⟨b, 0, none⟩) 1 [97] := ⟨rfl, by decide, fun _ => ⟨_, rfl, fun j hj => by
   have : j = 0 := by omega
   subst this
   exact h.cell h0⟩⟩
 exact Em Tryz.underlying39 Tryz.underlying5 Tryz.underlying9 hr
theorem Y2 (w : World) : Calls Tryz.prog 171 #[.agg KA] w fun e w' => e = .returned (.string ⟨#[97]⟩) ∧ Below w.heap.size w w' := by
 unfold KA
 go_enter Tryz.func171, Tryz.ntmps171
 go_wp2_with (refine Aj (N := 1) rfl rfl (by first | (go_simp; done) | (go_simp; rfl)) ?_; intro g2 w2 hg2 b2 f2; have c0 := Bk.cell b2.out (j := 0) rfl; have c1 := Bk.cell b2.out (j := 1) rfl; have hv := Zx g2 w2 _ _ b2.out rfl)
 refine wp_loop_rounds 3 ?_
 rw [rounds_succ]
 go_wp2_with fail
 rw [rounds_succ]
 go_wp2_with fail
 go_returns
 exact ⟨rfl, f2.out⟩
theorem Zm (w : World) (hi : ∀ w', Calls Tryz.prog 203 #[.string ⟨#[97]⟩, .int .u8 0] w' fun e w1 => e = .returned (.int .i64 (-1)) ∧ Az w' w1) :
   Calls Tryz.prog 120 #[.agg KA] w fun e w' => e = .returned (.bool true) ∧ Below w.heap.size w w' := by
 have KE : Aa (KA = #[.int .u8 97, .int .u8 0, .int .u8 0, .int .u8 0, .int .u8 0, .int .u8 0, .int .u8 0, .int .u8 0, .int .u8 0, .int .u8 0, .int .u8 0, .int .u8 0, .int .u8 0, .int .u8 0, .int .u8 0, .int .u8 0]) := ⟨rfl⟩
 go_enter Tryz.func120, Tryz.ntmps120
 go_wp2_with (first
   | ((with_reducible refine Ac (N := 1) rfl ?_); refine Aj (N := 1) (C := KA) rfl rfl (by first | (go_simp; done) | (go_simp; rfl)) ?_; intro g1 w1 hg1 b1 f1)
   | ((with_reducible refine Ac (N := 6) rfl ?_); refine Au (N := 6) rfl rfl rfl rfl b1.out Tryz.underlying103 rfl AB KA.toList Ib rfl ?_)
   | (go_at_call 171; refine (Y2 _).mono ?_; rintro e w2 ⟨rfl, f2⟩; replace f2 := Aa.mk f2; have b1' := Aa.mk (b1.out.Ad f2.out))
   | (go_at_call 145; refine (of_a _ hi).mono ?_; rintro e w3 ⟨rfl, f3⟩; replace f3 := Aa.mk f3; have b1'' := Aa.mk (b1'.out.Ad f3.out))
   | ((with_reducible refine Ac (N := 3) rfl ?_); refine Aj (N := 3) (C := Z16) rfl rfl (by first | (go_simp; done) | (go_simp; rfl)) ?_; intro g4 w4 hg4 b4 f4; have b1x := Aa.mk (b1''.out.Ad f4.out))
   | ((with_reducible refine Af (t := 103) (p := 3) (v := .tmp 9) rfl ?_); refine Ak rfl (ty := 103) (x := .tmp 3) (y := .tmp 9) rfl rfl rfl b4.out AB QN (by decide) KA QJ ?_; intro w5 b5 f5; have b1y := Aa.mk (b1x.out.fr f5.out (by have := b1''.out.lt; have := hg4.out; omega)))
   | ((with_reducible refine Ac (N := 14) rfl ?_); refine BO (N := 14) rfl (by rfl) rfl rfl b5.out Tryz.underlying103 rfl AB KA.toList Ib rfl ?_)
   | ((with_reducible refine Ac (N := 15) rfl ?_); refine BO (N := 15) rfl (by rfl) rfl rfl b1y.out Tryz.underlying103 rfl AB KA.toList Ib rfl ?_; have he := ZU))
 go_returns
 have := f2.out.size
 have := f3.out.size
 have := f1.out.size
 have := hg4.out
 exact ⟨rfl, (Fr.trans (T := fun k => k = g4) (Fr.of_below f1.out) ((Fr.of_below f2.out).trans ((Fr.of_below f3.out).trans ((Fr.of_below f4.out).trans f5.out)))).below (by omega) (Nat.le_refl _)⟩
end Go.Proofs.YtchfmgbjddopoaaGreatDoor.Hand
