import Derived.Great.CaseRows
import Derived.Test.YtchfmgbjddopoaaGreatDoorProg
import Derived.Below
import Derived.Deep.Draws
import Derived.Deep.AppendLies
import Derived.Maps.AppendAt
import Derived.OwnWalk
import Derived.Laws.BytesArg
import Derived.Laws.MakeOwn
import Derived.Laws.OwnMore
import Derived.Deep.OwnRows
import Derived.Tactics
import Derived.Lib.ConvBytes
import Derived.Laws.Slices
import Derived.WalkKit
import Derived.KernelRfl
import Derived.RowKit3
import Derived.Deep.LoopGhost
import Derived.Deep.QuietTactic
import Derived.BigQuiet
import Derived.WideLaws
import Derived.Deep.DeepCutAuto
import Derived.Deep.CutBlock
import Derived.Deep.RegionHeld3
import Derived.Laws.Rows
import Derived.Lib.AppendStr
import Derived.ArgAppend
import Derived.Laws.IdiomCopy
import Derived.OrdersHeld
import Derived.Laws.BitsLemmas
import Derived.RowKit
import Derived.Laws.StructEq
import Derived.Test.YtchfmgbjddopoaaGreatDoorM01
import Derived.Test.YtchfmgbjddopoaaGreatDoorM02
import Derived.Test.YtchfmgbjddopoaaGreatDoorM13
set_option linter.unusedVariables false
set_option linter.unusedSimpArgs false
set_option maxHeartbeats 6400000
set_option maxRecDepth 100000
namespace Go.Proofs.YtchfmgbjddopoaaGreatDoor.Hand
open Go.RowKit Go.Proofs.YtchfmgbjddopoaaGreatDoorW.PrintWords Go.Proofs.YtchfmgbjddopoaaGreatDoorW.PrintLast Go.Proofs.YtchfmgbjddopoaaGreatDoorW.PrintMore
open Plain (Ky Wr Rc Ver Ent St Bytes)
section
variable {P : Program} {ops : Array Oper} {rest : List Oper} {op : Oper} {a : Act} {W : World} {Q : Exit → Act → World → Prop}
theorem LW (hgd : op.guard = none) {t : TypeId} {parts : Array (Nat × Operand)} (ho : op.op = .build t parts) {cells : Array Value}
   (hf : P.built t (parts.toList.map fun (i, x) => (i, a.eval x)) = some cells) (h : wpList P ops Q rest (a.put op.dst (.agg cells)) W) : wpList P ops Q (op :: rest) a W := by
 rw [← Array.toList_map] at hf
 exact wpList_build hgd t parts ho (by rw [hf]; rfl) (by rw [hf]; exact h)
theorem Lr (hgd : op.guard = none) {t e : TypeId} {x : Tmp} {s : Nat} (ho : op.op = .buildSlice t 1 #[(0, .tmp x)]) (hu : P.underlying t = some (.slice e)) (hsz : (P.info? e).map (·.size) = some s)
   (hz : ((P.info? e).bind (·.zero)).isSome = true) (hs : 0 < s) (hs2 : 1 * s ≤ 2 ^ 24) {C : Array Value} (hC : C.size = s) (hev : a.eval (.tmp x) = .agg C)
   (h : ∀ g w1, Aa (W.heap.size ≤ g) → Aa (Bk w1 g C e) → Aa (Below W.heap.size W w1) → wpList P ops Q rest (a.put op.dst (.slice (some ⟨g, 0, none⟩) 1 1)) w1) : wpList P ops Q (op :: rest) a W := by
 refine Great.wpList_buildRows hgd t e #[(0, .tmp x)] s [.agg C] ho (fun _ => x) _ rfl _ rfl hu hsz hz hs Nat.one_pos hs2 rfl (fun v hv => ?_) (fun i hi => ?_) ?_
 · rw [List.mem_singleton.1 hv]
   exact hC
 · have : i = 0 := by simpa using hi
   subst this
   exact hev
 · have e1 : ([Value.agg C].flatMap fun v => v.cells.toList).toArray = C := by simp [Value.cells]
   rw [e1]
   exact h _ _ ⟨Nat.le_refl _⟩ ⟨Ob.new W _⟩ ⟨Ah (Below.refl _ _) _⟩
end
theorem QM {α : Type} {l : List α} (h : l.length = 16) : ∃ a0 a1 a2 a3 a4 a5 a6 a7 a8 a9 a10 a11 a12 a13 a14 a15, l = [a0, a1, a2, a3, a4, a5, a6, a7, a8, a9, a10, a11, a12, a13, a14, a15] := by
 match l, h with
 | [a0, a1, a2, a3, a4, a5, a6, a7, a8, a9, a10, a11, a12, a13, a14, a15], _ => exact ⟨_, _, _, _, _, _, _, _, _, _, _, _, _, _, _, _, rfl⟩
theorem WH (k : Ky) : Tryz.prog.built 105 [(0, .agg (AZ k).toArray)] = some (wrC ⟨k, ⟨#[]⟩, false⟩).toArray := by
 unfold wrC
 obtain ⟨a0, a1, a2, a3, a4, a5, a6, a7, a8, a9, a10, a11, a12, a13, a14, a15, e⟩ := QM (Ai k)
 rw [e]
 kernel_rfl
theorem Xn : ((Tryz.prog.info? 105).bind (·.zero)).isSome = true := by kernel_rfl
theorem Pz : (Tryz.prog.info? 105).map (fun i => (i.zero, i.size, i.bytes)) = some (some (.agg Z18), 18, 40) := by kernel_rfl
theorem Vy (k : Ky) (v : ByteArray) (g g' : Bool) : (wrC ⟨k, v, g⟩).toArray.setIfInBounds 17 (.bool g') = (wrC ⟨k, v, g'⟩).toArray := by
 unfold wrC
 obtain ⟨a0, a1, a2, a3, a4, a5, a6, a7, a8, a9, a10, a11, a12, a13, a14, a15, e⟩ := QM (Ai k)
 rw [e]
 rfl
theorem Vz (k : Ky) (v v' : ByteArray) (g : Bool) : (wrC ⟨k, v, g⟩).toArray.setIfInBounds 16 (.string v') = (wrC ⟨k, v', g⟩).toArray := by
 unfold wrC
 obtain ⟨a0, a1, a2, a3, a4, a5, a6, a7, a8, a9, a10, a11, a12, a13, a14, a15, e⟩ := QM (Ai k)
 rw [e]
 rfl
def Hz (w : World) (B : Nat) (v : Value) (ws : List Wr) : Prop := w.ownsRow B 105 18 v ws.length (ws.flatMap wrC)
theorem Hz.row {w : World} {B : Nat} {v : Value} {ws : List Wr} (h : Hz w B v ws) : Eo w v ws := RowK.own Bg h rfl
theorem MC (s : ByteArray) : strOfNums (bytesOf s) = s := by
 unfold strOfNums bytesOf
 rw [List.map_map]
 have : (s.data.toList.map ((fun n : Int => UInt8.ofNat n.toNat) ∘ fun b : UInt8 => (b.toNat : Int))) = s.data.toList := by
   refine (List.map_congr_left fun x _ => ?_).trans (List.map_id _)
   simp [Function.comp]
 rw [this]
end Go.Proofs.YtchfmgbjddopoaaGreatDoor.Hand
namespace Go.Proofs.YtchfmgbjddopoaaGreatDoor.PPut
open Go.RowKit Go.Proofs.YtchfmgbjddopoaaGreatDoorW.PrintWords Go.Proofs.YtchfmgbjddopoaaGreatDoorW.PrintLast Go.Proofs.YtchfmgbjddopoaaGreatDoorW.PrintMore
attribute [local go_sem] max2_int min2_int max_two min_two max_three min_three max_four min_four
def errW : Option Int → Value
 | none => .nilIface
 | some c => .iface 0 (.int .i64 c)
theorem errW_none : errW none = .nilIface := rfl
theorem errW_some (c : Int) : errW (some c) = .iface 0 (.int .i64 c) := rfl
theorem info5 : (Tryz.prog.info? 5).map (fun i => (i.zero, i.size, i.bytes)) = some (some (.int .u8 0), 1, 1) := by kernel_rfl
def CE.l0 : Nat → Int → List Int → Option (List Int)
 | 0, _, _ => none
 | k + 1, x1, x5 => if x1 > 127 then (if x5.length < 140737488355328 then (CE.l0 k (x1 / 128) (x5 ++ [Go.bits .or .u8 ((x1) % 256) 128])) else (none)) else (if x5.length < 140737488355328 then (some (x5 ++ [(x1) % 256])) else (none))
def CE.f (k : Nat) (l0 : List Int) (a1 : Int) : Option (List Int) := (some (([] : List Int) : List Int)).bind fun y101 => (if y101.length + l0.length < 140737488355328 then (CE.l0 k a1 (y101 ++ l0)) else (none))
theorem CE.calls (k : Nat) (A0 : Option Addr) (c0 : Nat) (l0 : List Int) (a1 : Int) (r : List Int) (w : World) (hr0 : Kd.C (Kd.int .u8) w A0 l0.length l0) (hc0 : l0.length ≤ c0) (h : CE.f k l0 a1 = some r) :
   Calls Tryz.prog 36 #[.slice A0 l0.length c0, .int .u64 a1] w fun e w' => ∃ v0_ : Value, e = .returned (v0_) ∧ Kd.R (Kd.int .u8) 5 w' w.heap.size (fun _ => True) v0_ r ∧ Below w.heap.size w w' := by
 have HR0 := Aa.mk hr0
 have HC0 := Aa.mk hc0
 clear hr0 hc0
 have HB := Aa.mk (Below.refl w.heap.size w)
 have H : ((some (([] : List Int) : List Int)).bind fun y101 => (if y101.length + l0.length < 140737488355328 then (CE.l0 k a1 (y101 ++ l0)) else (none))) = some r := h
 clear h
 obtain ⟨y101, hy101⟩ : ∃ y_ : List Int, y_ = (([] : List Int)) := ⟨_, rfl⟩
 replace H : (if y101.length + l0.length < 140737488355328 then (CE.l0 k a1 (y101 ++ l0)) else (none)) = some r := by first | (rw [hy101]; with_reducible exact H) | (have H2_ := (Option.bind_some _ _).symm.trans H; rw [hy101]; with_reducible exact H2_) | (have H2_ := (Option.bind_some _ _).symm.trans H; with_reducible exact H2_) | with_reducible exact H | (rw [hy101]; exact H) | exact H
 have Ny101 := Aa.mk hy101
 clear hy101
 by_cases c3 : y101.length + l0.length < 140737488355328
 · rw [if_pos c3] at H
   have LMc3 := Aa.mk c3
   clear c3
   obtain ⟨y104, hy104⟩ : ∃ y_ : List Int, y_ = (y101 ++ l0) := ⟨_, rfl⟩
   replace H : (CE.l0 k a1 y104) = some r := by first | (rw [hy104]; with_reducible exact H) | (have H2_ := (Option.bind_some _ _).symm.trans H; rw [hy104]; with_reducible exact H2_) | (have H2_ := (Option.bind_some _ _).symm.trans H; with_reducible exact H2_) | with_reducible exact H | (rw [hy104]; exact H) | exact H
   have Ny104 := Aa.mk hy104
   clear hy104
   have H' := Aa.mk H
   clear H
   go_enter Tryz.func36, Tryz.ntmps36
   go_wp2_with (first | ((with_reducible refine Ac (N := 6) rfl ?_); refine Kd.Xar (Kd.int .u8) _ 5 ?hg (N := 6) ?hd (xs := ([] : List Int)) (inner := []) (ok := fun _ => True) (okp := fun _ => True) ?hr ?hp (fun _ hk => hk) trivial (Below.refl _ _) (Nat.le_refl _) (by simp) ?_; (case hd => rfl); (case hg => rfl); (case hr => first | (go_simp; done) | (go_simp; rfl)); (case hp => exact (JZ.none _ _)); intro v102 w4 ho5 hb hg_ hnew_; clear hg_ hnew_; (first | rw [← Ny101.out] at ho5 | (simp only [Int.reduceToNat] at ho5; rw [← Ny101.out] at ho5)); have n0_ := Aa.mk (Kd.YA ho5 (Ba (by repeat (first | (with_reducible first | exact HB.out | apply Ah | apply Ae | apply below_drew1) | exact HB.out)))); have n1_ := Aa.mk (CS (by repeat (first | (with_reducible first | exact HB.out | apply Ah | apply Ae | apply below_drew1) | exact HB.out)) hb); clear HB; have HO103 := n0_; have HB := n1_; clear n0_ n1_; clear hb ho5) | ((with_reducible refine E5 (b := .append) (xs := #[.tmp 6, .tmp 7]) rfl ?_); at_builtin; refine Kd.Ns (Kd.int .u8) (w0 := w) w.heap.size rfl (.tmp 6) (.tmp 7) 39 5 (.int .u8 0) 1 rfl Tryz.underlying39 info5 rfl (by decide) (by omega) v102 y101 l0 _ _ _ (fun _ => True) (fun _ => False) rfl rfl ?aO ?aR (fun _ _ h => h) (fun _ h => h.elim) ?aF ?aB ?aS ?aL ?_; (case aR => repeat (first | exact (Kd.UF HR0.out HB.out) | (with_reducible refine Kd.C_alloc ?_ _) | (with_reducible refine Kd.BJ ?_ _) | (with_reducible refine Kd.C_drew ?_))); (case aB => exact (by repeat (first | (with_reducible first | exact HB.out | apply Ah | apply Ae | apply below_drew1) | exact HB.out))); (case aF => exact (fun _ _ => trivial)); (case aO => exact (by (with_reducible repeat (first | apply Kd.R_alloc | apply Kd.R_drewN | apply Kd.R_drew)); exact HO103.out)); (case aS => exact (Ba (by repeat (first | (with_reducible first | exact HB.out | apply Ah | apply Ae | apply below_drew1) | exact HB.out)))); (case aL => have := LMc3.out; omega); intro v105 w6 ho hb hg hat; rw [← Ny104.out] at ho; have n0_ := Aa.mk (hb); have n1_ := Aa.mk (ho); clear HB; clear HO103; have HB := n0_; have HO106 := n1_; clear n0_ n1_; clear ho hb hg hat))
   go_loopg [1, 5] k (fun kq v1 v5 w' => ∃ (x1_1 : Int) (x5_1 : List Int), v1 = .int .u64 x1_1 ∧ Aa (CE.l0 kq x1_1 x5_1 = some r) ∧ Aa (kq ≤ k) ∧ Aa (Kd.R (Kd.int .u8) 5 w' w.heap.size (fun _ => True) v5 x5_1) ∧ Aa (Below w.heap.size w w'))
   case atStart => exact ⟨(a1), (y104), (by first | rfl | (simp; done) | (simp [*]; done)), H', ⟨Nat.le_refl _⟩, ⟨by (with_reducible repeat (first | apply Kd.R_alloc | apply Kd.R_drewN | apply Kd.R_drew)); exact HO106.out⟩, ⟨by repeat (first | (with_reducible first | exact HB.out | apply Ah | apply Ae | apply below_drew1) | exact HB.out)⟩⟩
   case round =>
     clear H'
     try clear p2
     try clear c3
     obtain ⟨x1_1, x5_1, rfl, HA, HK1, HO_5, HB⟩ := hrel
     cases gk with
     | zero => exact absurd HA.out (by simp [CE.l0])
     | succ k1 =>
       have H := HA.out
       clear HA
       simp only [CE.l0] at H
       by_cases c7 : x1_1 > 127
       · rw [if_pos c7] at H
         have c7b0 : decide (127 < x1_1) = true := decide_eq_true c7
         clear c7
         by_cases c8 : x5_1.length < 140737488355328
         · rw [if_pos c8] at H
           have LMc8 := Aa.mk c8
           clear c8
           obtain ⟨y107, hy107⟩ : ∃ y_ : List Int, y_ = (x5_1 ++ [Go.bits .or .u8 ((x1_1) % 256) 128]) := ⟨_, rfl⟩
           replace H : (CE.l0 k1 (x1_1 / 128) y107) = some r := by first | (rw [hy107]; with_reducible exact H) | (have H2_ := (Option.bind_some _ _).symm.trans H; rw [hy107]; with_reducible exact H2_) | (have H2_ := (Option.bind_some _ _).symm.trans H; with_reducible exact H2_) | with_reducible exact H | (rw [hy107]; exact H) | exact H
           have Ny107 := Aa.mk hy107
           clear hy107
           have H' := Aa.mk H
           clear H
           go_wp2_with (first | ((with_reducible refine E5 (b := .append) (xs := #[.tmp 11, .tmp 15]) rfl ?_); at_builtin; refine Kd.RI (Kd.int .u8) (w0 := w) w.heap.size rfl (.tmp 11) (.tmp 15) 39 5 (.int .u8 0) 1 rfl Tryz.underlying39 info5 rfl (by decide) (by omega) u5 x5_1 (Go.bits .or .u8 ((x1_1) % 256) 128) [.int .u8 (Go.bits .or .u8 ((x1_1) % 256) 128)] (fun _ => True) (fun _ => False) rfl rfl ?aP (fun _ hk => hk.elim) ?aF ?aO ?aB ?aS ?aL ?_; (case aP => exact rfl); (case aB => exact (by repeat (first | (with_reducible first | exact HB.out | apply Ah | apply Ae | apply below_drew1) | exact HB.out))); (case aF => exact (fun _ _ => trivial)); (case aO => exact (by (with_reducible repeat (first | apply Kd.R_alloc | apply Kd.R_drewN | apply Kd.R_drew)); exact HO_5.out)); (case aS => exact (Ba (by repeat (first | (with_reducible first | exact HB.out | apply Ah | apply Ae | apply below_drew1) | exact HB.out)))); (case aL => have := LMc8.out; omega); intro v108 w9 ho hb hg hat; rw [← Ny107.out] at ho; have n0_ := Aa.mk (hb); have n1_ := Aa.mk (ho); clear HB; clear HO_5; have HB := n0_; have HO109 := n1_; clear n0_ n1_; clear ho hb hg hat))
           go_roundg k1
           case measure => have := HK1.out; omega
           case rel => exact ⟨(x1_1 / 128), (y107), (by first | rfl | (simp; done) | (simp [*]; done)), H', ⟨by have := HK1.out; omega⟩, ⟨by (with_reducible repeat (first | apply Kd.R_alloc | apply Kd.R_drewN | apply Kd.R_drew)); exact HO109.out⟩, ⟨by repeat (first | (with_reducible first | exact HB.out | apply Ah | apply Ae | apply below_drew1) | exact HB.out)⟩⟩
         · rw [if_neg c8] at H
           exact absurd H (by simp)
       · rw [if_neg c7] at H
         have c7b0 : decide (127 < x1_1) = false := decide_eq_false c7
         clear c7
         by_cases c10 : x5_1.length < 140737488355328
         · rw [if_pos c10] at H
           have LMc10 := Aa.mk c10
           clear c10
           obtain ⟨y110, hy110⟩ : ∃ y_ : List Int, y_ = (x5_1 ++ [(x1_1) % 256]) := ⟨_, rfl⟩
           replace H : (some y110) = some r := by first | (rw [hy110]; with_reducible exact H) | (have H2_ := (Option.bind_some _ _).symm.trans H; rw [hy110]; with_reducible exact H2_) | (have H2_ := (Option.bind_some _ _).symm.trans H; with_reducible exact H2_) | with_reducible exact H | (rw [hy110]; exact H) | exact H
           have Ny110 := Aa.mk hy110
           clear hy110
           obtain rfl := Option.some.inj H
           go_wp2_with (first | ((with_reducible refine E5 (b := .append) (xs := #[.tmp 19, .tmp 22]) rfl ?_); at_builtin; refine Kd.RI (Kd.int .u8) (w0 := w) w.heap.size rfl (.tmp 19) (.tmp 22) 39 5 (.int .u8 0) 1 rfl Tryz.underlying39 info5 rfl (by decide) (by omega) u5 x5_1 ((x1_1) % 256) [.int .u8 ((x1_1) % 256)] (fun _ => True) (fun _ => False) rfl rfl ?aP (fun _ hk => hk.elim) ?aF ?aO ?aB ?aS ?aL ?_; (case aP => exact rfl); (case aB => exact (by repeat (first | (with_reducible first | exact HB.out | apply Ah | apply Ae | apply below_drew1) | exact HB.out))); (case aF => exact (fun _ _ => trivial)); (case aO => exact (by (with_reducible repeat (first | apply Kd.R_alloc | apply Kd.R_drewN | apply Kd.R_drew)); exact HO_5.out)); (case aS => exact (Ba (by repeat (first | (with_reducible first | exact HB.out | apply Ah | apply Ae | apply below_drew1) | exact HB.out)))); (case aL => have := LMc10.out; omega); intro v111 w11 ho hb hg hat; rw [← Ny110.out] at ho; have n0_ := Aa.mk (hb); have n1_ := Aa.mk (ho); clear HB; clear HO_5; have HB := n0_; have HO112 := n1_; clear n0_ n1_; clear ho hb hg hat))
           go_ret
           exact ⟨_, by first | rfl | (simp [errW_none, errW_some] <;> rfl) | (simp [*, errW_none, errW_some] <;> rfl), by (with_reducible repeat (first | apply Kd.R_alloc | apply Kd.R_drewN | apply Kd.R_drew)); exact HO112.out, by repeat (first | (with_reducible first | exact HB.out | apply Ah | apply Ae | apply below_drew1) | exact HB.out)⟩
         · rw [if_neg c10] at H
           exact absurd H (by simp)
 · rw [if_neg c3] at H
   exact absurd H (by simp)
end Go.Proofs.YtchfmgbjddopoaaGreatDoor.PPut
namespace Go.Proofs.YtchfmgbjddopoaaGreatDoor.PGet
open Go.RowKit Go.Proofs.YtchfmgbjddopoaaGreatDoorW.PrintWords Go.Proofs.YtchfmgbjddopoaaGreatDoorW.PrintLast Go.Proofs.YtchfmgbjddopoaaGreatDoorW.PrintMore
attribute [local go_sem] max2_int min2_int max_two min_two max_three min_three max_four min_four
def errW : Option Int → Value
 | none => .nilIface
 | some c => .iface 0 (.int .i64 c)
theorem errW_none : errW none = .nilIface := rfl
theorem errW_some (c : Int) : errW (some c) = .iface 0 (.int .i64 c) := rfl
mutual
def BC.l0 : Nat → Int → List Int → Int → Int → Option (Int × Int × Int)
 | 0, _, _, _, _ => none
 | k + 1, x2, x7, x8, x9 => if x9 < x8 then (if 0 ≤ x9 then (if x9 < (x7.length : Int) then (if x9 = 10 then (BC.j1 k x2 x9 (rd x7 x9) x7 x8 x9 true) else (if x9 = 9 then (BC.j1 k x2 x9 (rd x7 x9) x7 x8 x9 (decide ((rd x7 x9) > 1))) else (BC.j1 k x2 x9 (rd x7 x9) x7 x8 x9 false))) else (none)) else (none)) else (some (0, 0, 3))
def BC.j1 : Nat → Int → Int → Int → List Int → Int → Int → Bool → Option (Int × Int × Int)
 | 0, _, _, _, _, _, _, _ => none
 | k + 1, x2, x5, x6, x7, x8, x9, x23 => if x23 = true then (some (0, 0, 3)) else (if 0 ≤ (wrap64 (7 * x5)) then (if x6 < 128 then (if x6 = 0 then (if x5 > 0 then (some (0, 0, 3)) else (some (Go.bits .or .u64 x2 (shl .u64 (IntKind.u64.wrap (Go.bits .and .u8 x6 127)) (wrap64 (7 * x5))), wrap64 (x5 + 1), 0))) else (some (Go.bits .or .u64 x2 (shl .u64 (IntKind.u64.wrap (Go.bits .and .u8 x6 127)) (wrap64 (7 * x5))), wrap64 (x5 + 1), 0))) else (BC.l0 k (Go.bits .or .u64 x2 (shl .u64 (IntKind.u64.wrap (Go.bits .and .u8 x6 127)) (wrap64 (7 * x5)))) x7 x8 (wrap64 (x9 + 1)))) else (none))
end
def BC.f (k : Nat) (l0 : List Int) : Option (Int × Int × Int) := BC.l0 k 0 l0 (l0.length : Int) 0
theorem BC.calls (k : Nat) (A0 : Option Addr) (c0 : Nat) (l0 : List Int) (r1 : Int) (r2 : Int) (r3 : Int) (w : World) (hr0 : Kd.C (Kd.int .u8) w A0 l0.length l0) (hc0 : l0.length ≤ c0) (h : BC.f k l0 = some (r1, r2, r3)) :
   Calls Tryz.prog 77 #[.slice A0 l0.length c0] w fun e w' => e = .returned (.tuple #[.int .u64 r1, .int .i64 r2, .int .i64 r3]) ∧ Az w w' := by
 have HR0 := Aa.mk hr0
 have HC0 := Aa.mk hc0
 clear hr0 hc0
 have H : (BC.l0 k 0 l0 (l0.length : Int) 0) = some (r1, r2, r3) := h
 clear h
 have H' := Aa.mk H
 clear H
 go_enter Tryz.func77, Tryz.ntmps77
 go_wp2
 go_loopg [2, 9] k (fun kq v2 v9 w' => ∃ (x2_1 : Int) (x9_1 : Int), v2 = .int .u64 x2_1 ∧ v9 = .int .i64 x9_1 ∧ Aa (BC.l0 kq x2_1 l0 (l0.length : Int) x9_1 = some (r1, r2, r3)) ∧ Aa (kq ≤ k) ∧ Az w w')
 case atStart => exact ⟨(0), (0), (by first | rfl | (simp; done) | (simp [*]; done)), (by first | rfl | (simp; done) | (simp [*]; done)), H', ⟨Nat.le_refl _⟩, by repeat (first | exact Az.refl _ | apply Az.step)⟩
 case round =>
   clear H'
   obtain ⟨x2_1, x9_1, rfl, rfl, HA, HK1, ⟨m1, rfl⟩⟩ := hrel
   cases gk with
   | zero => exact absurd HA.out (by simp [BC.l0])
   | succ k1 =>
     have H := HA.out
     clear HA
     simp only [BC.l0] at H
     by_cases c2 : x9_1 < (l0.length : Int)
     · rw [if_pos c2] at H
       have c2b0 : decide (x9_1 < (l0.length : Int)) = true := decide_eq_true c2
       clear c2
       by_cases c3 : 0 ≤ x9_1
       · rw [if_pos c3] at H
         have c3b0 : decide (0 ≤ x9_1) = true := decide_eq_true c3
         clear c3
         by_cases c4 : x9_1 < (l0.length : Int)
         · rw [if_pos c4] at H
           have c4b0 : decide (x9_1 < (l0.length : Int)) = true := decide_eq_true c4
           clear c4
           have HC5 := Aa.mk H
           clear H
           have p101 : 0 ≤ (x9_1 : Int) := of_decide_eq_true (by first | (with_reducible assumption) | assumption)
           have q101 : x9_1 < (l0.length : Int) := of_decide_eq_true (by first | (with_reducible assumption) | assumption)
           obtain ⟨ad101, e101, hx101_0⟩ := Kd.Ep HR0.out x9_1 p101 q101
           cases e101
           replace p101 := eq_true p101
           replace q101 := eq_true q101
           go_upto_region 4 with (fail)
           go_cut [23] (fun v23 wc => ∃ (kq : Nat) (x23_4 : Bool), v23 = .bool x23_4 ∧ Aa (BC.j1 kq x2_1 x9_1 (rd l0 x9_1) l0 (l0.length : Int) x9_1 x23_4 = some (r1, r2, r3)) ∧ Aa (kq ≤ k1) ∧ Az w wc)
           case first =>
             have H := HC5.out
             clear HC5
             by_cases c6 : x9_1 = 10
             · rw [if_pos c6] at H
               have c6b0 : (x9_1 == 10) = true := beq_iff_eq.mpr c6
               have c6b1 : (x9_1 != 10) = false := bne_eq_false_iff_eq.mpr c6
               clear c6
               (first | rw [c6b0] | (simp only [Ph, i32_w]; rw [c6b0]) | skip)
               have H' := Aa.mk H
               clear H
               go_wp2
               go_meet
               case rel => exact ⟨_, (true), (by first | rfl | (simp; done) | (simp [*]; done)), H', ⟨by have := HK1.out; first | omega | exact Nat.le_refl _⟩, by repeat (first | exact Az.refl _ | apply Az.step)⟩
             · rw [if_neg c6] at H
               have c6b0 : (x9_1 == 10) = false := beq_eq_false_iff_ne.mpr c6
               have c6b1 : (x9_1 != 10) = true := bne_iff_ne.mpr c6
               (first | rw [c6b0] | (simp only [Ph, i32_w]; rw [c6b0]) | skip)
               by_cases c7 : x9_1 = 9
               · rw [if_pos c7] at H
                 have c7b0 : (x9_1 == 9) = true := beq_iff_eq.mpr c7
                 have c7b1 : (x9_1 != 9) = false := bne_eq_false_iff_eq.mpr c7
                 clear c7
                 have H' := Aa.mk H
                 clear H
                 go_wp2
                 go_meet
                 case rel => exact ⟨_, (decide ((rd l0 x9_1) > 1)), (by first | rfl | (simp; done) | (simp [*]; done)), H', ⟨by have := HK1.out; first | omega | exact Nat.le_refl _⟩, by repeat (first | exact Az.refl _ | apply Az.step)⟩
               · rw [if_neg c7] at H
                 have c7b0 : (x9_1 == 9) = false := beq_eq_false_iff_ne.mpr c7
                 have c7b1 : (x9_1 != 9) = true := bne_iff_ne.mpr c7
                 have H' := Aa.mk H
                 clear H
                 go_wp2
                 go_meet
                 case rel => exact ⟨_, (false), (by first | rfl | (simp; done) | (simp [*]; done)), H', ⟨by have := HK1.out; first | omega | exact Nat.le_refl _⟩, by repeat (first | exact Az.refl _ | apply Az.step)⟩
           case rest =>
             clear HC5
             try clear p1
             try clear q1
             try clear hx1
             try clear c2
             try clear c2b0
             try clear p2
             try clear c3
             try clear c3b0
             try clear c4
             try clear c4b0
             try clear c6
             try clear c6b0
             try clear c6b1
             try clear c7
             try clear c7b0
             try clear c7b1
             try clear hx101_0
             try clear p101
             try clear q101
             obtain ⟨kq, x23_4, rfl, HA, HJ4, ⟨mc4, rfl⟩⟩ := hcut
             cases kq with
             | zero => exact absurd HA.out (by simp [BC.j1])
             | succ kj4 =>
               have H := HA.out
               clear HA
               simp only [BC.j1] at H
               by_cases c8 : x23_4 = true
               · subst c8
                 have H1 : (some (0, 0, 3)) = some (r1, r2, r3) := by rw [if_pos rfl] at H; exact H
                 clear H
                 have H := H1
                 clear H1
                 simp only [Option.some.injEq, Prod.mk.injEq] at H
                 obtain ⟨rfl, rfl, rfl⟩ := H
                 go_wp2
                 go_ret3
                 exact ⟨by first | rfl | (simp; done) | (simp [*]; done), by repeat (first | exact Az.refl _ | apply Az.step)⟩
               · replace c8 := Bool.eq_false_iff.mpr c8
                 subst c8
                 have H1 : (if 0 ≤ (wrap64 (7 * x9_1)) then (if (rd l0 x9_1) < 128 then (if (rd l0 x9_1) = 0 then (if x9_1 > 0 then (some (0, 0, 3)) else (some (Go.bits .or .u64 x2_1 (shl .u64 (IntKind.u64.wrap (Go.bits .and .u8 (rd l0 x9_1) 127)) (wrap64 (7 * x9_1))), wrap64 (x9_1 + 1), 0))) else (some (Go.bits .or .u64 x2_1 (shl .u64 (IntKind.u64.wrap (Go.bits .and .u8 (rd l0 x9_1) 127)) (wrap64 (7 * x9_1))), wrap64 (x9_1 + 1), 0))) else (BC.l0 kj4 (Go.bits .or .u64 x2_1 (shl .u64 (IntKind.u64.wrap (Go.bits .and .u8 (rd l0 x9_1) 127)) (wrap64 (7 * x9_1)))) l0 (l0.length : Int) (wrap64 (x9_1 + 1)))) else (none)) = some (r1, r2, r3) := by rw [if_neg (show ¬ (false = true) by decide)] at H; exact H
                 clear H
                 have H := H1
                 clear H1
                 obtain ⟨ji9, hji9⟩ : ∃ j_ : Int, (wrap64 (7 * x9_1)) = j_ := ⟨_, rfl⟩
                 replace H : (if 0 ≤ (ji9) then (if (rd l0 x9_1) < 128 then (if (rd l0 x9_1) = 0 then (if x9_1 > 0 then (some (0, 0, 3)) else (some (Go.bits .or .u64 x2_1 (shl .u64 (IntKind.u64.wrap (Go.bits .and .u8 (rd l0 x9_1) 127)) (ji9)), wrap64 (x9_1 + 1), 0))) else (some (Go.bits .or .u64 x2_1 (shl .u64 (IntKind.u64.wrap (Go.bits .and .u8 (rd l0 x9_1) 127)) (ji9)), wrap64 (x9_1 + 1), 0))) else (BC.l0 kj4 (Go.bits .or .u64 x2_1 (shl .u64 (IntKind.u64.wrap (Go.bits .and .u8 (rd l0 x9_1) 127)) (ji9))) l0 (l0.length : Int) (wrap64 (x9_1 + 1)))) else (none)) = some (r1, r2, r3) := by first | (rw [hji9] at H; exact H) | (simp only [hji9] at H ⊢; exact H)
                 have hji9w : (IntKind.i64.wrap (7 * x9_1)) = ji9 := (Ph _).trans hji9
                 by_cases c10 : 0 ≤ (ji9)
                 · rw [if_pos c10] at H
                   have c10b0 := eq_true c10
                   have c10b1 : decide (0 ≤ (ji9)) = true := decide_eq_true c10
                   clear c10
                   obtain ⟨ji11, hji11⟩ : ∃ j_ : Int, (shl .u64 (IntKind.u64.wrap (Go.bits .and .u8 (rd l0 x9_1) 127)) (ji9)) = j_ := ⟨_, rfl⟩
                   replace H : (if (rd l0 x9_1) < 128 then (if (rd l0 x9_1) = 0 then (if x9_1 > 0 then (some (0, 0, 3)) else (some (Go.bits .or .u64 x2_1 (ji11), wrap64 (x9_1 + 1), 0))) else (some (Go.bits .or .u64 x2_1 (ji11), wrap64 (x9_1 + 1), 0))) else (BC.l0 kj4 (Go.bits .or .u64 x2_1 (ji11)) l0 (l0.length : Int) (wrap64 (x9_1 + 1)))) = some (r1, r2, r3) := by first | (rw [hji11] at H; exact H) | (simp only [hji11] at H ⊢; exact H)
                   have hji11_ : (IntKind.u64.wrap ((IntKind.u64.wrap (Go.bits .and .u8 (rd l0 x9_1) 127)) * 2 ^ min (ji9).toNat 64)) = ji11 := hji11
                   have hji11z : (ji9) ≤ 64 → (IntKind.u64.wrap ((IntKind.u64.wrap (Go.bits .and .u8 (rd l0 x9_1) 127)) * 2 ^ (ji9).toNat)) = ji11 := UR hji11
                   by_cases c12 : (rd l0 x9_1) < 128
                   · rw [if_pos c12] at H
                     have c12b0 : decide ((rd l0 x9_1) < 128) = true := decide_eq_true c12
                     clear c12
                     by_cases c13 : (rd l0 x9_1) = 0
                     · rw [if_pos c13] at H
                       have c13b0 : ((rd l0 x9_1) == 0) = true := beq_iff_eq.mpr c13
                       have c13b1 : ((rd l0 x9_1) != 0) = false := bne_eq_false_iff_eq.mpr c13
                       clear c13
                       by_cases c14 : x9_1 > 0
                       · rw [if_pos c14] at H
                         have c14b0 : decide (0 < x9_1) = true := decide_eq_true c14
                         clear c14
                         simp only [Option.some.injEq, Prod.mk.injEq] at H
                         obtain ⟨rfl, rfl, rfl⟩ := H
                         go_wp2
                         go_ret3
                         exact ⟨by first | rfl | (simp; done) | (simp only [← hji9, ← hji11] <;> (first | rfl | simp)) | (simp [*]; done), by repeat (first | exact Az.refl _ | apply Az.step)⟩
                       · rw [if_neg c14] at H
                         have c14b0 : decide (0 < x9_1) = false := decide_eq_false c14
                         clear c14
                         simp only [Option.some.injEq, Prod.mk.injEq] at H
                         obtain ⟨rfl, rfl, rfl⟩ := H
                         go_wp2
                         go_ret3
                         exact ⟨by first | rfl | (simp; done) | (simp only [← hji9, ← hji11] <;> (first | rfl | simp)) | (simp [*]; done), by repeat (first | exact Az.refl _ | apply Az.step)⟩
                     · rw [if_neg c13] at H
                       have c13b0 : ((rd l0 x9_1) == 0) = false := beq_eq_false_iff_ne.mpr c13
                       have c13b1 : ((rd l0 x9_1) != 0) = true := bne_iff_ne.mpr c13
                       simp only [Option.some.injEq, Prod.mk.injEq] at H
                       obtain ⟨rfl, rfl, rfl⟩ := H
                       go_wp2
                       go_ret3
                       exact ⟨by first | rfl | (simp; done) | (simp only [← hji9, ← hji11] <;> (first | rfl | simp)) | (simp [*]; done), by repeat (first | exact Az.refl _ | apply Az.step)⟩
                   · rw [if_neg c12] at H
                     have c12b0 : decide ((rd l0 x9_1) < 128) = false := decide_eq_false c12
                     clear c12
                     have H' := Aa.mk H
                     clear H
                     go_wp2
                     go_roundg kj4
                     case measure => have := HK1.out; have := HJ4.out; omega
                     case rel => exact ⟨(Go.bits .or .u64 x2_1 (ji11)), (wrap64 (x9_1 + 1)), (by first | rfl | (simp; done) | (simp only [← hji11] <;> (first | rfl | simp)) | (simp [*]; done)), (by first | rfl | (simp; done) | (simp [*]; done)), H', ⟨by have := HK1.out; have := HJ4.out; omega⟩, by repeat (first | exact Az.refl _ | apply Az.step)⟩
                 · rw [if_neg c10] at H
                   exact absurd H (by simp)
         · rw [if_neg c4] at H
           exact absurd H (by simp)
       · rw [if_neg c3] at H
         exact absurd H (by simp)
     · rw [if_neg c2] at H
       have c2b0 : decide (x9_1 < (l0.length : Int)) = false := decide_eq_false c2
       clear c2
       simp only [Option.some.injEq, Prod.mk.injEq] at H
       obtain ⟨rfl, rfl, rfl⟩ := H
       go_wp2
       go_ret3
       exact ⟨by first | rfl | (simp; done) | (simp [*]; done), by repeat (first | exact Az.refl _ | apply Az.step)⟩
end Go.Proofs.YtchfmgbjddopoaaGreatDoor.PGet
namespace Go.Proofs.YtchfmgbjddopoaaGreatDoor.PZig
open Go.RowKit Go.Proofs.YtchfmgbjddopoaaGreatDoorW.PrintWords Go.Proofs.YtchfmgbjddopoaaGreatDoorW.PrintLast Go.Proofs.YtchfmgbjddopoaaGreatDoorW.PrintMore
attribute [local go_sem] max2_int min2_int max_two min_two max_three min_three max_four min_four
def errW : Option Int → Value
 | none => .nilIface
 | some c => .iface 0 (.int .i64 c)
theorem errW_none : errW none = .nilIface := rfl
theorem errW_some (c : Int) : errW (some c) = .iface 0 (.int .i64 c) := rfl
def Gn.f (a0 : Int) : Option (Int) := some (Go.bits .xor .u64 (IntKind.u64.wrap ((IntKind.u64.wrap (a0)) * 2)) (IntKind.u64.wrap (a0 / 9223372036854775808)))
theorem Gn.calls (a0 : Int) (r : Int) (w : World) (h : Gn.f a0 = some r) :
   Calls Tryz.prog 38 #[.int .i64 a0] w fun e w' => e = .returned (.int .u64 r) ∧ Az w w' := by
 have H : (some (Go.bits .xor .u64 (IntKind.u64.wrap ((IntKind.u64.wrap (a0)) * 2)) (IntKind.u64.wrap (a0 / 9223372036854775808)))) = some r := h
 clear h
 obtain rfl := Option.some.inj H
 go_enter Tryz.func38, Tryz.ntmps38
 go_wp2
 go_ret
 exact ⟨by first | rfl | (simp; done) | (simp [*]; done), by repeat (first | exact Az.refl _ | apply Az.step)⟩
end Go.Proofs.YtchfmgbjddopoaaGreatDoor.PZig
namespace Go.Proofs.YtchfmgbjddopoaaGreatDoor.PZag
open Go.RowKit Go.Proofs.YtchfmgbjddopoaaGreatDoorW.PrintWords Go.Proofs.YtchfmgbjddopoaaGreatDoorW.PrintLast Go.Proofs.YtchfmgbjddopoaaGreatDoorW.PrintMore
attribute [local go_sem] max2_int min2_int max_two min_two max_three min_three max_four min_four
def errW : Option Int → Value
 | none => .nilIface
 | some c => .iface 0 (.int .i64 c)
theorem errW_none : errW none = .nilIface := rfl
theorem errW_some (c : Int) : errW (some c) = .iface 0 (.int .i64 c) := rfl
def Gp.f (a0 : Int) : Option (Int) := some (Go.bits .xor .i64 (wrap64 (a0 / 2)) (wrap64 (-(wrap64 (Go.bits .and .u64 a0 1)))))
theorem Gp.calls (a0 : Int) (r : Int) (w : World) (h : Gp.f a0 = some r) :
   Calls Tryz.prog 44 #[.int .u64 a0] w fun e w' => e = .returned (.int .i64 r) ∧ Az w w' := by
 have H : (some (Go.bits .xor .i64 (wrap64 (a0 / 2)) (wrap64 (-(wrap64 (Go.bits .and .u64 a0 1)))))) = some r := h
 clear h
 obtain rfl := Option.some.inj H
 go_enter Tryz.func44, Tryz.ntmps44
 go_wp2
 go_ret
 exact ⟨by first | rfl | (simp; done) | (simp [*]; done), by repeat (first | exact Az.refl _ | apply Az.step)⟩
end Go.Proofs.YtchfmgbjddopoaaGreatDoor.PZag
namespace Go.Proofs.YtchfmgbjddopoaaGreatDoor.PUnpack
open Go.RowKit Go.Proofs.YtchfmgbjddopoaaGreatDoorW.PrintWords Go.Proofs.YtchfmgbjddopoaaGreatDoorW.PrintLast Go.Proofs.YtchfmgbjddopoaaGreatDoorW.PrintMore
attribute [local go_sem] max2_int min2_int max_two min_two max_three min_three max_four min_four
def errW : Option Int → Value
 | none => .nilIface
 | some c => .iface 0 (.int .i64 c)
theorem errW_none : errW none = .nilIface := rfl
theorem errW_some (c : Int) : errW (some c) = .iface 0 (.int .i64 c) := rfl
def Ew.f (a0 : Int) : Option (Int × Int × Int) := if (Go.bits .and .u64 a0 9223372036854775808) = 0 then (some (wrap64 (a0 / 256), (a0) % 256, 0)) else (some (0, 0, 1))
theorem Ew.calls (a0 : Int) (r1 : Int) (r2 : Int) (r3 : Int) (w : World) (h : Ew.f a0 = some (r1, r2, r3)) :
   Calls Tryz.prog 78 #[.int .u64 a0] w fun e w' => e = .returned (.tuple #[.agg #[.int .i64 r1, .int .u8 r2], .int .i64 r3]) ∧ Below w.heap.size w w' := by
 have hu32 := Tryz.underlying32
 have HB := Aa.mk (Below.refl w.heap.size w)
 have H : (if (Go.bits .and .u64 a0 9223372036854775808) = 0 then (some (wrap64 (a0 / 256), (a0) % 256, 0)) else (some (0, 0, 1))) = some (r1, r2, r3) := h
 clear h
 by_cases c2 : (Go.bits .and .u64 a0 9223372036854775808) = 0
 · rw [if_pos c2] at H
   have c2b0 : ((Go.bits .and .u64 a0 9223372036854775808) == 0) = true := beq_iff_eq.mpr c2
   have c2b1 : ((Go.bits .and .u64 a0 9223372036854775808) != 0) = false := bne_eq_false_iff_eq.mpr c2
   clear c2
   simp only [Option.some.injEq, Prod.mk.injEq] at H
   obtain ⟨rfl, rfl, rfl⟩ := H
   go_enter Tryz.func78, Tryz.ntmps78
   go_wp2_with (first | ((with_reducible refine Ac (N := 2) rfl ?_); refine Dl ?hg (N := 2) ?hd (cs := #[.int .i64 0, .int .u8 0]) (t := 32) ?hr ?_; (case hd => rfl); (case hg => rfl); (case hr => first | (go_simp; done) | (go_simp; rfl)); intro gb101 hg w3 hbox hb; have n0_ := Aa.mk (CS (by repeat (first | (with_reducible first | exact HB.out | apply Ah | apply Ae | apply below_drew1) | exact HB.out)) hb); have n1_ := Aa.mk (hbox); have n2_ := Aa.mk ((by rw [hg]; exact (Ba (by repeat (first | (with_reducible first | exact HB.out | apply Ah | apply Ae | apply below_drew1) | exact HB.out))) : w.heap.size ≤ gb101)); have n3_ := Aa.mk ((by rw [hg]; exact (Ba (by repeat (first | (with_reducible first | exact HB.out | apply Ah | apply Ae | apply below_drew1) | exact HB.out))) : w.heap.size ≤ gb101)); clear HB; have HB := n0_; have BK101 := n1_; have GW101 := n2_; have GE101 := n3_; clear n0_ n1_ n2_ n3_; clear hb hbox hg; have hcz4_0 : w3.cell? ⟨gb101, 0, none⟩ = some (.int .i64 0) := (BP BK101.out 0).trans rfl; have hcz4_1 : w3.cell? ⟨gb101, 1, none⟩ = some (.int .u8 0) := (BP BK101.out 1).trans rfl; have hfz4_0 := Bj BK101.out 0; have hfz4_1 := Bj BK101.out 1))
   refine bodyPost_ret (Kr rfl _ _ gb101 32 #[.int .i64 (wrap64 (a0 / 256)), .int .u8 ((a0) % 256)] (0, 0) _ rfl (by (with_reducible repeat (first | refine blk_drewN ?_ _ | refine blk_drew ?_ | refine blk_alloc ?_ _)); refine Lt (cs := #[.int .i64 (wrap64 (a0 / 256)), .int .u8 0]) ?_ 1 _ rfl; (with_reducible repeat (first | refine blk_drewN ?_ _ | refine blk_drew ?_ | refine blk_alloc ?_ _)); refine Lt (cs := #[.int .i64 0, .int .u8 0]) ?_ 0 _ rfl; (with_reducible repeat (first | refine blk_drewN ?_ _ | refine blk_drew ?_ | refine blk_alloc ?_ _)); exact BK101.out) Tryz.underlying32 rfl (by kernel_rfl)) rfl ?_
   exact ⟨by first | rfl | (simp [errW_none, errW_some] <;> rfl) | (simp [*, errW_none, errW_some] <;> rfl), by repeat (first | (with_reducible first | exact HB.out | apply Ah | apply Ae | apply below_drew1 | refine BG ?_ GE101.out) | exact HB.out)⟩
 · rw [if_neg c2] at H
   have c2b0 : ((Go.bits .and .u64 a0 9223372036854775808) == 0) = false := beq_eq_false_iff_ne.mpr c2
   have c2b1 : ((Go.bits .and .u64 a0 9223372036854775808) != 0) = true := bne_iff_ne.mpr c2
   simp only [Option.some.injEq, Prod.mk.injEq] at H
   obtain ⟨rfl, rfl, rfl⟩ := H
   go_enter Tryz.func78, Tryz.ntmps78
   go_wp2_with (first | ((with_reducible refine Ac (N := 2) rfl ?_); refine Dl ?hg (N := 2) ?hd (cs := #[.int .i64 0, .int .u8 0]) (t := 32) ?hr ?_; (case hd => rfl); (case hg => rfl); (case hr => first | (go_simp; done) | (go_simp; rfl)); intro gb101 hg w5 hbox hb; have n0_ := Aa.mk (CS (by repeat (first | (with_reducible first | exact HB.out | apply Ah | apply Ae | apply below_drew1) | exact HB.out)) hb); have n1_ := Aa.mk (hbox); have n2_ := Aa.mk ((by rw [hg]; exact (Ba (by repeat (first | (with_reducible first | exact HB.out | apply Ah | apply Ae | apply below_drew1) | exact HB.out))) : w.heap.size ≤ gb101)); have n3_ := Aa.mk ((by rw [hg]; exact (Ba (by repeat (first | (with_reducible first | exact HB.out | apply Ah | apply Ae | apply below_drew1) | exact HB.out))) : w.heap.size ≤ gb101)); clear HB; have HB := n0_; have BK101 := n1_; have GW101 := n2_; have GE101 := n3_; clear n0_ n1_ n2_ n3_; clear hb hbox hg; have hcz6_0 : w5.cell? ⟨gb101, 0, none⟩ = some (.int .i64 0) := (BP BK101.out 0).trans rfl; have hcz6_1 : w5.cell? ⟨gb101, 1, none⟩ = some (.int .u8 0) := (BP BK101.out 1).trans rfl; have hfz6_0 := Bj BK101.out 0; have hfz6_1 := Bj BK101.out 1))
   refine bodyPost_ret (Kr rfl _ _ gb101 32 #[.int .i64 0, .int .u8 0] (0, 0) _ rfl (by (with_reducible repeat (first | refine blk_drewN ?_ _ | refine blk_drew ?_ | refine blk_alloc ?_ _)); refine Lt (cs := #[.int .i64 0, .int .u8 0]) ?_ 1 _ rfl; (with_reducible repeat (first | refine blk_drewN ?_ _ | refine blk_drew ?_ | refine blk_alloc ?_ _)); refine Lt (cs := #[.int .i64 0, .int .u8 0]) ?_ 0 _ rfl; (with_reducible repeat (first | refine blk_drewN ?_ _ | refine blk_drew ?_ | refine blk_alloc ?_ _)); exact BK101.out) Tryz.underlying32 rfl (by kernel_rfl)) rfl ?_
   exact ⟨by first | rfl | (simp [errW_none, errW_some] <;> rfl) | (simp [*, errW_none, errW_some] <;> rfl), by repeat (first | (with_reducible first | exact HB.out | apply Ah | apply Ae | apply below_drew1 | refine BG ?_ GE101.out) | exact HB.out)⟩
end Go.Proofs.YtchfmgbjddopoaaGreatDoor.PUnpack
