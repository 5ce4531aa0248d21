import Derived.RangeFuncNested
import Derived.RangeFuncBound
import Derived.RangeFuncCalls
import Derived.RangeFuncLeaves
import Derived.RangeFuncBox
import Derived.Shelf.Abstract
import Derived.Shelf.RegionOpen
import Derived.OwnWalkIn
import Derived.TacticsInMore
import Derived.LoopNIn
import Derived.LoopIn
import Derived.Test.YtchfmgbjddopoaaGreatDoorM03
import Derived.Test.YtchfmgbjddopoaaGreatDoorM04
set_option linter.unusedVariables false
set_option linter.unusedSimpArgs false
set_option maxHeartbeats 6400000
set_option maxRecDepth 100000
namespace Go.Proofs.YtchfmgbjddopoaaGreatDoor.Hand
open Go.RowKit Go.Shelf Go.Proofs.YtchfmgbjddopoaaGreatDoorW.PrintWords Go.Proofs.YtchfmgbjddopoaaGreatDoorW.PrintLast Go.Proofs.YtchfmgbjddopoaaGreatDoorW.PrintMore
attribute [local go_sem] Oper.semAt_some
section
variable {F : Fence} (hF : ∀ f, F.fn f) {n : Nat} {P : Program} {ops : Array Oper} {rest : List Oper} {op : Oper} {a : Act} {W w1 : World} {Q : Exit → Act → World → Prop}
include hF in
theorem Gm {v : Value} (hgd : op.guard = none) (hnd : ∀ c, op.op ≠ .defer c) (hrun : (execOp a.eval op).run P W = .ok (.value v) w1) (h : wpListIn F n P ops Q rest (a.put op.dst v) w1) : wpListIn F n P ops Q (op :: rest) a W := by
 refine wpListIn_plain hgd fun K hK => ?_
 unfold Oper.wpIn
 refine ⟨fun f _ => hF f, ?_⟩
 rw [Oper.semAt_plain F _ _ (fun c hc => hnd c hc), hrun]
 exact hK _ _ h
include hF in
theorem Yc (hgd : op.guard = none) (hnd : ∀ c, op.op ≠ .defer c) (hrun : (execOp a.eval op).run P W = .ok .skip w1) (h : wpListIn F n P ops Q rest (a.put op.dst undef) w1) : wpListIn F n P ops Q (op :: rest) a W := by
 refine wpListIn_plain hgd fun K hK => ?_
 unfold Oper.wpIn
 refine ⟨fun f _ => hF f, ?_⟩
 rw [Oper.semAt_plain F _ _ (fun c hc => hnd c hc), hrun]
 exact hK _ _ h
include hF in
theorem Ie {N : Tmp} (_hN : op.dst = some N) (hgd : op.guard = none) (hnd : ∀ c, op.op ≠ .defer c) {C : Array Value} {t : Nat}
   (hrun : (execOp a.eval op).run P W = .ok (.value (.pointer (some ⟨W.heap.size, 0, none⟩))) (W.alloc (.cells C t)))
   (h : ∀ g w1, Aa (W.heap.size ≤ g) → Aa (Bk w1 g C t) → Aa (Below W.heap.size W w1) → wpListIn F n P ops Q rest (a.put op.dst (.pointer (some ⟨g, 0, none⟩))) w1) : wpListIn F n P ops Q (op :: rest) a W :=
 Gm hF hgd hnd hrun (h _ _ ⟨Nat.le_refl _⟩ ⟨Ob.new W _⟩ ⟨Ah (Below.refl _ _) _⟩)
include hF in
theorem He {N : Tmp} (_hN : op.dst = some N) (hgd : op.guard = none) {ty : TypeId} {x : Operand} (ho : op.op = .load ty x) {b o' m : Nat} (hx : a.eval x = .pointer (some ⟨b, o', none⟩))
   {C : Array Value} {t : Nat} (hb : Bk W b C t) {d : TypeDesc} (hu : P.underlying ty = some d) (hd : d.isRow = true) (hi : (P.info? ty).map (·.size) = some m)
   (cs : List Value) (hcs : (C.extract o' (o' + m)).toList = cs) (hl : cs.length = m) (h : wpListIn F n P ops Q rest (a.put op.dst (.agg cs.toArray)) W) : wpListIn F n P ops Q (op :: rest) a W := by
 refine Gm hF hgd (fun c hc => by rw [ho] at hc; cases hc) ?_ h
 unfold execOp
 simp only [ho, hx, Instr.loadAt, Instr.sureAddr, Sem.run_bind, Sem.run_pure, Result.andThen_ok, run_loadVar_mid W b o' ty cs d (Bk.range hb o' m hcs) hu hd (by rw [hl]; exact hi)]
include hF in
theorem Fq (hgd : op.guard = none) {ty : TypeId} {x y : Operand} (ho : op.op = .store ty x y) {b o' : Nat} {cells : Array Value} (hx : a.eval x = .pointer (some ⟨b, o', none⟩)) (hy : a.eval y = .agg cells)
   {C : Array Value} {t : Nat} (hb : Bk W b C t) (hi : (P.info? ty).map (·.size) = some cells.size) (h1 : cells.all (·.oneCell') = true) (hs : o' + cells.size ≤ C.size)
   (D : Array Value) (hD : over C o' cells.toList = D) (h : ∀ w1, Aa (Bk w1 b D t) → Aa (Fr (fun k => k = b) W w1) → wpListIn F n P ops Q rest (a.put op.dst undef) w1) : wpListIn F n P ops Q (op :: rest) a W := by
 refine Yc hF hgd (fun c hc => by rw [ho] at hc; cases hc) ?_ (h _ ⟨hD ▸ Bk.sets _ _ hb⟩ ⟨Fr.sets _ _ (Fr.refl _ _) (.inl rfl)⟩)
 unfold execOp
 simp only [ho, hx, hy, Instr.storeAt, Instr.sureAddr, Sem.run_bind, Sem.run_pure, Result.andThen_ok, run_storeVar_mid W b o' ty cells (Bk.there hb hs) hi h1]
theorem BB {F : Fence} {N : Tmp} (_hN : op.dst = some N) (h : wpListIn F n P ops Q (op :: rest) a W) : wpListIn F n P ops Q (op :: rest) a W := h
theorem Du {F : Fence} {t : TypeId} {p : Tmp} {v : Operand} (_ho : op.op = .store t (.tmp p) v) (h : wpListIn F n P ops Q (op :: rest) a W) : wpListIn F n P ops Q (op :: rest) a W := h
include hF in
theorem Wj {N : Tmp} (_hN : op.dst = some N) (hgd : op.guard = none) (hnd : ∀ c, op.op ≠ .defer c) {C : Array Value} {t m : Nat}
   (hrun : (execOp a.eval op).run P W = .ok (.value (.slice (some ⟨W.heap.size, 0, none⟩) m m)) (W.alloc (.cells C t)))
   (h : ∀ g w1, Aa (W.heap.size ≤ g) → Aa (Bk w1 g C t) → Aa (Below W.heap.size W w1) → wpListIn F n P ops Q rest (a.put op.dst (.slice (some ⟨g, 0, none⟩) m m)) w1) : wpListIn F n P ops Q (op :: rest) a W :=
 Gm hF hgd hnd hrun (h _ _ ⟨Nat.le_refl _⟩ ⟨Ob.new W _⟩ ⟨Ah (Below.refl _ _) _⟩)
end
theorem RP (n l Bm mw : Nat) (J : World → Prop) (T : Nat → Prop) (W : World) (hB : Bk W Bm #[.map (some mw)] 242) (hm : Mp W mw Dj 1) (hT : ∀ k, T k → k ≠ Bm ∧ k ≠ mw ∧ k < W.heap.size)
   (hY : ∀ W2, Below W.heap.size W W2 → YieldAt Fence.wide n Tryz.prog l #[.agg WA] W2 fun e W' => e = .returned (.bool true) ∧ J W' ∧ Fr T W2 W') :
   CallsIn Fence.wide (n + 1) Tryz.prog 293 #[.func (.yield l) #[] #[], .pointer (some ⟨Bm, 0, none⟩)] W fun e W' => (∃ v, e = .returned v) ∧ J W' := by
 have hBm := hB.cell (j := 0) (v := .map (some mw)) rfl
 have hrg := Gw hm
 have hr1 : Aa (Ob (W.alloc (.mapIter (some mw) 1 #[] 1)) W.heap.size (.mapIter (some mw) 1 #[] 1)) := ⟨Ob.new W _⟩
 replace hB := Aa.mk hB
 replace hm := Aa.mk hm
 replace hT := Aa.mk hT
 replace hY := Aa.mk hY
 refine callsIn_of_wp Tryz.func293 rfl trivial ?_ rfl
 simp only [Tryz.ntmps293, List.size_toArray, List.length_cons, List.length_nil, Nat.reduceAdd, Nat.reduceSub, Array.replicate_succ, Array.replicate_zero, List.push_toArray, List.append_toArray, List.nil_append, List.cons_append]
 gi_wp2
 have hm1 := Aa.mk (hm.out.alloc (.mapIter (some mw) 1 #[] 1))
 have f1 : Aa (Below W.heap.size W (W.alloc (.mapIter (some mw) 1 #[] 1))) := ⟨Ah (Below.refl _ _) _⟩
 clear hrg hBm
 generalize W.alloc (.mapIter (some mw) 1 #[] 1) = W1 at *
 have hnx := fun ty => Ij ty hm1.out hr1.out
 have hr2 := Aa.mk (Ob.put hr1.out (.mapIter (some mw) 1 #[0] 1))
 have hne : Aa (mw ≠ W.heap.size) := ⟨Nat.ne_of_lt hm.out.lt⟩
 have hm2 := Aa.mk (Ob.Bi hm1.out hne.out (.mapIter (some mw) 1 #[0] 1))
 have f2 := Aa.mk (Fr.put (T1 := fun k => k = W.heap.size) (Fr.refl _ W1) W.heap.size (.mapIter (some mw) 1 #[0] 1) (.inl rfl))
 refine wpIn_loop_rounds 3 ?_
 rw [roundsIn_succ]
 generalize Cc W1 W.heap.size (.mapIter (some mw) 1 #[0] 1) = W2 at *
 have hen := Gz hm2.out hr2.out
 gi_wp2_with (first
   | ((with_reducible refine BB (N := 4) rfl ?_); refine Ie (fun _ => trivial) (N := 4) (C := Z18) rfl rfl (fun c hc => by cases hc) (by first | (go_simp; done) | (go_simp; rfl)) ?_; intro g4 w3 h4 b4 f3; clear hnx hen)
   | ((with_reducible refine Du (t := 105) (p := 4) (v := .tmp 10) rfl ?_); refine Fq (fun _ => trivial) rfl (ty := 105) (x := .tmp 4) (y := .tmp 10) rfl rfl rfl b4.out Bl IV (by decide) WA Fp ?_; intro w4 b44 f4)
   | ((with_reducible refine BB (N := 12) rfl ?_); refine He (fun _ => trivial) (N := 12) rfl rfl rfl rfl b44.out Tryz.underlying105 rfl Bl WA.toList Ny rfl ?_; have F4 : Aa (Fr (fun k => k = W.heap.size ∨ k = g4) W w4) := ⟨(Fr.of_below f1.out).trans <| (f2.out.weaken (fun _ _ h => Or.inl h)).trans <| (Fr.of_below f3.out).trans <| f4.out.weaken (fun _ _ h => Or.inr h)⟩; have q4 : Aa (W.heap.size < g4) := ⟨by have := hr2.out.lt; have := h4.out; omega⟩; obtain ⟨fn, tmps, asg, body, hy, hR⟩ := hY.out w4 (F4.out.below (by have := q4.out; omega) (Nat.le_refl _)); replace hR := Aa.mk hR)
   | gi_in)
 refine hR.out.mono ?_
 rintro e w5 ⟨rfl, hJ5, f5⟩
 replace f5 := Aa.mk f5
 replace hJ5 := Aa.mk hJ5
 clear hy
 have e4 : Aa (W.heap.size ≠ g4 ∧ mw ≠ g4) := ⟨by have := q4.out; have := hm.out.lt; omega⟩
 have hm5 := Aa.mk (Ob.fr ((hm2.out.Ad f3.out).fr f4.out e4.out.2) f5.out (fun h => (hT.out _ h).2.1 rfl))
 have hr5 := Aa.mk (Ob.fr ((hr2.out.Ad f3.out).fr f4.out e4.out.1) f5.out (fun h => Nat.lt_irrefl _ (hT.out _ h).2.2))
 gi_wp2
 rw [roundsIn_succ]
 have hov := fun ty => Gx ty hm5.out hr5.out
 gi_wp2
 go_end0
 exact ⟨⟨_, rfl⟩, hJ5.out⟩
theorem JA {n : Nat} {P : Program} {g : Operand} {ps : Array Tmp} {assign body : Code} {Q : Exit → Act → World → Prop} {a : Act} {w : World} {f : FuncId} {lb : Array Value} (hg : a.eval g = .func (.func f) #[] lb)
   (eg : ∀ (args : Array Value) (w : World), (callFunc f args).run P w = .ok (.enter f args) w)
   (h : ∀ fn W1 r0, Ob W1 (w.heap.size + 1) (.loop r0) → r0.state = .ready → r0.pending = none → r0.fn = fn → r0.tmps = a.tmps → r0.params = ps → r0.assign = assign → r0.body = body → Ob W1 w.heap.size (.deferred (some [])) → Below w.heap.size w W1 →
     CallsIn Fence.wide (n - 1) P f (#[.func (.yield (w.heap.size + 1)) #[] #[]] ++ lb) W1 (rangePost Fence.wide n P (w.heap.size + 1) Q { a with defers := [{ target := .collected w.heap.size, args := #[] }] ++ a.defers })) :
   (Code.rangeFunc g ps assign body).wpIn Fence.wide n P Q a w := by
 refine wpIn_rangeFunc ?_
 intro fn hfn
 refine ⟨w.heap.size + 1, _, ((w.alloc (.deferred (some []))).alloc (.loop { state := .ready, pending := none, fn := fn, tmps := a.tmps, params := ps, assign := assign, body := body, defers := w.heap.size })), { target := .fn (.func f) lb, args := #[.func (.yield (w.heap.size + 1)) #[] #[]] }, ((w.alloc (.deferred (some []))).alloc (.loop { state := .ready, pending := none, fn := fn, tmps := a.tmps, params := ps, assign := assign, body := body, defers := w.heap.size })), f, #[.func (.yield (w.heap.size + 1)) #[] #[]] ++ lb, ((w.alloc (.deferred (some []))).alloc (.loop { state := .ready, pending := none, fn := fn, tmps := a.tmps, params := ps, assign := assign, body := body, defers := w.heap.size })), run_enterLoop_outer _ _ _ _ _, ?_, fun _ _ => trivial, ?_, (fun h => by cases h), ?_⟩
 · simp only [resolve, rangeCall, hg]
   simp [Deferred.ofValue, Act.eval, Sem.run_pure]
 · simp [invoke, go_sem, eg]
 · refine h fn _ { state := .ready, pending := none, fn := fn, tmps := a.tmps, params := ps, assign := assign, body := body, defers := w.heap.size } ?_ rfl rfl rfl rfl rfl rfl rfl ?_ ?_
   · have := Ob.new (w.alloc (.deferred (some []))) (.loop { state := .ready, pending := none, fn := fn, tmps := a.tmps, params := ps, assign := assign, body := body, defers := w.heap.size })
     rwa [show (w.alloc (.deferred (some []))).heap.size = w.heap.size + 1 by simp] at this
   · exact (Ob.new w _).alloc _
   · exact Ah (Ah (Below.refl _ _) _) _
def SeqJ (w : World) (D Bs l : Nat) (W' : World) : Prop :=
 ∃ g c C r1, Bk W' Bs #[.slice (some ⟨g, 0, none⟩) 1 c] 33 ∧ w.heap.size ≤ g ∧ Bk W' g C 105 ∧ (C.extract 0 (0 + 18)).toList = WA.toList ∧ Ob W' l (.loop r1) ∧ r1.state = .ready ∧ r1.pending = none ∧ Ob W' D (.deferred (some [])) ∧ Below w.heap.size w W'
theorem Zo : (Tryz.prog.info? 105).map (fun i => (i.zero, i.size, i.bytes)) = some (some (.agg Z18), 18, 40) := by kernel_rfl
theorem Wv (args : Array Value) (w : World) : (callFunc 293 args).run Tryz.prog w = .ok (.enter 293 args) w := by kernel_rfl
theorem YV : WA.toList.length = 1 * 18 := by kernel_rfl
theorem VB : ∀ v ∈ WA.toList, v.oneCell' = true := fun v hv => (Array.all_eq_true_iff_forall_mem.1 IV) v (by simpa using hv)
theorem TS (w : World) (Bm mw : Nat) (hB : Bk w Bm #[.map (some mw)] 242) (hm : Mp w mw Dj 1) :
   Calls Tryz.prog 302 #[.slice none 0 0, .func (.func 293) #[] #[.pointer (some ⟨Bm, 0, none⟩)]] w fun e w' => ∃ g c C, e = .returned (.slice (some ⟨g, 0, none⟩) 1 c) ∧ w.heap.size ≤ g ∧ Bk w' g C 105 ∧ (C.extract 0 (0 + 18)).toList = WA.toList ∧ Below w.heap.size w w' := by
 replace hB := Aa.mk hB
 replace hm := Aa.mk hm
 refine (callsIn_wide (n := 3)).1 ?_
 refine callsIn_of_wp_marks Tryz.func302 rfl trivial ?_ rfl
 simp only [Tryz.ntmps302, List.size_toArray, List.length_cons, List.length_nil, Nat.reduceAdd, Nat.reduceSub, Array.replicate_succ, Array.replicate_zero, List.push_toArray, List.append_toArray, List.nil_append, List.cons_append]
 gi_wp2_with (first
   | ((with_reducible refine BB (N := 2) rfl ?_); refine Ie (fun _ => trivial) (N := 2) (C := #[.slice none 0 0]) rfl rfl (fun c hc => by cases hc) (by first | (go_simp; done) | (go_simp; rfl)) ?_; intro Bs w0 hBs bBs f0)
   | gi_in)
 refine JA (f := 293) (lb := #[.pointer (some ⟨Bm, 0, none⟩)]) rfl Wv ?_
 intro fn W1 r0 hL hst hpd hfn htm hps has hbd hD fb
 have hB1 := Aa.mk ((hB.out.Ad f0.out).Ad fb)
 have hm1 := Aa.mk ((hm.out.Ad f0.out).Ad fb)
 have bBs1 := Aa.mk (bBs.out.Ad fb)
 have f01 := Aa.mk (f0.out.trans (fb.mono f0.out.size))
 have hl1 : Aa (Bs < w0.heap.size) := ⟨bBs.out.lt⟩
 have fs := fb.size
 replace fb := Aa.mk fb
 generalize hl : w0.heap.size + 1 = l at *
 have hlD : Aa (w0.heap.size < l) := ⟨by omega⟩
 replace hL := Aa.mk hL
 replace hD := Aa.mk hD
 replace hst := Aa.mk hst
 replace hpd := Aa.mk hpd
 replace hps := Aa.mk hps
 replace htm := Aa.mk htm
 replace has := Aa.mk has
 replace hbd := Aa.mk hbd
 have hY : Aa (∀ W2, Below W1.heap.size W1 W2 → YieldAt Fence.wide 1 Tryz.prog l #[.agg WA] W2 fun e W' => e = .returned (.bool true) ∧ SeqJ w w0.heap.size Bs l W' ∧ Fr (fun k => k = Bs ∨ k = l) W2 W') := ⟨by
   intro W2 f2
   have hL2 := hL.out.Ad f2
   refine ⟨_, _, _, _, run_yield hL2 (by rw [hps.out]; rfl), roundIn_of_wpIn trivial ?_⟩
   rw [has.out, hbd.out, hps.out, htm.out]
   simp
   have bBs2 := Aa.mk (bBs1.out.Ad f2)
   have hD2 := Aa.mk (hD.out.Ad f2)
   have f02 := Aa.mk (f01.out.trans (f2.mono (by have := f01.out.size; omega)))
   replace hL2 := Aa.mk hL2
   replace f2 := Aa.mk f2
   gi_wp2_with (first
     | ((with_reducible refine BB (N := 5) rfl ?_); refine Ie (fun _ => trivial) (N := 5) (C := Z18) rfl rfl (fun c hc => by cases hc) (by first | (go_simp; done) | (go_simp; rfl)) ?_; intro g5 w3 h5 b5 f3)
     | ((with_reducible refine Du (t := 105) (p := 5) (v := .tmp 7) rfl ?_); refine Fq (fun _ => trivial) rfl (ty := 105) (x := .tmp 5) (y := .tmp 7) rfl rfl rfl b5.out Bl IV (by decide) WA Fp ?_; intro w4 b54 f4)
     | gi_in)
   have n5 : Aa (W2.heap.size ≤ g5) := h5
   have lt2 : Aa (l < W2.heap.size ∧ Bs < W2.heap.size ∧ w0.heap.size < W2.heap.size) := ⟨hL2.out.lt, bBs2.out.lt, hD2.out.lt⟩
   have hL4 := Aa.mk (Ob.fr (hL2.out.Ad f3.out) f4.out (by have := n5.out; have := lt2.out; omega))
   have bBs4 := Aa.mk (Ob.fr (bBs2.out.Ad f3.out) f4.out (by have := n5.out; have := lt2.out; omega))
   have hD4 := Aa.mk (Ob.fr (hD2.out.Ad f3.out) f4.out (by have := n5.out; have := lt2.out; omega))
   refine ⟨_, run_beginRound hL4.out hst.out, ?_⟩
   obtain ⟨i0, hi, hz0, hz1, hz2⟩ := info_parts Zo
   replace hi := Aa.mk hi
   replace hz0 := Aa.mk hz0
   replace hz1 := Aa.mk hz1
   replace hz2 := Aa.mk hz2
   obtain ⟨r1, hr1⟩ : ∃ r1, r1 = { r0 with state := LoopState.busy } := ⟨_, rfl⟩
   have hp1 : Aa (r1.pending = none) := ⟨by rw [hr1]; exact hpd.out⟩
   rw [← hr1]
   replace hr1 := Aa.mk hr1
   have eBl : Aa (Bs ≠ l ∧ w0.heap.size ≠ l ∧ g5 ≠ l ∧ g5 ≠ Bs ∧ g5 ≠ w0.heap.size ∧ Bs ≠ w0.heap.size) := ⟨by have := n5.out; have := lt2.out; have := hlD.out; have := hl1.out; omega⟩
   have hL5 : Aa (Ob (w4.putObj l (.loop r1)) l (.loop r1)) := ⟨Ob.put hL4.out _⟩
   have bBs5 : Aa (Bk (w4.putObj l (.loop r1)) Bs #[.slice none 0 0] 33) := ⟨Ob.Bi bBs4.out eBl.out.1 _⟩
   have hD5 : Aa (Ob (w4.putObj l (.loop r1)) w0.heap.size (.deferred (some []))) := ⟨Ob.Bi hD4.out eBl.out.2.1 _⟩
   have b55 : Aa (Bk (w4.putObj l (.loop r1)) g5 WA 105) := ⟨Ob.Bi b54.out eBl.out.2.2.1 _⟩
   have F5 : Aa (Fr (fun k => k = Bs ∨ k = l) W2 (w4.putObj l (.loop r1))) := ⟨((Fr.of_below f3.out).trans ((f4.out.weaken (fun k hk h => h) : Fr (fun k => k = g5) w3 w4)) |>.weaken (T2 := fun k => k = Bs ∨ k = l) (fun k hk h => by have := n5.out; omega)).put l (.loop r1) (.inl (.inr rfl))⟩
   generalize w4.putObj l (.loop r1) = w5 at *
   have c0 : w5.cell? ⟨Bs, 0, none⟩ = some (.slice none 0 0) := Bk.cell bBs5.out rfl
   gi_wp2_with (first
     | ((with_reducible refine BB (N := 9) rfl ?_); refine He (fun _ => trivial) (N := 9) rfl rfl rfl rfl b55.out Tryz.underlying105 rfl Bl WA.toList Ny rfl ?_)
     | ((with_reducible refine BB (N := 10) rfl ?_); refine Wj (fun _ => trivial) (N := 10) (m := 1) (C := WA) rfl rfl (fun c hc => by cases hc) (by first | (go_simp; done) | (go_simp; rfl)) ?_; intro g10 w6 h10 b10 f6; have bBs6 := Aa.mk (bBs5.out.Ad f6.out); have hL6 := Aa.mk (hL5.out.Ad f6.out); have hD6 := Aa.mk (hD5.out.Ad f6.out); have hnews : Aa (∀ (j : Nat) (u : Value), WA.toList[j]? = some u → w6.cell? ((⟨g10, 0, none⟩ : Addr).add j) = some u) := ⟨fun j u hj => by rw [Addr.add_mid, Nat.zero_add]; exact b10.out.cell (by simpa using hj)⟩)
     | (gi_at_builtin; refine wpListIn_append_own _ rfl _ _ 33 rfl w6.heap.size 105 i0 (.agg Z18) 18 40 Tryz.underlying33 hi.out hz0.out hz1.out hz2.out (by kernel_rfl) (by decide) _ 0 [] rfl (World.ownsRow_nil _ _ _ _) ⟨g10, 0, none⟩ 1 1 WA.toList rfl YV (Aa.out hnews) VB (by simp [maxLen]) (by simp) (Nat.le_refl _) ?_; intro v7 w7 ho hg7 hnil7
        have f7 : Aa (Below w6.heap.size w6 w7) := ⟨(Below.refl w6.heap.size w6).grown hg7 (Nat.le_refl _) (fun k hk => by cases hk)⟩
        obtain ⟨g7, k7, C7, rfl, q1, q2, q3, q4, q5, q6⟩ : ∃ g7 k7 C7, v7 = .slice (some ⟨g7, 0, none⟩) 1 k7 ∧ w6.heap.size ≤ g7 ∧ w7.heap[g7]? = some (.cells C7 105 (0, 0)) ∧ 1 ≤ k7 ∧ k7 ≤ maxLen ∧ C7.size = k7 * 18 ∧ C7.toList.take (1 * 18) = WA.toList := by
          rcases ho.2 with ⟨_, h0⟩ | h'
          · exact absurd h0 (by omega)
          · simpa using h'
        have b7 : Aa (Bk w7 g7 C7 105) := ⟨q2⟩
        have e7 : Aa (w6.heap.size ≤ g7 ∧ C7.toList.take 18 = WA.toList) := ⟨q1, q6⟩
        have bBs7 := Aa.mk (bBs6.out.Ad f7.out)
        have hL7 := Aa.mk (hL6.out.Ad f7.out)
        have hD7 := Aa.mk (hD6.out.Ad f7.out)
        have c7 : w7.cell? ⟨Bs, 0, none⟩ = some (.slice none 0 0) := Bk.cell bBs7.out rfl
        have z7 := Bk.free bBs7.out 0
        clear ho hg7 hnil7 q1 q2 q3 q4 q5 q6)
     | gi_in)
   have e8 : Aa (l ≠ Bs ∧ w0.heap.size ≠ Bs ∧ g7 ≠ Bs ∧ g7 ≠ l ∧ w.heap.size ≤ g7) := ⟨by have := eBl.out; have := e7.out.1; have := hL6.out.lt; have := bBs6.out.lt; have := hBs.out; omega⟩
   have F7 : Aa (Fr (fun k => k = Bs ∨ k = l) W2 w7) := ⟨(F5.out.trans (Fr.of_below f6.out)).trans (Fr.of_below f7.out)⟩
   have bBs8 := Aa.mk (Bk.set bBs7.out 0 (.slice (some ⟨g7, 0, none⟩) 1 k7))
   have hL8 := Aa.mk (Ob.far hL7.out e8.out.1 0 (.slice (some ⟨g7, 0, none⟩) 1 k7))
   have hD8 := Aa.mk (Ob.far hD7.out e8.out.2.1 0 (.slice (some ⟨g7, 0, none⟩) 1 k7))
   have b78 := Aa.mk (Ob.far b7.out e8.out.2.2.1 0 (.slice (some ⟨g7, 0, none⟩) 1 k7))
   have F8 := Aa.mk (F7.out.set Bs 0 (.slice (some ⟨g7, 0, none⟩) 1 k7) (.inl (.inl rfl)))
   generalize w7.setCell ⟨Bs, 0, none⟩ (.slice (some ⟨g7, 0, none⟩) 1 k7) = w8 at *
   have F9 : Aa (Fr (fun k => k = Bs ∨ k = l) W2 (w8.putObj l (.loop { r1 with state := if (none : Option Code).isNone then .ready else .done, pending := none }))) := ⟨F8.out.put l _ (.inl (.inr rfl))⟩
   have hBw : Aa (w.heap.size ≤ Bs ∧ w.heap.size ≤ l) := ⟨by have := hBs.out; have := hl1.out; have := hlD.out; omega⟩
   refine ⟨_, _, run_endRound none hL8.out, rfl, ⟨g7, k7, C7, _, Ob.Bi bBs8.out eBl.out.1 _, e8.out.2.2.2.2, Ob.Bi b78.out e8.out.2.2.2.1 _, ?_, Ob.put hL8.out _, rfl, rfl, Ob.Bi hD8.out eBl.out.2.1 _, f02.out.trans (F9.out.below (by have := hBw.out; omega) f02.out.size)⟩, F9.out⟩
   have := e7.out.2
   simpa using this⟩
 refine (RP 1 l Bm mw (SeqJ w w0.heap.size Bs l) (fun k => k = Bs ∨ k = l) W1 hB1.out hm1.out ?_ hY.out).mono ?_
 · have h1 := hB.out.lt
   have h2 := hm.out.lt
   have h3 := hBs.out
   have h4 := hL.out.lt
   have h5 := hl1.out
   have h6 := hlD.out
   intro k hk
   omega
 · rintro e W' ⟨⟨v, rfl⟩, g, c, C, r1, bBs', hg, bC, hC, hL', hst', hpd', hD', hbel⟩
   obtain ⟨st1, pd1, fn1, tm1, pr1, as1, bd1, df1⟩ := r1
   simp only at hst' hpd'
   subst hst' hpd'
   refine ⟨_, _, run_endLoop hL' (by simp), ?_⟩
   have eBl : Bs ≠ l ∧ w0.heap.size ≠ l ∧ g ≠ l := ⟨by have := hlD.out; have := hl1.out; omega, by have := hlD.out; omega, fun e => by
     rw [e] at bC
     have := Option.some.inj (bC.symm.trans hL')
     cases this⟩
   have hwl : w.heap.size ≤ l := by have := hBs.out; have := hl1.out; have := hlD.out; omega
   have hwD : w.heap.size ≤ w0.heap.size := f0.out.size
   have gD : g ≠ w0.heap.size := fun e => by
     rw [e] at bC
     have := Option.some.inj (bC.symm.trans hD')
     cases this
   have b9 := Aa.mk (Ob.Bi bBs' eBl.1 (.loop { state := .exhausted, pending := none, fn := fn1, tmps := tm1, params := pr1, assign := as1, body := bd1, defers := df1 }))
   have d9 := Aa.mk (Ob.Bi hD' eBl.2.1 (.loop { state := .exhausted, pending := none, fn := fn1, tmps := tm1, params := pr1, assign := as1, body := bd1, defers := df1 }))
   have c9 := Aa.mk (Ob.Bi bC eBl.2.2 (.loop { state := .exhausted, pending := none, fn := fn1, tmps := tm1, params := pr1, assign := as1, body := bd1, defers := df1 }))
   have f9 := Aa.mk ((Fr.put (T1 := fun k => w.heap.size ≤ k) (Fr.refl _ W') l (.loop { state := .exhausted, pending := none, fn := fn1, tmps := tm1, params := pr1, assign := as1, body := bd1, defers := df1 }) (.inl hwl)))
   have hc9 := Bk.cell b9.out (j := 0) rfl
   clear bBs' hD' bC hL' hY
   have g9 : Aa (w.heap.size ≤ g) := ⟨hg⟩
   have hC9 := Aa.mk hC
   have hb9 : Aa (Below w.heap.size w W') := ⟨hbel⟩
   clear hC hbel hg
   show Exit.inBlock 0 _ Exit.normal _ (Cc W' l (.loop { state := .exhausted, pending := none, fn := fn1, tmps := tm1, params := pr1, assign := as1, body := bd1, defers := df1 }))
   generalize Cc W' l (.loop { state := .exhausted, pending := none, fn := fn1, tmps := tm1, params := pr1, assign := as1, body := bd1, defers := df1 }) = W9 at *
   gi_wp2
   refine ⟨by simp, .inl ⟨_, _, rfl, run_takeDeferred d9.out, ?_⟩⟩
   have hC0 := hC9.out
   exact ⟨_, results_tmp rfl _ _ _, g, ⟨c, rfl⟩, g9.out, C, Ob.Bi c9.out gD _, by simpa using hC0, hb9.out.trans ((Fr.put (T1 := fun k => w.heap.size ≤ k) f9.out w0.heap.size _ (.inl hwD)).below (fun k hk h => by omega) hb9.out.size)⟩
end Go.Proofs.YtchfmgbjddopoaaGreatDoor.Hand
