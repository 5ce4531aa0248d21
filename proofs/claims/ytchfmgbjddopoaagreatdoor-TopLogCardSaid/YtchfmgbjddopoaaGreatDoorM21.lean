import Derived.RangeFuncGives
import Derived.Test.YtchfmgbjddopoaaGreatDoorM16
import Derived.Test.YtchfmgbjddopoaaGreatDoorM17
import Derived.Test.YtchfmgbjddopoaaGreatDoorM18
import Derived.Test.YtchfmgbjddopoaaGreatDoorM19
import Derived.Test.YtchfmgbjddopoaaGreatDoorM20
set_option linter.unusedVariables false
set_option linter.unusedSimpArgs false
set_option maxHeartbeats 6400000
set_option maxRecDepth 100000
namespace Go.Proofs.YtchfmgbjddopoaaGreatDoor.Hand
open Go.RowKit Go.Shelf Go.Proofs.YtchfmgbjddopoaaGreatDoorW.PrintWords Go.Proofs.YtchfmgbjddopoaaGreatDoorW.PrintLast Go.Proofs.YtchfmgbjddopoaaGreatDoorW.PrintMore
open Plain (Ky Wr Rc Ver Ent St Bytes)
attribute [local go_sem] Oper.semAt_some
theorem Qn {T : Nat → Prop} {w w' : World} (f : Fr T w w') (h : ∀ k o, T k → Ob w k o → o.isWalk = false) : KeepsWalks w w' :=
 ⟨f.size, fun k o hk ho => Ob.fr hk f fun ht => by have := h k o ht hk; rw [this] at ho; cases ho⟩
theorem DK {w w' : World} {row : Option Nat} (g : w.grownBy w' row) : Fr (fun k => some k = row) w w' := ⟨g.os, g.tape, g.output, g.size, fun k hk hn => g.block k hk hn⟩
theorem PD : (Tryz.prog.info? 103).map (fun i => (i.zero, i.size, i.bytes)) = some (some (.agg Z16), 16, 16) := by kernel_rfl
theorem Uu {w : World} {e size n base : Nat} {v : Value} {xs : List Value} {b : Nat} {o : Obj} (h : w.ownsRow base e size v n xs) (hb : Ob w b o) (hn : ∀ C, o ≠ .cells C e (0, 0)) : v.ownBlock ≠ some b := fun hk => by
 obtain ⟨C, hC⟩ := DV h hk
 exact hn C (Option.some.inj (hb.symm.trans hC))
def YE (g : Nat) (lb : Array Value) (S : List Ky → Prop) (N : Nat) (w : World) : Prop :=
 ∀ (l : Nat) (J : List Ky → World → Prop) (W : World), Below w.heap.size w W → AbidesFrom W.heap.size J → (∀ s W1, J s W1 → Below w.heap.size w W1) →
   (∀ pre x W1, J pre W1 → pre.length < N → YieldAt Fence.wide 1 Tryz.prog l #[Dq x] W1 fun e W' => e = .returned (.bool true) ∧ J (pre ++ [x]) W' ∧ KeepsWalks W1 W') →
   J [] W → CallsIn Fence.wide 2 Tryz.prog g (#[.func (.yield l) #[] #[]] ++ lb) W fun e W' => (∃ v, e = .returned v) ∧ ∃ xs, S xs ∧ J xs W'
section
variable {F : Fence} (hF : ∀ f, F.fn f) {n : Nat} {P : Program} {ops : Array Oper} {rest : List Oper} {op : Oper} {a : Act} {W w1 : World} {Q : Exit → Act → World → Prop}
include hF in
theorem Yd (hgd : op.guard = none) {t e : TypeId} {x : Tmp} {s : Nat} {ie : TypeInfo} {z : Value} (ho : op.op = .buildSlice t 1 #[(0, .tmp x)]) (hu : P.underlying t = some (.slice e)) (hi : P.info? e = some ie)
   (hz : ie.zero = some z) (hsz : ie.size = s) (hs : 0 < s) (hs2 : 1 * s ≤ 2 ^ 24) {C : Array Value} (hC : C.size = s) (hev : a.eval (.tmp x) = .agg C)
   (h : ∀ g w1, Aa (W.heap.size ≤ g) → Aa (Bk w1 g C e) → Aa (Below W.heap.size W w1) → wpListIn F n P ops Q rest (a.put op.dst (.slice (some ⟨g, 0, none⟩) 1 1)) w1) : wpListIn F n P ops Q (op :: rest) a W := by
 have e1 : ([Value.agg C].flatMap fun v => v.cells.toList).toArray = C := by simp [Value.cells]
 have hf := Great.fill_whole hs [.agg C] ((Array.range (1 * s)).map (z.cells[· % z.cells.size]!)) (fun v hv => by rw [List.mem_singleton.1 hv]; exact hC) (by simp)
 rw [e1] at hf
 have hrun := run_buildSlice (P := P) W t e 1 #[(0, .agg C)] C ie z hu hi hz (by rw [hsz]; omega) (by rw [hsz]; omega) (by rw [hsz]; exact hf)
 refine Gm hF hgd (fun c hc => by rw [ho] at hc; cases hc) (v := .slice (some ⟨W.heap.size, 0, none⟩) 1 1) (w1 := W.alloc (.cells C e)) ?_ (h _ _ ⟨Nat.le_refl _⟩ ⟨Ob.new W _⟩ ⟨Ah (Below.refl _ _) _⟩)
 unfold execOp
 have e2 : (#[((0 : Nat), Operand.tmp x)].map fun (i, x) => (i, a.eval x)) = #[(0, .agg C)] := by simp [hev]
 simp only [ho, Sem.run_bind]
 rw [show (Array.map (fun (x : Nat × Operand) => (x.fst, a.eval x.snd)) #[(0, Operand.tmp x)]) = #[(0, .agg C)] from e2, hrun]
 rfl
include hF in
theorem Wl {N : Tmp} (_hN : op.dst = some N) (hgd : op.guard = none) {ty : TypeId} {x : Operand} (ho : op.op = .load ty x) {b o' : Nat} (hx : a.eval x = .pointer (some ⟨b, o', none⟩))
   {d : TypeDesc} (hu : P.underlying ty = some d) (hd : d.isRow = true) {cs : List Value} (hi : (P.info? ty).map (·.size) = some cs.length)
   (hr : W.rangeAt b o' cs) (h : wpListIn F n P ops Q rest (a.put op.dst (.agg cs.toArray)) W) : wpListIn F n P ops Q (op :: rest) a W := by
 refine Gm hF hgd (fun c hc => by rw [ho] at hc; cases hc) ?_ h
 unfold execOp
 simp only [ho, hx, Instr.loadAt, Instr.sureAddr, Sem.run_bind, Sem.run_pure, Result.andThen_ok, run_loadVar_mid W b o' ty cs d hr hu hd hi]
end
def WZ : Value → Nat
 | .int _ j => j.toNat
 | _ => 0
structure ApA (w0 : World) (r0 : Loop) (Bs l D : Nat) (ks : List Ky) (W : World) : Prop where
 box : ∃ v, Bk W Bs #[v] 111 ∧ W.ownsRow w0.heap.size 103 16 v ks.length (ks.flatMap AZ) ∧ (v = .slice none 0 0 ↔ ks = [])
 L : Ob W l (.loop r0)
 K : Ob W D (.deferred (some []))
 below : Below w0.heap.size w0 W
theorem TT (w0 : World) (r0 : Loop) (Bs l D B : Nat) (hB : w0.heap.size ≤ B) : AbidesFrom B (ApA w0 r0 Bs l D) := fun s W W' row h hg hrow => by
 have f := DK hg
 have hne : ∀ {k : Nat} {o : Obj}, Ob W k o → o.isWalk = false → ¬ (some k = row) := fun {k o} hk ho e => by
   obtain ⟨_, o', h1, h2⟩ := hrow k e.symm
   have := Option.some.inj (hk.symm.trans h1)
   subst this
   rw [ho] at h2
   cases h2
 obtain ⟨v, hv, hr, hn⟩ := h.box
 refine ⟨⟨v, Ob.fr hv f (hne hv rfl), AP hr f (fun k hk e => ?_), hn⟩, Ob.fr h.L f (hne h.L rfl), Ob.fr h.K f (hne h.K rfl), h.below.trans (f.below (fun k hk e => ?_) h.below.size)⟩
 · obtain ⟨C, hC⟩ := DV hr e
   exact hne hC rfl hk
 · have := (hrow k e.symm).1
   omega
theorem Sv (w : World) (g : Nat) (lb : Array Value) (eg : ∀ (args : Array Value) (w : World), (callFunc g args).run Tryz.prog w = .ok (.enter g args) w) (S : List Ky → Prop) (N : Nat) (hN : N ≤ 100000) (hseq : YE g lb S N w) :
   Calls Tryz.prog 180 #[.slice none 0 0, .func (.func g) #[] lb] w fun e w' => ∃ v ks, e = .returned v ∧ S ks ∧ w'.ownsRow w.heap.size 103 16 v ks.length (ks.flatMap AZ) ∧ (v = .slice none 0 0 ↔ ks = []) ∧ Below w.heap.size w w' := by
 replace hseq := Aa.mk hseq
 refine (callsIn_wide (n := 3)).1 ?_
 refine callsIn_of_wp_marks Tryz.func180 rfl trivial ?_ rfl
 simp only [Tryz.ntmps180, List.size_toArray, List.length_cons, List.length_nil, Nat.reduceAdd, Nat.reduceSub, Array.replicate_succ, Array.replicate_zero, List.push_toArray, List.append_toArray, List.nil_append, List.cons_append]
 gi_wp2_with (first
   | ((with_reducible refine BB (N := 2) rfl ?_); refine Ie (fun _ => trivial) (N := 2) (C := #[.slice none 0 0]) rfl rfl (fun c hc => by cases hc) (by first | (go_simp; done) | (go_simp; rfl)) ?_; intro Bs w0 hBs bBs f0)
   | gi_in)
 refine JA (f := g) (lb := lb) rfl eg ?_
 intro fn W1 r0 hL hst hpd hfn htm hps has hbd hD fb
 have bBs1 := Aa.mk (bBs.out.Ad fb)
 have f01 := Aa.mk (f0.out.trans (fb.mono f0.out.size))
 have hl1 : Aa (Bs < w0.heap.size) := ⟨bBs.out.lt⟩
 have fs := fb.size
 generalize hl : w0.heap.size + 1 = l at *
 have hlD : Aa (w0.heap.size < l) := ⟨by omega⟩
 have hwl : Aa (w.heap.size ≤ Bs ∧ w.heap.size ≤ w0.heap.size ∧ w.heap.size ≤ l) := ⟨by have := hBs.out; have := f0.out.size; have := hlD.out; omega⟩
 have hr0 : Aa (∀ r1 : Loop, r1 = { r0 with state := LoopState.busy } → { r1 with state := LoopState.ready, pending := none } = r0) := ⟨fun r1 e => by subst e; obtain ⟨st, pd, fn', tm, pr, as', bd, df⟩ := r0; simp only at hst hpd; subst hst hpd; rfl⟩
 have start : Aa (ApA w r0 Bs l w0.heap.size [] W1) := ⟨⟨⟨_, bBs1.out, World.ownsRow_nil _ _ _ _, by simp⟩, hL, hD, f01.out⟩⟩
 have hW01 : Aa (Below w.heap.size w W1) := ⟨f01.out⟩
 have hs1 : Aa (w.heap.size ≤ W1.heap.size) := ⟨f01.out.size⟩
 clear hL hD fs bBs1
 replace fb := Aa.mk fb
 replace hst := Aa.mk hst
 replace hpd := Aa.mk hpd
 replace hps := Aa.mk hps
 replace htm := Aa.mk htm
 replace has := Aa.mk has
 replace hbd := Aa.mk hbd
 have hY : Aa (∀ pre x W2, ApA w r0 Bs l w0.heap.size pre W2 → pre.length < N → YieldAt Fence.wide 1 Tryz.prog l #[Dq x] W2 fun e W' => e = .returned (.bool true) ∧ ApA w r0 Bs l w0.heap.size (pre ++ [x]) W' ∧ KeepsWalks W2 W') := ⟨by
   intro pre x W2 hA hlen
   obtain ⟨v, hv, hrow, hnil⟩ := hA.box
   have hL2 := hA.L
   have hD2 := hA.K
   have fA := hA.below
   obtain ⟨KC, hKC⟩ : ∃ KC, KC = (AZ x).toArray := ⟨_, rfl⟩
   have hKs : KC.size = 16 := by rw [hKC]; simpa using Ai x
   have hK1 : KC.all (·.oneCell') = true := by rw [hKC, Array.all_eq_true_iff_forall_mem]; intro u hu; exact Di x u (by simpa using hu)
   have hKe : pre.flatMap AZ ++ KC.toList = (pre ++ [x]).flatMap AZ := by rw [hKC]; simp
   rw [Eu, ← hKC]
   clear hKC hnil hA
   have hlt := Aa.mk (show pre.length ≤ 100000 by omega)
   have hKl : Aa (KC.toList.length = 1 * 16) := ⟨by simpa using hKs⟩
   replace hKs := Aa.mk hKs
   replace hK1 := Aa.mk hK1
   replace hKe := Aa.mk hKe
   replace fA := Aa.mk fA
   clear hlen
   refine ⟨_, _, _, _, run_yield hL2 (by rw [hps.out]; rfl), roundIn_of_wpIn trivial ?_⟩
   rw [has.out, hbd.out, hps.out, htm.out]
   simp
   have bBs2 := Aa.mk hv
   replace hD2 := Aa.mk hD2
   replace hL2 := Aa.mk hL2
   replace hrow := Aa.mk hrow
   clear hv
   gi_wp2_with (first
     | ((with_reducible refine BB (N := 5) rfl ?_); refine Ie (fun _ => trivial) (N := 5) (C := Z16) rfl rfl (fun c hc => by cases hc) (by first | (go_simp; done) | (go_simp; rfl)) ?_; intro g5 w3 h5 b5 f3)
     | ((with_reducible refine Du (t := 103) (p := 5) (v := .tmp 7) rfl ?_); refine Fq (fun _ => trivial) rfl (ty := 103) (x := .tmp 5) (y := .tmp 7) (cells := KC) rfl rfl rfl b5.out (by rw [hKs.out]; exact AB) hK1.out (by rw [hKs.out]; exact Nat.le_refl 16) KC (Aq (C := Z16) hKs.out) ?_; intro w4 b54 f4)
     | gi_in)
   have n5 : Aa (W2.heap.size ≤ g5) := h5
   have lt2 : Aa (l < W2.heap.size ∧ Bs < W2.heap.size ∧ w0.heap.size < W2.heap.size) := ⟨hL2.out.lt, bBs2.out.lt, hD2.out.lt⟩
   have G4 : Aa (Below W2.heap.size W2 w4) := ⟨((Fr.of_below (T := fun k => k = g5) f3.out).trans f4.out).below (fun k hk q => by have := n5.out; omega) (Nat.le_refl _)⟩
   have hL4 := Aa.mk (hL2.out.Ad G4.out)
   have bBs4 := Aa.mk (bBs2.out.Ad G4.out)
   have hD4 := Aa.mk (hD2.out.Ad G4.out)
   have hrow4 := Aa.mk (own_below hrow.out G4.out)
   refine ⟨_, run_beginRound hL4.out hst.out, ?_⟩
   obtain ⟨i0, hi, hz0, hz1, hz2⟩ := info_parts PD
   replace hi := Aa.mk hi
   replace hz0 := Aa.mk hz0
   replace hz1 := Aa.mk hz1
   replace hz2 := Aa.mk hz2
   obtain ⟨r1, hr1⟩ : ∃ r1, r1 = { r0 with state := LoopState.busy } := ⟨_, rfl⟩
   rw [← hr1]
   replace hr1 := Aa.mk hr1
   have eBl : Aa (Bs ≠ l ∧ w0.heap.size ≠ l ∧ g5 ≠ l ∧ g5 ≠ Bs ∧ g5 ≠ w0.heap.size ∧ Bs ≠ w0.heap.size) := ⟨by have := n5.out; have := lt2.out; have := hlD.out; have := hl1.out; omega⟩
   have hL5 : Aa (Ob (w4.putObj l (.loop r1)) l (.loop r1)) := ⟨Ob.put hL4.out _⟩
   have bBs5 : Aa (Bk (w4.putObj l (.loop r1)) Bs #[v] 111) := ⟨Ob.Bi bBs4.out eBl.out.1 _⟩
   have hD5 : Aa (Ob (w4.putObj l (.loop r1)) w0.heap.size (.deferred (some []))) := ⟨Ob.Bi hD4.out eBl.out.2.1 _⟩
   have b55 : Aa (Bk (w4.putObj l (.loop r1)) g5 KC 103) := ⟨Ob.Bi b54.out eBl.out.2.2.1 _⟩
   have P5 : Fr (fun k => k = l) w4 (w4.putObj l (.loop r1)) := Fr.put (Fr.refl _ w4) l (.loop r1) (.inl rfl)
   have hrow5 : Aa ((w4.putObj l (.loop r1)).ownsRow w.heap.size 103 16 v pre.length (pre.flatMap AZ)) := ⟨AP hrow4.out P5 fun k hk e => by
     subst hk
     obtain ⟨C, hC⟩ := DV hrow4.out e
     have := Option.some.inj (hC.symm.trans hL4.out)
     cases this⟩
   have F5 : Aa (Fr (fun k => k = Bs ∨ k = l ∨ v.ownBlock = some k) W2 (w4.putObj l (.loop r1))) := ⟨(Fr.of_below G4.out).trans (P5.weaken fun k _ h => .inr (.inl h))⟩
   clear P5
   generalize w4.putObj l (.loop r1) = w5 at *
   have c0 : w5.cell? ⟨Bs, 0, none⟩ = some v := Bk.cell bBs5.out rfl
   gi_wp2_with (first
     | ((with_reducible refine BB (N := 9) rfl ?_); refine He (fun _ => trivial) (N := 9) rfl rfl rfl rfl b55.out Tryz.underlying103 rfl AB KC.toList (AU hKs.out) (by rw [Array.length_toList, hKs.out]) ?_)
     | ((with_reducible refine BB (N := 10) rfl ?_); refine Yd (fun _ => trivial) rfl rfl Tryz.underlying111 hi.out hz0.out hz1.out (by decide) (by decide) (C := KC) hKs.out rfl ?_; intro g10 w6 h10 b10 f6; have bBs6 := Aa.mk (bBs5.out.Ad f6.out); have hL6 := Aa.mk (hL5.out.Ad f6.out); have hD6 := Aa.mk (hD5.out.Ad f6.out); have hrow6 := Aa.mk (own_below hrow5.out f6.out); have hnews : Aa (∀ (j : Nat) (u : Value), KC.toList[j]? = some u → w6.cell? ((⟨g10, 0, none⟩ : Addr).add j) = some u) := ⟨fun j u hj => by rw [Addr.add_mid, Nat.zero_add]; exact b10.out.cell (by simpa using hj)⟩)
     | (gi_at_builtin; refine wpListIn_append_own _ rfl _ _ 111 rfl w.heap.size 103 i0 (.agg Z16) 16 16 Tryz.underlying111 hi.out hz0.out hz1.out hz2.out (by kernel_rfl) (by decide) _ _ _ rfl (Aa.out hrow6) ⟨g10, 0, none⟩ 1 1 KC.toList rfl hKl.out (Aa.out hnews) (fun u hu => (Array.all_eq_true_iff_forall_mem.1 hK1.out) u (by simpa using hu)) (by have := hlt.out; simp only [maxLen]; omega) (by have := hlt.out; omega) (by have := fA.out.size; have := F5.out.size; have := f6.out.size; omega) ?_; intro v7 w7 ho hg7 hnil7
        have f7 : Aa (Fr (fun k => v.ownBlock = some k) w6 w7) := ⟨(DK hg7).weaken fun k _ e => e.symm⟩
        obtain ⟨g7, k7, rfl⟩ : ∃ g7 k7, v7 = .slice (some ⟨g7, 0, none⟩) (pre.length + 1) k7 := by
          rcases ho.2 with ⟨_, h0⟩ | ⟨g7, k7, _, h', _⟩
          · exact absurd h0 (by omega)
          · exact ⟨g7, k7, h'⟩
        have ho7 := Aa.mk ho
        have nb : Aa (v.ownBlock ≠ some Bs ∧ v.ownBlock ≠ some l ∧ v.ownBlock ≠ some w0.heap.size) := ⟨AC (Aa.out hrow6) (Aa.out bBs6) (by decide), Uu (Aa.out hrow6) (Aa.out hL6) (fun C e => by cases e), Uu (Aa.out hrow6) (Aa.out hD6) (fun C e => by cases e)⟩
        have bBs7 := Aa.mk (Ob.fr (Aa.out bBs6) f7.out nb.out.1)
        have hL7 := Aa.mk (Ob.fr (Aa.out hL6) f7.out nb.out.2.1)
        have hD7 := Aa.mk (Ob.fr (Aa.out hD6) f7.out nb.out.2.2)
        have c7 : w7.cell? ⟨Bs, 0, none⟩ = some v := Bk.cell bBs7.out rfl
        have z7 := Bk.free bBs7.out 0
        clear ho hg7 hnil7)
     | gi_in)
   have e8 : Aa (l ≠ Bs ∧ w0.heap.size ≠ Bs) := ⟨by have := eBl.out; omega⟩
   have F7 : Aa (Fr (fun k => k = Bs ∨ k = l ∨ v.ownBlock = some k) W2 w7) := ⟨(F5.out.trans (Fr.of_below f6.out)).trans (f7.out.weaken fun k _ h => .inr (.inr h))⟩
   have S8 : Fr (fun k => k = Bs) w7 (w7.setCell ⟨Bs, 0, none⟩ (.slice (some ⟨g7, 0, none⟩) (pre.length + 1) k7)) := (Fr.refl _ w7).set Bs 0 _ (.inl rfl)
   have bBs8 := Aa.mk (Bk.set bBs7.out 0 (.slice (some ⟨g7, 0, none⟩) (pre.length + 1) k7))
   have hL8 := Aa.mk (Ob.far hL7.out e8.out.1 0 (.slice (some ⟨g7, 0, none⟩) (pre.length + 1) k7))
   have hD8 := Aa.mk (Ob.far hD7.out e8.out.2 0 (.slice (some ⟨g7, 0, none⟩) (pre.length + 1) k7))
   have ho8 := Aa.mk (AP ho7.out S8 fun k hk => hk ▸ AC ho7.out bBs7.out (by decide))
   have F8 := Aa.mk (F7.out.trans (S8.weaken fun k _ h => .inl h))
   clear S8
   generalize w7.setCell ⟨Bs, 0, none⟩ (.slice (some ⟨g7, 0, none⟩) (pre.length + 1) k7) = w8 at *
   have e9 := hr0.out r1 hr1.out
   have P9 : Fr (fun k => k = l) w8 (w8.putObj l (.loop r0)) := Fr.put (Fr.refl _ w8) l (.loop r0) (.inl rfl)
   have hE := run_endRound (P := Tryz.prog) none hL8.out
   simp only [Option.isNone_none, if_true] at hE
   rw [e9] at hE
   have F9 : Fr (fun k => k = Bs ∨ k = l ∨ v.ownBlock = some k) W2 (w8.putObj l (.loop r0)) := F8.out.trans (P9.weaken fun k _ h => .inr (.inl h))
   have hrw : w.heap.size ≤ W2.heap.size := fA.out.size
   refine ⟨_, _, hE, rfl, ⟨⟨_, Ob.Bi bBs8.out eBl.out.1 _, ?_, by simp⟩, Ob.put hL8.out _, Ob.Bi hD8.out eBl.out.2.1 _, fA.out.trans (F9.below (fun k hk e => ?_) hrw)⟩, Qn F9 fun k o e ho => ?_⟩
   · have := AP ho8.out P9 (fun k hk e => by
       subst hk
       obtain ⟨C, hC⟩ := DV ho8.out e
       have := Option.some.inj (hC.symm.trans hL8.out)
       cases this)
     rw [hKe.out] at this
     rw [List.length_append]
     exact this
   · rcases e with e | e | e
     · have := hwl.out; omega
     · have := hwl.out; omega
     · have := (hrow.out.lt k e).1; omega
   · rcases e with e | e | e
     · subst e
       have := Option.some.inj (ho.symm.trans bBs2.out)
       subst this; rfl
     · subst e
       have := Option.some.inj (ho.symm.trans hL2.out)
       subst this; rfl
     · obtain ⟨C, hC⟩ := DV hrow.out e
       have := Option.some.inj (ho.symm.trans hC)
       subst this; rfl⟩
 refine (hseq.out l (ApA w r0 Bs l w0.heap.size) W1 hW01.out (TT w r0 Bs l _ _ hs1.out) (fun s W h => h.below) (fun pre x W2 h1 h2 => hY.out pre x W2 h1 h2) start.out).mono ?_
 rintro e W' ⟨⟨v0, rfl⟩, ks, hS, hA⟩
 clear hY hseq start
 have hend := run_endLoop (P := Tryz.prog) hA.L (by rw [hst.out]; simp)
 obtain ⟨r9, hr9⟩ : ∃ r9 : Loop, r9 = { r0 with state := LoopState.exhausted } := ⟨_, rfl⟩
 rw [← hr9, hpd.out] at hend
 refine ⟨_, _, hend, ?_⟩
 obtain ⟨v, hv, hrow, hnil⟩ := hA.box
 have eBl : Bs ≠ l ∧ w0.heap.size ≠ l ∧ w0.heap.size ≠ Bs := by have := hlD.out; have := hl1.out; omega
 have P9 : Fr (fun k => k = l) W' (W'.putObj l (.loop r9)) := Fr.put (Fr.refl _ W') l _ (.inl rfl)
 have b9 : Aa (Bk (W'.putObj l (.loop r9)) Bs #[v] 111) := ⟨Ob.Bi hv eBl.1 _⟩
 have d9 : Aa (Ob (W'.putObj l (.loop r9)) w0.heap.size (.deferred (some []))) := ⟨Ob.Bi hA.K eBl.2.1 _⟩
 have o9 := Aa.mk (AP hrow P9 fun k hk e => by
     subst hk
     obtain ⟨C, hC⟩ := DV hrow e
     have := Option.some.inj (hC.symm.trans hA.L)
     cases this)
 have f9 := Aa.mk (hA.below.trans (P9.below (fun k hk e => by have := hwl.out; omega) hA.below.size))
 have hnil9 := Aa.mk hnil
 have hS9 := Aa.mk hS
 clear P9 hnil hS hA hv hrow hend
 show Exit.inBlock 0 _ Exit.normal _ (W'.putObj l (.loop r9))
 generalize W'.putObj l (.loop r9) = W9 at *
 have hc9 := Bk.cell b9.out (j := 0) rfl
 gi_wp2
 refine ⟨by simp, .inl ⟨_, _, rfl, run_takeDeferred d9.out, ?_⟩⟩
 have Q9 : Fr (fun k => k = w0.heap.size) W9 (W9.putObj w0.heap.size (.deferred none)) := Fr.put (Fr.refl _ W9) w0.heap.size _ (.inl rfl)
 exact ⟨_, results_tmp rfl _ _ _, v, rfl, ks, hS9.out, AP o9.out Q9 (fun k hk e => by
     subst hk
     obtain ⟨C, hC⟩ := DV o9.out e
     have := Option.some.inj (hC.symm.trans d9.out)
     cases this), hnil9.out, f9.out.trans (Q9.below (fun k hk e => by have := hwl.out; omega) f9.out.size)⟩
theorem PQ (w : World) (g : Nat) (lb : Array Value) (eg : ∀ (args : Array Value) (w : World), (callFunc g args).run Tryz.prog w = .ok (.enter g args) w) (S : List Ky → Prop) (N : Nat) (hN : N ≤ 100000) (hseq : YE g lb S N w) :
   Calls Tryz.prog 129 #[.func (.func g) #[] lb] w fun e w' => ∃ v ks, e = .returned v ∧ S ks ∧ w'.ownsRow w.heap.size 103 16 v ks.length (ks.flatMap AZ) ∧ (v = .slice none 0 0 ↔ ks = []) ∧ Below w.heap.size w w' := by
 have hA := Sv w g lb eg S N hN hseq
 clear hseq
 go_enter Tryz.func129, Tryz.ntmps129
 go_wp2_with (first
   | (go_at_call 180; refine hA.mono ?_; clear hA; rintro e w1 ⟨v, ks, rfl, h⟩))
 go_returns
 exact ⟨v, ks, rfl, h⟩
end Go.Proofs.YtchfmgbjddopoaaGreatDoor.Hand
namespace Go.Proofs.YtchfmgbjddopoaaGreatDoor.Hand
open Go.RowKit Go.Sort Go.Proofs.YtchfmgbjddopoaaGreatDoorW.PrintWords Go.Proofs.YtchfmgbjddopoaaGreatDoorW.PrintLast Go.Proofs.YtchfmgbjddopoaaGreatDoorW.PrintMore
attribute [local go_sem ↓] Go.wp_at_zero Go.wp_at_succ
open Plain (Ky Wr Rc Ver Ent St Bytes cmpK sortK)
theorem XB (w : World) : (Go.sizeOf 103).run Tryz.prog w = .ok 16 w := by
 obtain ⟨i, h1, _, h3, _⟩ := info_parts PD
 simp [Go.sizeOf, typeInfo, h1, h3]
theorem ZE (w : World) : (isAgg 103).run Tryz.prog w = .ok true w := by kernel_rfl
theorem Ci (l : List Ky) : (sortK l).length = l.length := (Plain.EI l).length_eq
theorem NL : sortK [] = [] := List.eq_nil_of_length_eq_zero (Ci [])
theorem UQ (w : World) (B : Nat) (v : Value) (ks : List Ky) (h : w.ownsRow B 103 16 v ks.length (ks.flatMap AZ)) (hn : ks.length ≤ 100000) :
   Calls Tryz.prog 130 #[v, .func (.func 91) #[] #[]] w fun e w' => e = .returned (.tuple #[]) ∧ w'.ownsRow B 103 16 v ks.length ((sortK ks).flatMap AZ) ∧ Fr (fun k => v.ownBlock = some k) w w' := by
 rcases h.2 with ⟨rfl, h0⟩ | ⟨g, cap, cur, rfl, hb, hh, hc, hm, hs, ht⟩
 · have e0 : ks = [] := List.eq_nil_of_length_eq_zero h0
   subst e0
   refine (AnyF.slices_SortFunc_none Tryz.ED none 0 _ w).mono ?_
   rintro e w' ⟨rfl, rfl⟩
   exact ⟨rfl, by rw [NL]; exact h, Fr.refl _ _⟩
 · by_cases h0 : ks.length = 0
   · have e0 : ks = [] := List.eq_nil_of_length_eq_zero h0
     subst e0
     refine (AnyF.slices_SortFunc_none Tryz.ED (some ⟨g, 0, none⟩) cap _ w).mono ?_
     rintro e w' ⟨rfl, rfl⟩
     exact ⟨rfl, by rw [NL]; exact h, Fr.refl _ _⟩
   · have hn0 : 0 < ks.length := by omega
     have := AnyQ.slices_SortFunc_total Tryz.ED 16 ZE XB AZ Ai Di cmpK VG 91 #[] g 0 cap ks.toArray w (fun args w => by kernel_rfl) (WB _ _ _ _) (Tu h hn0) (Ob.lt hh) (by simp; omega) VC
     rw [List.size_toArray] at this
     refine this.mono ?_
     rintro e w' ⟨rfl, n, os, rfl⟩
     exact ⟨rfl, PY (Ci ks) h hn0, (TB _).weaken fun k _ e => by subst e; rfl⟩
theorem FZ (w : World) (g : Nat) (lb : Array Value) (eg : ∀ (args : Array Value) (w : World), (callFunc g args).run Tryz.prog w = .ok (.enter g args) w) (S : List Ky → Prop) (N : Nat) (hN : N ≤ 100000) (hS : ∀ ks, S ks → ks.length ≤ 100000) (hseq : YE g lb S N w) :
   Calls Tryz.prog 89 #[.func (.func g) #[] lb, .func (.func 91) #[] #[]] w fun e w' => ∃ v ks, e = .returned v ∧ S ks ∧ w'.ownsRow w.heap.size 103 16 v ks.length ((sortK ks).flatMap AZ) ∧ (v = .slice none 0 0 ↔ ks = []) ∧ Below w.heap.size w w' := by
 have hA := PQ w g lb eg S N hN hseq
 replace hS := Aa.mk hS
 clear hseq
 go_enter Tryz.func89, Tryz.ntmps89
 go_wp2_with (first
   | (go_at_call 129; refine hA.mono ?_; clear hA; rintro e w1 ⟨v, ks, rfl, hs, ho, hnil, f1⟩; have hB := UQ w1 _ v ks ho (hS.out _ hs); replace hs := Aa.mk hs; replace hnil := Aa.mk hnil; replace ho := Aa.mk ho; replace f1 := Aa.mk f1)
   | (go_at_call 130; refine hB.mono ?_; clear hB; rintro e w2 ⟨rfl, ho2, f2⟩; replace ho2 := Aa.mk ho2; replace f2 := Aa.mk f2))
 go_returns
 exact ⟨v, ks, rfl, hs.out, ho2.out, hnil.out, f1.out.trans (f2.out.below (fun k hk e => by have := (ho.out.lt k e).1; omega) f1.out.size)⟩
end Go.Proofs.YtchfmgbjddopoaaGreatDoor.Hand
namespace Go.Proofs.YtchfmgbjddopoaaGreatDoor.Hand
open Go.RowKit Go.Shelf Go.Proofs.YtchfmgbjddopoaaGreatDoorW.PrintWords Go.Proofs.YtchfmgbjddopoaaGreatDoorW.PrintLast Go.Proofs.YtchfmgbjddopoaaGreatDoorW.PrintMore
open Plain (Ky Wr Rc Ver Ent St Bytes)
attribute [local go_sem] Oper.semAt_some
theorem Tq (w : World) (Bm m : Nat) (L : List (Ky × Value)) (hB : Bk w Bm #[.map (some m)] 156) (hm : DD w m Dq L) : YE 131 #[.pointer (some ⟨Bm, 0, none⟩)] (fun ks => ks.Perm (L.map (·.1))) L.length w := by
 intro l J W hW hJ hJB hY h0
 have hB1 := hB.Ad hW
 have cB := Bk.cell hB1 (j := 0) (v := .map (some m)) rfl
 obtain ⟨w0, hrg, it0, f0, g0⟩ := (hm.below hW).range Tryz.underlying156
 have hJ0 := Aa.mk (hJ [] W w0 none h0 g0 (fun r e => by cases e))
 replace it0 := Aa.mk it0
 replace hJ := Aa.mk hJ
 replace hY := Aa.mk hY
 clear hB hm hW hJB h0 hB1 f0 g0
 refine callsIn_of_wp Tryz.func131 rfl trivial ?_ rfl
 simp only [Tryz.ntmps131, List.size_toArray, List.length_cons, List.length_nil, Nat.reduceAdd, Nat.reduceSub, Array.replicate_succ, Array.replicate_zero, List.push_toArray, List.append_toArray, List.nil_append, List.cons_append]
 gi_wp2
 clear cB hrg
 gi_loopw [3] (fun _ wr => Aa (∃ pre, ItA wr m W.heap.size Dq L pre ∧ J (pre.map (·.1)) wr)) (fun _ wr => L.length - NF wr W.heap.size)
 case atStart => exact ⟨[], it0.out, hJ0.out⟩
 case round =>
   obtain ⟨pre, hit, hJp⟩ := hrel.out
   clear hrel
   rcases hit.next Gl with ⟨hnx, hperm⟩ | ⟨⟨x, u⟩, W2, hnx, hp, hit2, f2, g2, hfew, hen⟩
   · replace hit := Aa.mk hit
     gi_wp2
     go_end0
     exact ⟨⟨_, rfl⟩, _, hperm.map _, hJp⟩
   · have hJ2 := hJ.out _ wr W2 (some W.heap.size) hJp g2 (fun r e => by cases e; exact ⟨Nat.le_refl _, hit.walk⟩)
     have hs1 := hit.seen
     obtain ⟨KC, hKC⟩ : ∃ KC, KC = (AZ x).toArray := ⟨_, rfl⟩
     have hKs : KC.size = 16 := by rw [hKC]; simpa using Ai x
     have hK1 : KC.all (·.oneCell') = true := by rw [hKC, Array.all_eq_true_iff_forall_mem]; intro v hv; exact Di x v (by simpa using hv)
     simp only [Eu, ← hKC] at hnx hen
     have hlt := Aa.mk hfew
     have hms := Aa.mk hs1
     replace hKs := Aa.mk hKs
     replace hK1 := Aa.mk hK1
     replace hKC := Aa.mk hKC
     replace hJ2 := Aa.mk hJ2
     replace hit2 := Aa.mk hit2
     clear hJp hit hp f2 g2 hfew hs1
     gi_wp2_with (first
       | ((with_reducible refine BB (N := 3) rfl ?_); refine Ie (fun _ => trivial) (N := 3) (C := Z16) rfl rfl (fun c hc => by cases hc) (by first | (go_simp; done) | (go_simp; rfl)) ?_; intro g4 w3 h4 b4 f3; clear hnx hen)
       | ((with_reducible refine Du (t := 103) (p := 3) (v := .tmp 9) rfl ?_); refine Fq (fun _ => trivial) rfl (ty := 103) (x := .tmp 3) (y := .tmp 9) (cells := KC) rfl rfl rfl b4.out (by rw [hKs.out]; exact AB) hK1.out (by rw [hKs.out]; exact Nat.le_refl 16) KC (Aq (C := Z16) hKs.out) ?_; intro w4 b44 f4
          have G4 : Aa (Below W2.heap.size W2 w4) := ⟨((Fr.of_below (T := fun k => k = g4) f3.out).trans f4.out).below (fun k hk q => by have := h4.out; omega) (Nat.le_refl _)⟩
          have hJ4 : Aa (J (pre.map (·.1)) w4) := ⟨hJ.out _ W2 w4 none hJ2.out ⟨G4.out.os, G4.out.tape, G4.out.output, G4.out.size, fun k hk _ => G4.out.block k hk⟩ (fun r e => by cases e)⟩
          have it4 := Aa.mk (hit2.out.below G4.out))
       | ((with_reducible refine BB (N := 11) rfl ?_); refine He (fun _ => trivial) (N := 11) rfl rfl rfl rfl b44.out Tryz.underlying103 rfl AB KC.toList (AU hKs.out) (by rw [Array.length_toList, hKs.out]) ?_; obtain ⟨fn, tmps, asg, body, hy, hR⟩ := hY.out _ x w4 hJ4.out (by rw [List.length_map]; exact hlt.out); replace hR := Aa.mk hR; simp only [Eu, ← hKC.out] at hy)
       | gi_in)
     refine hR.out.mono ?_
     rintro e w5 ⟨rfl, hJ5, hk5⟩
     replace hJ5 := Aa.mk hJ5
     have it5 := Aa.mk (it4.out.keeps hk5)
     clear hy hk5
     gi_wp2
     go_roundw
     case rel => exact ⟨_, it5.out, by have := hJ5.out; simpa using this⟩
     case measure =>
       have a := it5.out.seen
       have b := hms.out
       have c := hlt.out
       rw [a, b]
       simp only [List.length_append, List.length_cons, List.length_nil]
       omega
theorem Qa (w : World) (m : Nat) : Calls Tryz.prog 90 #[.map (some m)] w fun e w' => ∃ B, e = .returned (.func (.func 131) #[] #[.pointer (some ⟨B, 0, none⟩)]) ∧ Bk w' B #[.map (some m)] 156 ∧ Below w.heap.size w w' := by
 go_enter Tryz.func90, Tryz.ntmps90
 go_wp2_with (first
   | ((with_reducible refine Ac (N := 1) rfl ?_); refine Aj (N := 1) (C := #[.map (some m)]) rfl rfl (by first | (go_simp; done) | (go_simp; rfl)) ?_; intro B w1 hB b1 f1))
 go_returns
 exact ⟨B, rfl, b1.out, f1.out⟩
theorem Tn (w : World) (Bm m : Nat) (L : List (Ky × Value)) (hB : Bk w Bm #[.map (some m)] 160) (hm : DD w m Dq L) : YE 273 #[.pointer (some ⟨Bm, 0, none⟩)] (fun ks => ks.Perm (L.map (·.1))) L.length w := by
 intro l J W hW hJ hJB hY h0
 have hB1 := hB.Ad hW
 have cB := Bk.cell hB1 (j := 0) (v := .map (some m)) rfl
 obtain ⟨w0, hrg, it0, f0, g0⟩ := (hm.below hW).range Tryz.underlying160
 have hJ0 := Aa.mk (hJ [] W w0 none h0 g0 (fun r e => by cases e))
 replace it0 := Aa.mk it0
 replace hJ := Aa.mk hJ
 replace hY := Aa.mk hY
 clear hB hm hW hJB h0 hB1 f0 g0
 refine callsIn_of_wp Tryz.func273 rfl trivial ?_ rfl
 simp only [Tryz.ntmps273, List.size_toArray, List.length_cons, List.length_nil, Nat.reduceAdd, Nat.reduceSub, Array.replicate_succ, Array.replicate_zero, List.push_toArray, List.append_toArray, List.nil_append, List.cons_append]
 gi_wp2
 clear cB hrg
 gi_loopw [3] (fun _ wr => Aa (∃ pre, ItA wr m W.heap.size Dq L pre ∧ J (pre.map (·.1)) wr)) (fun _ wr => L.length - NF wr W.heap.size)
 case atStart => exact ⟨[], it0.out, hJ0.out⟩
 case round =>
   obtain ⟨pre, hit, hJp⟩ := hrel.out
   clear hrel
   rcases hit.next Gl with ⟨hnx, hperm⟩ | ⟨⟨x, u⟩, W2, hnx, hp, hit2, f2, g2, hfew, hen⟩
   · replace hit := Aa.mk hit
     gi_wp2
     go_end0
     exact ⟨⟨_, rfl⟩, _, hperm.map _, hJp⟩
   · have hJ2 := hJ.out _ wr W2 (some W.heap.size) hJp g2 (fun r e => by cases e; exact ⟨Nat.le_refl _, hit.walk⟩)
     have hs1 := hit.seen
     obtain ⟨KC, hKC⟩ : ∃ KC, KC = (AZ x).toArray := ⟨_, rfl⟩
     have hKs : KC.size = 16 := by rw [hKC]; simpa using Ai x
     have hK1 : KC.all (·.oneCell') = true := by rw [hKC, Array.all_eq_true_iff_forall_mem]; intro v hv; exact Di x v (by simpa using hv)
     simp only [Eu, ← hKC] at hnx hen
     have hlt := Aa.mk hfew
     have hms := Aa.mk hs1
     replace hKs := Aa.mk hKs
     replace hK1 := Aa.mk hK1
     replace hKC := Aa.mk hKC
     replace hJ2 := Aa.mk hJ2
     replace hit2 := Aa.mk hit2
     clear hJp hit hp f2 g2 hfew hs1
     gi_wp2_with (first
       | ((with_reducible refine BB (N := 3) rfl ?_); refine Ie (fun _ => trivial) (N := 3) (C := Z16) rfl rfl (fun c hc => by cases hc) (by first | (go_simp; done) | (go_simp; rfl)) ?_; intro g4 w3 h4 b4 f3; clear hnx hen)
       | ((with_reducible refine Du (t := 103) (p := 3) (v := .tmp 9) rfl ?_); refine Fq (fun _ => trivial) rfl (ty := 103) (x := .tmp 3) (y := .tmp 9) (cells := KC) rfl rfl rfl b4.out (by rw [hKs.out]; exact AB) hK1.out (by rw [hKs.out]; exact Nat.le_refl 16) KC (Aq (C := Z16) hKs.out) ?_; intro w4 b44 f4
          have G4 : Aa (Below W2.heap.size W2 w4) := ⟨((Fr.of_below (T := fun k => k = g4) f3.out).trans f4.out).below (fun k hk q => by have := h4.out; omega) (Nat.le_refl _)⟩
          have hJ4 : Aa (J (pre.map (·.1)) w4) := ⟨hJ.out _ W2 w4 none hJ2.out ⟨G4.out.os, G4.out.tape, G4.out.output, G4.out.size, fun k hk _ => G4.out.block k hk⟩ (fun r e => by cases e)⟩
          have it4 := Aa.mk (hit2.out.below G4.out))
       | ((with_reducible refine BB (N := 11) rfl ?_); refine He (fun _ => trivial) (N := 11) rfl rfl rfl rfl b44.out Tryz.underlying103 rfl AB KC.toList (AU hKs.out) (by rw [Array.length_toList, hKs.out]) ?_; obtain ⟨fn, tmps, asg, body, hy, hR⟩ := hY.out _ x w4 hJ4.out (by rw [List.length_map]; exact hlt.out); replace hR := Aa.mk hR; simp only [Eu, ← hKC.out] at hy)
       | gi_in)
     refine hR.out.mono ?_
     rintro e w5 ⟨rfl, hJ5, hk5⟩
     replace hJ5 := Aa.mk hJ5
     have it5 := Aa.mk (it4.out.keeps hk5)
     clear hy hk5
     gi_wp2
     go_roundw
     case rel => exact ⟨_, it5.out, by have := hJ5.out; simpa using this⟩
     case measure =>
       have a := it5.out.seen
       have b := hms.out
       have c := hlt.out
       rw [a, b]
       simp only [List.length_append, List.length_cons, List.length_nil]
       omega
theorem Oz (w : World) (m : Nat) : Calls Tryz.prog 225 #[.map (some m)] w fun e w' => ∃ B, e = .returned (.func (.func 273) #[] #[.pointer (some ⟨B, 0, none⟩)]) ∧ Bk w' B #[.map (some m)] 160 ∧ Below w.heap.size w w' := by
 go_enter Tryz.func225, Tryz.ntmps225
 go_wp2_with (first
   | ((with_reducible refine Ac (N := 1) rfl ?_); refine Aj (N := 1) (C := #[.map (some m)]) rfl rfl (by first | (go_simp; done) | (go_simp; rfl)) ?_; intro B w1 hB b1 f1))
 go_returns
 exact ⟨B, rfl, b1.out, f1.out⟩
end Go.Proofs.YtchfmgbjddopoaaGreatDoor.Hand
namespace Go.Proofs.YtchfmgbjddopoaaGreatDoor.Hand
open Go.RowKit Go.Proofs.YtchfmgbjddopoaaGreatDoorW.PrintWords Go.Proofs.YtchfmgbjddopoaaGreatDoorW.PrintLast Go.Proofs.YtchfmgbjddopoaaGreatDoorW.PrintMore
attribute [local go_sem ↓] Go.wp_at_zero Go.wp_at_succ
open Plain (Ky Wr Rc Ver Ent St Bytes Chs sortK)
def DC (w : World) (B : Nat) (v : Value) (ks : List Ky) : Prop := w.ownsRow B 103 16 v ks.length (ks.flatMap AZ)
theorem DC.row {w : World} {B : Nat} {v : Value} {ks : List Ky} (h : DC w B v ks) : ZK w v ks := RowK.own Ai h rfl
theorem Hl (F : Nat → Prop) (w : World) (sp mc : Nat) (cs : Chs) (cb : CB) (h : AA F w sp mc cs cb) (hn : cs.length ≤ 100000) :
   Calls Tryz.prog 54 #[.pointer (some ⟨sp, 0, none⟩)] w fun e w' => ∃ v, e = .returned v ∧ DC w' w.heap.size v (sortK (cs.map (·.1))) ∧ (v = .slice none 0 0 ↔ cs = []) ∧ Below w.heap.size w w' := by
 have c0 : w.cell? ⟨sp, 0, none⟩ = some (.map (some mc)) := Bk.cell h.s rfl
 have hS : Aa (∀ W B, Below w.heap.size w W → Bk W B #[.map (some mc)] 156 → Calls Tryz.prog 89 #[.func (.func 131) #[] #[.pointer (some ⟨B, 0, none⟩)], .func (.func 91) #[] #[]] W fun e w' => ∃ v, e = .returned v ∧ DC w' W.heap.size v (sortK (cs.map (·.1))) ∧ (v = .slice none 0 0 ↔ cs = []) ∧ Below W.heap.size W w') := ⟨fun W B hW hB => by
   refine (FZ W 131 _ (fun args w => by kernel_rfl) _ _ (by simpa [BA] using hn) (fun ks hk => ?_) (Tq W B mc (BA cs cb) hB (h.m.below hW))).mono ?_
   · have := hk.length_eq
     simp [BA] at this
     omega
   · rintro e w' ⟨v, ks, rfl, hp, ho, hnil, f⟩
     have e2 : ks = [] ↔ cs = [] := by
       have := hp.length_eq
       simp [BA] at this
       rw [← List.length_eq_zero_iff, ← List.length_eq_zero_iff, this]
     have e1 : (BA cs cb).map (·.1) = cs.map (·.1) := by simp [BA]
     rw [e1] at hp
     refine ⟨v, rfl, ?_, hnil.trans e2, f⟩
     unfold DC
     rw [← Plain.D7 hp, Ci]
     exact ho⟩
 clear h hn
 go_enter Tryz.func54, Tryz.ntmps54
 go_wp2_with (first
   | (go_at_call 90; refine (Qa _ mc).mono ?_; rintro e w1 ⟨B, rfl, bB, f1⟩; have hT := hS.out w1 B f1 bB; replace f1 := Aa.mk f1; clear bB)
   | (go_at_call 89; refine hT.mono ?_; clear hT; rintro e w2 ⟨v, rfl, ho, hnil, f2⟩; replace hnil := Aa.mk hnil; replace ho := Aa.mk ho; replace f2 := Aa.mk f2))
 go_returns
 exact ⟨v, rfl, AV ho.out f1.out.size, hnil.out, f1.out.trans (f2.out.mono f1.out.size)⟩
theorem VE (F : Nat → Prop) (w : World) (tp ml mh : Nat) (tab : List (Int × Ent)) (held : List (Ky × Int)) (ev : Int → Value) (h : TabAt F w tp ml mh tab held ev) (hn : held.length ≤ 100000) :
   Calls Tryz.prog 175 #[.pointer (some ⟨tp, 0, none⟩)] w fun e w' => ∃ v, e = .returned v ∧ DC w' w.heap.size v (sortK (held.map (·.1))) ∧ (v = .slice none 0 0 ↔ held = []) ∧ Below w.heap.size w w' := by
 have c0 : w.cell? ⟨tp, 1, none⟩ = some (.map (some mh)) := Bk.cell h.t rfl
 have hS : Aa (∀ W B, Below w.heap.size w W → Bk W B #[.map (some mh)] 160 → Calls Tryz.prog 89 #[.func (.func 273) #[] #[.pointer (some ⟨B, 0, none⟩)], .func (.func 91) #[] #[]] W fun e w' => ∃ v, e = .returned v ∧ DC w' W.heap.size v (sortK (held.map (·.1))) ∧ (v = .slice none 0 0 ↔ held = []) ∧ Below W.heap.size W w') := ⟨fun W B hW hB => by
   refine (FZ W 273 _ (fun args w => by kernel_rfl) _ _ (by simpa [ER] using hn) (fun ks hk => ?_) (Tn W B mh (ER held) hB (h.h.below hW))).mono ?_
   · have := hk.length_eq
     simp [ER] at this
     omega
   · rintro e w' ⟨v, ks, rfl, hp, ho, hnil, f⟩
     have e2 : ks = [] ↔ held = [] := by
       have := hp.length_eq
       simp [ER] at this
       rw [← List.length_eq_zero_iff, ← List.length_eq_zero_iff, this]
     have e1 : (ER held).map (·.1) = held.map (·.1) := by simp [ER]
     rw [e1] at hp
     refine ⟨v, rfl, ?_, hnil.trans e2, f⟩
     unfold DC
     rw [← Plain.D7 hp, Ci]
     exact ho⟩
 clear h hn
 go_enter Tryz.func175, Tryz.ntmps175
 go_wp2_with (first
   | (go_at_call 225; refine (Oz _ mh).mono ?_; rintro e w1 ⟨B, rfl, bB, f1⟩; have hT := hS.out w1 B f1 bB; replace f1 := Aa.mk f1; clear bB)
   | (go_at_call 89; refine hT.mono ?_; clear hT; rintro e w2 ⟨v, rfl, ho, hnil, f2⟩; replace hnil := Aa.mk hnil; replace ho := Aa.mk ho; replace f2 := Aa.mk f2))
 go_returns
 exact ⟨v, rfl, AV ho.out f1.out.size, hnil.out, f1.out.trans (f2.out.mono f1.out.size)⟩
end Go.Proofs.YtchfmgbjddopoaaGreatDoor.Hand
