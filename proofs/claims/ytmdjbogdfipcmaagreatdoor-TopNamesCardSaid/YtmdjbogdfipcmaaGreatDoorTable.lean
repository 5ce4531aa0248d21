/- leap.Parse of the script's table. -/
import Derived.Test.YtmdjbogdfipcmaaGreatDoorDates
import Derived.Test.YtmdjbogdfipcmaaGreatDoorWords
import Derived.Deep.AppendLies
import Derived.Deep.QuietTactic
import Derived.BigQuiet
import Derived.Deep.RegionLaw
import Derived.Deep.DeepCutAuto
namespace Go.Proofs.YtmdjbogdfipcmaaGreatDoor.Hand
set_option linter.unusedSimpArgs false
set_option linter.unusedVariables false
open Go.RowKit Go.Proofs.YtmdjbogdfipcmaaGreatDoorW.PrintWords Go.Proofs.YtmdjbogdfipcmaaGreatDoorW.PrintLast Go.Proofs.YtmdjbogdfipcmaaGreatDoorW.PrintMore
attribute [local go_sem ↓] Go.wp_at_zero Go.wp_at_succ

theorem join_of {A T : Prop} (h1 : Aside0 T → A) (h : T) : A := h1 ⟨h⟩
theorem full122 : (Tryz.prog.info? 122).map (fun i => (i.zero, i.size, i.bytes)) = some (some (.agg #[.int .i64 0, .int .i64 0]), 2, 16) := by kernel_rfl

/-- What the reading of a table holds: its rows, the table, the lines that were read. -/
structure LP (tx : Value) (sp T : Nat) (C : Array Value) (m : Int) (w1 : World) (v : Value) (n : Nat) (xs : List Value) (W : World) : Prop where
  rows : Bk W sp C 9
  t : Bk W T #[tx, v] 120
  own : W.ownsRow w1.heap.size 122 2 v n xs
  fr : Fr (fun k => k = T) w1 W
  hT : T < w1.heap.size
  hs : sp < w1.heap.size
  hne : sp ≠ T
  hT0 : 0 < T
  m0 : W.cell? ⟨0, 0, none⟩ = some (.int .i64 m)
section
variable {tx v v' : Value} {sp T n : Nat} {C : Array Value} {m : Int} {w1 W W' a : World} {xs ys : List Value}
theorem LP.below (h : LP tx sp T C m w1 v n xs W) (f : Below W.heap.size W W') : LP tx sp T C m w1 v n xs W' :=
  ⟨h.rows.belowS f, h.t.belowS f, own_below h.own f, h.fr.trans (Fr.of_below f), h.hT, h.hs, h.hne, h.hT0, cell0 h.m0 f⟩
theorem LP.drew (h : LP tx sp T C m w1 v n xs W) : LP tx sp T C m w1 v n xs W.drew := h.below (below_drew (Below.refl _ _))
theorem LP.drewN (h : LP tx sp T C m w1 v n xs W) (k : Nat) : LP tx sp T C m w1 v n xs (W.drewN k) := h.below (pw_below_drewN (Below.refl _ _) k)
theorem LP.alloc (h : LP tx sp T C m w1 v n xs W) (o : Obj) : LP tx sp T C m w1 v n xs (W.alloc o) := h.below (below_alloc (Below.refl _ _) o)
theorem own_off {g base e size : Nat} {v : Value} {n : Nat} {xs : List Value} {W : World} (h : W.ownsRow base e size v n xs) (hg : v.ownBlock ≠ some g) (j : Nat) (u : Value) : (W.setCell ⟨g, j, none⟩ u).ownsRow base e size v n xs := by
  refine ⟨h.1, ?_⟩
  rcases h.2 with h' | ⟨g', cap, cur, h1, h2, h3, h4⟩
  · exact .inl h'
  · exact .inr ⟨g', cap, cur, h1, h2, Ob.far h3 (fun e => hg (by rw [h1, e]; rfl)) j u, h4⟩
theorem own_fr {g base e size : Nat} {v : Value} {n : Nat} {xs : List Value} {W W' : World} (h : W.ownsRow base e size v n xs) (hg : v.ownBlock ≠ some g) (f : Fr (fun k => k = g) W W') : W'.ownsRow base e size v n xs := by
  refine ⟨h.1, ?_⟩
  rcases h.2 with h' | ⟨g', cap, cur, h1, h2, h3, h4⟩
  · exact .inl h'
  · exact .inr ⟨g', cap, cur, h1, h2, Ob.fr h3 f (fun e => hg (by rw [h1, e]; rfl)), h4⟩
theorem LP.step (h : LP tx sp T C m w1 v n xs W) (ho : W'.ownsRow w1.heap.size 122 2 v' (n + 1) ys) (hg : W.grownBy W' v.ownBlock) : LP tx sp T C m w1 v' (n + 1) ys (W'.setCell ⟨T, 1, none⟩ v') := by
  have G : Below w1.heap.size W W' := (Below.refl _ _).grown hg h.fr.size (fun k hk => (h.own.lt k hk).1)
  have q1 := h.hT
  have q2 := h.hT0
  have F : Fr (fun k => k = T) w1 W' := ⟨G.os.trans h.fr.os, G.tape.trans h.fr.tape, G.output.trans h.fr.output, Nat.le_trans h.fr.size G.size, fun k hk hn => (G.block k hk).trans (h.fr.block k hk hn)⟩
  refine ⟨(h.rows.below G h.hs).far h.hne _ _, Bk.set (h.t.below G h.hT) 1 v', own_off ho ?_ _ _, F.set T 1 v' (.inl rfl), h.hT, h.hs, h.hne, h.hT0, ?_⟩
  · intro e
    have := (ho.lt T e).1
    omega
  · rw [World.cell?_setCell_other W' ⟨T, 1, none⟩ ⟨0, 0, none⟩ v' (fun e => by injection e with e1; omega), G.cell (p := ⟨0, 0, none⟩) (show 0 < w1.heap.size by omega)]
    exact h.m0
theorem LP.newer (h0 : LP tx sp T C m w1 v n xs a) (h : LP tx sp T C m w1 v n xs W) {x : Nat} (f : Fr (fun k => k = x) W W') (hx : a.heap.size ≤ x) : LP tx sp T C m w1 v n xs W' := by
  have q1 := h0.rows.lt
  have q2 := h0.t.lt
  have q3 := h0.fr.size
  have q4 := h.fr.size
  have q5 := h.hT
  have q6 := h.hT0
  refine ⟨h.rows.fr f (by omega), h.t.fr f (by omega), own_fr h.own ?_ f, ?_, h.hT, h.hs, h.hne, h.hT0, ?_⟩
  · intro e
    have := (h0.own.lt x e).2
    omega
  · exact ⟨f.os.trans h.fr.os, f.tape.trans h.fr.tape, f.output.trans h.fr.output, Nat.le_trans h.fr.size f.size, fun k hk hn => (f.block k (by omega) (by omega)).trans (h.fr.block k hk hn)⟩
  · have f0 : Below w1.heap.size W W' := f.below (fun k hk e => by omega) q4
    rw [f0.cell (p := ⟨0, 0, none⟩) (show 0 < w1.heap.size by omega)]
    exact h.m0
theorem LP.app (h : LP tx sp T C m w1 v n xs W) {x : Nat} {R : Array Value} (hx : Bk W x R 122) (nx : v.ownBlock ≠ some x) {o : Obj} (ho : W'.ownsRow w1.heap.size 122 2 v' (n + 1) ys) (hg : (W.alloc o).drew.grownBy W' v.ownBlock) :
    LP tx sp T C m w1 v' (n + 1) ys (W'.setCell ⟨T, 1, none⟩ v') ∧ Bk W' T #[tx, v] 120 ∧ Bk W' x R 122 := by
  have h1 := (h.alloc o).drew
  have x1 : Bk (W.alloc o).drew x R 122 := (hx.alloc o).drew
  have G : Below w1.heap.size (W.alloc o).drew W' := (Below.refl _ _).grown hg h1.fr.size (fun k hk => (h1.own.lt k hk).1)
  exact ⟨h1.step ho hg, h1.t.below G h1.hT, (hg.block x x1.lt (fun e => nx e.symm)).trans x1⟩
theorem own_cell {base e size : Nat} {g c n : Nat} {xs : List Value} {W : World} (h : W.ownsRow base e size (.slice (some ⟨g, 0, none⟩) n c) n xs) {i : Nat} {u : Value} (hu : xs[i]? = some u) : W.cell? ⟨g, i, none⟩ = some u := by
  have := h.cells (g := g) rfl i u hu
  rwa [Addr.add_mid, Nat.zero_add] at this
theorem lp_keep (hT : Bk W T #[tx, v] 120) {x : Nat} {p q : Value} (hx : Bk W x #[p, q] 122) :
    W.cell? ⟨T, 1, none⟩ = some v ∧ W.frozen? ⟨T, 1, none⟩ = false ∧ W.cell? ⟨x, 0, none⟩ = some p ∧ W.cell? ⟨x, 1, none⟩ = some q ∧ Bk W T #[tx, v] 120 ∧ Bk W x #[p, q] 122 :=
  ⟨hT.cell rfl, hT.free 1, hx.cell rfl, hx.cell rfl, hT, hx⟩
theorem lp_keep2 {g k n : Nat} (h : LP tx sp T C m w1 (.slice (some ⟨g, 0, none⟩) n k) n xs W) {i j : Nat} {y z : Value} (hi : xs[i]? = some y) (hj : xs[j]? = some z) {x : Nat} {p q : Value} (hx : Bk W x #[p, q] 122) :
    W.cell? ⟨T, 1, none⟩ = some (.slice (some ⟨g, 0, none⟩) n k) ∧ W.cell? ⟨g, i, none⟩ = some y ∧ W.cell? ⟨g, j, none⟩ = some z ∧ W.cell? ⟨x, 0, none⟩ = some p ∧ W.cell? ⟨x, 1, none⟩ = some q ∧ LP tx sp T C m w1 (.slice (some ⟨g, 0, none⟩) n k) n xs W ∧ Bk W x #[p, q] 122 :=
  ⟨h.t.cell rfl, own_cell h.own hi, own_cell h.own hj, hx.cell rfl, hx.cell rfl, h, hx⟩
end
theorem two_int (p q : Int) : ∀ u ∈ [Value.int .i64 p, .int .i64 q], u.oneCell' = true := fun u hu => by
  simp at hu
  rcases hu with rfl | rfl <;> rfl

theorem fol_1 : Pfollows.leap_follows.f 730 10 912 11 = some true := by decide +kernel
theorem fol_2 : Pfollows.leap_follows.f 912 11 1096 12 = some true := by decide +kernel
theorem fol_3 : Pfollows.leap_follows.f 1096 12 1461 13 = some true := by decide +kernel
theorem fol_4 : Pfollows.leap_follows.f 1461 13 1826 12 = some true := by decide +kernel

set_option maxHeartbeats 6400000 in
set_option maxRecDepth 100000 in
theorem parse_table (w : World) (tx : ByteArray) (m : Int) (hm : w.cell? ⟨0, 0, none⟩ = some (.int .i64 m))
    (hsp : Calls Tryz.prog 6 #[.string tx, .string ⟨#[10]⟩] w fun e w' => e = .returned (.slice (some ⟨w.heap.size, 0, none⟩) 6 6) ∧ w' = w.alloc (.cells #[.string ⟨#[49, 57, 55, 50, 45, 48, 49, 45, 48, 49, 32, 49, 48]⟩, .string ⟨#[49, 57, 55, 50, 45, 48, 55, 45, 48, 49, 32, 49, 49]⟩, .string ⟨#[49, 57, 55, 51, 45, 48, 49, 45, 48, 49, 32, 49, 50]⟩, .string ⟨#[49, 57, 55, 52, 45, 48, 49, 45, 48, 49, 32, 49, 51]⟩, .string ⟨#[49, 57, 55, 53, 45, 48, 49, 45, 48, 49, 32, 49, 50]⟩, .string ⟨#[]⟩] 9)) :
    Calls Tryz.prog 30 #[.string tx] w fun e w' => ∃ p, e = .returned (.tuple #[.pointer (some ⟨p, 0, none⟩), .int .i64 0]) ∧ Below w.heap.size w w' := by
  obtain ⟨i0, hi, hz0, hz1, hz2⟩ := info_parts full122
  replace hi := Aside0.mk hi
  replace hz0 := Aside0.mk hz0
  replace hz1 := Aside0.mk hz1
  replace hz2 := Aside0.mk hz2
  replace hm := Aside0.mk hm
  have hw0 : Aside0 (0 < w.heap.size) := ⟨by
    rcases Nat.eq_zero_or_pos w.heap.size with h | h
    · have h1 : w.heap[0]? = none := Array.getElem?_eq_none (by omega)
      have h2 := hm.out
      unfold World.cell? at h2
      rw [h1] at h2
      cases h2
    · exact h⟩
  have hsq : Calls Tryz.prog 6 #[.string tx, .string ⟨#[10]⟩] w fun e w' => ∃ sp, e = .returned (.slice (some ⟨sp, 0, none⟩) 6 6) ∧ w.heap.size ≤ sp ∧ Bk w' sp #[.string ⟨#[49, 57, 55, 50, 45, 48, 49, 45, 48, 49, 32, 49, 48]⟩, .string ⟨#[49, 57, 55, 50, 45, 48, 55, 45, 48, 49, 32, 49, 49]⟩, .string ⟨#[49, 57, 55, 51, 45, 48, 49, 45, 48, 49, 32, 49, 50]⟩, .string ⟨#[49, 57, 55, 52, 45, 48, 49, 45, 48, 49, 32, 49, 51]⟩, .string ⟨#[49, 57, 55, 53, 45, 48, 49, 45, 48, 49, 32, 49, 50]⟩, .string ⟨#[]⟩] 9 ∧ Below w.heap.size w w' :=
    hsp.mono fun e w' h => ⟨w.heap.size, h.1, Nat.le_refl _, h.2 ▸ Ob.new w _, h.2 ▸ below_alloc (Below.refl _ _) _⟩
  clear hsp
  go_enter Tryz.func30, Tryz.ntmps30
  go_wp2_with (first
    | (go_at_call 6; refine hsq.mono ?_; clear hsq; rintro e w0 ⟨sp, rfl, hq0, bS, fS⟩; replace hq0 := Aside0.mk hq0; replace bS := Aside0.mk bS; replace fS := Aside0.mk fS; have hm0 := Aside0.mk (cell0 hm.out fS.out); have hl := Aside0.mk bS.out.lt; have c5 : w0.cell? ⟨sp, 5, none⟩ = some (.string ⟨#[]⟩) := Bk.cell bS.out rfl)
    | ((with_reducible refine gate_dst (N := 40) rfl ?_); refine ev_ptr (N := 40) (C := #[.string tx, .slice none 0 0]) rfl rfl (by first | (go_simp; done) | (go_simp; rfl)) ?_; intro T u0 hT bT fT; clear c5))
  have h0 : Aside0 (LP (.string tx) sp T #[.string ⟨#[49, 57, 55, 50, 45, 48, 49, 45, 48, 49, 32, 49, 48]⟩, .string ⟨#[49, 57, 55, 50, 45, 48, 55, 45, 48, 49, 32, 49, 49]⟩, .string ⟨#[49, 57, 55, 51, 45, 48, 49, 45, 48, 49, 32, 49, 50]⟩, .string ⟨#[49, 57, 55, 52, 45, 48, 49, 45, 48, 49, 32, 49, 51]⟩, .string ⟨#[49, 57, 55, 53, 45, 48, 49, 45, 48, 49, 32, 49, 50]⟩, .string ⟨#[]⟩] m u0 (.slice none 0 0) 0 [] u0) := ⟨⟨bS.out.belowS fT.out, bT.out, World.ownsRow_nil _ _ _ _, Fr.refl _ _, bT.out.lt, Nat.lt_of_lt_of_le bS.out.lt fT.out.size, Nat.ne_of_lt (Nat.lt_of_lt_of_le hl.out hT.out), Nat.lt_of_lt_of_le hw0.out (Nat.le_trans fS.out.size hT.out), cell0 hm0.out fT.out⟩⟩
  refine wp_loop_rounds 6 ?_
  have c0 : u0.cell? ⟨sp, 0, none⟩ = some (.string ⟨#[49, 57, 55, 50, 45, 48, 49, 45, 48, 49, 32, 49, 48]⟩) := Bk.cell h0.out.rows rfl
  rw [rounds_succ]
  go_wp2_with (first
    | (go_at_call 63; refine (read_1972_1_1 _ m h0.out.m0).mono ?_; rintro e a0 ⟨rfl, fa0⟩; have ha0 := Aside0.mk (h0.out.below fa0); clear fa0 c0)
    | ((with_reducible refine gate_dst (N := 10) rfl ?_); refine ev_ptr (N := 10) (C := #[.int .i64 0, .int .i64 0]) rfl rfl (by first | (go_simp; done) | (go_simp; rfl)) ?_; intro x0 b0 hx0 bx0 fb0; have hb0 := Aside0.mk (ha0.out.below fb0.out))
    | ((with_reducible refine gate_store (t := 122) (p := 10) (v := .tmp 52) rfl ?_); refine ev_store rfl (ty := 122) (x := .tmp 10) (y := .tmp 52) (cells := #[.int .i64 730, .int .i64 10]) rfl rfl rfl bx0.out info122 (by kernel_rfl) (by decide) #[.int .i64 730, .int .i64 10] rfl ?_; intro d0 by0 fd0; have hd0 := Aside0.mk (LP.newer ha0.out hb0.out fd0.out hx0.out); have nx0 : Aside0 (Value.ownBlock (.slice none 0 0) ≠ some x0) := ⟨fun e => by have := (ha0.out.own.lt _ e).2; have := hx0.out; omega⟩))
  have k0 : d0.cell? ⟨T, 1, none⟩ = some (.slice none 0 0) := Bk.cell hd0.out.t rfl
  go_quiet ((fail))
  have he0 := Aside0.mk (hd0.out.drewN nq)
  have be0 := Aside0.mk (by0.out.drewN nq)
  clear k0
  generalize d0.drewN nq = e0 at he0 be0 ⊢
  go_wp2_with fail
  apply join_of
  · intro hT
    have q0 := Bk.cell he0.out.t (j := 1) (v := (.slice none 0 0)) rfl
    have q1 := Bk.cell (he0.out.alloc (.cells #[.int .i64 730, .int .i64 10] 122)).t (j := 1) (v := (.slice none 0 0)) rfl
    have q2 := Bk.cell be0.out (j := 0) rfl
    have q3 := Bk.cell be0.out (j := 1) rfl
    go_region_law
      ((refine step_append_lies _ (by rfl) (.tmp 85) (.tmp 87) 118 (by rfl) u0.heap.size 122 i0 _ 2 16 Tryz.underlying118 hi.out hz0.out hz1.out hz2.out rfl (by decide) (.slice none 0 0) 0 [] (by rfl) (he0.out.alloc (.cells #[.int .i64 730, .int .i64 10] 122)).drew.own ⟨e0.heap.size, 0, none⟩ 1 1 [.int .i64 730, .int .i64 10] (by rfl) rfl (World.news_of_block (show ((e0.alloc (.cells #[.int .i64 730, .int .i64 10] 122)).drew).heap[e0.heap.size]? = some (.cells #[.int .i64 730, .int .i64 10] 122 (0, 0)) from heap_alloc_new e0 _)) (two_int _ _) (by decide) (by simp [maxLen]) (by simp) (he0.out.alloc (.cells #[.int .i64 730, .int .i64 10] 122)).drew.fr.size _ rfl ?_
        intro g1 k1 p0 ho hg hat hlt
        obtain ⟨h1, t0, y0⟩ := LP.app he0.out be0.out nx0.out ho hg
        replace h1 := Aside0.mk h1
        replace t0 := Aside0.mk t0
        clear y0
        clear ho hg hat hlt
        have q4 := t0.out.free 1
        have q5 : p0.cell? ⟨T, 1, none⟩ = some (.slice none 0 0) := Bk.cell t0.out rfl))
    all_goals
      clear q0 q1 q2 q3 q4 q5 t0
      generalize p0.setCell ⟨T, 1, none⟩ (.slice (some ⟨g1, 0, none⟩) 1 k1) = u1 at h1 ⊢
      revert g1 k1 u1
      exact hT.out
  intro g1 k1 u1 h1
  clear he0 be0 hd0
  go_wp2_with fail
  have c1 : u1.cell? ⟨sp, 1, none⟩ = some (.string ⟨#[49, 57, 55, 50, 45, 48, 55, 45, 48, 49, 32, 49, 49]⟩) := Bk.cell h1.out.rows rfl
  rw [rounds_succ]
  go_wp2_with (first
    | (go_at_call 63; refine (read_1972_7_1 _ m h1.out.m0).mono ?_; rintro e a1 ⟨rfl, fa1⟩; have ha1 := Aside0.mk (h1.out.below fa1); clear fa1 c1)
    | ((with_reducible refine gate_dst (N := 10) rfl ?_); refine ev_ptr (N := 10) (C := #[.int .i64 0, .int .i64 0]) rfl rfl (by first | (go_simp; done) | (go_simp; rfl)) ?_; intro x1 b1 hx1 bx1 fb1; have hb1 := Aside0.mk (ha1.out.below fb1.out))
    | ((with_reducible refine gate_store (t := 122) (p := 10) (v := .tmp 52) rfl ?_); refine ev_store rfl (ty := 122) (x := .tmp 10) (y := .tmp 52) (cells := #[.int .i64 912, .int .i64 11]) rfl rfl rfl bx1.out info122 (by kernel_rfl) (by decide) #[.int .i64 912, .int .i64 11] rfl ?_; intro d1 by1 fd1; have hd1 := Aside0.mk (LP.newer ha1.out hb1.out fd1.out hx1.out); have nx1 : Aside0 (Value.ownBlock (.slice (some ⟨g1, 0, none⟩) 1 k1) ≠ some x1) := ⟨fun e => by have := (ha1.out.own.lt _ e).2; have := hx1.out; omega⟩))
  refine wp_region_noPanic ?_
  go_region_held_law (fun w' => w'.cell? ⟨T, 1, none⟩ = some (.slice (some ⟨g1, 0, none⟩) 1 k1) ∧ w'.cell? ⟨g1, 0, none⟩ = some (.int .i64 730) ∧ w'.cell? ⟨g1, 1, none⟩ = some (.int .i64 10) ∧ w'.cell? ⟨x1, 0, none⟩ = some (.int .i64 912) ∧ w'.cell? ⟨x1, 1, none⟩ = some (.int .i64 11) ∧ LP (.string tx) sp T #[.string ⟨#[49, 57, 55, 50, 45, 48, 49, 45, 48, 49, 32, 49, 48]⟩, .string ⟨#[49, 57, 55, 50, 45, 48, 55, 45, 48, 49, 32, 49, 49]⟩, .string ⟨#[49, 57, 55, 51, 45, 48, 49, 45, 48, 49, 32, 49, 50]⟩, .string ⟨#[49, 57, 55, 52, 45, 48, 49, 45, 48, 49, 32, 49, 51]⟩, .string ⟨#[49, 57, 55, 53, 45, 48, 49, 45, 48, 49, 32, 49, 50]⟩, .string ⟨#[]⟩] m u0 (.slice (some ⟨g1, 0, none⟩) 1 k1) 1 [.int .i64 730, .int .i64 10] w' ∧ Bk w' x1 #[.int .i64 912, .int .i64 11] 122)
    ((first | exact lp_keep2 hd1.out.drew rfl rfl by1.out.drew | exact lp_keep2 (Aside0.out he1) rfl rfl (Aside0.out be1)))
    ((go_at_call 64; refine (Pfollows.leap_follows.calls 730 10 912 11 true _ fol_1).mono ?_; rintro e e1 ⟨rfl, fe1⟩; have he1 := Aside0.mk (hd1.out.drew.below fe1); have be1 := Aside0.mk (Ob.belowS by1.out.drew fe1); clear fe1))
  refine NoPanic.normal ?_
  go_split_ands
  go_wp2_with fail
  apply join_of
  · intro hT
    have q0 := Bk.cell he1.out.t (j := 1) (v := (.slice (some ⟨g1, 0, none⟩) 1 k1)) rfl
    have q1 := Bk.cell (he1.out.alloc (.cells #[.int .i64 912, .int .i64 11] 122)).t (j := 1) (v := (.slice (some ⟨g1, 0, none⟩) 1 k1)) rfl
    have q2 := Bk.cell be1.out (j := 0) rfl
    have q3 := Bk.cell be1.out (j := 1) rfl
    go_region_law
      ((refine step_append_lies _ (by rfl) (.tmp 85) (.tmp 87) 118 (by rfl) u0.heap.size 122 i0 _ 2 16 Tryz.underlying118 hi.out hz0.out hz1.out hz2.out rfl (by decide) (.slice (some ⟨g1, 0, none⟩) 1 k1) 1 [.int .i64 730, .int .i64 10] (by rfl) (he1.out.alloc (.cells #[.int .i64 912, .int .i64 11] 122)).drew.own ⟨e1.heap.size, 0, none⟩ 1 1 [.int .i64 912, .int .i64 11] (by rfl) rfl (World.news_of_block (show ((e1.alloc (.cells #[.int .i64 912, .int .i64 11] 122)).drew).heap[e1.heap.size]? = some (.cells #[.int .i64 912, .int .i64 11] 122 (0, 0)) from heap_alloc_new e1 _)) (two_int _ _) (by decide) (by simp [maxLen]) (by simp) (he1.out.alloc (.cells #[.int .i64 912, .int .i64 11] 122)).drew.fr.size _ rfl ?_
        intro g2 k2 p1 ho hg hat hlt
        obtain ⟨h2, t1, y1⟩ := LP.app he1.out be1.out nx1.out ho hg
        replace h2 := Aside0.mk h2
        replace t1 := Aside0.mk t1
        clear y1
        clear ho hg hat hlt
        have q4 := t1.out.free 1
        have q5 : p1.cell? ⟨T, 1, none⟩ = some (.slice (some ⟨g1, 0, none⟩) 1 k1) := Bk.cell t1.out rfl))
    all_goals
      clear q0 q1 q2 q3 q4 q5 t1
      generalize p1.setCell ⟨T, 1, none⟩ (.slice (some ⟨g2, 0, none⟩) 2 k2) = u2 at h2 ⊢
      revert g2 k2 u2
      exact hT.out
  intro g2 k2 u2 h2
  clear he1 be1 hd1
  go_wp2_with fail
  have c2 : u2.cell? ⟨sp, 2, none⟩ = some (.string ⟨#[49, 57, 55, 51, 45, 48, 49, 45, 48, 49, 32, 49, 50]⟩) := Bk.cell h2.out.rows rfl
  rw [rounds_succ]
  go_wp2_with (first
    | (go_at_call 63; refine (read_1973_1_1 _ m h2.out.m0).mono ?_; rintro e a2 ⟨rfl, fa2⟩; have ha2 := Aside0.mk (h2.out.below fa2); clear fa2 c2)
    | ((with_reducible refine gate_dst (N := 10) rfl ?_); refine ev_ptr (N := 10) (C := #[.int .i64 0, .int .i64 0]) rfl rfl (by first | (go_simp; done) | (go_simp; rfl)) ?_; intro x2 b2 hx2 bx2 fb2; have hb2 := Aside0.mk (ha2.out.below fb2.out))
    | ((with_reducible refine gate_store (t := 122) (p := 10) (v := .tmp 52) rfl ?_); refine ev_store rfl (ty := 122) (x := .tmp 10) (y := .tmp 52) (cells := #[.int .i64 1096, .int .i64 12]) rfl rfl rfl bx2.out info122 (by kernel_rfl) (by decide) #[.int .i64 1096, .int .i64 12] rfl ?_; intro d2 by2 fd2; have hd2 := Aside0.mk (LP.newer ha2.out hb2.out fd2.out hx2.out); have nx2 : Aside0 (Value.ownBlock (.slice (some ⟨g2, 0, none⟩) 2 k2) ≠ some x2) := ⟨fun e => by have := (ha2.out.own.lt _ e).2; have := hx2.out; omega⟩))
  refine wp_region_noPanic ?_
  go_region_held_law (fun w' => w'.cell? ⟨T, 1, none⟩ = some (.slice (some ⟨g2, 0, none⟩) 2 k2) ∧ w'.cell? ⟨g2, 2, none⟩ = some (.int .i64 912) ∧ w'.cell? ⟨g2, 3, none⟩ = some (.int .i64 11) ∧ w'.cell? ⟨x2, 0, none⟩ = some (.int .i64 1096) ∧ w'.cell? ⟨x2, 1, none⟩ = some (.int .i64 12) ∧ LP (.string tx) sp T #[.string ⟨#[49, 57, 55, 50, 45, 48, 49, 45, 48, 49, 32, 49, 48]⟩, .string ⟨#[49, 57, 55, 50, 45, 48, 55, 45, 48, 49, 32, 49, 49]⟩, .string ⟨#[49, 57, 55, 51, 45, 48, 49, 45, 48, 49, 32, 49, 50]⟩, .string ⟨#[49, 57, 55, 52, 45, 48, 49, 45, 48, 49, 32, 49, 51]⟩, .string ⟨#[49, 57, 55, 53, 45, 48, 49, 45, 48, 49, 32, 49, 50]⟩, .string ⟨#[]⟩] m u0 (.slice (some ⟨g2, 0, none⟩) 2 k2) 2 [.int .i64 730, .int .i64 10, .int .i64 912, .int .i64 11] w' ∧ Bk w' x2 #[.int .i64 1096, .int .i64 12] 122)
    ((first | exact lp_keep2 hd2.out.drew rfl rfl by2.out.drew | exact lp_keep2 (Aside0.out he2) rfl rfl (Aside0.out be2)))
    ((go_at_call 64; refine (Pfollows.leap_follows.calls 912 11 1096 12 true _ fol_2).mono ?_; rintro e e2 ⟨rfl, fe2⟩; have he2 := Aside0.mk (hd2.out.drew.below fe2); have be2 := Aside0.mk (Ob.belowS by2.out.drew fe2); clear fe2))
  refine NoPanic.normal ?_
  go_split_ands
  go_wp2_with fail
  apply join_of
  · intro hT
    have q0 := Bk.cell he2.out.t (j := 1) (v := (.slice (some ⟨g2, 0, none⟩) 2 k2)) rfl
    have q1 := Bk.cell (he2.out.alloc (.cells #[.int .i64 1096, .int .i64 12] 122)).t (j := 1) (v := (.slice (some ⟨g2, 0, none⟩) 2 k2)) rfl
    have q2 := Bk.cell be2.out (j := 0) rfl
    have q3 := Bk.cell be2.out (j := 1) rfl
    go_region_law
      ((refine step_append_lies _ (by rfl) (.tmp 85) (.tmp 87) 118 (by rfl) u0.heap.size 122 i0 _ 2 16 Tryz.underlying118 hi.out hz0.out hz1.out hz2.out rfl (by decide) (.slice (some ⟨g2, 0, none⟩) 2 k2) 2 [.int .i64 730, .int .i64 10, .int .i64 912, .int .i64 11] (by rfl) (he2.out.alloc (.cells #[.int .i64 1096, .int .i64 12] 122)).drew.own ⟨e2.heap.size, 0, none⟩ 1 1 [.int .i64 1096, .int .i64 12] (by rfl) rfl (World.news_of_block (show ((e2.alloc (.cells #[.int .i64 1096, .int .i64 12] 122)).drew).heap[e2.heap.size]? = some (.cells #[.int .i64 1096, .int .i64 12] 122 (0, 0)) from heap_alloc_new e2 _)) (two_int _ _) (by decide) (by simp [maxLen]) (by simp) (he2.out.alloc (.cells #[.int .i64 1096, .int .i64 12] 122)).drew.fr.size _ rfl ?_
        intro g3 k3 p2 ho hg hat hlt
        obtain ⟨h3, t2, y2⟩ := LP.app he2.out be2.out nx2.out ho hg
        replace h3 := Aside0.mk h3
        replace t2 := Aside0.mk t2
        clear y2
        clear ho hg hat hlt
        have q4 := t2.out.free 1
        have q5 : p2.cell? ⟨T, 1, none⟩ = some (.slice (some ⟨g2, 0, none⟩) 2 k2) := Bk.cell t2.out rfl))
    all_goals
      clear q0 q1 q2 q3 q4 q5 t2
      generalize p2.setCell ⟨T, 1, none⟩ (.slice (some ⟨g3, 0, none⟩) 3 k3) = u3 at h3 ⊢
      revert g3 k3 u3
      exact hT.out
  intro g3 k3 u3 h3
  clear he2 be2 hd2
  go_wp2_with fail
  have c3 : u3.cell? ⟨sp, 3, none⟩ = some (.string ⟨#[49, 57, 55, 52, 45, 48, 49, 45, 48, 49, 32, 49, 51]⟩) := Bk.cell h3.out.rows rfl
  rw [rounds_succ]
  go_wp2_with (first
    | (go_at_call 63; refine (read_1974_1_1 _ m h3.out.m0).mono ?_; rintro e a3 ⟨rfl, fa3⟩; have ha3 := Aside0.mk (h3.out.below fa3); clear fa3 c3)
    | ((with_reducible refine gate_dst (N := 10) rfl ?_); refine ev_ptr (N := 10) (C := #[.int .i64 0, .int .i64 0]) rfl rfl (by first | (go_simp; done) | (go_simp; rfl)) ?_; intro x3 b3 hx3 bx3 fb3; have hb3 := Aside0.mk (ha3.out.below fb3.out))
    | ((with_reducible refine gate_store (t := 122) (p := 10) (v := .tmp 52) rfl ?_); refine ev_store rfl (ty := 122) (x := .tmp 10) (y := .tmp 52) (cells := #[.int .i64 1461, .int .i64 13]) rfl rfl rfl bx3.out info122 (by kernel_rfl) (by decide) #[.int .i64 1461, .int .i64 13] rfl ?_; intro d3 by3 fd3; have hd3 := Aside0.mk (LP.newer ha3.out hb3.out fd3.out hx3.out); have nx3 : Aside0 (Value.ownBlock (.slice (some ⟨g3, 0, none⟩) 3 k3) ≠ some x3) := ⟨fun e => by have := (ha3.out.own.lt _ e).2; have := hx3.out; omega⟩))
  refine wp_region_noPanic ?_
  go_region_held_law (fun w' => w'.cell? ⟨T, 1, none⟩ = some (.slice (some ⟨g3, 0, none⟩) 3 k3) ∧ w'.cell? ⟨g3, 4, none⟩ = some (.int .i64 1096) ∧ w'.cell? ⟨g3, 5, none⟩ = some (.int .i64 12) ∧ w'.cell? ⟨x3, 0, none⟩ = some (.int .i64 1461) ∧ w'.cell? ⟨x3, 1, none⟩ = some (.int .i64 13) ∧ LP (.string tx) sp T #[.string ⟨#[49, 57, 55, 50, 45, 48, 49, 45, 48, 49, 32, 49, 48]⟩, .string ⟨#[49, 57, 55, 50, 45, 48, 55, 45, 48, 49, 32, 49, 49]⟩, .string ⟨#[49, 57, 55, 51, 45, 48, 49, 45, 48, 49, 32, 49, 50]⟩, .string ⟨#[49, 57, 55, 52, 45, 48, 49, 45, 48, 49, 32, 49, 51]⟩, .string ⟨#[49, 57, 55, 53, 45, 48, 49, 45, 48, 49, 32, 49, 50]⟩, .string ⟨#[]⟩] m u0 (.slice (some ⟨g3, 0, none⟩) 3 k3) 3 [.int .i64 730, .int .i64 10, .int .i64 912, .int .i64 11, .int .i64 1096, .int .i64 12] w' ∧ Bk w' x3 #[.int .i64 1461, .int .i64 13] 122)
    ((first | exact lp_keep2 hd3.out.drew rfl rfl by3.out.drew | exact lp_keep2 (Aside0.out he3) rfl rfl (Aside0.out be3)))
    ((go_at_call 64; refine (Pfollows.leap_follows.calls 1096 12 1461 13 true _ fol_3).mono ?_; rintro e e3 ⟨rfl, fe3⟩; have he3 := Aside0.mk (hd3.out.drew.below fe3); have be3 := Aside0.mk (Ob.belowS by3.out.drew fe3); clear fe3))
  refine NoPanic.normal ?_
  go_split_ands
  go_wp2_with fail
  apply join_of
  · intro hT
    have q0 := Bk.cell he3.out.t (j := 1) (v := (.slice (some ⟨g3, 0, none⟩) 3 k3)) rfl
    have q1 := Bk.cell (he3.out.alloc (.cells #[.int .i64 1461, .int .i64 13] 122)).t (j := 1) (v := (.slice (some ⟨g3, 0, none⟩) 3 k3)) rfl
    have q2 := Bk.cell be3.out (j := 0) rfl
    have q3 := Bk.cell be3.out (j := 1) rfl
    go_region_law
      ((refine step_append_lies _ (by rfl) (.tmp 85) (.tmp 87) 118 (by rfl) u0.heap.size 122 i0 _ 2 16 Tryz.underlying118 hi.out hz0.out hz1.out hz2.out rfl (by decide) (.slice (some ⟨g3, 0, none⟩) 3 k3) 3 [.int .i64 730, .int .i64 10, .int .i64 912, .int .i64 11, .int .i64 1096, .int .i64 12] (by rfl) (he3.out.alloc (.cells #[.int .i64 1461, .int .i64 13] 122)).drew.own ⟨e3.heap.size, 0, none⟩ 1 1 [.int .i64 1461, .int .i64 13] (by rfl) rfl (World.news_of_block (show ((e3.alloc (.cells #[.int .i64 1461, .int .i64 13] 122)).drew).heap[e3.heap.size]? = some (.cells #[.int .i64 1461, .int .i64 13] 122 (0, 0)) from heap_alloc_new e3 _)) (two_int _ _) (by decide) (by simp [maxLen]) (by simp) (he3.out.alloc (.cells #[.int .i64 1461, .int .i64 13] 122)).drew.fr.size _ rfl ?_
        intro g4 k4 p3 ho hg hat hlt
        obtain ⟨h4, t3, y3⟩ := LP.app he3.out be3.out nx3.out ho hg
        replace h4 := Aside0.mk h4
        replace t3 := Aside0.mk t3
        clear y3
        clear ho hg hat hlt
        have q4 := t3.out.free 1
        have q5 : p3.cell? ⟨T, 1, none⟩ = some (.slice (some ⟨g3, 0, none⟩) 3 k3) := Bk.cell t3.out rfl))
    all_goals
      clear q0 q1 q2 q3 q4 q5 t3
      generalize p3.setCell ⟨T, 1, none⟩ (.slice (some ⟨g4, 0, none⟩) 4 k4) = u4 at h4 ⊢
      revert g4 k4 u4
      exact hT.out
  intro g4 k4 u4 h4
  clear he3 be3 hd3
  go_wp2_with fail
  have c4 : u4.cell? ⟨sp, 4, none⟩ = some (.string ⟨#[49, 57, 55, 53, 45, 48, 49, 45, 48, 49, 32, 49, 50]⟩) := Bk.cell h4.out.rows rfl
  rw [rounds_succ]
  go_wp2_with (first
    | (go_at_call 63; refine (read_1975_1_1 _ m h4.out.m0).mono ?_; rintro e a4 ⟨rfl, fa4⟩; have ha4 := Aside0.mk (h4.out.below fa4); clear fa4 c4)
    | ((with_reducible refine gate_dst (N := 10) rfl ?_); refine ev_ptr (N := 10) (C := #[.int .i64 0, .int .i64 0]) rfl rfl (by first | (go_simp; done) | (go_simp; rfl)) ?_; intro x4 b4 hx4 bx4 fb4; have hb4 := Aside0.mk (ha4.out.below fb4.out))
    | ((with_reducible refine gate_store (t := 122) (p := 10) (v := .tmp 52) rfl ?_); refine ev_store rfl (ty := 122) (x := .tmp 10) (y := .tmp 52) (cells := #[.int .i64 1826, .int .i64 12]) rfl rfl rfl bx4.out info122 (by kernel_rfl) (by decide) #[.int .i64 1826, .int .i64 12] rfl ?_; intro d4 by4 fd4; have hd4 := Aside0.mk (LP.newer ha4.out hb4.out fd4.out hx4.out); have nx4 : Aside0 (Value.ownBlock (.slice (some ⟨g4, 0, none⟩) 4 k4) ≠ some x4) := ⟨fun e => by have := (ha4.out.own.lt _ e).2; have := hx4.out; omega⟩))
  refine wp_region_noPanic ?_
  go_region_held_law (fun w' => w'.cell? ⟨T, 1, none⟩ = some (.slice (some ⟨g4, 0, none⟩) 4 k4) ∧ w'.cell? ⟨g4, 6, none⟩ = some (.int .i64 1461) ∧ w'.cell? ⟨g4, 7, none⟩ = some (.int .i64 13) ∧ w'.cell? ⟨x4, 0, none⟩ = some (.int .i64 1826) ∧ w'.cell? ⟨x4, 1, none⟩ = some (.int .i64 12) ∧ LP (.string tx) sp T #[.string ⟨#[49, 57, 55, 50, 45, 48, 49, 45, 48, 49, 32, 49, 48]⟩, .string ⟨#[49, 57, 55, 50, 45, 48, 55, 45, 48, 49, 32, 49, 49]⟩, .string ⟨#[49, 57, 55, 51, 45, 48, 49, 45, 48, 49, 32, 49, 50]⟩, .string ⟨#[49, 57, 55, 52, 45, 48, 49, 45, 48, 49, 32, 49, 51]⟩, .string ⟨#[49, 57, 55, 53, 45, 48, 49, 45, 48, 49, 32, 49, 50]⟩, .string ⟨#[]⟩] m u0 (.slice (some ⟨g4, 0, none⟩) 4 k4) 4 [.int .i64 730, .int .i64 10, .int .i64 912, .int .i64 11, .int .i64 1096, .int .i64 12, .int .i64 1461, .int .i64 13] w' ∧ Bk w' x4 #[.int .i64 1826, .int .i64 12] 122)
    ((first | exact lp_keep2 hd4.out.drew rfl rfl by4.out.drew | exact lp_keep2 (Aside0.out he4) rfl rfl (Aside0.out be4)))
    ((go_at_call 64; refine (Pfollows.leap_follows.calls 1461 13 1826 12 true _ fol_4).mono ?_; rintro e e4 ⟨rfl, fe4⟩; have he4 := Aside0.mk (hd4.out.drew.below fe4); have be4 := Aside0.mk (Ob.belowS by4.out.drew fe4); clear fe4))
  refine NoPanic.normal ?_
  go_split_ands
  go_wp2_with fail
  apply join_of
  · intro hT
    have q0 := Bk.cell he4.out.t (j := 1) (v := (.slice (some ⟨g4, 0, none⟩) 4 k4)) rfl
    have q1 := Bk.cell (he4.out.alloc (.cells #[.int .i64 1826, .int .i64 12] 122)).t (j := 1) (v := (.slice (some ⟨g4, 0, none⟩) 4 k4)) rfl
    have q2 := Bk.cell be4.out (j := 0) rfl
    have q3 := Bk.cell be4.out (j := 1) rfl
    go_region_law
      ((refine step_append_lies _ (by rfl) (.tmp 85) (.tmp 87) 118 (by rfl) u0.heap.size 122 i0 _ 2 16 Tryz.underlying118 hi.out hz0.out hz1.out hz2.out rfl (by decide) (.slice (some ⟨g4, 0, none⟩) 4 k4) 4 [.int .i64 730, .int .i64 10, .int .i64 912, .int .i64 11, .int .i64 1096, .int .i64 12, .int .i64 1461, .int .i64 13] (by rfl) (he4.out.alloc (.cells #[.int .i64 1826, .int .i64 12] 122)).drew.own ⟨e4.heap.size, 0, none⟩ 1 1 [.int .i64 1826, .int .i64 12] (by rfl) rfl (World.news_of_block (show ((e4.alloc (.cells #[.int .i64 1826, .int .i64 12] 122)).drew).heap[e4.heap.size]? = some (.cells #[.int .i64 1826, .int .i64 12] 122 (0, 0)) from heap_alloc_new e4 _)) (two_int _ _) (by decide) (by simp [maxLen]) (by simp) (he4.out.alloc (.cells #[.int .i64 1826, .int .i64 12] 122)).drew.fr.size _ rfl ?_
        intro g5 k5 p4 ho hg hat hlt
        obtain ⟨h5, t4, y4⟩ := LP.app he4.out be4.out nx4.out ho hg
        replace h5 := Aside0.mk h5
        replace t4 := Aside0.mk t4
        clear y4
        clear ho hg hat hlt
        have q4 := t4.out.free 1
        have q5 : p4.cell? ⟨T, 1, none⟩ = some (.slice (some ⟨g4, 0, none⟩) 4 k4) := Bk.cell t4.out rfl))
    all_goals
      clear q0 q1 q2 q3 q4 q5 t4
      generalize p4.setCell ⟨T, 1, none⟩ (.slice (some ⟨g5, 0, none⟩) 5 k5) = u5 at h5 ⊢
      revert g5 k5 u5
      exact hT.out
  intro g5 k5 u5 h5
  clear he4 be4 hd4
  go_wp2_with fail
  rw [rounds_succ]
  go_wp2_with fail
  go_returns
  have q0 := fS.out.size
  have q1 := hT.out
  have q2 := fT.out
  exact ⟨T, rfl, (Fr.trans (T := fun k => k = T) (Fr.of_below fS.out) ((Fr.of_below fT.out).trans h5.out.fr)).below (by omega) (Nat.le_refl _)⟩
end Go.Proofs.YtmdjbogdfipcmaaGreatDoor.Hand
