import Derived.Deep.AppendLies
import Derived.Deep.QuietTactic
import Derived.BigQuiet
import Derived.Deep.RegionLaw
import Derived.Deep.DeepCutAuto
import Derived.Shelf.Strings.BuilderK
import Derived.Test.YtchfmgbjddopoaaGreatDoorM03
import Derived.Test.YtchfmgbjddopoaaGreatDoorM04
import Derived.Test.YtchfmgbjddopoaaGreatDoorM05
import Derived.Test.YtchfmgbjddopoaaGreatDoorM36
set_option linter.unusedVariables false
set_option linter.unusedSimpArgs false
set_option maxHeartbeats 6400000
set_option maxRecDepth 100000
namespace Go.Proofs.YtchfmgbjddopoaaGreatDoor.Hand
open Go.RowKit Go.Proofs.YtchfmgbjddopoaaGreatDoorW.PrintWords Go.Proofs.YtchfmgbjddopoaaGreatDoorW.PrintLast Go.Proofs.YtchfmgbjddopoaaGreatDoorW.PrintMore
attribute [local go_sem ↓] Go.wp_at_zero Go.wp_at_succ
theorem IZ {A T : Prop} (h1 : Aa T → A) (h : T) : A := h1 ⟨h⟩
theorem Yf : (Tryz.prog.info? 256).map (fun i => (i.zero, i.size, i.bytes)) = some (some (.agg #[.int .i64 0, .int .i64 0]), 2, 16) := by kernel_rfl
structure LP (tx : Value) (sp T : Nat) (C : Array Value) (m : Int) (w1 : World) (v : Value) (n : Nat) (xs : List Value) (W : World) : Prop where
 rows : Bk W sp C 9
 t : Bk W T #[tx, v] 254
 own : W.ownsRow w1.heap.size 256 2 v n xs
 fr : Fr (fun k => k = T) w1 W
 hT : T < w1.heap.size
 hs : sp < w1.heap.size
 hne : sp ≠ T
 hT0 : 0 < T
 m0 : W.cell? ⟨0, 0, none⟩ = some (.int .i64 m)
section
variable {tx v v' : Value} {sp T n : Nat} {C : Array Value} {m : Int} {w1 W W' a : World} {xs ys : List Value}
theorem LP.below (h : LP tx sp T C m w1 v n xs W) (f : Below W.heap.size W W') : LP tx sp T C m w1 v n xs W' :=
 ⟨h.rows.Ad f, h.t.Ad f, own_below h.own f, h.fr.trans (Fr.of_below f), h.hT, h.hs, h.hne, h.hT0, cell0 h.m0 f⟩
theorem LP.drew (h : LP tx sp T C m w1 v n xs W) : LP tx sp T C m w1 v n xs W.drew := h.below (Ag (Below.refl _ _))
theorem LP.drewN (h : LP tx sp T C m w1 v n xs W) (k : Nat) : LP tx sp T C m w1 v n xs (W.drewN k) := h.below (Ae (Below.refl _ _) k)
theorem LP.alloc (h : LP tx sp T C m w1 v n xs W) (o : Obj) : LP tx sp T C m w1 v n xs (W.alloc o) := h.below (Ah (Below.refl _ _) o)
theorem XQ {g base e size : Nat} {v : Value} {n : Nat} {xs : List Value} {W : World} (h : W.ownsRow base e size v n xs) (hg : v.ownBlock ≠ some g) (j : Nat) (u : Value) : (W.setCell ⟨g, j, none⟩ u).ownsRow base e size v n xs := by
 refine ⟨h.1, ?_⟩
 rcases h.2 with h' | ⟨g', cap, cur, h1, h2, h3, h4⟩
 · exact .inl h'
 · exact .inr ⟨g', cap, cur, h1, h2, Ob.far h3 (fun e => hg (by rw [h1, e]; rfl)) j u, h4⟩
theorem WW {g base e size : Nat} {v : Value} {n : Nat} {xs : List Value} {W W' : World} (h : W.ownsRow base e size v n xs) (hg : v.ownBlock ≠ some g) (f : Fr (fun k => k = g) W W') : W'.ownsRow base e size v n xs := by
 refine ⟨h.1, ?_⟩
 rcases h.2 with h' | ⟨g', cap, cur, h1, h2, h3, h4⟩
 · exact .inl h'
 · exact .inr ⟨g', cap, cur, h1, h2, Ob.fr h3 f (fun e => hg (by rw [h1, e]; rfl)), h4⟩
theorem LP.step (h : LP tx sp T C m w1 v n xs W) (ho : W'.ownsRow w1.heap.size 256 2 v' (n + 1) ys) (hg : W.grownBy W' v.ownBlock) : LP tx sp T C m w1 v' (n + 1) ys (W'.setCell ⟨T, 1, none⟩ v') := by
 have G : Below w1.heap.size W W' := (Below.refl _ _).grown hg h.fr.size (fun k hk => (h.own.lt k hk).1)
 have q1 := h.hT
 have q2 := h.hT0
 have F : Fr (fun k => k = T) w1 W' := ⟨G.os.trans h.fr.os, G.tape.trans h.fr.tape, G.output.trans h.fr.output, Nat.le_trans h.fr.size G.size, fun k hk hn => (G.block k hk).trans (h.fr.block k hk hn)⟩
 refine ⟨(h.rows.below G h.hs).far h.hne _ _, Bk.set (h.t.below G h.hT) 1 v', XQ ho ?_ _ _, F.set T 1 v' (.inl rfl), h.hT, h.hs, h.hne, h.hT0, ?_⟩
 · intro e
   have := (ho.lt T e).1
   omega
 · rw [World.cell?_setCell_other W' ⟨T, 1, none⟩ ⟨0, 0, none⟩ v' (fun e => by injection e with e1; omega), G.cell (p := ⟨0, 0, none⟩) (show 0 < w1.heap.size by omega)]
   exact h.m0
theorem LP.newer (h0 : LP tx sp T C m w1 v n xs a) (h : LP tx sp T C m w1 v n xs W) {x : Nat} (f : Fr (fun k => k = x) W W') (hx : a.heap.size ≤ x) : LP tx sp T C m w1 v n xs W' := by
 have q1 := h0.rows.lt
 have q2 := h0.t.lt
 have q3 := h0.fr.size
 have q4 := h.fr.size
 have q5 := h.hT
 have q6 := h.hT0
 refine ⟨h.rows.fr f (by omega), h.t.fr f (by omega), WW h.own ?_ f, ?_, h.hT, h.hs, h.hne, h.hT0, ?_⟩
 · intro e
   have := (h0.own.lt x e).2
   omega
 · exact ⟨f.os.trans h.fr.os, f.tape.trans h.fr.tape, f.output.trans h.fr.output, Nat.le_trans h.fr.size f.size, fun k hk hn => (f.block k (by omega) (by omega)).trans (h.fr.block k hk hn)⟩
 · have f0 : Below w1.heap.size W W' := f.below (fun k hk e => by omega) q4
   rw [f0.cell (p := ⟨0, 0, none⟩) (show 0 < w1.heap.size by omega)]
   exact h.m0
theorem LP.app (h : LP tx sp T C m w1 v n xs W) {x : Nat} {R : Array Value} (hx : Bk W x R 256) (nx : v.ownBlock ≠ some x) {o : Obj} (ho : W'.ownsRow w1.heap.size 256 2 v' (n + 1) ys) (hg : (W.alloc o).drew.grownBy W' v.ownBlock) :
   LP tx sp T C m w1 v' (n + 1) ys (W'.setCell ⟨T, 1, none⟩ v') ∧ Bk W' T #[tx, v] 254 ∧ Bk W' x R 256 := by
 have h1 := (h.alloc o).drew
 have x1 : Bk (W.alloc o).drew x R 256 := (hx.alloc o).drew
 have G : Below w1.heap.size (W.alloc o).drew W' := (Below.refl _ _).grown hg h1.fr.size (fun k hk => (h1.own.lt k hk).1)
 exact ⟨h1.step ho hg, h1.t.below G h1.hT, (hg.block x x1.lt (fun e => nx e.symm)).trans x1⟩
theorem Rk {base e size : Nat} {g c n : Nat} {xs : List Value} {W : World} (h : W.ownsRow base e size (.slice (some ⟨g, 0, none⟩) n c) n xs) {i : Nat} {u : Value} (hu : xs[i]? = some u) : W.cell? ⟨g, i, none⟩ = some u := by
 have := h.cells (g := g) rfl i u hu
 rwa [Addr.add_mid, Nat.zero_add] at this
theorem Et {g k n : Nat} (h : LP tx sp T C m w1 (.slice (some ⟨g, 0, none⟩) n k) n xs W) {i j : Nat} {y z : Value} (hi : xs[i]? = some y) (hj : xs[j]? = some z) {x : Nat} {p q : Value} (hx : Bk W x #[p, q] 256) :
   W.cell? ⟨T, 1, none⟩ = some (.slice (some ⟨g, 0, none⟩) n k) ∧ W.cell? ⟨g, i, none⟩ = some y ∧ W.cell? ⟨g, j, none⟩ = some z ∧ W.cell? ⟨x, 0, none⟩ = some p ∧ W.cell? ⟨x, 1, none⟩ = some q ∧ LP tx sp T C m w1 (.slice (some ⟨g, 0, none⟩) n k) n xs W ∧ Bk W x #[p, q] 256 :=
 ⟨h.t.cell rfl, Rk h.own hi, Rk h.own hj, hx.cell rfl, hx.cell rfl, h, hx⟩
end
theorem IX (p q : Int) : ∀ u ∈ [Value.int .i64 p, .int .i64 q], u.oneCell' = true := fun u hu => by
 simp at hu
 rcases hu with rfl | rfl <;> rfl
theorem Z7 : Pfollows.BU.f 730 10 912 11 = some true := by decide +kernel
theorem Z4 : Pfollows.BU.f 912 11 1096 12 = some true := by decide +kernel
theorem ZZ : Pfollows.BU.f 1096 12 1461 13 = some true := by decide +kernel
theorem ZY : Pfollows.BU.f 1461 13 1826 12 = some true := by decide +kernel
theorem PX (w : World) (tx : ByteArray) (m : Int) (hm : w.cell? ⟨0, 0, none⟩ = some (.int .i64 m))
   (hsp : Calls Tryz.prog 58 #[.string tx, .string ⟨#[10]⟩] w fun e w' => e = .returned (.slice (some ⟨w.heap.size, 0, none⟩) 6 6) ∧ w' = w.alloc (.cells #[.string ⟨#[49, 57, 55, 50, 45, 48, 49, 45, 48, 49, 32, 49, 48]⟩, .string ⟨#[49, 57, 55, 50, 45, 48, 55, 45, 48, 49, 32, 49, 49]⟩, .string ⟨#[49, 57, 55, 51, 45, 48, 49, 45, 48, 49, 32, 49, 50]⟩, .string ⟨#[49, 57, 55, 52, 45, 48, 49, 45, 48, 49, 32, 49, 51]⟩, .string ⟨#[49, 57, 55, 53, 45, 48, 49, 45, 48, 49, 32, 49, 50]⟩, .string ⟨#[]⟩] 9)) :
   Calls Tryz.prog 112 #[.string tx] w fun e w' => ∃ p, e = .returned (.tuple #[.pointer (some ⟨p, 0, none⟩), .int .i64 0]) ∧ Below w.heap.size w w' := by
 obtain ⟨i0, hi, hz0, hz1, hz2⟩ := info_parts Yf
 replace hi := Aa.mk hi
 replace hz0 := Aa.mk hz0
 replace hz1 := Aa.mk hz1
 replace hz2 := Aa.mk hz2
 replace hm := Aa.mk hm
 have hw0 : Aa (0 < w.heap.size) := ⟨by
   rcases Nat.eq_zero_or_pos w.heap.size with h | h
   · have h1 : w.heap[0]? = none := Array.getElem?_eq_none (by omega)
     have h2 := hm.out
     unfold World.cell? at h2
     rw [h1] at h2
     cases h2
   · exact h⟩
 have hsq : Calls Tryz.prog 58 #[.string tx, .string ⟨#[10]⟩] w fun e w' => ∃ sp, e = .returned (.slice (some ⟨sp, 0, none⟩) 6 6) ∧ w.heap.size ≤ sp ∧ Bk w' sp #[.string ⟨#[49, 57, 55, 50, 45, 48, 49, 45, 48, 49, 32, 49, 48]⟩, .string ⟨#[49, 57, 55, 50, 45, 48, 55, 45, 48, 49, 32, 49, 49]⟩, .string ⟨#[49, 57, 55, 51, 45, 48, 49, 45, 48, 49, 32, 49, 50]⟩, .string ⟨#[49, 57, 55, 52, 45, 48, 49, 45, 48, 49, 32, 49, 51]⟩, .string ⟨#[49, 57, 55, 53, 45, 48, 49, 45, 48, 49, 32, 49, 50]⟩, .string ⟨#[]⟩] 9 ∧ Below w.heap.size w w' :=
   hsp.mono fun e w' h => ⟨w.heap.size, h.1, Nat.le_refl _, h.2 ▸ Ob.new w _, h.2 ▸ Ah (Below.refl _ _) _⟩
 clear hsp
 go_enter Tryz.func112, Tryz.ntmps112
 go_wp2_with (first
   | (go_at_call 58; refine hsq.mono ?_; clear hsq; rintro e w0 ⟨sp, rfl, hq0, bS, fS⟩; replace hq0 := Aa.mk hq0; replace bS := Aa.mk bS; replace fS := Aa.mk fS; have hm0 := Aa.mk (cell0 hm.out fS.out); have hl := Aa.mk bS.out.lt; have c5 : w0.cell? ⟨sp, 5, none⟩ = some (.string ⟨#[]⟩) := Bk.cell bS.out rfl)
   | ((with_reducible refine Ac (N := 40) rfl ?_); refine Aj (N := 40) (C := #[.string tx, .slice none 0 0]) rfl rfl (by first | (go_simp; done) | (go_simp; rfl)) ?_; intro T u0 hT bT fT; clear c5))
 have h0 : Aa (LP (.string tx) sp T #[.string ⟨#[49, 57, 55, 50, 45, 48, 49, 45, 48, 49, 32, 49, 48]⟩, .string ⟨#[49, 57, 55, 50, 45, 48, 55, 45, 48, 49, 32, 49, 49]⟩, .string ⟨#[49, 57, 55, 51, 45, 48, 49, 45, 48, 49, 32, 49, 50]⟩, .string ⟨#[49, 57, 55, 52, 45, 48, 49, 45, 48, 49, 32, 49, 51]⟩, .string ⟨#[49, 57, 55, 53, 45, 48, 49, 45, 48, 49, 32, 49, 50]⟩, .string ⟨#[]⟩] m u0 (.slice none 0 0) 0 [] u0) := ⟨⟨bS.out.Ad fT.out, bT.out, World.ownsRow_nil _ _ _ _, Fr.refl _ _, bT.out.lt, Nat.lt_of_lt_of_le bS.out.lt fT.out.size, Nat.ne_of_lt (Nat.lt_of_lt_of_le hl.out hT.out), Nat.lt_of_lt_of_le hw0.out (Nat.le_trans fS.out.size hT.out), cell0 hm0.out fT.out⟩⟩
 refine wp_loop_rounds 6 ?_
 have c0 : u0.cell? ⟨sp, 0, none⟩ = some (.string ⟨#[49, 57, 55, 50, 45, 48, 49, 45, 48, 49, 32, 49, 48]⟩) := Bk.cell h0.out.rows rfl
 rw [rounds_succ]
 go_wp2_with (first
   | (go_at_call 166; refine (MK _ m h0.out.m0).mono ?_; rintro e a0 ⟨rfl, fa0⟩; have ha0 := Aa.mk (h0.out.below fa0); clear fa0 c0)
   | ((with_reducible refine Ac (N := 10) rfl ?_); refine Aj (N := 10) (C := #[.int .i64 0, .int .i64 0]) rfl rfl (by first | (go_simp; done) | (go_simp; rfl)) ?_; intro x0 b0 hx0 bx0 fb0; have hb0 := Aa.mk (ha0.out.below fb0.out))
   | ((with_reducible refine Af (t := 256) (p := 10) (v := .tmp 52) rfl ?_); refine Ak rfl (ty := 256) (x := .tmp 10) (y := .tmp 52) (cells := #[.int .i64 730, .int .i64 10]) rfl rfl rfl bx0.out Dp (by kernel_rfl) (by decide) #[.int .i64 730, .int .i64 10] rfl ?_; intro d0 by0 fd0; have hd0 := Aa.mk (LP.newer ha0.out hb0.out fd0.out hx0.out); have nx0 : Aa (Value.ownBlock (.slice none 0 0) ≠ some x0) := ⟨fun e => by have := (ha0.out.own.lt _ e).2; have := hx0.out; omega⟩))
 have k0 : d0.cell? ⟨T, 1, none⟩ = some (.slice none 0 0) := Bk.cell hd0.out.t rfl
 go_quiet ((fail))
 have he0 := Aa.mk (hd0.out.drewN nq)
 have be0 := Aa.mk (by0.out.drewN nq)
 clear k0
 generalize d0.drewN nq = e0 at he0 be0 ⊢
 go_wp2_with fail
 apply IZ
 · intro hT
   have q0 := Bk.cell he0.out.t (j := 1) (v := (.slice none 0 0)) rfl
   have q1 := Bk.cell (he0.out.alloc (.cells #[.int .i64 730, .int .i64 10] 256)).t (j := 1) (v := (.slice none 0 0)) rfl
   have q2 := Bk.cell be0.out (j := 0) rfl
   have q3 := Bk.cell be0.out (j := 1) rfl
   go_region_law
     ((refine step_append_lies _ (by rfl) (.tmp 85) (.tmp 87) 252 (by rfl) u0.heap.size 256 i0 _ 2 16 Tryz.underlying252 hi.out hz0.out hz1.out hz2.out rfl (by decide) (.slice none 0 0) 0 [] (by rfl) (he0.out.alloc (.cells #[.int .i64 730, .int .i64 10] 256)).drew.own ⟨e0.heap.size, 0, none⟩ 1 1 [.int .i64 730, .int .i64 10] (by rfl) rfl (World.news_of_block (show ((e0.alloc (.cells #[.int .i64 730, .int .i64 10] 256)).drew).heap[e0.heap.size]? = some (.cells #[.int .i64 730, .int .i64 10] 256 (0, 0)) from heap_alloc_new e0 _)) (IX _ _) (by decide) (by simp [maxLen]) (by simp) (he0.out.alloc (.cells #[.int .i64 730, .int .i64 10] 256)).drew.fr.size _ rfl ?_
       intro g1 k1 p0 ho hg hat hlt
       obtain ⟨h1, t0, y0⟩ := LP.app he0.out be0.out nx0.out ho hg
       replace h1 := Aa.mk h1
       replace t0 := Aa.mk t0
       clear y0
       clear ho hg hat hlt
       have q4 := t0.out.free 1
       have q5 : p0.cell? ⟨T, 1, none⟩ = some (.slice none 0 0) := Bk.cell t0.out rfl))
   all_goals
     clear q0 q1 q2 q3 q4 q5 t0
     generalize p0.setCell ⟨T, 1, none⟩ (.slice (some ⟨g1, 0, none⟩) 1 k1) = u1 at h1 ⊢
     revert g1 k1 u1
     exact hT.out
 intro g1 k1 u1 h1
 clear he0 be0 hd0
 go_wp2_with fail
 have c1 : u1.cell? ⟨sp, 1, none⟩ = some (.string ⟨#[49, 57, 55, 50, 45, 48, 55, 45, 48, 49, 32, 49, 49]⟩) := Bk.cell h1.out.rows rfl
 rw [rounds_succ]
 go_wp2_with (first
   | (go_at_call 166; refine (MJ _ m h1.out.m0).mono ?_; rintro e a1 ⟨rfl, fa1⟩; have ha1 := Aa.mk (h1.out.below fa1); clear fa1 c1)
   | ((with_reducible refine Ac (N := 10) rfl ?_); refine Aj (N := 10) (C := #[.int .i64 0, .int .i64 0]) rfl rfl (by first | (go_simp; done) | (go_simp; rfl)) ?_; intro x1 b1 hx1 bx1 fb1; have hb1 := Aa.mk (ha1.out.below fb1.out))
   | ((with_reducible refine Af (t := 256) (p := 10) (v := .tmp 52) rfl ?_); refine Ak rfl (ty := 256) (x := .tmp 10) (y := .tmp 52) (cells := #[.int .i64 912, .int .i64 11]) rfl rfl rfl bx1.out Dp (by kernel_rfl) (by decide) #[.int .i64 912, .int .i64 11] rfl ?_; intro d1 by1 fd1; have hd1 := Aa.mk (LP.newer ha1.out hb1.out fd1.out hx1.out); have nx1 : Aa (Value.ownBlock (.slice (some ⟨g1, 0, none⟩) 1 k1) ≠ some x1) := ⟨fun e => by have := (ha1.out.own.lt _ e).2; have := hx1.out; omega⟩))
 refine wp_region_noPanic ?_
 go_region_held_law (fun w' => w'.cell? ⟨T, 1, none⟩ = some (.slice (some ⟨g1, 0, none⟩) 1 k1) ∧ w'.cell? ⟨g1, 0, none⟩ = some (.int .i64 730) ∧ w'.cell? ⟨g1, 1, none⟩ = some (.int .i64 10) ∧ w'.cell? ⟨x1, 0, none⟩ = some (.int .i64 912) ∧ w'.cell? ⟨x1, 1, none⟩ = some (.int .i64 11) ∧ LP (.string tx) sp T #[.string ⟨#[49, 57, 55, 50, 45, 48, 49, 45, 48, 49, 32, 49, 48]⟩, .string ⟨#[49, 57, 55, 50, 45, 48, 55, 45, 48, 49, 32, 49, 49]⟩, .string ⟨#[49, 57, 55, 51, 45, 48, 49, 45, 48, 49, 32, 49, 50]⟩, .string ⟨#[49, 57, 55, 52, 45, 48, 49, 45, 48, 49, 32, 49, 51]⟩, .string ⟨#[49, 57, 55, 53, 45, 48, 49, 45, 48, 49, 32, 49, 50]⟩, .string ⟨#[]⟩] m u0 (.slice (some ⟨g1, 0, none⟩) 1 k1) 1 [.int .i64 730, .int .i64 10] w' ∧ Bk w' x1 #[.int .i64 912, .int .i64 11] 256)
   ((first | exact Et hd1.out.drew rfl rfl by1.out.drew | exact Et (Aa.out he1) rfl rfl (Aa.out be1)))
   ((go_at_call 167; refine (Pfollows.BU.calls 730 10 912 11 true _ Z7).mono ?_; rintro e e1 ⟨rfl, fe1⟩; have he1 := Aa.mk (hd1.out.drew.below fe1); have be1 := Aa.mk (Ob.Ad by1.out.drew fe1); clear fe1))
 refine NoPanic.normal ?_
 go_split_ands
 go_wp2_with fail
 apply IZ
 · intro hT
   have q0 := Bk.cell he1.out.t (j := 1) (v := (.slice (some ⟨g1, 0, none⟩) 1 k1)) rfl
   have q1 := Bk.cell (he1.out.alloc (.cells #[.int .i64 912, .int .i64 11] 256)).t (j := 1) (v := (.slice (some ⟨g1, 0, none⟩) 1 k1)) rfl
   have q2 := Bk.cell be1.out (j := 0) rfl
   have q3 := Bk.cell be1.out (j := 1) rfl
   go_region_law
     ((refine step_append_lies _ (by rfl) (.tmp 85) (.tmp 87) 252 (by rfl) u0.heap.size 256 i0 _ 2 16 Tryz.underlying252 hi.out hz0.out hz1.out hz2.out rfl (by decide) (.slice (some ⟨g1, 0, none⟩) 1 k1) 1 [.int .i64 730, .int .i64 10] (by rfl) (he1.out.alloc (.cells #[.int .i64 912, .int .i64 11] 256)).drew.own ⟨e1.heap.size, 0, none⟩ 1 1 [.int .i64 912, .int .i64 11] (by rfl) rfl (World.news_of_block (show ((e1.alloc (.cells #[.int .i64 912, .int .i64 11] 256)).drew).heap[e1.heap.size]? = some (.cells #[.int .i64 912, .int .i64 11] 256 (0, 0)) from heap_alloc_new e1 _)) (IX _ _) (by decide) (by simp [maxLen]) (by simp) (he1.out.alloc (.cells #[.int .i64 912, .int .i64 11] 256)).drew.fr.size _ rfl ?_
       intro g2 k2 p1 ho hg hat hlt
       obtain ⟨h2, t1, y1⟩ := LP.app he1.out be1.out nx1.out ho hg
       replace h2 := Aa.mk h2
       replace t1 := Aa.mk t1
       clear y1
       clear ho hg hat hlt
       have q4 := t1.out.free 1
       have q5 : p1.cell? ⟨T, 1, none⟩ = some (.slice (some ⟨g1, 0, none⟩) 1 k1) := Bk.cell t1.out rfl))
   all_goals
     clear q0 q1 q2 q3 q4 q5 t1
     generalize p1.setCell ⟨T, 1, none⟩ (.slice (some ⟨g2, 0, none⟩) 2 k2) = u2 at h2 ⊢
     revert g2 k2 u2
     exact hT.out
 intro g2 k2 u2 h2
 clear he1 be1 hd1
 go_wp2_with fail
 have c2 : u2.cell? ⟨sp, 2, none⟩ = some (.string ⟨#[49, 57, 55, 51, 45, 48, 49, 45, 48, 49, 32, 49, 50]⟩) := Bk.cell h2.out.rows rfl
 rw [rounds_succ]
 go_wp2_with (first
   | (go_at_call 166; refine (MI _ m h2.out.m0).mono ?_; rintro e a2 ⟨rfl, fa2⟩; have ha2 := Aa.mk (h2.out.below fa2); clear fa2 c2)
   | ((with_reducible refine Ac (N := 10) rfl ?_); refine Aj (N := 10) (C := #[.int .i64 0, .int .i64 0]) rfl rfl (by first | (go_simp; done) | (go_simp; rfl)) ?_; intro x2 b2 hx2 bx2 fb2; have hb2 := Aa.mk (ha2.out.below fb2.out))
   | ((with_reducible refine Af (t := 256) (p := 10) (v := .tmp 52) rfl ?_); refine Ak rfl (ty := 256) (x := .tmp 10) (y := .tmp 52) (cells := #[.int .i64 1096, .int .i64 12]) rfl rfl rfl bx2.out Dp (by kernel_rfl) (by decide) #[.int .i64 1096, .int .i64 12] rfl ?_; intro d2 by2 fd2; have hd2 := Aa.mk (LP.newer ha2.out hb2.out fd2.out hx2.out); have nx2 : Aa (Value.ownBlock (.slice (some ⟨g2, 0, none⟩) 2 k2) ≠ some x2) := ⟨fun e => by have := (ha2.out.own.lt _ e).2; have := hx2.out; omega⟩))
 refine wp_region_noPanic ?_
 go_region_held_law (fun w' => w'.cell? ⟨T, 1, none⟩ = some (.slice (some ⟨g2, 0, none⟩) 2 k2) ∧ w'.cell? ⟨g2, 2, none⟩ = some (.int .i64 912) ∧ w'.cell? ⟨g2, 3, none⟩ = some (.int .i64 11) ∧ w'.cell? ⟨x2, 0, none⟩ = some (.int .i64 1096) ∧ w'.cell? ⟨x2, 1, none⟩ = some (.int .i64 12) ∧ LP (.string tx) sp T #[.string ⟨#[49, 57, 55, 50, 45, 48, 49, 45, 48, 49, 32, 49, 48]⟩, .string ⟨#[49, 57, 55, 50, 45, 48, 55, 45, 48, 49, 32, 49, 49]⟩, .string ⟨#[49, 57, 55, 51, 45, 48, 49, 45, 48, 49, 32, 49, 50]⟩, .string ⟨#[49, 57, 55, 52, 45, 48, 49, 45, 48, 49, 32, 49, 51]⟩, .string ⟨#[49, 57, 55, 53, 45, 48, 49, 45, 48, 49, 32, 49, 50]⟩, .string ⟨#[]⟩] m u0 (.slice (some ⟨g2, 0, none⟩) 2 k2) 2 [.int .i64 730, .int .i64 10, .int .i64 912, .int .i64 11] w' ∧ Bk w' x2 #[.int .i64 1096, .int .i64 12] 256)
   ((first | exact Et hd2.out.drew rfl rfl by2.out.drew | exact Et (Aa.out he2) rfl rfl (Aa.out be2)))
   ((go_at_call 167; refine (Pfollows.BU.calls 912 11 1096 12 true _ Z4).mono ?_; rintro e e2 ⟨rfl, fe2⟩; have he2 := Aa.mk (hd2.out.drew.below fe2); have be2 := Aa.mk (Ob.Ad by2.out.drew fe2); clear fe2))
 refine NoPanic.normal ?_
 go_split_ands
 go_wp2_with fail
 apply IZ
 · intro hT
   have q0 := Bk.cell he2.out.t (j := 1) (v := (.slice (some ⟨g2, 0, none⟩) 2 k2)) rfl
   have q1 := Bk.cell (he2.out.alloc (.cells #[.int .i64 1096, .int .i64 12] 256)).t (j := 1) (v := (.slice (some ⟨g2, 0, none⟩) 2 k2)) rfl
   have q2 := Bk.cell be2.out (j := 0) rfl
   have q3 := Bk.cell be2.out (j := 1) rfl
   go_region_law
     ((refine step_append_lies _ (by rfl) (.tmp 85) (.tmp 87) 252 (by rfl) u0.heap.size 256 i0 _ 2 16 Tryz.underlying252 hi.out hz0.out hz1.out hz2.out rfl (by decide) (.slice (some ⟨g2, 0, none⟩) 2 k2) 2 [.int .i64 730, .int .i64 10, .int .i64 912, .int .i64 11] (by rfl) (he2.out.alloc (.cells #[.int .i64 1096, .int .i64 12] 256)).drew.own ⟨e2.heap.size, 0, none⟩ 1 1 [.int .i64 1096, .int .i64 12] (by rfl) rfl (World.news_of_block (show ((e2.alloc (.cells #[.int .i64 1096, .int .i64 12] 256)).drew).heap[e2.heap.size]? = some (.cells #[.int .i64 1096, .int .i64 12] 256 (0, 0)) from heap_alloc_new e2 _)) (IX _ _) (by decide) (by simp [maxLen]) (by simp) (he2.out.alloc (.cells #[.int .i64 1096, .int .i64 12] 256)).drew.fr.size _ rfl ?_
       intro g3 k3 p2 ho hg hat hlt
       obtain ⟨h3, t2, y2⟩ := LP.app he2.out be2.out nx2.out ho hg
       replace h3 := Aa.mk h3
       replace t2 := Aa.mk t2
       clear y2
       clear ho hg hat hlt
       have q4 := t2.out.free 1
       have q5 : p2.cell? ⟨T, 1, none⟩ = some (.slice (some ⟨g2, 0, none⟩) 2 k2) := Bk.cell t2.out rfl))
   all_goals
     clear q0 q1 q2 q3 q4 q5 t2
     generalize p2.setCell ⟨T, 1, none⟩ (.slice (some ⟨g3, 0, none⟩) 3 k3) = u3 at h3 ⊢
     revert g3 k3 u3
     exact hT.out
 intro g3 k3 u3 h3
 clear he2 be2 hd2
 go_wp2_with fail
 have c3 : u3.cell? ⟨sp, 3, none⟩ = some (.string ⟨#[49, 57, 55, 52, 45, 48, 49, 45, 48, 49, 32, 49, 51]⟩) := Bk.cell h3.out.rows rfl
 rw [rounds_succ]
 go_wp2_with (first
   | (go_at_call 166; refine (MH _ m h3.out.m0).mono ?_; rintro e a3 ⟨rfl, fa3⟩; have ha3 := Aa.mk (h3.out.below fa3); clear fa3 c3)
   | ((with_reducible refine Ac (N := 10) rfl ?_); refine Aj (N := 10) (C := #[.int .i64 0, .int .i64 0]) rfl rfl (by first | (go_simp; done) | (go_simp; rfl)) ?_; intro x3 b3 hx3 bx3 fb3; have hb3 := Aa.mk (ha3.out.below fb3.out))
   | ((with_reducible refine Af (t := 256) (p := 10) (v := .tmp 52) rfl ?_); refine Ak rfl (ty := 256) (x := .tmp 10) (y := .tmp 52) (cells := #[.int .i64 1461, .int .i64 13]) rfl rfl rfl bx3.out Dp (by kernel_rfl) (by decide) #[.int .i64 1461, .int .i64 13] rfl ?_; intro d3 by3 fd3; have hd3 := Aa.mk (LP.newer ha3.out hb3.out fd3.out hx3.out); have nx3 : Aa (Value.ownBlock (.slice (some ⟨g3, 0, none⟩) 3 k3) ≠ some x3) := ⟨fun e => by have := (ha3.out.own.lt _ e).2; have := hx3.out; omega⟩))
 refine wp_region_noPanic ?_
 go_region_held_law (fun w' => w'.cell? ⟨T, 1, none⟩ = some (.slice (some ⟨g3, 0, none⟩) 3 k3) ∧ w'.cell? ⟨g3, 4, none⟩ = some (.int .i64 1096) ∧ w'.cell? ⟨g3, 5, none⟩ = some (.int .i64 12) ∧ w'.cell? ⟨x3, 0, none⟩ = some (.int .i64 1461) ∧ w'.cell? ⟨x3, 1, none⟩ = some (.int .i64 13) ∧ LP (.string tx) sp T #[.string ⟨#[49, 57, 55, 50, 45, 48, 49, 45, 48, 49, 32, 49, 48]⟩, .string ⟨#[49, 57, 55, 50, 45, 48, 55, 45, 48, 49, 32, 49, 49]⟩, .string ⟨#[49, 57, 55, 51, 45, 48, 49, 45, 48, 49, 32, 49, 50]⟩, .string ⟨#[49, 57, 55, 52, 45, 48, 49, 45, 48, 49, 32, 49, 51]⟩, .string ⟨#[49, 57, 55, 53, 45, 48, 49, 45, 48, 49, 32, 49, 50]⟩, .string ⟨#[]⟩] m u0 (.slice (some ⟨g3, 0, none⟩) 3 k3) 3 [.int .i64 730, .int .i64 10, .int .i64 912, .int .i64 11, .int .i64 1096, .int .i64 12] w' ∧ Bk w' x3 #[.int .i64 1461, .int .i64 13] 256)
   ((first | exact Et hd3.out.drew rfl rfl by3.out.drew | exact Et (Aa.out he3) rfl rfl (Aa.out be3)))
   ((go_at_call 167; refine (Pfollows.BU.calls 1096 12 1461 13 true _ ZZ).mono ?_; rintro e e3 ⟨rfl, fe3⟩; have he3 := Aa.mk (hd3.out.drew.below fe3); have be3 := Aa.mk (Ob.Ad by3.out.drew fe3); clear fe3))
 refine NoPanic.normal ?_
 go_split_ands
 go_wp2_with fail
 apply IZ
 · intro hT
   have q0 := Bk.cell he3.out.t (j := 1) (v := (.slice (some ⟨g3, 0, none⟩) 3 k3)) rfl
   have q1 := Bk.cell (he3.out.alloc (.cells #[.int .i64 1461, .int .i64 13] 256)).t (j := 1) (v := (.slice (some ⟨g3, 0, none⟩) 3 k3)) rfl
   have q2 := Bk.cell be3.out (j := 0) rfl
   have q3 := Bk.cell be3.out (j := 1) rfl
   go_region_law
     ((refine step_append_lies _ (by rfl) (.tmp 85) (.tmp 87) 252 (by rfl) u0.heap.size 256 i0 _ 2 16 Tryz.underlying252 hi.out hz0.out hz1.out hz2.out rfl (by decide) (.slice (some ⟨g3, 0, none⟩) 3 k3) 3 [.int .i64 730, .int .i64 10, .int .i64 912, .int .i64 11, .int .i64 1096, .int .i64 12] (by rfl) (he3.out.alloc (.cells #[.int .i64 1461, .int .i64 13] 256)).drew.own ⟨e3.heap.size, 0, none⟩ 1 1 [.int .i64 1461, .int .i64 13] (by rfl) rfl (World.news_of_block (show ((e3.alloc (.cells #[.int .i64 1461, .int .i64 13] 256)).drew).heap[e3.heap.size]? = some (.cells #[.int .i64 1461, .int .i64 13] 256 (0, 0)) from heap_alloc_new e3 _)) (IX _ _) (by decide) (by simp [maxLen]) (by simp) (he3.out.alloc (.cells #[.int .i64 1461, .int .i64 13] 256)).drew.fr.size _ rfl ?_
       intro g4 k4 p3 ho hg hat hlt
       obtain ⟨h4, t3, y3⟩ := LP.app he3.out be3.out nx3.out ho hg
       replace h4 := Aa.mk h4
       replace t3 := Aa.mk t3
       clear y3
       clear ho hg hat hlt
       have q4 := t3.out.free 1
       have q5 : p3.cell? ⟨T, 1, none⟩ = some (.slice (some ⟨g3, 0, none⟩) 3 k3) := Bk.cell t3.out rfl))
   all_goals
     clear q0 q1 q2 q3 q4 q5 t3
     generalize p3.setCell ⟨T, 1, none⟩ (.slice (some ⟨g4, 0, none⟩) 4 k4) = u4 at h4 ⊢
     revert g4 k4 u4
     exact hT.out
 intro g4 k4 u4 h4
 clear he3 be3 hd3
 go_wp2_with fail
 have c4 : u4.cell? ⟨sp, 4, none⟩ = some (.string ⟨#[49, 57, 55, 53, 45, 48, 49, 45, 48, 49, 32, 49, 50]⟩) := Bk.cell h4.out.rows rfl
 rw [rounds_succ]
 go_wp2_with (first
   | (go_at_call 166; refine (MG _ m h4.out.m0).mono ?_; rintro e a4 ⟨rfl, fa4⟩; have ha4 := Aa.mk (h4.out.below fa4); clear fa4 c4)
   | ((with_reducible refine Ac (N := 10) rfl ?_); refine Aj (N := 10) (C := #[.int .i64 0, .int .i64 0]) rfl rfl (by first | (go_simp; done) | (go_simp; rfl)) ?_; intro x4 b4 hx4 bx4 fb4; have hb4 := Aa.mk (ha4.out.below fb4.out))
   | ((with_reducible refine Af (t := 256) (p := 10) (v := .tmp 52) rfl ?_); refine Ak rfl (ty := 256) (x := .tmp 10) (y := .tmp 52) (cells := #[.int .i64 1826, .int .i64 12]) rfl rfl rfl bx4.out Dp (by kernel_rfl) (by decide) #[.int .i64 1826, .int .i64 12] rfl ?_; intro d4 by4 fd4; have hd4 := Aa.mk (LP.newer ha4.out hb4.out fd4.out hx4.out); have nx4 : Aa (Value.ownBlock (.slice (some ⟨g4, 0, none⟩) 4 k4) ≠ some x4) := ⟨fun e => by have := (ha4.out.own.lt _ e).2; have := hx4.out; omega⟩))
 refine wp_region_noPanic ?_
 go_region_held_law (fun w' => w'.cell? ⟨T, 1, none⟩ = some (.slice (some ⟨g4, 0, none⟩) 4 k4) ∧ w'.cell? ⟨g4, 6, none⟩ = some (.int .i64 1461) ∧ w'.cell? ⟨g4, 7, none⟩ = some (.int .i64 13) ∧ w'.cell? ⟨x4, 0, none⟩ = some (.int .i64 1826) ∧ w'.cell? ⟨x4, 1, none⟩ = some (.int .i64 12) ∧ LP (.string tx) sp T #[.string ⟨#[49, 57, 55, 50, 45, 48, 49, 45, 48, 49, 32, 49, 48]⟩, .string ⟨#[49, 57, 55, 50, 45, 48, 55, 45, 48, 49, 32, 49, 49]⟩, .string ⟨#[49, 57, 55, 51, 45, 48, 49, 45, 48, 49, 32, 49, 50]⟩, .string ⟨#[49, 57, 55, 52, 45, 48, 49, 45, 48, 49, 32, 49, 51]⟩, .string ⟨#[49, 57, 55, 53, 45, 48, 49, 45, 48, 49, 32, 49, 50]⟩, .string ⟨#[]⟩] m u0 (.slice (some ⟨g4, 0, none⟩) 4 k4) 4 [.int .i64 730, .int .i64 10, .int .i64 912, .int .i64 11, .int .i64 1096, .int .i64 12, .int .i64 1461, .int .i64 13] w' ∧ Bk w' x4 #[.int .i64 1826, .int .i64 12] 256)
   ((first | exact Et hd4.out.drew rfl rfl by4.out.drew | exact Et (Aa.out he4) rfl rfl (Aa.out be4)))
   ((go_at_call 167; refine (Pfollows.BU.calls 1461 13 1826 12 true _ ZY).mono ?_; rintro e e4 ⟨rfl, fe4⟩; have he4 := Aa.mk (hd4.out.drew.below fe4); have be4 := Aa.mk (Ob.Ad by4.out.drew fe4); clear fe4))
 refine NoPanic.normal ?_
 go_split_ands
 go_wp2_with fail
 apply IZ
 · intro hT
   have q0 := Bk.cell he4.out.t (j := 1) (v := (.slice (some ⟨g4, 0, none⟩) 4 k4)) rfl
   have q1 := Bk.cell (he4.out.alloc (.cells #[.int .i64 1826, .int .i64 12] 256)).t (j := 1) (v := (.slice (some ⟨g4, 0, none⟩) 4 k4)) rfl
   have q2 := Bk.cell be4.out (j := 0) rfl
   have q3 := Bk.cell be4.out (j := 1) rfl
   go_region_law
     ((refine step_append_lies _ (by rfl) (.tmp 85) (.tmp 87) 252 (by rfl) u0.heap.size 256 i0 _ 2 16 Tryz.underlying252 hi.out hz0.out hz1.out hz2.out rfl (by decide) (.slice (some ⟨g4, 0, none⟩) 4 k4) 4 [.int .i64 730, .int .i64 10, .int .i64 912, .int .i64 11, .int .i64 1096, .int .i64 12, .int .i64 1461, .int .i64 13] (by rfl) (he4.out.alloc (.cells #[.int .i64 1826, .int .i64 12] 256)).drew.own ⟨e4.heap.size, 0, none⟩ 1 1 [.int .i64 1826, .int .i64 12] (by rfl) rfl (World.news_of_block (show ((e4.alloc (.cells #[.int .i64 1826, .int .i64 12] 256)).drew).heap[e4.heap.size]? = some (.cells #[.int .i64 1826, .int .i64 12] 256 (0, 0)) from heap_alloc_new e4 _)) (IX _ _) (by decide) (by simp [maxLen]) (by simp) (he4.out.alloc (.cells #[.int .i64 1826, .int .i64 12] 256)).drew.fr.size _ rfl ?_
       intro g5 k5 p4 ho hg hat hlt
       obtain ⟨h5, t4, y4⟩ := LP.app he4.out be4.out nx4.out ho hg
       replace h5 := Aa.mk h5
       replace t4 := Aa.mk t4
       clear y4
       clear ho hg hat hlt
       have q4 := t4.out.free 1
       have q5 : p4.cell? ⟨T, 1, none⟩ = some (.slice (some ⟨g4, 0, none⟩) 4 k4) := Bk.cell t4.out rfl))
   all_goals
     clear q0 q1 q2 q3 q4 q5 t4
     generalize p4.setCell ⟨T, 1, none⟩ (.slice (some ⟨g5, 0, none⟩) 5 k5) = u5 at h5 ⊢
     revert g5 k5 u5
     exact hT.out
 intro g5 k5 u5 h5
 clear he4 be4 hd4
 go_wp2_with fail
 rw [rounds_succ]
 go_wp2_with fail
 go_returns
 have q0 := fS.out.size
 have q1 := hT.out
 have q2 := fT.out
 exact ⟨T, rfl, (Fr.trans (T := fun k => k = T) (Fr.of_below fS.out) ((Fr.of_below fT.out).trans h5.out.fr)).below (by omega) (Nat.le_refl _)⟩
end Go.Proofs.YtchfmgbjddopoaaGreatDoor.Hand
section
namespace Go.Proofs
open Go.Shelf
def Tryz.lays166_ren : Go.Shelf.Ren := ⟨fun | 166 => 63 | 240 => 113 | 276 => 168 | n => n, fun | 70 => 135 | 9 => 9 | 3 => 3 | 0 => 0 | 4 => 4 | 20 => 20 | 72 => 137 | 37 => 39 | 164 => 260 | 75 => 139 | 80 => 142 | 5 => 5 | n => n, fun | n => n⟩
theorem Tryz.lays166 : Go.Proofs.Lays.n166 Tryz.prog Tryz.lays166_ren := {
 mixed := by kernel_rfl
 f166 := Tryz.func63.trans (congrArg some (by kernel_rfl))
 f240 := Tryz.func113.trans (congrArg some (by kernel_rfl))
 f276 := Tryz.func168.trans (congrArg some (by kernel_rfl))
 t0 := Tryz.underlying0
 a0 := Tryz.isAgg0
 z0 := Tryz.sizeOf0
 v0 := Tryz.zeroValue0
 t3 := Tryz.underlying3
 a3 := Tryz.isAgg3
 z3 := Tryz.sizeOf3
 v3 := Tryz.zeroValue3
 t4 := Tryz.underlying4
 a4 := Tryz.isAgg4
 z4 := Tryz.sizeOf4
 v4 := Tryz.zeroValue4
 t9 := Tryz.underlying9
 a9 := Tryz.isAgg9
 z9 := Tryz.sizeOf9
 v9 := Tryz.zeroValue9
 t20 := Tryz.underlying20
 a20 := Tryz.isAgg20
 z20 := Tryz.sizeOf20
 v20 := Tryz.zeroValue20
 t37 := Tryz.underlying39
 a37 := Tryz.isAgg39
 z37 := Tryz.sizeOf39
 v37 := Tryz.zeroValue39
 t70 := Tryz.underlying135
 a70 := Tryz.isAgg135
 z70 := Tryz.sizeOf135
 v70 := Tryz.zeroValue135
 t72 := Tryz.underlying137
 a72 := Tryz.isAgg137
 z72 := Tryz.sizeOf137
 v72 := Tryz.zeroValue137
 t75 := Tryz.underlying139
 a75 := Tryz.isAgg139
 z75 := Tryz.sizeOf139
 v75 := Tryz.zeroValue139
 t164 := Tryz.underlying260
 a164 := Tryz.isAgg260
 z164 := Tryz.sizeOf260
 v164 := Tryz.zeroValue260 }
theorem Tryz.Builder_Extra_166 : Builder.Extra Tryz.prog Tryz.lays166_ren := {
 sizeBuilder := by kernel_rfl
 liesBuilder := by kernel_rfl
 t5 := Tryz.underlying5
 a5 := Tryz.isAgg5
 z5 := Tryz.sizeOf5
 v5 := Tryz.zeroValue5
 infoByte := by kernel_rfl
 cellsByte := by kernel_rfl
 sizeByte := by kernel_rfl
 neB5 := by decide }
end Go.Proofs
namespace Go.Proofs.YtchfmgbjddopoaaGreatDoor.Hand
open Go.RowKit Go.Proofs.YtchfmgbjddopoaaGreatDoorW.PrintWords Go.Proofs.YtchfmgbjddopoaaGreatDoorW.PrintLast Go.Proofs.YtchfmgbjddopoaaGreatDoorW.PrintMore
theorem PH (B b : Nat) (bs : List Value) (s : ByteArray) (w : World) (h : Lib.IsBuilderF 137 5 B b bs w) (hlen : bs.length + s.size ≤ 140737488355328) (hBw : B ≤ w.heap.size) :
   Calls Tryz.prog 63 #[.pointer (some ⟨b, 0, none⟩), .string s] w fun e w' => e = .returned (.tuple #[.int .i64 s.size, .nilIface]) ∧ (Lib.BuilderAtF 137 5 B b (.pointer (some ⟨b, 0, none⟩)) (bs ++ Lib.strCells s) w' ∧ Below B w w' ∧ Lib.OthersKept 5 (some b) w w') :=
 Any.Builder_WriteString_k Tryz.lays166 Tryz.Builder_Extra_166 B b bs s w h hlen hBw
theorem WJ (B b : Nat) (l : List UInt8) (w : World) (h : Lib.IsBuilderF 137 5 B b (Lib.byteCells l) w) (hBw : B ≤ w.heap.size) :
   Calls Tryz.prog 64 #[.pointer (some ⟨b, 0, none⟩)] w fun e w' => e = .returned (.string ⟨l.toArray⟩) ∧ Below B w w' :=
 (Any.Builder_String_any_k Tryz.lays169 Tryz.Builder_Extra_169 B b l w h hBw).mono fun _ _ h => ⟨h.1, h.2.2.1⟩
theorem Yu {T : Nat → Prop} {B b : Nat} {p : Value} {bs : List Value} {w w' : World} (h : Lib.BuilderAtF 137 5 B b p bs w) (f : Fr T w w') (hb : ¬ T b) (hT : ∀ k, T k → ∀ c fz, w.heap[k]? ≠ some (.cells c 5 fz)) : Lib.BuilderAtF 137 5 B b p bs w' := by
 obtain ⟨hB, v, hv, hown, hne⟩ := h
 refine ⟨hB, v, (f.block b (Array.getElem?_eq_some_iff.1 hv).1 hb).trans hv, ⟨hown.1, ?_⟩, hne⟩
 rcases hown.2 with h' | ⟨g, cap, cur, fz, h1, h2, h3, h4⟩
 · exact .inl h'
 · exact .inr ⟨g, cap, cur, fz, h1, h2, (f.block g (Array.getElem?_eq_some_iff.1 h3).1 (fun hg => hT g hg _ _ h3)).trans h3, h4⟩
theorem Ob.others {w w' : World} {k b : Nat} {o : Obj} (h : Ob w k o) (f : Lib.OthersKept 5 (some b) w w') (hk : k ≠ b) (ho : ∀ c fz, o ≠ .cells c 5 fz) : Ob w' k o := f k o h (fun e => hk (Option.some.inj e)) ho
end Go.Proofs.YtchfmgbjddopoaaGreatDoor.Hand
end
namespace Go.Proofs.YtchfmgbjddopoaaGreatDoor.Hand
open Go.RowKit Go.Proofs.YtchfmgbjddopoaaGreatDoorW.PrintWords Go.Proofs.YtchfmgbjddopoaaGreatDoorW.PrintLast Go.Proofs.YtchfmgbjddopoaaGreatDoorW.PrintMore
attribute [local go_sem ↓] Go.wp_at_zero Go.wp_at_succ
abbrev EU (st l : Nat) (b n : Int) : Array Value := #[.pointer (some ⟨st, 0, none⟩), .map (some l), .int .i64 b, .int .i64 n]
theorem Dt {w : World} {s st l : Nat} {b n : Int} (h : Bk w s (EU st l b n) 195) : w.cell? ⟨s, 0, none⟩ = some (.pointer (some ⟨st, 0, none⟩)) ∧ w.cell? ⟨s, 1, none⟩ = some (.map (some l)) ∧ w.cell? ⟨s, 2, none⟩ = some (.int .i64 b) ∧ w.cell? ⟨s, 3, none⟩ = some (.int .i64 n) ∧ Bk w s (EU st l b n) 195 :=
 ⟨h.cell rfl, h.cell rfl, h.cell rfl, h.cell rfl, h⟩
theorem Su (w : World) (s st l : Nat) (hs : Bk w s (EU st l 0 0) 195) (hl : Mp w l #[] 0) (hne : s ≠ l) :
   Calls Tryz.prog 139 #[.pointer (some ⟨s, 0, none⟩)] w fun e w' => e = .returned (.tuple #[.int .i64 1, .int .i64 0]) ∧ ∃ x mw, w.heap.size ≤ x ∧ w.heap.size ≤ mw ∧ x ≠ mw ∧ Bk w' s (EU st l 1 0) 195 ∧
     Mp w' l #[⟨.int .i64 1, .pointer (some ⟨x, 0, none⟩), 0⟩] 1 ∧ Bk w' x #[.int .i64 0, .int .u8 0, .map (some mw)] 244 ∧ Mp w' mw #[] 0 ∧ Fr (fun k => k = s ∨ k = l) w w' := by
 obtain ⟨c0, c1, c2, c3, _⟩ := Dt hs
 have hf := hs.free 2
 have hlen := run_len_map hl Tryz.underlying193 3
 replace hs := Aa.mk hs
 replace hl := Aa.mk hl
 replace hne := Aa.mk hne
 go_enter Tryz.func139, Tryz.ntmps139
 go_wp2_with (first
   | ((with_reducible refine Af (t := 2) (p := 16) (v := .tmp 14) rfl ?_); refine Ig rfl (ty := 2) (x := .tmp 16) (y := .tmp 14) (b := s) (j := 2) (v := .int .i64 1) rfl (by first | (go_simp; done) | (go_simp; rfl)) hs.out (EU st l 1 0) rfl ?_; intro w1 hs1 f1; have hl1 := Aa.mk (hl.out.fr f1.out (Ne.symm hne.out)); clear hlen c0 c1 c2 c3 hf; obtain ⟨c0, c1, c2, c3, _⟩ := Dt hs1.out))
 have hup : ∀ (o1 o2 : Obj) (v : Value), (Instr.mapUpdate 193 (.map (some l)) (.int .i64 1) v).run Tryz.prog ((w1.alloc o1).alloc o2).drew = .ok () (Cc ((w1.alloc o1).alloc o2).drew l (.map #[⟨.int .i64 1, v, 0⟩] 1)) := fun o1 o2 v =>
   DJ (Ob.drew ((hl1.out.alloc o1).alloc o2)) Tryz.underlying193 (QP _) Qr
 have hmm := @run_makeMap Tryz.prog
 refine wp_region_noPanic ?_
 go_region_held_law (fun w' => w'.cell? ⟨s, 0, none⟩ = some (.pointer (some ⟨st, 0, none⟩)) ∧ w'.cell? ⟨s, 1, none⟩ = some (.map (some l)) ∧ w'.cell? ⟨s, 2, none⟩ = some (.int .i64 1) ∧ w'.cell? ⟨s, 3, none⟩ = some (.int .i64 0) ∧ Bk w' s (EU st l 1 0) 195)
   ((refine Dt ?_; repeat (first | exact hs1.out | (go_split_ands; assumption) | refine Ob.drew ?_ | refine Ob.alloc ?_ _ | refine Ob.Bi ?_ hne.out _)))
   (fail)
 refine NoPanic.normal ?_
 have h1 := f1.out.size
 have hll := hl1.out.lt
 have hsl := hs1.out.lt
 have e2 : ((w1.alloc (Obj.map #[] 0)).alloc (Obj.cells #[Value.int IntKind.i64 0, Value.int IntKind.u8 0, Value.map (some w1.heap.size)] 244)).heap.size = w1.heap.size + 1 + 1 := by simp
 have bx : Aa (Bk ((w1.alloc (Obj.map #[] 0)).alloc (Obj.cells #[Value.int IntKind.i64 0, Value.int IntKind.u8 0, Value.map (some w1.heap.size)] 244)) (w1.heap.size + 1) #[Value.int IntKind.i64 0, Value.int IntKind.u8 0, Value.map (some w1.heap.size)] 244) := ⟨by
   have := Ob.new (w1.alloc (Obj.map #[] 0)) (Obj.cells #[Value.int IntKind.i64 0, Value.int IntKind.u8 0, Value.map (some w1.heap.size)] 244)
   rwa [show (w1.alloc (Obj.map #[] 0)).heap.size = w1.heap.size + 1 by simp] at this⟩
 have bm : Aa (Mp ((w1.alloc (Obj.map #[] 0)).alloc (Obj.cells #[Value.int IntKind.i64 0, Value.int IntKind.u8 0, Value.map (some w1.heap.size)] 244)) w1.heap.size #[] 0) := ⟨(Ob.new w1 _).alloc _⟩
 have bs : Aa (Bk ((w1.alloc (Obj.map #[] 0)).alloc (Obj.cells #[Value.int IntKind.i64 0, Value.int IntKind.u8 0, Value.map (some w1.heap.size)] 244)) s (EU st l 1 0) 195) := ⟨(hs1.out.alloc _).alloc _⟩
 have bl : Aa (Mp ((w1.alloc (Obj.map #[] 0)).alloc (Obj.cells #[Value.int IntKind.i64 0, Value.int IntKind.u8 0, Value.map (some w1.heap.size)] 244)) l #[] 0) := ⟨(hl1.out.alloc _).alloc _⟩
 have fr : Aa (Fr (fun k => k = s ∨ k = l) w ((w1.alloc (Obj.map #[] 0)).alloc (Obj.cells #[Value.int IntKind.i64 0, Value.int IntKind.u8 0, Value.map (some w1.heap.size)] 244))) := ⟨((f1.out.weaken (fun _ _ h => .inl h)).alloc _).alloc _⟩
 generalize (w1.alloc (Obj.map #[] 0)).alloc (Obj.cells #[Value.int IntKind.i64 0, Value.int IntKind.u8 0, Value.map (some w1.heap.size)] 244) = w3 at *
 have bl4 := Aa.mk (Ob.put (bl.out.drew) (Obj.map #[⟨.int .i64 1, .pointer (some ⟨w1.heap.size + 1, 0, none⟩), 0⟩] 1))
 have bs4 := Aa.mk (Ob.Bi bs.out.drew hne.out (Obj.map #[⟨.int .i64 1, .pointer (some ⟨w1.heap.size + 1, 0, none⟩), 0⟩] 1))
 have bx4 := Aa.mk (Ob.Bi bx.out.drew (show w1.heap.size + 1 ≠ l by omega) (Obj.map #[⟨.int .i64 1, .pointer (some ⟨w1.heap.size + 1, 0, none⟩), 0⟩] 1))
 have bm4 := Aa.mk (Ob.Bi bm.out.drew (show w1.heap.size ≠ l by omega) (Obj.map #[⟨.int .i64 1, .pointer (some ⟨w1.heap.size + 1, 0, none⟩), 0⟩] 1))
 have fr4 := Aa.mk (Fr.put fr.out.drew l (Obj.map #[⟨.int .i64 1, .pointer (some ⟨w1.heap.size + 1, 0, none⟩), 0⟩] 1) (.inl (.inr rfl)))
 clear bl bs bx bm fr hup hmm c0 c1 c2 c3
 generalize Cc w3.drew l (Obj.map #[⟨.int .i64 1, .pointer (some ⟨w1.heap.size + 1, 0, none⟩), 0⟩] 1) = w4 at *
 obtain ⟨c0, c1, c2, c3, _⟩ := Dt bs4.out
 go_wp2_with fail
 go_returns
 exact ⟨rfl, w1.heap.size + 1, w1.heap.size, by omega, by omega, by omega, bs4.out, bl4.out, bx4.out, bm4.out, fr4.out⟩
end Go.Proofs.YtchfmgbjddopoaaGreatDoor.Hand
