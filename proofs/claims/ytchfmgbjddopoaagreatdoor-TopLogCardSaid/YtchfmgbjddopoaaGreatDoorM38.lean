import Derived.Test.YtchfmgbjddopoaaGreatDoorM03
import Derived.Test.YtchfmgbjddopoaaGreatDoorM04
import Derived.Test.YtchfmgbjddopoaaGreatDoorM05
import Derived.Test.YtchfmgbjddopoaaGreatDoorM20
import Derived.Test.YtchfmgbjddopoaaGreatDoorM37
set_option linter.unusedVariables false
set_option linter.unusedSimpArgs false
set_option maxHeartbeats 6400000
set_option maxRecDepth 100000
namespace Go.Proofs.YtchfmgbjddopoaaGreatDoor.Hand
open Go.RowKit Go.Proofs.YtchfmgbjddopoaaGreatDoorW.PrintWords Go.Proofs.YtchfmgbjddopoaaGreatDoorW.PrintLast Go.Proofs.YtchfmgbjddopoaaGreatDoorW.PrintMore
attribute [local go_sem ↓] Go.wp_at_zero Go.wp_at_succ
abbrev RN (mw : Nat) : Array Value := #[.int .i64 0, .int .u8 0, .map (some mw)]
abbrev J4 (x : Nat) : Array MapEntry := #[⟨.int .i64 1, .pointer (some ⟨x, 0, none⟩), 0⟩]
theorem YR (W : World) : (zeroValue 105).run Tryz.prog W = .ok (.agg Z18) W := by kernel_rfl
theorem Xq : ∀ v ∈ Z18.toList, v.oneCell' = true := by
 intro v hv
 simp [Z18] at hv
 rcases hv with rfl | rfl | rfl <;> rfl
theorem RY (w : World) : (storeCells ⟨w.heap.size, 0, none⟩ Z18.toList).run Tryz.prog ((w.alloc (.cells #[.int .u8 0, .int .u8 0, .int .u8 0, .int .u8 0, .int .u8 0, .int .u8 0, .int .u8 0, .int .u8 0, .int .u8 0, .int .u8 0, .int .u8 0, .int .u8 0, .int .u8 0, .int .u8 0, .int .u8 0, .int .u8 0, .string ⟨#[]⟩, .bool false] 105)).drew) = .ok () ((w.alloc (.cells #[.int .u8 0, .int .u8 0, .int .u8 0, .int .u8 0, .int .u8 0, .int .u8 0, .int .u8 0, .int .u8 0, .int .u8 0, .int .u8 0, .int .u8 0, .int .u8 0, .int .u8 0, .int .u8 0, .int .u8 0, .int .u8 0, .string ⟨#[]⟩, .bool false] 105)).drew.setCells w.heap.size 0 Z18.toList) :=
 run_storeCells_cells (P := Tryz.prog) w.heap.size 0 Z18.toList 0 _ (fun j hj => Bk.isSome (Ob.drew (Ob.new w (.cells Z18 105))) (by simpa using hj)) (fun j _ => Bk.free (Ob.drew (Ob.new w (.cells Z18 105))) _) Xq
theorem LK {w' : World} {x mw g5 : Nat} (hx : Bk w' x (RN mw) 244) (hm : Mp w' mw #[] 0) (h5 : Bk w' g5 WA 105) :
   w'.cell? ⟨x, 2, none⟩ = some (.map (some mw)) ∧ w'.rangeAt g5 0 KA.toList ∧ (Instr.lookup 242 (.map (some mw)) (.agg KA) true).run Tryz.prog w' = .ok (.tuple #[.agg Z18, .bool false]) w' ∧ Bk w' x (RN mw) 244 ∧ Mp w' mw #[] 0 ∧ Bk w' g5 WA 105 :=
 ⟨hx.cell rfl, h5.range 0 16 FO, CV (ok := true) hm Tryz.underlying242 (Xg _) Ed YR, hx, hm, h5⟩
theorem VJ (w : World) (s st l x mw : Nat) (hs : Bk w s (EU st l 1 0) 195) (hl : Mp w l (J4 x) 1) (hx : Bk w x (RN mw) 244) (hm : Mp w mw #[] 0) :
   Calls Tryz.prog 154 #[.pointer (some ⟨s, 0, none⟩), .int .i64 1, .agg WA] w fun e w' => e = .returned (.int .i64 0) ∧ Mp w' mw #[⟨.agg KA, .agg WA, 0⟩] 1 ∧ Fr (fun k => k = mw) w w' := by
 replace hs := Aa.mk hs
 replace hl := Aa.mk hl
 replace hx := Aa.mk hx
 replace hm := Aa.mk hm
 go_enter Tryz.func154, Tryz.ntmps154
 go_wp2_with (first
   | ((with_reducible refine Ac (N := 5) rfl ?_); refine Aj (N := 5) (C := WA) rfl rfl (by first | (go_simp; done) | (go_simp; rfl)) ?_; intro g5 w1 h5 b5 f1; have hs1 := Aa.mk (hs.out.Ad f1.out); have hl1 := Aa.mk (hl.out.Ad f1.out); have hx1 := Aa.mk (hx.out.Ad f1.out); have hm1 := Aa.mk (hm.out.Ad f1.out); obtain ⟨c0, c1, c2, c3, _⟩ := Dt hs1.out; have hlk := Dz (ok := false) hl1.out Tryz.underlying193 (QP _) (Ug _ _))
   | ((with_reducible refine Ac (N := 20) rfl ?_); refine Au (N := 20) rfl rfl rfl rfl b5.out Tryz.underlying105 rfl Bl WA.toList Ny rfl ?_)
   | ((with_reducible refine Ac (N := 21) rfl ?_); refine Cb (N := 21) (n := 1) (C := WA) rfl rfl (by first | (go_simp; done) | (go_simp; rfl)) ?_; intro g21 w2 h21 b21 f2)
   | (go_at_call 81; refine (J7 _ _ _ Ny b21.out).mono ?_; rintro e w3 ⟨rfl, f3⟩; replace f3 := Aa.mk f3))
 have hx3 := Aa.mk ((hx1.out.Ad f2.out).Ad f3.out)
 have hm3 := Aa.mk ((hm1.out.Ad f2.out).Ad f3.out)
 have b53 := Aa.mk ((b5.out.Ad f2.out).Ad f3.out)
 clear hlk c0 c1 c2 c3
 have i96 : (Tryz.prog.info? 105).map (·.size) = some WA.toList.length := Bl
 have u79 := Tryz.underlying103
 have i79 : (Tryz.prog.info? 103).map (·.size) = some KA.toList.length := AB
 obtain ⟨w6, hst, hx6, hm6, b56, f6⟩ : ∃ w6, (storeCells ⟨w3.heap.size, 0, none⟩ Z18.toList).run Tryz.prog ((w3.alloc (.cells #[.int .u8 0, .int .u8 0, .int .u8 0, .int .u8 0, .int .u8 0, .int .u8 0, .int .u8 0, .int .u8 0, .int .u8 0, .int .u8 0, .int .u8 0, .int .u8 0, .int .u8 0, .int .u8 0, .int .u8 0, .int .u8 0, .string ⟨#[]⟩, .bool false] 105)).drew) = .ok () w6 ∧ Aa (Bk w6 x (RN mw) 244) ∧ Aa (Mp w6 mw #[] 0) ∧ Aa (Bk w6 g5 WA 105) ∧ Aa (Fr (fun _ => False) w3 w6) :=
   ⟨_, RY w3, ⟨Ob.Le (Nat.ne_of_lt hx3.out.lt) _ _ (hx3.out.alloc _).drew⟩, ⟨Ob.Le (Nat.ne_of_lt hm3.out.lt) _ _ (hm3.out.alloc _).drew⟩, ⟨Ob.Le (Nat.ne_of_lt b53.out.lt) _ _ (b53.out.alloc _).drew⟩, ⟨Fr.sets _ _ ((Fr.refl _ _).alloc _).drew (.inr (Nat.le_refl _))⟩⟩
 have hxm : Aa (x ≠ mw) := ⟨fun e => by have h1 := hx.out; have h2 := hm.out; rw [e] at h1; have := Option.some.inj (h1.symm.trans h2); cases this⟩
 have h5m : Aa (g5 ≠ mw) := ⟨by have := hm.out.lt; have := h5.out; omega⟩
 refine wp_region_noPanic ?_
 go_region_held_law (fun w' => w'.cell? ⟨x, 2, none⟩ = some (.map (some mw)) ∧ w'.rangeAt g5 0 KA.toList ∧ (Instr.lookup 242 (.map (some mw)) (.agg KA) true).run Tryz.prog w' = .ok (.tuple #[.agg Z18, .bool false]) w' ∧ Bk w' x (RN mw) 244 ∧ Mp w' mw #[] 0 ∧ Bk w' g5 WA 105)
   ((first | exact LK hx6.out hm6.out b56.out | exact LK hx3.out.drew hm3.out.drew b53.out.drew | exact LK (hx3.out.alloc _).drew (hm3.out.alloc _).drew (b53.out.alloc _).drew))
   (fail)
 all_goals refine NoPanic.normal ?_
 all_goals have x2 := Bk.cell hx6.out (j := 2) rfl
 all_goals have hlen := run_len_map hm6.out Tryz.underlying242 3
 all_goals go_wp2_with fail
 all_goals clear hlen x2 hst
 all_goals have hup : (Instr.mapUpdate 242 (.map (some mw)) (.agg KA) (.agg WA)).run Tryz.prog w6.drew = .ok () (Cc w6.drew mw (.map #[⟨.agg KA, .agg WA, 0⟩] 1)) := DJ hm6.out.drew Tryz.underlying242 (Xg _) Ed
 all_goals refine wp_region_noPanic ?_
 all_goals refine wp_region_held_drew (S := fun w' => w'.cell? ⟨x, 2, none⟩ = some (.map (some mw)) ∧ Bk w' x (RN mw) 244 ∧ Bk w' g5 WA 105) (by kernel_rfl) ⟨Bk.cell hx6.out.drew (j := 2) rfl, hx6.out.drew, b56.out.drew⟩ (fun hHeld => ?_)
 all_goals refine wpAnyH_take (i := 0) (v := .pointer (some ⟨x, 0, none⟩)) rfl (by kernel_rfl) (by kernel_rfl) (by kernel_rfl) (fun _ _ _ h => h) (Or.inl ⟨by rfl, fun w hSw => by obtain ⟨s2, s5, _⟩ := hSw; go_simp⟩) hHeld ?_
 all_goals try simp only [Act.put, List.setIfInBounds_toArray, List.set_cons_zero, List.set_cons_succ]
 all_goals refine wpAnyH_take (i := 1) (v := .pointer (some ⟨x, 0, none⟩)) rfl (by kernel_rfl) (by kernel_rfl) (by kernel_rfl) (fun _ _ _ h => h) (Or.inl ⟨by rfl, fun w hSw => by obtain ⟨s2, s5, _⟩ := hSw; go_simp⟩) hHeld ?_
 all_goals try simp only [Act.put, List.setIfInBounds_toArray, List.set_cons_zero, List.set_cons_succ]
 all_goals refine wpAnyH_take (i := 2) (v := .pointer (some ⟨x, 2, none⟩)) rfl (by kernel_rfl) (by kernel_rfl) (by kernel_rfl) (fun _ _ _ h => h) (Or.inl ⟨by rfl, fun w hSw => by obtain ⟨s2, s5, _⟩ := hSw; go_simp⟩) hHeld ?_
 all_goals try simp only [Act.put, List.setIfInBounds_toArray, List.set_cons_zero, List.set_cons_succ]
 all_goals refine wpAnyH_take (i := 3) (v := .map (some mw)) rfl (by kernel_rfl) (by kernel_rfl) (by kernel_rfl) (fun _ _ _ h => h) (Or.inl ⟨by rfl, fun w hSw => by obtain ⟨s2, s5, _⟩ := hSw; go_simp⟩) hHeld ?_
 all_goals try simp only [Act.put, List.setIfInBounds_toArray, List.set_cons_zero, List.set_cons_succ]
 all_goals refine wpAnyH_take (i := 4) (v := .pointer (some ⟨g5, 0, none⟩)) rfl (by kernel_rfl) (by kernel_rfl) (by kernel_rfl) (fun _ _ _ h => h) (Or.inl ⟨by rfl, fun w hSw => by obtain ⟨s2, s5, _⟩ := hSw; go_simp⟩) hHeld ?_
 all_goals try simp only [Act.put, List.setIfInBounds_toArray, List.set_cons_zero, List.set_cons_succ]
 all_goals refine wpAnyH_take (i := 5) (v := .agg KA.toList.toArray) rfl (by kernel_rfl) (by kernel_rfl) (by kernel_rfl) (fun _ _ _ h => h) (yieldsIf_load_mid (by rfl) 103 _ rfl g5 0 rfl KA.toList _ (fun w hSw => hSw.2.2.range 0 16 FO) Tryz.underlying103 rfl i79) hHeld ?_
 all_goals try simp only [Act.put, List.setIfInBounds_toArray, List.set_cons_zero, List.set_cons_succ]
 all_goals refine wpAnyH_take (i := 6) (v := .agg WA.toList.toArray) rfl (by kernel_rfl) (by kernel_rfl) (by kernel_rfl) (fun _ _ _ h => h) (yieldsIf_load_mid (by rfl) 105 _ rfl g5 0 rfl WA.toList _ (fun w hSw => hSw.2.2.range 0 18 Ny) Tryz.underlying105 rfl i96) hHeld ?_
 all_goals try simp only [Act.put, List.setIfInBounds_toArray, List.set_cons_zero, List.set_cons_succ]
 all_goals refine wpAnyH_ready (rs := [7]) (by kernel_rfl) (by simp) (AllReadyH.cons rfl (fun K hK => ?_) AllReadyH.nil)
 all_goals go_simp
 all_goals refine hK.out _ _ ⟨Bk.cell (hx6.out.drew.Bi hxm.out _) (j := 2) rfl, hx6.out.drew.Bi hxm.out _, b56.out.drew.Bi h5m.out _⟩ (fun _ => ?_)
 all_goals refine wpAnyH_done (by kernel_rfl) ?_ _
 all_goals refine NoPanic.normal ?_
 all_goals have bm7 := Aa.mk (Ob.put hm6.out.drew (.map #[⟨.agg KA, .agg WA, 0⟩] 1))
 all_goals have f7 := Aa.mk (Fr.put (T1 := fun k => k = mw) (Fr.drew (Fr.refl _ w6)) mw (.map #[⟨.agg KA, .agg WA, 0⟩] 1) (.inl rfl))
 all_goals generalize Cc w6.drew mw (.map #[⟨.agg KA, .agg WA, 0⟩] 1) = w7 at *
 all_goals go_wp2_with fail
 all_goals go_returns
 all_goals exact ⟨rfl, bm7.out, (Fr.of_below f1.out).trans ((Fr.of_below f2.out).trans ((Fr.of_below f3.out).trans ((f6.out.weaken (fun _ _ h => h.elim)).trans f7.out)))⟩
structure Ap (C : Array Value) (st ch g g4 : Nat) (w : World) : Prop where
 s : Bk w st #[.map (some ch)] 158
 m : Mp w ch #[] 0
 b : Bk w g C 105
 t : Bk w g4 S1 32
theorem Ap.below {C : Array Value} {st ch g g4 : Nat} {w w' : World} (h : Ap C st ch g g4 w) (f : Below w.heap.size w w') : Ap C st ch g g4 w' := ⟨h.s.Ad f, h.m.Ad f, h.b.Ad f, h.t.Ad f⟩
theorem Ap.fr {C : Array Value} {st ch g g4 k0 : Nat} {w w' : World} (h : Ap C st ch g g4 w) (f : Fr (fun k => k = k0) w w') (B : Nat) (h0 : B ≤ k0) (h1 : st < B) (h2 : ch < B) (h3 : g < B) (h4 : g4 < B) : Ap C st ch g g4 w' :=
 ⟨h.s.fr f (by omega), h.m.fr f (by omega), h.b.fr f (by omega), h.t.fr f (by omega)⟩
theorem Ap.over {C : Array Value} {st ch g g4 k0 : Nat} {w0 w w' : World} (h0 : Ap C st ch g g4 w0) (h : Ap C st ch g g4 w) (f : Fr (fun k => k = k0) w w') (hk : w0.heap.size ≤ k0) : Ap C st ch g g4 w' :=
 h.fr f w0.heap.size hk h0.s.lt h0.m.lt h0.b.lt h0.t.lt
theorem PK {w' : World} {g8 g4 : Nat} (h : Bk w' g8 WA 105) (h4 : Bk w' g4 S1 32) :
   w'.rangeAt g8 0 KA.toList ∧ w'.cell? ⟨g4, 0, none⟩ = some (.int .i64 1) ∧ w'.cell? ⟨g4, 1, none⟩ = some (.int .u8 0) ∧ Bk w' g8 WA 105 ∧ Bk w' g4 S1 32 :=
 ⟨h.range 0 16 FO, h4.cell rfl, h4.cell rfl, h, h4⟩
theorem RH {w' : World} {st ch g : Nat} (hs : Bk w' st #[.map (some ch)] 158) (h : Bk w' g WA 105) :
   w'.cell? ⟨st, 0, none⟩ = some (.map (some ch)) ∧ w'.rangeAt g 0 KA.toList ∧ Bk w' st #[.map (some ch)] 158 ∧ Bk w' g WA 105 :=
 ⟨hs.cell rfl, h.range 0 16 FO, hs, h⟩
theorem Oq (w : World) (st ch g n : Nat) (hs : Bk w st #[.map (some ch)] 158) (hm : Mp w ch #[] 0) {C : Array Value} (hC : (C.extract 0 (0 + 18)).toList = WA.toList) (hb : Bk w g C 105) :
   Calls Tryz.prog 87 #[.pointer (some ⟨st, 0, none⟩), .agg S1, .slice (some ⟨g, 0, none⟩) 1 n] w fun e w' => e = .returned (.int .i64 0) ∧ Fr (fun k => k = ch) w w' := by
 have hsm : Aa (st ≠ ch) := ⟨fun e => by rw [e] at hs; have := Option.some.inj (hs.symm.trans hm); cases this⟩
 replace hs := Aa.mk hs
 replace hm := Aa.mk hm
 replace hb := Aa.mk hb
 go_enter Tryz.func87, Tryz.ntmps87
 go_wp2_with (first
   | ((with_reducible refine Ac (N := 4) rfl ?_); refine Aj (N := 4) (C := S1) rfl rfl (by first | (go_simp; done) | (go_simp; rfl)) ?_; intro g4 w1 h4 b4 f1; have A1 := Aa.mk (Ap.mk (hs.out.Ad f1.out) (hm.out.Ad f1.out) (hb.out.Ad f1.out) b4.out); have c0 : w1.cell? ⟨g4, 0, none⟩ = some (.int .i64 1) := Bk.cell b4.out rfl; have c1 : w1.cell? ⟨g4, 1, none⟩ = some (.int .u8 0) := Bk.cell b4.out rfl)
   | (go_at_call 29; refine (Ko _).mono ?_; rintro e w2 ⟨rfl, f2⟩; replace f2 := Aa.mk f2; have A2 := Aa.mk (A1.out.below f2.out); clear c0 c1)
   | (go_at_call 115; refine (RZ _ _ _).mono ?_; rintro e w2' ⟨rfl, rfl⟩)
   | (go_at_call 81; refine (J7 _ _ _ hC A2.out.b).mono ?_; rintro e w3 ⟨rfl, f3⟩; replace f3 := Aa.mk f3; have A3 := Aa.mk (A2.out.below f3.out)))
 refine wp_loop_rounds 3 ?_
 rw [rounds_succ]
 go_wp2_with (first
   | ((with_reducible refine Ac (N := 30) rfl ?_); refine Au (N := 30) rfl rfl rfl rfl A3.out.b Tryz.underlying105 rfl Bl WA.toList hC rfl ?_)
   | ((with_reducible refine Ac (N := 8) rfl ?_); refine Aj (N := 8) (C := Z18) rfl rfl (by first | (go_simp; done) | (go_simp; rfl)) ?_; intro g8 w4 h8 b8 f4; have A4 := Aa.mk (A3.out.below f4.out))
   | ((with_reducible refine Af (t := 105) (p := 8) (v := .tmp 30) rfl ?_); refine Ak rfl (ty := 105) (x := .tmp 8) (y := .tmp 30) rfl rfl rfl b8.out Bl IV (by decide) WA Fp ?_; intro w5 b85 f5; have A5 := Aa.mk (A3.out.over A4.out f5.out h8.out)))
 have u79 := Tryz.underlying103
 have i79 : (Tryz.prog.info? 103).map (·.size) = some KA.toList.length := AB
 refine wp_region_noPanic ?_
 go_region_held_law (fun w' => w'.rangeAt g8 0 KA.toList ∧ w'.cell? ⟨g4, 0, none⟩ = some (.int .i64 1) ∧ w'.cell? ⟨g4, 1, none⟩ = some (.int .u8 0) ∧ Bk w' g8 WA 105 ∧ Bk w' g4 S1 32)
   ((first | exact PK b85.out.drew A5.out.t.drew | exact PK (Aa.out b87) (Aa.out A7).t | exact PK (Aa.out b86) (Aa.out A6).t))
   ((first
     | (go_at_call 92; refine (D5 _ _ _ A5.out.s.drew A5.out.m.drew).mono ?_; rintro e w6 ⟨p6, rfl, hp6, bp6, f6⟩; replace f6 := Aa.mk f6; replace bp6 := Aa.mk bp6; have A6 := Aa.mk (Ap.below (w := w5.drew) ⟨A5.out.s, A5.out.m, A5.out.b, A5.out.t⟩ f6.out); have b86 := Aa.mk (Ob.Ad b85.out.drew f6.out))
     | (go_at_call 127; refine (Wn _ _ (Aa.out bp6)).mono ?_; rintro e w7 ⟨rfl, f7⟩; replace f7 := Aa.mk f7; have A7 := Aa.mk ((Aa.out A6).below f7.out); have b87 := Aa.mk (Ob.Ad (Aa.out b86) f7.out))))
 refine NoPanic.normal ?_
 go_split_ands
 clear u79 i79
 go_wp2_with fail
 rw [rounds_succ]
 go_wp2_with (first
   | (go_at_call 128; refine (RX _ _ _ _ _ A7.out.s A7.out.m hC A7.out.b).mono ?_; rintro e w8 ⟨rfl, f8⟩; replace f8 := Aa.mk f8; have A8 := Aa.mk (A7.out.below f8.out)))
 refine wp_loop_rounds 3 ?_
 rw [rounds_succ]
 go_wp2_with (first
   | ((with_reducible refine Ac (N := 47) rfl ?_); refine Au (N := 47) rfl rfl rfl rfl A8.out.b Tryz.underlying105 rfl Bl WA.toList hC rfl ?_)
   | ((with_reducible refine Ac (N := 10) rfl ?_); refine Aj (N := 10) (C := Z18) rfl rfl (by first | (go_simp; done) | (go_simp; rfl)) ?_; intro g10 w9 h10 b10 f9; have A9 := Aa.mk (A8.out.below f9.out))
   | ((with_reducible refine Af (t := 105) (p := 10) (v := .tmp 47) rfl ?_); refine Ak rfl (ty := 105) (x := .tmp 10) (y := .tmp 47) rfl rfl rfl b10.out Bl IV (by decide) WA Fp ?_; intro w10 b1010 f10; have A10 := Aa.mk (A8.out.over A9.out f10.out h10.out))
   | ((with_reducible refine Ac (N := 50) rfl ?_); refine Au (N := 50) rfl rfl rfl rfl b1010.out Tryz.underlying103 rfl AB KA.toList FO rfl ?_)
   | (go_at_call 92; refine (D5 _ _ _ A10.out.s A10.out.m).mono ?_; rintro e w11 ⟨p, rfl, hp, bp, f11⟩; replace f11 := Aa.mk f11; replace bp := Aa.mk bp; replace hp := Aa.mk hp; have A11 := Aa.mk (A10.out.below f11.out); have b1011 := Aa.mk (b1010.out.Ad f11.out); have c0 : w11.cell? ⟨g4, 0, none⟩ = some (.int .i64 1) := Bk.cell A11.out.t rfl; have c1 : w11.cell? ⟨g4, 1, none⟩ = some (.int .u8 0) := Bk.cell A11.out.t rfl; have c16 := Bk.cell b1011.out YJ; have c17 := Bk.cell b1011.out YI)
   | (go_at_call 95; refine (Vo _ _ bp.out).mono ?_; rintro e w12 ⟨rfl, f12⟩; replace f12 := Aa.mk f12; have A12 := Aa.mk (A10.out.over A11.out f12.out hp.out); have b1012 := Aa.mk (b1011.out.fr f12.out (by have := b1010.out.lt; have := hp.out; omega)); clear c0 c1 c16 c17))
 have u79 := Tryz.underlying103
 have i79 : (Tryz.prog.info? 103).map (·.size) = some KA.toList.length := AB
 have hup : (Instr.mapUpdate 156 (.map (some ch)) (.agg KA) (.pointer (some ⟨p, 0, none⟩))).run Tryz.prog w12.drew = .ok () (Cc w12.drew ch (.map #[⟨.agg KA, .pointer (some ⟨p, 0, none⟩), 0⟩] 1)) := DJ A12.out.m.drew Tryz.underlying156 (Xg _) Ed
 have hne : Aa (g10 ≠ ch) := ⟨by have := A8.out.m.lt; have := h10.out; omega⟩
 refine wp_region_noPanic ?_
 go_region_held_law (fun w' => w'.cell? ⟨st, 0, none⟩ = some (.map (some ch)) ∧ w'.rangeAt g10 0 KA.toList ∧ Bk w' st #[.map (some ch)] 158 ∧ Bk w' g10 WA 105)
   ((first | exact RH A12.out.s.drew b1012.out.drew | exact RH (A12.out.s.drew.Bi hsm.out _) (b1012.out.drew.Bi hne.out _)))
   (fail)
 refine NoPanic.normal ?_
 go_split_ands
 clear u79 i79 hup
 go_wp2_with fail
 rw [rounds_succ]
 go_wp2_with fail
 go_returns
 refine ⟨rfl, ?_⟩
 have q1 := f1.out.size
 have q2 := f2.out.size
 have q3 := f3.out.size
 have q4 := f4.out.size
 have q5 := f5.out.size
 have q6 := f6.out.size
 have q7 := f7.out.size
 have q8 := f8.out.size
 have q9 := f9.out.size
 have q10 := f10.out.size
 have q11 := f11.out.size
 have q12 := h8.out
 have q13 := h10.out
 have q14 := hp.out
 have e6 : w5.drew.heap.size = w5.heap.size := rfl
 have F : Fr (fun k => k = g8 ∨ k = g10 ∨ k = p ∨ k = ch) w w12 :=
   (Fr.of_below f1.out).trans <| (Fr.of_below f2.out).trans <| (Fr.of_below f3.out).trans <| (Fr.of_below f4.out).trans <| (Fr.drew (f5.out.weaken (fun _ _ h => Or.inl h))).trans <| (Fr.of_below f6.out).trans <| (Fr.of_below f7.out).trans <| (Fr.of_below f8.out).trans <| (Fr.of_below f9.out).trans <| (f10.out.weaken (fun _ _ h => Or.inr (Or.inl h))).trans <| (Fr.of_below f11.out).trans <| f12.out.weaken (fun _ _ h => Or.inr (Or.inr (Or.inl h)))
 exact (F.drew.put ch _ (Or.inl (Or.inr (Or.inr (Or.inr rfl))))).weaken (fun k hk h => by omega)
theorem X6 : Lib.bitLen (1 : Int).toNat = 1 := by decide
theorem Yb (w : World) (s v : Value) : Calls Tryz.prog 306 #[s, .int .i64 0, .int .i64 1, v] w fun e w' => e = .returned (.tuple #[]) ∧ w' = w := by
 go_enter Tryz.func306, Tryz.ntmps306
 go_wp2
 refine wp_loop_rounds 1 ?_
 rw [rounds_succ]
 go_wp2
 go_returns
 exact ⟨rfl, rfl⟩
theorem XO (w : World) (s v : Value) (k : Int) : Calls Tryz.prog 303 #[s, .int .i64 0, .int .i64 1, .int .i64 k, v] w fun e w' => e = .returned (.tuple #[]) ∧ w' = w := by
 go_enter Tryz.func303, Tryz.ntmps303
 go_wp2
 refine wp_loop_rounds 1 ?_
 rw [rounds_succ]
 go_wp2_with (first
   | (go_at_call 306; refine (Yb _ _ _).mono ?_; rintro e w' ⟨rfl, rfl⟩))
 go_returns
 exact ⟨rfl, rfl⟩
theorem VH (w : World) (g c : Nat) (v : Value) : Calls Tryz.prog 292 #[.slice (some ⟨g, 0, none⟩) 1 c, v] w fun e w' => e = .returned (.tuple #[]) ∧ w' = w := by
 go_enter Tryz.func292, Tryz.ntmps292
 go_wp2_with (first
   | (go_at_call 182; refine (Tryz.bits_Len 1 _ (by decide) (by decide)).mono ?_; rintro e w' ⟨rfl, rfl⟩; rw [X6])
   | (go_at_call 303; refine (XO _ _ _ _).mono ?_; rintro e w' ⟨rfl, rfl⟩))
 go_returns
 exact ⟨rfl, rfl⟩
theorem PZ (w : World) (mw : Nat) (hm : Mp w mw Dj 1) : Calls Tryz.prog 258 #[.map (some mw)] w fun e w' => ∃ B, e = .returned (.func (.func 293) #[] #[.pointer (some ⟨B, 0, none⟩)]) ∧ Bk w' B #[.map (some mw)] 242 ∧ Mp w' mw Dj 1 ∧ Below w.heap.size w w' := by
 replace hm := Aa.mk hm
 go_enter Tryz.func258, Tryz.ntmps258
 go_wp2_with (first
   | ((with_reducible refine Ac (N := 1) rfl ?_); refine Aj (N := 1) (C := #[.map (some mw)]) rfl rfl (by first | (go_simp; done) | (go_simp; rfl)) ?_; intro B w1 hB b1 f1))
 go_returns
 exact ⟨B, rfl, b1.out, hm.out.Ad f1.out, f1.out⟩
theorem QD (w : World) (Bm mw : Nat) (hB : Bk w Bm #[.map (some mw)] 242) (hm : Mp w mw Dj 1) :
   Calls Tryz.prog 291 #[.func (.func 293) #[] #[.pointer (some ⟨Bm, 0, none⟩)]] w fun e w' => ∃ g c C, e = .returned (.slice (some ⟨g, 0, none⟩) 1 c) ∧ w.heap.size ≤ g ∧ Bk w' g C 105 ∧ (C.extract 0 (0 + 18)).toList = WA.toList ∧ Below w.heap.size w w' := by
 have hA := TS w Bm mw hB hm
 clear hB hm
 go_enter Tryz.func291, Tryz.ntmps291
 go_wp2_with (first
   | (go_at_call 302; refine hA.mono ?_; clear hA; rintro e w1 ⟨g, c, C, rfl, h⟩))
 go_returns
 exact ⟨g, c, C, rfl, h⟩
theorem Ot (w : World) (Bm mw : Nat) (hB : Bk w Bm #[.map (some mw)] 242) (hm : Mp w mw Dj 1) (v : Value) :
   Calls Tryz.prog 257 #[.func (.func 293) #[] #[.pointer (some ⟨Bm, 0, none⟩)], v] w fun e w' => ∃ g c C, e = .returned (.slice (some ⟨g, 0, none⟩) 1 c) ∧ w.heap.size ≤ g ∧ Bk w' g C 105 ∧ (C.extract 0 (0 + 18)).toList = WA.toList ∧ Below w.heap.size w w' := by
 have hA := QD w Bm mw hB hm
 clear hB hm
 go_enter Tryz.func257, Tryz.ntmps257
 go_wp2_with (first
   | (go_at_call 291; refine hA.mono ?_; clear hA; rintro e w1 ⟨g, c, C, rfl, h⟩; replace h := Aa.mk h)
   | (go_at_call 292; refine (VH _ _ _ _).mono ?_; rintro e w2 ⟨rfl, rfl⟩))
 go_returns
 exact ⟨g, c, C, rfl, h.out⟩
theorem PP (w : World) (mw : Nat) (hm : Mp w mw Dj 1) :
   Calls Tryz.prog 208 #[.map (some mw)] w fun e w' => ∃ g c C, e = .returned (.slice (some ⟨g, 0, none⟩) 1 c) ∧ w.heap.size ≤ g ∧ Bk w' g C 105 ∧ (C.extract 0 (0 + 18)).toList = WA.toList ∧ Below w.heap.size w w' := by
 have hA := PZ w mw hm
 clear hm
 go_enter Tryz.func208, Tryz.ntmps208
 go_wp2_with (first
   | (go_at_call 258; refine hA.mono ?_; clear hA; rintro e w1 ⟨B, rfl, hB, hm, f1⟩; have hA2 := Ot w1 B mw hB hm; clear hB hm; replace f1 := Aa.mk f1)
   | (go_at_call 257; refine (hA2 _).mono ?_; clear hA2; rintro e w2 ⟨g, c, C, rfl, hg, hb, hC, hl⟩; replace hb := Aa.mk hb; replace hC := Aa.mk hC; replace hl := Aa.mk hl; replace hg := Aa.mk hg))
 go_returns
 have q := f1.out.size
 exact ⟨g, c, C, rfl, Nat.le_trans q hg.out, hb.out, hC.out, f1.out.trans (hl.out.mono q)⟩
theorem IJ {R S : World → Prop} {W : World} (h : S W) (k : ∀ W', S W' → R W') : R W := k W h
structure Cm (s st l ch x mw : Nat) (n : Int) (L : Array MapEntry) (w : World) : Prop where
 s : Bk w s (EU st l 1 n) 195
 st : Bk w st #[.map (some ch)] 158
 ch : Mp w ch #[] 0
 l : Mp w l L 1
 x : Bk w x (RN mw) 244
 m : Mp w mw Dj 1
section
variable {s st l ch x mw : Nat} {n : Int} {L : Array MapEntry} {w w' : World}
theorem Cm.below (h : Cm s st l ch x mw n L w) (f : Below w.heap.size w w') : Cm s st l ch x mw n L w' := ⟨h.s.Ad f, h.st.Ad f, h.ch.Ad f, h.l.Ad f, h.x.Ad f, h.m.Ad f⟩
theorem Cm.newer (h0 : Cm s st l ch x mw n L w) {w1 : World} {k0 : Nat} (h : Cm s st l ch x mw n L w1) (f : Fr (fun k => k = k0) w1 w') (hk : w.heap.size ≤ k0) : Cm s st l ch x mw n L w' :=
 have q1 := h0.s.lt; have q2 := h0.st.lt; have q3 := h0.ch.lt; have q4 := h0.l.lt; have q5 := h0.x.lt; have q6 := h0.m.lt
 ⟨h.s.fr f (by omega), h.st.fr f (by omega), h.ch.fr f (by omega), h.l.fr f (by omega), h.x.fr f (by omega), h.m.fr f (by omega)⟩
theorem Cm.drew (h : Cm s st l ch x mw n L w) : Cm s st l ch x mw n L w.drew := ⟨h.s, h.st, h.ch, h.l, h.x, h.m⟩
theorem Cm.drewN (h : Cm s st l ch x mw n L w) (k : Nat) : Cm s st l ch x mw n L (w.drewN k) := ⟨h.s, h.st, h.ch, h.l, h.x, h.m⟩
theorem Cm.alloc (h : Cm s st l ch x mw n L w) (o) : Cm s st l ch x mw n L (w.alloc o) := ⟨h.s.alloc _, h.st.alloc _, h.ch.alloc _, h.l.alloc _, h.x.alloc _, h.m.alloc _⟩
theorem Cm.far (h : Cm s st l ch x mw n L w) {g j : Nat} {v : Value} (h1 : s ≠ g) (h2 : st ≠ g) (h3 : ch ≠ g) (h4 : l ≠ g) (h5 : x ≠ g) (h6 : mw ≠ g) : Cm s st l ch x mw n L (w.setCell ⟨g, j, none⟩ v) :=
 ⟨h.s.far h1 _ _, h.st.far h2 _ _, h.ch.far h3 _ _, h.l.far h4 _ _, h.x.far h5 _ _, h.m.far h6 _ _⟩
end
theorem Cm.off {s st l ch x mw : Nat} {n : Int} {L : Array MapEntry} {w W : World} (h0 : Cm s st l ch x mw n L w) {j : Nat} {v : Value} (h : Cm s st l ch x mw n L W) : Cm s st l ch x mw n L (W.setCell ⟨w.heap.size, j, none⟩ v) :=
 h.far (Nat.ne_of_lt h0.s.lt) (Nat.ne_of_lt h0.st.lt) (Nat.ne_of_lt h0.ch.lt) (Nat.ne_of_lt h0.l.lt) (Nat.ne_of_lt h0.x.lt) (Nat.ne_of_lt h0.m.lt)
theorem QO : (Tryz.prog.info? 32).map (·.size) = some 2 := by kernel_rfl
theorem WU : S1.all (·.oneCell') = true := by kernel_rfl
theorem Ur : over #[.int .i64 0, .int .u8 0] 0 S1.toList = S1 := by kernel_rfl
theorem Hu {w' : World} {s st l x mw g10 : Nat} (hs : Bk w' s (EU st l 1 0) 195) (hx : Bk w' x (RN mw) 244) (h10 : Bk w' g10 S1 32) :
 w'.cell? ⟨s, 0, none⟩ = some (.pointer (some ⟨st, 0, none⟩)) ∧ w'.cell? ⟨x, 2, none⟩ = some (.map (some mw)) ∧ w'.cell? ⟨g10, 0, none⟩ = some (.int .i64 1) ∧ w'.cell? ⟨g10, 1, none⟩ = some (.int .u8 0) ∧ Bk w' s (EU st l 1 0) 195 ∧ Bk w' x (RN mw) 244 ∧ Bk w' g10 S1 32 := ⟨hs.cell rfl, hx.cell rfl, h10.cell rfl, h10.cell rfl, hs, hx, h10⟩
theorem O0 {l ch s it g7 g10 g4 : Nat} {w w1 w2 w3 w4 w5 w6 w8 w9 w10 w11 w12 w13 w14 : World} (f1 : Below w.heap.size w w1) (f2 : Fr (fun k => k = l) w1 w2) (f3 : Fr (fun _ => False) w2 w3) (f4 : Fr (fun k => k = it) w3 w4)
   (f5 : Below w4.heap.size w4 w5) (f6 : Fr (fun k => k = g7) w5 w6) (f8 : Fr (fun _ => False) w6 w8) (f9 : Below w8.heap.size w8 w9) (f10 : Fr (fun k => k = g10) w9 w10) (f11 : Below w10.drew.heap.size w10.drew w11)
   (f12 : Fr (fun k => k = ch) w11 w12) (f13 : Fr (fun k => k = s) w12 w13) (f14 : Fr (fun k => k = g4) w13 w14) (h1 : w.heap.size ≤ it) (h2 : w.heap.size ≤ g7) (h3 : w.heap.size ≤ g10) (h4 : w.heap.size ≤ g4) :
   Fr (fun k => k = l ∨ k = ch ∨ k = s) w w14 := by
 have T : Fr (fun k => k = l ∨ k = ch ∨ k = s ∨ k = it ∨ k = g7 ∨ k = g10 ∨ k = g4) w w14 :=
   (Fr.of_below f1).trans <| (f2.weaken (fun _ _ h => by omega)).trans <| (f3.weaken (fun _ _ h => h.elim)).trans <| (f4.weaken (fun _ _ h => by omega)).trans <| (Fr.of_below f5).trans <| (f6.weaken (fun _ _ h => by omega)).trans <| (f8.weaken (fun _ _ h => h.elim)).trans <|
   (Fr.of_below f9).trans <| (f10.weaken (fun _ _ h => by omega)).trans <| ((Fr.refl _ _).drew.trans (Fr.of_below f11)).trans <| (f12.weaken (fun _ _ h => by omega)).trans <| (f13.weaken (fun _ _ h => by omega)).trans <| (f14.weaken (fun _ _ h => by omega))
 exact T.weaken (fun k hk h => by omega)
theorem Gf {w' : World} {s st l ch x mw g7 : Nat} {L : Array MapEntry} (h : Cm s st l ch x mw 0 L w') (h7 : Bk w' g7 KA 103) :
 w'.cell? ⟨s, 0, none⟩ = some (.pointer (some ⟨st, 0, none⟩)) ∧ w'.rangeAt g7 0 KA.toList ∧ Cm s st l ch x mw 0 L w' ∧ Bk w' g7 KA 103 := ⟨h.s.cell rfl, h7.range 0 16 Ib, h, h7⟩
theorem Jy (w : World) (s st l ch x mw : Nat) (hC : Cm s st l ch x mw 0 (J4 x) w) :
   Calls Tryz.prog 156 #[.pointer (some ⟨s, 0, none⟩), .int .i64 1] w fun e w' => e = .returned (.tuple #[.agg S1, .int .i64 0]) ∧ Fr (fun k => k = l ∨ k = ch ∨ k = s) w w' := by
 have hsl : Aa (s ≠ l ∧ st ≠ l ∧ ch ≠ l ∧ x ≠ l ∧ mw ≠ l) := ⟨by
   refine ⟨?_, ?_, ?_, ?_, ?_⟩
   · rintro rfl; have := Option.some.inj (hC.s.symm.trans hC.l); cases this
   · rintro rfl; have := Option.some.inj (hC.st.symm.trans hC.l); cases this
   · rintro rfl; have := Option.some.inj (hC.ch.symm.trans hC.l); cases this
   · rintro rfl; have := Option.some.inj (hC.x.symm.trans hC.l); cases this
   · rintro rfl; have := Option.some.inj (hC.m.symm.trans hC.l); simp at this⟩
 have hch : Aa (s ≠ ch ∧ x ≠ ch) := ⟨by
   refine ⟨?_, ?_⟩
   · rintro rfl; have := Option.some.inj (hC.s.symm.trans hC.ch); cases this
   · rintro rfl; have := Option.some.inj (hC.x.symm.trans hC.ch); cases this⟩
 replace hC := Aa.mk hC
 go_enter Tryz.func156, Tryz.ntmps156
 go_wp2_with (first
   | ((with_reducible refine Ac (N := 4) rfl ?_); refine Aj (N := 4) (C := #[.int .i64 0, .int .u8 0]) rfl rfl (by first | (go_simp; done) | (go_simp; rfl)) ?_; intro g4 w1 h4 b4 f1; have A1 := Aa.mk (hC.out.below f1.out); obtain ⟨c0, c1, c2, c3, _⟩ := Dt A1.out.s
      have hlk := Dz (ok := false) A1.out.l Tryz.underlying193 (QP _) (Ug _ _)
      obtain ⟨w2, hdel, A2, b42, f2, x2, hlen, hrange⟩ : ∃ w2, (Builtin.delete_ #[193, 2] 0 #[.map (some l), .int .i64 1]).run Tryz.prog w1 = .ok (.tuple #[]) w2 ∧ Aa (Cm s st l ch x mw 0 #[] w2) ∧ Aa (Bk w2 g4 #[.int .i64 0, .int .u8 0] 32) ∧ Aa (Fr (fun k => k = l) w1 w2) ∧ w2.cell? ⟨x, 2, none⟩ = some (.map (some mw)) ∧ (Builtin.len_ #[242] 3 #[.map (some mw)]).run Tryz.prog w2 = .ok (goInt 1) w2 ∧ (Instr.range 242 (.map (some mw))).run Tryz.prog w2 = .ok (.pointer (some ⟨w2.heap.size, 0, none⟩)) (w2.alloc (.mapIter (some mw) 1 #[] 1)) := by
        have hbl : g4 ≠ l := by have := hC.out.l.lt; have := h4.out; omega
        have A2 : Cm s st l ch x mw 0 #[] (Cc w1 l (.map #[] 1)) := ⟨A1.out.s.Bi hsl.out.1 _, A1.out.st.Bi hsl.out.2.1 _, A1.out.ch.Bi hsl.out.2.2.1 _, A1.out.l.put _, A1.out.x.Bi hsl.out.2.2.2.1 _, A1.out.m.Bi hsl.out.2.2.2.2 _⟩
        have hd := Ik A1.out.l Tryz.underlying193 (QP _) (Ug _ _) 2 0
        rw [show (J4 x).eraseIdxIfInBounds 0 = #[] by simp] at hd
        exact ⟨_, hd, ⟨A2⟩, ⟨b4.out.Bi hbl _⟩, ⟨(Fr.refl _ _).put l _ (.inl rfl)⟩, Bk.cell A2.x rfl, run_len_map A2.m Tryz.underlying242 3, Gw A2.m⟩)
   )
 have I3 : Aa (Ob (w2.alloc (.mapIter (some mw) 1 #[] 1)) w2.heap.size (.mapIter (some mw) 1 #[] 1)) := ⟨Ob.new _ _⟩
 have A3 := Aa.mk (A2.out.alloc (.mapIter (some mw) 1 #[] 1))
 have b43 := Aa.mk (b42.out.alloc (.mapIter (some mw) 1 #[] 1))
 have f3 := Aa.mk ((Fr.refl (fun _ => False) w2).alloc (.mapIter (some mw) 1 #[] 1))
 clear hrange hlen x2 hdel hlk c0 c1 c2 c3
 generalize w2.alloc (.mapIter (some mw) 1 #[] 1) = w3 at *
 generalize e9 : w2.heap.size = it at I3
 replace hit : Aa (w2.heap.size = it) := ⟨e9⟩
 clear e9
 obtain ⟨w4, hn1, he1, hn2, A4, b44, f4⟩ : ∃ w4, (∀ ty, (Instr.next (.pointer (some ⟨it, 0, none⟩)) false ty).run Tryz.prog w3 = .ok (.tuple #[.bool true, .agg KA, .agg WA]) w4) ∧ (Instr.entry (.pointer (some ⟨it, 0, none⟩))).run Tryz.prog w4 = .ok (.tuple #[.agg KA, .agg WA]) w4 ∧
     Aa (Ob w4 it (.mapIter (some mw) 1 #[0] 1)) ∧ Aa (Cm s st l ch x mw 0 #[] w4) ∧ Aa (Bk w4 g4 #[.int .i64 0, .int .u8 0] 32) ∧ Aa (Fr (fun k => k = it) w3 w4) := by
   have q := A2.out
   have q1 := q.s.lt; have q2 := q.st.lt; have q3 := q.ch.lt; have q4 := q.l.lt; have q5 := q.x.lt; have q6 := q.m.lt; have q7 := b42.out.lt; have q8 := hit.out
   have Am := A3.out.m.Bi (show mw ≠ it by omega) (.mapIter (some mw) 1 #[0] 1)
   exact ⟨_, fun ty => Ij ty A3.out.m I3.out, Gz Am (I3.out.put _), ⟨I3.out.put _⟩, ⟨A3.out.s.Bi (by omega) _, A3.out.st.Bi (by omega) _, A3.out.ch.Bi (by omega) _, A3.out.l.Bi (by omega) _, A3.out.x.Bi (by omega) _, Am⟩, ⟨b43.out.Bi (by omega) _⟩, ⟨(Fr.refl _ _).put it _ (.inl rfl)⟩⟩
 refine wp_loop_rounds 2 ?_
 rw [rounds_succ]
 go_wp2_with (first
   | ((with_reducible refine Ac (N := 7) rfl ?_); refine Aj (N := 7) (C := Z16) rfl rfl (by first | (go_simp; done) | (go_simp; rfl)) ?_; intro g7 w5 h7 b7 f5; have A5 := Aa.mk (A4.out.below f5.out); have I5 := Aa.mk (hn2.out.Ad f5.out); have b45 := Aa.mk (b44.out.Ad f5.out); clear hn1 he1)
   | ((with_reducible refine Af (t := 103) (p := 7) (v := .tmp 45) rfl ?_); refine Ak rfl (ty := 103) (x := .tmp 7) (y := .tmp 45) rfl rfl rfl b7.out AB QN (by decide) KA QJ ?_; intro w6 b76 f6; have A6 := Aa.mk (A4.out.newer A5.out f6.out h7.out); have I6 := Aa.mk (I5.out.fr f6.out (by have := hn2.out.lt; have := h7.out; omega)); have b46 := Aa.mk (b45.out.fr f6.out (by have := b44.out.lt; have := h7.out; omega))))
 have u79 := Tryz.underlying103
 have i79 : (Tryz.prog.info? 103).map (·.size) = some KA.toList.length := AB
 refine wp_region_noPanic ?_
 go_region_held_law (fun w' => w'.cell? ⟨s, 0, none⟩ = some (.pointer (some ⟨st, 0, none⟩)) ∧ w'.rangeAt g7 0 KA.toList ∧ Cm s st l ch x mw 0 #[] w' ∧ Bk w' g7 KA 103)
   ((first | exact Gf A6.out.drew b76.out.drew | exact Gf (Aa.out A7) (Aa.out b77) | (refine Gf ?_ ?_ <;> repeat (first | exact (Aa.out A7) | exact (Aa.out b77) | exact A6.out | exact b76.out | refine Cm.drew ?_ | refine Cm.alloc ?_ _ | refine Cm.off (Aa.out A7) ?_ | refine Cm.off A6.out ?_ | refine Ob.drew ?_ | refine Ob.alloc ?_ _ | (refine Ob.far ?_ (Nat.ne_of_lt (by first | exact (Aa.out b77).lt | exact b76.out.lt)) _ _))) | (trace_state; fail)))
   ((first
     | (go_at_call 174; refine (Oo _ _ _ (by go_split_ands; rename_i hh _; exact Cm.st hh) (by go_split_ands; rename_i hh _; exact Cm.ch hh)).mono ?_; rintro e w7 ⟨rfl, f7⟩; replace f7 := Aa.mk f7; have A7 : Aa (Cm s st l ch x mw 0 #[] w7) := ⟨by first | exact A6.out.drew.below f7.out | exact (A6.out.alloc _).drew.below f7.out⟩; have b77 : Aa (Bk w7 g7 KA 103) := ⟨by first | exact b76.out.drew.Ad f7.out | exact (b76.out.alloc _).drew.Ad f7.out⟩; try (have b87 : Aa (Bk w7 w6.heap.size #[.int .i64 0, .int .u8 0] 32) := ⟨(Ob.new w6 _).drew.Ad f7.out⟩; have n0 := Bk.cell b87.out (j := 0) rfl; have n1 := Bk.cell b87.out (j := 1) rfl; have n2 := Bk.free b87.out 0; have n3 := Bk.free b87.out 1))))
 all_goals refine NoPanic.normal ?_
 all_goals clear u79 i79
 all_goals refine IJ (S := fun W' => Aa (Cm s st l ch x mw 0 #[] W') ∧ Aa (Fr (fun _ => False) w6 W')) ⟨⟨by first | exact A7.out.alloc _ | exact Cm.off A7.out (Cm.off A7.out (A7.out.alloc _)) | exact Cm.off A6.out (Cm.off A6.out A7.out)⟩, ⟨by first | exact ((Fr.refl _ w6).drew.trans (Fr.of_below f7.out)).alloc _ | exact (((((Fr.refl _ w6).alloc _).drew.trans (Fr.of_below f7.out)).set w6.heap.size 0 _ (.inr (Nat.le_refl _))).set w6.heap.size 1 _ (.inr (Nat.le_refl _))) | exact ((((((Fr.refl _ w6).drew.trans (Fr.of_below f7.out)).alloc _).set w7.heap.size 0 _ (.inr f7.out.size))).set w7.heap.size 1 _ (.inr f7.out.size))⟩⟩ ?_
 all_goals rintro w8 ⟨A8, f8⟩
 all_goals clear A7 b77 f7
 all_goals try clear b87 n0 n1 n2 n3
 all_goals go_wp2_with fail
 all_goals go_quiet (fail)
 all_goals refine IJ (S := fun W' => Aa (Cm s st l ch x mw 0 #[] W') ∧ Aa (Fr (fun _ => False) w6 W')) ⟨⟨A8.out.drewN _⟩, ⟨f8.out.drewN _⟩⟩ ?_
 all_goals clear A8 f8
 all_goals rintro w8 ⟨A8, f8⟩
 all_goals have I8 := Aa.mk (I6.out.fr f8.out (fun h => h))
 all_goals have b48 := Aa.mk (b46.out.fr f8.out (fun h => h))
 all_goals have hn3 := fun ty => Gx ty A8.out.m I8.out
 all_goals obtain ⟨c0, c1, c2, c3, _⟩ := Dt A8.out.s
 all_goals go_wp2_with fail
 all_goals rw [rounds_succ]
 all_goals go_wp2_with (first
   | ((with_reducible refine Ac (N := 10) rfl ?_); refine Aj (N := 10) (C := #[.int .i64 0, .int .u8 0]) rfl rfl (by first | (go_simp; done) | (go_simp; rfl)) ?_; intro g10 w9 h10 b10 f9; have A9 := Aa.mk (A8.out.below f9.out); have b49 := Aa.mk (b48.out.Ad f9.out); clear hn3 c0 c1 c2 c3)
   | ((with_reducible refine Af (t := 32) (p := 10) (v := .tmp 71) rfl ?_); refine Ak rfl (ty := 32) (x := .tmp 10) (y := .tmp 71) rfl rfl rfl b10.out QO WU (by decide) S1 Ur ?_; intro w10 b1010 f10; have A10 := Aa.mk (A8.out.newer A9.out f10.out h10.out); have b410 := Aa.mk (b49.out.fr f10.out (by have := b48.out.lt; have := h10.out; omega))))
 all_goals refine wp_region_noPanic ?_
 all_goals go_region_held_law (fun w' => w'.cell? ⟨s, 0, none⟩ = some (.pointer (some ⟨st, 0, none⟩)) ∧ w'.cell? ⟨x, 2, none⟩ = some (.map (some mw)) ∧ w'.cell? ⟨g10, 0, none⟩ = some (.int .i64 1) ∧ w'.cell? ⟨g10, 1, none⟩ = some (.int .u8 0) ∧ Bk w' s (EU st l 1 0) 195 ∧ Bk w' x (RN mw) 244 ∧ Bk w' g10 S1 32)
   ((first | exact Hu A10.out.s.drew A10.out.x.drew b1010.out.drew | exact Hu (Aa.out A11).s (Aa.out A11).x (Aa.out b1011) | exact Hu (Aa.out s12) (Aa.out x12) (Aa.out b1012)))
   ((first
     | (go_at_call 208; refine (PP _ mw A10.out.m.drew).mono ?_; rintro e w11 ⟨g11, k11, C11, rfl, h11, b11, hC11, f11⟩; replace f11 := Aa.mk f11; replace b11 := Aa.mk b11; replace hC11 := Aa.mk hC11; replace h11 := Aa.mk h11; have A11 : Aa (Cm s st l ch x mw 0 #[] w11) := ⟨A10.out.drew.below f11.out⟩; have b1011 : Aa (Bk w11 g10 S1 32) := ⟨b1010.out.drew.Ad f11.out⟩)
     | (go_at_call 87; refine (Oq _ _ _ _ _ (Aa.out A11).st (Aa.out A11).ch (Aa.out hC11) (Aa.out b11)).mono ?_; rintro e w12 ⟨rfl, f12⟩; replace f12 := Aa.mk f12; have s12 : Aa (Bk w12 s (EU st l 1 0) 195) := ⟨(Aa.out A11).s.fr f12.out hch.out.1⟩; have x12 : Aa (Bk w12 x (RN mw) 244) := ⟨(Aa.out A11).x.fr f12.out hch.out.2⟩; have b1012 : Aa (Bk w12 g10 S1 32) := ⟨(Aa.out b1011).fr f12.out (by have := A8.out.ch.lt; have := h10.out; omega)⟩)))
 all_goals refine NoPanic.normal ?_
 all_goals go_split_ands
 all_goals have b412 : Aa (Bk w12 g4 #[.int .i64 0, .int .u8 0] 32) := ⟨((b410.out.drew).Ad f11.out).fr f12.out (by have := hC.out.ch.lt; have := h4.out; omega)⟩
 all_goals obtain ⟨c0, c1, c2, c3, _⟩ := Dt s12.out
 all_goals go_wp2_with (first
   | ((with_reducible refine Af (t := 2) (p := 93) (v := .tmp 91) rfl ?_); refine Ig rfl (ty := 2) (x := .tmp 93) (y := .tmp 91) (b := s) (j := 3) (v := .int .i64 1) rfl (by have hf := Bk.free s12.out 3; first | (go_simp; done) | (go_simp; rfl)) s12.out (EU st l 1 1) rfl ?_; intro w13 s13 f13; have b413 := Aa.mk (b412.out.fr f13.out (by have := hC.out.s.lt; have := h4.out; omega)); have b1013 := Aa.mk (b1012.out.fr f13.out (by have := A8.out.s.lt; have := h10.out; omega)); clear c0 c1 c2 c3)
   | ((with_reducible refine Ac (N := 94) rfl ?_); refine Au (N := 94) rfl rfl rfl rfl b1013.out Tryz.underlying32 rfl QO S1.toList rfl rfl ?_)
   | ((with_reducible refine Af (t := 32) (p := 4) (v := .tmp 94) rfl ?_); refine Ak rfl (ty := 32) (x := .tmp 4) (y := .tmp 94) rfl rfl rfl b413.out QO WU (by decide) S1 Ur ?_; intro w14 b414 f14))
 all_goals refine AO (Tryz.results156) rfl b414.out Tryz.underlying32 rfl QO rfl rfl ⟨rfl, ?_⟩
 all_goals have q1 := f1.out.size
 all_goals have q2 := f2.out.size
 all_goals have q3 := f3.out.size
 all_goals have q4 := f4.out.size
 all_goals have q5 := f5.out.size
 all_goals have q6 := f6.out.size
 all_goals have q8 := f8.out.size
 all_goals have q9 := f9.out.size
 all_goals have q10 := f10.out.size
 all_goals have q15 := hit.out
 all_goals have q16 := h4.out
 all_goals have q17 := h7.out
 all_goals have q18 := h10.out
 all_goals exact O0 (it := it) (g4 := g4) (g7 := g7) (g10 := g10) f1.out f2.out f3.out f4.out f5.out f6.out f8.out f9.out f10.out f11.out f12.out f13.out f14.out (by omega) (by omega) (by omega) (by omega)
end Go.Proofs.YtchfmgbjddopoaaGreatDoor.Hand
namespace Go.Proofs.YtchfmgbjddopoaaGreatDoor.Hand
open Go.RowKit Go.Proofs.YtchfmgbjddopoaaGreatDoorW.PrintWords Go.Proofs.YtchfmgbjddopoaaGreatDoorW.PrintLast Go.Proofs.YtchfmgbjddopoaaGreatDoorW.PrintMore
theorem Xai : (⟨(Lib.decDigits 1).toArray⟩ : ByteArray) = ⟨#[49]⟩ := by decide +kernel
theorem Xaj : (⟨(Lib.decDigits 0).toArray⟩ : ByteArray) = ⟨#[48]⟩ := by decide +kernel
theorem YN (w : World) : Calls Tryz.prog 158 #[.int .i64 1, .int .i64 10] w fun e w' => e = .returned (.string ⟨#[49]⟩) ∧ w' = w :=
 (Tryz.strconv_FormatInt_10_small 1 (by decide) w).mono fun _ _ h => ⟨Xai ▸ h.1, h.2⟩
theorem Zj (w : World) : Calls Tryz.prog 192 #[.int .i64 0] w fun e w' => e = .returned (.string ⟨#[48]⟩) ∧ w' = w :=
 (Tryz.strconv_Itoa_small 0 (by decide) w).mono fun _ _ h => ⟨Xaj ▸ h.1, h.2⟩
theorem Xam : (⟨#[49]⟩ : ByteArray) ++ ⟨#[46]⟩ ++ ⟨#[48]⟩ = ⟨#[49, 46, 48]⟩ := by decide +kernel
theorem J9 (w : World) : Calls Tryz.prog 157 #[.agg S1] w fun e w' => e = .returned (.string ⟨#[49, 46, 48]⟩) ∧ Below w.heap.size w w' := by
 go_enter Tryz.func157, Tryz.ntmps157
 go_wp2_with (first
   | ((with_reducible refine Ac (N := 1) rfl ?_); refine Aj (N := 1) (C := S1) rfl rfl (by first | (go_simp; done) | (go_simp; rfl)) ?_; intro g1 w1 h1 b1 f1; have c0 : w1.cell? ⟨g1, 0, none⟩ = some (.int .i64 1) := Bk.cell b1.out rfl; have c1 : w1.cell? ⟨g1, 1, none⟩ = some (.int .u8 0) := Bk.cell b1.out rfl))
 have k0 : w1.drew.cell? ⟨g1, 0, none⟩ = some (.int .i64 1) := c0
 have k1 : w1.drew.cell? ⟨g1, 1, none⟩ = some (.int .u8 0) := c1
 refine wp_region_noPanic ?_
 go_region_held_law (fun w' => w'.cell? ⟨g1, 0, none⟩ = some (.int .i64 1) ∧ w'.cell? ⟨g1, 1, none⟩ = some (.int .u8 0))
   ((exact ⟨k0, k1⟩))
   ((first
     | (go_at_call 158; refine (YN _).mono ?_; rintro e w' ⟨rfl, rfl⟩)
     | (go_at_call 192; refine (Zj _).mono ?_; rintro e w' ⟨rfl, rfl⟩)))
 refine NoPanic.normal ?_
 go_wp2_with fail
 go_returns
 exact ⟨by rw [Xam]; rfl, (Fr.of_below f1.out).drew.Ad⟩
end Go.Proofs.YtchfmgbjddopoaaGreatDoor.Hand
