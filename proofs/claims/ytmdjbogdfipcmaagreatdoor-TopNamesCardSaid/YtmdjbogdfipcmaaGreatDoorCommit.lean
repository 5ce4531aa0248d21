/- (*Solo).Commit of the one write. -/
import Derived.Test.YtmdjbogdfipcmaaGreatDoorPut
import Derived.Test.YtmdjbogdfipcmaaGreatDoorApply
import Derived.Test.YtmdjbogdfipcmaaGreatDoorMaps
import Derived.Test.YtmdjbogdfipcmaaGreatDoorSort
namespace Go.Proofs.YtmdjbogdfipcmaaGreatDoor.Hand
set_option linter.unusedSimpArgs false
set_option linter.unusedVariables false
open Go.RowKit Go.Proofs.YtmdjbogdfipcmaaGreatDoorW.PrintWords Go.Proofs.YtmdjbogdfipcmaaGreatDoorW.PrintLast Go.Proofs.YtmdjbogdfipcmaaGreatDoorW.PrintMore
attribute [local go_sem ↓] Go.wp_at_zero Go.wp_at_succ

theorem on_world {R S : World → Prop} {W : World} (h : S W) (k : ∀ W', S W' → R W') : R W := k W h
/-- What Commit finds: the solo, its store of none, the transaction, its one write. -/
structure Cm (s st l ch x mw : Nat) (n : Int) (L : Array MapEntry) (w : World) : Prop where
  s : Bk w s (SoloC st l 1 n) 67
  st : Bk w st #[.map (some ch)] 117
  ch : Mp w ch #[] 0
  l : Mp w l L 1
  x : Bk w x (TxnC mw) 107
  m : Mp w mw OneWrite 1
section
variable {s st l ch x mw : Nat} {n : Int} {L : Array MapEntry} {w w' : World}
theorem Cm.below (h : Cm s st l ch x mw n L w) (f : Below w.heap.size w w') : Cm s st l ch x mw n L w' := ⟨h.s.belowS f, h.st.belowS f, h.ch.belowS f, h.l.belowS f, h.x.belowS f, h.m.belowS f⟩
theorem Cm.newer (h0 : Cm s st l ch x mw n L w) {w1 : World} {k0 : Nat} (h : Cm s st l ch x mw n L w1) (f : Fr (fun k => k = k0) w1 w') (hk : w.heap.size ≤ k0) : Cm s st l ch x mw n L w' :=
  have q1 := h0.s.lt; have q2 := h0.st.lt; have q3 := h0.ch.lt; have q4 := h0.l.lt; have q5 := h0.x.lt; have q6 := h0.m.lt
  ⟨h.s.fr f (by omega), h.st.fr f (by omega), h.ch.fr f (by omega), h.l.fr f (by omega), h.x.fr f (by omega), h.m.fr f (by omega)⟩
theorem Cm.drew (h : Cm s st l ch x mw n L w) : Cm s st l ch x mw n L w.drew := ⟨h.s, h.st, h.ch, h.l, h.x, h.m⟩
theorem Cm.drewN (h : Cm s st l ch x mw n L w) (k : Nat) : Cm s st l ch x mw n L (w.drewN k) := ⟨h.s, h.st, h.ch, h.l, h.x, h.m⟩
theorem Cm.alloc (h : Cm s st l ch x mw n L w) (o) : Cm s st l ch x mw n L (w.alloc o) := ⟨h.s.alloc _, h.st.alloc _, h.ch.alloc _, h.l.alloc _, h.x.alloc _, h.m.alloc _⟩
theorem Cm.far (h : Cm s st l ch x mw n L w) {g j : Nat} {v : Value} (h1 : s ≠ g) (h2 : st ≠ g) (h3 : ch ≠ g) (h4 : l ≠ g) (h5 : x ≠ g) (h6 : mw ≠ g) : Cm s st l ch x mw n L (w.setCell ⟨g, j, none⟩ v) :=
  ⟨h.s.far h1 _ _, h.st.far h2 _ _, h.ch.far h3 _ _, h.l.far h4 _ _, h.x.far h5 _ _, h.m.far h6 _ _⟩
end
theorem Cm.off {s st l ch x mw : Nat} {n : Int} {L : Array MapEntry} {w W : World} (h0 : Cm s st l ch x mw n L w) {j : Nat} {v : Value} (h : Cm s st l ch x mw n L W) : Cm s st l ch x mw n L (W.setCell ⟨w.heap.size, j, none⟩ v) :=
  h.far (Nat.ne_of_lt h0.s.lt) (Nat.ne_of_lt h0.st.lt) (Nat.ne_of_lt h0.ch.lt) (Nat.ne_of_lt h0.l.lt) (Nat.ne_of_lt h0.x.lt) (Nat.ne_of_lt h0.m.lt)
theorem info98 : (Tryz.prog.info? 98).map (·.size) = some 2 := by kernel_rfl
theorem s1_one : S1.all (·.oneCell') = true := by kernel_rfl
theorem s1_over : over #[.int .i64 0, .int .u8 0] 0 S1.toList = S1 := by kernel_rfl
theorem apply_keep {w' : World} {s st l x mw g10 : Nat} (hs : Bk w' s (SoloC st l 1 0) 67) (hx : Bk w' x (TxnC mw) 107) (h10 : Bk w' g10 S1 98) :
    w'.cell? ⟨s, 0, none⟩ = some (.pointer (some ⟨st, 0, none⟩)) ∧ w'.cell? ⟨x, 2, none⟩ = some (.map (some mw)) ∧ w'.cell? ⟨g10, 0, none⟩ = some (.int .i64 1) ∧ w'.cell? ⟨g10, 1, none⟩ = some (.int .u8 0) ∧ Bk w' s (SoloC st l 1 0) 67 ∧ Bk w' x (TxnC mw) 107 ∧ Bk w' g10 S1 98 := ⟨hs.cell rfl, hx.cell rfl, h10.cell rfl, h10.cell rfl, hs, hx, h10⟩
theorem commit_frame {l ch s it g7 g10 g4 : Nat} {w w1 w2 w3 w4 w5 w6 w8 w9 w10 w11 w12 w13 w14 : World} (f1 : Below w.heap.size w w1) (f2 : Fr (fun k => k = l) w1 w2) (f3 : Fr (fun _ => False) w2 w3) (f4 : Fr (fun k => k = it) w3 w4)
    (f5 : Below w4.heap.size w4 w5) (f6 : Fr (fun k => k = g7) w5 w6) (f8 : Fr (fun _ => False) w6 w8) (f9 : Below w8.heap.size w8 w9) (f10 : Fr (fun k => k = g10) w9 w10) (f11 : Below w10.drew.heap.size w10.drew w11)
    (f12 : Fr (fun k => k = ch) w11 w12) (f13 : Fr (fun k => k = s) w12 w13) (f14 : Fr (fun k => k = g4) w13 w14) (h1 : w.heap.size ≤ it) (h2 : w.heap.size ≤ g7) (h3 : w.heap.size ≤ g10) (h4 : w.heap.size ≤ g4) :
    Fr (fun k => k = l ∨ k = ch ∨ k = s) w w14 := by
  have T : Fr (fun k => k = l ∨ k = ch ∨ k = s ∨ k = it ∨ k = g7 ∨ k = g10 ∨ k = g4) w w14 :=
    (Fr.of_below f1).trans <| (f2.weaken (fun _ _ h => by omega)).trans <| (f3.weaken (fun _ _ h => h.elim)).trans <| (f4.weaken (fun _ _ h => by omega)).trans <| (Fr.of_below f5).trans <| (f6.weaken (fun _ _ h => by omega)).trans <| (f8.weaken (fun _ _ h => h.elim)).trans <|
    (Fr.of_below f9).trans <| (f10.weaken (fun _ _ h => by omega)).trans <| ((Fr.refl _ _).drew.trans (Fr.of_below f11)).trans <| (f12.weaken (fun _ _ h => by omega)).trans <| (f13.weaken (fun _ _ h => by omega)).trans <| (f14.weaken (fun _ _ h => by omega))
  exact T.weaken (fun k hk h => by omega)
theorem newest_keep {w' : World} {s st l ch x mw g7 : Nat} {L : Array MapEntry} (h : Cm s st l ch x mw 0 L w') (h7 : Bk w' g7 KA 79) :
    w'.cell? ⟨s, 0, none⟩ = some (.pointer (some ⟨st, 0, none⟩)) ∧ w'.rangeAt g7 0 KA.toList ∧ Cm s st l ch x mw 0 L w' ∧ Bk w' g7 KA 79 := ⟨h.s.cell rfl, h7.range 0 16 ka_cut, h, h7⟩

set_option maxHeartbeats 3200000 in
set_option maxRecDepth 100000 in
theorem solo_commit (w : World) (s st l ch x mw : Nat) (hC : Cm s st l ch x mw 0 (OneTxn x) w) :
    Calls Tryz.prog 52 #[.pointer (some ⟨s, 0, none⟩), .int .i64 1] w fun e w' => e = .returned (.tuple #[.agg S1, .int .i64 0]) ∧ Fr (fun k => k = l ∨ k = ch ∨ k = s) w w' := by
  have hsl : Aside0 (s ≠ l ∧ st ≠ l ∧ ch ≠ l ∧ x ≠ l ∧ mw ≠ l) := ⟨by
    refine ⟨?_, ?_, ?_, ?_, ?_⟩
    · rintro rfl; have := Option.some.inj (hC.s.symm.trans hC.l); cases this
    · rintro rfl; have := Option.some.inj (hC.st.symm.trans hC.l); cases this
    · rintro rfl; have := Option.some.inj (hC.ch.symm.trans hC.l); cases this
    · rintro rfl; have := Option.some.inj (hC.x.symm.trans hC.l); cases this
    · rintro rfl; have := Option.some.inj (hC.m.symm.trans hC.l); simp at this⟩
  have hch : Aside0 (s ≠ ch ∧ x ≠ ch) := ⟨by
    refine ⟨?_, ?_⟩
    · rintro rfl; have := Option.some.inj (hC.s.symm.trans hC.ch); cases this
    · rintro rfl; have := Option.some.inj (hC.x.symm.trans hC.ch); cases this⟩
  replace hC := Aside0.mk hC
  go_enter Tryz.func52, Tryz.ntmps52
  go_wp2_with (first
    | ((with_reducible refine gate_dst (N := 4) rfl ?_); refine ev_ptr (N := 4) (C := #[.int .i64 0, .int .u8 0]) rfl rfl (by first | (go_simp; done) | (go_simp; rfl)) ?_; intro g4 w1 h4 b4 f1; have A1 := Aside0.mk (hC.out.below f1.out); obtain ⟨c0, c1, c2, c3, _⟩ := solo_cells A1.out.s
       have hlk := run_look_some (ok := false) A1.out.l Tryz.underlying65 (ck_one _) (fk_one _ _)
       obtain ⟨w2, hdel, A2, b42, f2, x2, hlen, hrange⟩ : ∃ w2, (Builtin.delete_ #[65, 2] 0 #[.map (some l), .int .i64 1]).run Tryz.prog w1 = .ok (.tuple #[]) w2 ∧ Aside0 (Cm s st l ch x mw 0 #[] w2) ∧ Aside0 (Bk w2 g4 #[.int .i64 0, .int .u8 0] 98) ∧ Aside0 (Fr (fun k => k = l) w1 w2) ∧ w2.cell? ⟨x, 2, none⟩ = some (.map (some mw)) ∧ (Builtin.len_ #[105] 3 #[.map (some mw)]).run Tryz.prog w2 = .ok (goInt 1) w2 ∧ (Instr.range 105 (.map (some mw))).run Tryz.prog w2 = .ok (.pointer (some ⟨w2.heap.size, 0, none⟩)) (w2.alloc (.mapIter (some mw) 1 #[] 1)) := by
         have hbl : g4 ≠ l := by have := hC.out.l.lt; have := h4.out; omega
         have A2 : Cm s st l ch x mw 0 #[] (putO w1 l (.map #[] 1)) := ⟨A1.out.s.putFar hsl.out.1 _, A1.out.st.putFar hsl.out.2.1 _, A1.out.ch.putFar hsl.out.2.2.1 _, A1.out.l.put _, A1.out.x.putFar hsl.out.2.2.2.1 _, A1.out.m.putFar hsl.out.2.2.2.2 _⟩
         have hd := run_del_some A1.out.l Tryz.underlying65 (ck_one _) (fk_one _ _) 2 0
         rw [show (OneTxn x).eraseIdxIfInBounds 0 = #[] by simp] at hd
         exact ⟨_, hd, ⟨A2⟩, ⟨b4.out.putFar hbl _⟩, ⟨(Fr.refl _ _).put l _ (.inl rfl)⟩, Bk.cell A2.x rfl, run_len_map A2.m Tryz.underlying105 3, run_range_one A2.m⟩)
    )
  have I3 : Aside0 (Ob (w2.alloc (.mapIter (some mw) 1 #[] 1)) w2.heap.size (.mapIter (some mw) 1 #[] 1)) := ⟨Ob.new _ _⟩
  have A3 := Aside0.mk (A2.out.alloc (.mapIter (some mw) 1 #[] 1))
  have b43 := Aside0.mk (b42.out.alloc (.mapIter (some mw) 1 #[] 1))
  have f3 := Aside0.mk ((Fr.refl (fun _ => False) w2).alloc (.mapIter (some mw) 1 #[] 1))
  clear hrange hlen x2 hdel hlk c0 c1 c2 c3
  generalize w2.alloc (.mapIter (some mw) 1 #[] 1) = w3 at *
  generalize e9 : w2.heap.size = it at I3
  replace hit : Aside0 (w2.heap.size = it) := ⟨e9⟩
  clear e9
  obtain ⟨w4, hn1, he1, hn2, A4, b44, f4⟩ : ∃ w4, (∀ ty, (Instr.next (.pointer (some ⟨it, 0, none⟩)) false ty).run Tryz.prog w3 = .ok (.tuple #[.bool true, .agg KA, .agg WA]) w4) ∧ (Instr.entry (.pointer (some ⟨it, 0, none⟩))).run Tryz.prog w4 = .ok (.tuple #[.agg KA, .agg WA]) w4 ∧
      Aside0 (Ob w4 it (.mapIter (some mw) 1 #[0] 1)) ∧ Aside0 (Cm s st l ch x mw 0 #[] w4) ∧ Aside0 (Bk w4 g4 #[.int .i64 0, .int .u8 0] 98) ∧ Aside0 (Fr (fun k => k = it) w3 w4) := by
    have q := A2.out
    have q1 := q.s.lt; have q2 := q.st.lt; have q3 := q.ch.lt; have q4 := q.l.lt; have q5 := q.x.lt; have q6 := q.m.lt; have q7 := b42.out.lt; have q8 := hit.out
    have Am := A3.out.m.putFar (show mw ≠ it by omega) (.mapIter (some mw) 1 #[0] 1)
    exact ⟨_, fun ty => run_next_one ty A3.out.m I3.out, run_entry_one Am (I3.out.put _), ⟨I3.out.put _⟩, ⟨A3.out.s.putFar (by omega) _, A3.out.st.putFar (by omega) _, A3.out.ch.putFar (by omega) _, A3.out.l.putFar (by omega) _, A3.out.x.putFar (by omega) _, Am⟩, ⟨b43.out.putFar (by omega) _⟩, ⟨(Fr.refl _ _).put it _ (.inl rfl)⟩⟩
  refine wp_loop_rounds 2 ?_
  rw [rounds_succ]
  go_wp2_with (first
    | ((with_reducible refine gate_dst (N := 7) rfl ?_); refine ev_ptr (N := 7) (C := Z16) rfl rfl (by first | (go_simp; done) | (go_simp; rfl)) ?_; intro g7 w5 h7 b7 f5; have A5 := Aside0.mk (A4.out.below f5.out); have I5 := Aside0.mk (hn2.out.belowS f5.out); have b45 := Aside0.mk (b44.out.belowS f5.out); clear hn1 he1)
    | ((with_reducible refine gate_store (t := 79) (p := 7) (v := .tmp 45) rfl ?_); refine ev_store rfl (ty := 79) (x := .tmp 7) (y := .tmp 45) rfl rfl rfl b7.out info79 ka_one (by decide) KA z_over ?_; intro w6 b76 f6; have A6 := Aside0.mk (A4.out.newer A5.out f6.out h7.out); have I6 := Aside0.mk (I5.out.fr f6.out (by have := hn2.out.lt; have := h7.out; omega)); have b46 := Aside0.mk (b45.out.fr f6.out (by have := b44.out.lt; have := h7.out; omega))))
  have u79 := Tryz.underlying79
  have i79 : (Tryz.prog.info? 79).map (·.size) = some KA.toList.length := info79
  refine wp_region_noPanic ?_
  go_region_held_law (fun w' => w'.cell? ⟨s, 0, none⟩ = some (.pointer (some ⟨st, 0, none⟩)) ∧ w'.rangeAt g7 0 KA.toList ∧ Cm s st l ch x mw 0 #[] w' ∧ Bk w' g7 KA 79)
    ((first | exact newest_keep A6.out.drew b76.out.drew | exact newest_keep (Aside0.out A7) (Aside0.out b77) | (refine newest_keep ?_ ?_ <;> repeat (first | exact (Aside0.out A7) | exact (Aside0.out b77) | exact A6.out | exact b76.out | refine Cm.drew ?_ | refine Cm.alloc ?_ _ | refine Cm.off (Aside0.out A7) ?_ | refine Cm.off A6.out ?_ | refine Ob.drew ?_ | refine Ob.alloc ?_ _ | (refine Ob.far ?_ (Nat.ne_of_lt (by first | exact (Aside0.out b77).lt | exact b76.out.lt)) _ _))) | (trace_state; fail)))
    ((first
      | (go_at_call 92; refine (store_newest _ _ _ (by go_split_ands; rename_i hh _; exact Cm.st hh) (by go_split_ands; rename_i hh _; exact Cm.ch hh)).mono ?_; rintro e w7 ⟨rfl, f7⟩; replace f7 := Aside0.mk f7; have A7 : Aside0 (Cm s st l ch x mw 0 #[] w7) := ⟨by first | exact A6.out.drew.below f7.out | exact (A6.out.alloc _).drew.below f7.out⟩; have b77 : Aside0 (Bk w7 g7 KA 79) := ⟨by first | exact b76.out.drew.belowS f7.out | exact (b76.out.alloc _).drew.belowS f7.out⟩; try (have b87 : Aside0 (Bk w7 w6.heap.size #[.int .i64 0, .int .u8 0] 98) := ⟨(Ob.new w6 _).drew.belowS f7.out⟩; have n0 := Bk.cell b87.out (j := 0) rfl; have n1 := Bk.cell b87.out (j := 1) rfl; have n2 := Bk.free b87.out 0; have n3 := Bk.free b87.out 1))))
  all_goals refine NoPanic.normal ?_
  all_goals clear u79 i79
  all_goals refine on_world (S := fun W' => Aside0 (Cm s st l ch x mw 0 #[] W') ∧ Aside0 (Fr (fun _ => False) w6 W')) ⟨⟨by first | exact A7.out.alloc _ | exact Cm.off A7.out (Cm.off A7.out (A7.out.alloc _)) | exact Cm.off A6.out (Cm.off A6.out A7.out)⟩, ⟨by first | exact ((Fr.refl _ w6).drew.trans (Fr.of_below f7.out)).alloc _ | exact (((((Fr.refl _ w6).alloc _).drew.trans (Fr.of_below f7.out)).set w6.heap.size 0 _ (.inr (Nat.le_refl _))).set w6.heap.size 1 _ (.inr (Nat.le_refl _))) | exact ((((((Fr.refl _ w6).drew.trans (Fr.of_below f7.out)).alloc _).set w7.heap.size 0 _ (.inr f7.out.size))).set w7.heap.size 1 _ (.inr f7.out.size))⟩⟩ ?_
  all_goals rintro w8 ⟨A8, f8⟩
  all_goals clear A7 b77 f7
  all_goals try clear b87 n0 n1 n2 n3
  all_goals go_wp2_with fail
  all_goals go_quiet (fail)
  all_goals refine on_world (S := fun W' => Aside0 (Cm s st l ch x mw 0 #[] W') ∧ Aside0 (Fr (fun _ => False) w6 W')) ⟨⟨A8.out.drewN _⟩, ⟨f8.out.drewN _⟩⟩ ?_
  all_goals clear A8 f8
  all_goals rintro w8 ⟨A8, f8⟩
  all_goals have I8 := Aside0.mk (I6.out.fr f8.out (fun h => h))
  all_goals have b48 := Aside0.mk (b46.out.fr f8.out (fun h => h))
  all_goals have hn3 := fun ty => run_next_over ty A8.out.m I8.out
  all_goals obtain ⟨c0, c1, c2, c3, _⟩ := solo_cells A8.out.s
  all_goals go_wp2_with fail
  all_goals rw [rounds_succ]
  all_goals go_wp2_with (first
    | ((with_reducible refine gate_dst (N := 10) rfl ?_); refine ev_ptr (N := 10) (C := #[.int .i64 0, .int .u8 0]) rfl rfl (by first | (go_simp; done) | (go_simp; rfl)) ?_; intro g10 w9 h10 b10 f9; have A9 := Aside0.mk (A8.out.below f9.out); have b49 := Aside0.mk (b48.out.belowS f9.out); clear hn3 c0 c1 c2 c3)
    | ((with_reducible refine gate_store (t := 98) (p := 10) (v := .tmp 71) rfl ?_); refine ev_store rfl (ty := 98) (x := .tmp 10) (y := .tmp 71) rfl rfl rfl b10.out info98 s1_one (by decide) S1 s1_over ?_; intro w10 b1010 f10; have A10 := Aside0.mk (A8.out.newer A9.out f10.out h10.out); have b410 := Aside0.mk (b49.out.fr f10.out (by have := b48.out.lt; have := h10.out; omega))))
  all_goals refine wp_region_noPanic ?_
  all_goals go_region_held_law (fun w' => w'.cell? ⟨s, 0, none⟩ = some (.pointer (some ⟨st, 0, none⟩)) ∧ w'.cell? ⟨x, 2, none⟩ = some (.map (some mw)) ∧ w'.cell? ⟨g10, 0, none⟩ = some (.int .i64 1) ∧ w'.cell? ⟨g10, 1, none⟩ = some (.int .u8 0) ∧ Bk w' s (SoloC st l 1 0) 67 ∧ Bk w' x (TxnC mw) 107 ∧ Bk w' g10 S1 98)
    ((first | exact apply_keep A10.out.s.drew A10.out.x.drew b1010.out.drew | exact apply_keep (Aside0.out A11).s (Aside0.out A11).x (Aside0.out b1011) | exact apply_keep (Aside0.out s12) (Aside0.out x12) (Aside0.out b1012)))
    ((first
      | (go_at_call 94; refine (solo_sorted _ mw A10.out.m.drew).mono ?_; rintro e w11 ⟨g11, k11, C11, rfl, h11, b11, hC11, f11⟩; replace f11 := Aside0.mk f11; replace b11 := Aside0.mk b11; replace hC11 := Aside0.mk hC11; replace h11 := Aside0.mk h11; have A11 : Aside0 (Cm s st l ch x mw 0 #[] w11) := ⟨A10.out.drew.below f11.out⟩; have b1011 : Aside0 (Bk w11 g10 S1 98) := ⟨b1010.out.drew.belowS f11.out⟩)
      | (go_at_call 93; refine (store_apply _ _ _ _ _ (Aside0.out A11).st (Aside0.out A11).ch (Aside0.out hC11) (Aside0.out b11)).mono ?_; rintro e w12 ⟨rfl, f12⟩; replace f12 := Aside0.mk f12; have s12 : Aside0 (Bk w12 s (SoloC st l 1 0) 67) := ⟨(Aside0.out A11).s.fr f12.out hch.out.1⟩; have x12 : Aside0 (Bk w12 x (TxnC mw) 107) := ⟨(Aside0.out A11).x.fr f12.out hch.out.2⟩; have b1012 : Aside0 (Bk w12 g10 S1 98) := ⟨(Aside0.out b1011).fr f12.out (by have := A8.out.ch.lt; have := h10.out; omega)⟩)))
  all_goals refine NoPanic.normal ?_
  all_goals go_split_ands
  all_goals have b412 : Aside0 (Bk w12 g4 #[.int .i64 0, .int .u8 0] 98) := ⟨((b410.out.drew).belowS f11.out).fr f12.out (by have := hC.out.ch.lt; have := h4.out; omega)⟩
  all_goals obtain ⟨c0, c1, c2, c3, _⟩ := solo_cells s12.out
  all_goals go_wp2_with (first
    | ((with_reducible refine gate_store (t := 2) (p := 93) (v := .tmp 91) rfl ?_); refine ev_set rfl (ty := 2) (x := .tmp 93) (y := .tmp 91) (b := s) (j := 3) (v := .int .i64 1) rfl (by have hf := Bk.free s12.out 3; first | (go_simp; done) | (go_simp; rfl)) s12.out (SoloC st l 1 1) rfl ?_; intro w13 s13 f13; have b413 := Aside0.mk (b412.out.fr f13.out (by have := hC.out.s.lt; have := h4.out; omega)); have b1013 := Aside0.mk (b1012.out.fr f13.out (by have := A8.out.s.lt; have := h10.out; omega)); clear c0 c1 c2 c3)
    | ((with_reducible refine gate_dst (N := 94) rfl ?_); refine ev_load (N := 94) rfl rfl rfl rfl b1013.out Tryz.underlying98 rfl info98 S1.toList rfl rfl ?_)
    | ((with_reducible refine gate_store (t := 98) (p := 4) (v := .tmp 94) rfl ?_); refine ev_store rfl (ty := 98) (x := .tmp 4) (y := .tmp 94) rfl rfl rfl b413.out info98 s1_one (by decide) S1 s1_over ?_; intro w14 b414 f14))
  all_goals refine ret_cell_tmp (Tryz.results52) rfl b414.out Tryz.underlying98 rfl info98 rfl rfl ⟨rfl, ?_⟩
  all_goals have q1 := f1.out.size
  all_goals have q2 := f2.out.size
  all_goals have q3 := f3.out.size
  all_goals have q4 := f4.out.size
  all_goals have q5 := f5.out.size
  all_goals have q6 := f6.out.size
  all_goals have q8 := f8.out.size
  all_goals have q9 := f9.out.size
  all_goals have q10 := f10.out.size
  all_goals have q15 := hit.out
  all_goals have q16 := h4.out
  all_goals have q17 := h7.out
  all_goals have q18 := h10.out
  all_goals exact commit_frame (it := it) (g4 := g4) (g7 := g7) (g10 := g10) f1.out f2.out f3.out f4.out f5.out f6.out f8.out f9.out f10.out f11.out f12.out f13.out f14.out (by omega) (by omega) (by omega) (by omega)
end Go.Proofs.YtmdjbogdfipcmaaGreatDoor.Hand
