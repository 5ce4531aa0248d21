/- key.Of, key.text, key.Good at the key 'a'. -/
import Derived.Test.YtmdjbogdfipcmaaGreatDoorBase
namespace Go.Proofs.YtmdjbogdfipcmaaGreatDoor.Hand
set_option linter.unusedSimpArgs false
set_option linter.unusedVariables false
open Go.RowKit Go.Proofs.YtmdjbogdfipcmaaGreatDoorW.PrintWords Go.Proofs.YtmdjbogdfipcmaaGreatDoorW.PrintLast Go.Proofs.YtmdjbogdfipcmaaGreatDoorW.PrintMore

theorem size5 (w : World) : (Go.sizeOf 5).run Tryz.prog w = .ok 1 w := by kernel_rfl
theorem info79 : (Tryz.prog.info? 79).map (·.size) = some 16 := by kernel_rfl
theorem info96 : (Tryz.prog.info? 96).map (·.size) = some 18 := by kernel_rfl

theorem copy_a (b : Nat) (W : World) (h : (W.cell? ⟨b, 0, none⟩).isSome = true) (hf : W.frozen? ⟨b, 0, none⟩ = false) :
    (Builtin.copy_ #[44, 9] 3 #[.slice (some ⟨b, 0, none⟩) 16 16, .string ⟨#[97]⟩]).run Tryz.prog W = .ok (.int .i64 1) (W.setCell ⟨b, 0, none⟩ (.int .u8 97)) := by
  have h0 : ∀ j, j < (⟨#[97]⟩ : ByteArray).size → j = 0 := fun j hj => by
    have : j < 1 := hj
    omega
  exact run_copy_string W 44 9 3 5 b 0 16 16 ⟨#[97]⟩ Tryz.underlying44 size5 (by decide) (fun j hj => by rw [h0 j hj]; exact h) (fun j hj => by rw [h0 j hj]; exact hf)

theorem z_ka : Z16.setIfInBounds 0 (.int .u8 97) = KA := by kernel_rfl
theorem ka_cut : (KA.extract 0 (0 + 16)).toList = KA.toList := by kernel_rfl
theorem z_over : over Z16 0 KA.toList = KA := by kernel_rfl
theorem ka_one : KA.all (·.oneCell') = true := by kernel_rfl

set_option maxHeartbeats 1600000 in
set_option maxRecDepth 100000 in
theorem of_a (w : World) (hi : ∀ w', Calls Tryz.prog 81 #[.string ⟨#[97]⟩, .int .u8 0] w' fun e w1 => e = .returned (.int .i64 (-1)) ∧ Drawn0 w' w1) :
    Calls Tryz.prog 41 #[.string ⟨#[97]⟩] w fun e w' => e = .returned (.tuple #[.agg KA, .int .i64 0]) ∧ Below w.heap.size w w' := by
  go_enter Tryz.func41, Tryz.ntmps41
  go_wp2_with (first
    | ((with_reducible refine gate_dst (N := 2) rfl ?_); refine ev_ptr (N := 2) (C := Z16) rfl rfl (by first | (go_simp; done) | (go_simp; rfl)) ?_; intro g2 w2 hg2 b2 f2)
    | ((with_reducible refine gate_dst (N := 4) rfl ?_); refine ev_ptr (N := 4) (C := Z16) rfl rfl (by first | (go_simp; done) | (go_simp; rfl)) ?_; intro g4 w4 hg4 b4 f4; have b2' := Aside0.mk (b2.out.belowS f4.out); have hc := fun n => copy_a g4 (w4.drewN n) (Bk.isSome (b4.out.drewN n) (by decide)) (Bk.free (b4.out.drewN n) 0))
    | (go_at_call 81; refine (hi _).mono ?_; rintro e w1 ⟨rfl, n, rfl⟩)
    | ((with_reducible refine gate_dst (N := 21) rfl ?_); refine ev_load (N := 21) rfl rfl rfl rfl (z_ka ▸ Bk.set (b4.out.drewN n) 0 (.int .u8 97)) Tryz.underlying79 rfl info79 KA.toList ka_cut rfl ?_; clear hc)
    | ((with_reducible refine gate_store (t := 79) (p := 2) (v := .tmp 21) rfl ?_); refine ev_store rfl (ty := 79) (x := .tmp 2) (y := .tmp 21) rfl rfl rfl (Ob.far (b2'.out.drewN n) (by have := b2.out.lt; have := hg4.out; omega) _ _) info79 ka_one (by decide) KA z_over ?_; intro w5 b5 f5))
  refine ret_cell_tmp (Tryz.results41) rfl b5.out Tryz.underlying79 rfl info79 rfl rfl ⟨rfl, ?_⟩
  have := f2.out.size
  have := hg2.out
  have := hg4.out
  exact (Fr.trans (Fr.of_below f2.out) (Fr.trans (T := fun k => k = g2 ∨ k = g4) (Fr.of_below f4.out) ((Fr.drewN (Fr.refl _ _) n).set g4 0 _ (.inl (.inr rfl)) |>.trans (f5.out.weaken (fun _ _ h => .inl h))))).below (by omega) (Nat.le_refl _)

theorem ka_eq (W : World) : (binOp .eql 79 (.agg KA) (.agg KA)).run Tryz.prog W = .ok (.bool true) W := by kernel_rfl

theorem conv_a (b : Nat) (W : World) (C : Array Value) (t : Nat) (h : Bk W b C t) (h0 : C[0]? = some (.int .u8 97)) : (convert 44 9 (.slice (some ⟨b, 0, none⟩) 1 16)).run Tryz.prog W = .ok (.string ⟨#[97]⟩) W := by
  have hr : ReadsInt W .u8 (some ⟨b, 0, none⟩) 1 [97] := ⟨rfl, by decide, fun _ => ⟨_, rfl, fun j hj => by
    have : j = 0 := by omega
    subst this
    exact h.cell h0⟩⟩
  exact string_of_reads Tryz.underlying44 Tryz.underlying5 Tryz.underlying9 hr

set_option maxHeartbeats 1600000 in
set_option maxRecDepth 100000 in
theorem text_a (w : World) : Calls Tryz.prog 89 #[.agg KA] w fun e w' => e = .returned (.string ⟨#[97]⟩) ∧ Below w.heap.size w w' := by
  unfold KA
  go_enter Tryz.func89, Tryz.ntmps89
  go_wp2_with (refine ev_ptr (N := 1) rfl rfl (by first | (go_simp; done) | (go_simp; rfl)) ?_; intro g2 w2 hg2 b2 f2; have c0 := Bk.cell b2.out (j := 0) rfl; have c1 := Bk.cell b2.out (j := 1) rfl; have hv := conv_a g2 w2 _ _ b2.out rfl)
  refine wp_loop_rounds 3 ?_
  rw [rounds_succ]
  go_wp2_with fail
  rw [rounds_succ]
  go_wp2_with fail
  go_returns
  exact ⟨rfl, f2.out⟩

set_option maxHeartbeats 1600000 in
set_option maxRecDepth 100000 in
theorem good_a (w : World) (hi : ∀ w', Calls Tryz.prog 81 #[.string ⟨#[97]⟩, .int .u8 0] w' fun e w1 => e = .returned (.int .i64 (-1)) ∧ Drawn0 w' w1) :
    Calls Tryz.prog 82 #[.agg KA] w fun e w' => e = .returned (.bool true) ∧ Below w.heap.size w w' := by
  have KE : Aside0 (KA = #[.int .u8 97, .int .u8 0, .int .u8 0, .int .u8 0, .int .u8 0, .int .u8 0, .int .u8 0, .int .u8 0, .int .u8 0, .int .u8 0, .int .u8 0, .int .u8 0, .int .u8 0, .int .u8 0, .int .u8 0, .int .u8 0]) := ⟨rfl⟩
  go_enter Tryz.func82, Tryz.ntmps82
  go_wp2_with (first
    | ((with_reducible refine gate_dst (N := 1) rfl ?_); refine ev_ptr (N := 1) (C := KA) rfl rfl (by first | (go_simp; done) | (go_simp; rfl)) ?_; intro g1 w1 hg1 b1 f1)
    | ((with_reducible refine gate_dst (N := 6) rfl ?_); refine ev_load (N := 6) rfl rfl rfl rfl b1.out Tryz.underlying79 rfl info79 KA.toList ka_cut rfl ?_)
    | (go_at_call 89; refine (text_a _).mono ?_; rintro e w2 ⟨rfl, f2⟩; replace f2 := Aside0.mk f2; have b1' := Aside0.mk (b1.out.belowS f2.out))
    | (go_at_call 41; refine (of_a _ hi).mono ?_; rintro e w3 ⟨rfl, f3⟩; replace f3 := Aside0.mk f3; have b1'' := Aside0.mk (b1'.out.belowS f3.out))
    | ((with_reducible refine gate_dst (N := 3) rfl ?_); refine ev_ptr (N := 3) (C := Z16) rfl rfl (by first | (go_simp; done) | (go_simp; rfl)) ?_; intro g4 w4 hg4 b4 f4; have b1x := Aside0.mk (b1''.out.belowS f4.out))
    | ((with_reducible refine gate_store (t := 79) (p := 3) (v := .tmp 9) rfl ?_); refine ev_store rfl (ty := 79) (x := .tmp 3) (y := .tmp 9) rfl rfl rfl b4.out info79 ka_one (by decide) KA z_over ?_; intro w5 b5 f5; have b1y := Aside0.mk (b1x.out.fr f5.out (by have := b1''.out.lt; have := hg4.out; omega)))
    | ((with_reducible refine gate_dst (N := 14) rfl ?_); refine ev_loadg (N := 14) rfl (by rfl) rfl rfl b5.out Tryz.underlying79 rfl info79 KA.toList ka_cut rfl ?_)
    | ((with_reducible refine gate_dst (N := 15) rfl ?_); refine ev_loadg (N := 15) rfl (by rfl) rfl rfl b1y.out Tryz.underlying79 rfl info79 KA.toList ka_cut rfl ?_; have he := ka_eq))
  go_returns
  have := f2.out.size
  have := f3.out.size
  have := f1.out.size
  have := hg4.out
  exact ⟨rfl, (Fr.trans (T := fun k => k = g4) (Fr.of_below f1.out) ((Fr.of_below f2.out).trans ((Fr.of_below f3.out).trans ((Fr.of_below f4.out).trans f5.out)))).below (by omega) (Nat.le_refl _)⟩
end Go.Proofs.YtmdjbogdfipcmaaGreatDoor.Hand
