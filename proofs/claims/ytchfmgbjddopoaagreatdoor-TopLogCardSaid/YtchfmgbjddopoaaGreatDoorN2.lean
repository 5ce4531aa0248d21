import Derived.Test.YtchfmgbjddopoaaGreatDoorN1
import Derived.Test.YtchfmgbjddopoaaGreatDoorM32
import Derived.Test.YtchfmgbjddopoaaGreatDoorM33
import Derived.Test.YtchfmgbjddopoaaGreatDoorM40
set_option linter.unusedVariables false
set_option linter.unusedSimpArgs false
set_option maxHeartbeats 6400000
set_option maxRecDepth 100000
section
namespace Go.Proofs.YtchfmgbjddopoaaGreatDoor.Hand
open Go.RowKit Go.Proofs.YtchfmgbjddopoaaGreatDoorW.PrintWords Go.Proofs.YtchfmgbjddopoaaGreatDoorW.PrintLast Go.Proofs.YtchfmgbjddopoaaGreatDoorW.PrintMore
theorem TR (w : World) (m : Int) (hm : w.cell? ⟨0, 0, none⟩ = some (.int .i64 m)) : Calls Tryz.prog 4 #[] w fun e w' => e = .returned (.bool true) ∧ Below w.heap.size w w' := by
 have hR := Y3 w m hm
 clear hm
 go_enter Tryz.func4, Tryz.ntmps4
 go_wp2_with (first
   | (go_at_call 21; refine hR.mono ?_; clear hR; rintro e w1 ⟨rfl, f1⟩; replace f1 := Aa.mk f1))
 go_returns
 exact ⟨rfl, f1.out⟩
end Go.Proofs.YtchfmgbjddopoaaGreatDoor.Hand
namespace Go.Proofs.YtchfmgbjddopoaaGreatDoor.topLog
open Go.ChangeShapes Go.WideShapes Go.ChangeAt Go.RowKit
theorem lifted (os : Os) (started : os.Started) (H : Type) (enc : TypeId × Value → H) :
   ReturnsInHanded {} Tryz.checked os 3 .any (fun w args => (Rows.topLogSpec.pre enc Tryz.prog Tryz.f3 [] false w args ∧ laidMetH Tryz.prog Rows.topLogRow.laid w) ∧ sizedMet enc Tryz.prog Tryz.f3 (OpenSpec.ofChange Rows.topLogSpec) false w args)
     (Rows.topLogSpec.post enc Tryz.prog Tryz.f3 false true false false) := by
 refine lifted_of os started H enc ?_
 intro W base args ds gs before hval0 hW hsh
 have hval : ∀ (j : Nat) t v, Tryz.f3.params[j]? = some t → args[j]? = some v → Value.okWide Tryz.prog W .any base t v := hval0
 have hW' := hW
 obtain ⟨p, q, hA0, hV, rfl, hfz, hnd⟩ := hW
 have hA : DataW.TrodAll enc Tryz.prog W 0 (fun _ => true) true Tryz.f3.params.toList args.toList ds p := hA0
 rw [Tryz.params3] at hA hval
 obtain ⟨v0, vs0, d0, ds0, p0, q0, hargs, rfl, rfl, h0, r0⟩ := trodAll_cons hA
 obtain ⟨v1, vs1, d1, ds1, p1, q1, rfl, rfl, rfl, h1, r1⟩ := trodAll_cons r0
 obtain ⟨v2, vs2, d2, ds2, p2, q2, rfl, rfl, rfl, h2, r2⟩ := trodAll_cons r1
 obtain ⟨v3, vs3, d3, ds3, p3, q3, rfl, rfl, rfl, h3, r3⟩ := trodAll_cons r2
 obtain ⟨rfl, rfl, rfl⟩ := trodAll_nil r3
 obtain rfl : args = #[v0, v1, v2, v3] := by cases args; simp_all
 obtain ⟨rfl, rfl⟩ := trodVars_none hV
 have k0 := h0
 have k1 := h1
 have k2 := h2
 have k3 := h3
 have lt0 : ∀ x ∈ p0, x.block < W.heap.size := by obtain ⟨m, hm⟩ := k0; exact DataW.trod_lt m _ _ _ hm
 have lt1 : ∀ x ∈ p1, x.block < W.heap.size := by obtain ⟨m, hm⟩ := k1; exact DataW.trod_lt m _ _ _ hm
 have lt2 : ∀ x ∈ p2, x.block < W.heap.size := by obtain ⟨m, hm⟩ := k2; exact DataW.trod_lt m _ _ _ hm
 have lt3 : ∀ x ∈ p3, x.block < W.heap.size := by obtain ⟨m, hm⟩ := k3; exact DataW.trod_lt m _ _ _ hm
 obtain ⟨a0, len0, cap0, rfl⟩ := okWide_slice Tryz.underlying22 (hval 0 22 v0 rfl rfl)
 obtain ⟨xs, hrow, hin⟩ : ∃ xs, Hand.RowK Hand.itC 9 W (.slice a0 len0 cap0) xs ∧ ∀ y ∈ xs, Hand.Pg W y := by
   obtain ⟨fuel, hf⟩ := h0
   obtain ⟨A, n, c, xs, hcs, hr, hi⟩ := Hand.VY hf
   simp [Value.cells] at hcs
   obtain ⟨rfl, rfl, rfl⟩ := hcs
   exact ⟨xs, hr, hi⟩
 obtain ⟨sy, rfl, _, _, _⟩ := open_int Tryz.underlying3 (hval 1 3 v1 rfl rfl) h1
 obtain ⟨keep, rfl, _, _, _⟩ := open_int Tryz.underlying3 (hval 2 3 v2 rfl rfl) h2
 obtain ⟨torn, rfl, _, _, hw3⟩ := open_int Tryz.underlying5 (hval 3 5 v3 rfl rfl) h3
 clear hA0 hval0 hval
 obtain ⟨m, hm⟩ := cell_of_shapedOpen_int (k := .i64) (t := 3) (zero := #[.int .i64 0]) (g := 0) hsh (of_decide_eq_true (by kernel_rfl)) (by kernel_rfl) rfl (by kernel_rfl) (by kernel_rfl) Tryz.underlying3
 refine (Hand.Xx W a0 len0 cap0 xs sy keep torn hrow hin (Hand.wf8 hw3) (Hand.TR W m hm)).mono fun e W' ⟨he, bel⟩ => ?_
 subst he
 exact ⟨_, rfl, _, _, _, [], _, [], hW', trodAll_mk1 (shut_bool Tryz.underlying4 _), (trodAll_cons_mk (Below.trod laidOut (by kernel_rfl) (of_decide_eq_true (by kernel_rfl)) k0 bel lt0) (trodAll_cons_mk (Below.trod laidOut (by kernel_rfl) (of_decide_eq_true (by kernel_rfl)) k1 bel lt1) (trodAll_cons_mk (Below.trod laidOut (by kernel_rfl) (of_decide_eq_true (by kernel_rfl)) k2 bel lt2) (trodAll_cons_mk (Below.trod laidOut (by kernel_rfl) (of_decide_eq_true (by kernel_rfl)) k3 bel lt3) trodAll_mk0)))), rfl, bel.frame _, fun h => by cases h⟩
theorem over : Rows.topLogRow.holds Tryz.pinned (OpenSpec.ofChange Rows.topLogSpec) :=
 OpenClaim.holds_of_wide 3 Tryz.f3 rfl rfl rfl rfl rfl rfl rfl ⟨rfl, rfl, rfl, rfl, rfl⟩ rfl rfl rfl rfl rfl named Tryz.func3 closed hinst hwrap
   (fun os started H enc _ => lifted os started H enc)
theorem card : Rows.TopLogCardSaid := card_of over
end Go.Proofs.YtchfmgbjddopoaaGreatDoor.topLog
namespace Go.Proofs.YtchfmgbjddopoaaGreatDoor
theorem topLog_holds : Rows.TopLogCardSaid := topLog.card
end Go.Proofs.YtchfmgbjddopoaaGreatDoor
end
