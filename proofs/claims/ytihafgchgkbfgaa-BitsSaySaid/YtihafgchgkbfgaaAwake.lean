/- awake of package hourglasslaw1: called in whatever world it returns true and leaves what was there as it was. -/
import Derived.Test.YtihafgchgkbfgaaPGetx1
import Derived.Test.YtihafgchgkbfgaaPPutx1
import Derived.Test.YtihafgchgkbfgaaPZigx1
import Derived.WalkSpells
import Derived.WalkLawsBesides
namespace Go.Proofs.Ytihafgchgkbfgaa.Hand
open Go.RowKit Go.Proofs.YtihafgchgkbfgaaW.PrintWords Go.Proofs.YtihafgchgkbfgaaW.PrintLast Go.Proofs.YtihafgchgkbfgaaW.PrintMore
open Go.Proofs.Ytihafgchgkbfgaa.PGet Go.Proofs.Ytihafgchgkbfgaa.PPut Go.Proofs.Ytihafgchgkbfgaa.PZig

theorem put300 : bits_Put.f 5 ([] : List Int) 300 = some [172, 2] := by decide +kernel
theorem get300 : bits_Get.f 20 [172, 2] = some (300, 2, 0) := by decide +kernel
theorem zig2 : bits_Zig.f (-2) = some 3 := by decide +kernel

set_option maxHeartbeats 800000 in
set_option maxRecDepth 100000 in
theorem awake_true (w : World) : Calls Try.prog 11 #[] w fun e w' => e = .returned (.bool true) ∧ Below w.heap.size w w' := by
  have P1 := Aside0.mk put300
  have G1 := Aside0.mk get300
  have Z1 := Aside0.mk zig2
  go_enter Try.func11, Try.ntmps11
  go_wp2_with fail
  refine (bits_Put.calls 5 _ _ ([] : List Int) 300 [172, 2] _ (Kd.C_nil _ _) (Nat.le_refl _) P1.out).mono ?_
  rintro e w1 ⟨v, rfl, ho0, hb⟩
  obtain ⟨Ao, co, eo⟩ := Kd.R_slice ho0
  subst eo
  have HO := Aside0.mk ho0
  have HB := Aside0.mk hb
  clear ho0 hb
  go_wp2_with fail
  refine (bits_Get.calls 20 _ _ [172, 2] 300 2 0 _ (Kd.R_reads' HO.out).2.2 (Kd.R_reads' HO.out).2.1 G1.out).mono ?_
  rintro e w2 ⟨rfl, nd, rfl⟩
  have hcv : (convert 22 9 (Value.slice Ao 2 co)).run Try.prog (w1.drewN nd) = .ok (.string ⟨#[172, 2]⟩) (w1.drewN nd) := own_string (P := Try.prog) Try.underlying22 Try.underlying5 Try.underlying9 (Kd.own_of_R (Kd.R_drewN HO.out nd))
  go_wp2_with fail
  refine (bits_Zig.calls (-2) 3 _ Z1.out).mono ?_
  rintro e w2 ⟨rfl, nd2, rfl⟩
  go_wp2_with fail
  go_ret
  exact ⟨rfl, by repeat (first | exact HB.out | apply below_alloc | apply pw_below_drewN | apply below_drew1)⟩
end Go.Proofs.Ytihafgchgkbfgaa.Hand
