/- BitsKnown of package hourglasslaw1: its walk, a closed statement. -/
import Derived.Test.YtihafgchgkbfgaaBackWalk
import Derived.Test.YtihafgchgkbfgaaCut
import Derived.Test.YtihafgchgkbfgaaFewWalk
namespace Go.Proofs.Ytihafgchgkbfgaa.Hand
open Go.RowKit Go.Proofs.YtihafgchgkbfgaaW.PrintWords Go.Proofs.YtihafgchgkbfgaaW.PrintLast Go.Proofs.YtihafgchgkbfgaaW.PrintMore
open Go.Proofs.Ytihafgchgkbfgaa.PGet Go.Proofs.Ytihafgchgkbfgaa.PPut Go.Proofs.Ytihafgchgkbfgaa.PZig Go.Proofs.Ytihafgchgkbfgaa.PZag Go.Proofs.Ytihafgchgkbfgaa.PLen Go.Proofs.Ytihafgchgkbfgaa.Plain

theorem k_g0 : bits_Get.f 40 [] = some (0, 0, 3) := by decide +kernel
theorem k_g1 : bits_Get.f 40 [128, 0] = some (0, 0, 3) := by decide +kernel
theorem k_g2 : bits_Get.f 40 [255, 255, 255, 255, 255, 255, 255, 255, 255, 2] = some (0, 0, 3) := by decide +kernel
theorem k_g3 : bits_Get.f 40 [255, 255, 255, 255, 255, 255, 255, 255, 255, 1, 7] = some (18446744073709551615, 10, 0) := by decide +kernel
theorem k_zig : bits_Zig.f (-9223372036854775808) = some 18446744073709551615 := by decide +kernel
theorem k_zag : bits_Zag.f 18446744073709551615 = some (-9223372036854775808) := by decide +kernel
theorem k_l0 : bits_Len.f 20 0 = some 1 := by decide +kernel
theorem k_l1 : bits_Len.f 20 128 = some 2 := by decide +kernel
theorem k_l2 : bits_Len.f 20 9223372036854775808 = some 10 := by decide +kernel
theorem k_s0 (w : World) : Calls Try.prog 19 #[.int .u64 128, .int .i64 8] w fun e w' => e = .returned (.int .i64 (-128)) ∧ Drawn0 w w' := by
  have := sign_any 128 8 w; rwa [show sgn 128 (sp 8) = -128 from by decide +kernel] at this
theorem k_s1 (w : World) : Calls Try.prog 19 #[.int .u64 127, .int .i64 8] w fun e w' => e = .returned (.int .i64 127) ∧ Drawn0 w w' := by
  have := sign_any 127 8 w; rwa [show sgn 127 (sp 8) = 127 from by decide +kernel] at this
theorem k_s2 (w : World) : Calls Try.prog 19 #[.int .u64 5, .int .i64 0] w fun e w' => e = .returned (.int .i64 5) ∧ Drawn0 w w' := by
  have := sign_any 5 0 w; rwa [show sgn 5 (sp 0) = 5 from by decide +kernel] at this
theorem k_s3 (w : World) : Calls Try.prog 19 #[.int .u64 9223372036854775808, .int .i64 64] w fun e w' => e = .returned (.int .i64 (-9223372036854775808)) ∧ Drawn0 w w' := by
  have := sign_any 9223372036854775808 64 w; rwa [show sgn 9223372036854775808 (sp 64) = -9223372036854775808 from by decide +kernel] at this
theorem k_c0 (w : World) : Calls Try.prog 18 #[.int .i64 (-1), .int .i64 8] w fun e w' => e = .returned (.tuple #[.int .u64 255, .bool true]) ∧ Drawn0 w w' := by
  have := cut_any (-1) 8 w; rwa [show cutx (-1) (sp 8) = 255 from by decide +kernel, show (sgn 255 (sp 8) == -1) = true from by decide +kernel] at this
theorem k_c1 (w : World) : Calls Try.prog 18 #[.int .i64 128, .int .i64 8] w fun e w' => e = .returned (.tuple #[.int .u64 128, .bool false]) ∧ Drawn0 w w' := by
  have := cut_any 128 8 w; rwa [show cutx 128 (sp 8) = 128 from by decide +kernel, show (sgn 128 (sp 8) == 128) = false from by decide +kernel] at this

theorem lit_reads (W : World) (xs : List Int) (h : xs.length ≤ 9223372036854775807) : Kd.C (Kd.int .u8) (W.alloc (.cells (xs.map (Value.int .u8)).toArray 5)) (some ⟨W.heap.size, 0, none⟩) xs.length xs := by
  refine Kd.C_of_reads (d := (0 : Int)) (h1 := fun _ => rfl) (?_ : ReadsInt _ .u8 _ xs.length xs)
  refine ⟨rfl, h, fun _ => ⟨_, rfl, fun j hj => ?_⟩⟩
  have e : ((⟨W.heap.size, 0, none⟩ : Addr).add j) = ⟨W.heap.size, j, none⟩ := by unfold Addr.add; split <;> simp_all
  rw [e, World.cell?_alloc_new]
  rw [List.getElem?_toArray, List.getElem?_map, List.getElem?_eq_getElem hj, List.getD_eq_getElem?_getD, List.getElem?_eq_getElem hj]
  rfl

set_option maxHeartbeats 3200000 in
set_option maxRecDepth 100000 in
theorem known_true (w : World) : Calls Try.prog 9 #[] w fun e w' => e = .returned (.bool true) ∧ Below w.heap.size w w' := by
  go_enter Try.func9, Try.ntmps9
  go_wp2_with fail
  refine (awake_true _).mono ?_
  rintro e w1 ⟨rfl, hb1⟩
  have HB := Aside0.mk hb1
  clear hb1
  go_wp2_with fail
  refine (bits_Get.calls 40 _ _ [] 0 0 3 _ (Kd.C_nil _ _) (Nat.le_refl _) k_g0).mono ?_
  rintro e w2 ⟨rfl, n1, hw⟩
  have HB' : Aside0 (Below w.heap.size w w2) := ⟨by rw [hw]; exact pw_below_drewN HB.out _⟩
  clear hw HB; have HB := HB'; clear HB'
  go_wp2_with fail
  refine (bits_Get.calls 40 _ 2 [128, 0] 0 0 3 _ (lit_reads w2 [128, 0] (by decide)) (by decide) k_g1).mono ?_
  rintro e w3 ⟨rfl, n1, hw⟩
  have HB' : Aside0 (Below w.heap.size w w3) := ⟨by rw [hw]; exact pw_below_drewN (below_alloc HB.out _) _⟩
  clear hw HB; have HB := HB'; clear HB'
  go_wp2_with fail
  refine (bits_Get.calls 40 _ 10 [255, 255, 255, 255, 255, 255, 255, 255, 255, 2] 0 0 3 _ (lit_reads w3 [255, 255, 255, 255, 255, 255, 255, 255, 255, 2] (by decide)) (by decide) k_g2).mono ?_
  rintro e w4 ⟨rfl, n1, hw⟩
  have HB' : Aside0 (Below w.heap.size w w4) := ⟨by rw [hw]; exact pw_below_drewN (below_alloc HB.out _) _⟩
  clear hw HB; have HB := HB'; clear HB'
  go_wp2_with fail
  refine (bits_Get.calls 40 _ 11 [255, 255, 255, 255, 255, 255, 255, 255, 255, 1, 7] 18446744073709551615 10 0 _ (lit_reads w4 [255, 255, 255, 255, 255, 255, 255, 255, 255, 1, 7] (by decide)) (by decide) k_g3).mono ?_
  rintro e w5 ⟨rfl, n1, hw⟩
  have HB' : Aside0 (Below w.heap.size w w5) := ⟨by rw [hw]; exact pw_below_drewN (below_alloc HB.out _) _⟩
  clear hw HB; have HB := HB'; clear HB'
  go_wp2_with fail
  refine (k_c0 _).mono ?_
  rintro e w6 ⟨rfl, n1, hw⟩
  have HB' : Aside0 (Below w.heap.size w w6) := ⟨by rw [hw]; exact pw_below_drewN HB.out _⟩
  clear hw HB; have HB := HB'; clear HB'
  go_wp2_with fail
  refine (k_c1 _).mono ?_
  rintro e w7 ⟨rfl, n1, hw⟩
  have HB' : Aside0 (Below w.heap.size w w7) := ⟨by rw [hw]; exact pw_below_drewN HB.out _⟩
  clear hw HB; have HB := HB'; clear HB'
  go_wp2_with fail
  refine (bits_Zig.calls (-9223372036854775808) 18446744073709551615 _ k_zig).mono ?_
  rintro e w8 ⟨rfl, n1, hw⟩
  have HB' : Aside0 (Below w.heap.size w w8) := ⟨by rw [hw]; exact pw_below_drewN HB.out _⟩
  clear hw HB; have HB := HB'; clear HB'
  go_wp2_with fail
  refine (bits_Zag.calls 18446744073709551615 (-9223372036854775808) _ k_zag).mono ?_
  rintro e w9 ⟨rfl, n1, hw⟩
  have HB' : Aside0 (Below w.heap.size w w9) := ⟨by rw [hw]; exact pw_below_drewN HB.out _⟩
  clear hw HB; have HB := HB'; clear HB'
  go_wp2_with fail
  refine (k_s0 _).mono ?_
  rintro e w10 ⟨rfl, n1, hw⟩
  have HB' : Aside0 (Below w.heap.size w w10) := ⟨by rw [hw]; exact pw_below_drewN HB.out _⟩
  clear hw HB; have HB := HB'; clear HB'
  go_wp2_with fail
  refine (k_s1 _).mono ?_
  rintro e w11 ⟨rfl, n1, hw⟩
  have HB' : Aside0 (Below w.heap.size w w11) := ⟨by rw [hw]; exact pw_below_drewN HB.out _⟩
  clear hw HB; have HB := HB'; clear HB'
  go_wp2_with fail
  refine (k_s2 _).mono ?_
  rintro e w12 ⟨rfl, n1, hw⟩
  have HB' : Aside0 (Below w.heap.size w w12) := ⟨by rw [hw]; exact pw_below_drewN HB.out _⟩
  clear hw HB; have HB := HB'; clear HB'
  go_wp2_with fail
  refine (k_s3 _).mono ?_
  rintro e w13 ⟨rfl, n1, hw⟩
  have HB' : Aside0 (Below w.heap.size w w13) := ⟨by rw [hw]; exact pw_below_drewN HB.out _⟩
  clear hw HB; have HB := HB'; clear HB'
  go_wp2_with fail
  refine (bits_Len.calls 20 0 1 _ k_l0).mono ?_
  rintro e w14 ⟨rfl, n1, hw⟩
  have HB' : Aside0 (Below w.heap.size w w14) := ⟨by rw [hw]; exact pw_below_drewN HB.out _⟩
  clear hw HB; have HB := HB'; clear HB'
  go_wp2_with fail
  refine (bits_Len.calls 20 128 2 _ k_l1).mono ?_
  rintro e w15 ⟨rfl, n1, hw⟩
  have HB' : Aside0 (Below w.heap.size w w15) := ⟨by rw [hw]; exact pw_below_drewN HB.out _⟩
  clear hw HB; have HB := HB'; clear HB'
  go_wp2_with fail
  refine (bits_Len.calls 20 9223372036854775808 10 _ k_l2).mono ?_
  rintro e w16 ⟨rfl, n1, hw⟩
  have HB' : Aside0 (Below w.heap.size w w16) := ⟨by rw [hw]; exact pw_below_drewN HB.out _⟩
  clear hw HB; have HB := HB'; clear HB'
  go_wp2_with fail
  go_ret
  exact ⟨rfl, HB.out⟩
end Go.Proofs.Ytihafgchgkbfgaa.Hand
