/- BitsBack of package hourglasslaw1: its walk, for any uint64 and any slice of bytes. -/
import Derived.Test.YtihafgchgkbfgaaBackPlain
import Derived.Test.YtihafgchgkbfgaaReadsWalk
namespace Go.Proofs.Ytihafgchgkbfgaa.Hand
open Go.RowKit Go.Proofs.YtihafgchgkbfgaaW.PrintWords Go.Proofs.YtihafgchgkbfgaaW.PrintLast Go.Proofs.YtihafgchgkbfgaaW.PrintMore
open Go.Proofs.Ytihafgchgkbfgaa.PGet Go.Proofs.Ytihafgchgkbfgaa.PPut Go.Proofs.Ytihafgchgkbfgaa.PZig Go.Proofs.Ytihafgchgkbfgaa.PZag Go.Proofs.Ytihafgchgkbfgaa.Plain

theorem info5 : (Try.prog.info? 5).map (fun i => (i.zero, i.size, i.bytes)) = some (some (.int .u8 0), 1, 1) := by kernel_rfl

set_option maxHeartbeats 800000 in
set_option maxRecDepth 100000 in
theorem back_late (v : Int) (A0 : Option Addr) (c0 : Nat) (l : List Int) (w : World) (h0 : 100 < l.length) :
    Calls Try.prog 6 #[.int .u64 v, .slice A0 l.length c0] w fun e w' => e = .returned (.bool true) ∧ Below w.heap.size w w' := by
  have b0 : decide (100 < (l.length : Int)) = true := by simp; omega
  have b0' : decide (100 < l.length) = true := decide_eq_true h0
  clear h0
  go_enter Try.func6, Try.ntmps6
  go_wp2_with fail
  refine (awake_true _).mono ?_
  rintro e w1 ⟨rfl, hb⟩
  go_wp2_with fail
  go_ret
  exact ⟨rfl, hb⟩

set_option maxHeartbeats 1600000 in
set_option maxRecDepth 100000 in
theorem back_in (v : Int) (A0 : Option Addr) (c0 : Nat) (l : List Int) (w : World) (hr0 : Kd.C (Kd.int .u8) w A0 l.length l) (hc0 : l.length ≤ c0) (h0 : ¬ 100 < l.length)
    (xs : List Int) (hx : xs.length ≤ 10) (hp : bits_Put.f 20 [] v = some xs) (hg : bits_Get.f 30 (xs ++ l) = some (v, (xs.length : Int), 0))
    (z : Int) (hz : bits_Zig.f (wrap64 v) = some z) (hzz : bits_Zag.f z = some (wrap64 v)) (g : Int) (hgg : bits_Zag.f v = some g) (hgz : bits_Zig.f g = some v) :
    Calls Try.prog 6 #[.int .u64 v, .slice A0 l.length c0] w fun e w' => e = .returned (.bool true) ∧ Below w.heap.size w w' := by
  have b0 : decide (100 < (l.length : Int)) = false := by simp; omega
  have b0' : decide (100 < l.length) = false := decide_eq_false h0
  have HR0 := Aside0.mk hr0
  have HC0 := Aside0.mk hc0
  have H0 := Aside0.mk h0
  have HX := Aside0.mk hx
  have HP := Aside0.mk hp
  have HG := Aside0.mk hg
  have Z1 := Aside0.mk hz
  have Z2 := Aside0.mk hzz
  have Z3 := Aside0.mk hgg
  have Z4 := Aside0.mk hgz
  clear hr0 hc0 h0 hx hp hg hz hzz hgg hgz
  go_enter Try.func6, Try.ntmps6
  go_wp2_with fail
  refine (awake_true _).mono ?_
  rintro e w1 ⟨rfl, hb⟩
  have HB := Aside0.mk hb
  clear hb
  go_wp2_with fail
  refine (bits_Put.calls 20 _ _ ([] : List Int) v xs _ (Kd.C_nil _ _) (Nat.le_refl _) HP.out).mono ?_
  rintro e W ⟨vx, rfl, hox, hbx⟩
  have HBW : Aside0 (Below w.heap.size w W) := ⟨HB.out.trans (hbx.mono HB.out.size)⟩
  have HRW : Aside0 (Kd.C (Kd.int .u8) W A0 l.length l) := ⟨Kd.C_below HR0.out HBW.out⟩
  obtain ⟨Ax, cx, ex⟩ := Kd.R_slice hox
  subst ex
  have HCX : Aside0 (Kd.C (Kd.int .u8) W Ax xs.length xs) := ⟨(Kd.R_reads' hox).2.2⟩
  have HCc : Aside0 (xs.length ≤ cx) := ⟨(Kd.R_reads' hox).2.1⟩
  clear hox hbx HB
  go_wp2_with (first | ((with_reducible refine gate_dst (N := 17) rfl ?_); refine Kd.R_lit (Kd.int .u8) _ 5 ?hg (N := 17) ?hd (xs := ([] : List Int)) (inner := []) (ok := fun _ => True) (okp := fun _ => True) ?hr ?hp (fun _ hk => hk) trivial (Below.refl _ _) (Nat.le_refl _) (by simp) ?_; (case hd => rfl); (case hg => rfl); (case hr => first | (go_simp; done) | (go_simp; rfl)); (case hp => exact (Reps.none _ _)); intro v17 w2 ho2 hb2 hg_ hnew_; clear hg_ hnew_; have HO2 := Aside0.mk ho2; have HB2 := Aside0.mk (hb2); clear ho2 hb2) | ((with_reducible refine gate_builtin (b := .append) (xs := #[.tmp 17, .tmp 18]) rfl ?_); at_builtin; refine Kd.R_append_rows (Kd.int .u8) (w0 := W) W.heap.size rfl (.tmp 17) (.tmp 18) 22 5 (.int .u8 0) 1 rfl Try.underlying22 info5 rfl (by decide) (by omega) v17 ([] : List Int) xs _ _ _ (fun _ => True) (fun _ => False) rfl rfl HO2.out ?aR (fun _ _ h => h) (fun _ h => h.elim) (fun _ _ => trivial) HB2.out (by have := HB2.out.size; omega) ?aL ?_; (case aR => exact Kd.C_below HCX.out HB2.out); (case aL => have := HX.out; simp; omega); intro v19 w3 ho3 hb3 hx1 hx2; clear hx1 hx2; rw [List.nil_append] at ho3; have HO3 := Aside0.mk ho3; have HB3 := Aside0.mk hb3; clear ho3 hb3) | ((with_reducible refine gate_builtin (b := .append) (xs := #[.tmp 19, .tmp 20]) rfl ?_); at_builtin; refine Kd.R_append_rows (Kd.int .u8) (w0 := W) W.heap.size rfl (.tmp 19) (.tmp 20) 22 5 (.int .u8 0) 1 rfl Try.underlying22 info5 rfl (by decide) (by omega) v19 xs l _ _ _ (fun _ => True) (fun _ => False) rfl rfl HO3.out ?aR (fun _ _ h => h) (fun _ h => h.elim) (fun _ _ => trivial) HB3.out (by have := HB3.out.size; omega) ?aL ?_; (case aR => exact Kd.C_below HRW.out HB3.out); (case aL => have := HX.out; have := H0.out; omega); intro v21 w4 ho4 hb4 hx1 hx2; clear hx1 hx2; obtain ⟨al, hal⟩ : ∃ al : List Int, al = xs ++ l := ⟨_, rfl⟩; rw [← hal] at ho4; have HAL := Aside0.mk hal; clear hal; have HO4 := Aside0.mk ho4; have HB4 := Aside0.mk hb4; clear ho4 hb4; obtain ⟨Ao, co, eo⟩ := Kd.R_slice HO4.out; subst eo))
  refine (bits_Get.calls 30 _ _ al v (xs.length : Int) 0 _ (Kd.R_reads' HO4.out).2.2 (Kd.R_reads' HO4.out).2.1 (by rw [HAL.out]; exact HG.out)).mono ?_
  rintro e w5 ⟨rfl, n1, rfl⟩
  go_wp2_with fail
  refine (bits_Zig.calls _ z _ Z1.out).mono ?_
  rintro e w5 ⟨rfl, n2, rfl⟩
  go_wp2_with fail
  refine (bits_Zag.calls z _ _ Z2.out).mono ?_
  rintro e w5 ⟨rfl, n3, rfl⟩
  go_wp2_with fail
  refine (bits_Zag.calls v g _ Z3.out).mono ?_
  rintro e w5 ⟨rfl, n4, rfl⟩
  go_wp2_with fail
  refine (bits_Zig.calls g v _ Z4.out).mono ?_
  rintro e w5 ⟨rfl, n5, rfl⟩
  go_wp2_with fail
  have HBE : Below w.heap.size w w4 := HBW.out.trans (HB4.out.mono HBW.out.size)
  go_ret
  exact ⟨rfl, by repeat (first | exact HBE | apply pw_below_drewN | apply below_drew1)⟩

theorem back_true (v : Int) (a0 : Option Addr) (len0 cap0 : Nat) (z0 : List Int) (w : World) (hv : (Lit.int .u64 v).wf = true) (w0 : RowIn w .u8 a0 len0 cap0 z0) :
    Calls Try.prog 6 #[.int .u64 v, .slice a0 len0 cap0] w fun e w' => e = .returned (.bool true) ∧ Below w.heap.size w w' := by
  obtain ⟨l, rfl, hr0, hm0, hw0, hc0⟩ := ReadsInt.ofRowC w0
  by_cases h : 100 < l.length
  · exact back_late v _ _ l _ h
  · obtain ⟨v0, v1⟩ := wf_u64 hv
    obtain ⟨n, rfl⟩ := Int.eq_ofNat_of_zero_le v0
    have hs : -9223372036854775808 ≤ wrap64 (n : Int) ∧ wrap64 (n : Int) < 9223372036854775808 := by unfold wrap64; omega
    obtain ⟨q1, q2, q3⟩ := zag_zig _ hs.1 hs.2
    obtain ⟨r1, r2, r3⟩ := zig_zag (n : Int) v0 v1
    refine back_in (n : Int) _ _ l _ (Kd.C_of_reads (d := (0 : Int)) (h1 := fun _ => rfl) hr0) hc0 h (enc n) (enc_length 9 n (lt_pow10 n (by omega))) ?_ (get_is n l (by omega)) (zz (wrap64 (n : Int))) (zig_is _ hs.1 hs.2) ?_ (zg (n : Int)) (zag_is _ v0 v1) ?_
    · have := put_is n [] (by omega) (by simp)
      simpa using this
    · rw [zag_is _ q1 q2, q3]
    · rw [zig_is _ r1 r2, r3]
end Go.Proofs.Ytihafgchgkbfgaa.Hand
