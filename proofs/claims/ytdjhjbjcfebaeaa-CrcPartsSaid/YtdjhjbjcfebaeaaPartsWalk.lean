/- CrcParts of package hourglasslaw2: its walk, for any slice of slices of bytes. -/
import Derived.Test.YtdjhjbjcfebaeaaSaysWalk
namespace Go.Proofs.Ytdjhjbjcfebaeaa.Hand
open Go.RowKit Go.Proofs.YtdjhjbjcfebaeaaW.PrintWords Go.Proofs.YtdjhjbjcfebaeaaW.PrintLast Go.Proofs.YtdjhjbjcfebaeaaW.PrintMore Go.Proofs.Ytdjhjbjcfebaeaa.Plain

/-- The parts, one behind the other, of the first n. -/
def cat (R : Nat → List Int) : Nat → List Int
  | 0 => []
  | n + 1 => cat R n ++ R n

/-- Rows of bytes that came in: each outer cell a slice, its bytes as R tells. -/
def RowsIn (w : World) (a : Option Addr) (len : Nat) (A : Nat → Option Addr) (C : Nat → Nat) (R : Nat → List Int) : Prop :=
  ∀ r, r < len → ∃ ad, a = some ad ∧ w.cell? (ad.add r) = some (.slice (A r) (R r).length (C r)) ∧ (R r).length ≤ C r ∧ Kd.C (Kd.int .u8) w (A r) (R r).length (R r) ∧ ∀ x ∈ R r, 0 ≤ x ∧ x < 256

set_option maxHeartbeats 1600000 in
set_option maxRecDepth 100000 in
theorem parts_late (a : Option Addr) (len c0 : Nat) (w : World) (h0 : 20 < len) :
    Calls Try.prog 4 #[.slice a len c0] w fun e w' => e = .returned (.bool true) ∧ Below w.heap.size w w' := by
  have b0 : decide (20 < (len : Int)) = true := by simp; omega
  have b0' : decide (20 < len) = true := decide_eq_true h0
  clear h0
  go_enter Try.func4, Try.ntmps4
  go_wp2_with fail
  refine (awake_true _).mono ?_
  rintro e w1 ⟨rfl, hb⟩
  go_wp2_with fail
  go_ret
  exact ⟨rfl, hb⟩

set_option maxHeartbeats 1600000 in
set_option maxRecDepth 100000 in
theorem parts_in (a : Option Addr) (len c0 : Nat) (A : Nat → Option Addr) (C : Nat → Nat) (R : Nat → List Int) (w : World) (hr : RowsIn w a len A C R) (h0 : len ≤ 20) (hcy : ∀ n, n ≤ len → ∀ x ∈ cat R n, 0 ≤ x ∧ x < 256) :
    Calls Try.prog 4 #[.slice a len c0] w fun e w' => e = .returned (.bool true) ∧ Below w.heap.size w w' := by
  have b0 : decide (20 < (len : Int)) = false := by simp; omega
  have b0' : decide (20 < len) = false := decide_eq_false (by omega)
  have HR := Aside0.mk hr
  have H0 := Aside0.mk h0
  have HCY := Aside0.mk hcy
  clear hr h0 hcy
  go_enter Try.func4, Try.ntmps4
  go_wp2_with fail
  refine (awake_true _).mono ?_
  rintro e w1 ⟨rfl, hb⟩
  have HB := Aside0.mk hb
  clear hb
  go_wp2_with fail
  go_loopw [3, 4, 5] (fun v3 v4 v5 wr => ∃ x : Int, 0 ≤ x ∧ x ≤ (len : Int) ∧ v5 = .int .i64 x ∧ v4 = .int .u32 ((add 0 (cat R x.toNat) : Nat) : Int) ∧ Aside0 ((Kd.int .u8).R 5 wr w1.heap.size (fun _ => True) v3 (cat R x.toNat)) ∧ Aside0 ((cat R x.toNat).length ≤ 100 * x.toNat) ∧ Aside0 (Below w1.heap.size w1 wr)) (fun _ _ v5 _ => len - (intOf v5).toNat)
  case atStart => exact ⟨0, by omega, by omega, rfl, by rw [show add 0 (cat R (Int.toNat 0)) = 0 from add_nil 0]; rfl, ⟨Kd.R_nil _ _ _ _ _⟩, ⟨by simp [cat]⟩, ⟨Below.refl _ _⟩⟩
  case round =>
    obtain ⟨x, hx0, hx4, rfl, rfl, HO, HL, HW⟩ := hrel
    have HWW : Aside0 (Below w.heap.size w wr) := ⟨HB.out.trans (HW.out.mono HB.out.size)⟩
    by_cases hlt : x < (len : Int)
    · obtain ⟨ad, rfl, hc, hle, hcr, hby⟩ := HR.out x.toNat (by omega)
      have hcx := pw_cell_below HWW.out hc
      have hcr' := Aside0.mk (Kd.C_below hcr HWW.out)
      have hby' := Aside0.mk hby
      have hle' := Aside0.mk hle
      clear hby hle
      by_cases h100 : 100 < (R x.toNat).length
      · have b1 : decide (100 < ((R x.toNat).length : Int)) = true := by simp; omega
        have b1' : decide (100 < (R x.toNat).length) = true := decide_eq_true h100
        clear h100
        go_wp2
        go_ret
        exact ⟨rfl, HWW.out⟩
      · have b1 : decide (100 < ((R x.toNat).length : Int)) = false := by simp; omega
        have b1' : decide (100 < (R x.toNat).length) = false := decide_eq_false h100
        have H100 := Aside0.mk h100
        clear h100
        have hcat : Aside0 (cat R (x + 1).toNat = cat R x.toNat ++ R x.toNat) := ⟨by rw [show (x + 1).toNat = x.toNat + 1 from by omega]; rfl⟩
        have hadd : Aside0 (add 0 (cat R x.toNat) < 4294967296) := ⟨add_lt (by decide) (fun y hy => (HCY.out x.toNat (by omega) y hy).2)⟩
        generalize cat R x.toNat = m at *
        generalize hm' : cat R (x + 1).toNat = m' at *
        have HM' := Aside0.mk hm'
        clear hm'
        generalize R x.toNat = rx at *
        generalize A x.toNat = ax at *
        generalize C x.toNat = cx at *
        obtain ⟨Ao, co, eo⟩ := Kd.R_slice HO.out
        subst eo
        go_wp2_with (((with_reducible refine gate_builtin (b := .append) (xs := #[.tmp 23, .tmp 27]) rfl ?_); at_builtin; refine Kd.R_append_rows (Kd.int .u8) (w0 := w1) w1.heap.size rfl (.tmp 23) (.tmp 27) 22 5 (.int .u8 0) 1 rfl Try.underlying22 info5 rfl (by decide) (by omega) (.slice Ao m.length co) m rx _ _ _ (fun _ => True) (fun _ => False) rfl rfl HO.out hcr'.out (fun _ _ h => h) (fun _ h => h.elim) (fun _ _ => trivial) HW.out (by have := HW.out.size; omega) ?aL ?_; (case aL => have := HL.out; have := H0.out; have := H100.out; omega); intro v28 w3 ho3 hb3 hx1 hx2; clear hx1 hx2; have HO3 := Aside0.mk ho3; have HB3 := Aside0.mk hb3; clear ho3 hb3; have HW3 : Aside0 (Below w.heap.size w w3) := ⟨HB.out.trans (HB3.out.mono HB.out.size)⟩; have hcx3 := pw_cell_below HW3.out hc))
        refine (add_any ax cx rx _ _ (Kd.C_below hcr HW3.out) hle'.out (by have := H100.out; omega) hby'.out (by have := hadd.out; omega)).mono ?_
        rintro e w5 ⟨rfl, n4, rfl⟩
        rw [Int.toNat_natCast, Plain.add_add, ← hcat.out]
        go_wp2
        go_roundw
        case rel =>
          refine ⟨x + 1, by omega, by omega, ?_, ?_, ⟨?_⟩, ⟨?_⟩, ⟨pw_below_drewN HB3.out _⟩⟩
          · first | rfl | (have h4 := H0.out; rw [show wrap64 (x + 1) = x + 1 from by unfold wrap64; omega])
          · rw [HM'.out]
          · rw [HM'.out, hcat.out]; exact Kd.R_drewN HO3.out _
          · rw [HM'.out, hcat.out, List.length_append]
            have := HL.out
            have := H100.out
            omega
        case measure =>
          have h4 := H0.out
          have e : wrap64 (x + 1) = x + 1 := by unfold wrap64; omega
          first | (simp [intOf]; omega) | (simp [intOf, e]; omega)
    · have hx : x = (len : Int) := by omega
      subst hx
      rw [Int.toNat_natCast] at *
      have hby := Aside0.mk (HCY.out len (Nat.le_refl _))
      generalize cat R len = m at *
      obtain ⟨Ao, co, eo⟩ := Kd.R_slice HO.out
      subst eo
      have HRA := Aside0.mk (Kd.R_reads' HO.out)
      go_wp2_with fail
      refine (of_any Ao co m _ HRA.out.2.2 HRA.out.2.1 (by have := HL.out; have := H0.out; omega) hby.out).mono ?_
      rintro e w5 ⟨rfl, n2, rfl⟩
      go_wp2_with fail
      go_ret
      exact ⟨by first | rfl | simp, by repeat (first | exact HWW.out | apply pw_below_drewN | apply below_drew1)⟩

theorem cat_bytes (R : Nat → List Int) : ∀ n, (∀ r, r < n → ∀ x ∈ R r, 0 ≤ x ∧ x < 256) → ∀ x ∈ cat R n, 0 ≤ x ∧ x < 256
  | 0, _, x, hx => by simp [cat] at hx
  | n + 1, h, x, hx => by
    rcases List.mem_append.1 hx with hx | hx
    · exact cat_bytes R n (fun r hr => h r (by omega)) x hx
    · exact h n (by omega) x hx

theorem parts_true (a : Option Addr) (len c0 : Nat) (A : Nat → Option Addr) (C : Nat → Nat) (R : Nat → List Int) (w : World) (hr : RowsIn w a len A C R) :
    Calls Try.prog 4 #[.slice a len c0] w fun e w' => e = .returned (.bool true) ∧ Below w.heap.size w w' := by
  by_cases h : 20 < len
  · exact parts_late a len c0 w h
  · exact parts_in a len c0 A C R w hr (by omega) (fun n hn => cat_bytes R n (fun r hrn => by
      obtain ⟨_, _, _, _, _, hb⟩ := hr r (by omega)
      exact hb))
end Go.Proofs.Ytdjhjbjcfebaeaa.Hand
