/- CrcSays of package hourglasslaw2: its walk, for any two slices of bytes. -/
import Derived.Test.YtdjhjbjcfebaeaaAwake
import Derived.Test.YtdjhjbjcfebaeaaRef
namespace Go.Proofs.Ytdjhjbjcfebaeaa.Hand
open Go.RowKit Go.Proofs.YtdjhjbjcfebaeaaW.PrintWords Go.Proofs.YtdjhjbjcfebaeaaW.PrintLast Go.Proofs.YtdjhjbjcfebaeaaW.PrintMore Go.Proofs.Ytdjhjbjcfebaeaa.Plain

theorem info5 : (Try.prog.info? 5).map (fun i => (i.zero, i.size, i.bytes)) = some (some (.int .u8 0), 1, 1) := by kernel_rfl

set_option maxHeartbeats 800000 in
set_option maxRecDepth 100000 in
theorem says_late (A0 A1 : Option Addr) (c0 c1 : Nat) (l0 l1 : List Int) (w : World) (h : 500 < l0.length ∨ 500 < l1.length) :
    Calls Try.prog 3 #[.slice A0 l0.length c0, .slice A1 l1.length c1] w fun e w' => e = .returned (.bool true) ∧ Below w.heap.size w w' := by
  by_cases h0 : 500 < l0.length
  · have b0 : decide (500 < (l0.length : Int)) = true := by simp; omega
    have b0' : decide (500 < l0.length) = true := decide_eq_true h0
    clear h h0
    go_enter Try.func3, Try.ntmps3
    go_wp2_with fail
    refine (awake_true _).mono ?_
    rintro e w1 ⟨rfl, hb⟩
    go_wp2_with fail
    go_ret
    exact ⟨rfl, hb⟩
  · have h1 : 500 < l1.length := by omega
    have b0 : decide (500 < (l0.length : Int)) = false := by simp; omega
    have b0' : decide (500 < l0.length) = false := decide_eq_false h0
    have b1 : decide (500 < (l1.length : Int)) = true := by simp; omega
    have b1' : decide (500 < l1.length) = true := decide_eq_true h1
    clear h h0 h1
    go_enter Try.func3, Try.ntmps3
    go_wp2_with fail
    refine (awake_true _).mono ?_
    rintro e w1 ⟨rfl, hb⟩
    go_wp2_with fail
    go_ret
    exact ⟨rfl, hb⟩

set_option maxHeartbeats 1600000 in
set_option maxRecDepth 100000 in
theorem says_near (A0 A1 : Option Addr) (c0 c1 : Nat) (l0 l1 : List Int) (w : World) (hr0 : Kd.C (Kd.int .u8) w A0 l0.length l0) (hc0 : l0.length ≤ c0) (hr1 : Kd.C (Kd.int .u8) w A1 l1.length l1) (hc1 : l1.length ≤ c1)
    (hb0 : ∀ x ∈ l0, 0 ≤ x ∧ x < 256) (hb1 : ∀ x ∈ l1, 0 ≤ x ∧ x < 256) (h0 : ¬ 500 < l0.length) (h1 : ¬ 500 < l1.length) :
    Calls Try.prog 3 #[.slice A0 l0.length c0, .slice A1 l1.length c1] w fun e w' => e = .returned (.bool true) ∧ Below w.heap.size w w' := by
  have b0 : decide (500 < (l0.length : Int)) = false := by simp; omega
  have b0' : decide (500 < l0.length) = false := decide_eq_false h0
  have b1 : decide (500 < (l1.length : Int)) = false := by simp; omega
  have b1' : decide (500 < l1.length) = false := decide_eq_false h1
  have L0 := Aside0.mk h0
  have L1 := Aside0.mk h1
  have HR0 := Aside0.mk hr0
  have HR1 := Aside0.mk hr1
  have HC0 := Aside0.mk hc0
  have HC1 := Aside0.mk hc1
  have HB0 := Aside0.mk hb0
  have HB1 := Aside0.mk hb1
  clear hr0 hr1 hc0 hc1 hb0 hb1 h0 h1
  go_enter Try.func3, Try.ntmps3
  go_wp2_with fail
  refine (awake_true _).mono ?_
  rintro e w1 ⟨rfl, hb⟩
  have HB := Aside0.mk hb
  clear hb
  go_wp2_with (first | ((with_reducible refine gate_dst (N := 16) rfl ?_); refine Kd.R_lit (Kd.int .u8) _ 5 ?hg (N := 16) ?hd (xs := ([] : List Int)) (inner := []) (ok := fun _ => True) (okp := fun _ => True) ?hr ?hp (fun _ hk => hk) trivial (Below.refl _ _) (Nat.le_refl _) (by simp) ?_; (case hd => rfl); (case hg => rfl); (case hr => first | (go_simp; done) | (go_simp; rfl)); (case hp => exact (Reps.none _ _)); intro v16 w2 ho2 hb2 hg_ hnew_; clear hg_ hnew_; have HO2 := Aside0.mk ho2; have HB2 := Aside0.mk (hb2); clear ho2 hb2) | ((with_reducible refine gate_builtin (b := .append) (xs := #[.tmp 16, .tmp 17]) rfl ?_); at_builtin; refine Kd.R_append_rows (Kd.int .u8) (w0 := w1) w1.heap.size rfl (.tmp 16) (.tmp 17) 22 5 (.int .u8 0) 1 rfl Try.underlying22 info5 rfl (by decide) (by omega) v16 ([] : List Int) l0 _ _ _ (fun _ => True) (fun _ => False) rfl rfl HO2.out ?aR (fun _ _ h => h) (fun _ h => h.elim) (fun _ _ => trivial) HB2.out (by have := HB2.out.size; omega) ?aL ?_; (case aR => exact Kd.C_below (Kd.C_below HR0.out HB.out) HB2.out); (case aL => have := L0.out; simp; omega); intro v18 w3 ho3 hb3 hx1 hx2; clear hx1 hx2; have HO3 := Aside0.mk ho3; have HB3 := Aside0.mk hb3; clear ho3 hb3) | ((with_reducible refine gate_builtin (b := .append) (xs := #[.tmp 18, .tmp 19]) rfl ?_); at_builtin; refine Kd.R_append_rows (Kd.int .u8) (w0 := w1) w1.heap.size rfl (.tmp 18) (.tmp 19) 22 5 (.int .u8 0) 1 rfl Try.underlying22 info5 rfl (by decide) (by omega) v18 (([] : List Int) ++ l0) l1 _ _ _ (fun _ => True) (fun _ => False) rfl rfl HO3.out ?aR (fun _ _ h => h) (fun _ h => h.elim) (fun _ _ => trivial) HB3.out (by have := HB3.out.size; omega) ?aL ?_; (case aR => exact Kd.C_below (Kd.C_below HR1.out HB.out) HB3.out); (case aL => have := L0.out; have := L1.out; simp; omega); intro v20 w4 ho4 hb4 hx1 hx2; clear hx1 hx2; obtain ⟨al, hal⟩ : ∃ al : List Int, al = ([] : List Int) ++ l0 ++ l1 := ⟨_, rfl⟩; rw [← hal] at ho4; have HAL := Aside0.mk hal; clear hal; have HO4 := Aside0.mk ho4; have HB4 := Aside0.mk hb4; clear ho4 hb4; obtain ⟨Ao, co, eo⟩ := Kd.R_slice HO4.out; subst eo))
  have BA : Below w.heap.size w w4 := HB.out.trans (HB4.out.mono HB.out.size)
  have R0 := Aside0.mk (Kd.C_below HR0.out BA)
  have R1 := Aside0.mk (Kd.C_below HR1.out BA)
  have RA : Aside0 ((Kd.int .u8).C w4 Ao al.length al) := ⟨(Kd.R_reads' HO4.out).2.2⟩
  have CA : Aside0 (al.length ≤ co) := ⟨(Kd.R_reads' HO4.out).2.1⟩
  have BB := Aside0.mk BA
  clear BA HO4 HO3 HO2 HB2 HB3 HB4 HB HR0 HR1
  have LB0 : Aside0 (l0.length ≤ 140737488355328) := ⟨by have := L0.out; omega⟩
  have LB1 : Aside0 (l1.length ≤ 140737488355328) := ⟨by have := L1.out; omega⟩
  have LBA : Aside0 (al.length ≤ 140737488355328) := ⟨by rw [HAL.out]; have := L0.out; have := L1.out; simp; omega⟩
  have HBA : Aside0 (∀ x ∈ al, 0 ≤ x ∧ x < 256) := ⟨fun x hx => by
    rw [HAL.out, List.nil_append] at hx
    exact (List.mem_append.1 hx).elim (HB0.out x) (HB1.out x)⟩
  have S0 : Aside0 ((0 : Int) ≤ (add 0 l0 : Nat) ∧ ((add 0 l0 : Nat) : Int) < 4294967296) := ⟨by have := add_lt (s := 0) (l := l0) (by decide) (fun x hx => (HB0.out x hx).2); omega⟩
  refine (of_any A0 c0 l0 _ R0.out HC0.out LB0.out HB0.out).mono ?_
  rintro e w5 ⟨rfl, n1, rfl⟩
  go_wp2_with fail
  refine (ref_any A0 c0 l0 _ (Kd.C_drewN R0.out _) HC0.out LB0.out HB0.out).mono ?_
  rintro e w5 ⟨rfl, n2, rfl⟩
  go_wp2_with fail
  refine (of_any A0 c0 l0 _ (Kd.C_drewN R0.out _) HC0.out LB0.out HB0.out).mono ?_
  rintro e w5 ⟨rfl, n3, rfl⟩
  go_wp2_with fail
  refine (add_any A1 c1 l1 _ _ (Kd.C_drewN R1.out _) HC1.out LB1.out HB1.out S0.out).mono ?_
  rintro e w5 ⟨rfl, n4, rfl⟩
  rw [Int.toNat_natCast, Plain.add_add, show l0 ++ l1 = al from by rw [HAL.out]; rfl]
  go_wp2_with fail
  refine (ref_any Ao co al _ (Kd.C_drewN RA.out _) CA.out LBA.out HBA.out).mono ?_
  rintro e w5 ⟨rfl, n5, rfl⟩
  go_wp2_with fail
  refine (add_any A1 c1 l1 _ _ (Kd.C_drewN R1.out _) HC1.out LB1.out HB1.out (by decide)).mono ?_
  rintro e w5 ⟨rfl, n6, rfl⟩
  go_wp2_with fail
  refine (of_any A1 c1 l1 _ (Kd.C_drewN R1.out _) HC1.out LB1.out HB1.out).mono ?_
  rintro e w5 ⟨rfl, n7, rfl⟩
  go_wp2_with fail
  go_ret
  exact ⟨rfl, by repeat (first | exact BB.out | apply pw_below_drewN | apply below_drew1)⟩

theorem wf_bytes {l : List Int} (h : ∀ x ∈ l, (Lit.int .u8 x).wf = true) : ∀ x ∈ l, 0 ≤ x ∧ x < 256 := by
  intro x hx
  have := h x hx
  simp [Lit.wf, IntKind.min, IntKind.max, IntKind.bits, IntKind.signed] at this
  omega

/-- A slice of bytes that came in, as the row's frame hands it on. -/
def RowIn (w : World) (a : Option Addr) (len cap : Nat) (zs : List Int) : Prop :=
  (a = none ∧ len = 0 ∧ cap = 0 ∧ zs = []) ∨ ∃ x, a = some x ∧ len ≤ cap ∧ cap ≤ maxLen ∧ zs.length = cap ∧ (∀ i, i < zs.length → w.cell? (x.add i) = some (.int .u8 (zs.getD i 0))) ∧ ∀ n ∈ zs, (Lit.int .u8 n).wf = true

theorem says_true (a0 : Option Addr) (len0 cap0 : Nat) (z0 : List Int) (a1 : Option Addr) (len1 cap1 : Nat) (z1 : List Int) (w : World) (w0 : RowIn w a0 len0 cap0 z0) (w1 : RowIn w a1 len1 cap1 z1) :
    Calls Try.prog 3 #[.slice a0 len0 cap0, .slice a1 len1 cap1] w fun e w' => e = .returned (.bool true) ∧ Below w.heap.size w w' := by
  obtain ⟨l0, rfl, hr0, hm0, hw0, hc0⟩ := ReadsInt.ofRowC w0
  obtain ⟨l1, rfl, hr1, hm1, hw1, hc1⟩ := ReadsInt.ofRowC w1
  by_cases h0 : 500 < l0.length
  · exact says_late _ _ _ _ _ _ _ (.inl h0)
  · by_cases h1 : 500 < l1.length
    · exact says_late _ _ _ _ _ _ _ (.inr h1)
    · exact says_near _ _ _ _ _ _ _ (Kd.C_of_reads (d := (0 : Int)) (h1 := fun _ => rfl) hr0) hc0 (Kd.C_of_reads (d := (0 : Int)) (h1 := fun _ => rfl) hr1) hc1 (wf_bytes hw0) (wf_bytes hw1) h0 h1
end Go.Proofs.Ytdjhjbjcfebaeaa.Hand
