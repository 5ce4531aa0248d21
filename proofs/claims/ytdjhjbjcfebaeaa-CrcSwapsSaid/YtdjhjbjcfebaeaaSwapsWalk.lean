/- CrcSwaps of package hourglasslaw2: its walk, for any slice of bytes and any int. -/
import Derived.Test.YtdjhjbjcfebaeaaSaysWalk
import Derived.Test.YtdjhjbjcfebaeaaPlain2
import Derived.RegionTactic
import Derived.ChangeAlike
import Derived.BigRegion
namespace Go.Proofs.Ytdjhjbjcfebaeaa.Hand
open Go.RowKit Go.Proofs.YtdjhjbjcfebaeaaW.PrintWords Go.Proofs.YtdjhjbjcfebaeaaW.PrintLast Go.Proofs.YtdjhjbjcfebaeaaW.PrintMore Go.Proofs.Ytdjhjbjcfebaeaa.Plain

/-- The text's test: none of it to show. -/
def SwapOut (l : List Int) (i : Int) : Prop := 400 < l.length ∨ i < 0 ∨ (l.length : Int) - 2 < i

set_option maxHeartbeats 1600000 in
set_option maxRecDepth 100000 in
theorem swaps_out (A0 : Option Addr) (c0 : Nat) (l : List Int) (i : Int) (w : World) (h : SwapOut l i) (hl : l.length ≤ 140737488355328) :
    Calls Try.prog 7 #[.slice A0 l.length c0, .int .i64 i] w fun e w' => e = .returned (.bool true) ∧ Below w.heap.size w w' := by
  by_cases h0 : 400 < l.length
  · have b0 : decide (400 < (l.length : Int)) = true := by simp; omega
    have b0' : decide (400 < l.length) = true := decide_eq_true h0
    clear h h0
    go_enter Try.func7, Try.ntmps7
    go_wp2_with fail
    refine (awake_true _).mono ?_
    rintro e w1 ⟨rfl, hb⟩
    go_wp2_with fail
    go_quiet (fail)
    go_wp2_with fail
    go_ret
    exact ⟨rfl, by repeat (first | exact hb | apply pw_below_drewN | apply below_drew1)⟩
  · have b0 : decide (400 < (l.length : Int)) = false := by simp; omega
    have b0' : decide (400 < l.length) = false := decide_eq_false h0
    by_cases h1 : i < 0
    · have b1 : decide (i < 0) = true := decide_eq_true h1
      clear h h0 h1
      go_enter Try.func7, Try.ntmps7
      go_wp2_with fail
      refine (awake_true _).mono ?_
      rintro e w1 ⟨rfl, hb⟩
      go_wp2_with fail
      go_quiet (fail)
      go_wp2_with fail
      go_ret
      exact ⟨rfl, by repeat (first | exact hb | apply pw_below_drewN | apply below_drew1)⟩
    · have b1 : decide (i < 0) = false := decide_eq_false h1
      have h2 : (l.length : Int) - 2 < i := by unfold SwapOut at h; omega
      have b2 : decide ((l.length : Int) - 2 < i) = true := decide_eq_true h2
      clear h h1
      go_enter Try.func7, Try.ntmps7
      go_wp2_with fail
      refine (awake_true _).mono ?_
      rintro e w1 ⟨rfl, hb⟩
      go_wp2_with fail
      go_quiet (fail)
      go_wp2_with fail
      go_ret
      exact ⟨rfl, by repeat (first | exact hb | apply pw_below_drewN | apply below_drew1)⟩

set_option maxHeartbeats 1600000 in
set_option maxRecDepth 100000 in
theorem swaps_same (A0 : Option Addr) (c0 : Nat) (l : List Int) (i : Int) (w : World) (hr0 : Kd.C (Kd.int .u8) w A0 l.length l) (h0 : l.length ≤ 400) (h1 : 0 ≤ i) (h2 : i ≤ (l.length : Int) - 2) (he : rd l i = rd l (i + 1)) :
    Calls Try.prog 7 #[.slice A0 l.length c0, .int .i64 i] w fun e w' => e = .returned (.bool true) ∧ Below w.heap.size w w' := by
  have b0 : decide (400 < (l.length : Int)) = false := by simp; omega
  have b0' : decide (400 < l.length) = false := decide_eq_false (by omega)
  have b1 : decide (i < 0) = false := decide_eq_false (by omega)
  have b2 : decide ((l.length : Int) - 2 < i) = false := decide_eq_false (by omega)
  obtain ⟨ad, ea, hx⟩ := Kd.at_int hr0 i h1 (by omega)
  cases ea
  obtain ⟨ad', ea, hy⟩ := Kd.at_int hr0 (i + 1) (by omega) (by omega)
  cases ea
  have be : (rd l i == rd l (i + 1)) = true := beq_iff_eq.2 he
  have hw1 : wrap64 (i + 1) = i + 1 := by unfold wrap64; omega
  have p1 : i < (l.length : Int) := by omega
  have p2 : i + 1 < (l.length : Int) := by omega
  have p3 : 0 ≤ i + 1 := by omega
  clear he h2
  go_enter Try.func7, Try.ntmps7
  go_wp2_with fail
  refine (awake_true _).mono ?_
  rintro e w1 ⟨rfl, hb⟩
  have hx1 := pw_cell_below hb hx
  have hy1 := pw_cell_below hb hy
  go_wp2_with fail
  go_quiet (fail)
  go_wp2_with fail
  go_ret
  exact ⟨rfl, by repeat (first | exact hb | apply pw_below_drewN | apply below_drew1)⟩

set_option maxHeartbeats 1600000 in
set_option maxRecDepth 100000 in
theorem swaps_apart (A0 : Option Addr) (c0 : Nat) (l : List Int) (i : Int) (w : World) (hr0 : Kd.C (Kd.int .u8) w A0 l.length l) (hc0 : l.length ≤ c0) (hbl : ∀ x ∈ l, 0 ≤ x ∧ x < 256) (h0 : l.length ≤ 400) (h1 : 0 ≤ i) (h2 : i ≤ (l.length : Int) - 2) (he : rd l i ≠ rd l (i + 1)) :
    Calls Try.prog 7 #[.slice A0 l.length c0, .int .i64 i] w fun e w' => e = .returned (.bool true) ∧ Below w.heap.size w w' := by
  have b0 : decide (400 < (l.length : Int)) = false := by simp; omega
  have b0' : decide (400 < l.length) = false := decide_eq_false (by omega)
  have b1 : decide (i < 0) = false := decide_eq_false (by omega)
  have b2 : decide ((l.length : Int) - 2 < i) = false := decide_eq_false (by omega)
  have HR0 := Aside0.mk hr0
  have HC0 := Aside0.mk hc0
  have HBL := Aside0.mk hbl
  obtain ⟨ad, ea, hx⟩ := Kd.at_int hr0 i h1 (by omega)
  cases ea
  obtain ⟨ad', ea, hy⟩ := Kd.at_int hr0 (i + 1) (by omega) (by omega)
  cases ea
  have be : (rd l i == rd l (i + 1)) = false := beq_eq_false_iff_ne.2 he
  have hw1 : wrap64 (i + 1) = i + 1 := by unfold wrap64; omega
  have p1 : i < (l.length : Int) := by omega
  have p2 : i + 1 < (l.length : Int) := by omega
  have p3 : 0 ≤ i + 1 := by omega
  have HE := Aside0.mk he
  have HL := Aside0.mk h0
  have H2 := Aside0.mk h2
  clear he h2 hr0 hc0 hbl
  go_enter Try.func7, Try.ntmps7
  go_wp2_with fail
  refine (awake_true _).mono ?_
  rintro e w1 ⟨rfl, hb⟩
  have hx1 := pw_cell_below hb hx
  have hy1 := pw_cell_below hb hy
  go_wp2_with fail
  go_quiet (fail)
  have HB := Aside0.mk hb
  clear hb hx hy hx1 hy1
  generalize hW : w1.drewN _ = W1
  have HB1 : Aside0 (Below w.heap.size w W1) := ⟨by rw [← hW]; exact pw_below_drewN HB.out _⟩
  have HR1 : Aside0 (Kd.C (Kd.int .u8) W1 (some ad) l.length l) := ⟨Kd.C_below HR0.out HB1.out⟩
  clear hW HB
  go_wp2_with (first | ((with_reducible refine gate_dst (N := 34) rfl ?_); refine Kd.R_lit (Kd.int .u8) _ 5 ?hg (N := 34) ?hd (xs := ([] : List Int)) (inner := []) (ok := fun _ => True) (okp := fun _ => True) ?hr ?hp (fun _ hk => hk) trivial (Below.refl _ _) (Nat.le_refl _) (by simp) ?_; (case hd => rfl); (case hg => rfl); (case hr => first | (go_simp; done) | (go_simp; rfl)); (case hp => exact (Reps.none _ _)); intro v34 w2 ho2 hb2 hg_ hnew_; clear hg_ hnew_; have HO2 := Aside0.mk ho2; have HB2 := Aside0.mk (hb2); clear ho2 hb2) | ((with_reducible refine gate_builtin (b := .append) (xs := #[.tmp 34, .tmp 35]) rfl ?_); at_builtin; refine Kd.R_append_rows (Kd.int .u8) (w0 := W1) W1.heap.size rfl (.tmp 34) (.tmp 35) 22 5 (.int .u8 0) 1 rfl Try.underlying22 info5 rfl (by decide) (by omega) v34 ([] : List Int) l _ _ _ (fun _ => True) (fun _ => False) rfl rfl HO2.out ?aR (fun _ _ h => h) (fun _ h => h.elim) (fun _ _ => trivial) HB2.out (by have := HB2.out.size; omega) ?aL ?_; (case aR => exact Kd.C_below HR1.out HB2.out); (case aL => have := HL.out; simp; omega); intro v36 w3 ho3 hb3 hx1 hx2; clear hx1 hx2; rw [List.nil_append] at ho3; have HO3 := Aside0.mk ho3; have HB3 := Aside0.mk hb3; clear ho3 hb3; obtain ⟨g, cap, eg, hg1, hg2, _, _⟩ := Kd.R_form HO3.out (by have := H2.out; omega); subst eg; have cx := Kd.R_cell (0 : Int) HO3.out i h1 p1; have cy := Kd.R_cell (0 : Int) HO3.out (i + 1) p3 p2))
  obtain ⟨cx1, cx2⟩ := cx
  obtain ⟨cy1, cy2⟩ := cy
  have ne1 : ¬ i.toNat = (i + 1).toNat := by omega
  have ne2 : ¬ (i + 1).toNat = i.toNat := by omega
  replace cx1 : w3.cell? { block := g, off := i.toNat } = some (Value.int IntKind.u8 (rd l i)) := cx1
  replace cy1 : w3.cell? { block := g, off := (i + 1).toNat } = some (Value.int IntKind.u8 (rd l (i + 1))) := cy1
  clear be b0 b0' b1 b2
  go_region
  have ha1 := (Kd.R_put HO3.out i (rd l (i + 1))).1
  have ha2 := Kd.R_putn ha1 (i + 1) (rd l i)
  have BA : Below w.heap.size w w3 := HB1.out.trans (HB3.out.mono HB1.out.size)
  have hgw : w.heap.size ≤ g := Nat.le_trans HB1.out.size hg1
  have BB : Aside0 (Below w.heap.size w ((w3.setCell { block := g, off := i.toNat } (Value.int IntKind.u8 (rd l (i + 1)))).setCell { block := g, off := (i + 1).toNat } (Value.int IntKind.u8 (rd l i)))) := ⟨(BA.setCell hgw _).setCell hgw _⟩
  have hdiff := Aside0.mk (swap_set l i HBL.out h1 H2.out HE.out)
  have hbytes : Aside0 (∀ x ∈ (l.set i.toNat (rd l (i + 1))).set (i + 1).toNat (rd l i), 0 ≤ x ∧ x < 256) := ⟨fun x hx => by
    rcases List.mem_or_eq_of_mem_set hx with hx | rfl
    · rcases List.mem_or_eq_of_mem_set hx with hx | rfl
      · exact HBL.out x hx
      · exact rd_byte HBL.out _ p3 p2
    · exact rd_byte HBL.out _ h1 p1⟩
  have hlen : ((l.set i.toNat (rd l (i + 1))).set (i + 1).toNat (rd l i)).length = l.length := by simp
  have HRA := Aside0.mk (Kd.R_reads' ha2)
  go_wp2_with fail
  generalize (l.set i.toNat (rd l (i + 1))).set (i + 1).toNat (rd l i) = m at *
  generalize (w3.setCell { block := g, off := i.toNat } (Value.int IntKind.u8 (rd l (i + 1)))).setCell { block := g, off := (i + 1).toNat } (Value.int IntKind.u8 (rd l i)) = W4 at *
  have HLEN := Aside0.mk hlen
  clear hlen ha1 ha2 cx1 cy1 cx2 cy2
  refine calls_of_args (args' := #[.slice (some ⟨g, 0, none⟩) m.length cap]) (by rw [HLEN.out]) ?_
  refine (of_any _ cap m _ (Kd.C_drew HRA.out.2.2) (by rw [HLEN.out]; exact HRA.out.2.1) (by rw [HLEN.out]; have := HL.out; omega) hbytes.out).mono ?_
  rintro e w5 ⟨rfl, n1, rfl⟩
  go_wp2_with fail
  refine (of_any _ c0 l _ (Kd.C_drewN (Kd.C_below HR0.out BB.out) _) HC0.out (by have := HL.out; omega) HBL.out).mono ?_
  rintro e w5 ⟨rfl, n2, rfl⟩
  have hne : (((add 0 m : Nat) : Int) != ((add 0 l : Nat) : Int)) = true := by
    rw [bne_iff_ne]
    have := hdiff.out
    omega
  go_wp2_with fail
  go_ret
  exact ⟨rfl, by repeat (first | exact BB.out | apply pw_below_drewN | apply below_drew1)⟩

theorem swaps_true (a0 : Option Addr) (len0 cap0 : Nat) (z0 : List Int) (i : Int) (w : World) (w0 : RowIn w a0 len0 cap0 z0) (y0 : len0 * 1 ≤ 140737488351232) (_ : (Lit.int .i64 i).wf = true) :
    Calls Try.prog 7 #[.slice a0 len0 cap0, .int .i64 i] w fun e w' => e = .returned (.bool true) ∧ Below w.heap.size w w' := by
  obtain ⟨l, rfl, hr0, hm0, hw0, hc0⟩ := ReadsInt.ofRowC w0
  by_cases h : SwapOut l i
  · exact swaps_out _ _ l i _ h (by omega)
  · unfold SwapOut at h
    have hr := Kd.C_of_reads (d := (0 : Int)) (h1 := fun _ => rfl) hr0
    by_cases he : rd l i = rd l (i + 1)
    · exact swaps_same _ _ l i _ hr (by omega) (by omega) (by omega) he
    · exact swaps_apart _ _ l i _ hr hc0 (wf_bytes hw0) (by omega) (by omega) (by omega) he
end Go.Proofs.Ytdjhjbjcfebaeaa.Hand
