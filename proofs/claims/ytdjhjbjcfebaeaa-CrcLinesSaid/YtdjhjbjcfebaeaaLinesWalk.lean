/- CrcLines of package hourglasslaw2: its walk, for any three slices of bytes. -/
import Derived.Test.YtdjhjbjcfebaeaaSaysWalk
import Derived.Test.YtdjhjbjcfebaeaaPlain2
import Derived.RegionTactic
import Derived.ChangeAlike
import Derived.BigRegion
namespace Go.Proofs.Ytdjhjbjcfebaeaa.Hand
open Go.RowKit Go.Proofs.YtdjhjbjcfebaeaaW.PrintWords Go.Proofs.YtdjhjbjcfebaeaaW.PrintLast Go.Proofs.YtdjhjbjcfebaeaaW.PrintMore Go.Proofs.Ytdjhjbjcfebaeaa.Plain

/-- The text's test: none of it to show. -/
def LinesOut (l0 l1 l2 : List Int) : Prop := 300 < l0.length ∨ l1.length ≠ l0.length ∨ l2.length ≠ l0.length

set_option maxHeartbeats 1600000 in
set_option maxRecDepth 100000 in
theorem lines_out (A0 A1 A2 : Option Addr) (c0 c1 c2 : Nat) (l0 l1 l2 : List Int) (w : World) (h : LinesOut l0 l1 l2) :
    Calls Try.prog 6 #[.slice A0 l0.length c0, .slice A1 l1.length c1, .slice A2 l2.length c2] w fun e w' => e = .returned (.bool true) ∧ Below w.heap.size w w' := by
  by_cases h0 : 300 < l0.length
  · have b0 : decide (300 < (l0.length : Int)) = true := by simp; omega
    have b0' : decide (300 < l0.length) = true := decide_eq_true h0
    clear h h0
    go_enter Try.func6, Try.ntmps6
    go_wp2_with fail
    refine (awake_true _).mono ?_
    rintro e w1 ⟨rfl, hb⟩
    go_wp2_with fail
    go_ret
    exact ⟨rfl, hb⟩
  · have b0 : decide (300 < (l0.length : Int)) = false := by simp; omega
    have b0' : decide (300 < l0.length) = false := decide_eq_false h0
    by_cases h1 : l1.length = l0.length
    · have h2 : l2.length ≠ l0.length := by unfold LinesOut at h; omega
      have d1 : (l1.length != l0.length) = false := by simp [h1]
      have d2 : (l2.length != l0.length) = true := by simp [h2]
      have d1' : ((l1.length : Int) != (l0.length : Int)) = false := by simp [h1]
      have d2' : ((l2.length : Int) != (l0.length : Int)) = true := by simp; omega
      clear h h0 h1 h2
      go_enter Try.func6, Try.ntmps6
      go_wp2_with fail
      refine (awake_true _).mono ?_
      rintro e w1 ⟨rfl, hb⟩
      go_wp2_with fail
      go_ret
      exact ⟨rfl, hb⟩
    · have d1 : (l1.length != l0.length) = true := by simp [h1]
      have d1' : ((l1.length : Int) != (l0.length : Int)) = true := by simp; omega
      clear h h0 h1
      go_enter Try.func6, Try.ntmps6
      go_wp2_with fail
      refine (awake_true _).mono ?_
      rintro e w1 ⟨rfl, hb⟩
      go_wp2_with fail
      go_ret
      exact ⟨rfl, hb⟩

/-- The text's third list behind n rounds. -/
def lin (a b c : List Int) : Nat → List Int
  | 0 => List.replicate a.length 0
  | n + 1 => (lin a b c n).set n (Go.bits .xor .u8 (Go.bits .xor .u8 (rd a n) (rd b n)) (rd c n))
theorem lin_length (a b c : List Int) : ∀ n, (lin a b c n).length = a.length
  | 0 => by simp [lin]
  | n + 1 => by simp only [lin, List.length_set]; exact lin_length a b c n

set_option maxHeartbeats 1600000 in
set_option maxRecDepth 100000 in
theorem lines_in (A0 A1 A2 : Option Addr) (c0 c1 c2 : Nat) (l0 l1 l2 : List Int) (w : World)
    (hr0 : Kd.C (Kd.int .u8) w A0 l0.length l0) (hc0 : l0.length ≤ c0) (hb0 : ∀ x ∈ l0, 0 ≤ x ∧ x < 256)
    (hr1 : Kd.C (Kd.int .u8) w A1 l1.length l1) (hc1 : l1.length ≤ c1) (hb1 : ∀ x ∈ l1, 0 ≤ x ∧ x < 256)
    (hr2 : Kd.C (Kd.int .u8) w A2 l2.length l2) (hc2 : l2.length ≤ c2) (hb2 : ∀ x ∈ l2, 0 ≤ x ∧ x < 256)
    (h0 : l0.length ≤ 300) (h1 : l1.length = l0.length) (h2 : l2.length = l0.length)
    (hd : ((add 0 (lin l0 l1 l2 l0.length) : Nat) : Int) = Go.bits .xor .u32 (Go.bits .xor .u32 (add 0 l0 : Nat) (add 0 l1 : Nat)) (add 0 l2 : Nat)) (hcb : ∀ x ∈ lin l0 l1 l2 l0.length, 0 ≤ x ∧ x < 256) :
    Calls Try.prog 6 #[.slice A0 l0.length c0, .slice A1 l1.length c1, .slice A2 l2.length c2] w fun e w' => e = .returned (.bool true) ∧ Below w.heap.size w w' := by
  have b0 : decide (300 < (l0.length : Int)) = false := by simp; omega
  have b0' : decide (300 < l0.length) = false := decide_eq_false (by omega)
  have d1 : (l1.length != l0.length) = false := by simp [h1]
  have d1' : ((l1.length : Int) != (l0.length : Int)) = false := by simp [h1]
  have d2 : (l2.length != l0.length) = false := by simp [h2]
  have d2' : ((l2.length : Int) != (l0.length : Int)) = false := by simp [h2]
  have HR0 := Aside0.mk hr0
  have HR1 := Aside0.mk hr1
  have HR2 := Aside0.mk hr2
  have HC0 := Aside0.mk hc0
  have HC1 := Aside0.mk hc1
  have HC2 := Aside0.mk hc2
  have HB0 := Aside0.mk hb0
  have HB1 := Aside0.mk hb1
  have HBY2 := Aside0.mk hb2
  have H0 := Aside0.mk h0
  have H1 := Aside0.mk h1
  have H2 := Aside0.mk h2
  have HD := Aside0.mk hd
  have HCB := Aside0.mk hcb
  clear hr0 hr1 hr2 hc0 hc1 hc2 hb0 hb1 hb2 h0 h1 h2 hd hcb
  go_enter Try.func6, Try.ntmps6
  go_wp2_with fail
  refine (awake_true _).mono ?_
  rintro e w1 ⟨rfl, hb⟩
  have HB := Aside0.mk hb
  clear hb
  go_wp2_with (((with_reducible refine gate_dst (N := 30) rfl ?_); refine Kd.R_make (Kd.int .u8) (w0 := w1) w1.heap.size 5 rfl rfl 22 (.tmp 29) (.tmp 29) rfl (l0.length : Int) rfl rfl Try.underlying22 (.int .u8 0) 1 info5 rfl (by decide) (by omega) (0 : Int) (ok := fun _ => True) (okp := fun _ => True) rfl (fun _ hk => hk) trivial (by omega) ?hl (Below.refl _ _) (Nat.le_refl _) ?_; (case hl => have := H0.out; omega); intro v30 w2 ho2 hb2 hg_ hnew_; clear hg_ hnew_; rw [Int.toNat_natCast] at ho2; have HO2 := Aside0.mk ho2; have HB2 := Aside0.mk (hb2); clear ho2 hb2; obtain ⟨Ao, co, eo⟩ := Kd.R_slice HO2.out; rw [List.length_replicate] at eo; subst eo))
  have HBW : Aside0 (Below w.heap.size w w2) := ⟨HB.out.trans (HB2.out.mono HB.out.size)⟩
  go_loopw [8] (fun v8 wr => ∃ x : Int, 0 ≤ x ∧ x ≤ (l0.length : Int) ∧ v8 = .int .i64 x ∧ Aside0 ((Kd.int .u8).R 5 wr w1.heap.size (fun _ => True) (.slice Ao l0.length co) (lin l0 l1 l2 x.toNat)) ∧ Aside0 (Below w.heap.size w wr)) (fun v8 _ => l0.length - (intOf v8).toNat)
  case atStart => exact ⟨0, by omega, by omega, rfl, HO2, HBW⟩
  case round =>
    obtain ⟨x, hx0, hx4, rfl, HO, HW⟩ := hrel
    by_cases hlt : x < (l0.length : Int)
    · have hlen := lin_length l0 l1 l2 x.toNat
      obtain ⟨g, cap, eg, hg1, hg2, _, _⟩ := Kd.R_form HO.out (by omega)
      simp only [Value.slice.injEq] at eg
      obtain ⟨rfl, _, rfl⟩ := eg
      have cx := Kd.R_celln (0 : Int) HO.out x hx0 hlt
      obtain ⟨cx1, cx2⟩ := cx
      replace cx1 : wr.cell? { block := g, off := x.toNat } = some (Value.int IntKind.u8 (rd (lin l0 l1 l2 x.toNat) x)) := cx1
      obtain ⟨ad0, ea, hx0c⟩ := Kd.at_int (Kd.C_below HR0.out HW.out) x hx0 hlt
      cases ea
      obtain ⟨ad1, ea, hx1c⟩ := Kd.at_int (Kd.C_below HR1.out HW.out) x hx0 (by have := H1.out; omega)
      cases ea
      obtain ⟨ad2, ea, hx2c⟩ := Kd.at_int (Kd.C_below HR2.out HW.out) x hx0 (by have := H2.out; omega)
      cases ea
      have q1 : x < (l1.length : Int) := by have := H1.out; omega
      have q2 : x < (l2.length : Int) := by have := H2.out; omega
      have hput := Aside0.mk (Kd.R_putn HO.out x (Go.bits .xor .u8 (Go.bits .xor .u8 (rd l0 x) (rd l1 x)) (rd l2 x)))
      have hgw : Aside0 (w.heap.size ≤ g) := ⟨Nat.le_trans HB.out.size hg1⟩
      generalize hm : lin l0 l1 l2 x.toNat = m at *
      have HM := Aside0.mk hm
      clear hm hlen hg1 hg2 hx4
      have HLT := Aside0.mk hlt
      go_wp2
      go_region
      go_wp2
      go_roundw
      case rel =>
        have e1 : (x + 1).toNat = x.toNat + 1 := by omega
        have e2 : ((x.toNat : Nat) : Int) = x := by omega
        refine ⟨x + 1, by omega, by have := HLT.out; omega, ?_, ⟨Kd.R_drew ?_⟩, ⟨below_drew1 (HW.out.setCell hgw.out _)⟩⟩
        · first | rfl | (have h3 := HLT.out; have h4 := H0.out; rw [show wrap64 (x + 1) = x + 1 from by unfold wrap64; omega])
        · have := hput.out
          rw [e1]
          simp only [lin, e2, HM.out]
          exact this
      case measure =>
        have h3 := HLT.out
        have h4 := H0.out
        have e : wrap64 (x + 1) = x + 1 := by unfold wrap64; omega
        first | (simp [intOf]; omega) | (simp [intOf, e]; omega)
    · have hx : x = (l0.length : Int) := by omega
      subst hx
      have HRA := Aside0.mk (Kd.R_reads' HO.out)
      rw [Int.toNat_natCast] at HRA
      have hlen := Aside0.mk (lin_length l0 l1 l2 l0.length)
      go_wp2_with fail
      have HRA2 : Aside0 ((Kd.int .u8).C wr Ao (lin l0 l1 l2 l0.length).length (lin l0 l1 l2 l0.length)) := ⟨HRA.out.2.2⟩
      have HRA1 : Aside0 (l0.length ≤ co) := ⟨HRA.out.2.1⟩
      clear HRA HO
      generalize lin l0 l1 l2 l0.length = m at *
      refine calls_of_args (args' := #[.slice Ao m.length co]) (by rw [hlen.out]) ?_
      refine (of_any _ co m _ HRA2.out (by rw [hlen.out]; exact HRA1.out) (by rw [hlen.out]; have := H0.out; omega) HCB.out).mono ?_
      rintro e w5 ⟨rfl, n1, rfl⟩
      go_wp2_with fail
      refine (of_any A0 c0 l0 _ (Kd.C_drewN (Kd.C_below HR0.out HW.out) _) HC0.out (by have := H0.out; omega) HB0.out).mono ?_
      rintro e w5 ⟨rfl, n2, rfl⟩
      go_wp2_with fail
      refine (of_any A1 c1 l1 _ (Kd.C_drewN (Kd.C_below HR1.out HW.out) _) HC1.out (by have := H0.out; have := H1.out; omega) HB1.out).mono ?_
      rintro e w5 ⟨rfl, n3, rfl⟩
      go_wp2_with fail
      refine (of_any A2 c2 l2 _ (Kd.C_drewN (Kd.C_below HR2.out HW.out) _) HC2.out (by have := H0.out; have := H2.out; omega) HBY2.out).mono ?_
      rintro e w5 ⟨rfl, n4, rfl⟩
      have hne : (((add 0 m : Nat) : Int) == Go.bits .xor .u32 (Go.bits .xor .u32 (add 0 l0 : Nat) (add 0 l1 : Nat)) (add 0 l2 : Nat)) = true := by
        rw [beq_iff_eq]
        exact HD.out
      go_wp2_with fail
      go_ret
      exact ⟨rfl, by repeat (first | exact HW.out | apply pw_below_drewN | apply below_drew1)⟩

/-! ### plain: lines -/
theorem fold_lines : ∀ (a b c : List Nat) (s0 s1 s2 : Nat), b.length = a.length → c.length = a.length →
    fold (s0 ^^^ s1 ^^^ s2) ((a.zip (b.zip c)).map fun p => ((p.1 ^^^ p.2.1 ^^^ p.2.2 : Nat) : Int)) = fold s0 (a.map fun n : Nat => (n : Int)) ^^^ fold s1 (b.map fun n : Nat => (n : Int)) ^^^ fold s2 (c.map fun n : Nat => (n : Int))
  | [], [], [], _, _, _, _, _ => rfl
  | x :: a, y :: b, z :: c, s0, s1, s2, h1, h2 => by
    simp only [List.zip_cons_cons, List.map_cons]
    have e : upd (s0 ^^^ s1 ^^^ s2) ((x ^^^ y ^^^ z : Nat) : Int) = upd s0 (x : Int) ^^^ upd s1 (y : Int) ^^^ upd s2 (z : Int) := by
      unfold upd
      simp only [Int.toNat_natCast]
      rw [← rep_xor, ← rep_xor]
      congr 1
      ac_rfl
    show fold (upd (s0 ^^^ s1 ^^^ s2) ((x ^^^ y ^^^ z : Nat) : Int)) _ = fold (upd s0 (x : Int)) _ ^^^ fold (upd s1 (y : Int)) _ ^^^ fold (upd s2 (z : Int)) _
    rw [e]
    exact fold_lines a b c _ _ _ (by simpa using h1) (by simpa using h2)
  | [], _ :: _, _, _, _, _, h, _ => by simp at h
  | [], [], _ :: _, _, _, _, _, h => by simp at h
  | _ :: _, [], _, _, _, _, h, _ => by simp at h
  | _ :: _, _ :: _, [], _, _, _, _, h => by simp at h

theorem lin_get (a b c : List Int) : ∀ (n j : Nat), n ≤ a.length → j < n → (lin a b c n)[j]? = some (Go.bits .xor .u8 (Go.bits .xor .u8 (rd a j) (rd b j)) (rd c j))
  | 0, j, _, h => by omega
  | n + 1, j, hn, h => by
    simp only [lin]
    by_cases e : j = n
    · subst e
      rw [List.getElem?_set_self (by rw [lin_length]; omega)]
    · rw [List.getElem?_set_ne (by omega)]
      exact lin_get a b c n j (by omega) (by omega)

theorem nats_of {l : List Int} (h : ∀ x ∈ l, 0 ≤ x ∧ x < 256) : ∃ m : List Nat, l = m.map (fun n : Nat => (n : Int)) ∧ ∀ n ∈ m, n < 256 := by
  refine ⟨l.map Int.toNat, ?_, ?_⟩
  · rw [List.map_map]
    conv => lhs; rw [← List.map_id l]
    apply List.map_congr_left
    intro x hx
    have := h x hx
    simp; omega
  · intro n hn
    obtain ⟨x, hx, rfl⟩ := List.mem_map.1 hn
    have := h x hx
    omega

theorem lin_is (a b c : List Nat) (ha : ∀ n ∈ a, n < 256) (hb : ∀ n ∈ b, n < 256) (hc : ∀ n ∈ c, n < 256) (h1 : b.length = a.length) (h2 : c.length = a.length) :
    lin (a.map fun n : Nat => (n : Int)) (b.map fun n : Nat => (n : Int)) (c.map fun n : Nat => (n : Int)) (a.map fun n : Nat => (n : Int)).length = (a.zip (b.zip c)).map fun p => ((p.1 ^^^ p.2.1 ^^^ p.2.2 : Nat) : Int) := by
  apply List.ext_getElem?
  intro j
  by_cases hj : j < a.length
  · rw [lin_get _ _ _ _ j (Nat.le_refl _) (by simpa using hj)]
    rw [rd_at _ j (by simpa using hj), rd_at _ j (by simp; omega), rd_at _ j (by simp; omega)]
    rw [List.getElem?_eq_getElem (by simp; omega)]
    simp only [List.getElem_map, List.getElem_zip]
    have xa := ha _ (List.getElem_mem hj)
    have xb := hb _ (List.getElem_mem (show j < b.length by omega))
    have xc := hc _ (List.getElem_mem (show j < c.length by omega))
    rw [u8_xor_nat _ _ xa xb, u8_xor_nat _ _ (Nat.xor_lt_two_pow (n := 8) xa xb) xc]
  · rw [List.getElem?_eq_none (by rw [lin_length]; simp; omega), List.getElem?_eq_none (by simp; omega)]

theorem lines_plain (l0 l1 l2 : List Int) (hb0 : ∀ x ∈ l0, 0 ≤ x ∧ x < 256) (hb1 : ∀ x ∈ l1, 0 ≤ x ∧ x < 256) (hb2 : ∀ x ∈ l2, 0 ≤ x ∧ x < 256) (h1 : l1.length = l0.length) (h2 : l2.length = l0.length) :
    ((add 0 (lin l0 l1 l2 l0.length) : Nat) : Int) = Go.bits .xor .u32 (Go.bits .xor .u32 (add 0 l0 : Nat) (add 0 l1 : Nat)) (add 0 l2 : Nat) ∧ ∀ x ∈ lin l0 l1 l2 l0.length, 0 ≤ x ∧ x < 256 := by
  have t0 := add_lt (s := 0) (l := l0) (by decide) (fun x hx => (hb0 x hx).2)
  have t1 := add_lt (s := 0) (l := l1) (by decide) (fun x hx => (hb1 x hx).2)
  have t2 := add_lt (s := 0) (l := l2) (by decide) (fun x hx => (hb2 x hx).2)
  rw [u32_xor_nat _ _ t0 t1, u32_xor_nat _ _ (xor_lt t0 t1) t2]
  obtain ⟨a, rfl, ha⟩ := nats_of hb0
  obtain ⟨b, rfl, hb⟩ := nats_of hb1
  obtain ⟨c, rfl, hc⟩ := nats_of hb2
  have g1 : b.length = a.length := by simpa using h1
  have g2 : c.length = a.length := by simpa using h2
  rw [lin_is a b c ha hb hc g1 g2]
  constructor
  · congr 1
    unfold add
    have e : ones ^^^ 0 = (ones ^^^ 0) ^^^ (ones ^^^ 0) ^^^ (ones ^^^ 0) := by rw [Nat.xor_self, Nat.zero_xor]
    conv => lhs; rw [e]
    rw [fold_lines a b c _ _ _ g1 g2]
    have e3 : ∀ p q r : Nat, ones ^^^ (p ^^^ q ^^^ r) = (ones ^^^ p) ^^^ (ones ^^^ q) ^^^ (ones ^^^ r) := by
      intro p q r
      have : (ones ^^^ p) ^^^ (ones ^^^ q) ^^^ (ones ^^^ r) = ones ^^^ (ones ^^^ (ones ^^^ (p ^^^ q ^^^ r))) := by ac_rfl
      rw [this, ones_ones]
    exact e3 _ _ _
  · intro x hx
    obtain ⟨p, hp, rfl⟩ := List.mem_map.1 hx
    obtain ⟨p0, p1, p2⟩ := p
    have m0 := (List.of_mem_zip hp).1
    have m1 := (List.of_mem_zip (List.of_mem_zip hp).2).1
    have m2 := (List.of_mem_zip (List.of_mem_zip hp).2).2
    have := Nat.xor_lt_two_pow (n := 8) (Nat.xor_lt_two_pow (n := 8) (ha _ m0) (hb _ m1)) (hc _ m2)
    simp only
    omega

theorem lines_true (a0 : Option Addr) (len0 cap0 : Nat) (z0 : List Int) (a1 : Option Addr) (len1 cap1 : Nat) (z1 : List Int) (a2 : Option Addr) (len2 cap2 : Nat) (z2 : List Int) (w : World) (w0 : RowIn w a0 len0 cap0 z0) (w1 : RowIn w a1 len1 cap1 z1) (w2 : RowIn w a2 len2 cap2 z2) :
    Calls Try.prog 6 #[.slice a0 len0 cap0, .slice a1 len1 cap1, .slice a2 len2 cap2] w fun e w' => e = .returned (.bool true) ∧ Below w.heap.size w w' := by
  obtain ⟨l0, rfl, hr0, hm0, hw0, hc0⟩ := ReadsInt.ofRowC w0
  obtain ⟨l1, rfl, hr1, hm1, hw1, hc1⟩ := ReadsInt.ofRowC w1
  obtain ⟨l2, rfl, hr2, hm2, hw2, hc2⟩ := ReadsInt.ofRowC w2
  by_cases h : LinesOut l0 l1 l2
  · exact lines_out _ _ _ _ _ _ _ _ _ _ h
  · unfold LinesOut at h
    obtain ⟨p1, p2⟩ := lines_plain l0 l1 l2 (wf_bytes hw0) (wf_bytes hw1) (wf_bytes hw2) (by omega) (by omega)
    exact lines_in _ _ _ _ _ _ _ _ _ _ (Kd.C_of_reads (d := (0 : Int)) (h1 := fun _ => rfl) hr0) hc0 (wf_bytes hw0) (Kd.C_of_reads (d := (0 : Int)) (h1 := fun _ => rfl) hr1) hc1 (wf_bytes hw1) (Kd.C_of_reads (d := (0 : Int)) (h1 := fun _ => rfl) hr2) hc2 (wf_bytes hw2) (by omega) (by omega) (by omega) p1 p2
end Go.Proofs.Ytdjhjbjcfebaeaa.Hand
