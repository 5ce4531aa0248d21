/- CrcBursts of package hourglasslaw2: its walk, for any slice of bytes, any int and any four bytes. -/
import Derived.Test.YtdjhjbjcfebaeaaSaysWalk
import Derived.Test.YtdjhjbjcfebaeaaPlain2
import Derived.Test.YtdjhjbjcfebaeaaFour
import Derived.Test.YtdjhjbjcfebaeaaOpenFour
import Derived.Test.YtdjhjbjcfebaeaaWGuard
import Derived.RegionTactic
import Derived.ChangeAlike
import Derived.BigRegion
namespace Go.Proofs.Ytdjhjbjcfebaeaa.Hand
open Go.RowKit Go.Proofs.YtdjhjbjcfebaeaaW.PrintWords Go.Proofs.YtdjhjbjcfebaeaaW.PrintLast Go.Proofs.YtdjhjbjcfebaeaaW.PrintMore Go.Proofs.Ytdjhjbjcfebaeaa.Plain

def four (y0 y1 y2 y3 : Int) : Value := .agg #[.int .u8 y0, .int .u8 y1, .int .u8 y2, .int .u8 y3]
/-- The text's test: none of it to show. -/
def BurstOut (l : List Int) (i : Int) : Prop := 600 < l.length ∨ i < 0 ∨ (l.length : Int) - 4 < i

set_option maxHeartbeats 1600000 in
set_option maxRecDepth 100000 in
theorem bursts_out (A0 : Option Addr) (c0 : Nat) (l : List Int) (i y0 y1 y2 y3 : Int) (w : World) (h : BurstOut l i) (hl : l.length ≤ 140737488355328) :
    Calls Try.prog 5 #[.slice A0 l.length c0, .int .i64 i, .agg #[.int .u8 y0, .int .u8 y1, .int .u8 y2, .int .u8 y3]] w fun e w' => e = .returned (.bool true) ∧ Below w.heap.size w w' := by
  by_cases h0 : 600 < l.length
  · have b0 : decide (600 < (l.length : Int)) = true := by simp; omega
    have b0' : decide (600 < l.length) = true := decide_eq_true h0
    clear h h0
    go_enter Try.func5, Try.ntmps5
    go_wp2_with fail
    refine (awake_true _).mono ?_
    rintro e w1 ⟨rfl, hb⟩
    go_wp2_with fail
    go_ret
    exact ⟨rfl, ((Below.refl _ _).alloc (Nat.le_refl _) _).trans (hb.mono (by simp))⟩
  · have b0 : decide (600 < (l.length : Int)) = false := by simp; omega
    have b0' : decide (600 < l.length) = false := decide_eq_false h0
    by_cases h1 : i < 0
    · have b1 : decide (i < 0) = true := decide_eq_true h1
      clear h h0 h1
      go_enter Try.func5, Try.ntmps5
      go_wp2_with fail
      refine (awake_true _).mono ?_
      rintro e w1 ⟨rfl, hb⟩
      go_wp2_with fail
      go_ret
      exact ⟨rfl, ((Below.refl _ _).alloc (Nat.le_refl _) _).trans (hb.mono (by simp))⟩
    · have b1 : decide (i < 0) = false := decide_eq_false h1
      have h2 : (l.length : Int) - 4 < i := by unfold BurstOut at h; omega
      have b2 : decide ((l.length : Int) - 4 < i) = true := decide_eq_true h2
      clear h h1
      go_enter Try.func5, Try.ntmps5
      go_wp2_with fail
      refine (awake_true _).mono ?_
      rintro e w1 ⟨rfl, hb⟩
      go_wp2_with fail
      go_ret
      exact ⟨rfl, ((Below.refl _ _).alloc (Nat.le_refl _) _).trans (hb.mono (by simp))⟩

set_option maxHeartbeats 1600000 in
set_option maxRecDepth 100000 in
theorem bursts_none (A0 : Option Addr) (c0 : Nat) (l : List Int) (i : Int) (w : World) (h0 : l.length ≤ 600) (h1 : 0 ≤ i) (h2 : i ≤ (l.length : Int) - 4) :
    Calls Try.prog 5 #[.slice A0 l.length c0, .int .i64 i, .agg #[.int .u8 0, .int .u8 0, .int .u8 0, .int .u8 0]] w fun e w' => e = .returned (.bool true) ∧ Below w.heap.size w w' := by
  have b0 : decide (600 < (l.length : Int)) = false := by simp; omega
  have b0' : decide (600 < l.length) = false := decide_eq_false (by omega)
  have b1 : decide (i < 0) = false := decide_eq_false (by omega)
  have b2 : decide ((l.length : Int) - 4 < i) = false := decide_eq_false (by omega)
  have hq := eq4 0 0 0 0
  go_enter Try.func5, Try.ntmps5
  go_wp2_with fail
  refine (awake_true _).mono ?_
  rintro e w1 ⟨rfl, hb⟩
  have hblk : w1.heap[w.heap.size]? = some (Obj.cells #[Value.int IntKind.u8 0, Value.int IntKind.u8 0, Value.int IntKind.u8 0, Value.int IntKind.u8 0] 30 (0, 0)) := (hb.block _ (by simp)).trans (heap_alloc_new _ _)
  go_wp2_with ((with_reducible refine gate_dst (N := 26) rfl ?_); (try (refine gate_guard (by rfl) ?_; dsimp only)); refine wpList_load_row rfl 30 _ rfl w.heap.size rfl 30 _ (0, 0) _ hblk Try.underlying30 rfl (by kernel_rfl) ?_)
  go_ret
  exact ⟨rfl, ((Below.refl _ _).alloc (Nat.le_refl _) _).trans (hb.mono (by simp))⟩

/-- The text behind n rounds: n bytes from i on are changed. -/
def chg (l : List Int) (i : Int) (ys : List Int) : Nat → List Int
  | 0 => l
  | n + 1 => (chg l i ys n).set (i + n).toNat (Go.bits .xor .u8 (rd (chg l i ys n) (i + n)) (rd ys n))
theorem chg_length (l : List Int) (i : Int) (ys : List Int) : ∀ n, (chg l i ys n).length = l.length
  | 0 => rfl
  | n + 1 => by simp only [chg, List.length_set]; exact chg_length l i ys n

set_option maxHeartbeats 1600000 in
set_option maxRecDepth 100000 in
theorem bursts_in (A0 : Option Addr) (c0 : Nat) (l : List Int) (i y0 y1 y2 y3 : Int) (w : World) (hr0 : Kd.C (Kd.int .u8) w A0 l.length l) (hc0 : l.length ≤ c0) (hbl : ∀ x ∈ l, 0 ≤ x ∧ x < 256) (h0 : l.length ≤ 600) (h1 : 0 ≤ i) (h2 : i ≤ (l.length : Int) - 4)
    (hy : (y0 == 0 && (y1 == 0 && (y2 == 0 && y3 == 0))) = false) (hd : add 0 (chg l i [y0, y1, y2, y3] 4) ≠ add 0 l) (hcb : ∀ x ∈ chg l i [y0, y1, y2, y3] 4, 0 ≤ x ∧ x < 256) :
    Calls Try.prog 5 #[.slice A0 l.length c0, .int .i64 i, .agg #[.int .u8 y0, .int .u8 y1, .int .u8 y2, .int .u8 y3]] w fun e w' => e = .returned (.bool true) ∧ Below w.heap.size w w' := by
  have b0 : decide (600 < (l.length : Int)) = false := by simp; omega
  have b0' : decide (600 < l.length) = false := decide_eq_false (by omega)
  have b1 : decide (i < 0) = false := decide_eq_false (by omega)
  have b2 : decide ((l.length : Int) - 4 < i) = false := decide_eq_false (by omega)
  have HR0 := Aside0.mk hr0
  have HC0 := Aside0.mk hc0
  have HBL := Aside0.mk hbl
  have HL := Aside0.mk h0
  have H2 := Aside0.mk h2
  have HD := Aside0.mk hd
  have HCB := Aside0.mk hcb
  have hq := eq4 y0 y1 y2 y3
  rw [hy] at hq
  clear hr0 hc0 hbl h2 hd hcb hy
  go_enter Try.func5, Try.ntmps5
  go_wp2_with fail
  refine (awake_true _).mono ?_
  rintro e w1 ⟨rfl, hb⟩
  have hblk : w1.heap[w.heap.size]? = some (Obj.cells #[Value.int IntKind.u8 y0, Value.int IntKind.u8 y1, Value.int IntKind.u8 y2, Value.int IntKind.u8 y3] 30 (0, 0)) := (hb.block _ (by simp)).trans (heap_alloc_new _ _)
  have HB : Aside0 (Below w.heap.size w w1) := ⟨((Below.refl _ _).alloc (Nat.le_refl _) _).trans (hb.mono (by simp))⟩
  have hsz : w.heap.size < w1.heap.size := by have := hb.size; simp at this; omega
  have HR1 : Aside0 (Kd.C (Kd.int .u8) w1 A0 l.length l) := ⟨Kd.C_below HR0.out HB.out⟩
  clear hb
  go_wp2_with (first | ((with_reducible refine gate_dst (N := 26) rfl ?_); (try (refine gate_guard (by rfl) ?_; dsimp only)); refine wpList_load_row rfl 30 _ rfl w.heap.size rfl 30 _ (0, 0) _ hblk Try.underlying30 rfl (by kernel_rfl) ?_) | ((with_reducible refine gate_dst (N := 30) rfl ?_); refine Kd.R_lit (Kd.int .u8) _ 5 ?hg (N := 30) ?hd (xs := ([] : List Int)) (inner := []) (ok := fun _ => True) (okp := fun _ => True) ?hr ?hp (fun _ hk => hk) trivial (Below.refl _ _) (Nat.le_refl _) (by simp) ?_; (case hd => rfl); (case hg => rfl); (case hr => first | (go_simp; done) | (go_simp; rfl)); (case hp => exact (Reps.none _ _)); intro v30 w2 ho2 hb2 hg_ hnew_; clear hg_ hnew_; have HO2 := Aside0.mk ho2; have HB2 := Aside0.mk (hb2); clear ho2 hb2) | ((with_reducible refine gate_builtin (b := .append) (xs := #[.tmp 30, .tmp 31]) rfl ?_); at_builtin; refine Kd.R_append_rows (Kd.int .u8) (w0 := w1) w1.heap.size rfl (.tmp 30) (.tmp 31) 22 5 (.int .u8 0) 1 rfl Try.underlying22 info5 rfl (by decide) (by omega) v30 ([] : List Int) l _ _ _ (fun _ => True) (fun _ => False) rfl rfl HO2.out ?aR (fun _ _ h => h) (fun _ h => h.elim) (fun _ _ => trivial) HB2.out (by have := HB2.out.size; omega) ?aL ?_; (case aR => exact Kd.C_below HR1.out HB2.out); (case aL => have := HL.out; simp; omega); intro v32 w3 ho3 hb3 hx1 hx2; clear hx1 hx2; rw [List.nil_append] at ho3; have HO3 := Aside0.mk ho3; have HB3 := Aside0.mk hb3; clear ho3 hb3; obtain ⟨g, cap, eg, hg1, hg2, _, _⟩ := Kd.R_form HO3.out (by have := H2.out; omega); subst eg))
  have hblk3 : Aside0 (w3.heap[w.heap.size]? = some (Obj.cells #[Value.int IntKind.u8 y0, Value.int IntKind.u8 y1, Value.int IntKind.u8 y2, Value.int IntKind.u8 y3] 30 (0, 0))) := ⟨(HB3.out.block _ hsz).trans hblk⟩
  have HBW : Aside0 (Below w.heap.size w w3) := ⟨HB.out.trans (HB3.out.mono HB.out.size)⟩
  clear hblk
  go_loopw [8] (fun v8 wr => ∃ x : Int, 0 ≤ x ∧ x ≤ 4 ∧ v8 = .int .i64 x ∧ Aside0 ((Kd.int .u8).R 5 wr w1.heap.size (fun _ => True) (.slice (some ⟨g, 0, none⟩) l.length cap) (chg l i [y0, y1, y2, y3] x.toNat)) ∧ Aside0 (Below w.heap.size w wr) ∧ Aside0 (wr.heap[w.heap.size]? = some (Obj.cells #[Value.int IntKind.u8 y0, Value.int IntKind.u8 y1, Value.int IntKind.u8 y2, Value.int IntKind.u8 y3] 30 (0, 0)))) (fun v8 _ => 4 - (intOf v8).toNat)
  case atStart => exact ⟨0, by omega, by omega, rfl, HO3, HBW, hblk3⟩
  case round =>
    obtain ⟨x, hx0, hx4, rfl, HO, HW, HK⟩ := hrel
    by_cases hlt : x < 4
    · have hlen := chg_length l i [y0, y1, y2, y3] x.toNat
      have cx := Kd.R_celln (0 : Int) HO.out (i + x) (by omega) (by have := H2.out; omega)
      obtain ⟨cx1, cx2⟩ := cx
      replace cx1 : wr.cell? { block := g, off := (i + x).toNat } = some (Value.int IntKind.u8 (rd (chg l i [y0, y1, y2, y3] x.toNat) (i + x))) := cx1
      have cz : wr.cell? { block := w.heap.size, off := x.toNat } = some (Value.int IntKind.u8 (rd [y0, y1, y2, y3] x)) := by
        rw [cell_of_row wr w.heap.size x.toNat _ 30 (0, 0) HK.out]
        have hc : x = 0 ∨ x = 1 ∨ x = 2 ∨ x = 3 := by omega
        rcases hc with rfl | rfl | rfl | rfl <;> rfl
      have hput := Aside0.mk (Kd.R_putn HO.out (i + x) (Go.bits .xor .u8 (rd (chg l i [y0, y1, y2, y3] x.toNat) (i + x)) (rd [y0, y1, y2, y3] x)))
      have hgw : Aside0 (w.heap.size < g) := ⟨Nat.lt_of_lt_of_le hsz hg1⟩
      have p1 : i + x < (l.length : Int) := by have := H2.out; omega
      have p2 : 0 ≤ i + x := by omega
      have hx4' := Aside0.mk hx4
      generalize hm : chg l i [y0, y1, y2, y3] x.toNat = m at *
      have HM := Aside0.mk hm
      have HLEN := Aside0.mk hlen
      clear hm hlen hq hx4 hsz hg1 hg2
      go_wp2
      go_region
      go_wp2
      go_roundw
      case rel =>
        have e1 : (x + 1).toNat = x.toNat + 1 := by omega
        have e2 : ((x.toNat : Nat) : Int) = x := by omega
        refine ⟨x + 1, by omega, by have := hx4'.out; omega, rfl, ⟨Kd.R_drew ?_⟩, ⟨below_drew1 (HW.out.setCell (Nat.le_of_lt hgw.out) _)⟩, ⟨?_⟩⟩
        · have := hput.out
          rw [e1]
          simp only [chg, e2, HM.out]
          exact this
        · exact (Below.heap_setCell wr _ _ _ (by have := hgw.out; show w.heap.size ≠ g; omega)).trans HK.out
      case measure => simp [intOf]; omega
    · have hx : x = 4 := by omega
      subst hx
      have HRA := Aside0.mk (Kd.R_reads' HO.out)
      have hlen := Aside0.mk (chg_length l i [y0, y1, y2, y3] 4)
      go_wp2_with fail
      have HRA2 : Aside0 ((Kd.int .u8).C wr (some ⟨g, 0, none⟩) (chg l i [y0, y1, y2, y3] 4).length (chg l i [y0, y1, y2, y3] 4)) := ⟨HRA.out.2.2⟩
      have HRA1 : Aside0 (l.length ≤ cap) := ⟨HRA.out.2.1⟩
      clear HRA HO
      generalize chg l i [y0, y1, y2, y3] 4 = m at *
      refine calls_of_args (args' := #[.slice (some ⟨g, 0, none⟩) m.length cap]) (by rw [hlen.out]) ?_
      refine (of_any _ cap m _ HRA2.out (by rw [hlen.out]; exact HRA1.out) (by rw [hlen.out]; have := HL.out; omega) HCB.out).mono ?_
      rintro e w5 ⟨rfl, n1, rfl⟩
      go_wp2_with fail
      refine (of_any A0 c0 l _ (Kd.C_drewN (Kd.C_below HR0.out HW.out) _) HC0.out (by have := HL.out; omega) HBL.out).mono ?_
      rintro e w5 ⟨rfl, n2, rfl⟩
      have hne : (((add 0 m : Nat) : Int) != ((add 0 l : Nat) : Int)) = true := by
        rw [bne_iff_ne]
        have := HD.out
        omega
      go_wp2_with fail
      go_ret
      exact ⟨rfl, by repeat (first | exact HW.out | apply pw_below_drewN | apply below_drew1)⟩

/-! ### what four bytes' change does, in plain words -/
def chg' (ys : List Int) : Nat → List Int → List Int
  | 0, s => s
  | n + 1, s => (chg' ys n s).set n (Go.bits .xor .u8 (rd (chg' ys n s) n) (rd ys n))
theorem chg_app (pre s ys : List Int) : ∀ n, chg (pre ++ s) (pre.length : Int) ys n = pre ++ chg' ys n s
  | 0 => rfl
  | n + 1 => by
    simp only [chg, chg']
    rw [chg_app pre s ys n]
    have e : ((pre.length : Int) + (n : Int)).toNat = pre.length + n := by omega
    have er : rd (pre ++ chg' ys n s) ((pre.length : Int) + (n : Int)) = rd (chg' ys n s) n := by
      unfold rd
      rw [e, Int.toNat_natCast, List.getD_eq_getElem?_getD, List.getD_eq_getElem?_getD, List.getElem?_append_right (by omega), show pre.length + n - pre.length = n from by omega]
    rw [e, er, List.set_append_right _ _ (by omega)]
    congr 2; omega

theorem chg_four (b0 b1 b2 b3 y0 y1 y2 y3 : Nat) (post : List Int) (hb : b0 < 256 ∧ b1 < 256 ∧ b2 < 256 ∧ b3 < 256) (h0 : y0 < 256) (h1 : y1 < 256) (h2 : y2 < 256) (h3 : y3 < 256) :
    chg' [(y0 : Int), (y1 : Int), (y2 : Int), (y3 : Int)] 4 ((b0 : Int) :: (b1 : Int) :: (b2 : Int) :: (b3 : Int) :: post) = [((b0 ^^^ y0 : Nat) : Int), ((b1 ^^^ y1 : Nat) : Int), ((b2 ^^^ y2 : Nat) : Int), ((b3 ^^^ y3 : Nat) : Int)] ++ post := by
  obtain ⟨c0, c1, c2, c3⟩ := hb
  have r0 : ∀ (a : Int) (t : List Int), rd (a :: t) (0 : Nat) = a := fun _ _ => rfl
  have r1 : ∀ (a b : Int) (t : List Int), rd (a :: b :: t) (1 : Nat) = b := fun _ _ _ => rfl
  have r2 : ∀ (a b c : Int) (t : List Int), rd (a :: b :: c :: t) (2 : Nat) = c := fun _ _ _ _ => rfl
  have r3 : ∀ (a b c d : Int) (t : List Int), rd (a :: b :: c :: d :: t) (3 : Nat) = d := fun _ _ _ _ _ => rfl
  simp only [chg', r0, r1, r2, r3, List.set_cons_zero, List.set_cons_succ, u8_xor_nat _ _ c0 h0, u8_xor_nat _ _ c1 h1, u8_xor_nat _ _ c2 h2, u8_xor_nat _ _ c3 h3]
  rfl

theorem bursts_plain (l : List Int) (i y0 y1 y2 y3 : Int) (hbl : ∀ x ∈ l, 0 ≤ x ∧ x < 256) (h1 : 0 ≤ i) (h2 : i ≤ (l.length : Int) - 4)
    (hy0 : 0 ≤ y0 ∧ y0 < 256) (hy1 : 0 ≤ y1 ∧ y1 < 256) (hy2 : 0 ≤ y2 ∧ y2 < 256) (hy3 : 0 ≤ y3 ∧ y3 < 256) (hy : (y0 == 0 && (y1 == 0 && (y2 == 0 && y3 == 0))) = false) :
    add 0 (chg l i [y0, y1, y2, y3] 4) ≠ add 0 l ∧ ∀ x ∈ chg l i [y0, y1, y2, y3] 4, 0 ≤ x ∧ x < 256 := by
  obtain ⟨k, rfl⟩ := Int.eq_ofNat_of_zero_le h1
  obtain ⟨Y0, rfl⟩ := Int.eq_ofNat_of_zero_le hy0.1
  obtain ⟨Y1, rfl⟩ := Int.eq_ofNat_of_zero_le hy1.1
  obtain ⟨Y2, rfl⟩ := Int.eq_ofNat_of_zero_le hy2.1
  obtain ⟨Y3, rfl⟩ := Int.eq_ofNat_of_zero_le hy3.1
  have k0 : k < l.length := by omega
  have k1 : k + 1 < l.length := by omega
  have k2 : k + 2 < l.length := by omega
  have k3 : k + 3 < l.length := by omega
  have hd : l = l.take k ++ l[k] :: l[k + 1] :: l[k + 2] :: l[k + 3] :: l.drop (k + 4) := by
    rw [← List.drop_eq_getElem_cons, ← List.drop_eq_getElem_cons, ← List.drop_eq_getElem_cons, ← List.drop_eq_getElem_cons, List.take_append_drop]
  have hlen : (l.take k).length = k := by simp; omega
  have g0 := hbl _ (List.getElem_mem k0)
  have g1 := hbl _ (List.getElem_mem k1)
  have g2 := hbl _ (List.getElem_mem k2)
  have g3 := hbl _ (List.getElem_mem k3)
  have hp : ∀ x ∈ l.take k, 0 ≤ x ∧ x < 256 := fun x hx => hbl x (List.mem_of_mem_take hx)
  have hq : ∀ x ∈ l.drop (k + 4), 0 ≤ x ∧ x < 256 := fun x hx => hbl x (List.mem_of_mem_drop hx)
  generalize l[k] = B0 at *
  generalize l[k + 1] = B1 at *
  generalize l[k + 2] = B2 at *
  generalize l[k + 3] = B3 at *
  generalize l.take k = pre at *
  generalize l.drop (k + 4) = post at *
  obtain ⟨b0, rfl⟩ := Int.eq_ofNat_of_zero_le g0.1
  obtain ⟨b1, rfl⟩ := Int.eq_ofNat_of_zero_le g1.1
  obtain ⟨b2, rfl⟩ := Int.eq_ofNat_of_zero_le g2.1
  obtain ⟨b3, rfl⟩ := Int.eq_ofNat_of_zero_le g3.1
  subst hd
  subst hlen
  have hc := chg_four b0 b1 b2 b3 Y0 Y1 Y2 Y3 post ⟨by omega, by omega, by omega, by omega⟩ (by omega) (by omega) (by omega) (by omega)
  rw [chg_app, hc]
  constructor
  · have := burst_changes pre post b0 b1 b2 b3 Y0 Y1 Y2 Y3 (fun x hx => (hp x hx).2) ⟨by omega, by omega, by omega, by omega⟩ (by omega) (by omega) (by omega) (by omega) (by
      intro ⟨a, b, c, d⟩
      subst a; subst b; subst c; subst d
      simp at hy)
    simpa using this
  · have hx : ∀ {a b : Nat}, a < 256 → b < 256 → a ^^^ b < 256 := fun ha hb => Nat.xor_lt_two_pow (n := 8) ha hb
    have x0 := hx (a := b0) (b := Y0) (by omega) (by omega)
    have x1 := hx (a := b1) (b := Y1) (by omega) (by omega)
    have x2 := hx (a := b2) (b := Y2) (by omega) (by omega)
    have x3 := hx (a := b3) (b := Y3) (by omega) (by omega)
    intro x hx
    rcases List.mem_append.1 hx with hx | hx
    · exact hp x hx
    · rcases List.mem_append.1 hx with hx | hx
      · simp only [List.mem_cons, List.not_mem_nil, or_false] at hx
        rcases hx with rfl | rfl | rfl | rfl <;> omega
      · exact hq x hx

theorem bursts_true (a0 : Option Addr) (len0 cap0 : Nat) (z0 : List Int) (i y0 y1 y2 y3 : Int) (w : World) (w0 : RowIn w a0 len0 cap0 z0) (y : len0 * 1 ≤ 140737488351232) (_ : (Lit.int .i64 i).wf = true)
    (hy0 : 0 ≤ y0 ∧ y0 < 256) (hy1 : 0 ≤ y1 ∧ y1 < 256) (hy2 : 0 ≤ y2 ∧ y2 < 256) (hy3 : 0 ≤ y3 ∧ y3 < 256) :
    Calls Try.prog 5 #[.slice a0 len0 cap0, .int .i64 i, .agg #[.int .u8 y0, .int .u8 y1, .int .u8 y2, .int .u8 y3]] w fun e w' => e = .returned (.bool true) ∧ Below w.heap.size w w' := by
  obtain ⟨l, rfl, hr0, hm0, hw0, hc0⟩ := ReadsInt.ofRowC w0
  by_cases h : BurstOut l i
  · exact bursts_out _ _ l i _ _ _ _ _ h (by omega)
  · unfold BurstOut at h
    have hr := Kd.C_of_reads (d := (0 : Int)) (h1 := fun _ => rfl) hr0
    cases hy : (y0 == 0 && (y1 == 0 && (y2 == 0 && y3 == 0)))
    · obtain ⟨p1, p2⟩ := bursts_plain l i y0 y1 y2 y3 (wf_bytes hw0) (by omega) (by omega) hy0 hy1 hy2 hy3 hy
      exact bursts_in _ _ l i y0 y1 y2 y3 _ hr hc0 (wf_bytes hw0) (by omega) (by omega) (by omega) hy p1 p2
    · simp only [Bool.and_eq_true, beq_iff_eq] at hy
      obtain ⟨rfl, rfl, rfl, rfl⟩ := hy
      exact bursts_none _ _ l i _ (by omega) (by omega) (by omega)
end Go.Proofs.Ytdjhjbjcfebaeaa.Hand
