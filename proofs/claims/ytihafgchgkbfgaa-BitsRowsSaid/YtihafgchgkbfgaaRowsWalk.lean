/- BitsRows of package hourglasslaw1: its walk, for any two slices of uint64. -/
import Derived.Test.YtihafgchgkbfgaaBackWalk
import Derived.Test.YtihafgchgkbfgaaRowsPlain
namespace Go.Proofs.Ytihafgchgkbfgaa.Hand
open Go.RowKit Go.Proofs.YtihafgchgkbfgaaW.PrintWords Go.Proofs.YtihafgchgkbfgaaW.PrintLast Go.Proofs.YtihafgchgkbfgaaW.PrintMore
open Go.Proofs.Ytihafgchgkbfgaa.PGet Go.Proofs.Ytihafgchgkbfgaa.PPut Go.Proofs.Ytihafgchgkbfgaa.Plain

theorem encN_length (l : List Int) (hl : ∀ x ∈ l, 0 ≤ x ∧ x < 18446744073709551616) : ∀ n, n ≤ l.length → (encN l n).length ≤ 10 * n
  | 0, _ => by simp [encN]
  | n + 1, h => by
    have h1 := encN_length l hl n (by omega)
    have hr : rd l (n : Int) = l[n] := by
      unfold rd
      rw [Int.toNat_natCast, List.getD_eq_getElem?_getD, List.getElem?_eq_getElem (show n < l.length by omega)]
      rfl
    have hb := hl _ (List.getElem_mem (show n < l.length by omega))
    have h2 := enc_length 9 (rd l (n : Int)).toNat (lt_pow10 _ (by rw [hr]; omega))
    simp only [encN, List.length_append]
    omega

theorem rd_u64 {l : List Int} (hb : ∀ x ∈ l, 0 ≤ x ∧ x < 18446744073709551616) (i : Int) (h0 : 0 ≤ i) (h1 : i < l.length) : 0 ≤ rd l i ∧ rd l i < 18446744073709551616 := by
  obtain ⟨X, rfl⟩ := Int.eq_ofNat_of_zero_le h0
  have hX : X < l.length := by omega
  have : rd l (X : Int) = l[X] := by
    unfold rd
    rw [Int.toNat_natCast, List.getD_eq_getElem?_getD, List.getElem?_eq_getElem hX]
    rfl
  rw [this]
  exact hb _ (List.getElem_mem hX)

theorem cut_at (A : Option Addr) (c : Nat) (xs : List Int) (j : Nat) (hm : j ≤ xs.length) (hc : xs.length ≤ c) :
    ∃ A' : Option Addr, (∀ W : World, (Instr.slice 22 (.slice A xs.length c) (some (.int .i64 (j : Int))) none none).run Try.prog W = .ok (.slice A' (xs.drop j).length (c - j)) W) ∧
      (∀ w : World, ReadsInt w .u8 A xs.length xs → ReadsInt w .u8 A' (xs.drop j).length (xs.drop j)) ∧ (xs.drop j).length ≤ c - j := by
  have hm5 : (Try.prog.info? 5).map (fun i => i.size) = some 1 := by kernel_rfl
  obtain ⟨i, hi, hs⟩ := Option.map_eq_some_iff.1 hm5
  obtain ⟨A', h1, h2, h3⟩ := print_cut_int (P := Try.prog) (k := .u8) 22 5 Try.underlying22 hi hs A c xs (j : Int) (by omega) (by omega) hc
  rw [Int.toNat_natCast] at h1 h2 h3
  exact ⟨A', h1, h2, h3⟩

set_option maxHeartbeats 800000 in
set_option maxRecDepth 100000 in
theorem rows_late (A0 A1 : Option Addr) (c0 c1 : Nat) (l0 l1 : List Int) (w : World) (h : 30 < l0.length ∨ 30 < l1.length) :
    Calls Try.prog 5 #[.slice A0 l0.length c0, .slice A1 l1.length c1] w fun e w' => e = .returned (.bool true) ∧ Below w.heap.size w w' := by
  by_cases h0 : 30 < l0.length
  · have b0 : decide (30 < (l0.length : Int)) = true := by simp; omega
    have b0' : decide (30 < l0.length) = true := decide_eq_true h0
    clear h h0
    go_enter Try.func5, Try.ntmps5
    go_wp2_with fail
    refine (awake_true _).mono ?_
    rintro e w1 ⟨rfl, hb⟩
    go_wp2_with fail
    go_ret
    exact ⟨rfl, hb⟩
  · have h1 : 30 < l1.length := by omega
    have b0 : decide (30 < (l0.length : Int)) = false := by simp; omega
    have b0' : decide (30 < l0.length) = false := decide_eq_false h0
    have b1 : decide (30 < (l1.length : Int)) = true := by simp; omega
    have b1' : decide (30 < l1.length) = true := decide_eq_true h1
    clear h h0 h1
    go_enter Try.func5, Try.ntmps5
    go_wp2_with fail
    refine (awake_true _).mono ?_
    rintro e w1 ⟨rfl, hb⟩
    go_wp2_with fail
    go_ret
    exact ⟨rfl, hb⟩

set_option maxHeartbeats 3200000 in
set_option maxRecDepth 100000 in
theorem rows_in (A0 A1 : Option Addr) (c0 c1 : Nat) (l0 l1 : List Int) (w : World) (hr0 : Kd.C (Kd.int .u64) w A0 l0.length l0) (hr1 : Kd.C (Kd.int .u64) w A1 l1.length l1)
    (hb0 : ∀ x ∈ l0, 0 ≤ x ∧ x < 18446744073709551616) (hb1 : ∀ x ∈ l1, 0 ≤ x ∧ x < 18446744073709551616) (h0 : ¬ 30 < l0.length) (h1 : ¬ 30 < l1.length) :
    Calls Try.prog 5 #[.slice A0 l0.length c0, .slice A1 l1.length c1] w fun e w' => e = .returned (.bool true) ∧ Below w.heap.size w w' := by
  have b0 : decide (30 < (l0.length : Int)) = false := by simp; omega
  have b0' : decide (30 < l0.length) = false := decide_eq_false h0
  have b1 : decide (30 < (l1.length : Int)) = false := by simp; omega
  have b1' : decide (30 < l1.length) = false := decide_eq_false h1
  have HR0 := Aside0.mk hr0
  have HR1 := Aside0.mk hr1
  have HB0 := Aside0.mk hb0
  have HB1 := Aside0.mk hb1
  have H0 := Aside0.mk h0
  have H1 := Aside0.mk h1
  have HE0 := Aside0.mk (encN_length l0 hb0)
  have HE1 := Aside0.mk (encN_length l1 hb1)
  clear hr0 hr1 hb0 hb1 h0 h1
  go_enter Try.func5, Try.ntmps5
  go_wp2_with fail
  refine (awake_true _).mono ?_
  rintro e w1 ⟨rfl, hb⟩
  have HB := Aside0.mk hb
  clear hb
  go_wp2_with fail
  go_loopw [5, 7] (fun v5 v7 wr => ∃ x : Int, 0 ≤ x ∧ x ≤ (l0.length : Int) ∧ v7 = .int .i64 x ∧ Aside0 ((Kd.int .u8).R 5 wr w1.heap.size (fun _ => True) v5 (encN l0 x.toNat)) ∧ Aside0 (Below w1.heap.size w1 wr)) (fun _ v7 _ => l0.length - (intOf v7).toNat)
  case atStart => exact ⟨0, by omega, by omega, rfl, ⟨Kd.R_nil _ _ _ _ _⟩, ⟨Below.refl _ _⟩⟩
  case round =>
    obtain ⟨x, hx0, hx4, rfl, HO, HW⟩ := hrel
    by_cases hlt : x < (l0.length : Int)
    · obtain ⟨ad, ea, hc⟩ := Kd.at_int (Kd.C_below (Kd.C_below HR0.out HB.out) HW.out) x hx0 hlt
      cases ea
      have hput : Aside0 (bits_Put.f 20 (encN l0 x.toNat) (rd l0 x) = some (encN l0 (x + 1).toNat)) := ⟨by
        obtain ⟨q0, q1⟩ := rd_u64 HB0.out x hx0 hlt
        have e1 : (x + 1).toNat = x.toNat + 1 := by omega
        have e2 : ((x.toNat : Nat) : Int) = x := by omega
        have hl := HE0.out x.toNat (by omega)
        have h30 := H0.out
        have := put_is (rd l0 x).toNat (encN l0 x.toNat) (by omega) (by omega)
        rw [show (((rd l0 x).toNat : Nat) : Int) = rd l0 x from by omega] at this
        rw [e1, this]
        simp only [encN, e2]⟩
      have p1 := decide_eq_true hlt
      have hx0' := Aside0.mk hx0
      replace hx0 := eq_true hx0
      have hlt' := Aside0.mk hlt
      replace hlt := eq_true hlt
      clear hx4
      obtain ⟨Ao, co, eo⟩ := Kd.R_slice HO.out
      subst eo
      generalize hm' : encN l0 (x + 1).toNat = m' at *
      generalize encN l0 x.toNat = m at *
      have HM' := Aside0.mk hm'
      clear hm'
      go_wp2_with fail
      refine (bits_Put.calls 20 Ao co m (rd l0 x) m' _ (Kd.R_reads' HO.out).2.2 (Kd.R_reads' HO.out).2.1 hput.out).mono ?_
      rintro e w2 ⟨v2, rfl, ho2, hb2⟩
      have HW2 : Aside0 (Below w1.heap.size w1 w2) := ⟨HW.out.trans (hb2.mono HW.out.size)⟩
      have HO2 := Aside0.mk (Kd.R_lower ho2 HW.out.size)
      clear ho2 hb2
      go_wp2
      go_roundw
      case rel =>
        have := hx0'.out
        have := hlt'.out
        refine ⟨x + 1, by omega, by omega, ?_, ?_, HW2⟩
        · first | rfl | (have h4 := H0.out; rw [show wrap64 (x + 1) = x + 1 from by unfold wrap64; omega])
        · rw [HM'.out]; exact HO2
      case measure =>
        have := hx0'.out
        have := hlt'.out
        have h4 := H0.out
        have e : wrap64 (x + 1) = x + 1 := by unfold wrap64; omega
        first | (simp [intOf]; omega) | (simp [intOf, e]; omega)
    · have hx : x = (l0.length : Int) := by omega
      subst hx
      rw [Int.toNat_natCast] at HO
      have hxl := Aside0.mk (HE0.out l0.length (Nat.le_refl _))
      generalize hX : encN l0 l0.length = X at *
      have HXE := Aside0.mk hX
      clear hX
      obtain ⟨Ax, cx, ex⟩ := Kd.R_slice HO.out
      subst ex
      have HCX := Aside0.mk (Kd.R_reads' HO.out).2.2
      have HCc := Aside0.mk (Kd.R_reads' HO.out).2.1
      have HBW : Aside0 (Below w.heap.size w wr) := ⟨HB.out.trans (HW.out.mono HB.out.size)⟩
      clear HO HW
      obtain ⟨W2, rfl⟩ : ∃ W2 : World, W2 = wr := ⟨_, rfl⟩
      go_wp2_with fail
      go_loopw [6, 8] (fun v6 v8 wq => ∃ x : Int, 0 ≤ x ∧ x ≤ (l1.length : Int) ∧ v8 = .int .i64 x ∧ Aside0 ((Kd.int .u8).R 5 wq W2.heap.size (fun _ => True) v6 (encN l1 x.toNat)) ∧ Aside0 (Below W2.heap.size W2 wq)) (fun _ v8 _ => l1.length - (intOf v8).toNat)
      case atStart => exact ⟨0, by omega, by omega, rfl, ⟨Kd.R_nil _ _ _ _ _⟩, ⟨Below.refl _ _⟩⟩
      case round =>
        obtain ⟨x, hx0, hx4, rfl, HO, HW⟩ := hrel
        by_cases hlt : x < (l1.length : Int)
        · obtain ⟨ad, ea, hc⟩ := Kd.at_int (Kd.C_below (Kd.C_below HR1.out HBW.out) HW.out) x hx0 hlt
          cases ea
          have hput : Aside0 (bits_Put.f 20 (encN l1 x.toNat) (rd l1 x) = some (encN l1 (x + 1).toNat)) := ⟨by
            obtain ⟨q0, q1⟩ := rd_u64 HB1.out x hx0 hlt
            have e1 : (x + 1).toNat = x.toNat + 1 := by omega
            have e2 : ((x.toNat : Nat) : Int) = x := by omega
            have hl := HE1.out x.toNat (by omega)
            have h30 := H1.out
            have := put_is (rd l1 x).toNat (encN l1 x.toNat) (by omega) (by omega)
            rw [show (((rd l1 x).toNat : Nat) : Int) = rd l1 x from by omega] at this
            rw [e1, this]
            simp only [encN, e2]⟩
          have p1 := decide_eq_true hlt
          have hx0' := Aside0.mk hx0
          replace hx0 := eq_true hx0
          have hlt' := Aside0.mk hlt
          replace hlt := eq_true hlt
          clear hx4
          obtain ⟨Ao, co, eo⟩ := Kd.R_slice HO.out
          subst eo
          generalize hm' : encN l1 (x + 1).toNat = m' at *
          generalize encN l1 x.toNat = m at *
          have HM' := Aside0.mk hm'
          clear hm'
          go_wp2_with fail
          refine (bits_Put.calls 20 Ao co m (rd l1 x) m' _ (Kd.R_reads' HO.out).2.2 (Kd.R_reads' HO.out).2.1 hput.out).mono ?_
          rintro e w2 ⟨v2, rfl, ho2, hb2⟩
          have HW2 : Aside0 (Below W2.heap.size W2 w2) := ⟨HW.out.trans (hb2.mono HW.out.size)⟩
          have HO2 := Aside0.mk (Kd.R_lower ho2 HW.out.size)
          clear ho2 hb2
          go_wp2
          go_roundw
          case rel =>
            have := hx0'.out
            have := hlt'.out
            refine ⟨x + 1, by omega, by omega, ?_, ?_, HW2⟩
            · first | rfl | (have h4 := H1.out; rw [show wrap64 (x + 1) = x + 1 from by unfold wrap64; omega])
            · rw [HM'.out]; exact HO2
          case measure =>
            have := hx0'.out
            have := hlt'.out
            have h4 := H1.out
            have e : wrap64 (x + 1) = x + 1 := by unfold wrap64; omega
            first | (simp [intOf]; omega) | (simp [intOf, e]; omega)
        · have hx : x = (l1.length : Int) := by omega
          subst hx
          rw [Int.toNat_natCast] at HO
          have hyl := Aside0.mk (HE1.out l1.length (Nat.le_refl _))
          generalize hY : encN l1 l1.length = Y at *
          have HYE := Aside0.mk hY
          clear hY
          obtain ⟨Ay, cy, ey⟩ := Kd.R_slice HO.out
          subst ey
          have HCY := Aside0.mk (Kd.R_reads' HO.out).2.2
          have HBV : Aside0 (Below w.heap.size w wr) := ⟨HBW.out.trans (HW.out.mono HBW.out.size)⟩
          have HVX : Aside0 (Kd.C (Kd.int .u8) wr Ax X.length X) := ⟨Kd.C_below HCX.out HW.out⟩
          have HV0 := Aside0.mk (Kd.C_below HR0.out HBV.out)
          have HV1 := Aside0.mk (Kd.C_below HR1.out HBV.out)
          have HCYc := Aside0.mk (Kd.R_reads' HO.out).2.1
          clear HO HW HCX
          obtain ⟨W3, rfl⟩ : ∃ W3 : World, W3 = wr := ⟨_, rfl⟩
          go_wp2_with fail
          go_loopw [9, 10] (fun v9 v10 wq => ∃ x : Int, 0 ≤ x ∧ x ≤ (l0.length : Int) ∧ v10 = .int .i64 x ∧ v9 = .bool (al l0 l1 x.toNat) ∧ Aside0 (∀ j, j < x.toNat → al l0 l1 j = true) ∧ Drawn0 W3 wq) (fun _ v10 _ => l0.length - (intOf v10).toNat)
          case atStart => exact ⟨0, by omega, by omega, rfl, rfl, ⟨fun j hj => by simp at hj⟩, Drawn0.refl _⟩
          case round =>
            obtain ⟨x, hx0, hx4, rfl, rfl, HA, ⟨nd, rfl⟩⟩ := hrel
            by_cases hgo : al l0 l1 x.toNat = true ∧ x < (l0.length : Int)
            · obtain ⟨hal, hlt⟩ := hgo
              have hlen : Aside0 (l0.length = l1.length) := ⟨al_len l0 l1 x.toNat (fun j hj => by
                by_cases e : j = x.toNat
                · rw [e]; exact hal
                · exact HA.out j (by omega))⟩
              have hal' := Aside0.mk hal
              obtain ⟨ad, ea, hc⟩ := Kd.at_int HV0.out x hx0 hlt
              cases ea
              obtain ⟨ad', ea, hc'⟩ := Kd.at_int HV1.out x hx0 (by have := hlen.out; omega)
              cases ea
              have p1 := decide_eq_true hlt
              have q1 : x < (l1.length : Int) := by have := hlen.out; omega
              have hx0' := Aside0.mk hx0
              have hlt' := Aside0.mk hlt
              clear hx4
              go_wp2
              go_quiet (fail)
              go_wp2
              go_roundw
              case rel =>
                have g0 := hx0'.out
                have g1 := hlt'.out
                have e1 : (x + 1).toNat = x.toNat + 1 := by omega
                have e2 : ((x.toNat : Nat) : Int) = x := by omega
                refine ⟨x + 1, by omega, by omega, ?_, ?_, ⟨fun j hj => ?_⟩, ⟨_, rfl⟩⟩
                · first | rfl | (have h4 := H0.out; rw [show wrap64 (x + 1) = x + 1 from by unfold wrap64; omega])
                · rw [e1]; simp only [al, e2]
                · by_cases e : j = x.toNat
                  · rw [e]; exact hal'.out
                  · exact HA.out j (by omega)
              case measure =>
                have g0 := hx0'.out
                have g1 := hlt'.out
                have h4 := H0.out
                have e : wrap64 (x + 1) = x + 1 := by unfold wrap64; omega
                first | (simp [intOf]; omega) | (simp [intOf, e]; omega)
            · have hbeta := al_end l0 l1 x.toNat (by omega) HA.out (by
                intro hh
                exact hgo ⟨hh.1, by omega⟩)
              have hstr : ((strOfNums X).toList == (strOfNums Y).toList) = al l0 l1 x.toNat := by
                rw [hbeta, ← HXE.out, ← HYE.out]
                exact str_rows l0 l1 (fun z hz => (HB0.out z hz).1) (fun z hz => (HB1.out z hz).1)
              have hcv1 : (convert 22 9 (Value.slice Ax X.length cx)).run Try.prog (W3.drewN nd) = .ok (.string (strOfNums X)) (W3.drewN nd) := Kd.C_string Try.underlying22 Try.underlying5 Try.underlying9 (Kd.C_drewN HVX.out nd)
              have hcv2 : (convert 22 9 (Value.slice Ay Y.length cy)).run Try.prog (W3.drewN nd) = .ok (.string (strOfNums Y)) (W3.drewN nd) := Kd.C_string Try.underlying22 Try.underlying5 Try.underlying9 (Kd.C_drewN HCY.out nd)
              have HGO := Aside0.mk hgo
              clear hgo hbeta
              generalize hal : al l0 l1 x.toNat = be at *
              cases be
              · go_wp2_with fail
                clear hcv1 hcv2 hstr
                go_loopw [5, 11] (fun v5 v11 wq => ∃ (y : Int) (A : Option Addr) (c : Nat) (T : List Int), 0 ≤ y ∧ y ≤ (l0.length : Int) ∧ v11 = .int .i64 y ∧ v5 = .slice A T.length c ∧ Aside0 (T.length ≤ c) ∧ Aside0 (T = encs (l0.drop y.toNat)) ∧ Aside0 (ReadsInt W3 .u8 A T.length T) ∧ Drawn0 W3 wq) (fun _ v11 _ => l0.length - (intOf v11).toNat)
                case atStart => exact ⟨0, Ax, cx, X, by omega, by omega, rfl, rfl, HCc, ⟨by rw [← HXE.out, encN_whole]; rfl⟩, ⟨Kd.reads_of_C (enc := Value.int .u8) (d := (0 : Int)) (h1 := fun _ => rfl) HVX.out⟩, ⟨_, rfl⟩⟩
                case round =>
                  obtain ⟨y, A, c, T, hy0, hy4, rfl, rfl, HTc, HT, HTR, ⟨nd2, rfl⟩⟩ := hrel
                  by_cases hlt : y < (l0.length : Int)
                  · obtain ⟨q0, q1⟩ := rd_u64 HB0.out y hy0 hlt
                    have e2 : ((y.toNat : Nat) : Int) = y := by omega
                    have e3 : (((rd l0 y).toNat : Nat) : Int) = rd l0 y := by omega
                    have hsplit : T = enc (rd l0 y).toNat ++ encs (l0.drop (y.toNat + 1)) := by rw [HT.out, encs_drop l0 y.toNat (by omega), e2]
                    have hget := get_is (rd l0 y).toNat (encs (l0.drop (y.toNat + 1))) (by omega)
                    rw [e3, ← hsplit] at hget
                    have HG := Aside0.mk hget
                    have hle : (enc (rd l0 y).toNat).length ≤ T.length := by rw [hsplit, List.length_append]; omega
                    have hdrop : T.drop (enc (rd l0 y).toNat).length = encs (l0.drop (y.toNat + 1)) := by rw [hsplit, List.drop_left]
                    obtain ⟨A', k1, k2, k3⟩ := cut_at A c T (enc (rd l0 y).toNat).length hle HTc.out
                    rw [hdrop] at k1 k2 k3
                    have K2 := Aside0.mk (k2 W3 HTR.out)
                    have K3 := Aside0.mk k3
                    obtain ⟨ad, ea, hc⟩ := Kd.at_int HV0.out y hy0 hlt
                    cases ea
                    have p1 := decide_eq_true hlt
                    have hy0' := Aside0.mk hy0
                    have hlt' := Aside0.mk hlt
                    have H2 := Aside0.mk e2
                    clear e2 e3 hsplit hget hle hdrop k2 k3 q0 q1 hy4
                    generalize hT' : encs (l0.drop (y.toNat + 1)) = T' at *
                    have HT' := Aside0.mk hT'
                    clear hT'
                    generalize (enc (rd l0 y).toNat).length = ne at *
                    go_wp2_with fail
                    refine (bits_Get.calls 30 A c T (rd l0 y) (ne : Int) 0 _ (Kd.C_drewN (Kd.C_of_reads (d := (0 : Int)) (h1 := fun _ => rfl) HTR.out) _) HTc.out HG.out).mono ?_
                    rintro e w6 ⟨rfl, n6, rfl⟩
                    go_wp2
                    go_roundw
                    case rel =>
                      have g0 := hy0'.out
                      have g1 := hlt'.out
                      have e1 : (y + 1).toNat = y.toNat + 1 := by omega
                      refine ⟨y + 1, A', c - ne, T', by omega, by omega, ?_, rfl, K3, ⟨by rw [e1, HT'.out]⟩, K2, ⟨_, rfl⟩⟩
                      first | rfl | (have h4 := H0.out; rw [show wrap64 (y + 1) = y + 1 from by unfold wrap64; omega])
                    case measure =>
                      have g0 := hy0'.out
                      have g1 := hlt'.out
                      have h4 := H0.out
                      have e : wrap64 (y + 1) = y + 1 := by unfold wrap64; omega
                      first | (simp [intOf]; omega) | (simp [intOf, e]; omega)
                  · have hye : y = (l0.length : Int) := by omega
                    subst hye
                    have hT0 : T = [] := by rw [HT.out, Int.toNat_natCast, List.drop_length]; rfl
                    subst hT0
                    go_wp2_with fail
                    go_ret
                    exact ⟨rfl, by repeat (first | exact HBV.out | apply pw_below_drewN | apply below_drew1)⟩
              · have hxe : decide (x < (l0.length : Int)) = false := decide_eq_false (fun h => HGO.out ⟨rfl, h⟩)
                go_wp2_with fail
                clear hcv1 hcv2 hstr
                go_loopw [5, 11] (fun v5 v11 wq => ∃ (y : Int) (A : Option Addr) (c : Nat) (T : List Int), 0 ≤ y ∧ y ≤ (l0.length : Int) ∧ v11 = .int .i64 y ∧ v5 = .slice A T.length c ∧ Aside0 (T.length ≤ c) ∧ Aside0 (T = encs (l0.drop y.toNat)) ∧ Aside0 (ReadsInt W3 .u8 A T.length T) ∧ Drawn0 W3 wq) (fun _ v11 _ => l0.length - (intOf v11).toNat)
                case atStart => exact ⟨0, Ax, cx, X, by omega, by omega, rfl, rfl, HCc, ⟨by rw [← HXE.out, encN_whole]; rfl⟩, ⟨Kd.reads_of_C (enc := Value.int .u8) (d := (0 : Int)) (h1 := fun _ => rfl) HVX.out⟩, ⟨_, rfl⟩⟩
                case round =>
                  obtain ⟨y, A, c, T, hy0, hy4, rfl, rfl, HTc, HT, HTR, ⟨nd2, rfl⟩⟩ := hrel
                  by_cases hlt : y < (l0.length : Int)
                  · obtain ⟨q0, q1⟩ := rd_u64 HB0.out y hy0 hlt
                    have e2 : ((y.toNat : Nat) : Int) = y := by omega
                    have e3 : (((rd l0 y).toNat : Nat) : Int) = rd l0 y := by omega
                    have hsplit : T = enc (rd l0 y).toNat ++ encs (l0.drop (y.toNat + 1)) := by rw [HT.out, encs_drop l0 y.toNat (by omega), e2]
                    have hget := get_is (rd l0 y).toNat (encs (l0.drop (y.toNat + 1))) (by omega)
                    rw [e3, ← hsplit] at hget
                    have HG := Aside0.mk hget
                    have hle : (enc (rd l0 y).toNat).length ≤ T.length := by rw [hsplit, List.length_append]; omega
                    have hdrop : T.drop (enc (rd l0 y).toNat).length = encs (l0.drop (y.toNat + 1)) := by rw [hsplit, List.drop_left]
                    obtain ⟨A', k1, k2, k3⟩ := cut_at A c T (enc (rd l0 y).toNat).length hle HTc.out
                    rw [hdrop] at k1 k2 k3
                    have K2 := Aside0.mk (k2 W3 HTR.out)
                    have K3 := Aside0.mk k3
                    obtain ⟨ad, ea, hc⟩ := Kd.at_int HV0.out y hy0 hlt
                    cases ea
                    have p1 := decide_eq_true hlt
                    have hy0' := Aside0.mk hy0
                    have hlt' := Aside0.mk hlt
                    have H2 := Aside0.mk e2
                    clear e2 e3 hsplit hget hle hdrop k2 k3 q0 q1 hy4
                    generalize hT' : encs (l0.drop (y.toNat + 1)) = T' at *
                    have HT' := Aside0.mk hT'
                    clear hT'
                    generalize (enc (rd l0 y).toNat).length = ne at *
                    go_wp2_with fail
                    refine (bits_Get.calls 30 A c T (rd l0 y) (ne : Int) 0 _ (Kd.C_drewN (Kd.C_of_reads (d := (0 : Int)) (h1 := fun _ => rfl) HTR.out) _) HTc.out HG.out).mono ?_
                    rintro e w6 ⟨rfl, n6, rfl⟩
                    go_wp2
                    go_roundw
                    case rel =>
                      have g0 := hy0'.out
                      have g1 := hlt'.out
                      have e1 : (y + 1).toNat = y.toNat + 1 := by omega
                      refine ⟨y + 1, A', c - ne, T', by omega, by omega, ?_, rfl, K3, ⟨by rw [e1, HT'.out]⟩, K2, ⟨_, rfl⟩⟩
                      first | rfl | (have h4 := H0.out; rw [show wrap64 (y + 1) = y + 1 from by unfold wrap64; omega])
                    case measure =>
                      have g0 := hy0'.out
                      have g1 := hlt'.out
                      have h4 := H0.out
                      have e : wrap64 (y + 1) = y + 1 := by unfold wrap64; omega
                      first | (simp [intOf]; omega) | (simp [intOf, e]; omega)
                  · have hye : y = (l0.length : Int) := by omega
                    subst hye
                    have hT0 : T = [] := by rw [HT.out, Int.toNat_natCast, List.drop_length]; rfl
                    subst hT0
                    go_wp2_with fail
                    go_ret
                    exact ⟨rfl, by repeat (first | exact HBV.out | apply pw_below_drewN | apply below_drew1)⟩

theorem wf_nums {l : List Int} (h : ∀ x ∈ l, (Lit.int .u64 x).wf = true) : ∀ x ∈ l, 0 ≤ x ∧ x < 18446744073709551616 := fun x hx => wf_u64 (h x hx)

theorem rows_true (a0 : Option Addr) (len0 cap0 : Nat) (z0 : List Int) (a1 : Option Addr) (len1 cap1 : Nat) (z1 : List Int) (w : World) (w0 : RowIn w .u64 a0 len0 cap0 z0) (w1 : RowIn w .u64 a1 len1 cap1 z1) :
    Calls Try.prog 5 #[.slice a0 len0 cap0, .slice a1 len1 cap1] w fun e w' => e = .returned (.bool true) ∧ Below w.heap.size w w' := by
  obtain ⟨l0, rfl, hr0, hm0, hw0, hc0⟩ := ReadsInt.ofRowC w0
  obtain ⟨l1, rfl, hr1, hm1, hw1, hc1⟩ := ReadsInt.ofRowC w1
  by_cases h0 : 30 < l0.length
  · exact rows_late _ _ _ _ _ _ _ (.inl h0)
  · by_cases h1 : 30 < l1.length
    · exact rows_late _ _ _ _ _ _ _ (.inr h1)
    · exact rows_in _ _ _ _ _ _ _ (Kd.C_of_reads (d := (0 : Int)) (h1 := fun _ => rfl) hr0) (Kd.C_of_reads (d := (0 : Int)) (h1 := fun _ => rfl) hr1) (wf_nums hw0) (wf_nums hw1) h0 h1
end Go.Proofs.Ytihafgchgkbfgaa.Hand
