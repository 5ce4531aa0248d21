/- hourglassref1.Crc: its walk. -/
import Derived.Test.YtdjhjbjcfebaeaaAdd
namespace Go.Proofs.Ytdjhjbjcfebaeaa.Hand
open Go.RowKit Go.Proofs.YtdjhjbjcfebaeaaW.PrintWords Go.Proofs.YtdjhjbjcfebaeaaW.PrintLast Go.Proofs.YtdjhjbjcfebaeaaW.PrintMore Go.Proofs.Ytdjhjbjcfebaeaa.Plain

theorem and1_int (N : Nat) (h : N < 4294967296) : Go.bits .and .u32 (N : Int) 1 = ((N % 2 : Nat) : Int) := by
  rw [show (1 : Int) = ((1 : Nat) : Int) from rfl, u32_and_nat _ _ h (by decide), nat_mask1]
theorem odd_int (N : Nat) (h : N < 4294967296) (ho : N % 2 = 1) : Go.bits .and .u32 (N : Int) 1 = 1 := by
  rw [and1_int N h, ho]; rfl
theorem even_int (N : Nat) (h : N < 4294967296) (ho : ¬ N % 2 = 1) : Go.bits .and .u32 (N : Int) 1 ≠ 1 := by
  rw [and1_int N h]; omega
theorem T_odd (N : Nat) (h : N < 4294967296) (ho : N % 2 = 1) : Go.bits .xor .u32 ((N : Int) / 2) 2197175160 = ((T N : Nat) : Int) := by
  rw [show ((N : Int) / 2) = ((N / 2 : Nat) : Int) from by omega, show (2197175160 : Int) = ((2197175160 : Nat) : Int) from rfl, u32_xor_nat _ _ (by omega) (by decide)]
  unfold T
  rw [if_pos ho]
  rfl
theorem T_even' (N : Nat) (ho : ¬ N % 2 = 1) : ((N : Int) / 2) = ((T N : Nat) : Int) := by
  unfold T
  rw [if_neg ho, Nat.xor_zero]
  omega

set_option maxHeartbeats 800000 in
set_option maxRecDepth 100000 in
/-- hourglassref1.Crc, for any bytes: it only reads. -/
theorem ref_any (A0 : Option Addr) (c0 : Nat) (l : List Int) (w : World) (hr0 : Kd.C (Kd.int .u8) w A0 l.length l) (hc0 : l.length ≤ c0) (hl : l.length ≤ 140737488355328)
    (hb : ∀ x ∈ l, 0 ≤ x ∧ x < 256) :
    Calls Try.prog 10 #[.slice A0 l.length c0] w fun e w' => e = .returned (.int .u32 (add 0 l)) ∧ Drawn0 w w' := by
  have HR0 := Aside0.mk hr0
  have HC0 := Aside0.mk hc0
  have HBY := Aside0.mk hb
  have HL := Aside0.mk hl
  clear hr0 hc0 hb hl
  go_enter Try.func10, Try.ntmps10
  go_wp2
  go_loopw [3, 4] (fun c i w' => ∃ (x : Int) (m : Int), 0 ≤ x ∧ x ≤ (l.length : Int) ∧ i = .int .i64 x ∧ c = .int .u32 m ∧ Aside0 (m = fold (ones ^^^ (0 : Int).toNat) (l.take x.toNat)) ∧ Drawn0 w w') (fun _ i _ => l.length - (intOf i).toNat)
  case atStart => exact ⟨0, _, by omega, by omega, rfl, rfl, ⟨by rfl⟩, Drawn0.refl _⟩
  case round =>
    obtain ⟨x, m, hx0, hx1, rfl, rfl, HM, ⟨nd, rfl⟩⟩ := hrel
    by_cases hlt : x < (l.length : Int)
    · obtain ⟨ad, ea, hx⟩ := Kd.at_int HR0.out x hx0 hlt
      cases ea
      clear hx1
      have p1 := decide_eq_true hlt
      have hx0' := Aside0.mk hx0
      replace hx0 := eq_true hx0
      have hlt' := Aside0.mk hlt
      replace hlt := eq_true hlt
      go_wp2
      go_loop [3, 5] (fun c j => ∃ (y : Int) (n : Int), 0 ≤ y ∧ y ≤ 8 ∧ j = .int .i64 y ∧ c = .int .u32 n ∧ Aside0 (n = rep y.toNat (m.toNat ^^^ (rd l x).toNat))) (fun _ j => 8 - (intOf j).toNat)
      case atStart =>
        refine ⟨0, _, by omega, by omega, rfl, rfl, ⟨?_⟩⟩
        have hby := rd_byte HBY.out x hx0'.out hlt'.out
        have hm := take_lt HBY.out x.toNat 0 (by decide)
        rw [HM.out, byte_in _ _ hm hby.1 hby.2]
        rfl
      case round =>
        obtain ⟨y, n, hy0, hy1, rfl, rfl, HN⟩ := hrel
        have hby := Aside0.mk (rd_byte HBY.out x hx0'.out hlt'.out)
        have hm := Aside0.mk (take_lt HBY.out x.toNat 0 (by decide))
        have hn : Aside0 (rep y.toNat (m.toNat ^^^ (rd l x).toNat) < 4294967296) := ⟨rep_lt _ (xor_lt (by rw [HM.out, Int.toNat_natCast]; exact hm.out) (by have := hby.out; omega))⟩
        by_cases hy : y < 8
        · by_cases hodd : rep y.toNat (m.toNat ^^^ (rd l x).toNat) % 2 = 1
          · have bo : (Go.bits .and .u32 n 1 == 1) = true := by rw [HN.out, beq_iff_eq]; exact odd_int _ hn.out hodd
            have ho := Aside0.mk hodd
            clear hodd
            go_wp2
            go_round
            case rel =>
              refine ⟨y + 1, _, by omega, by omega, rfl, rfl, ⟨?_⟩⟩
              rw [HN.out, T_odd _ hn.out ho.out, ← rep_succ, show (y + 1).toNat = y.toNat + 1 from by omega]
            case measure => simp [intOf]; omega
          · have bo : (Go.bits .and .u32 n 1 == 1) = false := by rw [HN.out, beq_eq_false_iff_ne]; exact even_int _ hn.out hodd
            have ho := Aside0.mk hodd
            clear hodd
            go_wp2
            go_round
            case rel =>
              refine ⟨y + 1, _, by omega, by omega, rfl, rfl, ⟨?_⟩⟩
              rw [HN.out, T_even' _ ho.out, ← rep_succ, show (y + 1).toNat = y.toNat + 1 from by omega]
            case measure => simp [intOf]; omega
        · go_wp2
          go_roundw
          case rel =>
            refine ⟨x + 1, n, ?_, ?_, ?_, rfl, ⟨?_⟩, ⟨nd, rfl⟩⟩
            · have := hx0'.out; omega
            · have := hlt'.out; omega
            · have h1 := hlt'.out
              have h2 := HL.out
              have h3 := hx0'.out
              rw [show wrap64 (x + 1) = x + 1 from by unfold wrap64; omega]
            · have h8 : y = 8 := by omega
              rw [take_next _ l x hx0'.out hlt'.out, HN.out, HM.out, h8]
              rfl
          case measure =>
            have h1 := hlt'.out
            have h2 := HL.out
            have h3 := hx0'.out
            have e : wrap64 (x + 1) = x + 1 := by unfold wrap64; omega
            simp [intOf, e]; omega
    · go_wp2
      go_ret
      have he : x = l.length := by omega
      have hm := take_lt HBY.out x.toNat 0 (by decide)
      refine ⟨?_, ⟨nd, rfl⟩⟩
      have h1 : fold (ones ^^^ (0 : Int).toNat) (l.take x.toNat) = fold (ones ^^^ (0 : Int).toNat) l := by rw [he, Int.toNat_natCast, List.take_length]
      rw [HM.out, not_int _ (by omega) (by omega), Int.toNat_natCast, h1]
      rfl
end Go.Proofs.Ytdjhjbjcfebaeaa.Hand
