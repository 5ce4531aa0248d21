/- crc.Add: its walk. -/
import Derived.Test.YtdjhjbjcfebaeaaProg
import Derived.Test.YtdjhjbjcfebaeaaWWords
import Derived.Test.YtdjhjbjcfebaeaaWLast
import Derived.Test.YtdjhjbjcfebaeaaWMore
import Derived.WalkKit
import Derived.Deep.LoopGhost
import Derived.Deep.QuietTactic
import Derived.BigQuiet
import Derived.WalkSpells
import Derived.WalkLawsBesides
import Derived.Test.YtdjhjbjcfebaeaaPlain
namespace Go.Proofs.Ytdjhjbjcfebaeaa.Hand
open Go.RowKit Go.Proofs.YtdjhjbjcfebaeaaW.PrintWords Go.Proofs.YtdjhjbjcfebaeaaW.PrintLast Go.Proofs.YtdjhjbjcfebaeaaW.PrintMore Go.Proofs.Ytdjhjbjcfebaeaa.Plain

theorem byte_in (m : Nat) (x : Int) (hm : m < 4294967296) (h0 : 0 ≤ x) (h1 : x < 256) : Go.bits .xor .u32 (m : Int) (x % 4294967296) = ((m ^^^ x.toNat : Nat) : Int) := by
  obtain ⟨X, rfl⟩ := Int.eq_ofNat_of_zero_le h0
  rw [show ((X : Int) % 4294967296) = (X : Int) from by omega, u32_xor_nat _ _ hm (by omega), Int.toNat_natCast]

theorem T_int (N : Nat) (h : N < 4294967296) : Go.bits .xor .u32 ((N : Int) / 2) (Go.bits .and .u32 2197175160 (-Go.bits .and .u32 (N : Int) 1 % 4294967296)) = ((T N : Nat) : Int) := by
  have e1 : Go.bits .and .u32 (N : Int) 1 = ((N % 2 : Nat) : Int) := by
    rw [show (1 : Int) = ((1 : Nat) : Int) from rfl, u32_and_nat _ _ h (by decide), nat_mask1]
  have e2 : Go.bits .and .u32 2197175160 (-Go.bits .and .u32 (N : Int) 1 % 4294967296) = ((if N % 2 = 1 then poly else 0 : Nat) : Int) := by
    rw [e1]
    by_cases hp : N % 2 = 1
    · rw [if_pos hp, hp]; decide +kernel
    · rw [if_neg hp, show N % 2 = 0 from by omega]; decide +kernel
  rw [e2, show ((N : Int) / 2) = ((N / 2 : Nat) : Int) from by omega]
  unfold T
  exact u32_xor_nat _ _ (by omega) (by split <;> simp [poly])

theorem not_int (s : Int) (h0 : 0 ≤ s) (h1 : s < 4294967296) : Go.bits .xor .u32 IntKind.u32.max s = ((ones ^^^ s.toNat : Nat) : Int) := by
  obtain ⟨S, rfl⟩ := Int.eq_ofNat_of_zero_le h0
  rw [show IntKind.u32.max = ((4294967295 : Nat) : Int) from by decide, u32_xor_nat _ _ (by decide) (by omega), Int.toNat_natCast]
  rfl

theorem take_next (c : Nat) (l : List Int) (x : Int) (h0 : 0 ≤ x) (h1 : x < l.length) : fold c (l.take (x + 1).toNat) = upd (fold c (l.take x.toNat)) (rd l x) := by
  obtain ⟨X, rfl⟩ := Int.eq_ofNat_of_zero_le h0
  have hX : X < l.length := by omega
  rw [show ((X : Int) + 1).toNat = X + 1 from by omega, Int.toNat_natCast, List.take_succ_eq_append_getElem hX, fold_snoc]
  congr 1
  unfold rd
  rw [Int.toNat_natCast, List.getD_eq_getElem?_getD, List.getElem?_eq_getElem hX]
  rfl

theorem rd_byte {l : List Int} (hb : ∀ x ∈ l, 0 ≤ x ∧ x < 256) (x : Int) (h0 : 0 ≤ x) (h1 : x < l.length) : 0 ≤ rd l x ∧ rd l x < 256 := by
  obtain ⟨X, rfl⟩ := Int.eq_ofNat_of_zero_le h0
  have hX : X < l.length := by omega
  have : rd l (X : Int) = l[X] := by
    unfold rd
    rw [Int.toNat_natCast, List.getD_eq_getElem?_getD, List.getElem?_eq_getElem hX]
    rfl
  rw [this]
  exact hb _ (List.getElem_mem hX)

theorem take_lt {l : List Int} (hb : ∀ x ∈ l, 0 ≤ x ∧ x < 256) (k : Nat) (s : Int) (hs : 0 ≤ s ∧ s < 4294967296) : fold (ones ^^^ s.toNat) (l.take k) < 4294967296 :=
  fold_lt _ (xor_lt ones_lt (by omega)) (fun x hx => (hb x (List.mem_of_mem_take hx)).2)

set_option maxHeartbeats 800000 in
set_option maxRecDepth 100000 in
/-- crc.Add, for any sum and any bytes: it only reads. -/
theorem add_any (A0 : Option Addr) (c0 : Nat) (l : List Int) (s : Int) (w : World) (hr0 : Kd.C (Kd.int .u8) w A0 l.length l) (hc0 : l.length ≤ c0) (hl : l.length ≤ 140737488355328)
    (hb : ∀ x ∈ l, 0 ≤ x ∧ x < 256) (hs : 0 ≤ s ∧ s < 4294967296) :
    Calls Try.prog 11 #[.int .u32 s, .slice A0 l.length c0] w fun e w' => e = .returned (.int .u32 (add s.toNat l)) ∧ Drawn0 w w' := by
  have HR0 := Aside0.mk hr0
  have HC0 := Aside0.mk hc0
  have HBY := Aside0.mk hb
  have HS := Aside0.mk hs
  have HL := Aside0.mk hl
  clear hr0 hc0 hb hs hl
  go_enter Try.func11, Try.ntmps11
  go_wp2
  go_loopw [5, 12] (fun c i w' => ∃ (x : Int) (m : Int), 0 ≤ x ∧ x ≤ (l.length : Int) ∧ i = .int .i64 x ∧ c = .int .u32 m ∧ Aside0 (m = fold (ones ^^^ s.toNat) (l.take x.toNat)) ∧ Drawn0 w w') (fun _ i _ => l.length - (intOf i).toNat)
  case atStart => exact ⟨0, _, by omega, by omega, rfl, rfl, ⟨by rw [not_int s HS.out.1 HS.out.2]; rfl⟩, Drawn0.refl _⟩
  case round =>
    obtain ⟨x, m, hx0, hx1, rfl, rfl, HM, ⟨nd, rfl⟩⟩ := hrel
    by_cases hlt : x < (l.length : Int)
    · obtain ⟨ad, ea, hx⟩ := Kd.at_int HR0.out x hx0 hlt
      cases ea
      clear hx1
      have p1 := decide_eq_true hlt
      have hx0' := Aside0.mk hx0
      replace hx0 := eq_true hx0
      have hlt' := Aside0.mk hlt
      replace hlt := eq_true hlt
      go_wp2
      go_loop [5, 20] (fun c j => ∃ (y : Int) (n : Int), 0 ≤ y ∧ y ≤ 8 ∧ j = .int .i64 y ∧ c = .int .u32 n ∧ Aside0 (n = rep y.toNat (m.toNat ^^^ (rd l x).toNat))) (fun _ j => 8 - (intOf j).toNat)
      case atStart =>
        refine ⟨0, _, by omega, by omega, rfl, rfl, ⟨?_⟩⟩
        have hby := rd_byte HBY.out x hx0'.out hlt'.out
        have hm := take_lt HBY.out x.toNat s HS.out
        rw [HM.out, byte_in _ _ hm hby.1 hby.2]
        rfl
      case round =>
        obtain ⟨y, n, hy0, hy1, rfl, rfl, HN⟩ := hrel
        by_cases hy : y < 8
        · go_wp2
          go_round
          case rel =>
            refine ⟨y + 1, _, by omega, by omega, rfl, rfl, ⟨?_⟩⟩
            have hby := rd_byte HBY.out x hx0'.out hlt'.out
            have hm := take_lt HBY.out x.toNat s HS.out
            have hn : rep y.toNat (m.toNat ^^^ (rd l x).toNat) < 4294967296 := rep_lt _ (xor_lt (by rw [HM.out, Int.toNat_natCast]; exact hm) (by omega))
            rw [HN.out, T_int _ hn, ← rep_succ, show (y + 1).toNat = y.toNat + 1 from by omega]
          case measure => simp [intOf]; omega
        · go_wp2
          go_roundw
          case rel =>
            refine ⟨x + 1, n, ?_, ?_, ?_, rfl, ⟨?_⟩, ⟨nd, rfl⟩⟩
            · have := hx0'.out; omega
            · have := hlt'.out; omega
            · have h1 := hlt'.out
              have h2 := HL.out
              have h3 := hx0'.out
              rw [show wrap64 (x + 1) = x + 1 from by unfold wrap64; omega]
            · have h8 : y = 8 := by omega
              rw [take_next _ l x hx0'.out hlt'.out, HN.out, HM.out, h8]
              rfl
          case measure =>
            have h1 := hlt'.out
            have h2 := HL.out
            have h3 := hx0'.out
            have e : wrap64 (x + 1) = x + 1 := by unfold wrap64; omega
            simp [intOf, e]; omega
    · go_wp2
      go_ret
      have he : x = l.length := by omega
      have hm := take_lt HBY.out x.toNat s HS.out
      refine ⟨?_, ⟨nd, rfl⟩⟩
      have h1 : fold (ones ^^^ s.toNat) (l.take x.toNat) = fold (ones ^^^ s.toNat) l := by rw [he, Int.toNat_natCast, List.take_length]
      rw [HM.out, not_int _ (by omega) (by omega), Int.toNat_natCast, h1]
      rfl
end Go.Proofs.Ytdjhjbjcfebaeaa.Hand
