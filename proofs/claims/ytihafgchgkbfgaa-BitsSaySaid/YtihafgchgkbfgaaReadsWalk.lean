/- BitsReads of package hourglasslaw1: the two readers answer alike on any bytes; the walk. -/
import Derived.Test.YtihafgchgkbfgaaAwake
import Derived.Test.YtihafgchgkbfgaaPlain
import Derived.Test.YtihafgchgkbfgaaRefGet1
namespace Go.Proofs.Ytihafgchgkbfgaa.Hand
open Go.RowKit Go.Proofs.YtihafgchgkbfgaaW.PrintWords Go.Proofs.YtihafgchgkbfgaaW.PrintLast Go.Proofs.YtihafgchgkbfgaaW.PrintMore
open Go.Proofs.Ytihafgchgkbfgaa.PGet Go.Proofs.Ytihafgchgkbfgaa.PRefGet Go.Proofs.Ytihafgchgkbfgaa.Plain

theorem rd_byte {l : List Int} (hb : ∀ x ∈ l, 0 ≤ x ∧ x < 256) (i : Nat) (h1 : i < l.length) : 0 ≤ rd l i ∧ rd l i < 256 := by
  have : rd l (i : Int) = l[i] := by
    unfold rd
    rw [Int.toNat_natCast, List.getD_eq_getElem?_getD, List.getElem?_eq_getElem h1]
    rfl
  rw [this]
  exact hb _ (List.getElem_mem h1)

def Alike (r : Int × Int × Int) (q : Int × Int) : Prop := r.1 = q.1 ∧ r.2.1 = q.2 ∧ ((r.2.2 == 0) = decide (q.2 > 0)) ∧ (r.2.2 = 0 ∨ r.2.2 = 3)

theorem alike_none : Alike (0, 0, 3) (0, 0) := ⟨rfl, rfl, rfl, .inr rfl⟩

def RefEqs (R : Nat → List Int → Int → Int → Option (Int × Int)) (J1 : Nat → List Int → Int → Int → Bool → Option (Int × Int)) (J2 : Nat → List Int → Int → Int → Int → Bool → Option (Int × Int)) : Prop :=
  (∀ k x0 x4 x5, R (k + 1) x0 x4 x5 = if x5 < (x0.length : Int) then (J1 k x0 x4 x5 (decide (x5 < 10))) else (J1 k x0 x4 x5 false)) ∧
  (∀ k x0 x4 x5 x14, J1 (k + 1) x0 x4 x5 x14 = if x14 = true then (if 0 ≤ x5 then (if x5 < (x0.length : Int) then (if x5 = 9 then (J2 k x0 x4 x5 (IntKind.u64.wrap (Go.bits .and .u8 (rd x0 x5) 127)) (decide ((IntKind.u64.wrap (Go.bits .and .u8 (rd x0 x5) 127)) > 1))) else (J2 k x0 x4 x5 (IntKind.u64.wrap (Go.bits .and .u8 (rd x0 x5) 127)) false)) else (none)) else (none)) else (some (0, 0))) ∧
  (∀ k x0 x4 x5 x6 x28, J2 (k + 1) x0 x4 x5 x6 x28 = if x28 = true then (some (0, 0)) else (if 0 ≤ (IntKind.u64.wrap (wrap64 (7 * x5))) then (if 0 ≤ x5 then (if x5 < (x0.length : Int) then (if (rd x0 x5) < 128 then (if (rd x0 x5) = 0 then (if x5 > 0 then (some (0, 0)) else (some (Go.bits .or .u64 x4 (shl .u64 x6 (IntKind.u64.wrap (wrap64 (7 * x5)))), wrap64 (x5 + 1)))) else (some (Go.bits .or .u64 x4 (shl .u64 x6 (IntKind.u64.wrap (wrap64 (7 * x5)))), wrap64 (x5 + 1)))) else (R k x0 (Go.bits .or .u64 x4 (shl .u64 x6 (IntKind.u64.wrap (wrap64 (7 * x5))))) (wrap64 (x5 + 1)))) else (none)) else (none)) else (none)))

theorem refEqs : RefEqs hourglassref1_Get.l0 hourglassref1_Get.j1 hourglassref1_Get.j2 := ⟨fun _ _ _ _ => rfl, fun _ _ _ _ _ => rfl, fun _ _ _ _ _ _ => rfl⟩
theorem getEqs : GetEqs bits_Get.l0 bits_Get.j1 := ⟨fun _ _ _ _ _ => rfl, fun _ _ _ _ _ _ _ _ => rfl⟩

theorem pair {L : Nat → Int → List Int → Int → Int → Option (Int × Int × Int)} {J : Nat → Int → Int → Int → List Int → Int → Int → Bool → Option (Int × Int × Int)} (H : GetEqs L J)
    {R : Nat → List Int → Int → Int → Option (Int × Int)} {J1 : Nat → List Int → Int → Int → Bool → Option (Int × Int)} {J2 : Nat → List Int → Int → Int → Int → Bool → Option (Int × Int)} (E : RefEqs R J1 J2) (l : List Int) (hb : ∀ x ∈ l, 0 ≤ x ∧ x < 256) : ∀ (d i : Nat) (V : Int) (k k' : Nat), i + d = 10 → 2 * d + 2 < k → 3 * d + 3 < k' →
    ∃ r q, L k V l (l.length : Int) (i : Int) = some r ∧ R k' l V (i : Int) = some q ∧ Alike r q := by
  intro d
  induction d with
  | zero =>
    intro i V k k' hi hk hk'
    obtain ⟨k, rfl⟩ : ∃ m, k = m + 2 := ⟨k - 2, by omega⟩
    obtain ⟨k', rfl⟩ : ∃ m, k' = m + 2 := ⟨k' - 2, by omega⟩
    have h10 : i = 10 := by omega
    subst h10
    refine ⟨(0, 0, 3), (0, 0), ?_, ?_, alike_none⟩
    · rw [H.1]
      by_cases h : ((10 : Nat) : Int) < (l.length : Int)
      · rw [if_pos h, if_pos (by omega), if_pos h, if_pos (by omega), H.2, if_pos rfl]
      · rw [if_neg h]
    · have hf : decide (((10 : Nat) : Int) < 10) = false := by decide
      have hj : J1 (k' + 1) l V ((10 : Nat) : Int) false = some (0, 0) := by rw [E.2.1, if_neg (by simp)]
      rw [E.1, hf, hj, ite_self]
  | succ d ih =>
    intro i V k k' hi hk hk'
    obtain ⟨k, rfl⟩ : ∃ m, k = m + 2 := ⟨k - 2, by omega⟩
    obtain ⟨k', rfl⟩ : ∃ m, k' = m + 3 := ⟨k' - 3, by omega⟩
    by_cases h : (i : Int) < (l.length : Int)
    · obtain ⟨x0, x1⟩ := rd_byte hb i (by omega)
      obtain ⟨X, hX⟩ := Int.eq_ofNat_of_zero_le x0
      have h7 : IntKind.u64.wrap (wrap64 (7 * (i : Int))) = wrap64 (7 * (i : Int)) := by
        have : wrap64 (7 * (i : Int)) = ((7 * i : Nat) : Int) := by unfold wrap64; omega
        rw [this, IntKind.wrap_u64]; omega
      have h7p := wrap7_pos i (by omega)
      have hand : IntKind.u64.wrap (Go.bits .and .u8 (rd l i) 127) = ((X % 128 : Nat) : Int) := by
        rw [hX]; exact byte_and X (by omega)
      have hlt10 : decide ((i : Int) < 10) = true := by simp; omega
      have hw1 : wrap64 ((i : Int) + 1) = ((i + 1 : Nat) : Int) := by unfold wrap64; omega
      have H7 := Aside0.mk h7
      have H7p := Aside0.mk h7p
      have HAND := Aside0.mk hand
      have HLT10 := Aside0.mk hlt10
      have HW1 := Aside0.mk hw1
      clear h7 h7p hand hlt10 hw1
      have a1 : (0 : Int) ≤ (i : Int) := by omega
      have a2 : ¬ (i : Int) = 10 := by omega
      -- one round of each
      have eG : ∀ b : Bool, (if (i : Int) = 9 then decide (rd l i > 1) else false) = b → L (k + 2) V l (l.length : Int) (i : Int) = J (k + 1) V (i : Int) (rd l i) l (l.length : Int) (i : Int) b := by
        intro b hbb
        rw [H.1, if_pos h, if_pos a1, if_pos h, if_neg a2]
        by_cases h9 : (i : Int) = 9
        · rw [if_pos h9] at hbb ⊢; rw [hbb]
        · rw [if_neg h9] at hbb ⊢; rw [hbb]
      have eR : ∀ b : Bool, (if (i : Int) = 9 then decide (((X % 128 : Nat) : Int) > 1) else false) = b → R (k' + 3) l V (i : Int) = J2 (k' + 1) l V (i : Int) ((X % 128 : Nat) : Int) b := by
        intro b hbb
        rw [E.1, if_pos h, HLT10.out, E.2.1, if_pos rfl, if_pos a1, if_pos h, HAND.out]
        by_cases h9 : (i : Int) = 9
        · rw [if_pos h9] at hbb ⊢; rw [hbb]
        · rw [if_neg h9] at hbb ⊢; rw [hbb]
      have sG : ∀ (T : Int), J (k + 1) V (i : Int) (rd l i) l (l.length : Int) (i : Int) false = (if rd l i < 128 then (if rd l i = 0 then (if (i : Int) > 0 then (some (0, 0, 3)) else (some (Go.bits .or .u64 V (shl .u64 ((X % 128 : Nat) : Int) (wrap64 (7 * (i : Int)))), ((i + 1 : Nat) : Int), 0))) else (some (Go.bits .or .u64 V (shl .u64 ((X % 128 : Nat) : Int) (wrap64 (7 * (i : Int)))), ((i + 1 : Nat) : Int), 0))) else (L k (Go.bits .or .u64 V (shl .u64 ((X % 128 : Nat) : Int) (wrap64 (7 * (i : Int))))) l (l.length : Int) ((i + 1 : Nat) : Int))) := by
        intro _
        rw [H.2, if_neg (by simp), if_pos H7p.out, HAND.out, HW1.out]
      have sR : J2 (k' + 1) l V (i : Int) ((X % 128 : Nat) : Int) false = (if rd l i < 128 then (if rd l i = 0 then (if (i : Int) > 0 then (some (0, 0)) else (some (Go.bits .or .u64 V (shl .u64 ((X % 128 : Nat) : Int) (wrap64 (7 * (i : Int)))), ((i + 1 : Nat) : Int)))) else (some (Go.bits .or .u64 V (shl .u64 ((X % 128 : Nat) : Int) (wrap64 (7 * (i : Int)))), ((i + 1 : Nat) : Int)))) else (R k' l (Go.bits .or .u64 V (shl .u64 ((X % 128 : Nat) : Int) (wrap64 (7 * (i : Int))))) ((i + 1 : Nat) : Int))) := by
        rw [E.2.2, if_neg (by simp), H7.out, if_pos H7p.out, if_pos a1, if_pos h, HW1.out]
      have plain : L (k + 2) V l (l.length : Int) (i : Int) = J (k + 1) V (i : Int) (rd l i) l (l.length : Int) (i : Int) false → R (k' + 3) l V (i : Int) = J2 (k' + 1) l V (i : Int) ((X % 128 : Nat) : Int) false →
          ∃ r q, L (k + 2) V l (l.length : Int) (i : Int) = some r ∧ R (k' + 3) l V (i : Int) = some q ∧ Alike r q := by
        intro gG gR
        rw [gG, gR, sG 0, sR]
        by_cases c1 : rd l i < 128
        · rw [if_pos c1, if_pos c1]
          by_cases c2 : rd l i = 0
          · rw [if_pos c2, if_pos c2]
            by_cases c3 : (i : Int) > 0
            · rw [if_pos c3, if_pos c3]
              exact ⟨_, _, rfl, rfl, alike_none⟩
            · rw [if_neg c3, if_neg c3]
              exact ⟨_, _, rfl, rfl, rfl, rfl, (decide_eq_true (show ((i + 1 : Nat) : Int) > 0 by omega)).symm, .inl rfl⟩
          · rw [if_neg c2, if_neg c2]
            exact ⟨_, _, rfl, rfl, rfl, rfl, (decide_eq_true (show ((i + 1 : Nat) : Int) > 0 by omega)).symm, .inl rfl⟩
        · rw [if_neg c1, if_neg c1]
          exact ih (i + 1) _ k k' (by omega) (by omega) (by omega)
      by_cases h9 : (i : Int) = 9
      · by_cases c1 : rd l i > 1
        · by_cases c2 : ((X % 128 : Nat) : Int) > 1
          · refine ⟨(0, 0, 3), (0, 0), ?_, ?_, alike_none⟩
            · rw [eG true (by rw [if_pos h9]; exact decide_eq_true c1), H.2, if_pos rfl]
            · rw [eR true (by rw [if_pos h9]; exact decide_eq_true c2), E.2.2, if_pos rfl]
          · have hbig : ¬ rd l i < 128 := by omega
            have hq : R k' l (Go.bits .or .u64 V (shl .u64 ((X % 128 : Nat) : Int) (wrap64 (7 * (i : Int))))) ((i + 1 : Nat) : Int) = some (0, 0) := by
              obtain ⟨k'', rfl⟩ : ∃ m, k' = m + 2 := ⟨k' - 2, by omega⟩
              have hj : J1 (k'' + 1) l (Go.bits .or .u64 V (shl .u64 ((X % 128 : Nat) : Int) (wrap64 (7 * (i : Int))))) ((i + 1 : Nat) : Int) false = some (0, 0) := by rw [E.2.1, if_neg (by simp)]
              rw [E.1, show decide ((((i + 1 : Nat) : Int)) < 10) = false from by simp; omega, hj, ite_self]
            refine ⟨(0, 0, 3), (0, 0), ?_, ?_, alike_none⟩
            · rw [eG true (by rw [if_pos h9]; exact decide_eq_true c1), H.2, if_pos rfl]
            · rw [eR false (by rw [if_pos h9]; exact decide_eq_false c2), sR, if_neg hbig, hq]
        · have c2 : ¬ ((X % 128 : Nat) : Int) > 1 := by omega
          exact plain (eG false (by rw [if_pos h9]; exact decide_eq_false c1)) (eR false (by rw [if_pos h9]; exact decide_eq_false c2))
      · exact plain (eG false (by rw [if_neg h9])) (eR false (by rw [if_neg h9]))
    · refine ⟨(0, 0, 3), (0, 0), ?_, ?_, alike_none⟩
      · rw [H.1, if_neg h]
      · rw [E.1, if_neg h, E.2.1, if_neg (by simp)]

theorem pair_whole (l : List Int) (hb : ∀ x ∈ l, 0 ≤ x ∧ x < 256) : ∃ v n e w m : Int, bits_Get.f 30 l = some (v, n, e) ∧ hourglassref1_Get.f 40 l = some (w, m) ∧ v = w ∧ n = m ∧ ((e == 0) = decide (m > 0)) ∧ (e = 0 ∨ e = 3) := by
  obtain ⟨⟨v, n, e⟩, ⟨w, m⟩, h1, h2, h3, h4, h5, h6⟩ := pair getEqs refEqs l hb 10 0 0 30 40 (by omega) (by omega) (by omega)
  exact ⟨v, n, e, w, m, h1, h2, h3, h4, h5, h6⟩

theorem wf_bytes {l : List Int} (h : ∀ x ∈ l, (Lit.int .u8 x).wf = true) : ∀ x ∈ l, 0 ≤ x ∧ x < 256 := fun x hx => wf_u8 (h x hx)

/-- A slice of bytes that came in, as the row's frame hands it on. -/
def RowIn (w : World) (k : IntKind) (a : Option Addr) (len cap : Nat) (zs : List Int) : Prop :=
  (a = none ∧ len = 0 ∧ cap = 0 ∧ zs = []) ∨ ∃ x, a = some x ∧ len ≤ cap ∧ cap ≤ maxLen ∧ zs.length = cap ∧ (∀ i, i < zs.length → w.cell? (x.add i) = some (.int k (zs.getD i 0))) ∧ ∀ n ∈ zs, (Lit.int k n).wf = true

set_option maxHeartbeats 1600000 in
set_option maxRecDepth 100000 in
theorem reads_late (A0 : Option Addr) (c0 : Nat) (l : List Int) (w : World) (h0 : 100 < l.length) :
    Calls Try.prog 3 #[.slice A0 l.length c0] w fun e w' => e = .returned (.bool true) ∧ Below w.heap.size w w' := by
  have b0 : decide (100 < (l.length : Int)) = true := by simp; omega
  have b0' : decide (100 < l.length) = true := decide_eq_true h0
  clear h0
  go_enter Try.func3, Try.ntmps3
  go_wp2_with fail
  refine (awake_true _).mono ?_
  rintro e w1 ⟨rfl, hb⟩
  go_wp2_with fail
  go_ret
  exact ⟨rfl, hb⟩

set_option maxHeartbeats 1600000 in
set_option maxRecDepth 100000 in
theorem reads_near (A0 : Option Addr) (c0 : Nat) (l : List Int) (w : World) (hr0 : Kd.C (Kd.int .u8) w A0 l.length l) (hc0 : l.length ≤ c0) (h0 : ¬ 100 < l.length) (v n e : Int)
    (hg : bits_Get.f 30 l = some (v, n, e)) (hq : hourglassref1_Get.f 40 l = some (v, n)) (hm : (e = 0 ∧ decide (0 < n) = true) ∨ (e = 3 ∧ decide (0 < n) = false)) :
    Calls Try.prog 3 #[.slice A0 l.length c0] w fun e w' => e = .returned (.bool true) ∧ Below w.heap.size w w' := by
  have b0 : decide (100 < (l.length : Int)) = false := by simp; omega
  have b0' : decide (100 < l.length) = false := decide_eq_false h0
  have HR0 := Aside0.mk hr0
  have HC0 := Aside0.mk hc0
  have HG := Aside0.mk hg
  have HQ := Aside0.mk hq
  clear hr0 hc0 hg hq h0
  rcases hm with ⟨rfl, hm⟩ | ⟨rfl, hm⟩
  all_goals
    go_enter Try.func3, Try.ntmps3
    go_wp2_with fail
    refine (awake_true _).mono ?_
    rintro e w1 ⟨rfl, hb⟩
    go_wp2_with fail
    refine (bits_Get.calls 30 _ _ l _ _ _ _ (Kd.C_below HR0.out hb) HC0.out HG.out).mono ?_
    rintro e w2 ⟨rfl, nd, rfl⟩
    go_wp2_with fail
    refine (hourglassref1_Get.calls 40 _ _ l _ _ _ (Kd.C_drewN (Kd.C_below HR0.out hb) _) HC0.out HQ.out).mono ?_
    rintro e w2 ⟨rfl, nd2, rfl⟩
    go_wp2_with fail
    go_ret
    exact ⟨rfl, by repeat (first | exact hb | apply pw_below_drewN | apply below_drew1)⟩

theorem reads_true (a0 : Option Addr) (len0 cap0 : Nat) (z0 : List Int) (w : World) (w0 : RowIn w .u8 a0 len0 cap0 z0) :
    Calls Try.prog 3 #[.slice a0 len0 cap0] w fun e w' => e = .returned (.bool true) ∧ Below w.heap.size w w' := by
  obtain ⟨l, rfl, hr0, hm0, hw0, hc0⟩ := ReadsInt.ofRowC w0
  by_cases h : 100 < l.length
  · exact reads_late _ _ l _ h
  · obtain ⟨v, n, e, w', m, h1, h2, rfl, rfl, h3, h4⟩ := pair_whole l (wf_bytes hw0)
    refine reads_near _ _ l _ (Kd.C_of_reads (d := (0 : Int)) (h1 := fun _ => rfl) hr0) hc0 h v n e h1 h2 ?_
    rcases h4 with rfl | rfl
    · exact .inl ⟨rfl, by rw [← h3]; rfl⟩
    · exact .inr ⟨rfl, by rw [← h3]; rfl⟩
end Go.Proofs.Ytihafgchgkbfgaa.Hand
