import Derived.Test.YtchfmgbjddopoaaGreatDoorM07
set_option linter.unusedVariables false
set_option linter.unusedSimpArgs false
set_option maxHeartbeats 6400000
set_option maxRecDepth 100000
namespace Go.Proofs.YtchfmgbjddopoaaGreatDoor.Hand
open Go.RowKit Go.Proofs.YtchfmgbjddopoaaGreatDoorW.PrintWords Go.Proofs.YtchfmgbjddopoaaGreatDoorW.PrintLast Go.Proofs.YtchfmgbjddopoaaGreatDoorW.PrintMore
attribute [local go_sem ↓] Go.wp_at_zero Go.wp_at_succ
open Plain (le4 at4 Be frm first frames Bytes)
theorem ZA {l : List Int} (hb : Bytes l) (i : Nat) (hi : i + 3 < l.length) : at4 l i < 4294967296 := by
 obtain ⟨a, ea, ha, ga⟩ := Ia hb i (by omega)
 obtain ⟨b, eb, hb1, gb⟩ := Ia hb (i + 1) (by omega)
 obtain ⟨c, ec, hc, gc⟩ := Ia hb (i + 2) (by omega)
 obtain ⟨d, ed, hd, gd⟩ := Ia hb (i + 3) (by omega)
 unfold at4
 rw [ga, gb, gc, gd]
 omega
theorem Uw (n : Nat) (h : n < 4294967296) : Go.bits .xor .u32 IntKind.u32.max (n : Int) = ((4294967295 - n : Nat) : Int) := by
 rw [Pv _ (by omega) (by omega), Int.toNat_natCast]
 congr 1
 have h2 : Plain.ones ^^^ n = (BitVec.ofNat 32 Plain.ones ^^^ BitVec.ofNat 32 n).toNat := by
   rw [BitVec.toNat_xor, BitVec.toNat_ofNat, BitVec.toNat_ofNat, Nat.mod_eq_of_lt (by decide), Nat.mod_eq_of_lt (by omega)]
 have h3 : BitVec.ofNat 32 Plain.ones = BitVec.allOnes 32 := by decide
 rw [h2, h3, BitVec.allOnes_xor, BitVec.toNat_not, BitVec.toNat_ofNat, Nat.mod_eq_of_lt (by omega)]
theorem Qq (w : World) (g u c : Nat) (l : List Int) (hr : Kd.C (Kd.int .u8) w (some ⟨g, u, none⟩) l.length l) (hc : l.length ≤ c) (hb : Bytes l) (hl : l.length ≤ 262144) :
   Calls Tryz.prog 66 #[.slice (some ⟨g, u, none⟩) l.length c] w fun e w' => (match first l with | none => e = .returned (.tuple #[.slice none 0 0, .bool false]) | some r => ∃ v', e = .returned (.tuple #[v', .bool true]) ∧ Bq w' w.heap.size v' r) ∧ Below w.heap.size w w' := by
 have hlz := Aa.mk hl
 have hcz := Aa.mk hc
 have hbz := Aa.mk hb
 have hrz := Aa.mk hr
 by_cases h12 : l.length < 12
 · have e1 : first l = none := by unfold first; rw [if_pos h12]
   have d1 : decide ((l.length : Int) < 12) = true := by simp; omega
   have d2 : decide (l.length < 12) = true := by simp; omega
   rw [e1]
   clear hr hb hc hl h12
   go_enter Tryz.func66, Tryz.ntmps66
   go_wp2_with fail
   go_returns
   exact ⟨rfl, Below.refl _ _⟩
 · have d1 : decide ((l.length : Int) < 12) = false := by simp; omega
   have d2 : decide (l.length < 12) = false := by simp; omega
   obtain ⟨n, hn⟩ : ∃ n, n = at4 l 0 := ⟨_, rfl⟩
   obtain ⟨m, hm⟩ : ∃ m, m = at4 l 4 := ⟨_, rfl⟩
   obtain ⟨q, hq⟩ : ∃ q, q = at4 l 8 := ⟨_, rfl⟩
   have a0 : Pat.Bz.f l 0 = some (n : Int) := by rw [hn]; exact Xl hb 0 (by omega) hl
   have a4 : Pat.Bz.f l 4 = some (m : Int) := by rw [hm]; exact Xl hb 4 (by omega) hl
   have a8 : Pat.Bz.f l 8 = some (q : Int) := by rw [hq]; exact Xl hb 8 (by omega) hl
   have nl : n < 4294967296 := hn ▸ ZA hb 0 (by omega)
   obtain ⟨k, hk⟩ : ∃ k, k = 4294967295 - n := ⟨_, rfl⟩
   have NT : Aa (Go.bits .xor .u32 IntKind.u32.max (n : Int) = (k : Int)) := ⟨by rw [hk]; exact Uw n nl⟩
   have W12 : Aa (wrap64 ((l.length : Int) - 12) = (l.length : Int) - 12) := ⟨IntWalk.wrap64_in _ ⟨by omega, by omega⟩⟩
   have HQ : Aa (n = at4 l 0 ∧ m = at4 l 4 ∧ q = at4 l 8) := ⟨hn, hm, hq⟩
   by_cases hA : m ≠ k ∨ 8000 < n ∨ l.length < 12 + n
   · have e1 : first l = none := by unfold first; rw [if_neg h12, ← hn, ← hm, ← hk, if_pos hA]
     rw [e1]
     clear hn hm hq
     have hAz := Aa.mk hA
     replace hk := Aa.mk hk
     clear hr hb hc hl hA
     by_cases x1 : m = k
     · have hm1 := x1
       subst hm1
       clear x1
       by_cases x2 : 8000 < n
       · have dn : decide (8000 < (n : Int)) = true := by simp; omega
         have w12 := W12.out
         have nt := NT.out
         have sg : IntKind.u32.signed = false := rfl
         go_enter Tryz.func66, Tryz.ntmps66
         go_wp2_with (first
           | (go_at_call_of 114 (Value.int IntKind.i64 0); refine (Pat.Bz.calls _ c l 0 _ _ hrz.out hcz.out a0).mono ?_; rintro e w1 ⟨rfl, n1, rfl⟩; have C1 := Aa.mk (Kd.BJ hrz.out n1); have F1 : Aa (Below w.heap.size w (w.drewN n1)) := ⟨Ae (Below.refl _ _) n1⟩; generalize w.drewN n1 = w1 at C1 F1 ⊢)
           | (go_at_call_of 114 (Value.int IntKind.i64 4); refine (Pat.Bz.calls _ c l 4 _ _ C1.out hcz.out a4).mono ?_; rintro e w2 ⟨rfl, n2, rfl⟩; have C2 := Aa.mk (Kd.BJ C1.out n2); have F2 := Aa.mk (Ae F1.out n2); generalize w1.drewN n2 = w2 at C2 F2 ⊢))
         go_returns
         exact ⟨rfl, F2.out⟩
       · have dn : decide (8000 < (n : Int)) = false := by simp; omega
         have x3 : l.length < 12 + n := by have := hAz.out; omega
         have dl : decide ((l.length : Int) - 12 < (n : Int)) = true := by simp; omega
         clear x2 x3
         have w12 := W12.out
         have nt := NT.out
         have sg : IntKind.u32.signed = false := rfl
         go_enter Tryz.func66, Tryz.ntmps66
         go_wp2_with (first
           | (go_at_call_of 114 (Value.int IntKind.i64 0); refine (Pat.Bz.calls _ c l 0 _ _ hrz.out hcz.out a0).mono ?_; rintro e w1 ⟨rfl, n1, rfl⟩; have C1 := Aa.mk (Kd.BJ hrz.out n1); have F1 : Aa (Below w.heap.size w (w.drewN n1)) := ⟨Ae (Below.refl _ _) n1⟩; generalize w.drewN n1 = w1 at C1 F1 ⊢)
           | (go_at_call_of 114 (Value.int IntKind.i64 4); refine (Pat.Bz.calls _ c l 4 _ _ C1.out hcz.out a4).mono ?_; rintro e w2 ⟨rfl, n2, rfl⟩; have C2 := Aa.mk (Kd.BJ C1.out n2); have F2 := Aa.mk (Ae F1.out n2); generalize w1.drewN n2 = w2 at C2 F2 ⊢))
         go_returns
         exact ⟨rfl, F2.out⟩
     · have dm : ((m : Int) = (k : Int)) = False := by simp; omega
       have dm2 : (m = k) = False := by simp; omega
       clear x1
       have w12 := W12.out
       have nt := NT.out
       have sg : IntKind.u32.signed = false := rfl
       go_enter Tryz.func66, Tryz.ntmps66
       go_wp2_with (first
         | (go_at_call_of 114 (Value.int IntKind.i64 0); refine (Pat.Bz.calls _ c l 0 _ _ hrz.out hcz.out a0).mono ?_; rintro e w1 ⟨rfl, n1, rfl⟩; have C1 := Aa.mk (Kd.BJ hrz.out n1); have F1 : Aa (Below w.heap.size w (w.drewN n1)) := ⟨Ae (Below.refl _ _) n1⟩; generalize w.drewN n1 = w1 at C1 F1 ⊢)
         | (go_at_call_of 114 (Value.int IntKind.i64 4); refine (Pat.Bz.calls _ c l 4 _ _ C1.out hcz.out a4).mono ?_; rintro e w2 ⟨rfl, n2, rfl⟩; have C2 := Aa.mk (Kd.BJ C1.out n2); have F2 := Aa.mk (Ae F1.out n2); generalize w1.drewN n2 = w2 at C2 F2 ⊢))
       go_returns
       exact ⟨rfl, F2.out⟩
   · have hA1 : m = k := by omega
     have hA2 : n ≤ 8000 := by omega
     have hA3 : 12 + n ≤ l.length := by omega
     have hn' := hn
     have hq' := hq
     subst hA1
     have hm' := hm
     have hA' := hA
     clear hn hm hq
     have dn : decide (8000 < (n : Int)) = false := by simp; omega
     have dl : decide ((l.length : Int) - 12 < (n : Int)) = false := by simp; omega
     have WN : Aa (wrap64 (12 + (n : Int)) = 12 + (n : Int)) := ⟨IntWalk.wrap64_in _ ⟨by omega, by omega⟩⟩
     have b1 : decide (12 + (n : Int) ≤ (c : Int)) = true := by simp; omega
     have b2 : decide ((0 : Int) ≤ 12 + (n : Int)) = true := by simp; omega
     have b3 : (12 + (n : Int) ≤ (c : Int)) = True := by simp; omega
     have b4 : ((0 : Int) ≤ 12 + (n : Int)) = True := by simp; omega
     have hA3z := Aa.mk hA3
     have hA2z := Aa.mk hA2
     have hc12 : (8 ≤ c) = True := by simp; omega
     have b5 : ((8 : Int) ≤ (c : Int)) = True := by simp; omega
     obtain ⟨S0, hS0⟩ : ∃ S0, S0 = Plain.add 0 (l.take 8) := ⟨_, rfl⟩
     obtain ⟨S, hS⟩ : ∃ S, S = Plain.add S0 ((l.drop 12).take n) := ⟨_, rfl⟩
     have len8 : (l.take 8).length = 8 := by simp; omega
     have lenn : ((l.drop 12).take n).length = n := by simp; omega
     have hb8 : ∀ x ∈ l.take 8, 0 ≤ x ∧ x < 256 := fun x hx => hb x (List.mem_of_mem_take hx)
     have hbn : ∀ x ∈ (l.drop 12).take n, 0 ≤ x ∧ x < 256 := fun x hx => hb x (List.mem_of_mem_drop (List.mem_of_mem_take hx))
     have hS0l : S0 < 4294967296 := by rw [hS0]; exact Plain.add_lt (by decide) (fun x hx => (hb8 x hx).2)
     have e1 : first l = if S ≠ q then none else some ((l.drop 12).take n) := by
       unfold first
       rw [if_neg h12, ← hn', ← hm', ← hk, if_neg hA', ← hS0, ← hS, ← hq']
     have hof : Aa (∀ W, Kd.C (Kd.int .u8) W (some ⟨g, u, none⟩) l.length l → Calls Tryz.prog 72 #[.slice (some ⟨g, u, none⟩) 8 c] W fun e w' => e = .returned (.int .u32 S0) ∧ Az W w') := ⟨fun W hW => by
       have := WX (some ⟨g, u, none⟩) c (l.take 8) W (Kd.Xd hW (by omega)) (by omega) (by omega) hb8
       rwa [len8, ← hS0] at this⟩
     obtain ⟨o, ho, ho2⟩ : ∃ o, (c = 12 → o = u) ∧ (c ≠ 12 → o = u + 12) := ⟨if c = 12 then u else u + 12, fun h => if_pos h, fun h => if_neg h⟩
     have hmid : Aa (∀ W, Kd.C (Kd.int .u8) W (some ⟨g, u, none⟩) l.length l → Kd.C (Kd.int .u8) W (some ⟨g, o, none⟩) n ((l.drop 12).take n)) := ⟨fun W hW => by
       have h1 := Kd.Xd (Kd.Xe (m := 12) (c := c) hW (by omega) hc) (m := n) (by simp; omega)
       rw [lenn] at h1
       by_cases hcc : c = 12
       · rw [if_pos hcc] at h1; rw [ho hcc]; exact h1
       · rw [if_neg hcc] at h1; rw [ho2 hcc]; exact h1⟩
     have hadd : Aa (∀ W, Kd.C (Kd.int .u8) W (some ⟨g, u, none⟩) l.length l → Calls Tryz.prog 71 #[.int .u32 S0, .slice (some ⟨g, o, none⟩) n (c - 12)] W fun e w' => e = .returned (.int .u32 S) ∧ Az W w') := ⟨fun W hW => by
       have := add_any (some ⟨g, o, none⟩) (c - 12) ((l.drop 12).take n) S0 W (by rw [lenn]; exact hmid.out W hW) (by omega) (by omega) hbn ⟨by omega, by omega⟩
       rwa [lenn, Int.toNat_natCast, ← hS] at this⟩
     have hcl : Aa (∀ W, Kd.C (Kd.int .u8) W (some ⟨g, u, none⟩) l.length l → Calls Tryz.prog 35 #[.slice (some ⟨g, o, none⟩) n (c - 12)] W fun e w' => ∃ v', e = .returned v' ∧ Bq w' W.heap.size v' ((l.drop 12).take n) ∧ Below W.heap.size W w') := ⟨fun W hW => by
       have hC := hmid.out W hW
       refine (Tryz.bytes_Clone_at ⟨g, o, none⟩ n (c - 12) ((l.drop 12).take n) W lenn (by omega) (fun i hi => ?_)).mono ?_
       · obtain ⟨ad, e, hcell⟩ := Kd.Ep hC (i : Int) (by omega) (by omega)
         cases e
         simpa [rd] using hcell
       · rintro e w' ⟨v', rfl, hr, _, hbel⟩
         exact ⟨v', rfl, by rw [Bq, lenn]; exact hr, hbel⟩⟩
     rw [e1]
     replace hk := Aa.mk hk
     clear hr hb hc hl hA hA' hA2 hA3 hb8 hbn e1 hmid hn' hm' hq'
     replace hS := Aa.mk hS
     replace hS0 := Aa.mk hS0
     replace hS0l := Aa.mk hS0l
     clear len8 lenn
     by_cases hcc : c = 12
     · have hou := ho hcc
       have hn0 : n = 0 := by have := hA3z.out; have := hcz.out; omega
       clear ho ho2 b3 b4 b5 hc12 b1 b2
       subst hou hcc hn0
       rw [Nat.sub_self] at hadd hcl
       have dl0 : decide ((l.length : Int) - 12 < 0) = false := dl
       have nt0 : Go.bits .xor .u32 IntKind.u32.max 0 = (m : Int) := NT.out
       by_cases hSq : S = q
       · subst hSq
         rw [if_neg (by simp)]
         have w12 := W12.out
         have nt := NT.out
         have sg : IntKind.u32.signed = false := rfl
         have wn := WN.out
         go_enter Tryz.func66, Tryz.ntmps66
         go_wp2_with (first
           | (go_at_call_of 114 (Value.int IntKind.i64 0); refine (Pat.Bz.calls _ _ l 0 _ _ hrz.out hcz.out a0).mono ?_; rintro e w1 ⟨rfl, n1, rfl⟩; have C1 := Aa.mk (Kd.BJ hrz.out n1); have F1 : Aa (Below w.heap.size w (w.drewN n1)) := ⟨Ae (Below.refl _ _) n1⟩; generalize w.drewN n1 = w1 at C1 F1 ⊢)
           | (go_at_call_of 114 (Value.int IntKind.i64 4); refine (Pat.Bz.calls _ _ l 4 _ _ C1.out hcz.out a4).mono ?_; rintro e w2 ⟨rfl, n2, rfl⟩; have C2 := Aa.mk (Kd.BJ C1.out n2); have F2 := Aa.mk (Ae F1.out n2); generalize w1.drewN n2 = w2 at C2 F2 ⊢)
           | (go_at_call 72; with_reducible refine (hof.out _ C2.out).mono ?_; rintro e w3 ⟨rfl, n3, rfl⟩; have C3 := Aa.mk (Kd.BJ C2.out n3); have F3 := Aa.mk (Ae F2.out n3); generalize w2.drewN n3 = w3 at C3 F3 ⊢)
           | (go_at_call 71; with_reducible refine (hadd.out _ C3.out).mono ?_; rintro e w4 ⟨rfl, n4, rfl⟩; have C4 := Aa.mk (Kd.BJ C3.out n4); have F4 := Aa.mk (Ae F3.out n4); generalize w3.drewN n4 = w4 at C4 F4 ⊢)
           | (go_at_call_of 114 (Value.int IntKind.i64 8); refine (Pat.Bz.calls _ _ l 8 _ _ C4.out hcz.out a8).mono ?_; rintro e w5 ⟨rfl, n5, rfl⟩; have C5 := Aa.mk (Kd.BJ C4.out n5); have F5 := Aa.mk (Ae F4.out n5); generalize w4.drewN n5 = w5 at C5 F5 ⊢)
           | (go_at_call 35; with_reducible refine (hcl.out _ C5.out).mono ?_; rintro e w6 ⟨v', rfl, hr6, F6⟩; replace hr6 := Aa.mk hr6; replace F6 := Aa.mk F6))
         go_returns
         exact ⟨⟨v', rfl, AV hr6.out F5.out.size⟩, F5.out.trans (F6.out.mono F5.out.size)⟩
       · rw [if_pos hSq]
         have dS : ((S : Int) = (q : Int)) = False := eq_false (by omega)
         have dS2 : (S = q) = False := eq_false hSq
         have dS3 : ((S : Int) != (q : Int)) = true := by simp only [bne_iff_ne, ne_eq]; omega
         clear hSq
         have w12 := W12.out
         have nt := NT.out
         have sg : IntKind.u32.signed = false := rfl
         have wn := WN.out
         go_enter Tryz.func66, Tryz.ntmps66
         go_wp2_with (first
           | (go_at_call_of 114 (Value.int IntKind.i64 0); refine (Pat.Bz.calls _ _ l 0 _ _ hrz.out hcz.out a0).mono ?_; rintro e w1 ⟨rfl, n1, rfl⟩; have C1 := Aa.mk (Kd.BJ hrz.out n1); have F1 : Aa (Below w.heap.size w (w.drewN n1)) := ⟨Ae (Below.refl _ _) n1⟩; generalize w.drewN n1 = w1 at C1 F1 ⊢)
           | (go_at_call_of 114 (Value.int IntKind.i64 4); refine (Pat.Bz.calls _ _ l 4 _ _ C1.out hcz.out a4).mono ?_; rintro e w2 ⟨rfl, n2, rfl⟩; have C2 := Aa.mk (Kd.BJ C1.out n2); have F2 := Aa.mk (Ae F1.out n2); generalize w1.drewN n2 = w2 at C2 F2 ⊢)
           | (go_at_call 72; with_reducible refine (hof.out _ C2.out).mono ?_; rintro e w3 ⟨rfl, n3, rfl⟩; have C3 := Aa.mk (Kd.BJ C2.out n3); have F3 := Aa.mk (Ae F2.out n3); generalize w2.drewN n3 = w3 at C3 F3 ⊢)
           | (go_at_call 71; with_reducible refine (hadd.out _ C3.out).mono ?_; rintro e w4 ⟨rfl, n4, rfl⟩; have C4 := Aa.mk (Kd.BJ C3.out n4); have F4 := Aa.mk (Ae F3.out n4); generalize w3.drewN n4 = w4 at C4 F4 ⊢)
           | (go_at_call_of 114 (Value.int IntKind.i64 8); refine (Pat.Bz.calls _ _ l 8 _ _ C4.out hcz.out a8).mono ?_; rintro e w5 ⟨rfl, n5, rfl⟩; have C5 := Aa.mk (Kd.BJ C4.out n5); have F5 := Aa.mk (Ae F4.out n5); generalize w4.drewN n5 = w5 at C5 F5 ⊢)
           | (go_at_call 35; with_reducible refine (hcl.out _ C5.out).mono ?_; rintro e w6 ⟨v', rfl, hr6, F6⟩; replace hr6 := Aa.mk hr6; replace F6 := Aa.mk F6))
         go_returns
         exact ⟨rfl, F5.out⟩
     · have hou := ho2 hcc
       clear ho ho2
       subst hou
       by_cases hSq : S = q
       · subst hSq
         rw [if_neg (by simp)]
         have w12 := W12.out
         have nt := NT.out
         have sg : IntKind.u32.signed = false := rfl
         have wn := WN.out
         go_enter Tryz.func66, Tryz.ntmps66
         go_wp2_with (first
           | (go_at_call_of 114 (Value.int IntKind.i64 0); refine (Pat.Bz.calls _ _ l 0 _ _ hrz.out hcz.out a0).mono ?_; rintro e w1 ⟨rfl, n1, rfl⟩; have C1 := Aa.mk (Kd.BJ hrz.out n1); have F1 : Aa (Below w.heap.size w (w.drewN n1)) := ⟨Ae (Below.refl _ _) n1⟩; generalize w.drewN n1 = w1 at C1 F1 ⊢)
           | (go_at_call_of 114 (Value.int IntKind.i64 4); refine (Pat.Bz.calls _ _ l 4 _ _ C1.out hcz.out a4).mono ?_; rintro e w2 ⟨rfl, n2, rfl⟩; have C2 := Aa.mk (Kd.BJ C1.out n2); have F2 := Aa.mk (Ae F1.out n2); generalize w1.drewN n2 = w2 at C2 F2 ⊢)
           | (go_at_call 72; with_reducible refine (hof.out _ C2.out).mono ?_; rintro e w3 ⟨rfl, n3, rfl⟩; have C3 := Aa.mk (Kd.BJ C2.out n3); have F3 := Aa.mk (Ae F2.out n3); generalize w2.drewN n3 = w3 at C3 F3 ⊢)
           | (go_at_call 71; with_reducible refine (hadd.out _ C3.out).mono ?_; rintro e w4 ⟨rfl, n4, rfl⟩; have C4 := Aa.mk (Kd.BJ C3.out n4); have F4 := Aa.mk (Ae F3.out n4); generalize w3.drewN n4 = w4 at C4 F4 ⊢)
           | (go_at_call_of 114 (Value.int IntKind.i64 8); refine (Pat.Bz.calls _ _ l 8 _ _ C4.out hcz.out a8).mono ?_; rintro e w5 ⟨rfl, n5, rfl⟩; have C5 := Aa.mk (Kd.BJ C4.out n5); have F5 := Aa.mk (Ae F4.out n5); generalize w4.drewN n5 = w5 at C5 F5 ⊢)
           | (go_at_call 35; with_reducible refine (hcl.out _ C5.out).mono ?_; rintro e w6 ⟨v', rfl, hr6, F6⟩; replace hr6 := Aa.mk hr6; replace F6 := Aa.mk F6))
         go_returns
         exact ⟨⟨v', rfl, AV hr6.out F5.out.size⟩, F5.out.trans (F6.out.mono F5.out.size)⟩
       · rw [if_pos hSq]
         have dS : ((S : Int) = (q : Int)) = False := eq_false (by omega)
         have dS2 : (S = q) = False := eq_false hSq
         have dS3 : ((S : Int) != (q : Int)) = true := by simp only [bne_iff_ne, ne_eq]; omega
         clear hSq
         have w12 := W12.out
         have nt := NT.out
         have sg : IntKind.u32.signed = false := rfl
         have wn := WN.out
         go_enter Tryz.func66, Tryz.ntmps66
         go_wp2_with (first
           | (go_at_call_of 114 (Value.int IntKind.i64 0); refine (Pat.Bz.calls _ _ l 0 _ _ hrz.out hcz.out a0).mono ?_; rintro e w1 ⟨rfl, n1, rfl⟩; have C1 := Aa.mk (Kd.BJ hrz.out n1); have F1 : Aa (Below w.heap.size w (w.drewN n1)) := ⟨Ae (Below.refl _ _) n1⟩; generalize w.drewN n1 = w1 at C1 F1 ⊢)
           | (go_at_call_of 114 (Value.int IntKind.i64 4); refine (Pat.Bz.calls _ _ l 4 _ _ C1.out hcz.out a4).mono ?_; rintro e w2 ⟨rfl, n2, rfl⟩; have C2 := Aa.mk (Kd.BJ C1.out n2); have F2 := Aa.mk (Ae F1.out n2); generalize w1.drewN n2 = w2 at C2 F2 ⊢)
           | (go_at_call 72; with_reducible refine (hof.out _ C2.out).mono ?_; rintro e w3 ⟨rfl, n3, rfl⟩; have C3 := Aa.mk (Kd.BJ C2.out n3); have F3 := Aa.mk (Ae F2.out n3); generalize w2.drewN n3 = w3 at C3 F3 ⊢)
           | (go_at_call 71; with_reducible refine (hadd.out _ C3.out).mono ?_; rintro e w4 ⟨rfl, n4, rfl⟩; have C4 := Aa.mk (Kd.BJ C3.out n4); have F4 := Aa.mk (Ae F3.out n4); generalize w3.drewN n4 = w4 at C4 F4 ⊢)
           | (go_at_call_of 114 (Value.int IntKind.i64 8); refine (Pat.Bz.calls _ _ l 8 _ _ C4.out hcz.out a8).mono ?_; rintro e w5 ⟨rfl, n5, rfl⟩; have C5 := Aa.mk (Kd.BJ C4.out n5); have F5 := Aa.mk (Ae F4.out n5); generalize w4.drewN n5 = w5 at C5 F5 ⊢)
           | (go_at_call 35; with_reducible refine (hcl.out _ C5.out).mono ?_; rintro e w6 ⟨v', rfl, hr6, F6⟩; replace hr6 := Aa.mk hr6; replace F6 := Aa.mk F6))
         go_returns
         exact ⟨rfl, F5.out⟩
theorem Vh (w : World) (A : Option Addr) (cp : Nat) (r : List Int) (h : Bq w 0 (.slice A r.length cp) r) (hb : Bytes r) (h1 : 1 ≤ r.length) (hl : r.length ≤ 8000) :
   Calls Tryz.prog 32 #[.slice none 0 0, .slice A r.length cp] w fun e w' => ∃ v', e = .returned (.tuple #[v', .int .i64 0]) ∧ Bq w' w.heap.size v' (frm r) ∧ Below w.heap.size w w' := by
 obtain ⟨i0, hi, hz0, hz1, hz2⟩ := info_parts Ua
 obtain ⟨n, hn⟩ : ∃ n, n = r.length := ⟨_, rfl⟩
 rw [← hn]
 have d1 : decide (8000 < (n : Int)) = false := by simp; omega
 have d2 : decide (8000 < n) = false := by simp; omega
 have nl : n < 4294967296 := by omega
 obtain ⟨k, hk⟩ : ∃ k, k = 4294967295 - n := ⟨_, rfl⟩
 have NT : Aa (Go.bits .xor .u32 IntKind.u32.max (n : Int) = (k : Int)) := ⟨by rw [hk]; exact Uw n nl⟩
 have kl : k < 4294967296 := by omega
 have wu : IntKind.u32.wrap (n : Int) = (n : Int) := by rw [IntKind.wrap_u32']; omega
 have mu : (n : Int) % 4294967296 = (n : Int) := by omega
 have s0l : Plain.add 0 (Be n) < 4294967296 := Plain.add_lt (by decide) (fun x hx => (Plain.DT _ x hx).2)
 obtain ⟨S, hS⟩ : ∃ S, S = Plain.add (Plain.add 0 (Be n)) r := ⟨_, rfl⟩
 have Sl : S < 4294967296 := by rw [hS]; exact Plain.add_lt s0l (fun x hx => (hb x hx).2)
 have hadd : Aa (∀ W, Kd.C (Kd.int .u8) W A r.length r → Calls Tryz.prog 71 #[.int .u32 (Plain.add 0 (Be n) : Nat), .slice A n cp] W fun e w' => e = .returned (.int .u32 S) ∧ Az W w') := ⟨fun W hW => by
   have := add_any A cp r (Plain.add 0 (Be n) : Nat) W hW (Pn h) (by omega) hb ⟨by omega, by omega⟩
   rwa [Int.toNat_natCast, ← hS, ← hn] at this⟩
 have hfrm : Aa ((Be n ++ le4 S) ++ r = frm r) := ⟨by rw [hS, hn]; unfold frm; rw [List.append_assoc]⟩
 replace hS := Aa.mk hS
 replace s0l := Aa.mk s0l
 replace hi := Aa.mk hi
 replace hz0 := Aa.mk hz0
 replace hz1 := Aa.mk hz1
 replace hz2 := Aa.mk hz2
 replace h := Aa.mk h
 replace hb := Aa.mk hb
 replace h1 := Aa.mk h1
 replace hl := Aa.mk hl
 replace hn := Aa.mk hn
 replace hk := Aa.mk hk
 have nt := NT.out
 have sg : IntKind.u32.signed = false := rfl
 go_enter Tryz.func32, Tryz.ntmps32
 go_wp2_with (first
   | (go_at_call_of 70 (Value.slice none 0 0); refine (E8 w w.heap.size (.slice none 0 0) [] n (World.ownsRow_nil _ _ _ _) (Nat.le_refl _) (by decide) nl).mono ?_; rintro e w1 ⟨v1, rfl, r1, F1⟩; obtain ⟨A1, c1, rfl⟩ := Bq.slice r1; replace r1 := Aa.mk r1; replace F1 := Aa.mk F1)
   | (go_at_call_of 70 (Value.int IntKind.u32 (k : Int)); refine (E8 w1 w.heap.size _ _ k r1.out F1.out.size (by simp [Plain.le4_length]) kl).mono ?_; rintro e w2 ⟨v2, rfl, r2, F2⟩; rw [show ([] ++ le4 n) ++ le4 k = Be n from by rw [hk.out]; rfl] at r2; obtain ⟨g2, c2, rfl, hg2, _, h8⟩ := Bq.at_ r2 (by rw [Plain.Cj]; decide); rw [Plain.Cj n]; replace F2 := Aa.mk (F1.out.trans F2); replace r2 : Aa (Bq w2 w.heap.size (.slice (some ⟨g2, 0, none⟩) 8 c2) (Be n)) := ⟨r2⟩; have h8z : Aa (8 ≤ c2) := ⟨h8⟩; replace hg2 := Aa.mk hg2; clear r1 F1 h8)
   | ((with_reducible refine Ac (N := 20) rfl ?_); refine Cb (N := 20) (n := 0) (C := #[]) rfl rfl (by first | (go_simp; done) | (go_simp; rfl)) ?_; intro g w3 hg bg f3; have F3 := Aa.mk (F2.out.trans (f3.out.mono F2.out.size)); have r3 : Aa (Bq w3 w.heap.size (.slice (some ⟨g2, 0, none⟩) 8 c2) (Be n)) := ⟨own_below r2.out f3.out⟩; have o3 : Aa (w3.ownsRow w.heap.size 5 1 (.slice (some ⟨g, 0, none⟩) 0 0) 0 []) := ⟨rfl, .inr ⟨g, 0, #[], rfl, Nat.le_trans F2.out.size hg.out, bg.out, Nat.le_refl _, by decide, rfl, rfl⟩⟩; have hgg : Aa (g2 ≠ g) := ⟨fun e => by have := (r2.out.lt g2 rfl).2; have := hg.out; omega⟩; have s3 := Aa.mk (own_below h.out (F2.out.trans (f3.out.mono F2.out.size))); clear f3 r2 bg)
   | (at_builtin
      refine wpList_append_lies _ rfl (.tmp 22) (.tmp 23) 39 rfl w.heap.size 5 i0 _ 1 1 Tryz.underlying39 hi.out hz0.out hz1.out hz2.out rfl (by decide) (.slice (some ⟨g, 0, none⟩) 0 0) 0 [] rfl o3.out ⟨g2, 0, none⟩ 8 c2 ((Be n).map (Value.int .u8)) rfl rfl (Bq.news r3.out) (Nz _) (by decide) (by simp only [maxLen]; omega) (by omega) F3.out.size _ rfl ?_
      intro g4 k4 w4 ho hgr hat hlt
      have r4 : Aa (Bq w4 w.heap.size (.slice (some ⟨g4, 0, none⟩) 8 k4) (Be n)) := ⟨ho⟩
      have F34 : Fr (fun k => k = g) w3 w4 := Fr.grown (Fr.refl _ w3) hgr (fun k hk => .inl (by have := Option.some.inj (hk.symm.trans rfl); exact this))
      have F4 : Aa (Below w.heap.size w w4) := ⟨F3.out.trans (F34.below (fun k hk e => by have := (o3.out.lt g rfl).1; omega) F3.out.size)⟩
      have r34 : Aa (Bq w4 w.heap.size (.slice (some ⟨g2, 0, none⟩) 8 c2) (Be n)) := ⟨AP r3.out F34 (fun k hk e => hgg.out (by rw [hk] at e; exact Option.some.inj e))⟩
      have s4 := Aa.mk (own_below h.out F4.out)
      clear ho hgr hat hlt F34 r3 o3 F3 s3)
   | (go_at_call 72; refine (WX (some ⟨g2, 0, none⟩) c2 (Be n) w4 (Vu r34.out) h8z.out (by simp [Plain.Cj]) (Plain.DT n)).mono ?_; rintro e w5 ⟨rfl, n5, rfl⟩; have F5 := Aa.mk (Ae F4.out n5); have r5 : Aa (Bq (w4.drewN n5) w.heap.size (.slice (some ⟨g4, 0, none⟩) 8 k4) (Be n)) := ⟨own_below r4.out (Ae (Below.refl _ _) n5)⟩; have s5 : Aa (Bq (w4.drewN n5) 0 (.slice A r.length cp) r) := ⟨own_below s4.out (Ae (Below.refl _ _) n5)⟩; clear r4 s4 r34 F4; generalize w4.drewN n5 = w5 at F5 r5 s5 ⊢)
   | (go_at_call 71; refine (hadd.out w5 (Vu s5.out)).mono ?_; rintro e w6 ⟨rfl, n6, rfl⟩; have F6 := Aa.mk (Ae F5.out n6); have r6 : Aa (Bq (w5.drewN n6) w.heap.size (.slice (some ⟨g4, 0, none⟩) 8 k4) (Be n)) := ⟨own_below r5.out (Ae (Below.refl _ _) n6)⟩; have s6 : Aa (Bq (w5.drewN n6) 0 (.slice A r.length cp) r) := ⟨own_below s5.out (Ae (Below.refl _ _) n6)⟩; clear r5 s5 F5; generalize w5.drewN n6 = w6 at F6 r6 s6 ⊢)
   | (go_at_call_of 70 (Value.int IntKind.u32 (S : Int)); refine (E8 w6 w.heap.size _ (Be n) S r6.out F6.out.size (by rw [Plain.Cj]; decide) Sl).mono ?_; rintro e w7 ⟨v7, rfl, r7, F7⟩; obtain ⟨g7, c7, rfl, _, _, _⟩ := Bq.at_ r7 (by rw [List.length_append, Plain.Cj]; omega); rw [show (Be n ++ le4 S).length = 12 from rfl]; have s7 := Aa.mk (own_below h.out (F6.out.trans F7)); replace F7 := Aa.mk (F6.out.trans F7); replace r7 : Aa (Bq w7 w.heap.size (.slice (some ⟨g7, 0, none⟩) 12 c7) (Be n ++ le4 S)) := ⟨r7⟩; clear r6 s6 F6)
   | (at_builtin
      obtain ⟨gr, cr, er, _, _, _⟩ := Bq.at_ (show Bq w7 0 (.slice A r.length cp) r from s7.out) h1.out
      injection er with er1 er2 er3
      subst er1 er3
      have hnn := hn.out
      refine wpList_append_lies _ rfl (.tmp 30) (.tmp 31) 39 rfl w.heap.size 5 i0 _ 1 1 Tryz.underlying39 hi.out hz0.out hz1.out hz2.out rfl (by decide) (.slice (some ⟨g7, 0, none⟩) 12 c7) 12 ((Be n ++ le4 S).map (Value.int .u8)) rfl r7.out ⟨gr, 0, none⟩ n cp (r.map (Value.int .u8)) rfl (by rw [hnn]; simp) (Bq.news s7.out) (Nz _) (by rw [hnn]; exact h1.out) (by have := hl.out; simp only [maxLen]; omega) (by have := hl.out; omega) F7.out.size _ rfl ?_
      intro g8 k8 w8 ho hgr hat hlt
      have r8 := Aa.mk ho
      have F78 : Fr (fun k => k = g7) w7 w8 := Fr.grown (Fr.refl _ w7) hgr (fun k hk => .inl (by have := Option.some.inj (hk.symm.trans rfl); exact this))
      have F8 : Aa (Below w.heap.size w w8) := ⟨F7.out.trans (F78.below (fun k hk e => by have := (r7.out.lt g7 rfl).1; omega) F7.out.size)⟩
      clear ho hgr hat hlt F78 hnn))
 go_returns
 refine ⟨_, rfl, ?_, F8.out⟩
 have := r8.out
 rw [← List.map_append, hfrm.out] at this
 rw [Bq, ← hfrm.out]
 rw [show ((Be n ++ le4 S) ++ r).length = 12 + n from by rw [List.length_append, hn.out]; rfl, hfrm.out]
 exact this
end Go.Proofs.YtchfmgbjddopoaaGreatDoor.Hand
namespace Go.Proofs.YtchfmgbjddopoaaGreatDoor.Hand
open Go.RowKit Go.Proofs.YtchfmgbjddopoaaGreatDoorW.PrintWords Go.Proofs.YtchfmgbjddopoaaGreatDoorW.PrintLast Go.Proofs.YtchfmgbjddopoaaGreatDoorW.PrintMore
attribute [local go_sem ↓] Go.wp_at_zero Go.wp_at_succ
abbrev LgC (d : Nat) (v : Value) (safe : Nat) (lives : Int) (dn : Bool) : Array Value := #[.pointer (some ⟨d, 0, none⟩), .string nmW, v, .int .i64 safe, .int .i64 lives, .bool dn]
theorem Xr (w : World) (g d safe n c : Nat) (A : Option Addr) (lives : Int) (dn : Bool) (h : Bk w g (LgC d (.slice A n c) safe lives dn) 64) :
   Calls Tryz.prog 13 #[.pointer (some ⟨g, 0, none⟩)] w fun e w' => e = .returned (.int .i64 n) ∧ w' = w := by
 have c2 : w.cell? ⟨g, 2, none⟩ = some (.slice A n c) := Bk.cell h rfl
 clear h
 go_enter Tryz.func13, Tryz.ntmps13
 go_wp2_with fail
 go_returns
 exact ⟨rfl, rfl⟩
theorem NH (w : World) (g : Nat) :
   Calls Tryz.prog 33 #[.pointer (some ⟨g, 0, none⟩), .int .i64 0] w fun e w' => e = .returned (.int .i64 0) ∧ w' = w := by
 go_enter Tryz.func33, Tryz.ntmps33
 go_wp2_with fail
 go_returns
 exact ⟨rfl, rfl⟩
theorem Pj (w : World) (g d m safe : Nat) (v : Value) (lives : Int) (h : Bk w g (LgC d v safe lives false) 64) (hd : Bk w d (DkC lives true m) 60) :
   Calls Tryz.prog 31 #[.pointer (some ⟨g, 0, none⟩)] w fun e w' => e = .returned (.bool false) ∧ Below w.heap.size w w' := by
 replace h := Aa.mk h
 replace hd := Aa.mk hd
 have q0 : w.drew.cell? ⟨g, 0, none⟩ = some (.pointer (some ⟨d, 0, none⟩)) := Bk.cell h.out rfl
 have q4 : w.drew.cell? ⟨g, 4, none⟩ = some (.int .i64 lives) := Bk.cell h.out rfl
 have q5 : w.drew.cell? ⟨g, 5, none⟩ = some (.bool false) := Bk.cell h.out rfl
 go_enter Tryz.func31, Tryz.ntmps31
 go_wp2_with fail
 refine wp_region_noPanic ?_
 go_region_held_law (fun w' => w'.cell? ⟨g, 0, none⟩ = some (.pointer (some ⟨d, 0, none⟩)) ∧ w'.cell? ⟨g, 4, none⟩ = some (.int .i64 lives) ∧ w' = w.drew)
   ((first | exact ⟨q0, q4, rfl⟩))
   ((first
     | (go_at_call 69; refine (TG w.drew d m lives true hd.out).mono ?_; rintro e w1 ⟨rfl, rfl⟩)
     | (go_at_call 23; refine (Hr w.drew d m lives true hd.out).mono ?_; rintro e w1 ⟨rfl, rfl⟩)))
 refine NoPanic.normal ?_
 go_split_ands
 go_wp2_with fail
 go_returns
 exact ⟨rfl, Ag (Below.refl _ _)⟩
theorem VA (w : World) (g d m f safe n c s : Nat) (A : Option Addr) (lives : Int) (fv : Value) (l : List Int) (h : Bk w g (LgC d (.slice A n c) safe lives false) 64) (hd : Dk1 d m f lives true fv l s w) :
   Calls Tryz.prog 10 #[.pointer (some ⟨g, 0, none⟩)] w fun e w' => e = .returned (.int .i64 0) ∧ Bk w' g (LgC d (.slice A n c) n lives false) 64 ∧ Dk1 d m f lives true fv l l.length w' ∧ Fr (fun k => k = f ∨ k = g) w w' := by
 have hgf : Aa (g ≠ f ∧ g ≠ d ∧ g ≠ m) := ⟨Dh h hd.f (by decide), Dh h hd.d (by decide), BR h hd.m⟩
 replace h := Aa.mk h
 replace hd := Aa.mk hd
 go_enter Tryz.func10, Tryz.ntmps10
 go_wp2_with (first
   | (go_at_call 31; refine (Pj w g d m safe _ lives h.out hd.out.d).mono ?_; rintro e w1 ⟨rfl, f1⟩; have h1 := Aa.mk (h.out.Ad f1); have d1 := Aa.mk (hd.out.below f1); replace f1 := Aa.mk f1; have c0 : w1.cell? ⟨g, 0, none⟩ = some (.pointer (some ⟨d, 0, none⟩)) := Bk.cell h1.out rfl; have c1 : w1.cell? ⟨g, 1, none⟩ = some (.string nmW) := Bk.cell h1.out rfl))
 refine wp_region_noPanic ?_
 go_region_held_law (fun w' => w'.cell? ⟨g, 0, none⟩ = some (.pointer (some ⟨d, 0, none⟩)) ∧ w'.cell? ⟨g, 1, none⟩ = some (.string nmW) ∧ Bk w' g (LgC d (.slice A n c) safe lives false) 64)
   ((first | exact ⟨c0, c1, h1.out⟩ | exact ⟨Bk.cell (Aa.out h2) rfl, Bk.cell (Aa.out h2) rfl, Aa.out h2⟩))
   ((go_at_call 26; refine (Oc w1.drew d m f lives fv l s (d1.out.below (Ag (Below.refl _ _)))).mono ?_; rintro e w2 ⟨rfl, d2, F2⟩; replace d2 := Aa.mk d2; have h2 : Aa (Bk w2 g (LgC d (.slice A n c) safe lives false) 64) := ⟨Ob.fr (show Ob w1.drew g _ from h1.out) F2 (fun e => hgf.out.1 e)⟩; have F2' : Aa (Fr (fun k => k = f ∨ k = g) w w2) := ⟨Fr.after (Fr.of_below (Ag f1.out)) F2 (fun k hk => .inl (.inl hk))⟩; clear F2))
 refine NoPanic.normal ?_
 go_split_ands
 clear c0 c1 h1 d1
 have c2 : w2.cell? ⟨g, 2, none⟩ = some (.slice A n c) := Bk.cell h2.out rfl
 have z3 := Bk.free h2.out 3
 have c3 : w2.cell? ⟨g, 3, none⟩ = some (.int .i64 safe) := Bk.cell h2.out rfl
 go_wp2_with (first
   | (go_at_call 33; refine (NH w2 g).mono ?_; rintro e w3 ⟨rfl, rfl⟩))
 go_returns
 have hs1 : Fr (fun k => k = g) w3 (w3.setCell ⟨g, 3, none⟩ (.int .i64 n)) := Fr.set (T := fun k => k = g) (Fr.refl _ w3) g 3 _ (.inl rfl)
 refine ⟨rfl, Bk.set (C := LgC d (.slice A n c) safe lives false) h2.out 3 _, ⟨d2.out.d.far hgf.out.2.1.symm _ _, d2.out.m.far hgf.out.2.2.symm _ _, d2.out.f.far hgf.out.1.symm _ _, AP d2.out.b hs1 (fun k hk => hk ▸ AC d2.out.b (show Bk w3 g (LgC d (.slice A n c) safe lives false) 64 from h2.out) (by decide))⟩, Fr.after F2'.out hs1 (fun k hk => .inl (.inr hk))⟩
structure Rows (w : World) (B : Nat) (v : Value) (vs : List Value) (rs : List (List Int)) : Prop where
 own : w.ownsRow B 39 1 v rs.length vs
 each : ∀ i, i < rs.length → Bq w B (vs.getD i (.slice none 0 0)) (rs.getD i [])
theorem YU (w : World) (g d m safe n c i : Nat) (A : Option Addr) (lives : Int) (vs : List Value) (rs : List (List Int)) (h : Bk w g (LgC d (.slice A n c) safe lives false) 64) (hd : Bk w d (DkC lives true m) 60) (hr : Rows w 0 (.slice A n c) vs rs) (hi : i < rs.length) (hl : (rs.getD i []).length ≤ 140737488355328) :
   Calls Tryz.prog 15 #[.pointer (some ⟨g, 0, none⟩), .int .i64 i] w fun e w' => ∃ v', e = .returned (.tuple #[v', .int .i64 0]) ∧ Bq w' w.heap.size v' (rs.getD i []) ∧ Below w.heap.size w w' := by
 have hn : n = rs.length := by
   rcases hr.own.2 with ⟨e, h0⟩ | ⟨g', cap, cur, e, _⟩
   · injection e with e1 e2 e3; omega
   · injection e with e1 e2 e3
 obtain ⟨g', cap, cur, e, hb0, hh, hc, hm, hs, ht⟩ : ∃ g' cap cur, (Value.slice A n c) = .slice (some ⟨g', 0, none⟩) rs.length cap ∧ 0 ≤ g' ∧ w.heap[g']? = some (.cells cur 39 (0, 0)) ∧ rs.length ≤ cap ∧ cap ≤ maxLen ∧ cur.size = cap * 1 ∧ cur.toList.take (rs.length * 1) = vs := by
   rcases hr.own.2 with ⟨e, h0⟩ | h
   · omega
   · exact h
 injection e with e1 e2 e3
 subst e1 e2 e3
 have hv := hr.each i hi
 obtain ⟨A1, c1, ev⟩ := Bq.slice hv
 rw [ev] at hv
 have cg : cur[i]? = some (.slice A1 (rs.getD i []).length c1) := by
   have h1 : i < vs.length := by rw [hr.own.1]; omega
   have h2 : vs[i]? = cur.toList[i]? := by rw [← ht, List.getElem?_take, if_pos (by omega)]
   rw [← Array.getElem?_toList, ← h2, ← ev, List.getD_eq_getElem?_getD, List.getElem?_eq_getElem h1]
   rfl
 have hgv := Aa.mk hv
 have HH : Aa (Bk w g' cur 39) := ⟨hh⟩
 replace h := Aa.mk h
 replace hd := Aa.mk hd
 obtain ⟨r, hr0⟩ : ∃ r, r = rs.getD i [] := ⟨_, rfl⟩
 rw [← hr0] at cg hgv hl ⊢
 have hlz := Aa.mk hl
 obtain ⟨N, hN⟩ : ∃ N, N = rs.length := ⟨_, rfl⟩
 rw [← hN] at h hi
 have CG := Aa.mk cg
 have d0 : decide ((i : Int) < 0) = false := by simp
 have d1 : decide ((N : Int) ≤ (i : Int)) = false := by simp; omega
 have d2 : decide (N ≤ i) = false := by simp; omega
 have d3 : (N ≤ i) = False := by simp; omega
 clear hr hv ev hs ht hm hc hb0 hh cg hr0 hl hN
 go_enter Tryz.func15, Tryz.ntmps15
 go_wp2_with (first
   | (go_at_call 31; refine (Pj w g d m safe _ lives h.out hd.out).mono ?_; rintro e w1 ⟨rfl, f1⟩; have b1 := Aa.mk (h.out.Ad f1); have c2 : w1.cell? ⟨g, 2, none⟩ = some (.slice (some ⟨g', 0, none⟩) N c) := Bk.cell b1.out rfl; have ci : w1.cell? ⟨g', i, none⟩ = some (.slice A1 r.length c1) := Bk.cell (HH.out.Ad f1) CG.out; have r1 := Aa.mk (own_below hgv.out f1); replace f1 := Aa.mk f1)
   | (go_at_call 35; refine (Ef w1 0 _ r r1.out hlz.out).mono ?_; rintro e w2 ⟨v', rfl, r2, f2⟩; replace r2 := Aa.mk r2; replace f2 := Aa.mk f2))
 go_returns
 exact ⟨v', rfl, AV r2.out f1.out.size, f1.out.trans (f2.out.mono f1.out.size)⟩
end Go.Proofs.YtchfmgbjddopoaaGreatDoor.Hand
