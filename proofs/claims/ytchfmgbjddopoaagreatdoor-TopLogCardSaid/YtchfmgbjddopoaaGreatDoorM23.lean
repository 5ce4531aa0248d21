import Derived.Test.YtchfmgbjddopoaaGreatDoorM19
import Derived.Test.YtchfmgbjddopoaaGreatDoorM21
import Derived.Test.YtchfmgbjddopoaaGreatDoorM22
set_option linter.unusedVariables false
set_option linter.unusedSimpArgs false
set_option maxHeartbeats 6400000
set_option maxRecDepth 100000
namespace Go.Proofs.YtchfmgbjddopoaaGreatDoor.Hand
open Go.RowKit Go.Proofs.YtchfmgbjddopoaaGreatDoorW.PrintWords Go.Proofs.YtchfmgbjddopoaaGreatDoorW.PrintLast Go.Proofs.YtchfmgbjddopoaaGreatDoorW.PrintMore
attribute [local go_sem ↓] Go.wp_at_zero Go.wp_at_succ
open Plain (Ky Wr Rc Ver Ent St Bytes Chs chainOf Uniq sortK Inv)
theorem Vm (F1 F2 : Nat → Prop) (w : World) (sp1 mc1 sp2 mc2 : Nat) (cs1 cs2 : Chs) (cb1 cb2 : CB) (h1 : AA F1 w sp1 mc1 cs1 cb1) (h2 : AA F2 w sp2 mc2 cs2 cb2) (hp : cs1.Perm cs2) (hu : Uniq cs1) (hn : cs1.length ≤ 100000) (hc : ∀ q ∈ cs1, q.2.length ≤ 1000) :
   Calls Tryz.prog 19 #[.pointer (some ⟨sp1, 0, none⟩), .pointer (some ⟨sp2, 0, none⟩)] w fun e w' => e = .returned (.bool true) ∧ Below w.heap.size w w' := by
 obtain ⟨K, hK⟩ : ∃ K, K = sortK (cs1.map (·.1)) := ⟨_, rfl⟩
 have hK2 : K = sortK (cs2.map (·.1)) := by rw [hK]; exact Plain.D7 (hp.map _)
 have hKn : K.length ≤ 100000 := by rw [hK, Ci, List.length_map]; exact hn
 have hch : ∀ k, chainOf k cs2 = chainOf k cs1 := fun k => by unfold chainOf; rw [Plain.U9 hu hp]
 have hA1 : Aa (∀ W, AA F1 W sp1 mc1 cs1 cb1 → Calls Tryz.prog 54 #[.pointer (some ⟨sp1, 0, none⟩)] W fun e w' => ∃ A c, e = .returned (.slice A K.length c) ∧ DC w' W.heap.size (.slice A K.length c) K ∧ Below W.heap.size W w') := ⟨fun W hW => by
   refine (Hl F1 W sp1 mc1 cs1 cb1 hW hn).mono ?_
   rintro e w' ⟨v, rfl, ho, _, f⟩
   rw [← hK] at ho
   obtain ⟨A, c, rfl⟩ := ho.row.slice
   exact ⟨A, c, rfl, ho, f⟩⟩
 have hA2 : Aa (∀ W, AA F2 W sp2 mc2 cs2 cb2 → Calls Tryz.prog 54 #[.pointer (some ⟨sp2, 0, none⟩)] W fun e w' => ∃ A c, e = .returned (.slice A K.length c) ∧ DC w' W.heap.size (.slice A K.length c) K ∧ Below W.heap.size W w') := ⟨fun W hW => by
   refine (Hl F2 W sp2 mc2 cs2 cb2 hW (by rw [← hp.length_eq]; exact hn)).mono ?_
   rintro e w' ⟨v, rfl, ho, _, f⟩
   rw [← hK2] at ho
   obtain ⟨A, c, rfl⟩ := ho.row.slice
   exact ⟨A, c, rfl, ho, f⟩⟩
 have hE : Aa (∀ W B1 B2 v1 v2, DC W B1 v1 K → DC W B2 v2 K → Calls Tryz.prog 53 #[v1, v2] W fun e w' => e = .returned (.bool true) ∧ Below W.heap.size W w') := ⟨fun W B1 B2 v1 v2 o1 o2 => (Xac W v1 v2 K K o1.row o2.row (by omega) (by omega)).mono (by
   rintro e w' ⟨rfl, q, rfl⟩
   exact ⟨by simp, Ae (Below.refl _ _) q⟩)⟩
 have hC1 : Aa (∀ W k, AA F1 W sp1 mc1 cs1 cb1 → Calls Tryz.prog 56 #[.pointer (some ⟨sp1, 0, none⟩), .agg (AZ k).toArray] W fun e w' => ∃ v', e = .returned v' ∧ w'.ownsRow W.heap.size 116 4 v' (chainOf k cs1).length ((chainOf k cs1).flatMap En) ∧ Below W.heap.size W w') := ⟨fun W k hW => EP F1 W sp1 mc1 cs1 cb1 k hW hc⟩
 have hC2 : Aa (∀ W k, AA F2 W sp2 mc2 cs2 cb2 → Calls Tryz.prog 56 #[.pointer (some ⟨sp2, 0, none⟩), .agg (AZ k).toArray] W fun e w' => ∃ v', e = .returned v' ∧ w'.ownsRow W.heap.size 116 4 v' (chainOf k cs1).length ((chainOf k cs1).flatMap En) ∧ Below W.heap.size W w') := ⟨fun W k hW => by rw [← hch k]; exact EP F2 W sp2 mc2 cs2 cb2 k hW fun q hq => hc q (hp.mem_iff.2 hq)⟩
 have hln : ∀ k, (chainOf k cs1).length ≤ 1000 := fun k => by
   unfold chainOf
   cases h : Plain.look k cs1 with
   | none => simp
   | some vs => exact hc _ (Plain.Bv h)
 have hV : Aa (∀ W k B1 B2 v1 v2, W.ownsRow B1 116 4 v1 (chainOf k cs1).length ((chainOf k cs1).flatMap En) → W.ownsRow B2 116 4 v2 (chainOf k cs1).length ((chainOf k cs1).flatMap En) → Calls Tryz.prog 55 #[v1, v2] W fun e w' => e = .returned (.bool true) ∧ Below W.heap.size W w') := ⟨fun W k B1 B2 v1 v2 o1 o2 => (Xab W v1 v2 _ _ (RowK.own BZ o1 rfl) (RowK.own BZ o2 rfl) (by have := hln k; omega) (by have := hln k; omega)).mono (by
   rintro e w' ⟨rfl, q, rfl⟩
   exact ⟨by simp, Ae (Below.refl _ _) q⟩)⟩
 obtain ⟨N, hN⟩ : ∃ N, N = K.length := ⟨_, rfl⟩
 rw [← hN] at hA1 hA2 hKn
 replace hN := Aa.mk hN
 replace h1 := Aa.mk h1
 replace h2 := Aa.mk h2
 clear hp hu hn hc hK hK2 hch hln
 go_enter Tryz.func19, Tryz.ntmps19
 go_wp2_with (first
   | (go_at_call_of 54 (Value.pointer (some ⟨sp2, 0, none⟩))
      refine (hA2.out _ S12.out).mono ?_
      rintro e w2 ⟨A2, c2, rfl, o2, f2⟩
      have F2 : Aa (Below w.heap.size w w2) := ⟨Cf f2 F1'.out⟩
      have hE2 := Aa.mk (hE.out w2 _ _ _ _ (own_below o1.out f2) o2)
      clear f2)
   | (go_at_call 53
      refine hE2.out.mono ?_
      rintro e w3 ⟨rfl, f3⟩
      have F3 : Aa (Below w.heap.size w w3) := ⟨Cf f3 F2.out⟩
      have S31 := Aa.mk (h1.out.below F3.out)
      clear f3)
   | (go_at_call 54
      refine (hA1.out _ S31.out).mono ?_
      rintro e w4 ⟨A4, c4, rfl, o4, f4⟩
      have F4 : Aa (Below w.heap.size w w4) := ⟨Cf f4 F3.out⟩
      replace o4 := Aa.mk o4
      clear f4)
   | (go_at_call 54
      refine (hA1.out _ h1.out).mono ?_
      rintro e w1 ⟨A1, c1, rfl, o1, f1⟩
      have F1' : Aa (Below w.heap.size w w1) := ⟨f1⟩
      have S12 := Aa.mk (h2.out.below f1)
      replace o1 := Aa.mk o1
      clear f1))
 go_loopw [16] (fun j wq => ∃ i : Nat, i ≤ N ∧ j = .int .i64 i ∧ Aa (Below w4.heap.size w4 wq)) (fun j _ => N - (intOf j).toNat)
 case atStart => exact ⟨0, Nat.zero_le _, rfl, ⟨Below.refl _ _⟩⟩
 case round =>
   obtain ⟨i, hi, rfl, hB⟩ := hrel
   have FB : Aa (Below w.heap.size w wr) := ⟨F4.out.trans (hB.out.mono F4.out.size)⟩
   by_cases hlt : i < N
   case neg =>
     have d1 : decide ((i : Int) < (N : Int)) = false := by simp; omega
     have d2 : decide (i < N) = false := by simp; omega
     clear hi hlt
     go_wp2_with fail
     go_returns
     exact ⟨rfl, FB.out⟩
   obtain ⟨b, o, hA, hbn, hcc, hbs, hr⟩ := (DC.row (own_below o4.out hB.out : DC wr w3.heap.size _ K)).at_ (by rw [← hN.out]; omega)
   have hiK : i < K.length := by rw [← hN.out]; exact hlt
   replace hr := hr i hiK
   generalize K[i]! = x at hr
   subst hA
   have S1 := Aa.mk (h1.out.below FB.out)
   have S2 := Aa.mk (h2.out.below FB.out)
   have hD1 := Aa.mk fun W hW => hC1.out W x hW
   have hD2 := Aa.mk fun W hW => hC2.out W x hW
   have hVx := Aa.mk fun W B1 B2 v1 v2 p q => hV.out W x B1 B2 v1 v2 p q
   obtain ⟨x0, x1, x2, x3, x4, x5, x6, x7, x8, x9, x10, x11, x12, x13, x14, x15, hKC⟩ := QM (Ai x)
   have hone : (#[x0, x1, x2, x3, x4, x5, x6, x7, x8, x9, x10, x11, x12, x13, x14, x15] : Array Value).all (·.oneCell') = true := by
     have h1 : ((AZ x).toArray).all (·.oneCell') = true := by rw [Array.all_eq_true_iff_forall_mem]; intro z hz; exact Di x z (by simpa using hz)
     rw [hKC] at h1
     exact h1
   rw [hKC] at hr
   simp only [hKC] at hD1 hD2
   replace hr := Aa.mk hr
   replace hone := Aa.mk hone
   have hib : i < 1000000 := by omega
   have d1 : decide ((i : Int) < (N : Int)) = true := by simp; omega
   have d2 : decide (i < N) = true := by simp; omega
   clear hbn hiK hbs hKC
   go_upto_region 6 with (first
     | ((with_reducible refine Ac (N := 19) rfl ?_); (refine BM (N := 19) (cs := [x0, x1, x2, x3, x4, x5, x6, x7, x8, x9, x10, x11, x12, x13, x14, x15]) rfl rfl rfl rfl Tryz.underlying103 rfl (by exact AB) hr.out ?_))
     | ((with_reducible refine Ac (N := 6) rfl ?_); refine Aj (N := 6) (C := Z16) rfl rfl (by first | (go_simp; done) | (go_simp; rfl)) ?_; intro g6 w5 h5 b5 f5)
     | ((with_reducible refine Af (t := 103) (p := 6) (v := .tmp 19) rfl ?_); (refine Ak rfl (ty := 103) (x := .tmp 6) (y := .tmp 19) (cells := #[x0, x1, x2, x3, x4, x5, x6, x7, x8, x9, x10, x11, x12, x13, x14, x15]) rfl rfl rfl b5.out (by exact AB) hone.out (Nat.le_refl 16) #[x0, x1, x2, x3, x4, x5, x6, x7, x8, x9, x10, x11, x12, x13, x14, x15] (Aq (C := Z16) (D := #[x0, x1, x2, x3, x4, x5, x6, x7, x8, x9, x10, x11, x12, x13, x14, x15]) rfl) ?_); intro w6 b6 f6))
   have G6 : Aa (Below wr.heap.size wr w6) := ⟨((Fr.of_below (T := fun k => k = g6) f5.out).trans f6.out).below (fun k hk q => by have := h5.out; omega) (Nat.le_refl _)⟩
   have S61 := Aa.mk ((S1.out.below G6.out).below (Ag (Below.refl _ _)))
   have S62 := Aa.mk (S2.out.below G6.out)
   have p0 : w6.drew.cell? ⟨g6, 0, none⟩ = some x0 := Bk.cell (Ob.drew b6.out) (j := 0) rfl
   have p1 : w6.drew.cell? ⟨g6, 1, none⟩ = some x1 := Bk.cell (Ob.drew b6.out) (j := 1) rfl
   have p2 : w6.drew.cell? ⟨g6, 2, none⟩ = some x2 := Bk.cell (Ob.drew b6.out) (j := 2) rfl
   have p3 : w6.drew.cell? ⟨g6, 3, none⟩ = some x3 := Bk.cell (Ob.drew b6.out) (j := 3) rfl
   have p4 : w6.drew.cell? ⟨g6, 4, none⟩ = some x4 := Bk.cell (Ob.drew b6.out) (j := 4) rfl
   have p5 : w6.drew.cell? ⟨g6, 5, none⟩ = some x5 := Bk.cell (Ob.drew b6.out) (j := 5) rfl
   have p6 : w6.drew.cell? ⟨g6, 6, none⟩ = some x6 := Bk.cell (Ob.drew b6.out) (j := 6) rfl
   have p7 : w6.drew.cell? ⟨g6, 7, none⟩ = some x7 := Bk.cell (Ob.drew b6.out) (j := 7) rfl
   have p8 : w6.drew.cell? ⟨g6, 8, none⟩ = some x8 := Bk.cell (Ob.drew b6.out) (j := 8) rfl
   have p9 : w6.drew.cell? ⟨g6, 9, none⟩ = some x9 := Bk.cell (Ob.drew b6.out) (j := 9) rfl
   have p10 : w6.drew.cell? ⟨g6, 10, none⟩ = some x10 := Bk.cell (Ob.drew b6.out) (j := 10) rfl
   have p11 : w6.drew.cell? ⟨g6, 11, none⟩ = some x11 := Bk.cell (Ob.drew b6.out) (j := 11) rfl
   have p12 : w6.drew.cell? ⟨g6, 12, none⟩ = some x12 := Bk.cell (Ob.drew b6.out) (j := 12) rfl
   have p13 : w6.drew.cell? ⟨g6, 13, none⟩ = some x13 := Bk.cell (Ob.drew b6.out) (j := 13) rfl
   have p14 : w6.drew.cell? ⟨g6, 14, none⟩ = some x14 := Bk.cell (Ob.drew b6.out) (j := 14) rfl
   have p15 : w6.drew.cell? ⟨g6, 15, none⟩ = some x15 := Bk.cell (Ob.drew b6.out) (j := 15) rfl
   go_region_with (first
     | (go_at_call 56
        refine (hD2.out _ (S62.out.below (Aa.out G7))).mono ?_
        rintro r w8 ⟨v8, rfl, o8, f8⟩
        have G8 : Aa (Below w6.heap.size w6 w8) := ⟨Cf f8 (Aa.out G7)⟩
        have hV8 := Aa.mk (hVx.out _ _ _ _ _ (own_below (Aa.out o7) f8) o8)
        clear f8)
     | (go_at_call 56
        refine (hD1.out _ S61.out).mono ?_
        rintro r w7 ⟨v7, rfl, o7, f7⟩
        have G7 : Aa (Below w6.heap.size w6 w7) := ⟨Cf f7 (Ag (Below.refl _ _))⟩
        have b67 := Aa.mk (Ob.Ad b6.out G7.out)
        have q0 : w7.cell? ⟨g6, 0, none⟩ = some x0 := Bk.cell b67.out (j := 0) rfl
        have q1 : w7.cell? ⟨g6, 1, none⟩ = some x1 := Bk.cell b67.out (j := 1) rfl
        have q2 : w7.cell? ⟨g6, 2, none⟩ = some x2 := Bk.cell b67.out (j := 2) rfl
        have q3 : w7.cell? ⟨g6, 3, none⟩ = some x3 := Bk.cell b67.out (j := 3) rfl
        have q4 : w7.cell? ⟨g6, 4, none⟩ = some x4 := Bk.cell b67.out (j := 4) rfl
        have q5 : w7.cell? ⟨g6, 5, none⟩ = some x5 := Bk.cell b67.out (j := 5) rfl
        have q6 : w7.cell? ⟨g6, 6, none⟩ = some x6 := Bk.cell b67.out (j := 6) rfl
        have q7 : w7.cell? ⟨g6, 7, none⟩ = some x7 := Bk.cell b67.out (j := 7) rfl
        have q8 : w7.cell? ⟨g6, 8, none⟩ = some x8 := Bk.cell b67.out (j := 8) rfl
        have q9 : w7.cell? ⟨g6, 9, none⟩ = some x9 := Bk.cell b67.out (j := 9) rfl
        have q10 : w7.cell? ⟨g6, 10, none⟩ = some x10 := Bk.cell b67.out (j := 10) rfl
        have q11 : w7.cell? ⟨g6, 11, none⟩ = some x11 := Bk.cell b67.out (j := 11) rfl
        have q12 : w7.cell? ⟨g6, 12, none⟩ = some x12 := Bk.cell b67.out (j := 12) rfl
        have q13 : w7.cell? ⟨g6, 13, none⟩ = some x13 := Bk.cell b67.out (j := 13) rfl
        have q14 : w7.cell? ⟨g6, 14, none⟩ = some x14 := Bk.cell b67.out (j := 14) rfl
        have q15 : w7.cell? ⟨g6, 15, none⟩ = some x15 := Bk.cell b67.out (j := 15) rfl
        replace o7 := Aa.mk o7
        clear f7)
     | (go_at_call 55
        refine (Aa.out hV8).mono ?_
        rintro r w9 ⟨rfl, f9⟩
        have G9 : Aa (Below w6.heap.size w6 w9) := ⟨Cf f9 (Aa.out G8)⟩
        clear f9))
   all_goals
     clear p0 q0 p1 q1 p2 q2 p3 q3 p4 q4 p5 q5 p6 q6 p7 q7 p8 q8 p9 q9 p10 q10 p11 q11 p12 q12 p13 q13 p14 q14 p15 q15
     go_wp2_with fail
     go_roundw
     case rel => exact ⟨i + 1, by omega, by rw [Int.natCast_add]; rfl, ⟨Cf G9.out (Cf G6.out hB.out)⟩⟩
     case measure =>
       simp only [intOf]
       omega
theorem Kw (F : Nat → Prop) (w : World) (p : Nat) (ix : CZ) (s : St) (cb : CB) (ev : Int → Value) (N : Nat) (h : Aw F w p ix s cb ev) (hi : Inv s N) :
   Calls Tryz.prog 20 #[.pointer (some ⟨p, 0, none⟩)] w fun e w' => ∃ sp' mc' cs' cb', e = .returned (.pointer (some ⟨sp', 0, none⟩)) ∧ AA (fun k => w.heap.size ≤ k ∧ k < w'.heap.size) w' sp' mc' cs' cb' ∧ cs'.Perm s.chains ∧ Below w.heap.size w w' := by
 have c0 : w.cell? ⟨p, 0, none⟩ = some (.pointer (some ⟨ix.sp, 0, none⟩)) := Bk.cell h.bp rfl
 have hC := Si F w ix.sp ix.mc s.chains cb h.st hi.cu hi.cs
 clear h hi
 go_enter Tryz.func20, Tryz.ntmps20
 go_wp2_with (go_at_call 57; refine hC.mono ?_; clear hC; rintro e w' ⟨sp', mc', cs', cb', rfl, h⟩)
 go_returns
 exact ⟨sp', mc', cs', cb', rfl, h⟩
end Go.Proofs.YtchfmgbjddopoaaGreatDoor.Hand
namespace Go.Proofs.YtchfmgbjddopoaaGreatDoor.Hand
open Go.RowKit Go.Proofs.YtchfmgbjddopoaaGreatDoorW.PrintWords Go.Proofs.YtchfmgbjddopoaaGreatDoorW.PrintLast Go.Proofs.YtchfmgbjddopoaaGreatDoorW.PrintMore
attribute [local go_sem ↓] Go.wp_at_zero Go.wp_at_succ
open Plain (Ky Wr Rc Ver Ent St Bytes AX Inv)
def J3 (s : St) : Prop := ∀ q ∈ s.tab, 0 < q.2.ws.length ∧ q.2.ws.length ≤ 1000
theorem H6 {s : St} {N : Nat} (h : Inv s N) : J3 s := fun q hq => by
 have := (Plain.BL (h.te q hq).2.good).2.2.1
 omega
theorem D9 (F : Nat → Prop) (w : World) (p : Nat) (ix : CZ) (s : St) (cb : CB) (ev : Int → Value) (id : Int) (h : Aw F w p ix s cb ev) (hs : J3 s) :
   Calls Tryz.prog 85 #[.pointer (some ⟨p, 0, none⟩), .int .i64 id] w fun e w' => e = .returned (.int .i64 (AX s id)) ∧ Below w.heap.size w w' := by
 have c2 : w.cell? ⟨p, 2, none⟩ = some (.map (some ix.mo)) := Bk.cell h.bp rfl
 have c1 : w.cell? ⟨p, 1, none⟩ = some (.pointer (some ⟨ix.tp, 0, none⟩)) := Bk.cell h.bp rfl
 have hl := Va id s.over
 cases ho : Plain.look id s.over with
 | some x =>
   rw [ho] at hl
   have hlk : (Instr.lookup 90 (.map (some ix.mo)) (.int .i64 id) true).run Tryz.prog w = .ok (.tuple #[.int .i64 x, .bool true]) w := h.ov.EG Nv Tryz.underlying90 hl true
   have hst : AX s id = x := by unfold AX; rw [ho]
   rw [hst]
   clear hst ho hl h hs
   go_enter Tryz.func85, Tryz.ntmps85
   go_wp2_with fail
   go_returns
   exact ⟨rfl, Below.refl _ _⟩
 | none =>
   rw [ho] at hl
   have hlk : (Instr.lookup 90 (.map (some ix.mo)) (.int .i64 id) true).run Tryz.prog w = .ok (.tuple #[.int .i64 0, .bool false]) w := h.ov.BF Nv Tryz.underlying90 hl zero3 true
   cases ht : Plain.look id s.tab with
   | none =>
     have hst : AX s id = 0 := by unfold AX; rw [ho, ht]
     rw [hst]
     have hH := VF F w ix.tp ix.ml ix.mh s.tab s.held ev id h.tb ht
     clear hst ho hl h hs ht
     go_enter Tryz.func85, Tryz.ntmps85
     go_wp2_with (first
       | (go_at_call 126; refine hH.mono ?_; clear hH; rintro e w1 ⟨rfl, f1⟩; replace f1 := Aa.mk f1)
       | ((with_reducible refine Ac (N := 7) rfl ?_); refine Aj (N := 7) (C := E6 0 0 0 0 0 (.slice none 0 0)) rfl rfl (by first | (go_simp; done) | (go_simp; rfl)) ?_; intro g7 w2 h2 b2 f2)
       | ((with_reducible refine Af (t := 72) (p := 7) (v := .tmp 27) rfl ?_); (refine Ak rfl (ty := 72) (x := .tmp 7) (y := .tmp 27) (cells := E6 0 0 0 0 0 (.slice none 0 0)) rfl rfl rfl b2.out CO (by kernel_rfl) (Nat.le_refl 6) (E6 0 0 0 0 0 (.slice none 0 0)) (Aq (C := E6 0 0 0 0 0 (.slice none 0 0)) rfl) ?_); intro w3 b23 f3))
     go_returns
     exact ⟨rfl, (Fr.trans (T := fun k => k = g7) ((Fr.of_below f1.out).trans (Fr.of_below f2.out)) f3.out).below (fun k hk e => by have := h2.out; have := f1.out.size; omega) (Nat.le_refl _)⟩
   | some e =>
     have hst : AX s id = 1 := by unfold AX; rw [ho, ht]
     rw [hst]
     have hw := hs _ (Plain.Bv ht)
     have hH : Calls Tryz.prog 126 #[.pointer (some ⟨ix.tp, 0, none⟩), .int .i64 id] w fun x w' => ∃ A n c, x = .returned (.tuple #[.agg (E6 e.id e.t0 e.n0 e.t1 e.n1 (.slice A n c)), .bool true]) ∧ Below w.heap.size w w' := (QS F w ix.tp ix.ml ix.mh s.tab s.held ev id e h.tb ht hw.1 hw.2).mono (by
       rintro x w' ⟨v', rfl, o, f⟩
       obtain ⟨A', c', rfl⟩ := o.row.slice
       exact ⟨A', _, c', rfl, f⟩)
     clear hst ho hl h hs ht hw
     go_enter Tryz.func85, Tryz.ntmps85
     go_wp2_with (first
       | (go_at_call 126; refine hH.mono ?_; clear hH; rintro x w1 ⟨A, n, c, rfl, f1⟩; replace f1 := Aa.mk f1)
       | ((with_reducible refine Ac (N := 7) rfl ?_); refine Aj (N := 7) (C := E6 0 0 0 0 0 (.slice none 0 0)) rfl rfl (by first | (go_simp; done) | (go_simp; rfl)) ?_; intro g7 w2 h2 b2 f2)
       | ((with_reducible refine Af (t := 72) (p := 7) (v := .tmp 27) rfl ?_); (refine Ak rfl (ty := 72) (x := .tmp 7) (y := .tmp 27) (cells := E6 e.id e.t0 e.n0 e.t1 e.n1 (.slice A n c)) rfl rfl rfl b2.out CO (by kernel_rfl) (Nat.le_refl 6) (E6 e.id e.t0 e.n0 e.t1 e.n1 (.slice A n c)) (Aq (C := E6 0 0 0 0 0 (.slice none 0 0)) rfl) ?_); intro w3 b23 f3))
     go_returns
     exact ⟨rfl, (Fr.trans (T := fun k => k = g7) ((Fr.of_below f1.out).trans (Fr.of_below f2.out)) f3.out).below (fun k hk e => by have := h2.out; have := f1.out.size; omega) (Nat.le_refl _)⟩
end Go.Proofs.YtchfmgbjddopoaaGreatDoor.Hand
namespace Go.Proofs.YtchfmgbjddopoaaGreatDoor.Hand
open Go.RowKit Go.Proofs.YtchfmgbjddopoaaGreatDoorW.PrintWords Go.Proofs.YtchfmgbjddopoaaGreatDoorW.PrintLast Go.Proofs.YtchfmgbjddopoaaGreatDoorW.PrintMore
attribute [local go_sem ↓] Go.wp_at_zero Go.wp_at_succ
open Plain (Ky Wr Rc Ver Ent St Bytes AX Inv Gj Pe DX CW FQ FM)
section
variable {F T : Nat → Prop} {w w' : World} {p : Nat} {ix : CZ} {s : St} {cb : CB} {ev : Int → Value}
theorem Rj {e size n base : Nat} {v : Value} {xs : List Value} {m c : Nat} {es : Array MapEntry} (h : w.ownsRow base e size v n xs) (hm : Mp w m es c) : v.ownBlock ≠ some m := fun hk => by
 obtain ⟨C, hC⟩ := DV h hk
 exact BR hC hm rfl
theorem AA.frM {sp mc : Nat} {cs : Plain.Chs} (h : AA F w sp mc cs cb) (f : Fr T w w') (hT : ∀ k, T k → k ≠ mc ∧ ∃ es c, Mp w k es c) : AA F w' sp mc cs cb :=
 ⟨Ob.fr h.s f fun e => (hT _ e).2.elim fun es hc => hc.elim fun c hm => BR h.s hm rfl, h.m.fr f fun e => (hT _ e).1 rfl, fun q hq => (h.c q hq).fr f (fun e => (hT _ e).2.elim fun es hc => hc.elim fun c hm => BR (h.c q hq).c hm rfl) fun k hk e => (hT k hk).2.elim fun es hc => hc.elim fun c hm => Rj (h.c q hq).v hm e, h.ne, h.fs, h.fm, h.fc, h.d⟩
theorem TabAt.frM {tp ml mh : Nat} {tab : List (Int × Ent)} {held : List (Ky × Int)} (h : TabAt F w tp ml mh tab held ev) (f : Fr T w w') (hT : ∀ k, T k → k ≠ ml ∧ k ≠ mh ∧ ∃ es c, Mp w k es c) : TabAt F w' tp ml mh tab held ev :=
 ⟨Ob.fr h.t f fun e => (hT _ e).2.2.elim fun es hc => hc.elim fun c hm => BR h.t hm rfl, h.l.fr f fun e => (hT _ e).1 rfl, h.h.fr f fun e => (hT _ e).2.1 rfl, fun q hq => AP (h.e q hq) f fun k hk e => (hT k hk).2.2.elim fun es hc => hc.elim fun c hm => Rj (h.e q hq) hm e, h.ne, h.ft, h.fl, h.fh, h.fe⟩
theorem DD.mp {K : Type} {m : Nat} {kv : K → Value} {L : List (K × Value)} (h : DD w m kv L) : ∃ es c, Mp w m es c := by
 obtain ⟨es, c, h, _⟩ := h
 exact ⟨es, c, h⟩
theorem Aw.mono {G : Nat → Prop} (h : Aw F w p ix s cb ev) (hG : ∀ k, F k → G k) (few : ∀ k, G k → k < w.heap.size) : Aw G w p ix s cb ev :=
 ⟨h.bp, h.st.mono hG, h.tb.mono hG, h.ov, hG _ h.fp, hG _ h.fo, h.d, few⟩
theorem Aw.over {o : Obj} {id x : Int} (h : Aw F w p ix s cb ev) (hu : DD (Cc w ix.mo o) ix.mo Iq (CW id (.int .i64 x) (QK s.over))) : Aw F (Cc w ix.mo o) p ix { s with over := CW id x s.over } cb ev := by
 have P : Fr (fun k => k = ix.mo) w (Cc w ix.mo o) := Fr.put (Fr.refl _ w) ix.mo o (.inl rfl)
 have hm := h.ov.mp
 refine ⟨Ob.fr h.bp P (h.ov.ne h.bp), h.st.frM P fun k hk => ⟨by rw [hk]; exact h.d.1, hk ▸ hm⟩, h.tb.frM P fun k hk => ⟨by rw [hk]; exact h.d.2.1, by rw [hk]; exact h.d.2.2.1, hk ▸ hm⟩, ?_, h.fp, h.fo, h.d, fun k hk => Nat.lt_of_lt_of_le (h.few k hk) P.size⟩
 have := LM (fun x : Int => Value.int .i64 x) id x s.over
 unfold QK at hu ⊢
 rw [this]
 exact hu
end
theorem Kz (F : Nat → Prop) (w : World) (p : Nat) (ix : CZ) (s : St) (cb : CB) (ev : Int → Value) (id : Int) (e : Ent) (h : Aw F w p ix s cb ev) (hk : Plain.look id s.tab = some e) (hn : e.ws.length ≤ 16) :
   Calls Tryz.prog 86 #[.pointer (some ⟨ix.tp, 0, none⟩), .int .i64 id] w fun x w' => x = .returned (.tuple #[.agg (IG e (ev id)), .bool true]) ∧ Aw F w' p ix (Gj s id) cb ev ∧ Hz w' 0 (ev id) e.ws ∧ Fr (fun k => k = ix.ml ∨ k = ix.mh) w w' := by
 have hro := h.tb.e _ (Plain.Bv hk)
 obtain ⟨A, c, hA⟩ := hro.row.slice
 simp only at hA hro
 have hw := hro.row
 rw [hA] at hw
 have hol : (ev id).ownBlock ≠ some ix.ml := Ec hro h.tb.l
 have hoh : (ev id).ownBlock ≠ some ix.mh := Ec hro h.tb.h
 refine (QU F w ix.tp ix.ml ix.mh s.tab s.held ev id e.id e.t0 e.n0 e.t1 e.n1 A e.ws.length c true e.ws h.tb (fun W hW => ?_) hw hn (by rw [← hA]; exact hol) (by rw [← hA]; exact hoh) h.few).mono ?_
 · have := NI (h.tb.below hW) hk
   rwa [hA] at this
 · rintro x w' ⟨rfl, hT, hF⟩
   have hwo : Pe s id = e.ws := by unfold Pe; rw [hk]
   have hM : ∀ k, (k = ix.ml ∨ k = ix.mh) → ∃ es c, Mp w k es c := fun k hk => hk.elim (fun e => e ▸ h.tb.l.mp) fun e => e ▸ h.tb.h.mp
   refine ⟨by rw [hA]; rfl, ⟨Ob.fr h.bp hF (fun e => (hM _ e).elim fun es hc => hc.elim fun c hm => BR h.bp hm rfl), h.st.frM hF (fun k hk => ⟨fun e => ?_, hM k hk⟩), ?_, h.ov.fr hF (fun e => ?_), h.fp, h.fo, h.d, fun k hk => Nat.lt_of_lt_of_le (h.few k hk) hF.size⟩, AP hro hF fun k hk e => ?_, hF⟩
   · rcases hk with hk | hk
     · exact h.d.2.2.2.1 (e.symm.trans hk)
     · exact h.d.2.2.2.2 (e.symm.trans hk)
   · show TabAt F w' ix.tp ix.ml ix.mh (FQ id s.tab) (FM s.held (Pe s id)) ev
     rw [hwo]
     exact hT
   · exact e.elim h.d.2.1 h.d.2.2.1
   · rcases hk with hk | hk
     · exact hol (hk ▸ e)
     · exact hoh (hk ▸ e)
theorem SI (F : Nat → Prop) (w : World) (p : Nat) (ix : CZ) (s : St) (cb : CB) (ev : Int → Value) (id : Int) (h : Aw F w p ix s cb ev) (hk : Plain.look id s.tab = none) :
   Calls Tryz.prog 86 #[.pointer (some ⟨ix.tp, 0, none⟩), .int .i64 id] w fun x w' => (∃ v, x = .returned v) ∧ Aw F w' p ix (Gj s id) cb ev ∧ Fr (fun k => k = ix.ml ∨ k = ix.mh) w w' := by
 refine (QU F w ix.tp ix.ml ix.mh s.tab s.held ev id 0 0 0 0 0 none 0 0 false [] h.tb (fun W hW => Jc (h.tb.below hW) hk) (RowK.nil _ _ _ _ _) (by simp) (by simp [Value.ownBlock]) (by simp [Value.ownBlock]) h.few).mono ?_
 rintro x w' ⟨rfl, hT, hF⟩
 have hwo : Pe s id = [] := by unfold Pe; rw [hk]
 have hM : ∀ k, (k = ix.ml ∨ k = ix.mh) → ∃ es c, Mp w k es c := fun k hk => hk.elim (fun e => e ▸ h.tb.l.mp) fun e => e ▸ h.tb.h.mp
 refine ⟨⟨_, rfl⟩, ⟨Ob.fr h.bp hF (fun e => (hM _ e).elim fun es hc => hc.elim fun c hm => BR h.bp hm rfl), h.st.frM hF (fun k hk => ⟨fun e => ?_, hM k hk⟩), ?_, h.ov.fr hF (fun e => ?_), h.fp, h.fo, h.d, fun k hk => Nat.lt_of_lt_of_le (h.few k hk) hF.size⟩, hF⟩
 · rcases hk with hk | hk
   · exact h.d.2.2.2.1 (e.symm.trans hk)
   · exact h.d.2.2.2.2 (e.symm.trans hk)
 · show TabAt F w' ix.tp ix.ml ix.mh (FQ id s.tab) (FM s.held (Pe s id)) ev
   rw [hwo]
   exact hT
 · exact e.elim h.d.2.1 h.d.2.2.1
theorem JQ (F : Nat → Prop) (w : World) (p : Nat) (ix : CZ) (s : St) (cb : CB) (ev : Int → Value) (id : Int) (h : Aw F w p ix s cb ev) (hs : J3 s) (h1 : 1 ≤ id) :
   Calls Tryz.prog 88 #[.pointer (some ⟨p, 0, none⟩), .int .i64 id] w fun e w' => e = .returned (.int .i64 (if AX s id = 2 then 10 else 0)) ∧ Below w.heap.size w w' := by
 have hS := D9 F w p ix s cb ev id h hs
 have d1 : decide (id < 1) = false := by simp; omega
 clear h hs
 by_cases h2 : AX s id = 2
 · rw [if_pos h2]
   rw [h2] at hS
   clear h2
   go_enter Tryz.func88, Tryz.ntmps88
   go_wp2_with (first
     | (go_at_call 85; refine hS.mono ?_; clear hS; rintro e w1 ⟨rfl, f1⟩; replace f1 := Aa.mk f1))
   go_returns
   exact ⟨rfl, f1.out⟩
 · rw [if_neg h2]
   obtain ⟨x, hx⟩ : ∃ x, x = AX s id := ⟨_, rfl⟩
   rw [← hx] at hS h2
   have d2 : (x == 2) = false := by simpa using h2
   clear h2 hx
   go_enter Tryz.func88, Tryz.ntmps88
   go_wp2_with (first
     | (go_at_call 85; refine hS.mono ?_; clear hS; rintro e w1 ⟨rfl, f1⟩; replace f1 := Aa.mk f1))
   go_returns
   exact ⟨rfl, f1.out⟩
theorem SK (F : Nat → Prop) (w : World) (p : Nat) (ix : CZ) (s : St) (cb : CB) (ev : Int → Value) (id : Int) (h : Aw F w p ix s cb ev) (hs : J3 s) (h16 : ∀ q ∈ s.tab, q.2.ws.length ≤ 16) (h1 : 1 ≤ id) :
   Calls Tryz.prog 52 #[.pointer (some ⟨p, 0, none⟩), .int .i64 id] w fun e w' => e = .returned (.int .i64 (DX s id).1) ∧ Aw F w' p ix (DX s id).2 cb ev ∧ Fr F w w' := by
 have hS := JQ F w p ix s cb ev id h hs h1
 by_cases h2 : AX s id = 2
 · rw [if_pos h2] at hS
   have e1 : DX s id = (10, s) := by unfold DX; rw [if_pos h2]
   rw [e1]
   replace h := Aa.mk h
   clear hs h16 h1 h2 e1
   go_enter Tryz.func52, Tryz.ntmps52
   go_wp2_with (first
     | (go_at_call 88; refine hS.mono ?_; clear hS; rintro e w1 ⟨rfl, f1⟩; replace f1 := Aa.mk f1))
   go_returns
   exact ⟨rfl, h.out.below f1.out, Fr.of_below f1.out⟩
 · rw [if_neg h2] at hS
   have e1 : DX s id = (0, { Gj s id with over := CW id 3 s.over }) := by unfold DX; rw [if_neg h2]
   rw [e1]
   have hD : ∀ W, Aw F W p ix s cb ev → Calls Tryz.prog 86 #[.pointer (some ⟨ix.tp, 0, none⟩), .int .i64 id] W fun x w' => (∃ v, x = .returned v) ∧ Aw F w' p ix (Gj s id) cb ev ∧ Fr (fun k => k = ix.ml ∨ k = ix.mh) W w' := fun W hW => by
     cases ht : Plain.look id s.tab with
     | none => exact SI F W p ix s cb ev id hW ht
     | some e =>
       refine (Kz F W p ix s cb ev id e hW ht (h16 _ (Plain.Bv ht))).mono ?_
       rintro x w' ⟨rfl, hP, _, hF⟩
       exact ⟨⟨_, rfl⟩, hP, hF⟩
   replace h := Aa.mk h
   replace hD := Aa.mk hD
   clear hs h16 h1 h2 e1
   go_enter Tryz.func52, Tryz.ntmps52
   go_wp2_with (first
     | (go_at_call 88; refine hS.mono ?_; clear hS; rintro e w1 ⟨rfl, f1⟩; have P1 := Aa.mk (h.out.below f1); have c1 : w1.cell? ⟨p, 1, none⟩ = some (.pointer (some ⟨ix.tp, 0, none⟩)) := Bk.cell P1.out.bp rfl; replace f1 := Aa.mk f1)
     | (go_at_call 86; refine (hD.out _ P1.out).mono ?_; rintro e w2 ⟨⟨v2, rfl⟩, P2, f2⟩; have c2 : w2.cell? ⟨p, 2, none⟩ = some (.map (some ix.mo)) := Bk.cell P2.bp rfl; obtain ⟨o2, hup, HU2⟩ := P2.ov.update Nv Tryz.underlying90 id (.int .i64 3); simp only [Iq] at hup; have P3 := Aa.mk (Aw.over P2 HU2); replace f2 := Aa.mk f2; replace P2 := Aa.mk P2; clear HU2 c1))
   go_returns
   have P9 : Fr (fun k => k = ix.mo) w2 (Cc w2 ix.mo o2) := Fr.put (Fr.refl _ w2) ix.mo o2 (.inl rfl)
   exact ⟨rfl, P3.out, ((Fr.of_below f1.out).trans (f2.out.weaken fun k _ e => e.elim (fun e => e ▸ h.out.tb.fl) fun e => e ▸ h.out.tb.fh)).trans (P9.weaken fun k _ e => e ▸ h.out.fo)⟩
end Go.Proofs.YtchfmgbjddopoaaGreatDoor.Hand
namespace Go.Proofs.YtchfmgbjddopoaaGreatDoor.Hand
open Go.RowKit Go.Proofs.YtchfmgbjddopoaaGreatDoorW.PrintWords Go.Proofs.YtchfmgbjddopoaaGreatDoorW.PrintLast Go.Proofs.YtchfmgbjddopoaaGreatDoorW.PrintMore
attribute [local go_sem ↓] Go.wp_at_zero Go.wp_at_succ
open Plain (Ky Wr Rc Ver Ent St Bytes AX Inv AQ Ce)
theorem DW (F : Nat → Prop) (w : World) (p : Nat) (ix : CZ) (s : St) (cb : CB) (ev : Int → Value) (id t n : Int) (h : Aw F w p ix s cb ev) (hs : J3 s) (ht : Ce t = true) (hst : AX s id = 0 ∨ AX s id = 3 ∨ AX s id = 2) :
   Calls Tryz.prog 84 #[.pointer (some ⟨p, 0, none⟩), .int .i64 id, .agg (BX t n)] w fun e w' => e = .returned (.int .i64 (AQ s id t n)) ∧ Below w.heap.size w w' := by
 have hS := fun W (hW : Aw F W p ix s cb ev) => D9 F W p ix s cb ev id hW hs
 have hGd : Aa (∀ W, Calls Tryz.prog 29 #[.agg #[.int .i64 t, .int .u8 n]] W fun e w' => e = .returned (.bool true) ∧ Below W.heap.size W w') := ⟨fun W => by have := BD W t n; rwa [ht] at this⟩
 replace h := Aa.mk h
 clear hs ht
 obtain ⟨x, r, hx, hr, hxr⟩ : ∃ x r, AX s id = x ∧ AQ s id t n = r ∧ ((x = 0 ∧ r = 4) ∨ (x = 3 ∧ r = 10) ∨ (x = 2 ∧ r = 0)) := by
   rcases hst with hst | hst | hst
   · exact ⟨0, 4, hst, by unfold AQ; rw [if_pos hst], .inl ⟨rfl, rfl⟩⟩
   · exact ⟨3, 10, hst, by unfold AQ; rw [if_neg (by omega), if_pos hst], .inr (.inl ⟨rfl, rfl⟩)⟩
   · exact ⟨2, 0, hst, by unfold AQ; rw [if_neg (by omega), if_neg (by omega), if_pos hst], .inr (.inr ⟨rfl, rfl⟩)⟩
 rw [hx] at hS
 rw [hr]
 replace hS := Aa.mk hS
 clear hx hr hst
 rcases hxr with ⟨rfl, rfl⟩ | ⟨rfl, rfl⟩ | ⟨rfl, rfl⟩
 all_goals
   show Calls Tryz.prog 84 #[.pointer (some ⟨p, 0, none⟩), .int .i64 id, .agg #[.int .i64 t, .int .u8 n]] w _
   go_enter Tryz.func84, Tryz.ntmps84
   go_wp2_with (first
     | ((with_reducible refine Ac (N := 5) rfl ?_); refine Aj (N := 5) (C := #[.int .i64 t, .int .u8 n]) rfl rfl (by first | (go_simp; done) | (go_simp; rfl)) ?_; intro g5 w1 h5 b5 f1; have P1 := Aa.mk (h.out.below f1.out); have c0 := Bk.cell b5.out (j := 0) rfl; have c1 := Bk.cell b5.out (j := 1) rfl)
     | (go_at_call 29; refine (hGd.out _).mono ?_; rintro e w2 ⟨rfl, f2⟩; have P2 := Aa.mk (P1.out.below f2); replace f2 := Aa.mk f2; clear c0 c1)
     | (go_at_call 85; refine (hS.out _ P2.out).mono ?_; rintro e w3 ⟨rfl, f3⟩; replace f3 := Aa.mk f3))
   go_returns
   exact ⟨rfl, (f1.out.trans (f2.out.mono f1.out.size)).trans (f3.out.mono (Nat.le_trans f1.out.size f2.out.size))⟩
end Go.Proofs.YtchfmgbjddopoaaGreatDoor.Hand
