import Derived.Test.YtchfmgbjddopoaaGreatDoorM23
set_option linter.unusedVariables false
set_option linter.unusedSimpArgs false
set_option maxHeartbeats 6400000
set_option maxRecDepth 100000
namespace Go.Proofs.YtchfmgbjddopoaaGreatDoor.Hand
open Go.RowKit Go.Proofs.YtchfmgbjddopoaaGreatDoorW.PrintWords Go.Proofs.YtchfmgbjddopoaaGreatDoorW.PrintLast Go.Proofs.YtchfmgbjddopoaaGreatDoorW.PrintMore
attribute [local go_sem ↓] Go.wp_at_zero Go.wp_at_succ
open Plain (Ky Wr Rc Ver Ent St Bytes AX Inv AQ Ce ltS GU chainOf)
theorem IA (F : Nat → Prop) (w : World) (p : Nat) (ix : CZ) (s : St) (cb : CB) (ev : Int → Value) (id t n : Int) (e : Ent) (h : Aw F w p ix s cb ev) (hs : J3 s) (ht : Ce t = true) (hst : AX s id = 1) (hk : Plain.look id s.tab = some e) (h16 : e.ws.length ≤ 16) (hc : ∀ q ∈ s.chains, q.2.length ≤ 1000)
   (hold : ¬ ltS t n e.t1 e.n1 → ∀ x ∈ e.ws, ∀ v ∈ chainOf x.key s.chains, ltS v.t v.n t n) :
   Calls Tryz.prog 84 #[.pointer (some ⟨p, 0, none⟩), .int .i64 id, .agg (BX t n)] w fun x w' => x = .returned (.int .i64 (if ltS t n e.t1 e.n1 then 1 else 0)) ∧ Below w.heap.size w w' := by
 have hS := fun W (hW : Aw F W p ix s cb ev) => D9 F W p ix s cb ev id hW hs
 have hGd : Aa (∀ W, Calls Tryz.prog 29 #[.agg #[.int .i64 t, .int .u8 n]] W fun e w' => e = .returned (.bool true) ∧ Below W.heap.size W w') := ⟨fun W => by have := BD W t n; rwa [ht] at this⟩
 have hw0 := (hs _ (Plain.Bv hk)).1
 have hHs : Aa (∀ W, Aw F W p ix s cb ev → Calls Tryz.prog 126 #[.pointer (some ⟨ix.tp, 0, none⟩), .int .i64 id] W fun x w' => ∃ A n c, x = .returned (.tuple #[.agg (E6 e.id e.t0 e.n0 e.t1 e.n1 (.slice A n c)), .bool true]) ∧ Eo w' (.slice A n c) e.ws ∧ Below W.heap.size W w') := ⟨fun W hW => (QS F W ix.tp ix.ml ix.mh s.tab s.held ev id e hW.tb hk hw0 (by omega)).mono (by
   rintro x w' ⟨v', rfl, o, f⟩
   obtain ⟨A', c', rfl⟩ := o.row.slice
   exact ⟨A', _, c', rfl, o.row, f⟩)⟩
 obtain ⟨X, hX⟩ : ∃ X, X = GU t n e.t1 e.n1 := ⟨_, rfl⟩
 have hCm : Aa (∀ W, Calls Tryz.prog 68 #[.agg #[.int .i64 t, .int .u8 n], .agg #[.int .i64 e.t1, .int .u8 e.n1]] W fun e w' => e = .returned (.int .i64 X) ∧ Below W.heap.size W w') := ⟨fun W => by rw [hX]; exact D6 W t n e.t1 e.n1⟩
 have hXd : decide (X < 0) = decide (ltS t n e.t1 e.n1) := by rw [hX]; exact WC t n e.t1 e.n1
 rw [hst] at hS
 replace h := Aa.mk h
 replace hS := Aa.mk hS
 replace hold := Aa.mk hold
 replace hc := Aa.mk hc
 clear hs ht hst hk hw0 hX
 show Calls Tryz.prog 84 #[.pointer (some ⟨p, 0, none⟩), .int .i64 id, .agg #[.int .i64 t, .int .u8 n]] w _
 by_cases hlt : ltS t n e.t1 e.n1
 · rw [decide_eq_true hlt] at hXd
   rw [if_pos hlt]
   replace hlt := Aa.mk hlt
   go_enter Tryz.func84, Tryz.ntmps84
   go_wp2_with (first
     | ((with_reducible refine Ac (N := 5) rfl ?_); refine Aj (N := 5) (C := #[.int .i64 t, .int .u8 n]) rfl rfl (by first | (go_simp; done) | (go_simp; rfl)) ?_; intro g5 w1 h5 b5 f1; have P1 := Aa.mk (h.out.below f1.out); have c0 := Bk.cell b5.out (j := 0) rfl; have c1 := Bk.cell b5.out (j := 1) rfl)
     | (go_at_call 29; refine (hGd.out _).mono ?_; rintro x w2 ⟨rfl, f2⟩; have P2 := Aa.mk (P1.out.below f2); have b52 := Aa.mk (Ob.Ad b5.out f2); replace f2 := Aa.mk f2; clear c0 c1)
     | (go_at_call 85; refine (hS.out _ P2.out).mono ?_; rintro x w3 ⟨rfl, f3⟩; have P3 := Aa.mk (P2.out.below f3); have b53 := Aa.mk (Ob.Ad b52.out f3); have F3 : Aa (Below w.heap.size w w3) := ⟨(f1.out.trans (f2.out.mono f1.out.size)).trans (f3.mono (Nat.le_trans f1.out.size f2.out.size))⟩; have c1 : w3.cell? ⟨p, 1, none⟩ = some (.pointer (some ⟨ix.tp, 0, none⟩)) := Bk.cell P3.out.bp rfl; clear f3)
     | (go_at_call 126; refine (hHs.out _ P3.out).mono ?_; rintro x w4 ⟨A, m, c, rfl, R4, f4⟩; have b54 := Aa.mk (Ob.Ad b53.out f4); have F4 : Aa (Below w.heap.size w w4) := ⟨F3.out.trans (f4.mono F3.out.size)⟩; replace R4 := Aa.mk R4; clear f4 c1)
     | ((with_reducible refine Ac (N := 7) rfl ?_); refine Aj (N := 7) (C := E6 0 0 0 0 0 (.slice none 0 0)) rfl rfl (by first | (go_simp; done) | (go_simp; rfl)) ?_; intro g7 w5 h7 b7 f5; have b55 := Aa.mk (Ob.Ad b54.out f5.out))
     | ((with_reducible refine Af (t := 72) (p := 7) (v := .tmp 32) rfl ?_); (refine Ak rfl (ty := 72) (x := .tmp 7) (y := .tmp 32) (cells := E6 e.id e.t0 e.n0 e.t1 e.n1 (.slice A m c)) rfl rfl rfl b7.out CO (by kernel_rfl) (Nat.le_refl 6) (E6 e.id e.t0 e.n0 e.t1 e.n1 (.slice A m c)) (Aq (C := E6 0 0 0 0 0 (.slice none 0 0)) rfl) ?_); intro w6 b76 f6
        have h57 : Aa (g5 ≠ g7) := ⟨by have := Ob.lt b54.out; have := h7.out; omega⟩
        have b56 := Aa.mk (Ob.fr b55.out f6.out h57.out)
        have F6 : Aa (Below w.heap.size w w6) := ⟨(Fr.trans (T := fun k => k = g7) ((Fr.of_below F4.out).trans (Fr.of_below f5.out)) f6.out).below (fun k hk e => by have := h7.out; have := F4.out.size; omega) (Nat.le_refl _)⟩
        have c0 := Bk.cell b56.out (j := 0) rfl
        have c1 := Bk.cell b56.out (j := 1) rfl
        have c3 := Bk.cell b76.out (j := 3) rfl
        have c4 := Bk.cell b76.out (j := 4) rfl)
     | (go_at_call 68; refine (hCm.out _).mono ?_; rintro x w7 ⟨rfl, f7⟩; replace f7 := Aa.mk f7))
   go_returns
   exact ⟨rfl, F6.out.trans (f7.out.mono F6.out.size)⟩
 · rw [decide_eq_false hlt] at hXd
   rw [if_neg hlt]
   replace hold := Aa.mk (hold.out hlt)
   clear hlt
   have hCh : Aa (∀ x W, Aw F W p ix s cb ev → Calls Tryz.prog 56 #[.pointer (some ⟨ix.sp, 0, none⟩), .agg (AZ x).toArray] W fun e w' => ∃ A c, e = .returned (.slice A (chainOf x s.chains).length c) ∧ WM w' (.slice A (chainOf x s.chains).length c) (chainOf x s.chains) ∧ Below W.heap.size W w') := ⟨fun x W hW => (EP F W ix.sp ix.mc s.chains cb x hW.st hc.out).mono (by
     rintro e w' ⟨v', rfl, o, f⟩
     have hr : WM w' v' (chainOf x s.chains) := RowK.own BZ o rfl
     obtain ⟨A', c', rfl⟩ := hr.slice
     exact ⟨A', c', rfl, hr, f⟩)⟩
   go_enter Tryz.func84, Tryz.ntmps84
   go_wp2_with (first
     | ((with_reducible refine Ac (N := 5) rfl ?_); refine Aj (N := 5) (C := #[.int .i64 t, .int .u8 n]) rfl rfl (by first | (go_simp; done) | (go_simp; rfl)) ?_; intro g5 w1 h5 b5 f1; have P1 := Aa.mk (h.out.below f1.out); have c0 := Bk.cell b5.out (j := 0) rfl; have c1 := Bk.cell b5.out (j := 1) rfl)
     | (go_at_call 29; refine (hGd.out _).mono ?_; rintro x w2 ⟨rfl, f2⟩; have P2 := Aa.mk (P1.out.below f2); have b52 := Aa.mk (Ob.Ad b5.out f2); replace f2 := Aa.mk f2; clear c0 c1)
     | (go_at_call 85; refine (hS.out _ P2.out).mono ?_; rintro x w3 ⟨rfl, f3⟩; have P3 := Aa.mk (P2.out.below f3); have b53 := Aa.mk (Ob.Ad b52.out f3); have F3 : Aa (Below w.heap.size w w3) := ⟨(f1.out.trans (f2.out.mono f1.out.size)).trans (f3.mono (Nat.le_trans f1.out.size f2.out.size))⟩; have c1 : w3.cell? ⟨p, 1, none⟩ = some (.pointer (some ⟨ix.tp, 0, none⟩)) := Bk.cell P3.out.bp rfl; clear f3)
     | (go_at_call 126; refine (hHs.out _ P3.out).mono ?_; rintro x w4 ⟨A, m, c, rfl, R4, f4⟩; have b54 := Aa.mk (Ob.Ad b53.out f4); have F4 : Aa (Below w.heap.size w w4) := ⟨F3.out.trans (f4.mono F3.out.size)⟩; replace R4 := Aa.mk R4; clear f4 c1)
     | ((with_reducible refine Ac (N := 7) rfl ?_); refine Aj (N := 7) (C := E6 0 0 0 0 0 (.slice none 0 0)) rfl rfl (by first | (go_simp; done) | (go_simp; rfl)) ?_; intro g7 w5 h7 b7 f5; have b55 := Aa.mk (Ob.Ad b54.out f5.out))
     | ((with_reducible refine Af (t := 72) (p := 7) (v := .tmp 32) rfl ?_); (refine Ak rfl (ty := 72) (x := .tmp 7) (y := .tmp 32) (cells := E6 e.id e.t0 e.n0 e.t1 e.n1 (.slice A m c)) rfl rfl rfl b7.out CO (by kernel_rfl) (Nat.le_refl 6) (E6 e.id e.t0 e.n0 e.t1 e.n1 (.slice A m c)) (Aq (C := E6 0 0 0 0 0 (.slice none 0 0)) rfl) ?_); intro w6 b76 f6
        have h57 : Aa (g5 ≠ g7) := ⟨by have := Ob.lt b54.out; have := h7.out; omega⟩
        have b56 := Aa.mk (Ob.fr b55.out f6.out h57.out)
        have F6 : Aa (Below w.heap.size w w6) := ⟨(Fr.trans (T := fun k => k = g7) ((Fr.of_below F4.out).trans (Fr.of_below f5.out)) f6.out).below (fun k hk e => by have := h7.out; have := F4.out.size; omega) (Nat.le_refl _)⟩
        have c0 := Bk.cell b56.out (j := 0) rfl
        have c1 := Bk.cell b56.out (j := 1) rfl
        have c3 := Bk.cell b76.out (j := 3) rfl
        have c4 := Bk.cell b76.out (j := 4) rfl)
     | (go_at_call 68; refine (hCm.out _).mono ?_; rintro x w7 ⟨rfl, f7⟩; have F7 : Aa (Below w.heap.size w w7) := ⟨F6.out.trans (f7.mono F6.out.size)⟩; have R7 := Aa.mk ((R4.out.below (((Fr.of_below (T := fun k => k = g7) f5.out).trans f6.out).below (fun k hk e => by have := h7.out; omega) (Nat.le_refl _))).below f7); have b57 := Aa.mk (Ob.Ad b56.out f7); have b77 := Aa.mk (Ob.Ad b76.out f7); have c5 := Bk.cell b77.out (j := 5) rfl; clear c0 c1 c3 c4))
   have hmm : m = e.ws.length := by
     obtain ⟨A', c', e'⟩ := R4.out.slice
     injection e'
   go_loopw [42] (fun q w' => ∃ j : Nat, j ≤ m ∧ q = .int .i64 j ∧ Aa (Eo w' (.slice A m c) e.ws) ∧ Aa (Bk w' g5 #[.int .i64 t, .int .u8 n] 32) ∧ Aa (Below w.heap.size w w')) (fun q _ => m - (intOf q).toNat)
   case atStart => exact ⟨0, Nat.zero_le _, rfl, R7, b57, F7⟩
   case round =>
     clear R7 b57 F7 c5
     obtain ⟨j, hj, rfl, HW, H5, HB⟩ := hrel
     by_cases hlt : j < m
     case neg =>
       have d1 : decide ((j : Int) < (m : Int)) = false := by simp; omega
       have d2 : decide (j < m) = false := by simp; omega
       clear hj hmm
       go_wp2_with fail
       go_returns
       exact ⟨rfl, HB.out⟩
     obtain ⟨b, o, hA, hbn, hcc, hbs, hr⟩ := HW.out.at_ (by omega)
     have hjw : j < e.ws.length := by omega
     replace hr := hr j hjw
     have hxm : e.ws[j]! ∈ e.ws := by rw [getElem!_pos e.ws j hjw]; exact List.getElem_mem hjw
     generalize e.ws[j]! = x at hr hxm
     have hx := Aa.mk (hold.out x hxm)
     subst hA
     have hjb : j < 1000000 := by omega
     have d1 : decide ((j : Int) < (m : Int)) = true := by simp; omega
     have d2 : decide (j < m) = true := by simp; omega
     clear hbn hjw hxm hmm
     replace hr := Aa.mk hr
     replace hbs := Aa.mk hbs
     go_upto_region 16 with (first
       | ((with_reducible refine Ac (N := 45) rfl ?_); (refine BM (N := 45) rfl rfl rfl rfl Tryz.underlying105 rfl (by rw [Bg]; exact Bl) hr.out ?_))
       | ((with_reducible refine Ac (N := 10) rfl ?_); refine Aj (N := 10) (C := Z18) rfl rfl (by first | (go_simp; done) | (go_simp; rfl)) ?_; intro g8 w8 h8 b8 f8)
       | ((with_reducible refine Af (t := 105) (p := 10) (v := .tmp 45) rfl ?_); (refine Ak rfl (ty := 105) (x := .tmp 10) (y := .tmp 45) (cells := (wrC x).toArray) rfl rfl rfl b8.out (by rw [AY]; exact Bl) (Eb x) (by rw [AY]; exact Nat.le_refl 18) (wrC x).toArray (Aq (AY x)) ?_); intro w9 b89 f9))
     have F9 : Aa (Below w.heap.size w w9) := ⟨(Fr.trans (T := fun k => k = g8) ((Fr.of_below HB.out).trans (Fr.of_below f8.out)) f9.out).below (fun k hk e => by have := h8.out; have := HB.out.size; omega) (Nat.le_refl _)⟩
     have P9 := Aa.mk (h.out.below F9.out)
     have b59 := Aa.mk (Ob.fr (Ob.Ad H5.out f8.out) f9.out fun q => by have := H5.out.lt; have := h8.out; omega)
     have W9 := Aa.mk (HW.out.below (((Fr.of_below (T := fun k => k = g8) f8.out).trans f9.out).below (fun k hk e => by have := h8.out; omega) (Nat.le_refl _)))
     have hS : ∀ W, Below w9.heap.size w9 W → W.cell? ⟨p, 0, none⟩ = some (.pointer (some ⟨ix.sp, 0, none⟩)) ∧ W.rangeAt g8 0 (AZ x.key) := fun W f => ⟨Bk.cell (Ob.Ad P9.out.bp f) rfl, Bk.range (Ob.Ad b89.out f) 0 16 (BV x)⟩
     replace hS := Aa.mk hS
     obtain ⟨L, hL⟩ : ∃ L, L = (chainOf x.key s.chains).length := ⟨_, rfl⟩
     have hL1 : Aa (L ≤ 1000) := ⟨by
       rw [hL]
       unfold chainOf
       cases hk : Plain.look x.key s.chains with
       | none => simp
       | some vs => exact hc.out _ (Plain.Bv hk)⟩
     have hCx := hCh.out x.key
     rw [← hL] at hCx
     replace hCx := Aa.mk hCx
     replace hL := Aa.mk hL
     have u79 := Tryz.underlying103
     have i79 : (Tryz.prog.info? 103).map (·.size) = some (AZ x.key).length := by rw [Ai]; exact AB
     refine wp_region_noPanic ?_
     go_region_held_law (fun w' => w'.cell? ⟨p, 0, none⟩ = some (.pointer (some ⟨ix.sp, 0, none⟩)) ∧ w'.rangeAt g8 0 (AZ x.key))
       ((first | exact hS.out _ (Ag (Below.refl _ _)) | exact hS.out _ (Aa.out G10)))
       ((go_at_call 56; refine (hCx.out _ (P9.out.below (Ag (Below.refl _ _)))).mono ?_; rintro y w10 ⟨Av, cv, rfl, V10, f10⟩; have G10 := Aa.mk ((Ag (Below.refl w9.heap.size w9)).trans f10); replace V10 := Aa.mk V10; clear f10))
     refine NoPanic.normal ?_
     go_split_ands
     go_wp2_with fail
     have F10 : Aa (Below w.heap.size w w10) := ⟨F9.out.trans (G10.out.mono F9.out.size)⟩
     have b510 := Aa.mk (Ob.Ad b59.out G10.out)
     have W10 := Aa.mk (W9.out.below G10.out)
     go_loopw [54] (fun q w' => ∃ i : Nat, i ≤ L ∧ q = .int .i64 i ∧ Aa (WM w' (.slice Av L cv) (chainOf x.key s.chains)) ∧ Aa (Eo w' (.slice (some ⟨b, o, none⟩) m c) e.ws) ∧ Aa (Bk w' g5 #[.int .i64 t, .int .u8 n] 32) ∧ Aa (Below w.heap.size w w')) (fun q _ => L - (intOf q).toNat)
     case atStart => exact ⟨0, Nat.zero_le _, rfl, V10, W10, b510, F10⟩
     case round =>
       clear V10 W10 b510 F10
       obtain ⟨i, hi, rfl, HV, HW2, H52, HB2⟩ := hrel
       by_cases hlt2 : i < L
       case neg =>
         have d3 : decide ((i : Int) < (L : Int)) = false := by simp; omega
         have d4 : decide (i < L) = false := by simp; omega
         clear hi hlt2
         go_wp2_with fail
         refine ⟨⟨j + 1, by omega, by rw [Int.natCast_add]; rfl, HW2, H52, HB2⟩, ?_⟩
         simp only [intOf]
         omega
       obtain ⟨bv, ov, hAv, hbnv, hcv, hbsv, hrv⟩ := HV.out.at_ (by rw [← hL.out]; omega)
       have hiw : i < (chainOf x.key s.chains).length := by rw [← hL.out]; exact hlt2
       replace hrv := hrv i hiw
       have hxv := hx.out _ (List.getElem_mem hiw)
       rw [← getElem!_pos _ i hiw] at hxv
       generalize (chainOf x.key s.chains)[i]! = v at hrv hxv
       subst hAv
       obtain ⟨vt, vn, vv, vg⟩ := v
       have hne : ∀ W, (binOp .eql 32 (.agg #[.int .i64 vt, .int .u8 vn]) (.agg #[.int .i64 t, .int .u8 n])).run Tryz.prog W = .ok (.bool false) W := fun W => by
         rw [Jp]
         have : (decide (vt = t) && decide (vn = n)) = false := by
           simp only at hxv
           unfold ltS at hxv
           by_cases h1 : vt = t
           · have : vn ≠ n := by omega
             simp [this]
           · simp [h1]
         rw [this]
       replace hrv := Aa.mk hrv
       replace hbsv := Aa.mk hbsv
       replace hxv := Aa.mk hxv
       have d3 : decide ((i : Int) < (L : Int)) = true := by simp; omega
       have d4 : decide (i < L) = true := by simp; omega
       have e5 := Bk.cell H52.out (j := 0) rfl
       have e6 := Bk.cell H52.out (j := 1) rfl
       clear hbnv hiw e5 e6
       go_upto_region 19 with (first
         | ((with_reducible refine Ac (N := 57) rfl ?_); (refine BM (N := 57) rfl rfl rfl rfl Tryz.underlying116 rfl (by rw [BZ]; kernel_rfl) hrv.out ?_))
         | ((with_reducible refine Ac (N := 12) rfl ?_); refine Aj (N := 12) (C := V0) rfl rfl (by first | (go_simp; done) | (go_simp; rfl)) ?_; intro g12 w12 h12 b12 f12)
         | ((with_reducible refine Af (t := 116) (p := 12) (v := .tmp 57) rfl ?_); (refine Ak rfl (ty := 116) (x := .tmp 12) (y := .tmp 57) (cells := (En ⟨vt, vn, vv, vg⟩).toArray) rfl rfl rfl b12.out (by kernel_rfl) (by kernel_rfl) (Nat.le_refl 4) (En ⟨vt, vn, vv, vg⟩).toArray (Aq (C := V0) rfl) ?_); intro w13 b123 f13))
       have G13 : Aa (Below wr.heap.size wr w13) := ⟨(Fr.trans (T := fun k => k = g12) (Fr.of_below f12.out) f13.out).below (fun k hk e => by have := h12.out; omega) (Nat.le_refl _)⟩
       have b513 := Aa.mk (Ob.Ad H52.out G13.out)
       have V13 := Aa.mk (HV.out.below G13.out)
       have W13 := Aa.mk (HW2.out.below G13.out)
       have F13 : Aa (Below w.heap.size w w13) := ⟨HB2.out.trans (G13.out.mono HB2.out.size)⟩
       have e5 := Bk.cell b513.out (j := 0) rfl
       have e6 := Bk.cell b513.out (j := 1) rfl
       have e7 : w13.cell? ⟨g12, 0, none⟩ = some (.int .i64 vt) := Bk.cell b123.out (j := 0) rfl
       have e8 : w13.cell? ⟨g12, 1, none⟩ = some (.int .u8 vn) := Bk.cell b123.out (j := 1) rfl
       have hne13 := hne w13
       have hib : i < 1000000 := by have := hL1.out; omega
       go_wp2_with fail
       refine ⟨⟨i + 1, by omega, by rw [Int.natCast_add]; rfl, V13, W13, b513, F13⟩, ?_⟩
       simp only [intOf]
       omega
end Go.Proofs.YtchfmgbjddopoaaGreatDoor.Hand
namespace Go.Proofs.YtchfmgbjddopoaaGreatDoor.Hand
open Go.RowKit Go.Proofs.YtchfmgbjddopoaaGreatDoorW.PrintWords Go.Proofs.YtchfmgbjddopoaaGreatDoorW.PrintLast Go.Proofs.YtchfmgbjddopoaaGreatDoorW.PrintMore
open Plain (Ky Wr Rc Ver Ent St Bytes AX Inv AQ Ce ltS GU chainOf)
theorem Ff (F : Nat → Prop) (w : World) (p : Nat) (ix : CZ) (s : St) (cb : CB) (ev : Int → Value) (id t n : Int) (N : Nat) (h : Aw F w p ix s cb ev) (hi : Inv s N) (ht : Ce t = true) :
   Calls Tryz.prog 84 #[.pointer (some ⟨p, 0, none⟩), .int .i64 id, .agg (BX t n)] w fun x w' => x = .returned (.int .i64 (AQ s id t n)) ∧ Below w.heap.size w w' := by
 by_cases h0 : AX s id = 0
 · exact DW F w p ix s cb ev id t n h (H6 hi) ht (.inl h0)
 by_cases h3 : AX s id = 3
 · exact DW F w p ix s cb ev id t n h (H6 hi) ht (.inr (.inl h3))
 by_cases h2 : AX s id = 2
 · exact DW F w p ix s cb ev id t n h (H6 hi) ht (.inr (.inr h2))
 obtain ⟨ho, e, hk⟩ := hi.WS h0 h2 h3
 have hst : AX s id = 1 := by unfold AX; rw [ho, hk]
 have hcan : AQ s id t n = if ltS t n e.t1 e.n1 then 1 else 0 := by
   unfold AQ
   rw [if_neg h0, if_neg h3, if_neg h2, hk]
 rw [hcan]
 have he := (hi.te _ (Plain.Bv hk)).2
 refine IA F w p ix s cb ev id t n e h (H6 hi) ht hst hk (Plain.BL he.good).2.2.1.2 (fun q hq => by have := (hi.cs q hq).few; omega) fun hlt x hx v hv => ?_
 obtain ⟨e', hk', _, _, _, _, _, hold⟩ := hi.may (id := id) (t := t) (n := n) (by rw [hcan, if_neg hlt]; simp [h2])
 rw [hk] at hk'
 cases hk'
 exact hold x hx v hv
end Go.Proofs.YtchfmgbjddopoaaGreatDoor.Hand
namespace Go.Proofs.YtchfmgbjddopoaaGreatDoor.Hand
open Go.RowKit Go.Proofs.YtchfmgbjddopoaaGreatDoorW.PrintWords Go.Proofs.YtchfmgbjddopoaaGreatDoorW.PrintLast Go.Proofs.YtchfmgbjddopoaaGreatDoorW.PrintMore
attribute [local go_sem ↓] Go.wp_at_zero Go.wp_at_succ
open Plain (Ky Wr Rc Ver Ent St Bytes AX Inv AQ Ce)
theorem Oy (F : Nat → Prop) (w : World) (p : Nat) (ix : CZ) (s : St) (cb : CB) (ev : Int → Value) (id t n : Int) (N : Nat) (h : Aw F w p ix s cb ev) (hi : Inv s N) (ht : Ce t = true) (hc : AQ s id t n ≠ 0 ∨ AX s id = 2) :
   Calls Tryz.prog 51 #[.pointer (some ⟨p, 0, none⟩), .int .i64 id, .agg (BX t n)] w fun e w' => e = .returned (.int .i64 (AQ s id t n)) ∧ Below w.heap.size w w' := by
 have hC : Aa (∀ W, Aw F W p ix s cb ev → Calls Tryz.prog 84 #[.pointer (some ⟨p, 0, none⟩), .int .i64 id, .agg #[.int .i64 t, .int .u8 n]] W fun e w' => e = .returned (.int .i64 (AQ s id t n)) ∧ Below W.heap.size W w') := ⟨fun W hW => Ff F W p ix s cb ev id t n N hW hi ht⟩
 have hS : Aa (∀ W, Aw F W p ix s cb ev → Calls Tryz.prog 85 #[.pointer (some ⟨p, 0, none⟩), .int .i64 id] W fun e w' => e = .returned (.int .i64 (AX s id)) ∧ Below W.heap.size W w') := ⟨fun W hW => D9 F W p ix s cb ev id hW (H6 hi)⟩
 obtain ⟨r, hr⟩ : ∃ r, r = AQ s id t n := ⟨_, rfl⟩
 rw [← hr] at hC hc ⊢
 replace h := Aa.mk h
 clear hi ht
 show Calls Tryz.prog 51 #[.pointer (some ⟨p, 0, none⟩), .int .i64 id, .agg #[.int .i64 t, .int .u8 n]] w _
 by_cases h0 : r = 0
 · have h2 : AX s id = 2 := hc.resolve_left (fun e => e h0)
   rw [h2] at hS
   rw [h0] at hC ⊢
   clear h2 hc h0 hr
   go_enter Tryz.func51, Tryz.ntmps51
   go_wp2_with (first
     | ((with_reducible refine Ac (N := 5) rfl ?_); refine Aj (N := 5) (C := #[.int .i64 t, .int .u8 n]) rfl rfl (by first | (go_simp; done) | (go_simp; rfl)) ?_; intro g5 w1 h5 b5 f1; have P1 := Aa.mk (h.out.below f1.out); have c0 := Bk.cell b5.out (j := 0) rfl; have c1 := Bk.cell b5.out (j := 1) rfl)
     | (go_at_call 84; refine (hC.out _ P1.out).mono ?_; rintro e w2 ⟨rfl, f2⟩; have P2 := Aa.mk (P1.out.below f2); replace f2 := Aa.mk f2; clear c0 c1)
     | (go_at_call 85; refine (hS.out _ P2.out).mono ?_; rintro e w3 ⟨rfl, f3⟩; replace f3 := Aa.mk f3))
   go_returns
   exact ⟨rfl, (f1.out.trans (f2.out.mono f1.out.size)).trans (f3.out.mono (Nat.le_trans f1.out.size f2.out.size))⟩
 · have d0 : (r == 0) = false := by simpa using h0
   have d1 : (r != 0) = true := by simpa using h0
   clear hc h0 hr
   go_enter Tryz.func51, Tryz.ntmps51
   go_wp2_with (first
     | ((with_reducible refine Ac (N := 5) rfl ?_); refine Aj (N := 5) (C := #[.int .i64 t, .int .u8 n]) rfl rfl (by first | (go_simp; done) | (go_simp; rfl)) ?_; intro g5 w1 h5 b5 f1; have P1 := Aa.mk (h.out.below f1.out); have c0 := Bk.cell b5.out (j := 0) rfl; have c1 := Bk.cell b5.out (j := 1) rfl)
     | (go_at_call 84; refine (hC.out _ P1.out).mono ?_; rintro e w2 ⟨rfl, f2⟩; have P2 := Aa.mk (P1.out.below f2); replace f2 := Aa.mk f2; clear c0 c1))
   go_returns
   exact ⟨rfl, f1.out.trans (f2.out.mono f1.out.size)⟩
end Go.Proofs.YtchfmgbjddopoaaGreatDoor.Hand
namespace Go.Proofs.YtchfmgbjddopoaaGreatDoor.Hand
open Go.RowKit Go.Proofs.YtchfmgbjddopoaaGreatDoorW.PrintWords Go.Proofs.YtchfmgbjddopoaaGreatDoorW.PrintLast Go.Proofs.YtchfmgbjddopoaaGreatDoorW.PrintMore
open Plain (Ky Wr Rc Ver Ent St Bytes Chs)
section
variable {F : Nat → Prop} {w w' : World} {p : Nat} {ix : CZ} {s : St} {cb : CB} {ev : Int → Value}
def Hg (sp mc : Nat) (cs : Chs) (cb : CB) (k : Nat) : Prop := k = sp ∨ k = mc ∨ ∃ q ∈ cs, k = (cb q.1).1 ∨ (cb q.1).2.ownBlock = some k
theorem AA.tight {sp mc : Nat} {cs : Chs} (h : AA F w sp mc cs cb) : AA (Hg sp mc cs cb) w sp mc cs cb :=
 ⟨h.s, h.m, h.c, h.ne, .inl rfl, .inr (.inl rfl), fun q hq => ⟨.inr (.inr ⟨q, hq, .inl rfl⟩), fun k hk => .inr (.inr ⟨q, hq, .inr hk⟩)⟩, h.d⟩
theorem AA.sub {sp mc : Nat} {cs : Chs} (h : AA F w sp mc cs cb) {k : Nat} (hk : Hg sp mc cs cb k) : F k := by
 rcases hk with rfl | rfl | ⟨q, hq, rfl | e⟩
 · exact h.fs
 · exact h.fm
 · exact (h.fc q hq).1
 · exact (h.fc q hq).2 k e
theorem AA.kinds {sp mc : Nat} {cs : Chs} (h : AA F w sp mc cs cb) {k : Nat} (hk : Hg sp mc cs cb k) : k = mc ∨ ∃ C t, Bk w k C t ∧ (t = 158 ∨ t = 213 ∨ t = 116) := by
 rcases hk with rfl | rfl | ⟨q, hq, rfl | e⟩
 · exact .inr ⟨_, _, h.s, .inl rfl⟩
 · exact .inl rfl
 · exact .inr ⟨_, _, (h.c q hq).c, .inr (.inl rfl)⟩
 · obtain ⟨C, hC⟩ := DV (h.c q hq).v e
   exact .inr ⟨C, _, hC, .inr (.inr rfl)⟩
theorem AA.Vw {sp mc : Nat} {cs : Chs} (h : AA F w sp mc cs cb) {b t : Nat} {C : Array Value} (hb : Bk w b C t) (h1 : t ≠ 158) (h2 : t ≠ 213) (h3 : t ≠ 116) : ¬ Hg sp mc cs cb b := fun hk => by
 rcases h.kinds hk with e | ⟨C', t', hb', e⟩
 · exact h.m.ne hb e
 · rcases e with rfl | rfl | rfl
   · exact Dh hb hb' h1 rfl
   · exact Dh hb hb' h2 rfl
   · exact Dh hb hb' h3 rfl
theorem AA.Xj {sp mc m : Nat} {cs : Chs} {es : Array MapEntry} {c : Nat} (h : AA F w sp mc cs cb) (hm : Mp w m es c) (hne : m ≠ mc) : ¬ Hg sp mc cs cb m := fun hk => by
 rcases h.kinds hk with e | ⟨C', t', hb', _⟩
 · exact hne e
 · exact BR hb' hm rfl
theorem Aw.stored {G : Nat → Prop} {cs' : Chs} {cb' : CB} (h : Aw F w p ix s cb ev) (f : Fr (Hg ix.sp ix.mc s.chains cb) w w') (hS : AA G w' ix.sp ix.mc cs' cb') (hG : ∀ k, F k → G k) (few : ∀ k, G k → k < w'.heap.size) : Aw G w' p ix { s with chains := cs' } cb' ev := by
 obtain ⟨e1, c1, m1⟩ := h.tb.l.mp
 obtain ⟨e2, c2, m2⟩ := h.tb.h.mp
 obtain ⟨e3, c3, m3⟩ := h.ov.mp
 refine ⟨Ob.fr h.bp f (h.st.Vw h.bp (by decide) (by decide) (by decide)), hS, ⟨Ob.fr h.tb.t f (h.st.Vw h.tb.t (by decide) (by decide) (by decide)), h.tb.l.fr f (h.st.Xj m1 (Ne.symm h.d.2.2.2.1)), h.tb.h.fr f (h.st.Xj m2 (Ne.symm h.d.2.2.2.2)), fun q hq => AP (h.tb.e q hq) f fun k hk e => ?_, h.tb.ne, hG _ h.tb.ft, hG _ h.tb.fl, hG _ h.tb.fh, fun q hq k hk => hG _ (h.tb.fe q hq k hk)⟩, h.ov.fr f (h.st.Xj m3 h.d.1), hG _ h.fp, hG _ h.fo, h.d, few⟩
 obtain ⟨C, hC⟩ := DV (h.tb.e q hq) e
 exact h.st.Vw hC (by decide) (by decide) (by decide) hk
end
end Go.Proofs.YtchfmgbjddopoaaGreatDoor.Hand
namespace Go.Proofs.YtchfmgbjddopoaaGreatDoor.Hand
open Go.RowKit Go.Proofs.YtchfmgbjddopoaaGreatDoorW.PrintWords Go.Proofs.YtchfmgbjddopoaaGreatDoorW.PrintLast Go.Proofs.YtchfmgbjddopoaaGreatDoorW.PrintMore
attribute [local go_sem ↓] Go.wp_at_zero Go.wp_at_succ
open Plain (Ky Wr Rc Ver Ent St Bytes AX Inv AQ Ce Gj CW CX Ea ltS chainOf Uc)
theorem Ox (F : Nat → Prop) (w : World) (p : Nat) (ix : CZ) (s : St) (cb : CB) (ev : Int → Value) (id t n : Int) (N : Nat) (e : Ent) (h : Aw F w p ix s cb ev) (hi : Inv s N) (hN : N ≤ 100000) (ht : Ce t = true) (hn : 0 ≤ n ∧ n < 256) (hc0 : AQ s id t n = 0) (h1 : AX s id = 1) (hk : Plain.look id s.tab = some e) (he : Uc e)
   (hold : ∀ x ∈ e.ws, ∀ v ∈ chainOf x.key s.chains, ltS v.t v.n t n) :
   Calls Tryz.prog 51 #[.pointer (some ⟨p, 0, none⟩), .int .i64 id, .agg (BX t n)] w fun x w' => x = .returned (.int .i64 (if Ea s.chains e.ws then 0 else 6)) ∧ (∃ cb', Aw (fun k => F k ∨ w.heap.size ≤ k ∧ k < w'.heap.size) w' p ix { Gj s id with over := CW id 2 s.over, chains := if Ea s.chains e.ws then CX s.chains t n e.ws else s.chains } cb' ev) ∧ Fr F w w' := by
 have hgp := Plain.BL he.good
 have hC : Aa (∀ W, Aw F W p ix s cb ev → Calls Tryz.prog 84 #[.pointer (some ⟨p, 0, none⟩), .int .i64 id, .agg #[.int .i64 t, .int .u8 n]] W fun e w' => e = .returned (.int .i64 0) ∧ Below W.heap.size W w') := ⟨fun W hW => by
   have := Ff F W p ix s cb ev id t n N hW hi ht
   rwa [hc0] at this⟩
 have hS : Aa (∀ W, Aw F W p ix s cb ev → Calls Tryz.prog 85 #[.pointer (some ⟨p, 0, none⟩), .int .i64 id] W fun e w' => e = .returned (.int .i64 1) ∧ Below W.heap.size W w') := ⟨fun W hW => by
   have := D9 F W p ix s cb ev id hW (H6 hi)
   rwa [h1] at this⟩
 obtain ⟨A, c, hA⟩ := (h.tb.e _ (Plain.Bv hk)).row.slice
 simp only at hA
 obtain ⟨m, hm⟩ : ∃ m, m = e.ws.length := ⟨_, rfl⟩
 rw [← hm] at hA
 have hD : Aa (∀ W, Aw F W p ix s cb ev → Calls Tryz.prog 86 #[.pointer (some ⟨ix.tp, 0, none⟩), .int .i64 id] W fun x w' => x = .returned (.tuple #[.agg (E6 e.id e.t0 e.n0 e.t1 e.n1 (.slice A m c)), .bool true]) ∧ Aw F w' p ix (Gj s id) cb ev ∧ Hz w' 0 (.slice A m c) e.ws ∧ Fr (fun k => k = ix.ml ∨ k = ix.mh) W w') := ⟨fun W hW => by
   have := Kz F W p ix s cb ev id e hW hk hgp.2.2.1.2
   rw [hA] at this
   exact this⟩
 have hAp : Aa (∀ W (s' : St), s'.chains = s.chains → Aw F W p ix s' cb ev → Hz W 0 (.slice A m c) e.ws → Calls Tryz.prog 87 #[.pointer (some ⟨ix.sp, 0, none⟩), .agg #[.int .i64 t, .int .u8 n], .slice A m c] W fun x w' => x = .returned (.int .i64 (if Ea s.chains e.ws then 0 else 6)) ∧ (∃ cb', Aw (fun k => F k ∨ W.heap.size ≤ k ∧ k < w'.heap.size) w' p ix { s' with chains := if Ea s.chains e.ws then CX s.chains t n e.ws else s.chains } cb' ev) ∧ Fr F W w') := ⟨fun W s' hs hP hR => by
   rw [← hs]
   have hst := hP.st.tight
   refine (PN _ W ix.sp ix.mc s'.chains cb t n A m c e.ws hst hR.row ht hn hgp.2.2.1 hgp.2.2.2.1 (by rw [hs]; exact hold) (fun k hk => hP.few k (hP.st.sub hk)) (fun k hk => ?_) (by rw [hs]; exact hi.cu) (by rw [hs]; exact hi.cs) (by rw [hs]; have := hi.n3; omega)).mono ?_
   · obtain ⟨C, hC⟩ := DV hR hk
     exact hP.st.Vw hC (by decide) (by decide) (by decide)
   · rintro x w' ⟨rfl, ⟨cb', hSt⟩, hF⟩
     refine ⟨rfl, ⟨cb', hP.stored hF (hSt.mono fun k hk => hk.imp (fun hk => hP.st.sub hk) fun q => q) (fun k hk => .inl hk) fun k hk => hk.elim (fun hk => Nat.lt_of_lt_of_le (hP.few k hk) hF.size) fun hk => hk.2⟩, hF.weaken fun k _ hk => hP.st.sub hk⟩⟩
 obtain ⟨R, hR⟩ : ∃ R : Int, R = if Ea s.chains e.ws then 0 else 6 := ⟨_, rfl⟩
 obtain ⟨cs', hcs'⟩ : ∃ cs', cs' = if Ea s.chains e.ws then CX s.chains t n e.ws else s.chains := ⟨_, rfl⟩
 rw [← hR, ← hcs'] at hAp ⊢
 replace h := Aa.mk h
 clear hgp hi hN ht hn hc0 h1 hk he hold hA hm hR hcs'
 show Calls Tryz.prog 51 #[.pointer (some ⟨p, 0, none⟩), .int .i64 id, .agg #[.int .i64 t, .int .u8 n]] w _
 go_enter Tryz.func51, Tryz.ntmps51
 go_upto_region 6 with (first
   | ((with_reducible refine Ac (N := 5) rfl ?_); refine Aj (N := 5) (C := #[.int .i64 t, .int .u8 n]) rfl rfl (by first | (go_simp; done) | (go_simp; rfl)) ?_; intro g5 w1 h5 b5 f1; have P1 := Aa.mk (h.out.below f1.out); have c0 := Bk.cell b5.out (j := 0) rfl; have c1 := Bk.cell b5.out (j := 1) rfl)
   | (go_at_call 84; refine (hC.out _ P1.out).mono ?_; rintro x w2 ⟨rfl, f2⟩; have P2 := Aa.mk (P1.out.below f2); have b52 := Aa.mk (Ob.Ad b5.out f2); replace f2 := Aa.mk f2; clear c0 c1)
   | (go_at_call 85; refine (hS.out _ P2.out).mono ?_; rintro x w3 ⟨rfl, f3⟩; have P3 := Aa.mk (P2.out.below f3); have b53 := Aa.mk (Ob.Ad b52.out f3); have F3 : Aa (Below w.heap.size w w3) := ⟨(f1.out.trans (f2.out.mono f1.out.size)).trans (f3.mono (Nat.le_trans f1.out.size f2.out.size))⟩; have c1 : w3.cell? ⟨p, 1, none⟩ = some (.pointer (some ⟨ix.tp, 0, none⟩)) := Bk.cell P3.out.bp rfl; clear f3)
   | (go_at_call 86; refine (hD.out _ P3.out).mono ?_; rintro x w4 ⟨rfl, P4, R4, f4⟩; have b54 := Aa.mk (Ob.fr b53.out f4 fun q => q.elim (P3.out.tb.l.ne b53.out) (P3.out.tb.h.ne b53.out)); have F4 : Aa (Fr F w w4) := ⟨(Fr.of_below F3.out).trans (f4.weaken fun k _ q => q.elim (fun q => q ▸ h.out.tb.fl) fun q => q ▸ h.out.tb.fh)⟩; replace P4 := Aa.mk P4; replace R4 := Aa.mk R4; clear f4 c1)
   | ((with_reducible refine Ac (N := 8) rfl ?_); refine Aj (N := 8) (C := E6 0 0 0 0 0 (.slice none 0 0)) rfl rfl (by first | (go_simp; done) | (go_simp; rfl)) ?_; intro g8 w5 h8 b8 f5)
   | ((with_reducible refine Af (t := 72) (p := 8) (v := .tmp 30) rfl ?_); (refine Ak rfl (ty := 72) (x := .tmp 8) (y := .tmp 30) (cells := E6 e.id e.t0 e.n0 e.t1 e.n1 (.slice A m c)) rfl rfl rfl b8.out CO (by kernel_rfl) (Nat.le_refl 6) (E6 e.id e.t0 e.n0 e.t1 e.n1 (.slice A m c)) (Aq (C := E6 0 0 0 0 0 (.slice none 0 0)) rfl) ?_); intro w6 b86 f6
      have G46 : Aa (Below w4.heap.size w4 w6) := ⟨((Fr.of_below (T := fun k => k = g8) f5.out).trans f6.out).below (fun k hk q => by have := h8.out; omega) (Nat.le_refl _)⟩
      have P6 := Aa.mk (P4.out.below G46.out)
      have R6 : Aa (Hz w6 0 (.slice A m c) e.ws) := ⟨own_below R4.out G46.out⟩
      have b56 := Aa.mk (Ob.Ad b54.out G46.out)
      have F6 : Aa (Fr F w w6) := ⟨F4.out.trans (Fr.of_below G46.out)⟩
      have c2 : w6.cell? ⟨p, 2, none⟩ = some (.map (some ix.mo)) := Bk.cell P6.out.bp rfl
      obtain ⟨o2, hup, HU2⟩ := P6.out.ov.update Nv Tryz.underlying90 id (.int .i64 2)
      simp only [Iq] at hup
      have P7 := Aa.mk (Aw.over P6.out HU2)
      clear HU2))
 have Q7 : Fr (fun k => k = ix.mo) w6 (Cc w6 ix.mo o2) := Fr.put (Fr.refl _ w6) ix.mo o2 (.inl rfl)
 have R7 : Aa (Hz (Cc w6 ix.mo o2) 0 (.slice A m c) e.ws) := ⟨AP R6.out Q7 fun k hk q => Ec R6.out P6.out.ov (hk ▸ q)⟩
 have b57 := Aa.mk (Ob.fr b56.out Q7 (P6.out.ov.ne b56.out))
 have b87 := Aa.mk (Ob.fr b86.out Q7 (P6.out.ov.ne b86.out))
 have F7 : Aa (Fr F w (Cc w6 ix.mo o2)) := ⟨F6.out.trans (Q7.weaken fun k _ q => q ▸ h.out.fo)⟩
 clear hup c2 Q7
 generalize Cc w6 ix.mo o2 = w7 at *
 have hcells : ∀ W, Below w7.heap.size w7 W → (W.cell? ⟨p, 0, none⟩ = some (.pointer (some ⟨ix.sp, 0, none⟩)) ∧ W.cell? ⟨g5, 0, none⟩ = some (.int .i64 t) ∧ W.cell? ⟨g5, 1, none⟩ = some (.int .u8 n) ∧ W.cell? ⟨g8, 5, none⟩ = some (.slice A m c)) := fun W f => ⟨Bk.cell (Ob.Ad P7.out.bp f) rfl, Bk.cell (Ob.Ad b57.out f) rfl, Bk.cell (Ob.Ad b57.out f) rfl, Bk.cell (Ob.Ad b87.out f) rfl⟩
 have hq := hcells w7.drew (Ag (Below.refl _ _))
 go_split_ands
 clear hcells
 go_region_with (go_at_call 87
                 refine (hAp.out w7.drew { Gj s id with over := CW id 2 s.over } rfl (P7.out.below (Ag (Below.refl _ _))) (own_below R7.out (Ag (Below.refl _ _)))).mono ?_
                 rintro x w8 ⟨rfl, hP8, f8⟩)
 all_goals
   go_wp2_with fail
   go_returns
   obtain ⟨cb', P8⟩ := hP8
   have hs7 : w.heap.size ≤ w7.heap.size := F7.out.size
   refine ⟨rfl, ⟨cb', P8.mono (fun k hk => hk.imp (fun q => q) fun q => ⟨Nat.le_trans hs7 q.1, q.2⟩) fun k hk => ?_⟩, (F7.out.drew).trans f8⟩
   rcases hk with hk | hk
   · have := h.out.few k hk
     have := f8.size
     have h7 : w7.heap.size ≤ w8.heap.size := this
     omega
   · exact hk.2
end Go.Proofs.YtchfmgbjddopoaaGreatDoor.Hand
namespace Go.Proofs.YtchfmgbjddopoaaGreatDoor.Hand
open Go.RowKit Go.Proofs.YtchfmgbjddopoaaGreatDoorW.PrintWords Go.Proofs.YtchfmgbjddopoaaGreatDoorW.PrintLast Go.Proofs.YtchfmgbjddopoaaGreatDoorW.PrintMore
open Plain (Ky Wr Rc Ver Ent St Bytes AX Inv AQ Ce Dw Pe Ea)
theorem PW (F : Nat → Prop) (w : World) (p : Nat) (ix : CZ) (s : St) (cb : CB) (ev : Int → Value) (id t n : Int) (N : Nat) (h : Aw F w p ix s cb ev) (hi : Inv s N) (hN : N ≤ 100000) (ht : Ce t = true) (hn : 0 ≤ n ∧ n < 256) :
   Calls Tryz.prog 51 #[.pointer (some ⟨p, 0, none⟩), .int .i64 id, .agg (BX t n)] w fun x w' => x = .returned (.int .i64 (Dw s id t n).1) ∧ (∃ cb', Aw (fun k => F k ∨ w.heap.size ≤ k ∧ k < w'.heap.size) w' p ix (Dw s id t n).2 cb' ev) ∧ Fr F w w' := by
 by_cases hc : AQ s id t n ≠ 0 ∨ AX s id = 2
 · have e1 : Dw s id t n = (AQ s id t n, s) := by unfold Dw; rw [if_pos hc]
   rw [e1]
   refine (Oy F w p ix s cb ev id t n N h hi ht hc).mono ?_
   rintro x w' ⟨rfl, hB⟩
   exact ⟨rfl, ⟨cb, (h.below hB).mono (fun k hk => .inl hk) fun k hk => hk.elim (fun hk => Nat.lt_of_lt_of_le (h.few k hk) hB.size) fun hk => hk.2⟩, Fr.of_below hB⟩
 · obtain ⟨e, hk, ho, hwo, he, _, _, hold⟩ := hi.may hc
   have h0 : AQ s id t n = 0 := by
     by_cases h0 : AQ s id t n = 0
     · exact h0
     · exact absurd (.inl h0) hc
   have h1 : AX s id = 1 := by unfold AX; rw [ho, hk]
   refine (Ox F w p ix s cb ev id t n N e h hi hN ht hn h0 h1 hk he hold).mono ?_
   rintro x w' ⟨rfl, ⟨cb', hP⟩, hF⟩
   unfold Dw
   rw [if_neg hc, hwo]
   by_cases hr : Ea s.chains e.ws = true
   · simp only [if_pos hr] at hP ⊢
     exact ⟨trivial, ⟨cb', hP⟩, hF⟩
   · simp only [if_neg hr] at hP ⊢
     exact ⟨trivial, ⟨cb', hP⟩, hF⟩
end Go.Proofs.YtchfmgbjddopoaaGreatDoor.Hand
namespace Go.Proofs.YtchfmgbjddopoaaGreatDoor.Hand
open Go.RowKit Go.Proofs.YtchfmgbjddopoaaGreatDoorW.PrintWords Go.Proofs.YtchfmgbjddopoaaGreatDoorW.PrintLast Go.Proofs.YtchfmgbjddopoaaGreatDoorW.PrintMore
attribute [local go_sem ↓] Go.wp_at_zero Go.wp_at_succ
open Plain (Ky Wr Rc Ver Ent St Bytes FP GU)
theorem Bo {a b c : World} (f : Below b.heap.size b c) (g : Below a.heap.size a b) : Below a.heap.size a c := g.trans (f.mono g.size)
theorem Zf (F : Nat → Prop) (w : World) (gp ge p : Nat) (ix : CZ) (s : St) (cb : CB) (ev : Int → Value) (e : Ent) (v : Value) (x : Wr) (h : Aw F w p ix s cb ev) (hc : ∀ q ∈ s.chains, q.2.length ≤ 1000) (hp : Bk w gp #[.pointer (some ⟨p, 0, none⟩)] 44) (hb : Bk w ge (IG e v) 72) :
   Calls Tryz.prog 173 #[.agg (wrC x).toArray, .pointer (some ⟨gp, 0, none⟩), .pointer (some ⟨ge, 0, none⟩)] w fun r w' => r = .returned (.bool (FP s.chains e.t0 e.n0 x)) ∧ Below w.heap.size w w' := by
 obtain ⟨at_, an, ok, hN⟩ : ∃ a b c, EX x.key s.chains = (a, b, c) := ⟨_, _, _, rfl⟩
 have hNw : Aa (∀ W, Aw F W p ix s cb ev → Calls Tryz.prog 174 #[.pointer (some ⟨ix.sp, 0, none⟩), .agg (AZ x.key).toArray] W fun r w' => r = .returned (.tuple #[.agg #[.int .i64 at_, .int .u8 an], .bool ok]) ∧ Below W.heap.size W w') := ⟨fun W hW => by
   have := Iy F W ix.sp ix.mc s.chains cb x.key hW.st hc
   rwa [hN] at this⟩
 have hCm : Aa (∀ W, Calls Tryz.prog 68 #[.agg #[.int .i64 at_, .int .u8 an], .agg #[.int .i64 e.t0, .int .u8 e.n0]] W fun r w' => r = .returned (.int .i64 (GU at_ an e.t0 e.n0)) ∧ Below W.heap.size W w') := ⟨fun W => D6 W at_ an e.t0 e.n0⟩
 obtain ⟨X, hX⟩ : ∃ X, X = FP s.chains e.t0 e.n0 x := ⟨_, rfl⟩
 have hres : (ok && decide (0 < GU at_ an e.t0 e.n0)) = X := by
   rw [hX, Rz]
   unfold EX at hN
   unfold FP
   cases hl : (Plain.chainOf x.key s.chains).getLast? with
   | none => rw [hl] at hN; simp only [Prod.mk.injEq] at hN; rw [← hN.2.2]; rfl
   | some y => rw [hl] at hN; simp only [Prod.mk.injEq] at hN; rw [← hN.2.2, ← hN.1, ← hN.2.1]; simp
 rw [← hX]
 obtain ⟨Y, hY⟩ : ∃ Y, Y = GU at_ an e.t0 e.n0 := ⟨_, rfl⟩
 rw [← hY] at hCm hres
 replace h := Aa.mk h
 replace hp := Aa.mk hp
 replace hb := Aa.mk hb
 replace hres := Aa.mk hres
 clear hc hN hX hY
 go_enter Tryz.func173, Tryz.ntmps173
 go_wp2_with (first
   | ((with_reducible refine Ac (N := 3) rfl ?_); refine Aj (N := 3) (C := (wrC x).toArray) rfl rfl (by first | (go_simp; done) | (go_simp; rfl)) ?_; intro g3 w1 h3 b3 f1))
 have P1 := Aa.mk (h.out.below f1.out)
 have p1 := Aa.mk (Ob.Ad hp.out f1.out)
 have hS : ∀ W, Fr (fun _ => False) w1 W → (W.cell? ⟨gp, 0, none⟩ = some (.pointer (some ⟨p, 0, none⟩)) ∧ W.cell? ⟨p, 0, none⟩ = some (.pointer (some ⟨ix.sp, 0, none⟩))) ∧ W.rangeAt g3 0 (AZ x.key) := fun W f => ⟨⟨Bk.cell (Ob.Ad p1.out f.Ad) rfl, Bk.cell (Ob.Ad P1.out.bp f.Ad) rfl⟩, Bk.range (Ob.Ad b3.out f.Ad) 0 16 (BV x)⟩
 replace hS := Aa.mk hS
 have u79 := Tryz.underlying103
 have i79 : (Tryz.prog.info? 103).map (·.size) = some (AZ x.key).length := by rw [Ai]; exact AB
 go_cut [5, 6] from 7 to 16 (fun s5 s6 wx => ∃ g5, s5 = .pointer (some ⟨g5, 0, none⟩) ∧ s6 = .bool ok ∧ Aa (Bk wx g5 #[.int .i64 at_, .int .u8 an] 32 ∧ Below w1.heap.size w1 wx))
 case first =>
   have P1a := Aa.mk (P1.out.below (Ag (Below.refl _ _)))
   have P1b := Aa.mk (P1.out.below (Ag (Ah (Below.refl _ _) (.cells #[.int .i64 0, .int .u8 0] 32))))
   have D1a : Aa (Below w1.heap.size w1 w1.drew) := ⟨Ag (Below.refl _ _)⟩
   have D1b : Aa (Below w1.heap.size w1 (w1.alloc (.cells #[.int .i64 0, .int .u8 0] 32)).drew) := ⟨Ag (Ah (Below.refl _ _) _)⟩
   have O1b : Aa (Bk (w1.alloc (.cells #[.int .i64 0, .int .u8 0] 32)).drew w1.heap.size #[.int .i64 0, .int .u8 0] 32) := ⟨Ob.drew (Ob.new w1 _)⟩
   refine wp_region_noPanic ?_
   go_region_held_law (fun W => (W.cell? ⟨gp, 0, none⟩ = some (.pointer (some ⟨p, 0, none⟩)) ∧ W.cell? ⟨p, 0, none⟩ = some (.pointer (some ⟨ix.sp, 0, none⟩))) ∧ W.rangeAt g3 0 (AZ x.key))
     (exact hS.out _ (by repeat (first | exact Fr.refl _ _ | exact Fr.of_below (Aa.out G10) | refine Fr.drew ?_ | refine Fr.alloc ?_ _ | refine Fr.set ?_ _ _ _ (.inr (Nat.le_refl _)) | refine Fr.set ?_ _ _ _ (.inr (Aa.out G10).size))))
     (first
       | (go_at_call 174
          refine (hNw.out w1.drew P1a.out).mono ?_
          rintro r w10 ⟨rfl, f10⟩
          have G10 : Aa (Below w1.heap.size w1 w10) := ⟨Bo f10 D1a.out⟩
          have a10 : Aa (Bk (w10.alloc (.cells #[.int .i64 0, .int .u8 0] 32)) w10.heap.size #[.int .i64 0, .int .u8 0] 32) := ⟨Ob.new w10 _⟩
          have y0 := Bk.cell a10.out (j := 0) rfl
          have y1 := Bk.cell a10.out (j := 1) rfl
          have z0 := Bk.free a10.out 0
          have z1 := Bk.free a10.out 1
          clear f10)
       | (go_at_call 174
          refine (hNw.out (w1.alloc (.cells #[.int .i64 0, .int .u8 0] 32)).drew P1b.out).mono ?_
          rintro r w10 ⟨rfl, f10⟩
          have G10 : Aa (Below w1.heap.size w1 w10) := ⟨Bo f10 D1b.out⟩
          have a10 := Aa.mk (Ob.Ad O1b.out f10)
          have y0 := Bk.cell a10.out (j := 0) rfl
          have y1 := Bk.cell a10.out (j := 1) rfl
          have z0 := Bk.free a10.out 0
          have z1 := Bk.free a10.out 1
          clear f10))
   all_goals
     refine NoPanic.normal ?_
     go_split_ands
     clear y0 y1 z0 z1
     go_wp2_with fail
     go_meet
     first
       | exact ⟨_, rfl, rfl, ⟨Ob.new w10 _, ((Fr.of_below G10.out).alloc _).Ad⟩⟩
       | exact ⟨_, rfl, rfl, ⟨Bk.set (Bk.set a10.out 0 _) 1 _, (((Fr.of_below G10.out)).set _ _ _ (.inr (Nat.le_refl _))).set _ _ _ (.inr (Nat.le_refl _)) |>.Ad⟩⟩
 case rest =>
   obtain ⟨g5, rfl, rfl, H⟩ := hcut
   have b5 := Aa.mk H.out.1
   have be := Aa.mk (Ob.Ad (Ob.Ad hb.out f1.out) H.out.2)
   have c0 := Bk.cell b5.out (j := 0) rfl
   have c1 := Bk.cell b5.out (j := 1) rfl
   have e1 : wc.cell? ⟨ge, 1, none⟩ = some (.int .i64 e.t0) := Bk.cell be.out rfl
   have e2 : wc.cell? ⟨ge, 2, none⟩ = some (.int .u8 e.n0) := Bk.cell be.out rfl
   cases ok
   all_goals
     go_wp2_with (first
       | (go_at_call 68; refine (hCm.out _).mono ?_; rintro r w7 ⟨rfl, f7⟩; replace f7 := Aa.mk f7))
   all_goals
     go_returns
     have hr := hres.out
     simp only [Bool.true_and, Bool.false_and] at hr
     subst hr
     first
       | exact ⟨rfl, f1.out.trans ((Bo f7.out H.out.2).mono f1.out.size)⟩
       | exact ⟨rfl, f1.out.trans (H.out.2.mono f1.out.size)⟩
end Go.Proofs.YtchfmgbjddopoaaGreatDoor.Hand
