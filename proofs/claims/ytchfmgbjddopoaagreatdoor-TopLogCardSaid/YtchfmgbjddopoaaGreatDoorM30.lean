import Derived.Test.YtchfmgbjddopoaaGreatDoorM27
import Derived.Test.YtchfmgbjddopoaaGreatDoorM29
set_option linter.unusedVariables false
set_option linter.unusedSimpArgs false
set_option maxHeartbeats 6400000
set_option maxRecDepth 100000
namespace Go.Proofs.YtchfmgbjddopoaaGreatDoor.Hand
open Go.RowKit Go.Proofs.YtchfmgbjddopoaaGreatDoorW.PrintWords Go.Proofs.YtchfmgbjddopoaaGreatDoorW.PrintLast Go.Proofs.YtchfmgbjddopoaaGreatDoorW.PrintMore
attribute [local go_sem ↓] Go.wp_at_zero Go.wp_at_succ
open Plain (Ky Wr Rc Ver Ent St Bytes enc IR EL encR zz pack Dk DF Dv Fit CJ)
structure La (w : World) (B : Nat) (r : Rc) (wv pv : Value) : Prop where
 ws : Hz w B wv r.ws
 ps : w.ownsRow B 3 1 pv r.parts.length (r.parts.flatMap YD)
theorem La.row {w : World} {B : Nat} {r : Rc} {wv pv : Value} (h : La w B r wv pv) (hf : Fit r) : KZ w r wv pv :=
 ⟨h.ws.row, RowK.own (fun _ => rfl) h.ps rfl, by have := hf.few; omega, by have := hf.some; omega⟩
theorem La.below {w w' : World} {B : Nat} {r : Rc} {wv pv : Value} (h : La w B r wv pv) (f : Below w.heap.size w w') : La w' B r wv pv := ⟨own_below h.ws f, own_below h.ps f⟩
abbrev R9 (k i t0 n0 t1 n1 : Int) (wv : Value) (y : Bool) (pv : Value) : Array Value := #[.int .i64 k, .int .i64 i, .int .i64 t0, .int .u8 n0, .int .i64 t1, .int .u8 n1, wv, .bool y, pv]
theorem ZO (k i t0 n0 t1 n1 : Int) (wv : Value) (y : Bool) (pv : Value) (a b : Int) : over (R9 k i t0 n0 t1 n1 wv y pv) 2 (BX a b).toList = R9 k i a b t1 n1 wv y pv := by simp [over]
theorem Xi (k i t0 n0 t1 n1 : Int) (wv : Value) (y : Bool) (pv : Value) (a b : Int) : over (R9 k i t0 n0 t1 n1 wv y pv) 4 (BX a b).toList = R9 k i t0 n0 a b wv y pv := by simp [over]
theorem Q4 {w : World} {B : Nat} {r : Rc} (h1 : r.ws = []) (h2 : r.parts = []) : La w B r (.slice none 0 0) (.slice none 0 0) := ⟨by rw [Hz, h1]; exact World.ownsRow_nil _ _ _ _, by rw [h2]; exact World.ownsRow_nil _ _ _ _⟩
theorem ZW : (Tryz.prog.info? 3).map (fun i => (i.zero, i.size, i.bytes)) = some (some (.int .i64 0), 1, 8) := by kernel_rfl
theorem XG (w : World) (b o c : Nat) (r : Rc) (hf : Fit r) (hg : Dv r = true) (hlc : (encR r).length ≤ c) (hbl : b < w.heap.size) (hrd : ∀ j x, (encR r)[j]? = some x → w.cell? ⟨b, o + j, none⟩ = some (.int .u8 x)) :
   Calls Tryz.prog 16 #[.slice (some ⟨b, o, none⟩) (encR r).length c] w fun e w' => (∃ wv pv, e = .returned (.tuple #[.agg (Df r wv pv), .int .i64 0]) ∧ La w' w.heap.size r wv pv) ∧ Below w.heap.size w w' := by
 have honly := Plain.KO hg
 have hlen := (Plain.Ei hf).2
 have hR : ∀ W g, Bk W g #[.slice (some ⟨b, o, none⟩) (encR r).length c, .bool false] 95 → w.heap.size ≤ g → Below w.heap.size w W → Rdr W g b (encR r) := fun W g hB hwg hF =>
   ⟨o, c, hB, hlc, by omega, by omega, Nat.lt_of_lt_of_le hbl hF.size, fun j x hj => by rw [CQ (hF.block b hbl)]; exact hrd j x hj⟩
 have hGd : ∀ W wv pv, La W w.heap.size r wv pv → Calls Tryz.prog 7 #[.agg (Df r wv pv)] W fun e W' => e = .returned (.bool true) ∧ Below W.heap.size W W' := fun W wv pv hW => by
   obtain ⟨A1, c1, rfl⟩ := (hW.row hf).ws.slice
   obtain ⟨A2, c2, rfl⟩ := (hW.row hf).ps.slice
   have := II W r A1 A2 _ c1 _ c2 (hW.row hf) (by have := hf.some; omega)
   rw [hg] at this
   exact this
 have hz := LC hf.id.1 hf.id.2
 obtain ⟨L, hL⟩ : ∃ L, L = (encR r).length := ⟨_, rfl⟩
 rw [← hL] at hR ⊢
 obtain ⟨E, hE⟩ : ∃ E, E = encR r := ⟨_, rfl⟩
 rw [← hE] at hR
 obtain ⟨T, hT⟩ : ∃ T, encR r = enc r.kind.toNat ++ (enc (zz r.id).toNat ++ T) := ⟨_, rfl⟩
 have hEk : Aa (E = enc r.kind.toNat ++ (enc (zz r.id).toNat ++ T)) := ⟨by rw [hE, hT]⟩
 have hKd : Aa (∀ W g, Rdr W g b (enc r.kind.toNat ++ (enc (zz r.id).toNat ++ T)) → Calls Tryz.prog 43 #[.pointer (some ⟨g, 0, none⟩), .int .i64 5] W fun e W' => e = .returned (.int .i64 r.kind) ∧ Rdr W' g b (enc (zz r.id).toNat ++ T) ∧ Fr (fun k => k = g) W W') := ⟨fun W g hW => by
   have := EM W g b r.kind.toNat 5 _ hW (by have := hf.kind; omega) (by decide)
   rwa [Int.toNat_of_nonneg (by have := hf.kind; omega)] at this⟩
 have hNm : Aa (∀ W g, Rdr W g b (enc (zz r.id).toNat ++ T) → Calls Tryz.prog 45 #[.pointer (some ⟨g, 0, none⟩)] W fun e W' => e = .returned (.int .u64 (zz r.id)) ∧ Rdr W' g b T ∧ Fr (fun k => k = g) W W') := ⟨fun W g hW => by
   have := Po W g b (zz r.id).toNat _ hW (by omega)
   rwa [Int.toNat_of_nonneg hz.1] at this⟩
 have hZg : Aa (∀ W, Calls Tryz.prog 44 #[.int .u64 (zz r.id)] W fun e W' => e = .returned (.int .i64 r.id) ∧ Below W.heap.size W W') := ⟨fun W => (Xp W r.id (by have := hf.id; omega) (by have := hf.id; omega)).mono (by
   rintro e w' ⟨rfl, q, rfl⟩
   exact ⟨rfl, Ae (Below.refl _ _) q⟩)⟩
 have hGR := Aa.mk hg
 obtain ⟨i0, hi, hz0, hz1, hz2⟩ := info_parts ZW
 replace hi := Aa.mk hi
 replace hz0 := Aa.mk hz0
 replace hz1 := Aa.mk hz1
 replace hz2 := Aa.mk hz2
 replace hR := Aa.mk hR
 replace hGd := Aa.mk hGd
 replace hf := Aa.mk hf
 replace hE := Aa.mk hE
 replace hT := Aa.mk hT
 replace honly := Aa.mk honly
 replace hbl := Aa.mk hbl
 clear hlc hrd hz hg hL hlen
 go_enter Tryz.func16, Tryz.ntmps16
 go_upto_region 4 with (first
   | ((with_reducible refine Ac (N := 2) rfl ?_); refine Aj (N := 2) (C := Z9) rfl rfl (by first | (go_simp; done) | (go_simp; rfl)) ?_; intro g2 w2 h2 b2 f2)
   | ((with_reducible refine Ac (N := 8) rfl ?_); refine Aj (N := 8) (C := #[.slice (some ⟨b, o, none⟩) L c, .bool false]) rfl rfl (by first | (go_simp; done) | (go_simp; rfl)) ?_; intro g4 w3 h4 b4 f3
      have h4w : Aa (w.heap.size ≤ g4) := ⟨Nat.le_trans f2.out.size h4.out⟩
      have r3 := Aa.mk (hR.out w3 g4 b4.out h4w.out (f2.out.trans (f3.out.mono f2.out.size)))
      rw [hEk.out] at r3)
   | (go_at_call 43
      refine (hKd.out _ _ r3.out).mono ?_
      rintro e w4 ⟨rfl, r4, f4⟩
      have b24 := Aa.mk (Ob.fr (Ob.Ad b2.out f3.out) f4 (by have := Ob.lt b2.out; have := h4.out; omega))
      replace r4 := Aa.mk r4
      replace f4 := Aa.mk f4)
   | ((with_reducible refine Ac (N := 5) rfl ?_); refine Aj (N := 5) (C := Z9) rfl rfl (by first | (go_simp; done) | (go_simp; rfl)) ?_; intro g5 w5 h5 b5 f5)
   | ((with_reducible refine Af (t := 36) (p := 5) (v := .tmp 11) rfl ?_); go_must (refine Ak rfl (ty := 36) (x := .tmp 5) (y := .tmp 11) (cells := R9 r.kind 0 0 0 0 0 (.slice none 0 0) false (.slice none 0 0)) rfl rfl rfl b5.out Bh (by kernel_rfl) (Nat.le_refl 9) (R9 r.kind 0 0 0 0 0 (.slice none 0 0) false (.slice none 0 0)) (Aq (C := Z9) rfl) ?_); intro w6 b56 f6
      have s2 := f2.out.size
      have s3 := f3.out.size
      have s4 := f4.out.size
      have q2 := Ob.lt b2.out
      have q4 := r4.out.lt
      have h45 : Aa (g4 ≠ g5) := ⟨by have := h5.out; have := Ob.lt b4.out; omega⟩
      have h25 : Aa (g2 ≠ g5) := ⟨by have := h5.out; omega⟩
      have h24 : Aa (g2 ≠ g4) := ⟨by have := h4.out; omega⟩
      have hb5 : Aa (b ≠ g5) := ⟨by have := h5.out; have := hbl.out; omega⟩
      have hw5 : Aa (w.heap.size ≤ g5) := ⟨by have := h5.out; omega⟩
      clear s2 s3 s4 q2 q4
      have r6 := Aa.mk ((r4.out.below f5.out).fr f6.out h45.out hb5.out)
      have b26 := Aa.mk (Ob.fr (Ob.Ad b24.out f5.out) f6.out h25.out)
      have F6 : Aa (Fr (fun k => k = g4 ∨ k = g5) w w6) := ⟨((((Fr.of_below f2.out).trans (Fr.of_below f3.out)).trans (f4.out.weaken fun k _ e => .inl e)).trans (Fr.of_below f5.out)).trans (f6.out.weaken fun k _ e => .inr e)⟩)
   | (go_at_call 45
      refine (hNm.out _ _ r6.out).mono ?_
      rintro e w7 ⟨rfl, r7, f7⟩
      have b57 := Aa.mk (Ob.fr b56.out f7 (fun e => h45.out e.symm))
      have b27 := Aa.mk (Ob.fr b26.out f7 h24.out)
      have F7 := Aa.mk (F6.out.trans (f7.weaken fun k _ e => .inl e))
      replace r7 := Aa.mk r7
      clear f7)
   | (go_at_call 44
      refine (hZg.out _).mono ?_
      rintro e w8 ⟨rfl, f8⟩
      have b58 := Aa.mk (Ob.Ad b57.out f8)
      have b28 := Aa.mk (Ob.Ad b27.out f8)
      have F8 := Aa.mk (F7.out.trans (Fr.of_below f8))
      have r8 := Aa.mk (r7.out.below f8)
      have z8 := Bk.free b58.out 1
      have c8 : w8.cell? ⟨g5, 1, none⟩ = some (.int .i64 0) := Bk.cell b58.out rfl
      clear f8)
   | ((with_reducible refine Af (t := 2) (p := 15) (v := .tmp 14) rfl ?_)
      refine Ig rfl (ty := 2) (x := .tmp 15) (y := .tmp 14) (b := g5) (j := 1) (v := .int .i64 r.id) rfl (by go_simp; done) b58.out (R9 r.kind r.id 0 0 0 0 (.slice none 0 0) false (.slice none 0 0)) rfl ?_
      intro w9 b59 f9
      clear z8 c8
      have r9 := Aa.mk (r8.out.fr f9.out h45.out hb5.out)
      have b29 := Aa.mk (Ob.fr b28.out f9.out h25.out)
      have F9 := Aa.mk (F8.out.trans (f9.out.weaken fun k _ e => .inr e)))
   )
 by_cases k3 : r.kind = 3
 · have hTT : T = [] := by
     have h0 := hT.out
     rw [Plain.encR, if_neg (by omega), if_neg (by omega), if_neg (by omega)] at h0
     exact (List.append_cancel_left (List.append_cancel_left h0)).symm
   have ho := honly.out
   rw [CJ, if_neg (by omega), if_neg (by omega), if_neg (by omega)] at ho
   have e0 : r.t0 = 0 := by rw [ho]
   have e1 : r.n0 = 0 := by rw [ho]
   have e2 : r.t1 = 0 := by rw [ho]
   have e3 : r.n1 = 0 := by rw [ho]
   have e4 : r.ws = [] := by rw [ho]
   have e5 : r.yes = false := by rw [ho]
   have e6 : r.parts = [] := by rw [ho]
   have c5 : w9.cell? ⟨g5, 0, none⟩ = some (.int .i64 r.kind) := Bk.cell b59.out rfl
   rw [hTT] at r9
   obtain ⟨oX, cX, b4X, _, _, _, _, _⟩ := (Aa.out r9)
   have c40 : w9.cell? ⟨g4, 1, none⟩ = some (.bool false) := Bk.cell b4X rfl
   have c41 : w9.cell? ⟨g4, 0, none⟩ = some (.slice (some ⟨b, oX, none⟩) 0 cX) := Bk.cell b4X rfl
   clear b4X
   obtain ⟨D, hD⟩ : ∃ D, D = Df r (.slice none 0 0) (.slice none 0 0) := ⟨_, rfl⟩
   have hGD : Aa (∀ W, La W w.heap.size r (.slice none 0 0) (.slice none 0 0) → Calls Tryz.prog 7 #[.agg D] W fun e W' => e = .returned (.bool true) ∧ Below W.heap.size W W') := ⟨by rw [hD]; exact fun W => hGd.out W _ _⟩
   have hDs : Aa (D.size = 9) := ⟨by rw [hD]; rfl⟩
   have hD1 : Aa (D.all (·.oneCell') = true) := ⟨by rw [hD, Df]; kernel_rfl⟩
   have b5X : Aa (Bk w9 g5 D 36) := ⟨by rw [hD]; rw [Df, e0, e1, e2, e3, e5]; exact (Aa.out b59)⟩
   have b2X := Aa.mk (Aa.out b29)
   have FX := Aa.mk (Aa.out F9)
   have OX : Aa (La w9 w.heap.size r (.slice none 0 0) (.slice none 0 0)) := ⟨Q4 e4 e6⟩
   replace hD := Aa.mk hD
   clear ho e0 e1 e2 e3 e4 e5 e6 hTT
   go_wp2_with (first
   | ((with_reducible refine Ac (N := 69) rfl ?_); (refine BO (N := 69) rfl (by rfl) rfl rfl (Aa.out b5X) Tryz.underlying36 rfl Bh D.toList (AU (Aa.out hDs)) (by rw [Array.length_toList, Aa.out hDs]) ?_))
   | (go_at_call 7
      refine ((Aa.out hGD) _ (Aa.out OX)).mono ?_
      rintro e wG ⟨rfl, fG⟩
      have b5G := Aa.mk (Ob.Ad (Aa.out b5X) fG)
      have b2G := Aa.mk (Ob.Ad (Aa.out b2X) fG)
      have FG := Aa.mk ((Aa.out FX).trans (Fr.of_below fG))
      have OG := Aa.mk ((Aa.out OX).below fG)
      clear fG)
   | ((with_reducible refine Ac (N := 74) rfl ?_); (refine Au (N := 74) rfl rfl rfl rfl (Aa.out b5G) Tryz.underlying36 rfl Bh D.toList (AU (Aa.out hDs)) (by rw [Array.length_toList, Aa.out hDs]) ?_))
   | ((with_reducible refine Af (t := 36) (p := 2) (v := .tmp 74) rfl ?_); go_must (refine Ak rfl (ty := 36) (x := .tmp 2) (y := .tmp 74) (cells := D) rfl rfl rfl (Aa.out b2G) (by rw [Aa.out hDs]; exact Bh) (Aa.out hD1) (by rw [Aa.out hDs]; exact Nat.le_refl 9) D (Aq (by rw [Aa.out hDs]; rfl)) ?_); intro wH b2H fH))
   have FH : Fr (fun k => k = g4 ∨ k = g5 ∨ k = g2) w wH := (FG.out.weaken fun k _ e => e.elim .inl fun e => .inr (.inl e)).trans (fH.out.weaken fun k _ e => .inr (.inr e))
   have BH : Below w.heap.size w wH := FH.below (fun k hk e => by have := hw5.out; have := h4w.out; have := h2.out; omega) (Nat.le_refl _)
   exact AO Tryz.results16 rfl b2H.out Tryz.underlying36 rfl Bh hDs.out rfl ⟨⟨_, _, by rw [hD.out]; rfl, ⟨AP OG.out.ws fH.out (fun k hk => hk ▸ AC OG.out.ws b2G.out (by decide)), AP OG.out.ps fH.out (fun k hk => hk ▸ AC OG.out.ps b2G.out (by decide))⟩⟩, BH⟩
 by_cases k25 : r.kind = 2 ∨ r.kind = 5
 · have hTT : T = enc (pack r.t1 r.n1) ++ [] := by
     have h0 := hT.out
     rw [Plain.encR, if_neg (by omega), if_pos k25] at h0
     rw [List.append_nil]
     exact (List.append_cancel_left (List.append_cancel_left h0)).symm
   have ho := honly.out
   rw [CJ, if_neg (by omega), if_pos k25] at ho
   have e0 : r.t0 = 0 := by rw [ho]
   have e1 : r.n0 = 0 := by rw [ho]
   have e2 : r.ws = [] := by rw [ho]
   have e3 : r.yes = false := by rw [ho]
   have e4 : r.parts = [] := by rw [ho]
   have c5 : w9.cell? ⟨g5, 0, none⟩ = some (.int .i64 r.kind) := Bk.cell b59.out rfl
   rw [hTT] at r9
   have hS4 : Aa (∀ W, Rdr W g4 b (enc (pack r.t1 r.n1) ++ []) → Calls Tryz.prog 46 #[.pointer (some ⟨g4, 0, none⟩)] W fun e W' => e = .returned (.agg (BX r.t1 r.n1)) ∧ Rdr W' g4 b ([]) ∧ Fr (fun k => k = g4) W W') := ⟨fun W hW => Gs W g4 b r.t1 r.n1 _ hW hf.out.s1.1 hf.out.s1.2.1 hf.out.s1.2.2⟩
   replace e0 := Aa.mk e0
   replace e1 := Aa.mk e1
   replace e2 := Aa.mk e2
   replace e3 := Aa.mk e3
   replace e4 := Aa.mk e4
   clear ho hTT
   rcases k25 with k25 | k25
   all_goals
     go_wp2_with (first
     | (go_at_call 46
        refine (hS4.out _ (Aa.out r9)).mono ?_
        rintro e wA4 ⟨rfl, rA4, fA4⟩
        have b5A4 := Aa.mk (Ob.fr (Aa.out b59) fA4 (fun e => h45.out e.symm))
        have b2A4 := Aa.mk (Ob.fr (Aa.out b29) fA4 h24.out)
        have FA4 := Aa.mk ((Aa.out F9).trans (fA4.weaken fun k _ e => .inl e))
        replace rA4 := Aa.mk rA4
        clear fA4)
     | ((with_reducible refine Af (t := 32) (p := 34) (v := .tmp 33) rfl ?_); go_must (refine Ak rfl (ty := 32) (x := .tmp 34) (y := .tmp 33) (cells := BX r.t1 r.n1) rfl rfl rfl (Aa.out b5A4) Ic (by kernel_rfl) (by show 4 + 2 ≤ 9; decide) (R9 r.kind r.id 0 0 r.t1 r.n1 (.slice none 0 0) false (.slice none 0 0)) (Xi _ _ _ _ _ _ _ _ _ _ _) ?_); intro wX0 b5X0 fB4
        have rX0 := Aa.mk ((Aa.out rA4).fr fB4.out h45.out hb5.out)
        have b2X0 := Aa.mk (Ob.fr (Aa.out b2A4) fB4.out h25.out)
        have FX0 := Aa.mk ((Aa.out FA4).trans (fB4.out.weaken fun k _ e => .inr e))
        obtain ⟨oX, cX, b4X, _, _, _, _, _⟩ := (Aa.out rX0)
        have c40 : wX0.cell? ⟨g4, 1, none⟩ = some (.bool false) := Bk.cell b4X rfl
        have c41 : wX0.cell? ⟨g4, 0, none⟩ = some (.slice (some ⟨b, oX, none⟩) 0 cX) := Bk.cell b4X rfl
        clear b4X
        obtain ⟨D, hD⟩ : ∃ D, D = Df r (.slice none 0 0) (.slice none 0 0) := ⟨_, rfl⟩
        have hGD : Aa (∀ W, La W w.heap.size r (.slice none 0 0) (.slice none 0 0) → Calls Tryz.prog 7 #[.agg D] W fun e W' => e = .returned (.bool true) ∧ Below W.heap.size W W') := ⟨by rw [hD]; exact fun W => hGd.out W _ _⟩
        have hDs : Aa (D.size = 9) := ⟨by rw [hD]; rfl⟩
        have hD1 : Aa (D.all (·.oneCell') = true) := ⟨by rw [hD, Df]; kernel_rfl⟩
        have b5X : Aa (Bk wX0 g5 D 36) := ⟨by rw [hD]; rw [Df, Aa.out e0, Aa.out e1, Aa.out e3]; exact (Aa.out b5X0)⟩
        have b2X := Aa.mk (Aa.out b2X0)
        have FX := Aa.mk (Aa.out FX0)
        have OX : Aa (La wX0 w.heap.size r (.slice none 0 0) (.slice none 0 0)) := ⟨Q4 (Aa.out e2) (Aa.out e4)⟩
        replace hD := Aa.mk hD)
     | ((with_reducible refine Ac (N := 69) rfl ?_); (refine BO (N := 69) rfl (by rfl) rfl rfl (Aa.out b5X) Tryz.underlying36 rfl Bh D.toList (AU (Aa.out hDs)) (by rw [Array.length_toList, Aa.out hDs]) ?_))
     | (go_at_call 7
        refine ((Aa.out hGD) _ (Aa.out OX)).mono ?_
        rintro e wG ⟨rfl, fG⟩
        have b5G := Aa.mk (Ob.Ad (Aa.out b5X) fG)
        have b2G := Aa.mk (Ob.Ad (Aa.out b2X) fG)
        have FG := Aa.mk ((Aa.out FX).trans (Fr.of_below fG))
        have OG := Aa.mk ((Aa.out OX).below fG)
        clear fG)
     | ((with_reducible refine Ac (N := 74) rfl ?_); (refine Au (N := 74) rfl rfl rfl rfl (Aa.out b5G) Tryz.underlying36 rfl Bh D.toList (AU (Aa.out hDs)) (by rw [Array.length_toList, Aa.out hDs]) ?_))
     | ((with_reducible refine Af (t := 36) (p := 2) (v := .tmp 74) rfl ?_); go_must (refine Ak rfl (ty := 36) (x := .tmp 2) (y := .tmp 74) (cells := D) rfl rfl rfl (Aa.out b2G) (by rw [Aa.out hDs]; exact Bh) (Aa.out hD1) (by rw [Aa.out hDs]; exact Nat.le_refl 9) D (Aq (by rw [Aa.out hDs]; rfl)) ?_); intro wH b2H fH))
     have FH : Fr (fun k => k = g4 ∨ k = g5 ∨ k = g2) w wH := (FG.out.weaken fun k _ e => e.elim .inl fun e => .inr (.inl e)).trans (fH.out.weaken fun k _ e => .inr (.inr e))
     have BH : Below w.heap.size w wH := FH.below (fun k hk e => by have := hw5.out; have := h4w.out; have := h2.out; omega) (Nat.le_refl _)
     exact AO Tryz.results16 rfl b2H.out Tryz.underlying36 rfl Bh hDs.out rfl ⟨⟨_, _, by rw [hD.out]; rfl, ⟨AP OG.out.ws fH.out (fun k hk => hk ▸ AC OG.out.ws b2G.out (by decide)), AP OG.out.ps fH.out (fun k hk => hk ▸ AC OG.out.ps b2G.out (by decide))⟩⟩, BH⟩
 by_cases k1 : r.kind = 1
 · have hTT : T = enc (pack r.t0 r.n0) ++ (enc (pack r.t1 r.n1) ++ (EL r.ws ++ [])) := by
     have h0 := hT.out
     rw [Plain.encR, if_pos k1] at h0
     rw [List.append_nil]
     exact (List.append_cancel_left (List.append_cancel_left h0)).symm
   have ho := honly.out
   rw [CJ, if_pos k1] at ho
   have e0 : r.yes = false := by rw [ho]
   have e1 : r.parts = [] := by rw [ho]
   have c5 : w9.cell? ⟨g5, 0, none⟩ = some (.int .i64 r.kind) := Bk.cell b59.out rfl
   rw [hTT] at r9
   have hS4 : Aa (∀ W, Rdr W g4 b (enc (pack r.t1 r.n1) ++ (EL r.ws ++ [])) → Calls Tryz.prog 46 #[.pointer (some ⟨g4, 0, none⟩)] W fun e W' => e = .returned (.agg (BX r.t1 r.n1)) ∧ Rdr W' g4 b ((EL r.ws ++ [])) ∧ Fr (fun k => k = g4) W W') := ⟨fun W hW => Gs W g4 b r.t1 r.n1 _ hW hf.out.s1.1 hf.out.s1.2.1 hf.out.s1.2.2⟩
   have hS2 : Aa (∀ W, Rdr W g4 b (enc (pack r.t0 r.n0) ++ (enc (pack r.t1 r.n1) ++ (EL r.ws ++ []))) → Calls Tryz.prog 46 #[.pointer (some ⟨g4, 0, none⟩)] W fun e W' => e = .returned (.agg (BX r.t0 r.n0)) ∧ Rdr W' g4 b ((enc (pack r.t1 r.n1) ++ (EL r.ws ++ []))) ∧ Fr (fun k => k = g4) W W') := ⟨fun W hW => Gs W g4 b r.t0 r.n0 _ hW hf.out.s0.1 hf.out.s0.2.1 hf.out.s0.2.2⟩
   have hWs : Aa (∀ W, Rdr W g4 b (EL r.ws ++ []) → Calls Tryz.prog 47 #[.pointer (some ⟨g4, 0, none⟩)] W fun e W' => (∃ v', e = .returned v' ∧ Hz W' W.heap.size v' r.ws) ∧ Rdr W' g4 b [] ∧ Fr (fun k => k = g4) W W') := ⟨fun W hW => SE W g4 b r.ws [] hW (by
     have := hGR.out
     unfold Dv at this
     rw [Bool.and_eq_true, if_pos k1] at this
     exact (Plain.BL this.2).2.2.2.1) hf.out.few hf.out.ws⟩
   replace e0 := Aa.mk e0
   replace e1 := Aa.mk e1
   clear ho hTT
   go_wp2_with (first
   | (go_at_call 46
      refine (hS4.out _ (Aa.out rX0)).mono ?_
      rintro e wA4 ⟨rfl, rA4, fA4⟩
      have b5A4 := Aa.mk (Ob.fr (Aa.out b5X0) fA4 (fun e => h45.out e.symm))
      have b2A4 := Aa.mk (Ob.fr (Aa.out b2X0) fA4 h24.out)
      have FA4 := Aa.mk ((Aa.out FX0).trans (fA4.weaken fun k _ e => .inl e))
      replace rA4 := Aa.mk rA4
      clear fA4)
   | ((with_reducible refine Af (t := 32) (p := 25) (v := .tmp 24) rfl ?_); go_must (refine Ak rfl (ty := 32) (x := .tmp 25) (y := .tmp 24) (cells := BX r.t1 r.n1) rfl rfl rfl (Aa.out b5A4) Ic (by kernel_rfl) (by show 4 + 2 ≤ 9; decide) (R9 r.kind r.id r.t0 r.n0 r.t1 r.n1 (.slice none 0 0) false (.slice none 0 0)) (Xi _ _ _ _ _ _ _ _ _ _ _) ?_); intro wX1 b5X1 fB4
      have rX1 := Aa.mk ((Aa.out rA4).fr fB4.out h45.out hb5.out)
      have b2X1 := Aa.mk (Ob.fr (Aa.out b2A4) fB4.out h25.out)
      have FX1 := Aa.mk ((Aa.out FA4).trans (fB4.out.weaken fun k _ e => .inr e)))
   | (go_at_call 46
      refine (hS2.out _ (Aa.out r9)).mono ?_
      rintro e wA2 ⟨rfl, rA2, fA2⟩
      have b5A2 := Aa.mk (Ob.fr (Aa.out b59) fA2 (fun e => h45.out e.symm))
      have b2A2 := Aa.mk (Ob.fr (Aa.out b29) fA2 h24.out)
      have FA2 := Aa.mk ((Aa.out F9).trans (fA2.weaken fun k _ e => .inl e))
      replace rA2 := Aa.mk rA2
      clear fA2)
   | ((with_reducible refine Af (t := 32) (p := 22) (v := .tmp 21) rfl ?_); go_must (refine Ak rfl (ty := 32) (x := .tmp 22) (y := .tmp 21) (cells := BX r.t0 r.n0) rfl rfl rfl (Aa.out b5A2) Ic (by kernel_rfl) (by show 2 + 2 ≤ 9; decide) (R9 r.kind r.id r.t0 r.n0 0 0 (.slice none 0 0) false (.slice none 0 0)) (ZO _ _ _ _ _ _ _ _ _ _ _) ?_); intro wX0 b5X0 fB2
      have rX0 := Aa.mk ((Aa.out rA2).fr fB2.out h45.out hb5.out)
      have b2X0 := Aa.mk (Ob.fr (Aa.out b2A2) fB2.out h25.out)
      have FX0 := Aa.mk ((Aa.out FA2).trans (fB2.out.weaken fun k _ e => .inr e)))
   | (go_at_call 47
      refine (hWs.out _ (Aa.out rX1)).mono ?_
      rintro e wW ⟨⟨vW, rfl, oW⟩, rW, fW⟩
      obtain ⟨AW, cW, rfl⟩ := (Hz.row oW).slice
      have b5W := Aa.mk (Ob.fr (Aa.out b5X1) fW (fun e => h45.out e.symm))
      have b2W := Aa.mk (Ob.fr (Aa.out b2X1) fW h24.out)
      have oW := Aa.mk (AV oW (Nat.le_trans (Aa.out FX1).size (Nat.le_refl _)))
      have FW := Aa.mk ((Aa.out FX1).trans (fW.weaken fun k _ e => .inl e))
      have zW := Bk.free b5W.out 6
      have cW6 : wW.cell? ⟨g5, 6, none⟩ = some (.slice none 0 0) := Bk.cell b5W.out rfl
      replace rW := Aa.mk rW
      clear fW)
   | ((with_reducible refine Af (t := 33) (p := 28) (v := .tmp 27) rfl ?_)
      refine Ig rfl (ty := 33) (x := .tmp 28) (y := .tmp 27) (b := g5) (j := 6) (v := .slice AW r.ws.length cW) rfl (by go_simp; done) b5W.out (R9 r.kind r.id r.t0 r.n0 r.t1 r.n1 (.slice AW r.ws.length cW) false (.slice none 0 0)) rfl ?_
      intro wX2 b5X2 fX2
      clear zW cW6
      have rX2 := Aa.mk ((Aa.out rW).fr fX2.out h45.out hb5.out)
      have b2X2 := Aa.mk (Ob.fr (Aa.out b2W) fX2.out h25.out)
      have oX2 := AP oW.out fX2.out (fun k hk => hk ▸ AC oW.out b5W.out (by decide))
      have FX2 := Aa.mk ((Aa.out FW).trans (fX2.out.weaken fun k _ e => .inr e))
      obtain ⟨oX, cX, b4X, _, _, _, _, _⟩ := (Aa.out rX2)
      have c40 : wX2.cell? ⟨g4, 1, none⟩ = some (.bool false) := Bk.cell b4X rfl
      have c41 : wX2.cell? ⟨g4, 0, none⟩ = some (.slice (some ⟨b, oX, none⟩) 0 cX) := Bk.cell b4X rfl
      clear b4X
      obtain ⟨D, hD⟩ : ∃ D, D = Df r (.slice AW r.ws.length cW) (.slice none 0 0) := ⟨_, rfl⟩
      have hGD : Aa (∀ W, La W w.heap.size r (.slice AW r.ws.length cW) (.slice none 0 0) → Calls Tryz.prog 7 #[.agg D] W fun e W' => e = .returned (.bool true) ∧ Below W.heap.size W W') := ⟨by rw [hD]; exact fun W => hGd.out W _ _⟩
      have hDs : Aa (D.size = 9) := ⟨by rw [hD]; rfl⟩
      have hD1 : Aa (D.all (·.oneCell') = true) := ⟨by rw [hD, Df]; kernel_rfl⟩
      have b5X : Aa (Bk wX2 g5 D 36) := ⟨by rw [hD]; rw [Df, Aa.out e0]; exact (Aa.out b5X2)⟩
      have b2X := Aa.mk (Aa.out b2X2)
      have FX := Aa.mk (Aa.out FX2)
      have OX : Aa (La wX2 w.heap.size r (.slice AW r.ws.length cW) (.slice none 0 0)) := ⟨⟨oX2, by rw [Aa.out e1]; exact World.ownsRow_nil _ _ _ _⟩⟩
      replace hD := Aa.mk hD)
   | ((with_reducible refine Ac (N := 69) rfl ?_); (refine BO (N := 69) rfl (by rfl) rfl rfl (Aa.out b5X) Tryz.underlying36 rfl Bh D.toList (AU (Aa.out hDs)) (by rw [Array.length_toList, Aa.out hDs]) ?_))
   | (go_at_call 7
      refine ((Aa.out hGD) _ (Aa.out OX)).mono ?_
      rintro e wG ⟨rfl, fG⟩
      have b5G := Aa.mk (Ob.Ad (Aa.out b5X) fG)
      have b2G := Aa.mk (Ob.Ad (Aa.out b2X) fG)
      have FG := Aa.mk ((Aa.out FX).trans (Fr.of_below fG))
      have OG := Aa.mk ((Aa.out OX).below fG)
      clear fG)
   | ((with_reducible refine Ac (N := 74) rfl ?_); (refine Au (N := 74) rfl rfl rfl rfl (Aa.out b5G) Tryz.underlying36 rfl Bh D.toList (AU (Aa.out hDs)) (by rw [Array.length_toList, Aa.out hDs]) ?_))
   | ((with_reducible refine Af (t := 36) (p := 2) (v := .tmp 74) rfl ?_); go_must (refine Ak rfl (ty := 36) (x := .tmp 2) (y := .tmp 74) (cells := D) rfl rfl rfl (Aa.out b2G) (by rw [Aa.out hDs]; exact Bh) (Aa.out hD1) (by rw [Aa.out hDs]; exact Nat.le_refl 9) D (Aq (by rw [Aa.out hDs]; rfl)) ?_); intro wH b2H fH))
   have FH : Fr (fun k => k = g4 ∨ k = g5 ∨ k = g2) w wH := (FG.out.weaken fun k _ e => e.elim .inl fun e => .inr (.inl e)).trans (fH.out.weaken fun k _ e => .inr (.inr e))
   have BH : Below w.heap.size w wH := FH.below (fun k hk e => by have := hw5.out; have := h4w.out; have := h2.out; omega) (Nat.le_refl _)
   exact AO Tryz.results16 rfl b2H.out Tryz.underlying36 rfl Bh hDs.out rfl ⟨⟨_, _, by rw [hD.out]; rfl, ⟨AP OG.out.ws fH.out (fun k hk => hk ▸ AC OG.out.ws b2G.out (by decide)), AP OG.out.ps fH.out (fun k hk => hk ▸ AC OG.out.ps b2G.out (by decide))⟩⟩, BH⟩
 have k4 : r.kind = 4 := by have := hf.out.kind; omega
 obtain ⟨n, hn⟩ : ∃ n, n = r.parts.length := ⟨_, rfl⟩
 have hTT : T = enc (if r.yes then 1 else 0) ++ (enc (pack r.t1 r.n1) ++ (enc n ++ ((r.parts.flatMap fun p => enc p.toNat) ++ []))) := by
   have h0 := hT.out
   rw [Plain.encR, if_neg k1, if_neg k25, if_pos k4] at h0
   rw [List.append_nil, hn]
   exact (List.append_cancel_left (List.append_cancel_left h0)).symm
 have ho := honly.out
 rw [CJ, if_neg k1, if_neg k25, if_pos k4] at ho
 have e0 : r.t0 = 0 := by rw [ho]
 have e1 : r.n0 = 0 := by rw [ho]
 have e2 : r.ws = [] := by rw [ho]
 have hn8 : n ≤ 8 := by have := hf.out.some; omega
 have c5 : w9.cell? ⟨g5, 0, none⟩ = some (.int .i64 r.kind) := Bk.cell b59.out rfl
 rw [hTT] at r9
 obtain ⟨P0, hP0⟩ : ∃ P0, P0 = (r.parts.flatMap fun p => enc p.toNat) ++ [] := ⟨_, rfl⟩
 rw [← hP0] at r9
 have hS4 : Aa (∀ W, Rdr W g4 b (enc (pack r.t1 r.n1) ++ (enc n ++ P0)) → Calls Tryz.prog 46 #[.pointer (some ⟨g4, 0, none⟩)] W fun e W' => e = .returned (.agg (BX r.t1 r.n1)) ∧ Rdr W' g4 b (enc n ++ P0) ∧ Fr (fun k => k = g4) W W') := ⟨fun W hW => Gs W g4 b r.t1 r.n1 _ hW hf.out.s1.1 hf.out.s1.2.1 hf.out.s1.2.2⟩
 have hN4 : Aa (∀ W, Rdr W g4 b (enc n ++ P0) → Calls Tryz.prog 43 #[.pointer (some ⟨g4, 0, none⟩), .int .i64 8] W fun e W' => e = .returned (.int .i64 n) ∧ Rdr W' g4 b P0 ∧ Fr (fun k => k = g4) W W') := ⟨fun W hW => EM W g4 b n 8 _ hW (by omega) (by decide)⟩
 obtain ⟨gi, hgi⟩ : ∃ gi : Int, gi = if r.yes then 1 else 0 := ⟨_, rfl⟩
 have hY4 : Aa (∀ W, Rdr W g4 b (enc (if r.yes then 1 else 0) ++ (enc (pack r.t1 r.n1) ++ (enc n ++ P0))) → Calls Tryz.prog 43 #[.pointer (some ⟨g4, 0, none⟩), .int .i64 1] W fun e W' => e = .returned (.int .i64 gi) ∧ Rdr W' g4 b (enc (pack r.t1 r.n1) ++ (enc n ++ P0)) ∧ Fr (fun k => k = g4) W W') := ⟨fun W hW => by
   have := EM W g4 b _ 1 _ hW (by split <;> omega) (by decide)
   rw [hgi]
   cases hg : r.yes
   · rw [hg] at this; exact this
   · rw [hg] at this; exact this⟩
 have hgd : (gi == 1) = r.yes := by rw [hgi]; cases r.yes <;> rfl
 replace e0 := Aa.mk e0
 replace e1 := Aa.mk e1
 replace e2 := Aa.mk e2
 replace hn := Aa.mk hn
 replace hP0 := Aa.mk hP0
 clear ho hTT k1 k25 k3 hgi
 go_wp2_with (first
   | (go_at_call 43
      refine (hN4.out _ (Aa.out rX1)).mono ?_
      rintro e wX2 ⟨rfl, rX2, fX2⟩
      have b5X2 := Aa.mk (Ob.fr (Aa.out b5X1) fX2 (fun e => h45.out e.symm))
      have b2X2 := Aa.mk (Ob.fr (Aa.out b2X1) fX2 h24.out)
      have FX2 := Aa.mk ((Aa.out FX1).trans (fX2.weaken fun k _ e => .inl e))
      replace rX2 := Aa.mk rX2
      clear fX2)
   | (go_at_call 43
      refine (hY4.out _ r9.out).mono ?_
      rintro e wY ⟨rfl, rY, fY⟩
      have b5Y := Aa.mk (Ob.fr (Aa.out b59) fY (fun e => h45.out e.symm))
      have b2Y := Aa.mk (Ob.fr (Aa.out b29) fY h24.out)
      have FY := Aa.mk ((Aa.out F9).trans (fY.weaken fun k _ e => .inl e))
      have zY := Bk.free b5Y.out 7
      have cY7 : wY.cell? ⟨g5, 7, none⟩ = some (.bool false) := Bk.cell b5Y.out rfl
      replace rY := Aa.mk rY
      clear fY)
   | ((with_reducible refine Af (t := 4) (p := 40) (v := .tmp 39) rfl ?_)
      refine Ig rfl (ty := 4) (x := .tmp 40) (y := .tmp 39) (b := g5) (j := 7) (v := .bool r.yes) rfl (by go_simp; done) b5Y.out (R9 r.kind r.id 0 0 0 0 (.slice none 0 0) r.yes (.slice none 0 0)) rfl ?_
      intro wX0 b5X0 fX0
      clear zY cY7
      have rX0 := Aa.mk ((Aa.out rY).fr fX0.out h45.out hb5.out)
      have b2X0 := Aa.mk (Ob.fr (Aa.out b2Y) fX0.out h25.out)
      have FX0 := Aa.mk ((Aa.out FY).trans (fX0.out.weaken fun k _ e => .inr e)))
   | (go_at_call 46
      refine (hS4.out _ (Aa.out rX0)).mono ?_
      rintro e wA4 ⟨rfl, rA4, fA4⟩
      have b5A4 := Aa.mk (Ob.fr (Aa.out b5X0) fA4 (fun e => h45.out e.symm))
      have b2A4 := Aa.mk (Ob.fr (Aa.out b2X0) fA4 h24.out)
      have FA4 := Aa.mk ((Aa.out FX0).trans (fA4.weaken fun k _ e => .inl e))
      replace rA4 := Aa.mk rA4
      clear fA4)
   | ((with_reducible refine Af (t := 32) (p := 43) (v := .tmp 42) rfl ?_); go_must (refine Ak rfl (ty := 32) (x := .tmp 43) (y := .tmp 42) (cells := BX r.t1 r.n1) rfl rfl rfl (Aa.out b5A4) Ic (by kernel_rfl) (by show 4 + 2 ≤ 9; decide) (R9 r.kind r.id 0 0 r.t1 r.n1 (.slice none 0 0) r.yes (.slice none 0 0)) (Xi _ _ _ _ _ _ _ _ _ _ _) ?_); intro wX1 b5X1 fB4
      have rX1 := Aa.mk ((Aa.out rA4).fr fB4.out h45.out hb5.out)
      have b2X1 := Aa.mk (Ob.fr (Aa.out b2A4) fB4.out h25.out)
      have FX1 := Aa.mk ((Aa.out FA4).trans (fB4.out.weaken fun k _ e => .inr e))))
 go_loopw [46] (fun p w' => ∃ j : Nat, j ≤ n ∧ p = .int .i64 j ∧ ∃ pv, Aa (Rdr w' g4 b (((r.parts.drop j).flatMap fun p => enc p.toNat) ++ [])) ∧ Aa (w'.ownsRow w.heap.size 3 1 pv (r.parts.take j).length ((r.parts.take j).flatMap YD)) ∧ Aa (Bk w' g5 (R9 r.kind r.id 0 0 r.t1 r.n1 (.slice none 0 0) r.yes pv) 36) ∧ Aa (Bk w' g2 Z9 36) ∧ Aa (Fr (fun k => k = g4 ∨ k = g5) w w')) (fun p _ => n - (intOf p).toNat)
 case atStart => exact ⟨0, Nat.zero_le _, rfl, _, ⟨by simpa [hP0.out] using rX2.out⟩, ⟨World.ownsRow_nil _ _ _ _⟩, b5X2, b2X2, FX2⟩
 case round =>
   obtain ⟨j, hj, rfl, pv, HR, HO, H5, H2, HF⟩ := hrel
   by_cases hlt : j < n
   case neg =>
     have hjn : r.parts.take j = r.parts := List.take_of_length_le (by rw [← hn.out]; omega)
     have hjd : r.parts.drop j = [] := List.drop_of_length_le (by rw [← hn.out]; omega)
     rw [hjn] at HO
     rw [hjd] at HR
     have d1 : decide ((j : Int) < (n : Int)) = false := by simp; omega
     have d2 : decide (j < n) = false := by simp; omega
     clear hjn hjd hj
     have OX0 : La _ w.heap.size r (.slice none 0 0) pv := ⟨by rw [Hz, e2.out]; exact World.ownsRow_nil _ _ _ _, HO.out⟩
     obtain ⟨Ap, np, cp, rfl⟩ : ∃ A n c, pv = .slice A n c := by rcases HO.out.2 with ⟨rfl, _⟩ | ⟨g', cp', cur', rfl, _⟩ <;> exact ⟨_, _, _, rfl⟩
     have rZZ : Aa (Rdr _ g4 b []) := ⟨by simpa using HR.out⟩
     have b5ZZ := H5
     have b2ZZ := H2
     have FZZ := HF
     obtain ⟨oX, cX, b4X, _, _, _, _, _⟩ := (Aa.out rZZ)
     have c40 : wr.cell? ⟨g4, 1, none⟩ = some (.bool false) := Bk.cell b4X rfl
     have c41 : wr.cell? ⟨g4, 0, none⟩ = some (.slice (some ⟨b, oX, none⟩) 0 cX) := Bk.cell b4X rfl
     clear b4X
     obtain ⟨D, hD⟩ : ∃ D, D = Df r (.slice none 0 0) (.slice Ap np cp) := ⟨_, rfl⟩
     have hGD : Aa (∀ W, La W w.heap.size r (.slice none 0 0) (.slice Ap np cp) → Calls Tryz.prog 7 #[.agg D] W fun e W' => e = .returned (.bool true) ∧ Below W.heap.size W W') := ⟨by rw [hD]; exact fun W => hGd.out W _ _⟩
     have hDs : Aa (D.size = 9) := ⟨by rw [hD]; rfl⟩
     have hD1 : Aa (D.all (·.oneCell') = true) := ⟨by rw [hD, Df]; kernel_rfl⟩
     have b5X : Aa (Bk wr g5 D 36) := ⟨by rw [hD]; rw [Df, e0.out, e1.out]; exact (Aa.out b5ZZ)⟩
     have b2X := Aa.mk (Aa.out b2ZZ)
     have FX := Aa.mk (Aa.out FZZ)
     have OX : Aa (La wr w.heap.size r (.slice none 0 0) (.slice Ap np cp)) := ⟨OX0⟩
     replace hD := Aa.mk hD
     clear OX0 HO HR
     go_wp2_with (first
     | ((with_reducible refine Ac (N := 69) rfl ?_); (refine BO (N := 69) rfl (by rfl) rfl rfl (Aa.out b5X) Tryz.underlying36 rfl Bh D.toList (AU (Aa.out hDs)) (by rw [Array.length_toList, Aa.out hDs]) ?_))
     | (go_at_call 7
        refine ((Aa.out hGD) _ (Aa.out OX)).mono ?_
        rintro e wG ⟨rfl, fG⟩
        have b5G := Aa.mk (Ob.Ad (Aa.out b5X) fG)
        have b2G := Aa.mk (Ob.Ad (Aa.out b2X) fG)
        have FG := Aa.mk ((Aa.out FX).trans (Fr.of_below fG))
        have OG := Aa.mk ((Aa.out OX).below fG)
        clear fG)
     | ((with_reducible refine Ac (N := 74) rfl ?_); (refine Au (N := 74) rfl rfl rfl rfl (Aa.out b5G) Tryz.underlying36 rfl Bh D.toList (AU (Aa.out hDs)) (by rw [Array.length_toList, Aa.out hDs]) ?_))
     | ((with_reducible refine Af (t := 36) (p := 2) (v := .tmp 74) rfl ?_); go_must (refine Ak rfl (ty := 36) (x := .tmp 2) (y := .tmp 74) (cells := D) rfl rfl rfl (Aa.out b2G) (by rw [Aa.out hDs]; exact Bh) (Aa.out hD1) (by rw [Aa.out hDs]; exact Nat.le_refl 9) D (Aq (by rw [Aa.out hDs]; rfl)) ?_); intro wH b2H fH))
     have FH : Fr (fun k => k = g4 ∨ k = g5 ∨ k = g2) w wH := (FG.out.weaken fun k _ e => e.elim .inl fun e => .inr (.inl e)).trans (fH.out.weaken fun k _ e => .inr (.inr e))
     have BH : Below w.heap.size w wH := FH.below (fun k hk e => by have := hw5.out; have := h4w.out; have := h2.out; omega) (Nat.le_refl _)
     exact AO Tryz.results16 rfl b2H.out Tryz.underlying36 rfl Bh hDs.out rfl ⟨⟨_, _, by rw [hD.out]; rfl, ⟨AP OG.out.ws fH.out (fun k hk => hk ▸ AC OG.out.ws b2G.out (by decide)), AP OG.out.ps fH.out (fun k hk => hk ▸ AC OG.out.ps b2G.out (by decide))⟩⟩, BH⟩
   have hjw : j < r.parts.length := by rw [← hn.out]; exact hlt
   have htk : r.parts.take (j + 1) = r.parts.take j ++ [r.parts[j]] := by rw [List.take_succ_eq_append_getElem hjw]
   have hdr : r.parts.drop j = r.parts[j] :: r.parts.drop (j + 1) := List.drop_eq_getElem_cons hjw
   have hxv : 0 ≤ r.parts[j] ∧ r.parts[j] < 8 := hf.out.parts _ (List.getElem_mem hjw)
   generalize r.parts[j] = x at htk hdr hxv
   obtain ⟨R, hR0⟩ : ∃ R, R = ((r.parts.drop (j + 1)).flatMap fun p => enc p.toNat) ++ [] := ⟨_, rfl⟩
   rw [hdr, List.flatMap_cons, List.append_assoc, ← hR0] at HR
   have hX4 : Aa (∀ W, Rdr W g4 b (enc x.toNat ++ R) → Calls Tryz.prog 43 #[.pointer (some ⟨g4, 0, none⟩), .int .i64 8] W fun e W' => e = .returned (.int .i64 x) ∧ Rdr W' g4 b R ∧ Fr (fun k => k = g4) W W') := ⟨fun W hW => by
     have := EM W g4 b x.toNat 8 _ hW (by omega) (by decide)
     rwa [Int.toNat_of_nonneg hxv.1] at this⟩
   replace hR0 := Aa.mk hR0
   replace htk := Aa.mk htk
   clear hdr hjw hxv
   have d1 : decide ((j : Int) < (n : Int)) = true := by simp; omega
   have d2 : decide (j < n) = true := by simp; omega
   obtain ⟨m, hm⟩ : ∃ m, m = (r.parts.take j).length := ⟨_, rfl⟩
   have hml : Aa (m ≤ 8) := ⟨by rw [hm, List.length_take]; omega⟩
   rw [← hm] at HO
   replace hm := Aa.mk hm
   have hng4 : Aa (pv.ownBlock ≠ some g5) := ⟨AC HO.out H5.out (by decide)⟩
   have hngb : Aa (pv.ownBlock ≠ some b) := ⟨fun e => by have := (HO.out.lt b e).1; have := hbl.out; omega⟩
   have hng2 : Aa (pv.ownBlock ≠ some g2) := ⟨AC HO.out H2.out (by decide)⟩
   obtain ⟨_, _, H4, _⟩ := HR.out
   have hngg : Aa (pv.ownBlock ≠ some g4) := ⟨AC HO.out H4 (by decide)⟩
   clear H4
   go_upto_region 17 with fail
   have q0 : wr.cell? ⟨g5, 8, none⟩ = some pv := Bk.cell H5.out rfl
   go_region_law (first
     | (go_simp
        go_at_call 43
        refine (hX4.out _ (HR.out.below (Ag (Below.refl _ _)))).mono ?_
        rintro e wc ⟨rfl, rc, fc⟩
        have b5c := Aa.mk (Ob.fr (Ob.drew H5.out) fc (fun e => h45.out e.symm))
        have b2c := Aa.mk (Ob.fr (Ob.drew H2.out) fc h24.out)
        have oc := Aa.mk (AP (own_below HO.out (Ag (Below.refl _ _))) fc (fun k hk => hk ▸ hngg.out))
        have Fc := Aa.mk ((HF.out.drew).trans (fc.weaken fun k _ e => .inl e))
        have qc := Bk.cell b5c.out (j := 8) rfl
        have qd := Bk.cell (b5c.out.alloc (.cells #[.int .i64 x] 3)) (j := 8) rfl
        replace rc := Aa.mk rc
        clear fc)
     | (refine step_append_lies _ (by rfl) (.tmp 49) (.tmp 52) 34 (by rfl) w.heap.size 3 i0 _ 1 8 Tryz.underlying34 hi.out hz0.out hz1.out hz2.out (by rfl) (by decide) pv m ((r.parts.take j).flatMap YD) (by rfl) (own_below (Aa.out oc) (Ah (Below.refl _ _) (.cells #[.int .i64 x] 3))) ⟨_, 0, none⟩ 1 1 [.int .i64 x] (by rfl) rfl (World.news_of_block (heap_alloc_new _ _)) (fun u hu => by rw [List.mem_singleton.1 hu]; rfl) (by decide) (by have := hml.out; simp only [maxLen]; omega) (by have := hml.out; omega) (by have := (Aa.out Fc).size; simp only [World.alloc, Array.size_push]; omega) _ rfl ?_
        intro g6 k6 wa oa hgr hat hlt6
        have fa := Fr.grown (T := fun k => pv.ownBlock = some k) (Fr.refl _ _) hgr (fun k hk => .inl hk)
        have b5a := Aa.mk (Ob.fr ((Aa.out b5c).alloc (.cells #[.int .i64 x] 3)) fa hng4.out)
        have b2a := Aa.mk (Ob.fr ((Aa.out b2c).alloc (.cells #[.int .i64 x] 3)) fa hng2.out)
        have ra := Aa.mk (((Aa.out rc).below (Ah (Below.refl _ _) (.cells #[.int .i64 x] 3))).fr fa hngg.out hngb.out)
        have Fa : Aa (Fr (fun k => k = g4 ∨ k = g5) w wa) := ⟨Fr.weaken (T1 := fun k => (k = g4 ∨ k = g5) ∨ pv.ownBlock = some k) ((((Aa.out Fc).alloc (.cells #[.int .i64 x] 3)).weaken (fun k _ e => .inl e)).trans (fa.weaken fun k _ e => .inr e)) (fun k hk e => e.elim id fun e => by have := (HO.out.lt k e).1; omega)⟩
        have ca : wa.cell? ⟨g5, 8, none⟩ = some pv := Bk.cell b5a.out rfl
        have za := Bk.free b5a.out 8
        clear qc qd fa))
   all_goals
     clear ca za
     have Z5 := Bk.set b5a.out 8 (.slice (some ⟨g6, 0, none⟩) (m + 1) k6)
     have ZF : Fr (fun k => k = g5) wa (wa.setCell ⟨g5, 8, none⟩ (.slice (some ⟨g6, 0, none⟩) (m + 1) k6)) := (Fr.refl _ _).set g5 8 _ (.inl rfl)
     go_wp2_with fail
     have hno : (Value.slice (some ⟨g6, 0, none⟩) (m + 1) k6).ownBlock ≠ some g5 := AC oa b5a.out (by decide)
     refine ⟨⟨j + 1, by omega, by rw [Int.natCast_add]; rfl, .slice (some ⟨g6, 0, none⟩) (m + 1) k6, ⟨?_⟩, ⟨?_⟩, ⟨Z5⟩, ⟨Ob.fr b2a.out ZF h25.out⟩, ⟨Fa.out.trans (ZF.weaken fun k _ e => .inr e)⟩⟩, ?_⟩
     · rw [← hR0.out]
       exact ra.out.fr ZF h45.out hb5.out
     · rw [htk.out, List.length_append, List.flatMap_append, ← hm.out]
       exact AP oa ZF (fun k hk => hk ▸ hno)
     · simp only [intOf]
       omega
end Go.Proofs.YtchfmgbjddopoaaGreatDoor.Hand
