import Derived.Test.YtchfmgbjddopoaaGreatDoorM11
import Derived.Test.YtchfmgbjddopoaaGreatDoorM12
import Derived.Test.YtchfmgbjddopoaaGreatDoorM14
import Derived.Test.YtchfmgbjddopoaaGreatDoorM15
set_option linter.unusedVariables false
set_option linter.unusedSimpArgs false
set_option maxHeartbeats 6400000
set_option maxRecDepth 100000
namespace Go.Proofs.YtchfmgbjddopoaaGreatDoor.Hand
open Go.RowKit Go.Proofs.YtchfmgbjddopoaaGreatDoorW.PrintWords Go.Proofs.YtchfmgbjddopoaaGreatDoorW.PrintLast Go.Proofs.YtchfmgbjddopoaaGreatDoorW.PrintMore
attribute [local go_sem ↓] Go.wp_at_zero Go.wp_at_succ
open Plain (Ky Wr Rc Ver Ent St Bytes enc IR EL encR zz pack Dk)
theorem Rf (w : World) (g b : Nat) (l rest : List Int) (h : Rdr w g b (l ++ rest)) :
   Calls Tryz.prog 80 #[.pointer (some ⟨g, 0, none⟩), .int .i64 l.length] w fun e w' => e = .returned (.string (strOfNums l)) ∧ Rdr w' g b rest ∧ Fr (fun k => k = g) w w' := by
 obtain ⟨o, c, h1, h2, h3, h4, h5, h6⟩ := h
 have c0 : w.cell? ⟨g, 0, none⟩ = some (.slice (some ⟨b, o, none⟩) (l ++ rest).length c) := Bk.cell h1 rfl
 have z0 := Bk.free h1 0
 obtain ⟨m, hm⟩ : ∃ m, m = l.length := ⟨_, rfl⟩
 obtain ⟨L, hL⟩ : ∃ L, L = (l ++ rest).length := ⟨_, rfl⟩
 have hcv : ∀ c', (convert 39 9 (.slice (some ⟨b, o, none⟩) m c')).run Tryz.prog w = .ok (.string (strOfNums l)) w := fun c' =>
   Em Tryz.underlying39 Tryz.underlying5 Tryz.underlying9 ⟨hm.symm, by rw [List.length_append] at h3; omega, fun _ => ⟨_, rfl, fun j hj => by
     rw [Addr.add_mid, List.getD_eq_getElem?_getD]
     exact h6 j _ (by rw [List.getElem?_append_left (by omega), List.getElem?_eq_getElem (by omega)]; rfl)⟩⟩
 rw [← hm]
 rw [← hL] at c0
 have hmL : m ≤ L := by rw [hm, hL, List.length_append]; omega
 have hLc : L ≤ c := by rw [hL]; exact h2
 have hLm : L ≤ 1000000 := by rw [hL]; exact h3
 have hfin : Aa (∀ (W : World) (o' c' : Nat), Bk W g #[.slice (some ⟨b, o', none⟩) (L - m) c', .bool false] 95 → Fr (fun k => k = g) w W → c' = c - m → (c' ≠ 0 → o' = o + m) → Rdr W g b rest) := ⟨fun W o' c' hB f ho hoo =>
   Rdr.step hm h2 h3 h4 (Nat.lt_of_lt_of_le h5 f.size) (fun j x hj => by rw [CQ (f.block b h5 h4)]; exact h6 j x hj) (by rw [← hL]; exact hB) ho hoo⟩
 replace h1 := Aa.mk h1
 have d1 : decide ((L : Int) < (m : Int)) = false := by simp; omega
 have d2 : decide (L < m) = false := by simp; omega
 clear h2 h3 h6 hm hL
 go_enter Tryz.func80, Tryz.ntmps80
 go_wp2_with fail
 · go_returns
   exact ⟨rfl, hfin.out _ _ _ (Bk.set h1.out 0 _) ((Fr.refl _ w).set g 0 _ (.inl rfl)) (by omega) (fun e => by omega), (Fr.refl _ w).set g 0 _ (.inl rfl)⟩
 · go_returns
   exact ⟨rfl, hfin.out _ _ _ (Bk.set h1.out 0 _) ((Fr.refl _ w).set g 0 _ (.inl rfl)) rfl (fun _ => rfl), (Fr.refl _ w).set g 0 _ (.inl rfl)⟩
theorem RU (l : List Int) (h : Bytes l) : ((strOfNums l).data.toList.map fun x => Value.int .u8 (x.toNat : Int)) = l.map (Value.int .u8) := by
 simp only [strOfNums, List.map_map]
 refine List.map_congr_left fun x hx => ?_
 have := h x hx
 simp only [Function.comp]
 congr 1
 rw [show (x.toNat.toUInt8).toNat = x.toNat % 256 from rfl, Nat.mod_eq_of_lt (by omega)]
 omega
theorem XH (w : World) (g b : Nat) (k : Ky) (rest : List Int) (h : Rdr w g b (k.l ++ rest)) :
   Calls Tryz.prog 79 #[.pointer (some ⟨g, 0, none⟩)] w fun e w' => e = .returned (Dq k) ∧ Rdr w' g b rest ∧ Fr (fun k => k = g) w w' := by
 have hT : ∀ W, Rdr W g b (k.l ++ rest) → Calls Tryz.prog 80 #[.pointer (some ⟨g, 0, none⟩), .int .i64 16] W fun e w' => e = .returned (.string (strOfNums k.l)) ∧ Rdr w' g b rest ∧ Fr (fun k => k = g) W w' := fun W hW => by
   have := Rf W g b k.l rest hW
   rw [k.ok.1] at this
   exact this
 obtain ⟨T, hTT⟩ : ∃ T, T = strOfNums k.l := ⟨_, rfl⟩
 obtain ⟨P, hP⟩ : ∃ P, P = (AZ k).toArray := ⟨_, rfl⟩
 have hPs : P.size = 16 := by rw [hP]; simpa using Ai k
 have hP1 : P.all (·.oneCell') = true := by
   rw [hP, Array.all_eq_true_iff_forall_mem]
   intro u hu
   exact Di k u (by simpa using hu)
 have hTs : T.size = 16 := by rw [hTT, strOfNums_size, k.ok.1]
 have hcp : ∀ (b : Nat) (W : World), Bk W b Z16 103 → (Builtin.copy_ #[39, 9] 3 #[.slice (some ⟨b, 0, none⟩) 16 16, .string T]).run Tryz.prog W = .ok (goInt T.size) (W.setCells b 0 P.toList) := fun b W h => by
   rw [run_copy_string W 39 9 3 5 b 0 16 16 T Tryz.underlying39 Xh (by omega) (fun j hj => Bk.isSome h (by rw [show Z16.size = 16 from rfl]; omega)) (fun j hj => Bk.free h _), hTT, RU _ k.ok.2, hP]
   rfl
 have hov : over Z16 0 P.toList = P := Aq (by rw [hPs]; rfl)
 rw [← hTT] at hT
 rw [show Dq k = .agg P from by rw [hP]; rfl]
 replace hT := Aa.mk hT
 replace hcp := Aa.mk hcp
 replace hov := Aa.mk hov
 replace hPs := Aa.mk hPs
 replace hP1 := Aa.mk hP1
 replace h := Aa.mk h
 clear hTT hP
 go_enter Tryz.func79, Tryz.ntmps79
 go_wp2_with (first
   | ((with_reducible refine Ac (N := 2) rfl ?_); refine Aj (N := 2) (C := Z16) rfl rfl (by first | (go_simp; done) | (go_simp; rfl)) ?_; intro g2 w2 hg2 b2 f2)
   | ((with_reducible refine Ac (N := 3) rfl ?_); refine Aj (N := 3) (C := Z16) rfl rfl (by first | (go_simp; done) | (go_simp; rfl)) ?_; intro g4 w4 hg4 b4 f4; have b24 := Aa.mk (b2.out.Ad f4.out)))
 have h4 := Aa.mk (((h.out.below f2.out).below f4.out).below (Ag (Below.refl _ _)))
 go_region_with (go_at_call 80
                 refine (hT.out _ h4.out).mono ?_
                 rintro e w5 ⟨rfl, r5, f5⟩
                 have b45 := Aa.mk (Ob.fr (Ob.drew b4.out) f5 (by have := h.out.lt; have := f2.out.size; have := hg4.out; omega))
                 have b25 := Aa.mk (Ob.fr (Ob.drew b24.out) f5 (by have := h.out.lt; have := hg2.out; omega))
                 have hc := hcp.out g4 w5 b45.out)
 clear hc
 refine onW (S := fun W' => Aa (Bk W' g4 P 103) ∧ Aa (Fr (fun k => k = g4) w5 W')) ⟨⟨by have := Bk.sets P.toList 0 b45.out; rw [hov.out] at this; exact this⟩, ⟨Fr.sets _ _ (Fr.refl _ _) (.inl rfl)⟩⟩ ?_
 rintro w6 ⟨b46, f6⟩
 have b26 := Aa.mk (b25.out.fr f6.out (by have := Ob.lt b2.out; have := hg4.out; omega))
 go_wp2_with (first
   | ((with_reducible refine Ac (N := 8) rfl ?_); go_must (refine Au (N := 8) rfl rfl rfl rfl b46.out Tryz.underlying103 rfl AB P.toList (AU hPs.out) (by rw [Array.length_toList, hPs.out]) ?_))
   | ((with_reducible refine Af (t := 103) (p := 2) (v := .tmp 8) rfl ?_); go_must (refine Ak rfl (ty := 103) (x := .tmp 2) (y := .tmp 8) (cells := P) rfl rfl rfl b26.out (by rw [hPs.out]; exact AB) hP1.out (by rw [hPs.out]; exact Nat.le_refl 16) P (Aq hPs.out) ?_); intro w7 b7 f7))
 have q1 := hg2.out
 have q4 := hg4.out
 have s1 := f2.out.size
 have s2 := f4.out.size
 have s3 := f5.size
 have hg := h.out.lt
 obtain ⟨_, _, _, _, _, hne, hbl, _⟩ := h.out
 have F : Fr (fun k => k = g ∨ k = g2 ∨ k = g4) w w7 := (((((Fr.of_below f2.out).trans (Fr.of_below f4.out)).drew).trans (f5.weaken fun k _ e => .inl e)).trans (f6.out.weaken fun k _ e => .inr (.inr e))).trans (f7.out.weaken fun k _ e => .inr (.inl e))
 refine DY Tryz.results79 rfl b7.out Tryz.underlying103 rfl AB hPs.out rfl ⟨rfl, (r5.fr f6.out (by omega) (by omega)).fr f7.out (by omega) (by omega), ?_⟩
 exact F.weaken fun k hk e => by omega
end Go.Proofs.YtchfmgbjddopoaaGreatDoor.Hand
namespace Go.Proofs.YtchfmgbjddopoaaGreatDoor.Hand
open Go.RowKit Go.Proofs.YtchfmgbjddopoaaGreatDoorW.PrintWords Go.Proofs.YtchfmgbjddopoaaGreatDoorW.PrintLast Go.Proofs.YtchfmgbjddopoaaGreatDoorW.PrintMore
attribute [local go_sem ↓] Go.wp_at_zero Go.wp_at_succ
open Plain (Ky Wr Rc Ver Ent St Bytes enc IR EL encR zz pack Dk DF)
theorem SE (w : World) (g b : Nat) (ws : List Wr) (rest : List Int) (h : Rdr w g b (EL ws ++ rest)) (hg : DF [] ws = true) (hn : ws.length ≤ 16) (hv : ∀ x ∈ ws, x.val.size ≤ 200) :
   Calls Tryz.prog 47 #[.pointer (some ⟨g, 0, none⟩)] w fun e w' => (∃ v', e = .returned v' ∧ Hz w' w.heap.size v' ws) ∧ Rdr w' g b rest ∧ Fr (fun k => k = g) w w' := by
 have hM : ∀ W, Rdr W g b (enc ws.length ++ (ws.flatMap IR ++ rest)) → Calls Tryz.prog 43 #[.pointer (some ⟨g, 0, none⟩), .int .i64 16] W fun e w' => e = .returned (.int .i64 (ws.length : Int)) ∧ Rdr w' g b (ws.flatMap IR ++ rest) ∧ Fr (fun k => k = g) W w' := fun W hW => EM W g b ws.length 16 _ hW (by omega) (by decide)
 have h0 : Rdr w g b (enc ws.length ++ (ws.flatMap IR ++ rest)) := by rw [← List.append_assoc]; exact h
 have hG : ∀ W v, Eo W v ws → Calls Tryz.prog 81 #[v] W fun e w' => e = .returned (.bool true) ∧ Below W.heap.size W w' := fun W v hW => by
   have := Py W v ws hW (by omega)
   rw [hg] at this
   exact this
 obtain ⟨i0, hi, hz0, hz1, hz2⟩ := info_parts Pz
 obtain ⟨n, hnn⟩ : ∃ n, n = ws.length := ⟨_, rfl⟩
 rw [← hnn] at hM h0 hn
 replace hi := Aa.mk hi
 replace hz0 := Aa.mk hz0
 replace hz1 := Aa.mk hz1
 replace hz2 := Aa.mk hz2
 replace hM := Aa.mk hM
 replace hG := Aa.mk hG
 replace h0 := Aa.mk h0
 replace hv := Aa.mk hv
 replace hnn := Aa.mk hnn
 obtain ⟨_, _, _, _, _, hgb, hbl, _⟩ := h
 replace hgb := Aa.mk hgb
 replace hbl := Aa.mk hbl
 have hgl := Aa.mk h0.out.lt
 clear hg
 go_enter Tryz.func47, Tryz.ntmps47
 go_wp2_with (first
   | (go_at_call 43; refine (hM.out _ h0.out).mono ?_; rintro e w1 ⟨rfl, r1, f1⟩; replace r1 := Aa.mk r1; replace f1 := Aa.mk f1))
 go_loopw [3, 7] (fun u p w' => ∃ j : Nat, j ≤ n ∧ p = .int .i64 j ∧ Aa (Rdr w' g b ((ws.drop j).flatMap IR ++ rest)) ∧ Aa (Hz w' w.heap.size u (ws.take j)) ∧ Aa (Fr (fun k => k = g) w w')) (fun _ p _ => n - (intOf p).toNat)
 case atStart => exact ⟨0, Nat.zero_le _, rfl, r1, ⟨World.ownsRow_nil _ _ _ _⟩, f1⟩
 case round =>
   obtain ⟨j, hj, rfl, HR, HO, HF⟩ := hrel
   by_cases hlt : j < n
   case neg =>
     have hjn : ws.take j = ws := List.take_of_length_le (by rw [← hnn.out]; omega)
     have hjd : ws.drop j = [] := List.drop_of_length_le (by rw [← hnn.out]; omega)
     rw [hjn] at HO
     rw [hjd] at HR
     have d1 : decide ((j : Int) < (n : Int)) = false := by simp; omega
     have d2 : decide (j < n) = false := by simp; omega
     clear hjn hjd hj
     go_wp2_with (first
       | (go_at_call 81; refine (hG.out _ _ HO.out.row).mono ?_; rintro e w2 ⟨rfl, f2⟩; replace f2 := Aa.mk f2))
     go_returns
     exact ⟨⟨_, rfl, own_below HO.out f2.out⟩, by simpa using HR.out.below f2.out, HF.out.trans (Fr.of_below f2.out)⟩
   have hjw : j < ws.length := by rw [← hnn.out]; exact hlt
   have htk : ws.take (j + 1) = ws.take j ++ [ws[j]] := by rw [List.take_succ_eq_append_getElem hjw]
   have hdr : ws.drop j = ws[j] :: ws.drop (j + 1) := List.drop_eq_getElem_cons hjw
   have hxv : ws[j].val.size ≤ 200 := hv.out _ (List.getElem_mem hjw)
   generalize ws[j] = x at htk hdr hxv
   obtain ⟨R, hR⟩ : ∃ R, R = (ws.drop (j + 1)).flatMap IR ++ rest := ⟨_, rfl⟩
   rw [hdr, List.flatMap_cons, List.append_assoc, ← hR] at HR
   have r0 : Aa (Rdr _ g b (x.key.l ++ (enc (if x.gone then 1 else 0) ++ (enc x.val.size ++ (bytesOf x.val ++ R))))) := ⟨by have := HR.out; unfold IR at this; simpa only [List.append_assoc] using this⟩
   replace hR := Aa.mk hR
   replace htk := Aa.mk htk
   have hsz := Aa.mk hxv
   clear hdr hxv HR hjw
   have hT : Aa (∀ W, Rdr W g b (bytesOf x.val ++ R) → Calls Tryz.prog 80 #[.pointer (some ⟨g, 0, none⟩), .int .i64 x.val.size] W fun e w' => e = .returned (.string x.val) ∧ Rdr w' g b R ∧ Fr (fun k => k = g) W w') := ⟨fun W hW => by
     have := Rf W g b _ _ hW
     rw [MC, Plain.bytesOf_length] at this
     exact this⟩
   have hS : Aa (∀ W, Rdr W g b (enc x.val.size ++ (bytesOf x.val ++ R)) → Calls Tryz.prog 43 #[.pointer (some ⟨g, 0, none⟩), .int .i64 200] W fun e w' => e = .returned (.int .i64 x.val.size) ∧ Rdr w' g b (bytesOf x.val ++ R) ∧ Fr (fun k => k = g) W w') := ⟨fun W hW => EM W g b _ 200 _ hW (by have := hsz.out; omega) (by decide)⟩
   have hK : Aa (∀ W, Rdr W g b (x.key.l ++ (enc (if x.gone then 1 else 0) ++ (enc x.val.size ++ (bytesOf x.val ++ R)))) → Calls Tryz.prog 79 #[.pointer (some ⟨g, 0, none⟩)] W fun e w' => e = .returned (.agg (AZ x.key).toArray) ∧ Rdr w' g b (enc (if x.gone then 1 else 0) ++ (enc x.val.size ++ (bytesOf x.val ++ R))) ∧ Fr (fun k => k = g) W w') := ⟨fun W hW => XH W g b _ _ hW⟩
   obtain ⟨gi, hgi⟩ : ∃ gi : Int, gi = if x.gone then 1 else 0 := ⟨_, rfl⟩
   have hB : Aa (∀ W, Rdr W g b (enc (if x.gone then 1 else 0) ++ (enc x.val.size ++ (bytesOf x.val ++ R))) → Calls Tryz.prog 43 #[.pointer (some ⟨g, 0, none⟩), .int .i64 1] W fun e w' => e = .returned (.int .i64 gi) ∧ Rdr w' g b (enc x.val.size ++ (bytesOf x.val ++ R)) ∧ Fr (fun k => k = g) W w') := ⟨fun W hW => by
     have := EM W g b _ 1 _ hW (by split <;> omega) (by decide)
     rw [hgi]
     cases hg : x.gone
     · rw [hg] at this; exact this
     · rw [hg] at this; exact this⟩
   have hgd : (gi == 1) = x.gone := by rw [hgi]; cases x.gone <;> rfl
   clear hgi
   have d1 : decide ((j : Int) < (n : Int)) = true := by simp; omega
   have d2 : decide (j < n) = true := by simp; omega
   obtain ⟨C0, hC0⟩ : ∃ C, C = (wrC ⟨x.key, ⟨#[]⟩, false⟩).toArray := ⟨_, rfl⟩
   obtain ⟨C1, hC1⟩ : ∃ C, C = (wrC ⟨x.key, ⟨#[]⟩, x.gone⟩).toArray := ⟨_, rfl⟩
   obtain ⟨C2, hC2⟩ : ∃ C, C = (wrC x).toArray := ⟨_, rfl⟩
   have hs0 : Aa (C0.size = 18) := ⟨by rw [hC0]; exact AY _⟩
   have ho0 : Aa (C0.all (·.oneCell') = true) := ⟨by rw [hC0]; exact Eb _⟩
   have hb0 : Aa (Tryz.prog.built 105 [(0, .agg (AZ x.key).toArray)] = some C0) := ⟨by rw [hC0]; exact WH _⟩
   have h01 : Aa (C0.setIfInBounds 17 (.bool x.gone) = C1) := ⟨by rw [hC0, hC1]; exact Vy _ _ _ _⟩
   have h12 : Aa (C1.setIfInBounds 16 (.string x.val) = C2) := ⟨by rw [hC1, hC2]; exact Vz _ _ _ _⟩
   have hs1 : Aa (C1.size = 18) := ⟨by rw [hC1]; exact AY _⟩
   have hs2 : Aa (C2.size = 18) := ⟨by rw [hC2]; exact AY _⟩
   replace hC2 := Aa.mk hC2
   clear hC0 hC1
   obtain ⟨m, hm⟩ : ∃ m, m = (ws.take j).length := ⟨_, rfl⟩
   have hml : Aa (m ≤ 16) := ⟨by rw [hm, List.length_take]; omega⟩
   replace hm := Aa.mk hm
   have hng : Aa (u3.ownBlock ≠ some g) := ⟨fun e => by have := (HO.out.lt g e).1; have := hgl.out; omega⟩
   go_wp2_with (first
     | (go_at_call 79
        refine (hK.out _ r0.out).mono ?_
        rintro e w2 ⟨rfl, r2, f2⟩
        have o2 := Aa.mk (AP HO.out f2 fun k hk => hk ▸ hng.out)
        replace r2 := Aa.mk r2
        have F2 := Aa.mk (HF.out.trans f2)
        clear f2)
     | ((with_reducible refine Ac (N := 11) rfl ?_); go_must (refine LW (op := _) rfl rfl (cells := C0) hb0.out ?_))
     | ((with_reducible refine Ac (N := 4) rfl ?_); refine Aj (N := 4) (C := Z18) rfl rfl (by first | (go_simp; done) | (go_simp; rfl)) ?_; intro g4 w3 h4 b4 f3)
     | ((with_reducible refine Af (t := 105) (p := 4) (v := .tmp 11) rfl ?_); go_must (refine Ak rfl (ty := 105) (x := .tmp 4) (y := .tmp 11) (cells := C0) rfl rfl rfl b4.out (by rw [hs0.out]; exact Bl) ho0.out (by rw [hs0.out]; exact Nat.le_refl 18) C0 (Aq (by rw [hs0.out]; rfl)) ?_); intro w4 b44 f4
        have h4g : Aa (g4 ≠ g) := ⟨by have := r2.out.lt; have := h4.out; omega⟩
        have h4b : Aa (g4 ≠ b) := ⟨by have := hbl.out; have := HF.out.size; have := F2.out.size; have := h4.out; omega⟩
        have hn4 : Aa (u3.ownBlock ≠ some g4) := ⟨fun e => by have := (World.ownsRow.lt o2.out g4 e).2; have := h4.out; omega⟩
        have r4 := Aa.mk ((r2.out.below f3.out).fr f4.out (fun e => h4g.out e.symm) (fun e => h4b.out e.symm))
        have FF4 : Aa (Fr (fun k => k = g ∨ k = g4) w2 w4) := ⟨(Fr.of_below f3.out).trans (f4.out.weaken fun k _ e => .inr e)⟩)
     | (go_at_call 80
        refine (hT.out _ (Aa.out r7)).mono ?_
        rintro e w8 ⟨rfl, r8, f8⟩
        have b48 := Aa.mk (Ob.fr (Aa.out b47) f8 h4g.out)
        have FF8 := Aa.mk ((Aa.out FF7).trans (f8.weaken fun k _ e => .inl e))
        have z8 := Bk.free b48.out 16
        obtain ⟨y8, c8⟩ := Option.isSome_iff_exists.1 (Bk.isSome b48.out (j := 16) (by rw [hs1.out]; decide))
        replace r8 := Aa.mk r8
        clear f8)
     | (go_at_call 43
        refine (hS.out _ (Aa.out r6)).mono ?_
        rintro e w7 ⟨rfl, r7, f7⟩
        have b47 := Aa.mk (Ob.fr (Aa.out b46) f7 h4g.out)
        have FF7 := Aa.mk ((Aa.out FF6).trans (f7.weaken fun k _ e => .inl e))
        replace r7 := Aa.mk r7
        clear f7)
     | (go_at_call 43
        refine (hB.out _ (Aa.out r4)).mono ?_
        rintro e w5 ⟨rfl, r5, f5⟩
        have b45 := Aa.mk (Ob.fr (Aa.out b44) f5 h4g.out)
        have FF5 := Aa.mk ((Aa.out FF4).trans (f5.weaken fun k _ e => .inl e))
        have z5 := Bk.free b45.out 17
        obtain ⟨y5, c5⟩ := Option.isSome_iff_exists.1 (Bk.isSome b45.out (j := 17) (by rw [hs0.out]; decide))
        replace r5 := Aa.mk r5
        clear f5)
     | ((with_reducible refine Af (t := 4) (p := 15) (v := .tmp 14) rfl ?_)
        refine Ig rfl (ty := 4) (x := .tmp 15) (y := .tmp 14) (b := g4) (j := 17) (v := .bool x.gone) rfl (by go_simp; done) b45.out C1 h01.out ?_
        intro w6 b46 f6
        clear z5 c5
        have r6 := Aa.mk (r5.out.fr f6.out (fun e => h4g.out e.symm) (fun e => h4b.out e.symm))
        have FF6 := Aa.mk ((Aa.out FF5).trans (f6.out.weaken fun k _ e => .inr e)))
     | ((with_reducible refine Af (t := 9) (p := 20) (v := .tmp 19) rfl ?_)
        refine Ig rfl (ty := 9) (x := .tmp 20) (y := .tmp 19) (b := g4) (j := 16) (v := .string x.val) rfl (by go_simp; done) b48.out C2 h12.out ?_
        intro w9 b49 f9
        clear z8 c8
        have r9 := Aa.mk (r8.out.fr f9.out (fun e => h4g.out e.symm) (fun e => h4b.out e.symm))
        have FF9 := Aa.mk ((Aa.out FF8).trans (f9.out.weaken fun k _ e => .inr e)))
     | ((with_reducible refine Ac (N := 22) rfl ?_); go_must (refine Au (N := 22) rfl rfl rfl rfl b49.out Tryz.underlying105 rfl Bl C2.toList (AU hs2.out) (by rw [Array.length_toList, hs2.out]) ?_))
     | ((with_reducible refine Ac (N := 23) rfl ?_); go_must (refine Lr (x := 22) rfl rfl Tryz.underlying33 Bl Xn (by decide) (by decide) (C := C2) hs2.out rfl ?_); intro g5 w10 h5 b5 f10
        have o10 : Aa (Hz w10 w.heap.size u3 (ws.take j)) := ⟨own_below (AP o2.out FF9.out (fun k hk => hk.elim (fun e => e ▸ hng.out) (fun e => e ▸ hn4.out))) f10.out⟩)
     | (at_builtin; go_must (
            refine wpList_append_lies _ rfl (.tmp 21) (.tmp 23) 33 rfl w.heap.size 105 i0 _ 18 40 Tryz.underlying33 hi.out hz0.out hz1.out hz2.out rfl (by decide) u3 m ((ws.take j).flatMap wrC) rfl (by rw [hm.out]; exact o10.out) ⟨g5, 0, none⟩ 1 1 (wrC x) rfl (by rw [Bg]) (fun j u hu => by rw [Addr.add_mid, Nat.zero_add]; exact Bk.cell b5.out (by rw [hC2.out, List.getElem?_toArray]; exact hu)) (Pi x) (by decide) (by have := hml.out; simp only [maxLen]; omega) (by have := hml.out; omega) (by have := F2.out.size; have := FF9.out.size; have := f10.out.size; omega) _ rfl ?_)
        intro g6 k6 w11 o11 hgr hat hlt6))
   have F11 : Fr (fun k => u3.ownBlock = some k) w10 w11 := Fr.grown (Fr.refl _ w10) hgr (fun k hk => .inl hk)
   have q2 := F2.out.size
   have q9 := FF9.out.size
   have qB : ∀ k, u3.ownBlock = some k → w.heap.size ≤ k := fun k hk => (HO.out.lt k hk).1
   have F : Fr (fun k => k = g ∨ k = g4 ∨ u3.ownBlock = some k) w w11 := (((F2.out.weaken fun k _ e => .inl e).trans (FF9.out.weaken fun k _ e => e.elim .inl fun e => .inr (.inl e))).trans (Fr.of_below f10.out)).trans (F11.weaken fun k _ e => .inr (.inr e))
   refine ⟨⟨j + 1, by omega, by rw [Int.natCast_add]; rfl, ⟨?_⟩, ⟨?_⟩, ⟨F.weaken fun k hk e => ?_⟩⟩, ?_⟩
   · rw [← hR.out]
     exact (r9.out.below f10.out).fr F11 hng.out (fun e => by have := qB b e; have := hbl.out; omega)
   · have o := o11
     rw [Hz, htk.out, List.length_append, List.flatMap_append, ← hm.out]
     simpa using o
   · rcases e with e | e | e
     · exact e
     · have := h4.out; omega
     · have := qB k e; omega
   · simp only [intOf]
     omega
end Go.Proofs.YtchfmgbjddopoaaGreatDoor.Hand
namespace Go.Proofs.YtchfmgbjddopoaaGreatDoor.Hand
open Go.RowKit Go.Proofs.YtchfmgbjddopoaaGreatDoorW.PrintWords Go.Proofs.YtchfmgbjddopoaaGreatDoorW.PrintLast Go.Proofs.YtchfmgbjddopoaaGreatDoorW.PrintMore
attribute [local go_sem ↓] Go.wp_at_zero Go.wp_at_succ
open Plain (Ky Wr Rc Ver Ent St Bytes)
def Z9 : Array Value := #[.int .i64 0, .int .i64 0, .int .i64 0, .int .u8 0, .int .i64 0, .int .u8 0, .slice none 0 0, .bool false, .slice none 0 0]
theorem Bh : (Tryz.prog.info? 36).map (·.size) = some 9 := by kernel_rfl
theorem Q8 (r : Rc) (A1 A2 : Option Addr) (n1 c1 n2 c2 : Nat) : (Df r (.slice A1 n1 c1) (.slice A2 n2 c2)).all (·.oneCell') = true := by simp [Df, Value.oneCell']
theorem Zd (w : World) (r : Rc) (A1 A2 : Option Addr) (n1 c1 n2 c2 : Nat) (hk : r.kind = 1) :
   Calls Tryz.prog 27 #[.agg (Df r (.slice A1 n1 c1) (.slice A2 n2 c2))] w fun e w' => e = .returned (.agg (Df (Plain.CJ r) (.slice A1 n1 c1) (.slice none 0 0))) ∧ Below w.heap.size w w' := by
 have hR : Aa (Df (Plain.CJ r) (.slice A1 n1 c1) (.slice none 0 0) = #[.int .i64 1, .int .i64 r.id, .int .i64 r.t0, .int .u8 r.n0, .int .i64 r.t1, .int .u8 r.n1, .slice A1 n1 c1, .bool false, .slice none 0 0]) := ⟨by rw [Plain.CJ, if_pos hk]; simp [Df, hk]⟩
 have K : Aa (r.kind = 1) := ⟨hk⟩
 clear hk
 rw [hR.out]
 obtain ⟨C, hC⟩ : ∃ C, C = Df r (.slice A1 n1 c1) (.slice A2 n2 c2) := ⟨_, rfl⟩
 rw [← hC]
 replace hC := Aa.mk hC
 go_enter Tryz.func27, Tryz.ntmps27
 go_wp2_with (first
   | ((with_reducible refine Ac (N := 1) rfl ?_); refine Aj (N := 1) (C := C) rfl rfl (by first | (go_simp; done) | (go_simp; rfl)) ?_; intro g1 w1 h1 b1 f1; rw [hC.out] at b1)
   | ((with_reducible refine Ac (N := 2) rfl ?_); refine Aj (N := 2) (C := Z9) rfl rfl (by first | (go_simp; done) | (go_simp; rfl)) ?_; intro g2 w2 h2 b2 f2; have b12 := Aa.mk (b1.out.Ad f2.out); have q0 : w2.cell? ⟨g1, 0, none⟩ = some (.int .i64 1) := Bk.cell b12.out (by rw [← K.out]; rfl); have q1 : w2.cell? ⟨g1, 1, none⟩ = some (.int .i64 r.id) := Bk.cell b12.out rfl)
   | ((with_reducible refine Ac (N := 3) rfl ?_); refine Aj (N := 3) (C := Z9) rfl rfl (by first | (go_simp; done) | (go_simp; rfl)) ?_; intro g3 w3 h3 b3 f3; have b13 := Aa.mk (b12.out.Ad f3.out); clear q0 q1)
   | ((with_reducible refine Af (t := 36) (p := 3) (v := .tmp 8) rfl ?_); go_must (refine Ak rfl (ty := 36) (x := .tmp 3) (y := .tmp 8) (cells := #[.int .i64 1, .int .i64 r.id, .int .i64 0, .int .u8 0, .int .i64 0, .int .u8 0, .slice none 0 0, .bool false, .slice none 0 0]) rfl rfl rfl b3.out Bh (by kernel_rfl) (Nat.le_refl 9) #[.int .i64 1, .int .i64 r.id, .int .i64 0, .int .u8 0, .int .i64 0, .int .u8 0, .slice none 0 0, .bool false, .slice none 0 0] (Aq rfl) ?_); intro w4 b34 f4; have b14 := Aa.mk (b13.out.fr f4.out (by have := b12.out.lt; have := h3.out; omega)); have k0 : w4.cell? ⟨g1, 0, none⟩ = some (.int .i64 1) := Bk.cell b14.out (by rw [← K.out]; rfl)
      have k2 : w4.cell? ⟨g1, 2, none⟩ = some (.int .i64 r.t0) := Bk.cell b14.out rfl
      have k3 : w4.cell? ⟨g1, 3, none⟩ = some (.int .u8 r.n0) := Bk.cell b14.out rfl
      have k4 : w4.cell? ⟨g1, 4, none⟩ = some (.int .i64 r.t1) := Bk.cell b14.out rfl
      have k5 : w4.cell? ⟨g1, 5, none⟩ = some (.int .u8 r.n1) := Bk.cell b14.out rfl
      have k6 : w4.cell? ⟨g1, 6, none⟩ = some (.slice A1 n1 c1) := Bk.cell b14.out rfl))
 have p2 : w4.cell? ⟨g3, 2, none⟩ = some (.int .i64 0) := Bk.cell b34.out rfl
 have p3 : w4.cell? ⟨g3, 3, none⟩ = some (.int .u8 0) := Bk.cell b34.out rfl
 have p4 : w4.cell? ⟨g3, 4, none⟩ = some (.int .i64 0) := Bk.cell b34.out rfl
 have p5 : w4.cell? ⟨g3, 5, none⟩ = some (.int .u8 0) := Bk.cell b34.out rfl
 have p6 : w4.cell? ⟨g3, 6, none⟩ = some (.slice none 0 0) := Bk.cell b34.out rfl
 have z2 := Bk.free b34.out 2
 have z3 := Bk.free b34.out 3
 have z4 := Bk.free b34.out 4
 have z5 := Bk.free b34.out 5
 have z6 := Bk.free b34.out 6
 go_region
 refine onW (S := fun W' => Aa (∃ D, Bk W' g3 D 36 ∧ D = #[.int .i64 1, .int .i64 r.id, .int .i64 r.t0, .int .u8 r.n0, .int .i64 r.t1, .int .u8 r.n1, .slice A1 n1 c1, .bool false, .slice none 0 0]) ∧ Aa (Fr (fun k => k = g3) w4 W')) ⟨⟨?_⟩, ⟨?_⟩⟩ ?_
 · exact ⟨_, Ob.drew (Bk.set (Bk.set (Bk.set (Bk.set (Bk.set b34.out 2 _) 3 _) 4 _) 5 _) 6 _), by simp⟩
 · repeat (first | exact Fr.refl _ _ | refine Fr.drew ?_ | refine Fr.set ?_ _ _ _ (.inl rfl))
 rintro w5 ⟨b5, f5⟩
 clear k0 k2 k3 k4 k5 k6 p2 p3 p4 p5 p6 z2 z3 z4 z5 z6
 obtain ⟨D, b5, hD⟩ := b5.out
 replace b5 := Aa.mk b5
 replace hD := Aa.mk hD
 have b25 := Aa.mk ((((b2.out.Ad f3.out).fr f4.out (by have := b2.out.lt; have := h3.out; omega)).fr f5.out (by have := b2.out.lt; have := h3.out; omega)))
 go_wp2_with (first
   | ((with_reducible refine Ac (N := 41) rfl ?_); go_must (refine Au (N := 41) rfl rfl rfl rfl b5.out Tryz.underlying36 rfl Bh D.toList (AU (by rw [hD.out]; rfl)) (by rw [hD.out]; rfl) ?_))
   | ((with_reducible refine Af (t := 36) (p := 2) (v := .tmp 41) rfl ?_); go_must (refine Ak rfl (ty := 36) (x := .tmp 2) (y := .tmp 41) (cells := D) rfl rfl rfl b25.out (by rw [hD.out]; exact Bh) (by rw [hD.out]; kernel_rfl) (by rw [hD.out]; exact Nat.le_refl 9) D (Aq (by rw [hD.out]; rfl)) ?_); intro w6 b6 f6))
 refine DY Tryz.results27 rfl b6.out Tryz.underlying36 rfl Bh (by rw [hD.out]; rfl) rfl ⟨by rw [hD.out], ?_⟩
 have q1 := h1.out
 have q2 := h2.out
 have q3 := h3.out
 have q4 := f1.out.size
 have q5 := f2.out.size
 exact (Fr.trans (T := fun k => k = g2 ∨ k = g3) (Fr.of_below f1.out) ((Fr.of_below f2.out).trans ((Fr.of_below f3.out).trans ((f4.out.weaken (fun _ _ h => .inr h)).trans ((f5.out.weaken (fun _ _ h => .inr h)).trans (f6.out.weaken (fun _ _ h => .inl h))))))).below (by omega) (Nat.le_refl _)
theorem Ze (w : World) (r : Rc) (A1 A2 : Option Addr) (n1 c1 n2 c2 : Nat) (h1 : r.kind ≠ 1) (h2 : r.kind ≠ 2) (h4 : r.kind ≠ 4) (h5 : r.kind ≠ 5) :
   Calls Tryz.prog 27 #[.agg (Df r (.slice A1 n1 c1) (.slice A2 n2 c2))] w fun e w' => e = .returned (.agg (Df (Plain.CJ r) (.slice none 0 0) (.slice none 0 0))) ∧ Below w.heap.size w w' := by
 obtain ⟨O, hO⟩ : ∃ O, O = Df (Plain.CJ r) (.slice none 0 0) (.slice none 0 0) := ⟨_, rfl⟩
 have hR : Aa (O = #[.int .i64 r.kind, .int .i64 r.id, .int .i64 0, .int .u8 0, .int .i64 0, .int .u8 0, .slice none 0 0, .bool false, .slice none 0 0]) := ⟨by rw [hO, Plain.CJ, if_neg h1, if_neg (by omega), if_neg h4]; simp [Df]⟩
 rw [← hO]
 clear hO
 obtain ⟨C, hC⟩ : ∃ C, C = Df r (.slice A1 n1 c1) (.slice A2 n2 c2) := ⟨_, rfl⟩
 rw [← hC]
 replace hC := Aa.mk hC
 obtain ⟨k, hk⟩ : ∃ k, k = r.kind := ⟨_, rfl⟩
 rw [← hk] at h1 h2 h4 h5 hR
 have d1 : (k == 1) = false := by simpa using h1
 have d2 : (k == 2) = false := by simpa using h2
 have d4 : (k == 4) = false := by simpa using h4
 have d5 : (k == 5) = false := by simpa using h5
 clear h1 h2 h4 h5
 replace hk := Aa.mk hk
 go_enter Tryz.func27, Tryz.ntmps27
 go_wp2_with (first
   | ((with_reducible refine Ac (N := 1) rfl ?_); refine Aj (N := 1) (C := C) rfl rfl (by first | (go_simp; done) | (go_simp; rfl)) ?_; intro g1 w1 h1 b1 f1; rw [hC.out] at b1)
   | ((with_reducible refine Ac (N := 2) rfl ?_); refine Aj (N := 2) (C := Z9) rfl rfl (by first | (go_simp; done) | (go_simp; rfl)) ?_; intro g2 w2 h2 b2 f2; have b12 := Aa.mk (b1.out.Ad f2.out); have q0 : w2.cell? ⟨g1, 0, none⟩ = some (.int .i64 k) := (Bk.cell b12.out (v := .int .i64 r.kind) rfl).trans (by rw [← hk.out]); have q1 : w2.cell? ⟨g1, 1, none⟩ = some (.int .i64 r.id) := Bk.cell b12.out rfl)
   | ((with_reducible refine Ac (N := 3) rfl ?_); refine Aj (N := 3) (C := Z9) rfl rfl (by first | (go_simp; done) | (go_simp; rfl)) ?_; intro g3 w3 h3 b3 f3; have b13 := Aa.mk (b12.out.Ad f3.out); clear q0 q1)
   | ((with_reducible refine Af (t := 36) (p := 3) (v := .tmp 8) rfl ?_); go_must (refine Ak rfl (ty := 36) (x := .tmp 3) (y := .tmp 8) (cells := #[.int .i64 k, .int .i64 r.id, .int .i64 0, .int .u8 0, .int .i64 0, .int .u8 0, .slice none 0 0, .bool false, .slice none 0 0]) rfl rfl rfl b3.out Bh (by kernel_rfl) (Nat.le_refl 9) #[.int .i64 k, .int .i64 r.id, .int .i64 0, .int .u8 0, .int .i64 0, .int .u8 0, .slice none 0 0, .bool false, .slice none 0 0] (Aq rfl) ?_); intro w4 b34 f4; have b14 := Aa.mk (b13.out.fr f4.out (by have := b12.out.lt; have := h3.out; omega)); have k0 : w4.cell? ⟨g1, 0, none⟩ = some (.int .i64 k) := (Bk.cell b14.out (v := .int .i64 r.kind) rfl).trans (by rw [← hk.out])
      have k4 : w4.cell? ⟨g1, 4, none⟩ = some (.int .i64 r.t1) := Bk.cell b14.out rfl
      have k5 : w4.cell? ⟨g1, 5, none⟩ = some (.int .u8 r.n1) := Bk.cell b14.out rfl
      have k7 : w4.cell? ⟨g1, 7, none⟩ = some (.bool r.yes) := Bk.cell b14.out rfl
      have k8 : w4.cell? ⟨g1, 8, none⟩ = some (.slice A2 n2 c2) := Bk.cell b14.out rfl
      have p4 : w4.cell? ⟨g3, 4, none⟩ = some (.int .i64 0) := Bk.cell b34.out rfl
      have p5 : w4.cell? ⟨g3, 5, none⟩ = some (.int .u8 0) := Bk.cell b34.out rfl
      have p7 : w4.cell? ⟨g3, 7, none⟩ = some (.bool false) := Bk.cell b34.out rfl
      have p8 : w4.cell? ⟨g3, 8, none⟩ = some (.slice none 0 0) := Bk.cell b34.out rfl
      have z4 := Bk.free b34.out 4
      have z5 := Bk.free b34.out 5
      have z7 := Bk.free b34.out 7
      have z8 := Bk.free b34.out 8)
   | ((with_reducible refine Ac (N := 41) rfl ?_)
      go_must (refine onW (S := fun W' => Aa (∃ D, Bk W' g3 D 36 ∧ D = O) ∧ Aa (Fr (fun k => k = g3) w4 W')) ⟨⟨⟨_, b34.out, hR.out.symm⟩⟩, ⟨by repeat (first | exact Fr.refl _ _ | refine Fr.drew ?_ | refine Fr.set ?_ _ _ _ (.inl rfl))⟩⟩ ?_)
      rintro w5 ⟨e5, f5⟩
      clear k0 k4 k5 k7 k8 p4 p5 p7 p8 z4 z5 z7 z8
      obtain ⟨D, b5, hD⟩ := e5.out
      clear e5
      subst hD
      replace b5 := Aa.mk b5
      have b25 := Aa.mk ((((b2.out.Ad f3.out).fr f4.out (by have := b2.out.lt; have := h3.out; omega)).fr f5.out (by have := b2.out.lt; have := h3.out; omega)))
      go_must (refine Au (N := 41) rfl rfl rfl rfl b5.out Tryz.underlying36 rfl Bh D.toList (AU (by rw [hR.out]; rfl)) (by rw [hR.out]; rfl) ?_))
   | ((with_reducible refine Af (t := 36) (p := 2) (v := .tmp 41) rfl ?_); go_must (refine Ak rfl (ty := 36) (x := .tmp 2) (y := .tmp 41) (cells := D) rfl rfl rfl b25.out (by rw [hR.out]; exact Bh) (by rw [hR.out]; kernel_rfl) (by rw [hR.out]; exact Nat.le_refl 9) D (Aq (by rw [hR.out]; rfl)) ?_); intro w6 b6 f6))
 refine DY Tryz.results27 rfl b6.out Tryz.underlying36 rfl Bh (by rw [hR.out]; rfl) rfl ⟨rfl, ?_⟩
 have q1 := h1.out
 have q2 := h2.out
 have q3 := h3.out
 have q4 := f1.out.size
 have q5 := f2.out.size
 exact (Fr.trans (T := fun k => k = g2 ∨ k = g3) (Fr.of_below f1.out) ((Fr.of_below f2.out).trans ((Fr.of_below f3.out).trans ((f4.out.weaken (fun _ _ h => .inr h)).trans ((f5.out.weaken (fun _ _ h => .inr h)).trans (f6.out.weaken (fun _ _ h => .inl h))))))).below (by omega) (Nat.le_refl _)
theorem Zc (w : World) (r : Rc) (A1 A2 : Option Addr) (n1 c1 n2 c2 : Nat) (h : r.kind = 2) :
   Calls Tryz.prog 27 #[.agg (Df r (.slice A1 n1 c1) (.slice A2 n2 c2))] w fun e w' => e = .returned (.agg (Df (Plain.CJ r) (.slice none 0 0) (.slice none 0 0))) ∧ Below w.heap.size w w' := by
 obtain ⟨O, hO⟩ : ∃ O, O = Df (Plain.CJ r) (.slice none 0 0) (.slice none 0 0) := ⟨_, rfl⟩
 have hR : Aa (O = #[.int .i64 r.kind, .int .i64 r.id, .int .i64 0, .int .u8 0, .int .i64 r.t1, .int .u8 r.n1, .slice none 0 0, .bool false, .slice none 0 0]) := ⟨by rw [hO, Plain.CJ, if_neg (by omega), if_pos (.inl h)]; simp [Df]⟩
 rw [← hO]
 clear hO
 obtain ⟨C, hC⟩ : ∃ C, C = Df r (.slice A1 n1 c1) (.slice A2 n2 c2) := ⟨_, rfl⟩
 rw [← hC]
 replace hC := Aa.mk hC
 obtain ⟨k, hk⟩ : ∃ k, k = r.kind := ⟨_, rfl⟩
 rw [← hk] at h hR
 subst h
 replace hk := Aa.mk hk
 go_enter Tryz.func27, Tryz.ntmps27
 go_wp2_with (first
   | ((with_reducible refine Ac (N := 1) rfl ?_); refine Aj (N := 1) (C := C) rfl rfl (by first | (go_simp; done) | (go_simp; rfl)) ?_; intro g1 w1 h1 b1 f1; rw [hC.out] at b1)
   | ((with_reducible refine Ac (N := 2) rfl ?_); refine Aj (N := 2) (C := Z9) rfl rfl (by first | (go_simp; done) | (go_simp; rfl)) ?_; intro g2 w2 h2 b2 f2; have b12 := Aa.mk (b1.out.Ad f2.out); have q0 : w2.cell? ⟨g1, 0, none⟩ = some (.int .i64 2) := (Bk.cell b12.out (v := .int .i64 r.kind) rfl).trans (by rw [← hk.out]); have q1 : w2.cell? ⟨g1, 1, none⟩ = some (.int .i64 r.id) := Bk.cell b12.out rfl)
   | ((with_reducible refine Ac (N := 3) rfl ?_); refine Aj (N := 3) (C := Z9) rfl rfl (by first | (go_simp; done) | (go_simp; rfl)) ?_; intro g3 w3 h3 b3 f3; have b13 := Aa.mk (b12.out.Ad f3.out); clear q0 q1)
   | ((with_reducible refine Af (t := 36) (p := 3) (v := .tmp 8) rfl ?_); go_must (refine Ak rfl (ty := 36) (x := .tmp 3) (y := .tmp 8) (cells := #[.int .i64 2, .int .i64 r.id, .int .i64 0, .int .u8 0, .int .i64 0, .int .u8 0, .slice none 0 0, .bool false, .slice none 0 0]) rfl rfl rfl b3.out Bh (by kernel_rfl) (Nat.le_refl 9) #[.int .i64 2, .int .i64 r.id, .int .i64 0, .int .u8 0, .int .i64 0, .int .u8 0, .slice none 0 0, .bool false, .slice none 0 0] (Aq rfl) ?_); intro w4 b34 f4; have b14 := Aa.mk (b13.out.fr f4.out (by have := b12.out.lt; have := h3.out; omega)); have k0 : w4.cell? ⟨g1, 0, none⟩ = some (.int .i64 2) := (Bk.cell b14.out (v := .int .i64 r.kind) rfl).trans (by rw [← hk.out])
      have k4 : w4.cell? ⟨g1, 4, none⟩ = some (.int .i64 r.t1) := Bk.cell b14.out rfl
      have k5 : w4.cell? ⟨g1, 5, none⟩ = some (.int .u8 r.n1) := Bk.cell b14.out rfl
      have k7 : w4.cell? ⟨g1, 7, none⟩ = some (.bool r.yes) := Bk.cell b14.out rfl
      have k8 : w4.cell? ⟨g1, 8, none⟩ = some (.slice A2 n2 c2) := Bk.cell b14.out rfl
      have p4 : w4.cell? ⟨g3, 4, none⟩ = some (.int .i64 0) := Bk.cell b34.out rfl
      have p5 : w4.cell? ⟨g3, 5, none⟩ = some (.int .u8 0) := Bk.cell b34.out rfl
      have p7 : w4.cell? ⟨g3, 7, none⟩ = some (.bool false) := Bk.cell b34.out rfl
      have p8 : w4.cell? ⟨g3, 8, none⟩ = some (.slice none 0 0) := Bk.cell b34.out rfl
      have z4 := Bk.free b34.out 4
      have z5 := Bk.free b34.out 5
      have z7 := Bk.free b34.out 7
      have z8 := Bk.free b34.out 8)
   | ((with_reducible refine Ac (N := 41) rfl ?_)
      go_must (refine onW (S := fun W' => Aa (∃ D, Bk W' g3 D 36 ∧ D = O) ∧ Aa (Fr (fun k => k = g3) w4 W')) ⟨⟨⟨_, by first | exact (Bk.set (Bk.set b34.out 4 _) 5 _) | exact Ob.drew (Bk.set (Bk.set b34.out 4 _) 5 _), by rw [hR.out]; simp⟩⟩, ⟨by repeat (first | exact Fr.refl _ _ | refine Fr.drew ?_ | refine Fr.set ?_ _ _ _ (.inl rfl))⟩⟩ ?_)
      rintro w5 ⟨e5, f5⟩
      clear k0 k4 k5 k7 k8 p4 p5 p7 p8 z4 z5 z7 z8
      obtain ⟨D, b5, hD⟩ := e5.out
      clear e5
      subst hD
      replace b5 := Aa.mk b5
      have b25 := Aa.mk ((((b2.out.Ad f3.out).fr f4.out (by have := b2.out.lt; have := h3.out; omega)).fr f5.out (by have := b2.out.lt; have := h3.out; omega)))
      go_must (refine Au (N := 41) rfl rfl rfl rfl b5.out Tryz.underlying36 rfl Bh D.toList (AU (by rw [hR.out]; rfl)) (by rw [hR.out]; rfl) ?_))
   | ((with_reducible refine Af (t := 36) (p := 2) (v := .tmp 41) rfl ?_); go_must (refine Ak rfl (ty := 36) (x := .tmp 2) (y := .tmp 41) (cells := D) rfl rfl rfl b25.out (by rw [hR.out]; exact Bh) (by rw [hR.out]; kernel_rfl) (by rw [hR.out]; exact Nat.le_refl 9) D (Aq (by rw [hR.out]; rfl)) ?_); intro w6 b6 f6))
 refine DY Tryz.results27 rfl b6.out Tryz.underlying36 rfl Bh (by rw [hR.out]; rfl) rfl ⟨rfl, ?_⟩
 have q1 := h1.out
 have q2 := h2.out
 have q3 := h3.out
 have q4 := f1.out.size
 have q5 := f2.out.size
 exact (Fr.trans (T := fun k => k = g2 ∨ k = g3) (Fr.of_below f1.out) ((Fr.of_below f2.out).trans ((Fr.of_below f3.out).trans ((f4.out.weaken (fun _ _ h => .inr h)).trans ((f5.out.weaken (fun _ _ h => .inr h)).trans (f6.out.weaken (fun _ _ h => .inl h))))))).below (by omega) (Nat.le_refl _)
theorem Zb (w : World) (r : Rc) (A1 A2 : Option Addr) (n1 c1 n2 c2 : Nat) (h : r.kind = 5) :
   Calls Tryz.prog 27 #[.agg (Df r (.slice A1 n1 c1) (.slice A2 n2 c2))] w fun e w' => e = .returned (.agg (Df (Plain.CJ r) (.slice none 0 0) (.slice none 0 0))) ∧ Below w.heap.size w w' := by
 obtain ⟨O, hO⟩ : ∃ O, O = Df (Plain.CJ r) (.slice none 0 0) (.slice none 0 0) := ⟨_, rfl⟩
 have hR : Aa (O = #[.int .i64 r.kind, .int .i64 r.id, .int .i64 0, .int .u8 0, .int .i64 r.t1, .int .u8 r.n1, .slice none 0 0, .bool false, .slice none 0 0]) := ⟨by rw [hO, Plain.CJ, if_neg (by omega), if_pos (.inr h)]; simp [Df]⟩
 rw [← hO]
 clear hO
 obtain ⟨C, hC⟩ : ∃ C, C = Df r (.slice A1 n1 c1) (.slice A2 n2 c2) := ⟨_, rfl⟩
 rw [← hC]
 replace hC := Aa.mk hC
 obtain ⟨k, hk⟩ : ∃ k, k = r.kind := ⟨_, rfl⟩
 rw [← hk] at h hR
 subst h
 replace hk := Aa.mk hk
 go_enter Tryz.func27, Tryz.ntmps27
 go_wp2_with (first
   | ((with_reducible refine Ac (N := 1) rfl ?_); refine Aj (N := 1) (C := C) rfl rfl (by first | (go_simp; done) | (go_simp; rfl)) ?_; intro g1 w1 h1 b1 f1; rw [hC.out] at b1)
   | ((with_reducible refine Ac (N := 2) rfl ?_); refine Aj (N := 2) (C := Z9) rfl rfl (by first | (go_simp; done) | (go_simp; rfl)) ?_; intro g2 w2 h2 b2 f2; have b12 := Aa.mk (b1.out.Ad f2.out); have q0 : w2.cell? ⟨g1, 0, none⟩ = some (.int .i64 5) := (Bk.cell b12.out (v := .int .i64 r.kind) rfl).trans (by rw [← hk.out]); have q1 : w2.cell? ⟨g1, 1, none⟩ = some (.int .i64 r.id) := Bk.cell b12.out rfl)
   | ((with_reducible refine Ac (N := 3) rfl ?_); refine Aj (N := 3) (C := Z9) rfl rfl (by first | (go_simp; done) | (go_simp; rfl)) ?_; intro g3 w3 h3 b3 f3; have b13 := Aa.mk (b12.out.Ad f3.out); clear q0 q1)
   | ((with_reducible refine Af (t := 36) (p := 3) (v := .tmp 8) rfl ?_); go_must (refine Ak rfl (ty := 36) (x := .tmp 3) (y := .tmp 8) (cells := #[.int .i64 5, .int .i64 r.id, .int .i64 0, .int .u8 0, .int .i64 0, .int .u8 0, .slice none 0 0, .bool false, .slice none 0 0]) rfl rfl rfl b3.out Bh (by kernel_rfl) (Nat.le_refl 9) #[.int .i64 5, .int .i64 r.id, .int .i64 0, .int .u8 0, .int .i64 0, .int .u8 0, .slice none 0 0, .bool false, .slice none 0 0] (Aq rfl) ?_); intro w4 b34 f4; have b14 := Aa.mk (b13.out.fr f4.out (by have := b12.out.lt; have := h3.out; omega)); have k0 : w4.cell? ⟨g1, 0, none⟩ = some (.int .i64 5) := (Bk.cell b14.out (v := .int .i64 r.kind) rfl).trans (by rw [← hk.out])
      have k4 : w4.cell? ⟨g1, 4, none⟩ = some (.int .i64 r.t1) := Bk.cell b14.out rfl
      have k5 : w4.cell? ⟨g1, 5, none⟩ = some (.int .u8 r.n1) := Bk.cell b14.out rfl
      have k7 : w4.cell? ⟨g1, 7, none⟩ = some (.bool r.yes) := Bk.cell b14.out rfl
      have k8 : w4.cell? ⟨g1, 8, none⟩ = some (.slice A2 n2 c2) := Bk.cell b14.out rfl
      have p4 : w4.cell? ⟨g3, 4, none⟩ = some (.int .i64 0) := Bk.cell b34.out rfl
      have p5 : w4.cell? ⟨g3, 5, none⟩ = some (.int .u8 0) := Bk.cell b34.out rfl
      have p7 : w4.cell? ⟨g3, 7, none⟩ = some (.bool false) := Bk.cell b34.out rfl
      have p8 : w4.cell? ⟨g3, 8, none⟩ = some (.slice none 0 0) := Bk.cell b34.out rfl
      have z4 := Bk.free b34.out 4
      have z5 := Bk.free b34.out 5
      have z7 := Bk.free b34.out 7
      have z8 := Bk.free b34.out 8)
   | ((with_reducible refine Ac (N := 41) rfl ?_)
      go_must (refine onW (S := fun W' => Aa (∃ D, Bk W' g3 D 36 ∧ D = O) ∧ Aa (Fr (fun k => k = g3) w4 W')) ⟨⟨⟨_, by first | exact (Bk.set (Bk.set b34.out 4 _) 5 _) | exact Ob.drew (Bk.set (Bk.set b34.out 4 _) 5 _), by rw [hR.out]; simp⟩⟩, ⟨by repeat (first | exact Fr.refl _ _ | refine Fr.drew ?_ | refine Fr.set ?_ _ _ _ (.inl rfl))⟩⟩ ?_)
      rintro w5 ⟨e5, f5⟩
      clear k0 k4 k5 k7 k8 p4 p5 p7 p8 z4 z5 z7 z8
      obtain ⟨D, b5, hD⟩ := e5.out
      clear e5
      subst hD
      replace b5 := Aa.mk b5
      have b25 := Aa.mk ((((b2.out.Ad f3.out).fr f4.out (by have := b2.out.lt; have := h3.out; omega)).fr f5.out (by have := b2.out.lt; have := h3.out; omega)))
      go_must (refine Au (N := 41) rfl rfl rfl rfl b5.out Tryz.underlying36 rfl Bh D.toList (AU (by rw [hR.out]; rfl)) (by rw [hR.out]; rfl) ?_))
   | ((with_reducible refine Af (t := 36) (p := 2) (v := .tmp 41) rfl ?_); go_must (refine Ak rfl (ty := 36) (x := .tmp 2) (y := .tmp 41) (cells := D) rfl rfl rfl b25.out (by rw [hR.out]; exact Bh) (by rw [hR.out]; kernel_rfl) (by rw [hR.out]; exact Nat.le_refl 9) D (Aq (by rw [hR.out]; rfl)) ?_); intro w6 b6 f6))
 refine DY Tryz.results27 rfl b6.out Tryz.underlying36 rfl Bh (by rw [hR.out]; rfl) rfl ⟨rfl, ?_⟩
 have q1 := h1.out
 have q2 := h2.out
 have q3 := h3.out
 have q4 := f1.out.size
 have q5 := f2.out.size
 exact (Fr.trans (T := fun k => k = g2 ∨ k = g3) (Fr.of_below f1.out) ((Fr.of_below f2.out).trans ((Fr.of_below f3.out).trans ((f4.out.weaken (fun _ _ h => .inr h)).trans ((f5.out.weaken (fun _ _ h => .inr h)).trans (f6.out.weaken (fun _ _ h => .inl h))))))).below (by omega) (Nat.le_refl _)
end Go.Proofs.YtchfmgbjddopoaaGreatDoor.Hand
