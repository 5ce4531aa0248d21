import Derived.Maps.Keyed
import Derived.DeepKeys4
import Derived.Test.YtchfmgbjddopoaaGreatDoorM03
import Derived.Test.YtchfmgbjddopoaaGreatDoorM04
import Derived.Test.YtchfmgbjddopoaaGreatDoorM11
set_option linter.unusedVariables false
set_option linter.unusedSimpArgs false
set_option maxHeartbeats 6400000
set_option maxRecDepth 100000
namespace Go.Proofs.YtchfmgbjddopoaaGreatDoor.Hand
open Go.RowKit Go.Proofs.YtchfmgbjddopoaaGreatDoorW.PrintWords Go.Proofs.YtchfmgbjddopoaaGreatDoorW.PrintLast Go.Proofs.YtchfmgbjddopoaaGreatDoorW.PrintMore
attribute [local go_sem ↓] Go.wp_at_zero Go.wp_at_succ
open Plain (Ky Wr Rc Ver Ent St Bytes textOf)
theorem EO (l : List Int) : textOf l = l.take (textOf l).length := by
 unfold textOf
 exact (List.prefix_iff_eq_take.1 (List.takeWhile_prefix _))
theorem Ja : ∀ (l : List Int), ∀ x ∈ textOf l, x ≠ 0
 | [], x, hx => by simp [textOf] at hx
 | a :: l, x, hx => by
   by_cases ha : a = 0
   · simp [textOf, ha] at hx
   · have e : textOf (a :: l) = a :: textOf l := by simp [textOf, ha]
     rw [e] at hx
     rcases List.mem_cons.1 hx with rfl | hx
     · exact ha
     · exact Ja l x hx
theorem J5 : ∀ (l : List Int) (h : (textOf l).length < l.length), l[(textOf l).length] = 0
 | [], h => by simp [textOf] at h
 | a :: l, h => by
   by_cases ha : a = 0
   · subst ha
     rfl
   · have e : textOf (a :: l) = a :: textOf l := by simp [textOf, ha]
     simp only [e, List.length_cons, List.getElem_cons_succ] at h ⊢
     exact J5 l (by simpa using h)
theorem V9 (w : World) (k : Ky) : Calls Tryz.prog 171 #[Dq k] w fun e w' => e = .returned (.string (strOfNums (textOf k.l))) ∧ Below w.heap.size w w' := by
 obtain ⟨m, hm⟩ : ∃ m, m = (textOf k.l).length := ⟨_, rfl⟩
 obtain ⟨T, hT⟩ : ∃ T, T = strOfNums (textOf k.l) := ⟨_, rfl⟩
 have hm16 : m ≤ 16 := by
   have := k.ok.1
   have e := congrArg List.length (EO k.l)
   rw [List.length_take] at e
   omega
 rw [← hT]
 replace hT := Aa.mk hT
 replace hm := Aa.mk hm
 go_enter Tryz.func171, Tryz.ntmps171
 go_wp2_with (first
   | ((with_reducible refine Ac (N := 1) rfl ?_); refine Aj (N := 1) (C := (AZ k).toArray) rfl rfl (by first | (go_simp; done) | (go_simp; rfl)) ?_; intro g1 w1 h1 b1 f1))
 have hc : Aa (∀ j (hj : j < 16), w1.cell? ⟨g1, j, none⟩ = some (.int .u8 (k.l[j]'(by rw [k.ok.1]; exact hj)))) := ⟨fun j hj => Bk.cell b1.out (by
   rw [List.getElem?_toArray, AZ, List.getElem?_map, List.getElem?_eq_getElem (by rw [k.ok.1]; exact hj)]; rfl)⟩
 go_loop [3] (fun v => ∃ j : Nat, j ≤ m ∧ v = .int .i64 j) (fun v => m - (intOf v).toNat)
 case atStart => exact ⟨0, Nat.zero_le _, rfl⟩
 case round =>
   obtain ⟨j, hj, rfl⟩ := hrel
   by_cases hlt : j < m
   · have d1 : decide ((j : Int) < 16) = true := by simp; omega
     have d2 : decide (j < 16) = true := by simp; omega
     have cj := hc.out j (by omega)
     have hne : k.l[j]'(by rw [k.ok.1]; omega) ≠ 0 := Ja k.l _ (by
       rw [EO k.l, ← hm.out]
       exact List.mem_take_iff_getElem.2 ⟨j, by rw [k.ok.1]; omega, rfl⟩)
     generalize k.l[j]'(by rw [k.ok.1]; omega) = x at cj hne
     have e1 : (x == 0) = false := by simpa using hne
     have e2 : (x != 0) = true := by simpa using hne
     clear hne
     go_wp2_with fail
     go_round
     case rel => exact ⟨j + 1, hlt, by go_num⟩
     case measure => simp [intOf]; omega
   · have : j = m := by omega
     subst this
     have hcv : Aa (∀ W, (∀ i (hi : i < 16), W.cell? ⟨g1, i, none⟩ = some (.int .u8 (k.l[i]'(by rw [k.ok.1]; exact hi)))) → (convert 39 9 (.slice (some ⟨g1, 0, none⟩) j 16)).run Tryz.prog W = .ok (.string T) W) := ⟨fun W hW => by
       rw [hT.out]
       refine Em Tryz.underlying39 Tryz.underlying5 Tryz.underlying9 ⟨hm.out.symm, by omega, fun _ => ⟨_, rfl, fun i hi => ?_⟩⟩
       have h2 := hW i (by omega)
       rw [show (⟨g1, 0, none⟩ : Addr).add i = ⟨g1, i, none⟩ by rw [Addr.add_mid, Nat.zero_add], h2]
       congr 2
       rw [EO k.l, List.getD_eq_getElem?_getD, List.getElem?_take, if_pos (by rw [← hm.out]; exact hi), List.getElem?_eq_getElem (by rw [k.ok.1]; omega)]
       rfl⟩
     have hcv1 := hcv.out w1 hc.out
     by_cases h16 : j < 16
     · have d1 : decide ((j : Int) < 16) = true := by simp; omega
       have d2 : decide (j < 16) = true := by simp; omega
       have cj := hc.out j h16
       have h0 : k.l[j]'(by rw [k.ok.1]; omega) = 0 := by
         have := J5 k.l (by rw [← hm.out, k.ok.1]; exact h16)
         simpa [← hm.out] using this
       rw [h0] at cj
       have s1 : ((j : Int) ≤ 16) = True := eq_true (by omega)
       have s2 : (j ≤ 16) = True := eq_true (by omega)
       have s3 : ((0 : Int) ≤ (j : Int)) = True := eq_true (by omega)
       go_wp2_with fail
       go_returns
       exact ⟨rfl, f1.out⟩
     · have e16 : j = 16 := by omega
       subst e16
       go_wp2_with fail
       go_returns
       exact ⟨rfl, f1.out⟩
theorem index_none : ∀ (l : List UInt8), (∀ x ∈ l, x ≠ 0) → Lib.indexByte l 0 = -1
 | [], _ => rfl
 | a :: l, h => by
   have ha : (a == 0) = false := by simpa using h a (by simp)
   have ih := index_none l (fun x hx => h x (by simp [hx]))
   simp [Lib.indexByte, ha, ih]
theorem ZM {x : Int} (h0 : 0 ≤ x) (h1 : x < 256) (h : x ≠ 0) : UInt8.ofNat x.toNat ≠ 0 := by
 intro e
 have := congrArg UInt8.toNat e
 simp at this
 omega
theorem RS (k : Ky) : Lib.indexByte (strOfNums (textOf k.l)).data.toList 0 = -1 := by
 refine index_none _ fun x hx => ?_
 rw [strOfNums_data] at hx
 obtain ⟨y, hy, rfl⟩ := List.mem_map.1 hx
 have hm : y ∈ k.l := (List.takeWhile_prefix _).subset hy
 have := k.ok.2 y hm
 exact ZM this.1 this.2 (Ja _ y hy)
theorem Jb (k : Ky) : (textOf k.l).length ≤ 16 := by
 have := k.ok.1
 have e := congrArg List.length (EO k.l)
 rw [List.length_take] at e
 omega
def TW (t : List Int) : List Int := t ++ List.replicate (16 - t.length) 0
theorem JB (k : Ky) : (TW (textOf k.l)).length = 16 := by
 have := Jb k
 simp [TW]
 omega
theorem Vx : Z16 = ((List.replicate 16 (0 : Int)).map (Value.int .u8)).toArray := by kernel_rfl
theorem U4 (k : Ky) : over Z16 0 ((strOfNums (textOf k.l)).data.toList.map fun x => Value.int .u8 (x.toNat : Int)) = ((TW (textOf k.l)).map (Value.int .u8)).toArray := by
 have hb : ∀ x ∈ textOf k.l, ((UInt8.ofNat x.toNat).toNat : Int) = x := fun x hx => by
   have := k.ok.2 x ((List.takeWhile_prefix _).subset hx)
   simp
   omega
 have e : (strOfNums (textOf k.l)).data.toList.map (fun x => Value.int .u8 (x.toNat : Int)) = (textOf k.l).map (Value.int .u8) := by
   rw [strOfNums_data, List.map_map]
   refine List.map_congr_left fun x hx => ?_
   simp only [Function.comp]
   rw [hb x hx]
 rw [e, Vx, NQ _ _ 0 (by simpa using Jb k), List.take_zero, List.nil_append, List.length_map, Nat.zero_add, ← List.map_drop, List.drop_replicate, ← List.map_append]
 rfl
theorem Qm (w : World) : Calls Tryz.prog 145 #[.string (strOfNums [])] w fun e w' => e = .returned (.tuple #[.agg Z16, .int .i64 1]) ∧ Below w.heap.size w w' := by
 rw [show strOfNums [] = ⟨#[]⟩ from rfl]
 go_enter Tryz.func145, Tryz.ntmps145
 go_wp2_with (first
   | ((with_reducible refine Ac (N := 2) rfl ?_); refine Aj (N := 2) (C := Z16) rfl rfl (by first | (go_simp; done) | (go_simp; rfl)) ?_; intro g2 w2 hg2 b2 f2)
   | ((with_reducible refine Ac (N := 4) rfl ?_); refine Aj (N := 4) (C := Z16) rfl rfl (by first | (go_simp; done) | (go_simp; rfl)) ?_; intro g4 w4 hg4 b4 f4; have b24 := Aa.mk (b2.out.Ad f4.out))
   | ((with_reducible refine Ac (N := 17) rfl ?_); go_must (refine Au (N := 17) rfl rfl rfl rfl b4.out Tryz.underlying103 rfl AB Z16.toList (AU rfl) rfl ?_))
   | ((with_reducible refine Af (t := 103) (p := 2) (v := .tmp 17) rfl ?_); go_must (refine Ak rfl (ty := 103) (x := .tmp 2) (y := .tmp 17) rfl rfl rfl b24.out AB (by kernel_rfl) (Nat.le_refl 16) Z16 (Aq rfl) ?_); intro w5 b5 f5))
 refine AO (Tryz.results145) rfl b5.out Tryz.underlying103 rfl AB rfl rfl ⟨rfl, ?_⟩
 have := f2.out.size
 have := hg2.out
 exact ((Fr.of_below f2.out).trans ((Fr.of_below f4.out).trans f5.out)).below (fun k hk e => by omega) (Nat.le_refl _)
theorem Ql (w : World) (k : Ky) (hk : textOf k.l ≠ []) : Calls Tryz.prog 145 #[.string (strOfNums (textOf k.l))] w fun e w' => e = .returned (.tuple #[.agg ((TW (textOf k.l)).map (Value.int .u8)).toArray, .int .i64 0]) ∧ Below w.heap.size w w' := by
 have hi := fun w => (Tryz.strings_IndexByte (strOfNums (textOf k.l)) 0 w)
 simp only [show (0 : Int).toNat.toUInt8 = 0 from rfl, RS k] at hi
 have hov := U4 k
 have hpl := JB k
 obtain ⟨P, hP⟩ : ∃ P, P = ((TW (textOf k.l)).map (Value.int .u8)).toArray := ⟨_, rfl⟩
 have hPs : P.size = 16 := by rw [hP]; simpa using hpl
 have hP1 : P.all (·.oneCell') = true := by
   rw [hP, Array.all_eq_true_iff_forall_mem]
   intro u hu
   simp at hu
   obtain ⟨x, _, rfl⟩ := hu
   rfl
 rw [← hP] at hov ⊢
 have hsz : (strOfNums (textOf k.l)).size ≤ 16 := by rw [strOfNums_size]; exact Jb k
 have hne : (strOfNums (textOf k.l)).size ≠ 0 := by rw [strOfNums_size]; simpa using hk
 generalize strOfNums (textOf k.l) = T at hi hov hsz hne
 have e1 : T.toList ≠ [] := fun e => hne (by rw [ByteArray.toList_eq] at e; have := congrArg List.length e; simpa using this)
 have e2 : (!T.toList.isEmpty) = true := by simpa using e1
 have e3 : T.toList.isEmpty = false := by simpa using e1
 have d1 : decide (16 < (T.size : Int)) = false := by simp; omega
 have hcp : ∀ (b : Nat) (W : World), Bk W b Z16 103 → (Builtin.copy_ #[39, 9] 3 #[.slice (some ⟨b, 0, none⟩) 16 16, .string T]).run Tryz.prog W = .ok (goInt T.size) (W.setCells b 0 (T.data.toList.map fun x => Value.int .u8 (x.toNat : Int))) := fun b W h =>
   run_copy_string W 39 9 3 5 b 0 16 16 T Tryz.underlying39 Xh hsz (fun j hj => Bk.isSome h (by rw [show Z16.size = 16 from rfl]; omega)) (fun j hj => Bk.free h _)
 replace hcp := Aa.mk hcp
 replace hov := Aa.mk hov
 replace hP := Aa.mk hP
 replace hPs := Aa.mk hPs
 replace hP1 := Aa.mk hP1
 replace hi := Aa.mk hi
 clear hk hpl hsz hne e1
 go_enter Tryz.func145, Tryz.ntmps145
 go_wp2_with (first
   | ((with_reducible refine Ac (N := 2) rfl ?_); refine Aj (N := 2) (C := Z16) rfl rfl (by first | (go_simp; done) | (go_simp; rfl)) ?_; intro g2 w2 hg2 b2 f2)
   | ((with_reducible refine Ac (N := 4) rfl ?_); refine Aj (N := 4) (C := Z16) rfl rfl (by first | (go_simp; done) | (go_simp; rfl)) ?_; intro g4 w4 hg4 b4 f4; have b24 := Aa.mk (b2.out.Ad f4.out); have hc := hcp.out g4 w4 b4.out)
   | (go_at_call 203; refine (hi.out _).mono ?_; rintro e w1 ⟨rfl, rfl⟩)
   | ((with_reducible refine Ac (N := 21) rfl ?_)
      go_must (refine onW (S := fun W' => Aa (Bk W' g4 P 103) ∧ Aa (Fr (fun k => k = g4) w1 W')) ⟨⟨by rw [← hov.out]; exact Bk.sets _ 0 b4.out⟩, ⟨Fr.sets _ _ (Fr.refl _ _) (.inl rfl)⟩⟩ ?_)
      rintro w5 ⟨b45, f5⟩
      clear hc
      have b25 := Aa.mk (b24.out.fr f5.out (by have := b2.out.lt; have := hg4.out; omega))
      go_must (refine Au (N := 21) rfl rfl rfl rfl b45.out Tryz.underlying103 rfl AB P.toList (AU hPs.out) (by rw [Array.length_toList, hPs.out]) ?_))
   | ((with_reducible refine Af (t := 103) (p := 2) (v := .tmp 21) rfl ?_); go_must (refine Ak rfl (ty := 103) (x := .tmp 2) (y := .tmp 21) (cells := P) rfl rfl rfl b25.out (by rw [hPs.out]; exact AB) hP1.out (by rw [hPs.out]; exact Nat.le_refl 16) P (Aq hPs.out) ?_); intro w6 b6 f6))
 refine AO (Tryz.results145) rfl b6.out Tryz.underlying103 rfl AB hPs.out rfl ⟨rfl, ?_⟩
 have := f2.out.size
 have := hg2.out
 have := hg4.out
 exact (Fr.trans (T := fun k => k = g2 ∨ k = g4) (Fr.of_below f2.out) ((Fr.of_below f4.out).trans ((f5.out.weaken (fun _ _ h => .inr h)).trans (f6.out.weaken (fun _ _ h => .inl h))))).below (fun k hk e => by omega) (Nat.le_refl _)
theorem Y9 (k : Ky) : decide ((TW (textOf k.l)) = k.l) = decide (k.l = TW (textOf k.l)) := by
 rw [Bool.eq_iff_iff, decide_eq_true_eq, decide_eq_true_eq]
 exact ⟨Eq.symm, Eq.symm⟩
theorem SL (k : Ky) : Bytes (TW (textOf k.l)) := fun x hx => by
 rcases List.mem_append.1 hx with h | h
 · exact k.ok.2 x ((List.takeWhile_prefix _).subset h)
 · rw [List.eq_of_mem_replicate h]; omega
def Xf (k : Ky) : Ky := ⟨TW (textOf k.l), JB k, SL k⟩
theorem OH (w : World) (k : Ky) : Calls Tryz.prog 120 #[Dq k] w fun e w' => e = .returned (.bool (Plain.Iw k.l)) ∧ Below w.heap.size w w' := by
 have hT := fun W => V9 W k
 by_cases hk : textOf k.l = []
 · have hg : Plain.Iw k.l = false := by simp [Plain.Iw, hk]
   rw [hg]
   rw [hk] at hT
   clear hk hg
   replace hT := Aa.mk hT
   obtain ⟨KV, hKV⟩ : ∃ KV, KV = (AZ k).toArray := ⟨_, rfl⟩
   have hs : Aa (KV.size = 16) := ⟨by rw [hKV]; simpa using Ai k⟩
   replace hKV := Aa.mk hKV
   rw [show Dq k = .agg KV from by rw [hKV.out]; rfl] at *
   go_enter Tryz.func120, Tryz.ntmps120
   go_wp2_with (first
     | ((with_reducible refine Ac (N := 1) rfl ?_); refine Aj (N := 1) (C := KV) rfl rfl (by first | (go_simp; done) | (go_simp; rfl)) ?_; intro g1 w1 hg1 b1 f1)
     | ((with_reducible refine Ac (N := 6) rfl ?_); go_must (refine Au (N := 6) rfl rfl rfl rfl b1.out Tryz.underlying103 rfl AB KV.toList (AU hs.out) (by rw [Array.length_toList, hs.out]) ?_))
     | (go_at_call 171; go_must (refine (hT.out _).mono ?_); rintro e w2 ⟨rfl, f2⟩; replace f2 := Aa.mk f2)
     | (go_at_call 145; go_must (refine (Qm _).mono ?_); rintro e w3 ⟨rfl, f3⟩; replace f3 := Aa.mk f3)
     | ((with_reducible refine Ac (N := 3) rfl ?_); refine Aj (N := 3) (C := Z16) rfl rfl (by first | (go_simp; done) | (go_simp; rfl)) ?_; intro g4 w4 hg4 b4 f4)
     | ((with_reducible refine Af (t := 103) (p := 3) (v := .tmp 9) rfl ?_); go_must (refine Ak rfl (ty := 103) (x := .tmp 3) (y := .tmp 9) (cells := Z16) rfl rfl rfl b4.out AB (by kernel_rfl) (Nat.le_refl 16) Z16 (Aq rfl) ?_); intro w5 b5 f5))
   go_returns
   have := f1.out.size
   have := f2.out.size
   have := f3.out.size
   have := hg4.out
   exact ⟨rfl, (Fr.trans (T := fun k => k = g4) (Fr.of_below f1.out) ((Fr.of_below f2.out).trans ((Fr.of_below f3.out).trans ((Fr.of_below f4.out).trans f5.out)))).below (by omega) (Nat.le_refl _)⟩
 · obtain ⟨G, hG⟩ : ∃ G, G = Plain.Iw k.l := ⟨_, rfl⟩
   have hE : Aa (∀ W, (binOp .eql 103 (Dq (Xf k)) (Dq k)).run Tryz.prog W = .ok (.bool G) W) := ⟨fun W => by
     have h1 : decide (textOf k.l ≠ []) = true := decide_eq_true hk
     have h2 : decide (Xf k = k) = decide (k.l = TW (textOf k.l)) := by
       rw [← KJ, ← Y9]
       rfl
     rw [UE, hG, Plain.Iw, h1, h2]
     rfl⟩
   have hO := fun W => Ql W k hk
   rw [show ((TW (textOf k.l)).map (Value.int .u8)).toArray = (AZ (Xf k)).toArray from rfl] at hO
   rw [← hG]
   clear hk
   replace hT := Aa.mk hT
   replace hO := Aa.mk hO
   replace hG := Aa.mk hG
   obtain ⟨KV, hKV⟩ : ∃ KV, KV = (AZ k).toArray := ⟨_, rfl⟩
   obtain ⟨PV, hPV⟩ : ∃ PV, PV = (AZ (Xf k)).toArray := ⟨_, rfl⟩
   have hs : Aa (KV.size = 16) := ⟨by rw [hKV]; simpa using Ai k⟩
   have hps : Aa (PV.size = 16) := ⟨by rw [hPV]; simpa using Ai (Xf k)⟩
   have hp1 : Aa (PV.all (·.oneCell') = true) := ⟨by
     rw [hPV, Array.all_eq_true_iff_forall_mem]
     intro u hu
     exact Di (Xf k) u (by simpa using hu)⟩
   have eK : Dq k = .agg KV := by rw [hKV]; rfl
   have eP : Dq (Xf k) = .agg PV := by rw [hPV]; rfl
   rw [← hPV] at hO
   rw [eK] at hT ⊢
   rw [eK, eP] at hE
   clear eK eP hKV hPV
   go_enter Tryz.func120, Tryz.ntmps120
   go_wp2_with (first
     | ((with_reducible refine Ac (N := 1) rfl ?_); refine Aj (N := 1) (C := KV) rfl rfl (by first | (go_simp; done) | (go_simp; rfl)) ?_; intro g1 w1 hg1 b1 f1)
     | ((with_reducible refine Ac (N := 6) rfl ?_); go_must (refine Au (N := 6) rfl rfl rfl rfl b1.out Tryz.underlying103 rfl AB KV.toList (AU hs.out) (by rw [Array.length_toList, hs.out]) ?_))
     | (go_at_call 171; go_must (refine (hT.out _).mono ?_); rintro e w2 ⟨rfl, f2⟩; replace f2 := Aa.mk f2; have b12 := Aa.mk (b1.out.Ad f2.out))
     | (go_at_call 145; go_must (refine (hO.out _).mono ?_); rintro e w3 ⟨rfl, f3⟩; replace f3 := Aa.mk f3; have b13 := Aa.mk (b12.out.Ad f3.out))
     | ((with_reducible refine Ac (N := 3) rfl ?_); refine Aj (N := 3) (C := Z16) rfl rfl (by first | (go_simp; done) | (go_simp; rfl)) ?_; intro g4 w4 hg4 b4 f4; have b14 := Aa.mk (b13.out.Ad f4.out))
     | ((with_reducible refine Af (t := 103) (p := 3) (v := .tmp 9) rfl ?_); go_must (refine Ak rfl (ty := 103) (x := .tmp 3) (y := .tmp 9) (cells := PV) rfl rfl rfl b4.out (by rw [hps.out]; exact AB) hp1.out (by rw [hps.out]; exact Nat.le_refl 16) PV (Aq hps.out) ?_); intro w5 b5 f5; have b15 := Aa.mk (b14.out.fr f5.out (by have := b13.out.lt; have := hg4.out; omega)); have hE2 := hE.out)
     | ((with_reducible refine Ac (N := 14) rfl ?_); go_must (refine BO (N := 14) rfl (by rfl) rfl rfl b5.out Tryz.underlying103 rfl AB PV.toList (AU hps.out) (by rw [Array.length_toList, hps.out]) ?_))
     | ((with_reducible refine Ac (N := 15) rfl ?_); go_must (refine BO (N := 15) rfl (by rfl) rfl rfl b15.out Tryz.underlying103 rfl AB KV.toList (AU hs.out) (by rw [Array.length_toList, hs.out]) ?_)))
   go_returns
   have := f1.out.size
   have := f2.out.size
   have := f3.out.size
   have := hg4.out
   exact ⟨rfl, (Fr.trans (T := fun k => k = g4) (Fr.of_below f1.out) ((Fr.of_below f2.out).trans ((Fr.of_below f3.out).trans ((Fr.of_below f4.out).trans f5.out)))).below (by omega) (Nat.le_refl _)⟩
end Go.Proofs.YtchfmgbjddopoaaGreatDoor.Hand
namespace Go.Proofs.YtchfmgbjddopoaaGreatDoor.Hand
open Go.RowKit Go.Proofs.YtchfmgbjddopoaaGreatDoorW.PrintWords Go.Proofs.YtchfmgbjddopoaaGreatDoorW.PrintLast Go.Proofs.YtchfmgbjddopoaaGreatDoorW.PrintMore
open Plain (Ky Wr Rc Ver Ent St Bytes)
theorem mapM_some {α β : Type} (f : α → Option β) (g : α → β) : ∀ l : List α, (∀ x ∈ l, f x = some (g x)) → l.mapM f = some (l.map g)
 | [], _ => rfl
 | a :: l, h => by
   rw [List.mapM_cons, h a (by simp), mapM_some f g l (fun x hx => h x (by simp [hx]))]
   rfl
theorem IL (k : Ky) : ∃ l, keyOf Tryz.prog 103 (Dq k) = some l := by
 have h1 : Tryz.prog.keyType 103 = true := by kernel_rfl
 have h2 : Tryz.prog.cellsOf 103 = 16 := by kernel_rfl
 have h3 : Tryz.prog.cellsOf 5 = 1 := by kernel_rfl
 have h0 : 0 < Tryz.prog.types.size := by decide +kernel
 have h4 : ∃ n, Tryz.prog.types.size = n + 1 := ⟨Tryz.prog.types.size - 1, by omega⟩
 obtain ⟨n, hn⟩ := h4
 have hl : Tryz.prog.keyLits (Tryz.prog.types.size + 1) 103 (AZ k) = some (((List.range 16).map fun i => [Lit.int .u8 (k.l.getD i 0)]).flatten) := by
   unfold Program.keyLits
   simp only [Tryz.underlying103]
   rw [if_pos (by rw [Ai, h2]), mapM_some _ (fun i => [Lit.int .u8 (k.l.getD i 0)])]
   · rfl
   · intro i hi
     have hi' : i < 16 := by simpa using hi
     have hlt : i < k.l.length := by rw [k.ok.1]; exact hi'
     have e : ((AZ k).drop (i * Tryz.prog.cellsOf 5)).take (Tryz.prog.cellsOf 5) = [Value.int .u8 (k.l.getD i 0)] := by
       rw [h3, Nat.mul_one]
       unfold AZ
       rw [List.drop_eq_getElem_cons (by rw [List.length_map]; exact hlt)]
       simp [List.getD_eq_getElem?_getD, List.getElem?_eq_getElem hlt]
     rw [e, hn]
     unfold Program.keyLits
     simp only [Tryz.underlying5]
     have hb := k.ok.2 (k.l.getD i 0) (by rw [List.getD_eq_getElem?_getD, List.getElem?_eq_getElem hlt]; exact List.getElem_mem hlt)
     have hw : (Lit.int .u8 (k.l.getD i 0)).wf = true := by
       generalize k.l.getD i 0 = x at hb
       simp [Lit.wf, IntKind.min, IntKind.max, IntKind.bits, IntKind.signed]
       omega
     rw [List.getD_eq_getElem?_getD] at hw
     simp [hw]
 have h5 : (Dq k).formed Tryz.prog 103 = true := by
   unfold Value.formed Dq
   simp only [Tryz.underlying103]
   simp [Ai, h2]
 unfold keyOf
 simp only [Tryz.underlying103]
 rw [if_pos (by rw [h1, h5]; rfl), show (Dq k).cells.toList = AZ k from by simp [Dq, Value.cells], hl]
 exact ⟨_, rfl⟩
theorem LV : Maps.Keyed Tryz.prog 103 := Maps.Keyed.of_law (deep_law_laid (by kernel_rfl) (m := 2) (by omega) (by decide +kernel) (by kernel_rfl) (by kernel_rfl))
theorem Gl {a b : Ky} (h : Dq a = Dq b) : a = b := by
 have h1 : (AZ a).toArray = (AZ b).toArray := by injection h
 have h2 : AZ a = AZ b := by simpa using congrArg Array.toList h1
 refine Ky.ext ?_
 have : ∀ (x y : List Int), x.map (Value.int .u8) = y.map (Value.int .u8) → x = y := by
   intro x
   induction x with
   | nil => intro y hy; cases y with
     | nil => rfl
     | cons _ _ => simp at hy
   | cons c x ih => intro y hy; cases y with
     | nil => simp at hy
     | cons d y =>
       simp only [List.map_cons, List.cons.injEq] at hy
       obtain ⟨e1, e2⟩ := hy
       injection e1 with _ e3
       rw [e3, ih y e2]
 exact this _ _ h2
theorem Xal (e : Bool) (k : Ky) (W : World) : (Instr.checkKey e 10000 103 (Dq k)).run Tryz.prog W = .ok () W := by
 obtain ⟨l, hl⟩ := IL k
 exact LV.check W e hl
theorem Z8 {ks : List Ky} {es : List MapEntry} (h : es.map (·.key) = ks.map Dq) (k : Ky) (W : World) :
   ((Instr.findKey 103 (Dq k) es).run Tryz.prog W = .ok none W ∧ k ∉ ks) ∨ ∃ j e, (Instr.findKey 103 (Dq k) es).run Tryz.prog W = .ok (some (j, e.val)) W ∧ es[j]? = some e ∧ ks[j]? = some k := by
 obtain ⟨l, hl⟩ := IL k
 have hes : ∀ e ∈ es, ∃ x ∈ ks, e.key = Dq x := fun e he => by
   have : e.key ∈ es.map (·.key) := List.mem_map.2 ⟨e, he, rfl⟩
   rw [h] at this
   obtain ⟨x, hx, e1⟩ := List.mem_map.1 this
   exact ⟨x, hx, e1.symm⟩
 rcases LV.find W hl es (fun e he => by
   obtain ⟨x, _, e1⟩ := hes e he
   rw [e1]
   exact IL x) with ⟨h1, h2⟩ | ⟨j, e, h1, h2, h3⟩
 · refine .inl ⟨h1, fun hk => ?_⟩
   have : Dq k ∈ es.map (·.key) := by rw [h]; exact List.mem_map.2 ⟨k, hk, rfl⟩
   obtain ⟨e, he, e1⟩ := List.mem_map.1 this
   exact h2 e he e1
 · refine .inr ⟨j, e, h1, h2, ?_⟩
   have h4 : (es.map (·.key))[j]? = some (Dq k) := by rw [List.getElem?_map, h2]; simpa using h3
   rw [h, List.getElem?_map] at h4
   cases hj : ks[j]? with
   | none => rw [hj] at h4; simp at h4
   | some x =>
     rw [hj] at h4
     have := Gl (Option.some.inj h4)
     rw [this]
end Go.Proofs.YtchfmgbjddopoaaGreatDoor.Hand
namespace Go.Proofs.YtchfmgbjddopoaaGreatDoor.Hand
open Go.RowKit Go.Proofs.YtchfmgbjddopoaaGreatDoorW.PrintWords Go.Proofs.YtchfmgbjddopoaaGreatDoorW.PrintLast Go.Proofs.YtchfmgbjddopoaaGreatDoorW.PrintMore
open Plain (Ky Wr Rc Ver Ent St Bytes CW FQ Uniq)
structure FV {K : Type} (t : TypeId) (kv : K → Value) : Prop where
 ck : ∀ (e : Bool) (k : K) (W : World), (Instr.checkKey e 10000 t (kv k)).run Tryz.prog W = .ok () W
 fk : ∀ {ks : List K} {es : List MapEntry}, es.map (·.key) = ks.map kv → ∀ (k : K) (W : World), ((Instr.findKey t (kv k) es).run Tryz.prog W = .ok none W ∧ k ∉ ks) ∨ ∃ j e, (Instr.findKey t (kv k) es).run Tryz.prog W = .ok (some (j, e.val)) W ∧ es[j]? = some e ∧ ks[j]? = some k
 stays : ∀ (k : K) (W : World), (Instr.keyThatStays (kv k) (kv k)).run Tryz.prog W = .ok (kv k) W
 inj : ∀ {a b : K}, kv a = kv b → a = b
def Iq (x : Int) : Value := .int .i64 x
theorem EK : FV 103 Dq := ⟨Xal, fun h k W => Z8 h k W, fun k W => by
 obtain ⟨l, hl⟩ := IL k
 exact LV.stays W hl, Gl⟩
theorem Rw {a b : Int} (h : Iq a = Iq b) : a = b := by
 unfold Iq at h
 injection h
theorem Zr {ks : List Int} {es : List MapEntry} (h : es.map (·.key) = ks.map Iq) (k : Int) (W : World) : ((Instr.findKey 2 (Iq k) es).run Tryz.prog W = .ok none W ∧ k ∉ ks) ∨ ∃ j e, (Instr.findKey 2 (Iq k) es).run Tryz.prog W = .ok (some (j, e.val)) W ∧ es[j]? = some e ∧ ks[j]? = some k := by
 have hes : ∀ e ∈ es, ∃ x ∈ ks, e.key = Iq x := fun e he => by
   have : e.key ∈ es.map (·.key) := List.mem_map.2 ⟨e, he, rfl⟩
   rw [h] at this
   obtain ⟨x, hx, e1⟩ := List.mem_map.1 this
   exact ⟨x, hx, e1.symm⟩
 rcases MapKept.findNow_spec (d := .int .i64) (k := Iq k) (by simp [MapKept.IsKey, Iq]) es 0 (fun e he => by
   obtain ⟨x, _, e1⟩ := hes e he
   rw [e1]
   simp [MapKept.IsKey, Iq]) with ⟨h1, h2⟩ | ⟨j, e, h1, h2, h3⟩
 · refine .inl ⟨by unfold Instr.findKey; simp [Sem.run_bind, run_underlying Tryz.underlying2, Result.andThen, h1], fun hk => ?_⟩
   have : Iq k ∈ es.map (·.key) := by rw [h]; exact List.mem_map.2 ⟨k, hk, rfl⟩
   obtain ⟨e, he, e1⟩ := List.mem_map.1 this
   exact h2 e he e1
 · refine .inr ⟨j, e, by unfold Instr.findKey; simp [Sem.run_bind, run_underlying Tryz.underlying2, Result.andThen, h1], h2, ?_⟩
   have h4 : (es.map (·.key))[j]? = some (Iq k) := by rw [List.getElem?_map, h2]; simpa using h3
   rw [h, List.getElem?_map] at h4
   cases hj : ks[j]? with
   | none => rw [hj] at h4; simp at h4
   | some x =>
     rw [hj] at h4
     rw [Rw (Option.some.inj h4)]
theorem Nv : FV 2 Iq := ⟨fun e k W => MapKept.run_checkKey Tryz.underlying2 (by simp [MapKept.IsKey, Iq]) e 9999, fun h k W => Zr h k W, fun k W => MapKept.run_keyThatStays (d := .int .i64) (by simp [MapKept.IsKey, Iq]), Rw⟩
section
variable {K : Type} {t : TypeId} {kv : K → Value} {w : World} {m : Nat} {L : List (K × Value)} {k : K} {v : Value}
def DD (w : World) (m : Nat) (kv : K → Value) (L : List (K × Value)) : Prop :=
 ∃ es clock, Mp w m es clock ∧ MapKept.Stamped es clock ∧ es.toList.map (·.key) = L.map (fun p => kv p.1) ∧ es.toList.map (·.val) = L.map (·.2)
theorem DD.lt (h : DD w m kv L) : m < w.heap.size := by
 obtain ⟨es, c, h, _⟩ := h
 exact Ob.lt h
theorem DD.fr {T : Nat → Prop} {w' : World} (h : DD w m kv L) (f : Fr T w w') (hn : ¬ T m) : DD w' m kv L := by
 obtain ⟨es, c, h, r⟩ := h
 exact ⟨es, c, Ob.fr h f hn, r⟩
theorem DD.below {w' : World} (h : DD w m kv L) (f : Below w.heap.size w w') : DD w' m kv L := by
 obtain ⟨es, c, h, r⟩ := h
 exact ⟨es, c, Ob.Ad h f, r⟩
theorem DD.new (h : Mp w m #[] 0) : DD w m kv [] := ⟨#[], 0, h, MapKept.stamped_empty 0, rfl, rfl⟩
theorem DD.uniq (h : DD w m kv L) : Uniq L := by
 obtain ⟨es, c, _, hs, hk, _⟩ := h
 have := hs.2.2
 rw [hk] at this
 unfold Uniq
 have e : L.map (fun p => kv p.1) = (L.map (·.1)).map kv := by rw [List.map_map]; rfl
 rw [e] at this
 exact (List.pairwise_map.1 this).imp fun h e => h (congrArg kv e)
theorem DD.ne {b t : Nat} {C : Array Value} (h : DD w m kv L) (hb : Bk w b C t) : b ≠ m := by
 obtain ⟨es, c, h, _⟩ := h
 rintro rfl
 have h2 := Option.some.inj (hb.symm.trans h)
 cases h2
theorem Lh {es : List MapEntry} (hk : es.map (·.key) = L.map (fun p => kv p.1)) (hv : es.map (·.val) = L.map (·.2)) {j : Nat} {e : MapEntry} (he : es[j]? = some e) : ∃ p, L[j]? = some p ∧ e.key = kv p.1 ∧ e.val = p.2 := by
 have h1 : (es.map (·.key))[j]? = some e.key := by rw [List.getElem?_map, he]; rfl
 have h2 : (es.map (·.val))[j]? = some e.val := by rw [List.getElem?_map, he]; rfl
 rw [hk, List.getElem?_map] at h1
 rw [hv, List.getElem?_map] at h2
 cases hj : L[j]? with
 | none => rw [hj] at h1; simp at h1
 | some p =>
   rw [hj] at h1 h2
   exact ⟨p, rfl, (Option.some.inj h1).symm, (Option.some.inj h2).symm⟩
variable [DecidableEq K]
theorem DD.find (KK : FV t kv) (h : DD w m kv L) (k : K) : ∃ es c, Mp w m es c ∧ ((Plain.look k L = none ∧ ∀ W : World, (Instr.findKey t (kv k) es.toList).run Tryz.prog W = .ok none W) ∨ ∃ j v, Plain.look k L = some v ∧ L[j]? = some (k, v) ∧ ∀ W : World, (Instr.findKey t (kv k) es.toList).run Tryz.prog W = .ok (some (j, v)) W) := by
 have hu := h.uniq
 obtain ⟨es, c, hm, hs, hk, hv⟩ := h
 refine ⟨es, c, hm, ?_⟩
 have hk' : es.toList.map (·.key) = (L.map (·.1)).map kv := by rw [hk, List.map_map]; rfl
 rcases KK.fk hk' k w with ⟨_, h2⟩ | ⟨j, e, _, h2, h3⟩
 · left
   refine ⟨Plain.BF.2 fun p hp e => h2 (List.mem_map.2 ⟨p, hp, e⟩), fun W => ?_⟩
   rcases KK.fk hk' k W with ⟨h1, _⟩ | ⟨j, e, _, _, h3⟩
   · exact h1
   · exact absurd (List.mem_of_getElem? h3) h2
 · right
   obtain ⟨p, hp, e1, e2⟩ := Lh hk hv h2
   have hpk : p.1 = k := by
     rw [List.getElem?_map, hp] at h3
     exact Option.some.inj h3
   have hpe : p = (k, e.val) := by rw [← hpk, e2]
   refine ⟨j, e.val, Plain.Es hu (hpe ▸ List.mem_of_getElem? hp), by rw [hp, hpe], fun W => ?_⟩
   rcases KK.fk hk' k W with ⟨_, h5⟩ | ⟨j', e', h1, h4, h5⟩
   · exact absurd (by rw [← hpk]; exact List.mem_map.2 ⟨p, List.mem_of_getElem? hp, rfl⟩) h5
   · rw [h1]
     obtain ⟨p', hp', e1', e2'⟩ := Lh hk hv h4
     have hpk' : p'.1 = k := by
       rw [List.getElem?_map, hp'] at h5
       exact Option.some.inj h5
     have hnd : (L.map (·.1)).Nodup := hu
     have hjj : j = j' := by
       have a1 : (L.map (·.1))[j]? = some k := by rw [List.getElem?_map, hp]; simp [hpk]
       have a2 : (L.map (·.1))[j']? = some k := by rw [List.getElem?_map, hp']; simp [hpk']
       obtain ⟨l1, g1⟩ := List.getElem?_eq_some_iff.1 a1
       obtain ⟨l2, g2⟩ := List.getElem?_eq_some_iff.1 a2
       exact (List.getElem_inj hnd (h₀ := l1) (h₁ := l2)).1 (by rw [g1, g2])
     subst hjj
     rw [hp] at hp'
     rw [← Option.some.inj hp'] at e2'
     rw [e2', ← e2]
end
section
variable {K : Type} [DecidableEq K] {t E T : TypeId} {kv : K → Value} {w W : World} {m : Nat} {L : List (K × Value)} {k : K} {v z : Value}
theorem DD.BF (KK : FV t kv) (h : DD W m kv L) (hu : Tryz.prog.underlying T = some (.map t E)) (hn : Plain.look k L = none) (hz : ∀ W : World, (zeroValue E).run Tryz.prog W = .ok z W) (ok : Bool) :
   (Instr.lookup T (.map (some m)) (kv k) ok).run Tryz.prog W = .ok (if ok then .tuple #[z, .bool false] else z) W := by
 obtain ⟨es, c, hm, h1 | ⟨j, v, h1, _⟩⟩ := h.find KK k
 · exact CV hm hu (fun W => KK.ck _ k W) h1.2 hz
 · rw [hn] at h1; cases h1
theorem DD.EG (KK : FV t kv) (h : DD W m kv L) (hu : Tryz.prog.underlying T = some (.map t E)) (hn : Plain.look k L = some v) (ok : Bool) :
   (Instr.lookup T (.map (some m)) (kv k) ok).run Tryz.prog W = .ok (if ok then .tuple #[v, .bool true] else v) W := by
 obtain ⟨es, c, hm, h1 | ⟨j, v', h1, _, h2⟩⟩ := h.find KK k
 · rw [hn] at h1; cases h1.1
 · rw [hn] at h1
   cases h1
   exact Dz hm hu (fun W => KK.ck _ k W) h2
theorem Uf : ∀ {L : List (K × Value)} {j : Nat}, Uniq L → L[j]? = some (k, v) → ∀ u : Value, CW k u L = L.set j (k, u)
 | [], j, _, h, u => by simp at h
 | p :: L, 0, _, h, u => by
   have : p = (k, v) := by simpa using h
   subst this
   simp [CW]
 | p :: L, j + 1, hu, h, u => by
   have h' : L[j]? = some (k, v) := by simpa using h
   unfold Uniq at hu
   rw [List.map_cons, List.nodup_cons] at hu
   have hne : p.1 ≠ k := fun e => hu.1 (e ▸ List.mem_map.2 ⟨_, List.mem_of_getElem? h', rfl⟩)
   simp [CW, hne, Uf (L := L) hu.2 h' u]
theorem Xb : ∀ {L : List (K × Value)} {j : Nat}, Uniq L → L[j]? = some (k, v) → FQ k L = L.eraseIdx j
 | [], j, _, h => by simp at h
 | p :: L, 0, hu, h => by
   have : p = (k, v) := by simpa using h
   subst this
   unfold Uniq at hu
   rw [List.map_cons, List.nodup_cons] at hu
   unfold FQ
   rw [List.filter_cons_of_neg (by simp), List.eraseIdx_cons_zero, List.filter_eq_self]
   intro q hq
   have : q.1 ≠ k := fun e => hu.1 (List.mem_map.2 ⟨q, hq, e⟩)
   simp [this]
 | p :: L, j + 1, hu, h => by
   have h' : L[j]? = some (k, v) := by simpa using h
   unfold Uniq at hu
   rw [List.map_cons, List.nodup_cons] at hu
   have hne : p.1 ≠ k := fun e => hu.1 (e ▸ List.mem_map.2 ⟨_, List.mem_of_getElem? h', rfl⟩)
   have ih := Xb (L := L) hu.2 h'
   unfold FQ at ih ⊢
   rw [List.filter_cons_of_pos (by simp [hne]), ih, List.eraseIdx_cons_succ]
theorem map_set {α β : Type} (f : α → β) (l : List α) (j : Nat) (x : α) : (l.set j x).map f = (l.map f).set j (f x) := by simp
theorem EY {α β : Type} (f : α → β) : ∀ (l : List α) (j : Nat), (l.eraseIdx j).map f = (l.map f).eraseIdx j
 | [], j => by simp
 | a :: l, 0 => by simp
 | a :: l, j + 1 => by simp [EY f l j]
theorem KG (es : Array MapEntry) (j : Nat) (f : MapEntry → MapEntry) (g : MapEntry → Value) (hj : j < es.size) : (es.modify j f).toList.map g = (es.toList.map g).set j (g (f es[j])) := by
 apply List.ext_getElem?
 intro i
 simp only [List.getElem?_map, Array.getElem?_toList, Array.getElem?_modify, List.getElem?_set, List.length_map, Array.length_toList]
 by_cases h : j = i
 · subst h
   simp [hj]
 · simp [h]
theorem DD.update (KK : FV t kv) (h : DD W m kv L) (hu : Tryz.prog.underlying T = some (.map t E)) (k : K) (v : Value) :
   ∃ o, (Instr.mapUpdate T (.map (some m)) (kv k) v).run Tryz.prog W = .ok () (Cc W m o) ∧ DD (Cc W m o) m kv (CW k v L) := by
 have huq := h.uniq
 have h0 := h
 obtain ⟨es, c, hm, hf⟩ := h.find KK k
 obtain ⟨es', c', hm', hs, hk, hv⟩ := h0
 have e := Option.some.inj (hm.symm.trans hm')
 injection e with e1 e2
 subst e1 e2
 rcases hf with ⟨h1, h2⟩ | ⟨j, u, h1, h3, h2⟩
 · refine ⟨_, DJ hm hu (fun W => KK.ck _ k W) h2, es.push ⟨kv k, v, c⟩, c + 1, Ob.put hm _, MapKept.stamped_push hs (fun x hx e => ?_), ?_, ?_⟩
   · have : kv k ∈ es.toList.map (·.key) := List.mem_map.2 ⟨x, hx, e⟩
     rw [hk] at this
     obtain ⟨p, hp, e⟩ := List.mem_map.1 this
     exact Plain.BF.1 h1 p hp (KK.inj e)
   · rw [Plain.EW v h1]; simp [hk]
   · rw [Plain.EW v h1]; simp [hv]
 · have hlt : j < es.toList.length := by
     have := congrArg List.length hk
     simp only [List.length_map] at this
     rw [this]
     exact (List.getElem?_eq_some_iff.1 h3).1
   have he : es.toList[j]? = some es.toList[j] := List.getElem?_eq_getElem hlt
   obtain ⟨p, hp, ek, _⟩ := Lh hk hv he
   rw [h3] at hp
   have hkey : es.toList[j].key = kv k := by rw [ek, ← Option.some.inj hp]
   have hka : ((es[j]?).map (·.key)).getD (kv k) = kv k := by
     rw [← Array.getElem?_toList, he]
     exact hkey
   refine ⟨.map (es.modify j fun e => { e with key := kv k, val := v }) c, ?_, es.modify j fun e => { e with key := kv k, val := v }, c, Ob.put hm _, MapKept.stamped_modify hs j _ (fun _ _ => rfl) (fun e _ h5 => ?_), ?_, ?_⟩
   · unfold Instr.mapUpdate
     have hst := KK.stays k W
     simp [Sem.run_bind, run_underlying hu, Result.andThen, MapKept.run_getObj_map hm, KK.ck false k, h2, MapKept.run_setObj_map _ hm, Cc, hka, hst]
   · rw [← Array.getElem?_toList, he] at h5
     rw [← Option.some.inj h5]
     exact hkey.symm
   · rw [Uf huq h3 v, map_set, ← hk, KG es j _ _ (by simpa using hlt)]
   · rw [Uf huq h3 v, map_set, ← hv, KG es j _ _ (by simpa using hlt)]
theorem DD.strike (KK : FV t kv) (h : DD W m kv L) (hu : Tryz.prog.underlying T = some (.map t E)) (k : K) (kt ty : TypeId) :
   ∃ o, (Builtin.delete_ #[T, kt] ty #[.map (some m), kv k]).run Tryz.prog W = .ok (.tuple #[]) (Cc W m o) ∧ DD (Cc W m o) m kv (FQ k L) := by
 have huq := h.uniq
 have h0 := h
 obtain ⟨es, c, hm, hf⟩ := h.find KK k
 obtain ⟨es', c', hm', hs, hk, hv⟩ := h0
 have e := Option.some.inj (hm.symm.trans hm')
 injection e with e1 e2
 subst e1 e2
 rcases hf with ⟨h1, h2⟩ | ⟨j, u, h1, h3, h2⟩
 · refine ⟨.map es c, ?_, es, c, Ob.put hm _, hs, ?_, ?_⟩
   · unfold Builtin.delete_
     simp [Sem.run_bind, run_underlying hu, Result.andThen, MapKept.run_getObj_map hm, KK.ck, h2, MapKept.run_setObj_map _ hm, Cc]
   all_goals
     have : FQ k L = L := by
       unfold FQ
       rw [List.filter_eq_self]
       intro q hq
       simpa using Plain.BF.1 h1 q hq
     rw [this]
   · exact hk
   · exact hv
 · refine ⟨_, Ik hm hu (fun W => KK.ck _ k W) h2 kt ty, es.eraseIdxIfInBounds j, c, Ob.put hm _, MapKept.stamped_erase hs j, ?_, ?_⟩
   all_goals rw [Xb huq h3]
   · rw [EY, ← hk, ← EY]
     simp
   · rw [EY, ← hv, ← EY]
     simp
omit [DecidableEq K] in
theorem DD.len (h : DD W m kv L) (hu : Tryz.prog.underlying T = some (.map t E)) (ty : TypeId) : (Builtin.len_ #[T] ty #[.map (some m)]).run Tryz.prog W = .ok (goInt L.length) W := by
 obtain ⟨es, c, hm, _, hk, _⟩ := h
 rw [run_len_map hm hu]
 have := congrArg List.length hk
 simp only [List.length_map, Array.length_toList] at this
 rw [this]
end
end Go.Proofs.YtchfmgbjddopoaaGreatDoor.Hand
