import Derived.Test.YtchfmgbjddopoaaGreatDoorProg
import Derived.Below
import Derived.Deep.Draws
import Derived.Deep.AppendLies
import Derived.Maps.AppendAt
import Derived.OwnWalk
import Derived.Laws.BytesArg
import Derived.Laws.MakeOwn
import Derived.Laws.OwnMore
import Derived.Deep.OwnRows
import Derived.Tactics
import Derived.Lib.ConvBytes
import Derived.Laws.Slices
import Derived.WalkKit
import Derived.KernelRfl
import Derived.RowKit3
import Derived.Deep.LoopGhost
import Derived.Deep.QuietTactic
import Derived.BigQuiet
import Derived.WideLaws
import Derived.Deep.DeepCutAuto
import Derived.Deep.CutBlock
import Derived.Deep.RegionHeld3
import Derived.Laws.Rows
import Derived.Lib.AppendStr
import Derived.ArgAppend
import Derived.Laws.IdiomCopy
import Derived.OrdersHeld
import Derived.Laws.BitsLemmas
import Derived.RowKit
import Derived.Laws.StructEq
import Derived.Test.YtchfmgbjddopoaaGreatDoorM01
import Derived.Test.YtchfmgbjddopoaaGreatDoorM02
import Derived.Test.YtchfmgbjddopoaaGreatDoorM03
import Derived.Test.YtchfmgbjddopoaaGreatDoorM04
import Derived.Test.YtchfmgbjddopoaaGreatDoorM10
import Derived.Test.YtchfmgbjddopoaaGreatDoorM12
set_option linter.unusedVariables false
set_option linter.unusedSimpArgs false
set_option maxHeartbeats 6400000
set_option maxRecDepth 100000
namespace Go.Proofs.YtchfmgbjddopoaaGreatDoor.Hand
open Go.RowKit Go.Proofs.YtchfmgbjddopoaaGreatDoorW.PrintWords Go.Proofs.YtchfmgbjddopoaaGreatDoorW.PrintLast Go.Proofs.YtchfmgbjddopoaaGreatDoorW.PrintMore
attribute [local go_sem ↓] Go.wp_at_zero Go.wp_at_succ
open Plain (Ky Wr Rc Ver Ent St Bytes DF Iw)
theorem BV (x : Wr) : ((wrC x).toArray.extract 0 (0 + 16)).toList = AZ x.key := by
 simp [wrC, Ai]
theorem JL (x : Wr) : (wrC x).toArray[16]? = some (.string x.val) := by
 unfold wrC
 rw [List.getElem?_toArray, List.getElem?_append_right (by rw [Ai]; omega), Ai]
 rfl
theorem Nu (x : Wr) : (wrC x).toArray[17]? = some (.bool x.gone) := by
 unfold wrC
 rw [List.getElem?_toArray, List.getElem?_append_right (by rw [Ai]; omega), Ai]
 rfl
theorem Eb (x : Wr) : (wrC x).toArray.all (·.oneCell') = true := by
 rw [Array.all_eq_true_iff_forall_mem]
 intro u hu
 exact Pi x u (by simpa using hu)
theorem AY (x : Wr) : (wrC x).toArray.size = 18 := by simpa using Bg x
theorem Ro (w : World) (A : Option Addr) (n c : Nat) : Calls Tryz.prog 115 #[.slice A n c] w fun e w' => e = .returned (.bool (decide (1 ≤ n) && decide (n ≤ 16))) ∧ w' = w := by
 by_cases h1 : 1 ≤ n
 · by_cases h2 : n ≤ 16
   · have d1 : decide ((1 : Int) ≤ (n : Int)) = true := by simp; omega
     have d2 : decide ((n : Int) ≤ 16) = true := by simp; omega
     rw [decide_eq_true h1, decide_eq_true h2]
     go_enter Tryz.func115, Tryz.ntmps115
     go_wp2
     go_returns
     exact ⟨rfl, rfl⟩
   · have d1 : decide ((1 : Int) ≤ (n : Int)) = true := by simp; omega
     have d2 : decide ((n : Int) ≤ 16) = false := by simp; omega
     rw [decide_eq_true h1, decide_eq_false h2]
     go_enter Tryz.func115, Tryz.ntmps115
     go_wp2
     go_returns
     exact ⟨rfl, rfl⟩
 · have h0 : n = 0 := by omega
   subst h0
   go_enter Tryz.func115, Tryz.ntmps115
   go_wp2
   go_returns
   exact ⟨rfl, rfl⟩
theorem Py (w : World) (v : Value) (ws : List Wr) (h : Eo w v ws) (hl : ws.length ≤ 1000000) : Calls Tryz.prog 81 #[v] w fun e w' => e = .returned (.bool (DF [] ws)) ∧ Below w.heap.size w w' := by
 obtain ⟨A, c, rfl⟩ := h.slice
 obtain ⟨G, hG⟩ : ∃ G, G = DF [] ws := ⟨_, rfl⟩
 rw [← hG]
 obtain ⟨n, hn⟩ : ∃ n, n = ws.length := ⟨_, rfl⟩
 rw [← hn] at h hl ⊢
 replace hn := Aa.mk hn
 replace hG := Aa.mk hG
 replace hl := Aa.mk hl
 replace h := Aa.mk h
 go_enter Tryz.func81, Tryz.ntmps81
 go_wp2_with (first
   | ((with_reducible refine Ac (N := 6) rfl ?_); refine Ih (N := 6) rfl rfl (by first | (go_simp; done) | (go_simp; rfl)) ?_; intro m w1 hm bm f1))
 go_loopw [9] (fun v w' => ∃ j : Nat, j ≤ n ∧ v = .int .i64 j ∧ Aa (DD w' m Dq ((ws.take j).map fun x => (x.key, Value.bool true))) ∧ Aa (G = DF ((ws.take j).map (·.key)) (ws.drop j)) ∧ Aa (Below w.heap.size w w')) (fun v _ => n - (intOf v).toNat)
 case atStart => exact ⟨0, Nat.zero_le _, rfl, ⟨DD.new bm.out⟩, hG, ⟨f1.out⟩⟩
 case round =>
   obtain ⟨j, hj, rfl, HM, HG, HB⟩ := hrel
   by_cases hlt : j < n
   case neg =>
     have hjn : j = n := by omega
     have hd : ws.drop j = [] := List.drop_eq_nil_of_le (by rw [← hn.out]; omega)
     have hG1 : G = true := by rw [HG.out, hd]; rfl
     clear HG hG hd
     subst hG1
     have d1 : decide ((j : Int) < (n : Int)) = false := by simp; omega
     have d2 : decide (j < n) = false := by simp; omega
     clear hjn hj
     go_wp2_with fail
     go_returns
     exact ⟨rfl, HB.out⟩
   obtain ⟨b, o, rfl, hbn, hc, hbs, hr⟩ := (h.out.below HB.out).at_ (by rw [← hn.out]; omega)
   clear hbn
   have hjb : j < 1000000 := by have := hl.out; omega
   have hjw : j < ws.length := by rw [← hn.out]; exact hlt
   replace hr := hr j hjw
   have hdr : ws.drop j = ws[j]! :: ws.drop (j + 1) := by
     rw [List.drop_eq_getElem_cons hjw, getElem!_pos ws j hjw]
   have htk : ws.take (j + 1) = ws.take j ++ [ws[j]!] := by
     rw [List.take_succ_eq_append_getElem hjw, getElem!_pos ws j hjw]
   generalize ws[j]! = x at hr hdr htk
   replace hr := Aa.mk hr
   replace hbs := Aa.mk hbs
   have HG2 : G = (Iw x.key.l && !decide (x.key ∈ (ws.take j).map (·.key)) && decide (x.val.size ≤ 200) && (!x.gone || decide (x.val.size = 0)) && DF ((ws.take j).map (·.key) ++ [x.key]) (ws.drop (j + 1))) := by rw [HG.out, hdr]; rfl
   clear HG hG
   have d1 : decide ((j : Int) < (n : Int)) = true := by simp; omega
   have d2 : decide (j < n) = true := by simp; omega
   replace hdr := Aa.mk hdr
   replace htk := Aa.mk htk
   have hK : Aa (∀ W, Calls Tryz.prog 120 #[.agg (AZ x.key).toArray] W fun e w' => e = .returned (.bool (Iw x.key.l)) ∧ Below W.heap.size W w') := ⟨fun W => OH W x.key⟩
   have hln : Aa (x.key ∉ (ws.take j).map (·.key) → Plain.look x.key ((ws.take j).map fun x => (x.key, Value.bool true)) = none) := ⟨fun hx => Plain.BF.2 fun p hp e => by
     obtain ⟨y, hy, rfl⟩ := List.mem_map.1 hp
     exact hx (List.mem_map.2 ⟨y, hy, e⟩)⟩
   have hls : Aa (x.key ∈ (ws.take j).map (·.key) → Plain.look x.key ((ws.take j).map fun x => (x.key, Value.bool true)) = some (Value.bool true)) := ⟨fun hx => by
     obtain ⟨y, hy, e⟩ := List.mem_map.1 hx
     exact Plain.Es HM.out.uniq (List.mem_map.2 ⟨y, hy, by rw [← e]⟩)⟩
   cases hgk : Iw x.key.l
   case false =>
     rw [hgk] at hK HG2
     have hG1 : G = false := by rw [HG2]; simp
     clear HG2 hgk
     subst hG1
     go_wp2_with (first
       | ((with_reducible refine Ac (N := 12) rfl ?_); go_must (refine BM (N := 12) rfl rfl rfl rfl Tryz.underlying105 rfl (by rw [Bg]; exact Bl) hr.out ?_))
       | ((with_reducible refine Ac (N := 5) rfl ?_); refine Aj (N := 5) (C := Z18) rfl rfl (by first | (go_simp; done) | (go_simp; rfl)) ?_; intro g5 w2 h5 b5 f2)
       | ((with_reducible refine Af (t := 105) (p := 5) (v := .tmp 12) rfl ?_); go_must (refine Ak rfl (ty := 105) (x := .tmp 5) (y := .tmp 12) (cells := (wrC x).toArray) rfl rfl rfl b5.out (by rw [AY]; exact Bl) (Eb x) (by rw [AY]; exact Nat.le_refl 18) (wrC x).toArray (Aq (AY x)) ?_); intro w3 b3 f3; have hm3 := Aa.mk ((HM.out.below f2.out).fr f3.out (by have := HM.out.lt; have := h5.out; omega)))
       | ((with_reducible refine Ac (N := 14) rfl ?_); go_must (refine Au (N := 14) rfl rfl rfl rfl b3.out Tryz.underlying103 rfl AB (AZ x.key) (BV x) (Ai x.key) ?_))
       | (go_at_call 120; go_must (refine (hK.out _).mono ?_); rintro e w4 ⟨rfl, f4⟩; replace f4 := Aa.mk f4; have b4 := Aa.mk (b3.out.Ad f4.out); have hm4 := Aa.mk (hm3.out.below f4.out); have c16 := Bk.cell b4.out (JL x); have c17 := Bk.cell b4.out (Nu x))
       | ((with_reducible refine Ac (N := 20) rfl ?_); go_must (refine BO (N := 20) rfl (by rfl) rfl rfl b4.out Tryz.underlying103 rfl AB (AZ x.key) (BV x) (Ai x.key) ?_))
       | ((with_reducible refine Ac (N := 40) rfl ?_); go_must (refine Au (N := 40) rfl rfl rfl rfl b4.out Tryz.underlying103 rfl AB (AZ x.key) (BV x) (Ai x.key) ?_)))
     go_returns
     refine ⟨rfl, ?_⟩
     have q1 := HB.out.size
     have q2 := f2.out.size
     have q5 := h5.out
     exact (Fr.trans (T := fun k => k = g5) (Fr.of_below (HB.out)) ((Fr.of_below f2.out).trans (f3.out.trans (Fr.of_below f4.out)))).below (fun k hk e => by omega) (Nat.le_refl _)
   rw [hgk] at hK HG2
   clear hgk
   by_cases hin : x.key ∈ (ws.take j).map (·.key)
   · have hG1 : G = false := by rw [HG2, decide_eq_true hin]; simp
     have hin2 := Aa.mk (hls.out hin)
     clear HG2 hin
     subst hG1
     go_wp2_with (first
       | ((with_reducible refine Ac (N := 12) rfl ?_); go_must (refine BM (N := 12) rfl rfl rfl rfl Tryz.underlying105 rfl (by rw [Bg]; exact Bl) hr.out ?_))
       | ((with_reducible refine Ac (N := 5) rfl ?_); refine Aj (N := 5) (C := Z18) rfl rfl (by first | (go_simp; done) | (go_simp; rfl)) ?_; intro g5 w2 h5 b5 f2)
       | ((with_reducible refine Af (t := 105) (p := 5) (v := .tmp 12) rfl ?_); go_must (refine Ak rfl (ty := 105) (x := .tmp 5) (y := .tmp 12) (cells := (wrC x).toArray) rfl rfl rfl b5.out (by rw [AY]; exact Bl) (Eb x) (by rw [AY]; exact Nat.le_refl 18) (wrC x).toArray (Aq (AY x)) ?_); intro w3 b3 f3; have hm3 := Aa.mk ((HM.out.below f2.out).fr f3.out (by have := HM.out.lt; have := h5.out; omega)))
       | ((with_reducible refine Ac (N := 14) rfl ?_); go_must (refine Au (N := 14) rfl rfl rfl rfl b3.out Tryz.underlying103 rfl AB (AZ x.key) (BV x) (Ai x.key) ?_))
       | (go_at_call 120; go_must (refine (hK.out _).mono ?_); rintro e w4 ⟨rfl, f4⟩; replace f4 := Aa.mk f4; have b4 := Aa.mk (b3.out.Ad f4.out); have hm4 := Aa.mk (hm3.out.below f4.out); have c16 := Bk.cell b4.out (JL x); have c17 := Bk.cell b4.out (Nu x); have hlk := (hm4.out.EG (T := 204) (ok := false) EK Tryz.underlying204 hin2.out); simp only [Dq] at hlk)
       | ((with_reducible refine Ac (N := 20) rfl ?_); go_must (refine BO (N := 20) rfl (by rfl) rfl rfl b4.out Tryz.underlying103 rfl AB (AZ x.key) (BV x) (Ai x.key) ?_))
       | ((with_reducible refine Ac (N := 40) rfl ?_); go_must (refine Au (N := 40) rfl rfl rfl rfl b4.out Tryz.underlying103 rfl AB (AZ x.key) (BV x) (Ai x.key) ?_)))
     go_returns
     refine ⟨rfl, ?_⟩
     have q1 := HB.out.size
     have q2 := f2.out.size
     have q5 := h5.out
     exact (Fr.trans (T := fun k => k = g5) (Fr.of_below (HB.out)) ((Fr.of_below f2.out).trans (f3.out.trans (Fr.of_below f4.out)))).below (fun k hk e => by omega) (Nat.le_refl _)
   have hin2 := Aa.mk (hln.out hin)
   by_cases hsz : x.val.size ≤ 200
   case neg =>
     have hG1 : G = false := by rw [HG2, decide_eq_false hsz]; simp
     have d3 : decide (200 < (x.val.size : Int)) = true := by simp; omega
     clear HG2 hsz hin
     subst hG1
     go_wp2_with (first
       | ((with_reducible refine Ac (N := 12) rfl ?_); go_must (refine BM (N := 12) rfl rfl rfl rfl Tryz.underlying105 rfl (by rw [Bg]; exact Bl) hr.out ?_))
       | ((with_reducible refine Ac (N := 5) rfl ?_); refine Aj (N := 5) (C := Z18) rfl rfl (by first | (go_simp; done) | (go_simp; rfl)) ?_; intro g5 w2 h5 b5 f2)
       | ((with_reducible refine Af (t := 105) (p := 5) (v := .tmp 12) rfl ?_); go_must (refine Ak rfl (ty := 105) (x := .tmp 5) (y := .tmp 12) (cells := (wrC x).toArray) rfl rfl rfl b5.out (by rw [AY]; exact Bl) (Eb x) (by rw [AY]; exact Nat.le_refl 18) (wrC x).toArray (Aq (AY x)) ?_); intro w3 b3 f3; have hm3 := Aa.mk ((HM.out.below f2.out).fr f3.out (by have := HM.out.lt; have := h5.out; omega)))
       | ((with_reducible refine Ac (N := 14) rfl ?_); go_must (refine Au (N := 14) rfl rfl rfl rfl b3.out Tryz.underlying103 rfl AB (AZ x.key) (BV x) (Ai x.key) ?_))
       | (go_at_call 120; go_must (refine (hK.out _).mono ?_); rintro e w4 ⟨rfl, f4⟩; replace f4 := Aa.mk f4; have b4 := Aa.mk (b3.out.Ad f4.out); have hm4 := Aa.mk (hm3.out.below f4.out); have c16 := Bk.cell b4.out (JL x); have c17 := Bk.cell b4.out (Nu x); have hlk := (hm4.out.BF (T := 204) (ok := false) EK Tryz.underlying204 hin2.out TZ); simp only [Dq] at hlk; have hup := hm4.out.update EK Tryz.underlying204 x.key (.bool true); obtain ⟨ou, hup, HU⟩ := hup; simp only [Dq] at hup; replace HU := Aa.mk HU)
       | ((with_reducible refine Ac (N := 20) rfl ?_); go_must (refine BO (N := 20) rfl (by rfl) rfl rfl b4.out Tryz.underlying103 rfl AB (AZ x.key) (BV x) (Ai x.key) ?_))
       | ((with_reducible refine Ac (N := 40) rfl ?_); go_must (refine Au (N := 40) rfl rfl rfl rfl b4.out Tryz.underlying103 rfl AB (AZ x.key) (BV x) (Ai x.key) ?_)))
     go_returns
     refine ⟨rfl, ?_⟩
     have q1 := HB.out.size
     have q2 := f2.out.size
     have q5 := h5.out
     exact (Fr.trans (T := fun k => k = g5) (Fr.of_below (HB.out)) ((Fr.of_below f2.out).trans (f3.out.trans (Fr.of_below f4.out)))).below (fun k hk e => by omega) (Nat.le_refl _)
   have d3 : decide (200 < (x.val.size : Int)) = false := by simp; omega
   by_cases hgo : x.gone = true ∧ x.val.size ≠ 0
   · have hG1 : G = false := by rw [HG2]; simp [hgo.1, hgo.2]
     have e1 : x.val.toList ≠ [] := fun e => hgo.2 (by rw [ByteArray.toList_eq] at e; have := congrArg List.length e; simpa using this)
     have e2 : (!x.val.toList.isEmpty) = true := by simpa using e1
     have e3 : x.val.toList.isEmpty = false := by simpa using e1
     have hg := Aa.mk hgo.1
     clear HG2 hgo e1 hin hsz
     subst hG1
     go_wp2_with (first
       | ((with_reducible refine Ac (N := 12) rfl ?_); go_must (refine BM (N := 12) rfl rfl rfl rfl Tryz.underlying105 rfl (by rw [Bg]; exact Bl) hr.out ?_))
       | ((with_reducible refine Ac (N := 5) rfl ?_); refine Aj (N := 5) (C := Z18) rfl rfl (by first | (go_simp; done) | (go_simp; rfl)) ?_; intro g5 w2 h5 b5 f2)
       | ((with_reducible refine Af (t := 105) (p := 5) (v := .tmp 12) rfl ?_); go_must (refine Ak rfl (ty := 105) (x := .tmp 5) (y := .tmp 12) (cells := (wrC x).toArray) rfl rfl rfl b5.out (by rw [AY]; exact Bl) (Eb x) (by rw [AY]; exact Nat.le_refl 18) (wrC x).toArray (Aq (AY x)) ?_); intro w3 b3 f3; have hm3 := Aa.mk ((HM.out.below f2.out).fr f3.out (by have := HM.out.lt; have := h5.out; omega)))
       | ((with_reducible refine Ac (N := 14) rfl ?_); go_must (refine Au (N := 14) rfl rfl rfl rfl b3.out Tryz.underlying103 rfl AB (AZ x.key) (BV x) (Ai x.key) ?_))
       | (go_at_call 120; go_must (refine (hK.out _).mono ?_); rintro e w4 ⟨rfl, f4⟩; replace f4 := Aa.mk f4; have b4 := Aa.mk (b3.out.Ad f4.out); have hm4 := Aa.mk (hm3.out.below f4.out); have c16 := Bk.cell b4.out (JL x); have c17 := Bk.cell b4.out (Nu x); have hlk := (hm4.out.BF (T := 204) (ok := false) EK Tryz.underlying204 hin2.out TZ); simp only [Dq] at hlk; rw [hg.out] at c17; have hup := hm4.out.update EK Tryz.underlying204 x.key (.bool true); obtain ⟨ou, hup, HU⟩ := hup; simp only [Dq] at hup; replace HU := Aa.mk HU)
       | ((with_reducible refine Ac (N := 20) rfl ?_); go_must (refine BO (N := 20) rfl (by rfl) rfl rfl b4.out Tryz.underlying103 rfl AB (AZ x.key) (BV x) (Ai x.key) ?_))
       | ((with_reducible refine Ac (N := 40) rfl ?_); go_must (refine Au (N := 40) rfl rfl rfl rfl b4.out Tryz.underlying103 rfl AB (AZ x.key) (BV x) (Ai x.key) ?_)))
     go_returns
     refine ⟨rfl, ?_⟩
     have q1 := HB.out.size
     have q2 := f2.out.size
     have q5 := h5.out
     exact (Fr.trans (T := fun k => k = g5) (Fr.of_below (HB.out)) ((Fr.of_below f2.out).trans (f3.out.trans (Fr.of_below f4.out)))).below (fun k hk e => by omega) (Nat.le_refl _)
   · have hG1 : Aa (G = DF ((ws.take (j + 1)).map (·.key)) (ws.drop (j + 1))) := ⟨by
       rw [HG2, htk.out]
       have : (!x.gone || decide (x.val.size = 0)) = true := by
         cases hg : x.gone
         · rfl
         · by_cases h0 : x.val.size = 0
           · simp [h0]
           · exact absurd ⟨hg, h0⟩ hgo
       simp only [this, hin, hsz, decide_true, decide_false, Bool.not_false, Bool.true_and, List.map_append, List.map_cons, List.map_nil]⟩
     have hin3 := Aa.mk hin
     clear HG2 hin hsz
     cases hg0 : x.gone
     case false =>
       have hg := Aa.mk hg0
       clear hg0 hgo
       go_wp2_with (first
         | ((with_reducible refine Ac (N := 12) rfl ?_); go_must (refine BM (N := 12) rfl rfl rfl rfl Tryz.underlying105 rfl (by rw [Bg]; exact Bl) hr.out ?_))
         | ((with_reducible refine Ac (N := 5) rfl ?_); refine Aj (N := 5) (C := Z18) rfl rfl (by first | (go_simp; done) | (go_simp; rfl)) ?_; intro g5 w2 h5 b5 f2)
         | ((with_reducible refine Af (t := 105) (p := 5) (v := .tmp 12) rfl ?_); go_must (refine Ak rfl (ty := 105) (x := .tmp 5) (y := .tmp 12) (cells := (wrC x).toArray) rfl rfl rfl b5.out (by rw [AY]; exact Bl) (Eb x) (by rw [AY]; exact Nat.le_refl 18) (wrC x).toArray (Aq (AY x)) ?_); intro w3 b3 f3; have hm3 := Aa.mk ((HM.out.below f2.out).fr f3.out (by have := HM.out.lt; have := h5.out; omega)))
         | ((with_reducible refine Ac (N := 14) rfl ?_); go_must (refine Au (N := 14) rfl rfl rfl rfl b3.out Tryz.underlying103 rfl AB (AZ x.key) (BV x) (Ai x.key) ?_))
         | (go_at_call 120; go_must (refine (hK.out _).mono ?_); rintro e w4 ⟨rfl, f4⟩; replace f4 := Aa.mk f4; have b4 := Aa.mk (b3.out.Ad f4.out); have hm4 := Aa.mk (hm3.out.below f4.out); have c16 := Bk.cell b4.out (JL x); have c17 := Bk.cell b4.out (Nu x); have hlk := (hm4.out.BF (T := 204) (ok := false) EK Tryz.underlying204 hin2.out TZ); simp only [Dq] at hlk; rw [hg.out] at c17; have hup := hm4.out.update EK Tryz.underlying204 x.key (.bool true); obtain ⟨ou, hup, HU⟩ := hup; simp only [Dq] at hup; replace HU := Aa.mk HU)
         | ((with_reducible refine Ac (N := 20) rfl ?_); go_must (refine BO (N := 20) rfl (by rfl) rfl rfl b4.out Tryz.underlying103 rfl AB (AZ x.key) (BV x) (Ai x.key) ?_))
         | ((with_reducible refine Ac (N := 40) rfl ?_); go_must (refine Au (N := 40) rfl rfl rfl rfl b4.out Tryz.underlying103 rfl AB (AZ x.key) (BV x) (Ai x.key) ?_)))
       go_roundw
       case rel =>
         have eU : Plain.CW x.key (Value.bool true) ((ws.take j).map fun x => (x.key, Value.bool true)) = (ws.take (j + 1)).map fun x => (x.key, Value.bool true) := by
           rw [Plain.EW _ hin2.out, htk.out, List.map_append]
           rfl
         have q1 := HB.out.size
         have q2 := f2.out.size
         have q3 := f3.out.size
         have q4 := f4.out.size
         have q5 := h5.out
         have q6 := hm.out
         refine ⟨j + 1, hlt, by go_num, ⟨eU ▸ HU.out⟩, hG1, ⟨?_⟩⟩
         exact (Fr.trans (T := fun k => k = g5 ∨ k = m) (Fr.of_below (HB.out)) ((Fr.of_below f2.out).trans ((f3.out.weaken (fun _ _ h => .inl h)).trans ((Fr.of_below f4.out).put m ou (.inl (.inr rfl)))))).below (fun k hk e => by omega) (Nat.le_refl _)
       case measure => simp [intOf]; omega
     case true =>
       have hg := Aa.mk hg0
       have h0 : x.val.size = 0 := Decidable.byContradiction fun h => hgo ⟨hg0, h⟩
       have e1 : x.val.toList = [] := by
         rw [ByteArray.toList_eq]
         exact List.eq_nil_of_length_eq_zero (by simpa using h0)
       have e2 : x.val.toList.isEmpty = true := by rw [e1]; rfl
       clear hg0 hgo h0
       go_wp2_with (first
         | ((with_reducible refine Ac (N := 12) rfl ?_); go_must (refine BM (N := 12) rfl rfl rfl rfl Tryz.underlying105 rfl (by rw [Bg]; exact Bl) hr.out ?_))
         | ((with_reducible refine Ac (N := 5) rfl ?_); refine Aj (N := 5) (C := Z18) rfl rfl (by first | (go_simp; done) | (go_simp; rfl)) ?_; intro g5 w2 h5 b5 f2)
         | ((with_reducible refine Af (t := 105) (p := 5) (v := .tmp 12) rfl ?_); go_must (refine Ak rfl (ty := 105) (x := .tmp 5) (y := .tmp 12) (cells := (wrC x).toArray) rfl rfl rfl b5.out (by rw [AY]; exact Bl) (Eb x) (by rw [AY]; exact Nat.le_refl 18) (wrC x).toArray (Aq (AY x)) ?_); intro w3 b3 f3; have hm3 := Aa.mk ((HM.out.below f2.out).fr f3.out (by have := HM.out.lt; have := h5.out; omega)))
         | ((with_reducible refine Ac (N := 14) rfl ?_); go_must (refine Au (N := 14) rfl rfl rfl rfl b3.out Tryz.underlying103 rfl AB (AZ x.key) (BV x) (Ai x.key) ?_))
         | (go_at_call 120; go_must (refine (hK.out _).mono ?_); rintro e w4 ⟨rfl, f4⟩; replace f4 := Aa.mk f4; have b4 := Aa.mk (b3.out.Ad f4.out); have hm4 := Aa.mk (hm3.out.below f4.out); have c16 := Bk.cell b4.out (JL x); have c17 := Bk.cell b4.out (Nu x); have hlk := (hm4.out.BF (T := 204) (ok := false) EK Tryz.underlying204 hin2.out TZ); simp only [Dq] at hlk; rw [hg.out] at c17; have hup := hm4.out.update EK Tryz.underlying204 x.key (.bool true); obtain ⟨ou, hup, HU⟩ := hup; simp only [Dq] at hup; replace HU := Aa.mk HU)
         | ((with_reducible refine Ac (N := 20) rfl ?_); go_must (refine BO (N := 20) rfl (by rfl) rfl rfl b4.out Tryz.underlying103 rfl AB (AZ x.key) (BV x) (Ai x.key) ?_))
         | ((with_reducible refine Ac (N := 40) rfl ?_); go_must (refine Au (N := 40) rfl rfl rfl rfl b4.out Tryz.underlying103 rfl AB (AZ x.key) (BV x) (Ai x.key) ?_)))
       go_roundw
       case rel =>
         have eU : Plain.CW x.key (Value.bool true) ((ws.take j).map fun x => (x.key, Value.bool true)) = (ws.take (j + 1)).map fun x => (x.key, Value.bool true) := by
           rw [Plain.EW _ hin2.out, htk.out, List.map_append]
           rfl
         have q1 := HB.out.size
         have q2 := f2.out.size
         have q3 := f3.out.size
         have q4 := f4.out.size
         have q5 := h5.out
         have q6 := hm.out
         refine ⟨j + 1, hlt, by go_num, ⟨eU ▸ HU.out⟩, hG1, ⟨?_⟩⟩
         exact (Fr.trans (T := fun k => k = g5 ∨ k = m) (Fr.of_below (HB.out)) ((Fr.of_below f2.out).trans ((f3.out.weaken (fun _ _ h => .inl h)).trans ((Fr.of_below f4.out).put m ou (.inl (.inr rfl)))))).below (fun k hk e => by omega) (Nat.le_refl _)
       case measure => simp [intOf]; omega
end Go.Proofs.YtchfmgbjddopoaaGreatDoor.Hand
namespace Go.Proofs.YtchfmgbjddopoaaGreatDoor.PGood
open Go.RowKit Go.Proofs.YtchfmgbjddopoaaGreatDoorW.PrintWords Go.Proofs.YtchfmgbjddopoaaGreatDoorW.PrintLast Go.Proofs.YtchfmgbjddopoaaGreatDoorW.PrintMore
attribute [local go_sem] max2_int min2_int max_two min_two max_three min_three max_four min_four
def errW : Option Int → Value
 | none => .nilIface
 | some c => .iface 0 (.int .i64 c)
theorem errW_none : errW none = .nilIface := rfl
theorem errW_some (c : Int) : errW (some c) = .iface 0 (.int .i64 c) := rfl
def Fv.f (a0_0 : Int) (a0_1 : Int) : Option (Bool) := if a0_0 ≥ 0 then (some (decide (a0_0 ≤ 36028797018963967))) else (some false)
theorem Fv.calls (a0_0 : Int) (a0_1 : Int) (r : Bool) (w : World) (h : Fv.f a0_0 a0_1 = some r) :
   Calls Tryz.prog 29 #[.agg #[.int .i64 a0_0, .int .u8 a0_1]] w fun e w' => e = .returned (.bool r) ∧ Below w.heap.size w w' := by
 have hu32 := Tryz.underlying32
 have HB := Aa.mk (Below.refl w.heap.size w)
 have H : (if a0_0 ≥ 0 then (some (decide (a0_0 ≤ 36028797018963967))) else (some false)) = some r := h
 clear h
 by_cases c2 : a0_0 ≥ 0
 · rw [if_pos c2] at H
   have c2b0 : decide (0 ≤ a0_0) = true := decide_eq_true c2
   clear c2
   obtain rfl := Option.some.inj H
   go_enter Tryz.func29, Tryz.ntmps29
   go_wp2_with (first | ((with_reducible refine Ac (N := 1) rfl ?_); refine Dl ?hg (N := 1) ?hd (cs := #[.int .i64 a0_0, .int .u8 a0_1]) (t := 32) ?hr ?_; (case hd => rfl); (case hg => rfl); (case hr => first | (go_simp; done) | (go_simp; rfl)); intro gb101 hg w3 hbox hb; have n0_ := Aa.mk (CS (by repeat (first | (with_reducible first | exact HB.out | apply Ah | apply Ae | apply below_drew1) | exact HB.out)) hb); have n1_ := Aa.mk (hbox); have n2_ := Aa.mk ((by rw [hg]; exact (Ba (by repeat (first | (with_reducible first | exact HB.out | apply Ah | apply Ae | apply below_drew1) | exact HB.out))) : w.heap.size ≤ gb101)); have n3_ := Aa.mk ((by rw [hg]; exact (Ba (by repeat (first | (with_reducible first | exact HB.out | apply Ah | apply Ae | apply below_drew1) | exact HB.out))) : w.heap.size ≤ gb101)); clear HB; have HB := n0_; have BK101 := n1_; have GW101 := n2_; have GE101 := n3_; clear n0_ n1_ n2_ n3_; clear hb hbox hg; have hcz4_0 : w3.cell? ⟨gb101, 0, none⟩ = some (.int .i64 a0_0) := (BP BK101.out 0).trans rfl; have hcz4_1 : w3.cell? ⟨gb101, 1, none⟩ = some (.int .u8 a0_1) := (BP BK101.out 1).trans rfl; have hfz4_0 := Bj BK101.out 0; have hfz4_1 := Bj BK101.out 1))
   go_ret
   exact ⟨by first | rfl | (simp [errW_none, errW_some] <;> rfl) | (simp [*, errW_none, errW_some] <;> rfl), by repeat (first | (with_reducible first | exact HB.out | apply Ah | apply Ae | apply below_drew1 | refine BG ?_ GE101.out) | exact HB.out)⟩
 · rw [if_neg c2] at H
   have c2b0 : decide (0 ≤ a0_0) = false := decide_eq_false c2
   clear c2
   obtain rfl := Option.some.inj H
   go_enter Tryz.func29, Tryz.ntmps29
   go_wp2_with (first | ((with_reducible refine Ac (N := 1) rfl ?_); refine Dl ?hg (N := 1) ?hd (cs := #[.int .i64 a0_0, .int .u8 a0_1]) (t := 32) ?hr ?_; (case hd => rfl); (case hg => rfl); (case hr => first | (go_simp; done) | (go_simp; rfl)); intro gb101 hg w5 hbox hb; have n0_ := Aa.mk (CS (by repeat (first | (with_reducible first | exact HB.out | apply Ah | apply Ae | apply below_drew1) | exact HB.out)) hb); have n1_ := Aa.mk (hbox); have n2_ := Aa.mk ((by rw [hg]; exact (Ba (by repeat (first | (with_reducible first | exact HB.out | apply Ah | apply Ae | apply below_drew1) | exact HB.out))) : w.heap.size ≤ gb101)); have n3_ := Aa.mk ((by rw [hg]; exact (Ba (by repeat (first | (with_reducible first | exact HB.out | apply Ah | apply Ae | apply below_drew1) | exact HB.out))) : w.heap.size ≤ gb101)); clear HB; have HB := n0_; have BK101 := n1_; have GW101 := n2_; have GE101 := n3_; clear n0_ n1_ n2_ n3_; clear hb hbox hg; have hcz6_0 : w5.cell? ⟨gb101, 0, none⟩ = some (.int .i64 a0_0) := (BP BK101.out 0).trans rfl; have hcz6_1 : w5.cell? ⟨gb101, 1, none⟩ = some (.int .u8 a0_1) := (BP BK101.out 1).trans rfl; have hfz6_0 := Bj BK101.out 0; have hfz6_1 := Bj BK101.out 1))
   go_ret
   exact ⟨by first | rfl | (simp [errW_none, errW_some] <;> rfl) | (simp [*, errW_none, errW_some] <;> rfl), by repeat (first | (with_reducible first | exact HB.out | apply Ah | apply Ae | apply below_drew1 | refine BG ?_ GE101.out) | exact HB.out)⟩
end Go.Proofs.YtchfmgbjddopoaaGreatDoor.PGood
namespace Go.Proofs.YtchfmgbjddopoaaGreatDoor.Hand
open Go.RowKit Go.Proofs.YtchfmgbjddopoaaGreatDoorW.PrintWords Go.Proofs.YtchfmgbjddopoaaGreatDoorW.PrintLast Go.Proofs.YtchfmgbjddopoaaGreatDoorW.PrintMore
attribute [local go_sem ↓] Go.wp_at_zero Go.wp_at_succ
open Plain (GU)
def QI (a b : Int) : Int := if a < b then -1 else if b < a then 1 else 0
theorem Ru (w : World) (a : Int) : Calls Tryz.prog 169 #[.int .i64 a] w fun e w' => e = .returned (.bool false) ∧ w' = w := by
 go_enter Tryz.func169, Tryz.ntmps169
 go_wp2_with fail
 go_returns
 exact ⟨by simp, rfl⟩
theorem Zz (w : World) (a b : Int) : Calls Tryz.prog 117 #[.int .i64 a, .int .i64 b] w fun e w' => e = .returned (.int .i64 (QI a b)) ∧ w' = w := by
 have ha := Ru w a
 have hb := Ru w b
 by_cases h1 : a < b
 · have d1 : decide (a < b) = true := by simp; omega
   rw [show QI a b = -1 from if_pos h1]
   go_enter Tryz.func117, Tryz.ntmps117
   go_wp2_with (first
       | (go_at_call_of 169 (Value.int .i64 a); refine ha.mono ?_; rintro e w1 ⟨rfl, h⟩; replace h := h.symm; subst h)
       | (go_at_call 169; refine hb.mono ?_; rintro e w1 ⟨rfl, h⟩; replace h := h.symm; subst h))
   go_returns
   exact ⟨rfl, rfl⟩
 have d1 : decide (a < b) = false := by simp; omega
 by_cases h2 : b < a
 · have d2 : decide (b < a) = true := by simp; omega
   rw [show QI a b = 1 from (if_neg h1).trans (if_pos h2)]
   go_enter Tryz.func117, Tryz.ntmps117
   go_wp2_with (first
       | (go_at_call_of 169 (Value.int .i64 a); refine ha.mono ?_; rintro e w1 ⟨rfl, h⟩; replace h := h.symm; subst h)
       | (go_at_call 169; refine hb.mono ?_; rintro e w1 ⟨rfl, h⟩; replace h := h.symm; subst h))
   go_returns
   exact ⟨rfl, rfl⟩
 have d2 : decide (b < a) = false := by simp; omega
 rw [show QI a b = 0 from (if_neg h1).trans (if_neg h2)]
 go_enter Tryz.func117, Tryz.ntmps117
 go_wp2_with (first
     | (go_at_call_of 169 (Value.int .i64 a); refine ha.mono ?_; rintro e w1 ⟨rfl, h⟩; replace h := h.symm; subst h)
     | (go_at_call 169; refine hb.mono ?_; rintro e w1 ⟨rfl, h⟩; replace h := h.symm; subst h))
 go_returns
 exact ⟨rfl, rfl⟩
theorem Uy (w : World) (a : Int) : Calls Tryz.prog 170 #[.int .u8 a] w fun e w' => e = .returned (.bool false) ∧ w' = w := by
 go_enter Tryz.func170, Tryz.ntmps170
 go_wp2_with fail
 go_returns
 exact ⟨by simp, rfl⟩
theorem Xak (w : World) (a b : Int) : Calls Tryz.prog 118 #[.int .u8 a, .int .u8 b] w fun e w' => e = .returned (.int .i64 (QI a b)) ∧ w' = w := by
 have ha := Uy w a
 have hb := Uy w b
 by_cases h1 : a < b
 · have d1 : decide (a < b) = true := by simp; omega
   rw [show QI a b = -1 from if_pos h1]
   go_enter Tryz.func118, Tryz.ntmps118
   go_wp2_with (first
       | (go_at_call_of 170 (Value.int .u8 a); refine ha.mono ?_; rintro e w1 ⟨rfl, h⟩; replace h := h.symm; subst h)
       | (go_at_call 170; refine hb.mono ?_; rintro e w1 ⟨rfl, h⟩; replace h := h.symm; subst h))
   go_returns
   exact ⟨rfl, rfl⟩
 have d1 : decide (a < b) = false := by simp; omega
 by_cases h2 : b < a
 · have d2 : decide (b < a) = true := by simp; omega
   rw [show QI a b = 1 from (if_neg h1).trans (if_pos h2)]
   go_enter Tryz.func118, Tryz.ntmps118
   go_wp2_with (first
       | (go_at_call_of 170 (Value.int .u8 a); refine ha.mono ?_; rintro e w1 ⟨rfl, h⟩; replace h := h.symm; subst h)
       | (go_at_call 170; refine hb.mono ?_; rintro e w1 ⟨rfl, h⟩; replace h := h.symm; subst h))
   go_returns
   exact ⟨rfl, rfl⟩
 have d2 : decide (b < a) = false := by simp; omega
 rw [show QI a b = 0 from (if_neg h1).trans (if_neg h2)]
 go_enter Tryz.func118, Tryz.ntmps118
 go_wp2_with (first
     | (go_at_call_of 170 (Value.int .u8 a); refine ha.mono ?_; rintro e w1 ⟨rfl, h⟩; replace h := h.symm; subst h)
     | (go_at_call 170; refine hb.mono ?_; rintro e w1 ⟨rfl, h⟩; replace h := h.symm; subst h))
 go_returns
 exact ⟨rfl, rfl⟩
theorem Za (w : World) (g : Nat) (a b : Int) (h : Bk w g #[.int .i64 a, .int .i64 b] 3) : Calls Tryz.prog 116 #[.slice (some ⟨g, 0, none⟩) 2 2] w fun e w' => e = .returned (.int .i64 (if a = 0 then b else a)) ∧ w' = w := by
 obtain ⟨X, hX⟩ : ∃ X, X = if a = 0 then b else a := ⟨_, rfl⟩
 rw [← hX]
 have hX0 := Aa.mk (fun h : a = 0 => hX.trans (if_pos h))
 have hX1 := Aa.mk (fun h : ¬ a = 0 => hX.trans (if_neg h))
 clear hX
 have c0 : w.cell? ⟨g, 0, none⟩ = some (.int .i64 a) := h.cell rfl
 have c1 : w.cell? ⟨g, 1, none⟩ = some (.int .i64 b) := h.cell rfl
 replace h := Aa.mk h
 go_enter Tryz.func116, Tryz.ntmps116
 go_wp2_with fail
 go_loopw [8] (fun j wq => wq = w ∧ (j = .int .i64 0 ∨ (j = .int .i64 1 ∧ a = 0) ∨ (j = .int .i64 2 ∧ a = 0 ∧ b = 0))) (fun j _ => 2 - (intOf j).toNat)
 case atStart => exact ⟨rfl, .inl rfl⟩
 case round =>
   obtain ⟨hw, hj⟩ := hrel
   replace hw := hw.symm
   subst hw
   rcases hj with rfl | ⟨rfl, ha⟩ | ⟨rfl, ha, hb⟩
   · by_cases h0 : a = 0
     · subst h0
       clear hX0 hX1
       go_wp2_with fail
       go_roundw
       case rel => simp
       case measure => simp [intOf]
     · have d0 : (a != 0) = true := by simp [h0]
       go_wp2_with fail
       go_returns
       exact ⟨by rw [hX1.out h0]; rfl, rfl⟩
   · replace ha := Aa.mk ha
     by_cases h0 : b = 0
     · subst h0
       go_wp2_with fail
       go_roundw
       case rel => simp [ha.out]
       case measure => simp [intOf]
     · have d0 : (b != 0) = true := by simp [h0]
       go_wp2_with fail
       go_returns
       exact ⟨by rw [hX0.out ha.out]; rfl, rfl⟩
   · subst hb
     replace ha := Aa.mk ha
     go_wp2_with fail
     go_returns
     exact ⟨by rw [hX0.out ha.out]; rfl, rfl⟩
theorem Yn (t n t' n' : Int) : GU t n t' n' = if QI t t' = 0 then QI n n' else QI t t' := by
 unfold GU QI
 split
 · rfl
 · split
   · rfl
   · simp
theorem D6 (w : World) (t n t' n' : Int) : Calls Tryz.prog 68 #[.agg #[.int .i64 t, .int .u8 n], .agg #[.int .i64 t', .int .u8 n']] w fun e w' => e = .returned (.int .i64 (GU t n t' n')) ∧ Below w.heap.size w w' := by
 rw [Yn]
 obtain ⟨X, hX⟩ : ∃ X, X = QI t t' := ⟨_, rfl⟩
 obtain ⟨Y, hY⟩ : ∃ Y, Y = QI n n' := ⟨_, rfl⟩
 rw [← hX, ← hY]
 have hC1 : Aa (∀ W, Calls Tryz.prog 117 #[.int .i64 t, .int .i64 t'] W fun e w' => e = .returned (.int .i64 X) ∧ w' = W) := ⟨fun W => by rw [hX]; exact Zz W t t'⟩
 have hC2 : Aa (∀ W, Calls Tryz.prog 118 #[.int .u8 n, .int .u8 n'] W fun e w' => e = .returned (.int .i64 Y) ∧ w' = W) := ⟨fun W => by rw [hY]; exact Xak W n n'⟩
 obtain ⟨R, hR⟩ : ∃ R, R = if X = 0 then Y else X := ⟨_, rfl⟩
 rw [← hR]
 have hOr : Aa (∀ W g, Bk W g #[.int .i64 X, .int .i64 Y] 3 → Calls Tryz.prog 116 #[.slice (some ⟨g, 0, none⟩) 2 2] W fun e w' => e = .returned (.int .i64 R) ∧ w' = W) := ⟨fun W g h => by rw [hR]; exact Za W g X Y h⟩
 clear hX hY hR
 go_enter Tryz.func68, Tryz.ntmps68
 go_upto_region 1 with (first
   | ((with_reducible refine Ac (N := 2) rfl ?_); refine Aj (N := 2) (C := #[.int .i64 t, .int .u8 n]) rfl rfl (by first | (go_simp; done) | (go_simp; rfl)) ?_; intro g2 w2 h2 b2 f2)
   | ((with_reducible refine Ac (N := 3) rfl ?_); refine Aj (N := 3) (C := #[.int .i64 t', .int .u8 n']) rfl rfl (by first | (go_simp; done) | (go_simp; rfl)) ?_; intro g3 w3 h3 b3 f3))
 have b23 := Aa.mk (Ob.Ad b2.out f3.out)
 have p0 : w3.drew.cell? ⟨g2, 0, none⟩ = some (.int .i64 t) := Bk.cell (Ob.drew b23.out) rfl
 have p1 : w3.drew.cell? ⟨g2, 1, none⟩ = some (.int .u8 n) := Bk.cell (Ob.drew b23.out) rfl
 have q0 : w3.drew.cell? ⟨g3, 0, none⟩ = some (.int .i64 t') := Bk.cell (Ob.drew b3.out) rfl
 have q1 : w3.drew.cell? ⟨g3, 1, none⟩ = some (.int .u8 n') := Bk.cell (Ob.drew b3.out) rfl
 go_region_with (first
   | (go_at_call 117; refine (hC1.out _).mono ?_; rintro e w4 ⟨rfl, h⟩; replace h := h.symm; subst h)
   | (go_at_call 118; refine (hC2.out _).mono ?_; rintro e w4 ⟨rfl, h⟩; replace h := h.symm; subst h)
   | (go_at_call 116; refine (hOr.out _ _ (Ob.drew (Ob.new _ _))).mono ?_; rintro e w5 ⟨rfl, h⟩; replace h := h.symm; subst h))
 all_goals
   go_wp2_with fail
   go_returns
   exact ⟨rfl, f2.out.trans ((f3.out.trans (by first | exact (Ah (Ag (Below.refl _ _)) _).mono f3.out.size | exact (Ag (Ah (Below.refl _ _) _)).mono f3.out.size)).mono f2.out.size)⟩
end Go.Proofs.YtchfmgbjddopoaaGreatDoor.Hand
namespace Go.Proofs.YtchfmgbjddopoaaGreatDoor.Hand
open Go.RowKit Go.Proofs.YtchfmgbjddopoaaGreatDoorW.PrintWords Go.Proofs.YtchfmgbjddopoaaGreatDoorW.PrintLast Go.Proofs.YtchfmgbjddopoaaGreatDoorW.PrintMore
attribute [local go_sem ↓] Go.wp_at_zero Go.wp_at_succ
open Plain (Ky Wr Rc Ver Ent St Bytes DF Iw Ce TY Ez NE GU ltS)
theorem BD (w : World) (t n : Int) : Calls Tryz.prog 29 #[.agg #[.int .i64 t, .int .u8 n]] w fun e w' => e = .returned (.bool (Ce t)) ∧ Below w.heap.size w w' := by
 refine PGood.Fv.calls t n (Ce t) w ?_
 unfold PGood.Fv.f Ce
 by_cases h : t ≥ 0
 · rw [if_pos h, decide_eq_true h, Bool.true_and]
 · rw [if_neg h, decide_eq_false h, Bool.false_and]
theorem Rz (t n t' n' : Int) : decide (0 < GU t n t' n') = decide (ltS t' n' t n) := by
 rw [Bool.eq_iff_iff, decide_eq_true_eq, decide_eq_true_eq]
 unfold GU ltS
 split
 · omega
 · split
   · omega
   · split
     · omega
     · split <;> omega
theorem WC (t n t' n' : Int) : decide (GU t n t' n' < 0) = decide (ltS t n t' n') := by
 rw [Bool.eq_iff_iff, decide_eq_true_eq, decide_eq_true_eq]
 unfold GU ltS
 split
 · omega
 · split
   · omega
   · split
     · omega
     · split <;> omega
theorem CO : (Tryz.prog.info? 72).map (·.size) = some 6 := by kernel_rfl
theorem Rh (w : World) (e : Ent) (A : Option Addr) (n c : Nat) (h : Eo w (.slice A n c) e.ws) (hl : e.ws.length ≤ 1000000) : Calls Tryz.prog 67 #[.agg (IG e (.slice A n c))] w fun r w' => r = .returned (.bool (TY e)) ∧ Below w.heap.size w w' := by
 obtain ⟨X, hX⟩ : ∃ X, X = TY e := ⟨_, rfl⟩
 rw [← hX]
 replace hX := Aa.mk hX
 have hn : Aa (n = e.ws.length) := ⟨by
   obtain ⟨A', c', e'⟩ := h.slice
   injection e'⟩
 obtain ⟨C, hC⟩ : ∃ C, C = IG e (.slice A n c) := ⟨_, rfl⟩
 rw [← hC]
 replace hC := Aa.mk hC
 replace h := Aa.mk h
 replace hl := Aa.mk hl
 go_enter Tryz.func67, Tryz.ntmps67
 go_wp2_with (first
   | ((with_reducible refine Ac (N := 1) rfl ?_); refine Aj (N := 1) (C := C) rfl rfl (by first | (go_simp; done) | (go_simp; rfl)) ?_; intro g1 w1 h1 b1 f1; rw [hC.out] at b1
      have a0 : w1.cell? ⟨g1, 0, none⟩ = some (.int .i64 e.id) := Bk.cell b1.out rfl
      have a1 : w1.cell? ⟨g1, 1, none⟩ = some (.int .i64 e.t0) := Bk.cell b1.out rfl
      have a2 : w1.cell? ⟨g1, 2, none⟩ = some (.int .u8 e.n0) := Bk.cell b1.out rfl)
   | (go_at_call 29; go_must (refine (BD _ e.t0 e.n0).mono ?_); rintro _ w2 ⟨rfl, f2⟩; have F2 : Aa (Below w.heap.size w w2) := ⟨f1.out.trans (f2.mono f1.out.size)⟩; have b2 := Aa.mk (b1.out.Ad f2); have a5 : w2.cell? ⟨g1, 5, none⟩ = some (.slice A n c) := Bk.cell b2.out rfl; clear a0 a1 a2 f2)
   | (go_at_call 115; go_must (refine (Ro _ A n c).mono ?_); rintro _ w3 ⟨rfl, rfl⟩)
   | (go_at_call 81; go_must (refine (Py _ _ e.ws (h.out.below F2.out) hl.out).mono ?_); rintro _ w4 ⟨rfl, f4⟩; have F4 : Aa (Below w.heap.size w w4) := ⟨F2.out.trans (f4.mono F2.out.size)⟩; clear f4))
 all_goals go_returns
 · rename_i x1 x2 x3
   obtain rfl : X = DF [] e.ws := by
     rw [hX.out, TY, NE, ← hn.out, x2]
     simp [x1, x3]
   exact ⟨rfl, F4.out⟩
 all_goals
   rename_i x
   obtain rfl : X = false := by
     rw [hX.out, TY, NE, ← hn.out]
     first
       | (simp [x]; done)
       | (rw [show Ce e.t0 = false from by simpa using x]; simp; done)
       | (rw [decide_eq_false (show ¬ 1 ≤ e.id by omega)]; simp; done)
       | (rw [← Bool.decide_and, decide_eq_false x]; simp; done)
   exact ⟨rfl, by first | exact F2.out | exact f1.out⟩
theorem Je (w : World) (e : Ent) (A : Option Addr) (n c : Nat) (h : Eo w (.slice A n c) e.ws) (hl : e.ws.length ≤ 1000000) : Calls Tryz.prog 28 #[.agg (IG e (.slice A n c))] w fun r w' => r = .returned (.bool (Ez e)) ∧ Below w.heap.size w w' := by
 obtain ⟨X, hX⟩ : ∃ X, X = Ez e := ⟨_, rfl⟩
 rw [← hX]
 replace hX := Aa.mk hX
 obtain ⟨C, hC⟩ : ∃ C, C = IG e (.slice A n c) := ⟨_, rfl⟩
 have hM : Aa (∀ W, Eo W (.slice A n c) e.ws → Calls Tryz.prog 67 #[.agg C] W fun r w' => r = .returned (.bool (TY e)) ∧ Below W.heap.size W w') := ⟨fun W hW => hC ▸ Rh W e A n c hW hl⟩
 have hs : Aa (C.size = 6) := ⟨by rw [hC]; rfl⟩
 rw [← hC]
 replace hC := Aa.mk hC
 replace h := Aa.mk h
 go_enter Tryz.func28, Tryz.ntmps28
 go_wp2_with (first
   | ((with_reducible refine Ac (N := 1) rfl ?_); refine Aj (N := 1) (C := C) rfl rfl (by first | (go_simp; done) | (go_simp; rfl)) ?_; intro g1 w1 h1 b1 f1)
   | ((with_reducible refine Ac (N := 3) rfl ?_); go_must (refine Au (N := 3) rfl rfl rfl rfl b1.out Tryz.underlying72 rfl CO C.toList (AU hs.out) (by rw [Array.length_toList, hs.out]) ?_))
   | (go_at_call 67; go_must (refine (hM.out _ (h.out.below f1.out)).mono ?_); rintro _ w2 ⟨rfl, f2⟩; have F2 : Aa (Below w.heap.size w w2) := ⟨f1.out.trans (f2.mono f1.out.size)⟩; have b2 := Aa.mk (hC.out ▸ b1.out.Ad f2)
      have a3 : w2.cell? ⟨g1, 3, none⟩ = some (.int .i64 e.t1) := Bk.cell b2.out rfl
      have a4 : w2.cell? ⟨g1, 4, none⟩ = some (.int .u8 e.n1) := Bk.cell b2.out rfl)
   | (go_at_call 29; go_must (refine (BD _ e.t1 e.n1).mono ?_); rintro _ w3 ⟨rfl, f3⟩; have F3 : Aa (Below w.heap.size w w3) := ⟨F2.out.trans (f3.mono F2.out.size)⟩; have b3 := Aa.mk (b2.out.Ad f3); clear a3 a4 f3 f2
      have a1 : w3.cell? ⟨g1, 1, none⟩ = some (.int .i64 e.t0) := Bk.cell b3.out rfl
      have a2 : w3.cell? ⟨g1, 2, none⟩ = some (.int .u8 e.n0) := Bk.cell b3.out rfl
      have a3 : w3.cell? ⟨g1, 3, none⟩ = some (.int .i64 e.t1) := Bk.cell b3.out rfl
      have a4 : w3.cell? ⟨g1, 4, none⟩ = some (.int .u8 e.n1) := Bk.cell b3.out rfl)
   | (go_at_call 68; go_must (refine (D6 _ e.t1 e.n1 e.t0 e.n0).mono ?_); rintro _ w4 ⟨rfl, f4⟩; have F4 : Aa (Below w.heap.size w w4) := ⟨F3.out.trans (f4.mono F3.out.size)⟩; clear f4))
 all_goals go_returns
 · rename_i x1 x2
   obtain rfl : X = decide (0 < GU e.t1 e.n1 e.t0 e.n0) := by rw [hX.out, Ez, x1, x2, Rz]; rfl
   exact ⟨rfl, F4.out⟩
 all_goals
   rename_i x
   obtain rfl : X = false := by
     rw [hX.out, Ez]
     simp [x]
   exact ⟨rfl, by first | exact F3.out | exact F2.out⟩
end Go.Proofs.YtchfmgbjddopoaaGreatDoor.Hand
