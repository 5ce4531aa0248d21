import Derived.Maps.RangeRun
import Derived.Maps.Range
import Derived.RangeFuncSeq
import Derived.Test.YtchfmgbjddopoaaGreatDoorM12
import Derived.Test.YtchfmgbjddopoaaGreatDoorM17
set_option linter.unusedVariables false
set_option linter.unusedSimpArgs false
set_option maxHeartbeats 6400000
set_option maxRecDepth 100000
namespace Go.Proofs.YtchfmgbjddopoaaGreatDoor.Hand
open Go.RowKit Go.Proofs.YtchfmgbjddopoaaGreatDoorW.PrintWords Go.Proofs.YtchfmgbjddopoaaGreatDoorW.PrintLast Go.Proofs.YtchfmgbjddopoaaGreatDoorW.PrintMore
open Plain (Ky Wr Rc Ver Ent St Bytes Chs chainOf CW ltS Nw FT)
theorem RV (F : Nat → Prop) (W : World) (sp mc : Nat) (cs : Chs) (cb : CB) (x : Wr) (t n : Int) (h : AA F W sp mc cs cb) (hF : ∀ k, F k → k < W.heap.size) (hver : Nw (FT x t n)) (hlen : (chainOf x.key cs).length < 50) (hlt : ∀ y ∈ chainOf x.key cs, ltS y.t y.n t n) (hcs : Plain.Uniq cs) :
   Calls Tryz.prog 92 #[.pointer (some ⟨sp, 0, none⟩), .agg (AZ x.key).toArray] W fun e w1 => ∃ c, e = .returned (.pointer (some ⟨c, 0, none⟩)) ∧ Below W.heap.size W w1 ∧
     ∀ w2, Below w1.heap.size w1 w2 → Calls Tryz.prog 95 #[.pointer (some ⟨c, 0, none⟩), .agg (En (FT x t n)).toArray] w2 fun e w3 => e = .returned (.int .i64 0) ∧ ∃ v', Fr F W w3 ∧ (∀ k C ty, Bk W k C ty → ty ≠ 213 → ty ≠ 116 → Bk w3 k C ty) ∧ Bk w3 sp #[.map (some mc)] 158 ∧ DD w3 mc Dq (BA cs cb) ∧
       ∀ w4 o, Below w3.heap.size w3 w4 → DD (Cc w4 mc o) mc Dq (CW x.key (.pointer (some ⟨c, 0, none⟩)) (BA cs cb)) → AA (fun j => F j ∨ W.heap.size ≤ j ∧ j < w3.heap.size) (Cc w4 mc o) sp mc (CW x.key (chainOf x.key cs ++ [FT x t n]) cs) (fun j => if j = x.key then (c, v') else cb j) := by
 cases hk : Plain.look x.key cs with
 | none =>
   have e0 : chainOf x.key cs = [] := by unfold chainOf; rw [hk]; rfl
   have hkn := Plain.BF.1 hk
   rw [e0]
   refine (Dy W h hk).mono ?_
   rintro e w1 ⟨c, rfl, hc, hb, f1⟩
   refine ⟨c, rfl, f1, fun w2 f2 => (EE w2 c (.slice none 0 0) [] (FT x t n) ⟨Ob.Ad hb f2, World.ownsRow_nil _ _ _ _⟩ hver (by simp) (by simp)).mono ?_⟩
   rintro e w3 ⟨rfl, v', hch, f3, hno⟩
   have hTc : Fr (fun j => j = c) w2 w3 := f3.weaken fun k _ hk => hk.elim id fun hk => by cases hk
   have hT : Fr (fun j => j = c) W w3 := ((Fr.of_below f1).trans (Fr.of_below f2)).trans hTc
   have hs2 : W.heap.size ≤ w2.heap.size := Nat.le_trans f1.size f2.size
   have hB : Below W.heap.size W w3 := hT.below (fun k hk e => by omega) (Nat.le_refl _)
   have hvb : ∀ j, v'.ownBlock = some j → W.heap.size ≤ j ∧ j < w3.heap.size := fun j hj => by
     rcases hno j hj with e | e
     · cases e
     · exact ⟨by omega, (hch.v.lt j hj).2⟩
   refine ⟨rfl, v', Fr.of_below hB, fun k C ty hk _ _ => Ob.Ad hk hB, Ob.Ad h.s hB, h.m.below hB, fun w4 o f4 hu => ?_⟩
   refine AA.put (T := fun j => j = c) h (fun k hk => .inl hk) (hT.trans (Fr.of_below f4)) (by simp) (hch.below f4) (fun e => by have := hF _ h.fs; omega) (fun e => by have := hF _ h.fm; omega) hu (fun q hq hne => ?_) (.inr ⟨hc, Ob.lt hch.c⟩) (fun j hj => .inr (hvb j hj)) hcs
   have h1 := hF _ (h.fc q hq).1
   have h2 := (h.fc q hq).2
   exact ⟨by omega, fun j hj e => by have := hF _ (h2 j e); omega, by omega, fun j hj e => by have := hF _ (h2 j hj); have := (hvb j e).1; omega⟩
 | some vs =>
   have e0 : chainOf x.key cs = vs := by unfold chainOf; rw [hk]; rfl
   have hm := Plain.Bv hk
   rw [e0] at hlen hlt ⊢
   refine (Dn W h hk).mono ?_
   rintro e w1 ⟨rfl, f1⟩
   have hc0 := h.c _ hm
   simp only at hc0
   refine ⟨(cb x.key).1, rfl, f1, fun w2 f2 => (EE w2 _ _ vs (FT x t n) ((hc0.below f1).below f2) hver hlen hlt).mono ?_⟩
   rintro e w3 ⟨rfl, v', hch, f3, hno⟩
   have hs2 : W.heap.size ≤ w2.heap.size := Nat.le_trans f1.size f2.size
   have hT : Fr (fun j => j = (cb x.key).1 ∨ (cb x.key).2.ownBlock = some j) W w3 := ((Fr.of_below f1).trans (Fr.of_below f2)).trans f3
   have hfc := h.fc _ hm
   simp only at hfc
   have hTs : ¬ (sp = (cb x.key).1 ∨ (cb x.key).2.ownBlock = some sp) := by
     rintro (e | e)
     · exact Dh h.s hc0.c (by decide) e
     · exact AC hc0.v h.s (by decide) e
   have hTm : ¬ (mc = (cb x.key).1 ∨ (cb x.key).2.ownBlock = some mc) := by
     rintro (e | e)
     · exact h.m.ne hc0.c e.symm
     · exact Ec hc0.v h.m e
   have hvb : ∀ j, v'.ownBlock = some j → (cb x.key).2.ownBlock = some j ∨ (W.heap.size ≤ j ∧ j < w3.heap.size) := fun j hj => by
     rcases hno j hj with e | e
     · exact .inl e
     · exact .inr ⟨by omega, (hch.v.lt j hj).2⟩
   refine ⟨rfl, v', hT.weaken fun k _ e => e.elim (fun e => e ▸ hfc.1) fun e => hfc.2 k e, fun k C ty hk h1 h2 => Ob.fr hk hT (fun e => e.elim (fun e => Dh hk hc0.c h1 e) fun e => AC hc0.v hk (fun e => h2 e.symm) e), Ob.fr h.s hT hTs, h.m.fr hT hTm, fun w4 o f4 hu => ?_⟩
   refine AA.put (T := fun j => j = (cb x.key).1 ∨ (cb x.key).2.ownBlock = some j) h (fun k hk => .inl hk) (hT.trans (Fr.of_below f4)) (by simp) (hch.below f4) hTs hTm hu (fun q hq hne => ?_) (.inl hfc.1) (fun j hj => (hvb j hj).elim (fun e => .inl (hfc.2 j e)) .inr) hcs
   have h1 := hF _ (h.fc q hq).1
   have h2 := (h.fc q hq).2
   have hcq := h.c q hq
   have hd := h.d q hq _ hm hne
   simp only at hd
   refine ⟨?_, ?_, hd.1, ?_⟩
   · rintro (e | e)
     · exact hd.1 e
     · exact AC hc0.v hcq.c (by decide) e
   · rintro j (e | e) hj
     · exact AC hcq.v hc0.c (by decide) (e ▸ hj)
     · exact hd.2 j hj e
   · intro j hj e
     rcases hvb j e with e | e
     · exact hd.2 j hj e
     · have := hF _ (h2 j hj); omega
end Go.Proofs.YtchfmgbjddopoaaGreatDoor.Hand
namespace Go.Proofs.YtchfmgbjddopoaaGreatDoor.Hand
open Go.RowKit Go.Proofs.YtchfmgbjddopoaaGreatDoorW.PrintWords Go.Proofs.YtchfmgbjddopoaaGreatDoorW.PrintLast Go.Proofs.YtchfmgbjddopoaaGreatDoorW.PrintMore
attribute [local go_sem ↓] Go.wp_at_zero Go.wp_at_succ
open Plain (Ky Wr Rc Ver Ent St Bytes Chs chainOf CW ltS Nw FT Ea CX DF Ce)
theorem UN {F : Nat → Prop} {sp mc : Nat} {cs : Chs} {cb : CB} (k : Ky) (t n : Int) (w : World) (h : AA F w sp mc cs cb) (hn : ∀ p ∈ cs, p.2.length ≤ 1000) (hlt : ∀ y ∈ chainOf k cs, ltS y.t y.n t n) : Calls Tryz.prog 92 #[.pointer (some ⟨sp, 0, none⟩), .agg (AZ k).toArray] w fun e w' => ∃ c, e = .returned (.pointer (some ⟨c, 0, none⟩)) ∧ Below w.heap.size w w' ∧ Calls Tryz.prog 127 #[.pointer (some ⟨c, 0, none⟩), .agg (BX t n)] w' fun e w2 => e = .returned (.bool false) ∧ Below w'.heap.size w' w2 := by
 cases hk : Plain.look k cs with
 | none =>
   refine (Dy w h hk).mono ?_
   rintro e w' ⟨c, rfl, _, hc, hB⟩
   exact ⟨c, rfl, hB, N7 w' c _ [] t n ⟨hc, World.ownsRow_nil _ _ _ _⟩ (by simp) (by simp)⟩
 | some vs =>
   have e0 : chainOf k cs = vs := by unfold chainOf; rw [hk]; rfl
   have hm := Plain.Bv hk
   rw [e0] at hlt
   refine (Dn w h hk).mono ?_
   rintro e w' ⟨rfl, hB⟩
   exact ⟨_, rfl, hB, N7 w' _ _ vs t n ((h.below hB).c _ hm) (hn _ hm) hlt⟩
theorem WG (t n : Int) (v : ByteArray) (g : Bool) : Tryz.prog.built 116 [(0, .agg #[.int .i64 t, .int .u8 n]), (1, .string v), (2, .bool g)] = some #[.int .i64 t, .int .u8 n, .string v, .bool g] := by kernel_rfl
theorem PN (F : Nat → Prop) (w : World) (sp mc : Nat) (cs : Chs) (cb : CB) (t n : Int) (A : Option Addr) (N c : Nat) (ws : List Wr) (h : AA F w sp mc cs cb) (hw : Eo w (.slice A N c) ws) (ht : Ce t = true) (hn : 0 ≤ n ∧ n < 256) (hN : 1 ≤ ws.length ∧ ws.length ≤ 16) (hg : DF [] ws = true)
   (hold : ∀ x ∈ ws, ∀ v ∈ chainOf x.key cs, ltS v.t v.n t n) (hF : ∀ k, F k → k < w.heap.size) (hwF : ∀ k, (Value.slice A N c).ownBlock = some k → ¬ F k) (hcs : Plain.Uniq cs) (hok : ∀ p ∈ cs, Plain.Vt p.2) (hcl : cs.length ≤ 100000) :
   Calls Tryz.prog 87 #[.pointer (some ⟨sp, 0, none⟩), .agg (BX t n), .slice A N c] w fun x w' => x = .returned (.int .i64 (if Ea cs ws then 0 else 6)) ∧ (∃ cb', AA (fun k => F k ∨ w.heap.size ≤ k ∧ k < w'.heap.size) w' sp mc (if Ea cs ws then CX cs t n ws else cs) cb') ∧ Fr F w w' := by
 have hnn : N = ws.length := by
   obtain ⟨A', c', e'⟩ := hw.slice
   injection e'
 have hGd : Aa (∀ W, Calls Tryz.prog 29 #[.agg #[.int .i64 t, .int .u8 n]] W fun e w' => e = .returned (.bool true) ∧ Below W.heap.size W w') := ⟨fun W => by have := BD W t n; rwa [ht] at this⟩
 have hMn : Aa (∀ W, Calls Tryz.prog 115 #[.slice A N c] W fun e w' => e = .returned (.bool true) ∧ w' = W) := ⟨fun W => by
   have := Ro W A N c
   rw [decide_eq_true (show 1 ≤ N by omega), decide_eq_true (show N ≤ 16 by omega)] at this
   exact this⟩
 have hGw : Aa (∀ W, Eo W (.slice A N c) ws → Calls Tryz.prog 81 #[.slice A N c] W fun e w' => e = .returned (.bool true) ∧ Below W.heap.size W w') := ⟨fun W hW => by
   have := Py W _ ws hW (by omega)
   rwa [hg] at this⟩
 have hRm : Aa (∀ W, AA F W sp mc cs cb → Eo W (.slice A N c) ws → Calls Tryz.prog 128 #[.pointer (some ⟨sp, 0, none⟩), .slice A N c] W fun x w' => x = .returned (.bool (Ea cs ws)) ∧ Below W.heap.size W w') := ⟨fun W hW hR => JO F W sp mc cs cb A N c ws hW hR hN.2 hcl⟩
 have hHs : Aa (∀ x ∈ ws, ∀ W, AA F W sp mc cs cb → Calls Tryz.prog 92 #[.pointer (some ⟨sp, 0, none⟩), .agg (AZ x.key).toArray] W fun e w' => ∃ c, e = .returned (.pointer (some ⟨c, 0, none⟩)) ∧ Below W.heap.size W w' ∧ Calls Tryz.prog 127 #[.pointer (some ⟨c, 0, none⟩), .agg #[.int .i64 t, .int .u8 n]] w' fun e w2 => e = .returned (.bool false) ∧ Below w'.heap.size w' w2) := ⟨fun x hx W hW => UN x.key t n W hW (fun p hp => by have := (hok p hp).few; omega) (hold x hx)⟩
 have hgw := Plain.EQ hg
 replace h := Aa.mk h
 replace hw := Aa.mk hw
 replace hF := Aa.mk hF
 replace hwF := Aa.mk hwF
 replace hcs := Aa.mk hcs
 replace hok := Aa.mk hok
 replace hold := Aa.mk hold
 replace hgw := Aa.mk hgw
 replace hN := Aa.mk hN
 replace hnn := Aa.mk hnn
 replace hn := Aa.mk hn
 replace ht := Aa.mk ht
 clear hg hcl
 obtain ⟨room, hroom⟩ : ∃ room, room = Ea cs ws := ⟨_, rfl⟩
 rw [← hroom] at hRm ⊢
 replace hroom := Aa.mk hroom
 show Calls Tryz.prog 87 #[.pointer (some ⟨sp, 0, none⟩), .agg #[.int .i64 t, .int .u8 n], .slice A N c] w _
 go_enter Tryz.func87, Tryz.ntmps87
 go_wp2_with (first
   | ((with_reducible refine Ac (N := 4) rfl ?_); refine Aj (N := 4) (C := #[.int .i64 t, .int .u8 n]) rfl rfl (by first | (go_simp; done) | (go_simp; rfl)) ?_; intro g4 w1 h4 b41 f1; have W1 := Aa.mk (hw.out.below f1.out); have c0 := Bk.cell b41.out (j := 0) rfl; have c1 := Bk.cell b41.out (j := 1) rfl)
   | (go_at_call 29; refine (hGd.out _).mono ?_; rintro e w2 ⟨rfl, f2⟩; have F2 : Aa (Below w.heap.size w w2) := ⟨f1.out.trans (f2.mono f1.out.size)⟩; have b42 := Aa.mk (Ob.Ad b41.out f2); have W2 := Aa.mk (W1.out.below f2); clear f2 c0 c1)
   | (go_at_call 115; refine (hMn.out _).mono ?_; rintro e w3 ⟨rfl, hw3⟩; replace hw3 := hw3.symm; subst hw3)
   | (go_at_call 81; refine (hGw.out _ W2.out).mono ?_; rintro e w4 ⟨rfl, f4⟩; have F4 : Aa (Below w.heap.size w w4) := ⟨F2.out.trans (f4.mono F2.out.size)⟩; have b44 := Aa.mk (Ob.Ad b42.out f4); clear f4))
 go_loopw [27] (fun p w' => ∃ j : Nat, j ≤ N ∧ p = .int .i64 j ∧ Aa (Below w.heap.size w w') ∧ Aa (Bk w' g4 #[.int .i64 t, .int .u8 n] 32)) (fun p _ => N - (intOf p).toNat)
 case atStart => exact ⟨0, Nat.zero_le _, rfl, F4, b44⟩
 case round =>
   obtain ⟨j, hj, rfl, HB, H4⟩ := hrel
   by_cases hlt : j < N
   case pos =>
     obtain ⟨b, o, hA, hbn, hc, hbs, hr⟩ := (hw.out.below HB.out).at_ (by rw [← hnn.out]; omega)
     have hjw : j < ws.length := by rw [← hnn.out]; exact hlt
     replace hr := hr j hjw
     have hxm : ws[j]! ∈ ws := by rw [getElem!_pos ws j hjw]; exact List.getElem_mem hjw
     generalize ws[j]! = x at hr hxm
     have hO := Aa.mk (hHs.out x hxm)
     subst hA
     clear hbn hjw hxm
     replace hr := Aa.mk hr
     replace hbs := Aa.mk hbs
     have d1 : decide ((j : Int) < (N : Int)) = true := by simp; omega
     have d2 : decide (j < N) = true := by simp; omega
     have hjb : j < 1000000 := by have := hN.out; have := hnn.out; omega
     go_upto_region 6 with (first
       | ((with_reducible refine Ac (N := 30) rfl ?_); (refine BM (N := 30) rfl rfl rfl rfl Tryz.underlying105 rfl (by rw [Bg]; exact Bl) hr.out ?_))
       | ((with_reducible refine Ac (N := 8) rfl ?_); refine Aj (N := 8) (C := Z18) rfl rfl (by first | (go_simp; done) | (go_simp; rfl)) ?_; intro g8 w7 h8 b8 f7)
       | ((with_reducible refine Af (t := 105) (p := 8) (v := .tmp 30) rfl ?_); (refine Ak rfl (ty := 105) (x := .tmp 8) (y := .tmp 30) (cells := (wrC x).toArray) rfl rfl rfl b8.out (by rw [AY]; exact Bl) (Eb x) (by rw [AY]; exact Nat.le_refl 18) (wrC x).toArray (Aq (AY x)) ?_); intro w8 b88 f8))
     have F8 : Aa (Below w.heap.size w w8) := ⟨(Fr.trans (T := fun k => k = g8) ((Fr.of_below HB.out).trans (Fr.of_below f7.out)) f8.out).below (fun k hk e => by have := h8.out; have := HB.out.size; omega) (Nat.le_refl _)⟩
     have b48 := Aa.mk (Ob.fr (Ob.Ad H4.out f7.out) f8.out fun q => by have := H4.out.lt; have := h8.out; omega)
     have hS : ∀ W, Below w8.heap.size w8 W → W.rangeAt g8 0 (AZ x.key) ∧ W.cell? ⟨g4, 0, none⟩ = some (.int .i64 t) ∧ W.cell? ⟨g4, 1, none⟩ = some (.int .u8 n) := fun W f => ⟨Bk.range (Ob.Ad b88.out f) 0 16 (BV x), Bk.cell (Ob.Ad b48.out f) rfl, Bk.cell (Ob.Ad b48.out f) rfl⟩
     replace hS := Aa.mk hS
     have u79 := Tryz.underlying103
     have i79 : (Tryz.prog.info? 103).map (·.size) = some (AZ x.key).length := by rw [Ai]; exact AB
     refine wp_region_noPanic ?_
     go_region_held_law (fun w' => w'.rangeAt g8 0 (AZ x.key) ∧ w'.cell? ⟨g4, 0, none⟩ = some (.int .i64 t) ∧ w'.cell? ⟨g4, 1, none⟩ = some (.int .u8 n))
       ((first | exact hS.out _ (Ag (Below.refl _ _)) | exact hS.out _ (Aa.out G11) | exact hS.out _ (Aa.out G10)))
       ((first
         | (go_at_call 127; refine (Aa.out hp).mono ?_; rintro e w11 ⟨rfl, f11⟩; have G11 := Aa.mk ((Aa.out G10).trans (f11.mono (Aa.out G10).size)); clear f11)
         | (go_at_call 92; refine (hO.out _ (h.out.below (F8.out.trans (Ag (Below.refl _ _))))).mono ?_; rintro e w10 ⟨c10, rfl, f10, hp⟩; have G10 := Aa.mk ((Ag (Below.refl w8.heap.size w8)).trans f10); replace hp := Aa.mk hp; clear f10)))
     refine NoPanic.normal ?_
     go_split_ands
     go_wp2_with fail
     refine ⟨⟨j + 1, by omega, by rw [Int.natCast_add]; rfl, ⟨F8.out.trans (G11.out.mono F8.out.size)⟩, ⟨Ob.Ad b48.out G11.out⟩⟩, ?_⟩
     simp only [intOf]
     omega
   have d1 : decide ((j : Int) < (N : Int)) = false := by simp; omega
   have d2 : decide (j < N) = false := by simp; omega
   clear hj hlt
   have h0 := h
   cases hrm : room
   all_goals
     rw [hrm] at hRm
   case false =>
     go_wp2_with (first
       | (go_at_call 128; refine (hRm.out _ (h0.out.below HB.out) (hw.out.below HB.out)).mono ?_; rintro e w9 ⟨rfl, f9⟩; have F9 : Aa (Below w.heap.size w w9) := ⟨HB.out.trans (f9.mono HB.out.size)⟩; clear f9))
     all_goals try (exact absurd (by assumption : room = true) (by rw [hrm]; decide))
     go_returns
     exact ⟨rfl, ⟨cb, (h0.out.below F9.out).mono fun k hk => .inl hk⟩, Fr.of_below F9.out⟩
   case true =>
     go_wp2_with (first
       | (go_at_call 128; refine (hRm.out _ (h0.out.below HB.out) (hw.out.below HB.out)).mono ?_; rintro e w9 ⟨rfl, f9⟩; have F9 : Aa (Below w.heap.size w w9) := ⟨HB.out.trans (f9.mono HB.out.size)⟩; have b49 := Aa.mk (Ob.Ad H4.out f9); clear f9))
     have hshort : ∀ x ∈ ws, (chainOf x.key cs).length < 50 := by
       have h1 := hroom.out
       rw [hrm, Ea] at h1
       exact Plain.Fz (Bool.and_eq_true _ _ ▸ h1.symm).1
     replace hshort := Aa.mk hshort
     have S9 : Aa (AA (fun k => F k ∨ w.heap.size ≤ k ∧ k < w9.heap.size) w9 sp mc cs cb) := ⟨(h0.out.below F9.out).mono fun k hk => .inl hk⟩
     have Z9 : Aa (Fr F w w9) := ⟨Fr.of_below F9.out⟩
     have R9 := Aa.mk (hw.out.below F9.out)
     go_loopw [44] (fun p w' => ∃ j : Nat, j ≤ N ∧ p = .int .i64 j ∧ ∃ cb', Aa (AA (fun k => F k ∨ w.heap.size ≤ k ∧ k < w'.heap.size) w' sp mc (CX cs t n (ws.take j)) cb') ∧ Aa (Eo w' (.slice A N c) ws) ∧ Aa (Bk w' g4 #[.int .i64 t, .int .u8 n] 32) ∧ Aa (Fr F w w')) (fun p _ => N - (intOf p).toNat)
     case atStart => exact ⟨0, Nat.zero_le _, rfl, cb, S9, R9, b49, Z9⟩
     case round =>
       clear S9 Z9 R9 b49
       obtain ⟨j, hj, rfl, cb', HS, HW, HB4, HF⟩ := hrel
       by_cases hlt : j < N
       case neg =>
         have hjn : ws.take j = ws := List.take_of_length_le (by rw [← hnn.out]; omega)
         rw [hjn] at HS
         have d1 : decide ((j : Int) < (N : Int)) = false := by simp; omega
         have d2 : decide (j < N) = false := by simp; omega
         clear hjn hj
         go_wp2_with fail
         go_returns
         exact ⟨rfl, ⟨cb', HS.out⟩, HF.out⟩
       obtain ⟨b, o, hA, hbn, hc, hbs, hr⟩ := HW.out.at_ (by rw [← hnn.out]; omega)
       have hjw : j < ws.length := by rw [← hnn.out]; exact hlt
       replace hr := hr j hjw
       have hxm : ws[j]! ∈ ws := by rw [getElem!_pos ws j hjw]; exact List.getElem_mem hjw
       have htk : ws.take (j + 1) = ws.take j ++ [ws[j]!] := by
         rw [List.take_succ_eq_append_getElem hjw, getElem!_pos ws j hjw]
       have hnd : ∀ y ∈ ws.take j, y.key ≠ (ws[j]!).key := fun y hy e => by
         have h1 := hgw.out.2
         have h2 : (ws.take (j + 1)).map (·.key) = (ws.take j).map (·.key) ++ [(ws[j]!).key] := by rw [htk, List.map_append]; rfl
         have h3 : ((ws.take (j + 1)).map (·.key)).Nodup := by
           rw [List.map_take]
           exact h1.sublist (List.take_sublist _ _)
         rw [h2] at h3
         exact (List.nodup_append.1 h3).2.2 _ (List.mem_map.2 ⟨y, hy, rfl⟩) _ (by simp) e
       generalize ws[j]! = x at hr htk hxm hnd
       have hch : chainOf x.key (CX cs t n (ws.take j)) = chainOf x.key cs := by
         unfold chainOf
         rw [Plain.apply_other hnd]
       have hap : CX cs t n (ws.take (j + 1)) = CW x.key (chainOf x.key (CX cs t n (ws.take j)) ++ [FT x t n]) (CX cs t n (ws.take j)) := by
         rw [htk, CX, List.foldl_append]
         rfl
       have hx := hgw.out.1 x hxm
       have hver : Nw (FT x t n) := ⟨ht.out, hn.out, hx.2.2.1, hx.2.2.2⟩
       have huq : Plain.Uniq (CX cs t n (ws.take j)) := (Plain.LZ ht.out hn.out (ws := ws.take j) (cs := cs) (by rw [List.map_take]; exact hgw.out.2.sublist (List.take_sublist _ _)) (fun y hy => (hgw.out.1 y (List.mem_of_mem_take hy)).2.2) (fun y hy => ⟨hshort.out y (List.mem_of_mem_take hy), hold.out y (List.mem_of_mem_take hy)⟩) ⟨hcs.out, hok.out⟩).1.1
       have hst : Aa (∀ W, AA (fun k => F k ∨ w.heap.size ≤ k ∧ k < W.heap.size) W sp mc (CX cs t n (ws.take j)) cb' → w.heap.size ≤ W.heap.size → _) := ⟨fun W hW hs => RV _ W sp mc _ cb' x t n hW (fun k hk => hk.elim (fun hk => Nat.lt_of_lt_of_le (hF.out k hk) hs) fun hk => hk.2) hver (by rw [hch]; exact hshort.out x hxm) (by rw [hch]; exact hold.out x hxm) huq⟩
       have hbw : Aa (b < w.heap.size ∧ ¬ F b) := ⟨by
         obtain ⟨b', o', hA', _, _, hb', _⟩ := hw.out.at_ (by rw [← hnn.out]; omega)
         rw [hA] at hA'
         cases hA'
         exact hb', hwF.out b (by rw [hA]; rfl)⟩
       subst hA
       clear hbn hjw hxm hnd hch huq hver hx
       replace hr := Aa.mk hr
       replace hbs := Aa.mk hbs
       replace hap := Aa.mk hap
       replace htk := Aa.mk htk
       have d1 : decide ((j : Int) < (N : Int)) = true := by simp; omega
       have d2 : decide (j < N) = true := by simp; omega
       have hjb : j < 1000000 := by have := hN.out; have := hnn.out; omega
       go_upto_region 16 with (first
         | ((with_reducible refine Ac (N := 47) rfl ?_); (refine BM (N := 47) rfl rfl rfl rfl Tryz.underlying105 rfl (by rw [Bg]; exact Bl) hr.out ?_))
         | ((with_reducible refine Ac (N := 10) rfl ?_); refine Aj (N := 10) (C := Z18) rfl rfl (by first | (go_simp; done) | (go_simp; rfl)) ?_; intro g8 w7 h8 b8 f7)
         | ((with_reducible refine Af (t := 105) (p := 10) (v := .tmp 47) rfl ?_); (refine Ak rfl (ty := 105) (x := .tmp 10) (y := .tmp 47) (cells := (wrC x).toArray) rfl rfl rfl b8.out (by rw [AY]; exact Bl) (Eb x) (by rw [AY]; exact Nat.le_refl 18) (wrC x).toArray (Aq (AY x)) ?_); intro w8 b88 f8
            have hsw : Aa (wr.heap.size ≤ w8.heap.size) := ⟨Nat.le_trans f7.out.size f8.out.size⟩
            have S8 : Aa (AA (fun k => F k ∨ w.heap.size ≤ k ∧ k < w8.heap.size) w8 sp mc (CX cs t n (ws.take j)) cb') := ⟨((HS.out.below f7.out).fr f8.out (fun k hk hg => by
              have := HF.out.size
              have := h8.out
              rcases hg with hg | hg
              · have := hF.out _ hg; omega
              · omega)).mono (fun k hk => hk.imp id fun hk => ⟨hk.1, by have := hsw.out; omega⟩)⟩
            have b48 := Aa.mk (Ob.fr (Ob.Ad HB4.out f7.out) f8.out fun q => by have := HB4.out.lt; have := h8.out; omega)
            have F8 : Aa (Fr F w w8) := ⟨HF.out.after ((Fr.of_below (T := fun k => k = g8) f7.out).trans f8.out) fun k hk => .inr (by have := HF.out.size; have := h8.out; omega)⟩
            have W8 := Aa.mk ((HW.out.below f7.out).fr f8.out fun q hq hk => by
              have e1 : b = q := Option.some.inj hk
              have := hbs.out
              have := h8.out
              omega))
         | ((with_reducible refine Ac (N := 50) rfl ?_); (refine Au (N := 50) rfl rfl rfl rfl b88.out Tryz.underlying103 rfl AB (AZ x.key) (BV x) (Ai x.key) ?_))
         | (go_at_call 92
            refine (hst.out _ S8.out F8.out.size).mono ?_
            rintro e w10 ⟨c10, rfl, f10, hp⟩
            have b810 := Aa.mk (Ob.Ad b88.out f10)
            have b410 := Aa.mk (Ob.Ad b48.out f10)
            have c0 := Bk.cell b410.out (j := 0) rfl
            have c1 := Bk.cell b410.out (j := 1) rfl
            have c16 := Bk.cell b810.out (JL x)
            have c17 := Bk.cell b810.out (Nu x)
            replace hp := Aa.mk hp
            replace f10 := Aa.mk f10)
         | ((with_reducible refine Ac (N := 58) rfl ?_); (refine LW (op := _) rfl rfl (cells := #[.int .i64 t, .int .u8 n, .string x.val, .bool x.gone]) (WG t n x.val x.gone) ?_))
         | (go_at_call 95
            refine (hp.out _ (Below.refl _ _)).mono ?_
            rintro e w11 ⟨rfl, v11, f11, k11, s11, m11, u11⟩
            have b811 := Aa.mk (k11 _ _ _ b88.out (by decide) (by decide))
            have b411 := Aa.mk (k11 _ _ _ b48.out (by decide) (by decide))
            replace f11 := Aa.mk f11
            replace s11 := Aa.mk s11
            replace m11 := Aa.mk m11
            replace u11 := Aa.mk u11
            clear k11 c0 c1 c16 c17))
       obtain ⟨o2, hup, HU2⟩ := (m11.out.below (Ag (Below.refl _ _))).update EK Tryz.underlying156 x.key (.pointer (some ⟨c10, 0, none⟩))
       simp only [Dq] at hup
       have hm8 : g8 ≠ mc := m11.out.ne b811.out
       have hS2 : ∀ W, Fr (fun k => k = mc) w11 W → (W.cell? ⟨sp, 0, none⟩ = some (.map (some mc)) ∧ W.rangeAt g8 0 (AZ x.key)) := fun W f => ⟨Bk.cell (Ob.fr s11.out f (m11.out.ne s11.out)) rfl, Bk.range (Ob.fr b811.out f hm8) 0 16 (BV x)⟩
       replace hS2 := Aa.mk hS2
       have u79 := Tryz.underlying103
       have i79 : (Tryz.prog.info? 103).map (·.size) = some (AZ x.key).length := by rw [Ai]; exact AB
       refine wp_region_noPanic ?_
       go_region_held_law (fun w' => (w'.cell? ⟨sp, 0, none⟩ = some (.map (some mc)) ∧ w'.rangeAt g8 0 (AZ x.key)))
         (exact hS2.out _ (by repeat (first | exact Fr.refl _ _ | refine Fr.drew ?_ | refine Fr.put ?_ _ _ (.inl rfl))))
         (fail)
       refine NoPanic.normal ?_
       go_split_ands
       have T9 := u11.out w11.drew o2 (Ag (Below.refl _ _)) HU2
       have P9 : Fr (fun k => k = mc) w11 (Cc w11.drew mc o2) := Fr.put ((Fr.refl _ w11).drew) mc o2 (.inl rfl)
       rw [← hap.out] at T9
       have hs8 : w8.heap.size ≤ w11.heap.size := f11.out.size
       have hs9 : w11.heap.size ≤ (Cc w11.drew mc o2).heap.size := P9.size
       have hs0 : w.heap.size ≤ w8.heap.size := F8.out.size
       have W9 : Eo (Cc w11.drew mc o2) (.slice (some ⟨b, o, none⟩) N c) ws := (W8.out.fr f11.out fun q hq hk => by
         have e1 : b = q := Option.some.inj hk
         rcases hq with hq | hq
         · exact hbw.out.2 (e1 ▸ hq)
         · have := hbw.out.1; omega).fr P9 fun q hq hk => by
         have e1 : b = q := Option.some.inj hk
         exact hbw.out.2 (by rw [e1, hq]; exact h0.out.fm)
       have b49 := Ob.fr b411.out P9 (m11.out.ne b411.out)
       have F9' : Fr F w (Cc w11.drew mc o2) := (F8.out.after f11.out fun k hk => hk.imp id fun hk => hk.1).trans (P9.weaken fun k _ e => e ▸ h0.out.fm)
       have T10 := T9.mono (G := fun k => F k ∨ w.heap.size ≤ k ∧ k < (Cc w11.drew mc o2).heap.size) fun k hk => by
         rcases hk with (hk | hk) | hk
         · exact .inl hk
         · exact .inr ⟨hk.1, by omega⟩
         · exact .inr ⟨by omega, by omega⟩
       clear T9 hup HU2 hs9 hs8 hs0 hm8 u79 i79
       generalize Cc w11.drew mc o2 = w12 at *
       go_wp2_with fail
       refine ⟨⟨j + 1, by omega, by rw [Int.natCast_add]; rfl, _, ⟨T10⟩, ⟨W9⟩, ⟨b49⟩, ⟨F9'⟩⟩, ?_⟩
       simp only [intOf]
       omega
end Go.Proofs.YtchfmgbjddopoaaGreatDoor.Hand
namespace Go.Proofs.YtchfmgbjddopoaaGreatDoor.Hand
open Go.RowKit Go.Proofs.YtchfmgbjddopoaaGreatDoorW.PrintWords Go.Proofs.YtchfmgbjddopoaaGreatDoorW.PrintLast Go.Proofs.YtchfmgbjddopoaaGreatDoorW.PrintMore
open Plain (Ky Wr Rc Ver Ent St Bytes CW FQ Uniq)
section
variable {K : Type} {kv : K → Value} {w W : World} {m r : Nat} {L pre : List (K × Value)}
def ItA (w : World) (m r : Nat) (kv : K → Value) (L pre : List (K × Value)) : Prop :=
 ∃ es c seen c0, Mp w m es c ∧ MapKept.Stamped es c ∧ es.toList.map (·.key) = L.map (fun p => kv p.1) ∧ es.toList.map (·.val) = L.map (·.2) ∧ Ob w r (.mapIter (some m) c seen c0) ∧ c ≤ c0 ∧
   ∃ prE : List MapEntry, prE.map (·.born) = seen.toList ∧ (∀ e ∈ prE, e ∈ es.toList) ∧ (prE.map (·.born)).Nodup ∧ prE.map (·.key) = pre.map (fun p => kv p.1) ∧ prE.map (·.val) = pre.map (·.2)
theorem ItA.mapA (h : ItA w m r kv L pre) : DD w m kv L := by
 obtain ⟨es, c, seen, c0, h1, h2, h3, h4, _⟩ := h
 exact ⟨es, c, h1, h2, h3, h4⟩
theorem ItA.walk (h : ItA w m r kv L pre) : ∃ o : Obj, w.heap[r]? = some o ∧ o.isWalk = true := by
 obtain ⟨es, c, seen, c0, h1, h2, h3, h4, h5, _⟩ := h
 exact ⟨_, h5, rfl⟩
theorem ItA.lt (h : ItA w m r kv L pre) : r < w.heap.size := by
 obtain ⟨o, h, _⟩ := h.walk
 exact Ob.lt h
theorem ItA.ne (h : ItA w m r kv L pre) : r ≠ m := by
 obtain ⟨es, c, seen, c0, h1, h2, h3, h4, h5, _⟩ := h
 rintro rfl
 have := Option.some.inj (h1.symm.trans h5)
 cases this
theorem ItA.keeps {w' : World} (h : ItA w m r kv L pre) (k : KeepsWalks w w') : ItA w' m r kv L pre := by
 obtain ⟨es, c, seen, c0, h1, h2, h3, h4, h5, h6⟩ := h
 exact ⟨es, c, seen, c0, k.same _ _ h1 rfl, h2, h3, h4, k.same _ _ h5 rfl, h6⟩
theorem ItA.fr {T : Nat → Prop} {w' : World} (h : ItA w m r kv L pre) (f : Fr T w w') (hm : ¬ T m) (hr : ¬ T r) : ItA w' m r kv L pre := by
 obtain ⟨es, c, seen, c0, h1, h2, h3, h4, h5, h6⟩ := h
 exact ⟨es, c, seen, c0, Ob.fr h1 f hm, h2, h3, h4, Ob.fr h5 f hr, h6⟩
theorem ItA.below {w' : World} (h : ItA w m r kv L pre) (f : Below w.heap.size w w') : ItA w' m r kv L pre := h.fr (T := fun _ => False) (Fr.of_below f) (fun h => h) (fun h => h)
theorem DD.range {t T E : TypeId} (h : DD w m kv L) (hu : Tryz.prog.underlying T = some (.map t E)) :
   ∃ w', (Instr.range T (.map (some m))).run Tryz.prog w = .ok (.pointer (some ⟨w.heap.size, 0, none⟩)) w' ∧ ItA w' m w.heap.size kv L [] ∧ Below w.heap.size w w' ∧ w.grownBy w' none := by
 obtain ⟨es, c, h1, h2, h3, h4⟩ := h
 refine ⟨_, run_range_map w T t E m es c hu h1, ⟨es, c, #[], c, Ob.alloc h1 _, h2, h3, h4, Ob.new w _, Nat.le_refl _, [], rfl, by simp, List.nodup_nil, rfl, rfl⟩, Ah (Below.refl _ _) _, World.grownBy_alloc w _ none⟩
theorem LD {α : Type} (f : α → Value) (g : α → Value) : ∀ {l : List α} {p : List (K × Value)}, l.map f = p.map (fun q => kv q.1) → l.map g = p.map (·.2) → l.map (fun e => (f e, g e)) = p.map fun q => (kv q.1, q.2)
 | [], [], _, _ => rfl
 | [], _ :: _, h, _ => by simp at h
 | _ :: _, [], h, _ => by simp at h
 | a :: l, q :: p, h1, h2 => by
   simp only [List.map_cons, List.cons.injEq] at h1 h2 ⊢
   exact ⟨by rw [h1.1, h2.1], LD f g h1.2 h2.2⟩
theorem VR (hinj : ∀ {a b : K}, kv a = kv b → a = b) (hL : Uniq L) {es prE : List MapEntry} (hp : prE.Perm es) (h1 : es.map (·.key) = L.map (fun p => kv p.1)) (h2 : es.map (·.val) = L.map (·.2))
   (h3 : prE.map (·.key) = pre.map (fun p => kv p.1)) (h4 : prE.map (·.val) = pre.map (·.2)) : pre.Perm L := by
 have a := LD _ _ h1 h2
 have b := LD _ _ h3 h4
 have hpm : (pre.map fun q => (kv q.1, q.2)).Perm (L.map fun q => (kv q.1, q.2)) := by rw [← a, ← b]; exact hp.map _
 have inj : ∀ {x y : K × Value}, (kv x.1, x.2) = (kv y.1, y.2) → x = y := fun {x y} e => by
   injection e with e1 e2
   exact Prod.ext (hinj e1) e2
 have hLn : L.Nodup := by
   unfold Uniq at hL
   exact (List.pairwise_map.1 hL).imp fun h e => h (congrArg _ e)
 have hLm : (L.map fun q => (kv q.1, q.2)).Nodup := List.pairwise_map.2 (hLn.imp fun h e => h (inj e))
 have hpn : pre.Nodup := (List.pairwise_map.1 (hpm.nodup_iff.2 hLm)).imp fun h e => h (by rw [e])
 refine (List.perm_ext_iff_of_nodup hpn hLn).2 fun x => ⟨fun hx => ?_, fun hx => ?_⟩
 · obtain ⟨y, hy, e⟩ := List.mem_map.1 (hpm.mem_iff.1 (List.mem_map.2 ⟨x, hx, rfl⟩))
   rw [← inj e]; exact hy
 · obtain ⟨y, hy, e⟩ := List.mem_map.1 (hpm.mem_iff.2 (List.mem_map.2 ⟨x, hx, rfl⟩))
   rw [← inj e]; exact hy
theorem NS : ∀ (a b : List Nat), a.Nodup → (∀ y ∈ a, y ∈ b) → a.length ≤ b.length
 | [], _, _, _ => Nat.zero_le _
 | y :: a, b, hd, hs => by
   rw [List.nodup_cons] at hd
   have hy := hs y (by simp)
   have h := NS a (b.erase y) hd.2 (fun z hz => (List.mem_erase_of_ne (fun e => hd.1 (by rw [← e]; exact hz))).2 (hs z (by simp [hz])))
   rw [List.length_erase_of_mem hy] at h
   have := List.length_pos_of_mem hy
   rw [List.length_cons]
   omega
theorem XN {es prE : List MapEntry} (hd : (prE.map (·.born)).Nodup) (hs : ∀ e ∈ prE, e ∈ es) {x : MapEntry} (hx : x ∈ es) (hn : x.born ∉ prE.map (·.born)) : prE.length < es.length := by
 have := NS (x.born :: prE.map (·.born)) (es.map (·.born)) (List.nodup_cons.2 ⟨hn, hd⟩) (fun y hy => by
   rcases List.mem_cons.1 hy with rfl | hy
   · exact List.mem_map.2 ⟨x, hx, rfl⟩
   · obtain ⟨e, he, rfl⟩ := List.mem_map.1 hy
     exact List.mem_map.2 ⟨e, hs e he, rfl⟩)
 simp only [List.length_cons, List.length_map] at this
 omega
theorem ItA.uniq (h : ItA w m r kv L pre) : Uniq pre := by
 obtain ⟨es, c, seen, c0, h1, h2, h3, h4, h5, h6, prE, p1, p2, p3, p4, p5⟩ := h
 have hst := (MapKept.stamped_iff es c).1 h2
 have hk : (prE.map (·.key)).Nodup := List.pairwise_map.2 ((List.pairwise_map.1 p3).imp_of_mem fun {a b} ha hb hne e => hne (congrArg MapEntry.born (entry_eq_of_key hst.2.2 (p2 _ ha) (p2 _ hb) e)))
 rw [p4] at hk
 exact List.pairwise_map.2 ((List.pairwise_map.1 hk).imp fun h e => h (congrArg kv e))
def NF (w : World) (r : Nat) : Nat :=
 match w.heap[r]? with
 | some (.mapIter _ _ seen _) => seen.size
 | _ => 0
theorem ItA.seen (h : ItA w m r kv L pre) : NF w r = pre.length := by
 obtain ⟨es, c, seen, c0, h1, h2, h3, h4, h5, h6, prE, p1, p2, p3, p4, p5⟩ := h
 unfold NF
 rw [show w.heap[r]? = _ from h5]
 have a := congrArg List.length p1
 have b := congrArg List.length p4
 simp only [List.length_map, Array.length_toList] at a b
 show seen.size = _
 omega
theorem ItA.next (hinj : ∀ {a b : K}, kv a = kv b → a = b) (h : ItA W m r kv L pre) :
   ((∀ ty, (Instr.next (.pointer (some ⟨r, 0, none⟩)) false ty).run Tryz.prog W = .ok (.tuple #[.bool false]) W) ∧ pre.Perm L) ∨
   ∃ p W', (∀ ty, (Instr.next (.pointer (some ⟨r, 0, none⟩)) false ty).run Tryz.prog W = .ok (.tuple #[.bool true, kv p.1, p.2]) W') ∧ p ∈ L ∧ ItA W' m r kv L (pre ++ [p]) ∧ Fr (fun k => k = r) W W' ∧ W.grownBy W' (some r) ∧ pre.length < L.length ∧
     (Instr.entry (.pointer (some ⟨r, 0, none⟩))).run Tryz.prog W' = .ok (.tuple #[kv p.1, p.2]) W' := by
 have hne := h.ne
 have hu := h.mapA.uniq
 obtain ⟨es, c, seen, c0, h1, h2, h3, h4, h5, h6, prE, p1, p2, p3, p4, p5⟩ := h
 have hst := (MapKept.stamped_iff es c).1 h2
 rcases run_next_at (P := Tryz.prog) W 0 r m c c0 seen es c h5 h1 hst.1 h6 with ⟨h0, hrun⟩ | ⟨e, he, w1, hal, hrun⟩
 · left
   refine ⟨fun _ => hrun, VR hinj hu ?_ h3 h4 p4 p5⟩
   have hd1 : prE.Nodup := (List.pairwise_map.1 p3).imp fun h e => h (congrArg _ e)
   have hd2 : es.toList.Nodup := (List.pairwise_map.1 hst.2.1).imp fun h e => h (congrArg _ e)
   refine (List.perm_ext_iff_of_nodup hd1 hd2).2 fun x => ⟨fun hx => p2 x hx, fun hx => ?_⟩
   have hs := all_seen es seen h0 x hx
   have : x.born ∈ seen.toList := by simpa using hs
   rw [← p1] at this
   obtain ⟨y, hy, ey⟩ := List.mem_map.1 this
   rw [← born_inj hst.2.1 (p2 y hy) hx ey]
   exact hy
 · right
   have he2 : e ∈ es.toList ∧ e.born ∉ seen.toList := by
     unfold leftOf at he
     simpa using he
   obtain ⟨j, hj⟩ := List.getElem?_of_mem he2.1
   obtain ⟨p, hp, e1, e2⟩ := Lh h3 h4 hj
   have hpl : p ∈ L := List.mem_of_getElem? hp
   have hfew : pre.length < L.length := by
     have := XN p3 p2 he2.1 (by rw [p1]; exact he2.2)
     have a := congrArg List.length h3
     have b := congrArg List.length p4
     simp only [List.length_map] at a b
     omega
   rw [e1, e2] at hrun
   have f1 : Fr (fun k => k = r) W w1 := by
     rcases hal with rfl | rfl
     · exact Fr.refl _ _
     · exact (Fr.refl _ _).drew
   have hr1 : Ob w1 r (.mapIter (some m) c seen c0) := by rcases hal with rfl | rfl <;> exact h5
   have hm1 : Mp w1 m es c := by rcases hal with rfl | rfl <;> exact h1
   have F1 : Fr (fun k => k = r) W (Cc w1 r (.mapIter (some m) c (seen.push e.born) c)) := Fr.put f1 r _ (.inl rfl)
   refine ⟨p, Cc w1 r (.mapIter (some m) c (seen.push e.born) c), fun _ => hrun, hpl, ⟨es, c, seen.push e.born, c, Ob.Bi hm1 (Ne.symm hne) _, h2, h3, h4, Ob.put hr1 _, Nat.le_refl _, prE ++ [e], ?_, ?_, ?_, ?_, ?_⟩, F1, ⟨F1.os, F1.tape, F1.output, F1.size, fun k hk hn => F1.block k hk fun ek => hn (by rw [ek])⟩, hfew, ?_⟩
   · rw [List.map_append, p1]; simp
   · intro x hx
     rcases List.mem_append.1 hx with hx | hx
     · exact p2 x hx
     · rw [List.mem_singleton] at hx; subst hx; exact he2.1
   · rw [List.map_append]
     refine List.nodup_append.2 ⟨p3, by simp, fun a ha b hb => ?_⟩
     simp only [List.map_cons, List.map_nil, List.mem_singleton] at hb
     subst hb
     rw [p1] at ha
     exact fun e' => he2.2 (e' ▸ ha)
   · rw [List.map_append, List.map_append, p4]; simp [e1]
   · rw [List.map_append, List.map_append, p5]; simp [e2]
   · have := run_entry_at (P := Tryz.prog) (Cc w1 r (.mapIter (some m) c (seen.push e.born) c)) r m c seen es c e (Ob.put hr1 _) (Ob.Bi hm1 (Ne.symm hne) _) he2.1 hst.2.1
     rw [e1, e2] at this
     exact this
end
end Go.Proofs.YtchfmgbjddopoaaGreatDoor.Hand
