import Derived.Test.YtchfmgbjddopoaaGreatDoorM31
set_option linter.unusedVariables false
set_option linter.unusedSimpArgs false
set_option maxHeartbeats 6400000
set_option maxRecDepth 100000
namespace Go.Proofs.YtchfmgbjddopoaaGreatDoor.Hand
open Go.RowKit Go.Proofs.YtchfmgbjddopoaaGreatDoorW.PrintWords Go.Proofs.YtchfmgbjddopoaaGreatDoorW.PrintLast Go.Proofs.YtchfmgbjddopoaaGreatDoorW.PrintMore
attribute [local go_sem ↓] Go.wp_at_zero Go.wp_at_succ
open Plain (Ky Wr Rc Ver Ent St Bytes Dv WO encR Inv EJ Fit)
theorem Xx (w : World) (A0 : Option Addr) (n0 c0 : Nat) (xs : List It) (sy keep torn : Int) (hrow : RowK itC 9 w (.slice A0 n0 c0) xs) (hin : ∀ x ∈ xs, Pg w x) (ht : 0 ≤ torn ∧ torn < 256) (hR : Calls Tryz.prog 4 #[] w fun e w' => e = .returned (.bool true) ∧ Below w.heap.size w w') :
   Calls Tryz.prog 3 #[.slice A0 n0 c0, .int .i64 sy, .int .i64 keep, .int .u8 torn] w fun e w' => e = .returned (.bool true) ∧ Below w.heap.size w w' := by
 have hnn : n0 = xs.length := by
   obtain ⟨A, c, e⟩ := hrow.slice
   injection e
 replace hrow := Aa.mk hrow
 replace hin := Aa.mk hin
 replace ht := Aa.mk ht
 replace hnn := Aa.mk hnn
 by_cases h20 : n0 > 20
 case pos =>
   have d1 : decide (20 < n0) = true := by simp; omega
   have d2 : decide (20 < (n0 : Int)) = true := by simp; omega
   clear h20
   go_enter Tryz.func3, Tryz.ntmps3
   go_wp2_with (first
     | (go_at_call 4; refine hR.mono ?_; clear hR; rintro e w1 ⟨rfl, f1⟩; replace f1 := Aa.mk f1))
   go_returns
   exact ⟨rfl, f1.out⟩
 have d1 : decide (20 < n0) = false := by simp; omega
 have d2 : decide (20 < (n0 : Int)) = false := by simp; omega
 by_cases hs0 : sy < 0
 case pos =>
   have d3 : decide (sy < 0) = true := by simp; omega
   clear h20 hs0
   go_enter Tryz.func3, Tryz.ntmps3
   go_wp2_with (first
     | (go_at_call 4; refine hR.mono ?_; clear hR; rintro e w1 ⟨rfl, f1⟩; replace f1 := Aa.mk f1))
   go_returns
   exact ⟨rfl, f1.out⟩
 have d3 : decide (sy < 0) = false := by simp; omega
 by_cases hs1 : sy > n0
 case pos =>
   have d4 : decide ((n0 : Int) < sy) = true := by simp; omega
   clear h20 hs0 hs1
   go_enter Tryz.func3, Tryz.ntmps3
   go_wp2_with (first
     | (go_at_call 4; refine hR.mono ?_; clear hR; rintro e w1 ⟨rfl, f1⟩; replace f1 := Aa.mk f1))
   go_returns
   exact ⟨rfl, f1.out⟩
 have d4 : decide ((n0 : Int) < sy) = false := by simp; omega
 replace h20 := Aa.mk h20
 replace hs0 := Aa.mk hs0
 replace hs1 := Aa.mk hs1
 go_enter Tryz.func3, Tryz.ntmps3
 go_wp2_with (first
   | (go_at_call 4; refine hR.mono ?_; clear hR; rintro e w1 ⟨rfl, f1⟩; replace f1 := Aa.mk f1)
   | (go_at_call 5; refine (Wx w1).mono ?_; rintro e w2 ⟨d, md, rfl, hd2, hmd2, hD2, f2⟩; have hO := X5 w2 w1.heap.size d md hD2 hd2 hmd2 f2.size; replace f2 := Aa.mk f2; clear hd2 hmd2 hD2)
   | (go_at_call 6; refine hO.mono ?_; clear hO; rintro e w3 ⟨g, rfl, hL3, f3⟩; replace f3 := Aa.mk f3; replace hL3 := Aa.mk hL3))
 obtain ⟨G, hG⟩ := kept xs
 replace hG := Aa.mk hG
 go_loopw [13, 14] (fun gv j wq => ∃ i : Nat, i ≤ n0 ∧ j = .int .i64 i ∧ ∃ (A : Option Addr) (c q S : Nat), gv = .slice A (G i).length c ∧ Aa (DU wq w1.heap.size gv (G i)) ∧ Aa (Lg wq w1.heap.size S g d (bytesOf (G i)) q) ∧ Aa (sy ≤ (G i).length → sy ≤ q) ∧ Aa (Below w1.heap.size w1 wq)) (fun _ j _ => n0 - (intOf j).toNat)
 case atStart =>
   refine ⟨0, Nat.zero_le _, rfl, none, 0, 0, w3.heap.size, by rw [hG.out.zero]; rfl, ⟨?_⟩, ⟨?_⟩, ⟨?_⟩, ⟨f2.out.trans (f3.out.mono f2.out.size)⟩⟩
   · rw [hG.out.zero]; exact World.ownsRow_nil _ _ _ _
   · rw [hG.out.zero]; exact hL3.out
   · rw [hG.out.zero]
     intro h
     simpa using h
 case round =>
   obtain ⟨i, hi, rfl, A, c, q, S, rfl, hGo, hLg, hq, hB⟩ := hrel
   by_cases hlt : i < n0
   case neg =>
     obtain rfl : i = n0 := by omega
     have hGm := hG.out.mem i
     have hGl := hG.out.len i
     clear hi hlt
     generalize G i = gs at hGo hLg hq hGm hGl ⊢
     obtain ⟨L, hL⟩ : ∃ L, L = gs.length := ⟨_, rfl⟩
     rw [← hL] at hGo hq hGl ⊢
     have hL20 : Aa (L ≤ 20) := ⟨by have := h20.out; omega⟩
     have e1 : decide ((i : Int) < (i : Int)) = false := by simp
     have e2 : decide (i < i) = false := by simp
     replace hL := Aa.mk hL
     replace hGm := Aa.mk hGm
     clear hG hGl
     go_upto_if 106 with fail
     go_cut [1] from 1 to 1 (fun s1 wx => wx = wr ∧ ∃ sz : Int, s1 = .int .i64 sz ∧ Aa (0 ≤ sz ∧ sz ≤ L ∧ sz ≤ q))
     case first =>
       go_wp2_with fail
       all_goals
         rename_i h
         go_meet
         first
           | exact ⟨rfl, 0, rfl, ⟨by omega, by omega, by omega⟩⟩
           | exact ⟨rfl, sy, rfl, ⟨hs0.out, by omega, hq.out (by omega)⟩⟩
     case rest =>
       obtain ⟨hw, sz, rfl, hz⟩ := hcut
       replace hw := hw.symm
       subst hw
       have hrs : Aa (∀ r ∈ bytesOf gs, Bytes r ∧ 1 ≤ r.length ∧ r.length ≤ 4000) := ⟨fun r hr => by
         obtain ⟨y, hy, rfl⟩ := List.mem_map.1 hr
         obtain ⟨hy1, hy2⟩ := hGm.out y hy
         exact ⟨Plain.FC _, Plain.Ei ((hin.out y hy1).fit hy2)⟩⟩
       have hbl : Aa ((bytesOf gs).length = L) := ⟨by rw [List.length_map]; exact hL.out.symm⟩
       go_wp2_with (first
         | (go_at_call 11
            refine (V5 wr w1.heap.size S g d q (bytesOf gs) keep torn hLg.out hrs.out (by rw [hbl.out]; exact hL20.out) ht.out.1 ht.out.2).mono ?_
            rintro e w11 ⟨rfl, k, hqk, hkl, D11, f11, n11⟩
            have B11 : Aa (Below w1.heap.size w1 w11) := ⟨hB.out.trans f11⟩
            have o11 : Aa (DU w11 w1.heap.size _ gs) := ⟨DU.Ha hGo.out n11⟩
            rw [hbl.out] at hkl
            have k1 : ¬ (k : Int) < sz := by have := hz.out; omega
            have k2 : ¬ (L : Int) < (k : Int) := by omega
            have k3 : ¬ L < k := by omega
            have e3 : decide ((k : Int) < sz) = false := by simp; omega
            have e4 : decide ((L : Int) < (k : Int)) = false := by simp; omega
            have e5 : decide (L < k) = false := by simp; omega
            replace D11 := Aa.mk D11
            replace hkl := Aa.mk hkl
            clear f11 n11 hqk k1 k2 k3)
         | (go_at_call 12
            refine (ZR w11 w1.heap.size d k (bytesOf gs) D11.out B11.out.size).mono ?_
            rintro e w12 ⟨rfl, D12, f12, n12⟩
            have B12 : Aa (Below w1.heap.size w1 w12) := ⟨B11.out.trans f12⟩
            have o12 : Aa (DU w12 w1.heap.size _ gs) := ⟨DU.Ha o11.out n12⟩
            replace D12 := Aa.mk D12
            clear f12 n12)
         | (go_at_call 6
            refine (Vd w12 w1.heap.size d k (bytesOf gs) D12.out (by rw [hbl.out]; exact hkl.out) hrs.out B12.out.size).mono ?_
            rintro e w13 ⟨g2, rfl, V13, f13, n13⟩
            have B13 : Aa (Below w1.heap.size w1 w13) := ⟨B12.out.trans f13⟩
            have o13 : Aa (DU w13 w1.heap.size _ gs) := ⟨DU.Ha o12.out n13⟩
            have hkk : ((bytesOf gs).take k).length = k := by rw [List.length_take, hbl.out]; have := hkl.out; omega
            have hN : Aa (∀ W, Lv W g2 ((bytesOf gs).take k) → Calls Tryz.prog 13 #[.pointer (some ⟨g2, 0, none⟩)] W fun e w' => e = .returned (.int .i64 k) ∧ w' = W) := ⟨fun W hW => by have := Zh W g2 _ hW; rwa [hkk] at this⟩
            replace V13 := Aa.mk V13
            clear f13 n13 hkk)
         | (go_at_call 13
            refine (hN.out w13 V13.out).mono ?_
            rintro e wN ⟨rfl, hwN⟩
            replace hwN := hwN.symm
            subst hwN)
         | (go_at_call 14
            refine (Ri w14).mono ?_
            rintro e w15 ⟨p2, ix2, cb2, ev2, rfl, P2, f15⟩
            replace P2 := Aa.mk P2
            replace f15 := Aa.mk f15)
         | (go_at_call 14
            refine (Ri w13).mono ?_
            rintro e w14 ⟨p1, ix1, cb1, ev1, rfl, P1, f14⟩
            replace P1 := Aa.mk P1
            replace f14 := Aa.mk f14))
       go_loopw [19] (fun j wq => ∃ i2 : Nat, i2 ≤ k ∧ j = .int .i64 i2 ∧ ∃ (s : St) (F1 F2 : Nat → Prop) (cb1 cb2 : CB) (ev1 ev2 : Int → Value), Aa (Aw F1 wq p1 ix1 s cb1 ev1) ∧ Aa (Aw F2 wq p2 ix2 s cb2 ev2) ∧ Aa (Inv s (16 * i2)) ∧ Aa (∀ b, F1 b → ¬ F2 b) ∧ Aa (∀ b, F1 b ∨ F2 b → w13.heap.size ≤ b) ∧ Aa (Below w13.heap.size w13 wq)) (fun j _ => k - (intOf j).toNat)
       case atStart =>
         have q14 := f14.out.size
         refine ⟨0, Nat.zero_le _, rfl, St.none, _, _, cb1, cb2, ev1, ev2, ⟨P1.out.below f15.out⟩, P2, ⟨Plain.Wi⟩, ⟨fun b h1 h2 => by omega⟩, ⟨fun b h => by omega⟩, ⟨f14.out.trans (f15.out.mono q14)⟩⟩
       case round =>
         obtain ⟨j, hj, rfl, s, F1, F2, cb1, cb2, ev1, ev2, Q1, Q2, hI, hd12, hge, hB2⟩ := hrel
         clear P1 P2 f14 f15
         have V := Aa.mk (V13.out.below hB2.out)
         have FR : Aa (Below w.heap.size w wr) := ⟨f1.out.trans ((B13.out.mono f1.out.size).trans (hB2.out.mono (Nat.le_trans f1.out.size B13.out.size)))⟩
         have hjk : Aa (j ≤ k) := ⟨hj⟩
         have hk20 : Aa (k ≤ 20) := ⟨by have := hL20.out; have := hkl.out; omega⟩
         have hNr : Aa (Calls Tryz.prog 13 #[.pointer (some ⟨g2, 0, none⟩)] wr fun e w' => e = .returned (.int .i64 k) ∧ w' = wr) := ⟨hN.out wr V.out⟩
         by_cases hlt : j < k
         case neg =>
           have z1 : decide ((j : Int) < (k : Int)) = false := by simp; omega
           have z2 : decide (j < k) = false := by simp; omega
           clear hj hlt
           go_wp2_with (first
             | (go_at_call 13
                refine hNr.out.mono ?_
                clear hNr
                rintro e wN ⟨rfl, hwN⟩
                replace hwN := hwN.symm
                subst hwN)
             | (go_at_call 19
                refine (Vm _ _ w22 sp1 mc1 sp2 mc2 cs1 cs2 db1 db2 S12.out S2.out (hm1.out.trans hm2.out.symm) ((hm1.out.map _).nodup_iff.2 hI.out.cu) (by rw [hm1.out.length_eq]; have := hI.out.n1; have := hI.out.n2; have := hI.out.n3; have := hk20.out; have := hjk.out; omega) (fun q hq => by have := (hI.out.cs q (hm1.out.mem_iff.1 hq)).few; omega)).mono ?_
                rintro e w23 ⟨rfl, f23⟩
                replace f23 := Aa.mk f23)
             | (go_at_call 20
                refine (Kw _ w21 p2 ix2 s cb2 ev2 _ (Q2.out.below f21.out) hI.out).mono ?_
                rintro e w22 ⟨sp2, mc2, cs2, db2, rfl, S2, hm2, f22⟩
                have S12 := Aa.mk (S1.out.below f22)
                replace S2 := Aa.mk S2
                replace hm2 := Aa.mk hm2
                replace f22 := Aa.mk f22)
             | (go_at_call 20
                refine (Kw _ wr p1 ix1 s cb1 ev1 _ Q1.out hI.out).mono ?_
                rintro e w21 ⟨sp1, mc1, cs1, db1, rfl, S1, hm1, f21⟩
                replace S1 := Aa.mk S1
                replace hm1 := Aa.mk hm1
                replace f21 := Aa.mk f21))
           go_returns
           exact ⟨rfl, FR.out.trans ((Cf f23.out (Cf f22.out f21.out)).mono FR.out.size)⟩
         obtain ⟨b3, o3, hA3, hbn3, hcc3, hbs3, hr3⟩ := o13.out.row.at_ (by have := hkl.out; have := hL.out; omega)
         have hjL : j < gs.length := by have := hkl.out; have := hL.out; omega
         replace hr3 := hr3 j hjL
         have hxm : gs[j]! ∈ gs := by rw [getElem!_pos gs j hjL]; exact List.getElem_mem hjL
         have hgj : ((bytesOf gs).take k).getD j [] = encR gs[j]!.r := by
           rw [List.getD_eq_getElem?_getD, List.getElem?_take_of_lt hlt, List.getElem?_map, List.getElem?_eq_getElem hjL, getElem!_pos gs j hjL]
           rfl
         generalize gs[j]! = x at hr3 hxm hgj
         obtain ⟨hx1, hx2⟩ := hGm.out x hxm
         have hxi := hin.out x hx1
         have hft := hxi.fit hx2
         obtain ⟨hx3, hx4, hx5⟩ := KF hx2
         have hen := Plain.Ei hft
         have hS13 : w.heap.size ≤ w13.heap.size := Nat.le_trans f1.out.size B13.out.size
         obtain ⟨X, s', hPl⟩ : ∃ X s', EJ s x.r = (X, s') := ⟨_, _, rfl⟩
         have hI' : Aa (Inv s' (16 * (j + 1))) := ⟨by have := hI.out.play hxi.ok hx5; rw [hPl] at this; exact this⟩
         obtain ⟨Y0, hY0⟩ : ∃ Y, Y = itC x := ⟨_, rfl⟩
         have hY0l : Y0.length = 9 := by rw [hY0]; rfl
         obtain ⟨y0, y1, y2, y3, y4, y5, y6, y7, y8, hY⟩ := YM hY0l
         have hYA : itA x = #[y0, y1, y2, y3, y4, y5, y6, y7, y8] := by have := hY0.symm.trans hY; exact Array.toList_inj.1 this
         have hyW : Aa (∀ W, Below w13.heap.size w13 W → W.rangeAt b3 (o3 + j * 9) [y0, y1, y2, y3, y4, y5, y6, y7, y8]) := ⟨fun W f p u hu => by rw [CQ (f.block b3 hbs3)]; exact hr3 p u (by rw [← hY0, hY]; exact hu)⟩
         have hXI : Aa (∀ W, Below w13.heap.size w13 W → KZ W x.r (.slice x.A1 x.n1 x.c1) (.slice x.A2 x.n2 x.c2)) := ⟨fun W f => ((hxi.below (f1.out.trans ((B13.out.mono f1.out.size).trans (f.mono hS13)))).recW hx3 hx4)⟩
         have hAt : Aa (Calls Tryz.prog 15 #[.pointer (some ⟨g2, 0, none⟩), .int .i64 j] wr fun e w' => ∃ b c, e = .returned (.tuple #[.slice (some ⟨b, 0, none⟩) (encR x.r).length c, .int .i64 0]) ∧ ((encR x.r).length ≤ c ∧ b < w'.heap.size ∧ ∀ p y, (encR x.r)[p]? = some y → w'.cell? ⟨b, 0 + p, none⟩ = some (.int .u8 y)) ∧ Below wr.heap.size wr w') := ⟨by
           refine (ZQ wr g2 j _ V.out (by rw [List.length_take, hbl.out]; have := hkl.out; omega) (fun r hr => (hrs.out r (List.mem_of_mem_take hr)).2.2)).mono ?_
           rintro e w' ⟨v', rfl, ho, f⟩
           rw [hgj] at ho
           obtain ⟨b, c, rfl, h1, h2, h3⟩ := XD ho hen.1
           exact ⟨b, c, rfl, ⟨h1, h2, h3⟩, f⟩⟩
         have hGt : Aa (∀ W b c, (encR x.r).length ≤ c → b < W.heap.size → (∀ p y, (encR x.r)[p]? = some y → W.cell? ⟨b, 0 + p, none⟩ = some (.int .u8 y)) → Calls Tryz.prog 16 #[.slice (some ⟨b, 0, none⟩) (encR x.r).length c] W fun e w' => ∃ A3 c3 A4 c4, e = .returned (.tuple #[.agg (Df x.r (.slice A3 x.r.ws.length c3) (.slice A4 x.r.parts.length c4)), .int .i64 0]) ∧ La w' W.heap.size x.r (.slice A3 x.r.ws.length c3) (.slice A4 x.r.parts.length c4) ∧ Below W.heap.size W w') := ⟨fun W b c h1 h2 h3 => by
           refine (XG W b 0 c x.r hft hx5 h1 h2 h3).mono ?_
           rintro e w' ⟨⟨wv, pv, rfl, ho⟩, f⟩
           obtain ⟨A3, c3, rfl⟩ := (ho.row hft).ws.slice
           obtain ⟨A4, c4, rfl⟩ := (ho.row hft).ps.slice
           exact ⟨A3, c3, A4, c4, rfl, ho, f⟩⟩
         have hSm : Aa (∀ W D A3 n3 c3 A4 n4 c4, D = Df x.r (.slice A3 n3 c3) (.slice A4 n4 c4) → Below w13.heap.size w13 W → KZ W x.r (.slice A3 n3 c3) (.slice A4 n4 c4) → Calls Tryz.prog 17 #[.agg D, .agg #[y0, y1, y2, y3, y4, y5, y6, y7, y8]] W fun e w' => e = .returned (.bool true) ∧ Below W.heap.size W w') := ⟨fun W D A3 n3 c3 A4 n4 c4 hD f hW => by
           rw [hD, ← hYA]
           have h := QZ W x.r x.r A3 A4 x.A1 x.A2 n3 c3 n4 c4 x.n1 x.c1 x.n2 x.c2 hW (hXI.out W f)
           rw [show decide (x.r = x.r) = true from decide_eq_true rfl] at h
           exact h⟩
         have hlp : x.r.parts.length ≤ 1000 := by have := hxi.YG; omega
         have hNj : 16 * j ≤ 20000 := by have := hk20.out; omega
         have hP1 : Aa (∀ W D A3 n3 c3 A4 n4 c4, D = Df x.r (.slice A3 n3 c3) (.slice A4 n4 c4) → Aw F1 W p1 ix1 s cb1 ev1 → KZ W x.r (.slice A3 n3 c3) (.slice A4 n4 c4) → (∀ q, (Value.slice A3 n3 c3).ownBlock = some q → ¬ F1 q) → Calls Tryz.prog 18 #[.pointer (some ⟨p1, 0, none⟩), .agg D] W fun e w' => e = .returned (.int .i64 X) ∧ (∃ cb' ev', Aw (fun q => F1 q ∨ W.heap.size ≤ q ∧ q < w'.heap.size) w' p1 ix1 s' cb' ev') ∧ Fr F1 W w') := ⟨fun W D A3 n3 c3 A4 n4 c4 hD hP hW hf => by
           rw [hD]
           have := NM F1 W p1 ix1 s cb1 ev1 _ x.r A3 A4 n3 c3 n4 c4 hP hI.out hNj hW hxi.ok hx5 hlp (fun _ => hf)
           rw [hPl] at this
           exact this⟩
         have hP2 : Aa (∀ W, Aw F2 W p2 ix2 s cb2 ev2 → Below w13.heap.size w13 W → Calls Tryz.prog 18 #[.pointer (some ⟨p2, 0, none⟩), .agg #[y0, y1, y2, y3, y4, y5, y6, y7, y8]] W fun e w' => e = .returned (.int .i64 X) ∧ (∃ cb' ev', Aw (fun q => F2 q ∨ W.heap.size ≤ q ∧ q < w'.heap.size) w' p2 ix2 s' cb' ev') ∧ Fr F2 W w') := ⟨fun W hP f => by
           have := NM F2 W p2 ix2 s cb2 ev2 _ x.r x.A1 x.A2 x.n1 x.c1 x.n2 x.c2 hP hI.out hNj (hXI.out W f) hxi.ok hx5 hlp (fun hk q hq hF => by
             have h1 := hge.out q (.inr hF)
             have h0 := (Plain.BL (Plain.Ji hx5 hk)).2.2.1.1
             have h0' : 1 ≤ x.r.ws.length := h0
             rcases hxi.ws with ⟨A, c, e, e0⟩ | ⟨b, o, c, e, _, hb, _⟩
             · rw [e0] at h0'
               exact absurd h0' (by simp)
             · rw [e] at hq
               have e2 : b = q := Option.some.inj hq
               omega)
           rw [hPl] at this
           change Calls Tryz.prog 18 #[.pointer (some ⟨p2, 0, none⟩), .agg (itA x)] W _ at this
           rw [hYA] at this
           exact this⟩
         have hw3 : Aa (x.r.ws.length ≤ 1000000 ∧ x.r.parts.length ≤ 1000000) := ⟨by have := hxi.len1; have := hxi.YG; omega⟩
         have hRO : Aa (∀ W B A3 n3 c3 A4 n4 c4, La W B x.r (.slice A3 n3 c3) (.slice A4 n4 c4) → KZ W x.r (.slice A3 n3 c3) (.slice A4 n4 c4)) := ⟨fun W B A3 n3 c3 A4 n4 c4 h => h.row hft⟩
         subst hA3
         have hib : j < 1000000 := by have := hk20.out; omega
         have z1 : decide ((j : Int) < (k : Int)) = true := by simp; omega
         have z2 : decide (j < k) = true := by simp; omega
         have hjk' : Aa (j < k) := ⟨hlt⟩
         have hLj : Aa (j < L) := ⟨by have := hkl.out; omega⟩
         have l1 : decide ((j : Int) < (L : Int)) = true := by have := hLj.out; simp; omega
         have l2 : j < L := hLj.out
         clear hj hlt hr3 hxm hgj hx1 hx2 hxi hft hx3 hx4 hx5 hen hPl hY0 hY0l hY hYA hS13 hlp hNj hbs3 hbn3 hjL hI
         go_upto_region 30 with (first
           | (go_at_call 13
              refine hNr.out.mono ?_
              clear hNr
              rintro e wN ⟨rfl, hwN⟩
              replace hwN := hwN.symm
              subst hwN)
           | (go_at_call 15
              refine hAt.out.mono ?_
              clear hAt
              rintro e w21 ⟨b21, c21, rfl, h21, f21⟩
              have hGx := Aa.mk (hGt.out w21 b21 c21 h21.1 h21.2.1 h21.2.2)
              clear hGt h21
              replace f21 := Aa.mk f21)
           | (go_at_call 16
              refine hGx.out.mono ?_
              clear hGx
              rintro e w22 ⟨A3, c3, A4, c4, he, oR, f22⟩
              obtain ⟨z0, z1, z2, z3, z4, z5, z6, z7, z8, hZ⟩ : ∃ z0 z1 z2 z3 z4 z5 z6 z7 z8, Df x.r (.slice A3 x.r.ws.length c3) (.slice A4 x.r.parts.length c4) = #[z0, z1, z2, z3, z4, z5, z6, z7, z8] := ⟨_, _, _, _, _, _, _, _, _, rfl⟩
              have hZ1 : Aa ((#[z0, z1, z2, z3, z4, z5, z6, z7, z8] : Array Value).all (·.oneCell') = true) := ⟨by rw [← hZ]; exact Q8 _ _ _ _ _ _ _⟩
              rw [hZ] at he
              subst he
              replace hZ := Aa.mk hZ.symm
              have f32 : Aa (Below wr.heap.size wr w22) := ⟨Cf f22 f21.out⟩
              replace oR := Aa.mk oR
              clear f22)
           | ((with_reducible refine Ac (N := 22) rfl ?_); refine Aj (N := 22) (C := R9 0 0 0 0 0 0 (.slice none 0 0) false (.slice none 0 0)) rfl rfl (by first | (go_simp; done) | (go_simp; rfl)) ?_; intro g6 w6 h6 b6 f6)
           | ((with_reducible refine Af (t := 36) (p := 22) (v := .tmp 150) rfl ?_); (refine Ak rfl (ty := 36) (x := .tmp 22) (y := .tmp 150) (cells := #[z0, z1, z2, z3, z4, z5, z6, z7, z8]) rfl rfl rfl b6.out (by exact Bh) hZ1.out (Nat.le_refl 9) #[z0, z1, z2, z3, z4, z5, z6, z7, z8] (Aq (C := R9 0 0 0 0 0 0 (.slice none 0 0) false (.slice none 0 0)) (D := #[z0, z1, z2, z3, z4, z5, z6, z7, z8]) rfl) ?_); intro w7 b7 f7))
         have G27 : Aa (Below w22.heap.size w22 w7) := ⟨((Fr.of_below (T := fun k => k = g6) f6.out).trans f7.out).below (fun k hk q => by have := h6.out; omega) (Nat.le_refl _)⟩
         have G7 : Aa (Below wr.heap.size wr w7) := ⟨Cf G27.out f32.out⟩
         have H7 : Aa (Below w13.heap.size w13 w7) := ⟨hB2.out.trans (G7.out.mono hB2.out.size)⟩
         have H7d : Aa (Below w13.heap.size w13 w7.drew) := ⟨H7.out.trans ((Ag (Below.refl _ _)).mono H7.out.size)⟩
         have RW7 := Aa.mk (hRO.out w7 _ _ _ _ _ _ _ (oR.out.below G27.out))
         have hfF : Aa (∀ q, (Value.slice A3 x.r.ws.length c3).ownBlock = some q → ¬ F1 q) := ⟨fun q hq hF => by have := (World.ownsRow.lt oR.out.ws q hq).1; have := Q1.out.few q hF; have := f21.out.size; omega⟩
         have hSame := Aa.mk (hSm.out w7.drew _ _ _ _ _ _ _ hZ.out H7d.out (RW7.out.below (Ag (Below.refl _ _))))
         go_cut [174] from 152 to 174 (fun u wx => u = .bool false ∧ ∃ (cb1' cb2' : CB) (ev1' ev2' : Int → Value) (w8 w9 : World), Aa (Below w7.heap.size w7 w8) ∧ Aa (Aw (fun q => F1 q ∨ w8.heap.size ≤ q ∧ q < w9.heap.size) w9 p1 ix1 s' cb1' ev1') ∧ Aa (Fr F1 w8 w9) ∧ Aa (Aw (fun q => F2 q ∨ w9.heap.size ≤ q ∧ q < wx.heap.size) wx p2 ix2 s' cb2' ev2') ∧ Aa (Fr F2 w9 wx))
         case first =>
           rename_i a5 Q1' a4 zz1 zz2 QQ K1 a3 K0 a2 J0 K' a1 a0
           clear a5 a4 a3 a2 zz1 zz2 d1 d2 d3 d4 e1 e2 e3 e4 e5 hI' hXI hSm hRO hw3 hGm hrs hbl hN V13 B13 B12 B11 D11 D12 hLg hq hL hnn hrow hin ht hz
           have hg6 : Aa (∀ q, q < wr.heap.size → q ≠ g6) := ⟨fun q hq e => by have := h6.out; have := f32.out.size; omega⟩
           have hSS : Aa (∀ W, Below w13.heap.size w13 W → Bk W g6 #[z0, z1, z2, z3, z4, z5, z6, z7, z8] 36 → (fun W => W.cell? ⟨g6, 0, none⟩ = some z0 ∧ W.cell? ⟨g6, 1, none⟩ = some z1 ∧ W.cell? ⟨g6, 2, none⟩ = some z2 ∧ W.cell? ⟨g6, 3, none⟩ = some z3 ∧ W.cell? ⟨g6, 4, none⟩ = some z4 ∧ W.cell? ⟨g6, 5, none⟩ = some z5 ∧ W.cell? ⟨g6, 6, none⟩ = some z6 ∧ W.cell? ⟨g6, 7, none⟩ = some z7 ∧ W.cell? ⟨g6, 8, none⟩ = some z8 ∧ W.cell? ⟨b3, o3 + j * 9, none⟩ = some y0 ∧ W.cell? ⟨b3, o3 + j * 9 + 1, none⟩ = some y1 ∧ W.cell? ⟨b3, o3 + j * 9 + 2, none⟩ = some y2 ∧ W.cell? ⟨b3, o3 + j * 9 + 3, none⟩ = some y3 ∧ W.cell? ⟨b3, o3 + j * 9 + 4, none⟩ = some y4 ∧ W.cell? ⟨b3, o3 + j * 9 + 5, none⟩ = some y5 ∧ W.cell? ⟨b3, o3 + j * 9 + 6, none⟩ = some y6 ∧ W.cell? ⟨b3, o3 + j * 9 + 7, none⟩ = some y7 ∧ W.cell? ⟨b3, o3 + j * 9 + 8, none⟩ = some y8) W) := ⟨fun W f hb => ⟨Bk.cell hb (j := 0) rfl, Bk.cell hb (j := 1) rfl, Bk.cell hb (j := 2) rfl, Bk.cell hb (j := 3) rfl, Bk.cell hb (j := 4) rfl, Bk.cell hb (j := 5) rfl, Bk.cell hb (j := 6) rfl, Bk.cell hb (j := 7) rfl, Bk.cell hb (j := 8) rfl, hyW.out _ f 0 _ rfl, hyW.out _ f 1 _ rfl, hyW.out _ f 2 _ rfl, hyW.out _ f 3 _ rfl, hyW.out _ f 4 _ rfl, hyW.out _ f 5 _ rfl, hyW.out _ f 6 _ rfl, hyW.out _ f 7 _ rfl, hyW.out _ f 8 _ rfl⟩⟩
           refine wp_region_noPanic ?_
           go_region_held_law (fun W => W.cell? ⟨g6, 0, none⟩ = some z0 ∧ W.cell? ⟨g6, 1, none⟩ = some z1 ∧ W.cell? ⟨g6, 2, none⟩ = some z2 ∧ W.cell? ⟨g6, 3, none⟩ = some z3 ∧ W.cell? ⟨g6, 4, none⟩ = some z4 ∧ W.cell? ⟨g6, 5, none⟩ = some z5 ∧ W.cell? ⟨g6, 6, none⟩ = some z6 ∧ W.cell? ⟨g6, 7, none⟩ = some z7 ∧ W.cell? ⟨g6, 8, none⟩ = some z8 ∧ W.cell? ⟨b3, o3 + j * 9, none⟩ = some y0 ∧ W.cell? ⟨b3, o3 + j * 9 + 1, none⟩ = some y1 ∧ W.cell? ⟨b3, o3 + j * 9 + 2, none⟩ = some y2 ∧ W.cell? ⟨b3, o3 + j * 9 + 3, none⟩ = some y3 ∧ W.cell? ⟨b3, o3 + j * 9 + 4, none⟩ = some y4 ∧ W.cell? ⟨b3, o3 + j * 9 + 5, none⟩ = some y5 ∧ W.cell? ⟨b3, o3 + j * 9 + 6, none⟩ = some y6 ∧ W.cell? ⟨b3, o3 + j * 9 + 7, none⟩ = some y7 ∧ W.cell? ⟨b3, o3 + j * 9 + 8, none⟩ = some y8)
             (first | exact hSS.out _ H7d.out (Ob.drew b7.out) | exact hSS.out _ (Aa.out H8) (Aa.out b78) | exact hSS.out _ (Aa.out H9) (Aa.out b79) | exact hSS.out _ (Aa.out H10) (Aa.out b710))
             (first
               | (go_at_call_of 18 (Value.pointer (some ⟨p2, 0, none⟩))
                  refine (hP2.out _ (Aa.out Q29) (Aa.out H9)).mono ?_
                  rintro r w10 ⟨rfl, ⟨cb2', ev2', Q2n⟩, fr2⟩
                  have H10 := Aa.mk ((Aa.out H9).trans (fr2.below (fun q hq hF => by have := hge.out q (.inr hF); omega) (Aa.out H9).size))
                  have b710 := Aa.mk (Ob.fr (Aa.out b79) fr2 fun hF => hg6.out _ (Q2.out.few _ hF) rfl)
                  replace Q2n := Aa.mk Q2n
                  replace fr2 := Aa.mk fr2)
               | (go_at_call 17
                  refine (Aa.out hSame).mono ?_
                  rintro r w8 ⟨rfl, f8⟩
                  have G8 : Aa (Below w7.heap.size w7 w8) := ⟨Cf f8 (Ag (Below.refl _ _))⟩
                  have H8 : Aa (Below w13.heap.size w13 w8) := ⟨H7.out.trans (G8.out.mono H7.out.size)⟩
                  have b78 := Aa.mk (Ob.Ad b7.out G8.out)
                  have hPl1 := Aa.mk (hP1.out w8 _ _ _ _ _ _ _ hZ.out (Q1.out.below (Cf G8.out G7.out)) (RW7.out.below G8.out) hfF.out)
                  clear f8)
               | (go_at_call 18
                  refine (Aa.out hPl1).mono ?_
                  rintro r w9 ⟨rfl, ⟨cb1', ev1', Q1n⟩, fr1⟩
                  have H9 := Aa.mk ((Aa.out H8).trans (fr1.below (fun q hq hF => by have := hge.out q (.inl hF); omega) (Aa.out H8).size))
                  have b79 := Aa.mk (Ob.fr (Aa.out b78) fr1 fun hF => hg6.out _ (Q1.out.few _ hF) rfl)
                  have Q29 := Aa.mk ((Q2.out.below (Cf (Aa.out G8) G7.out)).fr fr1 (fun q h1 h2 => hd12.out q h1 h2))
                  replace Q1n := Aa.mk Q1n
                  replace fr1 := Aa.mk fr1))
           all_goals
             refine NoPanic.normal ?_
             go_split_ands
             go_wp2_with fail
             go_meet
             exact ⟨rfl, _, _, _, _, _, _, G8, Q1n, fr1, Q2n, fr2⟩
         case rest =>
           obtain ⟨rfl, cb1', cb2', ev1', ev2', w8, w9, G8, Q1n, fr1, Q2n, fr2⟩ := hcut
           have H8 : Aa (Below w13.heap.size w13 w8) := ⟨H7.out.trans (G8.out.mono H7.out.size)⟩
           have few : ∀ q, q < wr.heap.size → q < w8.heap.size := fun q hq => Nat.lt_of_lt_of_le hq (Nat.le_trans G7.out.size G8.out.size)
           obtain ⟨G1, G2, r1, r2, r3, r4, r5⟩ := SG (fun q h => few q (Q1.out.few q h)) (fun q h => few q (Q2.out.few q h)) Q1n.out fr1.out Q2n.out fr2.out hd12.out hge.out H8.out.size
           replace r1 := Aa.mk r1
           replace r2 := Aa.mk r2
           replace r3 := Aa.mk r3
           replace r4 := Aa.mk r4
           replace r5 := Aa.mk r5
           clear few
           go_wp2_with fail
           go_roundw
           case rel => exact ⟨j + 1, hjk'.out, by rw [Int.natCast_add]; rfl, s', G1, G2, _, _, _, _, r1, r2, hI', r3, r4, ⟨H8.out.trans r5.out⟩⟩
           case measure =>
             simp only [intOf]
             have := hjk'.out
             omega
   obtain ⟨b, o, hA, hbn, hcc, hbs, hr⟩ := hrow.out.at_ (by rw [← hnn.out]; omega)
   have hix : i < xs.length := by rw [← hnn.out]; exact hlt
   replace hr := hr i hix
   have hxi := hin.out xs[i]! (by rw [getElem!_pos xs i hix]; exact List.getElem_mem hix)
   have hyes := hG.out.yes i hix
   have hno := hG.out.no i hix
   generalize xs[i]! = x at hr hxi hyes hno
   subst hA
   have hrW : Aa (∀ W, Below w.heap.size w W → W.rangeAt b (o + i * 9) (itC x)) := ⟨fun W f j u hu => by rw [CQ (f.block b hbs)]; exact hr j u hu⟩
   have FR : Aa (Below w.heap.size w wr) := ⟨f1.out.trans (hB.out.mono f1.out.size)⟩
   have hrr := hrW.out wr FR.out
   have c6 : wr.cell? ⟨b, o + i * 9 + 6, none⟩ = some (.slice x.A1 x.n1 x.c1) := hrr 6 _ rfl
   have c8 : wr.cell? ⟨b, o + i * 9 + 8, none⟩ = some (.slice x.A2 x.n2 x.c2) := hrr 8 _ rfl
   have hib : i < 1000000 := by have := h20.out; omega
   have e1 : decide ((i : Int) < (n0 : Int)) = true := by simp; omega
   have e2 : decide (i < n0) = true := by simp; omega
   replace hrr := Aa.mk hrr
   replace hxi := Aa.mk hxi
   replace hyes := Aa.mk hyes
   replace hno := Aa.mk hno
   clear hbn hix hbs hr
   have skip : RJ x = false → ∃ i', i' ≤ n0 ∧ Value.int .i64 ((i : Int) + 1) = .int .i64 i' ∧ ∃ (A' : Option Addr) (c' q S : Nat), Value.slice A (G i).length c = .slice A' (G i').length c' ∧ Aa (DU wr w1.heap.size (.slice A (G i).length c) (G i')) ∧ Aa (Lg wr w1.heap.size S g d (bytesOf (G i')) q) ∧ Aa (sy ≤ (G i').length → sy ≤ q) ∧ Aa (Below w1.heap.size w1 wr) := fun h => by
     have hn := hno.out h
     exact ⟨i + 1, by omega, by rw [Int.natCast_add]; rfl, A, c, q, S, by rw [hn], ⟨by rw [hn]; exact hGo.out⟩, ⟨by rw [hn]; exact hLg.out⟩, ⟨by rw [hn]; exact hq.out⟩, hB⟩
   replace skip := Aa.mk skip
   by_cases h16 : x.n1 > 16
   case pos =>
     have k1 : decide (16 < x.n1) = true := by simp; omega
     have k2 : decide (16 < (x.n1 : Int)) = true := by simp; omega
     have hn := Aa.mk (skip.out (by unfold RJ; rw [decide_eq_false (by omega)]; rfl))
     clear h16
     go_wp2_with fail
     go_roundw
     case rel => exact hn.out
     case measure =>
       simp only [intOf]
       omega
   have k1 : decide (16 < x.n1) = false := by simp; omega
   have k2 : decide (16 < (x.n1 : Int)) = false := by simp; omega
   by_cases h8 : x.n2 > 8
   case pos =>
     have k3 : decide (8 < x.n2) = true := by simp; omega
     have k4 : decide (8 < (x.n2 : Int)) = true := by simp; omega
     have hn := Aa.mk (skip.out (by unfold RJ; rw [decide_eq_false (p := x.n2 ≤ 8) (by omega)]; simp))
     clear h16 h8
     go_wp2_with fail
     go_roundw
     case rel => exact hn.out
     case measure =>
       simp only [intOf]
       omega
   have k3 : decide (8 < x.n2) = false := by simp; omega
   have k4 : decide (8 < (x.n2 : Int)) = false := by simp; omega
   have h16' : x.n1 ≤ 16 := by omega
   have h8' : x.n2 ≤ 8 := by omega
   have hRw : Aa (∀ W, Below w.heap.size w W → KZ W x.r (.slice x.A1 x.n1 x.c1) (.slice x.A2 x.n2 x.c2)) := ⟨fun W f => (hxi.out.below f).recW h16' h8'⟩
   have hGd := II wr x.r x.A1 x.A2 x.n1 x.c1 x.n2 x.c2 (hRw.out wr FR.out) (by have := hxi.out.YG; omega)
   obtain ⟨C, hC⟩ : ∃ C, C = itC x := ⟨_, rfl⟩
   have hGd : Calls Tryz.prog 7 #[.agg C.toArray] wr fun e w' => e = .returned (.bool (Dv x.r)) ∧ Below wr.heap.size wr w' := by rw [hC]; exact hGd
   have hlC : (Tryz.prog.info? 36).map (·.size) = some C.length := by rw [hC]; exact Bh
   rw [← hC] at hrr hrW
   replace hlC := Aa.mk hlC
   by_cases hgd : Dv x.r = true
   case neg =>
     have hgf : Dv x.r = false := by simpa using hgd
     rw [hgf] at hGd
     replace hGd := Aa.mk hGd
     have hsk := Aa.mk (hno.out (by unfold RJ; rw [hgf]; simp))
     clear h16 h8 h16' h8' hgd hgf c6 c8
     have c6 : wr.cell? ⟨b, o + i * 9 + 6, none⟩ = some (.slice x.A1 x.n1 x.c1) := by have := hrr.out 6 (.slice x.A1 x.n1 x.c1) (by rw [hC]; rfl); exact this
     have c8 : wr.cell? ⟨b, o + i * 9 + 8, none⟩ = some (.slice x.A2 x.n2 x.c2) := by have := hrr.out 8 (.slice x.A2 x.n2 x.c2) (by rw [hC]; rfl); exact this
     clear hC
     go_wp2_with (first
       | ((with_reducible refine Ac (N := 74) rfl ?_); (refine Jn (N := 74) rfl (by rfl) rfl rfl Tryz.underlying36 rfl hlC.out hrr.out ?_))
       | (go_at_call 7; refine hGd.out.mono ?_; clear hGd; rintro e w4 ⟨rfl, f4⟩; replace f4 := Aa.mk f4))
     go_roundw
     case rel =>
       exact ⟨i + 1, by omega, by rw [Int.natCast_add]; rfl, A, c, q, S, by rw [hsk.out], ⟨by rw [hsk.out]; exact own_below hGo.out f4.out⟩, ⟨by rw [hsk.out]; exact hLg.out.below f4.out⟩, ⟨by rw [hsk.out]; exact hq.out⟩, ⟨hB.out.trans (f4.out.mono hB.out.size)⟩⟩
     case measure =>
       simp only [intOf]
       omega
   rw [hgd] at hGd
   replace hGd := Aa.mk hGd
   have hok : RJ x = true := by unfold RJ; rw [hgd, decide_eq_true h16', decide_eq_true h8']; rfl
   have hst := Aa.mk (hyes.out hok)
   have hft := hxi.out.fit hok
   have hPt : Aa (∀ W, Below w.heap.size w W → Calls Tryz.prog 9 #[.agg C.toArray] W fun e w' => ∃ v', e = .returned v' ∧ Bq w' W.heap.size v' (encR x.r) ∧ Below W.heap.size W w') := ⟨fun W f => by rw [hC]; exact XF W x.r x.A1 x.A2 x.n1 x.c1 x.n2 x.c2 (hRw.out W f) hft hgd⟩
   have hbC : Aa (∀ W g', Bk W g' C.toArray 36 → Bk W g' (itA x) 36) := ⟨fun W g' h => by rw [hC] at h; exact h⟩
   have hsC : C.toArray.size = 9 := by rw [hC]; rfl
   have hen := Plain.Ei hft
   have hLn : (G i).length ≤ i := hG.out.len i
   have hl1000 : Aa ((G i).length ≤ 1000) := ⟨by have := h20.out; omega⟩
   have hrs : Aa (∀ r ∈ bytesOf (G i), Bytes r ∧ 1 ≤ r.length ∧ r.length ≤ 4000) := ⟨fun r hr => by
     obtain ⟨y, hy, rfl⟩ := List.mem_map.1 hr
     obtain ⟨hy1, hy2⟩ := hG.out.mem i y hy
     exact ⟨Plain.FC _, Plain.Ei ((hin.out y hy1).fit hy2)⟩⟩
   clear h16 h8 h16' h8' hgd c6 c8 hxi hno skip hRw
   have c6 : wr.cell? ⟨b, o + i * 9 + 6, none⟩ = some (.slice x.A1 x.n1 x.c1) := by have := hrr.out 6 (.slice x.A1 x.n1 x.c1) (by rw [hC]; rfl); exact this
   have c8 : wr.cell? ⟨b, o + i * 9 + 8, none⟩ = some (.slice x.A2 x.n2 x.c2) := by have := hrr.out 8 (.slice x.A2 x.n2 x.c2) (by rw [hC]; rfl); exact this
   clear hC
   obtain ⟨L, hL⟩ : ∃ L, L = (G i).length := ⟨_, rfl⟩
   rw [← hL] at hq hLn hGo ⊢
   replace hL := Aa.mk hL
   replace hLn := Aa.mk hLn
   replace hen := Aa.mk hen
   replace hft := Aa.mk hft
   replace hsC := Aa.mk hsC
   have hl20 : Aa ((G i).length ≤ 20) := ⟨by have := h20.out; have := hLn.out; have := hL.out; omega⟩
   by_cases hsy : ((L + 1 : Nat) : Int) = sy
   case pos =>
     replace hsy := Aa.mk hsy
     go_wp2_with (first
       | ((with_reducible refine Ac (N := 74) rfl ?_); (refine Jn (N := 74) rfl (by rfl) rfl rfl Tryz.underlying36 rfl hlC.out hrr.out ?_))
       | (go_at_call 7
          refine hGd.out.mono ?_
          clear hGd
          rintro e w4 ⟨rfl, f4⟩
          have hr4 := Aa.mk (hrW.out w4 (Bo f4 FR.out))
          have F4 : Aa (Below w.heap.size w w4) := ⟨Bo f4 FR.out⟩
          have B4 : Aa (Below w1.heap.size w1 w4) := ⟨Bo f4 hB.out⟩
          have o4 := Aa.mk (own_below hGo.out f4)
          have L4 := Aa.mk (hLg.out.below f4)
          clear f4)
       | ((with_reducible refine Ac (N := 82) rfl ?_); (refine BM (N := 82) rfl rfl rfl rfl Tryz.underlying36 rfl hlC.out hr4.out ?_))
       | ((with_reducible refine Ac (N := 83) rfl ?_); refine Lr rfl rfl Tryz.underlying22 Bh WQ (by decide) (by decide) (C := C.toArray) hsC.out rfl ?_; intro g5 w5 h5 b5 f5
          obtain ⟨v6, w6, hap, o6, g6⟩ := Oh w5 w1.heap.size _ (G i) g5 x (own_below o4.out f5.out) (hbC.out _ _ b5.out) hl1000.out (Nat.le_trans B4.out.size f5.out.size)
          obtain ⟨A6, c6', rfl⟩ : ∃ A6 c6', v6 = .slice A6 (L + 1) c6' := by
            obtain ⟨A6, c6', e6⟩ := o6.row.slice
            exact ⟨A6, c6', by rw [e6, List.length_append, ← hL.out]; rfl⟩
          have FG := DK g6
          have L6 := Aa.mk ((L4.out.below f5.out).other FG fun k hk => DU.bk (own_below o4.out f5.out) hk.symm)
          have B6 : Aa (Below w1.heap.size w1 w6) := ⟨(B4.out.trans (f5.out.mono B4.out.size)).trans (FG.below (fun k hk e => by have := ((own_below o4.out f5.out).lt k e.symm).1; omega) (Nat.le_trans B4.out.size f5.out.size))⟩
          have F6 : Aa (Below w.heap.size w w6) := ⟨f1.out.trans (B6.out.mono f1.out.size)⟩
          have hr6 := Aa.mk (hrW.out w6 F6.out)
          replace o6 := Aa.mk o6
          replace hap := Aa.mk hap
          clear FG g6 b5 f5 h5)
       | ((with_reducible refine Ac (N := 84) rfl ?_); refine Jo rfl rfl rfl rfl (Aa.out hap) ?_)
       | ((with_reducible refine Ac (N := 89) rfl ?_); (refine BM (N := 89) rfl rfl rfl rfl Tryz.underlying36 rfl hlC.out hr6.out ?_))
       | (go_at_call 9
          refine (hPt.out w6 F6.out).mono ?_
          rintro e w7 ⟨v7, rfl, o7, f7⟩
          obtain ⟨A7, c7, rfl⟩ := o7.slice
          replace o7 := Aa.mk o7
          replace f7 := Aa.mk f7
          have f8 : Aa (Below w7.heap.size w7 (w7.alloc (.cells #[Value.slice A7 (encR x.r).length c7] 39))) := ⟨Ah (Below.refl _ _) _⟩
          have f68 : Aa (Below w6.heap.size w6 (w7.alloc (.cells #[Value.slice A7 (encR x.r).length c7] 39))) := ⟨f7.out.trans (f8.out.mono f7.out.size)⟩
          have B8 : Aa (Below w1.heap.size w1 (w7.alloc (.cells #[Value.slice A7 (encR x.r).length c7] 39))) := ⟨B6.out.trans (f68.out.mono B6.out.size)⟩
          have o8 : Aa (DU _ w1.heap.size _ (G i ++ [x])) := ⟨own_below o6.out f68.out⟩
          have hA := Aa.mk (WY _ w1.heap.size w6.heap.size g d w7.heap.size q (bytesOf (G i)) _ (encR x.r) (L6.out.now.below f68.out) (Ob.new w7 (.cells #[Value.slice A7 (encR x.r).length c7] 39)) f7.out.size (own_below o7.out f8.out) (Plain.FC _) hen.out.1 hen.out.2 (fun r hr => (hrs.out r hr).2.2) (by rw [List.length_map]; exact hl20.out))
          clear f8 f68)
       | (go_at_call 8
          refine hA.out.mono ?_
          clear hA
          rintro e w9 ⟨rfl, L9, f9, n9⟩
          have B9 : Aa (Below w1.heap.size w1 w9) := ⟨B8.out.trans f9⟩
          have o9 := Aa.mk (DU.Ha o8.out n9)
          have hbs : bytesOf (G i) ++ [encR x.r] = bytesOf (G (i + 1)) := by rw [hst.out]; simp [bytesOf]
          rw [hbs] at L9
          replace L9 := Aa.mk L9
          clear f9 n9 hbs)
       | (go_at_call 10
          refine (X4 w9 w1.heap.size w9.heap.size g d q _ L9.out (by rw [hst.out]; simp [bytesOf])).mono ?_
          rintro e w10 ⟨rfl, L10, f10, n10⟩
          have B10 : Aa (Below w1.heap.size w1 w10) := ⟨B9.out.trans f10⟩
          have o10 := Aa.mk (DU.Ha o9.out n10)
          replace L10 := Aa.mk L10
          clear f10 n10))
     go_roundw
     case rel =>
       have hl1 : (G (i + 1)).length = L + 1 := by rw [hst.out, List.length_append, ← hL.out]; rfl
       refine ⟨i + 1, by omega, by rw [Int.natCast_add]; rfl, A6, c6', _, w10.heap.size, by rw [hl1], ⟨by rw [hst.out]; exact o10.out⟩, L10, ⟨fun h => ?_⟩, B10⟩
       rw [hl1] at h
       rw [List.length_map, hl1]; have := hsy.out; omega
     case measure =>
       simp only [intOf]
       omega
     case roundEnd =>
       rename_i h
       exact absurd (by have := hsy.out; omega) h
   replace hsy := Aa.mk hsy
   go_wp2_with (first
     | ((with_reducible refine Ac (N := 74) rfl ?_); (refine Jn (N := 74) rfl (by rfl) rfl rfl Tryz.underlying36 rfl hlC.out hrr.out ?_))
     | (go_at_call 7
        refine hGd.out.mono ?_
        clear hGd
        rintro e w4 ⟨rfl, f4⟩
        have hr4 := Aa.mk (hrW.out w4 (Bo f4 FR.out))
        have F4 : Aa (Below w.heap.size w w4) := ⟨Bo f4 FR.out⟩
        have B4 : Aa (Below w1.heap.size w1 w4) := ⟨Bo f4 hB.out⟩
        have o4 := Aa.mk (own_below hGo.out f4)
        have L4 := Aa.mk (hLg.out.below f4)
        clear f4)
     | ((with_reducible refine Ac (N := 82) rfl ?_); (refine BM (N := 82) rfl rfl rfl rfl Tryz.underlying36 rfl hlC.out hr4.out ?_))
     | ((with_reducible refine Ac (N := 83) rfl ?_); refine Lr rfl rfl Tryz.underlying22 Bh WQ (by decide) (by decide) (C := C.toArray) hsC.out rfl ?_; intro g5 w5 h5 b5 f5
        obtain ⟨v6, w6, hap, o6, g6⟩ := Oh w5 w1.heap.size _ (G i) g5 x (own_below o4.out f5.out) (hbC.out _ _ b5.out) hl1000.out (Nat.le_trans B4.out.size f5.out.size)
        obtain ⟨A6, c6', rfl⟩ : ∃ A6 c6', v6 = .slice A6 (L + 1) c6' := by
          obtain ⟨A6, c6', e6⟩ := o6.row.slice
          exact ⟨A6, c6', by rw [e6, List.length_append, ← hL.out]; rfl⟩
        have FG := DK g6
        have L6 := Aa.mk ((L4.out.below f5.out).other FG fun k hk => DU.bk (own_below o4.out f5.out) hk.symm)
        have B6 : Aa (Below w1.heap.size w1 w6) := ⟨(B4.out.trans (f5.out.mono B4.out.size)).trans (FG.below (fun k hk e => by have := ((own_below o4.out f5.out).lt k e.symm).1; omega) (Nat.le_trans B4.out.size f5.out.size))⟩
        have F6 : Aa (Below w.heap.size w w6) := ⟨f1.out.trans (B6.out.mono f1.out.size)⟩
        have hr6 := Aa.mk (hrW.out w6 F6.out)
        replace o6 := Aa.mk o6
        replace hap := Aa.mk hap
        clear FG g6 b5 f5 h5)
     | ((with_reducible refine Ac (N := 84) rfl ?_); refine Jo rfl rfl rfl rfl (Aa.out hap) ?_)
     | ((with_reducible refine Ac (N := 89) rfl ?_); (refine BM (N := 89) rfl rfl rfl rfl Tryz.underlying36 rfl hlC.out hr6.out ?_))
     | (go_at_call 9
        refine (hPt.out w6 F6.out).mono ?_
        rintro e w7 ⟨v7, rfl, o7, f7⟩
        obtain ⟨A7, c7, rfl⟩ := o7.slice
        replace o7 := Aa.mk o7
        replace f7 := Aa.mk f7
        have f8 : Aa (Below w7.heap.size w7 (w7.alloc (.cells #[Value.slice A7 (encR x.r).length c7] 39))) := ⟨Ah (Below.refl _ _) _⟩
        have f68 : Aa (Below w6.heap.size w6 (w7.alloc (.cells #[Value.slice A7 (encR x.r).length c7] 39))) := ⟨f7.out.trans (f8.out.mono f7.out.size)⟩
        have B8 : Aa (Below w1.heap.size w1 (w7.alloc (.cells #[Value.slice A7 (encR x.r).length c7] 39))) := ⟨B6.out.trans (f68.out.mono B6.out.size)⟩
        have o8 : Aa (DU _ w1.heap.size _ (G i ++ [x])) := ⟨own_below o6.out f68.out⟩
        have hA := Aa.mk (WY _ w1.heap.size w6.heap.size g d w7.heap.size q (bytesOf (G i)) _ (encR x.r) (L6.out.now.below f68.out) (Ob.new w7 (.cells #[Value.slice A7 (encR x.r).length c7] 39)) f7.out.size (own_below o7.out f8.out) (Plain.FC _) hen.out.1 hen.out.2 (fun r hr => (hrs.out r hr).2.2) (by rw [List.length_map]; exact hl20.out))
        clear f8 f68)
     | (go_at_call 8
        refine hA.out.mono ?_
        clear hA
        rintro e w9 ⟨rfl, L9, f9, n9⟩
        have B9 : Aa (Below w1.heap.size w1 w9) := ⟨B8.out.trans f9⟩
        have o9 := Aa.mk (DU.Ha o8.out n9)
        have hbs : bytesOf (G i) ++ [encR x.r] = bytesOf (G (i + 1)) := by rw [hst.out]; simp [bytesOf]
        rw [hbs] at L9
        replace L9 := Aa.mk L9
        clear f9 n9 hbs)
     | (go_at_call 10; exfalso; rename_i h; exact (Aa.out hsy) (by omega)))
   go_roundw
   case rel =>
     have hl1 : (G (i + 1)).length = L + 1 := by rw [hst.out, List.length_append, ← hL.out]; rfl
     refine ⟨i + 1, by omega, by rw [Int.natCast_add]; rfl, A6, c6', q, w9.heap.size, by rw [hl1], ⟨by rw [hst.out]; exact o9.out⟩, L9, ⟨fun h => ?_⟩, B9⟩
     rw [hl1] at h
     have := hsy.out; exact hq.out (by omega)
   case measure =>
     simp only [intOf]
     omega
end Go.Proofs.YtchfmgbjddopoaaGreatDoor.Hand
