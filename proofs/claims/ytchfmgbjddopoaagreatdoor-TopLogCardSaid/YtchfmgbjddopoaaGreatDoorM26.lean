import Derived.Test.YtchfmgbjddopoaaGreatDoorM13
import Derived.Test.YtchfmgbjddopoaaGreatDoorM25
set_option linter.unusedVariables false
set_option linter.unusedSimpArgs false
set_option maxHeartbeats 6400000
set_option maxRecDepth 100000
namespace Go.Proofs.YtchfmgbjddopoaaGreatDoor.Hand
open Go.RowKit Go.Proofs.YtchfmgbjddopoaaGreatDoorW.PrintWords Go.Proofs.YtchfmgbjddopoaaGreatDoorW.PrintLast Go.Proofs.YtchfmgbjddopoaaGreatDoorW.PrintMore
attribute [local go_sem ↓] Go.wp_at_zero Go.wp_at_succ
open Plain (Ky Wr Rc Ver Ent St Bytes Chs sortK ET)
theorem We (w : World) (B : Nat) (v : Value) (ks : List Ky) (h : DC w B v ks) (h0 : 0 < ks.length) (hn : ks.length ≤ 100000) :
   Calls Tryz.prog 176 #[v] w fun e w' => ∃ A c, e = .returned (.slice A (ET ks) c) ∧ Below w.heap.size w w' := by
 obtain ⟨A, c, rfl⟩ := h.row.slice
 obtain ⟨b, o, rfl, _, hc, hb, hr⟩ := h.row.at_ h0
 have hS : Aa (∀ W B, Below w.heap.size w W → Bk W B #[.slice (some ⟨b, o, none⟩) ks.length c] 111 → Calls Tryz.prog 89 #[.func (.func 274) #[] #[.pointer (some ⟨B, 0, none⟩)], .func (.func 91) #[] #[]] W fun e w' => ∃ v, e = .returned v ∧ DC w' W.heap.size v (sortK ks) ∧ Below W.heap.size W w') := ⟨fun W B hW hB => by
   refine (FZ W 274 _ (fun args w => by kernel_rfl) (fun xs => xs = ks) ks.length hn (fun xs e => by rw [e]; exact hn) (UK W B b o c ks hB (Nat.lt_of_lt_of_le hb hW.size) (fun j hj i u hu => (CQ (hW.block b hb) _).trans (hr j hj i u hu)) hc hn)).mono ?_
   rintro e w' ⟨v, xs, rfl, rfl, ho, _, f⟩
   refine ⟨v, rfl, ?_, f⟩
   unfold DC
   rw [Ci]
   exact ho⟩
 have hC : Aa (∀ W B v, DC W B v (sortK ks) → Calls Tryz.prog 226 #[v] W fun e w' => ∃ A c, e = .returned (.slice A (ET ks) c) ∧ Fr (fun k => v.ownBlock = some k) W w') := ⟨fun W B v hv => OZ W B v (sortK ks) hv (by rw [Ci]; exact hn)⟩
 obtain ⟨N, hN⟩ : ∃ N, N = ks.length := ⟨_, rfl⟩
 obtain ⟨M, hM⟩ : ∃ M, M = ET ks := ⟨_, rfl⟩
 rw [← hN] at hS ⊢
 rw [← hM] at hC ⊢
 clear h h0 hn hc hb hr hN hM
 go_enter Tryz.func176, Tryz.ntmps176
 go_wp2_with (first
   | (go_at_call 227; refine (MF _ _ _ _).mono ?_; rintro e w1 ⟨B, rfl, bB, f1⟩; have hT := hS.out w1 B f1 bB; replace f1 := Aa.mk f1; clear bB)
   | (go_at_call 89; refine hT.mono ?_; clear hT; rintro e w2 ⟨v2, rfl, ho, f2⟩; have hU := hC.out w2 _ v2 ho; replace ho := Aa.mk ho; replace f2 := Aa.mk f2)
   | (go_at_call 226; refine hU.mono ?_; clear hU; rintro e w3 ⟨A3, c3, rfl, f3⟩; replace f3 := Aa.mk f3))
 go_returns
 have F2 : Below w.heap.size w w2 := f1.out.trans (f2.out.mono f1.out.size)
 exact ⟨A3, c3, rfl, F2.trans (f3.out.below (fun k hk e => by have := (ho.out.lt k e).1; have := f1.out.size; omega) F2.size)⟩
theorem JJ (W : World) (B B2 : Nat) (v1 v2 : Value) (l1 l2 : List Ky) (h1 : DC W B v1 l1) (h2 : DC W B2 v2 l2) (hl : l1.length + l2.length ≤ 1000000) (hB : B ≤ W.heap.size) :
   ∃ v3 W3, (Builtin.append_ #[111, 111] 111 #[v1, v2]).run Tryz.prog W = .ok v3 W3 ∧ DC W3 B v3 (l1 ++ l2) ∧ W.grownBy W3 v1.ownBlock := by
 obtain ⟨i0, hi, hz0, hz1, hz2⟩ := info_parts PD
 have flat : ∀ l : List Ky, (l.flatMap AZ).length = l.length * 16 := fun l => Dx AZ 16 Ai l
 rcases h2.2 with ⟨rfl, h0⟩ | ⟨g, cap, cur, rfl, hb, hh, hc, hm, hs, ht⟩
 · have e0 : l2 = [] := List.eq_nil_of_length_eq_zero h0
   subst e0
   refine ⟨v1, W, ?_, by rw [List.append_nil]; exact h1, ⟨rfl, rfl, rfl, Nat.le_refl _, fun _ _ _ => rfl⟩⟩
   rcases h1.2 with ⟨rfl, _⟩ | ⟨g, cap, cur, rfl, hb, hh, hc, hm, hs, ht⟩
   · simp [Builtin.append_, run_underlying Tryz.underlying111, sizeOf, typeInfo, hi, Builtin.lenOf, Builtin.firstCells, storeCells]
   · simp [Builtin.append_, run_underlying Tryz.underlying111, sizeOf, typeInfo, hi, Builtin.lenOf, Builtin.firstCells, storeCells, hc]
 · obtain ⟨v', w', hr, o', g', _⟩ := run_append_own (P := Tryz.prog) W B 111 111 103 i0 (.agg Z16) 16 16 Tryz.underlying111 hi hz0 hz1 hz2 (by kernel_rfl) (by decide) v1 l1.length (l1.flatMap AZ) h1 ⟨g, 0, none⟩ l2.length cap (l2.flatMap AZ) (flat l2) (fun j u hu => h2.cells (g := g) rfl j u hu) (fun u hu => by
     obtain ⟨x, _, hx⟩ := List.mem_flatMap.1 hu
     exact Di x u hx) (by simp only [maxLen]; omega) (by omega) hB
   refine ⟨v', w', hr, ?_, g'⟩
   unfold DC
   rw [List.length_append, List.flatMap_append]
   exact o'
section
variable {P : Program} {ops : Array Oper} {rest : List Oper} {op : Oper} {a : Act} {W w3 : World} {Q : Exit → Act → World → Prop} {v1 v2 v3 : Value}
theorem Jo (hgd : op.guard = none) {s x : Operand} {t : TypeId} (ho : op.op = .call { callee := .builtin .append, args := #[s, x], argTypes := #[t, t] }) (hs : a.eval s = v1) (hx : a.eval x = v2)
   (hr : (Builtin.append_ #[t, t] op.type #[v1, v2]).run P W = .ok v3 w3) (h : wpList P ops Q rest (a.put op.dst v3) w3) : wpList P ops Q (op :: rest) a W := by
 refine wpList_plain hgd fun K hK => ?_
 unfold Oper.wp execOp
 simp only [ho, resolve, invoke, builtin, Sem.run_bind, Sem.run_pure, Result.andThen_ok, List.map_toArray, List.map_cons, List.map_nil, hs, hx, hr]
 exact hK _ _ h
end
theorem UU {W : World} {g : Nat} {x : Ky} (h : Bk W g (AZ x).toArray 103) : DC W 0 (.slice (some ⟨g, 0, none⟩) 1 1) [x] := by
 refine ⟨by simp [Ai], .inr ⟨g, 1, _, rfl, Nat.zero_le _, h, Nat.le_refl _, by simp [maxLen], by simp [Ai], ?_⟩⟩
 simp only [List.flatMap_cons, List.flatMap_nil, List.append_nil, List.length_cons, List.length_nil]
 rw [List.take_of_length_le (by rw [Ai]; decide)]
end Go.Proofs.YtchfmgbjddopoaaGreatDoor.Hand
namespace Go.Proofs.YtchfmgbjddopoaaGreatDoor.Hand
open Go.RowKit Go.Proofs.YtchfmgbjddopoaaGreatDoorW.PrintWords Go.Proofs.YtchfmgbjddopoaaGreatDoorW.PrintLast Go.Proofs.YtchfmgbjddopoaaGreatDoorW.PrintMore
attribute [local go_sem ↓] Go.wp_at_zero Go.wp_at_succ
open Plain (Ky Wr Rc Ver Ent St Bytes Inv Iu DL chainOf sortK ET)
theorem PO {P : Program} {ops : Array Oper} {o : Oper} {a : Act} {w w3 : World} {v1 v2 v3 : Value} {K : Act → World → Prop} {Q : Exit → Act → World → Prop} {E : Prop} (hgd : o.guard = none) {s x : Operand} {t : TypeId}
   (ho : o.op = .call { callee := .builtin .append, args := #[s, x], argTypes := #[t, t] }) (hs : a.eval s = v1) (hx : a.eval x = v2) (hr : (Builtin.append_ #[t, t] o.type #[v1, v2]).run P w = .ok v3 w3) (h : K (a.put o.dst v3) w3) :
   if Region.wanted o (yielded ops a.tmps) = true then Oper.wp P o a w K Q else E := by
 have hw : Region.wanted o (yielded ops a.tmps) = true := by simp [Region.wanted, hgd]
 rw [if_pos hw]
 unfold Oper.wp execOp
 simp only [ho, resolve, invoke, builtin, Sem.run_bind, Sem.run_pure, Result.andThen_ok, List.map_toArray, List.map_cons, List.map_nil, hs, hx, hr]
 exact h
theorem U3 (F : Nat → Prop) (w : World) (p : Nat) (ix : CZ) (s : St) (cb : CB) (ev : Int → Value) (N : Nat) (A : Option Addr) (n c : Nat) (ws : List Wr) (h : Aw F w p ix s cb ev) (hi : Inv s N) (hN : N ≤ 20000) (hw : Eo w (.slice A n c) ws) (h0 : 0 < ws.length) (hn : ws.length ≤ 16) :
   Calls Tryz.prog 122 #[.pointer (some ⟨p, 0, none⟩), .slice A n c] w fun x w' => x = .returned (.bool (Iu s ws)) ∧ Below w.heap.size w w' := by
 have hnn : n = ws.length := by
   obtain ⟨A', c', e'⟩ := hw.slice
   injection e'
 have q1 := hi.n1
 have q2 := hi.n2
 have q3 := hi.n3
 obtain ⟨K1, hK1⟩ : ∃ K1, K1 = sortK (s.chains.map (·.1)) := ⟨_, rfl⟩
 obtain ⟨K2, hK2⟩ : ∃ K2, K2 = sortK (s.held.map (·.1)) := ⟨_, rfl⟩
 have hl12 : K1.length + K2.length ≤ 40000 := by rw [hK1, hK2, Ci, Ci, List.length_map, List.length_map]; omega
 have hperm : ∀ l : List Ky, ET (K1 ++ K2 ++ l) = ET (s.chains.map (·.1) ++ s.held.map (·.1) ++ l) := fun l => Plain.JY (by rw [hK1, hK2]; exact ((Plain.EI _).append (Plain.EI _)).append (List.Perm.refl l))
 have hA1 : Aa (∀ W, Aw F W p ix s cb ev → Calls Tryz.prog 54 #[.pointer (some ⟨ix.sp, 0, none⟩)] W fun e w' => ∃ v, e = .returned v ∧ DC w' W.heap.size v K1 ∧ Below W.heap.size W w') := ⟨fun W hW => by
   refine (Hl F W ix.sp ix.mc s.chains cb hW.st (by omega)).mono ?_
   rintro e w' ⟨v, rfl, ho, _, f⟩
   exact ⟨v, rfl, by rw [hK1]; exact ho, f⟩⟩
 have hA2 : Aa (∀ W, Aw F W p ix s cb ev → Calls Tryz.prog 175 #[.pointer (some ⟨ix.tp, 0, none⟩)] W fun e w' => ∃ v, e = .returned v ∧ DC w' W.heap.size v K2 ∧ Below W.heap.size W w') := ⟨fun W hW => by
   refine (VE F W ix.tp ix.ml ix.mh s.tab s.held ev hW.tb (by omega)).mono ?_
   rintro e w' ⟨v, rfl, ho, _, f⟩
   exact ⟨v, rfl, by rw [hK2]; exact ho, f⟩⟩
 have hch : ∀ q ∈ s.chains, q.2.length ≤ 1000 := fun q hq => by have := (hi.cs q hq).few; omega
 have hCh : Aa (∀ W k, Aw F W p ix s cb ev → Calls Tryz.prog 56 #[.pointer (some ⟨ix.sp, 0, none⟩), .agg (AZ k).toArray] W fun e w' => ∃ A' c', e = .returned (.slice A' (chainOf k s.chains).length c') ∧ Below W.heap.size W w') := ⟨fun W k hW => by
   refine (EP F W ix.sp ix.mc s.chains cb k hW.st hch).mono ?_
   rintro e w' ⟨v', rfl, ho, f⟩
   rcases ho.2 with ⟨rfl, e0⟩ | ⟨g, cap, cur, rfl, _⟩
   · exact ⟨none, 0, by rw [e0], f⟩
   · exact ⟨_, cap, rfl, f⟩⟩
 have hFu : Aa (∀ W, Aw F W p ix s cb ev → Calls Tryz.prog 124 #[.pointer (some ⟨ix.tp, 0, none⟩)] W fun e w' => e = .returned (.bool (decide (100 ≤ s.tab.length))) ∧ w' = W) := ⟨fun W hW => QT F W ix.tp ix.ml ix.mh s.tab s.held ev hW.tb⟩
 obtain ⟨X, hX⟩ : ∃ X, X = Iu s ws := ⟨_, rfl⟩
 rw [← hX]
 replace h := Aa.mk h
 replace hw := Aa.mk hw
 replace hX := Aa.mk hX
 replace hn := Aa.mk hn
 replace h0 := Aa.mk h0
 replace hnn := Aa.mk hnn
 replace hperm := Aa.mk hperm
 replace hl12 := Aa.mk hl12
 clear hi hN hK1 hK2 hch q1 q2 q3
 go_enter Tryz.func122, Tryz.ntmps122
 go_upto_region 1 with fail
 go_cut [5] from 8 to 18 (fun s5 wx => Aa (DC wx w.heap.size s5 (K1 ++ K2) ∧ Below w.heap.size w wx))
 case first =>
   have hS : Aa (∀ W, Below w.heap.size w W → (W.cell? ⟨p, 0, none⟩ = some (.pointer (some ⟨ix.sp, 0, none⟩)) ∧ W.cell? ⟨p, 1, none⟩ = some (.pointer (some ⟨ix.tp, 0, none⟩)))) := ⟨fun W f => ⟨Bk.cell (Ob.Ad h.out.bp f) rfl, Bk.cell (Ob.Ad h.out.bp f) rfl⟩⟩
   have hq := hS.out w.drew (Ag (Below.refl _ _))
   go_split_ands
   go_region_law (first
     | (go_simp
        go_at_call 54
        refine (hA1.out _ (h.out.below (Ag (Below.refl _ _)))).mono ?_
        rintro r w1 ⟨v1, rfl, o1, f1⟩
        have G1 : Aa (Below w.heap.size w w1) := ⟨Bo f1 (Ag (Below.refl _ _))⟩
        have hq1 := hS.out w1 G1.out
        go_split_ands
        replace o1 := Aa.mk (AV (base' := w.heap.size) o1 (Nat.le_refl _))
        clear f1)
     | (go_simp
        go_at_call 175
        refine (hA2.out _ (h.out.below (Aa.out G1))).mono ?_
        rintro r w2 ⟨v2, rfl, o2, f2⟩
        have G2 : Aa (Below w.heap.size w w2) := ⟨Bo f2 (Aa.out G1)⟩
        obtain ⟨v3, w3, hap, o3, g3⟩ := JJ w2 w.heap.size _ v1 v2 K1 K2 (own_below (Aa.out o1) f2) o2 (by have := hl12.out; omega) G2.out.size
        have G3 : Aa (Below w.heap.size w w3) := ⟨G2.out.trans ((DK g3).below (fun k hk e => by have := ((own_below (Aa.out o1) f2).lt k e.symm).1; omega) G2.out.size)⟩
        replace o3 := Aa.mk o3
        replace hap := Aa.mk hap
        clear g3 f2 o2)
     | (refine PO (by rfl) (s := .tmp 12) (x := .tmp 17) (t := 111) (by rfl) (by rfl) (by rfl) (Aa.out hap) ?_))
   all_goals
     go_wp2_with fail
     go_meet
     exact ⟨o3.out, G3.out⟩
 case rest =>
   obtain ⟨ho5, F5⟩ := hcut.out
   replace ho5 := Aa.mk ho5
   replace F5 := Aa.mk F5
   clear hcut
   go_wp2_with fail
   go_loopw [5, 21] (fun a j w' => ∃ i : Nat, i ≤ n ∧ j = .int .i64 i ∧ DL s.chains (ws.take i) = true ∧ Aa (DC w' w.heap.size a (K1 ++ K2 ++ (ws.take i).map (·.key))) ∧ Aa (Below w.heap.size w w')) (fun _ j _ => n - (intOf j).toNat)
   case atStart => exact ⟨0, Nat.zero_le _, rfl, by simp [DL], ⟨by simpa using ho5.out⟩, F5⟩
   case round =>
     obtain ⟨i, hi, rfl, hsh, hRo, hB⟩ := hrel
     clear ho5 F5
     have Pw := Aa.mk (h.out.below hB.out)
     have cp0 : wr.cell? ⟨p, 0, none⟩ = some (.pointer (some ⟨ix.sp, 0, none⟩)) := Bk.cell Pw.out.bp rfl
     have cp1 : wr.cell? ⟨p, 1, none⟩ = some (.pointer (some ⟨ix.tp, 0, none⟩)) := Bk.cell Pw.out.bp rfl
     by_cases hlt : i < n
     case neg =>
       have hjn : ws.take i = ws := List.take_of_length_le (by rw [← hnn.out]; omega)
       rw [hjn] at hsh hRo
       have hlen : (K1 ++ K2 ++ ws.map (·.key)).length = K1.length + K2.length + ws.length := by simp; omega
       have hSo := We wr w.heap.size _ _ hRo.out (by rw [hlen]; have := h0.out; omega) (by rw [hlen]; have := hl12.out; have := hn.out; omega)
       rw [hperm.out] at hSo
       obtain ⟨T, hT⟩ : ∃ T, T = s.tab.length := ⟨_, rfl⟩
       obtain ⟨M, hM⟩ : ∃ M, M = ET (s.chains.map (·.1) ++ s.held.map (·.1) ++ ws.map (·.key)) := ⟨_, rfl⟩
       have hXX : X = (decide (T < 100) && decide (M ≤ 200)) := by rw [hX.out, Iu, hsh, Bool.true_and, hT, hM]
       have hF' := hFu.out wr Pw.out
       rw [← hM] at hSo
       rw [← hT] at hF'
       have d1 : decide ((i : Int) < (n : Int)) = false := by simp; omega
       have d2 : decide (i < n) = false := by simp; omega
       replace hSo := Aa.mk hSo
       replace hXX := Aa.mk hXX
       clear hjn hsh hlen hi hlt hT hM hRo
       by_cases hT1 : T < 100
       case neg =>
         have t1 : decide (100 ≤ T) = true := by simp; omega
         have hX0 : X = false := by rw [hXX.out, decide_eq_false hT1]; rfl
         replace hX0 := Aa.mk hX0
         clear hT1
         go_wp2_with (go_at_call 124; refine hF'.mono ?_; clear hF'; rintro r w6 ⟨rfl, hw6⟩; replace hw6 := hw6.symm; subst hw6)
         go_returns
         exact ⟨by rw [hX0.out]; rfl, hB.out⟩
       case pos =>
         have t1 : decide (100 ≤ T) = false := by simp; omega
         have hX1 : Aa (X = decide (M ≤ 200)) := ⟨by rw [hXX.out, decide_eq_true hT1]; rfl⟩
         clear hT1
         go_wp2_with (first
           | (go_at_call 124; refine hF'.mono ?_; clear hF'; rintro r w6 ⟨rfl, hw6⟩; replace hw6 := hw6.symm; subst hw6)
           | (go_at_call 176; refine hSo.out.mono ?_; rintro r w7 ⟨A7, c7, rfl, f7⟩; replace f7 := Aa.mk f7))
         go_returns
         have e1 : decide ((M : Int) ≤ 200) = decide (M ≤ 200) := by rw [decide_eq_decide]; omega
         exact ⟨by rw [hX1.out, ← e1]; rfl, hB.out.trans (f7.out.mono hB.out.size)⟩
     case pos =>
       obtain ⟨b, o, hA, hbn, hc, hbs, hr⟩ := (hw.out.below hB.out).at_ (by rw [← hnn.out]; omega)
       have hjw : i < ws.length := by rw [← hnn.out]; exact hlt
       replace hr := hr i hjw
       have htk : ws.take (i + 1) = ws.take i ++ [ws[i]!] := by
         rw [List.take_succ_eq_append_getElem hjw, getElem!_pos ws i hjw]
       have hxm : ws[i]! ∈ ws := by rw [getElem!_pos ws i hjw]; exact List.getElem_mem hjw
       generalize ws[i]! = x at hr htk hxm
       subst hA
       obtain ⟨LL, hLL⟩ : ∃ LL, LL = (chainOf x.key s.chains).length := ⟨_, rfl⟩
       have hshn : LL < 50 → DL s.chains (ws.take (i + 1)) = true := fun hl => by
         rw [htk]
         unfold DL at hsh ⊢
         rw [List.all_append, hsh]
         simpa [← hLL] using hl
       have hshf : ¬ LL < 50 → X = false := fun hl => by
         rw [hX.out, Iu]
         have : DL s.chains ws = false := by
           cases h : DL s.chains ws
           · rfl
           · exact absurd (Plain.Fz h x hxm) (by rw [← hLL]; exact hl)
         rw [this]
         rfl
       have hC1 : Aa (∀ W, Aw F W p ix s cb ev → Calls Tryz.prog 56 #[.pointer (some ⟨ix.sp, 0, none⟩), .agg (AZ x.key).toArray] W fun e w' => ∃ A' c', e = .returned (.slice A' LL c') ∧ Below W.heap.size W w') := ⟨fun W hW => by rw [hLL]; exact hCh.out W x.key hW⟩
       have hlk : Aa (i ≤ 16) := ⟨by have := hn.out; omega⟩
       replace hr := Aa.mk hr
       replace htk := Aa.mk htk
       replace hshn := Aa.mk hshn
       replace hshf := Aa.mk hshf
       have d1 : decide ((i : Int) < (n : Int)) = true := by simp; omega
       have d2 : decide (i < n) = true := by simp; omega
       clear hbn hjw hxm hsh hLL hbs
       go_upto_region 5 with (first
         | ((with_reducible refine Ac (N := 24) rfl ?_); (refine BM (N := 24) rfl rfl rfl rfl Tryz.underlying105 rfl (by rw [Bg]; exact Bl) hr.out ?_))
         | ((with_reducible refine Ac (N := 7) rfl ?_); refine Aj (N := 7) (C := Z18) rfl rfl (by first | (go_simp; done) | (go_simp; rfl)) ?_; intro g8 w7 h8 b8 f7)
         | ((with_reducible refine Af (t := 105) (p := 7) (v := .tmp 24) rfl ?_); (refine Ak rfl (ty := 105) (x := .tmp 7) (y := .tmp 24) (cells := (wrC x).toArray) rfl rfl rfl b8.out (by rw [AY]; exact Bl) (Eb x) (by rw [AY]; exact Nat.le_refl 18) (wrC x).toArray (Aq (AY x)) ?_); intro w8 b88 f8))
       have G8 : Aa (Below wr.heap.size wr w8) := ⟨((Fr.of_below (T := fun k => k = g8) f7.out).trans f8.out).below (fun k hk q => by have := h8.out; omega) (Nat.le_refl _)⟩
       have P8 := Aa.mk (Pw.out.below G8.out)
       have hS : Aa (∀ W, Below w8.heap.size w8 W → (W.cell? ⟨p, 0, none⟩ = some (.pointer (some ⟨ix.sp, 0, none⟩)) ∧ W.rangeAt g8 0 (AZ x.key))) := ⟨fun W f => ⟨Bk.cell (Ob.Ad P8.out.bp f) rfl, Bk.range (Ob.Ad b88.out f) 0 16 (BV x)⟩⟩
       have u79 := Tryz.underlying103
       have i79 : (Tryz.prog.info? 103).map (·.size) = some (AZ x.key).length := by rw [Ai]; exact AB
       by_cases hL5 : LL < 50
       case neg =>
         have e50 : decide (50 ≤ (LL : Int)) = true := by simp; omega
         have e51 : decide (50 ≤ LL) = true := by simp; omega
         have hX0 := Aa.mk (hshf.out hL5)
         clear hL5 cp0 cp1
         refine wp_region_noPanic ?_
         go_region_held_law (fun W => W.cell? ⟨p, 0, none⟩ = some (.pointer (some ⟨ix.sp, 0, none⟩)) ∧ W.rangeAt g8 0 (AZ x.key))
           (first | exact hS.out _ (Ag (Below.refl _ _)) | exact hS.out _ (Aa.out G9))
           ((go_at_call 56; refine (hC1.out _ (P8.out.below (Ag (Below.refl _ _)))).mono ?_; rintro r w9 ⟨A9, c9, rfl, f9⟩; have G9 : Aa (Below w8.heap.size w8 w9) := ⟨Bo f9 (Ag (Below.refl _ _))⟩; clear f9))
         all_goals
           refine NoPanic.normal ?_
           go_split_ands
           go_wp2_with fail
           go_returns
           exact ⟨by rw [hX0.out]; rfl, hB.out.trans ((Bo G9.out G8.out).mono hB.out.size)⟩
       case pos =>
         have e50 : decide (50 ≤ (LL : Int)) = false := by simp; omega
         have e51 : decide (50 ≤ LL) = false := by simp; omega
         have hs1 := Aa.mk (hshn.out hL5)
         clear hL5 cp0 cp1
         refine wp_region_noPanic ?_
         go_region_held_law (fun W => W.cell? ⟨p, 0, none⟩ = some (.pointer (some ⟨ix.sp, 0, none⟩)) ∧ W.rangeAt g8 0 (AZ x.key))
           (first | exact hS.out _ (Ag (Below.refl _ _)) | exact hS.out _ (Aa.out G9))
           ((go_at_call 56; refine (hC1.out _ (P8.out.below (Ag (Below.refl _ _)))).mono ?_; rintro r w9 ⟨A9, c9, rfl, f9⟩; have G9 : Aa (Below w8.heap.size w8 w9) := ⟨Bo f9 (Ag (Below.refl _ _))⟩; clear f9))
         all_goals
           refine NoPanic.normal ?_
           go_split_ands
           have G19 : Aa (Below wr.heap.size wr w9) := ⟨Bo G9.out G8.out⟩
           have b89 := Aa.mk (Ob.Ad b88.out G9.out)
           have o9 := Aa.mk (own_below hRo.out G19.out)
           have hs9 : Aa (w.heap.size ≤ w9.heap.size) := ⟨Nat.le_trans hB.out.size G19.out.size⟩
           clear u79 i79
           have hib : i < 1000000 := by have := hlk.out; omega
           go_wp2_with (first
             | ((with_reducible refine Ac (N := 36) rfl ?_); (refine Au (N := 36) rfl rfl rfl rfl b89.out Tryz.underlying103 rfl AB (AZ x.key) (BV x) (Ai x.key) ?_))
             | ((with_reducible refine Ac (N := 37) rfl ?_); refine Lr rfl rfl Tryz.underlying111 AB (by kernel_rfl) (by decide) (by decide) (C := (AZ x.key).toArray) (by simpa using Ai x.key) rfl ?_; intro g10 w10 h10 b10 f10
                obtain ⟨v11, w11, hap, o11, g11⟩ := JJ w10 w.heap.size 0 _ _ _ _ (own_below (Aa.out o9) f10.out) (UU b10.out) (by have := hl12.out; have := hlk.out; simp only [List.length_append, List.length_map, List.length_take, List.length_cons, List.length_nil]; omega) (Nat.le_trans hs9.out f10.out.size)
                have G11 : Aa (Below w.heap.size w w11) := ⟨(hB.out.trans (G19.out.mono hB.out.size)).trans ((f10.out.mono hs9.out).trans ((DK g11).below (fun k hk e => by have := ((own_below (Aa.out o9) f10.out).lt k e.symm).1; omega) (Nat.le_trans hs9.out f10.out.size)))⟩
                replace o11 := Aa.mk o11
                replace hap := Aa.mk hap
                clear g11)
             | ((with_reducible refine Ac (N := 38) rfl ?_); refine Jo rfl rfl rfl rfl (Aa.out hap) ?_))
           go_roundw
           case rel =>
             refine ⟨i + 1, by omega, by rw [Int.natCast_add]; rfl, hs1.out, ⟨?_⟩, G11⟩
             rw [htk.out, List.map_append]
             have := o11.out
             rw [List.append_assoc] at this
             rw [← List.append_assoc]
             simpa using o11.out
           case measure =>
             simp only [intOf]
             omega
end Go.Proofs.YtchfmgbjddopoaaGreatDoor.Hand
namespace Go.Proofs.YtchfmgbjddopoaaGreatDoor.Hand
open Go.RowKit Go.Proofs.YtchfmgbjddopoaaGreatDoorW.PrintWords Go.Proofs.YtchfmgbjddopoaaGreatDoorW.PrintLast Go.Proofs.YtchfmgbjddopoaaGreatDoorW.PrintMore
attribute [local go_sem ↓] Go.wp_at_zero Go.wp_at_succ
open Plain (Ky Wr Rc Ver Ent St Bytes Inv Iu CP AX QG TY Ez CU ZJ Gi)
theorem VS (F : Nat → Prop) (w : World) (p : Nat) (ix : CZ) (s : St) (cb : CB) (ev : Int → Value) (N : Nat) (e : Ent) (A : Option Addr) (n c : Nat) (h : Aw F w p ix s cb ev) (hi : Inv s N) (hN : N ≤ 20000) (hw : Eo w (.slice A n c) e.ws) (hg : Ez e = true) :
   Calls Tryz.prog 82 #[.pointer (some ⟨p, 0, none⟩), .agg (IG e (.slice A n c))] w fun x w' => x = .returned (.int .i64 (QG s e)) ∧ Below w.heap.size w w' := by
 have hp := Plain.BL hg
 have h0 : 0 < e.ws.length := by omega
 have hn : e.ws.length ≤ 16 := hp.2.2.1.2
 have hm : TY e = true := by
   unfold Ez at hg
   simp only [Bool.and_eq_true] at hg
   exact hg.1.1
 have hch : ∀ q ∈ s.chains, q.2.length ≤ 1000 := fun q hq => by have := (hi.cs q hq).few; omega
 have hM : Aa (∀ W, Eo W (.slice A n c) e.ws → Calls Tryz.prog 67 #[.agg (E6 e.id e.t0 e.n0 e.t1 e.n1 (.slice A n c))] W fun r w' => r = .returned (.bool true) ∧ Below W.heap.size W w') := ⟨fun W hW => by have := Rh W e A n c hW (by omega); rwa [hm] at this⟩
 have hS : Aa (∀ W, Aw F W p ix s cb ev → Calls Tryz.prog 85 #[.pointer (some ⟨p, 0, none⟩), .int .i64 e.id] W fun r w' => r = .returned (.int .i64 (AX s e.id)) ∧ Below W.heap.size W w') := ⟨fun W hW => D9 F W p ix s cb ev e.id hW (H6 hi)⟩
 have hC : Aa (∀ W, Aw F W p ix s cb ev → Eo W (.slice A n c) e.ws → Calls Tryz.prog 121 #[.pointer (some ⟨p, 0, none⟩), .agg (E6 e.id e.t0 e.n0 e.t1 e.n1 (.slice A n c))] W fun r w' => r = .returned (.bool (CP s e)) ∧ Below W.heap.size W w') := ⟨fun W hW hr => MM F W p ix s cb ev e A n c hW hr h0 hn hch⟩
 have hR : Aa (∀ W, Aw F W p ix s cb ev → Eo W (.slice A n c) e.ws → Calls Tryz.prog 122 #[.pointer (some ⟨p, 0, none⟩), .slice A n c] W fun r w' => r = .returned (.bool (Iu s e.ws)) ∧ Below W.heap.size W w') := ⟨fun W hW hr => U3 F W p ix s cb ev N A n c e.ws hW hi hN hr h0 hn⟩
 obtain ⟨X, hX⟩ : ∃ X, X = AX s e.id := ⟨_, rfl⟩
 obtain ⟨Y, hY⟩ : ∃ Y, Y = CP s e := ⟨_, rfl⟩
 obtain ⟨Z, hZ⟩ : ∃ Z, Z = Iu s e.ws := ⟨_, rfl⟩
 have hres : QG s e = if X ≠ 0 then 10 else if Y then 9 else if Z then 0 else 6 := by rw [hX, hY, hZ]; rfl
 rw [hres]
 rw [← hX] at hS
 rw [← hY] at hC
 rw [← hZ] at hR
 replace h := Aa.mk h
 replace hw := Aa.mk hw
 clear hp h0 hn hm hch hg hi hN hX hY hZ hres
 show Calls Tryz.prog 82 #[.pointer (some ⟨p, 0, none⟩), .agg (E6 e.id e.t0 e.n0 e.t1 e.n1 (.slice A n c))] w _
 have hXX : (X = 0) ∨ (X ≠ 0 ∧ (X == 0) = false) := by
   by_cases hx : X = 0
   · exact .inl hx
   · exact .inr ⟨hx, by simpa using hx⟩
 rcases hXX with rfl | ⟨hx, dx⟩
 case inr =>
   rw [if_pos hx]
   clear hx hC hR
   go_enter Tryz.func82, Tryz.ntmps82
   go_wp2_with (first
     | ((with_reducible refine Ac (N := 3) rfl ?_); refine Aj (N := 3) (C := E6 e.id e.t0 e.n0 e.t1 e.n1 (.slice A n c)) rfl rfl (by first | (go_simp; done) | (go_simp; rfl)) ?_; intro g3 w1 h3 b3 f1; have P1 := Aa.mk (h.out.below f1.out); have W1 := Aa.mk (hw.out.below f1.out))
     | ((with_reducible refine Ac (N := 6) rfl ?_); (refine Au (N := 6) rfl rfl rfl rfl b3.out Tryz.underlying72 rfl CO (E6 e.id e.t0 e.n0 e.t1 e.n1 (.slice A n c)).toList (AU rfl) rfl ?_))
     | (go_at_call 67; refine (hM.out _ W1.out).mono ?_; rintro r w2 ⟨rfl, f2⟩; have P2 := Aa.mk (P1.out.below f2); have b32 := Aa.mk (Ob.Ad b3.out f2); have c0 : w2.cell? ⟨g3, 0, none⟩ = some (.int .i64 e.id) := Bk.cell b32.out rfl; replace f2 := Aa.mk f2)
     | (go_at_call 85; refine (hS.out _ P2.out).mono ?_; rintro r w3 ⟨rfl, f3⟩; replace f3 := Aa.mk f3))
   go_returns
   exact ⟨rfl, f1.out.trans ((Bo f3.out f2.out).mono f1.out.size)⟩
 rw [if_neg (by simp)]
 cases Y
 case true =>
   clear hR
   go_enter Tryz.func82, Tryz.ntmps82
   go_wp2_with (first
     | ((with_reducible refine Ac (N := 3) rfl ?_); refine Aj (N := 3) (C := E6 e.id e.t0 e.n0 e.t1 e.n1 (.slice A n c)) rfl rfl (by first | (go_simp; done) | (go_simp; rfl)) ?_; intro g3 w1 h3 b3 f1; have P1 := Aa.mk (h.out.below f1.out); have W1 := Aa.mk (hw.out.below f1.out))
     | ((with_reducible refine Ac (N := 6) rfl ?_); (refine Au (N := 6) rfl rfl rfl rfl b3.out Tryz.underlying72 rfl CO (E6 e.id e.t0 e.n0 e.t1 e.n1 (.slice A n c)).toList (AU rfl) rfl ?_))
     | (go_at_call 67; refine (hM.out _ W1.out).mono ?_; rintro r w2 ⟨rfl, f2⟩; have P2 := Aa.mk (P1.out.below f2); have W2 := Aa.mk (W1.out.below f2); have b32 := Aa.mk (Ob.Ad b3.out f2); have c0 : w2.cell? ⟨g3, 0, none⟩ = some (.int .i64 e.id) := Bk.cell b32.out rfl; replace f2 := Aa.mk f2)
     | (go_at_call 85; refine (hS.out _ P2.out).mono ?_; rintro r w3 ⟨rfl, f3⟩; have P3 := Aa.mk (P2.out.below f3); have W3 := Aa.mk (W2.out.below f3); have b33 := Aa.mk (Ob.Ad b32.out f3); replace f3 := Aa.mk f3; clear c0)
     | ((with_reducible refine Ac (N := 17) rfl ?_); (refine Au (N := 17) rfl rfl rfl rfl b33.out Tryz.underlying72 rfl CO (E6 e.id e.t0 e.n0 e.t1 e.n1 (.slice A n c)).toList (AU rfl) rfl ?_))
     | (go_at_call 121; refine (hC.out _ P3.out W3.out).mono ?_; rintro r w4 ⟨rfl, f4⟩; replace f4 := Aa.mk f4))
   go_returns
   exact ⟨rfl, f1.out.trans ((Bo f4.out (Bo f3.out f2.out)).mono f1.out.size)⟩
 cases Z
 all_goals
   go_enter Tryz.func82, Tryz.ntmps82
   go_wp2_with (first
     | ((with_reducible refine Ac (N := 3) rfl ?_); refine Aj (N := 3) (C := E6 e.id e.t0 e.n0 e.t1 e.n1 (.slice A n c)) rfl rfl (by first | (go_simp; done) | (go_simp; rfl)) ?_; intro g3 w1 h3 b3 f1; have P1 := Aa.mk (h.out.below f1.out); have W1 := Aa.mk (hw.out.below f1.out))
     | ((with_reducible refine Ac (N := 6) rfl ?_); (refine Au (N := 6) rfl rfl rfl rfl b3.out Tryz.underlying72 rfl CO (E6 e.id e.t0 e.n0 e.t1 e.n1 (.slice A n c)).toList (AU rfl) rfl ?_))
     | (go_at_call 67; refine (hM.out _ W1.out).mono ?_; rintro r w2 ⟨rfl, f2⟩; have P2 := Aa.mk (P1.out.below f2); have W2 := Aa.mk (W1.out.below f2); have b32 := Aa.mk (Ob.Ad b3.out f2); have c0 : w2.cell? ⟨g3, 0, none⟩ = some (.int .i64 e.id) := Bk.cell b32.out rfl; replace f2 := Aa.mk f2)
     | (go_at_call 85; refine (hS.out _ P2.out).mono ?_; rintro r w3 ⟨rfl, f3⟩; have P3 := Aa.mk (P2.out.below f3); have W3 := Aa.mk (W2.out.below f3); have b33 := Aa.mk (Ob.Ad b32.out f3); replace f3 := Aa.mk f3; clear c0)
     | ((with_reducible refine Ac (N := 17) rfl ?_); (refine Au (N := 17) rfl rfl rfl rfl b33.out Tryz.underlying72 rfl CO (E6 e.id e.t0 e.n0 e.t1 e.n1 (.slice A n c)).toList (AU rfl) rfl ?_))
     | (go_at_call 121; refine (hC.out _ P3.out W3.out).mono ?_; rintro r w4 ⟨rfl, f4⟩; have P4 := Aa.mk (P3.out.below f4); have W4 := Aa.mk (W3.out.below f4); have b34 := Aa.mk (Ob.Ad b33.out f4); have c5 : w4.cell? ⟨g3, 5, none⟩ = some (.slice A n c) := Bk.cell b34.out rfl; replace f4 := Aa.mk f4)
     | (go_at_call 122; refine (hR.out _ P4.out W4.out).mono ?_; rintro r w5 ⟨rfl, f5⟩; replace f5 := Aa.mk f5))
   go_returns
   exact ⟨rfl, f1.out.trans ((Bo f5.out (Bo f4.out (Bo f3.out f2.out))).mono f1.out.size)⟩
theorem Aw.table {F : Nat → Prop} {w w' : World} {p : Nat} {ix : CZ} {s : St} {cb : CB} {ev ev' : Int → Value} {tab : List (Int × Ent)} {held : List (Ky × Int)} (h : Aw F w p ix s cb ev) (f : Fr (fun k => k = ix.ml ∨ k = ix.mh) w w')
   (ht : TabAt (fun k => F k ∨ w.heap.size ≤ k ∧ k < w'.heap.size) w' ix.tp ix.ml ix.mh tab held ev') : Aw (fun k => F k ∨ w.heap.size ≤ k ∧ k < w'.heap.size) w' p ix { s with tab := tab, held := held } cb ev' := by
 have hM : ∀ k, (k = ix.ml ∨ k = ix.mh) → ∃ es c, Mp w k es c := fun k hk => hk.elim (fun e => e ▸ h.tb.l.mp) fun e => e ▸ h.tb.h.mp
 refine ⟨Ob.fr h.bp f (fun e => (hM _ e).elim fun es hc => hc.elim fun c hm => BR h.bp hm rfl), (h.st.frM f (fun k hk => ⟨fun e => ?_, hM k hk⟩)).mono fun k hk => .inl hk, ht, h.ov.fr f (fun e => ?_), .inl h.fp, .inl h.fo, h.d, fun k hk => hk.elim (fun hk => Nat.lt_of_lt_of_le (h.few k hk) f.size) fun hk => hk.2⟩
 · rcases hk with hk | hk
   · exact h.d.2.2.2.1 (e.symm.trans hk)
   · exact h.d.2.2.2.2 (e.symm.trans hk)
 · exact e.elim h.d.2.1 h.d.2.2.1
theorem Ov (F : Nat → Prop) (w : World) (p : Nat) (ix : CZ) (s : St) (cb : CB) (ev : Int → Value) (N : Nat) (e : Ent) (A : Option Addr) (n c : Nat) (h : Aw F w p ix s cb ev) (hi : Inv s N) (hN : N ≤ 20000) (hw : Eo w (.slice A n c) e.ws) (hg : Ez e = true) (hwF : ∀ k, (Value.slice A n c).ownBlock = some k → ¬ F k) :
   Calls Tryz.prog 50 #[.pointer (some ⟨p, 0, none⟩), .agg (IG e (.slice A n c))] w fun x w' => x = .returned (.int .i64 (CU s e).1) ∧ (∃ ev', Aw (fun k => F k ∨ w.heap.size ≤ k ∧ k < w'.heap.size) w' p ix (CU s e).2 cb ev') ∧ Fr F w w' := by
 have hp := Plain.BL hg
 have hG : Aa (∀ W, Eo W (.slice A n c) e.ws → Calls Tryz.prog 28 #[.agg (E6 e.id e.t0 e.n0 e.t1 e.n1 (.slice A n c))] W fun r w' => r = .returned (.bool true) ∧ Below W.heap.size W w') := ⟨fun W hW => by have := Je W e A n c hW (by omega); rwa [hg] at this⟩
 have hM : Aa (∀ W, Aw F W p ix s cb ev → Eo W (.slice A n c) e.ws → Calls Tryz.prog 82 #[.pointer (some ⟨p, 0, none⟩), .agg (E6 e.id e.t0 e.n0 e.t1 e.n1 (.slice A n c))] W fun r w' => r = .returned (.int .i64 (QG s e)) ∧ Below W.heap.size W w') := ⟨fun W hW hr => VS F W p ix s cb ev N e A n c hW hi hN hr hg⟩
 by_cases h0 : QG s e = 0
 case neg =>
   have e1 : CU s e = (QG s e, s) := by unfold CU; rw [if_neg h0]
   rw [e1]
   obtain ⟨X, hX⟩ : ∃ X, X = QG s e := ⟨_, rfl⟩
   rw [← hX] at h0 hM ⊢
   have dx : (X == 0) = false := by simpa using h0
   replace h := Aa.mk h
   replace hw := Aa.mk hw
   clear hp hi hN hg hwF h0 e1 hX
   show Calls Tryz.prog 50 #[.pointer (some ⟨p, 0, none⟩), .agg (E6 e.id e.t0 e.n0 e.t1 e.n1 (.slice A n c))] w _
   go_enter Tryz.func50, Tryz.ntmps50
   go_wp2_with (first
     | ((with_reducible refine Ac (N := 3) rfl ?_); refine Aj (N := 3) (C := E6 e.id e.t0 e.n0 e.t1 e.n1 (.slice A n c)) rfl rfl (by first | (go_simp; done) | (go_simp; rfl)) ?_; intro g3 w1 h3 b3 f1; have P1 := Aa.mk (h.out.below f1.out); have W1 := Aa.mk (hw.out.below f1.out))
     | ((with_reducible refine Ac (N := 6) rfl ?_); (refine Au (N := 6) rfl rfl rfl rfl b3.out Tryz.underlying72 rfl CO (E6 e.id e.t0 e.n0 e.t1 e.n1 (.slice A n c)).toList (AU rfl) rfl ?_))
     | (go_at_call 28; refine (hG.out _ W1.out).mono ?_; rintro r w2 ⟨rfl, f2⟩; have P2 := Aa.mk (P1.out.below f2); have W2 := Aa.mk (W1.out.below f2); have b32 := Aa.mk (Ob.Ad b3.out f2); replace f2 := Aa.mk f2)
     | ((with_reducible refine Ac (N := 10) rfl ?_); (refine Au (N := 10) rfl rfl rfl rfl b32.out Tryz.underlying72 rfl CO (E6 e.id e.t0 e.n0 e.t1 e.n1 (.slice A n c)).toList (AU rfl) rfl ?_))
     | (go_at_call 82; refine (hM.out _ P2.out W2.out).mono ?_; rintro r w3 ⟨rfl, f3⟩; replace f3 := Aa.mk f3))
   go_returns
   have FB : Below w.heap.size w w3 := f1.out.trans ((Bo f3.out f2.out).mono f1.out.size)
   exact ⟨rfl, ⟨ev, (h.out.below FB).mono (fun k hk => .inl hk) fun k hk => hk.elim (fun hk => Nat.lt_of_lt_of_le (h.out.few k hk) FB.size) fun hk => hk.2⟩, Fr.of_below FB⟩
 have e1 : CU s e = (0, ZJ s e) := by unfold CU; rw [if_pos h0]
 rw [e1]
 rw [h0] at hM
 have hst : AX s e.id = 0 := by
   unfold QG at h0
   by_cases hx : AX s e.id = 0
   · exact hx
   · rw [if_pos hx] at h0; omega
 have hcf : CP s e = false := by
   unfold QG at h0
   rw [if_neg (by simpa using hst)] at h0
   cases hx : CP s e
   · rfl
   · rw [hx] at h0; simp at h0
 have hrm : Iu s e.ws = true := by
   unfold QG at h0
   rw [if_neg (by simpa using hst), hcf] at h0
   cases hx : Iu s e.ws
   · rw [hx] at h0; simp at h0
   · rfl
 have hheld : Gi s.held e.ws = false := by
   unfold CP at hcf
   rw [Bool.or_eq_false_iff] at hcf
   exact hcf.1
 have htab : s.tab.length < 100 := by
   unfold Iu at hrm
   simp only [Bool.and_eq_true, decide_eq_true_eq] at hrm
   exact hrm.2.1
 have hid := (hi.WT hst).2
 have hT : Aa (∀ W, Aw F W p ix s cb ev → Eo W (.slice A n c) e.ws → Calls Tryz.prog 83 #[.pointer (some ⟨ix.tp, 0, none⟩), .agg (E6 e.id e.t0 e.n0 e.t1 e.n1 (.slice A n c))] W fun x w' => x = .returned (.int .i64 0) ∧ (∃ ev', Aw (fun k => F k ∨ W.heap.size ≤ k ∧ k < w'.heap.size) w' p ix (ZJ s e) cb ev') ∧ Fr F W w') := ⟨fun W hW hr => by
   refine (Xz F W ix.tp ix.ml ix.mh s.tab s.held ev e A n c hW.tb hr hg hid hheld htab hW.few hwF).mono ?_
   rintro x w' ⟨rfl, ev', ht, f⟩
   exact ⟨rfl, ⟨ev', hW.table f ht⟩, f.weaken fun k _ hk => hk.elim (fun q => q ▸ hW.tb.fl) fun q => q ▸ hW.tb.fh⟩⟩
 replace h := Aa.mk h
 replace hw := Aa.mk hw
 clear hp hi hN hg hwF h0 e1 hst hcf hrm hheld htab hid
 show Calls Tryz.prog 50 #[.pointer (some ⟨p, 0, none⟩), .agg (E6 e.id e.t0 e.n0 e.t1 e.n1 (.slice A n c))] w _
 go_enter Tryz.func50, Tryz.ntmps50
 go_upto_region 6 with (first
   | ((with_reducible refine Ac (N := 3) rfl ?_); refine Aj (N := 3) (C := E6 e.id e.t0 e.n0 e.t1 e.n1 (.slice A n c)) rfl rfl (by first | (go_simp; done) | (go_simp; rfl)) ?_; intro g3 w1 h3 b3 f1; have P1 := Aa.mk (h.out.below f1.out); have W1 := Aa.mk (hw.out.below f1.out))
   | ((with_reducible refine Ac (N := 6) rfl ?_); (refine Au (N := 6) rfl rfl rfl rfl b3.out Tryz.underlying72 rfl CO (E6 e.id e.t0 e.n0 e.t1 e.n1 (.slice A n c)).toList (AU rfl) rfl ?_))
   | (go_at_call 28; refine (hG.out _ W1.out).mono ?_; rintro r w2 ⟨rfl, f2⟩; have P2 := Aa.mk (P1.out.below f2); have W2 := Aa.mk (W1.out.below f2); have b32 := Aa.mk (Ob.Ad b3.out f2); replace f2 := Aa.mk f2)
   | ((with_reducible refine Ac (N := 10) rfl ?_); (refine Au (N := 10) rfl rfl rfl rfl b32.out Tryz.underlying72 rfl CO (E6 e.id e.t0 e.n0 e.t1 e.n1 (.slice A n c)).toList (AU rfl) rfl ?_))
   | (go_at_call 82; refine (hM.out _ P2.out W2.out).mono ?_; rintro r w3 ⟨rfl, f3⟩; have P3 := Aa.mk (P2.out.below f3); have W3 := Aa.mk (W2.out.below f3); have b33 := Aa.mk (Ob.Ad b32.out f3); replace f3 := Aa.mk f3))
 have FB : Aa (Below w.heap.size w w3) := ⟨f1.out.trans ((Bo f3.out f2.out).mono f1.out.size)⟩
 have c1 : w3.drew.cell? ⟨p, 1, none⟩ = some (.pointer (some ⟨ix.tp, 0, none⟩)) := Bk.cell (Ob.drew P3.out.bp) rfl
 have e0 := Bk.cell (Ob.drew b33.out) (j := 0) rfl
 have e1 := Bk.cell (Ob.drew b33.out) (j := 1) rfl
 have e2 := Bk.cell (Ob.drew b33.out) (j := 2) rfl
 have e3 := Bk.cell (Ob.drew b33.out) (j := 3) rfl
 have e4 := Bk.cell (Ob.drew b33.out) (j := 4) rfl
 have e5 := Bk.cell (Ob.drew b33.out) (j := 5) rfl
 go_region_with (go_at_call 83
                 refine (hT.out _ (P3.out.below (Ag (Below.refl _ _))) (W3.out.below (Ag (Below.refl _ _)))).mono ?_
                 rintro x w4 ⟨rfl, ⟨ev', P4⟩, f4⟩)
 all_goals
   go_wp2_with fail
   go_returns
   have hs4 : w.heap.size ≤ w3.drew.heap.size := FB.out.size
   refine ⟨rfl, ⟨ev', P4.mono (fun k hk => hk.imp (fun q => q) fun q => ⟨Nat.le_trans hs4 q.1, q.2⟩) fun k hk => hk.elim (fun hk => Nat.lt_of_lt_of_le (h.out.few k hk) (Nat.le_trans hs4 f4.size)) fun hk => hk.2⟩, ((Fr.of_below FB.out).drew).trans f4⟩
end Go.Proofs.YtchfmgbjddopoaaGreatDoor.Hand
