import Derived.Lib.SlicesCompact
import Derived.Lib.SliceRun
import Derived.Shelf.SlicesQ.Equal
import Derived.Test.YtchfmgbjddopoaaGreatDoorM11
import Derived.Test.YtchfmgbjddopoaaGreatDoorM13
import Derived.Test.YtchfmgbjddopoaaGreatDoorM15
import Derived.Test.YtchfmgbjddopoaaGreatDoorM21
import Derived.Test.YtchfmgbjddopoaaGreatDoorM24
set_option linter.unusedVariables false
set_option linter.unusedSimpArgs false
set_option maxHeartbeats 6400000
set_option maxRecDepth 100000
namespace Go.Proofs.YtchfmgbjddopoaaGreatDoor.Hand
open Go.RowKit Go.Proofs.YtchfmgbjddopoaaGreatDoorW.PrintWords Go.Proofs.YtchfmgbjddopoaaGreatDoorW.PrintLast Go.Proofs.YtchfmgbjddopoaaGreatDoorW.PrintMore
attribute [local go_sem ↓] Go.wp_at_zero Go.wp_at_succ
open Plain (Ky Wr Rc Ver Ent St Bytes FP CP Gi)
theorem MM (F : Nat → Prop) (w : World) (p : Nat) (ix : CZ) (s : St) (cb : CB) (ev : Int → Value) (e : Ent) (A : Option Addr) (n c : Nat) (h : Aw F w p ix s cb ev) (hw : Eo w (.slice A n c) e.ws) (h0 : 0 < e.ws.length) (hn : e.ws.length ≤ 16) (hc : ∀ q ∈ s.chains, q.2.length ≤ 1000) :
   Calls Tryz.prog 121 #[.pointer (some ⟨p, 0, none⟩), .agg (IG e (.slice A n c))] w fun x w' => x = .returned (.bool (CP s e)) ∧ Below w.heap.size w w' := by
 have hH : Aa (∀ W, Aw F W p ix s cb ev → Eo W (.slice A n c) e.ws → Calls Tryz.prog 123 #[.pointer (some ⟨ix.tp, 0, none⟩), .slice A n c] W fun r w' => r = .returned (.bool (Gi s.held e.ws)) ∧ Below W.heap.size W w') := ⟨fun W hW hr => QR F W ix.tp ix.ml ix.mh s.tab s.held ev A n c e.ws hW.tb hr h0 (by omega)⟩
 have hA : Aa (∀ W gp ge, Aw F W p ix s cb ev → Eo W (.slice A n c) e.ws → Bk W gp #[.pointer (some ⟨p, 0, none⟩)] 44 → Bk W ge (E6 e.id e.t0 e.n0 e.t1 e.n1 (.slice A n c)) 72 → Calls Tryz.prog 172 #[.slice A n c, .func (.func 173) #[] #[.pointer (some ⟨gp, 0, none⟩), .pointer (some ⟨ge, 0, none⟩)]] W fun r w' => r = .returned (.bool (e.ws.any (FP s.chains e.t0 e.n0))) ∧ Below W.heap.size W w') := ⟨fun W gp ge hW hr h1 h2 => Xc (FP s.chains e.t0 e.n0) 173 _ (fun args w => by kernel_rfl) W A n c e.ws hr h0 (by omega) fun W2 hW2 x => Zf F W2 gp ge p ix s cb ev e _ x (hW.below hW2) hc (Ob.Ad h1 hW2) (Ob.Ad h2 hW2)⟩
 obtain ⟨X, hX⟩ : ∃ X, X = Gi s.held e.ws := ⟨_, rfl⟩
 obtain ⟨Y, hY⟩ : ∃ Y, Y = e.ws.any (FP s.chains e.t0 e.n0) := ⟨_, rfl⟩
 have hres : CP s e = (X || Y) := by rw [hX, hY]; rfl
 rw [← hX] at hH
 rw [← hY] at hA
 rw [hres]
 replace h := Aa.mk h
 replace hw := Aa.mk hw
 clear h0 hn hc hX hY hres
 show Calls Tryz.prog 121 #[.pointer (some ⟨p, 0, none⟩), .agg (E6 e.id e.t0 e.n0 e.t1 e.n1 (.slice A n c))] w _
 go_enter Tryz.func121, Tryz.ntmps121
 go_upto_region 1 with (first
   | ((with_reducible refine Ac (N := 2) rfl ?_); refine Aj (N := 2) (C := #[.pointer (some ⟨p, 0, none⟩)]) rfl rfl (by first | (go_simp; done) | (go_simp; rfl)) ?_; intro g2 w1 h2 b2 f1)
   | ((with_reducible refine Ac (N := 3) rfl ?_); refine Aj (N := 3) (C := E6 e.id e.t0 e.n0 e.t1 e.n1 (.slice A n c)) rfl rfl (by first | (go_simp; done) | (go_simp; rfl)) ?_; intro g3 w2 h3 b3 f2))
 have F2 : Aa (Below w.heap.size w w2) := ⟨f1.out.trans (f2.out.mono f1.out.size)⟩
 have P2 := Aa.mk (h.out.below F2.out)
 have W2 := Aa.mk (hw.out.below F2.out)
 have b22 := Aa.mk (Ob.Ad b2.out f2.out)
 have hS : Aa (∀ W, Below w2.heap.size w2 W → (W.cell? ⟨g2, 0, none⟩ = some (.pointer (some ⟨p, 0, none⟩)) ∧ W.cell? ⟨p, 1, none⟩ = some (.pointer (some ⟨ix.tp, 0, none⟩)) ∧ W.cell? ⟨g3, 5, none⟩ = some (.slice A n c))) := ⟨fun W f => ⟨Bk.cell (Ob.Ad b22.out f) rfl, Bk.cell (Ob.Ad P2.out.bp f) rfl, Bk.cell (Ob.Ad b3.out f) rfl⟩⟩
 have hq := hS.out w2.drew (Ag (Below.refl _ _))
 go_split_ands
 cases X
 case false =>
   go_region_with (first
     | (go_at_call 123
        refine (hH.out _ (P2.out.below (Ag (Below.refl _ _))) (W2.out.below (Ag (Below.refl _ _)))).mono ?_
        rintro r w3 ⟨rfl, f3⟩
        have G3 : Aa (Below w2.heap.size w2 w3) := ⟨Bo f3 (Ag (Below.refl _ _))⟩
        have hq3 := hS.out w3 G3.out
        go_split_ands
        clear f3)
     | (go_at_call 172
        refine (hA.out _ _ _ (P2.out.below (Aa.out G3)) (W2.out.below (Aa.out G3)) (Ob.Ad b22.out (Aa.out G3)) (Ob.Ad b3.out (Aa.out G3))).mono ?_
        rintro r w4 ⟨rfl, f4⟩))
   all_goals
     go_wp2_with fail
     go_returns
     exact ⟨rfl, F2.out.trans ((Bo f4 G3.out).mono F2.out.size)⟩
 case true =>
   first
     | (go_region_with (first
           | (go_at_call 123
              refine (hH.out _ (P2.out.below (Ag (Below.refl _ _))) (W2.out.below (Ag (Below.refl _ _)))).mono ?_
              rintro r w3 ⟨rfl, f3⟩
              have G3 : Aa (Below w2.heap.size w2 w3) := ⟨Bo f3 (Ag (Below.refl _ _))⟩
              have hq3 := hS.out w3 G3.out
              go_split_ands
              clear f3)
           | (go_at_call 172
              refine (hA.out _ _ _ (P2.out.below (Aa.out G3)) (W2.out.below (Aa.out G3)) (Ob.Ad b22.out (Aa.out G3)) (Ob.Ad b3.out (Aa.out G3))).mono ?_
              rintro r w4 ⟨rfl, f4⟩)))
     | fail
   all_goals
     go_wp2_with fail
     go_returns
     exact ⟨rfl, F2.out.trans (G3.out.mono F2.out.size)⟩
end Go.Proofs.YtchfmgbjddopoaaGreatDoor.Hand
namespace Go.Proofs.YtchfmgbjddopoaaGreatDoor.Hand
open Go.RowKit Go.Proofs.YtchfmgbjddopoaaGreatDoorW.PrintWords Go.Proofs.YtchfmgbjddopoaaGreatDoorW.PrintLast Go.Proofs.YtchfmgbjddopoaaGreatDoorW.PrintMore
attribute [local go_sem ↓] Go.wp_at_zero Go.wp_at_succ
open Plain (Ky Wr Rc Ver Ent St Bytes enc IR EL)
theorem JM (s : ByteArray) : Lib.strCells s = (bytesOf s).map (Value.int .u8) := by
 unfold Lib.strCells bytesOf
 rw [List.map_map]
 rfl
theorem JK {P : Program} {w : World} {ops : Array Oper} {o : Oper} {a : Act} {K : Act → World → Prop} {Q : Exit → Act → World → Prop} (hw : Region.wanted o (yielded ops a.tmps) = true) (sl x : Operand) (t u : TypeId)
   (ho : o.op = .call { callee := .builtin .append, args := #[sl, x], argTypes := #[t, u] })
   (base : Nat) (e : TypeId) (i : TypeInfo) (ht : P.underlying t = some (.slice e)) (hu : P.underlying u = some .string) (hi : P.info? e = some i) (hz : i.zero = some (.int .u8 0))
   (hsize : i.size = 1) (hby : i.bytes = 1)
   (v : Value) (n : Nat) (xs : List Value) (hs : a.eval sl = v) (hown : w.ownsRow base e 1 v n xs) (s : ByteArray) (hx : a.eval x = .string s)
   (h63 : n + s.size ≤ maxLen) (hbytes : n + s.size ≤ 140737488355328) (hbase : base ≤ w.heap.size)
   (h : ∀ v' w', w'.ownsRow base e 1 v' (n + s.size) (xs ++ Lib.strCells s) → w.grownBy w' v.ownBlock → K (a.put o.dst v') w') :
   if Region.wanted o (yielded ops a.tmps) = true then Oper.wp P o a w K Q else K (a.put o.dst undef) w := by
 rw [if_pos hw]
 obtain ⟨v', w', hr, h2, h3, h4⟩ := Lib.run_append_own_string (P := P) w base t u o.type e i ht hu hi hz hsize hby v n xs hown s h63 hbytes hbase
 unfold Oper.wp execOp
 simp only [ho, resolve, invoke, builtin, Sem.run_bind, Sem.run_pure, Result.andThen_ok, List.map_toArray, List.map_cons, List.map_nil, hs, hx, hr]
 exact h v' w' h2 h3
theorem UZ (ws : List Wr) (hn : ws.length ≤ 16) (hv : ∀ x ∈ ws, x.val.size ≤ 200) (j : Nat) : ((ws.take j).flatMap IR).length ≤ 3600 := by
 have := Plain.flat_length (f := IR) (m := 219) (l := ws.take j) (fun w hw => Plain.JI (hv w (List.mem_of_mem_take hw)))
 have h2 : (ws.take j).length ≤ 16 := by rw [List.length_take]; omega
 have := Nat.mul_le_mul_right 219 h2
 omega
theorem Y5 (w : World) (v : Value) (l : List Int) (A : Option Addr) (n c : Nat) (ws : List Wr) (h0 : Bq w 0 v l) (hl : l.length ≤ 1000) (h : Eo w (.slice A n c) ws) (hn : ws.length ≤ 16) (hv : ∀ x ∈ ws, x.val.size ≤ 200) :
   Calls Tryz.prog 39 #[v, .slice A n c] w fun e w' => ∃ v', e = .returned v' ∧ Bq w' w.heap.size v' (l ++ EL ws) ∧ Below w.heap.size w w' := by
 obtain ⟨i0, hi, hz0, hz1, hz2⟩ := info_parts Ua
 replace hi := Aa.mk hi
 replace hz0 := Aa.mk hz0
 replace hz1 := Aa.mk hz1
 replace hz2 := Aa.mk hz2
 have hnn : n = ws.length := by
   obtain ⟨A', c', e⟩ := h.slice
   injection e
 have hlen := fun j => UZ ws hn hv j
 have n16 : n ≤ 16 := by omega
 have hnum := GZ (w := w) (B := 0) n h0 (by omega) (by omega)
 have e1 : (enc n).length ≤ 1 := Plain.BI 0 n (by omega)
 replace e1 := Aa.mk e1
 replace hnn := Aa.mk hnn
 replace hn := Aa.mk hn
 replace hl := Aa.mk hl
 replace hlen := Aa.mk hlen
 replace h := Aa.mk h
 replace hv := Aa.mk hv
 replace hnum := Aa.mk hnum
 clear h0
 go_enter Tryz.func39, Tryz.ntmps39
 go_wp2_with (first
   | (go_at_call 37; go_must (refine hnum.out.mono ?_); rintro e w1 ⟨v1, rfl, r1, f1⟩; replace r1 := Aa.mk r1; replace f1 := Aa.mk f1))
 go_loopw [0, 13] (fun u p w' => ∃ j : Nat, j ≤ n ∧ p = .int .i64 j ∧ Aa (Bq w' w.heap.size u (l ++ (enc n ++ (ws.take j).flatMap IR))) ∧ Aa (Below w.heap.size w w')) (fun _ p _ => n - (intOf p).toNat)
 case atStart => exact ⟨0, Nat.zero_le _, rfl, ⟨by simpa using r1.out⟩, f1⟩
 case round =>
   obtain ⟨j, hj, rfl, HR, HB⟩ := hrel
   by_cases hlt : j < n
   case neg =>
     have hjn : ws.take j = ws := List.take_of_length_le (by rw [← hnn.out]; omega)
     rw [hjn] at HR
     have d1 : decide ((j : Int) < (n : Int)) = false := by simp; omega
     have d2 : decide (j < n) = false := by simp; omega
     clear hjn hj
     go_wp2_with fail
     go_returns
     refine ⟨_, rfl, ?_, HB.out⟩
     have := HR.out
     rw [hnn.out] at this
     exact this
   obtain ⟨b, o, rfl, hbn, hc, hbs, hr⟩ := (h.out.below HB.out).at_ (by rw [← hnn.out]; omega)
   clear hbn
   have hjw : j < ws.length := by rw [← hnn.out]; exact hlt
   replace hr := hr j hjw
   have htk : ws.take (j + 1) = ws.take j ++ [ws[j]!] := by
     rw [List.take_succ_eq_append_getElem hjw, getElem!_pos ws j hjw]
   have hxv : ws[j]!.val.size ≤ 200 := hv.out _ (by rw [getElem!_pos ws j hjw]; exact List.getElem_mem hjw)
   generalize ws[j]! = x at hr htk hxv
   have hsz : Aa (x.val.size ≤ 200) := ⟨hxv⟩
   have evl : (enc x.val.size).length ≤ 2 := Plain.BI 1 _ (by omega)
   replace evl := Aa.mk evl
   clear hxv
   replace hr := Aa.mk hr
   replace hbs := Aa.mk hbs
   replace htk := Aa.mk htk
   have hln := hlen.out j
   replace hln := Aa.mk hln
   obtain ⟨l1, hl1⟩ : ∃ l1, l1 = l ++ (enc n ++ (ws.take j).flatMap IR) := ⟨_, rfl⟩
   rw [← hl1] at HR
   have hll : Aa (l1.length ≤ 4700) := ⟨by rw [hl1]; simp only [List.length_append]; have := hl.out; have := e1.out; have := hln.out; omega⟩
   replace hl1 := Aa.mk hl1
   obtain ⟨A1, c1, rfl⟩ := Bq.slice HR.out
   have d1 : decide ((j : Int) < (n : Int)) = true := by simp; omega
   have d2 : decide (j < n) = true := by simp; omega
   cases hg : x.gone
   all_goals
     replace hg := Aa.mk hg
     go_wp2_with (first
       | ((with_reducible refine Ac (N := 16) rfl ?_); go_must (refine BM (N := 16) rfl rfl rfl rfl Tryz.underlying105 rfl (by rw [Bg]; exact Bl) hr.out ?_))
       | ((with_reducible refine Ac (N := 6) rfl ?_); refine Aj (N := 6) (C := Z18) rfl rfl (by first | (go_simp; done) | (go_simp; rfl)) ?_; intro g5 w2 h5 b5 f2)
       | ((with_reducible refine Af (t := 105) (p := 6) (v := .tmp 16) rfl ?_); go_must (refine Ak rfl (ty := 105) (x := .tmp 6) (y := .tmp 16) (cells := (wrC x).toArray) rfl rfl rfl b5.out (by rw [AY]; exact Bl) (Eb x) (by rw [AY]; exact Nat.le_refl 18) (wrC x).toArray (Aq (AY x)) ?_); intro w3 b3 f3
          have F3 : Aa (Below w.heap.size w w3) := ⟨(HB.out.trans (f2.out.mono HB.out.size)).trans (f3.out.below (fun k hk e => by have := h5.out; have := HB.out.size; omega) (Nat.le_trans HB.out.size f2.out.size))⟩
          have HR3 : Aa (Bq w3 w.heap.size (.slice A1 l1.length c1) l1) := ⟨AP (own_below HR.out f2.out) f3.out (fun k hk => hk ▸ AC (own_below HR.out f2.out) b5.out (by decide))⟩)
       | (at_builtin; go_must (
            refine wpList_append_lies _ rfl (.tmp 17) (.tmp 19) 39 rfl w.heap.size 5 i0 _ 1 1 Tryz.underlying39 hi.out hz0.out hz1.out hz2.out rfl (by decide) (.slice A1 l1.length c1) l1.length (l1.map (Value.int .u8)) rfl HR3.out ⟨g5, 0, none⟩ 16 16 (AZ x.key) rfl (by rw [Ai]) (fun j u hu => by rw [Addr.add_mid, Nat.zero_add]; exact Bk.cell b3.out (by rw [List.getElem?_toArray, wrC, List.getElem?_append_left (List.getElem?_eq_some_iff.1 hu).1]; exact hu)) (Di x.key) (by decide) (by have := hll.out; simp only [maxLen]; omega) (by have := hll.out; omega) F3.out.size _ rfl ?_)
          intro g4 k4 w4 ho hgr hat hlt4
          have F34 : Fr (fun k => (Value.slice A1 l1.length c1).ownBlock = some k) w3 w4 := Fr.grown (Fr.refl _ w3) hgr (fun k hk => .inl hk)
          obtain ⟨l2, hl2⟩ : ∃ l2, l2 = l1 ++ x.key.l := ⟨_, rfl⟩
          have eL : l1.length + 16 = l2.length := by rw [hl2, List.length_append, x.key.ok.1]
          have HR4 : Aa (Bq w4 w.heap.size (.slice (some ⟨g4, 0, none⟩) l2.length k4) l2) := ⟨by rw [Bq, ← eL, hl2, List.map_append]; exact ho⟩
          have hll2 : Aa (l2.length ≤ 4716) := ⟨by have := hll.out; omega⟩
          replace hl2 := Aa.mk hl2
          have b4 : Aa (Bk w4 g5 (wrC x).toArray 105) := ⟨Ob.fr b3.out F34 (fun e => AC HR3.out b3.out (by decide) e)⟩
          have F4 : Aa (Below w.heap.size w w4) := ⟨F3.out.trans (F34.below (fun k hk e => by have := (HR3.out.lt k e).1; omega) F3.out.size)⟩
          have c17 : w4.cell? ⟨g5, 17, none⟩ = some (.bool x.gone) := Bk.cell b4.out (Nu x)
          rw [hg.out] at c17
          obtain ⟨gn, hgn⟩ : ∃ gn : Nat, gn = if x.gone then 1 else 0 := ⟨_, rfl⟩
          have hgl : gn ≤ 1 := by rw [hgn]; split <;> omega
          have HN := GZ (w := w4) gn HR4.out (by have := hll2.out; omega) (by omega)
          first
            | rw [show (gn : Int) = 0 from by rw [hgn, hg.out]; rfl] at HN
            | rw [show (gn : Int) = 1 from by rw [hgn, hg.out]; rfl] at HN
          replace HN := Aa.mk HN
          replace hgn := Aa.mk hgn
          replace hgl := Aa.mk hgl
          rw [eL]
          clear eL ho hgr hat hlt4 F34)
       | (go_at_call 37; go_must (refine HN.out.mono ?_)
          rintro e w5 ⟨v5, rfl, r5, f5⟩
          obtain ⟨l3, hl3⟩ : ∃ l3, l3 = l2 ++ enc gn := ⟨_, rfl⟩
          rw [← hl3] at r5
          have hll3 : Aa (l3.length ≤ 4717) := ⟨by
            rw [hl3, List.length_append]
            have : (enc gn).length ≤ 1 := Plain.BI 0 _ (by have := hgl.out; omega)
            have := hll2.out
            omega⟩
          replace hl3 := Aa.mk hl3
          obtain ⟨A5, c5, rfl⟩ := Bq.slice r5
          replace r5 := Aa.mk r5
          have F5 : Aa (Below w.heap.size w w5) := ⟨F4.out.trans (f5.mono F4.out.size)⟩
          have b55 := Aa.mk (b4.out.Ad f5)
          clear f5 c17))
     refine wp_region_noPanic ?_
     go_region_held_law (fun w' => w'.cell? ⟨g5, 16, none⟩ = some (.string x.val) ∧ Bk w' g5 (wrC x).toArray 105)
       ((first | exact ⟨Bk.cell b55.out.drew (JL x), b55.out.drew⟩ | exact ⟨Bk.cell (Aa.out b6) (JL x), Aa.out b6⟩ | exact ⟨Bk.cell (Aa.out b7) (JL x), Aa.out b7⟩))
       ((first
         | (go_at_call 37
            go_must (refine (GZ (w := w5.drew) (B := w4.heap.size) x.val.size (own_below r5.out (Ag (Below.refl _ _))) (by have := hll3.out; omega) (by have := hsz.out; omega)).mono ?_)
            rintro e w6 ⟨v6, rfl, r6, f6⟩
            obtain ⟨l4, hl4⟩ : ∃ l4, l4 = l3 ++ enc x.val.size := ⟨_, rfl⟩
            rw [← hl4] at r6
            have hll4 : Aa (l4.length ≤ 4719) := ⟨by rw [hl4, List.length_append]; have := hll3.out; have := evl.out; omega⟩
            replace hl4 := Aa.mk hl4
            have F6 : Aa (Below w.heap.size w w6) := ⟨(Ag F5.out).trans (f6.mono F5.out.size)⟩
            have b6 := Aa.mk (b55.out.drew.Ad f6)
            have r6 : Aa (Bq w6 w.heap.size v6 l4) := ⟨AV r6 F5.out.size⟩
            clear f6)
         | (refine JK (by rfl) (.tmp 31) (.tmp 33) 39 9 (by rfl) w.heap.size 5 i0 Tryz.underlying39 Tryz.underlying9 hi.out hz0.out hz1.out hz2.out _ _ _ (by rfl) (Aa.out r6) x.val (by rfl) (by have := (Aa.out hll4); have := hsz.out; simp only [maxLen]; omega) (by have := (Aa.out hll4); have := hsz.out; omega) (Aa.out F6).size ?_
            intro v7 w7 ho hgr
            have b7 := Aa.mk (Ob.fr (Aa.out b6) (Fr.grown (T := fun k => _ = some k) (Fr.refl _ _) hgr (fun k hk => .inl hk)) (fun e => AC (Aa.out r6) (Aa.out b6) (by decide) e))
            have HO := Aa.mk ho
            have HG := Aa.mk hgr
            clear ho hgr)))
     refine NoPanic.normal ?_
     go_split_ands
     go_wp2_with fail
     go_roundw
     case rel =>
       have F7 : Aa (Below w.heap.size w w7) := ⟨F6.out.trans ((Fr.grown (T := fun k => v6.ownBlock = some k) (Fr.refl _ w6) HG.out (fun k hk => .inl hk)).below (fun k hk e => by have := (r6.out.lt k e).1; omega) F6.out.size)⟩
       have r7 : Aa (Bq w7 w.heap.size v7 (l4 ++ bytesOf x.val)) := ⟨by rw [Bq, List.map_append, List.length_append, Plain.bytesOf_length, ← JM]; exact HO.out⟩
       have eq : l ++ (enc n ++ (ws.take (j + 1)).flatMap IR) = l4 ++ bytesOf x.val := by
         rw [hl4.out, hl3.out, hl2.out, hl1.out, htk.out, List.flatMap_append, List.flatMap_cons, List.flatMap_nil, hgn.out]
         simp [IR, List.append_assoc]
       exact ⟨j + 1, hlt, by go_num, ⟨eq ▸ r7.out⟩, F7⟩
     case measure => simp [intOf]; omega
end Go.Proofs.YtchfmgbjddopoaaGreatDoor.Hand
namespace Go.Proofs.YtchfmgbjddopoaaGreatDoor.Hand
open Go.RowKit Go.Shelf Go.Lib Go.Proofs.YtchfmgbjddopoaaGreatDoorW.PrintWords Go.Proofs.YtchfmgbjddopoaaGreatDoorW.PrintLast Go.Proofs.YtchfmgbjddopoaaGreatDoorW.PrintMore
attribute [local go_sem ↓] Go.wp_at_zero Go.wp_at_succ
open Plain (Ky Wr Rc Ver Ent St Bytes Chs sortK)
theorem NP : ∀ (cs : List Value) (C : Array Value) (j : Nat), (over C j cs).size = C.size
 | [], _, _ => rfl
 | v :: r, C, j => by rw [over, NP r]; simp
theorem Rl : ∀ (cs : List Value) (C : Array Value) (j t : Nat), (t < j ∨ j + cs.length ≤ t) → (over C j cs)[t]? = C[t]?
 | [], _, _, _, _ => rfl
 | v :: r, C, j, t, h => by
   rw [List.length_cons] at h
   rw [over, Rl r _ _ _ (by omega), Array.getElem?_setIfInBounds_ne (by omega)]
structure GX (K : Nat) (w0 : World) (g cap : Nat) (ks : List Ky) (k : Nat) (W : World) : Prop where
 blk : ∃ cur, Bk W g cur 103 ∧ cur.size = cap * K
 tail : ∀ j, k ≤ j → j < ks.length → W.rangeAt g (j * K) (AZ ks[j]!)
 fr : Fr (fun k => k = g) w0 W
section
variable {w0 W W' : World} {K g cap k k' : Nat} {ks : List Ky}
theorem GX.mono (h : GX K w0 g cap ks k W) (hk : k ≤ k') : GX K w0 g cap ks k' W := ⟨h.blk, fun j hj => h.tail j (by omega), h.fr⟩
theorem GX.drewN (h : GX K w0 g cap ks k W) (n : Nat) : GX K w0 g cap ks k (W.drewN n) := by
 obtain ⟨⟨cur, hb, hs⟩, ht, hf⟩ := h
 exact ⟨⟨cur, hb.drewN n, hs⟩, fun j h1 h2 i u hu => ht j h1 h2 i u hu, hf.drewN n⟩
theorem GX.put {x : Ky} (h : GX K w0 g cap ks k W) (hK : ∀ x, (AZ x).length = K) : GX K w0 g cap ks (k + 1) (W.setCells g (k * K) (AZ x)) := by
 obtain ⟨⟨cur, hb, hs⟩, ht, hf⟩ := h
 have hb' := Bk.sets (AZ x) (k * K) hb
 refine ⟨⟨_, hb', by rw [NP, hs]⟩, fun j h1 h2 i u hu => ?_, hf.trans (Fr.sets (AZ x) _ (Fr.refl _ W) (.inl rfl))⟩
 have hi : i < K := by
   have := (List.getElem?_eq_some_iff.1 hu).1
   rwa [hK] at this
 have h3 := ht j (by omega) h2 i u hu
 have h4 : cur[j * K + i]? = some u := by
   unfold World.cell? at h3
   rw [show W.heap[g]? = _ from hb] at h3
   simpa using h3
 have h5 := Nat.mul_le_mul_right K h1
 rw [Nat.add_mul, Nat.one_mul] at h5
 refine Bk.cell hb' ?_
 rw [Rl _ _ _ _ (.inr (by rw [hK]; omega))]
 exact h4
end
theorem zero103 (W : World) : (zeroValue 103).run Tryz.prog W = .ok (.agg Z16) W := by kernel_rfl
theorem JP (W : World) (b o n c : Nat) (C : Array Value) (hb : Bk W b C 103) (hs : o + n * 16 ≤ C.size) (hn : 0 < n) :
   ∃ W', (∀ ty, (Builtin.clear_ #[111] ty #[.slice (some ⟨b, o, none⟩) n c]).run Tryz.prog W = .ok (.tuple #[]) W') ∧ Fr (fun k => k = b) W W' := by
 have hz : (Builtin.zeroCells Z16 n).toList.length = n * 16 := by simp [Builtin.zeroCells]; rfl
 have hst := run_storeCells_cells (P := Tryz.prog) b o (Builtin.zeroCells Z16 n).toList 0 W (fun j hj => hb.isSome (by omega)) (fun j hj => hb.free _) (fun v hv => by
   simp only [Builtin.zeroCells, Array.toList_map, List.mem_map] at hv
   obtain ⟨i, _, rfl⟩ := hv
   have : i % Z16.size < Z16.size := Nat.mod_lt _ (by decide)
   have h2 : ∀ j, j < Z16.size → (Z16[j]!).oneCell' = true := by decide
   exact h2 _ this)
 simp only [Nat.add_zero] at hst
 obtain ⟨m, rfl⟩ : ∃ m, n = m + 1 := ⟨n - 1, by omega⟩
 refine ⟨_, fun ty => ?_, Fr.sets (g := b) (Builtin.zeroCells Z16 (m + 1)).toList o (Fr.refl _ W) (.inl rfl)⟩
 simp [Builtin.clear_, run_underlying Tryz.underlying111, zero103, Value.cells]
 change ((Sem.run Tryz.prog (storeCells ⟨b, o, none⟩ (Builtin.zeroCells Z16 (m + 1)).toList) W).andThen _) = _
 rw [hst]
 rfl
structure LayC (P : Program) (ρ : Ren) (k : Nat) : Prop where
 mixed : P.follows .mixedOrders = true
 f43 : Bears P (ρ.f 43) (SlBodyN.n43 ρ)
 t0 : P.underlying (ρ.t 0) = some (TypeDesc.tuple #[])
 a0 : ∀ w, (isAgg (ρ.t 0)).run P w = .ok false w
 z0 : ∀ w, (Go.sizeOf (ρ.t 0)).run P w = .ok 1 w
 v0 : ∀ w, (zeroValue (ρ.t 0)).run P w = .ok (Value.tuple #[]) w
 t3 : P.underlying (ρ.t 3) = some (TypeDesc.int IntKind.i64)
 a3 : ∀ w, (isAgg (ρ.t 3)).run P w = .ok false w
 z3 : ∀ w, (Go.sizeOf (ρ.t 3)).run P w = .ok 1 w
 v3 : ∀ w, (zeroValue (ρ.t 3)).run P w = .ok (Value.int IntKind.i64 0) w
 t4 : P.underlying (ρ.t 4) = some (TypeDesc.bool)
 a4 : ∀ w, (isAgg (ρ.t 4)).run P w = .ok false w
 z4 : ∀ w, (Go.sizeOf (ρ.t 4)).run P w = .ok 1 w
 v4 : ∀ w, (zeroValue (ρ.t 4)).run P w = .ok (Value.bool false) w
 t22 : P.underlying (ρ.t 22) = some (TypeDesc.slice (ρ.t 23))
 a22 : ∀ w, (isAgg (ρ.t 22)).run P w = .ok false w
 z22 : ∀ w, (Go.sizeOf (ρ.t 22)).run P w = .ok 1 w
 v22 : ∀ w, (zeroValue (ρ.t 22)).run P w = .ok (Value.slice none 0 0) w
 aE : ∀ w, (isAgg (ρ.t 23)).run P w = .ok true w
 zE : ∀ w, (Go.sizeOf (ρ.t 23)).run P w = .ok k w
theorem Wy {P : Program} {ρ : Ren} (k : Nat) (L : LayC P ρ k) (hk : ∀ x, (AZ x).length = k) (heq : EqlAt P (ρ.t 23) (fun x => .agg (AZ x).toArray) (fun x y => decide (x = y))) (hne : NeqAt P (ρ.t 23) (fun x => .agg (AZ x).toArray) (fun x y => decide (x = y)))
   (N g c : Nat) (ks : List Ky) (w : World) (hN : N = ks.length) (h2 : 2 ≤ N) (hn : N ≤ 100000) (hc : N ≤ c) (C0 : GX k w g c ks 0 w)
   (hclr : ∀ W o n c' cur, Bk W g cur 103 → o + n * k ≤ cur.size → 0 < n → ∃ W', (∀ ty, (Builtin.clear_ #[ρ.t 22] ty #[.slice (some ⟨g, o, none⟩) n c']).run P W = .ok (.tuple #[]) W') ∧ Fr (fun k => k = g) W W') :
   Calls P (ρ.f 43) #[.slice (some ⟨g, 0, none⟩) N c] w fun e w' => e = .returned (.slice (some ⟨g, 0, none⟩) (compactUpTo ks.toArray N).length c) ∧ Fr (fun k => k = g) w w' := by
 have mixed := L.mixed; have t0 := L.t0; have a0 := L.a0; have z0 := L.z0; have v0 := L.v0; have t3 := L.t3; have a3 := L.a3; have z3 := L.z3; have v3 := L.v3; have t4 := L.t4; have a4 := L.a4; have z4 := L.z4; have v4 := L.v4; have t22 := L.t22; have a22 := L.a22; have z22 := L.z22; have v22 := L.v22; have aE := L.aE; have zE := L.zE
 have heq' : ∀ (x y : Ky) (w : World), Sem.run P (binOp .eql (ρ.t 23) (.agg (AZ x).toArray) (.agg (AZ y).toArray)) w = .ok (.bool (decide (x = y))) w := heq.1
 have hne' : ∀ (x y : Ky) (w : World), Sem.run P (binOp .neq (ρ.t 23) (.agg (AZ x).toArray) (.agg (AZ y).toArray)) w = .ok (.bool (!decide (x = y))) w := hne.1
 have hgd' : ∀ (op : BinOp) (a b : Operand) (x y : Ky) (w : World), Sem.run P (eqGuard op (ρ.t 23) a b (.agg (AZ x).toArray) (.agg (AZ y).toArray)) w = .ok () w := hne.2
 have hall : Aa (∀ m, (∀ j, j < m → keeps ks.toArray j = true) → (compactUpTo ks.toArray m).length = m) := ⟨fun m hm => by rw [compactUpTo_all _ _ hm]; simp⟩
 have hd : Aa (∀ j : Nat, ks.toArray[j]! = ks[j]!) := ⟨fun j => by simp⟩
 have C0' : Aa (GX k w g c ks 0 w) := ⟨C0⟩
 have hN' : Aa (N = ks.length) := ⟨hN⟩
 have hclr' := Aa.mk hclr
 have hk' := Aa.mk hk
 clear C0 hN hclr hk heq hne
 obtain ⟨_, _, FG⟩ := L.f43
 go_enter FG, SlBodyN.n43_ntmps ρ
 go_wp2
 go_loopg [3] N (fun gh s3 wr => ∃ q m : Nat, q = m + 1 ∧ q ≤ N ∧ N - q ≤ gh ∧ s3 = .int .i64 q ∧ Aa (GX k w g c ks 0 wr) ∧ Aa (∀ j, j < q → keeps ks.toArray j = true))
 case atStart => exact ⟨1, 0, rfl, by omega, by omega, rfl, C0', ⟨keeps_lt_one _⟩⟩
 case round =>
   obtain ⟨q, m, hqm, hq, hgh, rfl, hC, hK⟩ := hrel
   by_cases hlt : q < N
   · have hx0 := hC.out.tail q (Nat.zero_le _) (by rw [← hN'.out]; exact hlt)
     have hy0 := hC.out.tail m (Nat.zero_le _) (by rw [← hN'.out]; omega)
     have g1 : ∀ n, Sem.run P (loadCellsFrom ⟨g, q * k, none⟩ 0 k #[]) (wr.drewN n) = .ok (AZ ks[q]!).toArray (wr.drewN n) := fun n =>
       run_loadCellsFrom_list P _ _ _ k (hk'.out _) (fun i v hi => by rw [World.cell?_drewN, Addr.add_lit]; exact hx0 i v hi)
     have g2 : ∀ n, Sem.run P (loadCellsFrom ⟨g, m * k, none⟩ 0 k #[]) (wr.drewN n) = .ok (AZ ks[m]!).toArray (wr.drewN n) := fun n =>
       run_loadCellsFrom_list P _ _ _ k (hk'.out _) (fun i v hi => by rw [World.cell?_drewN, Addr.add_lit]; exact hy0 i v hi)
     have e1 : IntKind.i64.wrap ((q : Int) - 1) = (m : Int) := by rw [IntWalk.i64_in _ ⟨by omega, by omega⟩]; omega
     have hdx : Aa (ks[q]! = ks[m]! → keeps ks.toArray q = false) := ⟨fun e => keeps_neg (by omega) (by rw [hd.out, hd.out, show q - 1 = m by omega]; exact e)⟩
     have hdn : Aa (ks[q]! ≠ ks[m]! → keeps ks.toArray q = true) := ⟨fun e => keeps_pos (by rw [hd.out, hd.out, show q - 1 = m by omega]; exact e)⟩
     have hm : m < N := by omega
     have hqm' : Aa (q = m + 1) := ⟨hqm⟩
     clear hx0 hy0 hqm
     generalize ks[q]! = x at g1 hdx hdn
     generalize ks[m]! = y at g2 hdx hdn
     by_cases hdup : x = y
     · subst hdup
       go_wp2_with fail
       go_quiet_o (fail)
       go_wp2
       have hCd := Aa.mk (hC.out.drewN nq)
       generalize wr.drewN nq = wd at hCd ⊢
       clear hC g1 g2 e1
       have hRn : q + (N - q) = N := by omega
       generalize hR : N - q = R at hRn ⊢
       have hR0 : Aa (q + R = N) := ⟨hRn⟩
       have hqN : Aa (q < N) := ⟨hlt⟩
       clear hRn hR
       go_loopg [3, 5] N (fun gh s3 s5 wr => ∃ kk k2 r : Nat, k2 = r + 1 ∧ s3 = .int .i64 kk ∧ s5 = .int .i64 k2 ∧ k2 ≤ R ∧ R - k2 ≤ gh ∧ kk ≤ q + r ∧ Aa ((compactUpTo ks.toArray (q + k2)).length = kk) ∧ Aa (GX k w g c ks kk wr))
       case atStart =>
         refine ⟨q, 1, 0, rfl, rfl, rfl, by have := hR0.out; omega, by have := hR0.out; omega, Nat.le_refl _, ⟨?_⟩, ⟨hCd.out.mono (Nat.zero_le _)⟩⟩
         rw [compactUpTo_succ, hdx.out (by first | rfl | trivial), List.length_append, hall.out q hK.out]
         rfl
       case round =>
         obtain ⟨kk, k2, r, hkr, rfl, rfl, hk2, hg2, hkk, hlen, hcmp⟩ := hrel
         clear hCd hdx hdn
         by_cases hlt2 : k2 < R
         · have hiN : q + k2 < ks.length := by rw [← hN'.out]; have := hR0.out; omega
           have hu0 := hcmp.out.tail (q + k2) (by omega) hiN
           have hv0 := hcmp.out.tail (q + r) hkk (by omega)
           rw [Nat.add_mul] at hu0 hv0
           have g1 : ∀ n, Sem.run P (loadCellsFrom ⟨g, q * k + k2 * k, none⟩ 0 k #[]) (wr.drewN n) = .ok (AZ ks[q + k2]!).toArray (wr.drewN n) := fun n =>
             run_loadCellsFrom_list P _ _ _ k (hk'.out _) (fun i v hi => by rw [World.cell?_drewN, Addr.add_lit]; exact hu0 i v hi)
           have g2 : ∀ n, Sem.run P (loadCellsFrom ⟨g, q * k + r * k, none⟩ 0 k #[]) (wr.drewN n) = .ok (AZ ks[q + r]!).toArray (wr.drewN n) := fun n =>
             run_loadCellsFrom_list P _ _ _ k (hk'.out _) (fun i v hi => by rw [World.cell?_drewN, Addr.add_lit]; exact hv0 i v hi)
           have e3 : IntKind.i64.wrap ((k2 : Int) - 1) = (r : Int) := by rw [IntWalk.i64_in _ ⟨by have := hR0.out; omega, by have := hR0.out; omega⟩]; omega
           have hdx2 : Aa (ks[q + k2]! = ks[q + r]! → keeps ks.toArray (q + k2) = false) := ⟨fun e => keeps_neg (by omega) (by rw [hd.out, hd.out, show q + k2 - 1 = q + r by omega]; exact e)⟩
           have hdn2 : Aa (ks[q + k2]! ≠ ks[q + r]! → keeps ks.toArray (q + k2) = true) := ⟨fun e => keeps_pos (by rw [hd.out, hd.out, show q + k2 - 1 = q + r by omega]; exact e)⟩
           have hrR : r < R := by omega
           have hkr' : Aa (k2 = r + 1) := ⟨hkr⟩
           have hkkN : kk < N := by have := hR0.out; omega
           have hkk' : Aa (kk ≤ q + r) := ⟨hkk⟩
           have hRb : R ≤ N := by have := hR0.out; omega
           clear hu0 hv0 hkr hiN hkk
           generalize ks[q + k2]! = u at g1 hdx2 hdn2
           generalize ks[q + r]! = v at g2 hdx2 hdn2
           by_cases huv : u = v
           · subst huv
             go_wp2_with fail
             go_quiet_o (fail)
             go_wp2
             go_roundg (R - (k2 + 1))
             case measure => omega
             case rel =>
               have a := hkr'.out
               have b := hkk'.out
               refine ⟨kk, k2 + 1, k2, rfl, rfl, by go_num, by omega, Nat.le_refl _, by omega, ⟨?_⟩, ⟨hcmp.out.drewN nq⟩⟩
               rw [← Nat.add_assoc, compactUpTo_succ, hdx2.out (by first | rfl | trivial), List.length_append, hlen.out]
               rfl
           · have hst : ∀ n, Sem.run P (storeCells ⟨g, kk * k, none⟩ (AZ u) 0) (wr.drewN n) = .ok () ((wr.drewN n).setCells g (kk * k) (AZ u)) := fun n => by
               obtain ⟨cur, hb, hs⟩ := (hcmp.out.drewN n).blk
               have h5 := Nat.mul_le_mul_right k (show kk + 1 ≤ c by omega)
               rw [Nat.add_mul, Nat.one_mul] at h5
               have hlk := hk'.out u
               have := run_storeCells_cells (P := P) g (kk * k) (AZ u) 0 (wr.drewN n) (fun j hj => hb.isSome (by omega)) (fun j hj => hb.free _) (fun v hv => Di u v hv)
               simpa only [Nat.add_zero] using this
             go_wp2_with fail
             go_quiet_o (fail)
             have g3 : Sem.run P (loadCellsFrom ⟨g, q * k + k2 * k, none⟩ 0 k #[]) (wr.drewN nq) = .ok (AZ u).toArray (wr.drewN nq) := g1 nq
             have hs3 := hst nq
             have hcn := Aa.mk (hcmp.out.drewN nq)
             generalize wr.drewN nq = wn at g3 hs3 hcn ⊢
             have hlu := hk'.out u
             clear g1 g2 hst
             go_wp2
             go_roundg (R - (k2 + 1))
             case measure => omega
             case rel =>
               have a := hkr'.out
               have b := hkk'.out
               refine ⟨kk + 1, k2 + 1, k2, rfl, by go_num, by go_num, by omega, Nat.le_refl _, by omega, ⟨?_⟩, ⟨hcn.out.put hk'.out⟩⟩
               rw [← Nat.add_assoc, compactUpTo_succ, hdn2.out huv, List.length_append, hlen.out]
               rfl
         · have e2 : k2 = R := by omega
           subst e2
           rw [hR0.out] at hlen
           obtain ⟨cur, hb, hcs⟩ := hcmp.out.blk
           have hkN : kk < N := by have := hR0.out; omega
           have h5 := Nat.mul_le_mul_right k hc
           have h6 := Nat.mul_le_mul_right k (Nat.le_of_lt hkN)
           obtain ⟨W9, hcl, f9⟩ := hclr'.out wr (kk * k) (N - kk) (c - kk) cur hb (by rw [hcs, Nat.sub_mul]; omega) (by omega)
           have f9' := Aa.mk f9
           have hcm' := hcmp
           clear hb hcs f9 h5 h6 hcmp hkk hg2 hkr
           go_wp2
           go_ret
           exact ⟨by rw [hlen.out]; rfl, hcm'.out.fr.trans f9'.out⟩
     · go_wp2_with fail
       go_quiet_o (fail)
       go_wp2
       go_roundg (N - (q + 1))
       case measure => omega
       case rel =>
         refine ⟨q + 1, q, rfl, by omega, by omega, by go_num, ⟨hC.out.drewN nq⟩, ⟨fun j hj => ?_⟩⟩
         by_cases e : j = q
         · rw [e]; exact hdn.out hdup
         · exact hK.out j (by omega)
   · have e1 : q = N := by omega
     subst e1
     go_wp2
     go_ret
     exact ⟨by rw [hall.out q hK.out]; rfl, hC.out.fr⟩
def renC : Go.Shelf.Ren := ⟨fun | 43 => 226 | n => n, fun | 22 => 111 | 23 => 103 | 4 => 4 | 3 => 3 | 0 => 0 | n => n, fun | n => n⟩
theorem layC : LayC Tryz.prog renC 16 := {
 mixed := by kernel_rfl
 f43 := ⟨Tryz.f226.name, by decide, Tryz.func226.trans (congrArg some (by kernel_rfl))⟩
 t0 := Tryz.underlying0
 a0 := Tryz.isAgg0
 z0 := Tryz.sizeOf0
 v0 := Tryz.zeroValue0
 t3 := Tryz.underlying3
 a3 := Tryz.isAgg3
 z3 := Tryz.sizeOf3
 v3 := Tryz.zeroValue3
 t4 := Tryz.underlying4
 a4 := Tryz.isAgg4
 z4 := Tryz.sizeOf4
 v4 := Tryz.zeroValue4
 t22 := Tryz.underlying111
 a22 := Tryz.isAgg111
 z22 := Tryz.sizeOf111
 v22 := Tryz.zeroValue111
 aE := Tryz.isAgg103
 zE := Tryz.sizeOf103 }
theorem Wq : EqlAt Tryz.prog 103 (fun x => .agg (AZ x).toArray) (fun x y => decide (x = y)) := ⟨fun x y w => UE x y w, QL.2⟩
theorem VZ : NeqAt Tryz.prog 103 (fun x => .agg (AZ x).toArray) (fun x y => decide (x = y)) := ⟨fun x y w => by rw [QL.1 x y w], QL.2⟩
theorem OZ (w : World) (B : Nat) (v : Value) (ks : List Ky) (h : DC w B v ks) (hn : ks.length ≤ 100000) :
   Calls Tryz.prog 226 #[v] w fun e w' => ∃ A c, e = .returned (.slice A (compactUpTo ks.toArray ks.length).length c) ∧ Fr (fun k => v.ownBlock = some k) w w' := by
 obtain ⟨N, hN⟩ : ∃ N, N = ks.length := ⟨_, rfl⟩
 obtain ⟨A, c, hA⟩ := h.row.slice
 subst hA
 rw [← hN]
 by_cases h2 : N < 2
 · have e1 : (compactUpTo ks.toArray N).length = N := by
     rw [compactUpTo_all _ _ (fun j hj => keeps_lt_one _ j (by omega))]
     simp
   rw [e1]
   have d1 : decide ((N : Int) < 2) = true := by simp; omega
   have d2 : decide (N < 2) = true := by simp; omega
   clear h hN e1 hn h2
   go_enter Tryz.func226, Tryz.ntmps226
   go_wp2_with fail
   go_returns
   exact ⟨A, c, rfl, Fr.refl _ _⟩
 rcases h.2 with ⟨_, h0⟩ | ⟨g, cap, cur, e, hb, hh, hc, hm, hs, ht⟩
 · omega
 obtain ⟨rfl, rfl⟩ : A = some ⟨g, 0, none⟩ ∧ c = cap := by simpa using e
 have hcell : ∀ j, j < ks.length → w.rangeAt g (j * 16) (AZ ks[j]!) := fun j hj => by
   obtain ⟨b', o', e1, _, _, _, hr⟩ := h.row.at_ (by omega)
   obtain ⟨rfl, rfl⟩ : b' = g ∧ o' = 0 := by simpa [eq_comm] using e1
   have := hr j hj
   rwa [Nat.zero_add] at this
 rw [← hN] at hc
 refine (Wy 16 layC Ai Wq VZ N g c ks w hN (by omega) (by omega) hc ⟨⟨cur, hh, hs⟩, fun j _ hj => hcell j hj, Fr.refl _ _⟩ (fun W o n c' cur' hb' hs' hn' => JP W g o n c' cur' hb' hs' hn')).mono ?_
 rintro e w' ⟨rfl, f⟩
 exact ⟨_, c, rfl, f.weaken fun k _ e => by subst e; rfl⟩
end Go.Proofs.YtchfmgbjddopoaaGreatDoor.Hand
namespace Go.Proofs.YtchfmgbjddopoaaGreatDoor.Hand
open Go.RowKit Go.Shelf Go.Proofs.YtchfmgbjddopoaaGreatDoorW.PrintWords Go.Proofs.YtchfmgbjddopoaaGreatDoorW.PrintLast Go.Proofs.YtchfmgbjddopoaaGreatDoorW.PrintMore
open Plain (Ky Wr Rc Ver Ent St Bytes)
attribute [local go_sem] Oper.semAt_some
theorem UK (w : World) (Bm b o c : Nat) (ks : List Ky) (hB : Bk w Bm #[.slice (some ⟨b, o, none⟩) ks.length c] 111) (hb : b < w.heap.size) (hr : ∀ j, j < ks.length → w.rangeAt b (o + j * 16) (AZ ks[j]!)) (hc : ks.length ≤ c) (hn : ks.length ≤ 100000) :
   YE 274 #[.pointer (some ⟨Bm, 0, none⟩)] (fun xs => xs = ks) ks.length w := by
 intro l J W hW hJ hJB hY h0
 have cB := Bk.cell (hB.Ad hW) (j := 0) (v := .slice (some ⟨b, o, none⟩) ks.length c) rfl
 have hJ0 := Aa.mk h0
 replace hJ := Aa.mk hJ
 replace hY := Aa.mk hY
 replace hJB := Aa.mk hJB
 replace hr := Aa.mk hr
 replace hb := Aa.mk hb
 obtain ⟨N, hN⟩ : ∃ N, N = ks.length := ⟨_, rfl⟩
 rw [← hN] at cB hc hn hY
 have hN' := Aa.mk hN
 clear hB hW h0 hN
 refine callsIn_of_wp Tryz.func274 rfl trivial ?_ rfl
 simp only [Tryz.ntmps274, List.size_toArray, List.length_cons, List.length_nil, Nat.reduceAdd, Nat.reduceSub, Array.replicate_succ, Array.replicate_zero, List.push_toArray, List.append_toArray, List.nil_append, List.cons_append]
 gi_wp2
 clear cB
 gi_loopw [4, 7] (fun s4 s7 wr => ∃ j : Nat, j ≤ N ∧ s7 = .int .i64 j ∧ Aa (J (ks.take j) wr)) (fun s4 s7 wr => N - WZ s7)
 case atStart => exact ⟨0, Nat.zero_le _, rfl, ⟨hJ0.out⟩⟩
 case round =>
   obtain ⟨j, hj, rfl, hJp⟩ := hrel
   by_cases hlt : j < N
   · have hJb := hJB.out _ _ hJp.out
     have hrr : ∀ i u, (AZ ks[j]!)[i]? = some u → wr.cell? ⟨b, o + j * 16 + i, none⟩ = some u := fun i u hi => (CQ (hJb.block b hb.out) _).trans (hr.out j (by rw [← hN'.out]; exact hlt) i u hi)
     have hgl : ks.take j ++ [ks[j]!] = ks.take (j + 1) := by
       have hjl : j < ks.length := by rw [← hN'.out]; exact hlt
       rw [List.take_succ_eq_append_getElem hjl, getElem!_pos ks j hjl]
     have htl : (ks.take j).length = j := by rw [List.length_take, ← hN'.out]; omega
     obtain ⟨x, hx⟩ : ∃ x, x = ks[j]! := ⟨_, rfl⟩
     rw [← hx] at hrr hgl
     obtain ⟨KC, hKC⟩ : ∃ KC, KC = (AZ x).toArray := ⟨_, rfl⟩
     have hKs : KC.size = 16 := by rw [hKC]; simpa using Ai x
     have hK1 : KC.all (·.oneCell') = true := by rw [hKC, Array.all_eq_true_iff_forall_mem]; intro v hv; exact Di x v (by simpa using hv)
     have hKr : Aa (wr.rangeAt b (o + j * 16) KC.toList) := ⟨by rw [hKC]; exact hrr⟩
     replace hKs := Aa.mk hKs
     replace hK1 := Aa.mk hK1
     replace hKC := Aa.mk hKC
     replace hgl := Aa.mk hgl
     replace htl := Aa.mk htl
     replace hx := Aa.mk hx
     clear hrr hJb
     gi_wp2_with (first
       | ((with_reducible refine BB (N := 10) rfl ?_); refine Wl (fun _ => trivial) (N := 10) rfl rfl rfl rfl Tryz.underlying103 rfl (by rw [Array.length_toList, hKs.out]; exact AB) hKr.out ?_)
       | ((with_reducible refine BB (N := 4) rfl ?_); refine Ie (fun _ => trivial) (N := 4) (C := Z16) rfl rfl (fun c hc => by cases hc) (by first | (go_simp; done) | (go_simp; rfl)) ?_; intro g4 w3 h4 b4 f3)
       | ((with_reducible refine Du (t := 103) (p := 4) (v := .tmp 10) rfl ?_); refine Fq (fun _ => trivial) rfl (ty := 103) (x := .tmp 4) (y := .tmp 10) (cells := KC) rfl rfl rfl b4.out (by rw [hKs.out]; exact AB) hK1.out (by rw [hKs.out]; exact Nat.le_refl 16) KC (Aq (C := Z16) hKs.out) ?_; intro w4 b44 f4
          have G4 : Aa (Below wr.heap.size wr w4) := ⟨((Fr.of_below (T := fun k => k = g4) f3.out).trans f4.out).below (fun k hk q => by have := h4.out; omega) (Nat.le_refl _)⟩
          have hJ4 : Aa (J (ks.take j) w4) := ⟨hJ.out _ wr w4 none hJp.out ⟨G4.out.os, G4.out.tape, G4.out.output, G4.out.size, fun k hk _ => G4.out.block k hk⟩ (fun r e => by cases e)⟩)
       | ((with_reducible refine BB (N := 12) rfl ?_); refine He (fun _ => trivial) (N := 12) rfl rfl rfl rfl b44.out Tryz.underlying103 rfl AB KC.toList (AU hKs.out) (by rw [Array.length_toList, hKs.out]) ?_; obtain ⟨fn, tmps, asg, body, hy, hR⟩ := hY.out _ x w4 hJ4.out (by rw [htl.out]; exact hlt); replace hR := Aa.mk hR; simp only [Eu, ← hKC.out] at hy)
       | gi_in)
     refine hR.out.mono ?_
     rintro e w5 ⟨rfl, hJ5, hk5⟩
     rw [hgl.out] at hJ5
     replace hJ5 := Aa.mk hJ5
     clear hy hk5
     gi_wp2
     go_roundw
     case rel => exact ⟨j + 1, by omega, by go_num, hJ5⟩
     case measure =>
       have e1 : IntKind.i64.wrap ((j : Int) + 1) = ((j + 1 : Nat) : Int) := by rw [IntWalk.i64_in _ ⟨by omega, by omega⟩]; omega
       simp only [WZ, e1]
       omega
   · have : j = N := by omega
     subst this
     gi_wp2
     go_end0
     refine ⟨⟨_, rfl⟩, _, rfl, ?_⟩
     have := hJp.out
     rw [hN'.out, List.take_length] at this
     exact this
theorem MF (w : World) (A : Option Addr) (n c : Nat) : Calls Tryz.prog 227 #[.slice A n c] w fun e w' => ∃ B, e = .returned (.func (.func 274) #[] #[.pointer (some ⟨B, 0, none⟩)]) ∧ Bk w' B #[.slice A n c] 111 ∧ Below w.heap.size w w' := by
 go_enter Tryz.func227, Tryz.ntmps227
 go_wp2_with (first
   | ((with_reducible refine Ac (N := 1) rfl ?_); refine Aj (N := 1) (C := #[.slice A n c]) rfl rfl (by first | (go_simp; done) | (go_simp; rfl)) ?_; intro B w1 hB b1 f1))
 go_returns
 exact ⟨B, rfl, b1.out, f1.out⟩
end Go.Proofs.YtchfmgbjddopoaaGreatDoor.Hand
