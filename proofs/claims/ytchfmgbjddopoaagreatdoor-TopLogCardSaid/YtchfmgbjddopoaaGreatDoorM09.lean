import Derived.Test.YtchfmgbjddopoaaGreatDoorM06
import Derived.Test.YtchfmgbjddopoaaGreatDoorM07
import Derived.Test.YtchfmgbjddopoaaGreatDoorM08
set_option linter.unusedVariables false
set_option linter.unusedSimpArgs false
set_option maxHeartbeats 6400000
set_option maxRecDepth 100000
namespace Go.Proofs.YtchfmgbjddopoaaGreatDoor.Hand
open Go.RowKit Go.Proofs.YtchfmgbjddopoaaGreatDoorW.PrintWords Go.Proofs.YtchfmgbjddopoaaGreatDoorW.PrintLast Go.Proofs.YtchfmgbjddopoaaGreatDoorW.PrintMore
attribute [local go_sem ↓] Go.wp_at_zero Go.wp_at_succ
open Plain (frm first frames Bytes)
theorem Rows.below {w w' : World} {B : Nat} {v : Value} {vs : List Value} {rs : List (List Int)} (h : Rows w B v vs rs) (k : Below w.heap.size w w') : Rows w' B v vs rs := ⟨own_below h.own k, fun i hi => own_below (h.each i hi) k⟩
theorem Rows.push {w3 w4 : World} {B c2 j g4 k4 : Nat} {A2 : Option Addr} {vs : List Value} {rs : List (List Int)} {r : List Int} {x : Value} (h : Rows w3 B (.slice A2 j c2) vs rs) (hx : Bq w3 B x r) (hg : w3.grownBy w4 (Value.slice A2 j c2).ownBlock) (ho : w4.ownsRow B 39 1 (.slice (some ⟨g4, 0, none⟩) (j + 1) k4) (j + 1) (vs ++ [x])) (hj : rs.length = j) : Rows w4 B (.slice (some ⟨g4, 0, none⟩) (j + 1) k4) (vs ++ [x]) (rs ++ [r]) := by
 have hvs : vs.length = rs.length := by rw [h.own.1]; omega
 have F : Fr (fun k => (Value.slice A2 j c2).ownBlock = some k) w3 w4 := Fr.grown (Fr.refl _ w3) hg (fun k hk => .inl hk)
 have key : ∀ y s, Bq w3 B y s → Bq w4 B y s := fun y s hy => AP hy F (fun k hk => by
   rcases h.own.2 with ⟨e, _⟩ | ⟨g', cap, cur, e, _, hh, _⟩
   · rw [e] at hk; cases hk
   · rw [e] at hk
     have := Option.some.inj hk
     subst this
     exact AC hy (show Bk w3 g' cur 39 from hh) (by decide))
 refine ⟨by rw [List.length_append]; simpa [hj] using ho, fun i hi => ?_⟩
 rw [List.length_append] at hi
 by_cases hlt : i < rs.length
 · rw [List.getD_eq_getElem?_getD, List.getD_eq_getElem?_getD, List.getElem?_append_left (by omega), List.getElem?_append_left hlt, ← List.getD_eq_getElem?_getD, ← List.getD_eq_getElem?_getD]
   exact key _ _ (h.each i hlt)
 · have : i = rs.length := by simp at hi; omega
   subst this
   have e1 : (vs ++ [x]).getD rs.length (.slice none 0 0) = x := by rw [← hvs]; simp
   have e2 : (rs ++ [r]).getD rs.length [] = r := by simp
   rw [e1, e2]
   exact key _ _ hx
theorem Hq : ∀ rs : List (List Int), rs.length ≤ (frames rs).length
 | [] => Nat.le_refl _
 | r :: t => by
   rw [Plain.Dc, List.length_append, Plain.BK, List.length_cons]
   have := Hq t
   omega
theorem Xa : (Tryz.prog.info? 39).map (fun i => (i.zero, i.size, i.bytes)) = some (some (.slice none 0 0), 1, 24) := by kernel_rfl
theorem TA (w : World) (g cp : Nat) (l : List Int) (rs : List (List Int)) (tail : List Int) (h : Bq w 0 (.slice (some ⟨g, 0, none⟩) l.length cp) l) (hl : l.length ≤ 262144) (hb : Bytes l) (he : l = frames rs ++ tail) (hr : ∀ r ∈ rs, Bytes r ∧ 1 ≤ r.length ∧ r.length ≤ 8000) (ht : tail = [] ∨ first tail = none) :
   Calls Tryz.prog 24 #[.slice (some ⟨g, 0, none⟩) l.length cp] w fun e w' => ∃ v vs, e = .returned (.tuple #[v, .int .i64 (frames rs).length, .bool (decide (tail = []))]) ∧ Rows w' w.heap.size v vs rs ∧ Below w.heap.size w w' := by
 replace h := Aa.mk h
 replace hl := Aa.mk hl
 replace hb := Aa.mk hb
 replace hr := Aa.mk hr
 replace ht := Aa.mk ht
 replace he := Aa.mk he
 go_enter Tryz.func24, Tryz.ntmps24
 go_wp2_with fail
 go_loopw [2, 3] (fun v u w' => ∃ (j : Nat) (vs : List Value), j ≤ rs.length ∧ u = .int .i64 ((frames (rs.take j)).length : Nat) ∧ Aa (Rows w' w.heap.size v vs (rs.take j)) ∧ Aa (Below w.heap.size w w')) (fun _ u _ => l.length - (intOf u).toNat)
 case atStart => exact ⟨0, [], Nat.zero_le _, rfl, ⟨⟨World.ownsRow_nil _ _ _ _, fun i hi => absurd hi (by simp)⟩⟩, ⟨Below.refl _ _⟩⟩
 case round =>
   obtain ⟨j, vs, hj, rfl, HR, HB⟩ := hrel
   obtain ⟨A2, c2, rfl⟩ : ∃ A c, u2 = .slice A j c := by
     have hlen : (rs.take j).length = j := by simp [hj]
     rcases HR.out.own.2 with ⟨e, h0⟩ | ⟨g', cap, cur, e, _⟩
     · exact ⟨none, 0, by rw [e]; rw [hlen] at h0; rw [h0]⟩
     · exact ⟨_, _, by rw [e, hlen]⟩
   obtain ⟨U, hU⟩ : ∃ U, U = (frames (rs.take j)).length := ⟨_, rfl⟩
   rw [← hU]
   have hsplit : l = frames (rs.take j) ++ (frames (rs.drop j) ++ tail) := by
     have e1 : frames rs = frames (rs.take j) ++ frames (rs.drop j) := by
       unfold frames
       rw [← List.flatMap_append, List.take_append_drop]
     rw [he.out, e1, List.append_assoc]
   have hdrop : l.drop U = frames (rs.drop j) ++ tail := by rw [hsplit, hU]; simp
   have hUl : U ≤ l.length := by rw [hsplit, hU]; simp
   have hjU : Aa (j ≤ 262144) := ⟨by
     have h1 := Hq (rs.take j)
     have h2 := hl.out
     rw [List.length_take, Nat.min_eq_left hj, ← hU] at h1
     omega⟩
   by_cases hend : frames (rs.drop j) ++ tail = []
   · have e0 : U = l.length := by
       have := congrArg List.length hdrop
       rw [hend] at this
       simp at this
       omega
     have dl : decide ((U : Int) < (l.length : Int)) = false := by simp; omega
     have dl2 : decide (U < l.length) = false := by simp; omega
     have hdj : rs.drop j = [] := by
       cases hx : rs.drop j with
       | nil => rfl
       | cons r t =>
         rw [hx, Plain.Dc] at hend
         have := congrArg List.length hend
         simp [Plain.BK] at this
     have hj2 : rs.length ≤ j := by
       have := congrArg List.length hdj
       rw [List.length_drop] at this
       simp at this
       omega
     have htl : tail = [] := by rw [hdj] at hend; simpa [frames] using hend
     have htk : rs.take j = rs := List.take_of_length_le hj2
     have fin : ∃ v vs, (Ending.returned (Value.tuple #[.slice A2 j c2, .int .i64 U, .bool true])) = .returned (Value.tuple #[v, .int .i64 (frames rs).length, .bool (decide (tail = []))]) ∧ Rows wr w.heap.size v vs rs ∧ Below w.heap.size w wr := by
       rw [htk] at hU HR
       exact ⟨.slice A2 j c2, vs, by rw [← hU, htl]; rfl, HR.out, HB.out⟩
     replace fin := Aa.mk fin
     clear hdj hj2 htl htk hU hend hsplit hdrop hUl
     go_wp2_with fail
     go_returns
     exact fin.out
   · have e0 : U < l.length := by
       have := congrArg List.length hdrop
       rw [List.length_drop] at this
       have : 0 < (frames (rs.drop j) ++ tail).length := List.length_pos_iff.2 hend
       omega
     have dl : decide ((U : Int) < (l.length : Int)) = true := by simp; omega
     have dl2 : decide (U < l.length) = true := by simp; omega
     have hcp := Pn h.out
     have hne : (cp = U) = False := eq_false (by omega)
     have s1 : ((U : Int) ≤ (l.length : Int)) = True := eq_true (by omega)
     have s2 : (U ≤ l.length) = True := eq_true (by omega)
     have s3 : ((U : Int) ≤ (cp : Int)) = True := eq_true (by omega)
     have hC : Kd.C (Kd.int .u8) wr (some ⟨g, U, none⟩) (l.drop U).length (l.drop U) := by
       have := Kd.Xe (m := U) (c := cp) (Vu (own_below h.out HB.out)) hUl hcp
       rw [if_neg (by omega)] at this
       by_cases h0 : U = 0
       · subst h0; simpa [Addr.add] using this
       · simpa [Addr.add, h0, Kd.int, Kd.scalar] using this
     have hF := Qq wr g U (cp - U) (l.drop U) hC (by rw [List.length_drop]; omega) (fun x hx => hb.out x (List.mem_of_mem_drop hx)) (by rw [List.length_drop]; have := hl.out; omega)
     rw [List.length_drop, hdrop] at hF
     replace hF := Aa.mk hF
     clear hC
     cases hx : rs.drop j with
     | nil =>
       have htn : tail ≠ [] := fun e => hend (by rw [hx, e]; rfl)
       have hfn : first tail = none := ht.out.resolve_left htn
       have hj2 : rs.length ≤ j := by
         have := congrArg List.length hx
         rw [List.length_drop] at this
         simp at this
         omega
       have htk : rs.take j = rs := List.take_of_length_le hj2
       rw [hx, show frames [] ++ tail = tail from rfl, hfn] at hF
       have fin : ∀ w2, Below wr.heap.size wr w2 → ∃ v vs, (Ending.returned (Value.tuple #[.slice A2 j c2, .int .i64 U, .bool false])) = .returned (Value.tuple #[v, .int .i64 (frames rs).length, .bool (decide (tail = []))]) ∧ Rows w2 w.heap.size v vs rs ∧ Below w.heap.size w w2 := by
         intro w2 f2
         rw [htk] at hU HR
         exact ⟨.slice A2 j c2, vs, by rw [← hU, decide_eq_false htn], HR.out.below f2, HB.out.trans (f2.mono HB.out.size)⟩
       replace fin := Aa.mk fin
       clear hj2 htk hU hend hsplit hdrop hUl htn hfn hx
       go_wp2_with (first
         | (go_at_call 66; with_reducible refine hF.out.mono ?_; rintro e w2 ⟨rfl, f2⟩; have fin2 := Aa.mk (fin.out w2 f2); clear f2))
       go_returns
       exact fin2.out
     | cons r t =>
       obtain ⟨i0, hi, hz0, hz1, hz2⟩ := info_parts Xa
       replace hi := Aa.mk hi
       replace hz0 := Aa.mk hz0
       replace hz1 := Aa.mk hz1
       replace hz2 := Aa.mk hz2
       have hrr := hr.out r (List.mem_of_mem_drop (by rw [hx]; simp))
       have hff : first (frames (r :: t) ++ tail) = some r := by rw [Plain.Dc, List.append_assoc]; exact Plain.Vj r _ hrr.1 hrr.2.2
       rw [hx, hff] at hF
       have hjl : j < rs.length := by
         have := congrArg List.length hx
         rw [List.length_drop] at this
         simp at this
         omega
       have hU2 : U + (12 + r.length) = (frames (rs.take (j + 1))).length := by
         have hj1 : rs[j] = r := by
           have := List.drop_eq_getElem_cons hjl
           rw [hx] at this
           exact (List.cons.inj this).1.symm
         rw [List.take_succ_eq_append_getElem hjl, hj1, Plain.JG, List.length_append, ← hU, Plain.BK]
       have hUb : U + (12 + r.length) ≤ l.length := by
         have := congrArg List.length hdrop
         rw [hx, Plain.Dc, List.length_drop, List.length_append, List.length_append, Plain.BK] at this
         omega
       have W1 : Aa (wrap64 (12 + (r.length : Int)) = 12 + (r.length : Int)) := ⟨IntWalk.wrap64_in _ ⟨by omega, by omega⟩⟩
       have W2 : Aa (wrap64 ((U : Int) + (12 + (r.length : Int))) = (U : Int) + (12 + (r.length : Int))) := ⟨IntWalk.wrap64_in _ (by have := hl.out; constructor <;> omega)⟩
       replace hU := Aa.mk hU
       replace hend := Aa.mk hend
       replace hsplit := Aa.mk hsplit
       replace hdrop := Aa.mk hdrop
       have wr1 := W1.out
       have wr2 := W2.out
       go_wp2_with (first
         | (go_at_call 66; with_reducible refine hF.out.mono ?_; rintro e w2 ⟨⟨v', rfl, r2⟩, f2⟩; obtain ⟨A3, c3, rfl⟩ := Bq.slice r2; have f2z := Aa.mk f2; have R2 := Aa.mk (HR.out.below f2); replace r2 := Aa.mk r2; clear f2)
         | ((with_reducible refine Ac (N := 24) rfl ?_); refine Cb (N := 24) (n := 1) (C := #[.slice A3 r.length c3]) rfl rfl (by first | (go_simp; done) | (go_simp; rfl)) ?_; intro g3 w3 hg3 bg3 f3; have R3 := Aa.mk (R2.out.below f3.out); have r3 : Aa (Bq w3 w.heap.size (.slice A3 r.length c3) r) := ⟨AV (own_below r2.out f3.out) HB.out.size⟩; have F3 : Aa (Below w.heap.size w w3) := ⟨(HB.out.trans (f2z.out.mono HB.out.size)).trans (f3.out.mono (Nat.le_trans HB.out.size f2z.out.size))⟩; clear f3 R2 r2)
         | (at_builtin; go_loud (
            have hlj : (rs.take j).length = j := by rw [List.length_take]; omega
            refine wpList_append_lies _ rfl (.tmp 22) (.tmp 24) 62 rfl w.heap.size 39 i0 _ 1 24 Tryz.underlying62 hi.out hz0.out hz1.out hz2.out rfl (by decide) (.slice A2 j c2) j vs rfl (by have := R3.out.own; rwa [hlj] at this) ⟨g3, 0, none⟩ 1 1 [.slice A3 r.length c3] rfl rfl (World.news_of_block (show w3.heap[g3]? = some (.cells _ 39 (0, 0)) from bg3.out)) (fun u hu => by simp at hu; subst hu; rfl) (by decide) (by have := hjU.out; simp only [maxLen]; omega) (by have := hjU.out; omega) F3.out.size _ rfl ?_
            intro g4 k4 w4 ho hgr hat hlt
            have R4 := Aa.mk (Rows.push R3.out r3.out hgr ho hlj)
            have F4 : Aa (Below w.heap.size w w4) := ⟨F3.out.trans ((Fr.grown (T := fun k => (Value.slice A2 j c2).ownBlock = some k) (Fr.refl _ w3) hgr (fun k hk => .inl hk)).below (fun k hk e => by have := (R3.out.own.lt k e).1; omega) F3.out.size)⟩
            clear ho hgr hat hlt hlj)))
       have htk1 : rs.take (j + 1) = rs.take j ++ [r] := by
         have hj1 : rs[j] = r := by
           have := List.drop_eq_getElem_cons hjl
           rw [hx] at this
           exact (List.cons.inj this).1.symm
         rw [List.take_succ_eq_append_getElem hjl, hj1]
       clear wr1 wr2
       have hval : wrap64 ((U : Int) + (12 + (r.length : Int))) = ((U + (12 + r.length) : Nat) : Int) := W2.out.trans (by rw [Int.natCast_add, Int.natCast_add]; rfl)
       clear W1 W2
       rw [hval]
       clear hval
       refine ⟨⟨j + 1, _, hjl, by rw [hU2], ⟨by rw [htk1]; exact R4.out⟩, F4⟩, ?_⟩
       simp only [intOf, Int.toNat_natCast]
       omega
theorem Qp (w : World) (A : Option Addr) (c : Nat) :
   Calls Tryz.prog 24 #[.slice A 0 c] w fun e w' => e = .returned (.tuple #[.slice none 0 0, .int .i64 0, .bool true]) ∧ w' = w := by
 go_enter Tryz.func24, Tryz.ntmps24
 go_wp2_with fail
 go_loopw [2, 3] (fun v u w' => v = .slice none 0 0 ∧ u = .int .i64 0 ∧ w' = w) (fun _ u _ => (intOf u).toNat)
 case atStart => exact ⟨rfl, rfl, rfl⟩
 case round =>
   obtain ⟨rfl, rfl, rfl⟩ := hrel
   go_wp2_with fail
   go_returns
   exact ⟨rfl, rfl⟩
theorem VL (w : World) (v : Value) (l : List Int) (rs : List (List Int)) (tail : List Int) (h : Bq w 0 v l) (hl : l.length ≤ 262144) (hb : Bytes l) (he : l = frames rs ++ tail) (hr : ∀ r ∈ rs, Bytes r ∧ 1 ≤ r.length ∧ r.length ≤ 8000) (ht : tail = [] ∨ first tail = none) :
   Calls Tryz.prog 24 #[v] w fun e w' => ∃ A c vs, e = .returned (.tuple #[.slice A rs.length c, .int .i64 (frames rs).length, .bool (decide (tail = []))]) ∧ Rows w' w.heap.size (.slice A rs.length c) vs rs ∧ Below w.heap.size w w' := by
 by_cases h0 : l.length = 0
 · have hl0 : l = [] := List.eq_nil_of_length_eq_zero h0
   obtain ⟨A, cp, rfl⟩ := Bq.slice h
   rw [h0]
   have hf : frames rs = [] ∧ tail = [] := by
     rw [hl0] at he
     exact List.append_eq_nil_iff.1 he.symm
   have hrs : rs = [] := by
     have := Hq rs
     rw [hf.1] at this
     exact List.eq_nil_of_length_eq_zero (by simpa using this)
   rw [hrs, hf.2]
   refine (Qp w A cp).mono ?_
   rintro e w' ⟨rfl, rfl⟩
   exact ⟨none, 0, [], rfl, ⟨World.ownsRow_nil _ _ _ _, fun i hi => absurd hi (by simp)⟩, Below.refl _ _⟩
 · obtain ⟨g, cp, rfl, _⟩ := Bq.at_ h (by omega)
   refine (TA w g cp l rs tail h hl hb he hr ht).mono ?_
   rintro e w' ⟨v, vs, rfl, hR, hB⟩
   obtain ⟨A, c, rfl⟩ : ∃ A c, v = .slice A rs.length c := by
     rcases hR.own.2 with ⟨e, h0⟩ | ⟨g', cap, cur, e, _⟩
     · exact ⟨none, 0, by rw [e, h0]⟩
     · exact ⟨_, _, e⟩
   exact ⟨A, c, vs, rfl, hR, hB⟩
theorem NG (w : World) (d m : Nat) (lives : Int) (h : Dk0 d m lives true w) :
   Calls Tryz.prog 6 #[.pointer (some ⟨d, 0, none⟩), .string nmW] w fun e w' => ∃ g, e = .returned (.tuple #[.pointer (some ⟨g, 0, none⟩), .int .i64 0]) ∧ w.heap.size ≤ g ∧ Bk w' g (LgC d (.slice none 0 0) 0 lives false) 64 ∧ Below w.heap.size w w' := by
 have hR := TF w d m lives h
 have hL : Aa (∀ W, Bk W d (DkC lives true m) 60 → _) := ⟨fun W hW => Hr W d m lives true hW⟩
 replace h := Aa.mk h
 go_enter Tryz.func6, Tryz.ntmps6
 go_wp2_with (first
   | (go_at_call 22; refine hR.mono ?_; clear hR; rintro e w1 ⟨rfl, f1⟩; have h1 := Aa.mk (h.out.below f1); replace f1 := Aa.mk f1)
   | (go_at_call 23; refine (hL.out _ h1.out.d).mono ?_; rintro e w' ⟨rfl, rfl⟩)
   | ((with_reducible refine Ac (N := 25) rfl ?_); refine Aj (N := 25) (C := LgC d (.slice none 0 0) 0 lives false) rfl rfl (by first | (go_simp; done) | (go_simp; rfl)) ?_; intro g w2 hg b2 f2))
 go_returns
 exact ⟨g, rfl, Nat.le_trans f1.out.size hg.out, b2.out, f1.out.trans (f2.out.mono f1.out.size)⟩
theorem Rows.fr1 {w w' : World} {B g t : Nat} {v : Value} {vs : List Value} {rs : List (List Int)} {C : Array Value} (h : Rows w B v vs rs) (f : Fr (fun k => k = g) w w') (hb : Bk w g C t) (h5 : (5 : Nat) ≠ t) (h39 : (39 : Nat) ≠ t) : Rows w' B v vs rs :=
 ⟨AP h.own f (fun k hk => hk ▸ AC h.own hb h39), fun i hi => AP (h.each i hi) f (fun k hk => hk ▸ AC (h.each i hi) hb h5)⟩
theorem Rn {w w4 : World} {g d m f : Nat} {lives : Int} {A : Option Addr} {c : Nat} {vs : List Value} {rs : List (List Int)} {v : Value} (hg : w.heap.size ≤ g) (b4 : Bk w4 g (LgC d (.slice none 0 0) 0 lives false) 64) (R4 : Rows w4 w.heap.size (.slice A rs.length c) vs rs) (h4 : Dk1 d m f lives true v (frames rs) (frames rs).length w4) (F : Fr (fun k => k = f) w w4) :
   ∃ g' A' c' vs', (Ending.returned (Value.tuple #[.pointer (some ⟨g, 0, none⟩), .int .i64 0])) = .returned (.tuple #[.pointer (some ⟨g', 0, none⟩), .int .i64 0]) ∧ w.heap.size ≤ g' ∧ Bk ((w4.setCell ⟨g, 2, none⟩ (.slice A rs.length c)).setCell ⟨g, 3, none⟩ (.int .i64 rs.length)) g' (LgC d (.slice A' rs.length c') rs.length lives false) 64 ∧ Rows ((w4.setCell ⟨g, 2, none⟩ (.slice A rs.length c)).setCell ⟨g, 3, none⟩ (.int .i64 rs.length)) w.heap.size (.slice A' rs.length c') vs' rs ∧ (∃ v', Dk1 d m f lives true v' (frames rs) (frames rs).length ((w4.setCell ⟨g, 2, none⟩ (.slice A rs.length c)).setCell ⟨g, 3, none⟩ (.int .i64 rs.length))) ∧ Fr (fun k => k = f) w ((w4.setCell ⟨g, 2, none⟩ (.slice A rs.length c)).setCell ⟨g, 3, none⟩ (.int .i64 rs.length)) := by
 have hB := Bk.set (Bk.set b4 2 (.slice A rs.length c)) 3 (.int .i64 rs.length)
 have hF : Fr (fun k => k = g) w4 ((w4.setCell ⟨g, 2, none⟩ (.slice A rs.length c)).setCell ⟨g, 3, none⟩ (.int .i64 rs.length)) := Fr.set (T := fun k => k = g) (Fr.set (T := fun k => k = g) (Fr.refl _ w4) g 2 _ (.inl rfl)) g 3 _ (.inl rfl)
 generalize ((w4.setCell ⟨g, 2, none⟩ (.slice A rs.length c)).setCell ⟨g, 3, none⟩ (.int .i64 rs.length)) = W at hB hF ⊢
 refine ⟨g, A, c, vs, rfl, hg, hB, R4.fr1 hF b4 (by decide) (by decide), ⟨v, h4.d.fr hF (Dh h4.d b4 (by decide)), h4.m.fr hF (fun e => BR b4 h4.m e.symm), h4.f.fr hF (Dh h4.f b4 (by decide)), AP h4.b hF (fun k hk => hk ▸ AC h4.b b4 (by decide))⟩, F.after hF (fun k hk => .inr (by omega))⟩
theorem UJ (w : World) (d m f s : Nat) (lives : Int) (v : Value) (l : List Int) (rs : List (List Int)) (tail : List Int) (h : Dk1 d m f lives true v l s w) (hl : l.length ≤ 262144) (hb : Bytes l) (he : l = frames rs ++ tail) (hr : ∀ r ∈ rs, Bytes r ∧ 1 ≤ r.length ∧ r.length ≤ 8000) (ht : tail = [] ∨ first tail = none) :
   Calls Tryz.prog 6 #[.pointer (some ⟨d, 0, none⟩), .string nmW] w fun e w' => ∃ g A c vs, e = .returned (.tuple #[.pointer (some ⟨g, 0, none⟩), .int .i64 0]) ∧ w.heap.size ≤ g ∧ Bk w' g (LgC d (.slice A rs.length c) rs.length lives false) 64 ∧ Rows w' w.heap.size (.slice A rs.length c) vs rs ∧ (∃ v', Dk1 d m f lives true v' (frames rs) (frames rs).length w') ∧ Fr (fun k => k = f) w w' := by
 have hR := TE w d m f lives v l s h (by omega)
 have hL : Aa (∀ W, Bk W d (DkC lives true m) 60 → _) := ⟨fun W hW => Hr W d m lives true hW⟩
 have hS : Aa (∀ W v', Bq W 0 v' l → _) := ⟨fun W v' hW => VL W v' l rs tail hW hl hb he hr ht⟩
 have hC : Aa (∀ W, Dk1 d m f lives true v l s W → _) := ⟨fun W hW => Vl W d m f (frames rs).length lives v l s hW (by rw [he]; simp) hl⟩
 have hY : Aa (∀ W v l s, Dk1 d m f lives true v l s W → _) := ⟨fun W v l s hW => Oc W d m f lives v l s hW⟩
 have htk : Aa (l.take (frames rs).length = frames rs) := ⟨by rw [he]; simp⟩
 have hte : Aa (tail = [] → l = frames rs) := ⟨fun e => by rw [he, e]; simp⟩
 replace h := Aa.mk h
 clear he hr ht hb
 obtain ⟨U, hU⟩ : ∃ U, U = (frames rs).length := ⟨_, rfl⟩
 rw [← hU] at hS hC htk
 obtain ⟨N, hN⟩ : ∃ N, N = rs.length := ⟨_, rfl⟩
 rw [← hN] at hS
 replace hU := Aa.mk hU
 replace hN := Aa.mk hN
 by_cases htl : tail = []
 · replace hte := Aa.mk (hte.out htl)
   rw [decide_eq_true htl] at hS
   clear htl
   go_enter Tryz.func6, Tryz.ntmps6
   go_wp2_with (first
     | (go_at_call 22; refine hR.mono ?_; clear hR; rintro e w1 ⟨v1, rfl, r1, f1⟩; have h1 := Aa.mk (h.out.below f1); replace r1 := Aa.mk r1; replace f1 := Aa.mk f1)
     | (go_at_call 23; refine (hL.out _ h1.out.d).mono ?_; rintro e w' ⟨rfl, rfl⟩)
     | ((with_reducible refine Ac (N := 25) rfl ?_); refine Aj (N := 25) (C := LgC d (.slice none 0 0) 0 lives false) rfl rfl (by first | (go_simp; done) | (go_simp; rfl)) ?_; intro g w2 hg b2 f2; have h2 := Aa.mk (h1.out.below f2.out); have r2 := Aa.mk (AV (own_below r1.out f2.out) (Nat.zero_le _)))
     | (go_at_call 24; refine (hS.out _ _ r2.out).mono ?_; rintro e w3 ⟨A, c, vs, rfl, R3, f3⟩; have h3 := Aa.mk (h2.out.below f3); have b3 := Aa.mk (Ob.Ad b2.out f3); replace R3 := Aa.mk R3; replace f3 := Aa.mk f3)
     | (go_at_call 26; refine (hY.out _ _ _ _ h3.out).mono ?_; rintro e w4 ⟨rfl, h4, f4⟩; have b4 := Aa.mk (Ob.fr b3.out f4 (Dh b3.out h3.out.f (by decide))); have z2 := Bk.free b4.out 2; have z3 := Bk.free b4.out 3; have c2 : w4.cell? ⟨g, 2, none⟩ = some (.slice none 0 0) := Bk.cell b4.out rfl; have c3 : w4.cell? ⟨g, 3, none⟩ = some (.int .i64 0) := Bk.cell b4.out rfl; replace h4 := Aa.mk h4; replace f4 := Aa.mk f4))
   go_returns
   have R4 := Rows.fr1 R3.out f4.out h3.out.f (by decide) (by decide)
   have F : Fr (fun k => k = f) w w4 := ((Fr.of_below f1.out).trans (Fr.of_below f2.out)).trans ((Fr.of_below f3.out).trans f4.out)
   have hg0 : w.heap.size ≤ g := Nat.le_trans f1.out.size hg.out
   rw [hN.out] at R4 ⊢
   have h4o := h4.out
   rw [hte.out] at h4o
   have R4' : Rows w4 w.heap.size (.slice A rs.length c) vs rs := ⟨AV R4.own (Nat.le_trans f1.out.size f2.out.size), fun i hi => AV (R4.each i hi) (Nat.le_trans f1.out.size f2.out.size)⟩
   exact Rn hg0 b4.out R4' h4o F
 · rw [decide_eq_false htl] at hS
   clear htl hte
   go_enter Tryz.func6, Tryz.ntmps6
   go_wp2_with (first
     | (go_at_call 22; refine hR.mono ?_; clear hR; rintro e w1 ⟨v1, rfl, r1, f1⟩; have h1 := Aa.mk (h.out.below f1); replace r1 := Aa.mk r1; replace f1 := Aa.mk f1)
     | (go_at_call 23; refine (hL.out _ h1.out.d).mono ?_; rintro e w' ⟨rfl, rfl⟩)
     | ((with_reducible refine Ac (N := 25) rfl ?_); refine Aj (N := 25) (C := LgC d (.slice none 0 0) 0 lives false) rfl rfl (by first | (go_simp; done) | (go_simp; rfl)) ?_; intro g w2 hg b2 f2; have h2 := Aa.mk (h1.out.below f2.out); have r2 := Aa.mk (AV (own_below r1.out f2.out) (Nat.zero_le _)))
     | (go_at_call 24; refine (hS.out _ _ r2.out).mono ?_; rintro e w3 ⟨A, c, vs, rfl, R3, f3⟩; have h3 := Aa.mk (h2.out.below f3); have b3 := Aa.mk (Ob.Ad b2.out f3); replace R3 := Aa.mk R3; replace f3 := Aa.mk f3)
     | (go_at_call 25; refine (hC.out _ h3.out).mono ?_; rintro e w5 ⟨rfl, v5, h5, f5, n5⟩; have b5 := Aa.mk (Ob.fr b3.out f5 (Dh b3.out h3.out.f (by decide))); have R5 := Aa.mk (Rows.fr1 R3.out f5 h3.out.f (by decide) (by decide)); replace h5 := Aa.mk h5; replace f5 := Aa.mk f5; clear n5)
     | (go_at_call 26; refine (hY.out _ _ _ _ h5.out).mono ?_; rintro e w4 ⟨rfl, h4, f4⟩; have b4 := Aa.mk (Ob.fr b5.out f4 (Dh b5.out h5.out.f (by decide))); have z2 := Bk.free b4.out 2; have z3 := Bk.free b4.out 3; have c2 : w4.cell? ⟨g, 2, none⟩ = some (.slice none 0 0) := Bk.cell b4.out rfl; have c3 : w4.cell? ⟨g, 3, none⟩ = some (.int .i64 0) := Bk.cell b4.out rfl; replace h4 := Aa.mk h4; replace f4 := Aa.mk f4))
   go_returns
   have R4 := Rows.fr1 R5.out f4.out h5.out.f (by decide) (by decide)
   have F : Fr (fun k => k = f) w w4 := ((Fr.of_below f1.out).trans (Fr.of_below f2.out)).trans (((Fr.of_below f3.out).trans f5.out).trans f4.out)
   have hg0 : w.heap.size ≤ g := Nat.le_trans f1.out.size hg.out
   rw [hN.out] at R4 ⊢
   have h4o := h4.out
   rw [htk.out] at h4o
   have R4' : Rows w4 w.heap.size (.slice A rs.length c) vs rs := ⟨AV R4.own (Nat.le_trans f1.out.size f2.out.size), fun i hi => AV (R4.each i hi) (Nat.le_trans f1.out.size f2.out.size)⟩
   exact Rn hg0 b4.out R4' h4o F
theorem Rows.frT {w w' : World} {B : Nat} {v : Value} {vs : List Value} {rs : List (List Int)} {T : Nat → Prop} (h : Rows w B v vs rs) (f : Fr T w w') (h1 : ∀ k, T k → v.ownBlock ≠ some k) (h2 : ∀ k, T k → ∀ i, i < rs.length → (vs.getD i (.slice none 0 0)).ownBlock ≠ some k) : Rows w' B v vs rs :=
 ⟨AP h.own f h1, fun i hi => AP (h.each i hi) f fun k hk => h2 k hk i hi⟩
theorem Um (w : World) (g d m safe n c x B : Nat) (A : Option Addr) (lives : Int) (vs : List Value) (rs : List (List Int)) (v : Value) (r : List Int) (T : Nat → Prop) (DP : World → Prop) (DQ : Value → World → Prop)
   (hg : Bk w g (LgC d (.slice A n c) safe lives false) 64) (hd : ∀ W, DP W → Bk W d (DkC lives true m) 60) (hR : Rows w B (.slice A n c) vs rs) (hn : n = rs.length) (hn2 : n ≤ 1000) (hBw : B ≤ w.heap.size)
   (hx : Bk w x #[v] 39) (hv : Bq w 0 v r) (hb : Bytes r) (hr1 : 1 ≤ r.length) (hr2 : r.length ≤ 8000)
   (h0 : DP w) (hP : ∀ W W', DP W → Below W.heap.size W W' → DP W')
   (hTg : ¬ T g) (hTx : ¬ T x) (hTv : ∀ k, T k → v.ownBlock ≠ some k) (hT1 : ∀ k, T k → (Value.slice A n c).ownBlock ≠ some k) (hT2 : ∀ k, T k → ∀ i, i < rs.length → (vs.getD i (.slice none 0 0)).ownBlock ≠ some k)
   (hA : ∀ W g2 c2, DP W → Bq W 0 (.slice (some ⟨g2, 0, none⟩) (frm r).length c2) (frm r) → w.heap.size ≤ W.heap.size → Calls Tryz.prog 34 #[.pointer (some ⟨d, 0, none⟩), .string nmW, .slice (some ⟨g2, 0, none⟩) (frm r).length c2] W fun e w' => e = .returned (.int .i64 0) ∧ (∃ z, DQ z w') ∧ Fr T W w')
   (hQ : ∀ z W W', DQ z W → Fr (fun k => k = g ∨ (Value.slice A n c).ownBlock = some k) W W' → DQ z W') :
   Calls Tryz.prog 8 #[.pointer (some ⟨g, 0, none⟩), .slice (some ⟨x, 0, none⟩) 1 1] w fun e w' => e = .returned (.int .i64 0) ∧ ∃ A' c' y z W1, Bk w' g (LgC d (.slice A' (n + 1) c') safe lives false) 64 ∧ Rows w' B (.slice A' (n + 1) c') (vs ++ [y]) (rs ++ [r]) ∧ DQ z W1 ∧ DQ z w' ∧ (∀ k, y.ownBlock = some k → W1.heap.size ≤ k) ∧ W1.heap.size ≤ w'.heap.size ∧ Fr (fun k => T k ∨ k = g ∨ (Value.slice A n c).ownBlock = some k) w w' ∧ ((Value.slice A' (n + 1) c').ownBlock = (Value.slice A n c).ownBlock ∨ ∃ k, (Value.slice A' (n + 1) c').ownBlock = some k ∧ w.heap.size ≤ k) := by
 obtain ⟨i0, hi, hz0, hz1, hz2⟩ := info_parts Xa
 replace hi := Aa.mk hi
 replace hz0 := Aa.mk hz0
 replace hz1 := Aa.mk hz1
 replace hz2 := Aa.mk hz2
 have hO : Aa (∀ W, Bk W g (LgC d (.slice A n c) safe lives false) 64 → DP W → Calls Tryz.prog 31 #[.pointer (some ⟨g, 0, none⟩)] W fun e w' => e = .returned (.bool false) ∧ Below W.heap.size W w') := ⟨fun W hW hD => Pj W g d m safe _ lives hW (hd W hD)⟩
 obtain ⟨Av, cv, rfl⟩ := Bq.slice hv
 have hF : Aa (∀ W, Bq W 0 (.slice Av r.length cv) r → Calls Tryz.prog 32 #[.slice none 0 0, .slice Av r.length cv] W fun e w' => ∃ g2 c2, e = .returned (.tuple #[.slice (some ⟨g2, 0, none⟩) (frm r).length c2, .int .i64 0]) ∧ Bq w' W.heap.size (.slice (some ⟨g2, 0, none⟩) (frm r).length c2) (frm r) ∧ Below W.heap.size W w') := ⟨fun W hW => (Vh W Av cv r hW hb hr1 hr2).mono (by
   rintro e w' ⟨v', rfl, h1, h2⟩
   obtain ⟨g2, c2, rfl, _⟩ := Bq.at_ h1 (by rw [Plain.BK]; omega)
   exact ⟨g2, c2, rfl, h1, h2⟩)⟩
 have hCl : Aa (∀ W, Bq W 0 (.slice Av r.length cv) r → Calls Tryz.prog 35 #[.slice Av r.length cv] W fun e w' => ∃ v', e = .returned v' ∧ Bq w' W.heap.size v' r ∧ Below W.heap.size W w') := ⟨fun W hW => Ef W 0 _ r hW (by omega)⟩
 replace hA := Aa.mk hA
 replace hg := Aa.mk hg
 replace hR := Aa.mk hR
 replace hx := Aa.mk hx
 replace hv := Aa.mk hv
 replace h0 := Aa.mk h0
 replace hn := Aa.mk hn
 replace hP := Aa.mk hP
 replace hQ := Aa.mk hQ
 replace hTg := Aa.mk hTg
 replace hTx := Aa.mk hTx
 replace hTv := Aa.mk hTv
 replace hT1 := Aa.mk hT1
 replace hT2 := Aa.mk hT2
 replace hBw := Aa.mk hBw
 clear hd hb hr1 hr2
 have nn0 := Bk.cell hx.out (j := 0) rfl
 go_enter Tryz.func8, Tryz.ntmps8
 go_wp2_with (first
   | (go_at_call 31; refine (hO.out _ hg.out h0.out).mono ?_; rintro e w1 ⟨rfl, f1⟩; have g1 := Aa.mk (Ob.Ad hg.out f1); have x1 := Aa.mk (Ob.Ad hx.out f1); have v1 := Aa.mk (own_below hv.out f1); have R1 := Aa.mk (hR.out.below f1); have D1 := Aa.mk (hP.out _ _ h0.out f1); have cx1 : w1.cell? ⟨x, 0, none⟩ = some (.slice Av r.length cv) := Bk.cell x1.out rfl; replace f1 := Aa.mk f1))
 refine wp_loop_rounds 3 ?_
 rw [rounds_succ]
 go_wp2_with (first
   | (go_at_call 32; refine (hF.out _ v1.out).mono ?_; rintro e w2 ⟨p2, c2, rfl, r2, f2⟩; have g2 := Aa.mk (Ob.Ad g1.out f2); have x2 := Aa.mk (Ob.Ad x1.out f2); have v2 := Aa.mk (own_below v1.out f2); have R2 := Aa.mk (R1.out.below f2); have D2 := Aa.mk (hP.out _ _ D1.out f2); have F2 : Aa (Below w.heap.size w w2) := ⟨f1.out.trans (f2.mono f1.out.size)⟩; replace r2 := Aa.mk (AV r2 (Nat.zero_le _)); clear f2 cx1))
 rw [rounds_succ]
 go_wp2_with fail
 refine wp_region_noPanic ?_
 go_region_held_law (fun w' => (w'.cell? ⟨g, 0, none⟩ = some (.pointer (some ⟨d, 0, none⟩)) ∧ w'.cell? ⟨g, 1, none⟩ = some (.string nmW)) ∧ Bk w' g (LgC d (.slice A n c) safe lives false) 64)
   ((first | exact ⟨⟨Bk.cell g2.out.drew rfl, Bk.cell g2.out.drew rfl⟩, g2.out.drew⟩ | exact ⟨⟨Bk.cell (Aa.out g3) rfl, Bk.cell (Aa.out g3) rfl⟩, Aa.out g3⟩))
   ((first
     | (go_at_call 34
        refine (hA.out _ _ _ (hP.out _ _ D2.out (Ag (Below.refl _ _))) (own_below r2.out (Ag (Below.refl _ _))) F2.out.size).mono ?_
        rintro e w3 ⟨rfl, ⟨z, Q3⟩, f3⟩
        have g3 := Aa.mk (Ob.fr (Ob.drew g2.out) f3 hTg.out)
        have x3 := Aa.mk (Ob.fr (Ob.drew x2.out) f3 hTx.out)
        have v3 := Aa.mk (AP (own_below v2.out (Ag (Below.refl _ _))) f3 hTv.out)
        have R3 := Aa.mk ((R2.out.below (Ag (Below.refl _ _))).frT f3 hT1.out hT2.out)
        have F3 := Aa.mk ((Fr.of_below (T := T) (Ag F2.out)).trans f3)
        replace Q3 := Aa.mk Q3
        clear f3)
     | (go_at_call 33; refine (NH _ g).mono ?_; rintro e w4 ⟨rfl, rfl⟩)))
 refine NoPanic.normal ?_
 go_split_ands
 have cx3 := Bk.cell x3.out (j := 0) rfl
 go_wp2_with fail
 refine wp_loop_rounds 3 ?_
 rw [rounds_succ]
 go_upto_region 18 with fail
 clear cx3
 have q0 : w4.cell? ⟨g, 2, none⟩ = some (.slice A n c) := Bk.cell g3.out rfl
 have hnl := hn.out
 have hng : (Value.slice A n c).ownBlock ≠ some g := AC R3.out.own g3.out (by decide)
 replace hng := Aa.mk hng
 replace hn2 := Aa.mk hn2
 clear hnl nn0
 go_region_law (first
   | (go_simp
      go_at_call 35
      refine (hCl.out _ (own_below v3.out (Ag (Below.refl _ _)))).mono ?_
      rintro e w5 ⟨y, rfl, y5, f5⟩
      obtain ⟨Ay, cy, rfl⟩ := Bq.slice y5
      have g5 := Aa.mk (Ob.Ad (Ob.drew g3.out) f5)
      have R5 := Aa.mk ((R3.out.below (Ag (Below.refl _ _))).below f5)
      have Q5 := Aa.mk (hQ.out z _ _ Q3.out ((Fr.of_below (Ag (Below.refl _ _))).trans (Fr.of_below f5)))
      have F5 := Aa.mk ((F3.out.drew).trans (Fr.of_below f5))
      have q5 : w5.cell? ⟨g, 2, none⟩ = some (.slice A n c) := Bk.cell g5.out rfl
      have qd : (w5.alloc (.cells #[.slice Ay r.length cy] 39)).cell? ⟨g, 2, none⟩ = some (.slice A n c) := Bk.cell (g5.out.alloc (.cells #[.slice Ay r.length cy] 39)) rfl
      replace y5 := Aa.mk y5
      have s5 := Aa.mk f5.size
      clear f5)
   | (refine step_append_lies _ (by rfl) (.tmp 57) (.tmp 60) 62 (by rfl) B 39 i0 _ 1 24 Tryz.underlying62 hi.out hz0.out hz1.out hz2.out (by rfl) (by decide) (.slice A n c) n vs (by rfl) (by have := ((Aa.out R5).below (Ah (Below.refl _ _) (.cells #[.slice Ay r.length cy] 39))).own; rwa [← hn.out] at this) ⟨_, 0, none⟩ 1 1 [.slice Ay r.length cy] (by rfl) rfl (World.news_of_block (heap_alloc_new _ _)) (fun u hu => by rw [List.mem_singleton.1 hu]; rfl) (by decide) (by have := hn2.out; simp only [maxLen]; omega) (by have := hn2.out; omega) (by have := hBw.out; have := (Aa.out F5).size; simp only [World.alloc, Array.size_push]; omega) _ rfl ?_
      intro g6 k6 wa oa hgr hat hlt6
      have fa := Fr.grown (T := fun k => (Value.slice A n c).ownBlock = some k) (Fr.refl _ _) hgr (fun k hk => .inl hk)
      have ga := Aa.mk (Ob.fr ((Aa.out g5).alloc (.cells #[.slice Ay r.length cy] 39)) fa hng.out)
      have Ra := Aa.mk (Rows.push ((Aa.out R5).below (Ah (Below.refl _ _) (.cells #[.slice Ay r.length cy] 39))) (AV (own_below (Aa.out y5) (Ah (Below.refl _ _) (.cells #[.slice Ay r.length cy] 39))) (Nat.le_trans hBw.out F3.out.size)) hgr oa hn.out.symm)
      have ca : wa.cell? ⟨g, 2, none⟩ = some (.slice A n c) := Bk.cell ga.out rfl
      have za := Bk.free ga.out 2
      clear q5 qd))
 all_goals
   clear ca za
   go_wp2_with fail
   rw [rounds_succ]
   go_wp2_with fail
   go_returns
   have Z := Bk.set ga.out 2 (.slice (some ⟨g6, 0, none⟩) (n + 1) k6)
   have ZF : Fr (fun k => k = g) wa (wa.setCell ⟨g, 2, none⟩ (.slice (some ⟨g6, 0, none⟩) (n + 1) k6)) := (Fr.refl _ wa).set g 2 _ (.inl rfl)
   generalize wa.setCell ⟨g, 2, none⟩ (.slice (some ⟨g6, 0, none⟩) (n + 1) k6) = wE at Z ZF ⊢
   have G := ((Fr.of_below (T := fun k => k = g ∨ (Value.slice A n c).ownBlock = some k) (Ah (Below.refl _ _) (.cells #[.slice Ay r.length cy] 39))).trans (fa.weaken fun k _ e => .inr e)).trans (ZF.weaken fun k _ e => .inl e)
   refine ⟨rfl, some ⟨g6, 0, none⟩, k6, .slice Ay r.length cy, z, _, Z, Ra.out.fr1 ZF ga.out (by decide) (by decide), Q3.out, hQ.out z _ _ Q5.out G, fun k hk => (y5.out.lt k hk).1, ?_, ?_, ?_⟩
   · exact Nat.le_trans s5.out G.size
   · exact (F5.out.weaken fun k _ e => .inl e).trans (G.weaken fun k _ e => .inr e)
   · rcases hat with e | e
     · exact .inl e.symm
     · refine .inr ⟨g6, rfl, ?_⟩
       rw [e]
       have := F5.out.size
       simp only [World.alloc, Array.size_push]
       omega
end Go.Proofs.YtchfmgbjddopoaaGreatDoor.Hand
namespace Go.Proofs.YtchfmgbjddopoaaGreatDoor.Hand
open Go.RowKit Go.Proofs.YtchfmgbjddopoaaGreatDoorW.PrintWords Go.Proofs.YtchfmgbjddopoaaGreatDoorW.PrintLast Go.Proofs.YtchfmgbjddopoaaGreatDoorW.PrintMore
attribute [local go_sem ↓] Go.wp_at_zero Go.wp_at_succ
theorem OO (w : World) (d m g2 c2 : Nat) (lives : Int) (l2 : List Int) (h : Dk0 d m lives true w) (hsum : l2.length ≤ 262144) (h2 : Bq w 0 (.slice (some ⟨g2, 0, none⟩) l2.length c2) l2) (hpos : 0 < l2.length) :
   Calls Tryz.prog 34 #[.pointer (some ⟨d, 0, none⟩), .string nmW, .slice (some ⟨g2, 0, none⟩) l2.length c2] w fun e w' => e = .returned (.int .i64 0) ∧ ∃ f v', w.heap.size ≤ f ∧ Dk1 d m f lives true v' l2 0 w' ∧ Fr (fun k => k = m) w w' ∧ (∀ k, v'.ownBlock = some k → w.heap.size ≤ k) := by
 obtain ⟨i0, hi, hz0, hz1, hz2⟩ := info_parts Ua
 replace hi := Aa.mk hi
 replace hz0 := Aa.mk hz0
 replace hz1 := Aa.mk hz1
 replace hz2 := Aa.mk hz2
 have hdm : Aa (d ≠ m) := ⟨BR h.d h.m⟩
 have wr : IntKind.i64.wrap 262144 = 262144 := by decide
 have dc : decide ((262144 : Int) < (l2.length : Int)) = false := by simp; omega
 replace hsum := Aa.mk hsum
 replace hpos := Aa.mk hpos
 replace h2 := Aa.mk h2
 replace h := Aa.mk h
 go_enter Tryz.func34, Tryz.ntmps34
 go_wp2_with (first
   | ((with_reducible refine Ac (N := 11) rfl ?_); refine Cb (N := 11) (n := 1) (C := #[.string nmW]) rfl rfl (by first | (go_simp; done) | (go_simp; rfl)) ?_; intro g w1 hg bg f1; have h1 := Aa.mk (h.out.below f1.out))
   | (go_at_call 73; refine (IP _ _ m _ _ h1.out.d bg.out).mono ?_; rintro e w2 ⟨rfl, n, rfl⟩))
 have hA : Aa (Dk0 d m lives true (w1.drewN n)) := ⟨h1.out.below (Ae (Below.refl _ _) n)⟩
 have fA : Aa (Below w.heap.size w (w1.drewN n)) := ⟨Ae f1.out n⟩
 have sA : Aa (Bq (w1.drewN n) 0 (.slice (some ⟨g2, 0, none⟩) l2.length c2) l2) := ⟨own_below h2.out fA.out⟩
 clear h1 bg f1 hg
 generalize w1.drewN n = wA at hA fA sA ⊢
 refine wp_region_noPanic ?_
 go_region_held_law (fun w' => w'.cell? ⟨d, 0, none⟩ = some (.int .i64 262144) ∧ Dk0 d m lives true w')
   ((first | exact ⟨Bk.cell hA.out.d rfl, hA.out.below (Ag (Below.refl _ _))⟩ | exact ⟨Bk.cell (Aa.out hB).d rfl, Aa.out hB⟩))
   ((go_at_call 74; refine (QA _ d m lives (hA.out.below (Ag (Below.refl _ _)))).mono ?_; rintro e wB ⟨rfl, fB⟩; have hB := Aa.mk ((hA.out.below (Ag (Below.refl _ _))).below fB); have FB : Aa (Below w.heap.size w wB) := ⟨(Ag fA.out).trans (fB.mono fA.out.size)⟩; have sB := Aa.mk (own_below (show Bq wA.drew 0 (.slice (some ⟨g2, 0, none⟩) l2.length c2) l2 from own_below sA.out (Ag (Below.refl _ _))) fB); clear fB))
 refine NoPanic.normal ?_
 go_split_ands
 have c3 : wB.cell? ⟨d, 3, none⟩ = some (.map (some m)) := Bk.cell hB.out.d rfl
 have hlk := CV (ok := false) hB.out.m Tryz.underlying58 (YH _) Jm WP
 go_wp2_with (first
   | ((with_reducible refine Ac (N := 35) rfl ?_)
      refine Aj (N := 35) (C := FlC (.slice none 0 0) 0) rfl rfl (by first | (go_simp; done) | (go_simp; rfl)) ?_
      intro f wC hf bf fC
      clear hlk c3
      have hC := Aa.mk (hB.out.below fC.out)
      have sC := Aa.mk (own_below sB.out fC.out)
      have c3 : wC.cell? ⟨d, 3, none⟩ = some (.map (some m)) := Bk.cell hC.out.d rfl
      have hup := DJ (val := .pointer (some ⟨f, 0, none⟩)) hC.out.m Tryz.underlying58 (YH _) Jm
      have hfm : Aa (f ≠ m) := ⟨BR bf.out hC.out.m⟩
      have bfD := Aa.mk (Ob.Bi bf.out hfm.out (.map #[⟨.string nmW, .pointer (some ⟨f, 0, none⟩), 0⟩] 1))
      have bdD := Aa.mk (Ob.Bi hC.out.d hdm.out (.map #[⟨.string nmW, .pointer (some ⟨f, 0, none⟩), 0⟩] 1))
      have bmD := Aa.mk (Ob.put hC.out.m (.map #[⟨.string nmW, .pointer (some ⟨f, 0, none⟩), 0⟩] 1))
      have FD := Aa.mk (Fr.put (T1 := fun k => k = m) (Fr.of_below (FB.out.trans (fC.out.mono FB.out.size))) m (.map #[⟨.string nmW, .pointer (some ⟨f, 0, none⟩), 0⟩] 1) (.inl rfl))
      have sD : Aa (Bq (Cc wC m (.map #[⟨.string nmW, .pointer (some ⟨f, 0, none⟩), 0⟩] 1)) 0 (.slice (some ⟨g2, 0, none⟩) l2.length c2) l2) := ⟨AP sC.out (Fr.put (T1 := fun k => k = m) (Fr.refl _ wC) m (.map #[⟨.string nmW, .pointer (some ⟨f, 0, none⟩), 0⟩] 1) (.inl rfl)) (fun k hk => by
        subst hk
        intro e
        rcases sC.out.2 with ⟨e1, _⟩ | ⟨g1, cap, cur, e1, _, e3, _⟩
        · cases e1
        · rw [e1] at e
          have : g1 = k := by simpa [Value.ownBlock] using e
          subst this
          exact BR (show Bk wC g1 cur 5 from e3) hC.out.m rfl)⟩
      have hfw : Aa (w.heap.size ≤ f) := ⟨Nat.le_trans FB.out.size hf.out⟩
      have c0 : (Cc wC m (.map #[⟨.string nmW, .pointer (some ⟨f, 0, none⟩), 0⟩] 1)).cell? ⟨f, 0, none⟩ = some (.slice none 0 0) := Bk.cell bfD.out rfl
      have z0 := Bk.free bfD.out 0)
   | (at_builtin
      refine wpList_append_lies _ rfl (.tmp 46) (.tmp 47) 39 rfl w.heap.size 5 i0 _ 1 1 Tryz.underlying39 hi.out hz0.out hz1.out hz2.out rfl (by decide) (.slice none 0 0) 0 [] rfl (World.ownsRow_nil _ _ _ _) ⟨g2, 0, none⟩ l2.length c2 (l2.map (Value.int .u8)) rfl (by simp) (Bq.news sD.out) (Nz l2) hpos.out (by have := hsum.out; simp only [maxLen]; omega) (by have := hsum.out; omega) FD.out.size _ rfl ?_
      intro g' k' wE ho hgr hat hlt
      clear c0 z0 hup c3
      have bfE := Aa.mk ((hgr.block f bfD.out.lt (fun e => by cases e)).trans bfD.out)
      have bdE := Aa.mk ((hgr.block d bdD.out.lt (fun e => by cases e)).trans bdD.out)
      have bmE := Aa.mk ((hgr.block m bmD.out.lt (fun e => by cases e)).trans bmD.out)
      have c0 : wE.cell? ⟨f, 0, none⟩ = some (.slice none 0 0) := Bk.cell (C := FlC (.slice none 0 0) 0) bfE.out rfl
      have z0 := Bk.free bfE.out 0
      have HO := Aa.mk ho
      have FE := Aa.mk (Fr.grown FD.out hgr (fun k hk => by cases hk))
      clear ho hgr hat hlt))
 go_returns
 have hfd : f ≠ d := Dh bfE.out bdE.out (by decide)
 have ho' : Bq wE w.heap.size (.slice (some ⟨g', 0, none⟩) l2.length k') l2 := by
   have := HO.out
   rwa [List.nil_append, Nat.zero_add] at this
 have hs1 : Fr (fun k => k = f) wE (wE.setCell ⟨f, 0, none⟩ (.slice (some ⟨g', 0, none⟩) l2.length k')) := (Fr.refl _ wE).set f 0 _ (.inl rfl)
 refine ⟨rfl, f, .slice (some ⟨g', 0, none⟩) l2.length k', hfw.out, ⟨Ob.far bdE.out (Ne.symm hfd) _ _, Ob.far bmE.out (Ne.symm hfm.out) _ _, Bk.set bfE.out 0 _, ?_⟩, FE.out.set f 0 _ (.inr hfw.out), fun k hk => ?_⟩
 · exact AV (AP ho' hs1 (fun k hk => hk ▸ AC ho' bfE.out (by decide))) (Nat.zero_le _)
 · exact (ho'.lt k hk).1
end Go.Proofs.YtchfmgbjddopoaaGreatDoor.Hand
