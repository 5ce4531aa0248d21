import Derived.Shelf.SlicesQ.IndexFunc
import Derived.Deep.CutRange
import Derived.Test.YtchfmgbjddopoaaGreatDoorM16
set_option linter.unusedVariables false
set_option linter.unusedSimpArgs false
set_option maxHeartbeats 6400000
set_option maxRecDepth 100000
namespace Go.Proofs.YtchfmgbjddopoaaGreatDoor.Hand
open Go.RowKit Go.Proofs.YtchfmgbjddopoaaGreatDoorW.PrintWords Go.Proofs.YtchfmgbjddopoaaGreatDoorW.PrintLast Go.Proofs.YtchfmgbjddopoaaGreatDoorW.PrintMore
attribute [local go_sem ↓] Go.wp_at_zero Go.wp_at_succ
open Plain (Ky Wr Rc Ver Ent St Bytes Chs chainOf Gi)
def Ir (tab : List (Int × Ent)) (ev : Int → Value) : List (Int × Value) := tab.map fun p => (p.1, .agg (IG p.2 (ev p.1)))
def ER (held : List (Ky × Int)) : List (Ky × Value) := held.map fun p => (p.1, .int .i64 p.2)
structure TabAt (F : Nat → Prop) (w : World) (tp ml mh : Nat) (tab : List (Int × Ent)) (held : List (Ky × Int)) (ev : Int → Value) : Prop where
 t : Bk w tp #[.map (some ml), .map (some mh)] 162
 l : DD w ml Iq (Ir tab ev)
 h : DD w mh Dq (ER held)
 e : ∀ p ∈ tab, Hz w 0 (ev p.1) p.2.ws
 ne : ml ≠ mh
 ft : F tp
 fl : F ml
 fh : F mh
 fe : ∀ p ∈ tab, ∀ k, (ev p.1).ownBlock = some k → F k
section
variable {F T : Nat → Prop} {w w' : World} {tp ml mh : Nat} {tab : List (Int × Ent)} {held : List (Ky × Int)} {ev : Int → Value}
theorem TabAt.below (h : TabAt F w tp ml mh tab held ev) (f : Below w.heap.size w w') : TabAt F w' tp ml mh tab held ev :=
 ⟨h.t.Ad f, h.l.below f, h.h.below f, fun p hp => own_below (h.e p hp) f, h.ne, h.ft, h.fl, h.fh, h.fe⟩
theorem TabAt.fr (h : TabAt F w tp ml mh tab held ev) (f : Fr T w w') (hT : ∀ k, T k → ¬ F k) : TabAt F w' tp ml mh tab held ev :=
 ⟨Ob.fr h.t f fun e => hT _ e h.ft, h.l.fr f fun e => hT _ e h.fl, h.h.fr f fun e => hT _ e h.fh, fun p hp => AP (h.e p hp) f fun k hk e => hT k hk (h.fe p hp k e), h.ne, h.ft, h.fl, h.fh, h.fe⟩
theorem TabAt.mono {G : Nat → Prop} (h : TabAt F w tp ml mh tab held ev) (hG : ∀ k, F k → G k) : TabAt G w tp ml mh tab held ev :=
 ⟨h.t, h.l, h.h, h.e, h.ne, hG _ h.ft, hG _ h.fl, hG _ h.fh, fun p hp k hk => hG _ (h.fe p hp k hk)⟩
theorem IK {K V : Type} [DecidableEq K] (f : K → V → Value) (k : K) : ∀ l : List (K × V), Plain.look k (l.map fun p => (p.1, f p.1 p.2)) = (Plain.look k l).map (f k)
 | [] => rfl
 | p :: l => by
   have ih := IK f k l
   rw [List.map_cons]
   by_cases h : p.1 = k
   · subst h; simp [Plain.look]
   · simp only [Plain.look, if_neg h, ih]
theorem Vb (k : Ky) : Plain.look k (ER held) = (Plain.look k held).map fun id => .int .i64 id := IK (fun _ id => .int .i64 id) k held
theorem LQ (id : Int) : Plain.look id (Ir tab ev) = (Plain.look id tab).map fun e => .agg (IG e (ev id)) := IK (fun id e => .agg (IG e (ev id))) id tab
end
theorem ZL (W : World) : (zeroValue 2).run Tryz.prog W = .ok (.int .i64 0) W := by kernel_rfl
theorem Xy (w : World) : Calls Tryz.prog 42 #[] w fun e w' => ∃ tp ml mh, e = .returned (.pointer (some ⟨tp, 0, none⟩)) ∧ w.heap.size ≤ tp ∧ w.heap.size ≤ ml ∧ w.heap.size ≤ mh ∧ ml ≠ mh ∧ Bk w' tp #[.map (some ml), .map (some mh)] 162 ∧ Mp w' ml #[] 0 ∧ Mp w' mh #[] 0 ∧ Below w.heap.size w w' := by
 go_enter Tryz.func42, Tryz.ntmps42
 go_wp2_with (first
   | ((with_reducible refine Ac (N := 1) rfl ?_); refine Ih (N := 1) rfl rfl (by first | (go_simp; done) | (go_simp; rfl)) ?_; intro ml w1 h1 b1 f1)
   | ((with_reducible refine Ac (N := 2) rfl ?_); refine Ih (N := 2) rfl rfl (by first | (go_simp; done) | (go_simp; rfl)) ?_; intro mh w2 h2 b2 f2)
   | ((with_reducible refine Ac (N := 4) rfl ?_); refine Aj (N := 4) (C := #[.map (some ml), .map (some mh)]) rfl rfl (by first | (go_simp; done) | (go_simp; rfl)) ?_; intro tp w3 h3 b3 f3))
 go_returns
 have q1 := f1.out.size
 have q2 := f2.out.size
 have := h1.out
 have := h2.out
 have := h3.out
 have := b1.out.lt
 exact ⟨tp, ml, mh, rfl, by omega, by omega, by omega, by omega, b3.out, (b1.out.Ad f2.out).Ad f3.out, b2.out.Ad f3.out, (f1.out.trans (f2.out.mono q1)).trans (f3.out.mono (Nat.le_trans q1 q2))⟩
theorem ZV (F : Nat → Prop) (w : World) (g tp ml mh : Nat) (tab : List (Int × Ent)) (held : List (Ky × Int)) (ev : Int → Value) (x : Wr) (hg : Bk w g #[.pointer (some ⟨tp, 0, none⟩)] 88) (h : TabAt F w tp ml mh tab held ev) :
   Calls Tryz.prog 177 #[.agg (wrC x).toArray, .pointer (some ⟨g, 0, none⟩)] w fun e w' => e = .returned (.bool (Plain.look x.key held).isSome) ∧ Below w.heap.size w w' := by
 have hl := Vb (held := held) x.key
 obtain ⟨v, hlook⟩ : ∃ v, ∀ W, TabAt F W tp ml mh tab held ev → (Instr.lookup 160 (.map (some mh)) (.agg (AZ x.key).toArray) true).run Tryz.prog W = .ok (.tuple #[v, .bool (Plain.look x.key held).isSome]) W := by
   cases hk : Plain.look x.key held with
   | none =>
     rw [hk] at hl
     exact ⟨_, fun W hW => hW.h.BF EK Tryz.underlying160 hl ZL true⟩
   | some id =>
     rw [hk] at hl
     exact ⟨_, fun W hW => hW.h.EG EK Tryz.underlying160 hl true⟩
 obtain ⟨ok, hok⟩ : ∃ ok, ok = (Plain.look x.key held).isSome := ⟨_, rfl⟩
 rw [← hok] at hlook ⊢
 obtain ⟨KC, hKC⟩ : ∃ KC, KC = (wrC x).toArray := ⟨_, rfl⟩
 obtain ⟨KL, hKL⟩ : ∃ KL, KL = AZ x.key := ⟨_, rfl⟩
 have hcut : (KC.extract 0 (0 + 16)).toList = KL := by rw [hKC, hKL]; exact BV x
 have hLl : KL.length = 16 := by rw [hKL]; exact Ai _
 rw [← hKC]
 rw [← hKL] at hlook
 have u79 := Tryz.underlying103
 have i79 : (Tryz.prog.info? 103).map (·.size) = some KL.length := by rw [hLl]; exact AB
 replace hcut := Aa.mk hcut
 replace h := Aa.mk h
 replace hg := Aa.mk hg
 replace hlook := Aa.mk hlook
 clear hl hok hKC hKL hLl
 go_enter Tryz.func177, Tryz.ntmps177
 go_wp2_with (first
   | ((with_reducible refine Ac (N := 2) rfl ?_); refine Aj (N := 2) (C := KC) rfl rfl (by first | (go_simp; done) | (go_simp; rfl)) ?_; intro g2 w1 h1 b1 f1; have hs1 := Aa.mk (h.out.below f1.out); have g1 := Aa.mk (Ob.Ad hg.out f1.out)))
 refine wp_region_noPanic ?_
 go_region_held_law (fun w' => (w'.cell? ⟨g, 0, none⟩ = some (.pointer (some ⟨tp, 0, none⟩)) ∧ w'.cell? ⟨tp, 1, none⟩ = some (.map (some mh)) ∧ w'.rangeAt g2 0 KL) ∧ (Instr.lookup 160 (.map (some mh)) (.agg KL.toArray) true).run Tryz.prog w' = .ok (.tuple #[v, .bool ok]) w')
   ((first | exact ⟨⟨Bk.cell g1.out.drew rfl, Bk.cell hs1.out.t.drew rfl, Bk.range b1.out.drew 0 16 hcut.out⟩, hlook.out _ (hs1.out.below (Ag (Below.refl _ _)))⟩))
   (fail)
 refine NoPanic.normal ?_
 go_split_ands
 go_wp2_with fail
 go_returns
 exact ⟨rfl, f1.out.trans (Ag (Below.refl _ _))⟩
theorem QT (F : Nat → Prop) (w : World) (tp ml mh : Nat) (tab : List (Int × Ent)) (held : List (Ky × Int)) (ev : Int → Value) (h : TabAt F w tp ml mh tab held ev) :
   Calls Tryz.prog 124 #[.pointer (some ⟨tp, 0, none⟩)] w fun e w' => e = .returned (.bool (decide (100 ≤ tab.length))) ∧ w' = w := by
 have c0 : w.cell? ⟨tp, 0, none⟩ = some (.map (some ml)) := Bk.cell h.t rfl
 have hl := h.l.len Tryz.underlying159 3
 have e1 : (Ir tab ev).length = tab.length := by simp [Ir]
 rw [e1] at hl
 clear h e1
 go_enter Tryz.func124, Tryz.ntmps124
 go_wp2_with fail
 go_returns
 have e1 : decide ((100 : Int) ≤ (tab.length : Int)) = decide (100 ≤ tab.length) := by rw [decide_eq_decide]; omega
 exact ⟨by rw [e1]; rfl, rfl⟩
theorem ZC (w : World) : (isAgg 105).run Tryz.prog w = .ok true w := by kernel_rfl
theorem Xc (p : Wr → Bool) (g : Nat) (lb : Array Value) (eg : ∀ args w, (callFunc g args).run Tryz.prog w = .ok (.enter g args) w) (w : World) (A : Option Addr) (n c : Nat) (ws : List Wr) (h : Eo w (.slice A n c) ws) (h0 : 0 < ws.length) (hn : ws.length ≤ 1000)
   (hp : ∀ W, Below w.heap.size w W → ∀ x, Calls Tryz.prog g (#[.agg (wrC x).toArray] ++ lb) W fun e w' => e = .returned (.bool (p x)) ∧ Below W.heap.size W w') :
   Calls Tryz.prog 172 #[.slice A n c, .func (.func g) #[] lb] w fun e w' => e = .returned (.bool (ws.any p)) ∧ Below w.heap.size w w' := by
 obtain ⟨b, o, rfl, rfl, hc, hb, hr⟩ := h.at_ h0
 have := AnyQ.slices_ContainsFunc Tryz.JX 18 ZC Uo wrC Bg p g lb eg b o ws.length c ws w (fun W x hW => (hp W hW x).mono (by
   rintro e w' ⟨rfl, hB⟩
   exact ⟨rfl, hW.trans (hB.mono hW.size)⟩)) (Nat.le_refl _) (by omega) hb (fun j hj i v hi => hr j hj i v hi)
 rw [List.take_length] at this
 exact this
theorem QR (F : Nat → Prop) (w : World) (tp ml mh : Nat) (tab : List (Int × Ent)) (held : List (Ky × Int)) (ev : Int → Value) (A : Option Addr) (n c : Nat) (ws : List Wr) (h : TabAt F w tp ml mh tab held ev) (hw : Eo w (.slice A n c) ws) (h0 : 0 < ws.length) (hn : ws.length ≤ 1000) :
   Calls Tryz.prog 123 #[.pointer (some ⟨tp, 0, none⟩), .slice A n c] w fun e w' => e = .returned (.bool (Gi held ws)) ∧ Below w.heap.size w w' := by
 have hA : Aa (∀ W g, TabAt F W tp ml mh tab held ev → Bk W g #[.pointer (some ⟨tp, 0, none⟩)] 88 → Eo W (.slice A n c) ws → Calls Tryz.prog 172 #[.slice A n c, .func (.func 177) #[] #[.pointer (some ⟨g, 0, none⟩)]] W fun e w' => e = .returned (.bool (Gi held ws)) ∧ Below W.heap.size W w') := ⟨fun W g hW hg hr => Xc (fun x => (Plain.look x.key held).isSome) 177 _ (fun args w => by kernel_rfl) W A n c ws hr h0 hn fun W2 hW2 x => ZV F W2 g tp ml mh tab held ev x (Ob.Ad hg hW2) (hW.below hW2)⟩
 replace h := Aa.mk h
 replace hw := Aa.mk hw
 clear h0 hn
 go_enter Tryz.func123, Tryz.ntmps123
 go_wp2_with (first
   | ((with_reducible refine Ac (N := 2) rfl ?_); refine Aj (N := 2) (C := #[.pointer (some ⟨tp, 0, none⟩)]) rfl rfl (by first | (go_simp; done) | (go_simp; rfl)) ?_; intro g w1 h1 b1 f1; have hs1 := Aa.mk (h.out.below f1.out); have hw1 := Aa.mk (hw.out.below f1.out))
   | (go_at_call 172; refine (hA.out _ _ hs1.out b1.out hw1.out).mono ?_; rintro e w2 ⟨rfl, f2⟩; replace f2 := Aa.mk f2))
 go_returns
 exact ⟨rfl, f1.out.trans (f2.out.mono f1.out.size)⟩
abbrev E6 (id t0 n0 t1 n1 : Int) (v : Value) : Array Value := #[.int .i64 id, .int .i64 t0, .int .u8 n0, .int .i64 t1, .int .u8 n1, v]
theorem O1 (w : World) : Calls Tryz.prog 178 #[.slice none 0 0] w fun e w' => e = .returned (.slice none 0 0) ∧ w' = w := AnyE.slices_Clone_nil Tryz.Fh 0 0 w
theorem J6 (w : World) (id t0 n0 t1 n1 : Int) (A : Option Addr) (n c : Nat) (P : Nat → World → Value → Prop) (hP : ∀ B W W' v, P B W v → Below W.heap.size W W' → P B W' v)
   (hC : ∀ W, Below w.heap.size w W → Calls Tryz.prog 178 #[.slice A n c] W fun e w' => ∃ A' n' c', e = .returned (.slice A' n' c') ∧ P W.heap.size w' (.slice A' n' c') ∧ Below W.heap.size W w')
   (hF : ∀ B W W' g C v, P B W v → Bk W g C 72 → Fr (fun k => k = g) W W' → P B W' v) (hm : ∀ B B' W v, P B W v → B' ≤ B → P B' W v) :
   Calls Tryz.prog 125 #[.agg (E6 id t0 n0 t1 n1 (.slice A n c))] w fun e w' => ∃ v', e = .returned (.agg (E6 id t0 n0 t1 n1 v')) ∧ P w.heap.size w' v' ∧ Below w.heap.size w w' := by
 replace hC := Aa.mk hC
 replace hF := Aa.mk hF
 replace hP := Aa.mk hP
 replace hm := Aa.mk hm
 go_enter Tryz.func125, Tryz.ntmps125
 go_wp2_with (first
   | ((with_reducible refine Ac (N := 1) rfl ?_); refine Aj (N := 1) (C := E6 id t0 n0 t1 n1 (.slice A n c)) rfl rfl (by first | (go_simp; done) | (go_simp; rfl)) ?_; intro g1 w1 h1 b1 f1)
   | ((with_reducible refine Ac (N := 2) rfl ?_); refine Aj (N := 2) (C := E6 0 0 0 0 0 (.slice none 0 0)) rfl rfl (by first | (go_simp; done) | (go_simp; rfl)) ?_; intro g2 w2 h2 b2 f2; have b12 := Aa.mk (b1.out.Ad f2.out); have c5 := Bk.cell b12.out (j := 5) rfl)
   | (go_at_call 178; refine (hC.out _ (f1.out.trans (f2.out.mono f1.out.size))).mono ?_; rintro e w3 ⟨A', n', c', rfl, p3, f3⟩; have b13 := Aa.mk (b12.out.Ad f3); have b23 := Aa.mk (b2.out.Ad f3); have z5 := Bk.free b13.out 5; have d5 := Bk.cell b13.out (j := 5) rfl; replace p3 := Aa.mk p3; replace f3 := Aa.mk f3; clear c5)
   | ((with_reducible refine Af (t := 33) (p := 6) (v := .tmp 5) rfl ?_)
      refine Ig rfl (ty := 33) (x := .tmp 6) (y := .tmp 5) (b := g1) (j := 5) (v := .slice A' n' c') rfl (by go_simp; done) b13.out (E6 id t0 n0 t1 n1 (.slice A' n' c')) rfl ?_
      intro w4 b14 f4
      clear z5 d5
      have h12 : Aa (g2 ≠ g1) := ⟨by have := Ob.lt b1.out; have := h2.out; omega⟩
      have b24 := Aa.mk (Ob.fr b23.out f4.out h12.out)
      have p4 := Aa.mk (hF.out _ _ _ _ _ _ p3.out b13.out f4.out))
   | ((with_reducible refine Ac (N := 7) rfl ?_); (refine Au (N := 7) rfl rfl rfl rfl b14.out Tryz.underlying72 rfl CO (E6 id t0 n0 t1 n1 (.slice A' n' c')).toList (AU rfl) rfl ?_))
   | ((with_reducible refine Af (t := 72) (p := 2) (v := .tmp 7) rfl ?_); (refine Ak rfl (ty := 72) (x := .tmp 2) (y := .tmp 7) (cells := E6 id t0 n0 t1 n1 (.slice A' n' c')) rfl rfl rfl b24.out CO (by kernel_rfl) (Nat.le_refl 6) (E6 id t0 n0 t1 n1 (.slice A' n' c')) (Aq (C := E6 0 0 0 0 0 (.slice none 0 0)) rfl) ?_); intro w5 b25 f5))
 refine DY Tryz.results125 rfl b25.out Tryz.underlying72 rfl CO rfl rfl ⟨_, rfl, hm.out _ _ _ _ (hF.out _ _ _ _ _ _ p4.out b24.out f5.out) (Nat.le_trans f1.out.size f2.out.size), ?_⟩
 have q1 := h1.out
 have q2 := h2.out
 have s1 := f1.out.size
 exact (Fr.trans (T := fun k => k = g1 ∨ k = g2) (((Fr.of_below f1.out).trans (Fr.of_below f2.out)).trans (Fr.of_below f3.out)) ((f4.out.weaken fun k _ e => .inl e).trans (f5.out.weaken fun k _ e => .inr e))).below (fun k hk e => by omega) (Nat.le_refl _)
theorem Jv (w : World) (e : Ent) (A : Option Addr) (n c : Nat) (h : Eo w (.slice A n c) e.ws) (h0 : 0 < e.ws.length) (hn : e.ws.length ≤ 1000) :
   Calls Tryz.prog 125 #[.agg (IG e (.slice A n c))] w fun x w' => ∃ v', x = .returned (.agg (IG e v')) ∧ Hz w' w.heap.size v' e.ws ∧ Below w.heap.size w w' :=
 J6 w e.id e.t0 e.n0 e.t1 e.n1 A n c (fun B W v => Hz W B v e.ws) (fun B W W' v h f => own_below h f) (fun W hW => (WE W A n c e.ws (h.below hW) h0 hn).mono (by
   rintro x w' ⟨v', rfl, o, f⟩
   obtain ⟨A', c', rfl⟩ := o.row.slice
   exact ⟨A', _, c', rfl, o, f⟩)) (fun B W W' g C v h hb f => AP h f fun k hk => hk ▸ AC h hb (by decide)) (fun B B' W v h hB => AV h hB)
theorem PM (w : World) : Calls Tryz.prog 125 #[.agg (E6 0 0 0 0 0 (.slice none 0 0))] w fun x w' => x = .returned (.agg (E6 0 0 0 0 0 (.slice none 0 0))) ∧ Below w.heap.size w w' :=
 (J6 w 0 0 0 0 0 none 0 0 (fun B W v => v = .slice none 0 0) (fun B W W' v h f => h) (fun W hW => (O1 W).mono (by
   rintro x w' ⟨rfl, rfl⟩
   exact ⟨_, _, _, rfl, rfl, Below.refl _ _⟩)) (fun B W W' g C v h hb f => h) (fun B B' W v h hB => h)).mono (by
   rintro x w' ⟨v', rfl, rfl, f⟩
   exact ⟨rfl, f⟩)
theorem YS (W : World) : (zeroValue 72).run Tryz.prog W = .ok (.agg (E6 0 0 0 0 0 (.slice none 0 0))) W := by kernel_rfl
theorem NI {F : Nat → Prop} {w : World} {tp ml mh : Nat} {tab : List (Int × Ent)} {held : List (Ky × Int)} {ev : Int → Value} (h : TabAt F w tp ml mh tab held ev) {id : Int} {e : Ent} (hk : Plain.look id tab = some e) :
   (Instr.lookup 159 (.map (some ml)) (.int .i64 id) true).run Tryz.prog w = .ok (.tuple #[.agg (IG e (ev id)), .bool true]) w := by
 have hl := LQ (ev := ev) (tab := tab) id
 rw [hk] at hl
 exact h.l.EG Nv Tryz.underlying159 hl true
theorem Jc {F : Nat → Prop} {w : World} {tp ml mh : Nat} {tab : List (Int × Ent)} {held : List (Ky × Int)} {ev : Int → Value} (h : TabAt F w tp ml mh tab held ev) {id : Int} (hk : Plain.look id tab = none) :
   (Instr.lookup 159 (.map (some ml)) (.int .i64 id) true).run Tryz.prog w = .ok (.tuple #[.agg (E6 0 0 0 0 0 (.slice none 0 0)), .bool false]) w := by
 have hl := LQ (ev := ev) (tab := tab) id
 rw [hk] at hl
 exact h.l.BF Nv Tryz.underlying159 hl YS true
theorem Un (w : World) (tp ml mh : Nat) (id : Int) (i t0 n0 t1 n1 : Int) (A : Option Addr) (n c : Nat) (ok : Bool) (P : Nat → World → Value → Prop) (hm : ∀ B B' W v, P B W v → B' ≤ B → P B' W v) (hF : ∀ B W W' g C v, P B W v → Bk W g C 72 → Fr (fun k => k = g) W W' → P B W' v)
   (ht : Bk w tp #[.map (some ml), .map (some mh)] 162)
   (hlk : ∀ W, Below w.heap.size w W → (Instr.lookup 159 (.map (some ml)) (.int .i64 id) true).run Tryz.prog W = .ok (.tuple #[.agg (E6 i t0 n0 t1 n1 (.slice A n c)), .bool ok]) W)
   (hcp : ∀ W, Below w.heap.size w W → Calls Tryz.prog 125 #[.agg (E6 i t0 n0 t1 n1 (.slice A n c))] W fun x w' => ∃ A' n' c', x = .returned (.agg (E6 i t0 n0 t1 n1 (.slice A' n' c'))) ∧ P W.heap.size w' (.slice A' n' c') ∧ Below W.heap.size W w') :
   Calls Tryz.prog 126 #[.pointer (some ⟨tp, 0, none⟩), .int .i64 id] w fun x w' => ∃ v', x = .returned (.tuple #[.agg (E6 i t0 n0 t1 n1 v'), .bool ok]) ∧ P w.heap.size w' v' ∧ Below w.heap.size w w' := by
 replace ht := Aa.mk ht
 replace hlk := Aa.mk hlk
 replace hcp := Aa.mk hcp
 replace hm := Aa.mk hm
 replace hF := Aa.mk hF
 go_enter Tryz.func126, Tryz.ntmps126
 go_wp2_with (first
   | ((with_reducible refine Ac (N := 4) rfl ?_); refine Aj (N := 4) (C := E6 0 0 0 0 0 (.slice none 0 0)) rfl rfl (by first | (go_simp; done) | (go_simp; rfl)) ?_; intro g4 w1 h1 b1 f1; have c0 : w1.cell? ⟨tp, 0, none⟩ = some (.map (some ml)) := Bk.cell (Ob.Ad ht.out f1.out) rfl; have hl := hlk.out w1 f1.out)
   | ((with_reducible refine Ac (N := 6) rfl ?_); refine Aj (N := 6) (C := E6 0 0 0 0 0 (.slice none 0 0)) rfl rfl (by first | (go_simp; done) | (go_simp; rfl)) ?_; intro g6 w2 h2 b2 f2; have b12 := Aa.mk (b1.out.Ad f2.out); clear hl c0)
   | ((with_reducible refine Af (t := 72) (p := 6) (v := .tmp 15) rfl ?_); (refine Ak rfl (ty := 72) (x := .tmp 6) (y := .tmp 15) (cells := E6 i t0 n0 t1 n1 (.slice A n c)) rfl rfl rfl b2.out CO (by kernel_rfl) (Nat.le_refl 6) (E6 i t0 n0 t1 n1 (.slice A n c)) (Aq (C := E6 0 0 0 0 0 (.slice none 0 0)) rfl) ?_); intro w3 b23 f3
      have h14 : Aa (g4 ≠ g6) := ⟨by have := Ob.lt b1.out; have := h2.out; omega⟩
      have b13 := Aa.mk (Ob.fr b12.out f3.out h14.out)
      have F3 : Aa (Below w.heap.size w w3) := ⟨(Fr.trans (T := fun k => k = g6) ((Fr.of_below f1.out).trans (Fr.of_below f2.out)) f3.out).below (fun k hk e => by have := h2.out; have := f1.out.size; omega) (Nat.le_refl _)⟩)
   | ((with_reducible refine Ac (N := 17) rfl ?_); (refine Au (N := 17) rfl rfl rfl rfl b23.out Tryz.underlying72 rfl CO (E6 i t0 n0 t1 n1 (.slice A n c)).toList (AU rfl) rfl ?_))
   | (go_at_call 125; refine (hcp.out _ F3.out).mono ?_; rintro e w4 ⟨A', n', c', rfl, p4, f4⟩; have b14 := Aa.mk (Ob.Ad b13.out f4); replace p4 := Aa.mk p4; replace f4 := Aa.mk f4)
   | ((with_reducible refine Af (t := 72) (p := 4) (v := .tmp 18) rfl ?_); (refine Ak rfl (ty := 72) (x := .tmp 4) (y := .tmp 18) (cells := E6 i t0 n0 t1 n1 (.slice A' n' c')) rfl rfl rfl b14.out CO (by kernel_rfl) (Nat.le_refl 6) (E6 i t0 n0 t1 n1 (.slice A' n' c')) (Aq (C := E6 0 0 0 0 0 (.slice none 0 0)) rfl) ?_); intro w5 b15 f5))
 refine AO (Tryz.results126) rfl b15.out Tryz.underlying72 rfl CO rfl rfl ⟨_, rfl, hm.out _ _ _ _ (hF.out _ _ _ _ _ _ p4.out b14.out f5.out) F3.out.size, ?_⟩
 have q1 := h1.out
 exact (Fr.trans (T := fun k => k = g4) ((Fr.of_below F3.out).trans (Fr.of_below f4.out)) f5.out).below (fun k hk e => by omega) (Nat.le_refl _)
theorem QS (F : Nat → Prop) (w : World) (tp ml mh : Nat) (tab : List (Int × Ent)) (held : List (Ky × Int)) (ev : Int → Value) (id : Int) (e : Ent) (h : TabAt F w tp ml mh tab held ev) (hk : Plain.look id tab = some e) (h0 : 0 < e.ws.length) (hn : e.ws.length ≤ 1000) :
   Calls Tryz.prog 126 #[.pointer (some ⟨tp, 0, none⟩), .int .i64 id] w fun x w' => ∃ v', x = .returned (.tuple #[.agg (IG e v'), .bool true]) ∧ Hz w' w.heap.size v' e.ws ∧ Below w.heap.size w w' := by
 have hro := h.e _ (Plain.Bv hk)
 obtain ⟨A, c, hA⟩ := hro.row.slice
 simp only at hA
 refine Un w tp ml mh id e.id e.t0 e.n0 e.t1 e.n1 A e.ws.length c true (fun B W v => Hz W B v e.ws) (fun B B' W v h hB => AV h hB) (fun B W W' g C v h hb f => AP h f fun k hk => hk ▸ AC h hb (by decide)) h.t (fun W hW => ?_) (fun W hW => ?_)
 · have := NI (h.below hW) hk
   rwa [hA] at this
 · refine (Jv W e A e.ws.length c ?_ h0 hn).mono ?_
   · have := (Hz.row (h.e _ (Plain.Bv hk))).below hW
     simp only at this
     rwa [hA] at this
   · rintro x w' ⟨v', rfl, o, f⟩
     obtain ⟨A', c', rfl⟩ := o.row.slice
     exact ⟨A', _, c', rfl, o, f⟩
theorem VF (F : Nat → Prop) (w : World) (tp ml mh : Nat) (tab : List (Int × Ent)) (held : List (Ky × Int)) (ev : Int → Value) (id : Int) (h : TabAt F w tp ml mh tab held ev) (hk : Plain.look id tab = none) :
   Calls Tryz.prog 126 #[.pointer (some ⟨tp, 0, none⟩), .int .i64 id] w fun x w' => x = .returned (.tuple #[.agg (E6 0 0 0 0 0 (.slice none 0 0)), .bool false]) ∧ Below w.heap.size w w' :=
 (Un w tp ml mh id 0 0 0 0 0 none 0 0 false (fun B W v => v = .slice none 0 0) (fun B B' W v h hB => h) (fun B W W' g C v h hb f => h) h.t (fun W hW => Jc (h.below hW) hk) (fun W hW => (PM W).mono (by
   rintro x w' ⟨rfl, f⟩
   exact ⟨_, _, _, rfl, rfl, f⟩))).mono (by
   rintro x w' ⟨v', rfl, rfl, f⟩
   exact ⟨rfl, f⟩)
end Go.Proofs.YtchfmgbjddopoaaGreatDoor.Hand
namespace Go.Proofs.YtchfmgbjddopoaaGreatDoor.Hand
open Go.RowKit Go.Proofs.YtchfmgbjddopoaaGreatDoorW.PrintWords Go.Proofs.YtchfmgbjddopoaaGreatDoorW.PrintLast Go.Proofs.YtchfmgbjddopoaaGreatDoorW.PrintMore
attribute [local go_sem ↓] Go.wp_at_zero Go.wp_at_succ
open Plain (Ky Wr Rc Ver Ent St Bytes Chs chainOf Gi EF Ez CW)
theorem LM {K V : Type} [DecidableEq K] (f : V → Value) (k : K) (v : V) : ∀ l : List (K × V), (CW k v l).map (fun p => (p.1, f p.2)) = CW k (f v) (l.map fun p => (p.1, f p.2))
 | [] => rfl
 | p :: l => by
   have ih := LM f k v l
   unfold Plain.CW
   by_cases h : p.1 = k
   · simp [h]
   · simp only [if_neg h, List.map_cons, ih]
theorem DV {w : World} {e size n : Nat} {base : Nat} {v : Value} {xs : List Value} (h : w.ownsRow base e size v n xs) {k : Nat} (hk : v.ownBlock = some k) : ∃ C, Bk w k C e := by
 rcases h.2 with ⟨rfl, _⟩ | ⟨g', cap, cur, rfl, _, hh, _⟩
 · cases hk
 · have := Option.some.inj hk
   subst this
   exact ⟨cur, hh⟩
section
variable {F : Nat → Prop} {w : World} {tp ml mh : Nat} {tab : List (Int × Ent)} {held : List (Ky × Int)} {ev : Int → Value}
theorem Ec {e size n base : Nat} {v : Value} {xs : List Value} {m : Nat} {K : Type} {kv : K → Value} {L : List (K × Value)} (h : w.ownsRow base e size v n xs) (hm : DD w m kv L) : v.ownBlock ≠ some m := fun hk => by
 obtain ⟨C, hC⟩ := DV h hk
 exact hm.ne hC rfl
theorem TabAt.put {B : Nat} {o : Obj} {v : Value} {e : Ent} (h : TabAt F w tp ml mh tab held ev) (hid : Plain.look e.id tab = none) (hu : DD (Cc w ml o) ml Iq (CW e.id (.agg (IG e v)) (Ir tab ev))) (hv : Hz w B v e.ws) (hvF : ∀ k, v.ownBlock = some k → F k) :
   TabAt F (Cc w ml o) tp ml mh (tab ++ [(e.id, e)]) held (fun i => if i = e.id then v else ev i) := by
 have hF : Fr (fun k => k = ml) w (Cc w ml o) := Fr.put (Fr.refl _ w) ml o (.inl rfl)
 have hne : ∀ p ∈ tab, p.1 ≠ e.id := Plain.BF.1 hid
 refine ⟨Ob.fr h.t hF (h.l.ne h.t), ?_, h.h.fr hF (fun e => h.ne e.symm), fun p hp => ?_, h.ne, h.ft, h.fl, h.fh, fun p hp k hk => ?_⟩
 · have hn : Plain.look e.id (Ir tab ev) = none := by rw [LQ, hid]; rfl
   rw [Plain.EW _ hn] at hu
   have : Ir (tab ++ [(e.id, e)]) (fun i => if i = e.id then v else ev i) = Ir tab ev ++ [(e.id, .agg (IG e v))] := by
     unfold Ir
     rw [List.map_append]
     congr 1
     · refine List.map_congr_left fun p hp => ?_
       show (p.1, Value.agg (IG p.2 (if p.1 = e.id then v else ev p.1))) = _
       rw [if_neg (hne p hp)]
     · simp
   rw [this]
   exact hu
 · rcases List.mem_append.1 hp with hp | hp
   · simp only [if_neg (hne p hp)]
     exact AP (h.e p hp) hF fun k hk e => Ec (h.e p hp) h.l (hk ▸ e)
   · rw [List.mem_singleton] at hp
     subst hp
     simp only [if_true]
     exact AV (AP hv hF fun k hk e => Ec hv h.l (hk ▸ e)) (Nat.zero_le _)
 · rcases List.mem_append.1 hp with hp | hp
   · simp only [if_neg (hne p hp)] at hk
     exact h.fe p hp k hk
   · rw [List.mem_singleton] at hp
     subst hp
     simp only [if_true] at hk
     exact hvF k hk
theorem TabAt.hold {o : Obj} {k : Ky} {id : Int} (h : TabAt F w tp ml mh tab held ev) (hu : DD (Cc w mh o) mh Dq (CW k (.int .i64 id) (ER held))) : TabAt F (Cc w mh o) tp ml mh tab (CW k id held) ev := by
 have hF : Fr (fun k => k = mh) w (Cc w mh o) := Fr.put (Fr.refl _ w) mh o (.inl rfl)
 refine ⟨Ob.fr h.t hF (h.h.ne h.t), h.l.fr hF h.ne, ?_, fun p hp => AP (h.e p hp) hF fun k hk e => Ec (h.e p hp) h.h (hk ▸ e), h.ne, h.ft, h.fl, h.fh, h.fe⟩
 have := LM (fun id : Int => Value.int .i64 id) k id held
 unfold ER at hu ⊢
 rw [this]
 exact hu
end
theorem Xz (F : Nat → Prop) (w : World) (tp ml mh : Nat) (tab : List (Int × Ent)) (held : List (Ky × Int)) (ev : Int → Value) (e : Ent) (A : Option Addr) (n c : Nat) (h : TabAt F w tp ml mh tab held ev) (hw : Eo w (.slice A n c) e.ws) (hg : Ez e = true) (hid : Plain.look e.id tab = none) (hh : Gi held e.ws = false) (hfew : tab.length < 100) (hF : ∀ k, F k → k < w.heap.size) (hwF : ∀ k, (Value.slice A n c).ownBlock = some k → ¬ F k) :
   Calls Tryz.prog 83 #[.pointer (some ⟨tp, 0, none⟩), .agg (IG e (.slice A n c))] w fun x w' => x = .returned (.int .i64 0) ∧ ∃ ev', TabAt (fun k => F k ∨ w.heap.size ≤ k ∧ k < w'.heap.size) w' tp ml mh (tab ++ [(e.id, e)]) (EF held e.id e.ws) ev' ∧ Fr (fun k => k = ml ∨ k = mh) w w' := by
 have hp := Plain.BL hg
 have h0 : 0 < e.ws.length := by omega
 have hn16 : e.ws.length ≤ 16 := hp.2.2.1.2
 have hnn : n = e.ws.length := by
   obtain ⟨A', c', e'⟩ := hw.slice
   injection e'
 have hG : Aa (∀ W, Eo W (.slice A n c) e.ws → Calls Tryz.prog 28 #[.agg (E6 e.id e.t0 e.n0 e.t1 e.n1 (.slice A n c))] W fun x w' => x = .returned (.bool true) ∧ Below W.heap.size W w') := ⟨fun W hW => by
   have := Je W e A n c hW (by omega)
   rw [hg] at this
   exact this⟩
 have hH : Aa (∀ W, TabAt F W tp ml mh tab held ev → Eo W (.slice A n c) e.ws → Calls Tryz.prog 123 #[.pointer (some ⟨tp, 0, none⟩), .slice A n c] W fun x w' => x = .returned (.bool false) ∧ Below W.heap.size W w') := ⟨fun W hT hW => by
   have := QR F W tp ml mh tab held ev A n c e.ws hT hW h0 (by omega)
   rwa [hh] at this⟩
 have hU : Aa (∀ W, TabAt F W tp ml mh tab held ev → Calls Tryz.prog 124 #[.pointer (some ⟨tp, 0, none⟩)] W fun x w' => x = .returned (.bool false) ∧ w' = W) := ⟨fun W hT => by
   have := QT F W tp ml mh tab held ev hT
   rwa [decide_eq_false (by omega)] at this⟩
 have hC : Aa (∀ W, Eo W (.slice A n c) e.ws → Calls Tryz.prog 125 #[.agg (E6 e.id e.t0 e.n0 e.t1 e.n1 (.slice A n c))] W fun x w' => ∃ A' c', x = .returned (.agg (E6 e.id e.t0 e.n0 e.t1 e.n1 (.slice A' n c'))) ∧ Hz w' W.heap.size (.slice A' n c') e.ws ∧ Below W.heap.size W w') := ⟨fun W hW => (Jv W e A n c hW h0 (by omega)).mono (by
   rintro x w' ⟨v', rfl, o, f⟩
   obtain ⟨A', c', rfl⟩ := o.row.slice
   rw [← hnn] at o ⊢
   exact ⟨A', c', rfl, o, f⟩)⟩
 have hL : Aa (∀ W, TabAt F W tp ml mh tab held ev → (Instr.lookup 159 (.map (some ml)) (.int .i64 e.id) true).run Tryz.prog W = .ok (.tuple #[.agg (E6 0 0 0 0 0 (.slice none 0 0)), .bool false]) W) := ⟨fun W hT => Jc hT hid⟩
 have hFs := Aa.mk hF
 replace hwF := Aa.mk hwF
 replace h := Aa.mk h
 replace hw := Aa.mk hw
 replace hid := Aa.mk hid
 replace hnn := Aa.mk hnn
 have hn16 := Aa.mk hn16
 clear hp hg hh hfew hF h0
 show Calls Tryz.prog 83 #[.pointer (some ⟨tp, 0, none⟩), .agg (E6 e.id e.t0 e.n0 e.t1 e.n1 (.slice A n c))] w _
 go_enter Tryz.func83, Tryz.ntmps83
 go_upto_region 3 with (first
   | ((with_reducible refine Ac (N := 3) rfl ?_); refine Aj (N := 3) (C := E6 e.id e.t0 e.n0 e.t1 e.n1 (.slice A n c)) rfl rfl (by first | (go_simp; done) | (go_simp; rfl)) ?_; intro g3 w1 h3 b31 f1; have T1 := Aa.mk (h.out.below f1.out); have W1 := Aa.mk (hw.out.below f1.out))
   | ((with_reducible refine Ac (N := 9) rfl ?_); (refine Au (N := 9) rfl rfl rfl rfl b31.out Tryz.underlying72 rfl CO (E6 e.id e.t0 e.n0 e.t1 e.n1 (.slice A n c)).toList (AU rfl) rfl ?_))
   | (go_at_call 28; refine (hG.out _ W1.out).mono ?_; rintro x w2 ⟨rfl, f2⟩; have T2 := Aa.mk (T1.out.below f2); have W2 := Aa.mk (W1.out.below f2); have b32 := Aa.mk (Ob.Ad b31.out f2); have F2 : Aa (Below w.heap.size w w2) := ⟨f1.out.trans (f2.mono f1.out.size)⟩; clear f2))
 go_cut [5, 6] from 12 to 21 (fun s5 s6 wx => s6 = .bool false ∧ Aa (Below w2.heap.size w2 wx))
 case first =>
   have q0 : w2.cell? ⟨tp, 0, none⟩ = some (.map (some ml)) := Bk.cell T2.out.t rfl
   have q1 : w2.cell? ⟨g3, 0, none⟩ = some (.int .i64 e.id) := Bk.cell b32.out rfl
   have l1 := hL.out w2.drew (T2.out.below (Ag (Below.refl _ _)))
   have l2 := hL.out ((w2.alloc (.cells (E6 0 0 0 0 0 (.slice none 0 0)) 72)).drew) ((T2.out.below (Ah (Below.refl _ _) _)).below (Ag (Below.refl _ _)))
   have q2 : ∀ o, (w2.alloc o).cell? ⟨tp, 0, none⟩ = some (.map (some ml)) := fun o => Bk.cell (T2.out.t.alloc o) rfl
   have q3 : ∀ o, (w2.alloc o).cell? ⟨g3, 0, none⟩ = some (.int .i64 e.id) := fun o => Bk.cell (b32.out.alloc o) rfl
   go_region
   all_goals
     go_wp2_with fail
     go_meet
     exact ⟨rfl, ⟨(Ah (Below.refl _ _) _).trans (Ag (Below.refl _ _))⟩⟩
 case rest =>
   obtain ⟨rfl, F23⟩ := hcut
   have T3 := Aa.mk (T2.out.below F23.out)
   have W3 := Aa.mk (W2.out.below F23.out)
   have b33 := Aa.mk (Ob.Ad b32.out F23.out)
   have F3 : Aa (Below w.heap.size w wc) := ⟨F2.out.trans (F23.out.mono F2.out.size)⟩
   have c5 : wc.cell? ⟨g3, 5, none⟩ = some (.slice A n c) := Bk.cell b33.out rfl
   clear F23 T2 W2 b32
   go_upto_region 10 with (first
     | (go_at_call 123; refine (hH.out _ T3.out W3.out).mono ?_; rintro x w4 ⟨rfl, f4⟩; have T4 := Aa.mk (T3.out.below f4); have W4 := Aa.mk (W3.out.below f4); have b34 := Aa.mk (Ob.Ad b33.out f4); have F4 : Aa (Below w.heap.size w w4) := ⟨F3.out.trans (f4.mono F3.out.size)⟩; clear f4 c5)
     | (go_at_call 124; refine (hU.out _ T4.out).mono ?_; rintro x w' ⟨rfl, hw'⟩; replace hw' := hw'.symm; subst hw'))
   go_cut [] from 31 to 38 (fun wx => ∃ (W : World) (A' : Option Addr) (c' : Nat) (o : Obj), wx = Cc W ml o ∧ Aa (Below w4.heap.size w4 W ∧ Hz W w4.heap.size (.slice A' n c') e.ws ∧ DD (Cc W ml o) ml Iq (CW e.id (.agg (IG e (.slice A' n c'))) (Ir tab ev))))
   case first =>
     have hS : ∀ W, Below w4.heap.size w4 W → (W.cell? ⟨tp, 0, none⟩ = some (.map (some ml)) ∧ W.cell? ⟨g3, 0, none⟩ = some (.int .i64 e.id) ∧ W.cell? ⟨g3, 1, none⟩ = some (.int .i64 e.t0) ∧ W.cell? ⟨g3, 2, none⟩ = some (.int .u8 e.n0) ∧ W.cell? ⟨g3, 3, none⟩ = some (.int .i64 e.t1) ∧ W.cell? ⟨g3, 4, none⟩ = some (.int .u8 e.n1) ∧ W.cell? ⟨g3, 5, none⟩ = some (.slice A n c)) := fun W f => ⟨Bk.cell (Ob.Ad T4.out.t f) rfl, Bk.cell (Ob.Ad b34.out f) rfl, Bk.cell (Ob.Ad b34.out f) rfl, Bk.cell (Ob.Ad b34.out f) rfl, Bk.cell (Ob.Ad b34.out f) rfl, Bk.cell (Ob.Ad b34.out f) rfl, Bk.cell (Ob.Ad b34.out f) rfl⟩
     have q := hS w4.drew (Ag (Below.refl _ _))
     go_split_ands
     replace hS := Aa.mk hS
     go_region_with (go_at_call 125
                     refine (hC.out _ (W4.out.below (Ag (Below.refl _ _)))).mono ?_
                     rintro x w5 ⟨A5, c5, rfl, o5, f5⟩
                     have G5 := Aa.mk ((Ag (Below.refl w4.heap.size w4)).trans f5)
                     have q' := hS.out _ G5.out
                     go_split_ands
                     have T5 := Aa.mk (T4.out.below G5.out)
                     obtain ⟨ob, hup, HU⟩ := T5.out.l.update Nv Tryz.underlying159 e.id (.agg (IG e (.slice A5 n c5)))
                     simp only [Iq, IG] at hup)
     all_goals
       go_wp2_with fail
       go_meet
       exact ⟨w5, A5, c5, ob, rfl, ⟨G5.out, o5, HU⟩⟩
   case rest =>
     obtain ⟨w5, A5, c5, ob, rfl, H5⟩ := hcut
     obtain ⟨ev', hev⟩ : ∃ ev', ev' = fun i => if i = e.id then (Value.slice A5 n c5) else ev i := ⟨_, rfl⟩
     obtain ⟨G, hG2⟩ : ∃ G : Nat → Prop, G = fun k => F k ∨ (w.heap.size ≤ k ∧ k < w5.heap.size) := ⟨_, rfl⟩
     have hFr5 : Fr (fun k => k = ml) w5 (Cc w5 ml ob) := Fr.put (Fr.refl _ w5) ml ob (.inl rfl)
     have T6 : Aa (TabAt G (Cc w5 ml ob) tp ml mh (tab ++ [(e.id, e)]) held ev') := ⟨by
       rw [hev]
       refine TabAt.put ((T4.out.below H5.out.1).mono fun k hk => ?_) hid.out H5.out.2.2 H5.out.2.1 fun k hk => ?_
       · rw [hG2]; exact .inl hk
       · rw [hG2]
         have := H5.out.2.1.lt k hk
         exact .inr ⟨Nat.le_trans F4.out.size this.1, this.2⟩⟩
     have W6 : Aa (Eo (Cc w5 ml ob) (.slice A n c) e.ws) := ⟨(W4.out.below H5.out.1).fr hFr5 fun q hq hk => hwF.out q hk (hq ▸ h.out.fl)⟩
     have b36 : Aa (Bk (Cc w5 ml ob) g3 (E6 e.id e.t0 e.n0 e.t1 e.n1 (.slice A n c)) 72) := ⟨Ob.fr (Ob.Ad b34.out H5.out.1) hFr5 fun q => (T4.out.l.ne b34.out) q⟩
     have F6 : Aa (Fr (fun k => k = ml ∨ k = mh) w (Cc w5 ml ob)) := ⟨((Fr.of_below F4.out).trans (Fr.of_below H5.out.1)).trans (hFr5.weaken fun k _ e => .inl e)⟩
     have hsz : Aa (w5.heap.size ≤ (Cc w5 ml ob).heap.size) := ⟨hFr5.size⟩
     have gh : Aa (w.heap.size ≤ g3) := ⟨h3.out⟩
     replace hG2 := Aa.mk hG2
     clear hev hFr5 H5
     generalize Cc w5 ml ob = w6 at T6 W6 b36 F6 hsz ⊢
     have c6 : w6.cell? ⟨g3, 5, none⟩ = some (.slice A n c) := Bk.cell b36.out rfl
     go_wp2_with fail
     have hnk := hnn.out
     go_loopw [42] (fun p w' => ∃ j : Nat, j ≤ n ∧ p = .int .i64 j ∧ Aa (TabAt G w' tp ml mh (tab ++ [(e.id, e)]) (EF held e.id (e.ws.take j)) ev') ∧ Aa (Eo w' (.slice A n c) e.ws) ∧ Aa (Bk w' g3 (E6 e.id e.t0 e.n0 e.t1 e.n1 (.slice A n c)) 72) ∧ Aa (Fr (fun k => k = ml ∨ k = mh) w w') ∧ Aa (w5.heap.size ≤ w'.heap.size)) (fun p _ => n - (intOf p).toNat)
     case atStart => exact ⟨0, Nat.zero_le _, rfl, T6, W6, b36, F6, hsz⟩
     case round =>
       obtain ⟨j, hj, rfl, HT, HW, HB, HF, HS⟩ := hrel
       clear T6 W6 b36 F6 hsz c6
       by_cases hlt : j < n
       case neg =>
         have hjn : e.ws.take j = e.ws := List.take_of_length_le (by omega)
         rw [hjn] at HT
         have d1 : decide ((j : Int) < (n : Int)) = false := by simp; omega
         have d2 : decide (j < n) = false := by simp; omega
         clear hjn hj hnk
         go_wp2_with fail
         go_returns
         refine ⟨rfl, ev', HT.out.mono fun k hk => ?_, HF.out⟩
         rw [hG2.out] at hk
         have := HS.out
         rcases hk with hk | hk
         · exact .inl hk
         · exact .inr ⟨hk.1, by omega⟩
       obtain ⟨b, o, hA, hbn, hc, hbs, hr⟩ := HW.out.at_ (by omega)
       have hjw : j < e.ws.length := by omega
       replace hr := hr j hjw
       have htk : EF held e.id (e.ws.take (j + 1)) = CW (e.ws[j]!).key e.id (EF held e.id (e.ws.take j)) := by
         rw [List.take_succ_eq_append_getElem hjw, getElem!_pos e.ws j hjw, EF, List.foldl_append]
         rfl
       generalize e.ws[j]! = x at hr htk
       subst hA
       clear hbn hjw hnk
       replace hr := Aa.mk hr
       replace htk := Aa.mk htk
       replace hbs := Aa.mk hbs
       have d1 : decide ((j : Int) < (n : Int)) = true := by simp; omega
       have d2 : decide (j < n) = true := by simp; omega
       have hjb : j < 1000000 := by have := hn16.out; have := hnn.out; omega
       go_upto_region 14 with (first
         | ((with_reducible refine Ac (N := 45) rfl ?_); (refine BM (N := 45) rfl rfl rfl rfl Tryz.underlying105 rfl (by rw [Bg]; exact Bl) hr.out ?_))
         | ((with_reducible refine Ac (N := 8) rfl ?_); refine Aj (N := 8) (C := Z18) rfl rfl (by first | (go_simp; done) | (go_simp; rfl)) ?_; intro g8 w7 h8 b8 f7)
         | ((with_reducible refine Af (t := 105) (p := 8) (v := .tmp 45) rfl ?_); (refine Ak rfl (ty := 105) (x := .tmp 8) (y := .tmp 45) (cells := (wrC x).toArray) rfl rfl rfl b8.out (by rw [AY]; exact Bl) (Eb x) (by rw [AY]; exact Nat.le_refl 18) (wrC x).toArray (Aq (AY x)) ?_); intro w8 b88 f8))
       have hG8 : ¬ G g8 := fun hk => by
         rw [hG2.out] at hk
         have := HS.out
         have := HF.out.size
         have := h8.out
         rcases hk with hk | hk
         · have := hFs.out _ hk; omega
         · omega
       have T8 := Aa.mk ((HT.out.below f7.out).fr f8.out fun k hk hg => hG8 (hk ▸ hg))
       have W8 := Aa.mk ((HW.out.below f7.out).fr f8.out fun q hq hk => by
         have e1 : b = q := Option.some.inj hk
         have := hbs.out
         have := h8.out
         omega)
       have b38 := Aa.mk (Ob.fr (Ob.Ad HB.out f7.out) f8.out fun q => by have := HB.out.lt; have := h8.out; omega)
       have F8 : Aa (Fr (fun k => k = ml ∨ k = mh) w w8) := ⟨HF.out.after ((Fr.of_below (T := fun k => k = g8) f7.out).trans f8.out) fun k hk => .inr (by have := HF.out.size; have := h8.out; omega)⟩
       have S8 : Aa (w5.heap.size ≤ w8.heap.size) := ⟨Nat.le_trans HS.out (Nat.le_trans f7.out.size f8.out.size)⟩
       have hm8 : g8 ≠ mh := T8.out.h.ne b88.out
       obtain ⟨o2, hup, HU2⟩ := (T8.out.h.below (Ag (Below.refl _ _))).update EK Tryz.underlying160 x.key (.int .i64 e.id)
       simp only [Dq] at hup
       have hS2 : ∀ W, Fr (fun k => k = mh) w8 W → (W.cell? ⟨tp, 1, none⟩ = some (.map (some mh)) ∧ W.cell? ⟨g3, 0, none⟩ = some (.int .i64 e.id)) ∧ W.rangeAt g8 0 (AZ x.key) := fun W f => ⟨⟨Bk.cell (Ob.fr T8.out.t f (T8.out.h.ne T8.out.t)) rfl, Bk.cell (Ob.fr b38.out f (T8.out.h.ne b38.out)) rfl⟩, Bk.range (Ob.fr b88.out f hm8) 0 16 (BV x)⟩
       replace hS2 := Aa.mk hS2
       have u79 := Tryz.underlying103
       have i79 : (Tryz.prog.info? 103).map (·.size) = some (AZ x.key).length := by rw [Ai]; exact AB
       refine wp_region_noPanic ?_
       go_region_held_law (fun w' => (w'.cell? ⟨tp, 1, none⟩ = some (.map (some mh)) ∧ w'.cell? ⟨g3, 0, none⟩ = some (.int .i64 e.id)) ∧ w'.rangeAt g8 0 (AZ x.key))
         (exact hS2.out _ (by repeat (first | exact Fr.refl _ _ | refine Fr.drew ?_ | refine Fr.put ?_ _ _ (.inl rfl))))
         (fail)
       refine NoPanic.normal ?_
       go_split_ands
       have T9 := TabAt.hold (T8.out.below (Ag (Below.refl _ _))) HU2
       have P9 : Fr (fun k => k = mh) w8 (Cc w8.drew mh o2) := Fr.put ((Fr.refl _ w8).drew) mh o2 (.inl rfl)
       rw [← htk.out] at T9
       have W9 := W8.out.fr P9 fun q hq hk => hwF.out q hk (hq ▸ h.out.fh)
       have b39 := Ob.fr b38.out P9 (T8.out.h.ne b38.out)
       generalize Cc w8.drew mh o2 = w9 at *
       go_wp2_with fail
       refine ⟨⟨j + 1, by omega, by rw [Int.natCast_add]; rfl, ⟨T9⟩, ⟨W9⟩, ⟨b39⟩, ⟨F8.out.trans (P9.weaken fun k _ e => .inr e)⟩, ⟨Nat.le_trans S8.out P9.size⟩⟩, ?_⟩
       simp only [intOf]
       omega
end Go.Proofs.YtchfmgbjddopoaaGreatDoor.Hand
namespace Go.Proofs.YtchfmgbjddopoaaGreatDoor.Hand
open Go.RowKit Go.Proofs.YtchfmgbjddopoaaGreatDoorW.PrintWords Go.Proofs.YtchfmgbjddopoaaGreatDoorW.PrintLast Go.Proofs.YtchfmgbjddopoaaGreatDoorW.PrintMore
open Plain (Ky Wr Rc Ver Ent St Bytes Chs chainOf CW ltS Nw)
section
variable {F : Nat → Prop} {w w1 : World} {sp mc : Nat} {cs : Chs} {cb : CB}
theorem XL (k : Ky) (vs : List Ver) (c : Nat) (v : Value) (hu : Plain.Uniq cs) : BA (CW k vs cs) (fun j => if j = k then (c, v) else cb j) = CW k (.pointer (some ⟨c, 0, none⟩)) (BA cs cb) := by
 unfold BA
 induction cs with
 | nil => simp [Plain.CW]
 | cons p l ih =>
   unfold Plain.Uniq at hu
   rw [List.map_cons, List.nodup_cons] at hu
   unfold Plain.CW
   by_cases h : p.1 = k
   · subst h
     have : ∀ q ∈ l, q.1 ≠ p.1 := fun q hq e => hu.1 (List.mem_map.2 ⟨q, hq, e⟩)
     simp only [if_true, List.map_cons]
     congr 1
     refine List.map_congr_left fun q hq => ?_
     simp only [if_neg (this q hq)]
   · simp only [if_neg h, List.map_cons]
     congr 1
     exact ih hu.2
theorem AA.put {G T : Nat → Prop} {k : Ky} {c : Nat} {v : Value} {vs : List Ver} {o : Obj} (h : AA F w sp mc cs cb) (hG : ∀ k, F k → G k) (f : Fr T w w1) (hvs : vs ≠ []) (hc : Lc w1 c v vs) (hTs : ¬ T sp) (hTm : ¬ T mc) (hu : DD (Cc w1 mc o) mc Dq (CW k (.pointer (some ⟨c, 0, none⟩)) (BA cs cb)))
   (hq : ∀ q ∈ cs, q.1 ≠ k → ¬ T (cb q.1).1 ∧ (∀ j, T j → (cb q.1).2.ownBlock ≠ some j) ∧ (cb q.1).1 ≠ c ∧ ∀ j, (cb q.1).2.ownBlock = some j → v.ownBlock ≠ some j) (hGc : G c) (hGv : ∀ j, v.ownBlock = some j → G j) (hcs : Plain.Uniq cs) :
   AA G (Cc w1 mc o) sp mc (CW k vs cs) (fun j => if j = k then (c, v) else cb j) := by
 have hm1 := h.m.fr f hTm
 have P : Fr (fun k => k = mc) w1 (Cc w1 mc o) := Fr.put (Fr.refl _ w1) mc o (.inl rfl)
 have hmem : ∀ p ∈ CW k vs cs, p = (k, vs) ∨ (p ∈ cs ∧ p.1 ≠ k) := fun p hp => by
   by_cases hk : p.1 = k
   · left
     have h1 : Plain.look k (CW k vs cs) = some vs := Plain.LU _ _ _
     have h2 : Plain.look p.1 (CW k vs cs) = some p.2 := Plain.Es (hcs.put) hp
     rw [hk, h1] at h2
     rw [← hk, Option.some.inj h2]
   · right
     rcases Plain.IY hp with h1 | h1
     · exact ⟨h1, hk⟩
     · exact absurd (by rw [h1]) hk
 have hch : ∀ p ∈ CW k vs cs, Lc (Cc w1 mc o) (if p.1 = k then (c, v) else cb p.1).1 (if p.1 = k then (c, v) else cb p.1).2 p.2 := fun p hp => by
   rcases hmem p hp with rfl | ⟨h1, h2⟩
   · simp only [if_true]
     exact hc.fr P (hm1.ne hc.c) fun j hj e => Ec hc.v hm1 (hj ▸ e)
   · simp only [if_neg h2]
     have h3 := hq p h1 h2
     have h4 := (h.c p h1).fr f h3.1 h3.2.1
     exact h4.fr P (hm1.ne h4.c) fun j hj e => Ec h4.v hm1 (hj ▸ e)
 refine ⟨Ob.fr (Ob.fr h.s f hTs) P (hm1.ne (Ob.fr h.s f hTs)), ?_, hch, fun p hp => ?_, hG _ h.fs, hG _ h.fm, fun p hp => ?_, fun p hp q hq' hne => ?_⟩
 · rw [XL k vs c v hcs]
   exact hu
 · rcases hmem p hp with rfl | ⟨h1, _⟩
   · exact hvs
   · exact h.ne p h1
 · rcases hmem p hp with rfl | ⟨h1, h2⟩
   · simp only [if_true]
     exact ⟨hGc, hGv⟩
   · simp only [if_neg h2]
     exact ⟨hG _ (h.fc p h1).1, fun j hj => hG _ ((h.fc p h1).2 j hj)⟩
 · rcases hmem p hp with rfl | ⟨h1, h2⟩
   · rcases hmem q hq' with rfl | ⟨h3, h4⟩
     · exact absurd rfl hne
     · simp only [if_true, if_neg h4]
       have h5 := hq q h3 h4
       exact ⟨fun e => h5.2.2.1 e.symm, fun j hj e => h5.2.2.2 j e hj⟩
   · rcases hmem q hq' with rfl | ⟨h3, h4⟩
     · simp only [if_true, if_neg h2]
       have h5 := hq p h1 h2
       exact ⟨h5.2.2.1, h5.2.2.2⟩
     · simp only [if_neg h2, if_neg h4]
       exact h.d p h1 q h3 hne
end
end Go.Proofs.YtchfmgbjddopoaaGreatDoor.Hand
