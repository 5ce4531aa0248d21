import Derived.Test.YtchfmgbjddopoaaGreatDoorM10
import Derived.Test.YtchfmgbjddopoaaGreatDoorM23
import Derived.Test.YtchfmgbjddopoaaGreatDoorM26
import Derived.Test.YtchfmgbjddopoaaGreatDoorM30
set_option linter.unusedVariables false
set_option linter.unusedSimpArgs false
set_option maxHeartbeats 6400000
set_option maxRecDepth 100000
namespace Go.Proofs.YtchfmgbjddopoaaGreatDoor.Hand
open Go.RowKit Go.Proofs.YtchfmgbjddopoaaGreatDoorW.PrintWords Go.Proofs.YtchfmgbjddopoaaGreatDoorW.PrintLast Go.Proofs.YtchfmgbjddopoaaGreatDoorW.PrintMore
attribute [local go_sem ↓] Go.wp_at_zero Go.wp_at_succ
open Plain (Ky Wr Rc Ver Ent St Bytes Inv EJ CU Dw DX QH Dv Ez WO)
theorem Yq (id t0 n0 t1 n1 : Int) (A : Option Addr) (n c : Nat) : Tryz.prog.built 72 [(0, .int .i64 id), (1, .agg #[.int .i64 t0, .int .u8 n0]), (2, .agg #[.int .i64 t1, .int .u8 n1]), (3, .slice A n c)] = some (E6 id t0 n0 t1 n1 (.slice A n c)) := by kernel_rfl
theorem NM (F : Nat → Prop) (w : World) (p : Nat) (ix : CZ) (s : St) (cb : CB) (ev : Int → Value) (N : Nat) (r : Rc) (A1 A2 : Option Addr) (n1 c1 n2 c2 : Nat) (h : Aw F w p ix s cb ev) (hi : Inv s N) (hN : N ≤ 20000) (hr : KZ w r (.slice A1 n1 c1) (.slice A2 n2 c2)) (hok : WO r) (hg : Dv r = true) (hl : r.parts.length ≤ 1000)
   (hwF : r.kind = 1 → ∀ k, (Value.slice A1 n1 c1).ownBlock = some k → ¬ F k) :
   Calls Tryz.prog 18 #[.pointer (some ⟨p, 0, none⟩), .agg (Df r (.slice A1 n1 c1) (.slice A2 n2 c2))] w fun x w' => x = .returned (.int .i64 (EJ s r).1) ∧ (∃ cb' ev', Aw (fun k => F k ∨ w.heap.size ≤ k ∧ k < w'.heap.size) w' p ix (EJ s r).2 cb' ev') ∧ Fr F w w' := by
 have hG : Aa (∀ W, KZ W r (.slice A1 n1 c1) (.slice A2 n2 c2) → Calls Tryz.prog 7 #[.agg (R9 r.kind r.id r.t0 r.n0 r.t1 r.n1 (.slice A1 n1 c1) r.yes (.slice A2 n2 c2))] W fun x w' => x = .returned (.bool true) ∧ Below W.heap.size W w') := ⟨fun W hW => by have := II W r A1 A2 n1 c1 n2 c2 hW hl; rwa [hg] at this⟩
 have hk : r.kind = 1 ∨ r.kind = 2 ∨ r.kind = 3 ∨ (r.kind ≠ 1 ∧ r.kind ≠ 2 ∧ r.kind ≠ 3) := by omega
 have fin : ∀ (W W' : World) (s' : St) (x : Int) (cb' : CB) (ev' : Int → Value), Below w.heap.size w W → EJ s r = (x, s') → Aw (fun k => F k ∨ W.heap.size ≤ k ∧ k < W'.heap.size) W' p ix s' cb' ev' → Fr F W W' → (x = (EJ s r).1 ∧ (∃ cb' ev', Aw (fun k => F k ∨ w.heap.size ≤ k ∧ k < W'.heap.size) W' p ix (EJ s r).2 cb' ev') ∧ Fr F w W') := fun W W' s' x cb' ev' hB he hP hF => by
   rw [he]
   have hs := hB.size
   refine ⟨rfl, ⟨cb', ev', hP.mono (fun k hk => hk.imp (fun q => q) fun q => ⟨Nat.le_trans hs q.1, q.2⟩) fun k hk => hk.elim (fun hk => Nat.lt_of_lt_of_le (h.few k hk) (Nat.le_trans hs hF.size)) fun hk => hk.2⟩, (Fr.of_below hB).trans hF⟩
 replace fin := Aa.mk fin
 rcases hk with hk | hk | hk | ⟨hk1, hk2, hk3⟩
 · have he : EJ s r = CU s (QH r) := by unfold EJ; rw [if_pos hk]
   have hP : Aa (∀ W, Aw F W p ix s cb ev → KZ W r (.slice A1 n1 c1) (.slice A2 n2 c2) → Calls Tryz.prog 50 #[.pointer (some ⟨p, 0, none⟩), .agg (E6 r.id r.t0 r.n0 r.t1 r.n1 (.slice A1 n1 c1))] W fun x w' => x = .returned (.int .i64 (CU s (QH r)).1) ∧ (∃ ev', Aw (fun k => F k ∨ W.heap.size ≤ k ∧ k < w'.heap.size) w' p ix (CU s (QH r)).2 cb ev') ∧ Fr F W w') := ⟨fun W hW hR => Ov F W p ix s cb ev N (QH r) A1 n1 c1 hW hi hN hR.ws (Plain.Ji hg hk) (hwF hk)⟩
   obtain ⟨X, hX⟩ : ∃ X, X = CU s (QH r) := ⟨_, rfl⟩
   rw [← hX] at hP he
   rw [he] at fin ⊢
   replace h := Aa.mk h
   replace hr := Aa.mk hr
   clear hi hN hok hg hl hwF he hX
   show Calls Tryz.prog 18 #[.pointer (some ⟨p, 0, none⟩), .agg (R9 r.kind r.id r.t0 r.n0 r.t1 r.n1 (.slice A1 n1 c1) r.yes (.slice A2 n2 c2))] w _
   rw [hk] at hG ⊢
   go_enter Tryz.func18, Tryz.ntmps18
   go_wp2_with (first
     | ((with_reducible refine Ac (N := 3) rfl ?_); refine Aj (N := 3) (C := R9 1 r.id r.t0 r.n0 r.t1 r.n1 (.slice A1 n1 c1) r.yes (.slice A2 n2 c2)) rfl rfl (by first | (go_simp; done) | (go_simp; rfl)) ?_; intro g3 w1 h3 b3 f1; have P1 := Aa.mk (h.out.below f1.out); have R1 := Aa.mk (hr.out.below f1.out))
     | ((with_reducible refine Ac (N := 5) rfl ?_); (refine Au (N := 5) rfl rfl rfl rfl b3.out Tryz.underlying36 rfl Bh (R9 1 r.id r.t0 r.n0 r.t1 r.n1 (.slice A1 n1 c1) r.yes (.slice A2 n2 c2)).toList (AU rfl) rfl ?_))
     | (go_at_call 7; refine (hG.out _ R1.out).mono ?_; rintro x w2 ⟨rfl, f2⟩; have P2 := Aa.mk (P1.out.below f2); have R2 := Aa.mk (R1.out.below f2); have b32 := Aa.mk (Ob.Ad b3.out f2); have F2 : Aa (Below w.heap.size w w2) := ⟨f1.out.trans (f2.mono f1.out.size)⟩; have c0 := Bk.cell b32.out (j := 0) rfl; have c1' := Bk.cell b32.out (j := 1) rfl; have c2' := Bk.cell b32.out (j := 2) rfl; have c3' := Bk.cell b32.out (j := 3) rfl; have c4' := Bk.cell b32.out (j := 4) rfl; have c5' := Bk.cell b32.out (j := 5) rfl; have c6' := Bk.cell b32.out (j := 6) rfl; clear f2)
     | ((with_reducible refine Ac (N := 21) rfl ?_); refine LW rfl rfl (by exact Yq r.id r.t0 r.n0 r.t1 r.n1 A1 n1 c1) ?_)
     | (go_at_call 50; refine (hP.out _ P2.out R2.out).mono ?_; rintro x w3 ⟨rfl, ⟨ev', P3⟩, f3⟩))
   go_returns
   have := fin.out w2 w3 X.2 X.1 cb ev' F2.out rfl P3 f3
   exact ⟨rfl, this.2.1, this.2.2⟩
 · have he : EJ s r = Dw s r.id r.t1 r.n1 := by unfold EJ; rw [if_neg (by omega), if_pos hk]
   have hat := Plain.Rx hg hk
   have hP : Aa (∀ W, Aw F W p ix s cb ev → Calls Tryz.prog 51 #[.pointer (some ⟨p, 0, none⟩), .int .i64 r.id, .agg #[.int .i64 r.t1, .int .u8 r.n1]] W fun x w' => x = .returned (.int .i64 (Dw s r.id r.t1 r.n1).1) ∧ (∃ cb', Aw (fun k => F k ∨ W.heap.size ≤ k ∧ k < w'.heap.size) w' p ix (Dw s r.id r.t1 r.n1).2 cb' ev) ∧ Fr F W w') := ⟨fun W hW => PW F W p ix s cb ev r.id r.t1 r.n1 N hW hi (by omega) hat.2 hok.n1⟩
   obtain ⟨X, hX⟩ : ∃ X, X = Dw s r.id r.t1 r.n1 := ⟨_, rfl⟩
   rw [← hX] at hP he
   rw [he] at fin ⊢
   replace h := Aa.mk h
   replace hr := Aa.mk hr
   show Calls Tryz.prog 18 #[.pointer (some ⟨p, 0, none⟩), .agg (R9 r.kind r.id r.t0 r.n0 r.t1 r.n1 (.slice A1 n1 c1) r.yes (.slice A2 n2 c2))] w _
   clear hi hN hok hg hl hwF he hX hat
   rw [hk] at hG ⊢
   go_enter Tryz.func18, Tryz.ntmps18
   go_wp2_with (first
     | ((with_reducible refine Ac (N := 3) rfl ?_); refine Aj (N := 3) (C := R9 2 r.id r.t0 r.n0 r.t1 r.n1 (.slice A1 n1 c1) r.yes (.slice A2 n2 c2)) rfl rfl (by first | (go_simp; done) | (go_simp; rfl)) ?_; intro g3 w1 h3 b3 f1; have P1 := Aa.mk (h.out.below f1.out); have R1 := Aa.mk (hr.out.below f1.out))
     | ((with_reducible refine Ac (N := 5) rfl ?_); (refine Au (N := 5) rfl rfl rfl rfl b3.out Tryz.underlying36 rfl Bh (R9 2 r.id r.t0 r.n0 r.t1 r.n1 (.slice A1 n1 c1) r.yes (.slice A2 n2 c2)).toList (AU rfl) rfl ?_))
     | (go_at_call 7; refine (hG.out _ R1.out).mono ?_; rintro x w2 ⟨rfl, f2⟩; have P2 := Aa.mk (P1.out.below f2); have b32 := Aa.mk (Ob.Ad b3.out f2); have F2 : Aa (Below w.heap.size w w2) := ⟨f1.out.trans (f2.mono f1.out.size)⟩; have c0 := Bk.cell b32.out (j := 0) rfl; have c1' := Bk.cell b32.out (j := 1) rfl; have c4' := Bk.cell b32.out (j := 4) rfl; have c5' := Bk.cell b32.out (j := 5) rfl; clear f2)
     | (go_at_call 51; refine (hP.out _ P2.out).mono ?_; rintro x w3 ⟨rfl, ⟨cb', P3⟩, f3⟩))
   go_returns
   have := fin.out w2 w3 X.2 X.1 cb' ev F2.out rfl P3 f3
   exact ⟨rfl, this.2.1, this.2.2⟩
 · have he : EJ s r = DX s r.id := by unfold EJ; rw [if_neg (by omega), if_neg (by omega), if_pos hk]
   have h1 : 1 ≤ r.id := by
     unfold Dv at hg
     rw [if_neg (by omega), if_neg (by omega), if_pos hk, Bool.and_eq_true] at hg
     simpa using hg.2
   have h16 : ∀ q ∈ s.tab, q.2.ws.length ≤ 16 := fun q hq => (Plain.BL (hi.te q hq).2.good).2.2.1.2
   have hP : Aa (∀ W, Aw F W p ix s cb ev → Calls Tryz.prog 52 #[.pointer (some ⟨p, 0, none⟩), .int .i64 r.id] W fun x w' => x = .returned (.int .i64 (DX s r.id).1) ∧ Aw F w' p ix (DX s r.id).2 cb ev ∧ Fr F W w') := ⟨fun W hW => SK F W p ix s cb ev r.id hW (H6 hi) h16 h1⟩
   obtain ⟨X, hX⟩ : ∃ X, X = DX s r.id := ⟨_, rfl⟩
   rw [← hX] at hP he
   rw [he] at fin ⊢
   replace h := Aa.mk h
   replace hr := Aa.mk hr
   show Calls Tryz.prog 18 #[.pointer (some ⟨p, 0, none⟩), .agg (R9 r.kind r.id r.t0 r.n0 r.t1 r.n1 (.slice A1 n1 c1) r.yes (.slice A2 n2 c2))] w _
   clear hi hN hok hg hl hwF he hX h1 h16
   rw [hk] at hG ⊢
   go_enter Tryz.func18, Tryz.ntmps18
   go_wp2_with (first
     | ((with_reducible refine Ac (N := 3) rfl ?_); refine Aj (N := 3) (C := R9 3 r.id r.t0 r.n0 r.t1 r.n1 (.slice A1 n1 c1) r.yes (.slice A2 n2 c2)) rfl rfl (by first | (go_simp; done) | (go_simp; rfl)) ?_; intro g3 w1 h3 b3 f1; have P1 := Aa.mk (h.out.below f1.out); have R1 := Aa.mk (hr.out.below f1.out))
     | ((with_reducible refine Ac (N := 5) rfl ?_); (refine Au (N := 5) rfl rfl rfl rfl b3.out Tryz.underlying36 rfl Bh (R9 3 r.id r.t0 r.n0 r.t1 r.n1 (.slice A1 n1 c1) r.yes (.slice A2 n2 c2)).toList (AU rfl) rfl ?_))
     | (go_at_call 7; refine (hG.out _ R1.out).mono ?_; rintro x w2 ⟨rfl, f2⟩; have P2 := Aa.mk (P1.out.below f2); have b32 := Aa.mk (Ob.Ad b3.out f2); have F2 : Aa (Below w.heap.size w w2) := ⟨f1.out.trans (f2.mono f1.out.size)⟩; have c0 := Bk.cell b32.out (j := 0) rfl; have c1' := Bk.cell b32.out (j := 1) rfl; have c4' := Bk.cell b32.out (j := 4) rfl; have c5' := Bk.cell b32.out (j := 5) rfl; clear f2)
     | (go_at_call 52; refine (hP.out _ P2.out).mono ?_; rintro x w3 ⟨rfl, P3, f3⟩))
   go_returns
   have := fin.out w2 w3 X.2 X.1 cb ev F2.out rfl (P3.mono (fun k hk => .inl hk) fun k hk => hk.elim (fun hk => P3.few k hk) fun hk => hk.2) f3
   exact ⟨rfl, this.2.1, this.2.2⟩
 · have he : EJ s r = (0, s) := by unfold EJ; rw [if_neg hk1, if_neg hk2, if_neg hk3]
   rw [he] at fin ⊢
   have e1 : (r.kind == 1) = false := by simpa using hk1
   have e2 : (r.kind == 2) = false := by simpa using hk2
   have e3 : (r.kind == 3) = false := by simpa using hk3
   obtain ⟨K, hK⟩ : ∃ K, K = r.kind := ⟨_, rfl⟩
   replace h := Aa.mk h
   replace hr := Aa.mk hr
   show Calls Tryz.prog 18 #[.pointer (some ⟨p, 0, none⟩), .agg (R9 r.kind r.id r.t0 r.n0 r.t1 r.n1 (.slice A1 n1 c1) r.yes (.slice A2 n2 c2))] w _
   rw [← hK] at hG e1 e2 e3 ⊢
   clear hi hN hok hg hl hwF he hk1 hk2 hk3 hK
   go_enter Tryz.func18, Tryz.ntmps18
   go_wp2_with (first
     | ((with_reducible refine Ac (N := 3) rfl ?_); refine Aj (N := 3) (C := R9 K r.id r.t0 r.n0 r.t1 r.n1 (.slice A1 n1 c1) r.yes (.slice A2 n2 c2)) rfl rfl (by first | (go_simp; done) | (go_simp; rfl)) ?_; intro g3 w1 h3 b3 f1; have P1 := Aa.mk (h.out.below f1.out); have R1 := Aa.mk (hr.out.below f1.out))
     | ((with_reducible refine Ac (N := 5) rfl ?_); (refine Au (N := 5) rfl rfl rfl rfl b3.out Tryz.underlying36 rfl Bh (R9 K r.id r.t0 r.n0 r.t1 r.n1 (.slice A1 n1 c1) r.yes (.slice A2 n2 c2)).toList (AU rfl) rfl ?_))
     | (go_at_call 7; refine (hG.out _ R1.out).mono ?_; rintro x w2 ⟨rfl, f2⟩; have P2 := Aa.mk (P1.out.below f2); have b32 := Aa.mk (Ob.Ad b3.out f2); have F2 : Aa (Below w.heap.size w w2) := ⟨f1.out.trans (f2.mono f1.out.size)⟩; have c0 := Bk.cell b32.out (j := 0) rfl; have c1' := Bk.cell b32.out (j := 1) rfl; have c4' := Bk.cell b32.out (j := 4) rfl; have c5' := Bk.cell b32.out (j := 5) rfl; clear f2))
   go_returns
   have := fin.out w2 w2 s 0 cb ev F2.out rfl (P2.out.mono (fun k hk => .inl hk) fun k hk => hk.elim (fun hk => P2.out.few k hk) fun hk => hk.2) (Fr.refl _ _)
   exact ⟨rfl, this.2.1, this.2.2⟩
end Go.Proofs.YtchfmgbjddopoaaGreatDoor.Hand
namespace Go.Proofs.YtchfmgbjddopoaaGreatDoor.Hand
open Go.RowKit Go.Proofs.YtchfmgbjddopoaaGreatDoorW.PrintWords Go.Proofs.YtchfmgbjddopoaaGreatDoorW.PrintLast Go.Proofs.YtchfmgbjddopoaaGreatDoorW.PrintMore
open Plain (Ky Wr Rc Ver Ent St Bytes Dv WO encR Inv EJ Fit)
structure It where
 r : Rc
 A1 : Option Addr
 n1 : Nat
 c1 : Nat
 A2 : Option Addr
 n2 : Nat
 c2 : Nat
instance : Inhabited It := ⟨⟨⟨0, 0, 0, 0, 0, 0, [], false, []⟩, none, 0, 0, none, 0, 0⟩⟩
def itA (x : It) : Array Value := Df x.r (.slice x.A1 x.n1 x.c1) (.slice x.A2 x.n2 x.c2)
def itC (x : It) : List Value := (itA x).toList
theorem Ho (x : It) : (itC x).length = 9 := rfl
theorem Ya (x : It) : (itA x).all (·.oneCell') = true := Q8 _ _ _ _ _ _ _
theorem X9 (x : It) : ∀ u ∈ itC x, u.oneCell' = true := fun u hu => by
 have h := Ya x
 rw [Array.all_eq_true_iff_forall_mem] at h
 exact h u (by simpa [itC] using hu)
def DU (w : World) (B : Nat) (v : Value) (xs : List It) : Prop := w.ownsRow B 36 9 v xs.length (xs.flatMap itC)
theorem DU.row {w : World} {B : Nat} {v : Value} {xs : List It} (h : DU w B v xs) : RowK itC 9 w v xs := RowK.own Ho h rfl
def RJ (x : It) : Bool := decide (x.n1 ≤ 16) && (decide (x.n2 ≤ 8) && Dv x.r)
structure Pg (w : World) (x : It) : Prop where
 ws : Eo w (.slice x.A1 x.n1 x.c1) x.r.ws
 ps : YF w (.slice x.A2 x.n2 x.c2) x.r.parts
 ok : WO x.r
theorem Pg.len1 {w : World} {x : It} (h : Pg w x) : x.n1 = x.r.ws.length := by
 obtain ⟨A, c, e⟩ := h.ws.slice
 injection e
theorem Pg.YG {w : World} {x : It} (h : Pg w x) : x.n2 = x.r.parts.length := by
 obtain ⟨A, c, e⟩ := h.ps.slice
 injection e
theorem Pg.below {w w' : World} {x : It} (h : Pg w x) (f : Below w.heap.size w w') : Pg w' x := ⟨h.ws.below f, h.ps.below f, h.ok⟩
theorem Pg.recW {w : World} {x : It} (h : Pg w x) (h1 : x.n1 ≤ 16) (h2 : x.n2 ≤ 8) : KZ w x.r (.slice x.A1 x.n1 x.c1) (.slice x.A2 x.n2 x.c2) :=
 ⟨h.ws, h.ps, by have := h.len1; omega, by have := h.YG; omega⟩
theorem KF {x : It} (h : RJ x = true) : x.n1 ≤ 16 ∧ x.n2 ≤ 8 ∧ Dv x.r = true := by
 unfold RJ at h
 rw [Bool.and_eq_true, Bool.and_eq_true, decide_eq_true_eq, decide_eq_true_eq] at h
 exact h
theorem Pg.fit {w : World} {x : It} (h : Pg w x) (ho : RJ x = true) : Fit x.r := by
 obtain ⟨h1, h2, h3⟩ := KF ho
 exact Plain.Qs h3 h.ok (by have := h.len1; omega) (by have := h.YG; omega)
theorem Zp : (Tryz.prog.info? 36).map (fun i => (i.zero, i.size, i.bytes)) = some (some (.agg (R9 0 0 0 0 0 0 (.slice none 0 0) false (.slice none 0 0))), 9, 104) := by kernel_rfl
theorem Oh (W : World) (B : Nat) (v1 : Value) (l1 : List It) (g : Nat) (x : It) (h1 : DU W B v1 l1) (h2 : Bk W g (itA x) 36) (hl : l1.length ≤ 1000) (hB : B ≤ W.heap.size) :
   ∃ v3 W3, (Builtin.append_ #[22, 22] 22 #[v1, .slice (some ⟨g, 0, none⟩) 1 1]).run Tryz.prog W = .ok v3 W3 ∧ DU W3 B v3 (l1 ++ [x]) ∧ W.grownBy W3 v1.ownBlock := by
 obtain ⟨i0, hi, hz0, hz1, hz2⟩ := info_parts Zp
 have hfl : ∀ l : List It, (l.flatMap itC).length = l.length * 9 := fun l => Dx itC 9 Ho l
 obtain ⟨v', w', hr, o', g', _⟩ := run_append_own (P := Tryz.prog) W B 22 22 36 i0 (.agg (R9 0 0 0 0 0 0 (.slice none 0 0) false (.slice none 0 0))) 9 104 Tryz.underlying22 hi hz0 hz1 hz2 (by kernel_rfl) (by decide) v1 l1.length (l1.flatMap itC) h1 ⟨g, 0, none⟩ 1 1 (itC x) (Ho x) (fun j u hu => by
     refine (congrArg _ ?_).trans (Bk.cell h2 (j := j) (by rw [← Array.getElem?_toList]; exact hu))
     simp [Addr.add]
     intro e
     exact e.symm) (fun u hu => X9 x u hu) (by simp only [maxLen]; omega) (by omega) hB
 refine ⟨v', w', hr, ?_, g'⟩
 unfold DU
 rw [List.length_append, List.flatMap_append]
 simpa using o'
theorem Lg.other {w w' : World} {B S g d q : Nat} {rs : List (List Int)} {T : Nat → Prop} (h : Lg w B S g d rs q) (f : Fr T w w') (hT : ∀ k, T k → ∃ C, Bk w k C 36) : Lg w' B S g d rs q := by
 obtain ⟨m, n, c, A, vs, safe, h1, h2, h3, h4, h5, h6, h7, h8, h9, h10⟩ := h
 have hb : ∀ {k C t}, Bk w k C t → t ≠ 36 → Bk w' k C t := fun {k C t} hk ht => Ob.fr hk f fun e => by
   obtain ⟨C', hC⟩ := hT _ e
   exact Dh hk hC ht rfl
 have hn : ∀ {base e size n v xs}, w.ownsRow base e size v n xs → e ≠ 36 → ∀ k, T k → v.ownBlock ≠ some k := fun {base e size n v xs} ho he k hk => by
   obtain ⟨C', hC⟩ := hT _ hk
   exact AC ho hC he
 have hm : ∀ {k es c}, Mp w k es c → Mp w' k es c := fun {k es c} hk => Ob.fr hk f fun e => by
   obtain ⟨C', hC⟩ := hT _ e
   exact BR hC hk rfl
 refine ⟨m, n, c, A, vs, safe, hb h1 (by decide), h2.frT f (fun k hk => hn h2.own (by decide) k hk) (fun k hk i hi => hn (h2.each i hi) (by decide) k hk), h3, h4, h5, h6, Nat.le_trans h7 f.size, h8, h9, ?_⟩
 rcases h10 with ⟨e1, e2, e3⟩ | ⟨f', z, e1, e2, e3⟩
 · exact .inl ⟨e1, e2, hb e3.d (by decide), hm e3.m⟩
 · exact .inr ⟨f', z, e1, ⟨hb e2.d (by decide), hm e2.m, hb e2.f (by decide), AP e2.b f fun k hk => hn e2.b (by decide) k hk⟩, e3⟩
theorem DU.Ha {w w' : World} {B : Nat} {v : Value} {xs : List It} (h : DU w B v xs) (f : EC w w') : DU w' B v xs := by
 refine ⟨h.1, ?_⟩
 rcases h.2 with h' | ⟨g', cap, cur, h1, h2, h3, h4⟩
 · exact .inl h'
 · exact .inr ⟨g', cap, cur, h1, h2, f _ _ _ h3 (by decide) (by decide) (by decide) (by decide) (by decide), h4⟩
theorem DU.bk {w : World} {B : Nat} {v : Value} {xs : List It} (h : DU w B v xs) {k : Nat} (hk : v.ownBlock = some k) : ∃ C, Bk w k C 36 := ND h hk
theorem Jn {P : Program} {ops : Array Oper} {rest : List Oper} {op : Oper} {a : Act} {W : World} {Q : Exit → Act → World → Prop} {N : Tmp} (_hN : op.dst = some N) (hw : Region.wanted op (yielded ops a.tmps) = true) {ty : TypeId} {x : Operand} (ho : op.op = .load ty x) {b o' : Nat} (hx : a.eval x = .pointer (some ⟨b, o', none⟩))
   {d : TypeDesc} (hu : P.underlying ty = some d) (hd : d.isRow = true) {cs : List Value} (hi : (P.info? ty).map (·.size) = some cs.length)
   (hr : W.rangeAt b o' cs) (h : wpList P ops Q rest (a.put op.dst (.agg cs.toArray)) W) : wpList P ops Q (op :: rest) a W :=
 wpList_step fun _ hK => by
   rw [if_pos hw]
   exact wp_load_mid ty x ho b o' hx cs d hr hu hd hi (hK _ _ h)
theorem WQ : ((Tryz.prog.info? 36).bind (·.zero)).isSome = true := by kernel_rfl
structure Kept (xs : List It) (G : Nat → List It) : Prop where
 zero : G 0 = []
 yes : ∀ i, i < xs.length → RJ xs[i]! = true → G (i + 1) = G i ++ [xs[i]!]
 no : ∀ i, i < xs.length → RJ xs[i]! = false → G (i + 1) = G i
 len : ∀ i, (G i).length ≤ i
 mem : ∀ i, ∀ x ∈ G i, x ∈ xs ∧ RJ x = true
theorem kept (xs : List It) : ∃ G, Kept xs G := by
 refine ⟨fun i => (xs.take i).filter RJ, ⟨by simp, fun i hi h => ?_, fun i hi h => ?_, fun i => ?_, fun i x hx => ?_⟩⟩
 · rw [List.take_succ_eq_append_getElem hi, List.filter_append, ← getElem!_pos xs i hi]
   generalize xs[i]! = x at h ⊢
   simp [h]
 · rw [List.take_succ_eq_append_getElem hi, List.filter_append, ← getElem!_pos xs i hi]
   generalize xs[i]! = x at h ⊢
   simp [h]
 · exact Nat.le_trans (List.length_filter_le _ _) (by rw [List.length_take]; omega)
 · obtain ⟨h1, h2⟩ := List.mem_filter.1 hx
   exact ⟨List.mem_of_mem_take h1, h2⟩
abbrev bytesOf (l : List It) : List (List Int) := l.map fun x => encR x.r
theorem XD {w : World} {B : Nat} {v : Value} {l : List Int} (h : Bq w B v l) (h1 : 1 ≤ l.length) :
   ∃ b c, v = .slice (some ⟨b, 0, none⟩) l.length c ∧ l.length ≤ c ∧ b < w.heap.size ∧ ∀ j x, l[j]? = some x → w.cell? ⟨b, 0 + j, none⟩ = some (.int .u8 x) := by
 have h0 := h
 rcases h.2 with ⟨_, e0⟩ | ⟨g, cap, cur, rfl, hb, hh, hc, hm, hs, ht⟩
 · omega
 · refine ⟨g, cap, rfl, hc, Ob.lt (show Ob w g _ from hh), fun j x hx => ?_⟩
   have := World.ownsRow.cells h0 (g := g) rfl j (.int .u8 x) (by rw [List.getElem?_map, hx]; rfl)
   refine Eq.trans (congrArg _ ?_) this
   simp [Addr.add]
theorem SG {F1 F2 : Nat → Prop} {a b c : World} {p1 p2 : Nat} {ix1 ix2 : CZ} {t : St} {cb1 cb2 : CB} {ev1 ev2 : Int → Value} {K : Nat}
   (few1 : ∀ k, F1 k → k < a.heap.size) (few2 : ∀ k, F2 k → k < a.heap.size) (h1 : Aw (fun k => F1 k ∨ a.heap.size ≤ k ∧ k < b.heap.size) b p1 ix1 t cb1 ev1) (f1 : Fr F1 a b)
   (h2 : Aw (fun k => F2 k ∨ b.heap.size ≤ k ∧ k < c.heap.size) c p2 ix2 t cb2 ev2) (f2 : Fr F2 b c) (hd : ∀ k, F1 k → ¬ F2 k) (hK : ∀ k, F1 k ∨ F2 k → K ≤ k) (hKa : K ≤ a.heap.size) :
   ∃ G1 G2 : Nat → Prop, Aw G1 c p1 ix1 t cb1 ev1 ∧ Aw G2 c p2 ix2 t cb2 ev2 ∧ (∀ k, G1 k → ¬ G2 k) ∧ (∀ k, G1 k ∨ G2 k → K ≤ k) ∧ Below K a c := by
 have hab := f1.size
 have hbc := f2.size
 refine ⟨_, _, h1.fr f2 fun k h2 h => ?_, h2, fun k h h' => ?_, fun k h => ?_, (f1.below (fun k hk e => by have := hK k (.inl e); omega) hKa).trans (f2.below (fun k hk e => by have := hK k (.inr e); omega) (Nat.le_trans hKa hab))⟩
 · rcases h with h | h
   · exact hd k h h2
   · have := few2 k h2; omega
 · rcases h with h | h <;> rcases h' with h' | h'
   · exact hd k h h'
   · have := few1 k h; omega
   · have := few2 k h'; omega
   · omega
 · rcases h with (h | h) | (h | h)
   · exact hK k (.inl h)
   · omega
   · exact hK k (.inr h)
   · omega
theorem YM {α : Type} {l : List α} (h : l.length = 9) : ∃ a0 a1 a2 a3 a4 a5 a6 a7 a8, l = [a0, a1, a2, a3, a4, a5, a6, a7, a8] := by
 match l, h with
 | [a0, a1, a2, a3, a4, a5, a6, a7, a8], _ => exact ⟨_, _, _, _, _, _, _, _, _, rfl⟩
end Go.Proofs.YtchfmgbjddopoaaGreatDoor.Hand
