import Derived.Test.YtchfmgbjddopoaaGreatDoorM03
import Derived.Test.YtchfmgbjddopoaaGreatDoorM37
import Derived.Test.YtchfmgbjddopoaaGreatDoorM39
set_option linter.unusedVariables false
set_option linter.unusedSimpArgs false
set_option maxHeartbeats 6400000
set_option maxRecDepth 100000
section
namespace Go.Proofs.YtchfmgbjddopoaaGreatDoor.Hand
open Go.RowKit Go.Proofs.YtchfmgbjddopoaaGreatDoorW.PrintWords Go.Proofs.YtchfmgbjddopoaaGreatDoorW.PrintLast Go.Proofs.YtchfmgbjddopoaaGreatDoorW.PrintMore
attribute [local go_sem ↓] Go.wp_at_zero Go.wp_at_succ
theorem Zq : (Tryz.prog.info? 126).map (fun i => (i.zero, i.size, i.bytes)) = some (some .nilFunc, 1, 8) := by kernel_rfl
theorem own_ne {base e size n g t : Nat} {v : Value} {xs : List Value} {W : World} {D : Array Value} (h : W.ownsRow base e size v n xs) (hb : Bk W g D t) (hne : e ≠ t) : v.ownBlock ≠ some g := by
 rcases h.2 with ⟨rfl, _⟩ | ⟨g', cap, cur, rfl, _, hh, _⟩
 · simp [Value.ownBlock]
 · intro he
   have e1 : g' = g := by simpa [Value.ownBlock] using he
   subst e1
   have h2 := Option.some.inj (hh.symm.trans hb)
   injection h2 with _ h3
   exact hne h3
theorem Lj {base e n g c : Nat} {xs : List Value} {W : World} (hn : 0 < n) (h : W.ownsRow base e 1 (.slice (some ⟨g, 0, none⟩) n c) n xs) : base ≤ g ∧ (∃ cur : Array Value, Bk W g cur e ∧ ∀ (i : Nat) (u : Value), xs[i]? = some u → cur[i]? = some u) ∧ ∃ k, c = k + n := by
 rcases h.2 with ⟨h1, _⟩ | ⟨g', cap, cur, h1, hb, hh, hk, _, _, ht⟩
 · cases h1
 · injection h1 with e1 _ e3
   have e2 : g = g' := by simpa using e1
   subst e2
   subst e3
   refine ⟨hb, ⟨cur, hh, fun i u hi => ?_⟩, c - n, by omega⟩
   rw [← ht] at hi
   rw [List.getElem?_take] at hi
   split at hi
   · simpa using hi
   · cases hi
structure RL (sp : Nat) (C : Array Value) (m : Int) (w0 : World) (v : Value) (n : Nat) (xs : List Value) (W : World) : Prop where
 rows : Bk W sp C 9
 own : W.ownsRow w0.heap.size 126 1 v n xs
 fr : Below w0.heap.size w0 W
 hs : sp < w0.heap.size
 m0 : W.cell? ⟨0, 0, none⟩ = some (.int .i64 m)
section
variable {sp n : Nat} {C : Array Value} {m : Int} {w0 W W' a : World} {v v' : Value} {xs ys : List Value}
theorem RL.below (h : RL sp C m w0 v n xs W) (f : Below W.heap.size W W') : RL sp C m w0 v n xs W' :=
 ⟨h.rows.Ad f, own_below h.own f, h.fr.trans (f.mono h.fr.size), h.hs, cell0 h.m0 f⟩
theorem RL.newer (h0 : RL sp C m w0 v n xs a) (h : RL sp C m w0 v n xs W) {r : Nat} {D : Array Value} (hD : Bk W r D 124) (f : Fr (fun k => k = r) W W') (hr : a.heap.size ≤ r) : RL sp C m w0 v n xs W' := by
 have q1 := h0.rows.lt
 have q2 := h0.fr.size
 have q3 := h.fr.size
 have f0 : Below w0.heap.size W W' := f.below (fun k hk e => by omega) q3
 refine ⟨h.rows.fr f (by omega), WW h.own (own_ne h.own hD (by decide)) f, h.fr.trans f0, h.hs, ?_⟩
 have h1 : 0 < w0.heap.size := Nat.lt_of_le_of_lt (Nat.zero_le _) h.hs
 rw [f0.cell (p := ⟨0, 0, none⟩) h1]
 exact h.m0
theorem RL.app (h : RL sp C m w0 v n xs W) (ho : W'.ownsRow w0.heap.size 126 1 v' (n + 1) ys) (hg : W.grownBy W' v.ownBlock) : RL sp C m w0 v' (n + 1) ys W' := by
 have G : Below w0.heap.size W W' := (Below.refl _ _).grown hg h.fr.size (fun k hk => (h.own.lt k hk).1)
 refine ⟨h.rows.below G h.hs, ho, h.fr.trans G, h.hs, ?_⟩
 have h2 : 0 < w0.heap.size := Nat.lt_of_le_of_lt (Nat.zero_le _) h.hs
 rw [G.cell (p := ⟨0, 0, none⟩) h2]
 exact h.m0
theorem Gq {k t : Nat} {D : Array Value} (hb : Bk W k D t) (ht : t ≠ 126) (h : RL sp C m w0 v n xs W) (hg : W.grownBy W' v.ownBlock) : Bk W' k D t :=
 (hg.block k hb.lt (fun e => own_ne h.own hb (Ne.symm ht) e.symm)).trans hb
end
theorem Bk.ne {W : World} {a b t u : Nat} {A D : Array Value} (h : Bk W a A t) (k : Bk W b D u) (hne : t ≠ u) : a ≠ b := by
 rintro rfl
 have h2 := Option.some.inj (h.symm.trans k)
 injection h2 with _ h3
 exact hne h3
theorem Bk.neM {W : World} {a b t c : Nat} {A : Array Value} {es : Array MapEntry} (h : Bk W a A t) (k : Mp W b es c) : a ≠ b := by
 rintro rfl
 have h2 := Option.some.inj (h.symm.trans k)
 cases h2
def Kp (T : List Nat) (M : List Nat) (W W' : World) : Prop := (∀ k D t, Bk W k D t → t ∉ T → Bk W' k D t) ∧ (∀ k es c, Mp W k es c → k ∉ M → Mp W' k es c)
theorem Kp.ZX {s l c : Nat} {S : Array Value} {es : Array MapEntry} {W W' : World} (f : Fr (fun k => k = s ∨ k = l) W W') (hs : Bk W s S 195) (hl : Mp W l es c) : Kp [195] [l] W W' :=
 ⟨fun k D t h ht => h.fr f (fun e => by
   rcases e with rfl | rfl
   · exact h.ne hs (by simpa using ht) rfl
   · exact h.neM hl rfl), fun k es' c' h hk => h.fr f (fun e => by
   rcases e with rfl | rfl
   · exact hs.neM h rfl
   · exact hk (by simp))⟩
theorem Kp.fr_m {mw c : Nat} {es : Array MapEntry} {W W' : World} (f : Fr (fun k => k = mw) W W') (hm : Mp W mw es c) : Kp [] [mw] W W' :=
 ⟨fun k D t h _ => h.fr f (fun e => by
   subst e
   exact h.neM hm rfl), fun k es' c' h hk => h.fr f (fun e => by
   subst e
   exact hk (by simp))⟩
theorem Kp.others {W W' : World} {bb : Nat} {D0 : Array Value} (f : Lib.OthersKept 5 (some bb) W W') (hb : Bk W bb D0 137) : Kp [137, 5] [] W W' :=
 ⟨fun k D t h ht => h.others f (h.ne hb (by simp at ht; exact ht.1)) (fun c fz e => by
   injection e with _ e2
   simp [e2] at ht), fun k es c h _ => h.others f (fun e => (hb.neM h) e.symm) (fun c fz e => by cases e)⟩
theorem Kp.of_below {W W' : World} (f : Below W.heap.size W W') : Kp [] [] W W' := ⟨fun _ _ _ h _ => h.Ad f, fun _ _ _ h _ => h.Ad f⟩
theorem Uh {T : Nat → Prop} {B b : Nat} {p : Value} {bs : List Value} {w w' : World} (h : Lib.BuilderAtF 137 5 B b p bs w) (f : Fr T w w') (hT : ∀ k, T k → (∃ D t, Bk w k D t ∧ t ≠ 137 ∧ t ≠ 5) ∨ ∃ es c, Mp w k es c) : Lib.BuilderAtF 137 5 B b p bs w' := by
 refine Yu h f (fun hb => ?_) (fun k hk c fz e => ?_)
 · obtain ⟨_, v, hv, _⟩ := h
   rcases hT b hb with ⟨D, t, hD, h1, _⟩ | ⟨es, c, hm⟩
   · exact Bk.ne hD hv h1 rfl
   · exact Bk.neM hv hm rfl
 · rcases hT k hk with ⟨D, t, hD, _, h2⟩ | ⟨es, c', hm⟩
   · have h3 := Option.some.inj (hD.symm.trans e)
     injection h3 with _ h4
     exact h2 h4
   · have h3 := Option.some.inj (hm.symm.trans e)
     cases h3
theorem QW : Lib.splitB ⟨#[10]⟩ 0 (Lib.countB ⟨#[98, 101, 103, 105, 110, 10, 112, 117, 116, 32, 49, 32, 97, 32, 120, 10, 99, 111, 109, 109, 105, 116, 32, 49]⟩ ⟨#[10]⟩) ⟨#[98, 101, 103, 105, 110, 10, 112, 117, 116, 32, 49, 32, 97, 32, 120, 10, 99, 111, 109, 109, 105, 116, 32, 49]⟩ = [⟨#[98, 101, 103, 105, 110]⟩, ⟨#[112, 117, 116, 32, 49, 32, 97, 32, 120]⟩, ⟨#[99, 111, 109, 109, 105, 116, 32, 49]⟩] ∧ Lib.countB ⟨#[98, 101, 103, 105, 110, 10, 112, 117, 116, 32, 49, 32, 97, 32, 120, 10, 99, 111, 109, 109, 105, 116, 32, 49]⟩ ⟨#[10]⟩ + 1 = 3 := by decide +kernel
theorem NJ : Lib.splitB ⟨#[10]⟩ 0 (Lib.countB ⟨#[49, 57, 55, 50, 45, 48, 49, 45, 48, 49, 32, 49, 48, 10, 49, 57, 55, 50, 45, 48, 55, 45, 48, 49, 32, 49, 49, 10, 49, 57, 55, 51, 45, 48, 49, 45, 48, 49, 32, 49, 50, 10, 49, 57, 55, 52, 45, 48, 49, 45, 48, 49, 32, 49, 51, 10, 49, 57, 55, 53, 45, 48, 49, 45, 48, 49, 32, 49, 50, 10]⟩ ⟨#[10]⟩) ⟨#[49, 57, 55, 50, 45, 48, 49, 45, 48, 49, 32, 49, 48, 10, 49, 57, 55, 50, 45, 48, 55, 45, 48, 49, 32, 49, 49, 10, 49, 57, 55, 51, 45, 48, 49, 45, 48, 49, 32, 49, 50, 10, 49, 57, 55, 52, 45, 48, 49, 45, 48, 49, 32, 49, 51, 10, 49, 57, 55, 53, 45, 48, 49, 45, 48, 49, 32, 49, 50, 10]⟩ = [⟨#[49, 57, 55, 50, 45, 48, 49, 45, 48, 49, 32, 49, 48]⟩, ⟨#[49, 57, 55, 50, 45, 48, 55, 45, 48, 49, 32, 49, 49]⟩, ⟨#[49, 57, 55, 51, 45, 48, 49, 45, 48, 49, 32, 49, 50]⟩, ⟨#[49, 57, 55, 52, 45, 48, 49, 45, 48, 49, 32, 49, 51]⟩, ⟨#[49, 57, 55, 53, 45, 48, 49, 45, 48, 49, 32, 49, 50]⟩, ⟨#[]⟩] ∧ Lib.countB ⟨#[49, 57, 55, 50, 45, 48, 49, 45, 48, 49, 32, 49, 48, 10, 49, 57, 55, 50, 45, 48, 55, 45, 48, 49, 32, 49, 49, 10, 49, 57, 55, 51, 45, 48, 49, 45, 48, 49, 32, 49, 50, 10, 49, 57, 55, 52, 45, 48, 49, 45, 48, 49, 32, 49, 51, 10, 49, 57, 55, 53, 45, 48, 49, 45, 48, 49, 32, 49, 50, 10]⟩ ⟨#[10]⟩ + 1 = 6 := by decide +kernel
theorem UT (w : World) (m : Int) (hm : w.cell? ⟨0, 0, none⟩ = some (.int .i64 m)) :
   Calls Tryz.prog 58 #[.string ⟨#[98, 101, 103, 105, 110, 10, 112, 117, 116, 32, 49, 32, 97, 32, 120, 10, 99, 111, 109, 109, 105, 116, 32, 49]⟩, .string ⟨#[10]⟩] w fun e w' => ∃ sp, e = .returned (.slice (some ⟨sp, 0, none⟩) 3 3) ∧ w.heap.size ≤ sp ∧ Bk w' sp #[.string ⟨#[98, 101, 103, 105, 110]⟩, .string ⟨#[112, 117, 116, 32, 49, 32, 97, 32, 120]⟩, .string ⟨#[99, 111, 109, 109, 105, 116, 32, 49]⟩] 9 ∧ Below w.heap.size w w' :=
 (Tryz.strings_Split _ _ m w (by decide) hm (by decide)).mono fun e w' h => by
   rw [QW.1, QW.2] at h
   exact ⟨w.heap.size, h.1, Nat.le_refl _, h.2 ▸ Ob.new w _, h.2 ▸ Ah (Below.refl _ _) _⟩
theorem VD (w : World) (m : Int) (hm : w.cell? ⟨0, 0, none⟩ = some (.int .i64 m)) :
   Calls Tryz.prog 62 #[] w fun e w' => ∃ p, e = .returned (.pointer (some ⟨p, 0, none⟩)) ∧ Below w.heap.size w w' := by
 have hsp : Calls Tryz.prog 58 #[.string ⟨#[49, 57, 55, 50, 45, 48, 49, 45, 48, 49, 32, 49, 48, 10, 49, 57, 55, 50, 45, 48, 55, 45, 48, 49, 32, 49, 49, 10, 49, 57, 55, 51, 45, 48, 49, 45, 48, 49, 32, 49, 50, 10, 49, 57, 55, 52, 45, 48, 49, 45, 48, 49, 32, 49, 51, 10, 49, 57, 55, 53, 45, 48, 49, 45, 48, 49, 32, 49, 50, 10]⟩, .string ⟨#[10]⟩] w fun e w' => e = .returned (.slice (some ⟨w.heap.size, 0, none⟩) 6 6) ∧ w' = w.alloc (.cells #[.string ⟨#[49, 57, 55, 50, 45, 48, 49, 45, 48, 49, 32, 49, 48]⟩, .string ⟨#[49, 57, 55, 50, 45, 48, 55, 45, 48, 49, 32, 49, 49]⟩, .string ⟨#[49, 57, 55, 51, 45, 48, 49, 45, 48, 49, 32, 49, 50]⟩, .string ⟨#[49, 57, 55, 52, 45, 48, 49, 45, 48, 49, 32, 49, 51]⟩, .string ⟨#[49, 57, 55, 53, 45, 48, 49, 45, 48, 49, 32, 49, 50]⟩, .string ⟨#[]⟩] 9) :=
   (Tryz.strings_Split _ _ m w (by decide) hm (by decide)).mono fun e w' h => by rw [NJ.1, NJ.2] at h; exact h
 have hP := PX w _ m hm hsp
 clear hsp hm
 go_enter Tryz.func62, Tryz.ntmps62
 go_wp2_with (first
   | (go_at_call 112; refine hP.mono ?_; clear hP; rintro e w1 ⟨p, rfl, f1⟩; replace f1 := Aa.mk f1))
 go_returns
 exact ⟨p, rfl, f1.out⟩
structure B4 (b1 b2 b3 b4 : Nat) (W : World) : Prop where
 o1 : Bk W b1 #[.string ⟨#[97]⟩] 9
 o2 : Bk W b2 #[.string ⟨#[120]⟩] 9
 o3 : Bk W b3 #[.int .i64 1] 2
 o4 : Bk W b4 #[.bool false] 4
theorem B4.below {b1 b2 b3 b4 : Nat} {W W' : World} (h : B4 b1 b2 b3 b4 W) (f : Below W.heap.size W W') : B4 b1 b2 b3 b4 W' := ⟨h.o1.Ad f, h.o2.Ad f, h.o3.Ad f, h.o4.Ad f⟩
theorem B4.fr {b1 b2 b3 b4 r : Nat} {W W' : World} {D : Array Value} (h : B4 b1 b2 b3 b4 W) (hD : Bk W r D 124) (f : Fr (fun k => k = r) W W') : B4 b1 b2 b3 b4 W' := ⟨h.o1.fr f (h.o1.ne hD (by decide)), h.o2.fr f (h.o2.ne hD (by decide)), h.o3.fr f (h.o3.ne hD (by decide)), h.o4.fr f (h.o4.ne hD (by decide))⟩
theorem B4.app {sp n : Nat} {C : Array Value} {m : Int} {w0 W W' : World} {v : Value} {xs : List Value} {b1 b2 b3 b4 : Nat} (h : B4 b1 b2 b3 b4 W) (k : RL sp C m w0 v n xs W) (hg : W.grownBy W' v.ownBlock) : B4 b1 b2 b3 b4 W' := ⟨Gq h.o1 (by decide) k hg, Gq h.o2 (by decide) k hg, Gq h.o3 (by decide) k hg, Gq h.o4 (by decide) k hg⟩
structure AL (g mm s st ch b1 b2 b3 b4 bc : Nat) (cur : Array Value) (lv : Value) (W : World) : Prop where
 g : Bk W g cur 126
 m : Bk W mm #[.pointer (some ⟨s, 0, none⟩), lv] 134
 b : B4 b1 b2 b3 b4 W
 c : Bk W bc #[.int .i64 1] 2
 st : Bk W st #[.map (some ch)] 158
 ch : Mp W ch #[] 0
theorem AL.kp {g mm s st ch b1 b2 b3 b4 bc : Nat} {cur : Array Value} {lv : Value} {W W' : World} {T M : List Nat} (h : AL g mm s st ch b1 b2 b3 b4 bc cur lv W) (k : Kp T M W W') (hT : ∀ t ∈ [126, 134, 9, 2, 4, 158], t ∉ T) (hM : ch ∉ M) : AL g mm s st ch b1 b2 b3 b4 bc cur lv W' :=
 ⟨k.1 _ _ _ h.g (hT 126 (by decide)), k.1 _ _ _ h.m (hT 134 (by decide)), ⟨k.1 _ _ _ h.b.o1 (hT 9 (by decide)), k.1 _ _ _ h.b.o2 (hT 9 (by decide)), k.1 _ _ _ h.b.o3 (hT 2 (by decide)), k.1 _ _ _ h.b.o4 (hT 4 (by decide))⟩, k.1 _ _ _ h.c (hT 2 (by decide)), k.1 _ _ _ h.st (hT 158 (by decide)), k.2 _ _ _ h.ch hM⟩
theorem U5 : (([] ++ Lib.strCells ((⟨#[49]⟩ : ByteArray) ++ ⟨#[10]⟩)) ++ Lib.strCells ((⟨#[111, 107]⟩ : ByteArray) ++ ⟨#[10]⟩)) ++ Lib.strCells ((⟨#[49, 46, 48]⟩ : ByteArray) ++ ⟨#[10]⟩) = Lib.byteCells [49, 10, 111, 107, 10, 49, 46, 48, 10] := by kernel_rfl
end Go.Proofs.YtchfmgbjddopoaaGreatDoor.Hand
namespace Go.Proofs.YtchfmgbjddopoaaGreatDoor.Hand
open Go.RowKit Go.Proofs.YtchfmgbjddopoaaGreatDoorW.PrintWords Go.Proofs.YtchfmgbjddopoaaGreatDoorW.PrintLast Go.Proofs.YtchfmgbjddopoaaGreatDoorW.PrintMore
attribute [local go_sem ↓] Go.wp_at_zero Go.wp_at_succ
theorem Y3 (w : World) (m : Int) (hm : w.cell? ⟨0, 0, none⟩ = some (.int .i64 m)) :
   Calls Tryz.prog 21 #[.string ⟨#[98, 101, 103, 105, 110, 10, 112, 117, 116, 32, 49, 32, 97, 32, 120, 10, 99, 111, 109, 109, 105, 116, 32, 49]⟩] w fun e w' => e = .returned (.tuple #[.string ⟨#[49, 10, 111, 107, 10, 49, 46, 48, 10]⟩, .int .i64 0]) ∧ Below w.heap.size w w' := by
 have hq := UT w m hm
 obtain ⟨i0, hi, hz0, hz1, hz2⟩ := info_parts Zq
 replace hi := Aa.mk hi
 replace hz0 := Aa.mk hz0
 replace hz1 := Aa.mk hz1
 replace hz2 := Aa.mk hz2
 replace hm := Aa.mk hm
 go_enter Tryz.func21, Tryz.ntmps21
 go_wp2_with (first
   | (go_at_call 58; refine hq.mono ?_; clear hq; rintro e w0 ⟨sp, rfl, hsp, bS, fS⟩; replace hsp := Aa.mk hsp; replace bS := Aa.mk bS; replace fS := Aa.mk fS; have c2 : w0.cell? ⟨sp, 2, none⟩ = some (.string ⟨#[99, 111, 109, 109, 105, 116, 32, 49]⟩) := Bk.cell bS.out rfl))
 clear c2
 have r0 : Aa (RL sp #[.string ⟨#[98, 101, 103, 105, 110]⟩, .string ⟨#[112, 117, 116, 32, 49, 32, 97, 32, 120]⟩, .string ⟨#[99, 111, 109, 109, 105, 116, 32, 49]⟩] m w0 (.slice none 0 0) 0 [] w0) := ⟨⟨bS.out, World.ownsRow_nil _ _ _ _, Below.refl _ _, bS.out.lt, cell0 hm.out fS.out⟩⟩
 refine wp_loop_rounds 4 ?_
 have c0 : w0.cell? ⟨sp, 0, none⟩ = some (.string ⟨#[98, 101, 103, 105, 110]⟩) := Bk.cell r0.out.rows rfl
 rw [rounds_succ]
 go_wp2_with (first
   | (go_at_call 59; refine (PL _ m r0.out.m0).mono ?_; rintro e a0 ⟨g0, cap0, rfl, hg0, ho0, fw⟩; have ra0 := Aa.mk (r0.out.below fw); obtain ⟨_, ⟨cur0, hcur0, hc0⟩, k0, rfl⟩ := Lj (by decide) ho0; replace hcur0 := Aa.mk hcur0; replace hc0 := Aa.mk hc0; clear ho0 fw hg0 c0)
   | ((with_reducible refine Ac (N := 45) rfl ?_); refine Aj (N := 45) (C := RdC g0 0 1 (k0 + 1)) rfl rfl (by first | (go_simp; done) | (go_simp; rfl)) ?_; intro rd0 b0w hrd0 R0 fb0; have rb0 := Aa.mk (ra0.out.below fb0.out); have G0 := Aa.mk (hcur0.out.Ad fb0.out); have ne0 : Aa (g0 ≠ rd0) := ⟨by have := hcur0.out.lt; have := hrd0.out; omega⟩; have z0 := Bk.cell R0.out (j := 0) rfl)
   | (go_at_call 60; refine (SQ _ rd0 g0 k0 cur0 R0.out G0.out (hc0.out 0 _ rfl)).mono ?_; rintro e d0 ⟨rfl, ⟨o0, hr0⟩, fl0⟩; have rd0d := Aa.mk (RL.newer ra0.out rb0.out R0.out fl0 hrd0.out); clear fl0 z0; have z0 := Bk.cell hr0 (j := 0) rfl; have z1 := Bk.cell hr0 (j := 1) rfl; clear hr0)
   | ((with_reducible refine Ac (N := 68) rfl ?_); refine Cb (N := 68) (n := 1) (C := #[.func (.func 98) #[] #[]]) rfl rfl (by first | (go_simp; done) | (go_simp; rfl)) ?_; intro q0 u0 hq0 bq0 fq0; have rq0 := Aa.mk (rd0d.out.below fq0.out); have hn0 := Aa.mk (one_cell bq0.out); clear z0 z1)
   | (at_builtin
      refine wpList_append_lies _ rfl (.tmp 66) (.tmp 68) 120 rfl w0.heap.size 126 i0 _ 1 8 Tryz.underlying120 hi.out hz0.out hz1.out hz2.out rfl (by decide) (.slice none 0 0) 0 [] rfl rq0.out.own ⟨q0, 0, none⟩ 1 1 [.func (.func 98) #[] #[]] rfl rfl hn0.out (by simp [Value.oneCell']) (by decide) (by simp [maxLen]) (by simp) rq0.out.fr.size _ rfl ?_
      intro l1 n1 p1 ho hg hat hlt
      have r1 : Aa (RL sp #[.string ⟨#[98, 101, 103, 105, 110]⟩, .string ⟨#[112, 117, 116, 32, 49, 32, 97, 32, 120]⟩, .string ⟨#[99, 111, 109, 109, 105, 116, 32, 49]⟩] m w0 (.slice (some ⟨l1, 0, none⟩) 1 n1) 1 [.func (.func 98) #[] #[]] p1) := ⟨rq0.out.app ho hg⟩
      clear ho hg hat hlt))
 have c1 : p1.cell? ⟨sp, 1, none⟩ = some (.string ⟨#[112, 117, 116, 32, 49, 32, 97, 32, 120]⟩) := Bk.cell r1.out.rows rfl
 rw [rounds_succ]
 go_wp2_with (first
   | (go_at_call 59; refine (UI _ m r1.out.m0).mono ?_; rintro e a1 ⟨g1, cap1, rfl, hg1, ho1, fw⟩; have ra1 := Aa.mk (r1.out.below fw); obtain ⟨_, ⟨cur1, hcur1, hc1⟩, k1, rfl⟩ := Lj (by decide) ho1; replace hcur1 := Aa.mk hcur1; replace hc1 := Aa.mk hc1; clear ho1 fw hg1 c1)
   | ((with_reducible refine Ac (N := 45) rfl ?_); refine Aj (N := 45) (C := RdC g1 0 4 (k1 + 4)) rfl rfl (by first | (go_simp; done) | (go_simp; rfl)) ?_; intro rd1 b1w hrd1 R1 fb1; have rb1 := Aa.mk (ra1.out.below fb1.out); have G1 := Aa.mk (hcur1.out.Ad fb1.out); have ne1 : Aa (g1 ≠ rd1) := ⟨by have := hcur1.out.lt; have := hrd1.out; omega⟩; have z0 := Bk.cell R1.out (j := 0) rfl)
   | (go_at_call 60; refine (V3 _ rd1 g1 k1 cur1 ne1.out R1.out G1.out (hc1.out 0 _ rfl) (hc1.out 1 _ rfl) (hc1.out 2 _ rfl) (hc1.out 3 _ rfl)).mono ?_; rintro e d1 ⟨b1, b2, b3, b4, rfl, ⟨o1, hr1⟩, q1, q2, q3, q4, fl1⟩; have B1 : Aa (B4 b1 b2 b3 b4 d1) := ⟨⟨q1, q2, q3, q4⟩⟩; clear q1 q2 q3 q4; have rd1d := Aa.mk (RL.newer ra1.out rb1.out R1.out fl1 hrd1.out); clear fl1 z0; have z0 := Bk.cell hr1 (j := 0) rfl; have z1 := Bk.cell hr1 (j := 1) rfl; clear hr1)
   | ((with_reducible refine Ac (N := 68) rfl ?_); refine Cb (N := 68) (n := 1) (C := #[.func (.func 153) #[] #[.pointer (some ⟨b1, 0, none⟩), .pointer (some ⟨b2, 0, none⟩), .pointer (some ⟨b3, 0, none⟩), .pointer (some ⟨b4, 0, none⟩)]]) rfl rfl (by first | (go_simp; done) | (go_simp; rfl)) ?_; intro q1 u1 hq1 bq1 fq1; have rq1 := Aa.mk (rd1d.out.below fq1.out); have hn1 := Aa.mk (one_cell bq1.out); have B1q := Aa.mk (B1.out.below fq1.out); clear z0 z1)
   | (at_builtin
      refine wpList_append_lies _ rfl (.tmp 66) (.tmp 68) 120 rfl w0.heap.size 126 i0 _ 1 8 Tryz.underlying120 hi.out hz0.out hz1.out hz2.out rfl (by decide) (.slice (some ⟨l1, 0, none⟩) 1 n1) 1 [.func (.func 98) #[] #[]] rfl rq1.out.own ⟨q1, 0, none⟩ 1 1 [.func (.func 153) #[] #[.pointer (some ⟨b1, 0, none⟩), .pointer (some ⟨b2, 0, none⟩), .pointer (some ⟨b3, 0, none⟩), .pointer (some ⟨b4, 0, none⟩)]] rfl rfl hn1.out (by simp [Value.oneCell']) (by decide) (by simp [maxLen]) (by simp) rq1.out.fr.size _ rfl ?_
      intro l2 n2 p2 ho hg hat hlt
      have r2 : Aa (RL sp #[.string ⟨#[98, 101, 103, 105, 110]⟩, .string ⟨#[112, 117, 116, 32, 49, 32, 97, 32, 120]⟩, .string ⟨#[99, 111, 109, 109, 105, 116, 32, 49]⟩] m w0 (.slice (some ⟨l2, 0, none⟩) 2 n2) 2 [.func (.func 98) #[] #[], .func (.func 153) #[] #[.pointer (some ⟨b1, 0, none⟩), .pointer (some ⟨b2, 0, none⟩), .pointer (some ⟨b3, 0, none⟩), .pointer (some ⟨b4, 0, none⟩)]] p2) := ⟨rq1.out.app ho hg⟩
      have Bx1 := Aa.mk (B1q.out.app rq1.out hg)
      clear ho hg hat hlt))
 have c2 : p2.cell? ⟨sp, 2, none⟩ = some (.string ⟨#[99, 111, 109, 109, 105, 116, 32, 49]⟩) := Bk.cell r2.out.rows rfl
 rw [rounds_succ]
 go_wp2_with (first
   | (go_at_call 59; refine (Ol _ m r2.out.m0).mono ?_; rintro e a2 ⟨g2, cap2, rfl, hg2, ho2, fw⟩; have ra2 := Aa.mk (r2.out.below fw); have B2a := Aa.mk (Bx1.out.below fw); obtain ⟨_, ⟨cur2, hcur2, hc2⟩, k2, rfl⟩ := Lj (by decide) ho2; replace hcur2 := Aa.mk hcur2; replace hc2 := Aa.mk hc2; clear ho2 fw hg2 c2)
   | ((with_reducible refine Ac (N := 45) rfl ?_); refine Aj (N := 45) (C := RdC g2 0 2 (k2 + 2)) rfl rfl (by first | (go_simp; done) | (go_simp; rfl)) ?_; intro rd2 b2w hrd2 R2 fb2; have rb2 := Aa.mk (ra2.out.below fb2.out); have G2 := Aa.mk (hcur2.out.Ad fb2.out); have ne2 : Aa (g2 ≠ rd2) := ⟨by have := hcur2.out.lt; have := hrd2.out; omega⟩; have B2b := Aa.mk (B2a.out.below fb2.out); have z0 := Bk.cell R2.out (j := 0) rfl)
   | (go_at_call 60; refine (Qb _ rd2 g2 k2 cur2 ne2.out R2.out G2.out (hc2.out 0 _ rfl) (hc2.out 1 _ rfl)).mono ?_; rintro e d2 ⟨bc, rfl, ⟨o2, hr2⟩, q1, fl2⟩; have K2 := Aa.mk q1; clear q1; have B2d := Aa.mk (B2b.out.fr R2.out fl2); have rd2d := Aa.mk (RL.newer ra2.out rb2.out R2.out fl2 hrd2.out); clear fl2 z0; have z0 := Bk.cell hr2 (j := 0) rfl; have z1 := Bk.cell hr2 (j := 1) rfl; clear hr2)
   | ((with_reducible refine Ac (N := 68) rfl ?_); refine Cb (N := 68) (n := 1) (C := #[.func (.func 155) #[] #[.pointer (some ⟨bc, 0, none⟩)]]) rfl rfl (by first | (go_simp; done) | (go_simp; rfl)) ?_; intro q2 u2 hq2 bq2 fq2; have rq2 := Aa.mk (rd2d.out.below fq2.out); have hn2 := Aa.mk (one_cell bq2.out); have B2q := Aa.mk (B2d.out.below fq2.out); have K2q := Aa.mk (K2.out.Ad fq2.out); clear z0 z1)
   | (at_builtin
      refine wpList_append_lies _ rfl (.tmp 66) (.tmp 68) 120 rfl w0.heap.size 126 i0 _ 1 8 Tryz.underlying120 hi.out hz0.out hz1.out hz2.out rfl (by decide) (.slice (some ⟨l2, 0, none⟩) 2 n2) 2 [.func (.func 98) #[] #[], .func (.func 153) #[] #[.pointer (some ⟨b1, 0, none⟩), .pointer (some ⟨b2, 0, none⟩), .pointer (some ⟨b3, 0, none⟩), .pointer (some ⟨b4, 0, none⟩)]] rfl rq2.out.own ⟨q2, 0, none⟩ 1 1 [.func (.func 155) #[] #[.pointer (some ⟨bc, 0, none⟩)]] rfl rfl hn2.out (by simp [Value.oneCell']) (by decide) (by simp [maxLen]) (by simp) rq2.out.fr.size _ rfl ?_
      intro l3 n3 p3 ho hg hat hlt
      have r3 : Aa (RL sp #[.string ⟨#[98, 101, 103, 105, 110]⟩, .string ⟨#[112, 117, 116, 32, 49, 32, 97, 32, 120]⟩, .string ⟨#[99, 111, 109, 109, 105, 116, 32, 49]⟩] m w0 (.slice (some ⟨l3, 0, none⟩) 3 n3) 3 [.func (.func 98) #[] #[], .func (.func 153) #[] #[.pointer (some ⟨b1, 0, none⟩), .pointer (some ⟨b2, 0, none⟩), .pointer (some ⟨b3, 0, none⟩), .pointer (some ⟨b4, 0, none⟩)], .func (.func 155) #[] #[.pointer (some ⟨bc, 0, none⟩)]] p3) := ⟨rq2.out.app ho hg⟩
      have Bx2 := Aa.mk (B2q.out.app rq2.out hg)
      have Kx2 := Aa.mk (Gq K2q.out (by decide) rq2.out hg)
      clear ho hg hat hlt))
 obtain ⟨_, ⟨cur, hcur, hcc⟩, _⟩ := Lj (by decide) r3.out.own
 replace hcur := Aa.mk hcur
 replace hcc := Aa.mk hcc
 have F0 : Aa (Below w.heap.size w p3) := ⟨fS.out.trans (r3.out.fr.mono fS.out.size)⟩
 rw [rounds_succ]
 go_wp2_with (first
   | (go_at_call 61; refine (VK _).mono ?_; rintro e A1 ⟨s, st, l, ch, rfl, hs, hst, hl, hch, hsst, qs, qst, ql, qch, hlch, f1⟩; replace hs := Aa.mk hs; replace hl := Aa.mk hl; replace hch := Aa.mk hch; replace qs := Aa.mk qs; replace qst := Aa.mk qst; replace ql := Aa.mk ql; replace qch := Aa.mk qch; replace hlch := Aa.mk hlch; replace f1 := Aa.mk f1; have mA1 := Aa.mk (cell0 r3.out.m0 f1.out); clear hst hsst)
   | (go_at_call 62; refine (VD _ m mA1.out).mono ?_; rintro e A2 ⟨tp, rfl, f2⟩; replace f2 := Aa.mk f2)
   | ((with_reducible refine Ac (N := 74) rfl ?_); refine Aj (N := 74) (C := #[.pointer (some ⟨s, 0, none⟩), .pointer (some ⟨tp, 0, none⟩)]) rfl rfl (by first | (go_simp; done) | (go_simp; rfl)) ?_; intro mm A3 hmm qm f3)
   | ((with_reducible refine Ac (N := 11) rfl ?_); refine Aj (N := 11) (C := #[.pointer none, .slice none 0 0]) rfl rfl (by first | (go_simp; done) | (go_simp; rfl)) ?_; intro bb A4 hbb qb f4))
 have k1 := Kp.of_below f1.out
 have k2 := Kp.of_below f2.out
 have k3 := Kp.of_below f3.out
 have k4 := Kp.of_below f4.out
 have up : ∀ k D t, Bk p3 k D t → Bk A4 k D t := fun k D t h => k4.1 _ _ _ (k3.1 _ _ _ (k2.1 _ _ _ (k1.1 _ _ _ h (by simp)) (by simp)) (by simp)) (by simp)
 have up1 : ∀ k D t, Bk A1 k D t → Bk A4 k D t := fun k D t h => k4.1 _ _ _ (k3.1 _ _ _ (k2.1 _ _ _ h (by simp)) (by simp)) (by simp)
 have upm : ∀ k es c, Mp A1 k es c → Mp A4 k es c := fun k es c h => k4.2 _ _ _ (k3.2 _ _ _ (k2.2 _ _ _ h (by simp)) (by simp)) (by simp)
 have L0 : Aa (AL l3 mm s st ch b1 b2 b3 b4 bc cur (.pointer (some ⟨tp, 0, none⟩)) A4) := ⟨up _ _ _ hcur.out, k4.1 _ _ _ qm.out (by simp), ⟨up _ _ _ Bx2.out.o1, up _ _ _ Bx2.out.o2, up _ _ _ Bx2.out.o3, up _ _ _ Bx2.out.o4⟩, up _ _ _ Kx2.out, up1 _ _ _ qst.out, upm _ _ _ qch.out⟩
 have S0 := Aa.mk (up1 _ _ _ qs.out)
 have M0 := Aa.mk (upm _ _ _ ql.out)
 have z0 := F0.out.size
 have z1 := f1.out.size
 have z2 := f2.out.size
 have z3 := f3.out.size
 have z4 := f4.out.size
 have z5 := hs.out
 have z6 := hl.out
 have z7 := hch.out
 have z8 := hbb.out
 have z9 := qb.out.lt
 have hsz : Aa (w.heap.size ≤ A4.heap.size ∧ w.heap.size ≤ s ∧ w.heap.size ≤ l ∧ w.heap.size ≤ ch ∧ w.heap.size ≤ bb ∧ bb ≤ A4.heap.size) := ⟨by omega⟩
 have FA : Aa (Below w.heap.size w A4) := ⟨F0.out.trans ((f1.out.mono (by omega)).trans ((f2.out.mono (by omega)).trans ((f3.out.mono (by omega)).trans (f4.out.mono (by omega)))))⟩
 have I0 : Aa (Lib.BuilderAtF 137 5 bb bb (.pointer none) [] A4) := ⟨⟨Nat.le_refl _, .slice none 0 0, qb.out, ⟨rfl, .inl ⟨rfl, rfl⟩⟩, by simp [Value.ownBlock]⟩⟩
 clear k1 k2 k3 k4 up up1 upm z0 z1 z2 z3 z4 z5 z6 z7 z8 z9
 refine wp_loop_rounds 4 ?_
 have c0 : A4.cell? ⟨l3, 0, none⟩ = some (.func (.func 98) #[] #[]) := Bk.cell L0.out.g (hcc.out 0 _ rfl)
 rw [rounds_succ]
 go_wp2_with (first
   | (go_at_call 98
      refine (Vs _ mm s st l _ L0.out.m S0.out M0.out (S0.out.neM M0.out)).mono ?_
      rintro e D0 ⟨rfl, x, mw, hx, hmw, hxm, s1, l1, x1, m1, fr⟩
      have K := Kp.ZX fr S0.out M0.out
      have L1 := Aa.mk (L0.out.kp K (by decide) (by simpa using Ne.symm hlch.out))
      have J0 := Aa.mk (Uh I0.out fr (fun k hk => by
        rcases hk with rfl | rfl
        · exact .inl ⟨_, _, S0.out, by decide, by decide⟩
        · exact .inr ⟨_, _, M0.out⟩))
      have G0 : Aa (Below w.heap.size w D0) := ⟨FA.out.trans (fr.below (fun k hk e => by have := hsz.out; omega) hsz.out.1)⟩
      have x0 : Aa ((A4.heap.size ≤ x ∧ A4.heap.size ≤ mw) ∧ x ≠ mw) := ⟨⟨⟨hx, hmw⟩, hxm⟩⟩
      have hd0 := Aa.mk fr.size
      replace s1 := Aa.mk s1
      replace l1 := Aa.mk l1
      replace x1 := Aa.mk x1
      replace m1 := Aa.mk m1
      clear K hx hmw hxm fr c0)
   | (go_at_call 63
      refine (PH bb bb _ _ _ (.inl J0.out) (by decide +kernel) (by have := hsz.out; have := hd0.out; omega)).mono ?_
      rintro e E0 ⟨rfl, hb, fb, fo⟩
      have hE0 := Aa.mk fb.size
      obtain ⟨_, vb, hvb, _⟩ := id J0.out
      have K := Kp.others fo hvb
      have I1 := Aa.mk hb
      have L2 := Aa.mk (L1.out.kp K (by decide) (by simp))
      have s2 := Aa.mk (K.1 _ _ _ s1.out (by decide))
      have l2 := Aa.mk (K.2 _ _ _ l1.out (by simp))
      have x2 := Aa.mk (K.1 _ _ _ x1.out (by decide))
      have m2 := Aa.mk (K.2 _ _ _ m1.out (by simp))
      have H0 : Aa (Below w.heap.size w E0) := ⟨G0.out.trans (fb.mono hsz.out.2.2.2.2.1)⟩
      clear K hb fb fo hvb))
 have c1 : E0.cell? ⟨l3, 1, none⟩ = some (.func (.func 153) #[] #[.pointer (some ⟨b1, 0, none⟩), .pointer (some ⟨b2, 0, none⟩), .pointer (some ⟨b3, 0, none⟩), .pointer (some ⟨b4, 0, none⟩)]) := Bk.cell L2.out.g (hcc.out 1 _ rfl)
 rw [rounds_succ]
 go_wp2_with (first
   | (go_at_call 153
      refine (XC _ mm s st l x mw b1 b2 b3 b4 _ ⟨L2.out.m, L2.out.b.o1, L2.out.b.o2, L2.out.b.o3, L2.out.b.o4⟩ s2.out l2.out x2.out m2.out).mono ?_
      rintro e D1 ⟨rfl, m3, fr⟩
      have K := Kp.fr_m fr m2.out
      have hchm : ch ≠ mw := by have := L0.out.ch.lt; have := x0.out; omega
      have hlm : l ≠ mw := by have := M0.out.lt; have := x0.out; omega
      have L3 := Aa.mk (L2.out.kp K (by decide) (by simpa using hchm))
      have J1 := Aa.mk (Uh I1.out fr (fun k hk => by
        subst hk
        exact .inr ⟨_, _, m2.out⟩))
      have s3 := Aa.mk (K.1 _ _ _ s2.out (by decide))
      have l3' := Aa.mk (K.2 _ _ _ l2.out (by simpa using hlm))
      have x3 := Aa.mk (K.1 _ _ _ x2.out (by decide))
      have G1 : Aa (Below w.heap.size w D1) := ⟨H0.out.trans (fr.below (fun k hk e => by have := hsz.out; have := x0.out; omega) (by have := hsz.out; have := hd0.out; have := hE0.out; omega))⟩
      have hd1 := Aa.mk fr.size
      replace m3 := Aa.mk m3
      clear K hchm hlm fr c1)
   | (go_at_call 63
      refine (PH bb bb _ _ _ (.inr J1.out) (by decide +kernel) (by have := hsz.out; have := hd0.out; have := hE0.out; have := hd1.out; omega)).mono ?_
      rintro e E1 ⟨rfl, hb, fb, fo⟩
      have hE1 := Aa.mk fb.size
      obtain ⟨_, vb, hvb, _⟩ := id J1.out
      have K := Kp.others fo hvb
      have I2 := Aa.mk hb
      have L4 := Aa.mk (L3.out.kp K (by decide) (by simp))
      have s4 := Aa.mk (K.1 _ _ _ s3.out (by decide))
      have l4 := Aa.mk (K.2 _ _ _ l3'.out (by simp))
      have x4 := Aa.mk (K.1 _ _ _ x3.out (by decide))
      have m4 := Aa.mk (K.2 _ _ _ m3.out (by simp))
      have H1 : Aa (Below w.heap.size w E1) := ⟨G1.out.trans (fb.mono hsz.out.2.2.2.2.1)⟩
      clear K hb fb fo hvb))
 have c2 : E1.cell? ⟨l3, 2, none⟩ = some (.func (.func 155) #[] #[.pointer (some ⟨bc, 0, none⟩)]) := Bk.cell L4.out.g (hcc.out 2 _ rfl)
 rw [rounds_succ]
 go_wp2_with (first
   | (go_at_call 155
      refine (SB _ mm s st l ch x mw bc _ L4.out.m L4.out.c ⟨s4.out, L4.out.st, L4.out.ch, l4.out, x4.out, m4.out⟩).mono ?_
      rintro e D2 ⟨rfl, fr⟩
      have J2 := Aa.mk (Uh I2.out fr (fun k hk => by
        rcases hk with rfl | rfl | rfl
        · exact .inr ⟨_, _, l4.out⟩
        · exact .inr ⟨_, _, L4.out.ch⟩
        · exact .inl ⟨_, _, s4.out, by decide, by decide⟩))
      have G2 : Aa (Below w.heap.size w D2) := ⟨H1.out.trans (fr.below (fun k hk e => by have := hsz.out; omega) (by have := hsz.out; have := hd0.out; have := hE0.out; have := hd1.out; have := hE1.out; omega))⟩
      have hd2 := Aa.mk fr.size
      clear fr c2)
   | (go_at_call 63
      refine (PH bb bb _ _ _ (.inr J2.out) (by decide +kernel) (by have := hsz.out; have := hd0.out; have := hE0.out; have := hd1.out; have := hE1.out; have := hd2.out; omega)).mono ?_
      rintro e E2 ⟨rfl, hb, fb, fo⟩
      have hE2 := Aa.mk fb.size
      have I3 := Aa.mk (U5 ▸ hb)
      have H2 : Aa (Below w.heap.size w E2) := ⟨G2.out.trans (fb.mono hsz.out.2.2.2.2.1)⟩
      clear hb fb fo))
 rw [rounds_succ]
 go_wp2_with (first
   | (go_at_call 64
      refine (WJ bb bb [49, 10, 111, 107, 10, 49, 46, 48, 10] _ (.inr I3.out) (by have := hsz.out; have := hd0.out; have := hE0.out; have := hd1.out; have := hE1.out; have := hd2.out; have := hE2.out; omega)).mono ?_
      rintro e Z ⟨rfl, fz⟩
      replace fz := Aa.mk fz))
 go_returns
 exact ⟨rfl, H2.out.trans (fz.out.mono hsz.out.2.2.2.2.1)⟩
end Go.Proofs.YtchfmgbjddopoaaGreatDoor.Hand
end
