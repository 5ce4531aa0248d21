import Derived.Test.YtchfmgbjddopoaaGreatDoorM05
import Derived.Test.YtchfmgbjddopoaaGreatDoorM12
import Derived.Test.YtchfmgbjddopoaaGreatDoorM15
set_option linter.unusedVariables false
set_option linter.unusedSimpArgs false
set_option maxHeartbeats 6400000
set_option maxRecDepth 100000
namespace Go.Proofs.YtchfmgbjddopoaaGreatDoor.Hand
open Go.RowKit Go.Proofs.YtchfmgbjddopoaaGreatDoorW.PrintWords Go.Proofs.YtchfmgbjddopoaaGreatDoorW.PrintLast Go.Proofs.YtchfmgbjddopoaaGreatDoorW.PrintMore
attribute [local go_sem ↓] Go.wp_at_zero Go.wp_at_succ
open Plain (Ky Wr Rc Ver Ent St Bytes ltS GU)
theorem PE {α : Type} [Inhabited α] (enc : α → List Value) (k : Nat) (hk : ∀ x, (enc x).length = k) : ∀ (l : List α) (j : Nat) (u : Value), (l.flatMap enc)[j]? = some u → ∃ i r, i < l.length ∧ j = i * k + r ∧ (enc l[i]!)[r]? = some u
 | [], j, u, h => by simp at h
 | x :: l, j, u, h => by
   rw [List.flatMap_cons] at h
   by_cases hj : j < k
   · rw [List.getElem?_append_left (by rw [hk]; exact hj)] at h
     exact ⟨0, j, by simp, by omega, h⟩
   · rw [List.getElem?_append_right (by rw [hk]; omega), hk] at h
     obtain ⟨i, r, h1, h2, h3⟩ := PE enc k hk l (j - k) u h
     exact ⟨i + 1, r, by simpa using h1, by rw [Nat.add_mul]; omega, h3⟩
theorem Dx {α : Type} (enc : α → List Value) (k : Nat) (hk : ∀ x, (enc x).length = k) : ∀ l : List α, (l.flatMap enc).length = l.length * k
 | [] => by simp
 | x :: l => by
   rw [List.flatMap_cons, List.length_append, hk, Dx enc k hk l, List.length_cons, Nat.add_mul]
   omega
theorem XA (w : World) : (Go.sizeOf 116).run Tryz.prog w = .ok 4 w := by
 obtain ⟨i, h1, _, h3, _⟩ := info_parts Lm
 simp [Go.sizeOf, typeInfo, h1, h3]
theorem Uo (w : World) : (Go.sizeOf 105).run Tryz.prog w = .ok 18 w := by
 obtain ⟨i, h1, _, h3, _⟩ := info_parts Pz
 simp [Go.sizeOf, typeInfo, h1, h3]
theorem WF (w : World) (v : Value) (vs : List Ver) (h : GV w v vs) (hn : vs.length ≤ 1000) : Calls Tryz.prog 133 #[v] w fun e w' => ∃ v', e = .returned v' ∧ w'.ownsRow w.heap.size 116 4 v' vs.length (vs.flatMap En) ∧ Below w.heap.size w w' := by
 rcases h.2 with ⟨rfl, h0⟩ | ⟨g, cap, cur, rfl, _, hh, hc, hm, hs, ht⟩
 · refine (AnyE.slices_Clone_nil Tryz.Fj 0 0 w).mono ?_
   rintro e w' ⟨rfl, rfl⟩
   have : vs = [] := List.eq_nil_of_length_eq_zero h0
   subst this
   exact ⟨_, rfl, World.ownsRow_nil _ _ _ _, Below.refl _ _⟩
 · obtain ⟨i0, hi, hz0, hz1, hz2⟩ := info_parts Lm
   refine (AnyE.slices_Clone Tryz.Fj i0 (.agg V0) 4 40 hi hz0 hz1 hz2 rfl (by decide) XA g 0 vs.length cap (vs.flatMap En) w (Dx En 4 BZ vs) (by simp only [maxLen]; omega) (by omega) (fun j u hu => ?_) (fun u hu => ?_)).mono ?_
   · have := h.cells rfl j u hu
     rwa [Addr.add_mid] at this
   · obtain ⟨x, _, hx⟩ := List.mem_flatMap.1 hu
     exact LH x u hx
   · rintro e w' ⟨v', rfl, h1, _, h2⟩
     exact ⟨v', rfl, h1, h2⟩
theorem WE (w : World) (A : Option Addr) (n c : Nat) (ws : List Wr) (h : Eo w (.slice A n c) ws) (h0 : 0 < ws.length) (hn : ws.length ≤ 1000) : Calls Tryz.prog 178 #[.slice A n c] w fun e w' => ∃ v', e = .returned v' ∧ Hz w' w.heap.size v' ws ∧ Below w.heap.size w w' := by
 obtain ⟨b, o, rfl, rfl, hc, hb, hr⟩ := h.at_ h0
 obtain ⟨i0, hi, hz0, hz1, hz2⟩ := info_parts Pz
 refine (AnyE.slices_Clone Tryz.Fh i0 (.agg Z18) 18 40 hi hz0 hz1 hz2 rfl (by decide) Uo b o ws.length c (ws.flatMap wrC) w (Dx wrC 18 Bg ws) (by simp only [maxLen]; omega) (by omega) (fun j u hu => ?_) (fun u hu => ?_)).mono ?_
 · obtain ⟨i, r, hi', rfl, hu'⟩ := PE wrC 18 Bg ws j u hu
   have := hr i hi' r u hu'
   rwa [Nat.add_assoc] at this
 · obtain ⟨x, _, hx⟩ := List.mem_flatMap.1 hu
   exact Pi x u hx
 · rintro e w' ⟨v', rfl, h1, _, h2⟩
   exact ⟨v', rfl, h1, h2⟩
theorem Js (w : World) (c : Nat) (v : Value) (vs : List Ver) (h : Lc w c v vs) (hn : vs.length ≤ 1000) : Calls Tryz.prog 93 #[.pointer (some ⟨c, 0, none⟩)] w fun e w' => ∃ v', e = .returned v' ∧ w'.ownsRow w.heap.size 116 4 v' vs.length (vs.flatMap En) ∧ Below w.heap.size w w' := by
 have c0 : w.cell? ⟨c, 0, none⟩ = some v := Bk.cell h.c rfl
 have hC := WF w v vs h.v hn
 clear h
 go_enter Tryz.func93, Tryz.ntmps93
 go_wp2_with (first
   | (go_at_call 133; refine hC.mono ?_; clear hC; rintro e w1 ⟨v', rfl, h1, f1⟩; replace h1 := Aa.mk h1; replace f1 := Aa.mk f1))
 go_returns
 exact ⟨v', rfl, h1.out, f1.out⟩
theorem Nl (w : World) (c : Nat) (v : Value) (vs : List Ver) (x : Ver) (h : Lc w c v vs) (hn : vs.length ≤ 1000) (hx : vs.getLast? = some x) : Calls Tryz.prog 224 #[.pointer (some ⟨c, 0, none⟩)] w fun e w' => e = .returned (.tuple #[.agg (En x).toArray, .bool true]) ∧ Below w.heap.size w w' := by
 obtain ⟨ys, hys⟩ := List.getLast?_eq_some_iff.1 hx
 have hl : 0 < vs.length := by rw [hys]; simp
 have hlast : vs[vs.length - 1]! = x := by rw [hys]; simp
 have hr := h.v.row
 obtain ⟨A, cp, rfl⟩ := hr.slice
 obtain ⟨b, o, rfl, _, hc, hb, hrr⟩ := hr.at_ hl
 replace hrr := hrr (vs.length - 1) (by omega)
 rw [hlast] at hrr
 obtain ⟨N, hN⟩ : ∃ N, N = vs.length - 1 := ⟨_, rfl⟩
 have hN2 : vs.length = N + 1 := by omega
 rw [hN2] at h hc hn
 rw [← hN] at hrr
 obtain ⟨t, n, val, gone⟩ := x
 replace hrr := Aa.mk hrr
 replace h := Aa.mk h
 replace hb := Aa.mk hb
 clear hN hN2 hlast hys hx hr hl
 show Calls Tryz.prog 224 #[.pointer (some ⟨c, 0, none⟩)] w fun e w' => e = .returned (.tuple #[.agg #[.int .i64 t, .int .u8 n, .string val, .bool gone], .bool true]) ∧ Below w.heap.size w w'
 go_enter Tryz.func224, Tryz.ntmps224
 go_wp2_with (first
   | ((with_reducible refine Ac (N := 2) rfl ?_); refine Aj (N := 2) (C := V0) rfl rfl (by first | (go_simp; done) | (go_simp; rfl)) ?_; intro g2 w1 h2x b2 f1; have c0 : w1.cell? ⟨c, 0, none⟩ = some (.slice (some ⟨b, o, none⟩) (N + 1) cp) := Bk.cell (h.out.c.Ad f1.out) rfl))
 have hver : w1.cell? ⟨b, o + N * 4, none⟩ = some (.int .i64 t) ∧ w1.cell? ⟨b, o + N * 4 + 1, none⟩ = some (.int .u8 n) ∧ w1.cell? ⟨b, o + N * 4 + 2, none⟩ = some (.string val) ∧ w1.cell? ⟨b, o + N * 4 + 3, none⟩ = some (.bool gone) := by
   have e := fun j => CQ (f1.out.block b hb.out) j
   exact ⟨(e _).trans (hrr.out 0 _ rfl), (e _).trans (hrr.out 1 _ rfl), (e _).trans (hrr.out 2 _ rfl), (e _).trans (hrr.out 3 _ rfl)⟩
 obtain ⟨v0, v1, v2, v3⟩ := hver
 have t0 := Bk.cell b2.out (j := 0) rfl
 have t1 := Bk.cell b2.out (j := 1) rfl
 have t2 := Bk.cell b2.out (j := 2) rfl
 have t3 := Bk.cell b2.out (j := 3) rfl
 have z0 := Bk.free b2.out 0
 have z1 := Bk.free b2.out 1
 have z2 := Bk.free b2.out 2
 have z3 := Bk.free b2.out 3
 have e1 : IntKind.i64.wrap ((N : Int) + 1 - 1) = (N : Int) := by rw [IntWalk.i64_in _ ⟨by omega, by omega⟩]; omega
 have l1 : ((N : Int) < (N : Int) + 1) = True := eq_true (by omega)
 have l2 : (N < N + 1) = True := eq_true (by omega)
 have l3 : ((0 : Int) ≤ (N : Int)) = True := eq_true (by omega)
 go_region
 refine onW (S := fun W' => Aa (∃ D, Bk W' g2 D 116 ∧ D = #[.int .i64 t, .int .u8 n, .string val, .bool gone]) ∧ Aa (Fr (fun k => k = g2) w1 W')) ⟨⟨?_⟩, ⟨?_⟩⟩ ?_
 · exact ⟨_, Ob.drew (Bk.set (Bk.set (Bk.set (Bk.set b2.out 0 _) 1 _) 2 _) 3 _), by simp⟩
 · repeat (first | exact Fr.refl _ _ | refine Fr.drew ?_ | refine Fr.set ?_ _ _ _ (.inl rfl))
 rintro w2 ⟨b22, f2⟩
 clear t0 t1 t2 t3 z0 z1 z2 z3 v0 v1 v2 v3 e1
 obtain ⟨D, b22, hD⟩ := b22.out
 replace hD := Aa.mk hD
 go_wp2_with fail
 have I4 : (Tryz.prog.info? 116).map (·.size) = some 4 := by kernel_rfl
 refine AO (Tryz.results224) rfl b22 Tryz.underlying116 rfl I4 (by rw [hD.out]; rfl) rfl ⟨by rw [hD.out]; rfl, ?_⟩
 have := b2.out.lt
 exact (Fr.trans (T := fun k => k = g2) (Fr.of_below f1.out) f2.out).below (fun k hk e => by have := h2x.out; omega) (Nat.le_refl _)
end Go.Proofs.YtchfmgbjddopoaaGreatDoor.Hand
namespace Go.Proofs.YtchfmgbjddopoaaGreatDoor.Hand
open Go.RowKit Go.Proofs.YtchfmgbjddopoaaGreatDoorW.PrintWords Go.Proofs.YtchfmgbjddopoaaGreatDoorW.PrintLast Go.Proofs.YtchfmgbjddopoaaGreatDoorW.PrintMore
attribute [local go_sem ↓] Go.wp_at_zero Go.wp_at_succ
open Plain (Ky Wr Rc Ver Ent St Bytes ltS GU Ce Nw)
def Uj (w : World) (v v' : Value) : Prop := ∀ k, v'.ownBlock = some k → v.ownBlock = some k ∨ w.heap.size ≤ k
theorem Qo (w : World) (g : Nat) (v : Value) (vs : List Ver) (x : Ver) (h : GV w v vs) (hn : vs.length ≤ 1000) (hb : Bk w g (En x).toArray 116) :
   Calls Tryz.prog 135 #[v, .int .i64 vs.length, .slice (some ⟨g, 0, none⟩) 1 1] w fun e w' => ∃ v', e = .returned v' ∧ GV w' v' (vs ++ [x]) ∧ Fr (fun k => v.ownBlock = some k) w w' ∧ Uj w v v' := by
 obtain ⟨i0, hi, hz0, hz1, hz2⟩ := info_parts Lm
 have hnews : Aa (∀ j u, (En x)[j]? = some u → w.cell? ((⟨g, 0, none⟩ : Addr).add j) = some u) := ⟨fun j u hj => by
   rw [Addr.add_mid, Nat.zero_add]
   exact hb.cell (by rw [List.getElem?_toArray]; exact hj)⟩
 have hvv : (∃ g' cap, v = .slice (some ⟨g', 0, none⟩) vs.length cap ∧ vs.length ≤ cap) ∨ (v = .slice none 0 0 ∧ vs.length = 0) := by
   rcases h.2 with ⟨e, h0⟩ | ⟨g', cap, cur, e, _, _, hc, _⟩
   · exact .inr ⟨e, h0⟩
   · exact .inl ⟨g', cap, e, hc⟩
 obtain ⟨N, hN⟩ : ∃ N, N = vs.length := ⟨_, rfl⟩
 have hown := h
 rw [GV, ← hN] at hown
 rw [← hN] at hn hvv ⊢
 have hi' := Aa.mk hi
 have hz0' := Aa.mk hz0
 have hz1' := Aa.mk hz1
 have hz2' := Aa.mk hz2
 have hfin : Aa (∀ (gg k : Nat) (W : World), W.ownsRow 0 116 4 (.slice (some ⟨gg, 0, none⟩) (N + 1) k) (N + 1) (vs.flatMap En ++ En x) → GV W (.slice (some ⟨gg, 0, none⟩) (N + 1) k) (vs ++ [x])) := ⟨fun gg k W ho => by
   rw [GV, List.length_append, List.flatMap_append, ← hN]
   simpa using ho⟩
 replace hown := Aa.mk hown
 replace hn := Aa.mk hn
 clear hi hz0 hz1 hz2 h hb hN
 rcases hvv with ⟨g', cap, rfl, hc⟩ | ⟨rfl, h0⟩
 · have s1 : ((N : Int) ≤ (N : Int)) = True := eq_true (Int.le_refl _)
   have s2 : ((N : Int) ≤ (cap : Int)) = True := eq_true (by omega)
   have s3 : (N ≤ cap) = True := eq_true hc
   have s4 : ((0 : Int) ≤ (N : Int)) = True := eq_true (by omega)
   clear hc
   go_enter Tryz.func135, Tryz.ntmps135
   go_wp2_with (first
     | (at_builtin
        refine wpList_append_lies _ rfl (.tmp 23) (.tmp 24) 114 rfl 0 116 i0 _ 4 40 Tryz.underlying114 hi'.out hz0'.out hz1'.out hz2'.out rfl (by decide) (.slice (some ⟨g', 0, none⟩) N cap) N (vs.flatMap En) rfl hown.out ⟨g, 0, none⟩ 1 1 (En x) rfl (by rw [BZ]) hnews.out (LH x) (by decide) (by have := hn.out; simp only [maxLen]; omega) (by have := hn.out; omega) (Nat.zero_le _) _ rfl ?_
        intro g6 k6 w1 ho hg hat hlt))
   all_goals
     go_returns
     refine ⟨_, rfl, hfin.out _ _ _ ho, Fr.grown (Fr.refl _ _) hg (fun k hk => .inl hk), fun k hk => ?_⟩
     have ek : g6 = k := Option.some.inj hk
     rcases hat with e | e
     · exact .inl (e.trans (congrArg some ek))
     · exact .inr (by omega)
 · subst h0
   go_enter Tryz.func135, Tryz.ntmps135
   go_wp2_with (first
     | (at_builtin
        refine wpList_append_lies _ rfl (.tmp 23) (.tmp 24) 114 rfl 0 116 i0 _ 4 40 Tryz.underlying114 hi'.out hz0'.out hz1'.out hz2'.out rfl (by decide) (.slice none 0 0) 0 (vs.flatMap En) rfl hown.out ⟨g, 0, none⟩ 1 1 (En x) rfl (by rw [BZ]) hnews.out (LH x) (by decide) (by simp only [maxLen]; omega) (by omega) (Nat.zero_le _) _ rfl ?_
        intro g6 k6 w1 ho hg hat hlt))
   go_returns
   refine ⟨_, rfl, hfin.out _ _ _ ho, Fr.grown (Fr.refl _ _) hg (fun k hk => .inl hk), fun k hk => ?_⟩
   have ek : g6 = k := Option.some.inj hk
   rcases hat with e | e
   · exact .inl (e.trans (congrArg some ek))
   · exact .inr (by omega)
theorem EE (w : World) (c : Nat) (v : Value) (vs : List Ver) (x : Ver) (h : Lc w c v vs) (hx : Nw x) (hn : vs.length < 50) (hlt : ∀ y ∈ vs, ltS y.t y.n x.t x.n) :
   Calls Tryz.prog 95 #[.pointer (some ⟨c, 0, none⟩), .agg (En x).toArray] w fun e w' => e = .returned (.int .i64 0) ∧ ∃ v', Lc w' c v' (vs ++ [x]) ∧ Fr (fun k => k = c ∨ v.ownBlock = some k) w w' ∧ Uj w v v' := by
 obtain ⟨t, n, val, gone⟩ := x
 have hG : Aa (∀ W, Calls Tryz.prog 29 #[.agg #[.int .i64 t, .int .u8 n]] W fun e w' => e = .returned (.bool true) ∧ Below W.heap.size W w') := ⟨fun W => by have := BD W t n; rwa [hx.t] at this⟩
 have hP : Aa (∀ W, Lc W c v vs → Calls Tryz.prog 134 #[.pointer (some ⟨c, 0, none⟩), .agg #[.int .i64 t, .int .u8 n]] W fun e w' => e = .returned (.tuple #[.int .i64 vs.length, .bool false]) ∧ Below W.heap.size W w') := ⟨fun W hW => Kv W c v vs t n hW (by omega) hlt⟩
 have hI : Aa (∀ W g, GV W v vs → Bk W g #[.int .i64 t, .int .u8 n, .string val, .bool gone] 116 → Calls Tryz.prog 135 #[v, .int .i64 vs.length, .slice (some ⟨g, 0, none⟩) 1 1] W fun e w' => ∃ v', e = .returned v' ∧ GV w' v' (vs ++ [⟨t, n, val, gone⟩]) ∧ Fr (fun k => v.ownBlock = some k) W w' ∧ Uj W v v') := ⟨fun W g hW hb => Qo W g v vs ⟨t, n, val, gone⟩ hW (by omega) hb⟩
 have hva := hx.val
 have hgo := hx.gone
 simp only at hva hgo
 obtain ⟨A, cp, rfl⟩ := h.v.row.slice
 obtain ⟨N, hN⟩ : ∃ N, N = vs.length := ⟨_, rfl⟩
 rw [← hN] at hP hI hn h ⊢
 have dv : decide (200 < (val.size : Int)) = false := by simp; omega
 have dn : decide (50 ≤ (N : Int)) = false := by simp; omega
 have dn2 : decide (50 ≤ N) = false := by simp; omega
 have hng : Aa ((Value.slice A N cp).ownBlock ≠ some c) := ⟨AC h.v h.c (by decide)⟩
 replace h := Aa.mk h
 replace hN := Aa.mk hN
 have hn50 := Aa.mk hn
 clear hx hlt hn
 show Calls Tryz.prog 95 #[.pointer (some ⟨c, 0, none⟩), .agg #[.int .i64 t, .int .u8 n, .string val, .bool gone]] w _
 have hvg : gone = true → val = ⟨#[]⟩ := fun e => by
   have := hgo e
   obtain ⟨⟨l⟩⟩ := val
   have : l = [] := List.eq_nil_of_length_eq_zero this
   rw [this]
 clear hgo hva
 have hgg : gone = false ∨ (gone = true ∧ val = ⟨#[]⟩) := by
   cases gone
   · exact .inl rfl
   · exact .inr ⟨rfl, hvg rfl⟩
 clear hvg
 rcases hgg with rfl | ⟨rfl, rfl⟩
 all_goals
   go_enter Tryz.func95, Tryz.ntmps95
   go_upto_region 8 with (first
     | ((with_reducible refine Ac (N := 3) rfl ?_); refine Aj (N := 3) (C := #[.int .i64 t, .int .u8 n, .string _, .bool _]) rfl rfl (by first | (go_simp; done) | (go_simp; rfl)) ?_; intro g3 w1 h3 b3 f1; have hc1 := Aa.mk (h.out.below f1.out); have c0 := Bk.cell b3.out (j := 0) rfl; have c1 := Bk.cell b3.out (j := 1) rfl; have c2 := Bk.cell b3.out (j := 2) rfl; have c3 := Bk.cell b3.out (j := 3) rfl)
     | (go_at_call 29; refine (hG.out _).mono ?_; rintro e w2 ⟨rfl, f2⟩; have hc2 := Aa.mk (hc1.out.below f2); have b32 := Aa.mk (b3.out.Ad f2); clear c0 c1 c2 c3; have c0 := Bk.cell b32.out (j := 0) rfl; have c1 := Bk.cell b32.out (j := 1) rfl; have c2 := Bk.cell b32.out (j := 2) rfl; have c3 := Bk.cell b32.out (j := 3) rfl; replace f2 := Aa.mk f2)
     | (go_at_call 134; refine (hP.out _ hc2.out).mono ?_; rintro e w3 ⟨rfl, f3⟩; have hc3 := Aa.mk (hc2.out.below f3); have b33 := Aa.mk (b32.out.Ad f3); clear c0 c1 c2 c3; have x0 : w3.cell? ⟨c, 0, none⟩ = some (.slice A N cp) := Bk.cell hc3.out.c rfl; replace f3 := Aa.mk f3))
   have x1 : ∀ o, (w3.alloc o).cell? ⟨c, 0, none⟩ = some (.slice A N cp) := fun o => Bk.cell (hc3.out.c.alloc o) rfl
   have c0 := Bk.cell b33.out (j := 0) rfl
   have c1 := Bk.cell b33.out (j := 1) rfl
   have c2 := Bk.cell b33.out (j := 2) rfl
   have c3 := Bk.cell b33.out (j := 3) rfl
   go_region_with (go_at_call 135
                   refine (hI.out _ _ (own_below hc3.out.v ((Ah (Below.refl _ _) _).trans (Ag (Below.refl _ _)))) (Ob.drew (Ob.new w3 _))).mono ?_
                   rintro e w6 ⟨v6, rfl, r6, f6, o6⟩
                   obtain ⟨A6, n6, cp6, rfl⟩ : ∃ A n c, v6 = .slice A n c := by obtain ⟨A, c, e⟩ := r6.row.slice; exact ⟨A, _, c, e⟩
                   have hc6 := Aa.mk (Ob.fr (Ob.drew (hc3.out.c.alloc _)) f6 hng.out)
                   have y1 := Bk.free hc6.out 0
                   have y2 : w6.cell? ⟨c, 0, none⟩ = some (.slice A N cp) := Bk.cell hc6.out rfl)
   all_goals
     go_wp2_with fail
     go_returns
     have hs3 : w.heap.size ≤ w3.heap.size := Nat.le_trans f1.out.size (Nat.le_trans f2.out.size f3.out.size)
     have Z := Bk.set hc6.out 0 (.slice A6 n6 cp6)
     have G6 : Fr (fun k => k = c ∨ (Value.slice A N cp).ownBlock = some k) w w6 := ((((Fr.of_below f1.out).trans (Fr.of_below f2.out)).trans (Fr.of_below f3.out)).trans (((Fr.refl _ w3).alloc _).drew)).trans (f6.weaken fun k _ e => .inr e)
     have ZF := Fr.set (T := fun k => k = c) (Fr.refl _ w6) c 0 (.slice A6 n6 cp6) (.inl rfl)
     refine ⟨rfl, .slice A6 n6 cp6, ⟨Z, AP r6 ZF (fun k hk => hk ▸ AC r6 hc6.out (by decide))⟩, G6.trans (ZF.weaken fun k _ e => .inl e), fun k hk => ?_⟩
     rcases o6 k hk with e | e
     · exact .inl e
     · refine .inr (Nat.le_trans hs3 (Nat.le_trans ?_ e))
       show w3.heap.size ≤ (w3.alloc _).heap.size
       simp only [World.alloc, Array.size_push]
       omega
end Go.Proofs.YtchfmgbjddopoaaGreatDoor.Hand
namespace Go.Proofs.YtchfmgbjddopoaaGreatDoor.Hand
open Go.RowKit Go.Proofs.YtchfmgbjddopoaaGreatDoorW.PrintWords Go.Proofs.YtchfmgbjddopoaaGreatDoorW.PrintLast Go.Proofs.YtchfmgbjddopoaaGreatDoorW.PrintMore
attribute [local go_sem ↓] Go.wp_at_zero Go.wp_at_succ
open Plain (Ky Wr Rc Ver Ent St Bytes Chs chainOf)
abbrev CB := Ky → Nat × Value
def BA (cs : Chs) (cb : CB) : List (Ky × Value) := cs.map fun p => (p.1, .pointer (some ⟨(cb p.1).1, 0, none⟩))
structure AA (F : Nat → Prop) (w : World) (sp mc : Nat) (cs : Chs) (cb : CB) : Prop where
 s : Bk w sp #[.map (some mc)] 158
 m : DD w mc Dq (BA cs cb)
 c : ∀ p ∈ cs, Lc w (cb p.1).1 (cb p.1).2 p.2
 ne : ∀ p ∈ cs, p.2 ≠ []
 fs : F sp
 fm : F mc
 fc : ∀ p ∈ cs, F (cb p.1).1 ∧ ∀ k, (cb p.1).2.ownBlock = some k → F k
 d : ∀ p ∈ cs, ∀ q ∈ cs, p.1 ≠ q.1 → (cb p.1).1 ≠ (cb q.1).1 ∧ ∀ k, (cb p.1).2.ownBlock = some k → (cb q.1).2.ownBlock ≠ some k
section
variable {F T : Nat → Prop} {w w' : World} {sp mc : Nat} {cs : Chs} {cb : CB}
theorem AA.below (h : AA F w sp mc cs cb) (f : Below w.heap.size w w') : AA F w' sp mc cs cb :=
 ⟨h.s.Ad f, h.m.below f, fun p hp => (h.c p hp).below f, h.ne, h.fs, h.fm, h.fc, h.d⟩
theorem AA.fr (h : AA F w sp mc cs cb) (f : Fr T w w') (hT : ∀ k, T k → ¬ F k) : AA F w' sp mc cs cb :=
 ⟨Ob.fr h.s f fun e => hT _ e h.fs, h.m.fr f fun e => hT _ e h.fm, fun p hp => (h.c p hp).fr f (fun e => hT _ e (h.fc p hp).1) fun k hk e => hT k hk ((h.fc p hp).2 k e), h.ne, h.fs, h.fm, h.fc, h.d⟩
theorem AA.mono {G : Nat → Prop} (h : AA F w sp mc cs cb) (hG : ∀ k, F k → G k) : AA G w sp mc cs cb :=
 ⟨h.s, h.m, h.c, h.ne, hG _ h.fs, hG _ h.fm, fun p hp => ⟨hG _ (h.fc p hp).1, fun k hk => hG _ ((h.fc p hp).2 k hk)⟩, h.d⟩
theorem Px (k : Ky) : ∀ (cs : Chs), Plain.look k (BA cs cb) = (Plain.look k cs).map fun _ => .pointer (some ⟨(cb k).1, 0, none⟩)
 | [] => rfl
 | p :: cs => by
   have ih := Px k cs
   unfold BA at ih ⊢
   rw [List.map_cons]
   by_cases h : p.1 = k
   · subst h; simp [Plain.look]
   · simp only [Plain.look, if_neg h, ih]
end
theorem Ul (W : World) : (zeroValue 178).run Tryz.prog W = .ok (.pointer none) W := by kernel_rfl
theorem Eu (k : Ky) : Dq k = .agg (AZ k).toArray := rfl
theorem QV (F : Nat → Prop) (w : World) (sp mc : Nat) (cs : Chs) (cb : CB) (k : Ky) (h : AA F w sp mc cs cb) :
   Calls Tryz.prog 92 #[.pointer (some ⟨sp, 0, none⟩), .agg (AZ k).toArray] w fun e w' => ((∃ vs, Plain.look k cs = some vs ∧ e = .returned (.pointer (some ⟨(cb k).1, 0, none⟩))) ∨ (Plain.look k cs = none ∧ ∃ c, e = .returned (.pointer (some ⟨c, 0, none⟩)) ∧ w.heap.size ≤ c ∧ Bk w' c #[.slice none 0 0] 213)) ∧ Below w.heap.size w w' := by
 have hl := Px (cb := cb) k cs
 have hlook : Aa (∀ W, AA F W sp mc cs cb → (Instr.lookup 156 (.map (some mc)) (.agg (AZ k).toArray) false).run Tryz.prog W = .ok (match Plain.look k cs with | some _ => .pointer (some ⟨(cb k).1, 0, none⟩) | none => .pointer none) W) := ⟨fun W hW => by
   cases hk : Plain.look k cs with
   | none =>
     rw [hk] at hl
     exact hW.m.BF EK Tryz.underlying156 hl Ul false
   | some vs =>
     rw [hk] at hl
     exact hW.m.EG EK Tryz.underlying156 hl false⟩
 obtain ⟨KC, hKC⟩ : ∃ KC, KC = (AZ k).toArray := ⟨_, rfl⟩
 have hKs : KC.size = 16 := by rw [hKC]; simpa using Ai k
 rw [← hKC] at hlook ⊢
 replace h := Aa.mk h
 have hcut : (KC.extract 0 (0 + 16)).toList = KC.toList := AU hKs
 have hKl : KC.toList.length = 16 := by rw [Array.length_toList, hKs]
 have u79 := Tryz.underlying103
 have i79 : (Tryz.prog.info? 103).map (·.size) = some KC.toList.length := by rw [hKl]; exact AB
 replace hcut := Aa.mk hcut
 replace hKs := Aa.mk hKs
 clear hl hKl
 cases hk : Plain.look k cs with
 | none =>
   rw [hk] at hlook
   replace hk := Aa.mk hk
   clear hKC
   go_enter Tryz.func92, Tryz.ntmps92
   go_wp2_with (first
     | ((with_reducible refine Ac (N := 3) rfl ?_); refine Aj (N := 3) (C := KC) rfl rfl (by first | (go_simp; done) | (go_simp; rfl)) ?_; intro g w1 h1 b1 f1; have hs1 := Aa.mk (h.out.below f1.out)))
   refine wp_region_noPanic ?_
   go_region_held_law (fun w' => (w'.cell? ⟨sp, 0, none⟩ = some (.map (some mc)) ∧ w'.rangeAt g 0 KC.toList) ∧ (Instr.lookup 156 (.map (some mc)) (.agg KC) false).run Tryz.prog w' = .ok (.pointer none) w')
     ((first | exact ⟨⟨Bk.cell hs1.out.s.drew rfl, Bk.range b1.out.drew 0 16 hcut.out⟩, hlook.out _ (hs1.out.below (Ag (Below.refl _ _)))⟩))
     (fail)
   refine NoPanic.normal ?_
   go_split_ands
   go_wp2_with (go_at_call 94; refine (Jr _).mono ?_; rintro e w2 ⟨p, rfl, hp, bp, f2⟩)
   go_returns
   have h := f1.out.size
   exact ⟨.inr ⟨by simp, p, rfl, Nat.le_trans h hp, bp⟩, f1.out.trans ((Ag (Below.refl _ _)).trans (f2.mono h))⟩
 | some vs =>
   rw [hk] at hlook
   replace hk := Aa.mk hk
   clear hKC
   go_enter Tryz.func92, Tryz.ntmps92
   go_wp2_with (first
     | ((with_reducible refine Ac (N := 3) rfl ?_); refine Aj (N := 3) (C := KC) rfl rfl (by first | (go_simp; done) | (go_simp; rfl)) ?_; intro g w1 h1 b1 f1; have hs1 := Aa.mk (h.out.below f1.out)))
   refine wp_region_noPanic ?_
   go_region_held_law (fun w' => (w'.cell? ⟨sp, 0, none⟩ = some (.map (some mc)) ∧ w'.rangeAt g 0 KC.toList) ∧ (Instr.lookup 156 (.map (some mc)) (.agg KC) false).run Tryz.prog w' = .ok (.pointer (some ⟨(cb k).1, 0, none⟩)) w')
     ((first | exact ⟨⟨Bk.cell hs1.out.s.drew rfl, Bk.range b1.out.drew 0 16 hcut.out⟩, hlook.out _ (hs1.out.below (Ag (Below.refl _ _)))⟩))
     (fail)
   refine NoPanic.normal ?_
   go_split_ands
   go_wp2_with fail
   go_returns
   exact ⟨.inl ⟨vs, by simp, rfl⟩, f1.out.trans (Ag (Below.refl _ _))⟩
section
variable {F : Nat → Prop} {sp mc : Nat} {cs : Chs} {cb : CB} {k : Ky}
theorem Dn {vs : List Ver} (w : World) (h : AA F w sp mc cs cb) (hk : Plain.look k cs = some vs) : Calls Tryz.prog 92 #[.pointer (some ⟨sp, 0, none⟩), .agg (AZ k).toArray] w fun e w' => e = .returned (.pointer (some ⟨(cb k).1, 0, none⟩)) ∧ Below w.heap.size w w' :=
 (QV F w sp mc cs cb k h).mono (by
   rintro e w' ⟨⟨vs', _, rfl⟩ | ⟨h1, _⟩, hB⟩
   · exact ⟨rfl, hB⟩
   · rw [hk] at h1; cases h1)
theorem Dy (w : World) (h : AA F w sp mc cs cb) (hk : Plain.look k cs = none) : Calls Tryz.prog 92 #[.pointer (some ⟨sp, 0, none⟩), .agg (AZ k).toArray] w fun e w' => ∃ c, e = .returned (.pointer (some ⟨c, 0, none⟩)) ∧ w.heap.size ≤ c ∧ Bk w' c #[.slice none 0 0] 213 ∧ Below w.heap.size w w' :=
 (QV F w sp mc cs cb k h).mono (by
   rintro e w' ⟨⟨vs', h1, rfl⟩ | ⟨_, c, rfl, h2, h3⟩, hB⟩
   · rw [hk] at h1; cases h1
   · exact ⟨c, rfl, h2, h3, hB⟩)
end
def EX (k : Ky) (cs : Chs) : Int × Int × Bool :=
 match (chainOf k cs).getLast? with
 | some v => (v.t, v.n, true)
 | none => (0, 0, false)
theorem Iy (F : Nat → Prop) (w : World) (sp mc : Nat) (cs : Chs) (cb : CB) (k : Ky) (h : AA F w sp mc cs cb) (hn : ∀ p ∈ cs, p.2.length ≤ 1000) :
   Calls Tryz.prog 174 #[.pointer (some ⟨sp, 0, none⟩), .agg (AZ k).toArray] w fun e w' => e = .returned (.tuple #[.agg (BX (EX k cs).1 (EX k cs).2.1), .bool (EX k cs).2.2]) ∧ Below w.heap.size w w' := by
 have hN : ∃ x : Ver, ∃ ok : Bool, EX k cs = (x.t, x.n, ok) ∧ ∀ W, AA F W sp mc cs cb → Calls Tryz.prog 92 #[.pointer (some ⟨sp, 0, none⟩), .agg (AZ k).toArray] W fun e w' => ∃ c, e = .returned (.pointer (some ⟨c, 0, none⟩)) ∧ Below W.heap.size W w' ∧ Calls Tryz.prog 224 #[.pointer (some ⟨c, 0, none⟩)] w' fun e w2 => e = .returned (.tuple #[.agg (En x).toArray, .bool ok]) ∧ Below w'.heap.size w' w2 := by
   cases hk : Plain.look k cs with
   | none =>
     refine ⟨⟨0, 0, ⟨#[]⟩, false⟩, false, ?_, fun W hW => (Dy W hW hk).mono ?_⟩
     · unfold EX chainOf
       rw [hk]
       rfl
     · rintro e w' ⟨c, rfl, _, hc, hB⟩
       exact ⟨c, rfl, hB, Ip w' c hc⟩
   | some vs =>
     have hm := Plain.Bv hk
     cases hl : vs.getLast? with
     | none => exact absurd (List.getLast?_eq_none_iff.1 hl) (h.ne _ hm)
     | some x =>
       refine ⟨x, true, ?_, fun W hW => (Dn W hW hk).mono ?_⟩
       · unfold EX chainOf
         rw [hk]
         simp only [Option.getD_some, hl]
       · rintro e w' ⟨rfl, hB⟩
         exact ⟨_, rfl, hB, Nl w' _ _ vs x ((hW.below hB).c _ hm) (hn _ hm) hl⟩
 obtain ⟨⟨t, n, val, gone⟩, ok, hx, hO⟩ := hN
 rw [hx]
 show Calls Tryz.prog 174 #[.pointer (some ⟨sp, 0, none⟩), .agg (AZ k).toArray] w fun e w' => e = .returned (.tuple #[.agg #[.int .i64 t, .int .u8 n], .bool ok]) ∧ Below w.heap.size w w'
 obtain ⟨KC, hKC⟩ : ∃ KC, KC = (AZ k).toArray := ⟨_, rfl⟩
 have hKs : KC.size = 16 := by rw [hKC]; simpa using Ai k
 rw [← hKC] at hO ⊢
 replace hKs := Aa.mk hKs
 replace hO := Aa.mk hO
 replace h := Aa.mk h
 clear hKC hn hx
 go_enter Tryz.func174, Tryz.ntmps174
 go_wp2_with (first
   | ((with_reducible refine Ac (N := 3) rfl ?_); refine Aj (N := 3) (C := KC) rfl rfl (by first | (go_simp; done) | (go_simp; rfl)) ?_; intro g3 w1 h3 b3 f1; have hs1 := Aa.mk (h.out.below f1.out))
   | ((with_reducible refine Ac (N := 4) rfl ?_); refine Aj (N := 4) (C := #[.int .i64 0, .int .u8 0]) rfl rfl (by first | (go_simp; done) | (go_simp; rfl)) ?_; intro g4 w2 h4 b4 f2; have hs2 := Aa.mk (hs1.out.below f2.out); have b32 := Aa.mk (b3.out.Ad f2.out))
   | ((with_reducible refine Ac (N := 10) rfl ?_); refine Au (N := 10) rfl rfl rfl rfl b32.out Tryz.underlying103 rfl AB KC.toList (AU hKs.out) (by rw [Array.length_toList, hKs.out]) ?_)
   | (go_at_call 92; refine (hO.out _ hs2.out).mono ?_; rintro e w3 ⟨p, rfl, f3, hp⟩; replace f3 := Aa.mk f3; replace hp := Aa.mk hp; have b43 := Aa.mk (b4.out.Ad f3.out))
   | (go_at_call 224; refine hp.out.mono ?_; rintro e w4 ⟨rfl, f4⟩; replace f4 := Aa.mk f4; have b44 := Aa.mk (b43.out.Ad f4.out))
   | ((with_reducible refine Ac (N := 6) rfl ?_); refine Aj (N := 6) (C := V0) rfl rfl (by first | (go_simp; done) | (go_simp; rfl)) ?_; intro g6 w5 h6 b6 f5; have b45 := Aa.mk (b44.out.Ad f5.out))
   | ((with_reducible refine Af (t := 116) (p := 6) (v := .tmp 13) rfl ?_); refine Ak rfl (ty := 116) (x := .tmp 6) (y := .tmp 13) (cells := (En ⟨t, n, val, gone⟩).toArray) rfl rfl rfl b6.out (by kernel_rfl) (by kernel_rfl) (Nat.le_refl 4) (En ⟨t, n, val, gone⟩).toArray (Aq rfl) ?_; intro w6 b66 f6; have b46 := Aa.mk (b45.out.fr f6.out (by have := b44.out.lt; have := h6.out; omega)); have c0 : w6.cell? ⟨g6, 0, none⟩ = some (.int .i64 t) := Bk.cell b66.out (j := 0) rfl; have c1 : w6.cell? ⟨g6, 1, none⟩ = some (.int .u8 n) := Bk.cell b66.out (j := 1) rfl)
   | ((with_reducible refine Af (t := 32) (p := 4) (v := .tmp 16) rfl ?_); refine Ak rfl (ty := 32) (x := .tmp 4) (y := .tmp 16) (cells := #[.int .i64 t, .int .u8 n]) rfl rfl rfl b46.out (by kernel_rfl) (by kernel_rfl) (Nat.le_refl 2) #[.int .i64 t, .int .u8 n] (Aq (C := #[.int .i64 0, .int .u8 0]) rfl) ?_; intro w7 b7 f7))
 refine AO (Tryz.results174) rfl b7.out Tryz.underlying32 rfl (n := 2) (by kernel_rfl) rfl rfl ⟨rfl, ?_⟩
 have := h4.out
 have := h6.out
 have := f1.out.size
 have := f2.out.size
 have := f3.out.size
 have := f4.out.size
 exact (Fr.trans (T := fun k => k = g4 ∨ k = g6) (Fr.of_below f1.out) ((Fr.of_below f2.out).trans ((Fr.of_below f3.out).trans ((Fr.of_below f4.out).trans ((Fr.of_below f5.out).trans ((f6.out.weaken (fun _ _ h => .inr h)).trans (f7.out.weaken (fun _ _ h => .inl h)))))))).below (by omega) (Nat.le_refl _)
theorem EP (F : Nat → Prop) (w : World) (sp mc : Nat) (cs : Chs) (cb : CB) (k : Ky) (h : AA F w sp mc cs cb) (hn : ∀ p ∈ cs, p.2.length ≤ 1000) :
   Calls Tryz.prog 56 #[.pointer (some ⟨sp, 0, none⟩), .agg (AZ k).toArray] w fun e w' => ∃ v', e = .returned v' ∧ w'.ownsRow w.heap.size 116 4 v' (chainOf k cs).length ((chainOf k cs).flatMap En) ∧ Below w.heap.size w w' := by
 have hN : ∀ W, AA F W sp mc cs cb → Calls Tryz.prog 92 #[.pointer (some ⟨sp, 0, none⟩), .agg (AZ k).toArray] W fun e w' => ∃ c, e = .returned (.pointer (some ⟨c, 0, none⟩)) ∧ Below W.heap.size W w' ∧ Calls Tryz.prog 93 #[.pointer (some ⟨c, 0, none⟩)] w' fun e w2 => ∃ v', e = .returned v' ∧ w2.ownsRow w'.heap.size 116 4 v' (chainOf k cs).length ((chainOf k cs).flatMap En) ∧ Below w'.heap.size w' w2 := fun W hW => by
   cases hk : Plain.look k cs with
   | none =>
     have e0 : chainOf k cs = [] := by unfold chainOf; rw [hk]; rfl
     refine (Dy W hW hk).mono ?_
     rintro e w' ⟨c, rfl, _, hc, hB⟩
     refine ⟨c, rfl, hB, ?_⟩
     rw [e0]
     exact Js w' c _ [] ⟨hc, World.ownsRow_nil _ _ _ _⟩ (by simp)
   | some vs =>
     have e0 : chainOf k cs = vs := by unfold chainOf; rw [hk]; rfl
     have hm := Plain.Bv hk
     refine (Dn W hW hk).mono ?_
     rintro e w' ⟨rfl, hB⟩
     refine ⟨_, rfl, hB, ?_⟩
     rw [e0]
     exact Js w' _ _ vs ((hW.below hB).c _ hm) (hn _ hm)
 obtain ⟨KC, hKC⟩ : ∃ KC, KC = (AZ k).toArray := ⟨_, rfl⟩
 have hKs : KC.size = 16 := by rw [hKC]; simpa using Ai k
 rw [← hKC] at hN ⊢
 replace hKs := Aa.mk hKs
 replace hN := Aa.mk hN
 replace h := Aa.mk h
 clear hKC hn
 go_enter Tryz.func56, Tryz.ntmps56
 go_wp2_with (first
   | ((with_reducible refine Ac (N := 3) rfl ?_); refine Aj (N := 3) (C := KC) rfl rfl (by first | (go_simp; done) | (go_simp; rfl)) ?_; intro g3 w1 h3 b3 f1; have hs1 := Aa.mk (h.out.below f1.out))
   | ((with_reducible refine Ac (N := 6) rfl ?_); refine Au (N := 6) rfl rfl rfl rfl b3.out Tryz.underlying103 rfl AB KC.toList (AU hKs.out) (by rw [Array.length_toList, hKs.out]) ?_)
   | (go_at_call 92; refine (hN.out _ hs1.out).mono ?_; rintro e w3 ⟨p, rfl, f3, hp⟩; replace f3 := Aa.mk f3; replace hp := Aa.mk hp)
   | (go_at_call 93; refine hp.out.mono ?_; rintro e w4 ⟨v', rfl, o4, f4⟩; replace f4 := Aa.mk f4; replace o4 := Aa.mk o4))
 go_returns
 exact ⟨v', rfl, AV o4.out (Nat.le_trans f1.out.size f3.out.size), (f1.out.trans (f3.out.mono f1.out.size)).trans (f4.out.mono (Nat.le_trans f1.out.size f3.out.size))⟩
end Go.Proofs.YtchfmgbjddopoaaGreatDoor.Hand
namespace Go.Proofs.YtchfmgbjddopoaaGreatDoor.Hand
open Go.RowKit Go.Proofs.YtchfmgbjddopoaaGreatDoorW.PrintWords Go.Proofs.YtchfmgbjddopoaaGreatDoorW.PrintLast Go.Proofs.YtchfmgbjddopoaaGreatDoorW.PrintMore
attribute [local go_sem ↓] Go.wp_at_zero Go.wp_at_succ
open Plain (Ky Wr Rc Ver Ent St Bytes Chs chainOf Ea DL)
theorem Om {F : Nat → Prop} {sp mc : Nat} {cs : Chs} {cb : CB} (k : Ky) (w : World) (h : AA F w sp mc cs cb) : Calls Tryz.prog 92 #[.pointer (some ⟨sp, 0, none⟩), .agg (AZ k).toArray] w fun e w' => ∃ c, e = .returned (.pointer (some ⟨c, 0, none⟩)) ∧ Below w.heap.size w w' ∧ Calls Tryz.prog 179 #[.pointer (some ⟨c, 0, none⟩)] w' fun e w2 => e = .returned (.int .i64 ((chainOf k cs).length : Int)) ∧ w2 = w' := by
 cases hk : Plain.look k cs with
 | none =>
   have e0 : chainOf k cs = [] := by unfold chainOf; rw [hk]; rfl
   refine (Dy w h hk).mono ?_
   rintro e w' ⟨c, rfl, _, hc, hB⟩
   refine ⟨c, rfl, hB, ?_⟩
   rw [e0]
   exact Oe w' c _ [] ⟨hc, World.ownsRow_nil _ _ _ _⟩
 | some vs =>
   have e0 : chainOf k cs = vs := by unfold chainOf; rw [hk]; rfl
   have hm := Plain.Bv hk
   refine (Dn w h hk).mono ?_
   rintro e w' ⟨rfl, hB⟩
   refine ⟨_, rfl, hB, ?_⟩
   rw [e0]
   exact Oe w' _ _ vs ((h.below hB).c _ hm)
def QF (cs : Chs) (ws : List Wr) : Nat := cs.length + (ws.filter fun w => (Plain.look w.key cs).isNone).length
theorem U7 (cs : Chs) (ws : List Wr) (x : Wr) : QF cs (ws ++ [x]) = QF cs ws + (if (Plain.look x.key cs).isNone then 1 else 0) := by
 unfold QF
 rw [List.filter_append, List.length_append]
 by_cases h : (Plain.look x.key cs).isNone = true
 · simp [h]; omega
 · simp [h]
theorem XX (cs : Chs) (ws : List Wr) : QF cs ws ≤ cs.length + ws.length := by
 unfold QF
 have := List.length_filter_le (fun w : Wr => (Plain.look w.key cs).isNone) ws
 omega
theorem JO (F : Nat → Prop) (w : World) (sp mc : Nat) (cs : Chs) (cb : CB) (A : Option Addr) (n c : Nat) (ws : List Wr) (h : AA F w sp mc cs cb) (hw : Eo w (.slice A n c) ws) (hn : ws.length ≤ 16) (hcs : cs.length ≤ 100000) :
   Calls Tryz.prog 128 #[.pointer (some ⟨sp, 0, none⟩), .slice A n c] w fun x w' => x = .returned (.bool (Ea cs ws)) ∧ Below w.heap.size w w' := by
 have hnn : n = ws.length := by
   obtain ⟨A', c', e'⟩ := hw.slice
   injection e'
 have hlen := h.m.len Tryz.underlying156 3
 have e1 : (BA cs cb).length = cs.length := by simp [BA]
 rw [e1] at hlen
 have c0 : w.cell? ⟨sp, 0, none⟩ = some (.map (some mc)) := Bk.cell h.s rfl
 obtain ⟨X, hX⟩ : ∃ X, X = Ea cs ws := ⟨_, rfl⟩
 rw [← hX]
 replace h := Aa.mk h
 replace hw := Aa.mk hw
 replace hn := Aa.mk hn
 replace hcs := Aa.mk hcs
 replace hnn := Aa.mk hnn
 replace hX := Aa.mk hX
 clear e1
 go_enter Tryz.func128, Tryz.ntmps128
 go_wp2_with fail
 clear hlen c0
 go_loopw [5, 15] (fun u p w' => ∃ j : Nat, j ≤ n ∧ p = .int .i64 j ∧ u = .int .i64 (QF cs (ws.take j) : Nat) ∧ DL cs (ws.take j) = true ∧ Aa (Below w.heap.size w w')) (fun _ p _ => n - (intOf p).toNat)
 case atStart => exact ⟨0, Nat.zero_le _, rfl, by simp [QF], by simp [DL], ⟨Below.refl _ _⟩⟩
 case round =>
   obtain ⟨j, hj, rfl, rfl, hsh, HB⟩ := hrel
   by_cases hlt : j < n
   case neg =>
     have hjn : ws.take j = ws := List.take_of_length_le (by rw [← hnn.out]; omega)
     rw [hjn] at hsh ⊢
     have hXX : X = decide (QF cs ws ≤ 200) := by rw [hX.out, Ea, hsh, Bool.true_and]; rfl
     have d1 : decide ((j : Int) < (n : Int)) = false := by simp; omega
     have d2 : decide (j < n) = false := by simp; omega
     obtain ⟨N, hN⟩ : ∃ N, N = QF cs ws := ⟨_, rfl⟩
     rw [← hN] at hXX ⊢
     have e2 : decide ((N : Int) ≤ 200) = X := by rw [hXX, decide_eq_decide]; omega
     have e3 : decide (N ≤ 200) = X := hXX.symm
     replace hXX := Aa.mk hXX
     clear hjn hj hsh hN
     go_wp2_with fail
     go_returns
     exact ⟨rfl, HB.out⟩
   obtain ⟨b, o, hA, hbn, hc, hbs, hr⟩ := (hw.out.below HB.out).at_ (by rw [← hnn.out]; omega)
   have hjw : j < ws.length := by rw [← hnn.out]; exact hlt
   replace hr := hr j hjw
   have htk : ws.take (j + 1) = ws.take j ++ [ws[j]!] := by
     rw [List.take_succ_eq_append_getElem hjw, getElem!_pos ws j hjw]
   have hxm : ws[j]! ∈ ws := by rw [getElem!_pos ws j hjw]; exact List.getElem_mem hjw
   generalize ws[j]! = x at hr htk hxm
   subst hA
   have hnew : QF cs (ws.take (j + 1)) = QF cs (ws.take j) + (if (Plain.look x.key cs).isNone then 1 else 0) := by rw [htk]; exact U7 cs _ x
   have hshn : (chainOf x.key cs).length < 50 → DL cs (ws.take (j + 1)) = true := fun hl => by
     rw [htk]
     unfold DL at hsh ⊢
     rw [List.all_append, hsh]
     simpa using hl
   have hshf : ¬ (chainOf x.key cs).length < 50 → X = false := fun hl => by
     rw [hX.out, Ea]
     have : DL cs ws = false := by
       cases h : DL cs ws
       · rfl
       · exact absurd (Plain.Fz h x hxm) hl
     rw [this]
     rfl
   have hNb : QF cs (ws.take j) ≤ 100016 := by have := XX cs (ws.take j); rw [List.length_take] at this; have := hn.out; have := hcs.out; omega
   clear hbn hjw htk hxm hsh
   replace hr := Aa.mk hr
   replace hbs := Aa.mk hbs
   have d1 : decide ((j : Int) < (n : Int)) = true := by simp; omega
   have d2 : decide (j < n) = true := by simp; omega
   have hjb : j < 1000000 := by have := hn.out; have := hnn.out; omega
   have hl := Px (cb := cb) x.key cs
   obtain ⟨pv, hpv, hlook⟩ : ∃ pv : Option Addr, pv.isNone = (Plain.look x.key cs).isNone ∧ ∀ W, AA F W sp mc cs cb → (Instr.lookup 156 (.map (some mc)) (.agg (AZ x.key).toArray) false).run Tryz.prog W = .ok (.pointer pv) W := by
     cases hk : Plain.look x.key cs with
     | none =>
       rw [hk] at hl
       exact ⟨none, rfl, fun W hW => hW.m.BF EK Tryz.underlying156 hl Ul false⟩
     | some vs =>
       rw [hk] at hl
       exact ⟨some ⟨(cb x.key).1, 0, none⟩, rfl, fun W hW => hW.m.EG EK Tryz.underlying156 hl false⟩
   obtain ⟨M, hM⟩ : ∃ M, M = QF cs (ws.take j) := ⟨_, rfl⟩
   obtain ⟨M2, hM2⟩ : ∃ M2, M2 = QF cs (ws.take (j + 1)) := ⟨_, rfl⟩
   obtain ⟨LL, hLL⟩ : ∃ LL, LL = (chainOf x.key cs).length := ⟨_, rfl⟩
   have hO : Aa (∀ W, AA F W sp mc cs cb → Calls Tryz.prog 92 #[.pointer (some ⟨sp, 0, none⟩), .agg (AZ x.key).toArray] W fun e w' => ∃ c, e = .returned (.pointer (some ⟨c, 0, none⟩)) ∧ Below W.heap.size W w' ∧ Calls Tryz.prog 179 #[.pointer (some ⟨c, 0, none⟩)] w' fun e w2 => e = .returned (.int .i64 (LL : Int)) ∧ w2 = w') := ⟨fun W hW => by rw [hLL]; exact Om x.key W hW⟩
   rw [← hM, ← hM2, ← hpv] at hnew
   rw [← hM] at hNb ⊢
   rw [← hLL] at hshn hshf
   replace hM := Aa.mk hM
   replace hM2 := Aa.mk hM2
   replace hshn := Aa.mk hshn
   replace hshf := Aa.mk hshf
   replace hlook := Aa.mk hlook
   clear hLL hl hpv
   go_upto_region 5 with (first
     | ((with_reducible refine Ac (N := 18) rfl ?_); (refine BM (N := 18) rfl rfl rfl rfl Tryz.underlying105 rfl (by rw [Bg]; exact Bl) hr.out ?_))
     | ((with_reducible refine Ac (N := 7) rfl ?_); refine Aj (N := 7) (C := Z18) rfl rfl (by first | (go_simp; done) | (go_simp; rfl)) ?_; intro g8 w7 h8 b8 f7)
     | ((with_reducible refine Af (t := 105) (p := 7) (v := .tmp 18) rfl ?_); (refine Ak rfl (ty := 105) (x := .tmp 7) (y := .tmp 18) (cells := (wrC x).toArray) rfl rfl rfl b8.out (by rw [AY]; exact Bl) (Eb x) (by rw [AY]; exact Nat.le_refl 18) (wrC x).toArray (Aq (AY x)) ?_); intro w8 b88 f8))
   have F8 : Aa (Below w.heap.size w w8) := ⟨(Fr.trans (T := fun k => k = g8) ((Fr.of_below HB.out).trans (Fr.of_below f7.out)) f8.out).below (fun k hk e => by have := h8.out; have := HB.out.size; omega) (Nat.le_refl _)⟩
   have S8 := Aa.mk (h.out.below F8.out)
   have hSd := S8.out.below (Ag (Below.refl _ _))
   have hlk := hlook.out _ hSd
   have u79 := Tryz.underlying103
   have i79 : (Tryz.prog.info? 103).map (·.size) = some (AZ x.key).length := by rw [Ai]; exact AB
   refine wp_region_noPanic ?_
   go_region_held_law (fun w' => (w'.cell? ⟨sp, 0, none⟩ = some (.map (some mc)) ∧ w'.rangeAt g8 0 (AZ x.key)) ∧ (Instr.lookup 156 (.map (some mc)) (.agg (AZ x.key).toArray) false).run Tryz.prog w' = .ok (.pointer pv) w')
     (exact ⟨⟨Bk.cell (Ob.drew S8.out.s) rfl, Bk.range (Ob.drew b88.out) 0 16 (BV x)⟩, hlk⟩)
     (fail)
   refine NoPanic.normal ?_
   go_split_ands
   clear u79 i79 hlk
   have S9 := Aa.mk hSd
   have b98 := Aa.mk (Ob.drew b88.out)
   have F9 : Aa (Below w.heap.size w w8.drew) := ⟨F8.out.trans (Ag (Below.refl _ _))⟩
   clear hSd
   generalize w8.drew = w9 at *
   cases pv
   all_goals
     by_cases hLL : LL < 50
     case pos =>
       have e50 : decide (50 ≤ (LL : Int)) = false := by simp; omega
       have e51 : decide (50 ≤ LL) = false := by simp; omega
       replace hshn := Aa.mk (hshn.out hLL)
       replace hnew := Aa.mk hnew
       clear hLL hshf
       go_wp2_with (first
         | ((with_reducible refine Ac (N := 31) rfl ?_); (refine Au (N := 31) rfl rfl rfl rfl b98.out Tryz.underlying103 rfl AB (AZ x.key) (BV x) (Ai x.key) ?_))
         | (go_at_call 92; refine (hO.out _ S9.out).mono ?_; rintro e w10 ⟨c10, rfl, f10, hp⟩; have F10 : Aa (Below w.heap.size w w10) := ⟨F9.out.trans (f10.mono F9.out.size)⟩; replace hp := Aa.mk hp; clear f10)
         | (go_at_call 179; refine hp.out.mono ?_; rintro e w11 ⟨rfl, rfl⟩))
       refine ⟨⟨j + 1, by omega, by rw [Int.natCast_add]; rfl, ?_, hshn.out, F10⟩, ?_⟩
       · rw [← hM2.out, hnew.out]
         simp
       · simp only [intOf]
         clear hnew
         omega
     case neg =>
       have e50 : decide (50 ≤ (LL : Int)) = true := by simp; omega
       have e51 : decide (50 ≤ LL) = true := by simp; omega
       have hX0 := hshf.out hLL
       replace hnew := Aa.mk hnew
       replace hX0 := Aa.mk hX0
       clear hLL
       go_wp2_with (first
         | ((with_reducible refine Ac (N := 31) rfl ?_); (refine Au (N := 31) rfl rfl rfl rfl b98.out Tryz.underlying103 rfl AB (AZ x.key) (BV x) (Ai x.key) ?_))
         | (go_at_call 92; refine (hO.out _ S9.out).mono ?_; rintro e w10 ⟨c10, rfl, f10, hp⟩; have F10 : Aa (Below w.heap.size w w10) := ⟨F9.out.trans (f10.mono F9.out.size)⟩; replace hp := Aa.mk hp; clear f10)
         | (go_at_call 179; refine hp.out.mono ?_; rintro e w11 ⟨rfl, rfl⟩))
       go_returns
       exact ⟨by rw [hX0.out]; rfl, F10.out⟩
end Go.Proofs.YtchfmgbjddopoaaGreatDoor.Hand
