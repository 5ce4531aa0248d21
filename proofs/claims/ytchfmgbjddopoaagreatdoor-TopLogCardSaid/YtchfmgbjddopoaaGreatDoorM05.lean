import Derived.RangeFuncBox
import Derived.Deep.RegionWith
import Derived.Deep.AppendLies
import Derived.Shelf.Bytes.SlClone
import Derived.Shelf.SlicesG.Equal
import Derived.Shelf.SlicesE.Equal
import Derived.Shelf.SlicesG.Cmp
import Derived.Shelf.SlicesQ.Equal
import Derived.Shelf.SlicesE.Clone
import Derived.Shelf.SlicesQ.IndexFunc
import Derived.Test.YtchfmgbjddopoaaGreatDoorProg
import Derived.Test.YtchfmgbjddopoaaGreatDoorM03
import Derived.Test.YtchfmgbjddopoaaGreatDoorM04
set_option linter.unusedVariables false
set_option linter.unusedSimpArgs false
set_option maxHeartbeats 6400000
set_option maxRecDepth 100000
namespace Go.Proofs.YtchfmgbjddopoaaGreatDoor.Hand
open Go.RowKit Go.Proofs.YtchfmgbjddopoaaGreatDoorW.PrintWords Go.Proofs.YtchfmgbjddopoaaGreatDoorW.PrintLast Go.Proofs.YtchfmgbjddopoaaGreatDoorW.PrintMore
attribute [local go_sem ↓] Go.wp_at_zero Go.wp_at_succ
abbrev S1 : Array Value := #[.int .i64 1, .int .u8 0]
theorem PR (w : World) : Calls Tryz.prog 184 #[.slice none 0 0, .agg S1, .func (.func 185) #[] #[]] w fun e w' => e = .returned (.tuple #[.int .i64 0, .bool false]) ∧ Below w.heap.size w w' := by
 go_enter Tryz.func184, Tryz.ntmps184
 go_wp2_with (first
   | ((with_reducible refine Ac (N := 4) rfl ?_); refine Aj (N := 4) (C := S1) rfl rfl (by first | (go_simp; done) | (go_simp; rfl)) ?_; intro g2 w1 h2 b2 f1))
 refine wp_loop_rounds 2 ?_
 rw [rounds_succ]
 go_wp2_with fail
 go_quiet (fail)
 go_wp2_with fail
 go_returns
 exact ⟨rfl, Ae f1.out _⟩
theorem Ku (w : World) (c : Nat) (hc : Bk w c #[.slice none 0 0] 213) : Calls Tryz.prog 134 #[.pointer (some ⟨c, 0, none⟩), .agg S1] w fun e w' => e = .returned (.tuple #[.int .i64 0, .bool false]) ∧ Below w.heap.size w w' := by
 replace hc := Aa.mk hc
 go_enter Tryz.func134, Tryz.ntmps134
 go_wp2_with (first
   | ((with_reducible refine Ac (N := 3) rfl ?_); refine Aj (N := 3) (C := S1) rfl rfl (by first | (go_simp; done) | (go_simp; rfl)) ?_; intro g2 w1 h2 b2 f1; have hc1 := Aa.mk (hc.out.Ad f1.out)))
 refine wp_region_noPanic ?_
 go_region_held_law (fun w' => w'.cell? ⟨c, 0, none⟩ = some (.slice none 0 0) ∧ w'.cell? ⟨g2, 0, none⟩ = some (.int .i64 1) ∧ w'.cell? ⟨g2, 1, none⟩ = some (.int .u8 0) ∧ Bk w' c #[.slice none 0 0] 213 ∧ Bk w' g2 S1 32)
   ((first | exact ⟨Bk.cell hc1.out.drew rfl, Bk.cell b2.out.drew rfl, Bk.cell b2.out.drew rfl, hc1.out.drew, b2.out.drew⟩ | exact ⟨Bk.cell (hc1.out.drew.Ad (Aa.out f3)) rfl, Bk.cell (b2.out.drew.Ad (Aa.out f3)) rfl, Bk.cell (b2.out.drew.Ad (Aa.out f3)) rfl, hc1.out.drew.Ad (Aa.out f3), b2.out.drew.Ad (Aa.out f3)⟩))
   ((go_at_call 184; refine (PR _).mono ?_; rintro e w3 ⟨rfl, f3⟩; replace f3 := Aa.mk f3))
 refine NoPanic.normal ?_
 go_wp2_with fail
 go_returns
 have h := f1.out.size
 exact ⟨rfl, f1.out.trans ((Ag (Below.refl _ _)).trans (f3.out.mono h))⟩
theorem Wn (w : World) (c : Nat) (hc : Bk w c #[.slice none 0 0] 213) : Calls Tryz.prog 127 #[.pointer (some ⟨c, 0, none⟩), .agg S1] w fun e w' => e = .returned (.bool false) ∧ Below w.heap.size w w' := by
 replace hc := Aa.mk hc
 go_enter Tryz.func127, Tryz.ntmps127
 go_wp2_with (first
   | ((with_reducible refine Ac (N := 3) rfl ?_); refine Aj (N := 3) (C := S1) rfl rfl (by first | (go_simp; done) | (go_simp; rfl)) ?_; intro g2 w1 h2 b2 f1; have hc1 := Aa.mk (hc.out.Ad f1.out); have c0 : w1.cell? ⟨g2, 0, none⟩ = some (.int .i64 1) := Bk.cell b2.out rfl; have c1 : w1.cell? ⟨g2, 1, none⟩ = some (.int .u8 0) := Bk.cell b2.out rfl)
   | (go_at_call 134; refine (Ku _ _ hc1.out).mono ?_; rintro e w3 ⟨rfl, f3⟩; replace f3 := Aa.mk f3))
 go_returns
 have h := f1.out.size
 exact ⟨rfl, f1.out.trans (f3.out.mono h)⟩
theorem V7 (w : World) (c : Nat) (hc : Bk w c #[.slice none 0 0] 213) : Calls Tryz.prog 179 #[.pointer (some ⟨c, 0, none⟩)] w fun e w' => e = .returned (.int .i64 0) ∧ w' = w := by
 have c0 : w.cell? ⟨c, 0, none⟩ = some (.slice none 0 0) := Bk.cell hc rfl
 clear hc
 go_enter Tryz.func179, Tryz.ntmps179
 go_wp2_with fail
 go_returns
 exact ⟨rfl, rfl⟩
theorem Ko (w : World) : Calls Tryz.prog 29 #[.agg S1] w fun e w' => e = .returned (.bool true) ∧ Below w.heap.size w w' := by
 go_enter Tryz.func29, Tryz.ntmps29
 go_wp2_with (first
   | ((with_reducible refine Ac (N := 1) rfl ?_); refine Aj (N := 1) (C := S1) rfl rfl (by first | (go_simp; done) | (go_simp; rfl)) ?_; intro g2 w1 h2 b2 f1; have c0 : w1.cell? ⟨g2, 0, none⟩ = some (.int .i64 1) := Bk.cell b2.out rfl))
 go_returns
 exact ⟨rfl, f1.out⟩
theorem RZ (w : World) (a : Option Addr) (c : Nat) : Calls Tryz.prog 115 #[.slice a 1 c] w fun e w' => e = .returned (.bool true) ∧ w' = w := by
 go_enter Tryz.func115, Tryz.ntmps115
 go_wp2_with fail
 go_returns
 exact ⟨rfl, rfl⟩
abbrev VX : Array Value := #[.int .i64 1, .int .u8 0, .string ⟨#[120]⟩, .bool false]
theorem Lm : (Tryz.prog.info? 116).map (fun i => (i.zero, i.size, i.bytes)) = some (some (.agg V0), 4, 40) := by kernel_rfl
theorem Tt (w : World) (g : Nat) (hb : Bk w g VX 116) : Calls Tryz.prog 135 #[.slice none 0 0, .int .i64 0, .slice (some ⟨g, 0, none⟩) 1 1] w fun e w' => ∃ a n c, e = .returned (.slice a n c) ∧ Below w.heap.size w w' := by
 obtain ⟨i0, hi, hz0, hz1, hz2⟩ := info_parts Lm
 have c0 : w.cell? ⟨g, 0, none⟩ = some (.int .i64 1) := Bk.cell hb rfl
 have c1 : w.cell? ⟨g, 1, none⟩ = some (.int .u8 0) := Bk.cell hb rfl
 have c2 : w.cell? ⟨g, 2, none⟩ = some (.string ⟨#[120]⟩) := Bk.cell hb rfl
 have c3 : w.cell? ⟨g, 3, none⟩ = some (.bool false) := Bk.cell hb rfl
 have hn : Aa (∀ j u, ([.int .i64 1, .int .u8 0, .string ⟨#[120]⟩, .bool false] : List Value)[j]? = some u → w.cell? ((⟨g, 0, none⟩ : Addr).add j) = some u) := ⟨fun j u hj => by
   rw [Addr.add_mid, Nat.zero_add]
   exact hb.cell (by simpa using hj)⟩
 have hi' := Aa.mk hi
 have hz0' := Aa.mk hz0
 have hz1' := Aa.mk hz1
 have hz2' := Aa.mk hz2
 clear hi hz0 hz1 hz2 hb c0 c1 c2 c3
 go_enter Tryz.func135, Tryz.ntmps135
 go_wp2_with (first
   | (at_builtin; refine wpList_append_own_at _ rfl _ _ 114 rfl w.heap.size 116 i0 (.agg V0) 4 40 Tryz.underlying114 hi'.out hz0'.out hz1'.out hz2'.out rfl (by decide) _ 0 [] rfl (World.ownsRow_nil _ _ _ _) ⟨g, 0, none⟩ 1 1 [.int .i64 1, .int .u8 0, .string ⟨#[120]⟩, .bool false] rfl rfl hn.out (by simp [Value.oneCell']) (by simp [maxLen]) (by simp) (Nat.le_refl _) ?_; intro v1 w1 ho hg hnil hat))
 go_returns
 obtain ⟨g', cap', rfl⟩ := ownsRow_succ ho
 exact ⟨_, _, _, rfl, (Below.refl _ w).grown hg (Nat.le_refl _) (fun k hk => by cases hk)⟩
theorem LG {w' : World} {g : Nat} (h : Bk w' g VX 116) : w'.cell? ⟨g, 0, none⟩ = some (.int .i64 1) ∧ w'.cell? ⟨g, 1, none⟩ = some (.int .u8 0) ∧ w'.cell? ⟨g, 2, none⟩ = some (.string ⟨#[120]⟩) ∧ w'.cell? ⟨g, 3, none⟩ = some (.bool false) ∧ Bk w' g VX 116 :=
 ⟨h.cell rfl, h.cell rfl, h.cell rfl, h.cell rfl, h⟩
theorem Vo (w : World) (c : Nat) (hc : Bk w c #[.slice none 0 0] 213) : Calls Tryz.prog 95 #[.pointer (some ⟨c, 0, none⟩), .agg VX] w fun e w' => e = .returned (.int .i64 0) ∧ Fr (fun k => k = c) w w' := by
 replace hc := Aa.mk hc
 go_enter Tryz.func95, Tryz.ntmps95
 go_wp2_with (first
   | ((with_reducible refine Ac (N := 3) rfl ?_); refine Aj (N := 3) (C := VX) rfl rfl (by first | (go_simp; done) | (go_simp; rfl)) ?_; intro g3 w1 h3 b3 f1; have hc1 := Aa.mk (hc.out.Ad f1.out); obtain ⟨c0, c1, c2, c3, _⟩ := LG b3.out)
   | (go_at_call 29; refine (Ko _).mono ?_; rintro e w2 ⟨rfl, f2⟩; replace f2 := Aa.mk f2; have hc2 := Aa.mk (hc1.out.Ad f2.out); have b32 := Aa.mk (b3.out.Ad f2.out); clear c0 c1 c2 c3; obtain ⟨c0, c1, c2, c3, _⟩ := LG b32.out)
   | (go_at_call 134; refine (Ku _ _ hc2.out).mono ?_; rintro e w3 ⟨rfl, f3⟩; replace f3 := Aa.mk f3; have hc3 := Aa.mk (hc2.out.Ad f3.out); have b33 := Aa.mk (b32.out.Ad f3.out); clear c0 c1 c2 c3; have x0 : w3.cell? ⟨c, 0, none⟩ = some (.slice none 0 0) := Bk.cell hc3.out rfl))
 have hne : Aa (g3 ≠ c) := ⟨by have := hc.out.lt; have := h3.out; omega⟩
 have x1 : ∀ o, (w3.alloc o).cell? ⟨c, 0, none⟩ = some (.slice none 0 0) := fun o => Bk.cell (hc3.out.alloc o) rfl
 obtain ⟨c0, c1, c2, c3, _⟩ := LG b33.out
 go_region_with (go_at_call 135; refine (Tt _ _ (Ob.drew (Ob.new w3 (.cells VX 116)))).mono ?_; rintro e w6 ⟨a6, n6, k6, rfl, f6⟩; replace f6 := Aa.mk f6; have b36 := Aa.mk (Ob.Ad (b33.out.alloc (.cells VX 116)).drew f6.out); have hc6 := Aa.mk (Ob.Ad (hc3.out.alloc (.cells VX 116)).drew f6.out); have y0 := Bk.isSome hc6.out (j := 0) (by decide); have y1 := Bk.free hc6.out 0; have y2 : w6.cell? ⟨c, 0, none⟩ = some (.slice none 0 0) := Bk.cell hc6.out rfl)
 all_goals go_wp2_with fail
 all_goals go_returns
 all_goals exact ⟨rfl, ((((Fr.of_below f1.out).trans (Fr.of_below f2.out)).trans (Fr.of_below f3.out)).trans (((Fr.refl _ w3).alloc _).drew)).trans (Fr.of_below f6.out) |>.set c 0 _ (.inl rfl)⟩
theorem UW {w' : World} {st ch g : Nat} (hs : Bk w' st #[.map (some ch)] 158) (hm : Mp w' ch #[] 0) (h : Bk w' g WA 105) :
   w'.cell? ⟨st, 0, none⟩ = some (.map (some ch)) ∧ w'.rangeAt g 0 KA.toList ∧ (Instr.lookup 156 (.map (some ch)) (.agg KA) false).run Tryz.prog w' = .ok (.pointer none) w' ∧ Bk w' st #[.map (some ch)] 158 ∧ Mp w' ch #[] 0 ∧ Bk w' g WA 105 :=
 ⟨hs.cell rfl, h.range 0 16 FO, CV (ok := false) hm Tryz.underlying156 (Xg _) Ed (z := .pointer none) (fun _ => by kernel_rfl), hs, hm, h⟩
theorem RX (w : World) (st ch g n : Nat) (hs : Bk w st #[.map (some ch)] 158) (hm : Mp w ch #[] 0) {C : Array Value} (hC : (C.extract 0 (0 + 18)).toList = WA.toList) (hb : Bk w g C 105) :
   Calls Tryz.prog 128 #[.pointer (some ⟨st, 0, none⟩), .slice (some ⟨g, 0, none⟩) 1 n] w fun e w' => e = .returned (.bool true) ∧ Below w.heap.size w w' := by
 have s0 : w.cell? ⟨st, 0, none⟩ = some (.map (some ch)) := Bk.cell hs rfl
 have hlen := run_len_map hm Tryz.underlying156 3
 replace hs := Aa.mk hs
 replace hm := Aa.mk hm
 replace hb := Aa.mk hb
 go_enter Tryz.func128, Tryz.ntmps128
 go_wp2_with fail
 refine wp_loop_rounds 3 ?_
 rw [rounds_succ]
 clear hlen s0
 go_wp2_with (first
   | ((with_reducible refine Ac (N := 18) rfl ?_); refine Au (N := 18) rfl rfl rfl rfl hb.out Tryz.underlying105 rfl Bl WA.toList hC rfl ?_)
   | ((with_reducible refine Ac (N := 7) rfl ?_); refine Aj (N := 7) (C := Z18) rfl rfl (by first | (go_simp; done) | (go_simp; rfl)) ?_; intro g7 w1 h7 b7 f1; have hs1 := Aa.mk (hs.out.Ad f1.out); have hm1 := Aa.mk (hm.out.Ad f1.out))
   | ((with_reducible refine Af (t := 105) (p := 7) (v := .tmp 18) rfl ?_); refine Ak rfl (ty := 105) (x := .tmp 7) (y := .tmp 18) rfl rfl rfl b7.out Bl IV (by decide) WA Fp ?_; intro w2 b72 f2; have hs2 := Aa.mk (hs1.out.fr f2.out (by have := hs.out.lt; have := h7.out; omega)); have hm2 := Aa.mk (hm1.out.fr f2.out (by have := hm.out.lt; have := h7.out; omega))))
 have u79 := Tryz.underlying103
 have i79 : (Tryz.prog.info? 103).map (·.size) = some KA.toList.length := AB
 refine wp_region_noPanic ?_
 go_region_held_law (fun w' => w'.cell? ⟨st, 0, none⟩ = some (.map (some ch)) ∧ w'.rangeAt g7 0 KA.toList ∧ (Instr.lookup 156 (.map (some ch)) (.agg KA) false).run Tryz.prog w' = .ok (.pointer none) w' ∧ Bk w' st #[.map (some ch)] 158 ∧ Mp w' ch #[] 0 ∧ Bk w' g7 WA 105)
   ((first | exact UW hs2.out.drew hm2.out.drew b72.out.drew))
   (fail)
 refine NoPanic.normal ?_
 clear u79 i79
 go_wp2_with (first
   | ((with_reducible refine Ac (N := 31) rfl ?_); refine Au (N := 31) rfl rfl rfl rfl b72.out.drew Tryz.underlying103 rfl AB KA.toList FO rfl ?_)
   | (go_at_call 92; refine (D5 _ _ _ hs2.out.drew hm2.out.drew).mono ?_; rintro e w3 ⟨p, rfl, hp, bp, f3⟩; replace f3 := Aa.mk f3; replace bp := Aa.mk bp)
   | (go_at_call 179; refine (V7 _ _ bp.out).mono ?_; rintro e w4 ⟨rfl, rfl⟩))
 rw [rounds_succ]
 go_wp2_with fail
 go_returns
 have := h7.out
 exact ⟨rfl, ((((Fr.of_below f1.out).trans f2.out).drew).trans (Fr.of_below f3.out)).below (T := fun k => k = g7) (by omega) (Nat.le_refl _)⟩
theorem own_below {w w' : World} {base : Nat} {e : TypeId} {size : Nat} {v : Value} {n : Nat} {xs : List Value} (h : w.ownsRow base e size v n xs) (f : Below w.heap.size w w') : w'.ownsRow base e size v n xs := by
 refine ⟨h.1, ?_⟩
 rcases h.2 with h' | ⟨g, cap, cur, h1, h2, h3, h4⟩
 · exact .inl h'
 · exact .inr ⟨g, cap, cur, h1, h2, Ob.Ad h3 f, h4⟩
theorem AV {w : World} {base base' : Nat} {e : TypeId} {size : Nat} {v : Value} {n : Nat} {xs : List Value} (h : w.ownsRow base e size v n xs) (hb : base' ≤ base) : w.ownsRow base' e size v n xs := by
 refine ⟨h.1, ?_⟩
 rcases h.2 with h' | ⟨g, cap, cur, h1, h2, h3⟩
 · exact .inl h'
 · exact .inr ⟨g, cap, cur, h1, Nat.le_trans hb h2, h3⟩
theorem EN {W : World} {base : Nat} {e : TypeId} {size : Nat} {v : Value} {k : Nat} {xs : List Value} (h : W.ownsRow base e size v (k + 1) xs) : ∃ g cap, v = .slice (some ⟨g, 0, none⟩) (k + 1) cap ∧ base ≤ g := by
 rcases h.2 with ⟨_, h'⟩ | ⟨g, cap, cur, h1, h2, h3⟩
 · exact absurd h' (by omega)
 · exact ⟨g, cap, h1, h2⟩
theorem one_cell {w : World} {q : Nat} {y : Value} {t : Nat} (h : Bk w q #[y] t) : ∀ (i : Nat) (u : Value), ([y] : List Value)[i]? = some u → w.cell? ((⟨q, 0, none⟩ : Addr).add i) = some u := fun i u hj => by
 rw [Addr.add_mid, Nat.zero_add]
 exact h.cell (by simpa using hj)
theorem Xk : (Tryz.prog.info? 9).map (fun i => (i.zero, i.size, i.bytes)) = some (some (.string ⟨#[]⟩), 1, 16) := by kernel_rfl
theorem Jw : Lib.splitB ⟨#[32]⟩ 0 (Lib.countB ⟨#[98, 101, 103, 105, 110]⟩ ⟨#[32]⟩) ⟨#[98, 101, 103, 105, 110]⟩ = [⟨#[98, 101, 103, 105, 110]⟩] ∧ Lib.countB ⟨#[98, 101, 103, 105, 110]⟩ ⟨#[32]⟩ + 1 = 1 := by decide +kernel
theorem PL (w : World) (m : Int) (hm : w.cell? ⟨0, 0, none⟩ = some (.int .i64 m)) :
   Calls Tryz.prog 59 #[.string ⟨#[98, 101, 103, 105, 110]⟩] w fun e w' => ∃ g cap, e = .returned (.slice (some ⟨g, 0, none⟩) 1 cap) ∧ w.heap.size ≤ g ∧ w'.ownsRow w.heap.size 9 1 (.slice (some ⟨g, 0, none⟩) 1 cap) 1 [.string ⟨#[98, 101, 103, 105, 110]⟩] ∧ Below w.heap.size w w' := by
 have hsp : Calls Tryz.prog 58 #[.string ⟨#[98, 101, 103, 105, 110]⟩, .string ⟨#[32]⟩] w fun e w' => e = .returned (.slice (some ⟨w.heap.size, 0, none⟩) 1 1) ∧ w' = w.alloc (.cells #[.string ⟨#[98, 101, 103, 105, 110]⟩] 9) :=
   (Tryz.strings_Split _ _ m w (by decide) hm (by decide)).mono fun e w' h => by rw [Jw.1, Jw.2] at h; exact h
 obtain ⟨i0, hi, hz0, hz1, hz2⟩ := info_parts Xk
 replace hi := Aa.mk hi
 replace hz0 := Aa.mk hz0
 replace hz1 := Aa.mk hz1
 replace hz2 := Aa.mk hz2
 clear hm
 go_enter Tryz.func59, Tryz.ntmps59
 go_wp2_with (first
   | (go_at_call 58; refine hsp.mono ?_; clear hsp; rintro e w0 ⟨rfl, rfl⟩))
 have b0 := Aa.mk (Ob.new w (.cells #[.string ⟨#[98, 101, 103, 105, 110]⟩] 9))
 have f0 : Aa (Below w.heap.size w (w.alloc (.cells #[.string ⟨#[98, 101, 103, 105, 110]⟩] 9))) := ⟨Ah (Below.refl _ _) _⟩
 have hl := Aa.mk b0.out.lt
 generalize w.alloc (.cells #[.string ⟨#[98, 101, 103, 105, 110]⟩] 9) = w0 at *
 generalize hsz : w.heap.size = sp at b0 hl ⊢
 have F0 : Aa (Below w0.heap.size w0 w0) := ⟨Below.refl _ _⟩
 have o0 : Aa (w0.ownsRow w0.heap.size 9 1 (.slice none 0 0) 0 []) := ⟨World.ownsRow_nil _ _ _ _⟩
 clear hsz
 refine wp_loop_rounds 2 ?_
 have c0 : w0.cell? ⟨sp, 0, none⟩ = some (.string ⟨#[98, 101, 103, 105, 110]⟩) := Bk.cell b0.out rfl
 rw [rounds_succ]
 go_wp2_with (first
   | ((with_reducible refine Ac (N := 17) rfl ?_); refine Cb (N := 17) (n := 1) (C := #[.string ⟨#[98, 101, 103, 105, 110]⟩]) rfl rfl (by first | (go_simp; done) | (go_simp; rfl)) ?_; intro q0 u0 hq0 bq0 fq0; have o0' := Aa.mk (own_below o0.out fq0.out); have hn0 := Aa.mk (one_cell bq0.out); have F0' : Aa (Below w0.heap.size w0 u0) := ⟨F0.out.trans (fq0.out.mono F0.out.size)⟩; clear c0)
   | (at_builtin; refine wpList_append_own_at _ rfl _ _ 118 rfl w0.heap.size 9 i0 (.string ⟨#[]⟩) 1 16 Tryz.underlying118 hi.out hz0.out hz1.out hz2.out rfl (by decide) _ 0 [] rfl o0'.out ⟨q0, 0, none⟩ 1 1 [.string ⟨#[98, 101, 103, 105, 110]⟩] rfl rfl hn0.out (by simp [Value.oneCell']) (by simp [maxLen]) (by simp) F0'.out.size ?_
      intro v1 w1 ho hg hnil hat
      obtain ⟨g1, k1, rfl, hb⟩ := EN ho
      have o1 := Aa.mk ho
      have F1 : Aa (Below w0.heap.size w0 w1) := ⟨F0'.out.grown hg F0'.out.size (fun k hk => by cases hk)⟩
      have b1 := Aa.mk (Ob.below b0.out F1.out hl.out)
      have G1 := Aa.mk hb
      clear ho hg hnil hat hb))
 rw [rounds_succ]
 go_wp2_with fail
 go_returns
 exact ⟨g1, k1, rfl, Nat.le_trans f0.out.size G1.out, AV o1.out f0.out.size, f0.out.trans (F1.out.mono f0.out.size)⟩
theorem NK : Lib.splitB ⟨#[32]⟩ 0 (Lib.countB ⟨#[112, 117, 116, 32, 49, 32, 97, 32, 120]⟩ ⟨#[32]⟩) ⟨#[112, 117, 116, 32, 49, 32, 97, 32, 120]⟩ = [⟨#[112, 117, 116]⟩, ⟨#[49]⟩, ⟨#[97]⟩, ⟨#[120]⟩] ∧ Lib.countB ⟨#[112, 117, 116, 32, 49, 32, 97, 32, 120]⟩ ⟨#[32]⟩ + 1 = 4 := by decide +kernel
theorem UI (w : World) (m : Int) (hm : w.cell? ⟨0, 0, none⟩ = some (.int .i64 m)) :
   Calls Tryz.prog 59 #[.string ⟨#[112, 117, 116, 32, 49, 32, 97, 32, 120]⟩] w fun e w' => ∃ g cap, e = .returned (.slice (some ⟨g, 0, none⟩) 4 cap) ∧ w.heap.size ≤ g ∧ w'.ownsRow w.heap.size 9 1 (.slice (some ⟨g, 0, none⟩) 4 cap) 4 [.string ⟨#[112, 117, 116]⟩, .string ⟨#[49]⟩, .string ⟨#[97]⟩, .string ⟨#[120]⟩] ∧ Below w.heap.size w w' := by
 have hsp : Calls Tryz.prog 58 #[.string ⟨#[112, 117, 116, 32, 49, 32, 97, 32, 120]⟩, .string ⟨#[32]⟩] w fun e w' => e = .returned (.slice (some ⟨w.heap.size, 0, none⟩) 4 4) ∧ w' = w.alloc (.cells #[.string ⟨#[112, 117, 116]⟩, .string ⟨#[49]⟩, .string ⟨#[97]⟩, .string ⟨#[120]⟩] 9) :=
   (Tryz.strings_Split _ _ m w (by decide) hm (by decide)).mono fun e w' h => by rw [NK.1, NK.2] at h; exact h
 obtain ⟨i0, hi, hz0, hz1, hz2⟩ := info_parts Xk
 replace hi := Aa.mk hi
 replace hz0 := Aa.mk hz0
 replace hz1 := Aa.mk hz1
 replace hz2 := Aa.mk hz2
 clear hm
 go_enter Tryz.func59, Tryz.ntmps59
 go_wp2_with (first
   | (go_at_call 58; refine hsp.mono ?_; clear hsp; rintro e w0 ⟨rfl, rfl⟩))
 have b0 := Aa.mk (Ob.new w (.cells #[.string ⟨#[112, 117, 116]⟩, .string ⟨#[49]⟩, .string ⟨#[97]⟩, .string ⟨#[120]⟩] 9))
 have f0 : Aa (Below w.heap.size w (w.alloc (.cells #[.string ⟨#[112, 117, 116]⟩, .string ⟨#[49]⟩, .string ⟨#[97]⟩, .string ⟨#[120]⟩] 9))) := ⟨Ah (Below.refl _ _) _⟩
 have hl := Aa.mk b0.out.lt
 generalize w.alloc (.cells #[.string ⟨#[112, 117, 116]⟩, .string ⟨#[49]⟩, .string ⟨#[97]⟩, .string ⟨#[120]⟩] 9) = w0 at *
 generalize hsz : w.heap.size = sp at b0 hl ⊢
 have F0 : Aa (Below w0.heap.size w0 w0) := ⟨Below.refl _ _⟩
 have o0 : Aa (w0.ownsRow w0.heap.size 9 1 (.slice none 0 0) 0 []) := ⟨World.ownsRow_nil _ _ _ _⟩
 clear hsz
 refine wp_loop_rounds 5 ?_
 have c0 : w0.cell? ⟨sp, 0, none⟩ = some (.string ⟨#[112, 117, 116]⟩) := Bk.cell b0.out rfl
 rw [rounds_succ]
 go_wp2_with (first
   | ((with_reducible refine Ac (N := 17) rfl ?_); refine Cb (N := 17) (n := 1) (C := #[.string ⟨#[112, 117, 116]⟩]) rfl rfl (by first | (go_simp; done) | (go_simp; rfl)) ?_; intro q0 u0 hq0 bq0 fq0; have o0' := Aa.mk (own_below o0.out fq0.out); have hn0 := Aa.mk (one_cell bq0.out); have F0' : Aa (Below w0.heap.size w0 u0) := ⟨F0.out.trans (fq0.out.mono F0.out.size)⟩; clear c0)
   | (at_builtin; refine wpList_append_own_at _ rfl _ _ 118 rfl w0.heap.size 9 i0 (.string ⟨#[]⟩) 1 16 Tryz.underlying118 hi.out hz0.out hz1.out hz2.out rfl (by decide) _ 0 [] rfl o0'.out ⟨q0, 0, none⟩ 1 1 [.string ⟨#[112, 117, 116]⟩] rfl rfl hn0.out (by simp [Value.oneCell']) (by simp [maxLen]) (by simp) F0'.out.size ?_
      intro v1 w1 ho hg hnil hat
      obtain ⟨g1, k1, rfl, hb⟩ := EN ho
      have o1 := Aa.mk ho
      have F1 : Aa (Below w0.heap.size w0 w1) := ⟨F0'.out.grown hg F0'.out.size (fun k hk => by cases hk)⟩
      have b1 := Aa.mk (Ob.below b0.out F1.out hl.out)
      have G1 := Aa.mk hb
      clear ho hg hnil hat hb))
 have c1 : w1.cell? ⟨sp, 1, none⟩ = some (.string ⟨#[49]⟩) := Bk.cell b1.out rfl
 rw [rounds_succ]
 go_wp2_with (first
   | ((with_reducible refine Ac (N := 17) rfl ?_); refine Cb (N := 17) (n := 1) (C := #[.string ⟨#[49]⟩]) rfl rfl (by first | (go_simp; done) | (go_simp; rfl)) ?_; intro q1 u1 hq1 bq1 fq1; have o1' := Aa.mk (own_below o1.out fq1.out); have hn1 := Aa.mk (one_cell bq1.out); have F1' : Aa (Below w0.heap.size w0 u1) := ⟨F1.out.trans (fq1.out.mono F1.out.size)⟩; clear c1)
   | (at_builtin; refine wpList_append_own_at _ rfl _ _ 118 rfl w0.heap.size 9 i0 (.string ⟨#[]⟩) 1 16 Tryz.underlying118 hi.out hz0.out hz1.out hz2.out rfl (by decide) _ 1 [.string ⟨#[112, 117, 116]⟩] rfl o1'.out ⟨q1, 0, none⟩ 1 1 [.string ⟨#[49]⟩] rfl rfl hn1.out (by simp [Value.oneCell']) (by simp [maxLen]) (by simp) F1'.out.size ?_
      intro v2 w2 ho hg hnil hat
      obtain ⟨g2, k2, rfl, hb⟩ := EN ho
      have o2 := Aa.mk ho
      have F2 : Aa (Below w0.heap.size w0 w2) := ⟨F1'.out.grown hg F1'.out.size (fun k hk => Option.some.inj hk ▸ G1.out)⟩
      have b2 := Aa.mk (Ob.below b0.out F2.out hl.out)
      have G2 := Aa.mk hb
      clear ho hg hnil hat hb))
 have c2 : w2.cell? ⟨sp, 2, none⟩ = some (.string ⟨#[97]⟩) := Bk.cell b2.out rfl
 rw [rounds_succ]
 go_wp2_with (first
   | ((with_reducible refine Ac (N := 17) rfl ?_); refine Cb (N := 17) (n := 1) (C := #[.string ⟨#[97]⟩]) rfl rfl (by first | (go_simp; done) | (go_simp; rfl)) ?_; intro q2 u2 hq2 bq2 fq2; have o2' := Aa.mk (own_below o2.out fq2.out); have hn2 := Aa.mk (one_cell bq2.out); have F2' : Aa (Below w0.heap.size w0 u2) := ⟨F2.out.trans (fq2.out.mono F2.out.size)⟩; clear c2)
   | (at_builtin; refine wpList_append_own_at _ rfl _ _ 118 rfl w0.heap.size 9 i0 (.string ⟨#[]⟩) 1 16 Tryz.underlying118 hi.out hz0.out hz1.out hz2.out rfl (by decide) _ 2 [.string ⟨#[112, 117, 116]⟩, .string ⟨#[49]⟩] rfl o2'.out ⟨q2, 0, none⟩ 1 1 [.string ⟨#[97]⟩] rfl rfl hn2.out (by simp [Value.oneCell']) (by simp [maxLen]) (by simp) F2'.out.size ?_
      intro v3 w3 ho hg hnil hat
      obtain ⟨g3, k3, rfl, hb⟩ := EN ho
      have o3 := Aa.mk ho
      have F3 : Aa (Below w0.heap.size w0 w3) := ⟨F2'.out.grown hg F2'.out.size (fun k hk => Option.some.inj hk ▸ G2.out)⟩
      have b3 := Aa.mk (Ob.below b0.out F3.out hl.out)
      have G3 := Aa.mk hb
      clear ho hg hnil hat hb))
 have c3 : w3.cell? ⟨sp, 3, none⟩ = some (.string ⟨#[120]⟩) := Bk.cell b3.out rfl
 rw [rounds_succ]
 go_wp2_with (first
   | ((with_reducible refine Ac (N := 17) rfl ?_); refine Cb (N := 17) (n := 1) (C := #[.string ⟨#[120]⟩]) rfl rfl (by first | (go_simp; done) | (go_simp; rfl)) ?_; intro q3 u3 hq3 bq3 fq3; have o3' := Aa.mk (own_below o3.out fq3.out); have hn3 := Aa.mk (one_cell bq3.out); have F3' : Aa (Below w0.heap.size w0 u3) := ⟨F3.out.trans (fq3.out.mono F3.out.size)⟩; clear c3)
   | (at_builtin; refine wpList_append_own_at _ rfl _ _ 118 rfl w0.heap.size 9 i0 (.string ⟨#[]⟩) 1 16 Tryz.underlying118 hi.out hz0.out hz1.out hz2.out rfl (by decide) _ 3 [.string ⟨#[112, 117, 116]⟩, .string ⟨#[49]⟩, .string ⟨#[97]⟩] rfl o3'.out ⟨q3, 0, none⟩ 1 1 [.string ⟨#[120]⟩] rfl rfl hn3.out (by simp [Value.oneCell']) (by simp [maxLen]) (by simp) F3'.out.size ?_
      intro v4 w4 ho hg hnil hat
      obtain ⟨g4, k4, rfl, hb⟩ := EN ho
      have o4 := Aa.mk ho
      have F4 : Aa (Below w0.heap.size w0 w4) := ⟨F3'.out.grown hg F3'.out.size (fun k hk => Option.some.inj hk ▸ G3.out)⟩
      have b4 := Aa.mk (Ob.below b0.out F4.out hl.out)
      have G4 := Aa.mk hb
      clear ho hg hnil hat hb))
 rw [rounds_succ]
 go_wp2_with fail
 go_returns
 exact ⟨g4, k4, rfl, Nat.le_trans f0.out.size G4.out, AV o4.out f0.out.size, f0.out.trans (F4.out.mono f0.out.size)⟩
theorem Ii : Lib.splitB ⟨#[32]⟩ 0 (Lib.countB ⟨#[99, 111, 109, 109, 105, 116, 32, 49]⟩ ⟨#[32]⟩) ⟨#[99, 111, 109, 109, 105, 116, 32, 49]⟩ = [⟨#[99, 111, 109, 109, 105, 116]⟩, ⟨#[49]⟩] ∧ Lib.countB ⟨#[99, 111, 109, 109, 105, 116, 32, 49]⟩ ⟨#[32]⟩ + 1 = 2 := by decide +kernel
theorem Ol (w : World) (m : Int) (hm : w.cell? ⟨0, 0, none⟩ = some (.int .i64 m)) :
   Calls Tryz.prog 59 #[.string ⟨#[99, 111, 109, 109, 105, 116, 32, 49]⟩] w fun e w' => ∃ g cap, e = .returned (.slice (some ⟨g, 0, none⟩) 2 cap) ∧ w.heap.size ≤ g ∧ w'.ownsRow w.heap.size 9 1 (.slice (some ⟨g, 0, none⟩) 2 cap) 2 [.string ⟨#[99, 111, 109, 109, 105, 116]⟩, .string ⟨#[49]⟩] ∧ Below w.heap.size w w' := by
 have hsp : Calls Tryz.prog 58 #[.string ⟨#[99, 111, 109, 109, 105, 116, 32, 49]⟩, .string ⟨#[32]⟩] w fun e w' => e = .returned (.slice (some ⟨w.heap.size, 0, none⟩) 2 2) ∧ w' = w.alloc (.cells #[.string ⟨#[99, 111, 109, 109, 105, 116]⟩, .string ⟨#[49]⟩] 9) :=
   (Tryz.strings_Split _ _ m w (by decide) hm (by decide)).mono fun e w' h => by rw [Ii.1, Ii.2] at h; exact h
 obtain ⟨i0, hi, hz0, hz1, hz2⟩ := info_parts Xk
 replace hi := Aa.mk hi
 replace hz0 := Aa.mk hz0
 replace hz1 := Aa.mk hz1
 replace hz2 := Aa.mk hz2
 clear hm
 go_enter Tryz.func59, Tryz.ntmps59
 go_wp2_with (first
   | (go_at_call 58; refine hsp.mono ?_; clear hsp; rintro e w0 ⟨rfl, rfl⟩))
 have b0 := Aa.mk (Ob.new w (.cells #[.string ⟨#[99, 111, 109, 109, 105, 116]⟩, .string ⟨#[49]⟩] 9))
 have f0 : Aa (Below w.heap.size w (w.alloc (.cells #[.string ⟨#[99, 111, 109, 109, 105, 116]⟩, .string ⟨#[49]⟩] 9))) := ⟨Ah (Below.refl _ _) _⟩
 have hl := Aa.mk b0.out.lt
 generalize w.alloc (.cells #[.string ⟨#[99, 111, 109, 109, 105, 116]⟩, .string ⟨#[49]⟩] 9) = w0 at *
 generalize hsz : w.heap.size = sp at b0 hl ⊢
 have F0 : Aa (Below w0.heap.size w0 w0) := ⟨Below.refl _ _⟩
 have o0 : Aa (w0.ownsRow w0.heap.size 9 1 (.slice none 0 0) 0 []) := ⟨World.ownsRow_nil _ _ _ _⟩
 clear hsz
 refine wp_loop_rounds 3 ?_
 have c0 : w0.cell? ⟨sp, 0, none⟩ = some (.string ⟨#[99, 111, 109, 109, 105, 116]⟩) := Bk.cell b0.out rfl
 rw [rounds_succ]
 go_wp2_with (first
   | ((with_reducible refine Ac (N := 17) rfl ?_); refine Cb (N := 17) (n := 1) (C := #[.string ⟨#[99, 111, 109, 109, 105, 116]⟩]) rfl rfl (by first | (go_simp; done) | (go_simp; rfl)) ?_; intro q0 u0 hq0 bq0 fq0; have o0' := Aa.mk (own_below o0.out fq0.out); have hn0 := Aa.mk (one_cell bq0.out); have F0' : Aa (Below w0.heap.size w0 u0) := ⟨F0.out.trans (fq0.out.mono F0.out.size)⟩; clear c0)
   | (at_builtin; refine wpList_append_own_at _ rfl _ _ 118 rfl w0.heap.size 9 i0 (.string ⟨#[]⟩) 1 16 Tryz.underlying118 hi.out hz0.out hz1.out hz2.out rfl (by decide) _ 0 [] rfl o0'.out ⟨q0, 0, none⟩ 1 1 [.string ⟨#[99, 111, 109, 109, 105, 116]⟩] rfl rfl hn0.out (by simp [Value.oneCell']) (by simp [maxLen]) (by simp) F0'.out.size ?_
      intro v1 w1 ho hg hnil hat
      obtain ⟨g1, k1, rfl, hb⟩ := EN ho
      have o1 := Aa.mk ho
      have F1 : Aa (Below w0.heap.size w0 w1) := ⟨F0'.out.grown hg F0'.out.size (fun k hk => by cases hk)⟩
      have b1 := Aa.mk (Ob.below b0.out F1.out hl.out)
      have G1 := Aa.mk hb
      clear ho hg hnil hat hb))
 have c1 : w1.cell? ⟨sp, 1, none⟩ = some (.string ⟨#[49]⟩) := Bk.cell b1.out rfl
 rw [rounds_succ]
 go_wp2_with (first
   | ((with_reducible refine Ac (N := 17) rfl ?_); refine Cb (N := 17) (n := 1) (C := #[.string ⟨#[49]⟩]) rfl rfl (by first | (go_simp; done) | (go_simp; rfl)) ?_; intro q1 u1 hq1 bq1 fq1; have o1' := Aa.mk (own_below o1.out fq1.out); have hn1 := Aa.mk (one_cell bq1.out); have F1' : Aa (Below w0.heap.size w0 u1) := ⟨F1.out.trans (fq1.out.mono F1.out.size)⟩; clear c1)
   | (at_builtin; refine wpList_append_own_at _ rfl _ _ 118 rfl w0.heap.size 9 i0 (.string ⟨#[]⟩) 1 16 Tryz.underlying118 hi.out hz0.out hz1.out hz2.out rfl (by decide) _ 1 [.string ⟨#[99, 111, 109, 109, 105, 116]⟩] rfl o1'.out ⟨q1, 0, none⟩ 1 1 [.string ⟨#[49]⟩] rfl rfl hn1.out (by simp [Value.oneCell']) (by simp [maxLen]) (by simp) F1'.out.size ?_
      intro v2 w2 ho hg hnil hat
      obtain ⟨g2, k2, rfl, hb⟩ := EN ho
      have o2 := Aa.mk ho
      have F2 : Aa (Below w0.heap.size w0 w2) := ⟨F1'.out.grown hg F1'.out.size (fun k hk => Option.some.inj hk ▸ G1.out)⟩
      have b2 := Aa.mk (Ob.below b0.out F2.out hl.out)
      have G2 := Aa.mk hb
      clear ho hg hnil hat hb))
 rw [rounds_succ]
 go_wp2_with fail
 go_returns
 exact ⟨g2, k2, rfl, Nat.le_trans f0.out.size G2.out, AV o2.out f0.out.size, f0.out.trans (F2.out.mono f0.out.size)⟩
abbrev nmW : ByteArray := ⟨#[119]⟩
abbrev DkC (lives : Int) (pw : Bool) (m : Nat) : Array Value := #[.int .i64 262144, .int .i64 lives, .bool pw, .map (some m)]
abbrev FlC (v : Value) (s : Nat) : Array Value := #[v, .int .i64 s]
abbrev YB (f : Nat) : Array MapEntry := #[⟨.string nmW, .pointer (some ⟨f, 0, none⟩), 0⟩]
structure Dk0 (d m : Nat) (lives : Int) (pw : Bool) (w : World) : Prop where
 d : Bk w d (DkC lives pw m) 60
 m : Mp w m #[] 0
structure Dk1 (d m f : Nat) (lives : Int) (pw : Bool) (v : Value) (l : List Int) (s : Nat) (w : World) : Prop where
 d : Bk w d (DkC lives pw m) 60
 m : Mp w m (YB f) 1
 f : Bk w f (FlC v s) 87
 b : w.ownsRow 0 5 1 v l.length (l.map (Value.int .u8))
section
variable {d m f : Nat} {lives : Int} {pw : Bool} {v : Value} {l : List Int} {s : Nat} {w w' : World}
theorem Dk0.below (h : Dk0 d m lives pw w) (k : Below w.heap.size w w') : Dk0 d m lives pw w' := ⟨h.d.Ad k, h.m.Ad k⟩
theorem Dk1.below (h : Dk1 d m f lives pw v l s w) (k : Below w.heap.size w w') : Dk1 d m f lives pw v l s w' := ⟨h.d.Ad k, h.m.Ad k, h.f.Ad k, own_below h.b k⟩
end
theorem YH (e : Bool) (W : World) : (Instr.checkKey e 10000 9 (.string nmW)).run Tryz.prog W = .ok () W := by cases e <;> kernel_rfl
theorem Jm (W : World) : (Instr.findKey 9 (.string nmW) []).run Tryz.prog W = .ok none W := by kernel_rfl
theorem fk_w (v : Value) (n : Nat) (W : World) : (Instr.findKey 9 (.string nmW) [⟨.string nmW, v, n⟩]).run Tryz.prog W = .ok (some (0, v)) W := by kernel_rfl
theorem WP (W : World) : (zeroValue 85).run Tryz.prog W = .ok (.pointer none) W := by kernel_rfl
theorem Zl : Pgood.C9.f 20 nmW = some true := by decide +kernel
theorem Wx (w : World) : Calls Tryz.prog 5 #[.int .i64 262144] w fun e w' => ∃ d m, e = .returned (.tuple #[.pointer (some ⟨d, 0, none⟩), .int .i64 0]) ∧ w.heap.size ≤ d ∧ w.heap.size ≤ m ∧ Dk0 d m 1 true w' ∧ Below w.heap.size w w' := by
 go_enter Tryz.func5, Tryz.ntmps5
 go_wp2_with (first
   | ((with_reducible refine Ac (N := 11) rfl ?_); refine Ih (N := 11) rfl rfl (by first | (go_simp; done) | (go_simp; rfl)) ?_; intro m w1 hm bm f1)
   | ((with_reducible refine Ac (N := 13) rfl ?_); refine Aj (N := 13) (C := DkC 1 true m) rfl rfl (by first | (go_simp; done) | (go_simp; rfl)) ?_; intro d w2 hd bd f2))
 go_returns
 have := f1.out.size
 have := hd.out
 exact ⟨d, m, rfl, by omega, hm.out, ⟨bd.out, bm.out.Ad f2.out⟩, f1.out.trans (f2.out.mono (by omega))⟩
theorem IP (w : World) (d m g : Nat) (lives : Int) (hd : Bk w d (DkC lives true m) 60) (hg : Bk w g #[.string nmW] 9) :
   Calls Tryz.prog 73 #[.pointer (some ⟨d, 0, none⟩), .slice (some ⟨g, 0, none⟩) 1 1] w fun e w' => e = .returned (.int .i64 0) ∧ Az w w' := by
 have c2 : w.cell? ⟨d, 2, none⟩ = some (.bool true) := Bk.cell hd rfl
 have c0 : w.cell? ⟨g, 0, none⟩ = some (.string nmW) := Bk.cell hg rfl
 clear hd hg
 go_enter Tryz.func73, Tryz.ntmps73
 go_wp2_with fail
 refine wp_loop_rounds 2 ?_
 rw [rounds_succ]
 go_wp2_with (first
   | (go_at_call 119; refine (Pgood.C9.calls 20 _ _ _ Zl).mono ?_; rintro e w1 ⟨rfl, n, rfl⟩))
 rw [rounds_succ]
 go_wp2_with fail
 go_returns
 exact ⟨rfl, n, rfl⟩
theorem TI (w : World) (d m : Nat) (lives : Int) (h : Dk0 d m lives true w) :
   Calls Tryz.prog 65 #[.pointer (some ⟨d, 0, none⟩), .string nmW] w fun e w' => e = .returned (.tuple #[.pointer none, .int .i64 4]) ∧ Below w.heap.size w w' := by
 replace h := Aa.mk h
 go_enter Tryz.func65, Tryz.ntmps65
 go_wp2_with (first
   | ((with_reducible refine Ac (N := 10) rfl ?_); refine Cb (N := 10) (n := 1) (C := #[.string nmW]) rfl rfl (by first | (go_simp; done) | (go_simp; rfl)) ?_; intro g w1 hg bg f1; have h1 := Aa.mk (h.out.below f1.out))
   | (go_at_call 73; refine (IP _ _ m _ _ h1.out.d bg.out).mono ?_; rintro e w2 ⟨rfl, n, rfl⟩; have c3 : (w1.drewN n).cell? ⟨d, 3, none⟩ = some (.map (some m)) := Bk.cell (h1.out.d.drewN n) rfl; have hlk := CV (ok := false) (h1.out.m.drewN n) Tryz.underlying58 (YH _) Jm WP))
 go_returns
 exact ⟨rfl, Ae f1.out n⟩
theorem Ht (w : World) (d m f : Nat) (lives : Int) (v : Value) (l : List Int) (s : Nat) (h : Dk1 d m f lives true v l s w) :
   Calls Tryz.prog 65 #[.pointer (some ⟨d, 0, none⟩), .string nmW] w fun e w' => e = .returned (.tuple #[.pointer (some ⟨f, 0, none⟩), .int .i64 0]) ∧ Below w.heap.size w w' := by
 replace h := Aa.mk h
 go_enter Tryz.func65, Tryz.ntmps65
 go_wp2_with (first
   | ((with_reducible refine Ac (N := 10) rfl ?_); refine Cb (N := 10) (n := 1) (C := #[.string nmW]) rfl rfl (by first | (go_simp; done) | (go_simp; rfl)) ?_; intro g w1 hg bg f1; have h1 := Aa.mk (h.out.below f1.out))
   | (go_at_call 73; refine (IP _ _ m _ _ h1.out.d bg.out).mono ?_; rintro e w2 ⟨rfl, n, rfl⟩; have c3 : (w1.drewN n).cell? ⟨d, 3, none⟩ = some (.map (some m)) := Bk.cell (h1.out.d.drewN n) rfl; have hlk := Dz (ok := false) (h1.out.m.drewN n) Tryz.underlying58 (YH _) (fk_w _ _)))
 go_returns
 exact ⟨rfl, Ae f1.out n⟩
end Go.Proofs.YtchfmgbjddopoaaGreatDoor.Hand
namespace Go.Proofs
open Go.Shelf
def Tryz.OD : Go.Shelf.Ren := ⟨fun | 4 => 35 | n => n, fun | 22 => 39 | 4 => 4 | 5 => 5 | n => n, fun | n => n⟩
theorem Tryz.Rt : Go.Proofs.SlLaysK.n4 Tryz.prog Tryz.OD := {
 mixed := by kernel_rfl
 f4 := Tryz.func35.trans (congrArg some (by kernel_rfl))
 t4 := Tryz.underlying4
 a4 := Tryz.isAgg4
 z4 := Tryz.sizeOf4
 v4 := Tryz.zeroValue4
 t22 := Tryz.underlying39
 a22 := Tryz.isAgg39
 z22 := Tryz.sizeOf39
 v22 := Tryz.zeroValue39
 t5 := Tryz.underlying5
 i5 := by kernel_rfl }
open Go.RowKit Go.Lib in
theorem Tryz.bytes_Clone_at (a : Addr) (n c : Nat) (xs : List Int) (w : World) (hx : xs.length = n) (hbig : n ≤ 140737488355328) (hc : ∀ i, i < n → w.cell? (a.add i) = some (.int .u8 (xs.getD i 0))) :
 Calls Tryz.prog 35 #[.slice (some a) n c] w fun e w' => ∃ v', e = .returned v' ∧ w'.ownsRow w.heap.size 5 1 v' n (xs.map (Value.int .u8)) ∧ v' ≠ .slice none 0 0 ∧ Below w.heap.size w w' := Any.bytes_Clone_at Tryz.Rt a n c xs w hx hbig hc
open Go.RowKit Go.Lib in
theorem Tryz.bytes_Clone_nil (n c : Nat) (w : World) :
 Calls Tryz.prog 35 #[.slice none n c] w fun e w' => e = .returned (.slice none 0 0) ∧ w' = w := Any.bytes_Clone_nil Tryz.Rt n c w
def Tryz.Hw : Go.Shelf.Ren := ⟨fun | 33 => 49 | n => n, fun | 22 => 34 | 23 => 3 | 4 => 4 | 3 => 3 | 0 => 0 | n => n, fun | n => n⟩
theorem Tryz.MN : Go.Proofs.SlLaysN.n33 Tryz.prog Tryz.Hw := {
 mixed := by kernel_rfl
 f33 := ⟨Tryz.f49.name, by decide, Tryz.func49.trans (congrArg some (by kernel_rfl))⟩
 t0 := Tryz.underlying0
 a0 := Tryz.isAgg0
 z0 := Tryz.sizeOf0
 v0 := Tryz.zeroValue0
 t3 := Tryz.underlying3
 a3 := Tryz.isAgg3
 z3 := Tryz.sizeOf3
 v3 := Tryz.zeroValue3
 t4 := Tryz.underlying4
 a4 := Tryz.isAgg4
 z4 := Tryz.sizeOf4
 v4 := Tryz.zeroValue4
 t22 := Tryz.underlying34
 a22 := Tryz.isAgg34
 z22 := Tryz.sizeOf34
 v22 := Tryz.zeroValue34
 t23 := Tryz.underlying3
 a23 := Tryz.isAgg3
 z23 := Tryz.sizeOf3
 v23 := Tryz.zeroValue3 }
open Go.RowKit Go.Lib in
theorem Tryz.slices_Equal_int (b1 o1 n c b2 o2 m d : Nat) (xs ys : List Int) (w : World) (hx : n ≤ xs.length) (hy : m ≤ ys.length) (hbig : n ≤ 9223372036854775807) (hbig2 : m ≤ 9223372036854775807) (hc1 : ∀ j, j < xs.length → w.cell? ⟨b1, o1 + j, none⟩ = some (.int .i64 (xs.getD j 0))) (hc2 : ∀ j, j < ys.length → w.cell? ⟨b2, o2 + j, none⟩ = some (.int .i64 (ys.getD j 0))) :
 Calls Tryz.prog 49 #[.slice (some ⟨b1, o1, none⟩) n c, .slice (some ⟨b2, o2, none⟩) m d] w fun e w' => e = .returned (.bool (xs.take n == ys.take m)) ∧ ∃ q, w' = w.drewN q := AnyG.slices_Equal_int Tryz.MN b1 o1 n c b2 o2 m d xs ys w hx hy hbig hbig2 hc1 hc2
def Tryz.IE : Go.Shelf.Ren := ⟨fun | 8 => 48 | n => n, fun | 22 => 33 | 24 => 105 | 4 => 4 | 3 => 3 | 0 => 0 | n => n, fun | n => n⟩
theorem Tryz.OC : Go.Proofs.SlLaysQ.n8 Tryz.prog Tryz.IE := {
 mixed := by kernel_rfl
 f8 := ⟨Tryz.f48.name, by decide, Tryz.func48.trans (congrArg some (by kernel_rfl))⟩
 t0 := Tryz.underlying0
 a0 := Tryz.isAgg0
 z0 := Tryz.sizeOf0
 v0 := Tryz.zeroValue0
 t3 := Tryz.underlying3
 a3 := Tryz.isAgg3
 z3 := Tryz.sizeOf3
 v3 := Tryz.zeroValue3
 t4 := Tryz.underlying4
 a4 := Tryz.isAgg4
 z4 := Tryz.sizeOf4
 v4 := Tryz.zeroValue4
 t22 := Tryz.underlying33
 a22 := Tryz.isAgg33
 z22 := Tryz.sizeOf33
 v22 := Tryz.zeroValue33 }
def Tryz.IC : Go.Shelf.Ren := ⟨fun | 8 => 53 | n => n, fun | 22 => 111 | 24 => 103 | 4 => 4 | 3 => 3 | 0 => 0 | n => n, fun | n => n⟩
theorem Tryz.OB : Go.Proofs.SlLaysQ.n8 Tryz.prog Tryz.IC := {
 mixed := by kernel_rfl
 f8 := ⟨Tryz.f53.name, by decide, Tryz.func53.trans (congrArg some (by kernel_rfl))⟩
 t0 := Tryz.underlying0
 a0 := Tryz.isAgg0
 z0 := Tryz.sizeOf0
 v0 := Tryz.zeroValue0
 t3 := Tryz.underlying3
 a3 := Tryz.isAgg3
 z3 := Tryz.sizeOf3
 v3 := Tryz.zeroValue3
 t4 := Tryz.underlying4
 a4 := Tryz.isAgg4
 z4 := Tryz.sizeOf4
 v4 := Tryz.zeroValue4
 t22 := Tryz.underlying111
 a22 := Tryz.isAgg111
 z22 := Tryz.sizeOf111
 v22 := Tryz.zeroValue111 }
def Tryz.IB : Go.Shelf.Ren := ⟨fun | 8 => 55 | n => n, fun | 22 => 114 | 24 => 116 | 4 => 4 | 3 => 3 | 0 => 0 | n => n, fun | n => n⟩
theorem Tryz.OA : Go.Proofs.SlLaysQ.n8 Tryz.prog Tryz.IB := {
 mixed := by kernel_rfl
 f8 := ⟨Tryz.f55.name, by decide, Tryz.func55.trans (congrArg some (by kernel_rfl))⟩
 t0 := Tryz.underlying0
 a0 := Tryz.isAgg0
 z0 := Tryz.sizeOf0
 v0 := Tryz.zeroValue0
 t3 := Tryz.underlying3
 a3 := Tryz.isAgg3
 z3 := Tryz.sizeOf3
 v3 := Tryz.zeroValue3
 t4 := Tryz.underlying4
 a4 := Tryz.isAgg4
 z4 := Tryz.sizeOf4
 v4 := Tryz.zeroValue4
 t22 := Tryz.underlying114
 a22 := Tryz.isAgg114
 z22 := Tryz.sizeOf114
 v22 := Tryz.zeroValue114 }
def Tryz.Gh : Go.Shelf.Ren := ⟨fun | 41 => 133 | n => n, fun | 22 => 114 | 23 => 116 | 4 => 4 | n => n, fun | n => n⟩
theorem Tryz.Fj : Go.Proofs.SlLaysE0.n41 Tryz.prog Tryz.Gh := {
 mixed := by kernel_rfl
 f41 := ⟨Tryz.f133.name, by decide, Tryz.func133.trans (congrArg some (by kernel_rfl))⟩
 t4 := Tryz.underlying4
 a4 := Tryz.isAgg4
 z4 := Tryz.sizeOf4
 v4 := Tryz.zeroValue4
 t22 := Tryz.underlying114
 a22 := Tryz.isAgg114
 z22 := Tryz.sizeOf114
 v22 := Tryz.zeroValue114 }
def Tryz.Gg : Go.Shelf.Ren := ⟨fun | 41 => 178 | n => n, fun | 22 => 33 | 23 => 105 | 4 => 4 | n => n, fun | n => n⟩
theorem Tryz.Fh : Go.Proofs.SlLaysE0.n41 Tryz.prog Tryz.Gg := {
 mixed := by kernel_rfl
 f41 := ⟨Tryz.f178.name, by decide, Tryz.func178.trans (congrArg some (by kernel_rfl))⟩
 t4 := Tryz.underlying4
 a4 := Tryz.isAgg4
 z4 := Tryz.sizeOf4
 v4 := Tryz.zeroValue4
 t22 := Tryz.underlying33
 a22 := Tryz.isAgg33
 z22 := Tryz.sizeOf33
 v22 := Tryz.zeroValue33 }
def Tryz.GN : Go.Shelf.Ren := ⟨fun | 8 => 172 | 6 => 223 | n => n, fun | 22 => 33 | 23 => 105 | 25 => 267 | 4 => 4 | 3 => 3 | 0 => 0 | n => n, fun | n => n⟩
theorem Tryz.JX : Go.Proofs.SlLaysH0.n8 Tryz.prog Tryz.GN := {
 mixed := by kernel_rfl
 f6 := ⟨Tryz.f223.name, by decide, Tryz.func223.trans (congrArg some (by kernel_rfl))⟩
 f8 := ⟨Tryz.f172.name, by decide, Tryz.func172.trans (congrArg some (by kernel_rfl))⟩
 t0 := Tryz.underlying0
 a0 := Tryz.isAgg0
 z0 := Tryz.sizeOf0
 v0 := Tryz.zeroValue0
 t3 := Tryz.underlying3
 a3 := Tryz.isAgg3
 z3 := Tryz.sizeOf3
 v3 := Tryz.zeroValue3
 t4 := Tryz.underlying4
 a4 := Tryz.isAgg4
 z4 := Tryz.sizeOf4
 v4 := Tryz.zeroValue4
 t22 := Tryz.underlying33
 a22 := Tryz.isAgg33
 z22 := Tryz.sizeOf33
 v22 := Tryz.zeroValue33
 t25 := Tryz.underlying267
 a25 := Tryz.isAgg267
 z25 := Tryz.sizeOf267
 v25 := Tryz.zeroValue267 }
end Go.Proofs
