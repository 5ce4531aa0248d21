/- script.words at the three rows of the run. -/
import Derived.Test.YtmdjbogdfipcmaaGreatDoorRoom
import Derived.Test.YtmdjbogdfipcmaaGreatDoorShelf
namespace Go.Proofs.YtmdjbogdfipcmaaGreatDoor.Hand
set_option linter.unusedSimpArgs false
set_option linter.unusedVariables false
open Go.RowKit Go.Proofs.YtmdjbogdfipcmaaGreatDoorW.PrintWords Go.Proofs.YtmdjbogdfipcmaaGreatDoorW.PrintLast Go.Proofs.YtmdjbogdfipcmaaGreatDoorW.PrintMore
attribute [local go_sem ↓] Go.wp_at_zero Go.wp_at_succ

theorem own_below {w w' : World} {base : Nat} {e : TypeId} {size : Nat} {v : Value} {n : Nat} {xs : List Value} (h : w.ownsRow base e size v n xs) (f : Below w.heap.size w w') : w'.ownsRow base e size v n xs := by
  refine ⟨h.1, ?_⟩
  rcases h.2 with h' | ⟨g, cap, cur, h1, h2, h3, h4⟩
  · exact .inl h'
  · exact .inr ⟨g, cap, cur, h1, h2, Ob.belowS h3 f, h4⟩
theorem own_mono {w : World} {base base' : Nat} {e : TypeId} {size : Nat} {v : Value} {n : Nat} {xs : List Value} (h : w.ownsRow base e size v n xs) (hb : base' ≤ base) : w.ownsRow base' e size v n xs := by
  refine ⟨h.1, ?_⟩
  rcases h.2 with h' | ⟨g, cap, cur, h1, h2, h3⟩
  · exact .inl h'
  · exact .inr ⟨g, cap, cur, h1, Nat.le_trans hb h2, h3⟩
theorem own_succ {W : World} {base : Nat} {e : TypeId} {size : Nat} {v : Value} {k : Nat} {xs : List Value} (h : W.ownsRow base e size v (k + 1) xs) : ∃ g cap, v = .slice (some ⟨g, 0, none⟩) (k + 1) cap ∧ base ≤ g := by
  rcases h.2 with ⟨_, h'⟩ | ⟨g, cap, cur, h1, h2, h3⟩
  · exact absurd h' (by omega)
  · exact ⟨g, cap, h1, h2⟩
theorem one_cell {w : World} {q : Nat} {y : Value} {t : Nat} (h : Bk w q #[y] t) : ∀ (i : Nat) (u : Value), ([y] : List Value)[i]? = some u → w.cell? ((⟨q, 0, none⟩ : Addr).add i) = some u := fun i u hj => by
  rw [Addr.add_mid, Nat.zero_add]
  exact h.cell (by simpa using hj)
theorem full9 : (Tryz.prog.info? 9).map (fun i => (i.zero, i.size, i.bytes)) = some (some (.string ⟨#[]⟩), 1, 16) := by kernel_rfl

theorem split_begin : Lib.splitB ⟨#[32]⟩ 0 (Lib.countB ⟨#[98, 101, 103, 105, 110]⟩ ⟨#[32]⟩) ⟨#[98, 101, 103, 105, 110]⟩ = [⟨#[98, 101, 103, 105, 110]⟩] ∧ Lib.countB ⟨#[98, 101, 103, 105, 110]⟩ ⟨#[32]⟩ + 1 = 1 := by decide +kernel
set_option maxHeartbeats 1600000 in
set_option maxRecDepth 100000 in
theorem words_begin (w : World) (m : Int) (hm : w.cell? ⟨0, 0, none⟩ = some (.int .i64 m)) :
    Calls Tryz.prog 7 #[.string ⟨#[98, 101, 103, 105, 110]⟩] w fun e w' => ∃ g cap, e = .returned (.slice (some ⟨g, 0, none⟩) 1 cap) ∧ w.heap.size ≤ g ∧ w'.ownsRow w.heap.size 9 1 (.slice (some ⟨g, 0, none⟩) 1 cap) 1 [.string ⟨#[98, 101, 103, 105, 110]⟩] ∧ Below w.heap.size w w' := by
  have hsp : Calls Tryz.prog 6 #[.string ⟨#[98, 101, 103, 105, 110]⟩, .string ⟨#[32]⟩] w fun e w' => e = .returned (.slice (some ⟨w.heap.size, 0, none⟩) 1 1) ∧ w' = w.alloc (.cells #[.string ⟨#[98, 101, 103, 105, 110]⟩] 9) :=
    (Tryz.strings_Split _ _ m w (by decide) hm (by decide)).mono fun e w' h => by rw [split_begin.1, split_begin.2] at h; exact h
  obtain ⟨i0, hi, hz0, hz1, hz2⟩ := info_parts full9
  replace hi := Aside0.mk hi
  replace hz0 := Aside0.mk hz0
  replace hz1 := Aside0.mk hz1
  replace hz2 := Aside0.mk hz2
  clear hm
  go_enter Tryz.func7, Tryz.ntmps7
  go_wp2_with (first
    | (go_at_call 6; refine hsp.mono ?_; clear hsp; rintro e w0 ⟨rfl, rfl⟩))
  have b0 := Aside0.mk (Ob.new w (.cells #[.string ⟨#[98, 101, 103, 105, 110]⟩] 9))
  have f0 : Aside0 (Below w.heap.size w (w.alloc (.cells #[.string ⟨#[98, 101, 103, 105, 110]⟩] 9))) := ⟨below_alloc (Below.refl _ _) _⟩
  have hl := Aside0.mk b0.out.lt
  generalize w.alloc (.cells #[.string ⟨#[98, 101, 103, 105, 110]⟩] 9) = w0 at *
  generalize hsz : w.heap.size = sp at b0 hl ⊢
  have F0 : Aside0 (Below w0.heap.size w0 w0) := ⟨Below.refl _ _⟩
  have o0 : Aside0 (w0.ownsRow w0.heap.size 9 1 (.slice none 0 0) 0 []) := ⟨World.ownsRow_nil _ _ _ _⟩
  clear hsz
  refine wp_loop_rounds 2 ?_
  have c0 : w0.cell? ⟨sp, 0, none⟩ = some (.string ⟨#[98, 101, 103, 105, 110]⟩) := Bk.cell b0.out rfl
  rw [rounds_succ]
  go_wp2_with (first
    | ((with_reducible refine gate_dst (N := 17) rfl ?_); refine ev_slice (N := 17) (n := 1) (C := #[.string ⟨#[98, 101, 103, 105, 110]⟩]) rfl rfl (by first | (go_simp; done) | (go_simp; rfl)) ?_; intro q0 u0 hq0 bq0 fq0; have o0' := Aside0.mk (own_below o0.out fq0.out); have hn0 := Aside0.mk (one_cell bq0.out); have F0' : Aside0 (Below w0.heap.size w0 u0) := ⟨F0.out.trans (fq0.out.mono F0.out.size)⟩; clear c0)
    | (at_builtin; refine wpList_append_own_at _ rfl _ _ 26 rfl w0.heap.size 9 i0 (.string ⟨#[]⟩) 1 16 Tryz.underlying26 hi.out hz0.out hz1.out hz2.out rfl (by decide) _ 0 [] rfl o0'.out ⟨q0, 0, none⟩ 1 1 [.string ⟨#[98, 101, 103, 105, 110]⟩] rfl rfl hn0.out (by simp [Value.oneCell']) (by simp [maxLen]) (by simp) F0'.out.size ?_
       intro v1 w1 ho hg hnil hat
       obtain ⟨g1, k1, rfl, hb⟩ := own_succ ho
       have o1 := Aside0.mk ho
       have F1 : Aside0 (Below w0.heap.size w0 w1) := ⟨F0'.out.grown hg F0'.out.size (fun k hk => by cases hk)⟩
       have b1 := Aside0.mk (Ob.below b0.out F1.out hl.out)
       have G1 := Aside0.mk hb
       clear ho hg hnil hat hb))
  rw [rounds_succ]
  go_wp2_with fail
  go_returns
  exact ⟨g1, k1, rfl, Nat.le_trans f0.out.size G1.out, own_mono o1.out f0.out.size, f0.out.trans (F1.out.mono f0.out.size)⟩

theorem split_put : Lib.splitB ⟨#[32]⟩ 0 (Lib.countB ⟨#[112, 117, 116, 32, 49, 32, 97, 32, 120]⟩ ⟨#[32]⟩) ⟨#[112, 117, 116, 32, 49, 32, 97, 32, 120]⟩ = [⟨#[112, 117, 116]⟩, ⟨#[49]⟩, ⟨#[97]⟩, ⟨#[120]⟩] ∧ Lib.countB ⟨#[112, 117, 116, 32, 49, 32, 97, 32, 120]⟩ ⟨#[32]⟩ + 1 = 4 := by decide +kernel
set_option maxHeartbeats 1600000 in
set_option maxRecDepth 100000 in
theorem words_put (w : World) (m : Int) (hm : w.cell? ⟨0, 0, none⟩ = some (.int .i64 m)) :
    Calls Tryz.prog 7 #[.string ⟨#[112, 117, 116, 32, 49, 32, 97, 32, 120]⟩] w fun e w' => ∃ g cap, e = .returned (.slice (some ⟨g, 0, none⟩) 4 cap) ∧ w.heap.size ≤ g ∧ w'.ownsRow w.heap.size 9 1 (.slice (some ⟨g, 0, none⟩) 4 cap) 4 [.string ⟨#[112, 117, 116]⟩, .string ⟨#[49]⟩, .string ⟨#[97]⟩, .string ⟨#[120]⟩] ∧ Below w.heap.size w w' := by
  have hsp : Calls Tryz.prog 6 #[.string ⟨#[112, 117, 116, 32, 49, 32, 97, 32, 120]⟩, .string ⟨#[32]⟩] w fun e w' => e = .returned (.slice (some ⟨w.heap.size, 0, none⟩) 4 4) ∧ w' = w.alloc (.cells #[.string ⟨#[112, 117, 116]⟩, .string ⟨#[49]⟩, .string ⟨#[97]⟩, .string ⟨#[120]⟩] 9) :=
    (Tryz.strings_Split _ _ m w (by decide) hm (by decide)).mono fun e w' h => by rw [split_put.1, split_put.2] at h; exact h
  obtain ⟨i0, hi, hz0, hz1, hz2⟩ := info_parts full9
  replace hi := Aside0.mk hi
  replace hz0 := Aside0.mk hz0
  replace hz1 := Aside0.mk hz1
  replace hz2 := Aside0.mk hz2
  clear hm
  go_enter Tryz.func7, Tryz.ntmps7
  go_wp2_with (first
    | (go_at_call 6; refine hsp.mono ?_; clear hsp; rintro e w0 ⟨rfl, rfl⟩))
  have b0 := Aside0.mk (Ob.new w (.cells #[.string ⟨#[112, 117, 116]⟩, .string ⟨#[49]⟩, .string ⟨#[97]⟩, .string ⟨#[120]⟩] 9))
  have f0 : Aside0 (Below w.heap.size w (w.alloc (.cells #[.string ⟨#[112, 117, 116]⟩, .string ⟨#[49]⟩, .string ⟨#[97]⟩, .string ⟨#[120]⟩] 9))) := ⟨below_alloc (Below.refl _ _) _⟩
  have hl := Aside0.mk b0.out.lt
  generalize w.alloc (.cells #[.string ⟨#[112, 117, 116]⟩, .string ⟨#[49]⟩, .string ⟨#[97]⟩, .string ⟨#[120]⟩] 9) = w0 at *
  generalize hsz : w.heap.size = sp at b0 hl ⊢
  have F0 : Aside0 (Below w0.heap.size w0 w0) := ⟨Below.refl _ _⟩
  have o0 : Aside0 (w0.ownsRow w0.heap.size 9 1 (.slice none 0 0) 0 []) := ⟨World.ownsRow_nil _ _ _ _⟩
  clear hsz
  refine wp_loop_rounds 5 ?_
  have c0 : w0.cell? ⟨sp, 0, none⟩ = some (.string ⟨#[112, 117, 116]⟩) := Bk.cell b0.out rfl
  rw [rounds_succ]
  go_wp2_with (first
    | ((with_reducible refine gate_dst (N := 17) rfl ?_); refine ev_slice (N := 17) (n := 1) (C := #[.string ⟨#[112, 117, 116]⟩]) rfl rfl (by first | (go_simp; done) | (go_simp; rfl)) ?_; intro q0 u0 hq0 bq0 fq0; have o0' := Aside0.mk (own_below o0.out fq0.out); have hn0 := Aside0.mk (one_cell bq0.out); have F0' : Aside0 (Below w0.heap.size w0 u0) := ⟨F0.out.trans (fq0.out.mono F0.out.size)⟩; clear c0)
    | (at_builtin; refine wpList_append_own_at _ rfl _ _ 26 rfl w0.heap.size 9 i0 (.string ⟨#[]⟩) 1 16 Tryz.underlying26 hi.out hz0.out hz1.out hz2.out rfl (by decide) _ 0 [] rfl o0'.out ⟨q0, 0, none⟩ 1 1 [.string ⟨#[112, 117, 116]⟩] rfl rfl hn0.out (by simp [Value.oneCell']) (by simp [maxLen]) (by simp) F0'.out.size ?_
       intro v1 w1 ho hg hnil hat
       obtain ⟨g1, k1, rfl, hb⟩ := own_succ ho
       have o1 := Aside0.mk ho
       have F1 : Aside0 (Below w0.heap.size w0 w1) := ⟨F0'.out.grown hg F0'.out.size (fun k hk => by cases hk)⟩
       have b1 := Aside0.mk (Ob.below b0.out F1.out hl.out)
       have G1 := Aside0.mk hb
       clear ho hg hnil hat hb))
  have c1 : w1.cell? ⟨sp, 1, none⟩ = some (.string ⟨#[49]⟩) := Bk.cell b1.out rfl
  rw [rounds_succ]
  go_wp2_with (first
    | ((with_reducible refine gate_dst (N := 17) rfl ?_); refine ev_slice (N := 17) (n := 1) (C := #[.string ⟨#[49]⟩]) rfl rfl (by first | (go_simp; done) | (go_simp; rfl)) ?_; intro q1 u1 hq1 bq1 fq1; have o1' := Aside0.mk (own_below o1.out fq1.out); have hn1 := Aside0.mk (one_cell bq1.out); have F1' : Aside0 (Below w0.heap.size w0 u1) := ⟨F1.out.trans (fq1.out.mono F1.out.size)⟩; clear c1)
    | (at_builtin; refine wpList_append_own_at _ rfl _ _ 26 rfl w0.heap.size 9 i0 (.string ⟨#[]⟩) 1 16 Tryz.underlying26 hi.out hz0.out hz1.out hz2.out rfl (by decide) _ 1 [.string ⟨#[112, 117, 116]⟩] rfl o1'.out ⟨q1, 0, none⟩ 1 1 [.string ⟨#[49]⟩] rfl rfl hn1.out (by simp [Value.oneCell']) (by simp [maxLen]) (by simp) F1'.out.size ?_
       intro v2 w2 ho hg hnil hat
       obtain ⟨g2, k2, rfl, hb⟩ := own_succ ho
       have o2 := Aside0.mk ho
       have F2 : Aside0 (Below w0.heap.size w0 w2) := ⟨F1'.out.grown hg F1'.out.size (fun k hk => Option.some.inj hk ▸ G1.out)⟩
       have b2 := Aside0.mk (Ob.below b0.out F2.out hl.out)
       have G2 := Aside0.mk hb
       clear ho hg hnil hat hb))
  have c2 : w2.cell? ⟨sp, 2, none⟩ = some (.string ⟨#[97]⟩) := Bk.cell b2.out rfl
  rw [rounds_succ]
  go_wp2_with (first
    | ((with_reducible refine gate_dst (N := 17) rfl ?_); refine ev_slice (N := 17) (n := 1) (C := #[.string ⟨#[97]⟩]) rfl rfl (by first | (go_simp; done) | (go_simp; rfl)) ?_; intro q2 u2 hq2 bq2 fq2; have o2' := Aside0.mk (own_below o2.out fq2.out); have hn2 := Aside0.mk (one_cell bq2.out); have F2' : Aside0 (Below w0.heap.size w0 u2) := ⟨F2.out.trans (fq2.out.mono F2.out.size)⟩; clear c2)
    | (at_builtin; refine wpList_append_own_at _ rfl _ _ 26 rfl w0.heap.size 9 i0 (.string ⟨#[]⟩) 1 16 Tryz.underlying26 hi.out hz0.out hz1.out hz2.out rfl (by decide) _ 2 [.string ⟨#[112, 117, 116]⟩, .string ⟨#[49]⟩] rfl o2'.out ⟨q2, 0, none⟩ 1 1 [.string ⟨#[97]⟩] rfl rfl hn2.out (by simp [Value.oneCell']) (by simp [maxLen]) (by simp) F2'.out.size ?_
       intro v3 w3 ho hg hnil hat
       obtain ⟨g3, k3, rfl, hb⟩ := own_succ ho
       have o3 := Aside0.mk ho
       have F3 : Aside0 (Below w0.heap.size w0 w3) := ⟨F2'.out.grown hg F2'.out.size (fun k hk => Option.some.inj hk ▸ G2.out)⟩
       have b3 := Aside0.mk (Ob.below b0.out F3.out hl.out)
       have G3 := Aside0.mk hb
       clear ho hg hnil hat hb))
  have c3 : w3.cell? ⟨sp, 3, none⟩ = some (.string ⟨#[120]⟩) := Bk.cell b3.out rfl
  rw [rounds_succ]
  go_wp2_with (first
    | ((with_reducible refine gate_dst (N := 17) rfl ?_); refine ev_slice (N := 17) (n := 1) (C := #[.string ⟨#[120]⟩]) rfl rfl (by first | (go_simp; done) | (go_simp; rfl)) ?_; intro q3 u3 hq3 bq3 fq3; have o3' := Aside0.mk (own_below o3.out fq3.out); have hn3 := Aside0.mk (one_cell bq3.out); have F3' : Aside0 (Below w0.heap.size w0 u3) := ⟨F3.out.trans (fq3.out.mono F3.out.size)⟩; clear c3)
    | (at_builtin; refine wpList_append_own_at _ rfl _ _ 26 rfl w0.heap.size 9 i0 (.string ⟨#[]⟩) 1 16 Tryz.underlying26 hi.out hz0.out hz1.out hz2.out rfl (by decide) _ 3 [.string ⟨#[112, 117, 116]⟩, .string ⟨#[49]⟩, .string ⟨#[97]⟩] rfl o3'.out ⟨q3, 0, none⟩ 1 1 [.string ⟨#[120]⟩] rfl rfl hn3.out (by simp [Value.oneCell']) (by simp [maxLen]) (by simp) F3'.out.size ?_
       intro v4 w4 ho hg hnil hat
       obtain ⟨g4, k4, rfl, hb⟩ := own_succ ho
       have o4 := Aside0.mk ho
       have F4 : Aside0 (Below w0.heap.size w0 w4) := ⟨F3'.out.grown hg F3'.out.size (fun k hk => Option.some.inj hk ▸ G3.out)⟩
       have b4 := Aside0.mk (Ob.below b0.out F4.out hl.out)
       have G4 := Aside0.mk hb
       clear ho hg hnil hat hb))
  rw [rounds_succ]
  go_wp2_with fail
  go_returns
  exact ⟨g4, k4, rfl, Nat.le_trans f0.out.size G4.out, own_mono o4.out f0.out.size, f0.out.trans (F4.out.mono f0.out.size)⟩

theorem split_commit : Lib.splitB ⟨#[32]⟩ 0 (Lib.countB ⟨#[99, 111, 109, 109, 105, 116, 32, 49]⟩ ⟨#[32]⟩) ⟨#[99, 111, 109, 109, 105, 116, 32, 49]⟩ = [⟨#[99, 111, 109, 109, 105, 116]⟩, ⟨#[49]⟩] ∧ Lib.countB ⟨#[99, 111, 109, 109, 105, 116, 32, 49]⟩ ⟨#[32]⟩ + 1 = 2 := by decide +kernel
set_option maxHeartbeats 1600000 in
set_option maxRecDepth 100000 in
theorem words_commit (w : World) (m : Int) (hm : w.cell? ⟨0, 0, none⟩ = some (.int .i64 m)) :
    Calls Tryz.prog 7 #[.string ⟨#[99, 111, 109, 109, 105, 116, 32, 49]⟩] w fun e w' => ∃ g cap, e = .returned (.slice (some ⟨g, 0, none⟩) 2 cap) ∧ w.heap.size ≤ g ∧ w'.ownsRow w.heap.size 9 1 (.slice (some ⟨g, 0, none⟩) 2 cap) 2 [.string ⟨#[99, 111, 109, 109, 105, 116]⟩, .string ⟨#[49]⟩] ∧ Below w.heap.size w w' := by
  have hsp : Calls Tryz.prog 6 #[.string ⟨#[99, 111, 109, 109, 105, 116, 32, 49]⟩, .string ⟨#[32]⟩] w fun e w' => e = .returned (.slice (some ⟨w.heap.size, 0, none⟩) 2 2) ∧ w' = w.alloc (.cells #[.string ⟨#[99, 111, 109, 109, 105, 116]⟩, .string ⟨#[49]⟩] 9) :=
    (Tryz.strings_Split _ _ m w (by decide) hm (by decide)).mono fun e w' h => by rw [split_commit.1, split_commit.2] at h; exact h
  obtain ⟨i0, hi, hz0, hz1, hz2⟩ := info_parts full9
  replace hi := Aside0.mk hi
  replace hz0 := Aside0.mk hz0
  replace hz1 := Aside0.mk hz1
  replace hz2 := Aside0.mk hz2
  clear hm
  go_enter Tryz.func7, Tryz.ntmps7
  go_wp2_with (first
    | (go_at_call 6; refine hsp.mono ?_; clear hsp; rintro e w0 ⟨rfl, rfl⟩))
  have b0 := Aside0.mk (Ob.new w (.cells #[.string ⟨#[99, 111, 109, 109, 105, 116]⟩, .string ⟨#[49]⟩] 9))
  have f0 : Aside0 (Below w.heap.size w (w.alloc (.cells #[.string ⟨#[99, 111, 109, 109, 105, 116]⟩, .string ⟨#[49]⟩] 9))) := ⟨below_alloc (Below.refl _ _) _⟩
  have hl := Aside0.mk b0.out.lt
  generalize w.alloc (.cells #[.string ⟨#[99, 111, 109, 109, 105, 116]⟩, .string ⟨#[49]⟩] 9) = w0 at *
  generalize hsz : w.heap.size = sp at b0 hl ⊢
  have F0 : Aside0 (Below w0.heap.size w0 w0) := ⟨Below.refl _ _⟩
  have o0 : Aside0 (w0.ownsRow w0.heap.size 9 1 (.slice none 0 0) 0 []) := ⟨World.ownsRow_nil _ _ _ _⟩
  clear hsz
  refine wp_loop_rounds 3 ?_
  have c0 : w0.cell? ⟨sp, 0, none⟩ = some (.string ⟨#[99, 111, 109, 109, 105, 116]⟩) := Bk.cell b0.out rfl
  rw [rounds_succ]
  go_wp2_with (first
    | ((with_reducible refine gate_dst (N := 17) rfl ?_); refine ev_slice (N := 17) (n := 1) (C := #[.string ⟨#[99, 111, 109, 109, 105, 116]⟩]) rfl rfl (by first | (go_simp; done) | (go_simp; rfl)) ?_; intro q0 u0 hq0 bq0 fq0; have o0' := Aside0.mk (own_below o0.out fq0.out); have hn0 := Aside0.mk (one_cell bq0.out); have F0' : Aside0 (Below w0.heap.size w0 u0) := ⟨F0.out.trans (fq0.out.mono F0.out.size)⟩; clear c0)
    | (at_builtin; refine wpList_append_own_at _ rfl _ _ 26 rfl w0.heap.size 9 i0 (.string ⟨#[]⟩) 1 16 Tryz.underlying26 hi.out hz0.out hz1.out hz2.out rfl (by decide) _ 0 [] rfl o0'.out ⟨q0, 0, none⟩ 1 1 [.string ⟨#[99, 111, 109, 109, 105, 116]⟩] rfl rfl hn0.out (by simp [Value.oneCell']) (by simp [maxLen]) (by simp) F0'.out.size ?_
       intro v1 w1 ho hg hnil hat
       obtain ⟨g1, k1, rfl, hb⟩ := own_succ ho
       have o1 := Aside0.mk ho
       have F1 : Aside0 (Below w0.heap.size w0 w1) := ⟨F0'.out.grown hg F0'.out.size (fun k hk => by cases hk)⟩
       have b1 := Aside0.mk (Ob.below b0.out F1.out hl.out)
       have G1 := Aside0.mk hb
       clear ho hg hnil hat hb))
  have c1 : w1.cell? ⟨sp, 1, none⟩ = some (.string ⟨#[49]⟩) := Bk.cell b1.out rfl
  rw [rounds_succ]
  go_wp2_with (first
    | ((with_reducible refine gate_dst (N := 17) rfl ?_); refine ev_slice (N := 17) (n := 1) (C := #[.string ⟨#[49]⟩]) rfl rfl (by first | (go_simp; done) | (go_simp; rfl)) ?_; intro q1 u1 hq1 bq1 fq1; have o1' := Aside0.mk (own_below o1.out fq1.out); have hn1 := Aside0.mk (one_cell bq1.out); have F1' : Aside0 (Below w0.heap.size w0 u1) := ⟨F1.out.trans (fq1.out.mono F1.out.size)⟩; clear c1)
    | (at_builtin; refine wpList_append_own_at _ rfl _ _ 26 rfl w0.heap.size 9 i0 (.string ⟨#[]⟩) 1 16 Tryz.underlying26 hi.out hz0.out hz1.out hz2.out rfl (by decide) _ 1 [.string ⟨#[99, 111, 109, 109, 105, 116]⟩] rfl o1'.out ⟨q1, 0, none⟩ 1 1 [.string ⟨#[49]⟩] rfl rfl hn1.out (by simp [Value.oneCell']) (by simp [maxLen]) (by simp) F1'.out.size ?_
       intro v2 w2 ho hg hnil hat
       obtain ⟨g2, k2, rfl, hb⟩ := own_succ ho
       have o2 := Aside0.mk ho
       have F2 : Aside0 (Below w0.heap.size w0 w2) := ⟨F1'.out.grown hg F1'.out.size (fun k hk => Option.some.inj hk ▸ G1.out)⟩
       have b2 := Aside0.mk (Ob.below b0.out F2.out hl.out)
       have G2 := Aside0.mk hb
       clear ho hg hnil hat hb))
  rw [rounds_succ]
  go_wp2_with fail
  go_returns
  exact ⟨g2, k2, rfl, Nat.le_trans f0.out.size G2.out, own_mono o2.out f0.out.size, f0.out.trans (F2.out.mono f0.out.size)⟩

end Go.Proofs.YtmdjbogdfipcmaaGreatDoor.Hand
