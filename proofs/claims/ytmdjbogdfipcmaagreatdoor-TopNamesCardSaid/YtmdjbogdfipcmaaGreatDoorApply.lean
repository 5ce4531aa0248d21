/- (*Store).Apply of the one write to a store of none. -/
import Derived.Test.YtmdjbogdfipcmaaGreatDoorRoom
namespace Go.Proofs.YtmdjbogdfipcmaaGreatDoor.Hand
set_option linter.unusedSimpArgs false
set_option linter.unusedVariables false
open Go.RowKit Go.Proofs.YtmdjbogdfipcmaaGreatDoorW.PrintWords Go.Proofs.YtmdjbogdfipcmaaGreatDoorW.PrintLast Go.Proofs.YtmdjbogdfipcmaaGreatDoorW.PrintMore
attribute [local go_sem ↓] Go.wp_at_zero Go.wp_at_succ

structure Ap (C : Array Value) (st ch g g4 : Nat) (w : World) : Prop where
  s : Bk w st #[.map (some ch)] 117
  m : Mp w ch #[] 0
  b : Bk w g C 96
  t : Bk w g4 S1 98
theorem Ap.below {C : Array Value} {st ch g g4 : Nat} {w w' : World} (h : Ap C st ch g g4 w) (f : Below w.heap.size w w') : Ap C st ch g g4 w' := ⟨h.s.belowS f, h.m.belowS f, h.b.belowS f, h.t.belowS f⟩
theorem Ap.fr {C : Array Value} {st ch g g4 k0 : Nat} {w w' : World} (h : Ap C st ch g g4 w) (f : Fr (fun k => k = k0) w w') (B : Nat) (h0 : B ≤ k0) (h1 : st < B) (h2 : ch < B) (h3 : g < B) (h4 : g4 < B) : Ap C st ch g g4 w' :=
  ⟨h.s.fr f (by omega), h.m.fr f (by omega), h.b.fr f (by omega), h.t.fr f (by omega)⟩
theorem Ap.over {C : Array Value} {st ch g g4 k0 : Nat} {w0 w w' : World} (h0 : Ap C st ch g g4 w0) (h : Ap C st ch g g4 w) (f : Fr (fun k => k = k0) w w') (hk : w0.heap.size ≤ k0) : Ap C st ch g g4 w' :=
  h.fr f w0.heap.size hk h0.s.lt h0.m.lt h0.b.lt h0.t.lt

theorem ap_keep {w' : World} {g8 g4 : Nat} (h : Bk w' g8 WA 96) (h4 : Bk w' g4 S1 98) :
    w'.rangeAt g8 0 KA.toList ∧ w'.cell? ⟨g4, 0, none⟩ = some (.int .i64 1) ∧ w'.cell? ⟨g4, 1, none⟩ = some (.int .u8 0) ∧ Bk w' g8 WA 96 ∧ Bk w' g4 S1 98 :=
  ⟨h.range 0 16 wa_key, h4.cell rfl, h4.cell rfl, h, h4⟩
theorem ap_keep2 {w' : World} {st ch g : Nat} (hs : Bk w' st #[.map (some ch)] 117) (h : Bk w' g WA 96) :
    w'.cell? ⟨st, 0, none⟩ = some (.map (some ch)) ∧ w'.rangeAt g 0 KA.toList ∧ Bk w' st #[.map (some ch)] 117 ∧ Bk w' g WA 96 :=
  ⟨hs.cell rfl, h.range 0 16 wa_key, hs, h⟩

set_option maxHeartbeats 3200000 in
set_option maxRecDepth 100000 in
theorem store_apply (w : World) (st ch g n : Nat) (hs : Bk w st #[.map (some ch)] 117) (hm : Mp w ch #[] 0) {C : Array Value} (hC : (C.extract 0 (0 + 18)).toList = WA.toList) (hb : Bk w g C 96) :
    Calls Tryz.prog 93 #[.pointer (some ⟨st, 0, none⟩), .agg S1, .slice (some ⟨g, 0, none⟩) 1 n] w fun e w' => e = .returned (.int .i64 0) ∧ Fr (fun k => k = ch) w w' := by
  have hsm : Aside0 (st ≠ ch) := ⟨fun e => by rw [e] at hs; have := Option.some.inj (hs.symm.trans hm); cases this⟩
  replace hs := Aside0.mk hs
  replace hm := Aside0.mk hm
  replace hb := Aside0.mk hb
  go_enter Tryz.func93, Tryz.ntmps93
  go_wp2_with (first
    | ((with_reducible refine gate_dst (N := 4) rfl ?_); refine ev_ptr (N := 4) (C := S1) rfl rfl (by first | (go_simp; done) | (go_simp; rfl)) ?_; intro g4 w1 h4 b4 f1; have A1 := Aside0.mk (Ap.mk (hs.out.belowS f1.out) (hm.out.belowS f1.out) (hb.out.belowS f1.out) b4.out); have c0 : w1.cell? ⟨g4, 0, none⟩ = some (.int .i64 1) := Bk.cell b4.out rfl; have c1 : w1.cell? ⟨g4, 1, none⟩ = some (.int .u8 0) := Bk.cell b4.out rfl)
    | (go_at_call 139; refine (stamp_good _).mono ?_; rintro e w2 ⟨rfl, f2⟩; replace f2 := Aside0.mk f2; have A2 := Aside0.mk (A1.out.below f2.out); clear c0 c1)
    | (go_at_call 140; refine (store_many _ _ _).mono ?_; rintro e w2' ⟨rfl, rfl⟩)
    | (go_at_call 91; refine (store_good _ _ _ hC A2.out.b).mono ?_; rintro e w3 ⟨rfl, f3⟩; replace f3 := Aside0.mk f3; have A3 := Aside0.mk (A2.out.below f3.out)))
  refine wp_loop_rounds 3 ?_
  rw [rounds_succ]
  go_wp2_with (first
    | ((with_reducible refine gate_dst (N := 30) rfl ?_); refine ev_load (N := 30) rfl rfl rfl rfl A3.out.b Tryz.underlying96 rfl info96 WA.toList hC rfl ?_)
    | ((with_reducible refine gate_dst (N := 8) rfl ?_); refine ev_ptr (N := 8) (C := Z18) rfl rfl (by first | (go_simp; done) | (go_simp; rfl)) ?_; intro g8 w4 h8 b8 f4; have A4 := Aside0.mk (A3.out.below f4.out))
    | ((with_reducible refine gate_store (t := 96) (p := 8) (v := .tmp 30) rfl ?_); refine ev_store rfl (ty := 96) (x := .tmp 8) (y := .tmp 30) rfl rfl rfl b8.out info96 wa_one (by decide) WA z18_over ?_; intro w5 b85 f5; have A5 := Aside0.mk (A3.out.over A4.out f5.out h8.out)))
  have u79 := Tryz.underlying79
  have i79 : (Tryz.prog.info? 79).map (·.size) = some KA.toList.length := info79
  refine wp_region_noPanic ?_
  go_region_held_law (fun w' => w'.rangeAt g8 0 KA.toList ∧ w'.cell? ⟨g4, 0, none⟩ = some (.int .i64 1) ∧ w'.cell? ⟨g4, 1, none⟩ = some (.int .u8 0) ∧ Bk w' g8 WA 96 ∧ Bk w' g4 S1 98)
    ((first | exact ap_keep b85.out.drew A5.out.t.drew | exact ap_keep (Aside0.out b87) (Aside0.out A7).t | exact ap_keep (Aside0.out b86) (Aside0.out A6).t))
    ((first
      | (go_at_call 137; refine (store_of_none _ _ _ A5.out.s.drew A5.out.m.drew).mono ?_; rintro e w6 ⟨p6, rfl, hp6, bp6, f6⟩; replace f6 := Aside0.mk f6; replace bp6 := Aside0.mk bp6; have A6 := Aside0.mk (Ap.below (w := w5.drew) ⟨A5.out.s, A5.out.m, A5.out.b, A5.out.t⟩ f6.out); have b86 := Aside0.mk (Ob.belowS b85.out.drew f6.out))
      | (go_at_call 141; refine (has_none _ _ (Aside0.out bp6)).mono ?_; rintro e w7 ⟨rfl, f7⟩; replace f7 := Aside0.mk f7; have A7 := Aside0.mk ((Aside0.out A6).below f7.out); have b87 := Aside0.mk (Ob.belowS (Aside0.out b86) f7.out))))
  refine NoPanic.normal ?_
  go_split_ands
  clear u79 i79
  go_wp2_with fail
  rw [rounds_succ]
  go_wp2_with (first
    | (go_at_call 142; refine (store_room _ _ _ _ _ A7.out.s A7.out.m hC A7.out.b).mono ?_; rintro e w8 ⟨rfl, f8⟩; replace f8 := Aside0.mk f8; have A8 := Aside0.mk (A7.out.below f8.out)))
  refine wp_loop_rounds 3 ?_
  rw [rounds_succ]
  go_wp2_with (first
    | ((with_reducible refine gate_dst (N := 47) rfl ?_); refine ev_load (N := 47) rfl rfl rfl rfl A8.out.b Tryz.underlying96 rfl info96 WA.toList hC rfl ?_)
    | ((with_reducible refine gate_dst (N := 10) rfl ?_); refine ev_ptr (N := 10) (C := Z18) rfl rfl (by first | (go_simp; done) | (go_simp; rfl)) ?_; intro g10 w9 h10 b10 f9; have A9 := Aside0.mk (A8.out.below f9.out))
    | ((with_reducible refine gate_store (t := 96) (p := 10) (v := .tmp 47) rfl ?_); refine ev_store rfl (ty := 96) (x := .tmp 10) (y := .tmp 47) rfl rfl rfl b10.out info96 wa_one (by decide) WA z18_over ?_; intro w10 b1010 f10; have A10 := Aside0.mk (A8.out.over A9.out f10.out h10.out))
    | ((with_reducible refine gate_dst (N := 50) rfl ?_); refine ev_load (N := 50) rfl rfl rfl rfl b1010.out Tryz.underlying79 rfl info79 KA.toList wa_key rfl ?_)
    | (go_at_call 137; refine (store_of_none _ _ _ A10.out.s A10.out.m).mono ?_; rintro e w11 ⟨p, rfl, hp, bp, f11⟩; replace f11 := Aside0.mk f11; replace bp := Aside0.mk bp; replace hp := Aside0.mk hp; have A11 := Aside0.mk (A10.out.below f11.out); have b1011 := Aside0.mk (b1010.out.belowS f11.out); have c0 : w11.cell? ⟨g4, 0, none⟩ = some (.int .i64 1) := Bk.cell A11.out.t rfl; have c1 : w11.cell? ⟨g4, 1, none⟩ = some (.int .u8 0) := Bk.cell A11.out.t rfl; have c16 := Bk.cell b1011.out wa_16; have c17 := Bk.cell b1011.out wa_17)
    | (go_at_call 143; refine (chain_put _ _ bp.out).mono ?_; rintro e w12 ⟨rfl, f12⟩; replace f12 := Aside0.mk f12; have A12 := Aside0.mk (A10.out.over A11.out f12.out hp.out); have b1012 := Aside0.mk (b1011.out.fr f12.out (by have := b1010.out.lt; have := hp.out; omega)); clear c0 c1 c16 c17))
  have u79 := Tryz.underlying79
  have i79 : (Tryz.prog.info? 79).map (·.size) = some KA.toList.length := info79
  have hup : (Instr.mapUpdate 115 (.map (some ch)) (.agg KA) (.pointer (some ⟨p, 0, none⟩))).run Tryz.prog w12.drew = .ok () (putO w12.drew ch (.map #[⟨.agg KA, .pointer (some ⟨p, 0, none⟩), 0⟩] 1)) := run_upd_new A12.out.m.drew Tryz.underlying115 (ck_a _) fk_a_none
  have hne : Aside0 (g10 ≠ ch) := ⟨by have := A8.out.m.lt; have := h10.out; omega⟩
  refine wp_region_noPanic ?_
  go_region_held_law (fun w' => w'.cell? ⟨st, 0, none⟩ = some (.map (some ch)) ∧ w'.rangeAt g10 0 KA.toList ∧ Bk w' st #[.map (some ch)] 117 ∧ Bk w' g10 WA 96)
    ((first | exact ap_keep2 A12.out.s.drew b1012.out.drew | exact ap_keep2 (A12.out.s.drew.putFar hsm.out _) (b1012.out.drew.putFar hne.out _)))
    (fail)
  refine NoPanic.normal ?_
  go_split_ands
  clear u79 i79 hup
  go_wp2_with fail
  rw [rounds_succ]
  go_wp2_with fail
  go_returns
  refine ⟨rfl, ?_⟩
  have q1 := f1.out.size
  have q2 := f2.out.size
  have q3 := f3.out.size
  have q4 := f4.out.size
  have q5 := f5.out.size
  have q6 := f6.out.size
  have q7 := f7.out.size
  have q8 := f8.out.size
  have q9 := f9.out.size
  have q10 := f10.out.size
  have q11 := f11.out.size
  have q12 := h8.out
  have q13 := h10.out
  have q14 := hp.out
  have e6 : w5.drew.heap.size = w5.heap.size := rfl
  have F : Fr (fun k => k = g8 ∨ k = g10 ∨ k = p ∨ k = ch) w w12 :=
    (Fr.of_below f1.out).trans <| (Fr.of_below f2.out).trans <| (Fr.of_below f3.out).trans <| (Fr.of_below f4.out).trans <| (Fr.drew (f5.out.weaken (fun _ _ h => Or.inl h))).trans <| (Fr.of_below f6.out).trans <| (Fr.of_below f7.out).trans <| (Fr.of_below f8.out).trans <| (Fr.of_below f9.out).trans <| (f10.out.weaken (fun _ _ h => Or.inr (Or.inl h))).trans <| (Fr.of_below f11.out).trans <| f12.out.weaken (fun _ _ h => Or.inr (Or.inr (Or.inl h)))
  exact (F.drew.put ch _ (Or.inl (Or.inr (Or.inr (Or.inr rfl))))).weaken (fun k hk h => by omega)
end Go.Proofs.YtmdjbogdfipcmaaGreatDoor.Hand
