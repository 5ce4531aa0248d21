import Derived.Test.YtchfmgbjddopoaaGreatDoorProg
import Derived.WalkKit
import Derived.Deep.LoopGhost
import Derived.Deep.QuietTactic
import Derived.BigQuiet
import Derived.WalkSpells
import Derived.WalkLawsBesides
import Derived.Below
import Derived.Deep.Draws
import Derived.Deep.AppendLies
import Derived.Maps.AppendAt
import Derived.OwnWalk
import Derived.Laws.BytesArg
import Derived.Laws.MakeOwn
import Derived.Laws.OwnMore
import Derived.Deep.OwnRows
import Derived.Tactics
import Derived.Lib.ConvBytes
import Derived.Laws.Slices
import Derived.KernelRfl
import Derived.RowKit3
import Derived.WideLaws
import Derived.Deep.DeepCutAuto
import Derived.Deep.CutBlock
import Derived.Deep.RegionHeld3
import Derived.Laws.Rows
import Derived.Lib.AppendStr
import Derived.ArgAppend
import Derived.Laws.IdiomCopy
import Derived.OrdersHeld
import Derived.Laws.BitsLemmas
import Derived.RowKit
import Derived.Laws.StructEq
import Derived.Test.YtchfmgbjddopoaaGreatDoorM01
import Derived.Test.YtchfmgbjddopoaaGreatDoorM02
import Derived.Test.YtchfmgbjddopoaaGreatDoorM06
set_option linter.unusedVariables false
set_option linter.unusedSimpArgs false
set_option maxHeartbeats 6400000
set_option maxRecDepth 100000
namespace Go.Proofs.YtchfmgbjddopoaaGreatDoor.Hand
open Go.RowKit Go.Proofs.YtchfmgbjddopoaaGreatDoorW.PrintWords Go.Proofs.YtchfmgbjddopoaaGreatDoorW.PrintLast Go.Proofs.YtchfmgbjddopoaaGreatDoorW.PrintMore
attribute [local go_sem ↓] Go.wp_at_zero Go.wp_at_succ
theorem Fr.after {w w1 w2 : World} {T U : Nat → Prop} (h : Fr T w w1) (h2 : Fr U w1 w2) (hU : ∀ k, U k → T k ∨ w.heap.size ≤ k) : Fr T w w2 :=
 ⟨h2.os.trans h.os, h2.tape.trans h.tape, h2.output.trans h.output, Nat.le_trans h.size h2.size, fun k hk hn => (h2.block k (Nat.lt_of_lt_of_le hk h.size) (fun hu => (hU k hu).elim hn (fun h1 => by omega))).trans (h.block k hk hn)⟩
theorem u8_xor (x t : Int) (h0 : 0 ≤ x) (h1 : x < 256) (ht0 : 0 ≤ t) (ht1 : t < 256) (ht : t ≠ 0) : ∃ y : Nat, Go.bits .xor .u8 x t = (y : Int) ∧ y < 256 ∧ x ≠ (y : Int) := by
 obtain ⟨a, rfl⟩ := Int.eq_ofNat_of_zero_le h0
 obtain ⟨b, rfl⟩ := Int.eq_ofNat_of_zero_le ht0
 have hx : a ^^^ b < 2 ^ 8 := Nat.xor_lt_two_pow (by omega) (by omega)
 refine ⟨a ^^^ b, Go.u8_xor_nat a b (by omega) (by omega), hx, fun e => ?_⟩
 · have e2 : a = a ^^^ b := by omega
   have e3 : b = 0 := by
     have := congrArg (a ^^^ ·) e2
     simp only [← Nat.xor_assoc, Nat.xor_self, Nat.zero_xor] at this
     omega
   exact ht (by omega)
theorem Bq.take2 {w : World} {base n cp : Nat} {A : Option Addr} {a b : List Int} {N : Nat} (h : w.ownsRow base 5 1 (.slice A N cp) (a ++ b).length ((a ++ b).map (Value.int .u8))) (hn : a.length = n) : Bq w base (.slice A n cp) a := by
 have hN : N = (a ++ b).length := by
   rcases h.2 with ⟨e, h0⟩ | ⟨g, cap, cur, e, hb, hh, hc, hm, hs, ht⟩
   · injection e with e1 e2 e3; omega
   · injection e with e1 e2 e3
 subst hN
 have := Bq.take (n := a.length) h (by simp)
 rw [List.take_left] at this
 exact hn ▸ this
theorem Bq.setAt {w : World} {base g cp n : Nat} {l : List Int} (h : Bq w base (.slice (some ⟨g, 0, none⟩) l.length cp) l) (hn : n < l.length) (y : Int) : Bq (w.setCell ⟨g, n, none⟩ (.int .u8 y)) base (.slice (some ⟨g, 0, none⟩) l.length cp) (l.take n ++ [y] ++ l.drop (n + 1)) := by
 have hlen : (l.take n ++ [y] ++ l.drop (n + 1)).length = l.length := by simp; omega
 refine ⟨by simp, ?_⟩
 rcases h.2 with ⟨e, h0⟩ | ⟨g', cap, cur, e, hb, hh, hc, hm, hs, ht⟩
 · cases e
 · injection e with e1 e2 e3
   injection e1 with e1
   injection e1 with e1
   subst e1 e3
   refine .inr ⟨g, cp, cur.setIfInBounds n (.int .u8 y), by rw [hlen], hb, Bk.set (show Bk w g cur 5 from hh) n _, by rw [hlen]; exact hc, hm, by simpa using hs, ?_⟩
   rw [hlen]
   rw [Nat.mul_one] at ht ⊢
   have e4 : (cur.setIfInBounds n (.int .u8 y)).toList = cur.toList.set n (.int .u8 y) := by simp
   rw [e4, List.take_set, ht]
   rw [List.set_eq_take_append_cons_drop, if_pos (by simpa using hn)]
   simp
theorem QC (w : World) (d m : Nat) (lives keep torn : Int) (h : Dk0 d m lives true w) :
   Calls Tryz.prog 11 #[.pointer (some ⟨d, 0, none⟩), .int .i64 keep, .int .u8 torn] w fun e w' => e = .returned (.tuple #[]) ∧ Dk0 d m lives false w' ∧ Fr (fun k => k = d) w w' := by
 have z2 := Bk.free h.d 2
 have hdm : Aa (d ≠ m) := ⟨BR h.d h.m⟩
 have hW1 : Aa (Dk0 d m lives false (w.setCell ⟨d, 2, none⟩ (.bool false))) := ⟨Bk.set h.d 2 _, h.m.far (Ne.symm hdm.out) _ _⟩
 have FW : Aa (Fr (fun k => k = d) w (w.setCell ⟨d, 2, none⟩ (.bool false))) := ⟨(Fr.refl _ w).set d 2 _ (.inl rfl)⟩
 have c2 : w.cell? ⟨d, 2, none⟩ = some (.bool true) := Bk.cell h.d rfl
 have c3 : w.cell? ⟨d, 3, none⟩ = some (.map (some m)) := Bk.cell h.d rfl
 have hrg := D8 (T := 58) Tryz.underlying58 hW1.out.m
 clear h
 go_enter Tryz.func11, Tryz.ntmps11
 go_wp2_with (first
   | ((with_reducible refine Ac (N := 17) rfl ?_); refine Ls (N := 17) (o := .mapIter (some m) 0 #[] 0) rfl rfl (by first | (go_simp; done) | (go_simp; rfl)) ?_; intro r w1 hr br f1; have h1 := Aa.mk (hW1.out.below f1.out); clear hrg c3 c2))
 refine wp_loop_rounds 2 ?_
 rw [rounds_succ]
 have hnx := fun ty => Gy ty h1.out.m br.out
 go_wp2_with fail
 go_returns
 exact ⟨rfl, h1.out, Fr.trans FW.out (Fr.of_below f1.out)⟩
theorem QB (w : World) (d m f : Nat) (lives keep torn : Int) (v : Value) (l : List Int) (s : Nat) (h : Dk1 d m f lives true v l s w) (hs : s ≤ l.length) (hl : l.length ≤ 262144) (hb : Plain.Bytes l) (ht0 : 0 ≤ torn) (ht1 : torn < 256) :
   Calls Tryz.prog 11 #[.pointer (some ⟨d, 0, none⟩), .int .i64 keep, .int .u8 torn] w fun e w' => e = .returned (.tuple #[]) ∧ ∃ n c v', s ≤ n ∧ n ≤ l.length ∧ (c = [] ∨ (n < l.length ∧ ∃ x : Nat, c = [(x : Int)] ∧ x < 256 ∧ l.getD n 0 ≠ (x : Int))) ∧ Dk1 d m f lives false v' (l.take n ++ c) (n + c.length) w' ∧ Fr (fun k => k = d ∨ k = f ∨ v.ownBlock = some k) w w' ∧ ∀ k, v'.ownBlock = some k → w.heap.size ≤ k := by
 obtain ⟨A, cp, rfl⟩ := Bq.slice h.b
 have z2 := Bk.free h.d 2
 have hdm : Aa (d ≠ m) := ⟨BR h.d h.m⟩
 have hdf : Aa (d ≠ f) := ⟨Dh h.d h.f (by decide)⟩
 have hfm : Aa (f ≠ m) := ⟨BR h.f h.m⟩
 have hdb : Aa ((Value.slice A l.length cp).ownBlock ≠ some d) := ⟨AC h.b h.d (by decide)⟩
 have FW : Aa (Fr (fun k => k = d) w (w.setCell ⟨d, 2, none⟩ (.bool false))) := ⟨(Fr.refl _ w).set d 2 _ (.inl rfl)⟩
 have hW1 : Aa (Dk1 d m f lives false (.slice A l.length cp) l s (w.setCell ⟨d, 2, none⟩ (.bool false))) := ⟨Bk.set h.d 2 _, h.m.far (Ne.symm hdm.out) _ _, h.f.far (Ne.symm hdf.out) _ _, AP h.b FW.out (fun k hk => hk ▸ hdb.out)⟩
 have c2 : w.cell? ⟨d, 2, none⟩ = some (.bool true) := Bk.cell h.d rfl
 have c3 : w.cell? ⟨d, 3, none⟩ = some (.map (some m)) := Bk.cell h.d rfl
 have hrg := D8 (T := 58) Tryz.underlying58 hW1.out.m
 clear h
 go_enter Tryz.func11, Tryz.ntmps11
 go_wp2_with (first
   | ((with_reducible refine Ac (N := 17) rfl ?_); refine Ls (N := 17) (o := .mapIter (some m) 1 #[] 1) rfl rfl (by first | (go_simp; done) | (go_simp; rfl)) ?_; intro r w1 hr br f1; have h1 := Aa.mk (hW1.out.below f1.out); clear hrg c3 c2))
 have hnx := fun ty => Kq ty h1.out.m br.out
 have hne : Aa (m ≠ r ∧ d ≠ r ∧ f ≠ r ∧ w.heap.size ≤ r) := ⟨by have := hW1.out.m.lt; have := hW1.out.d.lt; have := hW1.out.f.lt; have := hr.out; have := FW.out.size; omega⟩
 have br2 := Aa.mk (Ob.put br.out (.mapIter (some m) 1 #[0] 1))
 have F2 := Aa.mk (Fr.put (T1 := fun k => k = r) (Fr.refl _ w1) r (.mapIter (some m) 1 #[0] 1) (.inl rfl))
 have h2 : Aa (Dk1 d m f lives false (.slice A l.length cp) l s (Cc w1 r (.mapIter (some m) 1 #[0] 1))) := ⟨Ob.Bi h1.out.d hne.out.2.1 _, Ob.Bi h1.out.m hne.out.1 _, Ob.Bi h1.out.f hne.out.2.2.1 _, AP h1.out.b F2.out (fun k hk e => by
   have e1 := (h1.out.b.lt k e).2
   subst hk
   have := (hW1.out.b.lt _ e).2
   have := hr.out
   omega)⟩
 refine wp_loop_rounds 3 ?_
 rw [rounds_succ]
 generalize Cc w1 r (.mapIter (some m) 1 #[0] 1) = w2 at *
 have hen := Jz h2.out.m br2.out
 have c0 : w2.cell? ⟨f, 0, none⟩ = some (.slice A l.length cp) := Bk.cell h2.out.f rfl
 have c1 : w2.cell? ⟨f, 1, none⟩ = some (.int .i64 s) := Bk.cell h2.out.f rfl
 have z0 := Bk.free h2.out.f 0
 have z1 := Bk.free h2.out.f 1
 obtain ⟨n, hn⟩ : ∃ n : Nat, (s : Int) + min (max keep 0) ((l.length : Int) - s) = n := ⟨((s : Int) + min (max keep 0) ((l.length : Int) - s)).toNat, by omega⟩
 have hn1 : Aa (s ≤ n ∧ n ≤ l.length) := ⟨by omega⟩
 have wr1 : IntKind.i64.wrap ((l.length : Int) - s) = (l.length : Int) - s := IntWalk.i64_in _ (by omega)
 have wr2 : IntKind.i64.wrap ((s : Int) + min (max keep 0) ((l.length : Int) - s)) = n := by rw [hn]; exact IntWalk.i64_in _ (by omega)
 replace hl := Aa.mk hl
 replace hs := Aa.mk hs
 replace hb := Aa.mk hb
 replace hn := Aa.mk hn
 replace ht0 := Aa.mk ht0
 replace ht1 := Aa.mk ht1
 go_wp2_with fail
 go_quiet ((fail))
 have h3 := Aa.mk (h2.out.below (Ae (Below.refl _ _) nq))
 have F3 : Aa (Below w2.heap.size w2 (w2.drewN nq)) := ⟨Ae (Below.refl _ _) nq⟩
 have br3 : Aa (Ob (w2.drewN nq) r (.mapIter (some m) 1 #[0] 1)) := ⟨Ob.Ad br2.out F3.out⟩
 clear c0 c1 z0 z1 hnx hen
 clear wr1 wr2
 generalize w2.drewN nq = w3 at *
 have c0 : w3.cell? ⟨f, 0, none⟩ = some (.slice A l.length cp) := Bk.cell h3.out.f rfl
 have z0 := Bk.free h3.out.f 0
 have z1 := Bk.free h3.out.f 1
 have hcl : n ≤ cp := by
   have := hn1.out.2
   rcases h3.out.b.2 with ⟨e, h0⟩ | ⟨g, cap, cur, e, hb, hh, hc, hm, hs, ht⟩
   · injection e with e1 e2 e3; omega
   · injection e with e1 e2 e3; omega
 have key : ∀ (n2 : Nat) (c : List Int) (w4 : World) (A' : Option Addr) (cp' : Nat), (c = [] ∨ (n < l.length ∧ ∃ x : Nat, c = [(x : Int)] ∧ x < 256 ∧ l.getD n 0 ≠ (x : Int))) → n2 = n + c.length → Dk1 d m f lives false (.slice A l.length cp) (l.take n ++ c ++ l.drop (n + c.length)) s w4 → Fr (fun k => (Value.slice A l.length cp).ownBlock = some k) w3 w4 → ∀ w5 : World, Below w4.heap.size w4 w5 → Bq w5 w4.heap.size (.slice A' n2 cp') (l.take n ++ c) →
     (∃ n c v', s ≤ n ∧ n ≤ l.length ∧ (c = [] ∨ (n < l.length ∧ ∃ x : Nat, c = [(x : Int)] ∧ x < 256 ∧ l.getD n 0 ≠ (x : Int))) ∧ Dk1 d m f lives false v' (l.take n ++ c) (n + c.length) ((w5.setCell ⟨f, 0, none⟩ (.slice A' n2 cp')).setCell ⟨f, 1, none⟩ (.int .i64 n2)) ∧ Fr (fun k => k = d ∨ k = f ∨ (Value.slice A l.length cp).ownBlock = some k) w ((w5.setCell ⟨f, 0, none⟩ (.slice A' n2 cp')).setCell ⟨f, 1, none⟩ (.int .i64 n2)) ∧ ∀ k, v'.ownBlock = some k → w.heap.size ≤ k) ∧ ∀ ty, (Instr.next (.pointer (some ⟨r, 0, none⟩)) false ty).run Tryz.prog ((w5.setCell ⟨f, 0, none⟩ (.slice A' n2 cp')).setCell ⟨f, 1, none⟩ (.int .i64 n2)) = .ok (.tuple #[.bool false]) ((w5.setCell ⟨f, 0, none⟩ (.slice A' n2 cp')).setCell ⟨f, 1, none⟩ (.int .i64 n2)) := by
   intro n2 c w4 A' cp' hc hn2 h4 F4 w5 f5 r5
   subst hn2
   have h5 := h4.below f5
   have Fg : Fr (fun k => k = f) w5 ((w5.setCell ⟨f, 0, none⟩ (.slice A' (n + c.length) cp')).setCell ⟨f, 1, none⟩ (.int .i64 ((n + c.length : Nat) : Int))) := Fr.set (T := fun k => k = f) (Fr.set (T := fun k => k = f) (Fr.refl _ w5) f 0 _ (.inl rfl)) f 1 _ (.inl rfl)
   have hnz : w.heap.size ≤ w4.heap.size := Nat.le_trans FW.out.size (Nat.le_trans f1.out.size (Nat.le_trans F2.out.size (Nat.le_trans F3.out.size F4.size)))
   have hlen : (l.take n ++ c).length = n + c.length := by simp [hn1.out.2]
   have hgr : (Value.slice A l.length cp).ownBlock ≠ some r := by
     intro e
     rcases h3.out.b.2 with ⟨e1, _⟩ | ⟨g1, cap, cur, e1, _, e3, _⟩
     · rw [e1] at e; simp [Value.ownBlock] at e
     · rw [e1] at e
       have e2 : g1 = r := by simpa [Value.ownBlock] using e
       subst e2
       have := Option.some.inj ((show w3.heap[g1]? = _ from e3).symm.trans (show w3.heap[g1]? = _ from br3.out))
       cases this
   have r6 : Ob ((w5.setCell ⟨f, 0, none⟩ (.slice A' (n + c.length) cp')).setCell ⟨f, 1, none⟩ (.int .i64 ((n + c.length : Nat) : Int))) r (.mapIter (some m) 1 #[0] 1) := (((Ob.fr br3.out F4 hgr).Ad f5).far hne.out.2.2.1.symm _ _).far hne.out.2.2.1.symm _ _
   have m6 := (h5.m.far hfm.out.symm 0 (.slice A' (n + c.length) cp')).far hfm.out.symm 1 (.int .i64 ((n + c.length : Nat) : Int))
   refine ⟨?_, fun ty => Fe ty m6 r6⟩
   refine ⟨n, c, .slice A' (n + c.length) cp', hn1.out.1, hn1.out.2, hc, ⟨(h5.d.far hdf.out _ _).far hdf.out _ _, (h5.m.far hfm.out.symm _ _).far hfm.out.symm _ _, ?_, ?_⟩, ?_, fun k hk => Nat.le_trans hnz (r5.lt k hk).1⟩
   · have := Bk.set (Bk.set h5.f 0 (.slice A' (n + c.length) cp')) 1 (.int .i64 ((n + c.length : Nat) : Int))
     simpa [FlC] using this
   · have := AV (AP r5 Fg (fun k hk => hk ▸ AC r5 h5.f (by decide))) (Nat.zero_le _)
     exact this
   · refine Fr.after (Fr.after (Fr.after (Fr.after (Fr.after (Fr.after (T := fun k => k = d ∨ k = f ∨ (Value.slice A l.length cp).ownBlock = some k) (FW.out.weaken (fun k _ h => .inl h)) (Fr.of_below (T := fun _ => False) f1.out) (fun k h => h.elim)) F2.out (fun k h => .inr (h ▸ hne.out.2.2.2))) (Fr.of_below (T := fun _ => False) F3.out) (fun k h => h.elim)) F4 (fun k h => .inl (.inr (.inr h)))) (Fr.of_below (T := fun _ => False) f5) (fun k h => h.elim)) Fg (fun k h => .inl (.inr (.inl h)))
 by_cases hnl : n < l.length
 · have dn : decide ((n : Int) < (l.length : Int)) = true := by simp; omega
   have dn2 : decide (n < l.length) = true := by simp; omega
   by_cases ht : torn = 0
   · subst ht
     replace hnl := Aa.mk hnl
     go_wp2_with (first
       | (go_at_call 35
          refine (Ef _ 0 (.slice A n cp) (l.take n) (Bq.take h3.out.b hn1.out.2) (by have := hl.out; have := hn1.out.2; simp; omega)).mono ?_
          rintro e wB ⟨v', rfl, hr, fB⟩
          obtain ⟨A', cp', ev⟩ := Bq.slice hr
          rw [show (l.take n).length = n from by have := hn1.out.2; simp; omega] at ev
          subst ev
          have hB := Aa.mk (h3.out.below fB)
          obtain ⟨KB, hov⟩ := key n [] w3 A' cp' (.inl rfl) rfl (by simpa using h3.out) (Fr.refl _ _) _ fB (by simpa using hr)
          replace KB := Aa.mk KB
          have zB := Bk.free hB.out.f 0
          have zB1 := Bk.free hB.out.f 1
          have cB := Bk.cell hB.out.f (j := 0) rfl
          have cB1 := Bk.cell hB.out.f (j := 1) rfl
          clear fB hr))
     rw [rounds_succ]
     go_wp2_with fail
     go_returns
     exact ⟨rfl, KB.out⟩
   · have dt : (torn == 0) = false := by simp; omega
     have dt2 : decide (torn = 0) = false := by simp; omega
     have dt3 : (torn != 0) = true := by simp; omega
     obtain ⟨g, cp1, e1, hb0, hg, hle⟩ := Bq.at_ h3.out.b (by omega)
     injection e1 with e1 e2 e3
     subst e1 e3
     obtain ⟨x0, hx0⟩ : ∃ x0, x0 = l.getD n 0 := ⟨_, rfl⟩
     have hx1 : 0 ≤ x0 ∧ x0 < 256 := hb.out x0 (by rw [hx0, List.getD_eq_getElem?_getD, List.getElem?_eq_getElem hnl]; exact List.getElem_mem hnl)
     obtain ⟨y, hy, hy1, hy2⟩ := u8_xor x0 torn hx1.1 hx1.2 ht0.out ht1.out ht
     have cn : w3.cell? ⟨g, n, none⟩ = some (.int .u8 x0) := by
       have := Bq.news h3.out.b n (.int .u8 x0) (by rw [hx0, List.getElem?_map, List.getElem?_eq_getElem hnl, List.getD_eq_getElem?_getD, List.getElem?_eq_getElem hnl]; rfl)
       by_cases h00 : n = 0
       · simpa [Addr.add, h00] using this
       · simpa [Addr.add, h00] using this
     obtain ⟨cur, hcur⟩ : ∃ cur, Bk w3 g cur 5 := by
       rcases h3.out.b.2 with ⟨e, h0⟩ | ⟨g', cap, cur, e, hb, hh, hc, hm, hs, ht⟩
       · cases e
       · injection e with e1 e2 e3
         injection e1 with e1
         injection e1 with e1
         subst e1
         exact ⟨cur, hh⟩
     have zn := Bk.free hcur n
     have nb : (decide ((n : Int) < 0)) = false := by simp
     have F4 : Fr (fun k => k = g) w3 (w3.setCell ⟨g, n, none⟩ (.int .u8 y)) := (Fr.refl _ w3).set g n _ (.inl rfl)
     have h4 : Aa (Dk1 d m f lives false (.slice (some ⟨g, 0, none⟩) l.length cp) (l.take n ++ [(y : Int)] ++ l.drop (n + 1)) s (w3.setCell ⟨g, n, none⟩ (.int .u8 y))) := by
       have hgd := AC h3.out.b h3.out.d (by decide)
       have hgf := AC h3.out.b h3.out.f (by decide)
       exact ⟨h3.out.d.far (fun e => hgd (by rw [e]; rfl)) _ _, h3.out.m.far (fun e => BR hcur h3.out.m e.symm) _ _, h3.out.f.far (fun e => hgf (by rw [e]; rfl)) _ _, Bq.setAt h3.out.b hnl _⟩
     have c04 : (w3.setCell ⟨g, n, none⟩ (.int .u8 y)).cell? ⟨f, 0, none⟩ = some (.slice (some ⟨g, 0, none⟩) l.length cp) := Bk.cell h4.out.f rfl
     have z04 := Bk.free h4.out.f 0
     have z14 := Bk.free h4.out.f 1
     have hle2 : n + 1 ≤ cp := Nat.le_trans hnl hle
     replace hx0 := Aa.mk hx0
     replace hy2 := Aa.mk hy2
     have w64 : wrap64 ((n : Int) + 1) = ((n + 1 : Nat) : Int) := by
       have h1 := hl.out
       clear h4 c04 z04 z14
       rw [IntWalk.wrap64_in _ ⟨by omega, by omega⟩]
       simp
     have hnl2 := Aa.mk hnl
     replace ht := Aa.mk ht
     replace hx1 := Aa.mk hx1
     go_wp2_with (first
       | (go_at_call 35
          refine (Ef _ 0 (.slice (some ⟨g, 0, none⟩) (n + 1) cp) (l.take n ++ [(y : Int)]) (Bq.take2 h4.out.b (by have := hnl2.out; simp; omega)) (by have := hl.out; have := hnl2.out; simp; omega)).mono ?_
          rintro e wB ⟨v', rfl, hr, fB⟩
          obtain ⟨A', cp', ev⟩ := Bq.slice hr
          rw [show (l.take n ++ [(y : Int)]).length = n + 1 from by have := hnl2.out; simp; omega] at ev
          subst ev
          have hB := Aa.mk (h4.out.below fB)
          obtain ⟨KB, hov⟩ := key (n + 1) [(y : Int)] _ A' cp' (.inr ⟨hnl2.out, y, rfl, hy1, hx0.out ▸ hy2.out⟩) rfl h4.out (F4.weaken (fun k _ hk => by rw [hk]; rfl)) _ fB hr
          rw [show ((n + 1 : Nat) : Int) = (n : Int) + 1 from by simp] at KB hov
          replace KB := Aa.mk KB
          have zB := Bk.free hB.out.f 0
          have zB1 := Bk.free hB.out.f 1
          have cB := Bk.cell hB.out.f (j := 0) rfl
          have cB1 := Bk.cell hB.out.f (j := 1) rfl
          clear fB hr))
     rw [rounds_succ]
     go_wp2_with fail
     go_returns
     exact ⟨rfl, KB.out⟩
 · have dn : decide ((n : Int) < (l.length : Int)) = false := by simp; omega
   have dn2 : decide (n < l.length) = false := by simp; omega
   replace hnl := Aa.mk hnl
   go_wp2_with (first
       | (go_at_call 35
          refine (Ef _ 0 (.slice A n cp) (l.take n) (Bq.take h3.out.b hn1.out.2) (by have := hl.out; have := hn1.out.2; simp; omega)).mono ?_
          rintro e wB ⟨v', rfl, hr, fB⟩
          obtain ⟨A', cp', ev⟩ := Bq.slice hr
          rw [show (l.take n).length = n from by have := hn1.out.2; simp; omega] at ev
          subst ev
          have hB := Aa.mk (h3.out.below fB)
          obtain ⟨KB, hov⟩ := key n [] w3 A' cp' (.inl rfl) rfl (by simpa using h3.out) (Fr.refl _ _) _ fB (by simpa using hr)
          replace KB := Aa.mk KB
          have zB := Bk.free hB.out.f 0
          have zB1 := Bk.free hB.out.f 1
          have cB := Bk.cell hB.out.f (j := 0) rfl
          have cB1 := Bk.cell hB.out.f (j := 1) rfl
          clear fB hr))
   rw [rounds_succ]
   go_wp2_with fail
   go_returns
   exact ⟨rfl, KB.out⟩
end Go.Proofs.YtchfmgbjddopoaaGreatDoor.Hand
namespace Go.Proofs.YtchfmgbjddopoaaGreatDoor.Hand
open Go.RowKit Go.Proofs.YtchfmgbjddopoaaGreatDoorW.PrintWords Go.Proofs.YtchfmgbjddopoaaGreatDoorW.PrintLast Go.Proofs.YtchfmgbjddopoaaGreatDoorW.PrintMore Go.Proofs.YtchfmgbjddopoaaGreatDoor.Plain
theorem Yp (m : Nat) (x : Int) (hm : m < 4294967296) (h0 : 0 ≤ x) (h1 : x < 256) : Go.bits .xor .u32 (m : Int) (x % 4294967296) = ((m ^^^ x.toNat : Nat) : Int) := by
 obtain ⟨X, rfl⟩ := Int.eq_ofNat_of_zero_le h0
 rw [show ((X : Int) % 4294967296) = (X : Int) from by omega, u32_xor_nat _ _ hm (by omega), Int.toNat_natCast]
theorem Xap (N : Nat) (h : N < 4294967296) : Go.bits .xor .u32 ((N : Int) / 2) (Go.bits .and .u32 2197175160 (-Go.bits .and .u32 (N : Int) 1 % 4294967296)) = ((T N : Nat) : Int) := by
 have e1 : Go.bits .and .u32 (N : Int) 1 = ((N % 2 : Nat) : Int) := by
   rw [show (1 : Int) = ((1 : Nat) : Int) from rfl, u32_and_nat _ _ h (by decide), nat_mask1]
 have e2 : Go.bits .and .u32 2197175160 (-Go.bits .and .u32 (N : Int) 1 % 4294967296) = ((if N % 2 = 1 then poly else 0 : Nat) : Int) := by
   rw [e1]
   by_cases hp : N % 2 = 1
   · rw [if_pos hp, hp]; decide +kernel
   · rw [if_neg hp, show N % 2 = 0 from by omega]; decide +kernel
 rw [e2, show ((N : Int) / 2) = ((N / 2 : Nat) : Int) from by omega]
 unfold T
 exact u32_xor_nat _ _ (by omega) (by split <;> simp [poly])
theorem Pv (s : Int) (h0 : 0 ≤ s) (h1 : s < 4294967296) : Go.bits .xor .u32 IntKind.u32.max s = ((ones ^^^ s.toNat : Nat) : Int) := by
 obtain ⟨S, rfl⟩ := Int.eq_ofNat_of_zero_le h0
 rw [show IntKind.u32.max = ((4294967295 : Nat) : Int) from by decide, u32_xor_nat _ _ (by decide) (by omega), Int.toNat_natCast]
 rfl
theorem UM (c : Nat) (l : List Int) (x : Int) (h0 : 0 ≤ x) (h1 : x < l.length) : fold c (l.take (x + 1).toNat) = upd (fold c (l.take x.toNat)) (rd l x) := by
 obtain ⟨X, rfl⟩ := Int.eq_ofNat_of_zero_le h0
 have hX : X < l.length := by omega
 rw [show ((X : Int) + 1).toNat = X + 1 from by omega, Int.toNat_natCast, List.take_succ_eq_append_getElem hX, Jl]
 congr 1
 unfold rd
 rw [Int.toNat_natCast, List.getD_eq_getElem?_getD, List.getElem?_eq_getElem hX]
 rfl
theorem Pq {l : List Int} (hb : ∀ x ∈ l, 0 ≤ x ∧ x < 256) (x : Int) (h0 : 0 ≤ x) (h1 : x < l.length) : 0 ≤ rd l x ∧ rd l x < 256 := by
 obtain ⟨X, rfl⟩ := Int.eq_ofNat_of_zero_le h0
 have hX : X < l.length := by omega
 have : rd l (X : Int) = l[X] := by
   unfold rd
   rw [Int.toNat_natCast, List.getD_eq_getElem?_getD, List.getElem?_eq_getElem hX]
   rfl
 rw [this]
 exact hb _ (List.getElem_mem hX)
theorem Pm {l : List Int} (hb : ∀ x ∈ l, 0 ≤ x ∧ x < 256) (k : Nat) (s : Int) (hs : 0 ≤ s ∧ s < 4294967296) : fold (ones ^^^ s.toNat) (l.take k) < 4294967296 :=
 Lp _ (FN Ll (by omega)) (fun x hx => (hb x (List.mem_of_mem_take hx)).2)
theorem add_any (A0 : Option Addr) (c0 : Nat) (l : List Int) (s : Int) (w : World) (hr0 : Kd.C (Kd.int .u8) w A0 l.length l) (hc0 : l.length ≤ c0) (hl : l.length ≤ 140737488355328)
   (hb : ∀ x ∈ l, 0 ≤ x ∧ x < 256) (hs : 0 ≤ s ∧ s < 4294967296) :
   Calls Tryz.prog 71 #[.int .u32 s, .slice A0 l.length c0] w fun e w' => e = .returned (.int .u32 (add s.toNat l)) ∧ Az w w' := by
 have HR0 := Aa.mk hr0
 have HC0 := Aa.mk hc0
 have HBY := Aa.mk hb
 have HS := Aa.mk hs
 have HL := Aa.mk hl
 clear hr0 hc0 hb hs hl
 go_enter Tryz.func71, Tryz.ntmps71
 go_wp2
 go_loopw [5, 12] (fun c i w' => ∃ (x : Int) (m : Int), 0 ≤ x ∧ x ≤ (l.length : Int) ∧ i = .int .i64 x ∧ c = .int .u32 m ∧ Aa (m = fold (ones ^^^ s.toNat) (l.take x.toNat)) ∧ Az w w') (fun _ i _ => l.length - (intOf i).toNat)
 case atStart => exact ⟨0, _, by omega, by omega, rfl, rfl, ⟨by rw [Pv s HS.out.1 HS.out.2]; rfl⟩, Az.refl _⟩
 case round =>
   obtain ⟨x, m, hx0, hx1, rfl, rfl, HM, ⟨nd, rfl⟩⟩ := hrel
   by_cases hlt : x < (l.length : Int)
   · obtain ⟨ad, ea, hx⟩ := Kd.Ep HR0.out x hx0 hlt
     cases ea
     clear hx1
     have p1 := decide_eq_true hlt
     have hx0' := Aa.mk hx0
     replace hx0 := eq_true hx0
     have hlt' := Aa.mk hlt
     replace hlt := eq_true hlt
     go_wp2
     go_loop [5, 20] (fun c j => ∃ (y : Int) (n : Int), 0 ≤ y ∧ y ≤ 8 ∧ j = .int .i64 y ∧ c = .int .u32 n ∧ Aa (n = rep y.toNat (m.toNat ^^^ (rd l x).toNat))) (fun _ j => 8 - (intOf j).toNat)
     case atStart =>
       refine ⟨0, _, by omega, by omega, rfl, rfl, ⟨?_⟩⟩
       have hby := Pq HBY.out x hx0'.out hlt'.out
       have hm := Pm HBY.out x.toNat s HS.out
       rw [HM.out, Yp _ _ hm hby.1 hby.2]
       rfl
     case round =>
       obtain ⟨y, n, hy0, hy1, rfl, rfl, HN⟩ := hrel
       by_cases hy : y < 8
       · go_wp2
         go_round
         case rel =>
           refine ⟨y + 1, _, by omega, by omega, rfl, rfl, ⟨?_⟩⟩
           have hby := Pq HBY.out x hx0'.out hlt'.out
           have hm := Pm HBY.out x.toNat s HS.out
           have hn : rep y.toNat (m.toNat ^^^ (rd l x).toNat) < 4294967296 := Ud _ (FN (by rw [HM.out, Int.toNat_natCast]; exact hm) (by omega))
           rw [HN.out, Xap _ hn, ← rep_succ, show (y + 1).toNat = y.toNat + 1 from by omega]
         case measure => simp [intOf]; omega
       · go_wp2
         go_roundw
         case rel =>
           refine ⟨x + 1, n, ?_, ?_, ?_, rfl, ⟨?_⟩, ⟨nd, rfl⟩⟩
           · have := hx0'.out; omega
           · have := hlt'.out; omega
           · have h1 := hlt'.out
             have h2 := HL.out
             have h3 := hx0'.out
             rw [show wrap64 (x + 1) = x + 1 from by unfold wrap64; omega]
           · have h8 : y = 8 := by omega
             rw [UM _ l x hx0'.out hlt'.out, HN.out, HM.out, h8]
             rfl
         case measure =>
           have h1 := hlt'.out
           have h2 := HL.out
           have h3 := hx0'.out
           have e : wrap64 (x + 1) = x + 1 := by unfold wrap64; omega
           simp [intOf, e]; omega
   · go_wp2
     go_ret
     have he : x = l.length := by omega
     have hm := Pm HBY.out x.toNat s HS.out
     refine ⟨?_, ⟨nd, rfl⟩⟩
     have h1 : fold (ones ^^^ s.toNat) (l.take x.toNat) = fold (ones ^^^ s.toNat) l := by rw [he, Int.toNat_natCast, List.take_length]
     rw [HM.out, Pv _ (by omega) (by omega), Int.toNat_natCast, h1]
     rfl
theorem WX (A0 : Option Addr) (c0 : Nat) (l : List Int) (w : World) (hr0 : Kd.C (Kd.int .u8) w A0 l.length l) (hc0 : l.length ≤ c0) (hl : l.length ≤ 140737488355328)
   (hb : ∀ x ∈ l, 0 ≤ x ∧ x < 256) :
   Calls Tryz.prog 72 #[.slice A0 l.length c0] w fun e w' => e = .returned (.int .u32 (add 0 l)) ∧ Az w w' := by
 have hF := add_any A0 c0 l 0 w hr0 hc0 hl hb (by decide)
 clear hr0 hb
 go_enter Tryz.func72, Tryz.ntmps72
 go_wp2_with (first
   | (go_at_call 71; refine hF.mono ?_; clear hF; rintro e w1 ⟨rfl, n, rfl⟩))
 go_ret
 exact ⟨rfl, n, rfl⟩
end Go.Proofs.YtchfmgbjddopoaaGreatDoor.Hand
namespace Go.Proofs.YtchfmgbjddopoaaGreatDoor.Pat
open Go.RowKit Go.Proofs.YtchfmgbjddopoaaGreatDoorW.PrintWords Go.Proofs.YtchfmgbjddopoaaGreatDoorW.PrintLast Go.Proofs.YtchfmgbjddopoaaGreatDoorW.PrintMore
attribute [local go_sem] max2_int min2_int max_two min_two max_three min_three max_four min_four
def errW : Option Int → Value
 | none => .nilIface
 | some c => .iface 0 (.int .i64 c)
theorem errW_none : errW none = .nilIface := rfl
theorem errW_some (c : Int) : errW (some c) = .iface 0 (.int .i64 c) := rfl
def Bz.f (l0 : List Int) (a1 : Int) : Option (Int) := if 0 ≤ a1 then (if a1 < (l0.length : Int) then (if 0 ≤ (wrap64 (a1 + 1)) then (if (wrap64 (a1 + 1)) < (l0.length : Int) then (if 0 ≤ (wrap64 (a1 + 2)) then (if (wrap64 (a1 + 2)) < (l0.length : Int) then (if 0 ≤ (wrap64 (a1 + 3)) then (if (wrap64 (a1 + 3)) < (l0.length : Int) then (some (Go.bits .or .u32 (Go.bits .or .u32 (Go.bits .or .u32 ((rd l0 a1) % 4294967296) ((((rd l0 (wrap64 (a1 + 1))) % 4294967296) * 256) % 4294967296)) ((((rd l0 (wrap64 (a1 + 2))) % 4294967296) * 65536) % 4294967296)) ((((rd l0 (wrap64 (a1 + 3))) % 4294967296) * 16777216) % 4294967296))) else (none)) else (none)) else (none)) else (none)) else (none)) else (none)) else (none)) else (none)
theorem Bz.calls (A0 : Option Addr) (c0 : Nat) (l0 : List Int) (a1 : Int) (r : Int) (w : World) (hr0 : Kd.C (Kd.int .u8) w A0 l0.length l0) (hc0 : l0.length ≤ c0) (h : Bz.f l0 a1 = some r) :
   Calls Tryz.prog 114 #[.slice A0 l0.length c0, .int .i64 a1] w fun e w' => e = .returned (.int .u32 r) ∧ Az w w' := by
 have HR0 := Aa.mk hr0
 have HC0 := Aa.mk hc0
 clear hr0 hc0
 have H : (if 0 ≤ a1 then (if a1 < (l0.length : Int) then (if 0 ≤ (wrap64 (a1 + 1)) then (if (wrap64 (a1 + 1)) < (l0.length : Int) then (if 0 ≤ (wrap64 (a1 + 2)) then (if (wrap64 (a1 + 2)) < (l0.length : Int) then (if 0 ≤ (wrap64 (a1 + 3)) then (if (wrap64 (a1 + 3)) < (l0.length : Int) then (some (Go.bits .or .u32 (Go.bits .or .u32 (Go.bits .or .u32 ((rd l0 a1) % 4294967296) ((((rd l0 (wrap64 (a1 + 1))) % 4294967296) * 256) % 4294967296)) ((((rd l0 (wrap64 (a1 + 2))) % 4294967296) * 65536) % 4294967296)) ((((rd l0 (wrap64 (a1 + 3))) % 4294967296) * 16777216) % 4294967296))) else (none)) else (none)) else (none)) else (none)) else (none)) else (none)) else (none)) else (none)) = some r := h
 clear h
 by_cases c3 : 0 ≤ a1
 · rw [if_pos c3] at H
   have c3b0 : decide (0 ≤ a1) = true := decide_eq_true c3
   clear c3
   by_cases c4 : a1 < (l0.length : Int)
   · rw [if_pos c4] at H
     have c4b0 : decide (a1 < (l0.length : Int)) = true := decide_eq_true c4
     clear c4
     obtain ⟨ji5, hji5⟩ : ∃ j_ : Int, (wrap64 (a1 + 1)) = j_ := ⟨_, rfl⟩
     replace H : (if 0 ≤ (ji5) then (if (ji5) < (l0.length : Int) then (if 0 ≤ (wrap64 (a1 + 2)) then (if (wrap64 (a1 + 2)) < (l0.length : Int) then (if 0 ≤ (wrap64 (a1 + 3)) then (if (wrap64 (a1 + 3)) < (l0.length : Int) then (some (Go.bits .or .u32 (Go.bits .or .u32 (Go.bits .or .u32 ((rd l0 a1) % 4294967296) ((((rd l0 (ji5)) % 4294967296) * 256) % 4294967296)) ((((rd l0 (wrap64 (a1 + 2))) % 4294967296) * 65536) % 4294967296)) ((((rd l0 (wrap64 (a1 + 3))) % 4294967296) * 16777216) % 4294967296))) else (none)) else (none)) else (none)) else (none)) else (none)) else (none)) = some r := by first | (rw [hji5] at H; exact H) | (simp only [hji5] at H ⊢; exact H)
     have hji5w : (IntKind.i64.wrap (a1 + 1)) = ji5 := (Ph _).trans hji5
     by_cases c6 : 0 ≤ (ji5)
     · rw [if_pos c6] at H
       have c6b0 : decide (0 ≤ (ji5)) = true := decide_eq_true c6
       clear c6
       by_cases c7 : (ji5) < (l0.length : Int)
       · rw [if_pos c7] at H
         have c7b0 : decide ((ji5) < (l0.length : Int)) = true := decide_eq_true c7
         clear c7
         obtain ⟨ji8, hji8⟩ : ∃ j_ : Int, (wrap64 (a1 + 2)) = j_ := ⟨_, rfl⟩
         replace H : (if 0 ≤ (ji8) then (if (ji8) < (l0.length : Int) then (if 0 ≤ (wrap64 (a1 + 3)) then (if (wrap64 (a1 + 3)) < (l0.length : Int) then (some (Go.bits .or .u32 (Go.bits .or .u32 (Go.bits .or .u32 ((rd l0 a1) % 4294967296) ((((rd l0 (ji5)) % 4294967296) * 256) % 4294967296)) ((((rd l0 (ji8)) % 4294967296) * 65536) % 4294967296)) ((((rd l0 (wrap64 (a1 + 3))) % 4294967296) * 16777216) % 4294967296))) else (none)) else (none)) else (none)) else (none)) = some r := by first | (rw [hji8] at H; exact H) | (simp only [hji8] at H ⊢; exact H)
         have hji8w : (IntKind.i64.wrap (a1 + 2)) = ji8 := (Ph _).trans hji8
         by_cases c9 : 0 ≤ (ji8)
         · rw [if_pos c9] at H
           have c9b0 : decide (0 ≤ (ji8)) = true := decide_eq_true c9
           clear c9
           by_cases c10 : (ji8) < (l0.length : Int)
           · rw [if_pos c10] at H
             have c10b0 : decide ((ji8) < (l0.length : Int)) = true := decide_eq_true c10
             clear c10
             obtain ⟨ji11, hji11⟩ : ∃ j_ : Int, (wrap64 (a1 + 3)) = j_ := ⟨_, rfl⟩
             replace H : (if 0 ≤ (ji11) then (if (ji11) < (l0.length : Int) then (some (Go.bits .or .u32 (Go.bits .or .u32 (Go.bits .or .u32 ((rd l0 a1) % 4294967296) ((((rd l0 (ji5)) % 4294967296) * 256) % 4294967296)) ((((rd l0 (ji8)) % 4294967296) * 65536) % 4294967296)) ((((rd l0 (ji11)) % 4294967296) * 16777216) % 4294967296))) else (none)) else (none)) = some r := by first | (rw [hji11] at H; exact H) | (simp only [hji11] at H ⊢; exact H)
             have hji11w : (IntKind.i64.wrap (a1 + 3)) = ji11 := (Ph _).trans hji11
             by_cases c12 : 0 ≤ (ji11)
             · rw [if_pos c12] at H
               have c12b0 : decide (0 ≤ (ji11)) = true := decide_eq_true c12
               clear c12
               by_cases c13 : (ji11) < (l0.length : Int)
               · rw [if_pos c13] at H
                 have c13b0 : decide ((ji11) < (l0.length : Int)) = true := decide_eq_true c13
                 clear c13
                 obtain rfl := Option.some.inj H
                 have p101 : 0 ≤ (a1 : Int) := of_decide_eq_true (by first | (with_reducible assumption) | assumption)
                 have q101 : a1 < (l0.length : Int) := of_decide_eq_true (by first | (with_reducible assumption) | assumption)
                 obtain ⟨ad101, e101, hx101_0⟩ := Kd.Ep HR0.out a1 p101 q101
                 cases e101
                 replace p101 := eq_true p101
                 replace q101 := eq_true q101
                 have p102 : 0 ≤ ((ji5) : Int) := of_decide_eq_true (by first | (with_reducible assumption) | assumption)
                 have q102 : (ji5) < (l0.length : Int) := of_decide_eq_true (by first | (with_reducible assumption) | assumption)
                 obtain ⟨ad102, e102, hx102_0⟩ := Kd.Ep HR0.out (ji5) p102 q102
                 obtain rfl : ad101 = ad102 := (by injection e102)
                 replace p102 := eq_true p102
                 replace q102 := eq_true q102
                 have p103 : 0 ≤ ((ji8) : Int) := of_decide_eq_true (by first | (with_reducible assumption) | assumption)
                 have q103 : (ji8) < (l0.length : Int) := of_decide_eq_true (by first | (with_reducible assumption) | assumption)
                 obtain ⟨ad103, e103, hx103_0⟩ := Kd.Ep HR0.out (ji8) p103 q103
                 obtain rfl : ad101 = ad103 := (by injection e103)
                 replace p103 := eq_true p103
                 replace q103 := eq_true q103
                 have p104 : 0 ≤ ((ji11) : Int) := of_decide_eq_true (by first | (with_reducible assumption) | assumption)
                 have q104 : (ji11) < (l0.length : Int) := of_decide_eq_true (by first | (with_reducible assumption) | assumption)
                 obtain ⟨ad104, e104, hx104_0⟩ := Kd.Ep HR0.out (ji11) p104 q104
                 obtain rfl : ad101 = ad104 := (by injection e104)
                 replace p104 := eq_true p104
                 replace q104 := eq_true q104
                 go_enter Tryz.func114, Tryz.ntmps114
                 go_wp2
                 repeat (go_quiet (fail); try go_wp2)
                 go_ret
                 exact ⟨by first | rfl | (simp; done) | (simp only [← hji5, ← hji8, ← hji11] <;> (first | rfl | simp)) | (simp [*]; done), by repeat (first | exact Az.refl _ | apply Az.step)⟩
               · rw [if_neg c13] at H
                 exact absurd H (by simp)
             · rw [if_neg c12] at H
               exact absurd H (by simp)
           · rw [if_neg c10] at H
             exact absurd H (by simp)
         · rw [if_neg c9] at H
           exact absurd H (by simp)
       · rw [if_neg c7] at H
         exact absurd H (by simp)
     · rw [if_neg c6] at H
       exact absurd H (by simp)
   · rw [if_neg c4] at H
     exact absurd H (by simp)
 · rw [if_neg c3] at H
   exact absurd H (by simp)
end Go.Proofs.YtchfmgbjddopoaaGreatDoor.Pat
namespace Go.Proofs.YtchfmgbjddopoaaGreatDoor.Hand
open Go.RowKit Go.Proofs.YtchfmgbjddopoaaGreatDoorW.PrintWords Go.Proofs.YtchfmgbjddopoaaGreatDoorW.PrintLast Go.Proofs.YtchfmgbjddopoaaGreatDoorW.PrintMore
attribute [local go_sem ↓] Go.wp_at_zero Go.wp_at_succ
open Plain (le4 at4 Be frm first frames Bytes)
theorem E8 (w : World) (B : Nat) (v : Value) (l : List Int) (n : Nat) (h : Bq w B v l) (hB : B ≤ w.heap.size) (hl : l.length ≤ 1000000) (hn : n < 4294967296) :
   Calls Tryz.prog 70 #[v, .int .u32 n] w fun e w' => ∃ v', e = .returned v' ∧ Bq w' B v' (l ++ le4 n) ∧ Below B w w' := by
 obtain ⟨i0, hi, hz0, hz1, hz2⟩ := info_parts Ua
 obtain ⟨A, cp, rfl⟩ := Bq.slice h
 replace hi := Aa.mk hi
 replace hz0 := Aa.mk hz0
 replace hz1 := Aa.mk hz1
 replace hz2 := Aa.mk hz2
 replace h := Aa.mk h
 replace hB := Aa.mk hB
 replace hl := Aa.mk hl
 replace hn := Aa.mk hn
 go_enter Tryz.func70, Tryz.ntmps70
 go_wp2_with (first
   | ((with_reducible refine Ac (N := 17) rfl ?_); refine Cb (N := 17) (n := 4) (C := #[.int .u8 ((n % 256 : Nat) : Int), .int .u8 ((n / 256 % 256 : Nat) : Int), .int .u8 ((n / 65536 % 256 : Nat) : Int), .int .u8 ((n / 16777216 % 256 : Nat) : Int)]) rfl rfl (by first | (go_simp; done) | (go_simp; rfl)) ?_; intro g w1 hg bg f1; have h1 := Aa.mk (own_below h.out f1.out))
   | (at_builtin
      refine wpList_append_lies _ rfl (.tmp 5) (.tmp 17) 39 rfl B 5 i0 _ 1 1 Tryz.underlying39 hi.out hz0.out hz1.out hz2.out rfl (by decide) (.slice A l.length cp) l.length (l.map (Value.int .u8)) rfl h1.out ⟨g, 0, none⟩ 4 4 ((le4 n).map (Value.int .u8)) rfl rfl (World.news_of_block (show w1.heap[g]? = some (.cells _ 5 (0, 0)) from bg.out)) (Nz _) (by decide) (by have := hl.out; simp only [maxLen]; omega) (by have := hl.out; omega) (Nat.le_trans hB.out f1.out.size) _ rfl ?_
      intro g' k' w2 ho hgr hat hlt
      have HO := Aa.mk ho
      have HG := Aa.mk hgr
      clear ho hgr hat hlt))
 go_returns
 have ho' : Bq w2 B (.slice (some ⟨g', 0, none⟩) (l ++ le4 n).length k') (l ++ le4 n) := by
   have := HO.out
   rwa [← List.map_append, show l.length + 4 = (l ++ le4 n).length from by simp [Plain.le4_length]] at this
 refine ⟨_, rfl, ?_, ?_⟩
 · rw [show l.length + 4 = (l ++ le4 n).length from by simp [Plain.le4_length]]
   exact ho'
 · refine (f1.out.mono hB.out).trans (Fr.below (T := fun k => some k = (Value.slice A l.length cp).ownBlock) (Fr.grown (Fr.refl _ w1) HG.out (fun k hk => .inl hk.symm)) (fun k hk e => ?_) (Nat.le_trans hB.out f1.out.size))
   have := (h1.out.lt k e.symm).1
   omega
theorem or4 (a b c d : Nat) (ha : a < 256) (hb : b < 256) (hc : c < 256) (hd : d < 256) : Go.bits .or .u32 (Go.bits .or .u32 (Go.bits .or .u32 ((a : Int) % 4294967296) ((((b : Int) % 4294967296) * 256) % 4294967296)) ((((c : Int) % 4294967296) * 65536) % 4294967296)) ((((d : Int) % 4294967296) * 16777216) % 4294967296) = ((a + 256 * b + 65536 * c + 16777216 * d : Nat) : Int) := by
 rw [show ((a : Int) % 4294967296) = ((a : Nat) : Int) from by omega, show ((((b : Int) % 4294967296) * 256) % 4294967296) = ((2 ^ 8 * b : Nat) : Int) from by omega, show ((((c : Int) % 4294967296) * 65536) % 4294967296) = ((2 ^ 16 * c : Nat) : Int) from by omega, show ((((d : Int) % 4294967296) * 16777216) % 4294967296) = ((2 ^ 24 * d : Nat) : Int) from by omega]
 have e1 : a ||| 2 ^ 8 * b = 2 ^ 8 * b + a := by rw [Nat.or_comm]; exact (Nat.two_pow_add_eq_or_of_lt (by omega) b).symm
 rw [u32_or_nat _ _ (by omega) (by omega), e1]
 have e2 : (2 ^ 8 * b + a) ||| 2 ^ 16 * c = 2 ^ 16 * c + (2 ^ 8 * b + a) := by rw [Nat.or_comm]; exact (Nat.two_pow_add_eq_or_of_lt (by omega) c).symm
 rw [u32_or_nat _ _ (by omega) (by omega), e2]
 have e3 : (2 ^ 16 * c + (2 ^ 8 * b + a)) ||| 2 ^ 24 * d = 2 ^ 24 * d + (2 ^ 16 * c + (2 ^ 8 * b + a)) := by rw [Nat.or_comm]; exact (Nat.two_pow_add_eq_or_of_lt (by omega) d).symm
 rw [u32_or_nat _ _ (by omega) (by omega), e3]
 omega
theorem Ia {l : List Int} (hb : Bytes l) (i : Nat) (hi : i < l.length) : ∃ x : Nat, rd l (i : Int) = x ∧ x < 256 ∧ (l.getD i 0).toNat = x := by
 have := Pq hb (i : Int) (by omega) (by omega)
 refine ⟨(rd l (i : Int)).toNat, by omega, by omega, ?_⟩
 unfold rd
 rw [Int.toNat_natCast]
theorem Xl {l : List Int} (hb : Bytes l) (i : Nat) (hi : i + 3 < l.length) (hl : l.length ≤ 262144) : Pat.Bz.f l (i : Int) = some (at4 l i : Int) := by
 have w1 : wrap64 ((i : Int) + 1) = ((i + 1 : Nat) : Int) := by rw [IntWalk.wrap64_in _ ⟨by omega, by omega⟩]; omega
 have w2 : wrap64 ((i : Int) + 2) = ((i + 2 : Nat) : Int) := by rw [IntWalk.wrap64_in _ ⟨by omega, by omega⟩]; omega
 have w3 : wrap64 ((i : Int) + 3) = ((i + 3 : Nat) : Int) := by rw [IntWalk.wrap64_in _ ⟨by omega, by omega⟩]; omega
 obtain ⟨a, ea, ha, ga⟩ := Ia hb i (by omega)
 obtain ⟨b, eb, hb1, gb⟩ := Ia hb (i + 1) (by omega)
 obtain ⟨c, ec, hc, gc⟩ := Ia hb (i + 2) (by omega)
 obtain ⟨d, ed, hd, gd⟩ := Ia hb (i + 3) (by omega)
 unfold Pat.Bz.f
 rw [w1, w2, w3, if_pos (by omega), if_pos (by omega), if_pos (by omega), if_pos (by omega), if_pos (by omega), if_pos (by omega), if_pos (by omega), if_pos (by omega), ea, eb, ec, ed, or4 _ _ _ _ ha hb1 hc hd]
 unfold at4
 rw [ga, gb, gc, gd]
theorem Vu {w : World} {B : Nat} {A : Option Addr} {cp : Nat} {l : List Int} (h : Bq w B (.slice A l.length cp) l) : Kd.C (Kd.int .u8) w A l.length l := by
 rcases h.2 with ⟨e, h0⟩ | ⟨g, cap, cur, e, hb, hh, hc, hm, hs, ht⟩
 · injection e with e1 e2 e3
   subst e1
   have : l = [] := List.eq_nil_of_length_eq_zero h0
   subst this
   exact Kd.Xas _ _
 · injection e with e1 e2 e3
   subst e1 e3
   refine Kd.FI (enc := Value.int .u8) (d := (0 : Int)) (h1 := fun _ => rfl) ⟨rfl, by simp only [maxLen] at hm; omega, fun _ => ⟨_, rfl, fun j hj => ?_⟩⟩
   exact Bq.news h j _ (by rw [List.getElem?_map, List.getElem?_eq_getElem hj, List.getD_eq_getElem?_getD, List.getElem?_eq_getElem hj]; rfl)
theorem Pn {w : World} {B : Nat} {A : Option Addr} {cp : Nat} {l : List Int} (h : Bq w B (.slice A l.length cp) l) : l.length ≤ cp := by
 rcases h.2 with ⟨e, h0⟩ | ⟨g, cap, cur, e, hb, hh, hc, hm, hs, ht⟩
 · injection e with e1 e2 e3; omega
 · injection e with e1 e2 e3; omega
end Go.Proofs.YtchfmgbjddopoaaGreatDoor.Hand
