import Derived.Lib.BytesEntry
import Derived.Lib.Bytealg
import Derived.Shelf.SlSortCmp.NoneTotal
import Derived.Test.YtchfmgbjddopoaaGreatDoorProg
import Derived.Test.YtchfmgbjddopoaaGreatDoorM11
import Derived.Test.YtchfmgbjddopoaaGreatDoorM12
import Derived.Test.YtchfmgbjddopoaaGreatDoorM16
import Derived.Test.YtchfmgbjddopoaaGreatDoorM18
set_option linter.unusedVariables false
set_option linter.unusedSimpArgs false
set_option maxHeartbeats 6400000
set_option maxRecDepth 100000
namespace Go.Proofs.YtchfmgbjddopoaaGreatDoor.Hand
open Go.RowKit Go.Proofs.YtchfmgbjddopoaaGreatDoorW.PrintWords Go.Proofs.YtchfmgbjddopoaaGreatDoorW.PrintLast Go.Proofs.YtchfmgbjddopoaaGreatDoorW.PrintMore
attribute [local go_sem ↓] Go.wp_at_zero Go.wp_at_succ
open Plain (Ky Wr Rc Ver Ent St Bytes Chs chainOf Vt CW Uniq)
theorem QE {cs : Chs} {cb : CB} {x : Ky} {u : Value} (h : (x, u) ∈ BA cs cb) : u = .pointer (some ⟨(cb x).1, 0, none⟩) ∧ ∃ vs, (x, vs) ∈ cs := by
 unfold BA at h
 obtain ⟨p, hp, e⟩ := List.mem_map.1 h
 injection e with e1 e2
 subst e1
 exact ⟨e2.symm, p.2, hp⟩
theorem Fb (cs : Chs) (cb : CB) : (BA cs cb).map (·.1) = cs.map (·.1) := by
 unfold BA
 rw [List.map_map]
 rfl
theorem O4 {cs ds : Chs} {cb : CB} (hu : Uniq cs) (hs : ∀ q ∈ ds, q ∈ cs) (h : (BA ds cb).Perm (BA cs cb)) : ds.Perm cs := by
 have hk : (ds.map (·.1)).Perm (cs.map (·.1)) := by
   have := h.map (fun p : Ky × Value => p.1)
   rwa [Fb, Fb] at this
 have hud : Uniq ds := hk.nodup_iff.2 hu
 have n1 : cs.Nodup := (List.pairwise_map.1 hu).imp fun h e => h (congrArg _ e)
 have n2 : ds.Nodup := (List.pairwise_map.1 hud).imp fun h e => h (congrArg _ e)
 refine (List.perm_ext_iff_of_nodup n2 n1).2 fun x => ⟨hs x, fun hx => ?_⟩
 have h1 : x.1 ∈ ds.map (·.1) := hk.mem_iff.2 (List.mem_map.2 ⟨x, hx, rfl⟩)
 obtain ⟨y, hy, e⟩ := List.mem_map.1 h1
 have a := Plain.Es hu (hs y hy)
 have b := Plain.Es hu (k := x.1) (v := x.2) hx
 rw [e, b] at a
 have : y = x := Prod.ext e (Option.some.inj a).symm
 rw [← this]
 exact hy
theorem I4 : (Tryz.prog.info? 116).map (·.size) = some 4 := by kernel_rfl
theorem Cf {a b c : World} (f : Below b.heap.size b c) (g : Below a.heap.size a b) : Below a.heap.size a c := g.trans (f.mono g.size)
theorem O3 (ds : Chs) (cb : CB) (x : Ky) (vs : List Ver) : BA (ds ++ [(x, vs)]) cb = BA ds cb ++ [(x, .pointer (some ⟨(cb x).1, 0, none⟩))] := by simp [BA]
abbrev V4 (t n : Int) (v : ByteArray) (g : Bool) : Array Value := #[.int .i64 t, .int .u8 n, .string v, .bool g]
theorem Si (F : Nat → Prop) (w : World) (sp mc : Nat) (cs : Chs) (cb : CB) (h : AA F w sp mc cs cb) (hu : Uniq cs) (hok : ∀ p ∈ cs, Vt p.2) :
   Calls Tryz.prog 57 #[.pointer (some ⟨sp, 0, none⟩)] w fun e w' => ∃ sp' mc' cs' cb', e = .returned (.pointer (some ⟨sp', 0, none⟩)) ∧ AA (fun k => w.heap.size ≤ k ∧ k < w'.heap.size) w' sp' mc' cs' cb' ∧ cs'.Perm cs ∧ Below w.heap.size w w' := by
 replace h := Aa.mk h
 replace hu := Aa.mk hu
 replace hok := Aa.mk hok
 go_enter Tryz.func57, Tryz.ntmps57
 go_wp2_with (first
   | (go_at_call 41
      refine (Jd _).mono ?_
      rintro e w1 ⟨sp', mc', rfl, hsp, hmc, b1, m1, f1⟩
      have S1 := Aa.mk (h.out.below f1)
      have c0 : w1.cell? ⟨sp, 0, none⟩ = some (.map (some mc)) := Bk.cell S1.out.s rfl
      obtain ⟨w2, hrg, it2, f2, g2⟩ := S1.out.m.range Tryz.underlying156
      have l1 := Aa.mk (Ob.lt b1)
      have l2 := Aa.mk (Ob.lt m1)
      replace b1 := Aa.mk (Ob.Ad b1 f2)
      replace m1 := Aa.mk (Ob.Ad m1 f2)
      have F2 : Aa (Below w.heap.size w w2) := ⟨f1.trans (f2.mono f1.size)⟩
      have hs1 := Aa.mk f1.size
      replace hsp := Aa.mk hsp
      replace hmc := Aa.mk hmc
      replace it2 := Aa.mk it2
      clear f1 f2 g2))
 generalize w1.heap.size = it at *
 have T2 : Aa (AA (fun k => w.heap.size ≤ k ∧ k < w2.heap.size ∧ k ≠ it) w2 sp' mc' [] (fun _ => (0, .nilIface))) := ⟨⟨b1.out, DD.new m1.out, by simp, by simp, ⟨hsp.out, Ob.lt b1.out, by have := l1.out; omega⟩, ⟨hmc.out, Ob.lt m1.out, by have := l2.out; omega⟩, by simp, by simp⟩⟩
 clear c0 hrg S1
 go_loopw [4] (fun _ wr => ∃ (done : Chs) (cb' : CB), Aa (ItA wr mc it Dq (BA cs cb) (BA done cb)) ∧ Aa (∀ q ∈ done, q ∈ cs) ∧ Aa (AA (fun k => w.heap.size ≤ k ∧ k < wr.heap.size ∧ k ≠ it) wr sp' mc' done cb') ∧ Aa (Below w.heap.size w wr)) (fun _ wr => cs.length - NF wr it)
 case atStart => exact ⟨[], _, it2, ⟨by simp⟩, T2, F2⟩
 case round =>
   obtain ⟨done, cb', hit, hsub, hst, hB⟩ := hrel
   clear T2 it2
   rcases hit.out.next Gl with ⟨hnx, hperm⟩ | ⟨⟨x, u⟩, W2, hnx, hp, hit2, f2, g2, hfew, hen⟩
   · go_wp2_with fail
     go_returns
     exact ⟨sp', mc', done, cb', rfl, hst.out.mono (fun k hk => ⟨hk.1, hk.2.1⟩), O4 hu.out hsub.out hperm, hB.out⟩
   obtain ⟨rfl, vs, hvs⟩ := QE hp
   have hseen := Aa.mk hit.out.seen
   have hnew : Plain.look x done = none := by
     have hq := hit2.uniq
     refine Plain.BF.2 fun q hq' e => ?_
     unfold Uniq at hq
     rw [List.map_append] at hq
     have := (List.nodup_append.1 hq).2.2 x (by
       rw [← e]
       exact List.mem_map.2 ⟨_, List.mem_map.2 ⟨q, hq', rfl⟩, rfl⟩) x (by simp)
     exact this rfl
   have hchok := hok.out _ hvs
   obtain ⟨KC, hKC⟩ : ∃ KC, KC = (AZ x).toArray := ⟨_, rfl⟩
   have hKs : KC.size = 16 := by rw [hKC]; simpa using Ai x
   have hK1 : KC.all (·.oneCell') = true := by rw [hKC, Array.all_eq_true_iff_forall_mem]; intro v hv; exact Di x v (by simpa using hv)
   simp only [Eu, ← hKC] at hnx hen
   have hitw : Aa (w.heap.size ≤ it) := ⟨by have := hs1.out; omega⟩
   have F3 : Aa (Below w.heap.size w W2) := ⟨hB.out.trans (f2.below (fun k hk e => by have := hitw.out; omega) hB.out.size)⟩
   have S3 := Aa.mk (h.out.below F3.out)
   have T3 : Aa (AA (fun k => w.heap.size ≤ k ∧ k < W2.heap.size ∧ k ≠ it) W2 sp' mc' done cb') := ⟨(hst.out.fr f2 (fun k hk hF => hF.2.2 hk)).mono fun k hk => ⟨hk.1, Nat.lt_of_lt_of_le hk.2.1 f2.size, hk.2.2⟩⟩
   have hitl := Aa.mk hit2.lt
   obtain ⟨L, hL⟩ : ∃ L, L = vs.length := ⟨_, rfl⟩
   have hL50 : L ≤ 50 := by rw [hL]; exact hchok.few
   have hvs0 : vs ≠ [] := h.out.ne _ hvs
   have huq : Uniq done := by
     have hq := hit.out.uniq
     unfold Uniq at hq ⊢
     rwa [Fb] at hq
   replace hL := Aa.mk hL
   replace hKC := Aa.mk hKC
   replace hKs := Aa.mk hKs
   replace hK1 := Aa.mk hK1
   replace hvs := Aa.mk hvs
   replace hvs0 := Aa.mk hvs0
   replace huq := Aa.mk huq
   replace hnew := Aa.mk hnew
   replace hchok := Aa.mk hchok
   replace hfew := Aa.mk hfew
   replace hit2 := Aa.mk hit2
   clear hst hit hB f2 g2 hp
   go_wp2_with (first
     | ((with_reducible refine Ac (N := 4) rfl ?_); refine Aj (N := 4) (C := Z16) rfl rfl (by first | (go_simp; done) | (go_simp; rfl)) ?_; intro g4 w3 h4 b4 f3; clear hnx hen)
     | ((with_reducible refine Af (t := 103) (p := 4) (v := .tmp 18) rfl ?_); (refine Ak rfl (ty := 103) (x := .tmp 4) (y := .tmp 18) (cells := KC) rfl rfl rfl b4.out (by rw [hKs.out]; exact AB) hK1.out (by rw [hKs.out]; exact Nat.le_refl 16) KC (Aq (C := Z16) hKs.out) ?_); intro w4 b44 f4
        have G4 : Aa (Below W2.heap.size W2 w4) := ⟨((Fr.of_below (T := fun k => k = g4) f3.out).trans f4.out).below (fun k hk q => by have := h4.out; omega) (Nat.le_refl _)⟩)
     | (go_at_call 94
        refine (Jr _).mono ?_
        rintro e w5 ⟨c6, rfl, hc6, b6, f5⟩
        have G5 : Aa (Below W2.heap.size W2 w5) := ⟨Cf f5 G4.out⟩
        have b45 := Aa.mk (Ob.Ad b44.out f5)
        have hc6' : Aa (W2.heap.size ≤ c6 ∧ w4.heap.size ≤ c6) := ⟨Nat.le_trans G4.out.size hc6, hc6⟩
        replace b6 := Aa.mk b6
        clear f5 hc6)
     | (go_at_call 93
        refine (Js w5 (cb x).1 (cb x).2 vs ((S3.out.below G5.out).c _ hvs.out) (by rw [← hL.out]; omega)).mono ?_
        rintro e w6 ⟨v6, rfl, o6, f6⟩
        obtain ⟨A6, cp6, rfl⟩ : ∃ A c, v6 = .slice A L c := by
          obtain ⟨A, c, e⟩ := (RowK.own BZ o6 rfl : WM w6 v6 vs).slice
          exact ⟨A, c, by rw [hL.out]; exact e⟩
        have V6 : Aa (WM w6 (.slice A6 L cp6) vs) := ⟨RowK.own BZ o6 rfl⟩
        have b66 := Aa.mk (Ob.Ad b6.out f6)
        have n6 := Aa.mk (AC o6 b66.out (by decide))
        have b46 := Aa.mk (Ob.Ad b45.out f6)
        have G6 : Aa (Below W2.heap.size W2 w6) := ⟨Cf f6 G5.out⟩
        clear o6 f6))
   go_loopw [24] (fun j wq => ∃ i : Nat, i ≤ L ∧ j = .int .i64 i ∧ Aa (∃ vj, Lc wq c6 vj (vs.take i) ∧ ∀ k, vj.ownBlock = some k → w6.heap.size ≤ k) ∧ Aa (Fr (fun k => k = c6) w6 wq)) (fun j _ => L - (intOf j).toNat)
   case atStart => exact ⟨0, Nat.zero_le _, rfl, ⟨.slice none 0 0, ⟨b66.out, World.ownsRow_nil _ _ _ _⟩, fun k hk => by cases hk⟩, ⟨Fr.refl _ _⟩⟩
   case round =>
     obtain ⟨i, hi, rfl, hch, hFq⟩ := hrel
     have BQ : Aa (Below W2.heap.size W2 wr) := ⟨(Fr.trans (T := fun k => k = c6) (Fr.of_below G6.out) hFq.out).below (fun k hk e => by have := hc6'.out; omega) (Nat.le_refl _)⟩
     by_cases hlt : i < L
     case pos =>
       have VQ := V6.out.fr hFq.out (fun q hq => hq ▸ n6.out)
       obtain ⟨b, o, hA, hLn, hc, hbs, hr⟩ := VQ.at_ (by rw [← hL.out]; omega)
       have hiL : i < vs.length := by rw [← hL.out]; exact hlt
       replace hr := hr i hiL
       have hver := hchok.out.each _ (List.getElem_mem hiL)
       have hup := hchok.out.up
       have hbel : ∀ z ∈ vs.take i, Plain.ltS z.t z.n (vs[i]'hiL).t (vs[i]'hiL).n := fun z hz => by
         obtain ⟨j, hj, rfl⟩ := List.getElem_of_mem hz
         have hji : j < i := by rw [List.length_take] at hj; omega
         rw [List.getElem_take]
         exact List.pairwise_iff_getElem.1 hup j i (by omega) hiL hji
       have htk : vs.take (i + 1) = vs.take i ++ [vs[i]'hiL] := List.take_succ_eq_append_getElem hiL
       rw [getElem!_pos vs i hiL] at hr
       generalize vs[i]'hiL = y at hr hver hbel htk
       obtain ⟨t, n, val, gone⟩ := y
       subst hA
       replace hr := Aa.mk hr
       replace hver := Aa.mk hver
       replace hbel := Aa.mk hbel
       replace htk := Aa.mk htk
       have d1 : decide ((i : Int) < (L : Int)) = true := by simp; omega
       have d2 : decide (i < L) = true := by simp; omega
       clear VQ hup hiL hbs hLn
       go_wp2_with (first
         | ((with_reducible refine Ac (N := 27) rfl ?_); (refine BM (N := 27) (cs := Hand.En ⟨t, n, val, gone⟩) rfl rfl rfl rfl Tryz.underlying116 rfl (by exact I4) hr.out ?_))
         | ((with_reducible refine Ac (N := 8) rfl ?_); refine Aj (N := 8) (C := V0) rfl rfl (by first | (go_simp; done) | (go_simp; rfl)) ?_; intro g8 w7 h8 b8 f7)
         | ((with_reducible refine Af (t := 116) (p := 8) (v := .tmp 27) rfl ?_); (refine Ak rfl (ty := 116) (x := .tmp 8) (y := .tmp 27) (cells := V4 t n val gone) rfl rfl rfl b8.out I4 (by kernel_rfl) (Nat.le_refl 4) (V4 t n val gone) (Aq (C := V0) rfl) ?_); intro w8 b88 f8
            have G8 : Aa (Below wr.heap.size wr w8) := ⟨((Fr.of_below (T := fun k => k = g8) f7.out).trans f8.out).below (fun k hk q => by have := h8.out; omega) (Nat.le_refl _)⟩)
         | ((with_reducible refine Ac (N := 29) rfl ?_); (refine Au (N := 29) rfl rfl rfl rfl b88.out Tryz.underlying116 rfl I4 (V4 t n val gone).toList (AU rfl) rfl ?_))
         | (go_at_call 95
            obtain ⟨vj, hcj, hoj⟩ := hch.out
            refine (EE w8 c6 vj (vs.take i) ⟨t, n, val, gone⟩ (hcj.below G8.out) hver.out (by rw [List.length_take]; omega) hbel.out).mono ?_
            rintro e w9 ⟨rfl, v9, hc9, f9, no9⟩
            have hoj' := Aa.mk hoj
            replace hc9 := Aa.mk hc9
            replace f9 := Aa.mk f9
            replace no9 := Aa.mk no9
            clear hcj hoj))
       go_roundw
       case rel =>
         refine ⟨i + 1, by omega, by rw [Int.natCast_add]; rfl, ⟨v9, by rw [htk.out]; exact hc9.out, fun k hk => ?_⟩, ⟨(hFq.out.trans (Fr.of_below G8.out)).after f9.out fun k hk => hk.elim .inl fun e => .inr (hoj'.out k e)⟩⟩
         rcases no9.out k hk with e | e
         · exact hoj'.out k e
         · have := hFq.out.size; have := G8.out.size; omega
       case measure =>
         simp only [intOf]
         omega
     case neg =>
       have hiL : vs.take i = vs := List.take_of_length_le (by rw [← hL.out]; omega)
       obtain ⟨vj, hcj, hoj⟩ := hch.out
       rw [hiL] at hcj
       have d1 : decide ((i : Int) < (L : Int)) = false := by simp; omega
       have d2 : decide (i < L) = false := by simp; omega
       have TQ := T3.out.below BQ.out
       have b4q := Ob.fr b46.out hFq.out (Dh b46.out b66.out (by decide))
       obtain ⟨o2, hup, HU2⟩ := (TQ.m.below (Ag (Below.refl _ _))).update EK Tryz.underlying156 x (.pointer (some ⟨c6, 0, none⟩))
       simp only [Eu, ← hKC.out] at hup
       have hm4 : g4 ≠ mc' := TQ.m.ne b4q
       have hS2 : ∀ W, Fr (fun k => k = mc') wr W → (W.cell? ⟨sp', 0, none⟩ = some (.map (some mc')) ∧ W.rangeAt g4 0 KC.toList) := fun W f => ⟨Bk.cell (Ob.fr TQ.s f (TQ.m.ne TQ.s)) rfl, Bk.range (Ob.fr b4q f hm4) 0 16 (AU hKs.out)⟩
       replace hS2 := Aa.mk hS2
       replace TQ := Aa.mk TQ
       replace hcj := Aa.mk hcj
       replace hoj := Aa.mk hoj
       replace HU2 := Aa.mk HU2
       have u79 := Tryz.underlying103
       have i79 : (Tryz.prog.info? 103).map (·.size) = some KC.toList.length := by rw [Array.length_toList, hKs.out]; exact AB
       clear hi hlt hiL hch hm4 b4q
       go_upto_region 11 with fail
       refine wp_region_noPanic ?_
       go_region_held_law (fun w' => (w'.cell? ⟨sp', 0, none⟩ = some (.map (some mc')) ∧ w'.rangeAt g4 0 KC.toList))
         (exact hS2.out _ (by repeat (first | exact Fr.refl _ _ | refine Fr.drew ?_ | refine Fr.put ?_ _ _ (.inl rfl))))
         (fail)
       refine NoPanic.normal ?_
       go_split_ands
       clear hup u79 i79
       have P9 : Fr (fun k => k = mc') wr (Cc wr.drew mc' o2) := Fr.put ((Fr.refl _ wr).drew) mc' o2 (.inl rfl)
       have hs3 : W2.heap.size ≤ wr.heap.size := BQ.out.size
       have hs9 : wr.heap.size ≤ (Cc wr.drew mc' o2).heap.size := P9.size
       have hw2 : w.heap.size ≤ W2.heap.size := F3.out.size
       have T9 : AA (fun k => w.heap.size ≤ k ∧ k < (Cc wr.drew mc' o2).heap.size ∧ k ≠ it) (Cc wr.drew mc' o2) sp' mc' (CW x vs done) (fun j => if j = x then (c6, vj) else cb' j) := by
         have hc6q : c6 < wr.heap.size := Ob.lt hcj.out.c
         refine AA.put (T := fun _ => False) (w1 := wr.drew) TQ.out (fun k hk => ⟨hk.1, by omega, hk.2.2⟩) ((Fr.refl _ wr).drew) hvs0.out (hcj.out.below (Ag (Below.refl _ _))) id id HU2.out (fun q hq hne => ⟨id, fun j hj => hj.elim, ?_, fun j hj e => ?_⟩) ⟨by have := hc6'.out; omega, by omega, by have := hc6'.out; have := hitl.out; omega⟩ (fun j hj => ?_) huq.out
         · have := (T3.out.fc q hq).1.2.1
           have := hc6'.out
           omega
         · have h1 := (T3.out.fc q hq).2 j hj
           have h2 := hoj.out j e
           have := G6.out.size
           omega
         · have h1 := hcj.out.v.lt j hj
           have h2 := hoj.out j hj
           have := G6.out.size
           have := hitl.out
           exact ⟨by omega, by omega, by omega⟩
       rw [Plain.EW vs hnew.out] at T9
       have itN : ItA (Cc wr.drew mc' o2) mc it Dq (BA cs cb) (BA (done ++ [(x, vs)]) cb) := by
         rw [O3]
         have hmm : mc ≠ mc' := fun e => by
           have h1 := hitl.out
           have h2 := h.out.m.lt
           have h3 := T3.out.fm
           omega
         exact (hit2.out.below (BQ.out.trans ((Ag (Below.refl _ _)).mono hs3))).fr (Fr.put (T1 := fun k => k = mc') (Fr.refl _ wr.drew) mc' o2 (.inl rfl)) hmm (fun e => (T3.out.fm.2.2 e.symm))
       have BN : Below w.heap.size w (Cc wr.drew mc' o2) := (F3.out.trans (BQ.out.mono hw2)).trans (P9.below (fun k hk e => by have := T3.out.fm; omega) (Nat.le_trans hw2 hs3))
       replace T9 := Aa.mk T9
       replace itN := Aa.mk itN
       replace BN := Aa.mk BN
       clear P9 hs9 hs3
       generalize Cc wr.drew mc' o2 = wN at *
       go_wp2_with fail
       go_roundw
       case rel =>
         refine ⟨done ++ [(x, vs)], _, itN, ⟨fun q hq => ?_⟩, T9, BN⟩
         rcases List.mem_append.1 hq with hq | hq
         · exact hsub.out q hq
         · rw [List.mem_singleton] at hq; subst hq; exact hvs.out
       case measure =>
         have a := itN.out.seen
         have b := hseen.out
         have c := hfew.out
         rw [a, b]
         simp only [BA, List.length_map, List.length_append, List.length_cons, List.length_nil] at c ⊢
         omega
end Go.Proofs.YtchfmgbjddopoaaGreatDoor.Hand
namespace Go.Proofs.YtchfmgbjddopoaaGreatDoor.Hand
open Go.RowKit
open Plain (Ky Wr Rc Ver Ent St Bytes ltL cmpK)
def u8 (x : Int) : UInt8 := x.toNat.toUInt8
theorem YK {a b : Int} (ha : 0 ≤ a ∧ a < 256) (hb : 0 ≤ b ∧ b < 256) : (u8 a < u8 b) ↔ a < b := by
 unfold u8
 rw [UInt8.lt_iff_toNat_lt]
 simp only [Nat.toUInt8, UInt8.toNat_ofNat']
 omega
theorem Il : ∀ (a b : List Int), Bytes a → Bytes b → Lib.compareBytes (a.map u8) (b.map u8) = if ltL a b then -1 else if ltL b a then 1 else 0
 | [], [], _, _ => rfl
 | [], _ :: _, _, _ => rfl
 | _ :: _, [], _, _ => rfl
 | x :: a, y :: b, ha, hb => by
   have hx : 0 ≤ x ∧ x < 256 := ha x (by simp)
   have hy : 0 ≤ y ∧ y < 256 := hb y (by simp)
   have ih := Il a b (fun z hz => ha z (by simp [hz])) (fun z hz => hb z (by simp [hz]))
   simp only [List.map_cons, Lib.compareBytes, ltL, YK hx hy, YK hy hx, ih]
   by_cases h1 : x < y
   · simp [h1]
   · by_cases h2 : y < x
     · simp [h1, h2]
     · simp [h1, h2]
theorem OY (a b : Ky) : Lib.compareBytes (a.l.map u8) (b.l.map u8) = cmpK a b := by
 rw [Il a.l b.l a.ok.2 b.ok.2]
 rfl
theorem Iz (P : Program) (W : World) (b1 o1 c1 b2 o2 c2 : Nat) (x y : Ky) (h1 : ∀ j v, x.l[j]? = some v → W.cell? ((⟨b1, o1, none⟩ : Addr).add j) = some (.int .u8 v)) (h2 : ∀ j v, y.l[j]? = some v → W.cell? ((⟨b2, o2, none⟩ : Addr).add j) = some (.int .u8 v)) :
   (Extern.BytealgCompare.compare #[.slice (some ⟨b1, o1, none⟩) 16 c1, .slice (some ⟨b2, o2, none⟩) 16 c2]).run P W = .ok (.int .i64 (cmpK x y)) W := by
 have l1 := Lib.run_loadBytesX (P := P) W x.l ⟨b1, o1, none⟩ .empty h1
 have l2 := Lib.run_loadBytesX (P := P) W y.l ⟨b2, o2, none⟩ .empty h2
 rw [x.ok.1] at l1
 rw [y.ok.1] at l2
 change Sem.run P (do pure (goInt (Extern.BytealgCompare.cmp (← Extern.Bytes.bytesOf (.slice (some ⟨b1, o1, none⟩) 16 c1)) (← Extern.Bytes.bytesOf (.slice (some ⟨b2, o2, none⟩) 16 c2))))) W = _
 simp only [Extern.Bytes.bytesOf, Sem.run_bind, Sem.run_pure, l1, l2, Result.andThen]
 rw [Lib.cmp_eq]
 have e : ∀ l : List Int, ((ByteArray.empty.data ++ (Lib.bytesOf l).toArray : Array UInt8)).toList = l.map u8 := fun l => by
   rw [Array.toList_append]
   simp [Lib.bytesOf, u8]
 rw [e, e, OY]
 rfl
end Go.Proofs.YtchfmgbjddopoaaGreatDoor.Hand
namespace Go.Proofs.YtchfmgbjddopoaaGreatDoor.Hand
open Go.RowKit Go.Sort
open Plain (Ky Wr Rc Ver Ent St Bytes sortK ltK cmpK PG)
section
variable {α : Type} [Inhabited α]
theorem KT (enc : α → List Value) (k : Nat) (hk : ∀ x, (enc x).length = k) (l : List α) : (flatK enc k l.toArray).toList = l.flatMap enc := by
 apply List.ext_getElem?
 intro t
 have hs : (flatK enc k l.toArray).size = l.length * k := by simp
 by_cases ht : t < l.length * k
 · have h1 : t < (l.flatMap enc).length := by rw [Dx enc k hk]; exact ht
   obtain ⟨u, hu⟩ : ∃ u, (l.flatMap enc)[t]? = some u := ⟨_, List.getElem?_eq_getElem h1⟩
   rw [hu]
   obtain ⟨i, r, hi, e, hr⟩ := PE enc k hk l t u hu
   have hrk : r < k := by
     have := (List.getElem?_eq_some_iff.1 hr).1
     rwa [hk] at this
   have hk0 : 0 < k := by omega
   have e1 : t / k = i := by
     rw [e, Nat.add_comm, Nat.add_mul_div_right _ _ hk0, Nat.div_eq_of_lt hrk, Nat.zero_add]
   have e2 : t % k = r := by rw [e, Nat.add_comm, Nat.add_mul_mod_self_right, Nat.mod_eq_of_lt hrk]
   have g := get_flatK enc k l.toArray t (by simpa using ht)
   rw [e1, e2] at g
   have hti : t < (flatK enc k l.toArray).size := by rw [hs]; exact ht
   rw [Array.getElem?_toList, Array.getElem?_eq_getElem hti]
   rw [getElem!_pos _ t hti] at g
   rw [g]
   have hi' : l.toArray[i]! = l[i]! := by simp
   rw [hi', getElem!_pos _ r (List.getElem?_eq_some_iff.1 hr).1]
   exact congrArg some (List.getElem?_eq_some_iff.1 hr).2
 · rw [List.getElem?_eq_none (by rw [Array.length_toList, hs]; omega), List.getElem?_eq_none (by rw [Dx enc k hk]; omega)]
end
section
variable {w : World} {base g cap n : Nat} {os : Array Obj} {ks ts : List Ky}
theorem Tu (h : w.ownsRow base 103 16 (.slice (some ⟨g, 0, none⟩) ks.length cap) ks.length (ks.flatMap AZ)) (hn : 0 < ks.length) : HoldsK AZ 16 w g 0 ks.toArray := by
 rcases h.2 with ⟨_, h0⟩ | ⟨g', cap', cur, e, _, hh, hc, hm, hs, ht⟩
 · omega
 obtain ⟨rfl, rfl⟩ : g' = g ∧ cap' = cap := by simpa [eq_comm] using e
 intro j hj
 have hj' : j < ks.length * 16 := by simpa using hj
 refine ⟨?_, by simp [World.frozen?, hh]⟩
 have hl := KT AZ 16 Ai ks
 have e1 : cur[j]? = some ((flatK AZ 16 ks.toArray)[j]!) := by
   rw [getElem!_pos _ j hj]
   have a : (cur.toList.take (ks.length * 16))[j]? = (ks.flatMap AZ)[j]? := by rw [ht]
   rw [List.getElem?_take_of_lt hj', ← hl, Array.getElem?_toList, Array.getElem?_toList, Array.getElem?_eq_getElem hj] at a
   exact a
 simp only [World.cell?, hh, Nat.zero_add, Option.isSome_none, Bool.false_eq_true, if_false]
 simpa using e1
theorem OI {cur : Array Value} {e : TypeId} {fr : Nat × Nat} (d : Array Ky) (hb : w.heap[g]? = some (.cells cur e fr)) :
   (sortWorldK AZ 16 w g 0 n d os).heap[g]? = some (.cells (putCells id 0 (flatK AZ 16 d) cur) e fr) := by
 have hg : g < w.heap.size := (Array.getElem?_eq_some_iff.1 hb).1
 unfold sortWorldK putRowK
 rw [heap_grow_old _ _ (by simpa [putRow, mapBlock, Sort.ahead] using hg)]
 simp [putRow, mapBlock, Sort.ahead, Array.getElem?_modify, hb, onCells]
theorem TB (d : Array Ky) : Fr (fun k => k = g) w (sortWorldK AZ 16 w g 0 n d os) := by
 unfold sortWorldK putRowK
 refine ⟨rfl, rfl, rfl, by simp [putRow, mapBlock, Sort.ahead], fun k hk hne => ?_⟩
 rw [heap_grow_old _ _ (by simpa [putRow, mapBlock, Sort.ahead] using hk)]
 have : g ≠ k := fun e => hne e.symm
 simp [putRow, mapBlock, Sort.ahead, Array.getElem?_modify, this]
theorem PY (hl : ts.length = ks.length) (h : w.ownsRow base 103 16 (.slice (some ⟨g, 0, none⟩) ks.length cap) ks.length (ks.flatMap AZ)) (hn : 0 < ks.length) :
   (sortWorldK AZ 16 w g 0 n ts.toArray os).ownsRow base 103 16 (.slice (some ⟨g, 0, none⟩) ks.length cap) ks.length (ts.flatMap AZ) := by
 rcases h.2 with ⟨_, h0⟩ | ⟨g', cap', cur, e, hb, hh, hc, hm, hs, ht⟩
 · omega
 obtain ⟨rfl, rfl⟩ : g' = g ∧ cap' = cap := by simpa [eq_comm] using e
 have hf := KT AZ 16 Ai ts
 have hfs : (flatK AZ 16 ts.toArray).size = ks.length * 16 := by simp [hl]
 refine ⟨by rw [Dx AZ 16 Ai, hl], .inr ⟨g', cap', _, rfl, hb, OI _ hh, hc, hm, by simp [putCells, hs], ?_⟩⟩
 apply List.ext_getElem?
 intro j
 by_cases hj : j < ks.length * 16
 · have hjc : j < cur.size := by rw [hs]; omega
   rw [List.getElem?_take_of_lt hj, Array.getElem?_toList, ← hf, Array.getElem?_toList]
   have hjf : j < (flatK AZ 16 ts.toArray).size := by rw [hfs]; exact hj
   rw [Array.getElem?_eq_getElem hjf]
   unfold putCells
   rw [Array.getElem?_mapIdx, Array.getElem?_eq_getElem hjc]
   simp only [Option.map_some, Nat.zero_le, Nat.zero_add, hjf, and_self, if_true, id, Nat.sub_zero]
   rw [getElem!_pos _ j hjf]
 · rw [List.getElem?_take_eq_none (by omega), List.getElem?_eq_none (by rw [Dx AZ 16 Ai, hl]; omega)]
end
theorem DN (x y : Ky) : ltOf cmpK x y = ltK x y := PG x y
theorem VG : SWO (ltOf cmpK) := ⟨fun x => by rw [DN]; exact Plain.Hm _, fun x y z => by rw [DN, DN, DN]; exact Plain.Gt _ _ _, fun x y z => by rw [DN, DN, DN]; exact Plain.KH x y z⟩
theorem VC (x y : Ky) (h1 : ltOf cmpK x y = false) (h2 : ltOf cmpK y x = false) : x = y := by
 rw [DN] at h1 h2
 exact Plain.Jg h1 h2
end Go.Proofs.YtchfmgbjddopoaaGreatDoor.Hand
namespace Go.Proofs.YtchfmgbjddopoaaGreatDoor.Hand
open Go.RowKit Go.Sort Go.Proofs.YtchfmgbjddopoaaGreatDoorW.PrintWords Go.Proofs.YtchfmgbjddopoaaGreatDoorW.PrintLast Go.Proofs.YtchfmgbjddopoaaGreatDoorW.PrintMore
def Gr (w w' : World) : Prop := ∃ (q : Nat) (os : Array Obj), w' = grow (w.drewN q) os
section
variable {w w1 w2 : World}
theorem Gr.refl (w : World) : Gr w w := ⟨0, #[], by rw [grow_empty]; rfl⟩
theorem Gr.alloc (h : Gr w w1) (o : Obj) : Gr w (w1.alloc o) := by
 obtain ⟨q, os, rfl⟩ := h
 exact ⟨q, os ++ #[o], by rw [alloc_eq_grow, grow_grow]⟩
theorem Gr.drewN (h : Gr w w1) (n : Nat) : Gr w (w1.drewN n) := by
 obtain ⟨q, os, rfl⟩ := h
 exact ⟨q + n, os, by
   show grow ((w.drewN q).drewN n) os = _
   rw [World.drewN_drewN]⟩
theorem Gr.drew (h : Gr w w1) : Gr w w1.drew := h.drewN 1
theorem Gr.below (h : Gr w w1) : Below w.heap.size w w1 := by
 obtain ⟨q, os, rfl⟩ := h
 exact ⟨rfl, rfl, rfl, by rw [size_grow]; exact Nat.le_add_right _ _, fun k hk => heap_grow_old _ _ hk⟩
end
section
variable {P : Program} {ops : Array Oper} {rest : List Oper} {op : Oper} {a : Act} {W w0 : World} {Q : Exit → Act → World → Prop}
theorem UD {N : Tmp} (_hN : op.dst = some N) (hgd : op.guard = none) {C : Array Value} {t : Nat}
   (hrun : (execOp a.eval op).run P W = .ok (.value (.pointer (some ⟨W.heap.size, 0, none⟩))) (W.alloc (.cells C t))) (hG : Gr w0 W)
   (h : ∀ g w1, Aa (W.heap.size ≤ g) → Aa (Bk w1 g C t) → Aa (Below W.heap.size W w1) → Aa (Gr w0 w1) → wpList P ops Q rest (a.put op.dst (.pointer (some ⟨g, 0, none⟩))) w1) : wpList P ops Q (op :: rest) a W :=
 Kd.Ee hgd hrun (h _ _ ⟨Nat.le_refl _⟩ ⟨Ob.new W _⟩ ⟨Ah (Below.refl _ _) _⟩ ⟨hG.alloc _⟩)
end
end Go.Proofs.YtchfmgbjddopoaaGreatDoor.Hand
namespace Go.Proofs.YtchfmgbjddopoaaGreatDoor.Hand
open Go.RowKit Go.Sort Go.Proofs.YtchfmgbjddopoaaGreatDoorW.PrintWords Go.Proofs.YtchfmgbjddopoaaGreatDoorW.PrintLast Go.Proofs.YtchfmgbjddopoaaGreatDoorW.PrintMore
attribute [local go_sem ↓] Go.wp_at_zero Go.wp_at_succ
open Plain (Ky Wr Rc Ver Ent St Bytes cmpK)
theorem NW {W : World} {b : Nat} {x : Ky} {t : Nat} (h : Bk W b (AZ x).toArray t) : ∀ j v, x.l[j]? = some v → W.cell? ((⟨b, 0, none⟩ : Addr).add j) = some (.int .u8 v) := fun j v hj => by
 rw [Addr.add_mid, Nat.zero_add]
 refine Bk.cell h ?_
 unfold AZ
 rw [List.getElem?_toArray, List.getElem?_map, hj]
 rfl
theorem Np (W : World) (b1 b2 : Nat) (x y : Ky) (h1 : Bk W b1 (AZ x).toArray 103) (h2 : Bk W b2 (AZ y).toArray 103) :
   Calls Tryz.prog 132 #[.slice (some ⟨b1, 0, none⟩) 16 16, .slice (some ⟨b2, 0, none⟩) 16 16] W fun e w' => e = .returned (.int .i64 (cmpK x y)) ∧ w' = W := by
 have hrun := Iz Tryz.prog W b1 0 16 b2 0 16 x y (NW h1) (NW h2)
 clear h1 h2
 go_enter Tryz.func132, Tryz.ntmps132
 go_wp2
 rw [run_callFunc_extern Tryz.func183 (by kernel_rfl) (by kernel_rfl) (by kernel_rfl) (e := Extern.BytealgCompare.compare) (by kernel_rfl), hrun]
 simp only [Result.andThen]
 rw [Oper.upon_value]
 clear hrun
 go_wp2
 go_returns
 exact ⟨rfl, rfl⟩
theorem X8 (w : World) (x y : Ky) : Calls Tryz.prog 91 #[.agg (AZ x).toArray, .agg (AZ y).toArray] w fun e w' => e = .returned (.int .i64 (cmpK x y)) ∧ Gr w w' := by
 obtain ⟨KX, hKX⟩ : ∃ KX, KX = (AZ x).toArray := ⟨_, rfl⟩
 obtain ⟨KY, hKY⟩ : ∃ KY, KY = (AZ y).toArray := ⟨_, rfl⟩
 have hC : Aa (∀ W b1 b2, Bk W b1 KX 103 → Bk W b2 KY 103 → Calls Tryz.prog 132 #[.slice (some ⟨b1, 0, none⟩) 16 16, .slice (some ⟨b2, 0, none⟩) 16 16] W fun e w' => e = .returned (.int .i64 (cmpK x y)) ∧ w' = W) := ⟨fun W b1 b2 h1 h2 => Np W b1 b2 x y (hKX ▸ h1) (hKY ▸ h2)⟩
 rw [← hKX, ← hKY]
 clear hKX hKY
 have u103 := Tryz.underlying103
 go_enter Tryz.func91, Tryz.ntmps91
 go_wp2_with (first
   | ((with_reducible refine Ac (N := 2) rfl ?_); refine UD (w0 := w) (N := 2) (C := KX) rfl rfl (by first | (go_simp; done) | (go_simp; rfl)) (Gr.refl w) ?_; intro g2 w1 h2 b2 f1 G1)
   | ((with_reducible refine Ac (N := 3) rfl ?_); refine UD (w0 := w) (N := 3) (C := KY) rfl rfl (by first | (go_simp; done) | (go_simp; rfl)) G1.out ?_; intro g3 w2 h3 b3 f2 G2; have b22 := Aa.mk (b2.out.Ad f2.out)))
 go_region_with (go_at_call 132; refine (hC.out _ _ _ b22.out.drew b3.out.drew).mono ?_; rintro e w3 ⟨rfl, rfl⟩)
 all_goals go_wp2_with fail
 all_goals go_returns
 all_goals exact ⟨rfl, G2.out.drew⟩
theorem WB (blk off size : Nat) (w : World) : Go.Proofs.CmpLays Tryz.prog 91 #[] AZ 16 cmpK blk off size w := fun m os dk _ x y => by
 rw [Array.append_empty]
 exact X8 _ x y
end Go.Proofs.YtchfmgbjddopoaaGreatDoor.Hand
namespace Go.Proofs
open Go.Shelf
def Tryz.GR : Go.Shelf.Ren := ⟨fun | 6 => 130 | 15 => 182 | 14 => 181 | 28 => 236 | 29 => 237 | 20 => 228 | 21 => 229 | 22 => 230 | 23 => 231 | 24 => 232 | 25 => 233 | 26 => 234 | 27 => 235 | 46 => 275 | 47 => 276 | 48 => 277 | 49 => 278 | 50 => 279 | 57 => 300 | n => n, fun | 22 => 111 | 24 => 103 | 25 => 179 | 3 => 3 | 39 => 153 | 0 => 0 | 53 => 148 | 55 => 81 | 4 => 4 | 46 => 314 | 45 => 313 | 50 => 207 | 5 => 5 | 9 => 9 | 66 => 342 | 70 => 345 | 76 => 366 | 77 => 367 | n => n, fun | n => n⟩
theorem Tryz.ED : Go.Proofs.SlLaysF0.n6 Tryz.prog Tryz.GR := {
 mixed := by kernel_rfl
 f6 := ⟨Tryz.f130.name, by decide, Tryz.func130.trans (congrArg some (by kernel_rfl))⟩
 f14 := ⟨Tryz.f181.name, by decide, Tryz.func181.trans (congrArg some (by kernel_rfl))⟩
 f15 := Tryz.func182.trans (congrArg some (by kernel_rfl))
 f20 := ⟨Tryz.f228.name, by decide, Tryz.func228.trans (congrArg some (by kernel_rfl))⟩
 f21 := ⟨Tryz.f229.name, by decide, Tryz.func229.trans (congrArg some (by kernel_rfl))⟩
 f22 := ⟨Tryz.f230.name, by decide, Tryz.func230.trans (congrArg some (by kernel_rfl))⟩
 f23 := ⟨Tryz.f231.name, by decide, Tryz.func231.trans (congrArg some (by kernel_rfl))⟩
 f24 := ⟨Tryz.f232.name, by decide, Tryz.func232.trans (congrArg some (by kernel_rfl))⟩
 f25 := ⟨Tryz.f233.name, by decide, Tryz.func233.trans (congrArg some (by kernel_rfl))⟩
 f26 := ⟨Tryz.f234.name, by decide, Tryz.func234.trans (congrArg some (by kernel_rfl))⟩
 f27 := ⟨Tryz.f235.name, by decide, Tryz.func235.trans (congrArg some (by kernel_rfl))⟩
 f28 := Tryz.func236.trans (congrArg some (by kernel_rfl))
 f29 := Tryz.func237.trans (congrArg some (by kernel_rfl))
 f46 := ⟨Tryz.f275.name, by decide, Tryz.func275.trans (congrArg some (by kernel_rfl))⟩
 f47 := Tryz.func276.trans (congrArg some (by kernel_rfl))
 f48 := Tryz.func277.trans (congrArg some (by kernel_rfl))
 f49 := ⟨Tryz.f278.name, by decide, Tryz.func278.trans (congrArg some (by kernel_rfl))⟩
 f50 := ⟨Tryz.f279.name, by decide, Tryz.func279.trans (congrArg some (by kernel_rfl))⟩
 f57 := ⟨Tryz.f300.name, by decide, Tryz.func300.trans (congrArg some (by kernel_rfl))⟩
 t0 := Tryz.underlying0
 a0 := Tryz.isAgg0
 z0 := Tryz.sizeOf0
 v0 := Tryz.zeroValue0
 t3 := Tryz.underlying3
 a3 := Tryz.isAgg3
 z3 := Tryz.sizeOf3
 v3 := Tryz.zeroValue3
 t4 := Tryz.underlying4
 a4 := Tryz.isAgg4
 z4 := Tryz.sizeOf4
 v4 := Tryz.zeroValue4
 t5 := Tryz.underlying5
 a5 := Tryz.isAgg5
 z5 := Tryz.sizeOf5
 v5 := Tryz.zeroValue5
 t9 := Tryz.underlying9
 a9 := Tryz.isAgg9
 z9 := Tryz.sizeOf9
 v9 := Tryz.zeroValue9
 t22 := Tryz.underlying111
 a22 := Tryz.isAgg111
 z22 := Tryz.sizeOf111
 v22 := Tryz.zeroValue111
 t25 := Tryz.underlying179
 a25 := Tryz.isAgg179
 z25 := Tryz.sizeOf179
 v25 := Tryz.zeroValue179
 t39 := Tryz.underlying153
 a39 := Tryz.isAgg153
 z39 := Tryz.sizeOf153
 v39 := Tryz.zeroValue153
 t45 := Tryz.underlying313
 a45 := Tryz.isAgg313
 z45 := Tryz.sizeOf313
 v45 := Tryz.zeroValue313
 t46 := Tryz.underlying314
 a46 := Tryz.isAgg314
 z46 := Tryz.sizeOf314
 v46 := Tryz.zeroValue314
 t50 := Tryz.underlying207
 a50 := Tryz.isAgg207
 z50 := Tryz.sizeOf207
 v50 := Tryz.zeroValue207
 t53 := Tryz.underlying148
 a53 := Tryz.isAgg148
 z53 := Tryz.sizeOf148
 v53 := Tryz.zeroValue148
 t55 := Tryz.underlying81
 a55 := Tryz.isAgg81
 z55 := Tryz.sizeOf81
 v55 := Tryz.zeroValue81
 t66 := Tryz.underlying342
 a66 := Tryz.isAgg342
 z66 := Tryz.sizeOf342
 v66 := Tryz.zeroValue342
 t70 := Tryz.underlying345
 a70 := Tryz.isAgg345
 z70 := Tryz.sizeOf345
 v70 := Tryz.zeroValue345
 t76 := Tryz.underlying366
 a76 := Tryz.isAgg366
 z76 := Tryz.sizeOf366
 v76 := Tryz.zeroValue366
 t77 := Tryz.underlying367
 a77 := Tryz.isAgg367
 z77 := Tryz.sizeOf367
 v77 := Tryz.zeroValue367 }
end Go.Proofs
