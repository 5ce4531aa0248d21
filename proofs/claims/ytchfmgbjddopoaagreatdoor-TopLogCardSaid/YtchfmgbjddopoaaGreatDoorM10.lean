import Derived.Test.YtchfmgbjddopoaaGreatDoorM02
import Derived.Test.YtchfmgbjddopoaaGreatDoorM06
import Derived.Test.YtchfmgbjddopoaaGreatDoorM08
import Derived.Test.YtchfmgbjddopoaaGreatDoorM09
set_option linter.unusedVariables false
set_option linter.unusedSimpArgs false
set_option maxHeartbeats 6400000
set_option maxRecDepth 100000
namespace Go.Proofs.YtchfmgbjddopoaaGreatDoor.Plain
open Go.RowKit Go.Proofs.YtchfmgbjddopoaaGreatDoorW.PrintWords
def enc (n : Nat) : List Int := if n < 128 then [(n : Int)] else ((n % 128 + 128 : Nat) : Int) :: enc (n / 128)
termination_by n
decreasing_by omega
theorem DR {n : Nat} (h : n < 128) : enc n = [(n : Int)] := by rw [enc, if_pos h]
theorem EZ {n : Nat} (h : ¬ n < 128) : enc n = ((n % 128 + 128 : Nat) : Int) :: enc (n / 128) := by rw [enc, if_neg h]
theorem CY (n : Nat) : Bytes (enc n) := by
 induction n using Nat.strongRecOn with
 | _ n ih =>
   by_cases h : n < 128
   · rw [DR h]; intro x hx; simp at hx; omega
   · rw [EZ h]; intro x hx
     rcases List.mem_cons.1 hx with rfl | hx
     · omega
     · exact ih (n / 128) (by omega) x hx
theorem BI (d : Nat) : ∀ n, n < 128 ^ (d + 1) → (enc n).length ≤ d + 1 := by
 induction d with
 | zero => intro n hn; rw [DR (by simpa using hn)]; simp
 | succ d ih =>
   intro n hn
   by_cases h : n < 128
   · rw [DR h]; simp
   · rw [EZ h]
     have : n / 128 < 128 ^ (d + 1) := by
       rw [Nat.div_lt_iff_lt_mul (by decide)]
       rwa [Nat.pow_succ] at hn
     have := ih (n / 128) this
     simp
     omega
theorem Yh (n : Nat) : 1 ≤ (enc n).length := by
 by_cases h : n < 128
 · rw [DR h]; simp
 · rw [EZ h]; simp
theorem Hf {n : Nat} (h : n < 18446744073709551616) : (enc n).length ≤ 10 := BI 9 n (Nat.lt_of_lt_of_le h (by decide))
structure Ky where
 l : List Int
 ok : l.length = 16 ∧ Bytes l
deriving instance DecidableEq for Ky
theorem Ky.ext {a b : Ky} (h : a.l = b.l) : a = b := by
 obtain ⟨a, _⟩ := a
 obtain ⟨b, _⟩ := b
 subst h
 rfl
structure Wr where
 key : Ky
 val : ByteArray
 gone : Bool
structure Rc where
 kind : Int
 id : Int
 t0 : Int
 n0 : Int
 t1 : Int
 n1 : Int
 ws : List Wr
 yes : Bool
 parts : List Int
theorem Nr (s : ByteArray) : Bytes (bytesOf s) := fun x hx => by
 obtain ⟨b, _, rfl⟩ := List.mem_map.1 hx
 have := b.toNat_lt
 omega
theorem bytesOf_length (s : ByteArray) : (bytesOf s).length = s.size := by
 unfold bytesOf
 rw [List.length_map]
 rfl
def pack (t n : Int) : Nat := (t * 256 + n).toNat
def zz (v : Int) : Int := if 0 ≤ v then 2 * v else -2 * v - 1
def IR (w : Wr) : List Int := w.key.l ++ (enc (if w.gone then 1 else 0) ++ (enc w.val.size ++ bytesOf w.val))
def EL (l : List Wr) : List Int := enc l.length ++ l.flatMap IR
def encR (r : Rc) : List Int := enc r.kind.toNat ++ (enc (zz r.id).toNat ++
 (if r.kind = 1 then enc (pack r.t0 r.n0) ++ (enc (pack r.t1 r.n1) ++ EL r.ws)
  else if r.kind = 2 ∨ r.kind = 5 then enc (pack r.t1 r.n1)
  else if r.kind = 4 then enc (if r.yes then 1 else 0) ++ (enc (pack r.t1 r.n1) ++ (enc r.parts.length ++ r.parts.flatMap fun p => enc p.toNat))
  else []))
def Dk (t : Int) : Prop := 0 ≤ t ∧ t ≤ 36028797018963967
structure Fit (r : Rc) : Prop where
 kind : 1 ≤ r.kind ∧ r.kind ≤ 5
 id : 0 ≤ r.id ∧ r.id < 9223372036854775808
 s0 : Dk r.t0 ∧ 0 ≤ r.n0 ∧ r.n0 < 256
 s1 : Dk r.t1 ∧ 0 ≤ r.n1 ∧ r.n1 < 256
 few : r.ws.length ≤ 16
 ws : ∀ w ∈ r.ws, w.val.size ≤ 200
 some : r.parts.length ≤ 8
 parts : ∀ p ∈ r.parts, 0 ≤ p ∧ p < 8
theorem FU {t n : Int} (h : Dk t) (h0 : 0 ≤ n) (h1 : n < 256) : pack t n < 9223372036854775808 := by
 unfold pack Dk at *
 omega
theorem TD (w : Wr) : Bytes (IR w) := w.key.ok.2.append ((CY _).append ((CY _).append (Nr _)))
theorem JI {w : Wr} (h : w.val.size ≤ 200) : (IR w).length ≤ 219 := by
 have h1 : (enc (if w.gone then 1 else 0)).length ≤ 1 := BI 0 _ (by split <;> decide)
 have h2 : (enc w.val.size).length ≤ 2 := BI 1 _ (by omega)
 have := w.key.ok.1
 simp only [IR, List.length_append, bytesOf_length]
 omega
theorem KR {α : Type} {f : α → List Int} : ∀ {l : List α}, (∀ w ∈ l, Bytes (f w)) → Bytes (l.flatMap f) := fun h x hx => by
 obtain ⟨w, hw, hx⟩ := List.mem_flatMap.1 hx
 exact h w hw x hx
theorem flat_length {α : Type} {f : α → List Int} {m : Nat} : ∀ {l : List α}, (∀ w ∈ l, (f w).length ≤ m) → (l.flatMap f).length ≤ l.length * m
 | [], _ => by simp
 | w :: l, h => by
   have h1 := flat_length (l := l) (f := f) (m := m) (fun q hq => h q (by simp [hq]))
   have h2 := h w (by simp)
   rw [List.flatMap_cons, List.length_append, List.length_cons, Nat.add_mul]
   omega
theorem OL {l : List Wr} (hl : l.length ≤ 16) (h : ∀ w ∈ l, w.val.size ≤ 200) : (EL l).length ≤ 3505 := by
 have h1 : (enc l.length).length ≤ 1 := BI 0 _ (by omega)
 have h2 := flat_length (f := IR) (m := 219) (fun w hw => JI (h w hw))
 simp only [EL, List.length_append]
 have : l.length * 219 ≤ 16 * 219 := Nat.mul_le_mul_right _ hl
 omega
theorem FC (r : Rc) : Bytes (encR r) := by
 unfold encR
 refine (CY _).append ((CY _).append ?_)
 split
 · exact (CY _).append ((CY _).append ((CY _).append (KR fun w _ => TD w)))
 · split
   · exact CY _
   · split
     · exact (CY _).append ((CY _).append ((CY _).append (KR fun p _ => CY _)))
     · intro x hx; cases hx
theorem Ei {r : Rc} (h : Fit r) : 1 ≤ (encR r).length ∧ (encR r).length ≤ 4000 := by
 have k0 := Yh r.kind.toNat
 have k1 : (enc r.kind.toNat).length ≤ 1 := BI 0 _ (by have := h.kind; omega)
 have i1 : (enc (zz r.id).toNat).length ≤ 10 := Hf (by have := h.id; unfold zz; split <;> omega)
 have p0 : (enc (pack r.t0 r.n0)).length ≤ 10 := Hf (by have := FU h.s0.1 h.s0.2.1 h.s0.2.2; omega)
 have p1 : (enc (pack r.t1 r.n1)).length ≤ 10 := Hf (by have := FU h.s1.1 h.s1.2.1 h.s1.2.2; omega)
 have w1 := OL h.few h.ws
 have y1 : (enc (if r.yes then 1 else 0)).length ≤ 1 := BI 0 _ (by split <;> decide)
 have n1 : (enc r.parts.length).length ≤ 1 := BI 0 _ (by have := h.some; omega)
 have q1 := flat_length (f := fun p : Int => enc p.toNat) (m := 1) (l := r.parts) (fun p hp => BI 0 _ (by have := h.parts p hp; omega))
 have := h.some
 unfold encR
 simp only [List.length_append]
 split
 · simp only [List.length_append]; omega
 · split
   · omega
   · split
     · simp only [List.length_append]; omega
     · simp; omega
end Go.Proofs.YtchfmgbjddopoaaGreatDoor.Plain
namespace Go.Proofs.YtchfmgbjddopoaaGreatDoor.Hand
open Go.RowKit Go.Proofs.YtchfmgbjddopoaaGreatDoorW.PrintWords Go.Proofs.YtchfmgbjddopoaaGreatDoorW.PrintLast Go.Proofs.YtchfmgbjddopoaaGreatDoorW.PrintMore
open Plain (frm first frames Bytes)
def EC (w w' : World) : Prop := ∀ k C t, Bk w k C t → t ≠ 64 → t ≠ 60 → t ≠ 87 → t ≠ 5 → t ≠ 39 → Bk w' k C t
theorem EC.refl (w : World) : EC w w := fun _ _ _ h _ _ _ _ _ => h
theorem EC.trans {a b c : World} (h : EC a b) (k : EC b c) : EC a c := fun x C t h0 h1 h2 h3 h4 h5 => k x C t (h x C t h0 h1 h2 h3 h4 h5) h1 h2 h3 h4 h5
theorem EC.below {w w' : World} (f : Below w.heap.size w w') : EC w w' := fun _ _ _ h _ _ _ _ _ => Ob.Ad h f
def Lg (w : World) (B S g d : Nat) (rs : List (List Int)) (q : Nat) : Prop :=
 ∃ m n c A vs safe, Bk w g (LgC d (.slice A n c) safe 1 false) 64 ∧ Rows w B (.slice A n c) vs rs ∧ n = rs.length ∧ B ≤ g ∧ B ≤ d ∧ B ≤ m ∧ S ≤ w.heap.size ∧ B ≤ S ∧ q ≤ rs.length ∧
   ((rs = [] ∧ q = 0 ∧ Dk0 d m 1 true w) ∨ ∃ f z, B ≤ f ∧ Dk1 d m f 1 true z (frames rs) (frames (rs.take q)).length w ∧ (∀ k, z.ownBlock = some k → B ≤ k ∧ k < S) ∧ ∀ i, i < rs.length → ∀ k, z.ownBlock = some k → (vs.getD i (.slice none 0 0)).ownBlock ≠ some k)
section
variable {w w' : World} {B S g d q : Nat} {rs : List (List Int)}
theorem Lg.below (h : Lg w B S g d rs q) (f : Below w.heap.size w w') : Lg w' B S g d rs q := by
 obtain ⟨m, n, c, A, vs, safe, h1, h2, h3, h4, h5, h6, h7, h8, h9, h10⟩ := h
 refine ⟨m, n, c, A, vs, safe, Ob.Ad h1 f, h2.below f, h3, h4, h5, h6, Nat.le_trans h7 f.size, h8, h9, ?_⟩
 rcases h10 with ⟨e1, e2, e3⟩ | ⟨f', z, e1, e2, e3⟩
 · exact .inl ⟨e1, e2, e3.below f⟩
 · exact .inr ⟨f', z, e1, e2.below f, e3⟩
theorem Lg.now (h : Lg w B S g d rs q) : Lg w B w.heap.size g d rs q := by
 obtain ⟨m, n, c, A, vs, safe, h1, h2, h3, h4, h5, h6, h7, h8, h9, h10⟩ := h
 refine ⟨m, n, c, A, vs, safe, h1, h2, h3, h4, h5, h6, Nat.le_refl _, Nat.le_trans h8 h7, h9, ?_⟩
 rcases h10 with h | ⟨f', z, e1, e2, e3, e4⟩
 · exact .inl h
 · exact .inr ⟨f', z, e1, e2, fun k hk => ⟨(e3 k hk).1, by have := (e3 k hk).2; omega⟩, e4⟩
theorem DI {T : Nat → Prop} (f : Fr T w w') (h : ∀ k, T k → k < w.heap.size → (∃ C, Bk w k C 64) ∨ (∃ C, Bk w k C 60) ∨ (∃ C, Bk w k C 87) ∨ (∃ C, Bk w k C 5) ∨ (∃ C, Bk w k C 39) ∨ ∃ es c, Mp w k es c) : EC w w' := fun k C t h0 h1 h2 h3 h4 h5 => by
 refine Ob.fr h0 f fun hk => ?_
 rcases h k hk h0.lt with ⟨C', hb⟩ | ⟨C', hb⟩ | ⟨C', hb⟩ | ⟨C', hb⟩ | ⟨C', hb⟩ | ⟨es, c, hm⟩
 · exact Dh h0 hb h1 rfl
 · exact Dh h0 hb h2 rfl
 · exact Dh h0 hb h3 rfl
 · exact Dh h0 hb h4 rfl
 · exact Dh h0 hb h5 rfl
 · exact BR h0 hm rfl
theorem ND {e size n : Nat} {base : Nat} {v : Value} {xs : List Value} (h : w.ownsRow base e size v n xs) {k : Nat} (hk : v.ownBlock = some k) : ∃ C, Bk w k C e := by
 rcases h.2 with ⟨rfl, _⟩ | ⟨g', cap, cur, rfl, _, hh, _⟩
 · cases hk
 · have := Option.some.inj hk
   subst this
   exact ⟨cur, hh⟩
end
theorem X5 (w : World) (B d m : Nat) (h : Dk0 d m 1 true w) (hd : B ≤ d) (hm : B ≤ m) (hB : B ≤ w.heap.size) :
   Calls Tryz.prog 6 #[.pointer (some ⟨d, 0, none⟩), .string nmW] w fun e w' => ∃ g, e = .returned (.tuple #[.pointer (some ⟨g, 0, none⟩), .int .i64 0]) ∧ Lg w' B w'.heap.size g d [] 0 ∧ Below w.heap.size w w' :=
 (NG w d m 1 h).mono (by
   rintro e w' ⟨g, rfl, hg, hb, f⟩
   exact ⟨g, rfl, ⟨m, 0, 0, none, [], 0, hb, ⟨World.ownsRow_nil _ _ _ _, fun i hi => absurd hi (by simp)⟩, rfl, Nat.le_trans hB hg, hd, hm, Nat.le_refl _, Nat.le_trans hB f.size, Nat.le_refl _, .inl ⟨rfl, rfl, h.below f⟩⟩, f⟩)
theorem Oa {rs : List (List Int)} (h : ∀ r ∈ rs, r.length ≤ 4000) : (frames rs).length ≤ rs.length * 4012 := by
 unfold frames
 exact Plain.flat_length (fun r hr => by rw [Plain.BK]; have := h r hr; omega)
theorem WY (w : World) (B S g d x q : Nat) (rs : List (List Int)) (v : Value) (r : List Int) (h : Lg w B S g d rs q) (hx : Bk w x #[v] 39) (hxS : S ≤ x) (hv : Bq w S v r) (hb : Bytes r) (h1 : 1 ≤ r.length) (h2 : r.length ≤ 4000) (hrs : ∀ r ∈ rs, r.length ≤ 4000) (hn : rs.length ≤ 20) :
   Calls Tryz.prog 8 #[.pointer (some ⟨g, 0, none⟩), .slice (some ⟨x, 0, none⟩) 1 1] w fun e w' => e = .returned (.int .i64 0) ∧ Lg w' B w'.heap.size g d (rs ++ [r]) q ∧ Below B w w' ∧ EC w w' := by
 obtain ⟨m, n, c, A, vs, safe, hg, hR, hnn, hBg, hBd, hBm, hS, hBS, hq, hD⟩ := h
 have hvs : vs.length = rs.length := by rw [hR.own.1]; omega
 have hAl : ∀ k, (Value.slice A n c).ownBlock = some k → B ≤ k ∧ k < w.heap.size := fun k hk => hR.own.lt k hk
 have hAb : ∀ k, (Value.slice A n c).ownBlock = some k → ∃ C, Bk w k C 39 := fun k hk => ND hR.own hk
 have hAg : (Value.slice A n c).ownBlock ≠ some g := AC hR.own hg (by decide)
 have hv0 : Bq w 0 v r := AV hv (Nat.zero_le _)
 have hrow : ∀ i, i < rs.length → ∀ k, (vs.getD i (.slice none 0 0)).ownBlock = some k → k < w.heap.size := fun i hi k hk => ((hR.each i hi).lt k hk).2
 have hget : ∀ y i, i < rs.length → (vs ++ [y]).getD i (.slice none 0 0) = vs.getD i (.slice none 0 0) := fun y i hi => by
   rw [List.getD_eq_getElem?_getD, List.getD_eq_getElem?_getD, List.getElem?_append_left (by omega)]
 have hlast : ∀ y, (vs ++ [y]).getD rs.length (.slice none 0 0) = y := fun y => by rw [← hvs]; simp
 rcases hD with ⟨rfl, rfl, hD0⟩ | ⟨f, z, hBf, hD1, hz1, hz2⟩
 · have n0 : n = 0 := hnn
   refine (Um w g d m safe n c x B A 1 vs [] v r (fun k => k = m) (fun W => Dk0 d m 1 true W) (fun z W => ∃ f, w.heap.size ≤ f ∧ Dk1 d m f 1 true z (frm r) 0 W ∧ ∀ k, z.ownBlock = some k → w.heap.size ≤ k) hg (fun W h => h.d) hR hnn (by omega) (Nat.le_trans hBS hS) hx hv0 hb h1 (by omega) hD0 (fun W W' h f => h.below f) (BR hg hD0.m) (BR hx hD0.m) ?_ ?_ (fun k _ i hi => absurd hi (by simp)) ?_ ?_).mono ?_
   · rintro k rfl e
     obtain ⟨C, hC⟩ := ND hv0 e
     exact BR hC hD0.m rfl
   · rintro k rfl e
     obtain ⟨C, hC⟩ := hAb _ e
     exact BR hC hD0.m rfl
   · intro W g2 c2 hW h2r hs
     refine (OO W d m g2 c2 1 (frm r) hW (by rw [Plain.BK]; omega) h2r (by rw [Plain.BK]; omega)).mono ?_
     rintro e w' ⟨rfl, f, v', hf, hd, hF, hn⟩
     exact ⟨rfl, ⟨v', f, Nat.le_trans hs hf, hd, fun k hk => Nat.le_trans hs (hn k hk)⟩, hF⟩
   · rintro z W W' ⟨f, hf, hd, hz⟩ hF
     have hg' := hg.lt
     refine ⟨f, hf, ⟨hd.d.fr hF ?_, hd.m.fr hF ?_, hd.f.fr hF ?_, AP hd.b hF ?_⟩, hz⟩
     · rintro (e | e)
       · exact Dh hg hD0.d (by decide) e.symm
       · obtain ⟨C, hC⟩ := hAb _ e
         exact Dh hC hD0.d (by decide) rfl
     · rintro (e | e)
       · exact BR hg hD0.m e.symm
       · obtain ⟨C, hC⟩ := hAb _ e
         exact BR hC hD0.m rfl
     · rintro (e | e)
       · omega
       · have := (hAl _ e).2; omega
     · rintro k (e | e) hk
       · have := hz k hk; omega
       · have := (hAl _ e).2; have := hz k hk; omega
   · rintro e w' ⟨rfl, A', c', y, z1, W1, hg', hR', ⟨f1, hf1, hd1, hz1⟩, ⟨f, hf, hd, hz⟩, hy, hs, hF, hown⟩
     have hF' : Fr (fun k => k = m ∨ k = g ∨ (Value.slice A n c).ownBlock = some k) w w' := hF
     refine ⟨rfl, ⟨m, n + 1, c', A', vs ++ [y], safe, hg', hR', by simp [n0], hBg, hBd, hBm, Nat.le_refl _, ?_, Nat.zero_le _, .inr ⟨f, z1, ?_, ?_, fun k hk => ⟨?_, (hd.b.lt k hk).2⟩, ?_⟩⟩, ?_, ?_⟩
     · exact Nat.le_trans (Nat.le_trans hBS hS) hF'.size
     · omega
     · simpa [frames] using hd
     · have := hz k hk; omega
     · intro i hi k hk
       have i0 : i = 0 := by simpa using hi
       subst i0
       have e0 : (vs ++ [y]).getD 0 (.slice none 0 0) = y := hlast y
       rw [e0]
       intro hyk
       have := hy k hyk
       have := (hd1.b.lt k hk).2
       omega
     · exact hF'.below (fun k hk e => by
         rcases e with e | e | e
         · omega
         · omega
         · have := (hAl k e).1; omega) (Nat.le_trans hBS hS)
     · refine DI hF' fun k hk _ => ?_
       rcases hk with e | e | e
       · exact .inr (.inr (.inr (.inr (.inr ⟨_, _, e ▸ hD0.m⟩))))
       · exact .inl ⟨_, e ▸ hg⟩
       · exact .inr (.inr (.inr (.inr (.inl (hAb k e)))))
 · have hvf : ∀ k, v.ownBlock = some k → S ≤ k := fun k hk => (hv.lt k hk).1
   have hzb : ∀ k, z.ownBlock = some k → ∃ C, Bk w k C 5 := fun k hk => ND hD1.b hk
   have hl := Oa hrs
   refine (Um w g d m safe n c x B A 1 vs rs v r (fun k => k = f ∨ z.ownBlock = some k) (fun W => Dk1 d m f 1 true z (frames rs) (frames (rs.take q)).length W) (fun z' W => Dk1 d m f 1 true z' (frames rs ++ frm r) (frames (rs.take q)).length W ∧ (z'.ownBlock = z.ownBlock ∨ ∀ k, z'.ownBlock = some k → w.heap.size ≤ k)) hg (fun W h => h.d) hR hnn (by omega) (Nat.le_trans hBS hS) hx hv0 hb h1 (by omega) hD1 (fun W W' h f => h.below f) ?_ ?_ ?_ ?_ ?_ ?_ ?_).mono ?_
   · rintro (e | e)
     · exact Dh hg hD1.f (by decide) e
     · exact AC hD1.b hg (by decide) e
   · rintro (e | e)
     · exact Dh hx hD1.f (by decide) e
     · exact AC hD1.b hx (by decide) e
   · rintro k (rfl | e) hk
     · exact AC hv0 hD1.f (by decide) hk
     · have := hvf k hk; have := (hz1 k e).2; omega
   · rintro k (rfl | e) hk
     · exact AC hR.own hD1.f (by decide) hk
     · obtain ⟨C, hC⟩ := hzb k e
       exact AC hR.own hC (by decide) hk
   · rintro k (rfl | e) i hi hk
     · exact AC (hR.each i hi) hD1.f (by decide) hk
     · exact hz2 i hi k e hk
   · intro W g2 c2 hW h2r hs
     refine (OM W d m f g2 c2 1 z (frames rs) (frm r) _ hW (by rw [Plain.BK]; omega) h2r (by rw [Plain.BK]; omega)).mono ?_
     rintro e w' ⟨rfl, v', hd, hF, hn⟩
     exact ⟨rfl, ⟨v', hd, hn.imp id fun h k hk => Nat.le_trans hs (h k hk)⟩, hF⟩
   · rintro z' W W' ⟨hd, hz⟩ hF
     have hg' := hg.lt
     refine ⟨⟨hd.d.fr hF ?_, hd.m.fr hF ?_, hd.f.fr hF ?_, AP hd.b hF ?_⟩, hz⟩
     · rintro (e | e)
       · exact Dh hg hD1.d (by decide) e.symm
       · obtain ⟨C, hC⟩ := hAb _ e
         exact Dh hC hD1.d (by decide) rfl
     · rintro (e | e)
       · exact BR hg hD1.m e.symm
       · obtain ⟨C, hC⟩ := hAb _ e
         exact BR hC hD1.m rfl
     · rintro (e | e)
       · exact Dh hg hD1.f (by decide) e.symm
       · obtain ⟨C, hC⟩ := hAb _ e
         exact Dh hC hD1.f (by decide) rfl
     · rintro k (e | e) hk
       · subst e
         rcases hz with hz | hz
         · rw [hz] at hk; exact AC hD1.b hg (by decide) hk
         · have := hz _ hk; omega
       · obtain ⟨C, hC⟩ := hAb _ e
         rcases hz with hz | hz
         · rw [hz] at hk; exact AC hD1.b hC (by decide) hk
         · have := (hAl _ e).2; have := hz k hk; omega
   · rintro e w' ⟨rfl, A', c', y, z1, W1, hg', hR', ⟨hd1, hz1'⟩, ⟨hd, hz'⟩, hy, hs, hF, hown⟩
     have hF' : Fr (fun k => (k = f ∨ z.ownBlock = some k) ∨ k = g ∨ (Value.slice A n c).ownBlock = some k) w w' := hF
     refine ⟨rfl, ⟨m, n + 1, c', A', vs ++ [y], safe, hg', hR', by simp [hnn], hBg, hBd, hBm, Nat.le_refl _, ?_, by rw [List.length_append]; omega, .inr ⟨f, z1, hBf, ?_, fun k hk => ⟨?_, (hd.b.lt k hk).2⟩, ?_⟩⟩, ?_, ?_⟩
     · exact Nat.le_trans (Nat.le_trans hBS hS) hF'.size
     · rw [Plain.JG, List.take_append_of_le_length hq]
       exact hd
     · rcases hz' with e | e
       · rw [e] at hk; exact (hz1 k hk).1
       · have := e k hk; omega
     · intro i hi k hk
       rw [List.length_append, List.length_singleton] at hi
       by_cases hlt : i < rs.length
       · rw [hget y i hlt]
         rcases hz' with e | e
         · rw [e] at hk; exact hz2 i hlt k hk
         · intro hyk
           have := hrow i hlt k hyk
           have := e k hk
           omega
       · have : i = rs.length := by omega
         subst this
         rw [hlast]
         intro hyk
         have := hy k hyk
         have := (hd1.b.lt k hk).2
         omega
     · exact hF'.below (fun k hk e => by
         rcases e with (e | e) | e | e
         · omega
         · have := (hz1 k e).1; omega
         · omega
         · have := (hAl k e).1; omega) (Nat.le_trans hBS hS)
     · refine DI hF' fun k hk _ => ?_
       rcases hk with (e | e) | e | e
       · exact .inr (.inr (.inl ⟨_, e ▸ hD1.f⟩))
       · exact .inr (.inr (.inr (.inl (hzb k e))))
       · exact .inl ⟨_, e ▸ hg⟩
       · exact .inr (.inr (.inr (.inr (.inl (hAb k e)))))
theorem X4 (w : World) (B S g d q : Nat) (rs : List (List Int)) (h : Lg w B S g d rs q) (hne : rs ≠ []) :
   Calls Tryz.prog 10 #[.pointer (some ⟨g, 0, none⟩)] w fun e w' => e = .returned (.int .i64 0) ∧ Lg w' B w'.heap.size g d rs rs.length ∧ Below B w w' ∧ EC w w' := by
 obtain ⟨m, n, c, A, vs, safe, hg, hR, hnn, hBg, hBd, hBm, hS, hBS, hq, hD⟩ := h
 rcases hD with ⟨h0, _⟩ | ⟨f, z, hBf, hD1, hz1, hz2⟩
 · exact absurd h0 hne
 refine (VA w g d m f safe n c _ A 1 z (frames rs) hg hD1).mono ?_
 rintro e w' ⟨rfl, hg', hd, hF⟩
 have hR' : Rows w' B (.slice A n c) vs rs := hR.frT hF (fun k hk e => by
     rcases hk with rfl | rfl
     · exact AC hR.own hD1.f (by decide) e
     · exact AC hR.own hg (by decide) e) (fun k hk i hi e => by
     rcases hk with rfl | rfl
     · exact AC (hR.each i hi) hD1.f (by decide) e
     · exact AC (hR.each i hi) hg (by decide) e)
 refine ⟨rfl, ⟨m, n, c, A, vs, n, hg', hR', hnn, hBg, hBd, hBm, Nat.le_refl _, Nat.le_trans (Nat.le_trans hBS hS) hF.size, Nat.le_refl _, .inr ⟨f, z, hBf, ?_, fun k hk => ⟨(hz1 k hk).1, (hd.b.lt k hk).2⟩, hz2⟩⟩, hF.below (fun k hk e => by omega) (Nat.le_trans hBS hS), DI hF fun k hk _ => ?_⟩
 · rw [List.take_length]
   exact hd
 · rcases hk with e | e
   · exact .inr (.inr (.inl ⟨_, e ▸ hD1.f⟩))
   · exact .inl ⟨_, e ▸ hg⟩
def DkX (w : World) (B d : Nat) (rs : List (List Int)) (k : Nat) (lives : Int) (pw : Bool) : Prop :=
 ∃ m, B ≤ d ∧ B ≤ m ∧ ((k = 0 ∧ Dk0 d m lives pw w) ∨ ∃ f z s tail, B ≤ f ∧ Dk1 d m f lives pw z (frames (rs.take k) ++ tail) s w ∧ (tail = [] ∨ first tail = none) ∧ Bytes (frames (rs.take k) ++ tail) ∧ (frames (rs.take k) ++ tail).length ≤ 262144)
theorem DkX.below {w w' : World} {B d k : Nat} {rs : List (List Int)} {lives : Int} {pw : Bool} (h : DkX w B d rs k lives pw) (f : Below w.heap.size w w') : DkX w' B d rs k lives pw := by
 obtain ⟨m, h1, h2, h3⟩ := h
 refine ⟨m, h1, h2, ?_⟩
 rcases h3 with ⟨e, h⟩ | ⟨f', z, s, tail, e1, e2, e3⟩
 · exact .inl ⟨e, h.below f⟩
 · exact .inr ⟨f', z, s, tail, e1, e2.below f, e3⟩
theorem V5 (w : World) (B S g d q : Nat) (rs : List (List Int)) (keep torn : Int) (h : Lg w B S g d rs q) (hrs : ∀ r ∈ rs, Bytes r ∧ 1 ≤ r.length ∧ r.length ≤ 4000) (hn : rs.length ≤ 20) (ht0 : 0 ≤ torn) (ht1 : torn < 256) :
   Calls Tryz.prog 11 #[.pointer (some ⟨d, 0, none⟩), .int .i64 keep, .int .u8 torn] w fun e w' => e = .returned (.tuple #[]) ∧ ∃ k, q ≤ k ∧ k ≤ rs.length ∧ DkX w' B d rs k 1 false ∧ Below B w w' ∧ EC w w' := by
 obtain ⟨m, n, c, A, vs, safe, hg, hR, hnn, hBg, hBd, hBm, hS, hBS, hq, hD⟩ := h
 rcases hD with ⟨h0, h1, hD0⟩ | ⟨f, z, hBf, hD1, hz1, hz2⟩
 · refine (QC w d m 1 keep torn hD0).mono ?_
   rintro e w' ⟨rfl, hd, hF⟩
   exact ⟨rfl, 0, by omega, Nat.zero_le _, ⟨m, hBd, hBm, .inl ⟨rfl, hd⟩⟩, hF.below (fun k hk e => by omega) (Nat.le_trans hBS hS), DI hF fun k hk _ => .inr (.inl ⟨_, hk ▸ hD0.d⟩)⟩
 have hl := Oa fun r hr => (hrs r hr).2.2
 have hlt : (frames (rs.take q)).length ≤ (frames rs).length := by
   have : frames rs = frames (rs.take q) ++ frames (rs.drop q) := by
     unfold frames
     rw [← List.flatMap_append, List.take_append_drop]
   rw [this, List.length_append]
   omega
 have hfb : Bytes (frames rs) := Plain.OJ fun r hr => (hrs r hr).1
 refine (QB w d m f 1 keep torn z (frames rs) _ hD1 hlt (by omega) hfb ht0 ht1).mono ?_
 rintro e w' ⟨rfl, n', c', v', h1, h2, h3, hd, hF, hv'⟩
 obtain ⟨k, tail, hk, he, ht, hm⟩ := Plain.KQ rs (fun r hr => ⟨(hrs r hr).1, (hrs r hr).2.1, by have := (hrs r hr).2.2; omega⟩) n' c' h2 h3
 refine ⟨rfl, k, hm q hq h1, hk, ⟨m, hBd, hBm, .inr ⟨f, v', n' + c'.length, tail, hBf, by rw [← he]; exact hd, ht, ?_, ?_⟩⟩, hF.below (fun k hk e => ?_) (Nat.le_trans hBS hS), DI hF fun k hk _ => ?_⟩
 · rw [← he]
   intro x hx
   rcases List.mem_append.1 hx with hx | hx
   · exact hfb x (List.mem_of_mem_take hx)
   · rcases h3 with rfl | ⟨_, y, rfl, hy, _⟩
     · cases hx
     · rw [List.mem_singleton.1 hx]; omega
 · rw [← he, List.length_append, List.length_take]
   have : c'.length ≤ 1 := by
     rcases h3 with rfl | ⟨_, y, rfl, hy, _⟩ <;> simp
   omega
 · rcases e with e | e | e
   · omega
   · omega
   · have := (hz1 k e).1; omega
 · rcases hk with e | e | e
   · exact .inr (.inl ⟨_, e ▸ hD1.d⟩)
   · exact .inr (.inr (.inl ⟨_, e ▸ hD1.f⟩))
   · exact .inr (.inr (.inr (.inl (ND hD1.b e))))
theorem ZR (w : World) (B d k : Nat) (rs : List (List Int)) (h : DkX w B d rs k 1 false) (hB : B ≤ w.heap.size) :
   Calls Tryz.prog 12 #[.pointer (some ⟨d, 0, none⟩)] w fun e w' => e = .returned (.tuple #[]) ∧ DkX w' B d rs k 2 true ∧ Below B w w' ∧ EC w w' := by
 obtain ⟨m, hBd, hBm, h3⟩ := h
 have hdd : Bk w d (DkC 1 false m) 60 := by
   rcases h3 with ⟨_, h⟩ | ⟨f, z, s, tail, _, h, _⟩
   · exact h.d
   · exact h.d
 refine (Yi w d m 1 false hdd (by decide) (by decide)).mono ?_
 rintro e w' ⟨rfl, hd, hF⟩
 refine ⟨rfl, ⟨m, hBd, hBm, ?_⟩, hF.below (fun k hk e => by omega) hB, DI hF fun k hk _ => .inr (.inl ⟨_, hk ▸ hdd⟩)⟩
 rcases h3 with ⟨e, h⟩ | ⟨f, z, s, tail, e1, h, e3⟩
 · exact .inl ⟨e, hd, h.m.fr hF fun e => BR hdd h.m e.symm⟩
 · exact .inr ⟨f, z, s, tail, e1, ⟨hd, h.m.fr hF (fun e => BR hdd h.m e.symm), h.f.fr hF (Dh h.f hdd (by decide)), AP h.b hF (fun k hk => hk ▸ AC h.b hdd (by decide))⟩, e3⟩
def Lv (w : World) (g : Nat) (rs : List (List Int)) : Prop :=
 ∃ d m n c A vs safe, Bk w g (LgC d (.slice A n c) safe 2 false) 64 ∧ Bk w d (DkC 2 true m) 60 ∧ Rows w 0 (.slice A n c) vs rs ∧ n = rs.length
theorem Lv.below {w w' : World} {g : Nat} {rs : List (List Int)} (h : Lv w g rs) (f : Below w.heap.size w w') : Lv w' g rs := by
 obtain ⟨d, m, n, c, A, vs, safe, h1, h2, h3, h4⟩ := h
 exact ⟨d, m, n, c, A, vs, safe, Ob.Ad h1 f, Ob.Ad h2 f, h3.below f, h4⟩
theorem Vd (w : World) (B d k : Nat) (rs : List (List Int)) (h : DkX w B d rs k 2 true) (hk : k ≤ rs.length) (hrs : ∀ r ∈ rs, Bytes r ∧ 1 ≤ r.length ∧ r.length ≤ 4000) (hB : B ≤ w.heap.size) :
   Calls Tryz.prog 6 #[.pointer (some ⟨d, 0, none⟩), .string nmW] w fun e w' => ∃ g, e = .returned (.tuple #[.pointer (some ⟨g, 0, none⟩), .int .i64 0]) ∧ Lv w' g (rs.take k) ∧ Below B w w' ∧ EC w w' := by
 obtain ⟨m, hBd, hBm, h3⟩ := h
 rcases h3 with ⟨e, h⟩ | ⟨f, z, s, tail, e1, h, e3, e4, e5⟩
 · refine (NG w d m 2 h).mono ?_
   rintro e' w' ⟨g, rfl, hg, hb, hF⟩
   subst e
   exact ⟨g, rfl, ⟨d, m, 0, 0, none, [], 0, hb, Ob.Ad h.d hF, ⟨World.ownsRow_nil _ _ _ _, fun i hi => absurd hi (by simp)⟩, rfl⟩, hF.mono hB, EC.below hF⟩
 · refine (UJ w d m f s 2 z _ (rs.take k) tail h e5 e4 rfl (fun r hr => by have := hrs r (List.mem_of_mem_take hr); exact ⟨this.1, this.2.1, by omega⟩) e3).mono ?_
   rintro e' w' ⟨g, A, c, vs, rfl, hg, hb, hR, ⟨v', hd⟩, hF⟩
   exact ⟨g, rfl, ⟨d, m, _, c, A, vs, _, hb, hd.d, ⟨AV hR.own (Nat.zero_le _), fun i hi => AV (hR.each i hi) (Nat.zero_le _)⟩, rfl⟩, hF.below (fun k hk e => by omega) hB, DI hF fun k hk _ => .inr (.inr (.inl ⟨_, hk ▸ h.f⟩))⟩
theorem Zh (w : World) (g : Nat) (rs : List (List Int)) (h : Lv w g rs) : Calls Tryz.prog 13 #[.pointer (some ⟨g, 0, none⟩)] w fun e w' => e = .returned (.int .i64 rs.length) ∧ w' = w := by
 obtain ⟨d, m, n, c, A, vs, safe, h1, h2, h3, rfl⟩ := h
 exact Xr w g d safe _ c A 2 false h1
theorem ZQ (w : World) (g i : Nat) (rs : List (List Int)) (h : Lv w g rs) (hi : i < rs.length) (hl : ∀ r ∈ rs, r.length ≤ 4000) :
   Calls Tryz.prog 15 #[.pointer (some ⟨g, 0, none⟩), .int .i64 i] w fun e w' => ∃ v', e = .returned (.tuple #[v', .int .i64 0]) ∧ Bq w' w.heap.size v' (rs.getD i []) ∧ Below w.heap.size w w' := by
 obtain ⟨d, m, n, c, A, vs, safe, h1, h2, h3, rfl⟩ := h
 refine YU w g d m safe _ c i A 2 vs rs h1 h2 h3 hi ?_
 have := hl (rs.getD i []) (by rw [List.getD_eq_getElem?_getD, List.getElem?_eq_getElem hi]; exact List.getElem_mem hi)
 omega
end Go.Proofs.YtchfmgbjddopoaaGreatDoor.Hand
namespace Go.Proofs.YtchfmgbjddopoaaGreatDoor.Plain
section
variable {K V : Type} [DecidableEq K]
def look (k : K) : List (K × V) → Option V
 | [] => none
 | p :: l => if p.1 = k then some p.2 else look k l
def CW (k : K) (v : V) : List (K × V) → List (K × V)
 | [] => [(k, v)]
 | p :: l => if p.1 = k then (p.1, v) :: l else p :: CW k v l
def FQ (k : K) (l : List (K × V)) : List (K × V) := l.filter fun p => decide (p.1 ≠ k)
def Uniq (l : List (K × V)) : Prop := (l.map (·.1)).Nodup
theorem LU (k : K) (v : V) : ∀ l : List (K × V), look k (CW k v l) = some v
 | [] => by simp [CW, look]
 | p :: l => by
   unfold CW
   by_cases h : p.1 = k
   · rw [if_pos h]; simp [look, h]
   · rw [if_neg h]; simp [look, h, LU k v l]
theorem Eg {k j : K} (v : V) (h : j ≠ k) : ∀ l : List (K × V), look j (CW k v l) = look j l
 | [] => by simp [CW, look, Ne.symm h]
 | p :: l => by
   unfold CW
   by_cases h1 : p.1 = k
   · rw [if_pos h1]
     have : p.1 ≠ j := fun e => h (e.symm.trans h1)
     simp [look, this]
   · rw [if_neg h1]
     simp [look, Eg v h l]
theorem JC {k j : K} (h : j ≠ k) : ∀ l : List (K × V), look j (FQ k l) = look j l
 | [] => rfl
 | p :: l => by
   have ih := JC h l
   unfold FQ at ih ⊢
   rw [List.filter_cons]
   by_cases h1 : p.1 = k
   · have : p.1 ≠ j := fun e => h (e.symm.trans h1)
     rw [if_neg (by simp [h1])]
     simp only [look, if_neg this]
     exact ih
   · rw [if_pos (by simp [h1])]
     simp only [look, ih]
theorem BF {k : K} : ∀ {l : List (K × V)}, look k l = none ↔ ∀ p ∈ l, p.1 ≠ k
 | [] => by simp [look]
 | p :: l => by
   by_cases h : p.1 = k
   · simp [look, h]
   · simp [look, h, BF (l := l)]
theorem Bv {k : K} {v : V} : ∀ {l : List (K × V)}, look k l = some v → (k, v) ∈ l
 | [], h => by simp [look] at h
 | p :: l, h => by
   by_cases h1 : p.1 = k
   · simp [look, h1] at h
     obtain ⟨a, b⟩ := p
     simp at h1 h
     subst h1 h
     simp
   · simp [look, h1] at h
     exact List.mem_cons_of_mem _ (Bv h)
theorem Es {k : K} {v : V} : ∀ {l : List (K × V)}, Uniq l → (k, v) ∈ l → look k l = some v
 | [], _, h => by simp at h
 | p :: l, hu, h => by
   unfold Uniq at hu
   rw [List.map_cons, List.nodup_cons] at hu
   rcases List.mem_cons.1 h with e | h
   · rw [← e]; simp [look]
   · have : p.1 ≠ k := fun e => hu.1 (e ▸ List.mem_map.2 ⟨_, h, rfl⟩)
     simp only [look, if_neg this]
     exact Es hu.2 h
theorem LJ (k : K) (v : V) : ∀ l : List (K × V), (CW k v l).map (·.1) = if look k l = none then l.map (·.1) ++ [k] else l.map (·.1)
 | [] => by simp [CW, look]
 | p :: l => by
   unfold CW
   by_cases h : p.1 = k
   · simp [look, h]
   · rw [if_neg h]
     have := LJ k v l
     simp only [List.map_cons, look, if_neg h, this]
     by_cases h2 : look k l = none <;> simp [h2]
theorem EW {k : K} (v : V) : ∀ {l : List (K × V)}, look k l = none → CW k v l = l ++ [(k, v)]
 | [], _ => rfl
 | p :: l, h => by
   by_cases h1 : p.1 = k
   · simp [look, h1] at h
   · simp only [look, if_neg h1] at h
     simp [CW, h1, EW v h]
theorem Uniq.put {k : K} {v : V} {l : List (K × V)} (h : Uniq l) : Uniq (CW k v l) := by
 unfold Uniq at *
 rw [LJ]
 split
 · rename_i h1
   refine List.nodup_append.2 ⟨h, by simp, fun a ha b hb => ?_⟩
   rw [List.mem_singleton] at hb
   subst hb
   obtain ⟨p, hp, rfl⟩ := List.mem_map.1 ha
   exact BF.1 h1 p hp
 · exact h
theorem Uniq.del {k : K} {l : List (K × V)} (h : Uniq l) : Uniq (FQ k l) := (List.filter_sublist.map _).nodup h
theorem Kt (k : K) (v : V) (l : List (K × V)) : (CW k v l).length ≤ l.length + 1 ∧ l.length ≤ (CW k v l).length := by
 have := congrArg List.length (LJ k v l)
 simp only [List.length_map] at this
 split at this <;> simp at this <;> omega
theorem U9 {k : K} {l r : List (K × V)} (hl : Uniq l) (hp : l.Perm r) : look k l = look k r := by
 have hr : Uniq r := (hp.map _).nodup_iff.1 hl
 cases h : look k l with
 | some v => exact (Es hr (hp.mem_iff.1 (Bv h))).symm
 | none =>
   cases h2 : look k r with
   | none => rfl
   | some v => rw [Es hl (hp.mem_iff.2 (Bv h2))] at h; cases h
theorem KW (k : K) (l : List (K × V)) : (FQ k l).length ≤ l.length := List.length_filter_le _ _
theorem IY {k : K} {v : V} : ∀ {l : List (K × V)} {q : K × V}, q ∈ CW k v l → q ∈ l ∨ q = (k, v)
 | [], q, h => by simpa [CW] using h
 | p :: l, q, h => by
   unfold CW at h
   by_cases h1 : p.1 = k
   · rw [if_pos h1] at h
     rcases List.mem_cons.1 h with e | h
     · right; rw [e, h1]
     · left; exact List.mem_cons_of_mem _ h
   · rw [if_neg h1] at h
     rcases List.mem_cons.1 h with e | h
     · left; rw [e]; simp
     · rcases IY h with h | h
       · left; exact List.mem_cons_of_mem _ h
       · right; exact h
end
deriving instance DecidableEq for Wr
deriving instance DecidableEq for Rc
def textOf (k : List Int) : List Int := k.takeWhile fun x => decide (x ≠ 0)
def Iw (k : List Int) : Bool := decide (textOf k ≠ []) && decide (k = textOf k ++ List.replicate (16 - (textOf k).length) 0)
def ltS (t n t' n' : Int) : Prop := t < t' ∨ t = t' ∧ n < n'
instance (t n t' n' : Int) : Decidable (ltS t n t' n') := by unfold ltS; infer_instance
def GU (t n t' n' : Int) : Int := if t < t' then -1 else if t' < t then 1 else if n < n' then -1 else if n' < n then 1 else 0
def Ce (t : Int) : Bool := decide (0 ≤ t) && decide (t ≤ 36028797018963967)
theorem EH {t : Int} : Ce t = true ↔ Dk t := by simp [Ce, Dk]
def DF : List Ky → List Wr → Bool
 | _, [] => true
 | seen, w :: r => Iw w.key.l && !decide (w.key ∈ seen) && decide (w.val.size ≤ 200) && (!w.gone || decide (w.val.size = 0)) && DF (seen ++ [w.key]) r
structure Ent where
 id : Int
 t0 : Int
 n0 : Int
 t1 : Int
 n1 : Int
 ws : List Wr
def NE (ws : List Wr) : Bool := decide (1 ≤ ws.length) && decide (ws.length ≤ 16)
def TY (e : Ent) : Bool := decide (1 ≤ e.id) && Ce e.t0 && NE e.ws && DF [] e.ws
def Ez (e : Ent) : Bool := TY e && Ce e.t1 && decide (ltS e.t0 e.n0 e.t1 e.n1)
def ES : Int → List Int → Bool
 | _, [] => true
 | last, p :: r => decide (last < p) && decide (p < 8) && ES p r
def CJ (r : Rc) : Rc :=
 if r.kind = 1 then ⟨r.kind, r.id, r.t0, r.n0, r.t1, r.n1, r.ws, false, []⟩
 else if r.kind = 2 ∨ r.kind = 5 then ⟨r.kind, r.id, 0, 0, r.t1, r.n1, [], false, []⟩
 else if r.kind = 4 then ⟨r.kind, r.id, 0, 0, if r.yes then r.t1 else 0, if r.yes then r.n1 else 0, [], r.yes, r.parts⟩
 else ⟨r.kind, r.id, 0, 0, 0, 0, [], false, []⟩
def QH (r : Rc) : Ent := ⟨r.id, r.t0, r.n0, r.t1, r.n1, r.ws⟩
def Dv (r : Rc) : Bool := decide (r = CJ r) &&
 (if r.kind = 1 then Ez (QH r)
  else if r.kind = 2 then decide (1 ≤ r.id) && Ce r.t1
  else if r.kind = 3 then decide (1 ≤ r.id)
  else if r.kind = 4 then decide (1 ≤ r.id) && Ce r.t1 && (ES (-1) r.parts && decide (1 ≤ r.parts.length))
  else if r.kind = 5 then decide (r.id = 0) && Ce r.t1 && decide (r.n1 = 0)
  else false)
theorem EQ : ∀ {seen : List Ky} {ws : List Wr}, DF seen ws = true → (∀ w ∈ ws, Iw w.key.l = true ∧ w.key ∉ seen ∧ w.val.size ≤ 200 ∧ (w.gone = true → w.val.size = 0)) ∧ (ws.map (·.key)).Nodup
 | _, [], _ => by simp
 | seen, w :: r, h => by
   simp only [DF, Bool.and_eq_true, Bool.not_eq_true', decide_eq_false_iff_not, decide_eq_true_eq, Bool.or_eq_true] at h
   obtain ⟨⟨⟨⟨h1, h2⟩, h3⟩, h4⟩, h5⟩ := h
   obtain ⟨i1, i2⟩ := EQ h5
   refine ⟨fun x hx => ?_, ?_⟩
   · rcases List.mem_cons.1 hx with rfl | hx
     · refine ⟨h1, h2, h3, fun hg => ?_⟩
       rcases h4 with h4 | h4
       · rw [hg] at h4; cases h4
       · exact h4
     · have := i1 x hx
       exact ⟨this.1, fun e => this.2.1 (List.mem_append.2 (.inl e)), this.2.2⟩
   · rw [List.map_cons, List.nodup_cons]
     refine ⟨fun e => ?_, i2⟩
     obtain ⟨x, hx, e⟩ := List.mem_map.1 e
     exact (i1 x hx).2.1 (by rw [e]; simp)
end Go.Proofs.YtchfmgbjddopoaaGreatDoor.Plain
