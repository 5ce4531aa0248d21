import Derived.Lib.SlicesCompact
import Derived.Laws.StructEq
import Derived.DeepKeys
import Derived.Shelf.SlicesE.Equal
import Derived.Shelf.SlicesQ.Load
import Derived.Test.YtchfmgbjddopoaaGreatDoorM03
import Derived.Test.YtchfmgbjddopoaaGreatDoorM06
import Derived.Test.YtchfmgbjddopoaaGreatDoorM10
set_option linter.unusedVariables false
set_option linter.unusedSimpArgs false
set_option maxHeartbeats 6400000
set_option maxRecDepth 100000
namespace Go.Proofs.YtchfmgbjddopoaaGreatDoor.Plain
structure Ver where
 t : Int
 n : Int
 val : ByteArray
 gone : Bool
structure St where
 chains : List (Ky × List Ver)
 tab : List (Int × Ent)
 held : List (Ky × Int)
 over : List (Int × Int)
def St.none : St := ⟨[], [], [], []⟩
abbrev Chs := List (Ky × List Ver)
def FT (w : Wr) (t n : Int) : Ver := ⟨t, n, w.val, w.gone⟩
def chainOf (k : Ky) (cs : Chs) : List Ver := (look k cs).getD []
def AX (s : St) (id : Int) : Int :=
 match look id s.over with
 | some x => x
 | .none => match look id s.tab with
   | some _ => 1
   | .none => 0
def Gi (h : List (Ky × Int)) (ws : List Wr) : Bool := ws.any fun w => (look w.key h).isSome
def FP (cs : Chs) (t n : Int) (w : Wr) : Bool :=
 match (chainOf w.key cs).getLast? with
 | some v => decide (ltS t n v.t v.n)
 | .none => false
def CP (s : St) (e : Ent) : Bool := Gi s.held e.ws || e.ws.any (FP s.chains e.t0 e.n0)
def ltL : List Int → List Int → Bool
 | [], [] => false
 | [], _ :: _ => true
 | _ :: _, [] => false
 | a :: l, b :: r => if a < b then true else if b < a then false else ltL l r
def cmpK (a b : Ky) : Int := if ltL a.l b.l then -1 else if ltL b.l a.l then 1 else 0
def sortK (l : List Ky) : List Ky := l.mergeSort fun x y => !decide (cmpK y x < 0)
instance : Inhabited Ky := ⟨⟨List.replicate 16 0, by decide, fun x hx => by rw [List.eq_of_mem_replicate hx]; omega⟩⟩
def ET (l : List Ky) : Nat := (Lib.compactUpTo (sortK l).toArray (sortK l).length).length
def DL (cs : Chs) (ws : List Wr) : Bool := ws.all fun w => decide ((chainOf w.key cs).length < 50)
def Iu (s : St) (ws : List Wr) : Bool := DL s.chains ws && (decide (s.tab.length < 100) && decide (ET (s.chains.map (·.1) ++ s.held.map (·.1) ++ ws.map (·.key)) ≤ 200))
def QG (s : St) (e : Ent) : Int := if AX s e.id ≠ 0 then 10 else if CP s e then 9 else if Iu s e.ws then 0 else 6
def EF (h : List (Ky × Int)) (id : Int) (ws : List Wr) : List (Ky × Int) := ws.foldl (fun h w => CW w.key id h) h
def FM (h : List (Ky × Int)) (ws : List Wr) : List (Ky × Int) := ws.foldl (fun h w => FQ w.key h) h
def ZJ (s : St) (e : Ent) : St := { s with tab := s.tab ++ [(e.id, e)], held := EF s.held e.id e.ws }
def CU (s : St) (e : Ent) : Int × St := if QG s e = 0 then (0, ZJ s e) else (QG s e, s)
def AQ (s : St) (id t n : Int) : Int :=
 if AX s id = 0 then 4 else if AX s id = 3 then 10 else if AX s id = 2 then 0
 else match look id s.tab with
   | some e => if ltS t n e.t1 e.n1 then 1 else 0
   | .none => 0
def Pe (s : St) (id : Int) : List Wr :=
 match look id s.tab with
 | some e => e.ws
 | .none => []
def Gj (s : St) (id : Int) : St := { s with held := FM s.held (Pe s id), tab := FQ id s.tab }
def Ea (cs : Chs) (ws : List Wr) : Bool := DL cs ws && decide (cs.length + (ws.filter fun w => (look w.key cs).isNone).length ≤ 200)
def CX (cs : Chs) (t n : Int) (ws : List Wr) : Chs := ws.foldl (fun cs w => CW w.key (chainOf w.key cs ++ [FT w t n]) cs) cs
def Dw (s : St) (id t n : Int) : Int × St :=
 if AQ s id t n ≠ 0 ∨ AX s id = 2 then (AQ s id t n, s)
 else if Ea s.chains (Pe s id) then (0, { Gj s id with over := CW id 2 s.over, chains := CX s.chains t n (Pe s id) })
 else (6, { Gj s id with over := CW id 2 s.over })
def DX (s : St) (id : Int) : Int × St := if AX s id = 2 then (10, s) else (0, { Gj s id with over := CW id 3 s.over })
def EJ (s : St) (r : Rc) : Int × St :=
 if r.kind = 1 then CU s (QH r) else if r.kind = 2 then Dw s r.id r.t1 r.n1 else if r.kind = 3 then DX s r.id else (0, s)
structure Uc (e : Ent) : Prop where
 good : Ez e = true
 n0 : 0 ≤ e.n0 ∧ e.n0 < 256
 n1 : 0 ≤ e.n1 ∧ e.n1 < 256
 id : e.id < 9223372036854775808
structure Nw (v : Ver) : Prop where
 t : Ce v.t = true
 n : 0 ≤ v.n ∧ v.n < 256
 val : v.val.size ≤ 200
 gone : v.gone = true → v.val.size = 0
structure Vt (vs : List Ver) : Prop where
 up : vs.Pairwise fun a b => ltS a.t a.n b.t b.n
 each : ∀ v ∈ vs, Nw v
 few : vs.length ≤ 50
structure Inv (s : St) (N : Nat) : Prop where
 cu : Uniq s.chains
 cs : ∀ p ∈ s.chains, Vt p.2
 tu : Uniq s.tab
 te : ∀ p ∈ s.tab, p.2.id = p.1 ∧ Uc p.2
 th : ∀ p ∈ s.tab, ∀ w ∈ p.2.ws, look w.key s.held = some p.1
 tc : ∀ p ∈ s.tab, ∀ w ∈ p.2.ws, ∀ v ∈ chainOf w.key s.chains, ¬ ltS p.2.t0 p.2.n0 v.t v.n
 hu : Uniq s.held
 n1 : s.tab.length ≤ N
 n2 : s.held.length ≤ N
 n3 : s.chains.length ≤ N
 ov : ∀ p ∈ s.over, p.2 = 2 ∨ p.2 = 3
theorem Wi : Inv St.none 0 := ⟨List.nodup_nil, by simp [St.none], List.nodup_nil, by simp [St.none], by simp [St.none], by simp [St.none], List.nodup_nil, by simp [St.none], by simp [St.none], by simp [St.none], by simp [St.none]⟩
theorem Inv.mono {s : St} {N M : Nat} (h : Inv s N) (hm : N ≤ M) : Inv s M := ⟨h.cu, h.cs, h.tu, h.te, h.th, h.tc, h.hu, Nat.le_trans h.n1 hm, Nat.le_trans h.n2 hm, Nat.le_trans h.n3 hm, h.ov⟩
theorem RD : Vt [] := ⟨List.Pairwise.nil, by simp, by simp⟩
theorem Inv.chain {s : St} {N : Nat} (h : Inv s N) (k : Ky) : Vt (chainOf k s.chains) := by
 unfold chainOf
 cases h1 : look k s.chains with
 | none => exact RD
 | some vs => exact h.cs _ (Bv h1)
theorem NZ {id : Int} : ∀ {ws : List Wr} {h : List (Ky × Int)}, ∀ w ∈ ws, look w.key (EF h id ws) = some id
 | [], _, w, hw => by simp at hw
 | x :: r, h, w, hw => by
   show look w.key (EF (CW x.key id h) id r) = _
   by_cases hm : ∃ y ∈ r, y.key = w.key
   · obtain ⟨y, hy, e⟩ := hm
     rw [← e]
     exact NZ y hy
   · have : ∀ {r : List Wr} {g : List (Ky × Int)}, (∀ y ∈ r, y.key ≠ w.key) → look w.key (EF g id r) = look w.key g := by
       intro r
       induction r with
       | nil => intro g _; rfl
       | cons y r ih =>
         intro g hy
         show look w.key (EF (CW y.key id g) id r) = _
         rw [ih (fun z hz => hy z (by simp [hz])), Eg _ (Ne.symm (hy y (by simp)))]
     rw [this (fun y hy e => hm ⟨y, hy, e⟩)]
     rcases List.mem_cons.1 hw with rfl | hw
     · exact LU _ _ _
     · exact absurd ⟨w, hw, rfl⟩ hm
theorem KN {id : Int} {k : Ky} : ∀ {ws : List Wr} {h : List (Ky × Int)}, (∀ w ∈ ws, w.key ≠ k) → look k (EF h id ws) = look k h
 | [], _, _ => rfl
 | x :: r, h, hw => by
   show look k (EF (CW x.key id h) id r) = _
   rw [KN (fun w hw' => hw w (by simp [hw'])), Eg _ (Ne.symm (hw x (by simp)))]
theorem NY {id : Int} : ∀ {ws : List Wr} {h : List (Ky × Int)}, Uniq h → Uniq (EF h id ws)
 | [], _, h => h
 | _ :: r, _, h => NY (ws := r) h.put
theorem JD {id : Int} : ∀ {ws : List Wr} {h : List (Ky × Int)}, (EF h id ws).length ≤ h.length + ws.length
 | [], _ => by simp [EF]
 | x :: r, h => by
   have h1 := JD (id := id) (ws := r) (h := CW x.key id h)
   have h2 := (Kt x.key id h).1
   show (EF (CW x.key id h) id r).length ≤ _
   rw [List.length_cons]
   omega
theorem KP {k : Ky} : ∀ {ws : List Wr} {h : List (Ky × Int)}, (∀ w ∈ ws, w.key ≠ k) → look k (FM h ws) = look k h
 | [], _, _ => rfl
 | x :: r, h, hw => by
   show look k (FM (FQ x.key h) r) = _
   rw [KP (fun w hw' => hw w (by simp [hw'])), JC (Ne.symm (hw x (by simp)))]
theorem N9 : ∀ {ws : List Wr} {h : List (Ky × Int)}, Uniq h → Uniq (FM h ws)
 | [], _, h => h
 | _ :: r, _, h => N9 (ws := r) h.del
theorem JF : ∀ {ws : List Wr} {h : List (Ky × Int)}, (FM h ws).length ≤ h.length
 | [], _ => Nat.le_refl _
 | x :: r, h => Nat.le_trans (JF (ws := r)) (KW x.key h)
theorem BL {e : Ent} (h : Ez e = true) : 1 ≤ e.id ∧ Ce e.t0 = true ∧ (1 ≤ e.ws.length ∧ e.ws.length ≤ 16) ∧ DF [] e.ws = true ∧ Ce e.t1 = true ∧ ltS e.t0 e.n0 e.t1 e.n1 := by
 simp only [Ez, TY, NE, Bool.and_eq_true, decide_eq_true_eq] at h
 exact ⟨h.1.1.1.1.1, h.1.1.1.1.2, h.1.1.1.2, h.1.1.2, h.1.2, h.2⟩
theorem Tm {vs : List Ver} (h : vs.Pairwise fun a b => ltS a.t a.n b.t b.n) {v l : Ver} (hv : v ∈ vs) (hl : vs.getLast? = some l) : v = l ∨ ltS v.t v.n l.t l.n := by
 obtain ⟨ys, e⟩ := List.getLast?_eq_some_iff.1 hl
 subst e
 rcases List.mem_append.1 hv with h1 | h1
 · exact .inr ((List.pairwise_append.1 h).2.2 v h1 l (by simp))
 · exact .inl (by simpa using h1)
theorem Inv.WT {s : St} {N : Nat} (h : Inv s N) {id : Int} (h0 : AX s id = 0) : look id s.over = .none ∧ look id s.tab = .none := by
 unfold AX at h0
 cases h3 : look id s.over with
 | some x =>
   rw [h3] at h0
   have := h.ov _ (Bv h3)
   simp at h0 this
   omega
 | none =>
   rw [h3] at h0
   cases h4 : look id s.tab with
   | none => exact ⟨rfl, rfl⟩
   | some y => rw [h4] at h0; simp at h0
theorem Inv.WS {s : St} {N : Nat} (h : Inv s N) {id : Int} (h0 : AX s id ≠ 0) (h2 : AX s id ≠ 2) (h3 : AX s id ≠ 3) : look id s.over = .none ∧ ∃ e, look id s.tab = some e := by
 unfold AX at h0 h2 h3
 cases h5 : look id s.over with
 | some x =>
   rw [h5] at h2 h3
   have := h.ov _ (Bv h5)
   simp at h2 h3 this
   omega
 | none =>
   rw [h5] at h0
   cases h4 : look id s.tab with
   | none => rw [h4] at h0; simp at h0
   | some y => exact ⟨rfl, y, rfl⟩
theorem Inv.XM {s : St} {N : Nat} (h : Inv s N) {e : Ent} (he : Uc e) : Inv (CU s e).2 (N + 16) := by
 unfold CU
 by_cases hm : QG s e = 0
 case neg => rw [if_neg hm]; exact h.mono (by omega)
 rw [if_pos hm]
 unfold QG at hm
 have h1 : AX s e.id = 0 := by
   by_cases h1 : AX s e.id = 0
   · exact h1
   · rw [if_pos h1] at hm; omega
 rw [if_neg (by simpa using h1)] at hm
 have h2 : CP s e = false := by
   cases h2 : CP s e
   · rfl
   · rw [h2] at hm; simp at hm
 have hg := BL he.good
 have hlen := hg.2.2.1.2
 have hid := (h.WT h1).2
 unfold CP at h2
 rw [Bool.or_eq_false_iff] at h2
 have hheld : ∀ w ∈ e.ws, look w.key s.held = .none := fun w hw => by
   have := List.any_eq_false.1 h2.1 w hw
   simpa using this
 have hnew : ∀ w ∈ e.ws, ∀ v ∈ chainOf w.key s.chains, ¬ ltS e.t0 e.n0 v.t v.n := fun w hw v hv => by
   have hf := List.any_eq_false.1 h2.2 w hw
   unfold FP at hf
   cases hl : (chainOf w.key s.chains).getLast? with
   | none => rw [List.getLast?_eq_none_iff] at hl; rw [hl] at hv; simp at hv
   | some l =>
     rw [hl] at hf
     have hf' : ¬ ltS e.t0 e.n0 l.t l.n := by simpa using hf
     rcases Tm (h.chain w.key).up hv hl with rfl | hlt
     · exact hf'
     · unfold ltS at *; omega
 have hkeys : ∀ p ∈ s.tab, ∀ w ∈ p.2.ws, ∀ x ∈ e.ws, x.key ≠ w.key := fun p hp w hw x hx ex => by
   have a := h.th p hp w hw
   rw [← ex, hheld x hx] at a
   cases a
 refine ⟨h.cu, h.cs, ?_, ?_, ?_, ?_, NY h.hu, ?_, ?_, Nat.le_trans h.n3 (by omega), h.ov⟩
 · show (List.map (·.1) (s.tab ++ [(e.id, e)])).Nodup
   rw [← EW e hid]
   exact h.tu.put
 · intro p hp
   rcases List.mem_append.1 hp with hp | hp
   · exact h.te p hp
   · rw [List.mem_singleton] at hp; subst hp; exact ⟨rfl, he⟩
 · intro p hp w hw
   show look w.key (EF s.held e.id e.ws) = _
   rcases List.mem_append.1 hp with hp | hp
   · rw [KN (hkeys p hp w hw)]; exact h.th p hp w hw
   · rw [List.mem_singleton] at hp; subst hp; exact NZ w hw
 · intro p hp w hw v hv
   rcases List.mem_append.1 hp with hp | hp
   · exact h.tc p hp w hw v hv
   · rw [List.mem_singleton] at hp; subst hp; exact hnew w hw v hv
 · show (s.tab ++ [(e.id, e)]).length ≤ _
   have := h.n1
   simp
   omega
 · have := JD (id := e.id) (ws := e.ws) (h := s.held)
   have := h.n2
   show (EF s.held e.id e.ws).length ≤ _
   omega
theorem Inv.drop {s : St} {N : Nat} (h : Inv s N) (id : Int) {ov : List (Int × Int)} (hov : ∀ p ∈ ov, p.2 = 2 ∨ p.2 = 3) : Inv { Gj s id with over := ov } N := by
 refine ⟨h.cu, h.cs, h.tu.del, fun p hp => h.te p (List.mem_filter.1 hp).1, ?_, fun p hp => h.tc p (List.mem_filter.1 hp).1, N9 h.hu, Nat.le_trans (KW _ _) h.n1, Nat.le_trans JF h.n2, h.n3, hov⟩
 intro p hp w hw
 have hm := List.mem_filter.1 hp
 have hne : p.1 ≠ id := by simpa using hm.2
 show look w.key (FM s.held (Pe s id)) = _
 rw [KP]
 · exact h.th p hm.1 w hw
 · intro x hx ex
   unfold Pe at hx
   cases h4 : look id s.tab with
   | none => rw [h4] at hx; simp at hx
   | some e =>
     rw [h4] at hx
     have a := h.th _ (Bv h4) x hx
     have b := h.th p hm.1 w hw
     rw [ex, b] at a
     exact hne (Option.some.inj a)
theorem apply_other {k : Ky} {t n : Int} : ∀ {ws : List Wr} {cs : Chs}, (∀ w ∈ ws, w.key ≠ k) → look k (CX cs t n ws) = look k cs
 | [], _, _ => rfl
 | x :: r, cs, hw => by
   show look k (CX (CW x.key (chainOf x.key cs ++ [FT x t n]) cs) t n r) = _
   rw [apply_other (fun w hw' => hw w (by simp [hw'])), Eg _ (Ne.symm (hw x (by simp)))]
theorem LZ {t n : Int} (ht : Ce t = true) (hn : 0 ≤ n ∧ n < 256) : ∀ {ws : List Wr} {cs : Chs}, (ws.map (·.key)).Nodup → (∀ w ∈ ws, w.val.size ≤ 200 ∧ (w.gone = true → w.val.size = 0)) → (∀ w ∈ ws, (chainOf w.key cs).length < 50 ∧ ∀ v ∈ chainOf w.key cs, ltS v.t v.n t n) →
   (Uniq cs ∧ ∀ p ∈ cs, Vt p.2) → (Uniq (CX cs t n ws) ∧ ∀ p ∈ CX cs t n ws, Vt p.2) ∧ (CX cs t n ws).length ≤ cs.length + ws.length
 | [], cs, _, _, _, h => ⟨h, by simp [CX]⟩
 | x :: r, cs, hd, hw, hc, h => by
   rw [List.map_cons, List.nodup_cons] at hd
   have hx := hc x (by simp)
   have wx := hw x (by simp)
   have ok0 : Vt (chainOf x.key cs) := by
     unfold chainOf
     cases h1 : look x.key cs with
     | none => exact RD
     | some vs => exact h.2 _ (Bv h1)
   have ok1 : Vt (chainOf x.key cs ++ [FT x t n]) := by
     refine ⟨List.pairwise_append.2 ⟨ok0.up, by simp, fun a ha b hb => ?_⟩, fun v hv => ?_, by rw [List.length_append]; simp; omega⟩
     · rw [List.mem_singleton] at hb; subst hb; exact hx.2 a ha
     · rcases List.mem_append.1 hv with hv | hv
       · exact ok0.each v hv
       · rw [List.mem_singleton] at hv; subst hv; exact ⟨ht, hn, wx.1, wx.2⟩
   have := LZ ht hn (ws := r) (cs := CW x.key (chainOf x.key cs ++ [FT x t n]) cs) hd.2 (fun w hw' => hw w (by simp [hw'])) (fun w hw' => by
       have hne : w.key ≠ x.key := fun e => hd.1 (List.mem_map.2 ⟨w, hw', e⟩)
       have := hc w (by simp [hw'])
       unfold chainOf at this ⊢
       rwa [Eg _ hne]) ⟨h.1.put, fun p hp => by
         rcases IY hp with hp | hp
         · exact h.2 p hp
         · rw [hp]; exact ok1⟩
   refine ⟨this.1, ?_⟩
   have q := (Kt x.key (chainOf x.key cs ++ [FT x t n]) cs).1
   show (CX (CW x.key (chainOf x.key cs ++ [FT x t n]) cs) t n r).length ≤ _
   rw [List.length_cons]
   omega
theorem Fz {cs : Chs} {ws : List Wr} (h : DL cs ws = true) : ∀ w ∈ ws, (chainOf w.key cs).length < 50 := fun w hw => by
 have := List.all_eq_true.1 h w hw
 simpa using this
theorem Inv.may {s : St} {N : Nat} (h : Inv s N) {id t n : Int} (hc : ¬ (AQ s id t n ≠ 0 ∨ AX s id = 2)) : ∃ e, look id s.tab = some e ∧ look id s.over = .none ∧ Pe s id = e.ws ∧ Uc e ∧ e.id = id ∧ ¬ ltS t n e.t1 e.n1 ∧ ∀ w ∈ e.ws, ∀ v ∈ chainOf w.key s.chains, ltS v.t v.n t n := by
 have h1 : AQ s id t n = 0 := by
   by_cases h1 : AQ s id t n = 0
   · exact h1
   · exact absurd (.inl h1) hc
 have h2 : AX s id ≠ 2 := fun e => hc (.inr e)
 unfold AQ at h1
 have h0 : AX s id ≠ 0 := fun e => by rw [if_pos e] at h1; omega
 rw [if_neg h0] at h1
 have h3 : AX s id ≠ 3 := fun e => by rw [if_pos e] at h1; omega
 rw [if_neg h3, if_neg h2] at h1
 obtain ⟨ho, e, he⟩ := h.WS h0 h2 h3
 rw [he] at h1
 have hlt : ¬ ltS t n e.t1 e.n1 := fun hl => by simp [hl] at h1
 have hm := Bv he
 have hte := h.te _ hm
 refine ⟨e, he, ho, by unfold Pe; rw [he], hte.2, hte.1, hlt, fun w hw v hv => ?_⟩
 have q1 := h.tc _ hm w hw v hv
 have q2 := (BL hte.2.good).2.2.2.2.2
 simp only [ltS] at *
 omega
theorem Inv.Zy {s : St} {N : Nat} (h : Inv s N) {id t n : Int} (ht : Ce t = true) (hn : 0 ≤ n ∧ n < 256) : Inv (Dw s id t n).2 (N + 16) := by
 unfold Dw
 by_cases hc : AQ s id t n ≠ 0 ∨ AX s id = 2
 case pos => rw [if_pos hc]; exact h.mono (by omega)
 rw [if_neg hc]
 have hov : ∀ p ∈ CW id 2 s.over, p.2 = 2 ∨ p.2 = 3 := fun p hp => by
   rcases IY hp with hp | hp
   · exact h.ov p hp
   · rw [hp]; exact .inl rfl
 have hd := h.drop id hov
 obtain ⟨e, he, _, hws, hok, hid, _, hold⟩ := h.may hc
 rw [hws]
 cases hr : Ea s.chains e.ws
 case false => exact hd.mono (by omega)
 rw [Ea, Bool.and_eq_true] at hr
 have hg := BL hok.good
 have hgw := EQ hg.2.2.2.1
 have ha := LZ (cs := s.chains) ht hn hgw.2 (fun w hw => (hgw.1 w hw).2.2) (fun w hw => ⟨Fz hr.1 w hw, hold w hw⟩) ⟨h.cu, h.cs⟩
 refine ⟨ha.1.1, ha.1.2, hd.tu, hd.te, hd.th, ?_, hd.hu, Nat.le_trans hd.n1 (by omega), Nat.le_trans hd.n2 (by omega), ?_, hov⟩
 · intro p hp w hw v hv
   have hm := List.mem_filter.1 hp
   have hne : p.1 ≠ id := by simpa using hm.2
   refine h.tc p hm.1 w hw v ?_
   have : ∀ x ∈ e.ws, x.key ≠ w.key := fun x hx ex => by
     have a := h.th _ (Bv he) x hx
     have b := h.th p hm.1 w hw
     rw [ex, b] at a
     exact hne (Option.some.inj a)
   have hv : v ∈ (look w.key (CX s.chains t n e.ws)).getD [] := hv
   unfold chainOf
   rwa [apply_other this] at hv
 · have := h.n3
   have := hg.2.2.1.2
   show (CX s.chains t n e.ws).length ≤ _
   omega
theorem Inv.Xan {s : St} {N : Nat} (h : Inv s N) (id : Int) : Inv (DX s id).2 (N + 16) := by
 unfold DX
 split
 · exact h.mono (by omega)
 · refine Inv.mono (h.drop id fun p hp => ?_) (by omega)
   rcases IY hp with hp | hp
   · exact h.ov p hp
   · rw [hp]; exact .inr rfl
structure WO (r : Rc) : Prop where
 n0 : 0 ≤ r.n0 ∧ r.n0 < 256
 n1 : 0 ≤ r.n1 ∧ r.n1 < 256
 id : r.id < 9223372036854775808
theorem Ji {r : Rc} (h : Dv r = true) (hk : r.kind = 1) : Ez (QH r) = true := by
 unfold Dv at h
 rw [if_pos hk, Bool.and_eq_true] at h
 exact h.2
theorem Rx {r : Rc} (h : Dv r = true) (hk : r.kind = 2) : 1 ≤ r.id ∧ Ce r.t1 = true := by
 unfold Dv at h
 rw [if_neg (by omega), if_pos hk, Bool.and_eq_true, Bool.and_eq_true] at h
 exact ⟨by simpa using h.2.1, h.2.2⟩
theorem Inv.play {s : St} {N : Nat} (h : Inv s N) {r : Rc} (ho : WO r) (hg : Dv r = true) : Inv (EJ s r).2 (N + 16) := by
 unfold EJ
 split
 · rename_i hk
   exact h.XM ⟨Ji hg hk, ho.n0, ho.n1, ho.id⟩
 · split
   · rename_i hk
     exact h.Zy (Rx hg hk).2 ho.n1
   · split
     · exact h.Xan _
     · exact h.mono (by omega)
theorem KO {r : Rc} (h : Dv r = true) : r = CJ r := by
 unfold Dv at h
 rw [Bool.and_eq_true] at h
 simpa using h.1
theorem JE : ∀ {last : Int} {l : List Int}, ES last l = true → ∀ p ∈ l, last < p ∧ p < 8
 | _, [], _, p, hp => by simp at hp
 | last, q :: r, h, p, hp => by
   simp only [ES, Bool.and_eq_true, decide_eq_true_eq] at h
   rcases List.mem_cons.1 hp with rfl | hp
   · exact h.1
   · have := JE h.2 p hp
     omega
theorem Eh : Dk 0 := by unfold Dk; omega
theorem Qs {r : Rc} (h : Dv r = true) (ho : WO r) (hw : r.ws.length ≤ 16) (hp : r.parts.length ≤ 8) : Fit r := by
 have h0 := KO h
 have h1 := h
 unfold Dv at h1
 rw [Bool.and_eq_true] at h1
 replace h1 := h1.2
 by_cases k1 : r.kind = 1
 · rw [if_pos k1] at h1
   have g := BL h1
   have gw := (EQ g.2.2.2.1).1
   have e : r.parts = [] := by rw [h0, CJ, if_pos k1]
   exact ⟨by omega, ⟨by have := g.1; unfold QH at this; simp at this; omega, ho.id⟩, ⟨EH.1 g.2.1, ho.n0⟩, ⟨EH.1 g.2.2.2.2.1, ho.n1⟩, hw, fun w hw' => (gw w hw').2.2.1, hp, by rw [e]; simp⟩
 rw [if_neg k1] at h1
 by_cases k2 : r.kind = 2
 · rw [if_pos k2] at h1
   simp only [Bool.and_eq_true, decide_eq_true_eq] at h1
   have o : CJ r = ⟨r.kind, r.id, 0, 0, r.t1, r.n1, [], false, []⟩ := by rw [CJ, if_neg k1, if_pos (.inl k2)]
   rw [o] at h0
   have e1 : r.t0 = 0 := by rw [h0]
   have e2 : r.ws = [] := by rw [h0]
   have e3 : r.parts = [] := by rw [h0]
   exact ⟨by omega, ⟨by omega, ho.id⟩, ⟨e1 ▸ Eh, ho.n0⟩, ⟨EH.1 h1.2, ho.n1⟩, hw, by rw [e2]; simp, hp, by rw [e3]; simp⟩
 rw [if_neg k2] at h1
 by_cases k3 : r.kind = 3
 · rw [if_pos k3, decide_eq_true_eq] at h1
   have o : CJ r = ⟨r.kind, r.id, 0, 0, 0, 0, [], false, []⟩ := by rw [CJ, if_neg k1, if_neg (by omega), if_neg (by omega)]
   rw [o] at h0
   have e1 : r.t0 = 0 := by rw [h0]
   have e2 : r.ws = [] := by rw [h0]
   have e3 : r.parts = [] := by rw [h0]
   have e4 : r.t1 = 0 := by rw [h0]
   exact ⟨by omega, ⟨by omega, ho.id⟩, ⟨e1 ▸ Eh, ho.n0⟩, ⟨e4 ▸ Eh, ho.n1⟩, hw, by rw [e2]; simp, hp, by rw [e3]; simp⟩
 rw [if_neg k3] at h1
 by_cases k4 : r.kind = 4
 · rw [if_pos k4] at h1
   simp only [Bool.and_eq_true, decide_eq_true_eq] at h1
   have o : CJ r = ⟨r.kind, r.id, 0, 0, if r.yes then r.t1 else 0, if r.yes then r.n1 else 0, [], r.yes, r.parts⟩ := by rw [CJ, if_neg k1, if_neg (by omega), if_pos k4]
   rw [o] at h0
   have e1 : r.t0 = 0 := by rw [h0]
   have e2 : r.ws = [] := by rw [h0]
   have gp := JE h1.2.1
   exact ⟨by omega, ⟨by omega, ho.id⟩, ⟨e1 ▸ Eh, ho.n0⟩, ⟨EH.1 h1.1.2, ho.n1⟩, hw, by rw [e2]; simp, hp, fun p hp' => by have := gp p hp'; omega⟩
 rw [if_neg k4] at h1
 by_cases k5 : r.kind = 5
 · rw [if_pos k5] at h1
   simp only [Bool.and_eq_true, decide_eq_true_eq] at h1
   have o : CJ r = ⟨r.kind, r.id, 0, 0, r.t1, r.n1, [], false, []⟩ := by rw [CJ, if_neg k1, if_pos (.inr k5)]
   rw [o] at h0
   have e1 : r.t0 = 0 := by rw [h0]
   have e2 : r.ws = [] := by rw [h0]
   have e3 : r.parts = [] := by rw [h0]
   exact ⟨by omega, ⟨by omega, ho.id⟩, ⟨e1 ▸ Eh, ho.n0⟩, ⟨EH.1 h1.1.2, ho.n1⟩, hw, by rw [e2]; simp, hp, by rw [e3]; simp⟩
 · rw [if_neg k5] at h1
   cases h1
theorem Hm : ∀ a : List Int, ltL a a = false
 | [] => rfl
 | a :: l => by unfold ltL; rw [if_neg (by omega), if_neg (by omega)]; exact Hm l
theorem Gt : ∀ a b c : List Int, ltL a b = true → ltL b c = true → ltL a c = true
 | [], [], c, h, _ => by simp [ltL] at h
 | [], _ :: _, [], _, h => by simp [ltL] at h
 | [], _ :: _, _ :: _, _, _ => rfl
 | _ :: _, [], _, h, _ => by simp [ltL] at h
 | _ :: _, _ :: _, [], _, h => by simp [ltL] at h
 | a :: l, b :: m, c :: n, h1, h2 => by
   unfold ltL at h1 h2 ⊢
   by_cases ab : a < b
   · by_cases bc : b < c
     · rw [if_pos (by omega)]
     · rw [if_neg bc] at h2
       by_cases cb : c < b
       · rw [if_pos cb] at h2; cases h2
       · rw [if_pos (by omega)]
   · rw [if_neg ab] at h1
     by_cases ba : b < a
     · rw [if_pos ba] at h1; cases h1
     · rw [if_neg ba] at h1
       have : a = b := by omega
       subst this
       by_cases bc : a < c
       · rw [if_pos bc]
       · rw [if_neg bc] at h2 ⊢
         by_cases cb : c < a
         · rw [if_pos cb] at h2; cases h2
         · rw [if_neg cb] at h2 ⊢
           exact Gt l m n h1 h2
theorem NV : ∀ a b : List Int, ltL a b = false → ltL b a = false → a = b
 | [], [], _, _ => rfl
 | [], _ :: _, h, _ => by simp [ltL] at h
 | _ :: _, [], _, h => by simp [ltL] at h
 | a :: l, b :: m, h1, h2 => by
   unfold ltL at h1 h2
   by_cases ab : a < b
   · rw [if_pos ab] at h1; cases h1
   · by_cases ba : b < a
     · rw [if_pos ba] at h2; cases h2
     · rw [if_neg ab, if_neg ba] at h1
       rw [if_neg ba, if_neg ab] at h2
       rw [show a = b by omega, NV l m h1 h2]
def ltK (a b : Ky) : Bool := ltL a.l b.l
theorem PG (a b : Ky) : decide (cmpK a b < 0) = ltK a b := by
 unfold cmpK ltK
 cases h : ltL a.l b.l
 · simp; split <;> omega
 · simp
theorem U8 {a b : Ky} (h : ltK a b = true) : ltK b a = false := by
 cases h2 : ltK b a
 · rfl
 · have := Gt _ _ _ h h2
   rw [Hm] at this
   cases this
theorem Jg {a b : Ky} (h : ltK a b = false) (h2 : ltK b a = false) : a = b := Ky.ext (NV _ _ h h2)
theorem KH (a b c : Ky) (h1 : ltK a b = false) (h2 : ltK b c = false) : ltK a c = false := by
 cases h : ltK a c
 · rfl
 ·
   cases h3 : ltK b a
   · have := Jg h1 h3
     subst this
     rw [h2] at h
     cases h
   · have := Gt _ _ _ h3 h
     rw [show ltL b.l c.l = ltK b c from rfl, h2] at this
     cases this
theorem VI (l : List Ky) : sortK l = l.mergeSort fun x y => !ltK y x := by
 unfold sortK
 congr 1
 funext x y
 rw [PG]
theorem le_trans (a b c : Ky) (h1 : (!ltK b a) = true) (h2 : (!ltK c b) = true) : (!ltK c a) = true := by
 simp only [Bool.not_eq_true'] at *
 exact KH c b a h2 h1
theorem le_total (a b : Ky) : ((!ltK b a) || (!ltK a b)) = true := by
 cases h : ltK b a
 · rfl
 · rw [U8 h]; rfl
theorem EI (l : List Ky) : (sortK l).Perm l := List.mergeSort_perm _ _
theorem QX (l : List Ky) : (sortK l).Pairwise fun x y => ltK y x = false := by
 rw [VI]
 have := List.pairwise_mergeSort (le := fun x y => !ltK y x) le_trans le_total l
 exact this.imp fun h => by simpa using h
theorem UL {l r : List Ky} (hp : l.Perm r) (hl : l.Pairwise fun x y => ltK y x = false) (hr : r.Pairwise fun x y => ltK y x = false) : l = r :=
 hp.eq_of_pairwise (fun _ _ _ _ h1 h2 => Jg h2 h1) hl hr
theorem D7 {l r : List Ky} (h : l.Perm r) : sortK l = sortK r := UL ((EI l).trans (h.trans (EI r).symm)) (QX l) (QX r)
theorem JY {l r : List Ky} (h : l.Perm r) : ET l = ET r := by unfold ET; rw [D7 h]
end Go.Proofs.YtchfmgbjddopoaaGreatDoor.Plain
namespace Go.Proofs.YtchfmgbjddopoaaGreatDoor.Hand
open Go.RowKit Go.Proofs.YtchfmgbjddopoaaGreatDoorW.PrintWords Go.Proofs.YtchfmgbjddopoaaGreatDoorW.PrintLast Go.Proofs.YtchfmgbjddopoaaGreatDoorW.PrintMore
open Plain (Ky Wr Rc Ver Ent St Bytes)
def AZ (k : Ky) : List Value := k.l.map (Value.int .u8)
def Dq (k : Ky) : Value := .agg (AZ k).toArray
def wrC (w : Wr) : List Value := AZ w.key ++ [.string w.val, .bool w.gone]
def En (v : Ver) : List Value := [.int .i64 v.t, .int .u8 v.n, .string v.val, .bool v.gone]
def Df (r : Rc) (wv pv : Value) : Array Value := #[.int .i64 r.kind, .int .i64 r.id, .int .i64 r.t0, .int .u8 r.n0, .int .i64 r.t1, .int .u8 r.n1, wv, .bool r.yes, pv]
def IG (e : Ent) (wv : Value) : Array Value := #[.int .i64 e.id, .int .i64 e.t0, .int .u8 e.n0, .int .i64 e.t1, .int .u8 e.n1, wv]
theorem Ai (k : Ky) : (AZ k).length = 16 := by unfold AZ; rw [List.length_map, k.ok.1]
theorem Bg (w : Wr) : (wrC w).length = 18 := by unfold wrC; rw [List.length_append, Ai]; rfl
theorem BZ (v : Ver) : (En v).length = 4 := rfl
theorem Di (k : Ky) : ∀ u ∈ AZ k, u.oneCell' = true := fun u hu => by
 obtain ⟨x, _, rfl⟩ := List.mem_map.1 hu
 rfl
theorem Pi (w : Wr) : ∀ u ∈ wrC w, u.oneCell' = true := fun u hu => by
 rcases List.mem_append.1 hu with h | h
 · exact Di _ u h
 · simp at h
   rcases h with rfl | rfl <;> rfl
theorem LH (v : Ver) : ∀ u ∈ En v, u.oneCell' = true := fun u hu => by
 simp [En] at hu
 rcases hu with rfl | rfl | rfl | rfl <;> rfl
instance : Inhabited Wr := ⟨⟨default, ⟨#[]⟩, false⟩⟩
instance : Inhabited Ver := ⟨⟨0, 0, ⟨#[]⟩, false⟩⟩
theorem Ut (w : World) (l : List Int) (i : Nat) (hi : i < l.length) : (part 5 (l.map (Value.int .u8)).toArray (i * 1)).run Tryz.prog w = .ok (.int .u8 (l.getD i 0)) w := by
 refine run_part_plain w (by kernel_rfl) ?_
 simp [List.getElem?_map, List.getElem?_eq_getElem hi, List.getD_eq_getElem?_getD]
theorem KU (d : Nat) (a b : List Int) (w : World) : ∀ (is : List Nat), (∀ i ∈ is, i < a.length ∧ i < b.length) → (Op.eqItems (d + 1) 5 1 (a.map (Value.int .u8)).toArray (b.map (Value.int .u8)).toArray is).run Tryz.prog w = .ok (is.all fun i => a.getD i 0 == b.getD i 0) w
 | [], _ => by simp [Op.eqItems]
 | i :: is, h => by
   have hi := h i (by simp)
   have ih := KU d a b w is (fun j hj => h j (by simp [hj]))
   simp only [Op.eqItems, Sem.run_bind, Ut w a i hi.1, Ut w b i hi.2, Result.andThen_ok, run_equalIn_int w d 5 .u8 .u8 _ _ Tryz.underlying5, List.all_cons]
   cases h2 : (a.getD i 0 == b.getD i 0)
   · simp
   · simpa using ih
theorem Vr (a b : List Int) (n : Nat) (h : a.length = n) (h' : b.length = n) : ((List.range n).all fun i => a.getD i 0 == b.getD i 0) = decide (a = b) := by
 rw [Bool.eq_iff_iff]
 simp only [List.all_eq_true, List.mem_range, beq_iff_eq, decide_eq_true_eq]
 constructor
 · intro hi
   refine List.ext_getElem (by omega) fun i h1 h2 => ?_
   have := hi i (by omega)
   rwa [List.getD_eq_getElem?_getD, List.getD_eq_getElem?_getD, List.getElem?_eq_getElem h1, List.getElem?_eq_getElem h2] at this
 · rintro rfl i _
   rfl
theorem KJ (a b : Ky) : decide (a.l = b.l) = decide (a = b) := by
 rw [Bool.eq_iff_iff]
 simp only [decide_eq_true_eq]
 exact ⟨Ky.ext, fun h => by rw [h]⟩
theorem Jq (d : Nat) (a b : Ky) (w : World) : (Op.equalIn (d + 2) 103 (Dq a) (Dq b)).run Tryz.prog w = .ok (decide (a = b)) w := by
 obtain ⟨i, hi, hs⟩ : ∃ i, Tryz.prog.info? 5 = some i ∧ i.size = 1 := by
   have : (Tryz.prog.info? 5).map (·.size) = some 1 := by kernel_rfl
   cases h : Tryz.prog.info? 5 with
   | none => rw [h] at this; cases this
   | some i => rw [h] at this; exact ⟨i, rfl, by simpa using this⟩
 unfold Dq
 rw [show d + 2 = (d + 1) + 1 from rfl, run_equalIn_array w (d + 1) _ _ Tryz.underlying103 hi, show Tryz.prog.cellsOf 5 = 1 from by kernel_rfl]
 have := KU d a.l b.l w (List.range 16) (fun i hi => by rw [a.ok.1, b.ok.1]; simpa using hi)
 rw [Vr a.l b.l 16 a.ok.1 b.ok.1, KJ] at this
 exact this
theorem UE (a b : Ky) (w : World) : (binOp .eql 103 (Dq a) (Dq b)).run Tryz.prog w = .ok (.bool (decide (a = b))) w := by
 have h := Jq 9998 a b w
 unfold Dq at h ⊢
 rw [run_eql_struct, h]
 rfl
theorem Og (a b : ByteArray) : (a.toList == b.toList) = decide (a = b) := by
 rw [← beq_toListBytes, Bool.eq_iff_iff, MapKept.bytes_beq, decide_eq_true_eq]
theorem JH (d : Nat) (t n t' n' : Int) (w : World) : (Op.equalIn (d + 2) 32 (.agg #[.int .i64 t, .int .u8 n]) (.agg #[.int .i64 t', .int .u8 n'])).run Tryz.prog w = .ok (decide (t = t') && decide (n = n')) w := by
 have u2 := Tryz.underlying2
 have u5 := Tryz.underlying5
 have a2 := Tryz.isAgg2
 have a5 := Tryz.isAgg5
 have hS : Tryz.prog.underlying 32 = some (.struct (Tryz.prog.fieldsOf 32)) := by kernel_rfl
 have hp : Tryz.prog.stoodInHeld 32 = false := by kernel_rfl
 rw [show d + 2 = (d + 1) + 1 from rfl, run_equalIn_agg w (d + 1) 32 _ _ hS hp]
 simp only [Program.fieldsOf, Tryz.underlying32]
 go_simp
 by_cases h1 : t = t' <;> by_cases h2 : n = n' <;> simp [h1, h2]
theorem Jp (t n t' n' : Int) (w : World) : (binOp .eql 32 (.agg #[.int .i64 t, .int .u8 n]) (.agg #[.int .i64 t', .int .u8 n'])).run Tryz.prog w = .ok (.bool (decide (t = t') && decide (n = n'))) w := by
 rw [run_eql_struct, show (10000 : Nat) = 9998 + 2 from rfl, JH]
 rfl
theorem U2 (x : Wr) (w : World) : (part 103 (wrC x).toArray 0).run Tryz.prog w = .ok (Dq x.key) w := by
 unfold part
 simp only [Sem.run_bind, Tryz.isAgg103, Result.andThen_ok, if_true, Tryz.sizeOf103, Sem.run_pure]
 unfold Dq wrC
 congr 2
 simp [Ai]
theorem U1 (x : Wr) (w : World) : (part 9 (wrC x).toArray 16).run Tryz.prog w = .ok (.string x.val) w := by
 refine run_part_plain w (by kernel_rfl) ?_
 unfold wrC
 rw [List.getElem?_toArray, List.getElem?_append_right (by rw [Ai]; omega), Ai]
 rfl
theorem SH (x : Wr) (w : World) : (part 4 (wrC x).toArray 17).run Tryz.prog w = .ok (.bool x.gone) w := by
 refine run_part_plain w (by kernel_rfl) ?_
 unfold wrC
 rw [List.getElem?_toArray, List.getElem?_append_right (by rw [Ai]; omega), Ai]
 rfl
theorem UH (a b : Wr) : (decide (a.key = b.key) && decide (a.val = b.val) && (a.gone == b.gone)) = decide (a = b) := by
 obtain ⟨k, v, g⟩ := a
 obtain ⟨k', v', g'⟩ := b
 rw [Bool.eq_iff_iff]
 simp [and_assoc]
theorem Ws (d : Nat) (a b : Wr) (w : World) : (Op.equalIn (d + 3) 105 (.agg (wrC a).toArray) (.agg (wrC b).toArray)).run Tryz.prog w = .ok (decide (a = b)) w := by
 have hS : Tryz.prog.underlying 105 = some (.struct (Tryz.prog.fieldsOf 105)) := by kernel_rfl
 have hp : Tryz.prog.stoodInHeld 105 = false := by kernel_rfl
 rw [show d + 3 = (d + 2) + 1 from rfl, run_equalIn_agg w (d + 2) 105 _ _ hS hp]
 simp only [Program.fieldsOf, Tryz.underlying105]
 have e1 := run_equalIn_string w (d + 1) 9 a.val b.val Tryz.underlying9
 have e2 := run_equalIn_bool w (d + 1) 4 a.gone b.gone Tryz.underlying4
 rw [Og] at e1
 simp [Op.eqFields, Sem.run_bind, U2, U1, SH, Jq, e1, e2, ← UH]
 by_cases h1 : a.key = b.key <;> by_cases h2 : a.val = b.val <;> by_cases h3 : a.gone = b.gone <;> simp [h1, h2, h3]
theorem Zg : NeqAt Tryz.prog 105 (fun x => .agg (wrC x).toArray) (fun x y => decide (x = y)) := by
 refine ⟨fun x y w => ?_, GuardAt.agg _ (by kernel_rfl)⟩
 rw [run_neq_struct, show (10000 : Nat) = 9997 + 3 from rfl, Ws]
 rfl
deriving instance DecidableEq for Ver
theorem Vk (d : Nat) (a b : Ver) (w : World) : (Op.equalIn (d + 3) 116 (.agg (En a).toArray) (.agg (En b).toArray)).run Tryz.prog w = .ok (decide (a = b)) w := by
 have hS : Tryz.prog.underlying 116 = some (.struct (Tryz.prog.fieldsOf 116)) := by kernel_rfl
 have hp : Tryz.prog.stoodInHeld 116 = false := by kernel_rfl
 rw [show d + 3 = (d + 2) + 1 from rfl, run_equalIn_agg w (d + 2) 116 _ _ hS hp]
 simp only [Program.fieldsOf, Tryz.underlying116]
 have p0 : (part 32 (En a).toArray 0).run Tryz.prog w = .ok (.agg #[.int .i64 a.t, .int .u8 a.n]) w := by kernel_rfl
 have p1 : (part 32 (En b).toArray 0).run Tryz.prog w = .ok (.agg #[.int .i64 b.t, .int .u8 b.n]) w := by kernel_rfl
 have p2 : (part 9 (En a).toArray 2).run Tryz.prog w = .ok (.string a.val) w := by kernel_rfl
 have p3 : (part 9 (En b).toArray 2).run Tryz.prog w = .ok (.string b.val) w := by kernel_rfl
 have p4 : (part 4 (En a).toArray 3).run Tryz.prog w = .ok (.bool a.gone) w := by kernel_rfl
 have p5 : (part 4 (En b).toArray 3).run Tryz.prog w = .ok (.bool b.gone) w := by kernel_rfl
 have e1 := run_equalIn_string w (d + 1) 9 a.val b.val Tryz.underlying9
 have e2 := run_equalIn_bool w (d + 1) 4 a.gone b.gone Tryz.underlying4
 rw [Og] at e1
 simp [Op.eqFields, Sem.run_bind, p0, p1, p2, p3, p4, p5, JH, e1, e2]
 clear p0 p1 p2 p3 p4 p5 e1 e2
 obtain ⟨t, n, v, g⟩ := a
 obtain ⟨t', n', v', g'⟩ := b
 by_cases h1 : t = t' <;> by_cases h2 : n = n' <;> by_cases h3 : v = v' <;> by_cases h4 : g = g' <;> simp [h1, h2, h3, h4]
theorem XY : NeqAt Tryz.prog 116 (fun x => .agg (En x).toArray) (fun x y => decide (x = y)) := by
 refine ⟨fun x y w => ?_, GuardAt.agg _ (by kernel_rfl)⟩
 rw [run_neq_struct, show (10000 : Nat) = 9997 + 3 from rfl, Vk]
 rfl
theorem QL : NeqAt Tryz.prog 103 (fun x => .agg (AZ x).toArray) (fun x y => decide (x = y)) := by
 refine ⟨fun x y w => ?_, GuardAt.agg _ (by kernel_rfl)⟩
 have h := Jq 9998 x y w
 unfold Dq at h
 rw [run_neq_struct, h]
 rfl
theorem Gu {α : Type} [DecidableEq α] : ∀ (l r : List α), Lib.allEq (fun x y => decide (x = y)) l r = decide (l = r)
 | [], [] => by simp [Lib.allEq]
 | [], _ :: _ => by simp [Lib.allEq]
 | _ :: _, [] => by simp [Lib.allEq]
 | a :: l, b :: r => by
   simp only [Lib.allEq, Gu l r]
   rw [Bool.eq_iff_iff]
   simp
section
variable {α : Type} [Inhabited α]
def RowK (enc : α → List Value) (k : Nat) (w : World) (v : Value) (xs : List α) : Prop :=
 (∃ A c, v = .slice A 0 c ∧ xs = []) ∨ ∃ b o c, v = .slice (some ⟨b, o, none⟩) xs.length c ∧ xs.length ≤ c ∧ b < w.heap.size ∧ ∀ j, j < xs.length → ∀ i u, (enc xs[j]!)[i]? = some u → w.cell? ⟨b, o + j * k + i, none⟩ = some u
variable {enc : α → List Value} {k : Nat} {w w' : World} {v : Value} {xs : List α} {T : Nat → Prop}
theorem RowK.slice (h : RowK enc k w v xs) : ∃ A c, v = .slice A xs.length c := by
 rcases h with ⟨A, c, rfl, rfl⟩ | ⟨b, o, c, rfl, _⟩
 · exact ⟨A, c, rfl⟩
 · exact ⟨_, c, rfl⟩
theorem RowK.nil (enc : α → List Value) (k : Nat) (w : World) (A : Option Addr) (c : Nat) : RowK enc k w (.slice A 0 c) [] := .inl ⟨A, c, rfl, rfl⟩
theorem CQ {b : Nat} (h : w'.heap[b]? = w.heap[b]?) (o : Nat) : w'.cell? ⟨b, o, none⟩ = w.cell? ⟨b, o, none⟩ := by
 unfold World.cell?
 rw [h]
theorem RowK.of_block (h : RowK enc k w v xs) (hs : w.heap.size ≤ w'.heap.size) (hb : ∀ q, v.ownBlock = some q → q < w.heap.size → w'.heap[q]? = w.heap[q]?) : RowK enc k w' v xs := by
 rcases h with ⟨A, c, rfl, rfl⟩ | ⟨b, o, c, rfl, h1, h2, h3⟩
 · exact .inl ⟨A, c, rfl, rfl⟩
 · exact .inr ⟨b, o, c, rfl, h1, Nat.lt_of_lt_of_le h2 hs, fun j hj i u hu => by rw [CQ (hb b rfl h2)]; exact h3 j hj i u hu⟩
theorem RowK.below (h : RowK enc k w v xs) (f : Below w.heap.size w w') : RowK enc k w' v xs := h.of_block f.size fun q _ hq => f.block q hq
theorem RowK.fr (h : RowK enc k w v xs) (f : Fr T w w') (hT : ∀ q, T q → v.ownBlock ≠ some q) : RowK enc k w' v xs := h.of_block f.size fun q hv hq => f.block q hq fun ht => hT q ht hv
theorem RowK.at_ {A : Option Addr} {n c : Nat} (h : RowK enc k w (.slice A n c) xs) (hn : 0 < xs.length) : ∃ b o, A = some ⟨b, o, none⟩ ∧ n = xs.length ∧ n ≤ c ∧ b < w.heap.size ∧ ∀ j, j < xs.length → w.rangeAt b (o + j * k) (enc xs[j]!) := by
 rcases h with ⟨A, c, e, rfl⟩ | ⟨b, o, c, e, h1, h2, h3⟩
 · simp at hn
 · injection e with e1 e2 e3
   subst e1 e2 e3
   exact ⟨b, o, rfl, rfl, h1, h2, fun j hj i u hu => h3 j hj i u hu⟩
theorem RowK.own {base e n : Nat} (hk : ∀ x : α, (enc x).length = k) (h : w.ownsRow base e k v n (xs.flatMap enc)) (hn : n = xs.length) : RowK enc k w v xs := by
 subst hn
 rcases h.2 with ⟨rfl, h0⟩ | ⟨g, cap, cur, rfl, _, hh, hc, _, hs, ht⟩
 · exact .inl ⟨none, 0, rfl, List.eq_nil_of_length_eq_zero h0⟩
 · refine .inr ⟨g, 0, cap, rfl, hc, Ob.lt (show Ob w g _ from hh), fun j hj i u hu => ?_⟩
   have hi : i < k := by rw [← hk xs[j]!]; exact (List.getElem?_eq_some_iff.1 hu).1
   have key : ∀ (l : List α) (j : Nat), j < l.length → (l.flatMap enc)[j * k + i]? = (enc l[j]!)[i]? := by
     intro l
     induction l with
     | nil => intro j hj; simp at hj
     | cons x l ih =>
       intro j hj
       rw [List.flatMap_cons]
       rcases j with _ | j
       · rw [Nat.zero_mul, Nat.zero_add, List.getElem?_append_left (by rw [hk]; exact hi)]
         rfl
       · rw [List.getElem?_append_right (by rw [hk, Nat.add_mul]; omega), hk, show (j + 1) * k + i - k = j * k + i by rw [Nat.add_mul]; omega, ih j (by simpa using hj)]
         congr 1
   have h1 := (key xs j hj).trans hu
   rw [← ht, List.getElem?_take] at h1
   split at h1
   · rw [Nat.zero_add]
     exact Bk.cell (show Bk w g cur e from hh) (by rw [← h1, Array.getElem?_toList])
   · cases h1
end
abbrev Eo (w : World) (v : Value) (xs : List Wr) : Prop := RowK wrC 18 w v xs
abbrev WM (w : World) (v : Value) (xs : List Ver) : Prop := RowK En 4 w v xs
abbrev ZK (w : World) (v : Value) (xs : List Ky) : Prop := RowK AZ 16 w v xs
abbrev YD (p : Int) : List Value := [.int .i64 p]
abbrev YF (w : World) (v : Value) (xs : List Int) : Prop := RowK YD 1 w v xs
theorem NQ (cs : List Value) : ∀ (C : List Value) (j : Nat), j + cs.length ≤ C.length → over C.toArray j cs = (C.take j ++ cs ++ C.drop (j + cs.length)).toArray := by
 induction cs with
 | nil => intro C j h; simp [over]
 | cons v r ih =>
   intro C j h
   simp only [List.length_cons] at h
   unfold over
   rw [show C.toArray.setIfInBounds j v = (C.set j v).toArray by simp, ih _ _ (by simp; omega)]
   have e1 : (C.set j v).take (j + 1) = C.take j ++ [v] := by
     have e0 : (C.set j v)[j]? = some v := List.getElem?_set_self (by omega)
     rw [List.take_add_one, List.take_set_of_le (by omega), e0]
     rfl
   have e2 : (C.set j v).drop (j + 1 + r.length) = C.drop (j + (r.length + 1)) := by
     rw [List.drop_set_of_lt (by omega)]
     congr 1
     omega
   rw [e1, e2]
   simp
theorem VV (C cs : List Value) (h : cs.length = C.length) : over C.toArray 0 cs = cs.toArray := by
 rw [NQ cs C 0 (by omega)]
 simp [h]
theorem onW {R S : World → Prop} {W : World} (h : S W) (k : ∀ W', S W' → R W') : R W := k W h
theorem Ou {fn : Func} {p : Tmp} {ty : TypeId} (h : fn.results = #[.cell p ty]) (tmps : Array Value) (P : Program) (w : World) :
   (results fn tmps).run P w = ((asAddr (tmps.getD p undef)).run P w).andThen fun a w₁ => (loadVar ty a).run P w₁ := by
 simp only [results, h]
 simp [Sem.run_bind, Result.andThen]
theorem DY {P : Program} {a : Act} {W : World} {fn : Func} {p : Tmp} {ty : TypeId} (hr : fn.results = #[.cell p ty]) {b n : Nat} (hp : a.tmps.getD p undef = .pointer (some ⟨b, 0, none⟩)) {C : Array Value} {t : Nat} (hb : Bk W b C t)
   {d : TypeDesc} (hu : P.underlying ty = some d) (hd : d.isRow = true) (hi : (P.info? ty).map (·.size) = some n) (hn : C.size = n) (hdf : a.defers = []) {R : Ending → World → Prop}
   (hR : R (.returned (.agg C)) W) : bodyPost P fn R .ret a W := by
 refine bodyPost_ret ?_ hdf hR
 have h1 := run_loadVar_mid (P := P) W b 0 ty C.toList d (Bk.range hb 0 n (by rw [← hn]; simp)) hu hd (by rw [Array.length_toList, hn]; exact hi)
 rw [Ou hr, hp]
 simp [asAddr, Result.andThen, h1]
theorem Aq {C D : Array Value} (h : D.size = C.size) : over C 0 D.toList = D := by
 obtain ⟨c⟩ := C
 obtain ⟨d⟩ := D
 exact VV c d (by simpa using h)
theorem AU {C : Array Value} {n : Nat} (h : C.size = n) : (C.extract 0 (0 + n)).toList = C.toList := by
 subst h
 simp
theorem BM {P : Program} {ops : Array Oper} {rest : List Oper} {op : Oper} {a : Act} {W : World} {Q : Exit → Act → World → Prop} {N : Tmp} (_hN : op.dst = some N) (hgd : op.guard = none) {ty : TypeId} {x : Operand} (ho : op.op = .load ty x) {b o' : Nat} (hx : a.eval x = .pointer (some ⟨b, o', none⟩))
   {d : TypeDesc} (hu : P.underlying ty = some d) (hd : d.isRow = true) {cs : List Value} (hi : (P.info? ty).map (·.size) = some cs.length)
   (hr : W.rangeAt b o' cs) (h : wpList P ops Q rest (a.put op.dst (.agg cs.toArray)) W) : wpList P ops Q (op :: rest) a W :=
 wpList_load_mid hgd ty x ho b o' hx cs d hr hu hd hi h
end Go.Proofs.YtchfmgbjddopoaaGreatDoor.Hand
