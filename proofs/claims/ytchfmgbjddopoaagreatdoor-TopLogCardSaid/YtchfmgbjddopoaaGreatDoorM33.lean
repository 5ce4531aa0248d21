import Derived.OpenShut
import Derived.Deep.Slices
import Derived.Test.YtchfmgbjddopoaaGreatDoorM31
set_option linter.unusedVariables false
set_option linter.unusedSimpArgs false
set_option maxHeartbeats 6400000
set_option maxRecDepth 100000
namespace Go.Proofs.YtchfmgbjddopoaaGreatDoor.Hand
open Go.RowKit Go.ChangeShapes Go.Deep Go.Proofs.YtchfmgbjddopoaaGreatDoorW.PrintWords
open Plain (Ky Wr Rc Bytes WO)
theorem Jj {cs : List Value} {i : Nat} {v : Value} (h : (cs.drop i).take 1 = [v]) : cs[i]? = some v := by
 have := congrArg (fun l => l[0]?) h
 simpa using this
section
variable {H : Type} {enc : TypeId × Value → H} {w : World} {base : Nat} {held : Bool}
theorem Jf {α : Type} [Inhabited α] (en : α → List Value) (k : Nat) (Good : α → Prop) {t e : TypeId} (ht : Tryz.prog.underlying t = some (.slice e)) (hk : Tryz.prog.cellsOf e = k) (h0 : 0 < k)
   (each : ∀ {fuel : Nat} {cs : List Value} {x : DataW H × List MemPlace}, DataW.trod enc Tryz.prog w base (fun _ => true) held fuel e cs = some x → ∃ a, cs = en a ∧ Good a)
   {fuel : Nat} {cs : List Value} {x : DataW H × List MemPlace} (h : DataW.trod enc Tryz.prog w base (fun _ => true) held fuel t cs = some x) :
   ∃ A n c xs, cs = [.slice A n c] ∧ RowK en k w (.slice A n c) xs ∧ ∀ y ∈ xs, Good y := by
 rcases open_slice ht h with ⟨rfl, _⟩ | ⟨a, len, cap, m, n, D, Pl, rfl, hb, hl, hm, hmm, _, hx⟩
 · exact ⟨none, 0, 0, [], rfl, RowK.nil _ _ _ _ _, by simp⟩
 simp only [if_true] at hmm
 have hmm' := hmm.symm
 subst hmm'
 obtain ⟨f, hf⟩ := choose_lt (α := α) (n := len) (p := fun i y => w.cells? base (a.add (i * k)) k = some (en y) ∧ Good y) (fun i hi => by
   obtain ⟨cs', h1, h2⟩ := hx i (by omega)
   obtain ⟨y, rfl, hy⟩ := each h2
   rw [hk] at h1
   exact ⟨y, h1, hy⟩)
 refine ⟨some a, len, cap, (List.range len).map f, rfl, ?_, fun y hy => ?_⟩
 · by_cases h1 : len = 0
   · subst h1
     exact .inl ⟨_, _, rfl, rfl⟩
   · have cell : ∀ i, i < len → ∀ j, j < k → w.cell? ((a.add (i * k)).add j) = (en (f i))[j]? := fun i hi => (World.cells?_some (hf i hi).1).2.2
     have hlen : ∀ i, i < len → (en (f i)).length = k := fun i hi => (World.cells?_some (hf i hi).1).2.1
     have c0 := cell 0 (by omega) 0 h0
     obtain ⟨b, o, s⟩ := a
     simp only [Nat.zero_mul, Addr.add, if_true] at c0
     have hs : s = none := by
       rw [List.getElem?_eq_getElem (by rw [hlen 0 (by omega)]; exact h0)] at c0
       unfold World.cell? at c0
       split at c0
       · split at c0
         · cases c0
         · rename_i hn
           cases s with
           | none => rfl
           | some _ => simp at hn
       · cases c0
     subst hs
     have hbl : b < w.heap.size := by
       rw [List.getElem?_eq_getElem (by rw [hlen 0 (by omega)]; exact h0)] at c0
       unfold World.cell? at c0
       split at c0
       · rename_i hh
         exact (Array.getElem?_eq_some_iff.1 hh).1
       · cases c0
     refine .inr ⟨b, o, cap, ?_, ?_, hbl, fun j hj i u hu => ?_⟩
     · simp
     · simpa using hl
     · have hj' : j < len := by simpa using hj
       have e1 : ((List.range len).map f)[j]! = f j := by rw [getElem!_pos _ j hj]; simp
       rw [e1] at hu
       have hi : i < k := by rw [← hlen j hj']; exact (List.getElem?_eq_some_iff.1 hu).1
       have := (cell j hj' i hi).trans hu
       refine Eq.trans (congrArg _ ?_) this
       simp only [Addr.add]
       split <;> split <;> simp_all [Nat.add_assoc]
 · obtain ⟨i, hi, rfl⟩ := List.mem_map.1 hy
   exact (hf i (List.mem_range.1 hi)).2
theorem wf8 {n : Int} (h : (Lit.int .u8 n).wf = true) : 0 ≤ n ∧ n < 256 := by
 simp [Lit.wf, IntKind.min, IntKind.max, IntKind.bits, IntKind.signed] at h
 omega
theorem wf64 {n : Int} (h : (Lit.int .i64 n).wf = true) : n < 9223372036854775808 := by
 simp [Lit.wf, IntKind.min, IntKind.max, IntKind.bits, IntKind.signed] at h
 omega
theorem cells3 : Tryz.prog.cellsOf 3 = 1 := by kernel_rfl
theorem cells2 : Tryz.prog.cellsOf 2 = 1 := by kernel_rfl
theorem cells5 : Tryz.prog.cellsOf 5 = 1 := by kernel_rfl
theorem cells9 : Tryz.prog.cellsOf 9 = 1 := by kernel_rfl
theorem cells4 : Tryz.prog.cellsOf 4 = 1 := by kernel_rfl
theorem cells33 : Tryz.prog.cellsOf 33 = 1 := by kernel_rfl
theorem cells34 : Tryz.prog.cellsOf 34 = 1 := by kernel_rfl
theorem cells32 : Tryz.prog.cellsOf 32 = 2 := by kernel_rfl
theorem RG : Tryz.prog.cellsOf 103 = 16 := by kernel_rfl
theorem RF : Tryz.prog.cellsOf 105 = 18 := by kernel_rfl
theorem cells36 : Tryz.prog.cellsOf 36 = 9 := by kernel_rfl
theorem VW {fuel : Nat} {cs : List Value} {x : DataW H × List MemPlace} (h : DataW.trod enc Tryz.prog w base (fun _ => true) held fuel 103 cs = some x) : ∃ k : Ky, cs = AZ k := by
 obtain ⟨xs, m, _, _, hl, hx, hi⟩ := DataW.trod_array Tryz.underlying103 h
 simp only [cells5, Nat.mul_one] at hi
 rw [RG] at hl
 obtain ⟨f, hf⟩ := choose_lt (α := Int) (n := 16) (p := fun i n => cs[i]? = some (.int .u8 n) ∧ 0 ≤ n ∧ n < 256) (fun i h16 => by
   have h1 := hi i h16
   have hxi : i < xs.length := by omega
   rw [List.getElem?_eq_getElem hxi] at h1
   obtain ⟨n, e, _, hw⟩ := DataW.trod_int Tryz.underlying5 h1
   exact ⟨n, Jj e, wf8 hw⟩)
 refine ⟨⟨(List.range 16).map f, by simp, fun y hy => ?_⟩, ?_⟩
 · obtain ⟨i, hi, rfl⟩ := List.mem_map.1 hy
   exact (hf i (List.mem_range.1 hi)).2
 · apply List.ext_getElem?
   intro i
   by_cases h16 : i < 16
   · rw [(hf i h16).1]
     simp [AZ, h16]
   · rw [List.getElem?_eq_none (by omega), List.getElem?_eq_none (by rw [Ai]; omega)]
theorem XR {fuel : Nat} {cs : List Value} {x : DataW H × List MemPlace} (h : DataW.trod enc Tryz.prog w base (fun _ => true) held fuel 105 cs = some x) : ∃ a : Wr, cs = wrC a ∧ True := by
 obtain ⟨xs, n, _, _, hl, hlen, hf⟩ := DataW.trod_struct Tryz.underlying105 h
 rw [RF] at hl
 replace hlen : xs.length = 3 := hlen
 have g : ∀ i, i < 3 → ∃ y, xs[i]? = some y := fun i hi => ⟨_, List.getElem?_eq_getElem (by omega)⟩
 obtain ⟨y0, g0⟩ := g 0 (by decide)
 have h0 : DataW.trod enc Tryz.prog w base (fun _ => true) held n 103 ((cs.drop 0).take (Tryz.prog.cellsOf 103)) = some y0 := (hf 0 _ rfl).trans g0
 obtain ⟨y1, g1⟩ := g 1 (by decide)
 have h1 : DataW.trod enc Tryz.prog w base (fun _ => true) held n 9 ((cs.drop 16).take (Tryz.prog.cellsOf 9)) = some y1 := (hf 1 _ rfl).trans g1
 obtain ⟨y2, g2⟩ := g 2 (by decide)
 have h2 : DataW.trod enc Tryz.prog w base (fun _ => true) held n 4 ((cs.drop 17).take (Tryz.prog.cellsOf 4)) = some y2 := (hf 2 _ rfl).trans g2
 simp only [RG, cells9, cells4, List.drop_zero] at h0 h1 h2
 obtain ⟨k, hk⟩ := VW h0
 obtain ⟨s, hs, _⟩ := DataW.trod_string Tryz.underlying9 h1
 obtain ⟨b, hb, _⟩ := DataW.trod_bool Tryz.underlying4 h2
 refine ⟨⟨k, s, b⟩, ?_, trivial⟩
 have hs' := Jj hs
 have hb' := Jj hb
 unfold wrC
 rw [← hk]
 apply List.ext_getElem?
 intro i
 by_cases h16 : i < 16
 · rw [List.getElem?_append_left (by rw [List.length_take]; omega), List.getElem?_take_of_lt h16]
 · rw [List.getElem?_append_right (by rw [List.length_take]; omega), List.length_take, hl]
   have : i = 16 ∨ i = 17 ∨ 18 ≤ i := by omega
   rcases this with rfl | rfl | h18
   · simpa using hs'
   · simpa using hb'
   · rw [List.getElem?_eq_none (by omega), List.getElem?_eq_none (by simp; omega)]
theorem U6 {fuel : Nat} {cs : List Value} {x : DataW H × List MemPlace} (h : DataW.trod enc Tryz.prog w base (fun _ => true) held fuel 3 cs = some x) : ∃ a : Int, cs = YD a ∧ True := by
 obtain ⟨n, e, _⟩ := DataW.trod_int Tryz.underlying3 h
 exact ⟨n, e, trivial⟩
theorem KD {fuel : Nat} {a b : Value} {x : DataW H × List MemPlace} (h : DataW.trod enc Tryz.prog w base (fun _ => true) held fuel 32 [a, b] = some x) : ∃ t n : Int, a = .int .i64 t ∧ b = .int .u8 n ∧ 0 ≤ n ∧ n < 256 := by
 obtain ⟨xs, m, _, _, hl, hlen, hf⟩ := DataW.trod_struct Tryz.underlying32 h
 replace hlen : xs.length = 2 := hlen
 have g : ∀ i, i < 2 → ∃ y, xs[i]? = some y := fun i hi => ⟨_, List.getElem?_eq_getElem (by omega)⟩
 obtain ⟨y0, g0⟩ := g 0 (by decide)
 have h0 : DataW.trod enc Tryz.prog w base (fun _ => true) held m 2 (([a, b].drop 0).take (Tryz.prog.cellsOf 2)) = some y0 := (hf 0 _ rfl).trans g0
 obtain ⟨y1, g1⟩ := g 1 (by decide)
 have h1 : DataW.trod enc Tryz.prog w base (fun _ => true) held m 5 (([a, b].drop 1).take (Tryz.prog.cellsOf 5)) = some y1 := (hf 1 _ rfl).trans g1
 simp only [cells2, cells5] at h0 h1
 obtain ⟨t, e1, _⟩ := DataW.trod_int Tryz.underlying2 h0
 obtain ⟨n, e2, _, hw⟩ := DataW.trod_int Tryz.underlying5 h1
 simp at e1 e2
 exact ⟨t, n, e1, e2, wf8 hw⟩
theorem XT {fuel : Nat} {cs : List Value} {x : DataW H × List MemPlace} (h : DataW.trod enc Tryz.prog w base (fun _ => true) held fuel 36 cs = some x) : ∃ a : It, cs = itC a ∧ Pg w a := by
 obtain ⟨xs, m, _, _, hl, hlen, hf⟩ := DataW.trod_struct Tryz.underlying36 h
 rw [cells36] at hl
 obtain ⟨a0, a1, a2, a3, a4, a5, a6, a7, a8, rfl⟩ := YM hl
 replace hlen : xs.length = 7 := hlen
 have g : ∀ i, i < 7 → ∃ y, xs[i]? = some y := fun i hi => ⟨_, List.getElem?_eq_getElem (by omega)⟩
 obtain ⟨y0, g0⟩ := g 0 (by decide)
 have h0 : DataW.trod enc Tryz.prog w base (fun _ => true) held m 3 (([a0, a1, a2, a3, a4, a5, a6, a7, a8].drop 0).take (Tryz.prog.cellsOf 3)) = some y0 := (hf 0 _ rfl).trans g0
 obtain ⟨y1, g1⟩ := g 1 (by decide)
 have h1 : DataW.trod enc Tryz.prog w base (fun _ => true) held m 2 (([a0, a1, a2, a3, a4, a5, a6, a7, a8].drop 1).take (Tryz.prog.cellsOf 2)) = some y1 := (hf 1 _ rfl).trans g1
 obtain ⟨y2, g2⟩ := g 2 (by decide)
 have h2 : DataW.trod enc Tryz.prog w base (fun _ => true) held m 32 (([a0, a1, a2, a3, a4, a5, a6, a7, a8].drop 2).take (Tryz.prog.cellsOf 32)) = some y2 := (hf 2 _ rfl).trans g2
 obtain ⟨y3, g3⟩ := g 3 (by decide)
 have h3 : DataW.trod enc Tryz.prog w base (fun _ => true) held m 32 (([a0, a1, a2, a3, a4, a5, a6, a7, a8].drop 4).take (Tryz.prog.cellsOf 32)) = some y3 := (hf 3 _ rfl).trans g3
 obtain ⟨y4, g4⟩ := g 4 (by decide)
 have h4 : DataW.trod enc Tryz.prog w base (fun _ => true) held m 33 (([a0, a1, a2, a3, a4, a5, a6, a7, a8].drop 6).take (Tryz.prog.cellsOf 33)) = some y4 := (hf 4 _ rfl).trans g4
 obtain ⟨y5, g5⟩ := g 5 (by decide)
 have h5 : DataW.trod enc Tryz.prog w base (fun _ => true) held m 4 (([a0, a1, a2, a3, a4, a5, a6, a7, a8].drop 7).take (Tryz.prog.cellsOf 4)) = some y5 := (hf 5 _ rfl).trans g5
 obtain ⟨y6, g6⟩ := g 6 (by decide)
 have h6 : DataW.trod enc Tryz.prog w base (fun _ => true) held m 34 (([a0, a1, a2, a3, a4, a5, a6, a7, a8].drop 8).take (Tryz.prog.cellsOf 34)) = some y6 := (hf 6 _ rfl).trans g6
 simp only [cells2, cells3, cells32, cells33, cells4, cells34] at h0 h1 h2 h3 h4 h5 h6
 obtain ⟨kd, e0, _⟩ := DataW.trod_int Tryz.underlying3 h0
 obtain ⟨id, e1, _, w1⟩ := DataW.trod_int Tryz.underlying2 h1
 obtain ⟨t0, n0, e2, e3, r0⟩ := KD h2
 obtain ⟨t1, n1, e4, e5, r1⟩ := KD h3
 obtain ⟨A1, m1, c1, ws, e6, hw, _⟩ := Jf wrC 18 (fun _ => True) Tryz.underlying33 RF (by decide) XR h4
 obtain ⟨b, e7, _⟩ := DataW.trod_bool Tryz.underlying4 h5
 obtain ⟨A2, m2, c2, ps, e8, hp, _⟩ := Jf YD 1 (fun _ => True) Tryz.underlying34 cells3 (by decide) U6 h6
 simp at e0 e1 e6 e7 e8
 subst e0 e1 e2 e3 e4 e5 e6 e7 e8
 exact ⟨⟨⟨kd, id, t0, n0, t1, n1, ws, b, ps⟩, A1, m1, c1, A2, m2, c2⟩, rfl, ⟨hw, hp, ⟨r0, r1, wf64 w1⟩⟩⟩
theorem VY {fuel : Nat} {cs : List Value} {x : DataW H × List MemPlace} (h : DataW.trod enc Tryz.prog w base (fun _ => true) held fuel 22 cs = some x) :
   ∃ A n c xs, cs = [.slice A n c] ∧ RowK itC 9 w (.slice A n c) xs ∧ ∀ y ∈ xs, Pg w y :=
 Jf itC 9 (Pg w) Tryz.underlying22 cells36 (by decide) XT h
end
end Go.Proofs.YtchfmgbjddopoaaGreatDoor.Hand
