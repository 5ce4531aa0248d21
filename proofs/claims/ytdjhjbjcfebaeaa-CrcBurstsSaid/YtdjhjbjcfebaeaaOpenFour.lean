/- Four bytes by value, as they come in at a row. -/
import Derived.Test.YtdjhjbjcfebaeaaProg
import Derived.ProofKit
import Derived.OpenShut
import Derived.WalkKit
import Derived.Lib.SmallJoins
namespace Go.Proofs.Ytdjhjbjcfebaeaa.Hand
open Go.ChangeShapes Go.WideShapes Go.ChangeAt Go.RowKit

theorem open_four {H : Type} {enc : TypeId × Value → H} {w : World} {base b0 : Nat} {spare : Nat → Bool} {held : Bool} {v : Value} {d : DataW H} {p : List MemPlace}
    (hv : Value.okWide Try.prog w .any b0 30 v) (h : DataW.Trod enc Try.prog w base spare held 30 v d p) :
    ∃ y0 y1 y2 y3 : Int, v = .agg #[.int .u8 y0, .int .u8 y1, .int .u8 y2, .int .u8 y3] ∧ (0 ≤ y0 ∧ y0 < 256) ∧ (0 ≤ y1 ∧ y1 < 256) ∧ (0 ≤ y2 ∧ y2 < 256) ∧ (0 ≤ y3 ∧ y3 < 256) := by
  have hc30 : Try.prog.cellsOf 30 = 4 := by kernel_rfl
  have hc5 : Try.prog.cellsOf 5 = 1 := by kernel_rfl
  simp only [Value.okWide, Try.underlying30] at hv
  obtain ⟨cs, rfl, hsz, _⟩ := hv
  rw [hc30] at hsz
  obtain ⟨fuel, hf⟩ := h
  obtain ⟨xs, m, _, _, hl, hx, hi⟩ := DataW.trod_array Try.underlying30 hf
  simp only [hc5, Nat.mul_one] at hi
  have wf8 : ∀ {n : Int}, (Lit.int .u8 n).wf = true → 0 ≤ n ∧ n < 256 := by
    intro n h
    simp [Lit.wf, IntKind.min, IntKind.max, IntKind.bits, IntKind.signed] at h
    omega
  have key : ∀ i, i < 4 → ∃ n : Int, cs[i]? = some (.int .u8 n) ∧ 0 ≤ n ∧ n < 256 := by
    intro i h4
    have h1 := hi i h4
    have hx4 : i < xs.length := by omega
    rw [List.getElem?_eq_getElem hx4] at h1
    obtain ⟨n, e, _, hw⟩ := DataW.trod_int Try.underlying5 h1
    refine ⟨n, ?_, wf8 hw⟩
    have : (List.take 1 (List.drop i (Value.cells (.agg cs)).toList))[0]? = some (.int .u8 n) := by rw [e]; rfl
    simpa [Value.cells] using this
  obtain ⟨y0, e0, g0⟩ := key 0 (by decide)
  obtain ⟨y1, e1, g1⟩ := key 1 (by decide)
  obtain ⟨y2, e2, g2⟩ := key 2 (by decide)
  obtain ⟨y3, e3, g3⟩ := key 3 (by decide)
  refine ⟨y0, y1, y2, y3, ?_, g0, g1, g2, g3⟩
  congr 1
  apply Array.ext'
  apply List.ext_getElem?
  intro i
  by_cases h4 : i < 4
  · have hc : i = 0 ∨ i = 1 ∨ i = 2 ∨ i = 3 := by omega
    rcases hc with rfl | rfl | rfl | rfl
    · simpa using e0
    · simpa using e1
    · simpa using e2
    · simpa using e3
  · rw [List.getElem?_eq_none (by simp [hsz]; omega), List.getElem?_eq_none (by simp; omega)]
end Go.Proofs.Ytdjhjbjcfebaeaa.Hand
