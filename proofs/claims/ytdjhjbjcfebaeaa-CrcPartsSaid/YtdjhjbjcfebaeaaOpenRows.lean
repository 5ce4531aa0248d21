/- A slice of slices of bytes, as it comes in at a row. -/
import Derived.Test.YtdjhjbjcfebaeaaPartsWalk
import Derived.Deep.Matrix
import Derived.ProofKit
namespace Go.Proofs.Ytdjhjbjcfebaeaa.Hand
open Go.ChangeShapes Go.WideShapes Go.ChangeAt Go.RowKit Go.Deep Go.Proofs.YtdjhjbjcfebaeaaW.PrintWords

theorem open_rows {H : Type} {enc : TypeId × Value → H} {w : World} {base : Nat} {held : Bool} {a : Option Addr} {len cap : Nat} {d : DataW H} {p : List MemPlace}
    (h : DataW.Trod enc Try.prog w base (fun _ => true) held 28 (.slice a len cap) d p) :
    ∃ (A : Nat → Option Addr) (C : Nat → Nat) (R : Nat → List Int), RowsIn w a len A C R := by
  obtain ⟨fuel, hf⟩ := h
  rcases open_int_rows Try.underlying28 Try.underlying22 Try.underlying5 (by kernel_rfl) (by kernel_rfl) hf with ⟨hcs, _⟩ | ⟨x, l, c, A, L, C, Z, hcs, _, hl, hm, _, hr⟩
  · simp [Value.cells] at hcs
    obtain ⟨rfl, rfl, rfl⟩ := hcs
    exact ⟨fun _ => none, fun _ => 0, fun _ => [], fun r h => by omega⟩
  · simp [Value.cells] at hcs
    obtain ⟨rfl, rfl, rfl⟩ := hcs
    refine ⟨A, C, fun r => (Z r).take (L r), fun r hlt => ?_⟩
    obtain ⟨hc, h1, h2, h3, h4, h5, h6⟩ := hr r (by omega)
    have hlen : ((Z r).take (L r)).length = L r := by rw [List.length_take]; omega
    refine ⟨x, rfl, by rw [hlen]; exact hc, by rw [hlen]; exact h1, ?_, fun y hy => ?_⟩
    · refine Kd.C_of_reads (d := (0 : Int)) (h1 := fun _ => rfl) (?_ : ReadsInt w .u8 (A r) ((Z r).take (L r)).length ((Z r).take (L r)))
      refine ⟨rfl, by unfold maxLen at h2; omega, fun hp => ?_⟩
      cases hA : A r with
      | none => have := h5 hA; omega
      | some a' =>
        refine ⟨a', rfl, fun j hj => ?_⟩
        rw [(h6 a' hA).2 j (by omega)]
        rw [List.getD_eq_getElem?_getD, List.getD_eq_getElem?_getD, List.getElem?_take_of_lt (by omega)]
    · have := h4 y (List.mem_of_mem_take hy)
      simp [Lit.wf, IntKind.min, IntKind.max, IntKind.bits, IntKind.signed] at this
      omega
end Go.Proofs.Ytdjhjbjcfebaeaa.Hand
