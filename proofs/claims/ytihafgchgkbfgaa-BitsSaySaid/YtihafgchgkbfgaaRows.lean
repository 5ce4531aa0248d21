/-
  No cell of these rows narrows 'for every input' (looked for: loops, veiled, ifaces, maps, wideKeys, modest, calm, conditions, laid).
  DERIVED. THE GIVEN ROWS OF THIS SEAT. 8 by the template 'for every input the law returns true; each argument reads behind the call as it read before'; 0 by the template 'total and deterministic' (their statements: YtihafgchgkbfgaaTotals.lean).
  GIVEN WITH THE SEED: the statements are not yours to turn. If you find one false, say at which input.
  Laid BY PROGRAM, IN A SANDBOX (cutbox-rows.mjs): the forced cells as the released guide's own fill.sh prints them over the translation 0c24aeabe89e954a… (all of the seat's roots in one cut). By AI agents, Wed Nov 11 2026. No macro, syntax, notation, axiom, sorry.
-/
import Derived.Test.YtihafgchgkbfgaaChecked
import GoSem.Claim
import GoSem.ClaimJoined
import GoSem.ClaimMapViews
import Derived.JoinedTies
import Derived.KernelRfl
namespace Go.Proofs.Ytihafgchgkbfgaa
/- THE CELL 'sum', in the pinned program and in every row, IS THE sha256 OF THE DUMP (.gsa) THAT YtihafgchgkbfgaaProg.lean LOADS. Nothing in Lean hashes anything: it is a label: what it is worth is what the hold of that sum in a sandbox is worth. -/
noncomputable def Try.pinned : Pinned := { name := "ytihafgchgkbfgaa", sum := "0c24aeabe89e954a077926d300ae041e2f740aa28f9cfaee957b51ac62ae35a4", checked := Try.checked }
namespace Rows
def none {H : Type} : Left H := { results := [], args := [] }

/-- 'hourglasslaw1.BitsReads': WHATEVER THE INPUT: true; the input reads as it did. -/
def bitsReadsSpec : ChangeSpec := { name := "bitsReads", fn := fun _ => fun
  | [d] => { results := [.lit (.bool true)], args := [d] }
  | _ => none }
def bitsReadsRow : OpenClaim := { program := "ytihafgchgkbfgaa", sum := "0c24aeabe89e954a077926d300ae041e2f740aa28f9cfaee957b51ac62ae35a4", func := "hourglass/hourglasslaw1.BitsReads", spec := "bitsReads", apart := false }
def BitsReadsSaid : Prop := bitsReadsRow.holds Try.pinned (OpenSpec.ofChange bitsReadsSpec)

/-- ITS FALSE NEIGHBOUR: 'it returns false'. Refute it at one input. -/
def bitsReadsWrong : ChangeSpec := { name := "bitsReads", fn := fun _ => fun
  | [d] => { results := [.lit (.bool false)], args := [d] }
  | _ => none }
def BitsReadsWrongFalsely : Prop := bitsReadsRow.holds Try.pinned (OpenSpec.ofChange bitsReadsWrong)

/-- 'hourglasslaw1.BitsOrder': WHATEVER THE INPUT: true; the input reads as it did. -/
def bitsOrderSpec : ChangeSpec := { name := "bitsOrder", fn := fun _ => fun
  | [d] => { results := [.lit (.bool true)], args := [d] }
  | _ => none }
def bitsOrderRow : OpenClaim := { program := "ytihafgchgkbfgaa", sum := "0c24aeabe89e954a077926d300ae041e2f740aa28f9cfaee957b51ac62ae35a4", func := "hourglass/hourglasslaw1.BitsOrder", spec := "bitsOrder", apart := false }
def BitsOrderSaid : Prop := bitsOrderRow.holds Try.pinned (OpenSpec.ofChange bitsOrderSpec)

/-- ITS FALSE NEIGHBOUR: 'it returns false'. Refute it at one input. -/
def bitsOrderWrong : ChangeSpec := { name := "bitsOrder", fn := fun _ => fun
  | [d] => { results := [.lit (.bool false)], args := [d] }
  | _ => none }
def BitsOrderWrongFalsely : Prop := bitsOrderRow.holds Try.pinned (OpenSpec.ofChange bitsOrderWrong)

/-- 'hourglasslaw1.BitsRows': WHATEVER THE INPUT: true; the input reads as it did. -/
def bitsRowsSpec : ChangeSpec := { name := "bitsRows", fn := fun _ => fun
  | [d1, d2] => { results := [.lit (.bool true)], args := [d1, d2] }
  | _ => none }
def bitsRowsRow : OpenClaim := { program := "ytihafgchgkbfgaa", sum := "0c24aeabe89e954a077926d300ae041e2f740aa28f9cfaee957b51ac62ae35a4", func := "hourglass/hourglasslaw1.BitsRows", spec := "bitsRows", apart := false }
def BitsRowsSaid : Prop := bitsRowsRow.holds Try.pinned (OpenSpec.ofChange bitsRowsSpec)

/-- ITS FALSE NEIGHBOUR: 'it returns false'. Refute it at one input. -/
def bitsRowsWrong : ChangeSpec := { name := "bitsRows", fn := fun _ => fun
  | [d1, d2] => { results := [.lit (.bool false)], args := [d1, d2] }
  | _ => none }
def BitsRowsWrongFalsely : Prop := bitsRowsRow.holds Try.pinned (OpenSpec.ofChange bitsRowsWrong)

/-- 'hourglasslaw1.BitsBack': WHATEVER THE INPUT: true; the input reads as it did. -/
def bitsBackSpec : ChangeSpec := { name := "bitsBack", fn := fun _ => fun
  | [d1, d2] => { results := [.lit (.bool true)], args := [d1, d2] }
  | _ => none }
def bitsBackRow : OpenClaim := { program := "ytihafgchgkbfgaa", sum := "0c24aeabe89e954a077926d300ae041e2f740aa28f9cfaee957b51ac62ae35a4", func := "hourglass/hourglasslaw1.BitsBack", spec := "bitsBack", apart := false }
def BitsBackSaid : Prop := bitsBackRow.holds Try.pinned (OpenSpec.ofChange bitsBackSpec)

/-- ITS FALSE NEIGHBOUR: 'it returns false'. Refute it at one input. -/
def bitsBackWrong : ChangeSpec := { name := "bitsBack", fn := fun _ => fun
  | [d1, d2] => { results := [.lit (.bool false)], args := [d1, d2] }
  | _ => none }
def BitsBackWrongFalsely : Prop := bitsBackRow.holds Try.pinned (OpenSpec.ofChange bitsBackWrong)

/-- 'hourglasslaw1.BitsFew': WHATEVER THE INPUT: true; the input reads as it did. -/
def bitsFewSpec : ChangeSpec := { name := "bitsFew", fn := fun _ => fun
  | [d1, d2] => { results := [.lit (.bool true)], args := [d1, d2] }
  | _ => none }
def bitsFewRow : OpenClaim := { program := "ytihafgchgkbfgaa", sum := "0c24aeabe89e954a077926d300ae041e2f740aa28f9cfaee957b51ac62ae35a4", func := "hourglass/hourglasslaw1.BitsFew", spec := "bitsFew", apart := false }
def BitsFewSaid : Prop := bitsFewRow.holds Try.pinned (OpenSpec.ofChange bitsFewSpec)

/-- ITS FALSE NEIGHBOUR: 'it returns false'. Refute it at one input. -/
def bitsFewWrong : ChangeSpec := { name := "bitsFew", fn := fun _ => fun
  | [d1, d2] => { results := [.lit (.bool false)], args := [d1, d2] }
  | _ => none }
def BitsFewWrongFalsely : Prop := bitsFewRow.holds Try.pinned (OpenSpec.ofChange bitsFewWrong)

/-- 'hourglasslaw1.BitsCuts': WHATEVER THE INPUT: true; the input reads as it did. -/
def bitsCutsSpec : ChangeSpec := { name := "bitsCuts", fn := fun _ => fun
  | [d1, d2] => { results := [.lit (.bool true)], args := [d1, d2] }
  | _ => none }
def bitsCutsRow : OpenClaim := { program := "ytihafgchgkbfgaa", sum := "0c24aeabe89e954a077926d300ae041e2f740aa28f9cfaee957b51ac62ae35a4", func := "hourglass/hourglasslaw1.BitsCuts", spec := "bitsCuts", apart := false }
def BitsCutsSaid : Prop := bitsCutsRow.holds Try.pinned (OpenSpec.ofChange bitsCutsSpec)

/-- ITS FALSE NEIGHBOUR: 'it returns false'. Refute it at one input. -/
def bitsCutsWrong : ChangeSpec := { name := "bitsCuts", fn := fun _ => fun
  | [d1, d2] => { results := [.lit (.bool false)], args := [d1, d2] }
  | _ => none }
def BitsCutsWrongFalsely : Prop := bitsCutsRow.holds Try.pinned (OpenSpec.ofChange bitsCutsWrong)

/-- 'hourglasslaw1.BitsKnown': WHATEVER THE INPUT: true; the input reads as it did. -/
def bitsKnownSpec : ChangeSpec := { name := "bitsKnown", fn := fun _ => fun
  | [] => { results := [.lit (.bool true)], args := [] }
  | _ => none }
def bitsKnownRow : OpenClaim := { program := "ytihafgchgkbfgaa", sum := "0c24aeabe89e954a077926d300ae041e2f740aa28f9cfaee957b51ac62ae35a4", func := "hourglass/hourglasslaw1.BitsKnown", spec := "bitsKnown", apart := false }
def BitsKnownSaid : Prop := bitsKnownRow.holds Try.pinned (OpenSpec.ofChange bitsKnownSpec)

/-- ITS FALSE NEIGHBOUR: 'it returns false'. Refute it at one input. -/
def bitsKnownWrong : ChangeSpec := { name := "bitsKnown", fn := fun _ => fun
  | [] => { results := [.lit (.bool false)], args := [] }
  | _ => none }
def BitsKnownWrongFalsely : Prop := bitsKnownRow.holds Try.pinned (OpenSpec.ofChange bitsKnownWrong)

/-- 'hourglasslaw1.BitsSay': WHATEVER THE INPUT: true; the input reads as it did. -/
def bitsSaySpec : ChangeSpec := { name := "bitsSay", fn := fun _ => fun
  | [d1, d2, d3] => { results := [.lit (.bool true)], args := [d1, d2, d3] }
  | _ => none }
def bitsSayRow : OpenClaim := { program := "ytihafgchgkbfgaa", sum := "0c24aeabe89e954a077926d300ae041e2f740aa28f9cfaee957b51ac62ae35a4", func := "hourglass/hourglasslaw1.BitsSay", spec := "bitsSay", recurses := true, apart := false }
def BitsSaySaid : Prop := bitsSayRow.holds Try.pinned (OpenSpec.ofChange bitsSaySpec)

/-- ITS FALSE NEIGHBOUR: 'it returns false'. Refute it at one input. -/
def bitsSayWrong : ChangeSpec := { name := "bitsSay", fn := fun _ => fun
  | [d1, d2, d3] => { results := [.lit (.bool false)], args := [d1, d2, d3] }
  | _ => none }
def BitsSayWrongFalsely : Prop := bitsSayRow.holds Try.pinned (OpenSpec.ofChange bitsSayWrong)

/- THE SECOND FORM. 'bulk': how many values and letters a reading holds, each counted each time it is reached (what is shared counts as often as it is met; a slice's spare places count too). A statement '..UptoSaid' is the law's where the arguments, and the package variables that the reading takes, are together of bulk at most 1048576: NARROWER than '..Said'. Prove '..Said' where nothing that the law and all that it calls make is longer than what came in: it says more and counts as full. Else prove '..UptoSaid'. A law counts once. -/
mutual
def uptoBulk {H : Type} : DataW H → Nat
  | .lit (.string bytes) => bytes.length + 1
  | .lit _ => 1
  | .nil => 1
  | .ptr d => uptoBulk d + 1
  | .slice elems spare => uptoBulkAll elems + uptoBulkAll spare + 1
  | .agg parts => uptoBulkAll parts + 1
  | .iface _ d => uptoBulk d + 1
  | .map entries => uptoBulkEntries entries + 1
  | .held _ => 1
def uptoBulkAll {H : Type} : List (DataW H) → Nat
  | [] => 0
  | d :: r => uptoBulk d + uptoBulkAll r
def uptoBulkEntries {H : Type} : List (Lit × DataW H) → Nat
  | [] => 0
  | x :: r => uptoBulkEntry x + uptoBulkEntries r
def uptoBulkEntry {H : Type} : Lit × DataW H → Nat
  | (.string bytes, d) => bytes.length + uptoBulk d + 1
  | (_, d) => uptoBulk d + 1
 end
def uptoSmall : (H : Type) → List (DataW H) → Bool := fun _ ds => decide (uptoBulkAll ds ≤ 1048576)
def OpenSpec.upto (s : _root_.Go.ChangeSpec) : _root_.Go.OpenSpec := { _root_.Go.OpenSpec.ofChange s with cond := some uptoSmall }

/-- 'hourglasslaw1.BitsReads', WHERE WHAT IT READS IS OF BULK AT MOST 1048576: true; the input reads as it did. -/
def bitsReadsUptoRow : OpenClaim := { program := "ytihafgchgkbfgaa", sum := "0c24aeabe89e954a077926d300ae041e2f740aa28f9cfaee957b51ac62ae35a4", func := "hourglass/hourglasslaw1.BitsReads", spec := "bitsReads", apart := false, narrowed := true }
def BitsReadsUptoSaid : Prop := bitsReadsUptoRow.holds Try.pinned (OpenSpec.upto bitsReadsSpec)

/-- 'hourglasslaw1.BitsOrder', WHERE WHAT IT READS IS OF BULK AT MOST 1048576: true; the input reads as it did. -/
def bitsOrderUptoRow : OpenClaim := { program := "ytihafgchgkbfgaa", sum := "0c24aeabe89e954a077926d300ae041e2f740aa28f9cfaee957b51ac62ae35a4", func := "hourglass/hourglasslaw1.BitsOrder", spec := "bitsOrder", apart := false, narrowed := true }
def BitsOrderUptoSaid : Prop := bitsOrderUptoRow.holds Try.pinned (OpenSpec.upto bitsOrderSpec)

/-- 'hourglasslaw1.BitsRows', WHERE WHAT IT READS IS OF BULK AT MOST 1048576: true; the input reads as it did. -/
def bitsRowsUptoRow : OpenClaim := { program := "ytihafgchgkbfgaa", sum := "0c24aeabe89e954a077926d300ae041e2f740aa28f9cfaee957b51ac62ae35a4", func := "hourglass/hourglasslaw1.BitsRows", spec := "bitsRows", apart := false, narrowed := true }
def BitsRowsUptoSaid : Prop := bitsRowsUptoRow.holds Try.pinned (OpenSpec.upto bitsRowsSpec)

/-- 'hourglasslaw1.BitsBack', WHERE WHAT IT READS IS OF BULK AT MOST 1048576: true; the input reads as it did. -/
def bitsBackUptoRow : OpenClaim := { program := "ytihafgchgkbfgaa", sum := "0c24aeabe89e954a077926d300ae041e2f740aa28f9cfaee957b51ac62ae35a4", func := "hourglass/hourglasslaw1.BitsBack", spec := "bitsBack", apart := false, narrowed := true }
def BitsBackUptoSaid : Prop := bitsBackUptoRow.holds Try.pinned (OpenSpec.upto bitsBackSpec)

/-- 'hourglasslaw1.BitsFew', WHERE WHAT IT READS IS OF BULK AT MOST 1048576: true; the input reads as it did. -/
def bitsFewUptoRow : OpenClaim := { program := "ytihafgchgkbfgaa", sum := "0c24aeabe89e954a077926d300ae041e2f740aa28f9cfaee957b51ac62ae35a4", func := "hourglass/hourglasslaw1.BitsFew", spec := "bitsFew", apart := false, narrowed := true }
def BitsFewUptoSaid : Prop := bitsFewUptoRow.holds Try.pinned (OpenSpec.upto bitsFewSpec)

/-- 'hourglasslaw1.BitsCuts', WHERE WHAT IT READS IS OF BULK AT MOST 1048576: true; the input reads as it did. -/
def bitsCutsUptoRow : OpenClaim := { program := "ytihafgchgkbfgaa", sum := "0c24aeabe89e954a077926d300ae041e2f740aa28f9cfaee957b51ac62ae35a4", func := "hourglass/hourglasslaw1.BitsCuts", spec := "bitsCuts", apart := false, narrowed := true }
def BitsCutsUptoSaid : Prop := bitsCutsUptoRow.holds Try.pinned (OpenSpec.upto bitsCutsSpec)

/-- 'hourglasslaw1.BitsKnown', WHERE WHAT IT READS IS OF BULK AT MOST 1048576: true; the input reads as it did. -/
def bitsKnownUptoRow : OpenClaim := { program := "ytihafgchgkbfgaa", sum := "0c24aeabe89e954a077926d300ae041e2f740aa28f9cfaee957b51ac62ae35a4", func := "hourglass/hourglasslaw1.BitsKnown", spec := "bitsKnown", apart := false, narrowed := true }
def BitsKnownUptoSaid : Prop := bitsKnownUptoRow.holds Try.pinned (OpenSpec.upto bitsKnownSpec)

/-- 'hourglasslaw1.BitsSay', WHERE WHAT IT READS IS OF BULK AT MOST 1048576: true; the input reads as it did. -/
def bitsSayUptoRow : OpenClaim := { program := "ytihafgchgkbfgaa", sum := "0c24aeabe89e954a077926d300ae041e2f740aa28f9cfaee957b51ac62ae35a4", func := "hourglass/hourglasslaw1.BitsSay", spec := "bitsSay", recurses := true, apart := false, narrowed := true }
def BitsSayUptoSaid : Prop := bitsSayUptoRow.holds Try.pinned (OpenSpec.upto bitsSaySpec)

end Rows
end Go.Proofs.Ytihafgchgkbfgaa
