import Derived.Test.YtchfmgbjddopoaaGreatDoorRows
import Derived.Test.YtchfmgbjddopoaaGreatDoorCards
import Derived.Test.YtchfmgbjddopoaaGreatDoorTie
import Derived.WalkKit
import Derived.ProofKit
import Derived.OpenShut
import Derived.Below
import Derived.LaidMore
import Derived.Shelf.Vars
import Derived.HandedShaped
import Derived.SevenTiedAt
set_option linter.unusedVariables false
set_option linter.unusedSimpArgs false
set_option maxHeartbeats 6400000
set_option maxRecDepth 100000
section
namespace Go.Proofs.YtchfmgbjddopoaaGreatDoor.topLog
open Go.ChangeShapes Go.WideShapes Go.ChangeAt Go.RowKit
theorem own : ownKnob Tryz.prog.godebug = none := by kernel_rfl
theorem laidOut : laidOutB Tryz.prog = true := by kernel_rfl
def firstCells : Array Value := match Go.Pinned.utf8First with
 | .agg l => (l.map fun d => match d with | .lit (.int k n) => Value.int k n | _ => undef).toArray
 | _ => #[]
noncomputable def start (os : Os) : World :=
 { World.doorLaid Tryz.prog 72 os with heap := (World.doorLaid Tryz.prog 72 os).heap.modify 1 fun
     | .cells _ t fr => .cells firstCells t fr
     | o => o }
theorem UO (os : Os) (args : Array Value) : laidMetH Tryz.prog Rows.topLogRow.laid ((start os).forCall (fun _ _ => 0) ⟨#[], args, []⟩).memory :=
 laidMetH_of_parts3 (fuel := 8) (laidMet_of_run' 8 (by kernel_rfl) (by kernel_rfl)) (by kernel_rfl) (by kernel_rfl)
theorem Hy {H : Type} {enc : TypeId × Value → H} {a : Assume} {C : Checked} {os : Os} {f : FuncId} {fn : Func} {s : ChangeSpec} {conds : List PathCond} {apart fresh handsOn again : Bool} {X : World → Array Value → Prop}
   (own : ownKnob C.prog.godebug = none) (started : os.Started) (noInit : C.prog.inits.idxOf? f = none) (hfn : C.prog.funcs[f]? = some fn)
   (witness : ∃ (w : World) (tape : Tape) (i : Input), w.os = os ∧ (w.forCall tape i).Shaped C.prog ∧ i.vars = [] ∧ Input.okWide C.prog (w.forCall tape i) .any w.heap.size f i ∧
     ((s.pre enc C.prog fn conds apart (w.forCall tape i).memory i.args ∧ X (w.forCall tape i).memory i.args) ∧ sizedMet enc C.prog fn (OpenSpec.ofChange s) apart (w.forCall tape i).memory i.args) ∧ a.holds C.prog (lone (Frame.enter C.prog f i.args .normal) [] (w.forCall tape i)))
   (contract : ∀ (W : World) (base : Nat) (args : Array Value) (ds gs : List (DataW H)) (before : List MemPlace),
     (∀ (j : Nat) t v, fn.params[j]? = some t → args[j]? = some v → Value.okWide C.prog W .any base t v) →
     DataW.Whole enc C.prog fn.params.toList s.vars apart W args.toList ds gs before →
     W.ShapedOpen C.prog →
     Calls C.prog f args W fun e W' => ∃ v, e = .returned v ∧ s.post enc C.prog fn apart fresh handsOn again W args v W') :
   ReturnsInHanded a C os f .any (fun w args => (s.pre enc C.prog fn conds apart w args ∧ X w args) ∧ sizedMet enc C.prog fn (OpenSpec.ofChange s) apart w args) (s.post enc C.prog fn apart fresh handsOn again) := by
 refine returnsInHanded_of_calls own started noInit witness ?_
 intro w tape i _ hsh _ hok hpre hholds
 obtain ⟨_, _, _, fn', hfn', _, _, _, _, hval⟩ := hok
 have e : fn' = fn := Option.some.inj (hfn'.symm.trans hfn)
 subst e
 obtain ⟨⟨⟨ds, gs, before, hw, hc⟩, hx⟩, hz⟩ := hpre
 have hw' := DataW.Whole.of_heap (w' := w.forCall tape i) (by rfl) hw
 refine (contract (w.forCall tape i) w.heap.size i.args ds gs before hval hw' hsh).mono fun e W' ⟨v, he, hp⟩ => ?_
 subst he
 exact ChangeSpec.post_blind hp
theorem lifted_of (os : Os) (started : os.Started) (H : Type) (enc : TypeId × Value → H) (contract : ∀ (W : World) (base : Nat) (args : Array Value) (ds gs : List (DataW H)) (before : List MemPlace),
  (∀ (j : Nat) t v, Tryz.f3.params[j]? = some t → args[j]? = some v → Value.okWide Tryz.prog W .any base t v) →
  DataW.Whole enc Tryz.prog Tryz.f3.params.toList Rows.topLogSpec.vars false W args.toList ds gs before → W.ShapedOpen Tryz.prog →
  Calls Tryz.prog 3 args W fun e W' => ∃ v, e = .returned v ∧ Rows.topLogSpec.post enc Tryz.prog Tryz.f3 false true false false W args v W') :
   ReturnsInHanded {} Tryz.checked os 3 .any (fun w args => (Rows.topLogSpec.pre enc Tryz.prog Tryz.f3 [] false w args ∧ laidMetH Tryz.prog Rows.topLogRow.laid w) ∧ sizedMet enc Tryz.prog Tryz.f3 (OpenSpec.ofChange Rows.topLogSpec) false w args)
     (Rows.topLogSpec.post enc Tryz.prog Tryz.f3 false true false false) := by
 refine Hy (C := Tryz.checked) (X := fun w _ => laidMetH Tryz.prog Rows.topLogRow.laid w) own started (by kernel_rfl) Tryz.func3
   (ChangeSpec.witness_shaped (enc := enc) (C := Tryz.checked) (os := os) (X := fun w _ => laidMetH Tryz.prog Rows.topLogRow.laid w) false (start os) #[.slice none 0 0, .int .i64 0, .int .i64 0, .int .u8 0] 8 rfl (World.shaped_of_RefB (by kernel_rfl) (by kernel_rfl)) (by kernel_rfl) (by kernel_rfl) (by kernel_rfl) (UO os _)) ?_
 exact contract
theorem closed : joinedFacts Tryz.pinned.checked.prog 3 Tryz.f3 Rows.topLogSpec Rows.topLogRow = true := by kernel_rfl
theorem hinst : Func.isInstance Tryz.pinned.checked.prog Tryz.f3 Rows.topLogRow.origin Rows.topLogRow.targs := of_decide_eq_true (by kernel_rfl)
theorem hwrap : Func.isWrapper Tryz.pinned.checked.prog Tryz.f3 Rows.topLogRow.wrapper Rows.topLogRow.mainSum := by unfold Func.isWrapper; first | (rw [if_pos (by decide +kernel)]; kernel_rfl) | (rw [if_neg (by decide +kernel)]; exact ⟨rfl, rfl⟩)
theorem named : Tryz.pinned.checked.prog.funcNamed Rows.topLogRow.func = some 3 := by kernel_rfl
theorem card_of (over : Rows.topLogRow.holds Tryz.pinned (OpenSpec.ofChange Rows.topLogSpec)) : Rows.TopLogCardSaid :=
 Claim7.holds_tied_plain_at .later [] [.data, .data, .data, .data, .sentinel, .sentinel, .pinned] true (true, "104e2b99347302f6073ac85ae9585f97a4acc0e74159eaaa2e6929d90092faa9") true
   over (fun _ h => by cases h) (by kernel_rfl) (fun _ h => by cases h) topLog_row_tie rfl ⟨rfl, rfl⟩ (by kernel_rfl) rfl
   (fun f fn hf hfn => by
     obtain rfl : f = 3 := Option.some.inj ((show Tryz.prog.funcNamed "hourglass/hourglasstop.TopLog" = some 3 by kernel_rfl).symm.trans hf) |>.symm
     obtain rfl : fn = Tryz.f3 := (Option.some.inj (Tryz.func3.symm.trans hfn)).symm
     exact ⟨by kernel_rfl, fun j t ht => by
       rw [Tryz.params3] at ht
       rcases j with _ | _ | _ | _ | j
       · obtain rfl : t = 22 := by simpa using ht.symm
         kernel_rfl
       · obtain rfl : t = 3 := by simpa using ht.symm
         kernel_rfl
       · obtain rfl : t = 3 := by simpa using ht.symm
         kernel_rfl
       · obtain rfl : t = 5 := by simpa using ht.symm
         kernel_rfl
       · simp at ht⟩)
   (by kernel_rfl)
end Go.Proofs.YtchfmgbjddopoaaGreatDoor.topLog
end
