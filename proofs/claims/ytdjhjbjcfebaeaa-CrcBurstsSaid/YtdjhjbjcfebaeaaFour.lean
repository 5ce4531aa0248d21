/- Four bytes by value: what '==' with four noughts tells. -/
import Derived.Test.YtdjhjbjcfebaeaaAdd
import Derived.ChangeKeysEq
import Derived.Laws.StructEq
import Derived.Laws.Rows
namespace Go.Proofs.Ytdjhjbjcfebaeaa.Hand
open Go.RowKit Go.Proofs.YtdjhjbjcfebaeaaW.PrintWords Go.Proofs.YtdjhjbjcfebaeaaW.PrintLast Go.Proofs.YtdjhjbjcfebaeaaW.PrintMore Go.Proofs.Ytdjhjbjcfebaeaa.Plain

theorem part0 (a b c d : Value) (w : World) : (part 5 #[a, b, c, d] 0).run Try.prog w = .ok a w := by kernel_rfl
theorem part1 (a b c d : Value) (w : World) : (part 5 #[a, b, c, d] 1).run Try.prog w = .ok b w := by kernel_rfl
theorem part2 (a b c d : Value) (w : World) : (part 5 #[a, b, c, d] 2).run Try.prog w = .ok c w := by kernel_rfl
theorem part3 (a b c d : Value) (w : World) : (part 5 #[a, b, c, d] 3).run Try.prog w = .ok d w := by kernel_rfl

set_option linter.unusedSimpArgs false in
theorem eq4 (y0 y1 y2 y3 : Int) (w : World) : (binOp .eql 30 (.agg #[.int .u8 y0, .int .u8 y1, .int .u8 y2, .int .u8 y3]) (.agg #[.int .u8 0, .int .u8 0, .int .u8 0, .int .u8 0])).run Try.prog w = .ok (.bool (y0 == 0 && (y1 == 0 && (y2 == 0 && y3 == 0)))) w := by
  have hm : (Try.prog.info? 5).map (fun i => i.size) = some 1 := by kernel_rfl
  obtain ⟨i, hi, _⟩ := Option.map_eq_some_iff.1 hm
  rw [run_eql_struct, show (10000 : Nat) = 9998 + 1 + 1 from rfl, run_equalIn_array w (9998 + 1) _ _ Try.underlying30 hi]
  have hr : List.range 4 = [0, 1, 2, 3] := rfl
  rw [hr]
  have hc : Try.prog.cellsOf 5 = 1 := by kernel_rfl
  have h5 : ∀ d a b w, (Op.equalIn (d + 1) 5 (.int .u8 a) (.int .u8 b)).run Try.prog w = .ok (a == b) w := fun d a b w => run_equalIn_int _ _ _ _ _ _ _ Try.underlying5
  rw [hc]
  cases h0 : y0 == 0 <;> cases h1 : y1 == 0 <;> cases h2 : y2 == 0 <;> cases h3 : y3 == 0 <;> simp only [Op.eqItems, Nat.mul_one, Sem.run_bind, Sem.run_pure, Sem.run_ite, part0, part1, part2, part3, Result.andThen_ok, h5, h0, h1, h2, h3, Bool.not_true, Bool.not_false, Bool.false_eq_true, if_false, if_true, Bool.true_and, Bool.false_and, Bool.and_true, Bool.and_false]
end Go.Proofs.Ytdjhjbjcfebaeaa.Hand
