/- crc.Of and hourglasslaw2.awake: their walks. -/
import Derived.Test.YtdjhjbjcfebaeaaAdd
import Derived.Lib.SlBytesConst
namespace Go.Proofs.Ytdjhjbjcfebaeaa.Hand
open Go.RowKit Go.Proofs.YtdjhjbjcfebaeaaW.PrintWords Go.Proofs.YtdjhjbjcfebaeaaW.PrintLast Go.Proofs.YtdjhjbjcfebaeaaW.PrintMore Go.Proofs.Ytdjhjbjcfebaeaa.Plain

set_option maxHeartbeats 800000 in
set_option maxRecDepth 100000 in
/-- crc.Of, for any bytes: it only reads. -/
theorem of_any (A0 : Option Addr) (c0 : Nat) (l : List Int) (w : World) (hr0 : Kd.C (Kd.int .u8) w A0 l.length l) (hc0 : l.length ≤ c0) (hl : l.length ≤ 140737488355328)
    (hb : ∀ x ∈ l, 0 ≤ x ∧ x < 256) :
    Calls Try.prog 9 #[.slice A0 l.length c0] w fun e w' => e = .returned (.int .u32 (add 0 l)) ∧ Drawn0 w w' := by
  have HR0 := Aside0.mk hr0
  have HC0 := Aside0.mk hc0
  have HBY := Aside0.mk hb
  have HL := Aside0.mk hl
  clear hr0 hc0 hb hl
  go_enter Try.func9, Try.ntmps9
  go_wp2_with fail
  refine (add_any A0 c0 l 0 _ HR0.out HC0.out HL.out HBY.out (by decide)).mono ?_
  rintro e w' ⟨rfl, ⟨nd, rfl⟩⟩
  go_wp2_with fail
  go_ret
  exact ⟨rfl, ⟨nd, rfl⟩⟩

theorem nine : add 0 [49, 50, 51, 52, 53, 54, 55, 56, 57] = 3808858755 := by decide +kernel

def nineL : List Int := [49, 50, 51, 52, 53, 54, 55, 56, 57]
theorem nine_reads (w : World) : ReadsInt (w.alloc (Obj.cells #[Value.int IntKind.u8 49, Value.int IntKind.u8 50, Value.int IntKind.u8 51, Value.int IntKind.u8 52, Value.int IntKind.u8 53, Value.int IntKind.u8 54, Value.int IntKind.u8 55, Value.int IntKind.u8 56, Value.int IntKind.u8 57] 5 (9, 10))) .u8 (some { block := w.heap.size, off := 0 }) nineL.length nineL := by
  refine ⟨rfl, by decide, fun _ => ⟨_, rfl, fun j hj => ?_⟩⟩
  have hj9 : j < 9 := hj
  have hc : j = 0 ∨ j = 1 ∨ j = 2 ∨ j = 3 ∨ j = 4 ∨ j = 5 ∨ j = 6 ∨ j = 7 ∨ j = 8 := by omega
  rcases hc with rfl | rfl | rfl | rfl | rfl | rfl | rfl | rfl | rfl <;> exact (World.cell?_alloc_mark w _ 5 (9, 10) _).trans rfl

set_option maxHeartbeats 800000 in
set_option maxRecDepth 100000 in
/-- awake returns true, in whatever world; what was there stays. -/
theorem awake_true (w : World) : Calls Try.prog 8 #[] w fun e w' => e = .returned (.bool true) ∧ Below w.heap.size w w' := by
  have kc := fun (w : World) (C : Array Value) (n c : Nat) => Lib.run_convert_bytes_const (P := Try.prog) w 22 5 C n c Try.underlying22 Try.underlying5
  go_enter Try.func8, Try.ntmps8
  go_wp2_with fail
  refine (of_any _ 9 nineL _ (Kd.C_of_reads (d := (0 : Int)) (h1 := fun _ => rfl) (nine_reads w)) (by decide) (by decide) (by decide)).mono ?_
  rintro e w1 ⟨rfl, ⟨nd, rfl⟩⟩
  rw [show add 0 nineL = 3808858755 from nine]
  go_wp2_with fail
  refine (of_any none 0 [] _ (Kd.C_nil _ _) (by decide) (by decide) (by decide)).mono ?_
  rintro e w1 ⟨rfl, ⟨nd2, rfl⟩⟩
  rw [show add 0 [] = 0 from add_nil 0]
  go_wp2_with fail
  go_ret
  exact ⟨rfl, by repeat (first | exact Below.refl _ _ | apply below_alloc | apply pw_below_drewN | apply below_drew1)⟩
end Go.Proofs.Ytdjhjbjcfebaeaa.Hand
