/- (*strings.Builder).WriteString, String: laid at this program; a builder under a frame. -/
import Derived.Test.YtmdjbogdfipcmaaGreatDoorMaps
import Derived.Test.YtmdjbogdfipcmaaGreatDoorShelf
import Derived.Shelf.Strings.BuilderK
namespace Go.Proofs
open Go.Shelf
def Tryz.lays166_ren : Go.Shelf.Ren := ⟨fun | 166 => 11 | 240 => 31 | 276 => 65 | n => n, fun | 70 => 43 | 9 => 9 | 3 => 3 | 0 => 0 | 4 => 4 | 20 => 20 | 72 => 46 | 37 => 44 | 164 => 126 | 75 => 48 | 80 => 51 | 5 => 5 | n => n, fun | n => n⟩
theorem Tryz.lays166 : Go.Proofs.Lays.n166 Tryz.prog Tryz.lays166_ren := {
  mixed := by kernel_rfl
  f166 := Tryz.func11.trans (congrArg some (by kernel_rfl))
  f240 := Tryz.func31.trans (congrArg some (by kernel_rfl))
  f276 := Tryz.func65.trans (congrArg some (by kernel_rfl))
  t0 := Tryz.underlying0
  a0 := Tryz.isAgg0
  z0 := Tryz.sizeOf0
  v0 := Tryz.zeroValue0
  t3 := Tryz.underlying3
  a3 := Tryz.isAgg3
  z3 := Tryz.sizeOf3
  v3 := Tryz.zeroValue3
  t4 := Tryz.underlying4
  a4 := Tryz.isAgg4
  z4 := Tryz.sizeOf4
  v4 := Tryz.zeroValue4
  t9 := Tryz.underlying9
  a9 := Tryz.isAgg9
  z9 := Tryz.sizeOf9
  v9 := Tryz.zeroValue9
  t20 := Tryz.underlying20
  a20 := Tryz.isAgg20
  z20 := Tryz.sizeOf20
  v20 := Tryz.zeroValue20
  t37 := Tryz.underlying44
  a37 := Tryz.isAgg44
  z37 := Tryz.sizeOf44
  v37 := Tryz.zeroValue44
  t70 := Tryz.underlying43
  a70 := Tryz.isAgg43
  z70 := Tryz.sizeOf43
  v70 := Tryz.zeroValue43
  t72 := Tryz.underlying46
  a72 := Tryz.isAgg46
  z72 := Tryz.sizeOf46
  v72 := Tryz.zeroValue46
  t75 := Tryz.underlying48
  a75 := Tryz.isAgg48
  z75 := Tryz.sizeOf48
  v75 := Tryz.zeroValue48
  t164 := Tryz.underlying126
  a164 := Tryz.isAgg126
  z164 := Tryz.sizeOf126
  v164 := Tryz.zeroValue126 }
theorem Tryz.Builder_Extra_166 : Builder.Extra Tryz.prog Tryz.lays166_ren := {
  sizeBuilder := by kernel_rfl
  liesBuilder := by kernel_rfl
  t5 := Tryz.underlying5
  a5 := Tryz.isAgg5
  z5 := Tryz.sizeOf5
  v5 := Tryz.zeroValue5
  infoByte := by kernel_rfl
  cellsByte := by kernel_rfl
  sizeByte := by kernel_rfl
  neB5 := by decide }
end Go.Proofs
namespace Go.Proofs.YtmdjbogdfipcmaaGreatDoor.Hand
set_option linter.unusedSimpArgs false
set_option linter.unusedVariables false
open Go.RowKit Go.Proofs.YtmdjbogdfipcmaaGreatDoorW.PrintWords Go.Proofs.YtmdjbogdfipcmaaGreatDoorW.PrintLast Go.Proofs.YtmdjbogdfipcmaaGreatDoorW.PrintMore

theorem b_write (B b : Nat) (bs : List Value) (s : ByteArray) (w : World) (h : Lib.IsBuilderF 46 5 B b bs w) (hlen : bs.length + s.size ≤ 140737488355328) (hBw : B ≤ w.heap.size) :
    Calls Tryz.prog 11 #[.pointer (some ⟨b, 0, none⟩), .string s] w fun e w' => e = .returned (.tuple #[.int .i64 s.size, .nilIface]) ∧ (Lib.BuilderAtF 46 5 B b (.pointer (some ⟨b, 0, none⟩)) (bs ++ Lib.strCells s) w' ∧ Below B w w' ∧ Lib.OthersKept 5 (some b) w w') :=
  Any.Builder_WriteString_k Tryz.lays166 Tryz.Builder_Extra_166 B b bs s w h hlen hBw
theorem b_string (B b : Nat) (l : List UInt8) (w : World) (h : Lib.IsBuilderF 46 5 B b (Lib.byteCells l) w) (hBw : B ≤ w.heap.size) :
    Calls Tryz.prog 12 #[.pointer (some ⟨b, 0, none⟩)] w fun e w' => e = .returned (.string ⟨l.toArray⟩) ∧ Below B w w' :=
  (Any.Builder_String_any_k Tryz.lays169 Tryz.Builder_Extra_169 B b l w h hBw).mono fun _ _ h => ⟨h.1, h.2.2.1⟩

/-- A builder under a frame that holds no row of bytes. -/
theorem b_frame {T : Nat → Prop} {B b : Nat} {p : Value} {bs : List Value} {w w' : World} (h : Lib.BuilderAtF 46 5 B b p bs w) (f : Fr T w w') (hb : ¬ T b) (hT : ∀ k, T k → ∀ c fz, w.heap[k]? ≠ some (.cells c 5 fz)) : Lib.BuilderAtF 46 5 B b p bs w' := by
  obtain ⟨hB, v, hv, hown, hne⟩ := h
  refine ⟨hB, v, (f.block b (Array.getElem?_eq_some_iff.1 hv).1 hb).trans hv, ⟨hown.1, ?_⟩, hne⟩
  rcases hown.2 with h' | ⟨g, cap, cur, fz, h1, h2, h3, h4⟩
  · exact .inl h'
  · exact .inr ⟨g, cap, cur, fz, h1, h2, (f.block g (Array.getElem?_eq_some_iff.1 h3).1 (fun hg => hT g hg _ _ h3)).trans h3, h4⟩
theorem Ob.others {w w' : World} {k b : Nat} {o : Obj} (h : Ob w k o) (f : Lib.OthersKept 5 (some b) w w') (hk : k ≠ b) (ho : ∀ c fz, o ≠ .cells c 5 fz) : Ob w' k o := f k o h (fun e => hk (Option.some.inj e)) ho
end Go.Proofs.YtmdjbogdfipcmaaGreatDoor.Hand
