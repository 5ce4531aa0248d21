/- (*reader).word, (*reader).num. -/
import Derived.Test.YtmdjbogdfipcmaaGreatDoorKey
import Derived.Test.YtmdjbogdfipcmaaGreatDoorShelf
import Derived.Shelf.Strings.SlTrimAscii
namespace Go.Proofs.YtmdjbogdfipcmaaGreatDoor.Hand
set_option linter.unusedSimpArgs false
set_option linter.unusedVariables false
open Go.RowKit Go.Proofs.YtmdjbogdfipcmaaGreatDoorW.PrintWords Go.Proofs.YtmdjbogdfipcmaaGreatDoorW.PrintLast Go.Proofs.YtmdjbogdfipcmaaGreatDoorW.PrintMore
attribute [local go_sem ↓] Go.wp_at_zero Go.wp_at_succ

abbrev RdC (g o n k : Nat) : Array Value := #[.slice (some ⟨g, o, none⟩) n k, .bool false]

theorem rd_word (w : World) (r g o n k : Nat) (s : ByteArray) (hr : Bk w r (RdC g o (n + 1) (k + 1)) 32) (hs : w.cell? ⟨g, o, none⟩ = some (.string s)) (hn : n ≤ k) :
    Calls Tryz.prog 14 #[.pointer (some ⟨r, 0, none⟩)] w fun e w' => e = .returned (.string s) ∧ (∃ o', (0 < k → o' = o + 1) ∧ Bk w' r (RdC g o' n k) 32) ∧ Fr (fun j => j = r) w w' := by
  have c0 : w.cell? ⟨r, 0, none⟩ = some (.slice (some ⟨g, o, none⟩) (n + 1) (k + 1)) := Bk.cell hr rfl
  have z0 := Bk.free hr 0
  replace hr := Aside0.mk hr
  go_enter Tryz.func14, Tryz.ntmps14
  go_wp2_with fail
  · go_returns
    rename_i hk0
    refine ⟨rfl, ?_, (Fr.refl _ w).set r 0 _ (.inl rfl)⟩
    subst k
    exact ⟨o, Bk.set hr.out 0 _⟩
  · go_returns
    exact ⟨rfl, ⟨o + 1, fun _ => rfl, Bk.set hr.out 0 _⟩, (Fr.refl _ w).set r 0 _ (.inl rfl)⟩
theorem trim_1 (w : World) : Calls Tryz.prog 38 #[.string ⟨#[49]⟩, .string ⟨#[48, 49, 50, 51, 52, 53, 54, 55, 56, 57]⟩] w fun e w' => e = .returned (.string ⟨#[]⟩) ∧ Below w.heap.size w w' :=
  (Any.strings_Trim_laid Tryz.lays160 (by kernel_rfl) ⟨#[49]⟩ ⟨#[48, 49, 50, 51, 52, 53, 54, 55, 56, 57]⟩ w (by decide) (by decide) (ascii_of_all (by decide +kernel))).mono fun e w' h => ⟨h.1.trans (congrArg (fun l : List UInt8 => Ending.returned (.string ⟨l.toArray⟩)) (by decide +kernel : Lib.trimS [49] [48, 49, 50, 51, 52, 53, 54, 55, 56, 57] = [])), h.2⟩
theorem prefix_1 (w : World) : Calls Tryz.prog 37 #[.string ⟨#[49]⟩, .string ⟨#[45]⟩] w fun e w' => e = .returned (.string ⟨#[49]⟩) ∧ w' = w :=
  (Tryz.strings_TrimPrefix ⟨#[49]⟩ ⟨#[45]⟩ w).mono fun e w' h => ⟨h.1.trans (congrArg (fun l : List UInt8 => Ending.returned (.string ⟨l.toArray⟩)) (by decide +kernel : Lib.trimPrefix [49] [45] = [49])), h.2⟩
theorem parse_1 (w : World) : Calls Tryz.prog 39 #[.string ⟨#[49]⟩, .int .i64 10, .int .i64 64] w fun e w' => e = .returned (.tuple #[.int .i64 1, .nilIface]) ∧ Below w.heap.size w w' :=
  (Tryz.strconv_ParseInt_10_at64_ok ⟨#[49]⟩ (by decide) 1 (by decide +kernel) w).mono fun e w' h => ⟨h.1, by
    rcases h.2 with rfl | ⟨t, rfl⟩
    · exact Below.refl _ _
    · exact Lib.bytesWorld_below _ _ _⟩

theorem rd_num (w : World) (r g o n k : Nat) (hr : Bk w r (RdC g o (n + 1) (k + 1)) 32) (hs : w.cell? ⟨g, o, none⟩ = some (.string ⟨#[49]⟩)) (hn : n ≤ k) :
    Calls Tryz.prog 16 #[.pointer (some ⟨r, 0, none⟩)] w fun e w' => e = .returned (.int .i64 1) ∧ (∃ o', (0 < k → o' = o + 1) ∧ Bk w' r (RdC g o' n k) 32) ∧ Fr (fun j => j = r) w w' := by
  have hw := rd_word w r g o n k ⟨#[49]⟩ hr hs hn
  clear hr hs hn
  go_enter Tryz.func16, Tryz.ntmps16
  go_wp2_with (first
    | (go_at_call 14; refine hw.mono ?_; clear hw; rintro e w1 ⟨rfl, hr1, f1⟩; replace hr1 := Aside0.mk hr1; replace f1 := Aside0.mk f1)
    | (go_at_call 37; refine (prefix_1 _).mono ?_; rintro e w' ⟨rfl, rfl⟩)
    | (go_at_call 38; refine (trim_1 _).mono ?_; rintro e w2 ⟨rfl, f2⟩; replace f2 := Aside0.mk f2)
    | (go_at_call 39; refine (parse_1 _).mono ?_; rintro e w3 ⟨rfl, f3⟩; replace f3 := Aside0.mk f3))
  go_returns
  obtain ⟨o', ho, h1⟩ := hr1.out
  exact ⟨rfl, ⟨o', ho, (h1.belowS f2.out).belowS f3.out⟩, (f1.out.trans (Fr.of_below f2.out)).trans (Fr.of_below f3.out)⟩
end Go.Proofs.YtmdjbogdfipcmaaGreatDoor.Hand
