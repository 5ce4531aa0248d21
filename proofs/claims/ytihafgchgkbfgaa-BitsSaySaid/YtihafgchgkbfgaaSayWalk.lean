/- BitsSay of package hourglasslaw1: its walk, for any uint64, any int and any bytes. -/
import Derived.Test.YtihafgchgkbfgaaSayPlain
import Derived.Test.YtihafgchgkbfgaaRefSign
import Derived.Test.YtihafgchgkbfgaaFewWalk
import Derived.Test.YtihafgchgkbfgaaReadsWalk
import Derived.Deep.RegionHeld3
import Derived.Deep.RegionHeldLaw
import Derived.Deep.DrawnRows
import Derived.Laws.Concat
namespace Go.Proofs.Ytihafgchgkbfgaa.Hand
open Go.RowKit Go.Proofs.YtihafgchgkbfgaaW.PrintWords Go.Proofs.YtihafgchgkbfgaaW.PrintLast Go.Proofs.YtihafgchgkbfgaaW.PrintMore
open Go.Proofs.Ytihafgchgkbfgaa.PGet Go.Proofs.Ytihafgchgkbfgaa.PPut Go.Proofs.Ytihafgchgkbfgaa.PZig Go.Proofs.Ytihafgchgkbfgaa.PZag Go.Proofs.Ytihafgchgkbfgaa.PLen Go.Proofs.Ytihafgchgkbfgaa.PRefPut Go.Proofs.Ytihafgchgkbfgaa.PRefZig Go.Proofs.Ytihafgchgkbfgaa.PRefZag Go.Proofs.Ytihafgchgkbfgaa.Plain

attribute [local go_sem ↓] Go.wp_at_zero Go.wp_at_succ

theorem nil_own (W : World) : (Kd.int .u8).R 5 (W.alloc (.cells #[] 5)).drew W.heap.size (fun _ => True) (.slice (some ⟨W.heap.size, 0, none⟩) 0 0) [] :=
  Kd.R_drew ⟨fun _ _ => trivial, [], by
    have h2 := World.ownsRow_lit (base := W.heap.size) (e := 5) (size := (Kd.int .u8).sz) W #[] 0 (Nat.le_refl _) (by simp [maxLen]) (by simp)
    simpa using h2, Reps.none _ _⟩

theorem str_add (l xs : List Int) : strOfNums l ++ strOfNums xs = strOfNums (l ++ xs) := by
  unfold strOfNums
  rw [ByteArray.mk_append_mk, List.map_append]

theorem say_keep {A0 Ax : Option Addr} {c0 cx : Nat} {l xs : List Int} {W w' : World} (h0 : Kd.C (Kd.int .u8) W A0 l.length l) (h1 : Kd.C (Kd.int .u8) W Ax xs.length xs) (hb : Below W.heap.size W w') :
    (convert 22 9 (Value.slice A0 l.length c0)).run Try.prog w' = .ok (.string (strOfNums l)) w' ∧ (convert 22 9 (Value.slice Ax xs.length cx)).run Try.prog w' = .ok (.string (strOfNums xs)) w' ∧ Below W.heap.size W w' :=
  ⟨Kd.C_string Try.underlying22 Try.underlying5 Try.underlying9 (Kd.C_below h0 hb), Kd.C_string Try.underlying22 Try.underlying5 Try.underlying9 (Kd.C_below h1 hb), hb⟩

set_option maxHeartbeats 16000000 in
set_option maxRecDepth 100000 in
theorem say_in (V : Nat) (n : Int) (A0 : Option Addr) (c0 : Nat) (l : List Int) (w : World) (hr0 : Kd.C (Kd.int .u8) w A0 l.length l) (hc0 : l.length ≤ c0) (h0 : ¬ 100 < l.length) (hV : V < 18446744073709551616) (v : Int) (hv : (V : Int) = v) :
    Calls Try.prog 10 #[.int .u64 v, .int .i64 n, .slice A0 l.length c0] w fun e w' => e = .returned (.bool true) ∧ Below w.heap.size w w' := by
  have b0 : decide (100 < (l.length : Int)) = false := by simp; omega
  have b0' : decide (100 < l.length) = false := decide_eq_false h0
  have HR0 := Aside0.mk hr0
  have HP : Aside0 (hourglassref1_Put.f 20 v = some (enc V)) := ⟨hv ▸ refput_is V hV⟩
  have HX := Aside0.mk (enc_length 9 V (lt_pow10 V hV))
  have HQ : Aside0 (bits_Put.f 20 l v = some (l ++ enc V)) := ⟨hv ▸ put_is V l hV (by omega)⟩
  have HL : Aside0 (bits_Len.f 10 v = some ((enc V).length : Int)) := ⟨hv ▸ len_is V hV⟩
  have w0 : -9223372036854775808 ≤ wrap64 v ∧ wrap64 v < 9223372036854775808 := by unfold wrap64; omega
  have HZ := Aside0.mk (zig_is (wrap64 v) w0.1 w0.2)
  have HZR := Aside0.mk (refzig_is (wrap64 v) w0.1 w0.2)
  have ew : IntKind.i64.wrap v = wrap64 v := by rw [IntKind.wrap_i64]; unfold wrap64; omega
  have HZ' : Aside0 (bits_Zig.f (IntKind.i64.wrap v) = some (zz (wrap64 v))) := ⟨by rw [ew]; exact HZ.out⟩
  have HZR' : Aside0 (hourglassref1_Zig.f (IntKind.i64.wrap v) = some (zz (wrap64 v))) := ⟨by rw [ew]; exact HZR.out⟩
  clear ew
  have HG := Aside0.mk (zag_is v (by omega) (by omega))
  have HGR := Aside0.mk (refzag_is v (by omega) (by omega))
  have HS := Aside0.mk (fun n w => refsign_any v n w (by omega) (by omega))
  have hst := str_add l (enc V)
  have hsz : (9223372036854775807 < (strOfNums l).size + (strOfNums (enc V)).size) = False := eq_false (by rw [strOfNums_size, strOfNums_size]; have := HX.out; omega)
  have HC0 := Aside0.mk hc0
  have H0 := Aside0.mk h0
  generalize hys : l ++ enc V = ys at *
  generalize enc V = xs at *
  have HYS := Aside0.mk hys
  generalize zz (wrap64 v) = zv at *
  generalize zg v = gv at *
  clear hr0 hc0 h0 hV hv w0 hys
  go_enter Try.func10, Try.ntmps10
  go_wp2_with fail
  refine (awake_true _).mono ?_
  rintro e w1 ⟨rfl, hb⟩
  go_wp2_with fail
  refine (hourglassref1_Put.calls 20 v xs _ HP.out).mono ?_
  rintro e W ⟨vx, rfl, hox, hbx⟩
  have HBW : Aside0 (Below w.heap.size w W) := ⟨hb.trans (hbx.mono hb.size)⟩
  obtain ⟨Ax, cx, ex⟩ := Kd.R_slice hox
  subst ex
  have HCX := Aside0.mk (Kd.R_reads' hox).2.2
  clear hb hox hbx
  go_wp2_with fail
  refine (cut_any _ n _).mono ?_
  rintro e W2 ⟨rfl, n1, rfl⟩
  go_wp2_with fail
  refine (refcut_any _ n _).mono ?_
  rintro e W2 ⟨rfl, n2, rfl⟩
  go_wp2_with fail
  have HB2 : Aside0 (Below w.heap.size w (W.drewN (n1 + n2))) := ⟨pw_below_drewN HBW.out _⟩
  have HA2 := Aside0.mk (Kd.C_drewN (Kd.C_below HR0.out HBW.out) (n1 + n2))
  have HX2 := Aside0.mk (Kd.C_drewN HCX.out (n1 + n2))
  generalize W.drewN (n1 + n2) = W3 at *
  generalize (sgn (cutx (wrap64 v) (sp n)) (sp n) == wrap64 v) = cb at *
  generalize cutx (wrap64 v) (sp n) = ct at *
  clear HR0 HBW HCX HX HC0
  refine wp_region_noPanic ?_
  go_region_held_law (fun w' => (convert 22 9 (Value.slice A0 l.length c0)).run Try.prog w' = .ok (.string (strOfNums l)) w' ∧ (convert 22 9 (Value.slice Ax xs.length cx)).run Try.prog w' = .ok (.string (strOfNums xs)) w' ∧ Below W3.heap.size W3 w')
    ((refine say_keep HA2.out HX2.out ?_; repeat (first | exact Below.refl _ _ | (go_split_ands; assumption) | refine below_drew ?_ | refine pw_below_drewN ?_ _ | refine below_alloc ?_ _)))
    (first
      | (refine Kd.R_append_rows_step (Kd.int .u8) (w0 := W3) W3.heap.size (by rfl) (.tmp 33) (.tmp 34) 22 5 (.int .u8 0) 1 (by rfl) Try.underlying22 PPut.info5 rfl (by decide) (by omega) _ [] l _ _ _ (fun _ => True) (fun _ => False) (by rfl) (by rfl) (nil_own W3) (Kd.C_drew (Kd.C_alloc HA2.out _)) (fun _ _ h => h) (fun _ h => h.elim) (fun _ _ => trivial) (below_drew (below_alloc (Below.refl _ _) _)) (by simp) (by have := H0.out; simp only [List.length_nil]; omega) ?_
         intro v1 wa ho hba hg hat
         rw [List.nil_append] at ho
         obtain ⟨A1, c1, e1⟩ := Kd.R_slice ho
         subst e1
         have HO1 := Aside0.mk (Kd.R_reads' ho).2
         clear ho hg hat)
      | (go_at_call 15
         refine (bits_Put.calls 20 A1 c1 l v ys _ HO1.out.2 HO1.out.1 HQ.out).mono ?_
         rintro e wp ⟨v2, rfl, ho2, hb2⟩
         obtain ⟨A2, c2, e2⟩ := Kd.R_slice ho2
         subst e2
         have hbp : Below W3.heap.size W3 wp := below_weaken ‹Below W3.heap.size W3 wa› ‹Below W3.heap.size W3 wa›.size hb2
         have cv3 : (convert 22 9 (Value.slice A2 ys.length c2)).run Try.prog wp = .ok (.string (strOfNums ys)) wp := Kd.C_string Try.underlying22 Try.underlying5 Try.underlying9 (Kd.R_reads' ho2).2.2
         clear ho2 hb2)
      | (go_at_call 17; refine (bits_Len.calls 10 v _ _ HL.out).mono ?_; rintro e w' ⟨rfl, nl, rfl⟩)
      | (go_at_call 22; refine (hourglassref1_Zig.calls _ _ _ HZR'.out).mono ?_; rintro e w' ⟨rfl, nzr, rfl⟩)
      | (go_at_call 16; refine (bits_Zag.calls _ _ _ HG.out).mono ?_; rintro e w' ⟨rfl, ng, rfl⟩)
      | (go_at_call 23; refine (hourglassref1_Zag.calls _ _ _ HGR.out).mono ?_; rintro e w' ⟨rfl, ngr, rfl⟩)
      | (go_at_call 19; refine (sign_any _ _ _).mono ?_; rintro e w' ⟨rfl, ns, rfl⟩)
      | (go_at_call 24; refine (HS.out _ _).mono ?_; rintro e w' ⟨rfl, rfl⟩)
      | (go_at_call 14; refine (bits_Zig.calls _ _ _ HZ'.out).mono ?_; rintro e w' ⟨rfl, nz, rfl⟩))
  refine NoPanic.normal ?_
  go_split_ands
  go_wp2_with fail
  go_ret
  exact ⟨rfl, below_then HB2.out HB2.out.size ‹Below W3.heap.size W3 _›⟩

theorem say_late (v n : Int) (A0 : Option Addr) (c0 : Nat) (l : List Int) (w : World) (h : 100 < l.length) :
    Calls Try.prog 10 #[.int .u64 v, .int .i64 n, .slice A0 l.length c0] w fun e w' => e = .returned (.bool true) ∧ Below w.heap.size w w' := by
  have b0 : decide (100 < (l.length : Int)) = true := by simp; omega
  have b0' : decide (100 < l.length) = true := decide_eq_true h
  clear h
  go_enter Try.func10, Try.ntmps10
  go_wp2_with fail
  refine (awake_true _).mono ?_
  rintro e w1 ⟨rfl, hb⟩
  go_wp2_with fail
  go_ret
  exact ⟨rfl, hb⟩

theorem say_true (v n : Int) (a0 : Option Addr) (len0 cap0 : Nat) (z0 : List Int) (w : World) (hv : (Lit.int .u64 v).wf = true) (_ : (Lit.int .i64 n).wf = true) (w0 : RowIn w .u8 a0 len0 cap0 z0) :
    Calls Try.prog 10 #[.int .u64 v, .int .i64 n, .slice a0 len0 cap0] w fun e w' => e = .returned (.bool true) ∧ Below w.heap.size w w' := by
  obtain ⟨l, rfl, hr0, hm0, hw0, hc0⟩ := ReadsInt.ofRowC w0
  by_cases h : 100 < l.length
  · exact say_late v n _ _ l _ h
  · obtain ⟨v0, v1⟩ := wf_u64 hv
    obtain ⟨V, rfl⟩ := Int.eq_ofNat_of_zero_le v0
    exact say_in V n _ _ l _ (Kd.C_of_reads (d := (0 : Int)) (h1 := fun _ => rfl) hr0) hc0 h (by omega) _ rfl
end Go.Proofs.Ytihafgchgkbfgaa.Hand
