/- The law FrameWraps: its walk. -/
import Derived.Test.YtgdiilpocoimgaaDoorFWake
import Derived.Test.YtgdiilpocoimgaaDoorFItoa
set_option linter.unusedVariables false
set_option linter.unusedSimpArgs false
namespace Go.Proofs.YtgdiilpocoimgaaDoor.Hand
open Go.RowKit Go.Proofs.YtgdiilpocoimgaaDoor.Frm Go.Proofs.YtgdiilpocoimgaaDoorW.PrintWords Go.Proofs.YtgdiilpocoimgaaDoorW.PrintLast Go.Proofs.YtgdiilpocoimgaaDoorW.PrintMore
theorem conv_str {W : World} {A : Option Addr} (c : Nat) {l : List Int} (h : Kd.C (Kd.int .u8) W A l.length l) : (convert 22 9 (.slice A l.length c)).run Tryd.prog W = .ok (.string (strOfNums l)) W :=
  Kd.C_string (P := Tryd.prog) Tryd.underlying22 Tryd.underlying5 Tryd.underlying9 h
def wrapL (l : List Int) : List Int := pre ++ digs l.length ++ post ++ l
theorem wrapL_calls (A : Option Addr) (c : Nat) (l : List Int) (w : World) (hC : Kd.C (Kd.int .u8) w A l.length l) (hl : l.length ≤ 16777216) (hT : TabB w) :
    Calls Tryd.prog 19 #[.slice A l.length c] w fun e w' => ∃ a c', e = .returned (.tuple #[.slice (some a) (wrapL l).length c', .int .i64 0]) ∧ (wrapL l).length ≤ c' ∧ Kd.C (Kd.int .u8) w' (some a) (wrapL l).length (wrapL l) ∧ Below w.heap.size w w' :=
  wrap_calls A c l (digs l.length) w hC hl (Nat.le_trans (digs_len hl) (by decide)) (digs_bytes _) (itoa_calls _ hl hT)
theorem rwrapL_calls (A : Option Addr) (c : Nat) (l : List Int) (w : World) (hC : Kd.C (Kd.int .u8) w A l.length l) (hl : l.length ≤ 16777216) (hT : TabB w) :
    Calls Tryd.prog 20 #[.slice A l.length c] w fun e w' => ∃ a c', e = .returned (.tuple #[.slice (some a) (wrapL l).length c', .int .i64 0]) ∧ (wrapL l).length ≤ c' ∧ Kd.C (Kd.int .u8) w' (some a) (wrapL l).length (wrapL l) ∧ Below w.heap.size w w' :=
  rwrap_calls A c l (digs l.length) w hC hl (Nat.le_trans (digs_len hl) (by decide)) (digs_bytes _) (itoa_calls _ hl hT)
theorem nil_C (W : World) : Kd.C (Kd.int .u8) W none ([] : List Int).length [] := by
  exact Kd.C_nil _ W
set_option maxHeartbeats 4000000 in
set_option maxRecDepth 100000 in
theorem frameWraps_long (A : Option Addr) (c : Nat) (l : List Int) (w : World) (hC : Kd.C (Kd.int .u8) w A l.length l) (hl : l.length ≤ 140737488351232) (hl2 : 16777216 < l.length) :
    Calls Tryd.prog 5 #[.slice A l.length c] w fun e w' => e = .returned (.bool true) ∧ Below w.heap.size w w' := by
  have HC := Aside0.mk hC
  have HL := Aside0.mk (And.intro hl hl2)
  clear hC hl hl2
  go_enter Tryd.func5, Tryd.ntmps5
  go_wp2_with (first | (go_at_call 10; refine (wakes_calls _).mono ?_; rintro e w1 ⟨rfl, hB1⟩; have HB1 := Aside0.mk hB1; clear hB1) | (at_builtin; refine Kd.R_append_rows (Kd.int .u8) (w0 := w1) w1.heap.size rfl (.tmp 10) (.tmp 11) 22 5 (.int .u8 0) 1 rfl Tryd.underlying22 info5 rfl (by decide) (by omega) _ [] l _ _ _ (fun _ => True) (fun _ => False) rfl rfl ?aO ?aC (fun _ _ h => h) (fun _ h => h.elim) (fun _ _ => trivial) ?aB ?aS ?aL ?_))
  case aO => exact empty_R _ w1 (Nat.le_refl _)
  case aC => exact Kd.C_alloc (Kd.C_below HC.out HB1.out) _
  case aB => exact below_alloc (Below.refl _ _) _
  case aS => simp
  case aL => have := HL.out; simp only [List.length_nil]; omega
  intro v2 w2 hr2 hB2 _ _
  have HB2 := Aside0.mk (below_step HB1.out hB2)
  have hr3 : Kd.R (Kd.int .u8) 5 w2 w1.heap.size (fun _ => True) v2 l := hr2
  obtain ⟨A2, c2, rfl⟩ := Kd.R_slice hr3
  clear hr2 hB2 hr3
  have kb : (convert 22 9 (.slice none 0 0)).run Tryd.prog w2 = .ok (.string (strOfNums [])) w2 := conv_str (W := w2) 0 (nil_C w2)
  go_wp2_with (first | (go_at_call 19; refine (wrap_long _ _ _ _ HL.out.2).mono ?_; rintro e w' ⟨rfl, hw⟩; rw [hw]; clear hw) | (go_at_call 20; refine (rwrap_long _ _ _ _ HL.out.2).mono ?_; rintro e w' ⟨rfl, hw⟩; rw [hw]; clear hw))
  go_ret
  exact ⟨by first | rfl | simp, HB2.out⟩
set_option maxHeartbeats 4000000 in
set_option maxRecDepth 100000 in
theorem frameWraps_short (A : Option Addr) (c : Nat) (l : List Int) (w : World) (hC : Kd.C (Kd.int .u8) w A l.length l) (hT : TabB w) (hl : l.length ≤ 16777216) :
    Calls Tryd.prog 5 #[.slice A l.length c] w fun e w' => e = .returned (.bool true) ∧ Below w.heap.size w w' := by
  have HC := Aside0.mk hC
  have HL := Aside0.mk hl
  have HT := Aside0.mk hT
  clear hC hl hT
  go_enter Tryd.func5, Tryd.ntmps5
  go_wp2_with (first | (go_at_call 10; refine (wakes_calls _).mono ?_; rintro e w1 ⟨rfl, hB1⟩; have HB1 := Aside0.mk hB1; clear hB1) | (at_builtin; refine Kd.R_append_rows (Kd.int .u8) (w0 := w1) w1.heap.size rfl (.tmp 10) (.tmp 11) 22 5 (.int .u8 0) 1 rfl Tryd.underlying22 info5 rfl (by decide) (by omega) _ [] l _ _ _ (fun _ => True) (fun _ => False) rfl rfl ?aO ?aC (fun _ _ h => h) (fun _ h => h.elim) (fun _ _ => trivial) ?aB ?aS ?aL ?_))
  case aO => exact empty_R _ w1 (Nat.le_refl _)
  case aC => exact Kd.C_alloc (Kd.C_below HC.out HB1.out) _
  case aB => exact below_alloc (Below.refl _ _) _
  case aS => simp
  case aL => have := HL.out; simp only [List.length_nil]; omega
  intro v2 w2 hr2 hB2 _ _
  have HB2 := Aside0.mk (below_step HB1.out hB2)
  have hr3 : Kd.R (Kd.int .u8) 5 w2 w1.heap.size (fun _ => True) v2 l := hr2
  obtain ⟨A2, c2, rfl, hcc2, hC2⟩ := Kd.R_reads hr3
  have HC2 := Aside0.mk hC2
  clear hcc2 hC2
  clear hr2 hB2 hr3
  go_wp2_with (first | (go_at_call 19; refine (wrapL_calls A2 c2 l w2 HC2.out HL.out (HT.out.step HB2.out)).mono ?_; rintro e w3 ⟨a3, c3, rfl, hc3, hC3, hB3⟩; have HC3 := Aside0.mk hC3; have HB3 := Aside0.mk (below_step HB2.out hB3); have HBB3 := Aside0.mk hB3; clear hc3 hC3 hB3) | (go_at_call 20; refine (rwrapL_calls A c l w3 (Kd.C_below HC.out HB3.out) HL.out (HT.out.step HB3.out)).mono ?_; rintro e w4 ⟨a4, c4, rfl, hc4, hC4, hB4⟩; have kb3 := conv_str c3 (Kd.C_below HC3.out hB4); have kb4 := conv_str c4 hC4; have HB4 := Aside0.mk (below_step HB3.out hB4); clear hc4 hC4 hB4))
  go_ret
  exact ⟨by first | rfl | simp, HB4.out⟩
theorem frameWraps_calls (A : Option Addr) (c : Nat) (l : List Int) (w : World) (hC : Kd.C (Kd.int .u8) w A l.length l) (hT : TabB w) (hl : l.length ≤ 140737488351232) :
    Calls Tryd.prog 5 #[.slice A l.length c] w fun e w' => e = .returned (.bool true) ∧ Below w.heap.size w w' := by
  rcases Nat.lt_or_ge 16777216 l.length with h | h
  · exact frameWraps_long A c l w hC hl h
  · exact frameWraps_short A c l w hC hT h
end Go.Proofs.YtgdiilpocoimgaaDoor.Hand
