/- The law FrameNil: its walk. -/
import Derived.Test.YtgdiilpocoimgaaDoorFWake
namespace Go.Proofs.YtgdiilpocoimgaaDoor.Hand
open Go.RowKit Go.Proofs.YtgdiilpocoimgaaDoor.Frm Go.Proofs.YtgdiilpocoimgaaDoorW.PrintWords Go.Proofs.YtgdiilpocoimgaaDoorW.PrintLast Go.Proofs.YtgdiilpocoimgaaDoorW.PrintMore
set_option maxHeartbeats 2000000 in
set_option maxRecDepth 100000 in
theorem frameNil_calls (A : Option Addr) (c : Nat) (l : List Int) (w : World) (hC : Kd.C (Kd.int .u8) w A l.length l) (hl : l.length ≤ 140737488351232) :
    Calls Tryd.prog 3 #[.slice A l.length c] w fun e w' => e = .returned (.bool true) ∧ Below w.heap.size w w' := by
  have HC := Aside0.mk hC
  have HL := Aside0.mk hl
  clear hC hl
  go_enter Tryd.func3, Tryd.ntmps3
  go_wp2_with (first | (go_at_call 10; refine (wakes_calls _).mono ?_; rintro e w1 ⟨rfl, hB1⟩; have HB1 := Aside0.mk hB1; clear hB1) | (at_builtin; refine Kd.R_append_rows (Kd.int .u8) (w0 := w1) w1.heap.size rfl (.tmp 10) (.tmp 11) 22 5 (.int .u8 0) 1 rfl Tryd.underlying22 info5 rfl (by decide) (by omega) _ [] l _ _ _ (fun _ => True) (fun _ => False) rfl rfl ?aO ?aC (fun _ _ h => h) (fun _ h => h.elim) (fun _ _ => trivial) ?aB ?aS ?aL ?_))
  case aO => exact empty_R _ w1 (Nat.le_refl _)
  case aC => exact Kd.C_alloc (Kd.C_below HC.out HB1.out) _
  case aB => exact below_alloc (Below.refl _ _) _
  case aS => simp
  case aL => have := HL.out; simp only [List.length_nil]; omega
  intro v2 w2 hr2 hB2 _ _
  have HB2 := Aside0.mk (below_step HB1.out hB2)
  obtain ⟨A2, c2, rfl⟩ := Kd.R_slice hr2
  clear hr2 hB2
  go_wp2_with (first | (go_at_call 11; refine (feed_nil _ _ _ _).mono ?_; rintro e w' ⟨rfl, hw⟩; rw [hw]; clear hw) | (go_at_call 12; refine (held_nil _).mono ?_; rintro e w' ⟨rfl, hw⟩; rw [hw]; clear hw) | (go_at_call 13; refine (done_nil _).mono ?_; rintro e w' ⟨rfl, hw⟩; rw [hw]; clear hw))
  go_ret
  exact ⟨by first | rfl | simp, HB2.out⟩
end Go.Proofs.YtgdiilpocoimgaaDoor.Hand
