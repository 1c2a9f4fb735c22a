/- The calls whose answers the document fixes. -/
import Derived.Test.YtgdiilpocoimgaaDoorFWrap
import Derived.Test.YtgdiilpocoimgaaDoorFFeed2
set_option linter.unusedVariables false
set_option linter.unusedSimpArgs false
namespace Go.Proofs.YtgdiilpocoimgaaDoor.Hand
open Go.RowKit Go.Proofs.YtgdiilpocoimgaaDoor.Frm Go.Proofs.YtgdiilpocoimgaaDoorW.PrintWords Go.Proofs.YtgdiilpocoimgaaDoorW.PrintLast Go.Proofs.YtgdiilpocoimgaaDoorW.PrintMore

theorem itoa_two (w : World) : Calls Tryd.prog 28 #[.int .i64 2] w fun e W' => e = .returned (.string (strOfNums [50])) ∧ Below w.heap.size w W' := by
  refine (Tryd.strconv_Itoa_small 2 (by decide) w).mono ?_
  rintro e w' ⟨rfl, rfl⟩
  refine ⟨?_, Below.refl _ _⟩
  have : Lib.decDigits 2 = [50] := by rw [Lib.decDigits]; rfl
  rw [this]; rfl
theorem two_C (W : World) : Kd.C (Kd.int .u8) (W.alloc (.cells #[.int .u8 123, .int .u8 125] 5 (2, 3))) (some ⟨W.heap.size, 0, none⟩) 2 [123, 125] :=
  C_of_cells _ W.heap.size _ 5 (2, 3) [123, 125] (Deep.blk_alloc_new W _) rfl (by decide)
def msg0 : List Int := [67, 111, 110, 116, 101, 110, 116, 45, 76, 101, 110, 103, 116, 104, 58, 32, 50, 13, 10, 13, 10, 123, 125]
def tail0 : List Int := [99, 111, 110, 84]
def msg1 : List Int := [101, 110, 116, 45, 108, 101, 110, 103, 116, 104, 58, 48, 13, 10, 13, 10]
theorem msg1_C (W : World) : Kd.C (Kd.int .u8) (W.alloc (.cells #[.int .u8 101, .int .u8 110, .int .u8 116, .int .u8 45, .int .u8 108, .int .u8 101, .int .u8 110, .int .u8 103, .int .u8 116, .int .u8 104, .int .u8 58, .int .u8 48, .int .u8 13, .int .u8 10, .int .u8 13, .int .u8 10] 5 (16, 17))) (some ⟨W.heap.size, 0, none⟩) 16 msg1 :=
  C_of_cells _ W.heap.size _ 5 (16, 17) msg1 (Deep.blk_alloc_new W _) rfl (by decide)
theorem head0 : headL (msg0 ++ tail0) 10 = (21, 2, 1) := by decide +kernel
theorem head1 : headL tail0 10 = (0, 0, 0) := by decide +kernel
theorem head2 : headL (tail0 ++ msg1) 10 = (20, 0, 1) := by decide +kernel
theorem feed0 (k : Nat) (hk : 27 < k) : feedN k 10 (msg0 ++ tail0) [] = ([[123, 125]], tail0, 0) := by
  obtain ⟨k, rfl⟩ : ∃ k', k = k' + 2 := ⟨k - 2, by omega⟩
  rw [feedN, head0, if_neg (by decide), if_neg (by decide), if_neg (by decide)]
  show feedN (k + 1) 10 tail0 [[123, 125]] = _
  rw [feedN, head1, if_neg (by decide), if_neg (by decide), if_pos (by decide)]
theorem feed1 (k : Nat) (hk : 20 < k) : feedN k 10 (tail0 ++ msg1) [] = ([[]], [], 0) := by
  obtain ⟨k, rfl⟩ : ∃ k', k = k' + 2 := ⟨k - 2, by omega⟩
  rw [feedN, head2, if_neg (by decide), if_neg (by decide), if_neg (by decide)]
  show feedN (k + 1) 10 [] [[]] = _
  rw [feedN, if_pos (show ([] : List Int).length = 0 from rfl)]
theorem empty_R (base : Nat) (W : World) (hb : base ≤ W.heap.size) : Kd.R (Kd.int .u8) 5 (W.alloc (.cells #[] 5)) base (fun _ => True) (.slice (some ⟨W.heap.size, 0, none⟩) 0 0) [] :=
  Kd.R_of_own (enc := Value.int .u8) (h1 := fun _ => rfl) (World.ownsRow_made W #[] 0 hb (by decide) rfl) (fun _ _ => trivial)
set_option maxHeartbeats 8000000 in
set_option maxRecDepth 1000000 in
theorem wakes_calls (w : World) : Calls Tryd.prog 10 #[] w fun e w' => e = .returned (.bool true) ∧ Below w.heap.size w w' := by
  obtain ⟨j, hj, hjs⟩ := Option.map_eq_some_iff.1 sizeReader
  have kc := fun (W : World) (C : Array Value) (n c : Nat) => Lib.run_convert_bytes_const (P := Tryd.prog) W 22 5 C n c Tryd.underlying22 Tryd.underlying5
  go_enter Tryd.func10, Tryd.ntmps10
  go_wp2_with (fail)
  refine (wrap_calls _ _ [123, 125] [50] _ (two_C w) (by decide) (by decide) (by decide) (itoa_two _)).mono ?_
  rintro e w1 ⟨a, c1, rfl, hc1, hC1, hB1⟩
  have hC1' : Kd.C (Kd.int .u8) w1 (some a) msg0.length msg0 := hC1
  have HC1 := Aside0.mk hC1'
  have HB1 := Aside0.mk (below_step (below_alloc (Below.refl w.heap.size w) (.cells #[.int .u8 123, .int .u8 125] 5 (2, 3))) hB1)
  have HCC1 := Aside0.mk (show msg0.length ≤ c1 from hc1)
  clear hC1 hC1' hB1 hc1
  have e23 : (pre ++ [50] ++ post ++ [123, 125] : List Int).length = 23 := rfl
  rw [e23]
  go_wp2_with (fail)
  refine (new_calls 10 w1 (by decide) (by decide)).mono ?_
  rintro e w2 ⟨rfl, hrd, hB2⟩
  have HRD := Aside0.mk hrd
  have HB2 := Aside0.mk (below_step HB1.out hB2)
  have HB12 := Aside0.mk hB2
  have HC2 := Aside0.mk (Kd.C_below HC1.out hB2)
  have hcv : (convert 22 9 (.slice (some a) 23 c1)).run Tryd.prog w2 = .ok (.string ⟨#[67, 111, 110, 116, 101, 110, 116, 45, 76, 101, 110, 103, 116, 104, 58, 32, 50, 13, 10, 13, 10, 123, 125]⟩) w2 := Kd.C_string (P := Tryd.prog) (A := some a) (c := c1) Tryd.underlying22 Tryd.underlying5 Tryd.underlying9 HC2.out
  have hb1 := HB1.out.size
  clear hrd hB2 HC1
  go_wp2_with (first | (go_at_call 13; refine (done_calls _ _ _ _ _ _ _ HRD.out).mono ?_; rintro e w' ⟨rfl, hw⟩; rw [hw]; clear hw) | (at_builtin; refine Kd.R_append_rows (Kd.int .u8) (w0 := w2) w2.heap.size rfl (.tmp 41) (.tmp 42) 22 5 (.int .u8 0) 1 rfl Tryd.underlying22 info5 rfl (by decide) (by omega) _ [] msg0 _ _ _ (fun _ => True) (fun _ => False) rfl rfl ?aO ?aC (fun _ _ h => h) (fun _ h => h.elim) (fun _ _ => trivial) ?aB ?aS (by decide) ?_))
  case aO => exact empty_R _ w2 (Nat.le_refl _)
  case aC => exact Kd.C_alloc HC2.out _
  case aB => exact below_alloc (Below.refl _ _) _
  case aS => simp
  intro v3 w3 hr3 hB3 _ _
  go_wp2_with (at_builtin; refine print_append_str (w0 := w2) w2.heap.size rfl (.tmp 43) (.const (.string ⟨#[99, 111, 110, 84]⟩)) 22 9 5 rfl Tryd.underlying22 Tryd.underlying9 info5 v3 msg0 ⟨#[99, 111, 110, 84]⟩ rfl rfl (Kd.own_of_R hr3) hB3 hB3.size (by decide) ?_)
  intro v4 w4 ho4 hB4 _
  have hr4 : Kd.R (Kd.int .u8) 5 w4 w2.heap.size (fun _ => True) v4 (msg0 ++ tail0) := Kd.R_of_own (enc := Value.int .u8) (h1 := fun _ => rfl) ho4 (fun _ _ => trivial)
  obtain ⟨A4, c4, rfl⟩ := Kd.R_slice hr4
  have HRD4 := Aside0.mk (HRD.out.below hB4)
  have HB4 := Aside0.mk (below_step HB2.out hB4)
  have HR4 := Aside0.mk hr4
  have HW14 := Aside0.mk (below_step HB12.out hB4)
  clear hr3 hB3 ho4 hB4 hr4 HRD HB2 hcv HC2
  go_wp2_with (fail)
  refine (feed_calls w1 w4 w1.heap.size 10 _ [] A4 c4 (msg0 ++ tail0) HRD4.out HW14.out (Nat.le_refl _) (by decide) (by decide) (Kd.R_reads' HR4.out).2.2 (by decide) (by decide) (by decide)).mono ?_
  rintro e w5 ⟨v5, vo, k, rfl, hk, hrd5, hro5, hB5, _, _, hsz⟩
  rw [List.nil_append, feed0 k (by simpa [msg0, tail0] using hk)] at hrd5 hro5 ⊢
  obtain ⟨Ao, co, rfl⟩ := Kd.R_slice hro5
  have hro' := (Kd.R_reads' hro5).2.2
  obtain ⟨ado, A6, c6, rfl, hcell6, _, hC6⟩ := at_L1 hro' 0 (by decide) (by decide)
  have hcell6' : w5.cell? ado = some (.slice A6 2 c6) := hcell6
  have hcell6'' : w5.cell? (ado.add 0) = some (.slice A6 2 c6) := hcell6
  have hcv6 : (convert 22 9 (.slice A6 2 c6)).run Tryd.prog w5 = .ok (.string ⟨#[123, 125]⟩) w5 := Kd.C_string (P := Tryd.prog) (A := A6) (c := c6) Tryd.underlying22 Tryd.underlying5 Tryd.underlying9 hC6
  have hrd5' : RD w1.heap.size w1.heap.size 10 v5 tail0 false w5 := hrd5
  have HRD5 := Aside0.mk hrd5'
  have HB5 := Aside0.mk hB5
  clear hrd5 hrd5' hro5 hro' hcell6 hC6 hB5 hk hsz HR4 HRD4
  have e1 : ([[123, 125]] : List (List Int)).length = 1 := rfl
  rw [e1]
  go_wp2_with (first | (go_at_call 12; refine (held_calls _ _ _ _ _ _ _ HRD5.out).mono ?_; rintro e w' ⟨rfl, hw⟩; rw [hw]; clear hw) | (go_at_call 13; refine (done_calls _ _ _ _ _ _ _ HRD5.out).mono ?_; rintro e w' ⟨rfl, hw⟩; rw [hw]; clear hw) | (go_at_call 11; fail))
  have HA5 := Aside0.mk (below_alloc (Below.refl w5.heap.size w5) (.cells #[.int .u8 101, .int .u8 110, .int .u8 116, .int .u8 45, .int .u8 108, .int .u8 101, .int .u8 110, .int .u8 103, .int .u8 116, .int .u8 104, .int .u8 58, .int .u8 48, .int .u8 13, .int .u8 10, .int .u8 13, .int .u8 10] 5 (16, 17)))
  refine (feed_calls w1 _ w1.heap.size 10 v5 tail0 _ _ msg1 (HRD5.out.below HA5.out) (below_step HB5.out HA5.out) (Nat.le_refl _) (by decide) (by decide) (msg1_C w5) (by decide) (by decide) (by decide)).mono ?_
  rintro e w7 ⟨v7, vo7, k7, rfl, hk7, hrd7, hro7, hB7, _, _, _⟩
  rw [feed1 k7 (by simpa [msg1, tail0] using hk7)] at hrd7 hro7 ⊢
  obtain ⟨Ao7, co7, rfl⟩ := Kd.R_slice hro7
  have hro' := (Kd.R_reads' hro7).2.2
  obtain ⟨ado7, A8, c8, rfl, hcell8, _, _⟩ := at_L1 hro' 0 (by decide) (by decide)
  have hcell8' : w7.cell? ado7 = some (.slice A8 0 c8) := hcell8
  have hcell8'' : w7.cell? (ado7.add 0) = some (.slice A8 0 c8) := hcell8
  have hrd7' : RD w1.heap.size w1.heap.size 10 v7 [] false w7 := hrd7
  have HRD7 := Aside0.mk hrd7'
  have HB7 := Aside0.mk (show Below w.heap.size w w7 from below_step HB1.out hB7)
  clear hrd7 hrd7' hro7 hro' hcell8 hB7 hk7
  have e2 : ([[]] : List (List Int)).length = 1 := rfl
  rw [e2]
  go_wp2_with (first | (go_at_call 12; refine (held_calls _ _ _ _ _ _ _ HRD7.out).mono ?_; rintro e w' ⟨rfl, hw⟩; rw [hw]; clear hw) | (go_at_call 13; refine (done_calls _ _ _ _ _ _ _ HRD7.out).mono ?_; rintro e w' ⟨rfl, hw⟩; rw [hw]; clear hw))
  go_ret
  exact ⟨by first | rfl | simp, HB7.out⟩
end Go.Proofs.YtgdiilpocoimgaaDoor.Hand
