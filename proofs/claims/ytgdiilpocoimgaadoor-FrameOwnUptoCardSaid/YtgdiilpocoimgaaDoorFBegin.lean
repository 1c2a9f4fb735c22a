/- The document's New, Held and Done; a reader begun beside the document's.
The program's Feed beside the document's: what stands of the one behind a call of the other. -/
import Derived.Test.YtgdiilpocoimgaaDoorFRfeed
import Derived.Test.YtgdiilpocoimgaaDoorFLong
set_option linter.unusedVariables false
set_option linter.unusedSimpArgs false
namespace Go.Proofs.YtgdiilpocoimgaaDoor.Hand
open Go.RowKit Go.Proofs.YtgdiilpocoimgaaDoor.Frm Go.Proofs.YtgdiilpocoimgaaDoorW.PrintWords Go.Proofs.YtgdiilpocoimgaaDoorW.PrintLast Go.Proofs.YtgdiilpocoimgaaDoorW.PrintMore
set_option maxHeartbeats 2000000 in
set_option maxRecDepth 100000 in
theorem rheld_calls (s : St) (Al : Option Addr) (cl : Nat) (Ab : Option Addr) (cb : Nat) (w : World) (N : Nat) (hN : s.header + s.body.length = N) (hs : N ≤ 1000000000000) :
    Calls Tryd.prog 18 #[.agg #[.int .i64 s.most, .int .i64 (s.header : Int), .slice Al s.line.length cl, .int .i64 s.said, .bool s.whole, .slice Ab s.body.length cb, .bool s.dead]] w fun e w' => e = .returned (.int .i64 (N : Int)) ∧ Below w.heap.size w w' := by
  have hw : wrap64 ((s.header : Int) + (s.body.length : Int)) = (N : Int) := by rw [wr64 (by omega) (by omega)]; omega
  have hu32 := Tryd.underlying32
  clear hN hs
  go_enter Tryd.func18, Tryd.ntmps18
  go_wp2_with (first | ((with_reducible refine gate_dst (N := 1) rfl ?_); refine box_event ?hg (N := 1) ?hd (cs := #[.int .i64 s.most, .int .i64 (s.header : Int), .slice Al s.line.length cl, .int .i64 s.said, .bool s.whole, .slice Ab s.body.length cb, .bool s.dead]) (t := 32) ?hr ?_; (case hd => rfl); (case hg => rfl); (case hr => first | (go_simp; done) | (go_simp; rfl)); intro g1 hg1 w1 hb1 hB1; have HB1 := Aside0.mk hB1; have hc1 : w1.cell? ⟨g1, 1, none⟩ = some (.int .i64 (s.header : Int)) := (blk_cell hb1 1).trans rfl; have hc5 : w1.cell? ⟨g1, 5, none⟩ = some (.slice Ab s.body.length cb) := (blk_cell hb1 5).trans rfl; clear hg1 hb1 hB1))
  go_ret
  exact ⟨congrArg (fun z => Ending.returned (Value.int .i64 z)) hw, HB1.out⟩
set_option maxHeartbeats 2000000 in
set_option maxRecDepth 100000 in
theorem rdone_calls (s : St) (Al : Option Addr) (cl : Nat) (Ab : Option Addr) (cb : Nat) (w : World) :
    Calls Tryd.prog 21 #[.agg #[.int .i64 s.most, .int .i64 (s.header : Int), .slice Al s.line.length cl, .int .i64 s.said, .bool s.whole, .slice Ab s.body.length cb, .bool s.dead]] w fun e w' => e = .returned (.bool (!s.dead && decide (s.header = 0))) ∧ Below w.heap.size w w' := by
  have hu32 := Tryd.underlying32
  obtain ⟨d, hd⟩ : ∃ d, s.dead = d := ⟨_, rfl⟩
  rw [hd]
  cases d with
  | true =>
    clear hd
    go_enter Tryd.func21, Tryd.ntmps21
    go_wp2_with (first | ((with_reducible refine gate_dst (N := 1) rfl ?_); refine box_event ?hg (N := 1) ?hd (cs := #[.int .i64 s.most, .int .i64 (s.header : Int), .slice Al s.line.length cl, .int .i64 s.said, .bool s.whole, .slice Ab s.body.length cb, .bool true]) (t := 32) ?hr ?_; (case hd => rfl); (case hg => rfl); (case hr => first | (go_simp; done) | (go_simp; rfl)); intro g1 hg1 w1 hb1 hB1; have HB1 := Aside0.mk hB1; have hc1 : w1.cell? ⟨g1, 1, none⟩ = some (.int .i64 (s.header : Int)) := (blk_cell hb1 1).trans rfl; have hc6 : w1.cell? ⟨g1, 6, none⟩ = some (.bool true) := (blk_cell hb1 6).trans rfl; clear hg1 hb1 hB1))
    go_ret
    exact ⟨rfl, HB1.out⟩
  | false =>
    clear hd
    by_cases hz : s.header = 0
    · have hb : ((s.header : Int) == 0) = true := beq_iff_eq.2 (by omega)
      rw [decide_eq_true hz]
      clear hz
      go_enter Tryd.func21, Tryd.ntmps21
      go_wp2_with (first | ((with_reducible refine gate_dst (N := 1) rfl ?_); refine box_event ?hg (N := 1) ?hd (cs := #[.int .i64 s.most, .int .i64 (s.header : Int), .slice Al s.line.length cl, .int .i64 s.said, .bool s.whole, .slice Ab s.body.length cb, .bool false]) (t := 32) ?hr ?_; (case hd => rfl); (case hg => rfl); (case hr => first | (go_simp; done) | (go_simp; rfl)); intro g1 hg1 w1 hb1 hB1; have HB1 := Aside0.mk hB1; have hc1 : w1.cell? ⟨g1, 1, none⟩ = some (.int .i64 (s.header : Int)) := (blk_cell hb1 1).trans rfl; have hc6 : w1.cell? ⟨g1, 6, none⟩ = some (.bool false) := (blk_cell hb1 6).trans rfl; clear hg1 hb1 hB1))
      go_ret
      exact ⟨by first | rfl | (simp [*]; done), HB1.out⟩
    · have hb : ((s.header : Int) == 0) = false := beq_eq_false_iff_ne.2 (by omega)
      rw [decide_eq_false hz]
      clear hz
      go_enter Tryd.func21, Tryd.ntmps21
      go_wp2_with (first | ((with_reducible refine gate_dst (N := 1) rfl ?_); refine box_event ?hg (N := 1) ?hd (cs := #[.int .i64 s.most, .int .i64 (s.header : Int), .slice Al s.line.length cl, .int .i64 s.said, .bool s.whole, .slice Ab s.body.length cb, .bool false]) (t := 32) ?hr ?_; (case hd => rfl); (case hg => rfl); (case hr => first | (go_simp; done) | (go_simp; rfl)); intro g1 hg1 w1 hb1 hB1; have HB1 := Aside0.mk hB1; have hc1 : w1.cell? ⟨g1, 1, none⟩ = some (.int .i64 (s.header : Int)) := (blk_cell hb1 1).trans rfl; have hc6 : w1.cell? ⟨g1, 6, none⟩ = some (.bool false) := (blk_cell hb1 6).trans rfl; clear hg1 hb1 hB1))
      go_ret
      exact ⟨by first | rfl | (simp [*]; done), HB1.out⟩
def stB : St := ⟨0, 0, [], 0, false, [], false⟩
set_option maxHeartbeats 4000000 in
set_option maxRecDepth 100000 in
theorem begin_calls (n : Int) (w : World) (hn0 : 0 ≤ n) (hn1 : n ≤ 16777216) :
    Calls Tryd.prog 14 #[.int .i64 n] w fun e w' => ∃ b A1 c1 A2 c2, e = .returned (.tuple #[.pointer (some ⟨b, 0, none⟩), .agg #[.int .i64 n, .int .i64 0, .slice A1 0 c1, .int .i64 (-1), .bool false, .slice A2 0 c2, .bool false], .bool true, .bool true]) ∧ SR w' (st0 n) (.slice A1 0 c1) (.slice A2 0 c2) ∧ w.heap.size ≤ b ∧ w'.heap[b]? = some (.cells #[.int .i64 n, .slice none 0 0, .bool false] 53 (0, 0)) ∧ (∀ k, (Value.slice A1 0 c1).ownBlock = some k → k < w'.heap.size) ∧ (∀ k, (Value.slice A2 0 c2).ownBlock = some k → k < w'.heap.size) ∧ Below w.heap.size w w' := by
  have HN := Aside0.mk (And.intro hn0 hn1)
  have hu32 := Tryd.underlying32
  have hnew : galleyref25_New.f n = some (n, 0, [], (-1), false, [], false, 0) := by
    unfold galleyref25_New.f
    rw [if_neg (by omega), if_neg (by omega)]
  have HNEW := Aside0.mk hnew
  clear hnew hn0 hn1
  go_enter Tryd.func14, Tryd.ntmps14
  go_wp2_with (first | ((with_reducible refine gate_dst (N := 3) rfl ?_); refine box_event ?hg (N := 3) ?hd (cs := #[.int .i64 0, .int .i64 0, .slice none 0 0, .int .i64 0, .bool false, .slice none 0 0, .bool false]) (t := 32) ?hr ?_; (case hd => rfl); (case hg => rfl); (case hr => first | (go_simp; done) | (go_simp; rfl)); intro g3 hg3 w3 hb3 hB3; have HG3 := Aside0.mk hg3; have HK3a := Aside0.mk hb3; have HB3 := Aside0.mk hB3; clear hg3 hb3 hB3))
  refine (new_calls n w3 HN.out.1 HN.out.2).mono ?_
  rintro e w5 ⟨rfl, hrd, hB5⟩
  obtain ⟨b, hb⟩ : ∃ b, w3.heap.size = b := ⟨_, rfl⟩
  rw [hb] at hrd ⊢
  have HBL := Aside0.mk (show w.heap.size ≤ b ∧ g3 < b by rw [← hb]; exact ⟨HB3.out.size, blk_lt HK3a.out⟩)
  clear hb
  have HRC := Aside0.mk hrd.cell
  have HRL := Aside0.mk hrd.lt
  have HB5 := Aside0.mk (below_step HB3.out hB5)
  have HK35 := Aside0.mk (blk_below HK3a.out hB5)
  clear hrd hB5
  go_wp2_with (fail)
  refine (galleyref25_New.calls n _ _ _ _ _ _ _ _ _ HNEW.out).mono ?_
  rintro e w6 ⟨v1, v2, rfl, hr1, hr2, hB6⟩
  obtain ⟨A1, c1, rfl⟩ := Kd.R_slice hr1
  obtain ⟨A2, c2, rfl⟩ := Kd.R_slice hr2
  have HR1 := Aside0.mk (ReadsL.row hr1)
  have HR2 := Aside0.mk (ReadsL.row hr2)
  have HB6 := Aside0.mk (below_step HB5.out hB6)
  have HLO := Aside0.mk (And.intro (Kd.R_lt hr1) (Kd.R_lt hr2))
  have HK36 := Aside0.mk (blk_below HK35.out hB6)
  have HRC6 := Aside0.mk (blk_below HRC.out hB6)
  clear hr1 hr2 hB6
  go_wp2_with (first | ((with_reducible refine gate_dst (N := 8) rfl ?_); refine box_event ?hg (N := 8) ?hd (cs := #[.int .i64 0, .int .i64 0, .slice none 0 0, .int .i64 0, .bool false, .slice none 0 0, .bool false]) (t := 32) ?hr ?_; (case hd => rfl); (case hg => rfl); (case hr => first | (go_simp; done) | (go_simp; rfl)); intro g8 hg8 w7 hb8 hB8; have HG8 := Aside0.mk hg8; have HK8a := Aside0.mk hb8; have HB7 := Aside0.mk (below_step HB6.out hB8); have HK37 := Aside0.mk (blk_below HK36.out hB8); have HR17 := Aside0.mk (HR1.out.below hB8); have HR27 := Aside0.mk (HR2.out.below hB8); have HSZ7 := Aside0.mk hB8.size; have HRC7 := Aside0.mk (blk_below HRC6.out hB8); clear hg8 hb8 hB8) | ((with_reducible refine gate_ (.store 32 (.tmp 8) (.tmp 18)) rfl ?_); refine st_store rfl rfl 32 (.tmp 8) (.tmp 18) rfl (g := g8) (j := 0) (cur' := #[.int .i64 n, .int .i64 0, .slice A1 0 c1, .int .i64 (-1), .bool false, .slice A2 0 c2, .bool false]) [.int .i64 n, .int .i64 0, .slice A1 0 c1, .int .i64 (-1), .bool false, .slice A2 0 c2, .bool false] (.agg #[.int .i64 n, .int .i64 0, .slice A1 0 c1, .int .i64 (-1), .bool false, .slice A2 0 c2, .bool false]) rfl rfl rfl sizeRef (by simp [Value.oneCell']) HK8a.out (by simp) rfl ?_))
  intro w8 k8 o8
  have HG := Aside0.mk (show g3 < g8 ∧ w.heap.size ≤ g3 ∧ w.heap.size ≤ g8 ∧ g3 ≠ b ∧ g8 ≠ b by have := HG8.out; have := HG3.out; have := blk_lt HK36.out; have := HB6.out.size; have := blk_lt HRC6.out; have := HBL.out; omega)
  have HK3 := Aside0.mk ((o8.block g3 (by have := HG.out; omega)).trans HK37.out)
  have HB8 := Aside0.mk (o8.below HB7.out (by have := HG.out; omega))
  have HSZ8 := Aside0.mk (show w6.heap.size ≤ w8.heap.size by rw [o8.size]; exact HSZ7.out)
  have HS8 := Aside0.mk (show SR w8 (st0 n) (.slice A1 0 c1) (.slice A2 0 c2) from ⟨HR17.out.only o8 HK8a.out (noU8_seg rfl rfl), HR27.out.only o8 HK8a.out (noU8_seg rfl rfl)⟩)
  have HRC8 := Aside0.mk ((o8.block b (by have := HG.out; omega)).trans HRC7.out)
  have hc0 : w8.cell? ⟨g8, 0, none⟩ = some (.int .i64 n) := (blk_cell k8 0).trans rfl
  have hc1 : w8.cell? ⟨g8, 1, none⟩ = some (.int .i64 0) := (blk_cell k8 1).trans rfl
  have hc2 : w8.cell? ⟨g8, 2, none⟩ = some (.slice A1 0 c1) := (blk_cell k8 2).trans rfl
  have hc3 : w8.cell? ⟨g8, 3, none⟩ = some (.int .i64 (-1)) := (blk_cell k8 3).trans rfl
  have hc4 : w8.cell? ⟨g8, 4, none⟩ = some (.bool false) := (blk_cell k8 4).trans rfl
  have hc5 : w8.cell? ⟨g8, 5, none⟩ = some (.slice A2 0 c2) := (blk_cell k8 5).trans rfl
  have hc6 : w8.cell? ⟨g8, 6, none⟩ = some (.bool false) := (blk_cell k8 6).trans rfl
  clear k8 o8 HK8a HK37 HR17 HR27
  go_wp2
  refine start_ (n := 8) (S := fun w' => w'.cell? ⟨g8, 0, none⟩ = some (.int .i64 n) ∧ w'.cell? ⟨g8, 1, none⟩ = some (.int .i64 0) ∧ w'.cell? ⟨g8, 2, none⟩ = some (.slice A1 0 c1) ∧ w'.cell? ⟨g8, 3, none⟩ = some (.int .i64 (-1)) ∧ w'.cell? ⟨g8, 4, none⟩ = some (.bool false) ∧ w'.cell? ⟨g8, 5, none⟩ = some (.slice A2 0 c2) ∧ w'.cell? ⟨g8, 6, none⟩ = some (.bool false)) (ds := []) #[false, false, false, false, false, false, false, false] (by kernel_rfl) rfl rfl ⟨hc0, hc1, hc2, hc3, hc4, hc5, hc6⟩ (fun hHeld => ?_)
  refine pure_ (i := 0) (N := some 31) (v := ?_) (a' := ?_) #[true, false, false, false, false, false, false, false] rfl rfl (by kernel_rfl) (fun _ _ _ h => h) (Or.inl ⟨by rfl, ?_⟩) ?_ ?_
  rotate_left
  · intro w'
    go_simp
    with_reducible rfl
  rotate_left
  · simp only [Act.put, List.setIfInBounds_toArray, List.set_cons_zero, List.set_cons_succ, i64_w, i32_w]
    rfl
  refine pure_ (i := 2) (N := some 33) (v := ?_) (a' := ?_) #[true, false, true, false, false, false, false, false] rfl rfl (by kernel_rfl) (fun _ _ _ h => h) (Or.inl ⟨by rfl, ?_⟩) ?_ ?_
  rotate_left
  · intro w'
    go_simp
    with_reducible rfl
  rotate_left
  · simp only [Act.put, List.setIfInBounds_toArray, List.set_cons_zero, List.set_cons_succ, i64_w, i32_w]
    rfl
  refine pure_ (i := 3) (N := some 34) (v := ?_) (a' := ?_) #[true, false, true, true, false, false, false, false] rfl rfl (by kernel_rfl) (fun _ _ _ h => h) (Or.inl ⟨by rfl, ?_⟩) ?_ ?_
  rotate_left
  · intro w'
    go_simp
    with_reducible rfl
  rotate_left
  · simp only [Act.put, List.setIfInBounds_toArray, List.set_cons_zero, List.set_cons_succ, i64_w, i32_w]
    rfl
  refine pure_ (i := 4) (N := some 2) (v := ?_) (a' := ?_) #[true, false, true, true, true, false, false, false] rfl rfl (by kernel_rfl) (fun _ _ _ h => h) (Or.inl ⟨by rfl, ?_⟩) ?_ ?_
  rotate_left
  · intro w'
    go_simp
    with_reducible rfl
  rotate_left
  · simp only [Act.put, List.setIfInBounds_toArray, List.set_cons_zero, List.set_cons_succ, i64_w, i32_w]
    rfl
  refine take_ (i := 1) (N := some 32) (v := ?_) (a' := ?_) #[true, true, true, true, true, false, false, false] rfl rfl (by kernel_rfl) (fun _ _ _ h => h) (Or.inl ⟨by rfl, ?_⟩) hHeld ?_ ?_
  rotate_left
  · rintro w' ⟨s0, s1, s2, s3, s4, s5, s6⟩
    go_simp
    with_reducible rfl
  rotate_left
  · simp only [Act.put, List.setIfInBounds_toArray, List.set_cons_zero, List.set_cons_succ, i64_w, i32_w]
    rfl
  refine one_ (i := 5) (N := none) #[true, true, true, true, true, true, false, false] rfl rfl (by kernel_rfl) (by decide) (fun K hK => ?_)
  refine skip_ (w1 := w8.drew.setCells g3 0 [.int .i64 n, .int .i64 0, .slice A1 0 c1, .int .i64 (-1), .bool false, .slice A2 0 c2, .bool false]) (by rfl) rfl (store_run rfl [.int .i64 n, .int .i64 0, .slice A1 0 c1, .int .i64 (-1), .bool false, .slice A2 0 c2, .bool false] _ rfl rfl rfl sizeRef (by simp [Value.oneCell']) HK3.out (by simp)) ?_
  refine hK.out _ _ ⟨(cell_only (put_all w8.drew g3 _ 32 [.int .i64 n, .int .i64 0, .slice A1 0 c1, .int .i64 (-1), .bool false, .slice A2 0 c2, .bool false] HK3.out (by simp)).2 (by have := HG.out; omega)).trans hc0, (cell_only (put_all w8.drew g3 _ 32 [.int .i64 n, .int .i64 0, .slice A1 0 c1, .int .i64 (-1), .bool false, .slice A2 0 c2, .bool false] HK3.out (by simp)).2 (by have := HG.out; omega)).trans hc1, (cell_only (put_all w8.drew g3 _ 32 [.int .i64 n, .int .i64 0, .slice A1 0 c1, .int .i64 (-1), .bool false, .slice A2 0 c2, .bool false] HK3.out (by simp)).2 (by have := HG.out; omega)).trans hc2, (cell_only (put_all w8.drew g3 _ 32 [.int .i64 n, .int .i64 0, .slice A1 0 c1, .int .i64 (-1), .bool false, .slice A2 0 c2, .bool false] HK3.out (by simp)).2 (by have := HG.out; omega)).trans hc3, (cell_only (put_all w8.drew g3 _ 32 [.int .i64 n, .int .i64 0, .slice A1 0 c1, .int .i64 (-1), .bool false, .slice A2 0 c2, .bool false] HK3.out (by simp)).2 (by have := HG.out; omega)).trans hc4, (cell_only (put_all w8.drew g3 _ 32 [.int .i64 n, .int .i64 0, .slice A1 0 c1, .int .i64 (-1), .bool false, .slice A2 0 c2, .bool false] HK3.out (by simp)).2 (by have := HG.out; omega)).trans hc5, (cell_only (put_all w8.drew g3 _ 32 [.int .i64 n, .int .i64 0, .slice A1 0 c1, .int .i64 (-1), .bool false, .slice A2 0 c2, .bool false] HK3.out (by simp)).2 (by have := HG.out; omega)).trans hc6⟩ (fun hHeld => ?_)
  clear hK K
  refine pure_ (i := 6) (N := some 4) (v := ?_) (a' := ?_) #[true, true, true, true, true, true, true, false] rfl rfl (by kernel_rfl) (fun _ _ _ h => h) (Or.inl ⟨by rfl, ?_⟩) ?_ ?_
  rotate_left
  · intro w'
    go_simp
    with_reducible rfl
  rotate_left
  · simp only [Act.put, List.setIfInBounds_toArray, List.set_cons_zero, List.set_cons_succ, i64_w, i32_w]
    rfl
  refine pure_ (i := 7) (N := some 5) (v := ?_) (a' := ?_) #[true, true, true, true, true, true, true, true] rfl rfl (by kernel_rfl) (fun _ _ _ h => h) (Or.inl ⟨by rfl, ?_⟩) ?_ ?_
  rotate_left
  · intro w'
    go_simp
    with_reducible rfl
  rotate_left
  · simp only [Act.put, List.setIfInBounds_toArray, List.set_cons_zero, List.set_cons_succ, i64_w, i32_w]
    rfl
  refine done_ (by kernel_rfl) ?_
  obtain ⟨k9, o9⟩ := put_all w8.drew g3 _ 32 [.int .i64 n, .int .i64 0, .slice A1 0 c1, .int .i64 (-1), .bool false, .slice A2 0 c2, .bool false] HK3.out (by simp)
  have HB9 := o9.below HB8.out.drew (by have := HG.out; omega)
  have hs9 : w6.heap.size ≤ (w8.drew.setCells g3 0 [.int .i64 n, .int .i64 0, .slice A1 0 c1, .int .i64 (-1), .bool false, .slice A2 0 c2, .bool false]).heap.size := by rw [o9.size]; exact HSZ8.out
  have HS9 : SR _ (st0 n) (.slice A1 0 c1) (.slice A2 0 c2) := SR.only (W := w8.drew) (HS8.out.below (below_drew1 (Below.refl _ _))) o9 HK3.out (noU8_seg rfl rfl)
  have HRC9 := (o9.block b (by have := HG.out; omega)).trans HRC8.out
  generalize w8.drew.setCells g3 0 [.int .i64 n, .int .i64 0, .slice A1 0 c1, .int .i64 (-1), .bool false, .slice A2 0 c2, .bool false] = w9 at *
  clear hHeld
  go_wp2
  refine bodyPost_ret (results_list (rs := [.tmp 2, .cell 3 32, .tmp 4, .tmp 5]) rfl (by simp) (.tmp (.cell g3 32 _ (0, 0) _ rfl k9 Tryd.underlying32 rfl (by kernel_rfl) (.tmp (.tmp .nil))))) rfl ?_
  exact ⟨b, A1, c1, A2, c2, rfl, HS9, HBL.out.1, HRC9, fun k hk => Nat.lt_of_lt_of_le (HLO.out.1 k hk) hs9, fun k hk => Nat.lt_of_lt_of_le (HLO.out.2 k hk) hs9, HB9⟩
set_option maxHeartbeats 4000000 in
set_option maxRecDepth 100000 in
theorem begin_bad (n : Int) (w : World) (hn : n < 0 ∨ 16777216 < n) :
    Calls Tryd.prog 14 #[.int .i64 n] w fun e w' => ∃ A1 c1 A2 c2, e = .returned (.tuple #[.pointer none, .agg #[.int .i64 0, .int .i64 0, .slice A1 0 c1, .int .i64 0, .bool false, .slice A2 0 c2, .bool false], .bool false, .bool true]) ∧ SR w' stB (.slice A1 0 c1) (.slice A2 0 c2) ∧ Below w.heap.size w w' := by
  have HN := Aside0.mk hn
  have hu32 := Tryd.underlying32
  have hnew : galleyref25_New.f n = some (0, 0, [], 0, false, [], false, 2) := by
    unfold galleyref25_New.f
    by_cases h : n < 0
    · rw [if_pos h]
    · rw [if_neg h, if_pos (by omega)]
  have HNEW := Aside0.mk hnew
  clear hnew hn
  go_enter Tryd.func14, Tryd.ntmps14
  go_wp2_with (first | ((with_reducible refine gate_dst (N := 3) rfl ?_); refine box_event ?hg (N := 3) ?hd (cs := #[.int .i64 0, .int .i64 0, .slice none 0 0, .int .i64 0, .bool false, .slice none 0 0, .bool false]) (t := 32) ?hr ?_; (case hd => rfl); (case hg => rfl); (case hr => first | (go_simp; done) | (go_simp; rfl)); intro g3 hg3 w3 hb3 hB3; have HG3 := Aside0.mk hg3; have HK3a := Aside0.mk hb3; have HB3 := Aside0.mk hB3; clear hg3 hb3 hB3))
  refine (new_fault n w3 HN.out).mono ?_
  rintro e w5 ⟨rfl, rfl⟩
  have HB5 := HB3
  have HK35 := HK3a
  go_wp2_with (fail)
  refine (galleyref25_New.calls n _ _ _ _ _ _ _ _ _ HNEW.out).mono ?_
  rintro e w6 ⟨v1, v2, rfl, hr1, hr2, hB6⟩
  obtain ⟨A1, c1, rfl⟩ := Kd.R_slice hr1
  obtain ⟨A2, c2, rfl⟩ := Kd.R_slice hr2
  have HR1 := Aside0.mk (ReadsL.row hr1)
  have HR2 := Aside0.mk (ReadsL.row hr2)
  have HB6 := Aside0.mk (below_step HB5.out hB6)
  have HLO := Aside0.mk (And.intro (Kd.R_lt hr1) (Kd.R_lt hr2))
  have HK36 := Aside0.mk (blk_below HK35.out hB6)
  clear hr1 hr2 hB6
  go_wp2_with (first | ((with_reducible refine gate_dst (N := 8) rfl ?_); refine box_event ?hg (N := 8) ?hd (cs := #[.int .i64 0, .int .i64 0, .slice none 0 0, .int .i64 0, .bool false, .slice none 0 0, .bool false]) (t := 32) ?hr ?_; (case hd => rfl); (case hg => rfl); (case hr => first | (go_simp; done) | (go_simp; rfl)); intro g8 hg8 w7 hb8 hB8; have HG8 := Aside0.mk hg8; have HK8a := Aside0.mk hb8; have HB7 := Aside0.mk (below_step HB6.out hB8); have HK37 := Aside0.mk (blk_below HK36.out hB8); have HR17 := Aside0.mk (HR1.out.below hB8); have HR27 := Aside0.mk (HR2.out.below hB8); have HSZ7 := Aside0.mk hB8.size; clear hg8 hb8 hB8) | ((with_reducible refine gate_ (.store 32 (.tmp 8) (.tmp 18)) rfl ?_); refine st_store rfl rfl 32 (.tmp 8) (.tmp 18) rfl (g := g8) (j := 0) (cur' := #[.int .i64 0, .int .i64 0, .slice A1 0 c1, .int .i64 0, .bool false, .slice A2 0 c2, .bool false]) [.int .i64 0, .int .i64 0, .slice A1 0 c1, .int .i64 0, .bool false, .slice A2 0 c2, .bool false] (.agg #[.int .i64 0, .int .i64 0, .slice A1 0 c1, .int .i64 0, .bool false, .slice A2 0 c2, .bool false]) rfl rfl rfl sizeRef (by simp [Value.oneCell']) HK8a.out (by simp) rfl ?_))
  intro w8 k8 o8
  have HG := Aside0.mk (show g3 < g8 ∧ w.heap.size ≤ g3 ∧ w.heap.size ≤ g8 by have := HG8.out; have := HG3.out; have := blk_lt HK36.out; have := HB6.out.size; omega)
  have HK3 := Aside0.mk ((o8.block g3 (by have := HG.out; omega)).trans HK37.out)
  have HB8 := Aside0.mk (o8.below HB7.out (by have := HG.out; omega))
  have HSZ8 := Aside0.mk (show w6.heap.size ≤ w8.heap.size by rw [o8.size]; exact HSZ7.out)
  have HS8 := Aside0.mk (show SR w8 stB (.slice A1 0 c1) (.slice A2 0 c2) from ⟨HR17.out.only o8 HK8a.out (noU8_seg rfl rfl), HR27.out.only o8 HK8a.out (noU8_seg rfl rfl)⟩)
  have hc0 : w8.cell? ⟨g8, 0, none⟩ = some (.int .i64 0) := (blk_cell k8 0).trans rfl
  have hc1 : w8.cell? ⟨g8, 1, none⟩ = some (.int .i64 0) := (blk_cell k8 1).trans rfl
  have hc2 : w8.cell? ⟨g8, 2, none⟩ = some (.slice A1 0 c1) := (blk_cell k8 2).trans rfl
  have hc3 : w8.cell? ⟨g8, 3, none⟩ = some (.int .i64 0) := (blk_cell k8 3).trans rfl
  have hc4 : w8.cell? ⟨g8, 4, none⟩ = some (.bool false) := (blk_cell k8 4).trans rfl
  have hc5 : w8.cell? ⟨g8, 5, none⟩ = some (.slice A2 0 c2) := (blk_cell k8 5).trans rfl
  have hc6 : w8.cell? ⟨g8, 6, none⟩ = some (.bool false) := (blk_cell k8 6).trans rfl
  clear k8 o8 HK8a HK37 HR17 HR27
  go_wp2
  refine start_ (n := 8) (S := fun w' => w'.cell? ⟨g8, 0, none⟩ = some (.int .i64 0) ∧ w'.cell? ⟨g8, 1, none⟩ = some (.int .i64 0) ∧ w'.cell? ⟨g8, 2, none⟩ = some (.slice A1 0 c1) ∧ w'.cell? ⟨g8, 3, none⟩ = some (.int .i64 0) ∧ w'.cell? ⟨g8, 4, none⟩ = some (.bool false) ∧ w'.cell? ⟨g8, 5, none⟩ = some (.slice A2 0 c2) ∧ w'.cell? ⟨g8, 6, none⟩ = some (.bool false)) (ds := []) #[false, false, false, false, false, false, false, false] (by kernel_rfl) rfl rfl ⟨hc0, hc1, hc2, hc3, hc4, hc5, hc6⟩ (fun hHeld => ?_)
  refine pure_ (i := 0) (N := some 31) (v := ?_) (a' := ?_) #[true, false, false, false, false, false, false, false] rfl rfl (by kernel_rfl) (fun _ _ _ h => h) (Or.inl ⟨by rfl, ?_⟩) ?_ ?_
  rotate_left
  · intro w'
    go_simp
    with_reducible rfl
  rotate_left
  · simp only [Act.put, List.setIfInBounds_toArray, List.set_cons_zero, List.set_cons_succ, i64_w, i32_w]
    rfl
  refine pure_ (i := 2) (N := some 33) (v := ?_) (a' := ?_) #[true, false, true, false, false, false, false, false] rfl rfl (by kernel_rfl) (fun _ _ _ h => h) (Or.inl ⟨by rfl, ?_⟩) ?_ ?_
  rotate_left
  · intro w'
    go_simp
    with_reducible rfl
  rotate_left
  · simp only [Act.put, List.setIfInBounds_toArray, List.set_cons_zero, List.set_cons_succ, i64_w, i32_w]
    rfl
  refine pure_ (i := 3) (N := some 34) (v := ?_) (a' := ?_) #[true, false, true, true, false, false, false, false] rfl rfl (by kernel_rfl) (fun _ _ _ h => h) (Or.inl ⟨by rfl, ?_⟩) ?_ ?_
  rotate_left
  · intro w'
    go_simp
    with_reducible rfl
  rotate_left
  · simp only [Act.put, List.setIfInBounds_toArray, List.set_cons_zero, List.set_cons_succ, i64_w, i32_w]
    rfl
  refine pure_ (i := 4) (N := some 2) (v := ?_) (a' := ?_) #[true, false, true, true, true, false, false, false] rfl rfl (by kernel_rfl) (fun _ _ _ h => h) (Or.inl ⟨by rfl, ?_⟩) ?_ ?_
  rotate_left
  · intro w'
    go_simp
    with_reducible rfl
  rotate_left
  · simp only [Act.put, List.setIfInBounds_toArray, List.set_cons_zero, List.set_cons_succ, i64_w, i32_w]
    rfl
  refine take_ (i := 1) (N := some 32) (v := ?_) (a' := ?_) #[true, true, true, true, true, false, false, false] rfl rfl (by kernel_rfl) (fun _ _ _ h => h) (Or.inl ⟨by rfl, ?_⟩) hHeld ?_ ?_
  rotate_left
  · rintro w' ⟨s0, s1, s2, s3, s4, s5, s6⟩
    go_simp
    with_reducible rfl
  rotate_left
  · simp only [Act.put, List.setIfInBounds_toArray, List.set_cons_zero, List.set_cons_succ, i64_w, i32_w]
    rfl
  refine one_ (i := 5) (N := none) #[true, true, true, true, true, true, false, false] rfl rfl (by kernel_rfl) (by decide) (fun K hK => ?_)
  refine skip_ (w1 := w8.drew.setCells g3 0 [.int .i64 0, .int .i64 0, .slice A1 0 c1, .int .i64 0, .bool false, .slice A2 0 c2, .bool false]) (by rfl) rfl (store_run rfl [.int .i64 0, .int .i64 0, .slice A1 0 c1, .int .i64 0, .bool false, .slice A2 0 c2, .bool false] _ rfl rfl rfl sizeRef (by simp [Value.oneCell']) HK3.out (by simp)) ?_
  refine hK.out _ _ ⟨(cell_only (put_all w8.drew g3 _ 32 [.int .i64 0, .int .i64 0, .slice A1 0 c1, .int .i64 0, .bool false, .slice A2 0 c2, .bool false] HK3.out (by simp)).2 (by have := HG.out; omega)).trans hc0, (cell_only (put_all w8.drew g3 _ 32 [.int .i64 0, .int .i64 0, .slice A1 0 c1, .int .i64 0, .bool false, .slice A2 0 c2, .bool false] HK3.out (by simp)).2 (by have := HG.out; omega)).trans hc1, (cell_only (put_all w8.drew g3 _ 32 [.int .i64 0, .int .i64 0, .slice A1 0 c1, .int .i64 0, .bool false, .slice A2 0 c2, .bool false] HK3.out (by simp)).2 (by have := HG.out; omega)).trans hc2, (cell_only (put_all w8.drew g3 _ 32 [.int .i64 0, .int .i64 0, .slice A1 0 c1, .int .i64 0, .bool false, .slice A2 0 c2, .bool false] HK3.out (by simp)).2 (by have := HG.out; omega)).trans hc3, (cell_only (put_all w8.drew g3 _ 32 [.int .i64 0, .int .i64 0, .slice A1 0 c1, .int .i64 0, .bool false, .slice A2 0 c2, .bool false] HK3.out (by simp)).2 (by have := HG.out; omega)).trans hc4, (cell_only (put_all w8.drew g3 _ 32 [.int .i64 0, .int .i64 0, .slice A1 0 c1, .int .i64 0, .bool false, .slice A2 0 c2, .bool false] HK3.out (by simp)).2 (by have := HG.out; omega)).trans hc5, (cell_only (put_all w8.drew g3 _ 32 [.int .i64 0, .int .i64 0, .slice A1 0 c1, .int .i64 0, .bool false, .slice A2 0 c2, .bool false] HK3.out (by simp)).2 (by have := HG.out; omega)).trans hc6⟩ (fun hHeld => ?_)
  clear hK K
  refine pure_ (i := 6) (N := some 4) (v := ?_) (a' := ?_) #[true, true, true, true, true, true, true, false] rfl rfl (by kernel_rfl) (fun _ _ _ h => h) (Or.inl ⟨by rfl, ?_⟩) ?_ ?_
  rotate_left
  · intro w'
    go_simp
    with_reducible rfl
  rotate_left
  · simp only [Act.put, List.setIfInBounds_toArray, List.set_cons_zero, List.set_cons_succ, i64_w, i32_w]
    rfl
  refine pure_ (i := 7) (N := some 5) (v := ?_) (a' := ?_) #[true, true, true, true, true, true, true, true] rfl rfl (by kernel_rfl) (fun _ _ _ h => h) (Or.inl ⟨by rfl, ?_⟩) ?_ ?_
  rotate_left
  · intro w'
    go_simp
    with_reducible rfl
  rotate_left
  · simp only [Act.put, List.setIfInBounds_toArray, List.set_cons_zero, List.set_cons_succ, i64_w, i32_w]
    rfl
  refine done_ (by kernel_rfl) ?_
  obtain ⟨k9, o9⟩ := put_all w8.drew g3 _ 32 [.int .i64 0, .int .i64 0, .slice A1 0 c1, .int .i64 0, .bool false, .slice A2 0 c2, .bool false] HK3.out (by simp)
  have HB9 := o9.below HB8.out.drew (by have := HG.out; omega)
  have hs9 : w6.heap.size ≤ (w8.drew.setCells g3 0 [.int .i64 0, .int .i64 0, .slice A1 0 c1, .int .i64 0, .bool false, .slice A2 0 c2, .bool false]).heap.size := by rw [o9.size]; exact HSZ8.out
  have HS9 : SR _ stB (.slice A1 0 c1) (.slice A2 0 c2) := SR.only (W := w8.drew) (HS8.out.below (below_drew1 (Below.refl _ _))) o9 HK3.out (noU8_seg rfl rfl)
  generalize w8.drew.setCells g3 0 [.int .i64 0, .int .i64 0, .slice A1 0 c1, .int .i64 0, .bool false, .slice A2 0 c2, .bool false] = w9 at *
  clear hHeld
  go_wp2
  refine bodyPost_ret (results_list (rs := [.tmp 2, .cell 3 32, .tmp 4, .tmp 5]) rfl (by simp) (.tmp (.cell g3 32 _ (0, 0) _ rfl k9 Tryd.underlying32 rfl (by kernel_rfl) (.tmp (.tmp .nil))))) rfl ?_
  exact ⟨A1, c1, A2, c2, rfl, HS9, HB9⟩
end Go.Proofs.YtgdiilpocoimgaaDoor.Hand

set_option linter.unusedVariables false
set_option linter.unusedSimpArgs false
namespace Go.Proofs.YtgdiilpocoimgaaDoor.Hand
open Go.RowKit Go.Proofs.YtgdiilpocoimgaaDoor.Frm Go.Proofs.YtgdiilpocoimgaaDoorW.PrintWords Go.Proofs.YtgdiilpocoimgaaDoorW.PrintLast Go.Proofs.YtgdiilpocoimgaaDoorW.PrintMore
def Sep (v u : Value) : Prop := ∀ k, v.ownBlock = some k → some k ≠ u.ownBlock
def LtW (u : Value) (W : World) : Prop := ∀ k, u.ownBlock = some k → k < W.heap.size
theorem LtW.mono {u : Value} {W W' : World} (h : LtW u W) (hs : W.heap.size ≤ W'.heap.size) : LtW u W' := fun k hk => by have := h k hk; omega
theorem LtW.org {u u' : Value} {W W' : World} (h : LtW u W) (ho : Org W W' u u') (hs : W.heap.size ≤ W'.heap.size) : LtW u' W' := fun k hk => by
  rcases ho with e | e | ⟨g, e, h1, h2⟩
  · have := h k (e.symm.trans hk); omega
  · rw [e] at hk; cases hk
  · rw [e] at hk; injection hk with hk; omega
/-- Behind the program's Feed. -/
theorem Sep.feed {v v' u : Value} {W : World} (h : Sep v u) (hu : LtW u W) (how : OwnIs W v v') : Sep v' u := fun k hk e => by
  rcases how with e1 | e1 | ⟨g, e1, h1⟩
  · exact h k (e1.symm.trans hk) e
  · rw [e1] at hk; cases hk
  · rw [e1] at hk; injection hk with hk; have := hu k e.symm; omega
/-- Behind the document's. -/
theorem Sep.org {v u u' : Value} {W W' : World} (h : Sep v u) (hv : LtW v W) (ho : Org W W' u u') : Sep v u' := fun k hk e => by
  rcases ho with e1 | e1 | ⟨g, e1, h1, h2⟩
  · exact h k hk (e.trans e1)
  · rw [e1] at e; cases e
  · rw [e1] at e; injection e with e; have := hv k hk; omega
theorem noU8_rd {n : Int} {v : Value} {d : Bool} (h : ∀ x : Int, v ≠ .int .u8 x) : NoU8 #[.int .i64 n, v, .bool d] := by
  intro u hu x e
  simp at hu
  rcases hu with h1 | h1 | h1
  · rw [h1] at e; cases e
  · rw [h1] at e; exact h x e
  · rw [h1] at e; cases e
theorem C_apart {W W' : World} {A : Option Addr} {l : List Int} {b : Nat} {u : Value} {cs : Array Value} (hC : Kd.C (Kd.int .u8) W A l.length l) (hap : Apart2 W b u W') (hb : W.heap[b]? = some (.cells cs 53 (0, 0))) (hn : NoU8 cs) (hu : ∀ a, A = some a → some a.block ≠ u.ownBlock) : Kd.C (Kd.int .u8) W' A l.length l := by
  refine ⟨hC.1, hC.2.1, fun h0 => ?_⟩
  have hne := C_ne hC hb hn
  obtain ⟨ad, e, hc⟩ := hC.2.2 h0
  refine ⟨ad, e, fun j p hj => ?_⟩
  obtain ⟨c, h1, h2, h3⟩ := hc j p hj
  refine ⟨c, h1, h2, fun i x hx => ?_⟩
  have h4 := h3 i x hx
  have hlt := cell_lt h4
  rw [World.cell?_of_block (w := W) (hap _ hlt (by rw [add_block]; exact hne ad e h0) (by rw [add_block]; exact hu ad e))]
  exact h4
theorem ReadsL.apart {W W' : World} {v : Value} {l : List Int} {b : Nat} {u : Value} {cs : Array Value} (h : ReadsL W v l) (hap : Apart2 W b u W') (hb : W.heap[b]? = some (.cells cs 53 (0, 0))) (hn : NoU8 cs) (hu : Sep u v) : ReadsL W' v l := by
  obtain ⟨A, c, rfl, hl, hC⟩ := h
  exact ⟨A, c, rfl, hl, C_apart hC hap hb hn (fun a ha e => by subst ha; exact hu a.block e.symm rfl)⟩
theorem SR.apart {W W' : World} {s : St} {vl vb : Value} {b : Nat} {u : Value} {cs : Array Value} (h : SR W s vl vb) (hap : Apart2 W b u W') (hb : W.heap[b]? = some (.cells cs 53 (0, 0))) (hn : NoU8 cs) (h1 : Sep u vl) (h2 : Sep u vb) : SR W' s vl vb := ⟨h.line.apart hap hb hn h1, h.body.apart hap hb hn h2⟩
theorem done_same {most : Int} {S : St} {held : List Int} (h : RS most S held) : (!S.dead && decide (held.length = 0)) = (!S.dead && decide (S.header = 0)) := by
  cases hd : S.dead with
  | true => rfl
  | false =>
    have hz := (h.alive hd).zero
    have : decide (held.length = 0) = decide (S.header = 0) := decide_eq_decide.2 ⟨fun h1 => hz.2 (List.length_eq_zero_iff.1 h1), fun h1 => by rw [hz.1 h1]; rfl⟩
    rw [this]
end Go.Proofs.YtgdiilpocoimgaaDoor.Hand
