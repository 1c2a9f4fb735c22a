/- The document's Byte: its walk. -/
import Derived.Test.YtgdiilpocoimgaaDoorFByte0
import Derived.Deep.RegionHeld
set_option linter.unusedVariables false
set_option linter.unusedSimpArgs false
namespace Go.Proofs.YtgdiilpocoimgaaDoor.Hand
open Go.RowKit Go.Proofs.YtgdiilpocoimgaaDoor.Frm Go.Proofs.YtgdiilpocoimgaaDoorW.PrintWords Go.Proofs.YtgdiilpocoimgaaDoorW.PrintLast Go.Proofs.YtgdiilpocoimgaaDoorW.PrintMore
set_option maxHeartbeats 4000000 in
set_option maxRecDepth 100000 in
theorem rbyte_whole (s : St) (vl vb : Value) (c : Int) (w : World) (B : Nat) (h : SR w s vl vb) (hc : 0 ≤ c ∧ c ≤ 255) (hi : LI s B) (hB : B ≤ 1000000000) (hw : s.whole = true) :
    Calls Tryd.prog 27 #[AG s vl vb, .int .u8 c] w fun e w' => ∃ vl' vb' vm, e = .returned (.tuple #[AG (byteS s c).1 vl' vb', vm, .bool (byteS s c).2.1.isSome, .bool (byteS s c).2.2]) ∧ SR w' (byteS s c).1 vl' vb' ∧
      Kd.R (Kd.int .u8) 5 w' w.heap.size (fun _ => True) vm ((byteS s c).2.1.getD []) ∧ Org w w' vl vl' ∧ Org w w' vb vb' ∧ Below w.heap.size w w' := by
  obtain ⟨Al, cl, rfl, hll, hLC⟩ := h.line
  obtain ⟨Ab, cb, rfl, hbl, hBC⟩ := h.body
  have HLC := Aside0.mk hLC
  have HBC := Aside0.mk hBC
  have HLL := Aside0.mk hll
  have HI := Aside0.mk hi
  have HBB := Aside0.mk hB
  have HCC := Aside0.mk hc
  have hby : byteS s c = if ((s.body ++ [c]).length : Int) = s.said then (st0 s.most, some (s.body ++ [c]), false) else ({ s with body := s.body ++ [c] }, none, false) := by
    unfold byteS; rw [if_pos hw]
  have HBY := Aside0.mk hby
  have hu32 := Tryd.underlying32
  unfold AG
  clear h hll hLC hbl hBC hi hB hc hby
  go_enter Tryd.func27, Tryd.ntmps27
  go_wp2_with (first | ((with_reducible refine gate_dst (N := 2) rfl ?_); refine box_event ?hg (N := 2) ?hd (cs := #[.int .i64 s.most, .int .i64 (s.header : Int), .slice Al s.line.length cl, .int .i64 s.said, .bool true, .slice Ab s.body.length cb, .bool s.dead]) (t := 32) ?hr ?_; (case hd => rfl); (case hg => rfl); (case hr => first | (go_simp; done) | (go_simp; rfl)); intro g2 hg2 w2 hb2 hB2; have HG2 := Aside0.mk (And.intro (Nat.le_of_eq hg2.symm) (blk_lt hb2)); have HKA := Aside0.mk hb2; have HBA := Aside0.mk hB2; clear hg2 hb2 hB2) | ((with_reducible refine gate_dst (N := 4) rfl ?_); refine box_event ?hg (N := 4) ?hd (cs := #[.int .i64 0, .int .i64 0, .slice none 0 0, .int .i64 0, .bool false, .slice none 0 0, .bool false]) (t := 32) ?hr ?_; (case hd => rfl); (case hg => rfl); (case hr => first | (go_simp; done) | (go_simp; rfl)); intro g4 hg4 w4 hb4 hB4; have HG := Aside0.mk (And.intro HG2.out.1 (show g2 < g4 by rw [hg4]; exact HG2.out.2)); have HB4 := Aside0.mk (below_step HBA.out hB4); have HK2 := Aside0.mk (blk_below HKA.out hB4); have HK4 := Aside0.mk hb4; clear hg4 hb4 hB4 HKA HBA HG2; have hc4 : w4.cell? ⟨g2, 4, none⟩ = some (.bool true) := (blk_cell HK2.out 4).trans rfl; have hc5 : (w4.alloc (.cells #[] 5)).cell? ⟨g2, 5, none⟩ = some (.slice Ab s.body.length cb) := (blk_cell (blk_alloc HK2.out _) 5).trans rfl) | (at_builtin; refine Kd.R_append_rows (Kd.int .u8) (w0 := w) w.heap.size rfl (.tmp 14) (.tmp 16) 22 5 (.int .u8 0) 1 rfl Tryd.underlying22 info5 rfl (by decide) (by omega) _ [] s.body _ _ _ (fun _ => True) (fun _ => False) rfl rfl (empty_R _ w4 HB4.out.size) (Kd.C_alloc (Kd.C_below HBC.out HB4.out) _) (fun _ _ h => h) (fun _ h => h.elim) (fun _ _ => trivial) (below_alloc HB4.out _) (by have := HB4.out.size; simp; omega) (by have := HI.out.body; have := HBB.out; simp only [List.length_nil]; omega) ?_))
  intro v5 w5 hr5 hB5 hg5 _
  have hr5' : Kd.R (Kd.int .u8) 5 w5 w.heap.size (fun _ => True) v5 s.body := hr5
  have HR5 := Aside0.mk hr5'
  have HB5 := Aside0.mk hB5
  have hne : ∀ k, k < w4.heap.size → some k ≠ (Value.slice (some ⟨w4.heap.size, 0, none⟩) 0 0).ownBlock := fun k hk e => by simp [Value.ownBlock] at e; omega
  have HK25 := Aside0.mk (blk_grown (blk_alloc HK2.out _) hg5 (hne g2 (blk_lt HK2.out)))
  have HK45 := Aside0.mk (blk_grown (blk_alloc HK4.out _) hg5 (hne g4 (blk_lt HK4.out)))
  clear hr5 hr5' hB5 hg5 hne hc5 hc4
  go_wp2_with (at_builtin; refine Kd.R_append_rows (Kd.int .u8) (w0 := w) w.heap.size rfl (.tmp 17) (.tmp 19) 22 5 (.int .u8 0) 1 rfl Tryd.underlying22 info5 rfl (by decide) (by omega) _ s.body [c] _ _ _ (fun _ => True) (fun _ => False) rfl rfl (Kd.R_alloc HR5.out _) (C_of_cells _ w5.heap.size _ 5 (0, 0) [c] (Deep.blk_alloc_new w5 _) rfl (by simp)) (fun _ _ h => h) (fun _ h => h.elim) (fun _ _ => trivial) (below_alloc HB5.out _) (by have := HB5.out.size; simp; omega) (by have := HI.out.body; have := HBB.out; omega) ?_)
  intro v6 w6 hr6 hB6 hg6 _
  have HR6 := Aside0.mk (show Kd.R (Kd.int .u8) 5 w6 w.heap.size (fun _ => True) v6 (s.body ++ [c]) from hr6)
  have HB6 := Aside0.mk hB6
  have HK26 := Aside0.mk (blk_grown (blk_alloc HK25.out _) hg6 (Kd.R_ne HR5.out HK25.out (by decide)))
  have HK46 := Aside0.mk (blk_grown (blk_alloc HK45.out _) hg6 (Kd.R_ne HR5.out HK45.out (by decide)))
  obtain ⟨D, hD⟩ : ∃ D, s.body ++ [c] = D := ⟨_, rfl⟩
  rw [hD] at HR6 HBY
  obtain ⟨A6, c6, rfl⟩ := Kd.R_slice HR6.out
  clear hr6 hB6 hg6 HK25 HK45 HR5 HK2 HK4 hD
  go_wp2_with ((with_reducible refine gate_ (.store 22 (.tmp 21) (.tmp 20)) rfl ?_); refine st_store rfl rfl 22 (.tmp 21) (.tmp 20) rfl (g := g2) (j := 5) (cur' := #[.int .i64 s.most, .int .i64 (s.header : Int), .slice Al s.line.length cl, .int .i64 s.said, .bool true, .slice A6 D.length c6, .bool s.dead]) [.slice A6 D.length c6] (.slice A6 D.length c6) rfl rfl rfl sizeSl (by simp [Value.oneCell']) HK26.out (by simp) rfl ?_)
  intro w7 hk7 ho7
  have HK27 := Aside0.mk hk7
  have HK47 := Aside0.mk ((ho7.block g4 (by have := HG.out; omega)).trans HK46.out)
  have HR7 := Aside0.mk (ho7.row HR6.out HK26.out u8_ne)
  have HB7 := Aside0.mk (ho7.below HB6.out HG.out.1)
  have hc5 : w7.cell? ⟨g2, 5, none⟩ = some (.slice A6 D.length c6) := (blk_cell HK27.out 5).trans rfl
  have hc3 : w7.cell? ⟨g2, 3, none⟩ = some (.int .i64 s.said) := (blk_cell HK27.out 3).trans rfl
  have hc0 : w7.cell? ⟨g2, 0, none⟩ = some (.int .i64 s.most) := (blk_cell HK27.out 0).trans rfl
  have hne24 : g4 ≠ g2 := by have := HG.out; omega
  have hne42 : g2 ≠ g4 := by have := HG.out; omega
  clear hk7 ho7 HK26 HK46 HR6 HB6
  by_cases hq : (D.length : Int) = s.said
  · have hb1 : ((D.length : Int) == s.said) = true := beq_iff_eq.2 hq
    rw [if_pos hq] at HBY
    go_wp2
    refine start_ (n := 9) (S := fun w' => w'.cell? ⟨g2, 0, none⟩ = some (.int .i64 s.most) ∧ w'.cell? ⟨g2, 5, none⟩ = some (.slice A6 D.length c6)) (ds := []) #[false, false, false, false, false, false, false, false, false] (by kernel_rfl) rfl rfl ⟨hc0, hc5⟩ (fun hHeld => ?_)
    refine pure_ (i := 0) (N := some 28) (v := ?_) (a' := ?_) #[true, false, false, false, false, false, false, false, false] rfl rfl (by kernel_rfl) (fun _ _ _ h => h) (Or.inl ⟨by rfl, ?_⟩) ?_ ?_
    rotate_left
    · intro w'
      go_simp
      with_reducible rfl
    rotate_left
    · simp only [Act.put, List.setIfInBounds_toArray, List.set_cons_zero, List.set_cons_succ, i64_w, i32_w]
      rfl
    refine pure_ (i := 3) (N := some 31) (v := ?_) (a' := ?_) #[true, false, false, true, false, false, false, false, false] rfl rfl (by kernel_rfl) (fun _ _ _ h => h) (Or.inl ⟨by rfl, ?_⟩) ?_ ?_
    rotate_left
    · intro w'
      go_simp
      with_reducible rfl
    rotate_left
    · simp only [Act.put, List.setIfInBounds_toArray, List.set_cons_zero, List.set_cons_succ, i64_w, i32_w]
      rfl
    refine take_ (i := 1) (N := some 29) (v := ?_) (a' := ?_) #[true, true, false, true, false, false, false, false, false] rfl rfl (by kernel_rfl) (fun _ _ _ h => h) (Or.inl ⟨by rfl, ?_⟩) hHeld ?_ ?_
    rotate_left
    · rintro w' ⟨s0, s1⟩
      go_simp
      with_reducible rfl
    rotate_left
    · simp only [Act.put, List.setIfInBounds_toArray, List.set_cons_zero, List.set_cons_succ, i64_w, i32_w]
      rfl
    refine pure_ (i := 2) (N := some 30) (v := ?_) (a' := ?_) #[true, true, true, true, false, false, false, false, false] rfl rfl (by kernel_rfl) (fun _ _ _ h => h) (Or.inl ⟨by rfl, ?_⟩) ?_ ?_
    rotate_left
    · intro w'
      go_simp
      with_reducible rfl
    rotate_left
    · simp only [Act.put, List.setIfInBounds_toArray, List.set_cons_zero, List.set_cons_succ, i64_w, i32_w]
      rfl
    refine take_ (i := 4) (N := some 32) (v := ?_) (a' := ?_) #[true, true, true, true, true, false, false, false, false] rfl rfl (by kernel_rfl) (fun _ _ _ h => h) (Or.inl ⟨by rfl, ?_⟩) hHeld ?_ ?_
    rotate_left
    · rintro w' ⟨s0, s1⟩
      go_simp
      with_reducible rfl
    rotate_left
    · simp only [Act.put, List.setIfInBounds_toArray, List.set_cons_zero, List.set_cons_succ, i64_w, i32_w]
      rfl
    refine one_ (i := 5) (N := none) #[true, true, true, true, true, true, false, false, false] rfl rfl (by kernel_rfl) (by decide) (fun K hK => ?_)
    refine skip_ (w1 := w7.drew.setCells g4 0 [.int .i64 s.most, .int .i64 0, .slice none 0 0, .int .i64 (-1), .bool false, .slice none 0 0, .bool false]) (by rfl) rfl (store_run rfl [.int .i64 s.most, .int .i64 0, .slice none 0 0, .int .i64 (-1), .bool false, .slice none 0 0, .bool false] _ rfl rfl rfl sizeRef (by simp [Value.oneCell']) HK47.out (by simp)) ?_
    refine hK.out _ _ ⟨(cell_only (put_all w7.drew g4 _ 32 [.int .i64 s.most, .int .i64 0, .slice none 0 0, .int .i64 (-1), .bool false, .slice none 0 0, .bool false] HK47.out (by simp)).2 hne42).trans hc0, (cell_only (put_all w7.drew g4 _ 32 [.int .i64 s.most, .int .i64 0, .slice none 0 0, .int .i64 (-1), .bool false, .slice none 0 0, .bool false] HK47.out (by simp)).2 hne42).trans hc5⟩ (fun hHeld => ?_)
    clear hK K
    refine pure_ (i := 6) (N := some 5) (v := ?_) (a' := ?_) #[true, true, true, true, true, true, true, false, false] rfl rfl (by kernel_rfl) (fun _ _ _ h => h) (Or.inl ⟨by rfl, ?_⟩) ?_ ?_
    rotate_left
    · intro w'
      go_simp
      with_reducible rfl
    rotate_left
    · simp only [Act.put, List.setIfInBounds_toArray, List.set_cons_zero, List.set_cons_succ, i64_w, i32_w]
      rfl
    refine pure_ (i := 7) (N := some 6) (v := ?_) (a' := ?_) #[true, true, true, true, true, true, true, true, false] rfl rfl (by kernel_rfl) (fun _ _ _ h => h) (Or.inl ⟨by rfl, ?_⟩) ?_ ?_
    rotate_left
    · intro w'
      go_simp
      with_reducible rfl
    rotate_left
    · simp only [Act.put, List.setIfInBounds_toArray, List.set_cons_zero, List.set_cons_succ, i64_w, i32_w]
      rfl
    refine pure_ (i := 8) (N := some 7) (v := ?_) (a' := ?_) #[true, true, true, true, true, true, true, true, true] rfl rfl (by kernel_rfl) (fun _ _ _ h => h) (Or.inl ⟨by rfl, ?_⟩) ?_ ?_
    rotate_left
    · intro w'
      go_simp
      with_reducible rfl
    rotate_left
    · simp only [Act.put, List.setIfInBounds_toArray, List.set_cons_zero, List.set_cons_succ, i64_w, i32_w]
      rfl
    refine done_ (by kernel_rfl) ?_
    obtain ⟨k8, o8⟩ := put_all w7.drew g4 _ 32 [.int .i64 s.most, .int .i64 0, .slice none 0 0, .int .i64 (-1), .bool false, .slice none 0 0, .bool false] HK47.out (by simp)
    generalize w7.drew.setCells g4 0 [.int .i64 s.most, .int .i64 0, .slice none 0 0, .int .i64 (-1), .bool false, .slice none 0 0, .bool false] = w8 at k8 o8 ⊢
    have hB8 : Below w.heap.size w w8 := o8.below HB7.out.drew (by have := HG.out; omega)
    go_wp2
    refine bodyPost_ret (results_list (rs := [.cell 4 32, .tmp 5, .tmp 6, .tmp 7]) rfl (by simp) (.cell g4 32 _ (0, 0) _ rfl k8 Tryd.underlying32 rfl (by kernel_rfl) (.tmp (.tmp (.tmp .nil))))) rfl ?_
    exact ⟨.slice none 0 0, .slice none 0 0, .slice A6 D.length c6, by rw [HBY.out]; first | rfl | (simp only [AG, hw]; rfl), by rw [HBY.out]; exact ⟨ReadsL.nil _, ReadsL.nil _⟩, by rw [HBY.out]; exact (o8.row (Kd.R_drew HR7.out) HK47.out u8_ne), Org.nil _ _ _, Org.nil _ _ _, hB8⟩
  · have hb1 : ((D.length : Int) == s.said) = false := beq_eq_false_iff_ne.2 hq
    rw [if_neg hq] at HBY
    have hc1 : w7.cell? ⟨g2, 1, none⟩ = some (.int .i64 (s.header : Int)) := (blk_cell HK27.out 1).trans rfl
    have hc2 : w7.cell? ⟨g2, 2, none⟩ = some (.slice Al s.line.length cl) := (blk_cell HK27.out 2).trans rfl
    have hc4 : w7.cell? ⟨g2, 4, none⟩ = some (.bool true) := (blk_cell HK27.out 4).trans rfl
    have hc6 : w7.cell? ⟨g2, 6, none⟩ = some (.bool s.dead) := (blk_cell HK27.out 6).trans rfl
    go_wp2_with ((with_reducible refine gate_ (.store 32 (.tmp 4) (.tmp 33)) rfl ?_); refine st_store rfl rfl 32 (.tmp 4) (.tmp 33) rfl (g := g4) (j := 0) (cur' := #[.int .i64 s.most, .int .i64 (s.header : Int), .slice Al s.line.length cl, .int .i64 s.said, .bool true, .slice A6 D.length c6, .bool s.dead]) [.int .i64 s.most, .int .i64 (s.header : Int), .slice Al s.line.length cl, .int .i64 s.said, .bool true, .slice A6 D.length c6, .bool s.dead] (.agg #[.int .i64 s.most, .int .i64 (s.header : Int), .slice Al s.line.length cl, .int .i64 s.said, .bool true, .slice A6 D.length c6, .bool s.dead]) rfl rfl rfl sizeRef (by simp [Value.oneCell']) HK47.out (by simp) rfl ?_)
    intro w8 k8 o8
    go_wp2
    have hB8 : Below w.heap.size w w8 := o8.below HB7.out (by have := HG.out; omega)
    refine bodyPost_ret (results_list (rs := [.cell 4 32, .tmp 5, .tmp 6, .tmp 7]) rfl (by simp) (.cell g4 32 _ (0, 0) _ rfl k8 Tryd.underlying32 rfl (by kernel_rfl) (.tmp (.tmp (.tmp .nil))))) rfl ?_
    exact ⟨.slice Al s.line.length cl, .slice A6 D.length c6, .slice none 0 0, by rw [HBY.out]; first | rfl | (simp only [AG, hw]; rfl), by rw [HBY.out]; exact ⟨⟨Al, cl, rfl, HLL.out, Kd.C_below HLC.out hB8⟩, ReadsL.row (o8.row HR7.out HK47.out u8_ne)⟩, by rw [HBY.out]; exact Kd.R_nil _ _ _ _ _, Org.same _ _ rfl, Org.row (o8.row HR7.out HK47.out u8_ne), hB8⟩
set_option maxHeartbeats 8000000 in
set_option maxRecDepth 100000 in
theorem rbyte_head (s : St) (vl vb : Value) (c : Int) (w : World) (B : Nat) (h : SR w s vl vb) (hc : 0 ≤ c ∧ c ≤ 255) (hi : LI s B) (hB : B ≤ 1000000000) (hw : s.whole = false) :
    Calls Tryd.prog 27 #[AG s vl vb, .int .u8 c] w fun e w' => ∃ vl' vb' vm, e = .returned (.tuple #[AG (byteS s c).1 vl' vb', vm, .bool (byteS s c).2.1.isSome, .bool (byteS s c).2.2]) ∧ SR w' (byteS s c).1 vl' vb' ∧
      Kd.R (Kd.int .u8) 5 w' w.heap.size (fun _ => True) vm ((byteS s c).2.1.getD []) ∧ Org w w' vl vl' ∧ Org w w' vb vb' ∧ Below w.heap.size w w' := by
  obtain ⟨Al, cl, rfl, hll, hLC⟩ := h.line
  obtain ⟨Ab, cb, rfl, hbl, hBC⟩ := h.body
  have HLC := Aside0.mk hLC
  have HBC := Aside0.mk hBC
  have HLL := Aside0.mk hll
  have HBL := Aside0.mk hbl
  have HI := Aside0.mk hi
  have HBB := Aside0.mk hB
  have HCC := Aside0.mk hc
  have hu32 := Tryd.underlying32
  unfold AG
  clear h hll hLC hbl hBC hi hB hc
  go_enter Tryd.func27, Tryd.ntmps27
  go_wp2_with (first | ((with_reducible refine gate_dst (N := 2) rfl ?_); refine box_event ?hg (N := 2) ?hd (cs := #[.int .i64 s.most, .int .i64 (s.header : Int), .slice Al s.line.length cl, .int .i64 s.said, .bool false, .slice Ab s.body.length cb, .bool s.dead]) (t := 32) ?hr ?_; (case hd => rfl); (case hg => rfl); (case hr => first | (go_simp; done) | (go_simp; rfl)); intro g2 hg2 w2 hb2 hB2; have HG2 := Aside0.mk (And.intro (Nat.le_of_eq hg2.symm) (blk_lt hb2)); have HKA := Aside0.mk hb2; have HBA := Aside0.mk hB2; clear hg2 hb2 hB2) | ((with_reducible refine gate_dst (N := 4) rfl ?_); refine box_event ?hg (N := 4) ?hd (cs := #[.int .i64 0, .int .i64 0, .slice none 0 0, .int .i64 0, .bool false, .slice none 0 0, .bool false]) (t := 32) ?hr ?_; (case hd => rfl); (case hg => rfl); (case hr => first | (go_simp; done) | (go_simp; rfl)); intro g4 hg4 w4 hb4 hB4; have HG := Aside0.mk (And.intro HG2.out.1 (show g2 < g4 by rw [hg4]; exact HG2.out.2)); have HB4 := Aside0.mk (below_step HBA.out hB4); have HK2 := Aside0.mk (blk_below HKA.out hB4); have HK4 := Aside0.mk hb4; clear hg4 hb4 hB4 HKA HBA HG2; have hc4 : w4.cell? ⟨g2, 4, none⟩ = some (.bool false) := (blk_cell HK2.out 4).trans rfl; have hc2 : w4.cell? ⟨g2, 2, none⟩ = some (.slice Al s.line.length cl) := (blk_cell HK2.out 2).trans rfl) | (fail))
  refine (galleyref25_fits.calls (s.line.length + 2) Al cl s.line c _ w4 (Kd.C_below HLC.out HB4.out) HLL.out (fits_law s.line c (by have := HI.out.line; have := HBB.out; omega) _ (by omega))).mono ?_
  rintro e w5 ⟨rfl, m5, hm5⟩
  have K2w5 := Aside0.mk (show w5.heap[g2]? = some (.cells #[.int .i64 s.most, .int .i64 (s.header : Int), .slice Al s.line.length cl, .int .i64 s.said, .bool false, .slice Ab s.body.length cb, .bool s.dead] 32 (0, 0)) by rw [hm5]; exact HK2.out)
  have K4w5 := Aside0.mk (show w5.heap[g4]? = some (.cells #[.int .i64 0, .int .i64 0, .slice none 0 0, .int .i64 0, .bool false, .slice none 0 0, .bool false] 32 (0, 0)) by rw [hm5]; exact HK4.out)
  have Bw5 := Aside0.mk (show Below w.heap.size w w5 by rw [hm5]; exact pw_below_drewN HB4.out m5)
  clear hm5 HK2 HK4 HB4 hc2 hc4
  have hc1 : w5.cell? ⟨g2, 1, none⟩ = some (.int .i64 (s.header : Int)) := (blk_cell K2w5.out 1).trans rfl
  obtain ⟨bf, hbf⟩ : ∃ bf, fitsL s.line c = bf := ⟨_, rfl⟩
  rw [hbf]
  cases bf with
  | false =>
    have HBY := Aside0.mk (byte_bad s c hw (.inl hbf))
    clear hbf
    go_wp2_with ((with_reducible refine gate_ (.store 32 (.tmp 4) (.tmp 45)) rfl ?_); refine st_store rfl rfl 32 (.tmp 4) (.tmp 45) rfl (g := g4) (j := 0) (cur' := #[.int .i64 0, .int .i64 0, .slice none 0 0, .int .i64 0, .bool false, .slice none 0 0, .bool true]) [.int .i64 0, .int .i64 0, .slice none 0 0, .int .i64 0, .bool false, .slice none 0 0, .bool true] (.agg #[.int .i64 0, .int .i64 0, .slice none 0 0, .int .i64 0, .bool false, .slice none 0 0, .bool true]) rfl rfl rfl sizeRef (by simp [Value.oneCell']) K4w5.out (by simp) rfl ?_)
    intro wz k8 o8
    go_wp2
    have hB8 : Below w.heap.size w wz := o8.below Bw5.out (by have := HG.out; omega)
    refine bodyPost_ret (results_list (rs := [.cell 4 32, .tmp 5, .tmp 6, .tmp 7]) rfl (by simp) (.cell g4 32 _ (0, 0) _ rfl k8 Tryd.underlying32 rfl (by kernel_rfl) (.tmp (.tmp (.tmp .nil))))) rfl ?_
    exact ⟨.slice none 0 0, .slice none 0 0, .slice none 0 0, by rw [HBY.out]; first | rfl | (simp only [AG, hw]; rfl), by rw [HBY.out]; exact ⟨ReadsL.nil _, ReadsL.nil _⟩, by rw [HBY.out]; exact Kd.R_nil _ _ _ _ _, Org.nil _ _ _, Org.nil _ _ _, hB8⟩
  | true =>
    by_cases hh : s.header = 4096
    · have HBY := Aside0.mk (byte_bad s c hw (.inr hh))
      have hb1 : ((s.header : Int) == 4096) = true := beq_iff_eq.2 (by omega)
      clear hbf
      go_wp2_with ((with_reducible refine gate_ (.store 32 (.tmp 4) (.tmp 45)) rfl ?_); refine st_store rfl rfl 32 (.tmp 4) (.tmp 45) rfl (g := g4) (j := 0) (cur' := #[.int .i64 0, .int .i64 0, .slice none 0 0, .int .i64 0, .bool false, .slice none 0 0, .bool true]) [.int .i64 0, .int .i64 0, .slice none 0 0, .int .i64 0, .bool false, .slice none 0 0, .bool true] (.agg #[.int .i64 0, .int .i64 0, .slice none 0 0, .int .i64 0, .bool false, .slice none 0 0, .bool true]) rfl rfl rfl sizeRef (by simp [Value.oneCell']) K4w5.out (by simp) rfl ?_)
      intro wz k8 o8
      go_wp2
      have hB8 : Below w.heap.size w wz := o8.below Bw5.out (by have := HG.out; omega)
      refine bodyPost_ret (results_list (rs := [.cell 4 32, .tmp 5, .tmp 6, .tmp 7]) rfl (by simp) (.cell g4 32 _ (0, 0) _ rfl k8 Tryd.underlying32 rfl (by kernel_rfl) (.tmp (.tmp (.tmp .nil))))) rfl ?_
      exact ⟨.slice none 0 0, .slice none 0 0, .slice none 0 0, by rw [HBY.out]; first | rfl | (simp only [AG, hw]; rfl), by rw [HBY.out]; exact ⟨ReadsL.nil _, ReadsL.nil _⟩, by rw [HBY.out]; exact Kd.R_nil _ _ _ _ _, Org.nil _ _ _, Org.nil _ _ _, hB8⟩
    · have hb1 : ((s.header : Int) == 4096) = false := beq_eq_false_iff_ne.2 (by omega)
      obtain ⟨h1, hh1⟩ : ∃ h1 : Nat, s.header + 1 = h1 := ⟨_, rfl⟩
      have hw1 : wrap64 ((s.header : Int) + 1) = (h1 : Int) := by have := HI.out.header; have := HBB.out; rw [wr64 (by omega) (by omega)]; omega
      have HH1 := Aside0.mk hh1
      have HHH := Aside0.mk hh
      have HBF := Aside0.mk hbf
      clear hh1 hh hbf
      go_wp2_with ((with_reducible refine gate_ (.store 3 (.tmp 49) (.tmp 48)) rfl ?_); refine st_store rfl rfl 3 (.tmp 49) (.tmp 48) rfl (g := g2) (j := 1) (cur' := #[.int .i64 s.most, .int .i64 (wrap64 ((s.header : Int) + 1)), .slice Al s.line.length cl, .int .i64 s.said, .bool false, .slice Ab s.body.length cb, .bool s.dead]) [.int .i64 (wrap64 ((s.header : Int) + 1))] (.int .i64 (wrap64 ((s.header : Int) + 1))) rfl rfl rfl sizeIn (by simp [Value.oneCell']) K2w5.out (by simp) rfl ?_)
      intro w6 hk_ ho_
      rw [hw1] at hk_
      have K2w6 := Aside0.mk hk_
      have K4w6 := Aside0.mk ((ho_.block g4 (by have := HG.out; omega)).trans K4w5.out)
      have Bw6 := Aside0.mk (ho_.below Bw5.out HG.out.1)
      clear hk_ ho_
      clear hc1 hw1 hb1
      have hc2 : (w6.alloc (.cells #[] 5)).cell? ⟨g2, 2, none⟩ = some (.slice Al s.line.length cl) := (blk_cell (blk_alloc K2w6.out _) 2).trans rfl
      go_wp2_with (at_builtin; refine Kd.R_append_rows (Kd.int .u8) (w0 := w) w.heap.size rfl (.tmp 50) (.tmp 52) 22 5 (.int .u8 0) 1 rfl Tryd.underlying22 info5 rfl (by decide) (by omega) _ [] s.line _ _ _ (fun _ => True) (fun _ => False) rfl rfl (empty_R _ w6 Bw6.out.size) (Kd.C_alloc (Kd.C_below HLC.out Bw6.out) _) (fun _ _ h => h) (fun _ h => h.elim) (fun _ _ => trivial) (below_alloc Bw6.out _) (by have := Bw6.out.size; simp; omega) (by have := HI.out.line; have := HBB.out; simp only [List.length_nil]; omega) ?_)
      intro v7 w7 hr7 hB7 hg7 _
      have hr7' : Kd.R (Kd.int .u8) 5 w7 w.heap.size (fun _ => True) v7 s.line := hr7
      have Rw7 := Aside0.mk hr7'
      have Bw7 := Aside0.mk hB7
      have hne : ∀ k, k < w6.heap.size → some k ≠ (Value.slice (some ⟨w6.heap.size, 0, none⟩) 0 0).ownBlock := fun k hk e => by simp [Value.ownBlock] at e; omega
      have K2w7 := Aside0.mk (blk_grown (blk_alloc K2w6.out _) hg7 (hne g2 (blk_lt K2w6.out)))
      have K4w7 := Aside0.mk (blk_grown (blk_alloc K4w6.out _) hg7 (hne g4 (blk_lt K4w6.out)))
      clear hr7 hr7' hB7 hg7 hne hc2
      go_wp2_with (at_builtin; refine Kd.R_append_rows (Kd.int .u8) (w0 := w) w.heap.size rfl (.tmp 53) (.tmp 55) 22 5 (.int .u8 0) 1 rfl Tryd.underlying22 info5 rfl (by decide) (by omega) _ s.line [c] _ _ _ (fun _ => True) (fun _ => False) rfl rfl (Kd.R_alloc Rw7.out _) (C_of_cells _ w7.heap.size _ 5 (0, 0) [c] (Deep.blk_alloc_new w7 _) rfl (by simp)) (fun _ _ h => h) (fun _ h => h.elim) (fun _ _ => trivial) (below_alloc Bw7.out _) (by have := Bw7.out.size; simp; omega) (by have := HI.out.line; have := HBB.out; omega) ?_)
      intro v8 w8 hr8 hB8 hg8 _
      have Rw8 := Aside0.mk (show Kd.R (Kd.int .u8) 5 w8 w.heap.size (fun _ => True) v8 (s.line ++ [c]) from hr8)
      have Bw8 := Aside0.mk hB8
      have K2w8 := Aside0.mk (blk_grown (blk_alloc K2w7.out _) hg8 (Kd.R_ne Rw7.out K2w7.out (by decide)))
      have K4w8 := Aside0.mk (blk_grown (blk_alloc K4w7.out _) hg8 (Kd.R_ne Rw7.out K4w7.out (by decide)))
      obtain ⟨D, hD⟩ : ∃ D, s.line ++ [c] = D := ⟨_, rfl⟩
      rw [hD] at Rw8
      obtain ⟨A8, c8, rfl⟩ := Kd.R_slice Rw8.out
      have HD := Aside0.mk hD
      clear hr8 hB8 hg8 K2w7 K4w7 Rw7 K2w6 K4w6 hD
      go_wp2_with ((with_reducible refine gate_ (.store 22 (.tmp 57) (.tmp 56)) rfl ?_); refine st_store rfl rfl 22 (.tmp 57) (.tmp 56) rfl (g := g2) (j := 2) (cur' := #[.int .i64 s.most, .int .i64 (h1 : Int), .slice A8 D.length c8, .int .i64 s.said, .bool false, .slice Ab s.body.length cb, .bool s.dead]) [.slice A8 D.length c8] (.slice A8 D.length c8) rfl rfl rfl sizeSl (by simp [Value.oneCell']) K2w8.out (by simp) rfl ?_)
      intro w9 hk_ ho_
      have K2w9 := Aside0.mk hk_
      have K4w9 := Aside0.mk ((ho_.block g4 (by have := HG.out; omega)).trans K4w8.out)
      have Bw9 := Aside0.mk (ho_.below Bw8.out HG.out.1)
      have Rw9 := Aside0.mk (ho_.row Rw8.out K2w8.out u8_ne)
      clear hk_ ho_
      clear K2w8 K4w8 Rw8
      by_cases hc10 : c = 10
      · subst hc10
        have HD1 := Aside0.mk (show D.length = s.line.length + 1 by rw [← HD.out]; simp)
        have hw2 : wrap64 ((D.length : Int) - 1) = (s.line.length : Int) := by have := HD1.out; have := HI.out.line; have := HBB.out; rw [wr64 (by omega) (by omega)]; omega
        have hcut : ∀ W : World, (Instr.slice 22 (.slice A8 D.length c8) none (some (.int .i64 (wrap64 ((D.length : Int) - 1)))) none).run Tryd.prog W = .ok (.slice A8 s.line.length c8) W := by
          rw [hw2]
          obtain ⟨i0, hi0, _, hsz, _⟩ := info_parts info5
          intro W
          have := cut_to (P := Tryd.prog) 22 5 .i64 Tryd.underlying22 hi0 A8 D.length c8 (s.line.length : Int) (by omega) (by have := HD1.out; omega) (Kd.R_reads' Rw9.out).2.1 W
          rw [this, show ((s.line.length : Int)).toNat = s.line.length by omega]
        have hcut2 := hcut
        rw [hw2] at hcut2
        have hc2 : w9.cell? ⟨g2, 2, none⟩ = some (.slice A8 D.length c8) := (blk_cell K2w9.out 2).trans rfl
        go_wp2_with ((with_reducible refine gate_ (.store 22 (.tmp 68) (.const (.slice none 0 0))) rfl ?_); refine st_store rfl rfl 22 (.tmp 68) (.const (.slice none 0 0)) rfl (g := g2) (j := 2) (cur' := #[.int .i64 s.most, .int .i64 (h1 : Int), .slice none 0 0, .int .i64 s.said, .bool false, .slice Ab s.body.length cb, .bool s.dead]) [.slice none 0 0] (.slice none 0 0) rfl rfl rfl sizeSl (by simp [Value.oneCell']) K2w9.out (by simp) rfl ?_)
        intro w10 hk_ ho_
        have K2w10 := Aside0.mk hk_
        have K4w10 := Aside0.mk ((ho_.block g4 (by have := HG.out; omega)).trans K4w9.out)
        have Bw10 := Aside0.mk (ho_.below Bw9.out HG.out.1)
        have Rw10 := Aside0.mk (ho_.row Rw9.out K2w9.out u8_ne)
        clear hk_ ho_
        have HCL := Aside0.mk (show Kd.C (Kd.int .u8) w10 A8 s.line.length s.line by
          have h1 := Kd.C_take (m := s.line.length) (Kd.R_reads' Rw10.out).2.2 (by have := HD1.out; omega)
          have h2 : D.take s.line.length = s.line := by rw [← HD.out]; simp
          rw [h2] at h1; exact h1)
        have HCC8 := Aside0.mk (show s.line.length ≤ c8 by have := (Kd.R_reads' Rw10.out).2.1; have := HD1.out; omega)
        clear hw2 hcut hcut2 hc2 K2w9 K4w9 Rw9
        have hby10 : byteS s 10 = if s.line.length = 1 then (if s.said < 0 then (stDead, none, true) else if s.said = 0 then (st0 s.most, some [], false) else ({ s with header := s.header + 1, line := [], whole := true }, none, false))
            else if namedL s.line then (if saidL s.line < 0 ∨ s.most < saidL s.line ∨ 0 ≤ s.said then (stDead, none, true) else ({ s with header := s.header + 1, line := [], said := saidL s.line }, none, false)) else ({ s with header := s.header + 1, line := [] }, none, false) := by
          unfold byteS
          rw [if_neg (by simp [hw]), if_neg (by rw [HBF.out]; simp; exact HHH.out), if_neg (by simp)]
        have hc0 : w10.cell? ⟨g2, 0, none⟩ = some (.int .i64 s.most) := (blk_cell K2w10.out 0).trans rfl
        have hc3 : w10.cell? ⟨g2, 3, none⟩ = some (.int .i64 s.said) := (blk_cell K2w10.out 3).trans rfl
        by_cases hl1 : s.line.length = 1
        · rw [if_pos hl1] at hby10
          have hb1 : ((s.line.length : Int) == 1) = true := beq_iff_eq.2 (by omega)
          by_cases hs0 : s.said < 0
          · rw [if_pos hs0] at hby10
            have HBY := Aside0.mk hby10
            have hb2 : decide (s.said < 0) = true := decide_eq_true hs0
            clear hby10
            go_wp2_with ((with_reducible refine gate_ (.store 32 (.tmp 4) (.tmp 75)) rfl ?_); refine st_store rfl rfl 32 (.tmp 4) (.tmp 75) rfl (g := g4) (j := 0) (cur' := #[.int .i64 0, .int .i64 0, .slice none 0 0, .int .i64 0, .bool false, .slice none 0 0, .bool true]) [.int .i64 0, .int .i64 0, .slice none 0 0, .int .i64 0, .bool false, .slice none 0 0, .bool true] (.agg #[.int .i64 0, .int .i64 0, .slice none 0 0, .int .i64 0, .bool false, .slice none 0 0, .bool true]) rfl rfl rfl sizeRef (by simp [Value.oneCell']) K4w10.out (by simp) rfl ?_)
            intro wz k8 o8
            go_wp2
            have hB8 : Below w.heap.size w wz := o8.below Bw10.out (by have := HG.out; omega)
            refine bodyPost_ret (results_list (rs := [.cell 4 32, .tmp 5, .tmp 6, .tmp 7]) rfl (by simp) (.cell g4 32 _ (0, 0) _ rfl k8 Tryd.underlying32 rfl (by kernel_rfl) (.tmp (.tmp (.tmp .nil))))) rfl ?_
            exact ⟨.slice none 0 0, .slice none 0 0, .slice none 0 0, by rw [HBY.out]; first | rfl | (simp only [AG, hw]; rfl), by rw [HBY.out]; exact ⟨ReadsL.nil _, ReadsL.nil _⟩, by rw [HBY.out]; exact Kd.R_nil _ _ _ _ _, Org.nil _ _ _, Org.nil _ _ _, hB8⟩
          · rw [if_neg hs0] at hby10
            have hb2 : decide (s.said < 0) = false := decide_eq_false hs0
            by_cases hs1 : s.said = 0
            · rw [if_pos hs1] at hby10
              have HBY := Aside0.mk hby10
              have hb3 : (s.said == 0) = true := beq_iff_eq.2 hs1
              clear hby10
              go_wp2_with ((with_reducible refine gate_ (.store 32 (.tmp 4) (.tmp 81)) rfl ?_); refine st_store rfl rfl 32 (.tmp 4) (.tmp 81) rfl (g := g4) (j := 0) (cur' := #[.int .i64 s.most, .int .i64 0, .slice none 0 0, .int .i64 (-1), .bool false, .slice none 0 0, .bool false]) [.int .i64 s.most, .int .i64 0, .slice none 0 0, .int .i64 (-1), .bool false, .slice none 0 0, .bool false] (.agg #[.int .i64 s.most, .int .i64 0, .slice none 0 0, .int .i64 (-1), .bool false, .slice none 0 0, .bool false]) rfl rfl rfl sizeRef (by simp [Value.oneCell']) K4w10.out (by simp) rfl ?_)
              intro wz k8 o8
              go_wp2
              have hB8 : Below w.heap.size w wz := o8.below Bw10.out (by have := HG.out; omega)
              refine bodyPost_ret (results_list (rs := [.cell 4 32, .tmp 5, .tmp 6, .tmp 7]) rfl (by simp) (.cell g4 32 _ (0, 0) _ rfl k8 Tryd.underlying32 rfl (by kernel_rfl) (.tmp (.tmp (.tmp .nil))))) rfl ?_
              exact ⟨.slice none 0 0, .slice none 0 0, .slice none 0 0, by rw [HBY.out]; first | rfl | (simp only [AG, hw]; rfl), by rw [HBY.out]; exact ⟨ReadsL.nil _, ReadsL.nil _⟩, by rw [HBY.out]; exact Kd.R_nil _ _ _ _ _, Org.nil _ _ _, Org.nil _ _ _, hB8⟩
            · rw [if_neg hs1] at hby10
              have HBY := Aside0.mk hby10
              have hb3 : (s.said == 0) = false := beq_eq_false_iff_ne.2 hs1
              clear hby10
              go_wp2_with ((with_reducible refine gate_ (.store 4 (.tmp 82) (.const (.bool true))) rfl ?_); refine st_store rfl rfl 4 (.tmp 82) (.const (.bool true)) rfl (g := g2) (j := 4) (cur' := #[.int .i64 s.most, .int .i64 (h1 : Int), .slice none 0 0, .int .i64 s.said, .bool true, .slice Ab s.body.length cb, .bool s.dead]) [.bool true] (.bool true) rfl rfl rfl sizeBo (by simp [Value.oneCell']) K2w10.out (by simp) rfl ?_)
              intro w11 hk_ ho_
              have K2w11 := Aside0.mk hk_
              have K4w11 := Aside0.mk ((ho_.block g4 (by have := HG.out; omega)).trans K4w10.out)
              have Bw11 := Aside0.mk (ho_.below Bw10.out HG.out.1)
              clear hk_ ho_
              clear hc0 hc3
              have hc0 : w11.cell? ⟨g2, 0, none⟩ = some (.int .i64 s.most) := (blk_cell K2w11.out 0).trans rfl
              have hc1 : w11.cell? ⟨g2, 1, none⟩ = some (.int .i64 (h1 : Int)) := (blk_cell K2w11.out 1).trans rfl
              have hc2 : w11.cell? ⟨g2, 2, none⟩ = some (.slice none 0 0) := (blk_cell K2w11.out 2).trans rfl
              have hc3 : w11.cell? ⟨g2, 3, none⟩ = some (.int .i64 s.said) := (blk_cell K2w11.out 3).trans rfl
              have hc4 : w11.cell? ⟨g2, 4, none⟩ = some (.bool true) := (blk_cell K2w11.out 4).trans rfl
              have hc5 : w11.cell? ⟨g2, 5, none⟩ = some (.slice Ab s.body.length cb) := (blk_cell K2w11.out 5).trans rfl
              have hc6 : w11.cell? ⟨g2, 6, none⟩ = some (.bool s.dead) := (blk_cell K2w11.out 6).trans rfl
              go_wp2_with ((with_reducible refine gate_ (.store 32 (.tmp 4) (.tmp 83)) rfl ?_); refine st_store rfl rfl 32 (.tmp 4) (.tmp 83) rfl (g := g4) (j := 0) (cur' := #[.int .i64 s.most, .int .i64 (h1 : Int), .slice none 0 0, .int .i64 s.said, .bool true, .slice Ab s.body.length cb, .bool s.dead]) [.int .i64 s.most, .int .i64 (h1 : Int), .slice none 0 0, .int .i64 s.said, .bool true, .slice Ab s.body.length cb, .bool s.dead] (.agg #[.int .i64 s.most, .int .i64 (h1 : Int), .slice none 0 0, .int .i64 s.said, .bool true, .slice Ab s.body.length cb, .bool s.dead]) rfl rfl rfl sizeRef (by simp [Value.oneCell']) K4w11.out (by simp) rfl ?_)
              intro wz k8 o8
              go_wp2
              have hB8 : Below w.heap.size w wz := o8.below Bw11.out (by have := HG.out; omega)
              obtain rfl := HH1.out
              refine bodyPost_ret (results_list (rs := [.cell 4 32, .tmp 5, .tmp 6, .tmp 7]) rfl (by simp) (.cell g4 32 _ (0, 0) _ rfl k8 Tryd.underlying32 rfl (by kernel_rfl) (.tmp (.tmp (.tmp .nil))))) rfl ?_
              exact ⟨.slice none 0 0, .slice Ab s.body.length cb, .slice none 0 0, by rw [HBY.out]; first | rfl | (simp only [AG, hw]; rfl), by rw [HBY.out]; exact ⟨ReadsL.nil _, ⟨Ab, cb, rfl, HBL.out, Kd.C_below HBC.out hB8⟩⟩, by rw [HBY.out]; exact Kd.R_nil _ _ _ _ _, Org.nil _ _ _, Org.same _ _ rfl, hB8⟩
        · rw [if_neg hl1] at hby10
          have hb1 : ((s.line.length : Int) == 1) = false := beq_eq_false_iff_ne.2 (by omega)
          have hll2 : s.line.length ≤ 1000000000 := by have := HI.out.line; have := HBB.out; omega
          go_wp2_with (fail)
          refine (galleyref25_named.calls (s.line.length + 16) A8 c8 s.line _ w10 HCL.out HCC8.out (named_law s.line HI.out.bytes (by omega) _ (by omega) (by omega))).mono ?_
          rintro e w11 ⟨rfl, m11, hm11⟩
          have K2w11 := Aside0.mk (show w11.heap[g2]? = some (.cells #[.int .i64 s.most, .int .i64 (h1 : Int), .slice none 0 0, .int .i64 s.said, .bool false, .slice Ab s.body.length cb, .bool s.dead] 32 (0, 0)) by rw [hm11]; exact K2w10.out)
          have K4w11 := Aside0.mk (show w11.heap[g4]? = some (.cells #[.int .i64 0, .int .i64 0, .slice none 0 0, .int .i64 0, .bool false, .slice none 0 0, .bool false] 32 (0, 0)) by rw [hm11]; exact K4w10.out)
          have Bw11 := Aside0.mk (show Below w.heap.size w w11 by rw [hm11]; exact pw_below_drewN Bw10.out m11)
          have HCL11 := Aside0.mk (show Kd.C (Kd.int .u8) w11 A8 s.line.length s.line by rw [hm11]; exact HCL.out)
          clear hm11 K2w10 K4w10 hc0 hc3
          obtain ⟨bn, hbn⟩ : ∃ bn, namedL s.line = bn := ⟨_, rfl⟩
          rw [hbn] at hby10 ⊢
          cases bn with
          | false =>
            rw [if_neg (by simp)] at hby10
            have HBY := Aside0.mk hby10
            clear hby10 hbn
            have hc0 : w11.cell? ⟨g2, 0, none⟩ = some (.int .i64 s.most) := (blk_cell K2w11.out 0).trans rfl
            have hc1 : w11.cell? ⟨g2, 1, none⟩ = some (.int .i64 (h1 : Int)) := (blk_cell K2w11.out 1).trans rfl
            have hc2 : w11.cell? ⟨g2, 2, none⟩ = some (.slice none 0 0) := (blk_cell K2w11.out 2).trans rfl
            have hc3 : w11.cell? ⟨g2, 3, none⟩ = some (.int .i64 s.said) := (blk_cell K2w11.out 3).trans rfl
            have hc4 : w11.cell? ⟨g2, 4, none⟩ = some (.bool false) := (blk_cell K2w11.out 4).trans rfl
            have hc5 : w11.cell? ⟨g2, 5, none⟩ = some (.slice Ab s.body.length cb) := (blk_cell K2w11.out 5).trans rfl
            have hc6 : w11.cell? ⟨g2, 6, none⟩ = some (.bool s.dead) := (blk_cell K2w11.out 6).trans rfl
            go_wp2_with ((with_reducible refine gate_ (.store 32 (.tmp 4) (.tmp 105)) rfl ?_); refine st_store rfl rfl 32 (.tmp 4) (.tmp 105) rfl (g := g4) (j := 0) (cur' := #[.int .i64 s.most, .int .i64 (h1 : Int), .slice none 0 0, .int .i64 s.said, .bool false, .slice Ab s.body.length cb, .bool s.dead]) [.int .i64 s.most, .int .i64 (h1 : Int), .slice none 0 0, .int .i64 s.said, .bool false, .slice Ab s.body.length cb, .bool s.dead] (.agg #[.int .i64 s.most, .int .i64 (h1 : Int), .slice none 0 0, .int .i64 s.said, .bool false, .slice Ab s.body.length cb, .bool s.dead]) rfl rfl rfl sizeRef (by simp [Value.oneCell']) K4w11.out (by simp) rfl ?_)
            intro wz k8 o8
            go_wp2
            have hB8 : Below w.heap.size w wz := o8.below Bw11.out (by have := HG.out; omega)
            obtain rfl := HH1.out
            refine bodyPost_ret (results_list (rs := [.cell 4 32, .tmp 5, .tmp 6, .tmp 7]) rfl (by simp) (.cell g4 32 _ (0, 0) _ rfl k8 Tryd.underlying32 rfl (by kernel_rfl) (.tmp (.tmp (.tmp .nil))))) rfl ?_
            exact ⟨.slice none 0 0, .slice Ab s.body.length cb, .slice none 0 0, by rw [HBY.out]; first | rfl | (simp only [AG, hw]; rfl), by rw [HBY.out]; exact ⟨ReadsL.nil _, ⟨Ab, cb, rfl, HBL.out, Kd.C_below HBC.out hB8⟩⟩, by rw [HBY.out]; exact Kd.R_nil _ _ _ _ _, Org.nil _ _ _, Org.same _ _ rfl, hB8⟩
          | true =>
            rw [if_pos rfl] at hby10
            have hm58 : 58 ∈ s.line := by
              unfold namedL at hbn
              rw [Bool.and_eq_true] at hbn
              exact of_decide_eq_true hbn.1
            have h13 : s.line.getLast? = some 13 := by
              have hf := HBF.out
              unfold fitsL at hf
              by_cases h : s.line.getLast? = some 13
              · exact h
              · rw [if_neg h] at hf
                exfalso
                split at hf
                · exact absurd hf (by decide)
                · first | exact absurd hf (by decide) | (split at hf <;> exact absurd hf (by decide))
            go_wp2_with (fail)
            refine (galleyref25_length.calls (s.line.length + s.line.length + 25) A8 c8 s.line _ w11 HCL11.out HCC8.out (length_law s.line HI.out.bytes (by omega) hm58 h13 _ (by omega))).mono ?_
            rintro e w12 ⟨rfl, m12, hm12⟩
            have K2w12 := Aside0.mk (show w12.heap[g2]? = some (.cells #[.int .i64 s.most, .int .i64 (h1 : Int), .slice none 0 0, .int .i64 s.said, .bool false, .slice Ab s.body.length cb, .bool s.dead] 32 (0, 0)) by rw [hm12]; exact K2w11.out)
            have K4w12 := Aside0.mk (show w12.heap[g4]? = some (.cells #[.int .i64 0, .int .i64 0, .slice none 0 0, .int .i64 0, .bool false, .slice none 0 0, .bool false] 32 (0, 0)) by rw [hm12]; exact K4w11.out)
            have Bw12 := Aside0.mk (show Below w.heap.size w w12 by rw [hm12]; exact pw_below_drewN Bw11.out m12)
            clear hm12 K2w11 K4w11 HCL11 hbn hm58 h13
            have hc0 : w12.cell? ⟨g2, 0, none⟩ = some (.int .i64 s.most) := (blk_cell K2w12.out 0).trans rfl
            have hc3 : w12.cell? ⟨g2, 3, none⟩ = some (.int .i64 s.said) := (blk_cell K2w12.out 3).trans rfl
            obtain ⟨n, hn⟩ : ∃ n, saidL s.line = n := ⟨_, rfl⟩
            rw [hn] at hby10 ⊢
            by_cases hn0 : n < 0
            · have hb2 : decide (n < 0) = true := decide_eq_true hn0
              rw [if_pos (.inl hn0)] at hby10
              have HBY := Aside0.mk hby10
              clear hby10 hn
              go_wp2_with ((with_reducible refine gate_ (.store 32 (.tmp 4) (.tmp 102)) rfl ?_); refine st_store rfl rfl 32 (.tmp 4) (.tmp 102) rfl (g := g4) (j := 0) (cur' := #[.int .i64 0, .int .i64 0, .slice none 0 0, .int .i64 0, .bool false, .slice none 0 0, .bool true]) [.int .i64 0, .int .i64 0, .slice none 0 0, .int .i64 0, .bool false, .slice none 0 0, .bool true] (.agg #[.int .i64 0, .int .i64 0, .slice none 0 0, .int .i64 0, .bool false, .slice none 0 0, .bool true]) rfl rfl rfl sizeRef (by simp [Value.oneCell']) K4w12.out (by simp) rfl ?_)
              intro wz k8 o8
              go_wp2
              have hB8 : Below w.heap.size w wz := o8.below Bw12.out (by have := HG.out; omega)
              refine bodyPost_ret (results_list (rs := [.cell 4 32, .tmp 5, .tmp 6, .tmp 7]) rfl (by simp) (.cell g4 32 _ (0, 0) _ rfl k8 Tryd.underlying32 rfl (by kernel_rfl) (.tmp (.tmp (.tmp .nil))))) rfl ?_
              exact ⟨.slice none 0 0, .slice none 0 0, .slice none 0 0, by rw [HBY.out]; first | rfl | (simp only [AG, hw]; rfl), by rw [HBY.out]; exact ⟨ReadsL.nil _, ReadsL.nil _⟩, by rw [HBY.out]; exact Kd.R_nil _ _ _ _ _, Org.nil _ _ _, Org.nil _ _ _, hB8⟩
            have hb2 : decide (n < 0) = false := decide_eq_false hn0
            by_cases hn1 : s.most < n
            · have hb3 : decide (s.most < n) = true := decide_eq_true hn1
              rw [if_pos (.inr (.inl hn1))] at hby10
              have HBY := Aside0.mk hby10
              clear hby10 hn
              go_wp2_with ((with_reducible refine gate_ (.store 32 (.tmp 4) (.tmp 102)) rfl ?_); refine st_store rfl rfl 32 (.tmp 4) (.tmp 102) rfl (g := g4) (j := 0) (cur' := #[.int .i64 0, .int .i64 0, .slice none 0 0, .int .i64 0, .bool false, .slice none 0 0, .bool true]) [.int .i64 0, .int .i64 0, .slice none 0 0, .int .i64 0, .bool false, .slice none 0 0, .bool true] (.agg #[.int .i64 0, .int .i64 0, .slice none 0 0, .int .i64 0, .bool false, .slice none 0 0, .bool true]) rfl rfl rfl sizeRef (by simp [Value.oneCell']) K4w12.out (by simp) rfl ?_)
              intro wz k8 o8
              go_wp2
              have hB8 : Below w.heap.size w wz := o8.below Bw12.out (by have := HG.out; omega)
              refine bodyPost_ret (results_list (rs := [.cell 4 32, .tmp 5, .tmp 6, .tmp 7]) rfl (by simp) (.cell g4 32 _ (0, 0) _ rfl k8 Tryd.underlying32 rfl (by kernel_rfl) (.tmp (.tmp (.tmp .nil))))) rfl ?_
              exact ⟨.slice none 0 0, .slice none 0 0, .slice none 0 0, by rw [HBY.out]; first | rfl | (simp only [AG, hw]; rfl), by rw [HBY.out]; exact ⟨ReadsL.nil _, ReadsL.nil _⟩, by rw [HBY.out]; exact Kd.R_nil _ _ _ _ _, Org.nil _ _ _, Org.nil _ _ _, hB8⟩
            have hb3 : decide (s.most < n) = false := decide_eq_false hn1
            by_cases hn2 : 0 ≤ s.said
            · have hb4 : decide (0 ≤ s.said) = true := decide_eq_true hn2
              rw [if_pos (.inr (.inr hn2))] at hby10
              have HBY := Aside0.mk hby10
              clear hby10 hn
              go_wp2_with ((with_reducible refine gate_ (.store 32 (.tmp 4) (.tmp 102)) rfl ?_); refine st_store rfl rfl 32 (.tmp 4) (.tmp 102) rfl (g := g4) (j := 0) (cur' := #[.int .i64 0, .int .i64 0, .slice none 0 0, .int .i64 0, .bool false, .slice none 0 0, .bool true]) [.int .i64 0, .int .i64 0, .slice none 0 0, .int .i64 0, .bool false, .slice none 0 0, .bool true] (.agg #[.int .i64 0, .int .i64 0, .slice none 0 0, .int .i64 0, .bool false, .slice none 0 0, .bool true]) rfl rfl rfl sizeRef (by simp [Value.oneCell']) K4w12.out (by simp) rfl ?_)
              intro wz k8 o8
              go_wp2
              have hB8 : Below w.heap.size w wz := o8.below Bw12.out (by have := HG.out; omega)
              refine bodyPost_ret (results_list (rs := [.cell 4 32, .tmp 5, .tmp 6, .tmp 7]) rfl (by simp) (.cell g4 32 _ (0, 0) _ rfl k8 Tryd.underlying32 rfl (by kernel_rfl) (.tmp (.tmp (.tmp .nil))))) rfl ?_
              exact ⟨.slice none 0 0, .slice none 0 0, .slice none 0 0, by rw [HBY.out]; first | rfl | (simp only [AG, hw]; rfl), by rw [HBY.out]; exact ⟨ReadsL.nil _, ReadsL.nil _⟩, by rw [HBY.out]; exact Kd.R_nil _ _ _ _ _, Org.nil _ _ _, Org.nil _ _ _, hB8⟩
            have hb4 : decide (0 ≤ s.said) = false := decide_eq_false hn2
            rw [if_neg (by omega)] at hby10
            have HBY := Aside0.mk hby10
            clear hby10 hn
            go_wp2_with ((with_reducible refine gate_ (.store 3 (.tmp 104) (.tmp 103)) rfl ?_); refine st_store rfl rfl 3 (.tmp 104) (.tmp 103) rfl (g := g2) (j := 3) (cur' := #[.int .i64 s.most, .int .i64 (h1 : Int), .slice none 0 0, .int .i64 n, .bool false, .slice Ab s.body.length cb, .bool s.dead]) [.int .i64 n] (.int .i64 n) rfl rfl rfl sizeIn (by simp [Value.oneCell']) K2w12.out (by simp) rfl ?_)
            intro w13 hk_ ho_
            have K2w13 := Aside0.mk hk_
            have K4w13 := Aside0.mk ((ho_.block g4 (by have := HG.out; omega)).trans K4w12.out)
            have Bw13 := Aside0.mk (ho_.below Bw12.out HG.out.1)
            clear hk_ ho_
            clear hc0 hc3
            have hc0 : w13.cell? ⟨g2, 0, none⟩ = some (.int .i64 s.most) := (blk_cell K2w13.out 0).trans rfl
            have hc1 : w13.cell? ⟨g2, 1, none⟩ = some (.int .i64 (h1 : Int)) := (blk_cell K2w13.out 1).trans rfl
            have hc2 : w13.cell? ⟨g2, 2, none⟩ = some (.slice none 0 0) := (blk_cell K2w13.out 2).trans rfl
            have hc3 : w13.cell? ⟨g2, 3, none⟩ = some (.int .i64 n) := (blk_cell K2w13.out 3).trans rfl
            have hc4 : w13.cell? ⟨g2, 4, none⟩ = some (.bool false) := (blk_cell K2w13.out 4).trans rfl
            have hc5 : w13.cell? ⟨g2, 5, none⟩ = some (.slice Ab s.body.length cb) := (blk_cell K2w13.out 5).trans rfl
            have hc6 : w13.cell? ⟨g2, 6, none⟩ = some (.bool s.dead) := (blk_cell K2w13.out 6).trans rfl
            go_wp2_with ((with_reducible refine gate_ (.store 32 (.tmp 4) (.tmp 105)) rfl ?_); refine st_store rfl rfl 32 (.tmp 4) (.tmp 105) rfl (g := g4) (j := 0) (cur' := #[.int .i64 s.most, .int .i64 (h1 : Int), .slice none 0 0, .int .i64 n, .bool false, .slice Ab s.body.length cb, .bool s.dead]) [.int .i64 s.most, .int .i64 (h1 : Int), .slice none 0 0, .int .i64 n, .bool false, .slice Ab s.body.length cb, .bool s.dead] (.agg #[.int .i64 s.most, .int .i64 (h1 : Int), .slice none 0 0, .int .i64 n, .bool false, .slice Ab s.body.length cb, .bool s.dead]) rfl rfl rfl sizeRef (by simp [Value.oneCell']) K4w13.out (by simp) rfl ?_)
            intro wz k8 o8
            go_wp2
            have hB8 : Below w.heap.size w wz := o8.below Bw13.out (by have := HG.out; omega)
            obtain rfl := HH1.out
            refine bodyPost_ret (results_list (rs := [.cell 4 32, .tmp 5, .tmp 6, .tmp 7]) rfl (by simp) (.cell g4 32 _ (0, 0) _ rfl k8 Tryd.underlying32 rfl (by kernel_rfl) (.tmp (.tmp (.tmp .nil))))) rfl ?_
            exact ⟨.slice none 0 0, .slice Ab s.body.length cb, .slice none 0 0, by rw [HBY.out]; first | rfl | (simp only [AG, hw]; rfl), by rw [HBY.out]; exact ⟨ReadsL.nil _, ⟨Ab, cb, rfl, HBL.out, Kd.C_below HBC.out hB8⟩⟩, by rw [HBY.out]; exact Kd.R_nil _ _ _ _ _, Org.nil _ _ _, Org.same _ _ rfl, hB8⟩
      · have HBY := Aside0.mk (byte_on s c hw HBF.out HHH.out hc10)
        have hb1 : (c == 10) = false := beq_eq_false_iff_ne.2 hc10
        have hb2 : (c != 10) = true := by simp [hc10]
        have hc0 : w9.cell? ⟨g2, 0, none⟩ = some (.int .i64 s.most) := (blk_cell K2w9.out 0).trans rfl
        have hc1 : w9.cell? ⟨g2, 1, none⟩ = some (.int .i64 (h1 : Int)) := (blk_cell K2w9.out 1).trans rfl
        have hc2 : w9.cell? ⟨g2, 2, none⟩ = some (.slice A8 D.length c8) := (blk_cell K2w9.out 2).trans rfl
        have hc3 : w9.cell? ⟨g2, 3, none⟩ = some (.int .i64 s.said) := (blk_cell K2w9.out 3).trans rfl
        have hc4 : w9.cell? ⟨g2, 4, none⟩ = some (.bool false) := (blk_cell K2w9.out 4).trans rfl
        have hc5 : w9.cell? ⟨g2, 5, none⟩ = some (.slice Ab s.body.length cb) := (blk_cell K2w9.out 5).trans rfl
        have hc6 : w9.cell? ⟨g2, 6, none⟩ = some (.bool s.dead) := (blk_cell K2w9.out 6).trans rfl
        go_wp2_with ((with_reducible refine gate_ (.store 32 (.tmp 4) (.tmp 60)) rfl ?_); refine st_store rfl rfl 32 (.tmp 4) (.tmp 60) rfl (g := g4) (j := 0) (cur' := #[.int .i64 s.most, .int .i64 (h1 : Int), .slice A8 D.length c8, .int .i64 s.said, .bool false, .slice Ab s.body.length cb, .bool s.dead]) [.int .i64 s.most, .int .i64 (h1 : Int), .slice A8 D.length c8, .int .i64 s.said, .bool false, .slice Ab s.body.length cb, .bool s.dead] (.agg #[.int .i64 s.most, .int .i64 (h1 : Int), .slice A8 D.length c8, .int .i64 s.said, .bool false, .slice Ab s.body.length cb, .bool s.dead]) rfl rfl rfl sizeRef (by simp [Value.oneCell']) K4w9.out (by simp) rfl ?_)
        intro wz k8 o8
        go_wp2
        have hB8 : Below w.heap.size w wz := o8.below Bw9.out (by have := HG.out; omega)
        obtain rfl := HH1.out
        obtain rfl := HD.out
        refine bodyPost_ret (results_list (rs := [.cell 4 32, .tmp 5, .tmp 6, .tmp 7]) rfl (by simp) (.cell g4 32 _ (0, 0) _ rfl k8 Tryd.underlying32 rfl (by kernel_rfl) (.tmp (.tmp (.tmp .nil))))) rfl ?_
        exact ⟨.slice A8 (s.line ++ [c]).length c8, .slice Ab s.body.length cb, .slice none 0 0, by rw [HBY.out]; first | rfl | (simp only [AG, hw]; rfl), by rw [HBY.out]; exact ⟨ReadsL.row (o8.row Rw9.out K4w9.out u8_ne), ⟨Ab, cb, rfl, HBL.out, Kd.C_below HBC.out hB8⟩⟩, by rw [HBY.out]; exact Kd.R_nil _ _ _ _ _, Org.row (o8.row Rw9.out K4w9.out u8_ne), Org.same _ _ rfl, hB8⟩
theorem rbyte_calls (s : St) (vl vb : Value) (c : Int) (w : World) (B : Nat) (h : SR w s vl vb) (hc : 0 ≤ c ∧ c ≤ 255) (hi : LI s B) (hB : B ≤ 1000000000) :
    Calls Tryd.prog 27 #[AG s vl vb, .int .u8 c] w fun e w' => ∃ vl' vb' vm, e = .returned (.tuple #[AG (byteS s c).1 vl' vb', vm, .bool (byteS s c).2.1.isSome, .bool (byteS s c).2.2]) ∧ SR w' (byteS s c).1 vl' vb' ∧
      Kd.R (Kd.int .u8) 5 w' w.heap.size (fun _ => True) vm ((byteS s c).2.1.getD []) ∧ Org w w' vl vl' ∧ Org w w' vb vb' ∧ Below w.heap.size w w' := by
  cases hw : s.whole with
  | true => exact rbyte_whole s vl vb c w B h hc hi hB hw
  | false => exact rbyte_head s vl vb c w B h hc hi hB hw
end Go.Proofs.YtgdiilpocoimgaaDoor.Hand
