/- The document's Feed: its walk. -/
import Derived.Test.YtgdiilpocoimgaaDoorFByte
import Derived.Test.YtgdiilpocoimgaaDoorFFd
import Derived.Test.YtgdiilpocoimgaaDoorFSame
set_option linter.unusedVariables false
set_option linter.unusedSimpArgs false
namespace Go.Proofs.YtgdiilpocoimgaaDoor.Hand
open Go.RowKit Go.Proofs.YtgdiilpocoimgaaDoor.Frm Go.Proofs.YtgdiilpocoimgaaDoorW.PrintWords Go.Proofs.YtgdiilpocoimgaaDoorW.PrintLast Go.Proofs.YtgdiilpocoimgaaDoorW.PrintMore
theorem byteS_some {s s' : St} {c : Int} {m : List Int} {f : Bool} (h : byteS s c = (s', some m, f)) : s'.line = [] ∧ s'.body = [] ∧ f = false := by
  unfold byteS at h
  repeat' split at h
  all_goals (simp only [Prod.mk.injEq] at h; obtain ⟨h1, h2, h3⟩ := h)
  all_goals first
    | (subst h1; subst h3; exact ⟨rfl, rfl, rfl⟩)
    | (exact absurd h2 (by simp))
theorem ReadsL.empty {w w' : World} {v : Value} {l : List Int} (hl : l = []) (h : ReadsL w v l) : ReadsL w' v l := by
  subst hl
  obtain ⟨A, c, e, h1, h2⟩ := h
  exact ⟨A, c, e, h1, rfl, by simp, fun h0 => absurd h0 (by simp)⟩
theorem runS_take (s : St) (l : List Int) (i : Nat) (hi : i < l.length) (S : St) (X : List (List Int)) (h : runS s (l.take i) = (S, X, false)) : runS s (l.take (i + 1)) =
    if (byteS S (rd l (i : Int))).2.2 then ((byteS S (rd l (i : Int))).1, X, true) else ((byteS S (rd l (i : Int))).1, X ++ (byteS S (rd l (i : Int))).2.1.toList, false) := by
  rw [List.take_succ_eq_append_getElem hi, runS_append, h, rd_at l i hi]
  simp only [Bool.false_eq_true, if_false]
  rw [runS]
  by_cases hf : (byteS S l[i]).2.2 = true
  · rw [if_pos hf, if_pos hf]; simp
  · rw [if_neg hf, if_neg hf]; simp [runS]
theorem runS_more (s : St) (l : List Int) (i : Nat) (S : St) (X : List (List Int)) (h : runS s (l.take i) = (S, X, true)) : runS s l = (S, X, true) := by
  have e := runS_append (l.take i) (l.drop i) s
  rw [List.take_append_drop, h] at e
  simpa using e
theorem LI.runs : ∀ (l : List Int) (s : St) (B : Nat), LI s B → Bytes l → LI (runS s l).1 (B + l.length)
  | [], s, B, h, hb => h
  | c :: t, s, B, h, hb => by
    have h1 := h.step c (hb c List.mem_cons_self)
    rw [runS]
    split
    · exact h1.mono (by simp only [List.length_cons]; omega)
    · exact (LI.runs t _ (B + 1) h1 (fun x hx => hb x (List.mem_cons_of_mem _ hx))).mono (by simp only [List.length_cons]; omega)
theorem LI.feed {s : St} {B : Nat} (h : LI s B) (l : List Int) (hb : Bytes l) : LI (rfeed s l).1 (B + l.length) := by
  unfold rfeed
  split
  · exact h.mono (by omega)
  · exact LI.runs l s B h hb
set_option maxHeartbeats 4000000 in
set_option maxRecDepth 100000 in
theorem rfeed_dead (s : St) (vl vb : Value) (A : Option Addr) (c : Nat) (l : List Int) (w : World) (h : SR w s vl vb) (hd : s.dead = true) :
    Calls Tryd.prog 16 #[AG s vl vb, .slice A l.length c] w fun e w' => ∃ vl' vb' vo, e = .returned (.tuple #[AG (rfeed s l).1 vl' vb', vo, .int .i64 (rfeed s l).2.2]) ∧ SR w' (rfeed s l).1 vl' vb' ∧
      Kd.R (Kd.slice 5 (Kd.int .u8)) 22 w' w.heap.size (fun _ => True) vo (rfeed s l).2.1 ∧ Org w w' vl vl' ∧ Org w w' vb vb' ∧ Below w.heap.size w w' := by
  obtain ⟨Al, cl, rfl, hll, hLC⟩ := h.line
  obtain ⟨Ab, cb, rfl, hbl, hBC⟩ := h.body
  have HSR := Aside0.mk h
  have hu32 := Tryd.underlying32
  unfold AG
  clear h hll hLC hbl hBC
  have HRF := Aside0.mk (show rfeed s l = (s, [], 251) by unfold rfeed; rw [if_pos hd])
  go_enter Tryd.func16, Tryd.ntmps16
  go_wp2_with (first | ((with_reducible refine gate_dst (N := 2) rfl ?_); refine box_event ?hg (N := 2) ?hd (cs := #[.int .i64 s.most, .int .i64 (s.header : Int), .slice Al s.line.length cl, .int .i64 s.said, .bool s.whole, .slice Ab s.body.length cb, .bool s.dead]) (t := 32) ?hr ?_; (case hd => rfl); (case hg => rfl); (case hr => first | (go_simp; done) | (go_simp; rfl)); intro g2 hg2 w2 hb2 hB2; have HG2 := Aside0.mk (And.intro (Nat.le_of_eq hg2.symm) (blk_lt hb2)); have HKA := Aside0.mk hb2; have HBA := Aside0.mk hB2; clear hg2 hb2 hB2) | ((with_reducible refine gate_dst (N := 4) rfl ?_); refine box_event ?hg (N := 4) ?hd (cs := #[.int .i64 0, .int .i64 0, .slice none 0 0, .int .i64 0, .bool false, .slice none 0 0, .bool false]) (t := 32) ?hr ?_; (case hd => rfl); (case hg => rfl); (case hr => first | (go_simp; done) | (go_simp; rfl)); intro g4 hg4 w4 hb4 hB4; have HG := Aside0.mk (And.intro HG2.out.1 (show g2 < g4 by rw [hg4]; exact HG2.out.2)); have HB4 := Aside0.mk (below_step HBA.out hB4); have HK2 := Aside0.mk (blk_below HKA.out hB4); have HK4 := Aside0.mk hb4; clear hg4 hb4 hB4 HKA HBA HG2; have hc0 : w4.cell? ⟨g2, 0, none⟩ = some (.int .i64 s.most) := (blk_cell HK2.out 0).trans rfl; have hc1 : w4.cell? ⟨g2, 1, none⟩ = some (.int .i64 (s.header : Int)) := (blk_cell HK2.out 1).trans rfl; have hc2 : w4.cell? ⟨g2, 2, none⟩ = some (.slice Al s.line.length cl) := (blk_cell HK2.out 2).trans rfl; have hc3 : w4.cell? ⟨g2, 3, none⟩ = some (.int .i64 s.said) := (blk_cell HK2.out 3).trans rfl; have hc4 : w4.cell? ⟨g2, 4, none⟩ = some (.bool s.whole) := (blk_cell HK2.out 4).trans rfl; have hc5 : w4.cell? ⟨g2, 5, none⟩ = some (.slice Ab s.body.length cb) := (blk_cell HK2.out 5).trans rfl; have hc6 : w4.cell? ⟨g2, 6, none⟩ = some (.bool s.dead) := (blk_cell HK2.out 6).trans rfl; rw [hd] at hc6) | ((with_reducible refine gate_ (.store 32 (.tmp 4) (.tmp 15)) rfl ?_); refine st_store rfl rfl 32 (.tmp 4) (.tmp 15) rfl (g := g4) (j := 0) (cur' := #[.int .i64 s.most, .int .i64 (s.header : Int), .slice Al s.line.length cl, .int .i64 s.said, .bool s.whole, .slice Ab s.body.length cb, .bool true]) [.int .i64 s.most, .int .i64 (s.header : Int), .slice Al s.line.length cl, .int .i64 s.said, .bool s.whole, .slice Ab s.body.length cb, .bool true] (.agg #[.int .i64 s.most, .int .i64 (s.header : Int), .slice Al s.line.length cl, .int .i64 s.said, .bool s.whole, .slice Ab s.body.length cb, .bool true]) rfl rfl rfl sizeRef (by simp [Value.oneCell']) HK4.out (by simp) rfl ?_))
  intro w5 k8 o8
  go_wp2
  refine bodyPost_ret (results_list (rs := [.cell 4 32, .tmp 5, .tmp 6]) rfl (by simp) (.cell g4 32 _ (0, 0) _ rfl k8 Tryd.underlying32 rfl (by kernel_rfl) (.tmp (.tmp .nil)))) rfl ?_
  have hB := o8.below HB4.out (by have := HG.out; omega)
  exact ⟨.slice Al s.line.length cl, .slice Ab s.body.length cb, .slice none 0 0, by rw [HRF.out]; first | rfl | (simp only [AG, hd]; rfl), by rw [HRF.out]; exact HSR.out.below hB, by rw [HRF.out]; exact Kd.R_nil _ _ _ _ _, Org.same _ _ rfl, Org.same _ _ rfl, hB⟩
set_option maxHeartbeats 8000000 in
set_option maxRecDepth 100000 in
theorem rfeed_live (s : St) (vl vb : Value) (A : Option Addr) (c : Nat) (l : List Int) (w : World) (B : Nat) (h : SR w s vl vb) (hd : s.dead = false) (hi : LI s B) (hC : Kd.C (Kd.int .u8) w A l.length l) (hlb : Bytes l) (hB : B + l.length ≤ 1000000000) :
    Calls Tryd.prog 16 #[AG s vl vb, .slice A l.length c] w fun e w' => ∃ vl' vb' vo, e = .returned (.tuple #[AG (rfeed s l).1 vl' vb', vo, .int .i64 (rfeed s l).2.2]) ∧ SR w' (rfeed s l).1 vl' vb' ∧
      Kd.R (Kd.slice 5 (Kd.int .u8)) 22 w' w.heap.size (fun _ => True) vo (rfeed s l).2.1 ∧ Org w w' vl vl' ∧ Org w w' vb vb' ∧ Below w.heap.size w w' := by
  obtain ⟨Al, cl, rfl, hll, hLC⟩ := h.line
  obtain ⟨Ab, cb, rfl, hbl, hBC⟩ := h.body
  have HSR := Aside0.mk h
  have hu32 := Tryd.underlying32
  unfold AG
  have HI := Aside0.mk hi
  have HC := Aside0.mk hC
  have HBY := Aside0.mk hlb
  have HBB := Aside0.mk hB
  have HRF := Aside0.mk (show rfeed s l = ((runS s l).1, (runS s l).2.1, if (runS s l).2.2 = true then 250 else 0) by unfold rfeed; rw [if_neg (by simp [hd])])
  clear h hll hLC hbl hBC hi hC hlb hB
  go_enter Tryd.func16, Tryd.ntmps16
  go_wp2_with (first | ((with_reducible refine gate_dst (N := 2) rfl ?_); refine box_event ?hg (N := 2) ?hd (cs := #[.int .i64 s.most, .int .i64 (s.header : Int), .slice Al s.line.length cl, .int .i64 s.said, .bool s.whole, .slice Ab s.body.length cb, .bool s.dead]) (t := 32) ?hr ?_; (case hd => rfl); (case hg => rfl); (case hr => first | (go_simp; done) | (go_simp; rfl)); intro g2 hg2 w2 hb2 hB2; have HG2 := Aside0.mk (And.intro (Nat.le_of_eq hg2.symm) (blk_lt hb2)); have HKA := Aside0.mk hb2; have HBA := Aside0.mk hB2; clear hg2 hb2 hB2) | ((with_reducible refine gate_dst (N := 4) rfl ?_); refine box_event ?hg (N := 4) ?hd (cs := #[.int .i64 0, .int .i64 0, .slice none 0 0, .int .i64 0, .bool false, .slice none 0 0, .bool false]) (t := 32) ?hr ?_; (case hd => rfl); (case hg => rfl); (case hr => first | (go_simp; done) | (go_simp; rfl)); intro g4 hg4 w4 hb4 hB4; have HG := Aside0.mk (And.intro HG2.out.1 (show g2 < g4 by rw [hg4]; exact HG2.out.2)); have HB4 := Aside0.mk (below_step HBA.out hB4); have HK2 := Aside0.mk (blk_below HKA.out hB4); have HK4 := Aside0.mk hb4; clear hg4 hb4 hB4 HKA HBA HG2; have hc6 : w4.cell? ⟨g2, 6, none⟩ = some (.bool false) := by rw [← hd]; exact (blk_cell HK2.out 6).trans rfl) | (fail))
  clear hc6
  obtain ⟨VL0, hVL0⟩ : ∃ V, V = Value.slice Al s.line.length cl := ⟨_, rfl⟩
  obtain ⟨VB0, hVB0⟩ : ∃ V, V = Value.slice Ab s.body.length cb := ⟨_, rfl⟩
  have HV0 := Aside0.mk (And.intro hVL0 hVB0)
  clear hVL0 hVB0
  go_loopg [7, 8] (l.length + 1) (fun g v7 v8 wx => ∃ (i : Nat) (S : St) (X : List (List Int)) (Al : Option Addr) (cl : Nat) (Ab : Option Addr) (cb : Nat), v8 = .int .i64 (i : Int) ∧ Aside0 (SR wx S (.slice Al S.line.length cl) (.slice Ab S.body.length cb)) ∧ Aside0 (wx.heap[g2]? = some (.cells #[.int .i64 S.most, .int .i64 (S.header : Int), .slice Al S.line.length cl, .int .i64 S.said, .bool S.whole, .slice Ab S.body.length cb, .bool S.dead] 32 (0, 0))) ∧ Aside0 (wx.heap[g4]? = some (.cells #[.int .i64 0, .int .i64 0, .slice none 0 0, .int .i64 0, .bool false, .slice none 0 0, .bool false] 32 (0, 0))) ∧
      Aside0 (Kd.R (Kd.slice 5 (Kd.int .u8)) 22 wx w.heap.size (fun _ => True) v7 X) ∧ Aside0 (Below w.heap.size w wx) ∧ Aside0 (LI S (B + i)) ∧ Aside0 (runS s (l.take i) = (S, X, false)) ∧ Aside0 (i ≤ l.length ∧ l.length < i + g ∧ g4 < wx.heap.size) ∧ Aside0 (Org w wx VL0 (.slice Al S.line.length cl) ∧ Org w wx VB0 (.slice Ab S.body.length cb)))
  case atStart => exact ⟨0, s, [], Al, cl, Ab, cb, rfl, ⟨HSR.out.below HB4.out⟩, HK2, HK4, ⟨Kd.R_nil _ _ _ _ _⟩, HB4, HI, ⟨rfl⟩, ⟨by have := blk_lt HK4.out; omega⟩, ⟨by rw [HV0.out.1]; exact Org.same _ _ rfl, by rw [HV0.out.2]; exact Org.same _ _ rfl⟩⟩
  case round =>
    clear HSR HK2 HK4 HB4 HI
    obtain ⟨i, S, X, Al, cl, Ab, cb, rfl, HS, HK2, HK4, HX, HB, HI, HRN, HN, HO⟩ := hrel
    by_cases hlt : i < l.length
    · have hb1 : decide ((i : Int) < (l.length : Int)) = true := decide_eq_true (by omega)
      obtain ⟨gk, rfl⟩ : ∃ g', gk = g' + 1 := ⟨gk - 1, by have := HN.out; omega⟩
      have hw1 : wrap64 ((i : Int) + 1) = ((i + 1 : Nat) : Int) := by have := HBB.out; rw [wr64 (by omega) (by omega)]; push_cast; rfl
      have p0 : 0 ≤ (i : Int) := by omega
      have q0 : (i : Int) < (l.length : Int) := by omega
      obtain ⟨ad0, rfl, hx1⟩ := Kd.at_int (Kd.C_below HC.out HB.out) (i : Int) p0 q0
      have hx2 : wr.cell? (ad0.add i) = some (.int .u8 (rd l (i : Int))) := hx1
      have hxb : 0 ≤ rd l (i : Int) ∧ rd l (i : Int) ≤ 255 := by rw [rd_at l i hlt]; exact HBY.out _ (List.getElem_mem hlt)
      have htk := runS_take s l i hlt S X HRN.out
      obtain ⟨x, hx⟩ : ∃ x, rd l (i : Int) = x := ⟨_, rfl⟩
      rw [hx] at hx2 hxb htk
      have hli := HI.out.step x hxb
      obtain ⟨⟨S2, mo, fa⟩, hby⟩ : ∃ t, byteS S x = t := ⟨_, rfl⟩
      rw [hby] at htk hli
      simp only at htk hli
      have hcall := Aside0.mk (fun (W : World) (hW : Below wr.heap.size wr W) => show Calls Tryd.prog 27 #[.agg #[.int .i64 S.most, .int .i64 (S.header : Int), .slice Al S.line.length cl, .int .i64 S.said, .bool S.whole, .slice Ab S.body.length cb, .bool S.dead], .int .u8 x] W fun e w' => ∃ Al2 cl2 Ab2 cb2 vm, e = .returned (.tuple #[.agg #[.int .i64 S2.most, .int .i64 (S2.header : Int), .slice Al2 S2.line.length cl2, .int .i64 S2.said, .bool S2.whole, .slice Ab2 S2.body.length cb2, .bool S2.dead], vm, .bool mo.isSome, .bool fa]) ∧ SR w' S2 (.slice Al2 S2.line.length cl2) (.slice Ab2 S2.body.length cb2) ∧ Kd.R (Kd.int .u8) 5 w' W.heap.size (fun _ => True) vm (mo.getD []) ∧ Org W w' (.slice Al S.line.length cl) (.slice Al2 S2.line.length cl2) ∧ Org W w' (.slice Ab S.body.length cb) (.slice Ab2 S2.body.length cb2) ∧ Below W.heap.size W w' by
        refine (rbyte_calls S _ _ x W (B + i) (HS.out.below hW) hxb HI.out (by have := HBB.out; omega)).mono ?_
        rintro e w' ⟨vl', vb', vm, rfl, hsr, hrm, hol, hob, hB⟩
        rw [hby] at hsr hrm ⊢
        obtain ⟨A1, c1, rfl, k1⟩ := hsr.line
        obtain ⟨A2, c2, rfl, k2⟩ := hsr.body
        exact ⟨A1, c1, A2, c2, vm, rfl, hsr, hrm, hol, hob, hB⟩)
      have HTK := Aside0.mk htk
      have HLI := Aside0.mk hli
      have HBYS := Aside0.mk hby
      have HLT := Aside0.mk (show g2 < g4 ∧ g4 < wr.heap.size by have := HG.out; have := HN.out; omega)
      have HLTX := Aside0.mk (Kd.R_lt HX.out)
      have hc0 : wr.cell? ⟨g2, 0, none⟩ = some (.int .i64 S.most) := (blk_cell HK2.out 0).trans rfl
      have hc1 : wr.cell? ⟨g2, 1, none⟩ = some (.int .i64 (S.header : Int)) := (blk_cell HK2.out 1).trans rfl
      have hc2 : wr.cell? ⟨g2, 2, none⟩ = some (.slice Al S.line.length cl) := (blk_cell HK2.out 2).trans rfl
      have hc3 : wr.cell? ⟨g2, 3, none⟩ = some (.int .i64 S.said) := (blk_cell HK2.out 3).trans rfl
      have hc4 : wr.cell? ⟨g2, 4, none⟩ = some (.bool S.whole) := (blk_cell HK2.out 4).trans rfl
      have hc5 : wr.cell? ⟨g2, 5, none⟩ = some (.slice Ab S.body.length cb) := (blk_cell HK2.out 5).trans rfl
      have hc6 : wr.cell? ⟨g2, 6, none⟩ = some (.bool S.dead) := (blk_cell HK2.out 6).trans rfl
      replace p0 := eq_true p0
      replace q0 := eq_true q0
      clear hx1 hxb htk hli hx hby
      go_wp2
      refine start_ (n := 16) (S := fun w' => w'.cell? ⟨g2, 0, none⟩ = some (.int .i64 S.most) ∧ w'.cell? ⟨g2, 1, none⟩ = some (.int .i64 (S.header : Int)) ∧ w'.cell? ⟨g2, 2, none⟩ = some (.slice Al S.line.length cl) ∧ w'.cell? ⟨g2, 3, none⟩ = some (.int .i64 S.said) ∧ w'.cell? ⟨g2, 4, none⟩ = some (.bool S.whole) ∧ w'.cell? ⟨g2, 5, none⟩ = some (.slice Ab S.body.length cb) ∧ w'.cell? ⟨g2, 6, none⟩ = some (.bool S.dead) ∧ w'.cell? (ad0.add i) = some (.int .u8 x)) (ds := []) #[false, false, false, false, false, false, false, false, false, false, false, false, false, false, false, false] (by kernel_rfl) rfl rfl ⟨hc0, hc1, hc2, hc3, hc4, hc5, hc6, hx2⟩ (fun hHeld => ?_)
      refine pure_ (i := 1) (N := some 24) (v := ?_) (a' := ?_) #[false, true, false, false, false, false, false, false, false, false, false, false, false, false, false, false] rfl rfl (by kernel_rfl) (fun _ _ _ h => h) (Or.inl ⟨by rfl, ?_⟩) ?_ ?_
      rotate_left
      · intro w'
        go_simp
        with_reducible rfl
      rotate_left
      · simp only [Act.put, List.setIfInBounds_toArray, List.set_cons_zero, List.set_cons_succ, i64_w, i32_w]
        rfl
      refine pure_ (i := 2) (N := some 25) (v := ?_) (a' := ?_) #[false, true, true, false, false, false, false, false, false, false, false, false, false, false, false, false] rfl rfl (by kernel_rfl) (fun _ _ _ h => h) (Or.inl ⟨by rfl, ?_⟩) ?_ ?_
      rotate_left
      · intro w'
        go_simp
        with_reducible rfl
      rotate_left
      · simp only [Act.put, List.setIfInBounds_toArray, List.set_cons_zero, List.set_cons_succ, i64_w, i32_w]
        rfl
      refine pure_ (i := 3) (N := some 26) (v := ?_) (a' := ?_) #[false, true, true, true, false, false, false, false, false, false, false, false, false, false, false, false] rfl rfl (by kernel_rfl) (fun _ _ _ h => h) (Or.inl ⟨by rfl, ?_⟩) ?_ ?_
      rotate_left
      · intro w'
        go_simp
        with_reducible rfl
      rotate_left
      · simp only [Act.put, List.setIfInBounds_toArray, List.set_cons_zero, List.set_cons_succ, i64_w, i32_w]
        rfl
      refine take_ (i := 0) (N := some 23) (v := ?_) (a' := ?_) #[true, true, true, true, false, false, false, false, false, false, false, false, false, false, false, false] rfl rfl (by kernel_rfl) (fun _ _ _ h => h) (Or.inl ⟨by rfl, ?_⟩) hHeld ?_ ?_
      rotate_left
      · rintro w' ⟨s0, s1, s2, s3, s4, s5, s6, s7⟩
        go_simp
        with_reducible rfl
      rotate_left
      · simp only [Act.put, List.setIfInBounds_toArray, List.set_cons_zero, List.set_cons_succ, i64_w, i32_w]
        rfl
      refine take_ (i := 4) (N := some 27) (v := ?_) (a' := ?_) #[true, true, true, true, true, false, false, false, false, false, false, false, false, false, false, false] rfl rfl (by kernel_rfl) (fun _ _ _ h => h) (Or.inl ⟨by rfl, ?_⟩) hHeld ?_ ?_
      rotate_left
      · rintro w' ⟨s0, s1, s2, s3, s4, s5, s6, s7⟩
        go_simp
        with_reducible rfl
      rotate_left
      · simp only [Act.put, List.setIfInBounds_toArray, List.set_cons_zero, List.set_cons_succ, i64_w, i32_w]
        rfl
      refine join_ (σ := Nat × Option Addr × Nat × Option Addr × Nat × Value) 4 #[true, true, true, true, true, true, true, true, true, true, true, true, false, false, false, false] (fun s => [(28, .tuple #[.agg #[.int .i64 S2.most, .int .i64 (S2.header : Int), .slice s.2.1 S2.line.length s.2.2.1, .int .i64 S2.said, .bool S2.whole, .slice s.2.2.2.1 S2.body.length s.2.2.2.2.1, .bool S2.dead], s.2.2.2.2.2, .bool mo.isSome, .bool fa]), (22, .tuple #[.agg #[.int .i64 S2.most, .int .i64 (S2.header : Int), .slice s.2.1 S2.line.length s.2.2.1, .int .i64 S2.said, .bool S2.whole, .slice s.2.2.2.1 S2.body.length s.2.2.2.2.1, .bool S2.dead], s.2.2.2.2.2, .bool mo.isSome, .bool fa]), (29, .agg #[.int .i64 S2.most, .int .i64 (S2.header : Int), .slice s.2.1 S2.line.length s.2.2.1, .int .i64 S2.said, .bool S2.whole, .slice s.2.2.2.1 S2.body.length s.2.2.2.2.1, .bool S2.dead]), (30, s.2.2.2.2.2), (31, .bool mo.isSome), (32, .bool fa), (9, .pointer (some ⟨s.1, 0, none⟩))]) (fun s w' => w'.heap[s.1]? = some (.cells #[.int .i64 0, .int .i64 0, .slice none 0 0, .int .i64 0, .bool false, .slice none 0 0, .bool false] 32 (0, 0)) ∧ wr.heap.size ≤ s.1 ∧ SR w' S2 (.slice s.2.1 S2.line.length s.2.2.1) (.slice s.2.2.2.1 S2.body.length s.2.2.2.2.1) ∧ Kd.R (Kd.int .u8) 5 w' wr.heap.size (fun _ => True) s.2.2.2.2.2 (mo.getD []) ∧ Org wr w' (.slice Al S.line.length cl) (.slice s.2.1 S2.line.length s.2.2.1) ∧ Org wr w' (.slice Ab S.body.length cb) (.slice s.2.2.2.1 S2.body.length s.2.2.2.2.1) ∧ Below wr.heap.size wr w') ?_ ?_
      rotate_left
      · intro hCont
        refine two_ (i := 5) (j := 11) (Ni := some 28) (Nj := some 9) #[true, true, true, true, true, true, false, false, false, false, false, false, false, false, false, false] #[true, true, true, true, true, false, false, false, false, false, false, true, false, false, false, false] rfl rfl rfl rfl (by kernel_rfl) (by decide) (by decide) (fun K hK => ?_) (fun K hK => ?_)
        · skip
          refine goes_ Tryd.func27 (by kernel_rfl) rfl #[.agg #[.int .i64 S.most, .int .i64 (S.header : Int), .slice Al S.line.length cl, .int .i64 S.said, .bool S.whole, .slice Ab S.body.length cb, .bool S.dead], .int .u8 x] (by rfl) rfl rfl (by simp only [List.map_toArray, List.map_cons, List.map_nil]; rfl) ?_
          with_reducible refine (hcall.out wr.drew (below_drew1 (Below.refl wr.heap.size wr))).mono ?_
          rintro e w9 ⟨Al2, cl2, Ab2, cb2, vm, rfl, hsr2, hrm2, hol2, hob2, hB2⟩
          refine ⟨_, rfl, ?_⟩
          have HBx := below_step (below_drew1 (Below.refl wr.heap.size wr)) hB2
          refine hK.out _ _ ⟨(HBx.cell (cell_lt hc0)).trans hc0, (HBx.cell (cell_lt hc1)).trans hc1, (HBx.cell (cell_lt hc2)).trans hc2, (HBx.cell (cell_lt hc3)).trans hc3, (HBx.cell (cell_lt hc4)).trans hc4, (HBx.cell (cell_lt hc5)).trans hc5, (HBx.cell (cell_lt hc6)).trans hc6, (HBx.cell (cell_lt hx2)).trans hx2⟩ (fun hHeld => ?_)
          clear hK K
          refine norm_ (a' := ?_) ?_ ?_
          rotate_left
          · show Act.put _ (some 28) _ = _
            simp only [Act.put, List.setIfInBounds_toArray, List.set_cons_zero, List.set_cons_succ, i64_w, i32_w]
            rfl
          refine pure_ (i := 6) (N := some 22) (v := ?_) (a' := ?_) #[true, true, true, true, true, true, true, false, false, false, false, false, false, false, false, false] rfl rfl (by kernel_rfl) (fun _ _ _ h => h) (Or.inl ⟨by rfl, ?_⟩) ?_ ?_
          rotate_left
          · intro w'
            go_simp
            with_reducible rfl
          rotate_left
          · simp only [Act.put, List.setIfInBounds_toArray, List.set_cons_zero, List.set_cons_succ, i64_w, i32_w]
            rfl
          refine pure_ (i := 7) (N := some 29) (v := ?_) (a' := ?_) #[true, true, true, true, true, true, true, true, false, false, false, false, false, false, false, false] rfl rfl (by kernel_rfl) (fun _ _ _ h => h) (Or.inl ⟨by rfl, ?_⟩) ?_ ?_
          rotate_left
          · intro w'
            go_simp
            with_reducible rfl
          rotate_left
          · simp only [Act.put, List.setIfInBounds_toArray, List.set_cons_zero, List.set_cons_succ, i64_w, i32_w]
            rfl
          refine pure_ (i := 8) (N := some 30) (v := ?_) (a' := ?_) #[true, true, true, true, true, true, true, true, true, false, false, false, false, false, false, false] rfl rfl (by kernel_rfl) (fun _ _ _ h => h) (Or.inl ⟨by rfl, ?_⟩) ?_ ?_
          rotate_left
          · intro w'
            go_simp
            with_reducible rfl
          rotate_left
          · simp only [Act.put, List.setIfInBounds_toArray, List.set_cons_zero, List.set_cons_succ, i64_w, i32_w]
            rfl
          refine pure_ (i := 9) (N := some 31) (v := ?_) (a' := ?_) #[true, true, true, true, true, true, true, true, true, true, false, false, false, false, false, false] rfl rfl (by kernel_rfl) (fun _ _ _ h => h) (Or.inl ⟨by rfl, ?_⟩) ?_ ?_
          rotate_left
          · intro w'
            go_simp
            with_reducible rfl
          rotate_left
          · simp only [Act.put, List.setIfInBounds_toArray, List.set_cons_zero, List.set_cons_succ, i64_w, i32_w]
            rfl
          refine pure_ (i := 10) (N := some 32) (v := ?_) (a' := ?_) #[true, true, true, true, true, true, true, true, true, true, true, false, false, false, false, false] rfl rfl (by kernel_rfl) (fun _ _ _ h => h) (Or.inl ⟨by rfl, ?_⟩) ?_ ?_
          rotate_left
          · intro w'
            go_simp
            with_reducible rfl
          rotate_left
          · simp only [Act.put, List.setIfInBounds_toArray, List.set_cons_zero, List.set_cons_succ, i64_w, i32_w]
            rfl
          refine one_ (i := 11) (N := some 9) #[true, true, true, true, true, true, true, true, true, true, true, true, false, false, false, false] rfl rfl (by kernel_rfl) (by decide) (fun K hK => ?_)
          refine value_ (w1 := ?_) (v := ?_) (by rfl) rfl ?_ ?_
          rotate_left 2
          · go_simp
            constructor
            · rfl
            · rfl
          have HBy := below_alloc HBx (.cells #[.int .i64 0, .int .i64 0, .slice none 0 0, .int .i64 0, .bool false, .slice none 0 0, .bool false] 32)
          refine hK.out _ _ ⟨(HBy.cell (cell_lt hc0)).trans hc0, (HBy.cell (cell_lt hc1)).trans hc1, (HBy.cell (cell_lt hc2)).trans hc2, (HBy.cell (cell_lt hc3)).trans hc3, (HBy.cell (cell_lt hc4)).trans hc4, (HBy.cell (cell_lt hc5)).trans hc5, (HBy.cell (cell_lt hc6)).trans hc6, (HBy.cell (cell_lt hx2)).trans hx2⟩ (fun hHeld => ?_)
          clear hK K
          refine norm_ (a' := ?_) ?_ ?_
          rotate_left
          · show Act.put _ (some 9) _ = _
            simp only [Act.put, List.setIfInBounds_toArray, List.set_cons_zero, List.set_cons_succ, i64_w, i32_w]
            rfl
          exact norm_ (by simp only [putAll, Act.put, List.setIfInBounds_toArray, List.set_cons_zero, List.set_cons_succ]) (hCont (w9.heap.size, Al2, cl2, Ab2, cb2, vm) _ ⟨blk_new w9 _, HBx.size, hsr2.below (below_alloc (Below.refl _ _) _), Kd.R_alloc (R_from hrm2 (Nat.le_refl _)) _, Org.from (hol2.grow (below_alloc (Below.refl w9.heap.size w9) _).size) (Nat.le_refl _), Org.from (hob2.grow (below_alloc (Below.refl w9.heap.size w9) _).size) (Nat.le_refl _), HBy⟩)
        · skip
          refine value_ (w1 := ?_) (v := ?_) (by rfl) rfl ?_ ?_
          rotate_left 2
          · go_simp
            constructor
            · rfl
            · rfl
          have HBx := below_drew1 (below_alloc (Below.refl wr.heap.size wr) (.cells #[.int .i64 0, .int .i64 0, .slice none 0 0, .int .i64 0, .bool false, .slice none 0 0, .bool false] 32))
          refine hK.out _ _ ⟨(HBx.cell (cell_lt hc0)).trans hc0, (HBx.cell (cell_lt hc1)).trans hc1, (HBx.cell (cell_lt hc2)).trans hc2, (HBx.cell (cell_lt hc3)).trans hc3, (HBx.cell (cell_lt hc4)).trans hc4, (HBx.cell (cell_lt hc5)).trans hc5, (HBx.cell (cell_lt hc6)).trans hc6, (HBx.cell (cell_lt hx2)).trans hx2⟩ (fun hHeld => ?_)
          clear hK K
          refine norm_ (a' := ?_) ?_ ?_
          rotate_left
          · show Act.put _ (some 9) _ = _
            simp only [Act.put, List.setIfInBounds_toArray, List.set_cons_zero, List.set_cons_succ, i64_w, i32_w]
            rfl
          refine one_ (i := 5) (N := some 28) #[true, true, true, true, true, true, false, false, false, false, false, true, false, false, false, false] rfl rfl (by kernel_rfl) (by decide) (fun K hK => ?_)
          refine goes_ Tryd.func27 (by kernel_rfl) rfl #[.agg #[.int .i64 S.most, .int .i64 (S.header : Int), .slice Al S.line.length cl, .int .i64 S.said, .bool S.whole, .slice Ab S.body.length cb, .bool S.dead], .int .u8 x] (by rfl) rfl rfl (by simp only [List.map_toArray, List.map_cons, List.map_nil]; rfl) ?_
          with_reducible refine (hcall.out (wr.alloc (.cells #[.int .i64 0, .int .i64 0, .slice none 0 0, .int .i64 0, .bool false, .slice none 0 0, .bool false] 32)).drew (below_drew1 (below_alloc (Below.refl wr.heap.size wr) _))).mono ?_
          rintro e w9 ⟨Al2, cl2, Ab2, cb2, vm, rfl, hsr2, hrm2, hol2, hob2, hB2⟩
          refine ⟨_, rfl, ?_⟩
          have HBy := below_step (below_drew1 (below_alloc (Below.refl wr.heap.size wr) (.cells #[.int .i64 0, .int .i64 0, .slice none 0 0, .int .i64 0, .bool false, .slice none 0 0, .bool false] 32))) hB2
          refine hK.out _ _ ⟨(HBy.cell (cell_lt hc0)).trans hc0, (HBy.cell (cell_lt hc1)).trans hc1, (HBy.cell (cell_lt hc2)).trans hc2, (HBy.cell (cell_lt hc3)).trans hc3, (HBy.cell (cell_lt hc4)).trans hc4, (HBy.cell (cell_lt hc5)).trans hc5, (HBy.cell (cell_lt hc6)).trans hc6, (HBy.cell (cell_lt hx2)).trans hx2⟩ (fun hHeld => ?_)
          clear hK K
          refine norm_ (a' := ?_) ?_ ?_
          rotate_left
          · show Act.put _ (some 28) _ = _
            simp only [Act.put, List.setIfInBounds_toArray, List.set_cons_zero, List.set_cons_succ, i64_w, i32_w]
            rfl
          refine pure_ (i := 6) (N := some 22) (v := ?_) (a' := ?_) #[true, true, true, true, true, true, true, false, false, false, false, true, false, false, false, false] rfl rfl (by kernel_rfl) (fun _ _ _ h => h) (Or.inl ⟨by rfl, ?_⟩) ?_ ?_
          rotate_left
          · intro w'
            go_simp
            with_reducible rfl
          rotate_left
          · simp only [Act.put, List.setIfInBounds_toArray, List.set_cons_zero, List.set_cons_succ, i64_w, i32_w]
            rfl
          refine pure_ (i := 7) (N := some 29) (v := ?_) (a' := ?_) #[true, true, true, true, true, true, true, true, false, false, false, true, false, false, false, false] rfl rfl (by kernel_rfl) (fun _ _ _ h => h) (Or.inl ⟨by rfl, ?_⟩) ?_ ?_
          rotate_left
          · intro w'
            go_simp
            with_reducible rfl
          rotate_left
          · simp only [Act.put, List.setIfInBounds_toArray, List.set_cons_zero, List.set_cons_succ, i64_w, i32_w]
            rfl
          refine pure_ (i := 8) (N := some 30) (v := ?_) (a' := ?_) #[true, true, true, true, true, true, true, true, true, false, false, true, false, false, false, false] rfl rfl (by kernel_rfl) (fun _ _ _ h => h) (Or.inl ⟨by rfl, ?_⟩) ?_ ?_
          rotate_left
          · intro w'
            go_simp
            with_reducible rfl
          rotate_left
          · simp only [Act.put, List.setIfInBounds_toArray, List.set_cons_zero, List.set_cons_succ, i64_w, i32_w]
            rfl
          refine pure_ (i := 9) (N := some 31) (v := ?_) (a' := ?_) #[true, true, true, true, true, true, true, true, true, true, false, true, false, false, false, false] rfl rfl (by kernel_rfl) (fun _ _ _ h => h) (Or.inl ⟨by rfl, ?_⟩) ?_ ?_
          rotate_left
          · intro w'
            go_simp
            with_reducible rfl
          rotate_left
          · simp only [Act.put, List.setIfInBounds_toArray, List.set_cons_zero, List.set_cons_succ, i64_w, i32_w]
            rfl
          refine pure_ (i := 10) (N := some 32) (v := ?_) (a' := ?_) #[true, true, true, true, true, true, true, true, true, true, true, true, false, false, false, false] rfl rfl (by kernel_rfl) (fun _ _ _ h => h) (Or.inl ⟨by rfl, ?_⟩) ?_ ?_
          rotate_left
          · intro w'
            go_simp
            with_reducible rfl
          rotate_left
          · simp only [Act.put, List.setIfInBounds_toArray, List.set_cons_zero, List.set_cons_succ, i64_w, i32_w]
            rfl
          exact norm_ (by simp only [putAll, Act.put, List.setIfInBounds_toArray, List.set_cons_zero, List.set_cons_succ]) (hCont (wr.heap.size, Al2, cl2, Ab2, cb2, vm) _ ⟨blk_below (blk_drew (blk_new wr (.cells #[.int .i64 0, .int .i64 0, .slice none 0 0, .int .i64 0, .bool false, .slice none 0 0, .bool false] 32))) hB2, Nat.le_refl _, hsr2, R_from hrm2 (below_alloc (Below.refl wr.heap.size wr) (.cells #[.int .i64 0, .int .i64 0, .slice none 0 0, .int .i64 0, .bool false, .slice none 0 0, .bool false] 32)).size, Org.from hol2 (below_alloc (Below.refl wr.heap.size wr) (.cells #[.int .i64 0, .int .i64 0, .slice none 0 0, .int .i64 0, .bool false, .slice none 0 0, .bool false] 32)).size, Org.from hob2 (below_alloc (Below.refl wr.heap.size wr) (.cells #[.int .i64 0, .int .i64 0, .slice none 0 0, .int .i64 0, .bool false, .slice none 0 0, .bool false] 32)).size, HBy⟩)
      rintro ⟨g9, Al2, cl2, Ab2, cb2, vm⟩ w9 ⟨hk9, hg9, hsr9, hrm9, hol9, hob9, hB9⟩
      simp only at hk9 hg9 hsr9 hrm9 hol9 hob9
      have hHeld : w9.cell? ⟨g2, 0, none⟩ = some (.int .i64 S.most) ∧ w9.cell? ⟨g2, 1, none⟩ = some (.int .i64 (S.header : Int)) ∧ w9.cell? ⟨g2, 2, none⟩ = some (.slice Al S.line.length cl) ∧ w9.cell? ⟨g2, 3, none⟩ = some (.int .i64 S.said) ∧ w9.cell? ⟨g2, 4, none⟩ = some (.bool S.whole) ∧ w9.cell? ⟨g2, 5, none⟩ = some (.slice Ab S.body.length cb) ∧ w9.cell? ⟨g2, 6, none⟩ = some (.bool S.dead) ∧ w9.cell? (ad0.add i) = some (.int .u8 x) := ⟨(hB9.cell (cell_lt hc0)).trans hc0, (hB9.cell (cell_lt hc1)).trans hc1, (hB9.cell (cell_lt hc2)).trans hc2, (hB9.cell (cell_lt hc3)).trans hc3, (hB9.cell (cell_lt hc4)).trans hc4, (hB9.cell (cell_lt hc5)).trans hc5, (hB9.cell (cell_lt hc6)).trans hc6, (hB9.cell (cell_lt hx2)).trans hx2⟩
      refine norm_ (a' := ?_) ?_ ?_
      rotate_left
      · simp only [putAll, Act.put, List.setIfInBounds_toArray, List.set_cons_zero, List.set_cons_succ]
        rfl
      refine one_ (i := 12) (N := none) #[true, true, true, true, true, true, true, true, true, true, true, true, true, false, false, false] rfl rfl (by kernel_rfl) (by decide) (fun K hK => ?_)
      refine skip_ (w1 := w9.setCells g9 0 [.int .i64 S2.most, .int .i64 (S2.header : Int), .slice Al2 S2.line.length cl2, .int .i64 S2.said, .bool S2.whole, .slice Ab2 S2.body.length cb2, .bool S2.dead]) (by rfl) rfl (store_run rfl [.int .i64 S2.most, .int .i64 (S2.header : Int), .slice Al2 S2.line.length cl2, .int .i64 S2.said, .bool S2.whole, .slice Ab2 S2.body.length cb2, .bool S2.dead] _ rfl rfl rfl sizeRef (by simp [Value.oneCell']) hk9 (by simp)) ?_
      refine hK.out _ _ ⟨(cell_only (put_all w9 g9 _ 32 [.int .i64 S2.most, .int .i64 (S2.header : Int), .slice Al2 S2.line.length cl2, .int .i64 S2.said, .bool S2.whole, .slice Ab2 S2.body.length cb2, .bool S2.dead] hk9 (by simp)).2 (by have := HLT.out; omega)).trans ((hB9.cell (cell_lt hc0)).trans hc0), (cell_only (put_all w9 g9 _ 32 [.int .i64 S2.most, .int .i64 (S2.header : Int), .slice Al2 S2.line.length cl2, .int .i64 S2.said, .bool S2.whole, .slice Ab2 S2.body.length cb2, .bool S2.dead] hk9 (by simp)).2 (by have := HLT.out; omega)).trans ((hB9.cell (cell_lt hc1)).trans hc1), (cell_only (put_all w9 g9 _ 32 [.int .i64 S2.most, .int .i64 (S2.header : Int), .slice Al2 S2.line.length cl2, .int .i64 S2.said, .bool S2.whole, .slice Ab2 S2.body.length cb2, .bool S2.dead] hk9 (by simp)).2 (by have := HLT.out; omega)).trans ((hB9.cell (cell_lt hc2)).trans hc2), (cell_only (put_all w9 g9 _ 32 [.int .i64 S2.most, .int .i64 (S2.header : Int), .slice Al2 S2.line.length cl2, .int .i64 S2.said, .bool S2.whole, .slice Ab2 S2.body.length cb2, .bool S2.dead] hk9 (by simp)).2 (by have := HLT.out; omega)).trans ((hB9.cell (cell_lt hc3)).trans hc3), (cell_only (put_all w9 g9 _ 32 [.int .i64 S2.most, .int .i64 (S2.header : Int), .slice Al2 S2.line.length cl2, .int .i64 S2.said, .bool S2.whole, .slice Ab2 S2.body.length cb2, .bool S2.dead] hk9 (by simp)).2 (by have := HLT.out; omega)).trans ((hB9.cell (cell_lt hc4)).trans hc4), (cell_only (put_all w9 g9 _ 32 [.int .i64 S2.most, .int .i64 (S2.header : Int), .slice Al2 S2.line.length cl2, .int .i64 S2.said, .bool S2.whole, .slice Ab2 S2.body.length cb2, .bool S2.dead] hk9 (by simp)).2 (by have := HLT.out; omega)).trans ((hB9.cell (cell_lt hc5)).trans hc5), (cell_only (put_all w9 g9 _ 32 [.int .i64 S2.most, .int .i64 (S2.header : Int), .slice Al2 S2.line.length cl2, .int .i64 S2.said, .bool S2.whole, .slice Ab2 S2.body.length cb2, .bool S2.dead] hk9 (by simp)).2 (by have := HLT.out; omega)).trans ((hB9.cell (cell_lt hc6)).trans hc6), (cell_onlyA (put_all w9 g9 _ 32 [.int .i64 S2.most, .int .i64 (S2.header : Int), .slice Al2 S2.line.length cl2, .int .i64 S2.said, .bool S2.whole, .slice Ab2 S2.body.length cb2, .bool S2.dead] hk9 (by simp)).2 (by have := cell_lt hx2; rw [add_block] at *; omega)).trans ((hB9.cell (cell_lt hx2)).trans hx2)⟩ (fun hHeld => ?_)
      clear hK K
      refine pure_ (i := 13) (N := some 10) (v := ?_) (a' := ?_) #[true, true, true, true, true, true, true, true, true, true, true, true, true, true, false, false] rfl rfl (by kernel_rfl) (fun _ _ _ h => h) (Or.inl ⟨by rfl, ?_⟩) ?_ ?_
      rotate_left
      · intro w'
        go_simp
        with_reducible rfl
      rotate_left
      · simp only [Act.put, List.setIfInBounds_toArray, List.set_cons_zero, List.set_cons_succ, i64_w, i32_w]
        rfl
      refine pure_ (i := 14) (N := some 11) (v := ?_) (a' := ?_) #[true, true, true, true, true, true, true, true, true, true, true, true, true, true, true, false] rfl rfl (by kernel_rfl) (fun _ _ _ h => h) (Or.inl ⟨by rfl, ?_⟩) ?_ ?_
      rotate_left
      · intro w'
        go_simp
        with_reducible rfl
      rotate_left
      · simp only [Act.put, List.setIfInBounds_toArray, List.set_cons_zero, List.set_cons_succ, i64_w, i32_w]
        rfl
      refine pure_ (i := 15) (N := some 12) (v := ?_) (a' := ?_) #[true, true, true, true, true, true, true, true, true, true, true, true, true, true, true, true] rfl rfl (by kernel_rfl) (fun _ _ _ h => h) (Or.inl ⟨by rfl, ?_⟩) ?_ ?_
      rotate_left
      · intro w'
        go_simp
        with_reducible rfl
      rotate_left
      · simp only [Act.put, List.setIfInBounds_toArray, List.set_cons_zero, List.set_cons_succ, i64_w, i32_w]
        rfl
      refine done_ (by kernel_rfl) ?_
      obtain ⟨k10, o10⟩ := put_all w9 g9 _ 32 [.int .i64 S2.most, .int .i64 (S2.header : Int), .slice Al2 S2.line.length cl2, .int .i64 S2.said, .bool S2.whole, .slice Ab2 S2.body.length cb2, .bool S2.dead] hk9 (by simp)
      have HK2 := Aside0.mk ((o10.block g2 (by have := HLT.out; omega)).trans (blk_below HK2.out hB9))
      have HK4 := Aside0.mk ((o10.block g4 (by have := HLT.out; omega)).trans (blk_below HK4.out hB9))
      have hsr10 := hsr9
      have HB10 := Aside0.mk (o10.below (below_step HB.out hB9) (by have := HB.out.size; omega))
      have HX10 := Aside0.mk (o10.row (Kd.R_below HX.out hB9) hk9 u22_ne)
      have HM10 := Aside0.mk (o10.row hrm9 hk9 u8_ne)
      have HS10 := Aside0.mk (SR.only hsr9 o10 hk9 (noU8_seg rfl rfl))
      have HG9 := Aside0.mk hg9
      have HO10 := Aside0.mk (And.intro (hol9.grow (Nat.le_of_eq o10.size.symm)) (hob9.grow (Nat.le_of_eq o10.size.symm)))
      have hsz : w9.heap.size = (w9.setCells g9 0 [.int .i64 S2.most, .int .i64 (S2.header : Int), .slice Al2 S2.line.length cl2, .int .i64 S2.said, .bool S2.whole, .slice Ab2 S2.body.length cb2, .bool S2.dead]).heap.size := o10.size.symm
      have HSZ := Aside0.mk (show wr.heap.size ≤ (w9.setCells g9 0 [.int .i64 S2.most, .int .i64 (S2.header : Int), .slice Al2 S2.line.length cl2, .int .i64 S2.said, .bool S2.whole, .slice Ab2 S2.body.length cb2, .bool S2.dead]).heap.size by rw [← hsz]; exact hB9.size)
      clear hHeld hsz hsr9 hsr10 hrm9 hol9 hob9 hB9 hk9 o10 HX
      generalize w9.setCells g9 0 [.int .i64 S2.most, .int .i64 (S2.header : Int), .slice Al2 S2.line.length cl2, .int .i64 S2.said, .bool S2.whole, .slice Ab2 S2.body.length cb2, .bool S2.dead] = w10 at *
      clear hc0 hc1 hc2 hc3 hc4 hc5 hc6 hx2 p0 q0
      have hd0 : w10.cell? ⟨g9, 0, none⟩ = some (.int .i64 S2.most) := (blk_cell k10 0).trans rfl
      have hd1 : w10.cell? ⟨g9, 1, none⟩ = some (.int .i64 (S2.header : Int)) := (blk_cell k10 1).trans rfl
      have hd2 : w10.cell? ⟨g9, 2, none⟩ = some (.slice Al2 S2.line.length cl2) := (blk_cell k10 2).trans rfl
      have hd3 : w10.cell? ⟨g9, 3, none⟩ = some (.int .i64 S2.said) := (blk_cell k10 3).trans rfl
      have hd4 : w10.cell? ⟨g9, 4, none⟩ = some (.bool S2.whole) := (blk_cell k10 4).trans rfl
      have hd5 : w10.cell? ⟨g9, 5, none⟩ = some (.slice Ab2 S2.body.length cb2) := (blk_cell k10 5).trans rfl
      have hd6 : w10.cell? ⟨g9, 6, none⟩ = some (.bool S2.dead) := (blk_cell k10 6).trans rfl
      go_wp2_with ((with_reducible refine gate_ (.store 32 (.tmp 2) (.tmp 33)) rfl ?_); refine st_store rfl rfl 32 (.tmp 2) (.tmp 33) rfl (g := g2) (j := 0) (cur' := #[.int .i64 S2.most, .int .i64 (S2.header : Int), .slice Al2 S2.line.length cl2, .int .i64 S2.said, .bool S2.whole, .slice Ab2 S2.body.length cb2, .bool S2.dead]) [.int .i64 S2.most, .int .i64 (S2.header : Int), .slice Al2 S2.line.length cl2, .int .i64 S2.said, .bool S2.whole, .slice Ab2 S2.body.length cb2, .bool S2.dead] (.agg #[.int .i64 S2.most, .int .i64 (S2.header : Int), .slice Al2 S2.line.length cl2, .int .i64 S2.said, .bool S2.whole, .slice Ab2 S2.body.length cb2, .bool S2.dead]) rfl rfl rfl sizeRef (by simp [Value.oneCell']) HK2.out (by simp) rfl ?_)
      intro w11 k8 o8
      have HK2' := Aside0.mk k8
      have HK4' := Aside0.mk ((o8.block g4 (by have := HG.out; omega)).trans HK4.out)
      have HX11 := Aside0.mk (o8.row HX10.out HK2.out u22_ne)
      have HM11 := Aside0.mk (o8.row HM10.out HK2.out u8_ne)
      have HS11 := Aside0.mk (SR.only HS10.out o8 HK2.out (noU8_seg rfl rfl))
      have HB11 := Aside0.mk (o8.below HB10.out HG.out.1)
      have HSZ11 := Aside0.mk (show wr.heap.size ≤ w11.heap.size by rw [o8.size]; exact HSZ.out)
      have HO11 := Aside0.mk (And.intro (HO.out.1.trans (HO10.out.1.grow (Nat.le_of_eq o8.size.symm)) HB.out.size HSZ11.out) (HO.out.2.trans (HO10.out.2.grow (Nat.le_of_eq o8.size.symm)) HB.out.size HSZ11.out))
      clear k8 o8 hd0 hd1 hd2 hd3 hd4 hd5 hd6 k10 HX10 HM10 HS10 HB10 HSZ HK2 HK4
      cases fa with
      | true =>
        rw [if_pos rfl] at HTK
        have hall := runS_more s l (i + 1) _ _ HTK.out
        have he0 : w11.cell? ⟨g2, 0, none⟩ = some (.int .i64 S2.most) := (blk_cell HK2'.out 0).trans rfl
        have he1 : w11.cell? ⟨g2, 1, none⟩ = some (.int .i64 (S2.header : Int)) := (blk_cell HK2'.out 1).trans rfl
        have he2 : w11.cell? ⟨g2, 2, none⟩ = some (.slice Al2 S2.line.length cl2) := (blk_cell HK2'.out 2).trans rfl
        have he3 : w11.cell? ⟨g2, 3, none⟩ = some (.int .i64 S2.said) := (blk_cell HK2'.out 3).trans rfl
        have he4 : w11.cell? ⟨g2, 4, none⟩ = some (.bool S2.whole) := (blk_cell HK2'.out 4).trans rfl
        have he5 : w11.cell? ⟨g2, 5, none⟩ = some (.slice Ab2 S2.body.length cb2) := (blk_cell HK2'.out 5).trans rfl
        have he6 : w11.cell? ⟨g2, 6, none⟩ = some (.bool S2.dead) := (blk_cell HK2'.out 6).trans rfl
        go_wp2_with ((with_reducible refine gate_ (.store 32 (.tmp 4) (.tmp 35)) rfl ?_); refine st_store rfl rfl 32 (.tmp 4) (.tmp 35) rfl (g := g4) (j := 0) (cur' := #[.int .i64 S2.most, .int .i64 (S2.header : Int), .slice Al2 S2.line.length cl2, .int .i64 S2.said, .bool S2.whole, .slice Ab2 S2.body.length cb2, .bool S2.dead]) [.int .i64 S2.most, .int .i64 (S2.header : Int), .slice Al2 S2.line.length cl2, .int .i64 S2.said, .bool S2.whole, .slice Ab2 S2.body.length cb2, .bool S2.dead] (.agg #[.int .i64 S2.most, .int .i64 (S2.header : Int), .slice Al2 S2.line.length cl2, .int .i64 S2.said, .bool S2.whole, .slice Ab2 S2.body.length cb2, .bool S2.dead]) rfl rfl rfl sizeRef (by simp [Value.oneCell']) HK4'.out (by simp) rfl ?_)
        intro w12 k8 o8
        go_wp2
        refine bodyPost_ret (results_list (rs := [.cell 4 32, .tmp 5, .tmp 6]) rfl (by simp) (.cell g4 32 _ (0, 0) _ rfl k8 Tryd.underlying32 rfl (by kernel_rfl) (.tmp (.tmp .nil)))) rfl ?_
        have hB := o8.below HB11.out (by have := HG.out; omega)
        exact ⟨.slice Al2 S2.line.length cl2, .slice Ab2 S2.body.length cb2, u7, by rw [HRF.out, hall]; rfl, by rw [HRF.out, hall]; exact HS11.out.only o8 HK4'.out (noU8_seg rfl rfl), by rw [HRF.out, hall]; exact o8.row HX11.out HK4'.out u22_ne, by rw [← HV0.out.1]; exact HO11.out.1.grow (Nat.le_of_eq o8.size.symm), by rw [← HV0.out.2]; exact HO11.out.2.grow (Nat.le_of_eq o8.size.symm), hB⟩
      | false =>
        rw [if_neg (by simp)] at HTK
        cases mo with
        | none =>
          have htk2 := HTK.out
          simp only [Option.toList_none, List.append_nil] at htk2
          go_wp2
          go_roundg gk
          case measure => have := HN.out; omega
          case rel => exact ⟨i + 1, S2, X, Al2, cl2, Ab2, cb2, by rw [hw1], HS11, HK2', HK4', HX11, HB11, ⟨by have := HLI.out; rwa [Nat.add_assoc] at this⟩, ⟨htk2⟩, ⟨by have := HN.out; have := HSZ11.out; omega⟩, HO11⟩
        | some m =>
          have htk2 := HTK.out
          simp only [Option.toList_some] at htk2
          obtain ⟨hl0, hb0, _⟩ := byteS_some HBYS.out
          have hm : Kd.R (Kd.int .u8) 5 w11 wr.heap.size (fun _ => True) vm m := HM11.out
          have hcnt := runS_count (l.take (i + 1)) s
          rw [htk2] at hcnt
          have hcnt2 : (X ++ [m]).length ≤ l.length := by rw [List.length_take] at hcnt; simp only at hcnt ⊢; omega
          have HCN := Aside0.mk (show X.length + 1 ≤ l.length by rw [List.length_append] at hcnt2; exact hcnt2)
          have HMM := Aside0.mk hm
          have HTK2 := Aside0.mk htk2
          have HE := Aside0.mk (And.intro hl0 hb0)
          obtain ⟨Am, cm, rfl⟩ := Kd.R_slice hm
          clear hm hcnt hcnt2 htk2 hl0 hb0 HTK
          go_wp2_with (at_builtin; refine Kd.R_append KM (w0 := w) (W := w11) w.heap.size rfl (.tmp 38) (.tmp 40) 25 22 (.slice none 0 0) 24 rfl Tryd.underlying25 info22 rfl (by decide) (by omega) u7 X m [.slice Am m.length cm] (fun _ => True) (fun k => wr.heap.size ≤ k) (by rfl) (by rfl) ⟨_, rfl, Kd.R_lower (R_scalar HMM.out (fun k hk => Kd.R_base HMM.out k hk)) HB.out.size⟩ (fun k hk => ⟨trivial, fun e => by have := HLTX.out k e.symm; omega⟩) (fun _ _ => trivial) HX11.out HB11.out HB11.out.size (by have := HCN.out; have := HBB.out; omega) ?_)
          intro v12 w12 hr12 hB12 hg12 _
          have HX12 := Aside0.mk hr12
          have HB12 := Aside0.mk hB12
          have HK212 := Aside0.mk (blk_grown HK2'.out hg12 (Kd.R_ne HX11.out HK2'.out (by decide)))
          have HK412 := Aside0.mk (blk_grown HK4'.out hg12 (Kd.R_ne HX11.out HK4'.out (by decide)))
          have HS12 := Aside0.mk (SR.mk (ReadsL.empty HE.out.1 HS11.out.line) (ReadsL.empty HE.out.2 HS11.out.body) : SR w12 S2 (.slice Al2 S2.line.length cl2) (.slice Ab2 S2.body.length cb2))
          have HO12 := Aside0.mk (And.intro (HO11.out.1.grow hg12.size) (HO11.out.2.grow hg12.size))
          have HSZ12 := Aside0.mk (Nat.le_trans HSZ11.out hg12.size)
          clear hr12 hB12 hg12 HX11 HB11 HS11 HK2' HK4' HMM HM11
          go_wp2
          go_roundg gk
          case measure => have := HN.out; omega
          case rel => exact ⟨i + 1, S2, X ++ [m], Al2, cl2, Ab2, cb2, by rw [hw1], HS12, HK212, HK412, HX12, HB12, ⟨by have := HLI.out; rwa [Nat.add_assoc] at this⟩, HTK2, ⟨by have := HN.out; have := HSZ12.out; omega⟩, HO12⟩
    · have hb1 : decide ((i : Int) < (l.length : Int)) = false := decide_eq_false (by omega)
      have hi : i = l.length := by have := HN.out; omega
      subst hi
      have hall := HRN.out
      rw [List.take_length] at hall
      have HALL := Aside0.mk hall
      clear hall
      have he0 : wr.cell? ⟨g2, 0, none⟩ = some (.int .i64 S.most) := (blk_cell HK2.out 0).trans rfl
      have he1 : wr.cell? ⟨g2, 1, none⟩ = some (.int .i64 (S.header : Int)) := (blk_cell HK2.out 1).trans rfl
      have he2 : wr.cell? ⟨g2, 2, none⟩ = some (.slice Al S.line.length cl) := (blk_cell HK2.out 2).trans rfl
      have he3 : wr.cell? ⟨g2, 3, none⟩ = some (.int .i64 S.said) := (blk_cell HK2.out 3).trans rfl
      have he4 : wr.cell? ⟨g2, 4, none⟩ = some (.bool S.whole) := (blk_cell HK2.out 4).trans rfl
      have he5 : wr.cell? ⟨g2, 5, none⟩ = some (.slice Ab S.body.length cb) := (blk_cell HK2.out 5).trans rfl
      have he6 : wr.cell? ⟨g2, 6, none⟩ = some (.bool S.dead) := (blk_cell HK2.out 6).trans rfl
      go_wp2_with ((with_reducible refine gate_ (.store 32 (.tmp 4) (.tmp 42)) rfl ?_); refine st_store rfl rfl 32 (.tmp 4) (.tmp 42) rfl (g := g4) (j := 0) (cur' := #[.int .i64 S.most, .int .i64 (S.header : Int), .slice Al S.line.length cl, .int .i64 S.said, .bool S.whole, .slice Ab S.body.length cb, .bool S.dead]) [.int .i64 S.most, .int .i64 (S.header : Int), .slice Al S.line.length cl, .int .i64 S.said, .bool S.whole, .slice Ab S.body.length cb, .bool S.dead] (.agg #[.int .i64 S.most, .int .i64 (S.header : Int), .slice Al S.line.length cl, .int .i64 S.said, .bool S.whole, .slice Ab S.body.length cb, .bool S.dead]) rfl rfl rfl sizeRef (by simp [Value.oneCell']) HK4.out (by simp) rfl ?_)
      intro w12 k8 o8
      go_wp2
      refine bodyPost_ret (results_list (rs := [.cell 4 32, .tmp 5, .tmp 6]) rfl (by simp) (.cell g4 32 _ (0, 0) _ rfl k8 Tryd.underlying32 rfl (by kernel_rfl) (.tmp (.tmp .nil)))) rfl ?_
      have hB := o8.below HB.out (by have := HG.out; omega)
      exact ⟨.slice Al S.line.length cl, .slice Ab S.body.length cb, u7, by rw [HRF.out, HALL.out]; rfl, by rw [HRF.out, HALL.out]; exact HS.out.only o8 HK4.out (noU8_seg rfl rfl), by rw [HRF.out, HALL.out]; exact o8.row HX.out HK4.out u22_ne, by rw [← HV0.out.1]; exact HO.out.1.grow (Nat.le_of_eq o8.size.symm), by rw [← HV0.out.2]; exact HO.out.2.grow (Nat.le_of_eq o8.size.symm), hB⟩
theorem rfeed_calls (s : St) (vl vb : Value) (A : Option Addr) (c : Nat) (l : List Int) (w : World) (B : Nat) (h : SR w s vl vb) (hi : LI s B) (hC : Kd.C (Kd.int .u8) w A l.length l) (hlb : Bytes l) (hB : B + l.length ≤ 1000000000) :
    Calls Tryd.prog 16 #[AG s vl vb, .slice A l.length c] w fun e w' => ∃ vl' vb' vo, e = .returned (.tuple #[AG (rfeed s l).1 vl' vb', vo, .int .i64 (rfeed s l).2.2]) ∧ SR w' (rfeed s l).1 vl' vb' ∧
      Kd.R (Kd.slice 5 (Kd.int .u8)) 22 w' w.heap.size (fun _ => True) vo (rfeed s l).2.1 ∧ Org w w' vl vl' ∧ Org w w' vb vb' ∧ Below w.heap.size w w' := by
  cases hd : s.dead with
  | true => exact rfeed_dead s vl vb A c l w h hd
  | false => exact rfeed_live s vl vb A c l w B h hd hi hC hlb hB
end Go.Proofs.YtgdiilpocoimgaaDoor.Hand
