/- The law FrameFeeds: its walk. -/
import Derived.Test.YtgdiilpocoimgaaDoorFBegin
set_option linter.unusedVariables false
set_option linter.unusedSimpArgs false
namespace Go.Proofs.YtgdiilpocoimgaaDoor.Hand
open Go.RowKit Go.Proofs.YtgdiilpocoimgaaDoor.Frm Go.Proofs.YtgdiilpocoimgaaDoorW.PrintWords Go.Proofs.YtgdiilpocoimgaaDoorW.PrintLast Go.Proofs.YtgdiilpocoimgaaDoorW.PrintMore
set_option maxHeartbeats 4000000 in
set_option maxRecDepth 100000 in
theorem frameFeeds_bad (n : Int) (A : Option Addr) (c : Nat) (L : List (List Int)) (w : World) (hn : n < 0 ∨ 16777216 < n) (hC : Kd.C (Kd.slice 5 (Kd.int .u8)) w A L.length L) (hb : ∀ x ∈ L, Bytes x) (hl : L.length + L.flatten.length ≤ 1048576) :
    Calls Tryd.prog 6 #[.int .i64 n, .slice A L.length c] w fun e w' => e = .returned (.bool true) ∧ Below w.heap.size w w' := by
  have HC := Aside0.mk hC
  have HL := Aside0.mk hl
  have HN := Aside0.mk hn
  have HBY := Aside0.mk hb
  have hu32 := Tryd.underlying32
  clear hC hl hn hb
  go_enter Tryd.func6, Tryd.ntmps6
  go_wp2_with (fail)
  refine (wakes_calls _).mono ?_
  rintro e w1 ⟨rfl, hB1⟩
  have HB1 := Aside0.mk hB1
  clear hB1
  go_wp2_with (fail)
  refine (long_calls A c L w1 (Kd.C_below HC.out HB1.out) HL.out).mono ?_
  rintro e w2 ⟨rfl, hB2⟩
  have HB2 := Aside0.mk (below_step HB1.out hB2)
  clear hB2 HB1
  by_cases hlong : 20000 < L.flatten.length
  · rw [decide_eq_true hlong]
    go_wp2
    go_ret
    exact ⟨by first | rfl | simp, HB2.out⟩
  rw [decide_eq_false hlong]
  have HLG := Aside0.mk hlong
  clear hlong
  go_wp2_with (fail)
  refine (begin_bad n w2 HN.out).mono ?_
  rintro e w3 ⟨A1, c1, A2, c2, rfl, hsr, hB3⟩
  have HB3 := Aside0.mk (below_step HB2.out hB3)
  clear hsr hB3
  go_wp2_with (first | ((with_reducible refine gate_dst (N := 6) rfl ?_); refine box_event ?hg (N := 6) ?hd (cs := #[.int .i64 0, .int .i64 0, .slice none 0 0, .int .i64 0, .bool false, .slice none 0 0, .bool false]) (t := 32) ?hr ?_; (case hd => rfl); (case hg => rfl); (case hr => first | (go_simp; done) | (go_simp; rfl)); intro g6 hg6 w4 hb6 hB6; have HG6 := Aside0.mk (Nat.le_of_eq hg6.symm); have HK6 := Aside0.mk hb6; have HB4 := Aside0.mk (below_step HB3.out hB6); clear hg6 hb6 hB6) | ((with_reducible refine gate_ (.store 32 (.tmp 6) (.tmp 23)) rfl ?_); refine st_store rfl rfl 32 (.tmp 6) (.tmp 23) rfl (g := g6) (j := 0) (cur' := #[.int .i64 0, .int .i64 0, .slice A1 0 c1, .int .i64 0, .bool false, .slice A2 0 c2, .bool false]) [.int .i64 0, .int .i64 0, .slice A1 0 c1, .int .i64 0, .bool false, .slice A2 0 c2, .bool false] (.agg #[.int .i64 0, .int .i64 0, .slice A1 0 c1, .int .i64 0, .bool false, .slice A2 0 c2, .bool false]) rfl rfl rfl sizeRef (by simp [Value.oneCell']) HK6.out (by simp) rfl ?_))
  intro w5 k5 o5
  have HB5 := Aside0.mk (o5.below HB4.out (by have := HG6.out; have := HB3.out.size; omega))
  clear k5 o5
  go_wp2
  go_ret
  exact ⟨by first | rfl | simp, HB5.out⟩
set_option maxHeartbeats 8000000 in
set_option maxRecDepth 100000 in
theorem frameFeeds_ok (n : Int) (A : Option Addr) (c : Nat) (L : List (List Int)) (w : World) (hn : 0 ≤ n ∧ n ≤ 16777216) (hC : Kd.C (Kd.slice 5 (Kd.int .u8)) w A L.length L) (hb : ∀ x ∈ L, Bytes x) (hl : L.length + L.flatten.length ≤ 1048576) :
    Calls Tryd.prog 6 #[.int .i64 n, .slice A L.length c] w fun e w' => e = .returned (.bool true) ∧ Below w.heap.size w w' := by
  have HC := Aside0.mk hC
  have HL := Aside0.mk hl
  have HN := Aside0.mk hn
  have HBY := Aside0.mk hb
  have hu32 := Tryd.underlying32
  clear hC hl hn hb
  go_enter Tryd.func6, Tryd.ntmps6
  go_wp2_with (fail)
  refine (wakes_calls _).mono ?_
  rintro e w1 ⟨rfl, hB1⟩
  have HB1 := Aside0.mk hB1
  clear hB1
  go_wp2_with (fail)
  refine (long_calls A c L w1 (Kd.C_below HC.out HB1.out) HL.out).mono ?_
  rintro e w2 ⟨rfl, hB2⟩
  have HB2 := Aside0.mk (below_step HB1.out hB2)
  clear hB2 HB1
  by_cases hlong : 20000 < L.flatten.length
  · rw [decide_eq_true hlong]
    go_wp2
    go_ret
    exact ⟨by first | rfl | simp, HB2.out⟩
  rw [decide_eq_false hlong]
  have HLG := Aside0.mk hlong
  clear hlong
  go_wp2_with (fail)
  refine (begin_calls n w2 HN.out.1 HN.out.2).mono ?_
  rintro e w3 ⟨b, A1, c1, A2, c2, rfl, hsr, hbl, hbk, hlt1, hlt2, hB3⟩
  have HB3 := Aside0.mk (below_step HB2.out hB3)
  have HSR := Aside0.mk hsr
  have HBL := Aside0.mk (And.intro hbl (blk_lt hbk))
  have HBK := Aside0.mk hbk
  have HLT3 := Aside0.mk (And.intro hlt1 hlt2)
  clear hsr hbl hbk hlt1 hlt2 hB3
  go_wp2_with (first | ((with_reducible refine gate_dst (N := 6) rfl ?_); refine box_event ?hg (N := 6) ?hd (cs := #[.int .i64 0, .int .i64 0, .slice none 0 0, .int .i64 0, .bool false, .slice none 0 0, .bool false]) (t := 32) ?hr ?_; (case hd => rfl); (case hg => rfl); (case hr => first | (go_simp; done) | (go_simp; rfl)); intro g6 hg6 w4 hb6 hB6; have HG6 := Aside0.mk (show w3.heap.size ≤ g6 by omega); have HK6 := Aside0.mk hb6; have HB4 := Aside0.mk (below_step HB3.out hB6); have HSR4 := Aside0.mk (HSR.out.below hB6); have HBK4 := Aside0.mk (blk_below HBK.out hB6); have HSZ4 := Aside0.mk hB6.size; clear hg6 hb6 hB6) | ((with_reducible refine gate_ (.store 32 (.tmp 6) (.tmp 23)) rfl ?_); refine st_store rfl rfl 32 (.tmp 6) (.tmp 23) rfl (g := g6) (j := 0) (cur' := #[.int .i64 n, .int .i64 0, .slice A1 0 c1, .int .i64 (-1), .bool false, .slice A2 0 c2, .bool false]) [.int .i64 n, .int .i64 0, .slice A1 0 c1, .int .i64 (-1), .bool false, .slice A2 0 c2, .bool false] (.agg #[.int .i64 n, .int .i64 0, .slice A1 0 c1, .int .i64 (-1), .bool false, .slice A2 0 c2, .bool false]) rfl rfl rfl sizeRef (by simp [Value.oneCell']) HK6.out (by simp) rfl ?_))
  intro w5 k5 o5
  have HB5 := Aside0.mk (o5.below HB4.out (by have := HG6.out; have := HB3.out.size; omega))
  have HK65 := Aside0.mk k5
  have HSR5 := Aside0.mk (HSR4.out.only o5 HK6.out (noU8_seg rfl rfl))
  have HBK5 := Aside0.mk ((o5.block b (by have := HG6.out; have := HBL.out; omega)).trans HBK4.out)
  have HWB := Aside0.mk (show w.heap.size ≤ b ∧ b ≠ g6 by have := HG6.out; have := HBL.out; have := HB2.out.size; omega)
  have HLT1 := Aside0.mk (show LtW (.slice A1 0 c1) w5 ∧ LtW (.slice A2 0 c2) w5 from ⟨fun k hk => by have := HLT3.out.1 k hk; have := HSZ4.out; rw [o5.size]; omega, fun k hk => by have := HLT3.out.2 k hk; have := HSZ4.out; rw [o5.size]; omega⟩)
  clear k5 o5 HB4 HK6 HSR4 HBK4 HSR HBK
  go_wp2_with (fail)
  go_loopg [9] (L.length + 1) (fun g v9 wx => ∃ (i : Nat) (S : St) (v : Value) (held : List Int) (Al : Option Addr) (cl : Nat) (Ab : Option Addr) (cb : Nat), v9 = .int .i64 (i : Int) ∧ Aside0 (SR wx S (.slice Al S.line.length cl) (.slice Ab S.body.length cb)) ∧ Aside0 (wx.heap[g6]? = some (.cells #[.int .i64 S.most, .int .i64 (S.header : Int), .slice Al S.line.length cl, .int .i64 S.said, .bool S.whole, .slice Ab S.body.length cb, .bool S.dead] 32 (0, 0))) ∧ Aside0 (RD w.heap.size b n v held S.dead wx) ∧ Aside0 (RS n S held) ∧
      Aside0 (LI S (flatN L i)) ∧ Aside0 (Below w.heap.size w wx) ∧ Aside0 (i ≤ L.length ∧ L.length < i + g) ∧ Aside0 (Sep v (.slice Al S.line.length cl) ∧ Sep v (.slice Ab S.body.length cb)) ∧ Aside0 (LtW (.slice Al S.line.length cl) wx ∧ LtW (.slice Ab S.body.length cb) wx))
  case atStart => exact ⟨0, st0 n, .slice none 0 0, [], A1, c1, A2, c2, rfl, HSR5, HK65, ⟨⟨HBK5.out, Kd.R_nil _ _ _ _ _⟩⟩, ⟨RS.start HN.out.1⟩, ⟨LI.start _ _⟩, HB5, ⟨by omega⟩, ⟨fun k hk => (by cases hk), fun k hk => (by cases hk)⟩, HLT1⟩
  case round =>
    clear HSR5 HK65 HBK5 HLT1
    obtain ⟨i, S, v, held, Al, cl, Ab, cb, rfl, HS, HK, HRD, HRS, HLI, HB, HI, HSP, HLW⟩ := hrel
    by_cases hlt : i < L.length
    · have hb1 : decide ((i : Int) < (L.length : Int)) = true := decide_eq_true (by omega)
      obtain ⟨gk, rfl⟩ : ∃ g', gk = g' + 1 := ⟨gk - 1, by have := HI.out; omega⟩
      have hw1 : wrap64 ((i : Int) + 1) = ((i + 1 : Nat) : Int) := by have := HL.out; rw [wr64 (by omega) (by omega)]; push_cast; rfl
      have hpl := piece_le L i hlt
      have hpb := piece_bytes HBY.out i hlt
      have hfs : flatN L (i + 1) = flatN L i + (rd_L1 L (i : Int)).length := by unfold flatN; rw [flat_step L i hlt, List.length_append]
      have p0 : 0 ≤ (i : Int) := by omega
      have q0 : (i : Int) < (L.length : Int) := by omega
      obtain ⟨ad0, B0, d0, rfl, hx0, hl0, hi0⟩ := at_L1 HC.out (i : Int) p0 q0
      have hx1 : wr.cell? (ad0.add i) = some (.slice B0 (rd_L1 L (i : Int)).length d0) := (HB.out.cell (cell_lt hx0)).trans hx0
      have hxw : w.cell? (ad0.add i) = some (.slice B0 (rd_L1 L (i : Int)).length d0) := hx0
      obtain ⟨p, hp⟩ : ∃ p, rd_L1 L (i : Int) = p := ⟨_, rfl⟩
      rw [hp] at hx1 hxw hi0 hpl hpb hfs
      have HXW := Aside0.mk hxw
      have HIW := Aside0.mk hi0
      have HI0 := Aside0.mk (Kd.C_below hi0 HB.out)
      have HP := Aside0.mk (And.intro hpl hpb)
      have HFS := Aside0.mk hfs
      have hcnt2 := rfeed_count S p
      obtain ⟨⟨S2, ms, ev⟩, hrf⟩ : ∃ t, rfeed S p = t := ⟨_, rfl⟩
      rw [hrf] at hcnt2
      have HRF := Aside0.mk hrf
      have HML := Aside0.mk (show ms.length ≤ 1073741824 by simp only at hcnt2; have := HL.out; omega)
      have hx2 : (wr.alloc (.cells #[] 5)).cell? (ad0.add i) = some (.slice B0 p.length d0) := ((below_alloc (Below.refl wr.heap.size wr) (.cells #[] 5)).cell (cell_lt hx1)).trans hx1
      replace p0 := eq_true p0
      replace q0 := eq_true q0
      clear hx0 hx1 hi0 hl0 hp hpl hpb hfs hcnt2 hrf hxw
      go_wp2_with (at_builtin; refine Kd.R_append_rows (Kd.int .u8) (w0 := wr) wr.heap.size rfl (.tmp 37) (.tmp 41) 22 5 (.int .u8 0) 1 rfl Tryd.underlying22 info5 rfl (by decide) (by omega) _ [] p _ _ _ (fun _ => True) (fun _ => False) rfl rfl (empty_R _ wr (Nat.le_refl _)) (Kd.C_alloc HI0.out _) (fun _ _ h => h) (fun _ h => h.elim) (fun _ _ => trivial) (below_alloc (Below.refl _ _) _) (by simp) (by have := HP.out; have := HL.out; simp only [List.length_nil]; omega) ?_)
      intro v6 w6 hr6 hB6 _ _
      have hr6' : Kd.R (Kd.int .u8) 5 w6 wr.heap.size (fun _ => True) v6 p := hr6
      obtain ⟨A6, c6, rfl, hcc6, hC6⟩ := Kd.R_reads hr6'
      have HRD6 := Aside0.mk (HRD.out.below hB6)
      have HB6 := Aside0.mk (below_step HB.out hB6)
      have HK6 := Aside0.mk (blk_below HK.out hB6)
      have HS6 := Aside0.mk (HS.out.below hB6)
      have HLW6 := Aside0.mk (And.intro (HLW.out.1.mono hB6.size) (HLW.out.2.mono hB6.size))
      have HC6 := Aside0.mk hC6
      clear hr6 hr6' hcc6 hC6 hB6 HRD HK HS hx2 HLW
      go_wp2_with (fail)
      refine (feedS_calls w w6 b n v held S A6 c6 p HRD6.out HRS.out HB6.out HWB.out.1 HN.out.1 HN.out.2 HC6.out HP.out.2 (by have := HP.out; have := HL.out; omega)).mono ?_
      rintro e w7 ⟨v', vo, held', rfl, hrs, hrd, hro, hB7, how, hap, hsz⟩
      rw [HRF.out] at hrs hrd hro ⊢
      simp only at hrs hrd hro ⊢
      obtain ⟨Av, cv, hvq⟩ := Kd.R_slice HRD6.out.row
      have hnu : NoU8 #[.int .i64 n, v, .bool S.dead] := noU8_rd (fun x e => by rw [hvq] at e; cases e)
      have HS7 := Aside0.mk (HS6.out.apart hap HRD6.out.cell hnu HSP.out.1 HSP.out.2)
      have HK7 := Aside0.mk ((hap g6 (blk_lt HK6.out) (fun e => HWB.out.2 e.symm) (Kd.R_ne HRD6.out.row HK6.out (by decide))).trans HK6.out)
      have HRD7 := Aside0.mk hrd
      have HRS7 := Aside0.mk hrs
      have HB7 := Aside0.mk hB7
      have HRO7 := Aside0.mk hro
      have HSP7 := Aside0.mk (And.intro (HSP.out.1.feed HLW6.out.1 how) (HSP.out.2.feed HLW6.out.2 how))
      have HLW7 := Aside0.mk (And.intro (HLW6.out.1.mono hsz) (HLW6.out.2.mono hsz))
      have HVL7 := Aside0.mk (show LtW v' w7 from Kd.R_lt hrd.row)
      obtain ⟨Ao, co, rfl⟩ := Kd.R_slice hro
      clear hrs hrd hro hB7 how hap hsz hvq hnu HS6 HK6 HRD6 HRS HSP HLW6
      have hx2 : w7.cell? (ad0.add i) = some (.slice B0 p.length d0) := (HB7.out.cell (cell_lt HXW.out)).trans HXW.out
      have hcall := Aside0.mk (fun (W : World) (hW : Below w7.heap.size w7 W) => show Calls Tryd.prog 16 #[.agg #[.int .i64 S.most, .int .i64 (S.header : Int), .slice Al S.line.length cl, .int .i64 S.said, .bool S.whole, .slice Ab S.body.length cb, .bool S.dead], .slice B0 p.length d0] W fun e w' => ∃ Al2 cl2 Ab2 cb2 vm, e = .returned (.tuple #[.agg #[.int .i64 S2.most, .int .i64 (S2.header : Int), .slice Al2 S2.line.length cl2, .int .i64 S2.said, .bool S2.whole, .slice Ab2 S2.body.length cb2, .bool S2.dead], vm, .int .i64 ev]) ∧ SR w' S2 (.slice Al2 S2.line.length cl2) (.slice Ab2 S2.body.length cb2) ∧ Kd.R (Kd.slice 5 (Kd.int .u8)) 22 w' W.heap.size (fun _ => True) vm ms ∧ Org W w' (.slice Al S.line.length cl) (.slice Al2 S2.line.length cl2) ∧ Org W w' (.slice Ab S.body.length cb) (.slice Ab2 S2.body.length cb2) ∧ Below W.heap.size W w' by
        refine (rfeed_calls S _ _ B0 d0 p W (flatN L i) (HS7.out.below hW) HLI.out (Kd.C_below HIW.out (below_step HB7.out hW)) HP.out.2 (by have := HP.out.1; have := HL.out; unfold flatN; omega)).mono ?_
        rintro e w' ⟨vl', vb', vm, rfl, hsr, hrm, hol, hob, hB⟩
        rw [HRF.out] at hsr hrm ⊢
        simp only at hsr hrm ⊢
        obtain ⟨A1, c1, rfl, k1⟩ := hsr.line
        obtain ⟨A2, c2, rfl, k2⟩ := hsr.body
        exact ⟨A1, c1, A2, c2, vm, rfl, hsr, hrm, hol, hob, hB⟩)
      have HLT := Aside0.mk (show g6 < w7.heap.size from blk_lt HK7.out)
      have hc0 : w7.cell? ⟨g6, 0, none⟩ = some (.int .i64 S.most) := (blk_cell HK7.out 0).trans rfl
      have hc1 : w7.cell? ⟨g6, 1, none⟩ = some (.int .i64 (S.header : Int)) := (blk_cell HK7.out 1).trans rfl
      have hc2 : w7.cell? ⟨g6, 2, none⟩ = some (.slice Al S.line.length cl) := (blk_cell HK7.out 2).trans rfl
      have hc3 : w7.cell? ⟨g6, 3, none⟩ = some (.int .i64 S.said) := (blk_cell HK7.out 3).trans rfl
      have hc4 : w7.cell? ⟨g6, 4, none⟩ = some (.bool S.whole) := (blk_cell HK7.out 4).trans rfl
      have hc5 : w7.cell? ⟨g6, 5, none⟩ = some (.slice Ab S.body.length cb) := (blk_cell HK7.out 5).trans rfl
      have hc6 : w7.cell? ⟨g6, 6, none⟩ = some (.bool S.dead) := (blk_cell HK7.out 6).trans rfl
      go_wp2
      refine start_ (n := 14) (S := fun w' => w'.cell? ⟨g6, 0, none⟩ = some (.int .i64 S.most) ∧ w'.cell? ⟨g6, 1, none⟩ = some (.int .i64 (S.header : Int)) ∧ w'.cell? ⟨g6, 2, none⟩ = some (.slice Al S.line.length cl) ∧ w'.cell? ⟨g6, 3, none⟩ = some (.int .i64 S.said) ∧ w'.cell? ⟨g6, 4, none⟩ = some (.bool S.whole) ∧ w'.cell? ⟨g6, 5, none⟩ = some (.slice Ab S.body.length cb) ∧ w'.cell? ⟨g6, 6, none⟩ = some (.bool S.dead) ∧ w'.cell? (ad0.add i) = some (.slice B0 p.length d0)) (ds := []) #[false, false, false, false, false, false, false, false, false, false, false, false, false, false] (by kernel_rfl) rfl rfl ⟨hc0, hc1, hc2, hc3, hc4, hc5, hc6, hx2⟩ (fun hHeld => ?_)
      refine pure_ (i := 1) (N := some 48) (v := ?_) (a' := ?_) #[false, true, false, false, false, false, false, false, false, false, false, false, false, false] rfl rfl (by kernel_rfl) (fun _ _ _ h => h) (Or.inl ⟨by rfl, ?_⟩) ?_ ?_
      rotate_left
      · intro w'
        go_simp
        with_reducible rfl
      rotate_left
      · simp only [Act.put, List.setIfInBounds_toArray, List.set_cons_zero, List.set_cons_succ, i64_w, i32_w]
        rfl
      refine pure_ (i := 2) (N := some 49) (v := ?_) (a' := ?_) #[false, true, true, false, false, false, false, false, false, false, false, false, false, false] rfl rfl (by kernel_rfl) (fun _ _ _ h => h) (Or.inl ⟨by rfl, ?_⟩) ?_ ?_
      rotate_left
      · intro w'
        go_simp
        with_reducible rfl
      rotate_left
      · simp only [Act.put, List.setIfInBounds_toArray, List.set_cons_zero, List.set_cons_succ, i64_w, i32_w]
        rfl
      refine pure_ (i := 3) (N := some 50) (v := ?_) (a' := ?_) #[false, true, true, true, false, false, false, false, false, false, false, false, false, false] rfl rfl (by kernel_rfl) (fun _ _ _ h => h) (Or.inl ⟨by rfl, ?_⟩) ?_ ?_
      rotate_left
      · intro w'
        go_simp
        with_reducible rfl
      rotate_left
      · simp only [Act.put, List.setIfInBounds_toArray, List.set_cons_zero, List.set_cons_succ, i64_w, i32_w]
        rfl
      refine take_ (i := 0) (N := some 47) (v := ?_) (a' := ?_) #[true, true, true, true, false, false, false, false, false, false, false, false, false, false] rfl rfl (by kernel_rfl) (fun _ _ _ h => h) (Or.inl ⟨by rfl, ?_⟩) hHeld ?_ ?_
      rotate_left
      · rintro w' ⟨s0, s1, s2, s3, s4, s5, s6, s7⟩
        go_simp
        with_reducible rfl
      rotate_left
      · simp only [Act.put, List.setIfInBounds_toArray, List.set_cons_zero, List.set_cons_succ, i64_w, i32_w]
        rfl
      refine take_ (i := 4) (N := some 51) (v := ?_) (a' := ?_) #[true, true, true, true, true, false, false, false, false, false, false, false, false, false] rfl rfl (by kernel_rfl) (fun _ _ _ h => h) (Or.inl ⟨by rfl, ?_⟩) hHeld ?_ ?_
      rotate_left
      · rintro w' ⟨s0, s1, s2, s3, s4, s5, s6, s7⟩
        go_simp
        with_reducible rfl
      rotate_left
      · simp only [Act.put, List.setIfInBounds_toArray, List.set_cons_zero, List.set_cons_succ, i64_w, i32_w]
        rfl
      refine join_ (σ := Nat × Option Addr × Nat × Option Addr × Nat × Value) 3 #[true, true, true, true, true, true, true, true, true, true, true, false, false, false] (fun s => [(52, .tuple #[.agg #[.int .i64 S2.most, .int .i64 (S2.header : Int), .slice s.2.1 S2.line.length s.2.2.1, .int .i64 S2.said, .bool S2.whole, .slice s.2.2.2.1 S2.body.length s.2.2.2.2.1, .bool S2.dead], s.2.2.2.2.2, .int .i64 ev]), (46, .tuple #[.agg #[.int .i64 S2.most, .int .i64 (S2.header : Int), .slice s.2.1 S2.line.length s.2.2.1, .int .i64 S2.said, .bool S2.whole, .slice s.2.2.2.1 S2.body.length s.2.2.2.2.1, .bool S2.dead], s.2.2.2.2.2, .int .i64 ev]), (53, .agg #[.int .i64 S2.most, .int .i64 (S2.header : Int), .slice s.2.1 S2.line.length s.2.2.1, .int .i64 S2.said, .bool S2.whole, .slice s.2.2.2.1 S2.body.length s.2.2.2.2.1, .bool S2.dead]), (54, s.2.2.2.2.2), (55, .int .i64 ev), (12, .pointer (some ⟨s.1, 0, none⟩))]) (fun s w' => w'.heap[s.1]? = some (.cells #[.int .i64 0, .int .i64 0, .slice none 0 0, .int .i64 0, .bool false, .slice none 0 0, .bool false] 32 (0, 0)) ∧ w7.heap.size ≤ s.1 ∧ SR w' S2 (.slice s.2.1 S2.line.length s.2.2.1) (.slice s.2.2.2.1 S2.body.length s.2.2.2.2.1) ∧ Kd.R (Kd.slice 5 (Kd.int .u8)) 22 w' w7.heap.size (fun _ => True) s.2.2.2.2.2 ms ∧ Org w7 w' (.slice Al S.line.length cl) (.slice s.2.1 S2.line.length s.2.2.1) ∧ Org w7 w' (.slice Ab S.body.length cb) (.slice s.2.2.2.1 S2.body.length s.2.2.2.2.1) ∧ Below w7.heap.size w7 w') ?_ ?_
      rotate_left
      · intro hCont
        refine two_ (i := 5) (j := 10) (Ni := some 52) (Nj := some 12) #[true, true, true, true, true, true, false, false, false, false, false, false, false, false] #[true, true, true, true, true, false, false, false, false, false, true, false, false, false] rfl rfl rfl rfl (by kernel_rfl) (by decide) (by decide) (fun K hK => ?_) (fun K hK => ?_)
        · skip
          refine goes_ Tryd.func16 (by kernel_rfl) rfl #[.agg #[.int .i64 S.most, .int .i64 (S.header : Int), .slice Al S.line.length cl, .int .i64 S.said, .bool S.whole, .slice Ab S.body.length cb, .bool S.dead], .slice B0 p.length d0] (by rfl) rfl rfl (by simp only [List.map_toArray, List.map_cons, List.map_nil]; rfl) ?_
          with_reducible refine (hcall.out w7.drew (below_drew1 (Below.refl w7.heap.size w7))).mono ?_
          rintro e w9 ⟨Al2, cl2, Ab2, cb2, vm, rfl, hsr2, hrm2, hol2, hob2, hB2⟩
          refine ⟨_, rfl, ?_⟩
          have HBx := below_step (below_drew1 (Below.refl w7.heap.size w7)) hB2
          refine hK.out _ _ ⟨(HBx.cell (cell_lt hc0)).trans hc0, (HBx.cell (cell_lt hc1)).trans hc1, (HBx.cell (cell_lt hc2)).trans hc2, (HBx.cell (cell_lt hc3)).trans hc3, (HBx.cell (cell_lt hc4)).trans hc4, (HBx.cell (cell_lt hc5)).trans hc5, (HBx.cell (cell_lt hc6)).trans hc6, (HBx.cell (cell_lt hx2)).trans hx2⟩ (fun hHeld => ?_)
          clear hK K
          refine norm_ (a' := ?_) ?_ ?_
          rotate_left
          · show Act.put _ (some 52) _ = _
            simp only [Act.put, List.setIfInBounds_toArray, List.set_cons_zero, List.set_cons_succ, i64_w, i32_w]
            rfl
          refine pure_ (i := 6) (N := some 46) (v := ?_) (a' := ?_) #[true, true, true, true, true, true, true, false, false, false, false, false, false, false] rfl rfl (by kernel_rfl) (fun _ _ _ h => h) (Or.inl ⟨by rfl, ?_⟩) ?_ ?_
          rotate_left
          · intro w'
            go_simp
            with_reducible rfl
          rotate_left
          · simp only [Act.put, List.setIfInBounds_toArray, List.set_cons_zero, List.set_cons_succ, i64_w, i32_w]
            rfl
          refine pure_ (i := 7) (N := some 53) (v := ?_) (a' := ?_) #[true, true, true, true, true, true, true, true, false, false, false, false, false, false] rfl rfl (by kernel_rfl) (fun _ _ _ h => h) (Or.inl ⟨by rfl, ?_⟩) ?_ ?_
          rotate_left
          · intro w'
            go_simp
            with_reducible rfl
          rotate_left
          · simp only [Act.put, List.setIfInBounds_toArray, List.set_cons_zero, List.set_cons_succ, i64_w, i32_w]
            rfl
          refine pure_ (i := 8) (N := some 54) (v := ?_) (a' := ?_) #[true, true, true, true, true, true, true, true, true, false, false, false, false, false] rfl rfl (by kernel_rfl) (fun _ _ _ h => h) (Or.inl ⟨by rfl, ?_⟩) ?_ ?_
          rotate_left
          · intro w'
            go_simp
            with_reducible rfl
          rotate_left
          · simp only [Act.put, List.setIfInBounds_toArray, List.set_cons_zero, List.set_cons_succ, i64_w, i32_w]
            rfl
          refine pure_ (i := 9) (N := some 55) (v := ?_) (a' := ?_) #[true, true, true, true, true, true, true, true, true, true, false, false, false, false] rfl rfl (by kernel_rfl) (fun _ _ _ h => h) (Or.inl ⟨by rfl, ?_⟩) ?_ ?_
          rotate_left
          · intro w'
            go_simp
            with_reducible rfl
          rotate_left
          · simp only [Act.put, List.setIfInBounds_toArray, List.set_cons_zero, List.set_cons_succ, i64_w, i32_w]
            rfl
          refine one_ (i := 10) (N := some 12) #[true, true, true, true, true, true, true, true, true, true, true, false, false, false] rfl rfl (by kernel_rfl) (by decide) (fun K hK => ?_)
          refine value_ (w1 := ?_) (v := ?_) (by rfl) rfl ?_ ?_
          rotate_left 2
          · go_simp
            constructor
            · rfl
            · rfl
          have HBy := below_alloc HBx (.cells #[.int .i64 0, .int .i64 0, .slice none 0 0, .int .i64 0, .bool false, .slice none 0 0, .bool false] 32)
          refine hK.out _ _ ⟨(HBy.cell (cell_lt hc0)).trans hc0, (HBy.cell (cell_lt hc1)).trans hc1, (HBy.cell (cell_lt hc2)).trans hc2, (HBy.cell (cell_lt hc3)).trans hc3, (HBy.cell (cell_lt hc4)).trans hc4, (HBy.cell (cell_lt hc5)).trans hc5, (HBy.cell (cell_lt hc6)).trans hc6, (HBy.cell (cell_lt hx2)).trans hx2⟩ (fun hHeld => ?_)
          clear hK K
          refine norm_ (a' := ?_) ?_ ?_
          rotate_left
          · show Act.put _ (some 12) _ = _
            simp only [Act.put, List.setIfInBounds_toArray, List.set_cons_zero, List.set_cons_succ, i64_w, i32_w]
            rfl
          exact norm_ (by simp only [putAll, Act.put, List.setIfInBounds_toArray, List.set_cons_zero, List.set_cons_succ]) (hCont (w9.heap.size, Al2, cl2, Ab2, cb2, vm) _ ⟨blk_new w9 _, HBx.size, hsr2.below (below_alloc (Below.refl _ _) _), Kd.R_alloc (Kd.R_lower hrm2 (Nat.le_refl _)) _, Org.from (hol2.grow (below_alloc (Below.refl w9.heap.size w9) _).size) (Nat.le_refl _), Org.from (hob2.grow (below_alloc (Below.refl w9.heap.size w9) _).size) (Nat.le_refl _), HBy⟩)
        · skip
          refine value_ (w1 := ?_) (v := ?_) (by rfl) rfl ?_ ?_
          rotate_left 2
          · go_simp
            constructor
            · rfl
            · rfl
          have HBx := below_drew1 (below_alloc (Below.refl w7.heap.size w7) (.cells #[.int .i64 0, .int .i64 0, .slice none 0 0, .int .i64 0, .bool false, .slice none 0 0, .bool false] 32))
          refine hK.out _ _ ⟨(HBx.cell (cell_lt hc0)).trans hc0, (HBx.cell (cell_lt hc1)).trans hc1, (HBx.cell (cell_lt hc2)).trans hc2, (HBx.cell (cell_lt hc3)).trans hc3, (HBx.cell (cell_lt hc4)).trans hc4, (HBx.cell (cell_lt hc5)).trans hc5, (HBx.cell (cell_lt hc6)).trans hc6, (HBx.cell (cell_lt hx2)).trans hx2⟩ (fun hHeld => ?_)
          clear hK K
          refine norm_ (a' := ?_) ?_ ?_
          rotate_left
          · show Act.put _ (some 12) _ = _
            simp only [Act.put, List.setIfInBounds_toArray, List.set_cons_zero, List.set_cons_succ, i64_w, i32_w]
            rfl
          refine one_ (i := 5) (N := some 52) #[true, true, true, true, true, true, false, false, false, false, true, false, false, false] rfl rfl (by kernel_rfl) (by decide) (fun K hK => ?_)
          refine goes_ Tryd.func16 (by kernel_rfl) rfl #[.agg #[.int .i64 S.most, .int .i64 (S.header : Int), .slice Al S.line.length cl, .int .i64 S.said, .bool S.whole, .slice Ab S.body.length cb, .bool S.dead], .slice B0 p.length d0] (by rfl) rfl rfl (by simp only [List.map_toArray, List.map_cons, List.map_nil]; rfl) ?_
          with_reducible refine (hcall.out (w7.alloc (.cells #[.int .i64 0, .int .i64 0, .slice none 0 0, .int .i64 0, .bool false, .slice none 0 0, .bool false] 32)).drew (below_drew1 (below_alloc (Below.refl w7.heap.size w7) _))).mono ?_
          rintro e w9 ⟨Al2, cl2, Ab2, cb2, vm, rfl, hsr2, hrm2, hol2, hob2, hB2⟩
          refine ⟨_, rfl, ?_⟩
          have HBy := below_step (below_drew1 (below_alloc (Below.refl w7.heap.size w7) (.cells #[.int .i64 0, .int .i64 0, .slice none 0 0, .int .i64 0, .bool false, .slice none 0 0, .bool false] 32))) hB2
          refine hK.out _ _ ⟨(HBy.cell (cell_lt hc0)).trans hc0, (HBy.cell (cell_lt hc1)).trans hc1, (HBy.cell (cell_lt hc2)).trans hc2, (HBy.cell (cell_lt hc3)).trans hc3, (HBy.cell (cell_lt hc4)).trans hc4, (HBy.cell (cell_lt hc5)).trans hc5, (HBy.cell (cell_lt hc6)).trans hc6, (HBy.cell (cell_lt hx2)).trans hx2⟩ (fun hHeld => ?_)
          clear hK K
          refine norm_ (a' := ?_) ?_ ?_
          rotate_left
          · show Act.put _ (some 52) _ = _
            simp only [Act.put, List.setIfInBounds_toArray, List.set_cons_zero, List.set_cons_succ, i64_w, i32_w]
            rfl
          refine pure_ (i := 6) (N := some 46) (v := ?_) (a' := ?_) #[true, true, true, true, true, true, true, false, false, false, true, false, false, false] rfl rfl (by kernel_rfl) (fun _ _ _ h => h) (Or.inl ⟨by rfl, ?_⟩) ?_ ?_
          rotate_left
          · intro w'
            go_simp
            with_reducible rfl
          rotate_left
          · simp only [Act.put, List.setIfInBounds_toArray, List.set_cons_zero, List.set_cons_succ, i64_w, i32_w]
            rfl
          refine pure_ (i := 7) (N := some 53) (v := ?_) (a' := ?_) #[true, true, true, true, true, true, true, true, false, false, true, false, false, false] rfl rfl (by kernel_rfl) (fun _ _ _ h => h) (Or.inl ⟨by rfl, ?_⟩) ?_ ?_
          rotate_left
          · intro w'
            go_simp
            with_reducible rfl
          rotate_left
          · simp only [Act.put, List.setIfInBounds_toArray, List.set_cons_zero, List.set_cons_succ, i64_w, i32_w]
            rfl
          refine pure_ (i := 8) (N := some 54) (v := ?_) (a' := ?_) #[true, true, true, true, true, true, true, true, true, false, true, false, false, false] rfl rfl (by kernel_rfl) (fun _ _ _ h => h) (Or.inl ⟨by rfl, ?_⟩) ?_ ?_
          rotate_left
          · intro w'
            go_simp
            with_reducible rfl
          rotate_left
          · simp only [Act.put, List.setIfInBounds_toArray, List.set_cons_zero, List.set_cons_succ, i64_w, i32_w]
            rfl
          refine pure_ (i := 9) (N := some 55) (v := ?_) (a' := ?_) #[true, true, true, true, true, true, true, true, true, true, true, false, false, false] rfl rfl (by kernel_rfl) (fun _ _ _ h => h) (Or.inl ⟨by rfl, ?_⟩) ?_ ?_
          rotate_left
          · intro w'
            go_simp
            with_reducible rfl
          rotate_left
          · simp only [Act.put, List.setIfInBounds_toArray, List.set_cons_zero, List.set_cons_succ, i64_w, i32_w]
            rfl
          exact norm_ (by simp only [putAll, Act.put, List.setIfInBounds_toArray, List.set_cons_zero, List.set_cons_succ]) (hCont (w7.heap.size, Al2, cl2, Ab2, cb2, vm) _ ⟨blk_below (blk_drew (blk_new w7 (.cells #[.int .i64 0, .int .i64 0, .slice none 0 0, .int .i64 0, .bool false, .slice none 0 0, .bool false] 32))) hB2, Nat.le_refl _, hsr2, Kd.R_lower hrm2 (below_alloc (Below.refl w7.heap.size w7) (.cells #[.int .i64 0, .int .i64 0, .slice none 0 0, .int .i64 0, .bool false, .slice none 0 0, .bool false] 32)).size, Org.from hol2 (below_alloc (Below.refl w7.heap.size w7) (.cells #[.int .i64 0, .int .i64 0, .slice none 0 0, .int .i64 0, .bool false, .slice none 0 0, .bool false] 32)).size, Org.from hob2 (below_alloc (Below.refl w7.heap.size w7) (.cells #[.int .i64 0, .int .i64 0, .slice none 0 0, .int .i64 0, .bool false, .slice none 0 0, .bool false] 32)).size, HBy⟩)
      rintro ⟨g9, Al2, cl2, Ab2, cb2, vm⟩ w9 ⟨hk9, hg9, hsr9, hrm9, hol9, hob9, hB9⟩
      simp only at hk9 hg9 hsr9 hrm9 hol9 hob9
      have hHeld : w9.cell? ⟨g6, 0, none⟩ = some (.int .i64 S.most) ∧ w9.cell? ⟨g6, 1, none⟩ = some (.int .i64 (S.header : Int)) ∧ w9.cell? ⟨g6, 2, none⟩ = some (.slice Al S.line.length cl) ∧ w9.cell? ⟨g6, 3, none⟩ = some (.int .i64 S.said) ∧ w9.cell? ⟨g6, 4, none⟩ = some (.bool S.whole) ∧ w9.cell? ⟨g6, 5, none⟩ = some (.slice Ab S.body.length cb) ∧ w9.cell? ⟨g6, 6, none⟩ = some (.bool S.dead) ∧ w9.cell? (ad0.add i) = some (.slice B0 p.length d0) := ⟨(hB9.cell (cell_lt hc0)).trans hc0, (hB9.cell (cell_lt hc1)).trans hc1, (hB9.cell (cell_lt hc2)).trans hc2, (hB9.cell (cell_lt hc3)).trans hc3, (hB9.cell (cell_lt hc4)).trans hc4, (hB9.cell (cell_lt hc5)).trans hc5, (hB9.cell (cell_lt hc6)).trans hc6, (hB9.cell (cell_lt hx2)).trans hx2⟩
      refine norm_ (a' := ?_) ?_ ?_
      rotate_left
      · simp only [putAll, Act.put, List.setIfInBounds_toArray, List.set_cons_zero, List.set_cons_succ]
        rfl
      refine one_ (i := 11) (N := none) #[true, true, true, true, true, true, true, true, true, true, true, true, false, false] rfl rfl (by kernel_rfl) (by decide) (fun K hK => ?_)
      refine skip_ (w1 := w9.setCells g9 0 [.int .i64 S2.most, .int .i64 (S2.header : Int), .slice Al2 S2.line.length cl2, .int .i64 S2.said, .bool S2.whole, .slice Ab2 S2.body.length cb2, .bool S2.dead]) (by rfl) rfl (store_run rfl [.int .i64 S2.most, .int .i64 (S2.header : Int), .slice Al2 S2.line.length cl2, .int .i64 S2.said, .bool S2.whole, .slice Ab2 S2.body.length cb2, .bool S2.dead] _ rfl rfl rfl sizeRef (by simp [Value.oneCell']) hk9 (by simp)) ?_
      refine hK.out _ _ ⟨(cell_only (put_all w9 g9 _ 32 [.int .i64 S2.most, .int .i64 (S2.header : Int), .slice Al2 S2.line.length cl2, .int .i64 S2.said, .bool S2.whole, .slice Ab2 S2.body.length cb2, .bool S2.dead] hk9 (by simp)).2 (by have := HLT.out; omega)).trans ((hB9.cell (cell_lt hc0)).trans hc0), (cell_only (put_all w9 g9 _ 32 [.int .i64 S2.most, .int .i64 (S2.header : Int), .slice Al2 S2.line.length cl2, .int .i64 S2.said, .bool S2.whole, .slice Ab2 S2.body.length cb2, .bool S2.dead] hk9 (by simp)).2 (by have := HLT.out; omega)).trans ((hB9.cell (cell_lt hc1)).trans hc1), (cell_only (put_all w9 g9 _ 32 [.int .i64 S2.most, .int .i64 (S2.header : Int), .slice Al2 S2.line.length cl2, .int .i64 S2.said, .bool S2.whole, .slice Ab2 S2.body.length cb2, .bool S2.dead] hk9 (by simp)).2 (by have := HLT.out; omega)).trans ((hB9.cell (cell_lt hc2)).trans hc2), (cell_only (put_all w9 g9 _ 32 [.int .i64 S2.most, .int .i64 (S2.header : Int), .slice Al2 S2.line.length cl2, .int .i64 S2.said, .bool S2.whole, .slice Ab2 S2.body.length cb2, .bool S2.dead] hk9 (by simp)).2 (by have := HLT.out; omega)).trans ((hB9.cell (cell_lt hc3)).trans hc3), (cell_only (put_all w9 g9 _ 32 [.int .i64 S2.most, .int .i64 (S2.header : Int), .slice Al2 S2.line.length cl2, .int .i64 S2.said, .bool S2.whole, .slice Ab2 S2.body.length cb2, .bool S2.dead] hk9 (by simp)).2 (by have := HLT.out; omega)).trans ((hB9.cell (cell_lt hc4)).trans hc4), (cell_only (put_all w9 g9 _ 32 [.int .i64 S2.most, .int .i64 (S2.header : Int), .slice Al2 S2.line.length cl2, .int .i64 S2.said, .bool S2.whole, .slice Ab2 S2.body.length cb2, .bool S2.dead] hk9 (by simp)).2 (by have := HLT.out; omega)).trans ((hB9.cell (cell_lt hc5)).trans hc5), (cell_only (put_all w9 g9 _ 32 [.int .i64 S2.most, .int .i64 (S2.header : Int), .slice Al2 S2.line.length cl2, .int .i64 S2.said, .bool S2.whole, .slice Ab2 S2.body.length cb2, .bool S2.dead] hk9 (by simp)).2 (by have := HLT.out; omega)).trans ((hB9.cell (cell_lt hc6)).trans hc6), (cell_onlyA (put_all w9 g9 _ 32 [.int .i64 S2.most, .int .i64 (S2.header : Int), .slice Al2 S2.line.length cl2, .int .i64 S2.said, .bool S2.whole, .slice Ab2 S2.body.length cb2, .bool S2.dead] hk9 (by simp)).2 (by have := cell_lt hx2; rw [add_block] at *; omega)).trans ((hB9.cell (cell_lt hx2)).trans hx2)⟩ (fun hHeld => ?_)
      clear hK K
      refine pure_ (i := 12) (N := some 13) (v := ?_) (a' := ?_) #[true, true, true, true, true, true, true, true, true, true, true, true, true, false] rfl rfl (by kernel_rfl) (fun _ _ _ h => h) (Or.inl ⟨by rfl, ?_⟩) ?_ ?_
      rotate_left
      · intro w'
        go_simp
        with_reducible rfl
      rotate_left
      · simp only [Act.put, List.setIfInBounds_toArray, List.set_cons_zero, List.set_cons_succ, i64_w, i32_w]
        rfl
      refine pure_ (i := 13) (N := some 14) (v := ?_) (a' := ?_) #[true, true, true, true, true, true, true, true, true, true, true, true, true, true] rfl rfl (by kernel_rfl) (fun _ _ _ h => h) (Or.inl ⟨by rfl, ?_⟩) ?_ ?_
      rotate_left
      · intro w'
        go_simp
        with_reducible rfl
      rotate_left
      · simp only [Act.put, List.setIfInBounds_toArray, List.set_cons_zero, List.set_cons_succ, i64_w, i32_w]
        rfl
      refine done_ (by kernel_rfl) ?_
      obtain ⟨k10, o10⟩ := put_all w9 g9 _ 32 [.int .i64 S2.most, .int .i64 (S2.header : Int), .slice Al2 S2.line.length cl2, .int .i64 S2.said, .bool S2.whole, .slice Ab2 S2.body.length cb2, .bool S2.dead] hk9 (by simp)
      have HK10 := Aside0.mk ((o10.block g6 (by have := HLT.out; omega)).trans (blk_below HK7.out hB9))
      have HK9 := Aside0.mk k10
      have HB10 := Aside0.mk (o10.below (below_step HB7.out hB9) (by have := HB7.out.size; omega))
      have HM10 := Aside0.mk (o10.row hrm9 hk9 u22_ne)
      have HS10 := Aside0.mk (SR.only hsr9 o10 hk9 (noU8_seg rfl rfl))
      have HRO10 := Aside0.mk (o10.row (Kd.R_below HRO7.out hB9) hk9 u22_ne)
      have HRD10 := Aside0.mk (show RD w.heap.size b n v' held' S2.dead (w9.setCells g9 0 [.int .i64 S2.most, .int .i64 (S2.header : Int), .slice Al2 S2.line.length cl2, .int .i64 S2.said, .bool S2.whole, .slice Ab2 S2.body.length cb2, .bool S2.dead]) from ⟨(o10.block b (by have := HRD7.out.lt; omega)).trans (HRD7.out.below hB9).cell, o10.row (HRD7.out.below hB9).row hk9 u8_ne⟩)
      have HO10 := Aside0.mk (And.intro (hol9.grow (Nat.le_of_eq o10.size.symm)) (hob9.grow (Nat.le_of_eq o10.size.symm)))
      have HSZ10 := Aside0.mk (show w7.heap.size ≤ (w9.setCells g9 0 [.int .i64 S2.most, .int .i64 (S2.header : Int), .slice Al2 S2.line.length cl2, .int .i64 S2.said, .bool S2.whole, .slice Ab2 S2.body.length cb2, .bool S2.dead]).heap.size by rw [o10.size]; exact hB9.size)
      have HG96 := Aside0.mk (show g9 ≠ g6 by have := HLT.out; omega)
      clear hHeld hsr9 hrm9 hol9 hob9 hB9 hk9 o10 k10 hg9 HRO7 HRD7 HK7 HS7
      generalize w9.setCells g9 0 [.int .i64 S2.most, .int .i64 (S2.header : Int), .slice Al2 S2.line.length cl2, .int .i64 S2.said, .bool S2.whole, .slice Ab2 S2.body.length cb2, .bool S2.dead] = w10 at *
      clear hc0 hc1 hc2 hc3 hc4 hc5 hc6 hx2 p0 q0
      have hd0 : w10.cell? ⟨g9, 0, none⟩ = some (.int .i64 S2.most) := (blk_cell HK9.out 0).trans rfl
      have hd1 : w10.cell? ⟨g9, 1, none⟩ = some (.int .i64 (S2.header : Int)) := (blk_cell HK9.out 1).trans rfl
      have hd2 : w10.cell? ⟨g9, 2, none⟩ = some (.slice Al2 S2.line.length cl2) := (blk_cell HK9.out 2).trans rfl
      have hd3 : w10.cell? ⟨g9, 3, none⟩ = some (.int .i64 S2.said) := (blk_cell HK9.out 3).trans rfl
      have hd4 : w10.cell? ⟨g9, 4, none⟩ = some (.bool S2.whole) := (blk_cell HK9.out 4).trans rfl
      have hd5 : w10.cell? ⟨g9, 5, none⟩ = some (.slice Ab2 S2.body.length cb2) := (blk_cell HK9.out 5).trans rfl
      have hd6 : w10.cell? ⟨g9, 6, none⟩ = some (.bool S2.dead) := (blk_cell HK9.out 6).trans rfl
      go_wp2_with ((with_reducible refine gate_ (.store 32 (.tmp 6) (.tmp 56)) rfl ?_); refine st_store rfl rfl 32 (.tmp 6) (.tmp 56) rfl (g := g6) (j := 0) (cur' := #[.int .i64 S2.most, .int .i64 (S2.header : Int), .slice Al2 S2.line.length cl2, .int .i64 S2.said, .bool S2.whole, .slice Ab2 S2.body.length cb2, .bool S2.dead]) [.int .i64 S2.most, .int .i64 (S2.header : Int), .slice Al2 S2.line.length cl2, .int .i64 S2.said, .bool S2.whole, .slice Ab2 S2.body.length cb2, .bool S2.dead] (.agg #[.int .i64 S2.most, .int .i64 (S2.header : Int), .slice Al2 S2.line.length cl2, .int .i64 S2.said, .bool S2.whole, .slice Ab2 S2.body.length cb2, .bool S2.dead]) rfl rfl rfl sizeRef (by simp [Value.oneCell']) HK10.out (by simp) rfl ?_)
      intro w13 k13 o13
      have HK13 := Aside0.mk k13
      have HB13 := Aside0.mk (o13.below HB10.out (by have := HG6.out; have := HB3.out.size; omega))
      have HM13 := Aside0.mk (o13.row HM10.out HK10.out u22_ne)
      have HS13 := Aside0.mk (SR.only HS10.out o13 HK10.out (noU8_seg rfl rfl))
      have HRO13 := Aside0.mk (o13.row HRO10.out HK10.out u22_ne)
      have HRD13 := Aside0.mk (show RD w.heap.size b n v' held' S2.dead w13 from ⟨(o13.block b HWB.out.2).trans HRD10.out.cell, o13.row HRD10.out.row HK10.out u8_ne⟩)
      have HO13 := Aside0.mk (And.intro (HO10.out.1.grow (Nat.le_of_eq o13.size.symm)) (HO10.out.2.grow (Nat.le_of_eq o13.size.symm)))
      have HSZ13 := Aside0.mk (show w7.heap.size ≤ w13.heap.size by rw [o13.size]; exact HSZ10.out)
      clear k13 o13 hd0 hd1 hd2 hd3 hd4 hd5 hd6 HK10 HK9 HB10 HM10 HS10 HRO10 HRD10 HO10 HSZ10
      obtain ⟨Am, cm, rfl⟩ := Kd.R_slice HM13.out
      have HCO := Aside0.mk (Kd.R_reads' HRO13.out).2.2
      have HCM := Aside0.mk (Kd.R_reads' HM13.out).2.2
      obtain ⟨N, hN⟩ : ∃ N, S2.header + S2.body.length = N := ⟨_, rfl⟩
      have hlen := HRS7.out.len
      have htop := HRS7.out.top
      rw [hN] at hlen
      have HN2 := Aside0.mk (show S2.header + S2.body.length = N ∧ N ≤ 1000000000000 from ⟨hN, by have := HN.out; omega⟩)
      obtain ⟨D, hD⟩ : ∃ D : Bool, (!S2.dead && decide (S2.header = 0)) = D := ⟨_, rfl⟩
      have hD2 := (done_same HRS7.out).trans hD
      have CH := Aside0.mk (fun W (hB : Below w13.heap.size w13 W) => show Calls Tryd.prog 12 #[.pointer (some ⟨b, 0, none⟩)] W fun e w' => e = .returned (.int .i64 (N : Int)) ∧ w' = W by have := held_calls _ b _ _ _ _ W (HRD13.out.below hB); rw [hlen] at this; exact this)
      have CD := Aside0.mk (fun W (hB : Below w13.heap.size w13 W) => show Calls Tryd.prog 13 #[.pointer (some ⟨b, 0, none⟩)] W fun e w' => e = .returned (.bool D) ∧ w' = W by have := done_calls _ b _ _ _ _ W (HRD13.out.below hB); rw [hD2] at this; exact this)
      have CR := Aside0.mk (fun W => show Calls Tryd.prog 21 #[.agg #[.int .i64 S2.most, .int .i64 (S2.header : Int), .slice Al2 S2.line.length cl2, .int .i64 S2.said, .bool S2.whole, .slice Ab2 S2.body.length cb2, .bool S2.dead]] W fun e w' => e = .returned (.bool D) ∧ Below W.heap.size W w' by have := rdone_calls S2 Al2 cl2 Ab2 cb2 W; rw [hD] at this; exact this)
      clear hN hlen htop hD hD2
      have hf0 : w13.cell? ⟨g6, 0, none⟩ = some (.int .i64 S2.most) := (blk_cell HK13.out 0).trans rfl
      have hf1 : w13.cell? ⟨g6, 1, none⟩ = some (.int .i64 (S2.header : Int)) := (blk_cell HK13.out 1).trans rfl
      have hf2 : w13.cell? ⟨g6, 2, none⟩ = some (.slice Al2 S2.line.length cl2) := (blk_cell HK13.out 2).trans rfl
      have hf3 : w13.cell? ⟨g6, 3, none⟩ = some (.int .i64 S2.said) := (blk_cell HK13.out 3).trans rfl
      have hf4 : w13.cell? ⟨g6, 4, none⟩ = some (.bool S2.whole) := (blk_cell HK13.out 4).trans rfl
      have hf5 : w13.cell? ⟨g6, 5, none⟩ = some (.slice Ab2 S2.body.length cb2) := (blk_cell HK13.out 5).trans rfl
      have hf6 : w13.cell? ⟨g6, 6, none⟩ = some (.bool S2.dead) := (blk_cell HK13.out 6).trans rfl
      go_wp2
      refine start_ (n := 23) (S := fun w' => w'.cell? ⟨g6, 0, none⟩ = some (.int .i64 S2.most) ∧ w'.cell? ⟨g6, 1, none⟩ = some (.int .i64 (S2.header : Int)) ∧ w'.cell? ⟨g6, 2, none⟩ = some (.slice Al2 S2.line.length cl2) ∧ w'.cell? ⟨g6, 3, none⟩ = some (.int .i64 S2.said) ∧ w'.cell? ⟨g6, 4, none⟩ = some (.bool S2.whole) ∧ w'.cell? ⟨g6, 5, none⟩ = some (.slice Ab2 S2.body.length cb2) ∧ w'.cell? ⟨g6, 6, none⟩ = some (.bool S2.dead)) (ds := []) #[false, false, false, false, false, false, false, false, false, false, false, false, false, false, false, false, false, false, false, false, false, false, false] (by kernel_rfl) rfl rfl ⟨hf0, hf1, hf2, hf3, hf4, hf5, hf6⟩ (fun hHeld => ?_)
      refine pure_ (i := 0) (N := some 57) (v := ?_) (a' := ?_) #[true, false, false, false, false, false, false, false, false, false, false, false, false, false, false, false, false, false, false, false, false, false, false] rfl rfl (by kernel_rfl) (fun _ _ _ h => h) (Or.inl ⟨by rfl, ?_⟩) ?_ ?_
      rotate_left
      · intro w'
        go_simp
        with_reducible rfl
      rotate_left
      · simp only [Act.put, List.setIfInBounds_toArray, List.set_cons_zero, List.set_cons_succ, i64_w, i32_w]
        rfl
      refine pure_ (i := 1) (N := some 58) (v := ?_) (a' := ?_) #[true, true, false, false, false, false, false, false, false, false, false, false, false, false, false, false, false, false, false, false, false, false, false] rfl rfl (by kernel_rfl) (fun _ _ _ h => h) (Or.inl ⟨by rfl, ?_⟩) ?_ ?_
      rotate_left
      · intro w'
        go_simp
        with_reducible rfl
      rotate_left
      · simp only [Act.put, List.setIfInBounds_toArray, List.set_cons_zero, List.set_cons_succ, i64_w, i32_w]
        rfl
      refine pure_ (i := 2) (N := some 59) (v := ?_) (a' := ?_) #[true, true, true, false, false, false, false, false, false, false, false, false, false, false, false, false, false, false, false, false, false, false, false] rfl rfl (by kernel_rfl) (fun _ _ _ h => h) (Or.inl ⟨by rfl, ?_⟩) ?_ ?_
      rotate_left
      · intro w'
        go_simp
        with_reducible rfl
      rotate_left
      · simp only [Act.put, List.setIfInBounds_toArray, List.set_cons_zero, List.set_cons_succ, i64_w, i32_w]
        rfl
      refine pure_ (i := 3) (N := some 60) (v := ?_) (a' := ?_) #[true, true, true, true, false, false, false, false, false, false, false, false, false, false, false, false, false, false, false, false, false, false, false] rfl rfl (by kernel_rfl) (fun _ _ _ h => h) (Or.inl ⟨by rfl, ?_⟩) ?_ ?_
      rotate_left
      · intro w'
        go_simp
        with_reducible rfl
      rotate_left
      · simp only [Act.put, List.setIfInBounds_toArray, List.set_cons_zero, List.set_cons_succ, i64_w, i32_w]
        rfl
      refine pure_ (i := 4) (N := some 61) (v := ?_) (a' := ?_) #[true, true, true, true, true, false, false, false, false, false, false, false, false, false, false, false, false, false, false, false, false, false, false] rfl rfl (by kernel_rfl) (fun _ _ _ h => h) (Or.inl ⟨by rfl, ?_⟩) ?_ ?_
      rotate_left
      · intro w'
        go_simp
        with_reducible rfl
      rotate_left
      · simp only [Act.put, List.setIfInBounds_toArray, List.set_cons_zero, List.set_cons_succ, i64_w, i32_w]
        rfl
      refine pure_ (i := 5) (N := some 62) (v := ?_) (a' := ?_) #[true, true, true, true, true, true, false, false, false, false, false, false, false, false, false, false, false, false, false, false, false, false, false] rfl rfl (by kernel_rfl) (fun _ _ _ h => h) (Or.inl ⟨by rfl, ?_⟩) ?_ ?_
      rotate_left
      · intro w'
        go_simp
        with_reducible rfl
      rotate_left
      · simp only [Act.put, List.setIfInBounds_toArray, List.set_cons_zero, List.set_cons_succ, i64_w, i32_w]
        rfl
      refine one_ (i := 6) (N := some 63) #[true, true, true, true, true, true, true, false, false, false, false, false, false, false, false, false, false, false, false, false, false, false, false] rfl rfl (by kernel_rfl) (by decide) (fun K hK => ?_)
      refine goes_ Tryd.func17 (by kernel_rfl) rfl #[.slice Ao ms.length co, .slice Am ms.length cm] (by rfl) rfl rfl (by simp only [List.map_toArray, List.map_cons, List.map_nil]; rfl) ?_
      with_reducible refine (sameAll_true Ao Am co cm ms w13.drew (Kd.C_below HCO.out (below_drew1 (Below.refl _ _))) (Kd.C_below HCM.out (below_drew1 (Below.refl _ _))) HML.out).mono ?_
      rintro e wA ⟨rfl, hBA⟩
      refine ⟨_, rfl, ?_⟩
      have HBA := below_step (below_drew1 (Below.refl w13.heap.size w13)) hBA
      refine hK.out _ _ ⟨(HBA.cell (cell_lt hf0)).trans hf0, (HBA.cell (cell_lt hf1)).trans hf1, (HBA.cell (cell_lt hf2)).trans hf2, (HBA.cell (cell_lt hf3)).trans hf3, (HBA.cell (cell_lt hf4)).trans hf4, (HBA.cell (cell_lt hf5)).trans hf5, (HBA.cell (cell_lt hf6)).trans hf6⟩ (fun hHeld => ?_)
      clear hK K
      refine norm_ (a' := ?_) ?_ ?_
      rotate_left
      · show Act.put _ (some 63) _ = _
        simp only [Act.put, List.setIfInBounds_toArray, List.set_cons_zero, List.set_cons_succ, i64_w, i32_w]
        rfl
      refine pure_ (i := 7) (N := some 64) (v := ?_) (a' := ?_) #[true, true, true, true, true, true, true, true, false, false, false, false, false, false, false, false, false, false, false, false, false, false, false] rfl rfl (by kernel_rfl) (fun _ _ _ h => h) (Or.inl ⟨by rfl, ?_⟩) ?_ ?_
      rotate_left
      · intro w'
        go_simp
        with_reducible rfl
      rotate_left
      · simp only [Act.put, List.setIfInBounds_toArray, List.set_cons_zero, List.set_cons_succ, i64_w, i32_w]
        rfl
      refine pure_ (i := 8) (N := some 65) (v := ?_) (a' := ?_) #[true, true, true, true, true, true, true, true, true, false, false, false, false, false, false, false, false, false, false, false, false, false, false] rfl rfl (by kernel_rfl) (fun _ _ _ h => h) (Or.inl ⟨by rfl, ?_⟩) ?_ ?_
      rotate_left
      · intro w'
        go_simp
        with_reducible rfl
      rotate_left
      · simp only [Act.put, List.setIfInBounds_toArray, List.set_cons_zero, List.set_cons_succ, i64_w, i32_w]
        rfl
      refine pure_ (i := 9) (N := some 66) (v := ?_) (a' := ?_) #[true, true, true, true, true, true, true, true, true, true, false, false, false, false, false, false, false, false, false, false, false, false, false] rfl rfl (by kernel_rfl) (fun _ _ _ h => h) (Or.inl ⟨by rfl, ?_⟩) ?_ ?_
      rotate_left
      · intro w'
        go_simp
        with_reducible rfl
      rotate_left
      · simp only [Act.put, List.setIfInBounds_toArray, List.set_cons_zero, List.set_cons_succ, i64_w, i32_w]
        rfl
      refine pure_ (i := 10) (N := some 67) (v := ?_) (a' := ?_) #[true, true, true, true, true, true, true, true, true, true, true, false, false, false, false, false, false, false, false, false, false, false, false] rfl rfl (by kernel_rfl) (fun _ _ _ h => h) (Or.inl ⟨by rfl, ?_⟩) ?_ ?_
      rotate_left
      · intro w'
        go_simp
        with_reducible rfl
      rotate_left
      · simp only [Act.put, List.setIfInBounds_toArray, List.set_cons_zero, List.set_cons_succ, i64_w, i32_w]
        rfl
      refine take_ (i := 12) (N := some 69) (v := ?_) (a' := ?_) #[true, true, true, true, true, true, true, true, true, true, true, false, true, false, false, false, false, false, false, false, false, false, false] rfl rfl (by kernel_rfl) (fun _ _ _ h => h) (Or.inl ⟨by rfl, ?_⟩) hHeld ?_ ?_
      rotate_left
      · rintro w' ⟨s0, s1, s2, s3, s4, s5, s6⟩
        go_simp
        with_reducible rfl
      rotate_left
      · simp only [Act.put, List.setIfInBounds_toArray, List.set_cons_zero, List.set_cons_succ, i64_w, i32_w]
        rfl
      refine one_ (i := 11) (N := some 68) #[true, true, true, true, true, true, true, true, true, true, true, true, true, false, false, false, false, false, false, false, false, false, false] rfl rfl (by kernel_rfl) (by decide) (fun K hK => ?_)
      refine goes_ Tryd.func12 (by kernel_rfl) rfl #[.pointer (some ⟨b, 0, none⟩)] (by rfl) rfl rfl (by simp only [List.map_toArray, List.map_cons, List.map_nil]; rfl) ?_
      with_reducible refine (CH.out wA HBA).mono ?_
      rintro e wB ⟨rfl, hwB⟩
      refine ⟨_, rfl, ?_⟩
      subst hwB
      refine hK.out _ _ ⟨(HBA.cell (cell_lt hf0)).trans hf0, (HBA.cell (cell_lt hf1)).trans hf1, (HBA.cell (cell_lt hf2)).trans hf2, (HBA.cell (cell_lt hf3)).trans hf3, (HBA.cell (cell_lt hf4)).trans hf4, (HBA.cell (cell_lt hf5)).trans hf5, (HBA.cell (cell_lt hf6)).trans hf6⟩ (fun hHeld => ?_)
      clear hK K
      refine norm_ (a' := ?_) ?_ ?_
      rotate_left
      · show Act.put _ (some 68) _ = _
        simp only [Act.put, List.setIfInBounds_toArray, List.set_cons_zero, List.set_cons_succ, i64_w, i32_w]
        rfl
      refine one_ (i := 13) (N := some 70) #[true, true, true, true, true, true, true, true, true, true, true, true, true, true, false, false, false, false, false, false, false, false, false] rfl rfl (by kernel_rfl) (by decide) (fun K hK => ?_)
      refine goes_ Tryd.func18 (by kernel_rfl) rfl #[.agg #[.int .i64 S2.most, .int .i64 (S2.header : Int), .slice Al2 S2.line.length cl2, .int .i64 S2.said, .bool S2.whole, .slice Ab2 S2.body.length cb2, .bool S2.dead]] (by rfl) rfl rfl (by simp only [List.map_toArray, List.map_cons, List.map_nil]; rfl) ?_
      with_reducible refine (rheld_calls S2 Al2 cl2 Ab2 cb2 wB N HN2.out.1 HN2.out.2).mono ?_
      rintro e wC ⟨rfl, hBC⟩
      refine ⟨_, rfl, ?_⟩
      have HBC := below_step HBA hBC
      refine hK.out _ _ ⟨(HBC.cell (cell_lt hf0)).trans hf0, (HBC.cell (cell_lt hf1)).trans hf1, (HBC.cell (cell_lt hf2)).trans hf2, (HBC.cell (cell_lt hf3)).trans hf3, (HBC.cell (cell_lt hf4)).trans hf4, (HBC.cell (cell_lt hf5)).trans hf5, (HBC.cell (cell_lt hf6)).trans hf6⟩ (fun hHeld => ?_)
      clear hK K
      refine norm_ (a' := ?_) ?_ ?_
      rotate_left
      · show Act.put _ (some 70) _ = _
        simp only [Act.put, List.setIfInBounds_toArray, List.set_cons_zero, List.set_cons_succ, i64_w, i32_w]
        rfl
      refine pure_ (i := 14) (N := some 71) (v := ?_) (a' := ?_) #[true, true, true, true, true, true, true, true, true, true, true, true, true, true, true, false, false, false, false, false, false, false, false] rfl rfl (by kernel_rfl) (fun _ _ _ h => h) (Or.inl ⟨by rfl, ?_⟩) ?_ ?_
      rotate_left
      · intro w'
        go_simp
        with_reducible rfl
      rotate_left
      · simp only [Act.put, List.setIfInBounds_toArray, List.set_cons_zero, List.set_cons_succ, i64_w, i32_w]
        rfl
      refine pure_ (i := 15) (N := some 72) (v := ?_) (a' := ?_) #[true, true, true, true, true, true, true, true, true, true, true, true, true, true, true, true, false, false, false, false, false, false, false] rfl rfl (by kernel_rfl) (fun _ _ _ h => h) (Or.inl ⟨by rfl, ?_⟩) ?_ ?_
      rotate_left
      · intro w'
        go_simp
        with_reducible rfl
      rotate_left
      · simp only [Act.put, List.setIfInBounds_toArray, List.set_cons_zero, List.set_cons_succ, i64_w, i32_w]
        rfl
      refine pure_ (i := 16) (N := some 73) (v := ?_) (a' := ?_) #[true, true, true, true, true, true, true, true, true, true, true, true, true, true, true, true, true, false, false, false, false, false, false] rfl rfl (by kernel_rfl) (fun _ _ _ h => h) (Or.inl ⟨by rfl, ?_⟩) ?_ ?_
      rotate_left
      · intro w'
        go_simp
        with_reducible rfl
      rotate_left
      · simp only [Act.put, List.setIfInBounds_toArray, List.set_cons_zero, List.set_cons_succ, i64_w, i32_w]
        rfl
      refine pure_ (i := 17) (N := some 74) (v := ?_) (a' := ?_) #[true, true, true, true, true, true, true, true, true, true, true, true, true, true, true, true, true, true, false, false, false, false, false] rfl rfl (by kernel_rfl) (fun _ _ _ h => h) (Or.inl ⟨by rfl, ?_⟩) ?_ ?_
      rotate_left
      · intro w'
        go_simp
        with_reducible rfl
      rotate_left
      · simp only [Act.put, List.setIfInBounds_toArray, List.set_cons_zero, List.set_cons_succ, i64_w, i32_w]
        rfl
      refine take_ (i := 19) (N := some 76) (v := ?_) (a' := ?_) #[true, true, true, true, true, true, true, true, true, true, true, true, true, true, true, true, true, true, false, true, false, false, false] rfl rfl (by kernel_rfl) (fun _ _ _ h => h) (Or.inl ⟨by rfl, ?_⟩) hHeld ?_ ?_
      rotate_left
      · rintro w' ⟨s0, s1, s2, s3, s4, s5, s6⟩
        go_simp
        with_reducible rfl
      rotate_left
      · simp only [Act.put, List.setIfInBounds_toArray, List.set_cons_zero, List.set_cons_succ, i64_w, i32_w]
        rfl
      refine one_ (i := 18) (N := some 75) #[true, true, true, true, true, true, true, true, true, true, true, true, true, true, true, true, true, true, true, true, false, false, false] rfl rfl (by kernel_rfl) (by decide) (fun K hK => ?_)
      refine goes_ Tryd.func13 (by kernel_rfl) rfl #[.pointer (some ⟨b, 0, none⟩)] (by rfl) rfl rfl (by simp only [List.map_toArray, List.map_cons, List.map_nil]; rfl) ?_
      with_reducible refine (CD.out wC HBC).mono ?_
      rintro e wD ⟨rfl, hwD⟩
      refine ⟨_, rfl, ?_⟩
      subst hwD
      refine hK.out _ _ ⟨(HBC.cell (cell_lt hf0)).trans hf0, (HBC.cell (cell_lt hf1)).trans hf1, (HBC.cell (cell_lt hf2)).trans hf2, (HBC.cell (cell_lt hf3)).trans hf3, (HBC.cell (cell_lt hf4)).trans hf4, (HBC.cell (cell_lt hf5)).trans hf5, (HBC.cell (cell_lt hf6)).trans hf6⟩ (fun hHeld => ?_)
      clear hK K
      refine norm_ (a' := ?_) ?_ ?_
      rotate_left
      · show Act.put _ (some 75) _ = _
        simp only [Act.put, List.setIfInBounds_toArray, List.set_cons_zero, List.set_cons_succ, i64_w, i32_w]
        rfl
      refine one_ (i := 20) (N := some 77) #[true, true, true, true, true, true, true, true, true, true, true, true, true, true, true, true, true, true, true, true, true, false, false] rfl rfl (by kernel_rfl) (by decide) (fun K hK => ?_)
      refine goes_ Tryd.func21 (by kernel_rfl) rfl #[.agg #[.int .i64 S2.most, .int .i64 (S2.header : Int), .slice Al2 S2.line.length cl2, .int .i64 S2.said, .bool S2.whole, .slice Ab2 S2.body.length cb2, .bool S2.dead]] (by rfl) rfl rfl (by simp only [List.map_toArray, List.map_cons, List.map_nil]; rfl) ?_
      with_reducible refine (CR.out wD).mono ?_
      rintro e wE ⟨rfl, hBE⟩
      refine ⟨_, rfl, ?_⟩
      have HBE := below_step HBC hBE
      refine hK.out _ _ ⟨(HBE.cell (cell_lt hf0)).trans hf0, (HBE.cell (cell_lt hf1)).trans hf1, (HBE.cell (cell_lt hf2)).trans hf2, (HBE.cell (cell_lt hf3)).trans hf3, (HBE.cell (cell_lt hf4)).trans hf4, (HBE.cell (cell_lt hf5)).trans hf5, (HBE.cell (cell_lt hf6)).trans hf6⟩ (fun hHeld => ?_)
      clear hK K
      refine norm_ (a' := ?_) ?_ ?_
      rotate_left
      · show Act.put _ (some 77) _ = _
        simp only [Act.put, List.setIfInBounds_toArray, List.set_cons_zero, List.set_cons_succ, i64_w, i32_w]
        rfl
      refine pure_ (i := 21) (N := some 78) (v := ?_) (a' := ?_) #[true, true, true, true, true, true, true, true, true, true, true, true, true, true, true, true, true, true, true, true, true, true, false] rfl rfl (by kernel_rfl) (fun _ _ _ h => h) (Or.inl ⟨by rfl, ?_⟩) ?_ ?_
      rotate_left
      · intro w'
        go_simp
        with_reducible rfl
      rotate_left
      · simp only [Act.put, List.setIfInBounds_toArray, List.set_cons_zero, List.set_cons_succ, i64_w, i32_w]
        rfl
      refine pure_ (i := 22) (N := some 79) (v := ?_) (a' := ?_) #[true, true, true, true, true, true, true, true, true, true, true, true, true, true, true, true, true, true, true, true, true, true, true] rfl rfl (by kernel_rfl) (fun _ _ _ h => h) (Or.inl ⟨by rfl, ?_⟩) ?_ ?_
      rotate_left
      · intro w'
        go_simp
        with_reducible rfl
      rotate_left
      · simp only [Act.put, List.setIfInBounds_toArray, List.set_cons_zero, List.set_cons_succ, i64_w, i32_w]
        rfl
      refine done_ (by kernel_rfl) ?_
      have HK14 := Aside0.mk (blk_below HK13.out HBE)
      have HS14 := Aside0.mk (HS13.out.below HBE)
      have HRD14 := Aside0.mk (HRD13.out.below HBE)
      have HB14 := Aside0.mk (below_step HB13.out HBE)
      have HSP14 := Aside0.mk (And.intro (HSP7.out.1.org HVL7.out (HO13.out.1.grow HBE.size)) (HSP7.out.2.org HVL7.out (HO13.out.2.grow HBE.size)))
      have HLW14 := Aside0.mk (And.intro (HLW7.out.1.org (HO13.out.1.grow HBE.size) (Nat.le_trans HSZ13.out HBE.size)) (HLW7.out.2.org (HO13.out.2.grow HBE.size) (Nat.le_trans HSZ13.out HBE.size)))
      have HLI14 := Aside0.mk (show LI S2 (flatN L (i + 1)) by rw [HFS.out]; have := HLI.out.feed p HP.out.2; rw [HRF.out] at this; exact this)
      clear hHeld HBA HBC HBE hBA hBC hBE
      go_wp2
      go_roundg gk
      case measure => have := HI.out; omega
      case rel => exact ⟨i + 1, S2, v', held', Al2, cl2, Ab2, cb2, by rw [hw1], HS14, HK14, HRD14, HRS7, HLI14, HB14, ⟨by have := HI.out; omega⟩, HSP14, HLW14⟩
    · have hb1 : decide ((i : Int) < (L.length : Int)) = false := decide_eq_false (by omega)
      go_wp2
      go_ret
      exact ⟨by first | rfl | simp, HB.out⟩
theorem frameFeeds_calls (n : Int) (A : Option Addr) (c : Nat) (L : List (List Int)) (w : World) (hC : Kd.C (Kd.slice 5 (Kd.int .u8)) w A L.length L) (hb : ∀ x ∈ L, Bytes x) (hl : L.length + L.flatten.length ≤ 1048576) :
    Calls Tryd.prog 6 #[.int .i64 n, .slice A L.length c] w fun e w' => e = .returned (.bool true) ∧ Below w.heap.size w w' := by
  by_cases h : n < 0 ∨ 16777216 < n
  · exact frameFeeds_bad n A c L w h hC hb hl
  · exact frameFeeds_ok n A c L w (by omega) hC hb hl
end Go.Proofs.YtgdiilpocoimgaaDoor.Hand
