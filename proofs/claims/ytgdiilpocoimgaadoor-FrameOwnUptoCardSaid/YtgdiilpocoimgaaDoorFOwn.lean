/- The law FrameOwn: its walk. -/
import Derived.Test.YtgdiilpocoimgaaDoorFOwn1
set_option linter.unusedVariables false
set_option linter.unusedSimpArgs false
namespace Go.Proofs.YtgdiilpocoimgaaDoor.Hand
open Go.RowKit Go.Proofs.YtgdiilpocoimgaaDoor.Frm Go.Proofs.YtgdiilpocoimgaaDoorW.PrintWords Go.Proofs.YtgdiilpocoimgaaDoorW.PrintLast Go.Proofs.YtgdiilpocoimgaaDoorW.PrintMore
set_option maxHeartbeats 4000000 in
set_option maxRecDepth 100000 in
theorem frameOwn_bad (n : Int) (A : Option Addr) (c : Nat) (L : List (List Int)) (w : World) (hn : n < 0 ∨ 16777216 < n) (hC : Kd.C (Kd.slice 5 (Kd.int .u8)) w A L.length L) (hb : ∀ x ∈ L, Bytes x) (hl : L.length + L.flatten.length ≤ 1048576) :
    Calls Tryd.prog 4 #[.int .i64 n, .slice A L.length c] w fun e w' => e = .returned (.bool true) ∧ Below w.heap.size w w' := by
  have HC := Aside0.mk hC
  have HL := Aside0.mk hl
  have HN := Aside0.mk hn
  have HBY := Aside0.mk hb
  have hu32 := Tryd.underlying32
  clear hC hl hn hb
  go_enter Tryd.func4, Tryd.ntmps4
  go_wp2_with (fail)
  refine (wakes_calls _).mono ?_
  rintro e w2 ⟨rfl, hB2⟩
  have HB2 := Aside0.mk hB2
  clear hB2
  go_wp2_with (fail)
  refine (begin_bad n w2 HN.out).mono ?_
  rintro e w3 ⟨A1, c1, A2, c2, rfl, hsr, hB3⟩
  have HB3 := Aside0.mk (below_step HB2.out hB3)
  clear hsr hB3
  go_wp2_with (first | ((with_reducible refine gate_dst (N := 6) rfl ?_); refine box_event ?hg (N := 6) ?hd (cs := #[.int .i64 0, .int .i64 0, .slice none 0 0, .int .i64 0, .bool false, .slice none 0 0, .bool false]) (t := 32) ?hr ?_; (case hd => rfl); (case hg => rfl); (case hr => first | (go_simp; done) | (go_simp; rfl)); intro g6 hg6 w4 hb6 hB6; have HG6 := Aside0.mk (Nat.le_of_eq hg6.symm); have HK6 := Aside0.mk hb6; have HB4 := Aside0.mk (below_step HB3.out hB6); clear hg6 hb6 hB6) | ((with_reducible refine gate_ (.store 32 (.tmp 6) (.tmp 32)) rfl ?_); refine st_store rfl rfl 32 (.tmp 6) (.tmp 32) rfl (g := g6) (j := 0) (cur' := #[.int .i64 0, .int .i64 0, .slice A1 0 c1, .int .i64 0, .bool false, .slice A2 0 c2, .bool false]) [.int .i64 0, .int .i64 0, .slice A1 0 c1, .int .i64 0, .bool false, .slice A2 0 c2, .bool false] (.agg #[.int .i64 0, .int .i64 0, .slice A1 0 c1, .int .i64 0, .bool false, .slice A2 0 c2, .bool false]) rfl rfl rfl sizeRef (by simp [Value.oneCell']) HK6.out (by simp) rfl ?_))
  intro w5 k5 o5
  have HB5 := Aside0.mk (o5.below HB4.out (by have := HG6.out; have := HB3.out.size; omega))
  clear k5 o5
  go_wp2
  go_ret
  exact ⟨by first | rfl | simp, HB5.out⟩
set_option maxHeartbeats 16000000 in
set_option maxRecDepth 100000 in
theorem frameOwn_ok (n : Int) (A : Option Addr) (c : Nat) (L : List (List Int)) (w : World) (hn : 0 ≤ n ∧ n ≤ 16777216) (hC : Kd.C (Kd.slice 5 (Kd.int .u8)) w A L.length L) (hb : ∀ x ∈ L, Bytes x) (hl : L.length + L.flatten.length ≤ 1048576) :
    Calls Tryd.prog 4 #[.int .i64 n, .slice A L.length c] w fun e w' => e = .returned (.bool true) ∧ Below w.heap.size w w' := by
  have HC := Aside0.mk hC
  have HL := Aside0.mk hl
  have HN := Aside0.mk hn
  have HBY := Aside0.mk hb
  have hu32 := Tryd.underlying32
  clear hC hl hn hb
  go_enter Tryd.func4, Tryd.ntmps4
  go_wp2_with (fail)
  refine (wakes_calls _).mono ?_
  rintro e w2 ⟨rfl, hB2⟩
  have HB2 := Aside0.mk hB2
  clear hB2
  go_wp2_with (fail)
  refine (begin_calls n w2 HN.out.1 HN.out.2).mono ?_
  rintro e w3 ⟨b, A1, c1, A2, c2, rfl, hsr, hbl, hbk, hlt1, hlt2, hB3⟩
  have HB3 := Aside0.mk (below_step HB2.out hB3)
  have HSR := Aside0.mk hsr
  have HBL := Aside0.mk (And.intro hbl (blk_lt hbk))
  have HBK := Aside0.mk hbk
  have HLT3 := Aside0.mk (And.intro hlt1 hlt2)
  clear hsr hbl hbk hlt1 hlt2 hB3
  go_wp2_with (first | ((with_reducible refine gate_dst (N := 6) rfl ?_); refine box_event ?hg (N := 6) ?hd (cs := #[.int .i64 0, .int .i64 0, .slice none 0 0, .int .i64 0, .bool false, .slice none 0 0, .bool false]) (t := 32) ?hr ?_; (case hd => rfl); (case hg => rfl); (case hr => first | (go_simp; done) | (go_simp; rfl)); intro g6 hg6 w4 hb6 hB6; have HG6 := Aside0.mk (show w3.heap.size ≤ g6 by omega); have HK6 := Aside0.mk hb6; have HB4 := Aside0.mk (below_step HB3.out hB6); have HSR4 := Aside0.mk (HSR.out.below hB6); have HBK4 := Aside0.mk (blk_below HBK.out hB6); have HSZ4 := Aside0.mk hB6.size; clear hg6 hb6 hB6) | ((with_reducible refine gate_ (.store 32 (.tmp 6) (.tmp 32)) rfl ?_); refine st_store rfl rfl 32 (.tmp 6) (.tmp 32) rfl (g := g6) (j := 0) (cur' := #[.int .i64 n, .int .i64 0, .slice A1 0 c1, .int .i64 (-1), .bool false, .slice A2 0 c2, .bool false]) [.int .i64 n, .int .i64 0, .slice A1 0 c1, .int .i64 (-1), .bool false, .slice A2 0 c2, .bool false] (.agg #[.int .i64 n, .int .i64 0, .slice A1 0 c1, .int .i64 (-1), .bool false, .slice A2 0 c2, .bool false]) rfl rfl rfl sizeRef (by simp [Value.oneCell']) HK6.out (by simp) rfl ?_))
  intro w5 k5 o5
  have HB5 := Aside0.mk (o5.below HB4.out (by have := HG6.out; have := HB3.out.size; omega))
  have HK65 := Aside0.mk k5
  have HSR5 := Aside0.mk (HSR4.out.only o5 HK6.out (noU8_seg rfl rfl))
  have HBK5 := Aside0.mk ((o5.block b (by have := HG6.out; have := HBL.out; omega)).trans HBK4.out)
  have HWB := Aside0.mk (show w.heap.size ≤ b ∧ b ≠ g6 ∧ w.heap.size ≤ g6 by have := HG6.out; have := HBL.out; have := HB2.out.size; have := HB3.out.size; omega)
  have HLT1 := Aside0.mk (show LtW (.slice A1 0 c1) w5 ∧ LtW (.slice A2 0 c2) w5 from ⟨fun k hk => by have := HLT3.out.1 k hk; have := HSZ4.out; rw [o5.size]; omega, fun k hk => by have := HLT3.out.2 k hk; have := HSZ4.out; rw [o5.size]; omega⟩)
  clear k5 o5 HB4 HK6 HSR4 HBK4 HSR HBK HSZ4 HLT3
  go_wp2_with (fail)
  refine (long_calls A c L w5 (Kd.C_below HC.out HB5.out) HL.out).mono ?_
  rintro e w6 ⟨rfl, hB6⟩
  have HB6 := Aside0.mk (below_step HB5.out hB6)
  have HLT6 := Aside0.mk (And.intro (HLT1.out.1.mono hB6.size) (HLT1.out.2.mono hB6.size))
  have HSR6 := Aside0.mk (HSR5.out.below hB6)
  have HBK6 := Aside0.mk (blk_below HBK5.out hB6)
  have HK66 := Aside0.mk (blk_below HK65.out hB6)
  clear hB6 HB5 HLT1 HSR5 HBK5 HK65 HB2 HB3
  by_cases hlong : 20000 < L.flatten.length
  · rw [decide_eq_true hlong]
    go_wp2
    go_ret
    exact ⟨by first | rfl | simp, HB6.out⟩
  rw [decide_eq_false hlong]
  have HLG := Aside0.mk hlong
  have HBG := Aside0.mk (show b < w6.heap.size ∧ g6 < w6.heap.size ∧ w.heap.size ≤ w6.heap.size from ⟨blk_lt HBK6.out, blk_lt HK66.out, HB6.out.size⟩)
  clear hlong
  go_wp2_with (fail)
  go_loopg [9, 10, 11] (L.length + 1) (fun g v9 v10 v11 wx => ∃ (i : Nat) (S : St) (v : Value) (held : List Int) (Al : Option Addr) (cl : Nat) (Ab : Option Addr) (cb : Nat) (X : List (List Int)), v11 = .int .i64 (i : Int) ∧ Aside0 (OS w w6 b n wx.heap.size S v held v9 v10 (.slice Al S.line.length cl) (.slice Ab S.body.length cb) X X wx) ∧ Aside0 (SR wx S (.slice Al S.line.length cl) (.slice Ab S.body.length cb)) ∧ Aside0 (wx.heap[g6]? = some (.cells #[.int .i64 S.most, .int .i64 (S.header : Int), .slice Al S.line.length cl, .int .i64 S.said, .bool S.whole, .slice Ab S.body.length cb, .bool S.dead] 32 (0, 0))) ∧
      Aside0 (LI S (flatN L i)) ∧ Aside0 (i ≤ L.length ∧ L.length < i + g) ∧ Aside0 (LtW (.slice Al S.line.length cl) wx ∧ LtW (.slice Ab S.body.length cb) wx) ∧ Aside0 (X.length ≤ flatN L i ∧ ∀ x ∈ X, x.length ≤ 1048576))
  case atStart => exact ⟨0, st0 n, .slice none 0 0, [], A1, c1, A2, c2, [], rfl, ⟨OS.start ⟨HBK6.out, Kd.R_nil _ _ _ _ _⟩ (RS.start HN.out.1) HB6.out (fun k hk => (by cases hk)) (fun k hk => (by cases hk))⟩, HSR6, HK66, ⟨LI.start _ _⟩, ⟨by omega⟩, HLT6, ⟨by simp, fun x hx => by cases hx⟩⟩
  case round =>
    clear HSR6 HK66 HBK6 HLT6
    obtain ⟨i, S, v, held, Al, cl, Ab, cb, X, rfl, HOS, HS, HK, HLI, HI, HLW, HX⟩ := hrel
    by_cases hlt : i < L.length
    · have hb1 : decide ((i : Int) < (L.length : Int)) = true := decide_eq_true (by omega)
      obtain ⟨ko, rfl⟩ : ∃ g', gk = g' + 1 := ⟨gk - 1, by have := HI.out; omega⟩
      obtain ⟨wo, hwo⟩ : ∃ wo, wo = wr := ⟨_, rfl⟩
      subst hwo
      have HVO := Aside0.mk (show ∀ k, v.ownBlock = some k → k < wo.heap.size from Kd.R_lt HOS.out.rd.row)
      have HLWo := HLW
      have HWO := Aside0.mk (show w6.heap.size ≤ wo.heap.size from HOS.out.size)
      have hw1 : wrap64 ((i : Int) + 1) = ((i + 1 : Nat) : Int) := by have := HL.out; rw [wr64 (by omega) (by omega)]; push_cast; rfl
      have hpl := piece_le L i hlt
      have hpb := piece_bytes HBY.out i hlt
      have hfs : flatN L (i + 1) = flatN L i + (rd_L1 L (i : Int)).length := by unfold flatN; rw [flat_step L i hlt, List.length_append]
      have p0 : 0 ≤ (i : Int) := by omega
      have q0 : (i : Int) < (L.length : Int) := by omega
      obtain ⟨ad0, B0, d0, rfl, hx0, hl0, hi0⟩ := at_L1 HC.out (i : Int) p0 q0
      have hx1 : wo.cell? (ad0.add i) = some (.slice B0 (rd_L1 L (i : Int)).length d0) := (HOS.out.bel.cell (cell_lt hx0)).trans hx0
      have hxw : w.cell? (ad0.add i) = some (.slice B0 (rd_L1 L (i : Int)).length d0) := hx0
      obtain ⟨p, hp⟩ : ∃ p, rd_L1 L (i : Int) = p := ⟨_, rfl⟩
      rw [hp] at hx1 hxw hi0 hpl hpb hfs
      have HXW := Aside0.mk hxw
      have HIW := Aside0.mk hi0
      have HI0 := Aside0.mk (Kd.C_below hi0 HOS.out.bel)
      have HP := Aside0.mk (And.intro hpl hpb)
      have HFS := Aside0.mk hfs
      have HFT := Aside0.mk (show flatN L (i + 1) ≤ 1048576 by have := HL.out; rw [hfs]; unfold flatN at *; omega)
      have hcnt2 := rfeed_count S p
      obtain ⟨⟨S2, ms, ev⟩, hrf⟩ : ∃ t, rfeed S p = t := ⟨_, rfl⟩
      rw [hrf] at hcnt2
      have HRF := Aside0.mk hrf
      have HML := Aside0.mk (show ms.length ≤ p.length from hcnt2)
      have hx2 : (wo.alloc (.cells #[] 5)).cell? (ad0.add i) = some (.slice B0 p.length d0) := ((below_alloc (Below.refl wo.heap.size wo) (.cells #[] 5)).cell (cell_lt hx1)).trans hx1
      replace p0 := eq_true p0
      replace q0 := eq_true q0
      clear hx0 hx1 hi0 hl0 hp hpl hpb hfs hcnt2 hrf hxw
      go_wp2_with (at_builtin; refine Kd.R_append_rows (Kd.int .u8) (w0 := wo) wo.heap.size rfl (.tmp 46) (.tmp 50) 22 5 (.int .u8 0) 1 rfl Tryd.underlying22 info5 rfl (by decide) (by omega) _ [] p _ _ _ (fun _ => True) (fun _ => False) rfl rfl (empty_R _ wo (Nat.le_refl _)) (Kd.C_alloc HI0.out _) (fun _ _ h => h) (fun _ h => h.elim) (fun _ _ => trivial) (below_alloc (Below.refl _ _) _) (by simp) (by have := HP.out; have := HL.out; simp only [List.length_nil]; omega) ?_)
      intro v51 wa hra hBa _ _
      have HRA := Aside0.mk (show Kd.R (Kd.int .u8) 5 wa wo.heap.size (fun _ => True) v51 p from hra)
      have HBA := Aside0.mk hBa
      clear hra hBa hx2
      go_wp2_with (at_builtin; refine Kd.R_append_rows (Kd.int .u8) (w0 := wo) wo.heap.size rfl (.tmp 51) (.tmp 52) 22 5 (.int .u8 0) 1 rfl Tryd.underlying22 info5 rfl (by decide) (by omega) v51 p [65, 66] (some ⟨wa.heap.size, 0, none⟩) 2 2 (fun _ => True) (fun _ => False) rfl rfl (Kd.R_alloc HRA.out _) (C_of_cells _ _ _ _ _ [65, 66] (heap_alloc_new wa _) rfl (by decide)) (fun _ _ h => h) (fun _ h => h.elim) (fun _ _ => trivial) (below_alloc HBA.out _) (by have := HBA.out.size; have := (below_alloc (Below.refl wa.heap.size wa) (.cells #[.int .u8 65, .int .u8 66] 5)).size; omega) (by have := HP.out; have := HL.out; omega) ?_)
      intro v53 wb hrb hBb _ _
      obtain ⟨F, hF⟩ : ∃ F, p ++ [65, 66] = F := ⟨_, rfl⟩
      have hrb' : Kd.R (Kd.int .u8) 5 wb wo.heap.size (fun _ => True) v53 F := by rw [← hF]; exact hrb
      have HFL := Aside0.mk (show F.length = p.length + 2 ∧ F.take p.length = p by rw [← hF]; simp)
      have hSE : strOfNums p ++ (⟨#[65, 66]⟩ : ByteArray) = strOfNums F := by rw [← hF, str_AB]
      obtain ⟨gf, cf, rfl, hgf1, hgf2, _⟩ := Kd.R_form hrb' (by have := HFL.out; omega)
      have HGF := Aside0.mk (And.intro hgf1 hgf2)
      have HRB := Aside0.mk hrb'
      have HOSb := Aside0.mk (HOS.out.below hBb)
      have HSb := Aside0.mk (HS.out.below hBb)
      have HKb := Aside0.mk (blk_below HK.out hBb)
      have HSZb := Aside0.mk hBb.size
      have HLWb := Aside0.mk (And.intro (HLW.out.1.mono hBb.size) (HLW.out.2.mono hBb.size))
      have hcb := Kd.R_reads' hrb'
      obtain ⟨i0, hi0, _, hsz0, _⟩ := info_parts info5
      have hcut := (print_take_int (P := Tryd.prog) (k := .u8) 22 5 Tryd.underlying22 hi0 hsz0 (some ⟨gf, 0, none⟩) cf F (p.length : Int) (by omega) (by have := HFL.out; omega) hcb.2.1).1
      rw [Int.toNat_natCast, HFL.out.2] at hcut
      have HCF := Aside0.mk (show Kd.C (Kd.int .u8) wb (some ⟨gf, 0, none⟩) p.length p by have h := Kd.C_take hcb.2.2 (show p.length ≤ F.length by have := HFL.out; omega); rw [HFL.out.2] at h; exact h)
      have HBb := Aside0.mk (below_step HOS.out.bel hBb)
      have hx3 : wb.cell? (ad0.add i) = some (.slice B0 p.length d0) := (HBb.out.cell (cell_lt HXW.out)).trans HXW.out
      have HSE := Aside0.mk hSE
      clear hrb hBb hrb' hF hcb hi0 hsz0 hSE HRA HBA HOS HS HK HLW HI0 hgf1 hgf2
      go_wp2_with (fail)
      refine (feedS_callsS w wb b n v held S (some ⟨gf, 0, none⟩) cf p HOSb.out.rd HOSb.out.rs HBb.out HWB.out.1 HN.out.1 HN.out.2 HCF.out HP.out.2 (by have := HP.out; have := HL.out; omega)).mono ?_
      rintro e w7 ⟨v', vo, held', rfl, hrs, hrd, hro, hB7, how, hap, hsz⟩
      rw [HRF.out] at hrs hrd hro ⊢
      simp only at hrs hrd hro ⊢
      obtain ⟨Av, cv, hvq⟩ := Kd.R_slice HOSb.out.rd.row
      have hnu : NoU8 #[.int .i64 n, v, .bool S.dead] := noU8_rd (fun x e => by rw [hvq] at e; cases e)
      have HS7 := Aside0.mk (HSb.out.apart hap HOSb.out.rd.cell hnu HOSb.out.s1 HOSb.out.s2)
      have HK7 := Aside0.mk ((hap g6 (blk_lt HKb.out) (fun e => HWB.out.2.1 e.symm) (Kd.R_ne HOSb.out.rd.row HKb.out (by decide))).trans HKb.out)
      have HVN := Aside0.mk (show ∀ k, v.ownBlock = some k → k < wo.heap.size from HVO.out)
      have HVF := Aside0.mk (show some gf ≠ v'.ownBlock from fun e => by
        rcases how with e' | e' | ⟨g', e', hge⟩
        · have := HVN.out gf (e'.symm.trans e.symm); have := HGF.out; omega
        · rw [e'] at e; cases e
        · rw [e'] at e; injection e with e; have := HGF.out; omega)
      have HOS7 := Aside0.mk (HOSb.out.feed HBG.out.1 HLWb.out.1 HLWb.out.2 hrs hrd hB7 how hap hsz)
      have HRF7 := Aside0.mk (Kd.R_mono (Kd.R_step (Kd.R_tight rfl HRB.out) (fun k hk hlt => hap k hlt (by simp [Value.ownBlock] at hk; have := HGF.out; have := HBG.out; have := HWO.out; omega) (by simp [Value.ownBlock] at hk; subst hk; exact fun e => by have := HVN.out _ e.symm; have := HGF.out; omega))) (fun k _ => trivial : ∀ k, _ → (fun _ : Nat => True) k))
      have HLW7 := Aside0.mk (And.intro (HLWb.out.1.mono hsz) (HLWb.out.2.mono hsz))
      have HVL7 := Aside0.mk (show LtW v' w7 from Kd.R_lt hrd.row)
      have HRO7 := Aside0.mk hro
      have HSZ7 := Aside0.mk (show wb.heap.size ≤ w7.heap.size from hsz)
      have HB7 := Aside0.mk hB7
      obtain ⟨Ao, co, rfl⟩ := Kd.R_slice (Kd.S_R hro)
      clear hrs hrd hro hB7 how hap hsz hvq hnu HSb HKb HLWb HCF hcut hx3 HOSb HRB
      have hx7 : w7.cell? (ad0.add i) = some (.slice B0 p.length d0) := (HB7.out.cell (cell_lt HXW.out)).trans HXW.out
      have keepF : ∀ wx, Below w7.heap.size w7 wx → wx.cell? (ad0.add i) = some (.slice B0 p.length d0) ∧ (convert 22 9 (.slice (some ⟨gf, 0, none⟩) F.length cf)).run Tryd.prog wx = .ok (.string (strOfNums F)) wx ∧
          (convert 22 9 (.slice B0 p.length d0)).run Tryd.prog wx = .ok (.string (strOfNums p)) wx ∧ Aside0 (Below w7.heap.size w7 wx) := fun wx hB =>
        ⟨(hB.cell (cell_lt hx7)).trans hx7, Kd.C_string (P := Tryd.prog) (A := some ⟨gf, 0, none⟩) (c := cf) Tryd.underlying22 Tryd.underlying5 Tryd.underlying9 (Kd.C_below (Kd.R_reads' HRF7.out).2.2 hB), Kd.C_string (P := Tryd.prog) (A := B0) (c := d0) Tryd.underlying22 Tryd.underlying5 Tryd.underlying9 (Kd.C_below HIW.out (below_step HB7.out hB)), ⟨hB⟩⟩
      obtain ⟨k1, k2, k3, k4⟩ := keepF w7 (Below.refl _ _)
      have hadd : ∀ W, (Op.stringOp .add (strOfNums p) (⟨#[65, 66]⟩ : ByteArray)).run Tryd.prog W = .ok (.string (strOfNums F)) W := fun W => by rw [← HSE.out]; exact run_string_add (P := Tryd.prog) (w := W) _ _ (by rw [strOfNums_size]; have := HP.out.1; have := HL.out; omega) (by decide)
      go_wp2
      go_region_held (fun wx => wx.cell? (ad0.add i) = some (.slice B0 p.length d0) ∧ (convert 22 9 (.slice (some ⟨gf, 0, none⟩) F.length cf)).run Tryd.prog wx = .ok (.string (strOfNums F)) wx ∧
          (convert 22 9 (.slice B0 p.length d0)).run Tryd.prog wx = .ok (.string (strOfNums p)) wx ∧ Aside0 (Below w7.heap.size w7 wx))
        (first | exact keepF _ (by assumption) | exact keepF _ (Below.refl _ _) | exact keepF _ (below_drew1 (by first | assumption | exact Below.refl _ _))) (fail)
      rename_i hh
      have HB8 := hh.2.2.2
      clear hh keepF k1 k2 k3 k4 hx7 hadd
      have HOS8 := Aside0.mk (HOS7.out.below HB8.out)
      have HS8 := Aside0.mk (HS7.out.below HB8.out)
      have HK8 := Aside0.mk (blk_below HK7.out HB8.out)
      have HRF8 := Aside0.mk (Kd.R_below HRF7.out HB8.out)
      have HRO8 := Aside0.mk (Kd.S_below HRO7.out HB8.out)
      have HSZ8 := Aside0.mk HB8.out.size
      clear HOS7 HS7 HK7 HRF7 HRO7 HB8
      have hFL2 : ((p.length : Int) + 2) = ((F.length : Nat) : Int) := by have := HFL.out; omega
      have HLN := Aside0.mk (show LtW (.slice Al S.line.length cl) wo ∧ LtW (.slice Ab S.body.length cb) wo from HLWo.out)
      go_wp2
      go_loopg [77] (F.length + 1) (fun g v77 wx => ∃ (k : Nat) (Fk : List Int), v77 = .int .i64 (k : Int) ∧ Aside0 (Kd.R (Kd.int .u8) 5 wx wo.heap.size (fun _ => True) (.slice (some ⟨gf, 0, none⟩) F.length cf) Fk) ∧ Aside0 (OS w w6 b n wo.heap.size S2 v' held' u9 u10 (.slice Al S.line.length cl) (.slice Ab S.body.length cb) X X wx) ∧ Aside0 (SR wx S (.slice Al S.line.length cl) (.slice Ab S.body.length cb)) ∧ Aside0 (wx.heap[g6]? = some (.cells #[.int .i64 S.most, .int .i64 (S.header : Int), .slice Al S.line.length cl, .int .i64 S.said, .bool S.whole, .slice Ab S.body.length cb, .bool S.dead] 32 (0, 0))) ∧
        Aside0 (Kd.S KM 22 wx wb.heap.size (fun k => some k ≠ v'.ownBlock) (.slice Ao ms.length co) ms) ∧ Aside0 (w7.heap.size ≤ wx.heap.size) ∧ Aside0 (k ≤ F.length ∧ F.length < k + g))
      case atStart => exact ⟨0, F, rfl, HRF8, HOS8, HS8, HK8, HRO8, HSZ8, ⟨by omega⟩⟩
      case round =>
        clear HRF8 HOS8 HS8 HK8 HRO8 HSZ8
        obtain ⟨k, Fk, rfl, HRFk, HOSk, HSk, HKk, HROk, HSZk, HNk⟩ := hrel
        by_cases hlk : k < F.length
        · have hb2 : decide ((k : Int) < (F.length : Int)) = true := decide_eq_true (by omega)
          obtain ⟨kk, rfl⟩ : ∃ g', gk = g' + 1 := ⟨gk - 1, by have := HNk.out; omega⟩
          have hw2 : wrap64 ((k : Int) + 1) = ((k + 1 : Nat) : Int) := by have := HL.out; have := HFL.out; have := HP.out; rw [wr64 (by omega) (by omega)]; push_cast; rfl
          have p1 : 0 ≤ (k : Int) := by omega
          have q1 : (k : Int) < (F.length : Int) := by omega
          have ha1 : (⟨gf, 0, none⟩ : Addr).add k = ⟨gf, k, none⟩ := by rw [add_plain]
          replace p1 := eq_true p1
          replace q1 := eq_true q1
          go_wp2_with ((with_reducible refine gate_ (.store 5 (.tmp 82) (.const (.int .u8 42))) rfl ?_); refine byte_store wo.heap.size rfl rfl (.tmp 82) (.const (.int .u8 42)) rfl (i := k) Fk 42 (fun _ => True) ?hA rfl ?hI HRFk.out (Int.ofNat_lt.1 (of_eq_true q1)) ?_; (case hA => first | rfl | (go_simp; done) | (go_simp; rfl)); (case hI => kernel_rfl))
          intro wk hrk hgk
          have HRFn := Aside0.mk hrk
          have HOSn := Aside0.mk (HOSk.out.far hgk (by have := HGF.out; have := HWO.out; have := HBG.out; omega) (by have := HGF.out; have := HWO.out; have := HBG.out; omega) HBG.out.2.2 HVF.out (.inl HGF.out.1))
          have HSn := Aside0.mk (HSk.out.step (fun k' hk hlt => hgk.block k' hlt (fun e => by injection e with e; have := HLN.out.1 k' hk; have := HGF.out; omega)) (fun k' hk hlt => hgk.block k' hlt (fun e => by injection e with e; have := HLN.out.2 k' hk; have := HGF.out; omega)))
          have HKn := Aside0.mk ((hgk.block g6 (blk_lt HKk.out) (fun e => by injection e with e; have := HGF.out; have := HWO.out; have := HBG.out; omega)).trans HKk.out)
          have HROn := Aside0.mk (Kd.S_mono (Kd.S_step (Kd.S_bound HROk.out) (fun k' hk hlt => hgk.block k' hlt (fun e => by injection e with e; have := hk.2.1; have := HGF.out; omega))) (fun k' hk => hk.1))
          have HSZn := Aside0.mk (Nat.le_trans HSZk.out hgk.size)
          clear hrk hgk HRFk HOSk HSk HKk HROk HSZk
          go_wp2
          go_roundg kk
          case measure => omega
          case rel => exact ⟨k + 1, _, by rw [hw2], HRFn, HOSn, HSn, HKn, HROn, HSZn, ⟨by have := HNk.out; omega⟩⟩
        · have hb2 : decide ((k : Int) < (F.length : Int)) = false := decide_eq_false (by omega)
          obtain ⟨wq, hwq⟩ : ∃ wq, wq = wr := ⟨_, rfl⟩
          subst hwq
          clear HRFk
          have HBq := Aside0.mk HOSk.out.bel
          have hx2 : wq.cell? (ad0.add i) = some (.slice B0 p.length d0) := (HBq.out.cell (cell_lt HXW.out)).trans HXW.out
          have hcall := Aside0.mk (fun (W : World) (hW : Below wq.heap.size wq W) => show Calls Tryd.prog 16 #[.agg #[.int .i64 S.most, .int .i64 (S.header : Int), .slice Al S.line.length cl, .int .i64 S.said, .bool S.whole, .slice Ab S.body.length cb, .bool S.dead], .slice B0 p.length d0] W fun e w' => ∃ Al2 cl2 Ab2 cb2 vm, e = .returned (.tuple #[.agg #[.int .i64 S2.most, .int .i64 (S2.header : Int), .slice Al2 S2.line.length cl2, .int .i64 S2.said, .bool S2.whole, .slice Ab2 S2.body.length cb2, .bool S2.dead], vm, .int .i64 ev]) ∧ SR w' S2 (.slice Al2 S2.line.length cl2) (.slice Ab2 S2.body.length cb2) ∧ Kd.R (Kd.slice 5 (Kd.int .u8)) 22 w' W.heap.size (fun _ => True) vm ms ∧ Org W w' (.slice Al S.line.length cl) (.slice Al2 S2.line.length cl2) ∧ Org W w' (.slice Ab S.body.length cb) (.slice Ab2 S2.body.length cb2) ∧ Below W.heap.size W w' by
            refine (rfeed_calls S _ _ B0 d0 p W (flatN L i) (HSk.out.below hW) HLI.out (Kd.C_below HIW.out (below_step HBq.out hW)) HP.out.2 (by have := HP.out.1; have := HL.out; unfold flatN; omega)).mono ?_
            rintro e w' ⟨vl', vb', vm, rfl, hsr, hrm, hol, hob, hB⟩
            rw [HRF.out] at hsr hrm ⊢
            simp only at hsr hrm ⊢
            obtain ⟨A1, c1, rfl, k1⟩ := hsr.line
            obtain ⟨A2, c2, rfl, k2⟩ := hsr.body
            exact ⟨A1, c1, A2, c2, vm, rfl, hsr, hrm, hol, hob, hB⟩)
          have HLT := Aside0.mk (show g6 < wq.heap.size from blk_lt HKk.out)
          have HNW := Aside0.mk (show wo.heap.size ≤ wb.heap.size ∧ wb.heap.size ≤ w7.heap.size ∧ w7.heap.size ≤ wq.heap.size ∧ w6.heap.size ≤ wo.heap.size from ⟨HSZb.out, HSZ7.out, HSZk.out, HWO.out⟩)
          have HVQ := Aside0.mk (show LtW v' wq from HVL7.out.mono HSZk.out)
          have HLWq := Aside0.mk (show LtW (.slice Al S.line.length cl) wq ∧ LtW (.slice Ab S.body.length cb) wq from ⟨HLN.out.1.mono (by have := HNW.out; omega), HLN.out.2.mono (by have := HNW.out; omega)⟩)
          have hc0 : wq.cell? ⟨g6, 0, none⟩ = some (.int .i64 S.most) := (blk_cell HKk.out 0).trans rfl
          have hc1 : wq.cell? ⟨g6, 1, none⟩ = some (.int .i64 (S.header : Int)) := (blk_cell HKk.out 1).trans rfl
          have hc2 : wq.cell? ⟨g6, 2, none⟩ = some (.slice Al S.line.length cl) := (blk_cell HKk.out 2).trans rfl
          have hc3 : wq.cell? ⟨g6, 3, none⟩ = some (.int .i64 S.said) := (blk_cell HKk.out 3).trans rfl
          have hc4 : wq.cell? ⟨g6, 4, none⟩ = some (.bool S.whole) := (blk_cell HKk.out 4).trans rfl
          have hc5 : wq.cell? ⟨g6, 5, none⟩ = some (.slice Ab S.body.length cb) := (blk_cell HKk.out 5).trans rfl
          have hc6 : wq.cell? ⟨g6, 6, none⟩ = some (.bool S.dead) := (blk_cell HKk.out 6).trans rfl
          go_wp2
          refine start_ (n := 14) (S := fun w' => w'.cell? ⟨g6, 0, none⟩ = some (.int .i64 S.most) ∧ w'.cell? ⟨g6, 1, none⟩ = some (.int .i64 (S.header : Int)) ∧ w'.cell? ⟨g6, 2, none⟩ = some (.slice Al S.line.length cl) ∧ w'.cell? ⟨g6, 3, none⟩ = some (.int .i64 S.said) ∧ w'.cell? ⟨g6, 4, none⟩ = some (.bool S.whole) ∧ w'.cell? ⟨g6, 5, none⟩ = some (.slice Ab S.body.length cb) ∧ w'.cell? ⟨g6, 6, none⟩ = some (.bool S.dead) ∧ w'.cell? (ad0.add i) = some (.slice B0 p.length d0)) (ds := []) #[false, false, false, false, false, false, false, false, false, false, false, false, false, false] (by kernel_rfl) rfl rfl ⟨hc0, hc1, hc2, hc3, hc4, hc5, hc6, hx2⟩ (fun hHeld => ?_)
          refine pure_ (i := 1) (N := some 86) (v := ?_) (a' := ?_) #[false, true, false, false, false, false, false, false, false, false, false, false, false, false] rfl rfl (by kernel_rfl) (fun _ _ _ h => h) (Or.inl ⟨by rfl, ?_⟩) ?_ ?_
          rotate_left
          · intro w'
            go_simp
            with_reducible rfl
          rotate_left
          · simp only [Act.put, List.setIfInBounds_toArray, List.set_cons_zero, List.set_cons_succ, i64_w, i32_w]
            rfl
          refine pure_ (i := 2) (N := some 87) (v := ?_) (a' := ?_) #[false, true, true, false, false, false, false, false, false, false, false, false, false, false] rfl rfl (by kernel_rfl) (fun _ _ _ h => h) (Or.inl ⟨by rfl, ?_⟩) ?_ ?_
          rotate_left
          · intro w'
            go_simp
            with_reducible rfl
          rotate_left
          · simp only [Act.put, List.setIfInBounds_toArray, List.set_cons_zero, List.set_cons_succ, i64_w, i32_w]
            rfl
          refine pure_ (i := 3) (N := some 88) (v := ?_) (a' := ?_) #[false, true, true, true, false, false, false, false, false, false, false, false, false, false] rfl rfl (by kernel_rfl) (fun _ _ _ h => h) (Or.inl ⟨by rfl, ?_⟩) ?_ ?_
          rotate_left
          · intro w'
            go_simp
            with_reducible rfl
          rotate_left
          · simp only [Act.put, List.setIfInBounds_toArray, List.set_cons_zero, List.set_cons_succ, i64_w, i32_w]
            rfl
          refine take_ (i := 0) (N := some 85) (v := ?_) (a' := ?_) #[true, true, true, true, false, false, false, false, false, false, false, false, false, false] rfl rfl (by kernel_rfl) (fun _ _ _ h => h) (Or.inl ⟨by rfl, ?_⟩) hHeld ?_ ?_
          rotate_left
          · rintro w' ⟨s0, s1, s2, s3, s4, s5, s6, s7⟩
            go_simp
            with_reducible rfl
          rotate_left
          · simp only [Act.put, List.setIfInBounds_toArray, List.set_cons_zero, List.set_cons_succ, i64_w, i32_w]
            rfl
          refine take_ (i := 4) (N := some 89) (v := ?_) (a' := ?_) #[true, true, true, true, true, false, false, false, false, false, false, false, false, false] rfl rfl (by kernel_rfl) (fun _ _ _ h => h) (Or.inl ⟨by rfl, ?_⟩) hHeld ?_ ?_
          rotate_left
          · rintro w' ⟨s0, s1, s2, s3, s4, s5, s6, s7⟩
            go_simp
            with_reducible rfl
          rotate_left
          · simp only [Act.put, List.setIfInBounds_toArray, List.set_cons_zero, List.set_cons_succ, i64_w, i32_w]
            rfl
          refine join_ (σ := Nat × Option Addr × Nat × Option Addr × Nat × Value) 3 #[true, true, true, true, true, true, true, true, true, true, true, false, false, false] (fun s => [(90, .tuple #[.agg #[.int .i64 S2.most, .int .i64 (S2.header : Int), .slice s.2.1 S2.line.length s.2.2.1, .int .i64 S2.said, .bool S2.whole, .slice s.2.2.2.1 S2.body.length s.2.2.2.2.1, .bool S2.dead], s.2.2.2.2.2, .int .i64 ev]), (84, .tuple #[.agg #[.int .i64 S2.most, .int .i64 (S2.header : Int), .slice s.2.1 S2.line.length s.2.2.1, .int .i64 S2.said, .bool S2.whole, .slice s.2.2.2.1 S2.body.length s.2.2.2.2.1, .bool S2.dead], s.2.2.2.2.2, .int .i64 ev]), (91, .agg #[.int .i64 S2.most, .int .i64 (S2.header : Int), .slice s.2.1 S2.line.length s.2.2.1, .int .i64 S2.said, .bool S2.whole, .slice s.2.2.2.1 S2.body.length s.2.2.2.2.1, .bool S2.dead]), (92, s.2.2.2.2.2), (93, .int .i64 ev), (16, .pointer (some ⟨s.1, 0, none⟩))]) (fun s w' => w'.heap[s.1]? = some (.cells #[.int .i64 0, .int .i64 0, .slice none 0 0, .int .i64 0, .bool false, .slice none 0 0, .bool false] 32 (0, 0)) ∧ wq.heap.size ≤ s.1 ∧ SR w' S2 (.slice s.2.1 S2.line.length s.2.2.1) (.slice s.2.2.2.1 S2.body.length s.2.2.2.2.1) ∧ Kd.R (Kd.slice 5 (Kd.int .u8)) 22 w' wq.heap.size (fun _ => True) s.2.2.2.2.2 ms ∧ Org wq w' (.slice Al S.line.length cl) (.slice s.2.1 S2.line.length s.2.2.1) ∧ Org wq w' (.slice Ab S.body.length cb) (.slice s.2.2.2.1 S2.body.length s.2.2.2.2.1) ∧ Below wq.heap.size wq w') ?_ ?_
          rotate_left
          · intro hCont
            refine two_ (i := 5) (j := 10) (Ni := some 90) (Nj := some 16) #[true, true, true, true, true, true, false, false, false, false, false, false, false, false] #[true, true, true, true, true, false, false, false, false, false, true, false, false, false] rfl rfl rfl rfl (by kernel_rfl) (by decide) (by decide) (fun K hK => ?_) (fun K hK => ?_)
            · skip
              refine goes_ Tryd.func16 (by kernel_rfl) rfl #[.agg #[.int .i64 S.most, .int .i64 (S.header : Int), .slice Al S.line.length cl, .int .i64 S.said, .bool S.whole, .slice Ab S.body.length cb, .bool S.dead], .slice B0 p.length d0] (by rfl) rfl rfl (by simp only [List.map_toArray, List.map_cons, List.map_nil]; rfl) ?_
              with_reducible refine (hcall.out wq.drew (below_drew1 (Below.refl wq.heap.size wq))).mono ?_
              rintro e w9 ⟨Al2, cl2, Ab2, cb2, vm, rfl, hsr2, hrm2, hol2, hob2, hB2⟩
              refine ⟨_, rfl, ?_⟩
              have HBx := below_step (below_drew1 (Below.refl wq.heap.size wq)) hB2
              refine hK.out _ _ ⟨(HBx.cell (cell_lt hc0)).trans hc0, (HBx.cell (cell_lt hc1)).trans hc1, (HBx.cell (cell_lt hc2)).trans hc2, (HBx.cell (cell_lt hc3)).trans hc3, (HBx.cell (cell_lt hc4)).trans hc4, (HBx.cell (cell_lt hc5)).trans hc5, (HBx.cell (cell_lt hc6)).trans hc6, (HBx.cell (cell_lt hx2)).trans hx2⟩ (fun hHeld => ?_)
              clear hK K
              refine norm_ (a' := ?_) ?_ ?_
              rotate_left
              · show Act.put _ (some 90) _ = _
                simp only [Act.put, List.setIfInBounds_toArray, List.set_cons_zero, List.set_cons_succ, i64_w, i32_w]
                rfl
              refine pure_ (i := 6) (N := some 84) (v := ?_) (a' := ?_) #[true, true, true, true, true, true, true, false, false, false, false, false, false, false] rfl rfl (by kernel_rfl) (fun _ _ _ h => h) (Or.inl ⟨by rfl, ?_⟩) ?_ ?_
              rotate_left
              · intro w'
                go_simp
                with_reducible rfl
              rotate_left
              · simp only [Act.put, List.setIfInBounds_toArray, List.set_cons_zero, List.set_cons_succ, i64_w, i32_w]
                rfl
              refine pure_ (i := 7) (N := some 91) (v := ?_) (a' := ?_) #[true, true, true, true, true, true, true, true, false, false, false, false, false, false] rfl rfl (by kernel_rfl) (fun _ _ _ h => h) (Or.inl ⟨by rfl, ?_⟩) ?_ ?_
              rotate_left
              · intro w'
                go_simp
                with_reducible rfl
              rotate_left
              · simp only [Act.put, List.setIfInBounds_toArray, List.set_cons_zero, List.set_cons_succ, i64_w, i32_w]
                rfl
              refine pure_ (i := 8) (N := some 92) (v := ?_) (a' := ?_) #[true, true, true, true, true, true, true, true, true, false, false, false, false, false] rfl rfl (by kernel_rfl) (fun _ _ _ h => h) (Or.inl ⟨by rfl, ?_⟩) ?_ ?_
              rotate_left
              · intro w'
                go_simp
                with_reducible rfl
              rotate_left
              · simp only [Act.put, List.setIfInBounds_toArray, List.set_cons_zero, List.set_cons_succ, i64_w, i32_w]
                rfl
              refine pure_ (i := 9) (N := some 93) (v := ?_) (a' := ?_) #[true, true, true, true, true, true, true, true, true, true, false, false, false, false] rfl rfl (by kernel_rfl) (fun _ _ _ h => h) (Or.inl ⟨by rfl, ?_⟩) ?_ ?_
              rotate_left
              · intro w'
                go_simp
                with_reducible rfl
              rotate_left
              · simp only [Act.put, List.setIfInBounds_toArray, List.set_cons_zero, List.set_cons_succ, i64_w, i32_w]
                rfl
              refine one_ (i := 10) (N := some 16) #[true, true, true, true, true, true, true, true, true, true, true, false, false, false] rfl rfl (by kernel_rfl) (by decide) (fun K hK => ?_)
              refine value_ (w1 := ?_) (v := ?_) (by rfl) rfl ?_ ?_
              rotate_left 2
              · go_simp
                constructor
                · rfl
                · rfl
              have HBy := below_alloc HBx (.cells #[.int .i64 0, .int .i64 0, .slice none 0 0, .int .i64 0, .bool false, .slice none 0 0, .bool false] 32)
              refine hK.out _ _ ⟨(HBy.cell (cell_lt hc0)).trans hc0, (HBy.cell (cell_lt hc1)).trans hc1, (HBy.cell (cell_lt hc2)).trans hc2, (HBy.cell (cell_lt hc3)).trans hc3, (HBy.cell (cell_lt hc4)).trans hc4, (HBy.cell (cell_lt hc5)).trans hc5, (HBy.cell (cell_lt hc6)).trans hc6, (HBy.cell (cell_lt hx2)).trans hx2⟩ (fun hHeld => ?_)
              clear hK K
              refine norm_ (a' := ?_) ?_ ?_
              rotate_left
              · show Act.put _ (some 16) _ = _
                simp only [Act.put, List.setIfInBounds_toArray, List.set_cons_zero, List.set_cons_succ, i64_w, i32_w]
                rfl
              exact norm_ (by simp only [putAll, Act.put, List.setIfInBounds_toArray, List.set_cons_zero, List.set_cons_succ]) (hCont (w9.heap.size, Al2, cl2, Ab2, cb2, vm) _ ⟨blk_new w9 _, HBx.size, hsr2.below (below_alloc (Below.refl _ _) _), Kd.R_alloc (Kd.R_lower hrm2 (Nat.le_refl _)) _, Org.from (hol2.grow (below_alloc (Below.refl w9.heap.size w9) _).size) (Nat.le_refl _), Org.from (hob2.grow (below_alloc (Below.refl w9.heap.size w9) _).size) (Nat.le_refl _), HBy⟩)
            · skip
              refine value_ (w1 := ?_) (v := ?_) (by rfl) rfl ?_ ?_
              rotate_left 2
              · go_simp
                constructor
                · rfl
                · rfl
              have HBx := below_drew1 (below_alloc (Below.refl wq.heap.size wq) (.cells #[.int .i64 0, .int .i64 0, .slice none 0 0, .int .i64 0, .bool false, .slice none 0 0, .bool false] 32))
              refine hK.out _ _ ⟨(HBx.cell (cell_lt hc0)).trans hc0, (HBx.cell (cell_lt hc1)).trans hc1, (HBx.cell (cell_lt hc2)).trans hc2, (HBx.cell (cell_lt hc3)).trans hc3, (HBx.cell (cell_lt hc4)).trans hc4, (HBx.cell (cell_lt hc5)).trans hc5, (HBx.cell (cell_lt hc6)).trans hc6, (HBx.cell (cell_lt hx2)).trans hx2⟩ (fun hHeld => ?_)
              clear hK K
              refine norm_ (a' := ?_) ?_ ?_
              rotate_left
              · show Act.put _ (some 16) _ = _
                simp only [Act.put, List.setIfInBounds_toArray, List.set_cons_zero, List.set_cons_succ, i64_w, i32_w]
                rfl
              refine one_ (i := 5) (N := some 90) #[true, true, true, true, true, true, false, false, false, false, true, false, false, false] rfl rfl (by kernel_rfl) (by decide) (fun K hK => ?_)
              refine goes_ Tryd.func16 (by kernel_rfl) rfl #[.agg #[.int .i64 S.most, .int .i64 (S.header : Int), .slice Al S.line.length cl, .int .i64 S.said, .bool S.whole, .slice Ab S.body.length cb, .bool S.dead], .slice B0 p.length d0] (by rfl) rfl rfl (by simp only [List.map_toArray, List.map_cons, List.map_nil]; rfl) ?_
              with_reducible refine (hcall.out (wq.alloc (.cells #[.int .i64 0, .int .i64 0, .slice none 0 0, .int .i64 0, .bool false, .slice none 0 0, .bool false] 32)).drew (below_drew1 (below_alloc (Below.refl wq.heap.size wq) _))).mono ?_
              rintro e w9 ⟨Al2, cl2, Ab2, cb2, vm, rfl, hsr2, hrm2, hol2, hob2, hB2⟩
              refine ⟨_, rfl, ?_⟩
              have HBy := below_step (below_drew1 (below_alloc (Below.refl wq.heap.size wq) (.cells #[.int .i64 0, .int .i64 0, .slice none 0 0, .int .i64 0, .bool false, .slice none 0 0, .bool false] 32))) hB2
              refine hK.out _ _ ⟨(HBy.cell (cell_lt hc0)).trans hc0, (HBy.cell (cell_lt hc1)).trans hc1, (HBy.cell (cell_lt hc2)).trans hc2, (HBy.cell (cell_lt hc3)).trans hc3, (HBy.cell (cell_lt hc4)).trans hc4, (HBy.cell (cell_lt hc5)).trans hc5, (HBy.cell (cell_lt hc6)).trans hc6, (HBy.cell (cell_lt hx2)).trans hx2⟩ (fun hHeld => ?_)
              clear hK K
              refine norm_ (a' := ?_) ?_ ?_
              rotate_left
              · show Act.put _ (some 90) _ = _
                simp only [Act.put, List.setIfInBounds_toArray, List.set_cons_zero, List.set_cons_succ, i64_w, i32_w]
                rfl
              refine pure_ (i := 6) (N := some 84) (v := ?_) (a' := ?_) #[true, true, true, true, true, true, true, false, false, false, true, false, false, false] rfl rfl (by kernel_rfl) (fun _ _ _ h => h) (Or.inl ⟨by rfl, ?_⟩) ?_ ?_
              rotate_left
              · intro w'
                go_simp
                with_reducible rfl
              rotate_left
              · simp only [Act.put, List.setIfInBounds_toArray, List.set_cons_zero, List.set_cons_succ, i64_w, i32_w]
                rfl
              refine pure_ (i := 7) (N := some 91) (v := ?_) (a' := ?_) #[true, true, true, true, true, true, true, true, false, false, true, false, false, false] rfl rfl (by kernel_rfl) (fun _ _ _ h => h) (Or.inl ⟨by rfl, ?_⟩) ?_ ?_
              rotate_left
              · intro w'
                go_simp
                with_reducible rfl
              rotate_left
              · simp only [Act.put, List.setIfInBounds_toArray, List.set_cons_zero, List.set_cons_succ, i64_w, i32_w]
                rfl
              refine pure_ (i := 8) (N := some 92) (v := ?_) (a' := ?_) #[true, true, true, true, true, true, true, true, true, false, true, false, false, false] rfl rfl (by kernel_rfl) (fun _ _ _ h => h) (Or.inl ⟨by rfl, ?_⟩) ?_ ?_
              rotate_left
              · intro w'
                go_simp
                with_reducible rfl
              rotate_left
              · simp only [Act.put, List.setIfInBounds_toArray, List.set_cons_zero, List.set_cons_succ, i64_w, i32_w]
                rfl
              refine pure_ (i := 9) (N := some 93) (v := ?_) (a' := ?_) #[true, true, true, true, true, true, true, true, true, true, true, false, false, false] rfl rfl (by kernel_rfl) (fun _ _ _ h => h) (Or.inl ⟨by rfl, ?_⟩) ?_ ?_
              rotate_left
              · intro w'
                go_simp
                with_reducible rfl
              rotate_left
              · simp only [Act.put, List.setIfInBounds_toArray, List.set_cons_zero, List.set_cons_succ, i64_w, i32_w]
                rfl
              exact norm_ (by simp only [putAll, Act.put, List.setIfInBounds_toArray, List.set_cons_zero, List.set_cons_succ]) (hCont (wq.heap.size, Al2, cl2, Ab2, cb2, vm) _ ⟨blk_below (blk_drew (blk_new wq (.cells #[.int .i64 0, .int .i64 0, .slice none 0 0, .int .i64 0, .bool false, .slice none 0 0, .bool false] 32))) hB2, Nat.le_refl _, hsr2, Kd.R_lower hrm2 (below_alloc (Below.refl wq.heap.size wq) (.cells #[.int .i64 0, .int .i64 0, .slice none 0 0, .int .i64 0, .bool false, .slice none 0 0, .bool false] 32)).size, Org.from hol2 (below_alloc (Below.refl wq.heap.size wq) (.cells #[.int .i64 0, .int .i64 0, .slice none 0 0, .int .i64 0, .bool false, .slice none 0 0, .bool false] 32)).size, Org.from hob2 (below_alloc (Below.refl wq.heap.size wq) (.cells #[.int .i64 0, .int .i64 0, .slice none 0 0, .int .i64 0, .bool false, .slice none 0 0, .bool false] 32)).size, HBy⟩)
          rintro ⟨g9, Al2, cl2, Ab2, cb2, vm⟩ w9 ⟨hk9, hg9, hsr9, hrm9, hol9, hob9, hB9⟩
          simp only at hk9 hg9 hsr9 hrm9 hol9 hob9
          have hHeld : w9.cell? ⟨g6, 0, none⟩ = some (.int .i64 S.most) ∧ w9.cell? ⟨g6, 1, none⟩ = some (.int .i64 (S.header : Int)) ∧ w9.cell? ⟨g6, 2, none⟩ = some (.slice Al S.line.length cl) ∧ w9.cell? ⟨g6, 3, none⟩ = some (.int .i64 S.said) ∧ w9.cell? ⟨g6, 4, none⟩ = some (.bool S.whole) ∧ w9.cell? ⟨g6, 5, none⟩ = some (.slice Ab S.body.length cb) ∧ w9.cell? ⟨g6, 6, none⟩ = some (.bool S.dead) ∧ w9.cell? (ad0.add i) = some (.slice B0 p.length d0) := ⟨(hB9.cell (cell_lt hc0)).trans hc0, (hB9.cell (cell_lt hc1)).trans hc1, (hB9.cell (cell_lt hc2)).trans hc2, (hB9.cell (cell_lt hc3)).trans hc3, (hB9.cell (cell_lt hc4)).trans hc4, (hB9.cell (cell_lt hc5)).trans hc5, (hB9.cell (cell_lt hc6)).trans hc6, (hB9.cell (cell_lt hx2)).trans hx2⟩
          refine norm_ (a' := ?_) ?_ ?_
          rotate_left
          · simp only [putAll, Act.put, List.setIfInBounds_toArray, List.set_cons_zero, List.set_cons_succ]
            rfl
          refine one_ (i := 11) (N := none) #[true, true, true, true, true, true, true, true, true, true, true, true, false, false] rfl rfl (by kernel_rfl) (by decide) (fun K hK => ?_)
          refine skip_ (w1 := w9.setCells g9 0 [.int .i64 S2.most, .int .i64 (S2.header : Int), .slice Al2 S2.line.length cl2, .int .i64 S2.said, .bool S2.whole, .slice Ab2 S2.body.length cb2, .bool S2.dead]) (by rfl) rfl (store_run rfl [.int .i64 S2.most, .int .i64 (S2.header : Int), .slice Al2 S2.line.length cl2, .int .i64 S2.said, .bool S2.whole, .slice Ab2 S2.body.length cb2, .bool S2.dead] _ rfl rfl rfl sizeRef (by simp [Value.oneCell']) hk9 (by simp)) ?_
          refine hK.out _ _ ⟨(cell_only (put_all w9 g9 _ 32 [.int .i64 S2.most, .int .i64 (S2.header : Int), .slice Al2 S2.line.length cl2, .int .i64 S2.said, .bool S2.whole, .slice Ab2 S2.body.length cb2, .bool S2.dead] hk9 (by simp)).2 (by have := HLT.out; omega)).trans ((hB9.cell (cell_lt hc0)).trans hc0), (cell_only (put_all w9 g9 _ 32 [.int .i64 S2.most, .int .i64 (S2.header : Int), .slice Al2 S2.line.length cl2, .int .i64 S2.said, .bool S2.whole, .slice Ab2 S2.body.length cb2, .bool S2.dead] hk9 (by simp)).2 (by have := HLT.out; omega)).trans ((hB9.cell (cell_lt hc1)).trans hc1), (cell_only (put_all w9 g9 _ 32 [.int .i64 S2.most, .int .i64 (S2.header : Int), .slice Al2 S2.line.length cl2, .int .i64 S2.said, .bool S2.whole, .slice Ab2 S2.body.length cb2, .bool S2.dead] hk9 (by simp)).2 (by have := HLT.out; omega)).trans ((hB9.cell (cell_lt hc2)).trans hc2), (cell_only (put_all w9 g9 _ 32 [.int .i64 S2.most, .int .i64 (S2.header : Int), .slice Al2 S2.line.length cl2, .int .i64 S2.said, .bool S2.whole, .slice Ab2 S2.body.length cb2, .bool S2.dead] hk9 (by simp)).2 (by have := HLT.out; omega)).trans ((hB9.cell (cell_lt hc3)).trans hc3), (cell_only (put_all w9 g9 _ 32 [.int .i64 S2.most, .int .i64 (S2.header : Int), .slice Al2 S2.line.length cl2, .int .i64 S2.said, .bool S2.whole, .slice Ab2 S2.body.length cb2, .bool S2.dead] hk9 (by simp)).2 (by have := HLT.out; omega)).trans ((hB9.cell (cell_lt hc4)).trans hc4), (cell_only (put_all w9 g9 _ 32 [.int .i64 S2.most, .int .i64 (S2.header : Int), .slice Al2 S2.line.length cl2, .int .i64 S2.said, .bool S2.whole, .slice Ab2 S2.body.length cb2, .bool S2.dead] hk9 (by simp)).2 (by have := HLT.out; omega)).trans ((hB9.cell (cell_lt hc5)).trans hc5), (cell_only (put_all w9 g9 _ 32 [.int .i64 S2.most, .int .i64 (S2.header : Int), .slice Al2 S2.line.length cl2, .int .i64 S2.said, .bool S2.whole, .slice Ab2 S2.body.length cb2, .bool S2.dead] hk9 (by simp)).2 (by have := HLT.out; omega)).trans ((hB9.cell (cell_lt hc6)).trans hc6), (cell_onlyA (put_all w9 g9 _ 32 [.int .i64 S2.most, .int .i64 (S2.header : Int), .slice Al2 S2.line.length cl2, .int .i64 S2.said, .bool S2.whole, .slice Ab2 S2.body.length cb2, .bool S2.dead] hk9 (by simp)).2 (by have := cell_lt hx2; rw [add_block] at *; omega)).trans ((hB9.cell (cell_lt hx2)).trans hx2)⟩ (fun hHeld => ?_)
          clear hK K
          refine pure_ (i := 12) (N := some 17) (v := ?_) (a' := ?_) #[true, true, true, true, true, true, true, true, true, true, true, true, true, false] rfl rfl (by kernel_rfl) (fun _ _ _ h => h) (Or.inl ⟨by rfl, ?_⟩) ?_ ?_
          rotate_left
          · intro w'
            go_simp
            with_reducible rfl
          rotate_left
          · simp only [Act.put, List.setIfInBounds_toArray, List.set_cons_zero, List.set_cons_succ, i64_w, i32_w]
            rfl
          refine pure_ (i := 13) (N := some 18) (v := ?_) (a' := ?_) #[true, true, true, true, true, true, true, true, true, true, true, true, true, true] rfl rfl (by kernel_rfl) (fun _ _ _ h => h) (Or.inl ⟨by rfl, ?_⟩) ?_ ?_
          rotate_left
          · intro w'
            go_simp
            with_reducible rfl
          rotate_left
          · simp only [Act.put, List.setIfInBounds_toArray, List.set_cons_zero, List.set_cons_succ, i64_w, i32_w]
            rfl
          refine done_ (by kernel_rfl) ?_
          obtain ⟨k10, o10⟩ := put_all w9 g9 _ 32 [.int .i64 S2.most, .int .i64 (S2.header : Int), .slice Al2 S2.line.length cl2, .int .i64 S2.said, .bool S2.whole, .slice Ab2 S2.body.length cb2, .bool S2.dead] hk9 (by simp)
          have HG9 := Aside0.mk (show wq.heap.size ≤ g9 from hg9)
          have HK10 := Aside0.mk ((o10.block g6 (by have := HLT.out; omega)).trans (blk_below HKk.out hB9))
          have HK9 := Aside0.mk k10
          have HOS10 := Aside0.mk ((HOSk.out.below hB9).only o10 (by have := HNW.out; have := HBG.out; omega) (by have := HNW.out; have := HBG.out; omega) (fun e => by have := HVQ.out _ e.symm; omega) (.inl (by have := HNW.out; omega)))
          have HM10 := Aside0.mk (o10.row hrm9 hk9 u22_ne)
          have HS10 := Aside0.mk (SR.only hsr9 o10 hk9 (noU8_seg rfl rfl))
          have HRO10 := Aside0.mk (o10.rowS (Kd.S_below HROk.out hB9) hk9 u22_ne)
          have HO10 := Aside0.mk (And.intro (hol9.grow (Nat.le_of_eq o10.size.symm)) (hob9.grow (Nat.le_of_eq o10.size.symm)))
          have HSZ10 := Aside0.mk (show wq.heap.size ≤ (w9.setCells g9 0 [.int .i64 S2.most, .int .i64 (S2.header : Int), .slice Al2 S2.line.length cl2, .int .i64 S2.said, .bool S2.whole, .slice Ab2 S2.body.length cb2, .bool S2.dead]).heap.size by rw [o10.size]; exact hB9.size)
          clear hHeld hsr9 hrm9 hol9 hob9 hB9 hk9 o10 k10 hg9 HOSk HSk HKk HROk HSZk
          generalize w9.setCells g9 0 [.int .i64 S2.most, .int .i64 (S2.header : Int), .slice Al2 S2.line.length cl2, .int .i64 S2.said, .bool S2.whole, .slice Ab2 S2.body.length cb2, .bool S2.dead] = w10 at *
          clear hc0 hc1 hc2 hc3 hc4 hc5 hc6 hx2
          have hd0 : w10.cell? ⟨g9, 0, none⟩ = some (.int .i64 S2.most) := (blk_cell HK9.out 0).trans rfl
          have hd1 : w10.cell? ⟨g9, 1, none⟩ = some (.int .i64 (S2.header : Int)) := (blk_cell HK9.out 1).trans rfl
          have hd2 : w10.cell? ⟨g9, 2, none⟩ = some (.slice Al2 S2.line.length cl2) := (blk_cell HK9.out 2).trans rfl
          have hd3 : w10.cell? ⟨g9, 3, none⟩ = some (.int .i64 S2.said) := (blk_cell HK9.out 3).trans rfl
          have hd4 : w10.cell? ⟨g9, 4, none⟩ = some (.bool S2.whole) := (blk_cell HK9.out 4).trans rfl
          have hd5 : w10.cell? ⟨g9, 5, none⟩ = some (.slice Ab2 S2.body.length cb2) := (blk_cell HK9.out 5).trans rfl
          have hd6 : w10.cell? ⟨g9, 6, none⟩ = some (.bool S2.dead) := (blk_cell HK9.out 6).trans rfl
          go_wp2_with ((with_reducible refine gate_ (.store 32 (.tmp 6) (.tmp 94)) rfl ?_); refine st_store rfl rfl 32 (.tmp 6) (.tmp 94) rfl (g := g6) (j := 0) (cur' := #[.int .i64 S2.most, .int .i64 (S2.header : Int), .slice Al2 S2.line.length cl2, .int .i64 S2.said, .bool S2.whole, .slice Ab2 S2.body.length cb2, .bool S2.dead]) [.int .i64 S2.most, .int .i64 (S2.header : Int), .slice Al2 S2.line.length cl2, .int .i64 S2.said, .bool S2.whole, .slice Ab2 S2.body.length cb2, .bool S2.dead] (.agg #[.int .i64 S2.most, .int .i64 (S2.header : Int), .slice Al2 S2.line.length cl2, .int .i64 S2.said, .bool S2.whole, .slice Ab2 S2.body.length cb2, .bool S2.dead]) rfl rfl rfl sizeRef (by simp [Value.oneCell']) HK10.out (by simp) rfl ?_)
          intro w13 k13 o13
          have HK13 := Aside0.mk k13
          have HM13 := Aside0.mk (o13.row HM10.out HK10.out u22_ne)
          have HS13 := Aside0.mk (SR.only HS10.out o13 HK10.out (noU8_seg rfl rfl))
          have HRO13 := Aside0.mk (o13.rowS HRO10.out HK10.out u22_ne)
          have HSZ13 := Aside0.mk (show wq.heap.size ≤ w13.heap.size by rw [o13.size]; exact HSZ10.out)
          have hO13 := And.intro (HO10.out.1.grow (Nat.le_of_eq o13.size.symm)) (HO10.out.2.grow (Nat.le_of_eq o13.size.symm))
          have HOS13 := Aside0.mk ((HOS10.out.only o13 (fun e => HWB.out.2.1 e.symm) HWB.out.2.2 (Kd.R_ne HOS10.out.rd.row HK10.out (by decide)) (.inr HBG.out.2.1)).doc HVQ.out (by have := HNW.out; omega) hO13.1 hO13.2)
          have HLW13 := Aside0.mk (And.intro (HLWq.out.1.org hO13.1 HSZ13.out) (HLWq.out.2.org hO13.2 HSZ13.out))
          clear k13 o13 hO13 hd0 hd1 hd2 hd3 hd4 hd5 hd6 HK10 HK9 HM10 HS10 HRO10 HO10 HSZ10 HOS10
          obtain ⟨Am, cm, rfl⟩ := Kd.R_slice HM13.out
          have HVL13 := Aside0.mk (show LtW v' w13 from HVQ.out.mono HSZ13.out)
          have HGN := Aside0.mk (show ∀ k, u9.ownBlock = some k → w6.heap.size ≤ k ∧ k < wo.heap.size from fun k hk => ⟨(HOS13.out.gotN k hk).1, (HOS13.out.gotN k hk).2.1⟩)
          have HTN := Aside0.mk (show ∀ k, u10.ownBlock = some k → w6.heap.size ≤ k ∧ k < wo.heap.size from fun k hk => ⟨(HOS13.out.toldN k hk).1, (HOS13.out.toldN k hk).2.1⟩)
          go_wp2_with (at_builtin; refine S_append_rows KM (w0 := w13) (W := w13) w6.heap.size rfl (.tmp 95) (.tmp 96) 25 22 (.slice none 0 0) 24 rfl Tryd.underlying25 info22 rfl (by decide) (by omega) u9 X ms Ao ms.length co (fun k => some k ≠ v'.ownBlock ∧ some k ≠ u10.ownBlock) (fun k => wb.heap.size ≤ k ∧ some k ≠ v'.ownBlock) (fun k => wb.heap.size ≤ k ∧ some k ≠ v'.ownBlock) 22 wb.heap.size rfl rfl (Kd.S_mono HOS13.out.got (fun k hk => ⟨⟨hk.1.1, hk.2⟩, fun h2 => by have := hk.1.2; have := HNW.out; omega⟩)) (Kd.S_mono (Kd.S_bound HRO13.out) (fun k hk => ⟨hk.2.1, hk.1⟩)) (by have := HNW.out; omega) (fun _ h => h) (fun k hk => ⟨⟨hk.2, fun e => by have := HTN.out k e.symm; have := HNW.out; omega⟩, fun e => by have := HGN.out k e.symm; have := HNW.out; omega⟩) (fun k hk => ⟨fun e => by have := HVL13.out k e.symm; omega, fun e => by have := HTN.out k e.symm; have := HNW.out; have := HSZ13.out; omega⟩) (Below.refl _ _) (by have := HNW.out; have := HSZ13.out; omega) (by have := HX.out.1; have := HML.out; have := HFS.out; have := HFT.out; omega) ?_)
          intro v1 w14 hS14 _ hg14 hat14
          have HOS14 := Aside0.mk (HOS13.out.pushG HBG.out.1 HBG.out.2.2 HLW13.out.1 HLW13.out.2 hS14 hg14 hat14)
          have HS14 := Aside0.mk (HS13.out.grownBy hg14 HOS13.out.s3 HOS13.out.s4)
          have HK14 := Aside0.mk ((hg14.block g6 (blk_lt HK13.out) (fun e => by have := HGN.out g6 e.symm; have := HBG.out; omega)).trans HK13.out)
          have HLW14 := Aside0.mk (And.intro (HLW13.out.1.mono hg14.size) (HLW13.out.2.mono hg14.size))
          have HM14 := Aside0.mk (Kd.R_after (v := u9) (ok := fun k => wq.heap.size ≤ k) (Kd.R_mono (Kd.R_bound HM13.out) (fun k hk => ⟨hk.2.1, fun e => by have := HGN.out k e.symm; have := hk.2.1; have := HNW.out; omega⟩)) hg14 hat14)
          have HV1 := Aside0.mk (Kd.S_lt hS14)
          have HSZ14 := Aside0.mk (show wq.heap.size ≤ w14.heap.size from Nat.le_trans HSZ13.out hg14.size)
          have HVL14 := Aside0.mk (HVL13.out.mono hg14.size)
          obtain ⟨A', c', he, hrm⟩ := ms_rows2 (Kd.R_lower (base' := w6.heap.size) HM14.out (by have := HNW.out; omega))
          injection he with he1 he2 he3
          subst he1; subst he3
          have HRM := Aside0.mk (hrm.imp_ (Below.refl _ _) (fun _ _ hp => KM.M_mono (ok' := fun k => wq.heap.size ≤ k ∧ some k ≠ v1.ownBlock) (fun k hk => hk.2) hp))
          clear he2 hrm hS14 hg14 hat14 HOS13 HS13 HK13 HLW13 HM13 HRO13 HM14
          go_wp2_with (at_builtin; refine Kd.R_append_rows KM (w0 := w14) (W := w14) w6.heap.size rfl (.tmp 98) (.tmp 99) 25 22 (.slice none 0 0) 24 rfl Tryd.underlying25 info22 rfl (by decide) (by omega) u10 X ms Am ms.length cm (fun k => some k ≠ v'.ownBlock ∧ some k ≠ v1.ownBlock) (fun k => wq.heap.size ≤ k ∧ some k ≠ v1.ownBlock) rfl rfl (Kd.R_mono HOS14.out.told (fun k hk => ⟨hk.1.1, hk.2⟩)) HRM.out (fun _ _ h => h) (fun k hk => ⟨⟨fun e => by have := HVQ.out k e.symm; have := hk.1; omega, hk.2⟩, fun e => by have := HTN.out k e.symm; have := hk.1; have := HNW.out; omega⟩) (fun k hk => ⟨fun e => by have := HVL14.out k e.symm; omega, fun e => by have := HV1.out k e.symm; omega⟩) (Below.refl _ _) (by have := HNW.out; have := HSZ14.out; omega) (by have := HX.out.1; have := HML.out; have := HFS.out; have := HFT.out; omega) ?_)
          intro v2 w15 hR15 _ hg15 hat15
          have HOS15 := Aside0.mk (HOS14.out.pushT HBG.out.1 HBG.out.2.2 HLW14.out.1 HLW14.out.2 hR15 hg15 hat15)
          have HS15 := Aside0.mk (HS14.out.grownBy hg15 HOS14.out.s5 HOS14.out.s6)
          have HK15 := Aside0.mk ((hg15.block g6 (blk_lt HK14.out) (fun e => by have := HTN.out g6 e.symm; have := HBG.out; omega)).trans HK14.out)
          have HLW15 := Aside0.mk (And.intro (HLW14.out.1.mono hg15.size) (HLW14.out.2.mono hg15.size))
          have HLI15 := Aside0.mk (show LI S2 (flatN L (i + 1)) by rw [HFS.out]; have := HLI.out.feed p HP.out.2; rw [HRF.out] at this; exact this)
          clear hR15 hg15 hat15 HOS14 HS14 HK14 HLW14
          go_wp2
          go_roundg ko
          case measure => have := HI.out; omega
          case rel => exact ⟨i + 1, S2, v', held', Al2, cl2, Ab2, cb2, X ++ ms, by rw [hw1], HOS15, HS15, HK15, HLI15, ⟨by have := HI.out; omega⟩, HLW15, ⟨by have := HX.out.1; have := HML.out; have := HFS.out; rw [List.length_append]; omega, fun x hx => by
            rcases List.mem_append.1 hx with hx | hx
            · exact HX.out.2 x hx
            · have h1 := rfeed_msgs S p _ HLI.out.body x (by rw [HRF.out]; exact hx)
              have := HFS.out; have := HFT.out; omega⟩⟩
    · have hb1 : decide ((i : Int) < (L.length : Int)) = false := decide_eq_false (by omega)
      obtain ⟨Ag, cg, hgv⟩ := Kd.S_slice HOS.out.got
      obtain ⟨At, ct, htv⟩ := Kd.R_slice HOS.out.told
      subst hgv
      subst htv
      have HXB := Aside0.mk (show X.length ≤ 1048576 by have := HX.out.1; have := HL.out; have := flatN_le L i; omega)
      have HXL := Aside0.mk (getD_len HX.out.2)
      go_wp2_with (fail)
      refine (sameAll_true Ag At cg ct X wr (Kd.S_reads' HOS.out.got).2.2 (Kd.R_reads' HOS.out.told).2.2 (by have := HXB.out; omega)).mono ?_
      rintro e wA ⟨rfl, hBA⟩
      obtain ⟨NN, hNN⟩ : ∃ NN, wr.heap.size = NN := ⟨_, rfl⟩
      have HGA := Aside0.mk (show GS w w6 b g6 #[.int .i64 S.most, .int .i64 (S.header : Int), .slice Al S.line.length cl, .int .i64 S.said, .bool S.whole, .slice Ab S.body.length cb, .bool S.dead] n NN v held S.dead (.slice Ag X.length cg) X wA from ⟨HOS.out.rd.below hBA, blk_below HK.out hBA, below_step HOS.out.bel hBA, Kd.S_mono (Kd.S_below HOS.out.got hBA) (fun k hk => by rw [← hNN]; exact hk.1), HBG.out.1, HBG.out.2.1, HBG.out.2.2, by rw [← hNN]; exact HOS.out.size, by rw [← hNN]; exact hBA.size⟩)
      have HRS := Aside0.mk HOS.out.rs
      clear hBA HOS HS HK HLI HI HLW HX hNN HBG HWB HC HBY HLG
      go_wp2
      go_loopg [107] (X.length + 1) (fun g v107 wx => ∃ (j : Nat) (Y : List (List Int)), v107 = .int .i64 (j : Int) ∧ Aside0 (GS w w6 b g6 #[.int .i64 S.most, .int .i64 (S.header : Int), .slice Al S.line.length cl, .int .i64 S.said, .bool S.whole, .slice Ab S.body.length cb, .bool S.dead] n NN v held S.dead (.slice Ag X.length cg) Y wx) ∧ Aside0 (Filled X Y j 0) ∧ Aside0 (j ≤ X.length ∧ X.length < j + g))
      case atStart => exact ⟨0, X, rfl, HGA, ⟨Filled.start X⟩, ⟨by omega⟩⟩
      case round =>
        clear HGA
        obtain ⟨j, Y, rfl, HG, HF, HJ⟩ := hrel
        by_cases hj : j < X.length
        · have hb2 : decide ((j : Int) < (X.length : Int)) = true := decide_eq_true (by omega)
          obtain ⟨kj, rfl⟩ : ∃ g', gk = g' + 1 := ⟨gk - 1, by have := HJ.out; omega⟩
          have hw2 : wrap64 ((j : Int) + 1) = ((j + 1 : Nat) : Int) := by have := HXB.out; rw [wr64 (by omega) (by omega)]; push_cast; rfl
          have p1 : 0 ≤ (j : Int) := by omega
          have q1 : (j : Int) < (X.length : Int) := by omega
          obtain ⟨ad, A0, c0, rfl, hx, hR, _, _, _⟩ := HG.out.at_ j hj
          obtain ⟨m, hm⟩ : ∃ m, (Y.getD j []).length = m := ⟨_, rfl⟩
          have HM := Aside0.mk (show (X.getD j []).length = m from (HF.out.lens j).symm.trans hm)
          rw [hm] at hx hR
          have hml : m ≤ 9223372036854775807 := by have := (Kd.R_reads' hR).2.2.2.1; omega
          have HML2 := Aside0.mk hml
          replace p1 := eq_true p1
          replace q1 := eq_true q1
          clear hm hR hml
          go_wp2
          go_loopg [115] (m + 1) (fun g v115 wx => ∃ (k : Nat) (Y : List (List Int)), v115 = .int .i64 (k : Int) ∧ Aside0 (GS w w6 b g6 #[.int .i64 S.most, .int .i64 (S.header : Int), .slice Al S.line.length cl, .int .i64 S.said, .bool S.whole, .slice Ab S.body.length cb, .bool S.dead] n NN v held S.dead (.slice (some ad) X.length cg) Y wx) ∧ Aside0 (Filled X Y j k) ∧ Aside0 (k ≤ m ∧ m < k + g))
          case atStart => exact ⟨0, Y, rfl, HG, HF, ⟨by omega⟩⟩
          case round =>
            clear HG HF hx
            obtain ⟨k, Y, rfl, HG, HF, HK⟩ := hrel
            by_cases hk : k < m
            · have hb3 : decide ((k : Int) < (m : Int)) = true := decide_eq_true (by omega)
              obtain ⟨kk, rfl⟩ : ∃ g', gk = g' + 1 := ⟨gk - 1, by have := HK.out; omega⟩
              have hw3 : wrap64 ((k : Int) + 1) = ((k + 1 : Nat) : Int) := by have := HML2.out; rw [wr64 (by omega) (by omega)]; push_cast; rfl
              have p2 : 0 ≤ (k : Int) := by omega
              have q2 : (k : Int) < (m : Int) := by omega
              obtain ⟨ad2, A0, c0, e2, hx, hR, _, _, hset⟩ := HG.out.at_ j hj
              injection e2 with e2
              subst e2
              have hm2 : (Y.getD j []).length = m := (HF.out.lens j).trans HM.out
              rw [hm2] at hx hR hset
              obtain ⟨gr, hA0⟩ : ∃ gr, A0 = some ⟨gr, 0, none⟩ := by
                obtain ⟨gr, cap, hv, _⟩ := Kd.R_form hR (by omega)
                injection hv with hv1 _ _
                exact ⟨gr, hv1⟩
              subst hA0
              have ha1 : (⟨gr, 0, none⟩ : Addr).add k = ⟨gr, k, none⟩ := by rw [add_plain]
              have HRr := Aside0.mk hR
              have HSet := Aside0.mk hset
              replace p2 := eq_true p2
              replace q2 := eq_true q2
              clear hR hset hm2
              go_wp2_with ((with_reducible refine gate_ (.store 5 (.tmp 126) (.tmp 125)) rfl ?_); refine byte_store w6.heap.size rfl rfl (.tmp 126) (.tmp 125) rfl (i := k) (Y.getD j []) _ _ ?hA rfl ?hI HRr.out (Int.ofNat_lt.1 (of_eq_true q2)) ?_; (case hA => first | rfl | (go_simp; done) | (go_simp; rfl)); (case hI => kernel_rfl))
              intro wk hrk hgk
              have HGn := Aside0.mk (HSet.out wk _ hgk (Kd.R_mono hrk (fun _ _ => trivial)))
              have HFn := Aside0.mk (HF.out.set (k := k) (by rw [HF.out.len]; exact hj))
              clear hrk hgk HG HF HRr HSet
              go_wp2
              go_roundg kk
              case measure => omega
              case rel => exact ⟨k + 1, _, by rw [hw3], HGn, HFn, ⟨by have := HK.out; omega⟩⟩
            · have hb3 : decide ((k : Int) < (m : Int)) = false := decide_eq_false (by omega)
              have HFn := Aside0.mk (HF.out.next (by have := HM.out; omega))
              clear HF
              go_wp2
              go_roundg kj
              case measure => omega
              case rel => exact ⟨j + 1, Y, by rw [hw2], HG, HFn, ⟨by have := HJ.out; omega⟩⟩
        · obtain rfl : j = X.length := by have := HJ.out; omega
          have hb2 : decide ((X.length : Int) < (X.length : Int)) = false := decide_eq_false (by omega)
          go_wp2
          go_loopg [131] (X.length + 1) (fun g v131 wx => ∃ (j : Nat), v131 = .int .i64 (j : Int) ∧ Aside0 (GS w w6 b g6 #[.int .i64 S.most, .int .i64 (S.header : Int), .slice Al S.line.length cl, .int .i64 S.said, .bool S.whole, .slice Ab S.body.length cb, .bool S.dead] n NN v held S.dead (.slice Ag X.length cg) Y wx) ∧ Aside0 (j ≤ X.length ∧ X.length < j + g))
          case atStart => exact ⟨0, rfl, HG, ⟨by omega⟩⟩
          case round =>
            clear HG hb2
            obtain ⟨j, rfl, HG, HJ⟩ := hrel
            by_cases hj : j < X.length
            · have hb2 : decide ((j : Int) < (X.length : Int)) = true := decide_eq_true (by omega)
              obtain ⟨kj, rfl⟩ : ∃ g', gk = g' + 1 := ⟨gk - 1, by have := HJ.out; omega⟩
              have hw2 : wrap64 ((j : Int) + 1) = ((j + 1 : Nat) : Int) := by have := HXB.out; rw [wr64 (by omega) (by omega)]; push_cast; rfl
              have p1 : 0 ≤ (j : Int) := by omega
              have q1 : (j : Int) < (X.length : Int) := by omega
              obtain ⟨ad, A0, c0, rfl, hx, hR, hne, hadN, _⟩ := HG.out.at_ j hj
              obtain ⟨row, hrow⟩ : ∃ row, Y.getD j [] = row := ⟨_, rfl⟩
              rw [hrow] at hx hR hne
              have HRL := Aside0.mk (show row.length ≤ 1048576 by have h1 := HXL.out j; have h2 := HF.out.lens j; rw [hrow] at h2; omega)
              have HROW := Aside0.mk hrow
              have HX0 := Aside0.mk hx
              have HNE := Aside0.mk (And.intro hne hadN)
              have HR0 := Aside0.mk (Kd.R_mono (ok' := fun k => some k ≠ v.ownBlock) hR (fun k hk => hk.1))
              replace p1 := eq_true p1
              replace q1 := eq_true q1
              clear hR hne hadN hrow
              go_wp2
              go_loopg [22, 23] 21 (fun g v22 v23 wx => ∃ (q : Nat) (ys : List Int), v23 = .int .i64 (q : Int) ∧ Aside0 (GS w w6 b g6 #[.int .i64 S.most, .int .i64 (S.header : Int), .slice Al S.line.length cl, .int .i64 S.said, .bool S.whole, .slice Ab S.body.length cb, .bool S.dead] n NN v held S.dead (.slice (some ad) X.length cg) Y wx) ∧ Aside0 (wx.cell? (ad.add j) = some (.slice A0 row.length c0)) ∧ Aside0 (Kd.R (Kd.int .u8) 5 wx w6.heap.size (fun k => some k ≠ v.ownBlock) v22 ys) ∧
                Aside0 ((∃ m, v22 = .slice A0 m c0 ∧ row.length ≤ ys.length ∧ ys.take row.length = row) ∨ (∀ k, v22.ownBlock = some k → NN ≤ k)) ∧ Aside0 (ys.length ≤ row.length + q) ∧ Aside0 (q ≤ 20 ∧ 20 < q + g))
              case atStart => exact ⟨0, row, rfl, HG, HX0, HR0, ⟨.inl ⟨_, rfl, Nat.le_refl _, List.take_length⟩⟩, ⟨by omega⟩, ⟨by omega⟩⟩
              case round =>
                clear HG HX0 HR0 hx
                obtain ⟨q, ys, rfl, HG, HX0, HR0, HC0, HYL, HQ⟩ := hrel
                by_cases hq : q < 20
                · have hb3 : decide ((q : Int) < 20) = true := decide_eq_true (by omega)
                  obtain ⟨kq, rfl⟩ : ∃ g', gk = g' + 1 := ⟨gk - 1, by have := HQ.out; omega⟩
                  have hw3 : wrap64 ((q : Int) + 1) = ((q + 1 : Nat) : Int) := by rw [wr64 (by omega) (by omega)]; push_cast; rfl
                  go_wp2_with (at_builtin; refine append_keep (W := wr) w6.heap.size rfl (.tmp 142) (.tmp 143) 22 rfl Tryd.underlying22 info5 u22 ys 255 (fun k => some k ≠ v.ownBlock) rfl rfl HR0.out (by have := HG.out.h6; have := HG.out.top; omega) (by have := HYL.out; have := HRL.out; omega) ?_)
                  intro v1 w1 hr1 hg1 hat1
                  obtain ⟨HGn, HXn, HRn, HCn⟩ := own_pad (row := row) HG.out HROW.out hj HX0.out HNE.out.1 HNE.out.2 HR0.out HC0.out hr1 hg1 hat1
                  have HGn := Aside0.mk HGn
                  have HXn := Aside0.mk HXn
                  have HRn := Aside0.mk HRn
                  have HCn := Aside0.mk HCn
                  clear hr1 hg1 hat1 HG HX0 HR0 HC0
                  go_wp2
                  go_roundg kq
                  case measure => omega
                  case rel => exact ⟨q + 1, ys ++ [255], by first | rw [hw3] | rfl | (push_cast; rfl), HGn, HXn, HRn, HCn, ⟨by have := HYL.out; rw [List.length_append, List.length_singleton]; omega⟩, ⟨by have := HQ.out; omega⟩⟩
                · have hb3 : decide ((q : Int) < 20) = false := decide_eq_false (by omega)
                  go_wp2
                  go_roundg kj
                  case measure => omega
                  case rel => exact ⟨j + 1, by rw [hw2], HG, ⟨by have := HJ.out; omega⟩⟩
            · have hb2 : decide ((j : Int) < (X.length : Int)) = false := decide_eq_false (by omega)
              go_wp2
              go_loopg [148] (X.length + 1) (fun g v148 wx => ∃ (j : Nat), v148 = .int .i64 (j : Int) ∧ Aside0 (GS w w6 b g6 #[.int .i64 S.most, .int .i64 (S.header : Int), .slice Al S.line.length cl, .int .i64 S.said, .bool S.whole, .slice Ab S.body.length cb, .bool S.dead] n NN v held S.dead (.slice Ag X.length cg) Y wx) ∧ Aside0 (j ≤ X.length ∧ X.length < j + g))
              case atStart => exact ⟨0, rfl, HG, ⟨by omega⟩⟩
              case round =>
                clear HG hb2 hj HJ
                obtain ⟨j, rfl, HG, HJ⟩ := hrel
                by_cases hj : j < X.length
                · have hb2 : decide ((j : Int) < (X.length : Int)) = true := decide_eq_true (by omega)
                  obtain ⟨kj, rfl⟩ : ∃ g', gk = g' + 1 := ⟨gk - 1, by have := HJ.out; omega⟩
                  have hw2 : wrap64 ((j : Int) + 1) = ((j + 1 : Nat) : Int) := by have := HXB.out; rw [wr64 (by omega) (by omega)]; push_cast; rfl
                  have p1 : 0 ≤ (j : Int) := by omega
                  have q1 : (j : Int) < (X.length : Int) := by omega
                  obtain ⟨ad, A0, c0, rfl, hx, hR, _, _, _⟩ := HG.out.at_ j hj
                  obtain ⟨m, hm⟩ : ∃ m, (Y.getD j []).length = m := ⟨_, rfl⟩
                  have HM := Aside0.mk hm
                  rw [hm] at hx hR
                  have HML2 := Aside0.mk (show m ≤ 1048576 by have h1 := HXL.out j; have h2 := HF.out.lens j; omega)
                  replace p1 := eq_true p1
                  replace q1 := eq_true q1
                  clear hm hR
                  go_wp2
                  go_loopg [156] (m + 1) (fun g v156 wx => ∃ (k : Nat), v156 = .int .i64 (k : Int) ∧ Aside0 (GS w w6 b g6 #[.int .i64 S.most, .int .i64 (S.header : Int), .slice Al S.line.length cl, .int .i64 S.said, .bool S.whole, .slice Ab S.body.length cb, .bool S.dead] n NN v held S.dead (.slice (some ad) X.length cg) Y wx) ∧ Aside0 (k ≤ m ∧ m < k + g))
                  case atStart => exact ⟨0, rfl, HG, ⟨by omega⟩⟩
                  case round =>
                    clear HG hx
                    obtain ⟨k, rfl, HG, HK⟩ := hrel
                    by_cases hk : k < m
                    · have hb3 : decide ((k : Int) < (m : Int)) = true := decide_eq_true (by omega)
                      obtain ⟨kk, rfl⟩ : ∃ g', gk = g' + 1 := ⟨gk - 1, by have := HK.out; omega⟩
                      have hw3 : wrap64 ((k : Int) + 1) = ((k + 1 : Nat) : Int) := by have := HML2.out; rw [wr64 (by omega) (by omega)]; push_cast; rfl
                      have p2 : 0 ≤ (k : Int) := by omega
                      have q2 : (k : Int) < (m : Int) := by omega
                      obtain ⟨ad2, A0, c0, e2, hx, hR, _, _, _⟩ := HG.out.at_ j hj
                      injection e2 with e2
                      subst e2
                      obtain ⟨gr, hA0⟩ : ∃ gr, A0 = some ⟨gr, 0, none⟩ := by
                        obtain ⟨gr, cap, hv, _⟩ := Kd.R_form hR (by have := HM.out; omega)
                        injection hv with hv1 _ _
                        exact ⟨gr, hv1⟩
                      subst hA0
                      have hbc := byte_cell hR k (by have := HM.out; omega)
                      rw [HF.out.at_ j k (.inl hj) (by rw [HF.out.len]; exact hj) (by have := HM.out; omega), bv] at hbc
                      rw [HM.out] at hx
                      have ha1 : (⟨gr, 0, none⟩ : Addr).add k = ⟨gr, k, none⟩ := by rw [add_plain]
                      replace p2 := eq_true p2
                      replace q2 := eq_true q2
                      clear hR
                      go_wp2
                      go_roundg kk
                      case measure => omega
                      case rel => exact ⟨k + 1, by rw [hw3], HG, ⟨by have := HK.out; omega⟩⟩
                    · have hb3 : decide ((k : Int) < (m : Int)) = false := decide_eq_false (by omega)
                      go_wp2
                      go_roundg kj
                      case measure => omega
                      case rel => exact ⟨j + 1, by rw [hw2], HG, ⟨by have := HJ.out; omega⟩⟩
                · have hb2 : decide ((j : Int) < (X.length : Int)) = false := decide_eq_false (by omega)
                  obtain ⟨wz, hwz⟩ : ∃ wz, wz = wr := ⟨_, rfl⟩
                  subst hwz
                  obtain ⟨N, hN⟩ : ∃ N, S.header + S.body.length = N := ⟨_, rfl⟩
                  have hlen := HRS.out.len
                  have htop := HRS.out.top
                  rw [hN] at hlen
                  have HN2 := Aside0.mk (show S.header + S.body.length = N ∧ N ≤ 1000000000000 from ⟨hN, by have := HN.out; omega⟩)
                  have CH := Aside0.mk (fun W (hB : Below wz.heap.size wz W) => show Calls Tryd.prog 12 #[.pointer (some ⟨b, 0, none⟩)] W fun e w' => e = .returned (.int .i64 (N : Int)) ∧ w' = W by have := held_calls _ b _ _ _ _ W (HG.out.rd.below hB); rw [hlen] at this; exact this)
                  clear hN hlen htop
                  have hf0 : wz.cell? ⟨g6, 0, none⟩ = some (.int .i64 S.most) := (blk_cell HG.out.hk 0).trans rfl
                  have hf1 : wz.cell? ⟨g6, 1, none⟩ = some (.int .i64 (S.header : Int)) := (blk_cell HG.out.hk 1).trans rfl
                  have hf2 : wz.cell? ⟨g6, 2, none⟩ = some (.slice Al S.line.length cl) := (blk_cell HG.out.hk 2).trans rfl
                  have hf3 : wz.cell? ⟨g6, 3, none⟩ = some (.int .i64 S.said) := (blk_cell HG.out.hk 3).trans rfl
                  have hf4 : wz.cell? ⟨g6, 4, none⟩ = some (.bool S.whole) := (blk_cell HG.out.hk 4).trans rfl
                  have hf5 : wz.cell? ⟨g6, 5, none⟩ = some (.slice Ab S.body.length cb) := (blk_cell HG.out.hk 5).trans rfl
                  have hf6 : wz.cell? ⟨g6, 6, none⟩ = some (.bool S.dead) := (blk_cell HG.out.hk 6).trans rfl
                  go_wp2
                  refine start_ (n := 6) (S := fun w' => w'.cell? ⟨g6, 0, none⟩ = some (.int .i64 S.most) ∧ w'.cell? ⟨g6, 1, none⟩ = some (.int .i64 (S.header : Int)) ∧ w'.cell? ⟨g6, 2, none⟩ = some (.slice Al S.line.length cl) ∧ w'.cell? ⟨g6, 3, none⟩ = some (.int .i64 S.said) ∧ w'.cell? ⟨g6, 4, none⟩ = some (.bool S.whole) ∧ w'.cell? ⟨g6, 5, none⟩ = some (.slice Ab S.body.length cb) ∧ w'.cell? ⟨g6, 6, none⟩ = some (.bool S.dead)) (ds := []) #[false, false, false, false, false, false] (by kernel_rfl) rfl rfl ⟨hf0, hf1, hf2, hf3, hf4, hf5, hf6⟩ (fun hHeld => ?_)
                  refine pure_ (i := 0) (N := some 172) (v := ?_) (a' := ?_) #[true, false, false, false, false, false] rfl rfl (by kernel_rfl) (fun _ _ _ h => h) (Or.inl ⟨by rfl, ?_⟩) ?_ ?_
                  rotate_left
                  · intro w'
                    go_simp
                    with_reducible rfl
                  rotate_left
                  · simp only [Act.put, List.setIfInBounds_toArray, List.set_cons_zero, List.set_cons_succ, i64_w, i32_w]
                    rfl
                  refine take_ (i := 2) (N := some 174) (v := ?_) (a' := ?_) #[true, false, true, false, false, false] rfl rfl (by kernel_rfl) (fun _ _ _ h => h) (Or.inl ⟨by rfl, ?_⟩) hHeld ?_ ?_
                  rotate_left
                  · rintro w' ⟨s0, s1, s2, s3, s4, s5, s6⟩
                    go_simp
                    with_reducible rfl
                  rotate_left
                  · simp only [Act.put, List.setIfInBounds_toArray, List.set_cons_zero, List.set_cons_succ, i64_w, i32_w]
                    rfl
                  refine one_ (i := 1) (N := some 173) #[true, true, true, false, false, false] rfl rfl (by kernel_rfl) (by decide) (fun K hK => ?_)
                  refine goes_ Tryd.func12 (by kernel_rfl) rfl #[.pointer (some ⟨b, 0, none⟩)] (by rfl) rfl rfl (by simp only [List.map_toArray, List.map_cons, List.map_nil]; rfl) ?_
                  with_reducible refine (CH.out wz.drew (below_drew1 (Below.refl _ _))).mono ?_
                  rintro e wB ⟨rfl, hwB⟩
                  refine ⟨_, rfl, ?_⟩
                  subst hwB
                  have HBA := below_drew1 (Below.refl wz.heap.size wz)
                  refine hK.out _ _ ⟨(HBA.cell (cell_lt hf0)).trans hf0, (HBA.cell (cell_lt hf1)).trans hf1, (HBA.cell (cell_lt hf2)).trans hf2, (HBA.cell (cell_lt hf3)).trans hf3, (HBA.cell (cell_lt hf4)).trans hf4, (HBA.cell (cell_lt hf5)).trans hf5, (HBA.cell (cell_lt hf6)).trans hf6⟩ (fun hHeld => ?_)
                  clear hK K
                  refine norm_ (a' := ?_) ?_ ?_
                  rotate_left
                  · show Act.put _ (some 173) _ = _
                    simp only [Act.put, List.setIfInBounds_toArray, List.set_cons_zero, List.set_cons_succ, i64_w, i32_w]
                    rfl
                  refine one_ (i := 3) (N := some 175) #[true, true, true, true, false, false] rfl rfl (by kernel_rfl) (by decide) (fun K hK => ?_)
                  refine goes_ Tryd.func18 (by kernel_rfl) rfl #[.agg #[.int .i64 S.most, .int .i64 (S.header : Int), .slice Al S.line.length cl, .int .i64 S.said, .bool S.whole, .slice Ab S.body.length cb, .bool S.dead]] (by rfl) rfl rfl (by simp only [List.map_toArray, List.map_cons, List.map_nil]; rfl) ?_
                  with_reducible refine (rheld_calls S Al cl Ab cb wz.drew N HN2.out.1 HN2.out.2).mono ?_
                  rintro e wC ⟨rfl, hBC⟩
                  refine ⟨_, rfl, ?_⟩
                  have HBC := below_step HBA hBC
                  refine hK.out _ _ ⟨(HBC.cell (cell_lt hf0)).trans hf0, (HBC.cell (cell_lt hf1)).trans hf1, (HBC.cell (cell_lt hf2)).trans hf2, (HBC.cell (cell_lt hf3)).trans hf3, (HBC.cell (cell_lt hf4)).trans hf4, (HBC.cell (cell_lt hf5)).trans hf5, (HBC.cell (cell_lt hf6)).trans hf6⟩ (fun hHeld => ?_)
                  clear hK K
                  refine norm_ (a' := ?_) ?_ ?_
                  rotate_left
                  · show Act.put _ (some 175) _ = _
                    simp only [Act.put, List.setIfInBounds_toArray, List.set_cons_zero, List.set_cons_succ, i64_w, i32_w]
                    rfl
                  refine pure_ (i := 4) (N := some 176) (v := ?_) (a' := ?_) #[true, true, true, true, true, false] rfl rfl (by kernel_rfl) (fun _ _ _ h => h) (Or.inl ⟨by rfl, ?_⟩) ?_ ?_
                  rotate_left
                  · intro w'
                    go_simp
                    with_reducible rfl
                  rotate_left
                  · simp only [Act.put, List.setIfInBounds_toArray, List.set_cons_zero, List.set_cons_succ, i64_w, i32_w]
                    rfl
                  refine pure_ (i := 5) (N := some 4) (v := ?_) (a' := ?_) #[true, true, true, true, true, true] rfl rfl (by kernel_rfl) (fun _ _ _ h => h) (Or.inl ⟨by rfl, ?_⟩) ?_ ?_
                  rotate_left
                  · intro w'
                    go_simp
                    with_reducible rfl
                  rotate_left
                  · simp only [Act.put, List.setIfInBounds_toArray, List.set_cons_zero, List.set_cons_succ, i64_w, i32_w]
                    rfl
                  refine done_ (by kernel_rfl) ?_
                  have HBF := Aside0.mk (below_step HG.out.bel HBC)
                  clear hHeld HBA HBC hBC
                  go_wp2
                  go_ret
                  exact ⟨by first | rfl | simp, HBF.out⟩
theorem frameOwn_calls (n : Int) (A : Option Addr) (c : Nat) (L : List (List Int)) (w : World) (hC : Kd.C (Kd.slice 5 (Kd.int .u8)) w A L.length L) (hb : ∀ x ∈ L, Bytes x) (hl : L.length + L.flatten.length ≤ 1048576) :
    Calls Tryd.prog 4 #[.int .i64 n, .slice A L.length c] w fun e w' => e = .returned (.bool true) ∧ Below w.heap.size w w' := by
  by_cases h : n < 0 ∨ 16777216 < n
  · exact frameOwn_bad n A c L w h hC hb hl
  · exact frameOwn_ok n A c L w (by omega) hC hb hl
end Go.Proofs.YtgdiilpocoimgaaDoor.Hand
