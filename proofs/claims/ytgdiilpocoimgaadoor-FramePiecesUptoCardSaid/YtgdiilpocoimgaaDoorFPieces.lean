/- The law FramePieces: its walk. -/
import Derived.Test.YtgdiilpocoimgaaDoorFFd
import Derived.Test.YtgdiilpocoimgaaDoorFLong
set_option linter.unusedVariables false
set_option linter.unusedSimpArgs false
namespace Go.Proofs.YtgdiilpocoimgaaDoor.Hand
open Go.RowKit Go.Proofs.YtgdiilpocoimgaaDoor.Frm Go.Proofs.YtgdiilpocoimgaaDoorW.PrintWords Go.Proofs.YtgdiilpocoimgaaDoorW.PrintLast Go.Proofs.YtgdiilpocoimgaaDoorW.PrintMore
set_option maxHeartbeats 4000000 in
set_option maxRecDepth 100000 in
theorem framePieces_bad (n : Int) (A : Option Addr) (c : Nat) (L : List (List Int)) (w : World) (hn : n < 0 ∨ 16777216 < n) :
    Calls Tryd.prog 7 #[.int .i64 n, .slice A L.length c] w fun e w' => e = .returned (.bool true) ∧ Below w.heap.size w w' := by
  have HN := Aside0.mk hn
  by_cases h0 : n < 0
  · have hb1 : decide (n < 0) = true := decide_eq_true h0
    clear hn h0
    go_enter Tryd.func7, Tryd.ntmps7
    go_wp2_with (first | (go_at_call 10; refine (wakes_calls _).mono ?_; rintro e w1 ⟨rfl, hB1⟩; have HB1 := Aside0.mk hB1; clear hB1) | (go_at_call 22; refine (new_fault _ _ HN.out).mono ?_; rintro e w' ⟨rfl, hw⟩; rw [hw]; clear hw))
    go_ret
    exact ⟨by first | rfl | simp, HB1.out⟩
  · have hb1 : decide (n < 0) = false := decide_eq_false h0
    have hb2 : decide (16777216 < n) = true := decide_eq_true (by omega)
    clear hn h0
    go_enter Tryd.func7, Tryd.ntmps7
    go_wp2_with (first | (go_at_call 10; refine (wakes_calls _).mono ?_; rintro e w1 ⟨rfl, hB1⟩; have HB1 := Aside0.mk hB1; clear hB1) | (go_at_call 22; refine (new_fault _ _ HN.out).mono ?_; rintro e w' ⟨rfl, hw⟩; rw [hw]; clear hw))
    go_ret
    exact ⟨by first | rfl | simp, HB1.out⟩
set_option maxHeartbeats 4000000 in
set_option maxRecDepth 100000 in
theorem framePieces_calls (n : Int) (A : Option Addr) (c : Nat) (L : List (List Int)) (w : World) (hn0 : 0 ≤ n) (hn1 : n ≤ 16777216) (hC : KM.C w A L.length L) (hb : ∀ x ∈ L, Bytes x) (hl : L.length + L.flatten.length ≤ 1048576) :
    Calls Tryd.prog 7 #[.int .i64 n, .slice A L.length c] w fun e w' => e = .returned (.bool true) ∧ Below w.heap.size w w' := by
  have HC := Aside0.mk hC
  have HL := Aside0.mk hl
  have HN := Aside0.mk (And.intro hn0 hn1)
  have HBY := Aside0.mk hb
  clear hC hl hn0 hn1 hb
  go_enter Tryd.func7, Tryd.ntmps7
  go_wp2_with (fail)
  refine (wakes_calls _).mono ?_
  rintro e w1 ⟨rfl, hB1⟩
  have HB1 := Aside0.mk hB1
  clear hB1
  go_wp2_with (fail)
  refine (new_calls n w1 HN.out.1 HN.out.2).mono ?_
  rintro e w2 ⟨rfl, hrd2, hB2⟩
  have HA2 := Aside0.mk hrd2.cell
  have HB2 := Aside0.mk (below_step HB1.out hB2)
  have hx2 := hrd2.lt
  clear hrd2
  go_wp2_with (fail)
  refine (new_calls n w2 HN.out.1 HN.out.2).mono ?_
  rintro e w3 ⟨rfl, hrd3, hB3⟩
  have HA3 := Aside0.mk (blk_below HA2.out hB3)
  have HA3' := Aside0.mk hrd3.cell
  have HB3 := Aside0.mk (below_step HB2.out hB3)
  have hx3 := hrd3.lt
  clear hrd3 HA2
  go_wp2_with (fail)
  refine (new_calls n w3 HN.out.1 HN.out.2).mono ?_
  rintro e w4 ⟨rfl, hrd4, hB4⟩
  have HA4 := Aside0.mk (blk_below HA3.out hB4)
  have HA4' := Aside0.mk (blk_below HA3'.out hB4)
  have HA4'' := Aside0.mk hrd4.cell
  have HB4 := Aside0.mk (below_step HB3.out hB4)
  have hx4 := hrd4.lt
  clear hrd4 HA3 HA3'
  have HX := Aside0.mk (And.intro HB1.out.size (And.intro hx2 (And.intro hB2.size (And.intro hx3 (And.intro hB3.size (And.intro hx4 hB4.size))))))
  clear hx2 hx3 hx4 hB2 hB3 hB4 HB1 HB2 HB3
  generalize w1.heap.size = ba at *
  generalize w2.heap.size = bb at *
  generalize w3.heap.size = bc at *
  go_wp2_with (fail)
  refine (long_calls A c L w4 (Kd.C_below HC.out HB4.out) HL.out).mono ?_
  rintro e w5 ⟨rfl, hB5⟩
  have HA5 := Aside0.mk (blk_below HA4.out hB5)
  have HA5' := Aside0.mk (blk_below HA4'.out hB5)
  have HA5'' := Aside0.mk (blk_below HA4''.out hB5)
  have HB5 := Aside0.mk (below_step HB4.out hB5)
  have HX5 := Aside0.mk (And.intro HX.out hB5.size)
  clear HA4 HA4' HA4'' hB5
  by_cases hlong : 20000 < L.flatten.length
  · rw [decide_eq_true hlong]
    go_wp2
    go_ret
    exact ⟨by first | rfl | simp, HB5.out⟩
  rw [decide_eq_false hlong]
  have HLG := Aside0.mk hlong
  clear hlong
  go_wp2_with (fail)
  go_loopg [11, 13, 15] (L.length + 1) (fun g v11 v13 v15 wx => ∃ (i : Nat) (v : Value) (held : List Int), v13 = .bool (rfeeds (st0 n) (L.take i)).1.dead ∧ v15 = .int .i64 (i : Int) ∧ Aside0 (FD w w5 ba n (rfeeds (st0 n) (L.take i)).1 v held v11 (rfeeds (st0 n) (L.take i)).2 wx) ∧ Aside0 (i ≤ L.length ∧ L.length < i + g))
  case atStart => exact ⟨0, _, _, rfl, rfl, ⟨FD.start HA5.out HN.out.1 HB5.out⟩, ⟨by omega⟩⟩
  case round =>
    obtain ⟨i, v, held, rfl, rfl, HF, HI⟩ := hrel
    by_cases hlt : i < L.length
    · have hb1 : decide ((i : Int) < (L.length : Int)) = true := decide_eq_true (by omega)
      obtain ⟨gk, rfl⟩ : ∃ g', gk = g' + 1 := ⟨gk - 1, by have := HI.out; omega⟩
      have hw1 : wrap64 ((i : Int) + 1) = ((i + 1 : Nat) : Int) := by have := HL.out; rw [wr64 (by omega) (by omega)]; push_cast; rfl
      have hpl := piece_le L i hlt
      have hpb := piece_bytes HBY.out i hlt
      have hsn : rfeeds (st0 n) (L.take (i + 1)) = ((rfeed (rfeeds (st0 n) (L.take i)).1 (rd_L1 L (i : Int))).1, (rfeeds (st0 n) (L.take i)).2 ++ (rfeed (rfeeds (st0 n) (L.take i)).1 (rd_L1 L (i : Int))).2.1) := by
        rw [List.take_succ_eq_append_getElem hlt, rfeeds_snoc, rd_L1_at L i hlt]
      have hcnt := rfeeds_count (L.take i) (st0 n)
      have p0 : 0 ≤ (i : Int) := by omega
      have q0 : (i : Int) < (L.length : Int) := by omega
      have hwx := below_step (Below.refl w.heap.size w) HF.out.bel
      obtain ⟨ad0, B0, d0, rfl, hx0, hl0, hi0⟩ := at_L1 HC.out (i : Int) p0 q0
      have hx1 : wr.cell? (ad0.add i) = some (.slice B0 (rd_L1 L (i : Int)).length d0) := (hwx.cell (cell_lt hx0)).trans hx0
      obtain ⟨p, hp⟩ : ∃ p, rd_L1 L (i : Int) = p := ⟨_, rfl⟩
      obtain ⟨S, hS⟩ : ∃ S, (rfeeds (st0 n) (L.take i)).1 = S := ⟨_, rfl⟩
      obtain ⟨X, hX⟩ : ∃ X, (rfeeds (st0 n) (L.take i)).2 = X := ⟨_, rfl⟩
      rw [hp] at hx1 hi0 hpl hpb hsn
      rw [hS] at hsn HF ⊢
      rw [hX] at hsn HF hcnt
      have HI0 := Aside0.mk (Kd.C_below hi0 hwx)
      have HP := Aside0.mk (And.intro hpl (And.intro hpb hcnt))
      have HSN := Aside0.mk hsn
      have hcase := rfeed_cases S p
      have hcnt2 := rfeed_count S p
      have hx2 : (wr.alloc (.cells #[] 5)).cell? (ad0.add i) = some (.slice B0 p.length d0) := ((below_alloc (Below.refl wr.heap.size wr) (.cells #[] 5)).cell (cell_lt hx1)).trans hx1
      replace p0 := eq_true p0
      replace q0 := eq_true q0
      clear hx0 hi0 hl0 hp hpl hpb hsn hcnt hS hX hwx
      go_wp2_with (at_builtin; refine Kd.R_append_rows (Kd.int .u8) (w0 := wr) wr.heap.size rfl (.tmp 91) (.tmp 95) 22 5 (.int .u8 0) 1 rfl Tryd.underlying22 info5 rfl (by decide) (by omega) _ [] p _ _ _ (fun _ => True) (fun _ => False) rfl rfl (empty_R _ wr (Nat.le_refl _)) (Kd.C_alloc HI0.out _) (fun _ _ h => h) (fun _ h => h.elim) (fun _ _ => trivial) (below_alloc (Below.refl _ _) _) (by simp) (by have := HP.out; have := HL.out; simp only [List.length_nil]; omega) ?_)
      intro v6 w6 hr6 hB6 _ _
      have hr6' : Kd.R (Kd.int .u8) 5 w6 wr.heap.size (fun _ => True) v6 p := hr6
      obtain ⟨A6, c6, rfl, hcc6, hC6⟩ := Kd.R_reads hr6'
      have HF6 := Aside0.mk (HF.out.below hB6)
      have HC6 := Aside0.mk hC6
      clear hr6 hr6' hcc6 hC6 hB6 HF
      go_wp2_with (fail)
      refine (feedS_calls w w6 ba n v held S A6 c6 p HF6.out.rd HF6.out.rs HF6.out.bel HX.out.1 HN.out.1 HN.out.2 HC6.out HP.out.2.1 (by have := HP.out; have := HL.out; omega)).mono ?_
      rintro e w7 ⟨v', vo, held', rfl, hrs, hrd, hro, hB7, how, hap, hsz⟩
      have HF7 := Aside0.mk (HF6.out.feed (by have := HX5.out; omega) hrs hrd hB7 how hap hsz)
      obtain ⟨Ao, co, rfl, hrows⟩ := ms_rows2 hro
      have HRW := Aside0.mk hrows
      have HLT := Aside0.mk (And.intro (Kd.R_lt HF6.out.out) (And.intro (Kd.R_lt HF7.out.rd.row) (And.intro HF6.out.size hsz)))
      have HCN := Aside0.mk hcnt2
      clear hrs hrd hro hB7 how hap hsz hrows hcnt2 HF6
      obtain ⟨ms, hms⟩ : ∃ ms, (rfeed S p).2.1 = ms := ⟨_, rfl⟩
      obtain ⟨ev, hev⟩ : ∃ ev, (rfeed S p).2.2 = ev := ⟨_, rfl⟩
      obtain ⟨d, hd⟩ : ∃ d, S.dead = d := ⟨_, rfl⟩
      obtain ⟨d', hd'⟩ : ∃ d', (rfeed S p).1.dead = d' := ⟨_, rfl⟩
      rw [hms] at HRW HCN hcase
      rw [hev, hd, hd'] at hcase
      rw [hms, hev, hd]
      have HMS := Aside0.mk hms
      have HDD := Aside0.mk hd'
      clear hms hev hd hd'
      rcases hcase with ⟨rfl, rfl, rfl, rfl⟩ | ⟨rfl, rfl, rfl⟩ | ⟨rfl, rfl, rfl⟩
      all_goals
        go_wp2_with (at_builtin; refine Kd.R_append_rows KM (Rr := KM.M w7 w6.heap.size (fun k => w6.heap.size ≤ k ∧ some k ≠ v'.ownBlock)) (w0 := w7) (W := w7) w5.heap.size rfl (.tmp 127) (.tmp 128) 25 22 (.slice none 0 0) 24 rfl Tryd.underlying25 info22 rfl (by decide) (by omega) u11 X _ _ _ _ (fun k => some k ≠ v'.ownBlock) (fun k => w6.heap.size ≤ k ∧ some k ≠ v'.ownBlock) rfl rfl HF7.out.out HRW.out (fun x cs h => KM.M_lower HLT.out.2.2.1 h) (fun k hk => ⟨hk.2, fun e => by have := HLT.out.1 k e.symm; omega⟩) (fun k hk e => by have := HLT.out.2.1 k e.symm; omega) (Below.refl _ _) HF7.out.size (by have := HCN.out; have := HP.out; have := HL.out; omega) ?_)
        intro v8 w8 hr8 hB8 hg8 _
        have HF8 := Aside0.mk (HF7.out.push (by have := HX5.out; omega) HB5.out.size hr8 hg8)
        clear hr8 hB8 hg8 HF7
        go_wp2
        go_roundg gk
        case measure => have := HI.out; omega
        case rel =>
          refine ⟨i + 1, v', held', ?_, by rw [hw1], ?_, ⟨by have := HI.out; omega⟩⟩
          · rw [HSN.out]; exact congrArg Value.bool HDD.out.symm
          · rw [HSN.out, HMS.out]
            first | exact HF8 | (rw [List.append_nil]; exact HF8)
    · have hb1 : decide ((i : Int) < (L.length : Int)) = false := decide_eq_false (by omega)
      have hi : i = L.length := by have := HI.out; omega
      subst hi
      rw [List.take_length] at HF ⊢
      have hrun : rfeeds (st0 n) L = ((runS (st0 n) L.flatten).1, (runS (st0 n) L.flatten).2.1) := rfeeds_run L _ rfl
      rw [hrun] at HF
      obtain ⟨d, hd⟩ : ∃ d, (rfeeds (st0 n) L).1.dead = d := ⟨_, rfl⟩
      rw [hd]
      rw [hrun] at hd
      have HD := Aside0.mk hd
      clear hrun hd
      go_wp2_with (fail)
      refine (whole_calls A c L wr (Kd.C_below HC.out HF.out.bel) HL.out).mono ?_
      rintro e w9 ⟨vall, rfl, hall, hB9⟩
      have HF9 := Aside0.mk (HF.out.below hB9)
      have HALL := Aside0.mk hall
      have HCB := Aside0.mk (((HF9.out.only bb (by have := HX5.out; omega) (by have := HX5.out; omega)).trans HA5'.out))
      have HCC := Aside0.mk (((HF9.out.only bc (by have := HX5.out; omega) (by have := HX5.out; omega)).trans HA5''.out))
      have HS9 := Aside0.mk (And.intro HF.out.size hB9.size)
      have hFB : Bytes L.flatten := fun y hy => by
        obtain ⟨x, hx, hy2⟩ := List.mem_flatten.1 hy
        exact HBY.out x hx y hy2
      obtain ⟨F, hF⟩ : ∃ F, L.flatten = F := ⟨_, rfl⟩
      rw [hF] at HALL HF9 HD hFB
      have HFL := Aside0.mk (show F.length ≤ 1048576 by rw [← hF]; have := HL.out; omega)
      have HFB := Aside0.mk hFB
      obtain ⟨Aal, cal, rfl⟩ := Kd.R_slice HALL.out
      clear hall hB9 hFB hF HF HI hlt hb1
      go_wp2_with (at_builtin; refine Kd.R_append_rows (Kd.int .u8) (w0 := w9) w9.heap.size rfl (.tmp 134) (.tmp 135) 22 5 (.int .u8 0) 1 rfl Tryd.underlying22 info5 rfl (by decide) (by omega) _ [] F _ _ _ (fun _ => True) (fun _ => False) rfl rfl (empty_R _ w9 (Nat.le_refl _)) (Kd.C_alloc (Kd.R_reads' HALL.out).2.2 _) (fun _ _ h => h) (fun _ h => h.elim) (fun _ _ => trivial) (below_alloc (Below.refl _ _) _) (by simp) (by have := HFL.out; simp only [List.length_nil]; omega) ?_)
      intro v10 w10 hr10 hB10 _ _
      have hr10' : Kd.R (Kd.int .u8) 5 w10 w9.heap.size (fun _ => True) v10 F := hr10
      obtain ⟨A10, c10, rfl, hcc10, hC10⟩ := Kd.R_reads hr10'
      have HF10 := Aside0.mk (HF9.out.below hB10)
      have HALL10 := Aside0.mk (Kd.R_below HALL.out hB10)
      have HCC10 := Aside0.mk (blk_below HCC.out hB10)
      have HFDB := Aside0.mk (FD.start (w0 := w) (blk_below HCB.out hB10) HN.out.1 HF10.out.bel)
      have HC10 := Aside0.mk hC10
      have HS10 := Aside0.mk (And.intro HS9.out hB10.size)
      clear hr10 hr10' hcc10 hC10 hB10 HALL HCB HCC HF9
      go_wp2_with (fail)
      refine (feedS_calls w w10 bb n _ _ _ A10 c10 F HFDB.out.rd HFDB.out.rs HFDB.out.bel (by have := HX5.out; omega) HN.out.1 HN.out.2 HC10.out HFB.out (by have := HFL.out; omega)).mono ?_
      rintro e w11 ⟨vb, vy, heldb, rfl, hrs, hrd, hro, hB11, how, hap, hsz⟩
      have hbb10 : bb < w10.heap.size := by have := HX5.out; have := HS10.out; omega
      have HFB11 := Aside0.mk (HFDB.out.feed hbb10 hrs hrd hB11 how hap hsz)
      have HRO := Aside0.mk hro
      rw [rfeed_st0] at HFB11 HRO
      rw [rfeed_st0]
      simp only at HFB11 HRO ⊢
      have HRA := Aside0.mk (HFB11.out.keepRD HF10.out.rd (by have := HX5.out; omega) (fun k hk => by have := HF10.out.own k hk; have := HX5.out; omega))
      have HRX := Aside0.mk (HFB11.out.keepR HF10.out.out (.inl (by have := HX5.out; omega)))
      have HALL11 := Aside0.mk (HFB11.out.keepR HALL10.out (.inl (by have := HX5.out; have := HS10.out; omega)))
      have HCC11 := Aside0.mk ((HFB11.out.only bc (by have := HX5.out; have := HS10.out; omega) (by have := HX5.out; omega)).trans HCC10.out)
      have HAS := Aside0.mk HF10.out.rs
      have HVA := Aside0.mk HF10.out.own
      have HS11 := Aside0.mk (And.intro HS10.out hsz)
      obtain ⟨Ay, cy, rfl⟩ := Kd.R_slice HRO.out
      obtain ⟨Ax, cx, rfl⟩ := Kd.R_slice HRX.out
      clear hrs hrd hro hB11 how hap hsz hbb10 HFDB HALL10 HCC10 HF10
      obtain ⟨kv, hkv⟩ : ∃ kv : Int, (if (runS (st0 n) F).2.2 = true then (250 : Int) else 0) = kv := ⟨_, rfl⟩
      rw [hkv]
      have HKV := Aside0.mk hkv
      clear hkv
      go_wp2_with (fail)
      go_loopg [12, 14, 21] (F.length + 1) (fun g v12 v14 v21 wx => ∃ (j : Nat) (vc : Value) (heldc : List Int), v14 = .bool (rfeeds (st0 n) ((ones F).take j)).1.dead ∧ v21 = .int .i64 (j : Int) ∧ Aside0 (FD w w11 bc n (rfeeds (st0 n) ((ones F).take j)).1 vc heldc v12 (rfeeds (st0 n) ((ones F).take j)).2 wx) ∧ Aside0 (j ≤ F.length ∧ F.length < j + g))
      case atStart => exact ⟨0, _, _, rfl, rfl, ⟨FD.start HCC11.out HN.out.1 HFB11.out.bel⟩, ⟨by omega⟩⟩
      case round =>
        obtain ⟨j, vc, heldc, rfl, rfl, HF, HI⟩ := hrel
        by_cases hlt : j < F.length
        · have hb1 : decide ((j : Int) < (F.length : Int)) = true := decide_eq_true (by omega)
          obtain ⟨gk, rfl⟩ : ∃ g', gk = g' + 1 := ⟨gk - 1, by have := HI.out; omega⟩
          have hw1 : wrap64 ((j : Int) + 1) = ((j + 1 : Nat) : Int) := by have := HFL.out; rw [wr64 (by omega) (by omega)]; push_cast; rfl
          have hall2 := (Kd.R_reads' (HF.out.keepR HALL11.out (.inl (by have := HX5.out; have := HS11.out; omega)))).2.2
          have p0 : 0 ≤ (j : Int) := by omega
          have q0 : (j : Int) < (F.length : Int) := by omega
          obtain ⟨ad0, rfl, hx1⟩ := Kd.at_int hall2 (j : Int) p0 q0
          have hx2 : wr.cell? (ad0.add j) = some (.int .u8 (rd F (j : Int))) := hx1
          have hsn : rfeeds (st0 n) ((ones F).take (j + 1)) = ((rfeed (rfeeds (st0 n) ((ones F).take j)).1 [rd F (j : Int)]).1, (rfeeds (st0 n) ((ones F).take j)).2 ++ (rfeed (rfeeds (st0 n) ((ones F).take j)).1 [rd F (j : Int)]).2.1) := by
            rw [ones_take F j hlt, rfeeds_snoc]
          have hcnt := rfeeds_count ((ones F).take j) (st0 n)
          have hcnt3 := flat_le (ones F) j
          rw [ones_flat] at hcnt3
          have hpb : Bytes [rd F (j : Int)] := by
            intro y hy
            rw [List.mem_singleton.1 hy, rd_at F j hlt]
            exact HFB.out _ (List.getElem_mem hlt)
          obtain ⟨x, hx⟩ : ∃ x, rd F (j : Int) = x := ⟨_, rfl⟩
          obtain ⟨S, hS⟩ : ∃ S, (rfeeds (st0 n) ((ones F).take j)).1 = S := ⟨_, rfl⟩
          obtain ⟨X, hX⟩ : ∃ X, (rfeeds (st0 n) ((ones F).take j)).2 = X := ⟨_, rfl⟩
          rw [hx] at hx2 hsn hpb
          rw [hS] at hsn HF ⊢
          rw [hX] at hsn HF hcnt
          have HP := Aside0.mk (And.intro hcnt3 (And.intro hpb hcnt))
          have HSN := Aside0.mk hsn
          have hcase := rfeed_cases S [x]
          have hcnt2 := rfeed_count S [x]
          replace p0 := eq_true p0
          replace q0 := eq_true q0
          clear hall2 hx1 hsn hcnt hcnt3 hpb hx hS hX
          go_wp2_with (fail)
          have HAL := Aside0.mk (below_alloc (Below.refl wr.heap.size wr) (.cells #[.int .u8 x] 5))
          have HF6 := Aside0.mk (HF.out.below HAL.out)
          refine (feedS_calls w _ bc n vc heldc S _ _ [x] HF6.out.rd HF6.out.rs HF6.out.bel (by have := HX5.out; omega) HN.out.1 HN.out.2 (C_of_cells _ wr.heap.size _ 5 (0, 0) [x] (Deep.blk_alloc_new wr _) rfl (by simp)) HP.out.2.1 (by simp)).mono ?_
          rintro e w7 ⟨v', vo, held', rfl, hrs, hrd, hro, hB7, how, hap, hsz⟩
          have HF7 := Aside0.mk (HF6.out.feed (by have := HX5.out; have := HS11.out; omega) hrs hrd hB7 how hap hsz)
          obtain ⟨Ao, co, rfl, hrows⟩ := ms_rows2 hro
          have HRW := Aside0.mk hrows
          have HLT := Aside0.mk (And.intro (Kd.R_lt HF6.out.out) (And.intro (Kd.R_lt HF7.out.rd.row) (And.intro HF6.out.size hsz)))
          have HCN := Aside0.mk hcnt2
          clear hrs hrd hro hB7 how hap hsz hrows hcnt2 HF6 HF
          generalize (wr.alloc (.cells #[.int .u8 x] 5)).heap.size = wz at HRW HLT
          obtain ⟨ms, hms⟩ : ∃ ms, (rfeed S [x]).2.1 = ms := ⟨_, rfl⟩
          obtain ⟨ev, hev⟩ : ∃ ev, (rfeed S [x]).2.2 = ev := ⟨_, rfl⟩
          obtain ⟨dc, hd⟩ : ∃ d, S.dead = d := ⟨_, rfl⟩
          obtain ⟨d', hd'⟩ : ∃ d', (rfeed S [x]).1.dead = d' := ⟨_, rfl⟩
          rw [hms] at HRW HCN hcase
          rw [hev, hd, hd'] at hcase
          rw [hms, hev, hd]
          have HMS := Aside0.mk hms
          have HDD := Aside0.mk hd'
          clear hms hev hd hd'
          rcases hcase with ⟨rfl, rfl, rfl, rfl⟩ | ⟨rfl, rfl, rfl⟩ | ⟨rfl, rfl, rfl⟩
          all_goals
            go_wp2_with (at_builtin; refine Kd.R_append_rows KM (Rr := KM.M w7 wz (fun k => wz ≤ k ∧ some k ≠ v'.ownBlock)) (w0 := w7) (W := w7) w11.heap.size rfl (.tmp 161) (.tmp 162) 25 22 (.slice none 0 0) 24 rfl Tryd.underlying25 info22 rfl (by decide) (by omega) u12 X _ _ _ _ (fun k => some k ≠ v'.ownBlock) (fun k => wz ≤ k ∧ some k ≠ v'.ownBlock) rfl rfl HF7.out.out HRW.out (fun x cs h => KM.M_lower HLT.out.2.2.1 h) (fun k hk => ⟨hk.2, fun e => by have := HLT.out.1 k e.symm; omega⟩) (fun k hk e => by have := HLT.out.2.1 k e.symm; omega) (Below.refl _ _) HF7.out.size (by have := HCN.out; have := HP.out; have := HFL.out; simp only [List.length_singleton] at *; omega) ?_)
            intro v8 w8 hr8 hB8 hg8 _
            have HF8 := Aside0.mk (HF7.out.push (by have := HX5.out; have := HS11.out; omega) (by have := HX5.out; have := HS11.out; have := HB5.out.size; omega) hr8 hg8)
            clear hr8 hB8 hg8 HF7
            go_wp2
            go_roundg gk
            case measure => have := HI.out; omega
            case rel =>
              refine ⟨j + 1, v', held', ?_, by rw [hw1], ?_, ⟨by have := HI.out; omega⟩⟩
              · rw [HSN.out]; exact congrArg Value.bool HDD.out.symm
              · rw [HSN.out, HMS.out]
                first | exact HF8 | (rw [List.append_nil]; exact HF8)
        · have hb1 : decide ((j : Int) < (F.length : Int)) = false := decide_eq_false (by omega)
          have hj : j = F.length := by have := HI.out; omega
          subst hj
          have hto : (ones F).take F.length = ones F := by rw [← ones_len F, List.take_length]
          have hrunc : rfeeds (st0 n) (ones F) = ((runS (st0 n) F).1, (runS (st0 n) F).2.1) := by rw [rfeeds_run _ _ rfl, ones_flat]
          rw [hto, hrunc] at HF
          rw [hto, hrunc]
          have hend := runS_end n F
          obtain ⟨⟨T, M, f⟩, hR⟩ : ∃ t, runS (st0 n) F = t := ⟨_, rfl⟩
          rw [hR] at HF HFB11 HRA HAS HRO HRX HKV HD hend
          rw [hR]
          simp only at HF HFB11 HRA HAS HRO HRX HKV HD hend ⊢
          have hra := HF.out.keepRD HRA.out (by have := HX5.out; omega) (fun k hk => by have := HVA.out k hk; have := HX5.out; omega)
          have hrb := HF.out.keepRD HFB11.out.rd (by have := HX5.out; omega) (fun k hk => by have := HFB11.out.own k hk; have := HX5.out; have := HS11.out; omega)
          have hrc := HF.out.rd
          have hxx := (Kd.R_reads' (HF.out.keepR HRX.out (.inl (by have := HX5.out; omega)))).2.2
          have hyy := (Kd.R_reads' (HF.out.keepR HRO.out (.inl (by have := HX5.out; have := HS11.out; omega)))).2.2
          obtain ⟨Az, cz, rfl⟩ := Kd.R_slice HF.out.out
          have hzz := (Kd.R_reads' HF.out.out)
          have hml : M.length ≤ 1073741824 := by have := runS_count F (st0 n); rw [hR] at this; have := HFL.out; simp only at *; omega
          obtain ⟨N, hN⟩ : ∃ N, T.header + T.body.length = N := ⟨_, rfl⟩
          have hla := HAS.out.len
          have hlb := HFB11.out.rs.len
          have hlc := HF.out.rs.len
          have htop := HAS.out.top
          rw [hN] at hla hlb hlc
          rw [hla] at htop
          rw [hend] at hra hrb hrc HD
          rw [hend]
          obtain ⟨D, hD⟩ : ∃ D : Bool, (!f && decide (N = 0)) = D := ⟨_, rfl⟩
          have CA := Aside0.mk (fun W (hB : Below wr.heap.size wr W) => show Calls Tryd.prog 12 #[.pointer (some ⟨ba, 0, none⟩)] W fun e w' => e = .returned (.int .i64 (N : Int)) ∧ w' = W by have := held_calls _ ba _ _ _ _ W (hra.below hB); rw [hla] at this; exact this)
          have CB := Aside0.mk (fun W (hB : Below wr.heap.size wr W) => show Calls Tryd.prog 12 #[.pointer (some ⟨bb, 0, none⟩)] W fun e w' => e = .returned (.int .i64 (N : Int)) ∧ w' = W by have := held_calls _ bb _ _ _ _ W (hrb.below hB); rw [hlb] at this; exact this)
          have CC := Aside0.mk (fun W (hB : Below wr.heap.size wr W) => show Calls Tryd.prog 12 #[.pointer (some ⟨bc, 0, none⟩)] W fun e w' => e = .returned (.int .i64 (N : Int)) ∧ w' = W by have := held_calls _ bc _ _ _ _ W (hrc.below hB); rw [hlc] at this; exact this)
          have DA := Aside0.mk (fun W (hB : Below wr.heap.size wr W) => show Calls Tryd.prog 13 #[.pointer (some ⟨ba, 0, none⟩)] W fun e w' => e = .returned (.bool D) ∧ w' = W by have := done_calls _ ba _ _ _ _ W (hra.below hB); rw [hla, hD] at this; exact this)
          have DB := Aside0.mk (fun W (hB : Below wr.heap.size wr W) => show Calls Tryd.prog 13 #[.pointer (some ⟨bb, 0, none⟩)] W fun e w' => e = .returned (.bool D) ∧ w' = W by have := done_calls _ bb _ _ _ _ W (hrb.below hB); rw [hlb, hD] at this; exact this)
          have DC := Aside0.mk (fun W (hB : Below wr.heap.size wr W) => show Calls Tryd.prog 13 #[.pointer (some ⟨bc, 0, none⟩)] W fun e w' => e = .returned (.bool D) ∧ w' = W by have := done_calls _ bc _ _ _ _ W (hrc.below hB); rw [hlc, hD] at this; exact this)
          have HXX := Aside0.mk hxx
          have HYY := Aside0.mk hyy
          have HZZ := Aside0.mk hzz.2.2
          have HML := Aside0.mk hml
          have HBE := Aside0.mk HF.out.bel
          have hw4 : wrap64 (4096 + n) = 4096 + n := wr64 (by have := HN.out; omega) (by have := HN.out; omega)
          have htp : decide ((N : Int) ≤ 4096 + n) = true := decide_eq_true htop
          have HFZ := Aside0.mk (show f = true → N = 0 by
            intro hf
            rw [hf] at hend
            have := (HAS.out.gone hend).1
            rw [← hN, this]; rfl)
          obtain rfl : f = d := HD.out
          have HKV2 := HKV
          clear hxx hyy hzz hml hla hlb hlc htop hra hrb hrc hend hN hR HD HF HFB11 HRA HAS HRO HRX HVA hto hrunc hlt hb1 HI HALL11
          cases f with
          | true =>
            obtain rfl : N = 0 := HFZ.out rfl
            obtain rfl : (250 : Int) = kv := HKV.out
            obtain rfl : false = D := hD
            go_wp2_with (fail)
            refine (CA.out _ (Below.refl _ _)).mono ?_
            rintro e w' ⟨rfl, hw⟩
            rw [hw]
            clear hw
            go_wp2_with (fail)
            refine (CB.out _ (Below.refl _ _)).mono ?_
            rintro e w' ⟨rfl, hw⟩
            rw [hw]
            clear hw
            go_wp2_with (fail)
            refine (CC.out _ (Below.refl _ _)).mono ?_
            rintro e w' ⟨rfl, hw⟩
            rw [hw]
            clear hw
            go_wp2_with (fail)
            refine (CB.out _ (Below.refl _ _)).mono ?_
            rintro e w' ⟨rfl, hw⟩
            rw [hw]
            clear hw
            go_wp2_with (fail)
            refine (DA.out _ (Below.refl _ _)).mono ?_
            rintro e w' ⟨rfl, hw⟩
            rw [hw]
            clear hw
            go_wp2_with (fail)
            refine (DB.out _ (Below.refl _ _)).mono ?_
            rintro e w' ⟨rfl, hw⟩
            rw [hw]
            clear hw
            go_wp2_with (fail)
            refine (DC.out _ (Below.refl _ _)).mono ?_
            rintro e w' ⟨rfl, hw⟩
            rw [hw]
            clear hw
            go_wp2_with (fail)
            refine (DB.out _ (Below.refl _ _)).mono ?_
            rintro e w' ⟨rfl, hw⟩
            rw [hw]
            clear hw
            go_wp2_with (fail)
            refine (sameAll_true _ _ _ _ M wr HXX.out HYY.out HML.out).mono ?_
            rintro e w14 ⟨rfl, hS1⟩
            have HS1 := Aside0.mk hS1
            clear hS1
            go_wp2_with (fail)
            refine (sameAll_true _ _ _ _ M w14 (Kd.C_below HZZ.out HS1.out) (Kd.C_below HYY.out HS1.out) HML.out).mono ?_
            rintro e w15 ⟨rfl, hS2⟩
            have HS2 := Aside0.mk (below_step HS1.out hS2)
            clear hS2
            go_wp2_with (fail)
            refine (CA.out _ HS2.out).mono ?_
            rintro e w' ⟨rfl, hw⟩
            rw [hw]
            clear hw
            go_wp2_with (fail)
            refine (DA.out _ HS2.out).mono ?_
            rintro e w' ⟨rfl, hw⟩
            rw [hw]
            clear hw
            go_wp2_with (fail)
            refine (CA.out _ HS2.out).mono ?_
            rintro e w' ⟨rfl, hw⟩
            rw [hw]
            clear hw
            go_wp2
            go_ret
            exact ⟨by first | rfl | (simp; done) | (simp; have := HN.out; omega), below_step HBE.out HS2.out⟩
          | false =>
            obtain rfl : (0 : Int) = kv := HKV.out
            go_wp2_with (fail)
            refine (CA.out _ (Below.refl _ _)).mono ?_
            rintro e w' ⟨rfl, hw⟩
            rw [hw]
            clear hw
            go_wp2_with (fail)
            refine (CB.out _ (Below.refl _ _)).mono ?_
            rintro e w' ⟨rfl, hw⟩
            rw [hw]
            clear hw
            go_wp2_with (fail)
            refine (CC.out _ (Below.refl _ _)).mono ?_
            rintro e w' ⟨rfl, hw⟩
            rw [hw]
            clear hw
            go_wp2_with (fail)
            refine (CB.out _ (Below.refl _ _)).mono ?_
            rintro e w' ⟨rfl, hw⟩
            rw [hw]
            clear hw
            go_wp2_with (fail)
            refine (DA.out _ (Below.refl _ _)).mono ?_
            rintro e w' ⟨rfl, hw⟩
            rw [hw]
            clear hw
            go_wp2_with (fail)
            refine (DB.out _ (Below.refl _ _)).mono ?_
            rintro e w' ⟨rfl, hw⟩
            rw [hw]
            clear hw
            go_wp2_with (fail)
            refine (DC.out _ (Below.refl _ _)).mono ?_
            rintro e w' ⟨rfl, hw⟩
            rw [hw]
            clear hw
            go_wp2_with (fail)
            refine (DB.out _ (Below.refl _ _)).mono ?_
            rintro e w' ⟨rfl, hw⟩
            rw [hw]
            clear hw
            go_wp2_with (fail)
            refine (sameAll_true _ _ _ _ M wr HXX.out HYY.out HML.out).mono ?_
            rintro e w14 ⟨rfl, hS1⟩
            have HS1 := Aside0.mk hS1
            clear hS1
            go_wp2_with (fail)
            refine (sameAll_true _ _ _ _ M w14 (Kd.C_below HZZ.out HS1.out) (Kd.C_below HYY.out HS1.out) HML.out).mono ?_
            rintro e w15 ⟨rfl, hS2⟩
            have HS2 := Aside0.mk (below_step HS1.out hS2)
            clear hS2
            go_wp2_with (fail)
            refine (CA.out _ HS2.out).mono ?_
            rintro e w' ⟨rfl, hw⟩
            rw [hw]
            clear hw
            go_wp2
            go_ret
            exact ⟨by first | rfl | (simp; done) | (simp; have := HN.out; omega), below_step HBE.out HS2.out⟩
theorem framePieces_all (n : Int) (A : Option Addr) (c : Nat) (L : List (List Int)) (w : World) (hC : KM.C w A L.length L) (hb : ∀ x ∈ L, Bytes x) (hl : L.length + L.flatten.length ≤ 1048576) :
    Calls Tryd.prog 7 #[.int .i64 n, .slice A L.length c] w fun e w' => e = .returned (.bool true) ∧ Below w.heap.size w w' := by
  by_cases h : n < 0 ∨ 16777216 < n
  · exact framePieces_bad n A c L w h
  · exact framePieces_calls n A c L w (by omega) (by omega) hC hb hl
end Go.Proofs.YtgdiilpocoimgaaDoor.Hand
