/- The law FrameHeads: its walk. -/
import Derived.Test.YtgdiilpocoimgaaDoorFMsgs
import Derived.Test.YtgdiilpocoimgaaDoorFHeads1
set_option linter.unusedVariables false
set_option linter.unusedSimpArgs false
namespace Go.Proofs.YtgdiilpocoimgaaDoor.Hand
open Go.RowKit Go.Proofs.YtgdiilpocoimgaaDoor.Frm Go.Proofs.YtgdiilpocoimgaaDoorW.PrintWords Go.Proofs.YtgdiilpocoimgaaDoorW.PrintLast Go.Proofs.YtgdiilpocoimgaaDoorW.PrintMore
theorem ys0 : (⟨#[67, 111, 110, 116, 101, 110, 116, 45, 76, 101, 110, 103, 116, 104, 58, 32, 49, 13, 10, 120, 58]⟩ : ByteArray) = strOfNums (ysL 0) := rfl
theorem ys_step (n : Nat) : strOfNums (ysL n) ++ (⟨#[121]⟩ : ByteArray) = strOfNums (ysL (n + 1)) := by
  rw [show (⟨#[121]⟩ : ByteArray) = strOfNums [121] from rfl, str_append]
  unfold ysL
  rw [List.append_assoc, List.replicate_succ']
theorem ys_end (m : Nat) : strOfNums (ysL (4070 + m)) ++ (⟨#[13, 10, 13, 10, 122]⟩ : ByteArray) = strOfNums (headsL m) := by
  rw [show (⟨#[13, 10, 13, 10, 122]⟩ : ByteArray) = strOfNums endH from rfl, str_append]; rfl
theorem str_take (L : List Int) (t : Nat) : (strOfNums L).extract 0 t = strOfNums (L.take t) := by
  apply ByteArray.ext
  rw [ByteArray.data_extract]
  simp [strOfNums, List.map_take]
theorem str_drop (L : List Int) (t : Nat) : (strOfNums L).extract t L.length = strOfNums (L.drop t) := by
  apply ByteArray.ext
  rw [ByteArray.data_extract]
  simp [strOfNums, List.map_drop]
  rw [List.take_of_length_le (by simp)]
set_option maxHeartbeats 4000000 in
set_option maxRecDepth 100000 in
theorem frameHeads_calls (a b : Int) (w : World) (ha : -9223372036854775808 ≤ a ∧ a ≤ 9223372036854775807) (hb : -9223372036854775808 ≤ b ∧ b ≤ 9223372036854775807) :
    Calls Tryd.prog 9 #[.int .i64 a, .int .i64 b] w fun e w' => e = .returned (.bool true) ∧ Below w.heap.size w w' := by
  have HA := Aside0.mk ha
  have HBB := Aside0.mk hb
  clear ha hb
  go_enter Tryd.func9, Tryd.ntmps9
  go_wp2_with (first | (go_at_call 10; refine (wakes_calls _).mono ?_; rintro e w1 ⟨rfl, hB1⟩; have HB1 := Aside0.mk hB1; clear hB1))
  obtain ⟨m, hm, hm2⟩ : ∃ m : Nat, (wrap64 (a.tmod 3 + 3)).tmod 3 = (m : Int) ∧ m ≤ 2 := by
    have h1 := Int.tmod_lt_of_pos a (show (0 : Int) < 3 by decide)
    have h2 := Int.lt_tmod_of_pos a (show (0 : Int) < 3 by decide)
    rw [wr64 (by omega) (by omega)]
    have h3 := Int.tmod_lt_of_pos (a.tmod 3 + 3) (show (0 : Int) < 3 by decide)
    have h4 := Int.tmod_nonneg (a := a.tmod 3 + 3) 3 (by omega)
    exact ⟨((a.tmod 3 + 3).tmod 3).toNat, by omega, by omega⟩
  rw [hm]
  have HM := Aside0.mk hm2
  clear hm hm2
  go_loopg [5] (4080 + m + 1) (fun g v5 wx => ∃ n : Nat, v5 = .string (strOfNums (ysL n)) ∧ Aside0 (n ≤ 4070 + m ∧ 4070 + m < n + g ∧ 0 < g) ∧ Aside0 (Below w.heap.size w wx))
  case atStart => exact ⟨0, by rw [← ys0], ⟨by omega⟩, HB1⟩
  case round =>
    obtain ⟨n, rfl, HN, HB⟩ := hrel
    obtain ⟨gk, rfl⟩ : ∃ g', gk = g' + 1 := ⟨gk - 1, by have := HN.out; omega⟩
    have hsz : (strOfNums (ysL n)).size = 21 + n := by rw [strOfNums_size, ysL_len]
    have hst := ys_step n
    have hw1 : wrap64 (4091 + (m : Int)) = 4091 + (m : Int) := by have := HM.out; exact wr64 (by omega) (by omega)
    by_cases hlt : n < 4070 + m
    · have hb1 : decide (((21 + n : Nat) : Int) < 4091 + (m : Int)) = true := decide_eq_true (by omega)
      have hs1 : ¬ 9223372036854775807 < 21 + n + 1 := by have := HN.out; have := HM.out; omega
      go_wp2
      go_roundg gk
      case measure => have := HN.out; omega
      case rel => exact ⟨n + 1, rfl, ⟨by have := HN.out; omega⟩, HB⟩
    · have hb1 : decide (((21 + n : Nat) : Int) < 4091 + (m : Int)) = false := decide_eq_false (by omega)
      have hn : n = 4070 + m := by have := HN.out; omega
      subst hn
      have hend := ys_end m
      have hs2 : ¬ 9223372036854775807 < 21 + (4070 + m) + 5 := by have := HM.out; omega
      have hsz2 : (strOfNums (headsL m)).size = 4096 + m := by rw [strOfNums_size, headsL_len]
      obtain ⟨t, ht, ht2⟩ : ∃ t : Nat, (wrap64 (b.tmod (4096 + (m : Int)) + (4096 + (m : Int)))).tmod (4096 + (m : Int)) = (t : Int) ∧ t < 4096 + m := by
        have hm := HM.out
        have h1 := Int.tmod_lt_of_pos b (show (0 : Int) < 4096 + (m : Int) by omega)
        have h2 := Int.lt_tmod_of_pos b (show (0 : Int) < 4096 + (m : Int) by omega)
        rw [wr64 (by omega) (by omega)]
        have h3 := Int.tmod_lt_of_pos (b.tmod (4096 + (m : Int)) + (4096 + (m : Int))) (show (0 : Int) < 4096 + (m : Int) by omega)
        have h4 := Int.tmod_nonneg (a := b.tmod (4096 + (m : Int)) + (4096 + (m : Int))) (4096 + (m : Int)) (by omega)
        exact ⟨((b.tmod (4096 + (m : Int)) + (4096 + (m : Int))).tmod (4096 + (m : Int))).toNat, by omega, by omega⟩
      obtain ⟨L1, hL1⟩ : ∃ L1, (headsL m).take t = L1 := ⟨_, rfl⟩
      obtain ⟨L2, hL2⟩ : ∃ L2, (headsL m).drop t = L2 := ⟨_, rfl⟩
      have hl1 : L1.length ≤ 4098 := by rw [← hL1, List.length_take, headsL_len]; have := HM.out; omega
      have hl2 : L2.length ≤ 4098 := by rw [← hL2, List.length_drop, headsL_len]; have := HM.out; omega
      have hB1 : Bytes L1 := by rw [← hL1]; exact fun x hx => headsL_bytes m x (List.mem_of_mem_take hx)
      have hB2 : Bytes L2 := by rw [← hL2]; exact fun x hx => headsL_bytes m x (List.mem_of_mem_drop hx)
      have hF := fun k1 hk1 => heads_feeds m HM.out t k1 hk1
      rw [hL1, hL2] at hF
      have kb1 : ∀ W, (convert 9 22 (.string ((strOfNums (headsL m)).extract 0 t))).run Tryd.prog W = .ok (.slice (some ⟨W.heap.size, 0, none⟩) L1.length (grownCap W L1.length 0 5)) (Lib.bytesWorld W 5 (strOfNums L1)) := by
        intro W; rw [str_take, hL1]; exact conv_bytes L1 W
      have kb2 : ∀ W, (convert 9 22 (.string ((strOfNums (headsL m)).extract t (4096 + m)))).run Tryd.prog W = .ok (.slice (some ⟨W.heap.size, 0, none⟩) L2.length (grownCap W L2.length 0 5)) (Lib.bytesWorld W 5 (strOfNums L2)) := by
        intro W; rw [← headsL_len m, str_drop, hL2]; exact conv_bytes L2 W
      have HL := Aside0.mk (And.intro hl1 (And.intro hl2 (And.intro hB1 hB2)))
      have HF := Aside0.mk hF
      clear hst hw1 hlt hl1 hl2 hB1 hB2 hF hL1 hL2
      go_wp2_with (first | (go_at_call 22; refine (new_calls 1 wr (by decide) (by decide)).mono ?_; rintro e w2 ⟨rfl, hrd, hB2⟩; have HRD := Aside0.mk hrd; have HB2 := Aside0.mk (below_step HB.out hB2); have HB12 := Aside0.mk hB2; clear hrd hB2))
      have HA := Aside0.mk (bytes_below (Below.refl w2.heap.size w2) (Nat.le_refl _) 5 (strOfNums L1))
      refine (feed_calls wr _ wr.heap.size 1 _ [] _ _ L1 (HRD.out.below HA.out) (below_step HB12.out HA.out) (Nat.le_refl _) (by decide) (by decide) (conv_C L1 w2 HL.out.2.2.1 (by have := HL.out; omega)) (by decide) HL.out.2.2.1 (by have := HL.out; simp; omega)).mono ?_
      rintro e w3 ⟨v3, vo3, k3, rfl, hk3, hrd3, hro3, hB3, hown3, hap3, hsz3⟩
      obtain ⟨m1, held1, f1, e1, hf1, hhb, hhl, hrest⟩ := HF.out k3 (by simpa using hk3)
      rw [List.nil_append, e1] at hrd3 hro3 ⊢
      simp only at hrd3 hro3 ⊢
      have HB3' := Aside0.mk (below_step HB.out hB3)
      have hbase3 := (Kd.R_base hro3)
      rw [Lib.bytesWorld_size] at hro3 hbase3 hsz3
      cases f1 with
      | true =>
        obtain ⟨rfl, rfl, hm1⟩ := hf1 rfl
        have hrd3' : RD wr.heap.size wr.heap.size 1 v3 [] true w3 := hrd3
        obtain ⟨Ao, co, rfl⟩ := Kd.R_slice hro3
        have hlen : ¬ ((4096 : Int) + (m : Int) - 1 ≤ 4096) := by omega
        have hB3' := HB3'.out
        have HR3 := Aside0.mk hro3
        clear hro3 hrest hk3
        go_wp2_with (fail)
        have HA3 := Aside0.mk (bytes_below (Below.refl w3.heap.size w3) (Nat.le_refl _) 5 (strOfNums L2))
        have HRD3 := Aside0.mk (hrd3'.below HA3.out)
        refine (feed_dead _ _ _ _ _ _ _ _ _ HRD3.out).mono ?_
        rintro e w4 ⟨rfl, hw4⟩
        rw [hw4]; clear hw4
        clear hrd3'
        have HBF := Aside0.mk (below_step hB3' HA3.out)
        have HR4 := Aside0.mk (Kd.R_below HR3.out HA3.out)
        have HS5 := Aside0.mk (Nat.le_trans hsz3 HA3.out.size)
        generalize Lib.bytesWorld w3 5 (strOfNums L2) = w5 at HRD3 HBF HR4 HS5 ⊢
        go_wp2_with (at_builtin; refine Kd.R_append_rows (Kd.slice 5 (Kd.int .u8)) (w0 := w5) (W := w5) (w2.heap.size + 1) rfl (.tmp 67) (.tmp 68) 25 22 (.slice none 0 0) 24 rfl Tryd.underlying25 info22 rfl (by decide) (by omega) (.slice Ao 0 co) [] [] none 0 0 (fun _ => True) (fun _ => False) rfl rfl ?aO ?aC (fun _ _ h => h) (fun _ h => h.elim) (fun _ _ => trivial) (Below.refl _ _) ?aS ?aL ?_)
        case aO => exact Kd.R_mono HR4.out (fun _ _ => trivial)
        case aC => exact rows_none _ _ _
        case aS => exact HS5.out
        case aL => decide
        intro v5 w6 hr5 hB5 hg5 _
        obtain ⟨A5, c5, rfl⟩ := Kd.R_slice hr5
        have HRD6 := Aside0.mk (HRD3.out.grown hg5 (fun e => by have := Kd.R_base HR4.out _ e.symm; have := HB12.out.size; omega) (fun k hk e => by have := HR4.out.1 k e.symm; exact this hk.symm))
        have hB6 : Below w.heap.size w w6 := below_weaken HBF.out (by have := HB2.out.size; omega) hB5
        clear hr5 hB5 hg5
        go_wp2_with (first | (go_at_call 13; refine (done_calls _ _ _ _ _ _ _ HRD6.out).mono ?_; rintro e w' ⟨rfl, hw⟩; rw [hw]; clear hw))
        go_ret
        exact ⟨by first | rfl | simp, hB6⟩
      | false =>
        have hrd3' : RD wr.heap.size wr.heap.size 1 v3 held1 false w3 := hrd3
        have HR3 := Aside0.mk hro3
        obtain ⟨Ao, co, rfl⟩ := Kd.R_slice hro3
        have HHL := Aside0.mk (And.intro hhb hhl)
        have HREST := Aside0.mk (hrest rfl)
        have HB13 := Aside0.mk hB3
        clear hro3 hrest hk3 hf1 hhb hhl hB3
        go_wp2_with (fail)
        have HA3 := Aside0.mk (bytes_below (Below.refl w3.heap.size w3) (Nat.le_refl _) 5 (strOfNums L2))
        have HRD3 := Aside0.mk (hrd3'.below HA3.out)
        refine (feed_calls wr _ wr.heap.size 1 _ _ _ _ L2 HRD3.out (below_step HB13.out HA3.out) (Nat.le_refl _) (by decide) (by decide) (conv_C L2 w3 HL.out.2.2.2 (by have := HL.out; omega)) HHL.out.1 HL.out.2.2.2 (by have := HL.out; have := HHL.out; omega)).mono ?_
        rintro e w5 ⟨v5, vo5, k5, rfl, hk5, hrd5, hro5, hB5, hown5, hap5, hsz5⟩
        obtain ⟨m2, held2, f2, e2, hg1, hg2⟩ := HREST.out k5 hk5
        rw [e2] at hrd5 hro5 ⊢
        simp only at hrd5 hro5 ⊢
        have HR4 := Aside0.mk (R_apart (Kd.R_below HR3.out HA3.out) hap5 (fun k hk hok => ⟨fun e => by have := HB12.out.size; omega, hok⟩))
        rw [Lib.bytesWorld_size] at hro5 hsz5
        have HBF := Aside0.mk (below_step HB.out hB5)
        have HR5 := Aside0.mk hro5
        have hlt5 : ∀ k, (Value.slice Ao m1.length co).ownBlock = some k → k < w3.heap.size + 1 := fun k hk => by have := Kd.R_lt HR3.out k hk; omega
        have HLT5 := Aside0.mk hlt5
        have HS5 := Aside0.mk (And.intro hsz3 hsz5)
        obtain ⟨A5, c5, rfl, hrows⟩ := ms_rows HR5.out
        have HRW := Aside0.mk hrows
        have hne5 : ∀ k, v5.ownBlock = some k → some k ≠ (Value.slice Ao m1.length co).ownBlock := fun k hk e => by
          rcases hown5 with h | h | ⟨g, h, hge⟩
          · exact HR3.out.1 k e.symm (hk.symm.trans h)
          · rw [h] at hk; cases hk
          · rw [h] at hk; injection hk with hk; have := HLT5.out k e.symm; rw [Lib.bytesWorld_size] at hge; omega
        have HNE5 := Aside0.mk hne5
        obtain ⟨ev, hev⟩ : ∃ ev : Int, (if f2 = true then (250 : Int) else 0) = ev := ⟨_, rfl⟩
        rw [hev]
        have HEV := Aside0.mk hev
        have hml : m1.length + m2.length ≤ 1 := by
          by_cases hc : m ≤ 1
          · have := congrArg List.length (hg1 hc).2.1; rw [List.length_append] at this; simp at this; omega
          · obtain ⟨_, rfl, rfl⟩ := hg2 hc; simp
        have hRD5 : ∃ dd, dd = f2 ∧ RD wr.heap.size wr.heap.size 1 v5 held2 dd w5 := ⟨decide ((if f2 = true then (250 : Int) else 0) = 250), by cases f2 <;> rfl, hrd5⟩
        obtain ⟨_, rfl, hRD5⟩ := hRD5
        have HRD5 := Aside0.mk hRD5
        have HML := Aside0.mk hml
        have HG := Aside0.mk (And.intro hg1 hg2)
        clear hRD5 hrd5 hro5 hB5 hown5 hap5 hsz5 hlt5 hrows hml hg1 hg2 hrd3' hk5 e1 e2 hne5 hev
        go_wp2_with (at_builtin; refine Kd.R_append_rows (Kd.slice 5 (Kd.int .u8)) (w0 := w5) (W := w5) (w2.heap.size + 1) rfl (.tmp 67) (.tmp 68) 25 22 (.slice none 0 0) 24 rfl Tryd.underlying25 info22 rfl (by decide) (by omega) (.slice Ao m1.length co) m1 m2 A5 m2.length c5 (fun _ => True) (fun k => w3.heap.size + 1 ≤ k) rfl rfl ?aO HRW.out ?aM ?aK (fun _ _ => trivial) (Below.refl _ _) ?aS ?aL ?_)
        case aO => exact Kd.R_mono HR4.out (fun _ _ => trivial)
        case aM => exact fun x cs h => (Kd.slice 5 (Kd.int .u8)).M_lower (by have := HS5.out.1; omega) h
        case aK => exact fun k hk => ⟨trivial, fun e => by have := HLT5.out k e.symm; omega⟩
        case aS => have := HS5.out; omega
        case aL => have := HML.out; omega
        intro v6 w6 hr6 hB6' hg6 _
        have HRD6 := Aside0.mk (HRD5.out.grown hg6 (fun e => by have := Kd.R_base HR4.out _ e.symm; have := HB12.out.size; omega) HNE5.out)
        have hB6 : Below w.heap.size w w6 := below_weaken HBF.out (by have := HB2.out.size; omega) hB6'
        by_cases hc : m ≤ 1
        · obtain ⟨rfl, hmm, rfl⟩ := HG.out.1 hc
          obtain rfl : (0 : Int) = ev := HEV.out
          rw [hmm] at hr6
          have hlen : (4096 : Int) + (m : Int) - 1 ≤ 4096 := by omega
          obtain ⟨A6, c6, rfl⟩ := Kd.R_slice hr6
          obtain ⟨ado, A7, c7, rfl, hcell, _, hC7⟩ := at_L1 (Kd.R_reads' hr6).2.2 0 (by decide) (by decide)
          have hcell' : w6.cell? ado = some (.slice A7 1 c7) := hcell
          have hcell'' : w6.cell? (ado.add 0) = some (.slice A7 1 c7) := hcell
          have hcv : (convert 22 9 (.slice A7 1 c7)).run Tryd.prog w6 = .ok (.string ⟨#[122]⟩) w6 := Kd.C_string (P := Tryd.prog) (A := A7) (c := c7) Tryd.underlying22 Tryd.underlying5 Tryd.underlying9 hC7
          have e1 : ([[122]] : List (List Int)).length = 1 := rfl
          rw [e1]
          clear hr6 hB6' hg6 hcell hC7
          go_wp2_with (first | (go_at_call 13; refine (done_calls _ _ _ _ _ _ _ HRD6.out).mono ?_; rintro e w' ⟨rfl, hw⟩; rw [hw]; clear hw))
          go_ret
          exact ⟨by first | rfl | simp, hB6⟩
        · obtain ⟨rfl, rfl, rfl⟩ := HG.out.2 hc
          obtain rfl : (250 : Int) = ev := HEV.out
          have hlen : ¬ ((4096 : Int) + (m : Int) - 1 ≤ 4096) := by omega
          obtain ⟨A6, c6, rfl⟩ := Kd.R_slice hr6
          clear hr6 hB6' hg6
          go_wp2_with (first | (go_at_call 13; refine (done_calls _ _ _ _ _ _ _ HRD6.out).mono ?_; rintro e w' ⟨rfl, hw⟩; rw [hw]; clear hw))
          go_ret
          exact ⟨by first | rfl | simp, hB6⟩
end Go.Proofs.YtgdiilpocoimgaaDoor.Hand
