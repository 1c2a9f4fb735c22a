/- The law FrameBack: its walk. -/
import Derived.Test.YtgdiilpocoimgaaDoorFBack1
import Derived.Test.YtgdiilpocoimgaaDoorFFd
import Derived.Test.YtgdiilpocoimgaaDoorFLong
set_option linter.unusedVariables false
set_option linter.unusedSimpArgs false
namespace Go.Proofs.YtgdiilpocoimgaaDoor.Hand
open Go.RowKit Go.Proofs.YtgdiilpocoimgaaDoor.Frm Go.Proofs.YtgdiilpocoimgaaDoorW.PrintWords Go.Proofs.YtgdiilpocoimgaaDoorW.PrintLast Go.Proofs.YtgdiilpocoimgaaDoorW.PrintMore
attribute [local go_sem] max2_int min2_int max_two min_two max_three min_three max_four min_four
theorem cut_O (A : Option Addr) (c : Nat) (L : List Int) (lo hi : Nat) (h1 : lo ≤ hi) (h2 : hi ≤ L.length) (hc : L.length ≤ c) :
    ∃ A' : Option Addr, (∀ W : World, (Instr.slice 22 (.slice A L.length c) (some (.int .i64 (lo : Int))) (some (.int .i64 (hi : Int))) none).run Tryd.prog W = .ok (.slice A' ((L.take hi).drop lo).length (c - lo)) W) ∧
      (∀ W : World, Kd.C (Kd.int .u8) W A L.length L → Kd.C (Kd.int .u8) W A' ((L.take hi).drop lo).length ((L.take hi).drop lo)) := by
  obtain ⟨i0, hi0, _, hsz, _⟩ := info_parts info5
  have hcut := cut_mid (P := Tryd.prog) 22 5 .i64 .i64 Tryd.underlying22 hi0 1 hsz A L.length c (lo : Int) (hi : Int) (by omega) (by omega) (by omega) hc
  have e1 : ((hi : Int)).toNat - ((lo : Int)).toNat = ((L.take hi).drop lo).length := by rw [List.length_drop, List.length_take]; omega
  have e2 : ((lo : Int)).toNat = lo := by omega
  refine ⟨if c = lo then A else A.map (·.add (lo * 1)), fun W => ?_, fun W h => Kd.C_mid h h1 h2 hc⟩
  rw [hcut W, e1, e2]
theorem wraps_len : ∀ (L : List (List Int)), (∀ l ∈ L, l.length ≤ 16777216) → (L.map wrapL).flatten.length ≤ 28 * L.length + L.flatten.length
  | [], h => Nat.zero_le _
  | l :: L, h => by
    have h1 := wraps_len L (fun x hx => h x (List.mem_cons_of_mem _ hx))
    have h2 := wrapL_len l (h l List.mem_cons_self)
    simp only [List.map_cons, List.flatten_cons, List.length_append, List.length_cons]
    omega
theorem wraps_bytes (L : List (List Int)) (h : ∀ l ∈ L, Bytes l) : Bytes (L.map wrapL).flatten := fun y hy => by
  obtain ⟨x, hx, hy2⟩ := List.mem_flatten.1 hy
  obtain ⟨l, hl, rfl⟩ := List.mem_map.1 hx
  exact wrapL_bytes l (h l hl) y hy2
theorem piece_short {L : List (List Int)} {l : List Int} (h : l ∈ L) : l.length ≤ L.flatten.length := (List.sublist_flatten_of_mem h).length_le
/-- The bytes from lo to hi, fed behind those up to lo. -/
theorem fed_step (most : Int) (F : List Int) (lo hi : Nat) (h : lo ≤ hi) (hF : (runS (st0 most) F).2.2 = false) :
    (runS (st0 most) (F.take lo)).1.dead = false ∧ (rfeed (runS (st0 most) (F.take lo)).1 ((F.take hi).drop lo)).1 = (runS (st0 most) (F.take hi)).1 ∧
    (runS (st0 most) (F.take lo)).2.1 ++ (rfeed (runS (st0 most) (F.take lo)).1 ((F.take hi).drop lo)).2.1 = (runS (st0 most) (F.take hi)).2.1 ∧ (rfeed (runS (st0 most) (F.take lo)).1 ((F.take hi).drop lo)).2.2 = 0 := by
  have e1 : F.take hi = F.take lo ++ (F.take hi).drop lo := by
    have := (List.take_append_drop lo (F.take hi)).symm
    rwa [List.take_take, Nat.min_eq_left h] at this
  have f1 : (runS (st0 most) (F.take hi)).2.2 = false := runS_prefix _ _ (F.drop hi) (by rw [List.take_append_drop]; exact hF)
  have f2 : (runS (st0 most) (F.take lo)).2.2 = false := runS_prefix _ _ (F.drop lo) (by rw [List.take_append_drop]; exact hF)
  have hd : (runS (st0 most) (F.take lo)).1.dead = false := by rw [runS_end, f2]
  have e2 := runS_append (F.take lo) ((F.take hi).drop lo) (st0 most)
  rw [← e1, f2] at e2
  simp only [Bool.false_eq_true, if_false] at e2
  have f3 : (runS (runS (st0 most) (F.take lo)).1 ((F.take hi).drop lo)).2.2 = false := by rw [e2] at f1; exact f1
  have er : rfeed (runS (st0 most) (F.take lo)).1 ((F.take hi).drop lo) = ((runS (runS (st0 most) (F.take lo)).1 ((F.take hi).drop lo)).1, (runS (runS (st0 most) (F.take lo)).1 ((F.take hi).drop lo)).2.1, if (runS (runS (st0 most) (F.take lo)).1 ((F.take hi).drop lo)).2.2 = true then 250 else 0) := by
    unfold rfeed; rw [if_neg (by simp [hd])]
  refine ⟨hd, ?_, ?_, ?_⟩
  · rw [er, e2]
  · rw [er, e2]
  · rw [er, f3]; rfl
set_option maxHeartbeats 8000000 in
set_option maxRecDepth 100000 in
theorem frameBack_calls (A0 : Option Addr) (c0 : Nat) (L : List (List Int)) (A1 : Option Addr) (c1 : Nat) (cuts : List Int) (w : World) (hC : KM.C w A0 L.length L) (hb : ∀ x ∈ L, Bytes x)
    (hCu : Kd.C (Kd.int .i64) w A1 cuts.length cuts) (hcb : ∀ x ∈ cuts, -9223372036854775808 ≤ x ∧ x ≤ 9223372036854775807) (hT : TabB w) (hl : L.length + L.flatten.length ≤ 1048576 ∧ cuts.length ≤ 1048576) :
    Calls Tryd.prog 8 #[.slice A0 L.length c0, .slice A1 cuts.length c1] w fun e w' => e = .returned (.bool true) ∧ Below w.heap.size w w' := by
  have HC := Aside0.mk hC
  have HCU := Aside0.mk hCu
  have HL := Aside0.mk hl
  have HT := Aside0.mk hT
  have HBY := Aside0.mk hb
  clear hC hl hCu hcb hT hb
  go_enter Tryd.func8, Tryd.ntmps8
  go_wp2_with (fail)
  refine (wakes_calls _).mono ?_
  rintro e w1 ⟨rfl, hB1⟩
  have HB1 := Aside0.mk hB1
  clear hB1
  go_wp2_with (fail)
  refine (long_calls A0 c0 L w1 (Kd.C_below HC.out HB1.out) HL.out.1).mono ?_
  rintro e w2 ⟨rfl, hB2⟩
  have HB2 := Aside0.mk (below_step HB1.out hB2)
  clear hB2 HB1
  by_cases hlong : 20000 < L.flatten.length
  · rw [decide_eq_true hlong]
    go_wp2
    go_ret
    exact ⟨by first | rfl | simp, HB2.out⟩
  rw [decide_eq_false hlong]
  have HLG := Aside0.mk hlong
  clear hlong
  go_wp2_with (fail)
  go_loopg [5, 6, 7] (L.length + 1) (fun g v5 v6 v7 wx => ∃ i : Nat, v5 = .int .i64 (mxL (L.take i) : Int) ∧ Aside0 (Kd.R (Kd.int .u8) 5 wx w2.heap.size (fun _ => True) v6 ((L.take i).map wrapL).flatten) ∧ v7 = .int .i64 (i : Int) ∧ Aside0 (i ≤ L.length ∧ L.length < i + g) ∧ Aside0 (Below w.heap.size w wx ∧ w2.heap.size ≤ wx.heap.size))
  case atStart => exact ⟨0, rfl, ⟨Kd.R_nil _ _ _ _ _⟩, rfl, ⟨by omega⟩, ⟨HB2.out, Nat.le_refl _⟩⟩
  case round =>
    obtain ⟨i, rfl, HR, rfl, HI, HB⟩ := hrel
    by_cases hlt : i < L.length
    · have hb1 : decide ((i : Int) < (L.length : Int)) = true := decide_eq_true (by omega)
      obtain ⟨gk, rfl⟩ : ∃ g', gk = g' + 1 := ⟨gk - 1, by have := HI.out; omega⟩
      have hw1 : wrap64 ((i : Int) + 1) = ((i + 1 : Nat) : Int) := by have := HL.out; rw [wr64 (by omega) (by omega)]; push_cast; rfl
      have hpl := piece_le L i hlt
      have htk : (L.take (i + 1)).map wrapL = (L.take i).map wrapL ++ [wrapL (rd_L1 L (i : Int))] := by
        rw [List.take_succ_eq_append_getElem hlt, List.map_append, rd_L1_at L i hlt]; rfl
      have hmx0 : mxL (L.take (i + 1)) = max (mxL (L.take i)) (rd_L1 L (i : Int)).length := by
        rw [List.take_succ_eq_append_getElem hlt, mxL_snoc, rd_L1_at L i hlt]
      have hwl := wraps_len (L.take i) (fun l hl => by have := piece_short (List.mem_of_mem_take hl); have := HLG.out; omega)
      have hfl := flat_le L i
      have hmn : (L.take i).length ≤ L.length := by rw [List.length_take]; omega
      have p0 : 0 ≤ (i : Int) := by omega
      have q0 : (i : Int) < (L.length : Int) := by omega
      obtain ⟨ad0, B0, d0, rfl, hx0, hl0, hi0⟩ := at_L1 HC.out (i : Int) p0 q0
      have hx1 : wr.cell? (ad0.add i) = some (.slice B0 (rd_L1 L (i : Int)).length d0) := (HB.out.1.cell (cell_lt hx0)).trans hx0
      obtain ⟨p, hp⟩ : ∃ p, rd_L1 L (i : Int) = p := ⟨_, rfl⟩
      obtain ⟨m0, hm0⟩ : ∃ m0, mxL (L.take i) = m0 := ⟨_, rfl⟩
      obtain ⟨m1, hm1⟩ : ∃ m1, mxL (L.take (i + 1)) = m1 := ⟨_, rfl⟩
      obtain ⟨X, hX⟩ : ∃ X, ((L.take i).map wrapL).flatten = X := ⟨_, rfl⟩
      rw [hp] at hx1 hi0 hpl htk hmx0
      rw [hm0, hm1] at hmx0
      rw [hX] at HR hwl
      have hmax : (if m0 < p.length then (p.length : Int) else (m0 : Int)) = (m1 : Int) := by split <;> omega
      have hx2 : (wr.alloc (.cells #[] 5)).cell? (ad0.add i) = some (.slice B0 p.length d0) := ((below_alloc (Below.refl wr.heap.size wr) (.cells #[] 5)).cell (cell_lt hx1)).trans hx1
      have HI0 := Aside0.mk (Kd.C_below hi0 HB.out.1)
      have HP := Aside0.mk (And.intro hpl (And.intro hwl (And.intro hfl hmn)))
      have HTK := Aside0.mk (show ((L.take (i + 1)).map wrapL).flatten = X ++ wrapL p by rw [htk, List.flatten_append, hX]; simp)
      have HM1 := Aside0.mk hm1
      rw [hm0]
      replace p0 := eq_true p0
      replace q0 := eq_true q0
      clear hx0 hi0 hl0 hp hpl htk hmx0 hm0 hm1 hX hwl hfl hmn
      go_wp2_with (at_builtin; refine Kd.R_append_rows (Kd.int .u8) (w0 := wr) wr.heap.size rfl (.tmp 36) (.tmp 40) 22 5 (.int .u8 0) 1 rfl Tryd.underlying22 info5 rfl (by decide) (by omega) _ [] p _ _ _ (fun _ => True) (fun _ => False) rfl rfl (empty_R _ wr (Nat.le_refl _)) (Kd.C_alloc HI0.out _) (fun _ _ h => h) (fun _ h => h.elim) (fun _ _ => trivial) (below_alloc (Below.refl _ _) _) (by simp) (by have := HP.out; have := HL.out; simp only [List.length_nil]; omega) ?_)
      intro v4 w4 hr4 hB4 _ _
      have hr4' : Kd.R (Kd.int .u8) 5 w4 wr.heap.size (fun _ => True) v4 p := hr4
      obtain ⟨A4, c4, rfl, hcc4, hC4⟩ := Kd.R_reads hr4'
      have HR4 := Aside0.mk (Kd.R_below HR.out hB4)
      have HB4 := Aside0.mk (And.intro (below_step HB.out.1 hB4) (Nat.le_trans HB.out.2 hB4.size))
      have HC4 := Aside0.mk hC4
      clear hr4 hr4' hcc4 hC4 hB4 HR
      go_wp2_with (fail)
      refine (wrapL_calls A4 c4 p w4 HC4.out (by have := HP.out; have := HLG.out; omega) (HT.out.step HB4.out.1)).mono ?_
      rintro e w5 ⟨a5, c5, rfl, hc5, hC5, hB5⟩
      have HR5 := Aside0.mk (Kd.R_below HR4.out hB5)
      have HB5 := Aside0.mk (And.intro (below_step HB4.out.1 hB5) (Nat.le_trans HB4.out.2 hB5.size))
      have HC5 := Aside0.mk hC5
      have hql := wrapL_len p (by have := HP.out; have := HLG.out; omega)
      obtain ⟨q, hq⟩ : ∃ q, wrapL p = q := ⟨_, rfl⟩
      rw [hq] at HC5 HTK hql
      rw [hq]
      have HQL := Aside0.mk hql
      clear hc5 hC5 hB5 HR4 hql hq
      go_wp2_with (at_builtin; refine Kd.R_append_rows (Kd.int .u8) (w0 := w5) (W := w5) w2.heap.size rfl (.tmp 47) (.tmp 48) 22 5 (.int .u8 0) 1 rfl Tryd.underlying22 info5 rfl (by decide) (by omega) u6 X q _ _ _ (fun _ => True) (fun _ => False) rfl rfl HR5.out HC5.out (fun _ _ h => h) (fun _ h => h.elim) (fun _ _ => trivial) (Below.refl _ _) HB5.out.2 (by have := HP.out; have := HL.out; have := HQL.out; have := HLG.out; omega) ?_)
      intro v6 w6 hr6 hB6 hg6 _
      have HR6 := Aside0.mk (show Kd.R (Kd.int .u8) 5 w6 w2.heap.size (fun _ => True) v6 ((L.take (i + 1)).map wrapL).flatten by rw [HTK.out]; exact hr6)
      have HB6 := Aside0.mk (And.intro (below_weaken HB5.out.1 HB2.out.size hB6) (Nat.le_trans HB5.out.2 hg6.size))
      clear hr6 hB6 hg6 HR5
      go_wp2
      go_roundg gk
      case measure => have := HI.out; omega
      case rel => exact ⟨i + 1, by rw [HM1.out], HR6, by rw [hw1], ⟨by have := HI.out; omega⟩, HB6⟩
    · have hb1 : decide ((i : Int) < (L.length : Int)) = false := decide_eq_false (by omega)
      have hi : i = L.length := by have := HI.out; omega
      subst hi
      rw [List.take_length] at HR ⊢
      have hmost : mxL L ≤ 20000 := by have := mxL_le L L.length (Nat.le_refl _); rw [List.take_length] at this; have := HLG.out; omega
      have hrunF : runS (st0 (mxL L : Int)) (L.map wrapL).flatten = (st0 (mxL L : Int), L, false) := run_wraps _ L (fun l hl => ⟨by have := piece_short hl; have := HLG.out; omega, by have := mxL_ge hl; omega⟩)
      have hFl := wraps_len L (fun l hl => by have := piece_short hl; have := HLG.out; omega)
      have hFb := wraps_bytes L HBY.out
      obtain ⟨F, hF⟩ : ∃ F, (L.map wrapL).flatten = F := ⟨_, rfl⟩
      obtain ⟨most, hmo⟩ : ∃ most, mxL L = most := ⟨_, rfl⟩
      rw [hF] at HR hrunF hFl hFb
      rw [hmo] at hmost hrunF
      rw [hmo]
      have HRF := Aside0.mk hrunF
      have HMO := Aside0.mk hmost
      have HFL := Aside0.mk (show F.length ≤ 40000000 by have := HL.out; omega)
      have HFB := Aside0.mk hFb
      obtain ⟨Aal, cal, rfl, hcal, hCal⟩ := Kd.R_reads HR.out
      have HRA := Aside0.mk HR.out
      clear HR hrunF hmost hFl hFb hF hmo hb1 hlt hCal HI
      go_wp2_with (fail)
      refine (new_calls (most : Int) wr (by omega) (by have := HMO.out; omega)).mono ?_
      rintro e w10 ⟨rfl, hrd10, hB10⟩
      have HFD := Aside0.mk (FD.start (w0 := w) hrd10.cell (by omega : (0 : Int) ≤ (most : Int)) (below_step HB.out.1 hB10))
      have HRA10 := Aside0.mk (R_scalar (ok' := fun k => k ≠ wr.heap.size) (Kd.R_below HRA.out hB10) (fun k hk => by have := Kd.R_lt HRA.out k hk; omega))
      have HX := Aside0.mk (And.intro HB2.out.size (And.intro HB.out.2 (And.intro hrd10.lt hB10.size)))
      have HCA := Aside0.mk hcal
      clear hrd10 hB10 hcal HRA
      obtain ⟨b, hbq⟩ : ∃ b, wr.heap.size = b := ⟨_, rfl⟩
      rw [hbq] at HFD HX HRA10
      rw [hbq]
      clear hbq
      go_wp2_with (fail)
      go_loopg [12, 13, 14] (cuts.length + 2) (fun g v12 v13 v14 wx => ∃ (i lo : Nat) (v : Value) (held : List Int), v13 = .int .i64 (lo : Int) ∧ v14 = .int .i64 (i : Int) ∧ Aside0 (FD w w10 b (most : Int) (runS (st0 (most : Int)) (F.take lo)).1 v held v12 (runS (st0 (most : Int)) (F.take lo)).2.1 wx) ∧ Aside0 (i ≤ cuts.length + 1 ∧ cuts.length + 1 < i + g ∧ lo ≤ F.length ∧ (i = cuts.length + 1 → lo = F.length)))
      case atStart => exact ⟨0, 0, _, _, rfl, rfl, HFD, ⟨by omega⟩⟩
      case round =>
        obtain ⟨i, lo, v, held, rfl, rfl, HF, HI⟩ := hrel
        by_cases hlt : i ≤ cuts.length
        · have hb1 : decide ((i : Int) ≤ (cuts.length : Int)) = true := decide_eq_true (by omega)
          obtain ⟨gk, rfl⟩ : ∃ g', gk = g' + 1 := ⟨gk - 1, by have := HI.out; omega⟩
          have hw1 : wrap64 ((i : Int) + 1) = ((i + 1 : Nat) : Int) := by have := HL.out; rw [wr64 (by omega) (by omega)]; push_cast; rfl
          have hall := HF.out.keepR HRA10.out (.inr fun k hk => hk)
          by_cases hcut : i < cuts.length
          · have hb2 : decide ((i : Int) < (cuts.length : Int)) = true := decide_eq_true (by omega)
            have p0 : 0 ≤ (i : Int) := by omega
            have q0 : (i : Int) < (cuts.length : Int) := by omega
            obtain ⟨ad1, rfl, hx1⟩ := Kd.at_int (Kd.C_below HCU.out HF.out.bel) (i : Int) p0 q0
            have hx2 : wr.cell? (ad1.add i) = some (.int .i64 (rd cuts (i : Int))) := hx1
            obtain ⟨x, hx⟩ : ∃ x, rd cuts (i : Int) = x := ⟨_, rfl⟩
            rw [hx] at hx2
            obtain ⟨M, hM⟩ : ∃ M : Int, (if x < (lo : Int) then (lo : Int) else x) = M := ⟨_, rfl⟩
            obtain ⟨hi_, hth, hto1, hto2⟩ : ∃ hi_ : Nat, (if (F.length : Int) < M then (F.length : Int) else M) = (hi_ : Int) ∧ lo ≤ hi_ ∧ hi_ ≤ F.length := by
              have hMl : (lo : Int) ≤ M := by rw [← hM]; split <;> omega
              have hlo := HI.out.2.2.1
              by_cases hc : (F.length : Int) < M
              · exact ⟨F.length, by rw [if_pos hc], hlo, Nat.le_refl _⟩
              · exact ⟨M.toNat, by rw [if_neg hc]; omega, by omega, by omega⟩
            replace p0 := eq_true p0
            replace q0 := eq_true q0
            clear hx1 hx
            obtain ⟨Ap, hcutr, hcutC⟩ := cut_O Aal cal F lo hi_ hto1 hto2 HCA.out
            have hst := fed_step (most : Int) F lo hi_ hto1 (by rw [HRF.out])
            obtain ⟨p, hp⟩ : ∃ p, (F.take hi_).drop lo = p := ⟨_, rfl⟩
            rw [hp] at hcutr hcutC hst
            have HPB := Aside0.mk (show Bytes p ∧ p.length ≤ F.length by rw [← hp]; exact ⟨fun y hy => HFB.out y (List.mem_of_mem_take (List.mem_of_mem_drop hy)), by rw [List.length_drop, List.length_take]; omega⟩)
            have HCP := Aside0.mk (hcutC wr (Kd.R_reads' hall).2.2)
            have hcx := runS_count (F.take lo) (st0 (most : Int))
            have hcx2 : (F.take lo).length ≤ F.length := by rw [List.length_take]; omega
            obtain ⟨S, hS⟩ : ∃ S, (runS (st0 (most : Int)) (F.take lo)).1 = S := ⟨_, rfl⟩
            obtain ⟨X, hX⟩ : ∃ X, (runS (st0 (most : Int)) (F.take lo)).2.1 = X := ⟨_, rfl⟩
            rw [hS, hX] at hst HF
            rw [hX] at hcx
            have HST := Aside0.mk hst
            have HCX := Aside0.mk (And.intro hcx (And.intro hcx2 (rfeed_count S p)))
            have HTO := Aside0.mk (And.intro hto1 hto2)
            clear hcutC hall hp hst hcx hcx2 hS hX hto1 hto2
            go_wp2_with (at_builtin; refine Kd.R_append_rows (Kd.int .u8) (w0 := wr) wr.heap.size rfl (.tmp 84) (.tmp 88) 22 5 (.int .u8 0) 1 rfl Tryd.underlying22 info5 rfl (by decide) (by omega) _ [] p _ _ _ (fun _ => True) (fun _ => False) rfl rfl (empty_R _ wr (Nat.le_refl _)) (Kd.C_alloc HCP.out _) (fun _ _ h => h) (fun _ h => h.elim) (fun _ _ => trivial) (below_alloc (Below.refl _ _) _) (by simp) (by have := HPB.out; have := HFL.out; simp only [List.length_nil]; omega) ?_)
            intro v6 w6 hr6 hB6 _ _
            have hr6' : Kd.R (Kd.int .u8) 5 w6 wr.heap.size (fun _ => True) v6 p := hr6
            obtain ⟨A6, c6, rfl, hcc6, hC6⟩ := Kd.R_reads hr6'
            have HF6 := Aside0.mk (HF.out.below hB6)
            have HC6 := Aside0.mk hC6
            clear hr6 hr6' hcc6 hC6 hB6 HF hcutr
            go_wp2_with (fail)
            refine (feedS_calls w w6 b (most : Int) v held S A6 c6 p HF6.out.rd HF6.out.rs HF6.out.bel (by have := HX.out; omega) (by omega) (by have := HMO.out; omega) HC6.out HPB.out.1 (by have := HPB.out; have := HFL.out; omega)).mono ?_
            rintro e w7 ⟨v', vo, held', rfl, hrs, hrd, hro, hB7, how, hap, hsz⟩
            have HF7 := Aside0.mk (HF6.out.feed (by have := HX.out; omega) hrs hrd hB7 how hap hsz)
            obtain ⟨Ao, co, rfl, hrows⟩ := ms_rows2 hro
            have HRW := Aside0.mk hrows
            have HLT := Aside0.mk (And.intro (Kd.R_lt HF6.out.out) (And.intro (Kd.R_lt HF7.out.rd.row) (And.intro HF6.out.size hsz)))
            clear hrs hrd hro hB7 how hap hsz hrows HF6
            rw [HST.out.2.2.2]
            obtain ⟨ms, hms⟩ : ∃ ms, (rfeed S p).2.1 = ms := ⟨_, rfl⟩
            rw [hms] at HRW HCX HST
            rw [hms]
            clear hms
            go_wp2_with (at_builtin; refine Kd.R_append_rows KM (Rr := KM.M w7 w6.heap.size (fun k => w6.heap.size ≤ k ∧ some k ≠ v'.ownBlock)) (w0 := w7) (W := w7) w10.heap.size rfl (.tmp 95) (.tmp 96) 25 22 (.slice none 0 0) 24 rfl Tryd.underlying25 info22 rfl (by decide) (by omega) u12 X _ _ _ _ (fun k => some k ≠ v'.ownBlock) (fun k => w6.heap.size ≤ k ∧ some k ≠ v'.ownBlock) rfl rfl HF7.out.out HRW.out (fun x cs h => KM.M_lower HLT.out.2.2.1 h) (fun k hk => ⟨hk.2, fun e => by have := HLT.out.1 k e.symm; omega⟩) (fun k hk e => by have := HLT.out.2.1 k e.symm; omega) (Below.refl _ _) HF7.out.size (by have := HCX.out; have := HPB.out; have := HFL.out; omega) ?_)
            intro v8 w8 hr8 hB8 hg8 _
            have HF8 := Aside0.mk (HF7.out.push (by have := HX.out; omega) (by have := HX.out; omega) hr8 hg8)
            clear hr8 hB8 hg8 HF7
            go_wp2
            go_roundg gk
            case measure => have := HI.out; omega
            case rel =>
              refine ⟨i + 1, hi_, v', held', by rfl, by rw [hw1], ?_, ⟨by have := HI.out; have := HTO.out; omega⟩⟩
              rw [← HST.out.2.1, ← HST.out.2.2.1]; exact HF8
          · have hb2 : decide ((i : Int) < (cuts.length : Int)) = false := decide_eq_false (by omega)
            obtain ⟨hi_, hth, hto1, hto2⟩ : ∃ hi_ : Nat, (F.length : Int) = (hi_ : Int) ∧ lo ≤ hi_ ∧ hi_ ≤ F.length := ⟨F.length, rfl, HI.out.2.2.1, Nat.le_refl _⟩
            obtain rfl : F.length = hi_ := by omega
            clear hth
            obtain ⟨Ap, hcutr, hcutC⟩ := cut_O Aal cal F lo F.length hto1 hto2 HCA.out
            have hst := fed_step (most : Int) F lo F.length hto1 (by rw [HRF.out])
            obtain ⟨p, hp⟩ : ∃ p, (F.take F.length).drop lo = p := ⟨_, rfl⟩
            rw [hp] at hcutr hcutC hst
            have HPB := Aside0.mk (show Bytes p ∧ p.length ≤ F.length by rw [← hp]; exact ⟨fun y hy => HFB.out y (List.mem_of_mem_take (List.mem_of_mem_drop hy)), by rw [List.length_drop, List.length_take]; omega⟩)
            have HCP := Aside0.mk (hcutC wr (Kd.R_reads' hall).2.2)
            have hcx := runS_count (F.take lo) (st0 (most : Int))
            have hcx2 : (F.take lo).length ≤ F.length := by rw [List.length_take]; omega
            obtain ⟨S, hS⟩ : ∃ S, (runS (st0 (most : Int)) (F.take lo)).1 = S := ⟨_, rfl⟩
            obtain ⟨X, hX⟩ : ∃ X, (runS (st0 (most : Int)) (F.take lo)).2.1 = X := ⟨_, rfl⟩
            rw [hS, hX] at hst HF
            rw [hX] at hcx
            have HST := Aside0.mk hst
            have HCX := Aside0.mk (And.intro hcx (And.intro hcx2 (rfeed_count S p)))
            have HTO := Aside0.mk (And.intro hto1 hto2)
            clear hcutC hall hp hst hcx hcx2 hS hX hto1 hto2
            go_wp2_with (at_builtin; refine Kd.R_append_rows (Kd.int .u8) (w0 := wr) wr.heap.size rfl (.tmp 84) (.tmp 88) 22 5 (.int .u8 0) 1 rfl Tryd.underlying22 info5 rfl (by decide) (by omega) _ [] p _ _ _ (fun _ => True) (fun _ => False) rfl rfl (empty_R _ wr (Nat.le_refl _)) (Kd.C_alloc HCP.out _) (fun _ _ h => h) (fun _ h => h.elim) (fun _ _ => trivial) (below_alloc (Below.refl _ _) _) (by simp) (by have := HPB.out; have := HFL.out; simp only [List.length_nil]; omega) ?_)
            intro v6 w6 hr6 hB6 _ _
            have hr6' : Kd.R (Kd.int .u8) 5 w6 wr.heap.size (fun _ => True) v6 p := hr6
            obtain ⟨A6, c6, rfl, hcc6, hC6⟩ := Kd.R_reads hr6'
            have HF6 := Aside0.mk (HF.out.below hB6)
            have HC6 := Aside0.mk hC6
            clear hr6 hr6' hcc6 hC6 hB6 HF hcutr
            go_wp2_with (fail)
            refine (feedS_calls w w6 b (most : Int) v held S A6 c6 p HF6.out.rd HF6.out.rs HF6.out.bel (by have := HX.out; omega) (by omega) (by have := HMO.out; omega) HC6.out HPB.out.1 (by have := HPB.out; have := HFL.out; omega)).mono ?_
            rintro e w7 ⟨v', vo, held', rfl, hrs, hrd, hro, hB7, how, hap, hsz⟩
            have HF7 := Aside0.mk (HF6.out.feed (by have := HX.out; omega) hrs hrd hB7 how hap hsz)
            obtain ⟨Ao, co, rfl, hrows⟩ := ms_rows2 hro
            have HRW := Aside0.mk hrows
            have HLT := Aside0.mk (And.intro (Kd.R_lt HF6.out.out) (And.intro (Kd.R_lt HF7.out.rd.row) (And.intro HF6.out.size hsz)))
            clear hrs hrd hro hB7 how hap hsz hrows HF6
            rw [HST.out.2.2.2]
            obtain ⟨ms, hms⟩ : ∃ ms, (rfeed S p).2.1 = ms := ⟨_, rfl⟩
            rw [hms] at HRW HCX HST
            rw [hms]
            clear hms
            go_wp2_with (at_builtin; refine Kd.R_append_rows KM (Rr := KM.M w7 w6.heap.size (fun k => w6.heap.size ≤ k ∧ some k ≠ v'.ownBlock)) (w0 := w7) (W := w7) w10.heap.size rfl (.tmp 95) (.tmp 96) 25 22 (.slice none 0 0) 24 rfl Tryd.underlying25 info22 rfl (by decide) (by omega) u12 X _ _ _ _ (fun k => some k ≠ v'.ownBlock) (fun k => w6.heap.size ≤ k ∧ some k ≠ v'.ownBlock) rfl rfl HF7.out.out HRW.out (fun x cs h => KM.M_lower HLT.out.2.2.1 h) (fun k hk => ⟨hk.2, fun e => by have := HLT.out.1 k e.symm; omega⟩) (fun k hk e => by have := HLT.out.2.1 k e.symm; omega) (Below.refl _ _) HF7.out.size (by have := HCX.out; have := HPB.out; have := HFL.out; omega) ?_)
            intro v8 w8 hr8 hB8 hg8 _
            have HF8 := Aside0.mk (HF7.out.push (by have := HX.out; omega) (by have := HX.out; omega) hr8 hg8)
            clear hr8 hB8 hg8 HF7
            go_wp2
            go_roundg gk
            case measure => have := HI.out; omega
            case rel =>
              refine ⟨i + 1, F.length, v', held', by rfl, by rw [hw1], ?_, ⟨by have := HI.out; have := HTO.out; omega⟩⟩
              rw [← HST.out.2.1, ← HST.out.2.2.1]; exact HF8
        · have hb1 : decide ((i : Int) ≤ (cuts.length : Int)) = false := decide_eq_false (by omega)
          have hi : i = cuts.length + 1 := by have := HI.out; omega
          obtain rfl : lo = F.length := HI.out.2.2.2 hi
          rw [List.take_length, HRF.out] at HF
          simp only at HF
          have hlen := HF.out.rs.len
          have HRDF := Aside0.mk HF.out.rd
          obtain ⟨Ax, cx, rfl⟩ := Kd.R_slice HF.out.out
          have HXX := Aside0.mk (Kd.R_reads' HF.out.out).2.2
          have hz : held.length = 0 := hlen
          go_wp2_with (fail)
          refine (sameAll_true _ _ _ _ L wr HXX.out (Kd.C_below HC.out HF.out.bel) (by have := HL.out; omega)).mono ?_
          rintro e w14 ⟨rfl, hS1⟩
          have HS1 := Aside0.mk hS1
          clear hS1
          go_wp2_with (fail)
          refine (held_calls _ b _ _ _ _ w14 (HRDF.out.below HS1.out)).mono ?_
          rintro e w' ⟨rfl, hw⟩
          rw [hw, hz]
          clear hw
          go_wp2_with (fail)
          refine (done_calls _ b _ _ _ _ w14 (HRDF.out.below HS1.out)).mono ?_
          rintro e w' ⟨rfl, hw⟩
          rw [hw, hz]
          clear hw
          go_wp2
          go_ret
          exact ⟨by first | rfl | (simp; done), below_step HF.out.bel HS1.out⟩
end Go.Proofs.YtgdiilpocoimgaaDoor.Hand
