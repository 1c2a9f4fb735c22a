/- Feed, once more: its messages lie apart, each in a row of its own.
What the law FrameOwn leans on: two rows of rows joined, each row apart; an append that leaves what was read; rows that are filled.
The law FrameOwn: what stands while the pieces are fed; what stands behind. -/
import Derived.Test.YtgdiilpocoimgaaDoorFSt
import Derived.Deep.RegionHeld3
import Derived.Test.YtgdiilpocoimgaaDoorFBegin
set_option linter.unusedVariables false
set_option linter.unusedSimpArgs false
namespace Go.Proofs.YtgdiilpocoimgaaDoor.Hand
open Go.RowKit Go.Proofs.YtgdiilpocoimgaaDoor.Frm Go.Proofs.YtgdiilpocoimgaaDoorW.PrintWords Go.Proofs.YtgdiilpocoimgaaDoorW.PrintLast Go.Proofs.YtgdiilpocoimgaaDoorW.PrintMore
attribute [local go_sem] max2_int min2_int max_two min_two max_three min_three max_four min_four
/-- What stands at the head of Feed's loop. -/
structure FLS (w0 w : World) (b : Nat) (most : Int) (v0 : Value) (v : Value) (held : List Int) (vo : Value) (out : List (List Int)) (W : World) : Prop where
  rd : RD w0.heap.size b most v held false W
  out : Kd.S (Kd.slice 5 (Kd.int .u8)) 22 W w.heap.size (fun k => some k ≠ v.ownBlock) vo out
  bel : Below w0.heap.size w0 W
  own : OwnIs w v0 v
  apart : Apart2 w b v0 W
  size : w.heap.size ≤ W.heap.size
theorem FLS.below {w0 w : World} {b : Nat} {most : Int} {v0 v : Value} {held : List Int} {vo : Value} {out : List (List Int)} {W W' : World} (h : FLS w0 w b most v0 v held vo out W) (hB : Below W.heap.size W W') : FLS w0 w b most v0 v held vo out W' :=
  ⟨h.rd.below hB, Kd.S_below h.out hB, below_step h.bel hB, h.own, fun k hk hkb hkv => (hB.block k (by have := h.size; omega)).trans (h.apart k hk hkb hkv), by have := h.size; have := hB.size; omega⟩
theorem FLS.die {w0 w : World} {b : Nat} {most : Int} {v0 v : Value} {held : List Int} {vo : Value} {out : List (List Int)} {W : World} (h : FLS w0 w b most v0 v held vo out W) (hb : b < w.heap.size) (hbb : w0.heap.size ≤ b) :
    RD w0.heap.size b most (.slice none 0 0) [] true ((W.setCell ⟨b, 1, none⟩ (.slice none 0 0)).setCell ⟨b, 2, none⟩ (.bool true)) ∧
    Kd.S (Kd.slice 5 (Kd.int .u8)) 22 ((W.setCell ⟨b, 1, none⟩ (.slice none 0 0)).setCell ⟨b, 2, none⟩ (.bool true)) w.heap.size (fun k => some k ≠ (Value.slice none 0 0).ownBlock) vo out ∧
    Below w0.heap.size w0 ((W.setCell ⟨b, 1, none⟩ (.slice none 0 0)).setCell ⟨b, 2, none⟩ (.bool true)) ∧ OwnIs w v0 (.slice none 0 0) ∧ Apart2 w b v0 ((W.setCell ⟨b, 1, none⟩ (.slice none 0 0)).setCell ⟨b, 2, none⟩ (.bool true)) ∧ w.heap.size ≤ ((W.setCell ⟨b, 1, none⟩ (.slice none 0 0)).setCell ⟨b, 2, none⟩ (.bool true)).heap.size := by
  have hb1 := Kd.S_mono (ok' := fun k => some k ≠ (Value.slice none 0 0).ownBlock ∧ k ≠ b) (Kd.S_bound h.out) (fun k hk => ⟨by simp [Value.ownBlock], by have := hk.2.1; omega⟩)
  have hs1 : (W.setCell ⟨b, 1, none⟩ (.slice none 0 0)).heap.size = W.heap.size := Deep.nblk_setCell _ _ _
  have hs2 : ((W.setCell ⟨b, 1, none⟩ (.slice none 0 0)).setCell ⟨b, 2, none⟩ (.bool true)).heap.size = W.heap.size := (Deep.nblk_setCell _ _ _).trans hs1
  have hk : ∀ k, k ≠ b → ((W.setCell ⟨b, 1, none⟩ (.slice none 0 0)).setCell ⟨b, 2, none⟩ (.bool true)).heap[k]? = W.heap[k]? := fun k hk => (Deep.blk_setCell_other _ _ _ k hk).trans (Deep.blk_setCell_other _ _ _ k hk)
  refine ⟨h.rd.die, ?_, h.bel.trans ⟨rfl, rfl, rfl, by rw [hs2]; exact Nat.le_refl _, fun k hlt => hk k (by omega)⟩, .inr (.inl rfl), fun k hlt hkb hkv => (hk k hkb).trans (h.apart k hlt hkb hkv), by rw [hs2]; exact h.size⟩
  exact Kd.S_mono (Kd.S_far (p := ⟨b, 2, none⟩) (Kd.S_far (p := ⟨b, 1, none⟩) hb1 (fun k hk => hk.2) _) (fun k hk => hk.2) _) (fun k hk => hk.1)
theorem FLS.push {w0 w : World} {b : Nat} {most : Int} {v0 v : Value} {held : List Int} {vo vo' : Value} {out : List (List Int)} {m : List Int} {W W' : World} (h : FLS w0 w b most v0 v held vo out W) (hbw : b < w.heap.size) (hw : w0.heap.size ≤ w.heap.size)
    (hr : Kd.S (Kd.slice 5 (Kd.int .u8)) 22 W' w.heap.size (fun k => some k ≠ v.ownBlock) vo' (out ++ [m])) (hg : W.grownBy W' vo.ownBlock) : FLS w0 w b most v0 v held vo' (out ++ [m]) W' := by
  have hb := Kd.S_base h.out
  have hne : ∀ k, k < w.heap.size → some k ≠ vo.ownBlock := fun k hk e => by have := hb k e.symm; omega
  have hrow := R_scalar (ok' := fun k => k ≠ b ∧ some k ≠ vo.ownBlock) h.rd.row (fun k hk => ⟨h.rd.row.1 k hk, fun e => ((Kd.S_R h.out).1 k e.symm) hk.symm⟩)
  exact ⟨⟨(hg.block b h.rd.lt (hne b hbw)).trans h.rd.cell, Kd.R_mono (Kd.R_grown hrow hg (fun k hk => hk.2)) (fun k hk => hk.1)⟩, hr,
    h.bel.trans ⟨hg.os, hg.tape, hg.output, hg.size, fun k hk => hg.block k (by have := h.size; omega) (hne k (by omega))⟩, h.own,
    fun k hk hkb hkv => (hg.block k (by have := h.size; omega) (hne k hk)).trans (h.apart k hk hkb hkv), by have := h.size; have := hg.size; omega⟩
theorem FLS.next {w0 w : World} {b : Nat} {most : Int} {v0 v v' : Value} {held held' : List Int} {vo : Value} {out : List (List Int)} {W W' : World} (h : FLS w0 w b most v0 v held vo out W) (hbw : b < w.heap.size) (hbb : w0.heap.size ≤ b)
    (hw : w0.heap.size ≤ w.heap.size) (hr : Kd.R (Kd.int .u8) 5 W' W.heap.size (fun _ => True) v' held') (hB : Below W.heap.size W W') : FLS w0 w b most v0 v' held' vo out (W'.setCell ⟨b, 1, none⟩ v') := by
  have hF := h.below hB
  have hb := Kd.R_base hr
  have hs : (W'.setCell ⟨b, 1, none⟩ v').heap.size = W'.heap.size := Deep.nblk_setCell _ _ _
  have hk : ∀ k, k ≠ b → (W'.setCell ⟨b, 1, none⟩ v').heap[k]? = W'.heap[k]? := fun k hk => Deep.blk_setCell_other _ _ _ k hk
  have hrow : Kd.R (Kd.int .u8) 5 W' w0.heap.size (fun k => k ≠ b) v' held' := Kd.R_lower (R_scalar hr (fun k hk => by have := hb k hk; have := h.size; omega)) (by have := h.size; omega)
  have hout : Kd.S (Kd.slice 5 (Kd.int .u8)) 22 W' w.heap.size (fun k => some k ≠ v'.ownBlock ∧ k ≠ b) vo out := by
    have h1 := Kd.S_below (Kd.S_bound h.out) hB
    exact Kd.S_mono h1 (fun k hk => ⟨fun e => by have := hb k e.symm; omega, by have := hk.2.1; omega⟩)
  refine ⟨RD.store hF.rd.cell hrow, Kd.S_mono (Kd.S_far (p := ⟨b, 1, none⟩) hout (fun k hk => hk.2) _) (fun k hk => hk.1), hF.bel.trans ⟨rfl, rfl, rfl, by rw [hs]; exact Nat.le_refl _, fun k hlt => hk k (by omega)⟩, ?_,
    fun k hlt hkb hkv => (hk k hkb).trans (hF.apart k hlt hkb hkv), by rw [hs]; exact hF.size⟩
  cases e : v'.ownBlock with
  | none => exact .inr (.inl e)
  | some g => exact .inr (.inr ⟨g, e, by have := hb g e; have := h.size; omega⟩)
set_option maxHeartbeats 8000000 in
set_option maxRecDepth 1000000 in
theorem feed_callsS (w0 w : World) (b : Nat) (most : Int) (v : Value) (held : List Int) (A : Option Addr) (c : Nat) (l : List Int) (h : RD w0.heap.size b most v held false w) (hB : Below w0.heap.size w0 w) (hbb : w0.heap.size ≤ b) (hm : 0 ≤ most) (hm2 : most ≤ 16777216)
    (hC : Kd.C (Kd.int .u8) w A l.length l) (hhb : Bytes held) (hlb : Bytes l) (hl : held.length + l.length ≤ 1073741824) :
    Calls Tryd.prog 11 #[.pointer (some ⟨b, 0, none⟩), .slice A l.length c] w fun e w' => ∃ v' vo k, e = .returned (.tuple #[vo, .int .i64 (feedN k most (held ++ l) []).2.2]) ∧ held.length + l.length < k ∧
      RD w0.heap.size b most v' (feedN k most (held ++ l) []).2.1 (decide ((feedN k most (held ++ l) []).2.2 = 250)) w' ∧ Kd.S (Kd.slice 5 (Kd.int .u8)) 22 w' w.heap.size (fun k => some k ≠ v'.ownBlock) vo (feedN k most (held ++ l) []).1 ∧ Below w0.heap.size w0 w' ∧ OwnIs w v v' ∧ Apart2 w b v w' ∧ w.heap.size ≤ w'.heap.size := by
  obtain ⟨j, hj, hjs⟩ := Option.map_eq_some_iff.1 sizeReader
  obtain ⟨A0, c0, rfl⟩ := Kd.R_slice h.row
  have c1 := h.c1
  have c2 := h.c2
  have HH := Aside0.mk h
  have HB := Aside0.mk hB
  have HC := Aside0.mk hC
  have HLL := Aside0.mk hl
  have HBB := Aside0.mk hbb
  have HAL := Aside0.mk (show Bytes (held ++ l) by intro y hy; rcases List.mem_append.1 hy with hy | hy; exact hhb y hy; exact hlb y hy)
  have HMM := Aside0.mk (And.intro hm hm2)
  obtain ⟨E, hE⟩ : ∃ E, held ++ l = E := ⟨_, rfl⟩
  have HEL := Aside0.mk (show E.length ≤ 1073741824 by rw [← hE, List.length_append]; omega)
  have HEE := Aside0.mk (show held.length + l.length = E.length by rw [← hE, List.length_append])
  rw [hE] at HAL
  rw [hE]
  have HE := Aside0.mk hE
  clear h hB hC hhb hlb hl hE hbb hm hm2
  go_enter Tryd.func11, Tryd.ntmps11
  go_wp2_with (at_builtin; refine Kd.R_append_rows (Kd.int .u8) (w0 := w0) w0.heap.size rfl (.tmp 22) (.tmp 23) 22 5 (.int .u8 0) 1 rfl Tryd.underlying22 info5 rfl (by decide) (by omega) (.slice A0 held.length c0) held l _ _ _ (fun k => k ≠ b) (fun _ => False) rfl rfl HH.out.row HC.out (fun _ _ h => ?aM) (fun _ h => h.elim) ?aF HB.out ?aS ?aL ?_)
  case aM => exact h
  case aF => exact fun k hk => by have := HH.out.lt; omega
  case aS => exact HB.out.size
  case aL => have := HLL.out; omega
  intro v1 w1 hr1 hb1 hg1 hat1
  rw [HE.out] at hr1
  obtain ⟨A1, cc1, rfl⟩ := Kd.R_slice hr1
  have hbl := HH.out.lt
  have hne : some b ≠ (Value.slice A0 held.length c0).ownBlock := Kd.R_away HH.out.row (fun k hk => hk)
  have hcell1 : w1.heap[b]? = some (.cells #[.int .i64 most, .slice A0 held.length c0, .bool false] 53 (0, 0)) := (hg1.block b hbl hne).trans HH.out.cell
  have f1 : w1.frozen? ⟨b, 1, none⟩ = false := by simp [World.frozen?, hcell1]
  have g1 : w1.cell? ⟨b, 1, none⟩ = some (.slice A0 held.length c0) := by simp [World.cell?, hcell1]
  have hrd2 := RD.store (v0 := .slice A0 held.length c0) (dead := false) hcell1 hr1
  have HFL := Aside0.mk (show FLS w0 w b most (.slice A0 held.length c0) (.slice A1 E.length cc1) E (.slice none 0 0) [] (w1.setCell ⟨b, 1, none⟩ (.slice A1 E.length cc1)) from
    ⟨hrd2, Kd.S_nil _ _ _ _ _, hb1.trans ⟨rfl, rfl, rfl, by rw [Deep.nblk_setCell]; exact Nat.le_refl _, fun k hk => Deep.blk_setCell_other _ _ _ k (by have := HBB.out; simp; omega)⟩,
      (by rcases hat1 with h | ⟨g, h1, h2⟩; exact .inl h; exact .inr (.inr ⟨g, h1, h2⟩)), fun k hk hkb hkv => (Deep.blk_setCell_other _ _ _ k hkb).trans (hg1.block k hk hkv), by rw [Deep.nblk_setCell]; exact hg1.size⟩)
  clear hr1 hb1 hg1 hat1 hne hcell1 hrd2 hbl c1 c2
  obtain ⟨r, hr⟩ : ∃ r, feedN (E.length + 1) most E [] = r := ⟨_, rfl⟩
  have HR := Aside0.mk hr
  clear hr
  go_wp2
  generalize w1.setCell ⟨b, 1, none⟩ (.slice A1 E.length cc1) = w2 at HFL ⊢
  go_loopg [6] (E.length + 1) (fun g v6 wx => ∃ (vh : Value) (hd : List Int) (out : List (List Int)), Aside0 (FLS w0 w b most (.slice A0 held.length c0) vh hd v6 out wx) ∧ Aside0 (Bytes hd) ∧ Aside0 (out.length + hd.length ≤ E.length ∧ hd.length < g) ∧ Aside0 (feedN g most hd out = r))
  case atStart => exact ⟨_, _, _, HFL, HAL, ⟨by simp, by omega⟩, HR⟩
  case round =>
    obtain ⟨vh, hd, out, HF, HBH, HLH, HFD⟩ := hrel
    obtain ⟨gk, rfl⟩ : ∃ g', gk = g' + 1 := ⟨gk - 1, by have := HLH.out; omega⟩
    obtain ⟨Ah, ch, rfl⟩ := Kd.R_slice HF.out.rd.row
    have hfd := HFD.out
    rw [feedN] at hfd
    have q0 := HF.out.rd.c0
    have q1 := HF.out.rd.c1
    by_cases h0 : hd.length = 0
    · have hb0 : decide ((0 : Int) < (hd.length : Int)) = false := decide_eq_false (by omega)
      rw [if_pos h0] at hfd
      subst hfd
      clear HFD
      go_wp2
      go_ret2
      have hf := HF.out
      refine ⟨_, _, _, by rw [HR.out]; rfl, by have := HEE.out; omega, ?_, ?_, hf.bel, hf.own, hf.apart, hf.size⟩
      · rw [HR.out]; exact hf.rd
      · rw [HR.out]; exact hf.out
    have hb0 : decide ((0 : Int) < (hd.length : Int)) = true := decide_eq_true (by omega)
    rw [if_neg h0] at hfd
    have HFD2 := Aside0.mk hfd
    clear hfd HFD
    go_wp2
    have keepF : ∀ wx, Below wr.heap.size wr wx → wx.cell? ⟨b, 0, none⟩ = some (.int .i64 most) ∧ wx.cell? ⟨b, 1, none⟩ = some (.slice Ah hd.length ch) ∧ Aside0 (Below wr.heap.size wr wx) := fun wx hB => ⟨(HF.out.rd.below hB).c0, (HF.out.rd.below hB).c1, ⟨hB⟩⟩
    go_region_held (fun wx => wx.cell? ⟨b, 0, none⟩ = some (.int .i64 most) ∧ wx.cell? ⟨b, 1, none⟩ = some (.slice Ah hd.length ch) ∧ Aside0 (Below wr.heap.size wr wx))
      (exact keepF _ (by first | assumption | exact Below.refl _ _ | exact below_drew1 (Below.refl _ _)))
      (first | (go_at_call 24; refine (header_calls Ah ch hd most _ (Kd.C_drew (Kd.R_reads' HF.out.rd.row).2.2) (Kd.R_reads' HF.out.rd.row).2.1 (R_cap HF.out.rd.row) (fun h => (R_addr HF.out.rd.row h).elim fun g hg => ⟨g, 0, hg⟩) HBH.out (by have := HLH.out; have := HEL.out; omega) (by have := HMM.out; omega)).mono ?_; rintro e W1 ⟨rfl, hb⟩; have hB1 := below_step (below_drew1 (Below.refl wr.heap.size wr)) hb; clear hb))
    rename_i hh
    have HF1 := Aside0.mk (HF.out.below hB1)
    have q1 := hh.2.1
    have q2 := HF1.out.rd.c2
    have g1 := HF1.out.rd.f1
    have g2 := HF1.out.rd.f2
    have ht := headL_told hd most HMM.out.1
    obtain ⟨⟨S, N, T⟩, hq⟩ : ∃ q, headL hd most = q := ⟨_, rfl⟩
    rw [hq] at ht HFD2
    simp only [hq] at *
    clear hh keepF hB1 HF hq q0
    have hfd := HFD2.out
    clear HFD2
    rcases ht with ht | ht | ht
    · cases ht
      rw [if_pos rfl] at hfd
      subst hfd
      go_wp2
      go_ret2
      have hx := HF1.out.die HH.out.lt HBB.out
      refine ⟨_, _, _, by rw [HR.out]; rfl, by have := HEE.out; omega, ?_, ?_, hx.2.2⟩
      · rw [HR.out]; exact hx.1
      · rw [HR.out]; exact hx.2.1
    · cases ht
      rw [if_neg (by simp), if_pos (Or.inl rfl)] at hfd
      subst hfd
      go_wp2
      go_ret2
      have hf := HF1.out
      refine ⟨_, _, _, by rw [HR.out]; rfl, by have := HEE.out; omega, ?_, ?_, hf.bel, hf.own, hf.apart, hf.size⟩
      · rw [HR.out]; exact hf.rd
      · rw [HR.out]; exact hf.out
    obtain ⟨rfl, hS1, hS2, hS3, hN1, hN2⟩ := ht
    simp only at hS1 hS2 hS3 hN1 hN2
    rw [if_neg (by simp)] at hfd
    by_cases hsh : (hd.length : Int) < S + N
    · have hb1 : decide ((hd.length : Int) < S + N) = true := decide_eq_true hsh
      rw [if_pos (Or.inr hsh)] at hfd
      subst hfd
      have hmm := HMM.out
      go_wp2
      go_ret2
      have hf := HF1.out
      refine ⟨_, _, _, by rw [HR.out]; rfl, by have := HEE.out; omega, ?_, ?_, hf.bel, hf.own, hf.apart, hf.size⟩
      · rw [HR.out]; exact hf.rd
      · rw [HR.out]; exact hf.out
    have hb1 : decide ((hd.length : Int) < S + N) = false := decide_eq_false hsh
    rw [if_neg (by simp; omega)] at hfd
    have HFD2 := Aside0.mk hfd
    clear hfd
    obtain ⟨s, rfl⟩ := Int.eq_ofNat_of_zero_le (show 0 ≤ S by omega)
    obtain ⟨n, rfl⟩ := Int.eq_ofNat_of_zero_le hN1
    obtain ⟨g, hAh⟩ := R_addr HF1.out.rd.row (by omega)
    subst hAh
    obtain ⟨a1, hcut1, hC1⟩ := cut_S ⟨g, 0, none⟩ ch hd s (s + n) ((s : Int) + (n : Int)) (by omega) (by omega) (by omega) (Kd.R_reads' HF1.out.rd.row).2.1
    obtain ⟨a2, hcut2, hC2⟩ := cut_F ⟨g, 0, none⟩ ch hd (s + n) ((s : Int) + (n : Int)) (by omega) (by omega) (Kd.R_reads' HF1.out.rd.row).2.1
    have hst : ((s : Int) + (n : Int)).toNat = s + n := by omega
    rw [hst, show ((s : Int)).toNat = s by omega] at HFD2
    obtain ⟨m, hm⟩ : ∃ m, (hd.take (s + n)).drop s = m := ⟨_, rfl⟩
    obtain ⟨hd', hhd⟩ : ∃ hd', hd.drop (s + n) = hd' := ⟨_, rfl⟩
    rw [hm] at hcut1 hC1 HFD2
    rw [hhd] at hcut2 hC2 HFD2
    have HML := Aside0.mk (show m.length ≤ 1073741824 ∧ hd'.length ≤ 1073741824 ∧ hd'.length + (s + n) = hd.length ∧ Bytes hd' by
      have := HLH.out; have := HEL.out
      refine ⟨by rw [← hm, List.length_drop, List.length_take]; omega, by rw [← hhd, List.length_drop]; omega, by rw [← hhd, List.length_drop]; omega, by rw [← hhd]; exact fun y hy => HBH.out y (List.mem_of_mem_drop hy)⟩)
    have HCC1 := Aside0.mk hC1
    have HCC2 := Aside0.mk hC2
    have hmm := HMM.out
    clear hC1 hC2 hm hhd hst
    go_wp2_with (fail)
    refine (clone_R a1 _ m _ (HCC1.out _ (Kd.R_reads' HF1.out.rd.row).2.2) (by have := HML.out; omega)).mono ?_
    rintro e W2 ⟨vm, rfl, hRm, hB2⟩
    obtain ⟨Am, cm, rfl⟩ := Kd.R_slice hRm
    have HLT := Aside0.mk (And.intro (Kd.R_lt HF1.out.rd.row) (And.intro (Kd.S_lt HF1.out.out) (And.intro (Kd.R_base hRm) (And.intro hB2.size HF1.out.size))))
    have HF2 := Aside0.mk (HF1.out.below hB2)
    have HRM := Aside0.mk hRm
    have HOS := Aside0.mk (Kd.S_mono (ok' := fun k => (some k ≠ (Value.slice (some ⟨g, 0, none⟩) hd.length ch).ownBlock) ∧ ¬ W1.heap.size ≤ k) (Kd.S_old HF1.out.out hB2) (fun k hk => ⟨hk.1, by have := hk.2; omega⟩))
    have hw0 : w0.heap.size ≤ w.heap.size := HB.out.size
    clear hRm hB2 HF1 HCC1 q1 q2 g1 g2
    go_wp2_with (at_builtin; refine Kd.S_append (Kd.slice 5 (Kd.int .u8)) (w0 := W2) (W := W2) w.heap.size rfl (.tmp 68) (.tmp 79) 25 22 (.slice none 0 0) 24 rfl Tryd.underlying25 info22 rfl (by decide) (by omega) u6 out m [.slice Am m.length cm] (fun k => some k ≠ (Value.slice (some ⟨g, 0, none⟩) hd.length ch).ownBlock) (fun k => W1.heap.size ≤ k) (by rfl) (by rfl) ?aP ?aK ?aF HOS.out (Below.refl _ _) ?aS ?aL ?_)
    case aP => exact ⟨_, rfl, Kd.R_lower (R_scalar HRM.out (fun k hk => HLT.out.2.2.1 k hk)) HLT.out.2.2.2.2⟩
    case aK => exact fun k hk => ⟨fun e => by have := HLT.out.1 k e.symm; omega, fun e => by have := HLT.out.2.1 k e.symm; omega⟩
    case aF => exact fun k hk e => by have := HLT.out.1 k e.symm; have := HLT.out.2.2.2.1; omega
    case aS => exact HF2.out.size
    case aL => have := HLH.out; have := HEL.out; omega
    intro v3 W3 hr3 _ hg3 _
    have HF3 := Aside0.mk (HF2.out.push HH.out.lt hw0 hr3 hg3)
    clear hr3 hg3 HF2 HRM HLT
    have q1 := HF3.out.rd.c1
    go_wp2_with (fail)
    refine (clone_R a2 _ hd' _ (HCC2.out _ (Kd.R_reads' HF3.out.rd.row).2.2) (by have := HML.out; omega)).mono ?_
    rintro e W4 ⟨vn, rfl, hRn, hB4⟩
    obtain ⟨An, cn, rfl⟩ := Kd.R_slice hRn
    have HF4 := Aside0.mk (HF3.out.next HH.out.lt HBB.out hw0 hRn hB4)
    have hF4 := HF3.out.below hB4
    have q1 := hF4.rd.c1
    have g1 := hF4.rd.f1
    clear hF4 hRn hB4 HF3
    go_wp2
    go_roundg gk
    case measure => omega
    case rel => exact ⟨_, hd', _, HF4, ⟨HML.out.2.2.2⟩, ⟨by have := HLH.out; have := HML.out; rw [List.length_append, List.length_singleton]; omega⟩, HFD2⟩
set_option maxHeartbeats 2000000 in
theorem feedS_callsS (w0 w : World) (b : Nat) (most : Int) (v : Value) (held : List Int) (S : St) (A : Option Addr) (c : Nat) (l : List Int) (h : RD w0.heap.size b most v held S.dead w) (hs : RS most S held) (hB : Below w0.heap.size w0 w) (hbb : w0.heap.size ≤ b) (hm : 0 ≤ most) (hm2 : most ≤ 16777216)
    (hC : Kd.C (Kd.int .u8) w A l.length l) (hlb : Bytes l) (hl : l.length ≤ 1000000000) :
    Calls Tryd.prog 11 #[.pointer (some ⟨b, 0, none⟩), .slice A l.length c] w fun e w' => ∃ v' vo held', e = .returned (.tuple #[vo, .int .i64 (rfeed S l).2.2]) ∧
      RS most (rfeed S l).1 held' ∧ RD w0.heap.size b most v' held' (rfeed S l).1.dead w' ∧ Kd.S (Kd.slice 5 (Kd.int .u8)) 22 w' w.heap.size (fun k => some k ≠ v'.ownBlock) vo (rfeed S l).2.1 ∧ Below w0.heap.size w0 w' ∧ OwnIs w v v' ∧ Apart2 w b v w' ∧ w.heap.size ≤ w'.heap.size := by
  have htop := hs.top
  cases hd : S.dead with
  | true =>
    have e : rfeed S l = (S, [], 251) := by unfold rfeed; rw [if_pos hd]
    rw [e]
    rw [hd] at h
    obtain ⟨hS, hH⟩ := hs.gone hd
    refine (feed_dead _ _ _ _ _ _ _ _ _ h).mono ?_
    rintro x w' ⟨rfl, rfl⟩
    exact ⟨v, _, held, rfl, hs, by rw [hd]; exact h, Kd.S_nil _ _ _ _ _, hB, .inl rfl, fun k _ _ _ => rfl, Nat.le_refl _⟩
  | false =>
    rw [hd] at h
    have e : rfeed S l = ((runS S l).1, (runS S l).2.1, if (runS S l).2.2 = true then 250 else 0) := by unfold rfeed; rw [if_neg (by simp [hd])]
    rw [e]
    refine (feed_callsS w0 w b most v held A c l h hB hbb hm hm2 hC hs.bytes hlb (by omega)).mono ?_
    rintro x w' ⟨v', vo, k, rfl, hk, hrd, hro, hB', hown, hap, hsz⟩
    obtain ⟨S', msgs, f, held', h1, h2, h3, h4⟩ := feed_pair hm (hs.alive hd) l k hk
    rw [h2] at hrd hro ⊢
    rw [h1]
    have hsuf : held' <:+ held ++ l := by have := feedN_suffix' most k (held ++ l) []; rw [h2] at this; exact this
    have hby : Bytes held' := fun y hy => by
      rcases List.mem_append.1 (hsuf.subset hy) with hy | hy
      · exact hs.bytes y hy
      · exact hlb y hy
    cases f with
    | true =>
      obtain ⟨rfl, rfl⟩ := h3 rfl
      exact ⟨v', vo, [], rfl, ⟨hby, rfl, (fun h => by cases h), fun _ => ⟨rfl, rfl⟩, by simp; omega⟩, hrd, hro, hB', hown, hap, hsz⟩
    | false =>
      have hI := h4 rfl
      have hal : S'.dead = false := hI.alive
      refine ⟨v', vo, held', rfl, ⟨hby, hI.held.symm, fun _ => hI, (fun h => by simp only at h; rw [hal] at h; cases h), hI.top⟩, ?_, hro, hB', hown, hap, hsz⟩
      simp only at hrd ⊢
      rw [hal]; exact hrd
end Go.Proofs.YtgdiilpocoimgaaDoor.Hand

set_option linter.unusedVariables false
set_option linter.unusedSimpArgs false
namespace Go.Proofs.YtgdiilpocoimgaaDoor.Hand
open Go.RowKit Go.Proofs.YtgdiilpocoimgaaDoor.Frm Go.Proofs.YtgdiilpocoimgaaDoorW.PrintWords Go.Proofs.YtgdiilpocoimgaaDoorW.PrintLast Go.Proofs.YtgdiilpocoimgaaDoorW.PrintMore
section
variable {P : Program} {ops : Array Oper} {rest : List Oper} {o : Oper} {a : Act} {Q : Exit → Act → World → Prop} {α : Type}
open Classical in
theorem S_append_rows (d : Kd α) {w0 W : World} (base : Nat) (hgd : o.guard = none) (s x : Operand) (t e : TypeId) (z : Value) (bytes : Nat)
    (ho : o.op = .call { callee := .builtin .append, args := #[s, x], argTypes := #[t, t] })
    (ht : P.underlying t = some (.slice e)) (hinfo : (P.info? e).map (fun i => (i.zero, i.size, i.bytes)) = some (some z, d.sz, bytes)) (hz : z.cells.size = d.sz) (hs0 : 0 < d.sz) (hb0 : 0 < bytes)
    (v : Value) (xs ys : List α) (A : Option Addr) (m c : Nat) (ok okp oku : Nat → Prop) (e2 base2 : Nat) (hs : a.eval s = v) (hx : a.eval x = .slice A m c)
    (HO : Kd.S d e W base (fun k => ok k ∧ ¬ okp k) v xs) (HR : Kd.S d e2 W base2 oku (.slice A m c) ys) (hbb : base ≤ base2) (hou : ∀ k, oku k → okp k) (hokp : ∀ k, okp k → ok k ∧ some k ≠ v.ownBlock) (hfresh : ∀ k, W.heap.size ≤ k → ok k)
    (HB : Below base w0 W) (hbase : base ≤ W.heap.size) (hl : (xs.length + m) * bytes ≤ 140737488355328)
    (h : ∀ v1 w1, Kd.S d e w1 base ok v1 (xs ++ ys) → Below base w0 w1 → W.grownBy w1 v.ownBlock → (v1.ownBlock = v.ownBlock ∨ ∃ b, v1.ownBlock = some b ∧ W.heap.size ≤ b) → wpList P ops Q rest (a.put o.dst v1) w1) :
    wpList P ops Q (o :: rest) a W := by
  obtain ⟨f1, h1⟩ := HO
  obtain ⟨f2, h2⟩ := HR
  have hR : (Kd.tag (fun k => if okp k then f2 k + xs.length else f1 k) d).R e W base ok v xs.zipIdx := Kd.R_mono (Kd.R_tag h1 (fun k hk _ => if_neg hk.2)) (fun _ hk => hk.1)
  obtain ⟨A', c', he, hle, hr⟩ := OwnRow.reads h2.2
  injection he with he1 he2 he3
  subst he1; subst he3
  rw [List.length_zipIdx] at he2 hle hr
  subst he2
  have hrows : ReadsRow ((Kd.tag (fun k => if okp k then f2 k + xs.length else f1 k) d).M W base okp) d.sz W A ys.length (ys.zipIdx xs.length) := by
    refine ⟨List.length_zipIdx, hr.2.1, fun hp => ?_⟩
    obtain ⟨ad, e', hc⟩ := hr.2.2 hp
    refine ⟨ad, e', fun j p hj => ?_⟩
    rw [List.getElem?_zipIdx] at hj
    obtain ⟨y, hy, rfl⟩ := Option.map_eq_some_iff.1 hj
    obtain ⟨cs, k1, k2, k3⟩ := hc j (y, j) (Kd.zip_at hy)
    refine ⟨cs, k1, ?_, k3⟩
    show d.M W base _ y cs
    exact d.M_mono (fun k hk => ⟨hou k hk.1.1, by
      show (if okp k then f2 k + xs.length else f1 k) = xs.length + j
      rw [if_pos (hou k hk.1.1)]
      have h5 : f2 k = j := hk.2
      omega⟩) (d.M_lower hbb k2)
  refine Kd.R_append_rows (Kd.tag (fun k => if okp k then f2 k + xs.length else f1 k) d) base hgd s x t e z bytes ho ht hinfo hz hs0 hb0 v xs.zipIdx (ys.zipIdx xs.length) A ys.length c ok okp hs hx hR hrows (fun _ _ h => h) hokp hfresh HB hbase (by rw [List.length_zipIdx]; exact hl) ?_
  intro v1 w1 hr1
  have hz2 : (xs ++ ys).zipIdx = xs.zipIdx ++ ys.zipIdx xs.length := by rw [List.zipIdx_append, Nat.zero_add]
  rw [← hz2] at hr1
  exact h v1 w1 ⟨_, hr1⟩
theorem run_append_keep (w : World) (base : Nat) (t ty e : TypeId) (i : TypeInfo) (z : Value) (ht : P.underlying t = some (.slice e)) (hi : P.info? e = some i) (hz : i.zero = some z) (hsz : i.size = 1) (hby : i.bytes = 1) (hzs : z.cells.size = 1)
    (v : Value) (n : Nat) (xs : List Value) (hown : w.ownsRow base e 1 v n xs) (ad : Addr) (u : Value) (hu : w.cell? ad = some u) (h1 : u.oneCell' = true) (hl : n + 1 ≤ 140737488355328) (hbase : base ≤ w.heap.size) :
    ∃ v' w', (Builtin.append_ #[t, t] ty #[v, .slice (some ad) 1 1]).run P w = .ok v' w' ∧ w'.ownsRow base e 1 v' (n + 1) (xs ++ [u]) ∧ w.grownBy w' v.ownBlock ∧
      ((∃ A c, v = .slice A n c ∧ v' = .slice A (n + 1) c) ∨ (v'.ownBlock = some w.heap.size ∧ Below w.heap.size w w')) := by
  have hnews : ∀ j q, [u][j]? = some q → w.cell? (ad.add j) = some q := fun j q hj => by
    match j, hj with
    | 0, hj =>
      simp at hj
      subst hj
      simpa [Addr.add] using hu
  have hone : ∀ q ∈ [u], q.oneCell' = true := fun q hq => by simp at hq; rw [hq]; exact h1
  obtain ⟨v', w', hr, h2, h3, _, h5⟩ := run_append_own_at (P := P) w base t ty e i z 1 1 ht hi hz hsz hby hzs (by omega) v n xs hown ad 1 1 [u] rfl hnews hone (by simp only [maxLen]; omega) (by omega) hbase
  refine ⟨v', w', hr, h2, h3, ?_⟩
  rcases hown.2 with ⟨rfl, rfl⟩ | ⟨g, cap, cur, rfl, hbg, hg, hnc, hcm, hcs, htake⟩
  · right
    rcases h5 with h5 | h5
    · exfalso
      rcases h2.2 with ⟨hv, hn⟩ | ⟨g, cap, cur, rfl, _⟩
      · omega
      · simp [Value.ownBlock] at h5
    · exact ⟨h5, h3.os, h3.tape, h3.output, h3.size, fun k hk => h3.block k hk (by simp [Value.ownBlock])⟩
  · by_cases hroom : n + 1 ≤ cap
    · left
      have hr2 := run_append_room (P := P) w t ty e i ht hi g n cap cur hg ad 1 1 [u] (by rw [hsz]; rfl) hnews hone hroom (by rw [hsz, hcs]; simp; omega)
      rw [hr] at hr2
      injection hr2 with e1 e2
      exact ⟨_, _, rfl, e1⟩
    · right
      have holds : ∀ j u, xs[j]? = some u → w.cell? ((⟨g, 0, none⟩ : Addr).add j) = some u := hown.cells (g := g) rfl
      have hr2 := run_append_grow (P := P) w t ty e i z ht hi hz ⟨g, 0, none⟩ n cap xs (by rw [hsz]; exact hown.1) holds ad 1 1 [u] (by rw [hsz]; rfl) hnews (by omega) (by omega) (growslice_fits (by omega) (by rw [hby]; omega))
      rw [hr] at hr2
      injection hr2 with e1 e2
      refine ⟨by rw [e1]; rfl, ?_⟩
      rw [e2]
      exact below_alloc (below_drew (Below.refl _ _)) _
/-- append(v, b), behind 'at_builtin': the row at hand grows where it lies, or a new one is made and nothing old is touched. -/
theorem append_keep {W : World} (base : Nat) (hgd : o.guard = none) (s x : Operand) (t : TypeId)
    (ho : o.op = .call { callee := .builtin .append, args := #[s, x], argTypes := #[t, t] }) (ht : P.underlying t = some (.slice 5)) (hinfo : (P.info? 5).map (fun i => (i.zero, i.size, i.bytes)) = some (some (.int .u8 0), 1, 1))
    (v : Value) (xs : List Int) (b : Int) (ok : Nat → Prop) (hs : a.eval s = v) (hx : a.eval x = .slice (some ⟨W.heap.size, 0, none⟩) 1 1)
    (HO : Kd.R (Kd.int .u8) 5 W base ok v xs) (hbase : base ≤ W.heap.size) (hl : xs.length + 1 ≤ 140737488355328)
    (h : ∀ v1 w1, Kd.R (Kd.int .u8) 5 w1 base (fun _ => True) v1 (xs ++ [b]) → W.grownBy w1 v.ownBlock → ((∃ A c, v = .slice A xs.length c ∧ v1 = .slice A (xs.length + 1) c) ∨ ((∃ g, v1.ownBlock = some g ∧ W.heap.size ≤ g) ∧ Below W.heap.size W w1)) → wpList P ops Q rest (a.put o.dst v1) w1) :
    wpList P ops Q (o :: rest) a (W.alloc (.cells #[.int .u8 b] 5)) := by
  obtain ⟨i0, hi, hzz⟩ := Option.map_eq_some_iff.1 hinfo
  simp only [Prod.mk.injEq] at hzz
  obtain ⟨hz0, hz1, hz2⟩ := hzz
  have hown := Kd.own_of_R HO
  obtain ⟨v1, w1, hr1, h2, h3, h4⟩ := run_append_keep (P := P) (W.alloc (.cells #[.int .u8 b] 5)) base t o.type 5 i0 (.int .u8 0) ht hi hz0 hz1 hz2 rfl v xs.length _ (hown.alloc _) ⟨W.heap.size, 0, none⟩ (.int .u8 b)
    (by simp) rfl hl (by have := (below_alloc (Below.refl W.heap.size W) (.cells #[.int .u8 b] 5)).size; omega)
  refine wpList_plain hgd fun K hK => ?_
  unfold Oper.wp execOp
  simp only [ho, resolve, invoke, builtin, Sem.run_bind, Sem.run_pure, Result.andThen_ok, List.map_toArray, List.map_cons, List.map_nil, hs, hx, hr1]
  have hB0 := below_alloc (Below.refl W.heap.size W) (.cells #[.int .u8 b] 5)
  refine hK _ _ (h v1 w1 ?_ ?_ ?_)
  · refine Kd.R_of_own (enc := Value.int .u8) (h1 := fun _ => rfl) ?_ (fun _ _ => trivial)
    have e1 : encs (Value.int .u8) (xs ++ [b]) = encs (Value.int .u8) xs ++ [.int .u8 b] := by simp [encs]
    rw [e1, List.length_append]
    exact h2
  · exact ⟨h3.os.trans hB0.os, h3.tape.trans hB0.tape, h3.output.trans hB0.output, Nat.le_trans hB0.size h3.size, fun k hk hne => (h3.block k (by have := hB0.size; omega) hne).trans (hB0.block k hk)⟩
  · rcases h4 with h4 | ⟨h4, h5⟩
    · exact .inl h4
    · exact .inr ⟨⟨_, h4, hB0.size⟩, below_step hB0 h5⟩
end
theorem ReadsL.step {W W1 : World} {v : Value} {l : List Int} (h : ReadsL W v l) (hs : ∀ k, v.ownBlock = some k → k < W.heap.size → W1.heap[k]? = W.heap[k]?) : ReadsL W1 v l := by
  obtain ⟨A, c, rfl, hl, hC⟩ := h
  refine ⟨A, c, rfl, hl, hC.1, hC.2.1, fun h0 => ?_⟩
  obtain ⟨ad, rfl, hc⟩ := hC.2.2 h0
  refine ⟨ad, rfl, fun j p hj => ?_⟩
  obtain ⟨cs, h1, h2, h3⟩ := hc j p hj
  refine ⟨cs, h1, h2, fun i x hx => ?_⟩
  have h4 := h3 i x hx
  have hlt := cell_lt h4
  rw [add_block] at hlt
  rw [World.cell?_of_block (w := W) (by rw [add_block]; exact hs ad.block rfl hlt)]
  exact h4
theorem SR.step {W W1 : World} {s : St} {vl vb : Value} (h : SR W s vl vb) (h1 : ∀ k, vl.ownBlock = some k → k < W.heap.size → W1.heap[k]? = W.heap[k]?) (h2 : ∀ k, vb.ownBlock = some k → k < W.heap.size → W1.heap[k]? = W.heap[k]?) : SR W1 s vl vb := ⟨h.line.step h1, h.body.step h2⟩
theorem SR.grownBy {W W1 : World} {s : St} {u vl vb : Value} (h : SR W s vl vb) (hg : W.grownBy W1 u.ownBlock) (h1 : Sep u vl) (h2 : Sep u vb) : SR W1 s vl vb :=
  h.step (fun k hk hlt => hg.block k hlt (fun e => h1 k e.symm hk.symm)) (fun k hk hlt => hg.block k hlt (fun e => h2 k e.symm hk.symm))
theorem Sep.sym {u v : Value} (h : Sep u v) : Sep v u := fun k hk e => h k e.symm hk.symm
/-- What byte row r is filled with. -/
def bv (r : Nat) : Int := ((r : Int) + 1) % 256
structure Filled (X Y : List (List Int)) (i k : Nat) : Prop where
  len : Y.length = X.length
  lens : ∀ r, (Y.getD r []).length = (X.getD r []).length
  at_ : ∀ r c, (r < i ∨ r = i ∧ c < k) → r < Y.length → c < (Y.getD r []).length → (Y.getD r []).getD c 0 = bv r
theorem Filled.start (X : List (List Int)) : Filled X X 0 0 := ⟨rfl, fun _ => rfl, fun r c h => by omega⟩
theorem Filled.next {X Y : List (List Int)} {i k : Nat} (h : Filled X Y i k) (hk : (X.getD i []).length ≤ k) : Filled X Y (i + 1) 0 :=
  ⟨h.len, h.lens, fun r c hr h1 h2 => h.at_ r c (by
    by_cases e : r < i
    · exact .inl e
    · have e2 : r = i := by omega
      subst e2
      rw [h.lens r] at h2
      exact .inr ⟨rfl, by omega⟩) h1 h2⟩
theorem Filled.set {X Y : List (List Int)} {i k : Nat} (h : Filled X Y i k) (hi : i < Y.length) : Filled X (Y.set i ((Y.getD i []).set k (bv i))) i (k + 1) := by
  have hg : ∀ r, (Y.set i ((Y.getD i []).set k (bv i))).getD r [] = if r = i then (Y.getD i []).set k (bv i) else Y.getD r [] := by
    intro r
    simp only [List.getD_eq_getElem?_getD]
    by_cases e : r = i
    · subst e
      rw [List.getElem?_set_self hi, if_pos rfl]; rfl
    · rw [List.getElem?_set_ne (Ne.symm e), if_neg e]
  refine ⟨by rw [List.length_set]; exact h.len, fun r => ?_, fun r c hr h1 h2 => ?_⟩
  · rw [hg]
    by_cases e : r = i
    · subst e; rw [if_pos rfl, List.length_set]; exact h.lens r
    · rw [if_neg e]; exact h.lens r
  · rw [hg] at h2 ⊢
    rw [List.length_set] at h1
    by_cases e : r = i
    · subst e
      rw [if_pos rfl] at h2 ⊢
      rw [List.length_set] at h2
      rw [List.getD_eq_getElem?_getD]
      by_cases ec : k = c
      · subst ec
        rw [List.getElem?_set_self h2]; rfl
      · rw [List.getElem?_set_ne ec, ← List.getD_eq_getElem?_getD]
        exact h.at_ r c (by omega) h1 h2
    · rw [if_neg e] at h2 ⊢
      exact h.at_ r c (by omega) h1 h2
end Go.Proofs.YtgdiilpocoimgaaDoor.Hand

set_option linter.unusedVariables false
set_option linter.unusedSimpArgs false
namespace Go.Proofs.YtgdiilpocoimgaaDoor.Hand
open Go.RowKit Go.Proofs.YtgdiilpocoimgaaDoor.Frm Go.Proofs.YtgdiilpocoimgaaDoorW.PrintWords Go.Proofs.YtgdiilpocoimgaaDoorW.PrintLast Go.Proofs.YtgdiilpocoimgaaDoorW.PrintMore
/-- The reader b and the two lists that are gathered (X, Y), beside the document's rows vl and vb. -/
structure OS (w0 w6 : World) (b : Nat) (n : Int) (N : Nat) (S : St) (v : Value) (held : List Int) (gv tv vl vb : Value) (X Y : List (List Int)) (W : World) : Prop where
  rd : RD w0.heap.size b n v held S.dead W
  rs : RS n S held
  bel : Below w0.heap.size w0 W
  got : Kd.S KM 22 W w6.heap.size (fun k => (some k ≠ v.ownBlock ∧ k < N) ∧ some k ≠ tv.ownBlock) gv X
  told : Kd.R KM 22 W w6.heap.size (fun k => (some k ≠ v.ownBlock ∧ k < N) ∧ some k ≠ gv.ownBlock) tv Y
  s1 : Sep v vl
  s2 : Sep v vb
  s3 : Sep gv vl
  s4 : Sep gv vb
  s5 : Sep tv vl
  s6 : Sep tv vb
  size : w6.heap.size ≤ N
  top : N ≤ W.heap.size
section
variable {w0 w6 W W' : World} {b N : Nat} {n : Int} {S S' : St} {v v' gv gv' tv tv' vl vb vl' vb' : Value} {held held' : List Int} {X Y X' Y' : List (List Int)}
theorem OS.start (rd : RD w0.heap.size b n v held S.dead w6) (rs : RS n S held) (bel : Below w0.heap.size w0 w6) (s1 : Sep v vl) (s2 : Sep v vb) : OS w0 w6 b n w6.heap.size S v held (.slice none 0 0) (.slice none 0 0) vl vb [] [] w6 :=
  ⟨rd, rs, bel, Kd.S_nil _ _ _ _ _, Kd.R_nil _ _ _ _ _, s1, s2, fun k hk => (by cases hk), fun k hk => (by cases hk), fun k hk => (by cases hk), fun k hk => (by cases hk), Nat.le_refl _, Nat.le_refl _⟩
theorem OS.gotN (h : OS w0 w6 b n N S v held gv tv vl vb X Y W) : ∀ k, gv.ownBlock = some k → w6.heap.size ≤ k ∧ k < N ∧ some k ≠ v.ownBlock ∧ some k ≠ tv.ownBlock := fun k hk => by
  have h1 := (Kd.S_R h.got).1 k hk
  exact ⟨Kd.S_base h.got k hk, h1.1.2, h1.1.1, h1.2⟩
theorem OS.toldN (h : OS w0 w6 b n N S v held gv tv vl vb X Y W) : ∀ k, tv.ownBlock = some k → w6.heap.size ≤ k ∧ k < N ∧ some k ≠ v.ownBlock ∧ some k ≠ gv.ownBlock := fun k hk => by
  have h1 := h.told.1 k hk
  exact ⟨Kd.R_base h.told k hk, h1.1.2, h1.1.1, h1.2⟩
theorem OS.below (h : OS w0 w6 b n N S v held gv tv vl vb X Y W) (hB : Below W.heap.size W W') : OS w0 w6 b n N S v held gv tv vl vb X Y W' :=
  ⟨h.rd.below hB, h.rs, below_step h.bel hB, Kd.S_below h.got hB, Kd.R_below h.told hB, h.s1, h.s2, h.s3, h.s4, h.s5, h.s6, h.size, Nat.le_trans h.top hB.size⟩
/-- Behind a call of Feed. -/
theorem OS.feed (h : OS w0 w6 b n N S v held gv tv vl vb X Y W) (hb : b < w6.heap.size) (h1 : LtW vl W) (h2 : LtW vb W) (hrs : RS n S' held') (hrd : RD w0.heap.size b n v' held' S'.dead W') (hB : Below w0.heap.size w0 W') (how : OwnIs W v v') (hap : Apart2 W b v W') (hsz : W.heap.size ≤ W'.heap.size) :
    OS w0 w6 b n N S' v' held' gv tv vl vb X Y W' := by
  have hok : ∀ k, some k ≠ v.ownBlock → k < N → some k ≠ v'.ownBlock := fun k hk hlt e => by
    rcases how with e' | e' | ⟨g', e', hge⟩
    · exact hk (e.trans e')
    · rw [e'] at e; cases e
    · rw [e'] at e; injection e with e; have := h.top; omega
  refine ⟨hrd, hrs, hB, ?_, ?_, h.s1.feed h1 how, h.s2.feed h2 how, h.s3, h.s4, h.s5, h.s6, h.size, Nat.le_trans h.top hsz⟩
  · exact Kd.S_mono (Kd.S_step (Kd.S_bound h.got) (fun k hk hlt => hap k hlt (by have := hk.2.1; omega) hk.1.1.1)) (fun k hk => ⟨⟨hok k hk.1.1.1 hk.1.1.2, hk.1.1.2⟩, hk.1.2⟩)
  · exact Kd.R_mono (Kd.R_step (Kd.R_bound h.told) (fun k hk hlt => hap k hlt (by have := hk.2.1; omega) hk.1.1.1)) (fun k hk => ⟨⟨hok k hk.1.1.1 hk.1.1.2, hk.1.1.2⟩, hk.1.2⟩)
/-- Another block has been written. -/
theorem OS.only {g : Nat} (h : OS w0 w6 b n N S v held gv tv vl vb X Y W) (o : Only W W' g) (hgb : g ≠ b) (hg0 : w0.heap.size ≤ g) (hv : some g ≠ v.ownBlock) (hN : N ≤ g ∨ g < w6.heap.size) : OS w0 w6 b n N S v held gv tv vl vb X Y W' := by
  refine ⟨⟨(o.block b (Ne.symm hgb)).trans h.rd.cell, ?_⟩, h.rs, o.below h.bel hg0, ?_, ?_, h.s1, h.s2, h.s3, h.s4, h.s5, h.s6, h.size, by rw [o.size]; exact h.top⟩
  · exact Kd.R_mono (Kd.R_move (R_scalar (ok' := fun k => k ≠ b ∧ k ≠ g) h.rd.row (fun k hk => ⟨h.rd.row.1 k hk, fun e => hv (by rw [← e]; exact hk.symm)⟩)) (fun k hk => o.block k hk.2)) (fun k hk => hk.1)
  · exact Kd.S_mono (Kd.S_step (Kd.S_bound h.got) (fun k hk _ => o.block k (by have := hk.2.1; have := hk.1.1.2; omega))) (fun k hk => hk.1)
  · exact Kd.R_mono (Kd.R_step (Kd.R_bound h.told) (fun k hk _ => o.block k (by have := hk.2.1; have := hk.1.1.2; omega))) (fun k hk => hk.1)
/-- The document's rows have moved. -/
theorem OS.doc {W0 : World} (h : OS w0 w6 b n N S v held gv tv vl vb X Y W) (hv : LtW v W0) (hN : N ≤ W0.heap.size) (o1 : Org W0 W vl vl') (o2 : Org W0 W vb vb') : OS w0 w6 b n N S v held gv tv vl' vb' X Y W :=
  have hg : LtW gv W0 := fun k hk => by have := (h.gotN k hk).2.1; omega
  have ht : LtW tv W0 := fun k hk => by have := (h.toldN k hk).2.1; omega
  ⟨h.rd, h.rs, h.bel, h.got, h.told, h.s1.org hv o1, h.s2.org hv o2, h.s3.org hg o1, h.s4.org hg o2, h.s5.org ht o1, h.s6.org ht o2, h.size, h.top⟩
theorem own_hat (hat : gv'.ownBlock = gv.ownBlock ∨ ∃ b, gv'.ownBlock = some b ∧ W.heap.size ≤ b) : OwnIs W gv gv' := by
  rcases hat with e | e
  · exact .inl e
  · exact .inr (.inr e)
/-- Behind an append to the first list. -/
theorem OS.pushG (h : OS w0 w6 b n N S v held gv tv vl vb X Y W) (hb : b < w6.heap.size) (hw : w0.heap.size ≤ w6.heap.size) (h1 : LtW vl W) (h2 : LtW vb W) (hr : Kd.S KM 22 W' w6.heap.size (fun k => some k ≠ v.ownBlock ∧ some k ≠ tv.ownBlock) gv' X') (hg : W.grownBy W' gv.ownBlock) (hat : gv'.ownBlock = gv.ownBlock ∨ ∃ b, gv'.ownBlock = some b ∧ W.heap.size ≤ b) :
    OS w0 w6 b n W'.heap.size S v held gv' tv vl vb X' Y W' := by
  have hsz := hg.size
  have htop := h.top
  have hsi := h.size
  refine ⟨h.rd.grown hg (fun e => by have := (h.gotN b e.symm).1; omega) (fun k hk e => (h.gotN k e.symm).2.2.1 hk.symm), h.rs, h.bel.grown hg (by omega) (fun k hk => by have := (h.gotN k hk).1; omega), ?_, ?_, h.s1, h.s2, h.s3.feed h1 (own_hat hat), h.s4.feed h2 (own_hat hat), h.s5, h.s6, by omega, Nat.le_refl _⟩
  · exact Kd.S_mono (Kd.S_bound hr) (fun k hk => ⟨⟨hk.1.1, hk.2.2.1⟩, hk.1.2⟩)
  · exact Kd.R_mono (Kd.R_after h.told hg hat) (fun k hk => ⟨⟨hk.1.1, by have := hk.1.2; omega⟩, hk.2⟩)
/-- Behind an append to the second. -/
theorem OS.pushT (h : OS w0 w6 b n N S v held gv tv vl vb X Y W) (hb : b < w6.heap.size) (hw : w0.heap.size ≤ w6.heap.size) (h1 : LtW vl W) (h2 : LtW vb W) (hr : Kd.R KM 22 W' w6.heap.size (fun k => some k ≠ v.ownBlock ∧ some k ≠ gv.ownBlock) tv' Y') (hg : W.grownBy W' tv.ownBlock) (hat : tv'.ownBlock = tv.ownBlock ∨ ∃ b, tv'.ownBlock = some b ∧ W.heap.size ≤ b) :
    OS w0 w6 b n W'.heap.size S v held gv tv' vl vb X Y' W' := by
  have hsz := hg.size
  have htop := h.top
  have hsi := h.size
  refine ⟨h.rd.grown hg (fun e => by have := (h.toldN b e.symm).1; omega) (fun k hk e => (h.toldN k e.symm).2.2.1 hk.symm), h.rs, h.bel.grown hg (by omega) (fun k hk => by have := (h.toldN k hk).1; omega), ?_, ?_, h.s1, h.s2, h.s3, h.s4, h.s5.feed h1 (own_hat hat), h.s6.feed h2 (own_hat hat), by omega, Nat.le_refl _⟩
  · exact Kd.S_mono (Kd.S_after h.got hg hat) (fun k hk => ⟨⟨hk.1.1, by have := hk.1.2; omega⟩, hk.2⟩)
  · exact Kd.R_mono (Kd.R_bound hr) (fun k hk => ⟨⟨hk.1.1, hk.2.2.1⟩, hk.1.2⟩)
theorem OS.bump (h : OS w0 w6 b n N S v held gv tv vl vb X Y W) : OS w0 w6 b n W.heap.size S v held gv tv vl vb X Y W :=
  ⟨h.rd, h.rs, h.bel, Kd.S_mono h.got (fun k hk => ⟨⟨hk.1.1, by have := hk.1.2; have := h.top; omega⟩, hk.2⟩), Kd.R_mono h.told (fun k hk => ⟨⟨hk.1.1, by have := hk.1.2; have := h.top; omega⟩, hk.2⟩), h.s1, h.s2, h.s3, h.s4, h.s5, h.s6, Nat.le_trans h.size h.top, Nat.le_refl _⟩
end
/-- What stands behind the loop: the reader, the document's state (block g6), the messages; their blocks are below N. -/
structure GS (w0 w6 : World) (b g6 : Nat) (cs : Array Value) (n : Int) (N : Nat) (v : Value) (held : List Int) (dead : Bool) (gv : Value) (Y : List (List Int)) (W : World) : Prop where
  rd : RD w0.heap.size b n v held dead W
  hk : W.heap[g6]? = some (.cells cs 32 (0, 0))
  bel : Below w0.heap.size w0 W
  got : Kd.S KM 22 W w6.heap.size (fun k => some k ≠ v.ownBlock ∧ k < N) gv Y
  hb : b < w6.heap.size
  hg6 : g6 < w6.heap.size
  hw : w0.heap.size ≤ w6.heap.size
  h6 : w6.heap.size ≤ N
  top : N ≤ W.heap.size
section
variable {w0 w6 W W' : World} {b g6 N : Nat} {cs : Array Value} {n : Int} {v gv : Value} {held : List Int} {dead : Bool} {X Y Y' : List (List Int)}
theorem GS.below (h : GS w0 w6 b g6 cs n N v held dead gv Y W) (hB : Below W.heap.size W W') : GS w0 w6 b g6 cs n N v held dead gv Y W' :=
  ⟨h.rd.below hB, blk_below h.hk hB, below_step h.bel hB, Kd.S_below h.got hB, h.hb, h.hg6, h.hw, h.h6, Nat.le_trans h.top hB.size⟩
/-- A row has been written: none of the reader's, the state's. -/
theorem GS.grown {row : Option Nat} (h : GS w0 w6 b g6 cs n N v held dead gv Y W) (hg : W.grownBy W' row) (hrow : ∀ k, row = some k → w6.heap.size ≤ k ∧ some k ≠ v.ownBlock) (hgot : Kd.S KM 22 W' w6.heap.size (fun k => some k ≠ v.ownBlock ∧ k < N) gv Y') :
    GS w0 w6 b g6 cs n N v held dead gv Y' W' := by
  have h1 := h.hb
  have h2 := h.hg6
  have h3 := h.hw
  have h4 := h.h6
  have h5 := h.top
  exact ⟨h.rd.grown hg (fun e => by have := (hrow b e.symm).1; omega) (fun k hk e => (hrow k e.symm).2 hk.symm), (hg.block g6 (by omega) (fun e => by have := (hrow g6 e.symm).1; omega)).trans h.hk, h.bel.grown hg (by omega) (fun k hk => by have := (hrow k hk).1; omega), hgot, h1, h2, h3, h4, Nat.le_trans h5 hg.size⟩
/-- A row that is none of the messages'. -/
theorem GS.far {row : Option Nat} (h : GS w0 w6 b g6 cs n N v held dead gv Y W) (hg : W.grownBy W' row) (hrow : ∀ k, row = some k → N ≤ k ∧ some k ≠ v.ownBlock) : GS w0 w6 b g6 cs n N v held dead gv Y W' :=
  h.grown hg (fun k hk => ⟨by have := (hrow k hk).1; have := h.h6; omega, (hrow k hk).2⟩) (Kd.S_grown h.got hg (fun k hk e => by have := (hrow k e.symm).1; have := hk.2; omega))
/-- Message j: where it lies; what a write to its row leaves. -/
theorem GS.at_ {A : Option Addr} {m cg : Nat} (h : GS w0 w6 b g6 cs n N v held dead (.slice A m cg) Y W) (j : Nat) (hj : j < m) :
    ∃ ad A0 c0, A = some ad ∧ W.cell? (ad.add j) = some (.slice A0 (Y.getD j []).length c0) ∧ Kd.R (Kd.int .u8) 5 W w6.heap.size (fun k => some k ≠ v.ownBlock ∧ k < N) (.slice A0 (Y.getD j []).length c0) (Y.getD j []) ∧ some ad.block ≠ (Value.slice A0 (Y.getD j []).length c0).ownBlock ∧ ad.block < N ∧
      ∀ W1 x', W.grownBy W1 (Value.slice A0 (Y.getD j []).length c0).ownBlock → Kd.R (Kd.int .u8) 5 W1 w6.heap.size (fun _ => True) (.slice A0 (Y.getD j []).length c0) x' → GS w0 w6 b g6 cs n N v held dead (.slice A m cg) (Y.set j x') W1 := by
  have hm := (Kd.S_reads' h.got).1
  obtain ⟨g, cap, hv, hg1, hg2, _⟩ := Kd.S_form h.got (by omega)
  injection hv with hA hn hc
  subst hA
  obtain ⟨oki, c, hcl, hM, hcc, hoki, hback⟩ := Kd.S_borrow h.got [] (j : Int) (by omega) (by omega)
  obtain ⟨u, hcu, hR⟩ := hM
  subst hcu
  have hx := hcc 0 u rfl
  obtain ⟨A0, c0, hu⟩ := Kd.R_slice hR
  subst hu
  simp only [Int.toNat_natCast] at hR hback hx
  have e1 : ((⟨g, 0, none⟩ : Addr).add (j * KM.sz + 0)) = (⟨g, 0, none⟩ : Addr).add j := by
    show (⟨g, 0, none⟩ : Addr).add (j * 1 + 0) = _
    rw [Nat.mul_one, Nat.add_zero]
  rw [e1] at hx
  refine ⟨⟨g, 0, none⟩, A0, c0, rfl, hx, Kd.R_mono hR (fun k hk => (hoki k hk).1), fun e => (hoki g (hR.1 g e.symm)).2 (by simp [Value.ownBlock]), ((Kd.S_R h.got).1 g (by simp [Value.ownBlock])).2, fun W1 x' hg hx' => ?_⟩
  have hlen := (Kd.R_reads' hx').1
  refine h.grown hg (fun k hk => ⟨Kd.R_base hR k hk, (hoki k (hR.1 k hk)).1.1⟩) (hback hg (fun k hk => hR.1 k hk) ⟨_, rfl, R_scalar hx' (fun k hk => hR.1 k hk)⟩)
end
theorem set_same (Y : List (List Int)) (j : Nat) : Y.set j (Y.getD j []) = Y := by
  apply List.ext_getElem?
  intro r
  by_cases e : j = r
  · subst e
    by_cases hlt : j < Y.length
    · rw [List.getElem?_set_self hlt, List.getD_eq_getElem?_getD, List.getElem?_eq_getElem hlt]; rfl
    · rw [List.getElem?_eq_none (by rw [List.length_set]; omega), List.getElem?_eq_none (by omega)]
  · rw [List.getElem?_set_ne e]
theorem byte_cell {W : World} {base : Nat} {ok : Nat → Prop} {g n c : Nat} {xs : List Int} (h : Kd.R (Kd.int .u8) 5 W base ok (.slice (some ⟨g, 0, none⟩) n c) xs) (k : Nat) (hk : k < xs.length) : W.cell? ⟨g, k, none⟩ = some (.int .u8 (xs.getD k 0)) := by
  have h1 := Kd.R_reads' h
  obtain ⟨cs, hl, hM, hcc, _⟩ := Kd.R_elem h (0 : Int) (k : Int) (by omega) (by omega)
  have hM2 : cs = [Value.int .u8 (xs.getD ((k : Int)).toNat 0)] := hM
  subst hM2
  have := hcc 0 _ rfl
  simpa [Kd.int, Kd.scalar] using this
section
variable {P : Program} {ops : Array Oper} {rest : List Oper} {o : Oper} {a : Act} {Q : Exit → Act → World → Prop}
/-- s[i] = b, s a row of bytes of one's own. -/
theorem byte_store {W : World} (base : Nat) (hN : o.dst = none) (hgd : o.guard = none) (p x : Operand) (ho : o.op = .store 5 p x) {g n cap i : Nat} (xs : List Int) (b : Int) (ok : Nat → Prop) (haddr : a.eval p = .pointer (some ⟨g, i, none⟩)) (hx : a.eval x = .int .u8 b)
    (ht : (P.info? 5).map (·.size) = some 1) (HO : Kd.R (Kd.int .u8) 5 W base ok (.slice (some ⟨g, 0, none⟩) n cap) xs) (hi : i < n)
    (h : ∀ w1, Kd.R (Kd.int .u8) 5 w1 base ok (.slice (some ⟨g, 0, none⟩) n cap) (xs.set i b) → W.grownBy w1 (some g) → wpList P ops Q rest a w1) : wpList P ops Q (o :: rest) a W := by
  obtain ⟨c, hcl, hM, hcc, _⟩ := Kd.R_elem HO (0 : Int) (i : Int) (by omega) (by omega)
  refine Kd.R_store (Kd.int .u8) (w0 := W) base hN hgd 5 p x ho 5 (o' := i) (i : Int) 0 xs b (.int .u8 b) [.int .u8 b] c ok (fun _ => False) haddr (by simp [Kd.int, Kd.scalar]) hx rfl ht (fun q hq => by simp at hq; rw [hq]; rfl) HO (by omega) (by omega) hcl hcc (by rw [hcl.symm]; simp [hcl, Kd.int, Kd.scalar]) ?_ (fun _ hk => hk.elim) (Below.refl _ _) (fun w1 h1 _ h3 => h w1 (by simpa using h1) h3)
  have : c.take 0 ++ [Value.int .u8 b] ++ c.drop (0 + 1) = [Value.int .u8 b] := by
    rw [List.take_zero, List.nil_append, List.drop_of_length_le (by rw [hcl]; simp [Kd.int, Kd.scalar]), List.append_nil]
  show (Kd.int .u8).M W base _ b (c.take 0 ++ [Value.int .u8 b] ++ c.drop (0 + 1))
  rw [this]
  rfl
end
/-- Another block has been written (and more made). -/
theorem OS.far {w0 w6 W W' : World} {b N g : Nat} {n : Int} {S : St} {v gv tv vl vb : Value} {held : List Int} {X Y : List (List Int)} (h : OS w0 w6 b n N S v held gv tv vl vb X Y W) (hg : W.grownBy W' (some g)) (hgb : g ≠ b) (hg0 : w0.heap.size ≤ g) (hw : w0.heap.size ≤ w6.heap.size) (hv : some g ≠ v.ownBlock) (hN : N ≤ g ∨ g < w6.heap.size) : OS w0 w6 b n N S v held gv tv vl vb X Y W' := by
  have hsz := hg.size
  have htop := h.top
  have hsi := h.size
  refine ⟨h.rd.grown hg (fun e => by injection e with e; exact hgb e.symm) (fun k hk e => hv (by rw [← e]; exact hk.symm)), h.rs, h.bel.grown hg (by omega) (fun k hk => by injection hk with hk; omega), ?_, ?_, h.s1, h.s2, h.s3, h.s4, h.s5, h.s6, h.size, by omega⟩
  · exact Kd.S_mono (Kd.S_step (Kd.S_bound h.got) (fun k hk hlt => hg.block k hlt (fun e => by injection e with e; have := hk.2.1; have := hk.1.1.2; omega))) (fun k hk => hk.1)
  · exact Kd.R_mono (Kd.R_step (Kd.R_bound h.told) (fun k hk hlt => hg.block k hlt (fun e => by injection e with e; have := hk.2.1; have := hk.1.1.2; omega))) (fun k hk => hk.1)
theorem str_AB (p : List Int) : strOfNums (p ++ [65, 66]) = strOfNums p ++ (⟨#[65, 66]⟩ : ByteArray) := by
  apply ByteArray.ext
  apply Array.toList_inj.1
  rw [strOfNums_data]
  simp [strOfNums, ByteArray.data_append]
theorem Only.rowS {α : Type} {d : Kd α} {e base g : Nat} {W W1 : World} {ok : Nat → Prop} {v : Value} {xs : List α} {cs : Array Value} {t : TypeId} (h : Only W W1 g) (hr : Kd.S d e W base ok v xs) (hb : W.heap[g]? = some (.cells cs t (0, 0))) (ht : ∀ q, q ∈ e :: d.E → q ≠ t) : Kd.S d e W1 base ok v xs :=
  Kd.S_mono (Kd.S_move (Kd.S_types hr hb ht) (fun k hk => h.block k hk.2)) (fun k hk => hk.1)
theorem flatN_le (L : List (List Int)) (i : Nat) : flatN L i ≤ L.flatten.length := by
  have h : L.flatten.length = (L.take i).flatten.length + (L.drop i).flatten.length := by rw [← List.length_append, ← List.flatten_append, List.take_append_drop]
  unfold flatN; omega
theorem byteS_body (s : St) (c : Int) (B : Nat) (h : s.body.length ≤ B) : (byteS s c).1.body.length ≤ B + 1 ∧ ∀ m ∈ (byteS s c).2.1.toList, m.length ≤ B + 1 := by
  unfold byteS
  repeat' split
  all_goals (try simp [st0, stDead])
  all_goals (try omega)
theorem runS_msgs : ∀ (l : List Int) (s : St) (B : Nat), s.body.length ≤ B → ∀ m ∈ (runS s l).2.1, m.length ≤ B + l.length
  | [], s, B, h, m, hm => by cases hm
  | c :: t, s, B, h, m, hm => by
    have h1 := byteS_body s c B h
    rw [runS] at hm
    rw [List.length_cons]
    split at hm
    · cases hm
    · rcases List.mem_append.1 hm with hm | hm
      · have := h1.2 m hm; omega
      · have := runS_msgs t _ _ h1.1 m hm; omega
theorem rfeed_msgs (s : St) (l : List Int) (B : Nat) (h : s.body.length ≤ B) : ∀ m ∈ (rfeed s l).2.1, m.length ≤ B + l.length := by
  unfold rfeed
  split
  · intro m hm; cases hm
  · exact runS_msgs l s B h
theorem getD_len {X : List (List Int)} {B : Nat} (h : ∀ x ∈ X, x.length ≤ B) (j : Nat) : (X.getD j []).length ≤ B := by
  rw [List.getD_eq_getElem?_getD]
  cases e : X[j]? with
  | none => simp
  | some x => exact h x (List.mem_of_getElem? e)
/-- One byte more behind a message: the messages stand. -/
theorem own_pad {w0 w6 W W1 : World} {b g6 N : Nat} {cs : Array Value} {n : Int} {v u v1 : Value} {held : List Int} {dead : Bool} {Y : List (List Int)} {ad : Addr} {m cg j c0 : Nat} {A0 : Option Addr} {row ys : List Int} {x : Int}
    (h : GS w0 w6 b g6 cs n N v held dead (.slice (some ad) m cg) Y W) (hrow : Y.getD j [] = row) (hj : j < m) (hx : W.cell? (ad.add j) = some (.slice A0 row.length c0)) (hne : some ad.block ≠ (Value.slice A0 row.length c0).ownBlock) (hN : ad.block < N)
    (hR : Kd.R (Kd.int .u8) 5 W w6.heap.size (fun k => some k ≠ v.ownBlock) u ys) (hC : (∃ m, u = .slice A0 m c0 ∧ row.length ≤ ys.length ∧ ys.take row.length = row) ∨ (∀ k, u.ownBlock = some k → N ≤ k))
    (hr1 : Kd.R (Kd.int .u8) 5 W1 w6.heap.size (fun _ => True) v1 (ys ++ [x])) (hg1 : W.grownBy W1 u.ownBlock) (hat : (∃ A c, u = .slice A ys.length c ∧ v1 = .slice A (ys.length + 1) c) ∨ ((∃ g, v1.ownBlock = some g ∧ W.heap.size ≤ g) ∧ Below W.heap.size W W1)) :
    GS w0 w6 b g6 cs n N v held dead (.slice (some ad) m cg) Y W1 ∧ W1.cell? (ad.add j) = some (.slice A0 row.length c0) ∧ Kd.R (Kd.int .u8) 5 W1 w6.heap.size (fun k => some k ≠ v.ownBlock) v1 (ys ++ [x]) ∧
      ((∃ m, v1 = .slice A0 m c0 ∧ row.length ≤ (ys ++ [x]).length ∧ (ys ++ [x]).take row.length = row) ∨ (∀ k, v1.ownBlock = some k → N ≤ k)) := by
  have hvl := Kd.R_lt h.rd.row
  have htop := h.top
  rcases hat with ⟨A, c, hu, hv1⟩ | ⟨⟨g, hg, hgs⟩, hB⟩
  · have hown : v1.ownBlock = u.ownBlock := by rw [hu, hv1]; cases A <;> rfl
    have hR1 := R_scalar (ok' := fun k => some k ≠ v.ownBlock) hr1 (fun k hk => hR.1 k (hown.symm.trans hk))
    rcases hC with ⟨m', hu2, hle, htk⟩ | hC
    · rw [hu2] at hu
      injection hu with e1 e2 e3
      subst e1; subst e3
      obtain ⟨ad2, A2, c2, ea, hx2, hR2, hne2, _, hset⟩ := h.at_ j hj
      injection ea with ea
      subst ea
      rw [hrow, hx] at hx2
      injection hx2 with hx2
      injection hx2 with e4 e5 e6
      subst e4; subst e6
      rw [hrow] at hset hne2
      have hown2 : u.ownBlock = (Value.slice A0 row.length c0).ownBlock := by rw [hu2]; cases A0 <;> rfl
      have htk2 : (ys ++ [x]).take row.length = row := by rw [List.take_append_of_le_length hle]; exact htk
      have hx' : Kd.R (Kd.int .u8) 5 W1 w6.heap.size (fun _ => True) (.slice A0 row.length c0) row := by
        rw [hv1] at hr1
        have h5 := Kd.R_take hr1 (m := row.length) (by rw [List.length_append]; omega)
        rw [htk2] at h5
        exact h5
      have h6 := hset W1 row (by rw [← hown2]; exact hg1) hx'
      rw [← hrow, set_same] at h6
      refine ⟨h6, (hg1.cell hx (by rw [add_block, hown2]; exact hne)), hR1, .inl ⟨_, hv1, by rw [List.length_append]; omega, htk2⟩⟩
    · refine ⟨h.far hg1 (fun k hk => ⟨hC k hk, hR.1 k hk⟩), hg1.cell hx (by rw [add_block]; exact fun e => by have := hC _ e.symm; omega), hR1, .inr (fun k hk => hC k (hown.symm.trans hk))⟩
  · have hcx := (hB.cell (cell_lt hx)).trans hx
    refine ⟨h.below hB, hcx, R_scalar hr1 (fun k hk e => ?_), .inr (fun k hk => ?_)⟩
    · rw [hg] at hk; injection hk with hk; have := hvl k e.symm; omega
    · rw [hg] at hk; injection hk with hk; omega
end Go.Proofs.YtgdiilpocoimgaaDoor.Hand
