/- Feed: its walk. -/
import Derived.Test.YtgdiilpocoimgaaDoorFFeed1
import Derived.Deep.RegionHeld3
set_option linter.unusedVariables false
set_option linter.unusedSimpArgs false
namespace Go.Proofs.YtgdiilpocoimgaaDoor.Hand
open Go.RowKit Go.Proofs.YtgdiilpocoimgaaDoor.Frm Go.Proofs.YtgdiilpocoimgaaDoorW.PrintWords Go.Proofs.YtgdiilpocoimgaaDoorW.PrintLast Go.Proofs.YtgdiilpocoimgaaDoorW.PrintMore
attribute [local go_sem] max2_int min2_int max_two min_two max_three min_three max_four min_four

/-- The one block or none. -/
def OwnIs (w : World) (v v' : Value) : Prop := v'.ownBlock = v.ownBlock ∨ v'.ownBlock = none ∨ ∃ g, v'.ownBlock = some g ∧ w.heap.size ≤ g
/-- All but a reader and its row stands as it stood. -/
def Apart2 (w : World) (b : Nat) (v : Value) (w' : World) : Prop := ∀ k, k < w.heap.size → k ≠ b → some k ≠ v.ownBlock → w'.heap[k]? = w.heap[k]?
/-- What stands at the head of Feed's loop. -/
structure FL (w0 w : World) (b : Nat) (most : Int) (v0 : Value) (v : Value) (held : List Int) (vo : Value) (out : List (List Int)) (W : World) : Prop where
  rd : RD w0.heap.size b most v held false W
  out : Kd.R (Kd.slice 5 (Kd.int .u8)) 22 W w.heap.size (fun k => some k ≠ v.ownBlock) vo out
  bel : Below w0.heap.size w0 W
  own : OwnIs w v0 v
  apart : Apart2 w b v0 W
  size : w.heap.size ≤ W.heap.size
theorem FL.below {w0 w : World} {b : Nat} {most : Int} {v0 v : Value} {held : List Int} {vo : Value} {out : List (List Int)} {W W' : World} (h : FL w0 w b most v0 v held vo out W) (hB : Below W.heap.size W W') : FL w0 w b most v0 v held vo out W' :=
  ⟨h.rd.below hB, Kd.R_below h.out hB, below_step h.bel hB, h.own, fun k hk hkb hkv => (hB.block k (by have := h.size; omega)).trans (h.apart k hk hkb hkv), by have := h.size; have := hB.size; omega⟩
theorem FL.die {w0 w : World} {b : Nat} {most : Int} {v0 v : Value} {held : List Int} {vo : Value} {out : List (List Int)} {W : World} (h : FL w0 w b most v0 v held vo out W) (hb : b < w.heap.size) (hbb : w0.heap.size ≤ b) :
    RD w0.heap.size b most (.slice none 0 0) [] true ((W.setCell ⟨b, 1, none⟩ (.slice none 0 0)).setCell ⟨b, 2, none⟩ (.bool true)) ∧
    Kd.R (Kd.slice 5 (Kd.int .u8)) 22 ((W.setCell ⟨b, 1, none⟩ (.slice none 0 0)).setCell ⟨b, 2, none⟩ (.bool true)) w.heap.size (fun k => some k ≠ (Value.slice none 0 0).ownBlock) vo out ∧
    Below w0.heap.size w0 ((W.setCell ⟨b, 1, none⟩ (.slice none 0 0)).setCell ⟨b, 2, none⟩ (.bool true)) ∧ OwnIs w v0 (.slice none 0 0) ∧ Apart2 w b v0 ((W.setCell ⟨b, 1, none⟩ (.slice none 0 0)).setCell ⟨b, 2, none⟩ (.bool true)) ∧ w.heap.size ≤ ((W.setCell ⟨b, 1, none⟩ (.slice none 0 0)).setCell ⟨b, 2, none⟩ (.bool true)).heap.size := by
  have hb1 := Kd.R_mono (ok' := fun k => some k ≠ (Value.slice none 0 0).ownBlock ∧ k ≠ b) (Kd.R_bound h.out) (fun k hk => ⟨by simp [Value.ownBlock], by have := hk.2.1; omega⟩)
  have hs1 : (W.setCell ⟨b, 1, none⟩ (.slice none 0 0)).heap.size = W.heap.size := Deep.nblk_setCell _ _ _
  have hs2 : ((W.setCell ⟨b, 1, none⟩ (.slice none 0 0)).setCell ⟨b, 2, none⟩ (.bool true)).heap.size = W.heap.size := (Deep.nblk_setCell _ _ _).trans hs1
  have hk : ∀ k, k ≠ b → ((W.setCell ⟨b, 1, none⟩ (.slice none 0 0)).setCell ⟨b, 2, none⟩ (.bool true)).heap[k]? = W.heap[k]? := fun k hk => (Deep.blk_setCell_other _ _ _ k hk).trans (Deep.blk_setCell_other _ _ _ k hk)
  refine ⟨h.rd.die, ?_, h.bel.trans ⟨rfl, rfl, rfl, by rw [hs2]; exact Nat.le_refl _, fun k hlt => hk k (by omega)⟩, .inr (.inl rfl), fun k hlt hkb hkv => (hk k hkb).trans (h.apart k hlt hkb hkv), by rw [hs2]; exact h.size⟩
  exact Kd.R_mono (Kd.R_far (p := ⟨b, 2, none⟩) (Kd.R_far (p := ⟨b, 1, none⟩) hb1 (fun k hk => hk.2) _) (fun k hk => hk.2) _) (fun k hk => hk.1)
theorem info22 : (Tryd.prog.info? 22).map (fun i => (i.zero, i.size, i.bytes)) = some (some (.slice none 0 0), 1, 24) := by kernel_rfl
theorem cut_S (ad : Addr) (c : Nat) (L : List Int) (lo hi : Nat) (j : Int) (hj : j = (hi : Int)) (h1 : lo ≤ hi) (h2 : hi ≤ L.length) (hc : L.length ≤ c) :
    ∃ a' : Addr, (∀ W : World, (Instr.slice 22 (.slice (some ad) L.length c) (some (.int .i64 (lo : Int))) (some (.int .i64 j)) none).run Tryd.prog W = .ok (.slice (some a') ((L.take hi).drop lo).length (c - lo)) W) ∧
      (∀ W : World, Kd.C (Kd.int .u8) W (some ad) L.length L → Kd.C (Kd.int .u8) W (some a') ((L.take hi).drop lo).length ((L.take hi).drop lo)) := by
  obtain ⟨i0, hi0, _, hsz, _⟩ := info_parts info5
  subst hj
  have hcut := cut_mid (P := Tryd.prog) 22 5 .i64 .i64 Tryd.underlying22 hi0 1 hsz (some ad) L.length c (lo : Int) (hi : Int) (by omega) (by omega) (by omega) hc
  have e1 : ((hi : Int)).toNat - ((lo : Int)).toNat = ((L.take hi).drop lo).length := by rw [List.length_drop, List.length_take]; omega
  have e2 : ((lo : Int)).toNat = lo := by omega
  have e3 : (if c = lo then some ad else (some ad).map (·.add (lo * 1))) = some (if c = lo then ad else ad.add (lo * 1)) := by split <;> rfl
  refine ⟨if c = lo then ad else ad.add (lo * 1), fun W => ?_, fun W h => ?_⟩
  · rw [hcut W, e1, e2, e3]
  · rw [← e3]; exact Kd.C_mid h h1 h2 hc
theorem cut_F (ad : Addr) (c : Nat) (L : List Int) (lo : Nat) (j : Int) (hj : j = (lo : Int)) (h1 : lo ≤ L.length) (hc : L.length ≤ c) :
    ∃ a' : Addr, (∀ W : World, (Instr.slice 22 (.slice (some ad) L.length c) (some (.int .i64 j)) none none).run Tryd.prog W = .ok (.slice (some a') (L.drop lo).length (c - lo)) W) ∧
      (∀ W : World, Kd.C (Kd.int .u8) W (some ad) L.length L → Kd.C (Kd.int .u8) W (some a') (L.drop lo).length (L.drop lo)) := by
  obtain ⟨i0, hi0, _, hsz, _⟩ := info_parts info5
  subst hj
  have hcut := cut_from (P := Tryd.prog) 22 5 .i64 Tryd.underlying22 hi0 1 hsz (some ad) L.length c (lo : Int) (by omega) (by omega)
  have e1 : L.length - ((lo : Int)).toNat = (L.drop lo).length := by rw [List.length_drop]; omega
  have e2 : ((lo : Int)).toNat = lo := by omega
  have e3 : (if c = lo then some ad else (some ad).map (·.add (lo * 1))) = some (if c = lo then ad else ad.add (lo * 1)) := by split <;> rfl
  refine ⟨if c = lo then ad else ad.add (lo * 1), fun W => ?_, fun W h => ?_⟩
  · rw [hcut W, e1, e2, e3]
  · rw [← e3]; exact Kd.C_drop h h1 hc
theorem R_scalar {base : Nat} {ok ok' : Nat → Prop} {v : Value} {w : World} {xs : List Int} (h : Kd.R (Kd.int .u8) 5 w base ok v xs) (hok : ∀ k, v.ownBlock = some k → ok' k) : Kd.R (Kd.int .u8) 5 w base ok' v xs :=
  Kd.R_of_own (enc := Value.int .u8) (h1 := fun _ => rfl) (Kd.own_of_R h) hok
theorem FL.push {w0 w : World} {b : Nat} {most : Int} {v0 v : Value} {held : List Int} {vo vo' : Value} {out : List (List Int)} {m : List Int} {W W' : World} (h : FL w0 w b most v0 v held vo out W) (hbw : b < w.heap.size) (hw : w0.heap.size ≤ w.heap.size)
    (hr : Kd.R (Kd.slice 5 (Kd.int .u8)) 22 W' w.heap.size (fun k => some k ≠ v.ownBlock) vo' (out ++ [m])) (hg : W.grownBy W' vo.ownBlock) : FL w0 w b most v0 v held vo' (out ++ [m]) W' := by
  have hb := Kd.R_base h.out
  have hne : ∀ k, k < w.heap.size → some k ≠ vo.ownBlock := fun k hk e => by have := hb k e.symm; omega
  have hrow := R_scalar (ok' := fun k => k ≠ b ∧ some k ≠ vo.ownBlock) h.rd.row (fun k hk => ⟨h.rd.row.1 k hk, fun e => (h.out.1 k e.symm) hk.symm⟩)
  exact ⟨⟨(hg.block b h.rd.lt (hne b hbw)).trans h.rd.cell, Kd.R_mono (Kd.R_grown hrow hg (fun k hk => hk.2)) (fun k hk => hk.1)⟩, hr,
    h.bel.trans ⟨hg.os, hg.tape, hg.output, hg.size, fun k hk => hg.block k (by have := h.size; omega) (hne k (by omega))⟩, h.own,
    fun k hk hkb hkv => (hg.block k (by have := h.size; omega) (hne k hk)).trans (h.apart k hk hkb hkv), by have := h.size; have := hg.size; omega⟩
theorem FL.next {w0 w : World} {b : Nat} {most : Int} {v0 v v' : Value} {held held' : List Int} {vo : Value} {out : List (List Int)} {W W' : World} (h : FL w0 w b most v0 v held vo out W) (hbw : b < w.heap.size) (hbb : w0.heap.size ≤ b)
    (hw : w0.heap.size ≤ w.heap.size) (hr : Kd.R (Kd.int .u8) 5 W' W.heap.size (fun _ => True) v' held') (hB : Below W.heap.size W W') : FL w0 w b most v0 v' held' vo out (W'.setCell ⟨b, 1, none⟩ v') := by
  have hF := h.below hB
  have hb := Kd.R_base hr
  have hs : (W'.setCell ⟨b, 1, none⟩ v').heap.size = W'.heap.size := Deep.nblk_setCell _ _ _
  have hk : ∀ k, k ≠ b → (W'.setCell ⟨b, 1, none⟩ v').heap[k]? = W'.heap[k]? := fun k hk => Deep.blk_setCell_other _ _ _ k hk
  have hrow : Kd.R (Kd.int .u8) 5 W' w0.heap.size (fun k => k ≠ b) v' held' := Kd.R_lower (R_scalar hr (fun k hk => by have := hb k hk; have := h.size; omega)) (by have := h.size; omega)
  have hout : Kd.R (Kd.slice 5 (Kd.int .u8)) 22 W' w.heap.size (fun k => some k ≠ v'.ownBlock ∧ k ≠ b) vo out := by
    have h1 := Kd.R_below (Kd.R_bound h.out) hB
    exact Kd.R_mono h1 (fun k hk => ⟨fun e => by have := hb k e.symm; omega, by have := hk.2.1; omega⟩)
  refine ⟨RD.store hF.rd.cell hrow, Kd.R_mono (Kd.R_far (p := ⟨b, 1, none⟩) hout (fun k hk => hk.2) _) (fun k hk => hk.1), hF.bel.trans ⟨rfl, rfl, rfl, by rw [hs]; exact Nat.le_refl _, fun k hlt => hk k (by omega)⟩, ?_,
    fun k hlt hkb hkv => (hk k hkb).trans (hF.apart k hlt hkb hkv), by rw [hs]; exact hF.size⟩
  cases e : v'.ownBlock with
  | none => exact .inr (.inl e)
  | some g => exact .inr (.inr ⟨g, e, by have := hb g e; have := h.size; omega⟩)
set_option maxHeartbeats 8000000 in
set_option maxRecDepth 1000000 in
theorem feed_calls (w0 w : World) (b : Nat) (most : Int) (v : Value) (held : List Int) (A : Option Addr) (c : Nat) (l : List Int) (h : RD w0.heap.size b most v held false w) (hB : Below w0.heap.size w0 w) (hbb : w0.heap.size ≤ b) (hm : 0 ≤ most) (hm2 : most ≤ 16777216)
    (hC : Kd.C (Kd.int .u8) w A l.length l) (hhb : Bytes held) (hlb : Bytes l) (hl : held.length + l.length ≤ 1073741824) :
    Calls Tryd.prog 11 #[.pointer (some ⟨b, 0, none⟩), .slice A l.length c] w fun e w' => ∃ v' vo k, e = .returned (.tuple #[vo, .int .i64 (feedN k most (held ++ l) []).2.2]) ∧ held.length + l.length < k ∧
      RD w0.heap.size b most v' (feedN k most (held ++ l) []).2.1 (decide ((feedN k most (held ++ l) []).2.2 = 250)) w' ∧ Kd.R (Kd.slice 5 (Kd.int .u8)) 22 w' w.heap.size (fun k => some k ≠ v'.ownBlock) vo (feedN k most (held ++ l) []).1 ∧ Below w0.heap.size w0 w' ∧ OwnIs w v v' ∧ Apart2 w b v w' ∧ w.heap.size ≤ w'.heap.size := by
  obtain ⟨j, hj, hjs⟩ := Option.map_eq_some_iff.1 sizeReader
  obtain ⟨A0, c0, rfl⟩ := Kd.R_slice h.row
  have c1 := h.c1
  have c2 := h.c2
  have HH := Aside0.mk h
  have HB := Aside0.mk hB
  have HC := Aside0.mk hC
  have HLL := Aside0.mk hl
  have HBB := Aside0.mk hbb
  have HAL := Aside0.mk (show Bytes (held ++ l) by intro y hy; rcases List.mem_append.1 hy with hy | hy; exact hhb y hy; exact hlb y hy)
  have HMM := Aside0.mk (And.intro hm hm2)
  obtain ⟨E, hE⟩ : ∃ E, held ++ l = E := ⟨_, rfl⟩
  have HEL := Aside0.mk (show E.length ≤ 1073741824 by rw [← hE, List.length_append]; omega)
  have HEE := Aside0.mk (show held.length + l.length = E.length by rw [← hE, List.length_append])
  rw [hE] at HAL
  rw [hE]
  have HE := Aside0.mk hE
  clear h hB hC hhb hlb hl hE hbb hm hm2
  go_enter Tryd.func11, Tryd.ntmps11
  go_wp2_with (at_builtin; refine Kd.R_append_rows (Kd.int .u8) (w0 := w0) w0.heap.size rfl (.tmp 22) (.tmp 23) 22 5 (.int .u8 0) 1 rfl Tryd.underlying22 info5 rfl (by decide) (by omega) (.slice A0 held.length c0) held l _ _ _ (fun k => k ≠ b) (fun _ => False) rfl rfl HH.out.row HC.out (fun _ _ h => ?aM) (fun _ h => h.elim) ?aF HB.out ?aS ?aL ?_)
  case aM => exact h
  case aF => exact fun k hk => by have := HH.out.lt; omega
  case aS => exact HB.out.size
  case aL => have := HLL.out; omega
  intro v1 w1 hr1 hb1 hg1 hat1
  rw [HE.out] at hr1
  obtain ⟨A1, cc1, rfl⟩ := Kd.R_slice hr1
  have hbl := HH.out.lt
  have hne : some b ≠ (Value.slice A0 held.length c0).ownBlock := Kd.R_away HH.out.row (fun k hk => hk)
  have hcell1 : w1.heap[b]? = some (.cells #[.int .i64 most, .slice A0 held.length c0, .bool false] 53 (0, 0)) := (hg1.block b hbl hne).trans HH.out.cell
  have f1 : w1.frozen? ⟨b, 1, none⟩ = false := by simp [World.frozen?, hcell1]
  have g1 : w1.cell? ⟨b, 1, none⟩ = some (.slice A0 held.length c0) := by simp [World.cell?, hcell1]
  have hrd2 := RD.store (v0 := .slice A0 held.length c0) (dead := false) hcell1 hr1
  have HFL := Aside0.mk (show FL w0 w b most (.slice A0 held.length c0) (.slice A1 E.length cc1) E (.slice none 0 0) [] (w1.setCell ⟨b, 1, none⟩ (.slice A1 E.length cc1)) from
    ⟨hrd2, Kd.R_nil _ _ _ _ _, hb1.trans ⟨rfl, rfl, rfl, by rw [Deep.nblk_setCell]; exact Nat.le_refl _, fun k hk => Deep.blk_setCell_other _ _ _ k (by have := HBB.out; simp; omega)⟩,
      (by rcases hat1 with h | ⟨g, h1, h2⟩; exact .inl h; exact .inr (.inr ⟨g, h1, h2⟩)), fun k hk hkb hkv => (Deep.blk_setCell_other _ _ _ k hkb).trans (hg1.block k hk hkv), by rw [Deep.nblk_setCell]; exact hg1.size⟩)
  clear hr1 hb1 hg1 hat1 hne hcell1 hrd2 hbl c1 c2
  obtain ⟨r, hr⟩ : ∃ r, feedN (E.length + 1) most E [] = r := ⟨_, rfl⟩
  have HR := Aside0.mk hr
  clear hr
  go_wp2
  generalize w1.setCell ⟨b, 1, none⟩ (.slice A1 E.length cc1) = w2 at HFL ⊢
  go_loopg [6] (E.length + 1) (fun g v6 wx => ∃ (vh : Value) (hd : List Int) (out : List (List Int)), Aside0 (FL w0 w b most (.slice A0 held.length c0) vh hd v6 out wx) ∧ Aside0 (Bytes hd) ∧ Aside0 (out.length + hd.length ≤ E.length ∧ hd.length < g) ∧ Aside0 (feedN g most hd out = r))
  case atStart => exact ⟨_, _, _, HFL, HAL, ⟨by simp, by omega⟩, HR⟩
  case round =>
    obtain ⟨vh, hd, out, HF, HBH, HLH, HFD⟩ := hrel
    obtain ⟨gk, rfl⟩ : ∃ g', gk = g' + 1 := ⟨gk - 1, by have := HLH.out; omega⟩
    obtain ⟨Ah, ch, rfl⟩ := Kd.R_slice HF.out.rd.row
    have hfd := HFD.out
    rw [feedN] at hfd
    have q0 := HF.out.rd.c0
    have q1 := HF.out.rd.c1
    by_cases h0 : hd.length = 0
    · have hb0 : decide ((0 : Int) < (hd.length : Int)) = false := decide_eq_false (by omega)
      rw [if_pos h0] at hfd
      subst hfd
      clear HFD
      go_wp2
      go_ret2
      have hf := HF.out
      refine ⟨_, _, _, by rw [HR.out]; rfl, by have := HEE.out; omega, ?_, ?_, hf.bel, hf.own, hf.apart, hf.size⟩
      · rw [HR.out]; exact hf.rd
      · rw [HR.out]; exact hf.out
    have hb0 : decide ((0 : Int) < (hd.length : Int)) = true := decide_eq_true (by omega)
    rw [if_neg h0] at hfd
    have HFD2 := Aside0.mk hfd
    clear hfd HFD
    go_wp2
    have keepF : ∀ wx, Below wr.heap.size wr wx → wx.cell? ⟨b, 0, none⟩ = some (.int .i64 most) ∧ wx.cell? ⟨b, 1, none⟩ = some (.slice Ah hd.length ch) ∧ Aside0 (Below wr.heap.size wr wx) := fun wx hB => ⟨(HF.out.rd.below hB).c0, (HF.out.rd.below hB).c1, ⟨hB⟩⟩
    go_region_held (fun wx => wx.cell? ⟨b, 0, none⟩ = some (.int .i64 most) ∧ wx.cell? ⟨b, 1, none⟩ = some (.slice Ah hd.length ch) ∧ Aside0 (Below wr.heap.size wr wx))
      (exact keepF _ (by first | assumption | exact Below.refl _ _ | exact below_drew1 (Below.refl _ _)))
      (first | (go_at_call 24; refine (header_calls Ah ch hd most _ (Kd.C_drew (Kd.R_reads' HF.out.rd.row).2.2) (Kd.R_reads' HF.out.rd.row).2.1 (R_cap HF.out.rd.row) (fun h => (R_addr HF.out.rd.row h).elim fun g hg => ⟨g, 0, hg⟩) HBH.out (by have := HLH.out; have := HEL.out; omega) (by have := HMM.out; omega)).mono ?_; rintro e W1 ⟨rfl, hb⟩; have hB1 := below_step (below_drew1 (Below.refl wr.heap.size wr)) hb; clear hb))
    rename_i hh
    have HF1 := Aside0.mk (HF.out.below hB1)
    have q1 := hh.2.1
    have q2 := HF1.out.rd.c2
    have g1 := HF1.out.rd.f1
    have g2 := HF1.out.rd.f2
    have ht := headL_told hd most HMM.out.1
    obtain ⟨⟨S, N, T⟩, hq⟩ : ∃ q, headL hd most = q := ⟨_, rfl⟩
    rw [hq] at ht HFD2
    simp only [hq] at *
    clear hh keepF hB1 HF hq q0
    have hfd := HFD2.out
    clear HFD2
    rcases ht with ht | ht | ht
    · cases ht
      rw [if_pos rfl] at hfd
      subst hfd
      go_wp2
      go_ret2
      have hx := HF1.out.die HH.out.lt HBB.out
      refine ⟨_, _, _, by rw [HR.out]; rfl, by have := HEE.out; omega, ?_, ?_, hx.2.2⟩
      · rw [HR.out]; exact hx.1
      · rw [HR.out]; exact hx.2.1
    · cases ht
      rw [if_neg (by simp), if_pos (Or.inl rfl)] at hfd
      subst hfd
      go_wp2
      go_ret2
      have hf := HF1.out
      refine ⟨_, _, _, by rw [HR.out]; rfl, by have := HEE.out; omega, ?_, ?_, hf.bel, hf.own, hf.apart, hf.size⟩
      · rw [HR.out]; exact hf.rd
      · rw [HR.out]; exact hf.out
    obtain ⟨rfl, hS1, hS2, hS3, hN1, hN2⟩ := ht
    simp only at hS1 hS2 hS3 hN1 hN2
    rw [if_neg (by simp)] at hfd
    by_cases hsh : (hd.length : Int) < S + N
    · have hb1 : decide ((hd.length : Int) < S + N) = true := decide_eq_true hsh
      rw [if_pos (Or.inr hsh)] at hfd
      subst hfd
      have hmm := HMM.out
      go_wp2
      go_ret2
      have hf := HF1.out
      refine ⟨_, _, _, by rw [HR.out]; rfl, by have := HEE.out; omega, ?_, ?_, hf.bel, hf.own, hf.apart, hf.size⟩
      · rw [HR.out]; exact hf.rd
      · rw [HR.out]; exact hf.out
    have hb1 : decide ((hd.length : Int) < S + N) = false := decide_eq_false hsh
    rw [if_neg (by simp; omega)] at hfd
    have HFD2 := Aside0.mk hfd
    clear hfd
    obtain ⟨s, rfl⟩ := Int.eq_ofNat_of_zero_le (show 0 ≤ S by omega)
    obtain ⟨n, rfl⟩ := Int.eq_ofNat_of_zero_le hN1
    obtain ⟨g, hAh⟩ := R_addr HF1.out.rd.row (by omega)
    subst hAh
    obtain ⟨a1, hcut1, hC1⟩ := cut_S ⟨g, 0, none⟩ ch hd s (s + n) ((s : Int) + (n : Int)) (by omega) (by omega) (by omega) (Kd.R_reads' HF1.out.rd.row).2.1
    obtain ⟨a2, hcut2, hC2⟩ := cut_F ⟨g, 0, none⟩ ch hd (s + n) ((s : Int) + (n : Int)) (by omega) (by omega) (Kd.R_reads' HF1.out.rd.row).2.1
    have hst : ((s : Int) + (n : Int)).toNat = s + n := by omega
    rw [hst, show ((s : Int)).toNat = s by omega] at HFD2
    obtain ⟨m, hm⟩ : ∃ m, (hd.take (s + n)).drop s = m := ⟨_, rfl⟩
    obtain ⟨hd', hhd⟩ : ∃ hd', hd.drop (s + n) = hd' := ⟨_, rfl⟩
    rw [hm] at hcut1 hC1 HFD2
    rw [hhd] at hcut2 hC2 HFD2
    have HML := Aside0.mk (show m.length ≤ 1073741824 ∧ hd'.length ≤ 1073741824 ∧ hd'.length + (s + n) = hd.length ∧ Bytes hd' by
      have := HLH.out; have := HEL.out
      refine ⟨by rw [← hm, List.length_drop, List.length_take]; omega, by rw [← hhd, List.length_drop]; omega, by rw [← hhd, List.length_drop]; omega, by rw [← hhd]; exact fun y hy => HBH.out y (List.mem_of_mem_drop hy)⟩)
    have HCC1 := Aside0.mk hC1
    have HCC2 := Aside0.mk hC2
    have hmm := HMM.out
    clear hC1 hC2 hm hhd hst
    go_wp2_with (fail)
    refine (clone_R a1 _ m _ (HCC1.out _ (Kd.R_reads' HF1.out.rd.row).2.2) (by have := HML.out; omega)).mono ?_
    rintro e W2 ⟨vm, rfl, hRm, hB2⟩
    obtain ⟨Am, cm, rfl⟩ := Kd.R_slice hRm
    have HLT := Aside0.mk (And.intro (Kd.R_lt HF1.out.rd.row) (And.intro (Kd.R_lt HF1.out.out) (And.intro (Kd.R_base hRm) (And.intro hB2.size HF1.out.size))))
    have HF2 := Aside0.mk (HF1.out.below hB2)
    have HRM := Aside0.mk hRm
    have hw0 : w0.heap.size ≤ w.heap.size := HB.out.size
    clear hRm hB2 HF1 HCC1 q1 q2 g1 g2
    go_wp2_with (at_builtin; refine Kd.R_append (Kd.slice 5 (Kd.int .u8)) (w0 := W2) (W := W2) w.heap.size rfl (.tmp 68) (.tmp 79) 25 22 (.slice none 0 0) 24 rfl Tryd.underlying25 info22 rfl (by decide) (by omega) u6 out m [.slice Am m.length cm] (fun k => some k ≠ (Value.slice (some ⟨g, 0, none⟩) hd.length ch).ownBlock) (fun k => W1.heap.size ≤ k) (by rfl) (by rfl) ?aP ?aK ?aF HF2.out.out (Below.refl _ _) ?aS ?aL ?_)
    case aP => exact ⟨_, rfl, Kd.R_lower (R_scalar HRM.out (fun k hk => HLT.out.2.2.1 k hk)) HLT.out.2.2.2.2⟩
    case aK => exact fun k hk => ⟨fun e => by have := HLT.out.1 k e.symm; omega, fun e => by have := HLT.out.2.1 k e.symm; omega⟩
    case aF => exact fun k hk e => by have := HLT.out.1 k e.symm; have := HLT.out.2.2.2.1; omega
    case aS => exact HF2.out.size
    case aL => have := HLH.out; have := HEL.out; omega
    intro v3 W3 hr3 _ hg3 _
    have HF3 := Aside0.mk (HF2.out.push HH.out.lt hw0 hr3 hg3)
    clear hr3 hg3 HF2 HRM HLT
    have q1 := HF3.out.rd.c1
    go_wp2_with (fail)
    refine (clone_R a2 _ hd' _ (HCC2.out _ (Kd.R_reads' HF3.out.rd.row).2.2) (by have := HML.out; omega)).mono ?_
    rintro e W4 ⟨vn, rfl, hRn, hB4⟩
    obtain ⟨An, cn, rfl⟩ := Kd.R_slice hRn
    have HF4 := Aside0.mk (HF3.out.next HH.out.lt HBB.out hw0 hRn hB4)
    have hF4 := HF3.out.below hB4
    have q1 := hF4.rd.c1
    have g1 := hF4.rd.f1
    clear hF4 hRn hB4 HF3
    go_wp2
    go_roundg gk
    case measure => omega
    case rel => exact ⟨_, hd', _, HF4, ⟨HML.out.2.2.2⟩, ⟨by have := HLH.out; have := HML.out; rw [List.length_append, List.length_singleton]; omega⟩, HFD2⟩
end Go.Proofs.YtgdiilpocoimgaaDoor.Hand
