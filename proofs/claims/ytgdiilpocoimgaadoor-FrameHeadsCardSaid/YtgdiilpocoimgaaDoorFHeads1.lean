/- The greatest header: what the document's reader says of it, wherever it is cut. -/
import Derived.Test.YtgdiilpocoimgaaDoorFRun2
set_option linter.unusedVariables false
set_option linter.unusedSimpArgs false
namespace Go.Proofs.YtgdiilpocoimgaaDoor.Hand
open Go.RowKit Go.Proofs.YtgdiilpocoimgaaDoor.Frm Go.Proofs.YtgdiilpocoimgaaDoorW.PrintWords

def hd0 : List Int := [67, 111, 110, 116, 101, 110, 116, 45, 76, 101, 110, 103, 116, 104, 58, 32, 49, 13, 10, 120, 58]
def ysL (n : Nat) : List Int := hd0 ++ List.replicate n 121
def endH : List Int := [13, 10, 13, 10, 122]
def headsL (m : Nat) : List Int := ysL (4070 + m) ++ endH
theorem ysL_len (n : Nat) : (ysL n).length = 21 + n := by
  unfold ysL; rw [List.length_append, List.length_replicate]; rfl
theorem headsL_len (m : Nat) : (headsL m).length = 4096 + m := by
  unfold headsL; rw [List.length_append, ysL_len]; show 21 + (4070 + m) + 5 = _; omega
theorem ysL_bytes (n : Nat) : Bytes (ysL n) := by
  intro x hx
  rcases List.mem_append.1 hx with hx | hx
  · exact (show Bytes hd0 by decide) x hx
  · rw [List.eq_of_mem_replicate hx]; decide
theorem headsL_bytes (m : Nat) : Bytes (headsL m) := by
  intro x hx
  rcases List.mem_append.1 hx with hx | hx
  · exact ysL_bytes _ x hx
  · exact (show Bytes endH by decide) x hx
theorem run_hd0 : runS (st0 1) hd0 = (⟨1, 21, [120, 58], 1, false, [], false⟩, [], false) := by
  rfl
theorem byte_y (h : Nat) (V : List Int) (hv : Vl V) (n : Int) (hh : h < 4096) : byteS ⟨1, h, [120] ++ 58 :: V, n, false, [], false⟩ 121 = (⟨1, h + 1, [120] ++ 58 :: (V ++ [121]), n, false, [], false⟩, none, false) := by
  have hN : Nm [120] := by intro x hx; rw [List.mem_singleton.1 hx]; decide
  rw [byte_on _ _ rfl (by rw [fits_vl hN hv]; decide) (by show h ≠ 4096; omega) (by decide)]
  simp
theorem run_ys : ∀ (k h : Nat) (V : List Int), Vl V → h + k ≤ 4096 → runS ⟨1, h, [120] ++ 58 :: V, 1, false, [], false⟩ (List.replicate k 121) = (⟨1, h + k, [120] ++ 58 :: (V ++ List.replicate k 121), 1, false, [], false⟩, [], false)
  | 0, h, V, hv, hh => by simp [runS]
  | k + 1, h, V, hv, hh => by
    have hv2 : Vl (V ++ [121]) := by
      intro x hx
      rcases List.mem_append.1 hx with hx | hx
      · exact hv x hx
      · rw [List.mem_singleton.1 hx]; decide
    rw [List.replicate_succ, runS_on _ (byte_y h V hv 1 (by omega)), run_ys k (h + 1) (V ++ [121]) hv2 (by omega)]
    simp only [List.append_assoc, List.singleton_append]
    rw [show h + 1 + k = h + (k + 1) by omega]
theorem run_end (h : Nat) (V : List Int) (hv : Vl V) (hh : h ≤ 4093) : runS ⟨1, h, [120] ++ 58 :: V, 1, false, [], false⟩ endH = if h ≤ 4092 then (st0 1, [[122]], false) else (stDead, [], true) := by
  have hN : Nm [120] := by intro x hx; rw [List.mem_singleton.1 hx]; decide
  obtain ⟨line, hline⟩ : ∃ line, [120] ++ 58 :: V = line := ⟨_, rfl⟩
  have hf := fits_vl hN hv 13
  have hn := named_at hN V
  rw [hline] at hf hn ⊢
  have hlen : 2 ≤ line.length := by rw [← hline]; simp
  have hl2 : ¬ (line ++ [13]).length = 1 := by rw [List.length_append]; simp only [List.length_singleton]; omega
  have e1 : byteS ⟨1, h, line, 1, false, [], false⟩ 13 = (⟨1, h + 1, line ++ [13], 1, false, [], false⟩, none, false) :=
    byte_on _ _ rfl (by show fitsL line 13 = true; rw [hf]; decide) (by show h ≠ 4096; omega) (by decide)
  have e2 : byteS ⟨1, h + 1, line ++ [13], 1, false, [], false⟩ 10 = (⟨1, h + 2, [], 1, false, [], false⟩, none, false) := by
    unfold byteS
    simp only
    rw [if_neg (by simp), if_neg (by rw [fits_cr]; simp; omega), if_neg (by simp), if_neg hl2, if_neg (by rw [hn]; decide)]
  have e3 : byteS ⟨1, h + 2, [], 1, false, [], false⟩ 13 = (⟨1, h + 3, [13], 1, false, [], false⟩, none, false) :=
    byte_on _ _ rfl (by show fitsL [] 13 = true; decide) (by show h + 2 ≠ 4096; omega) (by decide)
  have e4 : byteS ⟨1, h + 3, [13], 1, false, [], false⟩ 10 = if h ≤ 4092 then (⟨1, h + 4, [], 1, true, [], false⟩, none, false) else (stDead, none, true) := by
    by_cases hc : h ≤ 4092
    · rw [if_pos hc]
      unfold byteS
      simp only
      rw [if_neg (by simp), if_neg (by rw [show ([13] : List Int) = [] ++ [13] from rfl, fits_cr]; simp; omega), if_neg (by simp), if_pos (show ([13] : List Int).length = 1 from rfl), if_neg (by omega), if_neg (by omega)]
    · rw [if_neg hc]
      exact byte_bad _ _ rfl (.inr (by show h + 3 = 4096; omega))
  have e5 : byteS ⟨1, h + 4, [], 1, true, [], false⟩ 122 = (st0 1, some [122], false) := rfl
  unfold endH
  rw [runS_on _ e1, runS_on _ e2, runS_on _ e3]
  by_cases hc : h ≤ 4092
  · rw [if_pos hc] at e4 ⊢
    rw [runS_on _ e4, runS_msg _ e5]; rfl
  · rw [if_neg hc] at e4 ⊢
    rw [runS_fault _ e4]
theorem run_heads (m : Nat) (hm : m ≤ 2) : runS (st0 1) (headsL m) = if m ≤ 1 then (st0 1, [[122]], false) else (stDead, [], true) := by
  have h1 : runS (st0 1) (ysL (4070 + m)) = (⟨1, 21 + (4070 + m), [120] ++ 58 :: ([] ++ List.replicate (4070 + m) 121), 1, false, [], false⟩, [], false) := by
    unfold ysL
    rw [runS_append, run_hd0]
    simp only [Bool.false_eq_true, if_false, List.nil_append]
    exact run_ys (4070 + m) 21 [] (fun x hx => by cases hx) (by omega)
  have hv : Vl ([] ++ List.replicate (4070 + m) 121) := by
    intro x hx
    rw [List.nil_append] at hx
    rw [List.eq_of_mem_replicate hx]; decide
  unfold headsL
  rw [runS_append, h1]
  simp only [Bool.false_eq_true, if_false, List.nil_append]
  rw [List.nil_append] at hv
  have h2 := run_end (21 + (4070 + m)) _ hv (by omega)
  simp only [List.singleton_append] at h2 ⊢
  by_cases hc : m ≤ 1
  · rw [if_pos hc]
    rw [if_pos (by omega)] at h2
    exact h2
  · rw [if_neg hc]
    rw [if_neg (by omega)] at h2
    exact h2
theorem feedN_suffix (most : Int) : ∀ (k : Nat) (L : List Int) (out : List (List Int)), (feedN k most L out).2.1 <:+ L
  | 0, L, out => List.suffix_refl _
  | k + 1, L, out => by
    rw [feedN]
    split
    · exact List.suffix_refl _
    split
    · exact List.nil_suffix
    split
    · exact List.suffix_refl _
    · exact (feedN_suffix most k _ _).trans (List.drop_suffix _ _)
/-- What the two calls answer. -/
theorem heads_feeds (m : Nat) (hm : m ≤ 2) (at_ : Nat) (k1 : Nat) (hk1 : ((headsL m).take at_).length < k1) :
    ∃ m1 held1 f1, feedN k1 1 ((headsL m).take at_) [] = (m1, held1, if f1 then 250 else 0) ∧ (f1 = true → held1 = [] ∧ m1 = [] ∧ ¬ m ≤ 1) ∧ Bytes held1 ∧ held1.length ≤ 4100 ∧
      (f1 = false → ∀ k2, held1.length + ((headsL m).drop at_).length < k2 → ∃ m2 held2 f2, feedN k2 1 (held1 ++ (headsL m).drop at_) [] = (m2, held2, if f2 then 250 else 0) ∧
        (m ≤ 1 → f2 = false ∧ m1 ++ m2 = [[122]] ∧ held2 = []) ∧ (¬ m ≤ 1 → f2 = true ∧ m1 = [] ∧ m2 = [])) := by
  have hrun := run_heads m hm
  have hsplit : headsL m = (headsL m).take at_ ++ (headsL m).drop at_ := (List.take_append_drop _ _).symm
  have hlen := headsL_len m
  obtain ⟨S1, m1, f1, held1, h1, h2, h3, h4⟩ := feed_pair (S := st0 1) (by decide) (Inv.start 1 (by decide)) ((headsL m).take at_) k1 (by simpa using hk1)
  rw [List.nil_append] at h2
  have hsuf : held1 <:+ (headsL m).take at_ := by have := feedN_suffix 1 k1 ((headsL m).take at_) []; rw [h2] at this; exact this
  rw [hsplit, runS_append, h1] at hrun
  have hb : Bytes held1 := fun x hx => headsL_bytes m x (List.mem_of_mem_take (hsuf.subset hx))
  have hl : held1.length ≤ 4100 := by have := hsuf.length_le; rw [List.length_take] at this; omega
  cases f1 with
  | true =>
    refine ⟨m1, held1, true, h2, fun _ => ?_, hb, hl, fun h => by cases h⟩
    simp only [if_true] at hrun
    by_cases hc : m ≤ 1
    · rw [if_pos hc] at hrun; simp at hrun
    · rw [if_neg hc] at hrun; simp at hrun
      exact ⟨(h3 rfl).2, hrun.2, hc⟩
  | false =>
    refine ⟨m1, held1, false, h2, (fun h => by cases h), hb, hl, fun _ k2 hk2 => ?_⟩
    obtain ⟨S2, m2, f2, held2, g1, g2, g3, g4⟩ := feed_pair (by decide) (h4 rfl) ((headsL m).drop at_) k2 hk2
    refine ⟨m2, held2, f2, g2, fun hc => ?_, fun hc => ?_⟩
    · rw [if_pos hc] at hrun
      simp only [Bool.false_eq_true, if_false, g1, Prod.mk.injEq] at hrun
      obtain ⟨e1, e2, e3⟩ := hrun
      refine ⟨e3, e2, (g4 e3).zero.1 ?_⟩
      rw [e1]; rfl
    · rw [if_neg hc] at hrun
      simp only [Bool.false_eq_true, if_false, g1, Prod.mk.injEq, List.append_eq_nil_iff] at hrun
      exact ⟨hrun.2.2, hrun.2.1.1, hrun.2.1.2⟩
end Go.Proofs.YtgdiilpocoimgaaDoor.Hand
