/- What the document's small functions compute: colon, fits, named, length.
What the document's length computes: the number of a line's value.
A state that lies in memory: its block written and read, as events; what a document's reader reads as. -/
import Derived.Test.YtgdiilpocoimgaaDoorFRun
import Derived.Test.YtgdiilpocoimgaaDoorFrmx2
import Derived.Test.YtgdiilpocoimgaaDoorFrmx3
import Derived.Test.YtgdiilpocoimgaaDoorFMsgs
set_option linter.unusedVariables false
set_option linter.unusedSimpArgs false
namespace Go.Proofs.YtgdiilpocoimgaaDoor.Hand
open Go.RowKit Go.Proofs.YtgdiilpocoimgaaDoor.Frm Go.Proofs.YtgdiilpocoimgaaDoorW.PrintWords Go.Proofs.YtgdiilpocoimgaaDoorW.PrintLast Go.Proofs.YtgdiilpocoimgaaDoorW.PrintMore

theorem beqD (a b : Int) : (a == b) = decide (a = b) := by rw [Bool.eq_iff_iff]; simp
theorem w64 {x : Int} (h0 : -9223372036854775808 ≤ x) (h1 : x ≤ 9223372036854775807) : wrap64 x = x := by
  unfold wrap64; omega
theorem rd_nat (l : List Int) (i : Nat) (c : Int) (t : List Int) (h : l.drop i = c :: t) : rd l (i : Int) = c ∧ i < l.length ∧ l.drop (i + 1) = t := by
  have hi : i < l.length := by
    rcases Nat.lt_or_ge i l.length with hh | hh
    · exact hh
    · rw [List.drop_eq_nil_of_le hh] at h; cases h
  have h2 : l.drop i = l[i] :: l.drop (i + 1) := List.drop_eq_getElem_cons hi
  rw [h2] at h
  injection h with h3 h4
  exact ⟨by rw [rd_at l i hi, h3], hi, h4⟩
def colI (l : List Int) : Int := if 58 ∈ l then ((upColon l).length : Int) else -1
theorem inName_law (c : Int) : galleyref25_inName.f c = some (nmI c) := by
  unfold galleyref25_inName.f nmI
  repeat' split
  all_goals (congr 1; (try simp only [beqD]); apply Eq.symm; first | (apply decide_eq_true; omega) | (apply decide_eq_decide.2; omega))
theorem colon_l0 (l : List Int) (hl : l.length ≤ 1073741824) : ∀ (t : List Int) (i k : Nat), l.drop i = t → i ≤ l.length → t.length < k → galleyref25_colon.l0 k l (i : Int) = some (if 58 ∈ t then (i : Int) + ((upColon t).length : Int) else -1)
  | [], i, k, h, hi, hk => by
    obtain ⟨k, rfl⟩ : ∃ k', k = k' + 1 := ⟨k - 1, by simp at hk; omega⟩
    have : l.length ≤ i := List.drop_eq_nil_iff.1 h
    rw [galleyref25_colon.l0, if_neg (by omega)]; simp
  | c :: t, i, k, h, hi, hk => by
    obtain ⟨k, rfl⟩ : ∃ k', k = k' + 1 := ⟨k - 1, by simp at hk; omega⟩
    obtain ⟨h1, h2, h3⟩ := rd_nat l i c t h
    rw [galleyref25_colon.l0, if_pos (by omega), if_pos (by omega), h1]
    by_cases hc : c = 58
    · rw [if_pos hc]; subst hc; simp [upColon]
    · rw [if_neg hc, w64 (by omega) (by omega), show (i : Int) + 1 = ((i + 1 : Nat) : Int) by push_cast; rfl, colon_l0 l hl t (i + 1) k h3 (by omega) (by simp at hk; omega)]
      have hne : ¬ (58 = c) := fun e => hc e.symm
      by_cases hm : 58 ∈ t
      · rw [if_pos hm, if_pos (List.mem_cons_of_mem _ hm)]
        congr 1
        unfold upColon
        rw [List.takeWhile_cons_of_pos (by simpa using hc)]
        simp only [List.length_cons]
        omega
      · rw [if_neg hm, if_neg (by simp [hne, hm])]
theorem colon_law (l : List Int) (hl : l.length ≤ 1073741824) (k : Nat) (hk : l.length < k) : galleyref25_colon.f k l = some (colI l) := by
  unfold galleyref25_colon.f colI
  have := colon_l0 l hl l 0 k rfl (Nat.zero_le _) hk
  rw [show ((0 : Nat) : Int) = 0 from rfl] at this
  rw [this]
  split
  · simp
  · rfl
theorem fits_law (l : List Int) (c : Int) (hl : l.length ≤ 1073741824) (k : Nat) (hk : l.length + 1 < k) : galleyref25_fits.f k l c = some (fitsL l c) := by
  obtain ⟨k, rfl⟩ : ∃ k', k = k' + 1 := ⟨k - 1, by omega⟩
  have hj : ∀ b : Bool, (b = true ↔ l.getLast? = some 13) → galleyref25_fits.j0 (k + 1) l c b = some (fitsL l c) := by
    intro b hb
    rw [galleyref25_fits.j0]
    unfold fitsL
    by_cases h13 : l.getLast? = some 13
    · rw [if_pos (hb.2 h13), if_pos h13, beqD]
    · rw [if_neg (fun h => h13 (hb.1 h)), if_neg h13, inName_law, Option.bind_some]
      by_cases hz : l = []
      · rw [if_pos (by rw [hz]; rfl), if_pos hz, beqD]
        cases nmI c <;> simp
      · have hlen : 0 < l.length := List.length_pos_iff.2 hz
        rw [if_neg (by omega), if_neg hz, colon_law l hl k (by omega), Option.bind_some]
        unfold colI
        by_cases hm : 58 ∈ l
        · rw [if_pos hm, if_pos hm, if_neg (by omega)]
          unfold vlI
          repeat' split
          all_goals (congr 1; (try simp only [beqD]); apply Eq.symm; first | (apply Bool.or_eq_true_iff.2; left; apply decide_eq_true; omega) | (rw [decide_eq_false (by omega), Bool.false_or]))
        · rw [if_neg hm, if_neg hm, if_pos (by decide), beqD]
          cases nmI c <;> simp
  unfold galleyref25_fits.f
  by_cases hz : 0 < l.length
  · rw [if_pos (by omega), w64 (by omega) (by omega), if_pos (by omega), if_pos (by omega)]
    apply hj
    rw [show (l.length : Int) - 1 = ((l.length - 1 : Nat) : Int) by omega, rd_at l (l.length - 1) (by omega), beq_iff_eq, List.getLast?_eq_getElem?, List.getElem?_eq_getElem (by omega)]
    exact ⟨fun h => by rw [h], fun h => Option.some.inj h⟩
  · rw [if_neg (by omega)]
    apply hj
    have : l = [] := List.length_eq_zero_iff.1 (by omega)
    subst this
    simp
theorem low_law (c : Int) (h0 : 0 ≤ c) (h1 : c ≤ 255) : galleyref25_low.f c = some (if 65 ≤ c ∧ c ≤ 90 then c + 32 else c) := by
  unfold galleyref25_low.f
  by_cases h : 65 ≤ c
  · rw [if_pos h]
    by_cases h2 : c ≤ 90
    · rw [if_pos h2, if_pos ⟨h, h2⟩]; congr 1; omega
    · rw [if_neg h2, if_neg (by omega)]
  · rw [if_neg h, if_neg (by omega)]
def clenB : ByteArray := ⟨#[99, 111, 110, 116, 101, 110, 116, 45, 108, 101, 110, 103, 116, 104]⟩
theorem bt_clen (i : Nat) (hi : i < 14) : bt clenB (i : Int) = clen.getD i 0 := by
  have : ∀ i : Fin 14, bt clenB ((i.val : Nat) : Int) = clen.getD i.val 0 := by decide +kernel
  exact this ⟨i, hi⟩
theorem clen_low (i : Nat) (hi : i < 14) (c : Int) (h0 : 0 ≤ c) (h1 : c ≤ 255) : fEq c (clen.getD i 0) = decide ((if 65 ≤ c ∧ c ≤ 90 then c + 32 else c) = clen.getD i 0) := by
  have hb : ∀ i : Fin 14, clen.getD i.val 0 = 45 ∨ (97 ≤ clen.getD i.val 0 ∧ clen.getD i.val 0 ≤ 122) := by decide +kernel
  have := hb ⟨i, hi⟩
  simp only at this
  unfold fEq
  apply decide_eq_decide.2
  split <;> omega
theorem named_l0 (l : List Int) (hb : Bytes l) (hl : l.length ≤ 1073741824) (h14 : 14 ≤ l.length) : ∀ (n i k : Nat), n + i = 14 → n < k → galleyref25_named.l0 k l clenB 14 (i : Int) = some (eqF ((l.take 14).drop i) (clen.drop i))
  | 0, i, k, h, hk => by
    obtain ⟨k, rfl⟩ : ∃ k', k = k' + 1 := ⟨k - 1, by omega⟩
    obtain rfl : i = 14 := by omega
    rw [galleyref25_named.l0, if_neg (by omega)]
    have : (l.take 14).drop 14 = [] := by rw [List.drop_eq_nil_iff, List.length_take]; omega
    rw [this]; rfl
  | n + 1, i, k, h, hk => by
    obtain ⟨k, rfl⟩ : ∃ k', k = k' + 1 := ⟨k - 1, by omega⟩
    have hi : i < l.length := by omega
    have hx := hb l[i] (List.getElem_mem hi)
    rw [galleyref25_named.l0, if_pos (by omega), if_pos (by omega), if_pos (by omega), rd_at l i hi, low_law _ hx.1 hx.2, Option.bind_some, if_pos (by show (i : Int) < 14; omega), bt_clen i (by omega)]
    have e1 : (l.take 14).drop i = l[i] :: (l.take 14).drop (i + 1) := by
      have hi2 : i < (l.take 14).length := by rw [List.length_take]; omega
      rw [List.drop_eq_getElem_cons hi2, List.getElem_take]
    have e2 : clen.drop i = clen.getD i 0 :: clen.drop (i + 1) := by
      have hi2 : i < clen.length := by show i < 14; omega
      rw [List.drop_eq_getElem_cons hi2, List.getD_eq_getElem?_getD, List.getElem?_eq_getElem hi2]; rfl
    rw [e1, e2]
    have hc := clen_low i (by omega) l[i] hx.1 hx.2
    by_cases hq : (if 65 ≤ l[i] ∧ l[i] ≤ 90 then l[i] + 32 else l[i]) = clen.getD i 0
    · rw [if_pos hq, eqF_yes _ _ _ _ (hc.trans (decide_eq_true hq)), w64 (by omega) (by omega), show (i : Int) + 1 = ((i + 1 : Nat) : Int) by push_cast; rfl, named_l0 l hb hl h14 n (i + 1) k (by omega) (by omega)]
    · rw [if_neg hq, eqF_no _ _ _ _ (hc.trans (decide_eq_false hq))]
theorem eqF_len : ∀ (s t : List Int), eqF s t = true → s.length = t.length
  | [], [], _ => rfl
  | [], _ :: _, h => by simp [eqF] at h
  | _ :: _, [], h => by simp [eqF] at h
  | x :: s, y :: t, h => by
    simp only [eqF, Bool.and_eq_true] at h
    simp [eqF_len s t h.2]
theorem upColon_take (l : List Int) : upColon l = l.take (upColon l).length := List.prefix_iff_eq_take.1 (List.takeWhile_prefix _)
theorem named_law (l : List Int) (hb : Bytes l) (hl : l.length ≤ 1073741824) (k : Nat) (hk : l.length < k) (hk2 : 14 < k) : galleyref25_named.f k l = some (namedL l) := by
  unfold galleyref25_named.f
  rw [colon_law l hl k hk, Option.bind_some]
  unfold colI namedL
  by_cases hm : 58 ∈ l
  · rw [if_pos hm, decide_eq_true hm, Bool.true_and]
    by_cases h14 : (upColon l).length = 14
    · rw [if_pos (by omega)]
      have hle : 14 ≤ l.length := by
        have := congrArg List.length (upColon_take l)
        rw [List.length_take] at this; omega
      have := named_l0 l hb hl hle 14 0 k rfl hk2
      rw [show (((upColon l).length : Nat) : Int) = 14 by omega]
      refine this.trans ?_
      rw [List.drop_zero, List.drop_zero, upColon_take l, h14]
    · rw [if_neg (by omega)]
      congr 1
      cases he : eqF (upColon l) clen with
      | false => rfl
      | true => exact absurd (eqF_len _ _ he) h14
  · rw [if_neg hm, decide_eq_false hm, Bool.false_and, if_neg (by decide)]
end Go.Proofs.YtgdiilpocoimgaaDoor.Hand

set_option linter.unusedVariables false
set_option linter.unusedSimpArgs false
namespace Go.Proofs.YtgdiilpocoimgaaDoor.Hand
open Go.RowKit Go.Proofs.YtgdiilpocoimgaaDoor.Frm Go.Proofs.YtgdiilpocoimgaaDoorW.PrintWords Go.Proofs.YtgdiilpocoimgaaDoorW.PrintLast Go.Proofs.YtgdiilpocoimgaaDoorW.PrintMore

theorem blank_law (c : Int) : galleyref25_blank.f c = some (blankI c) := by
  unfold galleyref25_blank.f blankI
  by_cases h : c = 32
  · rw [if_pos h]; simp [h]
  · rw [if_neg h, beqD]; congr 1; apply decide_eq_decide.2; omega
theorem trimR_nil : trimR [] = [] := rfl
theorem trimR_snoc (l : List Int) (c : Int) : trimR (l ++ [c]) = if blankI c then trimR l else l ++ [c] := by
  unfold trimR
  rw [List.reverse_append]
  simp only [List.reverse_cons, List.reverse_nil, List.nil_append, List.singleton_append, List.dropWhile_cons]
  cases blankI c
  · simp
  · simp
theorem trimR_cons (c : Int) (l : List Int) : trimR (c :: l) = if trimR l = [] ∧ blankI c = true then [] else c :: trimR l := by
  unfold trimR
  rw [List.reverse_cons, List.dropWhile_append]
  by_cases h : (l.reverse.dropWhile blankI) = []
  · rw [h]
    cases hb : blankI c
    · simp [hb]
    · simp [hb]
  · have h2 : (l.reverse.dropWhile blankI).isEmpty = false := by simpa using h
    simp [h2, h]
theorem trim_comm : ∀ l : List Int, trimR (l.dropWhile blankI) = trimI l
  | [] => rfl
  | c :: l => by
    unfold trimI
    rw [List.dropWhile_cons, trimR_cons]
    cases hb : blankI c with
    | true =>
      simp only [if_true, and_true]
      rw [trim_comm l]
      by_cases h : trimR l = []
      · rw [if_pos h]; unfold trimI; rw [h]
      · rw [if_neg h, List.dropWhile_cons, hb]; rfl
    | false =>
      simp only [Bool.false_eq_true, if_false, and_false]
      rw [trimR_cons, hb]
      simp only [Bool.false_eq_true, and_false, if_false]
      rw [List.dropWhile_cons, hb]; rfl
theorem mid_cons {l : List Int} {lo hi : Nat} (h : lo < hi) (hh : hi ≤ l.length) : (l.take hi).drop lo = l[lo]'(by omega) :: (l.take hi).drop (lo + 1) := by
  have h2 : lo < (l.take hi).length := by rw [List.length_take]; omega
  rw [List.drop_eq_getElem_cons h2, List.getElem_take]
theorem mid_snoc {l : List Int} {lo hi : Nat} (h : lo < hi) (hh : hi ≤ l.length) : (l.take hi).drop lo = (l.take (hi - 1)).drop lo ++ [l[hi - 1]'(by omega)] := by
  have e : l.take hi = l.take (hi - 1) ++ [l[hi - 1]'(by omega)] := by
    have := List.take_succ_eq_append_getElem (l := l) (i := hi - 1) (by omega)
    rwa [show hi - 1 + 1 = hi by omega] at this
  rw [e, List.drop_append_of_le_length (by rw [List.length_take]; omega)]
theorem mid_len {l : List Int} {lo hi : Nat} (hh : hi ≤ l.length) : ((l.take hi).drop lo).length = hi - lo := by
  rw [List.length_drop, List.length_take]; omega
theorem num_l2 (l : List Int) (hb : Bytes l) (hl : l.length ≤ 1073741824) (hi : Nat) (hh : hi ≤ l.length) : ∀ (n i k : Nat) (x : Int), n + i = hi → n < k → 0 ≤ x → n ≤ 9 → x < 10 ^ (9 - n) →
    galleyref25_length.l2 k l (hi : Int) x (i : Int) = some (numL x ((l.take hi).drop i))
  | 0, i, k, x, h, hk, h0, h9, hx => by
    obtain ⟨k, rfl⟩ : ∃ k', k = k' + 1 := ⟨k - 1, by omega⟩
    rw [galleyref25_length.l2, if_neg (by omega)]
    have : (l.take hi).drop i = [] := List.length_eq_zero_iff.1 (by rw [mid_len hh]; omega)
    rw [this]; rfl
  | n + 1, i, k, x, h, hk, h0, h9, hx => by
    obtain ⟨k, rfl⟩ : ∃ k', k = k' + 1 := ⟨k - 1, by omega⟩
    have hi2 : i < l.length := by omega
    have hc := hb l[i] (List.getElem_mem hi2)
    rw [galleyref25_length.l2, if_pos (by omega), if_pos (by omega), if_pos (by omega), rd_at l i hi2, mid_cons (show i < hi by omega) hh, numL]
    by_cases h1 : l[i] < 48
    · rw [if_pos h1, if_pos (by omega)]
    rw [if_neg h1]
    by_cases h2 : 57 < l[i]
    · rw [if_pos (by omega), if_pos (by omega)]
    rw [if_neg (by omega), if_neg (by omega)]
    have hpow : (10 : Int) ^ (9 - n) = 10 * 10 ^ (9 - (n + 1)) := by
      rw [show 9 - n = (9 - (n + 1)) + 1 by omega, Int.pow_succ]; omega
    have hp8 : (10 : Int) ^ (9 - (n + 1)) ≤ 100000000 := by
      have := Nat.pow_le_pow_right (n := 10) (by omega) (show 9 - (n + 1) ≤ 8 by omega)
      have h2 : ((10 ^ (9 - (n + 1)) : Nat) : Int) ≤ ((10 ^ 8 : Nat) : Int) := Int.ofNat_le.2 this
      rw [Int.natCast_pow] at h2
      exact h2
    generalize (10 : Int) ^ (9 - (n + 1)) = P at hx hpow hp8
    generalize hQ : (10 : Int) ^ (9 - n) = Q at hpow
    rw [w64 (x := 10 * x) (by omega) (by omega), w64 (x := l[i]) (by omega) (by omega), w64 (x := 10 * x + l[i]) (by omega) (by omega), w64 (x := 10 * x + l[i] - 48) (by omega) (by omega), w64 (x := (i : Int) + 1) (by omega) (by omega), show (i : Int) + 1 = ((i + 1 : Nat) : Int) by push_cast; rfl, show 10 * x + l[i] - 48 = 10 * x + (l[i] - 48) by omega]
    exact num_l2 l hb hl hi hh n (i + 1) k _ (by omega) (by omega) (by omega) (by omega) (by rw [hQ]; omega)
theorem num_j3 (l : List Int) (hb : Bytes l) (hl : l.length ≤ 1073741824) (lo hi k : Nat) (h : lo ≤ hi) (hh : hi ≤ l.length) (hk : 20 < k) (X : List Int) (hX : (l.take hi).drop lo = X) :
    galleyref25_length.j3 k l (lo : Int) (hi : Int) = some (if X.length = 0 ∨ 9 < X.length ∨ (1 < X.length ∧ X.getD 0 0 = 48) then -1 else numL 0 X) := by
  obtain ⟨k, rfl⟩ : ∃ k', k = k' + 2 := ⟨k - 2, by omega⟩
  have hlen : X.length = hi - lo := by rw [← hX, mid_len hh]
  have hj : ∀ b : Bool, galleyref25_length.j4 (k + 1) l (lo : Int) (hi : Int) b = if b = true then some (-1) else galleyref25_length.l2 k l (hi : Int) 0 (lo : Int) := fun b => by rw [galleyref25_length.j4]
  rw [galleyref25_length.j3, w64 (by omega) (by omega)]
  by_cases h1 : hi - lo < 1
  · rw [if_pos (by omega), hj, if_pos rfl, if_pos (by omega)]
  rw [if_neg (by omega)]
  by_cases h2 : 9 < hi - lo
  · rw [if_pos (by omega), hj, if_pos rfl, if_pos (by omega)]
  rw [if_neg (by omega)]
  have hnum : galleyref25_length.l2 k l (hi : Int) 0 (lo : Int) = some (numL 0 X) := by
    rw [← hX]
    refine num_l2 l hb hl hi hh (hi - lo) lo k 0 (by omega) (by omega) (by omega) (by omega) ?_
    exact Int.pow_pos (by omega)
  by_cases h3 : 1 < hi - lo
  · rw [if_pos (by omega), if_pos (by omega), if_pos (by omega), rd_at l lo (by omega), hj]
    have hg : X.getD 0 0 = l[lo]'(by omega) := by rw [← hX, mid_cons (by omega) hh]; rfl
    by_cases h4 : l[lo]'(by omega) = 48
    · rw [if_pos (by simp [h4]), if_pos (by right; right; exact ⟨by omega, hg.trans h4⟩)]
    · rw [if_neg (by simp [h4]), hnum, if_neg (by rw [hg]; omega)]
  · rw [if_neg (by omega), hj, if_neg (by simp), hnum, if_neg (by omega)]
def numX (X : List Int) : Int := if X.length = 0 ∨ 9 < X.length ∨ (1 < X.length ∧ X.getD 0 0 = 48) then -1 else numL 0 X
theorem num_l1 (l : List Int) (hb : Bytes l) (hl : l.length ≤ 1073741824) (lo : Nat) : ∀ (n hi k : Nat), lo + n = hi → hi ≤ l.length → n + 21 < k → galleyref25_length.l1 k l (lo : Int) (hi : Int) = some (numX (trimR ((l.take hi).drop lo)))
  | 0, hi, k, h, hh, hk => by
    obtain ⟨k, rfl⟩ : ∃ k', k = k' + 1 := ⟨k - 1, by omega⟩
    have : (l.take hi).drop lo = [] := List.length_eq_zero_iff.1 (by rw [mid_len hh]; omega)
    rw [galleyref25_length.l1, if_neg (by omega), num_j3 l hb hl lo hi k (by omega) hh (by omega) _ rfl, this]; rfl
  | n + 1, hi, k, h, hh, hk => by
    obtain ⟨k, rfl⟩ : ∃ k', k = k' + 1 := ⟨k - 1, by omega⟩
    rw [galleyref25_length.l1, if_pos (by omega), w64 (by omega) (by omega), if_pos (by omega), if_pos (by omega), show (hi : Int) - 1 = ((hi - 1 : Nat) : Int) by omega, rd_at l (hi - 1) (by omega), blank_law, Option.bind_some, mid_snoc (show lo < hi by omega) hh, trimR_snoc]
    cases hbk : blankI (l[hi - 1]'(by omega)) with
    | true =>
      rw [if_pos rfl, if_pos rfl]
      exact num_l1 l hb hl lo n (hi - 1) k (by omega) (by omega) (by omega)
    | false =>
      rw [if_neg (by simp), if_neg (by simp), ← mid_snoc (show lo < hi by omega) hh]
      exact num_j3 l hb hl lo hi k (by omega) hh (by omega) _ rfl
theorem num_l0 (l : List Int) (hb : Bytes l) (hl : l.length ≤ 1073741824) (hi : Nat) (hh : hi ≤ l.length) : ∀ (n lo k : Nat), lo + n = hi → n + n + 23 < k → galleyref25_length.l0 k l (lo : Int) (hi : Int) = some (numX (trimR (((l.take hi).drop lo).dropWhile blankI)))
  | 0, lo, k, h, hk => by
    obtain ⟨k, rfl⟩ : ∃ k', k = k' + 2 := ⟨k - 2, by omega⟩
    have : (l.take hi).drop lo = [] := List.length_eq_zero_iff.1 (by rw [mid_len hh]; omega)
    rw [galleyref25_length.l0, if_neg (by omega), galleyref25_length.j1, num_l1 l hb hl lo 0 hi k (by omega) hh (by omega), this]; rfl
  | n + 1, lo, k, h, hk => by
    obtain ⟨k, rfl⟩ : ∃ k', k = k' + 2 := ⟨k - 2, by omega⟩
    rw [galleyref25_length.l0, if_pos (by omega), if_pos (by omega), if_pos (by omega), rd_at l lo (by omega), blank_law, Option.bind_some, mid_cons (show lo < hi by omega) hh, List.dropWhile_cons]
    cases hbk : blankI (l[lo]'(by omega)) with
    | true =>
      rw [if_pos rfl, if_pos rfl, w64 (by omega) (by omega), show (lo : Int) + 1 = ((lo + 1 : Nat) : Int) by push_cast; rfl]
      exact num_l0 l hb hl hi hh n (lo + 1) (k + 1) (by omega) (by omega)
    | false =>
      rw [if_neg (by simp), if_neg (by simp), ← mid_cons (show lo < hi by omega) hh, galleyref25_length.j1]
      exact num_l1 l hb hl lo (n + 1) hi k (by omega) hh (by omega)
theorem mem_up : ∀ (l : List Int) {x : Int}, x ∈ (l.takeWhile fun c : Int => decide (c ≠ 58)) → x ≠ 58
  | [], x, h => by cases h
  | c :: t, x, h => by
    by_cases hc : c = 58
    · rw [List.takeWhile_cons_of_neg (by simp [hc])] at h; cases h
    · rw [List.takeWhile_cons_of_pos (by simp [hc])] at h
      rcases List.mem_cons.1 h with h | h
      · rw [h]; exact hc
      · exact mem_up t h
theorem length_law (l : List Int) (hb : Bytes l) (hl : l.length ≤ 1073741824) (hm : 58 ∈ l) (hc : l.getLast? = some 13) (k : Nat) (hk : l.length + l.length + 24 < k) : galleyref25_length.f k l = some (saidL l) := by
  have hlt : (upColon l).length < l.length := by
    have h1 := List.takeWhile_append_dropWhile (p := fun c : Int => decide (c ≠ 58)) (l := l)
    have h2 := congrArg List.length h1
    rw [List.length_append] at h2
    rcases Nat.lt_or_ge (upColon l).length l.length with h | h
    · exact h
    · exfalso
      have h3 : (l.dropWhile fun c : Int => decide (c ≠ 58)) = [] := List.length_eq_zero_iff.1 (by unfold upColon at h; omega)
      rw [h3, List.append_nil] at h1
      rw [← h1] at hm
      have := mem_up _ hm
      exact this rfl
  have hne : (upColon l).length + 1 ≤ l.length - 1 := by
    rcases Nat.lt_or_ge ((upColon l).length + 1) l.length with h | h
    · omega
    · exfalso
      have he : (upColon l).length = l.length - 1 := by omega
      have h1 := List.takeWhile_append_dropWhile (p := fun c : Int => decide (c ≠ 58)) (l := l)
      cases hd : (l.dropWhile fun c : Int => decide (c ≠ 58)) with
      | nil =>
        rw [hd, List.append_nil] at h1
        have := congrArg List.length h1
        unfold upColon at hlt; omega
      | cons x t =>
        rw [hd] at h1
        have h2 := congrArg List.length h1
        rw [List.length_append, List.length_cons] at h2
        have ht : t = [] := List.length_eq_zero_iff.1 (by unfold upColon at he; omega)
        have hx : x = 58 := by
          have := List.head_dropWhile_not (fun c : Int => decide (c ≠ 58)) (l := l) (by rw [hd]; simp)
          simp only [hd, List.head_cons] at this
          simpa using this
        rw [ht, hx] at h1
        rw [← h1, List.getLast?_append] at hc
        simp at hc
  unfold galleyref25_length.f
  rw [colon_law l hl k (by omega), Option.bind_some]
  unfold colI
  rw [if_pos hm, w64 (by omega) (by omega), w64 (by omega) (by omega), show ((upColon l).length : Int) + 1 = (((upColon l).length + 1 : Nat) : Int) by push_cast; rfl, show (l.length : Int) - 1 = ((l.length - 1 : Nat) : Int) by omega,
    num_l0 l hb hl (l.length - 1) (by omega) (l.length - 1 - ((upColon l).length + 1)) _ k (by omega) (by omega), trim_comm]
  unfold saidL lengthL numX
  have e : (l.drop ((upColon l).length + 1)).dropLast = (l.take (l.length - 1)).drop ((upColon l).length + 1) := by
    rw [List.dropLast_eq_take, List.length_drop, List.drop_take]
    congr 1; omega
  rw [e]
end Go.Proofs.YtgdiilpocoimgaaDoor.Hand

set_option linter.unusedVariables false
set_option linter.unusedSimpArgs false
namespace Go.Proofs.YtgdiilpocoimgaaDoor.Hand
open Go.RowKit Go.Proofs.YtgdiilpocoimgaaDoor.Frm Go.Proofs.YtgdiilpocoimgaaDoorW.PrintWords Go.Proofs.YtgdiilpocoimgaaDoorW.PrintLast Go.Proofs.YtgdiilpocoimgaaDoorW.PrintMore
/-- Nothing but block g has changed. -/
structure Only (W W1 : World) (g : Nat) : Prop where
  os : W1.os = W.os
  tape : W1.tape = W.tape
  output : W1.output = W.output
  size : W1.heap.size = W.heap.size
  block : ∀ k, k ≠ g → W1.heap[k]? = W.heap[k]?
theorem Only.below {w0 W W1 : World} {B g : Nat} (h : Only W W1 g) (hB : Below B w0 W) (hg : B ≤ g) : Below B w0 W1 :=
  hB.trans ⟨h.os, h.tape, h.output, by rw [h.size]; exact Nat.le_refl _, fun k hk => h.block k (by omega)⟩
theorem Only.row {α : Type} {d : Kd α} {e base g : Nat} {W W1 : World} {ok : Nat → Prop} {v : Value} {xs : List α} {cs : Array Value} {t : TypeId} (h : Only W W1 g) (hr : d.R e W base ok v xs) (hb : W.heap[g]? = some (.cells cs t (0, 0))) (ht : ∀ q, q ∈ e :: d.E → q ≠ t) : d.R e W1 base ok v xs :=
  Kd.R_mono (Kd.R_move (Kd.R_types hr hb ht) (fun k hk => h.block k hk.2)) (fun k hk => hk.1)
theorem cell_only {W W1 : World} {g b j : Nat} (h : Only W W1 g) (hne : b ≠ g) : W1.cell? ⟨b, j, none⟩ = W.cell? ⟨b, j, none⟩ := World.cell?_of_block (w := W) (h.block b hne)
theorem cell_onlyA {W W1 : World} {g : Nat} {a : Addr} (h : Only W W1 g) (hne : a.block ≠ g) : W1.cell? a = W.cell? a := World.cell?_of_block (w := W) (h.block a.block hne)
section
variable {P : Program} {ops : Array Oper} {rest : List Oper} {o : Oper} {a : Act} {Q : Exit → Act → World → Prop}
theorem st_store {W : World} (hN : o.dst = none) (hgd : o.guard = none) (t : TypeId) (p x : Operand) (ho : o.op = .store t p x) {g j : Nat} {e : TypeId} {cur cur' : Array Value} (seg : List Value) (u : Value)
    (haddr : a.eval p = .pointer (some ⟨g, j, none⟩)) (hx : a.eval x = u) (hu : u.cells.toList = seg) (ht : (P.info? t).map (·.size) = some seg.length) (h1 : ∀ q ∈ seg, q.oneCell' = true)
    (hh : W.heap[g]? = some (.cells cur e (0, 0))) (hfit : j + seg.length ≤ cur.size) (hc : cur'.toList = cur.toList.take j ++ seg ++ cur.toList.drop (j + seg.length))
    (h : ∀ w1, w1.heap[g]? = some (.cells cur' e (0, 0)) → Only W w1 g → wpList P ops Q rest a w1) : wpList P ops Q (o :: rest) a W := by
  refine wpList_plain hgd fun K hK => ?_
  have hrun := run_store_run (P := P) t u seg hh hu ht hfit h1
  unfold Oper.wp execOp
  simp only [ho, haddr, hx, Sem.run_bind, Sem.run_pure, Result.andThen_ok, hrun]
  show K (a.put o.dst undef) _
  rw [hN]
  obtain ⟨cur2, k1, k2, k3⟩ := setCells_row seg j W cur hh hfit
  have hcc : cur2 = cur' := Array.toList_inj.1 (k3.trans hc.symm)
  obtain ⟨s1, s2, s3, s4⟩ := setCells_same g seg j W
  exact hK a _ (h _ (by rw [k1, hcc]) ⟨s1, s2, s3, s4, fun k hk => setCells_far seg j k hk⟩)
end
theorem put7 (W : World) (g : Nat) (cs : Array Value) (e : TypeId) (a0 a1 a2 a3 a4 a5 a6 : Value) (h : W.heap[g]? = some (.cells cs e (0, 0))) (hs : cs.size = 7) :
    (((((((W.setCell ⟨g, 0, none⟩ a0).setCell ⟨g, 1, none⟩ a1).setCell ⟨g, 2, none⟩ a2).setCell ⟨g, 3, none⟩ a3).setCell ⟨g, 4, none⟩ a4).setCell ⟨g, 5, none⟩ a5).setCell ⟨g, 6, none⟩ a6).heap[g]? = some (.cells #[a0, a1, a2, a3, a4, a5, a6] e (0, 0)) ∧
    Only W (((((((W.setCell ⟨g, 0, none⟩ a0).setCell ⟨g, 1, none⟩ a1).setCell ⟨g, 2, none⟩ a2).setCell ⟨g, 3, none⟩ a3).setCell ⟨g, 4, none⟩ a4).setCell ⟨g, 5, none⟩ a5).setCell ⟨g, 6, none⟩ a6) g := by
  obtain ⟨cur, k1, k2, k3⟩ := setCells_row [a0, a1, a2, a3, a4, a5, a6] 0 W cs h (by simp; omega)
  obtain ⟨s1, s2, s3, s4⟩ := setCells_same g [a0, a1, a2, a3, a4, a5, a6] 0 W
  have hc : cur = #[a0, a1, a2, a3, a4, a5, a6] := by
    apply Array.toList_inj.1
    rw [k3, List.take_zero, List.nil_append, List.drop_of_length_le (by simp; omega), List.append_nil]
  rw [hc] at k1
  exact ⟨k1, s1, s2, s3, s4, fun k hk => setCells_far [a0, a1, a2, a3, a4, a5, a6] 0 k hk⟩
theorem store_run {P : Program} {W : World} {a : Act} {o : Oper} {t : TypeId} {p x : Operand} (ho : o.op = .store t p x) {g j : Nat} {e : TypeId} {cur : Array Value} (seg : List Value) (u : Value)
    (haddr : a.eval p = .pointer (some ⟨g, j, none⟩)) (hx : a.eval x = u) (hu : u.cells.toList = seg) (ht : (P.info? t).map (·.size) = some seg.length) (h1 : ∀ q ∈ seg, q.oneCell' = true)
    (hh : W.heap[g]? = some (.cells cur e (0, 0))) (hfit : j + seg.length ≤ cur.size) : (execOp a.eval o).run P W = .ok .skip (W.setCells g j seg) := by
  have hrun := run_store_run (P := P) t u seg hh hu ht hfit h1
  unfold execOp
  simp only [ho, haddr, hx, Sem.run_bind, Sem.run_pure, Result.andThen_ok, hrun]
theorem put_all (W : World) (g : Nat) (cs : Array Value) (e : TypeId) (seg : List Value) (h : W.heap[g]? = some (.cells cs e (0, 0))) (hs : cs.size = seg.length) :
    (W.setCells g 0 seg).heap[g]? = some (.cells seg.toArray e (0, 0)) ∧ Only W (W.setCells g 0 seg) g := by
  obtain ⟨cur, k1, k2, k3⟩ := setCells_row seg 0 W cs h (by omega)
  obtain ⟨s1, s2, s3, s4⟩ := setCells_same g seg 0 W
  have hc : cur = seg.toArray := by
    apply Array.toList_inj.1
    rw [k3, List.take_zero, List.nil_append, List.drop_of_length_le (by rw [Array.length_toList]; omega), List.append_nil]
  rw [hc] at k1
  exact ⟨k1, s1, s2, s3, s4, fun k hk => setCells_far seg 0 k hk⟩
/-- A state as a value. -/
def AG (s : St) (vl vb : Value) : Value := .agg #[.int .i64 s.most, .int .i64 (s.header : Int), vl, .int .i64 s.said, .bool s.whole, vb, .bool s.dead]
def ReadsL (w : World) (v : Value) (l : List Int) : Prop := ∃ A c, v = .slice A l.length c ∧ l.length ≤ c ∧ Kd.C (Kd.int .u8) w A l.length l
theorem ReadsL.below {w w' : World} {v : Value} {l : List Int} (h : ReadsL w v l) (hB : Below w.heap.size w w') : ReadsL w' v l := by
  obtain ⟨A, c, e, hl, hC⟩ := h
  exact ⟨A, c, e, hl, Kd.C_below hC hB⟩
theorem ReadsL.nil (w : World) : ReadsL w (.slice none 0 0) [] := ⟨none, 0, rfl, Nat.le_refl _, Kd.C_nil _ w⟩
theorem ReadsL.row {w : World} {base : Nat} {ok : Nat → Prop} {v : Value} {l : List Int} (h : Kd.R (Kd.int .u8) 5 w base ok v l) : ReadsL w v l := by
  obtain ⟨A, c, e, hl, hC⟩ := Kd.R_reads h
  exact ⟨A, c, e, hl, hC⟩
structure SR (w : World) (s : St) (vl vb : Value) : Prop where
  line : ReadsL w vl s.line
  body : ReadsL w vb s.body
theorem SR.below {w w' : World} {s : St} {vl vb : Value} (h : SR w s vl vb) (hB : Below w.heap.size w w') : SR w' s vl vb := ⟨h.line.below hB, h.body.below hB⟩
/-- Rows that are read stay where a block of a state is written. -/
theorem C_only {W W1 : World} {g : Nat} {A : Option Addr} {l : List Int} {cs : Array Value} (hC : Kd.C (Kd.int .u8) W A l.length l) (h : Only W W1 g) (hb : W.heap[g]? = some (.cells cs 32 (0, 0))) (hA : ∀ a, A = some a → 0 < l.length → a.block ≠ g) : Kd.C (Kd.int .u8) W1 A l.length l := by
  refine ⟨hC.1, hC.2.1, fun h0 => ?_⟩
  obtain ⟨ad, e, hc⟩ := hC.2.2 h0
  refine ⟨ad, e, fun j p hj => ?_⟩
  obtain ⟨c, h1, h2, h3⟩ := hc j p hj
  exact ⟨c, h1, h2, fun i u hu => by rw [cell_onlyA h (by rw [add_block]; exact hA ad e h0)]; exact h3 i u hu⟩
/-- No cell of these is a byte. -/
def NoU8 (cs : Array Value) : Prop := ∀ v ∈ cs.toList, ∀ x : Int, v ≠ .int .u8 x
theorem noU8_seg {a1 b1 n1 : Int} {v1 v2 : Value} {t1 t2 : Bool} {A1 A2 : Option Addr} {m1 m2 k1 k2 : Nat} (h1 : v1 = .slice A1 m1 k1) (h2 : v2 = .slice A2 m2 k2) : NoU8 #[.int .i64 a1, .int .i64 b1, v1, .int .i64 n1, .bool t1, v2, .bool t2] := by
  intro v hv x e
  subst h1 h2
  simp at hv
  rcases hv with h | h | h | h | h | h | h <;> (rw [h] at e; cases e)
theorem C_ne {W : World} {g : Nat} {A : Option Addr} {l : List Int} {cs : Array Value} {t : TypeId} {fz : Nat × Nat} (hC : Kd.C (Kd.int .u8) W A l.length l) (hb : W.heap[g]? = some (.cells cs t fz)) (hn : NoU8 cs) : ∀ a, A = some a → 0 < l.length → a.block ≠ g := by
  intro a ha h0 e
  obtain ⟨ad, e1, hc⟩ := hC.2.2 h0
  rw [e1] at ha
  obtain rfl := Option.some.inj ha
  obtain ⟨c, h1, h2, h3⟩ := hc 0 _ (List.getElem?_eq_getElem h0)
  have h2' : c = [.int .u8 l[0]] := h2
  have h4 := h3 0 (.int .u8 l[0]) (by rw [h2']; rfl)
  have hbl : (ad.add (0 * (Kd.int .u8).sz + 0)).block = g := by rw [add_block]; exact e
  obtain ⟨ad2, hq⟩ : ∃ q, ad.add (0 * (Kd.int .u8).sz + 0) = q := ⟨_, rfl⟩
  rw [hq] at h4 hbl
  unfold World.cell? at h4
  rw [hbl, hb] at h4
  have h5 : cs[ad2.off]? = some (.int .u8 l[0]) := by
    have h6 : (if ad2.spot.isSome = true then none else cs[ad2.off]?) = some (.int .u8 l[0]) := h4
    split at h6
    · cases h6
    · exact h6
  obtain ⟨hlt, hv⟩ := Array.getElem?_eq_some_iff.1 h5
  exact hn _ (by rw [Array.mem_toList_iff]; exact hv ▸ Array.getElem_mem hlt) _ rfl
theorem ReadsL.only {W W1 : World} {g : Nat} {v : Value} {l : List Int} {cs : Array Value} (h : ReadsL W v l) (o : Only W W1 g) (hb : W.heap[g]? = some (.cells cs 32 (0, 0))) (hn : NoU8 cs) : ReadsL W1 v l := by
  obtain ⟨A, c, e, hl, hC⟩ := h
  exact ⟨A, c, e, hl, C_only hC o hb (C_ne hC hb hn)⟩
theorem SR.only {W W1 : World} {g : Nat} {s : St} {vl vb : Value} {cs : Array Value} (h : SR W s vl vb) (o : Only W W1 g) (hb : W.heap[g]? = some (.cells cs 32 (0, 0))) (hn : NoU8 cs) : SR W1 s vl vb := ⟨h.line.only o hb hn, h.body.only o hb hn⟩
/-- Where a row of the document's comes from: it is the elder one, none, or new. -/
def Org (w w' : World) (v v' : Value) : Prop := v'.ownBlock = v.ownBlock ∨ v'.ownBlock = none ∨ ∃ g, v'.ownBlock = some g ∧ w.heap.size ≤ g ∧ g < w'.heap.size
theorem Org.same (w w' : World) {v v' : Value} (h : v'.ownBlock = v.ownBlock) : Org w w' v v' := .inl h
theorem Org.nil (w w' : World) (v : Value) : Org w w' v (.slice none 0 0) := .inr (.inl rfl)
theorem Org.row {w w' : World} {v v' : Value} {ok : Nat → Prop} {l : List Int} (h : Kd.R (Kd.int .u8) 5 w' w.heap.size ok v' l) : Org w w' v v' := by
  cases e : v'.ownBlock with
  | none => exact .inr (.inl e)
  | some g => exact .inr (.inr ⟨g, e, Kd.R_base h g e, Kd.R_lt h g e⟩)
theorem Org.trans {w w1 w2 : World} {v v1 v2 : Value} (h1 : Org w w1 v v1) (h2 : Org w1 w2 v1 v2) (ha : w.heap.size ≤ w1.heap.size) (hb : w1.heap.size ≤ w2.heap.size) : Org w w2 v v2 := by
  rcases h2 with h | h | ⟨g, e, h3, h4⟩
  · rcases h1 with k | k | ⟨g, e, h3, h4⟩
    · exact .inl (h.trans k)
    · exact .inr (.inl (h.trans k))
    · exact .inr (.inr ⟨g, h.trans e, h3, by omega⟩)
  · exact .inr (.inl h)
  · exact .inr (.inr ⟨g, e, by omega, h4⟩)
theorem Org.grow {w w1 w2 : World} {v v1 : Value} (h : Org w w1 v v1) (hb : w1.heap.size ≤ w2.heap.size) : Org w w2 v v1 := by
  rcases h with k | k | ⟨g, e, h3, h4⟩
  · exact .inl k
  · exact .inr (.inl k)
  · exact .inr (.inr ⟨g, e, h3, by omega⟩)
theorem Org.from {w w0 w1 : World} {v v1 : Value} (h : Org w w1 v v1) (hb : w0.heap.size ≤ w.heap.size) : Org w0 w1 v v1 := by
  rcases h with k | k | ⟨g, e, h3, h4⟩
  · exact .inl k
  · exact .inr (.inl k)
  · exact .inr (.inr ⟨g, e, by omega, h4⟩)
/-- How great a state is: B bytes have been fed at most. -/
structure LI (s : St) (B : Nat) : Prop where
  header : s.header ≤ B
  line : s.line.length ≤ B
  body : s.body.length ≤ B
  bytes : Bytes s.line
theorem LI.mono {s : St} {B B' : Nat} (h : LI s B) (hB : B ≤ B') : LI s B' := ⟨Nat.le_trans h.header hB, Nat.le_trans h.line hB, Nat.le_trans h.body hB, h.bytes⟩
theorem LI.start (most : Int) (B : Nat) : LI (st0 most) B := ⟨Nat.zero_le _, Nat.zero_le _, Nat.zero_le _, fun x hx => by cases hx⟩
theorem LI.deadS (B : Nat) : LI stDead B := ⟨Nat.zero_le _, Nat.zero_le _, Nat.zero_le _, fun x hx => by cases hx⟩
theorem LI.step {s : St} {B : Nat} (h : LI s B) (c : Int) (hc : 0 ≤ c ∧ c ≤ 255) : LI (byteS s c).1 (B + 1) := by
  have hb : Bytes (s.line ++ [c]) := fun x hx => by
    rcases List.mem_append.1 hx with hx | hx
    · exact h.bytes x hx
    · rw [List.mem_singleton.1 hx]; exact hc
  have h1 := h.header
  have h2 := h.line
  have h3 := h.body
  have h0 : Bytes ([] : List Int) := fun x hx => by cases hx
  unfold byteS
  repeat' split
  all_goals first
    | exact LI.start _ _
    | exact LI.deadS _
    | exact ⟨by simp only [List.length_append, List.length_singleton, List.length_nil]; omega, by simp only [List.length_append, List.length_singleton, List.length_nil]; omega, by simp only [List.length_append, List.length_singleton, List.length_nil]; omega, by first | exact hb | exact h.bytes | exact h0⟩
theorem sizeRef : Option.map (fun x => x.size) (Tryd.prog.info? 32) = some 7 := by kernel_rfl
theorem sizeSl : Option.map (fun x => x.size) (Tryd.prog.info? 22) = some 1 := by kernel_rfl
theorem sizeIn : Option.map (fun x => x.size) (Tryd.prog.info? 3) = some 1 := by kernel_rfl
theorem sizeBo : Option.map (fun x => x.size) (Tryd.prog.info? 4) = some 1 := by kernel_rfl
theorem R_from {w : World} {base base' : Nat} {v : Value} {l : List Int} (h : Kd.R (Kd.int .u8) 5 w base (fun _ => True) v l) (hb : base' ≤ base) : Kd.R (Kd.int .u8) 5 w base' (fun _ => True) v l := Kd.R_lower h hb
theorem u22_ne (q : Nat) (hq : q ∈ (22 : Nat) :: (Kd.slice 5 (Kd.int .u8)).E) : q ≠ 32 := by
  have : q ∈ ([22, 5] : List Nat) := hq
  simp at this
  omega
theorem u8_ne (q : Nat) (hq : q ∈ (5 : Nat) :: (Kd.int .u8).E) : q ≠ 32 := by
  have : q ∈ ([5] : List Nat) := hq
  rw [List.mem_singleton.1 this]; decide
end Go.Proofs.YtgdiilpocoimgaaDoor.Hand
