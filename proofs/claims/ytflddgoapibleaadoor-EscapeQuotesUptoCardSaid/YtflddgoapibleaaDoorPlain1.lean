/- Plain lists and what each card of this seat takes: the piece that a step is written as is read as its bytes; Quote's and Hex's bytes; the listed variables; the bound. -/
import Derived.Test.YtflddgoapibleaaDoorWalk1
import Derived.Test.YtflddgoapibleaaDoorWalk2
import Derived.Test.YtflddgoapibleaaDoorRows
import Derived.ProofKit
import Derived.LaidMore
import Derived.OpenShut
import Derived.Lib.LaidTab
import Derived.Deep.Strs
import Derived.WalkKit
import Derived.ShutString
import Derived.ChangeOld
import Derived.Below
import Derived.SizedLaws
import Derived.Deep.DeepHandedRow
import Derived.Deep.DeepWitnessRowRef
set_option linter.unusedVariables false
set_option linter.unusedSimpArgs false
namespace Go.Proofs.YtflddgoapibleaaDoor.Hand
open Go.RowKit Go.Proofs.YtflddgoapibleaaDoorW.PrintWords Go.Proofs.YtflddgoapibleaaDoorW.PrintLast Go.Proofs.YtflddgoapibleaaDoorW.PrintMore

theorem dig_hexDigit (x : Int) (h0 : 0 ≤ x) (h1 : x < 16) : dig (hexDigit x) = x := by
  unfold hexDigit dig
  split
  · rw [if_pos (by omega)]; omega
  · rw [if_neg (by omega), if_pos (by omega)]; omega
theorem brN_hex : ∀ (k : Nat) (R : Int) (f i : Nat) (t : List Int), 0 ≤ R → R < 16 ^ k → (hexN k R).length ≤ f →
    brN f 0 i (hexN k R ++ t) = brN (f - (hexN k R).length) R (i + (hexN k R).length) t := by
  intro k
  induction k with
  | zero => intro R f i t h0 h1 _; simp at h1; obtain rfl : R = 0 := by omega
            rfl
  | succ k ih =>
    intro R f i t h0 h1 hf
    by_cases h : R < 16
    · have e : hexN (k + 1) R = [hexDigit R] := by rw [hexN, if_pos h]
      rw [e] at hf ⊢
      obtain ⟨f, rfl⟩ : ∃ f', f = f' + 1 := ⟨f - 1, by simp at hf; omega⟩
      have hd := dig_hexDigit R h0 h
      show brN (f + 1) 0 i (hexDigit R :: t) = _
      rw [brN, if_pos (by omega), hd]
      simp
    · have e : hexN (k + 1) R = hexN k (R / 16) ++ [hexDigit (R % 16)] := by rw [hexN, if_neg h]
      rw [e] at hf ⊢
      rw [Int.pow_succ] at h1
      simp only [List.length_append, List.length_cons, List.length_nil] at hf ⊢
      rw [List.append_assoc, ih (R / 16) f i _ (by omega) (by omega) (by omega)]
      obtain ⟨g, hg⟩ : ∃ g, f - (hexN k (R / 16)).length = g + 1 := ⟨f - (hexN k (R / 16)).length - 1, by omega⟩
      have hd := dig_hexDigit (R % 16) (by omega) (by omega)
      rw [hg]
      show brN (g + 1) _ _ (hexDigit (R % 16) :: t) = _
      rw [brN, if_pos (by omega), hd]
      have e1 : 16 * (R / 16) + R % 16 = R := by omega
      rw [e1]
      congr 1; omega
theorem hexN_short : ∀ (j k : Nat) (R : Int), 0 ≤ R → R < 16 ^ j → 1 ≤ j → (hexN k R).length ≤ j := by
  intro j
  induction j with
  | zero => intro k R _ _ h; omega
  | succ j ih =>
    intro k R h0 h1 _
    cases k with
    | zero => simp [hexN]
    | succ k =>
      rw [hexN]
      split
      · simp
      · rename_i h
        rw [Int.pow_succ] at h1
        have hj : 1 ≤ j := by
          cases j with
          | zero => simp at h1; omega
          | succ j => omega
        have := ih k (R / 16) (by omega) (by omega) hj
        simp; omega
theorem hexN_pos (k : Nat) (R : Int) : 1 ≤ (hexN (k + 1) R).length := by
  rw [hexN]; split <;> simp
theorem hexN_head : ∀ (k : Nat) (R : Int) (t : List Int), 1 ≤ R → R < 16 ^ k → (hexN k R ++ t).getD 0 (-1) ≠ 48 := by
  intro k
  induction k with
  | zero => intro R t h0 h1; simp at h1; omega
  | succ k ih =>
    intro R t h0 h1
    rw [hexN]
    split
    · show hexDigit R ≠ 48
      unfold hexDigit; split <;> omega
    · rw [Int.pow_succ] at h1
      rw [List.append_assoc]
      exact ih (R / 16) _ (by omega) (by omega)
def Rune (r : Int) : Prop := (0 ≤ r ∧ r < 55296) ∨ (57344 ≤ r ∧ r ≤ 1114111)
theorem enc1 (r : Int) (h : 0 ≤ r ∧ r < 128) : enc r = [r] := by
  unfold enc; simp only [if_pos (show (0 ≤ r ∧ r < 55296) ∨ (57344 ≤ r ∧ r ≤ 1114111) by omega)]; rw [if_pos h.2]
theorem enc2 (r : Int) (h : 128 ≤ r ∧ r < 2048) : enc r = [192 + r / 64, 128 + r % 64] := by
  unfold enc; simp only [if_pos (show (0 ≤ r ∧ r < 55296) ∨ (57344 ≤ r ∧ r ≤ 1114111) by omega)]
  rw [if_neg (show ¬ r < 128 by omega), if_pos h.2]
theorem enc3 (r : Int) (h : 2048 ≤ r ∧ r < 65536) (hr : Rune r) : enc r = [224 + r / 4096, 128 + r / 64 % 64, 128 + r % 64] := by
  unfold Rune at hr
  unfold enc; simp only [if_pos hr]
  rw [if_neg (show ¬ r < 128 by omega), if_neg (show ¬ r < 2048 by omega), if_pos h.2]
theorem enc4 (r : Int) (h : 65536 ≤ r) (hr : Rune r) : enc r = [240 + r / 262144, 128 + r / 4096 % 64, 128 + r / 64 % 64, 128 + r % 64] := by
  unfold Rune at hr
  unfold enc; simp only [if_pos hr]
  rw [if_neg (show ¬ r < 128 by omega), if_neg (show ¬ r < 2048 by omega), if_neg (show ¬ r < 65536 by omega)]
theorem getD_split (l : List Int) (h : 0 ≤ l.getD 0 (-1)) : ∃ t, l = l.getD 0 (-1) :: t ∧ ∀ k, l.getD (k + 1) (-1) = t.getD k (-1) := by
  cases l with
  | nil => simp at h
  | cons a t => exact ⟨t, rfl, fun _ => rfl⟩
theorem take_two (l : List Int) (h0 : 0 ≤ l.getD 0 (-1)) (h1 : 0 ≤ l.getD 1 (-1)) : ∃ t, l = l.getD 0 (-1) :: l.getD 1 (-1) :: t := by
  match l with
  | [] => simp at h0
  | [a] => simp at h1
  | a :: b :: t => exact ⟨t, rfl⟩
theorem take_three (l : List Int) (h0 : 0 ≤ l.getD 0 (-1)) (h1 : 0 ≤ l.getD 1 (-1)) (h2 : 0 ≤ l.getD 2 (-1)) : ∃ t, l = l.getD 0 (-1) :: l.getD 1 (-1) :: l.getD 2 (-1) :: t := by
  match l with
  | [] => simp at h0
  | [a] => simp at h1
  | [a, b] => simp at h2
  | a :: b :: c :: t => exact ⟨t, rfl⟩
theorem take_four (l : List Int) (h0 : 0 ≤ l.getD 0 (-1)) (h1 : 0 ≤ l.getD 1 (-1)) (h2 : 0 ≤ l.getD 2 (-1)) (h3 : 0 ≤ l.getD 3 (-1)) : ∃ t, l = l.getD 0 (-1) :: l.getD 1 (-1) :: l.getD 2 (-1) :: l.getD 3 (-1) :: t := by
  match l with
  | [] => simp at h0
  | [a] => simp at h1
  | [a, b] => simp at h2
  | [a, b, c] => simp at h3
  | a :: b :: c :: d :: t => exact ⟨t, rfl⟩
theorem cont_range (x : Int) : cont x = true ↔ 128 ≤ x ∧ x ≤ 191 := by unfold cont; simp
/-- The step at the head: a byte below 128; a byte that is none of an encoding; or an encoding of a rune. -/
theorem dec_cases (l : List Int) (h0 : 0 ≤ l.getD 0 (-1)) :
    (l.getD 0 (-1) < 128 ∧ dec l = (l.getD 0 (-1), 1)) ∨ (128 ≤ l.getD 0 (-1) ∧ dec l = (65533, 1)) ∨
    (∃ r t, Rune r ∧ 128 ≤ r ∧ l = enc r ++ t ∧ dec l = (r, (enc r).length)) := by
  by_cases e1 : l.getD 0 (-1) < 128
  · exact .inl ⟨e1, by rw [dec_eq4]; unfold dec4; rw [if_pos e1]⟩
  refine .inr ?_
  by_cases e2 : 194 ≤ l.getD 0 (-1) ∧ l.getD 0 (-1) ≤ 223 ∧ cont (l.getD 1 (-1)) = true
  · refine .inr ?_
    have hd : dec l = ((l.getD 0 (-1) - 192) * 64 + (l.getD 1 (-1) - 128), 2) := by rw [dec_eq4]; unfold dec4; rw [if_neg e1, if_pos e2]
    obtain ⟨x1, x2, x3⟩ := e2
    rw [cont_range] at x3
    obtain ⟨t, ht⟩ := take_two l h0 (by omega)
    generalize l.getD 0 (-1) = a at *
    generalize l.getD 1 (-1) = b at *
    have he := enc2 ((a - 192) * 64 + (b - 128)) (by omega)
    have he2 : enc ((a - 192) * 64 + (b - 128)) = [a, b] := by
      rw [he]; simp only [List.cons.injEq, and_true]; omega
    refine ⟨(a - 192) * 64 + (b - 128), t, .inl (by omega), by omega, ?_, ?_⟩
    · rw [he2]; exact ht
    · rw [he2]; exact hd
  by_cases e3 : 224 ≤ l.getD 0 (-1) ∧ l.getD 0 (-1) ≤ 239 ∧ cont (l.getD 1 (-1)) = true ∧ cont (l.getD 2 (-1)) = true ∧ second (l.getD 0 (-1)) (l.getD 1 (-1)) = true
  · refine .inr ?_
    have hd : dec l = ((l.getD 0 (-1) - 224) * 4096 + (l.getD 1 (-1) - 128) * 64 + (l.getD 2 (-1) - 128), 3) := by rw [dec_eq4]; unfold dec4; rw [if_neg e1, if_neg e2, if_pos e3]
    obtain ⟨x1, x2, x3, x4, x5⟩ := e3
    rw [cont_range] at x3 x4
    unfold second at x5; simp only [decide_eq_true_eq] at x5
    obtain ⟨t, ht⟩ := take_three l h0 (by omega) (by omega)
    clear e1 e2
    generalize l.getD 0 (-1) = a at *
    generalize l.getD 1 (-1) = b at *
    generalize l.getD 2 (-1) = c at *
    have hr : Rune ((a - 224) * 4096 + (b - 128) * 64 + (c - 128)) := by unfold Rune; omega
    have he := enc3 ((a - 224) * 4096 + (b - 128) * 64 + (c - 128)) (by omega) hr
    have he2 : enc ((a - 224) * 4096 + (b - 128) * 64 + (c - 128)) = [a, b, c] := by
      rw [he]; simp only [List.cons.injEq, and_true]; omega
    refine ⟨_, t, hr, by omega, ?_, ?_⟩
    · rw [he2]; exact ht
    · rw [he2]; exact hd
  by_cases e4 : 240 ≤ l.getD 0 (-1) ∧ l.getD 0 (-1) ≤ 244 ∧ cont (l.getD 1 (-1)) = true ∧ cont (l.getD 2 (-1)) = true ∧ cont (l.getD 3 (-1)) = true ∧ second (l.getD 0 (-1)) (l.getD 1 (-1)) = true
  · refine .inr ?_
    have hd : dec l = ((l.getD 0 (-1) - 240) * 262144 + (l.getD 1 (-1) - 128) * 4096 + (l.getD 2 (-1) - 128) * 64 + (l.getD 3 (-1) - 128), 4) := by rw [dec_eq4]; unfold dec4; rw [if_neg e1, if_neg e2, if_neg e3, if_pos e4]
    obtain ⟨x1, x2, x3, x4, x5, x6⟩ := e4
    rw [cont_range] at x3 x4 x5
    unfold second at x6; simp only [decide_eq_true_eq] at x6
    obtain ⟨t, ht⟩ := take_four l h0 (by omega) (by omega) (by omega)
    clear e1 e2 e3
    generalize l.getD 0 (-1) = a at *
    generalize l.getD 1 (-1) = b at *
    generalize l.getD 2 (-1) = c at *
    generalize l.getD 3 (-1) = d at *
    have hr : Rune ((a - 240) * 262144 + (b - 128) * 4096 + (c - 128) * 64 + (d - 128)) := by unfold Rune; omega
    have he := enc4 ((a - 240) * 262144 + (b - 128) * 4096 + (c - 128) * 64 + (d - 128)) (by omega) hr
    have he2 : enc ((a - 240) * 262144 + (b - 128) * 4096 + (c - 128) * 64 + (d - 128)) = [a, b, c, d] := by
      rw [he]; simp only [List.cons.injEq, and_true]; omega
    refine ⟨_, t, hr, by omega, ?_, ?_⟩
    · rw [he2]; exact ht
    · rw [he2]; exact hd
  · exact .inl ⟨by omega, by rw [dec_eq4]; unfold dec4; rw [if_neg e1, if_neg e2, if_neg e3, if_neg e4]⟩
/-- An encoding at the head is the step at the head. -/
theorem dec_enc (r : Int) (hr : Rune r) (t : List Int) : dec (enc r ++ t) = (r, (enc r).length) := by
  have hr' := hr
  unfold Rune at hr'
  have hs : ∀ a b, second a b = true ↔ ((a = 224 → 160 ≤ b) ∧ (a = 237 → b ≤ 159) ∧ (a = 240 → 144 ≤ b) ∧ (a = 244 → b ≤ 143)) := fun a b => by unfold second; rw [decide_eq_true_eq]
  rw [dec_eq4]; unfold dec4
  by_cases e1 : r < 128
  · rw [enc1 r (by omega)]
    show (if r < 128 then (r, 1) else _) = _
    rw [if_pos e1]; rfl
  by_cases e2 : r < 2048
  · rw [enc2 r (by omega)]
    simp only [List.cons_append, List.nil_append, List.getD_cons_zero, List.getD_cons_succ, cont_range, hs]
    rw [if_neg (by omega), if_pos (by omega)]
    simp; omega
  by_cases e3 : r < 65536
  · rw [enc3 r (by omega) hr]
    simp only [List.cons_append, List.nil_append, List.getD_cons_zero, List.getD_cons_succ, cont_range, hs]
    rw [if_neg (by omega), if_neg (by omega), if_pos (by omega)]
    simp; omega
  · rw [enc4 r (by omega) hr]
    simp only [List.cons_append, List.nil_append, List.getD_cons_zero, List.getD_cons_succ, cont_range, hs]
    rw [if_neg (by omega), if_neg (by omega), if_neg (by omega), if_pos (by omega)]
    simp; omega
/-- What the step at the head is written as is read as its bytes, whatever follows. -/
theorem piece_pc (l t : List Int) (hb : Bytes l) (h : 0 < l.length) : pieceL (pc l ++ t) = (l.take (dec l).2, ((pc l).length : Int)) := by
  have h0 : 0 ≤ l.getD 0 (-1) ∧ l.getD 0 (-1) ≤ 255 := by
    cases l with
    | nil => simp at h
    | cons a t => exact hb a List.mem_cons_self
  have ht1 : l.take 1 = [l.getD 0 (-1)] := by
    cases l with
    | nil => simp at h
    | cons a t => rfl
  generalize hA : l.getD 0 (-1) = a at h0 ht1
  have hex : ∀ n, 0 ≤ n → n ≤ 255 → ¬ (n = 9 ∨ n = 10 ∨ n = 13 ∨ (32 ≤ n ∧ n ≤ 126)) → pieceL ([92, 120, hexDigit (n / 16), hexDigit (n % 16)] ++ t) = ([n], 4) := by
    intro n hn0 hn1 hn
    show byTwo (hexDigit (n / 16)) (hexDigit (n % 16)) = _
    have d1 := dig_hexDigit (n / 16) (by omega) (by omega)
    have d2 := dig_hexDigit (n % 16) (by omega) (by omega)
    unfold byTwo
    rw [d1, d2, if_pos (by omega)]
    have e : 16 * (n / 16) + n % 16 = n := by omega
    simp only [e]
    rw [if_neg hn]
  by_cases c1 : a = 92
  · have hd : (dec l).2 = 1 := by rw [dec_eq4]; unfold dec4; rw [hA, if_pos (by omega)]
    unfold pc; rw [hA, if_pos c1, hd, ht1, c1]; rfl
  by_cases c2 : a = 10
  · have hd : (dec l).2 = 1 := by rw [dec_eq4]; unfold dec4; rw [hA, if_pos (by omega)]
    unfold pc; rw [hA, if_neg c1, if_pos c2, hd, ht1, c2]; rfl
  by_cases c3 : a = 13
  · have hd : (dec l).2 = 1 := by rw [dec_eq4]; unfold dec4; rw [hA, if_pos (by omega)]
    unfold pc; rw [hA, if_neg c1, if_neg c2, if_pos c3, hd, ht1, c3]; rfl
  by_cases c4 : a = 9
  · have hd : (dec l).2 = 1 := by rw [dec_eq4]; unfold dec4; rw [hA, if_pos (by omega)]
    unfold pc; rw [hA, if_neg c1, if_neg c2, if_neg c3, if_pos c4, hd, ht1, c4]; rfl
  by_cases c5 : 32 ≤ a ∧ a < 127
  · have hd : (dec l).2 = 1 := by rw [dec_eq4]; unfold dec4; rw [hA, if_pos (by omega)]
    unfold pc; rw [hA, if_neg c1, if_neg c2, if_neg c3, if_neg c4, if_pos c5, hd, ht1]
    show pieceL (a :: t) = _
    unfold pieceL
    simp only [List.getD_cons_zero]
    rw [if_pos c1, if_pos (by omega)]; rfl
  have hpc : pc l = if (dec l).2 = 1 then [92, 120, hexDigit (a / 16), hexDigit (a % 16)] else [92, 117, 123] ++ hexN 8 (dec l).1 ++ [125] := by
    unfold pc; rw [hA, if_neg c1, if_neg c2, if_neg c3, if_neg c4, if_neg c5]
  rw [hpc]
  rcases dec_cases l (by omega) with ⟨_, hd⟩ | ⟨_, hd⟩ | ⟨r, t2, hr, hr1, hl, hd⟩
  · rw [hd, if_pos rfl, hex a h0.1 h0.2 (by omega), ht1]; rfl
  · rw [hd, if_pos rfl, hex a h0.1 h0.2 (by omega), ht1]; rfl
  · have hr' := hr
    unfold Rune at hr'
    have hlen : ¬ (enc r).length = 1 := by
      by_cases e2 : r < 2048
      · rw [enc2 r (by omega)]; simp
      by_cases e3 : r < 65536
      · rw [enc3 r (by omega) hr]; simp
      · rw [enc4 r (by omega) hr]; simp
    rw [hd, if_neg hlen]
    have htk : l.take (enc r).length = enc r := by rw [hl]; exact List.take_left
    show pieceL (([92, 117, 123] ++ hexN 8 r ++ [125]) ++ t) = (l.take (enc r).length, _)
    rw [htk]
    have hsh := hexN_short 6 8 r (by omega) (by omega) (by decide)
    have hbr : brN 6 0 3 ((([92, 117, 123] ++ hexN 8 r ++ [125]) ++ t).drop 3) = (r, 3 + (hexN 8 r).length, 125 :: t) := by
      have e : (([92, 117, 123] ++ hexN 8 r ++ [125]) ++ t).drop 3 = hexN 8 r ++ (125 :: t) := by simp
      rw [e, brN_hex 8 r 6 3 _ (by omega) (by omega) hsh]
      cases 6 - (hexN 8 r).length with
      | zero => rfl
      | succ f => rw [brN, if_neg (by decide)]
    have hp : 1 ≤ (hexN 8 r).length := hexN_pos 7 r
    have hh := hexN_head 8 r (125 :: t) (by omega) (by omega)
    have e3 : (([92, 117, 123] ++ hexN 8 r ++ [125]) ++ t).getD 3 (-1) = (hexN 8 r ++ (125 :: t)).getD 0 (-1) := by simp
    have hB : byRune (([92, 117, 123] ++ hexN 8 r ++ [125]) ++ t) = (enc r, ((3 + (hexN 8 r).length : Nat) : Int) + 1) := by
      unfold byRune
      simp only [hbr]
      rw [e3, if_pos ⟨by simp, by omega, hh, rfl, hr1, by omega, by omega⟩]
    have hP : pieceL (([92, 117, 123] ++ hexN 8 r ++ [125]) ++ t) = byRune (([92, 117, 123] ++ hexN 8 r ++ [125]) ++ t) := by
      unfold pieceL
      simp only [List.cons_append, List.nil_append, List.getD_cons_zero, List.getD_cons_succ]
      rfl
    rw [hP, hB]
    congr 1
    simp; omega
theorem pc_pos (l : List Int) (hb : Bytes l) (h : 0 < l.length) : 0 < (pc l).length := by
  have h1 := piece_pc l [] hb h
  rcases Nat.eq_zero_or_pos (pc l).length with h2 | h2
  · have : pc l = [] := List.eq_nil_of_length_eq_zero h2
    rw [this] at h1
    have h3 : pieceL ([] ++ []) = ([], 0) := by decide
    rw [h3] at h1
    have h4 := congrArg (fun x => x.1.length) h1
    simp only [List.length_take, List.length_nil] at h4
    have := dec_pos l; omega
  · exact h2
theorem quo_nil : quo [] = [] := rfl
theorem quo_cons' (l : List Int) (h : 0 < l.length) : quo l = pc l ++ quo (l.drop (dec l).2) := steps_cons pc l h
/-- Unlike bytes have unlike texts. -/
theorem quo_inj : ∀ (n : Nat) (a b : List Int), a.length ≤ n → Bytes a → Bytes b → quo a = quo b → a = b := by
  intro n
  induction n with
  | zero =>
    intro a b ha hba hbb h
    obtain rfl := List.eq_nil_of_length_eq_zero (by omega : a.length = 0)
    rcases Nat.eq_zero_or_pos b.length with h0 | h0
    · exact (List.eq_nil_of_length_eq_zero h0).symm
    · rw [quo_nil, quo_cons' b h0] at h
      have := pc_pos b hbb h0
      have h2 := congrArg List.length h
      rw [List.length_append, List.length_nil] at h2; omega
  | succ n ih =>
    intro a b ha hba hbb h
    rcases Nat.eq_zero_or_pos a.length with h0 | h0
    · obtain rfl := List.eq_nil_of_length_eq_zero h0
      rcases Nat.eq_zero_or_pos b.length with h1 | h1
      · exact (List.eq_nil_of_length_eq_zero h1).symm
      · rw [quo_nil, quo_cons' b h1] at h
        have := pc_pos b hbb h1
        have h2 := congrArg List.length h
        rw [List.length_append, List.length_nil] at h2; omega
    · rcases Nat.eq_zero_or_pos b.length with h1 | h1
      · obtain rfl := List.eq_nil_of_length_eq_zero h1
        rw [quo_nil, quo_cons' a h0] at h
        have := pc_pos a hba h0
        have h2 := congrArg List.length h
        rw [List.length_append, List.length_nil] at h2; omega
      · rw [quo_cons' a h0, quo_cons' b h1] at h
        have p1 := piece_pc a (quo (a.drop (dec a).2)) hba h0
        have p2 := piece_pc b (quo (b.drop (dec b).2)) hbb h1
        rw [h, p2] at p1
        have e1 := congrArg Prod.fst p1
        have e2 : ((pc b).length : Int) = ((pc a).length : Int) := congrArg Prod.snd p1
        obtain ⟨q1, q2⟩ := List.append_inj h (by omega)
        have hda := dec_pos a
        have h3 := ih (a.drop (dec a).2) (b.drop (dec b).2) (by rw [List.length_drop]; omega) (bytes_of_drop hba _) (bytes_of_drop hbb _) q2
        rw [← List.take_append_drop (dec a).2 a, ← List.take_append_drop (dec b).2 b, h3]
        simp only at e1
        rw [e1]
end Go.Proofs.YtflddgoapibleaaDoor.Hand

namespace Go.Proofs.YtflddgoapibleaaDoor.Hand
open Go.RowKit Go.Proofs.YtflddgoapibleaaDoor.Esc Go.Proofs.YtflddgoapibleaaDoorW.PrintWords Go.Proofs.YtflddgoapibleaaDoorW.PrintLast Go.Proofs.YtflddgoapibleaaDoorW.PrintMore

def Prints (l : List Int) : Prop := ∀ x ∈ l, 32 ≤ x ∧ x ≤ 126
theorem prints_append {a b : List Int} (h1 : Prints a) (h2 : Prints b) : Prints (a ++ b) := fun x hx => by
  rcases List.mem_append.1 hx with h | h
  · exact h1 x h
  · exact h2 x h
theorem hexDigit_print (n : Int) (h0 : 0 ≤ n) (h1 : n < 16) : 32 ≤ hexDigit n ∧ hexDigit n ≤ 126 := by unfold hexDigit; split <;> omega
theorem hexN_print : ∀ (k : Nat) (r : Int), 0 ≤ r → Prints (hexN k r) := by
  intro k
  induction k with
  | zero => intro r _ x hx; simp [hexN] at hx
  | succ k ih =>
    intro r h0
    rw [hexN]
    split
    · intro x hx; simp at hx; subst hx; exact hexDigit_print r h0 (by omega)
    · refine prints_append (ih _ (by omega)) (fun x hx => ?_)
      simp at hx; subst hx; exact hexDigit_print _ (by omega) (by omega)
theorem head_byte (l : List Int) (hb : Bytes l) (h : 0 < l.length) : 0 ≤ l.getD 0 (-1) ∧ l.getD 0 (-1) ≤ 255 := by
  cases l with
  | nil => simp at h
  | cons a t => exact hb a List.mem_cons_self
theorem pc_print (l : List Int) (hb : Bytes l) (h : 0 < l.length) : Prints (pc l) := by
  have h0 := head_byte l hb h
  unfold pc
  have lit : ∀ a b : Int, (32 ≤ a ∧ a ≤ 126) → (32 ≤ b ∧ b ≤ 126) → Prints [a, b] := fun a b ha hb x hx => by
    simp at hx; rcases hx with rfl | rfl
    · exact ha
    · exact hb
  simp only
  split; · exact lit _ _ (by decide) (by decide)
  split; · exact lit _ _ (by decide) (by decide)
  split; · exact lit _ _ (by decide) (by decide)
  split; · exact lit _ _ (by decide) (by decide)
  split
  · intro x hx; simp only [List.mem_singleton] at hx; subst hx; omega
  split
  · have d1 := hexDigit_print (l.getD 0 (-1) / 16) (by omega) (by omega)
    have d2 := hexDigit_print (l.getD 0 (-1) % 16) (by omega) (by omega)
    exact prints_append (lit 92 120 (by decide) (by decide)) (lit _ _ d1 d2)
  · rename_i hd
    rcases dec_cases l h0.1 with ⟨_, e⟩ | ⟨_, e⟩ | ⟨r, t, _, hr, _, e⟩
    · rw [e] at hd; exact absurd rfl hd
    · rw [e] at hd; exact absurd rfl hd
    · rw [e]
      refine prints_append (prints_append ?_ (hexN_print 8 r (by omega))) (fun x hx => ?_)
      · intro x hx; simp at hx; omega
      · simp at hx; omega
theorem pc_len (l : List Int) : (pc l).length ≤ 12 := by
  unfold pc
  have hl : ∀ x, (hexN 8 x).length ≤ 8 := fun x => by
    have key : ∀ (k : Nat) (x : Int), (hexN k x).length ≤ k := by
      intro k
      induction k with
      | zero => intro x; simp [hexN]
      | succ k ih => intro x; rw [hexN]; split <;> simp; exact ih _
    exact key 8 x
  have := hl (dec l).1
  simp only
  repeat' split
  all_goals simp
  omega
theorem steps_ind {P : List Int → Prop} (h0 : P []) (h1 : ∀ l, 0 < l.length → P (l.drop (dec l).2) → P l) : ∀ l, P l := by
  have key : ∀ (n : Nat) l, l.length ≤ n → P l := by
    intro n
    induction n with
    | zero => intro l hl; obtain rfl := List.eq_nil_of_length_eq_zero (by omega : l.length = 0); exact h0
    | succ n ih =>
      intro l hl
      rcases Nat.eq_zero_or_pos l.length with h | h
      · obtain rfl := List.eq_nil_of_length_eq_zero h; exact h0
      · have := dec_pos l
        exact h1 l h (ih _ (by rw [List.length_drop]; omega))
  exact fun l => key l.length l (Nat.le_refl _)
theorem quo_print (l : List Int) : Bytes l → Prints (quo l) := by
  induction l using steps_ind with
  | h0 => intro _ x hx; simp [quo_nil] at hx
  | h1 l h ih => intro hb; rw [quo_cons' l h]; exact prints_append (pc_print l hb h) (ih (bytes_of_drop hb _))
theorem quo_len (l : List Int) : (quo l).length ≤ 12 * l.length := by
  induction l using steps_ind with
  | h0 => simp [quo_nil]
  | h1 l h ih =>
    rw [quo_cons' l h, List.length_append]
    rw [List.length_drop] at ih
    have := pc_len l; have := dec_pos l; have := dec_le l h; omega
theorem prints_bytes {l : List Int} (h : Prints l) : Bytes l := fun x hx => by have := h x hx; omega

/-! ### lists of bytes and strings -/
theorem str_toList (l : List Int) : (strOfNums l).toList = l.map fun n => UInt8.ofNat n.toNat := by rw [ByteArray.toList_eq, strOfNums_data]
theorem bytes_map_back (l : List Int) (h : Bytes l) : (l.map fun n => UInt8.ofNat n.toNat).map (fun b : UInt8 => (b.toNat : Int)) = l := by
  rw [List.map_map]
  conv => rhs; rw [← List.map_id l]
  apply List.map_congr_left
  intro x hx
  have := h x hx
  simp; omega
theorem bytesOf_str (l : List Int) (h : Bytes l) : bytesOf (strOfNums l) = l := bytes_map_back l h
theorem str_bytesOf (s : ByteArray) : strOfNums (bytesOf s) = s := by
  unfold strOfNums bytesOf
  rw [List.map_map]
  have : ((fun n : Int => UInt8.ofNat n.toNat) ∘ fun b : UInt8 => (b.toNat : Int)) = id := by
    funext b; simp
  rw [this, List.map_id]
theorem bytes_bytesOf (s : ByteArray) : Bytes (bytesOf s) := fun x hx => by
  unfold bytesOf at hx
  obtain ⟨b, _, rfl⟩ := List.mem_map.1 hx
  have := UInt8.toNat_lt b; omega
theorem str_inj {a b : List Int} (ha : Bytes a) (hb : Bytes b) (h : strOfNums a = strOfNums b) : a = b := by
  rw [← bytesOf_str a ha, ← bytesOf_str b hb, h]
theorem str_beq (a b : List Int) (ha : Bytes a) (hb : Bytes b) : ((strOfNums a).toList == (strOfNums b).toList) = decide (a = b) := by
  by_cases h : a = b
  · rw [h, decide_eq_true rfl]; simp
  · rw [decide_eq_false h]
    apply beq_eq_false_iff_ne.2
    intro e
    apply h
    apply str_inj ha hb
    have h2 : (strOfNums a).data.toList = (strOfNums b).data.toList := by rw [← ByteArray.toList_eq, ← ByteArray.toList_eq]; exact e
    have h3 : (strOfNums a).data = (strOfNums b).data := Array.toList_inj.1 h2
    exact congrArg ByteArray.mk h3 |> fun e => by cases hA : strOfNums a; cases hB : strOfNums b; rw [hA, hB] at e; exact e
theorem str_append (a b : List Int) : strOfNums a ++ strOfNums b = strOfNums (a ++ b) := by
  apply ByteArray.ext
  rw [ByteArray.data_append]
  unfold strOfNums
  simp
theorem own_f (l : List Int) (h : l.length ≤ 1073741824) : galleylaw23_own.f l = some l := by
  unfold galleylaw23_own.f
  simp only [Option.bind_some]
  rw [if_pos (by simp; omega)]; rfl

/-! ### Hex -/
def hexL (l : List Int) : List Int := l.flatMap fun x => [hexDigit (x / 16), hexDigit (x % 16)]
theorem hexL_cons (a : Int) (l : List Int) : hexL (a :: l) = hexDigit (a / 16) :: hexDigit (a % 16) :: hexL l := rfl
theorem hexL_len (l : List Int) : (hexL l).length = 2 * l.length := by
  induction l with
  | nil => rfl
  | cons a t ih => rw [hexL_cons]; simp only [List.length_cons, ih]; omega
theorem hexL_print : ∀ (l : List Int), Bytes l → Prints (hexL l) := by
  intro l
  induction l with
  | nil => intro _ x hx; simp [hexL] at hx
  | cons a t ih =>
    intro hb x hx
    have ha := hb a List.mem_cons_self
    rw [hexL_cons] at hx
    rcases List.mem_cons.1 hx with rfl | hx
    · exact hexDigit_print _ (by omega) (by omega)
    rcases List.mem_cons.1 hx with rfl | hx
    · exact hexDigit_print _ (by omega) (by omega)
    · exact ih (fun y hy => hb y (List.mem_cons_of_mem _ hy)) x hx
theorem hexDigit_inj (x y : Int) (hx : 0 ≤ x ∧ x < 16) (hy : 0 ≤ y ∧ y < 16) (h : hexDigit x = hexDigit y) : x = y := by
  have := congrArg dig h
  rwa [dig_hexDigit x hx.1 hx.2, dig_hexDigit y hy.1 hy.2] at this
theorem hexL_inj : ∀ (a b : List Int), Bytes a → Bytes b → hexL a = hexL b → a = b := by
  intro a
  induction a with
  | nil => intro b _ _ h; have := congrArg List.length h; rw [hexL_len, hexL_len] at this; exact (List.eq_nil_of_length_eq_zero (by simp at this; omega)).symm
  | cons x t ih =>
    intro b ha hb h
    cases b with
    | nil => have := congrArg List.length h; rw [hexL_len, hexL_len] at this; simp at this
    | cons y u =>
      rw [hexL_cons, hexL_cons] at h
      injection h with h1 h2
      injection h2 with h2 h3
      have hx := ha x List.mem_cons_self
      have hy := hb y List.mem_cons_self
      have e1 := hexDigit_inj _ _ (by omega) (by omega) h1
      have e2 := hexDigit_inj _ _ (by omega) (by omega) h2
      rw [ih u (fun z hz => ha z (List.mem_cons_of_mem _ hz)) (fun z hz => hb z (List.mem_cons_of_mem _ hz)) h3]
      congr 1; omega
theorem w64 (x : Int) (h0 : -9223372036854775808 ≤ x) (h1 : x ≤ 9223372036854775807) : wrap64 x = x := by
  unfold wrap64; omega
theorem hex_loop : ∀ (n k i : Nat) (D l : List Int), Bytes l → l.length ≤ 1073741824 → i + n = l.length → n < k → D.length ≤ 2 * i →
    escape_Hex.l0 k D l (l.length : Int) (i : Int) = some (strOfNums (D ++ hexL (l.drop i))) := by
  intro n
  induction n with
  | zero =>
    intro k i D l hb hl hi hk hD
    obtain ⟨k, rfl⟩ : ∃ k', k = k' + 1 := ⟨k - 1, by omega⟩
    rw [escape_Hex.l0, if_neg (by omega), List.drop_eq_nil_of_le (by omega)]
    simp [hexL]
  | succ n ih =>
    intro k i D l hb hl hi hk hD
    obtain ⟨k, rfl⟩ : ∃ k', k = k' + 1 := ⟨k - 1, by omega⟩
    have hlt : i < l.length := by omega
    have hx := hb (l[i]) (List.getElem_mem hlt)
    have hrd : rd l (i : Int) = l[i] := by
      unfold rd; rw [show ((i : Int)).toNat = i by omega, List.getD_eq_getElem?_getD, List.getElem?_eq_getElem hlt]; rfl
    rw [escape_Hex.l0, hrd, u8_and15 _ hx.1 (by omega), if_pos (by omega), if_pos (by omega), if_pos (by omega), if_pos (by omega), if_pos (by omega), if_pos (by omega), if_pos (by omega)]
    simp only [Option.bind_some]
    rw [hex16 _ (by omega) (by omega), hex16 _ (by omega) (by omega), if_pos (by simp; omega), w64 _ (by omega) (by omega)]
    have h1 := ih k (i + 1) (D ++ [hexDigit (l[i] / 16), hexDigit (l[i] % 16)]) l hb hl (by omega) (by omega) (by simp; omega)
    rw [show ((i : Int) + 1) = ((i + 1 : Nat) : Int) by omega, h1, List.append_assoc, List.drop_eq_getElem_cons hlt, hexL_cons]
    rfl
theorem hex_f (k : Nat) (l : List Int) (hb : Bytes l) (hl : l.length ≤ 1073741824) (hk : l.length < k) : escape_Hex.f k l = some (strOfNums (hexL l)) := by
  have := hex_loop l.length k 0 [] l hb hl (by omega) hk (by simp)
  unfold escape_Hex.f
  simpa using this
end Go.Proofs.YtflddgoapibleaaDoor.Hand

namespace Go.Proofs.YtflddgoapibleaaDoor.Hand
open Go.ChangeShapes Go.WideShapes Go.ChangeAt Go.WideMaps Go.WideElems Go.RowKit

theorem gSpans : Tryd.prog.globalNamed "galley/octet.spans" = some 2 := by kernel_rfl
theorem gNeeds : Tryd.prog.globalNamed "galley/octet.needs" = some 1 := by kernel_rfl
theorem gShort : Tryd.prog.globalNamed "galley/escape.short" = some 0 := by kernel_rfl
theorem g64 : Tryd.prog.globalNamed "math/bits.deBruijn64tab" = some 6 := by kernel_rfl
theorem tSpans : (Tryd.prog.globals[2]?).map (·.type) = some 88 := by kernel_rfl
theorem tNeeds : (Tryd.prog.globals[1]?).map (·.type) = some 74 := by kernel_rfl
theorem tShort : (Tryd.prog.globals[0]?).map (·.type) = some 39 := by kernel_rfl
theorem t64 : (Tryd.prog.globals[6]?).map (·.type) = some 99 := by kernel_rfl
theorem block_of_var {P : Program} {w : World} {n : String} {g : Nat} {cs : Array Value} (hg : P.globalNamed n = some g) (h : w.var? P n = some cs) : ∃ t fr, w.heap[g]? = some (.cells cs t fr) := by
  unfold World.var? at h
  rw [hg] at h
  simp only [Option.bind_some] at h
  split at h
  · rename_i c t fr hh; cases h; exact ⟨t, fr, hh⟩
  · cases h
abbrev laidList : List (String × DataW Unit) := [("galley/octet.spans", Rows.laid_galley_octet_spans), ("galley/octet.needs", Rows.laid_galley_octet_needs), ("math/bits.deBruijn32tab", Rows.laid_math_bits_deBruijn32tab), ("math/bits.deBruijn64tab", Rows.laid_math_bits_deBruijn64tab), ("internal/strconv.uint64pow10", Rows.laid_internal_strconv_uint64pow10), ("galley/escape.short", Rows.laid_galley_escape_short)]
section
variable {H : Type} {enc : TypeId × Value → H} {w : World} {base : Nat} {sp : Nat → Bool} {held : Bool}
theorem int_cell {t : TypeId} {fuel : Nat} {cs : List Value} {a : Int} {y : DataW H × List MemPlace} (ht : Tryd.prog.underlying t = some (.int .i64)) (h : DataW.trod enc Tryd.prog w base sp held fuel t cs = some y) (hy : y.1 = .lit (.int .i64 a)) : cs = [.int .i64 a] := by
  obtain ⟨k, e1, e2, _⟩ := DataW.trod_int ht h
  rw [e2] at hy
  simp only [DataW.lit.injEq, Lit.int.injEq, true_and] at hy
  rw [e1, hy]
theorem span_cells {cs : List Value} {fuel : Nat} {a b c : Int} {y : DataW H × List MemPlace}
    (h : DataW.trod enc Tryd.prog w base sp held fuel 87 cs = some y) (hy : y.1 = .agg [.lit (.int .i64 a), .lit (.int .i64 b), .lit (.int .i64 c)]) : cs = [.int .i64 a, .int .i64 b, .int .i64 c] := by
  obtain ⟨y0, y1, y2, n, hx, hl, h0, h1, h2⟩ := Deep.trod_struct3 Tryd.underlying87 h
  have c87 : Tryd.prog.cellsOf 87 = 3 := by kernel_rfl
  have c3 : Tryd.prog.cellsOf 3 = 1 := by kernel_rfl
  have c75 : Tryd.prog.cellsOf 75 = 1 := by kernel_rfl
  rw [hx] at hy
  simp only [DataW.agg.injEq, List.cons.injEq, and_true] at hy
  obtain ⟨e0, e1, e2⟩ := hy
  rw [c87] at hl
  match cs, hl with
  | [x0, x1, x2], _ =>
    rw [c3] at h0 h1
    rw [c75] at h2
    have z0 := int_cell Tryd.underlying3 h0 e0
    have z1 := int_cell Tryd.underlying3 h1 e1
    have z2 := int_cell Tryd.underlying75 h2 e2
    simp at z0 z1 z2
    rw [z0, z1, z2]
theorem chunks (cs : List Value) (h : cs.length = 21) (f : Nat → List Value) (hf : ∀ i, i < 7 → (cs.drop (i * 3)).take 3 = f i) : cs = f 0 ++ f 1 ++ f 2 ++ f 3 ++ f 4 ++ f 5 ++ f 6 := by
  rw [← hf 0 (by decide), ← hf 1 (by decide), ← hf 2 (by decide), ← hf 3 (by decide), ← hf 4 (by decide), ← hf 5 (by decide), ← hf 6 (by decide)]
  match cs, h with
  | [a0, a1, a2, a3, a4, a5, a6, a7, a8, a9, b0, b1, b2, b3, b4, b5, b6, b7, b8, b9, c0], _ => rfl
theorem spans_cells {cs : List Value} {fuel : Nat} {p : List MemPlace}
    (h : DataW.trod enc Tryd.prog w base sp held fuel 88 cs = some (Rows.laid_galley_octet_spans, p)) : cs = spanCells.toList := by
  obtain ⟨xs, m, _, hx, hl, hn, hel⟩ := DataW.trod_array Tryd.underlying88 h
  have c88 : Tryd.prog.cellsOf 88 = 21 := by kernel_rfl
  have c87 : Tryd.prog.cellsOf 87 = 3 := by kernel_rfl
  rw [c88] at hl
  rw [c87] at hel
  have hx1 := congrArg Prod.fst hx
  unfold Rows.laid_galley_octet_spans at hx1
  simp only [DataW.agg.injEq] at hx1
  match xs, hn, hx1, hel with
  | [x0, x1, x2, x3, x4, x5, x6], _, hx1, hel =>
    simp only [List.map_cons, List.map_nil, List.cons.injEq, and_true] at hx1
    obtain ⟨e0, e1, e2, e3, e4, e5, e6⟩ := hx1
    have k0 := span_cells (hel 0 (by decide)) e0.symm
    have k1 := span_cells (hel 1 (by decide)) e1.symm
    have k2 := span_cells (hel 2 (by decide)) e2.symm
    have k3 := span_cells (hel 3 (by decide)) e3.symm
    have k4 := span_cells (hel 4 (by decide)) e4.symm
    have k5 := span_cells (hel 5 (by decide)) e5.symm
    have k6 := span_cells (hel 6 (by decide)) e6.symm
    rw [chunks cs hl (fun i => (cs.drop (i * 3)).take 3) (fun _ _ => rfl)]
    rw [k0, k1, k2, k3, k4, k5, k6]
    rfl
end
theorem globs_of_laid {W : World} (h : laidMetH Tryd.prog laidList W) : Globs W := by
  rw [MakeChecks.laidMetH_plain _ _ _ (by kernel_rfl)] at h
  obtain ⟨ps, ⟨g0, t0, cs0, f0, p0, q0, hg0, ht0, hv0, hd0, ⟨g1, t1, cs1, f1, p1, q1, hg1, ht1, hv1, hd1, ⟨g2, t2, cs2, f2, p2, q2, hg2, ht2, hv2, hd2, ⟨g3, t3, cs3, f3, p3, q3, hg3, ht3, hv3, hd3, ⟨g4, t4, cs4, f4, p4, q4, hg4, ht4, hv4, hd4, ⟨g5, t5, cs5, f5, p5, q5, hg5, ht5, hv5, hd5, _, _⟩, _⟩, _⟩, _⟩, _⟩, _⟩, _, _⟩ := h
  obtain rfl := Option.some.inj (tSpans.symm.trans (Option.some.inj (gSpans.symm.trans hg0) ▸ ht0))
  obtain rfl := Option.some.inj (tNeeds.symm.trans (Option.some.inj (gNeeds.symm.trans hg1) ▸ ht1))
  obtain rfl := Option.some.inj (t64.symm.trans (Option.some.inj (g64.symm.trans hg3) ▸ ht3))
  obtain rfl := Option.some.inj (tShort.symm.trans (Option.some.inj (gShort.symm.trans hg5) ▸ ht5))
  have c5 : Tryd.prog.cellsOf 5 = 1 := by kernel_rfl
  have c3 : Tryd.prog.cellsOf 3 = 1 := by kernel_rfl
  have hs := spans_cells hd0
  have hn := Lib.cells_of_tab (zs := [0, 1, 0, 2, 3, 4, 0]) (k := .i64) Tryd.underlying74 Tryd.underlying3 c3 (by kernel_rfl) hd1
  have h6 := Lib.cells_of_tab (zs := [0, 1, 56, 2, 57, 49, 28, 3, 61, 58, 42, 50, 38, 29, 17, 4, 62, 47, 59, 36, 45, 43, 51, 22, 53, 39, 33, 30, 24, 18, 12, 5, 63, 55, 48, 27, 60, 41, 37, 16, 46, 35, 44, 21, 52, 32, 23, 11, 54, 26, 40, 15, 34, 20, 31, 10, 25, 14, 19, 9, 13, 8, 7, 6]) (k := .u8) Tryd.underlying99 Tryd.underlying5 c5 (by kernel_rfl) hd3
  refine ⟨?_, ?_, ?_, ?_⟩
  · rcases open_map Tryd.underlying39 hd5 with ⟨_, hx⟩ | ⟨bm, es, clock, m, rfl, hcs, hb, _, F, hx⟩
    · cases congrArg Prod.fst hx
    · have hx1 := congrArg Prod.fst hx
      have hcell : W.cell? ⟨0, 0, none⟩ = some (.map (some bm)) := by
        have := World.var?_cell gShort hv5 0
        rw [Array.eq_one_of_toList hcs] at this
        simpa using this
      have ho := Go.World.ownsMap_of_fit (k := 5) (R := Go.plainElem (H := Unit) Tryd.prog 5) hb F (fun x _ z hz => Go.elemAt_plainElem_int Tryd.underlying5 hz)
      have hl := Go.length_read (P := Tryd.prog) (k := 5) (R0 := elemAt (fun _ => ()) Tryd.prog W 0 (fun _ => true) false m 5) es
      refine ⟨bm, hcell, ?_⟩
      have e : DataW.map ((es.toList.map (rg Tryd.prog 5 (elemAt (fun _ => ()) Tryd.prog W 0 (fun _ => true) false m 5))).foldr DataW.insert []) = (DataW.map shortL : DataW Unit) := hx1.symm
      have e4 : es.size = 4 := by
        rw [← hl]
        injection e with e
        rw [e]; rfl
      rw [e, e4] at ho
      exact ho
  · obtain ⟨t, fr, hb⟩ := block_of_var gSpans hv0
    exact ⟨t, fr, by rw [hb, show cs0 = spanCells from Array.toList_inj.1 hs]⟩
  · obtain ⟨t, fr, hb⟩ := block_of_var gNeeds hv1
    exact ⟨t, fr, by rw [hb, show cs1 = needCells from Array.toList_inj.1 hn]⟩
  · have h15 := World.var?_cell g64 hv3 15
    rw [h15, ← Array.getElem?_toList, h6]
    rfl
end Go.Proofs.YtflddgoapibleaaDoor.Hand

namespace Go.Proofs.YtflddgoapibleaaDoor.Hand
open Go.ChangeShapes Go.WideShapes Go.ChangeAt Go.RowKit Go.Proofs.YtflddgoapibleaaDoorW.PrintWords
theorem own : ownKnob Tryd.prog.godebug = none := by kernel_rfl
theorem laidOut : laidOutB Tryd.prog = true := by kernel_rfl
theorem one_le {H : Type} (d : DataW H) : 1 ≤ Rows.uptoBulk d := by
  cases d with
  | lit l => cases l <;> simp [Rows.uptoBulk]
  | nil => simp [Rows.uptoBulk]
  | ptr d => simp [Rows.uptoBulk]
  | slice elems spare => simp [Rows.uptoBulk]
  | agg parts => simp [Rows.uptoBulk]
  | iface t d => simp [Rows.uptoBulk]
  | map entries => simp [Rows.uptoBulk]
  | held h => simp [Rows.uptoBulk]
theorem length_le {H : Type} (l : List (DataW H)) : l.length ≤ Rows.uptoBulkAll l := by
  induction l with
  | nil => simp [Rows.uptoBulkAll]
  | cons x r ih => have := one_le x; simp only [Rows.uptoBulkAll, List.length_cons]; omega
theorem bulk_le {H : Type} {l : List (DataW H)} (hk : Rows.uptoSmall H l = true) : Rows.uptoBulkAll l ≤ 1048576 := of_decide_eq_true hk
theorem string_le {H : Type} (s : ByteArray) : s.size ≤ Rows.uptoBulk (DataW.lit (H := H) (.string s.data.toList)) := by
  simp only [Rows.uptoBulk]
  have e : s.data.toList.length = s.size := by rw [Array.length_toList]; rfl
  omega
theorem bytes_open {H : Type} {enc : TypeId × Value → H} {W : World} {base : Nat} {v : Value} {d : DataW H} {p : List MemPlace} (hv : Value.okWide Tryd.prog W .any base 22 v) (h : DataW.Trod enc Tryd.prog W 0 (fun _ => true) true 22 v d p) :
    ∃ A c l, v = .slice A l.length c ∧ ReadsInt W .u8 A l.length l ∧ l.length ≤ c ∧ Bytes l ∧ l.length ≤ Rows.uptoBulk d := by
  obtain ⟨a0, len0, cap0, rfl⟩ := okWide_slice Tryd.underlying22 hv
  obtain ⟨fuel, hf⟩ := h
  rcases open_ints Tryd.underlying22 Tryd.underlying5 (by kernel_rfl) hf with ⟨hcs, hx⟩ | ⟨x, l, c, zs, hcs, _, hl, hm, hz, hx, hcell, hwz⟩
  · simp [Value.cells] at hcs
    obtain ⟨rfl, rfl, rfl⟩ := hcs
    exact ⟨none, 0, [], rfl, ⟨rfl, by simp, fun h => by simp at h⟩, Nat.le_refl _, fun x hx => by simp at hx, Nat.zero_le _⟩
  · simp [Value.cells] at hcs
    obtain ⟨rfl, rfl, rfl⟩ := hcs
    obtain ⟨l, rfl, hr, _, hw, hc⟩ := ReadsInt.ofRowC (k := .u8) (w := W) (a := some x) (len := len0) (cap := cap0) (zs := zs) (.inr ⟨_, rfl, hl, hm, by simpa using hz, hcell, hwz⟩)
    obtain ⟨hx, _⟩ := Prod.mk.inj hx
    refine ⟨some x, cap0, l, rfl, hr, hc, fun y hy => ?_, ?_⟩
    · have := hw y hy
      simp [Lit.wf, IntKind.min, IntKind.max, IntKind.bits, IntKind.signed] at this
      omega
    · rw [hx]
      simp only [Rows.uptoBulk]
      have h1 := length_le (lits (H := H) .u8 (zs.take l.length))
      have h2 : (lits (H := H) .u8 (zs.take l.length)).length = min l.length zs.length := by simp [lits]
      have h3 : l.length ≤ zs.length := by simp at hz; omega
      omega
end Go.Proofs.YtflddgoapibleaaDoor.Hand
