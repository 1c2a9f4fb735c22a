/- Plain lists: Unquote's mirror as a function on lists of bytes: what it refuses, and where; what it makes of Quote's text; of two lists one behind the other. -/
import Derived.Test.YtflddgoapibleaaDoorPlain1
import Derived.Test.YtflddgoapibleaaDoorWalk2
import Derived.Test.YtflddgoapibleaaDoorWalk1
set_option linter.unusedVariables false
set_option linter.unusedSimpArgs false
namespace Go.Proofs.YtflddgoapibleaaDoor.Hand
open Go.RowKit Go.Proofs.YtflddgoapibleaaDoor.Esc Go.Proofs.YtflddgoapibleaaDoorW.PrintWords Go.Proofs.YtflddgoapibleaaDoorW.PrintLast Go.Proofs.YtflddgoapibleaaDoorW.PrintMore

theorem enc_shape (r : Int) (hr : Rune r) (h : 128 ≤ r) : ∃ a m, enc r = a :: m ∧ 194 ≤ a ∧ m ≠ [] ∧ ∀ x ∈ m, 128 ≤ x ∧ x ≤ 191 := by
  have hr' := hr
  unfold Rune at hr'
  by_cases e2 : r < 2048
  · exact ⟨_, _, enc2 r (by omega), by omega, by simp, fun x hx => by simp at hx; omega⟩
  by_cases e3 : r < 65536
  · exact ⟨_, _, enc3 r (by omega) hr, by omega, by simp, fun x hx => by simp at hx; omega⟩
  · exact ⟨_, _, enc4 r (by omega) hr, by omega, by simp, fun x hx => by simp at hx; omega⟩
theorem dec_tail (l : List Int) (h : 128 ≤ l.getD 0 (-1) ∧ l.getD 0 (-1) ≤ 191) : dec l = (65533, 1) := by
  rcases dec_cases l (by omega) with ⟨h1, _⟩ | ⟨_, e⟩ | ⟨r, t, hr, hr1, hl, _⟩
  · omega
  · exact e
  · obtain ⟨a, m, ha, ha1, _⟩ := enc_shape r hr hr1
    rw [hl, ha] at h
    simp at h; omega
theorem cnt_tails : ∀ (m t : List Int), (∀ x ∈ m, 128 ≤ x ∧ x ≤ 191) → cnt (m ++ t) = m.length + cnt t := by
  intro m
  induction m with
  | nil => intro t _; simp
  | cons a m ih =>
    intro t h
    have ha := h a List.mem_cons_self
    have hd := dec_tail (a :: (m ++ t)) ha
    have hc := cnt_cons (a :: (m ++ t)) (by simp)
    rw [hd] at hc
    show cnt (a :: (m ++ t)) = _
    rw [hc]
    simp only [List.drop_succ_cons, List.drop_zero, List.length_cons]
    rw [ih t (fun x hx => h x (List.mem_cons_of_mem _ hx))]
    omega
theorem dec_append_same (a b : List Int) (h : 0 < a.length) (h0 : 0 ≤ a.getD 0 (-1)) :
    dec (a ++ b) = dec a ∨ (∃ r t, Rune r ∧ 128 ≤ r ∧ a ++ b = enc r ++ t ∧ dec (a ++ b) = (r, (enc r).length) ∧ a.length < (enc r).length ∧ dec a = (65533, 1)) := by
  have hg : (a ++ b).getD 0 (-1) = a.getD 0 (-1) := by
    cases a with
    | nil => simp at h
    | cons x t => rfl
  rcases dec_cases (a ++ b) (by rw [hg]; exact h0) with ⟨h1, e⟩ | ⟨h1, e⟩ | ⟨r, t, hr, hr1, hl, e⟩
  · left
    rw [hg] at h1 e
    rcases dec_cases a h0 with ⟨_, e'⟩ | ⟨h2, _⟩ | ⟨r, t, hr, hr1, hl, _⟩
    · rw [e, e']
    · omega
    · obtain ⟨x, m, hx, hx1, _⟩ := enc_shape r hr hr1
      rw [hl, hx] at h1; simp at h1; omega
  · left
    rw [hg] at h1
    rcases dec_cases a h0 with ⟨h2, _⟩ | ⟨_, e'⟩ | ⟨r, t, hr, hr1, hl, _⟩
    · omega
    · rw [e, e']
    · have := dec_enc r hr (t ++ b)
      rw [← List.append_assoc, ← hl, e] at this
      obtain ⟨x, m, hx, _, hm, _⟩ := enc_shape r hr hr1
      have h3 := congrArg Prod.snd this
      rw [hx] at h3
      simp only [List.length_cons] at h3
      exact absurd (List.eq_nil_of_length_eq_zero (by omega)) hm
  · by_cases hlen : a.length < (enc r).length
    · right
      refine ⟨r, t, hr, hr1, hl, e, hlen, ?_⟩
      obtain ⟨x, m, hx, hx1, _⟩ := enc_shape r hr hr1
      have hx0 : a.getD 0 (-1) = x := by rw [← hg, hl, hx]; rfl
      rcases dec_cases a h0 with ⟨h2, _⟩ | ⟨_, e'⟩ | ⟨r', t', hr', hr1', hl', _⟩
      · omega
      · exact e'
      · have h4 := dec_enc r' hr' (t' ++ b)
        rw [← List.append_assoc, ← hl', e] at h4
        have h5 : (enc r).length = (enc r').length := congrArg Prod.snd h4
        have h6 := congrArg List.length hl'
        rw [List.length_append] at h6
        omega
    · left
      have h7 : a = enc r ++ (a.drop (enc r).length) := by
        have h8 : (a ++ b).take (enc r).length = enc r := by rw [hl]; exact List.take_left
        rw [List.take_append_of_le_length (by omega)] at h8
        conv => lhs; rw [← List.take_append_drop (enc r).length a]
        rw [h8]
      rw [e, h7, dec_enc r hr]
theorem pc_same (a b : List Int) (h : 0 < a.length) (hd : dec (a ++ b) = dec a) : pc (a ++ b) = pc a := by
  have hg : (a ++ b).getD 0 (-1) = a.getD 0 (-1) := by
    cases a with
    | nil => simp at h
    | cons x t => rfl
  unfold pc
  rw [hg, hd]
theorem pc_second_u (l : List Int) (r : Int) (t : List Int) (hr : Rune r) (h : 128 ≤ r) (hl : l = enc r ++ t) : (pc l).getD 1 (-1) = 117 := by
  obtain ⟨x, m, hx, hx1, hm, _⟩ := enc_shape r hr h
  have h0 : l.getD 0 (-1) = x := by rw [hl, hx]; rfl
  have hd : dec l = (r, (enc r).length) := by rw [hl]; exact dec_enc r hr t
  have hd2 : ¬ (dec l).2 = 1 := by
    rw [hd, hx]; simp only [List.length_cons]
    intro e; exact hm (List.eq_nil_of_length_eq_zero (by omega))
  unfold pc
  rw [h0, if_neg (by omega), if_neg (by omega), if_neg (by omega), if_neg (by omega), if_neg (by omega), if_neg hd2]
  rfl
theorem pc_second_x (l : List Int) (h : 128 ≤ l.getD 0 (-1)) (hd : dec l = (65533, 1)) : (pc l).getD 1 (-1) = 120 ∧ 2 ≤ (pc l).length := by
  unfold pc
  rw [if_neg (by omega), if_neg (by omega), if_neg (by omega), if_neg (by omega), if_neg (by omega), hd, if_pos rfl]
  exact ⟨rfl, by simp⟩
theorem getD_append_left (a b : List Int) (k : Nat) (h : k < a.length) : (a ++ b).getD k (-1) = a.getD k (-1) := by
  rw [List.getD_eq_getElem?_getD, List.getD_eq_getElem?_getD, List.getElem?_append_left h]
/-- Both, or neither. -/
theorem both_or (a : List Int) : ∀ b, Bytes a → Bytes b →
    (quo (a ++ b) = quo a ++ quo b ∧ cnt (a ++ b) = cnt a + cnt b) ∨ (quo (a ++ b) ≠ quo a ++ quo b ∧ cnt (a ++ b) < cnt a + cnt b) := by
  induction a using steps_ind with
  | h0 => intro b _ _; left; simp [quo_nil, cnt_nil]
  | h1 a h ih =>
    intro b ha hb
    have h0 := head_byte a ha h
    have hab : 0 < (a ++ b).length := by rw [List.length_append]; omega
    have q1 := quo_cons' (a ++ b) hab
    have q2 := quo_cons' a h
    have c1 := cnt_cons (a ++ b) hab
    have c2 := cnt_cons a h
    rcases dec_append_same a b h h0.1 with hd | ⟨r, t, hr, hr1, hl, e, hlen, e'⟩
    · have hle := dec_le a h
      rw [pc_same a b h hd, hd, List.drop_append_of_le_length hle] at q1
      rw [hd, List.drop_append_of_le_length hle] at c1
      rcases ih b (bytes_of_drop ha _) hb with ⟨i1, i2⟩ | ⟨i1, i2⟩
      · left
        refine ⟨?_, by omega⟩
        rw [q1, q2, i1, List.append_assoc]
      · right
        refine ⟨?_, by omega⟩
        rw [q1, q2, List.append_assoc]
        intro hq
        exact i1 (List.append_cancel_left hq)
    · right
      obtain ⟨x, m, hx, hx1, hm, hc⟩ := enc_shape r hr hr1
      have hx0 : a.getD 0 (-1) = x := by
        have : (a ++ b).getD 0 (-1) = a.getD 0 (-1) := getD_append_left a b 0 h
        rw [← this, hl, hx]; rfl
      constructor
      · intro hq
        have p1 := pc_second_u (a ++ b) r t hr hr1 hl
        have p2 := pc_second_x a (by omega) e'
        have hpl : 2 ≤ (pc (a ++ b)).length := by
          rcases Nat.lt_or_ge (pc (a ++ b)).length 2 with h2 | h2
          · rw [List.getD_eq_getElem?_getD, List.getElem?_eq_none (by omega)] at p1; simp at p1
          · exact h2
        have g1 : (quo (a ++ b)).getD 1 (-1) = 117 := by rw [q1, getD_append_left _ _ 1 (by omega)]; exact p1
        have g2 : (quo a ++ quo b).getD 1 (-1) = 120 := by rw [q2, List.append_assoc, getD_append_left _ _ 1 (by omega)]; exact p2.1
        rw [hq, g2] at g1
        exact absurd g1 (by decide)
      · rw [e, hl, List.drop_left] at c1
        -- a is a proper head of the encoding
        have ha1 : a = x :: m.take (a.length - 1) := by
          have h8 : (a ++ b).take a.length = a := List.take_left
          rw [hl, List.take_append_of_le_length (by omega), hx] at h8
          obtain ⟨k, hk⟩ : ∃ k, a.length = k + 1 := ⟨a.length - 1, by omega⟩
          rw [hk, List.take_succ_cons] at h8
          rw [hk]; exact h8.symm
        have hb1 : b = m.drop (a.length - 1) ++ t := by
          have h8 : (a ++ b).drop a.length = b := List.drop_left
          rw [hl, List.drop_append_of_le_length (by omega), hx] at h8
          obtain ⟨k, hk⟩ : ∃ k, a.length = k + 1 := ⟨a.length - 1, by omega⟩
          rw [hk, List.drop_succ_cons] at h8
          rw [hk]; exact h8.symm
        have hca : cnt (a.drop 1) = a.length - 1 := by
          rw [ha1]
          simp only [List.drop_succ_cons, List.drop_zero, List.length_cons]
          have := cnt_tails (m.take (a.length - 1)) [] (fun y hy => hc y (List.mem_of_mem_take hy))
          rw [List.append_nil, cnt_nil] at this
          rw [this]; omega
        have hcb : cnt b = (m.length - (a.length - 1)) + cnt t := by
          rw [hb1, cnt_tails _ _ (fun y hy => hc y (List.mem_of_mem_drop hy)), List.length_drop]
        rw [e', hca] at c2
        rw [hx] at hlen
        simp only [List.length_cons] at hlen
        rw [hl]
        omega
end Go.Proofs.YtflddgoapibleaaDoor.Hand

namespace Go.Proofs.YtflddgoapibleaaDoor.Hand
open Go.RowKit Go.Proofs.YtflddgoapibleaaDoor.Esc Go.Proofs.YtflddgoapibleaaDoorW.PrintWords Go.Proofs.YtflddgoapibleaaDoorW.PrintLast Go.Proofs.YtflddgoapibleaaDoorW.PrintMore

theorem need_f (a : Int) (h : 0 ≤ a ∧ a ≤ 255) : octet_Need.f a = some (needI a) := by unfold octet_Need.f; rw [if_pos h]
theorem class_f (a : Int) (h : 0 ≤ a ∧ a ≤ 255) : octet_Class.f a = some (classI a) := by unfold octet_Class.f; rw [if_pos h]
theorem class_tail (a : Int) : classI a = 2 ↔ cont a = true := by
  rw [cont_range]; unfold classI
  repeat' split
  all_goals omega
theorem second_f (a b : Int) (ha : 0 ≤ a ∧ a ≤ 255) (hn : 194 ≤ a ∧ a ≤ 244) (hc : cont b = true) : octet_Second.f a b = some (second a b) := by
  rw [cont_range] at hc
  have hs : ∀ p : Prop, [Decidable p] → (p ↔ ((a = 224 → 160 ≤ b) ∧ (a = 237 → b ≤ 159) ∧ (a = 240 → 144 ≤ b) ∧ (a = 244 → b ≤ 143))) → decide p = second a b := fun p _ hp => by
    unfold second; exact decide_eq_decide.2 hp
  unfold octet_Second.f octet_second.f
  have hneed : needI a > 1 := by unfold needI; repeat' split
                                 all_goals omega
  by_cases e1 : a = 224
  · rw [if_pos e1]; simp only [Option.bind_some]
    split
    · exact congrArg some (hs _ (by omega))
    · exact congrArg some (by rw [← hs False ⟨False.elim, fun h => by have := h.1 e1; omega⟩]; rfl)
  rw [if_neg e1]
  by_cases e2 : a = 237
  · rw [if_pos e2]; simp only [Option.bind_some]
    split
    · exact congrArg some (hs _ (by omega))
    · omega
  rw [if_neg e2]
  by_cases e3 : a = 240
  · rw [if_pos e3]; simp only [Option.bind_some]
    split
    · exact congrArg some (hs _ (by omega))
    · exact congrArg some (by rw [← hs False ⟨False.elim, fun h => by have := h.2.2.1 e3; omega⟩]; rfl)
  rw [if_neg e3]
  by_cases e4 : a = 244
  · rw [if_pos e4]; simp only [Option.bind_some]
    split
    · exact congrArg some (hs _ (by omega))
    · omega
  rw [if_neg e4]
  · rw [need_f a ha]
    simp only [Option.bind_some]
    rw [if_pos hneed]
    simp only [Option.bind_some]
    rw [if_pos (by omega)]
    exact congrArg some (hs _ (by omega))
/-- Are the bytes from i on tails, the first as the lead asks? -/
def wholeTail (a : Int) (i : Nat) (m : List Int) : Bool := (m.drop i).all cont && (i != 0 || m.isEmpty || second a (m.getD 0 0))
/-- The loop behind the first byte. -/
theorem whole_loop (x0 : List Int) (h0 : 0 < x0.length) (ha : 0 ≤ rd x0 0 ∧ rd x0 0 ≤ 255) (hn : 194 ≤ rd x0 0 ∧ rd x0 0 ≤ 244) : ∀ (n k i : Nat) (m : List Int), Bytes m → m.length ≤ 8 → i + n = m.length → n < k →
    octet_Whole.l0 k x0 m (m.length : Int) (i : Int) = some (wholeTail (rd x0 0) i m) := by
  intro n
  induction n with
  | zero =>
    intro k i m hb hl hi hk
    obtain ⟨k, rfl⟩ : ∃ k', k = k' + 1 := ⟨k - 1, by omega⟩
    rw [octet_Whole.l0, if_neg (by omega)]
    unfold wholeTail
    rw [List.drop_eq_nil_of_le (by omega)]
    rcases Nat.eq_zero_or_pos i with rfl | h1
    · rw [List.eq_nil_of_length_eq_zero (show m.length = 0 by omega)]; rfl
    · have : (i != 0) = true := bne_iff_ne.2 (by omega)
      rw [this]; rfl
  | succ n ih =>
    intro k i m hb hl hi hk
    obtain ⟨k, rfl⟩ : ∃ k', k = k' + 1 := ⟨k - 1, by omega⟩
    have hlt : i < m.length := by omega
    have hrd : rd m (i : Int) = m.getD i 0 := by unfold rd; rw [show ((i : Int)).toNat = i by omega]
    have hmi : m.getD i 0 = m[i] := by rw [List.getD_eq_getElem?_getD, List.getElem?_eq_getElem hlt]; rfl
    have hx := hb (m[i]) (List.getElem_mem hlt)
    rw [← hmi] at hx
    have hdrop : m.drop i = m.getD i 0 :: m.drop (i + 1) := by rw [hmi]; exact List.drop_eq_getElem_cons hlt
    have hne : m.isEmpty = false := by
      cases m with
      | nil => simp at hlt
      | cons => rfl
    rw [octet_Whole.l0, if_pos (by omega), if_pos (by omega), if_pos (by omega), hrd, class_f _ hx]
    simp only [Option.bind_some]
    by_cases hc : cont (m.getD i 0) = true
    · rw [if_pos ((class_tail _).2 hc)]
      have hnext := ih k (i + 1) m hb hl (by omega) (by omega)
      rw [show ((i + 1 : Nat) : Int) = (i : Int) + 1 by omega] at hnext
      have hw1 : wholeTail (rd x0 0) (i + 1) m = (m.drop (i + 1)).all cont := by
        unfold wholeTail
        have : (i + 1 != 0) = true := bne_iff_ne.2 (by omega)
        rw [this]; simp
      by_cases h1 : i = 0
      · subst h1
        rw [if_pos (by omega), if_pos (by omega), second_f _ _ ha hn hc]
        simp only [Option.bind_some]
        have hw0 : wholeTail (rd x0 0) 0 m = ((m.drop 1).all cont && second (rd x0 0) (m.getD 0 0)) := by
          unfold wholeTail
          rw [hdrop, hne, List.all_cons, hc]; simp
        by_cases hs : second (rd x0 0) (m.getD 0 0) = true
        · rw [if_pos hs, w64 _ (by omega) (by omega), hnext, hw1, hw0, hs, Bool.and_true]
        · rw [if_neg hs, hw0, Bool.eq_false_iff.2 hs, Bool.and_false]
      · have hwi : wholeTail (rd x0 0) i m = (m.drop (i + 1)).all cont := by
          unfold wholeTail
          have : (i != 0) = true := bne_iff_ne.2 h1
          rw [this, hdrop, List.all_cons, hc]; simp
        rw [if_neg (by omega), w64 _ (by omega) (by omega), hnext, hw1, hwi]
    · rw [if_neg (fun h => hc ((class_tail _).1 h))]
      unfold wholeTail
      rw [hdrop, List.all_cons, Bool.eq_false_iff.2 hc]; rfl
theorem dec_two (a b : Int) (m : List Int) (h : 194 ≤ a ∧ a ≤ 223) : (dec (a :: b :: m)).2 = if cont b = true then 2 else 1 := by
  rw [dec_eq4]; unfold dec4
  simp only [List.getD_cons_zero, List.getD_cons_succ]
  rw [if_neg (by omega)]
  by_cases c : cont b = true
  · rw [if_pos ⟨h.1, h.2, c⟩, if_pos c]
  · rw [if_neg (fun hh => c hh.2.2), if_neg (by omega), if_neg (by omega), if_neg c]
theorem dec_three (a b c : Int) (m : List Int) (h : 224 ≤ a ∧ a ≤ 239) : (dec (a :: b :: c :: m)).2 = if cont b = true ∧ cont c = true ∧ second a b = true then 3 else 1 := by
  rw [dec_eq4]; unfold dec4
  simp only [List.getD_cons_zero, List.getD_cons_succ]
  rw [if_neg (by omega), if_neg (by omega)]
  by_cases hc : cont b = true ∧ cont c = true ∧ second a b = true
  · rw [if_pos ⟨h.1, h.2, hc⟩, if_pos hc]
  · rw [if_neg (fun hh => hc hh.2.2), if_neg (by omega), if_neg hc]
theorem dec_four (a b c d : Int) (m : List Int) (h : 240 ≤ a ∧ a ≤ 244) : (dec (a :: b :: c :: d :: m)).2 = if cont b = true ∧ cont c = true ∧ cont d = true ∧ second a b = true then 4 else 1 := by
  rw [dec_eq4]; unfold dec4
  simp only [List.getD_cons_zero, List.getD_cons_succ]
  rw [if_neg (by omega), if_neg (by omega), if_neg (by omega)]
  by_cases hc : cont b = true ∧ cont c = true ∧ cont d = true ∧ second a b = true
  · rw [if_pos ⟨h.1, h.2, hc⟩, if_pos hc]
  · rw [if_neg (fun hh => hc hh.2.2), if_neg hc]
theorem second_two (a b : Int) (h : 194 ≤ a ∧ a ≤ 223) : second a b = true := by unfold second; rw [decide_eq_true_eq]; omega
theorem needI_cases (a : Int) (h : needI a > 1) : (194 ≤ a ∧ a ≤ 223 ∧ needI a = 2) ∨ (224 ≤ a ∧ a ≤ 239 ∧ needI a = 3) ∨ (240 ≤ a ∧ a ≤ 244 ∧ needI a = 4) := by
  unfold needI at *
  repeat' split at h
  all_goals first | omega | (simp only [*, if_true, if_false] at *; omega)
/-- A whole encoding at the head: the lead asks for so many bytes, they are there, and they are tails. -/
theorem dec_iff (a : Int) (m : List Int) (h0 : 0 ≤ a) : (dec (a :: m)).2 ≠ 1 ↔ needI a > 1 ∧ needI a ≤ m.length + 1 ∧ wholeTail a 0 (m.take (needI a - 1).toNat) = true := by
  have wt : ∀ (b : Int) (m : List Int), wholeTail a 0 (b :: m) = (cont b && m.all cont && second a b) := fun b m => by
    unfold wholeTail; simp
  constructor
  · intro h
    rcases dec_cases (a :: m) h0 with ⟨_, e⟩ | ⟨_, e⟩ | ⟨r, t, hr, hr1, hl, e⟩
    · rw [e] at h; exact absurd rfl h
    · rw [e] at h; exact absurd rfl h
    · have hr' := hr
      unfold Rune at hr'
      by_cases e2 : r < 2048
      · have he := enc2 r (by omega)
        rw [he] at hl
        injection hl with h1 h2
        have hn : needI a = 2 := by unfold needI; rw [if_neg (by omega), if_neg (by omega), if_pos (by omega)]
        have hm : m.take (needI a - 1).toNat = [128 + r % 64] := by rw [hn, h2]; rfl
        rw [hm, wt]
        have c1 : cont (128 + r % 64) = true := (cont_range _).2 (by omega)
        have := second_two a (128 + r % 64) (by omega)
        rw [c1, this]
        refine ⟨by omega, ?_, rfl⟩
        rw [h2]; simp; omega
      by_cases e3 : r < 65536
      · have he := enc3 r (by omega) hr
        rw [he] at hl
        injection hl with h1 h2
        have hn : needI a = 3 := by unfold needI; rw [if_neg (by omega), if_neg (by omega), if_neg (by omega), if_pos (by omega)]
        have hm : m.take (needI a - 1).toNat = [128 + r / 64 % 64, 128 + r % 64] := by rw [hn, h2]; rfl
        rw [hm, wt]
        have c1 : cont (128 + r % 64) = true := (cont_range _).2 (by omega)
        have c2 : cont (128 + r / 64 % 64) = true := (cont_range _).2 (by omega)
        have c3 : second a (128 + r / 64 % 64) = true := by unfold second; rw [decide_eq_true_eq]; refine ⟨?_, ?_, ?_, ?_⟩ <;> intro <;> omega
        rw [c2, c3]
        refine ⟨by omega, ?_, by simp [c1]⟩
        rw [h2]; simp; omega
      · have he := enc4 r (by omega) hr
        rw [he] at hl
        injection hl with h1 h2
        have hn : needI a = 4 := by unfold needI; rw [if_neg (by omega), if_neg (by omega), if_neg (by omega), if_neg (by omega), if_pos (by omega)]
        have hm : m.take (needI a - 1).toNat = [128 + r / 4096 % 64, 128 + r / 64 % 64, 128 + r % 64] := by rw [hn, h2]; rfl
        rw [hm, wt]
        have c1 : cont (128 + r % 64) = true := (cont_range _).2 (by omega)
        have c2 : cont (128 + r / 64 % 64) = true := (cont_range _).2 (by omega)
        have c4 : cont (128 + r / 4096 % 64) = true := (cont_range _).2 (by omega)
        have c3 : second a (128 + r / 4096 % 64) = true := by unfold second; rw [decide_eq_true_eq]; refine ⟨?_, ?_, ?_, ?_⟩ <;> intro <;> omega
        rw [c4, c3]
        refine ⟨by omega, ?_, by simp [c1, c2]⟩
        rw [h2]; simp; omega
  · rintro ⟨hn, hlen, hw⟩
    rcases needI_cases a hn with ⟨h1, h2, h3⟩ | ⟨h1, h2, h3⟩ | ⟨h1, h2, h3⟩
    · rw [h3] at hlen hw
      match m, hlen with
      | b :: m, _ =>
        have e : (b :: m).take ((2 : Int) - 1).toNat = [b] := rfl
        rw [e, wt] at hw
        simp only [Bool.and_eq_true] at hw
        rw [dec_two a b m ⟨h1, h2⟩, if_pos hw.1.1]; decide
      | [], h => simp at h
    · rw [h3] at hlen hw
      match m, hlen with
      | b :: c :: m, _ =>
        have e : (b :: c :: m).take ((3 : Int) - 1).toNat = [b, c] := rfl
        rw [e, wt] at hw
        simp only [Bool.and_eq_true, List.all_cons, List.all_nil, and_true] at hw
        rw [dec_three a b c m ⟨h1, h2⟩, if_pos ⟨hw.1.1, hw.1.2, hw.2⟩]; decide
      | [], h => simp at h
      | [b], h => simp at h
    · rw [h3] at hlen hw
      match m, hlen with
      | b :: c :: d :: m, _ =>
        have e : (b :: c :: d :: m).take ((4 : Int) - 1).toNat = [b, c, d] := rfl
        rw [e, wt] at hw
        simp only [Bool.and_eq_true, List.all_cons, List.all_nil, and_true] at hw
        rw [dec_four a b c d m ⟨h1, h2⟩, if_pos ⟨hw.1.1, hw.1.2.1, hw.1.2.2, hw.2⟩]; decide
      | [], h => simp at h
      | [b], h => simp at h
      | [b, c], h => simp at h
/-- octet.Whole of a window that is as long as its lead asks. -/
theorem whole_f (k : Nat) (a : Int) (m : List Int) (hb : Bytes (a :: m)) (hn : needI a > 1) (hl : needI a = m.length + 1) (hk : 8 < k) : octet_Whole.f k (a :: m) = some (wholeTail a 0 m) := by
  have ha := hb a List.mem_cons_self
  have hc := needI_cases a hn
  obtain ⟨k, rfl⟩ : ∃ k', k = k' + 1 := ⟨k - 1, by omega⟩
  unfold octet_Whole.f
  have hrd : rd (a :: m) 0 = a := rfl
  rw [if_neg (by simp only [List.length_cons]; omega), if_pos (by simp only [List.length_cons]; omega), hrd, need_f a ha]
  simp only [Option.bind_some]
  have hb2 : (needI a != ((a :: m).length : Int)) = false := bne_eq_false_iff_eq.2 (by simp only [List.length_cons]; omega)
  rw [hb2, octet_Whole.j0, if_neg (by simp), if_pos (by simp only [List.length_cons]; omega)]
  have h8 : m.length ≤ 8 := by omega
  have := whole_loop (a :: m) (by simp) (by rw [hrd]; exact ha) (by rw [hrd]; omega) m.length k 0 m (fun x hx => hb x (List.mem_cons_of_mem _ hx)) h8 (by omega) (by omega)
  rw [hrd] at this
  exact this
/-- The place of the first of the single bytes that begins a whole encoding of them alone; -1: none does. -/
def joinL : List Int → List Int → Int
  | b :: bl, s :: ss => if (dec (b :: bl)).2 ≠ 1 then s else joinL bl ss
  | _, _ => -1
theorem joins_loop (x1 bl : List Int) (hb : Bytes bl) (hl : x1.length = bl.length) (h64 : bl.length ≤ 1073741824) : ∀ (n k i : Nat), i + n = bl.length → n + 10 < k →
    escape_joins.l0 k x1 bl (bl.length : Int) (i : Int) = some (joinL (bl.drop i) (x1.drop i)) := by
  intro n
  induction n with
  | zero =>
    intro k i hi hk
    obtain ⟨k, rfl⟩ : ∃ k', k = k' + 1 := ⟨k - 1, by omega⟩
    rw [escape_joins.l0, if_neg (by omega), List.drop_eq_nil_of_le (by omega)]
    rfl
  | succ n ih =>
    intro k i hi hk
    obtain ⟨k, rfl⟩ : ∃ k', k = k' + 1 := ⟨k - 1, by omega⟩
    have hlt : i < bl.length := by omega
    have hlt2 : i < x1.length := by omega
    have hx := hb (bl[i]) (List.getElem_mem hlt)
    have hrd : rd bl (i : Int) = bl[i] := by
      unfold rd; rw [show ((i : Int)).toNat = i by omega, List.getD_eq_getElem?_getD, List.getElem?_eq_getElem hlt]; rfl
    have hrd1 : rd x1 (i : Int) = x1[i] := by
      unfold rd; rw [show ((i : Int)).toNat = i by omega, List.getD_eq_getElem?_getD, List.getElem?_eq_getElem hlt2]; rfl
    have hnext := ih k (i + 1) (by omega) (by omega)
    rw [show ((i + 1 : Nat) : Int) = (i : Int) + 1 by omega] at hnext
    have hd1 : bl.drop i = bl[i] :: bl.drop (i + 1) := List.drop_eq_getElem_cons hlt
    have hd2 : x1.drop i = x1[i] :: x1.drop (i + 1) := List.drop_eq_getElem_cons hlt2
    rw [escape_joins.l0, if_pos (by omega), if_pos (by omega), if_pos (by omega), hrd, need_f _ hx]
    simp only [Option.bind_some]
    have hiff := dec_iff (bl[i]) (bl.drop (i + 1)) hx.1
    rw [List.length_drop] at hiff
    rw [hd1, hd2, joinL]
    by_cases hn : needI bl[i] > 1
    · rw [if_pos hn]
      have hc := needI_cases _ hn
      rw [w64 ((i : Int) + needI bl[i]) (by omega) (by omega)]
      by_cases hle : (i : Int) + needI bl[i] ≤ (bl.length : Int)
      · rw [if_pos hle, if_pos (by omega)]
        have hwin : (bl.take ((i : Int) + needI bl[i]).toNat).drop ((i : Int)).toNat = bl[i] :: (bl.drop (i + 1)).take (needI bl[i] - 1).toNat := by
          rw [show ((i : Int)).toNat = i by omega, List.drop_take, hd1, show ((i : Int) + needI bl[i]).toNat - i = (needI bl[i] - 1).toNat + 1 by omega, List.take_succ_cons]
        have hwl : needI bl[i] = ((bl.drop (i + 1)).take (needI bl[i] - 1).toNat).length + 1 := by
          rw [List.length_take, List.length_drop]; omega
        rw [hwin, whole_f k _ _ (fun x hx2 => by
          rcases List.mem_cons.1 hx2 with rfl | h
          · exact hx
          · exact hb x (List.mem_of_mem_drop (List.mem_of_mem_take h))) hn hwl (by omega)]
        simp only [Option.bind_some]
        by_cases hw : wholeTail bl[i] 0 ((bl.drop (i + 1)).take (needI bl[i] - 1).toNat) = true
        · rw [if_pos hw, if_pos (by omega), hrd1, if_pos (hiff.2 ⟨hn, by omega, hw⟩)]
        · rw [if_neg hw, if_neg (fun h => hw (hiff.1 h).2.2), w64 _ (by omega) (by omega), hnext]
      · rw [if_neg hle, if_neg (fun h => hle (by have := (hiff.1 h).2.1; omega)), w64 _ (by omega) (by omega), hnext]
    · rw [if_neg hn, if_neg (fun h => hn (hiff.1 h).1), w64 _ (by omega) (by omega), hnext]
theorem joins_f (k : Nat) (out sing : List Int) (hb : Bytes out) (hl : sing.length ≤ out.length) (h64 : out.length ≤ 1073741824) (hk : sing.length + 10 < k) :
    escape_joins.f k out sing = some (joinL (out.drop (out.length - sing.length)) sing) := by
  unfold escape_joins.f
  rw [w64 _ (by omega) (by omega), if_pos (by omega), if_pos (by omega)]
  have e : ((out.length : Int) - (sing.length : Int)).toNat = out.length - sing.length := by omega
  rw [e]
  have hlen : (out.drop (out.length - sing.length)).length = sing.length := by rw [List.length_drop]; omega
  have := joins_loop sing (out.drop (out.length - sing.length)) (bytes_of_drop hb _) hlen.symm (by omega) (out.drop (out.length - sing.length)).length k 0 (by omega) (by omega)
  rw [show ((0 : Nat) : Int) = 0 from rfl, List.drop_zero, List.drop_zero] at this
  exact this
end Go.Proofs.YtflddgoapibleaaDoor.Hand

namespace Go.Proofs.YtflddgoapibleaaDoor.Hand
open Go.RowKit Go.Proofs.YtflddgoapibleaaDoor.Esc Go.Proofs.YtflddgoapibleaaDoorW.PrintWords Go.Proofs.YtflddgoapibleaaDoorW.PrintLast Go.Proofs.YtflddgoapibleaaDoorW.PrintMore

def numOf (n : Int) (ds : List Int) : Int := ds.foldl (fun n c => 16 * n + dig c) n
theorem brN_spec : ∀ (f : Nat) (n : Int) (i : Nat) (t : List Int), ∃ ds, t = ds ++ (brN f n i t).2.2 ∧ (brN f n i t).2.1 = i + ds.length ∧ ds.length ≤ f ∧ (∀ x ∈ ds, 0 ≤ dig x) ∧ (brN f n i t).1 = numOf n ds ∧ (ds.length < f → ∀ c u, (brN f n i t).2.2 = c :: u → ¬ 0 ≤ dig c) := by
  intro f
  induction f with
  | zero => intro n i t; exact ⟨[], rfl, rfl, Nat.le_refl _, fun x hx => by simp at hx, rfl, fun h => by simp at h⟩
  | succ f ih =>
    intro n i t
    cases t with
    | nil => exact ⟨[], rfl, rfl, Nat.zero_le _, fun x hx => by simp at hx, rfl, fun _ c u h => by cases h⟩
    | cons c t =>
      by_cases h : 0 ≤ dig c
      · rw [brN, if_pos h]
        obtain ⟨ds, h1, h2, h3, h4, h5, h6⟩ := ih (16 * n + dig c) (i + 1) t
        refine ⟨c :: ds, by rw [List.cons_append, ← h1], by rw [h2]; simp only [List.length_cons]; omega, by simp only [List.length_cons]; omega, fun x hx => ?_, h5, fun h => h6 (by simp only [List.length_cons] at h; omega)⟩
        rcases List.mem_cons.1 hx with rfl | hx
        · exact h
        · exact h4 x hx
      · rw [brN, if_neg h]
        exact ⟨[], rfl, rfl, Nat.zero_le _, fun x hx => by simp at hx, rfl, fun _ c' u e => by cases e; exact h⟩
theorem dig_range' (c : Int) : -1 ≤ dig c ∧ dig c ≤ 15 := by
  unfold dig
  split
  · omega
  split <;> omega
theorem enc_len (r : Int) (hr : Rune r) : 1 ≤ (enc r).length ∧ (enc r).length ≤ 4 := by
  have hr' := hr
  unfold Rune at hr'
  by_cases e1 : r < 128
  · rw [enc1 r (by omega)]; simp
  by_cases e2 : r < 2048
  · rw [enc2 r (by omega)]; simp
  by_cases e3 : r < 65536
  · rw [enc3 r (by omega) hr]; simp
  · rw [enc4 r (by omega) hr]; simp
theorem enc_bytes (r : Int) (hr : Rune r) : Bytes (enc r) := by
  have hr' := hr
  unfold Rune at hr'
  intro x hx
  by_cases e1 : r < 128
  · rw [enc1 r (by omega)] at hx; simp at hx; omega
  by_cases e2 : r < 2048
  · rw [enc2 r (by omega)] at hx; simp at hx; omega
  by_cases e3 : r < 65536
  · rw [enc3 r (by omega) hr] at hx; simp at hx; omega
  · rw [enc4 r (by omega) hr] at hx; simp at hx; omega
/-- What a piece is: none; a printable byte; a letter; two digits; a rune between braces. -/
inductive IsPiece : List Int → List Int → Int → Prop
  | plain (c : Int) (t : List Int) (h : 32 ≤ c ∧ c ≤ 126) (hn : c ≠ 92) : IsPiece (c :: t) [c] 1
  | letter (x k : Int) (t : List Int) (h : (k = 92 ∧ x = 92) ∨ (k = 110 ∧ x = 10) ∨ (k = 114 ∧ x = 13) ∨ (k = 116 ∧ x = 9)) : IsPiece (92 :: k :: t) [x] 2
  | hex (a b : Int) (t : List Int) (ha : 0 ≤ dig a) (hb : 0 ≤ dig b) (h : ¬ (16 * dig a + dig b = 9 ∨ 16 * dig a + dig b = 10 ∨ 16 * dig a + dig b = 13 ∨ (32 ≤ 16 * dig a + dig b ∧ 16 * dig a + dig b ≤ 126))) : IsPiece (92 :: 120 :: a :: b :: t) [16 * dig a + dig b] 4
  | rune (ds t : List Int) (r : Int) (h1 : 1 ≤ ds.length) (h6 : ds.length ≤ 6) (hd : ∀ x ∈ ds, 0 ≤ dig x) (h0 : ds.getD 0 (-1) ≠ 48) (hr : r = numOf 0 ds) (h128 : 128 ≤ r) (hR : Rune r) : IsPiece (92 :: 117 :: 123 :: (ds ++ 125 :: t)) (enc r) ((ds.length : Int) + 4)
theorem head_is {t : List Int} {a : Int} (h0 : 0 ≤ a) (h : t.getD 0 (-1) = a) : ∃ u, t = a :: u := by
  cases t with
  | nil => simp at h; omega
  | cons x u => exact ⟨u, by rw [← h]; rfl⟩
theorem piece_is (t : List Int) : pieceL t = ([], 0) ∨ IsPiece t (pieceL t).1 (pieceL t).2 := by
  by_cases c0 : t.getD 0 (-1) = 92
  · obtain ⟨u, rfl⟩ := head_is (by decide) c0
    have hk : (92 :: u : List Int).getD 1 (-1) = u.getD 0 (-1) := rfl
    by_cases k1 : u.getD 0 (-1) = 92
    · obtain ⟨v, rfl⟩ := head_is (by decide) k1
      right; exact .letter 92 92 v (.inl ⟨rfl, rfl⟩)
    by_cases k2 : u.getD 0 (-1) = 110
    · obtain ⟨v, rfl⟩ := head_is (by decide) k2
      right; exact .letter 10 110 v (.inr (.inl ⟨rfl, rfl⟩))
    by_cases k3 : u.getD 0 (-1) = 114
    · obtain ⟨v, rfl⟩ := head_is (by decide) k3
      right; exact .letter 13 114 v (.inr (.inr (.inl ⟨rfl, rfl⟩)))
    by_cases k4 : u.getD 0 (-1) = 116
    · obtain ⟨v, rfl⟩ := head_is (by decide) k4
      right; exact .letter 9 116 v (.inr (.inr (.inr ⟨rfl, rfl⟩)))
    by_cases k5 : u.getD 0 (-1) = 120
    · obtain ⟨v, rfl⟩ := head_is (by decide) k5
      have e : pieceL (92 :: 120 :: v) = byTwo (v.getD 0 (-1)) (v.getD 1 (-1)) := rfl
      rw [e]
      unfold byTwo
      by_cases hd : 0 ≤ dig (v.getD 0 (-1)) ∧ 0 ≤ dig (v.getD 1 (-1))
      · rw [if_pos hd]
        simp only
        split
        · exact .inl rfl
        · rename_i hn
          right
          have hdn : dig (-1) = -1 := by decide
          match v, hd, hn with
          | a :: b :: w, hd, hn => exact .hex a b w hd.1 hd.2 hn
          | [a], hd, _ => exact absurd hd.2 (by show ¬ 0 ≤ dig (-1); rw [hdn]; decide)
          | [], hd, _ => exact absurd hd.1 (by show ¬ 0 ≤ dig (-1); rw [hdn]; decide)
      · rw [if_neg hd]; exact .inl rfl
    by_cases k6 : u.getD 0 (-1) = 117
    · obtain ⟨v, rfl⟩ := head_is (by decide) k6
      have e : pieceL (92 :: 117 :: v) = byRune (92 :: 117 :: v) := rfl
      rw [e]
      unfold byRune
      simp only
      split
      · rename_i h
        right
        obtain ⟨h2, h3, h4, h5, h6, h7, h8⟩ := h
        have h2' : v.getD 0 (-1) = 123 := h2
        obtain ⟨w, rfl⟩ := head_is (by decide) h2'
        have ed : (92 :: 117 :: 123 :: w : List Int).drop 3 = w := rfl
        rw [ed] at h3 h5 h6 h7 h8 ⊢
        have e4 : (92 :: 117 :: 123 :: w : List Int).getD 3 (-1) = w.getD 0 (-1) := rfl
        rw [e4] at h4
        obtain ⟨ds, s1, s2, s3, s4, s5, _⟩ := brN_spec 6 0 3 w
        obtain ⟨t', ht'⟩ := head_is (by decide) h5
        rw [ht'] at s1
        have hl : 1 ≤ ds.length := by omega
        have h40 : ds.getD 0 (-1) ≠ 48 := by
          intro hc
          apply h4
          rw [s1]
          cases ds with
          | nil => simp at hl
          | cons d ds => exact hc
        rw [s2]
        have hp := IsPiece.rune ds t' (brN 6 0 3 w).1 hl s3 s4 h40 s5 h6 (by unfold Rune; omega)
        rw [← s1] at hp
        have e5 : ((3 + ds.length : Nat) : Int) + 1 = (ds.length : Int) + 4 := by omega
        rw [e5]
        exact hp
      · exact .inl rfl
    · left
      unfold pieceL
      simp only
      rw [if_neg (by rw [c0]; simp), hk, if_neg k1, if_neg k2, if_neg k3, if_neg k4, if_neg k5, if_neg k6]
  · unfold pieceL
    simp only
    rw [if_pos c0]
    by_cases h : 32 ≤ t.getD 0 (-1) ∧ t.getD 0 (-1) ≤ 126
    · rw [if_pos h]
      right
      obtain ⟨u, hu⟩ := head_is (by omega) (rfl : t.getD 0 (-1) = t.getD 0 (-1))
      have := IsPiece.plain (t.getD 0 (-1)) u h c0
      rw [← hu] at this
      exact this
    · rw [if_neg h]; exact .inl rfl
theorem IsPiece.size {t b : List Int} {n : Int} (h : IsPiece t b n) : 1 ≤ n ∧ n ≤ t.length ∧ (b.length : Int) ≤ n ∧ 1 ≤ b.length ∧ Bytes b ∧ (n = 4 → b.length = 1 ∧ t.getD 0 (-1) = 92 ∧ t.getD 1 (-1) = 120) := by
  cases h with
  | plain c t h hn => exact ⟨by decide, by simp; omega, by simp, by simp, fun x hx => by simp at hx; omega, fun h => by omega⟩
  | letter x k t h => exact ⟨by decide, by simp; omega, by simp, by simp, fun x hx => by simp at hx; omega, fun h => by omega⟩
  | hex a b t ha hb h =>
    have h1 := dig_range' a
    have h2 := dig_range' b
    exact ⟨by decide, by simp; omega, by simp, by simp, fun x hx => by simp at hx; omega, fun _ => ⟨rfl, rfl, rfl⟩⟩
  | rune ds t r h1 h6 hd h0 hr h128 hR =>
    have hl := enc_len r hR
    exact ⟨by omega, by simp; omega, by omega, hl.1, enc_bytes r hR, fun h => by omega⟩
end Go.Proofs.YtflddgoapibleaaDoor.Hand

namespace Go.Proofs.YtflddgoapibleaaDoor.Hand
open Go.RowKit Go.Proofs.YtflddgoapibleaaDoor.Esc Go.Proofs.YtflddgoapibleaaDoorW.PrintWords Go.Proofs.YtflddgoapibleaaDoorW.PrintLast Go.Proofs.YtflddgoapibleaaDoorW.PrintMore

/-- Is the piece a byte of 128 or more that is written by two digits? -/
def single (t b : List Int) (n : Int) : Prop := n = 4 ∧ t.getD 0 (-1) = 92 ∧ t.getD 1 (-1) = 120 ∧ 128 ≤ b.getD 0 0
instance (t b : List Int) (n : Int) : Decidable (single t b n) := inferInstanceAs (Decidable (_ ∧ _ ∧ _ ∧ _))
/-- The join's place for what has been read. -/
def joinAt (out sing : List Int) : Int := joinL (out.drop (out.length - sing.length)) sing
/-- Unquote of the text t that is left: out is what has been read, sing the places of the single bytes at its end, at the place. -/
def unqL : Nat → List Int → List Int → Int → List Int → List Int × Int × Int
  | 0, out, _, _, _ => (out, 0, 0)
  | k + 1, out, sing, at_, t =>
    if t = [] then (if 0 ≤ joinAt out sing then ([], joinAt out sing, 230) else (out, 0, 0))
    else if (pieceL t).2 = 0 then (if 0 ≤ joinAt out sing then ([], joinAt out sing, 230) else ([], at_, 230))
    else if single t (pieceL t).1 (pieceL t).2 then unqL k (out ++ (pieceL t).1) (sing ++ [at_]) (at_ + (pieceL t).2) (t.drop (pieceL t).2.toNat)
    else if 0 ≤ joinAt out sing then ([], joinAt out sing, 230) else unqL k (out ++ (pieceL t).1) [] (at_ + (pieceL t).2) (t.drop (pieceL t).2.toNat)
theorem unq_fuel : ∀ (k j : Nat) (out sing : List Int) (a : Int) (t : List Int), t.length < k → t.length < j → unqL k out sing a t = unqL j out sing a t := by
  intro k
  induction k with
  | zero => intro j out sing a t h; omega
  | succ k ih =>
    intro j out sing a t h1 h2
    obtain ⟨j, rfl⟩ : ∃ j', j = j' + 1 := ⟨j - 1, by omega⟩
    rw [unqL, unqL]
    by_cases h0 : t = []
    · rw [if_pos h0, if_pos h0]
    rw [if_neg h0, if_neg h0]
    by_cases hp0 : (pieceL t).2 = 0
    · rw [if_pos hp0, if_pos hp0]
    rw [if_neg hp0, if_neg hp0]
    have hsz := ((piece_is t).resolve_left (fun e => hp0 (by rw [e]))).size
    have hd : ∀ out' sing' a', unqL k out' sing' a' (t.drop (pieceL t).2.toNat) = unqL j out' sing' a' (t.drop (pieceL t).2.toNat) := fun out' sing' a' =>
      ih j out' sing' a' _ (by rw [List.length_drop]; omega) (by rw [List.length_drop]; omega)
    rw [hd, hd]
theorem bytesOf_tail (s : ByteArray) (i : Nat) (h : i ≤ s.size) : bytesOf (s.extract i s.size) = (bytesOf s).drop i := by
  unfold bytesOf
  rw [Lib.extract_data, List.map_take, List.map_drop, List.take_of_length_le]
  rw [List.length_drop, List.length_map, data_length]; omega
theorem piece_f (s : ByteArray) (i : Nat) (h : i ≤ s.size) (hs : s.size ≤ 1073741824) : escape_piece.f (s.extract ((i : Int)).toNat s.size) = some (pieceL ((bytesOf s).drop i)) := by
  unfold escape_piece.f
  rw [show ((i : Int)).toNat = i by omega, if_pos (by rw [ByteArray.size_extract]; omega), bytesOf_tail s i h]
theorem bt_drop (s : ByteArray) (i j : Nat) (h : i + j < s.size) : bt s ((i : Int) + (j : Int)) = ((bytesOf s).drop i).getD j (-1) := by
  rw [get_drop _ i j (by rw [bytesOf_length]; omega), show (i : Int) + (j : Int) = ((i + j : Nat) : Int) by omega, ← bytes_getD s (i + j) h]
  rw [List.getD_eq_getElem?_getD, List.getElem?_eq_getElem (by rw [bytesOf_length]; omega)]; rfl
theorem joins_at (k : Nat) (out sing : List Int) (hb : Bytes out) (hl : sing.length ≤ out.length) (h64 : out.length ≤ 1073741824) (hk : sing.length + 10 < k) : escape_joins.f k out sing = some (joinAt out sing) := joins_f k out sing hb hl h64 hk
set_option maxHeartbeats 1000000 in
theorem unq_loop (s : ByteArray) (hs : s.size ≤ 1073741824) : ∀ (n k i : Nat) (out sing : List Int), i + n = s.size → 2 * n + s.size + 30 < k → out.length ≤ i → sing.length ≤ out.length → Bytes out →
    escape_Unquote.l0 k s out sing (i : Int) = some (unqL (n + 1) out sing (i : Int) ((bytesOf s).drop i)) := by
  intro n
  induction n using Nat.strongRecOn with
  | _ n ih =>
  intro k i out sing hi hk ho hl hb
  obtain ⟨k, rfl⟩ : ∃ k', k = k' + 1 := ⟨k - 1, by omega⟩
  have hj := joins_at k out sing hb hl (by omega) (by omega)
  have hlen : ((bytesOf s).drop i).length = n := by rw [List.length_drop, bytesOf_length]; omega
  rw [escape_Unquote.l0, unqL]
  by_cases h0 : n = 0
  · subst h0
    rw [if_neg (by omega), if_pos (List.eq_nil_of_length_eq_zero hlen), hj]
    simp only [Option.bind_some]
    by_cases hp : 0 ≤ joinAt out sing
    · rw [if_pos hp, if_pos hp]
    · rw [if_neg hp, if_neg hp]
  · have hne : ¬ (bytesOf s).drop i = [] := fun e => h0 (by rw [← hlen, e]; rfl)
    rw [if_pos (by omega), if_pos (by omega), if_pos (by omega), if_neg hne, piece_f s i (by omega) hs]
    simp only [Option.bind_some]
    generalize hT : (bytesOf s).drop i = t at *
    by_cases hp0 : (pieceL t).2 = 0
    · rw [if_pos hp0, if_pos hp0, hj]
      simp only [Option.bind_some]
      by_cases hp : 0 ≤ joinAt out sing
      · rw [if_pos hp, if_pos hp]
      · rw [if_neg hp, if_neg hp]
    · rw [if_neg hp0, if_neg hp0]
      have his : IsPiece t (pieceL t).1 (pieceL t).2 := (piece_is t).resolve_left (fun e => hp0 (by rw [e]))
      obtain ⟨z1, z2, z3, z4, z5, z6⟩ := his.size
      generalize hB : (pieceL t).1 = b at *
      generalize hN : (pieceL t).2 = m at *
      rw [if_pos (by omega)]
      have hob : Bytes (out ++ b) := bytes_append hb z5
      have hnext : ∀ (k' : Nat) (sing' : List Int), 2 * (n - m.toNat) + s.size + 30 < k' → sing'.length ≤ (out ++ b).length → escape_Unquote.l0 k' s (out ++ b) sing' (wrap64 ((i : Int) + m)) = some (unqL n (out ++ b) sing' ((i : Int) + m) (t.drop m.toNat)) := by
        intro k' sing' hk' hl'
        have hm : (i : Int) + m = ((i + m.toNat : Nat) : Int) := by omega
        have h1 := ih (n - m.toNat) (by omega) k' (i + m.toNat) (out ++ b) sing' (by omega) hk' (by rw [List.length_append]; omega) hl' hob
        rw [w64 _ (by omega) (by omega), hm, h1]
        have hd : (bytesOf s).drop (i + m.toNat) = t.drop m.toNat := by rw [← hT, List.drop_drop]
        rw [hd, ← hm]
        exact congrArg some (unq_fuel _ _ _ _ _ _ (by rw [List.length_drop]; omega) (by rw [List.length_drop]; omega))
      have hj1 : ∀ f : Bool, escape_Unquote.j1 k s (out ++ b) sing (i : Int) b m f = some (if f = true then unqL n (out ++ b) (sing ++ [(i : Int)]) ((i : Int) + m) (t.drop m.toNat) else if 0 ≤ joinAt out sing then ([], joinAt out sing, 230) else unqL n (out ++ b) [] ((i : Int) + m) (t.drop m.toNat)) := by
        intro f
        obtain ⟨k2, rfl⟩ : ∃ k', k = k' + 1 := ⟨k - 1, by omega⟩
        rw [escape_Unquote.j1]
        by_cases hf : f = true
        · rw [if_pos hf, if_pos hf, if_pos (by omega)]
          exact hnext k2 _ (by omega) (by simp only [List.length_append, List.length_cons, List.length_nil]; omega)
        · rw [if_neg hf, if_neg hf]
          have hla : ((out ++ b).length : Int) = (out.length : Int) + (b.length : Int) := by rw [List.length_append]; omega
          have hw : wrap64 (((out ++ b).length : Int) - (b.length : Int)) = (out.length : Int) := by rw [hla, w64 _ (by omega) (by omega)]; omega
          have htk : (out ++ b).take ((out.length : Int)).toNat = out := by rw [show ((out.length : Int)).toNat = out.length by omega]; exact List.take_left
          rw [hw, if_pos (by omega), if_pos (by omega), htk, joins_at k2 out sing hb hl (by omega) (by omega)]
          simp only [Option.bind_some]
          by_cases hp : 0 ≤ joinAt out sing
          · rw [if_pos hp, if_pos hp]
          · rw [if_neg hp, if_neg hp, if_pos (by omega)]
            have : sing.take ((0 : Int)).toNat = [] := rfl
            rw [this]
            exact hnext k2 [] (by omega) (by simp)
      have hb0 := bt_drop s i 0 (by omega)
      rw [hT] at hb0
      have hb1 : 4 ≤ m → bt s (wrap64 ((i : Int) + 1)) = t.getD 1 (-1) := fun hm => by
        rw [w64 _ (by omega) (by omega), ← hT]; exact bt_drop s i 1 (by omega)
      have hb0' : bt s (i : Int) = t.getD 0 (-1) := by rw [← hb0]; congr 1
      rw [hb0']
      by_cases c4 : m = 4
      · rw [if_pos c4]
        have hlt : (wrap64 ((i : Int) + 1)) < (s.size : Int) := by rw [w64 _ (by omega) (by omega)]; omega
        have hge : 0 ≤ (wrap64 ((i : Int) + 1)) := by rw [w64 _ (by omega) (by omega)]; omega
        by_cases c92 : t.getD 0 (-1) = 92
        · rw [if_pos c92, if_pos hge, if_pos hlt, hb1 (by omega)]
          by_cases c120 : t.getD 1 (-1) = 120
          · rw [if_pos c120, if_pos (by omega), hj1]
            have hrd : rd b 0 = b.getD 0 0 := rfl
            rw [hrd]
            by_cases c128 : 128 ≤ b.getD 0 0
            · rw [decide_eq_true (show b.getD 0 0 ≥ 128 from c128), if_pos rfl, if_pos (show single t b m from ⟨c4, c92, c120, c128⟩)]
            · rw [decide_eq_false (show ¬ b.getD 0 0 ≥ 128 from c128), if_neg (by simp), if_neg (show ¬ single t b m from fun h => c128 h.2.2.2)]
          · rw [if_neg c120, hj1, if_neg (by simp), if_neg (show ¬ single t b m from fun h => c120 h.2.2.1)]
        · rw [if_neg c92, hj1, if_neg (by simp), if_neg (show ¬ single t b m from fun h => c92 h.2.1)]
      · rw [if_neg c4, hj1, if_neg (by simp), if_neg (show ¬ single t b m from fun h => c4 h.1)]
theorem unq_f (s : ByteArray) (hs : s.size ≤ 1073741824) (k : Nat) (hk : 3 * s.size + 30 < k) : escape_Unquote.f k s = some (unqL (s.size + 1) [] [] 0 (bytesOf s)) := by
  have := unq_loop s hs s.size k 0 [] [] (by omega) (by omega) (Nat.le_refl _) (Nat.le_refl _) (fun x hx => by simp at hx)
  unfold escape_Unquote.f
  simpa using this
end Go.Proofs.YtflddgoapibleaaDoor.Hand

namespace Go.Proofs.YtflddgoapibleaaDoor.Hand
open Go.RowKit Go.Proofs.YtflddgoapibleaaDoor.Esc Go.Proofs.YtflddgoapibleaaDoorW.PrintWords Go.Proofs.YtflddgoapibleaaDoorW.PrintLast Go.Proofs.YtflddgoapibleaaDoorW.PrintMore

theorem joinL_mem : ∀ (bl ss : List Int), joinL bl ss = -1 ∨ joinL bl ss ∈ ss := by
  intro bl
  induction bl with
  | nil => intro ss; left; rfl
  | cons b bl ih =>
    intro ss
    cases ss with
    | nil => left; rfl
    | cons s ss =>
      rw [joinL]
      split
      · right; exact List.mem_cons_self
      · rcases ih ss with h | h
        · left; exact h
        · right; exact List.mem_cons_of_mem _ h
theorem joinL_none : ∀ (bl ss : List Int), (∀ i, i < bl.length → (dec (bl.drop i)).2 = 1) → joinL bl ss = -1 := by
  intro bl
  induction bl with
  | nil => intro ss _; rfl
  | cons b bl ih =>
    intro ss h
    cases ss with
    | nil => rfl
    | cons s ss =>
      rw [joinL, if_neg (fun hn => hn (h 0 (by simp)))]
      exact ih ss (fun i hi => h (i + 1) (by simp; omega))
theorem joinL_neg : ∀ (bl ss : List Int), bl.length = ss.length → (∀ s ∈ ss, 0 ≤ s) → ¬ 0 ≤ joinL bl ss → ∀ i, i < bl.length → (dec (bl.drop i)).2 = 1 := by
  intro bl
  induction bl with
  | nil => intro ss _ _ _ i hi; simp at hi
  | cons b bl ih =>
    intro ss hl h0 hj i hi
    cases ss with
    | nil => simp at hl
    | cons s ss =>
      rw [joinL] at hj
      by_cases hd : (dec (b :: bl)).2 ≠ 1
      · rw [if_pos hd] at hj
        exact absurd (h0 s List.mem_cons_self) hj
      · rw [if_neg hd] at hj
        cases i with
        | zero => exact Decidable.not_not.1 hd
        | succ i => exact ih ss (by simpa using hl) (fun x hx => h0 x (List.mem_cons_of_mem _ hx)) hj i (by simpa using hi)
theorem dig_print (x : Int) (h : 0 ≤ dig x) : 32 ≤ x ∧ x ≤ 126 := by
  unfold dig at h
  split at h
  · omega
  · split at h <;> omega
theorem IsPiece.print {t b : List Int} {n : Int} (h : IsPiece t b n) : Prints (t.take n.toNat) := by
  cases h with
  | plain c t h hn => intro x hx; simp at hx; subst hx; exact h
  | letter x k t h => intro y hy; simp at hy; omega
  | hex a b t ha hb h =>
    have h1 := dig_print a ha
    have h2 := dig_print b hb
    intro y hy; simp at hy; omega
  | rune ds t r h1 h6 hd h0 hr h128 hR =>
    have e : ((ds.length : Int) + 4).toNat = ds.length + 4 := by omega
    have e2 : (92 :: 117 :: 123 :: (ds ++ 125 :: t) : List Int).take (ds.length + 4) = 92 :: 117 :: 123 :: (ds ++ [125]) := by
      rw [show ds.length + 4 = (ds.length + 1) + 1 + 1 + 1 by omega]
      simp only [List.take_succ_cons]
      rw [List.take_append, List.take_of_length_le (by omega), show ds.length + 1 - ds.length = 1 by omega]
      rfl
    rw [e, e2]
    intro y hy
    simp only [List.mem_cons, List.mem_append, List.not_mem_nil, or_false] at hy
    rcases hy with h | h | h | h | h
    · omega
    · omega
    · omega
    · exact dig_print y (hd y h)
    · omega
/-- Unquote answers bytes, or none and a place in the text. -/
theorem unq_shape : ∀ (k : Nat) (out sing : List Int) (a : Int) (t : List Int), t.length < k → 0 ≤ a → (∀ s ∈ sing, 0 ≤ s ∧ s < a) →
    ((unqL k out sing a t).2.1 = 0 ∧ (unqL k out sing a t).2.2 = 0) ∨ ((unqL k out sing a t).1 = [] ∧ 0 ≤ (unqL k out sing a t).2.1 ∧ (unqL k out sing a t).2.1 < a + t.length ∧ (unqL k out sing a t).2.2 = 230) := by
  intro k
  induction k with
  | zero => intro out sing a t h; omega
  | succ k ih =>
    intro out sing a t hk ha hs
    have hj : ∀ x : List Int × Int × Int, x = ([], joinAt out sing, 230) → 0 ≤ joinAt out sing → (x.2.1 = 0 ∧ x.2.2 = 0) ∨ (x.1 = [] ∧ 0 ≤ x.2.1 ∧ x.2.1 < a + t.length ∧ x.2.2 = 230) := by
      rintro x rfl h
      right
      rcases joinL_mem (out.drop (out.length - sing.length)) sing with h1 | h1
      · unfold joinAt at h; omega
      · have := hs _ h1
        refine ⟨rfl, h, ?_, rfl⟩
        show joinAt out sing < _
        unfold joinAt; omega
    rw [unqL]
    by_cases h0 : t = []
    · rw [if_pos h0]
      by_cases hp : 0 ≤ joinAt out sing
      · rw [if_pos hp]; exact hj _ rfl hp
      · rw [if_neg hp]; left; exact ⟨rfl, rfl⟩
    rw [if_neg h0]
    by_cases hp0 : (pieceL t).2 = 0
    · rw [if_pos hp0]
      by_cases hp : 0 ≤ joinAt out sing
      · rw [if_pos hp]; exact hj _ rfl hp
      · rw [if_neg hp]; right
        have : 0 < t.length := by cases t with
          | nil => exact absurd rfl h0
          | cons => simp
        exact ⟨rfl, ha, by show a < _; omega, rfl⟩
    rw [if_neg hp0]
    have hsz := ((piece_is t).resolve_left (fun e => hp0 (by rw [e]))).size
    have hl : (t.drop (pieceL t).2.toNat).length = t.length - (pieceL t).2.toNat := List.length_drop
    by_cases hsg : single t (pieceL t).1 (pieceL t).2
    · rw [if_pos hsg]
      have := ih (out ++ (pieceL t).1) (sing ++ [a]) (a + (pieceL t).2) (t.drop (pieceL t).2.toNat) (by omega) (by omega) (fun s hx => by
        rcases List.mem_append.1 hx with h | h
        · have := hs s h; omega
        · simp at h; omega)
      rcases this with h | ⟨h1, h2, h3, h4⟩
      · exact .inl h
      · exact .inr ⟨h1, h2, by omega, h4⟩
    · rw [if_neg hsg]
      by_cases hp : 0 ≤ joinAt out sing
      · rw [if_pos hp]; exact hj _ rfl hp
      · rw [if_neg hp]
        have := ih (out ++ (pieceL t).1) [] (a + (pieceL t).2) (t.drop (pieceL t).2.toNat) (by omega) (by omega) (fun s hx => by simp at hx)
        rcases this with h | ⟨h1, h2, h3, h4⟩
        · exact .inl h
        · exact .inr ⟨h1, h2, by omega, h4⟩
/-- A text with a byte that cannot be printed is refused there or ahead of it. -/
theorem unq_fault : ∀ (k n : Nat) (out sing : List Int) (a : Int) (t : List Int), t.length < k → 0 ≤ a → (∀ s ∈ sing, 0 ≤ s ∧ s < a) → n < t.length → ¬ (32 ≤ t.getD n (-1) ∧ t.getD n (-1) ≤ 126) →
    ∃ p, unqL k out sing a t = ([], p, 230) ∧ p ≤ a + n := by
  intro k
  induction k with
  | zero => intro n out sing a t h; omega
  | succ k ih =>
    intro n out sing a t hk ha hs hn hbad
    have hj : 0 ≤ joinAt out sing → joinAt out sing ≤ a + n := fun h => by
      rcases joinL_mem (out.drop (out.length - sing.length)) sing with h1 | h1
      · unfold joinAt at h; omega
      · have := hs _ h1
        unfold joinAt; omega
    have h0 : ¬ t = [] := fun e => by rw [e] at hn; simp at hn
    rw [unqL, if_neg h0]
    by_cases hp0 : (pieceL t).2 = 0
    · rw [if_pos hp0]
      by_cases hp : 0 ≤ joinAt out sing
      · rw [if_pos hp]; exact ⟨_, rfl, hj hp⟩
      · rw [if_neg hp]; exact ⟨_, rfl, by omega⟩
    rw [if_neg hp0]
    have his := (piece_is t).resolve_left (fun e => hp0 (by rw [e]))
    have hsz := his.size
    have hpr := his.print
    have hge : (pieceL t).2.toNat ≤ n := by
      rcases Nat.lt_or_ge n (pieceL t).2.toNat with h | h
      · exfalso
        apply hbad
        have h1 : t.getD n (-1) = t[n] := by rw [List.getD_eq_getElem?_getD, List.getElem?_eq_getElem hn]; rfl
        rw [h1]
        apply hpr
        have h2 : n < (t.take (pieceL t).2.toNat).length := by rw [List.length_take]; omega
        have h3 : (t.take (pieceL t).2.toNat)[n] = t[n] := List.getElem_take
        rw [← h3]
        exact List.getElem_mem h2
      · exact h
    have hl : (t.drop (pieceL t).2.toNat).length = t.length - (pieceL t).2.toNat := List.length_drop
    have hb2 : (t.drop (pieceL t).2.toNat).getD (n - (pieceL t).2.toNat) (-1) = t.getD n (-1) := by
      rw [List.getD_eq_getElem?_getD, List.getElem?_drop, List.getD_eq_getElem?_getD, show (pieceL t).2.toNat + (n - (pieceL t).2.toNat) = n by omega]
    by_cases hsg : single t (pieceL t).1 (pieceL t).2
    · rw [if_pos hsg]
      obtain ⟨p, h1, h2⟩ := ih (n - (pieceL t).2.toNat) (out ++ (pieceL t).1) (sing ++ [a]) (a + (pieceL t).2) (t.drop (pieceL t).2.toNat) (by omega) (by omega) (fun s hx => by
        rcases List.mem_append.1 hx with h | h
        · have := hs s h; omega
        · simp at h; omega) (by omega) (by rw [hb2]; exact hbad)
      exact ⟨p, h1, by omega⟩
    · rw [if_neg hsg]
      by_cases hp : 0 ≤ joinAt out sing
      · rw [if_pos hp]; exact ⟨_, rfl, hj hp⟩
      · rw [if_neg hp]
        obtain ⟨p, h1, h2⟩ := ih (n - (pieceL t).2.toNat) (out ++ (pieceL t).1) [] (a + (pieceL t).2) (t.drop (pieceL t).2.toNat) (by omega) (by omega) (fun s hx => by simp at hx) (by omega) (by rw [hb2]; exact hbad)
        exact ⟨p, h1, by omega⟩
/-- A bad byte is bad still where less follows. -/
theorem bad_less (a b : List Int) (h : 0 < a.length) (h0 : 0 ≤ a.getD 0 (-1)) (hd : (dec (a ++ b)).2 = 1) : (dec a).2 = 1 := by
  rcases dec_append_same a b h h0 with e | ⟨r, t, hr, hr1, _, e, hl, e2⟩
  · rw [← e]; exact hd
  · rw [e2]
/-- Quote's text is read on to its end, whatever follows it. -/
theorem unq_quo (z : List Int) (r : List Int) : ∀ (k : Nat) (p sing : List Int) (a : Int), Bytes (p ++ r) → sing.length ≤ p.length → (quo r ++ z).length < k →
    (∀ i, i < sing.length → (dec ((p ++ r).drop (p.length - sing.length + i))).2 = 1) →
    ∃ (k' : Nat) (sing' : List Int), z.length < k' ∧ sing'.length ≤ (p ++ r).length ∧ (∀ i, i < sing'.length → (dec ((p ++ r).drop ((p ++ r).length - sing'.length + i))).2 = 1) ∧ unqL k p sing a (quo r ++ z) = unqL k' (p ++ r) sing' (a + (quo r).length) z := by
  induction r using steps_ind with
  | h0 =>
    intro k p sing a hb hl hk hi
    rw [List.append_nil] at hi ⊢
    refine ⟨k, sing, by simpa [quo_nil] using hk, hl, hi, ?_⟩
    simp [quo_nil]
  | h1 r h ih =>
    intro k p sing a hb hl hk hi
    have hbr : Bytes r := fun x hx => hb x (List.mem_append_right _ hx)
    have hbp : Bytes p := fun x hx => hb x (List.mem_append_left _ hx)
    have hq := quo_cons' r h
    have hpp := pc_pos r hbr h
    have hdp := dec_pos r
    have hdl := dec_le r h
    have hpiece := piece_pc r (quo (r.drop (dec r).2) ++ z) hbr h
    have ht : quo r ++ z = pc r ++ (quo (r.drop (dec r).2) ++ z) := by rw [hq, List.append_assoc]
    obtain ⟨k, rfl⟩ : ∃ k', k = k' + 1 := ⟨k - 1, by omega⟩
    have hne : ¬ quo r ++ z = [] := fun e => by
      have := congrArg List.length e
      rw [ht, List.length_append, List.length_nil] at this; omega
    have hdrop : (quo r ++ z).drop (((pc r).length : Int)).toNat = quo (r.drop (dec r).2) ++ z := by
      rw [ht, show (((pc r).length : Int)).toNat = (pc r).length by omega]; exact List.drop_left
    rw [← ht] at hpiece
    have hcat : p ++ r.take (dec r).2 ++ r.drop (dec r).2 = p ++ r := by rw [List.append_assoc, List.take_append_drop]
    have hlq : (quo r).length = (pc r).length + (quo (r.drop (dec r).2)).length := by rw [hq, List.length_append]
    have hlk : (quo (r.drop (dec r).2) ++ z).length < k := by rw [ht, List.length_append] at hk; omega
    have hp0 : ¬ (pieceL (quo r ++ z)).2 = 0 := by rw [hpiece]; show ¬ ((pc r).length : Int) = 0; omega
    have his := (piece_is (quo r ++ z)).resolve_left (fun e => hp0 (by rw [e]))
    have hsz := his.size
    rw [unqL, if_neg hne, if_neg hp0]
    rw [hpiece] at his hsz ⊢
    simp only at his hsz ⊢
    rw [hdrop]
    by_cases hsg : single (quo r ++ z) (r.take (dec r).2) ((pc r).length : Int)
    · rw [if_pos hsg]
      have h4 := hsz.2.2.2.2.2 hsg.1
      have hw : (dec r).2 = 1 := by
        have := h4.1
        rw [List.length_take] at this; omega
      have hlp : (p ++ r.take (dec r).2).length = p.length + 1 := by rw [List.length_append, h4.1]
      have := ih k (p ++ r.take (dec r).2) (sing ++ [a]) (a + ((pc r).length : Int)) (by rw [hcat]; exact hb) (by rw [hlp]; simp; omega) hlk (fun i hi' => by
        rw [hcat, hlp]
        simp only [List.length_append, List.length_cons, List.length_nil] at hi' ⊢
        rcases Nat.lt_or_ge i sing.length with h5 | h5
        · have := hi i h5
          rwa [show p.length + 1 - (sing.length + (0 + 1)) + i = p.length - sing.length + i by omega]
        · rw [show p.length + 1 - (sing.length + (0 + 1)) + i = p.length by omega, List.drop_left]
          exact hw)
      rw [hcat] at this
      obtain ⟨k', sing', h1, h2, h3, h5⟩ := this
      refine ⟨k', sing', h1, h2, h3, ?_⟩
      rw [h5, hlq]
      congr 1; omega
    · rw [if_neg hsg]
      have hjn : joinAt p sing = -1 := by
        unfold joinAt
        apply joinL_none
        intro i hi'
        rw [List.length_drop] at hi'
        have h6 := hi i (by omega)
        rw [List.drop_drop]
        rw [List.drop_append_of_le_length (by omega)] at h6
        refine bad_less _ r ?_ ?_ h6
        · rw [List.length_drop]; omega
        · exact (head_byte _ (bytes_of_drop hbp _) (by rw [List.length_drop]; omega)).1
      rw [hjn, if_neg (by decide)]
      have := ih k (p ++ r.take (dec r).2) [] (a + ((pc r).length : Int)) (by rw [hcat]; exact hb) (by simp) hlk (fun i hi' => by simp at hi')
      rw [hcat] at this
      obtain ⟨k', sing', h1, h2, h3, h5⟩ := this
      refine ⟨k', sing', h1, h2, h3, ?_⟩
      rw [h5, hlq]
      congr 1; omega
theorem joinAt_none (b sing : List Int) (hl : sing.length ≤ b.length) (h : ∀ i, i < sing.length → (dec (b.drop (b.length - sing.length + i))).2 = 1) : joinAt b sing = -1 := by
  unfold joinAt
  apply joinL_none
  intro i hi
  rw [List.length_drop] at hi
  rw [List.drop_drop]
  exact h i (by omega)
/-- There and back. -/
theorem unq_back (b : List Int) (hb : Bytes b) : unqL ((quo b).length + 1) [] [] 0 (quo b) = (b, 0, 0) := by
  obtain ⟨k', sing', h1, h2, h3, h4⟩ := unq_quo [] b ((quo b).length + 1) [] [] 0 (by simpa using hb) (by simp) (by simp) (fun i hi => by simp at hi)
  rw [List.append_nil, List.nil_append] at h4
  rw [List.nil_append] at h2 h3
  rw [h4]
  obtain ⟨k', rfl⟩ : ∃ k, k' = k + 1 := ⟨k' - 1, by simp at h1; omega⟩
  rw [unqL, if_pos rfl, joinAt_none b sing' h2 h3, if_neg (by decide)]
/-- A backslash behind Quote's text is refused there. -/
theorem unq_slash (b : List Int) (hb : Bytes b) : unqL ((quo b ++ [92]).length + 1) [] [] 0 (quo b ++ [92]) = ([], ((quo b).length : Int), 230) := by
  obtain ⟨k', sing', h1, h2, h3, h4⟩ := unq_quo [92] b ((quo b ++ [92]).length + 1) [] [] 0 (by simpa using hb) (by simp) (by simp) (fun i hi => by simp at hi)
  rw [List.nil_append] at h2 h3 h4
  rw [h4]
  obtain ⟨k', rfl⟩ : ∃ k, k' = k + 1 := ⟨k' - 1, by simp at h1; omega⟩
  have hp : (pieceL [92]).2 = 0 := by decide
  rw [unqL, if_neg (by simp), if_pos hp, joinAt_none b sing' h2 h3, if_neg (by decide)]
  simp
end Go.Proofs.YtflddgoapibleaaDoor.Hand
