/- Contracts and laws, those that ZOwn needs. -/
import Derived.Test.YtflddgoapibleaaDoorVPlain1
import Derived.Test.YtflddgoapibleaaDoorVWalk2
import Derived.Test.YtflddgoapibleaaDoorVWalk1
set_option linter.unusedVariables false
set_option linter.unusedSimpArgs false
namespace Go.Proofs.YtflddgoapibleaaDoor.Hand
open Go.RowKit Go.Proofs.YtflddgoapibleaaDoor.Esc Go.Proofs.YtflddgoapibleaaDoorW.PrintWords Go.Proofs.YtflddgoapibleaaDoorW.PrintLast Go.Proofs.YtflddgoapibleaaDoorW.PrintMore
theorem need_f (a : Int) (h : 0 ≤ a ∧ a ≤ 255) : octet_Need.f a = some (needI a) := by unfold octet_Need.f; rw [if_pos h]
theorem class_f (a : Int) (h : 0 ≤ a ∧ a ≤ 255) : octet_Class.f a = some (classI a) := by unfold octet_Class.f; rw [if_pos h]
theorem class_tail (a : Int) : classI a = 2 ↔ cont a = true := by
  rw [cont_range]; unfold classI
  repeat' split
  all_goals omega
theorem second_f (a b : Int) (ha : 0 ≤ a ∧ a ≤ 255) (hn : 194 ≤ a ∧ a ≤ 244) (hc : cont b = true) : octet_Second.f a b = some (second a b) := by
  rw [cont_range] at hc
  have hs : ∀ p : Prop, [Decidable p] → (p ↔ ((a = 224 → 160 ≤ b) ∧ (a = 237 → b ≤ 159) ∧ (a = 240 → 144 ≤ b) ∧ (a = 244 → b ≤ 143))) → decide p = second a b := fun p _ hp => by
    unfold second; exact decide_eq_decide.2 hp
  unfold octet_Second.f octet_second.f
  have hneed : needI a > 1 := by unfold needI; repeat' split
                                 all_goals omega
  by_cases e1 : a = 224
  · rw [if_pos e1]; simp only [Option.bind_some]
    split
    · exact congrArg some (hs _ (by omega))
    · exact congrArg some (by rw [← hs False ⟨False.elim, fun h => by have := h.1 e1; omega⟩]; rfl)
  rw [if_neg e1]
  by_cases e2 : a = 237
  · rw [if_pos e2]; simp only [Option.bind_some]
    split
    · exact congrArg some (hs _ (by omega))
    · omega
  rw [if_neg e2]
  by_cases e3 : a = 240
  · rw [if_pos e3]; simp only [Option.bind_some]
    split
    · exact congrArg some (hs _ (by omega))
    · exact congrArg some (by rw [← hs False ⟨False.elim, fun h => by have := h.2.2.1 e3; omega⟩]; rfl)
  rw [if_neg e3]
  by_cases e4 : a = 244
  · rw [if_pos e4]; simp only [Option.bind_some]
    split
    · exact congrArg some (hs _ (by omega))
    · omega
  rw [if_neg e4]
  · rw [need_f a ha]
    simp only [Option.bind_some]
    rw [if_pos hneed]
    simp only [Option.bind_some]
    rw [if_pos (by omega)]
    exact congrArg some (hs _ (by omega))
def wholeTail (a : Int) (i : Nat) (m : List Int) : Bool := (m.drop i).all cont && (i != 0 || m.isEmpty || second a (m.getD 0 0))
theorem whole_loop (x0 : List Int) (h0 : 0 < x0.length) (ha : 0 ≤ rd x0 0 ∧ rd x0 0 ≤ 255) (hn : 194 ≤ rd x0 0 ∧ rd x0 0 ≤ 244) : ∀ (n k i : Nat) (m : List Int), Bytes m → m.length ≤ 8 → i + n = m.length → n < k →
    octet_Whole.l0 k x0 m (m.length : Int) (i : Int) = some (wholeTail (rd x0 0) i m) := by
  intro n
  induction n with
  | zero =>
    intro k i m hb hl hi hk
    obtain ⟨k, rfl⟩ : ∃ k', k = k' + 1 := ⟨k - 1, by omega⟩
    rw [octet_Whole.l0, if_neg (by omega)]
    unfold wholeTail
    rw [List.drop_eq_nil_of_le (by omega)]
    rcases Nat.eq_zero_or_pos i with rfl | h1
    · rw [List.eq_nil_of_length_eq_zero (show m.length = 0 by omega)]; rfl
    · have : (i != 0) = true := bne_iff_ne.2 (by omega)
      rw [this]; rfl
  | succ n ih =>
    intro k i m hb hl hi hk
    obtain ⟨k, rfl⟩ : ∃ k', k = k' + 1 := ⟨k - 1, by omega⟩
    have hlt : i < m.length := by omega
    have hrd : rd m (i : Int) = m.getD i 0 := by unfold rd; rw [show ((i : Int)).toNat = i by omega]
    have hmi : m.getD i 0 = m[i] := by rw [List.getD_eq_getElem?_getD, List.getElem?_eq_getElem hlt]; rfl
    have hx := hb (m[i]) (List.getElem_mem hlt)
    rw [← hmi] at hx
    have hdrop : m.drop i = m.getD i 0 :: m.drop (i + 1) := by rw [hmi]; exact List.drop_eq_getElem_cons hlt
    have hne : m.isEmpty = false := by
      cases m with
      | nil => simp at hlt
      | cons => rfl
    rw [octet_Whole.l0, if_pos (by omega), if_pos (by omega), if_pos (by omega), hrd, class_f _ hx]
    simp only [Option.bind_some]
    by_cases hc : cont (m.getD i 0) = true
    · rw [if_pos ((class_tail _).2 hc)]
      have hnext := ih k (i + 1) m hb hl (by omega) (by omega)
      rw [show ((i + 1 : Nat) : Int) = (i : Int) + 1 by omega] at hnext
      have hw1 : wholeTail (rd x0 0) (i + 1) m = (m.drop (i + 1)).all cont := by
        unfold wholeTail
        have : (i + 1 != 0) = true := bne_iff_ne.2 (by omega)
        rw [this]; simp
      by_cases h1 : i = 0
      · subst h1
        rw [if_pos (by omega), if_pos (by omega), second_f _ _ ha hn hc]
        simp only [Option.bind_some]
        have hw0 : wholeTail (rd x0 0) 0 m = ((m.drop 1).all cont && second (rd x0 0) (m.getD 0 0)) := by
          unfold wholeTail
          rw [hdrop, hne, List.all_cons, hc]; simp
        by_cases hs : second (rd x0 0) (m.getD 0 0) = true
        · rw [if_pos hs, w64 _ (by omega) (by omega), hnext, hw1, hw0, hs, Bool.and_true]
        · rw [if_neg hs, hw0, Bool.eq_false_iff.2 hs, Bool.and_false]
      · have hwi : wholeTail (rd x0 0) i m = (m.drop (i + 1)).all cont := by
          unfold wholeTail
          have : (i != 0) = true := bne_iff_ne.2 h1
          rw [this, hdrop, List.all_cons, hc]; simp
        rw [if_neg (by omega), w64 _ (by omega) (by omega), hnext, hw1, hwi]
    · rw [if_neg (fun h => hc ((class_tail _).1 h))]
      unfold wholeTail
      rw [hdrop, List.all_cons, Bool.eq_false_iff.2 hc]; rfl
theorem dec_two (a b : Int) (m : List Int) (h : 194 ≤ a ∧ a ≤ 223) : (dec (a :: b :: m)).2 = if cont b = true then 2 else 1 := by
  rw [dec_eq4]; unfold dec4
  simp only [List.getD_cons_zero, List.getD_cons_succ]
  rw [if_neg (by omega)]
  by_cases c : cont b = true
  · rw [if_pos ⟨h.1, h.2, c⟩, if_pos c]
  · rw [if_neg (fun hh => c hh.2.2), if_neg (by omega), if_neg (by omega), if_neg c]
theorem dec_three (a b c : Int) (m : List Int) (h : 224 ≤ a ∧ a ≤ 239) : (dec (a :: b :: c :: m)).2 = if cont b = true ∧ cont c = true ∧ second a b = true then 3 else 1 := by
  rw [dec_eq4]; unfold dec4
  simp only [List.getD_cons_zero, List.getD_cons_succ]
  rw [if_neg (by omega), if_neg (by omega)]
  by_cases hc : cont b = true ∧ cont c = true ∧ second a b = true
  · rw [if_pos ⟨h.1, h.2, hc⟩, if_pos hc]
  · rw [if_neg (fun hh => hc hh.2.2), if_neg (by omega), if_neg hc]
theorem dec_four (a b c d : Int) (m : List Int) (h : 240 ≤ a ∧ a ≤ 244) : (dec (a :: b :: c :: d :: m)).2 = if cont b = true ∧ cont c = true ∧ cont d = true ∧ second a b = true then 4 else 1 := by
  rw [dec_eq4]; unfold dec4
  simp only [List.getD_cons_zero, List.getD_cons_succ]
  rw [if_neg (by omega), if_neg (by omega), if_neg (by omega)]
  by_cases hc : cont b = true ∧ cont c = true ∧ cont d = true ∧ second a b = true
  · rw [if_pos ⟨h.1, h.2, hc⟩, if_pos hc]
  · rw [if_neg (fun hh => hc hh.2.2), if_neg hc]
theorem second_two (a b : Int) (h : 194 ≤ a ∧ a ≤ 223) : second a b = true := by unfold second; rw [decide_eq_true_eq]; omega
theorem needI_cases (a : Int) (h : needI a > 1) : (194 ≤ a ∧ a ≤ 223 ∧ needI a = 2) ∨ (224 ≤ a ∧ a ≤ 239 ∧ needI a = 3) ∨ (240 ≤ a ∧ a ≤ 244 ∧ needI a = 4) := by
  unfold needI at *
  repeat' split at h
  all_goals first | omega | (simp only [*, if_true, if_false] at *; omega)
theorem dec_iff (a : Int) (m : List Int) (h0 : 0 ≤ a) : (dec (a :: m)).2 ≠ 1 ↔ needI a > 1 ∧ needI a ≤ m.length + 1 ∧ wholeTail a 0 (m.take (needI a - 1).toNat) = true := by
  have wt : ∀ (b : Int) (m : List Int), wholeTail a 0 (b :: m) = (cont b && m.all cont && second a b) := fun b m => by
    unfold wholeTail; simp
  constructor
  · intro h
    rcases dec_cases (a :: m) h0 with ⟨_, e⟩ | ⟨_, e⟩ | ⟨r, t, hr, hr1, hl, e⟩
    · rw [e] at h; exact absurd rfl h
    · rw [e] at h; exact absurd rfl h
    · have hr' := hr
      unfold Rune at hr'
      by_cases e2 : r < 2048
      · have he := enc2 r (by omega)
        rw [he] at hl
        injection hl with h1 h2
        have hn : needI a = 2 := by unfold needI; rw [if_neg (by omega), if_neg (by omega), if_pos (by omega)]
        have hm : m.take (needI a - 1).toNat = [128 + r % 64] := by rw [hn, h2]; rfl
        rw [hm, wt]
        have c1 : cont (128 + r % 64) = true := (cont_range _).2 (by omega)
        have := second_two a (128 + r % 64) (by omega)
        rw [c1, this]
        refine ⟨by omega, ?_, rfl⟩
        rw [h2]; simp; omega
      by_cases e3 : r < 65536
      · have he := enc3 r (by omega) hr
        rw [he] at hl
        injection hl with h1 h2
        have hn : needI a = 3 := by unfold needI; rw [if_neg (by omega), if_neg (by omega), if_neg (by omega), if_pos (by omega)]
        have hm : m.take (needI a - 1).toNat = [128 + r / 64 % 64, 128 + r % 64] := by rw [hn, h2]; rfl
        rw [hm, wt]
        have c1 : cont (128 + r % 64) = true := (cont_range _).2 (by omega)
        have c2 : cont (128 + r / 64 % 64) = true := (cont_range _).2 (by omega)
        have c3 : second a (128 + r / 64 % 64) = true := by unfold second; rw [decide_eq_true_eq]; refine ⟨?_, ?_, ?_, ?_⟩ <;> intro <;> omega
        rw [c2, c3]
        refine ⟨by omega, ?_, by simp [c1]⟩
        rw [h2]; simp; omega
      · have he := enc4 r (by omega) hr
        rw [he] at hl
        injection hl with h1 h2
        have hn : needI a = 4 := by unfold needI; rw [if_neg (by omega), if_neg (by omega), if_neg (by omega), if_neg (by omega), if_pos (by omega)]
        have hm : m.take (needI a - 1).toNat = [128 + r / 4096 % 64, 128 + r / 64 % 64, 128 + r % 64] := by rw [hn, h2]; rfl
        rw [hm, wt]
        have c1 : cont (128 + r % 64) = true := (cont_range _).2 (by omega)
        have c2 : cont (128 + r / 64 % 64) = true := (cont_range _).2 (by omega)
        have c4 : cont (128 + r / 4096 % 64) = true := (cont_range _).2 (by omega)
        have c3 : second a (128 + r / 4096 % 64) = true := by unfold second; rw [decide_eq_true_eq]; refine ⟨?_, ?_, ?_, ?_⟩ <;> intro <;> omega
        rw [c4, c3]
        refine ⟨by omega, ?_, by simp [c1, c2]⟩
        rw [h2]; simp; omega
  · rintro ⟨hn, hlen, hw⟩
    rcases needI_cases a hn with ⟨h1, h2, h3⟩ | ⟨h1, h2, h3⟩ | ⟨h1, h2, h3⟩
    · rw [h3] at hlen hw
      match m, hlen with
      | b :: m, _ =>
        have e : (b :: m).take ((2 : Int) - 1).toNat = [b] := rfl
        rw [e, wt] at hw
        simp only [Bool.and_eq_true] at hw
        rw [dec_two a b m ⟨h1, h2⟩, if_pos hw.1.1]; decide
      | [], h => simp at h
    · rw [h3] at hlen hw
      match m, hlen with
      | b :: c :: m, _ =>
        have e : (b :: c :: m).take ((3 : Int) - 1).toNat = [b, c] := rfl
        rw [e, wt] at hw
        simp only [Bool.and_eq_true, List.all_cons, List.all_nil, and_true] at hw
        rw [dec_three a b c m ⟨h1, h2⟩, if_pos ⟨hw.1.1, hw.1.2, hw.2⟩]; decide
      | [], h => simp at h
      | [b], h => simp at h
    · rw [h3] at hlen hw
      match m, hlen with
      | b :: c :: d :: m, _ =>
        have e : (b :: c :: d :: m).take ((4 : Int) - 1).toNat = [b, c, d] := rfl
        rw [e, wt] at hw
        simp only [Bool.and_eq_true, List.all_cons, List.all_nil, and_true] at hw
        rw [dec_four a b c d m ⟨h1, h2⟩, if_pos ⟨hw.1.1, hw.1.2.1, hw.1.2.2, hw.2⟩]; decide
      | [], h => simp at h
      | [b], h => simp at h
      | [b, c], h => simp at h
theorem whole_f (k : Nat) (a : Int) (m : List Int) (hb : Bytes (a :: m)) (hn : needI a > 1) (hl : needI a = m.length + 1) (hk : 8 < k) : octet_Whole.f k (a :: m) = some (wholeTail a 0 m) := by
  have ha := hb a List.mem_cons_self
  have hc := needI_cases a hn
  obtain ⟨k, rfl⟩ : ∃ k', k = k' + 1 := ⟨k - 1, by omega⟩
  unfold octet_Whole.f
  have hrd : rd (a :: m) 0 = a := rfl
  rw [if_neg (by simp only [List.length_cons]; omega), if_pos (by simp only [List.length_cons]; omega), hrd, need_f a ha]
  simp only [Option.bind_some]
  have hb2 : (needI a != ((a :: m).length : Int)) = false := bne_eq_false_iff_eq.2 (by simp only [List.length_cons]; omega)
  rw [hb2, octet_Whole.j0, if_neg (by simp), if_pos (by simp only [List.length_cons]; omega)]
  have h8 : m.length ≤ 8 := by omega
  have := whole_loop (a :: m) (by simp) (by rw [hrd]; exact ha) (by rw [hrd]; omega) m.length k 0 m (fun x hx => hb x (List.mem_cons_of_mem _ hx)) h8 (by omega) (by omega)
  rw [hrd] at this
  exact this
def joinL : List Int → List Int → Int
  | b :: bl, s :: ss => if (dec (b :: bl)).2 ≠ 1 then s else joinL bl ss
  | _, _ => -1
theorem joins_loop (x1 bl : List Int) (hb : Bytes bl) (hl : x1.length = bl.length) (h64 : bl.length ≤ 1073741824) : ∀ (n k i : Nat), i + n = bl.length → n + 10 < k →
    escape_joins.l0 k x1 bl (bl.length : Int) (i : Int) = some (joinL (bl.drop i) (x1.drop i)) := by
  intro n
  induction n with
  | zero =>
    intro k i hi hk
    obtain ⟨k, rfl⟩ : ∃ k', k = k' + 1 := ⟨k - 1, by omega⟩
    rw [escape_joins.l0, if_neg (by omega), List.drop_eq_nil_of_le (by omega)]
    rfl
  | succ n ih =>
    intro k i hi hk
    obtain ⟨k, rfl⟩ : ∃ k', k = k' + 1 := ⟨k - 1, by omega⟩
    have hlt : i < bl.length := by omega
    have hlt2 : i < x1.length := by omega
    have hx := hb (bl[i]) (List.getElem_mem hlt)
    have hrd : rd bl (i : Int) = bl[i] := by
      unfold rd; rw [show ((i : Int)).toNat = i by omega, List.getD_eq_getElem?_getD, List.getElem?_eq_getElem hlt]; rfl
    have hrd1 : rd x1 (i : Int) = x1[i] := by
      unfold rd; rw [show ((i : Int)).toNat = i by omega, List.getD_eq_getElem?_getD, List.getElem?_eq_getElem hlt2]; rfl
    have hnext := ih k (i + 1) (by omega) (by omega)
    rw [show ((i + 1 : Nat) : Int) = (i : Int) + 1 by omega] at hnext
    have hd1 : bl.drop i = bl[i] :: bl.drop (i + 1) := List.drop_eq_getElem_cons hlt
    have hd2 : x1.drop i = x1[i] :: x1.drop (i + 1) := List.drop_eq_getElem_cons hlt2
    rw [escape_joins.l0, if_pos (by omega), if_pos (by omega), if_pos (by omega), hrd, need_f _ hx]
    simp only [Option.bind_some]
    have hiff := dec_iff (bl[i]) (bl.drop (i + 1)) hx.1
    rw [List.length_drop] at hiff
    rw [hd1, hd2, joinL]
    by_cases hn : needI bl[i] > 1
    · rw [if_pos hn]
      have hc := needI_cases _ hn
      rw [w64 ((i : Int) + needI bl[i]) (by omega) (by omega)]
      by_cases hle : (i : Int) + needI bl[i] ≤ (bl.length : Int)
      · rw [if_pos hle, if_pos (by omega)]
        have hwin : (bl.take ((i : Int) + needI bl[i]).toNat).drop ((i : Int)).toNat = bl[i] :: (bl.drop (i + 1)).take (needI bl[i] - 1).toNat := by
          rw [show ((i : Int)).toNat = i by omega, List.drop_take, hd1, show ((i : Int) + needI bl[i]).toNat - i = (needI bl[i] - 1).toNat + 1 by omega, List.take_succ_cons]
        have hwl : needI bl[i] = ((bl.drop (i + 1)).take (needI bl[i] - 1).toNat).length + 1 := by
          rw [List.length_take, List.length_drop]; omega
        rw [hwin, whole_f k _ _ (fun x hx2 => by
          rcases List.mem_cons.1 hx2 with rfl | h
          · exact hx
          · exact hb x (List.mem_of_mem_drop (List.mem_of_mem_take h))) hn hwl (by omega)]
        simp only [Option.bind_some]
        by_cases hw : wholeTail bl[i] 0 ((bl.drop (i + 1)).take (needI bl[i] - 1).toNat) = true
        · rw [if_pos hw, if_pos (by omega), hrd1, if_pos (hiff.2 ⟨hn, by omega, hw⟩)]
        · rw [if_neg hw, if_neg (fun h => hw (hiff.1 h).2.2), w64 _ (by omega) (by omega), hnext]
      · rw [if_neg hle, if_neg (fun h => hle (by have := (hiff.1 h).2.1; omega)), w64 _ (by omega) (by omega), hnext]
    · rw [if_neg hn, if_neg (fun h => hn (hiff.1 h).1), w64 _ (by omega) (by omega), hnext]
theorem joins_f (k : Nat) (out sing : List Int) (hb : Bytes out) (hl : sing.length ≤ out.length) (h64 : out.length ≤ 1073741824) (hk : sing.length + 10 < k) :
    escape_joins.f k out sing = some (joinL (out.drop (out.length - sing.length)) sing) := by
  unfold escape_joins.f
  rw [w64 _ (by omega) (by omega), if_pos (by omega), if_pos (by omega)]
  have e : ((out.length : Int) - (sing.length : Int)).toNat = out.length - sing.length := by omega
  rw [e]
  have hlen : (out.drop (out.length - sing.length)).length = sing.length := by rw [List.length_drop]; omega
  have := joins_loop sing (out.drop (out.length - sing.length)) (bytes_of_drop hb _) hlen.symm (by omega) (out.drop (out.length - sing.length)).length k 0 (by omega) (by omega)
  rw [show ((0 : Nat) : Int) = 0 from rfl, List.drop_zero, List.drop_zero] at this
  exact this
end Go.Proofs.YtflddgoapibleaaDoor.Hand

namespace Go.Proofs.YtflddgoapibleaaDoor.Hand
open Go.RowKit Go.Proofs.YtflddgoapibleaaDoor.Esc Go.Proofs.YtflddgoapibleaaDoorW.PrintWords Go.Proofs.YtflddgoapibleaaDoorW.PrintLast Go.Proofs.YtflddgoapibleaaDoorW.PrintMore
def numOf (n : Int) (ds : List Int) : Int := ds.foldl (fun n c => 16 * n + dig c) n
theorem brN_spec : ∀ (f : Nat) (n : Int) (i : Nat) (t : List Int), ∃ ds, t = ds ++ (brN f n i t).2.2 ∧ (brN f n i t).2.1 = i + ds.length ∧ ds.length ≤ f ∧ (∀ x ∈ ds, 0 ≤ dig x) ∧ (brN f n i t).1 = numOf n ds ∧ (ds.length < f → ∀ c u, (brN f n i t).2.2 = c :: u → ¬ 0 ≤ dig c) := by
  intro f
  induction f with
  | zero => intro n i t; exact ⟨[], rfl, rfl, Nat.le_refl _, fun x hx => by simp at hx, rfl, fun h => by simp at h⟩
  | succ f ih =>
    intro n i t
    cases t with
    | nil => exact ⟨[], rfl, rfl, Nat.zero_le _, fun x hx => by simp at hx, rfl, fun _ c u h => by cases h⟩
    | cons c t =>
      by_cases h : 0 ≤ dig c
      · rw [brN, if_pos h]
        obtain ⟨ds, h1, h2, h3, h4, h5, h6⟩ := ih (16 * n + dig c) (i + 1) t
        refine ⟨c :: ds, by rw [List.cons_append, ← h1], by rw [h2]; simp only [List.length_cons]; omega, by simp only [List.length_cons]; omega, fun x hx => ?_, h5, fun h => h6 (by simp only [List.length_cons] at h; omega)⟩
        rcases List.mem_cons.1 hx with rfl | hx
        · exact h
        · exact h4 x hx
      · rw [brN, if_neg h]
        exact ⟨[], rfl, rfl, Nat.zero_le _, fun x hx => by simp at hx, rfl, fun _ c' u e => by cases e; exact h⟩
theorem dig_range' (c : Int) : -1 ≤ dig c ∧ dig c ≤ 15 := by
  unfold dig
  split
  · omega
  split <;> omega
theorem enc_len (r : Int) (hr : Rune r) : 1 ≤ (enc r).length ∧ (enc r).length ≤ 4 := by
  have hr' := hr
  unfold Rune at hr'
  by_cases e1 : r < 128
  · rw [enc1 r (by omega)]; simp
  by_cases e2 : r < 2048
  · rw [enc2 r (by omega)]; simp
  by_cases e3 : r < 65536
  · rw [enc3 r (by omega) hr]; simp
  · rw [enc4 r (by omega) hr]; simp
theorem enc_bytes (r : Int) (hr : Rune r) : Bytes (enc r) := by
  have hr' := hr
  unfold Rune at hr'
  intro x hx
  by_cases e1 : r < 128
  · rw [enc1 r (by omega)] at hx; simp at hx; omega
  by_cases e2 : r < 2048
  · rw [enc2 r (by omega)] at hx; simp at hx; omega
  by_cases e3 : r < 65536
  · rw [enc3 r (by omega) hr] at hx; simp at hx; omega
  · rw [enc4 r (by omega) hr] at hx; simp at hx; omega
inductive IsPiece : List Int → List Int → Int → Prop
  | plain (c : Int) (t : List Int) (h : 32 ≤ c ∧ c ≤ 126) (hn : c ≠ 92) : IsPiece (c :: t) [c] 1
  | letter (x k : Int) (t : List Int) (h : (k = 92 ∧ x = 92) ∨ (k = 110 ∧ x = 10) ∨ (k = 114 ∧ x = 13) ∨ (k = 116 ∧ x = 9)) : IsPiece (92 :: k :: t) [x] 2
  | hex (a b : Int) (t : List Int) (ha : 0 ≤ dig a) (hb : 0 ≤ dig b) (h : ¬ (16 * dig a + dig b = 9 ∨ 16 * dig a + dig b = 10 ∨ 16 * dig a + dig b = 13 ∨ (32 ≤ 16 * dig a + dig b ∧ 16 * dig a + dig b ≤ 126))) : IsPiece (92 :: 120 :: a :: b :: t) [16 * dig a + dig b] 4
  | rune (ds t : List Int) (r : Int) (h1 : 1 ≤ ds.length) (h6 : ds.length ≤ 6) (hd : ∀ x ∈ ds, 0 ≤ dig x) (h0 : ds.getD 0 (-1) ≠ 48) (hr : r = numOf 0 ds) (h128 : 128 ≤ r) (hR : Rune r) : IsPiece (92 :: 117 :: 123 :: (ds ++ 125 :: t)) (enc r) ((ds.length : Int) + 4)
theorem head_is {t : List Int} {a : Int} (h0 : 0 ≤ a) (h : t.getD 0 (-1) = a) : ∃ u, t = a :: u := by
  cases t with
  | nil => simp at h; omega
  | cons x u => exact ⟨u, by rw [← h]; rfl⟩
theorem piece_is (t : List Int) : pieceL t = ([], 0) ∨ IsPiece t (pieceL t).1 (pieceL t).2 := by
  by_cases c0 : t.getD 0 (-1) = 92
  · obtain ⟨u, rfl⟩ := head_is (by decide) c0
    have hk : (92 :: u : List Int).getD 1 (-1) = u.getD 0 (-1) := rfl
    by_cases k1 : u.getD 0 (-1) = 92
    · obtain ⟨v, rfl⟩ := head_is (by decide) k1
      right; exact .letter 92 92 v (.inl ⟨rfl, rfl⟩)
    by_cases k2 : u.getD 0 (-1) = 110
    · obtain ⟨v, rfl⟩ := head_is (by decide) k2
      right; exact .letter 10 110 v (.inr (.inl ⟨rfl, rfl⟩))
    by_cases k3 : u.getD 0 (-1) = 114
    · obtain ⟨v, rfl⟩ := head_is (by decide) k3
      right; exact .letter 13 114 v (.inr (.inr (.inl ⟨rfl, rfl⟩)))
    by_cases k4 : u.getD 0 (-1) = 116
    · obtain ⟨v, rfl⟩ := head_is (by decide) k4
      right; exact .letter 9 116 v (.inr (.inr (.inr ⟨rfl, rfl⟩)))
    by_cases k5 : u.getD 0 (-1) = 120
    · obtain ⟨v, rfl⟩ := head_is (by decide) k5
      have e : pieceL (92 :: 120 :: v) = byTwo (v.getD 0 (-1)) (v.getD 1 (-1)) := rfl
      rw [e]
      unfold byTwo
      by_cases hd : 0 ≤ dig (v.getD 0 (-1)) ∧ 0 ≤ dig (v.getD 1 (-1))
      · rw [if_pos hd]
        simp only
        split
        · exact .inl rfl
        · rename_i hn
          right
          have hdn : dig (-1) = -1 := by decide
          match v, hd, hn with
          | a :: b :: w, hd, hn => exact .hex a b w hd.1 hd.2 hn
          | [a], hd, _ => exact absurd hd.2 (by show ¬ 0 ≤ dig (-1); rw [hdn]; decide)
          | [], hd, _ => exact absurd hd.1 (by show ¬ 0 ≤ dig (-1); rw [hdn]; decide)
      · rw [if_neg hd]; exact .inl rfl
    by_cases k6 : u.getD 0 (-1) = 117
    · obtain ⟨v, rfl⟩ := head_is (by decide) k6
      have e : pieceL (92 :: 117 :: v) = byRune (92 :: 117 :: v) := rfl
      rw [e]
      unfold byRune
      simp only
      split
      · rename_i h
        right
        obtain ⟨h2, h3, h4, h5, h6, h7, h8⟩ := h
        have h2' : v.getD 0 (-1) = 123 := h2
        obtain ⟨w, rfl⟩ := head_is (by decide) h2'
        have ed : (92 :: 117 :: 123 :: w : List Int).drop 3 = w := rfl
        rw [ed] at h3 h5 h6 h7 h8 ⊢
        have e4 : (92 :: 117 :: 123 :: w : List Int).getD 3 (-1) = w.getD 0 (-1) := rfl
        rw [e4] at h4
        obtain ⟨ds, s1, s2, s3, s4, s5, _⟩ := brN_spec 6 0 3 w
        obtain ⟨t', ht'⟩ := head_is (by decide) h5
        rw [ht'] at s1
        have hl : 1 ≤ ds.length := by omega
        have h40 : ds.getD 0 (-1) ≠ 48 := by
          intro hc
          apply h4
          rw [s1]
          cases ds with
          | nil => simp at hl
          | cons d ds => exact hc
        rw [s2]
        have hp := IsPiece.rune ds t' (brN 6 0 3 w).1 hl s3 s4 h40 s5 h6 (by unfold Rune; omega)
        rw [← s1] at hp
        have e5 : ((3 + ds.length : Nat) : Int) + 1 = (ds.length : Int) + 4 := by omega
        rw [e5]
        exact hp
      · exact .inl rfl
    · left
      unfold pieceL
      simp only
      rw [if_neg (by rw [c0]; simp), hk, if_neg k1, if_neg k2, if_neg k3, if_neg k4, if_neg k5, if_neg k6]
  · unfold pieceL
    simp only
    rw [if_pos c0]
    by_cases h : 32 ≤ t.getD 0 (-1) ∧ t.getD 0 (-1) ≤ 126
    · rw [if_pos h]
      right
      obtain ⟨u, hu⟩ := head_is (by omega) (rfl : t.getD 0 (-1) = t.getD 0 (-1))
      have := IsPiece.plain (t.getD 0 (-1)) u h c0
      rw [← hu] at this
      exact this
    · rw [if_neg h]; exact .inl rfl
theorem IsPiece.size {t b : List Int} {n : Int} (h : IsPiece t b n) : 1 ≤ n ∧ n ≤ t.length ∧ (b.length : Int) ≤ n ∧ 1 ≤ b.length ∧ Bytes b ∧ (n = 4 → b.length = 1 ∧ t.getD 0 (-1) = 92 ∧ t.getD 1 (-1) = 120) := by
  cases h with
  | plain c t h hn => exact ⟨by decide, by simp; omega, by simp, by simp, fun x hx => by simp at hx; omega, fun h => by omega⟩
  | letter x k t h => exact ⟨by decide, by simp; omega, by simp, by simp, fun x hx => by simp at hx; omega, fun h => by omega⟩
  | hex a b t ha hb h =>
    have h1 := dig_range' a
    have h2 := dig_range' b
    exact ⟨by decide, by simp; omega, by simp, by simp, fun x hx => by simp at hx; omega, fun _ => ⟨rfl, rfl, rfl⟩⟩
  | rune ds t r h1 h6 hd h0 hr h128 hR =>
    have hl := enc_len r hR
    exact ⟨by omega, by simp; omega, by omega, hl.1, enc_bytes r hR, fun h => by omega⟩
end Go.Proofs.YtflddgoapibleaaDoor.Hand

namespace Go.Proofs.YtflddgoapibleaaDoor.Hand
open Go.RowKit Go.Proofs.YtflddgoapibleaaDoor.Esc Go.Proofs.YtflddgoapibleaaDoorW.PrintWords Go.Proofs.YtflddgoapibleaaDoorW.PrintLast Go.Proofs.YtflddgoapibleaaDoorW.PrintMore
def single (t b : List Int) (n : Int) : Prop := n = 4 ∧ t.getD 0 (-1) = 92 ∧ t.getD 1 (-1) = 120 ∧ 128 ≤ b.getD 0 0
instance (t b : List Int) (n : Int) : Decidable (single t b n) := inferInstanceAs (Decidable (_ ∧ _ ∧ _ ∧ _))
def joinAt (out sing : List Int) : Int := joinL (out.drop (out.length - sing.length)) sing
def unqL : Nat → List Int → List Int → Int → List Int → List Int × Int × Int
  | 0, out, _, _, _ => (out, 0, 0)
  | k + 1, out, sing, at_, t =>
    if t = [] then (if 0 ≤ joinAt out sing then ([], joinAt out sing, 230) else (out, 0, 0))
    else if (pieceL t).2 = 0 then (if 0 ≤ joinAt out sing then ([], joinAt out sing, 230) else ([], at_, 230))
    else if single t (pieceL t).1 (pieceL t).2 then unqL k (out ++ (pieceL t).1) (sing ++ [at_]) (at_ + (pieceL t).2) (t.drop (pieceL t).2.toNat)
    else if 0 ≤ joinAt out sing then ([], joinAt out sing, 230) else unqL k (out ++ (pieceL t).1) [] (at_ + (pieceL t).2) (t.drop (pieceL t).2.toNat)
theorem unq_fuel : ∀ (k j : Nat) (out sing : List Int) (a : Int) (t : List Int), t.length < k → t.length < j → unqL k out sing a t = unqL j out sing a t := by
  intro k
  induction k with
  | zero => intro j out sing a t h; omega
  | succ k ih =>
    intro j out sing a t h1 h2
    obtain ⟨j, rfl⟩ : ∃ j', j = j' + 1 := ⟨j - 1, by omega⟩
    rw [unqL, unqL]
    by_cases h0 : t = []
    · rw [if_pos h0, if_pos h0]
    rw [if_neg h0, if_neg h0]
    by_cases hp0 : (pieceL t).2 = 0
    · rw [if_pos hp0, if_pos hp0]
    rw [if_neg hp0, if_neg hp0]
    have hsz := ((piece_is t).resolve_left (fun e => hp0 (by rw [e]))).size
    have hd : ∀ out' sing' a', unqL k out' sing' a' (t.drop (pieceL t).2.toNat) = unqL j out' sing' a' (t.drop (pieceL t).2.toNat) := fun out' sing' a' =>
      ih j out' sing' a' _ (by rw [List.length_drop]; omega) (by rw [List.length_drop]; omega)
    rw [hd, hd]
theorem bytesOf_tail (s : ByteArray) (i : Nat) (h : i ≤ s.size) : bytesOf (s.extract i s.size) = (bytesOf s).drop i := by
  unfold bytesOf
  rw [Lib.extract_data, List.map_take, List.map_drop, List.take_of_length_le]
  rw [List.length_drop, List.length_map, data_length]; omega
theorem piece_f (s : ByteArray) (i : Nat) (h : i ≤ s.size) (hs : s.size ≤ 1073741824) : escape_piece.f (s.extract ((i : Int)).toNat s.size) = some (pieceL ((bytesOf s).drop i)) := by
  unfold escape_piece.f
  rw [show ((i : Int)).toNat = i by omega, if_pos (by rw [ByteArray.size_extract]; omega), bytesOf_tail s i h]
theorem bt_drop (s : ByteArray) (i j : Nat) (h : i + j < s.size) : bt s ((i : Int) + (j : Int)) = ((bytesOf s).drop i).getD j (-1) := by
  rw [get_drop _ i j (by rw [bytesOf_length]; omega), show (i : Int) + (j : Int) = ((i + j : Nat) : Int) by omega, ← bytes_getD s (i + j) h]
  rw [List.getD_eq_getElem?_getD, List.getElem?_eq_getElem (by rw [bytesOf_length]; omega)]; rfl
theorem joins_at (k : Nat) (out sing : List Int) (hb : Bytes out) (hl : sing.length ≤ out.length) (h64 : out.length ≤ 1073741824) (hk : sing.length + 10 < k) : escape_joins.f k out sing = some (joinAt out sing) := joins_f k out sing hb hl h64 hk
set_option maxHeartbeats 1000000 in
theorem unq_loop (s : ByteArray) (hs : s.size ≤ 1073741824) : ∀ (n k i : Nat) (out sing : List Int), i + n = s.size → 2 * n + s.size + 30 < k → out.length ≤ i → sing.length ≤ out.length → Bytes out →
    escape_Unquote.l0 k s out sing (i : Int) = some (unqL (n + 1) out sing (i : Int) ((bytesOf s).drop i)) := by
  intro n
  induction n using Nat.strongRecOn with
  | _ n ih =>
  intro k i out sing hi hk ho hl hb
  obtain ⟨k, rfl⟩ : ∃ k', k = k' + 1 := ⟨k - 1, by omega⟩
  have hj := joins_at k out sing hb hl (by omega) (by omega)
  have hlen : ((bytesOf s).drop i).length = n := by rw [List.length_drop, bytesOf_length]; omega
  rw [escape_Unquote.l0, unqL]
  by_cases h0 : n = 0
  · subst h0
    rw [if_neg (by omega), if_pos (List.eq_nil_of_length_eq_zero hlen), hj]
    simp only [Option.bind_some]
    by_cases hp : 0 ≤ joinAt out sing
    · rw [if_pos hp, if_pos hp]
    · rw [if_neg hp, if_neg hp]
  · have hne : ¬ (bytesOf s).drop i = [] := fun e => h0 (by rw [← hlen, e]; rfl)
    rw [if_pos (by omega), if_pos (by omega), if_pos (by omega), if_neg hne, piece_f s i (by omega) hs]
    simp only [Option.bind_some]
    generalize hT : (bytesOf s).drop i = t at *
    by_cases hp0 : (pieceL t).2 = 0
    · rw [if_pos hp0, if_pos hp0, hj]
      simp only [Option.bind_some]
      by_cases hp : 0 ≤ joinAt out sing
      · rw [if_pos hp, if_pos hp]
      · rw [if_neg hp, if_neg hp]
    · rw [if_neg hp0, if_neg hp0]
      have his : IsPiece t (pieceL t).1 (pieceL t).2 := (piece_is t).resolve_left (fun e => hp0 (by rw [e]))
      obtain ⟨z1, z2, z3, z4, z5, z6⟩ := his.size
      generalize hB : (pieceL t).1 = b at *
      generalize hN : (pieceL t).2 = m at *
      rw [if_pos (by omega)]
      have hob : Bytes (out ++ b) := bytes_append hb z5
      have hnext : ∀ (k' : Nat) (sing' : List Int), 2 * (n - m.toNat) + s.size + 30 < k' → sing'.length ≤ (out ++ b).length → escape_Unquote.l0 k' s (out ++ b) sing' (wrap64 ((i : Int) + m)) = some (unqL n (out ++ b) sing' ((i : Int) + m) (t.drop m.toNat)) := by
        intro k' sing' hk' hl'
        have hm : (i : Int) + m = ((i + m.toNat : Nat) : Int) := by omega
        have h1 := ih (n - m.toNat) (by omega) k' (i + m.toNat) (out ++ b) sing' (by omega) hk' (by rw [List.length_append]; omega) hl' hob
        rw [w64 _ (by omega) (by omega), hm, h1]
        have hd : (bytesOf s).drop (i + m.toNat) = t.drop m.toNat := by rw [← hT, List.drop_drop]
        rw [hd, ← hm]
        exact congrArg some (unq_fuel _ _ _ _ _ _ (by rw [List.length_drop]; omega) (by rw [List.length_drop]; omega))
      have hj1 : ∀ f : Bool, escape_Unquote.j1 k s (out ++ b) sing (i : Int) b m f = some (if f = true then unqL n (out ++ b) (sing ++ [(i : Int)]) ((i : Int) + m) (t.drop m.toNat) else if 0 ≤ joinAt out sing then ([], joinAt out sing, 230) else unqL n (out ++ b) [] ((i : Int) + m) (t.drop m.toNat)) := by
        intro f
        obtain ⟨k2, rfl⟩ : ∃ k', k = k' + 1 := ⟨k - 1, by omega⟩
        rw [escape_Unquote.j1]
        by_cases hf : f = true
        · rw [if_pos hf, if_pos hf, if_pos (by omega)]
          exact hnext k2 _ (by omega) (by simp only [List.length_append, List.length_cons, List.length_nil]; omega)
        · rw [if_neg hf, if_neg hf]
          have hla : ((out ++ b).length : Int) = (out.length : Int) + (b.length : Int) := by rw [List.length_append]; omega
          have hw : wrap64 (((out ++ b).length : Int) - (b.length : Int)) = (out.length : Int) := by rw [hla, w64 _ (by omega) (by omega)]; omega
          have htk : (out ++ b).take ((out.length : Int)).toNat = out := by rw [show ((out.length : Int)).toNat = out.length by omega]; exact List.take_left
          rw [hw, if_pos (by omega), if_pos (by omega), htk, joins_at k2 out sing hb hl (by omega) (by omega)]
          simp only [Option.bind_some]
          by_cases hp : 0 ≤ joinAt out sing
          · rw [if_pos hp, if_pos hp]
          · rw [if_neg hp, if_neg hp, if_pos (by omega)]
            have : sing.take ((0 : Int)).toNat = [] := rfl
            rw [this]
            exact hnext k2 [] (by omega) (by simp)
      have hb0 := bt_drop s i 0 (by omega)
      rw [hT] at hb0
      have hb1 : 4 ≤ m → bt s (wrap64 ((i : Int) + 1)) = t.getD 1 (-1) := fun hm => by
        rw [w64 _ (by omega) (by omega), ← hT]; exact bt_drop s i 1 (by omega)
      have hb0' : bt s (i : Int) = t.getD 0 (-1) := by rw [← hb0]; congr 1
      rw [hb0']
      by_cases c4 : m = 4
      · rw [if_pos c4]
        have hlt : (wrap64 ((i : Int) + 1)) < (s.size : Int) := by rw [w64 _ (by omega) (by omega)]; omega
        have hge : 0 ≤ (wrap64 ((i : Int) + 1)) := by rw [w64 _ (by omega) (by omega)]; omega
        by_cases c92 : t.getD 0 (-1) = 92
        · rw [if_pos c92, if_pos hge, if_pos hlt, hb1 (by omega)]
          by_cases c120 : t.getD 1 (-1) = 120
          · rw [if_pos c120, if_pos (by omega), hj1]
            have hrd : rd b 0 = b.getD 0 0 := rfl
            rw [hrd]
            by_cases c128 : 128 ≤ b.getD 0 0
            · rw [decide_eq_true (show b.getD 0 0 ≥ 128 from c128), if_pos rfl, if_pos (show single t b m from ⟨c4, c92, c120, c128⟩)]
            · rw [decide_eq_false (show ¬ b.getD 0 0 ≥ 128 from c128), if_neg (by simp), if_neg (show ¬ single t b m from fun h => c128 h.2.2.2)]
          · rw [if_neg c120, hj1, if_neg (by simp), if_neg (show ¬ single t b m from fun h => c120 h.2.2.1)]
        · rw [if_neg c92, hj1, if_neg (by simp), if_neg (show ¬ single t b m from fun h => c92 h.2.1)]
      · rw [if_neg c4, hj1, if_neg (by simp), if_neg (show ¬ single t b m from fun h => c4 h.1)]
theorem unq_f (s : ByteArray) (hs : s.size ≤ 1073741824) (k : Nat) (hk : 3 * s.size + 30 < k) : escape_Unquote.f k s = some (unqL (s.size + 1) [] [] 0 (bytesOf s)) := by
  have := unq_loop s hs s.size k 0 [] [] (by omega) (by omega) (Nat.le_refl _) (Nat.le_refl _) (fun x hx => by simp at hx)
  unfold escape_Unquote.f
  simpa using this
end Go.Proofs.YtflddgoapibleaaDoor.Hand
