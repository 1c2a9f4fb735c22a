/- Contracts and laws, those that ZOwn needs. -/
import Derived.Test.YtflddgoapibleaaDoorVPlain2
import Derived.Test.YtflddgoapibleaaDoorVWalk4
import Derived.Test.YtflddgoapibleaaDoorVPlain1
import Derived.Test.YtflddgoapibleaaDoorVPlain3
import Derived.Test.YtflddgoapibleaaDoorVWalk1
set_option linter.unusedVariables false
set_option linter.unusedSimpArgs false
namespace Go.Proofs.YtflddgoapibleaaDoor.Hand
open Go.RowKit Go.Proofs.YtflddgoapibleaaDoor.Esc Go.Proofs.YtflddgoapibleaaDoorW.PrintWords Go.Proofs.YtflddgoapibleaaDoorW.PrintLast Go.Proofs.YtflddgoapibleaaDoorW.PrintMore
theorem rclass_f (a : Int) : galleyref01_Class.f a = some (classI a) := by
  unfold galleyref01_Class.f classI
  by_cases h1 : a ≤ 127
  · rw [if_pos (by omega), if_pos h1]
  rw [if_neg (by omega), if_neg h1]
  by_cases h2 : a ≤ 191
  · rw [if_pos (by omega), if_pos h2]
  rw [if_neg (by omega), if_neg h2]
  by_cases h3 : a ≤ 193
  · rw [if_pos (by omega), if_pos h3]
  rw [if_neg (by omega), if_neg h3]
  by_cases h4 : a ≤ 223
  · rw [if_pos (by omega), if_pos h4]
  rw [if_neg (by omega), if_neg h4]
  by_cases h5 : a ≤ 239
  · rw [if_pos (by omega), if_pos h5]
  rw [if_neg (by omega), if_neg h5]
  by_cases h6 : a ≤ 244
  · rw [if_pos (by omega), if_pos h6]
  rw [if_neg (by omega), if_neg h6]
theorem rneed_f (a : Int) : galleyref01_Need.f a = some (needI a) := by
  unfold galleyref01_Need.f
  rw [rclass_f, Option.bind_some]
  unfold classI needI
  by_cases h1 : a ≤ 127
  · rw [if_pos h1, if_pos h1, if_pos rfl]
  rw [if_neg h1, if_neg h1]
  by_cases h2 : a ≤ 191
  · rw [if_pos h2, if_pos (show a ≤ 193 by omega)]; rfl
  rw [if_neg h2]
  by_cases h3 : a ≤ 193
  · rw [if_pos h3, if_pos h3]; rfl
  rw [if_neg h3, if_neg h3]
  by_cases h4 : a ≤ 223
  · rw [if_pos h4, if_pos h4]; rfl
  rw [if_neg h4, if_neg h4]
  by_cases h5 : a ≤ 239
  · rw [if_pos h5, if_pos h5]; rfl
  rw [if_neg h5, if_neg h5]
  by_cases h6 : a ≤ 244
  · rw [if_pos h6, if_pos h6]; rfl
  rw [if_neg h6, if_neg h6]; rfl
theorem rsecond_f (k : Nat) (a b : Int) (hk : 0 < k) : galleyref01_Second.f k a b = some (decide (2 ≤ needI a) && (cont b && second a b)) := by
  obtain ⟨k, rfl⟩ : ∃ k', k = k' + 1 := ⟨k - 1, by omega⟩
  have hs : ∀ p : Prop, [Decidable p] → cont b = true → (p ↔ ((a = 224 → 160 ≤ b) ∧ (a = 237 → b ≤ 159) ∧ (a = 240 → 144 ≤ b) ∧ (a = 244 → b ≤ 143))) → decide p = (cont b && second a b) := fun p _ hc hp => by
    rw [hc, Bool.true_and]; unfold second; exact decide_eq_decide.2 hp
  unfold galleyref01_Second.f
  rw [rneed_f, Option.bind_some]
  by_cases hn : needI a < 2
  · rw [if_pos hn, galleyref01_Second.j0, if_pos rfl, decide_eq_false (by omega)]; rfl
  · rw [if_neg hn, rclass_f, Option.bind_some, decide_eq_true (show 2 ≤ needI a by omega), Bool.true_and]
    by_cases hc : cont b = true
    · have h2 : (classI b != 2) = false := bne_eq_false_iff_eq.2 ((class_tail b).2 hc)
      have hcr := (cont_range b).1 hc
      rw [h2, galleyref01_Second.j0, if_neg (by simp)]
      by_cases e1 : a = 224
      · rw [if_pos e1]; exact congrArg some (hs _ hc (by omega))
      rw [if_neg e1]
      by_cases e2 : a = 237
      · rw [if_pos e2]; exact congrArg some (hs _ hc (by omega))
      rw [if_neg e2]
      by_cases e3 : a = 240
      · rw [if_pos e3]; exact congrArg some (hs _ hc (by omega))
      rw [if_neg e3]
      by_cases e4 : a = 244
      · rw [if_pos e4]; exact congrArg some (hs _ hc (by omega))
      rw [if_neg e4]
      exact congrArg some (by rw [← hs True hc (by simp only [true_iff]; omega)]; rfl)
    · have h2 : (classI b != 2) = true := bne_iff_ne.2 (fun h => hc ((class_tail b).1 h))
      rw [h2, galleyref01_Second.j0, if_pos rfl, Bool.eq_false_iff.2 hc]; rfl
theorem rbegins_loop : ∀ (n k i : Nat) (x0 : List Int), x0.length ≤ 8 → i + n = x0.length → n < k → galleyref01_Begins.l0 k x0 (i : Int) = some ((x0.drop i).all cont) := by
  intro n
  induction n with
  | zero =>
    intro k i x0 h8 hi hk
    obtain ⟨k, rfl⟩ : ∃ k', k = k' + 1 := ⟨k - 1, by omega⟩
    rw [galleyref01_Begins.l0, if_neg (by omega), List.drop_eq_nil_of_le (by omega)]; rfl
  | succ n ih =>
    intro k i x0 h8 hi hk
    obtain ⟨k, rfl⟩ : ∃ k', k = k' + 1 := ⟨k - 1, by omega⟩
    have hlt : i < x0.length := by omega
    have hrd : rd x0 (i : Int) = x0[i] := by
      unfold rd; rw [show ((i : Int)).toNat = i by omega, List.getD_eq_getElem?_getD, List.getElem?_eq_getElem hlt]; rfl
    rw [galleyref01_Begins.l0, if_pos (by omega), if_pos (by omega), hrd, rclass_f, Option.bind_some, List.drop_eq_getElem_cons hlt, List.all_cons]
    by_cases hc : cont x0[i] = true
    · rw [if_pos ((class_tail _).2 hc), w64 _ (by omega) (by omega), hc, Bool.true_and]
      have := ih k (i + 1) x0 h8 (by omega) (by omega)
      rw [show ((i + 1 : Nat) : Int) = (i : Int) + 1 by omega] at this
      exact this
    · rw [if_neg (fun h => hc ((class_tail _).1 h)), Bool.eq_false_iff.2 hc]; rfl
theorem rwhole_g (k : Nat) (b : List Int) (h1 : 1 ≤ b.length) (h4 : b.length ≤ 4) (hb : 128 ≤ b.getD 0 (-1) ∧ b.getD 0 (-1) ≤ 255) (hk : 12 < k) :
    galleyref01_Whole.f k b = some (decide ((dec b).2 ≠ 1 ∧ (dec b).2 = b.length)) := by
  obtain ⟨k, rfl⟩ : ∃ k', k = k' + 4 := ⟨k - 4, by omega⟩
  match b, h1 with
  | a :: m, _ =>
    have ha : 128 ≤ a ∧ a ≤ 255 := hb
    have hrd : rd (a :: m) 0 = a := rfl
    have hiff := dec_iff a m (by omega)
    have hneed1 : ¬ needI a = 1 := by unfold needI; rw [if_neg (by omega)]; repeat' split
                                      all_goals decide
    have hwid : (dec (a :: m)).2 ≠ 1 → ((dec (a :: m)).2 : Int) = needI a := by
      intro h
      rcases dec_cases (a :: m) (by show 0 ≤ a; omega) with ⟨_, e⟩ | ⟨_, e⟩ | ⟨r, t, hr, hr1, hl, e⟩
      · rw [e] at h; exact absurd rfl h
      · rw [e] at h; exact absurd rfl h
      · have hr' := hr
        unfold Rune at hr'
        rw [e]
        by_cases e2 : r < 2048
        · have he := enc2 r (by omega)
          rw [he] at hl; injection hl with h1 _
          have hn : needI a = 2 := by unfold needI; rw [if_neg (by omega), if_neg (by omega), if_pos (by omega)]
          rw [hn, he]; rfl
        by_cases e3 : r < 65536
        · have he := enc3 r (by omega) hr
          rw [he] at hl; injection hl with h1 _
          have hn : needI a = 3 := by unfold needI; rw [if_neg (by omega), if_neg (by omega), if_neg (by omega), if_pos (by omega)]
          rw [hn, he]; rfl
        · have he := enc4 r (by omega) hr
          rw [he] at hl; injection hl with h1 _
          have hn : needI a = 4 := by unfold needI; rw [if_neg (by omega), if_neg (by omega), if_neg (by omega), if_neg (by omega), if_pos (by omega)]
          rw [hn, he]; rfl
    have hwt : ∀ (x : Int) (u : List Int), wholeTail a 0 (x :: u) = (cont x && u.all cont && second a x) := fun x u => by unfold wholeTail; simp
    have hfin : decide ((dec (a :: m)).2 ≠ 1 ∧ (dec (a :: m)).2 = (a :: m).length) = (decide (((a :: m).length : Int) = needI a) && (decide (needI a > 1) && wholeTail a 0 m)) := by
      by_cases hl : ((a :: m).length : Int) = needI a
      · rw [decide_eq_true hl, Bool.true_and]
        have htk : m.take (needI a - 1).toNat = m := List.take_of_length_le (by simp only [List.length_cons] at hl; omega)
        rw [htk] at hiff
        by_cases hd : (dec (a :: m)).2 ≠ 1
        · have h5 := hiff.1 hd
          have h6 := hwid hd
          rw [decide_eq_true h5.1, h5.2.2, decide_eq_true ⟨hd, by omega⟩]; rfl
        · rw [decide_eq_false (fun h => hd h.1)]
          by_cases h7 : needI a > 1
          · rw [decide_eq_true h7, Bool.true_and]
            symm
            apply Bool.eq_false_iff.2
            intro hw
            exact hd (hiff.2 ⟨h7, by simp only [List.length_cons] at hl; omega, hw⟩)
          · rw [decide_eq_false h7]; rfl
      · rw [decide_eq_false hl, Bool.false_and]
        apply decide_eq_false
        rintro ⟨hd, hw⟩
        have := hwid hd
        omega
    rw [hfin]
    unfold galleyref01_Whole.f galleyref01_Begins.f
    rw [if_neg (by simp only [List.length_cons]; omega), if_pos (by simp only [List.length_cons]; omega), hrd, rneed_f, Option.bind_some]
    by_cases hgt : ((a :: m).length : Int) > needI a
    · rw [decide_eq_true hgt, galleyref01_Begins.j0, if_pos rfl, Option.bind_some, if_neg (by simp), decide_eq_false (show ¬ ((a :: m).length : Int) = needI a by omega), Bool.false_and]
    · rw [decide_eq_false hgt, galleyref01_Begins.j0, if_neg (by simp)]
      have hend : ∀ v : Bool, ((some v : Option Bool).bind fun t => if t = true then (if 0 < ((a :: m).length : Int) then ((some (needI a) : Option Int).bind fun t282 => some (((a :: m).length : Int) == t282)) else none) else some false) = some (decide (((a :: m).length : Int) = needI a) && v) := by
        intro v
        rw [Option.bind_some]
        cases v with
        | true =>
          rw [if_pos rfl, if_pos (by simp only [List.length_cons]; omega), Option.bind_some, Bool.and_true]
          congr 1
        | false => rw [if_neg (by simp), Bool.and_false]
      by_cases hm : ((a :: m).length : Int) > 1
      · match m, hm with
        | x :: u, _ =>
          have hrd1 : rd (a :: x :: u) 1 = x := rfl
          rw [if_pos (by simp only [List.length_cons]; omega), if_pos (by simp only [List.length_cons]; omega), if_pos (by simp only [List.length_cons]; omega), hrd, hrd1, rsecond_f _ _ _ (by omega), Option.bind_some]
          by_cases hs : (decide (2 ≤ needI a) && (cont x && second a x)) = true
          · rw [if_pos hs, galleyref01_Begins.j1]
            have := rbegins_loop (u.length) (k + 1 + 1) 2 (a :: x :: u) (by simp only [List.length_cons] at h4 ⊢; omega) (by simp only [List.length_cons]; omega) (by simp only [List.length_cons] at h4; omega)
            rw [show ((2 : Nat) : Int) = 2 from rfl] at this
            rw [this, hend]
            simp only [Bool.and_eq_true, decide_eq_true_eq] at hs
            rw [hwt, hs.2.1, hs.2.2, decide_eq_true (show needI a > 1 by omega)]
            simp
          · rw [if_neg hs, hend false, hwt]
            congr 1
            congr 1
            have hs2 := Bool.eq_false_iff.2 hs
            by_cases h7 : needI a > 1
            · rw [decide_eq_true (show 2 ≤ needI a by omega), Bool.true_and] at hs2
              rw [decide_eq_true h7, Bool.true_and]
              cases hc : cont x
              · rfl
              · rw [hc, Bool.true_and] at hs2
                rw [hs2, Bool.and_false]
            · rw [decide_eq_false h7]; rfl
        | [], h => simp at h
      · rw [if_neg hm, galleyref01_Begins.j1]
        match m, hm with
        | [], _ =>
          rw [galleyref01_Begins.l0, if_neg (by simp), hend]
          have : decide ((([a] : List Int).length : Int) = needI a) = false := decide_eq_false (by simp only [List.length_cons, List.length_nil]; omega)
          rw [this]; rfl
        | x :: u, h => exact absurd (show ((a :: x :: u).length : Int) > 1 by simp only [List.length_cons]; omega) h
theorem rwhole_f (k : Nat) (b : List Int) (h1 : 1 ≤ b.length) (h4 : b.length ≤ 4) (hb : ∀ x ∈ b, 128 ≤ x ∧ x ≤ 255) (hk : 12 < k) :
    galleyref01_Whole.f k b = some (decide ((dec b).2 ≠ 1 ∧ (dec b).2 = b.length)) :=
  rwhole_g k b h1 h4 (by match b, h1 with | a :: m, _ => exact hb a List.mem_cons_self) hk
end Go.Proofs.YtflddgoapibleaaDoor.Hand

namespace Go.Proofs.YtflddgoapibleaaDoor.Hand
open Go.RowKit Go.Proofs.YtflddgoapibleaaDoor.Esc Go.Proofs.YtflddgoapibleaaDoorW.PrintWords Go.Proofs.YtflddgoapibleaaDoorW.PrintLast Go.Proofs.YtflddgoapibleaaDoorW.PrintMore
theorem ris_f (r : Int) : galleyref01_Is.f r = some (decide ((0 ≤ r ∧ r < 55296) ∨ (57344 ≤ r ∧ r ≤ 1114111))) := by
  unfold galleyref01_Is.f
  repeat' split
  all_goals congr 1
  all_goals first | exact (decide_eq_true (by omega)).symm | exact (decide_eq_false (by omega)).symm | exact decide_eq_decide.2 (by omega)
theorem rbytes_j (k : Nat) (r : Int) (hr : Rune r) (hk : 0 < k) : galleyref01_Bytes.j0 k r = some (enc r) := by
  obtain ⟨k, rfl⟩ : ∃ k', k = k' + 1 := ⟨k - 1, by omega⟩
  have hr' := hr
  unfold Rune at hr'
  have e0 : wrap64 r = r := w64 r (by omega) (by omega)
  rw [galleyref01_Bytes.j0, e0]
  have td : ∀ m : Int, 0 < m → Int.tdiv r m = r / m := fun m _ => Int.tdiv_eq_ediv_of_nonneg (by omega)
  have tm : ∀ (x m : Int), 0 ≤ x → Int.tmod x m = x % m := fun x m hx => Int.tmod_eq_emod_of_nonneg hx
  by_cases e1 : r < 128
  · rw [if_pos e1, enc1 r (by omega)]
    congr 2; omega
  rw [if_neg e1]
  by_cases e2 : r < 2048
  · rw [if_pos e2, enc2 r (by omega), td 64 (by decide), tm r 64 (by omega), w64 (r / 64) (by omega) (by omega), w64 (192 + r / 64) (by omega) (by omega), w64 (128 + r % 64) (by omega) (by omega)]
    simp only [Option.some.injEq, List.cons.injEq, and_true]; omega
  rw [if_neg e2]
  by_cases e3 : r < 65536
  · rw [if_pos e3, enc3 r (by omega) hr, td 4096 (by decide), td 64 (by decide), w64 (r / 4096) (by omega) (by omega), w64 (r / 64) (by omega) (by omega), tm (r / 64) 64 (by omega), tm r 64 (by omega), w64 (224 + r / 4096) (by omega) (by omega), w64 (128 + r / 64 % 64) (by omega) (by omega), w64 (128 + r % 64) (by omega) (by omega)]
    simp only [Option.some.injEq, List.cons.injEq, and_true]; omega
  · rw [if_neg e3, enc4 r (by omega) hr, td 262144 (by decide), td 4096 (by decide), td 64 (by decide), w64 (r / 262144) (by omega) (by omega), w64 (r / 4096) (by omega) (by omega), w64 (r / 64) (by omega) (by omega), tm (r / 4096) 64 (by omega), tm (r / 64) 64 (by omega), tm r 64 (by omega), w64 (240 + r / 262144) (by omega) (by omega), w64 (128 + r / 4096 % 64) (by omega) (by omega), w64 (128 + r / 64 % 64) (by omega) (by omega), w64 (128 + r % 64) (by omega) (by omega)]
    simp only [Option.some.injEq, List.cons.injEq, and_true]; omega
theorem rbytes_f (k : Nat) (r : Int) (hr : Rune r) (hk : 0 < k) : galleyref01_Bytes.f k r = some (enc r) := by
  unfold galleyref01_Bytes.f
  rw [ris_f, Option.bind_some, decide_eq_true (show (0 ≤ r ∧ r < 55296) ∨ (57344 ≤ r ∧ r ≤ 1114111) from hr), if_pos rfl]
  exact rbytes_j k r hr hk
theorem w32 (x : Int) (h0 : 0 ≤ x) (h1 : x ≤ 2147483647) : wrap32 x = x := by unfold wrap32; omega
end Go.Proofs.YtflddgoapibleaaDoor.Hand

namespace Go.Proofs.YtflddgoapibleaaDoor.Hand
open Go.RowKit Go.Proofs.YtflddgoapibleaaDoor.Esc Go.Proofs.YtflddgoapibleaaDoorW.PrintWords Go.Proofs.YtflddgoapibleaaDoorW.PrintLast Go.Proofs.YtflddgoapibleaaDoorW.PrintMore
theorem bt_get (s : ByteArray) (p j : Nat) (h : p + j < s.size) : bt s ((p : Int) + (j : Int)) = ((bytesOf s).drop p).getD j (-1) := bt_drop s p j h
def brOut (t : List Int) (n : Int) (j : Nat) : List Int × Int :=
  if j ≠ 3 ∧ t.getD 3 (-1) ≠ 48 ∧ t.getD j (-1) = 125 ∧ 128 ≤ n ∧ n ≤ 1114111 ∧ ¬ (55296 ≤ n ∧ n ≤ 57343) then (enc n, (j : Int) + 1) else ([], 0)
theorem braced_j2 (k : Nat) (p : Nat) (n : Int) (j : Nat) (f : Bool) (h0 : 0 ≤ n) (h1 : n ≤ 16777215) (hp : p ≤ 1073741824) (hj : j ≤ 10) (hf : f = false → 128 ≤ n) (hk : 2 < k) :
    galleyref23_braced.j2 k (p : Int) n ((p : Int) + (j : Int)) f = some (if f = false ∧ n ≤ 1114111 ∧ ¬ (55296 ≤ n ∧ n ≤ 57343) then (enc n, (j : Int) + 1) else ([], 0)) := by
  obtain ⟨k, rfl⟩ : ∃ k', k = k' + 1 := ⟨k - 1, by omega⟩
  rw [galleyref23_braced.j2]
  cases f with
  | true => rw [if_pos rfl, if_neg (by simp)]
  | false =>
    have hn := hf rfl
    rw [if_neg (by simp), w32 n h0 (by omega), ris_f, Option.bind_some]
    by_cases hr : Rune n
    · have hr' := hr
      unfold Rune at hr'
      rw [decide_eq_true (show (0 ≤ n ∧ n < 55296) ∨ (57344 ≤ n ∧ n ≤ 1114111) from hr), if_pos rfl, rbytes_f k n hr (by omega), Option.bind_some, if_pos ⟨rfl, by omega, by omega⟩]
      rw [w64 ((p : Int) + (j : Int) + 1) (by omega) (by omega), w64 _ (by omega) (by omega)]
      congr 2; omega
    · rw [decide_eq_false (show ¬ ((0 ≤ n ∧ n < 55296) ∨ (57344 ≤ n ∧ n ≤ 1114111)) from hr), if_neg (by simp), if_neg]
      unfold Rune at hr
      omega
theorem braced_j1 (s : ByteArray) (hs : s.size ≤ 1073741824) (k p : Nat) (n : Int) (j : Nat) (h0 : 0 ≤ n) (h1 : n ≤ 16777215) (h3 : 3 ≤ j) (hj : j ≤ 9) (hle : p + j ≤ s.size) (hk : 3 < k) :
    galleyref23_braced.j1 k s (p : Int) n ((p : Int) + (j : Int)) = some (brOut ((bytesOf s).drop p) n j) := by
  obtain ⟨k, rfl⟩ : ∃ k', k = k' + 1 := ⟨k - 1, by omega⟩
  have w3 : wrap64 ((p : Int) + 3) = (p : Int) + 3 := w64 _ (by omega) (by omega)
  have hlen : ((bytesOf s).drop p).length = s.size - p := by rw [List.length_drop, bytesOf_length]
  have yes : galleyref23_braced.j2 k (p : Int) n ((p : Int) + (j : Int)) true = some ([], 0) := by
    rw [braced_j2 k p n j true h0 h1 (by omega) (by omega) (fun h => by cases h) (by omega), if_neg (by simp)]
  unfold brOut
  rw [galleyref23_braced.j1, w3]
  by_cases c3 : j = 3
  · rw [if_pos (by omega), yes, if_neg (fun h => h.1 c3)]
  rw [if_neg (by omega)]
  by_cases cl : s.size ≤ p + j
  · have hn : ((bytesOf s).drop p).getD j (-1) = -1 := by rw [List.getD_eq_getElem?_getD, List.getElem?_eq_none (by omega)]; rfl
    rw [if_pos (by omega), yes, if_neg (fun h => by rw [hn] at h; exact absurd h.2.2.1 (by decide))]
  have e3 := bt_get s p 3 (by omega)
  rw [show ((3 : Nat) : Int) = 3 from rfl] at e3
  rw [if_neg (by omega), if_pos (by omega), if_pos (by omega), bt_get s p j (by omega)]
  by_cases c125 : ((bytesOf s).drop p).getD j (-1) = 125
  · rw [if_pos c125, if_pos (by omega), if_pos (by omega), e3]
    by_cases c48 : ((bytesOf s).drop p).getD 3 (-1) = 48
    · rw [if_pos c48, yes, if_neg (fun h => h.2.1 c48)]
    · rw [if_neg c48]
      by_cases c128 : n < 128
      · rw [decide_eq_true c128, yes, if_neg (fun h => by omega)]
      · rw [decide_eq_false c128, braced_j2 k p n j false h0 h1 (by omega) (by omega) (fun _ => by omega) (by omega)]
        by_cases hc : n ≤ 1114111 ∧ ¬ (55296 ≤ n ∧ n ≤ 57343)
        · rw [if_pos ⟨rfl, hc⟩, if_pos ⟨c3, c48, c125, by omega, hc.1, hc.2⟩]
        · rw [if_neg (fun h => hc h.2), if_neg (fun h => hc ⟨h.2.2.2.2.1, h.2.2.2.2.2⟩)]
  · rw [if_neg c125, yes, if_neg (fun h => c125 h.2.2.1)]
theorem braced_loop (s : ByteArray) (hs : s.size ≤ 1073741824) (p : Nat) : ∀ (f k : Nat) (n : Int) (j : Nat), j + f = 9 → 3 ≤ j → p + j ≤ s.size → 0 ≤ n → n < 16 ^ (j - 3) → f + 8 < k →
    galleyref23_braced.l0 k s (p : Int) n ((p : Int) + (j : Int)) = some (brOut ((bytesOf s).drop p) (brN f n j ((bytesOf s).drop (p + j))).1 (brN f n j ((bytesOf s).drop (p + j))).2.1) := by
  have hsm : ∀ (n : Int) (j : Nat), j ≤ 9 → n < 16 ^ (j - 3) → n ≤ 16777215 := fun n j hj h => by
    have h2 : (16 : Int) ^ (j - 3) ≤ 16 ^ 6 := by exact_mod_cast Nat.pow_le_pow_right (by decide) (show j - 3 ≤ 6 by omega)
    omega
  intro f
  induction f with
  | zero =>
    intro k n j hj h3 hle h0 hn hk
    obtain ⟨k, rfl⟩ : ∃ k', k = k' + 1 := ⟨k - 1, by omega⟩
    have hj1 := braced_j1 s hs k p n j h0 (hsm n j (by omega) hn) h3 (by omega) hle (by omega)
    rw [galleyref23_braced.l0, w64 ((p : Int) + 9) (by omega) (by omega)]
    by_cases c : ((p : Int) + (j : Int)) < (s.size : Int)
    · rw [if_pos c, if_neg (by omega), hj1]; rfl
    · rw [if_neg c, hj1]; rfl
  | succ f ih =>
    intro k n j hj h3 hle h0 hn hk
    obtain ⟨k, rfl⟩ : ∃ k', k = k' + 1 := ⟨k - 1, by omega⟩
    have hj1 := braced_j1 s hs k p n j h0 (hsm n j (by omega) hn) h3 (by omega) hle (by omega)
    have h16 := hsm n j (by omega) hn
    rw [galleyref23_braced.l0, w64 ((p : Int) + 9) (by omega) (by omega)]
    by_cases c : p + j < s.size
    · obtain ⟨t, e1, e2⟩ := bt_cons s (p + j) c
      have ec : ((p + j : Nat) : Int) = (p : Int) + (j : Int) := by omega
      rw [ec] at e1
      rw [if_pos (by omega), if_pos (by omega), if_pos (by omega), value_f k _ (bt_range s _) (by omega), Option.bind_some, e1]
      by_cases hd : 0 ≤ dig (bt s ((p : Int) + (j : Int)))
      · have hr := dig_range' (bt s ((p : Int) + (j : Int)))
        rw [if_pos hd, Option.bind_some, brN, if_pos hd, w64 (16 * n) (by omega) (by omega), w64 (16 * n + _) (by omega) (by omega), w64 _ (by omega) (by omega)]
        have := ih k (16 * n + dig (bt s ((p : Int) + (j : Int)))) (j + 1) (by omega) (by omega) (by omega) (by omega) (by
          rw [show j + 1 - 3 = (j - 3) + 1 by omega, Int.pow_succ]; omega) (by omega)
        rw [show ((p : Int) + ((j + 1 : Nat) : Int)) = (p : Int) + (j : Int) + 1 by omega, show p + (j + 1) = p + j + 1 by omega, ← e2] at this
        exact this
      · rw [if_neg hd, brN, if_neg hd, hj1]
    · rw [if_neg (by omega), List.drop_eq_nil_of_le (show (bytesOf s).length ≤ p + j by rw [bytesOf_length]; omega), hj1]; rfl
theorem byRune_out (t : List Int) : byRune t = if t.getD 2 (-1) = 123 then brOut t (brN 6 0 3 (t.drop 3)).1 (brN 6 0 3 (t.drop 3)).2.1 else ([], 0) := by
  obtain ⟨ds, h1, h2, _⟩ := brN_spec 6 0 3 (t.drop 3)
  have hrest : (brN 6 0 3 (t.drop 3)).2.2.getD 0 (-1) = t.getD (brN 6 0 3 (t.drop 3)).2.1 (-1) := by
    rw [h2]
    have : (brN 6 0 3 (t.drop 3)).2.2 = t.drop (3 + ds.length) := by
      have h3 := congrArg (List.drop ds.length) h1
      rw [List.drop_left, List.drop_drop] at h3
      exact h3.symm
    rw [this, List.getD_eq_getElem?_getD, List.getElem?_drop, List.getD_eq_getElem?_getD, Nat.add_zero]
  unfold byRune brOut
  simp only
  by_cases c : t.getD 2 (-1) = 123
  · rw [if_pos c, hrest]
    by_cases hc : (brN 6 0 3 (t.drop 3)).2.1 ≠ 3 ∧ t.getD 3 (-1) ≠ 48 ∧ t.getD (brN 6 0 3 (t.drop 3)).2.1 (-1) = 125 ∧ 128 ≤ (brN 6 0 3 (t.drop 3)).1 ∧ (brN 6 0 3 (t.drop 3)).1 ≤ 1114111 ∧ ¬ (55296 ≤ (brN 6 0 3 (t.drop 3)).1 ∧ (brN 6 0 3 (t.drop 3)).1 ≤ 57343)
    · rw [if_pos ⟨c, hc⟩, if_pos hc]
    · rw [if_neg (fun h => hc h.2), if_neg hc]
  · rw [if_neg c, if_neg (fun h => c h.1)]
theorem braced_f (s : ByteArray) (hs : s.size ≤ 1073741824) (k p : Nat) (h : p + 3 ≤ s.size) (h2 : ((bytesOf s).drop p).getD 2 (-1) = 123) (hk : 20 < k) : galleyref23_braced.f k s (p : Int) = some (byRune ((bytesOf s).drop p)) := by
  have := braced_loop s hs p 6 k 0 3 (by omega) (by omega) h (by decide) (by decide) (by omega)
  unfold galleyref23_braced.f
  rw [w64 _ (by omega) (by omega), byRune_out, if_pos h2, List.drop_drop]
  exact this
theorem rpiece_f (s : ByteArray) (hs : s.size ≤ 1073741824) (k p : Nat) (h : p < s.size) (hk : 30 < k) :
    galleyref23_piece.f k s (p : Int) = some ((pieceL ((bytesOf s).drop p)).1, (pieceL ((bytesOf s).drop p)).2, decide ((pieceL ((bytesOf s).drop p)).2 = 4)) := by
  have hlen : ((bytesOf s).drop p).length = s.size - p := by rw [List.length_drop, bytesOf_length]
  have g0 : bt s (p : Int) = ((bytesOf s).drop p).getD 0 (-1) := by
    have := bt_get s p 0 (by omega)
    rw [show ((p : Int) + ((0 : Nat) : Int)) = (p : Int) by omega] at this; exact this
  have g1 : p + 1 < s.size → bt s ((p : Int) + 1) = ((bytesOf s).drop p).getD 1 (-1) := fun h => bt_get s p 1 h
  have g2 : p + 2 < s.size → bt s ((p : Int) + 2) = ((bytesOf s).drop p).getD 2 (-1) := fun h => bt_get s p 2 h
  have g3 : p + 3 < s.size → bt s ((p : Int) + 3) = ((bytesOf s).drop p).getD 3 (-1) := fun h => bt_get s p 3 h
  have w1 : wrap64 ((p : Int) + 1) = (p : Int) + 1 := w64 _ (by omega) (by omega)
  have w2 : wrap64 ((p : Int) + 2) = (p : Int) + 2 := w64 _ (by omega) (by omega)
  have w3 : wrap64 ((p : Int) + 3) = (p : Int) + 3 := w64 _ (by omega) (by omega)
  have hr2 := bt_range s ((p : Int) + 2)
  have hr3 := bt_range s ((p : Int) + 3)
  have hbr : p + 3 ≤ s.size → ((bytesOf s).drop p).getD 2 (-1) = 123 → galleyref23_braced.f k s (p : Int) = some (byRune ((bytesOf s).drop p)) := fun a b => braced_f s hs k p a b (by omega)
  have hn : ∀ j, s.size ≤ p + j → ((bytesOf s).drop p).getD j (-1) = -1 := fun j hj => by rw [List.getD_eq_getElem?_getD, List.getElem?_eq_none (by omega)]; rfl
  generalize hT : (bytesOf s).drop p = t at *
  have none_ : ∀ x : List Int × Int, x = ([], 0) → some (([] : List Int), (0 : Int), false) = some (x.1, x.2, decide (x.2 = 4)) := fun x hx => by rw [hx]; rfl
  unfold galleyref23_piece.f pieceL
  simp only
  rw [w1, w2, w3, if_pos (by omega), if_pos (by omega), g0]
  by_cases c92 : t.getD 0 (-1) = 92
  · rw [if_pos c92, if_neg (show ¬ t.getD 0 (-1) ≠ 92 from fun h => h c92)]
    by_cases l2 : s.size ≤ p + 1
    · rw [if_pos (by omega), hn 1 l2]; rfl
    rw [if_neg (by omega), if_pos (by omega), if_pos (by omega), g1 (by omega)]
    by_cases k1 : t.getD 1 (-1) = 92
    · rw [if_pos k1, if_pos k1]; rfl
    rw [if_neg k1, if_neg k1]
    by_cases k2 : t.getD 1 (-1) = 110
    · rw [if_pos k2, if_pos k2]; rfl
    rw [if_neg k2, if_neg k2]
    by_cases k3 : t.getD 1 (-1) = 114
    · rw [if_pos k3, if_pos k3]; rfl
    rw [if_neg k3, if_neg k3]
    by_cases k4 : t.getD 1 (-1) = 116
    · rw [if_pos k4, if_pos k4]; rfl
    rw [if_neg k4, if_neg k4]
    by_cases k5 : t.getD 1 (-1) = 120
    · rw [if_pos k5, if_pos k5]
      have hno : galleyref23_piece.j0 k s (p : Int) true = some ([], 0, false) := by
        obtain ⟨k, rfl⟩ : ∃ k', k = k' + 1 := ⟨k - 1, by omega⟩
        rw [galleyref23_piece.j0, if_pos rfl]
      by_cases l4 : s.size ≤ p + 3
      · rw [if_pos (by omega), hno]
        refine none_ _ ?_
        unfold byTwo
        rw [if_neg]
        rw [hn 3 l4]
        intro hc; exact absurd hc.2 (by decide)
      rw [if_neg (by omega), if_pos (by omega), if_pos (by omega), value_f k _ hr2 (by omega), Option.bind_some, g2 (by omega)]
      by_cases d2 : dig (t.getD 2 (-1)) < 0
      · rw [if_pos d2, hno]
        refine none_ _ ?_
        unfold byTwo
        rw [if_neg (fun hc => by omega)]
      rw [if_neg d2, if_pos (by omega), if_pos (by omega), value_f k _ hr3 (by omega), Option.bind_some, g3 (by omega)]
      by_cases d3 : dig (t.getD 3 (-1)) < 0
      · rw [decide_eq_true d3, hno]
        refine none_ _ ?_
        unfold byTwo
        rw [if_neg (fun hc => by omega)]
      rw [decide_eq_false d3]
      have q2 := dig_range' (t.getD 2 (-1))
      have q3 := dig_range' (t.getD 3 (-1))
      have hB : byTwo (t.getD 2 (-1)) (t.getD 3 (-1)) = if (16 * dig (t.getD 2 (-1)) + dig (t.getD 3 (-1))) = 9 ∨ (16 * dig (t.getD 2 (-1)) + dig (t.getD 3 (-1))) = 10 ∨ (16 * dig (t.getD 2 (-1)) + dig (t.getD 3 (-1))) = 13 ∨ (32 ≤ (16 * dig (t.getD 2 (-1)) + dig (t.getD 3 (-1))) ∧ (16 * dig (t.getD 2 (-1)) + dig (t.getD 3 (-1))) ≤ 126) then ([], 0) else ([16 * dig (t.getD 2 (-1)) + dig (t.getD 3 (-1))], 4) := by
        unfold byTwo; rw [if_pos (by omega)]
      obtain ⟨k, rfl⟩ : ∃ k', k = k' + 1 := ⟨k - 1, by omega⟩
      rw [galleyref23_piece.j0, w2, w3, if_neg (by simp), if_pos (by omega), if_pos (by omega), value_f k _ hr2 (by omega), Option.bind_some, if_pos (by omega), if_pos (by omega), value_f k _ hr3 (by omega), Option.bind_some, g2 (by omega), g3 (by omega), hB]
      have e1 : wrap64 (16 * dig (t.getD 2 (-1))) = 16 * dig (t.getD 2 (-1)) := w64 _ (by omega) (by omega)
      have e2 : wrap64 (16 * dig (t.getD 2 (-1)) + dig (t.getD 3 (-1))) = 16 * dig (t.getD 2 (-1)) + dig (t.getD 3 (-1)) := w64 _ (by omega) (by omega)
      rw [e1, e2]
      have hv0 : 0 ≤ 16 * dig (t.getD 2 (-1)) + dig (t.getD 3 (-1)) := by omega
      have hv1 : 16 * dig (t.getD 2 (-1)) + dig (t.getD 3 (-1)) ≤ 255 := by omega
      generalize 16 * dig (t.getD 2 (-1)) + dig (t.getD 3 (-1)) = v at hv0 hv1 ⊢
      have hm : v % 256 = v := by omega
      rw [hm]
      by_cases v9 : v = 9
      · rw [if_pos v9, if_pos (.inl v9)]; rfl
      rw [if_neg v9]
      by_cases v10 : v = 10
      · rw [if_pos v10, if_pos (.inr (.inl v10))]; rfl
      rw [if_neg v10]
      by_cases v13 : v = 13
      · rw [if_pos v13, if_pos (.inr (.inr (.inl v13)))]; rfl
      rw [if_neg v13]
      by_cases v32 : 32 ≤ v
      · rw [if_pos v32]
        by_cases v126 : v ≤ 126
        · rw [if_pos v126, if_pos (.inr (.inr (.inr ⟨v32, v126⟩)))]; rfl
        · rw [if_neg v126, if_neg (by omega)]; rfl
      · rw [if_neg v32, if_neg (by omega)]; rfl
    rw [if_neg k5, if_neg k5]
    by_cases k6 : t.getD 1 (-1) = 117
    · rw [if_pos k6, if_pos k6]
      by_cases l3 : s.size ≤ p + 2
      · rw [if_pos (by omega)]
        refine none_ _ ?_
        rw [byRune_out, if_neg]
        rw [hn 2 l3]; decide
      rw [if_neg (by omega), if_pos (by omega), if_pos (by omega), g2 (by omega)]
      by_cases c123 : t.getD 2 (-1) = 123
      · rw [if_pos c123, hbr (by omega) c123, Option.bind_some]
        have h4 : ¬ (byRune t).2 = 4 := by
          rw [byRune_out, if_pos c123]
          unfold brOut
          split
          · rename_i hc
            obtain ⟨ds, s1, s2, s3, _⟩ := brN_spec 6 0 3 (t.drop 3)
            have := hc.1
            simp only; omega
          · decide
        rw [decide_eq_false h4]
      · rw [if_neg c123]
        refine none_ _ ?_
        rw [byRune_out, if_neg c123]
    · rw [if_neg k6, if_neg k6]; rfl
  · rw [if_neg c92, if_pos (show t.getD 0 (-1) ≠ 92 from c92)]
    by_cases c32 : t.getD 0 (-1) < 32
    · rw [if_pos c32, if_neg (by omega)]; rfl
    rw [if_neg c32]
    by_cases c126 : t.getD 0 (-1) > 126
    · rw [if_pos c126, if_neg (by omega)]; rfl
    · rw [if_neg c126, if_pos (by omega)]; rfl
end Go.Proofs.YtflddgoapibleaaDoor.Hand

namespace Go.Proofs.YtflddgoapibleaaDoor.Hand
open Go.RowKit Go.Proofs.YtflddgoapibleaaDoor.Esc Go.Proofs.YtflddgoapibleaaDoorW.PrintWords Go.Proofs.YtflddgoapibleaaDoorW.PrintLast Go.Proofs.YtflddgoapibleaaDoorW.PrintMore
theorem dec_le4 (l : List Int) : (dec l).2 ≤ 4 := by
  rw [dec_eq4]; unfold dec4
  repeat' split
  all_goals simp
theorem dec_nil : (dec []).2 = 1 := by decide
theorem dec_short (l : List Int) (h : (dec l).2 ≠ 1) : (dec l).2 ≤ l.length := by
  rcases Nat.eq_zero_or_pos l.length with h0 | h0
  · rw [List.eq_nil_of_length_eq_zero h0] at h; exact absurd dec_nil h
  · exact dec_le l h0
theorem dec_more (b r : List Int) (hb : Bytes b) (h : (dec b).2 ≠ 1) : dec (b ++ r) = dec b := by
  have hl := dec_short b h
  have hp := dec_pos b
  rcases dec_cases b (head_byte b hb (by omega)).1 with ⟨_, e⟩ | ⟨_, e⟩ | ⟨x, t, hx, hx1, hxl, e⟩
  · rw [e] at h; exact absurd rfl h
  · rw [e] at h; exact absurd rfl h
  · rw [e, hxl, List.append_assoc]; exact dec_enc x hx (t ++ r)
theorem dec_exact (b r : List Int) (hb : Bytes (b ++ r)) (h : (dec (b ++ r)).2 ≠ 1) (hl : (dec (b ++ r)).2 = b.length) : (dec b).2 = b.length ∧ (dec b).2 ≠ 1 := by
  have hs := dec_short (b ++ r) h
  have hp := dec_pos (b ++ r)
  rcases dec_cases (b ++ r) (head_byte (b ++ r) hb (by omega)).1 with ⟨_, e⟩ | ⟨_, e⟩ | ⟨x, t, hx, hx1, hxl, e⟩
  · rw [e] at h; exact absurd rfl h
  · rw [e] at h; exact absurd rfl h
  · rw [e] at hl h
    have h1 : b = enc x := (List.append_inj hxl hl.symm).1
    have h2 := dec_enc x hx []
    rw [List.append_nil, ← h1] at h2
    rw [h2]
    exact ⟨rfl, by rw [h1]; exact h⟩
end Go.Proofs.YtflddgoapibleaaDoor.Hand

namespace Go.Proofs.YtflddgoapibleaaDoor.Hand
open Go.RowKit Go.Proofs.YtflddgoapibleaaDoor.Esc Go.Proofs.YtflddgoapibleaaDoorW.PrintWords Go.Proofs.YtflddgoapibleaaDoorW.PrintLast Go.Proofs.YtflddgoapibleaaDoorW.PrintMore
def runN : Nat → List Int → List Int
  | 0, _ => []
  | k + 1, t => if (pieceL t).2 = 4 ∧ 128 ≤ (pieceL t).1.getD 0 0 then (pieceL t).1.getD 0 0 :: runN k (t.drop 4) else []
def run (t : List Int) : List Int := runN t.length t
theorem four_is {t : List Int} (h : (pieceL t).2 = 4) : IsPiece t (pieceL t).1 (pieceL t).2 := (piece_is t).resolve_left (fun e => by rw [e] at h; exact absurd h (by decide))
theorem runN_more : ∀ (k j : Nat) (t : List Int), t.length ≤ k → t.length ≤ j → runN k t = runN j t := by
  intro k
  induction k with
  | zero =>
    intro j t h1 h2
    obtain rfl := List.eq_nil_of_length_eq_zero (by omega : t.length = 0)
    cases j with
    | zero => rfl
    | succ j => rw [runN, runN, if_neg (by decide)]
  | succ k ih =>
    intro j t h1 h2
    cases j with
    | zero =>
      obtain rfl := List.eq_nil_of_length_eq_zero (by omega : t.length = 0)
      rw [runN, runN, if_neg (by decide)]
    | succ j =>
      rw [runN, runN]
      by_cases h : (pieceL t).2 = 4 ∧ 128 ≤ (pieceL t).1.getD 0 0
      · have hsz := (four_is h.1).size
        rw [if_pos h, if_pos h, ih j (t.drop 4) (by rw [List.length_drop]; omega) (by rw [List.length_drop]; omega)]
      · rw [if_neg h, if_neg h]
theorem run_cons (t : List Int) (h : (pieceL t).2 = 4 ∧ 128 ≤ (pieceL t).1.getD 0 0) : run t = (pieceL t).1.getD 0 0 :: run (t.drop 4) := by
  have hsz := (four_is h.1).size
  unfold run
  obtain ⟨n, hn⟩ : ∃ n, t.length = n + 1 := ⟨t.length - 1, by omega⟩
  rw [hn, runN, if_pos h, runN_more n (t.drop 4).length (t.drop 4) (by rw [List.length_drop]; omega) (Nat.le_refl _)]
theorem run_nil (t : List Int) (h : ¬ ((pieceL t).2 = 4 ∧ 128 ≤ (pieceL t).1.getD 0 0)) : run t = [] := by
  unfold run
  cases t.length with
  | zero => rfl
  | succ n => rw [runN, if_neg h]
theorem single_iff (t : List Int) : single t (pieceL t).1 (pieceL t).2 ↔ (pieceL t).2 = 4 ∧ 128 ≤ (pieceL t).1.getD 0 0 := by
  constructor
  · intro h; exact ⟨h.1, h.2.2.2⟩
  · intro h
    have hsz := (four_is h.1).size.2.2.2.2.2 h.1
    exact ⟨h.1, hsz.2.1, hsz.2.2, h.2⟩
theorem rjoins_loop (s : ByteArray) (hs : s.size ≤ 1073741824) : ∀ (m k p : Nat) (b : List Int), b.length + m = 4 → p ≤ s.size → (∀ x ∈ b, 128 ≤ x ∧ x ≤ 255) →
    ((dec (b ++ run ((bytesOf s).drop p))).2 ≠ 1 → b.length < (dec (b ++ run ((bytesOf s).drop p))).2) → 4 * m + 50 < k →
    galleyref23_joins.l0 k s (p : Int) b = some (decide ((dec (b ++ run ((bytesOf s).drop p))).2 ≠ 1)) := by
  intro m
  induction m with
  | zero =>
    intro k p b hbm hp hb hd hk
    obtain ⟨k, rfl⟩ : ∃ k', k = k' + 1 + 1 := ⟨k - 2, by omega⟩
    rw [galleyref23_joins.l0, if_neg (by omega), galleyref23_joins.j1, if_neg (by simp)]
    congr 1
    symm
    apply decide_eq_false
    intro h
    have := hd h
    have := dec_le4 (b ++ run ((bytesOf s).drop p))
    omega
  | succ m ih =>
    intro k p b hbm hp hb hd hk
    obtain ⟨k, rfl⟩ : ∃ k', k = k' + 1 + 1 + 1 := ⟨k - 3, by omega⟩
    have hno : run ((bytesOf s).drop p) = [] → decide ((dec (b ++ run ((bytesOf s).drop p))).2 ≠ 1) = false := fun e => by
      apply decide_eq_false
      intro h
      have h1 := hd h
      rw [e, List.append_nil] at h h1
      have := dec_short b h
      omega
    have hj2 : ∀ (v : List Int) (n : Int), galleyref23_joins.j2 (k + 1) s (p : Int) b v n true = some false := fun v n => by rw [galleyref23_joins.j2, if_pos rfl]
    rw [galleyref23_joins.l0, if_pos (by omega)]
    by_cases hlt : p < s.size
    · rw [decide_eq_true (show (p : Int) < (s.size : Int) by omega), galleyref23_joins.j1, if_pos rfl, rpiece_f s hs (k + 1) p hlt (by omega), Option.bind_some]
      generalize hT : (bytesOf s).drop p = t at *
      by_cases h0 : (pieceL t).2 = 0
      · rw [if_pos h0, hj2, hno (run_nil t (fun h => by rw [h0] at h; exact absurd h.1 (by decide)))]
      · rw [if_neg h0]
        by_cases h4 : (pieceL t).2 = 4
        · have hsz := (four_is h4).size
          rw [if_pos (decide_eq_true h4), if_pos (show (0 : Int) < ((pieceL t).1.length : Int) by omega)]
          have hrd : rd (pieceL t).1 0 = (pieceL t).1.getD 0 0 := rfl
          rw [hrd]
          by_cases h128 : (pieceL t).1.getD 0 0 < 128
          · rw [decide_eq_true h128, hj2, hno (run_nil t (fun h => by omega))]
          · rw [decide_eq_false h128, galleyref23_joins.j2, if_neg (by simp), if_pos (show (0 : Int) < ((pieceL t).1.length : Int) by omega), if_pos (by omega), Option.bind_some, hrd]
            have hrun := run_cons t ⟨h4, by omega⟩
            have hx255 : (pieceL t).1.getD 0 0 ≤ 255 := by
              have h1 := hsz.2.2.2.2.1
              have h2 := hsz.2.2.2.1
              cases hB : (pieceL t).1 with
              | nil => rw [hB] at h2; simp at h2
              | cons y ys => rw [hB] at h1; exact (h1 y List.mem_cons_self).2
            generalize (pieceL t).1.getD 0 0 = x at *
            have hb' : ∀ y ∈ b ++ [x], 128 ≤ y ∧ y ≤ 255 := fun y hy => by
              rcases List.mem_append.1 hy with h | h
              · exact hb y h
              · simp at h; omega
            have hcat : b ++ run t = (b ++ [x]) ++ run (t.drop 4) := by rw [hrun]; simp
            have hbb : Bytes (b ++ [x]) := fun y hy => by have := hb' y hy; omega
            rw [rwhole_f k (b ++ [x]) (by simp) (by simp; omega) hb' (by omega), Option.bind_some]
            by_cases hw : (dec (b ++ [x])).2 ≠ 1 ∧ (dec (b ++ [x])).2 = (b ++ [x]).length
            · rw [if_pos (decide_eq_true hw)]
              congr 1
              symm
              apply decide_eq_true
              rw [hcat, dec_more _ _ hbb hw.1]
              exact hw.1
            · rw [if_neg (by rw [decide_eq_false hw]; simp), h4, w64 ((p : Int) + 4) (by omega) (by omega)]
              have hbr : Bytes ((b ++ [x]) ++ run (t.drop 4)) := bytes_append hbb (fun y hy => by
                have key : ∀ (n : Nat) (u : List Int), ∀ y ∈ runN n u, 0 ≤ y ∧ y ≤ 255 := by
                  intro n
                  induction n with
                  | zero => intro u y hy; simp [runN] at hy
                  | succ n ih2 =>
                    intro u y hy
                    rw [runN] at hy
                    split at hy
                    · rename_i hc
                      rcases List.mem_cons.1 hy with rfl | hy
                      · have hz := (four_is hc.1).size
                        have h1 := hz.2.2.2.2.1
                        have h2 := hz.2.2.2.1
                        cases hB : (pieceL u).1 with
                        | nil => rw [hB] at h2; simp at h2
                        | cons z zs => rw [hB] at h1; exact h1 z List.mem_cons_self
                      · exact ih2 _ y hy
                    · simp at hy
                exact key _ _ y hy)
              have hT4 : (bytesOf s).drop (p + 4) = t.drop 4 := by rw [← hT, List.drop_drop]
              have hlt4 : p + 4 ≤ s.size := by
                have h1 := hsz.2.1
                have h2 : t.length = s.size - p := by rw [← hT, List.length_drop, bytesOf_length]
                omega
              have := ih k (p + 4) (b ++ [x]) (by simp; omega) hlt4 hb' (by
                rw [hT4]
                intro h5
                have h6 := hd (by rw [hcat]; exact h5)
                rw [hcat] at h6
                rcases Nat.lt_or_ge (b ++ [x]).length (dec ((b ++ [x]) ++ run (t.drop 4))).2 with h7 | h7
                · exact h7
                · exfalso
                  have h8 := dec_exact (b ++ [x]) (run (t.drop 4)) hbr h5 (by rw [List.length_append] at h7 ⊢; rw [List.length_cons, List.length_nil] at h7 ⊢; omega)
                  exact hw ⟨h8.2, h8.1⟩) (by omega)
              rw [hT4, ← hcat] at this
              rw [show ((p : Int) + 4) = ((p + 4 : Nat) : Int) by omega]
              exact this
        · rw [if_neg (by rw [decide_eq_false h4]; simp), hj2, hno (run_nil t (fun h => h4 h.1))]
    · rw [decide_eq_false (show ¬ (p : Int) < (s.size : Int) by omega), galleyref23_joins.j1, if_neg (by simp)]
      have : (bytesOf s).drop p = [] := List.drop_eq_nil_of_le (by rw [bytesOf_length]; omega)
      rw [hno (by rw [this]; rfl)]
theorem rjoins_f (s : ByteArray) (hs : s.size ≤ 1073741824) (k p : Nat) (hp : p ≤ s.size) (hk : 66 < k) : galleyref23_joins.f k s (p : Int) = some (decide ((dec (run ((bytesOf s).drop p))).2 ≠ 1)) := by
  have := rjoins_loop s hs 4 k p [] rfl hp (fun x hx => by simp at hx) (fun _ => by rw [List.nil_append]; exact dec_pos _) (by omega)
  unfold galleyref23_joins.f
  exact this
def refL : Nat → List Int → Int → List Int → List Int × Int × Int
  | 0, out, _, _ => (out, 0, 0)
  | k + 1, out, a, t => if t = [] then (out, 0, 0) else if (pieceL t).2 = 0 then ([], a, 230) else if (pieceL t).2 = 4 ∧ (dec (run t)).2 ≠ 1 then ([], a, 230) else refL k (out ++ (pieceL t).1) (a + (pieceL t).2) (t.drop (pieceL t).2.toNat)
theorem refL_fuel : ∀ (k j : Nat) (out : List Int) (a : Int) (t : List Int), t.length < k → t.length < j → refL k out a t = refL j out a t := by
  intro k
  induction k with
  | zero => intro j out a t h; omega
  | succ k ih =>
    intro j out a t h1 h2
    obtain ⟨j, rfl⟩ : ∃ j', j = j' + 1 := ⟨j - 1, by omega⟩
    rw [refL, refL]
    by_cases h0 : t = []
    · rw [if_pos h0, if_pos h0]
    rw [if_neg h0, if_neg h0]
    by_cases hp0 : (pieceL t).2 = 0
    · rw [if_pos hp0, if_pos hp0]
    rw [if_neg hp0, if_neg hp0]
    have hsz := ((piece_is t).resolve_left (fun e => hp0 (by rw [e]))).size
    rw [ih j _ _ _ (by rw [List.length_drop]; omega) (by rw [List.length_drop]; omega)]
theorem ref_loop (s : ByteArray) (hs : s.size ≤ 1073741824) : ∀ (n k p : Nat) (out : List Int), p + n = s.size → n + 80 < k → out.length ≤ p →
    galleyref23_Unquote.l0 k s out (p : Int) = some (refL (n + 1) out (p : Int) ((bytesOf s).drop p)) := by
  intro n
  induction n using Nat.strongRecOn with
  | _ n ih =>
  intro k p out hp hk ho
  obtain ⟨k, rfl⟩ : ∃ k', k = k' + 1 := ⟨k - 1, by omega⟩
  have hlen : ((bytesOf s).drop p).length = n := by rw [List.length_drop, bytesOf_length]; omega
  rw [galleyref23_Unquote.l0, refL]
  by_cases h0 : n = 0
  · rw [if_neg (by omega), if_pos (List.eq_nil_of_length_eq_zero (by omega))]
  · have hne : ¬ (bytesOf s).drop p = [] := fun e => h0 (by rw [← hlen, e]; rfl)
    rw [if_pos (by omega), if_neg hne, rpiece_f s hs k p (by omega) (by omega), Option.bind_some]
    have hj := rjoins_f s hs k p (by omega) (by omega)
    generalize hT : (bytesOf s).drop p = t at *
    by_cases hp0 : (pieceL t).2 = 0
    · rw [if_pos hp0, if_pos hp0]
    rw [if_neg hp0, if_neg hp0]
    have hsz := ((piece_is t).resolve_left (fun e => hp0 (by rw [e]))).size
    have hnext : (if out.length + (pieceL t).1.length < 140737488355328 then galleyref23_Unquote.l0 k s (out ++ (pieceL t).1) (wrap64 ((p : Int) + (pieceL t).2)) else none) = some (refL n (out ++ (pieceL t).1) ((p : Int) + (pieceL t).2) (t.drop (pieceL t).2.toNat)) := by
      have hm : (p : Int) + (pieceL t).2 = ((p + (pieceL t).2.toNat : Nat) : Int) := by omega
      rw [if_pos (by omega), w64 _ (by omega) (by omega)]
      have := ih (n - (pieceL t).2.toNat) (by omega) k (p + (pieceL t).2.toNat) (out ++ (pieceL t).1) (by omega) (by omega) (by rw [List.length_append]; omega)
      rw [← hm] at this
      rw [this]
      have hd : (bytesOf s).drop (p + (pieceL t).2.toNat) = t.drop (pieceL t).2.toNat := by rw [← hT, List.drop_drop]
      rw [hd]
      exact congrArg some (refL_fuel _ _ _ _ _ (by rw [List.length_drop]; omega) (by rw [List.length_drop]; omega))
    by_cases h4 : (pieceL t).2 = 4
    · rw [if_pos (decide_eq_true h4), hj, Option.bind_some]
      by_cases hd : (dec (run t)).2 ≠ 1
      · rw [if_pos (decide_eq_true hd), if_pos ⟨h4, hd⟩]
      · rw [if_neg (by rw [decide_eq_false hd]; simp), if_neg (show ¬ ((pieceL t).2 = 4 ∧ (dec (run t)).2 ≠ 1) from fun h => hd h.2)]
        exact hnext
    · rw [if_neg (by rw [decide_eq_false h4]; simp), if_neg (show ¬ ((pieceL t).2 = 4 ∧ (dec (run t)).2 ≠ 1) from fun h => h4 h.1)]
      exact hnext
theorem ref_f (s : ByteArray) (hs : s.size ≤ 1073741824) (k : Nat) (hk : s.size + 80 < k) : galleyref23_Unquote.f k s = some (refL (s.size + 1) [] 0 (bytesOf s)) := by
  have := ref_loop s hs s.size k 0 [] (by omega) hk (Nat.le_refl _)
  unfold galleyref23_Unquote.f
  simpa using this
def joinA : List Int → List Int → List Int → Int
  | b :: bl, s :: ss, r => if (dec (b :: bl ++ r)).2 ≠ 1 then s else joinA bl ss r
  | _, _, _ => -1
theorem joinA_nil : ∀ (bl ss : List Int), joinA bl ss [] = joinL bl ss := by
  intro bl
  induction bl with
  | nil => intro ss; rfl
  | cons b bl ih =>
    intro ss
    cases ss with
    | nil => rfl
    | cons s ss => rw [joinA, joinL, List.append_nil, ih]
theorem joinA_snoc (x a : Int) (r : List Int) : ∀ (bl ss : List Int), bl.length = ss.length → (∀ s ∈ ss, 0 ≤ s) →
    joinA (bl ++ [x]) (ss ++ [a]) r = if 0 ≤ joinA bl ss (x :: r) then joinA bl ss (x :: r) else if (dec (x :: r)).2 ≠ 1 then a else -1 := by
  intro bl
  induction bl with
  | nil =>
    intro ss hl _
    obtain rfl : ss = [] := List.eq_nil_of_length_eq_zero (by simpa using hl.symm)
    rfl
  | cons b bl ih =>
    intro ss hl h0
    cases ss with
    | nil => simp at hl
    | cons s ss =>
      have e : (b :: (bl ++ [x])) ++ r = (b :: bl) ++ (x :: r) := by simp
      show joinA (b :: (bl ++ [x])) (s :: (ss ++ [a])) r = _
      rw [joinA, joinA, e, ih ss (by simpa using hl) (fun y hy => h0 y (List.mem_cons_of_mem _ hy))]
      by_cases hd : (dec ((b :: bl) ++ (x :: r))).2 ≠ 1
      · rw [if_pos hd, if_pos hd, if_pos (h0 s List.mem_cons_self)]
      · rw [if_neg hd, if_neg hd]
theorem unq_ref : ∀ (k : Nat) (out0 bl sing : List Int) (a : Int) (t : List Int), t.length < k → bl.length = sing.length → (∀ s ∈ sing, 0 ≤ s) → 0 ≤ a →
    unqL k (out0 ++ bl) sing a t = if 0 ≤ joinA bl sing (run t) then ([], joinA bl sing (run t), 230) else refL k (out0 ++ bl) a t := by
  intro k
  induction k with
  | zero => intro out0 bl sing a t h; omega
  | succ k ih =>
    intro out0 bl sing a t hk hl hs ha
    have hja : joinAt (out0 ++ bl) sing = joinL bl sing := by
      unfold joinAt
      rw [List.length_append, ← hl, show out0.length + bl.length - bl.length = out0.length by omega, List.drop_left]
    rw [unqL, refL, hja]
    by_cases h0 : t = []
    · rw [if_pos h0, if_pos h0, h0, show run [] = [] from rfl, joinA_nil]
    rw [if_neg h0, if_neg h0]
    by_cases hp0 : (pieceL t).2 = 0
    · rw [if_pos hp0, if_pos hp0, run_nil t (fun h => by rw [hp0] at h; exact absurd h.1 (by decide)), joinA_nil]
    rw [if_neg hp0, if_neg hp0]
    have hsz := ((piece_is t).resolve_left (fun e => hp0 (by rw [e]))).size
    have hlen : (t.drop (pieceL t).2.toNat).length < k := by rw [List.length_drop]; omega
    by_cases hsg : single t (pieceL t).1 (pieceL t).2
    · have hsi := (single_iff t).1 hsg
      have hr := run_cons t hsi
      have h1 := (hsz.2.2.2.2.2 hsi.1).1
      have hb1 : (pieceL t).1 = [(pieceL t).1.getD 0 0] := by
        cases hB : (pieceL t).1 with
        | nil => rw [hB] at h1; simp at h1
        | cons y ys =>
          rw [hB] at h1
          have : ys = [] := List.eq_nil_of_length_eq_zero (by simpa using h1)
          rw [this]; rfl
      have e4 : (pieceL t).2.toNat = 4 := by rw [hsi.1]; rfl
      rw [if_pos hsg]
      have := ih out0 (bl ++ [(pieceL t).1.getD 0 0]) (sing ++ [a]) (a + (pieceL t).2) (t.drop (pieceL t).2.toNat) hlen (by simp; omega) (fun y hy => by
        rcases List.mem_append.1 hy with h | h
        · exact hs y h
        · simp at h; omega) (by omega)
      rw [joinA_snoc _ _ _ bl sing hl hs, e4, ← hr] at this
      rw [hb1, List.append_assoc, e4, this]
      by_cases hj : 0 ≤ joinA bl sing (run t)
      · rw [if_pos hj, if_pos hj, if_pos hj]
      · rw [if_neg hj, if_neg hj]
        by_cases hd : (dec (run t)).2 ≠ 1
        · rw [if_pos hd, if_pos ha, if_pos ⟨hsi.1, hd⟩]
        · rw [if_neg hd, if_neg (by decide), if_neg (fun h => hd h.2)]
    · rw [if_neg hsg]
      have hr := run_nil t (fun h => hsg ((single_iff t).2 h))
      rw [hr, joinA_nil]
      by_cases hj : 0 ≤ joinL bl sing
      · rw [if_pos hj, if_pos hj]
      · rw [if_neg hj, if_neg hj, if_neg (fun h => h.2 dec_nil)]
        have := ih (out0 ++ bl ++ (pieceL t).1) [] [] (a + (pieceL t).2) (t.drop (pieceL t).2.toNat) hlen rfl (fun y hy => by simp at hy) (by omega)
        rw [List.append_nil] at this
        rw [this, if_neg (by show ¬ (0 : Int) ≤ -1; decide)]
theorem unq_alike (t : List Int) : unqL (t.length + 1) [] [] 0 t = refL (t.length + 1) [] 0 t := by
  have := unq_ref (t.length + 1) [] [] [] 0 t (by omega) rfl (fun y hy => by simp at hy) (by decide)
  rw [if_neg (by show ¬ (0 : Int) ≤ -1; decide)] at this
  exact this
end Go.Proofs.YtflddgoapibleaaDoor.Hand
