/- Contracts and laws, those that ZOwn needs. -/
import Derived.Test.YtflddgoapibleaaDoorVPlain4
import Derived.Test.YtflddgoapibleaaDoorVPlain1
import Derived.Test.YtflddgoapibleaaDoorVWalk9
import Derived.Test.YtflddgoapibleaaDoorVWalk6
set_option linter.unusedVariables false
set_option linter.unusedSimpArgs false
namespace Go.Proofs.YtflddgoapibleaaDoor.Hand
open Go.RowKit Go.Proofs.YtflddgoapibleaaDoor.Esc Go.Proofs.YtflddgoapibleaaDoorW.PrintWords Go.Proofs.YtflddgoapibleaaDoorW.PrintLast Go.Proofs.YtflddgoapibleaaDoorW.PrintMore
theorem dec_need (a : Int) (m : List Int) (h0 : 0 ≤ a) (h : (dec (a :: m)).2 ≠ 1) : ((dec (a :: m)).2 : Int) = needI a := by
  rcases dec_cases (a :: m) h0 with ⟨_, e⟩ | ⟨_, e⟩ | ⟨r, t, hr, hr1, hl, e⟩
  · rw [e] at h; exact absurd rfl h
  · rw [e] at h; exact absurd rfl h
  · have hr' := hr
    unfold Rune at hr'
    rw [e]
    by_cases e2 : r < 2048
    · have he := enc2 r (by omega)
      rw [he] at hl; injection hl with h1 _
      have hn : needI a = 2 := by unfold needI; rw [if_neg (by omega), if_neg (by omega), if_pos (by omega)]
      rw [hn, he]; rfl
    by_cases e3 : r < 65536
    · have he := enc3 r (by omega) hr
      rw [he] at hl; injection hl with h1 _
      have hn : needI a = 3 := by unfold needI; rw [if_neg (by omega), if_neg (by omega), if_neg (by omega), if_pos (by omega)]
      rw [hn, he]; rfl
    · have he := enc4 r (by omega) hr
      rw [he] at hl; injection hl with h1 _
      have hn : needI a = 4 := by unfold needI; rw [if_neg (by omega), if_neg (by omega), if_neg (by omega), if_neg (by omega), if_pos (by omega)]
      rw [hn, he]; rfl
theorem rwhole_low (k : Nat) (a : Int) (h : 0 ≤ a ∧ a < 128) (hk : 12 < k) : galleyref01_Whole.f k [a] = some true := by
  obtain ⟨k, rfl⟩ : ∃ k', k = k' + 4 := ⟨k - 4, by omega⟩
  have hn : needI a = 1 := by unfold needI; rw [if_pos (by omega)]
  have hrd : rd [a] 0 = a := rfl
  unfold galleyref01_Whole.f galleyref01_Begins.f
  rw [if_neg (by simp), if_pos (by simp), hrd, rneed_f, Option.bind_some, hn]
  rw [decide_eq_false (show ¬ ((([a] : List Int).length : Int) > 1) by simp), galleyref01_Begins.j0, if_neg (by simp), if_neg (by simp), galleyref01_Begins.j1, galleyref01_Begins.l0, if_neg (by simp), Option.bind_some, if_pos rfl, if_pos (by simp), Option.bind_some]
  rfl
theorem take_drop_eq (l : List Int) (p n : Nat) : (l.take (p + n)).drop p = (l.drop p).take n := by
  rw [List.drop_take]; congr 1; omega
theorem rwhole_step (k : Nat) (t : List Int) (hb : Bytes t) (h : 0 < t.length) (hk : 12 < k) :
    galleyref01_Whole.f k (t.take (dec t).2) = some (decide (t.getD 0 (-1) < 128 ∨ (dec t).2 ≠ 1)) := by
  have hp := dec_pos t
  have h4 := dec_le4 t
  have hle := dec_le t h
  match t, h with
  | a :: m, _ =>
    have ha := hb a List.mem_cons_self
    have hg : (a :: m).getD 0 (-1) = a := rfl
    rw [hg]
    by_cases hlow : a < 128
    · rw [dec_low (a :: m) (by rw [hg]; exact hlow), decide_eq_true (Or.inl hlow)]
      exact rwhole_low k a ⟨ha.1, hlow⟩ hk
    · have hlen : ((a :: m).take (dec (a :: m)).2).length = (dec (a :: m)).2 := by rw [List.length_take]; omega
      obtain ⟨u, hu⟩ : ∃ u, (a :: m).take (dec (a :: m)).2 = a :: u := ⟨m.take ((dec (a :: m)).2 - 1), by
        obtain ⟨n, hn⟩ : ∃ n, (dec (a :: m)).2 = n + 1 := ⟨(dec (a :: m)).2 - 1, by omega⟩
        rw [hn]; rfl⟩
      rw [rwhole_g k _ (by omega) (by omega) (by rw [hu]; show 128 ≤ a ∧ a ≤ 255; omega) hk]
      congr 1
      apply decide_eq_decide.2
      rw [hlen]
      by_cases hd : (dec (a :: m)).2 = 1
      · rw [hd]
        constructor
        · rintro ⟨h1, h2⟩
          have : (dec ((a :: m).take 1)).2 ≤ 1 := by omega
          exact absurd (by omega) h1
        · rintro (h1 | h1)
          · exact absurd h1 hlow
          · exact absurd rfl h1
      · have hsp : (a :: m) = (a :: m).take (dec (a :: m)).2 ++ (a :: m).drop (dec (a :: m)).2 := (List.take_append_drop _ _).symm
        have hx := dec_exact ((a :: m).take (dec (a :: m)).2) ((a :: m).drop (dec (a :: m)).2) (by rw [← hsp]; exact hb) (by rw [← hsp]; exact hd) (by rw [← hsp, hlen])
        rw [hlen] at hx
        exact ⟨fun _ => Or.inr hd, fun _ => ⟨hx.2, hx.1⟩⟩
theorem rwidth_f (k : Nat) (l : List Int) (p : Nat) (hb : Bytes l) (hl : l.length ≤ 1073741824) (hp : p < l.length) (hk : 12 < k) :
    galleyref01_Width.f k l (p : Int) = some ((dec (l.drop p)).2 : Int) := by
  have hrd : rd l (p : Int) = l[p] := by
    unfold rd; rw [show ((p : Int)).toNat = p by omega, List.getD_eq_getElem?_getD, List.getElem?_eq_getElem hp]; rfl
  have hx := hb (l[p]) (List.getElem_mem hp)
  have hdc := List.drop_eq_getElem_cons hp
  have hbt : Bytes (l.drop p) := bytes_of_drop hb p
  have hlen : (l.drop p).length = l.length - p := List.length_drop
  have hn0 : 0 ≤ needI l[p] ∧ needI l[p] ≤ 4 := by
    unfold needI
    repeat' split
    all_goals omega
  unfold galleyref01_Width.f
  rw [if_pos (by omega), if_pos (by omega), hrd, rneed_f, Option.bind_some, w64 _ (by omega) (by omega)]
  have hiff := dec_iff l[p] (l.drop (p + 1)) hx.1
  rw [← hdc] at hiff
  by_cases h1 : needI l[p] ≥ 1
  · rw [if_pos h1]
    by_cases h2 : (p : Int) + needI l[p] ≤ (l.length : Int)
    · rw [if_pos h2, if_pos (by omega)]
      have htk : ((l.take ((p : Int) + needI l[p]).toNat).drop (p : Int).toNat) = (l.drop p).take (needI l[p]).toNat := by
        rw [show ((p : Int) + needI l[p]).toNat = p + (needI l[p]).toNat by omega, show (p : Int).toNat = p by omega, take_drop_eq]
      rw [htk]
      by_cases hlow : l[p] < 128
      · have hn : needI l[p] = 1 := by unfold needI; rw [if_pos (by omega)]
        have hd1 : (dec (l.drop p)).2 = 1 := dec_low _ (by rw [hdc]; exact hlow)
        rw [hn, hd1]
        have : (l.drop p).take (1 : Int).toNat = [l[p]] := by rw [hdc]; rfl
        rw [this, rwhole_low k _ ⟨hx.1, hlow⟩ hk, Option.bind_some, if_pos rfl]; rfl
      · obtain ⟨u, hu⟩ : ∃ u, (l.drop p).take (needI l[p]).toNat = l[p] :: u := ⟨(l.drop (p + 1)).take ((needI l[p]).toNat - 1), by
          obtain ⟨n, hn⟩ : ∃ n, (needI l[p]).toNat = n + 1 := ⟨(needI l[p]).toNat - 1, by omega⟩
          rw [hn, hdc]; rfl⟩
        have hul : ((l.drop p).take (needI l[p]).toNat).length = (needI l[p]).toNat := by rw [List.length_take, hlen]; omega
        rw [rwhole_g k _ (by rw [hul]; omega) (by rw [hul]; omega) (by rw [hu]; show 128 ≤ l[p] ∧ l[p] ≤ 255; omega) hk, Option.bind_some, hul]
        by_cases hd : (dec (l.drop p)).2 = 1
        · rw [if_neg, hd]; · rfl
          rw [decide_eq_true_eq]
          rintro ⟨h3, h4⟩
          have h5 := dec_more ((l.drop p).take (needI l[p]).toNat) ((l.drop p).drop (needI l[p]).toNat) (fun z hz => hbt z (List.mem_of_mem_take hz)) h3
          rw [List.take_append_drop] at h5
          rw [h5] at hd
          exact h3 hd
        · have hw : ((dec (l.drop p)).2 : Int) = needI l[p] := by
            have := dec_need l[p] (l.drop (p + 1)) hx.1
            rw [← hdc] at this; exact this hd
          have hsp : (l.drop p) = (l.drop p).take (needI l[p]).toNat ++ (l.drop p).drop (needI l[p]).toNat := (List.take_append_drop _ _).symm
          have hx2 := dec_exact ((l.drop p).take (needI l[p]).toNat) ((l.drop p).drop (needI l[p]).toNat) (by rw [← hsp]; exact hbt) (by rw [← hsp]; exact hd) (by rw [← hsp, hul]; omega)
          rw [hul] at hx2
          rw [if_pos (decide_eq_true ⟨hx2.2, hx2.1⟩), hw]
    · rw [if_neg h2]
      have hd : (dec (l.drop p)).2 = 1 := by
        by_cases hd : (dec (l.drop p)).2 = 1
        · exact hd
        · have := hiff.1 hd
          rw [List.length_drop] at this
          omega
      rw [hd]; rfl
  · rw [if_neg h1]
    have hd : (dec (l.drop p)).2 = 1 := by
      by_cases hd : (dec (l.drop p)).2 = 1
      · exact hd
      · have := hiff.1 hd
        omega
    rw [hd]; rfl
def edgesN : Nat → Nat → List Int → List Int
  | 0, _, _ => []
  | _ + 1, _, [] => []
  | k + 1, p, a :: t => ((p + (dec (a :: t)).2 : Nat) : Int) :: edgesN k (p + (dec (a :: t)).2) ((a :: t).drop (dec (a :: t)).2)
theorem edgesN_len : ∀ (n p : Nat) (t : List Int), (edgesN n p t).length ≤ n := by
  intro n
  induction n with
  | zero => intro p t; exact Nat.le_refl _
  | succ n ih =>
    intro p t
    match t with
    | [] => exact Nat.zero_le _
    | a :: t => rw [edgesN, List.length_cons]; have := ih (p + (dec (a :: t)).2) ((a :: t).drop (dec (a :: t)).2); omega
theorem edgesN_cons (n p : Nat) (t : List Int) (h : 0 < t.length) : edgesN (n + 1) p t = ((p + (dec t).2 : Nat) : Int) :: edgesN n (p + (dec t).2) (t.drop (dec t).2) := by
  match t, h with
  | a :: t, _ => rfl
theorem edges_loop (l : List Int) (hb : Bytes l) (hl : l.length ≤ 1073741824) : ∀ (n k p : Nat) (D : List Int), p ≤ l.length → l.length - p ≤ n → n + 13 < k → D.length + n ≤ 1073741825 →
    galleyref04_Edges.l0 k l D (p : Int) = some (D ++ edgesN n p (l.drop p)) := by
  intro n
  induction n with
  | zero =>
    intro k p D hp hn hk hD
    obtain ⟨k, rfl⟩ : ∃ k', k = k' + 1 := ⟨k - 1, by omega⟩
    rw [galleyref04_Edges.l0, if_neg (by omega), edgesN, List.append_nil]
  | succ n ih =>
    intro k p D hp hn hk hD
    obtain ⟨k, rfl⟩ : ∃ k', k = k' + 1 := ⟨k - 1, by omega⟩
    by_cases h : p < l.length
    · have hpos : 0 < (l.drop p).length := by rw [List.length_drop]; omega
      have hd := dec_pos (l.drop p)
      have hdl := dec_le (l.drop p) hpos
      rw [List.length_drop] at hdl
      rw [galleyref04_Edges.l0, if_pos (by omega), rwidth_f k l p hb hl h (by omega), Option.bind_some, if_pos (by omega), w64 _ (by omega) (by omega)]
      have := ih k (p + (dec (l.drop p)).2) (D ++ [((p + (dec (l.drop p)).2 : Nat) : Int)]) (by omega) (by omega) (by omega) (by rw [List.length_append, List.length_singleton]; omega)
      rw [show (p : Int) + ((dec (l.drop p)).2 : Int) = ((p + (dec (l.drop p)).2 : Nat) : Int) by omega, this, edgesN_cons n p _ hpos, List.append_assoc, List.drop_drop]
      rfl
    · rw [galleyref04_Edges.l0, if_neg (by omega), List.drop_eq_nil_of_le (by omega)]
      simp [edgesN]
theorem edges_f (l : List Int) (hb : Bytes l) (hl : l.length ≤ 1073741824) (k : Nat) (hk : l.length + 13 < k) : galleyref04_Edges.f k l = some (0 :: edgesN l.length 0 l) := by
  have := edges_loop l hb hl l.length k 0 [0] (Nat.zero_le _) (by omega) hk (by simp; omega)
  unfold galleyref04_Edges.f
  rw [List.drop_zero] at this
  exact this
theorem rd_head (x : List Int) (i : Nat) (a : Int) (r : List Int) (h : x.drop i = a :: r) : rd x (i : Int) = a ∧ i < x.length ∧ x.drop (i + 1) = r := by
  have hlt : i < x.length := by
    by_cases hh : i < x.length
    · exact hh
    · rw [List.drop_eq_nil_of_le (by omega)] at h; cases h
  rw [List.drop_eq_getElem_cons hlt] at h
  injection h with h1 h2
  refine ⟨?_, hlt, h2⟩
  unfold rd; rw [show ((i : Int)).toNat = i by omega, List.getD_eq_getElem?_getD, List.getElem?_eq_getElem hlt]; exact h1
theorem rdigit_f (a : Int) (h0 : 0 ≤ a) (h1 : a < 16) : galleyref23_digit.f a = some (strOfNums [hexDigit a]) := by
  unfold galleyref23_digit.f hexDigit
  by_cases h : a < 10
  · rw [if_pos h, if_pos h, w64 _ (by omega) (by omega)]; congr 3; omega
  · rw [if_neg h, if_neg h, w64 (97 + a) (by omega) (by omega), w64 _ (by omega) (by omega)]; congr 3; omega
theorem rtwo_f (a : Int) (h0 : 0 ≤ a) (h1 : a ≤ 255) : galleyref23_two.f a = some (strOfNums [hexDigit (a / 16), hexDigit (a % 16)]) := by
  unfold galleyref23_two.f
  rw [w64 a (by omega) (by omega), Int.tdiv_eq_ediv_of_nonneg h0, Int.tmod_eq_emod_of_nonneg h0, w64 (a / 16) (by omega) (by omega), rdigit_f _ (by omega) (by omega), Option.bind_some, rdigit_f _ (by omega) (by omega), Option.bind_some, if_pos (by rw [strOfNums_size, strOfNums_size]; simp), str_append]
  rfl
theorem rdigits_loop : ∀ (m k : Nat) (x : Int) (D : List Int), 0 ≤ x → x < 16 ^ m → m ≤ 8 → m < k → D.length + m ≤ 100 →
    galleyref23_digits.l0 k x (strOfNums D) = some (strOfNums ((if x = 0 then [] else hexN m x) ++ D)) := by
  intro m
  induction m with
  | zero =>
    intro k x D h0 h1 h8 hk hD
    obtain ⟨k, rfl⟩ : ∃ k', k = k' + 1 := ⟨k - 1, by omega⟩
    have : x = 0 := by simp at h1; omega
    rw [galleyref23_digits.l0, if_neg (by omega), if_pos this]; rfl
  | succ m ih =>
    intro k x D h0 h1 h8 hk hD
    obtain ⟨k, rfl⟩ : ∃ k', k = k' + 1 := ⟨k - 1, by omega⟩
    have hpow : (16 : Int) ^ m ≤ 16 ^ 7 := by exact_mod_cast Nat.pow_le_pow_right (by omega) (show m ≤ 7 by omega)
    rw [Int.pow_succ] at h1
    by_cases hx : x = 0
    · rw [galleyref23_digits.l0, if_neg (by omega), if_pos hx]; rfl
    · rw [galleyref23_digits.l0, if_pos (by omega), Int.tmod_eq_emod_of_nonneg h0, rdigit_f _ (by omega) (by omega), Option.bind_some, if_pos (by rw [strOfNums_size, strOfNums_size]; simp; omega), Int.tdiv_eq_ediv_of_nonneg h0, w64 _ (by omega) (by omega), str_append,
        ih k (x / 16) _ (by omega) (by omega) (by omega) (by omega) (by simp; omega), if_neg hx, hexN]
      by_cases h16 : x < 16
      · rw [if_pos h16, if_pos (show x / 16 = 0 by omega), show x % 16 = x by omega]; rfl
      · rw [if_neg h16, if_neg (show ¬ x / 16 = 0 by omega), List.append_assoc]
theorem rdigits_f (k : Nat) (x : Int) (h0 : 0 ≤ x) (h1 : x ≤ 1114111) (hk : 8 < k) : galleyref23_digits.f k x = some (strOfNums (hexN 8 x)) := by
  have h7 : (16 : Int) ^ 7 = 268435456 := by decide
  unfold galleyref23_digits.f
  rw [Int.tmod_eq_emod_of_nonneg h0, rdigit_f _ (by omega) (by omega), Option.bind_some, Int.tdiv_eq_ediv_of_nonneg h0, w64 _ (by omega) (by omega),
    rdigits_loop 7 k (x / 16) _ (by omega) (by rw [h7]; omega) (by omega) (by omega) (by simp), show hexN 8 x = if x < 16 then [hexDigit x] else hexN 7 (x / 16) ++ [hexDigit (x % 16)] from rfl]
  by_cases h16 : x < 16
  · rw [if_pos h16, if_pos (show x / 16 = 0 by omega), show x % 16 = x by omega]; rfl
  · rw [if_neg h16, if_neg (show ¬ x / 16 = 0 by omega)]
end Go.Proofs.YtflddgoapibleaaDoor.Hand

namespace Go.Proofs.YtflddgoapibleaaDoor.Hand
open Go.RowKit Go.Proofs.YtflddgoapibleaaDoor.Esc Go.Proofs.YtflddgoapibleaaDoorW.PrintWords Go.Proofs.YtflddgoapibleaaDoorW.PrintLast Go.Proofs.YtflddgoapibleaaDoorW.PrintMore
theorem enc_head (r : Int) (hr : Rune r) (h : 128 ≤ r) : 194 ≤ (enc r).getD 0 (-1) ∧ (enc r).getD 0 (-1) ≤ 244 ∧ 2 ≤ (enc r).length ∧ (enc r).length ≤ 4 := by
  have hr' := hr
  unfold Rune at hr'
  by_cases e2 : r < 2048
  · rw [enc2 r (by omega)]; simp only [List.getD_cons_zero, List.length_cons, List.length_nil]; omega
  by_cases e3 : r < 65536
  · rw [enc3 r (by omega) hr]; simp only [List.getD_cons_zero, List.length_cons, List.length_nil]; omega
  · rw [enc4 r (by omega) hr]; simp only [List.getD_cons_zero, List.length_cons, List.length_nil]; omega
theorem rwhole_enc (k : Nat) (r : Int) (hr : Rune r) (h : 128 ≤ r) (hk : 12 < k) : galleyref01_Whole.f k (enc r) = some true := by
  have hh := enc_head r hr h
  have hd := dec_enc r hr []
  rw [List.append_nil] at hd
  rw [rwhole_g k (enc r) (by omega) (by omega) (by omega) hk, hd, decide_eq_true]
  exact ⟨by show (enc r).length ≠ 1; omega, rfl⟩
theorem rvalue_f (k : Nat) (r : Int) (hr : Rune r) (h : 128 ≤ r) (hk : 20 < k) : galleyref01_Value.f k (enc r) = some r := by
  have hr' := hr
  unfold Rune at hr'
  unfold galleyref01_Value.f
  rw [rwhole_enc k r hr h (by omega), Option.bind_some, if_pos rfl]
  obtain ⟨k, rfl⟩ : ∃ k', k = k' + 6 := ⟨k - 6, by omega⟩
  by_cases e2 : r < 2048
  · rw [enc2 r (by omega), if_pos (by simp), if_pos (by simp), show rd [192 + r / 64, 128 + r % 64] 0 = 192 + r / 64 from rfl, w64 _ (by omega) (by omega), show Int.tmod (192 + r / 64) 32 = r / 64 by rw [Int.tmod_eq_emod_of_nonneg (by omega)]; omega, galleyref01_Value.j0,
      galleyref01_Value.l0, if_pos (by simp), if_pos (by omega), show rd [192 + r / 64, 128 + r % 64] 1 = 128 + r % 64 from rfl, w64 (r / 64 * 64) (by omega) (by omega), w64 (128 + r % 64) (by omega) (by omega), show Int.tmod (128 + r % 64) 64 = r % 64 by rw [Int.tmod_eq_emod_of_nonneg (by omega)]; omega, show r / 64 * 64 + r % 64 = r by omega, w64 r (by omega) (by omega), w64 (1 + 1) (by omega) (by omega),
      galleyref01_Value.l0, if_neg (by simp), w32 _ (by omega) (by omega)]
  by_cases e3 : r < 65536
  · rw [enc3 r (by omega) hr, if_pos (by simp), if_neg (by simp), if_pos (by simp), show rd [224 + r / 4096, 128 + r / 64 % 64, 128 + r % 64] 0 = 224 + r / 4096 from rfl, w64 _ (by omega) (by omega), show Int.tmod (224 + r / 4096) 16 = r / 4096 by rw [Int.tmod_eq_emod_of_nonneg (by omega)]; omega, galleyref01_Value.j0,
      galleyref01_Value.l0, if_pos (by simp), if_pos (by omega), show rd [224 + r / 4096, 128 + r / 64 % 64, 128 + r % 64] 1 = 128 + r / 64 % 64 from rfl, w64 (r / 4096 * 64) (by omega) (by omega), w64 (128 + r / 64 % 64) (by omega) (by omega), show Int.tmod (128 + r / 64 % 64) 64 = r / 64 % 64 by rw [Int.tmod_eq_emod_of_nonneg (by omega)]; omega, show r / 4096 * 64 + r / 64 % 64 = r / 64 by omega, w64 (r / 64) (by omega) (by omega), w64 (1 + 1) (by omega) (by omega),
      galleyref01_Value.l0, if_pos (by simp), if_pos (by omega), show rd [224 + r / 4096, 128 + r / 64 % 64, 128 + r % 64] (1 + 1) = 128 + r % 64 from rfl, w64 (r / 64 * 64) (by omega) (by omega), w64 (128 + r % 64) (by omega) (by omega), show Int.tmod (128 + r % 64) 64 = r % 64 by rw [Int.tmod_eq_emod_of_nonneg (by omega)]; omega, show r / 64 * 64 + r % 64 = r by omega, w64 r (by omega) (by omega), w64 (1 + 1 + 1) (by omega) (by omega),
      galleyref01_Value.l0, if_neg (by simp), w32 _ (by omega) (by omega)]
  · rw [enc4 r (by omega) hr, if_pos (by simp), if_neg (by simp), if_neg (by simp), if_pos (by simp), show rd [240 + r / 262144, 128 + r / 4096 % 64, 128 + r / 64 % 64, 128 + r % 64] 0 = 240 + r / 262144 from rfl, w64 _ (by omega) (by omega), show Int.tmod (240 + r / 262144) 8 = r / 262144 by rw [Int.tmod_eq_emod_of_nonneg (by omega)]; omega, galleyref01_Value.j0,
      galleyref01_Value.l0, if_pos (by simp), if_pos (by omega), show rd [240 + r / 262144, 128 + r / 4096 % 64, 128 + r / 64 % 64, 128 + r % 64] 1 = 128 + r / 4096 % 64 from rfl, w64 (r / 262144 * 64) (by omega) (by omega), w64 (128 + r / 4096 % 64) (by omega) (by omega), show Int.tmod (128 + r / 4096 % 64) 64 = r / 4096 % 64 by rw [Int.tmod_eq_emod_of_nonneg (by omega)]; omega, show r / 262144 * 64 + r / 4096 % 64 = r / 4096 by omega, w64 (r / 4096) (by omega) (by omega), w64 (1 + 1) (by omega) (by omega),
      galleyref01_Value.l0, if_pos (by simp), if_pos (by omega), show rd [240 + r / 262144, 128 + r / 4096 % 64, 128 + r / 64 % 64, 128 + r % 64] (1 + 1) = 128 + r / 64 % 64 from rfl, w64 (r / 4096 * 64) (by omega) (by omega), w64 (128 + r / 64 % 64) (by omega) (by omega), show Int.tmod (128 + r / 64 % 64) 64 = r / 64 % 64 by rw [Int.tmod_eq_emod_of_nonneg (by omega)]; omega, show r / 4096 * 64 + r / 64 % 64 = r / 64 by omega, w64 (r / 64) (by omega) (by omega), w64 (1 + 1 + 1) (by omega) (by omega),
      galleyref01_Value.l0, if_pos (by simp), if_pos (by omega), show rd [240 + r / 262144, 128 + r / 4096 % 64, 128 + r / 64 % 64, 128 + r % 64] (1 + 1 + 1) = 128 + r % 64 from rfl, w64 (r / 64 * 64) (by omega) (by omega), w64 (128 + r % 64) (by omega) (by omega), show Int.tmod (128 + r % 64) 64 = r % 64 by rw [Int.tmod_eq_emod_of_nonneg (by omega)]; omega, show r / 64 * 64 + r % 64 = r by omega, w64 r (by omega) (by omega), w64 (1 + 1 + 1 + 1) (by omega) (by omega),
      galleyref01_Value.l0, if_neg (by simp), w32 _ (by omega) (by omega)]
theorem rtwo_x (a : Int) (h0 : 0 ≤ a) (h1 : a ≤ 255) : ((galleyref23_two.f a).bind fun t405 => (if 2 + t405.size ≤ 9223372036854775807 then (some ((⟨#[92, 120]⟩ : ByteArray) ++ t405)) else (none))) = some (strOfNums [92, 120, hexDigit (a / 16), hexDigit (a % 16)]) := by
  rw [rtwo_f a h0 h1, Option.bind_some, if_pos (by rw [strOfNums_size]; simp), show (⟨#[92, 120]⟩ : ByteArray) = strOfNums [92, 120] from rfl, str_append]
  rfl
theorem rpc_f (k : Nat) (t : List Int) (hb : Bytes t) (h : 0 < t.length) (hk : 40 < k) : galleyref23_Piece.f k (t.take (dec t).2) = some (strOfNums (pc t)) := by
  have hw := rwhole_step k t hb h (by omega)
  have hh := head_byte t hb h
  unfold galleyref23_Piece.f
  rw [hw, Option.bind_some]
  have one : (dec t).2 = 1 → t.take (dec t).2 = [t.getD 0 (-1)] := by
    intro e
    rw [e]
    match t, h with
    | a :: m, _ => rfl
  rcases dec_cases t hh.1 with ⟨e0, e⟩ | ⟨e0, e⟩ | ⟨r, u, hr, hr1, hl, e⟩
  · rw [one (by rw [e])]
    unfold pc
    rw [e]
    generalize t.getD 0 (-1) = a at *
    rw [if_neg (by simp), if_pos (by simp), show rd [a] 0 = a from rfl, decide_eq_true (Or.inl e0)]
    simp only
    by_cases a1 : a = 92
    · rw [if_pos a1, if_pos a1]; rfl
    rw [if_neg a1, if_neg a1]
    by_cases a2 : a = 10
    · rw [if_pos a2, if_pos a2]; rfl
    rw [if_neg a2, if_neg a2]
    by_cases a3 : a = 13
    · rw [if_pos a3, if_pos a3]; rfl
    rw [if_neg a3, if_neg a3]
    by_cases a4 : a = 9
    · rw [if_pos a4, if_pos a4]; rfl
    rw [if_neg a4, if_neg a4, if_pos trivial]
    by_cases a5 : a ≥ 32
    · rw [if_pos a5]
      by_cases a6 : a ≤ 126
      · rw [if_pos a6, if_pos (by omega)]
      · rw [if_neg a6, if_neg (by omega), if_pos trivial, rtwo_x a hh.1 hh.2]
    · rw [if_neg a5, if_neg (by omega), if_pos trivial, rtwo_x a hh.1 hh.2]
  · rw [one (by rw [e])]
    unfold pc
    rw [e]
    generalize t.getD 0 (-1) = a at *
    rw [if_neg (by simp), if_pos (by simp), show rd [a] 0 = a from rfl, decide_eq_false (by omega)]
    simp only
    rw [if_neg (by omega), if_neg (by omega), if_neg (by omega), if_neg (by omega), if_neg (by simp), if_neg (by omega), if_neg (by omega), if_neg (by omega), if_neg (by omega), if_neg (by omega), if_pos trivial, rtwo_x a hh.1 hh.2]
  · have he := enc_head r hr hr1
    have hr' := hr
    unfold Rune at hr'
    have htk : t.take (dec t).2 = enc r := by rw [e, hl]; exact List.take_left
    have hg : t.getD 0 (-1) = (enc r).getD 0 (-1) := by
      rw [hl]
      match enc r, he.2.2.1 with
      | a :: m, _ => rfl
    rw [htk, if_pos (by omega), rvalue_f k r hr hr1 (by omega), Option.bind_some, w64 r (by omega) (by omega), rdigits_f k r (by omega) (by omega) (by omega), Option.bind_some,
      show (⟨#[92, 117, 123]⟩ : ByteArray) = strOfNums [92, 117, 123] from rfl, show (⟨#[125]⟩ : ByteArray) = strOfNums [125] from rfl, str_append, str_append]
    have hlen : (hexN 8 r).length ≤ 8 := hexN_len 8 r
    rw [if_pos (by rw [strOfNums_size]; omega), if_pos (by rw [strOfNums_size, List.length_append]; simp; omega)]
    unfold pc
    rw [hg, e]
    generalize (enc r).getD 0 (-1) = a at *
    simp only
    rw [if_neg (by omega), if_neg (by omega), if_neg (by omega), if_neg (by omega), if_neg (by omega), if_neg (by omega)]
theorem rquote_loop (l : List Int) (hb : Bytes l) (hl : l.length ≤ 1073741824) (x4 : List Int) (hx : x4.length ≤ 2147483648) : ∀ (n k p i : Nat) (D : List Int), x4.drop i = (p : Int) :: edgesN n p (l.drop p) → p ≤ l.length → l.length - p ≤ n → n + 50 < k → D.length ≤ 12 * p →
    galleyref23_Quote.l0 k l (strOfNums D) x4 (i : Int) = some (strOfNums (D ++ quo (l.drop p))) := by
  intro n
  induction n with
  | zero =>
    intro k p i D he hp hn hk hD
    obtain ⟨k, rfl⟩ : ∃ k', k = k' + 1 := ⟨k - 1, by omega⟩
    have h1 := rd_head x4 i _ _ he
    have h2 : x4.length - (i + 1) = 0 := by rw [← List.length_drop, h1.2.2]; rfl
    rw [galleyref23_Quote.l0, w64 _ (by omega) (by omega), if_neg (by omega), List.drop_eq_nil_of_le (by omega), show quo [] = [] from rfl, List.append_nil]
  | succ n ih =>
    intro k p i D he hp hn hk hD
    obtain ⟨k, rfl⟩ : ∃ k', k = k' + 1 := ⟨k - 1, by omega⟩
    have h1 := rd_head x4 i _ _ he
    by_cases h : p < l.length
    · have hpos : 0 < (l.drop p).length := by rw [List.length_drop]; omega
      have hd := dec_pos (l.drop p)
      have hdl := dec_le (l.drop p) hpos
      rw [List.length_drop] at hdl
      have he2 := h1.2.2
      rw [edgesN_cons n p _ hpos, List.drop_drop] at he2
      have h2 := rd_head x4 (i + 1) _ _ he2
      have hi1 : ((i : Int) + 1) = ((i + 1 : Nat) : Int) := by omega
      rw [galleyref23_Quote.l0, w64 _ (by omega) (by omega), hi1, h1.1, h2.1, if_pos (by omega), if_pos (by omega), if_pos (by omega), if_pos (by omega), if_pos (by omega), if_pos (by omega), if_pos (by omega),
        show (((p + (dec (l.drop p)).2 : Nat) : Int)).toNat = p + (dec (l.drop p)).2 by omega, show ((p : Int)).toNat = p by omega, take_drop_eq, rpc_f k _ (bytes_of_drop hb p) hpos (by omega), Option.bind_some]
      have hpl := pc_len (l.drop p)
      rw [if_pos (by rw [strOfNums_size, strOfNums_size]; omega), str_append, ih k (p + (dec (l.drop p)).2) (i + 1) _ he2 (by omega) (by omega) (by omega) (by rw [List.length_append]; omega), List.append_assoc]
      congr 3
      rw [← List.drop_drop]
      exact (steps_cons pc _ hpos).symm
    · have h2 : x4.length - (i + 1) = 0 := by
        rw [← List.length_drop, h1.2.2, List.drop_eq_nil_of_le (by omega)]; rfl
      rw [galleyref23_Quote.l0, w64 _ (by omega) (by omega), if_neg (by omega), List.drop_eq_nil_of_le (by omega), show quo [] = [] from rfl, List.append_nil]
theorem rquote_f (l : List Int) (hb : Bytes l) (hl : l.length ≤ 1073741824) (k : Nat) (hk : l.length + 50 < k) : galleyref23_Quote.f k l = some (strOfNums (quo l)) := by
  unfold galleyref23_Quote.f
  have he := edgesN_len l.length 0 l
  rw [edges_f l hb hl k (by omega), Option.bind_some, show (⟨#[]⟩ : ByteArray) = strOfNums [] from rfl]
  have := rquote_loop l hb hl (0 :: edgesN l.length 0 l) (by rw [List.length_cons]; omega) l.length k 0 0 [] rfl (Nat.zero_le _) (by omega) hk (Nat.zero_le _)
  rw [List.drop_zero, List.nil_append] at this
  exact this
theorem rplain_loop (l : List Int) (hb : Bytes l) (hl : l.length ≤ 1073741824) (x4 : List Int) (hx : x4.length ≤ 2147483648) : ∀ (n k p i : Nat) (D : List Int), x4.drop i = (p : Int) :: edgesN n p (l.drop p) → p ≤ l.length → l.length - p ≤ n → n + 50 < k → D.length ≤ 12 * p →
    galleyref23_Plain.l0 k l D x4 (i : Int) = some (strOfNums (D ++ plain (l.drop p))) := by
  intro n
  induction n with
  | zero =>
    intro k p i D he hp hn hk hD
    obtain ⟨k, rfl⟩ : ∃ k', k = k' + 1 := ⟨k - 1, by omega⟩
    have h1 := rd_head x4 i _ _ he
    have h2 : x4.length - (i + 1) = 0 := by rw [← List.length_drop, h1.2.2]; rfl
    rw [galleyref23_Plain.l0, w64 _ (by omega) (by omega), if_neg (by omega), List.drop_eq_nil_of_le (by omega), show plain [] = [] from rfl, List.append_nil]
  | succ n ih =>
    intro k p i D he hp hn hk hD
    obtain ⟨k, rfl⟩ : ∃ k', k = k' + 1 := ⟨k - 1, by omega⟩
    have h1 := rd_head x4 i _ _ he
    by_cases h : p < l.length
    · have hpos : 0 < (l.drop p).length := by rw [List.length_drop]; omega
      have hd := dec_pos (l.drop p)
      have h4 := dec_le4 (l.drop p)
      have hdl := dec_le (l.drop p) hpos
      have hbt := bytes_of_drop hb p
      have hh := head_byte _ hbt hpos
      rw [List.length_drop] at hdl
      have he2 := h1.2.2
      rw [edgesN_cons n p _ hpos, List.drop_drop] at he2
      have h2 := rd_head x4 (i + 1) _ _ he2
      have hi1 : ((i : Int) + 1) = ((i + 1 : Nat) : Int) := by omega
      have hpc := plain_cons (l.drop p) hpos
      rw [List.drop_drop] at hpc
      rw [galleyref23_Plain.l0, w64 _ (by omega) (by omega), hi1, h1.1, h2.1, if_pos (by omega), if_pos (by omega), if_pos (by omega), if_pos (by omega), if_pos (by omega), if_pos (by omega), if_pos (by omega),
        show (((p + (dec (l.drop p)).2 : Nat) : Int)).toNat = p + (dec (l.drop p)).2 by omega, show ((p : Int)).toNat = p by omega, take_drop_eq, rwhole_step k _ hbt hpos (by omega), Option.bind_some]
      have htl : ((l.drop p).take (dec (l.drop p)).2).length ≤ 4 := by rw [List.length_take]; omega
      by_cases hc : (l.drop p).getD 0 (-1) < 128 ∨ (dec (l.drop p)).2 ≠ 1
      · rw [decide_eq_true hc, if_pos rfl, if_pos (by omega), ih k (p + (dec (l.drop p)).2) (i + 1) _ he2 (by omega) (by omega) (by omega) (by rw [List.length_append]; omega), List.append_assoc, hpc]
        congr 4
        rcases dec_cases (l.drop p) hh.1 with ⟨e0, e⟩ | ⟨e0, e⟩ | ⟨r, u, hr, hr1, hu, e⟩
        · rw [e]
          show (l.drop p).take 1 = enc ((l.drop p).getD 0 (-1))
          rw [enc1 _ ⟨hh.1, e0⟩]
          match l.drop p, hpos with
          | a :: m, _ => rfl
        · rw [e] at hc
          rcases hc with hc | hc
          · omega
          · exact absurd rfl hc
        · rw [e]
          show (l.drop p).take (enc r).length = enc r
          rw [hu]; exact List.take_left
      · have hd1 : (dec (l.drop p)).2 = 1 := by
          by_cases h5 : (dec (l.drop p)).2 = 1
          · exact h5
          · exact absurd (Or.inr h5) hc
        have hge : ¬ (l.drop p).getD 0 (-1) < 128 := fun h5 => hc (Or.inl h5)
        have hru : (dec (l.drop p)).1 = 65533 := dec_shape _ (by omega) hd1
        have hen : (enc 65533).length ≤ 4 := (enc_len_ 65533 (by unfold Rune; omega)).2
        rw [decide_eq_false hc, if_neg (by simp), rbytes_f k 65533 (by unfold Rune; omega) (by omega), Option.bind_some, if_pos (by omega), ih k (p + (dec (l.drop p)).2) (i + 1) _ he2 (by omega) (by omega) (by omega) (by rw [List.length_append]; omega), List.append_assoc, hpc, hru]
    · have h2 : x4.length - (i + 1) = 0 := by
        rw [← List.length_drop, h1.2.2, List.drop_eq_nil_of_le (by omega)]; rfl
      rw [galleyref23_Plain.l0, w64 _ (by omega) (by omega), if_neg (by omega), List.drop_eq_nil_of_le (by omega), show plain [] = [] from rfl, List.append_nil]
theorem rplain_f (l : List Int) (hb : Bytes l) (hl : l.length ≤ 1073741824) (k : Nat) (hk : l.length + 50 < k) : galleyref23_Plain.f k l = some (strOfNums (plain l)) := by
  unfold galleyref23_Plain.f
  have he := edgesN_len l.length 0 l
  rw [edges_f l hb hl k (by omega), Option.bind_some]
  have := rplain_loop l hb hl (0 :: edgesN l.length 0 l) (by rw [List.length_cons]; omega) l.length k 0 0 [] rfl (Nat.zero_le _) (by omega) hk (Nat.zero_le _)
  rw [List.drop_zero, List.nil_append] at this
  exact this
theorem rhex_loop (l : List Int) (hb : Bytes l) (hl : l.length ≤ 1073741824) : ∀ (n k i : Nat) (D : List Int), i + n = l.length → n < k → D.length ≤ 2 * i →
    galleyref23_Hex.l0 k l (strOfNums D) (i : Int) = some (strOfNums (D ++ hexL (l.drop i))) := by
  intro n
  induction n with
  | zero =>
    intro k i D hi hk hD
    obtain ⟨k, rfl⟩ : ∃ k', k = k' + 1 := ⟨k - 1, by omega⟩
    rw [galleyref23_Hex.l0, if_neg (by omega), List.drop_eq_nil_of_le (by omega)]
    simp [hexL]
  | succ n ih =>
    intro k i D hi hk hD
    obtain ⟨k, rfl⟩ : ∃ k', k = k' + 1 := ⟨k - 1, by omega⟩
    have hlt : i < l.length := by omega
    have hx := hb (l[i]) (List.getElem_mem hlt)
    have hrd : rd l (i : Int) = l[i] := by
      unfold rd; rw [show ((i : Int)).toNat = i by omega, List.getD_eq_getElem?_getD, List.getElem?_eq_getElem hlt]; rfl
    rw [galleyref23_Hex.l0, if_pos (by omega), if_pos (by omega), hrd, rtwo_f _ hx.1 hx.2, Option.bind_some, if_pos (by rw [strOfNums_size, strOfNums_size]; simp; omega), w64 _ (by omega) (by omega), str_append]
    have h1 := ih k (i + 1) (D ++ [hexDigit (l[i] / 16), hexDigit (l[i] % 16)]) (by omega) (by omega) (by simp; omega)
    rw [show ((i : Int) + 1) = ((i + 1 : Nat) : Int) by omega, h1, List.append_assoc, List.drop_eq_getElem_cons hlt, hexL_cons]
    rfl
theorem rhex_f (l : List Int) (hb : Bytes l) (hl : l.length ≤ 1073741824) (k : Nat) (hk : l.length < k) : galleyref23_Hex.f k l = some (strOfNums (hexL l)) := by
  unfold galleyref23_Hex.f
  rw [show (⟨#[]⟩ : ByteArray) = strOfNums [] from rfl]
  have := rhex_loop l hb hl l.length k 0 [] (by omega) hk (Nat.zero_le _)
  rw [List.drop_zero, List.nil_append] at this
  exact this
end Go.Proofs.YtflddgoapibleaaDoor.Hand
