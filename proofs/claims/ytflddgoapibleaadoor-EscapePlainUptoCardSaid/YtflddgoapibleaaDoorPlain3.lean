/- Plain lists: what Unquote takes has one spelling; Unhex's mirror and the reference's are one plain function. -/
import Derived.Test.YtflddgoapibleaaDoorPlain2
import Derived.Test.YtflddgoapibleaaDoorWalk3
set_option linter.unusedVariables false
set_option linter.unusedSimpArgs false
namespace Go.Proofs.YtflddgoapibleaaDoor.Hand
open Go.RowKit Go.Proofs.YtflddgoapibleaaDoor.Esc Go.Proofs.YtflddgoapibleaaDoorW.PrintWords Go.Proofs.YtflddgoapibleaaDoorW.PrintLast Go.Proofs.YtflddgoapibleaaDoorW.PrintMore

theorem hexDigit_dig (a : Int) (h : 0 ≤ dig a) : hexDigit (dig a) = a := by
  unfold dig at *
  unfold hexDigit
  repeat' split at h
  · rename_i h1; rw [if_pos h1, if_pos (by omega)]; omega
  · rename_i h1 h2; rw [if_neg h1, if_pos h2, if_neg (by omega)]; omega
  · omega
theorem dig_zero (a : Int) (h : 0 ≤ dig a) (h0 : a ≠ 48) : 1 ≤ dig a := by
  unfold dig at *
  repeat' split at h
  · rename_i h1; rw [if_pos h1]; omega
  · rename_i h1 h2; rw [if_neg h1, if_pos h2]; omega
  · omega
theorem numOf_append (n : Int) (ds : List Int) (d : Int) : numOf n (ds ++ [d]) = 16 * numOf n ds + dig d := by
  unfold numOf; rw [List.foldl_append]; rfl
theorem numOf_ge : ∀ (ds : List Int) (n : Int), 0 ≤ n → (∀ x ∈ ds, 0 ≤ dig x) → n ≤ numOf n ds := by
  intro ds
  induction ds with
  | nil => intro n _ _; exact Int.le_refl _
  | cons d ds ih =>
    intro n h0 hd
    have h1 := hd d List.mem_cons_self
    have := ih (16 * n + dig d) (by omega) (fun x hx => hd x (List.mem_cons_of_mem _ hx))
    show n ≤ numOf (16 * n + dig d) ds
    omega
theorem numOf_pos (ds : List Int) (h : 1 ≤ ds.length) (hd : ∀ x ∈ ds, 0 ≤ dig x) (h0 : ds.getD 0 (-1) ≠ 48) : 1 ≤ numOf 0 ds := by
  cases ds with
  | nil => simp at h
  | cons d ds =>
    have h1 := dig_zero d (hd d List.mem_cons_self) h0
    have := numOf_ge ds (16 * 0 + dig d) (by omega) (fun x hx => hd x (List.mem_cons_of_mem _ hx))
    show 1 ≤ numOf (16 * 0 + dig d) ds
    omega
theorem hexN_num : ∀ (n k : Nat) (ds : List Int), ds.length = n → 1 ≤ n → n ≤ k → (∀ x ∈ ds, 0 ≤ dig x) → ds.getD 0 (-1) ≠ 48 → hexN k (numOf 0 ds) = ds := by
  intro n
  induction n with
  | zero => intro k ds _ h; omega
  | succ n ih =>
    intro k ds hl _ hk hd h0
    rcases List.eq_nil_or_concat ds with rfl | ⟨L, d, rfl⟩
    · simp at hl
    rw [List.concat_eq_append] at *
    have hdd := hd d (List.mem_append_right _ List.mem_cons_self)
    have hr := dig_range' d
    obtain ⟨k, rfl⟩ : ∃ k', k = k' + 1 := ⟨k - 1, by omega⟩
    rw [numOf_append]
    rcases Nat.eq_zero_or_pos n with h1 | h1
    · have : L = [] := List.eq_nil_of_length_eq_zero (by simp at hl; omega)
      subst this
      have e : 16 * numOf 0 [] + dig d = dig d := by show 16 * 0 + dig d = _; omega
      rw [e, hexN, if_pos (by omega), hexDigit_dig d hdd]
      rfl
    · have hL : L.length = n := by simp at hl; omega
      have hLd : ∀ x ∈ L, 0 ≤ dig x := fun x hx => hd x (List.mem_append_left _ hx)
      have hL0 : L.getD 0 (-1) ≠ 48 := by rw [← getD_append_left L [d] 0 (by omega)]; exact h0
      have hp := numOf_pos L (by omega) hLd hL0
      have e1 : (16 * numOf 0 L + dig d) / 16 = numOf 0 L := by omega
      have e2 : (16 * numOf 0 L + dig d) % 16 = dig d := by omega
      rw [hexN, if_neg (by omega), e1, e2, ih k L hL h1 (by omega) hLd hL0, hexDigit_dig d hdd]
/-- A piece that is no single byte is how its bytes are written, whatever follows. -/
theorem IsPiece.canon {t b : List Int} {n : Int} (h : IsPiece t b n) (hs : ¬ single t b n) (rest : List Int) :
    (dec (b ++ rest)).2 = b.length ∧ pc (b ++ rest) = t.take n.toNat ∧ ¬ (128 ≤ b.getD 0 (-1) ∧ b.getD 0 (-1) ≤ 191) := by
  have low : ∀ c : Int, 0 ≤ c → c < 128 → dec ([c] ++ rest) = (c, 1) := fun c h0 h1 => by
    rw [dec_eq4]; unfold dec4
    show (if c < 128 then (c, 1) else _) = _
    rw [if_pos h1]
  have pcl : ∀ c : Int, 0 ≤ c → c < 128 → pc ([c] ++ rest) = if c = 92 then [92, 92] else if c = 10 then [92, 110] else if c = 13 then [92, 114] else if c = 9 then [92, 116] else if 32 ≤ c ∧ c < 127 then [c] else [92, 120, hexDigit (c / 16), hexDigit (c % 16)] := fun c h0 h1 => by
    unfold pc
    rw [low c h0 h1]
    have e : ([c] ++ rest).getD 0 (-1) = c := rfl
    simp only [e, if_true]
  cases h with
  | plain c t h hn =>
    rw [low c (by omega) (by omega), pcl c (by omega) (by omega), if_neg hn, if_neg (by omega), if_neg (by omega), if_neg (by omega), if_pos (by omega)]
    exact ⟨rfl, rfl, by show ¬ (128 ≤ c ∧ c ≤ 191); omega⟩
  | letter x k t h =>
    rw [low x (by omega) (by omega), pcl x (by omega) (by omega)]
    refine ⟨rfl, ?_, by show ¬ (128 ≤ x ∧ x ≤ 191); omega⟩
    rcases h with ⟨rfl, rfl⟩ | ⟨rfl, rfl⟩ | ⟨rfl, rfl⟩ | ⟨rfl, rfl⟩ <;> rfl
  | hex a b t ha hb h =>
    have h1 := dig_range' a
    have h2 := dig_range' b
    have h128 : 16 * dig a + dig b < 128 := by
      rcases Int.lt_or_le (16 * dig a + dig b) 128 with h | h
      · exact h
      · exact absurd ⟨rfl, rfl, rfl, h⟩ hs
    have h92 : dig 92 = -1 := by decide
    rw [low _ (by omega) h128, pcl _ (by omega) h128, if_neg (by omega), if_neg (by omega), if_neg (by omega), if_neg (by omega), if_neg (by omega)]
    have e1 : (16 * dig a + dig b) / 16 = dig a := by omega
    have e2 : (16 * dig a + dig b) % 16 = dig b := by omega
    rw [e1, e2, hexDigit_dig a ha, hexDigit_dig b hb]
    exact ⟨rfl, rfl, by show ¬ (128 ≤ 16 * dig a + dig b ∧ _); omega⟩
  | rune ds t r h1 h6 hd h0 hr h128 hR =>
    have hde := dec_enc r hR rest
    obtain ⟨x, m, hx, hx1, hm, _⟩ := enc_shape r hR h128
    have hg : (enc r ++ rest).getD 0 (-1) = x := by rw [hx]; rfl
    have hd2 : ¬ (dec (enc r ++ rest)).2 = 1 := by
      rw [hde, hx]; simp only [List.length_cons]
      intro e; exact hm (List.eq_nil_of_length_eq_zero (by omega))
    refine ⟨by rw [hde], ?_, by rw [hx]; show ¬ (128 ≤ x ∧ x ≤ 191); omega⟩
    unfold pc
    rw [hg, if_neg (by omega), if_neg (by omega), if_neg (by omega), if_neg (by omega), if_neg (by omega), if_neg hd2, hde]
    simp only
    rw [hr, hexN_num ds.length 8 ds rfl h1 (by omega) hd h0]
    rw [show ((ds.length : Int) + 4).toNat = (ds.length + 1) + 1 + 1 + 1 by omega]
    simp only [List.take_succ_cons]
    rw [List.take_append, List.take_of_length_le (by omega), show ds.length + 1 - ds.length = 1 by omega]
    rfl
theorem IsPiece.canonSingle {t b : List Int} {n : Int} (h : IsPiece t b n) (hs : single t b n) : ∃ x, b = [x] ∧ 128 ≤ x ∧ x ≤ 255 ∧ t.take n.toNat = [92, 120, hexDigit (x / 16), hexDigit (x % 16)] := by
  cases h with
  | plain c t h hn => exact absurd hs.1 (by decide)
  | letter x k t h => exact absurd hs.1 (by decide)
  | hex a b t ha hb h =>
    have h1 := dig_range' a
    have h2 := dig_range' b
    have h128 : 128 ≤ 16 * dig a + dig b := hs.2.2.2
    refine ⟨_, rfl, h128, by omega, ?_⟩
    have e1 : (16 * dig a + dig b) / 16 = dig a := by omega
    have e2 : (16 * dig a + dig b) % 16 = dig b := by omega
    rw [e1, e2, hexDigit_dig a ha, hexDigit_dig b hb]
    rfl
  | rune ds t r h1 h6 hd h0 hr h128 hR => exact absurd hs.1 (by omega)
def hexes (bl : List Int) : List Int := bl.flatMap fun x => [92, 120, hexDigit (x / 16), hexDigit (x % 16)]
theorem hexes_cons (x : Int) (bl : List Int) : hexes (x :: bl) = [92, 120, hexDigit (x / 16), hexDigit (x % 16)] ++ hexes bl := rfl
theorem hexes_append (a b : List Int) : hexes (a ++ b) = hexes a ++ hexes b := by unfold hexes; rw [List.flatMap_append]
/-- Bytes of 128 or more of which none begins an encoding of them alone, and no tail behind them: each is written by two digits. -/
theorem quo_bad : ∀ (bl rest : List Int), (∀ x ∈ bl, 128 ≤ x ∧ x ≤ 255) → (∀ i, i < bl.length → (dec (bl.drop i)).2 = 1) → ¬ (128 ≤ rest.getD 0 (-1) ∧ rest.getD 0 (-1) ≤ 191) → quo (bl ++ rest) = hexes bl ++ quo rest := by
  intro bl
  induction bl with
  | nil => intro rest _ _ _; rfl
  | cons x bl ih =>
    intro rest hx hd hr
    have h0 := hx x List.mem_cons_self
    have hg : (x :: bl : List Int).getD 0 (-1) = x := rfl
    have hd0 : dec ((x :: bl) ++ rest) = (65533, 1) := by
      have e0 : dec (x :: bl) = (65533, 1) := by
        have h1 := hd 0 (by simp)
        rw [List.drop_zero] at h1
        rcases dec_cases (x :: bl) (by rw [hg]; omega) with ⟨h2, _⟩ | ⟨_, e⟩ | ⟨r, t, hR, h128, hl, e⟩
        · rw [hg] at h2; omega
        · exact e
        · rw [e] at h1
          obtain ⟨y, m, hy, _, hm, _⟩ := enc_shape r hR h128
          rw [hy] at h1; simp only [List.length_cons] at h1
          exact absurd (List.eq_nil_of_length_eq_zero (by omega)) hm
      rcases dec_append_same (x :: bl) rest (by simp) (by rw [hg]; omega) with e | ⟨r, t, hR, h128, hl, e, hlen, _⟩
      · rw [e, e0]
      · exfalso
        obtain ⟨y, m, hy, _, _, hm⟩ := enc_shape r hR h128
        rw [hy] at hl hlen
        -- the byte behind bl is a tail of the encoding
        have h1 : (((x :: bl) ++ rest).drop (x :: bl).length) = rest := List.drop_left
        rw [hl, List.cons_append, List.length_cons, List.drop_succ_cons] at h1
        simp only [List.length_cons] at hlen
        have h2 : bl.length < m.length := by omega
        rw [List.drop_append_of_le_length (by omega), List.drop_eq_getElem_cons h2] at h1
        apply hr
        rw [← h1]
        exact hm _ (List.getElem_mem h2)
    have hq := quo_cons' ((x :: bl) ++ rest) (by simp)
    have hp : pc ((x :: bl) ++ rest) = [92, 120, hexDigit (x / 16), hexDigit (x % 16)] := by
      unfold pc
      have e : ((x :: bl) ++ rest).getD 0 (-1) = x := rfl
      rw [e, hd0, if_neg (by omega), if_neg (by omega), if_neg (by omega), if_neg (by omega), if_neg (by omega), if_pos rfl]
    rw [hq, hp, hd0, hexes_cons, List.append_assoc]
    congr 1
    exact ih rest (fun y hy => hx y (List.mem_cons_of_mem _ hy)) (fun i hi => hd (i + 1) (by simp; omega)) hr
theorem unq_canon : ∀ (k : Nat) (out0 bl sing : List Int) (a : Int) (t : List Int), t.length < k → sing.length = bl.length → (∀ x ∈ bl, 128 ≤ x ∧ x ≤ 255) → (∀ s ∈ sing, 0 ≤ s) → 0 ≤ a → (unqL k (out0 ++ bl) sing a t).2.2 = 0 →
    ∃ c, (unqL k (out0 ++ bl) sing a t).1 = out0 ++ (bl ++ c) ∧ quo (bl ++ c) = hexes bl ++ t ∧ Bytes c := by
  intro k
  induction k with
  | zero => intro out0 bl sing a t h; omega
  | succ k ih =>
    intro out0 bl sing a t hk hl hbl hs ha h
    have hja : joinAt (out0 ++ bl) sing = joinL bl sing := by
      unfold joinAt
      rw [List.length_append, hl, show out0.length + bl.length - bl.length = out0.length by omega, List.drop_left]
    rw [unqL] at h ⊢
    by_cases h0 : t = []
    · rw [if_pos h0] at h ⊢
      by_cases hp : 0 ≤ joinAt (out0 ++ bl) sing
      · rw [if_pos hp] at h; exact absurd (show (230 : Int) = 0 from h) (by decide)
      · rw [if_neg hp]
        refine ⟨[], by simp, ?_, fun x hx => by simp at hx⟩
        have := quo_bad bl [] hbl (joinL_neg bl sing hl.symm hs (by rw [← hja]; exact hp)) (by decide)
        rw [this, h0]; rfl
    rw [if_neg h0] at h ⊢
    by_cases hp0 : (pieceL t).2 = 0
    · rw [if_pos hp0] at h
      by_cases hp : 0 ≤ joinAt (out0 ++ bl) sing
      · rw [if_pos hp] at h; exact absurd (show (230 : Int) = 0 from h) (by decide)
      · rw [if_neg hp] at h; exact absurd (show (230 : Int) = 0 from h) (by decide)
    rw [if_neg hp0] at h ⊢
    have his := (piece_is t).resolve_left (fun e => hp0 (by rw [e]))
    have hsz := his.size
    have hlen : (t.drop (pieceL t).2.toNat).length < k := by rw [List.length_drop]; omega
    have htt := List.take_append_drop (pieceL t).2.toNat t
    generalize (pieceL t).1 = b at *
    generalize (pieceL t).2 = m at *
    by_cases hsg : single t b m
    · rw [if_pos hsg] at h ⊢
      obtain ⟨x, rfl, hx1, hx2, htk⟩ := his.canonSingle hsg
      have := ih out0 (bl ++ [x]) (sing ++ [a]) (a + m) (t.drop m.toNat) hlen (by simp; omega) (fun y hy => by
        rcases List.mem_append.1 hy with h | h
        · exact hbl y h
        · simp at h; omega) (fun s hx => by
        rcases List.mem_append.1 hx with h | h
        · exact hs s h
        · simp at h; omega) (by omega) (by rw [← List.append_assoc]; exact h)
      obtain ⟨c, e1, e2, e3⟩ := this
      refine ⟨x :: c, ?_, ?_, ?_⟩
      · rw [List.append_assoc, e1]; simp
      · have e4 : bl ++ x :: c = (bl ++ [x]) ++ c := by simp
        rw [e4, e2, hexes_append, List.append_assoc]
        congr 1
        have : hexes [x] = t.take m.toNat := by rw [htk]; rfl
        rw [this, htt]
      · intro y hy
        rcases List.mem_cons.1 hy with rfl | hy
        · omega
        · exact e3 y hy
    · rw [if_neg hsg] at h ⊢
      by_cases hp : 0 ≤ joinAt (out0 ++ bl) sing
      · rw [if_pos hp] at h; exact absurd (show (230 : Int) = 0 from h) (by decide)
      · rw [if_neg hp] at h ⊢
        have := ih (out0 ++ bl ++ b) [] [] (a + m) (t.drop m.toNat) hlen rfl (fun x hx => by simp at hx) (fun x hx => by simp at hx) (by omega) (by rw [List.append_nil]; exact h)
        obtain ⟨c, e1, e2, e3⟩ := this
        rw [List.append_nil] at e1
        obtain ⟨k1, k2, k3⟩ := his.canon hsg c
        have hbc : 0 < (b ++ c).length := by rw [List.length_append]; omega
        have hq := quo_cons' (b ++ c) hbc
        rw [k2, k1, List.drop_left] at hq
        have e2' : quo c = t.drop m.toNat := e2
        rw [e2', htt] at hq
        refine ⟨b ++ c, ?_, ?_, bytes_append hsz.2.2.2.2.1 e3⟩
        · rw [e1]; simp
        · rw [quo_bad bl (b ++ c) hbl (joinL_neg bl sing hl.symm hs (by rw [← hja]; exact hp)) (by rw [getD_append_left b c 0 (by omega)]; exact k3), hq]
/-- What is taken has one spelling. -/
theorem unq_one (t : List Int) (h : (unqL (t.length + 1) [] [] 0 t).2.2 = 0) : quo (unqL (t.length + 1) [] [] 0 t).1 = t ∧ Bytes (unqL (t.length + 1) [] [] 0 t).1 := by
  obtain ⟨c, e1, e2, e3⟩ := unq_canon (t.length + 1) [] [] [] 0 t (by omega) rfl (fun x hx => by simp at hx) (fun x hx => by simp at hx) (by decide) h
  simp only [List.nil_append] at e1 e2
  rw [e1]
  exact ⟨e2, e3⟩
end Go.Proofs.YtflddgoapibleaaDoor.Hand

namespace Go.Proofs.YtflddgoapibleaaDoor.Hand
open Go.RowKit Go.Proofs.YtflddgoapibleaaDoor.Esc Go.Proofs.YtflddgoapibleaaDoorW.PrintWords Go.Proofs.YtflddgoapibleaaDoorW.PrintLast Go.Proofs.YtflddgoapibleaaDoorW.PrintMore

def firstBad : Int → List Int → Int
  | _, [] => -1
  | i, c :: t => if dig c < 0 then i else firstBad (i + 1) t
def pairs : List Int → List Int
  | a :: b :: t => (16 * dig a + dig b) :: pairs t
  | _ => []
def unhexL (t : List Int) : List Int × Int × Int :=
  if 0 ≤ firstBad 0 t then ([], firstBad 0 t, 230) else if (t.length : Int) % 2 = 0 then (pairs t, 0, 0) else ([], (t.length : Int), 230)
theorem firstBad_neg : ∀ (t : List Int) (i : Int), 0 ≤ i → (¬ 0 ≤ firstBad i t ↔ ∀ x ∈ t, 0 ≤ dig x) := by
  intro t
  induction t with
  | nil => intro i _; simp [firstBad]
  | cons c t ih =>
    intro i h0
    rw [firstBad]
    by_cases hc : dig c < 0
    · rw [if_pos hc]
      constructor
      · intro h; omega
      · intro h; have := h c List.mem_cons_self; omega
    · rw [if_neg hc, ih (i + 1) (by omega)]
      constructor
      · intro h x hx
        rcases List.mem_cons.1 hx with rfl | hx
        · omega
        · exact h x hx
      · intro h x hx; exact h x (List.mem_cons_of_mem _ hx)
theorem firstBad_le : ∀ (t : List Int) (i : Int), 0 ≤ i → firstBad i t < i + t.length ∨ firstBad i t = -1 := by
  intro t
  induction t with
  | nil => intro i _; right; rfl
  | cons c t ih =>
    intro i h0
    rw [firstBad]
    split
    · left; simp only [List.length_cons]; omega
    · rcases ih (i + 1) (by omega) with h | h
      · left; simp only [List.length_cons]; omega
      · right; exact h
theorem bt_cons (s : ByteArray) (i : Nat) (h : i < s.size) : ∃ t, (bytesOf s).drop i = bt s (i : Int) :: t ∧ t = (bytesOf s).drop (i + 1) := by
  refine ⟨_, ?_, rfl⟩
  have hl : i < (bytesOf s).length := by rw [bytesOf_length]; exact h
  rw [List.drop_eq_getElem_cons hl, ← bytes_getD s i h]
  congr 1
  rw [List.getD_eq_getElem?_getD, List.getElem?_eq_getElem hl]; rfl
theorem pair_num (a b : Int) (ha : 0 ≤ dig a) (hb : 0 ≤ dig b) : (wrap64 ((wrap64 (16 * dig a)) + dig b)) % 256 = 16 * dig a + dig b := by
  have h1 := dig_range' a
  have h2 := dig_range' b
  rw [w64 (16 * dig a) (by omega) (by omega), w64 _ (by omega) (by omega)]; omega
theorem unhex_second (s : ByteArray) (hs : s.size ≤ 1073741824) (hd : ∀ x ∈ bytesOf s, 0 ≤ dig x) : ∀ (n k i : Nat) (D : List Int), i + 2 * n = s.size → n < k → D.length ≤ i →
    escape_Unhex.l1 k s D (i : Int) = some (D ++ pairs ((bytesOf s).drop i), 0, 0) := by
  intro n
  induction n with
  | zero =>
    intro k i D hi hk hD
    obtain ⟨k, rfl⟩ : ∃ k', k = k' + 1 := ⟨k - 1, by omega⟩
    rw [escape_Unhex.l1, if_neg (by omega), List.drop_eq_nil_of_le (by rw [bytesOf_length]; omega)]
    simp [pairs]
  | succ n ih =>
    intro k i D hi hk hD
    obtain ⟨k, rfl⟩ : ∃ k', k = k' + 1 := ⟨k - 1, by omega⟩
    obtain ⟨t, h1, h2⟩ := bt_cons s i (by omega)
    obtain ⟨u, h3, h4⟩ := bt_cons s (i + 1) (by omega)
    rw [h2] at h1
    have m1 : bt s (i : Int) ∈ bytesOf s := List.mem_of_mem_drop (by rw [h1]; exact List.mem_cons_self)
    have m2 : bt s ((i + 1 : Nat) : Int) ∈ bytesOf s := List.mem_of_mem_drop (by rw [h3]; exact List.mem_cons_self)
    have e1 : wrap64 ((i : Int) + 1) = ((i + 1 : Nat) : Int) := by rw [w64 _ (by omega) (by omega)]; omega
    rw [escape_Unhex.l1, if_pos (by omega), if_pos (by omega), digit_f _ (bt_range s _)]
    rw [Option.bind_some]
    rw [e1, if_pos (by omega), if_pos (by omega), digit_f _ (bt_range s _)]
    rw [Option.bind_some]
    rw [if_pos (by omega), pair_num _ _ (hd _ m1) (hd _ m2), w64 _ (by omega) (by omega)]
    have := ih k (i + 2) (D ++ [16 * dig (bt s (i : Int)) + dig (bt s ((i + 1 : Nat) : Int))]) (by omega) (by omega) (by simp; omega)
    rw [show ((i : Int) + 2) = ((i + 2 : Nat) : Int) by omega, this, h1, h3, pairs, h4]
    simp only [List.append_assoc, List.singleton_append]
theorem unhex_first (s : ByteArray) (hs : s.size ≤ 1073741824) : ∀ (n k i : Nat), i + n = s.size → n + s.size + 2 < k → (∀ x ∈ (bytesOf s).take i, 0 ≤ dig x) →
    escape_Unhex.l0 k s (s.size : Int) (i : Int) = some (if 0 ≤ firstBad (i : Int) ((bytesOf s).drop i) then ([], firstBad (i : Int) ((bytesOf s).drop i), 230) else if ((bytesOf s).length : Int) % 2 = 0 then (pairs (bytesOf s), 0, 0) else ([], ((bytesOf s).length : Int), 230)) := by
  intro n
  induction n with
  | zero =>
    intro k i hi hk hd
    obtain ⟨k, rfl⟩ : ∃ k', k = k' + 1 := ⟨k - 1, by omega⟩
    have hdr : (bytesOf s).drop i = [] := List.drop_eq_nil_of_le (by rw [bytesOf_length]; omega)
    rw [List.take_of_length_le (by rw [bytesOf_length]; omega)] at hd
    rw [escape_Unhex.l0, if_neg (by omega), hdr, if_neg (show ¬ 0 ≤ firstBad (i : Int) [] by simp [firstBad]), bytesOf_length]
    by_cases he : (s.size : Int) % 2 = 0
    · rw [if_pos he, if_pos he]
      have := unhex_second s hs hd (s.size / 2) k 0 [] (by omega) (by omega) (by simp)
      rw [show ((0 : Nat) : Int) = 0 from rfl] at this
      rw [this]; simp
    · rw [if_neg he, if_neg he]
  | succ n ih =>
    intro k i hi hk hd
    obtain ⟨k, rfl⟩ : ∃ k', k = k' + 1 := ⟨k - 1, by omega⟩
    obtain ⟨t, h1, h2⟩ := bt_cons s i (by omega)
    rw [h2] at h1
    rw [escape_Unhex.l0, if_pos (by omega), if_pos (by omega), if_pos (by omega), digit_f _ (bt_range s _)]
    rw [Option.bind_some]
    rw [h1, firstBad]
    by_cases hb : dig (bt s (i : Int)) < 0
    · rw [if_pos hb, if_pos hb, if_pos (by omega)]
    · rw [if_neg hb, if_neg hb, w64 _ (by omega) (by omega)]
      have hl : i < (bytesOf s).length := by rw [bytesOf_length]; omega
      have := ih k (i + 1) (by omega) (by omega) (fun x hx => by
        rw [← List.take_append_getElem hl] at hx
        rcases List.mem_append.1 hx with h | h
        · exact hd x h
        · have e : (bytesOf s)[i] = bt s (i : Int) := by
            rw [List.drop_eq_getElem_cons hl] at h1
            injection h1
          simp only [List.mem_singleton] at h
          rw [h, e]; omega)
      rw [show ((i + 1 : Nat) : Int) = (i : Int) + 1 by omega] at this
      exact this
theorem unhex_f (s : ByteArray) (hs : s.size ≤ 1073741824) (k : Nat) (hk : 2 * s.size + 2 < k) : escape_Unhex.f k s = some (unhexL (bytesOf s)) := by
  have := unhex_first s hs s.size k 0 (by omega) (by omega) (fun x hx => by simp at hx)
  unfold escape_Unhex.f unhexL
  simpa using this
theorem value_f (k : Nat) (c : Int) (h : 0 ≤ c ∧ c ≤ 255) (hk : 0 < k) : galleyref23_value.f k c = some (dig c) := by
  obtain ⟨k, rfl⟩ : ∃ k', k = k' + 1 := ⟨k - 1, by omega⟩
  by_cases h48 : 48 ≤ c
  · by_cases h57 : c ≤ 57
    · have e : dig c = c - 48 := by unfold dig; rw [if_pos ⟨h48, h57⟩]
      unfold galleyref23_value.f
      rw [if_pos h48, decide_eq_true h57, galleyref23_value.j0, if_pos rfl, e]
      congr 1; omega
    · unfold galleyref23_value.f
      rw [if_pos h48, decide_eq_false h57, galleyref23_value.j0, if_neg (by simp)]
      by_cases h97 : 97 ≤ c
      · rw [if_pos h97]
        by_cases h102 : c ≤ 102
        · have e : dig c = c - 87 := by unfold dig; rw [if_neg (by omega), if_pos ⟨h97, h102⟩]
          rw [if_pos h102, e]; congr 1; omega
        · have e : dig c = -1 := by unfold dig; rw [if_neg (by omega), if_neg (by omega)]
          rw [if_neg h102, e]
      · have e : dig c = -1 := by unfold dig; rw [if_neg (by omega), if_neg (by omega)]
        rw [if_neg h97, e]
  · have e : dig c = -1 := by unfold dig; rw [if_neg (by omega), if_neg (by omega)]
    unfold galleyref23_value.f
    rw [if_neg h48, galleyref23_value.j0, if_neg (by simp), if_neg (show ¬ c ≥ 97 by omega), e]
theorem runhex_second (s : ByteArray) (hs : s.size ≤ 1073741824) (hd : ∀ x ∈ bytesOf s, 0 ≤ dig x) : ∀ (n k i : Nat) (D : List Int), i + 2 * n = s.size → n + 1 < k → D.length ≤ i →
    galleyref23_Unhex.l1 k s D (i : Int) = some (D ++ pairs ((bytesOf s).drop i), 0, 0) := by
  intro n
  induction n with
  | zero =>
    intro k i D hi hk hD
    obtain ⟨k, rfl⟩ : ∃ k', k = k' + 1 := ⟨k - 1, by omega⟩
    rw [galleyref23_Unhex.l1, if_neg (by omega), List.drop_eq_nil_of_le (by rw [bytesOf_length]; omega)]
    simp [pairs]
  | succ n ih =>
    intro k i D hi hk hD
    obtain ⟨k, rfl⟩ : ∃ k', k = k' + 1 := ⟨k - 1, by omega⟩
    obtain ⟨t, h1, h2⟩ := bt_cons s i (by omega)
    obtain ⟨u, h3, h4⟩ := bt_cons s (i + 1) (by omega)
    rw [h2] at h1
    have m1 : bt s (i : Int) ∈ bytesOf s := List.mem_of_mem_drop (by rw [h1]; exact List.mem_cons_self)
    have m2 : bt s ((i + 1 : Nat) : Int) ∈ bytesOf s := List.mem_of_mem_drop (by rw [h3]; exact List.mem_cons_self)
    have e1 : wrap64 ((i : Int) + 1) = ((i + 1 : Nat) : Int) := by rw [w64 _ (by omega) (by omega)]; omega
    rw [galleyref23_Unhex.l1, if_pos (by omega), if_pos (by omega), value_f k _ (bt_range s _) (by omega)]
    rw [Option.bind_some]
    rw [e1, if_pos (by omega), if_pos (by omega), value_f k _ (bt_range s _) (by omega)]
    rw [Option.bind_some]
    rw [if_pos (by omega), pair_num _ _ (hd _ m1) (hd _ m2), w64 _ (by omega) (by omega)]
    have := ih k (i + 2) (D ++ [16 * dig (bt s (i : Int)) + dig (bt s ((i + 1 : Nat) : Int))]) (by omega) (by omega) (by simp; omega)
    rw [show ((i : Int) + 2) = ((i + 2 : Nat) : Int) by omega, this, h1, h3, pairs, h4]
    simp only [List.append_assoc, List.singleton_append]
theorem runhex_first (s : ByteArray) (hs : s.size ≤ 1073741824) : ∀ (n k i : Nat), i + n = s.size → n + s.size + 3 < k → (∀ x ∈ (bytesOf s).take i, 0 ≤ dig x) →
    galleyref23_Unhex.l0 k s (i : Int) = some (if 0 ≤ firstBad (i : Int) ((bytesOf s).drop i) then ([], firstBad (i : Int) ((bytesOf s).drop i), 230) else if ((bytesOf s).length : Int) % 2 = 0 then (pairs (bytesOf s), 0, 0) else ([], ((bytesOf s).length : Int), 230)) := by
  intro n
  induction n with
  | zero =>
    intro k i hi hk hd
    obtain ⟨k, rfl⟩ : ∃ k', k = k' + 1 := ⟨k - 1, by omega⟩
    have hdr : (bytesOf s).drop i = [] := List.drop_eq_nil_of_le (by rw [bytesOf_length]; omega)
    rw [List.take_of_length_le (by rw [bytesOf_length]; omega)] at hd
    rw [galleyref23_Unhex.l0, if_neg (by omega), hdr, if_neg (show ¬ 0 ≤ firstBad (i : Int) [] by simp [firstBad]), bytesOf_length]
    by_cases he : (s.size : Int) % 2 = 0
    · rw [if_pos he, if_pos he]
      have := runhex_second s hs hd (s.size / 2) k 0 [] (by omega) (by omega) (by simp)
      rw [show ((0 : Nat) : Int) = 0 from rfl] at this
      rw [this]; simp
    · rw [if_neg he, if_neg he]
  | succ n ih =>
    intro k i hi hk hd
    obtain ⟨k, rfl⟩ : ∃ k', k = k' + 1 := ⟨k - 1, by omega⟩
    obtain ⟨t, h1, h2⟩ := bt_cons s i (by omega)
    rw [h2] at h1
    rw [galleyref23_Unhex.l0, if_pos (by omega), if_pos (by omega), value_f k _ (bt_range s _) (by omega)]
    rw [Option.bind_some]
    rw [h1, firstBad]
    by_cases hb : dig (bt s (i : Int)) < 0
    · rw [if_pos hb, if_pos hb, if_pos (by omega)]
    · rw [if_neg hb, if_neg hb, w64 _ (by omega) (by omega)]
      have hl : i < (bytesOf s).length := by rw [bytesOf_length]; omega
      have := ih k (i + 1) (by omega) (by omega) (fun x hx => by
        rw [← List.take_append_getElem hl] at hx
        rcases List.mem_append.1 hx with h | h
        · exact hd x h
        · have e : (bytesOf s)[i] = bt s (i : Int) := by
            rw [List.drop_eq_getElem_cons hl] at h1
            injection h1
          simp only [List.mem_singleton] at h
          rw [h, e]; omega)
      rw [show ((i + 1 : Nat) : Int) = (i : Int) + 1 by omega] at this
      exact this
theorem runhex_f (s : ByteArray) (hs : s.size ≤ 1073741824) (k : Nat) (hk : 2 * s.size + 3 < k) : galleyref23_Unhex.f k s = some (unhexL (bytesOf s)) := by
  have := runhex_first s hs s.size k 0 (by omega) (by omega) (fun x hx => by simp at hx)
  unfold galleyref23_Unhex.f unhexL
  simpa using this
end Go.Proofs.YtflddgoapibleaaDoor.Hand
