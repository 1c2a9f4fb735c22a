/- Wrapped messages, one behind the other, are read as these messages. -/
import Derived.Test.YtgdiilpocoimgaaDoorFWraps
import Derived.Test.YtgdiilpocoimgaaDoorFRun2
set_option linter.unusedVariables false
set_option linter.unusedSimpArgs false
namespace Go.Proofs.YtgdiilpocoimgaaDoor.Hand
open Go.RowKit Go.Proofs.YtgdiilpocoimgaaDoor.Frm Go.Proofs.YtgdiilpocoimgaaDoorW.PrintWords
theorem digs_small {n : Nat} (h : n < 10) : digs n = [48 + (n : Int)] := by
  unfold digs
  rw [Lib.decDigits, dif_pos h]
  simp only [List.map_cons, List.map_nil, UInt8.toNat_ofNat']
  congr 1
  omega
theorem digs_big {n : Nat} (h : ¬ n < 10) : digs n = digs (n / 10) ++ [48 + ((n % 10 : Nat) : Int)] := by
  unfold digs
  rw [Lib.decDigits, dif_neg h, List.map_append]
  simp only [List.map_cons, List.map_nil, UInt8.toNat_ofNat']
  congr 2
  omega
def Dg (l : List Int) : Prop := ∀ x ∈ l, 48 ≤ x ∧ x ≤ 57
theorem digs_dg : ∀ (k n : Nat), n < k → Dg (digs n)
  | 0, n, h => by omega
  | k + 1, n, h => by
    by_cases h1 : n < 10
    · rw [digs_small h1]
      intro x hx
      rw [List.mem_singleton.1 hx]; omega
    · rw [digs_big h1]
      intro x hx
      rcases List.mem_append.1 hx with hx | hx
      · exact digs_dg k (n / 10) (by omega) x hx
      · rw [List.mem_singleton.1 hx]; omega
theorem digs_head : ∀ (k n : Nat), n < k → ∃ d t, digs n = d :: t ∧ (1 ≤ n → d ≠ 48)
  | 0, n, h => by omega
  | k + 1, n, h => by
    by_cases h1 : n < 10
    · exact ⟨_, [], digs_small h1, fun h2 => by omega⟩
    · obtain ⟨d, t, e, hd⟩ := digs_head k (n / 10) (by omega)
      exact ⟨d, t ++ [48 + ((n % 10 : Nat) : Int)], by rw [digs_big h1, e]; rfl, fun _ => hd (by omega)⟩
theorem numL_snoc : ∀ (l : List Int) (x c : Int), Dg l → 48 ≤ c → c ≤ 57 → numL x (l ++ [c]) = 10 * numL x l + (c - 48)
  | [], x, c, h, h1, h2 => by
    show (if c < 48 ∨ 57 < c then (-1 : Int) else numL (10 * x + (c - 48)) []) = 10 * x + (c - 48)
    rw [if_neg (by omega)]; rfl
  | d :: t, x, c, h, h1, h2 => by
    have hd := h d List.mem_cons_self
    rw [List.cons_append, numL, if_neg (by omega), numL_snoc t _ c (fun y hy => h y (List.mem_cons_of_mem _ hy)) h1 h2, numL, if_neg (by omega)]
theorem num_digs : ∀ (k n : Nat), n < k → numL 0 (digs n) = (n : Int)
  | 0, n, h => by omega
  | k + 1, n, h => by
    by_cases h1 : n < 10
    · rw [digs_small h1, numL, if_neg (by omega), numL]; omega
    · rw [digs_big h1, numL_snoc _ _ _ (digs_dg k (n / 10) (by omega)) (by omega) (by omega), num_digs k (n / 10) (by omega)]; omega
theorem dg_blank {x : Int} (h : 48 ≤ x ∧ x ≤ 57) : blankI x = false := by
  unfold blankI; exact decide_eq_false (by omega)
theorem trimR_dg (l : List Int) (hl : l ≠ []) (hd : Dg l) (a : List Int) : trimR (a ++ l) = a ++ l := by
  unfold trimR
  obtain ⟨t, x, rfl⟩ : ∃ t x, l = t ++ [x] := ⟨l.dropLast, l.getLast hl, (List.dropLast_concat_getLast hl).symm⟩
  rw [← List.append_assoc, List.reverse_append]
  simp only [List.reverse_cons, List.reverse_nil, List.nil_append, List.singleton_append]
  rw [List.dropWhile_cons, dg_blank (hd x (by simp))]
  simp
theorem length_digs (n : Nat) (hn : n ≤ 16777216) : lengthL (32 :: digs n) = (n : Int) := by
  obtain ⟨d, t, e, hd⟩ := digs_head (n + 1) n (by omega)
  have hdg := digs_dg (n + 1) n (by omega)
  have hlen := digs_len hn
  have hnum := num_digs (n + 1) n (by omega)
  have hne : digs n ≠ [] := by rw [e]; simp
  have ht : trimI (32 :: digs n) = digs n := by
    unfold trimI
    have := trimR_dg (digs n) hne hdg [32]
    rw [List.singleton_append] at this
    rw [this, List.dropWhile_cons, show blankI 32 = true from rfl, if_pos rfl, e, List.dropWhile_cons, dg_blank (hdg d (by rw [e]; exact List.mem_cons_self))]
    simp
  unfold lengthL
  rw [ht, if_neg, hnum]
  rintro (h | h | ⟨h, h2⟩)
  · rw [e] at h; simp at h
  · omega
  · rw [e] at h2
    have h2 : d = 48 := h2
    by_cases h1 : 1 ≤ n
    · exact hd h1 h2
    · have : n = 0 := by omega
      subst this
      rw [digs_small (by omega)] at h
      simp at h
theorem run_vl (most n : Int) (N : List Int) (hN : Nm N) : ∀ (V' : List Int) (h : Nat) (V : List Int), Vl V → Vl V' → h + V'.length ≤ 4096 → runS ⟨most, h, N ++ 58 :: V, n, false, [], false⟩ V' = (⟨most, h + V'.length, N ++ 58 :: (V ++ V'), n, false, [], false⟩, [], false)
  | [], h, V, hv, hv', hh => by simp [runS]
  | c :: t, h, V, hv, hv', hh => by
    have hc := hv' c List.mem_cons_self
    have hv2 : Vl (V ++ [c]) := by
      intro x hx
      rcases List.mem_append.1 hx with hx | hx
      · exact hv x hx
      · rw [List.mem_singleton.1 hx]; exact hc
    simp only [List.length_cons] at hh
    have e : byteS ⟨most, h, N ++ 58 :: V, n, false, [], false⟩ c = (⟨most, h + 1, N ++ 58 :: (V ++ [c]), n, false, [], false⟩, none, false) := by
      rw [byte_on _ _ rfl (by rw [fits_vl hN hv, hc]; rfl) (by show h ≠ 4096; omega) (vl_ne hc).2]
      simp
    rw [runS_on _ e, run_vl most n N hN t (h + 1) (V ++ [c]) hv2 (fun x hx => hv' x (List.mem_cons_of_mem _ hx)) (by omega)]
    simp only [List.append_assoc, List.singleton_append, List.length_cons]
    rw [show h + 1 + t.length = h + (t.length + 1) by omega]
def cl0 : List Int := [67, 111, 110, 116, 101, 110, 116, 45, 76, 101, 110, 103, 116, 104]
theorem run_nm (most n : Int) : ∀ (N' : List Int) (h : Nat) (N : List Int), Nm N → N ≠ [] → Nm N' → h + N'.length ≤ 4096 → runS ⟨most, h, N, n, false, [], false⟩ N' = (⟨most, h + N'.length, N ++ N', n, false, [], false⟩, [], false)
  | [], h, N, hN, hne, hv', hh => by simp [runS]
  | c :: t, h, N, hN, hne, hv', hh => by
    have hc := hv' c List.mem_cons_self
    have hN2 : Nm (N ++ [c]) := by
      intro x hx
      rcases List.mem_append.1 hx with hx | hx
      · exact hN x hx
      · rw [List.mem_singleton.1 hx]; exact hc
    simp only [List.length_cons] at hh
    have e : byteS ⟨most, h, N, n, false, [], false⟩ c = (⟨most, h + 1, N ++ [c], n, false, [], false⟩, none, false) :=
      byte_on _ _ rfl (by show fitsL N c = true; rw [fits_nm hN hne, hc]; rfl) (by show h ≠ 4096; omega) (nm_ne hc).2.2
    rw [runS_on _ e, run_nm most n t (h + 1) (N ++ [c]) hN2 (by simp) (fun x hx => hv' x (List.mem_cons_of_mem _ hx)) (by omega)]
    simp only [List.append_assoc, List.singleton_append, List.length_cons]
    rw [show h + 1 + t.length = h + (t.length + 1) by omega]
theorem cl0_nm : Nm cl0 := by
  have : ∀ x ∈ cl0, nmI x = true := by decide
  exact this
theorem run_pre (most : Int) : runS (st0 most) pre = (⟨most, 16, cl0 ++ 58 :: [32], -1, false, [], false⟩, [], false) := by
  have hN1 : Nm [67] := by intro x hx; rw [List.mem_singleton.1 hx]; decide
  have hNt : Nm [111, 110, 116, 101, 110, 116, 45, 76, 101, 110, 103, 116, 104] := by
    have : ∀ x ∈ ([111, 110, 116, 101, 110, 116, 45, 76, 101, 110, 103, 116, 104] : List Int), nmI x = true := by decide
    exact this
  have e1 : byteS (st0 most) 67 = (⟨most, 1, [67], -1, false, [], false⟩, none, false) :=
    byte_on _ _ rfl (by show fitsL [] 67 = true; decide) (by show (0 : Nat) ≠ 4096; omega) (by decide)
  have e2 := run_nm most (-1) [111, 110, 116, 101, 110, 116, 45, 76, 101, 110, 103, 116, 104] 1 [67] hN1 (by simp) hNt (by simp)
  have e3 : byteS ⟨most, 14, cl0, -1, false, [], false⟩ 58 = (⟨most, 15, cl0 ++ [58], -1, false, [], false⟩, none, false) :=
    byte_on _ _ rfl (by show fitsL cl0 58 = true; decide) (by show (14 : Nat) ≠ 4096; omega) (by decide)
  have e4 : byteS ⟨most, 15, cl0 ++ [58], -1, false, [], false⟩ 32 = (⟨most, 16, cl0 ++ 58 :: [32], -1, false, [], false⟩, none, false) := by
    rw [byte_on _ _ rfl (by show fitsL (cl0 ++ [58]) 32 = true; decide) (by show (15 : Nat) ≠ 4096; omega) (by decide)]
    simp
  have ecl : [67] ++ ([111, 110, 116, 101, 110, 116, 45, 76, 101, 110, 103, 116, 104] : List Int) = cl0 := rfl
  have elen : 1 + ([111, 110, 116, 101, 110, 116, 45, 76, 101, 110, 103, 116, 104] : List Int).length = 14 := rfl
  rw [ecl, elen] at e2
  have epre : pre = 67 :: ([111, 110, 116, 101, 110, 116, 45, 76, 101, 110, 103, 116, 104] ++ [58, 32]) := rfl
  have e6 : runS ⟨most, 14, cl0, -1, false, [], false⟩ [58, 32] = (⟨most, 16, cl0 ++ 58 :: [32], -1, false, [], false⟩, [], false) := by
    rw [runS_on _ e3, runS_on _ e4, runS]
  rw [epre, runS_on _ e1, runS_append, e2]
  simp only [Bool.false_eq_true, if_false, List.nil_append]
  rw [e6]
theorem run_post (most : Int) (h : Nat) (V : List Int) (n : Nat) (hv : Vl V) (hh : h + 4 ≤ 4096) (hn : lengthL V = (n : Int)) (hm : (n : Int) ≤ most) :
    runS ⟨most, h, cl0 ++ 58 :: V, -1, false, [], false⟩ post = if n = 0 then (st0 most, [[]], false) else (⟨most, h + 4, [], (n : Int), true, [], false⟩, [], false) := by
  obtain ⟨line, hline⟩ : ∃ line, cl0 ++ 58 :: V = line := ⟨_, rfl⟩
  have hf := fits_vl cl0_nm hv 13
  have hnm := named_at cl0_nm V
  have hsd := said_at cl0_nm V
  rw [hline] at hf hnm hsd ⊢
  have hlen : 2 ≤ line.length := by rw [← hline]; simp [cl0]
  have hl2 : ¬ (line ++ [13]).length = 1 := by rw [List.length_append]; simp only [List.length_singleton]; omega
  have e1 : byteS ⟨most, h, line, -1, false, [], false⟩ 13 = (⟨most, h + 1, line ++ [13], -1, false, [], false⟩, none, false) :=
    byte_on _ _ rfl (by show fitsL line 13 = true; rw [hf]; decide) (by show h ≠ 4096; omega) (by decide)
  have e2 : byteS ⟨most, h + 1, line ++ [13], -1, false, [], false⟩ 10 = (⟨most, h + 2, [], (n : Int), false, [], false⟩, none, false) := by
    unfold byteS
    simp only
    rw [if_neg (by simp), if_neg (by rw [fits_cr]; simp; omega), if_neg (by simp), if_neg hl2, if_pos (by rw [hnm]; decide +kernel), hsd, hn, if_neg (by omega)]
  have e3 : byteS ⟨most, h + 2, [], (n : Int), false, [], false⟩ 13 = (⟨most, h + 3, [13], (n : Int), false, [], false⟩, none, false) :=
    byte_on _ _ rfl (by show fitsL [] 13 = true; decide) (by show h + 2 ≠ 4096; omega) (by decide)
  unfold post
  rw [runS_on _ e1, runS_on _ e2, runS_on _ e3]
  by_cases hz : n = 0
  · subst hz
    have e4 : byteS ⟨most, h + 3, [13], ((0 : Nat) : Int), false, [], false⟩ 10 = (st0 most, some [], false) := by
      unfold byteS
      simp only
      rw [if_neg (by simp), if_neg (by rw [show ([13] : List Int) = [] ++ [13] from rfl, fits_cr]; simp; omega), if_neg (by simp), if_pos (show ([13] : List Int).length = 1 from rfl), if_neg (by omega), if_pos (by omega)]
    rw [runS_msg _ e4, if_pos rfl]; rfl
  · have e4 : byteS ⟨most, h + 3, [13], (n : Int), false, [], false⟩ 10 = (⟨most, h + 4, [], (n : Int), true, [], false⟩, none, false) := by
      unfold byteS
      simp only
      rw [if_neg (by simp), if_neg (by rw [show ([13] : List Int) = [] ++ [13] from rfl, fits_cr]; simp; omega), if_neg (by simp), if_pos (show ([13] : List Int).length = 1 from rfl), if_neg (by omega), if_neg (by omega)]
    rw [runS_on _ e4, if_neg hz]; rfl
theorem run_wrap (most : Int) (l : List Int) (hl : l.length ≤ 16777216) (hm : (l.length : Int) ≤ most) : runS (st0 most) (wrapL l) = (st0 most, [l], false) := by
  have hd : Vl (digs l.length) := fun x hx => by
    have := digs_dg (l.length + 1) l.length (by omega) x hx
    unfold vlI; exact decide_eq_true (by omega)
  have h32 : Vl [32] := by intro x hx; rw [List.mem_singleton.1 hx]; decide
  have hlen := digs_len hl
  have hv : Vl ([32] ++ digs l.length) := by
    intro x hx
    rcases List.mem_append.1 hx with hx | hx
    · exact h32 x hx
    · exact hd x hx
  unfold wrapL
  rw [runS_append, runS_append, runS_append, run_pre]
  simp only [Bool.false_eq_true, if_false]
  rw [run_vl most (-1) cl0 cl0_nm (digs l.length) 16 [32] h32 hd (by omega)]
  simp only [Bool.false_eq_true, if_false]
  have hp := run_post most (16 + (digs l.length).length) ([32] ++ digs l.length) l.length hv (by omega) (length_digs l.length hl) hm
  rw [hp]
  by_cases hz : l.length = 0
  · have : l = [] := List.length_eq_zero_iff.1 hz
    subst this
    simp [runS]
  · rw [if_neg hz]
    simp only [Bool.false_eq_true, if_false]
    rw [run_body_end most l.length _ l [] (by intro h; rw [h] at hz; simp at hz) (by simp)]
    simp
theorem run_wraps (most : Int) : ∀ (L : List (List Int)), (∀ l ∈ L, l.length ≤ 16777216 ∧ (l.length : Int) ≤ most) → runS (st0 most) (L.map wrapL).flatten = (st0 most, L, false)
  | [], h => rfl
  | l :: L, h => by
    rw [List.map_cons, List.flatten_cons, runS_append, run_wrap most l (h l List.mem_cons_self).1 (h l List.mem_cons_self).2]
    simp only [Bool.false_eq_true, if_false]
    rw [run_wraps most L (fun x hx => h x (List.mem_cons_of_mem _ hx))]
    simp
theorem wrapL_len (l : List Int) (hl : l.length ≤ 16777216) : (wrapL l).length ≤ l.length + 28 := by
  have := digs_len hl
  unfold wrapL
  simp only [List.length_append]
  have e1 : pre.length = 16 := rfl
  have e2 : post.length = 4 := rfl
  omega
theorem wrapL_bytes (l : List Int) (hb : Bytes l) : Bytes (wrapL l) := by
  intro x hx
  unfold wrapL at hx
  rcases List.mem_append.1 hx with hx | hx
  · rcases List.mem_append.1 hx with hx | hx
    · rcases List.mem_append.1 hx with hx | hx
      · exact (show Bytes pre by decide) x hx
      · exact digs_bytes _ x hx
    · exact (show Bytes post by decide) x hx
  · exact hb x hx
/-- The longest. -/
def mxL (L : List (List Int)) : Nat := (L.map List.length).foldl max 0
theorem mxL_snoc (L : List (List Int)) (p : List Int) : mxL (L ++ [p]) = max (mxL L) p.length := by
  unfold mxL; rw [List.map_append, List.foldl_append]; rfl
theorem foldl_max_ge : ∀ (l : List Nat) (a : Nat), a ≤ l.foldl max a ∧ ∀ x ∈ l, x ≤ l.foldl max a
  | [], a => ⟨Nat.le_refl _, fun x hx => by cases hx⟩
  | y :: t, a => by
    have h := foldl_max_ge t (max a y)
    refine ⟨Nat.le_trans (Nat.le_max_left _ _) h.1, fun x hx => ?_⟩
    rcases List.mem_cons.1 hx with rfl | hx
    · exact Nat.le_trans (Nat.le_max_right _ _) h.1
    · exact h.2 x hx
theorem mxL_ge {L : List (List Int)} {l : List Int} (h : l ∈ L) : l.length ≤ mxL L := (foldl_max_ge _ 0).2 _ (List.mem_map.2 ⟨l, h, rfl⟩)
theorem mxL_le : ∀ (L : List (List Int)) (i : Nat), i ≤ L.length → mxL (L.take i) ≤ L.flatten.length := by
  intro L i
  induction i with
  | zero => intro _; exact Nat.zero_le _
  | succ i ih =>
    intro h
    rw [List.take_succ_eq_append_getElem (by omega), mxL_snoc]
    have h1 := ih (by omega)
    have h2 : (L[i]'(by omega)).length ≤ L.flatten.length := by
      have hm : L[i]'(by omega) ∈ L := List.getElem_mem _
      have := (List.sublist_flatten_of_mem hm).length_le
      exact this
    omega
theorem runS_prefix (S : St) (a b : List Int) (h : (runS S (a ++ b)).2.2 = false) : (runS S a).2.2 = false := by
  rw [runS_append] at h
  cases hf : (runS S a).2.2 with
  | false => rfl
  | true => rw [if_pos hf, hf] at h; cases h
end Go.Proofs.YtgdiilpocoimgaaDoor.Hand
