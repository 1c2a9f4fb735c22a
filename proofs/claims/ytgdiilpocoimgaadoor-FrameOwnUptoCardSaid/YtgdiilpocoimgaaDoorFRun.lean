/- The document's reader, byte by byte, as a plain function; what a header's scan says of it; what Feed says of it. -/
import Derived.Test.YtgdiilpocoimgaaDoorFFeed1
set_option linter.unusedVariables false
set_option linter.unusedSimpArgs false
namespace Go.Proofs.YtgdiilpocoimgaaDoor.Hand
open Go.RowKit Go.Proofs.YtgdiilpocoimgaaDoor.Frm Go.Proofs.YtgdiilpocoimgaaDoorW.PrintWords

structure St where
  most : Int
  header : Nat
  line : List Int
  said : Int
  whole : Bool
  body : List Int
  dead : Bool
def st0 (most : Int) : St := ⟨most, 0, [], -1, false, [], false⟩
def stDead : St := ⟨0, 0, [], 0, false, [], true⟩
def fitsL (l : List Int) (c : Int) : Bool :=
  if l.getLast? = some 13 then decide (c = 10)
  else if l = [] then nmI c || decide (c = 13)
  else if 58 ∈ l then vlI c || decide (c = 13)
  else nmI c || decide (c = 58)
def upColon (l : List Int) : List Int := l.takeWhile fun c => decide (c ≠ 58)
def namedL (l : List Int) : Bool := decide (58 ∈ l) && eqF (upColon l) clen
def saidL (l : List Int) : Int := lengthL ((l.drop ((upColon l).length + 1)).dropLast)
def byteS (s : St) (c : Int) : St × Option (List Int) × Bool :=
  if s.whole then
    if ((s.body ++ [c]).length : Int) = s.said then (st0 s.most, some (s.body ++ [c]), false) else ({ s with body := s.body ++ [c] }, none, false)
  else if fitsL s.line c = false ∨ s.header = 4096 then (stDead, none, true)
  else if c ≠ 10 then ({ s with header := s.header + 1, line := s.line ++ [c] }, none, false)
  else if s.line.length = 1 then
    if s.said < 0 then (stDead, none, true)
    else if s.said = 0 then (st0 s.most, some [], false)
    else ({ s with header := s.header + 1, line := [], whole := true }, none, false)
  else if namedL s.line then
    if saidL s.line < 0 ∨ s.most < saidL s.line ∨ 0 ≤ s.said then (stDead, none, true)
    else ({ s with header := s.header + 1, line := [], said := saidL s.line }, none, false)
  else ({ s with header := s.header + 1, line := [] }, none, false)
def runS (s : St) : List Int → St × List (List Int) × Bool
  | [] => (s, [], false)
  | c :: t =>
    if (byteS s c).2.2 then ((byteS s c).1, [], true)
    else ((runS (byteS s c).1 t).1, (byteS s c).2.1.toList ++ (runS (byteS s c).1 t).2.1, (runS (byteS s c).1 t).2.2)
theorem runS_fault {s s' : St} {c : Int} {m : Option (List Int)} (t : List Int) (h : byteS s c = (s', m, true)) : runS s (c :: t) = (s', [], true) := by
  rw [runS, h]; rfl
theorem runS_on {s s' : St} {c : Int} (t : List Int) (h : byteS s c = (s', none, false)) : runS s (c :: t) = runS s' t := by
  rw [runS, h]; rfl
theorem runS_msg {s s' : St} {c : Int} {m : List Int} (t : List Int) (h : byteS s c = (s', some m, false)) : runS s (c :: t) = ((runS s' t).1, m :: (runS s' t).2.1, (runS s' t).2.2) := by
  rw [runS, h]; rfl
theorem runS_append : ∀ (a b : List Int) (s : St), runS s (a ++ b) = if (runS s a).2.2 then runS s a else ((runS (runS s a).1 b).1, (runS s a).2.1 ++ (runS (runS s a).1 b).2.1, (runS (runS s a).1 b).2.2)
  | [], b, s => by simp [runS]
  | c :: t, b, s => by
    rw [List.cons_append, runS, runS]
    by_cases h : (byteS s c).2.2 = true
    · rw [if_pos h]; simp [h]
    · rw [if_neg h, runS_append t b]
      by_cases h2 : (runS (byteS s c).1 t).2.2 = true
      · simp [h, h2]
      · simp [h, h2]
theorem nm_ne {c : Int} (h : nmI c = true) : c ≠ 58 ∧ c ≠ 13 ∧ c ≠ 10 := by
  unfold nmI at h
  have := of_decide_eq_true h
  omega
theorem vl_ne {c : Int} (h : vlI c = true) : c ≠ 13 ∧ c ≠ 10 := by
  unfold vlI at h
  have := of_decide_eq_true h
  omega
def Nm (N : List Int) : Prop := ∀ x ∈ N, nmI x = true
def Vl (V : List Int) : Prop := ∀ x ∈ V, vlI x = true
theorem Nm.no {N : List Int} (h : Nm N) : (58 : Int) ∉ N := fun hm => (nm_ne (h 58 hm)).1 rfl
theorem last_mem {l : List Int} {x : Int} (h : l.getLast? = some x) : x ∈ l := List.mem_of_getLast? h
theorem fits_nil (c : Int) : fitsL [] c = (nmI c || decide (c = 13)) := rfl
theorem fits_cr (l : List Int) (c : Int) : fitsL (l ++ [13]) c = decide (c = 10) := by
  unfold fitsL; rw [if_pos (by simp)]
theorem fits_nm {N : List Int} (h : Nm N) (hn : N ≠ []) (c : Int) : fitsL N c = (nmI c || decide (c = 58)) := by
  unfold fitsL
  rw [if_neg (fun hl => (nm_ne (h 13 (last_mem hl))).2.1 rfl), if_neg hn, if_neg h.no]
theorem fits_vl {N V : List Int} (h : Nm N) (hv : Vl V) (c : Int) : fitsL (N ++ 58 :: V) c = (vlI c || decide (c = 13)) := by
  unfold fitsL
  rw [if_neg, if_neg (by simp), if_pos (by simp)]
  intro hl
  rw [List.getLast?_append] at hl
  have h2 : (58 :: V).getLast? = some 13 := by
    cases hh : (58 :: V).getLast? with
    | none => simp at hh
    | some y => rw [hh] at hl; simpa using hl
  have hm := last_mem h2
  rcases List.mem_cons.1 hm with hm | hm
  · omega
  · exact (vl_ne (hv 13 hm)).1 rfl
theorem upColon_at {N : List Int} (h : Nm N) (V : List Int) : upColon (N ++ 58 :: V) = N := by
  unfold upColon
  rw [List.takeWhile_append_of_pos (fun x hx => decide_eq_true (nm_ne (h x hx)).1), List.takeWhile_cons_of_neg (by simp), List.append_nil]
theorem named_at {N : List Int} (h : Nm N) (V : List Int) : namedL (N ++ 58 :: V ++ [13]) = eqF N clen := by
  rw [show N ++ 58 :: V ++ [13] = N ++ 58 :: (V ++ [13]) by simp]
  unfold namedL
  rw [upColon_at h, decide_eq_true (by simp), Bool.true_and]
theorem said_at {N : List Int} (h : Nm N) (V : List Int) : saidL (N ++ 58 :: V ++ [13]) = lengthL V := by
  rw [show N ++ 58 :: V ++ [13] = N ++ 58 :: (V ++ [13]) by simp]
  unfold saidL
  rw [upColon_at h]
  have e : ∀ M : List Int, (N ++ 58 :: M).drop (N.length + 1) = M := by
    intro M
    rw [← List.drop_drop, List.drop_left]; rfl
  rw [e, List.dropLast_concat]
/-- A byte that begins or lengthens a line. -/
theorem byte_on (s : St) (c : Int) (hw : s.whole = false) (hf : fitsL s.line c = true) (hh : s.header ≠ 4096) (hc : c ≠ 10) : byteS s c = ({ s with header := s.header + 1, line := s.line ++ [c] }, none, false) := by
  unfold byteS
  rw [hw, if_neg (by simp), if_neg (by rw [hf]; simp [hh]), if_pos hc]
theorem byte_bad (s : St) (c : Int) (hw : s.whole = false) (hf : fitsL s.line c = false ∨ s.header = 4096) : byteS s c = (stDead, none, true) := by
  unfold byteS
  rw [hw, if_neg (by simp), if_pos hf]
/-- Where the scan stands: the line's bytes so far. -/
def Phase : Nat → List Int → Nat → Nat → Nat → List Int → Prop
  | 0, _, _, _, _, line => line = []
  | 1, L, p, name, _, line => line = (L.take p).drop name ∧ Nm line ∧ line ≠ []
  | _ + 2, L, p, name, value, line => ∃ N V, line = N ++ 58 :: V ∧ N = (L.take (value - 1)).drop name ∧ V = (L.take p).drop value ∧ value ≤ p ∧ Nm N ∧ Vl V
theorem nextB_some {L : List Int} {p : Nat} {c : Int} (h : nextB L p = some c) : p < L.length ∧ p < 4096 ∧ L.drop p = c :: L.drop (p + 1) ∧ ∀ j, j ≤ p → (L.take (p + 1)).drop j = (L.take p).drop j ++ [c] := by
  unfold nextB at h
  by_cases hh : p < L.length ∧ p < 4096
  · rw [if_pos hh] at h
    have hc := Option.some.inj h
    have hg : L[p]'hh.1 = c := by rw [← hc, List.getD_eq_getElem?_getD, List.getElem?_eq_getElem hh.1]; rfl
    refine ⟨hh.1, hh.2, by rw [← hg]; exact List.drop_eq_getElem_cons hh.1, fun j hj => ?_⟩
    rw [List.take_succ_eq_append_getElem hh.1, hg, List.drop_append_of_le_length (by rw [List.length_take]; omega)]
  · rw [if_neg hh] at h; cases h
theorem nextB_none {L : List Int} {p : Nat} (h : nextB L p = none) : L.length ≤ p ∨ 4096 ≤ p := by
  unfold nextB at h
  by_cases hh : p < L.length ∧ p < 4096
  · rw [if_pos hh] at h; cases h
  · omega
theorem take_drop_cons {L : List Int} {p q : Nat} {c : Int} (h : L.drop p = c :: L.drop (p + 1)) (hq : p < q) : (L.take q).drop p = c :: (L.take q).drop (p + 1) := by
  rw [List.drop_take, List.drop_take, h, show q - p = (q - (p + 1)) + 1 by omega, List.take_succ_cons]
/-- What a scan that ends so says of the reader that stands at the same place. -/
def Says (L : List Int) (most : Int) (p : Nat) (s : St) (r : Int × Int × Int) : Prop :=
  (r = (0, 0, 2) ∧ runS s (L.drop p) = (stDead, [], true)) ∨
  (r = (0, 0, 0) ∧ ∃ line n, runS s (L.drop p) = (⟨most, L.length, line, n, false, [], false⟩, [], false) ∧ L.length ≤ 4096) ∨
  (∃ (q : Nat) (m : Int), r = ((q : Int), m, 1) ∧ 0 ≤ m ∧ p < q ∧ q ≤ L.length ∧ q ≤ 4096 ∧ 2 ≤ q ∧ runS s ((L.take q).drop p) = if m = 0 then (st0 most, [[]], false) else (⟨most, q, [], m, true, [], false⟩, [], false))
theorem says_step {L : List Int} {most : Int} {p : Nat} {s s' : St} {c : Int} {r : Int × Int × Int} (hd : L.drop p = c :: L.drop (p + 1)) (hb : byteS s c = (s', none, false)) (h : Says L most (p + 1) s' r) : Says L most p s r := by
  rcases h with ⟨h1, h2⟩ | ⟨h1, line, n, h2, h3⟩ | ⟨q, m, h1, h2, h3, h4, h5, h6, h7⟩
  · exact .inl ⟨h1, by rw [hd, runS_on _ hb, h2]⟩
  · exact .inr (.inl ⟨h1, line, n, by rw [hd, runS_on _ hb, h2], h3⟩)
  · refine .inr (.inr ⟨q, m, h1, h2, by omega, h4, h5, h6, ?_⟩)
    rw [take_drop_cons hd (by omega), runS_on _ hb, h7]
theorem says_bad {L : List Int} {most : Int} {p : Nat} {s : St} {c : Int} (hd : L.drop p = c :: L.drop (p + 1)) (hb : byteS s c = (stDead, none, true)) : Says L most p s (0, 0, 2) :=
  .inl ⟨rfl, by rw [hd, runS_fault _ hb]⟩
theorem says_out {L : List Int} {most : Int} {p : Nat} {line : List Int} {n : Int} (hp : p ≤ L.length) (hp2 : p ≤ 4096) (h : nextB L p = none) : Says L most p ⟨most, p, line, n, false, [], false⟩ (outL L) := by
  unfold outL
  rcases Nat.lt_or_ge p L.length with hl | hl
  · have hp4 : p = 4096 := by have := nextB_none h; omega
    rw [if_pos (by omega)]
    have hd : L.drop p = L[p] :: L.drop (p + 1) := List.drop_eq_getElem_cons hl
    exact says_bad hd (byte_bad _ _ rfl (.inr hp4))
  · have : p = L.length := by omega
    subst this
    rw [if_neg (by omega)]
    exact .inr (.inl ⟨rfl, line, n, by rw [List.drop_length]; rfl, hp2⟩)
theorem says_end {L : List Int} {most : Int} {p : Nat} {n : Int} (hp : p ≤ L.length) (hp2 : p ≤ 4096) (hp1 : 1 ≤ p) : Says L most p ⟨most, p, [13], n, false, [], false⟩ (endL L p n) := by
  unfold endL
  cases h : nextB L p with
  | none => exact says_out hp hp2 h
  | some c =>
    obtain ⟨h1, h2, h3, h4⟩ := nextB_some h
    have hf := fits_cr [] c
    simp only [List.nil_append] at hf
    simp only
    by_cases hc : c = 10
    · subst hc
      by_cases hn : n < 0
      · rw [if_pos (Or.inr hn)]
        refine says_bad h3 ?_
        unfold byteS
        simp only [hf]
        rw [if_neg (by simp), if_neg (by simp; omega), if_neg (by simp), if_pos (show ([13] : List Int).length = 1 from rfl), if_pos hn]
      · rw [if_neg (by omega)]
        refine .inr (.inr ⟨p + 1, n, by push_cast; rfl, by omega, by omega, by omega, by omega, by omega, ?_⟩)
        rw [take_drop_cons h3 (by omega), List.drop_take, Nat.sub_self, List.take_zero]
        by_cases hz : n = 0
        · subst hz
          rw [if_pos rfl]
          refine (runS_msg (s' := st0 most) (m := []) _ ?_).trans rfl
          unfold byteS
          simp only [hf]
          rw [if_neg (by simp), if_neg (by simp; omega), if_neg (by simp), if_pos (show ([13] : List Int).length = 1 from rfl), if_neg (by omega), if_pos trivial]
        · rw [if_neg hz]
          refine (runS_on (s' := ⟨most, p + 1, [], n, true, [], false⟩) _ ?_).trans rfl
          unfold byteS
          simp only [hf]
          rw [if_neg (by simp), if_neg (by simp; omega), if_neg (by simp), if_pos (show ([13] : List Int).length = 1 from rfl), if_neg (by omega), if_neg hz]
    · rw [if_pos (Or.inl hc)]
      exact says_bad h3 (byte_bad _ _ rfl (.inl (by show fitsL [13] c = false; rw [hf]; exact decide_eq_false hc)))
theorem says_hd (L : List Int) (most : Int) : ∀ (k ph p name value : Nat) (n : Int) (line : List Int), p ≤ L.length → p ≤ 4096 → 4097 ≤ k + p → Phase ph L p name value line →
    Says L most p ⟨most, p, line, n, false, [], false⟩ (hdN k ph L most p name value n) := by
  intro k
  induction k with
  | zero => intro ph p name value n line h1 h2 h3; omega
  | succ k ih =>
    intro ph p name value n line hp hp2 hk hph
    match ph with
    | 0 =>
      have hline : line = [] := hph
      subst hline
      rw [hdN]
      cases h : nextB L p with
      | none => exact says_out hp hp2 h
      | some c =>
        obtain ⟨h1, h2, h3, h4⟩ := nextB_some h
        simp only
        by_cases hc : c = 13
        · rw [if_pos hc]
          subst hc
          exact says_step h3 (byte_on _ _ rfl (by show fitsL [] 13 = true; decide) (by show p ≠ 4096; omega) (by decide)) (says_end (by omega) (by omega) (by omega))
        · rw [if_neg hc]
          by_cases hn : nmI c = false
          · rw [if_pos hn]
            exact says_bad h3 (byte_bad _ _ rfl (.inl (by show fitsL [] c = false; rw [fits_nil, hn, decide_eq_false hc]; rfl)))
          · rw [if_neg hn]
            have hn' : nmI c = true := by simpa using hn
            refine says_step h3 (byte_on _ _ rfl (by show fitsL [] c = true; rw [fits_nil, hn']; rfl) (by show p ≠ 4096; omega) (nm_ne hn').2.2) (ih 1 (p + 1) p value n _ (by omega) (by omega) (by omega) ?_)
            have hl : (L.take (p + 1)).drop p = [c] := by rw [h4 p (Nat.le_refl _), List.drop_take, Nat.sub_self, List.take_zero]; rfl
            exact ⟨hl.symm, fun x hx => by rw [List.mem_singleton.1 hx]; exact hn', by simp⟩
    | 1 =>
      obtain ⟨hl, hN, hne⟩ : line = (L.take p).drop name ∧ Nm line ∧ line ≠ [] := hph
      have hnp : name < p := by
        rcases Nat.lt_or_ge name p with hh | hh
        · exact hh
        · exfalso; apply hne; rw [hl, List.drop_eq_nil_iff, List.length_take]; omega
      rw [hdN]
      cases h : nextB L p with
      | none => exact says_out hp hp2 h
      | some c =>
        obtain ⟨h1, h2, h3, h4⟩ := nextB_some h
        simp only
        have hf := fits_nm hN hne c
        by_cases hn : nmI c = true
        · rw [if_pos hn]
          refine says_step h3 (byte_on _ _ rfl (by show fitsL line c = true; rw [hf, hn]; rfl) (by show p ≠ 4096; omega) (nm_ne hn).2.2) (ih 1 (p + 1) name value n _ (by omega) (by omega) (by omega) ?_)
          refine ⟨by show line ++ [c] = _; rw [h4 name (by omega), hl], fun x hx => ?_, by simp⟩
          rcases List.mem_append.1 hx with hx | hx
          · exact hN x hx
          · rw [List.mem_singleton.1 hx]; exact hn
        · rw [if_neg hn]
          have hn' : nmI c = false := by simpa using hn
          by_cases hc : c ≠ 58
          · rw [if_pos hc]
            exact says_bad h3 (byte_bad _ _ rfl (.inl (by show fitsL line c = false; rw [hf, hn', decide_eq_false hc]; rfl)))
          · rw [if_neg hc]
            have hc' : c = 58 := by omega
            subst hc'
            refine says_step h3 (byte_on _ _ rfl (by show fitsL line 58 = true; rw [hf]; simp) (by show p ≠ 4096; omega) (by decide)) (ih 2 (p + 1) name (p + 1) n _ (by omega) (by omega) (by omega) ?_)
            exact ⟨line, [], rfl, by rw [show p + 1 - 1 = p by omega]; exact hl, by rw [List.drop_eq_nil_iff.2 (by rw [List.length_take]; omega)], Nat.le_refl _, hN, fun x hx => by cases hx⟩
    | ph + 2 =>
      obtain ⟨N, V, hl, hN, hV, hvp, hNm, hVl⟩ : ∃ N V, line = N ++ 58 :: V ∧ N = (L.take (value - 1)).drop name ∧ V = (L.take p).drop value ∧ value ≤ p ∧ Nm N ∧ Vl V := hph
      rw [hdN]
      cases h : nextB L p with
      | none => exact says_out hp hp2 h
      | some c =>
        obtain ⟨h1, h2, h3, h4⟩ := nextB_some h
        simp only
        have hf := fits_vl hNm hVl c
        rw [← hl] at hf
        by_cases hn : vlI c = true
        · rw [if_pos hn]
          refine says_step h3 (byte_on _ _ rfl (by show fitsL line c = true; rw [hf, hn]; rfl) (by show p ≠ 4096; omega) (vl_ne hn).2) (ih 2 (p + 1) name value n _ (by omega) (by omega) (by omega) ?_)
          refine ⟨N, V ++ [c], by show line ++ [c] = _; rw [hl]; simp, hN, by rw [h4 value hvp, hV], by omega, hNm, fun x hx => ?_⟩
          rcases List.mem_append.1 hx with hx | hx
          · exact hVl x hx
          · rw [List.mem_singleton.1 hx]; exact hn
        · rw [if_neg hn]
          have hn' : vlI c = false := by simpa using hn
          by_cases hc : c ≠ 13
          · rw [if_pos hc]
            exact says_bad h3 (byte_bad _ _ rfl (.inl (by show fitsL line c = false; rw [hf, hn', decide_eq_false hc]; rfl)))
          · rw [if_neg hc]
            have hc' : c = 13 := by omega
            subst hc'
            refine says_step h3 (byte_on _ _ rfl (by show fitsL line 13 = true; rw [hf]; simp) (by show p ≠ 4096; omega) (by decide)) ?_
            show Says L most (p + 1) ⟨most, p + 1, line ++ [13], n, false, [], false⟩ _
            cases hd : nextB L (p + 1) with
            | none => exact says_out (by omega) (by omega) hd
            | some d =>
              obtain ⟨g1, g2, g3, g4⟩ := nextB_some hd
              simp only
              have hf2 := fits_cr line d
              by_cases hd10 : d ≠ 10
              · rw [if_pos hd10]
                exact says_bad g3 (byte_bad _ _ rfl (.inl (by show fitsL (line ++ [13]) d = false; rw [hf2]; exact decide_eq_false hd10)))
              · rw [if_neg hd10]
                have hd' : d = 10 := by omega
                subst hd'
                have hnamed := named_at hNm V
                have hsaid := said_at hNm V
                rw [← hl] at hnamed hsaid
                have hlen : (line ++ [13]).length ≠ 1 := by rw [hl]; simp; omega
                have hb : ∀ n', byteS ⟨most, p + 1, line ++ [13], n', false, [], false⟩ 10 = if eqF N clen then (if lengthL V < 0 ∨ most < lengthL V ∨ 0 ≤ n' then (stDead, none, true) else (⟨most, p + 1 + 1, [], lengthL V, false, [], false⟩, none, false)) else (⟨most, p + 1 + 1, [], n', false, [], false⟩, none, false) := by
                  intro n'
                  unfold byteS
                  simp only [hf2, hnamed, hsaid]
                  rw [if_neg (by simp), if_neg (by simp; omega), if_neg (by simp), if_neg hlen]
                rw [← hN, ← hV]
                by_cases he : eqF N clen = true
                · rw [if_pos he]
                  by_cases h0 : 0 ≤ n
                  · rw [if_pos h0]
                    exact says_bad g3 (by rw [hb, if_pos he, if_pos (Or.inr (Or.inr h0))])
                  · rw [if_neg h0]
                    by_cases h5 : lengthL V < 0 ∨ most < lengthL V
                    · rw [if_pos h5]
                      exact says_bad g3 (by rw [hb, if_pos he, if_pos (by omega)])
                    · rw [if_neg h5]
                      exact says_step g3 (by rw [hb, if_pos he, if_neg (by omega)]) (ih 0 (p + 2) name value _ [] (by omega) (by omega) (by omega) rfl)
                · rw [if_neg he]
                  exact says_step g3 (by rw [hb, if_neg he]) (ih 0 (p + 2) name value n [] (by omega) (by omega) (by omega) rfl)
theorem says_head (L : List Int) (most : Int) : Says L most 0 (st0 most) (headL L most) :=
  says_hd L most 20000 0 0 0 0 (-1) [] (Nat.zero_le _) (Nat.zero_le _) (by omega) rfl
end Go.Proofs.YtgdiilpocoimgaaDoor.Hand
