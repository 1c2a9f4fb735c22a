/- What Feed says of the document's reader: piece by piece. -/
import Derived.Test.YtgdiilpocoimgaaDoorFRun
set_option linter.unusedVariables false
set_option linter.unusedSimpArgs false
namespace Go.Proofs.YtgdiilpocoimgaaDoor.Hand
open Go.RowKit Go.Proofs.YtgdiilpocoimgaaDoor.Frm Go.Proofs.YtgdiilpocoimgaaDoorW.PrintWords

theorem byte_body (most m : Int) (q : Nat) (body : List Int) (c : Int) : byteS ⟨most, q, [], m, true, body, false⟩ c = if ((body ++ [c]).length : Int) = m then (st0 most, some (body ++ [c]), false) else (⟨most, q, [], m, true, body ++ [c], false⟩, none, false) := rfl
theorem run_body_on (most m : Int) (q : Nat) : ∀ (B body : List Int), ((body ++ B).length : Int) < m → runS ⟨most, q, [], m, true, body, false⟩ B = (⟨most, q, [], m, true, body ++ B, false⟩, [], false)
  | [], body, h => by simp [runS]
  | c :: t, body, h => by
    have hl2 : ((body ++ [c]).length : Int) = body.length + 1 := by simp
    simp only [List.length_append, List.length_cons, Int.natCast_add] at h
    rw [runS_on t (by rw [byte_body, if_neg (by omega)]), run_body_on most m q t (body ++ [c]) (by simp only [List.length_append, List.length_cons, List.length_nil, Int.natCast_add]; omega)]
    simp
theorem run_body_end (most m : Int) (q : Nat) : ∀ (B body : List Int), B ≠ [] → ((body ++ B).length : Int) = m → runS ⟨most, q, [], m, true, body, false⟩ B = (st0 most, [body ++ B], false)
  | [], body, h0, h => absurd rfl h0
  | [c], body, h0, h => by
    rw [runS_msg [] (by rw [byte_body, if_pos h])]; rfl
  | c :: d :: t, body, h0, h => by
    have hl2 : ((body ++ [c]).length : Int) = body.length + 1 := by simp
    simp only [List.length_append, List.length_cons, Int.natCast_add] at h
    rw [runS_on (d :: t) (by rw [byte_body, if_neg (by omega)]), run_body_end most m q (d :: t) (body ++ [c]) (by simp) (by simp only [List.length_append, List.length_cons, List.length_nil, Int.natCast_add]; omega)]
    simp
structure Inv (mo : Int) (S : St) (h : List Int) : Prop where
  run : runS (st0 mo) h = (S, [], false)
  held : S.header + S.body.length = h.length
  alive : S.dead = false
  zero : S.header = 0 ↔ h = []
  most : S.most = mo
  top : (h.length : Int) ≤ 4096 + mo
theorem Inv.start (most : Int) (h : 0 ≤ most) : Inv most (st0 most) [] := ⟨rfl, rfl, rfl, by simp [st0], rfl, by simp; omega⟩
theorem feed_run (most : Int) (h0 : 0 ≤ most) : ∀ (k : Nat) (L : List Int) (out : List (List Int)), L.length < k → ∃ S msgs f held, runS (st0 most) L = (S, msgs, f) ∧ feedN k most L out = (out ++ msgs, held, if f then 250 else 0) ∧ (f = true → S = stDead ∧ held = []) ∧ (f = false → Inv most S held) := by
  intro k
  induction k with
  | zero => intro L out h; omega
  | succ k ih =>
    intro L out hk
    rw [feedN]
    by_cases hz : L.length = 0
    · have : L = [] := List.length_eq_zero_iff.1 hz
      subst this
      exact ⟨st0 most, [], false, [], rfl, by rw [if_pos hz]; simp, by simp, fun _ => Inv.start most h0⟩
    rw [if_neg hz]
    rcases says_head L most with ⟨h1, h2⟩ | ⟨h1, line, n, h2, h3⟩ | ⟨q, m, h1, h2, h3, h4, h5, h6, h7⟩
    · rw [h1, if_pos rfl]
      rw [List.drop_zero] at h2
      exact ⟨stDead, [], true, [], h2, by simp, fun _ => ⟨rfl, rfl⟩, by simp⟩
    · rw [h1, if_neg (by decide), if_pos (Or.inl rfl)]
      rw [List.drop_zero] at h2
      refine ⟨_, [], false, L, h2, by simp, by simp, fun _ => ⟨h2, by simp, rfl, ?_, rfl, by omega⟩⟩
      exact List.length_eq_zero_iff
    · have hmm : m ≤ most := by
        have ht := headL_told L most h0
        rw [h1] at ht
        rcases ht with ht | ht | ht
        · simp at ht
        · simp at ht
        · exact ht.2.2.2.2.2
      rw [h1, if_neg (by simp)]
      rw [List.drop_zero] at h7
      have hsplit : L = L.take q ++ L.drop q := (List.take_append_drop q L).symm
      have hlq : (L.drop q).length = L.length - q := List.length_drop
      by_cases hs : (L.length : Int) < (q : Int) + m
      · rw [if_pos (Or.inr hs)]
        rw [if_neg (by omega)] at h7
        have hr : runS (st0 most) L = (⟨most, q, [], m, true, L.drop q, false⟩, [], false) := by
          conv => lhs; rw [hsplit]
          rw [runS_append, h7]
          simp only [Bool.false_eq_true, if_false]
          rw [run_body_on most m q (L.drop q) [] (by simp; omega)]
          simp
        refine ⟨_, [], false, L, hr, by simp, by simp, fun _ => ⟨hr, ?_, rfl, ?_, rfl, by omega⟩⟩
        · simp only; omega
        · simp only
          constructor
          · intro h; omega
          · intro h; rw [h] at hz; simp at hz
      · rw [if_neg (by simp; omega)]
        have ht : ((q : Int) + m).toNat = q + m.toNat := by omega
        have htq : ((q : Int)).toNat = q := by omega
        simp only [ht, htq]
        obtain ⟨S, msgs, f, held, g1, g2, g3, g4⟩ := ih (L.drop (q + m.toNat)) (out ++ [(L.take (q + m.toNat)).drop q]) (by rw [List.length_drop]; omega)
        have hmid : L.drop q = (L.take (q + m.toNat)).drop q ++ L.drop (q + m.toNat) := by
          have : L.drop (q + m.toNat) = (L.drop q).drop m.toNat := by rw [List.drop_drop]
          rw [this, List.drop_take, show q + m.toNat - q = m.toNat by omega, List.take_append_drop]
        have hmidl : ((L.take (q + m.toNat)).drop q).length = m.toNat := by rw [List.length_drop, List.length_take]; omega
        have hr : runS (st0 most) (L.take q ++ (L.take (q + m.toNat)).drop q) = (st0 most, [(L.take (q + m.toNat)).drop q], false) := by
          rw [runS_append, h7]
          by_cases hm : m = 0
          · rw [if_pos hm]
            have : (L.take (q + m.toNat)).drop q = [] := List.length_eq_zero_iff.1 (by omega)
            rw [this]
            simp [runS]
          · rw [if_neg hm]
            simp only [Bool.false_eq_true, if_false]
            rw [run_body_end most m q _ [] (by intro h; rw [h] at hmidl; simp at hmidl; omega) (by simp only [List.nil_append]; omega)]
            simp
        refine ⟨S, (L.take (q + m.toNat)).drop q :: msgs, f, held, ?_, by rw [g2]; simp, g3, g4⟩
        conv => lhs; rw [hsplit, hmid, ← List.append_assoc]
        rw [runS_append, hr]
        simp only [Bool.false_eq_true, if_false]
        rw [g1]
        simp
theorem feed_pair {most : Int} (h0 : 0 ≤ most) {S : St} {held : List Int} (hI : Inv most S held) (l : List Int) (k : Nat) (hk : held.length + l.length < k) :
    ∃ S' msgs f held', runS S l = (S', msgs, f) ∧ feedN k most (held ++ l) [] = (msgs, held', if f then 250 else 0) ∧ (f = true → S' = stDead ∧ held' = []) ∧ (f = false → Inv most S' held') := by
  obtain ⟨S', msgs, f, held', h1, h2, h3, h4⟩ := feed_run most h0 k (held ++ l) [] (by simp; omega)
  refine ⟨S', msgs, f, held', ?_, by simpa using h2, h3, h4⟩
  rw [runS_append, hI.run] at h1
  simp only [Bool.false_eq_true, if_false, List.nil_append] at h1
  exact h1
end Go.Proofs.YtgdiilpocoimgaaDoor.Hand
