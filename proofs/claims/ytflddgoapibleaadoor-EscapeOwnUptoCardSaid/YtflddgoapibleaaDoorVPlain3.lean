/- Contracts and laws, those that ZOwn needs. -/
import Derived.Test.YtflddgoapibleaaDoorVPlain2
import Derived.Test.YtflddgoapibleaaDoorVWalk3
set_option linter.unusedVariables false
set_option linter.unusedSimpArgs false
namespace Go.Proofs.YtflddgoapibleaaDoor.Hand
open Go.RowKit Go.Proofs.YtflddgoapibleaaDoor.Esc Go.Proofs.YtflddgoapibleaaDoorW.PrintWords Go.Proofs.YtflddgoapibleaaDoorW.PrintLast Go.Proofs.YtflddgoapibleaaDoorW.PrintMore
theorem bt_cons (s : ByteArray) (i : Nat) (h : i < s.size) : ∃ t, (bytesOf s).drop i = bt s (i : Int) :: t ∧ t = (bytesOf s).drop (i + 1) := by
  refine ⟨_, ?_, rfl⟩
  have hl : i < (bytesOf s).length := by rw [bytesOf_length]; exact h
  rw [List.drop_eq_getElem_cons hl, ← bytes_getD s i h]
  congr 1
  rw [List.getD_eq_getElem?_getD, List.getElem?_eq_getElem hl]; rfl
theorem value_f (k : Nat) (c : Int) (h : 0 ≤ c ∧ c ≤ 255) (hk : 0 < k) : galleyref23_value.f k c = some (dig c) := by
  obtain ⟨k, rfl⟩ : ∃ k', k = k' + 1 := ⟨k - 1, by omega⟩
  by_cases h48 : 48 ≤ c
  · by_cases h57 : c ≤ 57
    · have e : dig c = c - 48 := by unfold dig; rw [if_pos ⟨h48, h57⟩]
      unfold galleyref23_value.f
      rw [if_pos h48, decide_eq_true h57, galleyref23_value.j0, if_pos rfl, e]
      congr 1; omega
    · unfold galleyref23_value.f
      rw [if_pos h48, decide_eq_false h57, galleyref23_value.j0, if_neg (by simp)]
      by_cases h97 : 97 ≤ c
      · rw [if_pos h97]
        by_cases h102 : c ≤ 102
        · have e : dig c = c - 87 := by unfold dig; rw [if_neg (by omega), if_pos ⟨h97, h102⟩]
          rw [if_pos h102, e]; congr 1; omega
        · have e : dig c = -1 := by unfold dig; rw [if_neg (by omega), if_neg (by omega)]
          rw [if_neg h102, e]
      · have e : dig c = -1 := by unfold dig; rw [if_neg (by omega), if_neg (by omega)]
        rw [if_neg h97, e]
  · have e : dig c = -1 := by unfold dig; rw [if_neg (by omega), if_neg (by omega)]
    unfold galleyref23_value.f
    rw [if_neg h48, galleyref23_value.j0, if_neg (by simp), if_neg (show ¬ c ≥ 97 by omega), e]
end Go.Proofs.YtflddgoapibleaaDoor.Hand
