/- bytes.EqualFold, of two lists of bytes below 128. -/
import Derived.Test.YtgdiilpocoimgaaDoorFrmx0
import Derived.Laws.BitsAllLaws
set_option linter.unusedVariables false
set_option linter.unusedSimpArgs false
namespace Go.Proofs.YtgdiilpocoimgaaDoor.Hand
open Go.RowKit Go.Proofs.YtgdiilpocoimgaaDoor.Frm Go.Proofs.YtgdiilpocoimgaaDoorW.PrintWords Go.Proofs.YtgdiilpocoimgaaDoorW.PrintLast Go.Proofs.YtgdiilpocoimgaaDoorW.PrintMore
attribute [local go_sem] max2_int min2_int max_two min_two max_three min_three max_four min_four

def fEq (x y : Int) : Bool := decide (x = y ∨ (65 ≤ x ∧ x ≤ 90 ∧ y = x + 32) ∨ (65 ≤ y ∧ y ≤ 90 ∧ x = y + 32))
def eqF : List Int → List Int → Bool
  | [], [] => true
  | x :: s, y :: t => fEq x y && eqF s t
  | _, _ => false
theorem eqF_end (s t : List Int) (h : s = [] ∨ t = []) : eqF s t = decide (s.length = t.length) := by
  cases s <;> cases t <;> simp [eqF] at h ⊢
theorem eqF_yes (x y : Int) (s t : List Int) (h : fEq x y = true) : eqF (x :: s) (y :: t) = eqF s t := by simp [eqF, h]
theorem eqF_no (x y : Int) (s t : List Int) (h : fEq x y = false) : eqF (x :: s) (y :: t) = false := by simp [eqF, h]
def Asc (l : List Int) : Prop := ∀ x ∈ l, 0 ≤ x ∧ x < 128
theorem rd_at (xs : List Int) (i : Nat) (h : i < xs.length) : rd xs (i : Int) = xs[i] := by
  unfold rd; rw [show ((i : Int)).toNat = i by omega, List.getD_eq_getElem?_getD, List.getElem?_eq_getElem h]; rfl
theorem u8_or (a b : Int) (ha : 0 ≤ a ∧ a < 128) (hb : 0 ≤ b ∧ b < 128) : ∃ c : Int, bits .or .u8 a b = c ∧ c < 128 := by
  obtain ⟨m, rfl⟩ := Int.eq_ofNat_of_zero_le ha.1
  obtain ⟨n, rfl⟩ := Int.eq_ofNat_of_zero_le hb.1
  refine ⟨_, u8_or_nat m n (by omega) (by omega), ?_⟩
  have := Nat.or_lt_two_pow (n := 7) (x := m) (y := n) (by omega) (by omega)
  omega
set_option maxHeartbeats 8000000 in
set_option maxRecDepth 1000000 in
theorem bytes_EqualFold.calls (A0 A1 : Option Addr) (c0 c1 : Nat) (s t : List Int) (w : World) (hs : Kd.C (Kd.int .u8) w A0 s.length s) (ht : Kd.C (Kd.int .u8) w A1 t.length t) (has : Asc s) (hat : Asc t) (hsl : s.length ≤ 1073741824) :
    Calls Tryd.prog 32 #[.slice A0 s.length c0, .slice A1 t.length c1] w fun e w' => e = .returned (.bool (eqF s t)) ∧ w' = w := by
  have HS := Aside0.mk has
  have HT := Aside0.mk hat
  have HA := Aside0.mk hs
  have HC := Aside0.mk ht
  clear has hat hs ht
  obtain ⟨M, hM, hMs, hMt, hMe⟩ : ∃ M : Nat, (if t.length < s.length then (t.length : Int) else (s.length : Int)) = (M : Int) ∧ M ≤ s.length ∧ M ≤ t.length ∧ (M = s.length ∨ M = t.length) := by
    by_cases h : t.length < s.length
    · exact ⟨t.length, if_pos h, by omega, by omega, .inr rfl⟩
    · exact ⟨s.length, if_neg h, by omega, by omega, .inl rfl⟩
  have hM' : (if (t.length : Int) < (s.length : Int) then (t.length : Int) else (s.length : Int)) = (M : Int) := by rw [← hM]; simp
  go_enter Tryd.func32, Tryd.ntmps32
  go_wp2
  go_step3
  go_wp2
  go_loopg [5] M (fun g s5 wx => w = wx ∧ ∃ i : Nat, i + g = M ∧ s5 = .int .i64 i ∧ eqF (s.drop i) (t.drop i) = eqF s t)
  case atStart => exact ⟨rfl, 0, by omega, rfl, rfl⟩
  case round =>
    obtain ⟨rfl, i, hig, rfl, hinv⟩ := hrel
    have HI := Aside0.mk hinv
    clear hinv hM hM'
    cases gk with
    | zero =>
      have hiM : ¬ ((i : Int) < (M : Int)) := by omega
      obtain rfl : i = M := by omega
      have hE : eqF s t = decide (s.length = t.length) := by
        rw [← HI.out, eqF_end _ _ (by
          rcases hMe with h | h
          · exact Or.inl (List.drop_eq_nil_of_le (by omega))
          · exact Or.inr (List.drop_eq_nil_of_le (by omega))), List.length_drop, List.length_drop]
        exact decide_eq_decide.2 (by omega)
      by_cases hst : s.length = t.length
      · have hb : ((s.length : Int) == (t.length : Int)) = true := beq_iff_eq.2 (by omega)
        go_wp2
        go_ret
        exact ⟨by rw [hE]; simp [hst], rfl⟩
      · have hb : ((s.length : Int) == (t.length : Int)) = false := beq_eq_false_iff_ne.2 (by omega)
        go_wp2
        go_ret
        exact ⟨by rw [hE]; simp [hst], rfl⟩
    | succ g =>
      have hiM : (i : Int) < (M : Int) := by omega
      have hisz : (i : Int) < (s.length : Int) := by omega
      have hitz : (i : Int) < (t.length : Int) := by omega
      have hi0 : (0 : Int) ≤ (i : Int) := by omega
      obtain ⟨x, hx⟩ : ∃ x : Int, s[i]'(by omega) = x := ⟨_, rfl⟩
      obtain ⟨y, hy⟩ : ∃ y : Int, t[i]'(by omega) = y := ⟨_, rfl⟩
      obtain ⟨ad, e0, hcx⟩ := Kd.at_int HA.out (i : Int) hi0 (by omega)
      obtain ⟨bd, e1, hcy⟩ := Kd.at_int HC.out (i : Int) hi0 (by omega)
      cases e0
      cases e1
      rw [rd_at s i (by omega), hx] at hcx
      rw [rd_at t i (by omega), hy] at hcy
      simp only [Go.IntWalk.toNatUp] at hcx hcy
      have hx128 := HS.out x (by rw [← hx]; exact List.getElem_mem _)
      have hy128 := HT.out y (by rw [← hy]; exact List.getElem_mem _)
      have Hx := Aside0.mk (And.intro (show s.drop i = x :: s.drop (i + 1) by rw [← hx]; exact List.drop_eq_getElem_cons (by omega)) (show t.drop i = y :: t.drop (i + 1) by rw [← hy]; exact List.drop_eq_getElem_cons (by omega)))
      clear hx hy
      obtain ⟨c, hor, hor128⟩ := u8_or x y hx128 hy128
      have hor128' : ¬ ((128 : Int) ≤ c) := by omega
      go_wp2
      all_goals (try simp only [beq_iff_eq, beq_eq_false_iff_ne, ne_eq] at *)
      all_goals first
        | (go_roundg g
           case measure => omega
           case rel => exact ⟨rfl, i + 1, by omega, by first | rfl | simp, by rw [← HI.out, Hx.out.1, Hx.out.2, eqF_yes _ _ _ _ (decide_eq_true (by omega))]⟩)
        | (go_ret
           refine ⟨?_, rfl⟩
           rw [← HI.out, Hx.out.1, Hx.out.2, eqF_no _ _ _ _ (decide_eq_false (by omega))]
           rfl)
end Go.Proofs.YtgdiilpocoimgaaDoor.Hand
