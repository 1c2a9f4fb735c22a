/- Feed: what it computes; what a header that is whole tells. -/
import Derived.Test.YtgdiilpocoimgaaDoorFHead2
import Derived.Test.YtgdiilpocoimgaaDoorFRead
set_option linter.unusedVariables false
set_option linter.unusedSimpArgs false
namespace Go.Proofs.YtgdiilpocoimgaaDoor.Hand
open Go.RowKit Go.Proofs.YtgdiilpocoimgaaDoor.Frm Go.Proofs.YtgdiilpocoimgaaDoorW.PrintWords Go.Proofs.YtgdiilpocoimgaaDoorW.PrintLast Go.Proofs.YtgdiilpocoimgaaDoorW.PrintMore
attribute [local go_sem] max2_int min2_int max_two min_two max_three min_three max_four min_four

/-- The messages so far, what is held, the error. -/
def feedN : Nat → Int → List Int → List (List Int) → List (List Int) × List Int × Int
  | 0, _, held, out => (out, held, 0)
  | k + 1, most, held, out =>
    if held.length = 0 then (out, held, 0)
    else if (headL held most).2.2 = 2 then (out, [], 250)
    else if (headL held most).2.2 = 0 ∨ (held.length : Int) < (headL held most).1 + (headL held most).2.1 then (out, held, 0)
    else feedN k most (held.drop ((headL held most).1 + (headL held most).2.1).toNat) (out ++ [(held.take ((headL held most).1 + (headL held most).2.1).toNat).drop (headL held most).1.toNat])
/-- What a header tells: broken, begun, or whole: then its own length and the message's. -/
def Told (L : List Int) (most : Int) (r : Int × Int × Int) : Prop :=
  r = (0, 0, 2) ∨ r = (0, 0, 0) ∨ (r.2.2 = 1 ∧ 2 ≤ r.1 ∧ r.1 ≤ 4096 ∧ r.1 ≤ (L.length : Int) ∧ 0 ≤ r.2.1 ∧ r.2.1 ≤ most)
theorem outL_told (L : List Int) (most : Int) : Told L most (outL L) := by
  unfold outL; split
  · exact .inl rfl
  · exact .inr (.inl rfl)
theorem endL_told (L : List Int) (most : Int) (p : Nat) (n : Int) (hn : n ≤ most) (hp : 1 ≤ p) : Told L most (endL L p n) := by
  unfold endL
  cases h : nextB L p with
  | none => exact outL_told L most
  | some c =>
    have hl := next_lt h
    simp only
    split
    · exact .inl rfl
    · rename_i hh
      exact .inr (.inr ⟨rfl, by simp only; omega, by simp only; omega, by simp only; omega, by simp only; omega, hn⟩)
theorem hdN_told (L : List Int) (most : Int) (hm : -1 ≤ most) : ∀ (k ph p name value : Nat) (n : Int), n ≤ most → Told L most (hdN k ph L most p name value n) := by
  intro k
  induction k with
  | zero => intro ph p name value n hn; rw [hdN]; exact .inl rfl
  | succ k ih =>
    intro ph p name value n hn
    match ph with
    | 0 =>
      rw [hdN]
      cases h : nextB L p with
      | none => exact outL_told L most
      | some c =>
        simp only
        split
        · exact endL_told L most (p + 1) n hn (by omega)
        split
        · exact .inl rfl
        · exact ih _ _ _ _ _ hn
    | 1 =>
      rw [hdN]
      cases h : nextB L p with
      | none => exact outL_told L most
      | some c =>
        simp only
        split
        · exact ih _ _ _ _ _ hn
        split
        · exact .inl rfl
        · exact ih _ _ _ _ _ hn
    | ph + 2 =>
      rw [hdN]
      cases h : nextB L p with
      | none => exact outL_told L most
      | some c =>
        simp only
        split
        · exact ih _ _ _ _ _ hn
        split
        · exact .inl rfl
        cases h2 : nextB L (p + 1) with
        | none => exact outL_told L most
        | some d =>
          simp only
          split
          · exact .inl rfl
          split
          · split
            · exact .inl rfl
            split
            · exact .inl rfl
            · exact ih _ _ _ _ _ (by omega)
          · exact ih _ _ _ _ _ hn
theorem headL_told (L : List Int) (most : Int) (hm : 0 ≤ most) : Told L most (headL L most) := hdN_told L most (by omega) _ _ _ _ _ _ (by omega)
theorem RD.store {base b : Nat} {most : Int} {v0 : Value} {dead : Bool} {w : World} {v : Value} {held : List Int} (hc : w.heap[b]? = some (.cells #[.int .i64 most, v0, .bool dead] 53 (0, 0))) (hr : Kd.R (Kd.int .u8) 5 w base (fun k => k ≠ b) v held) : RD base b most v held dead (w.setCell ⟨b, 1, none⟩ v) :=
  ⟨by simp [World.setCell, Array.getElem?_modify, hc], Kd.R_far hr (fun k hk => hk) _⟩
theorem RD.die {base b : Nat} {most : Int} {v : Value} {held : List Int} {w : World} (h : RD base b most v held false w) : RD base b most (.slice none 0 0) [] true ((w.setCell ⟨b, 1, none⟩ (.slice none 0 0)).setCell ⟨b, 2, none⟩ (.bool true)) :=
  ⟨by simp [World.setCell, Array.getElem?_modify, h.cell], Kd.R_nil _ _ _ _ _⟩
theorem R_cap {base : Nat} {ok : Nat → Prop} {A : Option Addr} {n c : Nat} {w : World} {xs : List Int} (h : Kd.R (Kd.int .u8) 5 w base ok (.slice A n c) xs) : c ≤ 9223372036854775807 := by
  obtain ⟨inner, ho⟩ := Kd.R_own h
  rcases ho.2 with ⟨e, _⟩ | ⟨g, cap, cur, e, _, _, _, hcap, _⟩
  · injection e with _ _ e3; omega
  · injection e with _ _ e3
    have : maxLen ≤ 9223372036854775807 := by decide
    omega
theorem R_addr {base : Nat} {ok : Nat → Prop} {A : Option Addr} {n c : Nat} {w : World} {xs : List Int} (h : Kd.R (Kd.int .u8) 5 w base ok (.slice A n c) xs) (h0 : 0 < xs.length) : ∃ g, A = some ⟨g, 0, none⟩ := by
  obtain ⟨g, cap, e, _⟩ := Kd.R_form h h0
  injection e with e1
  exact ⟨g, e1⟩
end Go.Proofs.YtgdiilpocoimgaaDoor.Hand
