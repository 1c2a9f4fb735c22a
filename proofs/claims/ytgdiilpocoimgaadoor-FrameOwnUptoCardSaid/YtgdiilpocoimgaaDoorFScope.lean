/- A scope with several labels: what the code comes to, each jump going on behind its label; and a scope in which the run jumps back, by a relation at the labels and a measure. For every program. -/
import Derived.WalkMore
import Derived.ScopeJumps
namespace Go.Proofs.YtgdiilpocoimgaaDoor.Hand
open Go

/-- Behind a goto: the code behind the label, at J'; else as Q. -/
structure Jumps (P : Program) (c : Code) (Q J J' : Exit → Act → World → Prop) : Prop where
  goto : ∀ l rest a w, findLabel c l = some rest → rest.wp P J' a w → J (.goto l) a w
  other : ∀ e a w, (∀ l, e ≠ .goto l) → Q e a w → J e a w

def jumpN (P : Program) (c : Code) (Q : Exit → Act → World → Prop) : Nat → Exit → Act → World → Prop
  | 0, e, a, w => Exit.noGoto Q e a w
  | n + 1, .goto l, a, w => ∃ rest, findLabel c l = some rest ∧ rest.wp P (jumpN P c Q n) a w
  | _ + 1, e, a, w => Q e a w

theorem wp_scope_n {P : Program} {c : Code} {Q : Exit → Act → World → Prop} {a : Act} {w : World} (n : Nat) (h : c.wp P (jumpN P c Q n) a w) : (Code.scope c).wp P Q a w := by
  intro b k cs
  have key : ∀ n (d : Code) a w, d.wp P (jumpN P c Q n) a w → ∃ e a' w', Q e a' w' ∧ Arrives P (lone (b.at a (.code d :: .inScope c :: k)) cs w) b k cs e a' w' := by
    intro n
    induction n with
    | zero =>
      intro d a w hd
      obtain ⟨e, a₁, w₁, hq, harr⟩ := hd b (.inScope c :: k) cs
      cases e with
      | normal => exact ⟨.normal, a₁, w₁, hq, Steps.trans harr (.one step_inScope)⟩
      | exit id => exact ⟨.exit id, a₁, w₁, hq, fun k' hk => harr k' (by simp [exitTo, hk])⟩
      | goto l => exact hq.elim
      | ret => exact ⟨_, a₁, w₁, hq, harr⟩
      | panic ch => exact ⟨_, a₁, w₁, hq, harr⟩
      | outgrown => exact ⟨_, a₁, w₁, hq, harr⟩
    | succ n ih =>
      intro d a w hd
      obtain ⟨e, a₁, w₁, hq, harr⟩ := hd b (.inScope c :: k) cs
      cases e with
      | normal => exact ⟨.normal, a₁, w₁, hq, Steps.trans harr (.one step_inScope)⟩
      | exit id => exact ⟨.exit id, a₁, w₁, hq, fun k' hk => harr k' (by simp [exitTo, hk])⟩
      | goto l =>
        obtain ⟨rest, hf, hr⟩ := hq
        have hg : gotoIn l (.inScope c :: k) = some (.code rest :: .inScope c :: k) := by simp [gotoIn, hf]
        obtain ⟨e₂, a₂, w₂, hq₂, harr₂⟩ := ih rest a₁ w₁ hr
        exact ⟨e₂, a₂, w₂, hq₂, .of_steps (harr _ hg) harr₂⟩
      | ret => exact ⟨_, a₁, w₁, hq, harr⟩
      | panic ch => exact ⟨_, a₁, w₁, hq, harr⟩
      | outgrown => exact ⟨_, a₁, w₁, hq, harr⟩
  obtain ⟨e, a₁, w₁, hq, harr⟩ := key n c a w h
  exact ⟨e, a₁, w₁, hq, .of_steps (.one step_scope) harr⟩

theorem jumpN_jumps (P : Program) (c : Code) (Q : Exit → Act → World → Prop) (n : Nat) : Jumps P c Q (jumpN P c Q (n + 1)) (jumpN P c Q n) where
  goto := fun _ rest _ _ hf hr => ⟨rest, hf, hr⟩
  other := fun e a w he hq => by
    cases e with
    | goto l => exact absurd rfl (he l)
    | normal => exact hq
    | exit id => exact hq
    | ret => exact hq
    | panic ch => exact hq
    | outgrown => exact hq

/-- At most two jumps. -/
theorem wp_scope_two {P : Program} {c : Code} {Q : Exit → Act → World → Prop} {a : Act} {w : World}
    (h : ∀ J2 J1 J0 : Exit → Act → World → Prop, Jumps P c Q J2 J1 → Jumps P c Q J1 J0 → (∀ e a w, (∀ l, e ≠ .goto l) → Q e a w → J0 e a w) → c.wp P J2 a w) : (Code.scope c).wp P Q a w :=
  wp_scope_n 2 (h _ _ _ (jumpN_jumps P c Q 1) (jumpN_jumps P c Q 0) (fun e a w he hq => by
    cases e with
    | goto l => exact absurd rfl (he l)
    | normal => exact hq
    | exit id => exact hq
    | ret => exact hq
    | panic ch => exact hq
    | outgrown => exact hq))
/-- A scope in which the run jumps, back too: a relation at the labels, with a measure that each jump lessens. -/
theorem wp_scope_inv {P : Program} {c : Code} {Q : Exit → Act → World → Prop} {a : Act} {w : World} (Inv : Nat → Nat → Act → World → Prop)
    (hl : ∀ k l a w (J : Exit → Act → World → Prop), Inv k l a w → (∀ k' l' a' w', k' < k → Inv k' l' a' w' → J (.goto l') a' w') → (∀ k' l' a' w', k' < k → Inv k' l' a' w' → ∃ rest, findLabel c l' = some (Code.skip.seq rest) ∧ rest.wp P J a' w') → (∀ e a w, (∀ l, e ≠ .goto l) → Q e a w → J e a w) → ∃ rest, findLabel c l = some (Code.skip.seq rest) ∧ rest.wp P J a w)
    (k0 : Nat) (hs : ∀ J : Exit → Act → World → Prop, (∀ k' l' a' w', k' < k0 → Inv k' l' a' w' → J (.goto l') a' w') → (∀ k' l' a' w', k' < k0 → Inv k' l' a' w' → ∃ rest, findLabel c l' = some (Code.skip.seq rest) ∧ rest.wp P J a' w') → (∀ e a w, (∀ l, e ≠ .goto l) → Q e a w → J e a w) → c.wp P J a w) : (Code.scope c).wp P Q a w := by
  have other : ∀ m e a w, (∀ l, e ≠ .goto l) → Q e a w → jumpN P c Q m e a w := by
    intro m e a w he hq
    cases m with
    | zero => cases e with
      | goto l => exact absurd rfl (he l)
      | normal => exact hq
      | exit id => exact hq
      | ret => exact hq
      | panic ch => exact hq
      | outgrown => exact hq
    | succ m => cases e with
      | goto l => exact absurd rfl (he l)
      | normal => exact hq
      | exit id => exact hq
      | ret => exact hq
      | panic ch => exact hq
      | outgrown => exact hq
  have key : ∀ n k, k ≤ n → ∀ m l a w, k ≤ m → Inv k l a w → ∃ rest, findLabel c l = some (Code.skip.seq rest) ∧ rest.wp P (jumpN P c Q m) a w := by
    intro n
    induction n with
    | zero =>
      intro k hk m l a w hm hi
      exact hl k l a w _ hi (fun k' _ _ _ hk' _ => by omega) (fun k' _ _ _ hk' _ => by omega) (other m)
    | succ n ih =>
      intro k hk m l a w hm hi
      refine hl k l a w _ hi (fun k' l' a' w' hk' hi' => ?_) (fun k' l' a' w' hk' hi' => ih k' (by omega) m l' a' w' (by omega) hi') (other m)
      obtain ⟨m, rfl⟩ : ∃ m', m = m' + 1 := ⟨m - 1, by omega⟩
      obtain ⟨rest, hf, hr⟩ := ih k' (by omega) m l' a' w' (by omega) hi'
      exact ⟨_, hf, wp_seq (wp_skip hr)⟩
  refine wp_scope_n k0 (hs _ (fun k' l' a' w' hk' hi' => ?_) (fun k' l' a' w' hk' hi' => key k' k' (Nat.le_refl _) k0 l' a' w' (by omega) hi') (other k0))
  obtain ⟨m, rfl⟩ : ∃ m', k0 = m' + 1 := ⟨k0 - 1, by omega⟩
  obtain ⟨rest, hf, hr⟩ := key k' k' (Nat.le_refl _) m l' a' w' (by omega) hi'
  exact ⟨_, hf, wp_seq (wp_skip hr)⟩
end Go.Proofs.YtgdiilpocoimgaaDoor.Hand
