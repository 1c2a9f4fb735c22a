/- The reader: New, Held, Done; bytes.Clone as a row of one's own. -/
import Derived.Test.YtgdiilpocoimgaaDoorFLen
set_option linter.unusedVariables false
set_option linter.unusedSimpArgs false
namespace Go.Proofs.YtgdiilpocoimgaaDoor.Hand
open Go.RowKit Go.Proofs.YtgdiilpocoimgaaDoor.Frm Go.Proofs.YtgdiilpocoimgaaDoorW.PrintWords Go.Proofs.YtgdiilpocoimgaaDoorW.PrintLast Go.Proofs.YtgdiilpocoimgaaDoorW.PrintMore
attribute [local go_sem] max2_int min2_int max_two min_two max_three min_three max_four min_four

theorem clone_R (a : Addr) (c : Nat) (l : List Int) (w : World) (h : Kd.C (Kd.int .u8) w (some a) l.length l) (hl : l.length ≤ 140737488355328) :
    Calls Tryd.prog 25 #[.slice (some a) l.length c] w fun e w' => ∃ v, e = .returned v ∧ Kd.R (Kd.int .u8) 5 w' w.heap.size (fun _ => True) v l ∧ Below w.heap.size w w' := by
  refine (Tryd.bytes_Clone_at a l.length c l w rfl hl (fun i hi => ?_)).mono ?_
  · obtain ⟨ad, e, hc⟩ := Kd.at_int h (i : Int) (by omega) (by omega)
    cases e
    rw [show ((i : Int)).toNat = i by omega] at hc
    rw [hc]
    unfold rd
    rw [show ((i : Int)).toNat = i by omega]
  · rintro e w' ⟨v, rfl, ho, _, hb⟩
    exact ⟨v, rfl, Kd.R_of_own (enc := Value.int .u8) (h1 := fun _ => rfl) ho (fun _ _ => trivial), hb⟩
/-- A reader in block b; its held bytes lie in a row of its own, whose value is v. -/
structure RD (base b : Nat) (most : Int) (v : Value) (held : List Int) (dead : Bool) (w : World) : Prop where
  cell : w.heap[b]? = some (.cells #[.int .i64 most, v, .bool dead] 53 (0, 0))
  row : Kd.R (Kd.int .u8) 5 w base (fun k => k ≠ b) v held
theorem RD.c0 {base b : Nat} {most : Int} {v : Value} {held : List Int} {dead : Bool} {w : World} (h : RD base b most v held dead w) : w.cell? ⟨b, 0, none⟩ = some (.int .i64 most) := by simp [World.cell?, h.cell]
theorem RD.c1 {base b : Nat} {most : Int} {v : Value} {held : List Int} {dead : Bool} {w : World} (h : RD base b most v held dead w) : w.cell? ⟨b, 1, none⟩ = some v := by simp [World.cell?, h.cell]
theorem RD.c2 {base b : Nat} {most : Int} {v : Value} {held : List Int} {dead : Bool} {w : World} (h : RD base b most v held dead w) : w.cell? ⟨b, 2, none⟩ = some (.bool dead) := by simp [World.cell?, h.cell]
theorem RD.f1 {base b : Nat} {most : Int} {v : Value} {held : List Int} {dead : Bool} {w : World} (h : RD base b most v held dead w) : w.frozen? ⟨b, 1, none⟩ = false := by simp [World.frozen?, h.cell]
theorem RD.f2 {base b : Nat} {most : Int} {v : Value} {held : List Int} {dead : Bool} {w : World} (h : RD base b most v held dead w) : w.frozen? ⟨b, 2, none⟩ = false := by simp [World.frozen?, h.cell]
theorem RD.lt {base b : Nat} {most : Int} {v : Value} {held : List Int} {dead : Bool} {w : World} (h : RD base b most v held dead w) : b < w.heap.size := (Array.getElem?_eq_some_iff.1 h.cell).1
theorem RD.below {base b : Nat} {most : Int} {v : Value} {held : List Int} {dead : Bool} {w w' : World} (h : RD base b most v held dead w) (hB : Below w.heap.size w w') : RD base b most v held dead w' :=
  ⟨(hB.block b h.lt).trans h.cell, Kd.R_below h.row hB⟩
theorem sizeReader : Option.map (fun x => x.size) (Tryd.prog.info? 53) = some 3 := by kernel_rfl
theorem new_calls (most : Int) (w : World) (h0 : 0 ≤ most) (h1 : most ≤ 16777216) :
    Calls Tryd.prog 22 #[.int .i64 most] w fun e w' => e = .returned (.tuple #[.pointer (some ⟨w.heap.size, 0, none⟩), .int .i64 0]) ∧ RD w.heap.size w.heap.size most (.slice none 0 0) [] false w' ∧ Below w.heap.size w w' := by
  have hb1 : decide (most < 0) = false := decide_eq_false (by omega)
  have hb2 : decide ((16777216 : Int) < most) = false := decide_eq_false (by omega)
  go_enter Tryd.func22, Tryd.ntmps22
  go_wp2
  go_ret2
  refine ⟨rfl, ⟨Deep.blk_alloc_new _ _, Kd.R_nil _ _ _ _ _⟩, below_alloc (Below.refl _ _) _⟩
theorem new_fault (most : Int) (w : World) (h : most < 0 ∨ 16777216 < most) :
    Calls Tryd.prog 22 #[.int .i64 most] w fun e w' => e = .returned (.tuple #[.pointer none, .int .i64 2]) ∧ w' = w := by
  by_cases h0 : most < 0
  · have hb1 : decide (most < 0) = true := decide_eq_true h0
    go_enter Tryd.func22, Tryd.ntmps22
    go_wp2
    go_ret2
    exact ⟨rfl, rfl⟩
  · have hb1 : decide (most < 0) = false := decide_eq_false h0
    have hb2 : decide ((16777216 : Int) < most) = true := decide_eq_true (by omega)
    go_enter Tryd.func22, Tryd.ntmps22
    go_wp2
    go_ret2
    exact ⟨rfl, rfl⟩
theorem held_calls (base b : Nat) (most : Int) (v : Value) (held : List Int) (dead : Bool) (w : World) (h : RD base b most v held dead w) :
    Calls Tryd.prog 12 #[.pointer (some ⟨b, 0, none⟩)] w fun e w' => e = .returned (.int .i64 (held.length : Int)) ∧ w' = w := by
  obtain ⟨A, c, rfl⟩ := Kd.R_slice h.row
  have c1 := h.c1
  obtain ⟨j, hj, hjs⟩ := Option.map_eq_some_iff.1 sizeReader
  go_enter Tryd.func12, Tryd.ntmps12
  go_wp2
  go_ret
  exact ⟨rfl, rfl⟩
theorem held_nil (w : World) : Calls Tryd.prog 12 #[.pointer none] w fun e w' => e = .returned (.int .i64 0) ∧ w' = w := by
  go_enter Tryd.func12, Tryd.ntmps12
  go_wp2
  go_ret
  exact ⟨rfl, rfl⟩
theorem done_nil (w : World) : Calls Tryd.prog 13 #[.pointer none] w fun e w' => e = .returned (.bool true) ∧ w' = w := by
  go_enter Tryd.func13, Tryd.ntmps13
  go_wp2
  go_ret
  exact ⟨rfl, rfl⟩
theorem done_calls (base b : Nat) (most : Int) (v : Value) (held : List Int) (dead : Bool) (w : World) (h : RD base b most v held dead w) :
    Calls Tryd.prog 13 #[.pointer (some ⟨b, 0, none⟩)] w fun e w' => e = .returned (.bool (!dead && decide (held.length = 0))) ∧ w' = w := by
  obtain ⟨A, c, rfl⟩ := Kd.R_slice h.row
  have c1 := h.c1
  have c2 := h.c2
  by_cases hz : held.length = 0
  · have hb : ((held.length : Int) == 0) = true := beq_iff_eq.2 (by omega)
    cases dead
    · go_enter Tryd.func13, Tryd.ntmps13
      go_wp2
      go_ret
      exact ⟨by simp [hz], rfl⟩
    · go_enter Tryd.func13, Tryd.ntmps13
      go_wp2
      go_ret
      exact ⟨rfl, rfl⟩
  · have hb : ((held.length : Int) == 0) = false := beq_eq_false_iff_ne.2 (by omega)
    cases dead
    · go_enter Tryd.func13, Tryd.ntmps13
      go_wp2
      go_ret
      exact ⟨by simp [hz], rfl⟩
    · go_enter Tryd.func13, Tryd.ntmps13
      go_wp2
      go_ret
      exact ⟨rfl, rfl⟩
theorem feed_nil (A : Option Addr) (n c : Nat) (w : World) : Calls Tryd.prog 11 #[.pointer none, .slice A n c] w fun e w' => e = .returned (.tuple #[.slice none 0 0, .int .i64 1]) ∧ w' = w := by
  go_enter Tryd.func11, Tryd.ntmps11
  go_wp2
  go_ret2
  exact ⟨rfl, rfl⟩
theorem feed_dead (base b : Nat) (most : Int) (v : Value) (held : List Int) (A : Option Addr) (n c : Nat) (w : World) (h : RD base b most v held true w) : Calls Tryd.prog 11 #[.pointer (some ⟨b, 0, none⟩), .slice A n c] w fun e w' => e = .returned (.tuple #[.slice none 0 0, .int .i64 251]) ∧ w' = w := by
  have c2 := h.c2
  go_enter Tryd.func11, Tryd.ntmps11
  go_wp2
  go_ret2
  exact ⟨rfl, rfl⟩
end Go.Proofs.YtgdiilpocoimgaaDoor.Hand
