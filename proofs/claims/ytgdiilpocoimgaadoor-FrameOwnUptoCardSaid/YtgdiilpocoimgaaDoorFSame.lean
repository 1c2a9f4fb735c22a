/- SameAll of two lists of the same messages: true. -/
import Derived.Test.YtgdiilpocoimgaaDoorFMsgs
import Derived.Deep.RegionHeld
set_option linter.unusedVariables false
set_option linter.unusedSimpArgs false
namespace Go.Proofs.YtgdiilpocoimgaaDoor.Hand
open Go.RowKit Go.Proofs.YtgdiilpocoimgaaDoor.Frm Go.Proofs.YtgdiilpocoimgaaDoorW.PrintWords Go.Proofs.YtgdiilpocoimgaaDoorW.PrintLast Go.Proofs.YtgdiilpocoimgaaDoorW.PrintMore
theorem cell_lt {w : World} {a : Addr} {v : Value} (h : w.cell? a = some v) : a.block < w.heap.size := by
  rcases Nat.lt_or_ge a.block w.heap.size with h1 | h1
  · exact h1
  · have : w.heap[a.block]? = none := Array.getElem?_eq_none h1
    simp [World.cell?, this] at h
set_option maxHeartbeats 4000000 in
set_option maxRecDepth 100000 in
theorem sameAll_true (A0 A1 : Option Addr) (c0 c1 : Nat) (L : List (List Int)) (w : World) (h0 : Kd.C (Kd.slice 5 (Kd.int .u8)) w A0 L.length L) (h1 : Kd.C (Kd.slice 5 (Kd.int .u8)) w A1 L.length L) (hl : L.length ≤ 1073741824) :
    Calls Tryd.prog 17 #[.slice A0 L.length c0, .slice A1 L.length c1] w fun e w' => e = .returned (.bool true) ∧ Below w.heap.size w w' := by
  have HC0 := Aside0.mk h0
  have HC1 := Aside0.mk h1
  have HL := Aside0.mk hl
  clear h0 h1 hl
  go_enter Tryd.func17, Tryd.ntmps17
  go_wp2
  go_loopg [5] (L.length + 1) (fun g v5 wx => ∃ i : Nat, v5 = .int .i64 (i : Int) ∧ Aside0 (i ≤ L.length ∧ L.length < i + g) ∧ Aside0 (Below w.heap.size w wx))
  case atStart => exact ⟨0, rfl, ⟨by omega⟩, ⟨Below.refl _ _⟩⟩
  case round =>
    obtain ⟨i, rfl, HN, HB⟩ := hrel
    by_cases hlt : i < L.length
    · have hb1 : decide ((i : Int) < (L.length : Int)) = true := decide_eq_true (by omega)
      obtain ⟨gk, rfl⟩ : ∃ g', gk = g' + 1 := ⟨gk - 1, by have := HN.out; omega⟩
      have hw1 : wrap64 ((i : Int) + 1) = ((i + 1 : Nat) : Int) := by have := HL.out; rw [wr64 (by omega) (by omega)]; push_cast; rfl
      have p0 : 0 ≤ (i : Int) := by omega
      have q0 : (i : Int) < (L.length : Int) := by omega
      obtain ⟨ad0, B0, d0, rfl, hx0, hl0, hi0⟩ := at_L1 HC0.out (i : Int) p0 q0
      obtain ⟨ad1, B1, d1, rfl, hx1, hl1, hi1⟩ := at_L1 HC1.out (i : Int) p0 q0
      have hx0 : w.cell? (ad0.add i) = some (.slice B0 (rd_L1 L (i : Int)).length d0) := hx0
      have hx1 : w.cell? (ad1.add i) = some (.slice B1 (rd_L1 L (i : Int)).length d1) := hx1
      generalize rd_L1 L (i : Int) = m at *
      have keepF : ∀ wx, Below w.heap.size w wx → wx.cell? (ad0.add i) = some (.slice B0 m.length d0) ∧ wx.cell? (ad1.add i) = some (.slice B1 m.length d1) ∧
          (convert 22 9 (.slice B0 m.length d0)).run Tryd.prog wx = .ok (.string (strOfNums m)) wx ∧ (convert 22 9 (.slice B1 m.length d1)).run Tryd.prog wx = .ok (.string (strOfNums m)) wx ∧ Aside0 (Below w.heap.size w wx) := fun wx hB =>
        ⟨(hB.cell (cell_lt hx0)).trans hx0, (hB.cell (cell_lt hx1)).trans hx1, Kd.C_string (P := Tryd.prog) (A := B0) (c := d0) Tryd.underlying22 Tryd.underlying5 Tryd.underlying9 (Kd.C_below hi0 hB), Kd.C_string (P := Tryd.prog) (A := B1) (c := d1) Tryd.underlying22 Tryd.underlying5 Tryd.underlying9 (Kd.C_below hi1 hB), ⟨hB⟩⟩
      replace p0 := eq_true p0
      replace q0 := eq_true q0
      obtain ⟨k1, k2, k3, k4, k5⟩ := keepF wr HB.out
      go_wp2
      have hB := HB.out
      go_region_held (fun wx => wx.cell? (ad0.add i) = some (.slice B0 m.length d0) ∧ wx.cell? (ad1.add i) = some (.slice B1 m.length d1) ∧
          (convert 22 9 (.slice B0 m.length d0)).run Tryd.prog wx = .ok (.string (strOfNums m)) wx ∧ (convert 22 9 (.slice B1 m.length d1)).run Tryd.prog wx = .ok (.string (strOfNums m)) wx ∧ Aside0 (Below w.heap.size w wx))
        (first | exact keepF _ (by assumption) | exact keepF _ (below_drew1 (by assumption))) (fail)
      rename_i hh
      have HB2 := hh.2.2.2.2
      go_wp2
      go_roundg gk
      case measure => have := HN.out; omega
      case rel => exact ⟨i + 1, by rw [hw1], ⟨by have := HN.out; omega⟩, HB2⟩
    · have hb1 : decide ((i : Int) < (L.length : Int)) = false := decide_eq_false (by omega)
      go_wp2
      go_ret
      exact ⟨by first | rfl | simp, HB.out⟩
end Go.Proofs.YtgdiilpocoimgaaDoor.Hand
