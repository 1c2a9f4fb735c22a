/- strconv.Itoa of a length, by the laid table; the table goes on reading so. -/
import Derived.Test.YtgdiilpocoimgaaDoorFWrap
import Derived.Lib.LaidTab
import Derived.Lib.LaidU8
import Derived.Lib.AppendIntMem
set_option linter.unusedVariables false
set_option linter.unusedSimpArgs false
namespace Go.Proofs.YtgdiilpocoimgaaDoor.Hand
open Go.RowKit Go.Proofs.YtgdiilpocoimgaaDoor.Frm Go.Proofs.YtgdiilpocoimgaaDoorW.PrintWords Go.Proofs.YtgdiilpocoimgaaDoorW.PrintLast Go.Proofs.YtgdiilpocoimgaaDoorW.PrintMore

abbrev TabB (w : World) : Prop := Lib.TabBelow Tryd.prog w.heap.size w "internal/strconv.uint64pow10" .u64 Lib.pow10Tab
theorem TabB.step {w w' : World} (h : TabB w) (hB : Below w.heap.size w w') : TabB w' := fun w'' hB' => h w'' (hB.trans (hB'.mono hB.size))
def digs (n : Nat) : List Int := (Lib.decDigits n).map fun x => (x.toNat : Int)
theorem nDigits_le : ∀ k u, u < 10 ^ (k + 1) → Lib.nDigits u ≤ k + 1
  | 0, u, h => by rw [Lib.nDigits_small (by simpa using h)]; omega
  | k + 1, u, h => by
    by_cases h1 : u < 10
    · rw [Lib.nDigits_small h1]; omega
    · rw [Lib.nDigits_big h1]
      have := nDigits_le k (u / 10) (by rw [Nat.pow_succ] at h; omega)
      omega
theorem digs_len {n : Nat} (h : n ≤ 16777216) : (digs n).length ≤ 8 := by
  unfold digs
  rw [List.length_map, Lib.decDigits_length]
  have e : n < 10 ^ (7 + 1) := by simp only [Nat.reduceAdd, Nat.reducePow]; omega
  have := nDigits_le 7 n e
  simpa using this
theorem digs_bytes (n : Nat) : Bytes (digs n) := by
  intro y hy
  obtain ⟨x, _, rfl⟩ := List.mem_map.1 hy
  have := UInt8.toNat_lt x
  refine ⟨?_, ?_⟩ <;> omega
theorem digs_str (n : Nat) : strOfNums (digs n) = ⟨(Lib.decDigits n).toArray⟩ := by
  unfold strOfNums digs
  congr 1
  rw [List.map_map]
  congr 1
  conv => rhs; rw [← List.map_id (Lib.decDigits n)]
  refine List.map_congr_left fun x _ => ?_
  show UInt8.ofNat ((x.toNat : Int).toNat) = x
  simp
theorem itoa_calls {w : World} (n : Nat) (hn : n ≤ 16777216) (hT : TabB w) :
    Calls Tryd.prog 28 #[.int .i64 (n : Int)] w fun e W' => e = .returned (.string (strOfNums (digs n))) ∧ Below w.heap.size w W' := by
  refine (Tryd.strconv_Itoa (n : Int) (by omega) (by omega) w hT.here).mono ?_
  rintro e w' ⟨rfl, k, os, rfl⟩
  refine ⟨?_, Lib.below_grow _ w (Nat.le_refl _) k os⟩
  rw [digs_str]
  unfold Lib.itoa
  rw [if_neg (by omega)]
  rfl
end Go.Proofs.YtgdiilpocoimgaaDoor.Hand
