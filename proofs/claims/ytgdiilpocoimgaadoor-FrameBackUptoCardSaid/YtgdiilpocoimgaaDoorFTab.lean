/- From a row's list to the table that Itoa reads. -/
import Derived.Test.YtgdiilpocoimgaaDoorRows
import Derived.Test.YtgdiilpocoimgaaDoorFItoa
import Derived.Deep.DeepHandedRow
import Derived.MakeChecks
set_option linter.unusedVariables false
set_option linter.unusedSimpArgs false
namespace Go.Proofs.YtgdiilpocoimgaaDoor.Hand
open Go.RowKit Go.Proofs.YtgdiilpocoimgaaDoor.Frm
theorem tab_type : (Tryd.prog.globals[5]?).map (·.type) = some 109 := by kernel_rfl
theorem tab_named : Tryd.prog.globalNamed "internal/strconv.uint64pow10" = some 5 := by kernel_rfl
theorem tab_data : (Rows.laid_internal_strconv_uint64pow10 : DataW Unit) = Lib.tabData .u64 Lib.pow10Tab := by rfl
theorem tab_of_reads {W : World} (h : Lib.VarReads Tryd.prog W "internal/strconv.uint64pow10" Rows.laid_internal_strconv_uint64pow10) : TabB W := by
  obtain ⟨g, t, cs, fuel, p, h1, h2, h3, h4⟩ := h
  obtain rfl : 5 = g := Option.some.inj (tab_named.symm.trans h1)
  obtain rfl : 109 = t := Option.some.inj (tab_type.symm.trans h2)
  rw [tab_data] at h4
  have hc := Lib.cells_of_tab (t := 109) (e := 92) (n := 20) Tryd.underlying109 Tryd.underlying92 (by kernel_rfl) (by kernel_rfl) h4
  have h5 : W.var? Tryd.prog "internal/strconv.uint64pow10" = some (Lib.pow10Tab.map fun z => Value.int .u64 z).toArray := by rw [h3, ← hc]
  intro w' hB
  unfold Lib.TabIs
  rw [← h5]
  unfold World.var?
  rw [tab_named]
  show (match w'.heap[5]? with | some (Obj.cells cs _ _) => some cs | _ => none) = (match W.heap[5]? with | some (Obj.cells cs _ _) => some cs | _ => none)
  have hlt : 5 < W.heap.size := by
    rcases Nat.lt_or_ge 5 W.heap.size with hl | hl
    · exact hl
    · unfold World.var? at h3
      rw [tab_named] at h3
      have : (match W.heap[5]? with | some (Obj.cells cs _ _) => some cs | _ => none) = some cs := h3
      rw [Array.getElem?_eq_none hl] at this
      cases this
  rw [hB.block 5 hlt]
theorem tab_of_laid {W : World} {laid : List (String × DataW Unit)} (hp : (laid.all fun x => x.2.handleName?.isNone) = true) (hm : ("internal/strconv.uint64pow10", (Rows.laid_internal_strconv_uint64pow10 : DataW Unit)) ∈ laid) (h : laidMetH Tryd.prog laid W) : TabB W := by
  rw [MakeChecks.laidMetH_plain _ _ _ hp] at h
  exact tab_of_reads (Lib.laidMet.reads h hm)
end Go.Proofs.YtgdiilpocoimgaaDoor.Hand
