/- What each card of the second form takes: the bound; a list of pieces opened; a list of numbers opened. -/
import Derived.Test.YtgdiilpocoimgaaDoorRows
import Derived.Test.YtgdiilpocoimgaaDoorFMsgs
import Derived.Deep.Matrix
import Derived.WalkKit
import Derived.ProofKit
import Derived.OpenShut
import Derived.ShutString
import Derived.ChangeOld
import Derived.Below
import Derived.SizedLaws
set_option linter.unusedVariables false
set_option linter.unusedSimpArgs false
namespace Go.Proofs.YtgdiilpocoimgaaDoor.Hand
open Go.ChangeShapes Go.WideShapes Go.ChangeAt Go.RowKit Go.Deep Go.Proofs.YtgdiilpocoimgaaDoor.Frm Go.Proofs.YtgdiilpocoimgaaDoorW.PrintWords
theorem one_le {H : Type} (d : DataW H) : 1 ≤ Rows.uptoBulk d := by
  cases d with
  | lit l => cases l <;> simp [Rows.uptoBulk]
  | nil => simp [Rows.uptoBulk]
  | ptr d => simp [Rows.uptoBulk]
  | slice elems spare => simp [Rows.uptoBulk]
  | agg parts => simp [Rows.uptoBulk]
  | iface t d => simp [Rows.uptoBulk]
  | map entries => simp [Rows.uptoBulk]
  | held h => simp [Rows.uptoBulk]
theorem length_le {H : Type} (l : List (DataW H)) : l.length ≤ Rows.uptoBulkAll l := by
  induction l with
  | nil => simp [Rows.uptoBulkAll]
  | cons x r ih => have := one_le x; simp only [Rows.uptoBulkAll, List.length_cons]; omega
theorem bulk_le {H : Type} {l : List (DataW H)} (hk : Rows.uptoSmall H l = true) : Rows.uptoBulkAll l ≤ 1048576 := of_decide_eq_true hk
theorem intRow_bulk {H : Type} (k : IntKind) (A : Option Addr) (L : Nat) (zs : List Int) (hl : L ≤ zs.length) (hA : A = none → L = 0) : L + 1 ≤ Rows.uptoBulk (intRow (H := H) k A L zs) := by
  cases A with
  | none => rw [hA rfl]; exact one_le _
  | some a =>
    show L + 1 ≤ Rows.uptoBulk (DataW.slice (lits (H := H) k (zs.take L)) (lits k (zs.drop L)))
    have h1 := length_le (lits (H := H) k (zs.take L))
    have h2 : (lits (H := H) k (zs.take L)).length = min L zs.length := by simp [lits]
    simp only [Rows.uptoBulk]
    omega
theorem rows_bulk {H : Type} (A : Nat → Option Addr) (L : Nat → Nat) (Z : Nat → List Int) : ∀ (rs : List Nat), (∀ r ∈ rs, L r ≤ (Z r).length ∧ (A r = none → L r = 0)) → rs.length + ((rs.map fun r => (Z r).take (L r)).flatten).length ≤ Rows.uptoBulkAll (rs.map fun r => intRow (H := H) .u8 (A r) (L r) (Z r))
  | [], h => Nat.zero_le _
  | r :: rs, h => by
    have h1 := rows_bulk (H := H) A L Z rs (fun x hx => h x (List.mem_cons_of_mem _ hx))
    have h2 := intRow_bulk (H := H) .u8 (A r) (L r) (Z r) (h r List.mem_cons_self).1 (h r List.mem_cons_self).2
    have h3 : ((Z r).take (L r)).length ≤ L r := by rw [List.length_take]; omega
    simp only [List.map_cons, List.flatten_cons, List.length_append, List.length_cons, Rows.uptoBulkAll]
    omega
set_option maxRecDepth 100000 in
theorem pieces_open {H : Type} {enc : TypeId × Value → H} {W : World} {base : Nat} {v : Value} {d : DataW H} {p : List MemPlace} (hv : Value.okWide Tryd.prog W .any base 25 v) (h : DataW.Trod enc Tryd.prog W 0 (fun _ => true) true 25 v d p) :
    ∃ A c L, v = .slice A L.length c ∧ Kd.C (Kd.slice 5 (Kd.int .u8)) W A L.length L ∧ (∀ x ∈ L, Bytes x) ∧ L.length + L.flatten.length ≤ Rows.uptoBulk d := by
  obtain ⟨a0, len0, cap0, rfl⟩ := okWide_slice Tryd.underlying25 hv
  obtain ⟨fuel, hf⟩ := h
  rcases open_int_rows Tryd.underlying25 Tryd.underlying22 Tryd.underlying5 (by kernel_rfl) (by kernel_rfl) hf with ⟨hcs, hx⟩ | ⟨a, len, cap, A, L, C, Z, hcs, _, hl, hm, hx, hrows⟩
  · simp [Value.cells] at hcs
    obtain ⟨rfl, rfl, rfl⟩ := hcs
    exact ⟨none, 0, [], rfl, Kd.C_nil _ W, (fun x hx => by cases hx), Nat.zero_le _⟩
  · simp [Value.cells] at hcs
    obtain ⟨rfl, rfl, rfl⟩ := hcs
    obtain ⟨hx, _⟩ := Prod.mk.inj hx
    have hmax : maxLen ≤ 9223372036854775807 := by decide
    have hlen : ((List.range len0).map fun r => (Z r).take (L r)).length = len0 := by simp
    refine ⟨some a, cap0, (List.range len0).map fun r => (Z r).take (L r), by rw [hlen], ?_, ?_, ?_⟩
    · rw [hlen]
      refine ⟨hlen, by omega, fun h0 => ⟨a, rfl, fun j q hj => ?_⟩⟩
      have hj2 : j < len0 := by
        have := (List.getElem?_eq_some_iff.1 hj).1
        rw [hlen] at this; exact this
      obtain ⟨r1, r2, r3, r4, r5, r6, r7⟩ := hrows j (by omega)
      have hq : q = (Z j).take (L j) := by
        rw [List.getElem?_map, List.getElem?_range hj2] at hj
        exact (Option.some.inj hj).symm
      have hql : q.length = L j := by rw [hq, List.length_take]; omega
      refine ⟨[.slice (A j) (L j) (C j)], rfl, ⟨A j, C j, by rw [hql], by rw [hql]; exact r2, ?_⟩, fun i u hu => ?_⟩
      · refine Kd.C_of_reads (d := (0 : Int)) (h1 := fun _ => rfl) ⟨rfl, by rw [hql]; omega, fun h0 => ?_⟩
        rw [hql] at h0
        cases hA : A j with
        | none => have := r6 hA; omega
        | some a' =>
          refine ⟨a', rfl, fun i hi => ?_⟩
          rw [hql] at hi
          rw [(r7 a' hA).2 i (by omega)]
          congr 2
          rw [hq, List.getD_eq_getElem?_getD, List.getD_eq_getElem?_getD, List.getElem?_take, if_pos hi]
      · cases i with
        | zero =>
          have : Value.slice (A j) (L j) (C j) = u := by simpa using hu
          rw [← this, Nat.add_zero, show j * (Kd.slice 5 (Kd.int .u8)).sz = j from Nat.mul_one j]
          exact r1
        | succ i => simp at hu
    · intro x hx
      obtain ⟨r, hr, rfl⟩ := List.mem_map.1 hx
      obtain ⟨r1, r2, r3, r4, r5, r6, r7⟩ := hrows r (by have := List.mem_range.1 hr; omega)
      intro y hy
      have := r5 y (List.mem_of_mem_take hy)
      simp [Lit.wf, IntKind.min, IntKind.max, IntKind.bits, IntKind.signed] at this
      omega
    · rw [hx]
      have h1 := rows_bulk (H := H) A L Z (List.range len0) (fun r hr => by
        obtain ⟨r1, r2, r3, r4, r5, r6, r7⟩ := hrows r (by have := List.mem_range.1 hr; omega)
        exact ⟨by omega, fun hA => by have := r6 hA; omega⟩)
      rw [hlen]
      rw [List.length_range] at h1
      simp only [Rows.uptoBulk]
      omega
set_option maxRecDepth 100000 in
theorem ints_open {H : Type} {enc : TypeId × Value → H} {W : World} {base : Nat} {v : Value} {d : DataW H} {p : List MemPlace} (hv : Value.okWide Tryd.prog W .any base 49 v) (h : DataW.Trod enc Tryd.prog W 0 (fun _ => true) true 49 v d p) :
    ∃ A c l, v = .slice A l.length c ∧ Kd.C (Kd.int .i64) W A l.length l ∧ (∀ x ∈ l, -9223372036854775808 ≤ x ∧ x ≤ 9223372036854775807) ∧ l.length ≤ Rows.uptoBulk d := by
  obtain ⟨a0, len0, cap0, rfl⟩ := okWide_slice Tryd.underlying49 hv
  obtain ⟨fuel, hf⟩ := h
  rcases open_ints Tryd.underlying49 Tryd.underlying3 (by kernel_rfl) hf with ⟨hcs, hx⟩ | ⟨x, l, c, zs, hcs, _, hl, hm, hz, hx, hcell, hwz⟩
  · simp [Value.cells] at hcs
    obtain ⟨rfl, rfl, rfl⟩ := hcs
    exact ⟨none, 0, [], rfl, Kd.C_nil _ W, (fun x hx => by cases hx), Nat.zero_le _⟩
  · simp [Value.cells] at hcs
    obtain ⟨rfl, rfl, rfl⟩ := hcs
    obtain ⟨l, rfl, hr, _, hw, hc⟩ := ReadsInt.ofRowC (k := .i64) (w := W) (a := some x) (len := len0) (cap := cap0) (zs := zs) (.inr ⟨_, rfl, hl, hm, by simpa using hz, hcell, hwz⟩)
    obtain ⟨hx, _⟩ := Prod.mk.inj hx
    refine ⟨some x, cap0, l, rfl, Kd.C_of_reads (d := (0 : Int)) (h1 := fun _ => rfl) hr, fun y hy => ?_, ?_⟩
    · have := hw y hy
      simp [Lit.wf] at this
      have e1 : IntKind.i64.min = -9223372036854775808 := rfl
      have e2 : IntKind.i64.max = 9223372036854775807 := rfl
      omega
    · rw [hx]
      simp only [Rows.uptoBulk]
      have h1 := length_le (lits (H := H) .i64 (zs.take l.length))
      have h2 : (lits (H := H) .i64 (zs.take l.length)).length = min l.length zs.length := by simp [lits]
      have h3 : l.length ≤ zs.length := by simp at hz; omega
      omega
end Go.Proofs.YtgdiilpocoimgaaDoor.Hand
