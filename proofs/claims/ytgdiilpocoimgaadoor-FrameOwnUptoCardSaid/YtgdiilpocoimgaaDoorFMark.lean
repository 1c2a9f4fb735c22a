/- append onto a row that bears a conversion's mark behind its last cell ([]byte of a string). -/
import Derived.Test.YtgdiilpocoimgaaDoorFRead
import Derived.Laws.CopyRow
import Derived.Laws.Tables
import Derived.Lib.SlFresh
set_option linter.unusedVariables false
set_option linter.unusedSimpArgs false
namespace Go
/-- Stores into a row whose frozen range lies behind its cells. -/
theorem run_storeCells_marked (P : Program) (g o : Nat) (t : TypeId) (fz : Nat × Nat) : ∀ (vs : List Value) (i : Nat) (cur : Array Value) (w : World), w.heap[g]? = some (.cells cur t fz) → cur.size ≤ fz.1 → o + i + vs.length ≤ cur.size → (∀ v ∈ vs, v.oneCell' = true) →
    (storeCells ⟨g, o, none⟩ vs i).run P w = .ok () (w.setRow g (cur.toList.take (o + i) ++ vs ++ cur.toList.drop (o + i + vs.length)).toArray)
  | [], i, cur, w, hg, _, _, _ => by
    simp only [storeCells, List.append_nil, List.length_nil, Nat.add_zero, List.take_append_drop, Array.toArray_toList]
    rw [setRow_self w g cur t fz hg]
    rfl
  | v :: rest, i, cur, w, hg, hfz, hl, h1 => by
    have hi : o + i < cur.size := by simp at hl; omega
    have hadd : (⟨g, o, none⟩ : Addr).add i = ⟨g, o + i, none⟩ := by unfold Addr.add; split <;> simp_all
    have hcell : w.cell? ⟨g, o + i, none⟩ = some cur[o + i] := by simp [World.cell?, hg, hi]
    have hfro : w.frozen? ⟨g, o + i, none⟩ = false := by
      obtain ⟨lo, hi'⟩ := fz
      simp only [World.frozen?, hg, Bool.and_eq_false_iff, decide_eq_false_iff_not]
      left
      simp only at hfz
      omega
    have hst : (store ((⟨g, o, none⟩ : Addr).add i) v).run P w = .ok () (w.setRow g (cur.setIfInBounds (o + i) v)) := by
      rw [hadd, run_store P w _ v _ (h1 v (by simp)), hcell]
      simp [hfro, setCell_eq_setRow w g (o + i) cur t fz v hg]
    have ih := run_storeCells_marked P g o t fz rest (i + 1) (cur.setIfInBounds (o + i) v) (w.setRow g (cur.setIfInBounds (o + i) v)) (setRow_heap w g cur _ t _ hg) (by simpa using hfz) (by simp at hl ⊢; omega) (fun x hx => h1 x (by simp [hx]))
    simp only [storeCells, Sem.run_bind, hst, Result.andThen_ok, ih, setRow_setRow]
    congr 3
    have e := list_seg_step cur.toList (o + i) v rest (by simp at hl ⊢; omega)
    simpa [Array.toList_setIfInBounds, Nat.add_assoc] using e
end Go
namespace Go.Proofs.YtgdiilpocoimgaaDoor.Hand
open Go.RowKit Go.Proofs.YtgdiilpocoimgaaDoor.Frm Go.Proofs.YtgdiilpocoimgaaDoorW.PrintWords Go.Proofs.YtgdiilpocoimgaaDoorW.PrintLast Go.Proofs.YtgdiilpocoimgaaDoorW.PrintMore

def numsV (xs : List Int) : List Value := xs.map (Value.int .u8)
theorem C_of_cells (w : World) (g : Nat) (cur : Array Value) (t : TypeId) (fz : Nat × Nat) (xs : List Int) (hg : w.heap[g]? = some (.cells cur t fz)) (hx : cur.toList.take xs.length = numsV xs) (hl : xs.length ≤ 9223372036854775807) : Kd.C (Kd.int .u8) w (some ⟨g, 0, none⟩) xs.length xs := by
  refine Kd.C_of_reads (d := (0 : Int)) (h1 := fun _ => rfl) ⟨rfl, hl, fun _ => ⟨_, rfl, fun j hj => ?_⟩⟩
  rw [add_plain]
  simp only [World.cell?, hg, Nat.zero_add]
  have h1 : (cur.toList.take xs.length)[j]? = (numsV xs)[j]? := by rw [hx]
  rw [List.getElem?_take, if_pos hj] at h1
  rw [← Array.getElem?_toList, h1]
  simp [numsV, List.getD_eq_getElem?_getD, hj]
theorem append_marked (base : Nat) (g cap : Nat) (cur : Array Value) (fz : Nat × Nat) (xs ys : List Int) (A : Option Addr) (c : Nat) (w : World) (hg : w.heap[g]? = some (.cells cur 5 fz)) (hbg : base ≤ g) (hfz : cur.size ≤ fz.1) (hcs : cur.size = cap) (hnc : xs.length ≤ cap)
    (hx : cur.toList.take xs.length = numsV xs) (hC : Kd.C (Kd.int .u8) w A ys.length ys) (hl : xs.length + ys.length ≤ 1073741824) (hbase : base ≤ w.heap.size) :
    ∃ v' w', (Builtin.append_ #[22, 22] 22 #[.slice (some ⟨g, 0, none⟩) xs.length cap, .slice A ys.length c]).run Tryd.prog w = .ok v' w' ∧ (∃ a c', v' = .slice (some a) (xs ++ ys).length c' ∧ (xs ++ ys).length ≤ c' ∧ Kd.C (Kd.int .u8) w' (some a) (xs ++ ys).length (xs ++ ys)) ∧ w.grownBy w' (some g) := by
  obtain ⟨i, hi, hz, hs, hby⟩ := info_parts info5
  have hlen : (xs ++ ys).length = xs.length + ys.length := List.length_append
  have hnl : (numsV xs).length = xs.length := List.length_map _
  rcases A with _ | ad
  · have h0 : ys.length = 0 := by
      rcases Nat.eq_zero_or_pos ys.length with h0 | h0
      · exact h0
      · obtain ⟨ad, h, _⟩ := hC.2.2 h0
        cases h
    obtain rfl : ys = [] := List.eq_nil_of_length_eq_zero h0
    refine ⟨.slice (some ⟨g, 0, none⟩) xs.length cap, w, by simp [Builtin.append_, run_underlying Tryd.underlying22, sizeOf, typeInfo, hi, Builtin.lenOf, Builtin.firstCells, hnc, storeCells], ⟨⟨g, 0, none⟩, cap, by rw [List.append_nil], by rw [List.append_nil]; exact hnc, by rw [List.append_nil]; exact C_of_cells w g cur 5 fz xs hg hx (by omega)⟩, World.grownBy.refl w _⟩
  · have hnews : ∀ j v, (numsV ys)[j]? = some v → w.cell? (ad.add j) = some v := by
      intro j v hj
      have hjl : j < ys.length := by
        have := (List.getElem?_eq_some_iff.1 hj).1
        rwa [numsV, List.length_map] at this
      obtain ⟨ad', e, hc⟩ := Kd.at_int hC (j : Int) (by omega) (by omega)
      cases e
      rw [show ((j : Int)).toNat = j by omega] at hc
      rw [hc]
      rw [← hj]
      unfold rd
      simp [numsV, List.getD_eq_getElem?_getD, hjl]
    have hone : ∀ u ∈ numsV ys, u.oneCell' = true := by
      intro u hu
      obtain ⟨n, _, rfl⟩ := List.mem_map.1 hu
      rfl
    have hyl : (numsV ys).length = ys.length * i.size := by rw [hs, Nat.mul_one]; exact List.length_map _
    by_cases hroom : xs.length + ys.length ≤ cap
    · have hst := run_storeCells_marked Tryd.prog g (xs.length * i.size) 5 fz (numsV ys) 0 cur w hg hfz (by rw [hyl, hs]; omega) hone
      simp only [Nat.add_zero] at hst
      have hf := run_firstCells_some (P := Tryd.prog) w i.size ys.length ad ys.length c (numsV ys) hyl hnews
      have hr : (Builtin.append_ #[22, 22] 22 #[.slice (some ⟨g, 0, none⟩) xs.length cap, .slice (some ad) ys.length c]).run Tryd.prog w = .ok (.slice (some ⟨g, 0, none⟩) (xs.length + ys.length) cap) (w.setRow g (cur.toList.take (xs.length * i.size) ++ numsV ys ++ cur.toList.drop (xs.length * i.size + (numsV ys).length)).toArray) := by
        simp [Builtin.append_, run_underlying Tryd.underlying22, sizeOf, typeInfo, hi, Builtin.lenOf, hroom, hf, Addr.add_lit, hst]
      refine ⟨_, _, hr, ⟨⟨g, 0, none⟩, cap, by rw [hlen], by omega, ?_⟩, ⟨rfl, rfl, rfl, by simp, fun k _ hk => setRow_other w g k _ (fun e => hk (by rw [e]))⟩⟩
      refine C_of_cells _ g _ 5 fz (xs ++ ys) (setRow_heap w g cur _ 5 _ hg) ?_ (by omega)
      rw [hs, Nat.mul_one, hx, hlen]
      have e : numsV (xs ++ ys) = numsV xs ++ numsV ys := List.map_append
      rw [e, List.append_assoc]
      have : (numsV xs ++ numsV ys).length = xs.length + ys.length := by rw [List.length_append]; simp [numsV]
      rw [← List.append_assoc, ← this]
      exact List.take_left
    · have holds : ∀ j v, (numsV xs)[j]? = some v → w.cell? ((⟨g, 0, none⟩ : Addr).add j) = some v := by
        intro j v hj
        rw [← hx, List.getElem?_take] at hj
        split at hj
        · rw [add_plain]
          simp only [World.cell?, hg, Nat.zero_add]
          rw [← Array.getElem?_toList]; exact hj
        · cases hj
      have hr := run_append_grow (P := Tryd.prog) w 22 22 5 i (.int .u8 0) Tryd.underlying22 hi hz ⟨g, 0, none⟩ xs.length cap (numsV xs) (by rw [hs, Nat.mul_one]; exact hnl) holds ad ys.length c (numsV ys) hyl hnews (by omega) (by omega) (growslice_fits (by omega) (by rw [hby]; omega))
      have hge := grownCap_ge w (xs.length + ys.length) cap 5
      refine ⟨_, _, hr, ⟨_, _, by rw [hlen], by rw [hlen]; exact hge, ?_⟩, ⟨rfl, rfl, rfl, by simp, fun k hk _ => heap_alloc_old w.drew _ hk⟩⟩
      refine C_of_cells _ w.heap.size _ 5 (0, 0) (xs ++ ys) (heap_alloc_new w.drew _) ?_ (by omega)
      have e : numsV (xs ++ ys) = numsV xs ++ numsV ys := List.map_append
      have : (numsV xs ++ numsV ys).length = (xs ++ ys).length := by rw [List.length_append]; simp [numsV]
      simp only [Array.toList_append]
      rw [e, ← this]
      show List.take _ ((numsV xs ++ numsV ys) ++ _) = numsV xs ++ numsV ys
      exact List.take_left
end Go.Proofs.YtgdiilpocoimgaaDoor.Hand
