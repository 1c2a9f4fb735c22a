/- How long the pieces are in all; all of them, one behind the other. -/
import Derived.Test.YtgdiilpocoimgaaDoorFSame
set_option linter.unusedVariables false
set_option linter.unusedSimpArgs false
namespace Go.Proofs.YtgdiilpocoimgaaDoor.Hand
open Go.RowKit Go.Proofs.YtgdiilpocoimgaaDoor.Frm Go.Proofs.YtgdiilpocoimgaaDoorW.PrintWords Go.Proofs.YtgdiilpocoimgaaDoorW.PrintLast Go.Proofs.YtgdiilpocoimgaaDoorW.PrintMore
theorem rd_L1_at (L : List (List Int)) (i : Nat) (h : i < L.length) : rd_L1 L (i : Int) = L[i] := by
  unfold rd_L1
  rw [show ((i : Int)).toNat = i by omega, List.getD_eq_getElem?_getD, List.getElem?_eq_getElem h]; rfl
theorem flat_step (L : List (List Int)) (i : Nat) (h : i < L.length) : (L.take (i + 1)).flatten = (L.take i).flatten ++ rd_L1 L (i : Int) := by
  rw [rd_L1_at L i h, List.take_succ_eq_append_getElem h, List.flatten_append]; simp
def flatN (L : List (List Int)) (i : Nat) : Nat := (L.take i).flatten.length
theorem flat_le (L : List (List Int)) (i : Nat) : (L.take i).flatten.length ≤ L.flatten.length := by
  have h := congrArg List.length (congrArg List.flatten (List.take_append_drop i L))
  rw [List.flatten_append, List.length_append] at h
  omega
theorem piece_le (L : List (List Int)) (i : Nat) (h : i < L.length) : (L.take i).flatten.length + (rd_L1 L (i : Int)).length ≤ L.flatten.length := by
  have := flat_le L (i + 1)
  rw [flat_step L i h, List.length_append] at this; exact this
theorem piece_bytes {L : List (List Int)} (hb : ∀ x ∈ L, Bytes x) (i : Nat) (h : i < L.length) : Bytes (rd_L1 L (i : Int)) := by
  rw [rd_L1_at L i h]; exact hb _ (List.getElem_mem h)
set_option maxHeartbeats 4000000 in
set_option maxRecDepth 100000 in
theorem long_calls (A0 : Option Addr) (c0 : Nat) (L : List (List Int)) (w : World) (h0 : Kd.C (Kd.slice 5 (Kd.int .u8)) w A0 L.length L) (hl : L.length + L.flatten.length ≤ 1048576) :
    Calls Tryd.prog 15 #[.slice A0 L.length c0] w fun e w' => e = .returned (.bool (decide (20000 < L.flatten.length))) ∧ Below w.heap.size w w' := by
  have HC0 := Aside0.mk h0
  have HL := Aside0.mk hl
  clear h0 hl
  go_enter Tryd.func15, Tryd.ntmps15
  go_wp2
  go_loopg [3, 4] (L.length + 1) (fun g v3 v4 wx => ∃ i : Nat, v3 = .int .i64 (flatN L i : Int) ∧ v4 = .int .i64 (i : Int) ∧ Aside0 (i ≤ L.length ∧ L.length < i + g) ∧ Aside0 (Below w.heap.size w wx))
  case atStart => exact ⟨0, rfl, rfl, ⟨by omega⟩, ⟨Below.refl _ _⟩⟩
  case round =>
    obtain ⟨i, rfl, rfl, HN, HB⟩ := hrel
    by_cases hlt : i < L.length
    · have hb1 : decide ((i : Int) < (L.length : Int)) = true := decide_eq_true (by omega)
      obtain ⟨gk, rfl⟩ : ∃ g', gk = g' + 1 := ⟨gk - 1, by have := HN.out; omega⟩
      have hw1 : wrap64 ((i : Int) + 1) = ((i + 1 : Nat) : Int) := by have := HL.out; rw [wr64 (by omega) (by omega)]; push_cast; rfl
      have hw2 : wrap64 ((flatN L i : Int) + ((rd_L1 L (i : Int)).length : Int)) = (flatN L (i + 1) : Int) := by
        unfold flatN
        have := HL.out; have := piece_le L i hlt
        rw [wr64 (by omega) (by omega), flat_step L i hlt, List.length_append]; push_cast; rfl
      have p0 : 0 ≤ (i : Int) := by omega
      have q0 : (i : Int) < (L.length : Int) := by omega
      obtain ⟨ad0, B0, d0, rfl, hx0, hl0, hi0⟩ := at_L1 HC0.out (i : Int) p0 q0
      have hx1 : wr.cell? (ad0.add i) = some (.slice B0 (rd_L1 L (i : Int)).length d0) := (HB.out.cell (cell_lt hx0)).trans hx0
      generalize (rd_L1 L (i : Int)).length = m at *
      replace p0 := eq_true p0
      replace q0 := eq_true q0
      clear hx0 hi0
      go_wp2
      go_roundg gk
      case measure => have := HN.out; omega
      case rel => exact ⟨i + 1, by rw [← hw2], by rw [hw1], ⟨by have := HN.out; omega⟩, HB⟩
    · have hb1 : decide ((i : Int) < (L.length : Int)) = false := decide_eq_false (by omega)
      have hi : i = L.length := by have := HN.out; omega
      subst hi
      have hfl : flatN L L.length = L.flatten.length := by unfold flatN; rw [List.take_length]
      have hdec := Aside0.mk (show decide ((20000 : Int) < (flatN L L.length : Int)) = decide (20000 < L.flatten.length) from decide_eq_decide.2 (by omega))
      clear hfl
      go_wp2
      go_ret
      exact ⟨congrArg (fun z => Ending.returned (Value.bool z)) hdec.out, HB.out⟩
set_option maxHeartbeats 4000000 in
set_option maxRecDepth 100000 in
theorem whole_calls (A0 : Option Addr) (c0 : Nat) (L : List (List Int)) (w : World) (h0 : Kd.C (Kd.slice 5 (Kd.int .u8)) w A0 L.length L) (hl : L.length + L.flatten.length ≤ 1048576) :
    Calls Tryd.prog 23 #[.slice A0 L.length c0] w fun e w' => ∃ v, e = .returned v ∧ Kd.R (Kd.int .u8) 5 w' w.heap.size (fun _ => True) v L.flatten ∧ Below w.heap.size w w' := by
  have HC0 := Aside0.mk h0
  have HL := Aside0.mk hl
  clear h0 hl
  go_enter Tryd.func23, Tryd.ntmps23
  go_wp2
  go_loopg [3, 4] (L.length + 1) (fun g v3 v4 wx => ∃ i : Nat, Aside0 (Kd.R (Kd.int .u8) 5 wx w.heap.size (fun _ => True) v3 (L.take i).flatten) ∧ v4 = .int .i64 (i : Int) ∧ Aside0 (i ≤ L.length ∧ L.length < i + g) ∧ Aside0 (Below w.heap.size w wx))
  case atStart => exact ⟨0, ⟨Kd.R_nil _ _ _ _ _⟩, rfl, ⟨by omega⟩, ⟨Below.refl _ _⟩⟩
  case round =>
    obtain ⟨i, HR, rfl, HN, HB⟩ := hrel
    by_cases hlt : i < L.length
    · have hb1 : decide ((i : Int) < (L.length : Int)) = true := decide_eq_true (by omega)
      obtain ⟨gk, rfl⟩ : ∃ g', gk = g' + 1 := ⟨gk - 1, by have := HN.out; omega⟩
      have hw1 : wrap64 ((i : Int) + 1) = ((i + 1 : Nat) : Int) := by have := HL.out; rw [wr64 (by omega) (by omega)]; push_cast; rfl
      have hpl := piece_le L i hlt
      have hfs := flat_step L i hlt
      have p0 : 0 ≤ (i : Int) := by omega
      have q0 : (i : Int) < (L.length : Int) := by omega
      obtain ⟨ad0, B0, d0, rfl, hx0, hl0, hi0⟩ := at_L1 HC0.out (i : Int) p0 q0
      have hx1 : wr.cell? (ad0.add i) = some (.slice B0 (rd_L1 L (i : Int)).length d0) := (HB.out.cell (cell_lt hx0)).trans hx0
      obtain ⟨m, hm⟩ : ∃ m, rd_L1 L (i : Int) = m := ⟨_, rfl⟩
      rw [hm] at hx1 hi0 hpl hfs
      have HI := Aside0.mk (Kd.C_below hi0 HB.out)
      have HPL := Aside0.mk hpl
      have HFS := Aside0.mk hfs
      replace p0 := eq_true p0
      replace q0 := eq_true q0
      clear hx0 hi0 hl0 hm hpl hfs
      go_wp2_with (at_builtin; refine Kd.R_append_rows (Kd.int .u8) (w0 := w) w.heap.size rfl (.tmp 11) (.tmp 15) 22 5 (.int .u8 0) 1 rfl Tryd.underlying22 info5 rfl (by decide) (by omega) _ (L.take i).flatten m _ _ _ (fun _ => True) (fun _ => False) rfl rfl ?aO ?aC (fun _ _ h => h) (fun _ h => h.elim) (fun _ _ => trivial) ?aB ?aS ?aL ?_)
      case aO => exact HR.out
      case aC => exact HI.out
      case aB => exact HB.out
      case aS => exact HB.out.size
      case aL => have := HPL.out; have := HL.out; omega
      intro v2 w2 hr2 hB2 _ _
      have HR2 := Aside0.mk (show Kd.R (Kd.int .u8) 5 w2 w.heap.size (fun _ => True) v2 (L.take (i + 1)).flatten by rw [HFS.out]; exact hr2)
      have HB2 := Aside0.mk hB2
      clear hr2 hB2
      go_wp2
      go_roundg gk
      case measure => have := HN.out; omega
      case rel => exact ⟨i + 1, HR2, by rw [hw1], ⟨by have := HN.out; omega⟩, HB2⟩
    · have hb1 : decide ((i : Int) < (L.length : Int)) = false := decide_eq_false (by omega)
      have hi : i = L.length := by have := HN.out; omega
      subst hi
      rw [List.take_length] at HR
      go_wp2
      go_ret
      exact ⟨_, rfl, HR.out, HB.out⟩
end Go.Proofs.YtgdiilpocoimgaaDoor.Hand
