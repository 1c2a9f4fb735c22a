/- frame.header: what it computes; its closure 'next'. -/
import Derived.Test.YtgdiilpocoimgaaDoorFLen
import Derived.Test.YtgdiilpocoimgaaDoorFrmx1
namespace Go.Proofs.YtgdiilpocoimgaaDoor.Hand
open Go.RowKit Go.Proofs.YtgdiilpocoimgaaDoor.Frm Go.Proofs.YtgdiilpocoimgaaDoorW.PrintWords Go.Proofs.YtgdiilpocoimgaaDoorW.PrintLast Go.Proofs.YtgdiilpocoimgaaDoorW.PrintMore
attribute [local go_sem] max2_int min2_int max_two min_two max_three min_three max_four min_four

def nmI (c : Int) : Bool := decide ((65 ≤ c ∧ c ≤ 90) ∨ (97 ≤ c ∧ c ≤ 122) ∨ (48 ≤ c ∧ c ≤ 57) ∨ c = 45)
def vlI (c : Int) : Bool := decide ((32 ≤ c ∧ c ≤ 126) ∨ c = 9)
def clen : List Int := [99, 111, 110, 116, 101, 110, 116, 45, 108, 101, 110, 103, 116, 104]
def outL (L : List Int) : Int × Int × Int := if 4096 < L.length then (0, 0, 2) else (0, 0, 0)
def nextB (L : List Int) (p : Nat) : Option Int := if p < L.length ∧ p < 4096 then some (L.getD p 0) else none
def endL (L : List Int) (p : Nat) (n : Int) : Int × Int × Int :=
  match nextB L p with
  | none => outL L
  | some c => if c ≠ 10 ∨ n < 0 then (0, 0, 2) else ((p : Int) + 1, n, 1)
def hdN : Nat → Nat → List Int → Int → Nat → Nat → Nat → Int → Int × Int × Int
  | 0, _, _, _, _, _, _, _ => (0, 0, 2)
  | k + 1, 0, L, most, p, _, value, n =>
    match nextB L p with
    | none => outL L
    | some c => if c = 13 then endL L (p + 1) n else if nmI c = false then (0, 0, 2) else hdN k 1 L most (p + 1) p value n
  | k + 1, 1, L, most, p, name, value, n =>
    match nextB L p with
    | none => outL L
    | some c => if nmI c = true then hdN k 1 L most (p + 1) name value n else if c ≠ 58 then (0, 0, 2) else hdN k 2 L most (p + 1) name (p + 1) n
  | k + 1, _ + 2, L, most, p, name, value, n =>
    match nextB L p with
    | none => outL L
    | some c => if vlI c = true then hdN k 2 L most (p + 1) name value n else if c ≠ 13 then (0, 0, 2) else
      match nextB L (p + 1) with
      | none => outL L
      | some d => if d ≠ 10 then (0, 0, 2) else
        if eqF ((L.take (value - 1)).drop name) clen = true then
          (if 0 ≤ n then (0, 0, 2) else
            if lengthL ((L.take p).drop value) < 0 ∨ most < lengthL ((L.take p).drop value) then (0, 0, 2) else hdN k 0 L most (p + 2) name value (lengthL ((L.take p).drop value)))
        else hdN k 0 L most (p + 2) name value n
def headL (L : List Int) (most : Int) : Int × Int × Int := hdN 20000 0 L most 0 0 0 (-1)
/-- The header's own variables: b in block X, p in block Y, over the world w0. -/
structure HW (w0 : World) (X Y : Nat) (A : Option Addr) (c : Nat) (L : List Int) (p : Nat) (W : World) : Prop where
  b : W.heap[X]? = some (.cells #[.slice A L.length c] 22 (0, 0))
  pp : W.heap[Y]? = some (.cells #[.int .i64 (p : Int)] 3 (0, 0))
  bel : Below w0.heap.size w0 W
  x : w0.heap.size ≤ X
  y : w0.heap.size ≤ Y
  ne : X ≠ Y
theorem HW.xlt {w0 : World} {X Y : Nat} {A : Option Addr} {c : Nat} {L : List Int} {p : Nat} {W : World} (h : HW w0 X Y A c L p W) : X < W.heap.size := (Array.getElem?_eq_some_iff.1 h.b).1
theorem HW.ylt {w0 : World} {X Y : Nat} {A : Option Addr} {c : Nat} {L : List Int} {p : Nat} {W : World} (h : HW w0 X Y A c L p W) : Y < W.heap.size := (Array.getElem?_eq_some_iff.1 h.pp).1
theorem HW.below {w0 : World} {X Y : Nat} {A : Option Addr} {c : Nat} {L : List Int} {p : Nat} {W W' : World} (h : HW w0 X Y A c L p W) (hB : Below W.heap.size W W') : HW w0 X Y A c L p W' :=
  ⟨(hB.block X h.xlt).trans h.b, (hB.block Y h.ylt).trans h.pp, below_step h.bel hB, h.x, h.y, h.ne⟩
theorem HW.set {w0 : World} {X Y : Nat} {A : Option Addr} {c : Nat} {L : List Int} {p : Nat} {W : World} (h : HW w0 X Y A c L p W) (q : Nat) : HW w0 X Y A c L q (W.setCell ⟨Y, 0, none⟩ (.int .i64 (q : Int))) :=
  ⟨(Deep.blk_setCell_other _ _ _ _ h.ne).trans h.b, by simp [World.setCell, Array.getElem?_modify, h.pp],
   h.bel.trans ⟨rfl, rfl, rfl, by rw [Deep.nblk_setCell]; exact Nat.le_refl _, fun k hk => Deep.blk_setCell_other _ _ _ k (by have := h.y; simp; omega)⟩, h.x, h.y, h.ne⟩
theorem HW.cb {w0 : World} {X Y : Nat} {A : Option Addr} {c : Nat} {L : List Int} {p : Nat} {W : World} (h : HW w0 X Y A c L p W) : W.cell? ⟨X, 0, none⟩ = some (.slice A L.length c) := by simp [World.cell?, h.b]
theorem HW.cp {w0 : World} {X Y : Nat} {A : Option Addr} {c : Nat} {L : List Int} {p : Nat} {W : World} (h : HW w0 X Y A c L p W) : W.cell? ⟨Y, 0, none⟩ = some (.int .i64 (p : Int)) := by simp [World.cell?, h.pp]
theorem HW.fp {w0 : World} {X Y : Nat} {A : Option Addr} {c : Nat} {L : List Int} {p : Nat} {W : World} (h : HW w0 X Y A c L p W) : W.frozen? ⟨Y, 0, none⟩ = false := by simp [World.frozen?, h.pp]
theorem HW.start (w : World) (A : Option Addr) (c : Nat) (L : List Int) : HW w w.heap.size (w.heap.size + 1) A c L 0 ((w.alloc (.cells #[.slice A L.length c] 22)).alloc (.cells #[.int .i64 0] 3)) := by
  have h1 := Deep.blk_alloc_new w (.cells #[.slice A L.length c] 22)
  have hs := Deep.nblk_alloc w (.cells #[.slice A L.length c] 22)
  have hb := below_alloc (Below.refl (w.alloc (.cells #[.slice A L.length c] 22)).heap.size (w.alloc (.cells #[.slice A L.length c] 22))) (.cells #[.int .i64 0] 3)
  have h2 := Deep.blk_alloc_new (w.alloc (.cells #[.slice A L.length c] 22)) (.cells #[.int .i64 0] 3)
  rw [hs] at h2
  exact ⟨(hb.block _ (by omega)).trans h1, h2, below_alloc (below_alloc (Below.refl _ _) _) _, by omega, by omega, by omega⟩
set_option maxHeartbeats 4000000 in
theorem next_none (w0 : World) (X Y : Nat) (A : Option Addr) (c : Nat) (L : List Int) (p : Nat) (W : World) (h : HW w0 X Y A c L p W) (hn : nextB L p = none) :
    Calls Tryd.prog 29 #[.pointer (some ⟨Y, 0, none⟩), .pointer (some ⟨X, 0, none⟩)] W fun e W' => e = .returned (.tuple #[.int .u8 0, .bool false]) ∧ W = W' := by
  have cb := h.cb
  have cp := h.cp
  have hp : L.length ≤ p ∨ 4096 ≤ p := by
    unfold nextB at hn
    by_cases hh : p < L.length ∧ p < 4096
    · rw [if_pos hh] at hn; cases hn
    · omega
  clear h hn
  by_cases h1 : L.length ≤ p
  · have hb1 : decide ((L.length : Int) ≤ (p : Int)) = true := decide_eq_true (by omega)
    go_enter Tryd.func29, Tryd.ntmps29
    go_wp2
    go_ret2
    exact ⟨rfl, rfl⟩
  · have hb1 : decide ((L.length : Int) ≤ (p : Int)) = false := decide_eq_false (by omega)
    have hb2 : decide ((4096 : Int) ≤ (p : Int)) = true := decide_eq_true (by omega)
    go_enter Tryd.func29, Tryd.ntmps29
    go_wp2
    go_ret2
    exact ⟨rfl, rfl⟩
set_option maxHeartbeats 4000000 in
theorem next_some (w0 : World) (X Y : Nat) (A : Option Addr) (c : Nat) (L : List Int) (p : Nat) (W : World) (x : Int) (h : HW w0 X Y A c L p W) (hC : Kd.C (Kd.int .u8) w0 A L.length L) (hn : nextB L p = some x) :
    Calls Tryd.prog 29 #[.pointer (some ⟨Y, 0, none⟩), .pointer (some ⟨X, 0, none⟩)] W fun e W' => e = .returned (.tuple #[.int .u8 x, .bool true]) ∧ W' = W.setCell ⟨Y, 0, none⟩ (.int .i64 ((p + 1 : Nat) : Int)) := by
  have cb := h.cb
  have cp := h.cp
  have fp := h.fp
  have h' := h.set (p + 1)
  have cb' := h'.cb
  have cp' := h'.cp
  have hp : p < L.length ∧ p < 4096 := by
    unfold nextB at hn
    by_cases hh : p < L.length ∧ p < 4096
    · exact hh
    · rw [if_neg hh] at hn; cases hn
  have hx : rd L (p : Int) = x := by
    unfold nextB at hn
    rw [if_pos hp] at hn
    unfold rd
    rw [show ((p : Int)).toNat = p by omega]
    exact Option.some.inj hn
  have hC' := Kd.C_below hC h'.bel
  obtain ⟨ad, e0, hc⟩ := Kd.at_int hC' (p : Int) (by omega) (by omega)
  cases e0
  rw [hx] at hc
  simp only [Go.IntWalk.toNatUp] at hc
  have hb1 : decide ((L.length : Int) ≤ (p : Int)) = false := decide_eq_false (by omega)
  have hb2 : decide ((4096 : Int) ≤ (p : Int)) = false := decide_eq_false (by omega)
  have hi0 : (0 : Int) ≤ (p : Int) := by omega
  have hi1 : (p : Int) < (L.length : Int) := by omega
  have hq : (((p + 1 : Nat) : Int)) = (p : Int) + 1 := by omega
  rw [hq] at cb' cp' hc ⊢
  clear h h' hC hC' hn hx hq
  go_enter Tryd.func29, Tryd.ntmps29
  go_wp2
  go_ret2
  exact ⟨rfl, rfl⟩
end Go.Proofs.YtgdiilpocoimgaaDoor.Hand
