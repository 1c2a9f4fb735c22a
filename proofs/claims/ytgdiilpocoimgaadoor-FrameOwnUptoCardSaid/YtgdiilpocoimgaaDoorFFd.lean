/- A reader that is fed in a loop, and the messages that are gathered. -/
import Derived.Test.YtgdiilpocoimgaaDoorFSt
set_option linter.unusedVariables false
set_option linter.unusedSimpArgs false
namespace Go.Proofs.YtgdiilpocoimgaaDoor.Hand
open Go.RowKit Go.Proofs.YtgdiilpocoimgaaDoor.Frm Go.Proofs.YtgdiilpocoimgaaDoorW.PrintWords Go.Proofs.YtgdiilpocoimgaaDoorW.PrintLast Go.Proofs.YtgdiilpocoimgaaDoorW.PrintMore
abbrev KM : Kd (List Int) := Kd.slice 5 (Kd.int .u8)
/-- The reader b, fed since the world W1; X: the messages gathered since. -/
structure FD (w0 W1 : World) (b : Nat) (most : Int) (S : St) (v : Value) (held : List Int) (vx : Value) (X : List (List Int)) (W : World) : Prop where
  rd : RD w0.heap.size b most v held S.dead W
  rs : RS most S held
  own : ∀ g, v.ownBlock = some g → W1.heap.size ≤ g
  out : Kd.R KM 22 W W1.heap.size (fun k => some k ≠ v.ownBlock) vx X
  bel : Below w0.heap.size w0 W
  only : ∀ k, k < W1.heap.size → k ≠ b → W.heap[k]? = W1.heap[k]?
  size : W1.heap.size ≤ W.heap.size
section
variable {w0 W1 W W' : World} {b : Nat} {most : Int} {S S' : St} {v v' vx vx' : Value} {held held' : List Int} {X X' : List (List Int)}
theorem FD.start (h : W1.heap[b]? = some (.cells #[.int .i64 most, .slice none 0 0, .bool false] 53 (0, 0))) (h0 : 0 ≤ most) (hB : Below w0.heap.size w0 W1) : FD w0 W1 b most (st0 most) (.slice none 0 0) [] (.slice none 0 0) [] W1 :=
  ⟨⟨h, Kd.R_nil _ _ _ _ _⟩, RS.start h0, (fun g hg => by simp [Value.ownBlock] at hg), Kd.R_nil _ _ _ _ _, hB, fun k _ _ => rfl, Nat.le_refl _⟩
theorem FD.below (h : FD w0 W1 b most S v held vx X W) (hB : Below W.heap.size W W') : FD w0 W1 b most S v held vx X W' :=
  ⟨h.rd.below hB, h.rs, h.own, Kd.R_below h.out hB, below_step h.bel hB, fun k hk hkb => (hB.block k (by have := h.size; omega)).trans (h.only k hk hkb), Nat.le_trans h.size hB.size⟩
/-- Behind a call of Feed. -/
theorem FD.feed (h : FD w0 W1 b most S v held vx X W) (hb : b < W1.heap.size) (hrs : RS most S' held') (hrd : RD w0.heap.size b most v' held' S'.dead W') (hB : Below w0.heap.size w0 W') (how : OwnIs W v v') (hap : Apart2 W b v W') (hsz : W.heap.size ≤ W'.heap.size) :
    FD w0 W1 b most S' v' held' vx X W' := by
  refine ⟨hrd, hrs, fun g hg => ?_, ?_, hB, fun k hk hkb => ?_, Nat.le_trans h.size hsz⟩
  · rcases how with e | e | ⟨g', e, hge⟩
    · exact h.own g (e.symm.trans hg)
    · rw [e] at hg; cases hg
    · rw [e] at hg; injection hg with hg; have := h.size; omega
  · have h1 := Kd.R_bound h.out
    have h2 := R_apart h1 hap (fun k hk hok => ⟨by omega, hok.1⟩)
    refine Kd.R_mono h2 (fun k hk e => ?_)
    rcases how with e' | e' | ⟨g', e', hge⟩
    · exact hk.1 (e.trans e')
    · rw [e'] at e; cases e
    · rw [e'] at e; injection e with e; have := hk.2.2.1; omega
  · refine (hap k (by have := h.size; omega) hkb (fun e => ?_)).trans (h.only k hk hkb)
    have := h.own k e.symm; omega
/-- Behind an append to what is gathered. -/
theorem FD.push (h : FD w0 W1 b most S v held vx X W) (hb : b < W1.heap.size) (hw : w0.heap.size ≤ W1.heap.size) (hr : Kd.R KM 22 W' W1.heap.size (fun k => some k ≠ v.ownBlock) vx' X') (hg : W.grownBy W' vx.ownBlock) : FD w0 W1 b most S v held vx' X' W' := by
  have hbase := Kd.R_base h.out
  have hne : ∀ k, k < W1.heap.size → some k ≠ vx.ownBlock := fun k hk e => by have := hbase k e.symm; omega
  refine ⟨h.rd.grown hg (hne b hb) (fun k hk e => h.out.1 k e.symm hk.symm), h.rs, h.own, hr,
    h.bel.trans ⟨hg.os, hg.tape, hg.output, hg.size, fun k hk => hg.block k (by have := h.size; omega) (hne k (by omega))⟩,
    fun k hk hkb => (hg.block k (by have := h.size; omega) (hne k hk)).trans (h.only k hk hkb), Nat.le_trans h.size hg.size⟩
/-- What else stood in W1 stands. -/
theorem FD.keepR {α : Type} {d : Kd α} {e : Nat} {base : Nat} {ok : Nat → Prop} {u : Value} {xs : List α} (h : FD w0 W1 b most S v held vx X W) (hr : d.R e W1 base ok u xs) (hb : b < base ∨ ∀ k, ok k → k ≠ b) : d.R e W base ok u xs :=
  Kd.R_mono (Kd.R_step (Kd.R_bound hr) (fun k hk hlt => h.only k hlt (by rcases hb with hb | hb; have := hk.2.1; omega; exact hb k hk.1))) (fun k hk => hk.1)
theorem FD.keepRD {base b2 : Nat} {most2 : Int} {v2 : Value} {held2 : List Int} {dead2 : Bool} (h : FD w0 W1 b most S v held vx X W) (hr : RD base b2 most2 v2 held2 dead2 W1) (hbb : b2 ≠ b) (hv : ∀ k, v2.ownBlock = some k → k ≠ b) : RD base b2 most2 v2 held2 dead2 W :=
  ⟨(h.only b2 hr.lt hbb).trans hr.cell, Kd.R_mono (h.keepR (R_scalar (ok' := fun k => k ≠ b2 ∧ k ≠ b) hr.row (fun k hk => ⟨hr.row.1 k hk, hv k hk⟩)) (.inr fun k hk => hk.2)) (fun k hk => hk.1)⟩
end
theorem rfeeds_count : ∀ (ps : List (List Int)) (S : St), (rfeeds S ps).2.length ≤ ps.flatten.length
  | [], S => Nat.le_refl _
  | p :: ps, S => by
    have h1 := rfeeds_count ps (rfeed S p).1
    have h2 := rfeed_count S p
    rw [rfeeds, List.flatten_cons]
    simp only [List.length_append]; omega
/-- What a call of Feed answers: of a dead reader; without a fault; with one. -/
theorem rfeed_cases (S : St) (p : List Int) : (S.dead = true ∧ (rfeed S p).2.2 = 251 ∧ (rfeed S p).2.1 = [] ∧ (rfeed S p).1.dead = true) ∨ (S.dead = false ∧ (rfeed S p).2.2 = 0 ∧ (rfeed S p).1.dead = false) ∨ (S.dead = false ∧ (rfeed S p).2.2 = 250 ∧ (rfeed S p).1.dead = true) := by
  unfold rfeed
  cases hd : S.dead with
  | true => rw [if_pos rfl]; exact .inl ⟨rfl, rfl, rfl, hd⟩
  | false =>
    rw [if_neg (by simp)]
    right
    cases hf : (runS S p).2.2 with
    | false => exact .inl ⟨rfl, rfl, runS_dead p S hd hf⟩
    | true => exact .inr ⟨rfl, rfl, by show (runS S p).1.dead = true; rw [runS_fault_dead p S hf]; rfl⟩
theorem runS_end (n : Int) (F : List Int) : (runS (st0 n) F).1.dead = (runS (st0 n) F).2.2 := by
  cases hf : (runS (st0 n) F).2.2 with
  | false => exact runS_dead F _ rfl hf
  | true => rw [runS_fault_dead F _ hf]; rfl
theorem rfeed_st0 (n : Int) (F : List Int) : rfeed (st0 n) F = ((runS (st0 n) F).1, (runS (st0 n) F).2.1, if (runS (st0 n) F).2.2 = true then 250 else 0) := by
  unfold rfeed; rw [if_neg (by simp [st0])]
def ones (F : List Int) : List (List Int) := F.map fun c => [c]
theorem ones_flat : ∀ F : List Int, (ones F).flatten = F
  | [] => rfl
  | c :: t => by unfold ones; rw [List.map_cons, List.flatten_cons]; have := ones_flat t; unfold ones at this; rw [this]; rfl
theorem ones_len (F : List Int) : (ones F).length = F.length := List.length_map _
theorem ones_take (F : List Int) (j : Nat) (h : j < F.length) : (ones F).take (j + 1) = (ones F).take j ++ [[rd F (j : Int)]] := by
  rw [List.take_succ_eq_append_getElem (by rw [ones_len]; exact h), rd_at F j h]
  simp [ones]
theorem ms_rows2 {W : World} {B : Nat} {ok : Nat → Prop} {v : Value} {ys : List (List Int)} (h : Kd.R KM 22 W B ok v ys) :
    ∃ A c, v = .slice A ys.length c ∧ ReadsRow (KM.M W B (fun k => B ≤ k ∧ ok k)) 1 W A ys.length ys := by
  obtain ⟨A, c, he, hl, hr⟩ := OwnRow.reads (Kd.R_bound h).2
  exact ⟨A, c, he, hr.imp_ (Below.refl _ _) (fun _ _ hp => KM.M_mono (fun k hk => ⟨hk.1.2.1, hk.1.1⟩) hp)⟩
end Go.Proofs.YtgdiilpocoimgaaDoor.Hand
