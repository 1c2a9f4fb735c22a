/- Messages behind a call of Feed: what stays of them and of the reader. -/
import Derived.Test.YtgdiilpocoimgaaDoorFWake
set_option linter.unusedVariables false
set_option linter.unusedSimpArgs false
namespace Go.Proofs.YtgdiilpocoimgaaDoor.Hand
open Go.RowKit Go.Proofs.YtgdiilpocoimgaaDoor.Frm Go.Proofs.YtgdiilpocoimgaaDoorW.PrintWords Go.Proofs.YtgdiilpocoimgaaDoorW.PrintLast Go.Proofs.YtgdiilpocoimgaaDoorW.PrintMore
theorem wr64 {x : Int} (h0 : -9223372036854775808 ≤ x) (h1 : x ≤ 9223372036854775807) : wrap64 x = x := by
  unfold wrap64; omega
theorem ms_rows {W : World} {B : Nat} {ok : Nat → Prop} {v : Value} {ys : List (List Int)} (h : Kd.R (Kd.slice 5 (Kd.int .u8)) 22 W B ok v ys) :
    ∃ A c, v = .slice A ys.length c ∧ ReadsRow ((Kd.slice 5 (Kd.int .u8)).M W B (fun k => B ≤ k)) 1 W A ys.length ys := by
  obtain ⟨A, c, he, hl, hr⟩ := OwnRow.reads (Kd.R_bound h).2
  exact ⟨A, c, he, hr.imp_ (Below.refl _ _) (fun _ _ hp => (Kd.slice 5 (Kd.int .u8)).M_mono (fun k hk => hk.1.2.1) hp)⟩
theorem rows_none {α : Type} (R : α → List Value → Prop) (size : Nat) (W : World) : ReadsRow R size W none 0 [] := by
  obtain ⟨A, c, he, hl, hr⟩ := OwnRow.reads (OwnRow.none_ R 22 size W 0)
  injection he with h1 h2 h3
  subst h1
  exact hr
theorem R_apart {α : Type} {d : Kd α} {e : Nat} {W W' : World} {base b : Nat} {ok : Nat → Prop} {u v : Value} {xs : List α} (h : d.R e W base ok v xs) (hap : Apart2 W b u W') (hok : ∀ k, base ≤ k → ok k → k ≠ b ∧ some k ≠ u.ownBlock) : d.R e W' base ok v xs :=
  Kd.R_mono (Kd.R_step (Kd.R_bound h) (fun k hk hlt => hap k hlt (hok k hk.2.1 hk.1).1 (hok k hk.2.1 hk.1).2)) (fun k hk => hk.1)
theorem RD.grown {base b : Nat} {most : Int} {v : Value} {held : List Int} {dead : Bool} {W W1 : World} {row : Option Nat} (h : RD base b most v held dead W) (hg : W.grownBy W1 row) (hb : some b ≠ row) (hv : ∀ k, v.ownBlock = some k → some k ≠ row) : RD base b most v held dead W1 :=
  ⟨(hg.block b h.lt hb).trans h.cell, Kd.R_mono (Kd.R_grown (R_scalar (ok' := fun k => k ≠ b ∧ some k ≠ row) h.row (fun k hk => ⟨h.row.1 k hk, hv k hk⟩)) hg (fun k hk => hk.2)) (fun k hk => hk.1)⟩
theorem conv_C (X : List Int) (W : World) (hb : Bytes X) (hl : X.length ≤ 9223372036854775807) : Kd.C (Kd.int .u8) (Lib.bytesWorld W 5 (strOfNums X)) (some ⟨W.heap.size, 0, none⟩) X.length X := by
  obtain ⟨cur, h1, h2, h3⟩ := marked_row X W hb
  exact C_of_cells _ _ _ _ _ X h1 h3 hl
end Go.Proofs.YtgdiilpocoimgaaDoor.Hand
