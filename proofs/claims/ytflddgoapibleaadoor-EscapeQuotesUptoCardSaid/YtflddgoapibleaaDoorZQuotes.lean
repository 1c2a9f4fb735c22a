/- Of bytes b of bulk at most 2^20: Quote(b), Plain(b) and Hex(b) are the document's. -/
import Derived.Test.YtflddgoapibleaaDoorPlain5
import Derived.Test.YtflddgoapibleaaDoorWalk2
import Derived.Test.YtflddgoapibleaaDoorCards
import Derived.Test.YtflddgoapibleaaDoorTie
import Derived.Test.YtflddgoapibleaaDoorPlain1
set_option linter.unusedVariables false
set_option linter.unusedSimpArgs false
namespace Go.Proofs.YtflddgoapibleaaDoor.Hand
open Go.RowKit Go.Maps Go.Proofs.YtflddgoapibleaaDoor.Esc Go.Proofs.YtflddgoapibleaaDoorW.PrintWords Go.Proofs.YtflddgoapibleaaDoorW.PrintLast Go.Proofs.YtflddgoapibleaaDoorW.PrintMore
theorem escapeQuotes_calls (A0 : Option Addr) (c0 : Nat) (l0 : List Int) (w : World) (hG : Globs w) (hr0 : Kd.C (Kd.int .u8) w A0 l0.length l0) (hc0 : l0.length ≤ c0) (hb : Bytes l0) (hl : l0.length ≤ 1048576) :
    Calls Tryd.prog 9 #[.slice A0 l0.length c0] w fun e w' => e = .returned (.bool true) ∧ Below w.heap.size w w' := by
  have HR0 := Aside0.mk hr0
  have HC0 := Aside0.mk hc0
  have HG := Aside0.mk hG
  have HB := Aside0.mk (Below.refl w.heap.size w)
  have FO := Aside0.mk (own_f l0 (by omega))
  have FQ := Aside0.mk (show escape_Quote.f l0 = some (strOfNums (quo l0)) from if_pos ⟨hb, by omega⟩)
  have FP := Aside0.mk (show escape_Plain.f l0 = some (strOfNums (plain l0)) from if_pos ⟨hb, by omega⟩)
  have FH := Aside0.mk (hex_f 60000000 l0 hb (by omega) (by omega))
  have RQ := Aside0.mk (rquote_f l0 hb (by omega) 60000000 (by omega))
  have RP := Aside0.mk (rplain_f l0 hb (by omega) 60000000 (by omega))
  have RH := Aside0.mk (rhex_f l0 hb (by omega) 60000000 (by omega))
  clear hr0 hc0 hG hb hl
  obtain ⟨Q, hQ⟩ : ∃ Q, strOfNums (quo l0) = Q := ⟨_, rfl⟩
  obtain ⟨P, hP⟩ : ∃ P, strOfNums (plain l0) = P := ⟨_, rfl⟩
  obtain ⟨X, hX⟩ : ∃ X, strOfNums (hexL l0) = X := ⟨_, rfl⟩
  rw [hQ] at FQ RQ
  rw [hP] at FP RP
  rw [hX] at FH RH
  clear hQ hP hX
  go_enter Tryd.func9, Tryd.ntmps9
  go_wp2_with (first | (go_at_call 11; refine (galleylaw23_awake.calls 0 true _ HG.out rfl).mono ?_; rintro e w1 ⟨rfl, hb⟩; have HN := Aside0.mk (below_step HB.out hb); clear hb HB; have HB := HN; clear HN) | (go_at_call 12; refine (galleylaw23_own.calls A0 c0 l0 l0 _ (Kd.C_below HR0.out HB.out) HC0.out FO.out).mono ?_; rintro e w2 ⟨v, rfl, ho, hb⟩; obtain ⟨Ao, co, eo⟩ := Kd.R_slice ho; subst eo; have HO := Aside0.mk ho; have HN := Aside0.mk (below_step HB.out hb); clear hb ho HB; have HB := HN; clear HN) | (go_at_call 13; refine (escape_Quote.calls _ _ l0 Q _ (Globs.below HG.out HB.out) (Kd.R_reads' HO.out).2.2 (Kd.R_reads' HO.out).2.1 FQ.out).mono ?_; rintro e w3 ⟨rfl, hb⟩; have HN := Aside0.mk (below_step HB.out hb); clear hb HB HO; have HB := HN; clear HN) | (go_at_call 20; refine (escape_Plain.calls _ _ l0 P _ (Kd.R_reads' HO.out).2.2 (Kd.R_reads' HO.out).2.1 FP.out).mono ?_; rintro e w4 ⟨rfl, hb⟩; have HN := Aside0.mk (below_step HB.out hb); clear hb HB HO; have HB := HN; clear HN) | (go_at_call 16; refine (escape_Hex.calls _ _ _ l0 X _ (Kd.R_reads' HO.out).2.2 (Kd.R_reads' HO.out).2.1 FH.out).mono ?_; rintro e w5 ⟨rfl, hb⟩; have HN := Aside0.mk (below_step HB.out hb); clear hb HB HO; have HB := HN; clear HN) | (go_at_call 22; refine (galleyref23_Quote.calls _ A0 c0 l0 Q _ (Kd.C_below HR0.out HB.out) HC0.out RQ.out).mono ?_; rintro e w6 ⟨rfl, hb⟩; have HN := Aside0.mk (below_step HB.out hb); clear hb HB; have HB := HN; clear HN) | (go_at_call 23; refine (galleyref23_Plain.calls _ A0 c0 l0 P _ (Kd.C_below HR0.out HB.out) HC0.out RP.out).mono ?_; rintro e w7 ⟨rfl, hb⟩; have HN := Aside0.mk (below_step HB.out hb); clear hb HB; have HB := HN; clear HN) | (go_at_call 24; refine (galleyref23_Hex.calls _ A0 c0 l0 X _ (Kd.C_below HR0.out HB.out) HC0.out RH.out).mono ?_; rintro e w8 ⟨rfl, hb⟩; have HN := Aside0.mk (below_step HB.out hb); clear hb HB; have HB := HN; clear HN))
  go_ret
  exact ⟨by first | rfl | simp, HB.out⟩
end Go.Proofs.YtflddgoapibleaaDoor.Hand

namespace Go.Proofs.YtflddgoapibleaaDoor.escapeQuotes
open Go.ChangeShapes Go.WideShapes Go.ChangeAt Go.RowKit Go.Proofs.YtflddgoapibleaaDoor.Hand Go.Proofs.YtflddgoapibleaaDoor.Esc Go.Proofs.YtflddgoapibleaaDoorW.PrintWords
open Go.ChangeMaps (open_string shut_string)
set_option linter.unusedVariables false
theorem reads (os : Os) {H : Type} (enc : TypeId × Value → H) : ∃ places, DataW.whole enc Tryd.prog ((World.doorLaid Tryd.prog 4000 os).forCall (fun _ _ => 0) ⟨#[], #[.slice none 0 0], []⟩).memory Tryd.f9.params.toList Rows.escapeQuotesSpec.vars false (#[.slice none 0 0] : Array Value).toList 8 = some ([.nil], [], places) :=
  ⟨[], by kernel_rfl⟩
theorem door_met (os : Os) : laidMetH Tryd.prog laidList ((World.doorLaid Tryd.prog 4000 os).forCall (fun _ _ => 0) ⟨#[], #[.slice none 0 0], []⟩).memory :=
  laidMetH_of_parts3 (fuel := 8) (laidMet_of_run' 8 (by kernel_rfl) (by kernel_rfl)) (by kernel_rfl) (by kernel_rfl)
theorem contract (H : Type) (enc : TypeId × Value → H) (W : World) (base : Nat) (args : Array Value) (ds gs : List (DataW H)) (before : List MemPlace)
    (hval0 : ∀ (j : Nat) t v, Tryd.f9.params[j]? = some t → args[j]? = some v → Value.okWide Tryd.prog W .any base t v)
    (hW : DataW.Whole enc Tryd.prog Tryd.f9.params.toList Rows.escapeQuotesSpec.vars false W args.toList ds gs before) (hL : laidMetH Tryd.prog laidList W) (hk : Rows.uptoSmall H (ds ++ gs) = true) :
    Calls Tryd.prog 9 args W fun e W' => ∃ v, e = .returned v ∧ Rows.escapeQuotesSpec.post enc Tryd.prog Tryd.f9 false true false false W args v W' := by
  have hG := globs_of_laid hL
  have hval := hval0
  have hW' := hW
  obtain ⟨p, q, hA0, hV, rfl, hfz, hnd⟩ := hW
  have hA : DataW.TrodAll enc Tryd.prog W 0 (fun _ => true) true Tryd.f9.params.toList args.toList ds p := hA0
  rw [Tryd.params9] at hA hval
  obtain ⟨v0, vs0, d0, ds0, p0, q0, hargs, rfl, rfl, h0, r0⟩ := trodAll_cons hA
  obtain ⟨rfl, rfl, rfl⟩ := trodAll_nil r0
  obtain rfl : args = #[v0] := by cases args; simp_all
  obtain ⟨rfl, rfl⟩ := trodVars_none hV
  have hB := bulk_le hk
  simp only [List.append_nil, Rows.uptoBulkAll] at hB
  have k0 := h0
  have lt0 : ∀ x ∈ p0, x.block < W.heap.size := by obtain ⟨m, hm⟩ := k0; exact DataW.trod_lt m _ _ _ hm
  obtain ⟨A0, c0, l0, rfl, hr0, hc0, hb0, hl0⟩ := bytes_open (hval 0 22 v0 rfl rfl) h0
  clear hA0 hval0
  refine (escapeQuotes_calls _ _ l0 W hG (Kd.C_of_reads (d := (0 : Int)) (h1 := fun _ => rfl) hr0) hc0 hb0 (by omega)).mono fun e W' ⟨he, bel⟩ => ?_
  subst he
  exact ⟨_, rfl, _, _, _, [], _, [], hW', trodAll_mk1 (shut_bool Tryd.underlying4 _), (trodAll_cons_mk (Below.trod laidOut (by kernel_rfl) (of_decide_eq_true (by kernel_rfl)) k0 bel lt0) trodAll_mk0), rfl, bel.frame _, fun h => by cases h⟩
set_option maxRecDepth 100000 in
theorem liftedUpto (os : Os) (started : os.Started) (H : Type) (enc : TypeId × Value → H) (F : Stop.Interp) :
    ReturnsInHanded {} Tryd.checked os 9 .any ((Rows.OpenSpec.upto Rows.escapeQuotesSpec).preRow enc Tryd.prog Tryd.f9 Rows.escapeQuotesUptoRow.domain false Rows.escapeQuotesUptoRow.laid) (((Rows.OpenSpec.upto Rows.escapeQuotesSpec).at F).post enc Tryd.prog Tryd.f9 false true false false) := by
  obtain ⟨places, hx⟩ := reads os enc
  refine returnsInHanded_of_row (C := Tryd.checked) (s := Rows.OpenSpec.upto Rows.escapeQuotesSpec) own started (by kernel_rfl) Tryd.func9
    (witness_row_atRef (enc := enc) (C := Tryd.checked) false (World.doorLaid Tryd.prog 4000 os) #[.slice none 0 0] rfl (by kernel_rfl) (by kernel_rfl) (by kernel_rfl)
      (OpenSpec.preRow_of_cond 8 hx (by kernel_rfl) (fun k hk => by cases hk; kernel_rfl) (by kernel_rfl) (door_met os))) ?_
  intro W base args ds gs before hval hW _ hcond _ hL _ _
  exact contract H enc W base args ds gs before hval hW hL (hcond _ rfl)
theorem saidUpto : Rows.EscapeQuotesUptoSaid :=
  OpenClaim.holds_of_cond 9 Tryd.f9 rfl rfl rfl rfl rfl rfl rfl ⟨rfl, rfl, rfl, rfl, rfl⟩ rfl rfl rfl rfl rfl (by kernel_rfl) Tryd.func9 (by kernel_rfl)
    (of_decide_eq_true (by kernel_rfl)) (by unfold Func.isWrapper; first | (rw [if_pos (by decide +kernel)]; kernel_rfl) | (rw [if_neg (by decide +kernel)]; exact ⟨rfl, rfl⟩))
    (fun os started H enc _ F => by rw [OpenClaim.pre_eq_preRow]; exact liftedUpto os started H enc F)
theorem plain (f : FuncId) (fn : Func) (hf : Tryd.pinned.checked.prog.funcNamed "galley/galleylaw23.EscapeQuotes" = some f) (hfn : Tryd.pinned.checked.prog.funcs[f]? = some fn) :
    false = Tryd.pinned.checked.prog.looks [] ∧ ∀ (j : Nat) t, fn.params[j]? = some t → Tryd.pinned.checked.prog.wantsStandIn t = false := by
  obtain rfl : f = 9 := Option.some.inj ((show Tryd.prog.funcNamed "galley/galleylaw23.EscapeQuotes" = some 9 by kernel_rfl).symm.trans hf) |>.symm
  obtain rfl : fn = Tryd.f9 := (Option.some.inj (Tryd.func9.symm.trans hfn)).symm
  refine ⟨by kernel_rfl, fun j t ht => ?_⟩
  rw [Tryd.params9] at ht
  have hm : t ∈ (#[22] : Array TypeId) := Array.mem_of_getElem? ht
  have ho : t = 22 := by simpa using hm
  subst ho
  exact (show Tryd.prog.wantsStandIn 22 = false by kernel_rfl)
/-- The card of the second form. -/
theorem cardUpto : Rows.EscapeQuotesUptoCardSaid :=
  Claim7.holds_tied_plain_at .later [] _ _ _ _ saidUpto (fun _ h => by cases h) (by kernel_rfl) (fun _ h => by cases h) escapeQuotesUpto_row_tie rfl ⟨rfl, rfl⟩ (by kernel_rfl) rfl plain (by kernel_rfl)
end Go.Proofs.YtflddgoapibleaaDoor.escapeQuotes
