/- Of bytes b of bulk at most 2^20: Plain(b) is valid, is string([]rune(string(b))), has as many runes as b has steps, and is b just if b is valid. -/
import Derived.Test.YtflddgoapibleaaDoorWalk5
import Derived.Test.YtflddgoapibleaaDoorPlain3
import Derived.Test.YtflddgoapibleaaDoorWalk2
import Derived.Deep.RegionHeld3
import Derived.Test.YtflddgoapibleaaDoorCards
import Derived.Test.YtflddgoapibleaaDoorTie
import Derived.Test.YtflddgoapibleaaDoorPlain1
set_option linter.unusedVariables false
set_option linter.unusedSimpArgs false
namespace Go.Proofs.YtflddgoapibleaaDoor.Hand
open Go.RowKit Go.Maps Go.Proofs.YtflddgoapibleaaDoor.Esc Go.Proofs.YtflddgoapibleaaDoorW.PrintWords Go.Proofs.YtflddgoapibleaaDoorW.PrintLast Go.Proofs.YtflddgoapibleaaDoorW.PrintMore
theorem plain_len (l : List Int) : Bytes l → (plain l).length ≤ 4 * l.length := by
  induction l using steps_ind with
  | h0 => intro _; exact Nat.zero_le _
  | h1 l h ih =>
    intro hb
    have := ih (bytes_of_drop hb _)
    have he := enc_len_ _ (dec_rune l hb h)
    have hp := dec_pos l
    rw [plain_cons l h, List.length_append]
    rw [List.length_drop] at this
    omega
theorem plain_pos (l : List Int) (hb : Bytes l) (h : 0 < l.length) : 0 < (plain l).length := by
  have he := enc_len_ _ (dec_rune l hb h)
  rw [plain_cons l h, List.length_append]; omega
theorem plain_dec (l : List Int) (hb : Bytes l) (h : 0 < l.length) : dec (plain l) = ((dec l).1, (enc (dec l).1).length) := by
  rw [plain_cons l h]; exact dec_enc _ (dec_rune l hb h) _
theorem plain_drop (l : List Int) (hb : Bytes l) (h : 0 < l.length) : (plain l).drop (dec (plain l)).2 = plain (l.drop (dec l).2) := by
  rw [plain_dec l hb h]
  show (plain l).drop (enc (dec l).1).length = _
  rw [plain_cons l h, List.drop_left]
theorem plain_plain (l : List Int) : Bytes l → plain (plain l) = plain l := by
  induction l using steps_ind with
  | h0 => intro _; rfl
  | h1 l h ih =>
    intro hb
    rw [plain_cons (plain l) (plain_pos l hb h), plain_drop l hb h, ih (bytes_of_drop hb _), plain_dec l hb h]
    exact (plain_cons l h).symm
theorem plain_cnt (l : List Int) : Bytes l → cnt (plain l) = cnt l := by
  induction l using steps_ind with
  | h0 => intro _; rfl
  | h1 l h ih =>
    intro hb
    rw [cnt_cons (plain l) (plain_pos l hb h), plain_drop l hb h, ih (bytes_of_drop hb _), cnt_cons l h]
end Go.Proofs.YtflddgoapibleaaDoor.Hand

namespace Go.Proofs.YtflddgoapibleaaDoor.Hand
open Go.RowKit Go.Maps Go.Proofs.YtflddgoapibleaaDoor.Esc Go.Proofs.YtflddgoapibleaaDoorW.PrintWords Go.Proofs.YtflddgoapibleaaDoorW.PrintLast Go.Proofs.YtflddgoapibleaaDoorW.PrintMore
theorem conv_bytes (l : List Int) (W : World) : (convert 9 22 (.string (strOfNums l))).run Tryd.prog W = .ok (.slice (some ⟨W.heap.size, 0, none⟩) l.length (grownCap W l.length 0 5)) (Lib.bytesWorld W 5 (strOfNums l)) := by
  have := print_bytes (P := Tryd.prog) 9 22 5 Tryd.underlying9 Tryd.underlying22 Tryd.underlying5 (strOfNums l) W
  rwa [strOfNums_size] at this
theorem conv_C (l : List Int) (W : World) (hb : Bytes l) (hl : l.length ≤ 1073741824) : Kd.C (Kd.int .u8) (Lib.bytesWorld W 5 (strOfNums l)) (some ⟨W.heap.size, 0, none⟩) l.length l := by
  have := bytes_reads W 5 (strOfNums l) (by rw [strOfNums_size]; omega)
  rw [bytesOf_str l hb, strOfNums_size] at this
  exact Kd.C_of_reads (d := (0 : Int)) (h1 := fun _ => rfl) this
theorem conv_cap (l : List Int) (W : World) : l.length ≤ grownCap W l.length 0 5 := by
  exact grownCap_ge W l.length 0 5
theorem bytes_below' {w W : World} (h : Below w.heap.size w W) (s : ByteArray) : Below w.heap.size w (Lib.bytesWorld W 5 s) := bytes_below h h.size 5 s
theorem escapePlain_calls (A0 : Option Addr) (c0 : Nat) (l0 : List Int) (w : World) (hG : Globs w) (hr0 : Kd.C (Kd.int .u8) w A0 l0.length l0) (hc0 : l0.length ≤ c0) (hb : Bytes l0) (hl : l0.length ≤ 1048576) :
    Calls Tryd.prog 8 #[.slice A0 l0.length c0] w fun e w' => e = .returned (.bool true) ∧ Below w.heap.size w w' := by
  have HR0 := Aside0.mk hr0
  have HC0 := Aside0.mk hc0
  have HG := Aside0.mk hG
  have HBY := Aside0.mk hb
  have HL := Aside0.mk hl
  have HB := Aside0.mk (Below.refl w.heap.size w)
  have HPB := Aside0.mk (plain_bytes l0 hb)
  have HPL : Aside0 ((plain l0).length ≤ 4194304) := ⟨by have := plain_len l0 hb; omega⟩
  have HPP := Aside0.mk (plain_plain l0 hb)
  have kb := fun W => conv_bytes (plain l0) W
  clear hr0 hc0 hG hb hl
  go_enter Tryd.func8, Tryd.ntmps8
  go_wp2_with (first | (go_at_call 11; refine (galleylaw23_awake.calls 0 true _ HG.out rfl).mono ?_; rintro e w1 ⟨rfl, hb⟩; have HB1 := Aside0.mk (below_step HB.out hb); clear hb) | (go_at_call 12; refine (galleylaw23_own.calls _ _ l0 l0 _ (Kd.C_below HR0.out HB1.out) HC0.out (own_f l0 (by have := HL.out; omega))).mono ?_; rintro e w2 ⟨v, rfl, ho, hb⟩; obtain ⟨Ao, co, eo⟩ := Kd.R_slice ho; subst eo; have HO := Aside0.mk ho; have HB2 := Aside0.mk (below_step HB1.out hb); clear hb ho) | (go_at_call 20; refine (escape_Plain.calls _ _ l0 (strOfNums (plain l0)) _ (Kd.R_reads' HO.out).2.2 (Kd.R_reads' HO.out).2.1 (if_pos ⟨HBY.out, by have := HL.out; omega⟩)).mono ?_; rintro e w3 ⟨rfl, hb⟩; have HB3 := Aside0.mk (below_step HB2.out hb); clear hb))
  have hbl := Aside0.mk (Below.refl w3.heap.size w3)
  refine (step_Valid.calls _ _ (plain l0) true _ (conv_C (plain l0) w3 HPB.out (by have := HPL.out; omega)) (conv_cap _ w3) ?_).mono ?_
  · refine (if_pos ⟨HPB.out, by have := HPL.out; omega⟩).trans ?_
    rw [HPP.out, decide_eq_true rfl]
  rintro e w4 ⟨rfl, hb⟩
  have HB4 := Aside0.mk (below_step (bytes_below HB3.out HB3.out.size 5 (strOfNums (plain l0))) hb)
  clear hb
  have hcv := Kd.C_string (P := Tryd.prog) (A := A0) (c := c0) Tryd.underlying22 Tryd.underlying5 Tryd.underlying9 (Kd.C_below HR0.out HB4.out)
  obtain ⟨cr, cells, h2, h3⟩ := runes_there w4 l0 HBY.out (by have := HL.out; omega)
  have hrs := runes_string (w4.drew.alloc (.cells cells 21)) w4.heap.size l0 cr cells (Deep.blk_alloc_new _ _) h3 HBY.out
  have HB5 := Aside0.mk (below_alloc (below_drew1 HB4.out) (.cells cells 21))
  clear h3
  generalize hw5 : w4.drew.alloc (.cells cells 21) = w5 at h2 hrs HB5
  go_wp2_with (fail)
  clear h2 hrs hcv hw5
  have hbq : decide (plain l0 = l0) = ((strOfNums (plain l0)).toList == (strOfNums l0).toList) := by
    by_cases e : plain l0 = l0
    · rw [e]; simp
    · rw [decide_eq_false e]
      refine (beq_eq_false_iff_ne.mpr (fun he => e ?_)).symm
      exact (str_eq _ _ HPB.out HBY.out).mp (by
        have h1 : (strOfNums (plain l0)).data.toList = (strOfNums l0).data.toList := by simpa [ByteArray.toList_eq] using he
        exact ByteArray.ext (Array.toList_inj.mp h1))
  have HBQ := Aside0.mk hbq
  clear hbq
  have hcv : ∀ wx, Below w.heap.size w wx → (convert 22 9 (.slice A0 l0.length c0)).run Tryd.prog wx = .ok (.string (strOfNums l0)) wx := fun wx hB => Kd.C_string (P := Tryd.prog) (A := A0) (c := c0) Tryd.underlying22 Tryd.underlying5 Tryd.underlying9 (Kd.C_below HR0.out hB)
  have hB5 := HB5.out
  go_region_held (fun wx => (convert 22 9 (.slice A0 l0.length c0)).run Tryd.prog wx = .ok (.string (strOfNums l0)) wx ∧ Aside0 (Below w.heap.size w wx))
    (first | exact ⟨hcv _ (by assumption), ⟨by assumption⟩⟩ | exact ⟨hcv _ (below_drew1 (by assumption)), ⟨below_drew1 (by assumption)⟩⟩ | exact ⟨hcv _ (bytes_below' (by assumption) _), ⟨bytes_below' (by assumption) _⟩⟩) (first | (go_at_call 12; refine (galleylaw23_own.calls _ _ l0 l0 _ (Kd.C_below HR0.out (below_drew1 HB5.out)) HC0.out (own_f l0 (by have := HL.out; omega))).mono ?_; rintro e w6 ⟨v, rfl, ho, hb⟩; obtain ⟨Ao, co, eo⟩ := Kd.R_slice ho; subst eo; have HO6 := Aside0.mk ho; have hB6 := below_step (below_drew1 HB5.out) hb; clear hb ho) | (go_at_call 21; refine (step_Valid.calls _ _ l0 ((strOfNums (plain l0)).toList == (strOfNums l0).toList) _ (Kd.R_reads' HO6.out).2.2 (Kd.R_reads' HO6.out).2.1 ((if_pos ⟨HBY.out, by have := HL.out; omega⟩).trans (by rw [HBQ.out]))).mono ?_; rintro e w7 ⟨rfl, hb⟩; have hB7 := below_step hB6 hb; clear hb) | (go_at_call 14; refine (galleylaw23_count.calls A0 c0 l0 (cnt l0 : Int) _ (Kd.C_below HR0.out hB8) HC0.out (if_pos ⟨HBY.out, by have := HL.out; omega⟩)).mono ?_; rintro e w9 ⟨rfl, hb⟩; have hB9 := below_step hB8 hb; clear hb) | (go_at_call 14; refine (galleylaw23_count.calls _ _ (plain l0) (cnt l0 : Int) _ (conv_C (plain l0) _ HPB.out (by have := HPL.out; omega)) (conv_cap _ _) ((if_pos ⟨HPB.out, by have := HPL.out; omega⟩).trans (by rw [plain_cnt l0 HBY.out]))).mono ?_; rintro e w8 ⟨rfl, hb⟩; have hB8 := below_step (bytes_below hB7 (Below.size hB7) 5 _) hb; clear hb))
  rename_i hh
  have hB := hh.2.out
  go_wp2
  go_ret
  exact ⟨rfl, hB⟩
end Go.Proofs.YtflddgoapibleaaDoor.Hand

namespace Go.Proofs.YtflddgoapibleaaDoor.escapePlain
open Go.ChangeShapes Go.WideShapes Go.ChangeAt Go.RowKit Go.Proofs.YtflddgoapibleaaDoor.Hand Go.Proofs.YtflddgoapibleaaDoor.Esc Go.Proofs.YtflddgoapibleaaDoorW.PrintWords
open Go.ChangeMaps (open_string shut_string)
set_option linter.unusedVariables false
theorem reads (os : Os) {H : Type} (enc : TypeId × Value → H) : ∃ places, DataW.whole enc Tryd.prog ((World.doorLaid Tryd.prog 4000 os).forCall (fun _ _ => 0) ⟨#[], #[.slice none 0 0], []⟩).memory Tryd.f8.params.toList Rows.escapePlainSpec.vars false (#[.slice none 0 0] : Array Value).toList 8 = some ([.nil], [], places) :=
  ⟨[], by kernel_rfl⟩
theorem door_met (os : Os) : laidMetH Tryd.prog laidList ((World.doorLaid Tryd.prog 4000 os).forCall (fun _ _ => 0) ⟨#[], #[.slice none 0 0], []⟩).memory :=
  laidMetH_of_parts3 (fuel := 8) (laidMet_of_run' 8 (by kernel_rfl) (by kernel_rfl)) (by kernel_rfl) (by kernel_rfl)
theorem contract (H : Type) (enc : TypeId × Value → H) (W : World) (base : Nat) (args : Array Value) (ds gs : List (DataW H)) (before : List MemPlace)
    (hval0 : ∀ (j : Nat) t v, Tryd.f8.params[j]? = some t → args[j]? = some v → Value.okWide Tryd.prog W .any base t v)
    (hW : DataW.Whole enc Tryd.prog Tryd.f8.params.toList Rows.escapePlainSpec.vars false W args.toList ds gs before) (hL : laidMetH Tryd.prog laidList W) (hk : Rows.uptoSmall H (ds ++ gs) = true) :
    Calls Tryd.prog 8 args W fun e W' => ∃ v, e = .returned v ∧ Rows.escapePlainSpec.post enc Tryd.prog Tryd.f8 false true false false W args v W' := by
  have hG := globs_of_laid hL
  have hval := hval0
  have hW' := hW
  obtain ⟨p, q, hA0, hV, rfl, hfz, hnd⟩ := hW
  have hA : DataW.TrodAll enc Tryd.prog W 0 (fun _ => true) true Tryd.f8.params.toList args.toList ds p := hA0
  rw [Tryd.params8] at hA hval
  obtain ⟨v0, vs0, d0, ds0, p0, q0, hargs, rfl, rfl, h0, r0⟩ := trodAll_cons hA
  obtain ⟨rfl, rfl, rfl⟩ := trodAll_nil r0
  obtain rfl : args = #[v0] := by cases args; simp_all
  obtain ⟨rfl, rfl⟩ := trodVars_none hV
  have hB := bulk_le hk
  simp only [List.append_nil, Rows.uptoBulkAll] at hB
  have k0 := h0
  have lt0 : ∀ x ∈ p0, x.block < W.heap.size := by obtain ⟨m, hm⟩ := k0; exact DataW.trod_lt m _ _ _ hm
  obtain ⟨A0, c0, l0, rfl, hr0, hc0, hb0, hl0⟩ := bytes_open (hval 0 22 v0 rfl rfl) h0
  clear hA0 hval0
  refine (escapePlain_calls _ _ l0 W hG (Kd.C_of_reads (d := (0 : Int)) (h1 := fun _ => rfl) hr0) hc0 hb0 (by omega)).mono fun e W' ⟨he, bel⟩ => ?_
  subst he
  exact ⟨_, rfl, _, _, _, [], _, [], hW', trodAll_mk1 (shut_bool Tryd.underlying4 _), (trodAll_cons_mk (Below.trod laidOut (by kernel_rfl) (of_decide_eq_true (by kernel_rfl)) k0 bel lt0) trodAll_mk0), rfl, bel.frame _, fun h => by cases h⟩
set_option maxRecDepth 100000 in
theorem liftedUpto (os : Os) (started : os.Started) (H : Type) (enc : TypeId × Value → H) (F : Stop.Interp) :
    ReturnsInHanded {} Tryd.checked os 8 .any ((Rows.OpenSpec.upto Rows.escapePlainSpec).preRow enc Tryd.prog Tryd.f8 Rows.escapePlainUptoRow.domain false Rows.escapePlainUptoRow.laid) (((Rows.OpenSpec.upto Rows.escapePlainSpec).at F).post enc Tryd.prog Tryd.f8 false true false false) := by
  obtain ⟨places, hx⟩ := reads os enc
  refine returnsInHanded_of_row (C := Tryd.checked) (s := Rows.OpenSpec.upto Rows.escapePlainSpec) own started (by kernel_rfl) Tryd.func8
    (witness_row_atRef (enc := enc) (C := Tryd.checked) false (World.doorLaid Tryd.prog 4000 os) #[.slice none 0 0] rfl (by kernel_rfl) (by kernel_rfl) (by kernel_rfl)
      (OpenSpec.preRow_of_cond 8 hx (by kernel_rfl) (fun k hk => by cases hk; kernel_rfl) (by kernel_rfl) (door_met os))) ?_
  intro W base args ds gs before hval hW _ hcond _ hL _ _
  exact contract H enc W base args ds gs before hval hW hL (hcond _ rfl)
theorem saidUpto : Rows.EscapePlainUptoSaid :=
  OpenClaim.holds_of_cond 8 Tryd.f8 rfl rfl rfl rfl rfl rfl rfl ⟨rfl, rfl, rfl, rfl, rfl⟩ rfl rfl rfl rfl rfl (by kernel_rfl) Tryd.func8 (by kernel_rfl)
    (of_decide_eq_true (by kernel_rfl)) (by unfold Func.isWrapper; first | (rw [if_pos (by decide +kernel)]; kernel_rfl) | (rw [if_neg (by decide +kernel)]; exact ⟨rfl, rfl⟩))
    (fun os started H enc _ F => by rw [OpenClaim.pre_eq_preRow]; exact liftedUpto os started H enc F)
theorem plain (f : FuncId) (fn : Func) (hf : Tryd.pinned.checked.prog.funcNamed "galley/galleylaw23.EscapePlain" = some f) (hfn : Tryd.pinned.checked.prog.funcs[f]? = some fn) :
    false = Tryd.pinned.checked.prog.looks [] ∧ ∀ (j : Nat) t, fn.params[j]? = some t → Tryd.pinned.checked.prog.wantsStandIn t = false := by
  obtain rfl : f = 8 := Option.some.inj ((show Tryd.prog.funcNamed "galley/galleylaw23.EscapePlain" = some 8 by kernel_rfl).symm.trans hf) |>.symm
  obtain rfl : fn = Tryd.f8 := (Option.some.inj (Tryd.func8.symm.trans hfn)).symm
  refine ⟨by kernel_rfl, fun j t ht => ?_⟩
  rw [Tryd.params8] at ht
  have hm : t ∈ (#[22] : Array TypeId) := Array.mem_of_getElem? ht
  have ho : t = 22 := by simpa using hm
  subst ho
  exact (show Tryd.prog.wantsStandIn 22 = false by kernel_rfl)
/-- The card of the second form. -/
theorem cardUpto : Rows.EscapePlainUptoCardSaid :=
  Claim7.holds_tied_plain_at .later [] _ _ _ _ saidUpto (fun _ h => by cases h) (by kernel_rfl) (fun _ h => by cases h) escapePlainUpto_row_tie rfl ⟨rfl, rfl⟩ (by kernel_rfl) rfl plain (by kernel_rfl)
end Go.Proofs.YtflddgoapibleaaDoor.escapePlain
