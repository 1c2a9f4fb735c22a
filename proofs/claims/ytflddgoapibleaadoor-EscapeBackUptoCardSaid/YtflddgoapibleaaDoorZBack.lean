/- EscapeBack of chapter 23, where what is read is of bulk at most 1048576: there and back; what is taken has one spelling. -/
import Derived.Test.YtflddgoapibleaaDoorWalk1
import Derived.Test.YtflddgoapibleaaDoorWalk2
import Derived.Test.YtflddgoapibleaaDoorWalk3
import Derived.Test.YtflddgoapibleaaDoorPlain3
import Derived.Test.YtflddgoapibleaaDoorCards
import Derived.Test.YtflddgoapibleaaDoorTie
import Derived.Test.YtflddgoapibleaaDoorPlain1
set_option linter.unusedVariables false
set_option linter.unusedSimpArgs false
namespace Go.Proofs.YtflddgoapibleaaDoor.Esc
open Go.RowKit Go.Proofs.YtflddgoapibleaaDoor.Hand Go.Proofs.YtflddgoapibleaaDoorW.PrintWords Go.Proofs.YtflddgoapibleaaDoorW.PrintLast Go.Proofs.YtflddgoapibleaaDoorW.PrintMore
attribute [local go_sem] max2_int min2_int max_two min_two max_three min_three max_four min_four   -- for this text's walks alone
set_option linter.unusedVariables false
set_option linter.unusedSimpArgs false

/-! ### galleylaw23_EscapeBack: function 7 -/
mutual
def galleylaw23_EscapeBack.j0 : Nat → ByteArray → Bool → Option (Bool)
  | 0, _, _ => none
  | k + 1, x1, x56 => if x56 = true then (some false) else ((escape_Unquote.f k x1).bind fun bt359 => (if bt359.2.2 = 0 then ((escape_Quote.f bt359.1).bind fun t364 => (galleylaw23_EscapeBack.j1 k x1 bt359.1 bt359.2.1 bt359.2.2 (t364.toList != x1.toList))) else (galleylaw23_EscapeBack.j1 k x1 bt359.1 bt359.2.1 bt359.2.2 false)))
def galleylaw23_EscapeBack.j1 : Nat → ByteArray → List Int → Int → Int → Bool → Option (Bool)
  | 0, _, _, _, _, _ => none
  | k + 1, x1, x5, x6, x7, x70 => if x70 = true then (some false) else (if x7 = 0 then (galleylaw23_EscapeBack.j2 k x1 false) else (if (x5.length : Int) = 0 then (if x6 < 0 then (galleylaw23_EscapeBack.j2 k x1 true) else (galleylaw23_EscapeBack.j2 k x1 (decide (x6 ≥ (x1.size : Int))))) else (galleylaw23_EscapeBack.j2 k x1 true)))
def galleylaw23_EscapeBack.j2 : Nat → ByteArray → Bool → Option (Bool)
  | 0, _, _ => none
  | k + 1, x1, x87 => if x87 = true then (some false) else ((escape_Unhex.f k x1).bind fun bt365 => (if bt365.2.2 = 0 then ((escape_Hex.f k bt365.1).bind fun t370 => (some (t370.toList == x1.toList))) else (if (bt365.1.length : Int) = 0 then (if bt365.2.1 ≥ 0 then (some (decide (bt365.2.1 ≤ (x1.size : Int)))) else (some false)) else (some false))))
end
def galleylaw23_EscapeBack.f (k : Nat) (l0 : List Int) (a1 : ByteArray) : Option (Bool) := (galleylaw23_awake.f k).bind fun t340 => (if t340 = true then ((galleylaw23_own.f l0).bind fun t341 => ((escape_Quote.f t341).bind fun t344 => ((escape_Unquote.f k t344).bind fun bt345 => ((galleylaw23_own.f l0).bind fun t350 => ((escape_Hex.f k t350).bind fun t353 => ((escape_Unhex.f k t353).bind fun bt354 => (if bt345.2.2 = 0 then (if bt354.2.2 = 0 then (if bt345.2.1 = 0 then (if bt354.2.1 = 0 then (if (strOfNums bt345.1).toList = (strOfNums l0).toList then (galleylaw23_EscapeBack.j0 k a1 ((strOfNums bt354.1).toList != (strOfNums l0).toList)) else (galleylaw23_EscapeBack.j0 k a1 true)) else (galleylaw23_EscapeBack.j0 k a1 true)) else (galleylaw23_EscapeBack.j0 k a1 true)) else (galleylaw23_EscapeBack.j0 k a1 true)) else (galleylaw23_EscapeBack.j0 k a1 true)))))))) else (some false))
theorem galleylaw23_EscapeBack.mono_l : ∀ k, (∀ y0 y1, LeO (galleylaw23_EscapeBack.j0 k y0 y1) (galleylaw23_EscapeBack.j0 (k + 1) y0 y1)) ∧ (∀ y0 y1 y2 y3 y4, LeO (galleylaw23_EscapeBack.j1 k y0 y1 y2 y3 y4) (galleylaw23_EscapeBack.j1 (k + 1) y0 y1 y2 y3 y4)) ∧ (∀ y0 y1, LeO (galleylaw23_EscapeBack.j2 k y0 y1) (galleylaw23_EscapeBack.j2 (k + 1) y0 y1))
  | 0 => ⟨fun _ _ r h => by simp [galleylaw23_EscapeBack.j0] at h, fun _ _ _ _ _ r h => by simp [galleylaw23_EscapeBack.j1] at h, fun _ _ r h => by simp [galleylaw23_EscapeBack.j2] at h⟩
  | k + 1 => by
    obtain ⟨ih0, ih1, ih2⟩ := galleylaw23_EscapeBack.mono_l k
    refine ⟨?_, ?_, ?_⟩
    · intro y0 y1
      unfold galleylaw23_EscapeBack.j0
      repeat' first
      | (with_reducible exact ih0 _ _)
      | (with_reducible exact ih1 _ _ _ _ _)
      | (with_reducible exact ih2 _ _)
      | (with_reducible exact escape_Hex.mono _ _)
      | (with_reducible exact escape_Unhex.mono _ _)
      | (with_reducible exact escape_Unquote.mono _ _)
      | (with_reducible exact galleylaw23_awake.mono _)
      | (with_reducible exact LeO.refl _)
      | (with_reducible exact LeO.none _)
      | (with_reducible refine LeO.ite ?_ ?_)
      | (with_reducible refine LeO.bind ?_ (fun _ => ?_))
      | exact ih0 _ _
      | exact ih1 _ _ _ _ _
      | exact ih2 _ _
      | exact escape_Hex.mono _ _
      | exact escape_Unhex.mono _ _
      | exact escape_Unquote.mono _ _
      | exact galleylaw23_awake.mono _
      | exact LeO.none _
      | refine LeO.ite ?_ ?_
      | refine LeO.bind ?_ (fun _ => ?_)
    · intro y0 y1 y2 y3 y4
      unfold galleylaw23_EscapeBack.j1
      repeat' first
      | (with_reducible exact ih0 _ _)
      | (with_reducible exact ih1 _ _ _ _ _)
      | (with_reducible exact ih2 _ _)
      | (with_reducible exact escape_Hex.mono _ _)
      | (with_reducible exact escape_Unhex.mono _ _)
      | (with_reducible exact escape_Unquote.mono _ _)
      | (with_reducible exact galleylaw23_awake.mono _)
      | (with_reducible exact LeO.refl _)
      | (with_reducible exact LeO.none _)
      | (with_reducible refine LeO.ite ?_ ?_)
      | (with_reducible refine LeO.bind ?_ (fun _ => ?_))
      | exact ih0 _ _
      | exact ih1 _ _ _ _ _
      | exact ih2 _ _
      | exact escape_Hex.mono _ _
      | exact escape_Unhex.mono _ _
      | exact escape_Unquote.mono _ _
      | exact galleylaw23_awake.mono _
      | exact LeO.none _
      | refine LeO.ite ?_ ?_
      | refine LeO.bind ?_ (fun _ => ?_)
    · intro y0 y1
      unfold galleylaw23_EscapeBack.j2
      repeat' first
      | (with_reducible exact ih0 _ _)
      | (with_reducible exact ih1 _ _ _ _ _)
      | (with_reducible exact ih2 _ _)
      | (with_reducible exact escape_Hex.mono _ _)
      | (with_reducible exact escape_Unhex.mono _ _)
      | (with_reducible exact escape_Unquote.mono _ _)
      | (with_reducible exact galleylaw23_awake.mono _)
      | (with_reducible exact LeO.refl _)
      | (with_reducible exact LeO.none _)
      | (with_reducible refine LeO.ite ?_ ?_)
      | (with_reducible refine LeO.bind ?_ (fun _ => ?_))
      | exact ih0 _ _
      | exact ih1 _ _ _ _ _
      | exact ih2 _ _
      | exact escape_Hex.mono _ _
      | exact escape_Unhex.mono _ _
      | exact escape_Unquote.mono _ _
      | exact galleylaw23_awake.mono _
      | exact LeO.none _
      | refine LeO.ite ?_ ?_
      | refine LeO.bind ?_ (fun _ => ?_)
theorem galleylaw23_EscapeBack.mono : ∀ a0 a1 k, LeO (galleylaw23_EscapeBack.f k a0 a1) (galleylaw23_EscapeBack.f (k + 1) a0 a1) := by
  intro a0 a1 k
  obtain ⟨ih0, ih1, ih2⟩ := galleylaw23_EscapeBack.mono_l k
  unfold galleylaw23_EscapeBack.f
  repeat' first
      | (with_reducible exact ih0 _ _)
      | (with_reducible exact ih1 _ _ _ _ _)
      | (with_reducible exact ih2 _ _)
      | (with_reducible exact escape_Hex.mono _ _)
      | (with_reducible exact escape_Unhex.mono _ _)
      | (with_reducible exact escape_Unquote.mono _ _)
      | (with_reducible exact galleylaw23_awake.mono _)
      | (with_reducible exact LeO.refl _)
      | (with_reducible exact LeO.none _)
      | (with_reducible refine LeO.ite ?_ ?_)
      | (with_reducible refine LeO.bind ?_ (fun _ => ?_))
      | exact ih0 _ _
      | exact ih1 _ _ _ _ _
      | exact ih2 _ _
      | exact escape_Hex.mono _ _
      | exact escape_Unhex.mono _ _
      | exact escape_Unquote.mono _ _
      | exact galleylaw23_awake.mono _
      | exact LeO.none _
      | refine LeO.ite ?_ ?_
      | refine LeO.bind ?_ (fun _ => ?_)
set_option maxHeartbeats 8000000 in
set_option maxRecDepth 100000 in
theorem galleylaw23_EscapeBack.calls (k : Nat) (A0 : Option Addr) (c0 : Nat) (l0 : List Int) (a1 : ByteArray) (r : Bool) (w : World) (hG : Globs w) (hr0 : Kd.C (Kd.int .u8) w A0 l0.length l0) (hc0 : l0.length ≤ c0) (h : galleylaw23_EscapeBack.f k l0 a1 = some r) :
    Calls Tryd.prog 7 #[.slice A0 l0.length c0, .string a1] w fun e w' => e = .returned (.bool r) ∧ Below w.heap.size w w' := by
  have HR0 := Aside0.mk hr0
  have HC0 := Aside0.mk hc0
  clear hr0 hc0
  have HG := Aside0.mk hG
  clear hG
  have HB := Aside0.mk (Below.refl w.heap.size w)
  have H : ((galleylaw23_awake.f k).bind fun t340 => (if t340 = true then ((galleylaw23_own.f l0).bind fun t341 => ((escape_Quote.f t341).bind fun t344 => ((escape_Unquote.f k t344).bind fun bt345 => ((galleylaw23_own.f l0).bind fun t350 => ((escape_Hex.f k t350).bind fun t353 => ((escape_Unhex.f k t353).bind fun bt354 => (if bt345.2.2 = 0 then (if bt354.2.2 = 0 then (if bt345.2.1 = 0 then (if bt354.2.1 = 0 then (if (strOfNums bt345.1).toList = (strOfNums l0).toList then (galleylaw23_EscapeBack.j0 k a1 ((strOfNums bt354.1).toList != (strOfNums l0).toList)) else (galleylaw23_EscapeBack.j0 k a1 true)) else (galleylaw23_EscapeBack.j0 k a1 true)) else (galleylaw23_EscapeBack.j0 k a1 true)) else (galleylaw23_EscapeBack.j0 k a1 true)) else (galleylaw23_EscapeBack.j0 k a1 true)))))))) else (some false))) = some r := h
  clear h
  replace H := Option.bind_eq_some_iff.mp H
  obtain ⟨t340, A30, H⟩ := H
  replace H : (if t340 = true then ((galleylaw23_own.f l0).bind fun t341 => ((escape_Quote.f t341).bind fun t344 => ((escape_Unquote.f k t344).bind fun bt345 => ((galleylaw23_own.f l0).bind fun t350 => ((escape_Hex.f k t350).bind fun t353 => ((escape_Unhex.f k t353).bind fun bt354 => (if bt345.2.2 = 0 then (if bt354.2.2 = 0 then (if bt345.2.1 = 0 then (if bt354.2.1 = 0 then (if (strOfNums bt345.1).toList = (strOfNums l0).toList then (galleylaw23_EscapeBack.j0 k a1 ((strOfNums bt354.1).toList != (strOfNums l0).toList)) else (galleylaw23_EscapeBack.j0 k a1 true)) else (galleylaw23_EscapeBack.j0 k a1 true)) else (galleylaw23_EscapeBack.j0 k a1 true)) else (galleylaw23_EscapeBack.j0 k a1 true)) else (galleylaw23_EscapeBack.j0 k a1 true)))))))) else (some false)) = some r := H
  have A3 := Aside0.mk A30
  clear A30
  by_cases c4 : t340 = true
  · subst c4
    have H1 : ((galleylaw23_own.f l0).bind fun t341 => ((escape_Quote.f t341).bind fun t344 => ((escape_Unquote.f k t344).bind fun bt345 => ((galleylaw23_own.f l0).bind fun t350 => ((escape_Hex.f k t350).bind fun t353 => ((escape_Unhex.f k t353).bind fun bt354 => (if bt345.2.2 = 0 then (if bt354.2.2 = 0 then (if bt345.2.1 = 0 then (if bt354.2.1 = 0 then (if (strOfNums bt345.1).toList = (strOfNums l0).toList then (galleylaw23_EscapeBack.j0 k a1 ((strOfNums bt354.1).toList != (strOfNums l0).toList)) else (galleylaw23_EscapeBack.j0 k a1 true)) else (galleylaw23_EscapeBack.j0 k a1 true)) else (galleylaw23_EscapeBack.j0 k a1 true)) else (galleylaw23_EscapeBack.j0 k a1 true)) else (galleylaw23_EscapeBack.j0 k a1 true)))))))) = some r := by rw [if_pos rfl] at H; exact H
    clear H
    have H := H1
    clear H1
    replace H := Option.bind_eq_some_iff.mp H
    obtain ⟨t341, A50, H⟩ := H
    replace H : ((escape_Quote.f t341).bind fun t344 => ((escape_Unquote.f k t344).bind fun bt345 => ((galleylaw23_own.f l0).bind fun t350 => ((escape_Hex.f k t350).bind fun t353 => ((escape_Unhex.f k t353).bind fun bt354 => (if bt345.2.2 = 0 then (if bt354.2.2 = 0 then (if bt345.2.1 = 0 then (if bt354.2.1 = 0 then (if (strOfNums bt345.1).toList = (strOfNums l0).toList then (galleylaw23_EscapeBack.j0 k a1 ((strOfNums bt354.1).toList != (strOfNums l0).toList)) else (galleylaw23_EscapeBack.j0 k a1 true)) else (galleylaw23_EscapeBack.j0 k a1 true)) else (galleylaw23_EscapeBack.j0 k a1 true)) else (galleylaw23_EscapeBack.j0 k a1 true)) else (galleylaw23_EscapeBack.j0 k a1 true))))))) = some r := H
    have A5 := Aside0.mk A50
    clear A50
    replace H := Option.bind_eq_some_iff.mp H
    obtain ⟨t344, A60, H⟩ := H
    replace H : ((escape_Unquote.f k t344).bind fun bt345 => ((galleylaw23_own.f l0).bind fun t350 => ((escape_Hex.f k t350).bind fun t353 => ((escape_Unhex.f k t353).bind fun bt354 => (if bt345.2.2 = 0 then (if bt354.2.2 = 0 then (if bt345.2.1 = 0 then (if bt354.2.1 = 0 then (if (strOfNums bt345.1).toList = (strOfNums l0).toList then (galleylaw23_EscapeBack.j0 k a1 ((strOfNums bt354.1).toList != (strOfNums l0).toList)) else (galleylaw23_EscapeBack.j0 k a1 true)) else (galleylaw23_EscapeBack.j0 k a1 true)) else (galleylaw23_EscapeBack.j0 k a1 true)) else (galleylaw23_EscapeBack.j0 k a1 true)) else (galleylaw23_EscapeBack.j0 k a1 true)))))) = some r := H
    have A6 := Aside0.mk A60
    clear A60
    replace H := Option.bind_eq_some_iff.mp H
    obtain ⟨⟨t345, t346, t347⟩, A70, H⟩ := H
    replace H : ((galleylaw23_own.f l0).bind fun t350 => ((escape_Hex.f k t350).bind fun t353 => ((escape_Unhex.f k t353).bind fun bt354 => (if t347 = 0 then (if bt354.2.2 = 0 then (if t346 = 0 then (if bt354.2.1 = 0 then (if (strOfNums t345).toList = (strOfNums l0).toList then (galleylaw23_EscapeBack.j0 k a1 ((strOfNums bt354.1).toList != (strOfNums l0).toList)) else (galleylaw23_EscapeBack.j0 k a1 true)) else (galleylaw23_EscapeBack.j0 k a1 true)) else (galleylaw23_EscapeBack.j0 k a1 true)) else (galleylaw23_EscapeBack.j0 k a1 true)) else (galleylaw23_EscapeBack.j0 k a1 true))))) = some r := H
    have A7 := Aside0.mk A70
    clear A70
    replace H := Option.bind_eq_some_iff.mp H
    obtain ⟨t350, A80, H⟩ := H
    replace H : ((escape_Hex.f k t350).bind fun t353 => ((escape_Unhex.f k t353).bind fun bt354 => (if t347 = 0 then (if bt354.2.2 = 0 then (if t346 = 0 then (if bt354.2.1 = 0 then (if (strOfNums t345).toList = (strOfNums l0).toList then (galleylaw23_EscapeBack.j0 k a1 ((strOfNums bt354.1).toList != (strOfNums l0).toList)) else (galleylaw23_EscapeBack.j0 k a1 true)) else (galleylaw23_EscapeBack.j0 k a1 true)) else (galleylaw23_EscapeBack.j0 k a1 true)) else (galleylaw23_EscapeBack.j0 k a1 true)) else (galleylaw23_EscapeBack.j0 k a1 true)))) = some r := H
    have A8 := Aside0.mk A80
    clear A80
    replace H := Option.bind_eq_some_iff.mp H
    obtain ⟨t353, A90, H⟩ := H
    replace H : ((escape_Unhex.f k t353).bind fun bt354 => (if t347 = 0 then (if bt354.2.2 = 0 then (if t346 = 0 then (if bt354.2.1 = 0 then (if (strOfNums t345).toList = (strOfNums l0).toList then (galleylaw23_EscapeBack.j0 k a1 ((strOfNums bt354.1).toList != (strOfNums l0).toList)) else (galleylaw23_EscapeBack.j0 k a1 true)) else (galleylaw23_EscapeBack.j0 k a1 true)) else (galleylaw23_EscapeBack.j0 k a1 true)) else (galleylaw23_EscapeBack.j0 k a1 true)) else (galleylaw23_EscapeBack.j0 k a1 true))) = some r := H
    have A9 := Aside0.mk A90
    clear A90
    replace H := Option.bind_eq_some_iff.mp H
    obtain ⟨⟨t354, t355, t356⟩, A100, H⟩ := H
    replace H : (if t347 = 0 then (if t356 = 0 then (if t346 = 0 then (if t355 = 0 then (if (strOfNums t345).toList = (strOfNums l0).toList then (galleylaw23_EscapeBack.j0 k a1 ((strOfNums t354).toList != (strOfNums l0).toList)) else (galleylaw23_EscapeBack.j0 k a1 true)) else (galleylaw23_EscapeBack.j0 k a1 true)) else (galleylaw23_EscapeBack.j0 k a1 true)) else (galleylaw23_EscapeBack.j0 k a1 true)) else (galleylaw23_EscapeBack.j0 k a1 true)) = some r := H
    have A10 := Aside0.mk A100
    clear A100
    have HC11 := Aside0.mk H
    clear H
    go_enter Tryd.func7, Tryd.ntmps7
    go_upto_region 5 with (first | ((with_reducible refine gate_callee (f := 11) rfl ?_); refine goesL_ (some 11) rfl rfl Tryd.func11 (by kernel_rfl) rfl #[] rfl (by (try simp only [List.map_toArray, List.map_cons, List.map_nil]); first | done | rfl | (simp only [List.length_drop, List.length_take]; rfl)) ?_; (with_reducible refine (galleylaw23_awake.calls k  true _ ?side1 A3.out).mono ?_); (case side1 => exact Globs.below HG.out (by repeat (first | (with_reducible first | exact HB.out | apply below_alloc | apply pw_below_drewN | apply below_drew1) | exact HB.out))); rintro e w12 ⟨rfl, hb⟩; refine ⟨_, rfl, ?_⟩; have n0_ := Aside0.mk (below_step (by repeat (first | (with_reducible first | exact HB.out | apply below_alloc | apply pw_below_drewN | apply below_drew1) | exact HB.out)) hb); clear HB; have HB := n0_; clear n0_; (try clear hb); (try clear hb2); (try clear hk); (try clear hi)) | ((with_reducible refine gate_callee (f := 12) rfl ?_); refine goesL_ (some 15) rfl rfl Tryd.func12 (by kernel_rfl) rfl #[.slice A0 l0.length c0] rfl (by (try simp only [List.map_toArray, List.map_cons, List.map_nil]); first | done | rfl | (simp only [List.length_drop, List.length_take]; rfl)) ?_; (with_reducible refine (galleylaw23_own.calls _ _ l0 t341 _ ?side1 ?side2 A5.out).mono ?_); (case side1 => repeat (first | exact (Kd.C_below HR0.out HB.out) | (with_reducible refine Kd.C_alloc ?_ _) | (with_reducible refine Kd.C_drewN ?_ _) | (with_reducible refine Kd.C_drew ?_))); (case side2 => exact HC0.out); rintro e w13 ⟨v342, rfl, ho0, hb⟩; refine ⟨_, rfl, ?_⟩; have n0_ := Aside0.mk (Kd.R_lower ho0 (below_size (by repeat (first | (with_reducible first | exact HB.out | apply below_alloc | apply pw_below_drewN | apply below_drew1) | exact HB.out)))); have n1_ := Aside0.mk (below_step (by repeat (first | (with_reducible first | exact HB.out | apply below_alloc | apply pw_below_drewN | apply below_drew1) | exact HB.out)) hb); clear HB; have HO343 := n0_; have HB := n1_; clear n0_ n1_; (try clear hb); (try clear hb2); (try clear hk); (try clear hi); (try clear ho0); obtain ⟨Ao14, co14, eo14⟩ := Kd.R_slice HO343.out; subst eo14) | ((with_reducible refine gate_callee (f := 13) rfl ?_); refine goesL_ (some 16) rfl rfl Tryd.func13 (by kernel_rfl) rfl #[.slice Ao14 t341.length co14] rfl (by (try simp only [List.map_toArray, List.map_cons, List.map_nil]); first | done | rfl | (simp only [List.length_drop, List.length_take]; rfl)) ?_; (with_reducible refine (escape_Quote.calls _ _ t341 t344 _ ?side1 ?side2 ?side3 A6.out).mono ?_); (case side1 => exact Globs.below HG.out (by repeat (first | (with_reducible first | exact HB.out | apply below_alloc | apply pw_below_drewN | apply below_drew1) | exact HB.out))); (case side2 => repeat (first | exact (Kd.R_reads' HO343.out).2.2 | (with_reducible refine Kd.C_alloc ?_ _) | (with_reducible refine Kd.C_drewN ?_ _) | (with_reducible refine Kd.C_drew ?_))); (case side3 => exact (Kd.R_reads' HO343.out).2.1); rintro e w15 ⟨rfl, hb⟩; refine ⟨_, rfl, ?_⟩; have n0_ := Aside0.mk (Kd.R_below (by (with_reducible repeat (first | apply Kd.R_alloc | apply Kd.R_drewN | apply Kd.R_drew)); exact HO343.out) hb); have n1_ := Aside0.mk (below_step (by repeat (first | (with_reducible first | exact HB.out | apply below_alloc | apply pw_below_drewN | apply below_drew1) | exact HB.out)) hb); clear HO343; clear HB; have HO343 := n0_; have HB := n1_; clear n0_ n1_; (try clear hb); (try clear hb2); (try clear hk); (try clear hi)) | ((with_reducible refine gate_callee (f := 15) rfl ?_); refine goesL_ (some 17) rfl rfl Tryd.func15 (by kernel_rfl) rfl #[.string t344] rfl (by (try simp only [List.map_toArray, List.map_cons, List.map_nil]); first | done | rfl | (simp only [List.length_drop, List.length_take]; rfl)) ?_; (with_reducible refine (escape_Unquote.calls k t344 t345 t346 t347 _ ?side1 A7.out).mono ?_); (case side1 => exact Globs.below HG.out (by repeat (first | (with_reducible first | exact HB.out | apply below_alloc | apply pw_below_drewN | apply below_drew1) | exact HB.out))); rintro e w16 ⟨v348, rfl, ho0, hb⟩; refine ⟨_, rfl, ?_⟩; have n0_ := Aside0.mk (Kd.R_elder' (by (with_reducible repeat (first | apply Kd.R_alloc | apply Kd.R_drewN | apply Kd.R_drew)); exact HO343.out) (Kd.R_base ho0) hb); have n1_ := Aside0.mk (Kd.R_lower (Kd.R_new' ho0 (Kd.R_lt (by (with_reducible repeat (first | apply Kd.R_alloc | apply Kd.R_drewN | apply Kd.R_drew)); exact HO343.out))) (below_size (by repeat (first | (with_reducible first | exact HB.out | apply below_alloc | apply pw_below_drewN | apply below_drew1) | exact HB.out)))); have n2_ := Aside0.mk (below_step (by repeat (first | (with_reducible first | exact HB.out | apply below_alloc | apply pw_below_drewN | apply below_drew1) | exact HB.out)) hb); clear HO343; clear HB; have HO343 := n0_; have HO349 := n1_; have HB := n2_; clear n0_ n1_ n2_; (try clear hb); (try clear hb2); (try clear hk); (try clear hi); (try clear ho0)) | ((with_reducible refine gate_callee (f := 12) rfl ?_); refine goesL_ (some 23) rfl rfl Tryd.func12 (by kernel_rfl) rfl #[.slice A0 l0.length c0] rfl (by (try simp only [List.map_toArray, List.map_cons, List.map_nil]); first | done | rfl | (simp only [List.length_drop, List.length_take]; rfl)) ?_; (with_reducible refine (galleylaw23_own.calls _ _ l0 t350 _ ?side1 ?side2 A8.out).mono ?_); (case side1 => repeat (first | exact (Kd.C_below HR0.out HB.out) | (with_reducible refine Kd.C_alloc ?_ _) | (with_reducible refine Kd.C_drewN ?_ _) | (with_reducible refine Kd.C_drew ?_))); (case side2 => exact HC0.out); rintro e w17 ⟨v351, rfl, ho0, hb⟩; refine ⟨_, rfl, ?_⟩; have n0_ := Aside0.mk (Kd.R_elder' (by (with_reducible repeat (first | apply Kd.R_alloc | apply Kd.R_drewN | apply Kd.R_drew)); exact HO343.out) (Kd.R_base ho0) hb); have n1_ := Aside0.mk (Kd.R_elder' (by (with_reducible repeat (first | apply Kd.R_alloc | apply Kd.R_drewN | apply Kd.R_drew)); exact HO349.out) (Kd.R_base ho0) hb); have n2_ := Aside0.mk (Kd.R_lower (Kd.R_new' (Kd.R_new' ho0 (Kd.R_lt (by (with_reducible repeat (first | apply Kd.R_alloc | apply Kd.R_drewN | apply Kd.R_drew)); exact HO343.out))) (Kd.R_lt (by (with_reducible repeat (first | apply Kd.R_alloc | apply Kd.R_drewN | apply Kd.R_drew)); exact HO349.out))) (below_size (by repeat (first | (with_reducible first | exact HB.out | apply below_alloc | apply pw_below_drewN | apply below_drew1) | exact HB.out)))); have n3_ := Aside0.mk (below_step (by repeat (first | (with_reducible first | exact HB.out | apply below_alloc | apply pw_below_drewN | apply below_drew1) | exact HB.out)) hb); clear HO343; clear HO349; clear HB; have HO343 := n0_; have HO349 := n1_; have HO352 := n2_; have HB := n3_; clear n0_ n1_ n2_ n3_; (try clear hb); (try clear hb2); (try clear hk); (try clear hi); (try clear ho0); obtain ⟨Ao18, co18, eo18⟩ := Kd.R_slice HO352.out; subst eo18) | ((with_reducible refine gate_callee (f := 16) rfl ?_); refine goesL_ (some 24) rfl rfl Tryd.func16 (by kernel_rfl) rfl #[.slice Ao18 t350.length co18] rfl (by (try simp only [List.map_toArray, List.map_cons, List.map_nil]); first | done | rfl | (simp only [List.length_drop, List.length_take]; rfl)) ?_; (with_reducible refine (escape_Hex.calls k _ _ t350 t353 _ ?side1 ?side2 A9.out).mono ?_); (case side1 => repeat (first | exact (Kd.R_reads' HO352.out).2.2 | (with_reducible refine Kd.C_alloc ?_ _) | (with_reducible refine Kd.C_drewN ?_ _) | (with_reducible refine Kd.C_drew ?_))); (case side2 => exact (Kd.R_reads' HO352.out).2.1); rintro e w19 ⟨rfl, hb⟩; refine ⟨_, rfl, ?_⟩; have n0_ := Aside0.mk (Kd.R_below (by (with_reducible repeat (first | apply Kd.R_alloc | apply Kd.R_drewN | apply Kd.R_drew)); exact HO343.out) hb); have n1_ := Aside0.mk (Kd.R_below (by (with_reducible repeat (first | apply Kd.R_alloc | apply Kd.R_drewN | apply Kd.R_drew)); exact HO349.out) hb); have n2_ := Aside0.mk (Kd.R_below (by (with_reducible repeat (first | apply Kd.R_alloc | apply Kd.R_drewN | apply Kd.R_drew)); exact HO352.out) hb); have n3_ := Aside0.mk (below_step (by repeat (first | (with_reducible first | exact HB.out | apply below_alloc | apply pw_below_drewN | apply below_drew1) | exact HB.out)) hb); clear HO343; clear HO349; clear HO352; clear HB; have HO343 := n0_; have HO349 := n1_; have HO352 := n2_; have HB := n3_; clear n0_ n1_ n2_ n3_; (try clear hb); (try clear hb2); (try clear hk); (try clear hi)) | ((with_reducible refine gate_callee (f := 18) rfl ?_); refine goesL_ (some 25) rfl rfl Tryd.func18 (by kernel_rfl) rfl #[.string t353] rfl (by (try simp only [List.map_toArray, List.map_cons, List.map_nil]); first | done | rfl | (simp only [List.length_drop, List.length_take]; rfl)) ?_; (with_reducible refine (escape_Unhex.calls k t353 t354 t355 t356 _ A10.out).mono ?_); rintro e w20 ⟨v357, rfl, ho0, hb⟩; refine ⟨_, rfl, ?_⟩; have n0_ := Aside0.mk (Kd.R_elder' (by (with_reducible repeat (first | apply Kd.R_alloc | apply Kd.R_drewN | apply Kd.R_drew)); exact HO343.out) (Kd.R_base ho0) hb); have n1_ := Aside0.mk (Kd.R_elder' (by (with_reducible repeat (first | apply Kd.R_alloc | apply Kd.R_drewN | apply Kd.R_drew)); exact HO349.out) (Kd.R_base ho0) hb); have n2_ := Aside0.mk (Kd.R_elder' (by (with_reducible repeat (first | apply Kd.R_alloc | apply Kd.R_drewN | apply Kd.R_drew)); exact HO352.out) (Kd.R_base ho0) hb); have n3_ := Aside0.mk (Kd.R_lower (Kd.R_new' (Kd.R_new' (Kd.R_new' ho0 (Kd.R_lt (by (with_reducible repeat (first | apply Kd.R_alloc | apply Kd.R_drewN | apply Kd.R_drew)); exact HO343.out))) (Kd.R_lt (by (with_reducible repeat (first | apply Kd.R_alloc | apply Kd.R_drewN | apply Kd.R_drew)); exact HO349.out))) (Kd.R_lt (by (with_reducible repeat (first | apply Kd.R_alloc | apply Kd.R_drewN | apply Kd.R_drew)); exact HO352.out))) (below_size (by repeat (first | (with_reducible first | exact HB.out | apply below_alloc | apply pw_below_drewN | apply below_drew1) | exact HB.out)))); have n4_ := Aside0.mk (below_step (by repeat (first | (with_reducible first | exact HB.out | apply below_alloc | apply pw_below_drewN | apply below_drew1) | exact HB.out)) hb); clear HO343; clear HO349; clear HO352; clear HB; have HO343 := n0_; have HO349 := n1_; have HO352 := n2_; have HO358 := n3_; have HB := n4_; clear n0_ n1_ n2_ n3_ n4_; (try clear hb); (try clear hb2); (try clear hk); (try clear hi); (try clear ho0)))
    (try simp only [Act.put, List.setIfInBounds_toArray, List.set_cons_zero, List.set_cons_succ])
    go_cut [56] (fun v56 wc => ∃ (kq : Nat) (x56_10 : Bool), v56 = .bool x56_10 ∧ Aside0 (galleylaw23_EscapeBack.j0 kq a1 x56_10 = some r) ∧ Aside0 (kq ≤ k) ∧ Aside0 (Below w.heap.size w wc))
    case first =>
      have H := HC11.out
      clear HC11
      by_cases c21 : t347 = 0
      · rw [if_pos c21] at H
        have c21b0 : (t347 == 0) = true := beq_iff_eq.mpr c21
        have c21b1 : (t347 != 0) = false := bne_eq_false_iff_eq.mpr c21
        clear c21
        (first | rw [c21b0] | (simp only [i64_w, i32_w]; rw [c21b0]) | skip)
        by_cases c22 : t356 = 0
        · rw [if_pos c22] at H
          have c22b0 : (t356 == 0) = true := beq_iff_eq.mpr c22
          have c22b1 : (t356 != 0) = false := bne_eq_false_iff_eq.mpr c22
          clear c22
          by_cases c23 : t346 = 0
          · rw [if_pos c23] at H
            have c23b0 : (t346 == 0) = true := beq_iff_eq.mpr c23
            have c23b1 : (t346 != 0) = false := bne_eq_false_iff_eq.mpr c23
            clear c23
            by_cases c24 : t355 = 0
            · rw [if_pos c24] at H
              have c24b0 : (t355 == 0) = true := beq_iff_eq.mpr c24
              have c24b1 : (t355 != 0) = false := bne_eq_false_iff_eq.mpr c24
              clear c24
              by_cases c25 : (strOfNums t345).toList = (strOfNums l0).toList
              · rw [if_pos c25] at H
                have c25b0 : ((strOfNums t345).toList == (strOfNums l0).toList) = true := beq_iff_eq.mpr c25
                have c25b1 : ((strOfNums t345).toList != (strOfNums l0).toList) = false := bne_eq_false_iff_eq.mpr c25
                clear c25
                have H' := Aside0.mk H
                clear H
                have hcv26 := own_string (P := Tryd.prog) Tryd.underlying22 Tryd.underlying5 Tryd.underlying9 (Kd.own_of_R HO349.out)
                have hcv27 := Kd.C_string (P := Tryd.prog) (A := A0) (c := c0) Tryd.underlying22 Tryd.underlying5 Tryd.underlying9 (Kd.C_below HR0.out HB.out)
                have hcv28 := own_string (P := Tryd.prog) Tryd.underlying22 Tryd.underlying5 Tryd.underlying9 (Kd.own_of_R HO358.out)
                have hcv29 := Kd.C_string (P := Tryd.prog) (A := A0) (c := c0) Tryd.underlying22 Tryd.underlying5 Tryd.underlying9 (Kd.C_below HR0.out HB.out)
                go_wp2
                go_meet
                case rel => exact ⟨_, (((strOfNums t354).toList != (strOfNums l0).toList)), (by first | rfl | (simp; done) | (simp [*]; done)), H', ⟨by first | omega | exact Nat.le_refl _⟩, ⟨by repeat (first | (with_reducible first | exact HB.out | apply below_alloc | apply pw_below_drewN | apply below_drew1) | exact HB.out)⟩⟩
              · rw [if_neg c25] at H
                have c25b0 : ((strOfNums t345).toList == (strOfNums l0).toList) = false := beq_eq_false_iff_ne.mpr c25
                have c25b1 : ((strOfNums t345).toList != (strOfNums l0).toList) = true := bne_iff_ne.mpr c25
                have H' := Aside0.mk H
                clear H
                have hcv30 := own_string (P := Tryd.prog) Tryd.underlying22 Tryd.underlying5 Tryd.underlying9 (Kd.own_of_R HO349.out)
                have hcv31 := Kd.C_string (P := Tryd.prog) (A := A0) (c := c0) Tryd.underlying22 Tryd.underlying5 Tryd.underlying9 (Kd.C_below HR0.out HB.out)
                go_wp2
                go_meet
                case rel => exact ⟨_, (true), (by first | rfl | (simp; done) | (simp [*]; done)), H', ⟨by first | omega | exact Nat.le_refl _⟩, ⟨by repeat (first | (with_reducible first | exact HB.out | apply below_alloc | apply pw_below_drewN | apply below_drew1) | exact HB.out)⟩⟩
            · rw [if_neg c24] at H
              have c24b0 : (t355 == 0) = false := beq_eq_false_iff_ne.mpr c24
              have c24b1 : (t355 != 0) = true := bne_iff_ne.mpr c24
              have H' := Aside0.mk H
              clear H
              go_wp2
              go_meet
              case rel => exact ⟨_, (true), (by first | rfl | (simp; done) | (simp [*]; done)), H', ⟨by first | omega | exact Nat.le_refl _⟩, ⟨by repeat (first | (with_reducible first | exact HB.out | apply below_alloc | apply pw_below_drewN | apply below_drew1) | exact HB.out)⟩⟩
          · rw [if_neg c23] at H
            have c23b0 : (t346 == 0) = false := beq_eq_false_iff_ne.mpr c23
            have c23b1 : (t346 != 0) = true := bne_iff_ne.mpr c23
            have H' := Aside0.mk H
            clear H
            go_wp2
            go_meet
            case rel => exact ⟨_, (true), (by first | rfl | (simp; done) | (simp [*]; done)), H', ⟨by first | omega | exact Nat.le_refl _⟩, ⟨by repeat (first | (with_reducible first | exact HB.out | apply below_alloc | apply pw_below_drewN | apply below_drew1) | exact HB.out)⟩⟩
        · rw [if_neg c22] at H
          have c22b0 : (t356 == 0) = false := beq_eq_false_iff_ne.mpr c22
          have c22b1 : (t356 != 0) = true := bne_iff_ne.mpr c22
          have H' := Aside0.mk H
          clear H
          go_wp2
          go_meet
          case rel => exact ⟨_, (true), (by first | rfl | (simp; done) | (simp [*]; done)), H', ⟨by first | omega | exact Nat.le_refl _⟩, ⟨by repeat (first | (with_reducible first | exact HB.out | apply below_alloc | apply pw_below_drewN | apply below_drew1) | exact HB.out)⟩⟩
      · rw [if_neg c21] at H
        have c21b0 : (t347 == 0) = false := beq_eq_false_iff_ne.mpr c21
        have c21b1 : (t347 != 0) = true := bne_iff_ne.mpr c21
        (first | rw [c21b0] | (simp only [i64_w, i32_w]; rw [c21b0]) | skip)
        have H' := Aside0.mk H
        clear H
        go_wp2
        go_meet
        case rel => exact ⟨_, (true), (by first | rfl | (simp; done) | (simp [*]; done)), H', ⟨by first | omega | exact Nat.le_refl _⟩, ⟨by repeat (first | (with_reducible first | exact HB.out | apply below_alloc | apply pw_below_drewN | apply below_drew1) | exact HB.out)⟩⟩
    case rest =>
      clear HC11
      try clear c1
      try clear c2
      try clear p2
      try clear hcv2
      try clear hcv3
      try clear c4
      try clear c7
      try clear c11
      try clear c12
      try clear c13
      try clear c15
      try clear c16
      try clear c18
      try clear c21
      try clear c21b0
      try clear c21b1
      try clear c22
      try clear c22b0
      try clear c22b1
      try clear c23
      try clear c23b0
      try clear c23b1
      try clear c24
      try clear c24b0
      try clear c24b1
      try clear c25
      try clear c25b0
      try clear c25b1
      try clear hcv26
      try clear hcv27
      try clear hcv28
      try clear hcv29
      try clear hcv30
      try clear hcv31
      obtain ⟨kq, x56_10, rfl, HA, HJ10, HB⟩ := hcut
      cases kq with
      | zero => exact absurd HA.out (by simp [galleylaw23_EscapeBack.j0])
      | succ kj10 =>
        have H := HA.out
        clear HA
        simp only [galleylaw23_EscapeBack.j0] at H
        by_cases c32 : x56_10 = true
        · subst c32
          have H1 : (some false) = some r := by rw [if_pos rfl] at H; exact H
          clear H
          have H := H1
          clear H1
          obtain rfl := Option.some.inj H
          go_wp2
          go_ret
          exact ⟨by first | rfl | (simp [errW_none, errW_some] <;> rfl) | (simp [*, errW_none, errW_some] <;> rfl), by repeat (first | (with_reducible first | exact HB.out | apply below_alloc | apply pw_below_drewN | apply below_drew1) | exact HB.out)⟩
        · replace c32 := Bool.eq_false_iff.mpr c32
          subst c32
          have H1 : ((escape_Unquote.f kj10 a1).bind fun bt359 => (if bt359.2.2 = 0 then ((escape_Quote.f bt359.1).bind fun t364 => (galleylaw23_EscapeBack.j1 kj10 a1 bt359.1 bt359.2.1 bt359.2.2 (t364.toList != a1.toList))) else (galleylaw23_EscapeBack.j1 kj10 a1 bt359.1 bt359.2.1 bt359.2.2 false))) = some r := by rw [if_neg (show ¬ (false = true) by decide)] at H; exact H
          clear H
          have H := H1
          clear H1
          replace H := Option.bind_eq_some_iff.mp H
          obtain ⟨⟨t359, t360, t361⟩, A330, H⟩ := H
          replace H : (if t361 = 0 then ((escape_Quote.f t359).bind fun t364 => (galleylaw23_EscapeBack.j1 kj10 a1 t359 t360 t361 (t364.toList != a1.toList))) else (galleylaw23_EscapeBack.j1 kj10 a1 t359 t360 t361 false)) = some r := H
          have A33 := Aside0.mk A330
          clear A330
          have HC34 := Aside0.mk H
          clear H
          go_upto_region 8 with (first | ((with_reducible refine gate_callee (f := 15) rfl ?_); refine goesL_ (some 59) rfl rfl Tryd.func15 (by kernel_rfl) rfl #[.string a1] rfl (by (try simp only [List.map_toArray, List.map_cons, List.map_nil]); first | done | rfl | (simp only [List.length_drop, List.length_take]; rfl)) ?_; (with_reducible refine (escape_Unquote.calls kj10 a1 t359 t360 t361 _ ?side1 A33.out).mono ?_); (case side1 => exact Globs.below HG.out (by repeat (first | (with_reducible first | exact HB.out | apply below_alloc | apply pw_below_drewN | apply below_drew1) | exact HB.out))); rintro e w35 ⟨v362, rfl, ho0, hb⟩; refine ⟨_, rfl, ?_⟩; have n0_ := Aside0.mk (Kd.R_lower ho0 (below_size (by repeat (first | (with_reducible first | exact HB.out | apply below_alloc | apply pw_below_drewN | apply below_drew1) | exact HB.out)))); have n1_ := Aside0.mk (below_step (by repeat (first | (with_reducible first | exact HB.out | apply below_alloc | apply pw_below_drewN | apply below_drew1) | exact HB.out)) hb); clear HB; have HO363 := n0_; have HB := n1_; clear n0_ n1_; (try clear hb); (try clear hb2); (try clear hk); (try clear hi); (try clear ho0)))
          (try simp only [Act.put, List.setIfInBounds_toArray, List.set_cons_zero, List.set_cons_succ])
          go_cut [70] (fun v70 wc => ∃ (kq : Nat) (x70_33 : Bool), v70 = .bool x70_33 ∧ Aside0 (galleylaw23_EscapeBack.j1 kq a1 t359 t360 t361 x70_33 = some r) ∧ Aside0 (kq ≤ kj10) ∧ Aside0 (Kd.R (Kd.int .u8) 5 wc w.heap.size (fun _ => True) v362 t359) ∧ Aside0 (Below w.heap.size w wc))
          case first =>
            have H := HC34.out
            clear HC34
            by_cases c36 : t361 = 0
            · rw [if_pos c36] at H
              have c36b0 : (t361 == 0) = true := beq_iff_eq.mpr c36
              have c36b1 : (t361 != 0) = false := bne_eq_false_iff_eq.mpr c36
              clear c36
              (first | rw [c36b0] | (simp only [i64_w, i32_w]; rw [c36b0]) | skip)
              replace H := Option.bind_eq_some_iff.mp H
              obtain ⟨t364, A370, H⟩ := H
              replace H : (galleylaw23_EscapeBack.j1 kj10 a1 t359 t360 t361 (t364.toList != a1.toList)) = some r := H
              have A37 := Aside0.mk A370
              clear A370
              have H' := Aside0.mk H
              clear H
              obtain ⟨Ao38, co38, eo38⟩ := Kd.R_slice HO363.out
              subst eo38
              go_wp2_with (first | (go_at_call 13; (with_reducible refine (escape_Quote.calls _ _ t359 t364 _ ?side1 ?side2 ?side3 A37.out).mono ?_); (case side1 => exact Globs.below HG.out (by repeat (first | (with_reducible first | exact HB.out | apply below_alloc | apply pw_below_drewN | apply below_drew1) | exact HB.out))); (case side2 => repeat (first | exact (Kd.R_reads' HO363.out).2.2 | (with_reducible refine Kd.C_alloc ?_ _) | (with_reducible refine Kd.C_drewN ?_ _) | (with_reducible refine Kd.C_drew ?_))); (case side3 => exact (Kd.R_reads' HO363.out).2.1); rintro e w39 ⟨rfl, hb⟩; have n0_ := Aside0.mk (Kd.R_below (by (with_reducible repeat (first | apply Kd.R_alloc | apply Kd.R_drewN | apply Kd.R_drew)); exact HO363.out) hb); have n1_ := Aside0.mk (below_step (by repeat (first | (with_reducible first | exact HB.out | apply below_alloc | apply pw_below_drewN | apply below_drew1) | exact HB.out)) hb); clear HO363; clear HB; have HO363 := n0_; have HB := n1_; clear n0_ n1_; (try clear hb); (try clear hb2); (try clear hk); (try clear hi)))
              go_meet
              case rel => exact ⟨_, ((t364.toList != a1.toList)), (by first | rfl | (simp; done) | (simp [*]; done)), H', ⟨by have := HJ10.out; first | omega | exact Nat.le_refl _⟩, ⟨by (with_reducible repeat (first | apply Kd.R_alloc | apply Kd.R_drewN | apply Kd.R_drew)); exact HO363.out⟩, ⟨by repeat (first | (with_reducible first | exact HB.out | apply below_alloc | apply pw_below_drewN | apply below_drew1) | exact HB.out)⟩⟩
            · rw [if_neg c36] at H
              have c36b0 : (t361 == 0) = false := beq_eq_false_iff_ne.mpr c36
              have c36b1 : (t361 != 0) = true := bne_iff_ne.mpr c36
              (first | rw [c36b0] | (simp only [i64_w, i32_w]; rw [c36b0]) | skip)
              have H' := Aside0.mk H
              clear H
              go_wp2
              go_meet
              case rel => exact ⟨_, (false), (by first | rfl | (simp; done) | (simp [*]; done)), H', ⟨by have := HJ10.out; first | omega | exact Nat.le_refl _⟩, ⟨by (with_reducible repeat (first | apply Kd.R_alloc | apply Kd.R_drewN | apply Kd.R_drew)); exact HO363.out⟩, ⟨by repeat (first | (with_reducible first | exact HB.out | apply below_alloc | apply pw_below_drewN | apply below_drew1) | exact HB.out)⟩⟩
          case rest =>
            clear HC34
            try clear c1
            try clear c2
            try clear p2
            try clear hcv2
            try clear c3
            try clear hcv3
            try clear c4
            try clear c7
            try clear c11
            try clear c12
            try clear c13
            try clear c15
            try clear c16
            try clear c18
            try clear c21
            try clear c21b0
            try clear c21b1
            try clear c22
            try clear c22b0
            try clear c22b1
            try clear c23
            try clear c23b0
            try clear c23b1
            try clear c24
            try clear c24b0
            try clear c24b1
            try clear c25
            try clear c25b0
            try clear c25b1
            try clear hcv26
            try clear hcv27
            try clear hcv28
            try clear hcv29
            try clear hcv30
            try clear hcv31
            try clear c32
            try clear c36
            try clear c36b0
            try clear c36b1
            try clear p2
            obtain ⟨kq, x70_33, rfl, HA, HJ33, HO_5, HB⟩ := hcut
            cases kq with
            | zero => exact absurd HA.out (by simp [galleylaw23_EscapeBack.j1])
            | succ kj33 =>
              have H := HA.out
              clear HA
              simp only [galleylaw23_EscapeBack.j1] at H
              by_cases c40 : x70_33 = true
              · subst c40
                have H1 : (some false) = some r := by rw [if_pos rfl] at H; exact H
                clear H
                have H := H1
                clear H1
                obtain rfl := Option.some.inj H
                go_wp2
                go_ret
                exact ⟨by first | rfl | (simp [errW_none, errW_some] <;> rfl) | (simp [*, errW_none, errW_some] <;> rfl), by repeat (first | (with_reducible first | exact HB.out | apply below_alloc | apply pw_below_drewN | apply below_drew1) | exact HB.out)⟩
              · replace c40 := Bool.eq_false_iff.mpr c40
                subst c40
                have H1 : (if t361 = 0 then (galleylaw23_EscapeBack.j2 kj33 a1 false) else (if (t359.length : Int) = 0 then (if t360 < 0 then (galleylaw23_EscapeBack.j2 kj33 a1 true) else (galleylaw23_EscapeBack.j2 kj33 a1 (decide (t360 ≥ (a1.size : Int))))) else (galleylaw23_EscapeBack.j2 kj33 a1 true))) = some r := by rw [if_neg (show ¬ (false = true) by decide)] at H; exact H
                clear H
                have H := H1
                clear H1
                have HC41 := Aside0.mk H
                clear H
                go_upto_region 10 with (fail)
                go_cut [87] (fun v87 wc => ∃ (kq : Nat) (x87_40 : Bool), v87 = .bool x87_40 ∧ Aside0 (galleylaw23_EscapeBack.j2 kq a1 x87_40 = some r) ∧ Aside0 (kq ≤ kj33) ∧ Aside0 (Below w.heap.size w wc))
                case first =>
                  have H := HC41.out
                  clear HC41
                  by_cases c42 : t361 = 0
                  · rw [if_pos c42] at H
                    have c42b0 : (t361 == 0) = true := beq_iff_eq.mpr c42
                    have c42b1 : (t361 != 0) = false := bne_eq_false_iff_eq.mpr c42
                    clear c42
                    (first | rw [c42b0] | (simp only [i64_w, i32_w]; rw [c42b0]) | skip)
                    have H' := Aside0.mk H
                    clear H
                    go_wp2
                    go_meet
                    case rel => exact ⟨_, (false), (by first | rfl | (simp; done) | (simp [*]; done)), H', ⟨by have := HJ10.out; have := HJ33.out; first | omega | exact Nat.le_refl _⟩, ⟨by repeat (first | (with_reducible first | exact HB.out | apply below_alloc | apply pw_below_drewN | apply below_drew1) | exact HB.out)⟩⟩
                  · rw [if_neg c42] at H
                    have c42b0 : (t361 == 0) = false := beq_eq_false_iff_ne.mpr c42
                    have c42b1 : (t361 != 0) = true := bne_iff_ne.mpr c42
                    (first | rw [c42b0] | (simp only [i64_w, i32_w]; rw [c42b0]) | skip)
                    by_cases c43 : (t359.length : Int) = 0
                    · rw [if_pos c43] at H
                      have c43b0 : ((t359.length : Int) == 0) = true := beq_iff_eq.mpr c43
                      have c43b1 : ((t359.length : Int) != 0) = false := bne_eq_false_iff_eq.mpr c43
                      clear c43
                      by_cases c44 : t360 < 0
                      · rw [if_pos c44] at H
                        have c44b0 : decide (t360 < 0) = true := decide_eq_true c44
                        clear c44
                        have H' := Aside0.mk H
                        clear H
                        obtain ⟨Ao45, co45, eo45⟩ := Kd.R_slice HO_5.out
                        subst eo45
                        go_wp2
                        go_meet
                        case rel => exact ⟨_, (true), (by first | rfl | (simp; done) | (simp [*]; done)), H', ⟨by have := HJ10.out; have := HJ33.out; first | omega | exact Nat.le_refl _⟩, ⟨by repeat (first | (with_reducible first | exact HB.out | apply below_alloc | apply pw_below_drewN | apply below_drew1) | exact HB.out)⟩⟩
                      · rw [if_neg c44] at H
                        have c44b0 : decide (t360 < 0) = false := decide_eq_false c44
                        clear c44
                        have H' := Aside0.mk H
                        clear H
                        obtain ⟨Ao46, co46, eo46⟩ := Kd.R_slice HO_5.out
                        subst eo46
                        go_wp2
                        go_meet
                        case rel => exact ⟨_, (decide (t360 ≥ (a1.size : Int))), (by first | rfl | (simp; done) | (simp [*]; done)), H', ⟨by have := HJ10.out; have := HJ33.out; first | omega | exact Nat.le_refl _⟩, ⟨by repeat (first | (with_reducible first | exact HB.out | apply below_alloc | apply pw_below_drewN | apply below_drew1) | exact HB.out)⟩⟩
                    · rw [if_neg c43] at H
                      have c43b0 : ((t359.length : Int) == 0) = false := beq_eq_false_iff_ne.mpr c43
                      have c43b1 : ((t359.length : Int) != 0) = true := bne_iff_ne.mpr c43
                      have c43b2 : ¬ (t359 = []) := fun h_ => c43 (by rw [h_]; rfl)
                      have H' := Aside0.mk H
                      clear H
                      obtain ⟨Ao47, co47, eo47⟩ := Kd.R_slice HO_5.out
                      subst eo47
                      go_wp2
                      go_meet
                      case rel => exact ⟨_, (true), (by first | rfl | (simp; done) | (simp [*]; done)), H', ⟨by have := HJ10.out; have := HJ33.out; first | omega | exact Nat.le_refl _⟩, ⟨by repeat (first | (with_reducible first | exact HB.out | apply below_alloc | apply pw_below_drewN | apply below_drew1) | exact HB.out)⟩⟩
                case rest =>
                  clear HC41
                  try clear c1
                  try clear c2
                  try clear p2
                  try clear hcv2
                  try clear c3
                  try clear hcv3
                  try clear c4
                  try clear c7
                  try clear c11
                  try clear c12
                  try clear c13
                  try clear c15
                  try clear c16
                  try clear c18
                  try clear c21
                  try clear c21b0
                  try clear c21b1
                  try clear c22
                  try clear c22b0
                  try clear c22b1
                  try clear c23
                  try clear c23b0
                  try clear c23b1
                  try clear c24
                  try clear c24b0
                  try clear c24b1
                  try clear c25
                  try clear c25b0
                  try clear c25b1
                  try clear hcv26
                  try clear hcv27
                  try clear hcv28
                  try clear hcv29
                  try clear hcv30
                  try clear hcv31
                  try clear c32
                  try clear c36
                  try clear c36b0
                  try clear c36b1
                  try clear c40
                  try clear c42
                  try clear c42b0
                  try clear c42b1
                  try clear c43
                  try clear c43b0
                  try clear c43b1
                  try clear c43b2
                  try clear c44
                  try clear c44b0
                  try clear p2
                  obtain ⟨kq, x87_40, rfl, HA, HJ40, HB⟩ := hcut
                  cases kq with
                  | zero => exact absurd HA.out (by simp [galleylaw23_EscapeBack.j2])
                  | succ kj40 =>
                    have H := HA.out
                    clear HA
                    simp only [galleylaw23_EscapeBack.j2] at H
                    by_cases c48 : x87_40 = true
                    · subst c48
                      have H1 : (some false) = some r := by rw [if_pos rfl] at H; exact H
                      clear H
                      have H := H1
                      clear H1
                      obtain rfl := Option.some.inj H
                      go_wp2
                      go_ret
                      exact ⟨by first | rfl | (simp [errW_none, errW_some] <;> rfl) | (simp [*, errW_none, errW_some] <;> rfl), by repeat (first | (with_reducible first | exact HB.out | apply below_alloc | apply pw_below_drewN | apply below_drew1) | exact HB.out)⟩
                    · replace c48 := Bool.eq_false_iff.mpr c48
                      subst c48
                      have H1 : ((escape_Unhex.f kj40 a1).bind fun bt365 => (if bt365.2.2 = 0 then ((escape_Hex.f kj40 bt365.1).bind fun t370 => (some (t370.toList == a1.toList))) else (if (bt365.1.length : Int) = 0 then (if bt365.2.1 ≥ 0 then (some (decide (bt365.2.1 ≤ (a1.size : Int)))) else (some false)) else (some false)))) = some r := by rw [if_neg (show ¬ (false = true) by decide)] at H; exact H
                      clear H
                      have H := H1
                      clear H1
                      replace H := Option.bind_eq_some_iff.mp H
                      obtain ⟨⟨t365, t366, t367⟩, A490, H⟩ := H
                      replace H : (if t367 = 0 then ((escape_Hex.f kj40 t365).bind fun t370 => (some (t370.toList == a1.toList))) else (if (t365.length : Int) = 0 then (if t366 ≥ 0 then (some (decide (t366 ≤ (a1.size : Int)))) else (some false)) else (some false))) = some r := H
                      have A49 := Aside0.mk A490
                      clear A490
                      by_cases c50 : t367 = 0
                      · rw [if_pos c50] at H
                        have c50b0 : (t367 == 0) = true := beq_iff_eq.mpr c50
                        have c50b1 : (t367 != 0) = false := bne_eq_false_iff_eq.mpr c50
                        clear c50
                        replace H := Option.bind_eq_some_iff.mp H
                        obtain ⟨t370, A510, H⟩ := H
                        replace H : (some (t370.toList == a1.toList)) = some r := H
                        have A51 := Aside0.mk A510
                        clear A510
                        obtain rfl := Option.some.inj H
                        go_wp2_with (first | ((with_reducible refine gate_callee (f := 18) rfl ?_); refine goesL_ (some 90) rfl rfl Tryd.func18 (by kernel_rfl) rfl #[.string a1] rfl (by (try simp only [List.map_toArray, List.map_cons, List.map_nil]); first | done | rfl | (simp only [List.length_drop, List.length_take]; rfl)) ?_; (with_reducible refine (escape_Unhex.calls kj40 a1 t365 t366 t367 _ A49.out).mono ?_); rintro e w52 ⟨v368, rfl, ho0, hb⟩; refine ⟨_, rfl, ?_⟩; have n0_ := Aside0.mk (Kd.R_lower ho0 (below_size (by repeat (first | (with_reducible first | exact HB.out | apply below_alloc | apply pw_below_drewN | apply below_drew1) | exact HB.out)))); have n1_ := Aside0.mk (below_step (by repeat (first | (with_reducible first | exact HB.out | apply below_alloc | apply pw_below_drewN | apply below_drew1) | exact HB.out)) hb); clear HB; have HO369 := n0_; have HB := n1_; clear n0_ n1_; (try clear hb); (try clear hb2); (try clear hk); (try clear hi); (try clear ho0); obtain ⟨Ao53, co53, eo53⟩ := Kd.R_slice HO369.out; subst eo53) | ((with_reducible refine gate_callee (f := 16) rfl ?_); refine goesL_ (some 97) rfl rfl Tryd.func16 (by kernel_rfl) rfl #[.slice Ao53 t365.length co53] rfl (by (try simp only [List.map_toArray, List.map_cons, List.map_nil]); first | done | rfl | (simp only [List.length_drop, List.length_take]; rfl)) ?_; (with_reducible refine (escape_Hex.calls kj40 _ _ t365 t370 _ ?side1 ?side2 A51.out).mono ?_); (case side1 => repeat (first | exact (Kd.R_reads' HO369.out).2.2 | (with_reducible refine Kd.C_alloc ?_ _) | (with_reducible refine Kd.C_drewN ?_ _) | (with_reducible refine Kd.C_drew ?_))); (case side2 => exact (Kd.R_reads' HO369.out).2.1); rintro e w54 ⟨rfl, hb⟩; refine ⟨_, rfl, ?_⟩; have n0_ := Aside0.mk (Kd.R_below (by (with_reducible repeat (first | apply Kd.R_alloc | apply Kd.R_drewN | apply Kd.R_drew)); exact HO369.out) hb); have n1_ := Aside0.mk (below_step (by repeat (first | (with_reducible first | exact HB.out | apply below_alloc | apply pw_below_drewN | apply below_drew1) | exact HB.out)) hb); clear HO369; clear HB; have HO369 := n0_; have HB := n1_; clear n0_ n1_; (try clear hb); (try clear hb2); (try clear hk); (try clear hi)))
                        go_ret
                        exact ⟨by first | rfl | (simp [errW_none, errW_some] <;> rfl) | (simp [*, errW_none, errW_some] <;> rfl), by repeat (first | (with_reducible first | exact HB.out | apply below_alloc | apply pw_below_drewN | apply below_drew1) | exact HB.out)⟩
                      · rw [if_neg c50] at H
                        have c50b0 : (t367 == 0) = false := beq_eq_false_iff_ne.mpr c50
                        have c50b1 : (t367 != 0) = true := bne_iff_ne.mpr c50
                        by_cases c55 : (t365.length : Int) = 0
                        · rw [if_pos c55] at H
                          have c55b0 : ((t365.length : Int) == 0) = true := beq_iff_eq.mpr c55
                          have c55b1 : ((t365.length : Int) != 0) = false := bne_eq_false_iff_eq.mpr c55
                          clear c55
                          by_cases c56 : t366 ≥ 0
                          · rw [if_pos c56] at H
                            have c56b0 : decide (0 ≤ t366) = true := decide_eq_true c56
                            clear c56
                            obtain rfl := Option.some.inj H
                            go_wp2_with (first | ((with_reducible refine gate_callee (f := 18) rfl ?_); refine goesL_ (some 90) rfl rfl Tryd.func18 (by kernel_rfl) rfl #[.string a1] rfl (by (try simp only [List.map_toArray, List.map_cons, List.map_nil]); first | done | rfl | (simp only [List.length_drop, List.length_take]; rfl)) ?_; (with_reducible refine (escape_Unhex.calls kj40 a1 t365 t366 t367 _ A49.out).mono ?_); rintro e w57 ⟨v368, rfl, ho0, hb⟩; refine ⟨_, rfl, ?_⟩; have n0_ := Aside0.mk (Kd.R_lower ho0 (below_size (by repeat (first | (with_reducible first | exact HB.out | apply below_alloc | apply pw_below_drewN | apply below_drew1) | exact HB.out)))); have n1_ := Aside0.mk (below_step (by repeat (first | (with_reducible first | exact HB.out | apply below_alloc | apply pw_below_drewN | apply below_drew1) | exact HB.out)) hb); clear HB; have HO369 := n0_; have HB := n1_; clear n0_ n1_; (try clear hb); (try clear hb2); (try clear hk); (try clear hi); (try clear ho0); obtain ⟨Ao58, co58, eo58⟩ := Kd.R_slice HO369.out; subst eo58))
                            go_ret
                            exact ⟨by first | rfl | (simp [errW_none, errW_some] <;> rfl) | (simp [*, errW_none, errW_some] <;> rfl), by repeat (first | (with_reducible first | exact HB.out | apply below_alloc | apply pw_below_drewN | apply below_drew1) | exact HB.out)⟩
                          · rw [if_neg c56] at H
                            have c56b0 : decide (0 ≤ t366) = false := decide_eq_false c56
                            clear c56
                            obtain rfl := Option.some.inj H
                            go_wp2_with (first | ((with_reducible refine gate_callee (f := 18) rfl ?_); refine goesL_ (some 90) rfl rfl Tryd.func18 (by kernel_rfl) rfl #[.string a1] rfl (by (try simp only [List.map_toArray, List.map_cons, List.map_nil]); first | done | rfl | (simp only [List.length_drop, List.length_take]; rfl)) ?_; (with_reducible refine (escape_Unhex.calls kj40 a1 t365 t366 t367 _ A49.out).mono ?_); rintro e w59 ⟨v368, rfl, ho0, hb⟩; refine ⟨_, rfl, ?_⟩; have n0_ := Aside0.mk (Kd.R_lower ho0 (below_size (by repeat (first | (with_reducible first | exact HB.out | apply below_alloc | apply pw_below_drewN | apply below_drew1) | exact HB.out)))); have n1_ := Aside0.mk (below_step (by repeat (first | (with_reducible first | exact HB.out | apply below_alloc | apply pw_below_drewN | apply below_drew1) | exact HB.out)) hb); clear HB; have HO369 := n0_; have HB := n1_; clear n0_ n1_; (try clear hb); (try clear hb2); (try clear hk); (try clear hi); (try clear ho0); obtain ⟨Ao60, co60, eo60⟩ := Kd.R_slice HO369.out; subst eo60))
                            go_ret
                            exact ⟨by first | rfl | (simp [errW_none, errW_some] <;> rfl) | (simp [*, errW_none, errW_some] <;> rfl), by repeat (first | (with_reducible first | exact HB.out | apply below_alloc | apply pw_below_drewN | apply below_drew1) | exact HB.out)⟩
                        · rw [if_neg c55] at H
                          have c55b0 : ((t365.length : Int) == 0) = false := beq_eq_false_iff_ne.mpr c55
                          have c55b1 : ((t365.length : Int) != 0) = true := bne_iff_ne.mpr c55
                          have c55b2 : ¬ (t365 = []) := fun h_ => c55 (by rw [h_]; rfl)
                          obtain rfl := Option.some.inj H
                          go_wp2_with (first | ((with_reducible refine gate_callee (f := 18) rfl ?_); refine goesL_ (some 90) rfl rfl Tryd.func18 (by kernel_rfl) rfl #[.string a1] rfl (by (try simp only [List.map_toArray, List.map_cons, List.map_nil]); first | done | rfl | (simp only [List.length_drop, List.length_take]; rfl)) ?_; (with_reducible refine (escape_Unhex.calls kj40 a1 t365 t366 t367 _ A49.out).mono ?_); rintro e w61 ⟨v368, rfl, ho0, hb⟩; refine ⟨_, rfl, ?_⟩; have n0_ := Aside0.mk (Kd.R_lower ho0 (below_size (by repeat (first | (with_reducible first | exact HB.out | apply below_alloc | apply pw_below_drewN | apply below_drew1) | exact HB.out)))); have n1_ := Aside0.mk (below_step (by repeat (first | (with_reducible first | exact HB.out | apply below_alloc | apply pw_below_drewN | apply below_drew1) | exact HB.out)) hb); clear HB; have HO369 := n0_; have HB := n1_; clear n0_ n1_; (try clear hb); (try clear hb2); (try clear hk); (try clear hi); (try clear ho0); obtain ⟨Ao62, co62, eo62⟩ := Kd.R_slice HO369.out; subst eo62))
                          go_ret
                          exact ⟨by first | rfl | (simp [errW_none, errW_some] <;> rfl) | (simp [*, errW_none, errW_some] <;> rfl), by repeat (first | (with_reducible first | exact HB.out | apply below_alloc | apply pw_below_drewN | apply below_drew1) | exact HB.out)⟩
  · replace c4 := Bool.eq_false_iff.mpr c4
    subst c4
    have H1 : (some false) = some r := by rw [if_neg (show ¬ (false = true) by decide)] at H; exact H
    clear H
    have H := H1
    clear H1
    obtain rfl := Option.some.inj H
    go_enter Tryd.func7, Tryd.ntmps7
    go_wp2_with (first | ((with_reducible refine gate_callee (f := 11) rfl ?_); refine goesL_ (some 11) rfl rfl Tryd.func11 (by kernel_rfl) rfl #[] rfl (by (try simp only [List.map_toArray, List.map_cons, List.map_nil]); first | done | rfl | (simp only [List.length_drop, List.length_take]; rfl)) ?_; (with_reducible refine (galleylaw23_awake.calls k  false _ ?side1 A3.out).mono ?_); (case side1 => exact Globs.below HG.out (by repeat (first | (with_reducible first | exact HB.out | apply below_alloc | apply pw_below_drewN | apply below_drew1) | exact HB.out))); rintro e w63 ⟨rfl, hb⟩; refine ⟨_, rfl, ?_⟩; have n0_ := Aside0.mk (below_step (by repeat (first | (with_reducible first | exact HB.out | apply below_alloc | apply pw_below_drewN | apply below_drew1) | exact HB.out)) hb); clear HB; have HB := n0_; clear n0_; (try clear hb); (try clear hb2); (try clear hk); (try clear hi)))
    go_ret
    exact ⟨by first | rfl | (simp [errW_none, errW_some] <;> rfl) | (simp [*, errW_none, errW_some] <;> rfl), by repeat (first | (with_reducible first | exact HB.out | apply below_alloc | apply pw_below_drewN | apply below_drew1) | exact HB.out)⟩

/-- THE ONE PURE STATEMENT of galleylaw23_EscapeBack: yours. -/
def galleylaw23_EscapeBack.Pure : Prop := ∀ (l0 : List Int) (a1 : ByteArray), l0.length ≤ maxLen → l0.length * 1 ≤ 140737488351232 → (∀ x ∈ l0, (Lit.int .u8 x).wf = true) → a1.size ≤ 140737488351232 → ∃ k, galleylaw23_EscapeBack.f k l0 a1 = some true
theorem galleylaw23_EscapeBack.walk (P : galleylaw23_EscapeBack.Pure) (a0 : Option Addr) (len0 cap0 : Nat) (z0 : List Int) (a1 : ByteArray) (w : World) (hG : Globs w) (w0 : (a0 = none ∧ len0 = 0 ∧ cap0 = 0 ∧ z0 = []) ∨ ∃ x, a0 = some x ∧ len0 ≤ cap0 ∧ cap0 ≤ maxLen ∧ z0.length = cap0 ∧ (∀ i, i < z0.length → w.cell? (x.add i) = some (.int .u8 (z0.getD i 0))) ∧ ∀ n ∈ z0, (Lit.int .u8 n).wf = true) (y0 : len0 * 1 ≤ 140737488351232) (w1 : a1.size ≤ 140737488351232) :
    Calls Tryd.prog 7 #[.slice a0 len0 cap0, .string a1] w fun e w' => e = .returned (.bool true) ∧ Below w.heap.size w w' := by
  obtain ⟨l0, rfl, hr0, hm0, hw0, hc0⟩ := ReadsInt.ofRowC w0
  obtain ⟨k, h⟩ := P l0 a1 hm0 y0 hw0 w1
  refine (galleylaw23_EscapeBack.calls k _ _ l0 a1 true w hG (Kd.C_of_reads (d := (0 : Int)) (h1 := fun _ => rfl) hr0) hc0 h).mono ?_
  rintro e w' ⟨rfl, hd⟩
  exact ⟨rfl, hd⟩

end Go.Proofs.YtflddgoapibleaaDoor.Esc

namespace Go.Proofs.YtflddgoapibleaaDoor.Hand
open Go.RowKit Go.Proofs.YtflddgoapibleaaDoor.Esc Go.Proofs.YtflddgoapibleaaDoorW.PrintWords Go.Proofs.YtflddgoapibleaaDoorW.PrintLast Go.Proofs.YtflddgoapibleaaDoorW.PrintMore

theorem quoteB_f (l : List Int) (hb : Bytes l) (h : l.length ≤ 1073741824) : escape_Quote.f l = some (strOfNums (quo l)) := by
  unfold escape_Quote.f; rw [if_pos ⟨hb, h⟩]
theorem quo_ge (l : List Int) : Bytes l → l.length ≤ (quo l).length := by
  induction l using steps_ind with
  | h0 => intro _; simp
  | h1 l h ih =>
    intro hb
    have h1 := piece_pc l [] hb h
    have hp := pc_pos l hb h
    have hp0 : ¬ (pieceL (pc l ++ [])).2 = 0 := by rw [h1]; show ¬ ((pc l).length : Int) = 0; omega
    have hsz := ((piece_is (pc l ++ [])).resolve_left (fun e => hp0 (by rw [e]))).size
    rw [h1] at hsz
    have h2 := hsz.2.2.1
    simp only [List.length_take] at h2
    have h3 := ih (bytes_of_drop hb _)
    rw [List.length_drop] at h3
    have h4 := dec_le l h
    rw [quo_cons' l h, List.length_append]; omega
theorem digs_hexL : ∀ (b : List Int), Bytes b → ∀ x ∈ hexL b, 0 ≤ dig x := by
  intro b
  induction b with
  | nil => intro _ x hx; simp [hexL] at hx
  | cons a t ih =>
    intro hb x hx
    have ha := hb a List.mem_cons_self
    rw [hexL_cons] at hx
    rcases List.mem_cons.1 hx with rfl | hx
    · rw [dig_hexDigit _ (by omega) (by omega)]; omega
    rcases List.mem_cons.1 hx with rfl | hx
    · rw [dig_hexDigit _ (by omega) (by omega)]; omega
    · exact ih (fun y hy => hb y (List.mem_cons_of_mem _ hy)) x hx
theorem pairs_hexL : ∀ (b : List Int), Bytes b → pairs (hexL b) = b := by
  intro b
  induction b with
  | nil => intro _; rfl
  | cons a t ih =>
    intro hb
    have ha := hb a List.mem_cons_self
    rw [hexL_cons, pairs, dig_hexDigit _ (by omega) (by omega), dig_hexDigit _ (by omega) (by omega), ih (fun y hy => hb y (List.mem_cons_of_mem _ hy))]
    congr 1; omega
theorem unhex_hex (b : List Int) (hb : Bytes b) : unhexL (hexL b) = (b, 0, 0) := by
  unfold unhexL
  rw [if_neg ((firstBad_neg _ 0 (by decide)).2 (digs_hexL b hb)), if_pos (by rw [hexL_len]; omega), pairs_hexL b hb]
theorem hexL_pairs : ∀ (n : Nat) (t : List Int), t.length = 2 * n → (∀ x ∈ t, 0 ≤ dig x) → hexL (pairs t) = t ∧ Bytes (pairs t) ∧ (pairs t).length = n := by
  intro n
  induction n with
  | zero => intro t h _; obtain rfl := List.eq_nil_of_length_eq_zero (by omega : t.length = 0); exact ⟨rfl, fun x hx => by simp [pairs] at hx, rfl⟩
  | succ n ih =>
    intro t h hd
    match t, h, hd with
    | a :: b :: t, h, hd =>
      have h1 := hd a List.mem_cons_self
      have h2 := hd b (List.mem_cons_of_mem _ List.mem_cons_self)
      have r1 := dig_range' a
      have r2 := dig_range' b
      obtain ⟨i1, i2, i3⟩ := ih t (by simp at h; omega) (fun x hx => hd x (List.mem_cons_of_mem _ (List.mem_cons_of_mem _ hx)))
      have e1 : (16 * dig a + dig b) / 16 = dig a := by omega
      have e2 : (16 * dig a + dig b) % 16 = dig b := by omega
      rw [pairs, hexL_cons, e1, e2, hexDigit_dig a h1, hexDigit_dig b h2, i1]
      refine ⟨rfl, fun x hx => ?_, by simp only [List.length_cons, i3]⟩
      rcases List.mem_cons.1 hx with rfl | hx
      · omega
      · exact i2 x hx
    | [a], h, _ => simp at h; omega
theorem back_j2 (k : Nat) (s : ByteArray) (hs : s.size ≤ 1048576) (hk : 3000000 < k) : galleylaw23_EscapeBack.j2 k s false = some true := by
  obtain ⟨k, rfl⟩ : ∃ k', k = k' + 1 := ⟨k - 1, by omega⟩
  have hl := bytesOf_length s
  rw [galleylaw23_EscapeBack.j2, if_neg (by simp), unhex_f s (by omega) k (by omega), Option.bind_some]
  have hfb := firstBad_le (bytesOf s) 0 (by decide)
  unfold unhexL
  by_cases h1 : 0 ≤ firstBad 0 (bytesOf s)
  · rw [if_pos h1]
    rw [if_neg (show ¬ (230 : Int) = 0 by decide), if_pos (show (([] : List Int).length : Int) = 0 from rfl), if_pos (show firstBad 0 (bytesOf s) ≥ 0 from h1)]
    congr 1
    apply decide_eq_true
    show firstBad 0 (bytesOf s) ≤ _
    omega
  · rw [if_neg h1]
    have hd := (firstBad_neg (bytesOf s) 0 (by decide)).1 h1
    by_cases h2 : ((bytesOf s).length : Int) % 2 = 0
    · rw [if_pos h2]
      obtain ⟨i1, i2, i3⟩ := hexL_pairs ((bytesOf s).length / 2) (bytesOf s) (by omega) hd
      rw [if_pos rfl]
      show (escape_Hex.f k (pairs (bytesOf s))).bind _ = _
      rw [hex_f k _ i2 (by omega) (by omega), Option.bind_some, i1, str_bytesOf]
      simp
    · rw [if_neg h2]
      rw [if_neg (show ¬ (230 : Int) = 0 by decide), if_pos (show (([] : List Int).length : Int) = 0 from rfl), if_pos (show ((bytesOf s).length : Int) ≥ 0 by omega)]
      congr 1
      apply decide_eq_true
      show ((bytesOf s).length : Int) ≤ _
      omega
theorem back_j0 (k : Nat) (s : ByteArray) (hs : s.size ≤ 1048576) (hk : 5000000 < k) : galleylaw23_EscapeBack.j0 k s false = some true := by
  obtain ⟨k, rfl⟩ : ∃ k', k = k' + 1 := ⟨k - 1, by omega⟩
  have hl := bytesOf_length s
  rw [galleylaw23_EscapeBack.j0, if_neg (by simp), unq_f s (by omega) k (by omega), Option.bind_some]
  have e1 : unqL (s.size + 1) [] [] 0 (bytesOf s) = unqL ((bytesOf s).length + 1) [] [] 0 (bytesOf s) := by rw [hl]
  rw [e1]
  obtain ⟨j, rfl⟩ : ∃ j, k = j + 1 := ⟨k - 1, by omega⟩
  by_cases h0 : (unqL ((bytesOf s).length + 1) [] [] 0 (bytesOf s)).2.2 = 0
  · obtain ⟨hq, hb⟩ := unq_one (bytesOf s) h0
    have hge := quo_ge _ hb
    rw [hq] at hge
    rw [if_pos h0, quoteB_f _ hb (by omega), Option.bind_some, hq, str_bytesOf]
    have hne : (s.toList != s.toList) = false := bne_eq_false_iff_eq.2 rfl
    rw [hne, galleylaw23_EscapeBack.j1, if_neg (by simp), if_pos h0]
    exact back_j2 j s hs (by omega)
  · rcases unq_shape ((bytesOf s).length + 1) [] [] 0 (bytesOf s) (by omega) (by decide) (fun s hs => by simp at hs) with ⟨_, h⟩ | ⟨h1, h2, h3, h4⟩
    · exact absurd h h0
    · rw [if_neg h0, galleylaw23_EscapeBack.j1, if_neg (by simp), if_neg h0, h1, if_pos (show (([] : List Int).length : Int) = 0 from rfl), if_neg (by omega), decide_eq_false (by omega)]
      exact back_j2 j s hs (by omega)
theorem back_pure (l : List Int) (s : ByteArray) (hb : Bytes l) (h : l.length ≤ 1048576) (hs : s.size ≤ 1048576) : galleylaw23_EscapeBack.f 60000000 l s = some true := by
  have hq := quo_len l
  have hbq := prints_bytes (quo_print l hb)
  have hbh := prints_bytes (hexL_print l hb)
  have hhl := hexL_len l
  have s1 : (strOfNums (quo l)).size = (quo l).length := strOfNums_size _
  have s2 : (strOfNums (hexL l)).size = (hexL l).length := strOfNums_size _
  unfold galleylaw23_EscapeBack.f
  rw [show galleylaw23_awake.f 60000000 = some true from rfl, Option.bind_some, if_pos rfl, own_f l (by omega), Option.bind_some, quoteB_f l hb (by omega), Option.bind_some]
  rw [unq_f _ (by omega) 60000000 (by omega), Option.bind_some, bytesOf_str _ hbq, s1, unq_back l hb, Option.bind_some, hex_f 60000000 l hb (by omega) (by omega), Option.bind_some]
  rw [unhex_f _ (by omega) 60000000 (by omega), Option.bind_some, bytesOf_str _ hbh, unhex_hex l hb]
  rw [if_pos rfl, if_pos rfl, if_pos rfl, if_pos rfl, if_pos rfl]
  have hne : ((strOfNums l).toList != (strOfNums l).toList) = false := bne_eq_false_iff_eq.2 rfl
  show galleylaw23_EscapeBack.j0 60000000 s ((strOfNums l).toList != (strOfNums l).toList) = _
  rw [hne]
  exact back_j0 60000000 s hs (by decide)
end Go.Proofs.YtflddgoapibleaaDoor.Hand

namespace Go.Proofs.YtflddgoapibleaaDoor.escapeBack
open Go.ChangeShapes Go.WideShapes Go.ChangeAt Go.RowKit Go.Proofs.YtflddgoapibleaaDoor.Hand Go.Proofs.YtflddgoapibleaaDoor.Esc Go.Proofs.YtflddgoapibleaaDoorW.PrintWords
open Go.ChangeMaps (open_string shut_string)
set_option linter.unusedVariables false
theorem reads (os : Os) {H : Type} (enc : TypeId × Value → H) : ∃ places, DataW.whole enc Tryd.prog ((World.doorLaid Tryd.prog 4000 os).forCall (fun _ _ => 0) ⟨#[], #[.slice none 0 0, .string ByteArray.empty], []⟩).memory Tryd.f7.params.toList Rows.escapeBackSpec.vars false (#[.slice none 0 0, .string ByteArray.empty] : Array Value).toList 8 = some ([.nil, .lit (.string [])], [], places) :=
  ⟨[], by kernel_rfl⟩
theorem door_met (os : Os) : laidMetH Tryd.prog laidList ((World.doorLaid Tryd.prog 4000 os).forCall (fun _ _ => 0) ⟨#[], #[.slice none 0 0, .string ByteArray.empty], []⟩).memory :=
  laidMetH_of_parts3 (fuel := 8) (laidMet_of_run' 8 (by kernel_rfl) (by kernel_rfl)) (by kernel_rfl) (by kernel_rfl)
theorem contract (H : Type) (enc : TypeId × Value → H) (W : World) (base : Nat) (args : Array Value) (ds gs : List (DataW H)) (before : List MemPlace)
    (hval0 : ∀ (j : Nat) t v, Tryd.f7.params[j]? = some t → args[j]? = some v → Value.okWide Tryd.prog W .any base t v)
    (hW : DataW.Whole enc Tryd.prog Tryd.f7.params.toList Rows.escapeBackSpec.vars false W args.toList ds gs before) (hL : laidMetH Tryd.prog laidList W) (hk : Rows.uptoSmall H (ds ++ gs) = true) :
    Calls Tryd.prog 7 args W fun e W' => ∃ v, e = .returned v ∧ Rows.escapeBackSpec.post enc Tryd.prog Tryd.f7 false true false false W args v W' := by
  have hG := globs_of_laid hL
  have hval := hval0
  have hW' := hW
  obtain ⟨p, q, hA0, hV, rfl, hfz, hnd⟩ := hW
  have hA : DataW.TrodAll enc Tryd.prog W 0 (fun _ => true) true Tryd.f7.params.toList args.toList ds p := hA0
  rw [Tryd.params7] at hA hval
  obtain ⟨v0, vs0, d0, ds0, p0, q0, hargs, rfl, rfl, h0, r0⟩ := trodAll_cons hA
  obtain ⟨v1, vs1, d1, ds1, p1, q1, rfl, rfl, rfl, h1, r1⟩ := trodAll_cons r0
  obtain ⟨rfl, rfl, rfl⟩ := trodAll_nil r1
  obtain rfl : args = #[v0, v1] := by cases args; simp_all
  obtain ⟨rfl, rfl⟩ := trodVars_none hV
  have hB := bulk_le hk
  simp only [List.append_nil, Rows.uptoBulkAll] at hB
  have k0 := h0
  have lt0 : ∀ x ∈ p0, x.block < W.heap.size := by obtain ⟨m, hm⟩ := k0; exact DataW.trod_lt m _ _ _ hm
  obtain ⟨A0, c0, l0, rfl, hr0, hc0, hb0, hl0⟩ := bytes_open (hval 0 22 v0 rfl rfl) h0
  obtain ⟨s1, rfl, rfl, rfl, hmax1⟩ := open_string Tryd.underlying9 (hval 1 9 v1 rfl rfl) h1
  have hl1 := string_le (H := H) s1
  clear hA0 hval0
  refine (galleylaw23_EscapeBack.calls _ _ _ l0 s1 true W hG (Kd.C_of_reads (d := (0 : Int)) (h1 := fun _ => rfl) hr0) hc0 (back_pure l0 s1 hb0 (by omega) (by omega))).mono fun e W' ⟨he, bel⟩ => ?_
  subst he
  exact ⟨_, rfl, _, _, _, [], _, [], hW', trodAll_mk1 (shut_bool Tryd.underlying4 _), (trodAll_cons_mk (Below.trod laidOut (by kernel_rfl) (of_decide_eq_true (by kernel_rfl)) k0 bel lt0) (trodAll_cons_mk (shut_string Tryd.underlying9 hmax1) trodAll_mk0)), rfl, bel.frame _, fun h => by cases h⟩
set_option maxRecDepth 100000 in
theorem liftedUpto (os : Os) (started : os.Started) (H : Type) (enc : TypeId × Value → H) (F : Stop.Interp) :
    ReturnsInHanded {} Tryd.checked os 7 .any ((Rows.OpenSpec.upto Rows.escapeBackSpec).preRow enc Tryd.prog Tryd.f7 Rows.escapeBackUptoRow.domain false Rows.escapeBackUptoRow.laid) (((Rows.OpenSpec.upto Rows.escapeBackSpec).at F).post enc Tryd.prog Tryd.f7 false true false false) := by
  obtain ⟨places, hx⟩ := reads os enc
  refine returnsInHanded_of_row (C := Tryd.checked) (s := Rows.OpenSpec.upto Rows.escapeBackSpec) own started (by kernel_rfl) Tryd.func7
    (witness_row_atRef (enc := enc) (C := Tryd.checked) false (World.doorLaid Tryd.prog 4000 os) #[.slice none 0 0, .string ByteArray.empty] rfl (by kernel_rfl) (by kernel_rfl) (by kernel_rfl)
      (OpenSpec.preRow_of_cond 8 hx (by kernel_rfl) (fun k hk => by cases hk; kernel_rfl) (by kernel_rfl) (door_met os))) ?_
  intro W base args ds gs before hval hW _ hcond _ hL _ _
  exact contract H enc W base args ds gs before hval hW hL (hcond _ rfl)
theorem saidUpto : Rows.EscapeBackUptoSaid :=
  OpenClaim.holds_of_cond 7 Tryd.f7 rfl rfl rfl rfl rfl rfl rfl ⟨rfl, rfl, rfl, rfl, rfl⟩ rfl rfl rfl rfl rfl (by kernel_rfl) Tryd.func7 (by kernel_rfl)
    (of_decide_eq_true (by kernel_rfl)) (by unfold Func.isWrapper; first | (rw [if_pos (by decide +kernel)]; kernel_rfl) | (rw [if_neg (by decide +kernel)]; exact ⟨rfl, rfl⟩))
    (fun os started H enc _ F => by rw [OpenClaim.pre_eq_preRow]; exact liftedUpto os started H enc F)
theorem plain (f : FuncId) (fn : Func) (hf : Tryd.pinned.checked.prog.funcNamed "galley/galleylaw23.EscapeBack" = some f) (hfn : Tryd.pinned.checked.prog.funcs[f]? = some fn) :
    false = Tryd.pinned.checked.prog.looks [] ∧ ∀ (j : Nat) t, fn.params[j]? = some t → Tryd.pinned.checked.prog.wantsStandIn t = false := by
  obtain rfl : f = 7 := Option.some.inj ((show Tryd.prog.funcNamed "galley/galleylaw23.EscapeBack" = some 7 by kernel_rfl).symm.trans hf) |>.symm
  obtain rfl : fn = Tryd.f7 := (Option.some.inj (Tryd.func7.symm.trans hfn)).symm
  refine ⟨by kernel_rfl, fun j t ht => ?_⟩
  rw [Tryd.params7] at ht
  have hm : t ∈ (#[22, 9] : Array TypeId) := Array.mem_of_getElem? ht
  have ho : t = 22 ∨ t = 9 := by simpa using hm
  rcases ho with rfl | rfl
  · exact (show Tryd.prog.wantsStandIn 22 = false by kernel_rfl)
  · exact (show Tryd.prog.wantsStandIn 9 = false by kernel_rfl)
/-- The card of the second form. -/
theorem cardUpto : Rows.EscapeBackUptoCardSaid :=
  Claim7.holds_tied_plain_at .later [] _ _ _ _ saidUpto (fun _ h => by cases h) (by kernel_rfl) (fun _ h => by cases h) escapeBackUpto_row_tie rfl ⟨rfl, rfl⟩ (by kernel_rfl) rfl plain (by kernel_rfl)
end Go.Proofs.YtflddgoapibleaaDoor.escapeBack
