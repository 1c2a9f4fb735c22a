/- Of bytes b and text s of bulk at most 2^20: Quote, Plain and Hex leave the bytes and their spare room as they are; what is answered is new memory. -/
import Derived.Test.YtflddgoapibleaaDoorVWalk1
import Derived.Test.YtflddgoapibleaaDoorVWalk2
import Derived.Test.YtflddgoapibleaaDoorVWalk4
import Derived.Test.YtflddgoapibleaaDoorVWalk9
import Derived.Test.YtflddgoapibleaaDoorVWalk6
import Derived.Test.YtflddgoapibleaaDoorVPlain4
import Derived.Test.YtflddgoapibleaaDoorVPlain5
import Derived.Test.YtflddgoapibleaaDoorVPlain1
import Derived.Test.YtflddgoapibleaaDoorCards
import Derived.Test.YtflddgoapibleaaDoorTie
set_option linter.unusedVariables false
set_option linter.unusedSimpArgs false
namespace Go.Proofs.YtflddgoapibleaaDoor.Esc
open Go.RowKit Go.Proofs.YtflddgoapibleaaDoor.Hand Go.Proofs.YtflddgoapibleaaDoorW.PrintWords Go.Proofs.YtflddgoapibleaaDoorW.PrintLast Go.Proofs.YtflddgoapibleaaDoorW.PrintMore
attribute [local go_sem] max2_int min2_int max_two min_two max_three min_three max_four min_four
set_option linter.unusedVariables false
set_option linter.unusedSimpArgs false
mutual
def galleylaw23_EscapeOwn.j0 : Nat → List Int → ByteArray → List Int → ByteArray → ByteArray → ByteArray → Bool → Option (Bool)
  | 0, _, _, _, _, _, _, _ => none
  | k + 1, x0, x1, x5, x6, x7, x8, x57 => if x57 = true then (some false) else (galleylaw23_EscapeOwn.l0 k x0 x1 x5 x6 x7 x8 (x5.length : Int) 0)
def galleylaw23_EscapeOwn.l0 : Nat → List Int → ByteArray → List Int → ByteArray → ByteArray → ByteArray → Int → Int → Option (Bool)
  | 0, _, _, _, _, _, _, _, _ => none
  | k + 1, x0, x1, x5, x6, x7, x8, x59, x60 => if x60 < x59 then (if 0 ≤ x60 then (if x60 < (x5.length : Int) then (galleylaw23_EscapeOwn.l0 k x0 x1 (x5.set (x60 : Int).toNat 120) x6 x7 x8 x59 (wrap64 (x60 + 1))) else (none)) else (none)) else ((galleyref23_Quote.f k x0).bind fun t479 => (if x6.toList = t479.toList then ((galleyref23_Plain.f k x0).bind fun t480 => (if x7.toList = t480.toList then ((galleyref23_Hex.f k x0).bind fun t481 => (galleylaw23_EscapeOwn.j2 k x1 (x8.toList != t481.toList))) else (galleylaw23_EscapeOwn.j2 k x1 true))) else (galleylaw23_EscapeOwn.j2 k x1 true)))
def galleylaw23_EscapeOwn.j2 : Nat → ByteArray → Bool → Option (Bool)
  | 0, _, _ => none
  | k + 1, x1, x82 => if x82 = true then (some false) else ((escape_Unquote.f k x1).bind fun bt482 => ((escape_Unquote.f k x1).bind fun bt487 => ((galleyref23_Unquote.f k x1).bind fun bt492 => (galleylaw23_EscapeOwn.l1 k bt482.1 bt487.1 bt492.1 bt492.2.2 (bt482.1.length : Int) 0))))
def galleylaw23_EscapeOwn.l1 : Nat → List Int → List Int → List Int → Int → Int → Int → Option (Bool)
  | 0, _, _, _, _, _, _ => none
  | k + 1, x10, x13, x16, x18, x102, x103 => if x103 < x102 then (if 0 ≤ x103 then (if x103 < (x10.length : Int) then (galleylaw23_EscapeOwn.l1 k (x10.set (x103 : Int).toNat 122) x13 x16 x18 x102 (wrap64 (x103 + 1))) else (none)) else (none)) else (galleylaw23_EscapeOwn.l2 k x10 x13 x16 x18 0)
def galleylaw23_EscapeOwn.l2 : Nat → List Int → List Int → List Int → Int → Int → Option (Bool)
  | 0, _, _, _, _, _ => none
  | k + 1, x10, x13, x16, x18, x20 => if x20 < 20 then (if x10.length < 140737488355328 then (galleylaw23_EscapeOwn.l2 k (x10 ++ [122]) x13 x16 x18 (wrap64 (x20 + 1))) else (none)) else (if (strOfNums x13).toList = (strOfNums x16).toList then (if x18 = 0 then (some true) else (some ((x13.length : Int) == 0))) else (some false))
end
def galleylaw23_EscapeOwn.f (k : Nat) (l0 : List Int) (a1 : ByteArray) : Option (Bool) := (galleylaw23_awake.f k).bind fun t451 => (if t451 = true then ((galleylaw23_own.f l0).bind fun t452 => (if t452.length < 140737488355328 then ((some (t452 ++ [7] : List Int)).bind fun y455 => (if 0 ≤ (l0.length : Int) then (if (l0.length : Int) ≤ (y455.length : Int) then ((escape_Quote.f (y455.take ((l0.length : Int) : Int).toNat)).bind fun t462 => ((escape_Plain.f (y455.take ((l0.length : Int) : Int).toNat)).bind fun t467 => ((escape_Hex.f k (y455.take ((l0.length : Int) : Int).toNat)).bind fun t472 => (if (strOfNums (y455.take ((l0.length : Int) : Int).toNat)).toList = (strOfNums l0).toList then (if (l0.length : Int) < (y455.length : Int) then (galleylaw23_EscapeOwn.j0 k l0 a1 y455 t462 t467 t472 ((rd y455 (l0.length : Int)) != 7)) else (none)) else (galleylaw23_EscapeOwn.j0 k l0 a1 y455 t462 t467 t472 true))))) else (none)) else (none))) else (none))) else (some false))
def galleylaw23_EscapeOwn.T4 : Bool × List (List Nat × List Nat) := (true, [([], []), ([], []), ([1], [1]), ([0, 2], [0, 2]), ([3], [3]), ([], []), ([], []), ([6], [6]), ([5, 7], [5, 7]), ([8, 4], [8]), ([], []), ([], []), ([11], [11]), ([10, 12], [10, 12]), ([13, 9], [13]), ([4, 14, 0, 1, 2, 3, 4], [4]), ([9, 15, 0, 1, 2, 3, 4, 5, 6, 7, 8, 9, 15], [9]), ([14, 16, 0, 1, 2, 3, 4, 5, 6, 7, 8, 9, 10, 11, 12, 13, 14, 15, 16], [14])])
def galleylaw23_EscapeOwn.B4 : List Nat := [0, 0, 2, 7, 15, 0, 0, 64, 224, 511, 0, 0, 2048, 7168, 16383, 32767, 65535, 131071]
theorem galleylaw23_EscapeOwn.tab4 : rtab .any (opsOf Tryd.f10 4) = galleylaw23_EscapeOwn.T4 := by kernel_rfl
theorem galleylaw23_EscapeOwn.bits4 : waitsOk galleylaw23_EscapeOwn.T4.2 galleylaw23_EscapeOwn.B4 = true := by kernel_rfl
def galleylaw23_EscapeOwn.T5 : Bool × List (List Nat × List Nat) := (true, [([], []), ([], []), ([1], [1]), ([0, 2], [0, 2]), ([3], [3]), ([], []), ([5], [5]), ([4, 6], [4, 6]), ([7], [7]), ([8], [8]), ([8], [8]), ([10, 8], [8, 10]), ([9, 11, 8], [8, 9, 11]), ([12, 8], [8, 12]), ([13, 8], [8, 13]), ([8, 14], [8, 14])])
def galleylaw23_EscapeOwn.B5 : List Nat := [0, 0, 2, 7, 15, 0, 32, 127, 255, 511, 511, 1535, 4095, 8191, 16383, 32767]
theorem galleylaw23_EscapeOwn.tab5 : rtab .any (opsOf Tryd.f10 5) = galleylaw23_EscapeOwn.T5 := by kernel_rfl
theorem galleylaw23_EscapeOwn.bits5 : waitsOk galleylaw23_EscapeOwn.T5.2 galleylaw23_EscapeOwn.B5 = true := by kernel_rfl
set_option maxHeartbeats 8000000 in
set_option maxRecDepth 100000 in
theorem galleylaw23_EscapeOwn.calls (k : Nat) (A0 : Option Addr) (c0 : Nat) (l0 : List Int) (a1 : ByteArray) (r : Bool) (w : World) (hG : Globs w) (hr0 : Kd.C (Kd.int .u8) w A0 l0.length l0) (hc0 : l0.length ≤ c0) (h : galleylaw23_EscapeOwn.f k l0 a1 = some r) :
    Calls Tryd.prog 10 #[.slice A0 l0.length c0, .string a1] w fun e w' => e = .returned (.bool r) ∧ Below w.heap.size w w' := by
  have HR0 := Aside0.mk hr0
  have HC0 := Aside0.mk hc0
  clear hr0 hc0
  have HG := Aside0.mk hG
  clear hG
  have HB := Aside0.mk (Below.refl w.heap.size w)
  have H : ((galleylaw23_awake.f k).bind fun t451 => (if t451 = true then ((galleylaw23_own.f l0).bind fun t452 => (if t452.length < 140737488355328 then ((some (t452 ++ [7] : List Int)).bind fun y455 => (if 0 ≤ (l0.length : Int) then (if (l0.length : Int) ≤ (y455.length : Int) then ((escape_Quote.f (y455.take ((l0.length : Int) : Int).toNat)).bind fun t462 => ((escape_Plain.f (y455.take ((l0.length : Int) : Int).toNat)).bind fun t467 => ((escape_Hex.f k (y455.take ((l0.length : Int) : Int).toNat)).bind fun t472 => (if (strOfNums (y455.take ((l0.length : Int) : Int).toNat)).toList = (strOfNums l0).toList then (if (l0.length : Int) < (y455.length : Int) then (galleylaw23_EscapeOwn.j0 k l0 a1 y455 t462 t467 t472 ((rd y455 (l0.length : Int)) != 7)) else (none)) else (galleylaw23_EscapeOwn.j0 k l0 a1 y455 t462 t467 t472 true))))) else (none)) else (none))) else (none))) else (some false))) = some r := h
  clear h
  replace H := Option.bind_eq_some_iff.mp H
  obtain ⟨t451, A30, H⟩ := H
  replace H : (if t451 = true then ((galleylaw23_own.f l0).bind fun t452 => (if t452.length < 140737488355328 then ((some (t452 ++ [7] : List Int)).bind fun y455 => (if 0 ≤ (l0.length : Int) then (if (l0.length : Int) ≤ (y455.length : Int) then ((escape_Quote.f (y455.take ((l0.length : Int) : Int).toNat)).bind fun t462 => ((escape_Plain.f (y455.take ((l0.length : Int) : Int).toNat)).bind fun t467 => ((escape_Hex.f k (y455.take ((l0.length : Int) : Int).toNat)).bind fun t472 => (if (strOfNums (y455.take ((l0.length : Int) : Int).toNat)).toList = (strOfNums l0).toList then (if (l0.length : Int) < (y455.length : Int) then (galleylaw23_EscapeOwn.j0 k l0 a1 y455 t462 t467 t472 ((rd y455 (l0.length : Int)) != 7)) else (none)) else (galleylaw23_EscapeOwn.j0 k l0 a1 y455 t462 t467 t472 true))))) else (none)) else (none))) else (none))) else (some false)) = some r := H
  have A3 := Aside0.mk A30
  clear A30
  by_cases c4 : t451 = true
  · subst c4
    have H1 : ((galleylaw23_own.f l0).bind fun t452 => (if t452.length < 140737488355328 then ((some (t452 ++ [7] : List Int)).bind fun y455 => (if 0 ≤ (l0.length : Int) then (if (l0.length : Int) ≤ (y455.length : Int) then ((escape_Quote.f (y455.take ((l0.length : Int) : Int).toNat)).bind fun t462 => ((escape_Plain.f (y455.take ((l0.length : Int) : Int).toNat)).bind fun t467 => ((escape_Hex.f k (y455.take ((l0.length : Int) : Int).toNat)).bind fun t472 => (if (strOfNums (y455.take ((l0.length : Int) : Int).toNat)).toList = (strOfNums l0).toList then (if (l0.length : Int) < (y455.length : Int) then (galleylaw23_EscapeOwn.j0 k l0 a1 y455 t462 t467 t472 ((rd y455 (l0.length : Int)) != 7)) else (none)) else (galleylaw23_EscapeOwn.j0 k l0 a1 y455 t462 t467 t472 true))))) else (none)) else (none))) else (none))) = some r := by rw [if_pos rfl] at H; exact H
    clear H
    have H := H1
    clear H1
    replace H := Option.bind_eq_some_iff.mp H
    obtain ⟨t452, A50, H⟩ := H
    replace H : (if t452.length < 140737488355328 then ((some (t452 ++ [7] : List Int)).bind fun y455 => (if 0 ≤ (l0.length : Int) then (if (l0.length : Int) ≤ (y455.length : Int) then ((escape_Quote.f (y455.take ((l0.length : Int) : Int).toNat)).bind fun t462 => ((escape_Plain.f (y455.take ((l0.length : Int) : Int).toNat)).bind fun t467 => ((escape_Hex.f k (y455.take ((l0.length : Int) : Int).toNat)).bind fun t472 => (if (strOfNums (y455.take ((l0.length : Int) : Int).toNat)).toList = (strOfNums l0).toList then (if (l0.length : Int) < (y455.length : Int) then (galleylaw23_EscapeOwn.j0 k l0 a1 y455 t462 t467 t472 ((rd y455 (l0.length : Int)) != 7)) else (none)) else (galleylaw23_EscapeOwn.j0 k l0 a1 y455 t462 t467 t472 true))))) else (none)) else (none))) else (none)) = some r := H
    have A5 := Aside0.mk A50
    clear A50
    by_cases c6 : t452.length < 140737488355328
    · rw [if_pos c6] at H
      have LMc6 := Aside0.mk c6
      clear c6
      obtain ⟨y455, hy455⟩ : ∃ y_ : List Int, y_ = (t452 ++ [7]) := ⟨_, rfl⟩
      replace H : (if 0 ≤ (l0.length : Int) then (if (l0.length : Int) ≤ (y455.length : Int) then ((escape_Quote.f (y455.take ((l0.length : Int) : Int).toNat)).bind fun t462 => ((escape_Plain.f (y455.take ((l0.length : Int) : Int).toNat)).bind fun t467 => ((escape_Hex.f k (y455.take ((l0.length : Int) : Int).toNat)).bind fun t472 => (if (strOfNums (y455.take ((l0.length : Int) : Int).toNat)).toList = (strOfNums l0).toList then (if (l0.length : Int) < (y455.length : Int) then (galleylaw23_EscapeOwn.j0 k l0 a1 y455 t462 t467 t472 ((rd y455 (l0.length : Int)) != 7)) else (none)) else (galleylaw23_EscapeOwn.j0 k l0 a1 y455 t462 t467 t472 true))))) else (none)) else (none)) = some r := by first | (rw [hy455]; with_reducible exact H) | (have H2_ := (Option.bind_some _ _).symm.trans H; rw [hy455]; with_reducible exact H2_) | (have H2_ := (Option.bind_some _ _).symm.trans H; with_reducible exact H2_) | with_reducible exact H | (rw [hy455]; exact H) | exact H
      have Ny455 := Aside0.mk hy455
      clear hy455
      by_cases c7 : 0 ≤ (l0.length : Int)
      · rw [if_pos c7] at H
        have c7b0 := eq_true c7
        have c7b1 : decide (0 ≤ (l0.length : Int)) = true := decide_eq_true c7
        clear c7
        by_cases c8 : (l0.length : Int) ≤ (y455.length : Int)
        · rw [if_pos c8] at H
          have c8b0 := eq_true c8
          have c8b1 : decide ((l0.length : Int) ≤ (y455.length : Int)) = true := decide_eq_true c8
          clear c8
          obtain ⟨y458, hy458⟩ : ∃ y_ : List Int, y_ = (y455.take ((l0.length : Int) : Int).toNat) := ⟨_, rfl⟩
          replace H : ((escape_Quote.f y458).bind fun t462 => ((escape_Plain.f (y455.take ((l0.length : Int) : Int).toNat)).bind fun t467 => ((escape_Hex.f k (y455.take ((l0.length : Int) : Int).toNat)).bind fun t472 => (if (strOfNums (y455.take ((l0.length : Int) : Int).toNat)).toList = (strOfNums l0).toList then (if (l0.length : Int) < (y455.length : Int) then (galleylaw23_EscapeOwn.j0 k l0 a1 y455 t462 t467 t472 ((rd y455 (l0.length : Int)) != 7)) else (none)) else (galleylaw23_EscapeOwn.j0 k l0 a1 y455 t462 t467 t472 true))))) = some r := by first | (rw [hy458]; with_reducible exact H) | (have H2_ := (Option.bind_some _ _).symm.trans H; rw [hy458]; with_reducible exact H2_) | (have H2_ := (Option.bind_some _ _).symm.trans H; with_reducible exact H2_) | with_reducible exact H | (rw [hy458]; exact H) | exact H
          have Ny458 := Aside0.mk hy458
          clear hy458
          replace H := Option.bind_eq_some_iff.mp H
          obtain ⟨t462, A90, H⟩ := H
          replace H : ((escape_Plain.f (y455.take ((l0.length : Int) : Int).toNat)).bind fun t467 => ((escape_Hex.f k (y455.take ((l0.length : Int) : Int).toNat)).bind fun t472 => (if (strOfNums (y455.take ((l0.length : Int) : Int).toNat)).toList = (strOfNums l0).toList then (if (l0.length : Int) < (y455.length : Int) then (galleylaw23_EscapeOwn.j0 k l0 a1 y455 t462 t467 t472 ((rd y455 (l0.length : Int)) != 7)) else (none)) else (galleylaw23_EscapeOwn.j0 k l0 a1 y455 t462 t467 t472 true)))) = some r := H
          have A9 := Aside0.mk A90
          clear A90
          have c10b0 := eq_true (of_decide_eq_true (by first | (with_reducible assumption) | assumption) : 0 ≤ (l0.length : Int))
          have c11b0 := eq_true (of_decide_eq_true (by first | (with_reducible assumption) | assumption) : (l0.length : Int) ≤ (y455.length : Int))
          obtain ⟨y463, hy463⟩ : ∃ y_ : List Int, y_ = (y455.take ((l0.length : Int) : Int).toNat) := ⟨_, rfl⟩
          replace H : ((escape_Plain.f y463).bind fun t467 => ((escape_Hex.f k (y455.take ((l0.length : Int) : Int).toNat)).bind fun t472 => (if (strOfNums (y455.take ((l0.length : Int) : Int).toNat)).toList = (strOfNums l0).toList then (if (l0.length : Int) < (y455.length : Int) then (galleylaw23_EscapeOwn.j0 k l0 a1 y455 t462 t467 t472 ((rd y455 (l0.length : Int)) != 7)) else (none)) else (galleylaw23_EscapeOwn.j0 k l0 a1 y455 t462 t467 t472 true)))) = some r := by first | (rw [hy463]; with_reducible exact H) | (have H2_ := (Option.bind_some _ _).symm.trans H; rw [hy463]; with_reducible exact H2_) | (have H2_ := (Option.bind_some _ _).symm.trans H; with_reducible exact H2_) | with_reducible exact H | (rw [hy463]; exact H) | exact H
          have Ny463 := Aside0.mk hy463
          clear hy463
          replace H := Option.bind_eq_some_iff.mp H
          obtain ⟨t467, A120, H⟩ := H
          replace H : ((escape_Hex.f k (y455.take ((l0.length : Int) : Int).toNat)).bind fun t472 => (if (strOfNums (y455.take ((l0.length : Int) : Int).toNat)).toList = (strOfNums l0).toList then (if (l0.length : Int) < (y455.length : Int) then (galleylaw23_EscapeOwn.j0 k l0 a1 y455 t462 t467 t472 ((rd y455 (l0.length : Int)) != 7)) else (none)) else (galleylaw23_EscapeOwn.j0 k l0 a1 y455 t462 t467 t472 true))) = some r := H
          have A12 := Aside0.mk A120
          clear A120
          have c13b0 := eq_true (of_decide_eq_true (by first | (with_reducible assumption) | assumption) : 0 ≤ (l0.length : Int))
          have c14b0 := eq_true (of_decide_eq_true (by first | (with_reducible assumption) | assumption) : (l0.length : Int) ≤ (y455.length : Int))
          obtain ⟨y468, hy468⟩ : ∃ y_ : List Int, y_ = (y455.take ((l0.length : Int) : Int).toNat) := ⟨_, rfl⟩
          replace H : ((escape_Hex.f k y468).bind fun t472 => (if (strOfNums (y455.take ((l0.length : Int) : Int).toNat)).toList = (strOfNums l0).toList then (if (l0.length : Int) < (y455.length : Int) then (galleylaw23_EscapeOwn.j0 k l0 a1 y455 t462 t467 t472 ((rd y455 (l0.length : Int)) != 7)) else (none)) else (galleylaw23_EscapeOwn.j0 k l0 a1 y455 t462 t467 t472 true))) = some r := by first | (rw [hy468]; with_reducible exact H) | (have H2_ := (Option.bind_some _ _).symm.trans H; rw [hy468]; with_reducible exact H2_) | (have H2_ := (Option.bind_some _ _).symm.trans H; with_reducible exact H2_) | with_reducible exact H | (rw [hy468]; exact H) | exact H
          have Ny468 := Aside0.mk hy468
          clear hy468
          replace H := Option.bind_eq_some_iff.mp H
          obtain ⟨t472, A150, H⟩ := H
          replace H : (if (strOfNums (y455.take ((l0.length : Int) : Int).toNat)).toList = (strOfNums l0).toList then (if (l0.length : Int) < (y455.length : Int) then (galleylaw23_EscapeOwn.j0 k l0 a1 y455 t462 t467 t472 ((rd y455 (l0.length : Int)) != 7)) else (none)) else (galleylaw23_EscapeOwn.j0 k l0 a1 y455 t462 t467 t472 true)) = some r := H
          have A15 := Aside0.mk A150
          clear A150
          have HC16 := Aside0.mk H
          clear H
          go_enter Tryd.func10, Tryd.ntmps10
          try go_wp2_with (first | ((with_reducible refine gate_callee (f := 11) rfl ?_); refine goesL_ (some 21) rfl rfl Tryd.func11 (by kernel_rfl) rfl #[] rfl (by (try simp only [List.map_toArray, List.map_cons, List.map_nil]); first | done | rfl | (simp only [List.length_drop, List.length_take]; rfl)) ?_; (with_reducible refine (galleylaw23_awake.calls k  true _ ?side1 A3.out).mono ?_); (case side1 => exact Globs.below HG.out (by repeat (first | (with_reducible first | exact HB.out | apply below_alloc | apply pw_below_drewN | apply below_drew1) | exact HB.out))); rintro e w17 ⟨rfl, hb⟩; refine ⟨_, rfl, ?_⟩; have n0_ := Aside0.mk (below_step (by repeat (first | (with_reducible first | exact HB.out | apply below_alloc | apply pw_below_drewN | apply below_drew1) | exact HB.out)) hb); clear HB; have HB := n0_; clear n0_; (try clear hb); (try clear hb2); (try clear hk); (try clear hi)) | ((with_reducible refine gate_callee (f := 12) rfl ?_); refine goesL_ (some 24) rfl rfl Tryd.func12 (by kernel_rfl) rfl #[.slice A0 l0.length c0] rfl (by (try simp only [List.map_toArray, List.map_cons, List.map_nil]); first | done | rfl | (simp only [List.length_drop, List.length_take]; rfl)) ?_; (with_reducible refine (galleylaw23_own.calls _ _ l0 t452 _ ?side1 ?side2 A5.out).mono ?_); (case side1 => repeat (first | exact (Kd.C_below HR0.out HB.out) | (with_reducible refine Kd.C_alloc ?_ _) | (with_reducible refine Kd.C_drewN ?_ _) | (with_reducible refine Kd.C_drew ?_))); (case side2 => exact HC0.out); rintro e w18 ⟨v453, rfl, ho0, hb⟩; refine ⟨_, rfl, ?_⟩; have n0_ := Aside0.mk (Kd.R_lower ho0 (below_size (by repeat (first | (with_reducible first | exact HB.out | apply below_alloc | apply pw_below_drewN | apply below_drew1) | exact HB.out)))); have n1_ := Aside0.mk (below_step (by repeat (first | (with_reducible first | exact HB.out | apply below_alloc | apply pw_below_drewN | apply below_drew1) | exact HB.out)) hb); clear HB; have HO454 := n0_; have HB := n1_; clear n0_ n1_; (try clear hb); (try clear hb2); (try clear hk); (try clear hi); (try clear ho0)) | ((with_reducible refine gate_builtin (b := .append) (xs := #[.tmp 24, .tmp 25]) rfl ?_); (try (refine gate_guard (by rfl) ?_; dsimp only)); at_builtin; refine Kd.R_append (Kd.int .u8) (w0 := w) w.heap.size rfl (.tmp 24) (.tmp 25) 22 5 (.int .u8 0) 1 rfl Tryd.underlying22 info5 rfl (by decide) (by omega) v453 t452 7 [.int .u8 7] (fun _ => True) (fun _ => False) rfl rfl ?aP (fun _ hk => hk.elim) ?aF ?aO ?aB ?aS ?aL ?_; (case aP => exact rfl); (case aB => exact (by repeat (first | (with_reducible first | exact HB.out | apply below_alloc | apply pw_below_drewN | apply below_drew1) | exact HB.out))); (case aF => exact (fun _ _ => trivial)); (case aO => exact (by (with_reducible repeat (first | apply Kd.R_alloc | apply Kd.R_drewN | apply Kd.R_drew)); exact HO454.out)); (case aS => exact (below_size (by repeat (first | (with_reducible first | exact HB.out | apply below_alloc | apply pw_below_drewN | apply below_drew1) | exact HB.out)))); (case aL => have := LMc6.out; omega); intro v456 w19 ho hb hg hat; rw [← Ny455.out] at ho; have n0_ := Aside0.mk (hb); have n1_ := Aside0.mk (ho); clear HB; clear HO454; have HB := n0_; have HO457 := n1_; clear n0_ n1_; clear ho hb hg hat))
          have n0_ := Aside0.mk (Kd.R_drew HO457.out)
          have n1_ := Aside0.mk (below_drew1 HB.out)
          clear HO457
          clear HB
          have HO457 := n0_
          have HB := n1_
          clear n0_ n1_
          obtain ⟨Ao22, co22, eo22⟩ := Kd.R_slice HO457.out
          (first | subst eo22 | (injection eo22 with f1_ f2_ f3_; have f4_ := f1_.symm; have f5_ := f3_.symm; clear f1_ f2_ f3_; subst f4_; subst f5_))
          have q21 : ((l0.length : Int) : Int) ≤ ((y455.length : Int) : Int) := of_decide_eq_true (by first | (with_reducible assumption) | assumption)
          obtain ⟨i021, hi021, _, hsz21, _⟩ := info_parts info5
          have hroom21 : y455.length ≤ co22 := (Kd.R_reads' HO457.out).2.1
          have hC21 : Kd.C (Kd.int .u8) _ Ao22 y455.length y455 := (Kd.R_reads' HO457.out).2.2
          have hcut21 := cut_to (P := Tryd.prog) 22 5 .i64 Tryd.underlying22 hi021 Ao22 y455.length co22 (l0.length : Int) (of_decide_eq_true (by first | (with_reducible assumption) | assumption)) q21 hroom21
          have hr21 := Kd.C_take (m := ((l0.length : Int) : Int).toNat) hC21 (by omega)
          have hy21 : y458.length = ((l0.length : Int) : Int).toNat := (by rw [Ny458.out, List.length_take]; omega)
          rw [← Ny458.out] at hr21
          rw [← hy21] at hcut21
          have HR461 := Aside0.mk hr21
          have HC461 := Aside0.mk (show y458.length ≤ co22 from by omega)
          clear hr21 hC21 hroom21 hi021 hsz21
          have KY21 := Aside0.mk hy21
          clear hy21
          have KL21 := Aside0.mk (show ((l0.length : Int) : Int).toNat ≤ y455.length from by omega)
          replace q21 := eq_true q21
          have q23 : ((l0.length : Int) : Int) ≤ ((y455.length : Int) : Int) := of_decide_eq_true (by first | (with_reducible assumption) | assumption)
          obtain ⟨i023, hi023, _, hsz23, _⟩ := info_parts info5
          have hroom23 : y455.length ≤ co22 := (Kd.R_reads' HO457.out).2.1
          have hC23 : Kd.C (Kd.int .u8) _ Ao22 y455.length y455 := (Kd.R_reads' HO457.out).2.2
          have hcut23 := cut_to (P := Tryd.prog) 22 5 .i64 Tryd.underlying22 hi023 Ao22 y455.length co22 (l0.length : Int) (of_decide_eq_true (by first | (with_reducible assumption) | assumption)) q23 hroom23
          have hr23 := Kd.C_take (m := ((l0.length : Int) : Int).toNat) hC23 (by omega)
          have hy23 : y463.length = ((l0.length : Int) : Int).toNat := (by rw [Ny463.out, List.length_take]; omega)
          rw [← Ny463.out] at hr23
          rw [← hy23] at hcut23
          have HR466 := Aside0.mk hr23
          have HC466 := Aside0.mk (show y463.length ≤ co22 from by omega)
          clear hr23 hC23 hroom23 hi023 hsz23
          have KY23 := Aside0.mk hy23
          clear hy23
          have KL23 := Aside0.mk (show ((l0.length : Int) : Int).toNat ≤ y455.length from by omega)
          replace q23 := eq_true q23
          have q24 : ((l0.length : Int) : Int) ≤ ((y455.length : Int) : Int) := of_decide_eq_true (by first | (with_reducible assumption) | assumption)
          obtain ⟨i024, hi024, _, hsz24, _⟩ := info_parts info5
          have hroom24 : y455.length ≤ co22 := (Kd.R_reads' HO457.out).2.1
          have hC24 : Kd.C (Kd.int .u8) _ Ao22 y455.length y455 := (Kd.R_reads' HO457.out).2.2
          have hcut24 := cut_to (P := Tryd.prog) 22 5 .i64 Tryd.underlying22 hi024 Ao22 y455.length co22 (l0.length : Int) (of_decide_eq_true (by first | (with_reducible assumption) | assumption)) q24 hroom24
          have hr24 := Kd.C_take (m := ((l0.length : Int) : Int).toNat) hC24 (by omega)
          have hy24 : y468.length = ((l0.length : Int) : Int).toNat := (by rw [Ny468.out, List.length_take]; omega)
          rw [← Ny468.out] at hr24
          rw [← hy24] at hcut24
          have HR471 := Aside0.mk hr24
          have HC471 := Aside0.mk (show y468.length ≤ co22 from by omega)
          clear hr24 hC24 hroom24 hi024 hsz24
          have KY24 := Aside0.mk hy24
          clear hy24
          have KL24 := Aside0.mk (show ((l0.length : Int) : Int).toNat ≤ y455.length from by omega)
          replace q24 := eq_true q24
          refine start_ (n := 18) (S := fun w' => True) (ds := []) #[false, false, false, false, false, false, false, false, false, false, false, false, false, false, false, false, false, false] (by kernel_rfl) rfl rfl trivial (fun hHeld => ?_); refine with_tabW galleylaw23_EscapeOwn.tab4 galleylaw23_EscapeOwn.bits4 (fun HT_ HW_ => ?_)
          generalize w19.drew = w20 at HO457 HB HR461 HR466 HR471 hHeld ⊢
          refine pure_ (i := 0) (N := some 27) (v := ?_) (a' := ?_) #[true, false, false, false, false, false, false, false, false, false, false, false, false, false, false, false, false, false] rfl rfl (any_of HT_.out (by kernel_rfl)) (fun _ _ _ h => h) (Or.inl ⟨by rfl, ?_⟩) ?_ ?_
          rotate_left
          · intro w'
            go_simp
            with_reducible rfl
          rotate_left
          · simp only [Act.put, List.setIfInBounds_toArray, List.set_cons_zero, List.set_cons_succ, i64_w, i32_w]
            rfl
          refine pure_ (i := 1) (N := some 28) (v := ?_) (a' := ?_) #[true, true, false, false, false, false, false, false, false, false, false, false, false, false, false, false, false, false] rfl rfl (any_of HT_.out (by kernel_rfl)) (fun _ _ _ h => h) (Or.inl ⟨by rfl, ?_⟩) ?_ ?_
          rotate_left
          · intro w'
            go_simp
            with_reducible rfl
          rotate_left
          · simp only [Act.put, List.setIfInBounds_toArray, List.set_cons_zero, List.set_cons_succ, i64_w, i32_w]
            rfl
          refine pure_ (i := 2) (N := some 29) (v := ?_) (a' := ?_) #[true, true, true, false, false, false, false, false, false, false, false, false, false, false, false, false, false, false] rfl rfl (any_of HT_.out (by kernel_rfl)) (fun _ _ _ h => h) (Or.inl ⟨by rfl, ?_⟩) ?_ ?_
          rotate_left
          · intro w'
            go_simp
            with_reducible rfl
          rotate_left
          · simp only [Act.put, List.setIfInBounds_toArray, List.set_cons_zero, List.set_cons_succ, i64_w, i32_w]
            rfl
          refine pure_ (i := 3) (N := some 30) (v := ?_) (a' := ?_) #[true, true, true, true, false, false, false, false, false, false, false, false, false, false, false, false, false, false] rfl rfl (any_of HT_.out (by kernel_rfl)) (fun _ _ _ h => h) (Or.inl ⟨by rfl, ?_⟩) ?_ ?_
          rotate_left
          · intro w'
            go_simp
            with_reducible rfl
          rotate_left
          · simp only [Act.put, List.setIfInBounds_toArray, List.set_cons_zero, List.set_cons_succ, i64_w, i32_w]
            rfl
          refine pure_ (i := 5) (N := some 32) (v := ?_) (a' := ?_) #[true, true, true, true, false, true, false, false, false, false, false, false, false, false, false, false, false, false] rfl rfl (any_of HT_.out (by kernel_rfl)) (fun _ _ _ h => h) (Or.inl ⟨by rfl, ?_⟩) ?_ ?_
          rotate_left
          · intro w'
            go_simp
            with_reducible rfl
          rotate_left
          · simp only [Act.put, List.setIfInBounds_toArray, List.set_cons_zero, List.set_cons_succ, i64_w, i32_w]
            rfl
          refine pure_ (i := 6) (N := some 33) (v := ?_) (a' := ?_) #[true, true, true, true, false, true, true, false, false, false, false, false, false, false, false, false, false, false] rfl rfl (any_of HT_.out (by kernel_rfl)) (fun _ _ _ h => h) (Or.inl ⟨by rfl, ?_⟩) ?_ ?_
          rotate_left
          · intro w'
            go_simp
            with_reducible rfl
          rotate_left
          · simp only [Act.put, List.setIfInBounds_toArray, List.set_cons_zero, List.set_cons_succ, i64_w, i32_w]
            rfl
          refine pure_ (i := 7) (N := some 34) (v := ?_) (a' := ?_) #[true, true, true, true, false, true, true, true, false, false, false, false, false, false, false, false, false, false] rfl rfl (any_of HT_.out (by kernel_rfl)) (fun _ _ _ h => h) (Or.inl ⟨by rfl, ?_⟩) ?_ ?_
          rotate_left
          · intro w'
            go_simp
            with_reducible rfl
          rotate_left
          · simp only [Act.put, List.setIfInBounds_toArray, List.set_cons_zero, List.set_cons_succ, i64_w, i32_w]
            rfl
          refine pure_ (i := 8) (N := some 35) (v := ?_) (a' := ?_) #[true, true, true, true, false, true, true, true, true, false, false, false, false, false, false, false, false, false] rfl rfl (any_of HT_.out (by kernel_rfl)) (fun _ _ _ h => h) (Or.inl ⟨by rfl, ?_⟩) ?_ ?_
          rotate_left
          · intro w'
            go_simp
            with_reducible rfl
          rotate_left
          · simp only [Act.put, List.setIfInBounds_toArray, List.set_cons_zero, List.set_cons_succ, i64_w, i32_w]
            rfl
          refine pure_ (i := 10) (N := some 37) (v := ?_) (a' := ?_) #[true, true, true, true, false, true, true, true, true, false, true, false, false, false, false, false, false, false] rfl rfl (any_of HT_.out (by kernel_rfl)) (fun _ _ _ h => h) (Or.inl ⟨by rfl, ?_⟩) ?_ ?_
          rotate_left
          · intro w'
            go_simp
            with_reducible rfl
          rotate_left
          · simp only [Act.put, List.setIfInBounds_toArray, List.set_cons_zero, List.set_cons_succ, i64_w, i32_w]
            rfl
          refine pure_ (i := 11) (N := some 38) (v := ?_) (a' := ?_) #[true, true, true, true, false, true, true, true, true, false, true, true, false, false, false, false, false, false] rfl rfl (any_of HT_.out (by kernel_rfl)) (fun _ _ _ h => h) (Or.inl ⟨by rfl, ?_⟩) ?_ ?_
          rotate_left
          · intro w'
            go_simp
            with_reducible rfl
          rotate_left
          · simp only [Act.put, List.setIfInBounds_toArray, List.set_cons_zero, List.set_cons_succ, i64_w, i32_w]
            rfl
          refine pure_ (i := 12) (N := some 39) (v := ?_) (a' := ?_) #[true, true, true, true, false, true, true, true, true, false, true, true, true, false, false, false, false, false] rfl rfl (any_of HT_.out (by kernel_rfl)) (fun _ _ _ h => h) (Or.inl ⟨by rfl, ?_⟩) ?_ ?_
          rotate_left
          · intro w'
            go_simp
            with_reducible rfl
          rotate_left
          · simp only [Act.put, List.setIfInBounds_toArray, List.set_cons_zero, List.set_cons_succ, i64_w, i32_w]
            rfl
          refine pure_ (i := 13) (N := some 40) (v := ?_) (a' := ?_) #[true, true, true, true, false, true, true, true, true, false, true, true, true, true, false, false, false, false] rfl rfl (any_of HT_.out (by kernel_rfl)) (fun _ _ _ h => h) (Or.inl ⟨by rfl, ?_⟩) ?_ ?_
          rotate_left
          · intro w'
            go_simp
            with_reducible rfl
          rotate_left
          · simp only [Act.put, List.setIfInBounds_toArray, List.set_cons_zero, List.set_cons_succ, i64_w, i32_w]
            rfl
          refine one_ (i := 4) (N := some 31) #[true, true, true, true, true, true, true, true, true, false, true, true, true, true, false, false, false, false] rfl rfl (one_of HT_.out (by kernel_rfl)) (by decide) (fun K hK => ?_)
          refine goes_ Tryd.func13 (by kernel_rfl) rfl #[.slice Ao22 y458.length co22] (by rfl) rfl rfl (by (try simp only [List.map_toArray, List.map_cons, List.map_nil]); first | done | rfl | (simp only [List.length_drop, List.length_take]; rfl)) ?_
          with_reducible refine (escape_Quote.calls _ _ y458 t462 _ ?side1 ?side2 ?side3 A9.out).mono ?_
          (case side1 => exact Globs.below HG.out (by repeat (first | (with_reducible first | exact HB.out | apply below_alloc | apply pw_below_drewN | apply below_drew1) | exact HB.out)))
          (case side2 => repeat (first | exact (by repeat (first | (with_reducible exact HR461.out) | (with_reducible refine Kd.C_alloc ?_ _) | (with_reducible refine Kd.C_drewN ?_ _) | (with_reducible refine Kd.C_drew ?_) | exact HR461.out)) | (with_reducible refine Kd.C_alloc ?_ _) | (with_reducible refine Kd.C_drewN ?_ _) | (with_reducible refine Kd.C_drew ?_)))
          (case side3 => exact HC461.out)
          rintro e w25 ⟨rfl, hb⟩
          refine ⟨_, rfl, ?_⟩
          have n0_ := Aside0.mk (Kd.R_below (by (with_reducible repeat (first | apply Kd.R_alloc | apply Kd.R_drewN | apply Kd.R_drew)); exact HO457.out) hb)
          have n1_ := Aside0.mk (Kd.C_below (by repeat (first | (with_reducible exact HR461.out) | (with_reducible refine Kd.C_alloc ?_ _) | (with_reducible refine Kd.C_drewN ?_ _) | (with_reducible refine Kd.C_drew ?_) | exact HR461.out)) hb)
          have n2_ := Aside0.mk (Kd.C_below (by repeat (first | (with_reducible exact HR466.out) | (with_reducible refine Kd.C_alloc ?_ _) | (with_reducible refine Kd.C_drewN ?_ _) | (with_reducible refine Kd.C_drew ?_) | exact HR466.out)) hb)
          have n3_ := Aside0.mk (Kd.C_below (by repeat (first | (with_reducible exact HR471.out) | (with_reducible refine Kd.C_alloc ?_ _) | (with_reducible refine Kd.C_drewN ?_ _) | (with_reducible refine Kd.C_drew ?_) | exact HR471.out)) hb)
          have n4_ := Aside0.mk (below_step (by repeat (first | (with_reducible first | exact HB.out | apply below_alloc | apply pw_below_drewN | apply below_drew1) | exact HB.out)) hb)
          clear HO457
          clear HR461
          clear HR466
          clear HR471
          clear HB
          have HO457 := n0_
          have HR461 := n1_
          have HR466 := n2_
          have HR471 := n3_
          have HB := n4_
          clear n0_ n1_ n2_ n3_ n4_
          (try clear hb)
          (try clear hb2)
          (try clear hk)
          (try clear hi)
          refine hK.out _ _ trivial (fun hHeld => ?_)
          clear hK K
          refine norm_ (a' := ?_) ?_ ?_
          rotate_left
          · show Act.put _ (some 31) _ = _
            simp only [Act.put, List.setIfInBounds_toArray, List.set_cons_zero, List.set_cons_succ, i64_w, i32_w]
            rfl
          refine one_ (i := 9) (N := some 36) #[true, true, true, true, true, true, true, true, true, true, true, true, true, true, false, false, false, false] rfl rfl (one_of HT_.out (by kernel_rfl)) (by decide) (fun K hK => ?_)
          refine goes_ Tryd.func20 (by kernel_rfl) rfl #[.slice Ao22 y463.length co22] (by rfl) rfl rfl (by (try simp only [List.map_toArray, List.map_cons, List.map_nil]); first | done | rfl | (simp only [List.length_drop, List.length_take]; rfl) | (rw [show y463.length = y458.length from congrArg List.length (Ny463.out.trans Ny458.out.symm)]; rfl)) ?_
          with_reducible refine (escape_Plain.calls _ _ y463 t467 _ ?side1 ?side2 A12.out).mono ?_
          (case side1 => repeat (first | exact (by repeat (first | (with_reducible exact HR466.out) | (with_reducible refine Kd.C_alloc ?_ _) | (with_reducible refine Kd.C_drewN ?_ _) | (with_reducible refine Kd.C_drew ?_) | exact HR466.out)) | (with_reducible refine Kd.C_alloc ?_ _) | (with_reducible refine Kd.C_drewN ?_ _) | (with_reducible refine Kd.C_drew ?_)))
          (case side2 => exact HC466.out)
          rintro e w26 ⟨rfl, hb⟩
          refine ⟨_, rfl, ?_⟩
          have n0_ := Aside0.mk (Kd.R_below (by (with_reducible repeat (first | apply Kd.R_alloc | apply Kd.R_drewN | apply Kd.R_drew)); exact HO457.out) hb)
          have n1_ := Aside0.mk (Kd.C_below (by repeat (first | (with_reducible exact HR461.out) | (with_reducible refine Kd.C_alloc ?_ _) | (with_reducible refine Kd.C_drewN ?_ _) | (with_reducible refine Kd.C_drew ?_) | exact HR461.out)) hb)
          have n2_ := Aside0.mk (Kd.C_below (by repeat (first | (with_reducible exact HR466.out) | (with_reducible refine Kd.C_alloc ?_ _) | (with_reducible refine Kd.C_drewN ?_ _) | (with_reducible refine Kd.C_drew ?_) | exact HR466.out)) hb)
          have n3_ := Aside0.mk (Kd.C_below (by repeat (first | (with_reducible exact HR471.out) | (with_reducible refine Kd.C_alloc ?_ _) | (with_reducible refine Kd.C_drewN ?_ _) | (with_reducible refine Kd.C_drew ?_) | exact HR471.out)) hb)
          have n4_ := Aside0.mk (below_step (by repeat (first | (with_reducible first | exact HB.out | apply below_alloc | apply pw_below_drewN | apply below_drew1) | exact HB.out)) hb)
          clear HO457
          clear HR461
          clear HR466
          clear HR471
          clear HB
          have HO457 := n0_
          have HR461 := n1_
          have HR466 := n2_
          have HR471 := n3_
          have HB := n4_
          clear n0_ n1_ n2_ n3_ n4_
          (try clear hb)
          (try clear hb2)
          (try clear hk)
          (try clear hi)
          refine hK.out _ _ trivial (fun hHeld => ?_)
          clear hK K
          refine norm_ (a' := ?_) ?_ ?_
          rotate_left
          · show Act.put _ (some 36) _ = _
            simp only [Act.put, List.setIfInBounds_toArray, List.set_cons_zero, List.set_cons_succ, i64_w, i32_w]
            rfl
          refine one_ (i := 14) (N := some 41) #[true, true, true, true, true, true, true, true, true, true, true, true, true, true, true, false, false, false] rfl rfl (one_of HT_.out (by kernel_rfl)) (by decide) (fun K hK => ?_)
          refine goes_ Tryd.func16 (by kernel_rfl) rfl #[.slice Ao22 y468.length co22] (by rfl) rfl rfl (by (try simp only [List.map_toArray, List.map_cons, List.map_nil]); first | done | rfl | (simp only [List.length_drop, List.length_take]; rfl) | (rw [show y468.length = y458.length from congrArg List.length (Ny468.out.trans Ny458.out.symm)]; rfl)) ?_
          with_reducible refine (escape_Hex.calls k _ _ y468 t472 _ ?side1 ?side2 A15.out).mono ?_
          (case side1 => repeat (first | exact (by repeat (first | (with_reducible exact HR471.out) | (with_reducible refine Kd.C_alloc ?_ _) | (with_reducible refine Kd.C_drewN ?_ _) | (with_reducible refine Kd.C_drew ?_) | exact HR471.out)) | (with_reducible refine Kd.C_alloc ?_ _) | (with_reducible refine Kd.C_drewN ?_ _) | (with_reducible refine Kd.C_drew ?_)))
          (case side2 => exact HC471.out)
          rintro e w27 ⟨rfl, hb⟩
          refine ⟨_, rfl, ?_⟩
          have n0_ := Aside0.mk (Kd.R_below (by (with_reducible repeat (first | apply Kd.R_alloc | apply Kd.R_drewN | apply Kd.R_drew)); exact HO457.out) hb)
          have n1_ := Aside0.mk (Kd.C_below (by repeat (first | (with_reducible exact HR461.out) | (with_reducible refine Kd.C_alloc ?_ _) | (with_reducible refine Kd.C_drewN ?_ _) | (with_reducible refine Kd.C_drew ?_) | exact HR461.out)) hb)
          have n2_ := Aside0.mk (Kd.C_below (by repeat (first | (with_reducible exact HR466.out) | (with_reducible refine Kd.C_alloc ?_ _) | (with_reducible refine Kd.C_drewN ?_ _) | (with_reducible refine Kd.C_drew ?_) | exact HR466.out)) hb)
          have n3_ := Aside0.mk (Kd.C_below (by repeat (first | (with_reducible exact HR471.out) | (with_reducible refine Kd.C_alloc ?_ _) | (with_reducible refine Kd.C_drewN ?_ _) | (with_reducible refine Kd.C_drew ?_) | exact HR471.out)) hb)
          have n4_ := Aside0.mk (below_step (by repeat (first | (with_reducible first | exact HB.out | apply below_alloc | apply pw_below_drewN | apply below_drew1) | exact HB.out)) hb)
          clear HO457
          clear HR461
          clear HR466
          clear HR471
          clear HB
          have HO457 := n0_
          have HR461 := n1_
          have HR466 := n2_
          have HR471 := n3_
          have HB := n4_
          clear n0_ n1_ n2_ n3_ n4_
          (try clear hb)
          (try clear hb2)
          (try clear hk)
          (try clear hi)
          refine hK.out _ _ trivial (fun hHeld => ?_)
          clear hK K
          refine norm_ (a' := ?_) ?_ ?_
          rotate_left
          · show Act.put _ (some 41) _ = _
            simp only [Act.put, List.setIfInBounds_toArray, List.set_cons_zero, List.set_cons_succ, i64_w, i32_w]
            rfl
          refine pure_ (i := 15) (N := some 6) (v := ?_) (a' := ?_) #[true, true, true, true, true, true, true, true, true, true, true, true, true, true, true, true, false, false] rfl rfl (any_of HT_.out (by kernel_rfl)) (fun _ _ _ h => h) (Or.inl ⟨by rfl, ?_⟩) ?_ ?_
          rotate_left
          · intro w'
            go_simp
            with_reducible rfl
          rotate_left
          · simp only [Act.put, List.setIfInBounds_toArray, List.set_cons_zero, List.set_cons_succ, i64_w, i32_w]
            rfl
          refine pure_ (i := 16) (N := some 7) (v := ?_) (a' := ?_) #[true, true, true, true, true, true, true, true, true, true, true, true, true, true, true, true, true, false] rfl rfl (any_of HT_.out (by kernel_rfl)) (fun _ _ _ h => h) (Or.inl ⟨by rfl, ?_⟩) ?_ ?_
          rotate_left
          · intro w'
            go_simp
            with_reducible rfl
          rotate_left
          · simp only [Act.put, List.setIfInBounds_toArray, List.set_cons_zero, List.set_cons_succ, i64_w, i32_w]
            rfl
          refine pure_ (i := 17) (N := some 8) (v := ?_) (a' := ?_) #[true, true, true, true, true, true, true, true, true, true, true, true, true, true, true, true, true, true] rfl rfl (any_of HT_.out (by kernel_rfl)) (fun _ _ _ h => h) (Or.inl ⟨by rfl, ?_⟩) ?_ ?_
          rotate_left
          · intro w'
            go_simp
            with_reducible rfl
          rotate_left
          · simp only [Act.put, List.setIfInBounds_toArray, List.set_cons_zero, List.set_cons_succ, i64_w, i32_w]
            rfl
          refine done_ (done_of HT_.out (by kernel_rfl)) ?_
          go_upto_region 5 with (fail)
          go_cut [57] (fun v57 wc => ∃ (kq : Nat) (x57_15 : Bool), v57 = .bool x57_15 ∧ Aside0 (galleylaw23_EscapeOwn.j0 kq l0 a1 y455 t462 t467 t472 x57_15 = some r) ∧ Aside0 (kq ≤ k) ∧ Aside0 (Kd.R (Kd.int .u8) 5 wc w.heap.size (fun _ => True) (.slice Ao22 y455.length co22) y455) ∧ Aside0 (Below w.heap.size w wc))
          case first =>
            have H := HC16.out
            clear HC16
            have c28b0 := eq_true (of_decide_eq_true (by first | (with_reducible assumption) | assumption) : 0 ≤ (l0.length : Int))
            have c29b0 := eq_true (of_decide_eq_true (by first | (with_reducible assumption) | assumption) : (l0.length : Int) ≤ (y455.length : Int))
            obtain ⟨y473, hy473⟩ : ∃ y_ : List Int, y_ = (y455.take ((l0.length : Int) : Int).toNat) := ⟨_, rfl⟩
            replace H : (if (strOfNums y473).toList = (strOfNums l0).toList then (if (l0.length : Int) < (y455.length : Int) then (galleylaw23_EscapeOwn.j0 k l0 a1 y455 t462 t467 t472 ((rd y455 (l0.length : Int)) != 7)) else (none)) else (galleylaw23_EscapeOwn.j0 k l0 a1 y455 t462 t467 t472 true)) = some r := by first | (rw [hy473]; with_reducible exact H) | (have H2_ := (Option.bind_some _ _).symm.trans H; rw [hy473]; with_reducible exact H2_) | (have H2_ := (Option.bind_some _ _).symm.trans H; with_reducible exact H2_) | with_reducible exact H | (rw [hy473]; exact H) | exact H
            have Ny473 := Aside0.mk hy473
            clear hy473
            by_cases c30 : (strOfNums y473).toList = (strOfNums l0).toList
            · rw [if_pos c30] at H
              have c30b0 : ((strOfNums y473).toList == (strOfNums l0).toList) = true := beq_iff_eq.mpr c30
              have c30b1 : ((strOfNums y473).toList != (strOfNums l0).toList) = false := bne_eq_false_iff_eq.mpr c30
              clear c30
              (first | rw [c30b0] | (simp only [i64_w, i32_w]; rw [c30b0]) | skip)
              by_cases c31 : (l0.length : Int) < (y455.length : Int)
              · rw [if_pos c31] at H
                have c31b0 : decide ((l0.length : Int) < (y455.length : Int)) = true := decide_eq_true c31
                have c31b1 : decide (l0.length < y455.length) = true := decide_eq_true (Int.ofNat_lt.mp c31)
                clear c31
                have H' := Aside0.mk H
                clear H
                try go_wp2
                have n0_ := Aside0.mk (Kd.R_drew HO457.out)
                have n1_ := Aside0.mk (Kd.C_drew HR461.out)
                have n2_ := Aside0.mk (Kd.C_drew HR466.out)
                have n3_ := Aside0.mk (Kd.C_drew HR471.out)
                have n4_ := Aside0.mk (below_drew1 HB.out)
                clear HO457
                clear HR461
                clear HR466
                clear HR471
                clear HB
                have HO457 := n0_
                have HR461 := n1_
                have HR466 := n2_
                have HR471 := n3_
                have HB := n4_
                clear n0_ n1_ n2_ n3_ n4_
                have q33 : ((l0.length : Int) : Int) ≤ ((y455.length : Int) : Int) := of_decide_eq_true (by first | (with_reducible assumption) | assumption)
                obtain ⟨i033, hi033, _, hsz33, _⟩ := info_parts info5
                have hroom33 : y455.length ≤ co22 := (Kd.R_reads' HO457.out).2.1
                have hC33 : Kd.C (Kd.int .u8) _ Ao22 y455.length y455 := (Kd.R_reads' HO457.out).2.2
                have hcut33 := cut_to (P := Tryd.prog) 22 5 .i64 Tryd.underlying22 hi033 Ao22 y455.length co22 (l0.length : Int) (of_decide_eq_true (by first | (with_reducible assumption) | assumption)) q33 hroom33
                have hr33 := Kd.C_take (m := ((l0.length : Int) : Int).toNat) hC33 (by omega)
                have hy33 : y473.length = ((l0.length : Int) : Int).toNat := (by rw [Ny473.out, List.length_take]; omega)
                rw [← Ny473.out] at hr33
                rw [← hy33] at hcut33
                have HR476 := Aside0.mk hr33
                have HC476 := Aside0.mk (show y473.length ≤ co22 from by omega)
                clear hr33 hC33 hroom33 hi033 hsz33
                have KY33 := Aside0.mk hy33
                clear hy33
                have KL33 := Aside0.mk (show ((l0.length : Int) : Int).toNat ≤ y455.length from by omega)
                replace q33 := eq_true q33
                have hcv34 := Kd.C_string (P := Tryd.prog) (A := Ao22) (c := co22) Tryd.underlying22 Tryd.underlying5 Tryd.underlying9 (by repeat (first | (with_reducible exact HR476.out) | (with_reducible refine Kd.C_alloc ?_ _) | (with_reducible refine Kd.C_drewN ?_ _) | (with_reducible refine Kd.C_drew ?_) | exact HR476.out))
                have hcv35 := Kd.C_string (P := Tryd.prog) (A := A0) (c := c0) Tryd.underlying22 Tryd.underlying5 Tryd.underlying9 (Kd.C_below HR0.out HB.out)
                have p477 : 0 ≤ ((l0.length : Int) : Int) := of_decide_eq_true (by first | (with_reducible assumption) | assumption)
                have q477 : (l0.length : Int) < (y455.length : Int) := of_decide_eq_true (by first | (with_reducible assumption) | assumption)
                obtain ⟨ad477, e477, hx477_0⟩ := Kd.at_int (Kd.R_reads' HO457.out).2.2 (l0.length : Int) p477 q477
                cases e477
                (try simp only [Go.IntWalk.toNatUp] at hx477_0)
                replace p477 := eq_true p477
                replace q477 := eq_true q477
                refine start_ (n := 16) (S := fun w' => w'.cell? (ad477.add l0.length) = some (.int .u8 (rd y455 (l0.length : Int))) ∧ (convert 22 9 (.slice (some ad477) y458.length co22)).run Tryd.prog w' = .ok (.string (strOfNums y473)) w' ∧ (convert 22 9 (.slice A0 l0.length c0)).run Tryd.prog w' = .ok (.string (strOfNums l0)) w') (ds := []) #[false, false, false, false, false, false, false, false, false, false, false, false, false, false, false, false] (by kernel_rfl) rfl rfl ⟨hx477_0, by rw [show y458.length = y473.length from congrArg List.length (Ny458.out.trans Ny473.out.symm)]; exact hcv34, hcv35⟩ (fun hHeld => ?_); refine with_tabW galleylaw23_EscapeOwn.tab5 galleylaw23_EscapeOwn.bits5 (fun HT_ HW_ => ?_)
                generalize w27.drew = w32 at HO457 HR461 HR466 HR471 HB HR476 hx477_0 hHeld ⊢
                refine pure_ (i := 0) (N := some 42) (v := ?_) (a' := ?_) #[true, false, false, false, false, false, false, false, false, false, false, false, false, false, false, false] rfl rfl (any_of HT_.out (by kernel_rfl)) (fun _ _ _ h => h) (Or.inl ⟨by rfl, ?_⟩) ?_ ?_
                rotate_left
                · intro w'
                  go_simp
                  with_reducible rfl
                rotate_left
                · simp only [Act.put, List.setIfInBounds_toArray, List.set_cons_zero, List.set_cons_succ, i64_w, i32_w]
                  rfl
                refine pure_ (i := 1) (N := some 43) (v := ?_) (a' := ?_) #[true, true, false, false, false, false, false, false, false, false, false, false, false, false, false, false] rfl rfl (any_of HT_.out (by kernel_rfl)) (fun _ _ _ h => h) (Or.inl ⟨by rfl, ?_⟩) ?_ ?_
                rotate_left
                · intro w'
                  go_simp
                  with_reducible rfl
                rotate_left
                · simp only [Act.put, List.setIfInBounds_toArray, List.set_cons_zero, List.set_cons_succ, i64_w, i32_w]
                  rfl
                refine pure_ (i := 2) (N := some 44) (v := ?_) (a' := ?_) #[true, true, true, false, false, false, false, false, false, false, false, false, false, false, false, false] rfl rfl (any_of HT_.out (by kernel_rfl)) (fun _ _ _ h => h) (Or.inl ⟨by rfl, ?_⟩) ?_ ?_
                rotate_left
                · intro w'
                  go_simp
                  with_reducible rfl
                rotate_left
                · simp only [Act.put, List.setIfInBounds_toArray, List.set_cons_zero, List.set_cons_succ, i64_w, i32_w]
                  rfl
                refine pure_ (i := 3) (N := some 45) (v := ?_) (a' := ?_) #[true, true, true, true, false, false, false, false, false, false, false, false, false, false, false, false] rfl rfl (any_of HT_.out (by kernel_rfl)) (fun _ _ _ h => h) (Or.inl ⟨by rfl, ?_⟩) ?_ ?_
                rotate_left
                · intro w'
                  go_simp
                  with_reducible rfl
                rotate_left
                · simp only [Act.put, List.setIfInBounds_toArray, List.set_cons_zero, List.set_cons_succ, i64_w, i32_w]
                  rfl
                refine take_ (i := 4) (N := some 46) (v := ?_) (a' := ?_) #[true, true, true, true, true, false, false, false, false, false, false, false, false, false, false, false] rfl rfl (take_ofW HT_.out HW_.out (by kernel_rfl)) (fun _ _ _ h => h) (Or.inl ⟨by rfl, ?_⟩) hHeld ?_ ?_
                rotate_left
                · intro w' s0; obtain ⟨s0, s1, s2⟩ := s0
                  go_simp
                  with_reducible rfl
                rotate_left
                · simp only [Act.put, List.setIfInBounds_toArray, List.set_cons_zero, List.set_cons_succ, i64_w, i32_w]
                  rfl
                refine pure_ (i := 5) (N := some 47) (v := ?_) (a' := ?_) #[true, true, true, true, true, true, false, false, false, false, false, false, false, false, false, false] rfl rfl (any_of HT_.out (by kernel_rfl)) (fun _ _ _ h => h) (Or.inl ⟨by rfl, ?_⟩) ?_ ?_
                rotate_left
                · intro w'
                  go_simp
                  with_reducible rfl
                rotate_left
                · simp only [Act.put, List.setIfInBounds_toArray, List.set_cons_zero, List.set_cons_succ, i64_w, i32_w]
                  rfl
                refine take_ (i := 6) (N := some 48) (v := ?_) (a' := ?_) #[true, true, true, true, true, true, true, false, false, false, false, false, false, false, false, false] rfl rfl (take_ofW HT_.out HW_.out (by kernel_rfl)) (fun _ _ _ h => h) (Or.inl ⟨by rfl, ?_⟩) hHeld ?_ ?_
                rotate_left
                · intro w' s0; obtain ⟨s0, s1, s2⟩ := s0
                  go_simp
                  with_reducible rfl
                rotate_left
                · simp only [Act.put, List.setIfInBounds_toArray, List.set_cons_zero, List.set_cons_succ, i64_w, i32_w]
                  rfl
                refine pure_ (i := 7) (N := some 49) (v := ?_) (a' := ?_) #[true, true, true, true, true, true, true, true, false, false, false, false, false, false, false, false] rfl rfl (any_of HT_.out (by kernel_rfl)) (fun _ _ _ h => h) (Or.inl ⟨by rfl, ?_⟩) ?_ ?_
                rotate_left
                · intro w'
                  go_simp
                  with_reducible rfl
                rotate_left
                · simp only [Act.put, List.setIfInBounds_toArray, List.set_cons_zero, List.set_cons_succ, i64_w, i32_w]
                  rfl
                refine pure_ (i := 8) (N := some 50) (v := ?_) (a' := ?_) #[true, true, true, true, true, true, true, true, true, false, false, false, false, false, false, false] rfl rfl (any_of HT_.out (by kernel_rfl)) (fun _ _ _ h => h) (Or.inl ⟨by rfl, ?_⟩) ?_ ?_
                rotate_left
                · intro w'
                  go_simp
                  with_reducible rfl
                rotate_left
                · simp only [Act.put, List.setIfInBounds_toArray, List.set_cons_zero, List.set_cons_succ, i64_w, i32_w]
                  rfl
                refine pure_ (i := 9) (N := some 51) (v := ?_) (a' := ?_) #[true, true, true, true, true, true, true, true, true, true, false, false, false, false, false, false] rfl rfl (any_of HT_.out (by kernel_rfl)) (fun _ _ _ h => h) (Or.inl ⟨by rfl, ?_⟩) ?_ ?_
                rotate_left
                · intro w'
                  go_simp
                  with_reducible rfl
                rotate_left
                · simp only [Act.put, List.setIfInBounds_toArray, List.set_cons_zero, List.set_cons_succ, i64_w, i32_w]
                  rfl
                refine pure_ (i := 10) (N := some 52) (v := ?_) (a' := ?_) #[true, true, true, true, true, true, true, true, true, true, true, false, false, false, false, false] rfl rfl (any_of HT_.out (by kernel_rfl)) (fun _ _ _ h => h) (Or.inl ⟨by rfl, ?_⟩) ?_ ?_
                rotate_left
                · intro w'
                  go_simp
                  with_reducible rfl
                rotate_left
                · simp only [Act.put, List.setIfInBounds_toArray, List.set_cons_zero, List.set_cons_succ, i64_w, i32_w]
                  rfl
                refine pure_ (i := 11) (N := some 53) (v := ?_) (a' := ?_) #[true, true, true, true, true, true, true, true, true, true, true, true, false, false, false, false] rfl rfl (any_of HT_.out (by kernel_rfl)) (fun _ _ _ h => h) (Or.inl ⟨by rfl, ?_⟩) ?_ ?_
                rotate_left
                · intro w'
                  go_simp
                  with_reducible rfl
                rotate_left
                · simp only [Act.put, List.setIfInBounds_toArray, List.set_cons_zero, List.set_cons_succ, i64_w, i32_w]
                  rfl
                refine pure_ (i := 12) (N := some 54) (v := ?_) (a' := ?_) #[true, true, true, true, true, true, true, true, true, true, true, true, true, false, false, false] rfl rfl (any_of HT_.out (by kernel_rfl)) (fun _ _ _ h => h) (Or.inl ⟨by rfl, ?_⟩) ?_ ?_
                rotate_left
                · intro w'
                  go_simp
                  with_reducible rfl
                rotate_left
                · simp only [Act.put, List.setIfInBounds_toArray, List.set_cons_zero, List.set_cons_succ, i64_w, i32_w]
                  rfl
                refine take_ (i := 13) (N := some 55) (v := ?_) (a' := ?_) #[true, true, true, true, true, true, true, true, true, true, true, true, true, true, false, false] rfl rfl (take_ofW HT_.out HW_.out (by kernel_rfl)) (fun _ _ _ h => h) (Or.inl ⟨by rfl, ?_⟩) hHeld ?_ ?_
                rotate_left
                · intro w' s0; obtain ⟨s0, s1, s2⟩ := s0
                  go_simp
                  with_reducible rfl
                rotate_left
                · simp only [Act.put, List.setIfInBounds_toArray, List.set_cons_zero, List.set_cons_succ, i64_w, i32_w]
                  rfl
                refine pure_ (i := 14) (N := some 56) (v := ?_) (a' := ?_) #[true, true, true, true, true, true, true, true, true, true, true, true, true, true, true, false] rfl rfl (any_of HT_.out (by kernel_rfl)) (fun _ _ _ h => h) (Or.inl ⟨by rfl, ?_⟩) ?_ ?_
                rotate_left
                · intro w'
                  go_simp
                  with_reducible rfl
                rotate_left
                · simp only [Act.put, List.setIfInBounds_toArray, List.set_cons_zero, List.set_cons_succ, i64_w, i32_w]
                  rfl
                refine pure_ (i := 15) (N := some 57) (v := ?_) (a' := ?_) #[true, true, true, true, true, true, true, true, true, true, true, true, true, true, true, true] rfl rfl (any_of HT_.out (by kernel_rfl)) (fun _ _ _ h => h) (Or.inl ⟨by rfl, ?_⟩) ?_ ?_
                rotate_left
                · intro w'
                  go_simp
                  with_reducible rfl
                rotate_left
                · simp only [Act.put, List.setIfInBounds_toArray, List.set_cons_zero, List.set_cons_succ, i64_w, i32_w]
                  rfl
                refine done_ (done_of HT_.out (by kernel_rfl)) ?_
                try go_wp2
                go_meet
                case rel => exact ⟨_, (((rd y455 (l0.length : Int)) != 7)), (by first | rfl | (simp; done) | (simp [*]; done)), H', ⟨by first | omega | exact Nat.le_refl _⟩, ⟨by (with_reducible repeat (first | apply Kd.R_alloc | apply Kd.R_drewN | apply Kd.R_drew)); exact HO457.out⟩, ⟨by repeat (first | (with_reducible first | exact HB.out | apply below_alloc | apply pw_below_drewN | apply below_drew1) | exact HB.out)⟩⟩
              · rw [if_neg c31] at H
                exact absurd H (by simp)
            · rw [if_neg c30] at H
              have c30b0 : ((strOfNums y473).toList == (strOfNums l0).toList) = false := beq_eq_false_iff_ne.mpr c30
              have c30b1 : ((strOfNums y473).toList != (strOfNums l0).toList) = true := bne_iff_ne.mpr c30
              (first | rw [c30b0] | (simp only [i64_w, i32_w]; rw [c30b0]) | skip)
              have H' := Aside0.mk H
              clear H
              try go_wp2
              have n0_ := Aside0.mk (Kd.R_drew HO457.out)
              have n1_ := Aside0.mk (Kd.C_drew HR461.out)
              have n2_ := Aside0.mk (Kd.C_drew HR466.out)
              have n3_ := Aside0.mk (Kd.C_drew HR471.out)
              have n4_ := Aside0.mk (below_drew1 HB.out)
              clear HO457
              clear HR461
              clear HR466
              clear HR471
              clear HB
              have HO457 := n0_
              have HR461 := n1_
              have HR466 := n2_
              have HR471 := n3_
              have HB := n4_
              clear n0_ n1_ n2_ n3_ n4_
              have q38 : ((l0.length : Int) : Int) ≤ ((y455.length : Int) : Int) := of_decide_eq_true (by first | (with_reducible assumption) | assumption)
              obtain ⟨i038, hi038, _, hsz38, _⟩ := info_parts info5
              have hroom38 : y455.length ≤ co22 := (Kd.R_reads' HO457.out).2.1
              have hC38 : Kd.C (Kd.int .u8) _ Ao22 y455.length y455 := (Kd.R_reads' HO457.out).2.2
              have hcut38 := cut_to (P := Tryd.prog) 22 5 .i64 Tryd.underlying22 hi038 Ao22 y455.length co22 (l0.length : Int) (of_decide_eq_true (by first | (with_reducible assumption) | assumption)) q38 hroom38
              have hr38 := Kd.C_take (m := ((l0.length : Int) : Int).toNat) hC38 (by omega)
              have hy38 : y473.length = ((l0.length : Int) : Int).toNat := (by rw [Ny473.out, List.length_take]; omega)
              rw [← Ny473.out] at hr38
              rw [← hy38] at hcut38
              have HR476 := Aside0.mk hr38
              have HC476 := Aside0.mk (show y473.length ≤ co22 from by omega)
              clear hr38 hC38 hroom38 hi038 hsz38
              have KY38 := Aside0.mk hy38
              clear hy38
              have KL38 := Aside0.mk (show ((l0.length : Int) : Int).toNat ≤ y455.length from by omega)
              replace q38 := eq_true q38
              have hcv39 := Kd.C_string (P := Tryd.prog) (A := Ao22) (c := co22) Tryd.underlying22 Tryd.underlying5 Tryd.underlying9 (by repeat (first | (with_reducible exact HR476.out) | (with_reducible refine Kd.C_alloc ?_ _) | (with_reducible refine Kd.C_drewN ?_ _) | (with_reducible refine Kd.C_drew ?_) | exact HR476.out))
              have hcv40 := Kd.C_string (P := Tryd.prog) (A := A0) (c := c0) Tryd.underlying22 Tryd.underlying5 Tryd.underlying9 (Kd.C_below HR0.out HB.out)
              refine start_ (n := 16) (S := fun w' => (convert 22 9 (.slice Ao22 y458.length co22)).run Tryd.prog w' = .ok (.string (strOfNums y473)) w' ∧ (convert 22 9 (.slice A0 l0.length c0)).run Tryd.prog w' = .ok (.string (strOfNums l0)) w') (ds := []) #[false, false, false, false, false, false, false, false, false, false, false, false, false, false, false, false] (by kernel_rfl) rfl rfl ⟨by rw [show y458.length = y473.length from congrArg List.length (Ny458.out.trans Ny473.out.symm)]; exact hcv39, hcv40⟩ (fun hHeld => ?_); refine with_tabW galleylaw23_EscapeOwn.tab5 galleylaw23_EscapeOwn.bits5 (fun HT_ HW_ => ?_)
              generalize w27.drew = w37 at HO457 HR461 HR466 HR471 HB HR476 hHeld ⊢
              refine pure_ (i := 0) (N := some 42) (v := ?_) (a' := ?_) #[true, false, false, false, false, false, false, false, false, false, false, false, false, false, false, false] rfl rfl (any_of HT_.out (by kernel_rfl)) (fun _ _ _ h => h) (Or.inl ⟨by rfl, ?_⟩) ?_ ?_
              rotate_left
              · intro w'
                go_simp
                with_reducible rfl
              rotate_left
              · simp only [Act.put, List.setIfInBounds_toArray, List.set_cons_zero, List.set_cons_succ, i64_w, i32_w]
                rfl
              refine pure_ (i := 1) (N := some 43) (v := ?_) (a' := ?_) #[true, true, false, false, false, false, false, false, false, false, false, false, false, false, false, false] rfl rfl (any_of HT_.out (by kernel_rfl)) (fun _ _ _ h => h) (Or.inl ⟨by rfl, ?_⟩) ?_ ?_
              rotate_left
              · intro w'
                go_simp
                with_reducible rfl
              rotate_left
              · simp only [Act.put, List.setIfInBounds_toArray, List.set_cons_zero, List.set_cons_succ, i64_w, i32_w]
                rfl
              refine pure_ (i := 2) (N := some 44) (v := ?_) (a' := ?_) #[true, true, true, false, false, false, false, false, false, false, false, false, false, false, false, false] rfl rfl (any_of HT_.out (by kernel_rfl)) (fun _ _ _ h => h) (Or.inl ⟨by rfl, ?_⟩) ?_ ?_
              rotate_left
              · intro w'
                go_simp
                with_reducible rfl
              rotate_left
              · simp only [Act.put, List.setIfInBounds_toArray, List.set_cons_zero, List.set_cons_succ, i64_w, i32_w]
                rfl
              refine pure_ (i := 3) (N := some 45) (v := ?_) (a' := ?_) #[true, true, true, true, false, false, false, false, false, false, false, false, false, false, false, false] rfl rfl (any_of HT_.out (by kernel_rfl)) (fun _ _ _ h => h) (Or.inl ⟨by rfl, ?_⟩) ?_ ?_
              rotate_left
              · intro w'
                go_simp
                with_reducible rfl
              rotate_left
              · simp only [Act.put, List.setIfInBounds_toArray, List.set_cons_zero, List.set_cons_succ, i64_w, i32_w]
                rfl
              refine take_ (i := 4) (N := some 46) (v := ?_) (a' := ?_) #[true, true, true, true, true, false, false, false, false, false, false, false, false, false, false, false] rfl rfl (take_ofW HT_.out HW_.out (by kernel_rfl)) (fun _ _ _ h => h) (Or.inl ⟨by rfl, ?_⟩) hHeld ?_ ?_
              rotate_left
              · intro w' s0; obtain ⟨s1, s2⟩ := s0
                go_simp
                with_reducible rfl
              rotate_left
              · simp only [Act.put, List.setIfInBounds_toArray, List.set_cons_zero, List.set_cons_succ, i64_w, i32_w]
                rfl
              refine pure_ (i := 5) (N := some 47) (v := ?_) (a' := ?_) #[true, true, true, true, true, true, false, false, false, false, false, false, false, false, false, false] rfl rfl (any_of HT_.out (by kernel_rfl)) (fun _ _ _ h => h) (Or.inl ⟨by rfl, ?_⟩) ?_ ?_
              rotate_left
              · intro w'
                go_simp
                with_reducible rfl
              rotate_left
              · simp only [Act.put, List.setIfInBounds_toArray, List.set_cons_zero, List.set_cons_succ, i64_w, i32_w]
                rfl
              refine take_ (i := 6) (N := some 48) (v := ?_) (a' := ?_) #[true, true, true, true, true, true, true, false, false, false, false, false, false, false, false, false] rfl rfl (take_ofW HT_.out HW_.out (by kernel_rfl)) (fun _ _ _ h => h) (Or.inl ⟨by rfl, ?_⟩) hHeld ?_ ?_
              rotate_left
              · intro w' s0; obtain ⟨s1, s2⟩ := s0
                go_simp
                with_reducible rfl
              rotate_left
              · simp only [Act.put, List.setIfInBounds_toArray, List.set_cons_zero, List.set_cons_succ, i64_w, i32_w]
                rfl
              refine pure_ (i := 7) (N := some 49) (v := ?_) (a' := ?_) #[true, true, true, true, true, true, true, true, false, false, false, false, false, false, false, false] rfl rfl (any_of HT_.out (by kernel_rfl)) (fun _ _ _ h => h) (Or.inl ⟨by rfl, ?_⟩) ?_ ?_
              rotate_left
              · intro w'
                go_simp
                with_reducible rfl
              rotate_left
              · simp only [Act.put, List.setIfInBounds_toArray, List.set_cons_zero, List.set_cons_succ, i64_w, i32_w]
                rfl
              refine pure_ (i := 8) (N := some 50) (v := ?_) (a' := ?_) #[true, true, true, true, true, true, true, true, true, false, false, false, false, false, false, false] rfl rfl (any_of HT_.out (by kernel_rfl)) (fun _ _ _ h => h) (Or.inl ⟨by rfl, ?_⟩) ?_ ?_
              rotate_left
              · intro w'
                go_simp
                with_reducible rfl
              rotate_left
              · simp only [Act.put, List.setIfInBounds_toArray, List.set_cons_zero, List.set_cons_succ, i64_w, i32_w]
                rfl
              refine pure_ (i := 9) (N := some 51) (v := undef) (a' := ?_) #[true, true, true, true, true, true, true, true, true, true, false, false, false, false, false, false] rfl rfl (any_of HT_.out (by kernel_rfl)) (fun _ _ _ h => h) (Or.inr ⟨by rfl, rfl⟩) ?_ ?_
              rotate_left
              · simp only [Act.put, List.setIfInBounds_toArray, List.set_cons_zero, List.set_cons_succ, i64_w, i32_w]
                rfl
              refine pure_ (i := 10) (N := some 52) (v := undef) (a' := ?_) #[true, true, true, true, true, true, true, true, true, true, true, false, false, false, false, false] rfl rfl (any_of HT_.out (by kernel_rfl)) (fun _ _ _ h => h) (Or.inr ⟨by rfl, rfl⟩) ?_ ?_
              rotate_left
              · simp only [Act.put, List.setIfInBounds_toArray, List.set_cons_zero, List.set_cons_succ, i64_w, i32_w]
                rfl
              refine pure_ (i := 11) (N := some 53) (v := undef) (a' := ?_) #[true, true, true, true, true, true, true, true, true, true, true, true, false, false, false, false] rfl rfl (any_of HT_.out (by kernel_rfl)) (fun _ _ _ h => h) (Or.inr ⟨by rfl, rfl⟩) ?_ ?_
              rotate_left
              · simp only [Act.put, List.setIfInBounds_toArray, List.set_cons_zero, List.set_cons_succ, i64_w, i32_w]
                rfl
              refine pure_ (i := 12) (N := some 54) (v := undef) (a' := ?_) #[true, true, true, true, true, true, true, true, true, true, true, true, true, false, false, false] rfl rfl (any_of HT_.out (by kernel_rfl)) (fun _ _ _ h => h) (Or.inr ⟨by rfl, rfl⟩) ?_ ?_
              rotate_left
              · simp only [Act.put, List.setIfInBounds_toArray, List.set_cons_zero, List.set_cons_succ, i64_w, i32_w]
                rfl
              refine pure_ (i := 13) (N := some 55) (v := undef) (a' := ?_) #[true, true, true, true, true, true, true, true, true, true, true, true, true, true, false, false] rfl rfl (any_of HT_.out (by kernel_rfl)) (fun _ _ _ h => h) (Or.inr ⟨by rfl, rfl⟩) ?_ ?_
              rotate_left
              · simp only [Act.put, List.setIfInBounds_toArray, List.set_cons_zero, List.set_cons_succ, i64_w, i32_w]
                rfl
              refine pure_ (i := 14) (N := some 56) (v := undef) (a' := ?_) #[true, true, true, true, true, true, true, true, true, true, true, true, true, true, true, false] rfl rfl (any_of HT_.out (by kernel_rfl)) (fun _ _ _ h => h) (Or.inr ⟨by rfl, rfl⟩) ?_ ?_
              rotate_left
              · simp only [Act.put, List.setIfInBounds_toArray, List.set_cons_zero, List.set_cons_succ, i64_w, i32_w]
                rfl
              refine pure_ (i := 15) (N := some 57) (v := ?_) (a' := ?_) #[true, true, true, true, true, true, true, true, true, true, true, true, true, true, true, true] rfl rfl (any_of HT_.out (by kernel_rfl)) (fun _ _ _ h => h) (Or.inl ⟨by rfl, ?_⟩) ?_ ?_
              rotate_left
              · intro w'
                go_simp
                with_reducible rfl
              rotate_left
              · simp only [Act.put, List.setIfInBounds_toArray, List.set_cons_zero, List.set_cons_succ, i64_w, i32_w]
                rfl
              refine done_ (done_of HT_.out (by kernel_rfl)) ?_
              try go_wp2
              go_meet
              case rel => exact ⟨_, (true), (by first | rfl | (simp; done) | (simp [*]; done)), H', ⟨by first | omega | exact Nat.le_refl _⟩, ⟨by (with_reducible repeat (first | apply Kd.R_alloc | apply Kd.R_drewN | apply Kd.R_drew)); exact HO457.out⟩, ⟨by repeat (first | (with_reducible first | exact HB.out | apply below_alloc | apply pw_below_drewN | apply below_drew1) | exact HB.out)⟩⟩
          case rest =>
            clear HC16
            try clear c1
            try clear c2
            try clear p2
            try clear q2
            try clear c3
            try clear q3
            try clear hcv3
            try clear p4
            try clear q4
            try clear hx4
            try clear hcv4
            try clear c13
            try clear c16
            try clear c20
            try clear q23
            try clear q24
            try clear c28
            try clear c28b0
            try clear c29
            try clear c29b0
            try clear c30
            try clear c30b0
            try clear c30b1
            try clear c31
            try clear c31b0
            try clear c31b1
            try clear q33
            try clear hcv34
            try clear hcv35
            try clear q38
            try clear hcv39
            try clear hcv40
            try clear hx477_0
            try clear p477
            try clear q23
            try clear q24
            try clear q33
            try clear q38
            try clear q477
            obtain ⟨kq, x57_15, rfl, HA, HJ15, HO_5, HB⟩ := hcut
            cases kq with
            | zero => exact absurd HA.out (by simp [galleylaw23_EscapeOwn.j0])
            | succ kj15 =>
              have H := HA.out
              clear HA
              simp only [galleylaw23_EscapeOwn.j0] at H
              by_cases c42 : x57_15 = true
              · subst c42
                have H1 : (some false) = some r := by rw [if_pos rfl] at H; exact H
                clear H
                have H := H1
                clear H1
                obtain rfl := Option.some.inj H
                go_wp2
                go_ret
                exact ⟨by first | rfl | (simp [errW_none, errW_some] <;> rfl) | (simp [*, errW_none, errW_some] <;> rfl), by repeat (first | (with_reducible first | exact HB.out | apply below_alloc | apply pw_below_drewN | apply below_drew1) | exact HB.out)⟩
              · replace c42 := Bool.eq_false_iff.mpr c42
                subst c42
                have H1 : (galleylaw23_EscapeOwn.l0 kj15 l0 a1 y455 t462 t467 t472 (y455.length : Int) 0) = some r := by rw [if_neg (show ¬ (false = true) by decide)] at H; exact H
                clear H
                have H := H1
                clear H1
                have H' := Aside0.mk H
                clear H
                go_wp2
                go_loopg [60] kj15 (fun kq v60 w' => ∃ (x5_2 : List Int) (x60_2 : Int), v60 = .int .i64 x60_2 ∧ Aside0 (galleylaw23_EscapeOwn.l0 kq l0 a1 x5_2 t462 t467 t472 (y455.length : Int) x60_2 = some r) ∧ Aside0 (kq ≤ kj15) ∧ Aside0 (Kd.R (Kd.int .u8) 5 w' w.heap.size (fun _ => True) (.slice Ao22 y455.length co22) x5_2) ∧ Aside0 (Below w.heap.size w w'))
                case atStart => exact ⟨(y455), (0), (by first | rfl | (simp; done) | (simp [*]; done)), H', ⟨Nat.le_refl _⟩, ⟨by (with_reducible repeat (first | apply Kd.R_alloc | apply Kd.R_drewN | apply Kd.R_drew)); exact HO_5.out⟩, ⟨by repeat (first | (with_reducible first | exact HB.out | apply below_alloc | apply pw_below_drewN | apply below_drew1) | exact HB.out)⟩⟩
                case round =>
                  clear H'
                  try clear c1
                  try clear c2
                  try clear p2
                  try clear q2
                  try clear c3
                  try clear q3
                  try clear hcv3
                  try clear c4
                  try clear p4
                  try clear q4
                  try clear hx4
                  try clear hcv4
                  try clear c13
                  try clear c16
                  try clear c20
                  try clear q23
                  try clear q24
                  try clear c28
                  try clear c28b0
                  try clear c29
                  try clear c29b0
                  try clear c30
                  try clear c30b0
                  try clear c30b1
                  try clear c31
                  try clear c31b0
                  try clear c31b1
                  try clear q33
                  try clear hcv34
                  try clear hcv35
                  try clear q38
                  try clear hcv39
                  try clear hcv40
                  try clear c42
                  try clear hx477_0
                  try clear p2
                  try clear p4
                  try clear p477
                  try clear q2
                  try clear q23
                  try clear q24
                  try clear q3
                  try clear q33
                  try clear q38
                  try clear q4
                  try clear q477
                  obtain ⟨x5_2, x60_2, rfl, HA, HK2, HO_5, HB⟩ := hrel
                  have hl5_2 := (Kd.R_reads' HO_5.out).1
                  rw [hl5_2] at HO_5
                  (try simp only [hl5_2])
                  cases gk with
                  | zero => exact absurd HA.out (by simp [galleylaw23_EscapeOwn.l0])
                  | succ k2 =>
                    have H := HA.out
                    clear HA
                    simp only [galleylaw23_EscapeOwn.l0] at H
                    by_cases c43 : x60_2 < (y455.length : Int)
                    · rw [if_pos c43] at H
                      have c43b0 : decide (x60_2 < (y455.length : Int)) = true := decide_eq_true c43
                      clear c43
                      by_cases c44 : 0 ≤ x60_2
                      · rw [if_pos c44] at H
                        have c44b0 : decide (0 ≤ x60_2) = true := decide_eq_true c44
                        clear c44
                        by_cases c45 : x60_2 < (x5_2.length : Int)
                        · rw [if_pos c45] at H
                          have c45b0 : decide (x60_2 < (x5_2.length : Int)) = true := decide_eq_true c45
                          clear c45
                          obtain ⟨y478, hy478⟩ : ∃ y_ : List Int, y_ = (x5_2.set (x60_2 : Int).toNat 120) := ⟨_, rfl⟩
                          replace H : (galleylaw23_EscapeOwn.l0 k2 l0 a1 y478 t462 t467 t472 (y455.length : Int) (wrap64 (x60_2 + 1))) = some r := by first | (rw [hy478]; with_reducible exact H) | (have H2_ := (Option.bind_some _ _).symm.trans H; rw [hy478]; with_reducible exact H2_) | (have H2_ := (Option.bind_some _ _).symm.trans H; with_reducible exact H2_) | with_reducible exact H | (rw [hy478]; exact H) | exact H
                          have Ny478 := Aside0.mk hy478
                          clear hy478
                          have H' := Aside0.mk H
                          clear H
                          have p46 : 0 ≤ (x60_2 : Int) := of_decide_eq_true (by first | (with_reducible assumption) | assumption)
                          have q46 : (x60_2 : Int) < ((x5_2.length : Int) : Int) := of_decide_eq_true (by first | (with_reducible assumption) | assumption)
                          obtain ⟨go46, co46, eo46, gb46, gl46, cl46, HG46⟩ := Kd.R_form HO_5.out (by omega)
                          (first | cases eo46 | (injection eo46 with ea_ en_ ec_; (first | subst ea_ | (injection ea_ with ea_; subst ea_)); subst ec_; clear en_))
                          have GB46 := Aside0.mk gb46
                          have GG46 := Aside0.mk HG46
                          clear gb46 gl46 HG46
                          obtain ⟨hx46_0, hf46_0⟩ := Kd.R_celln 0 HO_5.out (x60_2 : Int) p46 q46
                          replace p46 := eq_true p46
                          replace q46 := eq_true q46
                          have HP47 := Kd.R_putg HO_5.out (x60_2 : Int) 120
                          go_wp2_with (first | ((with_reducible refine gate_store (t := 5) (p := 65) rfl ?_); refine store_event (t := 5) (p := 65) (v := ?vo_w48) (w1 := (wr.setCell ⟨go46, (x60_2 : Int).toNat, none⟩ (.int .u8 120))) ?hg ?ho ?hn ?hr ?_; (case ho => rfl); (case hg => rfl); (case hn => rfl); (case hr => first | (go_simp; done) | (go_simp; rfl)); intro w48 hw; have hg : wr.grownBy w48 (some go46) := (by rw [hw]; exact HP47.2); have hp_ : Kd.R (Kd.int .u8) 5 w48 w.heap.size (fun _ => True) (.slice (some ⟨go46, 0, none⟩) x5_2.length co22) y478 := (by rw [hw, Ny478.out]; exact HP47.1); clear HP47; have n0_ := Aside0.mk (hp_); have n1_ := Aside0.mk ((by rw [hw]; exact below_set (HB.out) GB46.out : Below w.heap.size w w48)); clear HO_5; clear HB; have HO_5 := n0_; have HB := n1_; clear n0_ n1_; clear hg hw hp_))
                          (try simp only [← hl5_2])
                          go_roundg k2
                          case measure => have := HJ15.out; have := HK2.out; omega
                          case rel => exact ⟨(y478), (wrap64 (x60_2 + 1)), (by first | rfl | (simp; done) | (simp [*]; done)), H', ⟨by have := HJ15.out; have := HK2.out; omega⟩, ⟨by (try simp only [hl5_2]); (with_reducible repeat (first | apply Kd.R_alloc | apply Kd.R_drewN | apply Kd.R_drew)); exact HO_5.out⟩, ⟨by repeat (first | (with_reducible first | exact HB.out | apply below_alloc | apply pw_below_drewN | apply below_drew1) | exact HB.out)⟩⟩
                        · rw [if_neg c45] at H
                          exact absurd H (by simp)
                      · rw [if_neg c44] at H
                        exact absurd H (by simp)
                    · rw [if_neg c43] at H
                      have c43b0 : decide (x60_2 < (y455.length : Int)) = false := decide_eq_false c43
                      clear c43
                      have HC49 := Aside0.mk H
                      clear H
                      rw [hl5_2] at c43b0
                      go_upto_region 12 with (fail)
                      go_cut [82] (fun v82 wc => ∃ (kq : Nat) (x82_48 : Bool), v82 = .bool x82_48 ∧ Aside0 (galleylaw23_EscapeOwn.j2 kq a1 x82_48 = some r) ∧ Aside0 (kq ≤ k2) ∧ Aside0 (Below w.heap.size w wc))
                      case first =>
                        have H := HC49.out
                        clear HC49
                        replace H := Option.bind_eq_some_iff.mp H
                        obtain ⟨t479, A500, H⟩ := H
                        replace H : (if t462.toList = t479.toList then ((galleyref23_Plain.f k2 l0).bind fun t480 => (if t467.toList = t480.toList then ((galleyref23_Hex.f k2 l0).bind fun t481 => (galleylaw23_EscapeOwn.j2 k2 a1 (t472.toList != t481.toList))) else (galleylaw23_EscapeOwn.j2 k2 a1 true))) else (galleylaw23_EscapeOwn.j2 k2 a1 true)) = some r := H
                        have A50 := Aside0.mk A500
                        clear A500
                        by_cases c51 : t462.toList = t479.toList
                        · rw [if_pos c51] at H
                          have c51b0 : (t462.toList == t479.toList) = true := beq_iff_eq.mpr c51
                          have c51b1 : (t462.toList != t479.toList) = false := bne_eq_false_iff_eq.mpr c51
                          clear c51
                          (first | rw [c51b0] | (simp only [i64_w, i32_w]; rw [c51b0]) | skip)
                          replace H := Option.bind_eq_some_iff.mp H
                          obtain ⟨t480, A520, H⟩ := H
                          replace H : (if t467.toList = t480.toList then ((galleyref23_Hex.f k2 l0).bind fun t481 => (galleylaw23_EscapeOwn.j2 k2 a1 (t472.toList != t481.toList))) else (galleylaw23_EscapeOwn.j2 k2 a1 true)) = some r := H
                          have A52 := Aside0.mk A520
                          clear A520
                          by_cases c53 : t467.toList = t480.toList
                          · rw [if_pos c53] at H
                            have c53b0 : (t467.toList == t480.toList) = true := beq_iff_eq.mpr c53
                            have c53b1 : (t467.toList != t480.toList) = false := bne_eq_false_iff_eq.mpr c53
                            clear c53
                            replace H := Option.bind_eq_some_iff.mp H
                            obtain ⟨t481, A540, H⟩ := H
                            replace H : (galleylaw23_EscapeOwn.j2 k2 a1 (t472.toList != t481.toList)) = some r := H
                            have A54 := Aside0.mk A540
                            clear A540
                            have H' := Aside0.mk H
                            clear H
                            go_wp2_with (first | ((with_reducible refine gate_callee (f := 22) rfl ?_); refine goesL_ (some 69) rfl rfl Tryd.func22 (by kernel_rfl) rfl #[.slice A0 l0.length c0] rfl (by (try simp only [List.map_toArray, List.map_cons, List.map_nil]); first | done | rfl | (simp only [List.length_drop, List.length_take]; rfl)) ?_; (with_reducible refine (galleyref23_Quote.calls k2 _ _ l0 t479 _ ?side1 ?side2 A50.out).mono ?_); (case side1 => repeat (first | exact (Kd.C_below HR0.out HB.out) | (with_reducible refine Kd.C_alloc ?_ _) | (with_reducible refine Kd.C_drewN ?_ _) | (with_reducible refine Kd.C_drew ?_))); (case side2 => exact HC0.out); rintro e w55 ⟨rfl, hb⟩; refine ⟨_, rfl, ?_⟩; have n0_ := Aside0.mk (Kd.R_below (by (with_reducible repeat (first | apply Kd.R_alloc | apply Kd.R_drewN | apply Kd.R_drew)); exact HO_5.out) hb); have n1_ := Aside0.mk (below_step (by repeat (first | (with_reducible first | exact HB.out | apply below_alloc | apply pw_below_drewN | apply below_drew1) | exact HB.out)) hb); clear HO_5; clear HB; have HO_5 := n0_; have HB := n1_; clear n0_ n1_; (try clear hb); (try clear hb2); (try clear hk); (try clear hi)) | (go_at_call 23; (with_reducible refine (galleyref23_Plain.calls k2 _ _ l0 t480 _ ?side1 ?side2 A52.out).mono ?_); (case side1 => repeat (first | exact (Kd.C_below HR0.out HB.out) | (with_reducible refine Kd.C_alloc ?_ _) | (with_reducible refine Kd.C_drewN ?_ _) | (with_reducible refine Kd.C_drew ?_))); (case side2 => exact HC0.out); rintro e w56 ⟨rfl, hb⟩; have n0_ := Aside0.mk (Kd.R_below (by (with_reducible repeat (first | apply Kd.R_alloc | apply Kd.R_drewN | apply Kd.R_drew)); exact HO_5.out) hb); have n1_ := Aside0.mk (below_step (by repeat (first | (with_reducible first | exact HB.out | apply below_alloc | apply pw_below_drewN | apply below_drew1) | exact HB.out)) hb); clear HO_5; clear HB; have HO_5 := n0_; have HB := n1_; clear n0_ n1_; (try clear hb); (try clear hb2); (try clear hk); (try clear hi)) | (go_at_call 24; (with_reducible refine (galleyref23_Hex.calls k2 _ _ l0 t481 _ ?side1 ?side2 A54.out).mono ?_); (case side1 => repeat (first | exact (Kd.C_below HR0.out HB.out) | (with_reducible refine Kd.C_alloc ?_ _) | (with_reducible refine Kd.C_drewN ?_ _) | (with_reducible refine Kd.C_drew ?_))); (case side2 => exact HC0.out); rintro e w57 ⟨rfl, hb⟩; have n0_ := Aside0.mk (Kd.R_below (by (with_reducible repeat (first | apply Kd.R_alloc | apply Kd.R_drewN | apply Kd.R_drew)); exact HO_5.out) hb); have n1_ := Aside0.mk (below_step (by repeat (first | (with_reducible first | exact HB.out | apply below_alloc | apply pw_below_drewN | apply below_drew1) | exact HB.out)) hb); clear HO_5; clear HB; have HO_5 := n0_; have HB := n1_; clear n0_ n1_; (try clear hb); (try clear hb2); (try clear hk); (try clear hi)))
                            go_meet
                            case rel => exact ⟨_, ((t472.toList != t481.toList)), (by first | rfl | (simp; done) | (simp [*]; done)), H', ⟨by have := HJ15.out; have := HK2.out; first | omega | exact Nat.le_refl _⟩, ⟨by repeat (first | (with_reducible first | exact HB.out | apply below_alloc | apply pw_below_drewN | apply below_drew1) | exact HB.out)⟩⟩
                          · rw [if_neg c53] at H
                            have c53b0 : (t467.toList == t480.toList) = false := beq_eq_false_iff_ne.mpr c53
                            have c53b1 : (t467.toList != t480.toList) = true := bne_iff_ne.mpr c53
                            have H' := Aside0.mk H
                            clear H
                            go_wp2_with (first | ((with_reducible refine gate_callee (f := 22) rfl ?_); refine goesL_ (some 69) rfl rfl Tryd.func22 (by kernel_rfl) rfl #[.slice A0 l0.length c0] rfl (by (try simp only [List.map_toArray, List.map_cons, List.map_nil]); first | done | rfl | (simp only [List.length_drop, List.length_take]; rfl)) ?_; (with_reducible refine (galleyref23_Quote.calls k2 _ _ l0 t479 _ ?side1 ?side2 A50.out).mono ?_); (case side1 => repeat (first | exact (Kd.C_below HR0.out HB.out) | (with_reducible refine Kd.C_alloc ?_ _) | (with_reducible refine Kd.C_drewN ?_ _) | (with_reducible refine Kd.C_drew ?_))); (case side2 => exact HC0.out); rintro e w58 ⟨rfl, hb⟩; refine ⟨_, rfl, ?_⟩; have n0_ := Aside0.mk (Kd.R_below (by (with_reducible repeat (first | apply Kd.R_alloc | apply Kd.R_drewN | apply Kd.R_drew)); exact HO_5.out) hb); have n1_ := Aside0.mk (below_step (by repeat (first | (with_reducible first | exact HB.out | apply below_alloc | apply pw_below_drewN | apply below_drew1) | exact HB.out)) hb); clear HO_5; clear HB; have HO_5 := n0_; have HB := n1_; clear n0_ n1_; (try clear hb); (try clear hb2); (try clear hk); (try clear hi)) | (go_at_call 23; (with_reducible refine (galleyref23_Plain.calls k2 _ _ l0 t480 _ ?side1 ?side2 A52.out).mono ?_); (case side1 => repeat (first | exact (Kd.C_below HR0.out HB.out) | (with_reducible refine Kd.C_alloc ?_ _) | (with_reducible refine Kd.C_drewN ?_ _) | (with_reducible refine Kd.C_drew ?_))); (case side2 => exact HC0.out); rintro e w59 ⟨rfl, hb⟩; have n0_ := Aside0.mk (Kd.R_below (by (with_reducible repeat (first | apply Kd.R_alloc | apply Kd.R_drewN | apply Kd.R_drew)); exact HO_5.out) hb); have n1_ := Aside0.mk (below_step (by repeat (first | (with_reducible first | exact HB.out | apply below_alloc | apply pw_below_drewN | apply below_drew1) | exact HB.out)) hb); clear HO_5; clear HB; have HO_5 := n0_; have HB := n1_; clear n0_ n1_; (try clear hb); (try clear hb2); (try clear hk); (try clear hi)))
                            go_meet
                            case rel => exact ⟨_, (true), (by first | rfl | (simp; done) | (simp [*]; done)), H', ⟨by have := HJ15.out; have := HK2.out; first | omega | exact Nat.le_refl _⟩, ⟨by repeat (first | (with_reducible first | exact HB.out | apply below_alloc | apply pw_below_drewN | apply below_drew1) | exact HB.out)⟩⟩
                        · rw [if_neg c51] at H
                          have c51b0 : (t462.toList == t479.toList) = false := beq_eq_false_iff_ne.mpr c51
                          have c51b1 : (t462.toList != t479.toList) = true := bne_iff_ne.mpr c51
                          (first | rw [c51b0] | (simp only [i64_w, i32_w]; rw [c51b0]) | skip)
                          have H' := Aside0.mk H
                          clear H
                          go_wp2_with (first | ((with_reducible refine gate_callee (f := 22) rfl ?_); refine goesL_ (some 69) rfl rfl Tryd.func22 (by kernel_rfl) rfl #[.slice A0 l0.length c0] rfl (by (try simp only [List.map_toArray, List.map_cons, List.map_nil]); first | done | rfl | (simp only [List.length_drop, List.length_take]; rfl)) ?_; (with_reducible refine (galleyref23_Quote.calls k2 _ _ l0 t479 _ ?side1 ?side2 A50.out).mono ?_); (case side1 => repeat (first | exact (Kd.C_below HR0.out HB.out) | (with_reducible refine Kd.C_alloc ?_ _) | (with_reducible refine Kd.C_drewN ?_ _) | (with_reducible refine Kd.C_drew ?_))); (case side2 => exact HC0.out); rintro e w60 ⟨rfl, hb⟩; refine ⟨_, rfl, ?_⟩; have n0_ := Aside0.mk (Kd.R_below (by (with_reducible repeat (first | apply Kd.R_alloc | apply Kd.R_drewN | apply Kd.R_drew)); exact HO_5.out) hb); have n1_ := Aside0.mk (below_step (by repeat (first | (with_reducible first | exact HB.out | apply below_alloc | apply pw_below_drewN | apply below_drew1) | exact HB.out)) hb); clear HO_5; clear HB; have HO_5 := n0_; have HB := n1_; clear n0_ n1_; (try clear hb); (try clear hb2); (try clear hk); (try clear hi)))
                          go_meet
                          case rel => exact ⟨_, (true), (by first | rfl | (simp; done) | (simp [*]; done)), H', ⟨by have := HJ15.out; have := HK2.out; first | omega | exact Nat.le_refl _⟩, ⟨by repeat (first | (with_reducible first | exact HB.out | apply below_alloc | apply pw_below_drewN | apply below_drew1) | exact HB.out)⟩⟩
                      case rest =>
                        clear HC49
                        try clear c1
                        try clear c2
                        try clear p2
                        try clear q2
                        try clear c3
                        try clear q3
                        try clear hcv3
                        try clear c4
                        try clear p4
                        try clear q4
                        try clear hx4
                        try clear hcv4
                        try clear hf4
                        try clear c5
                        try clear p6
                        try clear c13
                        try clear c16
                        try clear c20
                        try clear c22
                        try clear q23
                        try clear q24
                        try clear c28
                        try clear c28b0
                        try clear c29
                        try clear c29b0
                        try clear c30
                        try clear c30b0
                        try clear c30b1
                        try clear c31
                        try clear c31b0
                        try clear c31b1
                        try clear q33
                        try clear hcv34
                        try clear hcv35
                        try clear q38
                        try clear hcv39
                        try clear hcv40
                        try clear c42
                        try clear c43
                        try clear c43b0
                        try clear c44
                        try clear c44b0
                        try clear c45
                        try clear c45b0
                        try clear p46
                        try clear q46
                        try clear hx46
                        try clear hf46
                        try clear p47
                        try clear q47
                        try clear hx47
                        try clear c51
                        try clear c51b0
                        try clear c51b1
                        try clear c53
                        try clear c53b0
                        try clear c53b1
                        try clear hx46_0
                        try clear hx477_0
                        try clear p2
                        try clear p4
                        try clear p46
                        try clear p477
                        try clear q2
                        try clear q23
                        try clear q24
                        try clear q3
                        try clear q33
                        try clear q38
                        try clear q4
                        try clear q46
                        try clear q477
                        obtain ⟨kq, x82_48, rfl, HA, HJ48, HB⟩ := hcut
                        cases kq with
                        | zero => exact absurd HA.out (by simp [galleylaw23_EscapeOwn.j2])
                        | succ kj48 =>
                          have H := HA.out
                          clear HA
                          simp only [galleylaw23_EscapeOwn.j2] at H
                          by_cases c61 : x82_48 = true
                          · subst c61
                            have H1 : (some false) = some r := by rw [if_pos rfl] at H; exact H
                            clear H
                            have H := H1
                            clear H1
                            obtain rfl := Option.some.inj H
                            go_wp2
                            go_ret
                            exact ⟨by first | rfl | (simp [errW_none, errW_some] <;> rfl) | (simp [*, errW_none, errW_some] <;> rfl), by repeat (first | (with_reducible first | exact HB.out | apply below_alloc | apply pw_below_drewN | apply below_drew1) | exact HB.out)⟩
                          · replace c61 := Bool.eq_false_iff.mpr c61
                            subst c61
                            have H1 : ((escape_Unquote.f kj48 a1).bind fun bt482 => ((escape_Unquote.f kj48 a1).bind fun bt487 => ((galleyref23_Unquote.f kj48 a1).bind fun bt492 => (galleylaw23_EscapeOwn.l1 kj48 bt482.1 bt487.1 bt492.1 bt492.2.2 (bt482.1.length : Int) 0)))) = some r := by rw [if_neg (show ¬ (false = true) by decide)] at H; exact H
                            clear H
                            have H := H1
                            clear H1
                            replace H := Option.bind_eq_some_iff.mp H
                            obtain ⟨⟨t482, t483, t484⟩, A620, H⟩ := H
                            replace H : ((escape_Unquote.f kj48 a1).bind fun bt487 => ((galleyref23_Unquote.f kj48 a1).bind fun bt492 => (galleylaw23_EscapeOwn.l1 kj48 t482 bt487.1 bt492.1 bt492.2.2 (t482.length : Int) 0))) = some r := H
                            have A62 := Aside0.mk A620
                            clear A620
                            replace H := Option.bind_eq_some_iff.mp H
                            obtain ⟨⟨t487, t488, t489⟩, A630, H⟩ := H
                            replace H : ((galleyref23_Unquote.f kj48 a1).bind fun bt492 => (galleylaw23_EscapeOwn.l1 kj48 t482 t487 bt492.1 bt492.2.2 (t482.length : Int) 0)) = some r := H
                            have A63 := Aside0.mk A630
                            clear A630
                            replace H := Option.bind_eq_some_iff.mp H
                            obtain ⟨⟨t492, t493, t494⟩, A640, H⟩ := H
                            replace H : (galleylaw23_EscapeOwn.l1 kj48 t482 t487 t492 t494 (t482.length : Int) 0) = some r := H
                            have A64 := Aside0.mk A640
                            clear A640
                            have H' := Aside0.mk H
                            clear H
                            go_wp2_with (first | ((with_reducible refine gate_callee (f := 15) rfl ?_); refine goesL_ (some 85) rfl rfl Tryd.func15 (by kernel_rfl) rfl #[.string a1] rfl (by (try simp only [List.map_toArray, List.map_cons, List.map_nil]); first | done | rfl | (simp only [List.length_drop, List.length_take]; rfl)) ?_; (with_reducible refine (escape_Unquote.calls kj48 a1 t482 t483 t484 _ ?side1 A62.out).mono ?_); (case side1 => exact Globs.below HG.out (by repeat (first | (with_reducible first | exact HB.out | apply below_alloc | apply pw_below_drewN | apply below_drew1) | exact HB.out))); rintro e w65 ⟨v485, rfl, ho0, hb⟩; refine ⟨_, rfl, ?_⟩; have n0_ := Aside0.mk (Kd.R_lower ho0 (below_size (by repeat (first | (with_reducible first | exact HB.out | apply below_alloc | apply pw_below_drewN | apply below_drew1) | exact HB.out)))); have n1_ := Aside0.mk (below_step (by repeat (first | (with_reducible first | exact HB.out | apply below_alloc | apply pw_below_drewN | apply below_drew1) | exact HB.out)) hb); clear HB; have HO486 := n0_; have HB := n1_; clear n0_ n1_; (try clear hb); (try clear hb2); (try clear hk); (try clear hi); (try clear ho0)) | ((with_reducible refine gate_callee (f := 15) rfl ?_); refine goesL_ (some 91) rfl rfl Tryd.func15 (by kernel_rfl) rfl #[.string a1] rfl (by (try simp only [List.map_toArray, List.map_cons, List.map_nil]); first | done | rfl | (simp only [List.length_drop, List.length_take]; rfl)) ?_; (with_reducible refine (escape_Unquote.calls kj48 a1 t487 t488 t489 _ ?side1 A63.out).mono ?_); (case side1 => exact Globs.below HG.out (by repeat (first | (with_reducible first | exact HB.out | apply below_alloc | apply pw_below_drewN | apply below_drew1) | exact HB.out))); rintro e w66 ⟨v490, rfl, ho0, hb⟩; refine ⟨_, rfl, ?_⟩; have n0_ := Aside0.mk (Kd.R_elder' (by (with_reducible repeat (first | apply Kd.R_alloc | apply Kd.R_drewN | apply Kd.R_drew)); exact HO486.out) (Kd.R_base ho0) hb); have n1_ := Aside0.mk (Kd.R_lower (Kd.R_new' ho0 (Kd.R_lt (by (with_reducible repeat (first | apply Kd.R_alloc | apply Kd.R_drewN | apply Kd.R_drew)); exact HO486.out))) (below_size (by repeat (first | (with_reducible first | exact HB.out | apply below_alloc | apply pw_below_drewN | apply below_drew1) | exact HB.out)))); have n2_ := Aside0.mk (below_step (by repeat (first | (with_reducible first | exact HB.out | apply below_alloc | apply pw_below_drewN | apply below_drew1) | exact HB.out)) hb); clear HO486; clear HB; have HO486 := n0_; have HO491 := n1_; have HB := n2_; clear n0_ n1_ n2_; (try clear hb); (try clear hb2); (try clear hk); (try clear hi); (try clear ho0)) | ((with_reducible refine gate_callee (f := 17) rfl ?_); refine goesL_ (some 97) rfl rfl Tryd.func17 (by kernel_rfl) rfl #[.string a1] rfl (by (try simp only [List.map_toArray, List.map_cons, List.map_nil]); first | done | rfl | (simp only [List.length_drop, List.length_take]; rfl)) ?_; (with_reducible refine (galleyref23_Unquote.calls kj48 a1 t492 t493 t494 _ A64.out).mono ?_); rintro e w67 ⟨v495, rfl, ho0, hb⟩; refine ⟨_, rfl, ?_⟩; have n0_ := Aside0.mk (Kd.R_elder' (by (with_reducible repeat (first | apply Kd.R_alloc | apply Kd.R_drewN | apply Kd.R_drew)); exact HO486.out) (Kd.R_base ho0) hb); have n1_ := Aside0.mk (Kd.R_elder' (by (with_reducible repeat (first | apply Kd.R_alloc | apply Kd.R_drewN | apply Kd.R_drew)); exact HO491.out) (Kd.R_base ho0) hb); have n2_ := Aside0.mk (Kd.R_lower (Kd.R_new' (Kd.R_new' ho0 (Kd.R_lt (by (with_reducible repeat (first | apply Kd.R_alloc | apply Kd.R_drewN | apply Kd.R_drew)); exact HO486.out))) (Kd.R_lt (by (with_reducible repeat (first | apply Kd.R_alloc | apply Kd.R_drewN | apply Kd.R_drew)); exact HO491.out))) (below_size (by repeat (first | (with_reducible first | exact HB.out | apply below_alloc | apply pw_below_drewN | apply below_drew1) | exact HB.out)))); have n3_ := Aside0.mk (below_step (by repeat (first | (with_reducible first | exact HB.out | apply below_alloc | apply pw_below_drewN | apply below_drew1) | exact HB.out)) hb); clear HO486; clear HO491; clear HB; have HO486 := n0_; have HO491 := n1_; have HO496 := n2_; have HB := n3_; clear n0_ n1_ n2_ n3_; (try clear hb); (try clear hb2); (try clear hk); (try clear hi); (try clear ho0); obtain ⟨Ao68, co68, eo68⟩ := Kd.R_slice HO486.out; subst eo68))
                            go_loopg [103] kj48 (fun kq v103 w' => ∃ (x10_4 : List Int) (x103_4 : Int), v103 = .int .i64 x103_4 ∧ Aside0 (galleylaw23_EscapeOwn.l1 kq x10_4 t487 t492 t494 (t482.length : Int) x103_4 = some r) ∧ Aside0 (kq ≤ kj48) ∧ Aside0 (Kd.R (Kd.int .u8) 5 w' w.heap.size (fun k_ => some k_ ≠ (v490 : Value).ownBlock ∧ some k_ ≠ (v495 : Value).ownBlock) (.slice Ao68 t482.length co68) x10_4) ∧ Aside0 (Kd.R (Kd.int .u8) 5 w' w.heap.size (fun k_ => some k_ ≠ ((.slice Ao68 t482.length co68) : Value).ownBlock ∧ some k_ ≠ (v495 : Value).ownBlock) v490 t487) ∧ Aside0 (Kd.R (Kd.int .u8) 5 w' w.heap.size (fun k_ => some k_ ≠ ((.slice Ao68 t482.length co68) : Value).ownBlock ∧ some k_ ≠ (v490 : Value).ownBlock) v495 t492) ∧ Aside0 (Below w.heap.size w w'))
                            case atStart => exact ⟨(t482), (0), (by first | rfl | (simp; done) | (simp [*]; done)), H', ⟨Nat.le_refl _⟩, ⟨by (try simp only [hl5_2]); (with_reducible repeat (first | apply Kd.R_alloc | apply Kd.R_drewN | apply Kd.R_drew)); exact Kd.R_mono HO486.out (fun _ hk => ⟨hk.1.2, hk.2⟩)⟩, ⟨by (try simp only [hl5_2]); (with_reducible repeat (first | apply Kd.R_alloc | apply Kd.R_drewN | apply Kd.R_drew)); exact Kd.R_mono HO491.out (fun _ hk => ⟨hk.1.2, hk.2⟩)⟩, ⟨by (try simp only [hl5_2]); (with_reducible repeat (first | apply Kd.R_alloc | apply Kd.R_drewN | apply Kd.R_drew)); exact Kd.R_mono HO496.out (fun _ hk => ⟨hk.1.2, hk.2⟩)⟩, ⟨by repeat (first | (with_reducible first | exact HB.out | apply below_alloc | apply pw_below_drewN | apply below_drew1) | exact HB.out)⟩⟩
                            case round =>
                              clear H'
                              try clear c1
                              try clear c2
                              try clear p2
                              try clear q2
                              try clear c3
                              try clear q3
                              try clear hcv3
                              try clear c4
                              try clear p4
                              try clear q4
                              try clear hx4
                              try clear hcv4
                              try clear hf4
                              try clear c5
                              try clear c6
                              try clear p6
                              try clear c13
                              try clear c15
                              try clear c16
                              try clear c17
                              try clear c20
                              try clear c22
                              try clear q23
                              try clear q24
                              try clear c28
                              try clear c28b0
                              try clear c29
                              try clear c29b0
                              try clear c30
                              try clear c30b0
                              try clear c30b1
                              try clear c31
                              try clear c31b0
                              try clear c31b1
                              try clear q33
                              try clear hcv34
                              try clear hcv35
                              try clear q38
                              try clear hcv39
                              try clear hcv40
                              try clear c42
                              try clear c43
                              try clear c43b0
                              try clear c44
                              try clear c44b0
                              try clear c45
                              try clear c45b0
                              try clear p46
                              try clear q46
                              try clear hx46
                              try clear hf46
                              try clear p47
                              try clear q47
                              try clear hx47
                              try clear c51
                              try clear c51b0
                              try clear c51b1
                              try clear c53
                              try clear c53b0
                              try clear c53b1
                              try clear c61
                              try clear p64
                              try clear hx46_0
                              try clear hx477_0
                              try clear p2
                              try clear p4
                              try clear p46
                              try clear p47
                              try clear p477
                              try clear p6
                              try clear q2
                              try clear q23
                              try clear q24
                              try clear q3
                              try clear q33
                              try clear q38
                              try clear q4
                              try clear q46
                              try clear q47
                              try clear q477
                              obtain ⟨x10_4, x103_4, rfl, HA, HK4, HO_10, HO_13, HO_16, HB⟩ := hrel
                              have hl10_4 := (Kd.R_reads' HO_10.out).1
                              rw [hl10_4] at HO_10
                              (try simp only [hl10_4])
                              (try simp only [hl10_4] at HO_13)
                              (try simp only [hl10_4] at HO_16)
                              cases gk with
                              | zero => exact absurd HA.out (by simp [galleylaw23_EscapeOwn.l1])
                              | succ k4 =>
                                have H := HA.out
                                clear HA
                                simp only [galleylaw23_EscapeOwn.l1] at H
                                by_cases c69 : x103_4 < (t482.length : Int)
                                · rw [if_pos c69] at H
                                  have c69b0 : decide (x103_4 < (t482.length : Int)) = true := decide_eq_true c69
                                  clear c69
                                  by_cases c70 : 0 ≤ x103_4
                                  · rw [if_pos c70] at H
                                    have c70b0 : decide (0 ≤ x103_4) = true := decide_eq_true c70
                                    clear c70
                                    by_cases c71 : x103_4 < (x10_4.length : Int)
                                    · rw [if_pos c71] at H
                                      have c71b0 : decide (x103_4 < (x10_4.length : Int)) = true := decide_eq_true c71
                                      clear c71
                                      obtain ⟨y497, hy497⟩ : ∃ y_ : List Int, y_ = (x10_4.set (x103_4 : Int).toNat 122) := ⟨_, rfl⟩
                                      replace H : (galleylaw23_EscapeOwn.l1 k4 y497 t487 t492 t494 (t482.length : Int) (wrap64 (x103_4 + 1))) = some r := by first | (rw [hy497]; with_reducible exact H) | (have H2_ := (Option.bind_some _ _).symm.trans H; rw [hy497]; with_reducible exact H2_) | (have H2_ := (Option.bind_some _ _).symm.trans H; with_reducible exact H2_) | with_reducible exact H | (rw [hy497]; exact H) | exact H
                                      have Ny497 := Aside0.mk hy497
                                      clear hy497
                                      have H' := Aside0.mk H
                                      clear H
                                      have p72 : 0 ≤ (x103_4 : Int) := of_decide_eq_true (by first | (with_reducible assumption) | assumption)
                                      have q72 : (x103_4 : Int) < ((x10_4.length : Int) : Int) := of_decide_eq_true (by first | (with_reducible assumption) | assumption)
                                      obtain ⟨go72, co72, eo72, gb72, gl72, cl72, HG72⟩ := Kd.R_form HO_10.out (by omega)
                                      (first | cases eo72 | (injection eo72 with ea_ en_ ec_; (first | subst ea_ | (injection ea_ with ea_; subst ea_)); subst ec_; clear en_))
                                      have GB72 := Aside0.mk gb72
                                      have GG72 := Aside0.mk HG72
                                      clear gb72 gl72 HG72
                                      obtain ⟨hx72_0, hf72_0⟩ := Kd.R_celln 0 HO_10.out (x103_4 : Int) p72 q72
                                      replace p72 := eq_true p72
                                      replace q72 := eq_true q72
                                      have HP73 := Kd.R_putg HO_10.out (x103_4 : Int) 122
                                      go_wp2_with (first | ((with_reducible refine gate_store (t := 5) (p := 108) rfl ?_); refine store_event (t := 5) (p := 108) (v := ?vo_w74) (w1 := (wr.setCell ⟨go72, (x103_4 : Int).toNat, none⟩ (.int .u8 122))) ?hg ?ho ?hn ?hr ?_; (case ho => rfl); (case hg => rfl); (case hn => rfl); (case hr => first | (go_simp; done) | (go_simp; rfl)); intro w74 hw; have hg : wr.grownBy w74 (some go72) := (by rw [hw]; exact HP73.2); have hp_ : Kd.R (Kd.int .u8) 5 w74 w.heap.size (fun k_ => some k_ ≠ (v490 : Value).ownBlock ∧ some k_ ≠ (v495 : Value).ownBlock) (.slice (some ⟨go72, 0, none⟩) x10_4.length co68) y497 := (by rw [hw, Ny497.out]; exact HP73.1); clear HP73; have n0_ := Aside0.mk (hp_); have n1_ := Aside0.mk (Kd.R_after (v := (.slice (some ⟨go72, 0, none⟩) x10_4.length co68)) (v1 := (.slice (some ⟨go72, 0, none⟩) x10_4.length co68)) (ok := (fun k_ => some k_ ≠ (v495 : Value).ownBlock)) (by (with_reducible repeat (first | apply Kd.R_alloc | apply Kd.R_drewN | apply Kd.R_drew)); exact Kd.R_mono HO_13.out (fun _ hk => ⟨hk.2, hk.1⟩)) hg (.inl rfl)); have n2_ := Aside0.mk (Kd.R_after (v := (.slice (some ⟨go72, 0, none⟩) x10_4.length co68)) (v1 := (.slice (some ⟨go72, 0, none⟩) x10_4.length co68)) (ok := (fun k_ => some k_ ≠ (v490 : Value).ownBlock)) (by (with_reducible repeat (first | apply Kd.R_alloc | apply Kd.R_drewN | apply Kd.R_drew)); exact Kd.R_mono HO_16.out (fun _ hk => ⟨hk.2, hk.1⟩)) hg (.inl rfl)); have n3_ := Aside0.mk ((by rw [hw]; exact below_set (HB.out) GB72.out : Below w.heap.size w w74)); clear HO_10; clear HO_13; clear HO_16; clear HB; have HO_10 := n0_; have HO_13 := n1_; have HO_16 := n2_; have HB := n3_; clear n0_ n1_ n2_ n3_; clear hg hw hp_))
                                      (try simp only [← hl10_4])
                                      go_roundg k4
                                      case measure => have := HJ15.out; have := HK2.out; have := HJ48.out; have := HK4.out; omega
                                      case rel => exact ⟨(y497), (wrap64 (x103_4 + 1)), (by first | rfl | (simp; done) | (simp [*]; done)), H', ⟨by have := HJ15.out; have := HK2.out; have := HJ48.out; have := HK4.out; omega⟩, ⟨by (try simp only [hl5_2]); (try simp only [hl10_4]); (with_reducible repeat (first | apply Kd.R_alloc | apply Kd.R_drewN | apply Kd.R_drew)); exact HO_10.out⟩, ⟨by (try simp only [hl5_2]); (try simp only [hl10_4]); (with_reducible repeat (first | apply Kd.R_alloc | apply Kd.R_drewN | apply Kd.R_drew)); exact Kd.R_mono HO_13.out (fun _ hk => ⟨hk.2, hk.1⟩)⟩, ⟨by (try simp only [hl5_2]); (try simp only [hl10_4]); (with_reducible repeat (first | apply Kd.R_alloc | apply Kd.R_drewN | apply Kd.R_drew)); exact Kd.R_mono HO_16.out (fun _ hk => ⟨hk.2, hk.1⟩)⟩, ⟨by repeat (first | (with_reducible first | exact HB.out | apply below_alloc | apply pw_below_drewN | apply below_drew1) | exact HB.out)⟩⟩
                                    · rw [if_neg c71] at H
                                      exact absurd H (by simp)
                                  · rw [if_neg c70] at H
                                    exact absurd H (by simp)
                                · rw [if_neg c69] at H
                                  have c69b0 : decide (x103_4 < (t482.length : Int)) = false := decide_eq_false c69
                                  clear c69
                                  rw [hl10_4] at c69b0
                                  have H' := Aside0.mk H
                                  clear H
                                  go_wp2
                                  go_loopg [10, 20] k4 (fun kq v10 v20 w' => ∃ (x10_5 : List Int) (x20_5 : Int), v20 = .int .i64 x20_5 ∧ Aside0 (galleylaw23_EscapeOwn.l2 kq x10_5 t487 t492 t494 x20_5 = some r) ∧ Aside0 (kq ≤ k4) ∧ Aside0 (Kd.R (Kd.int .u8) 5 w' w.heap.size (fun k_ => some k_ ≠ (v490 : Value).ownBlock ∧ some k_ ≠ (v495 : Value).ownBlock) v10 x10_5) ∧ Aside0 (Kd.R (Kd.int .u8) 5 w' w.heap.size (fun k_ => some k_ ≠ (v10 : Value).ownBlock ∧ some k_ ≠ (v495 : Value).ownBlock) v490 t487) ∧ Aside0 (Kd.R (Kd.int .u8) 5 w' w.heap.size (fun k_ => some k_ ≠ (v10 : Value).ownBlock ∧ some k_ ≠ (v490 : Value).ownBlock) v495 t492) ∧ Aside0 (Below w.heap.size w w'))
                                  case atStart => exact ⟨(x10_4), (0), (by first | rfl | (simp; done) | (simp [*]; done)), H', ⟨Nat.le_refl _⟩, ⟨by (try simp only [hl5_2]); (try simp only [hl10_4]); (with_reducible repeat (first | apply Kd.R_alloc | apply Kd.R_drewN | apply Kd.R_drew)); exact HO_10.out⟩, ⟨by (try simp only [hl5_2]); (try simp only [hl10_4]); (with_reducible repeat (first | apply Kd.R_alloc | apply Kd.R_drewN | apply Kd.R_drew)); exact HO_13.out⟩, ⟨by (try simp only [hl5_2]); (try simp only [hl10_4]); (with_reducible repeat (first | apply Kd.R_alloc | apply Kd.R_drewN | apply Kd.R_drew)); exact HO_16.out⟩, ⟨by repeat (first | (with_reducible first | exact HB.out | apply below_alloc | apply pw_below_drewN | apply below_drew1) | exact HB.out)⟩⟩
                                  case round =>
                                    clear H'
                                    try clear c1
                                    try clear c2
                                    try clear p2
                                    try clear q2
                                    try clear c3
                                    try clear q3
                                    try clear hcv3
                                    try clear c4
                                    try clear p4
                                    try clear q4
                                    try clear hx4
                                    try clear hcv4
                                    try clear hf4
                                    try clear c5
                                    try clear c6
                                    try clear p6
                                    try clear c7
                                    try clear p7
                                    try clear q7
                                    try clear hx7
                                    try clear hf7
                                    try clear c13
                                    try clear c15
                                    try clear c16
                                    try clear c17
                                    try clear c20
                                    try clear c22
                                    try clear q23
                                    try clear q24
                                    try clear c28
                                    try clear c28b0
                                    try clear c29
                                    try clear c29b0
                                    try clear c30
                                    try clear c30b0
                                    try clear c30b1
                                    try clear c31
                                    try clear c31b0
                                    try clear c31b1
                                    try clear q33
                                    try clear hcv34
                                    try clear hcv35
                                    try clear q38
                                    try clear hcv39
                                    try clear hcv40
                                    try clear c42
                                    try clear c43
                                    try clear c43b0
                                    try clear c44
                                    try clear c44b0
                                    try clear c45
                                    try clear c45b0
                                    try clear p46
                                    try clear q46
                                    try clear hx46
                                    try clear hf46
                                    try clear p47
                                    try clear q47
                                    try clear hx47
                                    try clear c51
                                    try clear c51b0
                                    try clear c51b1
                                    try clear c53
                                    try clear c53b0
                                    try clear c53b1
                                    try clear c61
                                    try clear p64
                                    try clear c69
                                    try clear c69b0
                                    try clear c70
                                    try clear c70b0
                                    try clear c71
                                    try clear c71b0
                                    try clear p72
                                    try clear q72
                                    try clear hx72
                                    try clear hf72
                                    try clear hx46_0
                                    try clear hx477_0
                                    try clear hx72_0
                                    try clear p2
                                    try clear p4
                                    try clear p46
                                    try clear p47
                                    try clear p477
                                    try clear p6
                                    try clear p64
                                    try clear p72
                                    try clear q2
                                    try clear q23
                                    try clear q24
                                    try clear q3
                                    try clear q33
                                    try clear q38
                                    try clear q4
                                    try clear q46
                                    try clear q47
                                    try clear q477
                                    try clear q72
                                    obtain ⟨x10_5, x20_5, rfl, HA, HK5, HO_10, HO_13, HO_16, HB⟩ := hrel
                                    cases gk with
                                    | zero => exact absurd HA.out (by simp [galleylaw23_EscapeOwn.l2])
                                    | succ k5 =>
                                      have H := HA.out
                                      clear HA
                                      simp only [galleylaw23_EscapeOwn.l2] at H
                                      by_cases c75 : x20_5 < 20
                                      · rw [if_pos c75] at H
                                        have c75b0 : decide (x20_5 < 20) = true := decide_eq_true c75
                                        clear c75
                                        by_cases c76 : x10_5.length < 140737488355328
                                        · rw [if_pos c76] at H
                                          have LMc76 := Aside0.mk c76
                                          clear c76
                                          obtain ⟨y498, hy498⟩ : ∃ y_ : List Int, y_ = (x10_5 ++ [122]) := ⟨_, rfl⟩
                                          replace H : (galleylaw23_EscapeOwn.l2 k5 y498 t487 t492 t494 (wrap64 (x20_5 + 1))) = some r := by first | (rw [hy498]; with_reducible exact H) | (have H2_ := (Option.bind_some _ _).symm.trans H; rw [hy498]; with_reducible exact H2_) | (have H2_ := (Option.bind_some _ _).symm.trans H; with_reducible exact H2_) | with_reducible exact H | (rw [hy498]; exact H) | exact H
                                          have Ny498 := Aside0.mk hy498
                                          clear hy498
                                          have H' := Aside0.mk H
                                          clear H
                                          go_wp2_with (first | ((with_reducible refine gate_builtin (b := .append) (xs := #[.tmp 114, .tmp 115]) rfl ?_); (try (refine gate_guard (by rfl) ?_; dsimp only)); at_builtin; refine Kd.R_append (Kd.int .u8) (w0 := w) w.heap.size rfl (.tmp 114) (.tmp 115) 22 5 (.int .u8 0) 1 rfl Tryd.underlying22 info5 rfl (by decide) (by omega) u10 x10_5 122 [.int .u8 122] (fun k_ => some k_ ≠ (v490 : Value).ownBlock ∧ some k_ ≠ (v495 : Value).ownBlock) (fun _ => False) rfl rfl ?aP (fun _ hk => hk.elim) ?aF ?aO ?aB ?aS ?aL ?_; (case aP => exact rfl); (case aB => exact (by repeat (first | (with_reducible first | exact HB.out | apply below_alloc | apply pw_below_drewN | apply below_drew1) | exact HB.out))); (case aF => exact (fun k_ hk => ⟨Kd.fresh' (Kd.R_lt (by (with_reducible repeat (first | apply Kd.R_alloc | apply Kd.R_drewN | apply Kd.R_drew)); exact HO_13.out)) k_ hk, Kd.fresh' (Kd.R_lt (by (with_reducible repeat (first | apply Kd.R_alloc | apply Kd.R_drewN | apply Kd.R_drew)); exact HO_16.out)) k_ hk⟩)); (case aO => exact (by (with_reducible repeat (first | apply Kd.R_alloc | apply Kd.R_drewN | apply Kd.R_drew)); exact HO_10.out)); (case aS => exact (below_size (by repeat (first | (with_reducible first | exact HB.out | apply below_alloc | apply pw_below_drewN | apply below_drew1) | exact HB.out)))); (case aL => have := LMc76.out; omega); intro v499 w77 ho hb hg hat; rw [← Ny498.out] at ho; have n0_ := Aside0.mk (Kd.R_after (ok := (fun k_ => some k_ ≠ (v495 : Value).ownBlock)) (by (with_reducible repeat (first | apply Kd.R_alloc | apply Kd.R_drewN | apply Kd.R_drew)); exact Kd.R_mono HO_13.out (fun _ hk => ⟨hk.2, hk.1⟩)) hg hat); have n1_ := Aside0.mk (Kd.R_after (ok := (fun k_ => some k_ ≠ (v490 : Value).ownBlock)) (by (with_reducible repeat (first | apply Kd.R_alloc | apply Kd.R_drewN | apply Kd.R_drew)); exact Kd.R_mono HO_16.out (fun _ hk => ⟨hk.2, hk.1⟩)) hg hat); have n2_ := Aside0.mk (hb); have n3_ := Aside0.mk (ho); clear HO_13; clear HO_16; clear HB; clear HO_10; have HO_13 := n0_; have HO_16 := n1_; have HB := n2_; have HO500 := n3_; clear n0_ n1_ n2_ n3_; clear ho hb hg hat))
                                          go_roundg k5
                                          case measure => have := HJ15.out; have := HK2.out; have := HJ48.out; have := HK4.out; have := HK5.out; omega
                                          case rel => exact ⟨(y498), (wrap64 (x20_5 + 1)), (by first | rfl | (simp; done) | (simp [*]; done)), H', ⟨by have := HJ15.out; have := HK2.out; have := HJ48.out; have := HK4.out; have := HK5.out; omega⟩, ⟨by (try simp only [hl5_2]); (try simp only [hl10_4]); (with_reducible repeat (first | apply Kd.R_alloc | apply Kd.R_drewN | apply Kd.R_drew)); exact HO500.out⟩, ⟨by (try simp only [hl5_2]); (try simp only [hl10_4]); (with_reducible repeat (first | apply Kd.R_alloc | apply Kd.R_drewN | apply Kd.R_drew)); exact Kd.R_mono HO_13.out (fun _ hk => ⟨hk.2, hk.1⟩)⟩, ⟨by (try simp only [hl5_2]); (try simp only [hl10_4]); (with_reducible repeat (first | apply Kd.R_alloc | apply Kd.R_drewN | apply Kd.R_drew)); exact Kd.R_mono HO_16.out (fun _ hk => ⟨hk.2, hk.1⟩)⟩, ⟨by repeat (first | (with_reducible first | exact HB.out | apply below_alloc | apply pw_below_drewN | apply below_drew1) | exact HB.out)⟩⟩
                                        · rw [if_neg c76] at H
                                          exact absurd H (by simp)
                                      · rw [if_neg c75] at H
                                        have c75b0 : decide (x20_5 < 20) = false := decide_eq_false c75
                                        clear c75
                                        by_cases c78 : (strOfNums t487).toList = (strOfNums t492).toList
                                        · rw [if_pos c78] at H
                                          have c78b0 : ((strOfNums t487).toList == (strOfNums t492).toList) = true := beq_iff_eq.mpr c78
                                          have c78b1 : ((strOfNums t487).toList != (strOfNums t492).toList) = false := bne_eq_false_iff_eq.mpr c78
                                          clear c78
                                          by_cases c79 : t494 = 0
                                          · rw [if_pos c79] at H
                                            have c79b0 : (t494 == 0) = true := beq_iff_eq.mpr c79
                                            have c79b1 : (t494 != 0) = false := bne_eq_false_iff_eq.mpr c79
                                            clear c79
                                            obtain rfl := Option.some.inj H
                                            have hcv80 := own_string (P := Tryd.prog) Tryd.underlying22 Tryd.underlying5 Tryd.underlying9 (Kd.own_of_R HO_13.out)
                                            have hcv81 := own_string (P := Tryd.prog) Tryd.underlying22 Tryd.underlying5 Tryd.underlying9 (Kd.own_of_R HO_16.out)
                                            go_wp2
                                            go_ret
                                            exact ⟨by first | rfl | (simp [errW_none, errW_some] <;> rfl) | (simp [*, errW_none, errW_some] <;> rfl), by repeat (first | (with_reducible first | exact HB.out | apply below_alloc | apply pw_below_drewN | apply below_drew1) | exact HB.out)⟩
                                          · rw [if_neg c79] at H
                                            have c79b0 : (t494 == 0) = false := beq_eq_false_iff_ne.mpr c79
                                            have c79b1 : (t494 != 0) = true := bne_iff_ne.mpr c79
                                            obtain rfl := Option.some.inj H
                                            have hcv82 := own_string (P := Tryd.prog) Tryd.underlying22 Tryd.underlying5 Tryd.underlying9 (Kd.own_of_R HO_13.out)
                                            have hcv83 := own_string (P := Tryd.prog) Tryd.underlying22 Tryd.underlying5 Tryd.underlying9 (Kd.own_of_R HO_16.out)
                                            obtain ⟨Ao84, co84, eo84⟩ := Kd.R_slice HO_13.out
                                            subst eo84
                                            go_wp2
                                            go_ret
                                            exact ⟨by first | rfl | (simp [errW_none, errW_some] <;> rfl) | (simp [*, errW_none, errW_some] <;> rfl), by repeat (first | (with_reducible first | exact HB.out | apply below_alloc | apply pw_below_drewN | apply below_drew1) | exact HB.out)⟩
                                        · rw [if_neg c78] at H
                                          have c78b0 : ((strOfNums t487).toList == (strOfNums t492).toList) = false := beq_eq_false_iff_ne.mpr c78
                                          have c78b1 : ((strOfNums t487).toList != (strOfNums t492).toList) = true := bne_iff_ne.mpr c78
                                          obtain rfl := Option.some.inj H
                                          have hcv85 := own_string (P := Tryd.prog) Tryd.underlying22 Tryd.underlying5 Tryd.underlying9 (Kd.own_of_R HO_13.out)
                                          have hcv86 := own_string (P := Tryd.prog) Tryd.underlying22 Tryd.underlying5 Tryd.underlying9 (Kd.own_of_R HO_16.out)
                                          go_wp2
                                          go_ret
                                          exact ⟨by first | rfl | (simp [errW_none, errW_some] <;> rfl) | (simp [*, errW_none, errW_some] <;> rfl), by repeat (first | (with_reducible first | exact HB.out | apply below_alloc | apply pw_below_drewN | apply below_drew1) | exact HB.out)⟩
        · rw [if_neg c8] at H
          exact absurd H (by simp)
      · rw [if_neg c7] at H
        exact absurd H (by simp)
    · rw [if_neg c6] at H
      exact absurd H (by simp)
  · replace c4 := Bool.eq_false_iff.mpr c4
    subst c4
    have H1 : (some false) = some r := by rw [if_neg (show ¬ (false = true) by decide)] at H; exact H
    clear H
    have H := H1
    clear H1
    obtain rfl := Option.some.inj H
    go_enter Tryd.func10, Tryd.ntmps10
    go_wp2_with (first | ((with_reducible refine gate_callee (f := 11) rfl ?_); refine goesL_ (some 21) rfl rfl Tryd.func11 (by kernel_rfl) rfl #[] rfl (by (try simp only [List.map_toArray, List.map_cons, List.map_nil]); first | done | rfl | (simp only [List.length_drop, List.length_take]; rfl)) ?_; (with_reducible refine (galleylaw23_awake.calls k  false _ ?side1 A3.out).mono ?_); (case side1 => exact Globs.below HG.out (by repeat (first | (with_reducible first | exact HB.out | apply below_alloc | apply pw_below_drewN | apply below_drew1) | exact HB.out))); rintro e w87 ⟨rfl, hb⟩; refine ⟨_, rfl, ?_⟩; have n0_ := Aside0.mk (below_step (by repeat (first | (with_reducible first | exact HB.out | apply below_alloc | apply pw_below_drewN | apply below_drew1) | exact HB.out)) hb); clear HB; have HB := n0_; clear n0_; (try clear hb); (try clear hb2); (try clear hk); (try clear hi)))
    go_ret
    exact ⟨by first | rfl | (simp [errW_none, errW_some] <;> rfl) | (simp [*, errW_none, errW_some] <;> rfl), by repeat (first | (with_reducible first | exact HB.out | apply below_alloc | apply pw_below_drewN | apply below_drew1) | exact HB.out)⟩
end Go.Proofs.YtflddgoapibleaaDoor.Esc

namespace Go.Proofs.YtflddgoapibleaaDoor.Hand
open Go.RowKit Go.Proofs.YtflddgoapibleaaDoor.Esc Go.Proofs.YtflddgoapibleaaDoorW.PrintWords Go.Proofs.YtflddgoapibleaaDoorW.PrintLast Go.Proofs.YtflddgoapibleaaDoorW.PrintMore
theorem refL_len : ∀ (k : Nat) (out : List Int) (a : Int) (t : List Int), (refL k out a t).1.length ≤ out.length + t.length := by
  intro k
  induction k with
  | zero => intro out a t; rw [refL]; exact Nat.le_add_right _ _
  | succ k ih =>
    intro out a t
    rw [refL]
    by_cases h0 : t = []
    · rw [if_pos h0]; exact Nat.le_add_right _ _
    rw [if_neg h0]
    by_cases hp0 : (pieceL t).2 = 0
    · rw [if_pos hp0]; exact Nat.zero_le _
    rw [if_neg hp0]
    by_cases hj : (pieceL t).2 = 4 ∧ (dec (run t)).2 ≠ 1
    · rw [if_pos hj]; exact Nat.zero_le _
    rw [if_neg hj]
    have hp := (piece_is t).resolve_left (fun e => hp0 (by rw [e]))
    have hsz := hp.size
    have := ih (out ++ (pieceL t).1) (a + (pieceL t).2) (t.drop (pieceL t).2.toNat)
    rw [List.length_append, List.length_drop] at this
    omega
theorem refL_err : ∀ (k : Nat) (out : List Int) (a : Int) (t : List Int), (refL k out a t).2.2 = 0 ∨ (refL k out a t).1 = [] := by
  intro k
  induction k with
  | zero => intro out a t; rw [refL]; exact .inl rfl
  | succ k ih =>
    intro out a t
    rw [refL]
    split
    · exact .inl rfl
    split
    · exact .inr rfl
    split
    · exact .inr rfl
    · exact ih _ _ _
theorem own_l2 : ∀ (n k : Nat) (x10 x13 : List Int) (x18 : Int) (i : Int), i + n = 20 → 0 ≤ i → n < k → x10.length + n ≤ 140737488355327 → (x18 = 0 ∨ x13 = []) →
    galleylaw23_EscapeOwn.l2 k x10 x13 x13 x18 i = some true := by
  intro n
  induction n with
  | zero =>
    intro k x10 x13 x18 i hi h0 hk hl he
    obtain ⟨k, rfl⟩ : ∃ k', k = k' + 1 := ⟨k - 1, by omega⟩
    rw [galleylaw23_EscapeOwn.l2, if_neg (by omega), if_pos rfl]
    by_cases h : x18 = 0
    · rw [if_pos h]
    · rw [if_neg h, he.resolve_left h]; rfl
  | succ n ih =>
    intro k x10 x13 x18 i hi h0 hk hl he
    obtain ⟨k, rfl⟩ : ∃ k', k = k' + 1 := ⟨k - 1, by omega⟩
    rw [galleylaw23_EscapeOwn.l2, if_pos (by omega), if_pos (by omega), w64 _ (by omega) (by omega)]
    exact ih k _ x13 x18 (i + 1) (by omega) (by omega) (by omega) (by rw [List.length_append, List.length_singleton]; omega) he
theorem own_l1 : ∀ (n k i : Nat) (x10 x13 : List Int) (x18 : Int), i + n = x10.length → n + 30 < k → x10.length ≤ 1073741824 → (x18 = 0 ∨ x13 = []) →
    galleylaw23_EscapeOwn.l1 k x10 x13 x13 x18 (x10.length : Int) (i : Int) = some true := by
  intro n
  induction n with
  | zero =>
    intro k i x10 x13 x18 hi hk hl he
    obtain ⟨k, rfl⟩ : ∃ k', k = k' + 1 := ⟨k - 1, by omega⟩
    rw [galleylaw23_EscapeOwn.l1, if_neg (by omega)]
    exact own_l2 20 k x10 x13 x18 0 (by omega) (by omega) (by omega) (by omega) he
  | succ n ih =>
    intro k i x10 x13 x18 hi hk hl he
    obtain ⟨k, rfl⟩ : ∃ k', k = k' + 1 := ⟨k - 1, by omega⟩
    rw [galleylaw23_EscapeOwn.l1, if_pos (by omega), if_pos (by omega), if_pos (by omega), w64 _ (by omega) (by omega), show ((i : Int) + 1) = ((i + 1 : Nat) : Int) by omega]
    have := ih k (i + 1) (x10.set (i : Int).toNat 122) x13 x18 (by rw [List.length_set]; omega) (by omega) (by rw [List.length_set]; omega) he
    rwa [List.length_set] at this
theorem own_j2 (k : Nat) (s : ByteArray) (hs : s.size ≤ 1048576) (hk : 4000000 ≤ k) : galleylaw23_EscapeOwn.j2 k s false = some true := by
  obtain ⟨k, rfl⟩ : ∃ k', k = k' + 1 := ⟨k - 1, by omega⟩
  have hl := bytesOf_length s
  have e1 : unqL (s.size + 1) [] [] 0 (bytesOf s) = refL (s.size + 1) [] 0 (bytesOf s) := by
    have := unq_alike (bytesOf s)
    rwa [hl] at this
  rw [galleylaw23_EscapeOwn.j2, if_neg (by simp), unq_f s (by omega) k (by omega), Option.bind_some, Option.bind_some, ref_f s (by omega) k (by omega), Option.bind_some, e1]
  have hle := refL_len (s.size + 1) [] 0 (bytesOf s)
  rw [hl, List.length_nil] at hle
  have := own_l1 (refL (s.size + 1) [] 0 (bytesOf s)).1.length k 0 (refL (s.size + 1) [] 0 (bytesOf s)).1 (refL (s.size + 1) [] 0 (bytesOf s)).1 (refL (s.size + 1) [] 0 (bytesOf s)).2.2 (by omega) (by omega) (by omega) (refL_err _ _ _ _)
  exact this
theorem own_l0 (l0 : List Int) (s : ByteArray) (hb : Bytes l0) (hl : l0.length ≤ 1048576) (hs : s.size ≤ 1048576) : ∀ (n k i : Nat) (x5 : List Int), i + n = x5.length → n + 4000010 < k → x5.length ≤ 1048577 →
    galleylaw23_EscapeOwn.l0 k l0 s x5 (strOfNums (quo l0)) (strOfNums (plain l0)) (strOfNums (hexL l0)) (x5.length : Int) (i : Int) = some true := by
  intro n
  induction n with
  | zero =>
    intro k i x5 hi hk hx
    obtain ⟨k, rfl⟩ : ∃ k', k = k' + 1 := ⟨k - 1, by omega⟩
    rw [galleylaw23_EscapeOwn.l0, if_neg (by omega), rquote_f l0 hb (by omega) k (by omega), Option.bind_some, if_pos rfl, rplain_f l0 hb (by omega) k (by omega), Option.bind_some, if_pos rfl, rhex_f l0 hb (by omega) k (by omega), Option.bind_some]
    have hne : ((strOfNums (hexL l0)).toList != (strOfNums (hexL l0)).toList) = false := bne_eq_false_iff_eq.2 rfl
    rw [hne]
    exact own_j2 k s hs (by omega)
  | succ n ih =>
    intro k i x5 hi hk hx
    obtain ⟨k, rfl⟩ : ∃ k', k = k' + 1 := ⟨k - 1, by omega⟩
    rw [galleylaw23_EscapeOwn.l0, if_pos (by omega), if_pos (by omega), if_pos (by omega), w64 _ (by omega) (by omega), show ((i : Int) + 1) = ((i + 1 : Nat) : Int) by omega]
    have := ih k (i + 1) (x5.set (i : Int).toNat 120) (by rw [List.length_set]; omega) (by omega) (by rw [List.length_set]; omega)
    rwa [List.length_set] at this
theorem own_pure (l0 : List Int) (s : ByteArray) (hb : Bytes l0) (hl : l0.length ≤ 1048576) (hs : s.size ≤ 1048576) : galleylaw23_EscapeOwn.f 60000000 l0 s = some true := by
  have htk : (l0 ++ [7]).take ((l0.length : Int)).toNat = l0 := List.take_left
  have hlen : (l0 ++ [7]).length = l0.length + 1 := by rw [List.length_append]; rfl
  unfold galleylaw23_EscapeOwn.f
  rw [show galleylaw23_awake.f 60000000 = some true from rfl, Option.bind_some, if_pos rfl, own_f l0 (by omega), Option.bind_some, if_pos (by omega), Option.bind_some, if_pos (by omega), if_pos (by rw [hlen]; omega), htk,
    show escape_Quote.f l0 = some (strOfNums (quo l0)) from if_pos ⟨hb, by omega⟩, Option.bind_some, show escape_Plain.f l0 = some (strOfNums (plain l0)) from if_pos ⟨hb, by omega⟩, Option.bind_some, hex_f 60000000 l0 hb (by omega) (by omega), Option.bind_some, if_pos rfl, if_pos (by rw [hlen]; omega)]
  have hrd : rd (l0 ++ [7]) (l0.length : Int) = 7 := by
    unfold rd
    rw [show ((l0.length : Int)).toNat = l0.length by omega, List.getD_eq_getElem?_getD, List.getElem?_append_right (Nat.le_refl _)]
    simp
  rw [hrd, show ((7 : Int) != 7) = false from rfl]
  obtain ⟨k, hk⟩ : ∃ k, 60000000 = k + 1 := ⟨59999999, rfl⟩
  rw [hk, galleylaw23_EscapeOwn.j0, if_neg (by simp)]
  exact own_l0 l0 s hb hl hs (l0 ++ [7]).length k 0 (l0 ++ [7]) (by omega) (by rw [hlen]; omega) (by rw [hlen]; omega)
end Go.Proofs.YtflddgoapibleaaDoor.Hand

namespace Go.Proofs.YtflddgoapibleaaDoor.escapeOwn
open Go.ChangeShapes Go.WideShapes Go.ChangeAt Go.RowKit Go.Proofs.YtflddgoapibleaaDoor.Hand Go.Proofs.YtflddgoapibleaaDoor.Esc Go.Proofs.YtflddgoapibleaaDoorW.PrintWords
open Go.ChangeMaps (open_string shut_string)
set_option linter.unusedVariables false
theorem reads (os : Os) {H : Type} (enc : TypeId × Value → H) : ∃ places, DataW.whole enc Tryd.prog ((World.doorLaid Tryd.prog 4000 os).forCall (fun _ _ => 0) ⟨#[], #[.slice none 0 0, .string ByteArray.empty], []⟩).memory Tryd.f10.params.toList Rows.escapeOwnSpec.vars false (#[.slice none 0 0, .string ByteArray.empty] : Array Value).toList 8 = some ([.nil, .lit (.string [])], [], places) :=
  ⟨[], by kernel_rfl⟩
theorem door_met (os : Os) : laidMetH Tryd.prog laidList ((World.doorLaid Tryd.prog 4000 os).forCall (fun _ _ => 0) ⟨#[], #[.slice none 0 0, .string ByteArray.empty], []⟩).memory :=
  laidMetH_of_parts3 (fuel := 8) (laidMet_of_run' 8 (by kernel_rfl) (by kernel_rfl)) (by kernel_rfl) (by kernel_rfl)
theorem contract (H : Type) (enc : TypeId × Value → H) (W : World) (base : Nat) (args : Array Value) (ds gs : List (DataW H)) (before : List MemPlace)
    (hval0 : ∀ (j : Nat) t v, Tryd.f10.params[j]? = some t → args[j]? = some v → Value.okWide Tryd.prog W .any base t v)
    (hW : DataW.Whole enc Tryd.prog Tryd.f10.params.toList Rows.escapeOwnSpec.vars false W args.toList ds gs before) (hL : laidMetH Tryd.prog laidList W) (hk : Rows.uptoSmall H (ds ++ gs) = true) :
    Calls Tryd.prog 10 args W fun e W' => ∃ v, e = .returned v ∧ Rows.escapeOwnSpec.post enc Tryd.prog Tryd.f10 false true false false W args v W' := by
  have hG := globs_of_laid hL
  have hval := hval0
  have hW' := hW
  obtain ⟨p, q, hA0, hV, rfl, hfz, hnd⟩ := hW
  have hA : DataW.TrodAll enc Tryd.prog W 0 (fun _ => true) true Tryd.f10.params.toList args.toList ds p := hA0
  rw [Tryd.params10] at hA hval
  obtain ⟨v0, vs0, d0, ds0, p0, q0, hargs, rfl, rfl, h0, r0⟩ := trodAll_cons hA
  obtain ⟨v1, vs1, d1, ds1, p1, q1, rfl, rfl, rfl, h1, r1⟩ := trodAll_cons r0
  obtain ⟨rfl, rfl, rfl⟩ := trodAll_nil r1
  obtain rfl : args = #[v0, v1] := by cases args; simp_all
  obtain ⟨rfl, rfl⟩ := trodVars_none hV
  have hB := bulk_le hk
  simp only [List.append_nil, Rows.uptoBulkAll] at hB
  have k0 := h0
  have lt0 : ∀ x ∈ p0, x.block < W.heap.size := by obtain ⟨m, hm⟩ := k0; exact DataW.trod_lt m _ _ _ hm
  obtain ⟨A0, c0, l0, rfl, hr0, hc0, hb0, hl0⟩ := bytes_open (hval 0 22 v0 rfl rfl) h0
  obtain ⟨s1, rfl, rfl, rfl, hmax1⟩ := open_string Tryd.underlying9 (hval 1 9 v1 rfl rfl) h1
  have hl1 := string_le (H := H) s1
  clear hA0 hval0
  refine (galleylaw23_EscapeOwn.calls _ _ _ l0 s1 true W hG (Kd.C_of_reads (d := (0 : Int)) (h1 := fun _ => rfl) hr0) hc0 (own_pure l0 s1 hb0 (by omega) (by omega))).mono fun e W' ⟨he, bel⟩ => ?_
  subst he
  exact ⟨_, rfl, _, _, _, [], _, [], hW', trodAll_mk1 (shut_bool Tryd.underlying4 _), (trodAll_cons_mk (Below.trod laidOut (by kernel_rfl) (of_decide_eq_true (by kernel_rfl)) k0 bel lt0) (trodAll_cons_mk (shut_string Tryd.underlying9 hmax1) trodAll_mk0)), rfl, bel.frame _, fun h => by cases h⟩
set_option maxRecDepth 100000 in
theorem liftedUpto (os : Os) (started : os.Started) (H : Type) (enc : TypeId × Value → H) (F : Stop.Interp) :
    ReturnsInHanded {} Tryd.checked os 10 .any ((Rows.OpenSpec.upto Rows.escapeOwnSpec).preRow enc Tryd.prog Tryd.f10 Rows.escapeOwnUptoRow.domain false Rows.escapeOwnUptoRow.laid) (((Rows.OpenSpec.upto Rows.escapeOwnSpec).at F).post enc Tryd.prog Tryd.f10 false true false false) := by
  obtain ⟨places, hx⟩ := reads os enc
  refine returnsInHanded_of_row (C := Tryd.checked) (s := Rows.OpenSpec.upto Rows.escapeOwnSpec) own started (by kernel_rfl) Tryd.func10
    (witness_row_atRef (enc := enc) (C := Tryd.checked) false (World.doorLaid Tryd.prog 4000 os) #[.slice none 0 0, .string ByteArray.empty] rfl (by kernel_rfl) (by kernel_rfl) (by kernel_rfl)
      (OpenSpec.preRow_of_cond 8 hx (by kernel_rfl) (fun k hk => by cases hk; kernel_rfl) (by kernel_rfl) (door_met os))) ?_
  intro W base args ds gs before hval hW _ hcond _ hL _ _
  exact contract H enc W base args ds gs before hval hW hL (hcond _ rfl)
theorem saidUpto : Rows.EscapeOwnUptoSaid :=
  OpenClaim.holds_of_cond 10 Tryd.f10 rfl rfl rfl rfl rfl rfl rfl ⟨rfl, rfl, rfl, rfl, rfl⟩ rfl rfl rfl rfl rfl (by kernel_rfl) Tryd.func10 (by kernel_rfl)
    (of_decide_eq_true (by kernel_rfl)) (by unfold Func.isWrapper; first | (rw [if_pos (by decide +kernel)]; kernel_rfl) | (rw [if_neg (by decide +kernel)]; exact ⟨rfl, rfl⟩))
    (fun os started H enc _ F => by rw [OpenClaim.pre_eq_preRow]; exact liftedUpto os started H enc F)
theorem plain (f : FuncId) (fn : Func) (hf : Tryd.pinned.checked.prog.funcNamed "galley/galleylaw23.EscapeOwn" = some f) (hfn : Tryd.pinned.checked.prog.funcs[f]? = some fn) :
    false = Tryd.pinned.checked.prog.looks [] ∧ ∀ (j : Nat) t, fn.params[j]? = some t → Tryd.pinned.checked.prog.wantsStandIn t = false := by
  obtain rfl : f = 10 := Option.some.inj ((show Tryd.prog.funcNamed "galley/galleylaw23.EscapeOwn" = some 10 by kernel_rfl).symm.trans hf) |>.symm
  obtain rfl : fn = Tryd.f10 := (Option.some.inj (Tryd.func10.symm.trans hfn)).symm
  refine ⟨by kernel_rfl, fun j t ht => ?_⟩
  rw [Tryd.params10] at ht
  have hm : t ∈ (#[22, 9] : Array TypeId) := Array.mem_of_getElem? ht
  have ho : t = 22 ∨ t = 9 := by simpa using hm
  rcases ho with rfl | rfl
  · exact (show Tryd.prog.wantsStandIn 22 = false by kernel_rfl)
  · exact (show Tryd.prog.wantsStandIn 9 = false by kernel_rfl)
theorem cardUpto : Rows.EscapeOwnUptoCardSaid :=
  Claim7.holds_tied_plain_at .later [] _ _ _ _ saidUpto (fun _ h => by cases h) (by kernel_rfl) (fun _ h => by cases h) escapeOwnUpto_row_tie rfl ⟨rfl, rfl⟩ (by kernel_rfl) rfl plain (by kernel_rfl)
end Go.Proofs.YtflddgoapibleaaDoor.escapeOwn
