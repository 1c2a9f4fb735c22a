/- Contracts and laws, those that ZOwn needs. -/
import Derived.Test.YtflddgoapibleaaDoorVWalk1
import Derived.Test.YtflddgoapibleaaDoorVWalk4
set_option linter.unusedVariables false
set_option linter.unusedSimpArgs false
namespace Go.Proofs.YtflddgoapibleaaDoor.Esc
open Go.RowKit Go.Proofs.YtflddgoapibleaaDoor.Hand Go.Proofs.YtflddgoapibleaaDoorW.PrintWords Go.Proofs.YtflddgoapibleaaDoorW.PrintLast Go.Proofs.YtflddgoapibleaaDoorW.PrintMore
attribute [local go_sem] max2_int min2_int max_two min_two max_three min_three max_four min_four
set_option linter.unusedVariables false
set_option linter.unusedSimpArgs false
def galleyref01_Width.f (k : Nat) (l0 : List Int) (a1 : Int) : Option (Int) := if 0 ≤ a1 then (if a1 < (l0.length : Int) then ((galleyref01_Need.f (rd l0 a1)).bind fun t372 => (if t372 ≥ 1 then (if (wrap64 (a1 + t372)) ≤ (l0.length : Int) then (if a1 ≤ (wrap64 (a1 + t372)) then ((galleyref01_Whole.f k ((l0.take ((wrap64 (a1 + t372)) : Int).toNat).drop (a1 : Int).toNat)).bind fun t374 => (if t374 = true then (some t372) else (some 1))) else (none)) else (some 1)) else (some 1))) else (none)) else (none)
set_option maxHeartbeats 8000000 in
set_option maxRecDepth 100000 in
theorem galleyref01_Width.calls (k : Nat) (A0 : Option Addr) (c0 : Nat) (l0 : List Int) (a1 : Int) (r : Int) (w : World) (hr0 : Kd.C (Kd.int .u8) w A0 l0.length l0) (hc0 : l0.length ≤ c0) (h : galleyref01_Width.f k l0 a1 = some r) :
    Calls Tryd.prog 51 #[.slice A0 l0.length c0, .int .i64 a1] w fun e w' => e = .returned (.int .i64 r) ∧ Drawn0 w w' := by
  have HR0 := Aside0.mk hr0
  have HC0 := Aside0.mk hc0
  clear hr0 hc0
  have H : (if 0 ≤ a1 then (if a1 < (l0.length : Int) then ((galleyref01_Need.f (rd l0 a1)).bind fun t372 => (if t372 ≥ 1 then (if (wrap64 (a1 + t372)) ≤ (l0.length : Int) then (if a1 ≤ (wrap64 (a1 + t372)) then ((galleyref01_Whole.f k ((l0.take ((wrap64 (a1 + t372)) : Int).toNat).drop (a1 : Int).toNat)).bind fun t374 => (if t374 = true then (some t372) else (some 1))) else (none)) else (some 1)) else (some 1))) else (none)) else (none)) = some r := h
  clear h
  by_cases c3 : 0 ≤ a1
  · rw [if_pos c3] at H
    have c3b0 : decide (0 ≤ a1) = true := decide_eq_true c3
    clear c3
    by_cases c4 : a1 < (l0.length : Int)
    · rw [if_pos c4] at H
      have c4b0 : decide (a1 < (l0.length : Int)) = true := decide_eq_true c4
      clear c4
      replace H := Option.bind_eq_some_iff.mp H
      obtain ⟨t372, A50, H⟩ := H
      replace H : (if t372 ≥ 1 then (if (wrap64 (a1 + t372)) ≤ (l0.length : Int) then (if a1 ≤ (wrap64 (a1 + t372)) then ((galleyref01_Whole.f k ((l0.take ((wrap64 (a1 + t372)) : Int).toNat).drop (a1 : Int).toNat)).bind fun t374 => (if t374 = true then (some t372) else (some 1))) else (none)) else (some 1)) else (some 1)) = some r := H
      have A5 := Aside0.mk A50
      clear A50
      by_cases c6 : t372 ≥ 1
      · rw [if_pos c6] at H
        have c6b0 : decide (1 ≤ t372) = true := decide_eq_true c6
        clear c6
        by_cases c7 : (wrap64 (a1 + t372)) ≤ (l0.length : Int)
        · rw [if_pos c7] at H
          have c7b0 : decide ((wrap64 (a1 + t372)) ≤ (l0.length : Int)) = true := decide_eq_true c7
          clear c7
          have c8b0 := eq_true (of_decide_eq_true (by first | (with_reducible assumption) | assumption) : 0 ≤ a1)
          by_cases c9 : a1 ≤ (wrap64 (a1 + t372))
          · rw [if_pos c9] at H
            have c9b0 := eq_true c9
            have c9b1 : decide (a1 ≤ (wrap64 (a1 + t372))) = true := decide_eq_true c9
            have c10b0 := eq_true (of_decide_eq_true (by first | (with_reducible assumption) | assumption) : (wrap64 (a1 + t372)) ≤ (l0.length : Int))
            replace H := Option.bind_eq_some_iff.mp H
            obtain ⟨t374, A110, H⟩ := H
            replace H : (if t374 = true then (some t372) else (some 1)) = some r := H
            have A11 := Aside0.mk A110
            clear A110
            by_cases c12 : t374 = true
            · subst c12
              have H1 : (some t372) = some r := by rw [if_pos rfl] at H; exact H
              clear H
              have H := H1
              clear H1
              obtain rfl := Option.some.inj H
              have p371 : 0 ≤ (a1 : Int) := of_decide_eq_true (by first | (with_reducible assumption) | assumption)
              have q371 : a1 < (l0.length : Int) := of_decide_eq_true (by first | (with_reducible assumption) | assumption)
              obtain ⟨ad371, e371, hx371_0⟩ := Kd.at_int HR0.out a1 p371 q371
              cases e371
              replace p371 := eq_true p371
              replace q371 := eq_true q371
              go_enter Tryd.func51, Tryd.ntmps51
              go_wp2_with (first | ((with_reducible refine gate_callee (f := 55) rfl ?_); refine goesL_ (some 10) rfl rfl Tryd.func55 (by kernel_rfl) rfl #[.int .u8 (rd l0 a1)] rfl (by (try simp only [List.map_toArray, List.map_cons, List.map_nil]); first | done | rfl | (simp only [List.length_drop, List.length_take]; rfl)) ?_; (with_reducible refine (galleyref01_Need.calls (rd l0 a1) t372 _ A5.out).mono ?_); rintro e w' ⟨rfl, ⟨nd, rfl⟩⟩; refine ⟨_, rfl, ?_⟩; obtain ⟨i013, hi013, _, hsz13, _⟩ := info_parts info5; obtain ⟨A13, hcut13, hA13, hC13⟩ := print_mid_of (P := Tryd.prog) (Value.int .u8) 0 22 5 .i64 .i64 Tryd.underlying22 hi013 hsz13 (some ad371) c0 l0 a1 (wrap64 (a1 + t372)) (of_decide_eq_true (by first | (with_reducible assumption) | assumption)) (by first | omega | exact of_decide_eq_true (by first | (with_reducible assumption) | assumption)) (of_decide_eq_true (by first | (with_reducible assumption) | assumption)) HC0.out; have HR373 := Aside0.mk (Kd.C_of_reads (h1 := fun _ => rfl) (hA13 _ (Kd.reads_of_C HR0.out))); have HC373 := Aside0.mk hC13; clear hA13 hC13 hi013 hsz13) | (go_at_call 39; refine calls_of_args (args' := #[.slice _ ((l0.take ((wrap64 (a1 + t372)) : Int).toNat).drop (a1 : Int).toNat).length _]) (by have q_ := of_decide_eq_true c7b0; rw [List.length_drop, List.length_take, Nat.min_eq_left (by omega)]) ?_; (with_reducible refine (galleyref01_Whole.calls k _ _ ((l0.take ((wrap64 (a1 + t372)) : Int).toNat).drop (a1 : Int).toNat) true _ ?side1 ?side2 A11.out).mono ?_); (case side1 => repeat (first | exact HR373.out | (with_reducible refine Kd.C_alloc ?_ _) | (with_reducible refine Kd.C_drewN ?_ _) | (with_reducible refine Kd.C_drew ?_))); (case side2 => exact HC373.out); rintro e w' ⟨rfl, ⟨nd, rfl⟩⟩))
              go_ret
              exact ⟨by first | rfl | (simp; done) | (simp [*]; done), by repeat (first | exact Drawn0.refl _ | apply Drawn0.step)⟩
            · replace c12 := Bool.eq_false_iff.mpr c12
              subst c12
              have H1 : (some 1) = some r := by rw [if_neg (show ¬ (false = true) by decide)] at H; exact H
              clear H
              have H := H1
              clear H1
              obtain rfl := Option.some.inj H
              have p371 : 0 ≤ (a1 : Int) := of_decide_eq_true (by first | (with_reducible assumption) | assumption)
              have q371 : a1 < (l0.length : Int) := of_decide_eq_true (by first | (with_reducible assumption) | assumption)
              obtain ⟨ad371, e371, hx371_0⟩ := Kd.at_int HR0.out a1 p371 q371
              cases e371
              replace p371 := eq_true p371
              replace q371 := eq_true q371
              go_enter Tryd.func51, Tryd.ntmps51
              go_wp2_with (first | ((with_reducible refine gate_callee (f := 55) rfl ?_); refine goesL_ (some 10) rfl rfl Tryd.func55 (by kernel_rfl) rfl #[.int .u8 (rd l0 a1)] rfl (by (try simp only [List.map_toArray, List.map_cons, List.map_nil]); first | done | rfl | (simp only [List.length_drop, List.length_take]; rfl)) ?_; (with_reducible refine (galleyref01_Need.calls (rd l0 a1) t372 _ A5.out).mono ?_); rintro e w' ⟨rfl, ⟨nd, rfl⟩⟩; refine ⟨_, rfl, ?_⟩; obtain ⟨i014, hi014, _, hsz14, _⟩ := info_parts info5; obtain ⟨A14, hcut14, hA14, hC14⟩ := print_mid_of (P := Tryd.prog) (Value.int .u8) 0 22 5 .i64 .i64 Tryd.underlying22 hi014 hsz14 (some ad371) c0 l0 a1 (wrap64 (a1 + t372)) (of_decide_eq_true (by first | (with_reducible assumption) | assumption)) (by first | omega | exact of_decide_eq_true (by first | (with_reducible assumption) | assumption)) (of_decide_eq_true (by first | (with_reducible assumption) | assumption)) HC0.out; have HR373 := Aside0.mk (Kd.C_of_reads (h1 := fun _ => rfl) (hA14 _ (Kd.reads_of_C HR0.out))); have HC373 := Aside0.mk hC14; clear hA14 hC14 hi014 hsz14) | (go_at_call 39; refine calls_of_args (args' := #[.slice _ ((l0.take ((wrap64 (a1 + t372)) : Int).toNat).drop (a1 : Int).toNat).length _]) (by have q_ := of_decide_eq_true c7b0; rw [List.length_drop, List.length_take, Nat.min_eq_left (by omega)]) ?_; (with_reducible refine (galleyref01_Whole.calls k _ _ ((l0.take ((wrap64 (a1 + t372)) : Int).toNat).drop (a1 : Int).toNat) false _ ?side1 ?side2 A11.out).mono ?_); (case side1 => repeat (first | exact HR373.out | (with_reducible refine Kd.C_alloc ?_ _) | (with_reducible refine Kd.C_drewN ?_ _) | (with_reducible refine Kd.C_drew ?_))); (case side2 => exact HC373.out); rintro e w' ⟨rfl, ⟨nd, rfl⟩⟩))
              go_ret
              exact ⟨by first | rfl | (simp; done) | (simp [*]; done), by repeat (first | exact Drawn0.refl _ | apply Drawn0.step)⟩
          · rw [if_neg c9] at H
            exact absurd H (by simp)
        · rw [if_neg c7] at H
          have c7b0 : decide ((wrap64 (a1 + t372)) ≤ (l0.length : Int)) = false := decide_eq_false c7
          clear c7
          obtain rfl := Option.some.inj H
          have p371 : 0 ≤ (a1 : Int) := of_decide_eq_true (by first | (with_reducible assumption) | assumption)
          have q371 : a1 < (l0.length : Int) := of_decide_eq_true (by first | (with_reducible assumption) | assumption)
          obtain ⟨ad371, e371, hx371_0⟩ := Kd.at_int HR0.out a1 p371 q371
          cases e371
          replace p371 := eq_true p371
          replace q371 := eq_true q371
          go_enter Tryd.func51, Tryd.ntmps51
          go_wp2_with (first | ((with_reducible refine gate_callee (f := 55) rfl ?_); refine goesL_ (some 10) rfl rfl Tryd.func55 (by kernel_rfl) rfl #[.int .u8 (rd l0 a1)] rfl (by (try simp only [List.map_toArray, List.map_cons, List.map_nil]); first | done | rfl | (simp only [List.length_drop, List.length_take]; rfl)) ?_; (with_reducible refine (galleyref01_Need.calls (rd l0 a1) t372 _ A5.out).mono ?_); rintro e w' ⟨rfl, ⟨nd, rfl⟩⟩; refine ⟨_, rfl, ?_⟩))
          go_ret
          exact ⟨by first | rfl | (simp; done) | (simp [*]; done), by repeat (first | exact Drawn0.refl _ | apply Drawn0.step)⟩
      · rw [if_neg c6] at H
        have c6b0 : decide (1 ≤ t372) = false := decide_eq_false c6
        clear c6
        obtain rfl := Option.some.inj H
        have p371 : 0 ≤ (a1 : Int) := of_decide_eq_true (by first | (with_reducible assumption) | assumption)
        have q371 : a1 < (l0.length : Int) := of_decide_eq_true (by first | (with_reducible assumption) | assumption)
        obtain ⟨ad371, e371, hx371_0⟩ := Kd.at_int HR0.out a1 p371 q371
        cases e371
        replace p371 := eq_true p371
        replace q371 := eq_true q371
        go_enter Tryd.func51, Tryd.ntmps51
        go_wp2_with (first | ((with_reducible refine gate_callee (f := 55) rfl ?_); refine goesL_ (some 10) rfl rfl Tryd.func55 (by kernel_rfl) rfl #[.int .u8 (rd l0 a1)] rfl (by (try simp only [List.map_toArray, List.map_cons, List.map_nil]); first | done | rfl | (simp only [List.length_drop, List.length_take]; rfl)) ?_; (with_reducible refine (galleyref01_Need.calls (rd l0 a1) t372 _ A5.out).mono ?_); rintro e w' ⟨rfl, ⟨nd, rfl⟩⟩; refine ⟨_, rfl, ?_⟩))
        go_ret
        exact ⟨by first | rfl | (simp; done) | (simp [*]; done), by repeat (first | exact Drawn0.refl _ | apply Drawn0.step)⟩
    · rw [if_neg c4] at H
      exact absurd H (by simp)
  · rw [if_neg c3] at H
    exact absurd H (by simp)
end Go.Proofs.YtflddgoapibleaaDoor.Esc

namespace Go.Proofs.YtflddgoapibleaaDoor.Esc
open Go.RowKit Go.Proofs.YtflddgoapibleaaDoor.Hand Go.Proofs.YtflddgoapibleaaDoorW.PrintWords Go.Proofs.YtflddgoapibleaaDoorW.PrintLast Go.Proofs.YtflddgoapibleaaDoorW.PrintMore
attribute [local go_sem] max2_int min2_int max_two min_two max_three min_three max_four min_four
set_option linter.unusedVariables false
set_option linter.unusedSimpArgs false
def galleyref04_Edges.l0 : Nat → List Int → List Int → Int → Option (List Int)
  | 0, _, _, _ => none
  | k + 1, x0, x3, x4 => if x4 < (x0.length : Int) then ((galleyref01_Width.f k x0 x4).bind fun t378 => (if x3.length < 17592186044416 then (galleyref04_Edges.l0 k x0 (x3 ++ [wrap64 (x4 + t378)]) (wrap64 (x4 + t378))) else (none))) else (some x3)
def galleyref04_Edges.f (k : Nat) (l0 : List Int) : Option (List Int) := galleyref04_Edges.l0 k l0 (([0] : List Int)) 0
set_option maxHeartbeats 8000000 in
set_option maxRecDepth 100000 in
theorem galleyref04_Edges.calls (k : Nat) (A0 : Option Addr) (c0 : Nat) (l0 : List Int) (r : List Int) (w : World) (hr0 : Kd.C (Kd.int .u8) w A0 l0.length l0) (hc0 : l0.length ≤ c0) (h : galleyref04_Edges.f k l0 = some r) :
    Calls Tryd.prog 37 #[.slice A0 l0.length c0] w fun e w' => ∃ v0_ : Value, e = .returned (v0_) ∧ Kd.R (Kd.int .i64) 3 w' w.heap.size (fun _ => True) v0_ r ∧ Below w.heap.size w w' := by
  have HR0 := Aside0.mk hr0
  have HC0 := Aside0.mk hc0
  clear hr0 hc0
  have HB := Aside0.mk (Below.refl w.heap.size w)
  have H : (galleyref04_Edges.l0 k l0 (([0] : List Int)) 0) = some r := h
  clear h
  obtain ⟨y375, hy375⟩ : ∃ y_ : List Int, y_ = (([0] : List Int)) := ⟨_, rfl⟩
  replace H : (galleyref04_Edges.l0 k l0 y375 0) = some r := by first | (rw [hy375]; with_reducible exact H) | (have H2_ := (Option.bind_some _ _).symm.trans H; rw [hy375]; with_reducible exact H2_) | (have H2_ := (Option.bind_some _ _).symm.trans H; with_reducible exact H2_) | with_reducible exact H | (rw [hy375]; exact H) | exact H
  have Ny375 := Aside0.mk hy375
  clear hy375
  have H' := Aside0.mk H
  clear H
  go_enter Tryd.func37, Tryd.ntmps37
  go_wp2_with (first | ((with_reducible refine gate_dst (N := 5) rfl ?_); refine Kd.R_lit (Kd.int .i64) _ 3 ?hg (N := 5) ?hd (xs := ([0] : List Int)) (inner := [.int .i64 0]) (ok := fun _ => True) (okp := fun _ => True) ?hr ?hp (fun _ hk => hk) trivial (Below.refl _ _) (Nat.le_refl _) (by simp) ?_; (case hd => rfl); (case hg => rfl); (case hr => first | (go_simp; done) | (go_simp; rfl)); (case hp => exact (Reps.one (show Kd.M (Kd.int .i64) _ _ _ 0 [.int .i64 0] from rfl) (Reps.none _ _))); intro v376 w2 ho3 hb hg_ hnew_; clear hg_ hnew_; (first | rw [← Ny375.out] at ho3 | (simp only [Int.reduceToNat] at ho3; rw [← Ny375.out] at ho3)); have n0_ := Aside0.mk (Kd.R_lower ho3 (below_size (by repeat (first | (with_reducible first | exact HB.out | apply below_alloc | apply pw_below_drewN | apply below_drew1) | exact HB.out)))); have n1_ := Aside0.mk (below_step (by repeat (first | (with_reducible first | exact HB.out | apply below_alloc | apply pw_below_drewN | apply below_drew1) | exact HB.out)) hb); clear HB; have HO377 := n0_; have HB := n1_; clear n0_ n1_; clear hb ho3))
  go_loopg [3, 4] k (fun kq v3 v4 w' => ∃ (x3_1 : List Int) (x4_1 : Int), v4 = .int .i64 x4_1 ∧ Aside0 (galleyref04_Edges.l0 kq l0 x3_1 x4_1 = some r) ∧ Aside0 (kq ≤ k) ∧ Aside0 (Kd.R (Kd.int .i64) 3 w' w.heap.size (fun _ => True) v3 x3_1) ∧ Aside0 (Below w.heap.size w w'))
  case atStart => exact ⟨(y375), (0), (by first | rfl | (simp; done) | (simp [*]; done)), H', ⟨Nat.le_refl _⟩, ⟨by (with_reducible repeat (first | apply Kd.R_alloc | apply Kd.R_drewN | apply Kd.R_drew)); exact HO377.out⟩, ⟨by repeat (first | (with_reducible first | exact HB.out | apply below_alloc | apply pw_below_drewN | apply below_drew1) | exact HB.out)⟩⟩
  case round =>
    clear H'
    try clear p2
    try clear c3
    obtain ⟨x3_1, x4_1, rfl, HA, HK1, HO_3, HB⟩ := hrel
    cases gk with
    | zero => exact absurd HA.out (by simp [galleyref04_Edges.l0])
    | succ k1 =>
      have H := HA.out
      clear HA
      simp only [galleyref04_Edges.l0] at H
      by_cases c4 : x4_1 < (l0.length : Int)
      · rw [if_pos c4] at H
        have c4b0 : decide (x4_1 < (l0.length : Int)) = true := decide_eq_true c4
        clear c4
        replace H := Option.bind_eq_some_iff.mp H
        obtain ⟨t378, A50, H⟩ := H
        replace H : (if x3_1.length < 17592186044416 then (galleyref04_Edges.l0 k1 l0 (x3_1 ++ [wrap64 (x4_1 + t378)]) (wrap64 (x4_1 + t378))) else (none)) = some r := H
        have A5 := Aside0.mk A50
        clear A50
        by_cases c6 : x3_1.length < 17592186044416
        · rw [if_pos c6] at H
          have LMc6 := Aside0.mk c6
          clear c6
          obtain ⟨y379, hy379⟩ : ∃ y_ : List Int, y_ = (x3_1 ++ [wrap64 (x4_1 + t378)]) := ⟨_, rfl⟩
          replace H : (galleyref04_Edges.l0 k1 l0 y379 (wrap64 (x4_1 + t378))) = some r := by first | (rw [hy379]; with_reducible exact H) | (have H2_ := (Option.bind_some _ _).symm.trans H; rw [hy379]; with_reducible exact H2_) | (have H2_ := (Option.bind_some _ _).symm.trans H; with_reducible exact H2_) | with_reducible exact H | (rw [hy379]; exact H) | exact H
          have Ny379 := Aside0.mk hy379
          clear hy379
          have H' := Aside0.mk H
          clear H
          go_wp2_with (first | ((with_reducible refine gate_callee (f := 51) rfl ?_); refine goesL_ (some 13) rfl rfl Tryd.func51 (by kernel_rfl) rfl #[.slice A0 l0.length c0, .int .i64 x4_1] rfl (by (try simp only [List.map_toArray, List.map_cons, List.map_nil]); first | done | rfl | (simp only [List.length_drop, List.length_take]; rfl)) ?_; (with_reducible refine (galleyref01_Width.calls k1 _ _ l0 x4_1 t378 _ ?side1 ?side2 A5.out).mono ?_); (case side1 => repeat (first | exact (Kd.C_below HR0.out HB.out) | (with_reducible refine Kd.C_alloc ?_ _) | (with_reducible refine Kd.C_drewN ?_ _) | (with_reducible refine Kd.C_drew ?_))); (case side2 => exact HC0.out); rintro e w' ⟨rfl, ⟨nd, rfl⟩⟩; refine ⟨_, rfl, ?_⟩) | ((with_reducible refine gate_builtin (b := .append) (xs := #[.tmp 15, .tmp 17]) rfl ?_); at_builtin; refine Kd.R_append (Kd.int .i64) (w0 := w) w.heap.size rfl (.tmp 15) (.tmp 17) 43 3 (.int .i64 0) 8 rfl Tryd.underlying43 info3 rfl (by decide) (by omega) u3 x3_1 (wrap64 (x4_1 + t378)) [.int .i64 (wrap64 (x4_1 + t378))] (fun _ => True) (fun _ => False) rfl rfl ?aP (fun _ hk => hk.elim) ?aF ?aO ?aB ?aS ?aL ?_; (case aP => exact rfl); (case aB => exact (by repeat (first | (with_reducible first | exact HB.out | apply below_alloc | apply pw_below_drewN | apply below_drew1) | exact HB.out))); (case aF => exact (fun _ _ => trivial)); (case aO => exact (by (with_reducible repeat (first | apply Kd.R_alloc | apply Kd.R_drewN | apply Kd.R_drew)); exact HO_3.out)); (case aS => exact (below_size (by repeat (first | (with_reducible first | exact HB.out | apply below_alloc | apply pw_below_drewN | apply below_drew1) | exact HB.out)))); (case aL => have := LMc6.out; omega); intro v380 w7 ho hb hg hat; rw [← Ny379.out] at ho; have n0_ := Aside0.mk (hb); have n1_ := Aside0.mk (ho); clear HB; clear HO_3; have HB := n0_; have HO381 := n1_; clear n0_ n1_; clear ho hb hg hat))
          go_roundg k1
          case measure => have := HK1.out; omega
          case rel => exact ⟨(y379), (wrap64 (x4_1 + t378)), (by first | rfl | (simp; done) | (simp [*]; done)), H', ⟨by have := HK1.out; omega⟩, ⟨by (with_reducible repeat (first | apply Kd.R_alloc | apply Kd.R_drewN | apply Kd.R_drew)); exact HO381.out⟩, ⟨by repeat (first | (with_reducible first | exact HB.out | apply below_alloc | apply pw_below_drewN | apply below_drew1) | exact HB.out)⟩⟩
        · rw [if_neg c6] at H
          exact absurd H (by simp)
      · rw [if_neg c4] at H
        have c4b0 : decide (x4_1 < (l0.length : Int)) = false := decide_eq_false c4
        clear c4
        obtain rfl := Option.some.inj H
        go_wp2
        go_ret
        exact ⟨_, by first | rfl | (simp [errW_none, errW_some] <;> rfl) | (simp [*, errW_none, errW_some] <;> rfl), by (with_reducible repeat (first | apply Kd.R_alloc | apply Kd.R_drewN | apply Kd.R_drew)); exact HO_3.out, by repeat (first | (with_reducible first | exact HB.out | apply below_alloc | apply pw_below_drewN | apply below_drew1) | exact HB.out)⟩
end Go.Proofs.YtflddgoapibleaaDoor.Esc

namespace Go.Proofs.YtflddgoapibleaaDoor.Esc
open Go.RowKit Go.Proofs.YtflddgoapibleaaDoor.Hand Go.Proofs.YtflddgoapibleaaDoorW.PrintWords Go.Proofs.YtflddgoapibleaaDoorW.PrintLast Go.Proofs.YtflddgoapibleaaDoorW.PrintMore
attribute [local go_sem] max2_int min2_int max_two min_two max_three min_three max_four min_four
set_option linter.unusedVariables false
set_option linter.unusedSimpArgs false
def galleyref23_digit.f (a0 : Int) : Option (ByteArray) := if a0 < 10 then (some (strOfNums (([(wrap64 (48 + a0)) % 256] : List Int)))) else (some (strOfNums (([(wrap64 ((wrap64 (97 + a0)) - 10)) % 256] : List Int))))
set_option maxHeartbeats 8000000 in
set_option maxRecDepth 100000 in
theorem galleyref23_digit.calls (a0 : Int) (r : ByteArray) (w : World) (h : galleyref23_digit.f a0 = some r) :
    Calls Tryd.prog 57 #[.int .i64 a0] w fun e w' => e = .returned (.string r) ∧ Below w.heap.size w w' := by
  have HB := Aside0.mk (Below.refl w.heap.size w)
  have H : (if a0 < 10 then (some (strOfNums (([(wrap64 (48 + a0)) % 256] : List Int)))) else (some (strOfNums (([(wrap64 ((wrap64 (97 + a0)) - 10)) % 256] : List Int))))) = some r := h
  clear h
  by_cases c2 : a0 < 10
  · rw [if_pos c2] at H
    have c2b0 : decide (a0 < 10) = true := decide_eq_true c2
    clear c2
    obtain ⟨y382, hy382⟩ : ∃ y_ : List Int, y_ = (([(wrap64 (48 + a0)) % 256] : List Int)) := ⟨_, rfl⟩
    replace H : (some (strOfNums y382)) = some r := by first | (rw [hy382]; with_reducible exact H) | (have H2_ := (Option.bind_some _ _).symm.trans H; rw [hy382]; with_reducible exact H2_) | (have H2_ := (Option.bind_some _ _).symm.trans H; with_reducible exact H2_) | with_reducible exact H | (rw [hy382]; exact H) | exact H
    have Ny382 := Aside0.mk hy382
    clear hy382
    obtain rfl := Option.some.inj H
    go_enter Tryd.func57, Tryd.ntmps57
    go_wp2_with (first | ((with_reducible refine gate_dst (N := 8) rfl ?_); refine Kd.R_lit (Kd.int .u8) _ 5 ?hg (N := 8) ?hd (xs := ([(wrap64 (48 + a0)) % 256] : List Int)) (inner := [.int .u8 ((wrap64 (48 + a0)) % 256)]) (ok := fun _ => True) (okp := fun _ => True) ?hr ?hp (fun _ hk => hk) trivial (Below.refl _ _) (Nat.le_refl _) (by simp) ?_; (case hd => rfl); (case hg => rfl); (case hr => first | (go_simp; done) | (go_simp; rfl)); (case hp => exact (Reps.one (show Kd.M (Kd.int .u8) _ _ _ ((wrap64 (48 + a0)) % 256) [.int .u8 ((wrap64 (48 + a0)) % 256)] from rfl) (Reps.none _ _))); intro v383 w3 ho4 hb hg_ hnew_; clear hg_ hnew_; (first | rw [← Ny382.out] at ho4 | (simp only [Int.reduceToNat] at ho4; rw [← Ny382.out] at ho4)); have n0_ := Aside0.mk (Kd.R_lower ho4 (below_size (by repeat (first | (with_reducible first | exact HB.out | apply below_alloc | apply pw_below_drewN | apply below_drew1) | exact HB.out)))); have n1_ := Aside0.mk (below_step (by repeat (first | (with_reducible first | exact HB.out | apply below_alloc | apply pw_below_drewN | apply below_drew1) | exact HB.out)) hb); clear HB; have HO384 := n0_; have HB := n1_; clear n0_ n1_; clear hb ho4; have hcv5 := own_string (P := Tryd.prog) Tryd.underlying22 Tryd.underlying5 Tryd.underlying9 (Kd.own_of_R HO384.out)))
    go_ret
    exact ⟨by first | rfl | (simp [errW_none, errW_some] <;> rfl) | (simp [*, errW_none, errW_some] <;> rfl), by repeat (first | (with_reducible first | exact HB.out | apply below_alloc | apply pw_below_drewN | apply below_drew1) | exact HB.out)⟩
  · rw [if_neg c2] at H
    have c2b0 : decide (a0 < 10) = false := decide_eq_false c2
    clear c2
    obtain ⟨y385, hy385⟩ : ∃ y_ : List Int, y_ = (([(wrap64 ((wrap64 (97 + a0)) - 10)) % 256] : List Int)) := ⟨_, rfl⟩
    replace H : (some (strOfNums y385)) = some r := by first | (rw [hy385]; with_reducible exact H) | (have H2_ := (Option.bind_some _ _).symm.trans H; rw [hy385]; with_reducible exact H2_) | (have H2_ := (Option.bind_some _ _).symm.trans H; with_reducible exact H2_) | with_reducible exact H | (rw [hy385]; exact H) | exact H
    have Ny385 := Aside0.mk hy385
    clear hy385
    obtain rfl := Option.some.inj H
    go_enter Tryd.func57, Tryd.ntmps57
    go_wp2_with (first | ((with_reducible refine gate_dst (N := 14) rfl ?_); refine Kd.R_lit (Kd.int .u8) _ 5 ?hg (N := 14) ?hd (xs := ([(wrap64 ((wrap64 (97 + a0)) - 10)) % 256] : List Int)) (inner := [.int .u8 ((wrap64 ((wrap64 (97 + a0)) - 10)) % 256)]) (ok := fun _ => True) (okp := fun _ => True) ?hr ?hp (fun _ hk => hk) trivial (Below.refl _ _) (Nat.le_refl _) (by simp) ?_; (case hd => rfl); (case hg => rfl); (case hr => first | (go_simp; done) | (go_simp; rfl)); (case hp => exact (Reps.one (show Kd.M (Kd.int .u8) _ _ _ ((wrap64 ((wrap64 (97 + a0)) - 10)) % 256) [.int .u8 ((wrap64 ((wrap64 (97 + a0)) - 10)) % 256)] from rfl) (Reps.none _ _))); intro v386 w6 ho7 hb hg_ hnew_; clear hg_ hnew_; (first | rw [← Ny385.out] at ho7 | (simp only [Int.reduceToNat] at ho7; rw [← Ny385.out] at ho7)); have n0_ := Aside0.mk (Kd.R_lower ho7 (below_size (by repeat (first | (with_reducible first | exact HB.out | apply below_alloc | apply pw_below_drewN | apply below_drew1) | exact HB.out)))); have n1_ := Aside0.mk (below_step (by repeat (first | (with_reducible first | exact HB.out | apply below_alloc | apply pw_below_drewN | apply below_drew1) | exact HB.out)) hb); clear HB; have HO387 := n0_; have HB := n1_; clear n0_ n1_; clear hb ho7; have hcv8 := own_string (P := Tryd.prog) Tryd.underlying22 Tryd.underlying5 Tryd.underlying9 (Kd.own_of_R HO387.out)))
    go_ret
    exact ⟨by first | rfl | (simp [errW_none, errW_some] <;> rfl) | (simp [*, errW_none, errW_some] <;> rfl), by repeat (first | (with_reducible first | exact HB.out | apply below_alloc | apply pw_below_drewN | apply below_drew1) | exact HB.out)⟩
end Go.Proofs.YtflddgoapibleaaDoor.Esc

namespace Go.Proofs.YtflddgoapibleaaDoor.Esc
open Go.RowKit Go.Proofs.YtflddgoapibleaaDoor.Hand Go.Proofs.YtflddgoapibleaaDoorW.PrintWords Go.Proofs.YtflddgoapibleaaDoorW.PrintLast Go.Proofs.YtflddgoapibleaaDoorW.PrintMore
attribute [local go_sem] max2_int min2_int max_two min_two max_three min_three max_four min_four
set_option linter.unusedVariables false
set_option linter.unusedSimpArgs false
def galleyref23_two.f (a0 : Int) : Option (ByteArray) := (galleyref23_digit.f (wrap64 (Int.tdiv (wrap64 (a0)) 16))).bind fun t388 => ((galleyref23_digit.f (Int.tmod (wrap64 (a0)) 16)).bind fun t389 => (if t388.size + t389.size ≤ 9223372036854775807 then (some (t388 ++ t389)) else (none)))
set_option maxHeartbeats 8000000 in
set_option maxRecDepth 100000 in
theorem galleyref23_two.calls (a0 : Int) (r : ByteArray) (w : World) (h : galleyref23_two.f a0 = some r) :
    Calls Tryd.prog 41 #[.int .u8 a0] w fun e w' => e = .returned (.string r) ∧ Below w.heap.size w w' := by
  have HB := Aside0.mk (Below.refl w.heap.size w)
  have H : ((galleyref23_digit.f (wrap64 (Int.tdiv (wrap64 (a0)) 16))).bind fun t388 => ((galleyref23_digit.f (Int.tmod (wrap64 (a0)) 16)).bind fun t389 => (if t388.size + t389.size ≤ 9223372036854775807 then (some (t388 ++ t389)) else (none)))) = some r := h
  clear h
  replace H := Option.bind_eq_some_iff.mp H
  obtain ⟨t388, A20, H⟩ := H
  replace H : ((galleyref23_digit.f (Int.tmod (wrap64 (a0)) 16)).bind fun t389 => (if t388.size + t389.size ≤ 9223372036854775807 then (some (t388 ++ t389)) else (none))) = some r := H
  have A2 := Aside0.mk A20
  clear A20
  replace H := Option.bind_eq_some_iff.mp H
  obtain ⟨t389, A30, H⟩ := H
  replace H : (if t388.size + t389.size ≤ 9223372036854775807 then (some (t388 ++ t389)) else (none)) = some r := H
  have A3 := Aside0.mk A30
  clear A30
  by_cases c4 : t388.size + t389.size ≤ 9223372036854775807
  · rw [if_pos c4] at H
    have c4b0 := eq_true c4
    have c4b1 : decide (t388.size + t389.size ≤ 9223372036854775807) = true := decide_eq_true c4
    try have c4b2 : (9223372036854775807 < t388.size + t389.size) = False := eq_false (Nat.not_lt.2 c4)
    obtain rfl := Option.some.inj H
    go_enter Tryd.func41, Tryd.ntmps41
    go_wp2_with (first | ((with_reducible refine gate_callee (f := 57) rfl ?_); refine goesL_ (some 6) rfl rfl Tryd.func57 (by kernel_rfl) rfl #[.int .i64 (wrap64 (Int.tdiv (wrap64 (a0)) 16))] rfl (by (try simp only [List.map_toArray, List.map_cons, List.map_nil]); first | done | rfl | (simp only [List.length_drop, List.length_take]; rfl)) ?_; (with_reducible refine (galleyref23_digit.calls (wrap64 (Int.tdiv (wrap64 (a0)) 16)) t388 _ A2.out).mono ?_); rintro e w5 ⟨rfl, hb⟩; refine ⟨_, rfl, ?_⟩; have n0_ := Aside0.mk (below_step (by repeat (first | (with_reducible first | exact HB.out | apply below_alloc | apply pw_below_drewN | apply below_drew1) | exact HB.out)) hb); clear HB; have HB := n0_; clear n0_; (try clear hb); (try clear hb2); (try clear hk); (try clear hi)) | ((with_reducible refine gate_callee (f := 57) rfl ?_); refine goesL_ (some 10) rfl rfl Tryd.func57 (by kernel_rfl) rfl #[.int .i64 (Int.tmod (wrap64 (a0)) 16)] rfl (by (try simp only [List.map_toArray, List.map_cons, List.map_nil]); first | done | rfl | (simp only [List.length_drop, List.length_take]; rfl)) ?_; (with_reducible refine (galleyref23_digit.calls (Int.tmod (wrap64 (a0)) 16) t389 _ A3.out).mono ?_); rintro e w6 ⟨rfl, hb⟩; refine ⟨_, rfl, ?_⟩; have n0_ := Aside0.mk (below_step (by repeat (first | (with_reducible first | exact HB.out | apply below_alloc | apply pw_below_drewN | apply below_drew1) | exact HB.out)) hb); clear HB; have HB := n0_; clear n0_; (try clear hb); (try clear hb2); (try clear hk); (try clear hi)))
    go_ret
    exact ⟨by first | rfl | (simp [errW_none, errW_some] <;> rfl) | (simp [*, errW_none, errW_some] <;> rfl), by repeat (first | (with_reducible first | exact HB.out | apply below_alloc | apply pw_below_drewN | apply below_drew1) | exact HB.out)⟩
  · rw [if_neg c4] at H
    exact absurd H (by simp)
end Go.Proofs.YtflddgoapibleaaDoor.Esc

namespace Go.Proofs.YtflddgoapibleaaDoor.Esc
open Go.RowKit Go.Proofs.YtflddgoapibleaaDoor.Hand Go.Proofs.YtflddgoapibleaaDoorW.PrintWords Go.Proofs.YtflddgoapibleaaDoorW.PrintLast Go.Proofs.YtflddgoapibleaaDoorW.PrintMore
attribute [local go_sem] max2_int min2_int max_two min_two max_three min_three max_four min_four
set_option linter.unusedVariables false
set_option linter.unusedSimpArgs false
def galleyref23_digits.l0 : Nat → Int → ByteArray → Option (ByteArray)
  | 0, _, _ => none
  | k + 1, x0, x3 => if x0 > 0 then ((galleyref23_digit.f (Int.tmod x0 16)).bind fun t391 => (if t391.size + x3.size ≤ 9223372036854775807 then (galleyref23_digits.l0 k (wrap64 (Int.tdiv x0 16)) (t391 ++ x3)) else (none))) else (some x3)
def galleyref23_digits.f (k : Nat) (a0 : Int) : Option (ByteArray) := (galleyref23_digit.f (Int.tmod a0 16)).bind fun t390 => (galleyref23_digits.l0 k (wrap64 (Int.tdiv a0 16)) t390)
set_option maxHeartbeats 8000000 in
set_option maxRecDepth 100000 in
theorem galleyref23_digits.calls (k : Nat) (a0 : Int) (r : ByteArray) (w : World) (h : galleyref23_digits.f k a0 = some r) :
    Calls Tryd.prog 52 #[.int .i64 a0] w fun e w' => e = .returned (.string r) ∧ Below w.heap.size w w' := by
  have HB := Aside0.mk (Below.refl w.heap.size w)
  have H : ((galleyref23_digit.f (Int.tmod a0 16)).bind fun t390 => (galleyref23_digits.l0 k (wrap64 (Int.tdiv a0 16)) t390)) = some r := h
  clear h
  replace H := Option.bind_eq_some_iff.mp H
  obtain ⟨t390, A20, H⟩ := H
  replace H : (galleyref23_digits.l0 k (wrap64 (Int.tdiv a0 16)) t390) = some r := H
  have A2 := Aside0.mk A20
  clear A20
  have H' := Aside0.mk H
  clear H
  go_enter Tryd.func52, Tryd.ntmps52
  go_wp2_with (first | ((with_reducible refine gate_callee (f := 57) rfl ?_); refine goesL_ (some 6) rfl rfl Tryd.func57 (by kernel_rfl) rfl #[.int .i64 (Int.tmod a0 16)] rfl (by (try simp only [List.map_toArray, List.map_cons, List.map_nil]); first | done | rfl | (simp only [List.length_drop, List.length_take]; rfl)) ?_; (with_reducible refine (galleyref23_digit.calls (Int.tmod a0 16) t390 _ A2.out).mono ?_); rintro e w3 ⟨rfl, hb⟩; refine ⟨_, rfl, ?_⟩; have n0_ := Aside0.mk (below_step (by repeat (first | (with_reducible first | exact HB.out | apply below_alloc | apply pw_below_drewN | apply below_drew1) | exact HB.out)) hb); clear HB; have HB := n0_; clear n0_; (try clear hb); (try clear hb2); (try clear hk); (try clear hi)))
  go_loopg [0, 3] k (fun kq v0 v3 w' => ∃ (x0_1 : Int) (x3_1 : ByteArray), v0 = .int .i64 x0_1 ∧ v3 = .string x3_1 ∧ Aside0 (galleyref23_digits.l0 kq x0_1 x3_1 = some r) ∧ Aside0 (kq ≤ k) ∧ Aside0 (Below w.heap.size w w'))
  case atStart => exact ⟨(wrap64 (Int.tdiv a0 16)), (t390), (by first | rfl | (simp; done) | (simp [*]; done)), (by first | rfl | (simp; done) | (simp [*]; done)), H', ⟨Nat.le_refl _⟩, ⟨by repeat (first | (with_reducible first | exact HB.out | apply below_alloc | apply pw_below_drewN | apply below_drew1) | exact HB.out)⟩⟩
  case round =>
    clear H'
    try clear p2
    obtain ⟨x0_1, x3_1, rfl, rfl, HA, HK1, HB⟩ := hrel
    cases gk with
    | zero => exact absurd HA.out (by simp [galleyref23_digits.l0])
    | succ k1 =>
      have H := HA.out
      clear HA
      simp only [galleyref23_digits.l0] at H
      by_cases c4 : x0_1 > 0
      · rw [if_pos c4] at H
        have c4b0 : decide (0 < x0_1) = true := decide_eq_true c4
        clear c4
        replace H := Option.bind_eq_some_iff.mp H
        obtain ⟨t391, A50, H⟩ := H
        replace H : (if t391.size + x3_1.size ≤ 9223372036854775807 then (galleyref23_digits.l0 k1 (wrap64 (Int.tdiv x0_1 16)) (t391 ++ x3_1)) else (none)) = some r := H
        have A5 := Aside0.mk A50
        clear A50
        by_cases c6 : t391.size + x3_1.size ≤ 9223372036854775807
        · rw [if_pos c6] at H
          have c6b0 := eq_true c6
          have c6b1 : decide (t391.size + x3_1.size ≤ 9223372036854775807) = true := decide_eq_true c6
          try have c6b2 : (9223372036854775807 < t391.size + x3_1.size) = False := eq_false (Nat.not_lt.2 c6)
          have H' := Aside0.mk H
          clear H
          go_wp2_with (first | ((with_reducible refine gate_callee (f := 57) rfl ?_); refine goesL_ (some 15) rfl rfl Tryd.func57 (by kernel_rfl) rfl #[.int .i64 (Int.tmod x0_1 16)] rfl (by (try simp only [List.map_toArray, List.map_cons, List.map_nil]); first | done | rfl | (simp only [List.length_drop, List.length_take]; rfl)) ?_; (with_reducible refine (galleyref23_digit.calls (Int.tmod x0_1 16) t391 _ A5.out).mono ?_); rintro e w7 ⟨rfl, hb⟩; refine ⟨_, rfl, ?_⟩; have n0_ := Aside0.mk (below_step (by repeat (first | (with_reducible first | exact HB.out | apply below_alloc | apply pw_below_drewN | apply below_drew1) | exact HB.out)) hb); clear HB; have HB := n0_; clear n0_; (try clear hb); (try clear hb2); (try clear hk); (try clear hi)))
          go_roundg k1
          case measure => have := HK1.out; omega
          case rel => exact ⟨(wrap64 (Int.tdiv x0_1 16)), (t391 ++ x3_1), (by first | rfl | (simp; done) | (simp [*]; done)), (by first | rfl | (simp; done) | (simp [*]; done)), H', ⟨by have := HK1.out; omega⟩, ⟨by repeat (first | (with_reducible first | exact HB.out | apply below_alloc | apply pw_below_drewN | apply below_drew1) | exact HB.out)⟩⟩
        · rw [if_neg c6] at H
          exact absurd H (by simp)
      · rw [if_neg c4] at H
        have c4b0 : decide (0 < x0_1) = false := decide_eq_false c4
        clear c4
        obtain rfl := Option.some.inj H
        go_wp2
        go_ret
        exact ⟨by first | rfl | (simp [errW_none, errW_some] <;> rfl) | (simp [*, errW_none, errW_some] <;> rfl), by repeat (first | (with_reducible first | exact HB.out | apply below_alloc | apply pw_below_drewN | apply below_drew1) | exact HB.out)⟩
end Go.Proofs.YtflddgoapibleaaDoor.Esc

namespace Go.Proofs.YtflddgoapibleaaDoor.Esc
open Go.RowKit Go.Proofs.YtflddgoapibleaaDoor.Hand Go.Proofs.YtflddgoapibleaaDoorW.PrintWords Go.Proofs.YtflddgoapibleaaDoorW.PrintLast Go.Proofs.YtflddgoapibleaaDoorW.PrintMore
attribute [local go_sem] max2_int min2_int max_two min_two max_three min_three max_four min_four
set_option linter.unusedVariables false
set_option linter.unusedSimpArgs false
mutual
def galleyref01_Value.j0 : Nat → List Int → Int → Option (Int)
  | 0, _, _ => none
  | k + 1, x0, x4 => galleyref01_Value.l0 k x0 x4 1
def galleyref01_Value.l0 : Nat → List Int → Int → Int → Option (Int)
  | 0, _, _, _ => none
  | k + 1, x0, x4, x5 => if x5 < (x0.length : Int) then (if 0 ≤ x5 then (galleyref01_Value.l0 k x0 (wrap64 ((wrap64 (x4 * 64)) + (Int.tmod (wrap64 (rd x0 x5)) 64))) (wrap64 (x5 + 1))) else (none)) else (some (wrap32 (x4)))
end
def galleyref01_Value.f (k : Nat) (l0 : List Int) : Option (Int) := (galleyref01_Whole.f k l0).bind fun t392 => (if t392 = true then (if 0 < (l0.length : Int) then (if (l0.length : Int) = 2 then (galleyref01_Value.j0 k l0 (Int.tmod (wrap64 (rd l0 0)) 32)) else (if (l0.length : Int) = 3 then (galleyref01_Value.j0 k l0 (Int.tmod (wrap64 (rd l0 0)) 16)) else (if (l0.length : Int) = 4 then (galleyref01_Value.j0 k l0 (Int.tmod (wrap64 (rd l0 0)) 8)) else (galleyref01_Value.j0 k l0 (wrap64 (rd l0 0)))))) else (none)) else (some (-1)))
set_option maxHeartbeats 8000000 in
set_option maxRecDepth 100000 in
theorem galleyref01_Value.calls (k : Nat) (A0 : Option Addr) (c0 : Nat) (l0 : List Int) (r : Int) (w : World) (hr0 : Kd.C (Kd.int .u8) w A0 l0.length l0) (hc0 : l0.length ≤ c0) (h : galleyref01_Value.f k l0 = some r) :
    Calls Tryd.prog 53 #[.slice A0 l0.length c0] w fun e w' => e = .returned (.int .i32 r) ∧ Drawn0 w w' := by
  have HR0 := Aside0.mk hr0
  have HC0 := Aside0.mk hc0
  clear hr0 hc0
  have H : ((galleyref01_Whole.f k l0).bind fun t392 => (if t392 = true then (if 0 < (l0.length : Int) then (if (l0.length : Int) = 2 then (galleyref01_Value.j0 k l0 (Int.tmod (wrap64 (rd l0 0)) 32)) else (if (l0.length : Int) = 3 then (galleyref01_Value.j0 k l0 (Int.tmod (wrap64 (rd l0 0)) 16)) else (if (l0.length : Int) = 4 then (galleyref01_Value.j0 k l0 (Int.tmod (wrap64 (rd l0 0)) 8)) else (galleyref01_Value.j0 k l0 (wrap64 (rd l0 0)))))) else (none)) else (some (-1)))) = some r := h
  clear h
  replace H := Option.bind_eq_some_iff.mp H
  obtain ⟨t392, A20, H⟩ := H
  replace H : (if t392 = true then (if 0 < (l0.length : Int) then (if (l0.length : Int) = 2 then (galleyref01_Value.j0 k l0 (Int.tmod (wrap64 (rd l0 0)) 32)) else (if (l0.length : Int) = 3 then (galleyref01_Value.j0 k l0 (Int.tmod (wrap64 (rd l0 0)) 16)) else (if (l0.length : Int) = 4 then (galleyref01_Value.j0 k l0 (Int.tmod (wrap64 (rd l0 0)) 8)) else (galleyref01_Value.j0 k l0 (wrap64 (rd l0 0)))))) else (none)) else (some (-1))) = some r := H
  have A2 := Aside0.mk A20
  clear A20
  by_cases c3 : t392 = true
  · subst c3
    have H1 : (if 0 < (l0.length : Int) then (if (l0.length : Int) = 2 then (galleyref01_Value.j0 k l0 (Int.tmod (wrap64 (rd l0 0)) 32)) else (if (l0.length : Int) = 3 then (galleyref01_Value.j0 k l0 (Int.tmod (wrap64 (rd l0 0)) 16)) else (if (l0.length : Int) = 4 then (galleyref01_Value.j0 k l0 (Int.tmod (wrap64 (rd l0 0)) 8)) else (galleyref01_Value.j0 k l0 (wrap64 (rd l0 0)))))) else (none)) = some r := by rw [if_pos rfl] at H; exact H
    clear H
    have H := H1
    clear H1
    by_cases c4 : 0 < (l0.length : Int)
    · rw [if_pos c4] at H
      have c4b0 : decide (0 < (l0.length : Int)) = true := decide_eq_true c4
      have c4b1 : decide (0 < l0.length) = true := decide_eq_true (by omega)
      clear c4
      have HC5 := Aside0.mk H
      clear H
      go_enter Tryd.func53, Tryd.ntmps53
      go_upto_block 0 with (first | ((with_reducible refine gate_callee (f := 39) rfl ?_); refine goesL_ (some 7) rfl rfl Tryd.func39 (by kernel_rfl) rfl #[.slice A0 l0.length c0] rfl (by (try simp only [List.map_toArray, List.map_cons, List.map_nil]); first | done | rfl | (simp only [List.length_drop, List.length_take]; rfl)) ?_; (with_reducible refine (galleyref01_Whole.calls k _ _ l0 true _ ?side1 ?side2 A2.out).mono ?_); (case side1 => repeat (first | exact HR0.out | (with_reducible refine Kd.C_alloc ?_ _) | (with_reducible refine Kd.C_drewN ?_ _) | (with_reducible refine Kd.C_drew ?_))); (case side2 => exact HC0.out); rintro e w' ⟨rfl, ⟨nd, rfl⟩⟩; refine ⟨_, rfl, ?_⟩; have p393 : 0 ≤ (0 : Int) := (by omega); have q393 : 0 < (l0.length : Int) := of_decide_eq_true (by first | (with_reducible assumption) | assumption); obtain ⟨ad393, e393, hx393_0⟩ := Kd.at_int HR0.out 0 p393 q393; cases e393; have qi393 : (0 < l0.length) = True := eq_true (by omega); (try rw [show ((0 : Int)).toNat = 0 from rfl] at hx393_0); (try rw [Addr.add_zero'] at hx393_0); replace p393 := eq_true p393; replace q393 := eq_true q393))
      (try simp only [Act.put, List.setIfInBounds_toArray, List.set_cons_zero, List.set_cons_succ])
      go_cut [4] (fun v4 wc => ∃ (kq : Nat) (x4_4 : Int), v4 = .int .i64 x4_4 ∧ Aside0 (galleyref01_Value.j0 kq l0 x4_4 = some r) ∧ Aside0 (kq ≤ k) ∧ Drawn0 w wc)
      case first =>
        have H := HC5.out
        clear HC5
        by_cases c6 : (l0.length : Int) = 2
        · rw [if_pos c6] at H
          have c6b0 : ((l0.length : Int) == 2) = true := beq_iff_eq.mpr c6
          have c6b1 : ((l0.length : Int) != 2) = false := bne_eq_false_iff_eq.mpr c6
          clear c6
          (first | rw [c6b0] | (simp only [i64_w, i32_w]; rw [c6b0]) | skip)
          have H' := Aside0.mk H
          clear H
          go_wp2
          go_meet
          case rel => exact ⟨_, (Int.tmod (wrap64 (rd l0 0)) 32), (by first | rfl | (simp; done) | (simp [*]; done)), H', ⟨by first | omega | exact Nat.le_refl _⟩, by repeat (first | exact Drawn0.refl _ | apply Drawn0.step)⟩
        · rw [if_neg c6] at H
          have c6b0 : ((l0.length : Int) == 2) = false := beq_eq_false_iff_ne.mpr c6
          have c6b1 : ((l0.length : Int) != 2) = true := bne_iff_ne.mpr c6
          (first | rw [c6b0] | (simp only [i64_w, i32_w]; rw [c6b0]) | skip)
          by_cases c7 : (l0.length : Int) = 3
          · rw [if_pos c7] at H
            have c7b0 : ((l0.length : Int) == 3) = true := beq_iff_eq.mpr c7
            have c7b1 : ((l0.length : Int) != 3) = false := bne_eq_false_iff_eq.mpr c7
            clear c7
            have H' := Aside0.mk H
            clear H
            go_wp2
            go_meet
            case rel => exact ⟨_, (Int.tmod (wrap64 (rd l0 0)) 16), (by first | rfl | (simp; done) | (simp [*]; done)), H', ⟨by first | omega | exact Nat.le_refl _⟩, by repeat (first | exact Drawn0.refl _ | apply Drawn0.step)⟩
          · rw [if_neg c7] at H
            have c7b0 : ((l0.length : Int) == 3) = false := beq_eq_false_iff_ne.mpr c7
            have c7b1 : ((l0.length : Int) != 3) = true := bne_iff_ne.mpr c7
            by_cases c8 : (l0.length : Int) = 4
            · rw [if_pos c8] at H
              have c8b0 : ((l0.length : Int) == 4) = true := beq_iff_eq.mpr c8
              have c8b1 : ((l0.length : Int) != 4) = false := bne_eq_false_iff_eq.mpr c8
              clear c8
              have H' := Aside0.mk H
              clear H
              go_wp2
              go_meet
              case rel => exact ⟨_, (Int.tmod (wrap64 (rd l0 0)) 8), (by first | rfl | (simp; done) | (simp [*]; done)), H', ⟨by first | omega | exact Nat.le_refl _⟩, by repeat (first | exact Drawn0.refl _ | apply Drawn0.step)⟩
            · rw [if_neg c8] at H
              have c8b0 : ((l0.length : Int) == 4) = false := beq_eq_false_iff_ne.mpr c8
              have c8b1 : ((l0.length : Int) != 4) = true := bne_iff_ne.mpr c8
              have H' := Aside0.mk H
              clear H
              go_wp2
              go_meet
              case rel => exact ⟨_, (wrap64 (rd l0 0)), (by first | rfl | (simp; done) | (simp [*]; done)), H', ⟨by first | omega | exact Nat.le_refl _⟩, by repeat (first | exact Drawn0.refl _ | apply Drawn0.step)⟩
      case rest =>
        clear HC5
        try clear p2
        try clear c3
        try clear p3
        try clear q3
        try clear hx3
        try clear qi3
        try clear c4
        try clear c4b0
        try clear c4b1
        try clear c5
        try clear c6
        try clear c6b0
        try clear c6b1
        try clear p6
        try clear c7
        try clear c7b0
        try clear c7b1
        try clear c8
        try clear c8b0
        try clear c8b1
        try clear hx393_0
        try clear p393
        try clear q393
        obtain ⟨kq, x4_4, rfl, HA, HJ4, ⟨mc4, rfl⟩⟩ := hcut
        cases kq with
        | zero => exact absurd HA.out (by simp [galleyref01_Value.j0])
        | succ kj4 =>
          have H := HA.out
          clear HA
          simp only [galleyref01_Value.j0] at H
          have H' := Aside0.mk H
          clear H
          go_wp2
          go_loopg [4, 5] kj4 (fun kq v4 v5 w' => ∃ (x4_2 : Int) (x5_2 : Int), v4 = .int .i64 x4_2 ∧ v5 = .int .i64 x5_2 ∧ Aside0 (galleyref01_Value.l0 kq l0 x4_2 x5_2 = some r) ∧ Aside0 (kq ≤ kj4) ∧ Drawn0 w w')
          case atStart => exact ⟨(x4_4), (1), (by first | rfl | (simp; done) | (simp [*]; done)), (by first | rfl | (simp; done) | (simp [*]; done)), H', ⟨Nat.le_refl _⟩, by repeat (first | exact Drawn0.refl _ | apply Drawn0.step)⟩
          case round =>
            clear H'
            try clear p2
            try clear c3
            try clear p3
            try clear q3
            try clear hx3
            try clear qi3
            try clear c4
            try clear c4b0
            try clear c4b1
            try clear c5
            try clear c6
            try clear c6b0
            try clear c6b1
            try clear p6
            try clear c7
            try clear c7b0
            try clear c7b1
            try clear c8
            try clear c8b0
            try clear c8b1
            try clear hx393_0
            try clear p2
            try clear p3
            try clear p393
            try clear p6
            try clear q3
            try clear q393
            obtain ⟨x4_2, x5_2, rfl, rfl, HA, HK2, ⟨m2, rfl⟩⟩ := hrel
            cases gk with
            | zero => exact absurd HA.out (by simp [galleyref01_Value.l0])
            | succ k2 =>
              have H := HA.out
              clear HA
              simp only [galleyref01_Value.l0] at H
              by_cases c9 : x5_2 < (l0.length : Int)
              · rw [if_pos c9] at H
                have c9b0 : decide (x5_2 < (l0.length : Int)) = true := decide_eq_true c9
                clear c9
                by_cases c10 : 0 ≤ x5_2
                · rw [if_pos c10] at H
                  have c10b0 : decide (0 ≤ x5_2) = true := decide_eq_true c10
                  clear c10
                  have H' := Aside0.mk H
                  clear H
                  have p394 : 0 ≤ (x5_2 : Int) := of_decide_eq_true (by first | (with_reducible assumption) | assumption)
                  have q394 : x5_2 < (l0.length : Int) := of_decide_eq_true (by first | (with_reducible assumption) | assumption)
                  obtain ⟨ad394, e394, hx394_0⟩ := Kd.at_int HR0.out x5_2 p394 q394
                  obtain rfl : ad393 = ad394 := (by injection e394)
                  replace p394 := eq_true p394
                  replace q394 := eq_true q394
                  go_wp2
                  go_roundg k2
                  case measure => have := HJ4.out; have := HK2.out; omega
                  case rel => exact ⟨(wrap64 ((wrap64 (x4_2 * 64)) + (Int.tmod (wrap64 (rd l0 x5_2)) 64))), (wrap64 (x5_2 + 1)), (by first | rfl | (simp; done) | (simp [*]; done)), (by first | rfl | (simp; done) | (simp [*]; done)), H', ⟨by have := HJ4.out; have := HK2.out; omega⟩, by repeat (first | exact Drawn0.refl _ | apply Drawn0.step)⟩
                · rw [if_neg c10] at H
                  exact absurd H (by simp)
              · rw [if_neg c9] at H
                have c9b0 : decide (x5_2 < (l0.length : Int)) = false := decide_eq_false c9
                clear c9
                obtain rfl := Option.some.inj H
                go_wp2
                go_ret
                exact ⟨by first | rfl | (simp; done) | (simp [*]; done), by repeat (first | exact Drawn0.refl _ | apply Drawn0.step)⟩
    · rw [if_neg c4] at H
      exact absurd H (by simp)
  · replace c3 := Bool.eq_false_iff.mpr c3
    subst c3
    have H1 : (some (-1)) = some r := by rw [if_neg (show ¬ (false = true) by decide)] at H; exact H
    clear H
    have H := H1
    clear H1
    obtain rfl := Option.some.inj H
    go_enter Tryd.func53, Tryd.ntmps53
    go_wp2_with (first | ((with_reducible refine gate_callee (f := 39) rfl ?_); refine goesL_ (some 7) rfl rfl Tryd.func39 (by kernel_rfl) rfl #[.slice A0 l0.length c0] rfl (by (try simp only [List.map_toArray, List.map_cons, List.map_nil]); first | done | rfl | (simp only [List.length_drop, List.length_take]; rfl)) ?_; (with_reducible refine (galleyref01_Whole.calls k _ _ l0 false _ ?side1 ?side2 A2.out).mono ?_); (case side1 => repeat (first | exact HR0.out | (with_reducible refine Kd.C_alloc ?_ _) | (with_reducible refine Kd.C_drewN ?_ _) | (with_reducible refine Kd.C_drew ?_))); (case side2 => exact HC0.out); rintro e w' ⟨rfl, ⟨nd, rfl⟩⟩; refine ⟨_, rfl, ?_⟩))
    go_ret
    exact ⟨by first | rfl | (simp; done) | (simp [*]; done), by repeat (first | exact Drawn0.refl _ | apply Drawn0.step)⟩
end Go.Proofs.YtflddgoapibleaaDoor.Esc

namespace Go.Proofs.YtflddgoapibleaaDoor.Esc
open Go.RowKit Go.Proofs.YtflddgoapibleaaDoor.Hand Go.Proofs.YtflddgoapibleaaDoorW.PrintWords Go.Proofs.YtflddgoapibleaaDoorW.PrintLast Go.Proofs.YtflddgoapibleaaDoorW.PrintMore
attribute [local go_sem] max2_int min2_int max_two min_two max_three min_three max_four min_four
set_option linter.unusedVariables false
set_option linter.unusedSimpArgs false
def galleyref23_Piece.f (k : Nat) (l0 : List Int) : Option (ByteArray) := (galleyref01_Whole.f k l0).bind fun t395 => (if (l0.length : Int) > 1 then ((galleyref01_Value.f k l0).bind fun t396 => ((galleyref23_digits.f k (wrap64 (t396))).bind fun t397 => (if 3 + t397.size ≤ 9223372036854775807 then (if ((⟨#[92, 117, 123]⟩ : ByteArray) ++ t397).size + 1 ≤ 9223372036854775807 then (some (((⟨#[92, 117, 123]⟩ : ByteArray) ++ t397) ++ (⟨#[125]⟩ : ByteArray))) else (none)) else (none)))) else (if 0 < (l0.length : Int) then (if (rd l0 0) = 92 then (some (⟨#[92, 92]⟩ : ByteArray)) else (if (rd l0 0) = 10 then (some (⟨#[92, 110]⟩ : ByteArray)) else (if (rd l0 0) = 13 then (some (⟨#[92, 114]⟩ : ByteArray)) else (if (rd l0 0) = 9 then (some (⟨#[92, 116]⟩ : ByteArray)) else (if t395 = true then (if (rd l0 0) ≥ 32 then (if (rd l0 0) ≤ 126 then (some (strOfNums l0)) else ((galleyref23_two.f (rd l0 0)).bind fun t405 => (if 2 + t405.size ≤ 9223372036854775807 then (some ((⟨#[92, 120]⟩ : ByteArray) ++ t405)) else (none)))) else ((galleyref23_two.f (rd l0 0)).bind fun t407 => (if 2 + t407.size ≤ 9223372036854775807 then (some ((⟨#[92, 120]⟩ : ByteArray) ++ t407)) else (none)))) else ((galleyref23_two.f (rd l0 0)).bind fun t409 => (if 2 + t409.size ≤ 9223372036854775807 then (some ((⟨#[92, 120]⟩ : ByteArray) ++ t409)) else (none)))))))) else (none)))
set_option maxHeartbeats 8000000 in
set_option maxRecDepth 100000 in
theorem galleyref23_Piece.calls (k : Nat) (A0 : Option Addr) (c0 : Nat) (l0 : List Int) (r : ByteArray) (w : World) (hr0 : Kd.C (Kd.int .u8) w A0 l0.length l0) (hc0 : l0.length ≤ c0) (h : galleyref23_Piece.f k l0 = some r) :
    Calls Tryd.prog 38 #[.slice A0 l0.length c0] w fun e w' => e = .returned (.string r) ∧ Below w.heap.size w w' := by
  have HR0 := Aside0.mk hr0
  have HC0 := Aside0.mk hc0
  clear hr0 hc0
  have HB := Aside0.mk (Below.refl w.heap.size w)
  have H : ((galleyref01_Whole.f k l0).bind fun t395 => (if (l0.length : Int) > 1 then ((galleyref01_Value.f k l0).bind fun t396 => ((galleyref23_digits.f k (wrap64 (t396))).bind fun t397 => (if 3 + t397.size ≤ 9223372036854775807 then (if ((⟨#[92, 117, 123]⟩ : ByteArray) ++ t397).size + 1 ≤ 9223372036854775807 then (some (((⟨#[92, 117, 123]⟩ : ByteArray) ++ t397) ++ (⟨#[125]⟩ : ByteArray))) else (none)) else (none)))) else (if 0 < (l0.length : Int) then (if (rd l0 0) = 92 then (some (⟨#[92, 92]⟩ : ByteArray)) else (if (rd l0 0) = 10 then (some (⟨#[92, 110]⟩ : ByteArray)) else (if (rd l0 0) = 13 then (some (⟨#[92, 114]⟩ : ByteArray)) else (if (rd l0 0) = 9 then (some (⟨#[92, 116]⟩ : ByteArray)) else (if t395 = true then (if (rd l0 0) ≥ 32 then (if (rd l0 0) ≤ 126 then (some (strOfNums l0)) else ((galleyref23_two.f (rd l0 0)).bind fun t405 => (if 2 + t405.size ≤ 9223372036854775807 then (some ((⟨#[92, 120]⟩ : ByteArray) ++ t405)) else (none)))) else ((galleyref23_two.f (rd l0 0)).bind fun t407 => (if 2 + t407.size ≤ 9223372036854775807 then (some ((⟨#[92, 120]⟩ : ByteArray) ++ t407)) else (none)))) else ((galleyref23_two.f (rd l0 0)).bind fun t409 => (if 2 + t409.size ≤ 9223372036854775807 then (some ((⟨#[92, 120]⟩ : ByteArray) ++ t409)) else (none)))))))) else (none)))) = some r := h
  clear h
  replace H := Option.bind_eq_some_iff.mp H
  obtain ⟨t395, A20, H⟩ := H
  replace H : (if (l0.length : Int) > 1 then ((galleyref01_Value.f k l0).bind fun t396 => ((galleyref23_digits.f k (wrap64 (t396))).bind fun t397 => (if 3 + t397.size ≤ 9223372036854775807 then (if ((⟨#[92, 117, 123]⟩ : ByteArray) ++ t397).size + 1 ≤ 9223372036854775807 then (some (((⟨#[92, 117, 123]⟩ : ByteArray) ++ t397) ++ (⟨#[125]⟩ : ByteArray))) else (none)) else (none)))) else (if 0 < (l0.length : Int) then (if (rd l0 0) = 92 then (some (⟨#[92, 92]⟩ : ByteArray)) else (if (rd l0 0) = 10 then (some (⟨#[92, 110]⟩ : ByteArray)) else (if (rd l0 0) = 13 then (some (⟨#[92, 114]⟩ : ByteArray)) else (if (rd l0 0) = 9 then (some (⟨#[92, 116]⟩ : ByteArray)) else (if t395 = true then (if (rd l0 0) ≥ 32 then (if (rd l0 0) ≤ 126 then (some (strOfNums l0)) else ((galleyref23_two.f (rd l0 0)).bind fun t405 => (if 2 + t405.size ≤ 9223372036854775807 then (some ((⟨#[92, 120]⟩ : ByteArray) ++ t405)) else (none)))) else ((galleyref23_two.f (rd l0 0)).bind fun t407 => (if 2 + t407.size ≤ 9223372036854775807 then (some ((⟨#[92, 120]⟩ : ByteArray) ++ t407)) else (none)))) else ((galleyref23_two.f (rd l0 0)).bind fun t409 => (if 2 + t409.size ≤ 9223372036854775807 then (some ((⟨#[92, 120]⟩ : ByteArray) ++ t409)) else (none)))))))) else (none))) = some r := H
  have A2 := Aside0.mk A20
  clear A20
  by_cases c3 : (l0.length : Int) > 1
  · rw [if_pos c3] at H
    have c3b0 : decide (1 < (l0.length : Int)) = true := decide_eq_true c3
    have c3b1 : decide (1 < l0.length) = true := decide_eq_true (by omega)
    clear c3
    replace H := Option.bind_eq_some_iff.mp H
    obtain ⟨t396, A40, H⟩ := H
    replace H : ((galleyref23_digits.f k (wrap64 (t396))).bind fun t397 => (if 3 + t397.size ≤ 9223372036854775807 then (if ((⟨#[92, 117, 123]⟩ : ByteArray) ++ t397).size + 1 ≤ 9223372036854775807 then (some (((⟨#[92, 117, 123]⟩ : ByteArray) ++ t397) ++ (⟨#[125]⟩ : ByteArray))) else (none)) else (none))) = some r := H
    have A4 := Aside0.mk A40
    clear A40
    replace H := Option.bind_eq_some_iff.mp H
    obtain ⟨t397, A50, H⟩ := H
    replace H : (if 3 + t397.size ≤ 9223372036854775807 then (if ((⟨#[92, 117, 123]⟩ : ByteArray) ++ t397).size + 1 ≤ 9223372036854775807 then (some (((⟨#[92, 117, 123]⟩ : ByteArray) ++ t397) ++ (⟨#[125]⟩ : ByteArray))) else (none)) else (none)) = some r := H
    have A5 := Aside0.mk A50
    clear A50
    by_cases c6 : 3 + t397.size ≤ 9223372036854775807
    · rw [if_pos c6] at H
      have c6b0 := eq_true c6
      have c6b1 : decide (3 + t397.size ≤ 9223372036854775807) = true := decide_eq_true c6
      try have c6b2 : (9223372036854775807 < 3 + t397.size) = False := eq_false (Nat.not_lt.2 c6)
      by_cases c7 : ((⟨#[92, 117, 123]⟩ : ByteArray) ++ t397).size + 1 ≤ 9223372036854775807
      · rw [if_pos c7] at H
        have c7b0 := eq_true c7
        have c7b1 : decide (((⟨#[92, 117, 123]⟩ : ByteArray) ++ t397).size + 1 ≤ 9223372036854775807) = true := decide_eq_true c7
        try have c7b2 : (9223372036854775807 < ((⟨#[92, 117, 123]⟩ : ByteArray) ++ t397).size + 1) = False := eq_false (Nat.not_lt.2 c7)
        have c7c : (9223372036854775807 < 3 + t397.size + 1) = False := eq_false (Nat.not_lt.2 (by have q_ := c7; rw [ByteArray.size_append] at q_; exact q_))
        obtain rfl := Option.some.inj H
        go_enter Tryd.func38, Tryd.ntmps38
        go_wp2_with (first | ((with_reducible refine gate_callee (f := 39) rfl ?_); refine goesL_ (some 5) rfl rfl Tryd.func39 (by kernel_rfl) rfl #[.slice A0 l0.length c0] rfl (by (try simp only [List.map_toArray, List.map_cons, List.map_nil]); first | done | rfl | (simp only [List.length_drop, List.length_take]; rfl)) ?_; (with_reducible refine (galleyref01_Whole.calls k _ _ l0 t395 _ ?side1 ?side2 A2.out).mono ?_); (case side1 => repeat (first | exact HR0.out | (with_reducible refine Kd.C_alloc ?_ _) | (with_reducible refine Kd.C_drewN ?_ _) | (with_reducible refine Kd.C_drew ?_))); (case side2 => exact HC0.out); rintro e w' ⟨rfl, ⟨nd, rfl⟩⟩; refine ⟨_, rfl, ?_⟩) | ((with_reducible refine gate_callee (f := 53) rfl ?_); refine goesL_ (some 10) rfl rfl Tryd.func53 (by kernel_rfl) rfl #[.slice A0 l0.length c0] rfl (by (try simp only [List.map_toArray, List.map_cons, List.map_nil]); first | done | rfl | (simp only [List.length_drop, List.length_take]; rfl)) ?_; (with_reducible refine (galleyref01_Value.calls k _ _ l0 t396 _ ?side1 ?side2 A4.out).mono ?_); (case side1 => repeat (first | exact HR0.out | (with_reducible refine Kd.C_alloc ?_ _) | (with_reducible refine Kd.C_drewN ?_ _) | (with_reducible refine Kd.C_drew ?_))); (case side2 => exact HC0.out); rintro e w' ⟨rfl, ⟨nd, rfl⟩⟩; refine ⟨_, rfl, ?_⟩) | ((with_reducible refine gate_callee (f := 52) rfl ?_); refine goesL_ (some 12) rfl rfl Tryd.func52 (by kernel_rfl) rfl #[.int .i64 (wrap64 (t396))] rfl (by (try simp only [List.map_toArray, List.map_cons, List.map_nil]); first | done | rfl | (simp only [List.length_drop, List.length_take]; rfl)) ?_; (with_reducible refine (galleyref23_digits.calls k (wrap64 (t396)) t397 _ A5.out).mono ?_); rintro e w8 ⟨rfl, hb⟩; refine ⟨_, rfl, ?_⟩; have n0_ := Aside0.mk (below_step (by repeat (first | (with_reducible first | exact HB.out | apply below_alloc | apply pw_below_drewN | apply below_drew1) | exact HB.out)) hb); clear HB; have HB := n0_; clear n0_; (try clear hb); (try clear hb2); (try clear hk); (try clear hi)))
        go_ret
        exact ⟨by first | rfl | (simp [errW_none, errW_some] <;> rfl) | (simp [*, errW_none, errW_some] <;> rfl), by repeat (first | (with_reducible first | exact HB.out | apply below_alloc | apply pw_below_drewN | apply below_drew1) | exact HB.out)⟩
      · rw [if_neg c7] at H
        exact absurd H (by simp)
    · rw [if_neg c6] at H
      exact absurd H (by simp)
  · rw [if_neg c3] at H
    have c3b0 : decide (1 < (l0.length : Int)) = false := decide_eq_false c3
    have c3b1 : decide (1 < l0.length) = false := decide_eq_false (by omega)
    clear c3
    by_cases c9 : 0 < (l0.length : Int)
    · rw [if_pos c9] at H
      have c9b0 : decide (0 < (l0.length : Int)) = true := decide_eq_true c9
      have c9b1 : decide (0 < l0.length) = true := decide_eq_true (by omega)
      clear c9
      by_cases c10 : (rd l0 0) = 92
      · rw [if_pos c10] at H
        have c10b0 : ((rd l0 0) == 92) = true := beq_iff_eq.mpr c10
        have c10b1 : ((rd l0 0) != 92) = false := bne_eq_false_iff_eq.mpr c10
        clear c10
        obtain rfl := Option.some.inj H
        go_enter Tryd.func38, Tryd.ntmps38
        go_wp2_with (first | ((with_reducible refine gate_callee (f := 39) rfl ?_); refine goesL_ (some 5) rfl rfl Tryd.func39 (by kernel_rfl) rfl #[.slice A0 l0.length c0] rfl (by (try simp only [List.map_toArray, List.map_cons, List.map_nil]); first | done | rfl | (simp only [List.length_drop, List.length_take]; rfl)) ?_; (with_reducible refine (galleyref01_Whole.calls k _ _ l0 t395 _ ?side1 ?side2 A2.out).mono ?_); (case side1 => repeat (first | exact HR0.out | (with_reducible refine Kd.C_alloc ?_ _) | (with_reducible refine Kd.C_drewN ?_ _) | (with_reducible refine Kd.C_drew ?_))); (case side2 => exact HC0.out); rintro e w' ⟨rfl, ⟨nd, rfl⟩⟩; refine ⟨_, rfl, ?_⟩; have p398 : 0 ≤ (0 : Int) := (by omega); have q398 : 0 < (l0.length : Int) := of_decide_eq_true (by first | (with_reducible assumption) | assumption); obtain ⟨ad398, e398, hx398_0⟩ := Kd.at_int HR0.out 0 p398 q398; cases e398; have qi398 : (0 < l0.length) = True := eq_true (by omega); (try rw [show ((0 : Int)).toNat = 0 from rfl] at hx398_0); (try rw [Addr.add_zero'] at hx398_0); replace p398 := eq_true p398; replace q398 := eq_true q398))
        go_ret
        exact ⟨by first | rfl | (simp [errW_none, errW_some] <;> rfl) | (simp [*, errW_none, errW_some] <;> rfl), by repeat (first | (with_reducible first | exact HB.out | apply below_alloc | apply pw_below_drewN | apply below_drew1) | exact HB.out)⟩
      · rw [if_neg c10] at H
        have c10b0 : ((rd l0 0) == 92) = false := beq_eq_false_iff_ne.mpr c10
        have c10b1 : ((rd l0 0) != 92) = true := bne_iff_ne.mpr c10
        by_cases c11 : (rd l0 0) = 10
        · rw [if_pos c11] at H
          have c11b0 : ((rd l0 0) == 10) = true := beq_iff_eq.mpr c11
          have c11b1 : ((rd l0 0) != 10) = false := bne_eq_false_iff_eq.mpr c11
          clear c11
          obtain rfl := Option.some.inj H
          go_enter Tryd.func38, Tryd.ntmps38
          go_wp2_with (first | ((with_reducible refine gate_callee (f := 39) rfl ?_); refine goesL_ (some 5) rfl rfl Tryd.func39 (by kernel_rfl) rfl #[.slice A0 l0.length c0] rfl (by (try simp only [List.map_toArray, List.map_cons, List.map_nil]); first | done | rfl | (simp only [List.length_drop, List.length_take]; rfl)) ?_; (with_reducible refine (galleyref01_Whole.calls k _ _ l0 t395 _ ?side1 ?side2 A2.out).mono ?_); (case side1 => repeat (first | exact HR0.out | (with_reducible refine Kd.C_alloc ?_ _) | (with_reducible refine Kd.C_drewN ?_ _) | (with_reducible refine Kd.C_drew ?_))); (case side2 => exact HC0.out); rintro e w' ⟨rfl, ⟨nd, rfl⟩⟩; refine ⟨_, rfl, ?_⟩; have p398 : 0 ≤ (0 : Int) := (by omega); have q398 : 0 < (l0.length : Int) := of_decide_eq_true (by first | (with_reducible assumption) | assumption); obtain ⟨ad398, e398, hx398_0⟩ := Kd.at_int HR0.out 0 p398 q398; cases e398; have qi398 : (0 < l0.length) = True := eq_true (by omega); (try rw [show ((0 : Int)).toNat = 0 from rfl] at hx398_0); (try rw [Addr.add_zero'] at hx398_0); replace p398 := eq_true p398; replace q398 := eq_true q398; have p399 : 0 ≤ (0 : Int) := (by omega); have q399 : 0 < (l0.length : Int) := of_decide_eq_true (by first | (with_reducible assumption) | assumption); obtain ⟨ad399, e399, hx399_0⟩ := Kd.at_int HR0.out 0 p399 q399; obtain rfl : ad398 = ad399 := (by injection e399); have qi399 : (0 < l0.length) = True := eq_true (by omega); (try rw [show ((0 : Int)).toNat = 0 from rfl] at hx399_0); (try rw [Addr.add_zero'] at hx399_0); replace p399 := eq_true p399; replace q399 := eq_true q399))
          go_ret
          exact ⟨by first | rfl | (simp [errW_none, errW_some] <;> rfl) | (simp [*, errW_none, errW_some] <;> rfl), by repeat (first | (with_reducible first | exact HB.out | apply below_alloc | apply pw_below_drewN | apply below_drew1) | exact HB.out)⟩
        · rw [if_neg c11] at H
          have c11b0 : ((rd l0 0) == 10) = false := beq_eq_false_iff_ne.mpr c11
          have c11b1 : ((rd l0 0) != 10) = true := bne_iff_ne.mpr c11
          by_cases c12 : (rd l0 0) = 13
          · rw [if_pos c12] at H
            have c12b0 : ((rd l0 0) == 13) = true := beq_iff_eq.mpr c12
            have c12b1 : ((rd l0 0) != 13) = false := bne_eq_false_iff_eq.mpr c12
            clear c12
            obtain rfl := Option.some.inj H
            go_enter Tryd.func38, Tryd.ntmps38
            go_wp2_with (first | ((with_reducible refine gate_callee (f := 39) rfl ?_); refine goesL_ (some 5) rfl rfl Tryd.func39 (by kernel_rfl) rfl #[.slice A0 l0.length c0] rfl (by (try simp only [List.map_toArray, List.map_cons, List.map_nil]); first | done | rfl | (simp only [List.length_drop, List.length_take]; rfl)) ?_; (with_reducible refine (galleyref01_Whole.calls k _ _ l0 t395 _ ?side1 ?side2 A2.out).mono ?_); (case side1 => repeat (first | exact HR0.out | (with_reducible refine Kd.C_alloc ?_ _) | (with_reducible refine Kd.C_drewN ?_ _) | (with_reducible refine Kd.C_drew ?_))); (case side2 => exact HC0.out); rintro e w' ⟨rfl, ⟨nd, rfl⟩⟩; refine ⟨_, rfl, ?_⟩; have p398 : 0 ≤ (0 : Int) := (by omega); have q398 : 0 < (l0.length : Int) := of_decide_eq_true (by first | (with_reducible assumption) | assumption); obtain ⟨ad398, e398, hx398_0⟩ := Kd.at_int HR0.out 0 p398 q398; cases e398; have qi398 : (0 < l0.length) = True := eq_true (by omega); (try rw [show ((0 : Int)).toNat = 0 from rfl] at hx398_0); (try rw [Addr.add_zero'] at hx398_0); replace p398 := eq_true p398; replace q398 := eq_true q398; have p399 : 0 ≤ (0 : Int) := (by omega); have q399 : 0 < (l0.length : Int) := of_decide_eq_true (by first | (with_reducible assumption) | assumption); obtain ⟨ad399, e399, hx399_0⟩ := Kd.at_int HR0.out 0 p399 q399; obtain rfl : ad398 = ad399 := (by injection e399); have qi399 : (0 < l0.length) = True := eq_true (by omega); (try rw [show ((0 : Int)).toNat = 0 from rfl] at hx399_0); (try rw [Addr.add_zero'] at hx399_0); replace p399 := eq_true p399; replace q399 := eq_true q399; have p400 : 0 ≤ (0 : Int) := (by omega); have q400 : 0 < (l0.length : Int) := of_decide_eq_true (by first | (with_reducible assumption) | assumption); obtain ⟨ad400, e400, hx400_0⟩ := Kd.at_int HR0.out 0 p400 q400; obtain rfl : ad398 = ad400 := (by injection e400); have qi400 : (0 < l0.length) = True := eq_true (by omega); (try rw [show ((0 : Int)).toNat = 0 from rfl] at hx400_0); (try rw [Addr.add_zero'] at hx400_0); replace p400 := eq_true p400; replace q400 := eq_true q400))
            go_ret
            exact ⟨by first | rfl | (simp [errW_none, errW_some] <;> rfl) | (simp [*, errW_none, errW_some] <;> rfl), by repeat (first | (with_reducible first | exact HB.out | apply below_alloc | apply pw_below_drewN | apply below_drew1) | exact HB.out)⟩
          · rw [if_neg c12] at H
            have c12b0 : ((rd l0 0) == 13) = false := beq_eq_false_iff_ne.mpr c12
            have c12b1 : ((rd l0 0) != 13) = true := bne_iff_ne.mpr c12
            by_cases c13 : (rd l0 0) = 9
            · rw [if_pos c13] at H
              have c13b0 : ((rd l0 0) == 9) = true := beq_iff_eq.mpr c13
              have c13b1 : ((rd l0 0) != 9) = false := bne_eq_false_iff_eq.mpr c13
              clear c13
              obtain rfl := Option.some.inj H
              go_enter Tryd.func38, Tryd.ntmps38
              go_wp2_with (first | ((with_reducible refine gate_callee (f := 39) rfl ?_); refine goesL_ (some 5) rfl rfl Tryd.func39 (by kernel_rfl) rfl #[.slice A0 l0.length c0] rfl (by (try simp only [List.map_toArray, List.map_cons, List.map_nil]); first | done | rfl | (simp only [List.length_drop, List.length_take]; rfl)) ?_; (with_reducible refine (galleyref01_Whole.calls k _ _ l0 t395 _ ?side1 ?side2 A2.out).mono ?_); (case side1 => repeat (first | exact HR0.out | (with_reducible refine Kd.C_alloc ?_ _) | (with_reducible refine Kd.C_drewN ?_ _) | (with_reducible refine Kd.C_drew ?_))); (case side2 => exact HC0.out); rintro e w' ⟨rfl, ⟨nd, rfl⟩⟩; refine ⟨_, rfl, ?_⟩; have p398 : 0 ≤ (0 : Int) := (by omega); have q398 : 0 < (l0.length : Int) := of_decide_eq_true (by first | (with_reducible assumption) | assumption); obtain ⟨ad398, e398, hx398_0⟩ := Kd.at_int HR0.out 0 p398 q398; cases e398; have qi398 : (0 < l0.length) = True := eq_true (by omega); (try rw [show ((0 : Int)).toNat = 0 from rfl] at hx398_0); (try rw [Addr.add_zero'] at hx398_0); replace p398 := eq_true p398; replace q398 := eq_true q398; have p399 : 0 ≤ (0 : Int) := (by omega); have q399 : 0 < (l0.length : Int) := of_decide_eq_true (by first | (with_reducible assumption) | assumption); obtain ⟨ad399, e399, hx399_0⟩ := Kd.at_int HR0.out 0 p399 q399; obtain rfl : ad398 = ad399 := (by injection e399); have qi399 : (0 < l0.length) = True := eq_true (by omega); (try rw [show ((0 : Int)).toNat = 0 from rfl] at hx399_0); (try rw [Addr.add_zero'] at hx399_0); replace p399 := eq_true p399; replace q399 := eq_true q399; have p400 : 0 ≤ (0 : Int) := (by omega); have q400 : 0 < (l0.length : Int) := of_decide_eq_true (by first | (with_reducible assumption) | assumption); obtain ⟨ad400, e400, hx400_0⟩ := Kd.at_int HR0.out 0 p400 q400; obtain rfl : ad398 = ad400 := (by injection e400); have qi400 : (0 < l0.length) = True := eq_true (by omega); (try rw [show ((0 : Int)).toNat = 0 from rfl] at hx400_0); (try rw [Addr.add_zero'] at hx400_0); replace p400 := eq_true p400; replace q400 := eq_true q400; have p401 : 0 ≤ (0 : Int) := (by omega); have q401 : 0 < (l0.length : Int) := of_decide_eq_true (by first | (with_reducible assumption) | assumption); obtain ⟨ad401, e401, hx401_0⟩ := Kd.at_int HR0.out 0 p401 q401; obtain rfl : ad398 = ad401 := (by injection e401); have qi401 : (0 < l0.length) = True := eq_true (by omega); (try rw [show ((0 : Int)).toNat = 0 from rfl] at hx401_0); (try rw [Addr.add_zero'] at hx401_0); replace p401 := eq_true p401; replace q401 := eq_true q401))
              go_ret
              exact ⟨by first | rfl | (simp [errW_none, errW_some] <;> rfl) | (simp [*, errW_none, errW_some] <;> rfl), by repeat (first | (with_reducible first | exact HB.out | apply below_alloc | apply pw_below_drewN | apply below_drew1) | exact HB.out)⟩
            · rw [if_neg c13] at H
              have c13b0 : ((rd l0 0) == 9) = false := beq_eq_false_iff_ne.mpr c13
              have c13b1 : ((rd l0 0) != 9) = true := bne_iff_ne.mpr c13
              by_cases c14 : t395 = true
              · subst c14
                have H1 : (if (rd l0 0) ≥ 32 then (if (rd l0 0) ≤ 126 then (some (strOfNums l0)) else ((galleyref23_two.f (rd l0 0)).bind fun t405 => (if 2 + t405.size ≤ 9223372036854775807 then (some ((⟨#[92, 120]⟩ : ByteArray) ++ t405)) else (none)))) else ((galleyref23_two.f (rd l0 0)).bind fun t407 => (if 2 + t407.size ≤ 9223372036854775807 then (some ((⟨#[92, 120]⟩ : ByteArray) ++ t407)) else (none)))) = some r := by rw [if_pos rfl] at H; exact H
                clear H
                have H := H1
                clear H1
                by_cases c15 : (rd l0 0) ≥ 32
                · rw [if_pos c15] at H
                  have c15b0 : decide (32 ≤ (rd l0 0)) = true := decide_eq_true c15
                  clear c15
                  by_cases c16 : (rd l0 0) ≤ 126
                  · rw [if_pos c16] at H
                    have c16b0 : decide ((rd l0 0) ≤ 126) = true := decide_eq_true c16
                    clear c16
                    obtain rfl := Option.some.inj H
                    go_enter Tryd.func38, Tryd.ntmps38
                    go_wp2_with (first | ((with_reducible refine gate_callee (f := 39) rfl ?_); refine goesL_ (some 5) rfl rfl Tryd.func39 (by kernel_rfl) rfl #[.slice A0 l0.length c0] rfl (by (try simp only [List.map_toArray, List.map_cons, List.map_nil]); first | done | rfl | (simp only [List.length_drop, List.length_take]; rfl)) ?_; (with_reducible refine (galleyref01_Whole.calls k _ _ l0 true _ ?side1 ?side2 A2.out).mono ?_); (case side1 => repeat (first | exact HR0.out | (with_reducible refine Kd.C_alloc ?_ _) | (with_reducible refine Kd.C_drewN ?_ _) | (with_reducible refine Kd.C_drew ?_))); (case side2 => exact HC0.out); rintro e w' ⟨rfl, ⟨nd, rfl⟩⟩; refine ⟨_, rfl, ?_⟩; have p398 : 0 ≤ (0 : Int) := (by omega); have q398 : 0 < (l0.length : Int) := of_decide_eq_true (by first | (with_reducible assumption) | assumption); obtain ⟨ad398, e398, hx398_0⟩ := Kd.at_int HR0.out 0 p398 q398; cases e398; have qi398 : (0 < l0.length) = True := eq_true (by omega); (try rw [show ((0 : Int)).toNat = 0 from rfl] at hx398_0); (try rw [Addr.add_zero'] at hx398_0); replace p398 := eq_true p398; replace q398 := eq_true q398; have p399 : 0 ≤ (0 : Int) := (by omega); have q399 : 0 < (l0.length : Int) := of_decide_eq_true (by first | (with_reducible assumption) | assumption); obtain ⟨ad399, e399, hx399_0⟩ := Kd.at_int HR0.out 0 p399 q399; obtain rfl : ad398 = ad399 := (by injection e399); have qi399 : (0 < l0.length) = True := eq_true (by omega); (try rw [show ((0 : Int)).toNat = 0 from rfl] at hx399_0); (try rw [Addr.add_zero'] at hx399_0); replace p399 := eq_true p399; replace q399 := eq_true q399; have p400 : 0 ≤ (0 : Int) := (by omega); have q400 : 0 < (l0.length : Int) := of_decide_eq_true (by first | (with_reducible assumption) | assumption); obtain ⟨ad400, e400, hx400_0⟩ := Kd.at_int HR0.out 0 p400 q400; obtain rfl : ad398 = ad400 := (by injection e400); have qi400 : (0 < l0.length) = True := eq_true (by omega); (try rw [show ((0 : Int)).toNat = 0 from rfl] at hx400_0); (try rw [Addr.add_zero'] at hx400_0); replace p400 := eq_true p400; replace q400 := eq_true q400; have p401 : 0 ≤ (0 : Int) := (by omega); have q401 : 0 < (l0.length : Int) := of_decide_eq_true (by first | (with_reducible assumption) | assumption); obtain ⟨ad401, e401, hx401_0⟩ := Kd.at_int HR0.out 0 p401 q401; obtain rfl : ad398 = ad401 := (by injection e401); have qi401 : (0 < l0.length) = True := eq_true (by omega); (try rw [show ((0 : Int)).toNat = 0 from rfl] at hx401_0); (try rw [Addr.add_zero'] at hx401_0); replace p401 := eq_true p401; replace q401 := eq_true q401; have p402 : 0 ≤ (0 : Int) := (by omega); have q402 : 0 < (l0.length : Int) := of_decide_eq_true (by first | (with_reducible assumption) | assumption); obtain ⟨ad402, e402, hx402_0⟩ := Kd.at_int HR0.out 0 p402 q402; obtain rfl : ad398 = ad402 := (by injection e402); have qi402 : (0 < l0.length) = True := eq_true (by omega); (try rw [show ((0 : Int)).toNat = 0 from rfl] at hx402_0); (try rw [Addr.add_zero'] at hx402_0); replace p402 := eq_true p402; replace q402 := eq_true q402; have p403 : 0 ≤ (0 : Int) := (by omega); have q403 : 0 < (l0.length : Int) := of_decide_eq_true (by first | (with_reducible assumption) | assumption); obtain ⟨ad403, e403, hx403_0⟩ := Kd.at_int HR0.out 0 p403 q403; obtain rfl : ad398 = ad403 := (by injection e403); have qi403 : (0 < l0.length) = True := eq_true (by omega); (try rw [show ((0 : Int)).toNat = 0 from rfl] at hx403_0); (try rw [Addr.add_zero'] at hx403_0); replace p403 := eq_true p403; replace q403 := eq_true q403; have hcv17 := Kd.C_string (P := Tryd.prog) (A := (some ad398)) (c := c0) Tryd.underlying22 Tryd.underlying5 Tryd.underlying9 (Kd.C_drewN HR0.out nd)))
                    go_ret
                    exact ⟨by first | rfl | (simp [errW_none, errW_some] <;> rfl) | (simp [*, errW_none, errW_some] <;> rfl), by repeat (first | (with_reducible first | exact HB.out | apply below_alloc | apply pw_below_drewN | apply below_drew1) | exact HB.out)⟩
                  · rw [if_neg c16] at H
                    have c16b0 : decide ((rd l0 0) ≤ 126) = false := decide_eq_false c16
                    clear c16
                    replace H := Option.bind_eq_some_iff.mp H
                    obtain ⟨t405, A180, H⟩ := H
                    replace H : (if 2 + t405.size ≤ 9223372036854775807 then (some ((⟨#[92, 120]⟩ : ByteArray) ++ t405)) else (none)) = some r := H
                    have A18 := Aside0.mk A180
                    clear A180
                    by_cases c19 : 2 + t405.size ≤ 9223372036854775807
                    · rw [if_pos c19] at H
                      have c19b0 := eq_true c19
                      have c19b1 : decide (2 + t405.size ≤ 9223372036854775807) = true := decide_eq_true c19
                      try have c19b2 : (9223372036854775807 < 2 + t405.size) = False := eq_false (Nat.not_lt.2 c19)
                      obtain rfl := Option.some.inj H
                      go_enter Tryd.func38, Tryd.ntmps38
                      go_wp2_with (first | ((with_reducible refine gate_callee (f := 39) rfl ?_); refine goesL_ (some 5) rfl rfl Tryd.func39 (by kernel_rfl) rfl #[.slice A0 l0.length c0] rfl (by (try simp only [List.map_toArray, List.map_cons, List.map_nil]); first | done | rfl | (simp only [List.length_drop, List.length_take]; rfl)) ?_; (with_reducible refine (galleyref01_Whole.calls k _ _ l0 true _ ?side1 ?side2 A2.out).mono ?_); (case side1 => repeat (first | exact HR0.out | (with_reducible refine Kd.C_alloc ?_ _) | (with_reducible refine Kd.C_drewN ?_ _) | (with_reducible refine Kd.C_drew ?_))); (case side2 => exact HC0.out); rintro e w' ⟨rfl, ⟨nd, rfl⟩⟩; refine ⟨_, rfl, ?_⟩; have p398 : 0 ≤ (0 : Int) := (by omega); have q398 : 0 < (l0.length : Int) := of_decide_eq_true (by first | (with_reducible assumption) | assumption); obtain ⟨ad398, e398, hx398_0⟩ := Kd.at_int HR0.out 0 p398 q398; cases e398; have qi398 : (0 < l0.length) = True := eq_true (by omega); (try rw [show ((0 : Int)).toNat = 0 from rfl] at hx398_0); (try rw [Addr.add_zero'] at hx398_0); replace p398 := eq_true p398; replace q398 := eq_true q398; have p399 : 0 ≤ (0 : Int) := (by omega); have q399 : 0 < (l0.length : Int) := of_decide_eq_true (by first | (with_reducible assumption) | assumption); obtain ⟨ad399, e399, hx399_0⟩ := Kd.at_int HR0.out 0 p399 q399; obtain rfl : ad398 = ad399 := (by injection e399); have qi399 : (0 < l0.length) = True := eq_true (by omega); (try rw [show ((0 : Int)).toNat = 0 from rfl] at hx399_0); (try rw [Addr.add_zero'] at hx399_0); replace p399 := eq_true p399; replace q399 := eq_true q399; have p400 : 0 ≤ (0 : Int) := (by omega); have q400 : 0 < (l0.length : Int) := of_decide_eq_true (by first | (with_reducible assumption) | assumption); obtain ⟨ad400, e400, hx400_0⟩ := Kd.at_int HR0.out 0 p400 q400; obtain rfl : ad398 = ad400 := (by injection e400); have qi400 : (0 < l0.length) = True := eq_true (by omega); (try rw [show ((0 : Int)).toNat = 0 from rfl] at hx400_0); (try rw [Addr.add_zero'] at hx400_0); replace p400 := eq_true p400; replace q400 := eq_true q400; have p401 : 0 ≤ (0 : Int) := (by omega); have q401 : 0 < (l0.length : Int) := of_decide_eq_true (by first | (with_reducible assumption) | assumption); obtain ⟨ad401, e401, hx401_0⟩ := Kd.at_int HR0.out 0 p401 q401; obtain rfl : ad398 = ad401 := (by injection e401); have qi401 : (0 < l0.length) = True := eq_true (by omega); (try rw [show ((0 : Int)).toNat = 0 from rfl] at hx401_0); (try rw [Addr.add_zero'] at hx401_0); replace p401 := eq_true p401; replace q401 := eq_true q401; have p402 : 0 ≤ (0 : Int) := (by omega); have q402 : 0 < (l0.length : Int) := of_decide_eq_true (by first | (with_reducible assumption) | assumption); obtain ⟨ad402, e402, hx402_0⟩ := Kd.at_int HR0.out 0 p402 q402; obtain rfl : ad398 = ad402 := (by injection e402); have qi402 : (0 < l0.length) = True := eq_true (by omega); (try rw [show ((0 : Int)).toNat = 0 from rfl] at hx402_0); (try rw [Addr.add_zero'] at hx402_0); replace p402 := eq_true p402; replace q402 := eq_true q402; have p403 : 0 ≤ (0 : Int) := (by omega); have q403 : 0 < (l0.length : Int) := of_decide_eq_true (by first | (with_reducible assumption) | assumption); obtain ⟨ad403, e403, hx403_0⟩ := Kd.at_int HR0.out 0 p403 q403; obtain rfl : ad398 = ad403 := (by injection e403); have qi403 : (0 < l0.length) = True := eq_true (by omega); (try rw [show ((0 : Int)).toNat = 0 from rfl] at hx403_0); (try rw [Addr.add_zero'] at hx403_0); replace p403 := eq_true p403; replace q403 := eq_true q403; have p404 : 0 ≤ (0 : Int) := (by omega); have q404 : 0 < (l0.length : Int) := of_decide_eq_true (by first | (with_reducible assumption) | assumption); obtain ⟨ad404, e404, hx404_0⟩ := Kd.at_int HR0.out 0 p404 q404; obtain rfl : ad398 = ad404 := (by injection e404); have qi404 : (0 < l0.length) = True := eq_true (by omega); (try rw [show ((0 : Int)).toNat = 0 from rfl] at hx404_0); (try rw [Addr.add_zero'] at hx404_0); replace p404 := eq_true p404; replace q404 := eq_true q404) | ((with_reducible refine gate_callee (f := 41) rfl ?_); refine goesL_ (some 54) rfl rfl Tryd.func41 (by kernel_rfl) rfl #[.int .u8 (rd l0 0)] rfl (by (try simp only [List.map_toArray, List.map_cons, List.map_nil]); first | done | rfl | (simp only [List.length_drop, List.length_take]; rfl)) ?_; (with_reducible refine (galleyref23_two.calls (rd l0 0) t405 _ A18.out).mono ?_); rintro e w20 ⟨rfl, hb⟩; refine ⟨_, rfl, ?_⟩; have n0_ := Aside0.mk (below_step (by repeat (first | (with_reducible first | exact HB.out | apply below_alloc | apply pw_below_drewN | apply below_drew1) | exact HB.out)) hb); clear HB; have HB := n0_; clear n0_; (try clear hb); (try clear hb2); (try clear hk); (try clear hi)))
                      go_ret
                      exact ⟨by first | rfl | (simp [errW_none, errW_some] <;> rfl) | (simp [*, errW_none, errW_some] <;> rfl), by repeat (first | (with_reducible first | exact HB.out | apply below_alloc | apply pw_below_drewN | apply below_drew1) | exact HB.out)⟩
                    · rw [if_neg c19] at H
                      exact absurd H (by simp)
                · rw [if_neg c15] at H
                  have c15b0 : decide (32 ≤ (rd l0 0)) = false := decide_eq_false c15
                  clear c15
                  replace H := Option.bind_eq_some_iff.mp H
                  obtain ⟨t407, A210, H⟩ := H
                  replace H : (if 2 + t407.size ≤ 9223372036854775807 then (some ((⟨#[92, 120]⟩ : ByteArray) ++ t407)) else (none)) = some r := H
                  have A21 := Aside0.mk A210
                  clear A210
                  by_cases c22 : 2 + t407.size ≤ 9223372036854775807
                  · rw [if_pos c22] at H
                    have c22b0 := eq_true c22
                    have c22b1 : decide (2 + t407.size ≤ 9223372036854775807) = true := decide_eq_true c22
                    try have c22b2 : (9223372036854775807 < 2 + t407.size) = False := eq_false (Nat.not_lt.2 c22)
                    obtain rfl := Option.some.inj H
                    go_enter Tryd.func38, Tryd.ntmps38
                    go_wp2_with (first | ((with_reducible refine gate_callee (f := 39) rfl ?_); refine goesL_ (some 5) rfl rfl Tryd.func39 (by kernel_rfl) rfl #[.slice A0 l0.length c0] rfl (by (try simp only [List.map_toArray, List.map_cons, List.map_nil]); first | done | rfl | (simp only [List.length_drop, List.length_take]; rfl)) ?_; (with_reducible refine (galleyref01_Whole.calls k _ _ l0 true _ ?side1 ?side2 A2.out).mono ?_); (case side1 => repeat (first | exact HR0.out | (with_reducible refine Kd.C_alloc ?_ _) | (with_reducible refine Kd.C_drewN ?_ _) | (with_reducible refine Kd.C_drew ?_))); (case side2 => exact HC0.out); rintro e w' ⟨rfl, ⟨nd, rfl⟩⟩; refine ⟨_, rfl, ?_⟩; have p398 : 0 ≤ (0 : Int) := (by omega); have q398 : 0 < (l0.length : Int) := of_decide_eq_true (by first | (with_reducible assumption) | assumption); obtain ⟨ad398, e398, hx398_0⟩ := Kd.at_int HR0.out 0 p398 q398; cases e398; have qi398 : (0 < l0.length) = True := eq_true (by omega); (try rw [show ((0 : Int)).toNat = 0 from rfl] at hx398_0); (try rw [Addr.add_zero'] at hx398_0); replace p398 := eq_true p398; replace q398 := eq_true q398; have p399 : 0 ≤ (0 : Int) := (by omega); have q399 : 0 < (l0.length : Int) := of_decide_eq_true (by first | (with_reducible assumption) | assumption); obtain ⟨ad399, e399, hx399_0⟩ := Kd.at_int HR0.out 0 p399 q399; obtain rfl : ad398 = ad399 := (by injection e399); have qi399 : (0 < l0.length) = True := eq_true (by omega); (try rw [show ((0 : Int)).toNat = 0 from rfl] at hx399_0); (try rw [Addr.add_zero'] at hx399_0); replace p399 := eq_true p399; replace q399 := eq_true q399; have p400 : 0 ≤ (0 : Int) := (by omega); have q400 : 0 < (l0.length : Int) := of_decide_eq_true (by first | (with_reducible assumption) | assumption); obtain ⟨ad400, e400, hx400_0⟩ := Kd.at_int HR0.out 0 p400 q400; obtain rfl : ad398 = ad400 := (by injection e400); have qi400 : (0 < l0.length) = True := eq_true (by omega); (try rw [show ((0 : Int)).toNat = 0 from rfl] at hx400_0); (try rw [Addr.add_zero'] at hx400_0); replace p400 := eq_true p400; replace q400 := eq_true q400; have p401 : 0 ≤ (0 : Int) := (by omega); have q401 : 0 < (l0.length : Int) := of_decide_eq_true (by first | (with_reducible assumption) | assumption); obtain ⟨ad401, e401, hx401_0⟩ := Kd.at_int HR0.out 0 p401 q401; obtain rfl : ad398 = ad401 := (by injection e401); have qi401 : (0 < l0.length) = True := eq_true (by omega); (try rw [show ((0 : Int)).toNat = 0 from rfl] at hx401_0); (try rw [Addr.add_zero'] at hx401_0); replace p401 := eq_true p401; replace q401 := eq_true q401; have p402 : 0 ≤ (0 : Int) := (by omega); have q402 : 0 < (l0.length : Int) := of_decide_eq_true (by first | (with_reducible assumption) | assumption); obtain ⟨ad402, e402, hx402_0⟩ := Kd.at_int HR0.out 0 p402 q402; obtain rfl : ad398 = ad402 := (by injection e402); have qi402 : (0 < l0.length) = True := eq_true (by omega); (try rw [show ((0 : Int)).toNat = 0 from rfl] at hx402_0); (try rw [Addr.add_zero'] at hx402_0); replace p402 := eq_true p402; replace q402 := eq_true q402; have p406 : 0 ≤ (0 : Int) := (by omega); have q406 : 0 < (l0.length : Int) := of_decide_eq_true (by first | (with_reducible assumption) | assumption); obtain ⟨ad406, e406, hx406_0⟩ := Kd.at_int HR0.out 0 p406 q406; obtain rfl : ad398 = ad406 := (by injection e406); have qi406 : (0 < l0.length) = True := eq_true (by omega); (try rw [show ((0 : Int)).toNat = 0 from rfl] at hx406_0); (try rw [Addr.add_zero'] at hx406_0); replace p406 := eq_true p406; replace q406 := eq_true q406) | ((with_reducible refine gate_callee (f := 41) rfl ?_); refine goesL_ (some 54) rfl rfl Tryd.func41 (by kernel_rfl) rfl #[.int .u8 (rd l0 0)] rfl (by (try simp only [List.map_toArray, List.map_cons, List.map_nil]); first | done | rfl | (simp only [List.length_drop, List.length_take]; rfl)) ?_; (with_reducible refine (galleyref23_two.calls (rd l0 0) t407 _ A21.out).mono ?_); rintro e w23 ⟨rfl, hb⟩; refine ⟨_, rfl, ?_⟩; have n0_ := Aside0.mk (below_step (by repeat (first | (with_reducible first | exact HB.out | apply below_alloc | apply pw_below_drewN | apply below_drew1) | exact HB.out)) hb); clear HB; have HB := n0_; clear n0_; (try clear hb); (try clear hb2); (try clear hk); (try clear hi)))
                    go_ret
                    exact ⟨by first | rfl | (simp [errW_none, errW_some] <;> rfl) | (simp [*, errW_none, errW_some] <;> rfl), by repeat (first | (with_reducible first | exact HB.out | apply below_alloc | apply pw_below_drewN | apply below_drew1) | exact HB.out)⟩
                  · rw [if_neg c22] at H
                    exact absurd H (by simp)
              · replace c14 := Bool.eq_false_iff.mpr c14
                subst c14
                have H1 : ((galleyref23_two.f (rd l0 0)).bind fun t409 => (if 2 + t409.size ≤ 9223372036854775807 then (some ((⟨#[92, 120]⟩ : ByteArray) ++ t409)) else (none))) = some r := by rw [if_neg (show ¬ (false = true) by decide)] at H; exact H
                clear H
                have H := H1
                clear H1
                replace H := Option.bind_eq_some_iff.mp H
                obtain ⟨t409, A240, H⟩ := H
                replace H : (if 2 + t409.size ≤ 9223372036854775807 then (some ((⟨#[92, 120]⟩ : ByteArray) ++ t409)) else (none)) = some r := H
                have A24 := Aside0.mk A240
                clear A240
                by_cases c25 : 2 + t409.size ≤ 9223372036854775807
                · rw [if_pos c25] at H
                  have c25b0 := eq_true c25
                  have c25b1 : decide (2 + t409.size ≤ 9223372036854775807) = true := decide_eq_true c25
                  try have c25b2 : (9223372036854775807 < 2 + t409.size) = False := eq_false (Nat.not_lt.2 c25)
                  obtain rfl := Option.some.inj H
                  go_enter Tryd.func38, Tryd.ntmps38
                  go_wp2_with (first | ((with_reducible refine gate_callee (f := 39) rfl ?_); refine goesL_ (some 5) rfl rfl Tryd.func39 (by kernel_rfl) rfl #[.slice A0 l0.length c0] rfl (by (try simp only [List.map_toArray, List.map_cons, List.map_nil]); first | done | rfl | (simp only [List.length_drop, List.length_take]; rfl)) ?_; (with_reducible refine (galleyref01_Whole.calls k _ _ l0 false _ ?side1 ?side2 A2.out).mono ?_); (case side1 => repeat (first | exact HR0.out | (with_reducible refine Kd.C_alloc ?_ _) | (with_reducible refine Kd.C_drewN ?_ _) | (with_reducible refine Kd.C_drew ?_))); (case side2 => exact HC0.out); rintro e w' ⟨rfl, ⟨nd, rfl⟩⟩; refine ⟨_, rfl, ?_⟩; have p398 : 0 ≤ (0 : Int) := (by omega); have q398 : 0 < (l0.length : Int) := of_decide_eq_true (by first | (with_reducible assumption) | assumption); obtain ⟨ad398, e398, hx398_0⟩ := Kd.at_int HR0.out 0 p398 q398; cases e398; have qi398 : (0 < l0.length) = True := eq_true (by omega); (try rw [show ((0 : Int)).toNat = 0 from rfl] at hx398_0); (try rw [Addr.add_zero'] at hx398_0); replace p398 := eq_true p398; replace q398 := eq_true q398; have p399 : 0 ≤ (0 : Int) := (by omega); have q399 : 0 < (l0.length : Int) := of_decide_eq_true (by first | (with_reducible assumption) | assumption); obtain ⟨ad399, e399, hx399_0⟩ := Kd.at_int HR0.out 0 p399 q399; obtain rfl : ad398 = ad399 := (by injection e399); have qi399 : (0 < l0.length) = True := eq_true (by omega); (try rw [show ((0 : Int)).toNat = 0 from rfl] at hx399_0); (try rw [Addr.add_zero'] at hx399_0); replace p399 := eq_true p399; replace q399 := eq_true q399; have p400 : 0 ≤ (0 : Int) := (by omega); have q400 : 0 < (l0.length : Int) := of_decide_eq_true (by first | (with_reducible assumption) | assumption); obtain ⟨ad400, e400, hx400_0⟩ := Kd.at_int HR0.out 0 p400 q400; obtain rfl : ad398 = ad400 := (by injection e400); have qi400 : (0 < l0.length) = True := eq_true (by omega); (try rw [show ((0 : Int)).toNat = 0 from rfl] at hx400_0); (try rw [Addr.add_zero'] at hx400_0); replace p400 := eq_true p400; replace q400 := eq_true q400; have p401 : 0 ≤ (0 : Int) := (by omega); have q401 : 0 < (l0.length : Int) := of_decide_eq_true (by first | (with_reducible assumption) | assumption); obtain ⟨ad401, e401, hx401_0⟩ := Kd.at_int HR0.out 0 p401 q401; obtain rfl : ad398 = ad401 := (by injection e401); have qi401 : (0 < l0.length) = True := eq_true (by omega); (try rw [show ((0 : Int)).toNat = 0 from rfl] at hx401_0); (try rw [Addr.add_zero'] at hx401_0); replace p401 := eq_true p401; replace q401 := eq_true q401; have p408 : 0 ≤ (0 : Int) := (by omega); have q408 : 0 < (l0.length : Int) := of_decide_eq_true (by first | (with_reducible assumption) | assumption); obtain ⟨ad408, e408, hx408_0⟩ := Kd.at_int HR0.out 0 p408 q408; obtain rfl : ad398 = ad408 := (by injection e408); have qi408 : (0 < l0.length) = True := eq_true (by omega); (try rw [show ((0 : Int)).toNat = 0 from rfl] at hx408_0); (try rw [Addr.add_zero'] at hx408_0); replace p408 := eq_true p408; replace q408 := eq_true q408) | ((with_reducible refine gate_callee (f := 41) rfl ?_); refine goesL_ (some 54) rfl rfl Tryd.func41 (by kernel_rfl) rfl #[.int .u8 (rd l0 0)] rfl (by (try simp only [List.map_toArray, List.map_cons, List.map_nil]); first | done | rfl | (simp only [List.length_drop, List.length_take]; rfl)) ?_; (with_reducible refine (galleyref23_two.calls (rd l0 0) t409 _ A24.out).mono ?_); rintro e w26 ⟨rfl, hb⟩; refine ⟨_, rfl, ?_⟩; have n0_ := Aside0.mk (below_step (by repeat (first | (with_reducible first | exact HB.out | apply below_alloc | apply pw_below_drewN | apply below_drew1) | exact HB.out)) hb); clear HB; have HB := n0_; clear n0_; (try clear hb); (try clear hb2); (try clear hk); (try clear hi)))
                  go_ret
                  exact ⟨by first | rfl | (simp [errW_none, errW_some] <;> rfl) | (simp [*, errW_none, errW_some] <;> rfl), by repeat (first | (with_reducible first | exact HB.out | apply below_alloc | apply pw_below_drewN | apply below_drew1) | exact HB.out)⟩
                · rw [if_neg c25] at H
                  exact absurd H (by simp)
    · rw [if_neg c9] at H
      exact absurd H (by simp)
end Go.Proofs.YtflddgoapibleaaDoor.Esc

namespace Go.Proofs.YtflddgoapibleaaDoor.Esc
open Go.RowKit Go.Proofs.YtflddgoapibleaaDoor.Hand Go.Proofs.YtflddgoapibleaaDoorW.PrintWords Go.Proofs.YtflddgoapibleaaDoorW.PrintLast Go.Proofs.YtflddgoapibleaaDoorW.PrintMore
attribute [local go_sem] max2_int min2_int max_two min_two max_three min_three max_four min_four
set_option linter.unusedVariables false
set_option linter.unusedSimpArgs false
def galleyref23_Quote.l0 : Nat → List Int → ByteArray → List Int → Int → Option (ByteArray)
  | 0, _, _, _, _ => none
  | k + 1, x0, x3, x4, x5 => if (wrap64 (x5 + 1)) < (x4.length : Int) then (if 0 ≤ x5 then (if x5 < (x4.length : Int) then (if 0 ≤ (wrap64 (x5 + 1)) then (if 0 ≤ (rd x4 x5) then (if (rd x4 x5) ≤ (rd x4 (wrap64 (x5 + 1))) then (if (rd x4 (wrap64 (x5 + 1))) ≤ (x0.length : Int) then ((galleyref23_Piece.f k ((x0.take ((rd x4 (wrap64 (x5 + 1))) : Int).toNat).drop ((rd x4 x5) : Int).toNat)).bind fun t416 => (if x3.size + t416.size ≤ 9223372036854775807 then (galleyref23_Quote.l0 k x0 (x3 ++ t416) x4 (wrap64 (x5 + 1))) else (none))) else (none)) else (none)) else (none)) else (none)) else (none)) else (none)) else (some x3)
def galleyref23_Quote.f (k : Nat) (l0 : List Int) : Option (ByteArray) := (galleyref04_Edges.f k l0).bind fun t410 => (galleyref23_Quote.l0 k l0 (⟨#[]⟩ : ByteArray) t410 0)
def galleyref23_Quote.T6 : Bool × List (List Nat × List Nat) := (true, [([], []), ([], []), ([], []), ([], []), ([2, 3], [2, 3]), ([4], [4]), ([], []), ([], []), ([7], [7]), ([6, 8], [6, 8]), ([9], [9]), ([1, 5, 10], [1, 5, 10]), ([11], [11]), ([0, 12], [0, 12]), ([13, 12, 0, 1, 2, 3, 4, 5, 6, 7, 8, 9, 10, 11, 12, 13], [0, 13])])
def galleyref23_Quote.B6 : List Nat := [0, 0, 0, 0, 12, 28, 0, 0, 128, 448, 960, 2046, 4094, 8191, 16383]
theorem galleyref23_Quote.tab6 : rtab .any (opsOf Tryd.f22 6) = galleyref23_Quote.T6 := by kernel_rfl
theorem galleyref23_Quote.bits6 : waitsOk galleyref23_Quote.T6.2 galleyref23_Quote.B6 = true := by kernel_rfl
set_option maxHeartbeats 8000000 in
set_option maxRecDepth 100000 in
theorem galleyref23_Quote.calls (k : Nat) (A0 : Option Addr) (c0 : Nat) (l0 : List Int) (r : ByteArray) (w : World) (hr0 : Kd.C (Kd.int .u8) w A0 l0.length l0) (hc0 : l0.length ≤ c0) (h : galleyref23_Quote.f k l0 = some r) :
    Calls Tryd.prog 22 #[.slice A0 l0.length c0] w fun e w' => e = .returned (.string r) ∧ Below w.heap.size w w' := by
  have HR0 := Aside0.mk hr0
  have HC0 := Aside0.mk hc0
  clear hr0 hc0
  have HB := Aside0.mk (Below.refl w.heap.size w)
  have H : ((galleyref04_Edges.f k l0).bind fun t410 => (galleyref23_Quote.l0 k l0 (⟨#[]⟩ : ByteArray) t410 0)) = some r := h
  clear h
  replace H := Option.bind_eq_some_iff.mp H
  obtain ⟨t410, A20, H⟩ := H
  replace H : (galleyref23_Quote.l0 k l0 (⟨#[]⟩ : ByteArray) t410 0) = some r := H
  have A2 := Aside0.mk A20
  clear A20
  have H' := Aside0.mk H
  clear H
  go_enter Tryd.func22, Tryd.ntmps22
  go_wp2_with (first | ((with_reducible refine gate_callee (f := 37) rfl ?_); refine goesL_ (some 7) rfl rfl Tryd.func37 (by kernel_rfl) rfl #[.slice A0 l0.length c0] rfl (by (try simp only [List.map_toArray, List.map_cons, List.map_nil]); first | done | rfl | (simp only [List.length_drop, List.length_take]; rfl)) ?_; (with_reducible refine (galleyref04_Edges.calls k _ _ l0 t410 _ ?side1 ?side2 A2.out).mono ?_); (case side1 => repeat (first | exact HR0.out | (with_reducible refine Kd.C_alloc ?_ _) | (with_reducible refine Kd.C_drewN ?_ _) | (with_reducible refine Kd.C_drew ?_))); (case side2 => exact HC0.out); rintro e w3 ⟨v411, rfl, ho0, hb⟩; refine ⟨_, rfl, ?_⟩; have n0_ := Aside0.mk (Kd.R_lower ho0 (below_size (by repeat (first | (with_reducible first | exact HB.out | apply below_alloc | apply pw_below_drewN | apply below_drew1) | exact HB.out)))); have n1_ := Aside0.mk (below_step (by repeat (first | (with_reducible first | exact HB.out | apply below_alloc | apply pw_below_drewN | apply below_drew1) | exact HB.out)) hb); clear HB; have HO412 := n0_; have HB := n1_; clear n0_ n1_; (try clear hb); (try clear hb2); (try clear hk); (try clear hi); (try clear ho0)))
  go_loopg [3, 5] k (fun kq v3 v5 w' => ∃ (x3_1 : ByteArray) (x5_1 : Int), v3 = .string x3_1 ∧ v5 = .int .i64 x5_1 ∧ Aside0 (galleyref23_Quote.l0 kq l0 x3_1 t410 x5_1 = some r) ∧ Aside0 (kq ≤ k) ∧ Aside0 (Kd.R (Kd.int .i64) 3 w' w.heap.size (fun _ => True) v411 t410) ∧ Aside0 (Below w.heap.size w w'))
  case atStart => exact ⟨((⟨#[]⟩ : ByteArray)), (0), (by first | rfl | (simp; done) | (simp [*]; done)), (by first | rfl | (simp; done) | (simp [*]; done)), H', ⟨Nat.le_refl _⟩, ⟨by (with_reducible repeat (first | apply Kd.R_alloc | apply Kd.R_drewN | apply Kd.R_drew)); exact HO412.out⟩, ⟨by repeat (first | (with_reducible first | exact HB.out | apply below_alloc | apply pw_below_drewN | apply below_drew1) | exact HB.out)⟩⟩
  case round =>
    clear H'
    try clear c2
    try clear p2
    try clear c3
    obtain ⟨x3_1, x5_1, rfl, rfl, HA, HK1, HO_4, HB⟩ := hrel
    cases gk with
    | zero => exact absurd HA.out (by simp [galleyref23_Quote.l0])
    | succ k1 =>
      have H := HA.out
      clear HA
      simp only [galleyref23_Quote.l0] at H
      by_cases c4 : (wrap64 (x5_1 + 1)) < (t410.length : Int)
      · rw [if_pos c4] at H
        have c4b0 : decide ((wrap64 (x5_1 + 1)) < (t410.length : Int)) = true := decide_eq_true c4
        clear c4
        by_cases c5 : 0 ≤ x5_1
        · rw [if_pos c5] at H
          have c5b0 : decide (0 ≤ x5_1) = true := decide_eq_true c5
          clear c5
          by_cases c6 : x5_1 < (t410.length : Int)
          · rw [if_pos c6] at H
            have c6b0 : decide (x5_1 < (t410.length : Int)) = true := decide_eq_true c6
            clear c6
            obtain ⟨ji7, hji7⟩ : ∃ j_ : Int, (wrap64 (x5_1 + 1)) = j_ := ⟨_, rfl⟩
            replace H : (if 0 ≤ (ji7) then (if 0 ≤ (rd t410 x5_1) then (if (rd t410 x5_1) ≤ (rd t410 (ji7)) then (if (rd t410 (ji7)) ≤ (l0.length : Int) then ((galleyref23_Piece.f k1 ((l0.take ((rd t410 (ji7)) : Int).toNat).drop ((rd t410 x5_1) : Int).toNat)).bind fun t416 => (if x3_1.size + t416.size ≤ 9223372036854775807 then (galleyref23_Quote.l0 k1 l0 (x3_1 ++ t416) t410 ji7) else (none))) else (none)) else (none)) else (none)) else (none)) = some r := by first | (rw [hji7] at H; exact H) | (simp only [hji7] at H ⊢; exact H)
            (try rw [hji7] at c4b0)
            have hji7w : (IntKind.i64.wrap (x5_1 + 1)) = ji7 := (i64_w _).trans hji7
            by_cases c8 : 0 ≤ (ji7)
            · rw [if_pos c8] at H
              have c8b0 : decide (0 ≤ (ji7)) = true := decide_eq_true c8
              clear c8
              by_cases c9 : 0 ≤ (rd t410 x5_1)
              · rw [if_pos c9] at H
                have c9b0 := eq_true c9
                have c9b1 : decide (0 ≤ (rd t410 x5_1)) = true := decide_eq_true c9
                clear c9
                by_cases c10 : (rd t410 x5_1) ≤ (rd t410 (ji7))
                · rw [if_pos c10] at H
                  have c10b0 := eq_true c10
                  have c10b1 : decide ((rd t410 x5_1) ≤ (rd t410 (ji7))) = true := decide_eq_true c10
                  clear c10
                  by_cases c11 : (rd t410 (ji7)) ≤ (l0.length : Int)
                  · rw [if_pos c11] at H
                    have c11b0 := eq_true c11
                    have c11b1 : decide ((rd t410 (ji7)) ≤ (l0.length : Int)) = true := decide_eq_true c11
                    clear c11
                    replace H := Option.bind_eq_some_iff.mp H
                    obtain ⟨t416, A120, H⟩ := H
                    replace H : (if x3_1.size + t416.size ≤ 9223372036854775807 then (galleyref23_Quote.l0 k1 l0 (x3_1 ++ t416) t410 ji7) else (none)) = some r := H
                    have A12 := Aside0.mk A120
                    clear A120
                    by_cases c13 : x3_1.size + t416.size ≤ 9223372036854775807
                    · rw [if_pos c13] at H
                      have c13b0 := eq_true c13
                      have c13b1 : decide (x3_1.size + t416.size ≤ 9223372036854775807) = true := decide_eq_true c13
                      try have c13b2 : (9223372036854775807 < x3_1.size + t416.size) = False := eq_false (Nat.not_lt.2 c13)
                      have H' := Aside0.mk H
                      clear H
                      obtain ⟨Ao14, co14, eo14⟩ := Kd.R_slice HO_4.out
                      subst eo14
                      try go_wp2
                      have n0_ := Aside0.mk (Kd.R_drew HO_4.out)
                      have n1_ := Aside0.mk (below_drew1 HB.out)
                      clear HO_4
                      clear HB
                      have HO_4 := n0_
                      have HB := n1_
                      clear n0_ n1_
                      have p413 : 0 ≤ (x5_1 : Int) := of_decide_eq_true (by first | (with_reducible assumption) | assumption)
                      have q413 : x5_1 < (t410.length : Int) := of_decide_eq_true (by first | (with_reducible assumption) | assumption)
                      obtain ⟨ad413, e413, hx413_0⟩ := Kd.at_int (Kd.R_reads' HO_4.out).2.2 x5_1 p413 q413
                      cases e413
                      replace p413 := eq_true p413
                      replace q413 := eq_true q413
                      have p414 : 0 ≤ ((ji7) : Int) := of_decide_eq_true (by first | (with_reducible assumption) | assumption)
                      have q414 : (ji7) < (t410.length : Int) := of_decide_eq_true (by first | (with_reducible assumption) | assumption)
                      obtain ⟨ad414, e414, hx414_0⟩ := Kd.at_int (Kd.R_reads' HO_4.out).2.2 (ji7) p414 q414
                      obtain rfl : ad413 = ad414 := (by injection e414)
                      replace p414 := eq_true p414
                      replace q414 := eq_true q414
                      obtain ⟨i016, hi016, _, hsz16, _⟩ := info_parts info5
                      obtain ⟨A16, hcut16, hA16, hC16⟩ := print_mid_of (P := Tryd.prog) (Value.int .u8) 0 22 5 .i64 .i64 Tryd.underlying22 hi016 hsz16 A0 c0 l0 (rd t410 x5_1) (rd t410 (ji7)) (of_decide_eq_true (by first | (with_reducible assumption) | assumption)) (by first | omega | exact of_decide_eq_true (by first | (with_reducible assumption) | assumption)) (of_decide_eq_true (by first | (with_reducible assumption) | assumption)) HC0.out
                      have HR415 := Aside0.mk (Kd.C_of_reads (h1 := fun _ => rfl) (hA16 _ (Kd.reads_of_C HR0.out)))
                      have HC415 := Aside0.mk hC16
                      clear hA16 hC16 hi016 hsz16
                      refine start_ (n := 15) (S := fun w' => w'.cell? (ad413.add (x5_1).toNat) = some (.int .i64 (rd t410 x5_1)) ∧ w'.cell? (ad413.add ((ji7)).toNat) = some (.int .i64 (rd t410 (ji7)))) (ds := []) #[false, false, false, false, false, false, false, false, false, false, false, false, false, false, false] (by kernel_rfl) rfl rfl ⟨hx413_0, hx414_0⟩ (fun hHeld => ?_); refine with_tabW galleyref23_Quote.tab6 galleyref23_Quote.bits6 (fun HT_ HW_ => ?_)
                      generalize wr.drew = w15 at HO_4 HB HR415 hx413_0 hx414_0 hHeld ⊢
                      refine pure_ (i := 0) (N := some 15) (v := ?_) (a' := ?_) #[true, false, false, false, false, false, false, false, false, false, false, false, false, false, false] rfl rfl (any_of HT_.out (by kernel_rfl)) (fun _ _ _ h => h) (Or.inl ⟨by rfl, ?_⟩) ?_ ?_
                      rotate_left
                      · intro w'
                        go_simp
                        with_reducible rfl
                      rotate_left
                      · simp only [Act.put, List.setIfInBounds_toArray, List.set_cons_zero, List.set_cons_succ, i64_w, i32_w]
                        rfl
                      refine pure_ (i := 1) (N := some 16) (v := ?_) (a' := ?_) #[true, true, false, false, false, false, false, false, false, false, false, false, false, false, false] rfl rfl (any_of HT_.out (by kernel_rfl)) (fun _ _ _ h => h) (Or.inl ⟨by rfl, ?_⟩) ?_ ?_
                      rotate_left
                      · intro w'
                        go_simp
                        with_reducible rfl
                      rotate_left
                      · simp only [Act.put, List.setIfInBounds_toArray, List.set_cons_zero, List.set_cons_succ, i64_w, i32_w]
                        rfl
                      refine pure_ (i := 2) (N := some 17) (v := ?_) (a' := ?_) #[true, true, true, false, false, false, false, false, false, false, false, false, false, false, false] rfl rfl (any_of HT_.out (by kernel_rfl)) (fun _ _ _ h => h) (Or.inl ⟨by rfl, ?_⟩) ?_ ?_
                      rotate_left
                      · intro w'
                        go_simp
                        with_reducible rfl
                      rotate_left
                      · simp only [Act.put, List.setIfInBounds_toArray, List.set_cons_zero, List.set_cons_succ, i64_w, i32_w]
                        rfl
                      refine pure_ (i := 3) (N := some 18) (v := ?_) (a' := ?_) #[true, true, true, true, false, false, false, false, false, false, false, false, false, false, false] rfl rfl (any_of HT_.out (by kernel_rfl)) (fun _ _ _ h => h) (Or.inl ⟨by rfl, ?_⟩) ?_ ?_
                      rotate_left
                      · intro w'
                        go_simp
                        with_reducible rfl
                      rotate_left
                      · simp only [Act.put, List.setIfInBounds_toArray, List.set_cons_zero, List.set_cons_succ, i64_w, i32_w]
                        rfl
                      refine pure_ (i := 4) (N := some 19) (v := ?_) (a' := ?_) #[true, true, true, true, true, false, false, false, false, false, false, false, false, false, false] rfl rfl (any_of HT_.out (by kernel_rfl)) (fun _ _ _ h => h) (Or.inl ⟨by rfl, ?_⟩) ?_ ?_
                      rotate_left
                      · intro w'
                        go_simp
                        with_reducible rfl
                      rotate_left
                      · simp only [Act.put, List.setIfInBounds_toArray, List.set_cons_zero, List.set_cons_succ, i64_w, i32_w]
                        rfl
                      refine pure_ (i := 6) (N := some 21) (v := ?_) (a' := ?_) #[true, true, true, true, true, false, true, false, false, false, false, false, false, false, false] rfl rfl (any_of HT_.out (by kernel_rfl)) (fun _ _ _ h => h) (Or.inl ⟨by rfl, ?_⟩) ?_ ?_
                      rotate_left
                      · intro w'
                        go_simp
                        with_reducible rfl
                      rotate_left
                      · simp only [Act.put, List.setIfInBounds_toArray, List.set_cons_zero, List.set_cons_succ, i64_w, i32_w]
                        rfl
                      refine pure_ (i := 7) (N := some 22) (v := ?_) (a' := ?_) #[true, true, true, true, true, false, true, true, false, false, false, false, false, false, false] rfl rfl (any_of HT_.out (by kernel_rfl)) (fun _ _ _ h => h) (Or.inl ⟨by rfl, ?_⟩) ?_ ?_
                      rotate_left
                      · intro w'
                        go_simp
                        with_reducible rfl
                      rotate_left
                      · simp only [Act.put, List.setIfInBounds_toArray, List.set_cons_zero, List.set_cons_succ, i64_w, i32_w]
                        rfl
                      refine pure_ (i := 8) (N := some 23) (v := ?_) (a' := ?_) #[true, true, true, true, true, false, true, true, true, false, false, false, false, false, false] rfl rfl (any_of HT_.out (by kernel_rfl)) (fun _ _ _ h => h) (Or.inl ⟨by rfl, ?_⟩) ?_ ?_
                      rotate_left
                      · intro w'
                        go_simp
                        with_reducible rfl
                      rotate_left
                      · simp only [Act.put, List.setIfInBounds_toArray, List.set_cons_zero, List.set_cons_succ, i64_w, i32_w]
                        rfl
                      refine pure_ (i := 9) (N := some 24) (v := ?_) (a' := ?_) #[true, true, true, true, true, false, true, true, true, true, false, false, false, false, false] rfl rfl (any_of HT_.out (by kernel_rfl)) (fun _ _ _ h => h) (Or.inl ⟨by rfl, ?_⟩) ?_ ?_
                      rotate_left
                      · intro w'
                        go_simp
                        with_reducible rfl
                      rotate_left
                      · simp only [Act.put, List.setIfInBounds_toArray, List.set_cons_zero, List.set_cons_succ, i64_w, i32_w]
                        rfl
                      refine take_ (i := 5) (N := some 20) (v := ?_) (a' := ?_) #[true, true, true, true, true, true, true, true, true, true, false, false, false, false, false] rfl rfl (take_ofW HT_.out HW_.out (by kernel_rfl)) (fun _ _ _ h => h) (Or.inl ⟨by rfl, ?_⟩) hHeld ?_ ?_
                      rotate_left
                      · rintro w' ⟨s0, s1⟩
                        go_simp
                        with_reducible rfl
                      rotate_left
                      · simp only [Act.put, List.setIfInBounds_toArray, List.set_cons_zero, List.set_cons_succ, i64_w, i32_w]
                        rfl
                      refine take_ (i := 10) (N := some 25) (v := ?_) (a' := ?_) #[true, true, true, true, true, true, true, true, true, true, true, false, false, false, false] rfl rfl (take_ofW HT_.out HW_.out (by kernel_rfl)) (fun _ _ _ h => h) (Or.inl ⟨by rfl, ?_⟩) hHeld ?_ ?_
                      rotate_left
                      · rintro w' ⟨s0, s1⟩
                        go_simp
                        with_reducible rfl
                      rotate_left
                      · simp only [Act.put, List.setIfInBounds_toArray, List.set_cons_zero, List.set_cons_succ, i64_w, i32_w]
                        rfl
                      refine pure_ (i := 11) (N := some 26) (v := ?_) (a' := ?_) #[true, true, true, true, true, true, true, true, true, true, true, true, false, false, false] rfl rfl (any_of HT_.out (by kernel_rfl)) (fun _ _ _ h => h) (Or.inl ⟨by rfl, ?_⟩) ?_ ?_
                      rotate_left
                      · intro w'
                        go_simp
                        with_reducible rfl
                      rotate_left
                      · simp only [Act.put, List.setIfInBounds_toArray, List.set_cons_zero, List.set_cons_succ, i64_w, i32_w]
                        rfl
                      refine one_ (i := 12) (N := some 27) #[true, true, true, true, true, true, true, true, true, true, true, true, true, false, false] rfl rfl (one_of HT_.out (by kernel_rfl)) (by decide) (fun K hK => ?_)
                      refine goes_ Tryd.func38 (by kernel_rfl) rfl #[.slice A16 ((l0.take ((rd t410 (ji7)) : Int).toNat).drop ((rd t410 x5_1) : Int).toNat).length (c0 - (rd t410 x5_1).toNat)] (by rfl) rfl rfl (by (try simp only [List.map_toArray, List.map_cons, List.map_nil]); first | done | (rw [show ((l0.take ((rd t410 (ji7)) : Int).toNat).drop ((rd t410 x5_1) : Int).toNat).length = ((rd t410 (ji7)).toNat - (rd t410 x5_1).toNat) from (by rw [List.length_drop, List.length_take]; have h_ : ((rd t410 (ji7)) : Int) ≤ (l0.length : Int) := of_decide_eq_true (by first | (with_reducible assumption) | assumption); omega)] <;> rfl) | (simp only [hji7]; rfl) | rfl | (simp only [List.length_drop, List.length_take]; rfl)) ?_
                      with_reducible refine (galleyref23_Piece.calls k1 _ _ ((l0.take ((rd t410 (ji7)) : Int).toNat).drop ((rd t410 x5_1) : Int).toNat) t416 _ ?side1 ?side2 A12.out).mono ?_
                      (case side1 => repeat (first | exact (Kd.C_below HR415.out HB.out) | (with_reducible refine Kd.C_alloc ?_ _) | (with_reducible refine Kd.C_drewN ?_ _) | (with_reducible refine Kd.C_drew ?_)))
                      (case side2 => exact HC415.out)
                      rintro e w17 ⟨rfl, hb⟩
                      have HS0_ := (hb.cell (World.block_lt_of_cell? _ _ (hHeld.1))).trans (hHeld.1)
                      have HS1_ := (hb.cell (World.block_lt_of_cell? _ _ (hHeld.2))).trans (hHeld.2)
                      refine ⟨_, rfl, ?_⟩
                      have n0_ := Aside0.mk (Kd.R_below (by (with_reducible repeat (first | apply Kd.R_alloc | apply Kd.R_drewN | apply Kd.R_drew)); exact HO_4.out) hb)
                      have n1_ := Aside0.mk (below_step (by repeat (first | (with_reducible first | exact HB.out | apply below_alloc | apply pw_below_drewN | apply below_drew1) | exact HB.out)) hb)
                      clear HO_4
                      clear HB
                      have HO_4 := n0_
                      have HB := n1_
                      clear n0_ n1_
                      (try clear hb)
                      (try clear hb2)
                      (try clear hk)
                      (try clear hi)
                      refine hK.out _ _ ⟨HS0_, HS1_⟩ (fun hHeld => ?_)
                      clear hK K
                      refine norm_ (a' := ?_) ?_ ?_
                      rotate_left
                      · show Act.put _ (some 27) _ = _
                        simp only [Act.put, List.setIfInBounds_toArray, List.set_cons_zero, List.set_cons_succ, i64_w, i32_w]
                        rfl
                      refine pure_ (i := 13) (N := some 28) (v := ?_) (a' := ?_) #[true, true, true, true, true, true, true, true, true, true, true, true, true, true, false] rfl rfl (any_of HT_.out (by kernel_rfl)) (fun _ _ _ h => h) (Or.inl ⟨by rfl, ?_⟩) ?_ ?_
                      rotate_left
                      · intro w'
                        go_simp
                        with_reducible rfl
                      rotate_left
                      · simp only [Act.put, List.setIfInBounds_toArray, List.set_cons_zero, List.set_cons_succ, i64_w, i32_w]
                        rfl
                      refine pure_ (i := 14) (N := some 3) (v := ?_) (a' := ?_) #[true, true, true, true, true, true, true, true, true, true, true, true, true, true, true] rfl rfl (any_of HT_.out (by kernel_rfl)) (fun _ _ _ h => h) (Or.inl ⟨by rfl, ?_⟩) ?_ ?_
                      rotate_left
                      · intro w'
                        go_simp
                        with_reducible rfl
                      rotate_left
                      · simp only [Act.put, List.setIfInBounds_toArray, List.set_cons_zero, List.set_cons_succ, i64_w, i32_w]
                        rfl
                      refine done_ (done_of HT_.out (by kernel_rfl)) ?_
                      try go_wp2
                      go_roundg k1
                      case measure => have := HK1.out; omega
                      case rel => exact ⟨(x3_1 ++ t416), (ji7), (by first | rfl | (simp; done) | (simp [*]; done)), (by first | rfl | (simp; done) | (simp only [← hji7] <;> (first | rfl | simp)) | (simp [*]; done)), H', ⟨by have := HK1.out; omega⟩, ⟨by (with_reducible repeat (first | apply Kd.R_alloc | apply Kd.R_drewN | apply Kd.R_drew)); exact HO_4.out⟩, ⟨by repeat (first | (with_reducible first | exact HB.out | apply below_alloc | apply pw_below_drewN | apply below_drew1) | exact HB.out)⟩⟩
                    · rw [if_neg c13] at H
                      exact absurd H (by simp)
                  · rw [if_neg c11] at H
                    exact absurd H (by simp)
                · rw [if_neg c10] at H
                  exact absurd H (by simp)
              · rw [if_neg c9] at H
                exact absurd H (by simp)
            · rw [if_neg c8] at H
              exact absurd H (by simp)
          · rw [if_neg c6] at H
            exact absurd H (by simp)
        · rw [if_neg c5] at H
          exact absurd H (by simp)
      · rw [if_neg c4] at H
        have c4b0 : decide ((wrap64 (x5_1 + 1)) < (t410.length : Int)) = false := decide_eq_false c4
        clear c4
        obtain rfl := Option.some.inj H
        obtain ⟨Ao18, co18, eo18⟩ := Kd.R_slice HO_4.out
        subst eo18
        go_wp2
        go_ret
        exact ⟨by first | rfl | (simp [errW_none, errW_some] <;> rfl) | (simp [*, errW_none, errW_some] <;> rfl), by repeat (first | (with_reducible first | exact HB.out | apply below_alloc | apply pw_below_drewN | apply below_drew1) | exact HB.out)⟩
end Go.Proofs.YtflddgoapibleaaDoor.Esc

namespace Go.Proofs.YtflddgoapibleaaDoor.Esc
open Go.RowKit Go.Proofs.YtflddgoapibleaaDoor.Hand Go.Proofs.YtflddgoapibleaaDoorW.PrintWords Go.Proofs.YtflddgoapibleaaDoorW.PrintLast Go.Proofs.YtflddgoapibleaaDoorW.PrintMore
attribute [local go_sem] max2_int min2_int max_two min_two max_three min_three max_four min_four
set_option linter.unusedVariables false
set_option linter.unusedSimpArgs false
def galleyref23_Plain.l0 : Nat → List Int → List Int → List Int → Int → Option (ByteArray)
  | 0, _, _, _, _ => none
  | k + 1, x0, x3, x4, x5 => if (wrap64 (x5 + 1)) < (x4.length : Int) then (if 0 ≤ x5 then (if x5 < (x4.length : Int) then (if 0 ≤ (wrap64 (x5 + 1)) then (if 0 ≤ (rd x4 x5) then (if (rd x4 x5) ≤ (rd x4 (wrap64 (x5 + 1))) then (if (rd x4 (wrap64 (x5 + 1))) ≤ (x0.length : Int) then ((galleyref01_Whole.f k ((x0.take ((rd x4 (wrap64 (x5 + 1))) : Int).toNat).drop ((rd x4 x5) : Int).toNat)).bind fun t423 => (if t423 = true then (if x3.length + ((x0.take ((rd x4 (wrap64 (x5 + 1))) : Int).toNat).drop ((rd x4 x5) : Int).toNat).length < 140737488355328 then (galleyref23_Plain.l0 k x0 (x3 ++ ((x0.take ((rd x4 (wrap64 (x5 + 1))) : Int).toNat).drop ((rd x4 x5) : Int).toNat)) x4 (wrap64 (x5 + 1))) else (none)) else ((galleyref01_Bytes.f k 65533).bind fun t427 => (if x3.length + t427.length < 140737488355328 then (galleyref23_Plain.l0 k x0 (x3 ++ t427) x4 (wrap64 (x5 + 1))) else (none))))) else (none)) else (none)) else (none)) else (none)) else (none)) else (none)) else (some (strOfNums x3))
def galleyref23_Plain.f (k : Nat) (l0 : List Int) : Option (ByteArray) := (galleyref04_Edges.f k l0).bind fun t417 => (galleyref23_Plain.l0 k l0 ([] : List Int) t417 0)
set_option maxHeartbeats 8000000 in
set_option maxRecDepth 100000 in
theorem galleyref23_Plain.calls (k : Nat) (A0 : Option Addr) (c0 : Nat) (l0 : List Int) (r : ByteArray) (w : World) (hr0 : Kd.C (Kd.int .u8) w A0 l0.length l0) (hc0 : l0.length ≤ c0) (h : galleyref23_Plain.f k l0 = some r) :
    Calls Tryd.prog 23 #[.slice A0 l0.length c0] w fun e w' => e = .returned (.string r) ∧ Below w.heap.size w w' := by
  have HR0 := Aside0.mk hr0
  have HC0 := Aside0.mk hc0
  clear hr0 hc0
  have HB := Aside0.mk (Below.refl w.heap.size w)
  have H : ((galleyref04_Edges.f k l0).bind fun t417 => (galleyref23_Plain.l0 k l0 ([] : List Int) t417 0)) = some r := h
  clear h
  replace H := Option.bind_eq_some_iff.mp H
  obtain ⟨t417, A20, H⟩ := H
  replace H : (galleyref23_Plain.l0 k l0 ([] : List Int) t417 0) = some r := H
  have A2 := Aside0.mk A20
  clear A20
  have H' := Aside0.mk H
  clear H
  go_enter Tryd.func23, Tryd.ntmps23
  go_wp2_with (first | (go_at_call 37; (with_reducible refine (galleyref04_Edges.calls k _ _ l0 t417 _ ?side1 ?side2 A2.out).mono ?_); (case side1 => repeat (first | exact HR0.out | (with_reducible refine Kd.C_alloc ?_ _) | (with_reducible refine Kd.C_drewN ?_ _) | (with_reducible refine Kd.C_drew ?_))); (case side2 => exact HC0.out); rintro e w3 ⟨v418, rfl, ho0, hb⟩; have n0_ := Aside0.mk (Kd.R_lower ho0 (below_size (by repeat (first | (with_reducible first | exact HB.out | apply below_alloc | apply pw_below_drewN | apply below_drew1) | exact HB.out)))); have n1_ := Aside0.mk (below_step (by repeat (first | (with_reducible first | exact HB.out | apply below_alloc | apply pw_below_drewN | apply below_drew1) | exact HB.out)) hb); clear HB; have HO419 := n0_; have HB := n1_; clear n0_ n1_; (try clear hb); (try clear hb2); (try clear hk); (try clear hi); (try clear ho0)))
  repeat (go_quiet (first | (go_at_call 37; (with_reducible refine (galleyref04_Edges.calls k _ _ l0 t417 _ ?side1 ?side2 A2.out).mono ?_); (case side1 => repeat (first | exact HR0.out | (with_reducible refine Kd.C_alloc ?_ _) | (with_reducible refine Kd.C_drewN ?_ _) | (with_reducible refine Kd.C_drew ?_))); (case side2 => exact HC0.out); rintro e w3 ⟨v418, rfl, ho0, hb⟩; have n0_ := Aside0.mk (Kd.R_lower ho0 (below_size (by repeat (first | (with_reducible first | exact HB.out | apply below_alloc | apply pw_below_drewN | apply below_drew1) | exact HB.out)))); have n1_ := Aside0.mk (below_step (by repeat (first | (with_reducible first | exact HB.out | apply below_alloc | apply pw_below_drewN | apply below_drew1) | exact HB.out)) hb); clear HB; have HO419 := n0_; have HB := n1_; clear n0_ n1_; (try clear hb); (try clear hb2); (try clear hk); (try clear hi); (try clear ho0))); try go_wp2_with (first | (go_at_call 37; (with_reducible refine (galleyref04_Edges.calls k _ _ l0 t417 _ ?side1 ?side2 A2.out).mono ?_); (case side1 => repeat (first | exact HR0.out | (with_reducible refine Kd.C_alloc ?_ _) | (with_reducible refine Kd.C_drewN ?_ _) | (with_reducible refine Kd.C_drew ?_))); (case side2 => exact HC0.out); rintro e w3 ⟨v418, rfl, ho0, hb⟩; have n0_ := Aside0.mk (Kd.R_lower ho0 (below_size (by repeat (first | (with_reducible first | exact HB.out | apply below_alloc | apply pw_below_drewN | apply below_drew1) | exact HB.out)))); have n1_ := Aside0.mk (below_step (by repeat (first | (with_reducible first | exact HB.out | apply below_alloc | apply pw_below_drewN | apply below_drew1) | exact HB.out)) hb); clear HB; have HO419 := n0_; have HB := n1_; clear n0_ n1_; (try clear hb); (try clear hb2); (try clear hk); (try clear hi); (try clear ho0))))
  go_loopg [3, 5] k (fun kq v3 v5 w' => ∃ (x3_1 : List Int) (x5_1 : Int), v5 = .int .i64 x5_1 ∧ Aside0 (galleyref23_Plain.l0 kq l0 x3_1 t417 x5_1 = some r) ∧ Aside0 (kq ≤ k) ∧ Aside0 (Kd.R (Kd.int .u8) 5 w' w.heap.size (fun _ => True) v3 x3_1) ∧ Aside0 (Kd.R (Kd.int .i64) 3 w' w.heap.size (fun _ => True) v418 t417) ∧ Aside0 (Below w.heap.size w w'))
  case atStart => exact ⟨(([] : List Int)), (0), (by first | rfl | (simp; done) | (simp [*]; done)), H', ⟨Nat.le_refl _⟩, ⟨by first | exact Kd.R_nil _ _ _ _ _ | exact Kd.N_nil _ _ _ _ _ | exact Kd.V_nil _ _ _ _ _ | exact Kd.Q_nil _ _ _ _ _ | exact Kd.S_nil _ _ _ _ _⟩, ⟨by (with_reducible repeat (first | apply Kd.R_alloc | apply Kd.R_drewN | apply Kd.R_drew)); exact HO419.out⟩, ⟨by repeat (first | (with_reducible first | exact HB.out | apply below_alloc | apply pw_below_drewN | apply below_drew1) | exact HB.out)⟩⟩
  case round =>
    clear H'
    try clear c2
    try clear p2
    obtain ⟨x3_1, x5_1, rfl, HA, HK1, HO_3, HO_4, HB⟩ := hrel
    cases gk with
    | zero => exact absurd HA.out (by simp [galleyref23_Plain.l0])
    | succ k1 =>
      have H := HA.out
      clear HA
      simp only [galleyref23_Plain.l0] at H
      by_cases c4 : (wrap64 (x5_1 + 1)) < (t417.length : Int)
      · rw [if_pos c4] at H
        have c4b0 : decide ((wrap64 (x5_1 + 1)) < (t417.length : Int)) = true := decide_eq_true c4
        clear c4
        by_cases c5 : 0 ≤ x5_1
        · rw [if_pos c5] at H
          have c5b0 : decide (0 ≤ x5_1) = true := decide_eq_true c5
          clear c5
          by_cases c6 : x5_1 < (t417.length : Int)
          · rw [if_pos c6] at H
            have c6b0 : decide (x5_1 < (t417.length : Int)) = true := decide_eq_true c6
            clear c6
            obtain ⟨ji7, hji7⟩ : ∃ j_ : Int, (wrap64 (x5_1 + 1)) = j_ := ⟨_, rfl⟩
            replace H : (if 0 ≤ (ji7) then (if 0 ≤ (rd t417 x5_1) then (if (rd t417 x5_1) ≤ (rd t417 (ji7)) then (if (rd t417 (ji7)) ≤ (l0.length : Int) then ((galleyref01_Whole.f k1 ((l0.take ((rd t417 (ji7)) : Int).toNat).drop ((rd t417 x5_1) : Int).toNat)).bind fun t423 => (if t423 = true then (if x3_1.length + ((l0.take ((rd t417 (ji7)) : Int).toNat).drop ((rd t417 x5_1) : Int).toNat).length < 140737488355328 then (galleyref23_Plain.l0 k1 l0 (x3_1 ++ ((l0.take ((rd t417 (ji7)) : Int).toNat).drop ((rd t417 x5_1) : Int).toNat)) t417 ji7) else (none)) else ((galleyref01_Bytes.f k1 65533).bind fun t427 => (if x3_1.length + t427.length < 140737488355328 then (galleyref23_Plain.l0 k1 l0 (x3_1 ++ t427) t417 ji7) else (none))))) else (none)) else (none)) else (none)) else (none)) = some r := by first | (rw [hji7] at H; exact H) | (simp only [hji7] at H ⊢; exact H)
            (try rw [hji7] at c4b0)
            have hji7w : (IntKind.i64.wrap (x5_1 + 1)) = ji7 := (i64_w _).trans hji7
            by_cases c8 : 0 ≤ (ji7)
            · rw [if_pos c8] at H
              have c8b0 : decide (0 ≤ (ji7)) = true := decide_eq_true c8
              clear c8
              by_cases c9 : 0 ≤ (rd t417 x5_1)
              · rw [if_pos c9] at H
                have c9b0 := eq_true c9
                have c9b1 : decide (0 ≤ (rd t417 x5_1)) = true := decide_eq_true c9
                clear c9
                by_cases c10 : (rd t417 x5_1) ≤ (rd t417 (ji7))
                · rw [if_pos c10] at H
                  have c10b0 := eq_true c10
                  have c10b1 : decide ((rd t417 x5_1) ≤ (rd t417 (ji7))) = true := decide_eq_true c10
                  clear c10
                  by_cases c11 : (rd t417 (ji7)) ≤ (l0.length : Int)
                  · rw [if_pos c11] at H
                    have c11b0 := eq_true c11
                    have c11b1 : decide ((rd t417 (ji7)) ≤ (l0.length : Int)) = true := decide_eq_true c11
                    clear c11
                    replace H := Option.bind_eq_some_iff.mp H
                    obtain ⟨t423, A120, H⟩ := H
                    replace H : (if t423 = true then (if x3_1.length + ((l0.take ((rd t417 (ji7)) : Int).toNat).drop ((rd t417 x5_1) : Int).toNat).length < 140737488355328 then (galleyref23_Plain.l0 k1 l0 (x3_1 ++ ((l0.take ((rd t417 (ji7)) : Int).toNat).drop ((rd t417 x5_1) : Int).toNat)) t417 ji7) else (none)) else ((galleyref01_Bytes.f k1 65533).bind fun t427 => (if x3_1.length + t427.length < 140737488355328 then (galleyref23_Plain.l0 k1 l0 (x3_1 ++ t427) t417 ji7) else (none)))) = some r := H
                    have A12 := Aside0.mk A120
                    clear A120
                    by_cases c13 : t423 = true
                    · subst c13
                      have H1 : (if x3_1.length + ((l0.take ((rd t417 (ji7)) : Int).toNat).drop ((rd t417 x5_1) : Int).toNat).length < 140737488355328 then (galleyref23_Plain.l0 k1 l0 (x3_1 ++ ((l0.take ((rd t417 (ji7)) : Int).toNat).drop ((rd t417 x5_1) : Int).toNat)) t417 ji7) else (none)) = some r := by rw [if_pos rfl] at H; exact H
                      clear H
                      have H := H1
                      clear H1
                      by_cases c14 : x3_1.length + ((l0.take ((rd t417 (ji7)) : Int).toNat).drop ((rd t417 x5_1) : Int).toNat).length < 140737488355328
                      · rw [if_pos c14] at H
                        have LMc14 := Aside0.mk c14
                        clear c14
                        obtain ⟨y424, hy424⟩ : ∃ y_ : List Int, y_ = (x3_1 ++ ((l0.take ((rd t417 (ji7)) : Int).toNat).drop ((rd t417 x5_1) : Int).toNat)) := ⟨_, rfl⟩
                        replace H : (galleyref23_Plain.l0 k1 l0 y424 t417 ji7) = some r := by first | (rw [hy424]; with_reducible exact H) | (have H2_ := (Option.bind_some _ _).symm.trans H; rw [hy424]; with_reducible exact H2_) | (have H2_ := (Option.bind_some _ _).symm.trans H; with_reducible exact H2_) | with_reducible exact H | (rw [hy424]; exact H) | exact H
                        have Ny424 := Aside0.mk hy424
                        clear hy424
                        have H' := Aside0.mk H
                        clear H
                        obtain ⟨Ao15, co15, eo15⟩ := Kd.R_slice HO_4.out
                        subst eo15
                        have p420 : 0 ≤ (x5_1 : Int) := of_decide_eq_true (by first | (with_reducible assumption) | assumption)
                        have q420 : x5_1 < (t417.length : Int) := of_decide_eq_true (by first | (with_reducible assumption) | assumption)
                        obtain ⟨ad420, e420, hx420_0⟩ := Kd.at_int (Kd.R_reads' HO_4.out).2.2 x5_1 p420 q420
                        cases e420
                        replace p420 := eq_true p420
                        replace q420 := eq_true q420
                        have p421 : 0 ≤ ((ji7) : Int) := of_decide_eq_true (by first | (with_reducible assumption) | assumption)
                        have q421 : (ji7) < (t417.length : Int) := of_decide_eq_true (by first | (with_reducible assumption) | assumption)
                        obtain ⟨ad421, e421, hx421_0⟩ := Kd.at_int (Kd.R_reads' HO_4.out).2.2 (ji7) p421 q421
                        obtain rfl : ad420 = ad421 := (by injection e421)
                        replace p421 := eq_true p421
                        replace q421 := eq_true q421
                        obtain ⟨i016, hi016, _, hsz16, _⟩ := info_parts info5
                        obtain ⟨A16, hcut16, hA16, hC16⟩ := print_mid_of (P := Tryd.prog) (Value.int .u8) 0 22 5 .i64 .i64 Tryd.underlying22 hi016 hsz16 A0 c0 l0 (rd t417 x5_1) (rd t417 (ji7)) (of_decide_eq_true (by first | (with_reducible assumption) | assumption)) (by first | omega | exact of_decide_eq_true (by first | (with_reducible assumption) | assumption)) (of_decide_eq_true (by first | (with_reducible assumption) | assumption)) HC0.out
                        have HR422 := Aside0.mk (Kd.C_of_reads (h1 := fun _ => rfl) (hA16 _ (Kd.reads_of_C HR0.out)))
                        have HC422 := Aside0.mk hC16
                        clear hA16 hC16 hi016 hsz16
                        go_wp2_with (first | (go_at_call 39; refine calls_of_args (args' := #[.slice _ ((l0.take ((rd t417 (ji7)) : Int).toNat).drop ((rd t417 x5_1) : Int).toNat).length _]) (by rw [List.length_drop, List.length_take, Nat.min_eq_left (by first | omega | (have q_ : (rd t417 ji7) ≤ (l0.length : Int) := of_decide_eq_true (by assumption); omega) | (have q_ : (rd t417 ji7) ≤ (l0.length : Int) := of_eq_true (by assumption); omega))]) ?_; (with_reducible refine (galleyref01_Whole.calls k1 _ _ ((l0.take ((rd t417 (ji7)) : Int).toNat).drop ((rd t417 x5_1) : Int).toNat) true _ ?side1 ?side2 A12.out).mono ?_); (case side1 => repeat (first | exact (Kd.C_below HR422.out HB.out) | (with_reducible refine Kd.C_alloc ?_ _) | (with_reducible refine Kd.C_drewN ?_ _) | (with_reducible refine Kd.C_drew ?_))); (case side2 => exact HC422.out); rintro e w' ⟨rfl, ⟨nd, rfl⟩⟩; (try first | exact ⟨rfl, _, World.drewN_drewN _ _ _⟩ | exact ⟨rfl, _, Eq.trans (World.drewN_drewN _ _ _) (congrArg (World.drewN _) (Nat.add_assoc _ _ _))⟩)) | ((with_reducible refine gate_builtin (b := .append) (xs := #[.tmp 31, .tmp 32]) rfl ?_); at_builtin; refine Kd.R_append_rows (Kd.int .u8) (w0 := w) w.heap.size rfl (.tmp 31) (.tmp 32) 22 5 (.int .u8 0) 1 rfl Tryd.underlying22 info5 rfl (by decide) (by omega) u3 x3_1 ((l0.take ((rd t417 (ji7)) : Int).toNat).drop ((rd t417 x5_1) : Int).toNat) _ _ _ (fun _ => True) (fun _ => False) rfl rfl ?aO ?aR (fun _ _ h => h) (fun _ h => h.elim) ?aF ?aB ?aS ?aL ?_; (case aR => first | (rw [← show ((l0.take ((rd t417 (ji7)) : Int).toNat).drop ((rd t417 x5_1) : Int).toNat).length = ((rd t417 (ji7)).toNat - (rd t417 x5_1).toNat) from (by rw [List.length_drop, List.length_take]; have h_ : ((rd t417 (ji7)) : Int) ≤ (l0.length : Int) := of_decide_eq_true (by first | (with_reducible assumption) | assumption); omega)]; repeat (first | exact (Kd.C_below HR422.out (by repeat (first | (with_reducible first | exact HB.out | apply below_alloc | apply pw_below_drewN | apply below_drew1) | exact HB.out))) | (with_reducible refine Kd.C_alloc ?_ _) | (with_reducible refine Kd.C_drewN ?_ _) | (with_reducible refine Kd.C_drew ?_))) | (repeat (first | exact (Kd.C_below HR422.out (by repeat (first | (with_reducible first | exact HB.out | apply below_alloc | apply pw_below_drewN | apply below_drew1) | exact HB.out))) | (with_reducible refine Kd.C_alloc ?_ _) | (with_reducible refine Kd.C_drewN ?_ _) | (with_reducible refine Kd.C_drew ?_)))); (case aB => exact (by repeat (first | (with_reducible first | exact HB.out | apply below_alloc | apply pw_below_drewN | apply below_drew1) | exact HB.out))); (case aF => exact (fun _ _ => trivial)); (case aO => exact (by (with_reducible repeat (first | apply Kd.R_alloc | apply Kd.R_drewN | apply Kd.R_drew)); exact HO_3.out)); (case aS => exact (below_size (by repeat (first | (with_reducible first | exact HB.out | apply below_alloc | apply pw_below_drewN | apply below_drew1) | exact HB.out)))); (case aL => have := LMc14.out; have hlx_ := (show ((l0.take ((rd t417 (ji7)) : Int).toNat).drop ((rd t417 x5_1) : Int).toNat).length = ((rd t417 (ji7)).toNat - (rd t417 x5_1).toNat) from (by rw [List.length_drop, List.length_take]; have h_ : ((rd t417 (ji7)) : Int) ≤ (l0.length : Int) := of_decide_eq_true (by first | (with_reducible assumption) | assumption); omega)); omega); intro v425 w17 ho hb hg hat; rw [← Ny424.out] at ho; have n0_ := Aside0.mk (Kd.R_over' (by (with_reducible repeat (first | apply Kd.R_alloc | apply Kd.R_drewN | apply Kd.R_drew)); exact HO_4.out) (Kd.R_typed (by (with_reducible repeat (first | apply Kd.R_alloc | apply Kd.R_drewN | apply Kd.R_drew)); exact HO_3.out)) (by decide) hg); have n1_ := Aside0.mk (hb); have n2_ := Aside0.mk (ho); clear HO_4; clear HB; clear HO_3; have HO_4 := n0_; have HB := n1_; have HO426 := n2_; clear n0_ n1_ n2_; clear ho hb hg hat))
                        repeat (go_quiet (first | (go_at_call 39; refine calls_of_args (args' := #[.slice _ ((l0.take ((rd t417 (ji7)) : Int).toNat).drop ((rd t417 x5_1) : Int).toNat).length _]) (by rw [List.length_drop, List.length_take, Nat.min_eq_left (by first | omega | (have q_ : (rd t417 ji7) ≤ (l0.length : Int) := of_decide_eq_true (by assumption); omega) | (have q_ : (rd t417 ji7) ≤ (l0.length : Int) := of_eq_true (by assumption); omega))]) ?_; (with_reducible refine (galleyref01_Whole.calls k1 _ _ ((l0.take ((rd t417 (ji7)) : Int).toNat).drop ((rd t417 x5_1) : Int).toNat) true _ ?side1 ?side2 A12.out).mono ?_); (case side1 => repeat (first | exact (Kd.C_below HR422.out HB.out) | (with_reducible refine Kd.C_alloc ?_ _) | (with_reducible refine Kd.C_drewN ?_ _) | (with_reducible refine Kd.C_drew ?_))); (case side2 => exact HC422.out); rintro e w' ⟨rfl, ⟨nd, rfl⟩⟩; (try first | exact ⟨rfl, _, World.drewN_drewN _ _ _⟩ | exact ⟨rfl, _, Eq.trans (World.drewN_drewN _ _ _) (congrArg (World.drewN _) (Nat.add_assoc _ _ _))⟩)) | ((with_reducible refine gate_builtin (b := .append) (xs := #[.tmp 31, .tmp 32]) rfl ?_); at_builtin; refine Kd.R_append_rows (Kd.int .u8) (w0 := w) w.heap.size rfl (.tmp 31) (.tmp 32) 22 5 (.int .u8 0) 1 rfl Tryd.underlying22 info5 rfl (by decide) (by omega) u3 x3_1 ((l0.take ((rd t417 (ji7)) : Int).toNat).drop ((rd t417 x5_1) : Int).toNat) _ _ _ (fun _ => True) (fun _ => False) rfl rfl ?aO ?aR (fun _ _ h => h) (fun _ h => h.elim) ?aF ?aB ?aS ?aL ?_; (case aR => first | (rw [← show ((l0.take ((rd t417 (ji7)) : Int).toNat).drop ((rd t417 x5_1) : Int).toNat).length = ((rd t417 (ji7)).toNat - (rd t417 x5_1).toNat) from (by rw [List.length_drop, List.length_take]; have h_ : ((rd t417 (ji7)) : Int) ≤ (l0.length : Int) := of_decide_eq_true (by first | (with_reducible assumption) | assumption); omega)]; repeat (first | exact (Kd.C_below HR422.out (by repeat (first | (with_reducible first | exact HB.out | apply below_alloc | apply pw_below_drewN | apply below_drew1) | exact HB.out))) | (with_reducible refine Kd.C_alloc ?_ _) | (with_reducible refine Kd.C_drewN ?_ _) | (with_reducible refine Kd.C_drew ?_))) | (repeat (first | exact (Kd.C_below HR422.out (by repeat (first | (with_reducible first | exact HB.out | apply below_alloc | apply pw_below_drewN | apply below_drew1) | exact HB.out))) | (with_reducible refine Kd.C_alloc ?_ _) | (with_reducible refine Kd.C_drewN ?_ _) | (with_reducible refine Kd.C_drew ?_)))); (case aB => exact (by repeat (first | (with_reducible first | exact HB.out | apply below_alloc | apply pw_below_drewN | apply below_drew1) | exact HB.out))); (case aF => exact (fun _ _ => trivial)); (case aO => exact (by (with_reducible repeat (first | apply Kd.R_alloc | apply Kd.R_drewN | apply Kd.R_drew)); exact HO_3.out)); (case aS => exact (below_size (by repeat (first | (with_reducible first | exact HB.out | apply below_alloc | apply pw_below_drewN | apply below_drew1) | exact HB.out)))); (case aL => have := LMc14.out; have hlx_ := (show ((l0.take ((rd t417 (ji7)) : Int).toNat).drop ((rd t417 x5_1) : Int).toNat).length = ((rd t417 (ji7)).toNat - (rd t417 x5_1).toNat) from (by rw [List.length_drop, List.length_take]; have h_ : ((rd t417 (ji7)) : Int) ≤ (l0.length : Int) := of_decide_eq_true (by first | (with_reducible assumption) | assumption); omega)); omega); intro v425 w17 ho hb hg hat; rw [← Ny424.out] at ho; have n0_ := Aside0.mk (Kd.R_over' (by (with_reducible repeat (first | apply Kd.R_alloc | apply Kd.R_drewN | apply Kd.R_drew)); exact HO_4.out) (Kd.R_typed (by (with_reducible repeat (first | apply Kd.R_alloc | apply Kd.R_drewN | apply Kd.R_drew)); exact HO_3.out)) (by decide) hg); have n1_ := Aside0.mk (hb); have n2_ := Aside0.mk (ho); clear HO_4; clear HB; clear HO_3; have HO_4 := n0_; have HB := n1_; have HO426 := n2_; clear n0_ n1_ n2_; clear ho hb hg hat)); try go_wp2_with (first | (go_at_call 39; refine calls_of_args (args' := #[.slice _ ((l0.take ((rd t417 (ji7)) : Int).toNat).drop ((rd t417 x5_1) : Int).toNat).length _]) (by rw [List.length_drop, List.length_take, Nat.min_eq_left (by first | omega | (have q_ : (rd t417 ji7) ≤ (l0.length : Int) := of_decide_eq_true (by assumption); omega) | (have q_ : (rd t417 ji7) ≤ (l0.length : Int) := of_eq_true (by assumption); omega))]) ?_; (with_reducible refine (galleyref01_Whole.calls k1 _ _ ((l0.take ((rd t417 (ji7)) : Int).toNat).drop ((rd t417 x5_1) : Int).toNat) true _ ?side1 ?side2 A12.out).mono ?_); (case side1 => repeat (first | exact (Kd.C_below HR422.out HB.out) | (with_reducible refine Kd.C_alloc ?_ _) | (with_reducible refine Kd.C_drewN ?_ _) | (with_reducible refine Kd.C_drew ?_))); (case side2 => exact HC422.out); rintro e w' ⟨rfl, ⟨nd, rfl⟩⟩; (try first | exact ⟨rfl, _, World.drewN_drewN _ _ _⟩ | exact ⟨rfl, _, Eq.trans (World.drewN_drewN _ _ _) (congrArg (World.drewN _) (Nat.add_assoc _ _ _))⟩)) | ((with_reducible refine gate_builtin (b := .append) (xs := #[.tmp 31, .tmp 32]) rfl ?_); at_builtin; refine Kd.R_append_rows (Kd.int .u8) (w0 := w) w.heap.size rfl (.tmp 31) (.tmp 32) 22 5 (.int .u8 0) 1 rfl Tryd.underlying22 info5 rfl (by decide) (by omega) u3 x3_1 ((l0.take ((rd t417 (ji7)) : Int).toNat).drop ((rd t417 x5_1) : Int).toNat) _ _ _ (fun _ => True) (fun _ => False) rfl rfl ?aO ?aR (fun _ _ h => h) (fun _ h => h.elim) ?aF ?aB ?aS ?aL ?_; (case aR => first | (rw [← show ((l0.take ((rd t417 (ji7)) : Int).toNat).drop ((rd t417 x5_1) : Int).toNat).length = ((rd t417 (ji7)).toNat - (rd t417 x5_1).toNat) from (by rw [List.length_drop, List.length_take]; have h_ : ((rd t417 (ji7)) : Int) ≤ (l0.length : Int) := of_decide_eq_true (by first | (with_reducible assumption) | assumption); omega)]; repeat (first | exact (Kd.C_below HR422.out (by repeat (first | (with_reducible first | exact HB.out | apply below_alloc | apply pw_below_drewN | apply below_drew1) | exact HB.out))) | (with_reducible refine Kd.C_alloc ?_ _) | (with_reducible refine Kd.C_drewN ?_ _) | (with_reducible refine Kd.C_drew ?_))) | (repeat (first | exact (Kd.C_below HR422.out (by repeat (first | (with_reducible first | exact HB.out | apply below_alloc | apply pw_below_drewN | apply below_drew1) | exact HB.out))) | (with_reducible refine Kd.C_alloc ?_ _) | (with_reducible refine Kd.C_drewN ?_ _) | (with_reducible refine Kd.C_drew ?_)))); (case aB => exact (by repeat (first | (with_reducible first | exact HB.out | apply below_alloc | apply pw_below_drewN | apply below_drew1) | exact HB.out))); (case aF => exact (fun _ _ => trivial)); (case aO => exact (by (with_reducible repeat (first | apply Kd.R_alloc | apply Kd.R_drewN | apply Kd.R_drew)); exact HO_3.out)); (case aS => exact (below_size (by repeat (first | (with_reducible first | exact HB.out | apply below_alloc | apply pw_below_drewN | apply below_drew1) | exact HB.out)))); (case aL => have := LMc14.out; have hlx_ := (show ((l0.take ((rd t417 (ji7)) : Int).toNat).drop ((rd t417 x5_1) : Int).toNat).length = ((rd t417 (ji7)).toNat - (rd t417 x5_1).toNat) from (by rw [List.length_drop, List.length_take]; have h_ : ((rd t417 (ji7)) : Int) ≤ (l0.length : Int) := of_decide_eq_true (by first | (with_reducible assumption) | assumption); omega)); omega); intro v425 w17 ho hb hg hat; rw [← Ny424.out] at ho; have n0_ := Aside0.mk (Kd.R_over' (by (with_reducible repeat (first | apply Kd.R_alloc | apply Kd.R_drewN | apply Kd.R_drew)); exact HO_4.out) (Kd.R_typed (by (with_reducible repeat (first | apply Kd.R_alloc | apply Kd.R_drewN | apply Kd.R_drew)); exact HO_3.out)) (by decide) hg); have n1_ := Aside0.mk (hb); have n2_ := Aside0.mk (ho); clear HO_4; clear HB; clear HO_3; have HO_4 := n0_; have HB := n1_; have HO426 := n2_; clear n0_ n1_ n2_; clear ho hb hg hat)))
                        go_roundg k1
                        case measure => have := HK1.out; omega
                        case rel => exact ⟨(y424), (ji7), (by first | rfl | (simp; done) | (simp only [← hji7] <;> (first | rfl | simp)) | (simp [*]; done)), H', ⟨by have := HK1.out; omega⟩, ⟨by (with_reducible repeat (first | apply Kd.R_alloc | apply Kd.R_drewN | apply Kd.R_drew)); exact HO426.out⟩, ⟨by (with_reducible repeat (first | apply Kd.R_alloc | apply Kd.R_drewN | apply Kd.R_drew)); exact HO_4.out⟩, ⟨by repeat (first | (with_reducible first | exact HB.out | apply below_alloc | apply pw_below_drewN | apply below_drew1) | exact HB.out)⟩⟩
                      · rw [if_neg c14] at H
                        exact absurd H (by simp)
                    · replace c13 := Bool.eq_false_iff.mpr c13
                      subst c13
                      have H1 : ((galleyref01_Bytes.f k1 65533).bind fun t427 => (if x3_1.length + t427.length < 140737488355328 then (galleyref23_Plain.l0 k1 l0 (x3_1 ++ t427) t417 ji7) else (none))) = some r := by rw [if_neg (show ¬ (false = true) by decide)] at H; exact H
                      clear H
                      have H := H1
                      clear H1
                      replace H := Option.bind_eq_some_iff.mp H
                      obtain ⟨t427, A180, H⟩ := H
                      replace H : (if x3_1.length + t427.length < 140737488355328 then (galleyref23_Plain.l0 k1 l0 (x3_1 ++ t427) t417 ji7) else (none)) = some r := H
                      have A18 := Aside0.mk A180
                      clear A180
                      by_cases c19 : x3_1.length + t427.length < 140737488355328
                      · rw [if_pos c19] at H
                        have LMc19 := Aside0.mk c19
                        clear c19
                        obtain ⟨y430, hy430⟩ : ∃ y_ : List Int, y_ = (x3_1 ++ t427) := ⟨_, rfl⟩
                        replace H : (galleyref23_Plain.l0 k1 l0 y430 t417 ji7) = some r := by first | (rw [hy430]; with_reducible exact H) | (have H2_ := (Option.bind_some _ _).symm.trans H; rw [hy430]; with_reducible exact H2_) | (have H2_ := (Option.bind_some _ _).symm.trans H; with_reducible exact H2_) | with_reducible exact H | (rw [hy430]; exact H) | exact H
                        have Ny430 := Aside0.mk hy430
                        clear hy430
                        have H' := Aside0.mk H
                        clear H
                        obtain ⟨Ao20, co20, eo20⟩ := Kd.R_slice HO_4.out
                        subst eo20
                        have p420 : 0 ≤ (x5_1 : Int) := of_decide_eq_true (by first | (with_reducible assumption) | assumption)
                        have q420 : x5_1 < (t417.length : Int) := of_decide_eq_true (by first | (with_reducible assumption) | assumption)
                        obtain ⟨ad420, e420, hx420_0⟩ := Kd.at_int (Kd.R_reads' HO_4.out).2.2 x5_1 p420 q420
                        cases e420
                        replace p420 := eq_true p420
                        replace q420 := eq_true q420
                        have p421 : 0 ≤ ((ji7) : Int) := of_decide_eq_true (by first | (with_reducible assumption) | assumption)
                        have q421 : (ji7) < (t417.length : Int) := of_decide_eq_true (by first | (with_reducible assumption) | assumption)
                        obtain ⟨ad421, e421, hx421_0⟩ := Kd.at_int (Kd.R_reads' HO_4.out).2.2 (ji7) p421 q421
                        obtain rfl : ad420 = ad421 := (by injection e421)
                        replace p421 := eq_true p421
                        replace q421 := eq_true q421
                        obtain ⟨i021, hi021, _, hsz21, _⟩ := info_parts info5
                        obtain ⟨A21, hcut21, hA21, hC21⟩ := print_mid_of (P := Tryd.prog) (Value.int .u8) 0 22 5 .i64 .i64 Tryd.underlying22 hi021 hsz21 A0 c0 l0 (rd t417 x5_1) (rd t417 (ji7)) (of_decide_eq_true (by first | (with_reducible assumption) | assumption)) (by first | omega | exact of_decide_eq_true (by first | (with_reducible assumption) | assumption)) (of_decide_eq_true (by first | (with_reducible assumption) | assumption)) HC0.out
                        have HR422 := Aside0.mk (Kd.C_of_reads (h1 := fun _ => rfl) (hA21 _ (Kd.reads_of_C HR0.out)))
                        have HC422 := Aside0.mk hC21
                        clear hA21 hC21 hi021 hsz21
                        go_wp2_with (first | (go_at_call 39; refine calls_of_args (args' := #[.slice _ ((l0.take ((rd t417 (ji7)) : Int).toNat).drop ((rd t417 x5_1) : Int).toNat).length _]) (by rw [List.length_drop, List.length_take, Nat.min_eq_left (by first | omega | (have q_ : (rd t417 ji7) ≤ (l0.length : Int) := of_decide_eq_true (by assumption); omega) | (have q_ : (rd t417 ji7) ≤ (l0.length : Int) := of_eq_true (by assumption); omega))]) ?_; (with_reducible refine (galleyref01_Whole.calls k1 _ _ ((l0.take ((rd t417 (ji7)) : Int).toNat).drop ((rd t417 x5_1) : Int).toNat) false _ ?side1 ?side2 A12.out).mono ?_); (case side1 => repeat (first | exact (Kd.C_below HR422.out HB.out) | (with_reducible refine Kd.C_alloc ?_ _) | (with_reducible refine Kd.C_drewN ?_ _) | (with_reducible refine Kd.C_drew ?_))); (case side2 => exact HC422.out); rintro e w' ⟨rfl, ⟨nd, rfl⟩⟩; (try first | exact ⟨rfl, _, World.drewN_drewN _ _ _⟩ | exact ⟨rfl, _, Eq.trans (World.drewN_drewN _ _ _) (congrArg (World.drewN _) (Nat.add_assoc _ _ _))⟩)) | (go_at_call 40; (with_reducible refine (galleyref01_Bytes.calls k1 65533 t427 _ A18.out).mono ?_); rintro e w22 ⟨v428, rfl, ho0, hb⟩; have n0_ := Aside0.mk (Kd.R_elder' (by (with_reducible repeat (first | apply Kd.R_alloc | apply Kd.R_drewN | apply Kd.R_drew)); exact HO_3.out) (Kd.R_base ho0) hb); have n1_ := Aside0.mk (Kd.R_below (by (with_reducible repeat (first | apply Kd.R_alloc | apply Kd.R_drewN | apply Kd.R_drew)); exact HO_4.out) hb); have n2_ := Aside0.mk (Kd.R_lower (Kd.R_new' ho0 (Kd.R_lt (by (with_reducible repeat (first | apply Kd.R_alloc | apply Kd.R_drewN | apply Kd.R_drew)); exact HO_3.out))) (below_size (by repeat (first | (with_reducible first | exact HB.out | apply below_alloc | apply pw_below_drewN | apply below_drew1) | exact HB.out)))); have n3_ := Aside0.mk (below_step (by repeat (first | (with_reducible first | exact HB.out | apply below_alloc | apply pw_below_drewN | apply below_drew1) | exact HB.out)) hb); clear HO_3; clear HO_4; clear HB; have HO_3 := n0_; have HO_4 := n1_; have HO429 := n2_; have HB := n3_; clear n0_ n1_ n2_ n3_; (try clear hb); (try clear hb2); (try clear hk); (try clear hi); (try clear ho0); obtain ⟨Ao24, co24, eo24⟩ := Kd.R_slice HO429.out; subst eo24) | ((with_reducible refine gate_builtin (b := .append) (xs := #[.tmp 34, .tmp 35]) rfl ?_); at_builtin; refine Kd.R_append_rows (Kd.int .u8) (w0 := w) w.heap.size rfl (.tmp 34) (.tmp 35) 22 5 (.int .u8 0) 1 rfl Tryd.underlying22 info5 rfl (by decide) (by omega) u3 x3_1 t427 _ _ _ (fun k_ => some k_ ≠ (.slice Ao24 t427.length co24 : Value).ownBlock) (fun _ => False) rfl rfl ?aO ?aR (fun _ _ h => h) (fun _ h => h.elim) ?aF ?aB ?aS ?aL ?_; (case aR => repeat (first | exact (Kd.R_reads' HO429.out).2.2 | (with_reducible refine Kd.C_alloc ?_ _) | (with_reducible refine Kd.C_drewN ?_ _) | (with_reducible refine Kd.C_drew ?_))); (case aB => exact (by repeat (first | (with_reducible first | exact HB.out | apply below_alloc | apply pw_below_drewN | apply below_drew1) | exact HB.out))); (case aF => exact (fun k_ hk => Kd.fresh' (Kd.R_lt (by (with_reducible repeat (first | apply Kd.R_alloc | apply Kd.R_drewN | apply Kd.R_drew)); exact HO429.out)) k_ hk)); (case aO => exact (by (with_reducible repeat (first | apply Kd.R_alloc | apply Kd.R_drewN | apply Kd.R_drew)); exact Kd.R_mono HO_3.out (fun _ hk => hk.2))); (case aS => exact (below_size (by repeat (first | (with_reducible first | exact HB.out | apply below_alloc | apply pw_below_drewN | apply below_drew1) | exact HB.out)))); (case aL => have := LMc19.out; omega); intro v431 w23 ho hb hg hat; rw [← Ny430.out] at ho; have n0_ := Aside0.mk (Kd.R_over' (by (with_reducible repeat (first | apply Kd.R_alloc | apply Kd.R_drewN | apply Kd.R_drew)); exact HO_4.out) (Kd.R_typed (by (with_reducible repeat (first | apply Kd.R_alloc | apply Kd.R_drewN | apply Kd.R_drew)); exact HO_3.out)) (by decide) hg); have n1_ := Aside0.mk (Kd.R_after (ok := (fun _ => True)) (by (with_reducible repeat (first | apply Kd.R_alloc | apply Kd.R_drewN | apply Kd.R_drew)); exact HO429.out) hg hat); have n2_ := Aside0.mk (hb); have n3_ := Aside0.mk (ho); clear HO_4; clear HO429; clear HB; clear HO_3; have HO_4 := n0_; have HO429 := n1_; have HB := n2_; have HO432 := n3_; clear n0_ n1_ n2_ n3_; clear ho hb hg hat))
                        repeat (go_quiet (first | (go_at_call 39; refine calls_of_args (args' := #[.slice _ ((l0.take ((rd t417 (ji7)) : Int).toNat).drop ((rd t417 x5_1) : Int).toNat).length _]) (by rw [List.length_drop, List.length_take, Nat.min_eq_left (by first | omega | (have q_ : (rd t417 ji7) ≤ (l0.length : Int) := of_decide_eq_true (by assumption); omega) | (have q_ : (rd t417 ji7) ≤ (l0.length : Int) := of_eq_true (by assumption); omega))]) ?_; (with_reducible refine (galleyref01_Whole.calls k1 _ _ ((l0.take ((rd t417 (ji7)) : Int).toNat).drop ((rd t417 x5_1) : Int).toNat) false _ ?side1 ?side2 A12.out).mono ?_); (case side1 => repeat (first | exact (Kd.C_below HR422.out HB.out) | (with_reducible refine Kd.C_alloc ?_ _) | (with_reducible refine Kd.C_drewN ?_ _) | (with_reducible refine Kd.C_drew ?_))); (case side2 => exact HC422.out); rintro e w' ⟨rfl, ⟨nd, rfl⟩⟩; (try first | exact ⟨rfl, _, World.drewN_drewN _ _ _⟩ | exact ⟨rfl, _, Eq.trans (World.drewN_drewN _ _ _) (congrArg (World.drewN _) (Nat.add_assoc _ _ _))⟩)) | (go_at_call 40; (with_reducible refine (galleyref01_Bytes.calls k1 65533 t427 _ A18.out).mono ?_); rintro e w22 ⟨v428, rfl, ho0, hb⟩; have n0_ := Aside0.mk (Kd.R_elder' (by (with_reducible repeat (first | apply Kd.R_alloc | apply Kd.R_drewN | apply Kd.R_drew)); exact HO_3.out) (Kd.R_base ho0) hb); have n1_ := Aside0.mk (Kd.R_below (by (with_reducible repeat (first | apply Kd.R_alloc | apply Kd.R_drewN | apply Kd.R_drew)); exact HO_4.out) hb); have n2_ := Aside0.mk (Kd.R_lower (Kd.R_new' ho0 (Kd.R_lt (by (with_reducible repeat (first | apply Kd.R_alloc | apply Kd.R_drewN | apply Kd.R_drew)); exact HO_3.out))) (below_size (by repeat (first | (with_reducible first | exact HB.out | apply below_alloc | apply pw_below_drewN | apply below_drew1) | exact HB.out)))); have n3_ := Aside0.mk (below_step (by repeat (first | (with_reducible first | exact HB.out | apply below_alloc | apply pw_below_drewN | apply below_drew1) | exact HB.out)) hb); clear HO_3; clear HO_4; clear HB; have HO_3 := n0_; have HO_4 := n1_; have HO429 := n2_; have HB := n3_; clear n0_ n1_ n2_ n3_; (try clear hb); (try clear hb2); (try clear hk); (try clear hi); (try clear ho0); obtain ⟨Ao24, co24, eo24⟩ := Kd.R_slice HO429.out; subst eo24) | ((with_reducible refine gate_builtin (b := .append) (xs := #[.tmp 34, .tmp 35]) rfl ?_); at_builtin; refine Kd.R_append_rows (Kd.int .u8) (w0 := w) w.heap.size rfl (.tmp 34) (.tmp 35) 22 5 (.int .u8 0) 1 rfl Tryd.underlying22 info5 rfl (by decide) (by omega) u3 x3_1 t427 _ _ _ (fun k_ => some k_ ≠ (.slice Ao24 t427.length co24 : Value).ownBlock) (fun _ => False) rfl rfl ?aO ?aR (fun _ _ h => h) (fun _ h => h.elim) ?aF ?aB ?aS ?aL ?_; (case aR => repeat (first | exact (Kd.R_reads' HO429.out).2.2 | (with_reducible refine Kd.C_alloc ?_ _) | (with_reducible refine Kd.C_drewN ?_ _) | (with_reducible refine Kd.C_drew ?_))); (case aB => exact (by repeat (first | (with_reducible first | exact HB.out | apply below_alloc | apply pw_below_drewN | apply below_drew1) | exact HB.out))); (case aF => exact (fun k_ hk => Kd.fresh' (Kd.R_lt (by (with_reducible repeat (first | apply Kd.R_alloc | apply Kd.R_drewN | apply Kd.R_drew)); exact HO429.out)) k_ hk)); (case aO => exact (by (with_reducible repeat (first | apply Kd.R_alloc | apply Kd.R_drewN | apply Kd.R_drew)); exact Kd.R_mono HO_3.out (fun _ hk => hk.2))); (case aS => exact (below_size (by repeat (first | (with_reducible first | exact HB.out | apply below_alloc | apply pw_below_drewN | apply below_drew1) | exact HB.out)))); (case aL => have := LMc19.out; omega); intro v431 w23 ho hb hg hat; rw [← Ny430.out] at ho; have n0_ := Aside0.mk (Kd.R_over' (by (with_reducible repeat (first | apply Kd.R_alloc | apply Kd.R_drewN | apply Kd.R_drew)); exact HO_4.out) (Kd.R_typed (by (with_reducible repeat (first | apply Kd.R_alloc | apply Kd.R_drewN | apply Kd.R_drew)); exact HO_3.out)) (by decide) hg); have n1_ := Aside0.mk (Kd.R_after (ok := (fun _ => True)) (by (with_reducible repeat (first | apply Kd.R_alloc | apply Kd.R_drewN | apply Kd.R_drew)); exact HO429.out) hg hat); have n2_ := Aside0.mk (hb); have n3_ := Aside0.mk (ho); clear HO_4; clear HO429; clear HB; clear HO_3; have HO_4 := n0_; have HO429 := n1_; have HB := n2_; have HO432 := n3_; clear n0_ n1_ n2_ n3_; clear ho hb hg hat)); try go_wp2_with (first | (go_at_call 39; refine calls_of_args (args' := #[.slice _ ((l0.take ((rd t417 (ji7)) : Int).toNat).drop ((rd t417 x5_1) : Int).toNat).length _]) (by rw [List.length_drop, List.length_take, Nat.min_eq_left (by first | omega | (have q_ : (rd t417 ji7) ≤ (l0.length : Int) := of_decide_eq_true (by assumption); omega) | (have q_ : (rd t417 ji7) ≤ (l0.length : Int) := of_eq_true (by assumption); omega))]) ?_; (with_reducible refine (galleyref01_Whole.calls k1 _ _ ((l0.take ((rd t417 (ji7)) : Int).toNat).drop ((rd t417 x5_1) : Int).toNat) false _ ?side1 ?side2 A12.out).mono ?_); (case side1 => repeat (first | exact (Kd.C_below HR422.out HB.out) | (with_reducible refine Kd.C_alloc ?_ _) | (with_reducible refine Kd.C_drewN ?_ _) | (with_reducible refine Kd.C_drew ?_))); (case side2 => exact HC422.out); rintro e w' ⟨rfl, ⟨nd, rfl⟩⟩; (try first | exact ⟨rfl, _, World.drewN_drewN _ _ _⟩ | exact ⟨rfl, _, Eq.trans (World.drewN_drewN _ _ _) (congrArg (World.drewN _) (Nat.add_assoc _ _ _))⟩)) | (go_at_call 40; (with_reducible refine (galleyref01_Bytes.calls k1 65533 t427 _ A18.out).mono ?_); rintro e w22 ⟨v428, rfl, ho0, hb⟩; have n0_ := Aside0.mk (Kd.R_elder' (by (with_reducible repeat (first | apply Kd.R_alloc | apply Kd.R_drewN | apply Kd.R_drew)); exact HO_3.out) (Kd.R_base ho0) hb); have n1_ := Aside0.mk (Kd.R_below (by (with_reducible repeat (first | apply Kd.R_alloc | apply Kd.R_drewN | apply Kd.R_drew)); exact HO_4.out) hb); have n2_ := Aside0.mk (Kd.R_lower (Kd.R_new' ho0 (Kd.R_lt (by (with_reducible repeat (first | apply Kd.R_alloc | apply Kd.R_drewN | apply Kd.R_drew)); exact HO_3.out))) (below_size (by repeat (first | (with_reducible first | exact HB.out | apply below_alloc | apply pw_below_drewN | apply below_drew1) | exact HB.out)))); have n3_ := Aside0.mk (below_step (by repeat (first | (with_reducible first | exact HB.out | apply below_alloc | apply pw_below_drewN | apply below_drew1) | exact HB.out)) hb); clear HO_3; clear HO_4; clear HB; have HO_3 := n0_; have HO_4 := n1_; have HO429 := n2_; have HB := n3_; clear n0_ n1_ n2_ n3_; (try clear hb); (try clear hb2); (try clear hk); (try clear hi); (try clear ho0); obtain ⟨Ao24, co24, eo24⟩ := Kd.R_slice HO429.out; subst eo24) | ((with_reducible refine gate_builtin (b := .append) (xs := #[.tmp 34, .tmp 35]) rfl ?_); at_builtin; refine Kd.R_append_rows (Kd.int .u8) (w0 := w) w.heap.size rfl (.tmp 34) (.tmp 35) 22 5 (.int .u8 0) 1 rfl Tryd.underlying22 info5 rfl (by decide) (by omega) u3 x3_1 t427 _ _ _ (fun k_ => some k_ ≠ (.slice Ao24 t427.length co24 : Value).ownBlock) (fun _ => False) rfl rfl ?aO ?aR (fun _ _ h => h) (fun _ h => h.elim) ?aF ?aB ?aS ?aL ?_; (case aR => repeat (first | exact (Kd.R_reads' HO429.out).2.2 | (with_reducible refine Kd.C_alloc ?_ _) | (with_reducible refine Kd.C_drewN ?_ _) | (with_reducible refine Kd.C_drew ?_))); (case aB => exact (by repeat (first | (with_reducible first | exact HB.out | apply below_alloc | apply pw_below_drewN | apply below_drew1) | exact HB.out))); (case aF => exact (fun k_ hk => Kd.fresh' (Kd.R_lt (by (with_reducible repeat (first | apply Kd.R_alloc | apply Kd.R_drewN | apply Kd.R_drew)); exact HO429.out)) k_ hk)); (case aO => exact (by (with_reducible repeat (first | apply Kd.R_alloc | apply Kd.R_drewN | apply Kd.R_drew)); exact Kd.R_mono HO_3.out (fun _ hk => hk.2))); (case aS => exact (below_size (by repeat (first | (with_reducible first | exact HB.out | apply below_alloc | apply pw_below_drewN | apply below_drew1) | exact HB.out)))); (case aL => have := LMc19.out; omega); intro v431 w23 ho hb hg hat; rw [← Ny430.out] at ho; have n0_ := Aside0.mk (Kd.R_over' (by (with_reducible repeat (first | apply Kd.R_alloc | apply Kd.R_drewN | apply Kd.R_drew)); exact HO_4.out) (Kd.R_typed (by (with_reducible repeat (first | apply Kd.R_alloc | apply Kd.R_drewN | apply Kd.R_drew)); exact HO_3.out)) (by decide) hg); have n1_ := Aside0.mk (Kd.R_after (ok := (fun _ => True)) (by (with_reducible repeat (first | apply Kd.R_alloc | apply Kd.R_drewN | apply Kd.R_drew)); exact HO429.out) hg hat); have n2_ := Aside0.mk (hb); have n3_ := Aside0.mk (ho); clear HO_4; clear HO429; clear HB; clear HO_3; have HO_4 := n0_; have HO429 := n1_; have HB := n2_; have HO432 := n3_; clear n0_ n1_ n2_ n3_; clear ho hb hg hat)))
                        go_roundg k1
                        case measure => have := HK1.out; omega
                        case rel => exact ⟨(y430), (ji7), (by first | rfl | (simp; done) | (simp only [← hji7] <;> (first | rfl | simp)) | (simp [*]; done)), H', ⟨by have := HK1.out; omega⟩, ⟨by (with_reducible repeat (first | apply Kd.R_alloc | apply Kd.R_drewN | apply Kd.R_drew)); exact Kd.R_mono HO432.out (fun _ hk => trivial)⟩, ⟨by (with_reducible repeat (first | apply Kd.R_alloc | apply Kd.R_drewN | apply Kd.R_drew)); exact HO_4.out⟩, ⟨by repeat (first | (with_reducible first | exact HB.out | apply below_alloc | apply pw_below_drewN | apply below_drew1) | exact HB.out)⟩⟩
                      · rw [if_neg c19] at H
                        exact absurd H (by simp)
                  · rw [if_neg c11] at H
                    exact absurd H (by simp)
                · rw [if_neg c10] at H
                  exact absurd H (by simp)
              · rw [if_neg c9] at H
                exact absurd H (by simp)
            · rw [if_neg c8] at H
              exact absurd H (by simp)
          · rw [if_neg c6] at H
            exact absurd H (by simp)
        · rw [if_neg c5] at H
          exact absurd H (by simp)
      · rw [if_neg c4] at H
        have c4b0 : decide ((wrap64 (x5_1 + 1)) < (t417.length : Int)) = false := decide_eq_false c4
        clear c4
        obtain rfl := Option.some.inj H
        obtain ⟨Ao25, co25, eo25⟩ := Kd.R_slice HO_4.out
        subst eo25
        have hcv26 := own_string (P := Tryd.prog) Tryd.underlying22 Tryd.underlying5 Tryd.underlying9 (Kd.own_of_R HO_3.out)
        go_wp2
        repeat (go_quiet (fail); try go_wp2)
        go_ret
        exact ⟨by first | rfl | (simp [errW_none, errW_some] <;> rfl) | (simp [*, errW_none, errW_some] <;> rfl), by repeat (first | (with_reducible first | exact HB.out | apply below_alloc | apply pw_below_drewN | apply below_drew1) | exact HB.out)⟩
end Go.Proofs.YtflddgoapibleaaDoor.Esc

namespace Go.Proofs.YtflddgoapibleaaDoor.Esc
open Go.RowKit Go.Proofs.YtflddgoapibleaaDoor.Hand Go.Proofs.YtflddgoapibleaaDoorW.PrintWords Go.Proofs.YtflddgoapibleaaDoorW.PrintLast Go.Proofs.YtflddgoapibleaaDoorW.PrintMore
attribute [local go_sem] max2_int min2_int max_two min_two max_three min_three max_four min_four
set_option linter.unusedVariables false
set_option linter.unusedSimpArgs false
def galleyref23_Hex.l0 : Nat → List Int → ByteArray → Int → Option (ByteArray)
  | 0, _, _, _ => none
  | k + 1, x0, x3, x4 => if x4 < (x0.length : Int) then (if 0 ≤ x4 then ((galleyref23_two.f (rd x0 x4)).bind fun t434 => (if x3.size + t434.size ≤ 9223372036854775807 then (galleyref23_Hex.l0 k x0 (x3 ++ t434) (wrap64 (x4 + 1))) else (none))) else (none)) else (some x3)
def galleyref23_Hex.f (k : Nat) (l0 : List Int) : Option (ByteArray) := galleyref23_Hex.l0 k l0 (⟨#[]⟩ : ByteArray) 0
set_option maxHeartbeats 8000000 in
set_option maxRecDepth 100000 in
theorem galleyref23_Hex.calls (k : Nat) (A0 : Option Addr) (c0 : Nat) (l0 : List Int) (r : ByteArray) (w : World) (hr0 : Kd.C (Kd.int .u8) w A0 l0.length l0) (hc0 : l0.length ≤ c0) (h : galleyref23_Hex.f k l0 = some r) :
    Calls Tryd.prog 24 #[.slice A0 l0.length c0] w fun e w' => e = .returned (.string r) ∧ Below w.heap.size w w' := by
  have HR0 := Aside0.mk hr0
  have HC0 := Aside0.mk hc0
  clear hr0 hc0
  have HB := Aside0.mk (Below.refl w.heap.size w)
  have H : (galleyref23_Hex.l0 k l0 (⟨#[]⟩ : ByteArray) 0) = some r := h
  clear h
  have H' := Aside0.mk H
  clear H
  go_enter Tryd.func24, Tryd.ntmps24
  go_wp2
  go_loopg [3, 4] k (fun kq v3 v4 w' => ∃ (x3_1 : ByteArray) (x4_1 : Int), v3 = .string x3_1 ∧ v4 = .int .i64 x4_1 ∧ Aside0 (galleyref23_Hex.l0 kq l0 x3_1 x4_1 = some r) ∧ Aside0 (kq ≤ k) ∧ Aside0 (Below w.heap.size w w'))
  case atStart => exact ⟨((⟨#[]⟩ : ByteArray)), (0), (by first | rfl | (simp; done) | (simp [*]; done)), (by first | rfl | (simp; done) | (simp [*]; done)), H', ⟨Nat.le_refl _⟩, ⟨by repeat (first | (with_reducible first | exact HB.out | apply below_alloc | apply pw_below_drewN | apply below_drew1) | exact HB.out)⟩⟩
  case round =>
    clear H'
    obtain ⟨x3_1, x4_1, rfl, rfl, HA, HK1, HB⟩ := hrel
    cases gk with
    | zero => exact absurd HA.out (by simp [galleyref23_Hex.l0])
    | succ k1 =>
      have H := HA.out
      clear HA
      simp only [galleyref23_Hex.l0] at H
      by_cases c2 : x4_1 < (l0.length : Int)
      · rw [if_pos c2] at H
        have c2b0 : decide (x4_1 < (l0.length : Int)) = true := decide_eq_true c2
        clear c2
        by_cases c3 : 0 ≤ x4_1
        · rw [if_pos c3] at H
          have c3b0 : decide (0 ≤ x4_1) = true := decide_eq_true c3
          clear c3
          replace H := Option.bind_eq_some_iff.mp H
          obtain ⟨t434, A40, H⟩ := H
          replace H : (if x3_1.size + t434.size ≤ 9223372036854775807 then (galleyref23_Hex.l0 k1 l0 (x3_1 ++ t434) (wrap64 (x4_1 + 1))) else (none)) = some r := H
          have A4 := Aside0.mk A40
          clear A40
          by_cases c5 : x3_1.size + t434.size ≤ 9223372036854775807
          · rw [if_pos c5] at H
            have c5b0 := eq_true c5
            have c5b1 : decide (x3_1.size + t434.size ≤ 9223372036854775807) = true := decide_eq_true c5
            try have c5b2 : (9223372036854775807 < x3_1.size + t434.size) = False := eq_false (Nat.not_lt.2 c5)
            have H' := Aside0.mk H
            clear H
            have p433 : 0 ≤ (x4_1 : Int) := of_decide_eq_true (by first | (with_reducible assumption) | assumption)
            have q433 : x4_1 < (l0.length : Int) := of_decide_eq_true (by first | (with_reducible assumption) | assumption)
            obtain ⟨ad433, e433, hx433_0⟩ := Kd.at_int HR0.out x4_1 p433 q433
            cases e433
            replace hx433_0 := (HB.out.cell (World.block_lt_of_cell? w _ hx433_0)).trans hx433_0
            replace p433 := eq_true p433
            replace q433 := eq_true q433
            go_wp2_with (first | ((with_reducible refine gate_callee (f := 41) rfl ?_); refine goesL_ (some 16) rfl rfl Tryd.func41 (by kernel_rfl) rfl #[.int .u8 (rd l0 x4_1)] rfl (by (try simp only [List.map_toArray, List.map_cons, List.map_nil]); first | done | rfl | (simp only [List.length_drop, List.length_take]; rfl)) ?_; (with_reducible refine (galleyref23_two.calls (rd l0 x4_1) t434 _ A4.out).mono ?_); rintro e w6 ⟨rfl, hb⟩; refine ⟨_, rfl, ?_⟩; have n0_ := Aside0.mk (below_step (by repeat (first | (with_reducible first | exact HB.out | apply below_alloc | apply pw_below_drewN | apply below_drew1) | exact HB.out)) hb); clear HB; have HB := n0_; clear n0_; (try clear hb); (try clear hb2); (try clear hk); (try clear hi)))
            go_roundg k1
            case measure => have := HK1.out; omega
            case rel => exact ⟨(x3_1 ++ t434), (wrap64 (x4_1 + 1)), (by first | rfl | (simp; done) | (simp [*]; done)), (by first | rfl | (simp; done) | (simp [*]; done)), H', ⟨by have := HK1.out; omega⟩, ⟨by repeat (first | (with_reducible first | exact HB.out | apply below_alloc | apply pw_below_drewN | apply below_drew1) | exact HB.out)⟩⟩
          · rw [if_neg c5] at H
            exact absurd H (by simp)
        · rw [if_neg c3] at H
          exact absurd H (by simp)
      · rw [if_neg c2] at H
        have c2b0 : decide (x4_1 < (l0.length : Int)) = false := decide_eq_false c2
        clear c2
        obtain rfl := Option.some.inj H
        go_wp2
        go_ret
        exact ⟨by first | rfl | (simp [errW_none, errW_some] <;> rfl) | (simp [*, errW_none, errW_some] <;> rfl), by repeat (first | (with_reducible first | exact HB.out | apply below_alloc | apply pw_below_drewN | apply below_drew1) | exact HB.out)⟩
end Go.Proofs.YtflddgoapibleaaDoor.Esc
