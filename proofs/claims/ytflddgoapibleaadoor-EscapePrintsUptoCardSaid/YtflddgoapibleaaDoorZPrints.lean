/- EscapePrints of chapter 23, where what is read is of bulk at most 1048576: Quote's bytes can be printed; of two lists by their steps. -/
import Derived.Test.YtflddgoapibleaaDoorWalk1
import Derived.Test.YtflddgoapibleaaDoorWalk2
import Derived.Test.YtflddgoapibleaaDoorPlain1
import Derived.Test.YtflddgoapibleaaDoorCards
import Derived.Test.YtflddgoapibleaaDoorTie
set_option linter.unusedVariables false
set_option linter.unusedSimpArgs false
namespace Go.Proofs.YtflddgoapibleaaDoor.Esc
open Go.RowKit Go.Proofs.YtflddgoapibleaaDoor.Hand Go.Proofs.YtflddgoapibleaaDoorW.PrintWords Go.Proofs.YtflddgoapibleaaDoorW.PrintLast Go.Proofs.YtflddgoapibleaaDoorW.PrintMore
attribute [local go_sem] max2_int min2_int max_two min_two max_three min_three max_four min_four   -- for this text's walks alone
set_option linter.unusedVariables false
set_option linter.unusedSimpArgs false

/-! ### galleylaw23_EscapePrints: function 3 -/
def galleylaw23_EscapePrints.l0 : Nat → List Int → List Int → List Int → ByteArray → Int → Option (Bool)
  | 0, _, _, _, _, _ => none
  | k + 1, x0, x1, x5, x6, x7 => if x7 < (x6.size : Int) then (if 0 ≤ x7 then (if (bt x6 x7) < 32 then (some false) else (if (bt x6 x7) > 126 then (some false) else (galleylaw23_EscapePrints.l0 k x0 x1 x5 x6 (wrap64 (x7 + 1))))) else (none)) else ((galleylaw23_own.f x0).bind fun t172 => ((escape_Quote.f t172).bind fun t175 => ((galleylaw23_own.f x1).bind fun t176 => ((escape_Quote.f t176).bind fun t179 => (if t175.size + t179.size ≤ 9223372036854775807 then ((galleylaw23_count.f x5).bind fun t180 => ((galleylaw23_count.f x0).bind fun t181 => ((galleylaw23_count.f x1).bind fun t182 => (some ((x6.toList == (t175 ++ t179).toList) == (t180 == (wrap64 (t181 + t182)))))))) else (none))))))
def galleylaw23_EscapePrints.f (k : Nat) (l0 : List Int) (l1 : List Int) : Option (Bool) := (galleylaw23_awake.f k).bind fun t164 => (if t164 = true then ((galleylaw23_own.f l0).bind fun t165 => (if t165.length + l1.length < 140737488355328 then ((some (t165 ++ l1 : List Int)).bind fun y168 => ((escape_Quote.f y168).bind fun t171 => (galleylaw23_EscapePrints.l0 k l0 l1 y168 t171 0))) else (none))) else (some false))
theorem galleylaw23_EscapePrints.mono_l : ∀ k, (∀ y0 y1 y2 y3 y4, LeO (galleylaw23_EscapePrints.l0 k y0 y1 y2 y3 y4) (galleylaw23_EscapePrints.l0 (k + 1) y0 y1 y2 y3 y4))
  | 0 => fun _ _ _ _ _ r h => by simp [galleylaw23_EscapePrints.l0] at h
  | k + 1 => by
    have ih0 := galleylaw23_EscapePrints.mono_l k
    · intro y0 y1 y2 y3 y4
      unfold galleylaw23_EscapePrints.l0
      repeat' first
      | (with_reducible exact ih0 _ _ _ _ _)
      | (with_reducible exact galleylaw23_awake.mono _)
      | (with_reducible exact LeO.refl _)
      | (with_reducible exact LeO.none _)
      | (with_reducible refine LeO.ite ?_ ?_)
      | (with_reducible refine LeO.bind ?_ (fun _ => ?_))
      | exact ih0 _ _ _ _ _
      | exact galleylaw23_awake.mono _
      | exact LeO.none _
      | refine LeO.ite ?_ ?_
      | refine LeO.bind ?_ (fun _ => ?_)
theorem galleylaw23_EscapePrints.mono : ∀ a0 a1 k, LeO (galleylaw23_EscapePrints.f k a0 a1) (galleylaw23_EscapePrints.f (k + 1) a0 a1) := by
  intro a0 a1 k
  have ih0 := galleylaw23_EscapePrints.mono_l k
  unfold galleylaw23_EscapePrints.f
  repeat' first
      | (with_reducible exact ih0 _ _ _ _ _)
      | (with_reducible exact galleylaw23_awake.mono _)
      | (with_reducible exact LeO.refl _)
      | (with_reducible exact LeO.none _)
      | (with_reducible refine LeO.ite ?_ ?_)
      | (with_reducible refine LeO.bind ?_ (fun _ => ?_))
      | exact ih0 _ _ _ _ _
      | exact galleylaw23_awake.mono _
      | exact LeO.none _
      | refine LeO.ite ?_ ?_
      | refine LeO.bind ?_ (fun _ => ?_)
set_option maxHeartbeats 8000000 in
set_option maxRecDepth 100000 in
theorem galleylaw23_EscapePrints.calls (k : Nat) (A0 : Option Addr) (c0 : Nat) (l0 : List Int) (A1 : Option Addr) (c1 : Nat) (l1 : List Int) (r : Bool) (w : World) (hG : Globs w) (hr0 : Kd.C (Kd.int .u8) w A0 l0.length l0) (hc0 : l0.length ≤ c0) (hr1 : Kd.C (Kd.int .u8) w A1 l1.length l1) (hc1 : l1.length ≤ c1) (h : galleylaw23_EscapePrints.f k l0 l1 = some r) :
    Calls Tryd.prog 3 #[.slice A0 l0.length c0, .slice A1 l1.length c1] w fun e w' => e = .returned (.bool r) ∧ Below w.heap.size w w' := by
  have HR0 := Aside0.mk hr0
  have HC0 := Aside0.mk hc0
  clear hr0 hc0
  have HR1 := Aside0.mk hr1
  have HC1 := Aside0.mk hc1
  clear hr1 hc1
  have HG := Aside0.mk hG
  clear hG
  have HB := Aside0.mk (Below.refl w.heap.size w)
  have H : ((galleylaw23_awake.f k).bind fun t164 => (if t164 = true then ((galleylaw23_own.f l0).bind fun t165 => (if t165.length + l1.length < 140737488355328 then ((some (t165 ++ l1 : List Int)).bind fun y168 => ((escape_Quote.f y168).bind fun t171 => (galleylaw23_EscapePrints.l0 k l0 l1 y168 t171 0))) else (none))) else (some false))) = some r := h
  clear h
  replace H := Option.bind_eq_some_iff.mp H
  obtain ⟨t164, A30, H⟩ := H
  replace H : (if t164 = true then ((galleylaw23_own.f l0).bind fun t165 => (if t165.length + l1.length < 140737488355328 then ((some (t165 ++ l1 : List Int)).bind fun y168 => ((escape_Quote.f y168).bind fun t171 => (galleylaw23_EscapePrints.l0 k l0 l1 y168 t171 0))) else (none))) else (some false)) = some r := H
  have A3 := Aside0.mk A30
  clear A30
  by_cases c4 : t164 = true
  · subst c4
    have H1 : ((galleylaw23_own.f l0).bind fun t165 => (if t165.length + l1.length < 140737488355328 then ((some (t165 ++ l1 : List Int)).bind fun y168 => ((escape_Quote.f y168).bind fun t171 => (galleylaw23_EscapePrints.l0 k l0 l1 y168 t171 0))) else (none))) = some r := by rw [if_pos rfl] at H; exact H
    clear H
    have H := H1
    clear H1
    replace H := Option.bind_eq_some_iff.mp H
    obtain ⟨t165, A50, H⟩ := H
    replace H : (if t165.length + l1.length < 140737488355328 then ((some (t165 ++ l1 : List Int)).bind fun y168 => ((escape_Quote.f y168).bind fun t171 => (galleylaw23_EscapePrints.l0 k l0 l1 y168 t171 0))) else (none)) = some r := H
    have A5 := Aside0.mk A50
    clear A50
    by_cases c6 : t165.length + l1.length < 140737488355328
    · rw [if_pos c6] at H
      have LMc6 := Aside0.mk c6
      clear c6
      obtain ⟨y168, hy168⟩ : ∃ y_ : List Int, y_ = (t165 ++ l1) := ⟨_, rfl⟩
      replace H : ((escape_Quote.f y168).bind fun t171 => (galleylaw23_EscapePrints.l0 k l0 l1 y168 t171 0)) = some r := by first | (rw [hy168]; with_reducible exact H) | (have H2_ := (Option.bind_some _ _).symm.trans H; rw [hy168]; with_reducible exact H2_) | (have H2_ := (Option.bind_some _ _).symm.trans H; with_reducible exact H2_) | with_reducible exact H | (rw [hy168]; exact H) | exact H
      have Ny168 := Aside0.mk hy168
      clear hy168
      replace H := Option.bind_eq_some_iff.mp H
      obtain ⟨t171, A70, H⟩ := H
      replace H : (galleylaw23_EscapePrints.l0 k l0 l1 y168 t171 0) = some r := H
      have A7 := Aside0.mk A70
      clear A70
      have H' := Aside0.mk H
      clear H
      go_enter Tryd.func3, Tryd.ntmps3
      go_wp2_with (first | ((with_reducible refine gate_callee (f := 11) rfl ?_); refine goesL_ (some 9) rfl rfl Tryd.func11 (by kernel_rfl) rfl #[] rfl (by (try simp only [List.map_toArray, List.map_cons, List.map_nil]); first | done | rfl | (simp only [List.length_drop, List.length_take]; rfl)) ?_; (with_reducible refine (galleylaw23_awake.calls k  true _ ?side1 A3.out).mono ?_); (case side1 => exact Globs.below HG.out (by repeat (first | (with_reducible first | exact HB.out | apply below_alloc | apply pw_below_drewN | apply below_drew1) | exact HB.out))); rintro e w8 ⟨rfl, hb⟩; refine ⟨_, rfl, ?_⟩; have n0_ := Aside0.mk (below_step (by repeat (first | (with_reducible first | exact HB.out | apply below_alloc | apply pw_below_drewN | apply below_drew1) | exact HB.out)) hb); clear HB; have HB := n0_; clear n0_; (try clear hb); (try clear hb2); (try clear hk); (try clear hi)) | ((with_reducible refine gate_callee (f := 12) rfl ?_); refine goesL_ (some 12) rfl rfl Tryd.func12 (by kernel_rfl) rfl #[.slice A0 l0.length c0] rfl (by (try simp only [List.map_toArray, List.map_cons, List.map_nil]); first | done | rfl | (simp only [List.length_drop, List.length_take]; rfl)) ?_; (with_reducible refine (galleylaw23_own.calls _ _ l0 t165 _ ?side1 ?side2 A5.out).mono ?_); (case side1 => repeat (first | exact (Kd.C_below HR0.out HB.out) | (with_reducible refine Kd.C_alloc ?_ _) | (with_reducible refine Kd.C_drewN ?_ _) | (with_reducible refine Kd.C_drew ?_))); (case side2 => exact HC0.out); rintro e w9 ⟨v166, rfl, ho0, hb⟩; refine ⟨_, rfl, ?_⟩; have n0_ := Aside0.mk (Kd.R_lower ho0 (below_size (by repeat (first | (with_reducible first | exact HB.out | apply below_alloc | apply pw_below_drewN | apply below_drew1) | exact HB.out)))); have n1_ := Aside0.mk (below_step (by repeat (first | (with_reducible first | exact HB.out | apply below_alloc | apply pw_below_drewN | apply below_drew1) | exact HB.out)) hb); clear HB; have HO167 := n0_; have HB := n1_; clear n0_ n1_; (try clear hb); (try clear hb2); (try clear hk); (try clear hi); (try clear ho0)) | ((with_reducible refine gate_builtin (b := .append) (xs := #[.tmp 12, .tmp 13]) rfl ?_); at_builtin; refine Kd.R_append_rows (Kd.int .u8) (w0 := w) w.heap.size rfl (.tmp 12) (.tmp 13) 22 5 (.int .u8 0) 1 rfl Tryd.underlying22 info5 rfl (by decide) (by omega) v166 t165 l1 _ _ _ (fun _ => True) (fun _ => False) rfl rfl ?aO ?aR (fun _ _ h => h) (fun _ h => h.elim) ?aF ?aB ?aS ?aL ?_; (case aR => repeat (first | exact (Kd.C_below HR1.out HB.out) | (with_reducible refine Kd.C_alloc ?_ _) | (with_reducible refine Kd.C_drewN ?_ _) | (with_reducible refine Kd.C_drew ?_))); (case aB => exact (by repeat (first | (with_reducible first | exact HB.out | apply below_alloc | apply pw_below_drewN | apply below_drew1) | exact HB.out))); (case aF => exact (fun _ _ => trivial)); (case aO => exact (by (with_reducible repeat (first | apply Kd.R_alloc | apply Kd.R_drewN | apply Kd.R_drew)); exact HO167.out)); (case aS => exact (below_size (by repeat (first | (with_reducible first | exact HB.out | apply below_alloc | apply pw_below_drewN | apply below_drew1) | exact HB.out)))); (case aL => have := LMc6.out; omega); intro v169 w10 ho hb hg hat; rw [← Ny168.out] at ho; have n0_ := Aside0.mk (hb); have n1_ := Aside0.mk (ho); clear HB; clear HO167; have HB := n0_; have HO170 := n1_; clear n0_ n1_; clear ho hb hg hat; obtain ⟨Ao11, co11, eo11⟩ := Kd.R_slice HO170.out; subst eo11) | ((with_reducible refine gate_callee (f := 13) rfl ?_); refine goesL_ (some 16) rfl rfl Tryd.func13 (by kernel_rfl) rfl #[.slice Ao11 y168.length co11] rfl (by (try simp only [List.map_toArray, List.map_cons, List.map_nil]); first | done | rfl | (simp only [List.length_drop, List.length_take]; rfl)) ?_; (with_reducible refine (escape_Quote.calls _ _ y168 t171 _ ?side1 ?side2 ?side3 A7.out).mono ?_); (case side1 => exact Globs.below HG.out (by repeat (first | (with_reducible first | exact HB.out | apply below_alloc | apply pw_below_drewN | apply below_drew1) | exact HB.out))); (case side2 => repeat (first | exact (Kd.R_reads' HO170.out).2.2 | (with_reducible refine Kd.C_alloc ?_ _) | (with_reducible refine Kd.C_drewN ?_ _) | (with_reducible refine Kd.C_drew ?_))); (case side3 => exact (Kd.R_reads' HO170.out).2.1); rintro e w12 ⟨rfl, hb⟩; refine ⟨_, rfl, ?_⟩; have n0_ := Aside0.mk (Kd.R_below (by (with_reducible repeat (first | apply Kd.R_alloc | apply Kd.R_drewN | apply Kd.R_drew)); exact HO170.out) hb); have n1_ := Aside0.mk (below_step (by repeat (first | (with_reducible first | exact HB.out | apply below_alloc | apply pw_below_drewN | apply below_drew1) | exact HB.out)) hb); clear HO170; clear HB; have HO170 := n0_; have HB := n1_; clear n0_ n1_; (try clear hb); (try clear hb2); (try clear hk); (try clear hi)))
      go_loopg [7] k (fun kq v7 w' => ∃ (x7_1 : Int), v7 = .int .i64 x7_1 ∧ Aside0 (galleylaw23_EscapePrints.l0 kq l0 l1 y168 t171 x7_1 = some r) ∧ Aside0 (kq ≤ k) ∧ Aside0 (Kd.R (Kd.int .u8) 5 w' w.heap.size (fun _ => True) (.slice Ao11 y168.length co11) y168) ∧ Aside0 (Below w.heap.size w w'))
      case atStart => exact ⟨(0), (by first | rfl | (simp; done) | (simp [*]; done)), H', ⟨Nat.le_refl _⟩, ⟨by (with_reducible repeat (first | apply Kd.R_alloc | apply Kd.R_drewN | apply Kd.R_drew)); exact HO170.out⟩, ⟨by repeat (first | (with_reducible first | exact HB.out | apply below_alloc | apply pw_below_drewN | apply below_drew1) | exact HB.out)⟩⟩
      case round =>
        clear H'
        try clear c1
        try clear p2
        try clear c3
        try clear c4
        try clear c6
        try clear c11
        try clear c12
        obtain ⟨x7_1, rfl, HA, HK1, HO_5, HB⟩ := hrel
        cases gk with
        | zero => exact absurd HA.out (by simp [galleylaw23_EscapePrints.l0])
        | succ k1 =>
          have H := HA.out
          clear HA
          simp only [galleylaw23_EscapePrints.l0] at H
          by_cases c13 : x7_1 < (t171.size : Int)
          · rw [if_pos c13] at H
            have c13b0 : decide (x7_1 < (t171.size : Int)) = true := decide_eq_true c13
            clear c13
            by_cases c14 : 0 ≤ x7_1
            · rw [if_pos c14] at H
              have c14b0 : decide (0 ≤ x7_1) = true := decide_eq_true c14
              clear c14
              by_cases c16 : (bt t171 x7_1) < 32
              · rw [if_pos c16] at H
                have c16b0 : decide ((bt t171 x7_1) < 32) = true := decide_eq_true c16
                clear c16
                obtain rfl := Option.some.inj H
                have p15 : 0 ≤ (x7_1 : Int) := of_decide_eq_true (by first | (with_reducible assumption) | assumption)
                have q15 : x7_1 < (t171.size : Int) := of_decide_eq_true (by first | (with_reducible assumption) | assumption)
                have hx15 := bt_at t171 x7_1
                replace p15 := eq_true p15
                replace q15 := eq_true q15
                go_wp2
                go_ret
                exact ⟨by first | rfl | (simp [errW_none, errW_some] <;> rfl) | (simp [*, errW_none, errW_some] <;> rfl), by repeat (first | (with_reducible first | exact HB.out | apply below_alloc | apply pw_below_drewN | apply below_drew1) | exact HB.out)⟩
              · rw [if_neg c16] at H
                have c16b0 : decide ((bt t171 x7_1) < 32) = false := decide_eq_false c16
                clear c16
                by_cases c18 : (bt t171 x7_1) > 126
                · rw [if_pos c18] at H
                  have c18b0 : decide (126 < (bt t171 x7_1)) = true := decide_eq_true c18
                  clear c18
                  obtain rfl := Option.some.inj H
                  have p15 : 0 ≤ (x7_1 : Int) := of_decide_eq_true (by first | (with_reducible assumption) | assumption)
                  have q15 : x7_1 < (t171.size : Int) := of_decide_eq_true (by first | (with_reducible assumption) | assumption)
                  have hx15 := bt_at t171 x7_1
                  replace p15 := eq_true p15
                  replace q15 := eq_true q15
                  have p17 : 0 ≤ (x7_1 : Int) := of_decide_eq_true (by first | (with_reducible assumption) | assumption)
                  have q17 : x7_1 < (t171.size : Int) := of_decide_eq_true (by first | (with_reducible assumption) | assumption)
                  have hx17 := bt_at t171 x7_1
                  replace p17 := eq_true p17
                  replace q17 := eq_true q17
                  go_wp2
                  go_ret
                  exact ⟨by first | rfl | (simp [errW_none, errW_some] <;> rfl) | (simp [*, errW_none, errW_some] <;> rfl), by repeat (first | (with_reducible first | exact HB.out | apply below_alloc | apply pw_below_drewN | apply below_drew1) | exact HB.out)⟩
                · rw [if_neg c18] at H
                  have c18b0 : decide (126 < (bt t171 x7_1)) = false := decide_eq_false c18
                  clear c18
                  have H' := Aside0.mk H
                  clear H
                  have p15 : 0 ≤ (x7_1 : Int) := of_decide_eq_true (by first | (with_reducible assumption) | assumption)
                  have q15 : x7_1 < (t171.size : Int) := of_decide_eq_true (by first | (with_reducible assumption) | assumption)
                  have hx15 := bt_at t171 x7_1
                  replace p15 := eq_true p15
                  replace q15 := eq_true q15
                  have p17 : 0 ≤ (x7_1 : Int) := of_decide_eq_true (by first | (with_reducible assumption) | assumption)
                  have q17 : x7_1 < (t171.size : Int) := of_decide_eq_true (by first | (with_reducible assumption) | assumption)
                  have hx17 := bt_at t171 x7_1
                  replace p17 := eq_true p17
                  replace q17 := eq_true q17
                  go_wp2
                  go_roundg k1
                  case measure => have := HK1.out; omega
                  case rel => exact ⟨(wrap64 (x7_1 + 1)), (by first | rfl | (simp; done) | (simp [*]; done)), H', ⟨by have := HK1.out; omega⟩, ⟨by (with_reducible repeat (first | apply Kd.R_alloc | apply Kd.R_drewN | apply Kd.R_drew)); exact HO_5.out⟩, ⟨by repeat (first | (with_reducible first | exact HB.out | apply below_alloc | apply pw_below_drewN | apply below_drew1) | exact HB.out)⟩⟩
            · rw [if_neg c14] at H
              exact absurd H (by simp)
          · rw [if_neg c13] at H
            have c13b0 : decide (x7_1 < (t171.size : Int)) = false := decide_eq_false c13
            clear c13
            replace H := Option.bind_eq_some_iff.mp H
            obtain ⟨t172, A190, H⟩ := H
            replace H : ((escape_Quote.f t172).bind fun t175 => ((galleylaw23_own.f l1).bind fun t176 => ((escape_Quote.f t176).bind fun t179 => (if t175.size + t179.size ≤ 9223372036854775807 then ((galleylaw23_count.f y168).bind fun t180 => ((galleylaw23_count.f l0).bind fun t181 => ((galleylaw23_count.f l1).bind fun t182 => (some ((t171.toList == (t175 ++ t179).toList) == (t180 == (wrap64 (t181 + t182)))))))) else (none))))) = some r := H
            have A19 := Aside0.mk A190
            clear A190
            replace H := Option.bind_eq_some_iff.mp H
            obtain ⟨t175, A200, H⟩ := H
            replace H : ((galleylaw23_own.f l1).bind fun t176 => ((escape_Quote.f t176).bind fun t179 => (if t175.size + t179.size ≤ 9223372036854775807 then ((galleylaw23_count.f y168).bind fun t180 => ((galleylaw23_count.f l0).bind fun t181 => ((galleylaw23_count.f l1).bind fun t182 => (some ((t171.toList == (t175 ++ t179).toList) == (t180 == (wrap64 (t181 + t182)))))))) else (none)))) = some r := H
            have A20 := Aside0.mk A200
            clear A200
            replace H := Option.bind_eq_some_iff.mp H
            obtain ⟨t176, A210, H⟩ := H
            replace H : ((escape_Quote.f t176).bind fun t179 => (if t175.size + t179.size ≤ 9223372036854775807 then ((galleylaw23_count.f y168).bind fun t180 => ((galleylaw23_count.f l0).bind fun t181 => ((galleylaw23_count.f l1).bind fun t182 => (some ((t171.toList == (t175 ++ t179).toList) == (t180 == (wrap64 (t181 + t182)))))))) else (none))) = some r := H
            have A21 := Aside0.mk A210
            clear A210
            replace H := Option.bind_eq_some_iff.mp H
            obtain ⟨t179, A220, H⟩ := H
            replace H : (if t175.size + t179.size ≤ 9223372036854775807 then ((galleylaw23_count.f y168).bind fun t180 => ((galleylaw23_count.f l0).bind fun t181 => ((galleylaw23_count.f l1).bind fun t182 => (some ((t171.toList == (t175 ++ t179).toList) == (t180 == (wrap64 (t181 + t182)))))))) else (none)) = some r := H
            have A22 := Aside0.mk A220
            clear A220
            by_cases c23 : t175.size + t179.size ≤ 9223372036854775807
            · rw [if_pos c23] at H
              have c23b0 := eq_true c23
              have c23b1 : decide (t175.size + t179.size ≤ 9223372036854775807) = true := decide_eq_true c23
              try have c23b2 : (9223372036854775807 < t175.size + t179.size) = False := eq_false (Nat.not_lt.2 c23)
              replace H := Option.bind_eq_some_iff.mp H
              obtain ⟨t180, A240, H⟩ := H
              replace H : ((galleylaw23_count.f l0).bind fun t181 => ((galleylaw23_count.f l1).bind fun t182 => (some ((t171.toList == (t175 ++ t179).toList) == (t180 == (wrap64 (t181 + t182))))))) = some r := H
              have A24 := Aside0.mk A240
              clear A240
              replace H := Option.bind_eq_some_iff.mp H
              obtain ⟨t181, A250, H⟩ := H
              replace H : ((galleylaw23_count.f l1).bind fun t182 => (some ((t171.toList == (t175 ++ t179).toList) == (t180 == (wrap64 (t181 + t182)))))) = some r := H
              have A25 := Aside0.mk A250
              clear A250
              replace H := Option.bind_eq_some_iff.mp H
              obtain ⟨t182, A260, H⟩ := H
              replace H : (some ((t171.toList == (t175 ++ t179).toList) == (t180 == (wrap64 (t181 + t182))))) = some r := H
              have A26 := Aside0.mk A260
              clear A260
              obtain rfl := Option.some.inj H
              go_wp2_with (first | ((with_reducible refine gate_callee (f := 12) rfl ?_); refine goesL_ (some 34) rfl rfl Tryd.func12 (by kernel_rfl) rfl #[.slice A0 l0.length c0] rfl (by (try simp only [List.map_toArray, List.map_cons, List.map_nil]); first | done | rfl | (simp only [List.length_drop, List.length_take]; rfl)) ?_; (with_reducible refine (galleylaw23_own.calls _ _ l0 t172 _ ?side1 ?side2 A19.out).mono ?_); (case side1 => repeat (first | exact (Kd.C_below HR0.out HB.out) | (with_reducible refine Kd.C_alloc ?_ _) | (with_reducible refine Kd.C_drewN ?_ _) | (with_reducible refine Kd.C_drew ?_))); (case side2 => exact HC0.out); rintro e w27 ⟨v173, rfl, ho0, hb⟩; refine ⟨_, rfl, ?_⟩; have n0_ := Aside0.mk (Kd.R_elder' (by (with_reducible repeat (first | apply Kd.R_alloc | apply Kd.R_drewN | apply Kd.R_drew)); exact HO_5.out) (Kd.R_base ho0) hb); have n1_ := Aside0.mk (Kd.R_lower (Kd.R_new' ho0 (Kd.R_lt (by (with_reducible repeat (first | apply Kd.R_alloc | apply Kd.R_drewN | apply Kd.R_drew)); exact HO_5.out))) (below_size (by repeat (first | (with_reducible first | exact HB.out | apply below_alloc | apply pw_below_drewN | apply below_drew1) | exact HB.out)))); have n2_ := Aside0.mk (below_step (by repeat (first | (with_reducible first | exact HB.out | apply below_alloc | apply pw_below_drewN | apply below_drew1) | exact HB.out)) hb); clear HO_5; clear HB; have HO_5 := n0_; have HO174 := n1_; have HB := n2_; clear n0_ n1_ n2_; (try clear hb); (try clear hb2); (try clear hk); (try clear hi); (try clear ho0); obtain ⟨Ao28, co28, eo28⟩ := Kd.R_slice HO174.out; subst eo28) | ((with_reducible refine gate_callee (f := 13) rfl ?_); refine goesL_ (some 35) rfl rfl Tryd.func13 (by kernel_rfl) rfl #[.slice Ao28 t172.length co28] rfl (by (try simp only [List.map_toArray, List.map_cons, List.map_nil]); first | done | rfl | (simp only [List.length_drop, List.length_take]; rfl)) ?_; (with_reducible refine (escape_Quote.calls _ _ t172 t175 _ ?side1 ?side2 ?side3 A20.out).mono ?_); (case side1 => exact Globs.below HG.out (by repeat (first | (with_reducible first | exact HB.out | apply below_alloc | apply pw_below_drewN | apply below_drew1) | exact HB.out))); (case side2 => repeat (first | exact (Kd.R_reads' HO174.out).2.2 | (with_reducible refine Kd.C_alloc ?_ _) | (with_reducible refine Kd.C_drewN ?_ _) | (with_reducible refine Kd.C_drew ?_))); (case side3 => exact (Kd.R_reads' HO174.out).2.1); rintro e w29 ⟨rfl, hb⟩; refine ⟨_, rfl, ?_⟩; have n0_ := Aside0.mk (Kd.R_below (by (with_reducible repeat (first | apply Kd.R_alloc | apply Kd.R_drewN | apply Kd.R_drew)); exact HO_5.out) hb); have n1_ := Aside0.mk (Kd.R_below (by (with_reducible repeat (first | apply Kd.R_alloc | apply Kd.R_drewN | apply Kd.R_drew)); exact HO174.out) hb); have n2_ := Aside0.mk (below_step (by repeat (first | (with_reducible first | exact HB.out | apply below_alloc | apply pw_below_drewN | apply below_drew1) | exact HB.out)) hb); clear HO_5; clear HO174; clear HB; have HO_5 := n0_; have HO174 := n1_; have HB := n2_; clear n0_ n1_ n2_; (try clear hb); (try clear hb2); (try clear hk); (try clear hi)) | ((with_reducible refine gate_callee (f := 12) rfl ?_); refine goesL_ (some 37) rfl rfl Tryd.func12 (by kernel_rfl) rfl #[.slice A1 l1.length c1] rfl (by (try simp only [List.map_toArray, List.map_cons, List.map_nil]); first | done | rfl | (simp only [List.length_drop, List.length_take]; rfl)) ?_; (with_reducible refine (galleylaw23_own.calls _ _ l1 t176 _ ?side1 ?side2 A21.out).mono ?_); (case side1 => repeat (first | exact (Kd.C_below HR1.out HB.out) | (with_reducible refine Kd.C_alloc ?_ _) | (with_reducible refine Kd.C_drewN ?_ _) | (with_reducible refine Kd.C_drew ?_))); (case side2 => exact HC1.out); rintro e w30 ⟨v177, rfl, ho0, hb⟩; refine ⟨_, rfl, ?_⟩; have n0_ := Aside0.mk (Kd.R_elder' (by (with_reducible repeat (first | apply Kd.R_alloc | apply Kd.R_drewN | apply Kd.R_drew)); exact HO_5.out) (Kd.R_base ho0) hb); have n1_ := Aside0.mk (Kd.R_elder' (by (with_reducible repeat (first | apply Kd.R_alloc | apply Kd.R_drewN | apply Kd.R_drew)); exact HO174.out) (Kd.R_base ho0) hb); have n2_ := Aside0.mk (Kd.R_lower (Kd.R_new' (Kd.R_new' ho0 (Kd.R_lt (by (with_reducible repeat (first | apply Kd.R_alloc | apply Kd.R_drewN | apply Kd.R_drew)); exact HO_5.out))) (Kd.R_lt (by (with_reducible repeat (first | apply Kd.R_alloc | apply Kd.R_drewN | apply Kd.R_drew)); exact HO174.out))) (below_size (by repeat (first | (with_reducible first | exact HB.out | apply below_alloc | apply pw_below_drewN | apply below_drew1) | exact HB.out)))); have n3_ := Aside0.mk (below_step (by repeat (first | (with_reducible first | exact HB.out | apply below_alloc | apply pw_below_drewN | apply below_drew1) | exact HB.out)) hb); clear HO_5; clear HO174; clear HB; have HO_5 := n0_; have HO174 := n1_; have HO178 := n2_; have HB := n3_; clear n0_ n1_ n2_ n3_; (try clear hb); (try clear hb2); (try clear hk); (try clear hi); (try clear ho0); obtain ⟨Ao31, co31, eo31⟩ := Kd.R_slice HO178.out; subst eo31) | ((with_reducible refine gate_callee (f := 13) rfl ?_); refine goesL_ (some 38) rfl rfl Tryd.func13 (by kernel_rfl) rfl #[.slice Ao31 t176.length co31] rfl (by (try simp only [List.map_toArray, List.map_cons, List.map_nil]); first | done | rfl | (simp only [List.length_drop, List.length_take]; rfl)) ?_; (with_reducible refine (escape_Quote.calls _ _ t176 t179 _ ?side1 ?side2 ?side3 A22.out).mono ?_); (case side1 => exact Globs.below HG.out (by repeat (first | (with_reducible first | exact HB.out | apply below_alloc | apply pw_below_drewN | apply below_drew1) | exact HB.out))); (case side2 => repeat (first | exact (Kd.R_reads' HO178.out).2.2 | (with_reducible refine Kd.C_alloc ?_ _) | (with_reducible refine Kd.C_drewN ?_ _) | (with_reducible refine Kd.C_drew ?_))); (case side3 => exact (Kd.R_reads' HO178.out).2.1); rintro e w32 ⟨rfl, hb⟩; refine ⟨_, rfl, ?_⟩; have n0_ := Aside0.mk (Kd.R_below (by (with_reducible repeat (first | apply Kd.R_alloc | apply Kd.R_drewN | apply Kd.R_drew)); exact HO_5.out) hb); have n1_ := Aside0.mk (Kd.R_below (by (with_reducible repeat (first | apply Kd.R_alloc | apply Kd.R_drewN | apply Kd.R_drew)); exact HO174.out) hb); have n2_ := Aside0.mk (Kd.R_below (by (with_reducible repeat (first | apply Kd.R_alloc | apply Kd.R_drewN | apply Kd.R_drew)); exact HO178.out) hb); have n3_ := Aside0.mk (below_step (by repeat (first | (with_reducible first | exact HB.out | apply below_alloc | apply pw_below_drewN | apply below_drew1) | exact HB.out)) hb); clear HO_5; clear HO174; clear HO178; clear HB; have HO_5 := n0_; have HO174 := n1_; have HO178 := n2_; have HB := n3_; clear n0_ n1_ n2_ n3_; (try clear hb); (try clear hb2); (try clear hk); (try clear hi)) | ((with_reducible refine gate_callee (f := 14) rfl ?_); refine goesL_ (some 44) rfl rfl Tryd.func14 (by kernel_rfl) rfl #[.slice Ao11 y168.length co11] rfl (by (try simp only [List.map_toArray, List.map_cons, List.map_nil]); first | done | rfl | (simp only [List.length_drop, List.length_take]; rfl)) ?_; (with_reducible refine (galleylaw23_count.calls _ _ y168 t180 _ ?side1 ?side2 A24.out).mono ?_); (case side1 => repeat (first | exact (Kd.R_reads' HO_5.out).2.2 | (with_reducible refine Kd.C_alloc ?_ _) | (with_reducible refine Kd.C_drewN ?_ _) | (with_reducible refine Kd.C_drew ?_))); (case side2 => exact (Kd.R_reads' HO_5.out).2.1); rintro e w33 ⟨rfl, hb⟩; refine ⟨_, rfl, ?_⟩; have n0_ := Aside0.mk (Kd.R_below (by (with_reducible repeat (first | apply Kd.R_alloc | apply Kd.R_drewN | apply Kd.R_drew)); exact HO_5.out) hb); have n1_ := Aside0.mk (Kd.R_below (by (with_reducible repeat (first | apply Kd.R_alloc | apply Kd.R_drewN | apply Kd.R_drew)); exact HO174.out) hb); have n2_ := Aside0.mk (Kd.R_below (by (with_reducible repeat (first | apply Kd.R_alloc | apply Kd.R_drewN | apply Kd.R_drew)); exact HO178.out) hb); have n3_ := Aside0.mk (below_step (by repeat (first | (with_reducible first | exact HB.out | apply below_alloc | apply pw_below_drewN | apply below_drew1) | exact HB.out)) hb); clear HO_5; clear HO174; clear HO178; clear HB; have HO_5 := n0_; have HO174 := n1_; have HO178 := n2_; have HB := n3_; clear n0_ n1_ n2_ n3_; (try clear hb); (try clear hb2); (try clear hk); (try clear hi)) | ((with_reducible refine gate_callee (f := 14) rfl ?_); refine goesL_ (some 46) rfl rfl Tryd.func14 (by kernel_rfl) rfl #[.slice A0 l0.length c0] rfl (by (try simp only [List.map_toArray, List.map_cons, List.map_nil]); first | done | rfl | (simp only [List.length_drop, List.length_take]; rfl)) ?_; (with_reducible refine (galleylaw23_count.calls _ _ l0 t181 _ ?side1 ?side2 A25.out).mono ?_); (case side1 => repeat (first | exact (Kd.C_below HR0.out HB.out) | (with_reducible refine Kd.C_alloc ?_ _) | (with_reducible refine Kd.C_drewN ?_ _) | (with_reducible refine Kd.C_drew ?_))); (case side2 => exact HC0.out); rintro e w34 ⟨rfl, hb⟩; refine ⟨_, rfl, ?_⟩; have n0_ := Aside0.mk (Kd.R_below (by (with_reducible repeat (first | apply Kd.R_alloc | apply Kd.R_drewN | apply Kd.R_drew)); exact HO_5.out) hb); have n1_ := Aside0.mk (Kd.R_below (by (with_reducible repeat (first | apply Kd.R_alloc | apply Kd.R_drewN | apply Kd.R_drew)); exact HO174.out) hb); have n2_ := Aside0.mk (Kd.R_below (by (with_reducible repeat (first | apply Kd.R_alloc | apply Kd.R_drewN | apply Kd.R_drew)); exact HO178.out) hb); have n3_ := Aside0.mk (below_step (by repeat (first | (with_reducible first | exact HB.out | apply below_alloc | apply pw_below_drewN | apply below_drew1) | exact HB.out)) hb); clear HO_5; clear HO174; clear HO178; clear HB; have HO_5 := n0_; have HO174 := n1_; have HO178 := n2_; have HB := n3_; clear n0_ n1_ n2_ n3_; (try clear hb); (try clear hb2); (try clear hk); (try clear hi)) | ((with_reducible refine gate_callee (f := 14) rfl ?_); refine goesL_ (some 48) rfl rfl Tryd.func14 (by kernel_rfl) rfl #[.slice A1 l1.length c1] rfl (by (try simp only [List.map_toArray, List.map_cons, List.map_nil]); first | done | rfl | (simp only [List.length_drop, List.length_take]; rfl)) ?_; (with_reducible refine (galleylaw23_count.calls _ _ l1 t182 _ ?side1 ?side2 A26.out).mono ?_); (case side1 => repeat (first | exact (Kd.C_below HR1.out HB.out) | (with_reducible refine Kd.C_alloc ?_ _) | (with_reducible refine Kd.C_drewN ?_ _) | (with_reducible refine Kd.C_drew ?_))); (case side2 => exact HC1.out); rintro e w35 ⟨rfl, hb⟩; refine ⟨_, rfl, ?_⟩; have n0_ := Aside0.mk (Kd.R_below (by (with_reducible repeat (first | apply Kd.R_alloc | apply Kd.R_drewN | apply Kd.R_drew)); exact HO_5.out) hb); have n1_ := Aside0.mk (Kd.R_below (by (with_reducible repeat (first | apply Kd.R_alloc | apply Kd.R_drewN | apply Kd.R_drew)); exact HO174.out) hb); have n2_ := Aside0.mk (Kd.R_below (by (with_reducible repeat (first | apply Kd.R_alloc | apply Kd.R_drewN | apply Kd.R_drew)); exact HO178.out) hb); have n3_ := Aside0.mk (below_step (by repeat (first | (with_reducible first | exact HB.out | apply below_alloc | apply pw_below_drewN | apply below_drew1) | exact HB.out)) hb); clear HO_5; clear HO174; clear HO178; clear HB; have HO_5 := n0_; have HO174 := n1_; have HO178 := n2_; have HB := n3_; clear n0_ n1_ n2_ n3_; (try clear hb); (try clear hb2); (try clear hk); (try clear hi)))
              go_ret
              exact ⟨by first | rfl | (simp [errW_none, errW_some] <;> rfl) | (simp [*, errW_none, errW_some] <;> rfl), by repeat (first | (with_reducible first | exact HB.out | apply below_alloc | apply pw_below_drewN | apply below_drew1) | exact HB.out)⟩
            · rw [if_neg c23] at H
              exact absurd H (by simp)
    · rw [if_neg c6] at H
      exact absurd H (by simp)
  · replace c4 := Bool.eq_false_iff.mpr c4
    subst c4
    have H1 : (some false) = some r := by rw [if_neg (show ¬ (false = true) by decide)] at H; exact H
    clear H
    have H := H1
    clear H1
    obtain rfl := Option.some.inj H
    go_enter Tryd.func3, Tryd.ntmps3
    go_wp2_with (first | ((with_reducible refine gate_callee (f := 11) rfl ?_); refine goesL_ (some 9) rfl rfl Tryd.func11 (by kernel_rfl) rfl #[] rfl (by (try simp only [List.map_toArray, List.map_cons, List.map_nil]); first | done | rfl | (simp only [List.length_drop, List.length_take]; rfl)) ?_; (with_reducible refine (galleylaw23_awake.calls k  false _ ?side1 A3.out).mono ?_); (case side1 => exact Globs.below HG.out (by repeat (first | (with_reducible first | exact HB.out | apply below_alloc | apply pw_below_drewN | apply below_drew1) | exact HB.out))); rintro e w36 ⟨rfl, hb⟩; refine ⟨_, rfl, ?_⟩; have n0_ := Aside0.mk (below_step (by repeat (first | (with_reducible first | exact HB.out | apply below_alloc | apply pw_below_drewN | apply below_drew1) | exact HB.out)) hb); clear HB; have HB := n0_; clear n0_; (try clear hb); (try clear hb2); (try clear hk); (try clear hi)))
    go_ret
    exact ⟨by first | rfl | (simp [errW_none, errW_some] <;> rfl) | (simp [*, errW_none, errW_some] <;> rfl), by repeat (first | (with_reducible first | exact HB.out | apply below_alloc | apply pw_below_drewN | apply below_drew1) | exact HB.out)⟩

/-- THE ONE PURE STATEMENT of galleylaw23_EscapePrints: yours. -/
def galleylaw23_EscapePrints.Pure : Prop := ∀ (l0 : List Int) (l1 : List Int), l0.length ≤ maxLen → l0.length * 1 ≤ 140737488351232 → (∀ x ∈ l0, (Lit.int .u8 x).wf = true) → l1.length ≤ maxLen → l1.length * 1 ≤ 140737488351232 → (∀ x ∈ l1, (Lit.int .u8 x).wf = true) → ∃ k, galleylaw23_EscapePrints.f k l0 l1 = some true
theorem galleylaw23_EscapePrints.walk (P : galleylaw23_EscapePrints.Pure) (a0 : Option Addr) (len0 cap0 : Nat) (z0 : List Int) (a1 : Option Addr) (len1 cap1 : Nat) (z1 : List Int) (w : World) (hG : Globs w) (w0 : (a0 = none ∧ len0 = 0 ∧ cap0 = 0 ∧ z0 = []) ∨ ∃ x, a0 = some x ∧ len0 ≤ cap0 ∧ cap0 ≤ maxLen ∧ z0.length = cap0 ∧ (∀ i, i < z0.length → w.cell? (x.add i) = some (.int .u8 (z0.getD i 0))) ∧ ∀ n ∈ z0, (Lit.int .u8 n).wf = true) (y0 : len0 * 1 ≤ 140737488351232) (w1 : (a1 = none ∧ len1 = 0 ∧ cap1 = 0 ∧ z1 = []) ∨ ∃ x, a1 = some x ∧ len1 ≤ cap1 ∧ cap1 ≤ maxLen ∧ z1.length = cap1 ∧ (∀ i, i < z1.length → w.cell? (x.add i) = some (.int .u8 (z1.getD i 0))) ∧ ∀ n ∈ z1, (Lit.int .u8 n).wf = true) (y1 : len1 * 1 ≤ 140737488351232) :
    Calls Tryd.prog 3 #[.slice a0 len0 cap0, .slice a1 len1 cap1] w fun e w' => e = .returned (.bool true) ∧ Below w.heap.size w w' := by
  obtain ⟨l0, rfl, hr0, hm0, hw0, hc0⟩ := ReadsInt.ofRowC w0
  obtain ⟨l1, rfl, hr1, hm1, hw1, hc1⟩ := ReadsInt.ofRowC w1
  obtain ⟨k, h⟩ := P l0 l1 hm0 y0 hw0 hm1 y1 hw1
  refine (galleylaw23_EscapePrints.calls k _ _ l0 _ _ l1 true w hG (Kd.C_of_reads (d := (0 : Int)) (h1 := fun _ => rfl) hr0) hc0 (Kd.C_of_reads (d := (0 : Int)) (h1 := fun _ => rfl) hr1) hc1 h).mono ?_
  rintro e w' ⟨rfl, hd⟩
  exact ⟨rfl, hd⟩

end Go.Proofs.YtflddgoapibleaaDoor.Esc

namespace Go.Proofs.YtflddgoapibleaaDoor.Hand
open Go.RowKit Go.Proofs.YtflddgoapibleaaDoor.Esc Go.Proofs.YtflddgoapibleaaDoorW.PrintWords Go.Proofs.YtflddgoapibleaaDoorW.PrintLast Go.Proofs.YtflddgoapibleaaDoorW.PrintMore

theorem enc_shape (r : Int) (hr : Rune r) (h : 128 ≤ r) : ∃ a m, enc r = a :: m ∧ 194 ≤ a ∧ m ≠ [] ∧ ∀ x ∈ m, 128 ≤ x ∧ x ≤ 191 := by
  have hr' := hr
  unfold Rune at hr'
  by_cases e2 : r < 2048
  · exact ⟨_, _, enc2 r (by omega), by omega, by simp, fun x hx => by simp at hx; omega⟩
  by_cases e3 : r < 65536
  · exact ⟨_, _, enc3 r (by omega) hr, by omega, by simp, fun x hx => by simp at hx; omega⟩
  · exact ⟨_, _, enc4 r (by omega) hr, by omega, by simp, fun x hx => by simp at hx; omega⟩
theorem dec_tail (l : List Int) (h : 128 ≤ l.getD 0 (-1) ∧ l.getD 0 (-1) ≤ 191) : dec l = (65533, 1) := by
  rcases dec_cases l (by omega) with ⟨h1, _⟩ | ⟨_, e⟩ | ⟨r, t, hr, hr1, hl, _⟩
  · omega
  · exact e
  · obtain ⟨a, m, ha, ha1, _⟩ := enc_shape r hr hr1
    rw [hl, ha] at h
    simp at h; omega
theorem cnt_tails : ∀ (m t : List Int), (∀ x ∈ m, 128 ≤ x ∧ x ≤ 191) → cnt (m ++ t) = m.length + cnt t := by
  intro m
  induction m with
  | nil => intro t _; simp
  | cons a m ih =>
    intro t h
    have ha := h a List.mem_cons_self
    have hd := dec_tail (a :: (m ++ t)) ha
    have hc := cnt_cons (a :: (m ++ t)) (by simp)
    rw [hd] at hc
    show cnt (a :: (m ++ t)) = _
    rw [hc]
    simp only [List.drop_succ_cons, List.drop_zero, List.length_cons]
    rw [ih t (fun x hx => h x (List.mem_cons_of_mem _ hx))]
    omega
theorem dec_append_same (a b : List Int) (h : 0 < a.length) (h0 : 0 ≤ a.getD 0 (-1)) :
    dec (a ++ b) = dec a ∨ (∃ r t, Rune r ∧ 128 ≤ r ∧ a ++ b = enc r ++ t ∧ dec (a ++ b) = (r, (enc r).length) ∧ a.length < (enc r).length ∧ dec a = (65533, 1)) := by
  have hg : (a ++ b).getD 0 (-1) = a.getD 0 (-1) := by
    cases a with
    | nil => simp at h
    | cons x t => rfl
  rcases dec_cases (a ++ b) (by rw [hg]; exact h0) with ⟨h1, e⟩ | ⟨h1, e⟩ | ⟨r, t, hr, hr1, hl, e⟩
  · left
    rw [hg] at h1 e
    rcases dec_cases a h0 with ⟨_, e'⟩ | ⟨h2, _⟩ | ⟨r, t, hr, hr1, hl, _⟩
    · rw [e, e']
    · omega
    · obtain ⟨x, m, hx, hx1, _⟩ := enc_shape r hr hr1
      rw [hl, hx] at h1; simp at h1; omega
  · left
    rw [hg] at h1
    rcases dec_cases a h0 with ⟨h2, _⟩ | ⟨_, e'⟩ | ⟨r, t, hr, hr1, hl, _⟩
    · omega
    · rw [e, e']
    · have := dec_enc r hr (t ++ b)
      rw [← List.append_assoc, ← hl, e] at this
      obtain ⟨x, m, hx, _, hm, _⟩ := enc_shape r hr hr1
      have h3 := congrArg Prod.snd this
      rw [hx] at h3
      simp only [List.length_cons] at h3
      exact absurd (List.eq_nil_of_length_eq_zero (by omega)) hm
  · by_cases hlen : a.length < (enc r).length
    · right
      refine ⟨r, t, hr, hr1, hl, e, hlen, ?_⟩
      obtain ⟨x, m, hx, hx1, _⟩ := enc_shape r hr hr1
      have hx0 : a.getD 0 (-1) = x := by rw [← hg, hl, hx]; rfl
      rcases dec_cases a h0 with ⟨h2, _⟩ | ⟨_, e'⟩ | ⟨r', t', hr', hr1', hl', _⟩
      · omega
      · exact e'
      · have h4 := dec_enc r' hr' (t' ++ b)
        rw [← List.append_assoc, ← hl', e] at h4
        have h5 : (enc r).length = (enc r').length := congrArg Prod.snd h4
        have h6 := congrArg List.length hl'
        rw [List.length_append] at h6
        omega
    · left
      have h7 : a = enc r ++ (a.drop (enc r).length) := by
        have h8 : (a ++ b).take (enc r).length = enc r := by rw [hl]; exact List.take_left
        rw [List.take_append_of_le_length (by omega)] at h8
        conv => lhs; rw [← List.take_append_drop (enc r).length a]
        rw [h8]
      rw [e, h7, dec_enc r hr]
theorem pc_same (a b : List Int) (h : 0 < a.length) (hd : dec (a ++ b) = dec a) : pc (a ++ b) = pc a := by
  have hg : (a ++ b).getD 0 (-1) = a.getD 0 (-1) := by
    cases a with
    | nil => simp at h
    | cons x t => rfl
  unfold pc
  rw [hg, hd]
theorem pc_second_u (l : List Int) (r : Int) (t : List Int) (hr : Rune r) (h : 128 ≤ r) (hl : l = enc r ++ t) : (pc l).getD 1 (-1) = 117 := by
  obtain ⟨x, m, hx, hx1, hm, _⟩ := enc_shape r hr h
  have h0 : l.getD 0 (-1) = x := by rw [hl, hx]; rfl
  have hd : dec l = (r, (enc r).length) := by rw [hl]; exact dec_enc r hr t
  have hd2 : ¬ (dec l).2 = 1 := by
    rw [hd, hx]; simp only [List.length_cons]
    intro e; exact hm (List.eq_nil_of_length_eq_zero (by omega))
  unfold pc
  rw [h0, if_neg (by omega), if_neg (by omega), if_neg (by omega), if_neg (by omega), if_neg (by omega), if_neg hd2]
  rfl
theorem pc_second_x (l : List Int) (h : 128 ≤ l.getD 0 (-1)) (hd : dec l = (65533, 1)) : (pc l).getD 1 (-1) = 120 ∧ 2 ≤ (pc l).length := by
  unfold pc
  rw [if_neg (by omega), if_neg (by omega), if_neg (by omega), if_neg (by omega), if_neg (by omega), hd, if_pos rfl]
  exact ⟨rfl, by simp⟩
theorem getD_append_left (a b : List Int) (k : Nat) (h : k < a.length) : (a ++ b).getD k (-1) = a.getD k (-1) := by
  rw [List.getD_eq_getElem?_getD, List.getD_eq_getElem?_getD, List.getElem?_append_left h]
/-- Both, or neither. -/
theorem both_or (a : List Int) : ∀ b, Bytes a → Bytes b →
    (quo (a ++ b) = quo a ++ quo b ∧ cnt (a ++ b) = cnt a + cnt b) ∨ (quo (a ++ b) ≠ quo a ++ quo b ∧ cnt (a ++ b) < cnt a + cnt b) := by
  induction a using steps_ind with
  | h0 => intro b _ _; left; simp [quo_nil, cnt_nil]
  | h1 a h ih =>
    intro b ha hb
    have h0 := head_byte a ha h
    have hab : 0 < (a ++ b).length := by rw [List.length_append]; omega
    have q1 := quo_cons' (a ++ b) hab
    have q2 := quo_cons' a h
    have c1 := cnt_cons (a ++ b) hab
    have c2 := cnt_cons a h
    rcases dec_append_same a b h h0.1 with hd | ⟨r, t, hr, hr1, hl, e, hlen, e'⟩
    · have hle := dec_le a h
      rw [pc_same a b h hd, hd, List.drop_append_of_le_length hle] at q1
      rw [hd, List.drop_append_of_le_length hle] at c1
      rcases ih b (bytes_of_drop ha _) hb with ⟨i1, i2⟩ | ⟨i1, i2⟩
      · left
        refine ⟨?_, by omega⟩
        rw [q1, q2, i1, List.append_assoc]
      · right
        refine ⟨?_, by omega⟩
        rw [q1, q2, List.append_assoc]
        intro hq
        exact i1 (List.append_cancel_left hq)
    · right
      obtain ⟨x, m, hx, hx1, hm, hc⟩ := enc_shape r hr hr1
      have hx0 : a.getD 0 (-1) = x := by
        have : (a ++ b).getD 0 (-1) = a.getD 0 (-1) := getD_append_left a b 0 h
        rw [← this, hl, hx]; rfl
      constructor
      · intro hq
        have p1 := pc_second_u (a ++ b) r t hr hr1 hl
        have p2 := pc_second_x a (by omega) e'
        have hpl : 2 ≤ (pc (a ++ b)).length := by
          rcases Nat.lt_or_ge (pc (a ++ b)).length 2 with h2 | h2
          · rw [List.getD_eq_getElem?_getD, List.getElem?_eq_none (by omega)] at p1; simp at p1
          · exact h2
        have g1 : (quo (a ++ b)).getD 1 (-1) = 117 := by rw [q1, getD_append_left _ _ 1 (by omega)]; exact p1
        have g2 : (quo a ++ quo b).getD 1 (-1) = 120 := by rw [q2, List.append_assoc, getD_append_left _ _ 1 (by omega)]; exact p2.1
        rw [hq, g2] at g1
        exact absurd g1 (by decide)
      · rw [e, hl, List.drop_left] at c1
        -- a is a proper head of the encoding
        have ha1 : a = x :: m.take (a.length - 1) := by
          have h8 : (a ++ b).take a.length = a := List.take_left
          rw [hl, List.take_append_of_le_length (by omega), hx] at h8
          obtain ⟨k, hk⟩ : ∃ k, a.length = k + 1 := ⟨a.length - 1, by omega⟩
          rw [hk, List.take_succ_cons] at h8
          rw [hk]; exact h8.symm
        have hb1 : b = m.drop (a.length - 1) ++ t := by
          have h8 : (a ++ b).drop a.length = b := List.drop_left
          rw [hl, List.drop_append_of_le_length (by omega), hx] at h8
          obtain ⟨k, hk⟩ : ∃ k, a.length = k + 1 := ⟨a.length - 1, by omega⟩
          rw [hk, List.drop_succ_cons] at h8
          rw [hk]; exact h8.symm
        have hca : cnt (a.drop 1) = a.length - 1 := by
          rw [ha1]
          simp only [List.drop_succ_cons, List.drop_zero, List.length_cons]
          have := cnt_tails (m.take (a.length - 1)) [] (fun y hy => hc y (List.mem_of_mem_take hy))
          rw [List.append_nil, cnt_nil] at this
          rw [this]; omega
        have hcb : cnt b = (m.length - (a.length - 1)) + cnt t := by
          rw [hb1, cnt_tails _ _ (fun y hy => hc y (List.mem_of_mem_drop hy)), List.length_drop]
        rw [e', hca] at c2
        rw [hx] at hlen
        simp only [List.length_cons] at hlen
        rw [hl]
        omega
end Go.Proofs.YtflddgoapibleaaDoor.Hand

namespace Go.Proofs.YtflddgoapibleaaDoor.Hand
open Go.RowKit Go.Proofs.YtflddgoapibleaaDoor.Esc Go.Proofs.YtflddgoapibleaaDoorW.PrintWords Go.Proofs.YtflddgoapibleaaDoorW.PrintLast Go.Proofs.YtflddgoapibleaaDoorW.PrintMore

theorem quoteP_f (l : List Int) (hb : Bytes l) (h : l.length ≤ 1073741824) : escape_Quote.f l = some (strOfNums (quo l)) := by
  unfold escape_Quote.f; rw [if_pos ⟨hb, h⟩]
theorem count_f (l : List Int) (hb : Bytes l) (h : l.length ≤ 1073741824) : galleylaw23_count.f l = some (cnt l : Int) := by
  unfold galleylaw23_count.f; rw [if_pos ⟨hb, h⟩]
theorem prints_end (k : Nat) (x0 x1 x5 : List Int) (s : ByteArray) : galleylaw23_EscapePrints.l0 (k + 1) x0 x1 x5 s (s.size : Int) = galleylaw23_EscapePrints.l0 1 x0 x1 x5 s (s.size : Int) := by
  rw [galleylaw23_EscapePrints.l0, galleylaw23_EscapePrints.l0, if_neg (by omega), if_neg (by omega)]
theorem prints_loop (x0 x1 x5 : List Int) (s : ByteArray) (hs : ∀ j : Nat, j < s.size → 32 ≤ bt s j ∧ bt s j ≤ 126) (h64 : s.size ≤ 1073741824) : ∀ (n k i : Nat), i + n = s.size → n < k →
    galleylaw23_EscapePrints.l0 k x0 x1 x5 s (i : Int) = galleylaw23_EscapePrints.l0 1 x0 x1 x5 s (s.size : Int) := by
  intro n
  induction n with
  | zero =>
    intro k i hi hk
    obtain ⟨k, rfl⟩ : ∃ k', k = k' + 1 := ⟨k - 1, by omega⟩
    rw [show i = s.size by omega]
    exact prints_end k x0 x1 x5 s
  | succ n ih =>
    intro k i hi hk
    obtain ⟨k, rfl⟩ : ∃ k', k = k' + 1 := ⟨k - 1, by omega⟩
    have h := hs i (by omega)
    rw [galleylaw23_EscapePrints.l0, if_pos (by omega), if_pos (by omega), if_neg (by omega), if_neg (by omega), w64 _ (by omega) (by omega)]
    have := ih k (i + 1) (by omega) (by omega)
    rw [← this]
    congr 1
theorem bt_prints (l : List Int) (h : Prints l) (j : Nat) (hj : j < (strOfNums l).size) : 32 ≤ bt (strOfNums l) j ∧ bt (strOfNums l) j ≤ 126 := by
  rw [strOfNums_size] at hj
  rw [bt_str l (prints_bytes h) j hj]
  have : (l.drop j).getD 0 (-1) = l[j] := by rw [get_drop l j 0 (by omega)]; rfl
  rw [this]
  exact h _ (List.getElem_mem hj)
theorem cnt_int_beq (a b c : Nat) : ((a : Int) == (b : Int) + (c : Int)) = decide (a = b + c) := by
  by_cases h : a = b + c
  · rw [decide_eq_true h]; exact beq_iff_eq.2 (by omega)
  · rw [decide_eq_false h]; exact beq_eq_false_iff_ne.2 (by omega)
theorem prints_pure (l0 l1 : List Int) (hb0 : Bytes l0) (hb1 : Bytes l1) (h0 : l0.length ≤ 1048576) (h1 : l1.length ≤ 1048576) :
    galleylaw23_EscapePrints.f 30000000 l0 l1 = some true := by
  have hbb := bytes_append hb0 hb1
  have hl : (l0 ++ l1).length = l0.length + l1.length := List.length_append
  have c0 := cnt_le l0.length l0 (Nat.le_refl _)
  have c1 := cnt_le l1.length l1 (Nat.le_refl _)
  have hq := quo_len (l0 ++ l1)
  have hq0 := quo_len l0
  have hq1 := quo_len l1
  unfold galleylaw23_EscapePrints.f
  rw [show galleylaw23_awake.f 30000000 = some true from rfl, own_f l0 (by omega)]
  simp only [Option.bind_some]
  rw [if_pos trivial, if_pos (by omega), quoteP_f (l0 ++ l1) hbb (by omega)]
  simp only [Option.bind_some]
  have hloop := prints_loop l0 l1 (l0 ++ l1) (strOfNums (quo (l0 ++ l1))) (fun j hj => bt_prints _ (quo_print _ hbb) j hj) (by rw [strOfNums_size]; omega) (strOfNums (quo (l0 ++ l1))).size 30000000 0 (by omega) (by rw [strOfNums_size]; omega)
  rw [show ((0 : Nat) : Int) = 0 from rfl] at hloop
  rw [hloop, galleylaw23_EscapePrints.l0, if_neg (by omega), own_f l0 (by omega), own_f l1 (by omega)]
  simp only [Option.bind_some]
  rw [quoteP_f l0 hb0 (by omega), quoteP_f l1 hb1 (by omega), count_f _ hbb (by omega), count_f _ hb0 (by omega), count_f _ hb1 (by omega)]
  simp only [Option.bind_some]
  rw [if_pos (by rw [strOfNums_size, strOfNums_size]; omega), str_append, str_beq _ _ (prints_bytes (quo_print _ hbb)) (bytes_append (prints_bytes (quo_print _ hb0)) (prints_bytes (quo_print _ hb1))), w64 _ (by omega) (by omega), cnt_int_beq]
  congr 1
  rcases both_or l0 l1 hb0 hb1 with ⟨e1, e2⟩ | ⟨e1, e2⟩
  · rw [decide_eq_true e1, decide_eq_true e2]; rfl
  · rw [decide_eq_false e1, decide_eq_false (by omega)]; rfl
end Go.Proofs.YtflddgoapibleaaDoor.Hand

namespace Go.Proofs.YtflddgoapibleaaDoor.escapePrints
open Go.ChangeShapes Go.WideShapes Go.ChangeAt Go.RowKit Go.Proofs.YtflddgoapibleaaDoor.Hand Go.Proofs.YtflddgoapibleaaDoor.Esc Go.Proofs.YtflddgoapibleaaDoorW.PrintWords
open Go.ChangeMaps (open_string shut_string)
set_option linter.unusedVariables false
theorem reads (os : Os) {H : Type} (enc : TypeId × Value → H) : ∃ places, DataW.whole enc Tryd.prog ((World.doorLaid Tryd.prog 4000 os).forCall (fun _ _ => 0) ⟨#[], #[.slice none 0 0, .slice none 0 0], []⟩).memory Tryd.f3.params.toList Rows.escapePrintsSpec.vars false (#[.slice none 0 0, .slice none 0 0] : Array Value).toList 8 = some ([.nil, .nil], [], places) :=
  ⟨[], by kernel_rfl⟩
theorem door_met (os : Os) : laidMetH Tryd.prog laidList ((World.doorLaid Tryd.prog 4000 os).forCall (fun _ _ => 0) ⟨#[], #[.slice none 0 0, .slice none 0 0], []⟩).memory :=
  laidMetH_of_parts3 (fuel := 8) (laidMet_of_run' 8 (by kernel_rfl) (by kernel_rfl)) (by kernel_rfl) (by kernel_rfl)
theorem contract (H : Type) (enc : TypeId × Value → H) (W : World) (base : Nat) (args : Array Value) (ds gs : List (DataW H)) (before : List MemPlace)
    (hval0 : ∀ (j : Nat) t v, Tryd.f3.params[j]? = some t → args[j]? = some v → Value.okWide Tryd.prog W .any base t v)
    (hW : DataW.Whole enc Tryd.prog Tryd.f3.params.toList Rows.escapePrintsSpec.vars false W args.toList ds gs before) (hL : laidMetH Tryd.prog laidList W) (hk : Rows.uptoSmall H (ds ++ gs) = true) :
    Calls Tryd.prog 3 args W fun e W' => ∃ v, e = .returned v ∧ Rows.escapePrintsSpec.post enc Tryd.prog Tryd.f3 false true false false W args v W' := by
  have hG := globs_of_laid hL
  have hval := hval0
  have hW' := hW
  obtain ⟨p, q, hA0, hV, rfl, hfz, hnd⟩ := hW
  have hA : DataW.TrodAll enc Tryd.prog W 0 (fun _ => true) true Tryd.f3.params.toList args.toList ds p := hA0
  rw [Tryd.params3] at hA hval
  obtain ⟨v0, vs0, d0, ds0, p0, q0, hargs, rfl, rfl, h0, r0⟩ := trodAll_cons hA
  obtain ⟨v1, vs1, d1, ds1, p1, q1, rfl, rfl, rfl, h1, r1⟩ := trodAll_cons r0
  obtain ⟨rfl, rfl, rfl⟩ := trodAll_nil r1
  obtain rfl : args = #[v0, v1] := by cases args; simp_all
  obtain ⟨rfl, rfl⟩ := trodVars_none hV
  have hB := bulk_le hk
  simp only [List.append_nil, Rows.uptoBulkAll] at hB
  have k0 := h0
  have lt0 : ∀ x ∈ p0, x.block < W.heap.size := by obtain ⟨m, hm⟩ := k0; exact DataW.trod_lt m _ _ _ hm
  obtain ⟨A0, c0, l0, rfl, hr0, hc0, hb0, hl0⟩ := bytes_open (hval 0 22 v0 rfl rfl) h0
  have k1 := h1
  have lt1 : ∀ x ∈ p1, x.block < W.heap.size := by obtain ⟨m, hm⟩ := k1; exact DataW.trod_lt m _ _ _ hm
  obtain ⟨A1, c1, l1, rfl, hr1, hc1, hb1, hl1⟩ := bytes_open (hval 1 22 v1 rfl rfl) h1
  clear hA0 hval0
  refine (galleylaw23_EscapePrints.calls _ _ _ l0 _ _ l1 true W hG (Kd.C_of_reads (d := (0 : Int)) (h1 := fun _ => rfl) hr0) hc0 (Kd.C_of_reads (d := (0 : Int)) (h1 := fun _ => rfl) hr1) hc1 (prints_pure l0 l1 hb0 hb1 (by omega) (by omega))).mono fun e W' ⟨he, bel⟩ => ?_
  subst he
  exact ⟨_, rfl, _, _, _, [], _, [], hW', trodAll_mk1 (shut_bool Tryd.underlying4 _), (trodAll_cons_mk (Below.trod laidOut (by kernel_rfl) (of_decide_eq_true (by kernel_rfl)) k0 bel lt0) (trodAll_cons_mk (Below.trod laidOut (by kernel_rfl) (of_decide_eq_true (by kernel_rfl)) k1 bel lt1) trodAll_mk0)), rfl, bel.frame _, fun h => by cases h⟩
set_option maxRecDepth 100000 in
theorem liftedUpto (os : Os) (started : os.Started) (H : Type) (enc : TypeId × Value → H) (F : Stop.Interp) :
    ReturnsInHanded {} Tryd.checked os 3 .any ((Rows.OpenSpec.upto Rows.escapePrintsSpec).preRow enc Tryd.prog Tryd.f3 Rows.escapePrintsUptoRow.domain false Rows.escapePrintsUptoRow.laid) (((Rows.OpenSpec.upto Rows.escapePrintsSpec).at F).post enc Tryd.prog Tryd.f3 false true false false) := by
  obtain ⟨places, hx⟩ := reads os enc
  refine returnsInHanded_of_row (C := Tryd.checked) (s := Rows.OpenSpec.upto Rows.escapePrintsSpec) own started (by kernel_rfl) Tryd.func3
    (witness_row_atRef (enc := enc) (C := Tryd.checked) false (World.doorLaid Tryd.prog 4000 os) #[.slice none 0 0, .slice none 0 0] rfl (by kernel_rfl) (by kernel_rfl) (by kernel_rfl)
      (OpenSpec.preRow_of_cond 8 hx (by kernel_rfl) (fun k hk => by cases hk; kernel_rfl) (by kernel_rfl) (door_met os))) ?_
  intro W base args ds gs before hval hW _ hcond _ hL _ _
  exact contract H enc W base args ds gs before hval hW hL (hcond _ rfl)
theorem saidUpto : Rows.EscapePrintsUptoSaid :=
  OpenClaim.holds_of_cond 3 Tryd.f3 rfl rfl rfl rfl rfl rfl rfl ⟨rfl, rfl, rfl, rfl, rfl⟩ rfl rfl rfl rfl rfl (by kernel_rfl) Tryd.func3 (by kernel_rfl)
    (of_decide_eq_true (by kernel_rfl)) (by unfold Func.isWrapper; first | (rw [if_pos (by decide +kernel)]; kernel_rfl) | (rw [if_neg (by decide +kernel)]; exact ⟨rfl, rfl⟩))
    (fun os started H enc _ F => by rw [OpenClaim.pre_eq_preRow]; exact liftedUpto os started H enc F)
theorem plain (f : FuncId) (fn : Func) (hf : Tryd.pinned.checked.prog.funcNamed "galley/galleylaw23.EscapePrints" = some f) (hfn : Tryd.pinned.checked.prog.funcs[f]? = some fn) :
    false = Tryd.pinned.checked.prog.looks [] ∧ ∀ (j : Nat) t, fn.params[j]? = some t → Tryd.pinned.checked.prog.wantsStandIn t = false := by
  obtain rfl : f = 3 := Option.some.inj ((show Tryd.prog.funcNamed "galley/galleylaw23.EscapePrints" = some 3 by kernel_rfl).symm.trans hf) |>.symm
  obtain rfl : fn = Tryd.f3 := (Option.some.inj (Tryd.func3.symm.trans hfn)).symm
  refine ⟨by kernel_rfl, fun j t ht => ?_⟩
  rw [Tryd.params3] at ht
  have hm : t ∈ (#[22, 22] : Array TypeId) := Array.mem_of_getElem? ht
  have ho : t = 22 := by simpa using hm
  subst ho
  exact (show Tryd.prog.wantsStandIn 22 = false by kernel_rfl)
/-- The card of the second form. -/
theorem cardUpto : Rows.EscapePrintsUptoCardSaid :=
  Claim7.holds_tied_plain_at .later [] _ _ _ _ saidUpto (fun _ h => by cases h) (by kernel_rfl) (fun _ h => by cases h) escapePrintsUpto_row_tie rfl ⟨rfl, rfl⟩ (by kernel_rfl) rfl plain (by kernel_rfl)
end Go.Proofs.YtflddgoapibleaaDoor.escapePrints
