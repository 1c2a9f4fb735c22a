/- Contracts and laws, those that ZOwn needs. -/
import Derived.Test.YtflddgoapibleaaDoorVWalk1
import Derived.Lib.SlBytesConst
set_option linter.unusedVariables false
set_option linter.unusedSimpArgs false
namespace Go.Proofs.YtflddgoapibleaaDoor.Hand
open Go.RowKit Go.Proofs.YtflddgoapibleaaDoorW.PrintWords Go.Proofs.YtflddgoapibleaaDoorW.PrintLast Go.Proofs.YtflddgoapibleaaDoorW.PrintMore
attribute [local go_sem] max2_int min2_int max_two min_two max_three min_three max_four min_four
set_option linter.unusedVariables false
set_option linter.unusedSimpArgs false
def stringslite_HasPrefix.f (a0 : ByteArray) (a1 : ByteArray) : Option (Bool) := if (a0.size : Int) ≥ (a1.size : Int) then (if 0 ≤ (a1.size : Int) then (if (a1.size : Int) ≤ (a0.size : Int) then (some ((a0.extract 0 ((a1.size : Int) : Int).toNat).toList == a1.toList)) else (none)) else (none)) else (some false)
set_option maxHeartbeats 8000000 in
set_option maxRecDepth 100000 in
theorem stringslite_HasPrefix.calls (a0 : ByteArray) (a1 : ByteArray) (r : Bool) (w : World) (h : stringslite_HasPrefix.f a0 a1 = some r) :
    Calls Tryd.prog 42 #[.string a0, .string a1] w fun e w' => e = .returned (.bool r) ∧ Drawn0 w w' := by
  have H : (if (a0.size : Int) ≥ (a1.size : Int) then (if 0 ≤ (a1.size : Int) then (if (a1.size : Int) ≤ (a0.size : Int) then (some ((a0.extract 0 ((a1.size : Int) : Int).toNat).toList == a1.toList)) else (none)) else (none)) else (some false)) = some r := h
  clear h
  by_cases c3 : (a0.size : Int) ≥ (a1.size : Int)
  · rw [if_pos c3] at H
    have c3b0 : decide ((a1.size : Int) ≤ (a0.size : Int)) = true := decide_eq_true c3
    have c3b1 : decide (a1.size ≤ a0.size) = true := decide_eq_true (Int.ofNat_le.mp c3)
    clear c3
    by_cases c4 : 0 ≤ (a1.size : Int)
    · rw [if_pos c4] at H
      have c4b0 := eq_true c4
      have c4b1 : decide (0 ≤ (a1.size : Int)) = true := decide_eq_true c4
      clear c4
      by_cases c5 : (a1.size : Int) ≤ (a0.size : Int)
      · rw [if_pos c5] at H
        have c5b0 := eq_true c5
        have c5b1 : decide ((a1.size : Int) ≤ (a0.size : Int)) = true := decide_eq_true c5
        clear c5
        obtain rfl := Option.some.inj H
        go_enter Tryd.func42, Tryd.ntmps42
        go_wp2
        go_ret
        exact ⟨by first | rfl | (simp; done) | (simp [*]; done), by repeat (first | exact Drawn0.refl _ | apply Drawn0.step)⟩
      · rw [if_neg c5] at H
        exact absurd H (by simp)
    · rw [if_neg c4] at H
      exact absurd H (by simp)
  · rw [if_neg c3] at H
    have c3b0 : decide ((a1.size : Int) ≤ (a0.size : Int)) = false := decide_eq_false c3
    have c3b1 : decide (a1.size ≤ a0.size) = false := decide_eq_false (fun h => c3 (Int.ofNat_le.mpr h))
    clear c3
    obtain rfl := Option.some.inj H
    go_enter Tryd.func42, Tryd.ntmps42
    go_wp2
    go_ret
    exact ⟨by first | rfl | (simp; done) | (simp [*]; done), by repeat (first | exact Drawn0.refl _ | apply Drawn0.step)⟩
def strings_HasPrefix.f (a0 : ByteArray) (a1 : ByteArray) : Option (Bool) := (stringslite_HasPrefix.f a0 a1).bind fun t101 => (some t101)
set_option maxHeartbeats 8000000 in
set_option maxRecDepth 100000 in
theorem strings_HasPrefix.calls (a0 : ByteArray) (a1 : ByteArray) (r : Bool) (w : World) (h : strings_HasPrefix.f a0 a1 = some r) :
    Calls Tryd.prog 25 #[.string a0, .string a1] w fun e w' => e = .returned (.bool r) ∧ Drawn0 w w' := by
  have H : ((stringslite_HasPrefix.f a0 a1).bind fun t101 => (some t101)) = some r := h
  clear h
  replace H := Option.bind_eq_some_iff.mp H
  obtain ⟨t101, A30, H⟩ := H
  replace H : (some t101) = some r := H
  have A3 := Aside0.mk A30
  clear A30
  obtain rfl := Option.some.inj H
  go_enter Tryd.func25, Tryd.ntmps25
  go_wp2_with (first | ((with_reducible refine gate_callee (f := 42) rfl ?_); refine goesL_ (some 7) rfl rfl Tryd.func42 (by kernel_rfl) rfl #[.string a0, .string a1] rfl (by (try simp only [List.map_toArray, List.map_cons, List.map_nil]); first | done | rfl | (simp only [List.length_drop, List.length_take]; rfl)) ?_; (with_reducible refine (stringslite_HasPrefix.calls a0 a1 t101 _ A3.out).mono ?_); rintro e w' ⟨rfl, ⟨nd, rfl⟩⟩; refine ⟨_, rfl, ?_⟩))
  go_ret
  exact ⟨by first | rfl | (simp; done) | (simp [*]; done), by repeat (first | exact Drawn0.refl _ | apply Drawn0.step)⟩
end Go.Proofs.YtflddgoapibleaaDoor.Hand

namespace Go.Proofs.YtflddgoapibleaaDoor.Esc
open Go.RowKit Go.Proofs.YtflddgoapibleaaDoor.Hand Go.Proofs.YtflddgoapibleaaDoorW.PrintWords Go.Proofs.YtflddgoapibleaaDoorW.PrintLast Go.Proofs.YtflddgoapibleaaDoorW.PrintMore
attribute [local go_sem] max2_int min2_int max_two min_two max_three min_three max_four min_four
set_option linter.unusedVariables false
set_option linter.unusedSimpArgs false
def escape_two.f (l0 : List Int) (a1 : Int) : Option (List Int) := if 0 ≤ (a1 / 16) then (if (a1 / 16) < 16 then (if 0 ≤ (Go.bits .and .u8 a1 15) then (if (Go.bits .and .u8 a1 15) < 16 then ((some (([92, 120, bt (⟨#[48, 49, 50, 51, 52, 53, 54, 55, 56, 57, 97, 98, 99, 100, 101, 102]⟩ : ByteArray) (a1 / 16), bt (⟨#[48, 49, 50, 51, 52, 53, 54, 55, 56, 57, 97, 98, 99, 100, 101, 102]⟩ : ByteArray) (Go.bits .and .u8 a1 15)] : List Int) : List Int)).bind fun y101 => (if l0.length + y101.length < 140737488355328 then (some (l0 ++ y101)) else (none))) else (none)) else (none)) else (none)) else (none)
def escape_two.T1 : Bool × List (List Nat × List Nat) := (true, [([], []), ([], []), ([1], [1]), ([2], [2]), ([], []), ([4], [4]), ([5], [5]), ([3, 6], [3, 6]), ([0, 7], [0, 7]), ([8, 8, 0, 1, 2, 3, 4, 5, 6, 7, 8], [8])])
def escape_two.B1 : List Nat := [0, 0, 2, 6, 0, 16, 48, 126, 255, 511]
theorem escape_two.tab1 : rtab .any (opsOf Tryd.f26 1) = escape_two.T1 := by kernel_rfl
theorem escape_two.bits1 : waitsOk escape_two.T1.2 escape_two.B1 = true := by kernel_rfl
set_option maxHeartbeats 8000000 in
set_option maxRecDepth 100000 in
theorem escape_two.calls (P0_ : Nat → Prop) (u9000_ : Value) (l0 : List Int) (a1 : Int) (r : List Int) (w0 w : World) (hB : Below w0.heap.size w0 w) (ho0 : Kd.R (Kd.int .u8) 5 w w0.heap.size P0_ u9000_ l0) (h : escape_two.f l0 a1 = some r) :
    Calls Tryd.prog 26 #[u9000_, .int .u8 a1] w fun e w' => ∃ v0_ : Value, e = .returned (v0_) ∧ Kd.R (Kd.int .u8) 5 w' w0.heap.size (fun k_ => (P0_ k_ ∨ w.heap.size ≤ k_)) v0_ r ∧ Below w0.heap.size w0 w' ∧ Kept w w' (fun k_ => P0_ k_) := by
  have HO0 := Aside0.mk (show Kd.R (Kd.int .u8) 5 w w0.heap.size (fun k_ => (P0_ k_ ∨ w.heap.size ≤ k_)) u9000_ l0 from Kd.R_mono ho0 (fun k_ hk => (.inl hk)))
  have HK := Aside0.mk (Kept.refl w (fun k_ => P0_ k_))
  have HW0 := Aside0.mk hB.size
  have HB := Aside0.mk hB
  clear hB
  have H : (if 0 ≤ (a1 / 16) then (if (a1 / 16) < 16 then (if 0 ≤ (Go.bits .and .u8 a1 15) then (if (Go.bits .and .u8 a1 15) < 16 then ((some (([92, 120, bt (⟨#[48, 49, 50, 51, 52, 53, 54, 55, 56, 57, 97, 98, 99, 100, 101, 102]⟩ : ByteArray) (a1 / 16), bt (⟨#[48, 49, 50, 51, 52, 53, 54, 55, 56, 57, 97, 98, 99, 100, 101, 102]⟩ : ByteArray) (Go.bits .and .u8 a1 15)] : List Int) : List Int)).bind fun y101 => (if l0.length + y101.length < 140737488355328 then (some (l0 ++ y101)) else (none))) else (none)) else (none)) else (none)) else (none)) = some r := h
  clear h
  obtain ⟨ji3, hji3⟩ : ∃ j_ : Int, (a1 / 16) = j_ := ⟨_, rfl⟩
  replace H : (if 0 ≤ (ji3) then (if (ji3) < 16 then (if 0 ≤ (Go.bits .and .u8 a1 15) then (if (Go.bits .and .u8 a1 15) < 16 then ((some (([92, 120, bt (⟨#[48, 49, 50, 51, 52, 53, 54, 55, 56, 57, 97, 98, 99, 100, 101, 102]⟩ : ByteArray) (ji3), bt (⟨#[48, 49, 50, 51, 52, 53, 54, 55, 56, 57, 97, 98, 99, 100, 101, 102]⟩ : ByteArray) (Go.bits .and .u8 a1 15)] : List Int) : List Int)).bind fun y101 => (if l0.length + y101.length < 140737488355328 then (some (l0 ++ y101)) else (none))) else (none)) else (none)) else (none)) else (none)) = some r := by first | (rw [hji3] at H; exact H) | (simp only [hji3] at H ⊢; exact H)
  by_cases c4 : 0 ≤ (ji3)
  · rw [if_pos c4] at H
    have c4b0 : decide (0 ≤ (ji3)) = true := decide_eq_true c4
    clear c4
    by_cases c5 : (ji3) < 16
    · rw [if_pos c5] at H
      have c5b0 : decide ((ji3) < 16) = true := decide_eq_true c5
      clear c5
      by_cases c7 : 0 ≤ (Go.bits .and .u8 a1 15)
      · rw [if_pos c7] at H
        have c7b0 : decide (0 ≤ (Go.bits .and .u8 a1 15)) = true := decide_eq_true c7
        clear c7
        by_cases c8 : (Go.bits .and .u8 a1 15) < 16
        · rw [if_pos c8] at H
          have c8b0 : decide ((Go.bits .and .u8 a1 15) < 16) = true := decide_eq_true c8
          clear c8
          obtain ⟨y101, hy101⟩ : ∃ y_ : List Int, y_ = (([92, 120, bt (⟨#[48, 49, 50, 51, 52, 53, 54, 55, 56, 57, 97, 98, 99, 100, 101, 102]⟩ : ByteArray) (ji3), bt (⟨#[48, 49, 50, 51, 52, 53, 54, 55, 56, 57, 97, 98, 99, 100, 101, 102]⟩ : ByteArray) (Go.bits .and .u8 a1 15)] : List Int)) := ⟨_, rfl⟩
          replace H : (if l0.length + y101.length < 140737488355328 then (some (l0 ++ y101)) else (none)) = some r := by first | (rw [hy101]; with_reducible exact H) | (have H2_ := (Option.bind_some _ _).symm.trans H; rw [hy101]; with_reducible exact H2_) | (have H2_ := (Option.bind_some _ _).symm.trans H; with_reducible exact H2_) | with_reducible exact H | (rw [hy101]; exact H) | exact H
          have Ny101 := Aside0.mk hy101
          clear hy101
          by_cases c10 : l0.length + y101.length < 140737488355328
          · rw [if_pos c10] at H
            have LMc10 := Aside0.mk c10
            clear c10
            obtain ⟨y104, hy104⟩ : ∃ y_ : List Int, y_ = (l0 ++ y101) := ⟨_, rfl⟩
            replace H : (some y104) = some r := by first | (rw [hy104]; with_reducible exact H) | (have H2_ := (Option.bind_some _ _).symm.trans H; rw [hy104]; with_reducible exact H2_) | (have H2_ := (Option.bind_some _ _).symm.trans H; with_reducible exact H2_) | with_reducible exact H | (rw [hy104]; exact H) | exact H
            have Ny104 := Aside0.mk hy104
            clear hy104
            obtain rfl := Option.some.inj H
            go_enter Tryd.func26, Tryd.ntmps26
            try go_wp2
            have n0_ := Aside0.mk (Kd.R_drew HO0.out)
            have n1_ := Aside0.mk (Kept.drew HK.out)
            have n2_ := Aside0.mk (below_drew1 HB.out)
            clear HO0
            clear HK
            clear HB
            have HO0 := n0_
            have HK := n1_
            have HB := n2_
            clear n0_ n1_ n2_
            have p6 : 0 ≤ ((ji3) : Int) := of_decide_eq_true (by first | (with_reducible assumption) | assumption)
            have q6 : (ji3) < (16 : Int) := of_decide_eq_true (by first | (with_reducible assumption) | assumption)
            have hx6 := bt_at (⟨#[48, 49, 50, 51, 52, 53, 54, 55, 56, 57, 97, 98, 99, 100, 101, 102]⟩ : ByteArray) (ji3)
            replace p6 := eq_true p6
            replace q6 := eq_true q6
            have p9 : 0 ≤ ((Go.bits .and .u8 a1 15) : Int) := of_decide_eq_true (by first | (with_reducible assumption) | assumption)
            have q9 : (Go.bits .and .u8 a1 15) < (16 : Int) := of_decide_eq_true (by first | (with_reducible assumption) | assumption)
            have hx9 := bt_at (⟨#[48, 49, 50, 51, 52, 53, 54, 55, 56, 57, 97, 98, 99, 100, 101, 102]⟩ : ByteArray) (Go.bits .and .u8 a1 15)
            replace p9 := eq_true p9
            replace q9 := eq_true q9
            refine start_ (n := 10) (S := fun w' => True) (ds := []) #[false, false, false, false, false, false, false, false, false, false] (by kernel_rfl) rfl rfl trivial (fun hHeld => ?_); refine with_tabW escape_two.tab1 escape_two.bits1 (fun HT_ HW_ => ?_)
            generalize w.drew = w11 at HO0 HK HB hHeld ⊢
            refine pure_ (i := 0) (N := some 5) (v := ?_) (a' := ?_) #[true, false, false, false, false, false, false, false, false, false] rfl rfl (any_of HT_.out (by kernel_rfl)) (fun _ _ _ h => h) (Or.inl ⟨by rfl, ?_⟩) ?_ ?_
            rotate_left
            · intro w'
              go_simp
              with_reducible rfl
            rotate_left
            · simp only [Act.put, List.setIfInBounds_toArray, List.set_cons_zero, List.set_cons_succ, i64_w, i32_w]
              rfl
            refine pure_ (i := 1) (N := some 6) (v := ?_) (a' := ?_) #[true, true, false, false, false, false, false, false, false, false] rfl rfl (any_of HT_.out (by kernel_rfl)) (fun _ _ _ h => h) (Or.inl ⟨by rfl, ?_⟩) ?_ ?_
            rotate_left
            · intro w'
              go_simp
              with_reducible rfl
            rotate_left
            · simp only [Act.put, List.setIfInBounds_toArray, List.set_cons_zero, List.set_cons_succ, i64_w, i32_w]
              rfl
            refine pure_ (i := 2) (N := some 7) (v := ?_) (a' := ?_) #[true, true, true, false, false, false, false, false, false, false] rfl rfl (any_of HT_.out (by kernel_rfl)) (fun _ _ _ h => h) (Or.inl ⟨by rfl, ?_⟩) ?_ ?_
            rotate_left
            · intro w'
              go_simp
              with_reducible rfl
            rotate_left
            · simp only [Act.put, List.setIfInBounds_toArray, List.set_cons_zero, List.set_cons_succ, i64_w, i32_w]
              rfl
            refine pure_ (i := 4) (N := some 9) (v := ?_) (a' := ?_) #[true, true, true, false, true, false, false, false, false, false] rfl rfl (any_of HT_.out (by kernel_rfl)) (fun _ _ _ h => h) (Or.inl ⟨by rfl, ?_⟩) ?_ ?_
            rotate_left
            · intro w'
              go_simp
              with_reducible rfl
            rotate_left
            · simp only [Act.put, List.setIfInBounds_toArray, List.set_cons_zero, List.set_cons_succ, i64_w, i32_w]
              rfl
            refine pure_ (i := 5) (N := some 10) (v := ?_) (a' := ?_) #[true, true, true, false, true, true, false, false, false, false] rfl rfl (any_of HT_.out (by kernel_rfl)) (fun _ _ _ h => h) (Or.inl ⟨by rfl, ?_⟩) ?_ ?_
            rotate_left
            · intro w'
              go_simp
              with_reducible rfl
            rotate_left
            · simp only [Act.put, List.setIfInBounds_toArray, List.set_cons_zero, List.set_cons_succ, i64_w, i32_w]
              rfl
            refine take_ (i := 3) (N := some 8) (v := ?_) (a' := ?_) #[true, true, true, true, true, true, false, false, false, false] rfl rfl (take_ofW HT_.out HW_.out (by kernel_rfl)) (fun _ _ _ h => h) (Or.inl ⟨by rfl, ?_⟩) hHeld ?_ ?_
            rotate_left
            · intro w' _
              go_simp
              with_reducible rfl
            rotate_left
            · simp only [Act.put, List.setIfInBounds_toArray, List.set_cons_zero, List.set_cons_succ, i64_w, i32_w]
              rfl
            refine take_ (i := 6) (N := some 11) (v := ?_) (a' := ?_) #[true, true, true, true, true, true, true, false, false, false] rfl rfl (take_ofW HT_.out HW_.out (by kernel_rfl)) (fun _ _ _ h => h) (Or.inl ⟨by rfl, ?_⟩) hHeld ?_ ?_
            rotate_left
            · intro w' _
              go_simp
              with_reducible rfl
            rotate_left
            · simp only [Act.put, List.setIfInBounds_toArray, List.set_cons_zero, List.set_cons_succ, i64_w, i32_w]
              rfl
            refine one_ (i := 7) (N := some 12) #[true, true, true, true, true, true, true, true, false, false] rfl rfl (one_of HT_.out (by kernel_rfl)) (by decide) (fun K hK => ?_)
            refine Kd.R_lit_step (Kd.int .u8) _ 5 ?hg (N := 12) ?hd (xs := ([92, 120, bt (⟨#[48, 49, 50, 51, 52, 53, 54, 55, 56, 57, 97, 98, 99, 100, 101, 102]⟩ : ByteArray) (ji3), bt (⟨#[48, 49, 50, 51, 52, 53, 54, 55, 56, 57, 97, 98, 99, 100, 101, 102]⟩ : ByteArray) (Go.bits .and .u8 a1 15)] : List Int)) (inner := [.int .u8 92, .int .u8 120, .int .u8 (bt (⟨#[48, 49, 50, 51, 52, 53, 54, 55, 56, 57, 97, 98, 99, 100, 101, 102]⟩ : ByteArray) (ji3)), .int .u8 (bt (⟨#[48, 49, 50, 51, 52, 53, 54, 55, 56, 57, 97, 98, 99, 100, 101, 102]⟩ : ByteArray) (Go.bits .and .u8 a1 15))]) (ok := fun _ => True) (okp := fun _ => True) ?hr ?hp (fun _ hk => hk) trivial (Below.refl _ _) (Nat.le_refl _) (by simp) ?_; (case hd => rfl); (case hg => rfl); (case hr => first | (go_simp; done) | (go_simp; rfl)); (case hp => exact (Reps.one (show Kd.M (Kd.int .u8) _ _ _ 92 [.int .u8 92] from rfl) (Reps.one (show Kd.M (Kd.int .u8) _ _ _ 120 [.int .u8 120] from rfl) (Reps.one (show Kd.M (Kd.int .u8) _ _ _ (bt (⟨#[48, 49, 50, 51, 52, 53, 54, 55, 56, 57, 97, 98, 99, 100, 101, 102]⟩ : ByteArray) (ji3)) [.int .u8 (bt (⟨#[48, 49, 50, 51, 52, 53, 54, 55, 56, 57, 97, 98, 99, 100, 101, 102]⟩ : ByteArray) (ji3))] from rfl) (Reps.one (show Kd.M (Kd.int .u8) _ _ _ (bt (⟨#[48, 49, 50, 51, 52, 53, 54, 55, 56, 57, 97, 98, 99, 100, 101, 102]⟩ : ByteArray) (Go.bits .and .u8 a1 15)) [.int .u8 (bt (⟨#[48, 49, 50, 51, 52, 53, 54, 55, 56, 57, 97, 98, 99, 100, 101, 102]⟩ : ByteArray) (Go.bits .and .u8 a1 15))] from rfl) (Reps.none _ _))))))
            intro v102 w12 ho13 hb hg_ hnew_
            clear hg_ hnew_
            (first | rw [← Ny101.out] at ho13 | (simp only [Int.reduceToNat] at ho13; rw [← Ny101.out] at ho13))
            have n0_ := Aside0.mk (Kd.R_elder' (by (with_reducible repeat (first | apply Kd.R_alloc | apply Kd.R_drewN | apply Kd.R_drew)); exact HO0.out) (Kd.R_base ho13) hb)
            have n1_ := Aside0.mk (Kd.R_lower (Kd.R_new' (Kd.R_newM (M := fun k_ => (P0_ k_ ∨ w.heap.size ≤ k_)) ho13 (by first | exact HK.out.1 | exact (show Kept w _ (fun k_ => P0_ k_) from by repeat (first | (with_reducible first | exact HK.out | apply Kept.alloc | apply Kept.drewN | apply Kept.drew) | exact HK.out)).1) (fun k_ h_ => .inr h_)) (Kd.R_lt (by (with_reducible repeat (first | apply Kd.R_alloc | apply Kd.R_drewN | apply Kd.R_drew)); exact HO0.out))) (below_size (by repeat (first | (with_reducible first | exact HB.out | apply below_alloc | apply pw_below_drewN | apply below_drew1) | exact HB.out))))
            have n2_ := Aside0.mk (Kept.below (S := (fun k_ => P0_ k_)) (by repeat (first | (with_reducible first | exact HK.out | apply Kept.alloc | apply Kept.drewN | apply Kept.drew) | exact HK.out)) hb)
            have n3_ := Aside0.mk (below_step (by repeat (first | (with_reducible first | exact HB.out | apply below_alloc | apply pw_below_drewN | apply below_drew1) | exact HB.out)) hb)
            clear HO0
            clear HK
            clear HB
            have HO0 := n0_
            have HO103 := n1_
            have HK := n2_
            have HB := n3_
            clear n0_ n1_ n2_ n3_
            clear hb ho13
            obtain ⟨Ao15, co15, eo15⟩ := Kd.R_slice HO103.out
            (first | subst eo15 | (injection eo15 with f1_ f2_ f3_; have f4_ := f1_.symm; have f5_ := f3_.symm; clear f1_ f2_ f3_; subst f4_; subst f5_))
            refine hK.out _ _ trivial (fun hHeld => ?_)
            clear hK K
            refine norm_ (a' := ?_) ?_ ?_
            rotate_left
            · show Act.put _ (some 12) _ = _
              simp only [Act.put, List.setIfInBounds_toArray, List.set_cons_zero, List.set_cons_succ, i64_w, i32_w]
              rfl
            refine one_ (i := 8) (N := some 13) #[true, true, true, true, true, true, true, true, true, false] rfl rfl (one_of HT_.out (by kernel_rfl)) (by decide) (fun K hK => ?_)
            refine Kd.R_append_rows_step (Kd.int .u8) (w0 := w0) w0.heap.size (by rfl) (.tmp 5) (.tmp 12) 22 5 (.int .u8 0) 1 rfl Tryd.underlying22 info5 rfl (by decide) (by omega) u9000_ l0 y101 _ _ _ (fun k_ => (P0_ k_ ∨ w.heap.size ≤ k_) ∧ some k_ ≠ (.slice Ao15 y101.length co15 : Value).ownBlock) (fun _ => False) rfl rfl ?aO ?aR (fun _ _ h => h) (fun _ h => h.elim) ?aF ?aB ?aS ?aL ?_
            (case aR => repeat (first | exact (Kd.R_reads' HO103.out).2.2 | (with_reducible refine Kd.C_alloc ?_ _) | (with_reducible refine Kd.C_drewN ?_ _) | (with_reducible refine Kd.C_drew ?_)))
            (case aB => exact (by repeat (first | (with_reducible first | exact HB.out | apply below_alloc | apply pw_below_drewN | apply below_drew1) | exact HB.out)))
            (case aF => exact (fun k_ hk => ⟨(.inr (Nat.le_trans (by first | exact HK.out.1 | exact (show Kept w _ (fun k_ => P0_ k_) from by repeat (first | (with_reducible first | exact HK.out | apply Kept.alloc | apply Kept.drewN | apply Kept.drew) | exact HK.out)).1) hk)), Kd.fresh' (Kd.R_lt (by (with_reducible repeat (first | apply Kd.R_alloc | apply Kd.R_drewN | apply Kd.R_drew)); exact HO103.out)) k_ hk⟩))
            (case aO => exact (by (with_reducible repeat (first | apply Kd.R_alloc | apply Kd.R_drewN | apply Kd.R_drew)); exact HO0.out))
            (case aS => exact (below_size (by repeat (first | (with_reducible first | exact HB.out | apply below_alloc | apply pw_below_drewN | apply below_drew1) | exact HB.out))))
            (case aL => have := LMc10.out; omega)
            intro v105 w14 ho hb hg hat
            rw [← Ny104.out] at ho
            have n0_ := Aside0.mk (Kd.R_after (ok := (fun k_ => (P0_ k_ ∨ w.heap.size ≤ k_))) (by (with_reducible repeat (first | apply Kd.R_alloc | apply Kd.R_drewN | apply Kd.R_drew)); exact Kd.R_mono HO103.out (fun _ hk => ⟨hk.1.1, hk.2⟩)) hg hat)
            have n1_ := Aside0.mk (hb)
            have n2_ := Aside0.mk (Kept.of_grown (S := (fun k_ => P0_ k_)) hg (by repeat (first | (with_reducible first | exact HK.out | apply Kept.alloc | apply Kept.drewN | apply Kept.drew) | exact HK.out)) (fun k_ e_ => (HO0.out.1 k_ e_).1))
            have n3_ := Aside0.mk (ho)
            clear HO103
            clear HB
            clear HK
            clear HO0
            have HO103 := n0_
            have HB := n1_
            have HK := n2_
            have HO106 := n3_
            clear n0_ n1_ n2_ n3_
            clear ho hb hg hat
            refine hK.out _ _ trivial (fun hHeld => ?_)
            clear hK K
            refine norm_ (a' := ?_) ?_ ?_
            rotate_left
            · show Act.put _ (some 13) _ = _
              simp only [Act.put, List.setIfInBounds_toArray, List.set_cons_zero, List.set_cons_succ, i64_w, i32_w]
              rfl
            refine pure_ (i := 9) (N := some 4) (v := ?_) (a' := ?_) #[true, true, true, true, true, true, true, true, true, true] rfl rfl (any_of HT_.out (by kernel_rfl)) (fun _ _ _ h => h) (Or.inl ⟨by rfl, ?_⟩) ?_ ?_
            rotate_left
            · intro w'
              go_simp
              with_reducible rfl
            rotate_left
            · simp only [Act.put, List.setIfInBounds_toArray, List.set_cons_zero, List.set_cons_succ, i64_w, i32_w]
              rfl
            refine done_ (done_of HT_.out (by kernel_rfl)) ?_
            try go_wp2
            go_ret
            exact ⟨_, by first | rfl | (simp [errW_none, errW_some] <;> rfl) | (simp only [← hji3]; first | rfl | (simp [errW_none, errW_some] <;> rfl)) | (simp [*, errW_none, errW_some] <;> rfl), by (with_reducible repeat (first | apply Kd.R_alloc | apply Kd.R_drewN | apply Kd.R_drew)); exact Kd.R_mono HO106.out (fun _ hk => hk.1), by repeat (first | (with_reducible first | exact HB.out | apply below_alloc | apply pw_below_drewN | apply below_drew1) | exact HB.out), by repeat (first | (with_reducible first | exact HK.out | apply Kept.alloc | apply Kept.drewN | apply Kept.drew) | exact HK.out)⟩
          · rw [if_neg c10] at H
            exact absurd H (by simp)
        · rw [if_neg c8] at H
          exact absurd H (by simp)
      · rw [if_neg c7] at H
        exact absurd H (by simp)
    · rw [if_neg c5] at H
      exact absurd H (by simp)
  · rw [if_neg c4] at H
    exact absurd H (by simp)
end Go.Proofs.YtflddgoapibleaaDoor.Esc

namespace Go.Proofs.YtflddgoapibleaaDoor.Hand
open Go.RowKit Go.Proofs.YtflddgoapibleaaDoor.Esc Go.Proofs.YtflddgoapibleaaDoorW.PrintWords Go.Proofs.YtflddgoapibleaaDoorW.PrintLast Go.Proofs.YtflddgoapibleaaDoorW.PrintMore
theorem hex16_all : ∀ n : Fin 16, bt (⟨#[48, 49, 50, 51, 52, 53, 54, 55, 56, 57, 97, 98, 99, 100, 101, 102]⟩ : ByteArray) (n.1 : Int) = hexDigit (n.1 : Int) := by decide +kernel
theorem hex16 (n : Int) (h0 : 0 ≤ n) (h1 : n < 16) : bt (⟨#[48, 49, 50, 51, 52, 53, 54, 55, 56, 57, 97, 98, 99, 100, 101, 102]⟩ : ByteArray) n = hexDigit n := by
  have := hex16_all ⟨n.toNat, by omega⟩
  rwa [show ((n.toNat : Nat) : Int) = n by omega] at this
theorem two_f (D : List Int) (a : Int) (h0 : 0 ≤ a) (h1 : a ≤ 255) (hD : D.length ≤ 100000000000) : escape_two.f D a = some (D ++ [92, 120, hexDigit (a / 16), hexDigit (a % 16)]) := by
  unfold escape_two.f
  rw [u8_and15 a h0 (by omega), if_pos (by omega), if_pos (by omega), if_pos (by omega), if_pos (by omega), hex16 (a / 16) (by omega) (by omega), hex16 (a % 16) (by omega) (by omega)]
  simp only [Option.bind_some]
  rw [if_pos (by simp; omega)]
theorem dec_shape (l : List Int) (h : 128 ≤ l.getD 0 (-1)) : (dec l).2 = 1 → (dec l).1 = 65533 := by
  rw [dec_eq4]; unfold dec4
  rw [if_neg (by omega)]
  repeat' split
  all_goals simp
theorem cont_iff (x : Int) : cont x = true ↔ 128 ≤ x ∧ x ≤ 191 := by unfold cont; simp
theorem take3 (l : List Int) (a b c : Int) (ha : 0 ≤ a) (hb : 0 ≤ b) (hc : 0 ≤ c) : l.take 3 = [a, b, c] ↔ l.getD 0 (-1) = a ∧ l.getD 1 (-1) = b ∧ l.getD 2 (-1) = c := by
  match l with
  | [] => simp; omega
  | [x] => simp; omega
  | [x, y] => simp; omega
  | x :: y :: z :: t => simp
theorem dec_fffd (l : List Int) (h : 128 ≤ l.getD 0 (-1)) (h1 : (dec l).1 = 65533) : (dec l).2 = 1 ↔ ¬ l.take 3 = [239, 191, 189] := by
  rw [take3 l _ _ _ (by decide) (by decide) (by decide)]
  revert h1
  rw [dec_eq4]; unfold dec4
  rw [if_neg (by omega)]
  simp only [cont_iff, second, decide_eq_true_eq]
  split
  · intro h1; simp only at h1 ⊢; omega
  split
  · intro h1; simp only at h1 ⊢; omega
  split
  · intro h1; simp only at h1 ⊢; omega
  · intro _; simp only [true_iff]; rintro ⟨e1, e2, e3⟩; omega
theorem pc_plain (l : List Int) (a : Int) (ha : a = l.getD 0 (-1)) (h0 : 32 ≤ a) (h1 : a < 127) (hn : ¬ (a = 9 ∨ a = 10 ∨ a = 13 ∨ a = 92)) : [a] = pc l := by
  unfold pc; rw [← ha]
  rw [if_neg (by omega), if_neg (by omega), if_neg (by omega), if_neg (by omega), if_pos ⟨h0, h1⟩]
theorem pc_hex (l : List Int) (a : Int) (ha : a = l.getD 0 (-1)) (h1 : ¬ (32 ≤ a ∧ a < 127)) (hn : ¬ (a = 9 ∨ a = 10 ∨ a = 13 ∨ a = 92)) (hd : (dec l).2 = 1) : [92, 120, hexDigit (a / 16), hexDigit (a % 16)] = pc l := by
  unfold pc; rw [← ha]
  rw [if_neg (by omega), if_neg (by omega), if_neg (by omega), if_neg (by omega), if_neg h1, if_pos hd]
theorem pc_rune (l : List Int) (a R : Int) (ha : a = l.getD 0 (-1)) (h1 : 128 ≤ a) (hd : ¬ (dec l).2 = 1) (hR : R = (dec l).1) : [92, 117, 123] ++ hexN 8 R ++ [125] = pc l := by
  unfold pc; rw [← ha]
  rw [if_neg (by omega), if_neg (by omega), if_neg (by omega), if_neg (by omega), if_neg (by omega), if_neg hd, hR]
theorem dec_low (l : List Int) (h : l.getD 0 (-1) < 128) : (dec l).2 = 1 := by rw [dec_eq4]; unfold dec4; rw [if_pos h]
theorem hexN_len : ∀ (k : Nat) (x : Int), (hexN k x).length ≤ k := by
  intro k
  induction k with
  | zero => intro x; simp [hexN]
  | succ k ih => intro x; rw [hexN]; split <;> simp; exact ih _
theorem prefix_f (l : List Int) (hb : Bytes l) (pos : Nat) (hp : pos ≤ l.length) (h62 : l.length ≤ 1073741824) :
    strings_HasPrefix.f ((strOfNums l).extract ((pos : Int)).toNat (strOfNums l).size) ⟨#[239, 191, 189]⟩ = some (decide ((l.drop pos).take 3 = [239, 191, 189])) := by
  have hsz := strOfNums_size l
  have e0 : ((pos : Int)).toNat = pos := by omega
  have hs3 : (⟨#[239, 191, 189]⟩ : ByteArray).size = 3 := by decide
  have hl3 : (⟨#[239, 191, 189]⟩ : ByteArray).toList = [239, 191, 189] := by rw [ByteArray.toList_eq]
  have hx : ((strOfNums l).extract pos (strOfNums l).size).size = l.length - pos := by rw [ByteArray.size_extract, hsz]; omega
  unfold strings_HasPrefix.f stringslite_HasPrefix.f
  rw [e0, hx, hs3]
  by_cases h3 : ((l.length - pos : Nat) : Int) ≥ ((3 : Nat) : Int)
  · rw [if_pos h3, if_pos (by decide), if_pos h3]
    simp only [Option.bind_some, Option.some.injEq]
    have e3 : (((3 : Nat) : Int)).toNat = 3 := by decide
    rw [e3, hl3]
    have hx2 : (((strOfNums l).extract pos (strOfNums l).size).extract 0 3).toList = ((l.drop pos).take 3).map (fun n => UInt8.ofNat n.toNat) := by
      rw [ByteArray.toList_eq, Lib.extract_data, Lib.extract_data, strOfNums_data]
      rw [strOfNums_size, List.drop_zero, List.take_take, List.map_take, List.map_drop]
      congr 1
      simp only [ge_iff_le] at h3
      omega
    rw [hx2]
    have hbb := bytes_of_take (bytes_of_drop hb pos) 3
    generalize (l.drop pos).take 3 = m at hbb
    have key : ∀ m : List Int, Bytes m → ((m.map (fun n => UInt8.ofNat n.toNat) = [239, 191, 189]) ↔ m = [239, 191, 189]) := by
      intro m hm
      constructor
      · intro h
        have h2 := congrArg (List.map (fun b : UInt8 => (b.toNat : Int))) h
        rw [List.map_map] at h2
        have h3 : m.map ((fun b : UInt8 => (b.toNat : Int)) ∘ (fun n : Int => UInt8.ofNat n.toNat)) = m := by
          conv => rhs; rw [← List.map_id m]
          apply List.map_congr_left
          intro x hx
          have := hm x hx
          simp; omega
        rw [h3] at h2
        simpa using h2
      · rintro rfl; decide
    rw [Bool.eq_iff_iff]
    simp only [beq_iff_eq, decide_eq_true_eq]
    exact key m hbb
  · rw [if_neg h3]
    simp only [Option.bind_some, Option.some.injEq]
    symm
    apply decide_eq_false
    intro h
    have := congrArg List.length h
    rw [List.length_take, List.length_drop] at this
    simp at this; omega
end Go.Proofs.YtflddgoapibleaaDoor.Hand

namespace Go.Proofs.YtflddgoapibleaaDoor.Esc
open Go.RowKit Go.Proofs.YtflddgoapibleaaDoor.Hand Go.Proofs.YtflddgoapibleaaDoorW.PrintWords Go.Proofs.YtflddgoapibleaaDoorW.PrintLast Go.Proofs.YtflddgoapibleaaDoorW.PrintMore
attribute [local go_sem] max2_int min2_int max_two min_two max_three min_three max_four min_four
set_option linter.unusedVariables false
set_option linter.unusedSimpArgs false
def galleylaw23_own.f (l0 : List Int) : Option (List Int) := (some (([] : List Int) : List Int)).bind fun y158 => (if y158.length + l0.length < 140737488355328 then (some (y158 ++ l0)) else (none))
set_option maxHeartbeats 8000000 in
set_option maxRecDepth 100000 in
theorem galleylaw23_own.calls (A0 : Option Addr) (c0 : Nat) (l0 : List Int) (r : List Int) (w : World) (hr0 : Kd.C (Kd.int .u8) w A0 l0.length l0) (hc0 : l0.length ≤ c0) (h : galleylaw23_own.f l0 = some r) :
    Calls Tryd.prog 12 #[.slice A0 l0.length c0] w fun e w' => ∃ v0_ : Value, e = .returned (v0_) ∧ Kd.R (Kd.int .u8) 5 w' w.heap.size (fun _ => True) v0_ r ∧ Below w.heap.size w w' := by
  have HR0 := Aside0.mk hr0
  have HC0 := Aside0.mk hc0
  clear hr0 hc0
  have HB := Aside0.mk (Below.refl w.heap.size w)
  have H : ((some (([] : List Int) : List Int)).bind fun y158 => (if y158.length + l0.length < 140737488355328 then (some (y158 ++ l0)) else (none))) = some r := h
  clear h
  obtain ⟨y158, hy158⟩ : ∃ y_ : List Int, y_ = (([] : List Int)) := ⟨_, rfl⟩
  replace H : (if y158.length + l0.length < 140737488355328 then (some (y158 ++ l0)) else (none)) = some r := by first | (rw [hy158]; with_reducible exact H) | (have H2_ := (Option.bind_some _ _).symm.trans H; rw [hy158]; with_reducible exact H2_) | (have H2_ := (Option.bind_some _ _).symm.trans H; with_reducible exact H2_) | with_reducible exact H | (rw [hy158]; exact H) | exact H
  have Ny158 := Aside0.mk hy158
  clear hy158
  by_cases c2 : y158.length + l0.length < 140737488355328
  · rw [if_pos c2] at H
    have LMc2 := Aside0.mk c2
    clear c2
    obtain ⟨y161, hy161⟩ : ∃ y_ : List Int, y_ = (y158 ++ l0) := ⟨_, rfl⟩
    replace H : (some y161) = some r := by first | (rw [hy161]; with_reducible exact H) | (have H2_ := (Option.bind_some _ _).symm.trans H; rw [hy161]; with_reducible exact H2_) | (have H2_ := (Option.bind_some _ _).symm.trans H; with_reducible exact H2_) | with_reducible exact H | (rw [hy161]; exact H) | exact H
    have Ny161 := Aside0.mk hy161
    clear hy161
    obtain rfl := Option.some.inj H
    go_enter Tryd.func12, Tryd.ntmps12
    go_wp2_with (first | ((with_reducible refine gate_dst (N := 3) rfl ?_); refine Kd.R_lit (Kd.int .u8) _ 5 ?hg (N := 3) ?hd (xs := ([] : List Int)) (inner := []) (ok := fun _ => True) (okp := fun _ => True) ?hr ?hp (fun _ hk => hk) trivial (Below.refl _ _) (Nat.le_refl _) (by simp) ?_; (case hd => rfl); (case hg => rfl); (case hr => first | (go_simp; done) | (go_simp; rfl)); (case hp => exact (Reps.none _ _)); intro v159 w3 ho4 hb hg_ hnew_; clear hg_ hnew_; (first | rw [← Ny158.out] at ho4 | (simp only [Int.reduceToNat] at ho4; rw [← Ny158.out] at ho4)); have n0_ := Aside0.mk (Kd.R_lower ho4 (below_size (by repeat (first | (with_reducible first | exact HB.out | apply below_alloc | apply pw_below_drewN | apply below_drew1) | exact HB.out)))); have n1_ := Aside0.mk (below_step (by repeat (first | (with_reducible first | exact HB.out | apply below_alloc | apply pw_below_drewN | apply below_drew1) | exact HB.out)) hb); clear HB; have HO160 := n0_; have HB := n1_; clear n0_ n1_; clear hb ho4) | ((with_reducible refine gate_builtin (b := .append) (xs := #[.tmp 3, .tmp 4]) rfl ?_); at_builtin; refine Kd.R_append_rows (Kd.int .u8) (w0 := w) w.heap.size rfl (.tmp 3) (.tmp 4) 22 5 (.int .u8 0) 1 rfl Tryd.underlying22 info5 rfl (by decide) (by omega) v159 y158 l0 _ _ _ (fun _ => True) (fun _ => False) rfl rfl ?aO ?aR (fun _ _ h => h) (fun _ h => h.elim) ?aF ?aB ?aS ?aL ?_; (case aR => repeat (first | exact (Kd.C_below HR0.out HB.out) | (with_reducible refine Kd.C_alloc ?_ _) | (with_reducible refine Kd.C_drewN ?_ _) | (with_reducible refine Kd.C_drew ?_))); (case aB => exact (by repeat (first | (with_reducible first | exact HB.out | apply below_alloc | apply pw_below_drewN | apply below_drew1) | exact HB.out))); (case aF => exact (fun _ _ => trivial)); (case aO => exact (by (with_reducible repeat (first | apply Kd.R_alloc | apply Kd.R_drewN | apply Kd.R_drew)); exact HO160.out)); (case aS => exact (below_size (by repeat (first | (with_reducible first | exact HB.out | apply below_alloc | apply pw_below_drewN | apply below_drew1) | exact HB.out)))); (case aL => have := LMc2.out; omega); intro v162 w5 ho hb hg hat; rw [← Ny161.out] at ho; have n0_ := Aside0.mk (hb); have n1_ := Aside0.mk (ho); clear HB; clear HO160; have HB := n0_; have HO163 := n1_; clear n0_ n1_; clear ho hb hg hat))
    go_ret
    exact ⟨_, by first | rfl | (simp [errW_none, errW_some] <;> rfl) | (simp [*, errW_none, errW_some] <;> rfl), by (with_reducible repeat (first | apply Kd.R_alloc | apply Kd.R_drewN | apply Kd.R_drew)); exact HO163.out, by repeat (first | (with_reducible first | exact HB.out | apply below_alloc | apply pw_below_drewN | apply below_drew1) | exact HB.out)⟩
  · rw [if_neg c2] at H
    exact absurd H (by simp)
end Go.Proofs.YtflddgoapibleaaDoor.Esc

namespace Go.Proofs.YtflddgoapibleaaDoor.Esc
open Go.RowKit Go.Proofs.YtflddgoapibleaaDoor.Hand Go.Proofs.YtflddgoapibleaaDoorW.PrintWords Go.Proofs.YtflddgoapibleaaDoorW.PrintLast Go.Proofs.YtflddgoapibleaaDoorW.PrintMore
attribute [local go_sem] max2_int min2_int max_two min_two max_three min_three max_four min_four
set_option linter.unusedVariables false
set_option linter.unusedSimpArgs false
def escape_Hex.l0 : Nat → List Int → List Int → Int → Int → Option (ByteArray)
  | 0, _, _, _, _ => none
  | k + 1, x3, x6, x7, x8 => if x8 < x7 then (if 0 ≤ x8 then (if x8 < (x6.length : Int) then (if 0 ≤ ((rd x6 x8) / 16) then (if ((rd x6 x8) / 16) < 16 then (if 0 ≤ (Go.bits .and .u8 (rd x6 x8) 15) then (if (Go.bits .and .u8 (rd x6 x8) 15) < 16 then ((some (([bt (⟨#[48, 49, 50, 51, 52, 53, 54, 55, 56, 57, 97, 98, 99, 100, 101, 102]⟩ : ByteArray) ((rd x6 x8) / 16), bt (⟨#[48, 49, 50, 51, 52, 53, 54, 55, 56, 57, 97, 98, 99, 100, 101, 102]⟩ : ByteArray) (Go.bits .and .u8 (rd x6 x8) 15)] : List Int) : List Int)).bind fun y199 => (if x3.length + y199.length < 140737488355328 then (escape_Hex.l0 k (x3 ++ y199) x6 x7 (wrap64 (x8 + 1))) else (none))) else (none)) else (none)) else (none)) else (none)) else (none)) else (none)) else (some (strOfNums x3))
def escape_Hex.f (k : Nat) (l0 : List Int) : Option (ByteArray) := escape_Hex.l0 k ([] : List Int) l0 (l0.length : Int) 0
def escape_Hex.T5 : Bool × List (List Nat × List Nat) := (true, [([], []), ([], []), ([1], [1]), ([2], [2]), ([], []), ([4], [4]), ([5], [5]), ([3, 6], [3, 6]), ([0, 7], [0, 7]), ([8, 8, 0, 1, 2, 3, 4, 5, 6, 7, 8], [0, 8])])
def escape_Hex.B5 : List Nat := [0, 0, 2, 6, 0, 16, 48, 126, 255, 511]
theorem escape_Hex.tab5 : rtab .any (opsOf Tryd.f16 5) = escape_Hex.T5 := by kernel_rfl
theorem escape_Hex.bits5 : waitsOk escape_Hex.T5.2 escape_Hex.B5 = true := by kernel_rfl
set_option maxHeartbeats 8000000 in
set_option maxRecDepth 100000 in
theorem escape_Hex.calls (k : Nat) (A0 : Option Addr) (c0 : Nat) (l0 : List Int) (r : ByteArray) (w : World) (hr0 : Kd.C (Kd.int .u8) w A0 l0.length l0) (hc0 : l0.length ≤ c0) (h : escape_Hex.f k l0 = some r) :
    Calls Tryd.prog 16 #[.slice A0 l0.length c0] w fun e w' => e = .returned (.string r) ∧ Below w.heap.size w w' := by
  have HR0 := Aside0.mk hr0
  have HC0 := Aside0.mk hc0
  clear hr0 hc0
  have HB := Aside0.mk (Below.refl w.heap.size w)
  have H : (escape_Hex.l0 k ([] : List Int) l0 (l0.length : Int) 0) = some r := h
  clear h
  have H' := Aside0.mk H
  clear H
  go_enter Tryd.func16, Tryd.ntmps16
  go_wp2
  go_loopg [3, 8] k (fun kq v3 v8 w' => ∃ (x3_1 : List Int) (x8_1 : Int), v8 = .int .i64 x8_1 ∧ Aside0 (escape_Hex.l0 kq x3_1 l0 (l0.length : Int) x8_1 = some r) ∧ Aside0 (kq ≤ k) ∧ Aside0 (Kd.R (Kd.int .u8) 5 w' w.heap.size (fun _ => True) v3 x3_1) ∧ Aside0 (Below w.heap.size w w'))
  case atStart => exact ⟨(([] : List Int)), (0), (by first | rfl | (simp; done) | (simp [*]; done)), H', ⟨Nat.le_refl _⟩, ⟨by first | exact Kd.R_nil _ _ _ _ _ | exact Kd.N_nil _ _ _ _ _ | exact Kd.V_nil _ _ _ _ _ | exact Kd.Q_nil _ _ _ _ _ | exact Kd.S_nil _ _ _ _ _⟩, ⟨by repeat (first | (with_reducible first | exact HB.out | apply below_alloc | apply pw_below_drewN | apply below_drew1) | exact HB.out)⟩⟩
  case round =>
    clear H'
    try clear c1
    obtain ⟨x3_1, x8_1, rfl, HA, HK1, HO_3, HB⟩ := hrel
    cases gk with
    | zero => exact absurd HA.out (by simp [escape_Hex.l0])
    | succ k1 =>
      have H := HA.out
      clear HA
      simp only [escape_Hex.l0] at H
      by_cases c2 : x8_1 < (l0.length : Int)
      · rw [if_pos c2] at H
        have c2b0 : decide (x8_1 < (l0.length : Int)) = true := decide_eq_true c2
        clear c2
        by_cases c3 : 0 ≤ x8_1
        · rw [if_pos c3] at H
          have c3b0 : decide (0 ≤ x8_1) = true := decide_eq_true c3
          clear c3
          by_cases c4 : x8_1 < (l0.length : Int)
          · rw [if_pos c4] at H
            have c4b0 : decide (x8_1 < (l0.length : Int)) = true := decide_eq_true c4
            clear c4
            obtain ⟨ji5, hji5⟩ : ∃ j_ : Int, ((rd l0 x8_1) / 16) = j_ := ⟨_, rfl⟩
            replace H : (if 0 ≤ (ji5) then (if (ji5) < 16 then (if 0 ≤ (Go.bits .and .u8 (rd l0 x8_1) 15) then (if (Go.bits .and .u8 (rd l0 x8_1) 15) < 16 then ((some (([bt (⟨#[48, 49, 50, 51, 52, 53, 54, 55, 56, 57, 97, 98, 99, 100, 101, 102]⟩ : ByteArray) (ji5), bt (⟨#[48, 49, 50, 51, 52, 53, 54, 55, 56, 57, 97, 98, 99, 100, 101, 102]⟩ : ByteArray) (Go.bits .and .u8 (rd l0 x8_1) 15)] : List Int) : List Int)).bind fun y199 => (if x3_1.length + y199.length < 140737488355328 then (escape_Hex.l0 k1 (x3_1 ++ y199) l0 (l0.length : Int) (wrap64 (x8_1 + 1))) else (none))) else (none)) else (none)) else (none)) else (none)) = some r := by first | (rw [hji5] at H; exact H) | (simp only [hji5] at H ⊢; exact H)
            by_cases c6 : 0 ≤ (ji5)
            · rw [if_pos c6] at H
              have c6b0 : decide (0 ≤ (ji5)) = true := decide_eq_true c6
              clear c6
              by_cases c7 : (ji5) < 16
              · rw [if_pos c7] at H
                have c7b0 : decide ((ji5) < 16) = true := decide_eq_true c7
                clear c7
                by_cases c9 : 0 ≤ (Go.bits .and .u8 (rd l0 x8_1) 15)
                · rw [if_pos c9] at H
                  have c9b0 : decide (0 ≤ (Go.bits .and .u8 (rd l0 x8_1) 15)) = true := decide_eq_true c9
                  clear c9
                  by_cases c10 : (Go.bits .and .u8 (rd l0 x8_1) 15) < 16
                  · rw [if_pos c10] at H
                    have c10b0 : decide ((Go.bits .and .u8 (rd l0 x8_1) 15) < 16) = true := decide_eq_true c10
                    clear c10
                    obtain ⟨y199, hy199⟩ : ∃ y_ : List Int, y_ = (([bt (⟨#[48, 49, 50, 51, 52, 53, 54, 55, 56, 57, 97, 98, 99, 100, 101, 102]⟩ : ByteArray) (ji5), bt (⟨#[48, 49, 50, 51, 52, 53, 54, 55, 56, 57, 97, 98, 99, 100, 101, 102]⟩ : ByteArray) (Go.bits .and .u8 (rd l0 x8_1) 15)] : List Int)) := ⟨_, rfl⟩
                    replace H : (if x3_1.length + y199.length < 140737488355328 then (escape_Hex.l0 k1 (x3_1 ++ y199) l0 (l0.length : Int) (wrap64 (x8_1 + 1))) else (none)) = some r := by first | (rw [hy199]; with_reducible exact H) | (have H2_ := (Option.bind_some _ _).symm.trans H; rw [hy199]; with_reducible exact H2_) | (have H2_ := (Option.bind_some _ _).symm.trans H; with_reducible exact H2_) | with_reducible exact H | (rw [hy199]; exact H) | exact H
                    have Ny199 := Aside0.mk hy199
                    clear hy199
                    by_cases c12 : x3_1.length + y199.length < 140737488355328
                    · rw [if_pos c12] at H
                      have LMc12 := Aside0.mk c12
                      clear c12
                      obtain ⟨y202, hy202⟩ : ∃ y_ : List Int, y_ = (x3_1 ++ y199) := ⟨_, rfl⟩
                      replace H : (escape_Hex.l0 k1 y202 l0 (l0.length : Int) (wrap64 (x8_1 + 1))) = some r := by first | (rw [hy202]; with_reducible exact H) | (have H2_ := (Option.bind_some _ _).symm.trans H; rw [hy202]; with_reducible exact H2_) | (have H2_ := (Option.bind_some _ _).symm.trans H; with_reducible exact H2_) | with_reducible exact H | (rw [hy202]; exact H) | exact H
                      have Ny202 := Aside0.mk hy202
                      clear hy202
                      have H' := Aside0.mk H
                      clear H
                      have p198 : 0 ≤ (x8_1 : Int) := of_decide_eq_true (by first | (with_reducible assumption) | assumption)
                      have q198 : x8_1 < (l0.length : Int) := of_decide_eq_true (by first | (with_reducible assumption) | assumption)
                      obtain ⟨ad198, e198, hx198_0⟩ := Kd.at_int HR0.out x8_1 p198 q198
                      cases e198
                      replace hx198_0 := (HB.out.cell (World.block_lt_of_cell? w _ hx198_0)).trans hx198_0
                      replace p198 := eq_true p198
                      replace q198 := eq_true q198
                      try go_wp2
                      have n0_ := Aside0.mk (Kd.R_drew HO_3.out)
                      have n1_ := Aside0.mk (below_drew1 HB.out)
                      clear HO_3
                      clear HB
                      have HO_3 := n0_
                      have HB := n1_
                      clear n0_ n1_
                      have p8 : 0 ≤ ((ji5) : Int) := of_decide_eq_true (by first | (with_reducible assumption) | assumption)
                      have q8 : (ji5) < (16 : Int) := of_decide_eq_true (by first | (with_reducible assumption) | assumption)
                      have hx8 := bt_at (⟨#[48, 49, 50, 51, 52, 53, 54, 55, 56, 57, 97, 98, 99, 100, 101, 102]⟩ : ByteArray) (ji5)
                      replace p8 := eq_true p8
                      replace q8 := eq_true q8
                      have p11 : 0 ≤ ((Go.bits .and .u8 (rd l0 x8_1) 15) : Int) := of_decide_eq_true (by first | (with_reducible assumption) | assumption)
                      have q11 : (Go.bits .and .u8 (rd l0 x8_1) 15) < (16 : Int) := of_decide_eq_true (by first | (with_reducible assumption) | assumption)
                      have hx11 := bt_at (⟨#[48, 49, 50, 51, 52, 53, 54, 55, 56, 57, 97, 98, 99, 100, 101, 102]⟩ : ByteArray) (Go.bits .and .u8 (rd l0 x8_1) 15)
                      replace p11 := eq_true p11
                      replace q11 := eq_true q11
                      refine start_ (n := 10) (S := fun w' => True) (ds := []) #[false, false, false, false, false, false, false, false, false, false] (by kernel_rfl) rfl rfl trivial (fun hHeld => ?_); refine with_tabW escape_Hex.tab5 escape_Hex.bits5 (fun HT_ HW_ => ?_)
                      generalize wr.drew = w13 at HO_3 HB hHeld ⊢
                      refine pure_ (i := 0) (N := some 12) (v := ?_) (a' := ?_) #[true, false, false, false, false, false, false, false, false, false] rfl rfl (any_of HT_.out (by kernel_rfl)) (fun _ _ _ h => h) (Or.inl ⟨by rfl, ?_⟩) ?_ ?_
                      rotate_left
                      · intro w'
                        go_simp
                        with_reducible rfl
                      rotate_left
                      · simp only [Act.put, List.setIfInBounds_toArray, List.set_cons_zero, List.set_cons_succ, i64_w, i32_w]
                        rfl
                      refine pure_ (i := 1) (N := some 13) (v := ?_) (a' := ?_) #[true, true, false, false, false, false, false, false, false, false] rfl rfl (any_of HT_.out (by kernel_rfl)) (fun _ _ _ h => h) (Or.inl ⟨by rfl, ?_⟩) ?_ ?_
                      rotate_left
                      · intro w'
                        go_simp
                        with_reducible rfl
                      rotate_left
                      · simp only [Act.put, List.setIfInBounds_toArray, List.set_cons_zero, List.set_cons_succ, i64_w, i32_w]
                        rfl
                      refine pure_ (i := 2) (N := some 14) (v := ?_) (a' := ?_) #[true, true, true, false, false, false, false, false, false, false] rfl rfl (any_of HT_.out (by kernel_rfl)) (fun _ _ _ h => h) (Or.inl ⟨by rfl, ?_⟩) ?_ ?_
                      rotate_left
                      · intro w'
                        go_simp
                        with_reducible rfl
                      rotate_left
                      · simp only [Act.put, List.setIfInBounds_toArray, List.set_cons_zero, List.set_cons_succ, i64_w, i32_w]
                        rfl
                      refine pure_ (i := 4) (N := some 16) (v := ?_) (a' := ?_) #[true, true, true, false, true, false, false, false, false, false] rfl rfl (any_of HT_.out (by kernel_rfl)) (fun _ _ _ h => h) (Or.inl ⟨by rfl, ?_⟩) ?_ ?_
                      rotate_left
                      · intro w'
                        go_simp
                        with_reducible rfl
                      rotate_left
                      · simp only [Act.put, List.setIfInBounds_toArray, List.set_cons_zero, List.set_cons_succ, i64_w, i32_w]
                        rfl
                      refine pure_ (i := 5) (N := some 17) (v := ?_) (a' := ?_) #[true, true, true, false, true, true, false, false, false, false] rfl rfl (any_of HT_.out (by kernel_rfl)) (fun _ _ _ h => h) (Or.inl ⟨by rfl, ?_⟩) ?_ ?_
                      rotate_left
                      · intro w'
                        go_simp
                        with_reducible rfl
                      rotate_left
                      · simp only [Act.put, List.setIfInBounds_toArray, List.set_cons_zero, List.set_cons_succ, i64_w, i32_w]
                        rfl
                      refine take_ (i := 3) (N := some 15) (v := ?_) (a' := ?_) #[true, true, true, true, true, true, false, false, false, false] rfl rfl (take_ofW HT_.out HW_.out (by kernel_rfl)) (fun _ _ _ h => h) (Or.inl ⟨by rfl, ?_⟩) hHeld ?_ ?_
                      rotate_left
                      · intro w' _
                        go_simp
                        with_reducible rfl
                      rotate_left
                      · simp only [Act.put, List.setIfInBounds_toArray, List.set_cons_zero, List.set_cons_succ, i64_w, i32_w]
                        rfl
                      refine take_ (i := 6) (N := some 18) (v := ?_) (a' := ?_) #[true, true, true, true, true, true, true, false, false, false] rfl rfl (take_ofW HT_.out HW_.out (by kernel_rfl)) (fun _ _ _ h => h) (Or.inl ⟨by rfl, ?_⟩) hHeld ?_ ?_
                      rotate_left
                      · intro w' _
                        go_simp
                        with_reducible rfl
                      rotate_left
                      · simp only [Act.put, List.setIfInBounds_toArray, List.set_cons_zero, List.set_cons_succ, i64_w, i32_w]
                        rfl
                      refine one_ (i := 7) (N := some 19) #[true, true, true, true, true, true, true, true, false, false] rfl rfl (one_of HT_.out (by kernel_rfl)) (by decide) (fun K hK => ?_)
                      refine Kd.R_lit_step (Kd.int .u8) _ 5 ?hg (N := 19) ?hd (xs := ([bt (⟨#[48, 49, 50, 51, 52, 53, 54, 55, 56, 57, 97, 98, 99, 100, 101, 102]⟩ : ByteArray) (ji5), bt (⟨#[48, 49, 50, 51, 52, 53, 54, 55, 56, 57, 97, 98, 99, 100, 101, 102]⟩ : ByteArray) (Go.bits .and .u8 (rd l0 x8_1) 15)] : List Int)) (inner := [.int .u8 (bt (⟨#[48, 49, 50, 51, 52, 53, 54, 55, 56, 57, 97, 98, 99, 100, 101, 102]⟩ : ByteArray) (ji5)), .int .u8 (bt (⟨#[48, 49, 50, 51, 52, 53, 54, 55, 56, 57, 97, 98, 99, 100, 101, 102]⟩ : ByteArray) (Go.bits .and .u8 (rd l0 x8_1) 15))]) (ok := fun _ => True) (okp := fun _ => True) ?hr ?hp (fun _ hk => hk) trivial (Below.refl _ _) (Nat.le_refl _) (by simp) ?_; (case hd => rfl); (case hg => rfl); (case hr => first | (go_simp; done) | (go_simp; rfl)); (case hp => exact (Reps.one (show Kd.M (Kd.int .u8) _ _ _ (bt (⟨#[48, 49, 50, 51, 52, 53, 54, 55, 56, 57, 97, 98, 99, 100, 101, 102]⟩ : ByteArray) (ji5)) [.int .u8 (bt (⟨#[48, 49, 50, 51, 52, 53, 54, 55, 56, 57, 97, 98, 99, 100, 101, 102]⟩ : ByteArray) (ji5))] from rfl) (Reps.one (show Kd.M (Kd.int .u8) _ _ _ (bt (⟨#[48, 49, 50, 51, 52, 53, 54, 55, 56, 57, 97, 98, 99, 100, 101, 102]⟩ : ByteArray) (Go.bits .and .u8 (rd l0 x8_1) 15)) [.int .u8 (bt (⟨#[48, 49, 50, 51, 52, 53, 54, 55, 56, 57, 97, 98, 99, 100, 101, 102]⟩ : ByteArray) (Go.bits .and .u8 (rd l0 x8_1) 15))] from rfl) (Reps.none _ _))))
                      intro v200 w14 ho15 hb hg_ hnew_
                      clear hg_ hnew_
                      (first | rw [← Ny199.out] at ho15 | (simp only [Int.reduceToNat] at ho15; rw [← Ny199.out] at ho15))
                      have n0_ := Aside0.mk (Kd.R_elder' (by (with_reducible repeat (first | apply Kd.R_alloc | apply Kd.R_drewN | apply Kd.R_drew)); exact HO_3.out) (Kd.R_base ho15) hb)
                      have n1_ := Aside0.mk (Kd.R_lower (Kd.R_new' ho15 (Kd.R_lt (by (with_reducible repeat (first | apply Kd.R_alloc | apply Kd.R_drewN | apply Kd.R_drew)); exact HO_3.out))) (below_size (by repeat (first | (with_reducible first | exact HB.out | apply below_alloc | apply pw_below_drewN | apply below_drew1) | exact HB.out))))
                      have n2_ := Aside0.mk (below_step (by repeat (first | (with_reducible first | exact HB.out | apply below_alloc | apply pw_below_drewN | apply below_drew1) | exact HB.out)) hb)
                      clear HO_3
                      clear HB
                      have HO_3 := n0_
                      have HO201 := n1_
                      have HB := n2_
                      clear n0_ n1_ n2_
                      clear hb ho15
                      obtain ⟨Ao17, co17, eo17⟩ := Kd.R_slice HO201.out
                      (first | subst eo17 | (injection eo17 with f1_ f2_ f3_; have f4_ := f1_.symm; have f5_ := f3_.symm; clear f1_ f2_ f3_; subst f4_; subst f5_))
                      refine hK.out _ _ trivial (fun hHeld => ?_)
                      clear hK K
                      refine norm_ (a' := ?_) ?_ ?_
                      rotate_left
                      · show Act.put _ (some 19) _ = _
                        simp only [Act.put, List.setIfInBounds_toArray, List.set_cons_zero, List.set_cons_succ, i64_w, i32_w]
                        rfl
                      refine one_ (i := 8) (N := some 20) #[true, true, true, true, true, true, true, true, true, false] rfl rfl (one_of HT_.out (by kernel_rfl)) (by decide) (fun K hK => ?_)
                      refine Kd.R_append_rows_step (Kd.int .u8) (w0 := w) w.heap.size (by rfl) (.tmp 12) (.tmp 19) 22 5 (.int .u8 0) 1 rfl Tryd.underlying22 info5 rfl (by decide) (by omega) u3 x3_1 y199 _ _ _ (fun k_ => some k_ ≠ (.slice Ao17 y199.length co17 : Value).ownBlock) (fun _ => False) rfl rfl ?aO ?aR (fun _ _ h => h) (fun _ h => h.elim) ?aF ?aB ?aS ?aL ?_
                      (case aR => repeat (first | exact (Kd.R_reads' HO201.out).2.2 | (with_reducible refine Kd.C_alloc ?_ _) | (with_reducible refine Kd.C_drewN ?_ _) | (with_reducible refine Kd.C_drew ?_)))
                      (case aB => exact (by repeat (first | (with_reducible first | exact HB.out | apply below_alloc | apply pw_below_drewN | apply below_drew1) | exact HB.out)))
                      (case aF => exact (fun k_ hk => Kd.fresh' (Kd.R_lt (by (with_reducible repeat (first | apply Kd.R_alloc | apply Kd.R_drewN | apply Kd.R_drew)); exact HO201.out)) k_ hk))
                      (case aO => exact (by (with_reducible repeat (first | apply Kd.R_alloc | apply Kd.R_drewN | apply Kd.R_drew)); exact Kd.R_mono HO_3.out (fun _ hk => hk.2)))
                      (case aS => exact (below_size (by repeat (first | (with_reducible first | exact HB.out | apply below_alloc | apply pw_below_drewN | apply below_drew1) | exact HB.out))))
                      (case aL => have := LMc12.out; omega)
                      intro v203 w16 ho hb hg hat
                      rw [← Ny202.out] at ho
                      have n0_ := Aside0.mk (Kd.R_after (ok := (fun _ => True)) (by (with_reducible repeat (first | apply Kd.R_alloc | apply Kd.R_drewN | apply Kd.R_drew)); exact HO201.out) hg hat)
                      have n1_ := Aside0.mk (hb)
                      have n2_ := Aside0.mk (ho)
                      clear HO201
                      clear HB
                      clear HO_3
                      have HO201 := n0_
                      have HB := n1_
                      have HO204 := n2_
                      clear n0_ n1_ n2_
                      clear ho hb hg hat
                      refine hK.out _ _ trivial (fun hHeld => ?_)
                      clear hK K
                      refine norm_ (a' := ?_) ?_ ?_
                      rotate_left
                      · show Act.put _ (some 20) _ = _
                        simp only [Act.put, List.setIfInBounds_toArray, List.set_cons_zero, List.set_cons_succ, i64_w, i32_w]
                        rfl
                      refine pure_ (i := 9) (N := some 3) (v := ?_) (a' := ?_) #[true, true, true, true, true, true, true, true, true, true] rfl rfl (any_of HT_.out (by kernel_rfl)) (fun _ _ _ h => h) (Or.inl ⟨by rfl, ?_⟩) ?_ ?_
                      rotate_left
                      · intro w'
                        go_simp
                        with_reducible rfl
                      rotate_left
                      · simp only [Act.put, List.setIfInBounds_toArray, List.set_cons_zero, List.set_cons_succ, i64_w, i32_w]
                        rfl
                      refine done_ (done_of HT_.out (by kernel_rfl)) ?_
                      try go_wp2
                      go_roundg k1
                      case measure => have := HK1.out; omega
                      case rel => exact ⟨(y202), (wrap64 (x8_1 + 1)), (by first | rfl | (simp; done) | (simp [*]; done)), H', ⟨by have := HK1.out; omega⟩, ⟨by (with_reducible repeat (first | apply Kd.R_alloc | apply Kd.R_drewN | apply Kd.R_drew)); exact Kd.R_mono HO204.out (fun _ hk => trivial)⟩, ⟨by repeat (first | (with_reducible first | exact HB.out | apply below_alloc | apply pw_below_drewN | apply below_drew1) | exact HB.out)⟩⟩
                    · rw [if_neg c12] at H
                      exact absurd H (by simp)
                  · rw [if_neg c10] at H
                    exact absurd H (by simp)
                · rw [if_neg c9] at H
                  exact absurd H (by simp)
              · rw [if_neg c7] at H
                exact absurd H (by simp)
            · rw [if_neg c6] at H
              exact absurd H (by simp)
          · rw [if_neg c4] at H
            exact absurd H (by simp)
        · rw [if_neg c3] at H
          exact absurd H (by simp)
      · rw [if_neg c2] at H
        have c2b0 : decide (x8_1 < (l0.length : Int)) = false := decide_eq_false c2
        clear c2
        obtain rfl := Option.some.inj H
        have hcv18 := own_string (P := Tryd.prog) Tryd.underlying22 Tryd.underlying5 Tryd.underlying9 (Kd.own_of_R HO_3.out)
        go_wp2
        go_ret
        exact ⟨by first | rfl | (simp [errW_none, errW_some] <;> rfl) | (simp [*, errW_none, errW_some] <;> rfl), by repeat (first | (with_reducible first | exact HB.out | apply below_alloc | apply pw_below_drewN | apply below_drew1) | exact HB.out)⟩
end Go.Proofs.YtflddgoapibleaaDoor.Esc

namespace Go.Proofs.YtflddgoapibleaaDoor.Esc
open Go.RowKit Go.Proofs.YtflddgoapibleaaDoor.Hand Go.Proofs.YtflddgoapibleaaDoorW.PrintWords Go.Proofs.YtflddgoapibleaaDoorW.PrintLast Go.Proofs.YtflddgoapibleaaDoorW.PrintMore
attribute [local go_sem] max2_int min2_int max_two min_two max_three min_three max_four min_four
set_option linter.unusedVariables false
set_option linter.unusedSimpArgs false
def octet_second.f (a0 : Int) : Option (Int × Int) := if a0 = 224 then (some (160, 191)) else (if a0 = 237 then (some (128, 159)) else (if a0 = 240 then (some (144, 191)) else (if a0 = 244 then (some (128, 143)) else ((octet_Need.f a0).bind fun t107 => (if t107 > 1 then (some (128, 191)) else (some (1, 0)))))))
set_option maxHeartbeats 8000000 in
set_option maxRecDepth 100000 in
theorem octet_second.calls (a0 : Int) (r1 : Int) (r2 : Int) (w : World) (hG : Globs w) (h : octet_second.f a0 = some (r1, r2)) :
    Calls Tryd.prog 70 #[.int .u8 a0] w fun e w' => e = .returned (.tuple #[.int .u8 r1, .int .u8 r2]) ∧ Below w.heap.size w w' := by
  have HG := Aside0.mk hG
  clear hG
  have HB := Aside0.mk (Below.refl w.heap.size w)
  have H : (if a0 = 224 then (some (160, 191)) else (if a0 = 237 then (some (128, 159)) else (if a0 = 240 then (some (144, 191)) else (if a0 = 244 then (some (128, 143)) else ((octet_Need.f a0).bind fun t107 => (if t107 > 1 then (some (128, 191)) else (some (1, 0)))))))) = some (r1, r2) := h
  clear h
  by_cases c2 : a0 = 224
  · rw [if_pos c2] at H
    have c2b0 : (a0 == 224) = true := beq_iff_eq.mpr c2
    have c2b1 : (a0 != 224) = false := bne_eq_false_iff_eq.mpr c2
    clear c2
    simp only [Option.some.injEq, Prod.mk.injEq] at H
    obtain ⟨rfl, rfl⟩ := H
    go_enter Tryd.func70, Tryd.ntmps70
    go_wp2
    go_ret2
    exact ⟨by first | rfl | (simp [errW_none, errW_some] <;> rfl) | (simp [*, errW_none, errW_some] <;> rfl), by repeat (first | (with_reducible first | exact HB.out | apply below_alloc | apply pw_below_drewN | apply below_drew1) | exact HB.out)⟩
  · rw [if_neg c2] at H
    have c2b0 : (a0 == 224) = false := beq_eq_false_iff_ne.mpr c2
    have c2b1 : (a0 != 224) = true := bne_iff_ne.mpr c2
    by_cases c3 : a0 = 237
    · rw [if_pos c3] at H
      have c3b0 : (a0 == 237) = true := beq_iff_eq.mpr c3
      have c3b1 : (a0 != 237) = false := bne_eq_false_iff_eq.mpr c3
      clear c3
      simp only [Option.some.injEq, Prod.mk.injEq] at H
      obtain ⟨rfl, rfl⟩ := H
      go_enter Tryd.func70, Tryd.ntmps70
      go_wp2
      go_ret2
      exact ⟨by first | rfl | (simp [errW_none, errW_some] <;> rfl) | (simp [*, errW_none, errW_some] <;> rfl), by repeat (first | (with_reducible first | exact HB.out | apply below_alloc | apply pw_below_drewN | apply below_drew1) | exact HB.out)⟩
    · rw [if_neg c3] at H
      have c3b0 : (a0 == 237) = false := beq_eq_false_iff_ne.mpr c3
      have c3b1 : (a0 != 237) = true := bne_iff_ne.mpr c3
      by_cases c4 : a0 = 240
      · rw [if_pos c4] at H
        have c4b0 : (a0 == 240) = true := beq_iff_eq.mpr c4
        have c4b1 : (a0 != 240) = false := bne_eq_false_iff_eq.mpr c4
        clear c4
        simp only [Option.some.injEq, Prod.mk.injEq] at H
        obtain ⟨rfl, rfl⟩ := H
        go_enter Tryd.func70, Tryd.ntmps70
        go_wp2
        go_ret2
        exact ⟨by first | rfl | (simp [errW_none, errW_some] <;> rfl) | (simp [*, errW_none, errW_some] <;> rfl), by repeat (first | (with_reducible first | exact HB.out | apply below_alloc | apply pw_below_drewN | apply below_drew1) | exact HB.out)⟩
      · rw [if_neg c4] at H
        have c4b0 : (a0 == 240) = false := beq_eq_false_iff_ne.mpr c4
        have c4b1 : (a0 != 240) = true := bne_iff_ne.mpr c4
        by_cases c5 : a0 = 244
        · rw [if_pos c5] at H
          have c5b0 : (a0 == 244) = true := beq_iff_eq.mpr c5
          have c5b1 : (a0 != 244) = false := bne_eq_false_iff_eq.mpr c5
          clear c5
          simp only [Option.some.injEq, Prod.mk.injEq] at H
          obtain ⟨rfl, rfl⟩ := H
          go_enter Tryd.func70, Tryd.ntmps70
          go_wp2
          go_ret2
          exact ⟨by first | rfl | (simp [errW_none, errW_some] <;> rfl) | (simp [*, errW_none, errW_some] <;> rfl), by repeat (first | (with_reducible first | exact HB.out | apply below_alloc | apply pw_below_drewN | apply below_drew1) | exact HB.out)⟩
        · rw [if_neg c5] at H
          have c5b0 : (a0 == 244) = false := beq_eq_false_iff_ne.mpr c5
          have c5b1 : (a0 != 244) = true := bne_iff_ne.mpr c5
          replace H := Option.bind_eq_some_iff.mp H
          obtain ⟨t107, A60, H⟩ := H
          replace H : (if t107 > 1 then (some (128, 191)) else (some (1, 0))) = some (r1, r2) := H
          have A6 := Aside0.mk A60
          clear A60
          by_cases c7 : t107 > 1
          · rw [if_pos c7] at H
            have c7b0 : decide (1 < t107) = true := decide_eq_true c7
            clear c7
            simp only [Option.some.injEq, Prod.mk.injEq] at H
            obtain ⟨rfl, rfl⟩ := H
            go_enter Tryd.func70, Tryd.ntmps70
            go_wp2_with (first | ((with_reducible refine gate_callee (f := 45) rfl ?_); refine goesL_ (some 14) rfl rfl Tryd.func45 (by kernel_rfl) rfl #[.int .u8 a0] rfl (by (try simp only [List.map_toArray, List.map_cons, List.map_nil]); first | done | rfl | (simp only [List.length_drop, List.length_take]; rfl)) ?_; (with_reducible refine (octet_Need.calls a0 t107 _ ?side1 A6.out).mono ?_); (case side1 => exact Globs.below HG.out (by repeat (first | (with_reducible first | exact HB.out | apply below_alloc | apply pw_below_drewN | apply below_drew1) | exact HB.out))); rintro e w8 ⟨rfl, hb⟩; refine ⟨_, rfl, ?_⟩; have n0_ := Aside0.mk (below_step (by repeat (first | (with_reducible first | exact HB.out | apply below_alloc | apply pw_below_drewN | apply below_drew1) | exact HB.out)) hb); clear HB; have HB := n0_; clear n0_; (try clear hb); (try clear hb2); (try clear hk); (try clear hi)))
            go_ret2
            exact ⟨by first | rfl | (simp [errW_none, errW_some] <;> rfl) | (simp [*, errW_none, errW_some] <;> rfl), by repeat (first | (with_reducible first | exact HB.out | apply below_alloc | apply pw_below_drewN | apply below_drew1) | exact HB.out)⟩
          · rw [if_neg c7] at H
            have c7b0 : decide (1 < t107) = false := decide_eq_false c7
            clear c7
            simp only [Option.some.injEq, Prod.mk.injEq] at H
            obtain ⟨rfl, rfl⟩ := H
            go_enter Tryd.func70, Tryd.ntmps70
            go_wp2_with (first | ((with_reducible refine gate_callee (f := 45) rfl ?_); refine goesL_ (some 14) rfl rfl Tryd.func45 (by kernel_rfl) rfl #[.int .u8 a0] rfl (by (try simp only [List.map_toArray, List.map_cons, List.map_nil]); first | done | rfl | (simp only [List.length_drop, List.length_take]; rfl)) ?_; (with_reducible refine (octet_Need.calls a0 t107 _ ?side1 A6.out).mono ?_); (case side1 => exact Globs.below HG.out (by repeat (first | (with_reducible first | exact HB.out | apply below_alloc | apply pw_below_drewN | apply below_drew1) | exact HB.out))); rintro e w9 ⟨rfl, hb⟩; refine ⟨_, rfl, ?_⟩; have n0_ := Aside0.mk (below_step (by repeat (first | (with_reducible first | exact HB.out | apply below_alloc | apply pw_below_drewN | apply below_drew1) | exact HB.out)) hb); clear HB; have HB := n0_; clear n0_; (try clear hb); (try clear hb2); (try clear hk); (try clear hi)))
            go_ret2
            exact ⟨by first | rfl | (simp [errW_none, errW_some] <;> rfl) | (simp [*, errW_none, errW_some] <;> rfl), by repeat (first | (with_reducible first | exact HB.out | apply below_alloc | apply pw_below_drewN | apply below_drew1) | exact HB.out)⟩
end Go.Proofs.YtflddgoapibleaaDoor.Esc

namespace Go.Proofs.YtflddgoapibleaaDoor.Esc
open Go.RowKit Go.Proofs.YtflddgoapibleaaDoor.Hand Go.Proofs.YtflddgoapibleaaDoorW.PrintWords Go.Proofs.YtflddgoapibleaaDoorW.PrintLast Go.Proofs.YtflddgoapibleaaDoorW.PrintMore
attribute [local go_sem] max2_int min2_int max_two min_two max_three min_three max_four min_four
set_option linter.unusedVariables false
set_option linter.unusedSimpArgs false
def octet_Second.f (a0 : Int) (a1 : Int) : Option (Bool) := (octet_second.f a0).bind fun bt108 => (if a1 ≥ bt108.1 then (some (decide (a1 ≤ bt108.2))) else (some false))
set_option maxHeartbeats 8000000 in
set_option maxRecDepth 100000 in
theorem octet_Second.calls (a0 : Int) (a1 : Int) (r : Bool) (w : World) (hG : Globs w) (h : octet_Second.f a0 a1 = some r) :
    Calls Tryd.prog 60 #[.int .u8 a0, .int .u8 a1] w fun e w' => e = .returned (.bool r) ∧ Below w.heap.size w w' := by
  have HG := Aside0.mk hG
  clear hG
  have HB := Aside0.mk (Below.refl w.heap.size w)
  have H : ((octet_second.f a0).bind fun bt108 => (if a1 ≥ bt108.1 then (some (decide (a1 ≤ bt108.2))) else (some false))) = some r := h
  clear h
  replace H := Option.bind_eq_some_iff.mp H
  obtain ⟨⟨t108, t109⟩, A30, H⟩ := H
  replace H : (if a1 ≥ t108 then (some (decide (a1 ≤ t109))) else (some false)) = some r := H
  have A3 := Aside0.mk A30
  clear A30
  by_cases c4 : a1 ≥ t108
  · rw [if_pos c4] at H
    have c4b0 : decide (t108 ≤ a1) = true := decide_eq_true c4
    clear c4
    obtain rfl := Option.some.inj H
    go_enter Tryd.func60, Tryd.ntmps60
    go_wp2_with (first | ((with_reducible refine gate_callee (f := 70) rfl ?_); refine goesL_ (some 9) rfl rfl Tryd.func70 (by kernel_rfl) rfl #[.int .u8 a0] rfl (by (try simp only [List.map_toArray, List.map_cons, List.map_nil]); first | done | rfl | (simp only [List.length_drop, List.length_take]; rfl)) ?_; (with_reducible refine (octet_second.calls a0 t108 t109 _ ?side1 A3.out).mono ?_); (case side1 => exact Globs.below HG.out (by repeat (first | (with_reducible first | exact HB.out | apply below_alloc | apply pw_below_drewN | apply below_drew1) | exact HB.out))); rintro e w5 ⟨rfl, hb⟩; refine ⟨_, rfl, ?_⟩; have n0_ := Aside0.mk (below_step (by repeat (first | (with_reducible first | exact HB.out | apply below_alloc | apply pw_below_drewN | apply below_drew1) | exact HB.out)) hb); clear HB; have HB := n0_; clear n0_; (try clear hb); (try clear hb2); (try clear hk); (try clear hi)))
    go_ret
    exact ⟨by first | rfl | (simp [errW_none, errW_some] <;> rfl) | (simp [*, errW_none, errW_some] <;> rfl), by repeat (first | (with_reducible first | exact HB.out | apply below_alloc | apply pw_below_drewN | apply below_drew1) | exact HB.out)⟩
  · rw [if_neg c4] at H
    have c4b0 : decide (t108 ≤ a1) = false := decide_eq_false c4
    clear c4
    obtain rfl := Option.some.inj H
    go_enter Tryd.func60, Tryd.ntmps60
    go_wp2_with (first | ((with_reducible refine gate_callee (f := 70) rfl ?_); refine goesL_ (some 9) rfl rfl Tryd.func70 (by kernel_rfl) rfl #[.int .u8 a0] rfl (by (try simp only [List.map_toArray, List.map_cons, List.map_nil]); first | done | rfl | (simp only [List.length_drop, List.length_take]; rfl)) ?_; (with_reducible refine (octet_second.calls a0 t108 t109 _ ?side1 A3.out).mono ?_); (case side1 => exact Globs.below HG.out (by repeat (first | (with_reducible first | exact HB.out | apply below_alloc | apply pw_below_drewN | apply below_drew1) | exact HB.out))); rintro e w6 ⟨rfl, hb⟩; refine ⟨_, rfl, ?_⟩; have n0_ := Aside0.mk (below_step (by repeat (first | (with_reducible first | exact HB.out | apply below_alloc | apply pw_below_drewN | apply below_drew1) | exact HB.out)) hb); clear HB; have HB := n0_; clear n0_; (try clear hb); (try clear hb2); (try clear hk); (try clear hi)))
    go_ret
    exact ⟨by first | rfl | (simp [errW_none, errW_some] <;> rfl) | (simp [*, errW_none, errW_some] <;> rfl), by repeat (first | (with_reducible first | exact HB.out | apply below_alloc | apply pw_below_drewN | apply below_drew1) | exact HB.out)⟩
end Go.Proofs.YtflddgoapibleaaDoor.Esc

namespace Go.Proofs.YtflddgoapibleaaDoor.Esc
open Go.RowKit Go.Proofs.YtflddgoapibleaaDoor.Hand Go.Proofs.YtflddgoapibleaaDoorW.PrintWords Go.Proofs.YtflddgoapibleaaDoorW.PrintLast Go.Proofs.YtflddgoapibleaaDoorW.PrintMore
attribute [local go_sem] max2_int min2_int max_two min_two max_three min_three max_four min_four
set_option linter.unusedVariables false
set_option linter.unusedSimpArgs false
mutual
def octet_Whole.j0 : Nat → List Int → Bool → Option (Bool)
  | 0, _, _ => none
  | k + 1, x0, x16 => if x16 = true then (some false) else (if 1 ≤ (x0.length : Int) then (octet_Whole.l0 k x0 (x0.drop 1) ((x0.drop 1).length : Int) 0) else (none))
def octet_Whole.l0 : Nat → List Int → List Int → Int → Int → Option (Bool)
  | 0, _, _, _, _ => none
  | k + 1, x0, x18, x19, x20 => if x20 < x19 then (if 0 ≤ x20 then (if x20 < (x18.length : Int) then ((octet_Class.f (rd x18 x20)).bind fun t114 => (if t114 = 2 then (if x20 = 0 then (if 0 < (x0.length : Int) then ((octet_Second.f (rd x0 0) (rd x18 x20)).bind fun t116 => (if t116 = true then (octet_Whole.l0 k x0 x18 x19 (wrap64 (x20 + 1))) else (some false))) else (none)) else (octet_Whole.l0 k x0 x18 x19 (wrap64 (x20 + 1)))) else (some false))) else (none)) else (none)) else (some true)
end
def octet_Whole.f (k : Nat) (l0 : List Int) : Option (Bool) := if (l0.length : Int) = 0 then (octet_Whole.j0 k l0 true) else (if 0 < (l0.length : Int) then ((octet_Need.f (rd l0 0)).bind fun t111 => (octet_Whole.j0 k l0 (t111 != (l0.length : Int)))) else (none))
set_option maxHeartbeats 8000000 in
set_option maxRecDepth 100000 in
theorem octet_Whole.calls (k : Nat) (A0 : Option Addr) (c0 : Nat) (l0 : List Int) (r : Bool) (w : World) (hG : Globs w) (hr0 : Kd.C (Kd.int .u8) w A0 l0.length l0) (hc0 : l0.length ≤ c0) (h : octet_Whole.f k l0 = some r) :
    Calls Tryd.prog 46 #[.slice A0 l0.length c0] w fun e w' => e = .returned (.bool r) ∧ Below w.heap.size w w' := by
  have HR0 := Aside0.mk hr0
  have HC0 := Aside0.mk hc0
  clear hr0 hc0
  have HG := Aside0.mk hG
  clear hG
  have HB := Aside0.mk (Below.refl w.heap.size w)
  have H : (if (l0.length : Int) = 0 then (octet_Whole.j0 k l0 true) else (if 0 < (l0.length : Int) then ((octet_Need.f (rd l0 0)).bind fun t111 => (octet_Whole.j0 k l0 (t111 != (l0.length : Int)))) else (none))) = some r := h
  clear h
  have HC2 := Aside0.mk H
  clear H
  go_enter Tryd.func46, Tryd.ntmps46
  go_upto_region 1 with (fail)
  go_cut [16] (fun v16 wc => ∃ (kq : Nat) (x16_1 : Bool), v16 = .bool x16_1 ∧ Aside0 (octet_Whole.j0 kq l0 x16_1 = some r) ∧ Aside0 (kq ≤ k) ∧ Aside0 (Below w.heap.size w wc))
  case first =>
    have H := HC2.out
    clear HC2
    by_cases c3 : (l0.length : Int) = 0
    · rw [if_pos c3] at H
      have c3b0 : ((l0.length : Int) == 0) = true := beq_iff_eq.mpr c3
      have c3b1 : ((l0.length : Int) != 0) = false := bne_eq_false_iff_eq.mpr c3
      clear c3
      (first | rw [c3b0] | (simp only [i64_w, i32_w]; rw [c3b0]) | skip)
      have H' := Aside0.mk H
      clear H
      go_wp2
      go_meet
      case rel => exact ⟨_, (true), (by first | rfl | (simp; done) | (simp [*]; done)), H', ⟨by first | omega | exact Nat.le_refl _⟩, ⟨by repeat (first | (with_reducible first | exact HB.out | apply below_alloc | apply pw_below_drewN | apply below_drew1) | exact HB.out)⟩⟩
    · rw [if_neg c3] at H
      have c3b0 : ((l0.length : Int) == 0) = false := beq_eq_false_iff_ne.mpr c3
      have c3b1 : ((l0.length : Int) != 0) = true := bne_iff_ne.mpr c3
      have c3b2 : ¬ (l0 = []) := fun h_ => c3 (by rw [h_]; rfl)
      (first | rw [c3b0] | (simp only [i64_w, i32_w]; rw [c3b0]) | skip)
      by_cases c4 : 0 < (l0.length : Int)
      · rw [if_pos c4] at H
        have c4b0 : decide (0 < (l0.length : Int)) = true := decide_eq_true c4
        have c4b1 : decide (0 < l0.length) = true := decide_eq_true (by omega)
        clear c4
        replace H := Option.bind_eq_some_iff.mp H
        obtain ⟨t111, A50, H⟩ := H
        replace H : (octet_Whole.j0 k l0 (t111 != (l0.length : Int))) = some r := H
        have A5 := Aside0.mk A50
        clear A50
        have H' := Aside0.mk H
        clear H
        have p110 : 0 ≤ (0 : Int) := (by omega)
        have q110 : 0 < (l0.length : Int) := of_decide_eq_true (by first | (with_reducible assumption) | assumption)
        obtain ⟨ad110, e110, hx110_0⟩ := Kd.at_int HR0.out 0 p110 q110
        cases e110
        have qi110 : (0 < l0.length) = True := eq_true (by omega)
        (try rw [show ((0 : Int)).toNat = 0 from rfl] at hx110_0)
        (try rw [Addr.add_zero'] at hx110_0)
        replace hx110_0 := (HB.out.cell (World.block_lt_of_cell? w _ hx110_0)).trans hx110_0
        replace p110 := eq_true p110
        replace q110 := eq_true q110
        go_wp2_with (first | (go_at_call 45; (with_reducible refine (octet_Need.calls (rd l0 0) t111 _ ?side1 A5.out).mono ?_); (case side1 => exact Globs.below HG.out (by repeat (first | (with_reducible first | exact HB.out | apply below_alloc | apply pw_below_drewN | apply below_drew1) | exact HB.out))); rintro e w6 ⟨rfl, hb⟩; have n0_ := Aside0.mk (below_step (by repeat (first | (with_reducible first | exact HB.out | apply below_alloc | apply pw_below_drewN | apply below_drew1) | exact HB.out)) hb); clear HB; have HB := n0_; clear n0_; (try clear hb); (try clear hb2); (try clear hk); (try clear hi)))
        go_meet
        case rel => exact ⟨_, ((t111 != (l0.length : Int))), (by first | rfl | (simp; done) | (simp [*]; done)), H', ⟨by first | omega | exact Nat.le_refl _⟩, ⟨by repeat (first | (with_reducible first | exact HB.out | apply below_alloc | apply pw_below_drewN | apply below_drew1) | exact HB.out)⟩⟩
      · rw [if_neg c4] at H
        exact absurd H (by simp)
  case rest =>
    clear HC2
    try clear p1
    try clear q1
    try clear hx1
    try clear qi1
    try clear p2
    try clear c3
    try clear c3b0
    try clear c3b1
    try clear c3b2
    try clear c4
    try clear c4b0
    try clear c4b1
    try clear hx110_0
    try clear p110
    try clear q110
    obtain ⟨kq, x16_1, rfl, HA, HJ1, HB⟩ := hcut
    cases kq with
    | zero => exact absurd HA.out (by simp [octet_Whole.j0])
    | succ kj1 =>
      have H := HA.out
      clear HA
      simp only [octet_Whole.j0] at H
      by_cases c7 : x16_1 = true
      · subst c7
        have H1 : (some false) = some r := by rw [if_pos rfl] at H; exact H
        clear H
        have H := H1
        clear H1
        obtain rfl := Option.some.inj H
        go_wp2
        go_ret
        exact ⟨by first | rfl | (simp [errW_none, errW_some] <;> rfl) | (simp [*, errW_none, errW_some] <;> rfl), by repeat (first | (with_reducible first | exact HB.out | apply below_alloc | apply pw_below_drewN | apply below_drew1) | exact HB.out)⟩
      · replace c7 := Bool.eq_false_iff.mpr c7
        subst c7
        have H1 : (if 1 ≤ (l0.length : Int) then (octet_Whole.l0 kj1 l0 (l0.drop 1) ((l0.drop 1).length : Int) 0) else (none)) = some r := by rw [if_neg (show ¬ (false = true) by decide)] at H; exact H
        clear H
        have H := H1
        clear H1
        by_cases c8 : 1 ≤ (l0.length : Int)
        · rw [if_pos c8] at H
          have c8b0 := eq_true c8
          have c8b1 : decide (1 ≤ (l0.length : Int)) = true := decide_eq_true c8
          clear c8
          have H' := Aside0.mk H
          clear H
          obtain ⟨i09, hi09, _, hsz9, _⟩ := info_parts info5
          obtain ⟨A9, hcut9, hA9, hC9⟩ := print_drop_of (P := Tryd.prog) (Value.int .u8) 0 22 5 .i64 Tryd.underlying22 hi09 hsz9 A0 c0 l0 1 (by omega) (of_decide_eq_true (by first | (with_reducible assumption) | assumption)) HC0.out
          have HR112 := Aside0.mk (Kd.C_of_reads (h1 := fun _ => rfl) (hA9 _ (Kd.reads_of_C HR0.out)))
          have HC112 := Aside0.mk hC9
          clear hA9 hC9 hi09 hsz9
          go_wp2
          go_loopg [20] kj1 (fun kq v20 w' => ∃ (x20_2 : Int), v20 = .int .i64 x20_2 ∧ Aside0 (octet_Whole.l0 kq l0 (l0.drop 1) ((l0.drop 1).length : Int) x20_2 = some r) ∧ Aside0 (kq ≤ kj1) ∧ Aside0 (Below w.heap.size w w'))
          case atStart => exact ⟨(0), (by first | rfl | (simp; done) | (simp [*]; done)), H', ⟨Nat.le_refl _⟩, ⟨by repeat (first | (with_reducible first | exact HB.out | apply below_alloc | apply pw_below_drewN | apply below_drew1) | exact HB.out)⟩⟩
          case round =>
            clear H'
            try clear p1
            try clear q1
            try clear hx1
            try clear qi1
            try clear p2
            try clear c3
            try clear c3b0
            try clear c3b1
            try clear c3b2
            try clear c4
            try clear c4b0
            try clear c4b1
            try clear c7
            try clear c8
            try clear c8b0
            try clear c8b1
            try clear hx110_0
            try clear p1
            try clear p110
            try clear p2
            try clear q1
            try clear q110
            obtain ⟨x20_2, rfl, HA, HK2, HB⟩ := hrel
            cases gk with
            | zero => exact absurd HA.out (by simp [octet_Whole.l0])
            | succ k2 =>
              have H := HA.out
              clear HA
              simp only [octet_Whole.l0] at H
              by_cases c10 : x20_2 < ((l0.drop 1).length : Int)
              · rw [if_pos c10] at H
                have c10b0 : decide (x20_2 < ((l0.drop 1).length : Int)) = true := decide_eq_true c10
                have c10b9 : decide (x20_2 < ((l0.length - 1 : Nat) : Int)) = true := by rw [← List.length_drop]; exact c10b0
                have c10b8 : (x20_2 < ((l0.length - 1 : Nat) : Int)) = True := eq_true (of_decide_eq_true c10b9)
                clear c10
                by_cases c11 : 0 ≤ x20_2
                · rw [if_pos c11] at H
                  have c11b0 : decide (0 ≤ x20_2) = true := decide_eq_true c11
                  clear c11
                  by_cases c12 : x20_2 < ((l0.drop 1).length : Int)
                  · rw [if_pos c12] at H
                    have c12b0 : decide (x20_2 < ((l0.drop 1).length : Int)) = true := decide_eq_true c12
                    clear c12
                    replace H := Option.bind_eq_some_iff.mp H
                    obtain ⟨t114, A130, H⟩ := H
                    replace H : (if t114 = 2 then (if x20_2 = 0 then (if 0 < (l0.length : Int) then ((octet_Second.f (rd l0 0) (rd (l0.drop 1) x20_2)).bind fun t116 => (if t116 = true then (octet_Whole.l0 k2 l0 (l0.drop 1) ((l0.drop 1).length : Int) (wrap64 (x20_2 + 1))) else (some false))) else (none)) else (octet_Whole.l0 k2 l0 (l0.drop 1) ((l0.drop 1).length : Int) (wrap64 (x20_2 + 1)))) else (some false)) = some r := H
                    have A13 := Aside0.mk A130
                    clear A130
                    by_cases c14 : t114 = 2
                    · rw [if_pos c14] at H
                      have c14b0 : (t114 == 2) = true := beq_iff_eq.mpr c14
                      have c14b1 : (t114 != 2) = false := bne_eq_false_iff_eq.mpr c14
                      clear c14
                      by_cases c15 : x20_2 = 0
                      · rw [if_pos c15] at H
                        have c15b0 : (x20_2 == 0) = true := beq_iff_eq.mpr c15
                        have c15b1 : (x20_2 != 0) = false := bne_eq_false_iff_eq.mpr c15
                        clear c15
                        by_cases c16 : 0 < (l0.length : Int)
                        · rw [if_pos c16] at H
                          have c16b0 : decide (0 < (l0.length : Int)) = true := decide_eq_true c16
                          have c16b1 : decide (0 < l0.length) = true := decide_eq_true (by omega)
                          clear c16
                          replace H := Option.bind_eq_some_iff.mp H
                          obtain ⟨t116, A170, H⟩ := H
                          replace H : (if t116 = true then (octet_Whole.l0 k2 l0 (l0.drop 1) ((l0.drop 1).length : Int) (wrap64 (x20_2 + 1))) else (some false)) = some r := H
                          have A17 := Aside0.mk A170
                          clear A170
                          by_cases c18 : t116 = true
                          · subst c18
                            have H1 : (octet_Whole.l0 k2 l0 (l0.drop 1) ((l0.drop 1).length : Int) (wrap64 (x20_2 + 1))) = some r := by rw [if_pos rfl] at H; exact H
                            clear H
                            have H := H1
                            clear H1
                            have H' := Aside0.mk H
                            clear H
                            have p113 : 0 ≤ (x20_2 : Int) := of_decide_eq_true (by first | (with_reducible assumption) | assumption)
                            have q113 : x20_2 < ((l0.drop 1).length : Int) := of_decide_eq_true (by first | (with_reducible assumption) | assumption)
                            obtain ⟨ad113, e113, hx113_0⟩ := Kd.at_int HR112.out x20_2 p113 q113
                            cases e113
                            replace hx113_0 := (HB.out.cell (World.block_lt_of_cell? w _ hx113_0)).trans hx113_0
                            replace p113 := eq_true p113
                            replace q113 := eq_true q113
                            go_wp2_with (first | ((with_reducible refine gate_callee (f := 59) rfl ?_); refine goesL_ (some 26) rfl rfl Tryd.func59 (by kernel_rfl) rfl #[.int .u8 (rd (l0.drop 1) x20_2)] rfl (by (try simp only [List.map_toArray, List.map_cons, List.map_nil]); first | done | rfl | (rw [List.drop_one]; rfl) | (simp only [List.length_drop, List.length_take]; rfl)) ?_; (with_reducible refine (octet_Class.calls (rd (l0.drop 1) x20_2) t114 _ ?side1 A13.out).mono ?_); (case side1 => exact Globs.below HG.out (by repeat (first | (with_reducible first | exact HB.out | apply below_alloc | apply pw_below_drewN | apply below_drew1) | exact HB.out))); rintro e w19 ⟨rfl, hb⟩; refine ⟨_, rfl, ?_⟩; have n0_ := Aside0.mk (below_step (by repeat (first | (with_reducible first | exact HB.out | apply below_alloc | apply pw_below_drewN | apply below_drew1) | exact HB.out)) hb); clear HB; have HB := n0_; clear n0_; (try clear hb); (try clear hb2); (try clear hk); (try clear hi); have p115 : 0 ≤ (0 : Int) := (by omega); have q115 : 0 < (l0.length : Int) := of_decide_eq_true (by first | (with_reducible assumption) | assumption); obtain ⟨ad115, e115, hx115_0⟩ := Kd.at_int HR0.out 0 p115 q115; cases e115; have qi115 : (0 < l0.length) = True := eq_true (by omega); (try rw [show ((0 : Int)).toNat = 0 from rfl] at hx115_0); (try rw [Addr.add_zero'] at hx115_0); replace hx115_0 := (HB.out.cell (World.block_lt_of_cell? w _ hx115_0)).trans hx115_0; replace p115 := eq_true p115; replace q115 := eq_true q115) | (go_at_call 60; refine calls_of_args (args' := #[.int .u8 (rd l0 0), .int .u8 (rd (l0.drop 1) x20_2)]) (by rw [List.drop_one]) ?_; (with_reducible refine (octet_Second.calls (rd l0 0) (rd (l0.drop 1) x20_2) true _ ?side1 A17.out).mono ?_); (case side1 => exact Globs.below HG.out (by repeat (first | (with_reducible first | exact HB.out | apply below_alloc | apply pw_below_drewN | apply below_drew1) | exact HB.out))); rintro e w20 ⟨rfl, hb⟩; have n0_ := Aside0.mk (below_step (by repeat (first | (with_reducible first | exact HB.out | apply below_alloc | apply pw_below_drewN | apply below_drew1) | exact HB.out)) hb); clear HB; have HB := n0_; clear n0_; (try clear hb); (try clear hb2); (try clear hk); (try clear hi)))
                            go_roundg k2
                            case measure => have := HJ1.out; have := HK2.out; omega
                            case rel => exact ⟨(wrap64 (x20_2 + 1)), (by first | rfl | (simp; done) | (simp [*]; done)), H', ⟨by have := HJ1.out; have := HK2.out; omega⟩, ⟨by repeat (first | (with_reducible first | exact HB.out | apply below_alloc | apply pw_below_drewN | apply below_drew1) | exact HB.out)⟩⟩
                          · replace c18 := Bool.eq_false_iff.mpr c18
                            subst c18
                            have H1 : (some false) = some r := by rw [if_neg (show ¬ (false = true) by decide)] at H; exact H
                            clear H
                            have H := H1
                            clear H1
                            obtain rfl := Option.some.inj H
                            have p113 : 0 ≤ (x20_2 : Int) := of_decide_eq_true (by first | (with_reducible assumption) | assumption)
                            have q113 : x20_2 < ((l0.drop 1).length : Int) := of_decide_eq_true (by first | (with_reducible assumption) | assumption)
                            obtain ⟨ad113, e113, hx113_0⟩ := Kd.at_int HR112.out x20_2 p113 q113
                            cases e113
                            replace hx113_0 := (HB.out.cell (World.block_lt_of_cell? w _ hx113_0)).trans hx113_0
                            replace p113 := eq_true p113
                            replace q113 := eq_true q113
                            go_wp2_with (first | ((with_reducible refine gate_callee (f := 59) rfl ?_); refine goesL_ (some 26) rfl rfl Tryd.func59 (by kernel_rfl) rfl #[.int .u8 (rd (l0.drop 1) x20_2)] rfl (by (try simp only [List.map_toArray, List.map_cons, List.map_nil]); first | done | rfl | (rw [List.drop_one]; rfl) | (simp only [List.length_drop, List.length_take]; rfl)) ?_; (with_reducible refine (octet_Class.calls (rd (l0.drop 1) x20_2) t114 _ ?side1 A13.out).mono ?_); (case side1 => exact Globs.below HG.out (by repeat (first | (with_reducible first | exact HB.out | apply below_alloc | apply pw_below_drewN | apply below_drew1) | exact HB.out))); rintro e w21 ⟨rfl, hb⟩; refine ⟨_, rfl, ?_⟩; have n0_ := Aside0.mk (below_step (by repeat (first | (with_reducible first | exact HB.out | apply below_alloc | apply pw_below_drewN | apply below_drew1) | exact HB.out)) hb); clear HB; have HB := n0_; clear n0_; (try clear hb); (try clear hb2); (try clear hk); (try clear hi); have p115 : 0 ≤ (0 : Int) := (by omega); have q115 : 0 < (l0.length : Int) := of_decide_eq_true (by first | (with_reducible assumption) | assumption); obtain ⟨ad115, e115, hx115_0⟩ := Kd.at_int HR0.out 0 p115 q115; cases e115; have qi115 : (0 < l0.length) = True := eq_true (by omega); (try rw [show ((0 : Int)).toNat = 0 from rfl] at hx115_0); (try rw [Addr.add_zero'] at hx115_0); replace hx115_0 := (HB.out.cell (World.block_lt_of_cell? w _ hx115_0)).trans hx115_0; replace p115 := eq_true p115; replace q115 := eq_true q115) | (go_at_call 60; refine calls_of_args (args' := #[.int .u8 (rd l0 0), .int .u8 (rd (l0.drop 1) x20_2)]) (by rw [List.drop_one]) ?_; (with_reducible refine (octet_Second.calls (rd l0 0) (rd (l0.drop 1) x20_2) false _ ?side1 A17.out).mono ?_); (case side1 => exact Globs.below HG.out (by repeat (first | (with_reducible first | exact HB.out | apply below_alloc | apply pw_below_drewN | apply below_drew1) | exact HB.out))); rintro e w22 ⟨rfl, hb⟩; have n0_ := Aside0.mk (below_step (by repeat (first | (with_reducible first | exact HB.out | apply below_alloc | apply pw_below_drewN | apply below_drew1) | exact HB.out)) hb); clear HB; have HB := n0_; clear n0_; (try clear hb); (try clear hb2); (try clear hk); (try clear hi)))
                            go_ret
                            exact ⟨by first | rfl | (simp [errW_none, errW_some] <;> rfl) | (simp [*, errW_none, errW_some] <;> rfl), by repeat (first | (with_reducible first | exact HB.out | apply below_alloc | apply pw_below_drewN | apply below_drew1) | exact HB.out)⟩
                        · rw [if_neg c16] at H
                          exact absurd H (by simp)
                      · rw [if_neg c15] at H
                        have c15b0 : (x20_2 == 0) = false := beq_eq_false_iff_ne.mpr c15
                        have c15b1 : (x20_2 != 0) = true := bne_iff_ne.mpr c15
                        have H' := Aside0.mk H
                        clear H
                        have p113 : 0 ≤ (x20_2 : Int) := of_decide_eq_true (by first | (with_reducible assumption) | assumption)
                        have q113 : x20_2 < ((l0.drop 1).length : Int) := of_decide_eq_true (by first | (with_reducible assumption) | assumption)
                        obtain ⟨ad113, e113, hx113_0⟩ := Kd.at_int HR112.out x20_2 p113 q113
                        cases e113
                        replace hx113_0 := (HB.out.cell (World.block_lt_of_cell? w _ hx113_0)).trans hx113_0
                        replace p113 := eq_true p113
                        replace q113 := eq_true q113
                        go_wp2_with (first | ((with_reducible refine gate_callee (f := 59) rfl ?_); refine goesL_ (some 26) rfl rfl Tryd.func59 (by kernel_rfl) rfl #[.int .u8 (rd (l0.drop 1) x20_2)] rfl (by (try simp only [List.map_toArray, List.map_cons, List.map_nil]); first | done | rfl | (rw [List.drop_one]; rfl) | (simp only [List.length_drop, List.length_take]; rfl)) ?_; (with_reducible refine (octet_Class.calls (rd (l0.drop 1) x20_2) t114 _ ?side1 A13.out).mono ?_); (case side1 => exact Globs.below HG.out (by repeat (first | (with_reducible first | exact HB.out | apply below_alloc | apply pw_below_drewN | apply below_drew1) | exact HB.out))); rintro e w23 ⟨rfl, hb⟩; refine ⟨_, rfl, ?_⟩; have n0_ := Aside0.mk (below_step (by repeat (first | (with_reducible first | exact HB.out | apply below_alloc | apply pw_below_drewN | apply below_drew1) | exact HB.out)) hb); clear HB; have HB := n0_; clear n0_; (try clear hb); (try clear hb2); (try clear hk); (try clear hi)))
                        go_roundg k2
                        case measure => have := HJ1.out; have := HK2.out; omega
                        case rel => exact ⟨(wrap64 (x20_2 + 1)), (by first | rfl | (simp; done) | (simp [*]; done)), H', ⟨by have := HJ1.out; have := HK2.out; omega⟩, ⟨by repeat (first | (with_reducible first | exact HB.out | apply below_alloc | apply pw_below_drewN | apply below_drew1) | exact HB.out)⟩⟩
                    · rw [if_neg c14] at H
                      have c14b0 : (t114 == 2) = false := beq_eq_false_iff_ne.mpr c14
                      have c14b1 : (t114 != 2) = true := bne_iff_ne.mpr c14
                      obtain rfl := Option.some.inj H
                      have p113 : 0 ≤ (x20_2 : Int) := of_decide_eq_true (by first | (with_reducible assumption) | assumption)
                      have q113 : x20_2 < ((l0.drop 1).length : Int) := of_decide_eq_true (by first | (with_reducible assumption) | assumption)
                      obtain ⟨ad113, e113, hx113_0⟩ := Kd.at_int HR112.out x20_2 p113 q113
                      cases e113
                      replace hx113_0 := (HB.out.cell (World.block_lt_of_cell? w _ hx113_0)).trans hx113_0
                      replace p113 := eq_true p113
                      replace q113 := eq_true q113
                      go_wp2_with (first | ((with_reducible refine gate_callee (f := 59) rfl ?_); refine goesL_ (some 26) rfl rfl Tryd.func59 (by kernel_rfl) rfl #[.int .u8 (rd (l0.drop 1) x20_2)] rfl (by (try simp only [List.map_toArray, List.map_cons, List.map_nil]); first | done | rfl | (rw [List.drop_one]; rfl) | (simp only [List.length_drop, List.length_take]; rfl)) ?_; (with_reducible refine (octet_Class.calls (rd (l0.drop 1) x20_2) t114 _ ?side1 A13.out).mono ?_); (case side1 => exact Globs.below HG.out (by repeat (first | (with_reducible first | exact HB.out | apply below_alloc | apply pw_below_drewN | apply below_drew1) | exact HB.out))); rintro e w24 ⟨rfl, hb⟩; refine ⟨_, rfl, ?_⟩; have n0_ := Aside0.mk (below_step (by repeat (first | (with_reducible first | exact HB.out | apply below_alloc | apply pw_below_drewN | apply below_drew1) | exact HB.out)) hb); clear HB; have HB := n0_; clear n0_; (try clear hb); (try clear hb2); (try clear hk); (try clear hi)))
                      go_ret
                      exact ⟨by first | rfl | (simp [errW_none, errW_some] <;> rfl) | (simp [*, errW_none, errW_some] <;> rfl), by repeat (first | (with_reducible first | exact HB.out | apply below_alloc | apply pw_below_drewN | apply below_drew1) | exact HB.out)⟩
                  · rw [if_neg c12] at H
                    exact absurd H (by simp)
                · rw [if_neg c11] at H
                  exact absurd H (by simp)
              · rw [if_neg c10] at H
                have c10b0 : decide (x20_2 < ((l0.drop 1).length : Int)) = false := decide_eq_false c10
                have c10b9 : decide (x20_2 < ((l0.length - 1 : Nat) : Int)) = false := by rw [← List.length_drop]; exact c10b0
                clear c10
                obtain rfl := Option.some.inj H
                go_wp2
                go_ret
                exact ⟨by first | rfl | (simp [errW_none, errW_some] <;> rfl) | (simp [*, errW_none, errW_some] <;> rfl), by repeat (first | (with_reducible first | exact HB.out | apply below_alloc | apply pw_below_drewN | apply below_drew1) | exact HB.out)⟩
        · rw [if_neg c8] at H
          exact absurd H (by simp)
end Go.Proofs.YtflddgoapibleaaDoor.Esc

namespace Go.Proofs.YtflddgoapibleaaDoor.Esc
open Go.RowKit Go.Proofs.YtflddgoapibleaaDoor.Hand Go.Proofs.YtflddgoapibleaaDoorW.PrintWords Go.Proofs.YtflddgoapibleaaDoorW.PrintLast Go.Proofs.YtflddgoapibleaaDoorW.PrintMore
attribute [local go_sem] max2_int min2_int max_two min_two max_three min_three max_four min_four
set_option linter.unusedVariables false
set_option linter.unusedSimpArgs false
def escape_joins.l0 : Nat → List Int → List Int → Int → Int → Option (Int)
  | 0, _, _, _, _ => none
  | k + 1, x1, x5, x16, x17 => if x17 < x16 then (if 0 ≤ x17 then (if x17 < (x5.length : Int) then ((octet_Need.f (rd x5 x17)).bind fun t119 => (if t119 > 1 then (if (wrap64 (x17 + t119)) ≤ (x5.length : Int) then (if x17 ≤ (wrap64 (x17 + t119)) then ((octet_Whole.f k ((x5.take ((wrap64 (x17 + t119)) : Int).toNat).drop (x17 : Int).toNat)).bind fun t121 => (if t121 = true then (if x17 < (x1.length : Int) then (some (rd x1 x17)) else (none)) else (escape_joins.l0 k x1 x5 x16 (wrap64 (x17 + 1))))) else (none)) else (escape_joins.l0 k x1 x5 x16 (wrap64 (x17 + 1)))) else (escape_joins.l0 k x1 x5 x16 (wrap64 (x17 + 1))))) else (none)) else (none)) else (some (-1))
def escape_joins.f (k : Nat) (l0 : List Int) (l1 : List Int) : Option (Int) := if 0 ≤ (wrap64 ((l0.length : Int) - (l1.length : Int))) then (if (wrap64 ((l0.length : Int) - (l1.length : Int))) ≤ (l0.length : Int) then (escape_joins.l0 k l1 (l0.drop ((wrap64 ((l0.length : Int) - (l1.length : Int))) : Int).toNat) ((l0.drop ((wrap64 ((l0.length : Int) - (l1.length : Int))) : Int).toNat).length : Int) 0) else (none)) else (none)
set_option maxHeartbeats 8000000 in
set_option maxRecDepth 100000 in
theorem escape_joins.calls (k : Nat) (A0 : Option Addr) (c0 : Nat) (l0 : List Int) (A1 : Option Addr) (c1 : Nat) (l1 : List Int) (r : Int) (w : World) (hG : Globs w) (hr0 : Kd.C (Kd.int .u8) w A0 l0.length l0) (hc0 : l0.length ≤ c0) (hr1 : Kd.C (Kd.int .i64) w A1 l1.length l1) (hc1 : l1.length ≤ c1) (h : escape_joins.f k l0 l1 = some r) :
    Calls Tryd.prog 29 #[.slice A0 l0.length c0, .slice A1 l1.length c1] w fun e w' => e = .returned (.int .i64 r) ∧ Below w.heap.size w w' := by
  have HR0 := Aside0.mk hr0
  have HC0 := Aside0.mk hc0
  clear hr0 hc0
  have HR1 := Aside0.mk hr1
  have HC1 := Aside0.mk hc1
  clear hr1 hc1
  have HG := Aside0.mk hG
  clear hG
  have HB := Aside0.mk (Below.refl w.heap.size w)
  have H : (if 0 ≤ (wrap64 ((l0.length : Int) - (l1.length : Int))) then (if (wrap64 ((l0.length : Int) - (l1.length : Int))) ≤ (l0.length : Int) then (escape_joins.l0 k l1 (l0.drop ((wrap64 ((l0.length : Int) - (l1.length : Int))) : Int).toNat) ((l0.drop ((wrap64 ((l0.length : Int) - (l1.length : Int))) : Int).toNat).length : Int) 0) else (none)) else (none)) = some r := h
  clear h
  obtain ⟨ji3, hji3⟩ : ∃ j_ : Int, (wrap64 ((l0.length : Int) - (l1.length : Int))) = j_ := ⟨_, rfl⟩
  replace H : (if 0 ≤ (ji3) then (if (ji3) ≤ (l0.length : Int) then (escape_joins.l0 k l1 (l0.drop ((ji3) : Int).toNat) ((l0.drop ((ji3) : Int).toNat).length : Int) 0) else (none)) else (none)) = some r := by first | (rw [hji3] at H; exact H) | (simp only [hji3] at H ⊢; exact H)
  have hji3w : (IntKind.i64.wrap ((l0.length : Int) - (l1.length : Int))) = ji3 := (i64_w _).trans hji3
  by_cases c4 : 0 ≤ (ji3)
  · rw [if_pos c4] at H
    have c4b0 := eq_true c4
    have c4b1 : decide (0 ≤ (ji3)) = true := decide_eq_true c4
    clear c4
    by_cases c5 : (ji3) ≤ (l0.length : Int)
    · rw [if_pos c5] at H
      have c5b0 := eq_true c5
      have c5b1 : decide ((ji3) ≤ (l0.length : Int)) = true := decide_eq_true c5
      clear c5
      have H' := Aside0.mk H
      clear H
      obtain ⟨i06, hi06, _, hsz6, _⟩ := info_parts info5
      obtain ⟨A6, hcut6, hA6, hC6⟩ := print_drop_of (P := Tryd.prog) (Value.int .u8) 0 22 5 .i64 Tryd.underlying22 hi06 hsz6 A0 c0 l0 (ji3) (of_decide_eq_true (by first | (with_reducible assumption) | assumption)) (of_decide_eq_true (by first | (with_reducible assumption) | assumption)) HC0.out
      have HR117 := Aside0.mk (Kd.C_of_reads (h1 := fun _ => rfl) (hA6 _ (Kd.reads_of_C HR0.out)))
      have HC117 := Aside0.mk hC6
      clear hA6 hC6 hi06 hsz6
      generalize hyd : l0.drop ((ji3) : Int).toNat = yd at hcut6 HR117 HC117 H'
      have Nyd := Aside0.mk hyd
      clear hyd
      go_enter Tryd.func29, Tryd.ntmps29
      go_wp2
      go_loopg [17] k (fun kq v17 w' => ∃ (x17_1 : Int), v17 = .int .i64 x17_1 ∧ Aside0 (escape_joins.l0 kq l1 yd (yd.length : Int) x17_1 = some r) ∧ Aside0 (kq ≤ k) ∧ Aside0 (Below w.heap.size w w'))
      case atStart => exact ⟨(0), (by first | rfl | (simp; done) | (simp [*]; done)), H', ⟨Nat.le_refl _⟩, ⟨by repeat (first | (with_reducible first | exact HB.out | apply below_alloc | apply pw_below_drewN | apply below_drew1) | exact HB.out)⟩⟩
      case round =>
        clear H'
        try clear c1
        try clear c2
        try clear p2
        try clear c4
        try clear c4b0
        try clear c4b1
        try clear c5
        try clear c5b0
        try clear c5b1
        try clear p6
        obtain ⟨x17_1, rfl, HA, HK1, HB⟩ := hrel
        cases gk with
        | zero => exact absurd HA.out (by simp [escape_joins.l0])
        | succ k1 =>
          have H := HA.out
          clear HA
          simp only [escape_joins.l0] at H
          by_cases c7 : x17_1 < (yd.length : Int)
          · rw [if_pos c7] at H
            have c7b0 : decide (x17_1 < (yd.length : Int)) = true := decide_eq_true c7
            clear c7
            by_cases c8 : 0 ≤ x17_1
            · rw [if_pos c8] at H
              have c8b0 : decide (0 ≤ x17_1) = true := decide_eq_true c8
              clear c8
              by_cases c9 : x17_1 < (yd.length : Int)
              · rw [if_pos c9] at H
                have c9b0 : decide (x17_1 < (yd.length : Int)) = true := decide_eq_true c9
                clear c9
                replace H := Option.bind_eq_some_iff.mp H
                obtain ⟨t119, A100, H⟩ := H
                replace H : (if t119 > 1 then (if (wrap64 (x17_1 + t119)) ≤ (yd.length : Int) then (if x17_1 ≤ (wrap64 (x17_1 + t119)) then ((octet_Whole.f k1 ((yd.take ((wrap64 (x17_1 + t119)) : Int).toNat).drop (x17_1 : Int).toNat)).bind fun t121 => (if t121 = true then (if x17_1 < (l1.length : Int) then (some (rd l1 x17_1)) else (none)) else (escape_joins.l0 k1 l1 yd (yd.length : Int) (wrap64 (x17_1 + 1))))) else (none)) else (escape_joins.l0 k1 l1 yd (yd.length : Int) (wrap64 (x17_1 + 1)))) else (escape_joins.l0 k1 l1 yd (yd.length : Int) (wrap64 (x17_1 + 1)))) = some r := H
                have A10 := Aside0.mk A100
                clear A100
                by_cases c11 : t119 > 1
                · rw [if_pos c11] at H
                  have c11b0 : decide (1 < t119) = true := decide_eq_true c11
                  clear c11
                  by_cases c12 : (wrap64 (x17_1 + t119)) ≤ (yd.length : Int)
                  · rw [if_pos c12] at H
                    have c12b0 : decide ((wrap64 (x17_1 + t119)) ≤ (yd.length : Int)) = true := decide_eq_true c12
                    clear c12
                    have c13b0 := eq_true (of_decide_eq_true (by first | (with_reducible assumption) | assumption) : 0 ≤ x17_1)
                    by_cases c14 : x17_1 ≤ (wrap64 (x17_1 + t119))
                    · rw [if_pos c14] at H
                      have c14b0 := eq_true c14
                      have c14b1 : decide (x17_1 ≤ (wrap64 (x17_1 + t119))) = true := decide_eq_true c14
                      have c15b0 := eq_true (of_decide_eq_true (by first | (with_reducible assumption) | assumption) : (wrap64 (x17_1 + t119)) ≤ (yd.length : Int))
                      replace H := Option.bind_eq_some_iff.mp H
                      obtain ⟨t121, A160, H⟩ := H
                      replace H : (if t121 = true then (if x17_1 < (l1.length : Int) then (some (rd l1 x17_1)) else (none)) else (escape_joins.l0 k1 l1 yd (yd.length : Int) (wrap64 (x17_1 + 1)))) = some r := H
                      have A16 := Aside0.mk A160
                      clear A160
                      by_cases c17 : t121 = true
                      · subst c17
                        have H1 : (if x17_1 < (l1.length : Int) then (some (rd l1 x17_1)) else (none)) = some r := by rw [if_pos rfl] at H; exact H
                        clear H
                        have H := H1
                        clear H1
                        by_cases c18 : x17_1 < (l1.length : Int)
                        · rw [if_pos c18] at H
                          have c18b0 : decide (x17_1 < (l1.length : Int)) = true := decide_eq_true c18
                          clear c18
                          obtain rfl := Option.some.inj H
                          have p118 : 0 ≤ (x17_1 : Int) := of_decide_eq_true (by first | (with_reducible assumption) | assumption)
                          have q118 : x17_1 < (yd.length : Int) := of_decide_eq_true (by first | (with_reducible assumption) | assumption)
                          obtain ⟨ad118, e118, hx118_0⟩ := Kd.at_int HR117.out x17_1 p118 q118
                          cases e118
                          replace hx118_0 := (HB.out.cell (World.block_lt_of_cell? w _ hx118_0)).trans hx118_0
                          replace p118 := eq_true p118
                          replace q118 := eq_true q118
                          go_wp2_with (first | ((with_reducible refine gate_callee (f := 45) rfl ?_); refine goesL_ (some 24) rfl rfl Tryd.func45 (by kernel_rfl) rfl #[.int .u8 (rd yd x17_1)] rfl (by (try simp only [List.map_toArray, List.map_cons, List.map_nil]); first | done | (simp only [hji3]; rfl) | rfl | (simp only [List.length_drop, List.length_take]; rfl)) ?_; (with_reducible refine (octet_Need.calls (rd yd x17_1) t119 _ ?side1 A10.out).mono ?_); (case side1 => exact Globs.below HG.out (by repeat (first | (with_reducible first | exact HB.out | apply below_alloc | apply pw_below_drewN | apply below_drew1) | exact HB.out))); rintro e w19 ⟨rfl, hb⟩; refine ⟨_, rfl, ?_⟩; have n0_ := Aside0.mk (below_step (by repeat (first | (with_reducible first | exact HB.out | apply below_alloc | apply pw_below_drewN | apply below_drew1) | exact HB.out)) hb); clear HB; have HB := n0_; clear n0_; (try clear hb); (try clear hb2); (try clear hk); (try clear hi); obtain ⟨i020, hi020, _, hsz20, _⟩ := info_parts info5; obtain ⟨A20, hcut20, hA20, hC20⟩ := print_mid_of (P := Tryd.prog) (Value.int .u8) 0 22 5 .i64 .i64 Tryd.underlying22 hi020 hsz20 (some ad118) (c0 - (ji3).toNat) yd x17_1 (wrap64 (x17_1 + t119)) (of_decide_eq_true (by first | (with_reducible assumption) | assumption)) (by first | omega | exact of_decide_eq_true (by first | (with_reducible assumption) | assumption)) (of_decide_eq_true (by first | (with_reducible assumption) | assumption)) HC117.out; have HR120 := Aside0.mk (Kd.C_of_reads (h1 := fun _ => rfl) (hA20 _ (Kd.reads_of_C HR117.out))); have HC120 := Aside0.mk hC20; clear hA20 hC20 hi020 hsz20) | (go_at_call 46; refine calls_of_args (args' := #[.slice _ ((yd.take ((wrap64 (x17_1 + t119)) : Int).toNat).drop (x17_1 : Int).toNat).length _]) (by rw [List.length_drop, List.length_take, Nat.min_eq_left (by have q_ := of_eq_true c15b0; omega)]) ?_; (with_reducible refine (octet_Whole.calls k1 _ _ ((yd.take ((wrap64 (x17_1 + t119)) : Int).toNat).drop (x17_1 : Int).toNat) true _ ?side1 ?side2 ?side3 A16.out).mono ?_); (case side1 => exact Globs.below HG.out (by repeat (first | (with_reducible first | exact HB.out | apply below_alloc | apply pw_below_drewN | apply below_drew1) | exact HB.out))); (case side2 => repeat (first | exact (Kd.C_below HR120.out HB.out) | (with_reducible refine Kd.C_alloc ?_ _) | (with_reducible refine Kd.C_drewN ?_ _) | (with_reducible refine Kd.C_drew ?_))); (case side3 => exact HC120.out); rintro e w21 ⟨rfl, hb⟩; have n0_ := Aside0.mk (below_step (by repeat (first | (with_reducible first | exact HB.out | apply below_alloc | apply pw_below_drewN | apply below_drew1) | exact HB.out)) hb); clear HB; have HB := n0_; clear n0_; (try clear hb); (try clear hb2); (try clear hk); (try clear hi); have p122 : 0 ≤ (x17_1 : Int) := of_decide_eq_true (by first | (with_reducible assumption) | assumption); have q122 : x17_1 < (l1.length : Int) := of_decide_eq_true (by first | (with_reducible assumption) | assumption); obtain ⟨ad122, e122, hx122_0⟩ := Kd.at_int HR1.out x17_1 p122 q122; cases e122; replace hx122_0 := (HB.out.cell (World.block_lt_of_cell? w _ hx122_0)).trans hx122_0; replace p122 := eq_true p122; replace q122 := eq_true q122))
                          go_ret
                          exact ⟨by first | rfl | (simp [errW_none, errW_some] <;> rfl) | (simp only [← hji3]; first | rfl | (simp [errW_none, errW_some] <;> rfl)) | (simp [*, errW_none, errW_some] <;> rfl), by repeat (first | (with_reducible first | exact HB.out | apply below_alloc | apply pw_below_drewN | apply below_drew1) | exact HB.out)⟩
                        · rw [if_neg c18] at H
                          exact absurd H (by simp)
                      · replace c17 := Bool.eq_false_iff.mpr c17
                        subst c17
                        have H1 : (escape_joins.l0 k1 l1 yd (yd.length : Int) (wrap64 (x17_1 + 1))) = some r := by rw [if_neg (show ¬ (false = true) by decide)] at H; exact H
                        clear H
                        have H := H1
                        clear H1
                        have H' := Aside0.mk H
                        clear H
                        have p118 : 0 ≤ (x17_1 : Int) := of_decide_eq_true (by first | (with_reducible assumption) | assumption)
                        have q118 : x17_1 < (yd.length : Int) := of_decide_eq_true (by first | (with_reducible assumption) | assumption)
                        obtain ⟨ad118, e118, hx118_0⟩ := Kd.at_int HR117.out x17_1 p118 q118
                        cases e118
                        replace hx118_0 := (HB.out.cell (World.block_lt_of_cell? w _ hx118_0)).trans hx118_0
                        replace p118 := eq_true p118
                        replace q118 := eq_true q118
                        go_wp2_with (first | ((with_reducible refine gate_callee (f := 45) rfl ?_); refine goesL_ (some 24) rfl rfl Tryd.func45 (by kernel_rfl) rfl #[.int .u8 (rd yd x17_1)] rfl (by (try simp only [List.map_toArray, List.map_cons, List.map_nil]); first | done | (simp only [hji3]; rfl) | rfl | (simp only [List.length_drop, List.length_take]; rfl)) ?_; (with_reducible refine (octet_Need.calls (rd yd x17_1) t119 _ ?side1 A10.out).mono ?_); (case side1 => exact Globs.below HG.out (by repeat (first | (with_reducible first | exact HB.out | apply below_alloc | apply pw_below_drewN | apply below_drew1) | exact HB.out))); rintro e w22 ⟨rfl, hb⟩; refine ⟨_, rfl, ?_⟩; have n0_ := Aside0.mk (below_step (by repeat (first | (with_reducible first | exact HB.out | apply below_alloc | apply pw_below_drewN | apply below_drew1) | exact HB.out)) hb); clear HB; have HB := n0_; clear n0_; (try clear hb); (try clear hb2); (try clear hk); (try clear hi); obtain ⟨i023, hi023, _, hsz23, _⟩ := info_parts info5; obtain ⟨A23, hcut23, hA23, hC23⟩ := print_mid_of (P := Tryd.prog) (Value.int .u8) 0 22 5 .i64 .i64 Tryd.underlying22 hi023 hsz23 (some ad118) (c0 - (ji3).toNat) yd x17_1 (wrap64 (x17_1 + t119)) (of_decide_eq_true (by first | (with_reducible assumption) | assumption)) (by first | omega | exact of_decide_eq_true (by first | (with_reducible assumption) | assumption)) (of_decide_eq_true (by first | (with_reducible assumption) | assumption)) HC117.out; have HR120 := Aside0.mk (Kd.C_of_reads (h1 := fun _ => rfl) (hA23 _ (Kd.reads_of_C HR117.out))); have HC120 := Aside0.mk hC23; clear hA23 hC23 hi023 hsz23) | (go_at_call 46; refine calls_of_args (args' := #[.slice _ ((yd.take ((wrap64 (x17_1 + t119)) : Int).toNat).drop (x17_1 : Int).toNat).length _]) (by rw [List.length_drop, List.length_take, Nat.min_eq_left (by have q_ := of_eq_true c15b0; omega)]) ?_; (with_reducible refine (octet_Whole.calls k1 _ _ ((yd.take ((wrap64 (x17_1 + t119)) : Int).toNat).drop (x17_1 : Int).toNat) false _ ?side1 ?side2 ?side3 A16.out).mono ?_); (case side1 => exact Globs.below HG.out (by repeat (first | (with_reducible first | exact HB.out | apply below_alloc | apply pw_below_drewN | apply below_drew1) | exact HB.out))); (case side2 => repeat (first | exact (Kd.C_below HR120.out HB.out) | (with_reducible refine Kd.C_alloc ?_ _) | (with_reducible refine Kd.C_drewN ?_ _) | (with_reducible refine Kd.C_drew ?_))); (case side3 => exact HC120.out); rintro e w24 ⟨rfl, hb⟩; have n0_ := Aside0.mk (below_step (by repeat (first | (with_reducible first | exact HB.out | apply below_alloc | apply pw_below_drewN | apply below_drew1) | exact HB.out)) hb); clear HB; have HB := n0_; clear n0_; (try clear hb); (try clear hb2); (try clear hk); (try clear hi)))
                        go_roundg k1
                        case measure => have := HK1.out; omega
                        case rel => exact ⟨(wrap64 (x17_1 + 1)), (by first | rfl | (simp; done) | (simp [*]; done)), H', ⟨by have := HK1.out; omega⟩, ⟨by repeat (first | (with_reducible first | exact HB.out | apply below_alloc | apply pw_below_drewN | apply below_drew1) | exact HB.out)⟩⟩
                    · rw [if_neg c14] at H
                      exact absurd H (by simp)
                  · rw [if_neg c12] at H
                    have c12b0 : decide ((wrap64 (x17_1 + t119)) ≤ (yd.length : Int)) = false := decide_eq_false c12
                    clear c12
                    have H' := Aside0.mk H
                    clear H
                    have p118 : 0 ≤ (x17_1 : Int) := of_decide_eq_true (by first | (with_reducible assumption) | assumption)
                    have q118 : x17_1 < (yd.length : Int) := of_decide_eq_true (by first | (with_reducible assumption) | assumption)
                    obtain ⟨ad118, e118, hx118_0⟩ := Kd.at_int HR117.out x17_1 p118 q118
                    cases e118
                    replace hx118_0 := (HB.out.cell (World.block_lt_of_cell? w _ hx118_0)).trans hx118_0
                    replace p118 := eq_true p118
                    replace q118 := eq_true q118
                    go_wp2_with (first | ((with_reducible refine gate_callee (f := 45) rfl ?_); refine goesL_ (some 24) rfl rfl Tryd.func45 (by kernel_rfl) rfl #[.int .u8 (rd yd x17_1)] rfl (by (try simp only [List.map_toArray, List.map_cons, List.map_nil]); first | done | (simp only [hji3]; rfl) | rfl | (simp only [List.length_drop, List.length_take]; rfl)) ?_; (with_reducible refine (octet_Need.calls (rd yd x17_1) t119 _ ?side1 A10.out).mono ?_); (case side1 => exact Globs.below HG.out (by repeat (first | (with_reducible first | exact HB.out | apply below_alloc | apply pw_below_drewN | apply below_drew1) | exact HB.out))); rintro e w25 ⟨rfl, hb⟩; refine ⟨_, rfl, ?_⟩; have n0_ := Aside0.mk (below_step (by repeat (first | (with_reducible first | exact HB.out | apply below_alloc | apply pw_below_drewN | apply below_drew1) | exact HB.out)) hb); clear HB; have HB := n0_; clear n0_; (try clear hb); (try clear hb2); (try clear hk); (try clear hi)))
                    go_roundg k1
                    case measure => have := HK1.out; omega
                    case rel => exact ⟨(wrap64 (x17_1 + 1)), (by first | rfl | (simp; done) | (simp [*]; done)), H', ⟨by have := HK1.out; omega⟩, ⟨by repeat (first | (with_reducible first | exact HB.out | apply below_alloc | apply pw_below_drewN | apply below_drew1) | exact HB.out)⟩⟩
                · rw [if_neg c11] at H
                  have c11b0 : decide (1 < t119) = false := decide_eq_false c11
                  clear c11
                  have H' := Aside0.mk H
                  clear H
                  have p118 : 0 ≤ (x17_1 : Int) := of_decide_eq_true (by first | (with_reducible assumption) | assumption)
                  have q118 : x17_1 < (yd.length : Int) := of_decide_eq_true (by first | (with_reducible assumption) | assumption)
                  obtain ⟨ad118, e118, hx118_0⟩ := Kd.at_int HR117.out x17_1 p118 q118
                  cases e118
                  replace hx118_0 := (HB.out.cell (World.block_lt_of_cell? w _ hx118_0)).trans hx118_0
                  replace p118 := eq_true p118
                  replace q118 := eq_true q118
                  go_wp2_with (first | ((with_reducible refine gate_callee (f := 45) rfl ?_); refine goesL_ (some 24) rfl rfl Tryd.func45 (by kernel_rfl) rfl #[.int .u8 (rd yd x17_1)] rfl (by (try simp only [List.map_toArray, List.map_cons, List.map_nil]); first | done | (simp only [hji3]; rfl) | rfl | (simp only [List.length_drop, List.length_take]; rfl)) ?_; (with_reducible refine (octet_Need.calls (rd yd x17_1) t119 _ ?side1 A10.out).mono ?_); (case side1 => exact Globs.below HG.out (by repeat (first | (with_reducible first | exact HB.out | apply below_alloc | apply pw_below_drewN | apply below_drew1) | exact HB.out))); rintro e w26 ⟨rfl, hb⟩; refine ⟨_, rfl, ?_⟩; have n0_ := Aside0.mk (below_step (by repeat (first | (with_reducible first | exact HB.out | apply below_alloc | apply pw_below_drewN | apply below_drew1) | exact HB.out)) hb); clear HB; have HB := n0_; clear n0_; (try clear hb); (try clear hb2); (try clear hk); (try clear hi)))
                  go_roundg k1
                  case measure => have := HK1.out; omega
                  case rel => exact ⟨(wrap64 (x17_1 + 1)), (by first | rfl | (simp; done) | (simp [*]; done)), H', ⟨by have := HK1.out; omega⟩, ⟨by repeat (first | (with_reducible first | exact HB.out | apply below_alloc | apply pw_below_drewN | apply below_drew1) | exact HB.out)⟩⟩
              · rw [if_neg c9] at H
                exact absurd H (by simp)
            · rw [if_neg c8] at H
              exact absurd H (by simp)
          · rw [if_neg c7] at H
            have c7b0 : decide (x17_1 < (yd.length : Int)) = false := decide_eq_false c7
            clear c7
            obtain rfl := Option.some.inj H
            go_wp2
            go_ret
            exact ⟨by first | rfl | (simp [errW_none, errW_some] <;> rfl) | (simp only [← hji3]; first | rfl | (simp [errW_none, errW_some] <;> rfl)) | (simp [*, errW_none, errW_some] <;> rfl), by repeat (first | (with_reducible first | exact HB.out | apply below_alloc | apply pw_below_drewN | apply below_drew1) | exact HB.out)⟩
    · rw [if_neg c5] at H
      exact absurd H (by simp)
  · rw [if_neg c4] at H
    exact absurd H (by simp)
end Go.Proofs.YtflddgoapibleaaDoor.Esc

namespace Go.Proofs.YtflddgoapibleaaDoor.Esc
open Go.RowKit Go.Proofs.YtflddgoapibleaaDoor.Hand Go.Proofs.YtflddgoapibleaaDoorW.PrintWords Go.Proofs.YtflddgoapibleaaDoorW.PrintLast Go.Proofs.YtflddgoapibleaaDoorW.PrintMore
attribute [local go_sem] max2_int min2_int max_two min_two max_three min_three max_four min_four
set_option linter.unusedVariables false
set_option linter.unusedSimpArgs false
mutual
def escape_Unquote.l0 : Nat → ByteArray → List Int → List Int → Int → Option (List Int × Int × Int)
  | 0, _, _, _, _ => none
  | k + 1, x0, x5, x6, x7 => if x7 < (x0.size : Int) then (if 0 ≤ x7 then (if x7 ≤ (x0.size : Int) then ((escape_piece.f (x0.extract (x7 : Int).toNat x0.size)).bind fun bt124 => (if bt124.2 = 0 then ((escape_joins.f k x5 x6).bind fun t128 => (if t128 ≥ 0 then (some (([] : List Int), t128, 230)) else (some (([] : List Int), x7, 230)))) else (if x5.length + bt124.1.length < 140737488355328 then ((some (x5 ++ bt124.1 : List Int)).bind fun y129 => (if bt124.2 = 4 then (if (bt x0 x7) = 92 then (if 0 ≤ (wrap64 (x7 + 1)) then (if (wrap64 (x7 + 1)) < (x0.size : Int) then (if (bt x0 (wrap64 (x7 + 1))) = 120 then (if 0 < (bt124.1.length : Int) then (escape_Unquote.j1 k x0 y129 x6 x7 bt124.1 bt124.2 (decide ((rd bt124.1 0) ≥ 128))) else (none)) else (escape_Unquote.j1 k x0 y129 x6 x7 bt124.1 bt124.2 false)) else (none)) else (none)) else (escape_Unquote.j1 k x0 y129 x6 x7 bt124.1 bt124.2 false)) else (escape_Unquote.j1 k x0 y129 x6 x7 bt124.1 bt124.2 false))) else (none)))) else (none)) else (none)) else ((escape_joins.f k x5 x6).bind fun t123 => (if t123 ≥ 0 then (some (([] : List Int), t123, 230)) else (some (x5, 0, 0))))
def escape_Unquote.j1 : Nat → ByteArray → List Int → List Int → Int → List Int → Int → Bool → Option (List Int × Int × Int)
  | 0, _, _, _, _, _, _, _ => none
  | k + 1, x0, x5, x6, x7, x8, x9, x56 => if x56 = true then (if x6.length < 17592186044416 then (escape_Unquote.l0 k x0 x5 (x6 ++ [x7]) (wrap64 (x7 + x9))) else (none)) else (if 0 ≤ (wrap64 ((x5.length : Int) - (x8.length : Int))) then (if (wrap64 ((x5.length : Int) - (x8.length : Int))) ≤ (x5.length : Int) then ((escape_joins.f k (x5.take ((wrap64 ((x5.length : Int) - (x8.length : Int))) : Int).toNat) x6).bind fun t140 => (if t140 ≥ 0 then (some (([] : List Int), t140, 230)) else (if 0 ≤ (x6.length : Int) then (escape_Unquote.l0 k x0 x5 (x6.take (0 : Int).toNat) (wrap64 (x7 + x9))) else (none)))) else (none)) else (none))
end
def escape_Unquote.f (k : Nat) (a0 : ByteArray) : Option (List Int × Int × Int) := escape_Unquote.l0 k a0 ([] : List Int) ([] : List Int) 0
set_option maxHeartbeats 8000000 in
set_option maxRecDepth 100000 in
theorem escape_Unquote.calls (k : Nat) (a0 : ByteArray) (r1 : List Int) (r2 : Int) (r3 : Int) (w : World) (hG : Globs w) (h : escape_Unquote.f k a0 = some (r1, r2, r3)) :
    Calls Tryd.prog 15 #[.string a0] w fun e w' => ∃ v0_ : Value, e = .returned (.tuple #[v0_, .int .i64 r2, .int .i64 r3]) ∧ Kd.R (Kd.int .u8) 5 w' w.heap.size (fun _ => True) v0_ r1 ∧ Below w.heap.size w w' := by
  have HG := Aside0.mk hG
  clear hG
  have HB := Aside0.mk (Below.refl w.heap.size w)
  have H : (escape_Unquote.l0 k a0 ([] : List Int) ([] : List Int) 0) = some (r1, r2, r3) := h
  clear h
  have H' := Aside0.mk H
  clear H
  go_enter Tryd.func15, Tryd.ntmps15
  go_wp2
  go_loopg [5, 6, 7] k (fun kq v5 v6 v7 w' => ∃ (x5_1 : List Int) (x6_1 : List Int) (x7_1 : Int), v7 = .int .i64 x7_1 ∧ Aside0 (escape_Unquote.l0 kq a0 x5_1 x6_1 x7_1 = some (r1, r2, r3)) ∧ Aside0 (kq ≤ k) ∧ Aside0 (Kd.R (Kd.int .u8) 5 w' w.heap.size (fun _ => True) v5 x5_1) ∧ Aside0 (Kd.R (Kd.int .i64) 3 w' w.heap.size (fun _ => True) v6 x6_1) ∧ Aside0 (Below w.heap.size w w'))
  case atStart => exact ⟨(([] : List Int)), (([] : List Int)), (0), (by first | rfl | (simp; done) | (simp [*]; done)), H', ⟨Nat.le_refl _⟩, ⟨by first | exact Kd.R_nil _ _ _ _ _ | exact Kd.N_nil _ _ _ _ _ | exact Kd.V_nil _ _ _ _ _ | exact Kd.Q_nil _ _ _ _ _ | exact Kd.S_nil _ _ _ _ _⟩, ⟨by first | exact Kd.R_nil _ _ _ _ _ | exact Kd.N_nil _ _ _ _ _ | exact Kd.V_nil _ _ _ _ _ | exact Kd.Q_nil _ _ _ _ _ | exact Kd.S_nil _ _ _ _ _⟩, ⟨by repeat (first | (with_reducible first | exact HB.out | apply below_alloc | apply pw_below_drewN | apply below_drew1) | exact HB.out)⟩⟩
  case round =>
    clear H'
    try clear c1
    obtain ⟨x5_1, x6_1, x7_1, rfl, HA, HK1, HO_5, HO_6, HB⟩ := hrel
    cases gk with
    | zero => exact absurd HA.out (by simp [escape_Unquote.l0])
    | succ k1 =>
      have H := HA.out
      clear HA
      simp only [escape_Unquote.l0] at H
      by_cases c2 : x7_1 < (a0.size : Int)
      · rw [if_pos c2] at H
        have c2b0 : decide (x7_1 < (a0.size : Int)) = true := decide_eq_true c2
        clear c2
        by_cases c3 : 0 ≤ x7_1
        · rw [if_pos c3] at H
          have c3b0 := eq_true c3
          have c3b1 : decide (0 ≤ x7_1) = true := decide_eq_true c3
          clear c3
          by_cases c4 : x7_1 ≤ (a0.size : Int)
          · rw [if_pos c4] at H
            have c4b0 := eq_true c4
            have c4b1 : decide (x7_1 ≤ (a0.size : Int)) = true := decide_eq_true c4
            clear c4
            replace H := Option.bind_eq_some_iff.mp H
            obtain ⟨⟨t124, t125⟩, A50, H⟩ := H
            replace H : (if t125 = 0 then ((escape_joins.f k1 x5_1 x6_1).bind fun t128 => (if t128 ≥ 0 then (some (([] : List Int), t128, 230)) else (some (([] : List Int), x7_1, 230)))) else (if x5_1.length + t124.length < 140737488355328 then ((some (x5_1 ++ t124 : List Int)).bind fun y129 => (if t125 = 4 then (if (bt a0 x7_1) = 92 then (if 0 ≤ (wrap64 (x7_1 + 1)) then (if (wrap64 (x7_1 + 1)) < (a0.size : Int) then (if (bt a0 (wrap64 (x7_1 + 1))) = 120 then (if 0 < (t124.length : Int) then (escape_Unquote.j1 k1 a0 y129 x6_1 x7_1 t124 t125 (decide ((rd t124 0) ≥ 128))) else (none)) else (escape_Unquote.j1 k1 a0 y129 x6_1 x7_1 t124 t125 false)) else (none)) else (none)) else (escape_Unquote.j1 k1 a0 y129 x6_1 x7_1 t124 t125 false)) else (escape_Unquote.j1 k1 a0 y129 x6_1 x7_1 t124 t125 false))) else (none))) = some (r1, r2, r3) := H
            have A5 := Aside0.mk A50
            clear A50
            by_cases c6 : t125 = 0
            · rw [if_pos c6] at H
              have c6b0 : (t125 == 0) = true := beq_iff_eq.mpr c6
              have c6b1 : (t125 != 0) = false := bne_eq_false_iff_eq.mpr c6
              clear c6
              replace H := Option.bind_eq_some_iff.mp H
              obtain ⟨t128, A70, H⟩ := H
              replace H : (if t128 ≥ 0 then (some (([] : List Int), t128, 230)) else (some (([] : List Int), x7_1, 230))) = some (r1, r2, r3) := H
              have A7 := Aside0.mk A70
              clear A70
              by_cases c8 : t128 ≥ 0
              · rw [if_pos c8] at H
                have c8b0 : decide (0 ≤ t128) = true := decide_eq_true c8
                clear c8
                simp only [Option.some.injEq, Prod.mk.injEq] at H
                obtain ⟨rfl, rfl, rfl⟩ := H
                go_wp2_with (first | ((with_reducible refine gate_callee (f := 28) rfl ?_); refine goesL_ (some 21) rfl rfl Tryd.func28 (by kernel_rfl) rfl #[.string (a0.extract (x7_1 : Int).toNat a0.size)] rfl (by (try simp only [List.map_toArray, List.map_cons, List.map_nil]); first | done | rfl | (simp only [List.length_drop, List.length_take]; rfl)) ?_; (with_reducible refine (escape_piece.calls (a0.extract (x7_1 : Int).toNat a0.size) t124 t125 _ ?side1 A5.out).mono ?_); (case side1 => exact Globs.below HG.out (by repeat (first | (with_reducible first | exact HB.out | apply below_alloc | apply pw_below_drewN | apply below_drew1) | exact HB.out))); rintro e w9 ⟨v126, rfl, ho0, hb⟩; refine ⟨_, rfl, ?_⟩; have n0_ := Aside0.mk (Kd.R_elder' (by (with_reducible repeat (first | apply Kd.R_alloc | apply Kd.R_drewN | apply Kd.R_drew)); exact HO_5.out) (Kd.R_base ho0) hb); have n1_ := Aside0.mk (Kd.R_below (by (with_reducible repeat (first | apply Kd.R_alloc | apply Kd.R_drewN | apply Kd.R_drew)); exact HO_6.out) hb); have n2_ := Aside0.mk (Kd.R_lower (Kd.R_new' ho0 (Kd.R_lt (by (with_reducible repeat (first | apply Kd.R_alloc | apply Kd.R_drewN | apply Kd.R_drew)); exact HO_5.out))) (below_size (by repeat (first | (with_reducible first | exact HB.out | apply below_alloc | apply pw_below_drewN | apply below_drew1) | exact HB.out)))); have n3_ := Aside0.mk (below_step (by repeat (first | (with_reducible first | exact HB.out | apply below_alloc | apply pw_below_drewN | apply below_drew1) | exact HB.out)) hb); clear HO_5; clear HO_6; clear HB; have HO_5 := n0_; have HO_6 := n1_; have HO127 := n2_; have HB := n3_; clear n0_ n1_ n2_ n3_; (try clear hb); (try clear hb2); (try clear hk); (try clear hi); (try clear ho0); obtain ⟨Ao10, co10, eo10⟩ := Kd.R_slice HO_5.out; subst eo10; obtain ⟨Ao11, co11, eo11⟩ := Kd.R_slice HO_6.out; subst eo11) | ((with_reducible refine gate_callee (f := 29) rfl ?_); refine goesL_ (some 28) rfl rfl Tryd.func29 (by kernel_rfl) rfl #[.slice Ao10 x5_1.length co10, .slice Ao11 x6_1.length co11] rfl (by (try simp only [List.map_toArray, List.map_cons, List.map_nil]); first | done | rfl | (simp only [List.length_drop, List.length_take]; rfl)) ?_; (with_reducible refine (escape_joins.calls k1 _ _ x5_1 _ _ x6_1 t128 _ ?side1 ?side2 ?side3 ?side4 ?side5 A7.out).mono ?_); (case side1 => exact Globs.below HG.out (by repeat (first | (with_reducible first | exact HB.out | apply below_alloc | apply pw_below_drewN | apply below_drew1) | exact HB.out))); (case side2 => repeat (first | exact (Kd.R_reads' HO_5.out).2.2 | (with_reducible refine Kd.C_alloc ?_ _) | (with_reducible refine Kd.C_drewN ?_ _) | (with_reducible refine Kd.C_drew ?_))); (case side3 => exact (Kd.R_reads' HO_5.out).2.1); (case side4 => repeat (first | exact (Kd.R_reads' HO_6.out).2.2 | (with_reducible refine Kd.C_alloc ?_ _) | (with_reducible refine Kd.C_drewN ?_ _) | (with_reducible refine Kd.C_drew ?_))); (case side5 => exact (Kd.R_reads' HO_6.out).2.1); rintro e w12 ⟨rfl, hb⟩; refine ⟨_, rfl, ?_⟩; have n0_ := Aside0.mk (Kd.R_below (by (with_reducible repeat (first | apply Kd.R_alloc | apply Kd.R_drewN | apply Kd.R_drew)); exact HO_5.out) hb); have n1_ := Aside0.mk (Kd.R_below (by (with_reducible repeat (first | apply Kd.R_alloc | apply Kd.R_drewN | apply Kd.R_drew)); exact HO_6.out) hb); have n2_ := Aside0.mk (Kd.R_below (by (with_reducible repeat (first | apply Kd.R_alloc | apply Kd.R_drewN | apply Kd.R_drew)); exact HO127.out) hb); have n3_ := Aside0.mk (below_step (by repeat (first | (with_reducible first | exact HB.out | apply below_alloc | apply pw_below_drewN | apply below_drew1) | exact HB.out)) hb); clear HO_5; clear HO_6; clear HO127; clear HB; have HO_5 := n0_; have HO_6 := n1_; have HO127 := n2_; have HB := n3_; clear n0_ n1_ n2_ n3_; (try clear hb); (try clear hb2); (try clear hk); (try clear hi)))
                go_ret3
                exact ⟨_, by first | rfl | (simp [errW_none, errW_some] <;> rfl) | (simp [*, errW_none, errW_some] <;> rfl), by first | exact Kd.R_nil _ _ _ _ _ | exact Kd.N_nil _ _ _ _ _ | exact Kd.V_nil _ _ _ _ _ | exact Kd.Q_nil _ _ _ _ _ | exact Kd.S_nil _ _ _ _ _, by repeat (first | (with_reducible first | exact HB.out | apply below_alloc | apply pw_below_drewN | apply below_drew1) | exact HB.out)⟩
              · rw [if_neg c8] at H
                have c8b0 : decide (0 ≤ t128) = false := decide_eq_false c8
                clear c8
                simp only [Option.some.injEq, Prod.mk.injEq] at H
                obtain ⟨rfl, rfl, rfl⟩ := H
                go_wp2_with (first | ((with_reducible refine gate_callee (f := 28) rfl ?_); refine goesL_ (some 21) rfl rfl Tryd.func28 (by kernel_rfl) rfl #[.string (a0.extract (x7_1 : Int).toNat a0.size)] rfl (by (try simp only [List.map_toArray, List.map_cons, List.map_nil]); first | done | rfl | (simp only [List.length_drop, List.length_take]; rfl)) ?_; (with_reducible refine (escape_piece.calls (a0.extract (x7_1 : Int).toNat a0.size) t124 t125 _ ?side1 A5.out).mono ?_); (case side1 => exact Globs.below HG.out (by repeat (first | (with_reducible first | exact HB.out | apply below_alloc | apply pw_below_drewN | apply below_drew1) | exact HB.out))); rintro e w13 ⟨v126, rfl, ho0, hb⟩; refine ⟨_, rfl, ?_⟩; have n0_ := Aside0.mk (Kd.R_elder' (by (with_reducible repeat (first | apply Kd.R_alloc | apply Kd.R_drewN | apply Kd.R_drew)); exact HO_5.out) (Kd.R_base ho0) hb); have n1_ := Aside0.mk (Kd.R_below (by (with_reducible repeat (first | apply Kd.R_alloc | apply Kd.R_drewN | apply Kd.R_drew)); exact HO_6.out) hb); have n2_ := Aside0.mk (Kd.R_lower (Kd.R_new' ho0 (Kd.R_lt (by (with_reducible repeat (first | apply Kd.R_alloc | apply Kd.R_drewN | apply Kd.R_drew)); exact HO_5.out))) (below_size (by repeat (first | (with_reducible first | exact HB.out | apply below_alloc | apply pw_below_drewN | apply below_drew1) | exact HB.out)))); have n3_ := Aside0.mk (below_step (by repeat (first | (with_reducible first | exact HB.out | apply below_alloc | apply pw_below_drewN | apply below_drew1) | exact HB.out)) hb); clear HO_5; clear HO_6; clear HB; have HO_5 := n0_; have HO_6 := n1_; have HO127 := n2_; have HB := n3_; clear n0_ n1_ n2_ n3_; (try clear hb); (try clear hb2); (try clear hk); (try clear hi); (try clear ho0); obtain ⟨Ao14, co14, eo14⟩ := Kd.R_slice HO_5.out; subst eo14; obtain ⟨Ao15, co15, eo15⟩ := Kd.R_slice HO_6.out; subst eo15) | ((with_reducible refine gate_callee (f := 29) rfl ?_); refine goesL_ (some 28) rfl rfl Tryd.func29 (by kernel_rfl) rfl #[.slice Ao14 x5_1.length co14, .slice Ao15 x6_1.length co15] rfl (by (try simp only [List.map_toArray, List.map_cons, List.map_nil]); first | done | rfl | (simp only [List.length_drop, List.length_take]; rfl)) ?_; (with_reducible refine (escape_joins.calls k1 _ _ x5_1 _ _ x6_1 t128 _ ?side1 ?side2 ?side3 ?side4 ?side5 A7.out).mono ?_); (case side1 => exact Globs.below HG.out (by repeat (first | (with_reducible first | exact HB.out | apply below_alloc | apply pw_below_drewN | apply below_drew1) | exact HB.out))); (case side2 => repeat (first | exact (Kd.R_reads' HO_5.out).2.2 | (with_reducible refine Kd.C_alloc ?_ _) | (with_reducible refine Kd.C_drewN ?_ _) | (with_reducible refine Kd.C_drew ?_))); (case side3 => exact (Kd.R_reads' HO_5.out).2.1); (case side4 => repeat (first | exact (Kd.R_reads' HO_6.out).2.2 | (with_reducible refine Kd.C_alloc ?_ _) | (with_reducible refine Kd.C_drewN ?_ _) | (with_reducible refine Kd.C_drew ?_))); (case side5 => exact (Kd.R_reads' HO_6.out).2.1); rintro e w16 ⟨rfl, hb⟩; refine ⟨_, rfl, ?_⟩; have n0_ := Aside0.mk (Kd.R_below (by (with_reducible repeat (first | apply Kd.R_alloc | apply Kd.R_drewN | apply Kd.R_drew)); exact HO_5.out) hb); have n1_ := Aside0.mk (Kd.R_below (by (with_reducible repeat (first | apply Kd.R_alloc | apply Kd.R_drewN | apply Kd.R_drew)); exact HO_6.out) hb); have n2_ := Aside0.mk (Kd.R_below (by (with_reducible repeat (first | apply Kd.R_alloc | apply Kd.R_drewN | apply Kd.R_drew)); exact HO127.out) hb); have n3_ := Aside0.mk (below_step (by repeat (first | (with_reducible first | exact HB.out | apply below_alloc | apply pw_below_drewN | apply below_drew1) | exact HB.out)) hb); clear HO_5; clear HO_6; clear HO127; clear HB; have HO_5 := n0_; have HO_6 := n1_; have HO127 := n2_; have HB := n3_; clear n0_ n1_ n2_ n3_; (try clear hb); (try clear hb2); (try clear hk); (try clear hi)))
                go_ret3
                exact ⟨_, by first | rfl | (simp [errW_none, errW_some] <;> rfl) | (simp [*, errW_none, errW_some] <;> rfl), by first | exact Kd.R_nil _ _ _ _ _ | exact Kd.N_nil _ _ _ _ _ | exact Kd.V_nil _ _ _ _ _ | exact Kd.Q_nil _ _ _ _ _ | exact Kd.S_nil _ _ _ _ _, by repeat (first | (with_reducible first | exact HB.out | apply below_alloc | apply pw_below_drewN | apply below_drew1) | exact HB.out)⟩
            · rw [if_neg c6] at H
              have c6b0 : (t125 == 0) = false := beq_eq_false_iff_ne.mpr c6
              have c6b1 : (t125 != 0) = true := bne_iff_ne.mpr c6
              by_cases c17 : x5_1.length + t124.length < 140737488355328
              · rw [if_pos c17] at H
                have LMc17 := Aside0.mk c17
                clear c17
                obtain ⟨y129, hy129⟩ : ∃ y_ : List Int, y_ = (x5_1 ++ t124) := ⟨_, rfl⟩
                replace H : (if t125 = 4 then (if (bt a0 x7_1) = 92 then (if 0 ≤ (wrap64 (x7_1 + 1)) then (if (wrap64 (x7_1 + 1)) < (a0.size : Int) then (if (bt a0 (wrap64 (x7_1 + 1))) = 120 then (if 0 < (t124.length : Int) then (escape_Unquote.j1 k1 a0 y129 x6_1 x7_1 t124 t125 (decide ((rd t124 0) ≥ 128))) else (none)) else (escape_Unquote.j1 k1 a0 y129 x6_1 x7_1 t124 t125 false)) else (none)) else (none)) else (escape_Unquote.j1 k1 a0 y129 x6_1 x7_1 t124 t125 false)) else (escape_Unquote.j1 k1 a0 y129 x6_1 x7_1 t124 t125 false)) = some (r1, r2, r3) := by first | (rw [hy129]; with_reducible exact H) | (have H2_ := (Option.bind_some _ _).symm.trans H; rw [hy129]; with_reducible exact H2_) | (have H2_ := (Option.bind_some _ _).symm.trans H; with_reducible exact H2_) | with_reducible exact H | (rw [hy129]; exact H) | exact H
                have Ny129 := Aside0.mk hy129
                clear hy129
                have HC18 := Aside0.mk H
                clear H
                go_upto_region 12 with (first | ((with_reducible refine gate_callee (f := 28) rfl ?_); refine goesL_ (some 21) rfl rfl Tryd.func28 (by kernel_rfl) rfl #[.string (a0.extract (x7_1 : Int).toNat a0.size)] rfl (by (try simp only [List.map_toArray, List.map_cons, List.map_nil]); first | done | rfl | (simp only [List.length_drop, List.length_take]; rfl)) ?_; (with_reducible refine (escape_piece.calls (a0.extract (x7_1 : Int).toNat a0.size) t124 t125 _ ?side1 A5.out).mono ?_); (case side1 => exact Globs.below HG.out (by repeat (first | (with_reducible first | exact HB.out | apply below_alloc | apply pw_below_drewN | apply below_drew1) | exact HB.out))); rintro e w19 ⟨v126, rfl, ho0, hb⟩; refine ⟨_, rfl, ?_⟩; have n0_ := Aside0.mk (Kd.R_elder' (by (with_reducible repeat (first | apply Kd.R_alloc | apply Kd.R_drewN | apply Kd.R_drew)); exact HO_5.out) (Kd.R_base ho0) hb); have n1_ := Aside0.mk (Kd.R_below (by (with_reducible repeat (first | apply Kd.R_alloc | apply Kd.R_drewN | apply Kd.R_drew)); exact HO_6.out) hb); have n2_ := Aside0.mk (Kd.R_lower (Kd.R_new' ho0 (Kd.R_lt (by (with_reducible repeat (first | apply Kd.R_alloc | apply Kd.R_drewN | apply Kd.R_drew)); exact HO_5.out))) (below_size (by repeat (first | (with_reducible first | exact HB.out | apply below_alloc | apply pw_below_drewN | apply below_drew1) | exact HB.out)))); have n3_ := Aside0.mk (below_step (by repeat (first | (with_reducible first | exact HB.out | apply below_alloc | apply pw_below_drewN | apply below_drew1) | exact HB.out)) hb); clear HO_5; clear HO_6; clear HB; have HO_5 := n0_; have HO_6 := n1_; have HO127 := n2_; have HB := n3_; clear n0_ n1_ n2_ n3_; (try clear hb); (try clear hb2); (try clear hk); (try clear hi); (try clear ho0); obtain ⟨Ao21, co21, eo21⟩ := Kd.R_slice HO127.out; subst eo21) | ((with_reducible refine gate_builtin (b := .append) (xs := #[.tmp 33, .tmp 34]) rfl ?_); at_builtin; refine Kd.R_append_rows (Kd.int .u8) (w0 := w) w.heap.size rfl (.tmp 33) (.tmp 34) 22 5 (.int .u8 0) 1 rfl Tryd.underlying22 info5 rfl (by decide) (by omega) u5 x5_1 t124 _ _ _ (fun k_ => some k_ ≠ (.slice Ao21 t124.length co21 : Value).ownBlock) (fun _ => False) rfl rfl ?aO ?aR (fun _ _ h => h) (fun _ h => h.elim) ?aF ?aB ?aS ?aL ?_; (case aR => repeat (first | exact (Kd.R_reads' HO127.out).2.2 | (with_reducible refine Kd.C_alloc ?_ _) | (with_reducible refine Kd.C_drewN ?_ _) | (with_reducible refine Kd.C_drew ?_))); (case aB => exact (by repeat (first | (with_reducible first | exact HB.out | apply below_alloc | apply pw_below_drewN | apply below_drew1) | exact HB.out))); (case aF => exact (fun k_ hk => Kd.fresh' (Kd.R_lt (by (with_reducible repeat (first | apply Kd.R_alloc | apply Kd.R_drewN | apply Kd.R_drew)); exact HO127.out)) k_ hk)); (case aO => exact (by (with_reducible repeat (first | apply Kd.R_alloc | apply Kd.R_drewN | apply Kd.R_drew)); exact Kd.R_mono HO_5.out (fun _ hk => hk.2))); (case aS => exact (below_size (by repeat (first | (with_reducible first | exact HB.out | apply below_alloc | apply pw_below_drewN | apply below_drew1) | exact HB.out)))); (case aL => have := LMc17.out; omega); intro v130 w20 ho hb hg hat; rw [← Ny129.out] at ho; have n0_ := Aside0.mk (Kd.R_over' (by (with_reducible repeat (first | apply Kd.R_alloc | apply Kd.R_drewN | apply Kd.R_drew)); exact HO_6.out) (Kd.R_typed (by (with_reducible repeat (first | apply Kd.R_alloc | apply Kd.R_drewN | apply Kd.R_drew)); exact HO_5.out)) (by decide) hg); have n1_ := Aside0.mk (Kd.R_after (ok := (fun _ => True)) (by (with_reducible repeat (first | apply Kd.R_alloc | apply Kd.R_drewN | apply Kd.R_drew)); exact HO127.out) hg hat); have n2_ := Aside0.mk (hb); have n3_ := Aside0.mk (ho); clear HO_6; clear HO127; clear HB; clear HO_5; have HO_6 := n0_; have HO127 := n1_; have HB := n2_; have HO131 := n3_; clear n0_ n1_ n2_ n3_; clear ho hb hg hat))
                (try simp only [Act.put, List.setIfInBounds_toArray, List.set_cons_zero, List.set_cons_succ])
                go_cut [56] (fun v56 wc => ∃ (kq : Nat) (x56_17 : Bool), v56 = .bool x56_17 ∧ Aside0 (escape_Unquote.j1 kq a0 y129 x6_1 x7_1 t124 t125 x56_17 = some (r1, r2, r3)) ∧ Aside0 (kq ≤ k1) ∧ Aside0 (Kd.R (Kd.int .u8) 5 wc w.heap.size (fun k_ => some k_ ≠ ((.slice Ao21 t124.length co21) : Value).ownBlock) v130 y129) ∧ Aside0 (Kd.R (Kd.int .i64) 3 wc w.heap.size (fun _ => True) u6 x6_1) ∧ Aside0 (Kd.R (Kd.int .u8) 5 wc w.heap.size (fun k_ => some k_ ≠ (v130 : Value).ownBlock) (.slice Ao21 t124.length co21) t124) ∧ Aside0 (Below w.heap.size w wc))
                case first =>
                  have H := HC18.out
                  clear HC18
                  by_cases c22 : t125 = 4
                  · rw [if_pos c22] at H
                    have c22b0 : (t125 == 4) = true := beq_iff_eq.mpr c22
                    have c22b1 : (t125 != 4) = false := bne_eq_false_iff_eq.mpr c22
                    clear c22
                    (first | rw [c22b0] | (simp only [i64_w, i32_w]; rw [c22b0]) | skip)
                    by_cases c24 : (bt a0 x7_1) = 92
                    · rw [if_pos c24] at H
                      have c24b0 : ((bt a0 x7_1) == 92) = true := beq_iff_eq.mpr c24
                      have c24b1 : ((bt a0 x7_1) != 92) = false := bne_eq_false_iff_eq.mpr c24
                      clear c24
                      obtain ⟨ji25, hji25⟩ : ∃ j_ : Int, (wrap64 (x7_1 + 1)) = j_ := ⟨_, rfl⟩
                      replace H : (if 0 ≤ (ji25) then (if (ji25) < (a0.size : Int) then (if (bt a0 (ji25)) = 120 then (if 0 < (t124.length : Int) then (escape_Unquote.j1 k1 a0 y129 x6_1 x7_1 t124 t125 (decide ((rd t124 0) ≥ 128))) else (none)) else (escape_Unquote.j1 k1 a0 y129 x6_1 x7_1 t124 t125 false)) else (none)) else (none)) = some (r1, r2, r3) := by first | (rw [hji25] at H; exact H) | (simp only [hji25] at H ⊢; exact H)
                      have hji25w : (IntKind.i64.wrap (x7_1 + 1)) = ji25 := (i64_w _).trans hji25
                      by_cases c26 : 0 ≤ (ji25)
                      · rw [if_pos c26] at H
                        have c26b0 : decide (0 ≤ (ji25)) = true := decide_eq_true c26
                        clear c26
                        by_cases c27 : (ji25) < (a0.size : Int)
                        · rw [if_pos c27] at H
                          have c27b0 : decide ((ji25) < (a0.size : Int)) = true := decide_eq_true c27
                          clear c27
                          by_cases c29 : (bt a0 (ji25)) = 120
                          · rw [if_pos c29] at H
                            have c29b0 : ((bt a0 (ji25)) == 120) = true := beq_iff_eq.mpr c29
                            have c29b1 : ((bt a0 (ji25)) != 120) = false := bne_eq_false_iff_eq.mpr c29
                            clear c29
                            by_cases c30 : 0 < (t124.length : Int)
                            · rw [if_pos c30] at H
                              have c30b0 : decide (0 < (t124.length : Int)) = true := decide_eq_true c30
                              have c30b1 : decide (0 < t124.length) = true := decide_eq_true (by omega)
                              clear c30
                              have H' := Aside0.mk H
                              clear H
                              have p23 : 0 ≤ (x7_1 : Int) := of_decide_eq_true (by first | (with_reducible assumption) | assumption)
                              have q23 : x7_1 < (a0.size : Int) := of_decide_eq_true (by first | (with_reducible assumption) | assumption)
                              have hx23 := bt_at a0 x7_1
                              replace p23 := eq_true p23
                              replace q23 := eq_true q23
                              have p28 : 0 ≤ ((ji25) : Int) := of_decide_eq_true (by first | (with_reducible assumption) | assumption)
                              have q28 : (ji25) < (a0.size : Int) := of_decide_eq_true (by first | (with_reducible assumption) | assumption)
                              have hx28 := bt_at a0 (ji25)
                              replace p28 := eq_true p28
                              replace q28 := eq_true q28
                              have p132 : 0 ≤ (0 : Int) := (by omega)
                              have q132 : 0 < (t124.length : Int) := of_decide_eq_true (by first | (with_reducible assumption) | assumption)
                              obtain ⟨ad132, e132, hx132_0⟩ := Kd.at_int (Kd.R_reads' HO127.out).2.2 0 p132 q132
                              cases e132
                              have qi132 : (0 < t124.length) = True := eq_true (by omega)
                              (try rw [show ((0 : Int)).toNat = 0 from rfl] at hx132_0)
                              (try rw [Addr.add_zero'] at hx132_0)
                              replace p132 := eq_true p132
                              replace q132 := eq_true q132
                              go_wp2
                              go_meet
                              case rel => exact ⟨_, (decide ((rd t124 0) ≥ 128)), (by first | rfl | (simp; done) | (simp [*]; done)), H', ⟨by have := HK1.out; first | omega | exact Nat.le_refl _⟩, ⟨by (with_reducible repeat (first | apply Kd.R_alloc | apply Kd.R_drewN | apply Kd.R_drew)); exact HO131.out⟩, ⟨by (with_reducible repeat (first | apply Kd.R_alloc | apply Kd.R_drewN | apply Kd.R_drew)); exact HO_6.out⟩, ⟨by (with_reducible repeat (first | apply Kd.R_alloc | apply Kd.R_drewN | apply Kd.R_drew)); exact Kd.R_mono HO127.out (fun _ hk => hk.2)⟩, ⟨by repeat (first | (with_reducible first | exact HB.out | apply below_alloc | apply pw_below_drewN | apply below_drew1) | exact HB.out)⟩⟩
                            · rw [if_neg c30] at H
                              exact absurd H (by simp)
                          · rw [if_neg c29] at H
                            have c29b0 : ((bt a0 (ji25)) == 120) = false := beq_eq_false_iff_ne.mpr c29
                            have c29b1 : ((bt a0 (ji25)) != 120) = true := bne_iff_ne.mpr c29
                            have H' := Aside0.mk H
                            clear H
                            have p23 : 0 ≤ (x7_1 : Int) := of_decide_eq_true (by first | (with_reducible assumption) | assumption)
                            have q23 : x7_1 < (a0.size : Int) := of_decide_eq_true (by first | (with_reducible assumption) | assumption)
                            have hx23 := bt_at a0 x7_1
                            replace p23 := eq_true p23
                            replace q23 := eq_true q23
                            have p28 : 0 ≤ ((ji25) : Int) := of_decide_eq_true (by first | (with_reducible assumption) | assumption)
                            have q28 : (ji25) < (a0.size : Int) := of_decide_eq_true (by first | (with_reducible assumption) | assumption)
                            have hx28 := bt_at a0 (ji25)
                            replace p28 := eq_true p28
                            replace q28 := eq_true q28
                            go_wp2
                            go_meet
                            case rel => exact ⟨_, (false), (by first | rfl | (simp; done) | (simp [*]; done)), H', ⟨by have := HK1.out; first | omega | exact Nat.le_refl _⟩, ⟨by (with_reducible repeat (first | apply Kd.R_alloc | apply Kd.R_drewN | apply Kd.R_drew)); exact HO131.out⟩, ⟨by (with_reducible repeat (first | apply Kd.R_alloc | apply Kd.R_drewN | apply Kd.R_drew)); exact HO_6.out⟩, ⟨by (with_reducible repeat (first | apply Kd.R_alloc | apply Kd.R_drewN | apply Kd.R_drew)); exact Kd.R_mono HO127.out (fun _ hk => hk.2)⟩, ⟨by repeat (first | (with_reducible first | exact HB.out | apply below_alloc | apply pw_below_drewN | apply below_drew1) | exact HB.out)⟩⟩
                        · rw [if_neg c27] at H
                          exact absurd H (by simp)
                      · rw [if_neg c26] at H
                        exact absurd H (by simp)
                    · rw [if_neg c24] at H
                      have c24b0 : ((bt a0 x7_1) == 92) = false := beq_eq_false_iff_ne.mpr c24
                      have c24b1 : ((bt a0 x7_1) != 92) = true := bne_iff_ne.mpr c24
                      have H' := Aside0.mk H
                      clear H
                      have p23 : 0 ≤ (x7_1 : Int) := of_decide_eq_true (by first | (with_reducible assumption) | assumption)
                      have q23 : x7_1 < (a0.size : Int) := of_decide_eq_true (by first | (with_reducible assumption) | assumption)
                      have hx23 := bt_at a0 x7_1
                      replace p23 := eq_true p23
                      replace q23 := eq_true q23
                      go_wp2
                      go_meet
                      case rel => exact ⟨_, (false), (by first | rfl | (simp; done) | (simp [*]; done)), H', ⟨by have := HK1.out; first | omega | exact Nat.le_refl _⟩, ⟨by (with_reducible repeat (first | apply Kd.R_alloc | apply Kd.R_drewN | apply Kd.R_drew)); exact HO131.out⟩, ⟨by (with_reducible repeat (first | apply Kd.R_alloc | apply Kd.R_drewN | apply Kd.R_drew)); exact HO_6.out⟩, ⟨by (with_reducible repeat (first | apply Kd.R_alloc | apply Kd.R_drewN | apply Kd.R_drew)); exact Kd.R_mono HO127.out (fun _ hk => hk.2)⟩, ⟨by repeat (first | (with_reducible first | exact HB.out | apply below_alloc | apply pw_below_drewN | apply below_drew1) | exact HB.out)⟩⟩
                  · rw [if_neg c22] at H
                    have c22b0 : (t125 == 4) = false := beq_eq_false_iff_ne.mpr c22
                    have c22b1 : (t125 != 4) = true := bne_iff_ne.mpr c22
                    (first | rw [c22b0] | (simp only [i64_w, i32_w]; rw [c22b0]) | skip)
                    have H' := Aside0.mk H
                    clear H
                    go_wp2
                    go_meet
                    case rel => exact ⟨_, (false), (by first | rfl | (simp; done) | (simp [*]; done)), H', ⟨by have := HK1.out; first | omega | exact Nat.le_refl _⟩, ⟨by (with_reducible repeat (first | apply Kd.R_alloc | apply Kd.R_drewN | apply Kd.R_drew)); exact HO131.out⟩, ⟨by (with_reducible repeat (first | apply Kd.R_alloc | apply Kd.R_drewN | apply Kd.R_drew)); exact HO_6.out⟩, ⟨by (with_reducible repeat (first | apply Kd.R_alloc | apply Kd.R_drewN | apply Kd.R_drew)); exact Kd.R_mono HO127.out (fun _ hk => hk.2)⟩, ⟨by repeat (first | (with_reducible first | exact HB.out | apply below_alloc | apply pw_below_drewN | apply below_drew1) | exact HB.out)⟩⟩
                case rest =>
                  clear HC18
                  try clear c1
                  try clear p1
                  try clear q1
                  try clear hx1
                  try clear qi1
                  try clear c2
                  try clear c2b0
                  try clear p2
                  try clear q2
                  try clear hx2
                  try clear c3
                  try clear c3b0
                  try clear c3b1
                  try clear c4
                  try clear c4b0
                  try clear c4b1
                  try clear c6
                  try clear c6b0
                  try clear c6b1
                  try clear p6
                  try clear c8
                  try clear c8b0
                  try clear p13
                  try clear q13
                  try clear hx13
                  try clear qi13
                  try clear c15
                  try clear c17
                  try clear c22
                  try clear c22b0
                  try clear c22b1
                  try clear p23
                  try clear q23
                  try clear hx23
                  try clear c24
                  try clear c24b0
                  try clear c24b1
                  try clear c26
                  try clear c26b0
                  try clear c27
                  try clear c27b0
                  try clear c28
                  try clear p28
                  try clear q28
                  try clear hx28
                  try clear c29
                  try clear c29b0
                  try clear c29b1
                  try clear c30
                  try clear c30b0
                  try clear c30b1
                  try clear hx132_0
                  try clear p132
                  try clear p23
                  try clear p28
                  try clear q132
                  try clear q23
                  try clear q28
                  obtain ⟨kq, x56_17, rfl, HA, HJ17, HO_5, HO_6, HO_8, HB⟩ := hcut
                  cases kq with
                  | zero => exact absurd HA.out (by simp [escape_Unquote.j1])
                  | succ kj17 =>
                    have H := HA.out
                    clear HA
                    simp only [escape_Unquote.j1] at H
                    by_cases c31 : x56_17 = true
                    · subst c31
                      have H1 : (if x6_1.length < 17592186044416 then (escape_Unquote.l0 kj17 a0 y129 (x6_1 ++ [x7_1]) (wrap64 (x7_1 + t125))) else (none)) = some (r1, r2, r3) := by rw [if_pos rfl] at H; exact H
                      clear H
                      have H := H1
                      clear H1
                      by_cases c32 : x6_1.length < 17592186044416
                      · rw [if_pos c32] at H
                        have LMc32 := Aside0.mk c32
                        clear c32
                        obtain ⟨y133, hy133⟩ : ∃ y_ : List Int, y_ = (x6_1 ++ [x7_1]) := ⟨_, rfl⟩
                        replace H : (escape_Unquote.l0 kj17 a0 y129 y133 (wrap64 (x7_1 + t125))) = some (r1, r2, r3) := by first | (rw [hy133]; with_reducible exact H) | (have H2_ := (Option.bind_some _ _).symm.trans H; rw [hy133]; with_reducible exact H2_) | (have H2_ := (Option.bind_some _ _).symm.trans H; with_reducible exact H2_) | with_reducible exact H | (rw [hy133]; exact H) | exact H
                        have Ny133 := Aside0.mk hy133
                        clear hy133
                        have H' := Aside0.mk H
                        clear H
                        go_wp2_with (first | ((with_reducible refine gate_builtin (b := .append) (xs := #[.tmp 57, .tmp 59]) rfl ?_); at_builtin; refine Kd.R_append (Kd.int .i64) (w0 := w) w.heap.size rfl (.tmp 57) (.tmp 59) 43 3 (.int .i64 0) 8 rfl Tryd.underlying43 info3 rfl (by decide) (by omega) u6 x6_1 x7_1 [.int .i64 x7_1] (fun _ => True) (fun _ => False) rfl rfl ?aP (fun _ hk => hk.elim) ?aF ?aO ?aB ?aS ?aL ?_; (case aP => exact rfl); (case aB => exact (by repeat (first | (with_reducible first | exact HB.out | apply below_alloc | apply pw_below_drewN | apply below_drew1) | exact HB.out))); (case aF => exact (fun _ _ => trivial)); (case aO => exact (by (with_reducible repeat (first | apply Kd.R_alloc | apply Kd.R_drewN | apply Kd.R_drew)); exact HO_6.out)); (case aS => exact (below_size (by repeat (first | (with_reducible first | exact HB.out | apply below_alloc | apply pw_below_drewN | apply below_drew1) | exact HB.out)))); (case aL => have := LMc32.out; omega); intro v134 w33 ho hb hg hat; rw [← Ny133.out] at ho; have n0_ := Aside0.mk (Kd.R_over' (by (with_reducible repeat (first | apply Kd.R_alloc | apply Kd.R_drewN | apply Kd.R_drew)); exact HO_5.out) (Kd.R_typed (by (with_reducible repeat (first | apply Kd.R_alloc | apply Kd.R_drewN | apply Kd.R_drew)); exact HO_6.out)) (by decide) hg); have n1_ := Aside0.mk (Kd.R_over' (by (with_reducible repeat (first | apply Kd.R_alloc | apply Kd.R_drewN | apply Kd.R_drew)); exact HO_8.out) (Kd.R_typed (by (with_reducible repeat (first | apply Kd.R_alloc | apply Kd.R_drewN | apply Kd.R_drew)); exact HO_6.out)) (by decide) hg); have n2_ := Aside0.mk (hb); have n3_ := Aside0.mk (ho); clear HO_5; clear HO_8; clear HB; clear HO_6; have HO_5 := n0_; have HO_8 := n1_; have HB := n2_; have HO135 := n3_; clear n0_ n1_ n2_ n3_; clear ho hb hg hat))
                        go_roundg kj17
                        case measure => have := HK1.out; have := HJ17.out; omega
                        case rel => exact ⟨(y129), (y133), (wrap64 (x7_1 + t125)), (by first | rfl | (simp; done) | (simp [*]; done)), H', ⟨by have := HK1.out; have := HJ17.out; omega⟩, ⟨by (with_reducible repeat (first | apply Kd.R_alloc | apply Kd.R_drewN | apply Kd.R_drew)); exact Kd.R_mono HO_5.out (fun _ hk => trivial)⟩, ⟨by (with_reducible repeat (first | apply Kd.R_alloc | apply Kd.R_drewN | apply Kd.R_drew)); exact HO135.out⟩, ⟨by repeat (first | (with_reducible first | exact HB.out | apply below_alloc | apply pw_below_drewN | apply below_drew1) | exact HB.out)⟩⟩
                      · rw [if_neg c32] at H
                        exact absurd H (by simp)
                    · replace c31 := Bool.eq_false_iff.mpr c31
                      subst c31
                      have H1 : (if 0 ≤ (wrap64 ((y129.length : Int) - (t124.length : Int))) then (if (wrap64 ((y129.length : Int) - (t124.length : Int))) ≤ (y129.length : Int) then ((escape_joins.f kj17 (y129.take ((wrap64 ((y129.length : Int) - (t124.length : Int))) : Int).toNat) x6_1).bind fun t140 => (if t140 ≥ 0 then (some (([] : List Int), t140, 230)) else (if 0 ≤ (x6_1.length : Int) then (escape_Unquote.l0 kj17 a0 y129 (x6_1.take (0 : Int).toNat) (wrap64 (x7_1 + t125))) else (none)))) else (none)) else (none)) = some (r1, r2, r3) := by rw [if_neg (show ¬ (false = true) by decide)] at H; exact H
                      clear H
                      have H := H1
                      clear H1
                      obtain ⟨ji34, hji34⟩ : ∃ j_ : Int, (wrap64 ((y129.length : Int) - (t124.length : Int))) = j_ := ⟨_, rfl⟩
                      replace H : (if 0 ≤ (ji34) then (if (ji34) ≤ (y129.length : Int) then ((escape_joins.f kj17 (y129.take ((ji34) : Int).toNat) x6_1).bind fun t140 => (if t140 ≥ 0 then (some (([] : List Int), t140, 230)) else (if 0 ≤ (x6_1.length : Int) then (escape_Unquote.l0 kj17 a0 y129 (x6_1.take (0 : Int).toNat) (wrap64 (x7_1 + t125))) else (none)))) else (none)) else (none)) = some (r1, r2, r3) := by first | (rw [hji34] at H; exact H) | (simp only [hji34] at H ⊢; exact H)
                      have hji34w : (IntKind.i64.wrap ((y129.length : Int) - (t124.length : Int))) = ji34 := (i64_w _).trans hji34
                      by_cases c35 : 0 ≤ (ji34)
                      · rw [if_pos c35] at H
                        have c35b0 := eq_true c35
                        have c35b1 : decide (0 ≤ (ji34)) = true := decide_eq_true c35
                        clear c35
                        by_cases c36 : (ji34) ≤ (y129.length : Int)
                        · rw [if_pos c36] at H
                          have c36b0 := eq_true c36
                          have c36b1 : decide ((ji34) ≤ (y129.length : Int)) = true := decide_eq_true c36
                          clear c36
                          obtain ⟨y136, hy136⟩ : ∃ y_ : List Int, y_ = (y129.take ((ji34) : Int).toNat) := ⟨_, rfl⟩
                          replace H : ((escape_joins.f kj17 y136 x6_1).bind fun t140 => (if t140 ≥ 0 then (some (([] : List Int), t140, 230)) else (if 0 ≤ (x6_1.length : Int) then (escape_Unquote.l0 kj17 a0 y129 (x6_1.take (0 : Int).toNat) (wrap64 (x7_1 + t125))) else (none)))) = some (r1, r2, r3) := by first | (rw [hy136]; with_reducible exact H) | (have H2_ := (Option.bind_some _ _).symm.trans H; rw [hy136]; with_reducible exact H2_) | (have H2_ := (Option.bind_some _ _).symm.trans H; with_reducible exact H2_) | with_reducible exact H | (rw [hy136]; exact H) | exact H
                          have Ny136 := Aside0.mk hy136
                          clear hy136
                          replace H := Option.bind_eq_some_iff.mp H
                          obtain ⟨t140, A370, H⟩ := H
                          replace H : (if t140 ≥ 0 then (some (([] : List Int), t140, 230)) else (if 0 ≤ (x6_1.length : Int) then (escape_Unquote.l0 kj17 a0 y129 (x6_1.take (0 : Int).toNat) (wrap64 (x7_1 + t125))) else (none))) = some (r1, r2, r3) := H
                          have A37 := Aside0.mk A370
                          clear A370
                          by_cases c38 : t140 ≥ 0
                          · rw [if_pos c38] at H
                            have c38b0 : decide (0 ≤ t140) = true := decide_eq_true c38
                            clear c38
                            simp only [Option.some.injEq, Prod.mk.injEq] at H
                            obtain ⟨rfl, rfl, rfl⟩ := H
                            obtain ⟨Ao39, co39, eo39⟩ := Kd.R_slice HO_5.out
                            subst eo39
                            have q40 : ((ji34) : Int) ≤ ((y129.length : Int) : Int) := of_decide_eq_true (by first | (with_reducible assumption) | assumption)
                            obtain ⟨i040, hi040, _, hsz40, _⟩ := info_parts info5
                            have hroom40 : y129.length ≤ co39 := (Kd.R_reads' HO_5.out).2.1
                            have hC40 : Kd.C (Kd.int .u8) _ Ao39 y129.length y129 := (Kd.R_reads' HO_5.out).2.2
                            have hcut40 := cut_to (P := Tryd.prog) 22 5 .i64 Tryd.underlying22 hi040 Ao39 y129.length co39 (ji34) (of_decide_eq_true (by first | (with_reducible assumption) | assumption)) q40 hroom40
                            have hr40 := Kd.C_take (m := ((ji34) : Int).toNat) hC40 (by omega)
                            have hy40 : y136.length = ((ji34) : Int).toNat := (by rw [Ny136.out, List.length_take]; omega)
                            rw [← Ny136.out] at hr40
                            rw [← hy40] at hcut40
                            have HR139 := Aside0.mk hr40
                            have HC139 := Aside0.mk (show y136.length ≤ co39 from by omega)
                            clear hr40 hC40 hroom40 hi040 hsz40
                            have KY40 := Aside0.mk hy40
                            clear hy40
                            have KL40 := Aside0.mk (show ((ji34) : Int).toNat ≤ y129.length from by omega)
                            replace q40 := eq_true q40
                            obtain ⟨Ao41, co41, eo41⟩ := Kd.R_slice HO_6.out
                            subst eo41
                            go_wp2_with (first | ((with_reducible refine gate_callee (f := 29) rfl ?_); refine goesL_ (some 69) rfl rfl Tryd.func29 (by kernel_rfl) rfl #[.slice Ao39 y136.length co39, .slice Ao41 x6_1.length co41] rfl (by (try simp only [List.map_toArray, List.map_cons, List.map_nil]); first | done | rfl | (simp only [List.length_drop, List.length_take]; rfl)) ?_; (with_reducible refine (escape_joins.calls kj17 _ _ y136 _ _ x6_1 t140 _ ?side1 ?side2 ?side3 ?side4 ?side5 A37.out).mono ?_); (case side1 => exact Globs.below HG.out (by repeat (first | (with_reducible first | exact HB.out | apply below_alloc | apply pw_below_drewN | apply below_drew1) | exact HB.out))); (case side2 => repeat (first | exact (by repeat (first | (with_reducible exact HR139.out) | (with_reducible refine Kd.C_alloc ?_ _) | (with_reducible refine Kd.C_drewN ?_ _) | (with_reducible refine Kd.C_drew ?_) | exact HR139.out)) | (with_reducible refine Kd.C_alloc ?_ _) | (with_reducible refine Kd.C_drewN ?_ _) | (with_reducible refine Kd.C_drew ?_))); (case side3 => exact HC139.out); (case side4 => repeat (first | exact (Kd.R_reads' HO_6.out).2.2 | (with_reducible refine Kd.C_alloc ?_ _) | (with_reducible refine Kd.C_drewN ?_ _) | (with_reducible refine Kd.C_drew ?_))); (case side5 => exact (Kd.R_reads' HO_6.out).2.1); rintro e w42 ⟨rfl, hb⟩; refine ⟨_, rfl, ?_⟩; have n0_ := Aside0.mk (Kd.R_below (by (with_reducible repeat (first | apply Kd.R_alloc | apply Kd.R_drewN | apply Kd.R_drew)); exact HO_5.out) hb); have n1_ := Aside0.mk (Kd.R_below (by (with_reducible repeat (first | apply Kd.R_alloc | apply Kd.R_drewN | apply Kd.R_drew)); exact HO_6.out) hb); have n2_ := Aside0.mk (Kd.R_below (by (with_reducible repeat (first | apply Kd.R_alloc | apply Kd.R_drewN | apply Kd.R_drew)); exact HO_8.out) hb); have n3_ := Aside0.mk (Kd.C_below (by repeat (first | (with_reducible exact HR139.out) | (with_reducible refine Kd.C_alloc ?_ _) | (with_reducible refine Kd.C_drewN ?_ _) | (with_reducible refine Kd.C_drew ?_) | exact HR139.out)) hb); have n4_ := Aside0.mk (below_step (by repeat (first | (with_reducible first | exact HB.out | apply below_alloc | apply pw_below_drewN | apply below_drew1) | exact HB.out)) hb); clear HO_5; clear HO_6; clear HO_8; clear HR139; clear HB; have HO_5 := n0_; have HO_6 := n1_; have HO_8 := n2_; have HR139 := n3_; have HB := n4_; clear n0_ n1_ n2_ n3_ n4_; (try clear hb); (try clear hb2); (try clear hk); (try clear hi)))
                            go_ret3
                            exact ⟨_, by first | rfl | (simp [errW_none, errW_some] <;> rfl) | (simp only [← hji34]; first | rfl | (simp [errW_none, errW_some] <;> rfl)) | (simp [*, errW_none, errW_some] <;> rfl), by first | exact Kd.R_nil _ _ _ _ _ | exact Kd.N_nil _ _ _ _ _ | exact Kd.V_nil _ _ _ _ _ | exact Kd.Q_nil _ _ _ _ _ | exact Kd.S_nil _ _ _ _ _, by repeat (first | (with_reducible first | exact HB.out | apply below_alloc | apply pw_below_drewN | apply below_drew1) | exact HB.out)⟩
                          · rw [if_neg c38] at H
                            have c38b0 : decide (0 ≤ t140) = false := decide_eq_false c38
                            clear c38
                            by_cases c43 : 0 ≤ (x6_1.length : Int)
                            · rw [if_pos c43] at H
                              have c43b0 := eq_true c43
                              have c43b1 : decide (0 ≤ (x6_1.length : Int)) = true := decide_eq_true c43
                              clear c43
                              obtain ⟨y141, hy141⟩ : ∃ y_ : List Int, y_ = (x6_1.take (0 : Int).toNat) := ⟨_, rfl⟩
                              replace H : (escape_Unquote.l0 kj17 a0 y129 y141 (wrap64 (x7_1 + t125))) = some (r1, r2, r3) := by first | (rw [hy141]; with_reducible exact H) | (have H2_ := (Option.bind_some _ _).symm.trans H; rw [hy141]; with_reducible exact H2_) | (have H2_ := (Option.bind_some _ _).symm.trans H; with_reducible exact H2_) | with_reducible exact H | (rw [hy141]; exact H) | exact H
                              have Ny141 := Aside0.mk hy141
                              clear hy141
                              have H' := Aside0.mk H
                              clear H
                              obtain ⟨Ao44, co44, eo44⟩ := Kd.R_slice HO_5.out
                              subst eo44
                              have q45 : ((ji34) : Int) ≤ ((y129.length : Int) : Int) := of_decide_eq_true (by first | (with_reducible assumption) | assumption)
                              obtain ⟨i045, hi045, _, hsz45, _⟩ := info_parts info5
                              have hroom45 : y129.length ≤ co44 := (Kd.R_reads' HO_5.out).2.1
                              have hC45 : Kd.C (Kd.int .u8) _ Ao44 y129.length y129 := (Kd.R_reads' HO_5.out).2.2
                              have hcut45 := cut_to (P := Tryd.prog) 22 5 .i64 Tryd.underlying22 hi045 Ao44 y129.length co44 (ji34) (of_decide_eq_true (by first | (with_reducible assumption) | assumption)) q45 hroom45
                              have hr45 := Kd.C_take (m := ((ji34) : Int).toNat) hC45 (by omega)
                              have hy45 : y136.length = ((ji34) : Int).toNat := (by rw [Ny136.out, List.length_take]; omega)
                              rw [← Ny136.out] at hr45
                              rw [← hy45] at hcut45
                              have HR139 := Aside0.mk hr45
                              have HC139 := Aside0.mk (show y136.length ≤ co44 from by omega)
                              clear hr45 hC45 hroom45 hi045 hsz45
                              have KY45 := Aside0.mk hy45
                              clear hy45
                              have KL45 := Aside0.mk (show ((ji34) : Int).toNat ≤ y129.length from by omega)
                              replace q45 := eq_true q45
                              obtain ⟨Ao46, co46, eo46⟩ := Kd.R_slice HO_6.out
                              subst eo46
                              go_wp2_with (first | ((with_reducible refine gate_callee (f := 29) rfl ?_); refine goesL_ (some 69) rfl rfl Tryd.func29 (by kernel_rfl) rfl #[.slice Ao44 y136.length co44, .slice Ao46 x6_1.length co46] rfl (by (try simp only [List.map_toArray, List.map_cons, List.map_nil]); first | done | rfl | (simp only [List.length_drop, List.length_take]; rfl)) ?_; (with_reducible refine (escape_joins.calls kj17 _ _ y136 _ _ x6_1 t140 _ ?side1 ?side2 ?side3 ?side4 ?side5 A37.out).mono ?_); (case side1 => exact Globs.below HG.out (by repeat (first | (with_reducible first | exact HB.out | apply below_alloc | apply pw_below_drewN | apply below_drew1) | exact HB.out))); (case side2 => repeat (first | exact (by repeat (first | (with_reducible exact HR139.out) | (with_reducible refine Kd.C_alloc ?_ _) | (with_reducible refine Kd.C_drewN ?_ _) | (with_reducible refine Kd.C_drew ?_) | exact HR139.out)) | (with_reducible refine Kd.C_alloc ?_ _) | (with_reducible refine Kd.C_drewN ?_ _) | (with_reducible refine Kd.C_drew ?_))); (case side3 => exact HC139.out); (case side4 => repeat (first | exact (Kd.R_reads' HO_6.out).2.2 | (with_reducible refine Kd.C_alloc ?_ _) | (with_reducible refine Kd.C_drewN ?_ _) | (with_reducible refine Kd.C_drew ?_))); (case side5 => exact (Kd.R_reads' HO_6.out).2.1); rintro e w47 ⟨rfl, hb⟩; refine ⟨_, rfl, ?_⟩; have n0_ := Aside0.mk (Kd.R_below (by (with_reducible repeat (first | apply Kd.R_alloc | apply Kd.R_drewN | apply Kd.R_drew)); exact HO_5.out) hb); have n1_ := Aside0.mk (Kd.R_below (by (with_reducible repeat (first | apply Kd.R_alloc | apply Kd.R_drewN | apply Kd.R_drew)); exact HO_6.out) hb); have n2_ := Aside0.mk (Kd.R_below (by (with_reducible repeat (first | apply Kd.R_alloc | apply Kd.R_drewN | apply Kd.R_drew)); exact HO_8.out) hb); have n3_ := Aside0.mk (Kd.C_below (by repeat (first | (with_reducible exact HR139.out) | (with_reducible refine Kd.C_alloc ?_ _) | (with_reducible refine Kd.C_drewN ?_ _) | (with_reducible refine Kd.C_drew ?_) | exact HR139.out)) hb); have n4_ := Aside0.mk (below_step (by repeat (first | (with_reducible first | exact HB.out | apply below_alloc | apply pw_below_drewN | apply below_drew1) | exact HB.out)) hb); clear HO_5; clear HO_6; clear HO_8; clear HR139; clear HB; have HO_5 := n0_; have HO_6 := n1_; have HO_8 := n2_; have HR139 := n3_; have HB := n4_; clear n0_ n1_ n2_ n3_ n4_; (try clear hb); (try clear hb2); (try clear hk); (try clear hi); have q48 : (0 : Int) ≤ ((x6_1.length : Int) : Int) := of_decide_eq_true (by first | (with_reducible assumption) | assumption); obtain ⟨i048, hi048, _, hsz48, _⟩ := info_parts info3; have hcut48 := cut_to (P := Tryd.prog) 43 3 .i64 Tryd.underlying43 hi048 Ao46 x6_1.length co46 0 (by omega) q48 (Kd.R_reads' HO_6.out).2.1; have hr48 := Kd.R_take (m := (0 : Int).toNat) HO_6.out (by omega); have hy48 : y141.length = (0 : Int).toNat := (by rw [Ny141.out, List.length_take]; omega); rw [← Ny141.out] at hr48; rw [← hy48] at hr48 hcut48; clear hy48 hi048 hsz48 HO_6; have HO143 := Aside0.mk hr48; clear hr48; replace q48 := eq_true q48))
                              go_roundg kj17
                              case measure => have := HK1.out; have := HJ17.out; omega
                              case rel => exact ⟨(y129), (y141), (wrap64 (x7_1 + t125)), (by first | rfl | (simp; done) | (simp [*]; done)), H', ⟨by have := HK1.out; have := HJ17.out; omega⟩, ⟨by (with_reducible repeat (first | apply Kd.R_alloc | apply Kd.R_drewN | apply Kd.R_drew)); exact Kd.R_mono HO_5.out (fun _ hk => trivial)⟩, ⟨by (with_reducible repeat (first | apply Kd.R_alloc | apply Kd.R_drewN | apply Kd.R_drew)); exact HO143.out⟩, ⟨by repeat (first | (with_reducible first | exact HB.out | apply below_alloc | apply pw_below_drewN | apply below_drew1) | exact HB.out)⟩⟩
                            · rw [if_neg c43] at H
                              exact absurd H (by simp)
                        · rw [if_neg c36] at H
                          exact absurd H (by simp)
                      · rw [if_neg c35] at H
                        exact absurd H (by simp)
              · rw [if_neg c17] at H
                exact absurd H (by simp)
          · rw [if_neg c4] at H
            exact absurd H (by simp)
        · rw [if_neg c3] at H
          exact absurd H (by simp)
      · rw [if_neg c2] at H
        have c2b0 : decide (x7_1 < (a0.size : Int)) = false := decide_eq_false c2
        clear c2
        replace H := Option.bind_eq_some_iff.mp H
        obtain ⟨t123, A490, H⟩ := H
        replace H : (if t123 ≥ 0 then (some (([] : List Int), t123, 230)) else (some (x5_1, 0, 0))) = some (r1, r2, r3) := H
        have A49 := Aside0.mk A490
        clear A490
        by_cases c50 : t123 ≥ 0
        · rw [if_pos c50] at H
          have c50b0 : decide (0 ≤ t123) = true := decide_eq_true c50
          clear c50
          simp only [Option.some.injEq, Prod.mk.injEq] at H
          obtain ⟨rfl, rfl, rfl⟩ := H
          obtain ⟨Ao51, co51, eo51⟩ := Kd.R_slice HO_5.out
          subst eo51
          obtain ⟨Ao52, co52, eo52⟩ := Kd.R_slice HO_6.out
          subst eo52
          go_wp2_with (first | ((with_reducible refine gate_callee (f := 29) rfl ?_); refine goesL_ (some 80) rfl rfl Tryd.func29 (by kernel_rfl) rfl #[.slice Ao51 x5_1.length co51, .slice Ao52 x6_1.length co52] rfl (by (try simp only [List.map_toArray, List.map_cons, List.map_nil]); first | done | rfl | (simp only [List.length_drop, List.length_take]; rfl)) ?_; (with_reducible refine (escape_joins.calls k1 _ _ x5_1 _ _ x6_1 t123 _ ?side1 ?side2 ?side3 ?side4 ?side5 A49.out).mono ?_); (case side1 => exact Globs.below HG.out (by repeat (first | (with_reducible first | exact HB.out | apply below_alloc | apply pw_below_drewN | apply below_drew1) | exact HB.out))); (case side2 => repeat (first | exact (Kd.R_reads' HO_5.out).2.2 | (with_reducible refine Kd.C_alloc ?_ _) | (with_reducible refine Kd.C_drewN ?_ _) | (with_reducible refine Kd.C_drew ?_))); (case side3 => exact (Kd.R_reads' HO_5.out).2.1); (case side4 => repeat (first | exact (Kd.R_reads' HO_6.out).2.2 | (with_reducible refine Kd.C_alloc ?_ _) | (with_reducible refine Kd.C_drewN ?_ _) | (with_reducible refine Kd.C_drew ?_))); (case side5 => exact (Kd.R_reads' HO_6.out).2.1); rintro e w53 ⟨rfl, hb⟩; refine ⟨_, rfl, ?_⟩; have n0_ := Aside0.mk (Kd.R_below (by (with_reducible repeat (first | apply Kd.R_alloc | apply Kd.R_drewN | apply Kd.R_drew)); exact HO_5.out) hb); have n1_ := Aside0.mk (Kd.R_below (by (with_reducible repeat (first | apply Kd.R_alloc | apply Kd.R_drewN | apply Kd.R_drew)); exact HO_6.out) hb); have n2_ := Aside0.mk (below_step (by repeat (first | (with_reducible first | exact HB.out | apply below_alloc | apply pw_below_drewN | apply below_drew1) | exact HB.out)) hb); clear HO_5; clear HO_6; clear HB; have HO_5 := n0_; have HO_6 := n1_; have HB := n2_; clear n0_ n1_ n2_; (try clear hb); (try clear hb2); (try clear hk); (try clear hi)))
          go_ret3
          exact ⟨_, by first | rfl | (simp [errW_none, errW_some] <;> rfl) | (simp [*, errW_none, errW_some] <;> rfl), by first | exact Kd.R_nil _ _ _ _ _ | exact Kd.N_nil _ _ _ _ _ | exact Kd.V_nil _ _ _ _ _ | exact Kd.Q_nil _ _ _ _ _ | exact Kd.S_nil _ _ _ _ _, by repeat (first | (with_reducible first | exact HB.out | apply below_alloc | apply pw_below_drewN | apply below_drew1) | exact HB.out)⟩
        · rw [if_neg c50] at H
          have c50b0 : decide (0 ≤ t123) = false := decide_eq_false c50
          clear c50
          simp only [Option.some.injEq, Prod.mk.injEq] at H
          obtain ⟨rfl, rfl, rfl⟩ := H
          obtain ⟨Ao54, co54, eo54⟩ := Kd.R_slice HO_5.out
          subst eo54
          obtain ⟨Ao55, co55, eo55⟩ := Kd.R_slice HO_6.out
          subst eo55
          go_wp2_with (first | ((with_reducible refine gate_callee (f := 29) rfl ?_); refine goesL_ (some 80) rfl rfl Tryd.func29 (by kernel_rfl) rfl #[.slice Ao54 x5_1.length co54, .slice Ao55 x6_1.length co55] rfl (by (try simp only [List.map_toArray, List.map_cons, List.map_nil]); first | done | rfl | (simp only [List.length_drop, List.length_take]; rfl)) ?_; (with_reducible refine (escape_joins.calls k1 _ _ x5_1 _ _ x6_1 t123 _ ?side1 ?side2 ?side3 ?side4 ?side5 A49.out).mono ?_); (case side1 => exact Globs.below HG.out (by repeat (first | (with_reducible first | exact HB.out | apply below_alloc | apply pw_below_drewN | apply below_drew1) | exact HB.out))); (case side2 => repeat (first | exact (Kd.R_reads' HO_5.out).2.2 | (with_reducible refine Kd.C_alloc ?_ _) | (with_reducible refine Kd.C_drewN ?_ _) | (with_reducible refine Kd.C_drew ?_))); (case side3 => exact (Kd.R_reads' HO_5.out).2.1); (case side4 => repeat (first | exact (Kd.R_reads' HO_6.out).2.2 | (with_reducible refine Kd.C_alloc ?_ _) | (with_reducible refine Kd.C_drewN ?_ _) | (with_reducible refine Kd.C_drew ?_))); (case side5 => exact (Kd.R_reads' HO_6.out).2.1); rintro e w56 ⟨rfl, hb⟩; refine ⟨_, rfl, ?_⟩; have n0_ := Aside0.mk (Kd.R_below (by (with_reducible repeat (first | apply Kd.R_alloc | apply Kd.R_drewN | apply Kd.R_drew)); exact HO_5.out) hb); have n1_ := Aside0.mk (Kd.R_below (by (with_reducible repeat (first | apply Kd.R_alloc | apply Kd.R_drewN | apply Kd.R_drew)); exact HO_6.out) hb); have n2_ := Aside0.mk (below_step (by repeat (first | (with_reducible first | exact HB.out | apply below_alloc | apply pw_below_drewN | apply below_drew1) | exact HB.out)) hb); clear HO_5; clear HO_6; clear HB; have HO_5 := n0_; have HO_6 := n1_; have HB := n2_; clear n0_ n1_ n2_; (try clear hb); (try clear hb2); (try clear hk); (try clear hi)))
          go_ret3
          exact ⟨_, by first | rfl | (simp [errW_none, errW_some] <;> rfl) | (simp [*, errW_none, errW_some] <;> rfl), by (with_reducible repeat (first | apply Kd.R_alloc | apply Kd.R_drewN | apply Kd.R_drew)); exact HO_5.out, by repeat (first | (with_reducible first | exact HB.out | apply below_alloc | apply pw_below_drewN | apply below_drew1) | exact HB.out)⟩
end Go.Proofs.YtflddgoapibleaaDoor.Esc

namespace Go.Proofs.YtflddgoapibleaaDoor.Hand
open Go.RowKit Go.Maps Go.Proofs.YtflddgoapibleaaDoor.Esc Go.Proofs.YtflddgoapibleaaDoorW.PrintWords Go.Proofs.YtflddgoapibleaaDoorW.PrintLast Go.Proofs.YtflddgoapibleaaDoorW.PrintMore
set_option maxHeartbeats 2000000 in
set_option maxRecDepth 100000 in
theorem shift64_calls (w : World) (hs : w.cell? ⟨6, 15, none⟩ = some (.int .u8 4)) : Calls Tryd.prog 78 #[.int .u64 16] w fun e w' => e = .returned (.int .i64 4) ∧ w' = w := by
  have e1 : IntKind.u64.wrap (bits BinOp.and IntKind.u64 16 (IntKind.u64.wrap (-16)) * 285870213051353865) = 4573923408821661840 := by decide +kernel
  go_enter Tryd.func78, Tryd.ntmps78
  go_wp2
  go_ret
  exact ⟨rfl, rfl⟩
set_option maxHeartbeats 2000000 in
set_option maxRecDepth 100000 in
theorem shift_calls (w : World) (hs : w.cell? ⟨6, 15, none⟩ = some (.int .u8 4)) : Calls Tryd.prog 76 #[.int .u64 16] w fun e w' => e = .returned (.int .i64 4) ∧ w' = w := by
  go_enter Tryd.func76, Tryd.ntmps76
  go_wp2_with (fail)
  refine (shift64_calls _ hs).mono ?_
  rintro e w' ⟨rfl, rfl⟩
  go_wp2
  go_ret
  exact ⟨rfl, rfl⟩
set_option maxHeartbeats 2000000 in
set_option maxRecDepth 100000 in
theorem pow_calls (w : World) : Calls Tryd.prog 75 #[.int .i64 16] w fun e w' => e = .returned (.bool true) ∧ w' = w := by
  go_enter Tryd.func75, Tryd.ntmps75
  go_wp2
  go_ret
  exact ⟨rfl, rfl⟩
theorem and15 (x : Int) (h0 : 0 ≤ x) (h1 : x ≤ 1114111) : bits BinOp.and IntKind.u64 x 15 = x % 16 :=
  bits_mask .u64 32 (by decide) (fun n h0 h1 => by simp [IntKind.wrap, IntKind.bits, IntKind.signed]; omega) 4 (by decide) x h0 (by omega)
theorem below_set {w W : World} (h : Below w.heap.size w W) (i : Nat) (v : Value) : Below w.heap.size w (W.setCell ⟨w.heap.size, i, none⟩ v) :=
  h.trans ⟨rfl, rfl, rfl, by rw [Deep.nblk_setCell]; exact Nat.le_refl _, fun k hk => Deep.blk_setCell_other W _ v k (by simp; omega)⟩
theorem add_off (b o j : Nat) : (⟨b, o, none⟩ : Addr).add j = ⟨b, o + j, none⟩ := by
  unfold Addr.add
  split
  · rename_i h; subst h; rfl
  · rfl
theorem hexN_small (m : Nat) (x : Int) (h : x < 16) : hexN (m + 1) x = [hexDigit x] := by rw [hexN, if_pos h]
theorem slice_tail (W : World) (B gk : Nat) (hk1 : 1 ≤ gk) (hk8 : gk ≤ 8) : (Instr.sliceAt 94 (.pointer (some ⟨B, 0, none⟩)) (some (.int .i64 (57 + (gk : Int) - 1))) none none).run Tryd.prog W = .ok (.slice (some ⟨B, 56 + gk, none⟩) (9 - gk) (9 - gk)) W := by
  have hal : Tryd.prog.arrayLen 94 = 65 := by kernel_rfl
  have hel : Tryd.prog.elem 94 = 5 := by kernel_rfl
  rw [run_sliceAt_array_l W 94 ⟨B, 0, none⟩ (by rw [hal, hel]; exact Tryd.underlying94) .i64 (57 + (gk : Int) - 1) (by omega) (by rw [hal]; omega), hal, hel]
  have h2 : (57 + (gk : Int) - 1).toNat = 56 + gk := by omega
  simp only [h2]
  have hs : ∀ W, (sizeOf 5).run Tryd.prog W = .ok 1 W := fun W => by kernel_rfl
  rw [hs]
  show Result.ok _ _ = _
  unfold slicedAt
  rw [if_neg (show ¬ 65 = 56 + gk by omega), add_off]
  have e1 : 0 + (56 + gk) * 1 = 56 + gk := by omega
  have e2 : 65 - (56 + gk) = 9 - gk := by omega
  rw [e1, e2]
theorem tail_reads (wr : World) (B gk : Nat) (f : Nat → Value) (x : Int) (D : List Int) (hk1 : 1 ≤ gk) (h : wr.rowIs B 94 65 f) (hD : D.length + gk = 8 ∧ (∀ j, j < D.length → f (57 + gk + j) = .int .u8 (D.getD j 0))) :
    Kd.C (Kd.int .u8) (wr.setCell ⟨B, 56 + gk, none⟩ (.int .u8 (hexDigit x))) (some ⟨B, 56 + gk, none⟩) (9 - gk) (hexDigit x :: D) := by
  refine Kd.C_of_reads (enc := Value.int .u8) (d := (0 : Int)) (h1 := fun _ => rfl) ⟨by simp only [List.length_cons]; omega, by omega, fun _ => ⟨_, rfl, fun j hj => ?_⟩⟩
  rw [add_off, (h.set (56 + gk) (.int .u8 (hexDigit x))).cell (i := 56 + gk + j) (by omega)]
  cases j with
  | zero => rw [if_pos (by omega)]; rfl
  | succ j => rw [if_neg (by omega), show 56 + gk + (j + 1) = 57 + gk + j by omega, hD.2 j (by omega)]; rfl
theorem zeros_row (w : World) : (w.alloc (.cells Tryd.zeroCells94 94)).rowIs w.heap.size 94 65 (fun _ => .int .u8 0) := by
  have hz : Tryd.zeroCells94.size = 65 := by decide
  have := World.rowIs_alloc w Tryd.zeroCells94 94 (fun _ => .int .u8 0) (by
    have hr : Tryd.zeroCells94 = Array.replicate 65 (.int .u8 0) := rfl
    intro i hi
    rw [hz] at hi
    rw [hr, Array.getElem?_replicate, if_pos hi])
  rwa [hz] at this
theorem dig16_all : ∀ n : Fin 16, (((⟨#[48, 49, 50, 51, 52, 53, 54, 55, 56, 57, 97, 98, 99, 100, 101, 102, 103, 104, 105, 106, 107, 108, 109, 110, 111, 112, 113, 114, 115, 116, 117, 118, 119, 120, 121, 122]⟩ : ByteArray)[n.1]'(Nat.lt_of_lt_of_le n.2 (by decide))).toNat : Int) = hexDigit (n.1 : Int) := by decide +kernel
theorem dig16 (n : Int) (h0 : 0 ≤ n) (h1 : n < 16) (h : n.toNat < (⟨#[48, 49, 50, 51, 52, 53, 54, 55, 56, 57, 97, 98, 99, 100, 101, 102, 103, 104, 105, 106, 107, 108, 109, 110, 111, 112, 113, 114, 115, 116, 117, 118, 119, 120, 121, 122]⟩ : ByteArray).size) :
    (((⟨#[48, 49, 50, 51, 52, 53, 54, 55, 56, 57, 97, 98, 99, 100, 101, 102, 103, 104, 105, 106, 107, 108, 109, 110, 111, 112, 113, 114, 115, 116, 117, 118, 119, 120, 121, 122]⟩ : ByteArray)[n.toNat]'h).toNat : Int) = hexDigit n := by
  have := dig16_all ⟨n.toNat, by omega⟩
  rw [show ((n.toNat : Nat) : Int) = n by omega] at this
  exact this
set_option maxHeartbeats 2000000 in
set_option maxRecDepth 100000 in
theorem bits_calls (P0_ : Nat → Prop) (v0 : Value) (l0 : List Int) (u : Int) (w0 w : World) (hB : Below w0.heap.size w0 w) (ho0 : Kd.R (Kd.int .u8) 5 w w0.heap.size P0_ v0 l0) (hl : l0.length ≤ 100000000000) (hu : 0 ≤ u) (hu1 : u ≤ 1114111) (hs : w.cell? ⟨6, 15, none⟩ = some (.int .u8 4)) :
    Calls Tryd.prog 69 #[v0, .int .u64 u, .int .i64 16, .bool false, .bool true] w fun e w' => ∃ v1 : Value, e = .returned (.tuple #[v1, .string ⟨#[]⟩]) ∧ Kd.R (Kd.int .u8) 5 w' w0.heap.size (fun k_ => (P0_ k_ ∨ w.heap.size ≤ k_)) v1 (l0 ++ hexN 8 u) ∧ Below w0.heap.size w0 w' ∧ Kept w w' P0_ := by
  have hs2 : (w.alloc (Obj.cells Tryd.zeroCells94 94)).cell? ⟨6, 15, none⟩ = some (.int .u8 4) := pw_cell_below (below_alloc (Below.refl _ _) _) hs
  have HB := Aside0.mk hB
  have HO := Aside0.mk ho0
  have HL := Aside0.mk hl
  clear hB ho0 hl
  go_enter Tryd.func69, Tryd.ntmps69
  go_wp2_with (fail)
  refine (pow_calls _).mono ?_
  rintro e w' ⟨rfl, rfl⟩
  go_wp2_with (fail)
  refine (shift_calls _ hs2).mono ?_
  rintro e w' ⟨rfl, rfl⟩
  go_wp2
  go_loopg [1, 13] 8 (fun kq v1 v13 wq => ∃ (x : Int) (D : List Int) (f : Nat → Value), v1 = .int .u64 x ∧ v13 = .int .i64 (57 + (kq : Int)) ∧ wq.rowIs w.heap.size 94 65 f ∧ 0 ≤ x ∧ x ≤ 1114111 ∧ kq ≤ 8 ∧ 1 ≤ kq ∧ Aside0 (D.length + kq = 8 ∧ (∀ j, j < D.length → f (57 + kq + j) = .int .u8 (D.getD j 0))) ∧ Aside0 (x < 16 ^ kq ∧ hexN 8 u = hexN kq x ++ D) ∧ Aside0 (Below w.heap.size w wq))
  case atStart => exact ⟨u, [], fun _ => .int .u8 0, rfl, rfl, zeros_row w, hu, hu1, by decide, by decide, ⟨rfl, fun j hj => by simp at hj⟩, ⟨by omega, by simp⟩, ⟨below_alloc (Below.refl _ _) _⟩⟩
  case round =>
    obtain ⟨x, D, f, rfl, rfl, hrow, x0, x1, hk8, hk1, HD, HX, HB2⟩ := hrel
    have hcell := hrow.cell (i := 56 + gk) (by omega)
    have hfr := hrow.frozen (56 + gk)
    have HROW := Aside0.mk hrow
    clear hrow
    have hand := and15 x x0 x1
    by_cases hx : 16 ≤ x
    · have hdg := dig16 (x % 16) (by omega) (by omega)
      go_wp2
      go_roundg (gk - 1)
      case measure => omega
      case rel =>
        have hgk : 2 ≤ gk := by
          have h16 := HX.out.1
          rcases Nat.lt_or_ge gk 2 with h | h
          · obtain rfl : gk = 1 := by omega
            simp at h16; omega
          · exact h
        refine ⟨x / 16, hexDigit (x % 16) :: D, _, rfl, by congr 1; omega, HROW.out.set (56 + gk) _, by omega, by omega, by omega, by omega, ⟨by have := HD.out.1; simp only [List.length_cons]; omega, fun j hj => ?_⟩, ⟨?_, ?_⟩, ⟨below_set HB2.out _ _⟩⟩
        · cases j with
          | zero => rw [if_pos (by omega)]; rfl
          | succ j =>
            rw [if_neg (by omega)]
            have := HD.out.2 j (by simpa using hj)
            rw [show 57 + (gk - 1) + (j + 1) = 57 + gk + j by omega]
            exact this
        · have h16 := HX.out.1
          obtain ⟨m, rfl⟩ : ∃ m, gk = m + 1 := ⟨gk - 1, by omega⟩
          rw [Int.pow_succ] at h16
          show x / 16 < 16 ^ m
          omega
        · rw [HX.out.2]
          obtain ⟨m, rfl⟩ : ∃ m, gk = m + 1 := ⟨gk - 1, by omega⟩
          show hexN (m + 1) x ++ D = hexN m (x / 16) ++ hexDigit (x % 16) :: D
          rw [hexN, if_neg (by omega)]; simp
    · have hx2 : x < 16 := by omega
      have hdg := dig16 x (by omega) (by omega)
      have hsl : ∀ W, (Instr.sliceAt 94 (.pointer (some ⟨w.heap.size, 0, none⟩)) (some (.int .i64 (57 + (gk : Int) - 1))) none none).run Tryd.prog W = .ok (.slice (some ⟨w.heap.size, 56 + gk, none⟩) (9 - gk) (9 - gk)) W := fun W => slice_tail W w.heap.size gk hk1 hk8
      have HC := Aside0.mk (tail_reads wr w.heap.size gk f x D hk1 HROW.out HD.out)
      have HB3 := Aside0.mk (below_set HB2.out (56 + gk) (.int .u8 (hexDigit x)))
      have HD2 := Aside0.mk (by
        have h := HX.out.2
        obtain ⟨m, rfl⟩ : ∃ m, gk = m + 1 := ⟨gk - 1, by omega⟩
        rw [hexN_small m x hx2] at h; exact h : hexN 8 u = [hexDigit x] ++ D)
      clear HROW
      go_wp2_with (at_builtin; (refine Kd.R_append_rows (Kd.int .u8) (w0 := w0) w0.heap.size rfl (.tmp 95) (.tmp 97) 22 5 (.int .u8 0) 1 rfl Tryd.underlying22 info5 rfl (by decide) (by omega) v0 l0 (hexDigit x :: D) _ _ _ (fun k => P0_ k ∨ w.heap.size ≤ k) (fun _ => False) rfl rfl ?aO HC.out (fun _ _ h => h) (fun _ h => h.elim) ?aF ?aB ?aS ?aL ?_))
      case aO => exact Kd.R_mono (Kd.R_below HO.out HB3.out) (fun k hk => .inl hk)
      case aF => exact fun k hk => .inr (Nat.le_trans (below_size HB2.out) hk)
      case aB => exact below_step HB.out HB3.out
      case aS => exact below_size (below_step HB.out HB2.out)
      case aL => have := HL.out; omega
      intro v1 w1 ho hb hg _
      have HK := Aside0.mk (Kept.of_grown hg (Kept.of_below HB3.out P0_) (fun k hk => .inl (HO.out.1 k hk)))
      have HN := Aside0.mk ho
      have HB4 := Aside0.mk hb
      clear ho hb hg
      go_wp2
      go_ret2
      exact ⟨_, rfl, by rw [HD2.out]; exact HN.out, HB4.out, HK.out⟩
set_option maxHeartbeats 2000000 in
set_option maxRecDepth 100000 in
theorem appendUint_calls (P0_ : Nat → Prop) (v0 : Value) (l0 : List Int) (u : Int) (w0 w : World) (hB : Below w0.heap.size w0 w) (ho0 : Kd.R (Kd.int .u8) 5 w w0.heap.size P0_ v0 l0) (hl : l0.length ≤ 100000000000) (hu : 0 ≤ u) (hu1 : u ≤ 1114111) (hs : w.cell? ⟨6, 15, none⟩ = some (.int .u8 4)) :
    Calls Tryd.prog 58 #[v0, .int .u64 u, .int .i64 16] w fun e w' => ∃ v1 : Value, e = .returned v1 ∧ Kd.R (Kd.int .u8) 5 w' w0.heap.size (fun k_ => (P0_ k_ ∨ w.heap.size ≤ k_)) v1 (l0 ++ hexN 8 u) ∧ Below w0.heap.size w0 w' ∧ Kept w w' P0_ := by
  have HX := Aside0.mk (bits_calls P0_ v0 l0 u w0 w hB ho0 hl hu hu1 hs)
  clear hB ho0 hl hs
  go_enter Tryd.func58, Tryd.ntmps58
  go_wp2_with (fail)
  refine HX.out.mono ?_
  rintro e w' ⟨v1, rfl, hb⟩
  have HY := Aside0.mk hb
  clear hb HX
  go_wp2
  go_ret
  exact ⟨_, rfl, HY.out⟩
set_option maxHeartbeats 2000000 in
set_option maxRecDepth 100000 in
theorem appendInt_calls (P0_ : Nat → Prop) (v0 : Value) (l0 : List Int) (u : Int) (w0 w : World) (hB : Below w0.heap.size w0 w) (ho0 : Kd.R (Kd.int .u8) 5 w w0.heap.size P0_ v0 l0) (hl : l0.length ≤ 100000000000) (hu : 0 ≤ u) (hu1 : u ≤ 1114111) (hs : w.cell? ⟨6, 15, none⟩ = some (.int .u8 4)) :
    Calls Tryd.prog 43 #[v0, .int .i64 u, .int .i64 16] w fun e w' => ∃ v1 : Value, e = .returned v1 ∧ Kd.R (Kd.int .u8) 5 w' w0.heap.size (fun k_ => (P0_ k_ ∨ w.heap.size ≤ k_)) v1 (l0 ++ hexN 8 u) ∧ Below w0.heap.size w0 w' ∧ Kept w w' P0_ := by
  have HX := Aside0.mk (appendUint_calls P0_ v0 l0 u w0 w hB ho0 hl hu hu1 hs)
  clear hB ho0 hl hs
  go_enter Tryd.func43, Tryd.ntmps43
  go_wp2_with (fail)
  refine HX.out.mono ?_
  rintro e w' ⟨v1, rfl, hb⟩
  have HY := Aside0.mk hb
  clear hb HX
  go_wp2
  go_ret
  exact ⟨_, rfl, HY.out⟩
set_option maxHeartbeats 2000000 in
set_option maxRecDepth 100000 in
theorem strconvAppendInt_calls (P0_ : Nat → Prop) (v0 : Value) (l0 : List Int) (u : Int) (w0 w : World) (hB : Below w0.heap.size w0 w) (ho0 : Kd.R (Kd.int .u8) 5 w w0.heap.size P0_ v0 l0) (hl : l0.length ≤ 100000000000) (hu : 0 ≤ u) (hu1 : u ≤ 1114111) (hs : w.cell? ⟨6, 15, none⟩ = some (.int .u8 4)) :
    Calls Tryd.prog 27 #[v0, .int .i64 u, .int .i64 16] w fun e w' => ∃ v1 : Value, e = .returned v1 ∧ Kd.R (Kd.int .u8) 5 w' w0.heap.size (fun k_ => (P0_ k_ ∨ w.heap.size ≤ k_)) v1 (l0 ++ hexN 8 u) ∧ Below w0.heap.size w0 w' ∧ Kept w w' P0_ := by
  have HX := Aside0.mk (appendInt_calls P0_ v0 l0 u w0 w hB ho0 hl hu hu1 hs)
  clear hB ho0 hl hs
  go_enter Tryd.func27, Tryd.ntmps27
  go_wp2_with (fail)
  refine HX.out.mono ?_
  rintro e w' ⟨v1, rfl, hb⟩
  have HY := Aside0.mk hb
  clear hb HX
  go_wp2
  go_ret
  exact ⟨_, rfl, HY.out⟩
end Go.Proofs.YtflddgoapibleaaDoor.Hand

namespace Go.Proofs.YtflddgoapibleaaDoor.Hand
open Go.RowKit Go.Maps Go.Proofs.YtflddgoapibleaaDoor.Esc Go.Proofs.YtflddgoapibleaaDoorW.PrintWords Go.Proofs.YtflddgoapibleaaDoorW.PrintLast Go.Proofs.YtflddgoapibleaaDoorW.PrintMore
structure QW (s : ByteArray) (w : World) (pos : Nat) (v : Value) (D : List Int) (wx : World) : Prop where
  hit : wx.heap[w.heap.size]? = some (.stringIter s pos)
  row : Kd.R (Kd.int .u8) 5 wx w.heap.size (fun k => k ≠ w.heap.size) v D
  bel : Below w.heap.size w wx
theorem QW.lt {s : ByteArray} {w wx : World} {pos : Nat} {v : Value} {D : List Int} (h : QW s w pos v D wx) : w.heap.size < wx.heap.size := (Array.getElem?_eq_some_iff.1 h.hit).1
theorem QW.start (s : ByteArray) (w : World) : QW s w 0 (.slice none 0 0) [] (w.iter s 0) := ⟨World.iter_heap w s 0, Kd.R_nil _ _ _ _ _, (Below.refl _ w).alloc (Nat.le_refl _) _⟩
theorem QW.next {s : ByteArray} {w wx : World} {pos : Nat} {v : Value} {D : List Int} (h : QW s w pos v D wx) (p : Nat) : QW s w p v D (wx.iterAt w.heap.size s p) :=
  ⟨Lib.iterAt_heap wx w.heap.size s pos p h.hit, Kd.R_step h.row (fun k hk _ => Lib.iterAt_other wx w.heap.size k s p hk), Lib.below_iterAt h.bel (Nat.le_refl _) s p⟩
theorem QW.appended {s : ByteArray} {w W W' w1 : World} {pos : Nat} {v v1 : Value} {D D1 : List Int} (h : QW s w pos v D W) (hb : Below W.heap.size W W') (ho : Kd.R (Kd.int .u8) 5 w1 w.heap.size (fun k => k ≠ w.heap.size) v1 D1) (hb1 : Below w.heap.size w w1) (hg : W'.grownBy w1 v.ownBlock) : QW s w pos v1 D1 w1 :=
  ⟨(hg.block _ (Nat.lt_of_lt_of_le h.lt hb.size) (fun e => h.row.1 _ e.symm rfl)).trans ((hb.block _ h.lt).trans h.hit), ho, hb1⟩
theorem QW.called {s : ByteArray} {w W w1 : World} {pos : Nat} {v v1 : Value} {D D1 : List Int} (h : QW s w pos v D W) (ho : Kd.R (Kd.int .u8) 5 w1 w.heap.size (fun k => (k ≠ w.heap.size ∨ W.heap.size ≤ k)) v1 D1) (hb1 : Below w.heap.size w w1) (hk : Kept W w1 (fun k => k ≠ w.heap.size)) : QW s w pos v1 D1 w1 :=
  ⟨(hk.2 _ h.lt (fun hn => hn rfl)).trans h.hit, Kd.R_mono ho (fun k hk => hk.elim id (fun hk => by have := h.lt; omega)), hb1⟩
theorem QW.drawn {s : ByteArray} {w W W' : World} {pos : Nat} {v : Value} {D : List Int} (h : QW s w pos v D W) (hd : Drawn0 W W') : QW s w pos v D W' := by
  obtain ⟨n, rfl⟩ := hd
  exact ⟨h.hit, Kd.R_drewN h.row n, pw_below_drewN h.bel n⟩
theorem QW.strung {s : ByteArray} {w W w1 : World} {pos : Nat} {v v1 : Value} {D D1 : List Int} (h : QW s w pos v D W) (ho : w1.ownsRow w.heap.size 5 1 v1 D1.length (nums .u8 D1)) (hb1 : Below w.heap.size w w1) (hg : W.grownBy w1 v.ownBlock) : QW s w pos v1 D1 w1 := by
  have hit : w1.heap[w.heap.size]? = some (.stringIter s pos) := (hg.block _ h.lt (fun e => h.row.1 _ e.symm rfl)).trans h.hit
  refine ⟨hit, Kd.R_of_own (h1 := fun _ => rfl) ho (fun k hk => ?_), hb1⟩
  rintro rfl
  obtain ⟨cells, hc⟩ := own_typed ho _ hk
  rw [hit] at hc; cases hc
theorem lit_C (W : World) (xs : List Int) (hl : xs.length ≤ 9223372036854775807) : Kd.C (Kd.int .u8) (W.alloc (.cells (nums .u8 xs).toArray 5)) (some ⟨W.heap.size, 0, none⟩) xs.length xs :=
  (Kd.R_reads' (ok := fun _ => True) (Kd.R_of_own (h1 := fun _ => rfl) (own_lit W 0 5 .u8 xs (Nat.zero_le _) hl) (fun _ _ => trivial))).2.2
theorem bt_str (l : List Int) (hb : Bytes l) (i : Nat) (h : i < l.length) : bt (strOfNums l) i = (l.drop i).getD 0 (-1) := by
  have h2 : (i : Int).toNat < (strOfNums l).size := by rw [strOfNums_size]; omega
  rw [get_drop l i 0 (by omega)]
  have := get_str l hb i h
  rw [show l[i + 0] = l[i] from rfl, ← this]
  have := get_at (strOfNums l) i (by rw [strOfNums_size]; exact h)
  unfold bt
  rw [dif_pos h2]
  rw [show (strOfNums l).get! i = (strOfNums l).get! (i + 0) from rfl, this]
  rfl
theorem quo_eq {D Z E : List Int} {p q : List Int} (h : D ++ quo p = Z) (h2 : quo p = pc p ++ quo q) (h3 : E = pc p) : (D ++ E) ++ quo q = Z := by
  rw [h3, List.append_assoc, ← h2]; exact h
theorem short_pc {x c : Int} {l : List Int} (h0 : (DataW.map shortL).atKey (.int .u8 x) (DataW.lit (.int .u8 0) : DataW Unit) = .lit (.int .u8 c)) (hin : Maps.has (DataW.map shortL) (.int .u8 x) = true) (hx : x = l.getD 0 (-1)) : [92, c] = pc l := by
  rw [short_has_iff] at hin
  simp only [Bool.or_eq_true, decide_eq_true_eq] at hin
  unfold DataW.atKey shortL at h0
  unfold pc
  rw [← hx]
  rcases hin with ((rfl | rfl) | rfl) | rfl <;> simp [List.find?, Lit.sameKey] at h0 <;> simp [h0]
theorem quo_cons (l : List Int) (h : 0 < l.length) : quo l = pc l ++ quo (l.drop (dec l).2) := steps_cons pc l h
set_option maxHeartbeats 4000000 in
set_option maxRecDepth 100000 in
theorem quote_walk (A0 : Option Addr) (c0 : Nat) (l0 : List Int) (w : World) (hG : Globs w) (hr0 : Kd.C (Kd.int .u8) w A0 l0.length l0) (hb : Bytes l0) (hl : l0.length ≤ 1073741824) :
    Calls Tryd.prog 13 #[.slice A0 l0.length c0] w fun e w' => e = .returned (.string (strOfNums (quo l0))) ∧ Below w.heap.size w w' := by
  have hcv := Kd.C_string (P := Tryd.prog) (A := A0) (c := c0) Tryd.underlying22 Tryd.underlying5 Tryd.underlying9 hr0
  have HG := Aside0.mk hG
  have HSZ := Aside0.mk (strOfNums_size l0)
  have HBY := Aside0.mk hb
  have hsz : (strOfNums l0).size ≤ 1073741824 := by rw [strOfNums_size]; exact hl
  clear hb hl hr0 hG
  obtain ⟨s, hs⟩ : ∃ s, strOfNums l0 = s := ⟨_, rfl⟩
  have HSS := Aside0.mk hs
  rw [hs] at hcv HSZ hsz
  clear hs
  go_enter Tryd.func13, Tryd.ntmps13
  go_wp2
  go_loopg [3] s.size (fun gf v3 wx => ∃ (pos : Nat) (D : List Int), Aside0 (QW s w pos v3 D wx) ∧ Aside0 (D ++ quo (l0.drop pos) = quo l0) ∧ Aside0 (s.size ≤ pos + gf ∧ D.length ≤ 12 * pos ∧ pos ≤ s.size))
  case atStart => exact ⟨0, [], ⟨QW.start s w⟩, ⟨rfl⟩, ⟨by omega, by simp, by omega⟩⟩
  case round =>
    obtain ⟨pos, D, HQ, HE, HF⟩ := hrel
    obtain ⟨A3, c3, rfl⟩ := Kd.R_slice HQ.out.row
    by_cases hp : pos < s.size
    · have hnx : ∀ ty, (Instr.next (.pointer (some ⟨w.heap.size, 0, none⟩)) true ty).run Tryd.prog wr = _ := fun ty => Lib.run_next_any_at wr w.heap.size s pos ty HQ.out.hit hp
      have hd := decode_dec l0 HBY.out pos (by have := HSZ.out; omega)
      rw [HSS.out] at hd
      have hne : 0 < (l0.drop pos).length := by rw [List.length_drop]; have := HSZ.out; omega
      have hc := quo_cons (l0.drop pos) hne
      have hpos := dec_pos (l0.drop pos)
      have hle := dec_le (l0.drop pos) hne
      rw [List.length_drop] at hle
      rw [List.drop_drop, ← hd.2] at hc
      rw [← hd.2] at hpos hle
      obtain ⟨K, hK⟩ : ∃ K, (Utf8.decode s pos).2 = K := ⟨_, rfl⟩
      rw [hK] at hnx hc hpos hd hle
      obtain ⟨R, hR⟩ : ∃ R : Int, ((Utf8.decode s pos).1 : Int) = R := ⟨_, rfl⟩
      rw [hR] at hnx hd
      have HQ2 := Aside0.mk (HQ.out.next (pos + K))
      obtain ⟨W, hW⟩ : ∃ W, wr.iterAt w.heap.size s (pos + K) = W := ⟨_, rfl⟩
      rw [hW] at hnx HQ2
      have HD := Aside0.mk hd
      have HC := Aside0.mk (And.intro hc (And.intro hpos hle))
      have R0 : 0 ≤ R := by rw [← hR]; omega
      have R1 : R ≤ 1114111 := by rw [← hR]; have := Lib.rune_le s pos; omega
      clear hd hc hpos hK hR hW HQ hle
      obtain ⟨bm, hcm, hown⟩ := (HG.out.below HQ2.out.bel).short
      have HOWN := Aside0.mk hown
      clear hown
      have hx : ∀ h : pos < s.size, ((s[pos]'h).toNat : Int) = bt s pos := bt_at s pos
      have ha := bt_range s pos
      have hwf := two_wf (bt s pos) ha.1 ha.2
      have hbt := bt_str l0 HBY.out pos (by have := HSZ.out; omega)
      rw [HSS.out] at hbt
      have HBT := Aside0.mk hbt
      have HLEN := Aside0.mk (show D.length ≤ 12884901888 by have := HF.out; omega)
      clear hbt
      by_cases hin : Maps.has (DataW.map shortL) (.int .u8 (bt s pos)) = true
      · go_wp2_with (first
          | (at_lookup; refine wpList_lookup_own_ok_int _ rfl _ _ 39 rfl 5 5 .u8 law5 Tryd.underlying39 Tryd.underlying5 (zero5 _) bm 4 _ rfl HOWN.out _ _ rfl (keyOf_int_mk Tryd.underlying5 hwf) ?_; intro c hatc hwc; rw [hin])
          | (at_builtin; (refine Kd.R_append_rows (Kd.int .u8) (w0 := w) w.heap.size rfl (.tmp 38) (.tmp 40) 22 5 (.int .u8 0) 1 rfl Tryd.underlying22 info5 rfl (by decide) (by omega) (.slice A3 D.length c3) D [92, c] _ _ _ (fun k => k ≠ w.heap.size) (fun _ => False) rfl rfl ?aO (lit_C W [92, c] (by simp)) (fun _ _ h => h) (fun _ h => h.elim) ?aF ?aB ?aS ?aL ?_)))
        case aO => exact Kd.R_alloc HQ2.out.row _
        case aF => exact fun k hk => by have := HQ2.out.lt; simp at hk; omega
        case aB => exact below_alloc HQ2.out.bel _
        case aS => have := HQ2.out.lt; simp; omega
        case aL => have := HLEN.out; simp; omega
        intro v1 w1 ho hb1 hg _
        have HQ3 := Aside0.mk (HQ2.out.appended (below_alloc (Below.refl _ _) _) ho hb1 hg)
        have HSH := Aside0.mk (short_pc hatc hin HBT.out)
        clear ho hb1 hg hatc
        go_wp2
        go_roundg (gk - 1)
        case measure => have := HF.out; omega
        case rel => exact ⟨pos + K, D ++ [92, c], HQ3, ⟨quo_eq HE.out HC.out.1 HSH.out⟩, ⟨by have := HF.out; have := HC.out; have := HSZ.out; simp; omega⟩⟩
      · have hin2 := Bool.eq_false_iff.2 hin
        have HNO := Aside0.mk (show ¬ (bt s pos = 9 ∨ bt s pos = 10 ∨ bt s pos = 13 ∨ bt s pos = 92) by
          rw [short_has_iff] at hin2; simp only [Bool.or_eq_false_iff, decide_eq_false_iff_not] at hin2; omega)
        clear hin
        by_cases c5 : 32 ≤ bt s pos
        · have c5b : decide (32 ≤ bt s pos) = true := decide_eq_true c5
          by_cases c6 : bt s pos < 127
          · have c6b : decide (bt s pos < 127) = true := decide_eq_true c6
            go_wp2_with (first
              | (at_lookup; refine wpList_lookup_own_ok_int _ rfl _ _ 39 rfl 5 5 .u8 law5 Tryd.underlying39 Tryd.underlying5 (zero5 _) bm 4 _ rfl HOWN.out _ _ rfl (keyOf_int_mk Tryd.underlying5 hwf) ?_; intro c hatc hwc; rw [hin2]; clear hatc hwc)
              | (at_builtin; refine Kd.R_append_rows (Kd.int .u8) (w0 := w) w.heap.size rfl (.tmp 49) (.tmp 51) 22 5 (.int .u8 0) 1 rfl Tryd.underlying22 info5 rfl (by decide) (by omega) (.slice A3 D.length c3) D [bt s pos] _ _ _ (fun k => k ≠ w.heap.size) (fun _ => False) rfl rfl ?aO (lit_C W [bt s pos] (by simp)) (fun _ _ h => h) (fun _ h => h.elim) ?aF ?aB ?aS ?aL ?_))
            case aO => exact Kd.R_alloc HQ2.out.row _
            case aF => exact fun k hk => by have := HQ2.out.lt; simp at hk; omega
            case aB => exact below_alloc HQ2.out.bel _
            case aS => have := HQ2.out.lt; simp; omega
            case aL => have := HLEN.out; simp; omega
            intro v1 w1 ho hb1 hg _
            have HQ3 := Aside0.mk (HQ2.out.appended (below_alloc (Below.refl _ _) _) ho hb1 hg)
            have HSH := Aside0.mk (pc_plain _ _ HBT.out c5 c6 HNO.out)
            clear ho hb1 hg
            go_wp2
            go_roundg (gk - 1)
            case measure => have := HF.out; have := HC.out; omega
            case rel => exact ⟨pos + K, D ++ [bt s pos], HQ3, ⟨quo_eq HE.out HC.out.1 HSH.out⟩, ⟨by have := HF.out; have := HC.out; have := HSZ.out; simp; omega⟩⟩
          · have c6b : decide (bt s pos < 127) = false := decide_eq_false c6
            by_cases c7 : bt s pos < 128
            · have c7b : decide (bt s pos < 128) = true := decide_eq_true c7
              have CNP : ¬ (32 ≤ bt s pos ∧ bt s pos < 127) := fun h => c6 h.2
              have CBAD := dec_low (l0.drop pos) (by rw [← HBT.out]; exact c7)
              have HTW := Aside0.mk (two_f D (bt s pos) ha.1 ha.2 (by have := HLEN.out; omega))
              go_wp2_with (first
                | (at_lookup; refine wpList_lookup_own_ok_int _ rfl _ _ 39 rfl 5 5 .u8 law5 Tryd.underlying39 Tryd.underlying5 (zero5 _) bm 4 _ rfl HOWN.out _ _ rfl (keyOf_int_mk Tryd.underlying5 hwf) ?_; intro c hatc hwc; rw [hin2]; clear hatc hwc)
                | (go_at_call 26; refine (escape_two.calls (fun k => k ≠ w.heap.size) (.slice A3 D.length c3) D (bt s pos) _ w _ HQ2.out.bel HQ2.out.row HTW.out).mono ?_; rintro e w1 ⟨v1, rfl, ho, hb1, hk⟩))
              have HQ3 := Aside0.mk (HQ2.out.called ho hb1 hk)
              have HSH := Aside0.mk (pc_hex _ _ HBT.out CNP HNO.out CBAD)
              clear ho hb1 hk
              go_wp2
              go_roundg (gk - 1)
              case measure => have := HF.out; have := HC.out; omega
              case rel => exact ⟨pos + K, D ++ [92, 120, hexDigit (bt s pos / 16), hexDigit (bt s pos % 16)], HQ3, ⟨quo_eq HE.out HC.out.1 HSH.out⟩, ⟨by have := HF.out; have := HC.out; have := HSZ.out; simp; omega⟩⟩
            · have c7b : decide (bt s pos < 128) = false := decide_eq_false c7
              have c128 : 128 ≤ bt s pos := by omega
              have CNP : ¬ (32 ≤ bt s pos ∧ bt s pos < 127) := fun h => c6 h.2
              by_cases c8 : R = 65533
              · subst c8
                have hpf := prefix_f l0 HBY.out pos (by have := HSZ.out; omega) (by have := HSZ.out; omega)
                rw [HSS.out] at hpf
                have hbad := dec_fffd (l0.drop pos) (by rw [← HBT.out]; exact c128) HD.out.1.symm
                by_cases c9 : (l0.drop pos).take 3 = [239, 191, 189]
                · rw [decide_eq_true c9] at hpf
                  have HPF := Aside0.mk hpf
                  have CGOOD : ¬ (dec (l0.drop pos)).2 = 1 := fun h => hbad.1 h c9
                  clear hpf hbad c9
                  go_wp2_with (first
                    | (at_lookup; refine wpList_lookup_own_ok_int _ rfl _ _ 39 rfl 5 5 .u8 law5 Tryd.underlying39 Tryd.underlying5 (zero5 _) bm 4 _ rfl HOWN.out _ _ rfl (keyOf_int_mk Tryd.underlying5 hwf) ?_; intro c hatc hwc; rw [hin2]; clear hatc hwc)
                    | (go_at_call 25; refine (strings_HasPrefix.calls _ _ _ _ HPF.out).mono ?_; rintro e w2 ⟨rfl, hdr⟩; replace HQ2 := Aside0.mk (HQ2.out.drawn hdr); clear hdr)
                    | (at_builtin; refine print_append_str (w0 := w) w.heap.size rfl (.tmp 27) (.const (.string ⟨#[92, 117, 123]⟩)) 22 9 5 rfl Tryd.underlying22 Tryd.underlying9 info5 (.slice A3 D.length c3) D ⟨#[92, 117, 123]⟩ rfl rfl ?sO ?sB ?sS ?sL ?_))
                  case sO => exact Kd.own_of_R HQ2.out.row
                  case sB => exact HQ2.out.bel
                  case sS => exact HQ2.out.bel.size
                  case sL => have := HLEN.out; simp [ByteArray.size]; omega
                  intro v1 w1 ho hb1 hg
                  have HQ3 := Aside0.mk (HQ2.out.strung (D1 := D ++ [92, 117, 123]) (by rw [List.length_append]; exact ho) hb1 hg)
                  clear ho hb1 hg
                  have HG4 := Aside0.mk (HG.out.below HQ3.out.bel).shift
                  have HAI := Aside0.mk (strconvAppendInt_calls (fun k => k ≠ w.heap.size) v1 (D ++ [92, 117, 123]) 65533 w _ HQ3.out.bel HQ3.out.row (by have := HLEN.out; simp; omega) R0 R1 HG4.out)
                  go_wp2_with (fail)
                  refine HAI.out.mono ?_
                  rintro e w2 ⟨v2, rfl, ho, hb2, hk⟩
                  have HQ4 := Aside0.mk (HQ3.out.called ho hb2 hk)
                  clear ho hb2 hk
                  obtain ⟨D4, hD4⟩ : ∃ D4, D ++ [92, 117, 123] ++ hexN 8 65533 = D4 := ⟨_, rfl⟩
                  rw [hD4] at HQ4
                  have HL4 := Aside0.mk (show D4.length ≤ D.length + 11 by have := hexN_len 8 65533; rw [← hD4]; simp; omega)
                  have HD4 := Aside0.mk hD4
                  clear hD4
                  obtain ⟨A4, c4, rfl⟩ := Kd.R_slice HQ4.out.row
                  go_wp2_with (at_builtin; (refine Kd.R_append_rows (Kd.int .u8) (w0 := w) w.heap.size rfl (.tmp 33) (.tmp 34) 22 5 (.int .u8 0) 1 rfl Tryd.underlying22 info5 rfl (by decide) (by omega) (.slice A4 D4.length c4) D4 [125] _ _ _ (fun k => k ≠ w.heap.size) (fun _ => False) rfl rfl ?aO (lit_C w2 [125] (by simp)) (fun _ _ h => h) (fun _ h => h.elim) ?aF ?aB ?aS ?aL ?_))
                  case aO => exact Kd.R_alloc HQ4.out.row _
                  case aF => exact fun k hk => by have := HQ4.out.lt; simp at hk; omega
                  case aB => exact below_alloc HQ4.out.bel _
                  case aS => have := HQ4.out.lt; simp; omega
                  case aL => have := HLEN.out; have := HL4.out; simp; omega
                  intro v5 w5 ho hb1 hg _
                  have HQ5 := Aside0.mk (HQ4.out.appended (below_alloc (Below.refl _ _) _) ho hb1 hg)
                  have HSH := Aside0.mk (pc_rune _ _ _ HBT.out c128 CGOOD HD.out.1)
                  clear ho hb1 hg
                  go_wp2
                  go_roundg (gk - 1)
                  case measure => have := HF.out; have := HC.out; omega
                  case rel => exact ⟨pos + K, D4 ++ [125], HQ5, ⟨by have h := quo_eq HE.out HC.out.1 HSH.out; rw [← HD4.out]; simpa [List.append_assoc] using h⟩, ⟨by have := HF.out; have := HC.out; have := HSZ.out; have := HL4.out; simp; omega⟩⟩
                · rw [decide_eq_false c9] at hpf
                  have HPF := Aside0.mk hpf
                  have CBAD := hbad.2 c9
                  clear hpf hbad c9
                  have HTW := Aside0.mk (two_f D (bt s pos) ha.1 ha.2 (by have := HLEN.out; omega))
                  go_wp2_with (first
                    | (at_lookup; refine wpList_lookup_own_ok_int _ rfl _ _ 39 rfl 5 5 .u8 law5 Tryd.underlying39 Tryd.underlying5 (zero5 _) bm 4 _ rfl HOWN.out _ _ rfl (keyOf_int_mk Tryd.underlying5 hwf) ?_; intro c hatc hwc; rw [hin2]; clear hatc hwc)
                    | (go_at_call 25; refine (strings_HasPrefix.calls _ _ _ _ HPF.out).mono ?_; rintro e w2 ⟨rfl, hdr⟩; replace HQ2 := Aside0.mk (HQ2.out.drawn hdr); clear hdr)
                    | (go_at_call 26; refine (escape_two.calls (fun k => k ≠ w.heap.size) (.slice A3 D.length c3) D (bt s pos) _ w _ HQ2.out.bel HQ2.out.row HTW.out).mono ?_; rintro e w1 ⟨v1, rfl, ho, hb1, hk⟩))
                  have HQ3 := Aside0.mk (HQ2.out.called ho hb1 hk)
                  have HSH := Aside0.mk (pc_hex _ _ HBT.out CNP HNO.out CBAD)
                  clear ho hb1 hk
                  go_wp2
                  go_roundg (gk - 1)
                  case measure => have := HF.out; have := HC.out; omega
                  case rel => exact ⟨pos + K, D ++ [92, 120, hexDigit (bt s pos / 16), hexDigit (bt s pos % 16)], HQ3, ⟨quo_eq HE.out HC.out.1 HSH.out⟩, ⟨by have := HF.out; have := HC.out; have := HSZ.out; simp; omega⟩⟩
              · have c8b : (R == 65533) = false := beq_eq_false_iff_ne.2 c8
                have CGOOD : ¬ (dec (l0.drop pos)).2 = 1 := fun h => c8 (by rw [HD.out.1]; exact dec_shape _ (by rw [← HBT.out]; exact c128) h)
                go_wp2_with (first
                  | (at_lookup; refine wpList_lookup_own_ok_int _ rfl _ _ 39 rfl 5 5 .u8 law5 Tryd.underlying39 Tryd.underlying5 (zero5 _) bm 4 _ rfl HOWN.out _ _ rfl (keyOf_int_mk Tryd.underlying5 hwf) ?_; intro c hatc hwc; rw [hin2]; clear hatc hwc)
                  | (at_builtin; refine print_append_str (w0 := w) w.heap.size rfl (.tmp 27) (.const (.string ⟨#[92, 117, 123]⟩)) 22 9 5 rfl Tryd.underlying22 Tryd.underlying9 info5 (.slice A3 D.length c3) D ⟨#[92, 117, 123]⟩ rfl rfl ?sO ?sB ?sS ?sL ?_))
                case sO => exact Kd.own_of_R HQ2.out.row
                case sB => exact HQ2.out.bel
                case sS => exact HQ2.out.bel.size
                case sL => have := HLEN.out; simp [ByteArray.size]; omega
                intro v1 w1 ho hb1 hg
                have HQ3 := Aside0.mk (HQ2.out.strung (D1 := D ++ [92, 117, 123]) (by rw [List.length_append]; exact ho) hb1 hg)
                clear ho hb1 hg
                have HG4 := Aside0.mk (HG.out.below HQ3.out.bel).shift
                have HAI := Aside0.mk (strconvAppendInt_calls (fun k => k ≠ w.heap.size) v1 (D ++ [92, 117, 123]) R w _ HQ3.out.bel HQ3.out.row (by have := HLEN.out; simp; omega) R0 R1 HG4.out)
                go_wp2_with (fail)
                refine HAI.out.mono ?_
                rintro e w2 ⟨v2, rfl, ho, hb2, hk⟩
                have HQ4 := Aside0.mk (HQ3.out.called ho hb2 hk)
                clear ho hb2 hk
                obtain ⟨D4, hD4⟩ : ∃ D4, D ++ [92, 117, 123] ++ hexN 8 R = D4 := ⟨_, rfl⟩
                rw [hD4] at HQ4
                have HL4 := Aside0.mk (show D4.length ≤ D.length + 11 by have := hexN_len 8 R; rw [← hD4]; simp; omega)
                have HD4 := Aside0.mk hD4
                clear hD4
                obtain ⟨A4, c4, rfl⟩ := Kd.R_slice HQ4.out.row
                go_wp2_with (at_builtin; refine Kd.R_append_rows (Kd.int .u8) (w0 := w) w.heap.size rfl (.tmp 33) (.tmp 34) 22 5 (.int .u8 0) 1 rfl Tryd.underlying22 info5 rfl (by decide) (by omega) (.slice A4 D4.length c4) D4 [125] _ _ _ (fun k => k ≠ w.heap.size) (fun _ => False) rfl rfl ?aO (lit_C w2 [125] (by simp)) (fun _ _ h => h) (fun _ h => h.elim) ?aF ?aB ?aS ?aL ?_)
                case aO => exact Kd.R_alloc HQ4.out.row _
                case aF => exact fun k hk => by have := HQ4.out.lt; simp at hk; omega
                case aB => exact below_alloc HQ4.out.bel _
                case aS => have := HQ4.out.lt; simp; omega
                case aL => have := HLEN.out; have := HL4.out; simp; omega
                intro v5 w5 ho hb1 hg _
                have HQ5 := Aside0.mk (HQ4.out.appended (below_alloc (Below.refl _ _) _) ho hb1 hg)
                have HSH := Aside0.mk (pc_rune _ _ _ HBT.out c128 CGOOD HD.out.1)
                clear ho hb1 hg
                go_wp2
                go_roundg (gk - 1)
                case measure => have := HF.out; have := HC.out; omega
                case rel => exact ⟨pos + K, D4 ++ [125], HQ5, ⟨by have h := quo_eq HE.out HC.out.1 HSH.out; rw [← HD4.out]; simpa [List.append_assoc] using h⟩, ⟨by have := HF.out; have := HC.out; have := HSZ.out; have := HL4.out; simp; omega⟩⟩
        · have c5b : decide (32 ≤ bt s pos) = false := decide_eq_false c5
          have c7 : bt s pos < 128 := by omega
          have c7b : decide (bt s pos < 128) = true := decide_eq_true c7
          have CNP : ¬ (32 ≤ bt s pos ∧ bt s pos < 127) := fun h => c5 h.1
          have CBAD := dec_low (l0.drop pos) (by rw [← HBT.out]; exact c7)
          have HTW := Aside0.mk (two_f D (bt s pos) ha.1 ha.2 (by have := HLEN.out; omega))
          go_wp2_with (first
            | (at_lookup; refine wpList_lookup_own_ok_int _ rfl _ _ 39 rfl 5 5 .u8 law5 Tryd.underlying39 Tryd.underlying5 (zero5 _) bm 4 _ rfl HOWN.out _ _ rfl (keyOf_int_mk Tryd.underlying5 hwf) ?_; intro c hatc hwc; rw [hin2]; clear hatc hwc)
            | (go_at_call 26; refine (escape_two.calls (fun k => k ≠ w.heap.size) (.slice A3 D.length c3) D (bt s pos) _ w _ HQ2.out.bel HQ2.out.row HTW.out).mono ?_; rintro e w1 ⟨v1, rfl, ho, hb1, hk⟩))
          have HQ3 := Aside0.mk (HQ2.out.called ho hb1 hk)
          have HSH := Aside0.mk (pc_hex _ _ HBT.out CNP HNO.out CBAD)
          clear ho hb1 hk
          go_wp2
          go_roundg (gk - 1)
          case measure => have := HF.out; have := HC.out; omega
          case rel => exact ⟨pos + K, D ++ [92, 120, hexDigit (bt s pos / 16), hexDigit (bt s pos % 16)], HQ3, ⟨quo_eq HE.out HC.out.1 HSH.out⟩, ⟨by have := HF.out; have := HC.out; have := HSZ.out; simp; omega⟩⟩
    · have hnx : ∀ ty, (Instr.next (.pointer (some ⟨w.heap.size, 0, none⟩)) true ty).run Tryd.prog wr = _ := fun ty => Lib.run_next_end_at wr w.heap.size s pos ty HQ.out.hit hp
      have h1 := HE.out
      rw [List.drop_eq_nil_of_le (by have := HSZ.out; omega)] at h1
      have h2 : D = quo l0 := by rw [← h1]; exact (List.append_nil D).symm
      have hcv2 := Kd.C_string (P := Tryd.prog) (A := A3) (c := c3) Tryd.underlying22 Tryd.underlying5 Tryd.underlying9 (Kd.R_reads' HQ.out.row).2.2
      subst h2
      have HB := Aside0.mk HQ.out.bel
      clear h1
      go_wp2
      go_ret
      exact ⟨rfl, HB.out⟩
theorem escape_Quote.calls (A0 : Option Addr) (c0 : Nat) (l0 : List Int) (r : ByteArray) (w : World) (hG : Globs w) (hr0 : Kd.C (Kd.int .u8) w A0 l0.length l0) (hc0 : l0.length ≤ c0) (h : escape_Quote.f l0 = some r) :
    Calls Tryd.prog 13 #[.slice A0 l0.length c0] w fun e w' => e = .returned (.string r) ∧ Below w.heap.size w w' := by
  unfold escape_Quote.f at h
  split at h
  · rename_i hh
    obtain rfl := Option.some.inj h
    exact quote_walk A0 c0 l0 w hG hr0 hh.1 hh.2
  · simp at h
end Go.Proofs.YtflddgoapibleaaDoor.Hand

namespace Go.Proofs.YtflddgoapibleaaDoor.Esc
open Go.RowKit Go.Proofs.YtflddgoapibleaaDoor.Hand Go.Proofs.YtflddgoapibleaaDoorW.PrintWords Go.Proofs.YtflddgoapibleaaDoorW.PrintLast Go.Proofs.YtflddgoapibleaaDoorW.PrintMore
attribute [local go_sem] max2_int min2_int max_two min_two max_three min_three max_four min_four
set_option linter.unusedVariables false
set_option linter.unusedSimpArgs false
def galleylaw23_awake.f (_k : Nat) : Option (Bool) := some true
theorem awake_first : escape_Unquote.f 60 (⟨#[92, 117, 123, 50, 48, 97, 99, 125, 120, 92, 120, 56, 48]⟩ : ByteArray) = some ([226, 130, 172, 120, 128], 0, 0) := by decide +kernel
theorem awake_second : escape_Unquote.f 60 (⟨#[97, 92, 120, 101, 50, 92, 120, 56, 50, 92, 120, 97, 99]⟩ : ByteArray) = some ([], 1, 230) := by decide +kernel
theorem awake_third : escape_Quote.f [97, 92, 10, 226, 130] = some ⟨#[97, 92, 92, 92, 110, 92, 120, 101, 50, 92, 120, 56, 50]⟩ := by decide +kernel
theorem awake_cells (w1 : World) (i : Nat) (v : Value) (h : (#[Value.int .u8 97, Value.int .u8 92, Value.int .u8 10, Value.int .u8 226, Value.int .u8 130] : Array Value)[i]? = some v) :
    (w1.alloc (.cells #[Value.int .u8 97, Value.int .u8 92, Value.int .u8 10, Value.int .u8 226, Value.int .u8 130] 5 (5, 6))).cell? ⟨w1.heap.size, i, none⟩ = some v := by
  simp only [World.cell?, heap_alloc_new]
  exact h
theorem awake_reads (w1 : World) : Kd.C (Kd.int .u8) (w1.alloc (.cells #[Value.int .u8 97, Value.int .u8 92, Value.int .u8 10, Value.int .u8 226, Value.int .u8 130] 5 (5, 6))) (some ⟨w1.heap.size, 0, none⟩) ([97, 92, 10, 226, 130] : List Int).length [97, 92, 10, 226, 130] := by
  refine Kd.C_of_reads (d := (0 : Int)) (h1 := fun _ => rfl) ⟨rfl, by decide, fun _ => ⟨_, rfl, fun j hj => ?_⟩⟩
  rw [add_plain]
  refine awake_cells w1 j _ ?_
  match j, hj with
  | 0, _ => rfl
  | 1, _ => rfl
  | 2, _ => rfl
  | 3, _ => rfl
  | 4, _ => rfl
  | j + 5, hj => exact absurd hj (by simp)
set_option maxHeartbeats 8000000 in
set_option maxRecDepth 100000 in
theorem galleylaw23_awake.calls (k : Nat)  (r : Bool) (w : World) (hG : Globs w) (h : galleylaw23_awake.f k  = some r) :
    Calls Tryd.prog 11 #[] w fun e w' => e = .returned (.bool r) ∧ Below w.heap.size w w' := by
  obtain rfl : true = r := Option.some.inj h
  clear h
  have HG := Aside0.mk hG
  clear hG
  have kc := fun (w : World) (C : Array Value) (n c : Nat) => Lib.run_convert_bytes_const (P := Tryd.prog) w 22 5 C n c Tryd.underlying22 Tryd.underlying5
  go_enter Tryd.func11, Tryd.ntmps11
  go_wp2_with (fail)
  refine (escape_Unquote.calls 60 _ [226, 130, 172, 120, 128] 0 0 _ HG.out awake_first).mono ?_
  rintro e w1 ⟨v1, rfl, ho1, hb1⟩
  have HO1 := Aside0.mk ho1
  have HB1 := Aside0.mk hb1
  clear ho1 hb1
  go_wp2_with (fail)
  refine (escape_Unquote.calls 60 _ [] 1 230 _ (HG.out.below HB1.out) awake_second).mono ?_
  rintro e w2 ⟨v2, rfl, ho2, hb2⟩
  have HB2 := Aside0.mk (below_step HB1.out hb2)
  have HO2 := Aside0.mk (Kd.R_below HO1.out hb2)
  clear hb2 ho2 HO1 HB1
  go_wp2_with (fail)
  refine (escape_Quote.calls _ 5 [97, 92, 10, 226, 130] _ _ (HG.out.below (below_alloc HB2.out _)) (awake_reads w2) (by decide) awake_third).mono ?_
  rintro e w3 ⟨rfl, hb3⟩
  have HB3 := Aside0.mk (below_step (below_alloc HB2.out _) hb3)
  have HO3 := Aside0.mk (Kd.R_below (Kd.R_alloc HO2.out _) hb3)
  clear hb3 HO2 HB2
  obtain ⟨A1, c1, rfl, hc1, hC1⟩ := Kd.R_reads HO3.out
  have hcv := Kd.C_string (P := Tryd.prog) (A := A1) (c := c1) Tryd.underlying22 Tryd.underlying5 Tryd.underlying9 hC1
  clear hC1 HO3
  have hs1 : strOfNums [226, 130, 172, 120, 128] = (⟨#[226, 130, 172, 120, 128]⟩ : ByteArray) := by decide +kernel
  rw [hs1, show ([226, 130, 172, 120, 128] : List Int).length = 5 from rfl] at hcv
  clear hs1
  go_wp2
  go_ret
  exact ⟨rfl, HB3.out⟩
end Go.Proofs.YtflddgoapibleaaDoor.Esc
