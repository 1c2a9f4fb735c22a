/- Contracts and laws, those that ZOwn needs. -/
import Derived.Test.YtflddgoapibleaaDoorVWalk2
import Derived.Test.YtflddgoapibleaaDoorVPlain1
import Derived.Test.YtflddgoapibleaaDoorVWalk1
import Derived.Laws.Externs
import Derived.Lib.UnsafeStr
import Derived.Shelf.Strings.BuilderX
set_option linter.unusedVariables false
set_option linter.unusedSimpArgs false
namespace Go.Proofs.YtflddgoapibleaaDoor.Hand
open Go.RowKit Go.Maps Go.Proofs.YtflddgoapibleaaDoor.Esc Go.Proofs.YtflddgoapibleaaDoorW.PrintWords Go.Proofs.YtflddgoapibleaaDoorW.PrintLast Go.Proofs.YtflddgoapibleaaDoorW.PrintMore
def Appended (P0_ : Nat → Prop) (w0 w : World) (D E : List Int) (e : Ending) (w' : World) : Prop :=
  ∃ v1 : Value, e = .returned v1 ∧ Kd.R (Kd.int .u8) 5 w' w0.heap.size (fun k_ => (P0_ k_ ∨ w.heap.size ≤ k_)) v1 (D ++ E) ∧ Below w0.heap.size w0 w' ∧ Kept w w' P0_
set_option maxHeartbeats 2000000 in
set_option maxRecDepth 100000 in
theorem app_two (P0_ : Nat → Prop) (A : Option Addr) (c : Nat) (D : List Int) (r : Int) (w0 w : World) (hB : Below w0.heap.size w0 w) (ho : Kd.R (Kd.int .u8) 5 w w0.heap.size P0_ (.slice A D.length c) D) (hl : D.length ≤ 100000000000) (h0 : 128 ≤ r) (h1 : r ≤ 2047) :
    Calls Tryd.prog 63 #[.slice A D.length c, .int .i32 r] w fun e w' => Appended P0_ w0 w D [192 + r / 64, 128 + r % 64] e w' := by
  have HB := Aside0.mk hB
  have HO := Aside0.mk ho
  have HL := Aside0.mk hl
  clear hB ho hl
  go_enter Tryd.func63, Tryd.ntmps63
  go_wp2_with (at_builtin; refine Kd.R_append_rows (Kd.int .u8) (w0 := w0) w0.heap.size rfl (.tmp 14) (.tmp 23) 22 5 (.int .u8 0) 1 rfl Tryd.underlying22 info5 rfl (by decide) (by omega) (.slice A D.length c) D [192 + r / 64, 128 + r % 64] _ _ _ (fun k => P0_ k ∨ w.heap.size ≤ k) (fun _ => False) rfl rfl ?aO (lit_C w [192 + r / 64, 128 + r % 64] (by simp)) (fun _ _ h => h) (fun _ h => h.elim) ?aF ?aB ?aS ?aL ?_)
  case aO => exact Kd.R_mono (Kd.R_alloc HO.out _) (fun k hk => .inl hk)
  case aF => exact fun k hk => .inr (by simp at hk; omega)
  case aB => exact below_alloc HB.out _
  case aS => have := HB.out.size; simp; omega
  case aL => have := HL.out; simp; omega
  intro v1 w1 ho hb hg _
  have HK := Aside0.mk (Kept.of_grown hg ((Kept.refl w P0_).alloc _) (fun k hk => .inl (HO.out.1 k hk)))
  have HN := Aside0.mk ho
  have HB4 := Aside0.mk hb
  clear ho hb hg
  go_wp2
  go_ret
  exact ⟨_, rfl, HN.out, HB4.out, HK.out⟩
set_option maxHeartbeats 2000000 in
set_option maxRecDepth 100000 in
theorem app_three (P0_ : Nat → Prop) (A : Option Addr) (c : Nat) (D : List Int) (r : Int) (w0 w : World) (hB : Below w0.heap.size w0 w) (ho : Kd.R (Kd.int .u8) 5 w w0.heap.size P0_ (.slice A D.length c) D) (hl : D.length ≤ 100000000000) (h0 : 2048 ≤ r) (h1 : r ≤ 55295) :
    Calls Tryd.prog 63 #[.slice A D.length c, .int .i32 r] w fun e w' => Appended P0_ w0 w D [224 + r / 4096, 128 + r / 64 % 64, 128 + r % 64] e w' := by
  have HB := Aside0.mk hB
  have HO := Aside0.mk ho
  have HL := Aside0.mk hl
  clear hB ho hl
  go_enter Tryd.func63, Tryd.ntmps63
  go_wp2_with (at_builtin; refine Kd.R_append_rows (Kd.int .u8) (w0 := w0) w0.heap.size rfl (.tmp 34) (.tmp 48) 22 5 (.int .u8 0) 1 rfl Tryd.underlying22 info5 rfl (by decide) (by omega) (.slice A D.length c) D [224 + r / 4096, 128 + r / 64 % 64, 128 + r % 64] _ _ _ (fun k => P0_ k ∨ w.heap.size ≤ k) (fun _ => False) rfl rfl ?aO (lit_C w [224 + r / 4096, 128 + r / 64 % 64, 128 + r % 64] (by simp)) (fun _ _ h => h) (fun _ h => h.elim) ?aF ?aB ?aS ?aL ?_)
  case aO => exact Kd.R_mono (Kd.R_alloc HO.out _) (fun k hk => .inl hk)
  case aF => exact fun k hk => .inr (by simp at hk; omega)
  case aB => exact below_alloc HB.out _
  case aS => have := HB.out.size; simp; omega
  case aL => have := HL.out; simp; omega
  intro v1 w1 ho hb hg _
  have HK := Aside0.mk (Kept.of_grown hg ((Kept.refl w P0_).alloc _) (fun k hk => .inl (HO.out.1 k hk)))
  have HN := Aside0.mk ho
  have HB4 := Aside0.mk hb
  clear ho hb hg
  go_wp2
  go_ret
  exact ⟨_, rfl, HN.out, HB4.out, HK.out⟩
set_option maxHeartbeats 2000000 in
set_option maxRecDepth 100000 in
theorem app_threehi (P0_ : Nat → Prop) (A : Option Addr) (c : Nat) (D : List Int) (r : Int) (w0 w : World) (hB : Below w0.heap.size w0 w) (ho : Kd.R (Kd.int .u8) 5 w w0.heap.size P0_ (.slice A D.length c) D) (hl : D.length ≤ 100000000000) (h0 : 57344 ≤ r) (h1 : r ≤ 65535) :
    Calls Tryd.prog 63 #[.slice A D.length c, .int .i32 r] w fun e w' => Appended P0_ w0 w D [224 + r / 4096, 128 + r / 64 % 64, 128 + r % 64] e w' := by
  have HB := Aside0.mk hB
  have HO := Aside0.mk ho
  have HL := Aside0.mk hl
  clear hB ho hl
  go_enter Tryd.func63, Tryd.ntmps63
  go_wp2_with (at_builtin; refine Kd.R_append_rows (Kd.int .u8) (w0 := w0) w0.heap.size rfl (.tmp 34) (.tmp 48) 22 5 (.int .u8 0) 1 rfl Tryd.underlying22 info5 rfl (by decide) (by omega) (.slice A D.length c) D [224 + r / 4096, 128 + r / 64 % 64, 128 + r % 64] _ _ _ (fun k => P0_ k ∨ w.heap.size ≤ k) (fun _ => False) rfl rfl ?aO (lit_C w [224 + r / 4096, 128 + r / 64 % 64, 128 + r % 64] (by simp)) (fun _ _ h => h) (fun _ h => h.elim) ?aF ?aB ?aS ?aL ?_)
  case aO => exact Kd.R_mono (Kd.R_alloc HO.out _) (fun k hk => .inl hk)
  case aF => exact fun k hk => .inr (by simp at hk; omega)
  case aB => exact below_alloc HB.out _
  case aS => have := HB.out.size; simp; omega
  case aL => have := HL.out; simp; omega
  intro v1 w1 ho hb hg _
  have HK := Aside0.mk (Kept.of_grown hg ((Kept.refl w P0_).alloc _) (fun k hk => .inl (HO.out.1 k hk)))
  have HN := Aside0.mk ho
  have HB4 := Aside0.mk hb
  clear ho hb hg
  go_wp2
  go_ret
  exact ⟨_, rfl, HN.out, HB4.out, HK.out⟩
set_option maxHeartbeats 2000000 in
set_option maxRecDepth 100000 in
theorem app_four (P0_ : Nat → Prop) (A : Option Addr) (c : Nat) (D : List Int) (r : Int) (w0 w : World) (hB : Below w0.heap.size w0 w) (ho : Kd.R (Kd.int .u8) 5 w w0.heap.size P0_ (.slice A D.length c) D) (hl : D.length ≤ 100000000000) (h0 : 65536 ≤ r) (h1 : r ≤ 1114111) :
    Calls Tryd.prog 63 #[.slice A D.length c, .int .i32 r] w fun e w' => Appended P0_ w0 w D [240 + r / 262144, 128 + r / 4096 % 64, 128 + r / 64 % 64, 128 + r % 64] e w' := by
  have HB := Aside0.mk hB
  have HO := Aside0.mk ho
  have HL := Aside0.mk hl
  clear hB ho hl
  go_enter Tryd.func63, Tryd.ntmps63
  go_wp2_with (at_builtin; refine Kd.R_append_rows (Kd.int .u8) (w0 := w0) w0.heap.size rfl (.tmp 57) (.tmp 76) 22 5 (.int .u8 0) 1 rfl Tryd.underlying22 info5 rfl (by decide) (by omega) (.slice A D.length c) D [240 + r / 262144, 128 + r / 4096 % 64, 128 + r / 64 % 64, 128 + r % 64] _ _ _ (fun k => P0_ k ∨ w.heap.size ≤ k) (fun _ => False) rfl rfl ?aO (lit_C w [240 + r / 262144, 128 + r / 4096 % 64, 128 + r / 64 % 64, 128 + r % 64] (by simp)) (fun _ _ h => h) (fun _ h => h.elim) ?aF ?aB ?aS ?aL ?_)
  case aO => exact Kd.R_mono (Kd.R_alloc HO.out _) (fun k hk => .inl hk)
  case aF => exact fun k hk => .inr (by simp at hk; omega)
  case aB => exact below_alloc HB.out _
  case aS => have := HB.out.size; simp; omega
  case aL => have := HL.out; simp; omega
  intro v1 w1 ho hb hg _
  have HK := Aside0.mk (Kept.of_grown hg ((Kept.refl w P0_).alloc _) (fun k hk => .inl (HO.out.1 k hk)))
  have HN := Aside0.mk ho
  have HB4 := Aside0.mk hb
  clear ho hb hg
  go_wp2
  go_ret
  exact ⟨_, rfl, HN.out, HB4.out, HK.out⟩
set_option maxHeartbeats 2000000 in
set_option maxRecDepth 100000 in
theorem app_one (P0_ : Nat → Prop) (A : Option Addr) (c : Nat) (D : List Int) (r : Int) (w0 w : World) (hB : Below w0.heap.size w0 w) (ho : Kd.R (Kd.int .u8) 5 w w0.heap.size P0_ (.slice A D.length c) D) (hl : D.length ≤ 100000000000) (h0 : 0 ≤ r) (h1 : r ≤ 127) :
    Calls Tryd.prog 50 #[.slice A D.length c, .int .i32 r] w fun e w' => Appended P0_ w0 w D [r] e w' := by
  have HB := Aside0.mk hB
  have HO := Aside0.mk ho
  have HL := Aside0.mk hl
  clear hB ho hl
  go_enter Tryd.func50, Tryd.ntmps50
  go_wp2_with (at_builtin; refine Kd.R_append_rows (Kd.int .u8) (w0 := w0) w0.heap.size rfl (.tmp 8) (.tmp 11) 22 5 (.int .u8 0) 1 rfl Tryd.underlying22 info5 rfl (by decide) (by omega) (.slice A D.length c) D [r] _ _ _ (fun k => P0_ k ∨ w.heap.size ≤ k) (fun _ => False) rfl rfl ?aO (lit_C w [r] (by simp)) (fun _ _ h => h) (fun _ h => h.elim) ?aF ?aB ?aS ?aL ?_)
  case aO => exact Kd.R_mono (Kd.R_alloc HO.out _) (fun k hk => .inl hk)
  case aF => exact fun k hk => .inr (by simp at hk; omega)
  case aB => exact below_alloc HB.out _
  case aS => have := HB.out.size; simp; omega
  case aL => have := HL.out; simp; omega
  intro v1 w1 ho hb hg _
  have HK := Aside0.mk (Kept.of_grown hg ((Kept.refl w P0_).alloc _) (fun k hk => .inl (HO.out.1 k hk)))
  have HN := Aside0.mk ho
  have HB4 := Aside0.mk hb
  clear ho hb hg
  go_wp2
  go_ret
  exact ⟨_, rfl, HN.out, HB4.out, HK.out⟩
theorem app_high (P0_ : Nat → Prop) (A : Option Addr) (c : Nat) (D : List Int) (r : Int) (w0 w : World) (hB : Below w0.heap.size w0 w) (ho : Kd.R (Kd.int .u8) 5 w w0.heap.size P0_ (.slice A D.length c) D) (hl : D.length ≤ 100000000000) (h0 : 128 ≤ r) (hr : Rune r) :
    Calls Tryd.prog 63 #[.slice A D.length c, .int .i32 r] w fun e w' => Appended P0_ w0 w D (enc r) e w' := by
  have hr' := hr
  unfold Rune at hr'
  by_cases e2 : r < 2048
  · rw [enc2 r ⟨h0, e2⟩]; exact app_two P0_ A c D r w0 w hB ho hl h0 (by omega)
  by_cases e3 : r < 65536
  · rw [enc3 r ⟨by omega, e3⟩ hr]
    by_cases e4 : r < 55296
    · exact app_three P0_ A c D r w0 w hB ho hl (by omega) (by omega)
    · exact app_threehi P0_ A c D r w0 w hB ho hl (by omega) (by omega)
  · rw [enc4 r (by omega) hr]; exact app_four P0_ A c D r w0 w hB ho hl (by omega) (by omega)
set_option maxHeartbeats 2000000 in
set_option maxRecDepth 100000 in
theorem app_rune (P0_ : Nat → Prop) (v : Value) (D : List Int) (r : Int) (w0 w : World) (hB : Below w0.heap.size w0 w) (ho : Kd.R (Kd.int .u8) 5 w w0.heap.size P0_ v D) (hl : D.length ≤ 100000000000) (hr : Rune r) :
    Calls Tryd.prog 50 #[v, .int .i32 r] w fun e w' => Appended P0_ w0 w D (enc r) e w' := by
  obtain ⟨A, c, rfl⟩ := Kd.R_slice ho
  have hr' := hr
  unfold Rune at hr'
  by_cases e1 : r < 128
  · rw [enc1 r (by omega)]; exact app_one P0_ A c D r w0 w hB ho hl (by omega) (by omega)
  · have HX := Aside0.mk (app_high P0_ A c D r w0 w hB ho hl (by omega) hr)
    have h128 : 128 ≤ r := by omega
    have hmax : r ≤ 1114111 := by omega
    clear hB ho hl hr hr'
    go_enter Tryd.func50, Tryd.ntmps50
    go_wp2_with (go_at_call 63; refine HX.out.mono ?_; rintro e w' ⟨v1, rfl, hx⟩)
    have HY := Aside0.mk hx
    clear hx HX
    go_wp2
    go_ret
    exact ⟨_, rfl, HY.out⟩
end Go.Proofs.YtflddgoapibleaaDoor.Hand

namespace Go.Proofs.YtflddgoapibleaaDoor.Hand
open Go.RowKit Go.Maps Go.Proofs.YtflddgoapibleaaDoor.Esc Go.Proofs.YtflddgoapibleaaDoorW.PrintWords Go.Proofs.YtflddgoapibleaaDoorW.PrintLast Go.Proofs.YtflddgoapibleaaDoorW.PrintMore
theorem sizeBuilder : Option.map (fun x => x.size) (Tryd.prog.info? 54) = some 2 := by kernel_rfl
theorem liesBuilder : liesAt Tryd.prog Tryd.prog.depth 54 (2 / Tryd.prog.cellsOf 54) 0 54 1 = true := by kernel_rfl
set_option maxHeartbeats 1000000 in
set_option maxRecDepth 100000 in
theorem copy_used (b : Nat) (w : World) (h0 : w.cell? ⟨b, 0, none⟩ = some (.pointer (some ⟨b, 0, none⟩))) :
    Calls Tryd.prog 49 #[.pointer (some ⟨b, 0, none⟩)] w fun e w' => e = .returned (.tuple #[]) ∧ w' = w := by
  obtain ⟨j, hj, _⟩ := Option.map_eq_some_iff.1 sizeBuilder
  go_enter Tryd.func49, Tryd.ntmps49
  go_wp2
  rw [Lib.run_neq_ptr_same w _ Tryd.underlying52 hj]
  go_wp2
  go_end0
  exact ⟨rfl, rfl⟩
set_option maxHeartbeats 1000000 in
set_option maxRecDepth 100000 in
theorem copy_fresh (b : Nat) (w : World) (h0 : w.cell? ⟨b, 0, none⟩ = some (.pointer none)) (hsh : w.shape? b = some (54, 2)) (hfz : w.frozen? ⟨b, 0, none⟩ = false) :
    Calls Tryd.prog 49 #[.pointer (some ⟨b, 0, none⟩)] w fun e w' => e = .returned (.tuple #[]) ∧ w' = w.setCell ⟨b, 0, none⟩ (.pointer (some ⟨b, 0, none⟩)) := by
  obtain ⟨j, hj, hjs⟩ := Option.map_eq_some_iff.1 sizeBuilder
  go_enter Tryd.func49, Tryd.ntmps49
  go_wp2
  rw [Lib.run_to_unsafe w ⟨b, 0, none⟩ Tryd.underlying52 Tryd.underlying78 hj (by rw [hjs]; decide) hsh (Nat.zero_lt_succ 1)]
  simp only [Result.andThen]
  rw [Oper.upon_value]
  go_wp2
  rw [run_callFunc_extern Tryd.func62 (by kernel_rfl) (by kernel_rfl) (by kernel_rfl) (e := Extern.AbiNoEscape.same) (by kernel_rfl)]
  rw [Lib.run_noEscape]
  simp only [Result.andThen]
  rw [Oper.upon_value]
  go_wp2
  rw [Lib.run_from_unsafe w ⟨b, 0, none⟩ Tryd.underlying78 Tryd.underlying52 hj hsh liesBuilder]
  simp only [Result.andThen]
  rw [Oper.upon_value]
  go_wp2
  go_end0
  exact ⟨rfl, rfl⟩
structure BW (base b i : Nat) (D : List Int) (w : World) : Prop where
  at_ : ∃ p v, (p = .pointer none ∨ p = .pointer (some ⟨b, 0, none⟩)) ∧ w.heap[b]? = some (.cells #[p, v] 54 (0, 0)) ∧ Kd.R (Kd.int .u8) 5 w base (fun k => k ≠ b ∧ k ≠ i) v D
structure BU (base b i : Nat) (v : Value) (D : List Int) (w : World) : Prop where
  hb : w.heap[b]? = some (.cells #[.pointer (some ⟨b, 0, none⟩), v] 54 (0, 0))
  row : Kd.R (Kd.int .u8) 5 w base (fun k => k ≠ b ∧ k ≠ i) v D
theorem enc_len_ (r : Int) (hr : Rune r) : 1 ≤ (enc r).length ∧ (enc r).length ≤ 4 := by
  have hr' := hr
  unfold Rune at hr'
  by_cases e1 : r < 128
  · rw [enc1 r (by omega)]; simp
  by_cases e2 : r < 2048
  · rw [enc2 r (by omega)]; simp
  by_cases e3 : r < 65536
  · rw [enc3 r (by omega) hr]; simp
  · rw [enc4 r (by omega) hr]; simp
theorem copy_any (base b i : Nat) (D : List Int) (w0 w : World) (h : BW base b i D w) (hB : Below base w0 w) (hbb : base ≤ b) :
    Calls Tryd.prog 49 #[.pointer (some ⟨b, 0, none⟩)] w fun e w' => e = .returned (.tuple #[]) ∧ ∃ v, BU base b i v D w' ∧ Below base w0 w' ∧ w'.heap.size = w.heap.size ∧ ∀ k, k ≠ b → w'.heap[k]? = w.heap[k]? := by
  obtain ⟨p, v, hp, hb, hr⟩ := h.at_
  rcases hp with rfl | rfl
  · refine (copy_fresh b w (by simp [World.cell?, hb]) (by simp [World.shape?, hb]) (by simp [World.frozen?, hb])).mono ?_
    rintro e w' ⟨rfl, rfl⟩
    refine ⟨rfl, v, ⟨?_, Kd.R_far hr (fun k hk => hk.1) _⟩, ?_, Deep.nblk_setCell _ _ _, fun k hk => Deep.blk_setCell_other _ _ _ _ hk⟩
    · simp [World.setCell, Array.getElem?_modify, hb]
    · exact hB.trans ⟨rfl, rfl, rfl, by rw [Deep.nblk_setCell]; exact Nat.le_refl _, fun k hk => Deep.blk_setCell_other _ _ _ k (by simp; omega)⟩
  · refine (copy_used b w (by simp [World.cell?, hb])).mono ?_
    rintro e w' ⟨rfl, rfl⟩
    exact ⟨rfl, v, ⟨hb, hr⟩, hB, rfl, fun k _ => rfl⟩
set_option maxHeartbeats 2000000 in
set_option maxRecDepth 100000 in
theorem write_rune (b i : Nat) (D : List Int) (r : Int) (w0 w : World) (h : BW w0.heap.size b i D w) (hB : Below w0.heap.size w0 w) (hbb : w0.heap.size ≤ b) (hi : i ≠ b) (hil : i < w.heap.size) (hl : D.length ≤ 10000000000) (hr : Rune r) :
    Calls Tryd.prog 34 #[.pointer (some ⟨b, 0, none⟩), .int .i32 r] w fun e w' => ∃ v, e = .returned v ∧ BW w0.heap.size b i (D ++ enc r) w' ∧ Below w0.heap.size w0 w' ∧ w'.heap[i]? = w.heap[i]? := by
  have HC := Aside0.mk (copy_any w0.heap.size b i D w0 w h hB hbb)
  have HBB := Aside0.mk hbb
  have HIL := Aside0.mk hil
  have HR := Aside0.mk hr
  have HL := Aside0.mk hl
  clear h hB hbb hil hr hl
  go_enter Tryd.func34, Tryd.ntmps34
  go_wp2_with (fail)
  refine HC.out.mono ?_
  rintro e w1 ⟨rfl, v, hu, hb1, hsz, hk1⟩
  obtain ⟨A, c, rfl⟩ := Kd.R_slice hu.row
  have c1 : w1.cell? ⟨b, 1, none⟩ = some (.slice A D.length c) := by simp [World.cell?, hu.hb]
  have HU := Aside0.mk hu
  have HB1 := Aside0.mk hb1
  have HK1 := Aside0.mk (And.intro hsz hk1)
  clear hu hb1 hsz hk1 HC
  have HA := Aside0.mk (app_rune (fun k => k ≠ b ∧ k ≠ i) (.slice A D.length c) D r w0 w1 HB1.out HU.out.row (by have := HL.out; omega) HR.out)
  have hel := (enc_len_ r HR.out).2
  obtain ⟨D1, hD1⟩ : ∃ D1, D ++ enc r = D1 := ⟨_, rfl⟩
  have HD1 := Aside0.mk (show D1.length ≤ 10000000004 by have := HL.out; rw [← hD1, List.length_append]; omega)
  have HE := Aside0.mk hD1
  unfold Appended at HA
  rw [hD1] at HA
  clear hD1 hel
  go_wp2_with (fail)
  refine HA.out.mono ?_
  rintro e w2 ⟨v1, rfl, ho, hb2, hk2⟩
  obtain ⟨A1, c1', rfl⟩ := Kd.R_slice ho
  have hbl : b < w1.heap.size := (Array.getElem?_eq_some_iff.1 HU.out.hb).1
  have hb' : w2.heap[b]? = some (.cells #[.pointer (some ⟨b, 0, none⟩), .slice A D.length c] 54 (0, 0)) := (hk2.2 b hbl (fun h => h.1 rfl)).trans HU.out.hb
  have c2 : w2.cell? ⟨b, 1, none⟩ = some (.slice A D.length c) := by simp [World.cell?, hb']
  have f2 : w2.frozen? ⟨b, 1, none⟩ = false := by simp [World.frozen?, hb']
  have hb3 : (w2.setCell ⟨b, 1, none⟩ (.slice A1 D1.length c1')).heap[b]? = some (.cells #[.pointer (some ⟨b, 0, none⟩), .slice A1 D1.length c1'] 54 (0, 0)) := by
    simp [World.setCell, Array.getElem?_modify, hb']
  have c3 : (w2.setCell ⟨b, 1, none⟩ (.slice A1 D1.length c1')).cell? ⟨b, 1, none⟩ = some (.slice A1 D1.length c1') := by simp only [World.cell?, hb3]; rfl
  have HO := Aside0.mk ho
  have HB2 := Aside0.mk hb2
  have HK2 := Aside0.mk hk2
  have HH := Aside0.mk (And.intro hb3 hbl)
  have HD2 := HD1.out
  clear ho hb2 hk2 hb' hb3 hbl
  go_wp2
  go_ret2
  refine ⟨_, rfl, ⟨⟨_, _, .inr rfl, HH.out.1, ?_⟩⟩, ?_, ?_⟩
  · rw [HE.out]
    refine Kd.R_far (Kd.R_mono HO.out (fun k hk => ?_)) (fun k hk => hk.1) _
    rcases hk with hk | hk
    · exact hk
    · have h1 := HH.out.2
      have h2 := HIL.out
      have h3 := HK1.out.1
      exact ⟨by omega, by omega⟩
  · have h1 := HBB.out
    exact HB2.out.trans ⟨rfl, rfl, rfl, by rw [Deep.nblk_setCell]; exact Nat.le_refl _, fun k hk => Deep.blk_setCell_other _ _ _ k (by simp; omega)⟩
  · rw [Deep.blk_setCell_other _ _ _ i hi]
    have h2 := HIL.out
    have h3 := HK1.out.1
    rw [HK2.out.2 i (by omega) (fun h => h.2 rfl), HK1.out.2 i hi]
end Go.Proofs.YtflddgoapibleaaDoor.Hand

namespace Go.Proofs.YtflddgoapibleaaDoor.Hand
open Go.RowKit Go.Maps Go.Proofs.YtflddgoapibleaaDoor.Esc Go.Proofs.YtflddgoapibleaaDoorW.PrintWords Go.Proofs.YtflddgoapibleaaDoorW.PrintLast Go.Proofs.YtflddgoapibleaaDoorW.PrintMore
theorem plain_cons (l : List Int) (h : 0 < l.length) : plain l = enc (dec l).1 ++ plain (l.drop (dec l).2) := steps_cons _ l h
theorem dec_rune (l : List Int) (hb : Bytes l) (h : 0 < l.length) : Rune (dec l).1 := by
  have h0 := head_byte l hb h
  rcases dec_cases l h0.1 with ⟨h1, e⟩ | ⟨_, e⟩ | ⟨r, t, hr, _, _, e⟩
  · rw [e]; unfold Rune; simp only; omega
  · rw [e]; unfold Rune; simp only; omega
  · rw [e]; exact hr
theorem enc_byte (r : Int) (hr : Rune r) : Bytes (enc r) := by
  have hr' := hr
  unfold Rune at hr'
  intro x hx
  by_cases e1 : r < 128
  · rw [enc1 r (by omega)] at hx; simp at hx; omega
  by_cases e2 : r < 2048
  · rw [enc2 r (by omega)] at hx; simp at hx; omega
  by_cases e3 : r < 65536
  · rw [enc3 r (by omega) hr] at hx; simp at hx; omega
  · rw [enc4 r (by omega) hr] at hx; simp at hx; omega
theorem plain_bytes (l : List Int) : Bytes l → Bytes (plain l) := by
  induction l using steps_ind with
  | h0 => intro _ x hx; simp [plain, steps_nil] at hx
  | h1 l h ih => intro hb; rw [plain_cons l h]; exact bytes_append (enc_byte _ (dec_rune l hb h)) (ih (bytes_of_drop hb _))
theorem byteCells_of (D : List Int) (hb : Bytes D) : Lib.byteCells (D.map fun n => UInt8.ofNat n.toNat) = nums .u8 D := by
  unfold Lib.byteCells nums
  rw [List.map_map]
  apply List.map_congr_left
  intro x hx
  have := hb x hx
  simp; omega
theorem string_of (base b i : Nat) (D : List Int) (w : World) (h : BW base b i D w) (hbb : base ≤ b) (hbw : base ≤ w.heap.size) (hD : Bytes D) :
    Calls Tryd.prog 35 #[.pointer (some ⟨b, 0, none⟩)] w fun e w' => e = .returned (.string (strOfNums D)) ∧ Below base w w' := by
  obtain ⟨p, v, hp, hb, hr⟩ := h.at_
  have ho := Kd.own_of_R hr
  have e1 : encs (Value.int .u8) D = Lib.byteCells (D.map fun n => UInt8.ofNat n.toNat) := (byteCells_of D hD).symm
  have hl : (Lib.byteCells (D.map fun n => UInt8.ofNat n.toNat)).length = D.length := by rw [byteCells_of D hD]; simp [nums]
  have hat : Lib.BuilderAt 54 5 base b p (Lib.byteCells (D.map fun n => UInt8.ofNat n.toNat)) w := ⟨hbb, v, hb, by rw [hl, ← e1]; exact ho, fun e => (hr.1 b e).1 rfl⟩
  have hI : Lib.IsBuilder 54 5 base b (Lib.byteCells (D.map fun n => UInt8.ofNat n.toNat)) w := by
    rcases hp with rfl | rfl
    · exact .inl hat
    · exact .inr hat
  exact Tryd.Builder_String_any base b _ w hI hbw
abbrev builder0 : Obj := .cells #[.pointer none, .slice none 0 0] 54
theorem alloc_size (w : World) (o : Obj) : (w.alloc o).heap.size = w.heap.size + 1 := Deep.nblk_alloc w o
theorem plain_start_iter (w : World) (s : ByteArray) : ((w.alloc builder0).iter s 0).heap[w.heap.size + 1]? = some (.stringIter s 0) := by
  have := World.iter_heap (w.alloc builder0) s 0
  rwa [alloc_size] at this
theorem plain_start_below (w : World) (s : ByteArray) : Below w.heap.size w ((w.alloc builder0).iter s 0) :=
  ((Below.refl w.heap.size w).alloc (Nat.le_refl _) _).alloc (by rw [alloc_size]; omega) _
theorem plain_start_builder (w : World) (s : ByteArray) : BW w.heap.size w.heap.size (w.heap.size + 1) [] ((w.alloc builder0).iter s 0) :=
  ⟨⟨_, _, .inl rfl, by
    have h1 : ((w.alloc builder0).iter s 0).heap[w.heap.size]? = (w.alloc builder0).heap[w.heap.size]? := Deep.blk_alloc_lt (w.alloc builder0) _ _ (by rw [alloc_size]; omega)
    rw [h1]; exact Deep.blk_alloc_new _ _, Kd.R_nil _ _ _ _ _⟩⟩
theorem bw_iter {base b i : Nat} {D : List Int} {w : World} (h : BW base b i D w) (s : ByteArray) (p : Nat) (hbi : b ≠ i := by omega) : BW base b i D (w.iterAt i s p) := by
  obtain ⟨q, v, hq, hb, hr⟩ := h.at_
  exact ⟨⟨q, v, hq, (Lib.iterAt_other w i b s p hbi).trans hb, Kd.R_step hr (fun k hk _ => Lib.iterAt_other w i k s p hk.2)⟩⟩
set_option maxHeartbeats 2000000 in
set_option maxRecDepth 100000 in
theorem plain_walk (A0 : Option Addr) (c0 : Nat) (l0 : List Int) (w : World) (hr0 : Kd.C (Kd.int .u8) w A0 l0.length l0) (hb : Bytes l0) (hl : l0.length ≤ 1073741824) :
    Calls Tryd.prog 20 #[.slice A0 l0.length c0] w fun e w' => e = .returned (.string (strOfNums (plain l0))) ∧ Below w.heap.size w w' := by
  have hcv : ∀ o, (convert 22 9 (.slice A0 l0.length c0)).run Tryd.prog (w.alloc o) = .ok (.string (strOfNums l0)) (w.alloc o) := fun o => Kd.C_string (P := Tryd.prog) (A := A0) (c := c0) Tryd.underlying22 Tryd.underlying5 Tryd.underlying9 (Kd.C_below hr0 (below_alloc (Below.refl _ _) o))
  have HSZ := Aside0.mk (strOfNums_size l0)
  have HBY := Aside0.mk hb
  have hsz : (strOfNums l0).size ≤ 1073741824 := by rw [strOfNums_size]; exact hl
  clear hb hl hr0
  obtain ⟨s, hs⟩ : ∃ s, strOfNums l0 = s := ⟨_, rfl⟩
  have HSS := Aside0.mk hs
  rw [hs] at HSZ hsz
  simp only [hs] at hcv
  clear hs
  go_enter Tryd.func20, Tryd.ntmps20
  go_wp2
  go_loopg [] s.size (fun gf wx => ∃ (pos : Nat) (D : List Int), Aside0 (wx.heap[w.heap.size + 1]? = some (.stringIter s pos)) ∧ Aside0 (BW w.heap.size w.heap.size (w.heap.size + 1) D wx) ∧ Aside0 (Below w.heap.size w wx) ∧ Aside0 (D ++ plain (l0.drop pos) = plain l0) ∧ Aside0 (s.size ≤ pos + gf ∧ D.length ≤ 4 * pos ∧ pos ≤ s.size))
  case atStart =>
    refine ⟨0, [], ⟨plain_start_iter w s⟩, ⟨plain_start_builder w s⟩, ⟨plain_start_below w s⟩, ⟨rfl⟩, ⟨by omega, by simp, by omega⟩⟩
  case round =>
    obtain ⟨pos, D, HIT, HBW, HB, HE, HF⟩ := hrel
    by_cases hp : pos < s.size
    · have hnx : ∀ ty, (Instr.next (.pointer (some ⟨w.heap.size + 1, 0, none⟩)) true ty).run Tryd.prog wr = _ := fun ty => Lib.run_next_any_at wr (w.heap.size + 1) s pos ty HIT.out hp
      have hd := decode_dec l0 HBY.out pos (by have := HSZ.out; omega)
      rw [HSS.out] at hd
      have hne : 0 < (l0.drop pos).length := by rw [List.length_drop]; have := HSZ.out; omega
      have hc := plain_cons (l0.drop pos) hne
      have hpos := dec_pos (l0.drop pos)
      have hle := dec_le (l0.drop pos) hne
      have hrune := dec_rune (l0.drop pos) (bytes_of_drop HBY.out pos) hne
      rw [List.length_drop] at hle
      rw [List.drop_drop, ← hd.2, ← hd.1] at hc
      rw [← hd.2] at hpos hle
      rw [← hd.1] at hrune
      obtain ⟨K, hK⟩ : ∃ K, (Utf8.decode s pos).2 = K := ⟨_, rfl⟩
      obtain ⟨R, hR⟩ : ∃ R : Int, ((Utf8.decode s pos).1 : Int) = R := ⟨_, rfl⟩
      rw [hK] at hnx hc hpos hle
      rw [hR] at hnx hc hrune
      have hlt : w.heap.size + 1 < wr.heap.size := (Array.getElem?_eq_some_iff.1 HIT.out).1
      have HIT2 := Aside0.mk (Lib.iterAt_heap wr (w.heap.size + 1) s pos (pos + K) HIT.out)
      have HB2 := Aside0.mk (Lib.below_iterAt HB.out (k := w.heap.size + 1) (by omega) s (pos + K))
      have HBW2 := Aside0.mk (bw_iter HBW.out s (pos + K))
      have HLT := Aside0.mk (show w.heap.size + 1 < (wr.iterAt (w.heap.size + 1) s (pos + K)).heap.size by rw [Lib.iterAt_size]; exact hlt)
      obtain ⟨W, hW⟩ : ∃ W, wr.iterAt (w.heap.size + 1) s (pos + K) = W := ⟨_, rfl⟩
      rw [hW] at hnx HIT2 HB2 HBW2 HLT
      have HC := Aside0.mk (And.intro hc (And.intro hpos (And.intro hle (enc_len_ R hrune).2)))
      have HWR := Aside0.mk (write_rune w.heap.size (w.heap.size + 1) D R w W HBW2.out HB2.out (Nat.le_refl _) (by omega) HLT.out (by have := HF.out; omega) hrune)
      clear hd hc hpos hle hrune hlt hK hR hW hne HIT HBW HB
      go_wp2_with (fail)
      refine HWR.out.mono ?_
      rintro e w2 ⟨v, rfl, hbw, hb, hi⟩
      have H3 := Aside0.mk (And.intro hbw (And.intro hb (hi.trans HIT2.out)))
      clear hbw hb hi
      go_wp2
      go_roundg (gk - 1)
      case measure => have := HF.out; have := HC.out; omega
      case rel => exact ⟨pos + K, D ++ enc R, ⟨H3.out.2.2⟩, ⟨H3.out.1⟩, ⟨H3.out.2.1⟩, ⟨by rw [List.append_assoc, ← HC.out.1]; exact HE.out⟩, ⟨by have := HF.out; have := HC.out; have := HSZ.out; rw [List.length_append]; omega⟩⟩
    · have hnx : ∀ ty, (Instr.next (.pointer (some ⟨w.heap.size + 1, 0, none⟩)) true ty).run Tryd.prog wr = _ := fun ty => Lib.run_next_end_at wr (w.heap.size + 1) s pos ty HIT.out hp
      have h1 := HE.out
      rw [List.drop_eq_nil_of_le (by have := HSZ.out; omega)] at h1
      have h2 : D = plain l0 := by rw [← h1]; exact (List.append_nil D).symm
      subst h2
      have HS := Aside0.mk (string_of w.heap.size w.heap.size (w.heap.size + 1) (plain l0) wr HBW.out (Nat.le_refl _) HB.out.size (plain_bytes l0 HBY.out))
      have HBB := Aside0.mk HB.out
      clear h1
      go_wp2_with (fail)
      refine HS.out.mono ?_
      rintro e w2 ⟨rfl, hb⟩
      have HB3 := Aside0.mk (HBB.out.trans hb)
      clear hb
      go_wp2
      go_ret
      exact ⟨rfl, HB3.out⟩
theorem escape_Plain.calls (A0 : Option Addr) (c0 : Nat) (l0 : List Int) (r : ByteArray) (w : World) (hr0 : Kd.C (Kd.int .u8) w A0 l0.length l0) (hc0 : l0.length ≤ c0) (h : escape_Plain.f l0 = some r) :
    Calls Tryd.prog 20 #[.slice A0 l0.length c0] w fun e w' => e = .returned (.string r) ∧ Below w.heap.size w w' := by
  unfold escape_Plain.f at h
  split at h
  · rename_i hh
    obtain rfl := Option.some.inj h
    exact plain_walk A0 c0 l0 w hr0 hh.1 hh.2
  · simp at h
end Go.Proofs.YtflddgoapibleaaDoor.Hand
