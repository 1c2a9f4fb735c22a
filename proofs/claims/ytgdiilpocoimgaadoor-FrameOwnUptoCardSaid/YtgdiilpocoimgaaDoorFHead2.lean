/- frame.header: its walk. -/
import Derived.Test.YtgdiilpocoimgaaDoorFHead1
import Derived.Test.YtgdiilpocoimgaaDoorFScope
import Derived.Lib.SlBytesConst
set_option linter.unusedVariables false
set_option linter.unusedSimpArgs false
namespace Go.Proofs.YtgdiilpocoimgaaDoor.Hand
open Go.RowKit Go.Proofs.YtgdiilpocoimgaaDoor.Frm Go.Proofs.YtgdiilpocoimgaaDoorW.PrintWords Go.Proofs.YtgdiilpocoimgaaDoorW.PrintLast Go.Proofs.YtgdiilpocoimgaaDoorW.PrintMore
attribute [local go_sem] max2_int min2_int max_two min_two max_three min_three max_four min_four

/-- What holds where the run comes to a label: 0 line, 3 names, 4 values, 2 end, 1 out. -/
def AtL (L : List Int) (most : Int) (r : Int × Int × Int) (k l p : Nat) (v8 v9 : Value) (n : Int) : Prop :=
  (l = 0 ∧ p ≤ 4096 ∧ ∃ name value kk : Nat, k = kk + 3 ∧ 4098 ≤ kk + p ∧ hdN kk 0 L most p name value n = r) ∨
  (l = 3 ∧ p ≤ 4096 ∧ ∃ name value kk : Nat, k = kk + 3 ∧ 4098 ≤ kk + p ∧ v8 = .int .i64 (name : Int) ∧ name < p ∧ p ≤ L.length ∧ (∀ x ∈ (L.take p).drop name, nmI x = true) ∧ hdN kk 1 L most p name value n = r) ∨
  (l = 4 ∧ p ≤ 4096 ∧ ∃ name value kk : Nat, k = kk + 3 ∧ 4098 ≤ kk + p ∧ v8 = .int .i64 (name : Int) ∧ v9 = .int .i64 (value : Int) ∧ name + 1 < value ∧ value ≤ p ∧ p ≤ L.length ∧ (∀ x ∈ (L.take (value - 1)).drop name, nmI x = true) ∧ hdN kk 2 L most p name value n = r) ∨
  (l = 2 ∧ k = 2 ∧ p ≤ 4096 ∧ endL L p n = r) ∨
  (l = 1 ∧ k = 1 ∧ outL L = r)
/-- The frame: the slots that are known, and letters. -/
def HFr (A : Option Addr) (c : Nat) (L : List Int) (most : Int) (X Y : Nat) (v8 v9 : Value) (n : Int) (a : Act) : Prop :=
  ∃ u : Nat → Value, a = ⟨#[.slice A L.length c, .int .i64 most, .pointer (some ⟨X, 0, none⟩), u 3, u 4, .int .i64 n, u 6, .pointer (some ⟨Y, 0, none⟩), v8, v9, .func (Fn.func 29) #[] #[.pointer (some ⟨Y, 0, none⟩), .pointer (some ⟨X, 0, none⟩)], u 11, u 12, u 13, u 14, u 15, u 16, u 17, u 18, u 19, u 20, u 21, u 22, u 23, u 24, u 25, u 26, u 27, u 28, u 29, u 30, u 31, u 32, u 33, u 34, u 35, u 36, u 37, u 38, u 39, u 40, u 41, u 42, u 43, u 44, u 45, u 46, u 47, u 48, u 49, u 50, u 51, u 52, u 53, u 54, u 55, u 56, u 57, u 58, u 59, u 60, u 61, u 62, u 63, u 64, u 65, u 66, u 67, u 68, u 69, u 70, u 71, u 72, u 73, u 74, u 75, u 76, u 77, u 78, u 79, u 80, u 81, u 82, u 83, u 84, u 85, u 86, u 87, u 88, u 89, u 90, u 91, u 92, u 93, u 94, u 95, u 96, u 97, u 98, u 99], []⟩
theorem HFr.of {A : Option Addr} {c : Nat} {L : List Int} {most : Int} {X Y : Nat} {v8 v9 : Value} {n : Int} {t : Array Value} (hs : t.size = 100) (h0 : t.getD 0 undef = .slice A L.length c) (h1 : t.getD 1 undef = .int .i64 most) (h2 : t.getD 2 undef = .pointer (some ⟨X, 0, none⟩)) (h5 : t.getD 5 undef = .int .i64 n) (h7 : t.getD 7 undef = .pointer (some ⟨Y, 0, none⟩)) (h8 : t.getD 8 undef = v8) (h9 : t.getD 9 undef = v9)
    (h10 : t.getD 10 undef = .func (Fn.func 29) #[] #[.pointer (some ⟨Y, 0, none⟩), .pointer (some ⟨X, 0, none⟩)]) : HFr A c L most X Y v8 v9 n ⟨t, []⟩ := by
  obtain ⟨g, hg⟩ : ∃ g : Nat → Value, ∀ i, t.getD i undef = g i := ⟨fun i => t.getD i undef, fun _ => rfl⟩
  rw [hg] at h0 h1 h2 h5 h7 h8 h9 h10
  have hl : t = ((List.range 100).map g).toArray := by
    apply Array.ext
    · rw [hs]; simp
    · intro i hi _
      have e : t[i] = t.getD i undef := by simp [Array.getD, hi]
      rw [e, hg]
      simp
  refine ⟨g, ?_⟩
  rw [hl, ← h10, ← h0, ← h1, ← h2, ← h5, ← h7, ← h8, ← h9]
  rfl
theorem frame_gen {F : Act → Prop} {K : Act → World → Prop} {t : Array Value} {W : World} (h : ∀ t, F ⟨t, []⟩ → K ⟨t, []⟩ W) (hf : F ⟨t, []⟩) : K ⟨t, []⟩ W := h t hf
theorem named_f (x : Int) : frame_named.f x = some (nmI x) := by
  unfold frame_named.f nmI
  repeat' split
  all_goals congr 1
  all_goals first | exact (decide_eq_true (by omega)).symm | exact (decide_eq_false (by omega)).symm | (rw [Bool.eq_iff_iff]; simp only [beq_iff_eq, decide_eq_true_eq]; omega)
theorem valued_f (x : Int) : frame_valued.f x = some (vlI x) := by
  unfold frame_valued.f vlI
  repeat' split
  all_goals congr 1
  all_goals first | exact (decide_eq_true (by omega)).symm | exact (decide_eq_false (by omega)).symm | (rw [Bool.eq_iff_iff]; simp only [beq_iff_eq, decide_eq_true_eq]; omega)
theorem next_lt {L : List Int} {p : Nat} {x : Int} (h : nextB L p = some x) : p < L.length ∧ p < 4096 ∧ L.getD p 0 = x := by
  unfold nextB at h
  by_cases hh : p < L.length ∧ p < 4096
  · rw [if_pos hh] at h; exact ⟨hh.1, hh.2, Option.some.inj h⟩
  · rw [if_neg hh] at h; cases h
theorem nm_next {L : List Int} {name p : Nat} {x : Int} (h : nextB L p = some x) (hn : nmI x = true) (hle : name ≤ p) (hs : ∀ y ∈ (L.take p).drop name, nmI y = true) : ∀ y ∈ (L.take (p + 1)).drop name, nmI y = true := by
  obtain ⟨h1, _, h2⟩ := next_lt h
  have e : L.take (p + 1) = L.take p ++ [x] := by
    rw [List.take_add_one, List.getElem?_eq_getElem h1]
    rw [List.getD_eq_getElem?_getD, List.getElem?_eq_getElem h1] at h2
    rw [show L[p] = x from h2]; rfl
  intro y hy
  rw [e, List.drop_append_of_le_length (by rw [List.length_take]; omega)] at hy
  rcases List.mem_append.1 hy with hy | hy
  · exact hs y hy
  · rw [List.mem_singleton] at hy; rw [hy]; exact hn
theorem cut_L (A : Option Addr) (c : Nat) (L : List Int) (lo hi : Nat) (j : Int) (hj : j = (hi : Int)) (h1 : lo ≤ hi) (h2 : hi ≤ L.length) (hc : L.length ≤ c) :
    ∃ A' : Option Addr, (∀ W : World, (Instr.slice 22 (.slice A L.length c) (some (.int .i64 (lo : Int))) (some (.int .i64 j)) none).run Tryd.prog W = .ok (.slice A' ((L.take hi).drop lo).length (c - lo)) W) ∧
      (∀ W : World, Kd.C (Kd.int .u8) W A L.length L → Kd.C (Kd.int .u8) W A' ((L.take hi).drop lo).length ((L.take hi).drop lo)) ∧ ((0 < L.length → ∃ b o, A = some ⟨b, o, none⟩) → 0 < ((L.take hi).drop lo).length → ∃ b o, A' = some ⟨b, o, none⟩) := by
  obtain ⟨i0, hi0, _, hsz, _⟩ := info_parts info5
  subst hj
  have hcut := cut_mid (P := Tryd.prog) 22 5 .i64 .i64 Tryd.underlying22 hi0 1 hsz A L.length c (lo : Int) (hi : Int) (by omega) (by omega) (by omega) hc
  have e1 : ((hi : Int)).toNat - ((lo : Int)).toNat = ((L.take hi).drop lo).length := by rw [List.length_drop, List.length_take]; omega
  have e2 : ((lo : Int)).toNat = lo := by omega
  refine ⟨if c = lo then A else A.map (·.add (lo * 1)), fun W => ?_, fun W h => Kd.C_mid h h1 h2 hc, fun hA h0 => ?_⟩
  · rw [hcut W, e1, e2]
  · have h0' := h0
    rw [List.length_drop, List.length_take] at h0'
    obtain ⟨b, o, rfl⟩ := hA (by omega)
    by_cases hcl : c = lo
    · rw [if_pos hcl]; exact ⟨b, o, rfl⟩
    · rw [if_neg hcl]
      refine ⟨b, o + lo, ?_⟩
      rw [Nat.mul_one]
      simp [Addr.add]
theorem clen_C (W : World) : Kd.C (Kd.int .u8) (W.alloc (.cells #[.int .u8 99, .int .u8 111, .int .u8 110, .int .u8 116, .int .u8 101, .int .u8 110, .int .u8 116, .int .u8 45, .int .u8 108, .int .u8 101, .int .u8 110, .int .u8 103, .int .u8 116, .int .u8 104] 5 (14, 15))) (some ⟨W.heap.size, 0, none⟩) clen.length clen := by
  refine Kd.C_of_reads (d := (0 : Int)) (h1 := fun _ => rfl) ⟨rfl, by decide, fun _ => ⟨_, rfl, fun j hj => ?_⟩⟩
  have hb := Deep.blk_alloc_new W (.cells #[.int .u8 99, .int .u8 111, .int .u8 110, .int .u8 116, .int .u8 101, .int .u8 110, .int .u8 116, .int .u8 45, .int .u8 108, .int .u8 101, .int .u8 110, .int .u8 103, .int .u8 116, .int .u8 104] 5 (14, 15))
  rw [add_plain]
  simp only [World.cell?, hb, Nat.zero_add]
  have hj' : j < 14 := hj
  match j, hj' with
  | 0, _ => rfl | 1, _ => rfl | 2, _ => rfl | 3, _ => rfl | 4, _ => rfl | 5, _ => rfl | 6, _ => rfl | 7, _ => rfl | 8, _ => rfl | 9, _ => rfl | 10, _ => rfl | 11, _ => rfl | 12, _ => rfl | 13, _ => rfl
theorem nm_asc {l : List Int} (h : ∀ y ∈ l, nmI y = true) : Asc l := fun y hy => by
  have := h y hy
  unfold nmI at this
  rw [decide_eq_true_eq] at this
  omega
def HInv (w0 : World) (A : Option Addr) (c : Nat) (L : List Int) (most : Int) (r : Int × Int × Int) (X Y : Nat) (k l : Nat) (a : Act) (W : World) : Prop :=
  ∃ (p : Nat) (v8 v9 : Value) (n : Int), HFr A c L most X Y v8 v9 n a ∧ HW w0 X Y A c L p W ∧ (-1 ≤ n ∧ n ≤ 9223372036854775807) ∧ AtL L most r k l p v8 v9 n

set_option maxHeartbeats 40000000 in
set_option maxRecDepth 1000000 in
theorem header_calls (A : Option Addr) (c : Nat) (L : List Int) (most : Int) (w : World) (hC : Kd.C (Kd.int .u8) w A L.length L) (hc : L.length ≤ c) (hcm : c ≤ 9223372036854775807) (hA : 0 < L.length → ∃ b o, A = some ⟨b, o, none⟩) (hb : Bytes L) (hl : L.length ≤ 1073741824) (hmost : most ≤ 9223372036854775807) :
    Calls Tryd.prog 24 #[.slice A L.length c, .int .i64 most] w fun e w' => e = .returned (.tuple #[.int .i64 (headL L most).1, .int .i64 (headL L most).2.1, .int .i64 (headL L most).2.2]) ∧ Below w.heap.size w w' := by
  obtain ⟨r, hr⟩ : ∃ r, headL L most = r := ⟨_, rfl⟩
  rw [hr]
  have HR := Aside0.mk hr
  have HC := Aside0.mk hC
  have HCC := Aside0.mk hc
  have HCM := Aside0.mk hcm
  have HA := Aside0.mk hA
  have HBY := Aside0.mk hb
  have HL := Aside0.mk hl
  have HM := Aside0.mk hmost
  clear hr hC hc hcm hA hb hl hmost
  go_enter Tryd.func24, Tryd.ntmps24
  go_wp2
  refine wp_scope_inv (HInv w A c L most r w.heap.size (w.heap.size + 1)) ?_ 20010 ?_
  · intro k l a W J hi hJ hrest hO
    obtain ⟨p, v8, v9, n, hfr, hW, hn, hat⟩ := hi
    obtain ⟨u, rfl⟩ := hfr
    have HN := Aside0.mk hn
    clear hn
    rcases hat with ⟨rfl, hat⟩ | ⟨rfl, hat⟩ | ⟨rfl, hat⟩ | ⟨rfl, hat⟩ | ⟨rfl, hat⟩
    · refine ⟨_, rfl, ?_⟩
      obtain ⟨hp, name, value, kk, rfl, hsum, hat⟩ := hat
      obtain ⟨kk, rfl⟩ : ∃ kk', kk = kk' + 1 := ⟨kk - 1, by omega⟩
      rw [hdN] at hat
      have cp := hW.cp
      cases hx : nextB L p with
      | none =>
        have HNX := Aside0.mk (next_none w _ _ A c L p W hW hx)
        rw [hx] at hat
        have HW1 := Aside0.mk hW
        clear hW
        go_wp2_with (first | (go_at_call 29; refine HNX.out.mono ?_; rintro e W' ⟨rfl, rfl⟩))
        go_step3
        change J (.goto 1) _ _
        exact hJ 1 1 _ _ (by omega) ⟨p, _, _, n, HFr.of rfl rfl rfl rfl rfl rfl rfl rfl rfl, HW1.out, HN.out, .inr (.inr (.inr (.inr ⟨rfl, rfl, hat⟩)))⟩
      | some x =>
        have HNX := Aside0.mk (next_some w _ _ A c L p W x hW HC.out hx)
        have HX := Aside0.mk hx
        rw [hx] at hat
        simp only at hat
        have HW1 := Aside0.mk (hW.set (p + 1))
        clear hW hx
        generalize hW3 : W.setCell ⟨w.heap.size + 1, 0, none⟩ (.int .i64 ((p + 1 : Nat) : Int)) = W3 at HNX HW1
        clear hW3
        by_cases h13 : x = 13
        · subst h13
          rw [if_pos rfl] at hat
          go_wp2_with (first | (go_at_call 29; refine HNX.out.mono ?_; rintro e W' ⟨rfl, rfl⟩))
          go_step3
          change J (.goto 2) _ _
          exact hJ 2 2 _ _ (by omega) ⟨p + 1, _, _, n, HFr.of rfl rfl rfl rfl rfl rfl rfl rfl rfl, HW1.out, HN.out, .inr (.inr (.inr (.inl ⟨rfl, rfl, by have := next_lt HX.out; omega, hat⟩)))⟩
        · have hb1 : (x == 13) = false := beq_eq_false_iff_ne.2 h13
          rw [if_neg h13] at hat
          have HNM := Aside0.mk (frame_named.calls x (nmI x) W3 (named_f x))
          cases hnm : nmI x with
          | false =>
            rw [if_pos hnm] at hat
            subst hat
            rw [hnm] at HNM
            go_wp2_with (first | (go_at_call 29; refine HNX.out.mono ?_; rintro e W' ⟨rfl, rfl⟩) | (go_at_call 30; refine HNM.out.mono ?_; rintro e W' ⟨rfl, hd⟩; have HD := Aside0.mk hd; clear hd))
            refine hO _ _ _ (by simp) ?_
            go_ret3
            exact ⟨rfl, below_step HW1.out.bel HD.out.below⟩
          | true =>
            rw [if_neg (by rw [hnm]; simp)] at hat
            rw [hnm] at HNM
            go_wp2_with (first | (go_at_call 29; refine HNX.out.mono ?_; rintro e W' ⟨rfl, rfl⟩) | (go_at_call 30; refine HNM.out.mono ?_; rintro e W' ⟨rfl, hd⟩; have HD := Aside0.mk hd; clear hd))
            go_step3
            rename_i hK
            refine frame_gen (F := HFr A c L most w.heap.size (w.heap.size + 1) (.int .i64 (p : Int)) v9 n) (fun t hfr => ?_) (HFr.of rfl rfl rfl rfl rfl rfl rfl rfl rfl)
            have hlt := next_lt HX.out
            obtain ⟨rest, hf, hr2⟩ := hrest (kk + 3) 3 _ _ (by omega) ⟨p + 1, .int .i64 (p : Int), v9, n, hfr, HW1.out.below HD.out.below, HN.out, .inr (.inl ⟨rfl, by omega, p, value, kk, rfl, by omega, rfl, by omega, by omega, nm_next HX.out hnm (Nat.le_refl _) (fun y hy => by rw [List.drop_eq_nil_of_le (by rw [List.length_take]; omega)] at hy; cases hy), hat⟩)⟩
            have hf2 := Option.some.inj hf
            injection hf2 with _ hf3
            subst hf3
            exact hK _ _ hr2
    · refine ⟨_, rfl, ?_⟩
      obtain ⟨hp, name, value, kk, rfl, hsum, rfl, hlt, hpl, hnms, hat⟩ := hat
      obtain ⟨kk, rfl⟩ : ∃ kk', kk = kk' + 1 := ⟨kk - 1, by omega⟩
      rw [hdN] at hat
      cases hx : nextB L p with
      | none =>
        have HNX := Aside0.mk (next_none w _ _ A c L p W hW hx)
        rw [hx] at hat
        have HW1 := Aside0.mk hW
        clear hW
        go_wp2_with (first | (go_at_call 29; refine HNX.out.mono ?_; rintro e W' ⟨rfl, rfl⟩))
        go_step3
        change J (.goto 1) _ _
        exact hJ 1 1 _ _ (by omega) ⟨p, _, _, n, HFr.of rfl rfl rfl rfl rfl rfl rfl rfl rfl, HW1.out, HN.out, .inr (.inr (.inr (.inr ⟨rfl, rfl, hat⟩)))⟩
      | some x =>
        have HNX := Aside0.mk (next_some w _ _ A c L p W x hW HC.out hx)
        have HX := Aside0.mk hx
        have HNS := Aside0.mk hnms
        rw [hx] at hat
        simp only at hat
        have HW1 := Aside0.mk (hW.set (p + 1))
        clear hW hx hnms
        generalize hW3 : W.setCell ⟨w.heap.size + 1, 0, none⟩ (.int .i64 ((p + 1 : Nat) : Int)) = W3 at HNX HW1
        clear hW3
        have HNM := Aside0.mk (frame_named.calls x (nmI x) W3 (named_f x))
        cases hnm : nmI x with
        | true =>
          rw [if_pos hnm] at hat
          rw [hnm] at HNM
          go_wp2_with (first | (go_at_call 29; refine HNX.out.mono ?_; rintro e W' ⟨rfl, rfl⟩) | (go_at_call 30; refine HNM.out.mono ?_; rintro e W' ⟨rfl, hd⟩; have HD := Aside0.mk hd; clear hd))
          go_step3
          change J (.goto 3) _ _
          have hl2 := next_lt HX.out
          exact hJ (kk + 3) 3 _ _ (by omega) ⟨p + 1, _, _, n, HFr.of rfl rfl rfl rfl rfl rfl rfl rfl rfl, HW1.out.below HD.out.below, HN.out, .inr (.inl ⟨rfl, by omega, name, value, kk, rfl, by omega, rfl, by omega, by omega, nm_next HX.out hnm (by omega) HNS.out, hat⟩)⟩
        | false =>
          rw [if_neg (by rw [hnm]; simp)] at hat
          rw [hnm] at HNM
          by_cases h58 : x = 58
          · subst h58
            rw [if_neg (by simp)] at hat
            go_wp2_with (first | (go_at_call 29; refine HNX.out.mono ?_; rintro e W' ⟨rfl, rfl⟩) | (go_at_call 30; refine HNM.out.mono ?_; rintro e W' ⟨rfl, hd⟩; have HW4 := Aside0.mk (HW1.out.below hd.below); have cp4 := HW4.out.cp; clear hd))
            go_step3
            rename_i hK
            refine frame_gen (F := HFr A c L most w.heap.size (w.heap.size + 1) (.int .i64 (name : Int)) (.int .i64 ((p + 1 : Nat) : Int)) n) (fun t hfr => ?_) (HFr.of rfl rfl rfl rfl rfl rfl rfl rfl rfl)
            have hl2 := next_lt HX.out
            obtain ⟨rest, hf, hr2⟩ := hrest (kk + 3) 4 _ _ (by omega) ⟨p + 1, .int .i64 (name : Int), .int .i64 ((p + 1 : Nat) : Int), n, hfr, HW4.out, HN.out, .inr (.inr (.inl ⟨rfl, by omega, name, p + 1, kk, rfl, by omega, rfl, rfl, by omega, by omega, by omega, HNS.out, hat⟩))⟩
            have hf2 := Option.some.inj hf
            injection hf2 with _ hf3
            subst hf3
            exact hK _ _ hr2
          · have hb1 : (x != 58) = true := bne_iff_ne.2 h58
            rw [if_pos h58] at hat
            subst hat
            go_wp2_with (first | (go_at_call 29; refine HNX.out.mono ?_; rintro e W' ⟨rfl, rfl⟩) | (go_at_call 30; refine HNM.out.mono ?_; rintro e W' ⟨rfl, hd⟩; have HD := Aside0.mk hd; clear hd))
            refine hO _ _ _ (by simp) ?_
            go_ret3
            exact ⟨rfl, below_step HW1.out.bel HD.out.below⟩
    · refine ⟨_, rfl, ?_⟩
      obtain ⟨hp, name, value, kk, rfl, hsum, rfl, rfl, hnv, hvp, hpl, hnms, hat⟩ := hat
      obtain ⟨kk, rfl⟩ : ∃ kk', kk = kk' + 1 := ⟨kk - 1, by omega⟩
      rw [hdN] at hat
      cases hx : nextB L p with
      | none =>
        have HNX := Aside0.mk (next_none w _ _ A c L p W hW hx)
        rw [hx] at hat
        have HW1 := Aside0.mk hW
        clear hW
        go_wp2_with (first | (go_at_call 29; refine HNX.out.mono ?_; rintro e W' ⟨rfl, rfl⟩))
        go_step3
        change J (.goto 1) _ _
        exact hJ 1 1 _ _ (by omega) ⟨p, _, _, n, HFr.of rfl rfl rfl rfl rfl rfl rfl rfl rfl, HW1.out, HN.out, .inr (.inr (.inr (.inr ⟨rfl, rfl, hat⟩)))⟩
      | some x =>
        have HNX := Aside0.mk (next_some w _ _ A c L p W x hW HC.out hx)
        have HX := Aside0.mk hx
        have HNS := Aside0.mk hnms
        rw [hx] at hat
        simp only at hat
        have HW1 := Aside0.mk (hW.set (p + 1))
        clear hW hx hnms
        generalize hW3 : W.setCell ⟨w.heap.size + 1, 0, none⟩ (.int .i64 ((p + 1 : Nat) : Int)) = W3 at HNX HW1
        clear hW3
        have HNM := Aside0.mk (frame_valued.calls x (vlI x) W3 (valued_f x))
        have hl2 := next_lt HX.out
        cases hnm : vlI x with
        | true =>
          rw [if_pos hnm] at hat
          rw [hnm] at HNM
          go_wp2_with (first | (go_at_call 29; refine HNX.out.mono ?_; rintro e W' ⟨rfl, rfl⟩) | (go_at_call 31; refine HNM.out.mono ?_; rintro e W' ⟨rfl, hd⟩; have HD := Aside0.mk hd; clear hd))
          go_step3
          change J (.goto 4) _ _
          exact hJ (kk + 3) 4 _ _ (by omega) ⟨p + 1, _, _, n, HFr.of rfl rfl rfl rfl rfl rfl rfl rfl rfl, HW1.out.below HD.out.below, HN.out, .inr (.inr (.inl ⟨rfl, by omega, name, value, kk, rfl, by omega, rfl, rfl, by omega, by omega, by omega, HNS.out, hat⟩))⟩
        | false =>
          rw [if_neg (by rw [hnm]; simp)] at hat
          rw [hnm] at HNM
          by_cases h13 : x = 13
          · subst h13
            rw [if_neg (by simp)] at hat
            cases hx2 : nextB L (p + 1) with
            | none =>
              rw [hx2] at hat
              go_wp2_with (first | (go_at_call 29; refine HNX.out.mono ?_; rintro e W' ⟨rfl, rfl⟩) | (go_at_call 31; refine HNM.out.mono ?_; rintro e W4 ⟨rfl, hd⟩; have HW4 := Aside0.mk (HW1.out.below hd.below); have HNX2 := Aside0.mk (next_none w _ _ A c L (p + 1) W4 HW4.out hx2); clear hd HNX) | (go_at_call 29; refine HNX2.out.mono ?_; rintro e W' ⟨rfl, rfl⟩))
              go_step3
              change J (.goto 1) _ _
              exact hJ 1 1 _ _ (by omega) ⟨p + 1, _, _, n, HFr.of rfl rfl rfl rfl rfl rfl rfl rfl rfl, HW4.out, HN.out, .inr (.inr (.inr (.inr ⟨rfl, rfl, hat⟩)))⟩
            | some d =>
              rw [hx2] at hat
              simp only at hat
              have HX2 := Aside0.mk hx2
              have hl3 := next_lt HX2.out
              clear hx2
              by_cases h10 : d = 10
              · subst h10
                rw [if_neg (by simp)] at hat
                obtain ⟨A1, hcut1, hC1, hA1⟩ := cut_L A c L name (value - 1) ((value : Int) - 1) (by omega) (by omega) (by omega) HCC.out
                obtain ⟨S1, hS1⟩ : ∃ S, (L.take (value - 1)).drop name = S := ⟨_, rfl⟩
                rw [hS1] at hcut1 hC1 hat HNS
                have hS1l : S1.length ≤ 1073741824 := by rw [← hS1, List.length_drop, List.length_take]; have := HL.out; omega
                have HSL := Aside0.mk hS1l
                clear hS1 hA1 hS1l
                have HC1 := Aside0.mk hC1
                clear hC1
                obtain ⟨A2, hcut2, hC2, hA2⟩ := cut_L A c L value p ((p : Int) + 1 + 1 - 2) (by omega) (by omega) (by omega) HCC.out
                obtain ⟨S2, hS2⟩ : ∃ S, (L.take p).drop value = S := ⟨_, rfl⟩
                rw [hS2] at hcut2 hC2 hA2 hat
                have HS2 := Aside0.mk (And.intro (show Bytes S2 by rw [← hS2]; exact fun y hy => HBY.out y (List.mem_of_mem_take (List.mem_of_mem_drop hy))) (And.intro (show S2.length ≤ c - value by rw [← hS2, List.length_drop, List.length_take]; have := HCC.out; omega) (hA2 HA.out)))
                have HC2 := Aside0.mk hC2
                clear hS2 hA2 hC2
                have kc := fun (W : World) (C : Array Value) (n c : Nat) => Lib.run_convert_bytes_const (P := Tryd.prog) W 22 5 C n c Tryd.underlying22 Tryd.underlying5
                go_wp2_with (first | (go_at_call 29; refine HNX.out.mono ?_; rintro e W' ⟨rfl, rfl⟩) | (go_at_call 31; refine HNM.out.mono ?_; rintro e W4 ⟨rfl, hd⟩; have HW4 := Aside0.mk (HW1.out.below hd.below); have HNX2 := Aside0.mk (next_some w _ _ A c L (p + 1) W4 10 HW4.out HC.out HX2.out); have HW5 := Aside0.mk (HW4.out.set (p + 1 + 1)); generalize W4.setCell ⟨w.heap.size + 1, 0, none⟩ (.int .i64 ((p + 1 + 1 : Nat) : Int)) = W5 at HNX2 HW5; clear hd HNX) | (go_at_call 29; refine HNX2.out.mono ?_; rintro e W' ⟨rfl, rfl⟩; have cb5 := HW5.out.cb; have cp5 := HW5.out.cp))
                refine (bytes_EqualFold.calls A1 _ _ _ S1 clen _ (Kd.C_alloc (HC1.out _ (Kd.C_below HC.out HW5.out.bel)) _) (clen_C _) (nm_asc HNS.out) (by unfold Asc; decide) HSL.out).mono ?_
                rintro e W6 ⟨rfl, hW6⟩
                have HW6 := Aside0.mk (show HW w w.heap.size (w.heap.size + 1) A c L (p + 1 + 1) W6 by rw [hW6]; exact HW5.out.below (below_alloc (Below.refl _ _) _))
                clear hW6 HW5 cb5 cp5
                have cb6 := HW6.out.cb
                have cp6 := HW6.out.cp
                cases heq : eqF S1 clen with
                | false =>
                  rw [if_neg (by rw [heq]; simp)] at hat
                  go_wp2
                  go_step3
                  change J (.goto 0) _ _
                  exact hJ (kk + 3) 0 _ _ (by omega) ⟨p + 1 + 1, _, _, n, HFr.of rfl rfl rfl rfl rfl rfl rfl rfl rfl, HW6.out, HN.out, .inl ⟨rfl, by omega, name, value, kk, rfl, by omega, hat⟩⟩
                | true =>
                  rw [if_pos heq] at hat
                  by_cases hn0 : 0 ≤ n
                  · have hb1 : decide (0 ≤ n) = true := decide_eq_true hn0
                    rw [if_pos hn0] at hat
                    subst hat
                    go_wp2
                    refine hO _ _ _ (by simp) ?_
                    go_ret3
                    exact ⟨rfl, HW6.out.bel⟩
                  have hb1 : decide (0 ≤ n) = false := decide_eq_false hn0
                  rw [if_neg hn0] at hat
                  have HLEN := Aside0.mk (length_calls A2 (c - value) S2 W6 (HC2.out _ (Kd.C_below HC.out HW6.out.bel)) HS2.out.2.1 (by have := HCM.out; omega) HS2.out.2.2 HS2.out.1)
                  obtain ⟨m, hm⟩ : ∃ m, lengthL S2 = m := ⟨_, rfl⟩
                  have hmb : -1 ≤ m := by
                    rw [← hm]
                    unfold lengthL
                    split
                    · omega
                    · exact numL_bound _ _ (by omega)
                  rw [hm] at hat HLEN
                  clear hm
                  by_cases hneg : m < 0
                  · have hb2 : decide (m < 0) = true := decide_eq_true hneg
                    rw [if_pos (Or.inl hneg)] at hat
                    subst hat
                    go_wp2_with (first | (go_at_call 33; refine HLEN.out.mono ?_; rintro e W7 ⟨rfl, hb7⟩; have HB7 := Aside0.mk (below_step HW6.out.bel hb7); clear hb7))
                    refine hO _ _ _ (by simp) ?_
                    go_ret3
                    exact ⟨rfl, HB7.out⟩
                  have hb2 : decide (m < 0) = false := decide_eq_false hneg
                  by_cases hbig : most < m
                  · have hb3 : decide (most < m) = true := decide_eq_true hbig
                    rw [if_pos (Or.inr hbig)] at hat
                    subst hat
                    go_wp2_with (first | (go_at_call 33; refine HLEN.out.mono ?_; rintro e W7 ⟨rfl, hb7⟩; have HB7 := Aside0.mk (below_step HW6.out.bel hb7); clear hb7))
                    refine hO _ _ _ (by simp) ?_
                    go_ret3
                    exact ⟨rfl, HB7.out⟩
                  have hb3 : decide (most < m) = false := decide_eq_false hbig
                  rw [if_neg (by omega)] at hat
                  go_wp2_with (first | (go_at_call 33; refine HLEN.out.mono ?_; rintro e W7 ⟨rfl, hb7⟩; have HW7 := Aside0.mk (HW6.out.below hb7); clear hb7))
                  go_step3
                  change J (.goto 0) _ _
                  have hmm := HM.out
                  exact hJ (kk + 3) 0 _ _ (by omega) ⟨p + 1 + 1, _, _, m, HFr.of rfl rfl rfl rfl rfl rfl rfl rfl rfl, HW7.out, ⟨by omega, by omega⟩, .inl ⟨rfl, by omega, name, value, kk, rfl, by omega, hat⟩⟩
              · have hb1 : (d != 10) = true := bne_iff_ne.2 h10
                rw [if_pos h10] at hat
                subst hat
                go_wp2_with (first | (go_at_call 29; refine HNX.out.mono ?_; rintro e W' ⟨rfl, rfl⟩) | (go_at_call 31; refine HNM.out.mono ?_; rintro e W4 ⟨rfl, hd⟩; have HW4 := Aside0.mk (HW1.out.below hd.below); have HNX2 := Aside0.mk (next_some w _ _ A c L (p + 1) W4 d HW4.out HC.out HX2.out); have HW5 := Aside0.mk (HW4.out.set (p + 1 + 1)); generalize W4.setCell ⟨w.heap.size + 1, 0, none⟩ (.int .i64 ((p + 1 + 1 : Nat) : Int)) = W5 at HNX2 HW5; clear hd HNX) | (go_at_call 29; refine HNX2.out.mono ?_; rintro e W' ⟨rfl, rfl⟩))
                refine hO _ _ _ (by simp) ?_
                go_ret3
                exact ⟨rfl, HW5.out.bel⟩
          · have hb1 : (x != 13) = true := bne_iff_ne.2 h13
            rw [if_pos h13] at hat
            subst hat
            go_wp2_with (first | (go_at_call 29; refine HNX.out.mono ?_; rintro e W' ⟨rfl, rfl⟩) | (go_at_call 31; refine HNM.out.mono ?_; rintro e W' ⟨rfl, hd⟩; have HD := Aside0.mk hd; clear hd))
            refine hO _ _ _ (by simp) ?_
            go_ret3
            exact ⟨rfl, below_step HW1.out.bel HD.out.below⟩
    · refine ⟨_, rfl, ?_⟩
      obtain ⟨rfl, hp, hat⟩ := hat
      unfold endL at hat
      cases hx : nextB L p with
      | none =>
        have HNX := Aside0.mk (next_none w _ _ A c L p W hW hx)
        rw [hx] at hat
        have HW1 := Aside0.mk hW
        clear hW
        go_wp2_with (first | (go_at_call 29; refine HNX.out.mono ?_; rintro e W' ⟨rfl, rfl⟩))
        go_step3
        change J (.goto 1) _ _
        exact hJ 1 1 _ _ (by omega) ⟨p, _, _, n, HFr.of rfl rfl rfl rfl rfl rfl rfl rfl rfl, HW1.out, HN.out, .inr (.inr (.inr (.inr ⟨rfl, rfl, hat⟩)))⟩
      | some x =>
        have HNX := Aside0.mk (next_some w _ _ A c L p W x hW HC.out hx)
        rw [hx] at hat
        simp only at hat
        have hW2 := hW.set (p + 1)
        have cp2 := hW2.cp
        have HW1 := Aside0.mk hW2
        clear hW hW2
        generalize hW3 : W.setCell ⟨w.heap.size + 1, 0, none⟩ (.int .i64 ((p + 1 : Nat) : Int)) = W3 at HNX cp2 HW1
        have hq : (((p + 1 : Nat) : Int)) = (p : Int) + 1 := by omega
        rw [hq] at cp2
        clear hW3
        by_cases h10 : x = 10
        · subst h10
          by_cases hneg : n < 0
          · have hb1 : decide (n < 0) = true := decide_eq_true hneg
            rw [if_pos (Or.inr hneg)] at hat
            subst hat
            go_wp2_with (first | (go_at_call 29; refine HNX.out.mono ?_; rintro e W' ⟨rfl, rfl⟩))
            refine hO _ _ _ (by simp) ?_
            go_ret3
            exact ⟨rfl, HW1.out.bel⟩
          · have hb1 : decide (n < 0) = false := decide_eq_false hneg
            rw [if_neg (by omega)] at hat
            subst hat
            go_wp2_with (first | (go_at_call 29; refine HNX.out.mono ?_; rintro e W' ⟨rfl, rfl⟩))
            refine hO _ _ _ (by simp) ?_
            go_ret3
            exact ⟨rfl, HW1.out.bel⟩
        · have hb1 : (x != 10) = true := bne_iff_ne.2 h10
          have hb2 : (x == 10) = false := beq_eq_false_iff_ne.2 h10
          rw [if_pos (Or.inl h10)] at hat
          subst hat
          go_wp2_with (first | (go_at_call 29; refine HNX.out.mono ?_; rintro e W' ⟨rfl, rfl⟩))
          refine hO _ _ _ (by simp) ?_
          go_ret3
          exact ⟨rfl, HW1.out.bel⟩
    · refine ⟨_, rfl, ?_⟩
      obtain ⟨rfl, hat⟩ := hat
      have cb := hW.cb
      unfold outL at hat
      have HB := Aside0.mk hW.bel
      clear hW
      by_cases h4 : 4096 < L.length
      · have hb1 : decide ((4096 : Int) < (L.length : Int)) = true := decide_eq_true (by omega)
        rw [if_pos h4] at hat
        subst hat
        go_wp2
        refine hO _ _ _ (by simp) ?_
        go_ret3
        exact ⟨rfl, HB.out⟩
      · have hb1 : decide ((4096 : Int) < (L.length : Int)) = false := decide_eq_false (by omega)
        rw [if_neg h4] at hat
        subst hat
        go_wp2
        refine hO _ _ _ (by simp) ?_
        go_ret3
        exact ⟨rfl, HB.out⟩
  intro J hJ hrest hO
  go_wp2
  go_step3
  rename_i hK
  refine frame_gen (F := HFr A c L most w.heap.size (w.heap.size + 1) (.int .i64 0) (.int .i64 0) (-1)) (fun t hfr => ?_) (HFr.of rfl rfl rfl rfl rfl rfl rfl rfl rfl)
  obtain ⟨rest, hf, hr2⟩ := hrest 20003 0 _ _ (by omega) ⟨0, .int .i64 0, .int .i64 0, -1, hfr, HW.start w A c L, ⟨by omega, by omega⟩, .inl ⟨rfl, by omega, 0, 0, 20000, rfl, by omega, HR.out⟩⟩
  have hf2 := Option.some.inj hf
  injection hf2 with _ hf3
  subst hf3
  exact hK _ _ hr2
end Go.Proofs.YtgdiilpocoimgaaDoor.Hand
