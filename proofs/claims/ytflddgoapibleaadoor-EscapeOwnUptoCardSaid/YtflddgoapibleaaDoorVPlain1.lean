/- Contracts and laws, those that ZOwn needs. -/
import Derived.Test.YtflddgoapibleaaDoorVWalk1
import Derived.Test.YtflddgoapibleaaDoorVWalk2
import Derived.Test.YtflddgoapibleaaDoorRows
import Derived.ProofKit
import Derived.LaidMore
import Derived.OpenShut
import Derived.Lib.LaidTab
import Derived.Deep.Strs
import Derived.WalkKit
import Derived.ShutString
import Derived.ChangeOld
import Derived.Below
import Derived.SizedLaws
import Derived.Deep.DeepHandedRow
import Derived.Deep.DeepWitnessRowRef
set_option linter.unusedVariables false
set_option linter.unusedSimpArgs false
namespace Go.Proofs.YtflddgoapibleaaDoor.Hand
open Go.RowKit Go.Proofs.YtflddgoapibleaaDoorW.PrintWords Go.Proofs.YtflddgoapibleaaDoorW.PrintLast Go.Proofs.YtflddgoapibleaaDoorW.PrintMore
def Rune (r : Int) : Prop := (0 ≤ r ∧ r < 55296) ∨ (57344 ≤ r ∧ r ≤ 1114111)
theorem enc1 (r : Int) (h : 0 ≤ r ∧ r < 128) : enc r = [r] := by
  unfold enc; simp only [if_pos (show (0 ≤ r ∧ r < 55296) ∨ (57344 ≤ r ∧ r ≤ 1114111) by omega)]; rw [if_pos h.2]
theorem enc2 (r : Int) (h : 128 ≤ r ∧ r < 2048) : enc r = [192 + r / 64, 128 + r % 64] := by
  unfold enc; simp only [if_pos (show (0 ≤ r ∧ r < 55296) ∨ (57344 ≤ r ∧ r ≤ 1114111) by omega)]
  rw [if_neg (show ¬ r < 128 by omega), if_pos h.2]
theorem enc3 (r : Int) (h : 2048 ≤ r ∧ r < 65536) (hr : Rune r) : enc r = [224 + r / 4096, 128 + r / 64 % 64, 128 + r % 64] := by
  unfold Rune at hr
  unfold enc; simp only [if_pos hr]
  rw [if_neg (show ¬ r < 128 by omega), if_neg (show ¬ r < 2048 by omega), if_pos h.2]
theorem enc4 (r : Int) (h : 65536 ≤ r) (hr : Rune r) : enc r = [240 + r / 262144, 128 + r / 4096 % 64, 128 + r / 64 % 64, 128 + r % 64] := by
  unfold Rune at hr
  unfold enc; simp only [if_pos hr]
  rw [if_neg (show ¬ r < 128 by omega), if_neg (show ¬ r < 2048 by omega), if_neg (show ¬ r < 65536 by omega)]
theorem take_two (l : List Int) (h0 : 0 ≤ l.getD 0 (-1)) (h1 : 0 ≤ l.getD 1 (-1)) : ∃ t, l = l.getD 0 (-1) :: l.getD 1 (-1) :: t := by
  match l with
  | [] => simp at h0
  | [a] => simp at h1
  | a :: b :: t => exact ⟨t, rfl⟩
theorem take_three (l : List Int) (h0 : 0 ≤ l.getD 0 (-1)) (h1 : 0 ≤ l.getD 1 (-1)) (h2 : 0 ≤ l.getD 2 (-1)) : ∃ t, l = l.getD 0 (-1) :: l.getD 1 (-1) :: l.getD 2 (-1) :: t := by
  match l with
  | [] => simp at h0
  | [a] => simp at h1
  | [a, b] => simp at h2
  | a :: b :: c :: t => exact ⟨t, rfl⟩
theorem take_four (l : List Int) (h0 : 0 ≤ l.getD 0 (-1)) (h1 : 0 ≤ l.getD 1 (-1)) (h2 : 0 ≤ l.getD 2 (-1)) (h3 : 0 ≤ l.getD 3 (-1)) : ∃ t, l = l.getD 0 (-1) :: l.getD 1 (-1) :: l.getD 2 (-1) :: l.getD 3 (-1) :: t := by
  match l with
  | [] => simp at h0
  | [a] => simp at h1
  | [a, b] => simp at h2
  | [a, b, c] => simp at h3
  | a :: b :: c :: d :: t => exact ⟨t, rfl⟩
theorem cont_range (x : Int) : cont x = true ↔ 128 ≤ x ∧ x ≤ 191 := by unfold cont; simp
theorem dec_cases (l : List Int) (h0 : 0 ≤ l.getD 0 (-1)) :
    (l.getD 0 (-1) < 128 ∧ dec l = (l.getD 0 (-1), 1)) ∨ (128 ≤ l.getD 0 (-1) ∧ dec l = (65533, 1)) ∨
    (∃ r t, Rune r ∧ 128 ≤ r ∧ l = enc r ++ t ∧ dec l = (r, (enc r).length)) := by
  by_cases e1 : l.getD 0 (-1) < 128
  · exact .inl ⟨e1, by rw [dec_eq4]; unfold dec4; rw [if_pos e1]⟩
  refine .inr ?_
  by_cases e2 : 194 ≤ l.getD 0 (-1) ∧ l.getD 0 (-1) ≤ 223 ∧ cont (l.getD 1 (-1)) = true
  · refine .inr ?_
    have hd : dec l = ((l.getD 0 (-1) - 192) * 64 + (l.getD 1 (-1) - 128), 2) := by rw [dec_eq4]; unfold dec4; rw [if_neg e1, if_pos e2]
    obtain ⟨x1, x2, x3⟩ := e2
    rw [cont_range] at x3
    obtain ⟨t, ht⟩ := take_two l h0 (by omega)
    generalize l.getD 0 (-1) = a at *
    generalize l.getD 1 (-1) = b at *
    have he := enc2 ((a - 192) * 64 + (b - 128)) (by omega)
    have he2 : enc ((a - 192) * 64 + (b - 128)) = [a, b] := by
      rw [he]; simp only [List.cons.injEq, and_true]; omega
    refine ⟨(a - 192) * 64 + (b - 128), t, .inl (by omega), by omega, ?_, ?_⟩
    · rw [he2]; exact ht
    · rw [he2]; exact hd
  by_cases e3 : 224 ≤ l.getD 0 (-1) ∧ l.getD 0 (-1) ≤ 239 ∧ cont (l.getD 1 (-1)) = true ∧ cont (l.getD 2 (-1)) = true ∧ second (l.getD 0 (-1)) (l.getD 1 (-1)) = true
  · refine .inr ?_
    have hd : dec l = ((l.getD 0 (-1) - 224) * 4096 + (l.getD 1 (-1) - 128) * 64 + (l.getD 2 (-1) - 128), 3) := by rw [dec_eq4]; unfold dec4; rw [if_neg e1, if_neg e2, if_pos e3]
    obtain ⟨x1, x2, x3, x4, x5⟩ := e3
    rw [cont_range] at x3 x4
    unfold second at x5; simp only [decide_eq_true_eq] at x5
    obtain ⟨t, ht⟩ := take_three l h0 (by omega) (by omega)
    clear e1 e2
    generalize l.getD 0 (-1) = a at *
    generalize l.getD 1 (-1) = b at *
    generalize l.getD 2 (-1) = c at *
    have hr : Rune ((a - 224) * 4096 + (b - 128) * 64 + (c - 128)) := by unfold Rune; omega
    have he := enc3 ((a - 224) * 4096 + (b - 128) * 64 + (c - 128)) (by omega) hr
    have he2 : enc ((a - 224) * 4096 + (b - 128) * 64 + (c - 128)) = [a, b, c] := by
      rw [he]; simp only [List.cons.injEq, and_true]; omega
    refine ⟨_, t, hr, by omega, ?_, ?_⟩
    · rw [he2]; exact ht
    · rw [he2]; exact hd
  by_cases e4 : 240 ≤ l.getD 0 (-1) ∧ l.getD 0 (-1) ≤ 244 ∧ cont (l.getD 1 (-1)) = true ∧ cont (l.getD 2 (-1)) = true ∧ cont (l.getD 3 (-1)) = true ∧ second (l.getD 0 (-1)) (l.getD 1 (-1)) = true
  · refine .inr ?_
    have hd : dec l = ((l.getD 0 (-1) - 240) * 262144 + (l.getD 1 (-1) - 128) * 4096 + (l.getD 2 (-1) - 128) * 64 + (l.getD 3 (-1) - 128), 4) := by rw [dec_eq4]; unfold dec4; rw [if_neg e1, if_neg e2, if_neg e3, if_pos e4]
    obtain ⟨x1, x2, x3, x4, x5, x6⟩ := e4
    rw [cont_range] at x3 x4 x5
    unfold second at x6; simp only [decide_eq_true_eq] at x6
    obtain ⟨t, ht⟩ := take_four l h0 (by omega) (by omega) (by omega)
    clear e1 e2 e3
    generalize l.getD 0 (-1) = a at *
    generalize l.getD 1 (-1) = b at *
    generalize l.getD 2 (-1) = c at *
    generalize l.getD 3 (-1) = d at *
    have hr : Rune ((a - 240) * 262144 + (b - 128) * 4096 + (c - 128) * 64 + (d - 128)) := by unfold Rune; omega
    have he := enc4 ((a - 240) * 262144 + (b - 128) * 4096 + (c - 128) * 64 + (d - 128)) (by omega) hr
    have he2 : enc ((a - 240) * 262144 + (b - 128) * 4096 + (c - 128) * 64 + (d - 128)) = [a, b, c, d] := by
      rw [he]; simp only [List.cons.injEq, and_true]; omega
    refine ⟨_, t, hr, by omega, ?_, ?_⟩
    · rw [he2]; exact ht
    · rw [he2]; exact hd
  · exact .inl ⟨by omega, by rw [dec_eq4]; unfold dec4; rw [if_neg e1, if_neg e2, if_neg e3, if_neg e4]⟩
theorem dec_enc (r : Int) (hr : Rune r) (t : List Int) : dec (enc r ++ t) = (r, (enc r).length) := by
  have hr' := hr
  unfold Rune at hr'
  have hs : ∀ a b, second a b = true ↔ ((a = 224 → 160 ≤ b) ∧ (a = 237 → b ≤ 159) ∧ (a = 240 → 144 ≤ b) ∧ (a = 244 → b ≤ 143)) := fun a b => by unfold second; rw [decide_eq_true_eq]
  rw [dec_eq4]; unfold dec4
  by_cases e1 : r < 128
  · rw [enc1 r (by omega)]
    show (if r < 128 then (r, 1) else _) = _
    rw [if_pos e1]; rfl
  by_cases e2 : r < 2048
  · rw [enc2 r (by omega)]
    simp only [List.cons_append, List.nil_append, List.getD_cons_zero, List.getD_cons_succ, cont_range, hs]
    rw [if_neg (by omega), if_pos (by omega)]
    simp; omega
  by_cases e3 : r < 65536
  · rw [enc3 r (by omega) hr]
    simp only [List.cons_append, List.nil_append, List.getD_cons_zero, List.getD_cons_succ, cont_range, hs]
    rw [if_neg (by omega), if_neg (by omega), if_pos (by omega)]
    simp; omega
  · rw [enc4 r (by omega) hr]
    simp only [List.cons_append, List.nil_append, List.getD_cons_zero, List.getD_cons_succ, cont_range, hs]
    rw [if_neg (by omega), if_neg (by omega), if_neg (by omega), if_pos (by omega)]
    simp; omega
end Go.Proofs.YtflddgoapibleaaDoor.Hand

namespace Go.Proofs.YtflddgoapibleaaDoor.Hand
open Go.RowKit Go.Proofs.YtflddgoapibleaaDoor.Esc Go.Proofs.YtflddgoapibleaaDoorW.PrintWords Go.Proofs.YtflddgoapibleaaDoorW.PrintLast Go.Proofs.YtflddgoapibleaaDoorW.PrintMore
theorem head_byte (l : List Int) (hb : Bytes l) (h : 0 < l.length) : 0 ≤ l.getD 0 (-1) ∧ l.getD 0 (-1) ≤ 255 := by
  cases l with
  | nil => simp at h
  | cons a t => exact hb a List.mem_cons_self
theorem pc_len (l : List Int) : (pc l).length ≤ 12 := by
  unfold pc
  have hl : ∀ x, (hexN 8 x).length ≤ 8 := fun x => by
    have key : ∀ (k : Nat) (x : Int), (hexN k x).length ≤ k := by
      intro k
      induction k with
      | zero => intro x; simp [hexN]
      | succ k ih => intro x; rw [hexN]; split <;> simp; exact ih _
    exact key 8 x
  have := hl (dec l).1
  simp only
  repeat' split
  all_goals simp
  omega
theorem steps_ind {P : List Int → Prop} (h0 : P []) (h1 : ∀ l, 0 < l.length → P (l.drop (dec l).2) → P l) : ∀ l, P l := by
  have key : ∀ (n : Nat) l, l.length ≤ n → P l := by
    intro n
    induction n with
    | zero => intro l hl; obtain rfl := List.eq_nil_of_length_eq_zero (by omega : l.length = 0); exact h0
    | succ n ih =>
      intro l hl
      rcases Nat.eq_zero_or_pos l.length with h | h
      · obtain rfl := List.eq_nil_of_length_eq_zero h; exact h0
      · have := dec_pos l
        exact h1 l h (ih _ (by rw [List.length_drop]; omega))
  exact fun l => key l.length l (Nat.le_refl _)
theorem str_append (a b : List Int) : strOfNums a ++ strOfNums b = strOfNums (a ++ b) := by
  apply ByteArray.ext
  rw [ByteArray.data_append]
  unfold strOfNums
  simp
theorem own_f (l : List Int) (h : l.length ≤ 1073741824) : galleylaw23_own.f l = some l := by
  unfold galleylaw23_own.f
  simp only [Option.bind_some]
  rw [if_pos (by simp; omega)]; rfl
def hexL (l : List Int) : List Int := l.flatMap fun x => [hexDigit (x / 16), hexDigit (x % 16)]
theorem hexL_cons (a : Int) (l : List Int) : hexL (a :: l) = hexDigit (a / 16) :: hexDigit (a % 16) :: hexL l := rfl
theorem w64 (x : Int) (h0 : -9223372036854775808 ≤ x) (h1 : x ≤ 9223372036854775807) : wrap64 x = x := by
  unfold wrap64; omega
theorem hex_loop : ∀ (n k i : Nat) (D l : List Int), Bytes l → l.length ≤ 1073741824 → i + n = l.length → n < k → D.length ≤ 2 * i →
    escape_Hex.l0 k D l (l.length : Int) (i : Int) = some (strOfNums (D ++ hexL (l.drop i))) := by
  intro n
  induction n with
  | zero =>
    intro k i D l hb hl hi hk hD
    obtain ⟨k, rfl⟩ : ∃ k', k = k' + 1 := ⟨k - 1, by omega⟩
    rw [escape_Hex.l0, if_neg (by omega), List.drop_eq_nil_of_le (by omega)]
    simp [hexL]
  | succ n ih =>
    intro k i D l hb hl hi hk hD
    obtain ⟨k, rfl⟩ : ∃ k', k = k' + 1 := ⟨k - 1, by omega⟩
    have hlt : i < l.length := by omega
    have hx := hb (l[i]) (List.getElem_mem hlt)
    have hrd : rd l (i : Int) = l[i] := by
      unfold rd; rw [show ((i : Int)).toNat = i by omega, List.getD_eq_getElem?_getD, List.getElem?_eq_getElem hlt]; rfl
    rw [escape_Hex.l0, hrd, u8_and15 _ hx.1 (by omega), if_pos (by omega), if_pos (by omega), if_pos (by omega), if_pos (by omega), if_pos (by omega), if_pos (by omega), if_pos (by omega)]
    simp only [Option.bind_some]
    rw [hex16 _ (by omega) (by omega), hex16 _ (by omega) (by omega), if_pos (by simp; omega), w64 _ (by omega) (by omega)]
    have h1 := ih k (i + 1) (D ++ [hexDigit (l[i] / 16), hexDigit (l[i] % 16)]) l hb hl (by omega) (by omega) (by simp; omega)
    rw [show ((i : Int) + 1) = ((i + 1 : Nat) : Int) by omega, h1, List.append_assoc, List.drop_eq_getElem_cons hlt, hexL_cons]
    rfl
theorem hex_f (k : Nat) (l : List Int) (hb : Bytes l) (hl : l.length ≤ 1073741824) (hk : l.length < k) : escape_Hex.f k l = some (strOfNums (hexL l)) := by
  have := hex_loop l.length k 0 [] l hb hl (by omega) hk (by simp)
  unfold escape_Hex.f
  simpa using this
end Go.Proofs.YtflddgoapibleaaDoor.Hand

namespace Go.Proofs.YtflddgoapibleaaDoor.Hand
open Go.ChangeShapes Go.WideShapes Go.ChangeAt Go.WideMaps Go.WideElems Go.RowKit
theorem gSpans : Tryd.prog.globalNamed "galley/octet.spans" = some 2 := by kernel_rfl
theorem gNeeds : Tryd.prog.globalNamed "galley/octet.needs" = some 1 := by kernel_rfl
theorem gShort : Tryd.prog.globalNamed "galley/escape.short" = some 0 := by kernel_rfl
theorem g64 : Tryd.prog.globalNamed "math/bits.deBruijn64tab" = some 6 := by kernel_rfl
theorem tSpans : (Tryd.prog.globals[2]?).map (·.type) = some 88 := by kernel_rfl
theorem tNeeds : (Tryd.prog.globals[1]?).map (·.type) = some 74 := by kernel_rfl
theorem tShort : (Tryd.prog.globals[0]?).map (·.type) = some 39 := by kernel_rfl
theorem t64 : (Tryd.prog.globals[6]?).map (·.type) = some 99 := by kernel_rfl
theorem block_of_var {P : Program} {w : World} {n : String} {g : Nat} {cs : Array Value} (hg : P.globalNamed n = some g) (h : w.var? P n = some cs) : ∃ t fr, w.heap[g]? = some (.cells cs t fr) := by
  unfold World.var? at h
  rw [hg] at h
  simp only [Option.bind_some] at h
  split at h
  · rename_i c t fr hh; cases h; exact ⟨t, fr, hh⟩
  · cases h
abbrev laidList : List (String × DataW Unit) := [("galley/octet.spans", Rows.laid_galley_octet_spans), ("galley/octet.needs", Rows.laid_galley_octet_needs), ("math/bits.deBruijn32tab", Rows.laid_math_bits_deBruijn32tab), ("math/bits.deBruijn64tab", Rows.laid_math_bits_deBruijn64tab), ("internal/strconv.uint64pow10", Rows.laid_internal_strconv_uint64pow10), ("galley/escape.short", Rows.laid_galley_escape_short)]
section
variable {H : Type} {enc : TypeId × Value → H} {w : World} {base : Nat} {sp : Nat → Bool} {held : Bool}
theorem int_cell {t : TypeId} {fuel : Nat} {cs : List Value} {a : Int} {y : DataW H × List MemPlace} (ht : Tryd.prog.underlying t = some (.int .i64)) (h : DataW.trod enc Tryd.prog w base sp held fuel t cs = some y) (hy : y.1 = .lit (.int .i64 a)) : cs = [.int .i64 a] := by
  obtain ⟨k, e1, e2, _⟩ := DataW.trod_int ht h
  rw [e2] at hy
  simp only [DataW.lit.injEq, Lit.int.injEq, true_and] at hy
  rw [e1, hy]
theorem span_cells {cs : List Value} {fuel : Nat} {a b c : Int} {y : DataW H × List MemPlace}
    (h : DataW.trod enc Tryd.prog w base sp held fuel 87 cs = some y) (hy : y.1 = .agg [.lit (.int .i64 a), .lit (.int .i64 b), .lit (.int .i64 c)]) : cs = [.int .i64 a, .int .i64 b, .int .i64 c] := by
  obtain ⟨y0, y1, y2, n, hx, hl, h0, h1, h2⟩ := Deep.trod_struct3 Tryd.underlying87 h
  have c87 : Tryd.prog.cellsOf 87 = 3 := by kernel_rfl
  have c3 : Tryd.prog.cellsOf 3 = 1 := by kernel_rfl
  have c75 : Tryd.prog.cellsOf 75 = 1 := by kernel_rfl
  rw [hx] at hy
  simp only [DataW.agg.injEq, List.cons.injEq, and_true] at hy
  obtain ⟨e0, e1, e2⟩ := hy
  rw [c87] at hl
  match cs, hl with
  | [x0, x1, x2], _ =>
    rw [c3] at h0 h1
    rw [c75] at h2
    have z0 := int_cell Tryd.underlying3 h0 e0
    have z1 := int_cell Tryd.underlying3 h1 e1
    have z2 := int_cell Tryd.underlying75 h2 e2
    simp at z0 z1 z2
    rw [z0, z1, z2]
theorem chunks (cs : List Value) (h : cs.length = 21) (f : Nat → List Value) (hf : ∀ i, i < 7 → (cs.drop (i * 3)).take 3 = f i) : cs = f 0 ++ f 1 ++ f 2 ++ f 3 ++ f 4 ++ f 5 ++ f 6 := by
  rw [← hf 0 (by decide), ← hf 1 (by decide), ← hf 2 (by decide), ← hf 3 (by decide), ← hf 4 (by decide), ← hf 5 (by decide), ← hf 6 (by decide)]
  match cs, h with
  | [a0, a1, a2, a3, a4, a5, a6, a7, a8, a9, b0, b1, b2, b3, b4, b5, b6, b7, b8, b9, c0], _ => rfl
theorem spans_cells {cs : List Value} {fuel : Nat} {p : List MemPlace}
    (h : DataW.trod enc Tryd.prog w base sp held fuel 88 cs = some (Rows.laid_galley_octet_spans, p)) : cs = spanCells.toList := by
  obtain ⟨xs, m, _, hx, hl, hn, hel⟩ := DataW.trod_array Tryd.underlying88 h
  have c88 : Tryd.prog.cellsOf 88 = 21 := by kernel_rfl
  have c87 : Tryd.prog.cellsOf 87 = 3 := by kernel_rfl
  rw [c88] at hl
  rw [c87] at hel
  have hx1 := congrArg Prod.fst hx
  unfold Rows.laid_galley_octet_spans at hx1
  simp only [DataW.agg.injEq] at hx1
  match xs, hn, hx1, hel with
  | [x0, x1, x2, x3, x4, x5, x6], _, hx1, hel =>
    simp only [List.map_cons, List.map_nil, List.cons.injEq, and_true] at hx1
    obtain ⟨e0, e1, e2, e3, e4, e5, e6⟩ := hx1
    have k0 := span_cells (hel 0 (by decide)) e0.symm
    have k1 := span_cells (hel 1 (by decide)) e1.symm
    have k2 := span_cells (hel 2 (by decide)) e2.symm
    have k3 := span_cells (hel 3 (by decide)) e3.symm
    have k4 := span_cells (hel 4 (by decide)) e4.symm
    have k5 := span_cells (hel 5 (by decide)) e5.symm
    have k6 := span_cells (hel 6 (by decide)) e6.symm
    rw [chunks cs hl (fun i => (cs.drop (i * 3)).take 3) (fun _ _ => rfl)]
    rw [k0, k1, k2, k3, k4, k5, k6]
    rfl
end
theorem globs_of_laid {W : World} (h : laidMetH Tryd.prog laidList W) : Globs W := by
  rw [MakeChecks.laidMetH_plain _ _ _ (by kernel_rfl)] at h
  obtain ⟨ps, ⟨g0, t0, cs0, f0, p0, q0, hg0, ht0, hv0, hd0, ⟨g1, t1, cs1, f1, p1, q1, hg1, ht1, hv1, hd1, ⟨g2, t2, cs2, f2, p2, q2, hg2, ht2, hv2, hd2, ⟨g3, t3, cs3, f3, p3, q3, hg3, ht3, hv3, hd3, ⟨g4, t4, cs4, f4, p4, q4, hg4, ht4, hv4, hd4, ⟨g5, t5, cs5, f5, p5, q5, hg5, ht5, hv5, hd5, _, _⟩, _⟩, _⟩, _⟩, _⟩, _⟩, _, _⟩ := h
  obtain rfl := Option.some.inj (tSpans.symm.trans (Option.some.inj (gSpans.symm.trans hg0) ▸ ht0))
  obtain rfl := Option.some.inj (tNeeds.symm.trans (Option.some.inj (gNeeds.symm.trans hg1) ▸ ht1))
  obtain rfl := Option.some.inj (t64.symm.trans (Option.some.inj (g64.symm.trans hg3) ▸ ht3))
  obtain rfl := Option.some.inj (tShort.symm.trans (Option.some.inj (gShort.symm.trans hg5) ▸ ht5))
  have c5 : Tryd.prog.cellsOf 5 = 1 := by kernel_rfl
  have c3 : Tryd.prog.cellsOf 3 = 1 := by kernel_rfl
  have hs := spans_cells hd0
  have hn := Lib.cells_of_tab (zs := [0, 1, 0, 2, 3, 4, 0]) (k := .i64) Tryd.underlying74 Tryd.underlying3 c3 (by kernel_rfl) hd1
  have h6 := Lib.cells_of_tab (zs := [0, 1, 56, 2, 57, 49, 28, 3, 61, 58, 42, 50, 38, 29, 17, 4, 62, 47, 59, 36, 45, 43, 51, 22, 53, 39, 33, 30, 24, 18, 12, 5, 63, 55, 48, 27, 60, 41, 37, 16, 46, 35, 44, 21, 52, 32, 23, 11, 54, 26, 40, 15, 34, 20, 31, 10, 25, 14, 19, 9, 13, 8, 7, 6]) (k := .u8) Tryd.underlying99 Tryd.underlying5 c5 (by kernel_rfl) hd3
  refine ⟨?_, ?_, ?_, ?_⟩
  · rcases open_map Tryd.underlying39 hd5 with ⟨_, hx⟩ | ⟨bm, es, clock, m, rfl, hcs, hb, _, F, hx⟩
    · cases congrArg Prod.fst hx
    · have hx1 := congrArg Prod.fst hx
      have hcell : W.cell? ⟨0, 0, none⟩ = some (.map (some bm)) := by
        have := World.var?_cell gShort hv5 0
        rw [Array.eq_one_of_toList hcs] at this
        simpa using this
      have ho := Go.World.ownsMap_of_fit (k := 5) (R := Go.plainElem (H := Unit) Tryd.prog 5) hb F (fun x _ z hz => Go.elemAt_plainElem_int Tryd.underlying5 hz)
      have hl := Go.length_read (P := Tryd.prog) (k := 5) (R0 := elemAt (fun _ => ()) Tryd.prog W 0 (fun _ => true) false m 5) es
      refine ⟨bm, hcell, ?_⟩
      have e : DataW.map ((es.toList.map (rg Tryd.prog 5 (elemAt (fun _ => ()) Tryd.prog W 0 (fun _ => true) false m 5))).foldr DataW.insert []) = (DataW.map shortL : DataW Unit) := hx1.symm
      have e4 : es.size = 4 := by
        rw [← hl]
        injection e with e
        rw [e]; rfl
      rw [e, e4] at ho
      exact ho
  · obtain ⟨t, fr, hb⟩ := block_of_var gSpans hv0
    exact ⟨t, fr, by rw [hb, show cs0 = spanCells from Array.toList_inj.1 hs]⟩
  · obtain ⟨t, fr, hb⟩ := block_of_var gNeeds hv1
    exact ⟨t, fr, by rw [hb, show cs1 = needCells from Array.toList_inj.1 hn]⟩
  · have h15 := World.var?_cell g64 hv3 15
    rw [h15, ← Array.getElem?_toList, h6]
    rfl
end Go.Proofs.YtflddgoapibleaaDoor.Hand

namespace Go.Proofs.YtflddgoapibleaaDoor.Hand
open Go.ChangeShapes Go.WideShapes Go.ChangeAt Go.RowKit Go.Proofs.YtflddgoapibleaaDoorW.PrintWords
theorem own : ownKnob Tryd.prog.godebug = none := by kernel_rfl
theorem laidOut : laidOutB Tryd.prog = true := by kernel_rfl
theorem one_le {H : Type} (d : DataW H) : 1 ≤ Rows.uptoBulk d := by
  cases d with
  | lit l => cases l <;> simp [Rows.uptoBulk]
  | nil => simp [Rows.uptoBulk]
  | ptr d => simp [Rows.uptoBulk]
  | slice elems spare => simp [Rows.uptoBulk]
  | agg parts => simp [Rows.uptoBulk]
  | iface t d => simp [Rows.uptoBulk]
  | map entries => simp [Rows.uptoBulk]
  | held h => simp [Rows.uptoBulk]
theorem length_le {H : Type} (l : List (DataW H)) : l.length ≤ Rows.uptoBulkAll l := by
  induction l with
  | nil => simp [Rows.uptoBulkAll]
  | cons x r ih => have := one_le x; simp only [Rows.uptoBulkAll, List.length_cons]; omega
theorem bulk_le {H : Type} {l : List (DataW H)} (hk : Rows.uptoSmall H l = true) : Rows.uptoBulkAll l ≤ 1048576 := of_decide_eq_true hk
theorem string_le {H : Type} (s : ByteArray) : s.size ≤ Rows.uptoBulk (DataW.lit (H := H) (.string s.data.toList)) := by
  simp only [Rows.uptoBulk]
  have e : s.data.toList.length = s.size := by rw [Array.length_toList]; rfl
  omega
theorem bytes_open {H : Type} {enc : TypeId × Value → H} {W : World} {base : Nat} {v : Value} {d : DataW H} {p : List MemPlace} (hv : Value.okWide Tryd.prog W .any base 22 v) (h : DataW.Trod enc Tryd.prog W 0 (fun _ => true) true 22 v d p) :
    ∃ A c l, v = .slice A l.length c ∧ ReadsInt W .u8 A l.length l ∧ l.length ≤ c ∧ Bytes l ∧ l.length ≤ Rows.uptoBulk d := by
  obtain ⟨a0, len0, cap0, rfl⟩ := okWide_slice Tryd.underlying22 hv
  obtain ⟨fuel, hf⟩ := h
  rcases open_ints Tryd.underlying22 Tryd.underlying5 (by kernel_rfl) hf with ⟨hcs, hx⟩ | ⟨x, l, c, zs, hcs, _, hl, hm, hz, hx, hcell, hwz⟩
  · simp [Value.cells] at hcs
    obtain ⟨rfl, rfl, rfl⟩ := hcs
    exact ⟨none, 0, [], rfl, ⟨rfl, by simp, fun h => by simp at h⟩, Nat.le_refl _, fun x hx => by simp at hx, Nat.zero_le _⟩
  · simp [Value.cells] at hcs
    obtain ⟨rfl, rfl, rfl⟩ := hcs
    obtain ⟨l, rfl, hr, _, hw, hc⟩ := ReadsInt.ofRowC (k := .u8) (w := W) (a := some x) (len := len0) (cap := cap0) (zs := zs) (.inr ⟨_, rfl, hl, hm, by simpa using hz, hcell, hwz⟩)
    obtain ⟨hx, _⟩ := Prod.mk.inj hx
    refine ⟨some x, cap0, l, rfl, hr, hc, fun y hy => ?_, ?_⟩
    · have := hw y hy
      simp [Lit.wf, IntKind.min, IntKind.max, IntKind.bits, IntKind.signed] at this
      omega
    · rw [hx]
      simp only [Rows.uptoBulk]
      have h1 := length_le (lits (H := H) .u8 (zs.take l.length))
      have h2 : (lits (H := H) .u8 (zs.take l.length)).length = min l.length zs.length := by simp [lits]
      have h3 : l.length ≤ zs.length := by simp at hz; omega
      omega
end Go.Proofs.YtflddgoapibleaaDoor.Hand
