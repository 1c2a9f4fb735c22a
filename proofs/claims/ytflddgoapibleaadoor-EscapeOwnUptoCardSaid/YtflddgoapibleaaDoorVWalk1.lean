/- Contracts and laws, those that ZOwn needs. -/
import Derived.Test.YtflddgoapibleaaDoorVWMore
import Derived.Test.YtflddgoapibleaaDoorVWWords
import Derived.Test.YtflddgoapibleaaDoorVWLast
import Derived.Test.YtflddgoapibleaaDoorVWTab
import Derived.Test.YtflddgoapibleaaDoorVWApart
import Derived.Test.YtflddgoapibleaaDoorVWFoot
import Derived.Test.YtflddgoapibleaaDoorVWKept
import Derived.Test.YtflddgoapibleaaDoorVWShare
import Derived.Test.YtflddgoapibleaaDoorVWN
import Derived.Test.YtflddgoapibleaaDoorVWRepsOne
import Derived.Test.YtflddgoapibleaaDoorVWInv
import Derived.Test.YtflddgoapibleaaDoorVWGuard
import Derived.Lib.Bytealg
import Derived.Lib.DecodeN
import Derived.Lib.OthersKept
import Derived.Lib.TrimU
import Derived.Test.YtflddgoapibleaaDoorProg
import Derived.Maps.RangeWalk
import Derived.Maps.OwnSet
import Derived.WalkKit
import Derived.KernelRfl
import Derived.Below
import Derived.Deep.Draws
import Derived.Deep.AppendLies
import Derived.Maps.AppendAt
import Derived.OwnWalk
import Derived.Laws.BytesArg
import Derived.Laws.MakeOwn
import Derived.Laws.OwnMore
import Derived.Deep.OwnRows
import Derived.Tactics
import Derived.Lib.ConvBytes
import Derived.Laws.Slices
import Derived.RowKit3
import Derived.Deep.LoopGhost
import Derived.Deep.QuietTactic
import Derived.BigQuiet
import Derived.WideLaws
import Derived.Deep.DeepCutAuto
import Derived.Deep.CutBlock
import Derived.Deep.RegionHeld3
import Derived.Laws.Rows
import Derived.Lib.AppendStr
import Derived.ArgAppend
import Derived.Laws.IdiomCopy
import Derived.OrdersHeld
import Derived.Laws.BitsLemmas
import Derived.RowKit
import Derived.Laws.StructEq
import Derived.LoopN
import Derived.WalkMore
import Derived.ScopeJumps
import Derived.Shelf.Strings.Builder1
import Derived.Shelf.Small.Strs
import Derived.Shelf.Strings.BuilderF
import Derived.Shelf.Strings.BuilderK
import Derived.Shelf.Strings.BuilderRune
import Derived.Shelf.LaysM
import Derived.Shelf.Strings.Search1
set_option linter.unusedVariables false
set_option linter.unusedSimpArgs false
namespace Go.Proofs.YtflddgoapibleaaDoor.Hand
open Go.RowKit Go.Proofs.YtflddgoapibleaaDoorW.PrintWords Go.Proofs.YtflddgoapibleaaDoorW.PrintLast Go.Proofs.YtflddgoapibleaaDoorW.PrintMore
def cont (x : Int) : Bool := decide (128 ≤ x ∧ x ≤ 191)
def second (a b : Int) : Bool := decide ((a = 224 → 160 ≤ b) ∧ (a = 237 → b ≤ 159) ∧ (a = 240 → 144 ≤ b) ∧ (a = 244 → b ≤ 143))
def dec (l : List Int) : Int × Nat :=
  let a := l.getD 0 (-1); let b := l.getD 1 (-1); let c := l.getD 2 (-1); let d := l.getD 3 (-1)
  if a < 128 then (a, 1)
  else if 194 ≤ a ∧ a ≤ 223 ∧ cont b = true then ((a - 192) * 64 + (b - 128), 2)
  else if 224 ≤ a ∧ a ≤ 239 ∧ cont b = true ∧ cont c = true ∧ second a b = true then ((a - 224) * 4096 + (b - 128) * 64 + (c - 128), 3)
  else if 240 ≤ a ∧ a ≤ 244 ∧ cont b = true ∧ cont c = true ∧ cont d = true ∧ second a b = true then ((a - 240) * 262144 + (b - 128) * 4096 + (c - 128) * 64 + (d - 128), 4)
  else (65533, 1)
def enc (r : Int) : List Int :=
  let c := if (0 ≤ r ∧ r < 55296) ∨ (57344 ≤ r ∧ r ≤ 1114111) then r else 65533
  if c < 128 then [c] else if c < 2048 then [192 + c / 64, 128 + c % 64]
  else if c < 65536 then [224 + c / 4096, 128 + c / 64 % 64, 128 + c % 64]
  else [240 + c / 262144, 128 + c / 4096 % 64, 128 + c / 64 % 64, 128 + c % 64]
def hexDigit (n : Int) : Int := if n < 10 then 48 + n else 87 + n
def hexN : Nat → Int → List Int
  | 0, _ => []
  | k + 1, r => if r < 16 then [hexDigit r] else hexN k (r / 16) ++ [hexDigit (r % 16)]
def pc (l : List Int) : List Int :=
  let a := l.getD 0 (-1)
  if a = 92 then [92, 92] else if a = 10 then [92, 110] else if a = 13 then [92, 114] else if a = 9 then [92, 116]
  else if 32 ≤ a ∧ a < 127 then [a]
  else if (dec l).2 = 1 then [92, 120, hexDigit (a / 16), hexDigit (a % 16)]
  else [92, 117, 123] ++ hexN 8 (dec l).1 ++ [125]
def stepsN (g : List Int → List Int) : Nat → List Int → List Int
  | 0, _ => []
  | _ + 1, [] => []
  | k + 1, a :: t => g (a :: t) ++ stepsN g k ((a :: t).drop (dec (a :: t)).2)
def steps (g : List Int → List Int) (l : List Int) : List Int := stepsN g l.length l
def quo (l : List Int) : List Int := steps pc l
def plain (l : List Int) : List Int := steps (fun l => enc (dec l).1) l
def cnt (l : List Int) : Nat := (steps (fun _ => [0]) l).length
def dig (c : Int) : Int := if 48 ≤ c ∧ c ≤ 57 then c - 48 else if 97 ≤ c ∧ c ≤ 102 then c - 87 else -1
def brN : Nat → Int → Nat → List Int → Int × Nat × List Int
  | 0, n, i, t => (n, i, t)
  | _ + 1, n, i, [] => (n, i, [])
  | f + 1, n, i, c :: t => if 0 ≤ dig c then brN f (16 * n + dig c) (i + 1) t else (n, i, c :: t)
def byRune (l : List Int) : List Int × Int :=
  let x := brN 6 0 3 (l.drop 3)
  if l.getD 2 (-1) = 123 ∧ x.2.1 ≠ 3 ∧ l.getD 3 (-1) ≠ 48 ∧ x.2.2.getD 0 (-1) = 125 ∧ 128 ≤ x.1 ∧ x.1 ≤ 1114111 ∧ ¬ (55296 ≤ x.1 ∧ x.1 ≤ 57343) then (enc x.1, (x.2.1 : Int) + 1) else ([], 0)
def byTwo (a b : Int) : List Int × Int :=
  if 0 ≤ dig a ∧ 0 ≤ dig b then
    let n := 16 * dig a + dig b
    if n = 9 ∨ n = 10 ∨ n = 13 ∨ (32 ≤ n ∧ n ≤ 126) then ([], 0) else ([n], 4)
  else ([], 0)
def pieceL (l : List Int) : List Int × Int :=
  let c := l.getD 0 (-1); let k := l.getD 1 (-1)
  if c ≠ 92 then (if 32 ≤ c ∧ c ≤ 126 then ([c], 1) else ([], 0))
  else if k = 92 then ([92], 2) else if k = 110 then ([10], 2) else if k = 114 then ([13], 2) else if k = 116 then ([9], 2)
  else if k = 120 then byTwo (l.getD 2 (-1)) (l.getD 3 (-1))
  else if k = 117 then byRune l
  else ([], 0)
def Bytes (l : List Int) : Prop := ∀ x ∈ l, 0 ≤ x ∧ x ≤ 255
instance (l : List Int) : Decidable (Bytes l) := inferInstanceAs (Decidable (∀ x ∈ l, 0 ≤ x ∧ x ≤ 255))
def classI (a : Int) : Int := if a ≤ 127 then 1 else if a ≤ 191 then 2 else if a ≤ 193 then 6 else if a ≤ 223 then 3 else if a ≤ 239 then 4 else if a ≤ 244 then 5 else 6
def needI (a : Int) : Int := if a ≤ 127 then 1 else if a ≤ 193 then 0 else if a ≤ 223 then 2 else if a ≤ 239 then 3 else if a ≤ 244 then 4 else 0
def octet_Class.f (a0 : Int) : Option Int := if 0 ≤ a0 ∧ a0 ≤ 255 then some (classI a0) else none
def octet_Need.f (a0 : Int) : Option Int := if 0 ≤ a0 ∧ a0 ≤ 255 then some (needI a0) else none
def strings_IndexByte.f (s : ByteArray) (c : Int) : Option Int := some (Lib.indexByte s.data.toList c.toNat.toUInt8)
def escape_piece.f (s : ByteArray) : Option (List Int × Int) := if s.size ≤ 1073741824 then some (pieceL (bytesOf s)) else none
def escape_Quote.f (l : List Int) : Option ByteArray := if Bytes l ∧ l.length ≤ 1073741824 then some (strOfNums (quo l)) else none
def escape_Plain.f (l : List Int) : Option ByteArray := if Bytes l ∧ l.length ≤ 1073741824 then some (strOfNums (plain l)) else none
end Go.Proofs.YtflddgoapibleaaDoor.Hand

namespace Go.Proofs.YtflddgoapibleaaDoor.Hand
open Go.RowKit Go.Proofs.YtflddgoapibleaaDoorW.PrintWords Go.Proofs.YtflddgoapibleaaDoorW.PrintLast Go.Proofs.YtflddgoapibleaaDoorW.PrintMore
def dec4 (a b c d : Int) : Int × Nat :=
  if a < 128 then (a, 1)
  else if 194 ≤ a ∧ a ≤ 223 ∧ cont b = true then ((a - 192) * 64 + (b - 128), 2)
  else if 224 ≤ a ∧ a ≤ 239 ∧ cont b = true ∧ cont c = true ∧ second a b = true then ((a - 224) * 4096 + (b - 128) * 64 + (c - 128), 3)
  else if 240 ≤ a ∧ a ≤ 244 ∧ cont b = true ∧ cont c = true ∧ cont d = true ∧ second a b = true then ((a - 240) * 262144 + (b - 128) * 4096 + (c - 128) * 64 + (d - 128), 4)
  else (65533, 1)
theorem dec_eq4 (l : List Int) : dec l = dec4 (l.getD 0 (-1)) (l.getD 1 (-1)) (l.getD 2 (-1)) (l.getD 3 (-1)) := rfl
set_option maxHeartbeats 4000000 in
set_option maxRecDepth 100000 in
theorem dec_core (n b0 b1 b2 b3 : Nat) (a b c d : Int) (ha : (b0 : Int) = a) (ha1 : b0 ≤ 255)
    (hb : (1 < n ∧ (b1 : Int) = b ∧ b1 ≤ 255) ∨ (¬ 1 < n ∧ b = -1)) (hc : (2 < n ∧ (b2 : Int) = c ∧ b2 ≤ 255) ∨ (¬ 2 < n ∧ c = -1)) (hd : (3 < n ∧ (b3 : Int) = d ∧ b3 ≤ 255) ∨ (¬ 3 < n ∧ d = -1)) :
    ((Lib.decodeN n b0 b1 b2 b3).1 : Int) = (dec4 a b c d).1 ∧ (Lib.decodeN n b0 b1 b2 b3).2 = (dec4 a b c d).2 := by
  have HB : ((1 < n ∧ b1 / 64 = 2) ∧ (128 ≤ b ∧ b ≤ 191) ∧ (b1 : Int) = b) ∨ (¬ (1 < n ∧ b1 / 64 = 2) ∧ ¬ (128 ≤ b ∧ b ≤ 191)) := by omega
  have HC : ((2 < n ∧ b2 / 64 = 2) ∧ (128 ≤ c ∧ c ≤ 191) ∧ (b2 : Int) = c) ∨ (¬ (2 < n ∧ b2 / 64 = 2) ∧ ¬ (128 ≤ c ∧ c ≤ 191)) := by omega
  have HD : ((3 < n ∧ b3 / 64 = 2) ∧ (128 ≤ d ∧ d ≤ 191) ∧ (b3 : Int) = d) ∨ (¬ (3 < n ∧ b3 / 64 = 2) ∧ ¬ (128 ≤ d ∧ d ≤ 191)) := by omega
  clear hb hc hd
  unfold Lib.decodeN dec4
  simp only [cont, second, decide_eq_true_eq]
  by_cases c1 : b0 < 128
  · rw [if_pos c1, if_pos (by omega)]; exact ⟨ha, rfl⟩
  rw [if_neg c1, if_neg (show ¬ a < 128 by omega)]
  rcases HB with ⟨p1, p2, e1⟩ | ⟨p1, p2⟩
  · rcases HC with ⟨q1, q2, e2⟩ | ⟨q1, q2⟩
    · rcases HD with ⟨s1, s2, e3⟩ | ⟨s1, s2⟩
      · simp only [p1, p2, q1, q2, s1, s2, and_true, true_and]
        clear p1 q1 s1
        repeat' split
        all_goals first | (refine ⟨?_, ?_⟩ <;> simp only <;> omega) | (exfalso; omega)
      · simp only [p1, p2, q1, q2, s1, s2, and_true, true_and, and_false, false_and, if_false]
        clear p1 q1 s1 s2
        repeat' split
        all_goals first | (refine ⟨?_, ?_⟩ <;> simp only <;> omega) | (exfalso; omega)
    · simp only [p1, p2, q1, q2, and_true, true_and, and_false, false_and, if_false]
      clear p1 q1 q2 HD
      repeat' split
      all_goals first | (refine ⟨?_, ?_⟩ <;> simp only <;> omega) | (exfalso; omega)
  · simp only [p1, p2, and_true, true_and, and_false, false_and, if_false]
    simp
theorem get_str (l : List Int) (hb : Bytes l) (i : Nat) (h : i < l.length) : (((strOfNums l).get! i).toNat : Int) = l[i] := by
  have h2 := hb (l[i]) (List.getElem_mem h)
  have : (strOfNums l).get! i = UInt8.ofNat (l[i]).toNat := by
    simp [strOfNums, ByteArray.get!, h]
  rw [this]
  simp; omega
theorem bytes_of_drop {l : List Int} (hb : Bytes l) (p : Nat) : Bytes (l.drop p) := fun x hx => hb x (List.mem_of_mem_drop hx)
theorem bytes_of_take {l : List Int} (hb : Bytes l) (p : Nat) : Bytes (l.take p) := fun x hx => hb x (List.mem_of_mem_take hx)
theorem bytes_append {l m : List Int} (h1 : Bytes l) (h2 : Bytes m) : Bytes (l ++ m) := fun x hx => by
  rcases List.mem_append.1 hx with h | h
  · exact h1 x h
  · exact h2 x h
theorem get_drop (l : List Int) (p k : Nat) (h : p + k < l.length) : (l.drop p).getD k (-1) = l[p + k] := by
  rw [List.getD_eq_getElem?_getD, List.getElem?_drop, List.getElem?_eq_getElem h]; rfl
theorem get_drop_none (l : List Int) (p k : Nat) (h : ¬ p + k < l.length) : (l.drop p).getD k (-1) = -1 := by
  rw [List.getD_eq_getElem?_getD, List.getElem?_drop, List.getElem?_eq_none (by omega)]; rfl
theorem decode_dec (l : List Int) (hb : Bytes l) (p : Nat) (hp : p < l.length) :
    ((Utf8.decode (strOfNums l) p).1 : Int) = (dec (l.drop p)).1 ∧ (Utf8.decode (strOfNums l) p).2 = (dec (l.drop p)).2 := by
  have key : ∀ k, (k < l.length - p ∧ ((((strOfNums l).get! (p + k)).toNat : Nat) : Int) = (l.drop p).getD k (-1) ∧ ((strOfNums l).get! (p + k)).toNat ≤ 255) ∨ (¬ k < l.length - p ∧ (l.drop p).getD k (-1) = -1) := by
    intro k
    have hu : ((strOfNums l).get! (p + k)).toNat ≤ 255 := by have := UInt8.toNat_lt ((strOfNums l).get! (p + k)); omega
    by_cases h : p + k < l.length
    · exact .inl ⟨by omega, by rw [get_drop l p k h, get_str l hb _ h], hu⟩
    · exact .inr ⟨by omega, get_drop_none l p k h⟩
  rw [dec_eq4, Lib.decode_at, strOfNums_size]
  have k0 := key 0
  rcases k0 with ⟨_, h1, h2⟩ | ⟨h1, _⟩
  · exact dec_core _ _ _ _ _ _ _ _ _ h1 h2 (key 1) (key 2) (key 3)
  · omega
theorem dec_pos (l : List Int) : 1 ≤ (dec l).2 := by
  rw [dec_eq4]; unfold dec4; repeat' split
  all_goals simp
theorem dec_le (l : List Int) (hl : 0 < l.length) : (dec l).2 ≤ l.length := by
  have hn : ∀ k, l.length ≤ k → l.getD k (-1) = -1 := fun k hk => by rw [List.getD_eq_getElem?_getD, List.getElem?_eq_none hk]; rfl
  rw [dec_eq4]; unfold dec4
  have c1 : ¬ cont (-1) = true := by decide
  repeat' split
  · simp only; omega
  · rename_i h; simp only; apply Classical.byContradiction; intro hc; rw [hn 1 (by omega)] at h; exact c1 h.2.2
  · rename_i h; simp only; apply Classical.byContradiction; intro hc; rw [hn 2 (by omega)] at h; exact c1 h.2.2.2.1
  · rename_i h; simp only; apply Classical.byContradiction; intro hc; rw [hn 3 (by omega)] at h; exact c1 h.2.2.2.2.1
  · simp only; omega
theorem stepsN_more (g : List Int → List Int) : ∀ (k : Nat) (l : List Int), l.length ≤ k → stepsN g k l = steps g l := by
  have key : ∀ (n : Nat) (l : List Int) (k j : Nat), l.length ≤ n → n ≤ k → n ≤ j → stepsN g k l = stepsN g j l := by
    intro n
    induction n with
    | zero => intro l k j hl _ _; obtain rfl := List.eq_nil_of_length_eq_zero (by omega : l.length = 0); cases k <;> cases j <;> rfl
    | succ n ih =>
      intro l k j hl hk hj
      obtain ⟨k, rfl⟩ : ∃ k', k = k' + 1 := ⟨k - 1, by omega⟩
      obtain ⟨j, rfl⟩ : ∃ j', j = j' + 1 := ⟨j - 1, by omega⟩
      cases l with
      | nil => rfl
      | cons a t =>
        rw [stepsN, stepsN, ih _ k j _ (by omega) (by omega)]
        have := dec_pos (a :: t)
        rw [List.length_drop]; simp only [List.length_cons] at hl ⊢; omega
  intro k l h
  exact key l.length l k l.length (Nat.le_refl _) h (Nat.le_refl _)
theorem steps_nil (g : List Int → List Int) : steps g [] = [] := rfl
theorem steps_cons (g : List Int → List Int) (l : List Int) (h : 0 < l.length) : steps g l = g l ++ steps g (l.drop (dec l).2) := by
  cases l with
  | nil => simp at h
  | cons a t =>
    show stepsN g (t.length + 1) (a :: t) = _
    rw [stepsN, stepsN_more g t.length _ (by have := dec_pos (a :: t); rw [List.length_drop]; simp only [List.length_cons]; omega)]
end Go.Proofs.YtflddgoapibleaaDoor.Hand

namespace Go.Proofs.YtflddgoapibleaaDoor.Hand
open Go.RowKit Go.Maps Go.Proofs.YtflddgoapibleaaDoorW.PrintWords Go.Proofs.YtflddgoapibleaaDoorW.PrintLast Go.Proofs.YtflddgoapibleaaDoorW.PrintMore
def shortL : List (Lit × DataW Unit) := [(.int .u8 9, .lit (.int .u8 116)), (.int .u8 10, .lit (.int .u8 110)), (.int .u8 13, .lit (.int .u8 114)), (.int .u8 92, .lit (.int .u8 92))]
def spanCells : Array Value := #[.int .i64 0, .int .i64 127, .int .i64 1, .int .i64 128, .int .i64 191, .int .i64 2, .int .i64 192, .int .i64 193, .int .i64 6, .int .i64 194, .int .i64 223, .int .i64 3, .int .i64 224, .int .i64 239, .int .i64 4, .int .i64 240, .int .i64 244, .int .i64 5, .int .i64 245, .int .i64 255, .int .i64 6]
def needCells : Array Value := #[.int .i64 0, .int .i64 1, .int .i64 0, .int .i64 2, .int .i64 3, .int .i64 4, .int .i64 0]
theorem law5 : Keyed Tryd.prog 5 := int_keyed Tryd.underlying5
structure Globs (w : World) : Prop where
  short : ∃ bm, w.cell? ⟨0, 0, none⟩ = some (.map (some bm)) ∧ w.ownsMap Tryd.prog 5 (plainElem (H := Unit) Tryd.prog 5) bm 4 (.map shortL)
  spans : ∃ t fr, w.heap[2]? = some (.cells spanCells t fr)
  needs : ∃ t fr, w.heap[1]? = some (.cells needCells t fr)
  shift : w.cell? ⟨6, 15, none⟩ = some (.int .u8 4)
theorem Globs.below {w w1 : World} (h : Globs w) (hb : Below w.heap.size w w1) : Globs w1 := by
  obtain ⟨⟨bm, h1, h2⟩, ⟨t, fr, h3⟩, ⟨t4, fr4, h4⟩, h5⟩ := h
  refine ⟨⟨bm, pw_cell_below hb h1, ?_⟩, ⟨t, fr, blk_below h3 hb⟩, ⟨t4, fr4, blk_below h4 hb⟩, pw_cell_below hb h5⟩
  exact h2.kept (grown_of_below hb none) (by simp)
theorem Globs.drewN {w : World} (h : Globs w) (n : Nat) : Globs (w.drewN n) := h.below (pw_below_drewN (Below.refl _ _) n)
theorem Globs.drew {w : World} (h : Globs w) : Globs w.drew := h.below (below_drew (Below.refl _ _))
theorem Globs.alloc {w : World} (h : Globs w) (o : Obj) : Globs (w.alloc o) := h.below (below_alloc (Below.refl _ _) o)
theorem two_wf (n : Int) (h0 : 0 ≤ n) (h1 : n ≤ 255) : (Lit.int .u8 n).wf = true := by
  simp [Lit.wf, IntKind.min, IntKind.max, IntKind.bits, IntKind.signed]; omega
end Go.Proofs.YtflddgoapibleaaDoor.Hand

namespace Go.Proofs.YtflddgoapibleaaDoor.Esc
open Go.RowKit Go.Proofs.YtflddgoapibleaaDoor.Hand Go.Proofs.YtflddgoapibleaaDoorW.PrintWords Go.Proofs.YtflddgoapibleaaDoorW.PrintLast Go.Proofs.YtflddgoapibleaaDoorW.PrintMore
attribute [local go_sem] max2_int min2_int max_two min_two max_three min_three max_four min_four
set_option linter.unusedVariables false
set_option linter.unusedSimpArgs false
def errW : Option Int → Value
  | none => .nilIface
  | some c => .iface 0 (.int .i64 c)
theorem errW_none : errW none = .nilIface := rfl
theorem errW_some (c : Int) : errW (some c) = .iface 0 (.int .i64 c) := rfl
theorem info3 : (Tryd.prog.info? 3).map (fun i => (i.zero, i.size, i.bytes)) = some (some (.int .i64 0), 1, 8) := by kernel_rfl
theorem info5 : (Tryd.prog.info? 5).map (fun i => (i.zero, i.size, i.bytes)) = some (some (.int .u8 0), 1, 1) := by kernel_rfl
end Go.Proofs.YtflddgoapibleaaDoor.Esc

namespace Go.Proofs.YtflddgoapibleaaDoor.Hand
open Go.RowKit Go.Maps Go.Proofs.YtflddgoapibleaaDoorW.PrintWords Go.Proofs.YtflddgoapibleaaDoorW.PrintLast Go.Proofs.YtflddgoapibleaaDoorW.PrintMore
theorem span0 : ∀ w, (Instr.index 88 (.agg spanCells) (.int .i64 0)).run Tryd.prog w = .ok (.agg #[.int .i64 0, .int .i64 127, .int .i64 1]) w := fun _ => by kernel_rfl
theorem span1 : ∀ w, (Instr.index 88 (.agg spanCells) (.int .i64 1)).run Tryd.prog w = .ok (.agg #[.int .i64 128, .int .i64 191, .int .i64 2]) w := fun _ => by kernel_rfl
theorem span2 : ∀ w, (Instr.index 88 (.agg spanCells) (.int .i64 2)).run Tryd.prog w = .ok (.agg #[.int .i64 192, .int .i64 193, .int .i64 6]) w := fun _ => by kernel_rfl
theorem span3 : ∀ w, (Instr.index 88 (.agg spanCells) (.int .i64 3)).run Tryd.prog w = .ok (.agg #[.int .i64 194, .int .i64 223, .int .i64 3]) w := fun _ => by kernel_rfl
theorem span4 : ∀ w, (Instr.index 88 (.agg spanCells) (.int .i64 4)).run Tryd.prog w = .ok (.agg #[.int .i64 224, .int .i64 239, .int .i64 4]) w := fun _ => by kernel_rfl
theorem span5 : ∀ w, (Instr.index 88 (.agg spanCells) (.int .i64 5)).run Tryd.prog w = .ok (.agg #[.int .i64 240, .int .i64 244, .int .i64 5]) w := fun _ => by kernel_rfl
theorem span6 : ∀ w, (Instr.index 88 (.agg spanCells) (.int .i64 6)).run Tryd.prog w = .ok (.agg #[.int .i64 245, .int .i64 255, .int .i64 6]) w := fun _ => by kernel_rfl
set_option maxHeartbeats 1000000 in
set_option maxRecDepth 100000 in
theorem class0 (a0 : Int) (w : World) (t : TypeId) (fr : Nat × Nat) (hsp : w.heap[2]? = some (.cells spanCells t fr)) (h0 : 0 ≤ a0) (h1 : a0 ≤ 127) :
    Calls Tryd.prog 59 #[.int .u8 a0] w fun e w' => e = .returned (.int .i64 1) ∧ Below w.heap.size w w' := by
  have i0 := span0
  go_enter Tryd.func59, Tryd.ntmps59
  go_wp2_with (refine wpList_load_row rfl 88 (.global 2) rfl 2 rfl t spanCells fr _ hsp Tryd.underlying88 rfl (by kernel_rfl) ?_)
  clear hsp
  refine wp_loop_rounds 1 ?_
  rw [rounds_succ]; go_wp2
  go_ret
  exact ⟨rfl, by repeat (first | exact Below.refl _ _ | apply below_alloc | apply pw_below_drewN | apply below_drew1)⟩
set_option maxHeartbeats 1000000 in
set_option maxRecDepth 100000 in
theorem class1 (a0 : Int) (w : World) (t : TypeId) (fr : Nat × Nat) (hsp : w.heap[2]? = some (.cells spanCells t fr)) (h0 : 128 ≤ a0) (h1 : a0 ≤ 191) :
    Calls Tryd.prog 59 #[.int .u8 a0] w fun e w' => e = .returned (.int .i64 2) ∧ Below w.heap.size w w' := by
  have i0 := span0
  have i1 := span1
  go_enter Tryd.func59, Tryd.ntmps59
  go_wp2_with (refine wpList_load_row rfl 88 (.global 2) rfl 2 rfl t spanCells fr _ hsp Tryd.underlying88 rfl (by kernel_rfl) ?_)
  clear hsp
  refine wp_loop_rounds 2 ?_
  rw [rounds_succ]; go_wp2
  rw [rounds_succ]; go_wp2
  go_ret
  exact ⟨rfl, by repeat (first | exact Below.refl _ _ | apply below_alloc | apply pw_below_drewN | apply below_drew1)⟩
set_option maxHeartbeats 1000000 in
set_option maxRecDepth 100000 in
theorem class2 (a0 : Int) (w : World) (t : TypeId) (fr : Nat × Nat) (hsp : w.heap[2]? = some (.cells spanCells t fr)) (h0 : 192 ≤ a0) (h1 : a0 ≤ 193) :
    Calls Tryd.prog 59 #[.int .u8 a0] w fun e w' => e = .returned (.int .i64 6) ∧ Below w.heap.size w w' := by
  have i0 := span0
  have i1 := span1
  have i2 := span2
  go_enter Tryd.func59, Tryd.ntmps59
  go_wp2_with (refine wpList_load_row rfl 88 (.global 2) rfl 2 rfl t spanCells fr _ hsp Tryd.underlying88 rfl (by kernel_rfl) ?_)
  clear hsp
  refine wp_loop_rounds 3 ?_
  rw [rounds_succ]; go_wp2
  rw [rounds_succ]; go_wp2
  rw [rounds_succ]; go_wp2
  go_ret
  exact ⟨rfl, by repeat (first | exact Below.refl _ _ | apply below_alloc | apply pw_below_drewN | apply below_drew1)⟩
set_option maxHeartbeats 1000000 in
set_option maxRecDepth 100000 in
theorem class3 (a0 : Int) (w : World) (t : TypeId) (fr : Nat × Nat) (hsp : w.heap[2]? = some (.cells spanCells t fr)) (h0 : 194 ≤ a0) (h1 : a0 ≤ 223) :
    Calls Tryd.prog 59 #[.int .u8 a0] w fun e w' => e = .returned (.int .i64 3) ∧ Below w.heap.size w w' := by
  have i0 := span0
  have i1 := span1
  have i2 := span2
  have i3 := span3
  go_enter Tryd.func59, Tryd.ntmps59
  go_wp2_with (refine wpList_load_row rfl 88 (.global 2) rfl 2 rfl t spanCells fr _ hsp Tryd.underlying88 rfl (by kernel_rfl) ?_)
  clear hsp
  refine wp_loop_rounds 4 ?_
  rw [rounds_succ]; go_wp2
  rw [rounds_succ]; go_wp2
  rw [rounds_succ]; go_wp2
  rw [rounds_succ]; go_wp2
  go_ret
  exact ⟨rfl, by repeat (first | exact Below.refl _ _ | apply below_alloc | apply pw_below_drewN | apply below_drew1)⟩
set_option maxHeartbeats 1000000 in
set_option maxRecDepth 100000 in
theorem class4 (a0 : Int) (w : World) (t : TypeId) (fr : Nat × Nat) (hsp : w.heap[2]? = some (.cells spanCells t fr)) (h0 : 224 ≤ a0) (h1 : a0 ≤ 239) :
    Calls Tryd.prog 59 #[.int .u8 a0] w fun e w' => e = .returned (.int .i64 4) ∧ Below w.heap.size w w' := by
  have i0 := span0
  have i1 := span1
  have i2 := span2
  have i3 := span3
  have i4 := span4
  go_enter Tryd.func59, Tryd.ntmps59
  go_wp2_with (refine wpList_load_row rfl 88 (.global 2) rfl 2 rfl t spanCells fr _ hsp Tryd.underlying88 rfl (by kernel_rfl) ?_)
  clear hsp
  refine wp_loop_rounds 5 ?_
  rw [rounds_succ]; go_wp2
  rw [rounds_succ]; go_wp2
  rw [rounds_succ]; go_wp2
  rw [rounds_succ]; go_wp2
  rw [rounds_succ]; go_wp2
  go_ret
  exact ⟨rfl, by repeat (first | exact Below.refl _ _ | apply below_alloc | apply pw_below_drewN | apply below_drew1)⟩
set_option maxHeartbeats 1000000 in
set_option maxRecDepth 100000 in
theorem class5 (a0 : Int) (w : World) (t : TypeId) (fr : Nat × Nat) (hsp : w.heap[2]? = some (.cells spanCells t fr)) (h0 : 240 ≤ a0) (h1 : a0 ≤ 244) :
    Calls Tryd.prog 59 #[.int .u8 a0] w fun e w' => e = .returned (.int .i64 5) ∧ Below w.heap.size w w' := by
  have i0 := span0
  have i1 := span1
  have i2 := span2
  have i3 := span3
  have i4 := span4
  have i5 := span5
  go_enter Tryd.func59, Tryd.ntmps59
  go_wp2_with (refine wpList_load_row rfl 88 (.global 2) rfl 2 rfl t spanCells fr _ hsp Tryd.underlying88 rfl (by kernel_rfl) ?_)
  clear hsp
  refine wp_loop_rounds 6 ?_
  rw [rounds_succ]; go_wp2
  rw [rounds_succ]; go_wp2
  rw [rounds_succ]; go_wp2
  rw [rounds_succ]; go_wp2
  rw [rounds_succ]; go_wp2
  rw [rounds_succ]; go_wp2
  go_ret
  exact ⟨rfl, by repeat (first | exact Below.refl _ _ | apply below_alloc | apply pw_below_drewN | apply below_drew1)⟩
set_option maxHeartbeats 1000000 in
set_option maxRecDepth 100000 in
theorem class6 (a0 : Int) (w : World) (t : TypeId) (fr : Nat × Nat) (hsp : w.heap[2]? = some (.cells spanCells t fr)) (h0 : 245 ≤ a0) (h1 : a0 ≤ 255) :
    Calls Tryd.prog 59 #[.int .u8 a0] w fun e w' => e = .returned (.int .i64 6) ∧ Below w.heap.size w w' := by
  have i0 := span0
  have i1 := span1
  have i2 := span2
  have i3 := span3
  have i4 := span4
  have i5 := span5
  have i6 := span6
  go_enter Tryd.func59, Tryd.ntmps59
  go_wp2_with (refine wpList_load_row rfl 88 (.global 2) rfl 2 rfl t spanCells fr _ hsp Tryd.underlying88 rfl (by kernel_rfl) ?_)
  clear hsp
  refine wp_loop_rounds 7 ?_
  rw [rounds_succ]; go_wp2
  rw [rounds_succ]; go_wp2
  rw [rounds_succ]; go_wp2
  rw [rounds_succ]; go_wp2
  rw [rounds_succ]; go_wp2
  rw [rounds_succ]; go_wp2
  rw [rounds_succ]; go_wp2
  go_ret
  exact ⟨rfl, by repeat (first | exact Below.refl _ _ | apply below_alloc | apply pw_below_drewN | apply below_drew1)⟩
theorem octet_Class.calls (a0 : Int) (r : Int) (w : World) (hG : Globs w) (h : octet_Class.f a0 = some r) :
    Calls Tryd.prog 59 #[.int .u8 a0] w fun e w' => e = .returned (.int .i64 r) ∧ Below w.heap.size w w' := by
  obtain ⟨t, fr, hsp⟩ := hG.spans
  unfold octet_Class.f at h
  by_cases hb : 0 ≤ a0 ∧ a0 ≤ 255
  · rw [if_pos hb] at h
    obtain rfl : classI a0 = r := Option.some.inj h
    obtain ⟨h0, h255⟩ := hb
    unfold classI
    by_cases h1 : a0 ≤ 127
    · rw [if_pos h1]; exact class0 a0 w t fr hsp h0 h1
    by_cases h2 : a0 ≤ 191
    · rw [if_neg h1, if_pos h2]; exact class1 a0 w t fr hsp (by omega) h2
    by_cases h3 : a0 ≤ 193
    · rw [if_neg h1, if_neg h2, if_pos h3]; exact class2 a0 w t fr hsp (by omega) h3
    by_cases h4 : a0 ≤ 223
    · rw [if_neg h1, if_neg h2, if_neg h3, if_pos h4]; exact class3 a0 w t fr hsp (by omega) h4
    by_cases h5 : a0 ≤ 239
    · rw [if_neg h1, if_neg h2, if_neg h3, if_neg h4, if_pos h5]; exact class4 a0 w t fr hsp (by omega) h5
    by_cases h6 : a0 ≤ 244
    · rw [if_neg h1, if_neg h2, if_neg h3, if_neg h4, if_neg h5, if_pos h6]; exact class5 a0 w t fr hsp (by omega) h6
    · rw [if_neg h1, if_neg h2, if_neg h3, if_neg h4, if_neg h5, if_neg h6]; exact class6 a0 w t fr hsp (by omega) h255
  · rw [if_neg hb] at h; cases h
set_option maxRecDepth 100000 in
theorem need1 (a0 : Int) (w : World) (t : TypeId) (fr : Nat × Nat) (hn : w.heap[1]? = some (.cells needCells t fr)) (hc : Calls Tryd.prog 59 #[.int .u8 a0] w fun e w' => e = .returned (.int .i64 1) ∧ Below w.heap.size w w') :
    Calls Tryd.prog 45 #[.int .u8 a0] w fun e w' => e = .returned (.int .i64 1) ∧ Below w.heap.size w w' := by
  have HN := Aside0.mk hn
  have HC := Aside0.mk hc
  clear hn hc
  go_enter Tryd.func45, Tryd.ntmps45
  go_wp2_with (fail)
  refine HC.out.mono ?_
  rintro e w1 ⟨rfl, hb⟩
  have hcell : w1.cell? ⟨1, 1, none⟩ = some (.int .i64 1) := by
    have h1 := blk_below HN.out hb
    simp only [World.cell?, h1]
    rfl
  have HB := Aside0.mk hb
  clear hb HC HN
  go_wp2
  go_ret
  exact ⟨rfl, HB.out⟩
set_option maxRecDepth 100000 in
theorem need2 (a0 : Int) (w : World) (t : TypeId) (fr : Nat × Nat) (hn : w.heap[1]? = some (.cells needCells t fr)) (hc : Calls Tryd.prog 59 #[.int .u8 a0] w fun e w' => e = .returned (.int .i64 2) ∧ Below w.heap.size w w') :
    Calls Tryd.prog 45 #[.int .u8 a0] w fun e w' => e = .returned (.int .i64 0) ∧ Below w.heap.size w w' := by
  have HN := Aside0.mk hn
  have HC := Aside0.mk hc
  clear hn hc
  go_enter Tryd.func45, Tryd.ntmps45
  go_wp2_with (fail)
  refine HC.out.mono ?_
  rintro e w1 ⟨rfl, hb⟩
  have hcell : w1.cell? ⟨1, 2, none⟩ = some (.int .i64 0) := by
    have h1 := blk_below HN.out hb
    simp only [World.cell?, h1]
    rfl
  have HB := Aside0.mk hb
  clear hb HC HN
  go_wp2
  go_ret
  exact ⟨rfl, HB.out⟩
set_option maxRecDepth 100000 in
theorem need3 (a0 : Int) (w : World) (t : TypeId) (fr : Nat × Nat) (hn : w.heap[1]? = some (.cells needCells t fr)) (hc : Calls Tryd.prog 59 #[.int .u8 a0] w fun e w' => e = .returned (.int .i64 3) ∧ Below w.heap.size w w') :
    Calls Tryd.prog 45 #[.int .u8 a0] w fun e w' => e = .returned (.int .i64 2) ∧ Below w.heap.size w w' := by
  have HN := Aside0.mk hn
  have HC := Aside0.mk hc
  clear hn hc
  go_enter Tryd.func45, Tryd.ntmps45
  go_wp2_with (fail)
  refine HC.out.mono ?_
  rintro e w1 ⟨rfl, hb⟩
  have hcell : w1.cell? ⟨1, 3, none⟩ = some (.int .i64 2) := by
    have h1 := blk_below HN.out hb
    simp only [World.cell?, h1]
    rfl
  have HB := Aside0.mk hb
  clear hb HC HN
  go_wp2
  go_ret
  exact ⟨rfl, HB.out⟩
set_option maxRecDepth 100000 in
theorem need4 (a0 : Int) (w : World) (t : TypeId) (fr : Nat × Nat) (hn : w.heap[1]? = some (.cells needCells t fr)) (hc : Calls Tryd.prog 59 #[.int .u8 a0] w fun e w' => e = .returned (.int .i64 4) ∧ Below w.heap.size w w') :
    Calls Tryd.prog 45 #[.int .u8 a0] w fun e w' => e = .returned (.int .i64 3) ∧ Below w.heap.size w w' := by
  have HN := Aside0.mk hn
  have HC := Aside0.mk hc
  clear hn hc
  go_enter Tryd.func45, Tryd.ntmps45
  go_wp2_with (fail)
  refine HC.out.mono ?_
  rintro e w1 ⟨rfl, hb⟩
  have hcell : w1.cell? ⟨1, 4, none⟩ = some (.int .i64 3) := by
    have h1 := blk_below HN.out hb
    simp only [World.cell?, h1]
    rfl
  have HB := Aside0.mk hb
  clear hb HC HN
  go_wp2
  go_ret
  exact ⟨rfl, HB.out⟩
set_option maxRecDepth 100000 in
theorem need5 (a0 : Int) (w : World) (t : TypeId) (fr : Nat × Nat) (hn : w.heap[1]? = some (.cells needCells t fr)) (hc : Calls Tryd.prog 59 #[.int .u8 a0] w fun e w' => e = .returned (.int .i64 5) ∧ Below w.heap.size w w') :
    Calls Tryd.prog 45 #[.int .u8 a0] w fun e w' => e = .returned (.int .i64 4) ∧ Below w.heap.size w w' := by
  have HN := Aside0.mk hn
  have HC := Aside0.mk hc
  clear hn hc
  go_enter Tryd.func45, Tryd.ntmps45
  go_wp2_with (fail)
  refine HC.out.mono ?_
  rintro e w1 ⟨rfl, hb⟩
  have hcell : w1.cell? ⟨1, 5, none⟩ = some (.int .i64 4) := by
    have h1 := blk_below HN.out hb
    simp only [World.cell?, h1]
    rfl
  have HB := Aside0.mk hb
  clear hb HC HN
  go_wp2
  go_ret
  exact ⟨rfl, HB.out⟩
set_option maxRecDepth 100000 in
theorem need6 (a0 : Int) (w : World) (t : TypeId) (fr : Nat × Nat) (hn : w.heap[1]? = some (.cells needCells t fr)) (hc : Calls Tryd.prog 59 #[.int .u8 a0] w fun e w' => e = .returned (.int .i64 6) ∧ Below w.heap.size w w') :
    Calls Tryd.prog 45 #[.int .u8 a0] w fun e w' => e = .returned (.int .i64 0) ∧ Below w.heap.size w w' := by
  have HN := Aside0.mk hn
  have HC := Aside0.mk hc
  clear hn hc
  go_enter Tryd.func45, Tryd.ntmps45
  go_wp2_with (fail)
  refine HC.out.mono ?_
  rintro e w1 ⟨rfl, hb⟩
  have hcell : w1.cell? ⟨1, 6, none⟩ = some (.int .i64 0) := by
    have h1 := blk_below HN.out hb
    simp only [World.cell?, h1]
    rfl
  have HB := Aside0.mk hb
  clear hb HC HN
  go_wp2
  go_ret
  exact ⟨rfl, HB.out⟩
theorem octet_Need.calls (a0 : Int) (r : Int) (w : World) (hG : Globs w) (h : octet_Need.f a0 = some r) :
    Calls Tryd.prog 45 #[.int .u8 a0] w fun e w' => e = .returned (.int .i64 r) ∧ Below w.heap.size w w' := by
  obtain ⟨t, fr, hn⟩ := hG.needs
  unfold octet_Need.f at h
  by_cases hb : 0 ≤ a0 ∧ a0 ≤ 255
  · rw [if_pos hb] at h
    obtain rfl : needI a0 = r := Option.some.inj h
    have hc := octet_Class.calls a0 (classI a0) w hG (by unfold octet_Class.f; rw [if_pos hb])
    unfold classI at hc
    unfold needI
    by_cases h1 : a0 ≤ 127
    · rw [if_pos h1] at hc ⊢; exact need1 a0 w t fr hn hc
    by_cases h2 : a0 ≤ 191
    · rw [if_neg h1, if_pos h2] at hc; rw [if_neg h1, if_pos (by omega)]; exact need2 a0 w t fr hn hc
    by_cases h3 : a0 ≤ 193
    · rw [if_neg h1, if_neg h2, if_pos h3] at hc; rw [if_neg h1, if_pos h3]; exact need6 a0 w t fr hn hc
    by_cases h4 : a0 ≤ 223
    · rw [if_neg h1, if_neg h2, if_neg h3, if_pos h4] at hc; rw [if_neg h1, if_neg h3, if_pos h4]; exact need3 a0 w t fr hn hc
    by_cases h5 : a0 ≤ 239
    · rw [if_neg h1, if_neg h2, if_neg h3, if_neg h4, if_pos h5] at hc; rw [if_neg h1, if_neg h3, if_neg h4, if_pos h5]; exact need4 a0 w t fr hn hc
    by_cases h6 : a0 ≤ 244
    · rw [if_neg h1, if_neg h2, if_neg h3, if_neg h4, if_neg h5, if_pos h6] at hc; rw [if_neg h1, if_neg h3, if_neg h4, if_neg h5, if_pos h6]; exact need5 a0 w t fr hn hc
    · rw [if_neg h1, if_neg h2, if_neg h3, if_neg h4, if_neg h5, if_neg h6] at hc; rw [if_neg h1, if_neg h3, if_neg h4, if_neg h5, if_neg h6]; exact need6 a0 w t fr hn hc
  · rw [if_neg hb] at h; cases h
end Go.Proofs.YtflddgoapibleaaDoor.Hand

namespace Go.Proofs.YtflddgoapibleaaDoor.Hand
open Go
structure Jumps (P : Program) (c : Code) (Q J J' : Exit → Act → World → Prop) : Prop where
  goto : ∀ l rest a w, findLabel c l = some rest → rest.wp P J' a w → J (.goto l) a w
  other : ∀ e a w, (∀ l, e ≠ .goto l) → Q e a w → J e a w
def jumpN (P : Program) (c : Code) (Q : Exit → Act → World → Prop) : Nat → Exit → Act → World → Prop
  | 0, e, a, w => Exit.noGoto Q e a w
  | n + 1, .goto l, a, w => ∃ rest, findLabel c l = some rest ∧ rest.wp P (jumpN P c Q n) a w
  | _ + 1, e, a, w => Q e a w
theorem wp_scope_n {P : Program} {c : Code} {Q : Exit → Act → World → Prop} {a : Act} {w : World} (n : Nat) (h : c.wp P (jumpN P c Q n) a w) : (Code.scope c).wp P Q a w := by
  intro b k cs
  have key : ∀ n (d : Code) a w, d.wp P (jumpN P c Q n) a w → ∃ e a' w', Q e a' w' ∧ Arrives P (lone (b.at a (.code d :: .inScope c :: k)) cs w) b k cs e a' w' := by
    intro n
    induction n with
    | zero =>
      intro d a w hd
      obtain ⟨e, a₁, w₁, hq, harr⟩ := hd b (.inScope c :: k) cs
      cases e with
      | normal => exact ⟨.normal, a₁, w₁, hq, Steps.trans harr (.one step_inScope)⟩
      | exit id => exact ⟨.exit id, a₁, w₁, hq, fun k' hk => harr k' (by simp [exitTo, hk])⟩
      | goto l => exact hq.elim
      | ret => exact ⟨_, a₁, w₁, hq, harr⟩
      | panic ch => exact ⟨_, a₁, w₁, hq, harr⟩
      | outgrown => exact ⟨_, a₁, w₁, hq, harr⟩
    | succ n ih =>
      intro d a w hd
      obtain ⟨e, a₁, w₁, hq, harr⟩ := hd b (.inScope c :: k) cs
      cases e with
      | normal => exact ⟨.normal, a₁, w₁, hq, Steps.trans harr (.one step_inScope)⟩
      | exit id => exact ⟨.exit id, a₁, w₁, hq, fun k' hk => harr k' (by simp [exitTo, hk])⟩
      | goto l =>
        obtain ⟨rest, hf, hr⟩ := hq
        have hg : gotoIn l (.inScope c :: k) = some (.code rest :: .inScope c :: k) := by simp [gotoIn, hf]
        obtain ⟨e₂, a₂, w₂, hq₂, harr₂⟩ := ih rest a₁ w₁ hr
        exact ⟨e₂, a₂, w₂, hq₂, .of_steps (harr _ hg) harr₂⟩
      | ret => exact ⟨_, a₁, w₁, hq, harr⟩
      | panic ch => exact ⟨_, a₁, w₁, hq, harr⟩
      | outgrown => exact ⟨_, a₁, w₁, hq, harr⟩
  obtain ⟨e, a₁, w₁, hq, harr⟩ := key n c a w h
  exact ⟨e, a₁, w₁, hq, .of_steps (.one step_scope) harr⟩
theorem jumpN_jumps (P : Program) (c : Code) (Q : Exit → Act → World → Prop) (n : Nat) : Jumps P c Q (jumpN P c Q (n + 1)) (jumpN P c Q n) where
  goto := fun _ rest _ _ hf hr => ⟨rest, hf, hr⟩
  other := fun e a w he hq => by
    cases e with
    | goto l => exact absurd rfl (he l)
    | normal => exact hq
    | exit id => exact hq
    | ret => exact hq
    | panic ch => exact hq
    | outgrown => exact hq
theorem wp_scope_two {P : Program} {c : Code} {Q : Exit → Act → World → Prop} {a : Act} {w : World}
    (h : ∀ J2 J1 J0 : Exit → Act → World → Prop, Jumps P c Q J2 J1 → Jumps P c Q J1 J0 → (∀ e a w, (∀ l, e ≠ .goto l) → Q e a w → J0 e a w) → c.wp P J2 a w) : (Code.scope c).wp P Q a w :=
  wp_scope_n 2 (h _ _ _ (jumpN_jumps P c Q 1) (jumpN_jumps P c Q 0) (fun e a w he hq => by
    cases e with
    | goto l => exact absurd rfl (he l)
    | normal => exact hq
    | exit id => exact hq
    | ret => exact hq
    | panic ch => exact hq
    | outgrown => exact hq))
end Go.Proofs.YtflddgoapibleaaDoor.Hand

namespace Go.Proofs.YtflddgoapibleaaDoor.Hand
open Go.RowKit Go.Maps Go.Proofs.YtflddgoapibleaaDoorW.PrintWords Go.Proofs.YtflddgoapibleaaDoorW.PrintLast Go.Proofs.YtflddgoapibleaaDoorW.PrintMore
def InShort (x c : Int) : Prop := (x = 9 ∧ c = 116) ∨ (x = 10 ∧ c = 110) ∨ (x = 13 ∧ c = 114) ∨ (x = 92 ∧ c = 92)
theorem short_at {x c : Int} (h : ∀ zd : DataW Unit, (DataW.map shortL).atKey (.int .u8 x) zd = .lit (.int .u8 c)) : InShort x c := by
  have h0 := h .nil
  unfold DataW.atKey shortL at h0
  unfold InShort
  by_cases h9 : x = 9
  · subst h9; simp [List.find?, Lit.sameKey] at h0; omega
  by_cases h10 : x = 10
  · subst h10; simp [List.find?, Lit.sameKey] at h0; omega
  by_cases h13 : x = 13
  · subst h13; simp [List.find?, Lit.sameKey] at h0; omega
  by_cases h92 : x = 92
  · subst h92; simp [List.find?, Lit.sameKey] at h0; omega
  · have e9 : ((9 : Int) = x) = False := by simp; omega
    have e10 : ((10 : Int) = x) = False := by simp; omega
    have e13 : ((13 : Int) = x) = False := by simp; omega
    have e92 : ((92 : Int) = x) = False := by simp; omega
    simp [List.find?, Lit.sameKey, e9, e10, e13, e92] at h0
theorem short_has {x c : Int} (h : InShort x c) : Maps.has (DataW.map shortL) (.int .u8 x) = true := by
  unfold InShort at h
  rcases h with ⟨rfl, _⟩ | ⟨rfl, _⟩ | ⟨rfl, _⟩ | ⟨rfl, _⟩ <;> decide
theorem InShort.key {x y c : Int} (h : InShort x c) (h' : InShort y c) : x = y := by
  unfold InShort at h h'; omega
theorem lit_one (W : World) (base : Nat) (x : Int) (hb : base ≤ W.heap.size) : Kd.R (Kd.int .u8) 5 (W.alloc (.cells #[.int .u8 x] 5)) base (fun _ => True) (.slice (some ⟨W.heap.size, 0, none⟩) 1 1) [x] := by
  have h := own_lit W base 5 .u8 [x] hb (show 1 ≤ 9223372036854775807 by decide)
  exact Kd.R_of_own (h1 := fun _ => rfl) h (fun _ _ => trivial)
set_option maxHeartbeats 1000000 in
set_option maxRecDepth 100000 in
theorem piece_empty (s : ByteArray) (w : World) (hs : s.toList = []) :
    Calls Tryd.prog 28 #[.string s] w fun e w' => e = .returned (.tuple #[.slice none 0 0, .int .i64 0]) ∧ w' = w := by
  go_enter Tryd.func28, Tryd.ntmps28
  go_wp2
  refine wp_scope_two ?_
  intro J2 J1 J0 hJ2 hJ1 hJ0
  go_wp2
  go_step3
  change J2 (.goto 0) _ _
  refine hJ2.goto _ _ _ _ rfl ?_
  go_wp2
  refine hJ1.other _ _ _ (by simp) ?_
  go_ret2
  exact ⟨rfl, rfl⟩
set_option maxHeartbeats 1000000 in
set_option maxRecDepth 100000 in
theorem piece_plain (s : ByteArray) (w : World) (hs : 0 < s.size) (hne : s.toList.isEmpty = false) (c0 : (bt s 0 != 92) = true) (c1 : 32 ≤ bt s 0) (c2 : bt s 0 ≤ 126) :
    Calls Tryd.prog 28 #[.string s] w fun e w' => ∃ v : Value, e = .returned (.tuple #[v, .int .i64 1]) ∧ Kd.R (Kd.int .u8) 5 w' w.heap.size (fun _ => True) v [bt s 0] ∧ Below w.heap.size w w' := by
  have hx : ∀ h : 0 < s.size, ((s[0]'h).toNat : Int) = bt s 0 := bt_at s 0
  go_enter Tryd.func28, Tryd.ntmps28
  go_wp2
  refine wp_scope_two ?_
  intro J2 J1 J0 hJ2 hJ1 hJ0
  go_wp2
  refine hJ2.other _ _ _ (by simp) ?_
  go_ret2
  exact ⟨_, rfl, lit_one w _ _ (Nat.le_refl _), below_alloc (Below.refl _ _) _⟩
set_option maxHeartbeats 1000000 in
set_option maxRecDepth 100000 in
theorem piece_odd (s : ByteArray) (w : World) (hs : 0 < s.size) (hne : s.toList.isEmpty = false) (c0 : (bt s 0 != 92) = true) (c1 : bt s 0 < 32 ∨ 126 < bt s 0) :
    Calls Tryd.prog 28 #[.string s] w fun e w' => e = .returned (.tuple #[.slice none 0 0, .int .i64 0]) ∧ w' = w := by
  have hx : ∀ h : 0 < s.size, ((s[0]'h).toNat : Int) = bt s 0 := bt_at s 0
  have hC := Aside0.mk c1
  clear c1
  rcases hC with ⟨c1 | c1⟩
  · have c1b : decide (32 ≤ bt s 0) = false := decide_eq_false (by omega)
    go_enter Tryd.func28, Tryd.ntmps28
    go_wp2
    refine wp_scope_two ?_
    intro J2 J1 J0 hJ2 hJ1 hJ0
    go_wp2
    go_step3
    change J2 (.goto 0) _ _
    refine hJ2.goto _ _ _ _ rfl ?_
    go_wp2
    refine hJ1.other _ _ _ (by simp) ?_
    go_ret2
    exact ⟨rfl, rfl⟩
  · have c1b : decide (32 ≤ bt s 0) = true := decide_eq_true (by omega)
    have c1c : decide (bt s 0 ≤ 126) = false := decide_eq_false (by omega)
    go_enter Tryd.func28, Tryd.ntmps28
    go_wp2
    refine wp_scope_two ?_
    intro J2 J1 J0 hJ2 hJ1 hJ0
    go_wp2
    go_step3
    change J2 (.goto 0) _ _
    refine hJ2.goto _ _ _ _ rfl ?_
    go_wp2
    refine hJ1.other _ _ _ (by simp) ?_
    go_ret2
    exact ⟨rfl, rfl⟩
set_option maxHeartbeats 1000000 in
set_option maxRecDepth 100000 in
theorem piece_lone (s : ByteArray) (w : World) (hs : 0 < s.size) (hne : s.toList.isEmpty = false) (h1 : s.size < 2) (c0 : (bt s 0 != 92) = false) :
    Calls Tryd.prog 28 #[.string s] w fun e w' => e = .returned (.tuple #[.slice none 0 0, .int .i64 0]) ∧ w' = w := by
  have hx : ∀ h : 0 < s.size, ((s[0]'h).toNat : Int) = bt s 0 := bt_at s 0
  go_enter Tryd.func28, Tryd.ntmps28
  go_wp2
  refine wp_scope_two ?_
  intro J2 J1 J0 hJ2 hJ1 hJ0
  go_wp2
  go_step3
  change J2 (.goto 0) _ _
  refine hJ2.goto _ _ _ _ rfl ?_
  go_wp2
  refine hJ1.other _ _ _ (by simp) ?_
  go_ret2
  exact ⟨rfl, rfl⟩
set_option maxHeartbeats 1000000 in
set_option maxRecDepth 100000 in
theorem piece_letter (s : ByteArray) (x0 : Int) (w : World) (hG : Globs w) (hs : 0 < s.size) (hne : s.toList.isEmpty = false) (h1 : 2 ≤ s.size) (c0 : (bt s 0 != 92) = false) (hk : InShort x0 (bt s 1)) :
    Calls Tryd.prog 28 #[.string s] w fun e w' => ∃ v : Value, e = .returned (.tuple #[v, .int .i64 2]) ∧ Kd.R (Kd.int .u8) 5 w' w.heap.size (fun _ => True) v [x0] ∧ Below w.heap.size w w' := by
  obtain ⟨bm, hc, hown⟩ := hG.short
  have HK := Aside0.mk hk
  clear hk hG
  have hx : ∀ h : 0 < s.size, ((s[0]'h).toNat : Int) = bt s 0 := bt_at s 0
  have hx1 : ∀ h : 1 < s.size, ((s[1]'h).toNat : Int) = bt s 1 := bt_at s 1
  go_enter Tryd.func28, Tryd.ntmps28
  go_wp2
  refine wp_scope_two ?_
  intro J2 J1 J0 hJ2 hJ1 hJ0
  go_wp2_with (first
    | (at_range; refine wpList_range_own _ rfl _ 39 rfl 5 5 law5 Tryd.underlying39 _ bm 4 _ rfl hown ?_; intro w0 hrg0 hg0 hs0)
    | go_in)
  go_frame
  have HB := Aside0.mk ((Below.refl w.heap.size w).grown hg0 (Nat.le_refl _) (fun k hk => by cases hk))
  clear hown hc hg0
  go_loopw [34] (fun _ wr => ∃ (left : Lit → Bool) (cnt : Nat), wr.ranges Tryd.prog 5 (plainElem (H := Unit) Tryd.prog 5) bm w.heap.size 4 (.map shortL) left cnt ∧ left (.int .u8 x0) = true ∧ Below w.heap.size w wr)
    (fun _ wr => wr.rangeLeft bm w.heap.size)
  case atStart => exact ⟨_, _, hrg0, short_has HK.out, HB.out⟩
  case round =>
    obtain ⟨left, cnt, hrg, hl0, hbw⟩ := hrel
    have HB := Aside0.mk hbw
    have HL := Aside0.mk hl0
    clear hbw hl0
    go_wp2_with (first
      | (at_next; refine wpList_next_ranges_ii _ rfl _ rfl 5 5 .u8 .u8 law5 Tryd.underlying5 Tryd.underlying5 bm w.heap.size 4 _ _ _ rfl hrg ?_ ?_)
      | go_in)
    · intro _ hl0
      exact absurd HL.out (by rw [hl0]; simp)
    · intro x c w1 cnt1 hwx hwc hlx hat hrg1 hlt hg1 hs1 hen
      have HI := Aside0.mk (short_at hat)
      have HR := Aside0.mk hrg1
      have HR0 := Aside0.mk hrg
      have HB1 := Aside0.mk (HB.out.grown hg1 (HB.out.size) (fun k hk => by cases hk; exact Nat.le_refl _))
      have HLT := Aside0.mk hlt
      clear hat hrg1 hg1 hlx hwx hwc hrg hlt HB
      by_cases hcx : c = bt s 1
      · have hb : (c == bt s 1) = true := beq_iff_eq.2 hcx
        have hxx : x = x0 := (show InShort x (bt s 1) from hcx ▸ HI.out).key HK.out
        clear hcx
        go_wp2
        refine hJ2.other _ _ _ (by simp) ?_
        go_ret2
        have hl := lit_one w1 w.heap.size x0 HB1.out.size
        rw [hs1] at hl
        exact ⟨_, rfl, hl, below_alloc HB1.out _⟩
      · have hb : (c == bt s 1) = false := beq_eq_false_iff_ne.2 hcx
        have HX := Aside0.mk (show x ≠ x0 from fun e => hcx (by have h1 := HI.out; have h2 := HK.out; subst e; unfold InShort at h1 h2; omega))
        clear hcx
        go_wp2
        go_roundw
        case rel => exact ⟨_, cnt1, HR.out, by simp [HL.out, Lit.sameKey]; exact fun e => HX.out e.symm, HB1.out⟩
        case measure => rw [HR.out.left_eq, HR0.out.left_eq]; exact HLT.out
def NoLetter (k : Int) : Prop := ∀ x, ¬ InShort x k
set_option maxHeartbeats 1000000 in
set_option maxRecDepth 100000 in
theorem piece_other (s : ByteArray) (w : World) (hG : Globs w) (hs : 0 < s.size) (hne : s.toList.isEmpty = false) (h1 : 2 ≤ s.size) (c0 : (bt s 0 != 92) = false) (hk : NoLetter (bt s 1)) (hx120 : (bt s 1 == 120) = false) (hx117 : (bt s 1 == 117) = false) :
    Calls Tryd.prog 28 #[.string s] w fun e w' => e = .returned (.tuple #[.slice none 0 0, .int .i64 0]) ∧ Below w.heap.size w w' := by
  obtain ⟨bm, hc, hown⟩ := hG.short
  have HK := Aside0.mk hk
  clear hk hG
  have hx : ∀ h : 0 < s.size, ((s[0]'h).toNat : Int) = bt s 0 := bt_at s 0
  have hx1 : ∀ h : 1 < s.size, ((s[1]'h).toNat : Int) = bt s 1 := bt_at s 1
  go_enter Tryd.func28, Tryd.ntmps28
  go_wp2
  refine wp_scope_two ?_
  intro J2 J1 J0 hJ2 hJ1 hJ0
  go_wp2_with (first
    | (at_range; refine wpList_range_own _ rfl _ 39 rfl 5 5 law5 Tryd.underlying39 _ bm 4 _ rfl hown ?_; intro w0 hrg0 hg0 hs0)
    | go_in)
  go_frame
  have HB := Aside0.mk ((Below.refl w.heap.size w).grown hg0 (Nat.le_refl _) (fun k hk => by cases hk))
  clear hown hc hg0
  go_loopw [34] (fun _ wr => ∃ (left : Lit → Bool) (cnt : Nat), wr.ranges Tryd.prog 5 (plainElem (H := Unit) Tryd.prog 5) bm w.heap.size 4 (.map shortL) left cnt ∧ Below w.heap.size w wr)
    (fun _ wr => wr.rangeLeft bm w.heap.size)
  case atStart => exact ⟨_, _, hrg0, HB.out⟩
  case round =>
    obtain ⟨left, cnt, hrg, hbw⟩ := hrel
    have HB := Aside0.mk hbw
    clear hbw
    go_wp2_with (first
      | (at_next; refine wpList_next_ranges_ii _ rfl _ rfl 5 5 .u8 .u8 law5 Tryd.underlying5 Tryd.underlying5 bm w.heap.size 4 _ _ _ rfl hrg ?_ ?_)
      | go_in)
    · intro _ _
      clear hrg
      go_wp2
      go_step3
      go_wp2
      refine hJ2.other _ _ _ (by simp) ?_
      go_ret2
      exact ⟨rfl, HB.out⟩
    · intro x c w1 cnt1 hwx hwc hlx hat hrg1 hlt hg1 hs1 hen
      have hb : (c == bt s 1) = false := beq_eq_false_iff_ne.2 (fun e => HK.out x (e ▸ short_at hat))
      have HR := Aside0.mk hrg1
      have HR0 := Aside0.mk hrg
      have HB1 := Aside0.mk (HB.out.grown hg1 (HB.out.size) (fun k hk => by cases hk; exact Nat.le_refl _))
      have HLT := Aside0.mk hlt
      clear hat hrg1 hg1 hlx hwx hwc hrg hlt HB
      go_wp2
      go_roundw
      case rel => exact ⟨_, cnt1, HR.out, HB1.out⟩
      case measure => rw [HR.out.left_eq, HR0.out.left_eq]; exact HLT.out
end Go.Proofs.YtflddgoapibleaaDoor.Hand

namespace Go.Proofs
open Go.Shelf
def Tryd.lays169_ren : Go.Shelf.Ren := ⟨fun | 169 => 35 | n => n, fun | 70 => 52 | 9 => 9 | 0 => 0 | 72 => 54 | 37 => 22 | 127 => 67 | 3 => 3 | 5 => 5 | n => n, fun | n => n⟩
theorem Tryd.lays169 : Go.Proofs.Lays.n169 Tryd.prog Tryd.lays169_ren := {
  mixed := by kernel_rfl
  f169 := Tryd.func35.trans (congrArg some (by kernel_rfl))
  t0 := Tryd.underlying0
  a0 := Tryd.isAgg0
  z0 := Tryd.sizeOf0
  v0 := Tryd.zeroValue0
  t3 := Tryd.underlying3
  a3 := Tryd.isAgg3
  z3 := Tryd.sizeOf3
  v3 := Tryd.zeroValue3
  t9 := Tryd.underlying9
  a9 := Tryd.isAgg9
  z9 := Tryd.sizeOf9
  v9 := Tryd.zeroValue9
  t37 := Tryd.underlying22
  a37 := Tryd.isAgg22
  z37 := Tryd.sizeOf22
  v37 := Tryd.zeroValue22
  t70 := Tryd.underlying52
  a70 := Tryd.isAgg52
  z70 := Tryd.sizeOf52
  v70 := Tryd.zeroValue52
  t72 := Tryd.underlying54
  a72 := Tryd.isAgg54
  z72 := Tryd.sizeOf54
  v72 := Tryd.zeroValue54
  t127 := Tryd.underlying67
  a127 := Tryd.isAgg67
  z127 := Tryd.sizeOf67
  v127 := Tryd.zeroValue67 }
theorem Tryd.Builder_Extra_169 : Builder.Extra Tryd.prog Tryd.lays169_ren := {
  sizeBuilder := by kernel_rfl
  liesBuilder := by kernel_rfl
  t5 := Tryd.underlying5
  a5 := Tryd.isAgg5
  z5 := Tryd.sizeOf5
  v5 := Tryd.zeroValue5
  infoByte := by kernel_rfl
  cellsByte := by kernel_rfl
  sizeByte := by kernel_rfl
  neB5 := by decide }
open Go.RowKit in
theorem Tryd.Builder_String_any (B b : Nat) (l : List UInt8) (w : World) (h : Lib.IsBuilder 54 5 B b (Lib.byteCells l) w) (hBw : B ≤ w.heap.size) :
    Calls Tryd.prog 35 #[.pointer (some ⟨b, 0, none⟩)] w fun e w' => e = .returned (.string ⟨l.toArray⟩) ∧ Below B w w' := Any.Builder_String_any Tryd.lays169 Tryd.Builder_Extra_169 B b l w h hBw
def Tryd.lays137_ren : Go.Shelf.Ren := ⟨fun | 137 => 48 | 217 => 61 | 266 => 71 | n => n, fun | 9 => 9 | 5 => 5 | 3 => 3 | n => n, fun | n => n⟩
theorem Tryd.lays137 : Go.Proofs.Lays.n137 Tryd.prog Tryd.lays137_ren := {
  mixed := by kernel_rfl
  f137 := Tryd.func48.trans (congrArg some (by kernel_rfl))
  f217 := Tryd.func61.trans (congrArg some (by kernel_rfl))
  f266 := Tryd.func71.trans (congrArg some (by kernel_rfl))
  t3 := Tryd.underlying3
  a3 := Tryd.isAgg3
  z3 := Tryd.sizeOf3
  v3 := Tryd.zeroValue3
  t5 := Tryd.underlying5
  a5 := Tryd.isAgg5
  z5 := Tryd.sizeOf5
  v5 := Tryd.zeroValue5
  t9 := Tryd.underlying9
  a9 := Tryd.isAgg9
  z9 := Tryd.sizeOf9
  v9 := Tryd.zeroValue9 }
open Go.RowKit in
theorem Tryd.strings_IndexByte (s : ByteArray) (c : Int) (w : World) :
    Calls Tryd.prog 48 #[.string s, .int .u8 c] w fun e w' => e = .returned (.int .i64 (Lib.indexByte s.data.toList c.toNat.toUInt8)) ∧ w' = w := Any.strings_IndexByte Tryd.lays137 s c w
end Go.Proofs

namespace Go.Proofs.YtflddgoapibleaaDoor.Esc
open Go.RowKit Go.Proofs.YtflddgoapibleaaDoor.Hand Go.Proofs.YtflddgoapibleaaDoorW.PrintWords Go.Proofs.YtflddgoapibleaaDoorW.PrintLast Go.Proofs.YtflddgoapibleaaDoorW.PrintMore
attribute [local go_sem] max2_int min2_int max_two min_two max_three min_three max_four min_four
set_option linter.unusedVariables false
set_option linter.unusedSimpArgs false
def escape_digit.f (a0 : Int) : Option (Int) := (strings_IndexByte.f (⟨#[48, 49, 50, 51, 52, 53, 54, 55, 56, 57, 97, 98, 99, 100, 101, 102]⟩ : ByteArray) a0).bind fun t306 => (some t306)
end Go.Proofs.YtflddgoapibleaaDoor.Esc

namespace Go.Proofs.YtflddgoapibleaaDoor.Hand
open Go.RowKit Go.Maps Go.Proofs.YtflddgoapibleaaDoorW.PrintWords Go.Proofs.YtflddgoapibleaaDoorW.PrintLast Go.Proofs.YtflddgoapibleaaDoorW.PrintMore
theorem dig_all : ∀ n : Fin 256, Esc.escape_digit.f (n.1 : Int) = some (dig (n.1 : Int)) := by decide +kernel
theorem digit_f (c : Int) (h : 0 ≤ c ∧ c ≤ 255) : Esc.escape_digit.f c = some (dig c) := by
  obtain ⟨n, rfl⟩ := Int.eq_ofNat_of_zero_le h.1
  exact dig_all ⟨n, by omega⟩
theorem dig_range (c : Int) : -1 ≤ dig c ∧ dig c ≤ 15 := by unfold dig; split; · omega
                                                            split <;> omega
set_option maxRecDepth 100000 in
theorem digit_calls (c : Int) (w : World) (h : 0 ≤ c ∧ c ≤ 255) :
    Calls Tryd.prog 32 #[.int .u8 c] w fun e w' => e = .returned (.int .i64 (dig c)) ∧ w' = w := by
  have H := digit_f c h
  unfold Esc.escape_digit.f strings_IndexByte.f at H
  simp only [Option.bind_some] at H
  have H2 := Aside0.mk (Option.some.inj H)
  clear H h
  go_enter Tryd.func32, Tryd.ntmps32
  go_wp2_with (fail)
  refine (Tryd.strings_IndexByte _ _ _).mono ?_
  rintro e w' ⟨rfl, rfl⟩
  go_wp2
  go_ret
  exact ⟨congrArg (fun z => Ending.returned (.int .i64 z)) H2.out, rfl⟩
end Go.Proofs.YtflddgoapibleaaDoor.Hand

namespace Go.Proofs.YtflddgoapibleaaDoor.Hand
open Go.RowKit Go.Maps Go.Proofs.YtflddgoapibleaaDoorW.PrintWords Go.Proofs.YtflddgoapibleaaDoorW.PrintLast Go.Proofs.YtflddgoapibleaaDoorW.PrintMore
theorem zero5 (w : World) : (zeroValue 5).run Tryd.prog w = .ok (.int .u8 0) w := by kernel_rfl
def DigitIs (c d : Int) : Prop := ∀ w, Calls Tryd.prog 32 #[.int .u8 c] w fun e w' => e = .returned (.int .i64 d) ∧ w' = w
theorem digitIs (s : ByteArray) (i d : Int) (h : d = dig (bt s i)) : DigitIs (bt s i) d := fun w => h ▸ digit_calls (bt s i) w (bt_range s i)
theorem short_has_iff (n : Int) : Maps.has (DataW.map shortL) (.int .u8 n) = (decide (n = 9) || decide (n = 10) || decide (n = 13) || decide (n = 92)) := by
  by_cases h9 : n = 9
  · subst h9; decide
  by_cases h10 : n = 10
  · subst h10; decide
  by_cases h13 : n = 13
  · subst h13; decide
  by_cases h92 : n = 92
  · subst h92; decide
  · have e9 : ((9 : Int) = n) = False := by simp; omega
    have e10 : ((10 : Int) = n) = False := by simp; omega
    have e13 : ((13 : Int) = n) = False := by simp; omega
    have e92 : ((92 : Int) = n) = False := by simp; omega
    simp [Maps.has, shortL, Lit.sameKey, e9, e10, e13, e92, h9, h10, h13, h92]
set_option maxHeartbeats 2000000 in
set_option maxRecDepth 100000 in
theorem piece_x_short (s : ByteArray) (w : World) (hG : Globs w) (hs : 0 < s.size) (hne : s.toList.isEmpty = false) (h1 : 2 ≤ s.size) (c0 : (bt s 0 != 92) = false) (hk : NoLetter (bt s 1)) (hk120 : (bt s 1 == 120) = true) (h4 : s.size < 4) :
    Calls Tryd.prog 28 #[.string s] w fun e w' => e = .returned (.tuple #[.slice none 0 0, .int .i64 0]) ∧ Below w.heap.size w w' := by
  obtain ⟨bm, hc, hown⟩ := hG.short
  have HK := Aside0.mk hk
  clear hk hG
  have hx : ∀ h : 0 < s.size, ((s[0]'h).toNat : Int) = bt s 0 := bt_at s 0
  have hx1 : ∀ h : 1 < s.size, ((s[1]'h).toNat : Int) = bt s 1 := bt_at s 1
  go_enter Tryd.func28, Tryd.ntmps28
  go_wp2
  refine wp_scope_two ?_
  intro J2 J1 J0 hJ2 hJ1 hJ0
  go_wp2_with (first
    | (at_range; refine wpList_range_own _ rfl _ 39 rfl 5 5 law5 Tryd.underlying39 _ bm 4 _ rfl hown ?_; intro w0 hrg0 hg0 hs0)
    | go_in)
  go_frame
  have HB := Aside0.mk ((Below.refl w.heap.size w).grown hg0 (Nat.le_refl _) (fun k hk => by cases hk))
  have HC := Aside0.mk hc
  clear hown hc hg0
  go_loopw [34] (fun _ wr => ∃ (left : Lit → Bool) (cnt : Nat), wr.ranges Tryd.prog 5 (plainElem (H := Unit) Tryd.prog 5) bm w.heap.size 4 (.map shortL) left cnt ∧ Below w.heap.size w wr)
    (fun _ wr => wr.rangeLeft bm w.heap.size)
  case atStart => exact ⟨_, _, hrg0, HB.out⟩
  case round =>
    obtain ⟨left, cnt, hrg, hbw⟩ := hrel
    have HB := Aside0.mk hbw
    clear hbw
    go_wp2_with (first
      | (at_next; refine wpList_next_ranges_ii _ rfl _ rfl 5 5 .u8 .u8 law5 Tryd.underlying5 Tryd.underlying5 bm w.heap.size 4 _ _ _ rfl hrg ?_ ?_)
      | go_in)
    · intro _ _
      have HOWN := Aside0.mk hrg.owns
      clear hrg
      go_wp2
      go_step3
      change J2 (.goto 1) _ _
      refine hJ2.goto _ _ _ _ rfl ?_
      go_wp2
      go_step3
      change J1 (.goto 0) _ _
      refine hJ1.goto _ _ _ _ rfl ?_
      go_wp2
      refine hJ0 _ _ _ (by simp) ?_
      go_ret2
      exact ⟨rfl, HB.out⟩
    · intro x c w1 cnt1 hwx hwc hlx hat hrg1 hlt hg1 hs1 hen
      have hb : (c == bt s 1) = false := beq_eq_false_iff_ne.2 (fun e => HK.out x (e ▸ short_at hat))
      have HR := Aside0.mk hrg1
      have HR0 := Aside0.mk hrg
      have HB1 := Aside0.mk (HB.out.grown hg1 (HB.out.size) (fun k hk => by cases hk; exact Nat.le_refl _))
      have HLT := Aside0.mk hlt
      clear hat hrg1 hg1 hlx hwx hwc hrg hlt HB
      go_wp2
      go_roundw
      case rel => exact ⟨_, cnt1, HR.out, HB1.out⟩
      case measure => rw [HR.out.left_eq, HR0.out.left_eq]; exact HLT.out
set_option maxHeartbeats 2000000 in
set_option maxRecDepth 100000 in
theorem piece_x_bad2 (s : ByteArray) (w : World) (hG : Globs w) (hs : 0 < s.size) (hne : s.toList.isEmpty = false) (h1 : 2 ≤ s.size) (c0 : (bt s 0 != 92) = false) (hk : NoLetter (bt s 1)) (hk120 : (bt s 1 == 120) = true) (h4 : 4 ≤ s.size) (d2 : Int) (hd2 : DigitIs (bt s 2) d2) (hl2 : d2 < 0) :
    Calls Tryd.prog 28 #[.string s] w fun e w' => e = .returned (.tuple #[.slice none 0 0, .int .i64 0]) ∧ Below w.heap.size w w' := by
  have D2 := Aside0.mk hd2
  clear hd2
  have hx2 : ∀ h : 2 < s.size, ((s[2]'h).toNat : Int) = bt s 2 := bt_at s 2
  obtain ⟨bm, hc, hown⟩ := hG.short
  have HK := Aside0.mk hk
  clear hk hG
  have hx : ∀ h : 0 < s.size, ((s[0]'h).toNat : Int) = bt s 0 := bt_at s 0
  have hx1 : ∀ h : 1 < s.size, ((s[1]'h).toNat : Int) = bt s 1 := bt_at s 1
  go_enter Tryd.func28, Tryd.ntmps28
  go_wp2
  refine wp_scope_two ?_
  intro J2 J1 J0 hJ2 hJ1 hJ0
  go_wp2_with (first
    | (at_range; refine wpList_range_own _ rfl _ 39 rfl 5 5 law5 Tryd.underlying39 _ bm 4 _ rfl hown ?_; intro w0 hrg0 hg0 hs0)
    | go_in)
  go_frame
  have HB := Aside0.mk ((Below.refl w.heap.size w).grown hg0 (Nat.le_refl _) (fun k hk => by cases hk))
  have HC := Aside0.mk hc
  clear hown hc hg0
  go_loopw [34] (fun _ wr => ∃ (left : Lit → Bool) (cnt : Nat), wr.ranges Tryd.prog 5 (plainElem (H := Unit) Tryd.prog 5) bm w.heap.size 4 (.map shortL) left cnt ∧ Below w.heap.size w wr)
    (fun _ wr => wr.rangeLeft bm w.heap.size)
  case atStart => exact ⟨_, _, hrg0, HB.out⟩
  case round =>
    obtain ⟨left, cnt, hrg, hbw⟩ := hrel
    have HB := Aside0.mk hbw
    clear hbw
    go_wp2_with (first
      | (at_next; refine wpList_next_ranges_ii _ rfl _ rfl 5 5 .u8 .u8 law5 Tryd.underlying5 Tryd.underlying5 bm w.heap.size 4 _ _ _ rfl hrg ?_ ?_)
      | go_in)
    · intro _ _
      have HOWN := Aside0.mk hrg.owns
      clear hrg
      go_wp2
      go_step3
      change J2 (.goto 1) _ _
      refine hJ2.goto _ _ _ _ rfl ?_
      go_wp2_with (go_at_call 32; refine (D2.out _).mono ?_; rintro e w' ⟨rfl, rfl⟩)
      go_step3
      change J1 (.goto 0) _ _
      refine hJ1.goto _ _ _ _ rfl ?_
      go_wp2
      refine hJ0 _ _ _ (by simp) ?_
      go_ret2
      exact ⟨rfl, HB.out⟩
    · intro x c w1 cnt1 hwx hwc hlx hat hrg1 hlt hg1 hs1 hen
      have hb : (c == bt s 1) = false := beq_eq_false_iff_ne.2 (fun e => HK.out x (e ▸ short_at hat))
      have HR := Aside0.mk hrg1
      have HR0 := Aside0.mk hrg
      have HB1 := Aside0.mk (HB.out.grown hg1 (HB.out.size) (fun k hk => by cases hk; exact Nat.le_refl _))
      have HLT := Aside0.mk hlt
      clear hat hrg1 hg1 hlx hwx hwc hrg hlt HB
      go_wp2
      go_roundw
      case rel => exact ⟨_, cnt1, HR.out, HB1.out⟩
      case measure => rw [HR.out.left_eq, HR0.out.left_eq]; exact HLT.out
set_option maxHeartbeats 2000000 in
set_option maxRecDepth 100000 in
theorem piece_x_bad3 (s : ByteArray) (w : World) (hG : Globs w) (hs : 0 < s.size) (hne : s.toList.isEmpty = false) (h1 : 2 ≤ s.size) (c0 : (bt s 0 != 92) = false) (hk : NoLetter (bt s 1)) (hk120 : (bt s 1 == 120) = true) (h4 : 4 ≤ s.size) (d2 d3 : Int) (hd2 : DigitIs (bt s 2) d2) (hl2 : 0 ≤ d2) (hd3 : DigitIs (bt s 3) d3) (hl3 : d3 < 0) :
    Calls Tryd.prog 28 #[.string s] w fun e w' => e = .returned (.tuple #[.slice none 0 0, .int .i64 0]) ∧ Below w.heap.size w w' := by
  have D2 := Aside0.mk hd2
  have D3 := Aside0.mk hd3
  clear hd2 hd3
  have hx2 : ∀ h : 2 < s.size, ((s[2]'h).toNat : Int) = bt s 2 := bt_at s 2
  have hx3 : ∀ h : 3 < s.size, ((s[3]'h).toNat : Int) = bt s 3 := bt_at s 3
  obtain ⟨bm, hc, hown⟩ := hG.short
  have HK := Aside0.mk hk
  clear hk hG
  have hx : ∀ h : 0 < s.size, ((s[0]'h).toNat : Int) = bt s 0 := bt_at s 0
  have hx1 : ∀ h : 1 < s.size, ((s[1]'h).toNat : Int) = bt s 1 := bt_at s 1
  go_enter Tryd.func28, Tryd.ntmps28
  go_wp2
  refine wp_scope_two ?_
  intro J2 J1 J0 hJ2 hJ1 hJ0
  go_wp2_with (first
    | (at_range; refine wpList_range_own _ rfl _ 39 rfl 5 5 law5 Tryd.underlying39 _ bm 4 _ rfl hown ?_; intro w0 hrg0 hg0 hs0)
    | go_in)
  go_frame
  have HB := Aside0.mk ((Below.refl w.heap.size w).grown hg0 (Nat.le_refl _) (fun k hk => by cases hk))
  have HC := Aside0.mk hc
  clear hown hc hg0
  go_loopw [34] (fun _ wr => ∃ (left : Lit → Bool) (cnt : Nat), wr.ranges Tryd.prog 5 (plainElem (H := Unit) Tryd.prog 5) bm w.heap.size 4 (.map shortL) left cnt ∧ Below w.heap.size w wr)
    (fun _ wr => wr.rangeLeft bm w.heap.size)
  case atStart => exact ⟨_, _, hrg0, HB.out⟩
  case round =>
    obtain ⟨left, cnt, hrg, hbw⟩ := hrel
    have HB := Aside0.mk hbw
    clear hbw
    go_wp2_with (first
      | (at_next; refine wpList_next_ranges_ii _ rfl _ rfl 5 5 .u8 .u8 law5 Tryd.underlying5 Tryd.underlying5 bm w.heap.size 4 _ _ _ rfl hrg ?_ ?_)
      | go_in)
    · intro _ _
      have HOWN := Aside0.mk hrg.owns
      clear hrg
      go_wp2
      go_step3
      change J2 (.goto 1) _ _
      refine hJ2.goto _ _ _ _ rfl ?_
      go_wp2_with (fail)
      refine (D2.out _).mono ?_
      rintro e w' ⟨rfl, rfl⟩
      go_wp2_with (fail)
      refine (D3.out _).mono ?_
      rintro e w' ⟨rfl, rfl⟩
      go_wp2
      go_step3
      change J1 (.goto 0) _ _
      refine hJ1.goto _ _ _ _ rfl ?_
      go_wp2
      refine hJ0 _ _ _ (by simp) ?_
      go_ret2
      exact ⟨rfl, HB.out⟩
    · intro x c w1 cnt1 hwx hwc hlx hat hrg1 hlt hg1 hs1 hen
      have hb : (c == bt s 1) = false := beq_eq_false_iff_ne.2 (fun e => HK.out x (e ▸ short_at hat))
      have HR := Aside0.mk hrg1
      have HR0 := Aside0.mk hrg
      have HB1 := Aside0.mk (HB.out.grown hg1 (HB.out.size) (fun k hk => by cases hk; exact Nat.le_refl _))
      have HLT := Aside0.mk hlt
      clear hat hrg1 hg1 hlx hwx hwc hrg hlt HB
      go_wp2
      go_roundw
      case rel => exact ⟨_, cnt1, HR.out, HB1.out⟩
      case measure => rw [HR.out.left_eq, HR0.out.left_eq]; exact HLT.out
set_option maxHeartbeats 2000000 in
set_option maxRecDepth 100000 in
theorem piece_x_in (s : ByteArray) (w : World) (hG : Globs w) (hs : 0 < s.size) (hne : s.toList.isEmpty = false) (h1 : 2 ≤ s.size) (c0 : (bt s 0 != 92) = false) (hk : NoLetter (bt s 1)) (hk120 : (bt s 1 == 120) = true) (h4 : 4 ≤ s.size) (d2 d3 : Int) (hd2 : DigitIs (bt s 2) d2) (hl2 : 0 ≤ d2) (hu2 : d2 ≤ 15) (hd3 : DigitIs (bt s 3) d3) (hl3 : 0 ≤ d3) (hu3 : d3 ≤ 15) (hwf : (Lit.int .u8 (16 * d2 + d3)).wf = true) (hhas : Maps.has (DataW.map shortL) (.int .u8 (16 * d2 + d3)) = true) :
    Calls Tryd.prog 28 #[.string s] w fun e w' => e = .returned (.tuple #[.slice none 0 0, .int .i64 0]) ∧ Below w.heap.size w w' := by
  have D2 := Aside0.mk hd2
  have D3 := Aside0.mk hd3
  clear hd2 hd3
  have hx2 : ∀ h : 2 < s.size, ((s[2]'h).toNat : Int) = bt s 2 := bt_at s 2
  have hx3 : ∀ h : 3 < s.size, ((s[3]'h).toNat : Int) = bt s 3 := bt_at s 3
  have HWF := Aside0.mk hwf
  have HHAS := Aside0.mk hhas
  clear hwf hhas
  obtain ⟨bm, hc, hown⟩ := hG.short
  have HK := Aside0.mk hk
  clear hk hG
  have hx : ∀ h : 0 < s.size, ((s[0]'h).toNat : Int) = bt s 0 := bt_at s 0
  have hx1 : ∀ h : 1 < s.size, ((s[1]'h).toNat : Int) = bt s 1 := bt_at s 1
  go_enter Tryd.func28, Tryd.ntmps28
  go_wp2
  refine wp_scope_two ?_
  intro J2 J1 J0 hJ2 hJ1 hJ0
  go_wp2_with (first
    | (at_range; refine wpList_range_own _ rfl _ 39 rfl 5 5 law5 Tryd.underlying39 _ bm 4 _ rfl hown ?_; intro w0 hrg0 hg0 hs0)
    | go_in)
  go_frame
  have HB := Aside0.mk ((Below.refl w.heap.size w).grown hg0 (Nat.le_refl _) (fun k hk => by cases hk))
  have HC := Aside0.mk hc
  clear hown hc hg0
  go_loopw [34] (fun _ wr => ∃ (left : Lit → Bool) (cnt : Nat), wr.ranges Tryd.prog 5 (plainElem (H := Unit) Tryd.prog 5) bm w.heap.size 4 (.map shortL) left cnt ∧ Below w.heap.size w wr)
    (fun _ wr => wr.rangeLeft bm w.heap.size)
  case atStart => exact ⟨_, _, hrg0, HB.out⟩
  case round =>
    obtain ⟨left, cnt, hrg, hbw⟩ := hrel
    have HB := Aside0.mk hbw
    clear hbw
    go_wp2_with (first
      | (at_next; refine wpList_next_ranges_ii _ rfl _ rfl 5 5 .u8 .u8 law5 Tryd.underlying5 Tryd.underlying5 bm w.heap.size 4 _ _ _ rfl hrg ?_ ?_)
      | go_in)
    · intro _ _
      have HOWN := Aside0.mk hrg.owns
      clear hrg
      go_wp2
      go_step3
      change J2 (.goto 1) _ _
      refine hJ2.goto _ _ _ _ rfl ?_
      go_wp2_with (fail)
      refine (D2.out _).mono ?_
      rintro e w' ⟨rfl, rfl⟩
      go_wp2_with (fail)
      refine (D3.out _).mono ?_
      rintro e w' ⟨rfl, rfl⟩
      go_wp2
      go_quiet ((first | (go_at_call 32; exact Calls.quiet_of_same (D2.out _)) | (go_at_call 32; exact Calls.quiet_of_same (D3.out _))))
      have hc2 := pw_cell_below (pw_below_drewN HB.out nq) HC.out
      have HOW2 := Aside0.mk (HOWN.out.kept (grown_of_below (pw_below_drewN (Below.refl _ _) nq) none) (by simp))
      go_wp2_with (at_lookup; refine wpList_lookup_own_ok_int _ rfl _ _ 39 rfl 5 5 .u8 law5 Tryd.underlying39 Tryd.underlying5 (zero5 _) bm 4 _ rfl HOW2.out _ _ rfl (keyOf_int_mk Tryd.underlying5 HWF.out) ?_; intro c hatc hwc; rw [HHAS.out]; clear hatc hwc)
      go_step3
      change J1 (.goto 0) _ _
      refine hJ1.goto _ _ _ _ rfl ?_
      go_wp2
      refine hJ0 _ _ _ (by simp) ?_
      go_ret2
      exact ⟨rfl, pw_below_drewN HB.out nq⟩
    · intro x c w1 cnt1 hwx hwc hlx hat hrg1 hlt hg1 hs1 hen
      have hb : (c == bt s 1) = false := beq_eq_false_iff_ne.2 (fun e => HK.out x (e ▸ short_at hat))
      have HR := Aside0.mk hrg1
      have HR0 := Aside0.mk hrg
      have HB1 := Aside0.mk (HB.out.grown hg1 (HB.out.size) (fun k hk => by cases hk; exact Nat.le_refl _))
      have HLT := Aside0.mk hlt
      clear hat hrg1 hg1 hlx hwx hwc hrg hlt HB
      go_wp2
      go_roundw
      case rel => exact ⟨_, cnt1, HR.out, HB1.out⟩
      case measure => rw [HR.out.left_eq, HR0.out.left_eq]; exact HLT.out
set_option maxHeartbeats 2000000 in
set_option maxRecDepth 100000 in
theorem piece_x_print (s : ByteArray) (w : World) (hG : Globs w) (hs : 0 < s.size) (hne : s.toList.isEmpty = false) (h1 : 2 ≤ s.size) (c0 : (bt s 0 != 92) = false) (hk : NoLetter (bt s 1)) (hk120 : (bt s 1 == 120) = true) (h4 : 4 ≤ s.size) (d2 d3 : Int) (hd2 : DigitIs (bt s 2) d2) (hl2 : 0 ≤ d2) (hu2 : d2 ≤ 15) (hd3 : DigitIs (bt s 3) d3) (hl3 : 0 ≤ d3) (hu3 : d3 ≤ 15) (hwf : (Lit.int .u8 (16 * d2 + d3)).wf = true) (hhas : Maps.has (DataW.map shortL) (.int .u8 (16 * d2 + d3)) = false) (c5 : decide (32 ≤ 16 * d2 + d3) = true) (c6 : decide (16 * d2 + d3 < 127) = true) :
    Calls Tryd.prog 28 #[.string s] w fun e w' => e = .returned (.tuple #[.slice none 0 0, .int .i64 0]) ∧ Below w.heap.size w w' := by
  have D2 := Aside0.mk hd2
  have D3 := Aside0.mk hd3
  clear hd2 hd3
  have hx2 : ∀ h : 2 < s.size, ((s[2]'h).toNat : Int) = bt s 2 := bt_at s 2
  have hx3 : ∀ h : 3 < s.size, ((s[3]'h).toNat : Int) = bt s 3 := bt_at s 3
  have HWF := Aside0.mk hwf
  have HHAS := Aside0.mk hhas
  clear hwf hhas
  obtain ⟨bm, hc, hown⟩ := hG.short
  have HK := Aside0.mk hk
  clear hk hG
  have hx : ∀ h : 0 < s.size, ((s[0]'h).toNat : Int) = bt s 0 := bt_at s 0
  have hx1 : ∀ h : 1 < s.size, ((s[1]'h).toNat : Int) = bt s 1 := bt_at s 1
  go_enter Tryd.func28, Tryd.ntmps28
  go_wp2
  refine wp_scope_two ?_
  intro J2 J1 J0 hJ2 hJ1 hJ0
  go_wp2_with (first
    | (at_range; refine wpList_range_own _ rfl _ 39 rfl 5 5 law5 Tryd.underlying39 _ bm 4 _ rfl hown ?_; intro w0 hrg0 hg0 hs0)
    | go_in)
  go_frame
  have HB := Aside0.mk ((Below.refl w.heap.size w).grown hg0 (Nat.le_refl _) (fun k hk => by cases hk))
  have HC := Aside0.mk hc
  clear hown hc hg0
  go_loopw [34] (fun _ wr => ∃ (left : Lit → Bool) (cnt : Nat), wr.ranges Tryd.prog 5 (plainElem (H := Unit) Tryd.prog 5) bm w.heap.size 4 (.map shortL) left cnt ∧ Below w.heap.size w wr)
    (fun _ wr => wr.rangeLeft bm w.heap.size)
  case atStart => exact ⟨_, _, hrg0, HB.out⟩
  case round =>
    obtain ⟨left, cnt, hrg, hbw⟩ := hrel
    have HB := Aside0.mk hbw
    clear hbw
    go_wp2_with (first
      | (at_next; refine wpList_next_ranges_ii _ rfl _ rfl 5 5 .u8 .u8 law5 Tryd.underlying5 Tryd.underlying5 bm w.heap.size 4 _ _ _ rfl hrg ?_ ?_)
      | go_in)
    · intro _ _
      have HOWN := Aside0.mk hrg.owns
      clear hrg
      go_wp2
      go_step3
      change J2 (.goto 1) _ _
      refine hJ2.goto _ _ _ _ rfl ?_
      go_wp2_with (fail)
      refine (D2.out _).mono ?_
      rintro e w' ⟨rfl, rfl⟩
      go_wp2_with (fail)
      refine (D3.out _).mono ?_
      rintro e w' ⟨rfl, rfl⟩
      go_wp2
      go_quiet ((first | (go_at_call 32; exact Calls.quiet_of_same (D2.out _)) | (go_at_call 32; exact Calls.quiet_of_same (D3.out _))))
      have hc2 := pw_cell_below (pw_below_drewN HB.out nq) HC.out
      have HOW2 := Aside0.mk (HOWN.out.kept (grown_of_below (pw_below_drewN (Below.refl _ _) nq) none) (by simp))
      go_wp2_with (at_lookup; refine wpList_lookup_own_ok_int _ rfl _ _ 39 rfl 5 5 .u8 law5 Tryd.underlying39 Tryd.underlying5 (zero5 _) bm 4 _ rfl HOW2.out _ _ rfl (keyOf_int_mk Tryd.underlying5 HWF.out) ?_; intro c hatc hwc; rw [HHAS.out]; clear hatc hwc)
      go_step3
      change J1 (.goto 0) _ _
      refine hJ1.goto _ _ _ _ rfl ?_
      go_wp2
      refine hJ0 _ _ _ (by simp) ?_
      go_ret2
      exact ⟨rfl, pw_below_drewN HB.out nq⟩
    · intro x c w1 cnt1 hwx hwc hlx hat hrg1 hlt hg1 hs1 hen
      have hb : (c == bt s 1) = false := beq_eq_false_iff_ne.2 (fun e => HK.out x (e ▸ short_at hat))
      have HR := Aside0.mk hrg1
      have HR0 := Aside0.mk hrg
      have HB1 := Aside0.mk (HB.out.grown hg1 (HB.out.size) (fun k hk => by cases hk; exact Nat.le_refl _))
      have HLT := Aside0.mk hlt
      clear hat hrg1 hg1 hlx hwx hwc hrg hlt HB
      go_wp2
      go_roundw
      case rel => exact ⟨_, cnt1, HR.out, HB1.out⟩
      case measure => rw [HR.out.left_eq, HR0.out.left_eq]; exact HLT.out
set_option maxHeartbeats 2000000 in
set_option maxRecDepth 100000 in
theorem piece_x_low (s : ByteArray) (w : World) (hG : Globs w) (hs : 0 < s.size) (hne : s.toList.isEmpty = false) (h1 : 2 ≤ s.size) (c0 : (bt s 0 != 92) = false) (hk : NoLetter (bt s 1)) (hk120 : (bt s 1 == 120) = true) (h4 : 4 ≤ s.size) (d2 d3 : Int) (hd2 : DigitIs (bt s 2) d2) (hl2 : 0 ≤ d2) (hu2 : d2 ≤ 15) (hd3 : DigitIs (bt s 3) d3) (hl3 : 0 ≤ d3) (hu3 : d3 ≤ 15) (hwf : (Lit.int .u8 (16 * d2 + d3)).wf = true) (hhas : Maps.has (DataW.map shortL) (.int .u8 (16 * d2 + d3)) = false) (c5 : decide (32 ≤ 16 * d2 + d3) = false) :
    Calls Tryd.prog 28 #[.string s] w fun e w' => ∃ v : Value, e = .returned (.tuple #[v, .int .i64 4]) ∧ Kd.R (Kd.int .u8) 5 w' w.heap.size (fun _ => True) v [16 * d2 + d3] ∧ Below w.heap.size w w' := by
  have D2 := Aside0.mk hd2
  have D3 := Aside0.mk hd3
  clear hd2 hd3
  have hx2 : ∀ h : 2 < s.size, ((s[2]'h).toNat : Int) = bt s 2 := bt_at s 2
  have hx3 : ∀ h : 3 < s.size, ((s[3]'h).toNat : Int) = bt s 3 := bt_at s 3
  have HWF := Aside0.mk hwf
  have HHAS := Aside0.mk hhas
  clear hwf hhas
  obtain ⟨bm, hc, hown⟩ := hG.short
  have HK := Aside0.mk hk
  clear hk hG
  have hx : ∀ h : 0 < s.size, ((s[0]'h).toNat : Int) = bt s 0 := bt_at s 0
  have hx1 : ∀ h : 1 < s.size, ((s[1]'h).toNat : Int) = bt s 1 := bt_at s 1
  go_enter Tryd.func28, Tryd.ntmps28
  go_wp2
  refine wp_scope_two ?_
  intro J2 J1 J0 hJ2 hJ1 hJ0
  go_wp2_with (first
    | (at_range; refine wpList_range_own _ rfl _ 39 rfl 5 5 law5 Tryd.underlying39 _ bm 4 _ rfl hown ?_; intro w0 hrg0 hg0 hs0)
    | go_in)
  go_frame
  have HB := Aside0.mk ((Below.refl w.heap.size w).grown hg0 (Nat.le_refl _) (fun k hk => by cases hk))
  have HC := Aside0.mk hc
  clear hown hc hg0
  go_loopw [34] (fun _ wr => ∃ (left : Lit → Bool) (cnt : Nat), wr.ranges Tryd.prog 5 (plainElem (H := Unit) Tryd.prog 5) bm w.heap.size 4 (.map shortL) left cnt ∧ Below w.heap.size w wr)
    (fun _ wr => wr.rangeLeft bm w.heap.size)
  case atStart => exact ⟨_, _, hrg0, HB.out⟩
  case round =>
    obtain ⟨left, cnt, hrg, hbw⟩ := hrel
    have HB := Aside0.mk hbw
    clear hbw
    go_wp2_with (first
      | (at_next; refine wpList_next_ranges_ii _ rfl _ rfl 5 5 .u8 .u8 law5 Tryd.underlying5 Tryd.underlying5 bm w.heap.size 4 _ _ _ rfl hrg ?_ ?_)
      | go_in)
    · intro _ _
      have HOWN := Aside0.mk hrg.owns
      clear hrg
      go_wp2
      go_step3
      change J2 (.goto 1) _ _
      refine hJ2.goto _ _ _ _ rfl ?_
      go_wp2_with (fail)
      refine (D2.out _).mono ?_
      rintro e w' ⟨rfl, rfl⟩
      go_wp2_with (fail)
      refine (D3.out _).mono ?_
      rintro e w' ⟨rfl, rfl⟩
      go_wp2
      go_quiet ((first | (go_at_call 32; exact Calls.quiet_of_same (D2.out _)) | (go_at_call 32; exact Calls.quiet_of_same (D3.out _))))
      have hc2 := pw_cell_below (pw_below_drewN HB.out nq) HC.out
      have HOW2 := Aside0.mk (HOWN.out.kept (grown_of_below (pw_below_drewN (Below.refl _ _) nq) none) (by simp))
      go_wp2_with (at_lookup; refine wpList_lookup_own_ok_int _ rfl _ _ 39 rfl 5 5 .u8 law5 Tryd.underlying39 Tryd.underlying5 (zero5 _) bm 4 _ rfl HOW2.out _ _ rfl (keyOf_int_mk Tryd.underlying5 HWF.out) ?_; intro c hatc hwc; rw [HHAS.out]; clear hatc hwc)
      go_wp2
      refine hJ1.other _ _ _ (by simp) ?_
      go_ret2
      exact ⟨_, rfl, lit_one _ _ _ (pw_below_drewN HB.out nq).size, below_alloc (pw_below_drewN HB.out nq) _⟩
    · intro x c w1 cnt1 hwx hwc hlx hat hrg1 hlt hg1 hs1 hen
      have hb : (c == bt s 1) = false := beq_eq_false_iff_ne.2 (fun e => HK.out x (e ▸ short_at hat))
      have HR := Aside0.mk hrg1
      have HR0 := Aside0.mk hrg
      have HB1 := Aside0.mk (HB.out.grown hg1 (HB.out.size) (fun k hk => by cases hk; exact Nat.le_refl _))
      have HLT := Aside0.mk hlt
      clear hat hrg1 hg1 hlx hwx hwc hrg hlt HB
      go_wp2
      go_roundw
      case rel => exact ⟨_, cnt1, HR.out, HB1.out⟩
      case measure => rw [HR.out.left_eq, HR0.out.left_eq]; exact HLT.out
set_option maxHeartbeats 2000000 in
set_option maxRecDepth 100000 in
theorem piece_x_high (s : ByteArray) (w : World) (hG : Globs w) (hs : 0 < s.size) (hne : s.toList.isEmpty = false) (h1 : 2 ≤ s.size) (c0 : (bt s 0 != 92) = false) (hk : NoLetter (bt s 1)) (hk120 : (bt s 1 == 120) = true) (h4 : 4 ≤ s.size) (d2 d3 : Int) (hd2 : DigitIs (bt s 2) d2) (hl2 : 0 ≤ d2) (hu2 : d2 ≤ 15) (hd3 : DigitIs (bt s 3) d3) (hl3 : 0 ≤ d3) (hu3 : d3 ≤ 15) (hwf : (Lit.int .u8 (16 * d2 + d3)).wf = true) (hhas : Maps.has (DataW.map shortL) (.int .u8 (16 * d2 + d3)) = false) (c5 : decide (32 ≤ 16 * d2 + d3) = true) (c6 : decide (16 * d2 + d3 < 127) = false) :
    Calls Tryd.prog 28 #[.string s] w fun e w' => ∃ v : Value, e = .returned (.tuple #[v, .int .i64 4]) ∧ Kd.R (Kd.int .u8) 5 w' w.heap.size (fun _ => True) v [16 * d2 + d3] ∧ Below w.heap.size w w' := by
  have D2 := Aside0.mk hd2
  have D3 := Aside0.mk hd3
  clear hd2 hd3
  have hx2 : ∀ h : 2 < s.size, ((s[2]'h).toNat : Int) = bt s 2 := bt_at s 2
  have hx3 : ∀ h : 3 < s.size, ((s[3]'h).toNat : Int) = bt s 3 := bt_at s 3
  have HWF := Aside0.mk hwf
  have HHAS := Aside0.mk hhas
  clear hwf hhas
  obtain ⟨bm, hc, hown⟩ := hG.short
  have HK := Aside0.mk hk
  clear hk hG
  have hx : ∀ h : 0 < s.size, ((s[0]'h).toNat : Int) = bt s 0 := bt_at s 0
  have hx1 : ∀ h : 1 < s.size, ((s[1]'h).toNat : Int) = bt s 1 := bt_at s 1
  go_enter Tryd.func28, Tryd.ntmps28
  go_wp2
  refine wp_scope_two ?_
  intro J2 J1 J0 hJ2 hJ1 hJ0
  go_wp2_with (first
    | (at_range; refine wpList_range_own _ rfl _ 39 rfl 5 5 law5 Tryd.underlying39 _ bm 4 _ rfl hown ?_; intro w0 hrg0 hg0 hs0)
    | go_in)
  go_frame
  have HB := Aside0.mk ((Below.refl w.heap.size w).grown hg0 (Nat.le_refl _) (fun k hk => by cases hk))
  have HC := Aside0.mk hc
  clear hown hc hg0
  go_loopw [34] (fun _ wr => ∃ (left : Lit → Bool) (cnt : Nat), wr.ranges Tryd.prog 5 (plainElem (H := Unit) Tryd.prog 5) bm w.heap.size 4 (.map shortL) left cnt ∧ Below w.heap.size w wr)
    (fun _ wr => wr.rangeLeft bm w.heap.size)
  case atStart => exact ⟨_, _, hrg0, HB.out⟩
  case round =>
    obtain ⟨left, cnt, hrg, hbw⟩ := hrel
    have HB := Aside0.mk hbw
    clear hbw
    go_wp2_with (first
      | (at_next; refine wpList_next_ranges_ii _ rfl _ rfl 5 5 .u8 .u8 law5 Tryd.underlying5 Tryd.underlying5 bm w.heap.size 4 _ _ _ rfl hrg ?_ ?_)
      | go_in)
    · intro _ _
      have HOWN := Aside0.mk hrg.owns
      clear hrg
      go_wp2
      go_step3
      change J2 (.goto 1) _ _
      refine hJ2.goto _ _ _ _ rfl ?_
      go_wp2_with (fail)
      refine (D2.out _).mono ?_
      rintro e w' ⟨rfl, rfl⟩
      go_wp2_with (fail)
      refine (D3.out _).mono ?_
      rintro e w' ⟨rfl, rfl⟩
      go_wp2
      go_quiet ((first | (go_at_call 32; exact Calls.quiet_of_same (D2.out _)) | (go_at_call 32; exact Calls.quiet_of_same (D3.out _))))
      have hc2 := pw_cell_below (pw_below_drewN HB.out nq) HC.out
      have HOW2 := Aside0.mk (HOWN.out.kept (grown_of_below (pw_below_drewN (Below.refl _ _) nq) none) (by simp))
      go_wp2_with (at_lookup; refine wpList_lookup_own_ok_int _ rfl _ _ 39 rfl 5 5 .u8 law5 Tryd.underlying39 Tryd.underlying5 (zero5 _) bm 4 _ rfl HOW2.out _ _ rfl (keyOf_int_mk Tryd.underlying5 HWF.out) ?_; intro c hatc hwc; rw [HHAS.out]; clear hatc hwc)
      go_wp2
      refine hJ1.other _ _ _ (by simp) ?_
      go_ret2
      exact ⟨_, rfl, lit_one _ _ _ (pw_below_drewN HB.out nq).size, below_alloc (pw_below_drewN HB.out nq) _⟩
    · intro x c w1 cnt1 hwx hwc hlx hat hrg1 hlt hg1 hs1 hen
      have hb : (c == bt s 1) = false := beq_eq_false_iff_ne.2 (fun e => HK.out x (e ▸ short_at hat))
      have HR := Aside0.mk hrg1
      have HR0 := Aside0.mk hrg
      have HB1 := Aside0.mk (HB.out.grown hg1 (HB.out.size) (fun k hk => by cases hk; exact Nat.le_refl _))
      have HLT := Aside0.mk hlt
      clear hat hrg1 hg1 hlx hwx hwc hrg hlt HB
      go_wp2
      go_roundw
      case rel => exact ⟨_, cnt1, HR.out, HB1.out⟩
      case measure => rw [HR.out.left_eq, HR0.out.left_eq]; exact HLT.out
end Go.Proofs.YtflddgoapibleaaDoor.Hand

namespace Go.Proofs.YtflddgoapibleaaDoor.Hand
open Go.RowKit Go.Proofs.YtflddgoapibleaaDoorW.PrintWords Go.Proofs.YtflddgoapibleaaDoorW.PrintLast Go.Proofs.YtflddgoapibleaaDoorW.PrintMore
attribute [local go_sem] max2_int min2_int max_two min_two max_three min_three max_four min_four
set_option linter.unusedVariables false
set_option linter.unusedSimpArgs false
mutual
def octet_Bytes.j0 : Nat → Int → Bool → Option (List Int)
  | 0, _, _ => none
  | k + 1, x0, x3 => if x3 = true then ((octet_Bytes.f k 65533).bind fun t133 => (some t133)) else (if x0 < 128 then (some (([(x0) % 256] : List Int))) else (if x0 < 2048 then (some (([Go.bits .or .u8 192 ((x0 / 64) % 256), Go.bits .or .u8 128 ((Go.bits .and .i32 x0 63) % 256)] : List Int))) else (if x0 < 65536 then (some (([Go.bits .or .u8 224 ((x0 / 4096) % 256), Go.bits .or .u8 128 ((Go.bits .and .i32 (x0 / 64) 63) % 256), Go.bits .or .u8 128 ((Go.bits .and .i32 x0 63) % 256)] : List Int))) else (some (([Go.bits .or .u8 240 ((x0 / 262144) % 256), Go.bits .or .u8 128 ((Go.bits .and .i32 (x0 / 4096) 63) % 256), Go.bits .or .u8 128 ((Go.bits .and .i32 (x0 / 64) 63) % 256), Go.bits .or .u8 128 ((Go.bits .and .i32 x0 63) % 256)] : List Int))))))
def octet_Bytes.f : Nat → Int → Option (List Int)
  | 0, _ => none
  | k + 1, a0 => if a0 < 0 then (octet_Bytes.j0 k a0 true) else (if a0 > 1114111 then (octet_Bytes.j0 k a0 true) else (if a0 ≥ 55296 then (octet_Bytes.j0 k a0 (decide (a0 ≤ 57343))) else (octet_Bytes.j0 k a0 false)))
end
set_option maxHeartbeats 8000000 in
set_option maxRecDepth 100000 in
theorem octet_Bytes.calls (k : Nat) : ∀ (a0 : Int) (r : List Int) (w : World) (h : octet_Bytes.f k a0 = some r),
    Calls Tryd.prog 44 #[.int .i32 a0] w fun e w' => ∃ v0_ : Value, e = .returned (v0_) ∧ Kd.R (Kd.int .u8) 5 w' w.heap.size (fun _ => True) v0_ r ∧ Below w.heap.size w w' := by
  induction k using Nat.strongRecOn with
  | _ k ih =>
  intro a0 r w h
  cases k with
  | zero => exact absurd h (by simp [octet_Bytes.f])
  | succ k =>
  simp only [octet_Bytes.f] at h
  have HB := Aside0.mk (Below.refl w.heap.size w)
  have H : (if a0 < 0 then (octet_Bytes.j0 k a0 true) else (if a0 > 1114111 then (octet_Bytes.j0 k a0 true) else (if a0 ≥ 55296 then (octet_Bytes.j0 k a0 (decide (a0 ≤ 57343))) else (octet_Bytes.j0 k a0 false)))) = some r := h
  clear h
  have HC2 := Aside0.mk H
  clear H
  go_enter Tryd.func44, Tryd.ntmps44
  go_upto_region 1 with (fail)
  go_cut [3] (fun v3 wc => ∃ (kq : Nat) (x3_1 : Bool), v3 = .bool x3_1 ∧ Aside0 (octet_Bytes.j0 kq a0 x3_1 = some r) ∧ Aside0 (kq ≤ k) ∧ Aside0 (Below w.heap.size w wc))
  case first =>
    have H := HC2.out
    clear HC2
    by_cases c3 : a0 < 0
    · rw [if_pos c3] at H
      have c3b0 : decide (a0 < 0) = true := decide_eq_true c3
      clear c3
      (first | rw [c3b0] | (simp only [i64_w, i32_w]; rw [c3b0]) | skip)
      have H' := Aside0.mk H
      clear H
      go_wp2
      go_meet
      case rel => exact ⟨_, (true), (by first | rfl | (simp; done) | (simp [*]; done)), H', ⟨by first | omega | exact Nat.le_refl _⟩, ⟨by repeat (first | (with_reducible first | exact HB.out | apply below_alloc | apply pw_below_drewN | apply below_drew1) | exact HB.out)⟩⟩
    · rw [if_neg c3] at H
      have c3b0 : decide (a0 < 0) = false := decide_eq_false c3
      clear c3
      (first | rw [c3b0] | (simp only [i64_w, i32_w]; rw [c3b0]) | skip)
      by_cases c4 : a0 > 1114111
      · rw [if_pos c4] at H
        have c4b0 : decide (1114111 < a0) = true := decide_eq_true c4
        clear c4
        have H' := Aside0.mk H
        clear H
        go_wp2
        go_meet
        case rel => exact ⟨_, (true), (by first | rfl | (simp; done) | (simp [*]; done)), H', ⟨by first | omega | exact Nat.le_refl _⟩, ⟨by repeat (first | (with_reducible first | exact HB.out | apply below_alloc | apply pw_below_drewN | apply below_drew1) | exact HB.out)⟩⟩
      · rw [if_neg c4] at H
        have c4b0 : decide (1114111 < a0) = false := decide_eq_false c4
        clear c4
        by_cases c5 : a0 ≥ 55296
        · rw [if_pos c5] at H
          have c5b0 : decide (55296 ≤ a0) = true := decide_eq_true c5
          clear c5
          have H' := Aside0.mk H
          clear H
          go_wp2
          go_meet
          case rel => exact ⟨_, (decide (a0 ≤ 57343)), (by first | rfl | (simp; done) | (simp [*]; done)), H', ⟨by first | omega | exact Nat.le_refl _⟩, ⟨by repeat (first | (with_reducible first | exact HB.out | apply below_alloc | apply pw_below_drewN | apply below_drew1) | exact HB.out)⟩⟩
        · rw [if_neg c5] at H
          have c5b0 : decide (55296 ≤ a0) = false := decide_eq_false c5
          clear c5
          have H' := Aside0.mk H
          clear H
          go_wp2
          go_meet
          case rel => exact ⟨_, (false), (by first | rfl | (simp; done) | (simp [*]; done)), H', ⟨by first | omega | exact Nat.le_refl _⟩, ⟨by repeat (first | (with_reducible first | exact HB.out | apply below_alloc | apply pw_below_drewN | apply below_drew1) | exact HB.out)⟩⟩
  case rest =>
    clear HC2
    try clear p2
    try clear c3
    try clear c3b0
    try clear c4
    try clear c4b0
    try clear c5
    try clear c5b0
    obtain ⟨kq, x3_1, rfl, HA, HJ1, HB⟩ := hcut
    cases kq with
    | zero => exact absurd HA.out (by simp [octet_Bytes.j0])
    | succ kj1 =>
      have H := HA.out
      clear HA
      simp only [octet_Bytes.j0] at H
      by_cases c6 : x3_1 = true
      · subst c6
        have H1 : ((octet_Bytes.f kj1 65533).bind fun t133 => (some t133)) = some r := by rw [if_pos rfl] at H; exact H
        clear H
        have H := H1
        clear H1
        replace H := Option.bind_eq_some_iff.mp H
        obtain ⟨t133, A70, H⟩ := H
        replace H : (some t133) = some r := H
        have A7 := Aside0.mk A70
        clear A70
        obtain rfl := Option.some.inj H
        go_wp2_with (first | ((with_reducible refine gate_callee (f := 44) rfl ?_); refine goesL_ (some 18) rfl rfl Tryd.func44 (by kernel_rfl) rfl #[.int .i32 65533] rfl (by (try simp only [List.map_toArray, List.map_cons, List.map_nil]); first | done | rfl | (simp only [List.length_drop, List.length_take]; rfl)) ?_; (with_reducible refine (ih kj1 (by have := HJ1.out; omega) 65533 t133 _ A7.out).mono ?_); rintro e w8 ⟨v134, rfl, ho0, hb⟩; refine ⟨_, rfl, ?_⟩; have n0_ := Aside0.mk (Kd.R_lower ho0 (below_size (by repeat (first | (with_reducible first | exact HB.out | apply below_alloc | apply pw_below_drewN | apply below_drew1) | exact HB.out)))); have n1_ := Aside0.mk (below_step (by repeat (first | (with_reducible first | exact HB.out | apply below_alloc | apply pw_below_drewN | apply below_drew1) | exact HB.out)) hb); clear HB; have HO135 := n0_; have HB := n1_; clear n0_ n1_; (try clear hb); (try clear hb2); (try clear hk); (try clear hi); (try clear ho0)))
        go_ret
        exact ⟨_, by first | rfl | (simp [errW_none, errW_some] <;> rfl) | (simp [*, errW_none, errW_some] <;> rfl), by (with_reducible repeat (first | apply Kd.R_alloc | apply Kd.R_drewN | apply Kd.R_drew)); exact HO135.out, by repeat (first | (with_reducible first | exact HB.out | apply below_alloc | apply pw_below_drewN | apply below_drew1) | exact HB.out)⟩
      · replace c6 := Bool.eq_false_iff.mpr c6
        subst c6
        have H1 : (if a0 < 128 then (some (([(a0) % 256] : List Int))) else (if a0 < 2048 then (some (([Go.bits .or .u8 192 ((a0 / 64) % 256), Go.bits .or .u8 128 ((Go.bits .and .i32 a0 63) % 256)] : List Int))) else (if a0 < 65536 then (some (([Go.bits .or .u8 224 ((a0 / 4096) % 256), Go.bits .or .u8 128 ((Go.bits .and .i32 (a0 / 64) 63) % 256), Go.bits .or .u8 128 ((Go.bits .and .i32 a0 63) % 256)] : List Int))) else (some (([Go.bits .or .u8 240 ((a0 / 262144) % 256), Go.bits .or .u8 128 ((Go.bits .and .i32 (a0 / 4096) 63) % 256), Go.bits .or .u8 128 ((Go.bits .and .i32 (a0 / 64) 63) % 256), Go.bits .or .u8 128 ((Go.bits .and .i32 a0 63) % 256)] : List Int)))))) = some r := by rw [if_neg (show ¬ (false = true) by decide)] at H; exact H
        clear H
        have H := H1
        clear H1
        by_cases c9 : a0 < 128
        · rw [if_pos c9] at H
          have c9b0 : decide (a0 < 128) = true := decide_eq_true c9
          clear c9
          obtain ⟨y136, hy136⟩ : ∃ y_ : List Int, y_ = (([(a0) % 256] : List Int)) := ⟨_, rfl⟩
          replace H : (some y136) = some r := by first | (rw [hy136]; with_reducible exact H) | (have H2_ := (Option.bind_some _ _).symm.trans H; rw [hy136]; with_reducible exact H2_) | (have H2_ := (Option.bind_some _ _).symm.trans H; with_reducible exact H2_) | with_reducible exact H | (rw [hy136]; exact H) | exact H
          have Ny136 := Aside0.mk hy136
          clear hy136
          obtain rfl := Option.some.inj H
          go_wp2_with (first | ((with_reducible refine gate_dst (N := 24) rfl ?_); refine Kd.R_lit (Kd.int .u8) _ 5 ?hg (N := 24) ?hd (xs := ([(a0) % 256] : List Int)) (inner := [.int .u8 ((a0) % 256)]) (ok := fun _ => True) (okp := fun _ => True) ?hr ?hp (fun _ hk => hk) trivial (Below.refl _ _) (Nat.le_refl _) (by simp) ?_; (case hd => rfl); (case hg => rfl); (case hr => first | (go_simp; done) | (go_simp; rfl)); (case hp => exact (Reps.one (show Kd.M (Kd.int .u8) _ _ _ ((a0) % 256) [.int .u8 ((a0) % 256)] from rfl) (Reps.none _ _))); intro v137 w10 ho11 hb hg_ hnew_; clear hg_ hnew_; (first | rw [← Ny136.out] at ho11 | (simp only [Int.reduceToNat] at ho11; rw [← Ny136.out] at ho11)); have n0_ := Aside0.mk (Kd.R_lower ho11 (below_size (by repeat (first | (with_reducible first | exact HB.out | apply below_alloc | apply pw_below_drewN | apply below_drew1) | exact HB.out)))); have n1_ := Aside0.mk (below_step (by repeat (first | (with_reducible first | exact HB.out | apply below_alloc | apply pw_below_drewN | apply below_drew1) | exact HB.out)) hb); clear HB; have HO138 := n0_; have HB := n1_; clear n0_ n1_; clear hb ho11))
          go_ret
          exact ⟨_, by first | rfl | (simp [errW_none, errW_some] <;> rfl) | (simp [*, errW_none, errW_some] <;> rfl), by (with_reducible repeat (first | apply Kd.R_alloc | apply Kd.R_drewN | apply Kd.R_drew)); exact HO138.out, by repeat (first | (with_reducible first | exact HB.out | apply below_alloc | apply pw_below_drewN | apply below_drew1) | exact HB.out)⟩
        · rw [if_neg c9] at H
          have c9b0 : decide (a0 < 128) = false := decide_eq_false c9
          clear c9
          by_cases c12 : a0 < 2048
          · rw [if_pos c12] at H
            have c12b0 : decide (a0 < 2048) = true := decide_eq_true c12
            clear c12
            obtain ⟨y139, hy139⟩ : ∃ y_ : List Int, y_ = (([Go.bits .or .u8 192 ((a0 / 64) % 256), Go.bits .or .u8 128 ((Go.bits .and .i32 a0 63) % 256)] : List Int)) := ⟨_, rfl⟩
            replace H : (some y139) = some r := by first | (rw [hy139]; with_reducible exact H) | (have H2_ := (Option.bind_some _ _).symm.trans H; rw [hy139]; with_reducible exact H2_) | (have H2_ := (Option.bind_some _ _).symm.trans H; with_reducible exact H2_) | with_reducible exact H | (rw [hy139]; exact H) | exact H
            have Ny139 := Aside0.mk hy139
            clear hy139
            obtain rfl := Option.some.inj H
            go_wp2_with (first | ((with_reducible refine gate_dst (N := 36) rfl ?_); refine Kd.R_lit (Kd.int .u8) _ 5 ?hg (N := 36) ?hd (xs := ([Go.bits .or .u8 192 ((a0 / 64) % 256), Go.bits .or .u8 128 ((Go.bits .and .i32 a0 63) % 256)] : List Int)) (inner := [.int .u8 (Go.bits .or .u8 192 ((a0 / 64) % 256)), .int .u8 (Go.bits .or .u8 128 ((Go.bits .and .i32 a0 63) % 256))]) (ok := fun _ => True) (okp := fun _ => True) ?hr ?hp (fun _ hk => hk) trivial (Below.refl _ _) (Nat.le_refl _) (by simp) ?_; (case hd => rfl); (case hg => rfl); (case hr => first | (go_simp; done) | (go_simp; rfl)); (case hp => exact (Reps.one (show Kd.M (Kd.int .u8) _ _ _ (Go.bits .or .u8 192 ((a0 / 64) % 256)) [.int .u8 (Go.bits .or .u8 192 ((a0 / 64) % 256))] from rfl) (Reps.one (show Kd.M (Kd.int .u8) _ _ _ (Go.bits .or .u8 128 ((Go.bits .and .i32 a0 63) % 256)) [.int .u8 (Go.bits .or .u8 128 ((Go.bits .and .i32 a0 63) % 256))] from rfl) (Reps.none _ _)))); intro v140 w13 ho14 hb hg_ hnew_; clear hg_ hnew_; (first | rw [← Ny139.out] at ho14 | (simp only [Int.reduceToNat] at ho14; rw [← Ny139.out] at ho14)); have n0_ := Aside0.mk (Kd.R_lower ho14 (below_size (by repeat (first | (with_reducible first | exact HB.out | apply below_alloc | apply pw_below_drewN | apply below_drew1) | exact HB.out)))); have n1_ := Aside0.mk (below_step (by repeat (first | (with_reducible first | exact HB.out | apply below_alloc | apply pw_below_drewN | apply below_drew1) | exact HB.out)) hb); clear HB; have HO141 := n0_; have HB := n1_; clear n0_ n1_; clear hb ho14))
            go_ret
            exact ⟨_, by first | rfl | (simp [errW_none, errW_some] <;> rfl) | (simp [*, errW_none, errW_some] <;> rfl), by (with_reducible repeat (first | apply Kd.R_alloc | apply Kd.R_drewN | apply Kd.R_drew)); exact HO141.out, by repeat (first | (with_reducible first | exact HB.out | apply below_alloc | apply pw_below_drewN | apply below_drew1) | exact HB.out)⟩
          · rw [if_neg c12] at H
            have c12b0 : decide (a0 < 2048) = false := decide_eq_false c12
            clear c12
            by_cases c15 : a0 < 65536
            · rw [if_pos c15] at H
              have c15b0 : decide (a0 < 65536) = true := decide_eq_true c15
              clear c15
              obtain ⟨y142, hy142⟩ : ∃ y_ : List Int, y_ = (([Go.bits .or .u8 224 ((a0 / 4096) % 256), Go.bits .or .u8 128 ((Go.bits .and .i32 (a0 / 64) 63) % 256), Go.bits .or .u8 128 ((Go.bits .and .i32 a0 63) % 256)] : List Int)) := ⟨_, rfl⟩
              replace H : (some y142) = some r := by first | (rw [hy142]; with_reducible exact H) | (have H2_ := (Option.bind_some _ _).symm.trans H; rw [hy142]; with_reducible exact H2_) | (have H2_ := (Option.bind_some _ _).symm.trans H; with_reducible exact H2_) | with_reducible exact H | (rw [hy142]; exact H) | exact H
              have Ny142 := Aside0.mk hy142
              clear hy142
              obtain rfl := Option.some.inj H
              go_wp2_with (first | ((with_reducible refine gate_dst (N := 53) rfl ?_); refine Kd.R_lit (Kd.int .u8) _ 5 ?hg (N := 53) ?hd (xs := ([Go.bits .or .u8 224 ((a0 / 4096) % 256), Go.bits .or .u8 128 ((Go.bits .and .i32 (a0 / 64) 63) % 256), Go.bits .or .u8 128 ((Go.bits .and .i32 a0 63) % 256)] : List Int)) (inner := [.int .u8 (Go.bits .or .u8 224 ((a0 / 4096) % 256)), .int .u8 (Go.bits .or .u8 128 ((Go.bits .and .i32 (a0 / 64) 63) % 256)), .int .u8 (Go.bits .or .u8 128 ((Go.bits .and .i32 a0 63) % 256))]) (ok := fun _ => True) (okp := fun _ => True) ?hr ?hp (fun _ hk => hk) trivial (Below.refl _ _) (Nat.le_refl _) (by simp) ?_; (case hd => rfl); (case hg => rfl); (case hr => first | (go_simp; done) | (go_simp; rfl)); (case hp => exact (Reps.one (show Kd.M (Kd.int .u8) _ _ _ (Go.bits .or .u8 224 ((a0 / 4096) % 256)) [.int .u8 (Go.bits .or .u8 224 ((a0 / 4096) % 256))] from rfl) (Reps.one (show Kd.M (Kd.int .u8) _ _ _ (Go.bits .or .u8 128 ((Go.bits .and .i32 (a0 / 64) 63) % 256)) [.int .u8 (Go.bits .or .u8 128 ((Go.bits .and .i32 (a0 / 64) 63) % 256))] from rfl) (Reps.one (show Kd.M (Kd.int .u8) _ _ _ (Go.bits .or .u8 128 ((Go.bits .and .i32 a0 63) % 256)) [.int .u8 (Go.bits .or .u8 128 ((Go.bits .and .i32 a0 63) % 256))] from rfl) (Reps.none _ _))))); intro v143 w16 ho17 hb hg_ hnew_; clear hg_ hnew_; (first | rw [← Ny142.out] at ho17 | (simp only [Int.reduceToNat] at ho17; rw [← Ny142.out] at ho17)); have n0_ := Aside0.mk (Kd.R_lower ho17 (below_size (by repeat (first | (with_reducible first | exact HB.out | apply below_alloc | apply pw_below_drewN | apply below_drew1) | exact HB.out)))); have n1_ := Aside0.mk (below_step (by repeat (first | (with_reducible first | exact HB.out | apply below_alloc | apply pw_below_drewN | apply below_drew1) | exact HB.out)) hb); clear HB; have HO144 := n0_; have HB := n1_; clear n0_ n1_; clear hb ho17))
              go_ret
              exact ⟨_, by first | rfl | (simp [errW_none, errW_some] <;> rfl) | (simp [*, errW_none, errW_some] <;> rfl), by (with_reducible repeat (first | apply Kd.R_alloc | apply Kd.R_drewN | apply Kd.R_drew)); exact HO144.out, by repeat (first | (with_reducible first | exact HB.out | apply below_alloc | apply pw_below_drewN | apply below_drew1) | exact HB.out)⟩
            · rw [if_neg c15] at H
              have c15b0 : decide (a0 < 65536) = false := decide_eq_false c15
              clear c15
              obtain ⟨y145, hy145⟩ : ∃ y_ : List Int, y_ = (([Go.bits .or .u8 240 ((a0 / 262144) % 256), Go.bits .or .u8 128 ((Go.bits .and .i32 (a0 / 4096) 63) % 256), Go.bits .or .u8 128 ((Go.bits .and .i32 (a0 / 64) 63) % 256), Go.bits .or .u8 128 ((Go.bits .and .i32 a0 63) % 256)] : List Int)) := ⟨_, rfl⟩
              replace H : (some y145) = some r := by first | (rw [hy145]; with_reducible exact H) | (have H2_ := (Option.bind_some _ _).symm.trans H; rw [hy145]; with_reducible exact H2_) | (have H2_ := (Option.bind_some _ _).symm.trans H; with_reducible exact H2_) | with_reducible exact H | (rw [hy145]; exact H) | exact H
              have Ny145 := Aside0.mk hy145
              clear hy145
              obtain rfl := Option.some.inj H
              go_wp2_with (first | ((with_reducible refine gate_dst (N := 72) rfl ?_); refine Kd.R_lit (Kd.int .u8) _ 5 ?hg (N := 72) ?hd (xs := ([Go.bits .or .u8 240 ((a0 / 262144) % 256), Go.bits .or .u8 128 ((Go.bits .and .i32 (a0 / 4096) 63) % 256), Go.bits .or .u8 128 ((Go.bits .and .i32 (a0 / 64) 63) % 256), Go.bits .or .u8 128 ((Go.bits .and .i32 a0 63) % 256)] : List Int)) (inner := [.int .u8 (Go.bits .or .u8 240 ((a0 / 262144) % 256)), .int .u8 (Go.bits .or .u8 128 ((Go.bits .and .i32 (a0 / 4096) 63) % 256)), .int .u8 (Go.bits .or .u8 128 ((Go.bits .and .i32 (a0 / 64) 63) % 256)), .int .u8 (Go.bits .or .u8 128 ((Go.bits .and .i32 a0 63) % 256))]) (ok := fun _ => True) (okp := fun _ => True) ?hr ?hp (fun _ hk => hk) trivial (Below.refl _ _) (Nat.le_refl _) (by simp) ?_; (case hd => rfl); (case hg => rfl); (case hr => first | (go_simp; done) | (go_simp; rfl)); (case hp => exact (Reps.one (show Kd.M (Kd.int .u8) _ _ _ (Go.bits .or .u8 240 ((a0 / 262144) % 256)) [.int .u8 (Go.bits .or .u8 240 ((a0 / 262144) % 256))] from rfl) (Reps.one (show Kd.M (Kd.int .u8) _ _ _ (Go.bits .or .u8 128 ((Go.bits .and .i32 (a0 / 4096) 63) % 256)) [.int .u8 (Go.bits .or .u8 128 ((Go.bits .and .i32 (a0 / 4096) 63) % 256))] from rfl) (Reps.one (show Kd.M (Kd.int .u8) _ _ _ (Go.bits .or .u8 128 ((Go.bits .and .i32 (a0 / 64) 63) % 256)) [.int .u8 (Go.bits .or .u8 128 ((Go.bits .and .i32 (a0 / 64) 63) % 256))] from rfl) (Reps.one (show Kd.M (Kd.int .u8) _ _ _ (Go.bits .or .u8 128 ((Go.bits .and .i32 a0 63) % 256)) [.int .u8 (Go.bits .or .u8 128 ((Go.bits .and .i32 a0 63) % 256))] from rfl) (Reps.none _ _)))))); intro v146 w18 ho19 hb hg_ hnew_; clear hg_ hnew_; (first | rw [← Ny145.out] at ho19 | (simp only [Int.reduceToNat] at ho19; rw [← Ny145.out] at ho19)); have n0_ := Aside0.mk (Kd.R_lower ho19 (below_size (by repeat (first | (with_reducible first | exact HB.out | apply below_alloc | apply pw_below_drewN | apply below_drew1) | exact HB.out)))); have n1_ := Aside0.mk (below_step (by repeat (first | (with_reducible first | exact HB.out | apply below_alloc | apply pw_below_drewN | apply below_drew1) | exact HB.out)) hb); clear HB; have HO147 := n0_; have HB := n1_; clear n0_ n1_; clear hb ho19))
              go_ret
              exact ⟨_, by first | rfl | (simp [errW_none, errW_some] <;> rfl) | (simp [*, errW_none, errW_some] <;> rfl), by (with_reducible repeat (first | apply Kd.R_alloc | apply Kd.R_drewN | apply Kd.R_drew)); exact HO147.out, by repeat (first | (with_reducible first | exact HB.out | apply below_alloc | apply pw_below_drewN | apply below_drew1) | exact HB.out)⟩
theorem and63 (x : Int) (h0 : 0 ≤ x) (h1 : x < 2147483648) : Go.bits .and .i32 x 63 = x % 64 := bits_mask .i32 31 (by decide) wraps_i32 6 (by decide) x h0 h1
theorem bytes_enc (x : Int) (h : (0 ≤ x ∧ x < 55296) ∨ (57344 ≤ x ∧ x ≤ 1114111)) : octet_Bytes.f 3 x = some (enc x) := by
  have e1 : ¬ x < 0 := by omega
  have e2 : ¬ x > 1114111 := by omega
  have key : octet_Bytes.j0 2 x false = some (enc x) := by
    unfold octet_Bytes.j0 enc
    simp only [if_pos h, Bool.false_eq_true, if_false]
    split
    · simp only [Option.some.injEq, List.cons.injEq, and_true]; omega
    split
    · rw [and63 x (by omega) (by omega), u8_or192 (y := x / 64 % 256) (by omega) (by omega), u8_or128 (y := x % 64 % 256) (by omega) (by omega)]
      simp only [Option.some.injEq, List.cons.injEq, and_true]; omega
    split
    · rw [and63 x (by omega) (by omega), and63 (x / 64) (by omega) (by omega), u8_or224 (y := x / 4096 % 256) (by omega) (by omega), u8_or128 (y := x / 64 % 64 % 256) (by omega) (by omega), u8_or128 (y := x % 64 % 256) (by omega) (by omega)]
      simp only [Option.some.injEq, List.cons.injEq, and_true]; omega
    · rw [and63 x (by omega) (by omega), and63 (x / 64) (by omega) (by omega), and63 (x / 4096) (by omega) (by omega), u8_or240 (y := x / 262144 % 256) (by omega) (by omega), u8_or128 (y := x / 4096 % 64 % 256) (by omega) (by omega), u8_or128 (y := x / 64 % 64 % 256) (by omega) (by omega), u8_or128 (y := x % 64 % 256) (by omega) (by omega)]
      simp only [Option.some.injEq, List.cons.injEq, and_true]; omega
  show octet_Bytes.f (2 + 1) x = _
  rw [octet_Bytes.f, if_neg e1, if_neg e2]
  by_cases e3 : x ≥ 55296
  · rw [if_pos e3, show decide (x ≤ 57343) = false from decide_eq_false (by omega), key]
  · rw [if_neg e3, key]
theorem bytes_calls (x : Int) (w : World) (h : (0 ≤ x ∧ x < 55296) ∨ (57344 ≤ x ∧ x ≤ 1114111)) :
    Calls Tryd.prog 44 #[.int .i32 x] w fun e w' => ∃ v0_ : Value, e = .returned v0_ ∧ Kd.R (Kd.int .u8) 5 w' w.heap.size (fun _ => True) v0_ (enc x) ∧ Below w.heap.size w w' := octet_Bytes.calls 3 x _ w (bytes_enc x h)
end Go.Proofs.YtflddgoapibleaaDoor.Hand

namespace Go.Proofs.YtflddgoapibleaaDoor.Hand
open Go.RowKit Go.Maps Go.Proofs.YtflddgoapibleaaDoorW.PrintWords Go.Proofs.YtflddgoapibleaaDoorW.PrintLast Go.Proofs.YtflddgoapibleaaDoorW.PrintMore
theorem bytes_drop (s : ByteArray) (i : Int) (h0 : 0 ≤ i) (h : i < s.size) : (bytesOf s).drop i.toNat = bt s i :: (bytesOf s).drop (i + 1).toNat := by
  have hl : i.toNat < (bytesOf s).length := by rw [bytesOf_length]; omega
  rw [List.drop_eq_getElem_cons hl, show (i + 1).toNat = i.toNat + 1 by omega]
  have h2 : i.toNat < s.size := by omega
  congr 1
  simp [bytesOf, bt, h2]
  rfl
theorem bytes_end (s : ByteArray) (i : Int) (h : (s.size : Int) ≤ i) : (bytesOf s).drop i.toNat = [] := by
  apply List.drop_eq_nil_of_le; rw [bytesOf_length]; omega
structure BrI (s : ByteArray) (kq : Nat) (n i : Int) : Prop where
  lo : 3 ≤ i
  fuel : i + kq = 10
  pos : 1 ≤ kq
  le : i ≤ s.size
  n0 : 0 ≤ n
  nb : n < 16 ^ (i - 3).toNat
  eq : brN 6 0 3 ((bytesOf s).drop 3) = brN (kq - 1) n i.toNat ((bytesOf s).drop i.toNat)
theorem BrI.start (s : ByteArray) (h : 3 ≤ s.size) : BrI s 7 0 3 := ⟨by omega, by omega, by omega, by omega, by omega, by decide, rfl⟩
theorem BrI.small {s : ByteArray} {kq : Nat} {n i : Int} (h : BrI s kq n i) : n ≤ 16777215 := by
  have h1 : (i - 3).toNat ≤ 6 := by have := h.fuel; have := h.pos; omega
  have h2 : (16 : Int) ^ (i - 3).toNat ≤ 16 ^ 6 := by exact_mod_cast Nat.pow_le_pow_right (by decide) h1
  have := h.nb; omega
theorem BrI.step {s : ByteArray} {kq : Nat} {n i : Int} (h : BrI s kq n i) (c5 : i < s.size) (c6 : i < 9) (c7 : 0 ≤ dig (bt s i)) : BrI s (kq - 1) (16 * n + dig (bt s i)) (i + 1) := by
  have h9 := h.fuel
  obtain ⟨m, rfl⟩ : ∃ m, kq = m + 2 := ⟨kq - 2, by omega⟩
  have hd := (dig_range (bt s i)).2
  refine ⟨by have := h.lo; omega, by omega, by omega, by omega, by have := h.n0; omega, ?_, ?_⟩
  · have h3 : (i + 1 - 3).toNat = (i - 3).toNat + 1 := by have := h.lo; omega
    have := h.nb
    rw [h3, Int.pow_succ]; omega
  · rw [h.eq, bytes_drop s i (by have := h.lo; omega) c5]
    show brN (m + 1) _ _ _ = _
    rw [brN, if_pos c7, show (i + 1).toNat = i.toNat + 1 by have := h.lo; omega]
    rfl
theorem BrI.stop {s : ByteArray} {kq : Nat} {n i : Int} (h : BrI s kq n i) (c : ¬ (i < s.size ∧ i < 9 ∧ 0 ≤ dig (bt s i))) : brN 6 0 3 ((bytesOf s).drop 3) = (n, i.toNat, (bytesOf s).drop i.toNat) := by
  have h9 := h.fuel
  rw [h.eq]
  by_cases c5 : i < s.size
  · by_cases c6 : i < 9
    · have c7 : ¬ 0 ≤ dig (bt s i) := fun c7 => c ⟨c5, c6, c7⟩
      obtain ⟨m, rfl⟩ : ∃ m, kq = m + 2 := ⟨kq - 2, by omega⟩
      rw [bytes_drop s i (by have := h.lo; omega) c5]
      show brN (m + 1) _ _ _ = _
      rw [brN, if_neg c7]
    · obtain rfl : kq = 1 := by have := h.pos; omega
      rfl
  · rw [bytes_end s i (by omega)]
    obtain ⟨m, rfl⟩ : ∃ m, kq = m + 1 := ⟨kq - 1, by have := h.pos; omega⟩
    show brN m _ _ _ = _
    cases m <;> rfl
theorem byRune_stop {s : ByteArray} {n i : Int} (h : brN 6 0 3 ((bytesOf s).drop 3) = (n, i.toNat, (bytesOf s).drop i.toNat)) (h3 : 3 ≤ s.size) (i3 : 3 ≤ i) (il : i ≤ s.size) :
    byRune (bytesOf s) = if bt s 2 = 123 ∧ i ≠ 3 ∧ bt s 3 ≠ 48 ∧ i < s.size ∧ bt s i = 125 ∧ 128 ≤ n ∧ n ≤ 1114111 ∧ ¬ (55296 ≤ n ∧ n ≤ 57343) then (enc n, i + 1) else ([], 0) := by
  have g2 : (bytesOf s).getD 2 (-1) = bt s 2 := by
    have := bytes_drop s 2 (by omega) (by omega)
    rw [List.getD_eq_getElem?_getD, ← List.head?_drop]
    rw [show ((2 : Int)).toNat = 2 from rfl] at this
    rw [this]; rfl
  have g3 : (3 : Int) < s.size → (bytesOf s).getD 3 (-1) = bt s 3 := fun h => by
    have := bytes_drop s 3 (by omega) h
    rw [List.getD_eq_getElem?_getD, ← List.head?_drop]
    rw [show ((3 : Int)).toNat = 3 from rfl] at this
    rw [this]; rfl
  unfold byRune
  simp only [h, g2]
  by_cases hi : i < s.size
  · rw [bytes_drop s i (by omega) hi]
    have e : (List.getD (bt s i :: (bytesOf s).drop (i + 1).toNat) 0 (-1)) = bt s i := rfl
    rw [e]
    have e2 : (i.toNat : Int) = i := by omega
    rw [e2]
    by_cases h3' : (3 : Int) < s.size
    · rw [g3 h3']
      by_cases hc : bt s 2 = 123 ∧ i ≠ 3 ∧ bt s 3 ≠ 48 ∧ i < s.size ∧ bt s i = 125 ∧ 128 ≤ n ∧ n ≤ 1114111 ∧ ¬ (55296 ≤ n ∧ n ≤ 57343)
      · rw [if_pos hc, if_pos (by omega)]
      · rw [if_neg hc, if_neg (by omega)]
    · omega
  · rw [bytes_end s i (by omega)]
    have e : (List.getD ([] : List Int) 0 (-1)) = -1 := rfl
    rw [e, if_neg (by omega), if_neg (by omega)]
set_option maxHeartbeats 2000000 in
set_option maxRecDepth 100000 in
theorem piece_u_short (s : ByteArray) (w : World) (hG : Globs w) (hs : 0 < s.size) (hne : s.toList.isEmpty = false) (h1 : 2 ≤ s.size) (c0 : (bt s 0 != 92) = false) (hk : NoLetter (bt s 1)) (hk120 : (bt s 1 == 120) = false) (hk117 : (bt s 1 == 117) = true) (h4 : s.size < 3) :
    Calls Tryd.prog 28 #[.string s] w fun e w' => e = .returned (.tuple #[.slice none 0 0, .int .i64 0]) ∧ Below w.heap.size w w' := by
  obtain ⟨bm, hc, hown⟩ := hG.short
  have HK := Aside0.mk hk
  clear hk hG
  have hx : ∀ h : 0 < s.size, ((s[0]'h).toNat : Int) = bt s 0 := bt_at s 0
  have hx1 : ∀ h : 1 < s.size, ((s[1]'h).toNat : Int) = bt s 1 := bt_at s 1
  go_enter Tryd.func28, Tryd.ntmps28
  go_wp2
  refine wp_scope_two ?_
  intro J2 J1 J0 hJ2 hJ1 hJ0
  go_wp2_with (first
    | (at_range; refine wpList_range_own _ rfl _ 39 rfl 5 5 law5 Tryd.underlying39 _ bm 4 _ rfl hown ?_; intro w0 hrg0 hg0 hs0)
    | go_in)
  go_frame
  have HB := Aside0.mk ((Below.refl w.heap.size w).grown hg0 (Nat.le_refl _) (fun k hk => by cases hk))
  have HC := Aside0.mk hc
  clear hown hc hg0
  go_loopw [34] (fun _ wr => ∃ (left : Lit → Bool) (cnt : Nat), wr.ranges Tryd.prog 5 (plainElem (H := Unit) Tryd.prog 5) bm w.heap.size 4 (.map shortL) left cnt ∧ Below w.heap.size w wr)
    (fun _ wr => wr.rangeLeft bm w.heap.size)
  case atStart => exact ⟨_, _, hrg0, HB.out⟩
  case round =>
    obtain ⟨left, cnt, hrg, hbw⟩ := hrel
    have HB := Aside0.mk hbw
    clear hbw
    go_wp2_with (first
      | (at_next; refine wpList_next_ranges_ii _ rfl _ rfl 5 5 .u8 .u8 law5 Tryd.underlying5 Tryd.underlying5 bm w.heap.size 4 _ _ _ rfl hrg ?_ ?_)
      | go_in)
    · intro _ _
      have HOWN := Aside0.mk hrg.owns
      clear hrg
      go_wp2
      go_step3
      change J2 (.goto 2) _ _
      refine hJ2.goto _ _ _ _ rfl ?_
      go_wp2
      go_step3
      change J1 (.goto 0) _ _
      refine hJ1.goto _ _ _ _ rfl ?_
      go_wp2
      refine hJ0 _ _ _ (by simp) ?_
      go_ret2
      exact ⟨rfl, HB.out⟩
    · intro x c w1 cnt1 hwx hwc hlx hat hrg1 hlt hg1 hs1 hen
      have hb : (c == bt s 1) = false := beq_eq_false_iff_ne.2 (fun e => HK.out x (e ▸ short_at hat))
      have HR := Aside0.mk hrg1
      have HR0 := Aside0.mk hrg
      have HB1 := Aside0.mk (HB.out.grown hg1 (HB.out.size) (fun k hk => by cases hk; exact Nat.le_refl _))
      have HLT := Aside0.mk hlt
      clear hat hrg1 hg1 hlx hwx hwc hrg hlt HB
      go_wp2
      go_roundw
      case rel => exact ⟨_, cnt1, HR.out, HB1.out⟩
      case measure => rw [HR.out.left_eq, HR0.out.left_eq]; exact HLT.out
set_option maxHeartbeats 2000000 in
set_option maxRecDepth 100000 in
theorem piece_u_open (s : ByteArray) (w : World) (hG : Globs w) (hs : 0 < s.size) (hne : s.toList.isEmpty = false) (h1 : 2 ≤ s.size) (c0 : (bt s 0 != 92) = false) (hk : NoLetter (bt s 1)) (hk120 : (bt s 1 == 120) = false) (hk117 : (bt s 1 == 117) = true) (h4 : 3 ≤ s.size) (c2 : (bt s 2 != 123) = true) :
    Calls Tryd.prog 28 #[.string s] w fun e w' => e = .returned (.tuple #[.slice none 0 0, .int .i64 0]) ∧ Below w.heap.size w w' := by
  have hx2 : ∀ h : 2 < s.size, ((s[2]'h).toNat : Int) = bt s 2 := bt_at s 2
  obtain ⟨bm, hc, hown⟩ := hG.short
  have HK := Aside0.mk hk
  clear hk hG
  have hx : ∀ h : 0 < s.size, ((s[0]'h).toNat : Int) = bt s 0 := bt_at s 0
  have hx1 : ∀ h : 1 < s.size, ((s[1]'h).toNat : Int) = bt s 1 := bt_at s 1
  go_enter Tryd.func28, Tryd.ntmps28
  go_wp2
  refine wp_scope_two ?_
  intro J2 J1 J0 hJ2 hJ1 hJ0
  go_wp2_with (first
    | (at_range; refine wpList_range_own _ rfl _ 39 rfl 5 5 law5 Tryd.underlying39 _ bm 4 _ rfl hown ?_; intro w0 hrg0 hg0 hs0)
    | go_in)
  go_frame
  have HB := Aside0.mk ((Below.refl w.heap.size w).grown hg0 (Nat.le_refl _) (fun k hk => by cases hk))
  have HC := Aside0.mk hc
  clear hown hc hg0
  go_loopw [34] (fun _ wr => ∃ (left : Lit → Bool) (cnt : Nat), wr.ranges Tryd.prog 5 (plainElem (H := Unit) Tryd.prog 5) bm w.heap.size 4 (.map shortL) left cnt ∧ Below w.heap.size w wr)
    (fun _ wr => wr.rangeLeft bm w.heap.size)
  case atStart => exact ⟨_, _, hrg0, HB.out⟩
  case round =>
    obtain ⟨left, cnt, hrg, hbw⟩ := hrel
    have HB := Aside0.mk hbw
    clear hbw
    go_wp2_with (first
      | (at_next; refine wpList_next_ranges_ii _ rfl _ rfl 5 5 .u8 .u8 law5 Tryd.underlying5 Tryd.underlying5 bm w.heap.size 4 _ _ _ rfl hrg ?_ ?_)
      | go_in)
    · intro _ _
      have HOWN := Aside0.mk hrg.owns
      clear hrg
      go_wp2
      go_step3
      change J2 (.goto 2) _ _
      refine hJ2.goto _ _ _ _ rfl ?_
      go_wp2
      go_step3
      change J1 (.goto 0) _ _
      refine hJ1.goto _ _ _ _ rfl ?_
      go_wp2
      refine hJ0 _ _ _ (by simp) ?_
      go_ret2
      exact ⟨rfl, HB.out⟩
    · intro x c w1 cnt1 hwx hwc hlx hat hrg1 hlt hg1 hs1 hen
      have hb : (c == bt s 1) = false := beq_eq_false_iff_ne.2 (fun e => HK.out x (e ▸ short_at hat))
      have HR := Aside0.mk hrg1
      have HR0 := Aside0.mk hrg
      have HB1 := Aside0.mk (HB.out.grown hg1 (HB.out.size) (fun k hk => by cases hk; exact Nat.le_refl _))
      have HLT := Aside0.mk hlt
      clear hat hrg1 hg1 hlx hwx hwc hrg hlt HB
      go_wp2
      go_roundw
      case rel => exact ⟨_, cnt1, HR.out, HB1.out⟩
      case measure => rw [HR.out.left_eq, HR0.out.left_eq]; exact HLT.out
set_option maxHeartbeats 2000000 in
set_option maxRecDepth 100000 in
theorem piece_u_loop (s : ByteArray) (w : World) (hG : Globs w) (hs : 0 < s.size) (hne : s.toList.isEmpty = false) (h1 : 2 ≤ s.size) (c0 : (bt s 0 != 92) = false) (hk : NoLetter (bt s 1)) (hk120 : (bt s 1 == 120) = false) (hk117 : (bt s 1 == 117) = true) (h4 : 3 ≤ s.size) (c2 : (bt s 2 != 123) = false) (r1 : List Int) (r2 : Int) (hr : byRune (bytesOf s) = (r1, r2)) :
    Calls Tryd.prog 28 #[.string s] w fun e w' => ∃ v : Value, e = .returned (.tuple #[v, .int .i64 r2]) ∧ Kd.R (Kd.int .u8) 5 w' w.heap.size (fun _ => True) v r1 ∧ Below w.heap.size w w' := by
  have hx2 : ∀ h : 2 < s.size, ((s[2]'h).toNat : Int) = bt s 2 := bt_at s 2
  have e0 : bt s 2 = 123 := by simpa using c2
  have hx3 : ∀ h : 3 < s.size, ((s[3]'h).toNat : Int) = bt s 3 := bt_at s 3
  have HR0 := Aside0.mk hr
  clear hr
  obtain ⟨bm, hc, hown⟩ := hG.short
  have HK := Aside0.mk hk
  clear hk hG
  have hx : ∀ h : 0 < s.size, ((s[0]'h).toNat : Int) = bt s 0 := bt_at s 0
  have hx1 : ∀ h : 1 < s.size, ((s[1]'h).toNat : Int) = bt s 1 := bt_at s 1
  go_enter Tryd.func28, Tryd.ntmps28
  go_wp2
  refine wp_scope_two ?_
  intro J2 J1 J0 hJ2 hJ1 hJ0
  go_wp2_with (first
    | (at_range; refine wpList_range_own _ rfl _ 39 rfl 5 5 law5 Tryd.underlying39 _ bm 4 _ rfl hown ?_; intro w0 hrg0 hg0 hs0)
    | go_in)
  go_frame
  have HB := Aside0.mk ((Below.refl w.heap.size w).grown hg0 (Nat.le_refl _) (fun k hk => by cases hk))
  have HC := Aside0.mk hc
  clear hown hc hg0
  go_loopw [34] (fun _ wr => ∃ (left : Lit → Bool) (cnt : Nat), wr.ranges Tryd.prog 5 (plainElem (H := Unit) Tryd.prog 5) bm w.heap.size 4 (.map shortL) left cnt ∧ Below w.heap.size w wr)
    (fun _ wr => wr.rangeLeft bm w.heap.size)
  case atStart => exact ⟨_, _, hrg0, HB.out⟩
  case round =>
    obtain ⟨left, cnt, hrg, hbw⟩ := hrel
    have HB := Aside0.mk hbw
    clear hbw
    go_wp2_with (first
      | (at_next; refine wpList_next_ranges_ii _ rfl _ rfl 5 5 .u8 .u8 law5 Tryd.underlying5 Tryd.underlying5 bm w.heap.size 4 _ _ _ rfl hrg ?_ ?_)
      | go_in)
    · intro _ _
      have HOWN := Aside0.mk hrg.owns
      clear hrg
      go_wp2
      go_step3
      change J2 (.goto 2) _ _
      refine hJ2.goto _ _ _ _ rfl ?_
      go_wp2
      go_loopg [5, 6] 7 (fun kq v5 v6 wq => ∃ (n i : Int), v5 = .int .i64 n ∧ v6 = .int .i64 i ∧ Aside0 (BrI s kq n i) ∧ Aside0 (Below w.heap.size w wq))
      case atStart => exact ⟨0, 3, rfl, rfl, ⟨BrI.start s h4⟩, ⟨HB.out⟩⟩
      case round =>
        obtain ⟨n, i, rfl, rfl, HI, HB⟩ := hrel
        have n0 := HI.out.n0
        have nb := HI.out.small
        have i3 := HI.out.lo
        have i9 : i ≤ 9 := by have := HI.out.fuel; have := HI.out.pos; omega
        have hxi := bt_at s i
        by_cases c5 : i < (s.size : Int)
        · have c5b : decide (i < (s.size : Int)) = true := decide_eq_true c5
          by_cases c6 : i < 9
          · have c6b : decide (i < 9) = true := decide_eq_true c6
            by_cases c7 : 0 ≤ dig (bt s i)
            · have c7b : decide (0 ≤ dig (bt s i)) = true := decide_eq_true c7
              have dr := (dig_range (bt s i)).2
              go_wp2_with (go_at_call 32; refine (digit_calls _ _ (bt_range s _)).mono ?_; rintro e w' ⟨rfl, rfl⟩)
              go_roundg (gk - 1)
              case measure => have := HI.out.pos; omega
              case rel => exact ⟨_, _, rfl, rfl, ⟨HI.out.step c5 c6 c7⟩, ⟨HB.out⟩⟩
            · have c7b : decide (0 ≤ dig (bt s i)) = false := decide_eq_false c7
              have HS := Aside0.mk (HI.out.stop (fun hn => c7 hn.2.2))
              by_cases e1 : i = 3
              · have e1b : (i == 3) = true := beq_iff_eq.2 e1
                try have c7c : decide (0 ≤ dig (bt s 3)) = false := by rw [← e1]; exact c7b
                go_wp2_with (go_at_call 32; refine (digit_calls _ _ (bt_range s _)).mono ?_; rintro e w' ⟨rfl, rfl⟩)
                go_step3
                change J1 (.goto 0) _ _
                refine hJ1.goto _ _ _ _ rfl ?_
                go_wp2
                refine hJ0 _ _ _ (by simp) ?_
                go_ret2
                have h0 := HR0.out
                rw [byRune_stop HS.out h4 i3 HI.out.le, if_neg (by omega)] at h0
                obtain ⟨rfl, rfl⟩ := Prod.mk.inj h0
                exact ⟨_, rfl, Kd.R_nil _ _ _ _ _, HB.out⟩
              · have e1b : (i == 3) = false := beq_eq_false_iff_ne.2 e1
                have h5 : 3 < s.size := by have := HI.out.le; omega
                by_cases e2 : bt s 3 = 48
                · have e2b : (bt s 3 == 48) = true := beq_iff_eq.2 e2
                  go_wp2_with (go_at_call 32; refine (digit_calls _ _ (bt_range s _)).mono ?_; rintro e w' ⟨rfl, rfl⟩)
                  go_step3
                  change J1 (.goto 0) _ _
                  refine hJ1.goto _ _ _ _ rfl ?_
                  go_wp2
                  refine hJ0 _ _ _ (by simp) ?_
                  go_ret2
                  have h0 := HR0.out
                  rw [byRune_stop HS.out h4 i3 HI.out.le, if_neg (by omega)] at h0
                  obtain ⟨rfl, rfl⟩ := Prod.mk.inj h0
                  exact ⟨_, rfl, Kd.R_nil _ _ _ _ _, HB.out⟩
                · have e2b : (bt s 3 == 48) = false := beq_eq_false_iff_ne.2 e2
                  have e3b : decide ((s.size : Int) ≤ i) = false := decide_eq_false (by omega)
                  by_cases e4 : bt s i ≠ 125
                  · have e4b : (bt s i != 125) = true := bne_iff_ne.2 e4
                    go_wp2_with (go_at_call 32; refine (digit_calls _ _ (bt_range s _)).mono ?_; rintro e w' ⟨rfl, rfl⟩)
                    go_step3
                    change J1 (.goto 0) _ _
                    refine hJ1.goto _ _ _ _ rfl ?_
                    go_wp2
                    refine hJ0 _ _ _ (by simp) ?_
                    go_ret2
                    have h0 := HR0.out
                    rw [byRune_stop HS.out h4 i3 HI.out.le, if_neg (by omega)] at h0
                    obtain ⟨rfl, rfl⟩ := Prod.mk.inj h0
                    exact ⟨_, rfl, Kd.R_nil _ _ _ _ _, HB.out⟩
                  · have e4b : (bt s i != 125) = false := bne_eq_false_iff_eq.2 (Decidable.not_not.1 e4)
                    by_cases e5 : n < 128
                    · have e5b : decide (n < 128) = true := decide_eq_true e5
                      go_wp2_with (go_at_call 32; refine (digit_calls _ _ (bt_range s _)).mono ?_; rintro e w' ⟨rfl, rfl⟩)
                      go_step3
                      change J1 (.goto 0) _ _
                      refine hJ1.goto _ _ _ _ rfl ?_
                      go_wp2
                      refine hJ0 _ _ _ (by simp) ?_
                      go_ret2
                      have h0 := HR0.out
                      rw [byRune_stop HS.out h4 i3 HI.out.le, if_neg (by omega)] at h0
                      obtain ⟨rfl, rfl⟩ := Prod.mk.inj h0
                      exact ⟨_, rfl, Kd.R_nil _ _ _ _ _, HB.out⟩
                    · have e5b : decide (n < 128) = false := decide_eq_false e5
                      by_cases e6 : 1114111 < n
                      · have e6b : decide (1114111 < n) = true := decide_eq_true e6
                        go_wp2_with (go_at_call 32; refine (digit_calls _ _ (bt_range s _)).mono ?_; rintro e w' ⟨rfl, rfl⟩)
                        go_step3
                        change J1 (.goto 0) _ _
                        refine hJ1.goto _ _ _ _ rfl ?_
                        go_wp2
                        refine hJ0 _ _ _ (by simp) ?_
                        go_ret2
                        have h0 := HR0.out
                        rw [byRune_stop HS.out h4 i3 HI.out.le, if_neg (by omega)] at h0
                        obtain ⟨rfl, rfl⟩ := Prod.mk.inj h0
                        exact ⟨_, rfl, Kd.R_nil _ _ _ _ _, HB.out⟩
                      · have e6b : decide (1114111 < n) = false := decide_eq_false e6
                        by_cases e7 : 55296 ≤ n
                        · have e7b : decide (55296 ≤ n) = true := decide_eq_true e7
                          by_cases e8 : n ≤ 57343
                          · have e8b : decide (n ≤ 57343) = true := decide_eq_true e8
                            go_wp2_with (go_at_call 32; refine (digit_calls _ _ (bt_range s _)).mono ?_; rintro e w' ⟨rfl, rfl⟩)
                            go_step3
                            change J1 (.goto 0) _ _
                            refine hJ1.goto _ _ _ _ rfl ?_
                            go_wp2
                            refine hJ0 _ _ _ (by simp) ?_
                            go_ret2
                            have h0 := HR0.out
                            rw [byRune_stop HS.out h4 i3 HI.out.le, if_neg (by omega)] at h0
                            obtain ⟨rfl, rfl⟩ := Prod.mk.inj h0
                            exact ⟨_, rfl, Kd.R_nil _ _ _ _ _, HB.out⟩
                          · have e8b : decide (n ≤ 57343) = false := decide_eq_false e8
                            go_wp2_with (first | (go_at_call 44; refine (bytes_calls n _ (by omega)).mono ?_; rintro e w' ⟨v, rfl, HV, hbel⟩) | (go_at_call 32; refine (digit_calls _ _ (bt_range s _)).mono ?_; rintro e w' ⟨rfl, rfl⟩))
                            refine hJ1.other _ _ _ (by simp) ?_
                            go_ret2
                            have h0 := HR0.out
                            rw [byRune_stop HS.out h4 i3 HI.out.le, if_pos (by omega)] at h0
                            obtain ⟨rfl, rfl⟩ := Prod.mk.inj h0
                            exact ⟨_, rfl, Kd.R_lower HV (below_size HB.out), below_step HB.out hbel⟩
                        · have e7b : decide (55296 ≤ n) = false := decide_eq_false e7
                          go_wp2_with (first | (go_at_call 44; refine (bytes_calls n _ (by omega)).mono ?_; rintro e w' ⟨v, rfl, HV, hbel⟩) | (go_at_call 32; refine (digit_calls _ _ (bt_range s _)).mono ?_; rintro e w' ⟨rfl, rfl⟩))
                          refine hJ1.other _ _ _ (by simp) ?_
                          go_ret2
                          have h0 := HR0.out
                          rw [byRune_stop HS.out h4 i3 HI.out.le, if_pos (by omega)] at h0
                          obtain ⟨rfl, rfl⟩ := Prod.mk.inj h0
                          exact ⟨_, rfl, Kd.R_lower HV (below_size HB.out), below_step HB.out hbel⟩
          · have c6b : decide (i < 9) = false := decide_eq_false c6
            have HS := Aside0.mk (HI.out.stop (fun hn => c6 hn.2.1))
            have e1 : ¬ i = 3 := by omega
            have e1b : (i == 3) = false := beq_eq_false_iff_ne.2 e1
            have h5 : 3 < s.size := by have := HI.out.le; omega
            by_cases e2 : bt s 3 = 48
            · have e2b : (bt s 3 == 48) = true := beq_iff_eq.2 e2
              go_wp2
              go_step3
              change J1 (.goto 0) _ _
              refine hJ1.goto _ _ _ _ rfl ?_
              go_wp2
              refine hJ0 _ _ _ (by simp) ?_
              go_ret2
              have h0 := HR0.out
              rw [byRune_stop HS.out h4 i3 HI.out.le, if_neg (by omega)] at h0
              obtain ⟨rfl, rfl⟩ := Prod.mk.inj h0
              exact ⟨_, rfl, Kd.R_nil _ _ _ _ _, HB.out⟩
            · have e2b : (bt s 3 == 48) = false := beq_eq_false_iff_ne.2 e2
              have e3b : decide ((s.size : Int) ≤ i) = false := decide_eq_false (by omega)
              by_cases e4 : bt s i ≠ 125
              · have e4b : (bt s i != 125) = true := bne_iff_ne.2 e4
                go_wp2
                go_step3
                change J1 (.goto 0) _ _
                refine hJ1.goto _ _ _ _ rfl ?_
                go_wp2
                refine hJ0 _ _ _ (by simp) ?_
                go_ret2
                have h0 := HR0.out
                rw [byRune_stop HS.out h4 i3 HI.out.le, if_neg (by omega)] at h0
                obtain ⟨rfl, rfl⟩ := Prod.mk.inj h0
                exact ⟨_, rfl, Kd.R_nil _ _ _ _ _, HB.out⟩
              · have e4b : (bt s i != 125) = false := bne_eq_false_iff_eq.2 (Decidable.not_not.1 e4)
                by_cases e5 : n < 128
                · have e5b : decide (n < 128) = true := decide_eq_true e5
                  go_wp2
                  go_step3
                  change J1 (.goto 0) _ _
                  refine hJ1.goto _ _ _ _ rfl ?_
                  go_wp2
                  refine hJ0 _ _ _ (by simp) ?_
                  go_ret2
                  have h0 := HR0.out
                  rw [byRune_stop HS.out h4 i3 HI.out.le, if_neg (by omega)] at h0
                  obtain ⟨rfl, rfl⟩ := Prod.mk.inj h0
                  exact ⟨_, rfl, Kd.R_nil _ _ _ _ _, HB.out⟩
                · have e5b : decide (n < 128) = false := decide_eq_false e5
                  by_cases e6 : 1114111 < n
                  · have e6b : decide (1114111 < n) = true := decide_eq_true e6
                    go_wp2
                    go_step3
                    change J1 (.goto 0) _ _
                    refine hJ1.goto _ _ _ _ rfl ?_
                    go_wp2
                    refine hJ0 _ _ _ (by simp) ?_
                    go_ret2
                    have h0 := HR0.out
                    rw [byRune_stop HS.out h4 i3 HI.out.le, if_neg (by omega)] at h0
                    obtain ⟨rfl, rfl⟩ := Prod.mk.inj h0
                    exact ⟨_, rfl, Kd.R_nil _ _ _ _ _, HB.out⟩
                  · have e6b : decide (1114111 < n) = false := decide_eq_false e6
                    by_cases e7 : 55296 ≤ n
                    · have e7b : decide (55296 ≤ n) = true := decide_eq_true e7
                      by_cases e8 : n ≤ 57343
                      · have e8b : decide (n ≤ 57343) = true := decide_eq_true e8
                        go_wp2
                        go_step3
                        change J1 (.goto 0) _ _
                        refine hJ1.goto _ _ _ _ rfl ?_
                        go_wp2
                        refine hJ0 _ _ _ (by simp) ?_
                        go_ret2
                        have h0 := HR0.out
                        rw [byRune_stop HS.out h4 i3 HI.out.le, if_neg (by omega)] at h0
                        obtain ⟨rfl, rfl⟩ := Prod.mk.inj h0
                        exact ⟨_, rfl, Kd.R_nil _ _ _ _ _, HB.out⟩
                      · have e8b : decide (n ≤ 57343) = false := decide_eq_false e8
                        go_wp2_with (first | (go_at_call 44; refine (bytes_calls n _ (by omega)).mono ?_; rintro e w' ⟨v, rfl, HV, hbel⟩) | (go_at_call 32; refine (digit_calls _ _ (bt_range s _)).mono ?_; rintro e w' ⟨rfl, rfl⟩))
                        refine hJ1.other _ _ _ (by simp) ?_
                        go_ret2
                        have h0 := HR0.out
                        rw [byRune_stop HS.out h4 i3 HI.out.le, if_pos (by omega)] at h0
                        obtain ⟨rfl, rfl⟩ := Prod.mk.inj h0
                        exact ⟨_, rfl, Kd.R_lower HV (below_size HB.out), below_step HB.out hbel⟩
                    · have e7b : decide (55296 ≤ n) = false := decide_eq_false e7
                      go_wp2_with (first | (go_at_call 44; refine (bytes_calls n _ (by omega)).mono ?_; rintro e w' ⟨v, rfl, HV, hbel⟩) | (go_at_call 32; refine (digit_calls _ _ (bt_range s _)).mono ?_; rintro e w' ⟨rfl, rfl⟩))
                      refine hJ1.other _ _ _ (by simp) ?_
                      go_ret2
                      have h0 := HR0.out
                      rw [byRune_stop HS.out h4 i3 HI.out.le, if_pos (by omega)] at h0
                      obtain ⟨rfl, rfl⟩ := Prod.mk.inj h0
                      exact ⟨_, rfl, Kd.R_lower HV (below_size HB.out), below_step HB.out hbel⟩
        · have c5b : decide (i < (s.size : Int)) = false := decide_eq_false c5
          have e3b : decide ((s.size : Int) ≤ i) = true := decide_eq_true (by omega)
          have HS := Aside0.mk (HI.out.stop (fun hn => c5 hn.1))
          by_cases e1 : i = 3
          · have e1b : (i == 3) = true := beq_iff_eq.2 e1
            try have c7c : decide (0 ≤ dig (bt s 3)) = false := by rw [← e1]; exact c7b
            go_wp2
            go_step3
            change J1 (.goto 0) _ _
            refine hJ1.goto _ _ _ _ rfl ?_
            go_wp2
            refine hJ0 _ _ _ (by simp) ?_
            go_ret2
            have h0 := HR0.out
            rw [byRune_stop HS.out h4 i3 HI.out.le, if_neg (by omega)] at h0
            obtain ⟨rfl, rfl⟩ := Prod.mk.inj h0
            exact ⟨_, rfl, Kd.R_nil _ _ _ _ _, HB.out⟩
          · have e1b : (i == 3) = false := beq_eq_false_iff_ne.2 e1
            have h5 : 3 < s.size := by have := HI.out.le; omega
            by_cases e2 : bt s 3 = 48
            · have e2b : (bt s 3 == 48) = true := beq_iff_eq.2 e2
              go_wp2
              go_step3
              change J1 (.goto 0) _ _
              refine hJ1.goto _ _ _ _ rfl ?_
              go_wp2
              refine hJ0 _ _ _ (by simp) ?_
              go_ret2
              have h0 := HR0.out
              rw [byRune_stop HS.out h4 i3 HI.out.le, if_neg (by omega)] at h0
              obtain ⟨rfl, rfl⟩ := Prod.mk.inj h0
              exact ⟨_, rfl, Kd.R_nil _ _ _ _ _, HB.out⟩
            · have e2b : (bt s 3 == 48) = false := beq_eq_false_iff_ne.2 e2
              go_wp2
              go_step3
              change J1 (.goto 0) _ _
              refine hJ1.goto _ _ _ _ rfl ?_
              go_wp2
              refine hJ0 _ _ _ (by simp) ?_
              go_ret2
              have h0 := HR0.out
              rw [byRune_stop HS.out h4 i3 HI.out.le, if_neg (by omega)] at h0
              obtain ⟨rfl, rfl⟩ := Prod.mk.inj h0
              exact ⟨_, rfl, Kd.R_nil _ _ _ _ _, HB.out⟩
    · intro x c w1 cnt1 hwx hwc hlx hat hrg1 hlt hg1 hs1 hen
      have hb : (c == bt s 1) = false := beq_eq_false_iff_ne.2 (fun e => HK.out x (e ▸ short_at hat))
      have HR := Aside0.mk hrg1
      have HR0 := Aside0.mk hrg
      have HB1 := Aside0.mk (HB.out.grown hg1 (HB.out.size) (fun k hk => by cases hk; exact Nat.le_refl _))
      have HLT := Aside0.mk hlt
      clear hat hrg1 hg1 hlx hwx hwc hrg hlt HB
      go_wp2
      go_roundw
      case rel => exact ⟨_, cnt1, HR.out, HB1.out⟩
      case measure => rw [HR.out.left_eq, HR0.out.left_eq]; exact HLT.out
end Go.Proofs.YtflddgoapibleaaDoor.Hand

namespace Go.Proofs.YtflddgoapibleaaDoor.Hand
open Go.RowKit Go.Maps Go.Proofs.YtflddgoapibleaaDoorW.PrintWords Go.Proofs.YtflddgoapibleaaDoorW.PrintLast Go.Proofs.YtflddgoapibleaaDoorW.PrintMore
theorem bytes_getD (s : ByteArray) (i : Nat) (h : i < s.size) : (bytesOf s).getD i (-1) = bt s i := by
  have := bytes_drop s i (by omega) (by omega)
  rw [List.getD_eq_getElem?_getD, ← List.head?_drop]
  rw [show ((i : Int)).toNat = i from rfl] at this
  rw [this]; rfl
theorem bytes_none (s : ByteArray) (i : Nat) (h : s.size ≤ i) : (bytesOf s).getD i (-1) = -1 := by
  rw [List.getD_eq_getElem?_getD, List.getElem?_eq_none (by rw [bytesOf_length]; omega)]; rfl
theorem toList_nil (s : ByteArray) (h : s.size = 0) : s.toList = [] := by
  rw [ByteArray.toList_eq]; exact List.eq_nil_of_length_eq_zero (by rw [data_length]; exact h)
theorem toList_some (s : ByteArray) (h : 0 < s.size) : s.toList.isEmpty = false := by
  rw [ByteArray.toList_eq]
  cases h2 : s.data.toList with
  | nil => have := data_length s; rw [h2] at this; simp at this; omega
  | cons a t => rfl
theorem letter_or (k : Int) : (∃ x, InShort x k) ∨ NoLetter k := by
  by_cases h : ∃ x, InShort x k
  · exact .inl h
  · exact .inr (fun x hx => h ⟨x, hx⟩)
theorem piece_u (s : ByteArray) (w : World) (hG : Globs w) (hs : 0 < s.size) (hne : s.toList.isEmpty = false) (h1 : 2 ≤ s.size) (c0 : (bt s 0 != 92) = false) (hk : NoLetter (bt s 1)) (hk120 : (bt s 1 == 120) = false) (hk117 : (bt s 1 == 117) = true) (r1 : List Int) (r2 : Int) (hr : byRune (bytesOf s) = (r1, r2)) :
    Calls Tryd.prog 28 #[.string s] w fun e w' => ∃ v : Value, e = .returned (.tuple #[v, .int .i64 r2]) ∧ Kd.R (Kd.int .u8) 5 w' w.heap.size (fun _ => True) v r1 ∧ Below w.heap.size w w' := by
  by_cases h3 : s.size < 3
  · have : byRune (bytesOf s) = ([], 0) := by unfold byRune; rw [if_neg]; rw [bytes_none s 2 (by omega)]; omega
    rw [this] at hr; obtain ⟨rfl, rfl⟩ := Prod.mk.inj hr
    refine (piece_u_short s w hG hs hne h1 c0 hk hk120 hk117 h3).mono ?_
    rintro e w' ⟨rfl, hb⟩
    exact ⟨_, rfl, Kd.R_nil _ _ _ _ _, hb⟩
  · by_cases h2 : bt s 2 = 123
    · exact piece_u_loop s w hG hs hne h1 c0 hk hk120 hk117 (by omega) (bne_eq_false_iff_eq.2 h2) r1 r2 hr
    · have : byRune (bytesOf s) = ([], 0) := by unfold byRune; rw [if_neg]; rw [bytes_getD s 2 (by omega)]; intro hc; exact h2 hc.1
      rw [this] at hr; obtain ⟨rfl, rfl⟩ := Prod.mk.inj hr
      refine (piece_u_open s w hG hs hne h1 c0 hk hk120 hk117 (by omega) (bne_iff_ne.2 h2)).mono ?_
      rintro e w' ⟨rfl, hb⟩
      exact ⟨_, rfl, Kd.R_nil _ _ _ _ _, hb⟩
theorem piece_x (s : ByteArray) (w : World) (hG : Globs w) (hs : 0 < s.size) (hne : s.toList.isEmpty = false) (h1 : 2 ≤ s.size) (c0 : (bt s 0 != 92) = false) (hk : NoLetter (bt s 1)) (hk120 : (bt s 1 == 120) = true) (r1 : List Int) (r2 : Int) (hr : byTwo ((bytesOf s).getD 2 (-1)) ((bytesOf s).getD 3 (-1)) = (r1, r2)) :
    Calls Tryd.prog 28 #[.string s] w fun e w' => ∃ v : Value, e = .returned (.tuple #[v, .int .i64 r2]) ∧ Kd.R (Kd.int .u8) 5 w' w.heap.size (fun _ => True) v r1 ∧ Below w.heap.size w w' := by
  by_cases h4 : s.size < 4
  · rw [bytes_none s 3 (by omega)] at hr
    have : byTwo ((bytesOf s).getD 2 (-1)) (-1) = ([], 0) := by unfold byTwo; rw [if_neg]; intro hc; exact absurd hc.2 (by decide)
    rw [this] at hr; obtain ⟨rfl, rfl⟩ := Prod.mk.inj hr
    refine (piece_x_short s w hG hs hne h1 c0 hk hk120 h4).mono ?_
    rintro e w' ⟨rfl, hb⟩
    exact ⟨_, rfl, Kd.R_nil _ _ _ _ _, hb⟩
  rw [bytes_getD s 2 (by omega), bytes_getD s 3 (by omega)] at hr
  change byTwo (bt s 2) (bt s 3) = _ at hr
  have d2 := dig_range (bt s 2)
  have d3 := dig_range (bt s 3)
  by_cases hd2 : dig (bt s 2) < 0
  · have : byTwo (bt s 2) (bt s 3) = ([], 0) := by unfold byTwo; rw [if_neg]; omega
    rw [this] at hr; obtain ⟨rfl, rfl⟩ := Prod.mk.inj hr
    refine (piece_x_bad2 s w hG hs hne h1 c0 hk hk120 (by omega) _ (digitIs s 2 _ rfl) hd2).mono ?_
    rintro e w' ⟨rfl, hb⟩
    exact ⟨_, rfl, Kd.R_nil _ _ _ _ _, hb⟩
  by_cases hd3 : dig (bt s 3) < 0
  · have : byTwo (bt s 2) (bt s 3) = ([], 0) := by unfold byTwo; rw [if_neg]; omega
    rw [this] at hr; obtain ⟨rfl, rfl⟩ := Prod.mk.inj hr
    refine (piece_x_bad3 s w hG hs hne h1 c0 hk hk120 (by omega) _ _ (digitIs s 2 _ rfl) (by omega) (digitIs s 3 _ rfl) hd3).mono ?_
    rintro e w' ⟨rfl, hb⟩
    exact ⟨_, rfl, Kd.R_nil _ _ _ _ _, hb⟩
  have hwf := two_wf (16 * dig (bt s 2) + dig (bt s 3)) (by omega) (by omega)
  have hB : byTwo (bt s 2) (bt s 3) = if (16 * dig (bt s 2) + dig (bt s 3)) = 9 ∨ (16 * dig (bt s 2) + dig (bt s 3)) = 10 ∨ (16 * dig (bt s 2) + dig (bt s 3)) = 13 ∨ (32 ≤ (16 * dig (bt s 2) + dig (bt s 3)) ∧ (16 * dig (bt s 2) + dig (bt s 3)) ≤ 126) then ([], 0) else ([16 * dig (bt s 2) + dig (bt s 3)], 4) := by
    unfold byTwo; rw [if_pos (by omega)]
  rw [hB] at hr
  by_cases hin : Maps.has (DataW.map shortL) (.int .u8 (16 * dig (bt s 2) + dig (bt s 3))) = true
  · have hin' := hin
    rw [short_has_iff] at hin'
    simp only [Bool.or_eq_true, decide_eq_true_eq] at hin'
    rw [if_pos (by omega)] at hr; obtain ⟨rfl, rfl⟩ := Prod.mk.inj hr
    refine (piece_x_in s w hG hs hne h1 c0 hk hk120 (by omega) _ _ (digitIs s 2 _ rfl) (by omega) (by omega) (digitIs s 3 _ rfl) (by omega) (by omega) hwf hin).mono ?_
    rintro e w' ⟨rfl, hb⟩
    exact ⟨_, rfl, Kd.R_nil _ _ _ _ _, hb⟩
  · have hin2 := Bool.eq_false_iff.2 hin
    have hin' := hin2
    rw [short_has_iff] at hin'
    simp only [Bool.or_eq_false_iff, decide_eq_false_iff_not] at hin'
    by_cases h5 : 32 ≤ (16 * dig (bt s 2) + dig (bt s 3))
    · by_cases h6 : (16 * dig (bt s 2) + dig (bt s 3)) < 127
      · rw [if_pos (by omega)] at hr; obtain ⟨rfl, rfl⟩ := Prod.mk.inj hr
        refine (piece_x_print s w hG hs hne h1 c0 hk hk120 (by omega) _ _ (digitIs s 2 _ rfl) (by omega) (by omega) (digitIs s 3 _ rfl) (by omega) (by omega) hwf hin2 (decide_eq_true h5) (decide_eq_true h6)).mono ?_
        rintro e w' ⟨rfl, hb⟩
        exact ⟨_, rfl, Kd.R_nil _ _ _ _ _, hb⟩
      · rw [if_neg (by omega)] at hr; obtain ⟨rfl, rfl⟩ := Prod.mk.inj hr
        exact piece_x_high s w hG hs hne h1 c0 hk hk120 (by omega) _ _ (digitIs s 2 _ rfl) (by omega) (by omega) (digitIs s 3 _ rfl) (by omega) (by omega) hwf hin2 (decide_eq_true h5) (decide_eq_false h6)
    · rw [if_neg (by omega)] at hr; obtain ⟨rfl, rfl⟩ := Prod.mk.inj hr
      exact piece_x_low s w hG hs hne h1 c0 hk hk120 (by omega) _ _ (digitIs s 2 _ rfl) (by omega) (by omega) (digitIs s 3 _ rfl) (by omega) (by omega) hwf hin2 (decide_eq_false h5)
theorem escape_piece.calls (a0 : ByteArray) (r1 : List Int) (r2 : Int) (w : World) (hG : Globs w) (h : escape_piece.f a0 = some (r1, r2)) :
    Calls Tryd.prog 28 #[.string a0] w fun e w' => ∃ v0_ : Value, e = .returned (.tuple #[v0_, .int .i64 r2]) ∧ Kd.R (Kd.int .u8) 5 w' w.heap.size (fun _ => True) v0_ r1 ∧ Below w.heap.size w w' := by
  have hr : pieceL (bytesOf a0) = (r1, r2) := by
    unfold escape_piece.f at h
    split at h
    · exact Option.some.inj h
    · simp at h
  clear h
  unfold pieceL at hr
  by_cases hs : a0.size = 0
  · rw [bytes_none a0 0 (by omega)] at hr
    rw [if_pos (by decide), if_neg (by decide)] at hr
    obtain ⟨rfl, rfl⟩ := Prod.mk.inj hr
    refine (piece_empty a0 w (toList_nil a0 hs)).mono ?_
    rintro e w' ⟨rfl, rfl⟩
    exact ⟨_, rfl, Kd.R_nil _ _ _ _ _, Below.refl _ _⟩
  have hs0 : 0 < a0.size := by omega
  have hne := toList_some a0 hs0
  rw [show (bytesOf a0).getD 0 (-1) = bt a0 0 from bytes_getD a0 0 hs0] at hr
  by_cases hc0 : bt a0 0 = 92
  · have c0 : (bt a0 0 != 92) = false := bne_eq_false_iff_eq.2 hc0
    rw [if_neg (by omega)] at hr
    by_cases h1 : a0.size < 2
    · rw [bytes_none a0 1 (by omega)] at hr
      rw [if_neg (by decide), if_neg (by decide), if_neg (by decide), if_neg (by decide), if_neg (by decide), if_neg (by decide)] at hr
      obtain ⟨rfl, rfl⟩ := Prod.mk.inj hr
      refine (piece_lone a0 w hs0 hne h1 c0).mono ?_
      rintro e w' ⟨rfl, rfl⟩
      exact ⟨_, rfl, Kd.R_nil _ _ _ _ _, Below.refl _ _⟩
    rw [show (bytesOf a0).getD 1 (-1) = bt a0 1 from bytes_getD a0 1 (by omega)] at hr
    rcases letter_or (bt a0 1) with ⟨x0, hx0⟩ | hno
    · have key : r1 = [x0] ∧ r2 = 2 := by
        have hx := hx0
        unfold InShort at hx
        rcases hx with ⟨rfl, hk⟩ | ⟨rfl, hk⟩ | ⟨rfl, hk⟩ | ⟨rfl, hk⟩ <;> simp [hk] at hr <;> simp [hr]
      obtain ⟨rfl, rfl⟩ := key
      exact piece_letter a0 x0 w hG hs0 hne (by omega) c0 hx0
    · have n1 : ¬ bt a0 1 = 92 := fun e => hno 92 (by unfold InShort; omega)
      have n2 : ¬ bt a0 1 = 110 := fun e => hno 10 (by unfold InShort; omega)
      have n3 : ¬ bt a0 1 = 114 := fun e => hno 13 (by unfold InShort; omega)
      have n4 : ¬ bt a0 1 = 116 := fun e => hno 9 (by unfold InShort; omega)
      rw [if_neg n1, if_neg n2, if_neg n3, if_neg n4] at hr
      by_cases k1 : bt a0 1 = 120
      · rw [if_pos k1] at hr
        exact piece_x a0 w hG hs0 hne (by omega) c0 hno (beq_iff_eq.2 k1) r1 r2 hr
      rw [if_neg k1] at hr
      by_cases k2 : bt a0 1 = 117
      · rw [if_pos k2] at hr
        exact piece_u a0 w hG hs0 hne (by omega) c0 hno (beq_eq_false_iff_ne.2 k1) (beq_iff_eq.2 k2) r1 r2 hr
      rw [if_neg k2] at hr
      obtain ⟨rfl, rfl⟩ := Prod.mk.inj hr
      refine (piece_other a0 w hG hs0 hne (by omega) c0 hno (beq_eq_false_iff_ne.2 k1) (beq_eq_false_iff_ne.2 k2)).mono ?_
      rintro e w' ⟨rfl, hb⟩
      exact ⟨_, rfl, Kd.R_nil _ _ _ _ _, hb⟩
  · have c0 : (bt a0 0 != 92) = true := bne_iff_ne.2 hc0
    rw [if_pos hc0] at hr
    by_cases hp : 32 ≤ bt a0 0 ∧ bt a0 0 ≤ 126
    · rw [if_pos hp] at hr
      obtain ⟨rfl, rfl⟩ := Prod.mk.inj hr
      exact piece_plain a0 w hs0 hne c0 hp.1 hp.2
    · rw [if_neg hp] at hr
      obtain ⟨rfl, rfl⟩ := Prod.mk.inj hr
      refine (piece_odd a0 w hs0 hne c0 (by omega)).mono ?_
      rintro e w' ⟨rfl, rfl⟩
      exact ⟨_, rfl, Kd.R_nil _ _ _ _ _, Below.refl _ _⟩
end Go.Proofs.YtflddgoapibleaaDoor.Hand
