/- frame.length: the number that a value says. -/
import Derived.Test.YtgdiilpocoimgaaDoorFFold
import Derived.Test.YtgdiilpocoimgaaDoorShelf
set_option linter.unusedVariables false
set_option linter.unusedSimpArgs false
namespace Go.Proofs.YtgdiilpocoimgaaDoor.Hand
open Go.RowKit Go.Proofs.YtgdiilpocoimgaaDoor.Frm Go.Proofs.YtgdiilpocoimgaaDoorW.PrintWords Go.Proofs.YtgdiilpocoimgaaDoorW.PrintLast Go.Proofs.YtgdiilpocoimgaaDoorW.PrintMore
attribute [local go_sem] max2_int min2_int max_two min_two max_three min_three max_four min_four

def Bytes (l : List Int) : Prop := ∀ x ∈ l, 0 ≤ x ∧ x ≤ 255
instance (l : List Int) : Decidable (Bytes l) := inferInstanceAs (Decidable (∀ x ∈ l, 0 ≤ x ∧ x ≤ 255))
def blankI (x : Int) : Bool := decide (x = 32 ∨ x = 9)
def trimR (l : List Int) : List Int := (l.reverse.dropWhile blankI).reverse
def trimI (l : List Int) : List Int := (trimR l).dropWhile blankI
def numL : Int → List Int → Int
  | n, [] => n
  | n, c :: t => if c < 48 ∨ 57 < c then -1 else numL (10 * n + (c - 48)) t
def lengthL (l : List Int) : Int := if (trimI l).length = 0 ∨ 9 < (trimI l).length ∨ (1 < (trimI l).length ∧ (trimI l).getD 0 0 = 48) then -1 else numL 0 (trimI l)
theorem dropWhile_len {α : Type} (p : α → Bool) (l : List α) : (l.dropWhile p).length ≤ l.length := (List.dropWhile_suffix p).length_le
theorem dropWhile_eq {α : Type} (p : α → Bool) (l : List α) : l.dropWhile p = l.drop (l.length - (l.dropWhile p).length) := List.suffix_iff_eq_drop.1 (List.dropWhile_suffix p)
theorem trimR_pre (l : List Int) : trimR l = l.take (trimR l).length := by
  have h : trimR l <+: l := by
    have := (List.dropWhile_suffix blankI (l := l.reverse))
    have h2 := List.reverse_prefix.2 this
    rwa [List.reverse_reverse] at h2
  exact List.prefix_iff_eq_take.1 h
theorem trimR_len (l : List Int) : (trimR l).length ≤ l.length := by
  unfold trimR; rw [List.length_reverse]; have := dropWhile_len blankI l.reverse; rwa [List.length_reverse] at this
theorem trimI_eq (l : List Int) : trimI l = (l.take (trimR l).length).drop ((trimR l).length - (trimI l).length) := by
  rw [← trimR_pre]; exact dropWhile_eq blankI (trimR l)
theorem trimI_len (l : List Int) : (trimI l).length ≤ (trimR l).length := dropWhile_len _ _
theorem dropWhile_conv (l : List Int) (h : Bytes l) : (l.map fun n => UInt8.ofNat n.toNat).dropWhile ([32, 9].contains ·) = (l.dropWhile blankI).map fun n => UInt8.ofNat n.toNat := by
  induction l with
  | nil => rfl
  | cons x t ih =>
    have hx := h x List.mem_cons_self
    have ht := ih (fun z hz => h z (List.mem_cons_of_mem _ hz))
    have hc : ([32, 9] : List UInt8).contains (UInt8.ofNat x.toNat) = blankI x := by
      have e : ∀ y : Nat, y < 256 → ([32, 9] : List UInt8).contains (UInt8.ofNat y) = decide (y = 32 ∨ y = 9) := by decide +kernel
      rw [e x.toNat (by omega)]
      unfold blankI
      exact decide_eq_decide.2 (by omega)
    rw [List.map_cons, List.dropWhile_cons, List.dropWhile_cons, hc]
    cases blankI x
    · simp
    · simpa using ht
theorem bytes_rev (l : List Int) (h : Bytes l) : Bytes l.reverse := fun x hx => h x (List.mem_reverse.1 hx)
theorem bytes_dropWhile (p : Int → Bool) (l : List Int) (h : Bytes l) : Bytes (l.dropWhile p) := fun x hx => h x ((List.dropWhile_suffix p).subset hx)
theorem conv_trimR (l : List Int) (h : Bytes l) : Lib.trimRightS (Lib.bytesOf l) [32, 9] = Lib.bytesOf (trimR l) := by
  unfold Lib.trimRightS Lib.bytesOf trimR
  rw [← List.map_reverse, dropWhile_conv _ (bytes_rev l h), List.map_reverse]
theorem conv_trimI (l : List Int) (h : Bytes l) : Lib.trimS (Lib.bytesOf l) [32, 9] = Lib.bytesOf (trimI l) := by
  unfold Lib.trimS
  rw [conv_trimR l h]
  unfold Lib.trimLeftS Lib.bytesOf trimI
  exact dropWhile_conv _ (bytes_rev _ (bytes_dropWhile _ _ (bytes_rev l h)))
theorem bytesOf_len (l : List Int) : (Lib.bytesOf l).length = l.length := List.length_map _
theorem bytes_in {w : World} {A : Option Addr} {l : List Int} (h : Kd.C (Kd.int .u8) w A l.length l) (hA : 0 < l.length → ∃ b o, A = some ⟨b, o, none⟩) : Lib.BytesIn w A l.length l := by
  intro h0
  obtain ⟨b, o, rfl⟩ := hA h0
  refine ⟨b, o, rfl, fun i hi => ?_⟩
  obtain ⟨ad, e, hc⟩ := Kd.at_int h (i : Int) (by omega) (by omega)
  cases e
  rw [show ((i : Int)).toNat = i by omega] at hc
  have ha : (⟨b, o, none⟩ : Addr).add i = ⟨b, o + i, none⟩ := by simp [Addr.add]
  rw [ha] at hc
  rw [hc]
  unfold rd
  rw [show ((i : Int)).toNat = i by omega]
/-- bytes.Trim of the bytes l by blanks. -/
theorem trim_calls (A : Option Addr) (c : Nat) (l : List Int) (w : World) (h : Kd.C (Kd.int .u8) w A l.length l) (hc : l.length ≤ c) (hcm : c ≤ 9223372036854775807) (hA : 0 < l.length → ∃ b o, A = some ⟨b, o, none⟩) (hb : Bytes l) :
    Calls Tryd.prog 40 #[.slice A l.length c, .string ⟨#[32, 9]⟩] w fun e w' => ∃ A' c', e = .returned (.slice A' (trimI l).length c') ∧ (trimI l).length ≤ c' ∧ Kd.C (Kd.int .u8) w' A' (trimI l).length (trimI l) ∧ Below w.heap.size w w' := by
  have hcon := Any.bytes_Trim_laid Tryd.laysV6 (by kernel_rfl) A l.length c l ⟨#[32, 9]⟩ w rfl hc hcm (bytes_in h hA) (fun x hx => by have := hb x hx; omega) (by decide) (ascii_of_all (by decide))
  change Calls Tryd.prog 40 _ _ (fun e w' => e = .returned (Lib.leftV A (Lib.trimRightS (Lib.bytesOf l) [32, 9]).length c ((Lib.trimRightS (Lib.bytesOf l) [32, 9]).length - (Lib.trimS (Lib.bytesOf l) [32, 9]).length)) ∧ Below w.heap.size w w') at hcon
  refine hcon.mono ?_
  rintro e w' ⟨rfl, hB⟩
  have h1 := trimI_len l
  have h2 := trimR_len l
  rw [conv_trimR l hb, conv_trimI l hb, bytesOf_len, bytesOf_len]
  have hC := Kd.C_below h hB
  unfold Lib.leftV Lib.fromV
  by_cases h0 : (trimI l).length = 0
  · rw [if_pos (by omega), show trimI l = [] from List.eq_nil_of_length_eq_zero h0]
    exact ⟨_, _, rfl, Nat.zero_le _, Kd.C_nil _ _, hB⟩
  · rw [if_neg (by omega), show (trimR l).length - ((trimR l).length - (trimI l).length) = (trimI l).length by omega]
    refine ⟨_, _, rfl, by omega, ?_, hB⟩
    have := Kd.C_mid (lo := (trimR l).length - (trimI l).length) (hi := (trimR l).length) hC (by omega) h2 hc
    rw [← trimI_eq l, show (Kd.int IntKind.u8).sz = 1 from rfl, Nat.mul_one] at this
    exact this
theorem trimI_bytes (l : List Int) (h : Bytes l) : Bytes (trimI l) := bytes_dropWhile _ _ (bytes_rev _ (bytes_dropWhile _ _ (bytes_rev l h)))
theorem numL_bound : ∀ (t : List Int) (n : Int), 0 ≤ n → -1 ≤ numL n t := by
  intro t
  induction t with
  | nil => intro n h; rw [numL]; omega
  | cons c t ih =>
    intro n h
    rw [numL]
    split
    · omega
    · exact ih _ (by omega)
set_option maxHeartbeats 8000000 in
set_option maxRecDepth 1000000 in
theorem length_calls (A : Option Addr) (c : Nat) (l : List Int) (w : World) (h : Kd.C (Kd.int .u8) w A l.length l) (hc : l.length ≤ c) (hcm : c ≤ 9223372036854775807) (hA : 0 < l.length → ∃ b o, A = some ⟨b, o, none⟩) (hb : Bytes l) :
    Calls Tryd.prog 33 #[.slice A l.length c] w fun e w' => e = .returned (.int .i64 (lengthL l)) ∧ Below w.heap.size w w' := by
  have HT := Aside0.mk (trim_calls A c l w h hc hcm hA hb)
  have HX := Aside0.mk (trimI_bytes l hb)
  obtain ⟨L, hL⟩ : ∃ L, lengthL l = L := ⟨_, rfl⟩
  have HL := Aside0.mk hL
  unfold lengthL at hL
  obtain ⟨t, ht⟩ : ∃ t, trimI l = t := ⟨_, rfl⟩
  rw [ht] at HT HX hL
  obtain ⟨r, hr⟩ : ∃ r, lengthL l = r := ⟨_, rfl⟩
  rw [hr]
  have HD := Aside0.mk (hL.trans (hL.symm.trans hL) |>.trans (HL.out.symm.trans hr))
  clear h hc hcm hA hb hL ht hr HL
  go_enter Tryd.func33, Tryd.ntmps33
  go_wp2_with (fail)
  refine HT.out.mono ?_
  rintro e w' ⟨A', c', rfl, hc', hC, hB⟩
  have HB := Aside0.mk hB
  have HC := Aside0.mk hC
  clear hB hC HT
  by_cases h0 : t.length = 0
  · have hr : r = -1 := by rw [← HD.out, if_pos (Or.inl h0)]
    subst hr
    have hb0 : ((t.length : Int) == 0) = true := beq_iff_eq.2 (by omega)
    go_wp2
    go_ret
    exact ⟨rfl, HB.out⟩
  have hb0 : ((t.length : Int) == 0) = false := beq_eq_false_iff_ne.2 (by omega)
  by_cases h9 : 9 < t.length
  · have hr : r = -1 := by rw [← HD.out, if_pos (Or.inr (Or.inl h9))]
    subst hr
    have hb9 : decide ((9 : Int) < (t.length : Int)) = true := decide_eq_true (by omega)
    go_wp2
    go_ret
    exact ⟨rfl, HB.out⟩
  have hb9 : decide ((9 : Int) < (t.length : Int)) = false := decide_eq_false (by omega)
  obtain ⟨ad, e0, hc0⟩ := Kd.at_int HC.out 0 (by omega) (by omega)
  cases e0
  have hc0' : w'.cell? ad = some (.int .u8 (rd t 0)) := hc0
  have hc0'' : w'.cell? (ad.add 0) = some (.int .u8 (rd t 0)) := hc0
  clear hc0
  have hrd : rd t 0 = t.getD 0 0 := by unfold rd; simp
  rw [hrd] at hc0' hc0''
  obtain ⟨z, hz⟩ : ∃ z, t.getD 0 0 = z := ⟨_, rfl⟩
  rw [hz] at hc0' hc0'' HD
  clear hrd hz
  by_cases h1 : 1 < t.length ∧ z = 48
  · have hr : r = -1 := by rw [← HD.out, if_pos (Or.inr (Or.inr h1))]
    subst hr
    have hb1 : decide ((1 : Int) < (t.length : Int)) = true := decide_eq_true (by omega)
    have hb2 : (z == 48) = true := beq_iff_eq.2 h1.2
    have h48 : z = 48 := h1.2
    rw [h48] at hc0' hc0''
    go_wp2
    go_ret
    exact ⟨rfl, HB.out⟩
  have hr : numL 0 t = r := by rw [← HD.out, if_neg (by omega)]
  have HR := Aside0.mk hr
  have HL9 := Aside0.mk h9
  clear hr HD
  by_cases hl1 : 1 < t.length
  · have hb1 : decide ((1 : Int) < (t.length : Int)) = true := decide_eq_true (by omega)
    have hb2 : (z == 48) = false := beq_eq_false_iff_ne.2 (fun e => h1 ⟨hl1, e⟩)
    go_wp2
    go_loopg [3, 29] t.length (fun g v3 v29 wx => w' = wx ∧ ∃ (i : Nat) (n : Int), i + g = t.length ∧ v3 = .int .i64 n ∧ v29 = .int .i64 i ∧ numL n (t.drop i) = r ∧ 0 ≤ n ∧ n < 10 ^ i)
    case atStart => exact ⟨rfl, 0, 0, by omega, rfl, rfl, HR.out, by omega, by omega⟩
    case round =>
      obtain ⟨rfl, i, n, hig, rfl, rfl, hinv, hn0, hn1⟩ := hrel
      have HI := Aside0.mk hinv
      have HN1 := Aside0.mk hn1
      clear hinv hn1
      cases gk with
      | zero =>
        obtain rfl : i = t.length := by omega
        have hr : n = r := by have := HI.out; rwa [List.drop_length, numL] at this
        subst hr
        go_wp2
        go_ret
        exact ⟨rfl, HB.out⟩
      | succ g =>
        have hi : (i : Int) < (t.length : Int) := by omega
        have hi0 : (0 : Int) ≤ (i : Int) := by omega
        obtain ⟨x, hx⟩ : ∃ x : Int, t[i]'(by omega) = x := ⟨_, rfl⟩
        obtain ⟨ad2, e2, hcx⟩ := Kd.at_int HC.out (i : Int) hi0 hi
        cases e2
        rw [rd_at t i (by omega), hx] at hcx
        simp only [Go.IntWalk.toNatUp] at hcx
        have hxb := HX.out x (by rw [← hx]; exact List.getElem_mem _)
        have hdr : t.drop i = x :: t.drop (i + 1) := by rw [← hx]; exact List.drop_eq_getElem_cons (by omega)
        have hnx := HI.out
        rw [hdr, numL] at hnx
        have HNX := Aside0.mk hnx
        have hp : (10 : Int) ^ i ≤ 10 ^ 9 := by exact_mod_cast Nat.pow_le_pow_right (by omega) (show i ≤ 9 by have := HL9.out; omega)
        have hp9 : (10 : Int) ^ 9 = 1000000000 := by decide
        have hn9 : n < 1000000000 := by have := HN1.out; omega
        have HP := Aside0.mk (show ∀ y : Int, 0 ≤ y → y ≤ 9 → 10 * n + y < 10 ^ (i + 1) by intro y h0 h9; have := HN1.out; rw [Int.pow_succ]; omega)
        clear hx hdr hnx hp hp9
        by_cases hlo : x < 48
        · have hr : r = -1 := by have := HNX.out; rw [if_pos (Or.inl hlo)] at this; exact this.symm
          subst hr
          go_wp2
          go_ret
          exact ⟨rfl, HB.out⟩
        by_cases hhi : 57 < x
        · have hr : r = -1 := by have := HNX.out; rw [if_pos (Or.inr hhi)] at this; exact this.symm
          subst hr
          go_wp2
          go_ret
          exact ⟨rfl, HB.out⟩
        have hnext : numL (10 * n + (x - 48)) (t.drop (i + 1)) = r := by have := HNX.out; rwa [if_neg (by omega)] at this
        have HNE := Aside0.mk hnext
        have hx48 : (48 : Int) ≤ x := by omega
        have hx57 : x ≤ 57 := by omega
        clear hnext hxb
        go_wp2
        go_roundg g
        case measure => omega
        case rel => exact ⟨rfl, i + 1, 10 * n + (x - 48), by omega, by first | rfl | (congr 1; omega) | (simp; omega), by first | rfl | simp, HNE.out, by omega, HP.out _ (by omega) (by omega)⟩
  · have hb1 : decide ((1 : Int) < (t.length : Int)) = false := decide_eq_false (by omega)
    go_wp2
    go_loopg [3, 29] t.length (fun g v3 v29 wx => w' = wx ∧ ∃ (i : Nat) (n : Int), i + g = t.length ∧ v3 = .int .i64 n ∧ v29 = .int .i64 i ∧ numL n (t.drop i) = r ∧ 0 ≤ n ∧ n < 10 ^ i)
    case atStart => exact ⟨rfl, 0, 0, by omega, rfl, rfl, HR.out, by omega, by omega⟩
    case round =>
      obtain ⟨rfl, i, n, hig, rfl, rfl, hinv, hn0, hn1⟩ := hrel
      have HI := Aside0.mk hinv
      have HN1 := Aside0.mk hn1
      clear hinv hn1
      cases gk with
      | zero =>
        obtain rfl : i = t.length := by omega
        have hr : n = r := by have := HI.out; rwa [List.drop_length, numL] at this
        subst hr
        go_wp2
        go_ret
        exact ⟨rfl, HB.out⟩
      | succ g =>
        have hi : (i : Int) < (t.length : Int) := by omega
        have hi0 : (0 : Int) ≤ (i : Int) := by omega
        obtain ⟨x, hx⟩ : ∃ x : Int, t[i]'(by omega) = x := ⟨_, rfl⟩
        obtain ⟨ad2, e2, hcx⟩ := Kd.at_int HC.out (i : Int) hi0 hi
        cases e2
        rw [rd_at t i (by omega), hx] at hcx
        simp only [Go.IntWalk.toNatUp] at hcx
        have hxb := HX.out x (by rw [← hx]; exact List.getElem_mem _)
        have hdr : t.drop i = x :: t.drop (i + 1) := by rw [← hx]; exact List.drop_eq_getElem_cons (by omega)
        have hnx := HI.out
        rw [hdr, numL] at hnx
        have HNX := Aside0.mk hnx
        have hp : (10 : Int) ^ i ≤ 10 ^ 9 := by exact_mod_cast Nat.pow_le_pow_right (by omega) (show i ≤ 9 by have := HL9.out; omega)
        have hp9 : (10 : Int) ^ 9 = 1000000000 := by decide
        have hn9 : n < 1000000000 := by have := HN1.out; omega
        have HP := Aside0.mk (show ∀ y : Int, 0 ≤ y → y ≤ 9 → 10 * n + y < 10 ^ (i + 1) by intro y h0 h9; have := HN1.out; rw [Int.pow_succ]; omega)
        clear hx hdr hnx hp hp9
        by_cases hlo : x < 48
        · have hr : r = -1 := by have := HNX.out; rw [if_pos (Or.inl hlo)] at this; exact this.symm
          subst hr
          go_wp2
          go_ret
          exact ⟨rfl, HB.out⟩
        by_cases hhi : 57 < x
        · have hr : r = -1 := by have := HNX.out; rw [if_pos (Or.inr hhi)] at this; exact this.symm
          subst hr
          go_wp2
          go_ret
          exact ⟨rfl, HB.out⟩
        have hnext : numL (10 * n + (x - 48)) (t.drop (i + 1)) = r := by have := HNX.out; rwa [if_neg (by omega)] at this
        have HNE := Aside0.mk hnext
        have hx48 : (48 : Int) ≤ x := by omega
        have hx57 : x ≤ 57 := by omega
        clear hnext hxb
        go_wp2
        go_roundg g
        case measure => omega
        case rel => exact ⟨rfl, i + 1, 10 * n + (x - 48), by omega, by first | rfl | (congr 1; omega) | (simp; omega), by first | rfl | simp, HNE.out, by omega, HP.out _ (by omega) (by omega)⟩
end Go.Proofs.YtgdiilpocoimgaaDoor.Hand
