/- Wrap: the message with its header; the document's Wrap. -/
import Derived.Test.YtgdiilpocoimgaaDoorFMark
set_option linter.unusedVariables false
set_option linter.unusedSimpArgs false
namespace Go.Proofs.YtgdiilpocoimgaaDoor.Hand
open Go.RowKit Go.Proofs.YtgdiilpocoimgaaDoor.Frm Go.Proofs.YtgdiilpocoimgaaDoorW.PrintWords Go.Proofs.YtgdiilpocoimgaaDoorW.PrintLast Go.Proofs.YtgdiilpocoimgaaDoorW.PrintMore

def pre : List Int := [67, 111, 110, 116, 101, 110, 116, 45, 76, 101, 110, 103, 116, 104, 58, 32]
def post : List Int := [13, 10, 13, 10]
theorem str_append (a b : List Int) : strOfNums a ++ strOfNums b = strOfNums (a ++ b) := by
  apply ByteArray.ext
  simp [strOfNums, ByteArray.data_append]
theorem conv_bytes (l : List Int) (W : World) : (convert 9 22 (.string (strOfNums l))).run Tryd.prog W = .ok (.slice (some ⟨W.heap.size, 0, none⟩) l.length (grownCap W l.length 0 5)) (Lib.bytesWorld W 5 (strOfNums l)) := by
  have := print_bytes (P := Tryd.prog) 9 22 5 Tryd.underlying9 Tryd.underlying22 Tryd.underlying5 (strOfNums l) W
  rwa [strOfNums_size] at this
theorem marked_row (X : List Int) (W : World) (hb : Bytes X) : ∃ cur : Array Value, (Lib.bytesWorld W 5 (strOfNums X)).heap[W.heap.size]? = some (.cells cur 5 (cur.size, cur.size + 1)) ∧ cur.size = grownCap W X.length 0 5 ∧ cur.toList.take X.length = numsV X := by
  have hge := grownCap_ge W X.length 0 5
  have hsz : (strOfNums X).size = X.length := strOfNums_size X
  refine ⟨_, Lib.bytesWorld_at_new W 5 (strOfNums X), ?_, ?_⟩
  · unfold Lib.bytesCells
    rw [Array.size_append, Array.size_map, Array.size_replicate, hsz]
    have : (strOfNums X).data.size = X.length := hsz
    omega
  · unfold Lib.bytesCells
    have hd : (strOfNums X).data.toList = X.map fun n => UInt8.ofNat n.toNat := by simp [strOfNums]
    rw [Array.toList_append, Array.toList_map, hd]
    have hm : ((X.map fun n => UInt8.ofNat n.toNat).map fun b => Value.int .u8 (b.toNat : Int)) = numsV X := by
      unfold numsV
      rw [List.map_map]
      refine List.map_congr_left fun x hx => ?_
      have := hb x hx
      show Value.int .u8 ((UInt8.ofNat x.toNat).toNat : Int) = Value.int .u8 x
      rw [UInt8.toNat_ofNat']
      congr 1
      omega
    rw [hm]
    have hl : (numsV X).length = X.length := List.length_map _
    rw [← hl]
    exact List.take_left
set_option maxHeartbeats 4000000 in
set_option maxRecDepth 100000 in
theorem wrap_calls (A : Option Addr) (c : Nat) (l D : List Int) (w : World) (hC : Kd.C (Kd.int .u8) w A l.length l) (hl : l.length ≤ 16777216) (hD : D.length ≤ 100) (hDb : Bytes D)
    (hI : Calls Tryd.prog 28 #[.int .i64 (l.length : Int)] w fun e W' => e = .returned (.string (strOfNums D)) ∧ Below w.heap.size w W') :
    Calls Tryd.prog 19 #[.slice A l.length c] w fun e w' => ∃ a c', e = .returned (.tuple #[.slice (some a) (pre ++ D ++ post ++ l).length c', .int .i64 0]) ∧ (pre ++ D ++ post ++ l).length ≤ c' ∧ Kd.C (Kd.int .u8) w' (some a) (pre ++ D ++ post ++ l).length (pre ++ D ++ post ++ l) ∧ Below w.heap.size w w' := by
  have hb1 : decide ((16777216 : Int) < (l.length : Int)) = false := decide_eq_false (by omega)
  have hsz : (strOfNums D).size = D.length := strOfNums_size D
  have hs1 : ¬ 9223372036854775807 < 16 + (strOfNums D).size := by omega
  have hs2 : ¬ 9223372036854775807 < 16 + (strOfNums D).size + 4 := by omega
  obtain ⟨X, hX⟩ : ∃ X, pre ++ D ++ post = X := ⟨_, rfl⟩
  have hS : ((⟨#[67, 111, 110, 116, 101, 110, 116, 45, 76, 101, 110, 103, 116, 104, 58, 32]⟩ : ByteArray) ++ strOfNums D ++ ⟨#[13, 10, 13, 10]⟩) = strOfNums X := by
    rw [← hX, ← str_append, ← str_append]; rfl
  have hXl : X.length = D.length + 20 := by rw [← hX]; simp [pre, post]
  have hXb : Bytes X := by
    rw [← hX]
    intro y hy
    rcases List.mem_append.1 hy with hy | hy
    · rcases List.mem_append.1 hy with hy | hy
      · exact (show Bytes pre by decide) y hy
      · exact hDb y hy
    · exact (show Bytes post by decide) y hy
  have kb : ∀ W, (convert 9 22 (.string ((⟨#[67, 111, 110, 116, 101, 110, 116, 45, 76, 101, 110, 103, 116, 104, 58, 32]⟩ : ByteArray) ++ strOfNums D ++ ⟨#[13, 10, 13, 10]⟩))).run Tryd.prog W = .ok (.slice (some ⟨W.heap.size, 0, none⟩) X.length (grownCap W X.length 0 5)) (Lib.bytesWorld W 5 (strOfNums X)) := by
    intro W; rw [hS]; exact conv_bytes X W
  rw [hX]
  have HI := Aside0.mk hI
  have HC := Aside0.mk hC
  have HX := Aside0.mk (And.intro hXl (And.intro hXb (And.intro hl hD)))
  clear hC hI hsz hS hX hDb hXb hXl
  go_enter Tryd.func19, Tryd.ntmps19
  go_wp2_with (first | (go_at_call 28; refine HI.out.mono ?_; rintro e W1 ⟨rfl, hB1⟩; obtain ⟨cur, hcur, hcz, htk⟩ := marked_row X W1 HX.out.2.1; have hBW := below_step hB1 (bytes_below (Below.refl W1.heap.size W1) (Nat.le_refl _) 5 (strOfNums X)); obtain ⟨v', w', hrun, ⟨a, c', rfl, hcc, hCC⟩, hg⟩ := append_marked w.heap.size W1.heap.size _ cur _ X l A c (Lib.bytesWorld W1 5 (strOfNums X)) hcur hB1.size (Nat.le_refl _) hcz (grownCap_ge W1 X.length 0 5) htk (Kd.C_below HC.out hBW) (by have := HX.out; omega) (Nat.le_trans hB1.size (by rw [Lib.bytesWorld_size]; omega)); have HG := Aside0.mk (And.intro hBW (And.intro hg (And.intro hcc (And.intro hCC hB1.size)))); clear hB1 hcur hcz htk hBW hg hcc hCC) | (at_builtin; refine Lib.wpList_append_run_sl _ rfl (.tmp 12) (.tmp 13) 22 rfl _ _ rfl rfl hrun ?_))
  go_ret2
  obtain ⟨h1, h2, h3, h4, h5⟩ := HG.out
  exact ⟨a, c', by rw [List.length_append]; rfl, h3, h4, h1.trans ⟨h2.os, h2.tape, h2.output, h2.size, fun k hk => h2.block k (by rw [Lib.bytesWorld_size]; omega) (by simp; omega)⟩⟩
set_option maxHeartbeats 4000000 in
set_option maxRecDepth 100000 in
theorem rwrap_calls (A : Option Addr) (c : Nat) (l D : List Int) (w : World) (hC : Kd.C (Kd.int .u8) w A l.length l) (hl : l.length ≤ 16777216) (hD : D.length ≤ 100) (hDb : Bytes D)
    (hI : Calls Tryd.prog 28 #[.int .i64 (l.length : Int)] w fun e W' => e = .returned (.string (strOfNums D)) ∧ Below w.heap.size w W') :
    Calls Tryd.prog 20 #[.slice A l.length c] w fun e w' => ∃ a c', e = .returned (.tuple #[.slice (some a) (pre ++ D ++ post ++ l).length c', .int .i64 0]) ∧ (pre ++ D ++ post ++ l).length ≤ c' ∧ Kd.C (Kd.int .u8) w' (some a) (pre ++ D ++ post ++ l).length (pre ++ D ++ post ++ l) ∧ Below w.heap.size w w' := by
  have hb1 : decide ((16777216 : Int) < (l.length : Int)) = false := decide_eq_false (by omega)
  have hsz : (strOfNums D).size = D.length := strOfNums_size D
  have hs1 : ¬ 9223372036854775807 < 16 + (strOfNums D).size := by omega
  have hs2 : ¬ 9223372036854775807 < 16 + (strOfNums D).size + 4 := by omega
  obtain ⟨X, hX⟩ : ∃ X, pre ++ D ++ post = X := ⟨_, rfl⟩
  have hS : ((⟨#[67, 111, 110, 116, 101, 110, 116, 45, 76, 101, 110, 103, 116, 104, 58, 32]⟩ : ByteArray) ++ strOfNums D ++ ⟨#[13, 10, 13, 10]⟩) = strOfNums X := by
    rw [← hX, ← str_append, ← str_append]; rfl
  have hXl : X.length = D.length + 20 := by rw [← hX]; simp [pre, post]
  have hXb : Bytes X := by
    rw [← hX]
    intro y hy
    rcases List.mem_append.1 hy with hy | hy
    · rcases List.mem_append.1 hy with hy | hy
      · exact (show Bytes pre by decide) y hy
      · exact hDb y hy
    · exact (show Bytes post by decide) y hy
  have kb : ∀ W, (convert 9 22 (.string ((⟨#[67, 111, 110, 116, 101, 110, 116, 45, 76, 101, 110, 103, 116, 104, 58, 32]⟩ : ByteArray) ++ strOfNums D ++ ⟨#[13, 10, 13, 10]⟩))).run Tryd.prog W = .ok (.slice (some ⟨W.heap.size, 0, none⟩) X.length (grownCap W X.length 0 5)) (Lib.bytesWorld W 5 (strOfNums X)) := by
    intro W; rw [hS]; exact conv_bytes X W
  rw [hX]
  have HI := Aside0.mk hI
  have HC := Aside0.mk hC
  have HX := Aside0.mk (And.intro hXl (And.intro hXb (And.intro hl hD)))
  clear hC hI hsz hS hX hDb hXb hXl
  go_enter Tryd.func20, Tryd.ntmps20
  go_wp2_with (first | (go_at_call 28; refine HI.out.mono ?_; rintro e W1 ⟨rfl, hB1⟩; obtain ⟨cur, hcur, hcz, htk⟩ := marked_row X W1 HX.out.2.1; have hBW := below_step hB1 (bytes_below (Below.refl W1.heap.size W1) (Nat.le_refl _) 5 (strOfNums X)); obtain ⟨v', w', hrun, ⟨a, c', rfl, hcc, hCC⟩, hg⟩ := append_marked w.heap.size W1.heap.size _ cur _ X l A c (Lib.bytesWorld W1 5 (strOfNums X)) hcur hB1.size (Nat.le_refl _) hcz (grownCap_ge W1 X.length 0 5) htk (Kd.C_below HC.out hBW) (by have := HX.out; omega) (Nat.le_trans hB1.size (by rw [Lib.bytesWorld_size]; omega)); have HG := Aside0.mk (And.intro hBW (And.intro hg (And.intro hcc (And.intro hCC hB1.size)))); clear hB1 hcur hcz htk hBW hg hcc hCC) | (at_builtin; refine Lib.wpList_append_run_sl _ rfl (.tmp 12) (.tmp 13) 22 rfl _ _ rfl rfl hrun ?_))
  go_ret2
  obtain ⟨h1, h2, h3, h4, h5⟩ := HG.out
  exact ⟨a, c', by rw [List.length_append]; rfl, h3, h4, h1.trans ⟨h2.os, h2.tape, h2.output, h2.size, fun k hk => h2.block k (by rw [Lib.bytesWorld_size]; omega) (by simp; omega)⟩⟩
theorem wrap_long (A : Option Addr) (n c : Nat) (w : World) (h : 16777216 < n) : Calls Tryd.prog 19 #[.slice A n c] w fun e w' => e = .returned (.tuple #[.slice none 0 0, .int .i64 5]) ∧ w' = w := by
  have hb1 : decide ((16777216 : Int) < (n : Int)) = true := decide_eq_true (by omega)
  go_enter Tryd.func19, Tryd.ntmps19
  go_wp2
  go_ret2
  exact ⟨rfl, rfl⟩
theorem rwrap_long (A : Option Addr) (n c : Nat) (w : World) (h : 16777216 < n) : Calls Tryd.prog 20 #[.slice A n c] w fun e w' => e = .returned (.tuple #[.slice none 0 0, .int .i64 5]) ∧ w' = w := by
  have hb1 : decide ((16777216 : Int) < (n : Int)) = true := decide_eq_true (by omega)
  go_enter Tryd.func20, Tryd.ntmps20
  go_wp2
  go_ret2
  exact ⟨rfl, rfl⟩
end Go.Proofs.YtgdiilpocoimgaaDoor.Hand
