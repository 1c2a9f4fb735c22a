/- Feed, as the document's reader has it: one contract for a reader that lives and one that is dead; many calls and one. -/
import Derived.Test.YtgdiilpocoimgaaDoorFMsgs
import Derived.Test.YtgdiilpocoimgaaDoorFRun2
set_option linter.unusedVariables false
set_option linter.unusedSimpArgs false
namespace Go.Proofs.YtgdiilpocoimgaaDoor.Hand
open Go.RowKit Go.Proofs.YtgdiilpocoimgaaDoor.Frm Go.Proofs.YtgdiilpocoimgaaDoorW.PrintWords Go.Proofs.YtgdiilpocoimgaaDoorW.PrintLast Go.Proofs.YtgdiilpocoimgaaDoorW.PrintMore

def rfeed (S : St) (l : List Int) : St × List (List Int) × Int := if S.dead = true then (S, [], 251) else ((runS S l).1, (runS S l).2.1, if (runS S l).2.2 = true then 250 else 0)
structure RS (most : Int) (S : St) (held : List Int) : Prop where
  bytes : Bytes held
  len : held.length = S.header + S.body.length
  alive : S.dead = false → Inv most S held
  gone : S.dead = true → S = stDead ∧ held = []
  top : (held.length : Int) ≤ 4096 + most
theorem RS.start {most : Int} (h : 0 ≤ most) : RS most (st0 most) [] :=
  ⟨fun x hx => (by cases hx), rfl, fun _ => Inv.start most h, (fun h => by cases h), by simp; omega⟩
theorem feedN_suffix' (most : Int) : ∀ (k : Nat) (L : List Int) (out : List (List Int)), (feedN k most L out).2.1 <:+ L
  | 0, L, out => List.suffix_refl _
  | k + 1, L, out => by
    rw [feedN]
    split
    · exact List.suffix_refl _
    split
    · exact List.nil_suffix
    split
    · exact List.suffix_refl _
    · exact (feedN_suffix' most k _ _).trans (List.drop_suffix _ _)
theorem runS_count : ∀ (l : List Int) (S : St), (runS S l).2.1.length ≤ l.length
  | [], S => Nat.le_refl _
  | c :: t, S => by
    rw [runS]
    split
    · simp
    · have := runS_count t (byteS S c).1
      have h2 : (byteS S c).2.1.toList.length ≤ 1 := by cases (byteS S c).2.1 <;> simp
      simp only [List.length_append, List.length_cons]; omega
theorem rfeed_count (S : St) (l : List Int) : (rfeed S l).2.1.length ≤ l.length := by
  unfold rfeed
  split
  · simp
  · exact runS_count l S
/-- Many calls: the state, the messages, whether it died among them. -/
def rfeeds (S : St) : List (List Int) → St × List (List Int)
  | [] => (S, [])
  | p :: ps => ((rfeeds (rfeed S p).1 ps).1, (rfeed S p).2.1 ++ (rfeeds (rfeed S p).1 ps).2)
theorem rfeeds_snoc : ∀ (ps : List (List Int)) (S : St) (p : List Int), rfeeds S (ps ++ [p]) = ((rfeed (rfeeds S ps).1 p).1, (rfeeds S ps).2 ++ (rfeed (rfeeds S ps).1 p).2.1)
  | [], S, p => by simp [rfeeds]
  | q :: ps, S, p => by
    rw [List.cons_append, rfeeds, rfeeds_snoc ps, rfeeds]
    simp
theorem rfeeds_dead : ∀ (ps : List (List Int)) (S : St), S.dead = true → rfeeds S ps = (S, [])
  | [], S, h => rfl
  | p :: ps, S, h => by
    have e : rfeed S p = (S, [], 251) := by unfold rfeed; rw [if_pos h]
    rw [rfeeds, e, rfeeds_dead ps S h]; rfl
theorem byteS_dead (S : St) (c : Int) (h : S.dead = false) (f : (byteS S c).2.2 = false) : (byteS S c).1.dead = false := by
  unfold byteS at f ⊢
  repeat' split
  all_goals (try simp_all [stDead, st0])
theorem byteS_fault (S : St) (c : Int) (f : (byteS S c).2.2 = true) : byteS S c = (stDead, none, true) := by
  unfold byteS at f ⊢
  repeat' split
  all_goals (try simp_all)
theorem runS_dead : ∀ (l : List Int) (S : St), S.dead = false → (runS S l).2.2 = false → (runS S l).1.dead = false
  | [], S, h, f => h
  | c :: t, S, h, f => by
    rw [runS] at f ⊢
    by_cases hc : (byteS S c).2.2 = true
    · rw [if_pos hc] at f; simp at f
    · rw [if_neg hc] at f ⊢
      exact runS_dead t _ (byteS_dead S c h (by simpa using hc)) f
theorem runS_fault_dead : ∀ (l : List Int) (S : St), (runS S l).2.2 = true → (runS S l).1 = stDead
  | [], S, f => by simp [runS] at f
  | c :: t, S, f => by
    rw [runS] at f ⊢
    by_cases hc : (byteS S c).2.2 = true
    · rw [if_pos hc, byteS_fault S c hc]
    · rw [if_neg hc] at f ⊢
      exact runS_fault_dead t _ f
theorem rfeeds_run : ∀ (ps : List (List Int)) (S : St), S.dead = false → rfeeds S ps = ((runS S ps.flatten).1, (runS S ps.flatten).2.1)
  | [], S, h => rfl
  | p :: ps, S, h => by
    have e : rfeed S p = ((runS S p).1, (runS S p).2.1, if (runS S p).2.2 = true then 250 else 0) := by unfold rfeed; rw [if_neg (by simp [h])]
    rw [rfeeds, e, List.flatten_cons, runS_append]
    cases hf : (runS S p).2.2 with
    | true =>
      rw [if_pos rfl]
      have hd : (runS S p).1.dead = true := by rw [runS_fault_dead p S hf]; rfl
      rw [rfeeds_dead ps _ hd]; simp
    | false =>
      rw [if_neg (by simp), rfeeds_run ps _ (runS_dead p S h hf)]
      simp
set_option maxHeartbeats 2000000 in
theorem feedS_calls (w0 w : World) (b : Nat) (most : Int) (v : Value) (held : List Int) (S : St) (A : Option Addr) (c : Nat) (l : List Int) (h : RD w0.heap.size b most v held S.dead w) (hs : RS most S held) (hB : Below w0.heap.size w0 w) (hbb : w0.heap.size ≤ b) (hm : 0 ≤ most) (hm2 : most ≤ 16777216)
    (hC : Kd.C (Kd.int .u8) w A l.length l) (hlb : Bytes l) (hl : l.length ≤ 1000000000) :
    Calls Tryd.prog 11 #[.pointer (some ⟨b, 0, none⟩), .slice A l.length c] w fun e w' => ∃ v' vo held', e = .returned (.tuple #[vo, .int .i64 (rfeed S l).2.2]) ∧
      RS most (rfeed S l).1 held' ∧ RD w0.heap.size b most v' held' (rfeed S l).1.dead w' ∧ Kd.R (Kd.slice 5 (Kd.int .u8)) 22 w' w.heap.size (fun k => some k ≠ v'.ownBlock) vo (rfeed S l).2.1 ∧ Below w0.heap.size w0 w' ∧ OwnIs w v v' ∧ Apart2 w b v w' ∧ w.heap.size ≤ w'.heap.size := by
  have htop := hs.top
  cases hd : S.dead with
  | true =>
    have e : rfeed S l = (S, [], 251) := by unfold rfeed; rw [if_pos hd]
    rw [e]
    rw [hd] at h
    obtain ⟨hS, hH⟩ := hs.gone hd
    refine (feed_dead _ _ _ _ _ _ _ _ _ h).mono ?_
    rintro x w' ⟨rfl, rfl⟩
    exact ⟨v, _, held, rfl, hs, by rw [hd]; exact h, Kd.R_nil _ _ _ _ _, hB, .inl rfl, fun k _ _ _ => rfl, Nat.le_refl _⟩
  | false =>
    rw [hd] at h
    have e : rfeed S l = ((runS S l).1, (runS S l).2.1, if (runS S l).2.2 = true then 250 else 0) := by unfold rfeed; rw [if_neg (by simp [hd])]
    rw [e]
    refine (feed_calls w0 w b most v held A c l h hB hbb hm hm2 hC hs.bytes hlb (by omega)).mono ?_
    rintro x w' ⟨v', vo, k, rfl, hk, hrd, hro, hB', hown, hap, hsz⟩
    obtain ⟨S', msgs, f, held', h1, h2, h3, h4⟩ := feed_pair hm (hs.alive hd) l k hk
    rw [h2] at hrd hro ⊢
    rw [h1]
    have hsuf : held' <:+ held ++ l := by have := feedN_suffix' most k (held ++ l) []; rw [h2] at this; exact this
    have hby : Bytes held' := fun y hy => by
      rcases List.mem_append.1 (hsuf.subset hy) with hy | hy
      · exact hs.bytes y hy
      · exact hlb y hy
    cases f with
    | true =>
      obtain ⟨rfl, rfl⟩ := h3 rfl
      exact ⟨v', vo, [], rfl, ⟨hby, rfl, (fun h => by cases h), fun _ => ⟨rfl, rfl⟩, by simp; omega⟩, hrd, hro, hB', hown, hap, hsz⟩
    | false =>
      have hI := h4 rfl
      have hal : S'.dead = false := hI.alive
      refine ⟨v', vo, held', rfl, ⟨hby, hI.held.symm, fun _ => hI, (fun h => by simp only at h; rw [hal] at h; cases h), hI.top⟩, ?_, hro, hB', hown, hap, hsz⟩
      simp only at hrd ⊢
      rw [hal]; exact hrd
end Go.Proofs.YtgdiilpocoimgaaDoor.Hand
