/- The log as plain data: heads, commits, recoveries. -/
import Derived.Test.YtppbcdcmpcagdaaDriveR
import Derived.Test.YtppbcdcmpcagdaaField10
namespace Go.Proofs.Ytppbcdcmpcagdaa
open Go.RowKit Go.CP

/-- May a number stand in a head? -/
def okN (n : Int) : Bool := decide (0 ≤ n) && decide (n < 1024) && !(decide (1 ≤ n) && decide (n < 26))
/-- Each number may, and stands there once. -/
def goodTo (l : List Int) (i : Nat) : Bool := (List.range i).all fun j => okN (l.getD j 0) && !(l.take j).contains (l.getD j 0)
def goodB (l : List Int) : Bool := decide (l.length ≤ 24) && goodTo l l.length
theorem goodTo_succ (l : List Int) (i : Nat) : goodTo l (i + 1) = (goodTo l i && (okN (l.getD i 0) && !(l.take i).contains (l.getD i 0))) := by
  simp [goodTo, List.range_succ]
theorem goodTo_false {l : List Int} {i j : Nat} (h : (okN (l.getD i 0) && !(l.take i).contains (l.getD i 0)) = false) (hj : i < j) : goodTo l j = false := by
  unfold goodTo
  rw [List.all_eq_false]
  exact ⟨i, List.mem_range.2 hj, by rw [h]; simp⟩
theorem goodTo_at {l : List Int} {i j : Nat} (h : goodTo l j = true) (hi : i < j) : okN (l.getD i 0) = true ∧ (l.take i).contains (l.getD i 0) = false := by
  unfold goodTo at h
  have := (List.all_eq_true.1 h) i (List.mem_range.2 hi)
  simpa using this
theorem goodB_len {l : List Int} (h : goodB l = true) : l.length ≤ 24 := by simp [goodB] at h; exact h.1
theorem goodB_ok {l : List Int} (h : goodB l = true) {i : Nat} {n : Int} (hn : l[i]? = some n) : okN n = true := by
  have hi := (List.getElem?_eq_some_iff.1 hn).1
  simp [goodB] at h
  have := (goodTo_at h.2 hi).1
  rwa [List.getD_eq_getElem?_getD, hn] at this
theorem okN_iff {n : Int} : okN n = true ↔ 0 ≤ n ∧ n < 1024 ∧ (n < 1 ∨ 26 ≤ n) := by simp [okN]; omega

def magicR : List UInt8 := [82, 69, 68, 79]
def numsR (l : List Int) : List UInt8 := l.flatMap fun n => little n.toNat 2
/-- A head, without its sum. -/
def headR (l : List Int) : List UInt8 := magicR ++ little l.length 4 ++ numsR l ++ List.replicate (116 - 2 * l.length) 0
def headL (l : List Int) : List UInt8 := sealL (headR l)
theorem numsR_len (l : List Int) : (numsR l).length = 2 * l.length := by
  induction l with
  | nil => rfl
  | cons n l ih =>
    have : numsR (n :: l) = little n.toNat 2 ++ numsR l := rfl
    rw [this, List.length_append, ih, little_len, List.length_cons]
    omega
theorem headR_len {l : List Int} (h : l.length ≤ 24) : (headR l).length = 124 := by
  simp only [headR, List.length_append, little_len, numsR_len, List.length_replicate, magicR, List.length_cons, List.length_nil]
  omega
theorem headL_len {l : List Int} (h : l.length ≤ 24) : (headL l).length = 128 := by rw [headL, sealL_len, headR_len h]
/-- The numbers that bytes spell behind a head's beginning. -/
def outR (b : List UInt8) : List Int := (List.range (b.getD 4 0).toNat).map fun i => (((b.getD (8 + 2 * i) 0).toNat + 256 * (b.getD (9 + 2 * i) 0).toNat : Nat) : Int)
def headsL (b : List UInt8) : Option (List Int) := if b.length = 128 ∧ (b.getD 4 0).toNat ≤ 24 ∧ goodB (outR b) = true ∧ headL (outR b) = b then some (outR b) else none
theorem headsL_some {b : List UInt8} {l : List Int} (h : headsL b = some l) : goodB l = true ∧ headL l = b ∧ b.length = 128 ∧ l = outR b := by
  unfold headsL at h
  split at h
  · next hc => cases h; exact ⟨hc.2.2.1, hc.2.2.2, hc.1, rfl⟩
  · cases h
theorem getD_mid {α : Type} (a b c : List α) (d : α) {k i : Nat} (hk : a.length = k) (hi : i < b.length) : (a ++ b ++ c).getD (k + i) d = b.getD i d := by
  subst hk
  simp only [List.getD_eq_getElem?_getD]
  rw [List.getElem?_append_left (by simp; omega), List.getElem?_append_right (by omega), Nat.add_sub_cancel_left]
theorem numsR_getD (l : List Int) (i : Nat) (hi : i < l.length) (j : Nat) (hj : j < 2) : (numsR l).getD (i * 2 + j) 0 = (little (l.getD i 0).toNat 2).getD j 0 := by
  induction l generalizing i with
  | nil => simp at hi
  | cons n l ih =>
    have e : numsR (n :: l) = little n.toNat 2 ++ numsR l := rfl
    have h2 := little_len n.toNat 2
    rw [e]
    cases i with
    | zero =>
      simp only [List.getD_eq_getElem?_getD]
      rw [Nat.zero_mul, Nat.zero_add, List.getElem?_append_left (by omega)]
      rfl
    | succ i =>
      have hi' : i < l.length := by simpa using hi
      have := ih i hi'
      simp only [List.getD_eq_getElem?_getD] at this ⊢
      rw [List.getElem?_append_right (by omega), h2, show (i + 1) * 2 + j - 2 = i * 2 + j by omega, this]
      simp
theorem outR_head {l : List Int} (h : goodB l = true) : outR (headL l) = l := by
  have hl := goodB_len h
  have hb : ∀ (a : List UInt8), (a ++ little l.length 4 ++ numsR l ++ List.replicate (116 - 2 * l.length) (0 : UInt8) ++ little (sumL (headR l)).toNat 4) = a ++ little l.length 4 ++ (numsR l ++ List.replicate (116 - 2 * l.length) 0 ++ little (sumL (headR l)).toNat 4) := fun a => by simp
  have e : headL l = magicR ++ little l.length 4 ++ (numsR l ++ List.replicate (116 - 2 * l.length) 0 ++ little (sumL (headR l)).toNat 4) := by
    rw [← hb]; rfl
  have h4 : ((headL l).getD 4 0).toNat = l.length := by
    rw [e]
    have := getD_mid magicR (little l.length 4) (numsR l ++ List.replicate (116 - 2 * l.length) 0 ++ little (sumL (headR l)).toNat 4) 0 (k := 4) (i := 0) rfl (by rw [little_len]; decide)
    rw [show 4 = 4 + 0 from rfl, this]
    simp [little]
    omega
  have hn : ∀ i, i < l.length → ∀ j, j < 2 → (headL l).getD (8 + (i * 2 + j)) 0 = (little (l.getD i 0).toNat 2).getD j 0 := fun i hi j hj => by
    rw [← numsR_getD l i hi j hj, e, ← List.append_assoc, ← List.append_assoc, List.append_assoc (magicR ++ little l.length 4 ++ numsR l)]
    exact getD_mid (magicR ++ little l.length 4) (numsR l) (List.replicate (116 - 2 * l.length) 0 ++ little (sumL (headR l)).toNat 4) 0 (by simp [magicR, little_len]) (by rw [numsR_len]; omega)
  unfold outR
  rw [h4]
  apply List.ext_getElem
  · simp
  · intro i h1 h2
    have hil : i < l.length := h2
    rw [List.getElem_map, List.getElem_range]
    have e0 := hn i hil 0 (by decide)
    have e1 := hn i hil 1 (by decide)
    rw [show 8 + 2 * i = 8 + (i * 2 + 0) by omega, show 9 + 2 * i = 8 + (i * 2 + 1) by omega, e0, e1]
    have hg : l.getD i 0 = l[i] := by rw [List.getD_eq_getElem?_getD, List.getElem?_eq_getElem hil]; rfl
    have hok := okN_iff.1 (goodB_ok h (List.getElem?_eq_getElem hil))
    rw [hg]
    simp only [little, List.getD_cons_zero, List.getD_cons_succ]
    simp only [UInt8.toNat_ofNat']
    omega
theorem headsL_head {l : List Int} (h : goodB l = true) : headsL (headL l) = some l := by
  have hl := goodB_len h
  have ho := outR_head h
  have h4 : ((headL l).getD 4 0).toNat = l.length := by
    have := congrArg List.length ho
    simpa [outR] using this
  unfold headsL
  rw [if_pos ⟨headL_len hl, by omega, by rw [ho]; exact h, by rw [ho]⟩, ho]
theorem goodB_nil : goodB [] = true := rfl

/-! ### what the calls do -/
def Drv.waits (D : Drv) : Int × List Int :=
  match D.get 1 with
  | (e, b) => if e ≠ 0 then (e, []) else match headsL b with | some l => (0, l) | none => (2, [])
def Drv.mark (D : Drv) (l : List Int) : Int × Drv :=
  if goodB l then (match D.put [(1, headL l)] with | (e, D1) => if e = 0 then D1.flush else (e, D1)) else (1, D)
def Drv.home (D : Drv) (ws : List (Int × List UInt8)) : Int × Drv :=
  match D.put ws with
  | (e, D1) => if e ≠ 0 then (e, D1) else match D1.flush with | (e, D2) => if e ≠ 0 then (e, D2) else D2.mark []
def fitB (n : Nat) (ws : List (Int × List UInt8)) : Bool := ws.all fun x => decide (x.1 < n) && (x.2.length == 128)
/-- May the writes be committed? -/
def targB (n : Nat) (ws : List (Int × List UInt8)) : Bool := fitB n ws && goodB (ws.map (·.1))
def bodyW (ws : List (Int × List UInt8)) : List (Int × List UInt8) := (List.range ws.length).map fun i => ((2 + i : Nat), (ws.getD i (0, [])).2)
def Drv.commit (D : Drv) (ws : List (Int × List UInt8)) : Int × Drv :=
  if ws = [] then (0, D) else if targB D.sure.length ws then
    (if D.waits.1 ≠ 0 then (D.waits.1, D) else
      match D.put (bodyW ws) with
      | (e, D1) => if e ≠ 0 then (e, D1) else match D1.flush with
        | (e, D2) => if e ≠ 0 then (e, D2) else match D2.mark (ws.map (·.1)) with
          | (e, D3) => if e ≠ 0 then (e, D3) else D3.home ws)
  else (1, D)
/-- What a recovery gathers: the error that stops it, or the writes. -/
def gather (D : Drv) : Nat → List Int → Int × List (Int × List UInt8)
  | _, [] => (0, [])
  | i, n :: r => if (D.sure.length : Int) ≤ n then (2, []) else
      match D.get (2 + i : Nat) with
      | (e, b) => if e ≠ 0 then (e, []) else match gather D (i + 1) r with | (e, ws) => if e ≠ 0 then (e, []) else (0, (n, b) :: ws)
def Drv.recover (D : Drv) : Int × Drv :=
  if D.waits.1 ≠ 0 ∨ D.waits.2 = [] then (D.waits.1, D) else
    match gather D 0 D.waits.2 with
    | (e, ws) => if e ≠ 0 then (e, D) else D.home ws
end Go.Proofs.Ytppbcdcmpcagdaa
