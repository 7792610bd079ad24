/- Requests, replies and recalls as plain data: their bytes, and what bytes say. -/
import Derived.Test.YtppbcdcmpcagdaaField10
namespace Go.Proofs.Ytppbcdcmpcagdaa
open Go.RowKit Go.CP

/-! ### fields, one behind the other -/
/-- Numbers as fields. -/
def numsL (l : List Int) : List UInt8 := l.flatMap fun n => little n.toNat 4
/-- A text as a field. -/
def textL (s : List UInt8) : List UInt8 := little s.length 2 ++ s
def textsL (l : List (List UInt8)) : List UInt8 := l.flatMap textL
theorem numsL_len (l : List Int) : (numsL l).length = 4 * l.length := by
  induction l with
  | nil => rfl
  | cons n l ih =>
    have : numsL (n :: l) = little n.toNat 4 ++ numsL l := rfl
    rw [this, List.length_append, ih, little_len, List.length_cons]
    omega
theorem numsL_app (a b : List Int) : numsL (a ++ b) = numsL a ++ numsL b := by simp [numsL]
theorem numsL_cons (n : Int) (l : List Int) : numsL (n :: l) = little n.toNat 4 ++ numsL l := rfl
theorem textsL_cons (s : List UInt8) (l : List (List UInt8)) : textsL (s :: l) = textL s ++ textsL l := rfl
theorem textL_len (s : List UInt8) : (textL s).length = 2 + s.length := by simp [textL, little_len]

/-- What is left to be read, and whether it was too short. -/
abbrev Rd := List UInt8 × Bool
def rdN (r : Rd) : Nat × Rd := (bigL (tOut r.1 r.2 4), tL r.1 r.2 4, tB r.1 r.2 4)
def rdT (r : Rd) : List UInt8 × Rd := (tOut (tL r.1 r.2 2) (tB r.1 r.2 2) (txN r.1 r.2), tL (tL r.1 r.2 2) (tB r.1 r.2 2) (txN r.1 r.2), tB (tL r.1 r.2 2) (tB r.1 r.2 2) (txN r.1 r.2))
def rdNs : Nat → Rd → List Nat × Rd
  | 0, r => ([], r)
  | k + 1, r => ((rdN r).1 :: (rdNs k (rdN r).2).1, (rdNs k (rdN r).2).2)
def rdTs : Nat → Rd → List (List UInt8) × Rd
  | 0, r => ([], r)
  | k + 1, r => ((rdT r).1 :: (rdTs k (rdT r).2).1, (rdTs k (rdT r).2).2)
theorem rdN_lt (r : Rd) : (rdN r).1 < 4294967296 := by
  have h := bigL_lt (tOut r.1 r.2 4)
  have h2 : 256 ^ (tOut r.1 r.2 4).length ≤ 256 ^ 4 := Nat.pow_le_pow_right (by omega) (tOut_len r.1 r.2 4)
  show bigL (tOut r.1 r.2 4) < _
  omega
theorem t_ok {l : List UInt8} {bad : Bool} {k : Nat} (h : tB l bad k = false) : bad = false ∧ k ≤ l.length ∧ tOut l bad k = l.take k ∧ tL l bad k = l.drop k := by
  unfold tB at h
  simp only [Bool.or_eq_false_iff, decide_eq_false_iff_not] at h
  obtain ⟨h1, h2⟩ := h
  have hn : ¬ (bad = true ∨ l.length < k) := by rw [h1]; simp; omega
  exact ⟨h1, by omega, if_neg hn, if_neg hn⟩
theorem rdN_ok {r : Rd} (h : (rdN r).2.2 = false) : r.2 = false ∧ r.1 = little (rdN r).1 4 ++ (rdN r).2.1 := by
  obtain ⟨h1, h2, h3, h4⟩ := t_ok h
  refine ⟨h1, ?_⟩
  show r.1 = little (bigL (tOut r.1 r.2 4)) 4 ++ tL r.1 r.2 4
  have := little_big (r.1.take 4)
  rw [List.length_take, Nat.min_eq_left h2] at this
  rw [h3, h4, this, List.take_append_drop]
theorem rdT_ok {r : Rd} (h : (rdT r).2.2 = false) : r.2 = false ∧ (rdT r).1.length ≤ 65535 ∧ r.1 = textL (rdT r).1 ++ (rdT r).2.1 := by
  obtain ⟨h1, h2, h3, h4⟩ := t_ok (show tB (tL r.1 r.2 2) (tB r.1 r.2 2) (txN r.1 r.2) = false from h)
  obtain ⟨g1, g2, g3, g4⟩ := t_ok h1
  have hx : txN r.1 r.2 = bigL (r.1.take 2) := by rw [txN, g3]
  have hlt := txN_lt r.1 r.2
  have e1 : (rdT r).1 = (tL r.1 r.2 2).take (txN r.1 r.2) := h3
  have e2 : (rdT r).2.1 = (tL r.1 r.2 2).drop (txN r.1 r.2) := h4
  have el : (rdT r).1.length = txN r.1 r.2 := by rw [e1, List.length_take, Nat.min_eq_left h2]
  refine ⟨g1, by omega, ?_⟩
  have hb := little_big (r.1.take 2)
  rw [List.length_take, Nat.min_eq_left g2] at hb
  rw [textL, el, List.append_assoc, e1, e2, List.take_append_drop, g4, hx, hb, List.take_append_drop]
theorem rdN_app (n : Nat) (r : List UInt8) (h : n < 4294967296) : rdN (little n 4 ++ r, false) = (n, r, false) := by
  obtain ⟨h1, h2, h3⟩ := t_num n r h
  exact Prod.ext h1 (Prod.ext h2 h3)
theorem rdT_app (s r : List UInt8) (h : s.length ≤ 65535) : rdT (textL s ++ r, false) = (s, r, false) := by
  obtain ⟨h1, h2, h3, h4⟩ := t_text s r h
  rw [textL]
  unfold rdT
  dsimp only
  rw [h1, h2, h3, h4]
theorem rdNs_ok : ∀ {k : Nat} {r : Rd}, (rdNs k r).2.2 = false → r.2 = false ∧ (rdNs k r).1.length = k ∧ r.1 = numsL ((rdNs k r).1.map fun n : Nat => (n : Int)) ++ (rdNs k r).2.1 ∧ ∀ n ∈ (rdNs k r).1, n < 4294967296
  | 0, r, h => ⟨h, rfl, rfl, fun n hn => by cases hn⟩
  | k + 1, r, h => by
    obtain ⟨h1, h2, h3, h4⟩ := rdNs_ok (k := k) (r := (rdN r).2) h
    obtain ⟨g1, g2⟩ := rdN_ok h1
    refine ⟨g1, ?_, ?_, fun n hn => ?_⟩
    · show ((rdNs k (rdN r).2).1).length + 1 = k + 1
      rw [h2]
    · show r.1 = numsL (((rdN r).1 : Int) :: (rdNs k (rdN r).2).1.map fun n : Nat => (n : Int)) ++ (rdNs k (rdN r).2).2.1
      rw [numsL_cons, List.append_assoc, ← h3]
      exact g2
    · rcases List.mem_cons.1 hn with e | hn
      · rw [e]; exact rdN_lt r
      · exact h4 n hn
theorem rdTs_ok : ∀ {k : Nat} {r : Rd}, (rdTs k r).2.2 = false → r.2 = false ∧ (rdTs k r).1.length = k ∧ r.1 = textsL (rdTs k r).1 ++ (rdTs k r).2.1 ∧ ∀ s ∈ (rdTs k r).1, s.length ≤ 65535
  | 0, r, h => ⟨h, rfl, rfl, fun n hn => by cases hn⟩
  | k + 1, r, h => by
    obtain ⟨h1, h2, h3, h4⟩ := rdTs_ok (k := k) (r := (rdT r).2) h
    obtain ⟨g1, g0, g2⟩ := rdT_ok h1
    refine ⟨g1, ?_, ?_, fun n hn => ?_⟩
    · show ((rdTs k (rdT r).2).1).length + 1 = k + 1
      rw [h2]
    · show r.1 = textsL ((rdT r).1 :: (rdTs k (rdT r).2).1) ++ (rdTs k (rdT r).2).2.1
      rw [textsL_cons, List.append_assoc, ← h3]
      exact g2
    · rcases List.mem_cons.1 hn with e | hn
      · rw [e]; exact g0
      · exact h4 n hn
theorem rdNs_app : ∀ (l : List Nat) (r : List UInt8), (∀ n ∈ l, n < 4294967296) → rdNs l.length (numsL (l.map fun n : Nat => (n : Int)) ++ r, false) = (l, r, false)
  | [], r, _ => rfl
  | n :: l, r, h => by
    have e : numsL ((n :: l).map fun n : Nat => (n : Int)) ++ r = little n 4 ++ (numsL (l.map fun n : Nat => (n : Int)) ++ r) := by
      rw [List.map_cons, numsL_cons, List.append_assoc]; rfl
    rw [e, List.length_cons, rdNs, rdN_app n _ (h n List.mem_cons_self), rdNs_app l r fun m hm => h m (List.mem_cons_of_mem _ hm)]
theorem rdTs_app : ∀ (l : List (List UInt8)) (r : List UInt8), (∀ s ∈ l, s.length ≤ 65535) → rdTs l.length (textsL l ++ r, false) = (l, r, false)
  | [], r, _ => rfl
  | s :: l, r, h => by
    rw [textsL_cons, List.append_assoc, List.length_cons, rdTs, rdT_app s _ (h s List.mem_cons_self), rdTs_app l r fun m hm => h m (List.mem_cons_of_mem _ hm)]
/-- Reading goes on: so many numbers, then more. -/
theorem rdNs_add (j : Nat) : ∀ (k : Nat) (r : Rd), rdNs (k + j) r = ((rdNs k r).1 ++ (rdNs j (rdNs k r).2).1, (rdNs j (rdNs k r).2).2)
  | 0, r => by rw [Nat.zero_add]; rfl
  | k + 1, r => by
    rw [show k + 1 + j = (k + j) + 1 by omega, rdNs, rdNs_add j k]
    rfl
theorem rdNs_succ (k : Nat) (r : Rd) : rdNs (k + 1) r = ((rdNs k r).1 ++ [(rdN (rdNs k r).2).1], (rdN (rdNs k r).2).2) := rdNs_add 1 k r
theorem rdTs_succ : ∀ (k : Nat) (r : Rd), rdTs (k + 1) r = ((rdTs k r).1 ++ [(rdT (rdTs k r).2).1], (rdT (rdTs k r).2).2)
  | 0, r => rfl
  | k + 1, r => by
    rw [rdTs, rdTs_succ k (rdT r).2]
    rfl
theorem rdNs_len : ∀ (k : Nat) (r : Rd), (rdNs k r).1.length = k
  | 0, _ => rfl
  | k + 1, r => by show ((rdNs k (rdN r).2).1).length + 1 = k + 1; rw [rdNs_len]
theorem rdTs_len : ∀ (k : Nat) (r : Rd), (rdTs k r).1.length = k
  | 0, _ => rfl
  | k + 1, r => by show ((rdTs k (rdT r).2).1).length + 1 = k + 1; rw [rdTs_len]
theorem rdNs_mem : ∀ (k : Nat) (r : Rd), ∀ n ∈ (rdNs k r).1, n < 4294967296
  | 0, _, n, h => by cases h
  | k + 1, r, n, h => by
    rcases List.mem_cons.1 h with e | h
    · rw [e]; exact rdN_lt r
    · exact rdNs_mem k _ n h
theorem rdT_len (r : Rd) : (rdT r).1.length ≤ 65535 := by
  have h1 := tOut_len (tL r.1 r.2 2) (tB r.1 r.2 2) (txN r.1 r.2)
  have h2 := txN_lt r.1 r.2
  show (tOut (tL r.1 r.2 2) (tB r.1 r.2 2) (txN r.1 r.2)).length ≤ _
  omega
/-- Nothing is left, and nothing was short. -/
theorem endE_zero {r : Rd} : endE r.1 r.2 = 0 ↔ r.1 = [] ∧ r.2 = false := by
  obtain ⟨l, b⟩ := r
  unfold endE
  cases b <;> cases l <;> simp

/-! ### frames -/
theorem frame_of_open {b : List UInt8} {t : UInt8} (h : openE b = 0) (ht : b[0]? = some t) : frameL t (bodyL b) = b := by
  obtain ⟨h1, h2, -⟩ := openE_zero h
  rw [openE_again ht (by omega) (by omega)] at h
  split at h
  · assumption
  · cases h
theorem body_len (b : List UInt8) (h : openE b = 0) : (bodyL b).length ≤ 65535 := by
  obtain ⟨h1, h2, -⟩ := openE_zero h
  have h3 := bigL_lt ((b.drop 1).take 2)
  have h4 : ((b.drop 1).take 2).length = 2 := by simp; omega
  rw [h4] at h3
  unfold bodyL
  rw [List.length_take]
  omega
/-- What is in a frame with a tag; none: nothing. -/
def bodyT (tag : UInt8) (b : List UInt8) : List UInt8 × Bool := if openE b = 0 then (bodyL b, b[0]? == some tag) else ([], false)
theorem bodyT_frame (tag : UInt8) (l : List UInt8) (h : l.length ≤ 65535) : bodyT tag (frameL tag l) = (l, true) := by
  rw [bodyT, if_pos (open_frame tag l h), frame_body tag l h, frame_head]
  simp
theorem bodyT_ok {tag : UInt8} {b : List UInt8} (h : (bodyT tag b).2 = true) : frameL tag (bodyT tag b).1 = b ∧ b[0]? = some tag ∧ openE b = 0 := by
  unfold bodyT at h ⊢
  split at h
  · next h0 =>
    have ht : b[0]? = some tag := by simpa using h
    rw [if_pos h0]
    exact ⟨frame_of_open h0 ht, ht, h0⟩
  · cases h

/-! ### requests -/
def numB (n : Int) : Bool := decide (0 ≤ n) && decide (n ≤ 1073741824)
/-- A request. -/
structure Vb where
  kind : Int
  seat : Int
  life : Int
  seq : Int
  epoch : Int
  path : List UInt8
  other : List UInt8
  node : Int
  gen : Int
  pos : Int
  size : Int
  mode : Int
  data : List UInt8
def hasP (k : Int) : Bool := decide (2 ≤ k) && decide (k ≤ 9)
def hasO (k : Int) : Bool := k == 5 || k == 8
def hasH (k : Int) : Bool := decide (10 ≤ k) && decide (k ≤ 15)
def hasA (k : Int) : Bool := k == 10 || k == 11
def hasS (k : Int) : Bool := k == 10 || k == 12
def hasM (k : Int) : Bool := k == 13 || k == 15
def hasD (k : Int) : Bool := k == 11
/-- What the kinds ask of their own fields. -/
def ownB (v : Vb) : Bool := (v.kind != 10 || (decide (1 ≤ v.size) && decide (v.size ≤ 256))) && (v.kind != 11 || (decide (1 ≤ v.data.length) && decide (v.data.length ≤ 256))) && (!hasM v.kind || (v.mode == 1 || v.mode == 2))
def bareB (v : Vb) : Bool := (hasP v.kind || v.path.isEmpty) && (hasO v.kind || v.other.isEmpty) && (hasH v.kind || (v.node == 0 && v.gen == 0)) && (hasA v.kind || v.pos == 0) && (hasS v.kind || v.size == 0) && (hasM v.kind || v.mode == 0) && (hasD v.kind || v.data.isEmpty)
def numsB (v : Vb) : Bool := numB v.life && numB v.seq && numB v.epoch && numB v.node && numB v.gen && numB v.pos && numB v.size
def goodV (v : Vb) : Bool := numsB v && decide (0 ≤ v.seat) && decide (v.seat < 8) && v.life != 0 && decide (v.path.length ≤ 255) && decide (v.other.length ≤ 255) && (decide (1 ≤ v.kind) && decide (v.kind ≤ 15)) && ownB v && bareB v
def Vb.nums (v : Vb) : List Int := [v.kind, v.seat, v.life, v.seq, v.epoch, v.node, v.gen, v.pos, v.size, v.mode]
/-- A request's fields. -/
def reqL (v : Vb) : List UInt8 := numsL v.nums ++ textsL [v.path, v.other, v.data]
def vbOf (n : List Nat) (p o d : List UInt8) : Vb := ⟨n.getD 0 0, n.getD 1 0, n.getD 2 0, n.getD 3 0, n.getD 4 0, p, o, n.getD 5 0, n.getD 6 0, n.getD 7 0, n.getD 8 0, n.getD 9 0, d⟩
/-- What bytes say, as far as they go. -/
def readV (r : Rd) : Vb × Rd := (vbOf (rdNs 10 r).1 (rdTs 3 (rdNs 10 r).2).1[0]! (rdTs 3 (rdNs 10 r).2).1[1]! (rdTs 3 (rdNs 10 r).2).1[2]!, (rdTs 3 (rdNs 10 r).2).2)
def decV (b : List UInt8) : Option Vb :=
  if (bodyT 81 b).2 = true ∧ endE (readV ((bodyT 81 b).1, false)).2.1 (readV ((bodyT 81 b).1, false)).2.2 = 0 ∧ goodV (readV ((bodyT 81 b).1, false)).1 = true then some (readV ((bodyT 81 b).1, false)).1 else none

theorem goodV_facts {v : Vb} (h : goodV v = true) : (∀ n ∈ v.nums, 0 ≤ n ∧ n ≤ 1073741824) ∧ v.path.length ≤ 255 ∧ v.other.length ≤ 255 ∧ v.data.length ≤ 256 := by
  simp only [goodV, numsB, numB, Bool.and_eq_true, decide_eq_true_eq] at h
  obtain ⟨⟨⟨⟨⟨⟨⟨⟨h1, h2⟩, h3⟩, -⟩, h4⟩, h5⟩, h6⟩, h7⟩, h8⟩ := h
  have hd : v.data.length ≤ 256 ∧ 0 ≤ v.mode ∧ v.mode ≤ 2 := by
    simp only [ownB, bareB, hasD, hasM, Bool.and_eq_true, Bool.or_eq_true, bne_iff_ne, ne_eq, decide_eq_true_eq, beq_iff_eq, Bool.not_eq_true', Bool.or_eq_false_iff, beq_eq_false_iff_ne, List.isEmpty_iff] at h7 h8
    obtain ⟨⟨-, h7b⟩, h7c⟩ := h7
    obtain ⟨⟨-, h8b⟩, h8c⟩ := h8
    refine ⟨?_, ?_⟩
    · rcases h8c with e | e
      · rcases h7b with k | k
        · exact absurd e k
        · exact k.2
      · rw [e]; simp
    · omega
  refine ⟨fun n hn => ?_, h4, h5, hd.1⟩
  simp only [Vb.nums, List.mem_cons, List.not_mem_nil, or_false] at hn
  rcases hn with rfl | rfl | rfl | rfl | rfl | rfl | rfl | rfl | rfl | rfl <;> omega
theorem nums_nat {l : List Int} (h : ∀ n ∈ l, 0 ≤ n) : (l.map Int.toNat).map (fun n : Nat => (n : Int)) = l := by
  rw [List.map_map]
  conv => rhs; rw [← List.map_id l]
  exact List.map_congr_left fun n hn => by have := h n hn; simp; omega
theorem readV_req {v : Vb} (h : goodV v = true) : readV (reqL v, false) = (v, [], false) := by
  obtain ⟨h1, h2, h3, h4⟩ := goodV_facts h
  have e1 : rdNs 10 (reqL v, false) = (v.nums.map Int.toNat, textsL [v.path, v.other, v.data], false) := by
    have := rdNs_app (v.nums.map Int.toNat) (textsL [v.path, v.other, v.data]) (fun n hn => by
      obtain ⟨m, hm, rfl⟩ := List.mem_map.1 hn
      have := h1 m hm
      omega)
    rw [nums_nat fun n hn => (h1 n hn).1] at this
    exact this
  have e2 : rdTs 3 (textsL [v.path, v.other, v.data], false) = ([v.path, v.other, v.data], [], false) := by
    have := rdTs_app [v.path, v.other, v.data] [] (fun s hs => by
      simp only [List.mem_cons, List.not_mem_nil, or_false] at hs
      rcases hs with rfl | rfl | rfl <;> omega)
    rw [List.append_nil] at this
    exact this
  have hv : vbOf (v.nums.map Int.toNat) v.path v.other v.data = v := by
    have h1' : ∀ n ∈ v.nums, ((n.toNat : Nat) : Int) = n := fun n hn => by have := h1 n hn; omega
    obtain ⟨a1, a2, a3, a4, a5, a6, a7, a8, a9, a10, a11, a12, a13⟩ := v
    simp only [Vb.nums, List.mem_cons, List.not_mem_nil, or_false, forall_eq_or_imp, forall_eq] at h1'
    obtain ⟨q1, q2, q3, q4, q5, q6, q7, q8, q9, q10⟩ := h1'
    simp only [vbOf, Vb.nums, List.map_cons, List.map_nil, List.getD_cons_zero, List.getD_cons_succ, q1, q2, q3, q4, q5, q6, q7, q8, q9, q10]
  unfold readV
  rw [e1]
  dsimp only
  rw [e2]
  exact Prod.ext hv rfl
theorem reqL_len {v : Vb} (h : goodV v = true) : (reqL v).length ≤ 1000 := by
  obtain ⟨h1, h2, h3, h4⟩ := goodV_facts h
  simp [reqL, numsL_len, Vb.nums, textsL, textL_len]
  omega
theorem decV_frame {v : Vb} (h : goodV v = true) : decV (frameL 81 (reqL v)) = some v := by
  have hl := reqL_len h
  unfold decV
  rw [bodyT_frame 81 (reqL v) (by omega)]
  dsimp only
  rw [readV_req h]
  dsimp only
  rw [if_pos ⟨rfl, rfl, h⟩]
theorem list3 {α : Type} [Inhabited α] {l : List α} (h : l.length = 3) : l = [l[0]!, l[1]!, l[2]!] := by
  match l, h with
  | [a, b, c], _ => rfl
theorem vbOf_nums {n : List Nat} {p o d : List UInt8} (h : n.length = 10) : (vbOf n p o d).nums = n.map fun n : Nat => (n : Int) := by
  match n, h with
  | [a0, a1, a2, a3, a4, a5, a6, a7, a8, a9], _ => rfl
theorem readV_back {r : Rd} (h : endE (readV r).2.1 (readV r).2.2 = 0) : r.2 = false ∧ reqL (readV r).1 = r.1 := by
  obtain ⟨h1, h2⟩ := endE_zero.1 h
  obtain ⟨g1, g2, g3, -⟩ := rdTs_ok (show (rdTs 3 (rdNs 10 r).2).2.2 = false from h2)
  obtain ⟨k1, k2, k3, -⟩ := rdNs_ok g1
  refine ⟨k1, ?_⟩
  rw [k3, g3, show (rdTs 3 (rdNs 10 r).2).2.1 = [] from h1, List.append_nil]
  show numsL (vbOf (rdNs 10 r).1 _ _ _).nums ++ textsL [(rdTs 3 (rdNs 10 r).2).1[0]!, (rdTs 3 (rdNs 10 r).2).1[1]!, (rdTs 3 (rdNs 10 r).2).1[2]!] = _
  rw [vbOf_nums k2, ← list3 g2]
theorem decV_some {b : List UInt8} {v : Vb} (h : decV b = some v) : goodV v = true ∧ b = frameL 81 (reqL v) := by
  unfold decV at h
  split at h
  · next hc =>
    cases h
    obtain ⟨h1, h2, h3⟩ := hc
    refine ⟨h3, ?_⟩
    rw [(readV_back h2).2]
    exact (bodyT_ok h1).1.symm
  · cases h

/-! ### replies -/
structure Rp where
  life : Int
  seq : Int
  epoch : Int
  err : Int
  node : Int
  gen : Int
  kind : Int
  links : Int
  size : Int
  change : Int
  data : List UInt8
  names : List (List UInt8)
def Rp.stat (r : Rp) : List Int := [r.node, r.gen, r.kind, r.links, r.size, r.change]
def Rp.heads (r : Rp) : List Int := [r.life, r.seq, r.epoch, r.err]
def goodR (r : Rp) : Bool := (r.stat ++ [r.life, r.seq, r.epoch]).all numB && decide (0 ≤ r.err) && decide (r.err ≤ 23) && decide (r.data.length ≤ 256) && decide (r.names.length ≤ 512) && r.names.all fun s => decide (s.length ≤ 24)
/-- A reply's fields. -/
def ansL (r : Rp) : List UInt8 := numsL (r.heads ++ r.stat) ++ (textL r.data ++ (numsL [(r.names.length : Int)] ++ textsL r.names))
def rpOf (n : List Nat) (d : List UInt8) (ns : List (List UInt8)) : Rp := ⟨n.getD 0 0, n.getD 1 0, n.getD 2 0, n.getD 3 0, n.getD 4 0, n.getD 5 0, n.getD 6 0, n.getD 7 0, n.getD 8 0, n.getD 9 0, d, ns⟩
def namesN (r : Rd) : Nat := min (rdN (rdT (rdNs 10 r).2).2).1 513
def readR (r : Rd) : Rp × Rd := (rpOf (rdNs 10 r).1 (rdT (rdNs 10 r).2).1 (rdTs (namesN r) (rdN (rdT (rdNs 10 r).2).2).2).1, (rdTs (namesN r) (rdN (rdT (rdNs 10 r).2).2).2).2)
def decR (b : List UInt8) : Option Rp :=
  if (bodyT 65 b).2 = true ∧ endE (readR ((bodyT 65 b).1, false)).2.1 (readR ((bodyT 65 b).1, false)).2.2 = 0 ∧ goodR (readR ((bodyT 65 b).1, false)).1 = true then some (readR ((bodyT 65 b).1, false)).1 else none
theorem goodR_facts {r : Rp} (h : goodR r = true) : (∀ n ∈ r.heads ++ r.stat, 0 ≤ n ∧ n ≤ 1073741824) ∧ r.data.length ≤ 256 ∧ r.names.length ≤ 512 ∧ ∀ s ∈ r.names, s.length ≤ 24 := by
  simp only [goodR, Bool.and_eq_true, decide_eq_true_eq, List.all_eq_true] at h
  obtain ⟨⟨⟨⟨⟨h1, h2⟩, h3⟩, h4⟩, h5⟩, h6⟩ := h
  refine ⟨fun n hn => ?_, h4, h5, h6⟩
  have hk : ∀ m ∈ r.stat ++ [r.life, r.seq, r.epoch], 0 ≤ m ∧ m ≤ 1073741824 := fun m hm => by
    have := h1 m hm
    simpa [numB] using this
  rcases List.mem_append.1 hn with hn | hn
  · simp only [Rp.heads, List.mem_cons, List.not_mem_nil, or_false] at hn
    rcases hn with rfl | rfl | rfl | rfl
    · exact hk _ (by simp)
    · exact hk _ (by simp)
    · exact hk _ (by simp)
    · omega
  · exact hk _ (List.mem_append_left _ hn)
theorem textsL_le {l : List (List UInt8)} {k : Nat} (h : ∀ s ∈ l, s.length ≤ k) : (textsL l).length ≤ (2 + k) * l.length := by
  induction l with
  | nil => simp [textsL]
  | cons s l ih =>
    have := ih fun t ht => h t (List.mem_cons_of_mem _ ht)
    have h0 := h s List.mem_cons_self
    rw [textsL_cons, List.length_append, textL_len, List.length_cons, Nat.mul_add]
    omega
theorem ansL_len {r : Rp} (h : goodR r = true) : (ansL r).length ≤ 20000 := by
  obtain ⟨h1, h2, h3, h4⟩ := goodR_facts h
  have h5 := textsL_le h4
  have h6 : (2 + 24) * r.names.length ≤ 26 * 512 := Nat.mul_le_mul_left _ h3
  simp [ansL, numsL_len, Rp.heads, Rp.stat, textL_len]
  omega
theorem readR_ans {r : Rp} (h : goodR r = true) : readR (ansL r, false) = (r, [], false) := by
  obtain ⟨h1, h2, h3, h4⟩ := goodR_facts h
  have e1 : rdNs 10 (ansL r, false) = ((r.heads ++ r.stat).map Int.toNat, textL r.data ++ (numsL [(r.names.length : Int)] ++ textsL r.names), false) := by
    have := rdNs_app ((r.heads ++ r.stat).map Int.toNat) (textL r.data ++ (numsL [(r.names.length : Int)] ++ textsL r.names)) (fun n hn => by
      obtain ⟨m, hm, rfl⟩ := List.mem_map.1 hn
      have := h1 m hm
      omega)
    rw [nums_nat fun n hn => (h1 n hn).1] at this
    exact this
  have e2 := rdT_app r.data (numsL [(r.names.length : Int)] ++ textsL r.names) (by omega)
  have e3 : rdN (numsL [(r.names.length : Int)] ++ textsL r.names, false) = (r.names.length, textsL r.names, false) := by
    have := rdN_app r.names.length (textsL r.names) (by omega)
    rw [show numsL [(r.names.length : Int)] = little r.names.length 4 by simp [numsL]]
    exact this
  have e4 := rdTs_app r.names [] (fun s hs => by have := h4 s hs; omega)
  rw [List.append_nil] at e4
  have hm : min r.names.length 513 = r.names.length := by omega
  have hv : rpOf ((r.heads ++ r.stat).map Int.toNat) r.data r.names = r := by
    have h1' : ∀ n ∈ r.heads ++ r.stat, ((n.toNat : Nat) : Int) = n := fun n hn => by have := h1 n hn; omega
    obtain ⟨a1, a2, a3, a4, a5, a6, a7, a8, a9, a10, a11, a12⟩ := r
    simp only [Rp.heads, Rp.stat, List.cons_append, List.nil_append, List.mem_cons, List.not_mem_nil, or_false, forall_eq_or_imp, forall_eq] at h1'
    obtain ⟨q1, q2, q3, q4, q5, q6, q7, q8, q9, q10⟩ := h1'
    simp only [rpOf, Rp.heads, Rp.stat, List.cons_append, List.nil_append, List.map_cons, List.map_nil, List.getD_cons_zero, List.getD_cons_succ, q1, q2, q3, q4, q5, q6, q7, q8, q9, q10]
  unfold readR namesN
  rw [e1]
  dsimp only
  rw [e2]
  dsimp only
  rw [e3]
  dsimp only
  rw [hm, e4]
  exact Prod.ext hv rfl
theorem decR_frame {r : Rp} (h : goodR r = true) : decR (frameL 65 (ansL r)) = some r := by
  have hl := ansL_len h
  unfold decR
  rw [bodyT_frame 65 (ansL r) (by omega)]
  dsimp only
  rw [readR_ans h]
  dsimp only
  rw [if_pos ⟨rfl, rfl, h⟩]
theorem rpOf_nums {n : List Nat} {d : List UInt8} {ns : List (List UInt8)} (h : n.length = 10) : (rpOf n d ns).heads ++ (rpOf n d ns).stat = n.map fun n : Nat => (n : Int) := by
  match n, h with
  | [a0, a1, a2, a3, a4, a5, a6, a7, a8, a9], _ => rfl
theorem readR_back {r : Rd} (h : endE (readR r).2.1 (readR r).2.2 = 0) (hn : (readR r).1.names.length ≤ 512) : r.2 = false ∧ ansL (readR r).1 = r.1 := by
  obtain ⟨h1, h2⟩ := endE_zero.1 h
  obtain ⟨g1, g2, g3, -⟩ := rdTs_ok (show (rdTs (namesN r) (rdN (rdT (rdNs 10 r).2).2).2).2.2 = false from h2)
  obtain ⟨f1, f2⟩ := rdN_ok g1
  obtain ⟨j1, -, j3⟩ := rdT_ok f1
  obtain ⟨k1, k2, k3, -⟩ := rdNs_ok j1
  have hnl : (readR r).1.names.length = namesN r := g2
  have hnm : namesN r = (rdN (rdT (rdNs 10 r).2).2).1 := by
    have : namesN r = min (rdN (rdT (rdNs 10 r).2).2).1 513 := rfl
    omega
  refine ⟨k1, ?_⟩
  have e1 : ansL (readR r).1 = numsL ((rdNs 10 r).1.map fun n : Nat => (n : Int)) ++ (textL (rdT (rdNs 10 r).2).1 ++ (numsL [((readR r).1.names.length : Int)] ++ textsL (rdTs (namesN r) (rdN (rdT (rdNs 10 r).2).2).2).1)) := by
    show numsL ((readR r).1.heads ++ (readR r).1.stat) ++ _ = _
    rw [show (readR r).1.heads ++ (readR r).1.stat = _ from rpOf_nums k2]
    rfl
  have e2 : numsL [((readR r).1.names.length : Int)] = little (rdN (rdT (rdNs 10 r).2).2).1 4 := by
    rw [hnl, hnm]; simp [numsL]
  rw [show (rdTs (namesN r) (rdN (rdT (rdNs 10 r).2).2).2).2.1 = [] from h1, List.append_nil] at g3
  rw [e1, e2, ← g3, ← f2, ← j3, ← k3]
theorem decR_some {b : List UInt8} {r : Rp} (h : decR b = some r) : goodR r = true ∧ b = frameL 65 (ansL r) := by
  unfold decR at h
  split at h
  · next hc =>
    cases h
    obtain ⟨h1, h2, h3⟩ := hc
    refine ⟨h3, ?_⟩
    rw [(readR_back h2 (goodR_facts h3).2.2.1).2]
    exact (bodyT_ok h1).1.symm
  · cases h
/-- What a seat keeps of a reply. -/
def shortL (r : Rp) : List UInt8 := if goodR r then numsL (r.err :: r.stat) else []
def rpShort (n : List Nat) : Rp := ⟨0, 0, 0, n.getD 0 0, n.getD 1 0, n.getD 2 0, n.getD 3 0, n.getD 4 0, n.getD 5 0, n.getD 6 0, [], []⟩
def longR (b : List UInt8) : Option Rp :=
  if endE (rdNs 7 (b, false)).2.1 (rdNs 7 (b, false)).2.2 = 0 ∧ shortL (rpShort (rdNs 7 (b, false)).1) = b then some (rpShort (rdNs 7 (b, false)).1) else none
theorem longR_some {b : List UInt8} {r : Rp} (h : longR b = some r) : b.length = 28 ∧ shortL r = b := by
  unfold longR at h
  split at h
  · next hc =>
    cases h
    obtain ⟨h1, h2⟩ := endE_zero.1 hc.1
    obtain ⟨-, k2, k3, -⟩ := rdNs_ok h2
    refine ⟨?_, hc.2⟩
    have := congrArg List.length k3
    rw [h1, List.append_nil, numsL_len, List.length_map, k2] at this
    exact this
  · cases h
/-- A reply's error and stat. -/
def Rp.bare (r : Rp) : Rp := { r with life := 0, seq := 0, epoch := 0, data := [], names := [] }
theorem longR_short {r : Rp} (h : goodR r = true) : longR (shortL r) = some r.bare := by
  obtain ⟨h1, -, -, -⟩ := goodR_facts h
  have hm : ∀ n ∈ r.err :: r.stat, 0 ≤ n ∧ n ≤ 1073741824 := fun n hn => by
    refine h1 n ?_
    rcases List.mem_cons.1 hn with rfl | hn
    · exact List.mem_append_left _ (by simp [Rp.heads])
    · exact List.mem_append_right _ hn
  have hs : shortL r = numsL (r.err :: r.stat) := by rw [shortL, if_pos h]
  have e1 : rdNs 7 (shortL r, false) = ((r.err :: r.stat).map Int.toNat, [], false) := by
    have := rdNs_app ((r.err :: r.stat).map Int.toNat) [] (fun n hn => by
      obtain ⟨m, hm', rfl⟩ := List.mem_map.1 hn
      have := hm m hm'
      omega)
    rw [nums_nat fun n hn => (hm n hn).1, List.append_nil, ← hs] at this
    exact this
  have hv : rpShort ((r.err :: r.stat).map Int.toNat) = r.bare := by
    have h1' : ∀ n ∈ r.err :: r.stat, ((n.toNat : Nat) : Int) = n := fun n hn => by have := hm n hn; omega
    obtain ⟨a1, a2, a3, a4, a5, a6, a7, a8, a9, a10, a11, a12⟩ := r
    simp only [Rp.stat, List.mem_cons, List.not_mem_nil, or_false, forall_eq_or_imp, forall_eq] at h1'
    obtain ⟨q4, q5, q6, q7, q8, q9, q10⟩ := h1'
    simp only [rpShort, Rp.stat, Rp.bare, List.map_cons, List.map_nil, List.getD_cons_zero, List.getD_cons_succ, q4, q5, q6, q7, q8, q9, q10]
  have hg : goodR r.bare = true := by
    simp only [goodR, Bool.and_eq_true, decide_eq_true_eq, List.all_eq_true] at h ⊢
    obtain ⟨⟨⟨⟨⟨k1, k2⟩, k3⟩, -⟩, -⟩, -⟩ := h
    refine ⟨⟨⟨⟨⟨fun n hn => ?_, k2⟩, k3⟩, by simp [Rp.bare]⟩, by simp [Rp.bare]⟩, by simp [Rp.bare]⟩
    rcases List.mem_append.1 hn with hn | hn
    · exact k1 n (List.mem_append_left _ hn)
    · simp only [Rp.bare, List.mem_cons, List.not_mem_nil, or_false] at hn
      rcases hn with rfl | rfl | rfl <;> rfl
  unfold longR
  rw [e1]
  dsimp only
  have hsb : shortL r.bare = shortL r := by rw [shortL, if_pos hg, hs]; rfl
  rw [hv, if_pos ⟨rfl, hsb⟩]

/-! ### recalls -/
structure Rc where
  epoch : Int
  node : Int
  gen : Int
def goodC (r : Rc) : Bool := numB r.epoch && numB r.node && numB r.gen
def callL (r : Rc) : List UInt8 := numsL [r.epoch, r.node, r.gen]
def rcOf (n : List Nat) : Rc := ⟨n.getD 0 0, n.getD 1 0, n.getD 2 0⟩
def decC (b : List UInt8) : Option Rc :=
  if (bodyT 67 b).2 = true ∧ endE (rdNs 3 ((bodyT 67 b).1, false)).2.1 (rdNs 3 ((bodyT 67 b).1, false)).2.2 = 0 ∧ goodC (rcOf (rdNs 3 ((bodyT 67 b).1, false)).1) = true then some (rcOf (rdNs 3 ((bodyT 67 b).1, false)).1) else none
theorem goodC_facts {r : Rc} (h : goodC r = true) : ∀ n ∈ [r.epoch, r.node, r.gen], 0 ≤ n ∧ n ≤ 1073741824 := by
  simp only [goodC, numB, Bool.and_eq_true, decide_eq_true_eq] at h
  intro n hn
  simp only [List.mem_cons, List.not_mem_nil, or_false] at hn
  rcases hn with rfl | rfl | rfl <;> omega
theorem decC_frame {r : Rc} (h : goodC r = true) : decC (frameL 67 (callL r)) = some r := by
  have h1 := goodC_facts h
  have e1 : rdNs 3 (callL r, false) = ([r.epoch, r.node, r.gen].map Int.toNat, [], false) := by
    have := rdNs_app ([r.epoch, r.node, r.gen].map Int.toNat) [] (fun n hn => by
      obtain ⟨m, hm', rfl⟩ := List.mem_map.1 hn
      have := h1 m hm'
      omega)
    rw [nums_nat fun n hn => (h1 n hn).1, List.append_nil] at this
    exact this
  have hv : rcOf ([r.epoch, r.node, r.gen].map Int.toNat) = r := by
    have h1' : ∀ n ∈ [r.epoch, r.node, r.gen], ((n.toNat : Nat) : Int) = n := fun n hn => by have := h1 n hn; omega
    obtain ⟨a1, a2, a3⟩ := r
    simp only [List.mem_cons, List.not_mem_nil, or_false, forall_eq_or_imp, forall_eq] at h1'
    obtain ⟨q1, q2, q3⟩ := h1'
    simp only [rcOf, List.map_cons, List.map_nil, List.getD_cons_zero, List.getD_cons_succ, q1, q2, q3]
  unfold decC
  rw [bodyT_frame 67 (callL r) (by simp [callL, numsL_len])]
  dsimp only
  rw [e1]
  dsimp only
  rw [hv, if_pos ⟨rfl, rfl, h⟩]
theorem decC_some {b : List UInt8} {r : Rc} (h : decC b = some r) : goodC r = true ∧ b = frameL 67 (callL r) := by
  unfold decC at h
  split at h
  · next hc =>
    cases h
    obtain ⟨h1, h2, h3⟩ := hc
    refine ⟨h3, ?_⟩
    obtain ⟨g1, g2⟩ := endE_zero.1 h2
    obtain ⟨k1, k2, k3, -⟩ := rdNs_ok g2
    rw [g1, List.append_nil] at k3
    have hc : ∀ n : List Nat, n.length = 3 → callL (rcOf n) = numsL (n.map fun n : Nat => (n : Int)) := fun n hn => by
      match n, hn with
      | [a0, a1, a2], _ => rfl
    rw [hc _ k2, ← k3]
    exact (bodyT_ok h1).1.symm
  · cases h
end Go.Proofs.Ytppbcdcmpcagdaa
