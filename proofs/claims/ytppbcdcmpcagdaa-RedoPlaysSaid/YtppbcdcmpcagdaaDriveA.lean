/- Rows of equal width: where an element lies, and one that is written over; many cells stored in the midst of a block. -/
import Derived.Test.YtppbcdcmpcagdaaDrive3
import Derived.Deep.MidRow
namespace Go.Proofs.Ytppbcdcmpcagdaa
open Go.RowKit Go.CP

theorem flatMap_len {α β : Type} (f : α → List β) (k : Nat) : ∀ l : List α, (∀ x ∈ l, (f x).length = k) → (l.flatMap f).length = l.length * k
  | [], _ => by simp
  | x :: l, h => by
    rw [List.flatMap_cons, List.length_append, flatMap_len f k l fun y hy => h y (List.mem_cons_of_mem _ hy), h x List.mem_cons_self, List.length_cons, Nat.succ_mul, Nat.add_comm]
theorem flatMap_at {α β : Type} (f : α → List β) (k : Nat) : ∀ (l : List α), (∀ x ∈ l, (f x).length = k) → ∀ {i : Nat} {x : α}, l[i]? = some x → ∀ {j : Nat} {v : β}, (f x)[j]? = some v → (l.flatMap f)[i * k + j]? = some v
  | [], _, i, x, hx, _, _, _ => by simp at hx
  | y :: l, h, i, x, hx, j, v, hv => by
    have hy := h y List.mem_cons_self
    cases i with
    | zero =>
      simp at hx
      subst hx
      have hj := (List.getElem?_eq_some_iff.1 hv).1
      rw [List.flatMap_cons, Nat.zero_mul, Nat.zero_add, List.getElem?_append_left hj]
      exact hv
    | succ i =>
      rw [List.flatMap_cons, List.getElem?_append_right (by rw [hy, Nat.succ_mul]; omega), hy, show (i + 1) * k + j - k = i * k + j by rw [Nat.succ_mul]; omega]
      exact flatMap_at f k l (fun z hz => h z (List.mem_cons_of_mem _ hz)) (by simpa using hx) hv
theorem flatMap_set {α β : Type} (f : α → List β) (k : Nat) : ∀ (l : List α), (∀ x ∈ l, (f x).length = k) → ∀ {i : Nat}, i < l.length → ∀ d : α, (l.set i d).flatMap f = (l.flatMap f).take (i * k) ++ f d ++ (l.flatMap f).drop (i * k + k)
  | [], _, i, hi, _ => by simp at hi
  | y :: l, h, i, hi, d => by
    have hy := h y List.mem_cons_self
    cases i with
    | zero =>
      rw [List.set_cons_zero, List.flatMap_cons, List.flatMap_cons, Nat.zero_mul, List.take_zero, Nat.zero_add, List.nil_append, ← hy, List.drop_left]
    | succ i =>
      rw [List.set_cons_succ, List.flatMap_cons, List.flatMap_cons, flatMap_set f k l (fun z hz => h z (List.mem_cons_of_mem _ hz)) (by simpa using hi) d, Nat.succ_mul]
      rw [show i * k + k + k = (f y).length + (i * k + k) by omega, List.drop_length_add_append, show i * k + k = (f y).length + i * k by omega, List.take_length_add_append, show (f y).length + i * k = i * k + k by omega]
      simp
theorem flatS_set (l : List (List UInt8)) (h : ∀ s ∈ l, s.length = 128) {i : Nat} (hi : i < l.length) (d : List UInt8) : flatS (l.set i d) = (flatS l).take (i * 128) ++ d.map bv ++ (flatS l).drop (i * 128 + 128) := by
  unfold flatS
  rw [flatMap_set id 128 l (by simpa using h) hi d]
  simp
theorem flatS_len (l : List (List UInt8)) (h : ∀ s ∈ l, s.length = 128) : (flatS l).length = l.length * 128 := by
  unfold flatS
  rw [List.length_map, flatMap_len id 128 l (by simpa using h)]
theorem flatS_at (l : List (List UInt8)) (h : ∀ s ∈ l, s.length = 128) {i : Nat} {s : List UInt8} (hs : l[i]? = some s) {j : Nat} {v : Value} (hv : (s.map bv)[j]? = some v) : (flatS l)[i * 128 + j]? = some v := by
  unfold flatS
  rw [List.getElem?_map] at hv ⊢
  cases hj : s[j]? with
  | none => rw [hj] at hv; cases hv
  | some x =>
    rw [hj] at hv
    rw [flatMap_at id 128 l (by simpa using h) hs hj]
    exact hv
/-- What waits, as cells. -/
def rowL (x : Int × List UInt8) : List Value := .int .i64 x.1 :: x.2.map bv
theorem rowL_len {x : Int × List UInt8} (h : x.2.length = 128) : (rowL x).length = 129 := by simp [rowL, h]

/-! ### many cells in the midst of a block -/
def setMany (C : Array Value) : Nat → List Value → Array Value
  | _, [] => C
  | o, v :: r => setMany (C.setIfInBounds o v) (o + 1) r
theorem setMany_toList : ∀ (vs : List Value) (o : Nat) (C : Array Value), o + vs.length ≤ C.size → (setMany C o vs).toList = C.toList.take o ++ vs ++ C.toList.drop (o + vs.length)
  | [], o, C, _ => by simp [setMany]
  | v :: r, o, C, h => by
    have h' : o + (r.length + 1) ≤ C.size := by simpa using h
    rw [setMany, setMany_toList r (o + 1) _ (by simp; omega), Array.toList_setIfInBounds]
    have e1 : (C.toList.set o v).take (o + 1) = C.toList.take o ++ [v] := by
      rw [List.take_succ_eq_append_getElem (by simp; omega)]
      simp only [List.take_set, List.getElem_set_self]
      rw [List.set_eq_of_length_le (by simp; omega)]
    have e2 : (C.toList.set o v).drop (o + 1 + r.length) = C.toList.drop (o + (r.length + 1)) := by
      rw [List.drop_set, if_pos (by omega), show o + 1 + r.length = o + (r.length + 1) by omega]
    rw [e1, e2]
    simp
theorem heap_setCells : ∀ (vs : List Value) (W : World) (b o : Nat) (C : Array Value) (t : TypeId), W.heap[b]? = some (.cells C t (0, 0)) → (W.setCells b o vs).heap[b]? = some (.cells (setMany C o vs) t (0, 0))
  | [], _, _, _, _, _, h => h
  | v :: r, W, b, o, C, t, h => by
    rw [World.setCells, setMany]
    exact heap_setCells r _ b (o + 1) _ t (heap_setCell_at W b o C t v h)
theorem heap_setCells_ne : ∀ (vs : List Value) (W : World) (b o k : Nat), k ≠ b → (W.setCells b o vs).heap[k]? = W.heap[k]?
  | [], _, _, _, _, _ => rfl
  | v :: r, W, b, o, k, h => by
    rw [World.setCells, heap_setCells_ne r _ b (o + 1) k h]
    exact Below.heap_setCell _ _ _ _ h
theorem below_setC (b : Nat) : ∀ (vs : List Value) (W : World) (o : Nat), Below b W (W.setCells b o vs)
  | [], W, _ => Below.refl _ _
  | v :: r, W, o => by
    rw [World.setCells]
    exact ((Below.refl b W).setCell (p := ⟨b, o, none⟩) (Nat.le_refl _) v).trans (below_setC b r _ (o + 1))
theorem turn_setCells (b o : Nat) (vs : List Value) (W : World) : Turn b W (W.setCells b o vs) :=
  ⟨below_setC b vs W o, (below_setC b vs W o).size, fun k _ hne => heap_setCells_ne vs W b o k hne⟩
/-- A sector is written over. -/
theorem sector_set {W : World} {s : Nat} {l : List (List UInt8)} (h : W.heap[s]? = some (.cells (flatS l).toArray 214 (0, 0))) (hl : ∀ x ∈ l, x.length = 128) {i : Nat} (hi : i < l.length) {d : List UInt8} (hd : d.length = 128) :
    (W.setCells s (i * 128) (d.map bv)).heap[s]? = some (.cells (flatS (l.set i d)).toArray 214 (0, 0)) := by
  have hle : i * 128 + 128 ≤ l.length * 128 := by omega
  rw [heap_setCells _ W s (i * 128) _ 214 h]
  congr 2
  apply Array.toList_inj.1
  rw [setMany_toList _ _ _ (by simp [flatS_len l hl, hd]; omega), flatS_set l hl hi d]
  simp [hd]
theorem sector_there {W : World} {s : Nat} {l : List (List UInt8)} (h : W.heap[s]? = some (.cells (flatS l).toArray 214 (0, 0))) (hl : ∀ x ∈ l, x.length = 128) {i : Nat} (hi : i < l.length) : W.there s (i * 128) 128 := by
  intro j hj
  have hlen := flatS_len l hl
  have hle : i * 128 + 128 ≤ l.length * 128 := by omega
  constructor
  · rw [cell_of_row W s _ _ 214 (0, 0) h]
    simp [hlen]; omega
  · simp [World.frozen?, h]
theorem sector_range {W : World} {s : Nat} {l : List (List UInt8)} (h : W.heap[s]? = some (.cells (flatS l).toArray 214 (0, 0))) (hl : ∀ x ∈ l, x.length = 128) {i : Nat} {d : List UInt8} (hi : l[i]? = some d) : W.rangeAt s (i * 128) (d.map bv) := by
  intro j v hv
  rw [cell_of_row W s _ _ 214 (0, 0) h]
  simpa using flatS_at l hl hi hv
/-- An element of what waits. -/
theorem wait_range {W : World} {base : Nat} {A : Option Addr} {n c : Nat} {l : List (Int × List UInt8)} (h : Go.CP.Own W base 216 129 A n c (l.flatMap rowL)) (hl : ∀ x ∈ l, x.2.length = 128) {i : Nat} {x : Int × List UInt8} (hi : l[i]? = some x) :
    ∃ ga, A = some ⟨ga, 0, none⟩ ∧ W.rangeAt ga (i * 129) (rowL x) := by
  have h0 : 0 < l.length := by have := (List.getElem?_eq_some_iff.1 hi).1; omega
  have hlen := flatMap_len rowL 129 l fun y hy => rowL_len (hl y hy)
  have hn : 0 < n := by have := h.len; rw [hlen] at this; omega
  obtain ⟨ga, cur, rfl, -, hg, hle, ht⟩ := h.open hn
  refine ⟨ga, rfl, fun j v hv => ?_⟩
  rw [cell_of_row W ga _ cur 216 (0, 0) hg]
  have hat := flatMap_at rowL 129 l (fun y hy => rowL_len (hl y hy)) hi hv
  rw [← ht, List.getElem?_take] at hat
  split at hat
  · simpa using hat
  · cases hat
end Go.Proofs.Ytppbcdcmpcagdaa
