/- Steps that came in, opened: slices of structs that hold slices, of a bulk that is bounded. -/
import Derived.Test.YtppbcdcmpcagdaaPlay2
import Derived.Test.YtppbcdcmpcagdaaOpens
import Derived.Test.YtppbcdcmpcagdaaRows
import Derived.Deep.Slices
import Derived.Deep.Fields
import Derived.ChangeSame
namespace Go.Proofs.Ytppbcdcmpcagdaa
open Go.RowKit Go.CP Go.ChangeShapes Go.WideShapes Go.Deep

theorem bulk_one {H : Type} (d : DataW H) : 1 ≤ Rows.uptoBulk d := by
  cases d with
  | lit l => cases l <;> simp [Rows.uptoBulk]
  | _ => simp [Rows.uptoBulk]
theorem bulk_part {H : Type} {d : DataW H} {l : List (DataW H)} (h : d ∈ l) : Rows.uptoBulk d ≤ Rows.uptoBulkAll l := by
  induction l with
  | nil => cases h
  | cons x r ih =>
    simp only [Rows.uptoBulkAll]
    rcases List.mem_cons.1 h with e | e
    · subst e
      omega
    · have := ih e
      omega
theorem bulk_append {H : Type} (l r : List (DataW H)) : Rows.uptoBulkAll (l ++ r) = Rows.uptoBulkAll l + Rows.uptoBulkAll r := by
  induction l with
  | nil => simp [Rows.uptoBulkAll]
  | cons x l ih =>
    simp only [List.cons_append, Rows.uptoBulkAll, ih]
    omega
theorem bulk_len {H : Type} (l : List (DataW H)) : l.length ≤ Rows.uptoBulkAll l := by
  induction l with
  | nil => simp [Rows.uptoBulkAll]
  | cons x r ih =>
    have := bulk_one x
    simp only [Rows.uptoBulkAll, List.length_cons]
    omega
theorem bulk_slice {H : Type} (a b : List (DataW H)) : Rows.uptoBulkAll a + 1 ≤ Rows.uptoBulk (.slice a b) := by
  simp only [Rows.uptoBulk]
  omega
theorem list_of {α : Type} (R : Nat → α → Prop) : ∀ n : Nat, (∀ i, i < n → ∃ x, R i x) → ∃ l : List α, l.length = n ∧ ∀ i x, l[i]? = some x → R i x
  | 0, _ => ⟨[], rfl, fun i x h => by simp at h⟩
  | n + 1, h => by
    obtain ⟨l, h1, h2⟩ := list_of R n fun i hi => h i (by omega)
    obtain ⟨y, hy⟩ := h n (by omega)
    refine ⟨l ++ [y], by simp [h1], fun i x hx => ?_⟩
    by_cases hi : i < n
    · rw [List.getElem?_append_left (by omega)] at hx
      exact h2 i x hx
    · have hl := (List.getElem?_eq_some_iff.1 hx).1
      simp at hl
      obtain rfl : i = n := by omega
      rw [List.getElem?_append_right (by omega)] at hx
      simp [h1] at hx
      subst hx
      exact hy
theorem flatMap_get {α β : Type} (f : α → List β) (k : Nat) : ∀ (l : List α), (∀ x, (f x).length = k) → ∀ {j : Nat} {u : β}, (l.flatMap f)[j]? = some u → ∃ i x m, l[i]? = some x ∧ j = i * k + m ∧ (f x)[m]? = some u
  | [], _, j, u, h => by simp at h
  | y :: l, hf, j, u, h => by
    rw [List.flatMap_cons] at h
    by_cases hj : j < k
    · rw [List.getElem?_append_left (by rw [hf]; exact hj)] at h
      exact ⟨0, y, j, rfl, by omega, h⟩
    · rw [List.getElem?_append_right (by rw [hf]; omega), hf] at h
      obtain ⟨i, x, m, h1, h2, h3⟩ := flatMap_get f k l hf h
      refine ⟨i + 1, x, m, by simpa using h1, ?_, h3⟩
      rw [Nat.add_mul]
      omega
theorem sum_bulk {H : Type} {α : Type} (g : α → Nat) (D : Nat → DataW H) (l : List α) (h : ∀ i x, l[i]? = some x → g x ≤ Rows.uptoBulk (D i)) : ∀ n, n ≤ l.length → ((l.take n).map g).sum ≤ Rows.uptoBulkAll ((List.range n).map D)
  | 0, _ => by simp
  | n + 1, hn => by
    obtain ⟨x, hx⟩ := get_of_lt l (i := n) (by omega)
    have ih := sum_bulk g D l h n (by omega)
    have hg := h n x hx
    rw [take_snoc hx, List.range_succ, List.map_append, List.map_append, bulk_append, List.sum_append]
    simp only [List.map_cons, List.map_nil, List.sum_cons, List.sum_nil, Rows.uptoBulkAll]
    omega
/-- A slice of structs of one-cell fields that came in, as a list. -/
theorem open_rows {H : Type} {enc : TypeId × Value → H} {P : Program} {w : World} {base : Nat} {held : Bool} {t e : TypeId} {fs : Array Field} {fuel : Nat} {v : Value} {x : DataW H × List MemPlace} {B : Nat}
    (ht : P.underlying t = some (.slice e)) (he : P.underlying e = some (.struct fs)) (hone : oneCellFields P fs = true) (hC : P.cellsOf e = fs.size)
    (h : DataW.trod enc P w base (fun _ => true) held fuel t [v] = some x) (hB : Rows.uptoBulk x.1 ≤ B) {α : Type} (f : α → List Value) (hf : ∀ y, (f y).length = fs.size) (g : α → Nat) (R : α → Prop)
    (each : ∀ (cs : List Value) (ys : List (DataW H × List MemPlace)) (n : Nat), cs.length = fs.size → (∀ (j : Nat) (fd : Field), fs[j]? = some fd → ∃ u y, cs[j]? = some u ∧ y ∈ ys ∧ DataW.trod enc P w base (fun _ => true) held n fd.type [u] = some y) →
      Rows.uptoBulkAll (ys.map (·.1)) ≤ B → ∃ a : α, f a = cs ∧ R a ∧ g a ≤ Rows.uptoBulkAll (ys.map (·.1)) + 1) :
    ∃ (A : Option Addr) (l : List α) (c : Nat), v = .slice A l.length c ∧ l.length ≤ c ∧ Cells w A (l.flatMap f) ∧ (∀ a ∈ l, R a) ∧ (l.map g).sum ≤ Rows.uptoBulk x.1 ∧ l.length ≤ Rows.uptoBulk x.1 := by
  rcases open_slice ht h with ⟨hcs, -⟩ | ⟨a, len, cap, m, n, D, Pl, hcs, -, hl, -, hmm, hx, hi⟩
  · obtain rfl : v = .slice none 0 0 := by simpa using hcs
    exact ⟨none, [], 0, rfl, Nat.le_refl _, Cells.nil _ _, fun a ha => by simp at ha, by simp, by simp⟩
  · obtain rfl : v = .slice (some a) len cap := by simpa using hcs
    rw [if_pos rfl] at hmm
    subst hmm
    have hx1 : x.1 = .slice ((List.range len).map D) ((List.range (m - len)).map fun j => D (len + j)) := congrArg (·.1) hx
    have hbs : Rows.uptoBulkAll ((List.range len).map D) + 1 ≤ Rows.uptoBulk x.1 := by rw [hx1]; exact bulk_slice _ _
    have key : ∀ i, i < len → ∃ y : α, g y ≤ Rows.uptoBulk (D i) ∧ R y ∧ ∀ j u, (f y)[j]? = some u → w.cell? (a.add (i * fs.size + j)) = some u := by
      intro i him
      obtain ⟨cs', hc, ht'⟩ := hi i (by omega)
      rw [hC] at hc
      obtain ⟨ys, n', -, hy, hlen, hyl, hfd⟩ := DataW.trod_struct he ht'
      obtain ⟨_, hcl, hat⟩ := World.cells?_some hc
      rw [hC] at hlen
      have hd : D i = .agg (ys.map (·.1)) := congrArg (·.1) hy
      have hbi : Rows.uptoBulk (D i) = Rows.uptoBulkAll (ys.map (·.1)) + 1 := by rw [hd]; simp only [Rows.uptoBulk]
      have hpart : Rows.uptoBulk (D i) ≤ Rows.uptoBulkAll ((List.range len).map D) := bulk_part (List.mem_map.2 ⟨i, List.mem_range.2 him, rfl⟩)
      obtain ⟨y, h1, h2, h3⟩ := each cs' ys n' hlen (fun j fd hj => by
        obtain ⟨ho, hk⟩ := hone_of hone j fd hj
        have hjl : j < fs.size := (Array.getElem?_eq_some_iff.1 hj).1
        have hv : cs'[j]? = some (cs'[j]'(by omega)) := List.getElem?_eq_getElem (by omega)
        have h1 := hfd j fd hj
        rw [ho, hk] at h1
        have hone' : (cs'.drop j).take 1 = [cs'[j]'(by omega)] := by
          rw [List.drop_eq_getElem_cons (by omega)]
          rfl
        rw [hone'] at h1
        have hys : ys[j]? = some (ys[j]'(by omega)) := List.getElem?_eq_getElem (by omega)
        exact ⟨_, _, hv, List.getElem_mem (by omega), h1.trans hys⟩) (by omega)
      refine ⟨y, by omega, h2, fun j u hu => ?_⟩
      have hjl : j < fs.size := by
        have := (List.getElem?_eq_some_iff.1 hu).1
        rwa [hf] at this
      rw [h1] at hu
      rw [← Go.Deep.add_add, hat j hjl]
      exact hu
    obtain ⟨l, hl1, hl2⟩ := list_of _ len key
    subst hl1
    have hsum := sum_bulk g D l (fun i x hx => (hl2 i x hx).1) l.length (Nat.le_refl _)
    rw [List.take_length] at hsum
    have hlb := bulk_len ((List.range l.length).map D)
    simp only [List.length_map, List.length_range] at hlb
    refine ⟨some a, l, m, rfl, hl, fun j u hu => ?_, fun y hy => ?_, by omega, by omega⟩
    · obtain ⟨i, y, k, h1, rfl, h3⟩ := flatMap_get f fs.size l hf hu
      have hcell := (hl2 i y h1).2.2 k u h3
      have hkl : k < fs.size := by
        have := (List.getElem?_eq_some_iff.1 h3).1
        rwa [hf] at this
      have hil := (List.getElem?_eq_some_iff.1 h1).1
      obtain ⟨y0, hy0⟩ := get_of_lt l (i := 0) (by omega)
      have hu0 : (f y0)[0]? = some ((f y0)[0]'(by rw [hf]; omega)) := List.getElem?_eq_getElem _
      have hcell0 := (hl2 0 y0 hy0).2.2 0 _ hu0
      rw [Nat.zero_mul] at hcell0
      have h0 := spot_none hcell0
      obtain ⟨b, off, spot⟩ := a
      simp at h0
      subst h0
      exact ⟨b, off, rfl, by rw [Addr.add_lit] at hcell; exact hcell⟩
    · obtain ⟨i, hi⟩ := List.mem_iff_getElem?.1 hy
      exact (hl2 i y hi).2.1
theorem open_bytesB {H : Type} {enc : TypeId × Value → H} {P : Program} {W : World} {base : Nat} {held : Bool} {t e : TypeId} {v : Value} {x : DataW H × List MemPlace} {n : Nat}
    (hu : P.underlying t = some (.slice e)) (he : P.underlying e = some (.int .u8)) (hc : P.cellsOf e = 1) (h : DataW.trod enc P W base (fun _ => true) held n t [v] = some x) :
    ∃ (A : Option Addr) (l : List UInt8) (c : Nat), v = .slice A l.length c ∧ Bytes W A l ∧ l.length ≤ c := by
  rcases open_ints hu he hc h with ⟨hn, -⟩ | ⟨a, len, cap, zs, hcs, _, hl, hm, hz, _, hcell, hwz⟩
  · obtain rfl : v = .slice none 0 0 := by simpa using hn
    exact ⟨none, [], 0, rfl, Cells.nil _ _, Nat.le_refl _⟩
  · obtain rfl : v = .slice (some a) len cap := by simpa using hcs
    have hr : IsRow .u8 W (some a) len cap zs := .inr ⟨_, rfl, hl, hm, by simpa using hz, hcell, hwz⟩
    obtain ⟨l, e1, c1, -, s1⟩ := hr.bytes
    subst e1
    exact ⟨some a, l, cap, rfl, s1, c1⟩
theorem open_intsB {H : Type} {enc : TypeId × Value → H} {P : Program} {W : World} {base : Nat} {held : Bool} {t e : TypeId} {v : Value} {x : DataW H × List MemPlace} {n : Nat}
    (hu : P.underlying t = some (.slice e)) (he : P.underlying e = some (.int .i64)) (hc : P.cellsOf e = 1) (h : DataW.trod enc P W base (fun _ => true) held n t [v] = some x) :
    ∃ (A : Option Addr) (l : List Int) (c : Nat), v = .slice A l.length c ∧ Ints W A l ∧ l.length ≤ Rows.uptoBulk x.1 := by
  rcases open_ints hu he hc h with ⟨hn, -⟩ | ⟨a, len, cap, zs, hcs, _, hl, hm, hz, hx, hcell, hwz⟩
  · obtain rfl : v = .slice none 0 0 := by simpa using hn
    exact ⟨none, [], 0, rfl, Cells.nil _ _, by simp⟩
  · obtain rfl : v = .slice (some a) len cap := by simpa using hcs
    have hzc : zs.length = cap := by simpa using hz
    have hr : IsRow .i64 W (some a) len cap zs := .inr ⟨_, rfl, hl, hm, hzc, hcell, hwz⟩
    obtain ⟨l, e1, c1, -, s1, -⟩ := hr.ints
    subst e1
    refine ⟨some a, l, cap, rfl, s1, ?_⟩
    have hx1 : x.1 = .slice (lits .i64 (zs.take l.length)) (lits .i64 (zs.drop l.length)) := congrArg (·.1) hx
    have h1 := bulk_slice (lits (H := H) .i64 (zs.take l.length)) (lits .i64 (zs.drop l.length))
    have h2 := bulk_len (lits (H := H) .i64 (zs.take l.length))
    rw [hx1]
    simp only [lits, List.length_map, List.length_take] at h1 h2 ⊢
    omega
end Go.Proofs.Ytppbcdcmpcagdaa
