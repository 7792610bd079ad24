/- Contracts of field.Form: Read, take, Num, Text, End. -/
import Derived.Test.YtppbcdcmpcagdaaField5
import Derived.ScopeJumps
import Derived.RegionTactic
namespace Go.Proofs.Ytppbcdcmpcagdaa
open Go.RowKit Go.CP

/-- What a Form's method leaves as it lay: all but block g. -/
def Turn (g : Nat) (W W' : World) : Prop := Below g W W' ∧ W.heap.size ≤ W'.heap.size ∧ ∀ k, k < W.heap.size → k ≠ g → W'.heap[k]? = W.heap[k]?
theorem Turn.trans {g : Nat} {A B C : World} (h : Turn g A B) (k : Turn g B C) : Turn g A C :=
  ⟨h.1.trans k.1, Nat.le_trans h.2.1 k.2.1, fun j hj hne => (k.2.2 j (Nat.lt_of_lt_of_le hj h.2.1) hne).trans (h.2.2 j hj hne)⟩
theorem Turn.cells {g : Nat} {W W' : World} {A : Option Addr} {xs : List Value} (h : Turn g W W') (hc : Cells W A xs) (hne : ∀ b, A.map (·.block) = some b → b ≠ g) : Cells W' A xs := by
  intro j u hu
  obtain ⟨b, off, rfl, h2⟩ := hc j u hu
  refine ⟨b, off, rfl, ?_⟩
  rw [← h2]
  simp only [World.cell?]
  rw [h.2.2 b (World.block_lt_of_cell? W _ h2) (hne b rfl)]

/-- A Form at block g over the bytes l. -/
def FormIs (W : World) (g : Nat) (A : Option Addr) (l : List UInt8) (c : Nat) (bad : Bool) : Prop :=
  W.heap[g]? = some (.cells #[.slice A l.length c, .bool bad] 184 (0, 0)) ∧ Bytes W A l ∧ (∀ b, A.map (·.block) = some b → b ≠ g) ∧ l.length ≤ c ∧ l.length ≤ 140737488351232
theorem FormIs.slice {W : World} {g : Nat} {A : Option Addr} {l : List UInt8} {c : Nat} {bad : Bool} (h : FormIs W g A l c bad) : W.cell? ⟨g, 0, none⟩ = some (.slice A l.length c) := by
  simp [World.cell?, h.1]
theorem FormIs.bad {W : World} {g : Nat} {A : Option Addr} {l : List UInt8} {c : Nat} {bad : Bool} (h : FormIs W g A l c bad) : W.cell? ⟨g, 1, none⟩ = some (.bool bad) := by
  simp [World.cell?, h.1]
theorem FormIs.frozen {W : World} {g : Nat} {A : Option Addr} {l : List UInt8} {c : Nat} {bad : Bool} (h : FormIs W g A l c bad) (j : Nat) : W.frozen? ⟨g, j, none⟩ = false := by
  simp [World.frozen?, h.1]
theorem FormIs.lt {W : World} {g : Nat} {A : Option Addr} {l : List UInt8} {c : Nat} {bad : Bool} (h : FormIs W g A l c bad) : g < W.heap.size := (Array.getElem?_eq_some_iff.1 h.1).1

theorem Turn.setCell (g j : Nat) (W : World) (v : Value) : Turn g W (W.setCell ⟨g, j, none⟩ v) :=
  ⟨(Below.refl g W).setCell (p := ⟨g, j, none⟩) (Nat.le_refl _) v, by simp [World.setCell], fun k _ hne => Below.heap_setCell _ _ _ _ hne⟩
theorem Turn.refl (g : Nat) (W : World) : Turn g W W := ⟨Below.refl _ _, Nat.le_refl _, fun _ _ _ => rfl⟩
theorem Turn.drew (g : Nat) (W : World) : Turn g W W.drew := ⟨Below.drew (Below.refl _ _), Nat.le_refl _, fun _ _ _ => rfl⟩
theorem Turn.drewN (g n : Nat) (W : World) : Turn g W (W.drewN n) := ⟨below_drewN (Below.refl _ _) n, by simp, fun k _ _ => by simp⟩
theorem heap_setCell_at (W : World) (g j : Nat) (cs : Array Value) (t : TypeId) (v : Value) (h : W.heap[g]? = some (.cells cs t (0, 0))) : (W.setCell ⟨g, j, none⟩ v).heap[g]? = some (.cells (cs.setIfInBounds j v) t (0, 0)) := by
  obtain ⟨hlt, hk⟩ := Array.getElem?_eq_some_iff.1 h
  show (W.heap.modify g _)[g]? = _
  rw [Array.getElem?_eq_getElem (by rw [Array.size_modify]; exact hlt), Array.getElem_modify_self, hk]
  rfl
theorem FormIs.setBad {W : World} {g : Nat} {A : Option Addr} {l : List UInt8} {c : Nat} {bad : Bool} (h : FormIs W g A l c bad) : FormIs (W.setCell ⟨g, 1, none⟩ (.bool true)) g A l c true :=
  ⟨by rw [heap_setCell_at _ _ _ _ _ _ h.1]; rfl, (Turn.setCell g 1 W _).cells h.2.1 h.2.2.1, h.2.2.1, h.2.2.2⟩
theorem FormIs.setSlice {W : World} {g : Nat} {A A' : Option Addr} {l l' : List UInt8} {c c' : Nat} {bad : Bool} (h : FormIs W g A l c bad) (hb : Bytes W A' l') (hne : ∀ b, A'.map (·.block) = some b → b ≠ g) (hc : l'.length ≤ c') (hl : l'.length ≤ 140737488351232) :
    FormIs (W.setCell ⟨g, 0, none⟩ (.slice A' l'.length c')) g A' l' c' bad :=
  ⟨by rw [heap_setCell_at _ _ _ _ _ _ h.1]; rfl, (Turn.setCell g 0 W _).cells hb hne, hne, hc, hl⟩
theorem FormIs.turn {W W' : World} {g g2 : Nat} {A : Option Addr} {l : List UInt8} {c : Nat} {bad : Bool} (h : FormIs W g A l c bad) (ht : Turn g2 W W') (hg : g ≠ g2) (hne : ∀ b, A.map (·.block) = some b → b ≠ g2) : FormIs W' g A l c bad :=
  ⟨(ht.2.2 g h.lt hg).trans h.1, ht.cells h.2.1 hne, h.2.2⟩
theorem FormIs.drew {W : World} {g : Nat} {A : Option Addr} {l : List UInt8} {c : Nat} {bad : Bool} (h : FormIs W g A l c bad) : FormIs W.drew g A l c bad := h

def TakeBad (g : Nat) (A : Option Addr) (l : List UInt8) (c : Nat) (W : World) (e : Ending) (W' : World) : Prop := e = .returned (.slice none 0 0) ∧ FormIs W' g A l c true ∧ Turn g W W'

set_option maxRecDepth 100000 in
theorem take_bad (g : Nat) (A : Option Addr) (l : List UInt8) (c n : Nat) (W : World) (h : FormIs W g A l c true) :
    Calls Try.prog 131 #[.pointer (some ⟨g, 0, none⟩), .int .i64 n] W (TakeBad g A l c W) := by
  have c1 := h.bad
  have c0 := h.slice
  go_enter Try.func131, Try.ntmps131
  go_wp2_with (refine wp_scope_jumps 0 (fun a' w' => FormIs w' g A l c true ∧ Turn g W w' ∧ ∃ u3 u4 u5 u6 u7 u8 u9 u10 u11 u12 u13 u14 u15 u16 u17 u18 u19 u20 u21 u22 u23 u24 u25 u26 u27 u28 u29 u30 u31 u32 u33 u34 u35 u36 u37 u38 u39 : Value, a' = { tmps := #[.pointer (some ⟨g, 0, none⟩), .int .i64 n, undef, u3, u4, u5, u6, u7, u8, u9, u10, u11, u12, u13, u14, u15, u16, u17, u18, u19, u20, u21, u22, u23, u24, u25, u26, u27, u28, u29, u30, u31, u32, u33, u34, u35, u36, u37, u38, u39], defers := [] }) (fun _ _ => 0) rfl ?_ ?_)
  case refine_2 =>
    intro a' w' hf ht u3 u4 u5 u6 u7 u8 u9 u10 u11 u12 u13 u14 u15 u16 u17 u18 u19 u20 u21 u22 u23 u24 u25 u26 u27 u28 u29 u30 u31 u32 u33 u34 u35 u36 u37 u38 u39 ha
    subst ha
    go_wp2
    simp only [Exit.jump]
    go_ret
    exact ⟨rfl, hf, ht⟩
  go_step3
  exact ⟨rfl, h, Turn.refl _ _, _, _, _, _, _, _, _, _, _, _, _, _, _, _, _, _, _, _, _, _, _, _, _, _, _, _, _, _, _, _, _, _, _, _, _, _, _, rfl⟩

set_option maxRecDepth 100000 in
theorem take_long (g : Nat) (A : Option Addr) (l : List UInt8) (c n : Nat) (W : World) (h : FormIs W g A l c false) (hn : l.length < n) :
    Calls Try.prog 131 #[.pointer (some ⟨g, 0, none⟩), .int .i64 n] W (TakeBad g A l c W) := by
  have c1 := h.bad
  have c0 := h.slice
  have hf := h.frozen 1
  go_enter Try.func131, Try.ntmps131
  go_wp2_with (refine wp_scope_jumps 0 (fun a' w' => FormIs w' g A l c true ∧ Turn g W w' ∧ ∃ u3 u4 u5 u6 u7 u8 u9 u10 u11 u12 u13 u14 u15 u16 u17 u18 u19 u20 u21 u22 u23 u24 u25 u26 u27 u28 u29 u30 u31 u32 u33 u34 u35 u36 u37 u38 u39 : Value, a' = { tmps := #[.pointer (some ⟨g, 0, none⟩), .int .i64 n, undef, u3, u4, u5, u6, u7, u8, u9, u10, u11, u12, u13, u14, u15, u16, u17, u18, u19, u20, u21, u22, u23, u24, u25, u26, u27, u28, u29, u30, u31, u32, u33, u34, u35, u36, u37, u38, u39], defers := [] }) (fun _ _ => 0) rfl ?_ ?_)
  case refine_2 =>
    intro a' w' hf ht u3 u4 u5 u6 u7 u8 u9 u10 u11 u12 u13 u14 u15 u16 u17 u18 u19 u20 u21 u22 u23 u24 u25 u26 u27 u28 u29 u30 u31 u32 u33 u34 u35 u36 u37 u38 u39 ha
    subst ha
    go_wp2
    simp only [Exit.jump]
    go_ret
    exact ⟨rfl, hf, ht⟩
  go_step3
  exact ⟨rfl, h.setBad, Turn.setCell _ _ _ _, _, _, _, _, _, _, _, _, _, _, _, _, _, _, _, _, _, _, _, _, _, _, _, _, _, _, _, _, _, _, _, _, _, _, _, _, _, rfl⟩

def TakeOk (g : Nat) (A : Option Addr) (l : List UInt8) (c n : Nat) (W : World) (e : Ending) (W' : World) : Prop :=
  e = .returned (.slice A n c) ∧ Bytes W' A (l.take n) ∧ (∃ b off, FormIs W' g (some ⟨b, off, none⟩) (l.drop n) (c - n) false ∧ A.map (·.block) = some b) ∧ Turn g W W'

theorem take_fin (g b off off' : Nat) (l : List UInt8) (c n : Nat) (W : World) (h : FormIs W g (some ⟨b, off, none⟩) l c false) (hn : n ≤ l.length) (ho : (c = n ∧ off' = off) ∨ off' = off + n) :
    TakeOk g (some ⟨b, off, none⟩) l c n W (.returned (.slice (some ⟨b, off, none⟩) n c)) (W.drew.setCell ⟨g, 0, none⟩ (.slice (some ⟨b, off', none⟩) (l.length - n) (c - n))) := by
  have hb := h.2.1
  have hdrop : Bytes W.drew (some ⟨b, off', none⟩) (l.drop n) := by
    rcases ho with ⟨h1, rfl⟩ | rfl
    · rw [List.drop_of_length_le (by have := h.2.2.2.1; omega)]; exact Cells.nil _ _
    · have := Cells.drop hb.drew n; rwa [← List.map_drop] at this
  have hne : ∀ k, (some (⟨b, off', none⟩ : Addr)).map (·.block) = some k → k ≠ g := fun k hk => h.2.2.1 k hk
  have h2 := h.drew.setSlice hdrop hne (c' := c - n) (by rw [List.length_drop]; have := h.2.2.2.1; omega) (by rw [List.length_drop]; have := h.2.2.2.2; omega)
  rw [List.length_drop] at h2
  refine ⟨rfl, ?_, ⟨b, off', h2, rfl⟩, (Turn.drew g W).trans (Turn.setCell g 0 _ _)⟩
  have := Cells.take hb.drew n
  rw [← List.map_take] at this
  exact (Turn.setCell g 0 _ _).cells this h.2.2.1

set_option maxHeartbeats 1000000 in
set_option maxRecDepth 100000 in
theorem take_ok (g b off : Nat) (l : List UInt8) (c n : Nat) (W : World) (h : FormIs W g (some ⟨b, off, none⟩) l c false) (hn : n ≤ l.length) :
    Calls Try.prog 131 #[.pointer (some ⟨g, 0, none⟩), .int .i64 n] W (TakeOk g (some ⟨b, off, none⟩) l c n W) := by
  have c1 := h.bad
  have c0 := h.slice
  have hf := h.frozen 0
  have hcl := h.2.2.2.1
  have hn1 : (n : Int) ≤ l.length := by omega
  have hn2 : (n : Int) ≤ c := by omega
  have HN := hid hn
  have HCL := hid hcl
  clear hcl
  go_enter Try.func131, Try.ntmps131
  go_wp2_with (refine wp_scope_jumps 0 (fun _ _ => False) (fun _ _ => 0) rfl ?_ ?_)
  case refine_2 => intro a' w' hh; exact hh.elim
  have H := hid h
  clear h
  go_region
  go_wp2
  all_goals
    simp only [Exit.jump]
    go_ret
    first
      | exact take_fin g b off _ l c n W H.out HN.out (.inr rfl)
      | (have hcn : c = n := (by assumption); have hf := take_fin g b off off l c n W H.out HN.out (.inl ⟨hcn, rfl⟩); rw [hcn, Nat.sub_self] at hf; exact hf)

theorem take_fit (g : Nat) (A : Option Addr) (l : List UInt8) (c n : Nat) (W : World) (h : FormIs W g A l c false) (hn : n ≤ l.length) (hA : 0 < n ∨ ∃ b off, A = some ⟨b, off, none⟩) :
    Calls Try.prog 131 #[.pointer (some ⟨g, 0, none⟩), .int .i64 n] W (TakeOk g A l c n W) := by
  have : ∃ b off, A = some ⟨b, off, none⟩ := by
    rcases hA with h0 | h0
    · obtain ⟨b, off, h1, _⟩ := Bytes.openq h.2.1 (by omega)
      exact ⟨b, off, h1⟩
    · exact h0
  obtain ⟨b, off, rfl⟩ := this
  exact take_ok g b off l c n W h hn
end Go.Proofs.Ytppbcdcmpcagdaa
