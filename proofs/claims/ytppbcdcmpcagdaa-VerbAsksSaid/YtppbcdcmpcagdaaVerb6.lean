/- Contract of package verb: Decode. -/
import Derived.Test.YtppbcdcmpcagdaaVerb5
import Derived.Deep.Cut
namespace Go.Proofs.Ytppbcdcmpcagdaa
open Go.RowKit Go.CP

/-- The cells of a request in the midst of being read. -/
def boxN (n : List Nat) (p o : List UInt8) (D : Value) : List Value :=
  [.int .i64 (n.getD 0 0 : Nat), .int .i64 (n.getD 1 0 : Nat), .int .i64 (n.getD 2 0 : Nat), .int .i64 (n.getD 3 0 : Nat), .int .i64 (n.getD 4 0 : Nat), .string (bstr p), .string (bstr o), .int .i64 (n.getD 5 0 : Nat), .int .i64 (n.getD 6 0 : Nat), .int .i64 (n.getD 7 0 : Nat), .int .i64 (n.getD 8 0 : Nat), .int .i64 (n.getD 9 0 : Nat), D]
def offsV : List Nat := [0, 1, 2, 3, 4, 7, 8, 9, 10, 11]
theorem boxN_snoc {n : List Nat} {p o : List UInt8} {D : Value} {i : Nat} (hn : n.length = i) (hi : i < 10) (x : Nat) : (boxN n p o D).set (offsV.getD i 0) (.int .i64 (x : Nat)) = boxN (n ++ [x]) p o D := by
  have h : i = 0 ∨ i = 1 ∨ i = 2 ∨ i = 3 ∨ i = 4 ∨ i = 5 ∨ i = 6 ∨ i = 7 ∨ i = 8 ∨ i = 9 := by omega
  rcases h with rfl | rfl | rfl | rfl | rfl | rfl | rfl | rfl | rfl | rfl
  · match n, hn with
    | [], _ => rfl
  · match n, hn with
    | [a], _ => rfl
  · match n, hn with
    | [a, b], _ => rfl
  · match n, hn with
    | [a, b, c], _ => rfl
  · match n, hn with
    | [a, b, c, d], _ => rfl
  · match n, hn with
    | [a, b, c, d, e], _ => rfl
  · match n, hn with
    | [a, b, c, d, e, f], _ => rfl
  · match n, hn with
    | [a, b, c, d, e, f, g], _ => rfl
  · match n, hn with
    | [a, b, c, d, e, f, g, h], _ => rfl
  · match n, hn with
    | [a, b, c, d, e, f, g, h, i], _ => rfl
theorem boxN_get (n : List Nat) (p o : List UInt8) (D : Value) {i : Nat} (hi : i < 10) : ∃ u, (boxN n p o D)[offsV.getD i 0]? = some u := by
  have h : i = 0 ∨ i = 1 ∨ i = 2 ∨ i = 3 ∨ i = 4 ∨ i = 5 ∨ i = 6 ∨ i = 7 ∨ i = 8 ∨ i = 9 := by omega
  rcases h with rfl | rfl | rfl | rfl | rfl | rfl | rfl | rfl | rfl | rfl <;> exact ⟨_, rfl⟩
/-- A block of cells. -/
def Blk (W : World) (k : Nat) (t : TypeId) (cs : List Value) : Prop := W.heap[k]? = some (.cells cs.toArray t (0, 0))
theorem Blk.cell {W : World} {k : Nat} {t : TypeId} {cs : List Value} (h : Blk W k t cs) {j : Nat} {u : Value} (hj : cs[j]? = some u) : W.cell? ⟨k, j, none⟩ = some u := by
  rw [cell_of_row _ _ _ _ _ (0, 0) h]; simpa using hj
theorem Blk.free {W : World} {k : Nat} {t : TypeId} {cs : List Value} (h : Blk W k t cs) (j : Nat) : W.frozen? ⟨k, j, none⟩ = false := by
  have h' : W.heap[k]? = _ := h
  simp [World.frozen?, h']
theorem Blk.lt {W : World} {k : Nat} {t : TypeId} {cs : List Value} (h : Blk W k t cs) : k < W.heap.size := (Array.getElem?_eq_some_iff.1 (show W.heap[k]? = _ from h)).1
theorem Blk.set {W : World} {k : Nat} {t : TypeId} {cs : List Value} (h : Blk W k t cs) (j : Nat) (u : Value) : Blk (W.setCell ⟨k, j, none⟩ u) k t (cs.set j u) := by
  have := heap_setCell_at W k j cs.toArray t u h
  unfold Blk
  rw [this, List.setIfInBounds_toArray]
theorem Blk.other {W : World} {k k' j : Nat} {t : TypeId} {cs : List Value} {u : Value} (h : Blk W k t cs) (hne : k ≠ k') : Blk (W.setCell ⟨k', j, none⟩ u) k t cs := (Below.heap_setCell _ _ _ _ hne).trans h
theorem Blk.below {W W' : World} {k : Nat} {t : TypeId} {cs : List Value} (h : Blk W k t cs) (hb : Below W.heap.size W W') : Blk W' k t cs := (hb.block k h.lt).trans h
theorem Blk.turn {W W' : World} {k g : Nat} {t : TypeId} {cs : List Value} (h : Blk W k t cs) (ht : Turn g W W') (hne : k ≠ g) : Blk W' k t cs := (ht.2.2 k h.lt hne).trans h
theorem Blk.new (W : World) (t : TypeId) (cs : List Value) : Blk (W.alloc (.cells cs.toArray t)) W.heap.size t cs := heap_alloc_new W _
theorem Blk.alloc {W : World} {k : Nat} {t : TypeId} {cs : List Value} (h : Blk W k t cs) (o : Obj) : Blk (W.alloc o) k t cs := h.below ((Below.refl _ _).alloc (Nat.le_refl _) o)
theorem FormS.alloc {W : World} {g : Nat} {B : Option Nat} {l : List UInt8} {bad : Bool} (h : FormS W g B l bad) (o : Obj) : FormS (W.alloc o) g B l bad := h.below ((Below.refl _ _).alloc (Nat.le_refl _) o)

theorem Blk.set13 {W : World} {k : Nat} {t : TypeId} {x0 x1 x2 x3 x4 x5 x6 x7 x8 x9 x10 x11 x12 : Value} (h : Blk W k t [x0, x1, x2, x3, x4, x5, x6, x7, x8, x9, x10, x11, x12]) (a0 a1 a2 a3 a4 a5 a6 a7 a8 a9 a10 a11 a12 : Value) : Blk (((((((((((((W.setCell ⟨k, 0, none⟩ a0).setCell ⟨k, 1, none⟩ a1).setCell ⟨k, 2, none⟩ a2).setCell ⟨k, 3, none⟩ a3).setCell ⟨k, 4, none⟩ a4).setCell ⟨k, 5, none⟩ a5).setCell ⟨k, 6, none⟩ a6).setCell ⟨k, 7, none⟩ a7).setCell ⟨k, 8, none⟩ a8).setCell ⟨k, 9, none⟩ a9).setCell ⟨k, 10, none⟩ a10).setCell ⟨k, 11, none⟩ a11).setCell ⟨k, 12, none⟩ a12) k t [a0, a1, a2, a3, a4, a5, a6, a7, a8, a9, a10, a11, a12] := by
  have h0 : Blk (W.setCell ⟨k, 0, none⟩ a0) k t [a0, x1, x2, x3, x4, x5, x6, x7, x8, x9, x10, x11, x12] := Blk.set h 0 a0
  have h1 : Blk ((W.setCell ⟨k, 0, none⟩ a0).setCell ⟨k, 1, none⟩ a1) k t [a0, a1, x2, x3, x4, x5, x6, x7, x8, x9, x10, x11, x12] := Blk.set h0 1 a1
  have h2 : Blk (((W.setCell ⟨k, 0, none⟩ a0).setCell ⟨k, 1, none⟩ a1).setCell ⟨k, 2, none⟩ a2) k t [a0, a1, a2, x3, x4, x5, x6, x7, x8, x9, x10, x11, x12] := Blk.set h1 2 a2
  have h3 : Blk ((((W.setCell ⟨k, 0, none⟩ a0).setCell ⟨k, 1, none⟩ a1).setCell ⟨k, 2, none⟩ a2).setCell ⟨k, 3, none⟩ a3) k t [a0, a1, a2, a3, x4, x5, x6, x7, x8, x9, x10, x11, x12] := Blk.set h2 3 a3
  have h4 : Blk (((((W.setCell ⟨k, 0, none⟩ a0).setCell ⟨k, 1, none⟩ a1).setCell ⟨k, 2, none⟩ a2).setCell ⟨k, 3, none⟩ a3).setCell ⟨k, 4, none⟩ a4) k t [a0, a1, a2, a3, a4, x5, x6, x7, x8, x9, x10, x11, x12] := Blk.set h3 4 a4
  have h5 : Blk ((((((W.setCell ⟨k, 0, none⟩ a0).setCell ⟨k, 1, none⟩ a1).setCell ⟨k, 2, none⟩ a2).setCell ⟨k, 3, none⟩ a3).setCell ⟨k, 4, none⟩ a4).setCell ⟨k, 5, none⟩ a5) k t [a0, a1, a2, a3, a4, a5, x6, x7, x8, x9, x10, x11, x12] := Blk.set h4 5 a5
  have h6 : Blk (((((((W.setCell ⟨k, 0, none⟩ a0).setCell ⟨k, 1, none⟩ a1).setCell ⟨k, 2, none⟩ a2).setCell ⟨k, 3, none⟩ a3).setCell ⟨k, 4, none⟩ a4).setCell ⟨k, 5, none⟩ a5).setCell ⟨k, 6, none⟩ a6) k t [a0, a1, a2, a3, a4, a5, a6, x7, x8, x9, x10, x11, x12] := Blk.set h5 6 a6
  have h7 : Blk ((((((((W.setCell ⟨k, 0, none⟩ a0).setCell ⟨k, 1, none⟩ a1).setCell ⟨k, 2, none⟩ a2).setCell ⟨k, 3, none⟩ a3).setCell ⟨k, 4, none⟩ a4).setCell ⟨k, 5, none⟩ a5).setCell ⟨k, 6, none⟩ a6).setCell ⟨k, 7, none⟩ a7) k t [a0, a1, a2, a3, a4, a5, a6, a7, x8, x9, x10, x11, x12] := Blk.set h6 7 a7
  have h8 : Blk (((((((((W.setCell ⟨k, 0, none⟩ a0).setCell ⟨k, 1, none⟩ a1).setCell ⟨k, 2, none⟩ a2).setCell ⟨k, 3, none⟩ a3).setCell ⟨k, 4, none⟩ a4).setCell ⟨k, 5, none⟩ a5).setCell ⟨k, 6, none⟩ a6).setCell ⟨k, 7, none⟩ a7).setCell ⟨k, 8, none⟩ a8) k t [a0, a1, a2, a3, a4, a5, a6, a7, a8, x9, x10, x11, x12] := Blk.set h7 8 a8
  have h9 : Blk ((((((((((W.setCell ⟨k, 0, none⟩ a0).setCell ⟨k, 1, none⟩ a1).setCell ⟨k, 2, none⟩ a2).setCell ⟨k, 3, none⟩ a3).setCell ⟨k, 4, none⟩ a4).setCell ⟨k, 5, none⟩ a5).setCell ⟨k, 6, none⟩ a6).setCell ⟨k, 7, none⟩ a7).setCell ⟨k, 8, none⟩ a8).setCell ⟨k, 9, none⟩ a9) k t [a0, a1, a2, a3, a4, a5, a6, a7, a8, a9, x10, x11, x12] := Blk.set h8 9 a9
  have h10 : Blk (((((((((((W.setCell ⟨k, 0, none⟩ a0).setCell ⟨k, 1, none⟩ a1).setCell ⟨k, 2, none⟩ a2).setCell ⟨k, 3, none⟩ a3).setCell ⟨k, 4, none⟩ a4).setCell ⟨k, 5, none⟩ a5).setCell ⟨k, 6, none⟩ a6).setCell ⟨k, 7, none⟩ a7).setCell ⟨k, 8, none⟩ a8).setCell ⟨k, 9, none⟩ a9).setCell ⟨k, 10, none⟩ a10) k t [a0, a1, a2, a3, a4, a5, a6, a7, a8, a9, a10, x11, x12] := Blk.set h9 10 a10
  have h11 : Blk ((((((((((((W.setCell ⟨k, 0, none⟩ a0).setCell ⟨k, 1, none⟩ a1).setCell ⟨k, 2, none⟩ a2).setCell ⟨k, 3, none⟩ a3).setCell ⟨k, 4, none⟩ a4).setCell ⟨k, 5, none⟩ a5).setCell ⟨k, 6, none⟩ a6).setCell ⟨k, 7, none⟩ a7).setCell ⟨k, 8, none⟩ a8).setCell ⟨k, 9, none⟩ a9).setCell ⟨k, 10, none⟩ a10).setCell ⟨k, 11, none⟩ a11) k t [a0, a1, a2, a3, a4, a5, a6, a7, a8, a9, a10, a11, x12] := Blk.set h10 11 a11
  have h12 : Blk (((((((((((((W.setCell ⟨k, 0, none⟩ a0).setCell ⟨k, 1, none⟩ a1).setCell ⟨k, 2, none⟩ a2).setCell ⟨k, 3, none⟩ a3).setCell ⟨k, 4, none⟩ a4).setCell ⟨k, 5, none⟩ a5).setCell ⟨k, 6, none⟩ a6).setCell ⟨k, 7, none⟩ a7).setCell ⟨k, 8, none⟩ a8).setCell ⟨k, 9, none⟩ a9).setCell ⟨k, 10, none⟩ a10).setCell ⟨k, 11, none⟩ a11).setCell ⟨k, 12, none⟩ a12) k t [a0, a1, a2, a3, a4, a5, a6, a7, a8, a9, a10, a11, a12] := Blk.set h11 12 a12
  exact h12
theorem below13 {B k : Nat} {w W : World} (h : Below B w W) (hk : B ≤ k) (a0 a1 a2 a3 a4 a5 a6 a7 a8 a9 a10 a11 a12 : Value) : Below B w (((((((((((((W.setCell ⟨k, 0, none⟩ a0).setCell ⟨k, 1, none⟩ a1).setCell ⟨k, 2, none⟩ a2).setCell ⟨k, 3, none⟩ a3).setCell ⟨k, 4, none⟩ a4).setCell ⟨k, 5, none⟩ a5).setCell ⟨k, 6, none⟩ a6).setCell ⟨k, 7, none⟩ a7).setCell ⟨k, 8, none⟩ a8).setCell ⟨k, 9, none⟩ a9).setCell ⟨k, 10, none⟩ a10).setCell ⟨k, 11, none⟩ a11).setCell ⟨k, 12, none⟩ a12) :=
  (Below.setCell (Below.setCell (Below.setCell (Below.setCell (Below.setCell (Below.setCell (Below.setCell (Below.setCell (Below.setCell (Below.setCell (Below.setCell (Below.setCell (Below.setCell h (p := ⟨k, 0, none⟩) hk a0) (p := ⟨k, 1, none⟩) hk a1) (p := ⟨k, 2, none⟩) hk a2) (p := ⟨k, 3, none⟩) hk a3) (p := ⟨k, 4, none⟩) hk a4) (p := ⟨k, 5, none⟩) hk a5) (p := ⟨k, 6, none⟩) hk a6) (p := ⟨k, 7, none⟩) hk a7) (p := ⟨k, 8, none⟩) hk a8) (p := ⟨k, 9, none⟩) hk a9) (p := ⟨k, 10, none⟩) hk a10) (p := ⟨k, 11, none⟩) hk a11) (p := ⟨k, 12, none⟩) hk a12)
theorem cells13 {W : World} {k : Nat} {A : Option Addr} {xs : List Value} (h : Cells W A xs) (hne : ∀ b, A.map (·.block) = some b → b ≠ k) (a0 a1 a2 a3 a4 a5 a6 a7 a8 a9 a10 a11 a12 : Value) : Cells (((((((((((((W.setCell ⟨k, 0, none⟩ a0).setCell ⟨k, 1, none⟩ a1).setCell ⟨k, 2, none⟩ a2).setCell ⟨k, 3, none⟩ a3).setCell ⟨k, 4, none⟩ a4).setCell ⟨k, 5, none⟩ a5).setCell ⟨k, 6, none⟩ a6).setCell ⟨k, 7, none⟩ a7).setCell ⟨k, 8, none⟩ a8).setCell ⟨k, 9, none⟩ a9).setCell ⟨k, 10, none⟩ a10).setCell ⟨k, 11, none⟩ a11).setCell ⟨k, 12, none⟩ a12) A xs :=
  h.of_cell fun b off u hu hb => by
    have hc : ∀ (W' : World) (j : Nat) (v : Value), (W'.setCell ⟨k, j, none⟩ v).cell? ⟨b, off, none⟩ = W'.cell? ⟨b, off, none⟩ := fun W' j v => World.cell?_setCell_other _ _ _ _ (fun e => hne b hb (congrArg Addr.block e).symm)
    simp only [hc]
    exact hu
theorem list10 {l : List Nat} (h : l.length = 10) : ∃ a b c d e f g i j k, l = [a, b, c, d, e, f, g, i, j, k] := by
  match l, h with
  | [a, b, c, d, e, f, g, i, j, k], _ => exact ⟨a, b, c, d, e, f, g, i, j, k, rfl⟩
theorem res85 {W : World} {k : Nat} {cs : List Value} (hs : cs.length = 13) (h : Blk W k 100 cs) (tmps : Array Value) (ht : tmps.getD 2 undef = .pointer (some ⟨k, 0, none⟩)) :
    (results Try.f85 tmps).run Try.prog W = .ok (.tuple #[.agg cs.toArray, tmps.getD 3 undef]) W := by
  have ht' : tmps[2]?.getD undef = .pointer (some ⟨k, 0, none⟩) := by simpa using ht
  match cs, hs with
  | [a0, a1, a2, a3, a4, a5, a6, a7, a8, a9, a10, a11, a12], _ =>
    have c0 := h.cell (j := 0) rfl
    have c1 := h.cell (j := 1) rfl
    have c2 := h.cell (j := 2) rfl
    have c3 := h.cell (j := 3) rfl
    have c4 := h.cell (j := 4) rfl
    have c5 := h.cell (j := 5) rfl
    have c6 := h.cell (j := 6) rfl
    have c7 := h.cell (j := 7) rfl
    have c8 := h.cell (j := 8) rfl
    have c9 := h.cell (j := 9) rfl
    have c10 := h.cell (j := 10) rfl
    have c11 := h.cell (j := 11) rfl
    have c12 := h.cell (j := 12) rfl
    simp [results, Try.results85, go_sem, ht', c0, c1, c2, c3, c4, c5, c6, c7, c8, c9, c10, c11, c12]
def vbZero : Vb := ⟨0, 0, 0, 0, 0, [], [], 0, 0, 0, 0, 0, []⟩
/-- What Decode hands back. -/
def RetDecV (b : List UInt8) (w : World) (e : Ending) (w' : World) : Prop :=
  (∃ v A c, decV b = some v ∧ e = .returned (.tuple #[vval v A c, .int .i64 0]) ∧ Hid (Bytes w' A v.data ∧ v.data.length ≤ c ∧ Below w.heap.size w w')) ∨
  (decV b = none ∧ e = .returned (.tuple #[vval vbZero none 0, .int .i64 2]) ∧ Hid (Below w.heap.size w w'))
def rowP (k : Nat) : List Value := offsV.map fun o => .pointer (some ⟨k, o, none⟩)
/-- A request in the midst of being read: i numbers are in. -/
def Reads (w : World) (g : Nat) (B : Option Nat) (k6 k7 : Nat) (r : Rd) (i : Nat) (W : World) : Prop :=
  FormS W g B (rdNs i r).2.1 (rdNs i r).2.2 ∧ Blk W k6 100 (boxN (rdNs i r).1 [] [] (.slice none 0 0)) ∧ Blk W k7 202 (rowP k6) ∧ Below w.heap.size w W

set_option maxHeartbeats 4000000 in
set_option maxRecDepth 100000 in
theorem dec_full2 (B0 : Option Addr) (b : List UInt8) (c : Nat) (w : World) (hb : Bytes w B0 b) (hc : b.length ≤ c) (hl : b.length ≤ 150000000000000) :
    Calls Try.prog 85 #[.slice B0 b.length c] w (RetDecV b w) := by
  have HB0 := hid (body_any2 81 B0 b c (w.alloc (.cells (boxN [] [] [] (.slice none 0 0)).toArray 100)) (hb.alloc _) hc hl)
  obtain ⟨ok, hok⟩ : ∃ ok, (bodyT 81 b).2 = ok := ⟨_, rfl⟩
  obtain ⟨bd, hbd⟩ : ∃ bd, (bodyT 81 b).1 = bd := ⟨_, rfl⟩
  have HDV : Hid (decV b = if ok = true ∧ endE (readV (bd, false)).2.1 (readV (bd, false)).2.2 = 0 ∧ goodV (readV (bd, false)).1 = true then some (readV (bd, false)).1 else none) := hid (by rw [decV, hok, hbd])
  unfold RetBody at HB0
  rw [hok, hbd] at HB0
  clear hb hok hbd
  go_enter Try.func85, Try.ntmps85
  go_wp2_with fail
  refine HB0.out.mono ?_
  clear HB0
  rintro e w1 ⟨g, B, rfl, hf1, hg1, hB1, hb1⟩
  simp only [World.size_alloc] at hg1 hB1
  have hb01 : Below w.heap.size w w1 := ((Below.refl w.heap.size w).alloc (Nat.le_refl _) _).trans (hb1.mono (by simp))
  have hz1 := hb1.size
  simp only [World.size_alloc] at hz1
  have hglt := hf1.lt
  have H2 : Hid (Blk w1 w.heap.size 100 (boxN [] [] [] (.slice none 0 0))) := hid ((Blk.new w 100 _).below hb1)
  have H0 : Hid (Reads w g B w1.heap.size (w1.heap.size + 1) (bd, false) 0 ((w1.alloc (.cells (boxN [] [] [] (.slice none 0 0)).toArray 100)).alloc (.cells (rowP w1.heap.size).toArray 202))) := hid (by
    have hn := Blk.new (w1.alloc (.cells (boxN [] [] [] (.slice none 0 0)).toArray 100)) 202 (rowP w1.heap.size)
    rw [World.size_alloc] at hn
    exact ⟨(hf1.alloc _).alloc _, (Blk.new w1 100 _).alloc _, hn, (hb01.alloc hb01.size _).alloc (by simp; omega) _⟩)
  have H2' : Hid (Blk ((w1.alloc (.cells (boxN [] [] [] (.slice none 0 0)).toArray 100)).alloc (.cells (rowP w1.heap.size).toArray 202)) w.heap.size 100 (boxN [] [] [] (.slice none 0 0))) := hid ((H2.out.alloc _).alloc _)
  obtain ⟨k6, hk6⟩ : ∃ k6, k6 = w1.heap.size := ⟨_, rfl⟩
  have HB1 := hid hB1
  have hgk : g < k6 := by omega
  have hwg : w.heap.size + 1 ≤ g := hg1
  clear hb1 hf1 H2 hb01 hB1 hg1
  go_wp2_with fail
  rw [← hk6] at H0 H2' ⊢
  clear hk6 hz1 hglt
  go_loopw [29] (fun iv' wr => ∃ i : Nat, i ≤ 10 ∧ iv' = .int .i64 i ∧ Hid (Reads w g B k6 (k6 + 1) (bd, false) i wr ∧ Blk wr w.heap.size 100 (boxN [] [] [] (.slice none 0 0)))) (fun iv' _ => 10 - (intOf iv').toNat)
  case atStart => exact ⟨0, by omega, rfl, hid ⟨H0.out, H2'.out⟩⟩
  case round =>
    clear H0 H2'
    obtain ⟨i, hi, rfl, HR⟩ := hrel
    by_cases hlt : i < 10
    · obtain ⟨hf, hbx, hrw, hbw⟩ := HR.out.1
      have hcp : wr.cell? ⟨k6 + 1, i, none⟩ = some (.pointer (some ⟨k6, offsV.getD i 0, none⟩)) := hrw.cell (by
        have : offsV[i]? = some (offsV.getD i 0) := by simp [List.getD_eq_getElem?_getD, offsV, hlt]
        rw [rowP, List.getElem?_map, this]
        rfl)
      obtain ⟨o, ho⟩ : ∃ o, offsV.getD i 0 = o := ⟨_, rfl⟩
      rw [ho] at hcp
      have HF := hid (fnum_any g B _ _ wr hf)
      have hlen : (rdNs i (bd, false)).1.length = i := rdNs_len i _
      have HST := hid (rdNs_succ i (bd, false))
      have hii : (i : Int) < 10 := by omega
      have HN := hid (And.intro hlen ho)
      clear hf hbx hrw hbw hlen ho
      go_wp2_with fail
      refine HF.out.mono ?_
      rintro e w2 ⟨rfl, hf2, ht2⟩
      have hbx2 := HR.out.1.2.1.turn ht2 (by omega)
      obtain ⟨u, hu⟩ := boxN_get (rdNs i (bd, false)).1 [] [] (.slice none 0 0) hlt
      rw [HN.out.2] at hu
      have hcu := hbx2.cell hu
      have hfz := hbx2.free o
      have hnew : Reads w g B k6 (k6 + 1) (bd, false) (i + 1) (w2.setCell ⟨k6, o, none⟩ (.int .i64 ((rdN (rdNs i (bd, false)).2).1 : Nat))) := by
        obtain ⟨hf, hbx, hrw, hbw⟩ := HR.out.1
        unfold Reads
        rw [HST.out]
        refine ⟨hf2.turn (Turn.setCell k6 o w2 _) (by omega) (fun k hk => by have := HB1.out k hk; omega), ?_, (hrw.turn ht2 (by omega)).other (by omega), (hbw.trans (ht2.1.mono (by omega))).setCell (p := ⟨k6, o, none⟩) (by show w.heap.size ≤ k6; omega) _⟩
        have := hbx2.set o (.int .i64 ((rdN (rdNs i (bd, false)).2).1 : Nat))
        rw [← HN.out.2, boxN_snoc HN.out.1 hlt] at this
        rw [← HN.out.2]
        exact this
      have HNEW := hid (And.intro hnew ((HR.out.2.turn ht2 (by omega)).other (k' := k6) (j := o) (u := .int .i64 ((rdN (rdNs i (bd, false)).2).1 : Nat)) (by omega)))
      clear hnew hf2 ht2 HF HR hbx2 hu
      rw [show ((bigL (tOut (rdNs i (bd, false)).2.1 (rdNs i (bd, false)).2.2 4) : Nat) : Int) = ((rdN (rdNs i (bd, false)).2).1 : Nat) from rfl]
      go_wp2_with fail
      go_roundw
      case rel => exact ⟨i + 1, by omega, by go_num, HNEW⟩
      case measure => simp [intOf]; omega
    · have hk : i = 10 := by omega
      subst hk
      obtain ⟨⟨hf, hbx, -, hbw⟩, hres⟩ := HR.out
      obtain ⟨n0, n1, n2, n3, n4, n5, n6, n7, n8, n9, hn⟩ := list10 (rdNs_len 10 (bd, false))
      have HRV : Hid (readV (bd, false) = (vbOf (rdNs 10 (bd, false)).1 (rdT (rdNs 10 (bd, false)).2).1 (rdT (rdT (rdNs 10 (bd, false)).2).2).1 (rdT (rdT (rdT (rdNs 10 (bd, false)).2).2).2).1, (rdT (rdT (rdT (rdNs 10 (bd, false)).2).2).2).2)) := hid rfl
      obtain ⟨r1, hr1⟩ : ∃ r1, (rdNs 10 (bd, false)).2 = r1 := ⟨_, rfl⟩
      rw [hn, hr1] at HRV
      rw [hr1] at hf
      rw [hn] at hbx
      clear hn hr1 HR hlt hi
      have HT1 : Hid (Calls Try.prog 48 #[.pointer (some ⟨g, 0, none⟩)] wr (RetForm g B (.string (bstr (rdT r1).1)) (rdT r1).2.1 (rdT r1).2.2 wr)) := hid (ftext_any g B _ _ wr hf)
      have HX := hid hbx
      have HW := hid (And.intro hbw hres)
      clear hf hbx hbw hres
      obtain ⟨s1, hs1⟩ : ∃ s1, (rdT r1).1 = s1 := ⟨_, rfl⟩
      obtain ⟨r2, hr2⟩ : ∃ r2, (rdT r1).2 = r2 := ⟨_, rfl⟩
      rw [hs1, hr2] at HT1 HRV
      clear hs1 hr2
      go_wp2_with fail
      refine HT1.out.mono ?_
      clear HT1
      rintro e w2 ⟨rfl, hf2, ht2⟩
      have hx2 := HX.out.turn ht2 (by omega)
      have hc2 := hx2.cell (j := 5) rfl
      have hz2 := hx2.free 5
      have HX3 := hid (hx2.set 5 (.string (bstr s1)))
      have HW3 : Hid (Below w.heap.size w (w2.setCell ⟨k6, 5, none⟩ (.string (bstr s1))) ∧ Blk (w2.setCell ⟨k6, 5, none⟩ (.string (bstr s1))) w.heap.size 100 (boxN [] [] [] (.slice none 0 0))) := hid ⟨(HW.out.1.trans (ht2.1.mono (by omega))).setCell (p := ⟨k6, 5, none⟩) (by show w.heap.size ≤ k6; omega) _, (HW.out.2.turn ht2 (by omega)).other (by omega)⟩
      have HF3 := hid (hf2.turn (Turn.setCell k6 5 w2 (.string (bstr s1))) (by omega) (fun k hk => by have := HB1.out k hk; omega))
      clear hf2 ht2 HX HW hx2
      go_wp2_with fail
      clear hc2 hz2
      generalize w2.setCell ⟨k6, 5, none⟩ (.string (bstr s1)) = w3 at HX3 HW3 HF3 ⊢
      have HT2 : Hid (Calls Try.prog 48 #[.pointer (some ⟨g, 0, none⟩)] w3 (RetForm g B (.string (bstr (rdT r2).1)) (rdT r2).2.1 (rdT r2).2.2 w3)) := hid (ftext_any g B _ _ w3 HF3.out)
      obtain ⟨s2, hs2⟩ : ∃ s2, (rdT r2).1 = s2 := ⟨_, rfl⟩
      obtain ⟨r3, hr3⟩ : ∃ r3, (rdT r2).2 = r3 := ⟨_, rfl⟩
      rw [hs2, hr3] at HT2 HRV
      clear hs2 hr3 HF3
      refine HT2.out.mono ?_
      clear HT2
      rintro e w4 ⟨rfl, hf4, ht4⟩
      have hx4 := HX3.out.turn ht4 (by omega)
      have hc4 := hx4.cell (j := 6) rfl
      have hz4 := hx4.free 6
      have HX5 := hid (hx4.set 6 (.string (bstr s2)))
      have HW5 : Hid (Below w.heap.size w (w4.setCell ⟨k6, 6, none⟩ (.string (bstr s2))) ∧ Blk (w4.setCell ⟨k6, 6, none⟩ (.string (bstr s2))) w.heap.size 100 (boxN [] [] [] (.slice none 0 0))) := hid ⟨(HW3.out.1.trans (ht4.1.mono (by omega))).setCell (p := ⟨k6, 6, none⟩) (by show w.heap.size ≤ k6; omega) _, (HW3.out.2.turn ht4 (by omega)).other (by omega)⟩
      have HF5 := hid (hf4.turn (Turn.setCell k6 6 w4 (.string (bstr s2))) (by omega) (fun k hk => by have := HB1.out k hk; omega))
      clear hf4 ht4 HX3 HW3 hx4
      go_wp2_with fail
      clear hc4 hz4
      generalize w4.setCell ⟨k6, 6, none⟩ (.string (bstr s2)) = w5 at HX5 HW5 HF5 ⊢
      have HT3 : Hid (Calls Try.prog 48 #[.pointer (some ⟨g, 0, none⟩)] w5 (RetForm g B (.string (bstr (rdT r3).1)) (rdT r3).2.1 (rdT r3).2.2 w5)) := hid (ftext_any g B _ _ w5 HF5.out)
      obtain ⟨s3, hs3⟩ : ∃ s3, (rdT r3).1 = s3 := ⟨_, rfl⟩
      obtain ⟨r4, hr4⟩ : ∃ r4, (rdT r3).2 = r4 := ⟨_, rfl⟩
      rw [hs3, hr4] at HT3 HRV
      clear hs3 hr4 HF5
      refine HT3.out.mono ?_
      clear HT3
      rintro e w6 ⟨rfl, hf6, ht6⟩
      have HX6 := hid (HX5.out.turn ht6 (by omega))
      have HW6 := hid (And.intro (HW5.out.1.trans (ht6.1.mono (by omega))) (HW5.out.2.turn ht6 (by omega)))
      have HF6 := hid hf6
      clear hf6 ht6 HX5 HW5
      go_wp2_with fail
      refine (data_any s3 w6).mono ?_
      rintro e w7 ⟨A7, c7, m7, rfl, HR7⟩
      have hx7 := HX6.out.below HR7.out.2.2.2.1
      have hc7 := hx7.cell (j := 12) rfl
      have hz7 := hx7.free 12
      obtain rfl : m7 = s3 := HR7.out.1
      have HX8 := hid (hx7.set 12 (.slice A7 m7.length c7))
      have HW8 : Hid (Below w.heap.size w (w7.setCell ⟨k6, 12, none⟩ (.slice A7 m7.length c7)) ∧ Blk (w7.setCell ⟨k6, 12, none⟩ (.slice A7 m7.length c7)) w.heap.size 100 (boxN [] [] [] (.slice none 0 0))) := hid ⟨(below_t HW6.out.1 HR7.out.2.2.2.1 HW6.out.1.size).setCell (p := ⟨k6, 12, none⟩) (by show w.heap.size ≤ k6; omega) _, (HW6.out.2.below HR7.out.2.2.2.1).other (by omega)⟩
      have HF8 := hid ((HF6.out.below HR7.out.2.2.2.1).turn (Turn.setCell k6 12 w7 (.slice A7 m7.length c7)) (by omega) (fun k hk => by have := HB1.out k hk; omega))
      have HD8 : Hid (Bytes (w7.setCell ⟨k6, 12, none⟩ (.slice A7 m7.length c7)) A7 m7 ∧ m7.length ≤ c7 ∧ ∀ k, A7.map (·.block) = some k → k6 < k) := hid ⟨(Turn.setCell k6 12 w7 _).cells HR7.out.2.1 (fun k hk => by have := HR7.out.2.2.2.2 k hk; have := HX6.out.lt; omega), HR7.out.2.2.1, fun k hk => by have := HR7.out.2.2.2.2 k hk; have := HX6.out.lt; omega⟩
      clear HR7 hx7 HX6 HW6 HF6
      cases ok with
      | false =>
        have HNO : Hid (decV b = none) := hid (by rw [HDV.out, if_neg (by simp)])
        go_upto_if 59 with fail
        clear hc7 hz7
        generalize w7.setCell ⟨k6, 12, none⟩ (.slice A7 m7.length c7) = w8 at HX8 HW8 HF8 HD8 ⊢
        have z0 : w8.cell? ⟨w.heap.size, 0, none⟩ = some (.int .i64 0) := HW8.out.2.cell (j := 0) rfl
        have z1 : w8.cell? ⟨w.heap.size, 1, none⟩ = some (.int .i64 0) := HW8.out.2.cell (j := 1) rfl
        have z2 : w8.cell? ⟨w.heap.size, 2, none⟩ = some (.int .i64 0) := HW8.out.2.cell (j := 2) rfl
        have z3 : w8.cell? ⟨w.heap.size, 3, none⟩ = some (.int .i64 0) := HW8.out.2.cell (j := 3) rfl
        have z4 : w8.cell? ⟨w.heap.size, 4, none⟩ = some (.int .i64 0) := HW8.out.2.cell (j := 4) rfl
        have z5 : w8.cell? ⟨w.heap.size, 5, none⟩ = some (.string ⟨#[]⟩) := HW8.out.2.cell (j := 5) rfl
        have z6 : w8.cell? ⟨w.heap.size, 6, none⟩ = some (.string ⟨#[]⟩) := HW8.out.2.cell (j := 6) rfl
        have z7 : w8.cell? ⟨w.heap.size, 7, none⟩ = some (.int .i64 0) := HW8.out.2.cell (j := 7) rfl
        have z8 : w8.cell? ⟨w.heap.size, 8, none⟩ = some (.int .i64 0) := HW8.out.2.cell (j := 8) rfl
        have z9 : w8.cell? ⟨w.heap.size, 9, none⟩ = some (.int .i64 0) := HW8.out.2.cell (j := 9) rfl
        have z10 : w8.cell? ⟨w.heap.size, 10, none⟩ = some (.int .i64 0) := HW8.out.2.cell (j := 10) rfl
        have z11 : w8.cell? ⟨w.heap.size, 11, none⟩ = some (.int .i64 0) := HW8.out.2.cell (j := 11) rfl
        have z12 : w8.cell? ⟨w.heap.size, 12, none⟩ = some (.slice none 0 0) := HW8.out.2.cell (j := 12) rfl
        have zf := HW8.out.2.free
        go_wp2_with fail
        refine bodyPost_ret (res85 (k := w.heap.size) (cs := vcells vbZero none 0) rfl (HW8.out.2.set13 _ _ _ _ _ _ _ _ _ _ _ _ _) _ rfl) rfl (.inr ⟨HNO.out, rfl, hid (below13 HW8.out.1 (Nat.le_refl _) _ _ _ _ _ _ _ _ _ _ _ _ _)⟩)
      | true =>
        go_wp2_with fail
        clear hc7 hz7
        generalize w7.setCell ⟨k6, 12, none⟩ (.slice A7 m7.length c7) = w8 at HX8 HW8 HF8 HD8 ⊢
        refine (fend_any g B _ _ w8 HF8.out).mono ?_
        rintro e w9 ⟨rfl, hw9⟩
        rw [hw9]
        clear hw9 w9
        by_cases hen : endE r4.1 r4.2 = 0
        · rw [hen]
          have HEN := hid hen
          clear hen
          have HGC := hid (fun W => vgood_any (vbOf [n0, n1, n2, n3, n4, n5, n6, n7, n8, n9] s1 s2 m7) A7 c7 W)
          obtain ⟨gv, hgv⟩ : ∃ gv, goodV (vbOf [n0, n1, n2, n3, n4, n5, n6, n7, n8, n9] s1 s2 m7) = gv := ⟨_, rfl⟩
          rw [hgv] at HGC
          have HGV := hid hgv
          clear hgv
          have d0 : w8.cell? ⟨k6, 0, none⟩ = some (.int .i64 (n0 : Int)) := HX8.out.cell (j := 0) rfl
          have d1 : w8.cell? ⟨k6, 1, none⟩ = some (.int .i64 (n1 : Int)) := HX8.out.cell (j := 1) rfl
          have d2 : w8.cell? ⟨k6, 2, none⟩ = some (.int .i64 (n2 : Int)) := HX8.out.cell (j := 2) rfl
          have d3 : w8.cell? ⟨k6, 3, none⟩ = some (.int .i64 (n3 : Int)) := HX8.out.cell (j := 3) rfl
          have d4 : w8.cell? ⟨k6, 4, none⟩ = some (.int .i64 (n4 : Int)) := HX8.out.cell (j := 4) rfl
          have d5 : w8.cell? ⟨k6, 5, none⟩ = some (.string (bstr s1)) := HX8.out.cell (j := 5) rfl
          have d6 : w8.cell? ⟨k6, 6, none⟩ = some (.string (bstr s2)) := HX8.out.cell (j := 6) rfl
          have d7 : w8.cell? ⟨k6, 7, none⟩ = some (.int .i64 (n5 : Int)) := HX8.out.cell (j := 7) rfl
          have d8 : w8.cell? ⟨k6, 8, none⟩ = some (.int .i64 (n6 : Int)) := HX8.out.cell (j := 8) rfl
          have d9 : w8.cell? ⟨k6, 9, none⟩ = some (.int .i64 (n7 : Int)) := HX8.out.cell (j := 9) rfl
          have d10 : w8.cell? ⟨k6, 10, none⟩ = some (.int .i64 (n8 : Int)) := HX8.out.cell (j := 10) rfl
          have d11 : w8.cell? ⟨k6, 11, none⟩ = some (.int .i64 (n9 : Int)) := HX8.out.cell (j := 11) rfl
          have d12 : w8.cell? ⟨k6, 12, none⟩ = some (.slice A7 m7.length c7) := HX8.out.cell (j := 12) rfl
          go_wp2_with fail
          refine (HGC.out _).mono ?_
          clear HGC d0 d1 d2 d3 d4 d5 d6 d7 d8 d9 d10 d11 d12
          rintro e w9 ⟨rfl, hb9⟩
          have HX9 := hid (HX8.out.below hb9)
          have HW9 := hid (And.intro (below_t HW8.out.1 hb9 HW8.out.1.size) (HW8.out.2.below hb9))
          have HD9 := hid (And.intro (HD8.out.1.below hb9 (Nat.le_refl _)) HD8.out.2)
          clear hb9 HX8 HW8 HD8 HF8
          cases gv with
          | false =>
            have HNO : Hid (decV b = none) := hid (by rw [HDV.out, HRV.out, if_neg (by rw [HGV.out]; simp)])
            have z0 : w9.cell? ⟨w.heap.size, 0, none⟩ = some (.int .i64 0) := HW9.out.2.cell (j := 0) rfl
            have z1 : w9.cell? ⟨w.heap.size, 1, none⟩ = some (.int .i64 0) := HW9.out.2.cell (j := 1) rfl
            have z2 : w9.cell? ⟨w.heap.size, 2, none⟩ = some (.int .i64 0) := HW9.out.2.cell (j := 2) rfl
            have z3 : w9.cell? ⟨w.heap.size, 3, none⟩ = some (.int .i64 0) := HW9.out.2.cell (j := 3) rfl
            have z4 : w9.cell? ⟨w.heap.size, 4, none⟩ = some (.int .i64 0) := HW9.out.2.cell (j := 4) rfl
            have z5 : w9.cell? ⟨w.heap.size, 5, none⟩ = some (.string ⟨#[]⟩) := HW9.out.2.cell (j := 5) rfl
            have z6 : w9.cell? ⟨w.heap.size, 6, none⟩ = some (.string ⟨#[]⟩) := HW9.out.2.cell (j := 6) rfl
            have z7 : w9.cell? ⟨w.heap.size, 7, none⟩ = some (.int .i64 0) := HW9.out.2.cell (j := 7) rfl
            have z8 : w9.cell? ⟨w.heap.size, 8, none⟩ = some (.int .i64 0) := HW9.out.2.cell (j := 8) rfl
            have z9 : w9.cell? ⟨w.heap.size, 9, none⟩ = some (.int .i64 0) := HW9.out.2.cell (j := 9) rfl
            have z10 : w9.cell? ⟨w.heap.size, 10, none⟩ = some (.int .i64 0) := HW9.out.2.cell (j := 10) rfl
            have z11 : w9.cell? ⟨w.heap.size, 11, none⟩ = some (.int .i64 0) := HW9.out.2.cell (j := 11) rfl
            have z12 : w9.cell? ⟨w.heap.size, 12, none⟩ = some (.slice none 0 0) := HW9.out.2.cell (j := 12) rfl
            have zf := HW9.out.2.free
            go_wp2_with fail
            refine bodyPost_ret (res85 (k := w.heap.size) (cs := vcells vbZero none 0) rfl (HW9.out.2.set13 _ _ _ _ _ _ _ _ _ _ _ _ _) _ rfl) rfl (.inr ⟨HNO.out, rfl, hid (below13 HW9.out.1 (Nat.le_refl _) _ _ _ _ _ _ _ _ _ _ _ _ _)⟩)
          | true =>
            have HYES : Hid (decV b = some (vbOf [n0, n1, n2, n3, n4, n5, n6, n7, n8, n9] s1 s2 m7)) := hid (by rw [HDV.out, HRV.out, if_pos ⟨by first | exact True.intro | rfl, HEN.out, HGV.out⟩])
            have d0 : w9.cell? ⟨k6, 0, none⟩ = some (.int .i64 (n0 : Int)) := HX9.out.cell (j := 0) rfl
            have d1 : w9.cell? ⟨k6, 1, none⟩ = some (.int .i64 (n1 : Int)) := HX9.out.cell (j := 1) rfl
            have d2 : w9.cell? ⟨k6, 2, none⟩ = some (.int .i64 (n2 : Int)) := HX9.out.cell (j := 2) rfl
            have d3 : w9.cell? ⟨k6, 3, none⟩ = some (.int .i64 (n3 : Int)) := HX9.out.cell (j := 3) rfl
            have d4 : w9.cell? ⟨k6, 4, none⟩ = some (.int .i64 (n4 : Int)) := HX9.out.cell (j := 4) rfl
            have d5 : w9.cell? ⟨k6, 5, none⟩ = some (.string (bstr s1)) := HX9.out.cell (j := 5) rfl
            have d6 : w9.cell? ⟨k6, 6, none⟩ = some (.string (bstr s2)) := HX9.out.cell (j := 6) rfl
            have d7 : w9.cell? ⟨k6, 7, none⟩ = some (.int .i64 (n5 : Int)) := HX9.out.cell (j := 7) rfl
            have d8 : w9.cell? ⟨k6, 8, none⟩ = some (.int .i64 (n6 : Int)) := HX9.out.cell (j := 8) rfl
            have d9 : w9.cell? ⟨k6, 9, none⟩ = some (.int .i64 (n7 : Int)) := HX9.out.cell (j := 9) rfl
            have d10 : w9.cell? ⟨k6, 10, none⟩ = some (.int .i64 (n8 : Int)) := HX9.out.cell (j := 10) rfl
            have d11 : w9.cell? ⟨k6, 11, none⟩ = some (.int .i64 (n9 : Int)) := HX9.out.cell (j := 11) rfl
            have d12 : w9.cell? ⟨k6, 12, none⟩ = some (.slice A7 m7.length c7) := HX9.out.cell (j := 12) rfl
            have z0 : w9.cell? ⟨w.heap.size, 0, none⟩ = some (.int .i64 0) := HW9.out.2.cell (j := 0) rfl
            have z1 : w9.cell? ⟨w.heap.size, 1, none⟩ = some (.int .i64 0) := HW9.out.2.cell (j := 1) rfl
            have z2 : w9.cell? ⟨w.heap.size, 2, none⟩ = some (.int .i64 0) := HW9.out.2.cell (j := 2) rfl
            have z3 : w9.cell? ⟨w.heap.size, 3, none⟩ = some (.int .i64 0) := HW9.out.2.cell (j := 3) rfl
            have z4 : w9.cell? ⟨w.heap.size, 4, none⟩ = some (.int .i64 0) := HW9.out.2.cell (j := 4) rfl
            have z5 : w9.cell? ⟨w.heap.size, 5, none⟩ = some (.string ⟨#[]⟩) := HW9.out.2.cell (j := 5) rfl
            have z6 : w9.cell? ⟨w.heap.size, 6, none⟩ = some (.string ⟨#[]⟩) := HW9.out.2.cell (j := 6) rfl
            have z7 : w9.cell? ⟨w.heap.size, 7, none⟩ = some (.int .i64 0) := HW9.out.2.cell (j := 7) rfl
            have z8 : w9.cell? ⟨w.heap.size, 8, none⟩ = some (.int .i64 0) := HW9.out.2.cell (j := 8) rfl
            have z9 : w9.cell? ⟨w.heap.size, 9, none⟩ = some (.int .i64 0) := HW9.out.2.cell (j := 9) rfl
            have z10 : w9.cell? ⟨w.heap.size, 10, none⟩ = some (.int .i64 0) := HW9.out.2.cell (j := 10) rfl
            have z11 : w9.cell? ⟨w.heap.size, 11, none⟩ = some (.int .i64 0) := HW9.out.2.cell (j := 11) rfl
            have z12 : w9.cell? ⟨w.heap.size, 12, none⟩ = some (.slice none 0 0) := HW9.out.2.cell (j := 12) rfl
            have zf := HW9.out.2.free
            go_wp2_with fail
            refine bodyPost_ret (res85 (k := w.heap.size) (cs := vcells (vbOf [n0, n1, n2, n3, n4, n5, n6, n7, n8, n9] s1 s2 m7) A7 c7) rfl (HW9.out.2.set13 _ _ _ _ _ _ _ _ _ _ _ _ _) _ rfl) rfl (.inl ⟨_, A7, c7, HYES.out, rfl, hid ⟨cells13 HD9.out.1 (fun k hk => by have := HD9.out.2.2 k hk; omega) _ _ _ _ _ _ _ _ _ _ _ _ _, HD9.out.2.1, below13 HW9.out.1 (Nat.le_refl _) _ _ _ _ _ _ _ _ _ _ _ _ _⟩⟩)
        · have hne : (((endE r4.1 r4.2 : Nat) : Int) != 0) = true := by rw [bne_iff_ne]; omega
          have HNO : Hid (decV b = none) := hid (by rw [HDV.out, HRV.out, if_neg (by intro h; exact hen h.2.1)])
          clear hen
          have z0 : w8.cell? ⟨w.heap.size, 0, none⟩ = some (.int .i64 0) := HW8.out.2.cell (j := 0) rfl
          have z1 : w8.cell? ⟨w.heap.size, 1, none⟩ = some (.int .i64 0) := HW8.out.2.cell (j := 1) rfl
          have z2 : w8.cell? ⟨w.heap.size, 2, none⟩ = some (.int .i64 0) := HW8.out.2.cell (j := 2) rfl
          have z3 : w8.cell? ⟨w.heap.size, 3, none⟩ = some (.int .i64 0) := HW8.out.2.cell (j := 3) rfl
          have z4 : w8.cell? ⟨w.heap.size, 4, none⟩ = some (.int .i64 0) := HW8.out.2.cell (j := 4) rfl
          have z5 : w8.cell? ⟨w.heap.size, 5, none⟩ = some (.string ⟨#[]⟩) := HW8.out.2.cell (j := 5) rfl
          have z6 : w8.cell? ⟨w.heap.size, 6, none⟩ = some (.string ⟨#[]⟩) := HW8.out.2.cell (j := 6) rfl
          have z7 : w8.cell? ⟨w.heap.size, 7, none⟩ = some (.int .i64 0) := HW8.out.2.cell (j := 7) rfl
          have z8 : w8.cell? ⟨w.heap.size, 8, none⟩ = some (.int .i64 0) := HW8.out.2.cell (j := 8) rfl
          have z9 : w8.cell? ⟨w.heap.size, 9, none⟩ = some (.int .i64 0) := HW8.out.2.cell (j := 9) rfl
          have z10 : w8.cell? ⟨w.heap.size, 10, none⟩ = some (.int .i64 0) := HW8.out.2.cell (j := 10) rfl
          have z11 : w8.cell? ⟨w.heap.size, 11, none⟩ = some (.int .i64 0) := HW8.out.2.cell (j := 11) rfl
          have z12 : w8.cell? ⟨w.heap.size, 12, none⟩ = some (.slice none 0 0) := HW8.out.2.cell (j := 12) rfl
          have zf := HW8.out.2.free
          go_wp2_with fail
          refine bodyPost_ret (res85 (k := w.heap.size) (cs := vcells vbZero none 0) rfl (HW8.out.2.set13 _ _ _ _ _ _ _ _ _ _ _ _ _) _ rfl) rfl (.inr ⟨HNO.out, rfl, hid (below13 HW8.out.1 (Nat.le_refl _) _ _ _ _ _ _ _ _ _ _ _ _ _)⟩)
theorem dec_full (B0 : Option Addr) (b : List UInt8) (c : Nat) (w : World) (hb : Bytes w B0 b) (hc : b.length ≤ c) (hl : b.length ≤ 140737488351232) :
    Calls Try.prog 85 #[.slice B0 b.length c] w (RetDecV b w) := dec_full2 B0 b c w hb hc (by omega)
end Go.Proofs.Ytppbcdcmpcagdaa
