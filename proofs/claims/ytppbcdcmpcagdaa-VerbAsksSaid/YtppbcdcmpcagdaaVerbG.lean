/- Contracts of package verb: what a reply's readers share. -/
import Derived.Test.YtppbcdcmpcagdaaVerbF
import Derived.Deep.Cut
import Derived.Deep.RegionHeld
namespace Go.Proofs.Ytppbcdcmpcagdaa
open Go.RowKit Go.CP

/-- The cells of a reply in the midst of being read. -/
def boxR (n : List Nat) (D S : Value) : List Value :=
  [.int .i64 (n.getD 0 0 : Nat), .int .i64 (n.getD 1 0 : Nat), .int .i64 (n.getD 2 0 : Nat), .int .i64 (n.getD 3 0 : Nat), .int .i64 (n.getD 4 0 : Nat), .int .i64 (n.getD 5 0 : Nat), .int .i64 (n.getD 6 0 : Nat), .int .i64 (n.getD 7 0 : Nat), .int .i64 (n.getD 8 0 : Nat), .int .i64 (n.getD 9 0 : Nat), D, S]
theorem boxR_snoc {n : List Nat} {D S : Value} {i : Nat} (hn : n.length = i) (hi : i < 10) (x : Nat) : (boxR n D S).set i (.int .i64 (x : Nat)) = boxR (n ++ [x]) D S := by
  have h : i = 0 ∨ i = 1 ∨ i = 2 ∨ i = 3 ∨ i = 4 ∨ i = 5 ∨ i = 6 ∨ i = 7 ∨ i = 8 ∨ i = 9 := by omega
  rcases h with rfl | rfl | rfl | rfl | rfl | rfl | rfl | rfl | rfl | rfl
  · match n, hn with
    | [], _ => rfl
  · match n, hn with
    | [b0], _ => rfl
  · match n, hn with
    | [b0, b1], _ => rfl
  · match n, hn with
    | [b0, b1, b2], _ => rfl
  · match n, hn with
    | [b0, b1, b2, b3], _ => rfl
  · match n, hn with
    | [b0, b1, b2, b3, b4], _ => rfl
  · match n, hn with
    | [b0, b1, b2, b3, b4, b5], _ => rfl
  · match n, hn with
    | [b0, b1, b2, b3, b4, b5, b6], _ => rfl
  · match n, hn with
    | [b0, b1, b2, b3, b4, b5, b6, b7], _ => rfl
  · match n, hn with
    | [b0, b1, b2, b3, b4, b5, b6, b7, b8], _ => rfl
theorem boxR_get (n : List Nat) (D S : Value) {i : Nat} (hi : i < 10) : ∃ u, (boxR n D S)[i]? = some u := by
  have h : i = 0 ∨ i = 1 ∨ i = 2 ∨ i = 3 ∨ i = 4 ∨ i = 5 ∨ i = 6 ∨ i = 7 ∨ i = 8 ∨ i = 9 := by omega
  rcases h with rfl | rfl | rfl | rfl | rfl | rfl | rfl | rfl | rfl | rfl <;> exact ⟨_, rfl⟩
theorem Blk.set12 {W : World} {k : Nat} {t : TypeId} {x0 x1 x2 x3 x4 x5 x6 x7 x8 x9 x10 x11 : Value} (h : Blk W k t [x0, x1, x2, x3, x4, x5, x6, x7, x8, x9, x10, x11]) (a0 a1 a2 a3 a4 a5 a6 a7 a8 a9 a10 a11 : Value) : Blk ((((((((((((W.setCell ⟨k, 0, none⟩ a0).setCell ⟨k, 1, none⟩ a1).setCell ⟨k, 2, none⟩ a2).setCell ⟨k, 3, none⟩ a3).setCell ⟨k, 4, none⟩ a4).setCell ⟨k, 5, none⟩ a5).setCell ⟨k, 6, none⟩ a6).setCell ⟨k, 7, none⟩ a7).setCell ⟨k, 8, none⟩ a8).setCell ⟨k, 9, none⟩ a9).setCell ⟨k, 10, none⟩ a10).setCell ⟨k, 11, none⟩ a11) k t [a0, a1, a2, a3, a4, a5, a6, a7, a8, a9, a10, a11] := by
  have h0 : Blk (W.setCell ⟨k, 0, none⟩ a0) k t [a0, x1, x2, x3, x4, x5, x6, x7, x8, x9, x10, x11] := Blk.set h 0 a0
  have h1 : Blk ((W.setCell ⟨k, 0, none⟩ a0).setCell ⟨k, 1, none⟩ a1) k t [a0, a1, x2, x3, x4, x5, x6, x7, x8, x9, x10, x11] := Blk.set h0 1 a1
  have h2 : Blk (((W.setCell ⟨k, 0, none⟩ a0).setCell ⟨k, 1, none⟩ a1).setCell ⟨k, 2, none⟩ a2) k t [a0, a1, a2, x3, x4, x5, x6, x7, x8, x9, x10, x11] := Blk.set h1 2 a2
  have h3 : Blk ((((W.setCell ⟨k, 0, none⟩ a0).setCell ⟨k, 1, none⟩ a1).setCell ⟨k, 2, none⟩ a2).setCell ⟨k, 3, none⟩ a3) k t [a0, a1, a2, a3, x4, x5, x6, x7, x8, x9, x10, x11] := Blk.set h2 3 a3
  have h4 : Blk (((((W.setCell ⟨k, 0, none⟩ a0).setCell ⟨k, 1, none⟩ a1).setCell ⟨k, 2, none⟩ a2).setCell ⟨k, 3, none⟩ a3).setCell ⟨k, 4, none⟩ a4) k t [a0, a1, a2, a3, a4, x5, x6, x7, x8, x9, x10, x11] := Blk.set h3 4 a4
  have h5 : Blk ((((((W.setCell ⟨k, 0, none⟩ a0).setCell ⟨k, 1, none⟩ a1).setCell ⟨k, 2, none⟩ a2).setCell ⟨k, 3, none⟩ a3).setCell ⟨k, 4, none⟩ a4).setCell ⟨k, 5, none⟩ a5) k t [a0, a1, a2, a3, a4, a5, x6, x7, x8, x9, x10, x11] := Blk.set h4 5 a5
  have h6 : Blk (((((((W.setCell ⟨k, 0, none⟩ a0).setCell ⟨k, 1, none⟩ a1).setCell ⟨k, 2, none⟩ a2).setCell ⟨k, 3, none⟩ a3).setCell ⟨k, 4, none⟩ a4).setCell ⟨k, 5, none⟩ a5).setCell ⟨k, 6, none⟩ a6) k t [a0, a1, a2, a3, a4, a5, a6, x7, x8, x9, x10, x11] := Blk.set h5 6 a6
  have h7 : Blk ((((((((W.setCell ⟨k, 0, none⟩ a0).setCell ⟨k, 1, none⟩ a1).setCell ⟨k, 2, none⟩ a2).setCell ⟨k, 3, none⟩ a3).setCell ⟨k, 4, none⟩ a4).setCell ⟨k, 5, none⟩ a5).setCell ⟨k, 6, none⟩ a6).setCell ⟨k, 7, none⟩ a7) k t [a0, a1, a2, a3, a4, a5, a6, a7, x8, x9, x10, x11] := Blk.set h6 7 a7
  have h8 : Blk (((((((((W.setCell ⟨k, 0, none⟩ a0).setCell ⟨k, 1, none⟩ a1).setCell ⟨k, 2, none⟩ a2).setCell ⟨k, 3, none⟩ a3).setCell ⟨k, 4, none⟩ a4).setCell ⟨k, 5, none⟩ a5).setCell ⟨k, 6, none⟩ a6).setCell ⟨k, 7, none⟩ a7).setCell ⟨k, 8, none⟩ a8) k t [a0, a1, a2, a3, a4, a5, a6, a7, a8, x9, x10, x11] := Blk.set h7 8 a8
  have h9 : Blk ((((((((((W.setCell ⟨k, 0, none⟩ a0).setCell ⟨k, 1, none⟩ a1).setCell ⟨k, 2, none⟩ a2).setCell ⟨k, 3, none⟩ a3).setCell ⟨k, 4, none⟩ a4).setCell ⟨k, 5, none⟩ a5).setCell ⟨k, 6, none⟩ a6).setCell ⟨k, 7, none⟩ a7).setCell ⟨k, 8, none⟩ a8).setCell ⟨k, 9, none⟩ a9) k t [a0, a1, a2, a3, a4, a5, a6, a7, a8, a9, x10, x11] := Blk.set h8 9 a9
  have h10 : Blk (((((((((((W.setCell ⟨k, 0, none⟩ a0).setCell ⟨k, 1, none⟩ a1).setCell ⟨k, 2, none⟩ a2).setCell ⟨k, 3, none⟩ a3).setCell ⟨k, 4, none⟩ a4).setCell ⟨k, 5, none⟩ a5).setCell ⟨k, 6, none⟩ a6).setCell ⟨k, 7, none⟩ a7).setCell ⟨k, 8, none⟩ a8).setCell ⟨k, 9, none⟩ a9).setCell ⟨k, 10, none⟩ a10) k t [a0, a1, a2, a3, a4, a5, a6, a7, a8, a9, a10, x11] := Blk.set h9 10 a10
  have h11 : Blk ((((((((((((W.setCell ⟨k, 0, none⟩ a0).setCell ⟨k, 1, none⟩ a1).setCell ⟨k, 2, none⟩ a2).setCell ⟨k, 3, none⟩ a3).setCell ⟨k, 4, none⟩ a4).setCell ⟨k, 5, none⟩ a5).setCell ⟨k, 6, none⟩ a6).setCell ⟨k, 7, none⟩ a7).setCell ⟨k, 8, none⟩ a8).setCell ⟨k, 9, none⟩ a9).setCell ⟨k, 10, none⟩ a10).setCell ⟨k, 11, none⟩ a11) k t [a0, a1, a2, a3, a4, a5, a6, a7, a8, a9, a10, a11] := Blk.set h10 11 a11
  exact h11
theorem below12 {B k : Nat} {w W : World} (h : Below B w W) (hk : B ≤ k) (a0 a1 a2 a3 a4 a5 a6 a7 a8 a9 a10 a11 : Value) : Below B w ((((((((((((W.setCell ⟨k, 0, none⟩ a0).setCell ⟨k, 1, none⟩ a1).setCell ⟨k, 2, none⟩ a2).setCell ⟨k, 3, none⟩ a3).setCell ⟨k, 4, none⟩ a4).setCell ⟨k, 5, none⟩ a5).setCell ⟨k, 6, none⟩ a6).setCell ⟨k, 7, none⟩ a7).setCell ⟨k, 8, none⟩ a8).setCell ⟨k, 9, none⟩ a9).setCell ⟨k, 10, none⟩ a10).setCell ⟨k, 11, none⟩ a11) :=
  (Below.setCell (Below.setCell (Below.setCell (Below.setCell (Below.setCell (Below.setCell (Below.setCell (Below.setCell (Below.setCell (Below.setCell (Below.setCell (Below.setCell h (p := ⟨k, 0, none⟩) hk a0) (p := ⟨k, 1, none⟩) hk a1) (p := ⟨k, 2, none⟩) hk a2) (p := ⟨k, 3, none⟩) hk a3) (p := ⟨k, 4, none⟩) hk a4) (p := ⟨k, 5, none⟩) hk a5) (p := ⟨k, 6, none⟩) hk a6) (p := ⟨k, 7, none⟩) hk a7) (p := ⟨k, 8, none⟩) hk a8) (p := ⟨k, 9, none⟩) hk a9) (p := ⟨k, 10, none⟩) hk a10) (p := ⟨k, 11, none⟩) hk a11)
theorem cells12 {W : World} {k : Nat} {A : Option Addr} {xs : List Value} (h : Cells W A xs) (hne : ∀ b, A.map (·.block) = some b → b ≠ k) (a0 a1 a2 a3 a4 a5 a6 a7 a8 a9 a10 a11 : Value) : Cells ((((((((((((W.setCell ⟨k, 0, none⟩ a0).setCell ⟨k, 1, none⟩ a1).setCell ⟨k, 2, none⟩ a2).setCell ⟨k, 3, none⟩ a3).setCell ⟨k, 4, none⟩ a4).setCell ⟨k, 5, none⟩ a5).setCell ⟨k, 6, none⟩ a6).setCell ⟨k, 7, none⟩ a7).setCell ⟨k, 8, none⟩ a8).setCell ⟨k, 9, none⟩ a9).setCell ⟨k, 10, none⟩ a10).setCell ⟨k, 11, none⟩ a11) A xs :=
  h.of_cell fun b off u hu hb => by
    have hc : ∀ (W' : World) (j : Nat) (v : Value), (W'.setCell ⟨k, j, none⟩ v).cell? ⟨b, off, none⟩ = W'.cell? ⟨b, off, none⟩ := fun W' j v => World.cell?_setCell_other _ _ _ _ (fun e => hne b hb (congrArg Addr.block e).symm)
    simp only [hc]
    exact hu
theorem res89 {W : World} {k : Nat} {cs : List Value} (hs : cs.length = 12) (h : Blk W k 112 cs) (tmps : Array Value) (ht : tmps.getD 2 undef = .pointer (some ⟨k, 0, none⟩)) :
    (results Try.f89 tmps).run Try.prog W = .ok (.tuple #[.agg cs.toArray, tmps.getD 3 undef]) W := by
  have ht' : tmps[2]?.getD undef = .pointer (some ⟨k, 0, none⟩) := by simpa using ht
  match cs, hs with
  | [a0, a1, a2, a3, a4, a5, a6, a7, a8, a9, a10, a11], _ =>
    have c0 := h.cell (j := 0) rfl
    have c1 := h.cell (j := 1) rfl
    have c2 := h.cell (j := 2) rfl
    have c3 := h.cell (j := 3) rfl
    have c4 := h.cell (j := 4) rfl
    have c5 := h.cell (j := 5) rfl
    have c6 := h.cell (j := 6) rfl
    have c7 := h.cell (j := 7) rfl
    have c8 := h.cell (j := 8) rfl
    have c9 := h.cell (j := 9) rfl
    have c10 := h.cell (j := 10) rfl
    have c11 := h.cell (j := 11) rfl
    simp [results, Try.results89, go_sem, ht', c0, c1, c2, c3, c4, c5, c6, c7, c8, c9, c10, c11]
theorem res97 {W : World} {k : Nat} {cs : List Value} (hs : cs.length = 12) (h : Blk W k 112 cs) (tmps : Array Value) (ht : tmps.getD 2 undef = .pointer (some ⟨k, 0, none⟩)) :
    (results Try.f97 tmps).run Try.prog W = .ok (.tuple #[.agg cs.toArray, tmps.getD 3 undef]) W := by
  have ht' : tmps[2]?.getD undef = .pointer (some ⟨k, 0, none⟩) := by simpa using ht
  match cs, hs with
  | [a0, a1, a2, a3, a4, a5, a6, a7, a8, a9, a10, a11], _ =>
    have c0 := h.cell (j := 0) rfl
    have c1 := h.cell (j := 1) rfl
    have c2 := h.cell (j := 2) rfl
    have c3 := h.cell (j := 3) rfl
    have c4 := h.cell (j := 4) rfl
    have c5 := h.cell (j := 5) rfl
    have c6 := h.cell (j := 6) rfl
    have c7 := h.cell (j := 7) rfl
    have c8 := h.cell (j := 8) rfl
    have c9 := h.cell (j := 9) rfl
    have c10 := h.cell (j := 10) rfl
    have c11 := h.cell (j := 11) rfl
    simp [results, Try.results97, go_sem, ht', c0, c1, c2, c3, c4, c5, c6, c7, c8, c9, c10, c11]
def nilV : Value := .slice none 0 0
/-- A reply in the midst of being read: i numbers are in, behind others. -/
def ReadsR (w : World) (g : Nat) (B : Option Nat) (k6 : Nat) (pre : List Nat) (r : Rd) (i : Nat) (W : World) : Prop :=
  FormS W g B (rdNs i r).2.1 (rdNs i r).2.2 ∧ Blk W k6 112 (boxR (pre ++ (rdNs i r).1) (.slice none 0 0) (.slice none 0 0)) ∧ Blk W w.heap.size 112 (boxR [] (.slice none 0 0) (.slice none 0 0)) ∧ Below w.heap.size w W
/-- Where the Form and the box lie. -/
def Lies (w : World) (g : Nat) (B : Option Nat) (k6 : Nat) : Prop := w.heap.size + 1 ≤ g ∧ g < k6 ∧ ∀ k, B = some k → k < k6
theorem ReadsR.step {w W W2 : World} {g k6 i : Nat} {B : Option Nat} {pre : List Nat} {r : Rd} (h : ReadsR w g B k6 pre r i W) (hL : Lies w g B k6) (hi : pre.length + i < 10) (hf : FormS W2 g B (rdN (rdNs i r).2).2.1 (rdN (rdNs i r).2).2.2) (ht : Turn g W W2) :
    (∃ u, W2.cell? ⟨k6, pre.length + i, none⟩ = some u) ∧ W2.frozen? ⟨k6, pre.length + i, none⟩ = false ∧ ReadsR w g B k6 pre r (i + 1) (W2.setCell ⟨k6, pre.length + i, none⟩ (.int .i64 ((rdN (rdNs i r).2).1 : Nat))) := by
  obtain ⟨h1, h2, h3, h4⟩ := h
  obtain ⟨l1, l2, l3⟩ := hL
  have b2 := h2.turn ht (by omega)
  obtain ⟨u, hu⟩ := boxR_get (pre ++ (rdNs i r).1) (.slice none 0 0) (.slice none 0 0) hi
  have hl : (pre ++ (rdNs i r).1).length = pre.length + i := by rw [List.length_append, rdNs_len]
  refine ⟨⟨u, b2.cell hu⟩, b2.free _, ?_⟩
  unfold ReadsR
  rw [rdNs_succ]
  refine ⟨hf.turn (Turn.setCell k6 _ W2 _) (by omega) (fun k hk => by have := l3 k hk; omega), ?_, (h3.turn ht (by omega)).other (by omega), (h4.trans (ht.1.mono (by omega))).setCell (p := ⟨k6, pre.length + i, none⟩) (by show w.heap.size ≤ k6; omega) _⟩
  have := b2.set (pre.length + i) (.int .i64 ((rdN (rdNs i r).2).1 : Nat))
  rw [boxR_snoc hl hi, List.append_assoc] at this
  exact this
theorem ReadsR.below {w W W2 : World} {g k6 i : Nat} {B : Option Nat} {pre : List Nat} {r : Rd} (h : ReadsR w g B k6 pre r i W) (hb : Below W.heap.size W W2) : ReadsR w g B k6 pre r i W2 :=
  ⟨h.1.below hb, h.2.1.below hb, h.2.2.1.below hb, below_t h.2.2.2 hb h.2.2.2.size⟩
/-- The next number of a reply. -/
theorem num_next {w W : World} {g k6 i : Nat} {B : Option Nat} {pre : List Nat} {r : Rd} (h : ReadsR w g B k6 pre r i W) :
    Calls Try.prog 46 #[.pointer (some ⟨g, 0, none⟩)] W (RetForm g B (.int .i64 ((rdN (rdNs i r).2).1 : Nat)) (rdN (rdNs i r).2).2.1 (rdN (rdNs i r).2).2.2 W) := fnum_any g B _ _ W h.1
theorem text_next {W : World} {g : Nat} {B : Option Nat} {r : Rd} (h : FormS W g B r.1 r.2) :
    Calls Try.prog 48 #[.pointer (some ⟨g, 0, none⟩)] W (RetForm g B (.string (bstr (rdT r).1)) (rdT r).2.1 (rdT r).2.2 W) := ftext_any g B _ _ W h
end Go.Proofs.Ytppbcdcmpcagdaa
