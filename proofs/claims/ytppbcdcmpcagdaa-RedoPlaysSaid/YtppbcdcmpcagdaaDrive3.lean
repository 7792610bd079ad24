/- Frames of a drive: which blocks a call on it may turn; a drive as its head and sectors turn. -/
import Derived.Test.YtppbcdcmpcagdaaDrive2
namespace Go.Proofs.Ytppbcdcmpcagdaa
open Go.RowKit Go.CP

/-- Of what was there only the drive's blocks may have turned; what waits lies where it lay, or in a new block. -/
def Drove (W W' : World) (g s : Nat) (A A' : Option Addr) : Prop :=
  (W'.os = W.os ∧ W'.tape = W.tape ∧ W'.output = W.output ∧ W.heap.size ≤ W'.heap.size) ∧
  (∀ k, k < W.heap.size → k ≠ g → k ≠ s → blockOf A ≠ some k → W'.heap[k]? = W.heap[k]?) ∧
  (∀ k, blockOf A' = some k → blockOf A = some k ∨ W.heap.size ≤ k)
theorem Drove.refl (W : World) (g s : Nat) (A : Option Addr) : Drove W W g s A A := ⟨⟨rfl, rfl, rfl, Nat.le_refl _⟩, fun _ _ _ _ _ => rfl, fun _ h => .inl h⟩
theorem Drove.size {W W' : World} {g s : Nat} {A A' : Option Addr} (h : Drove W W' g s A A') : W.heap.size ≤ W'.heap.size := h.1.2.2.2
theorem Drove.trans {W W1 W2 : World} {g s : Nat} {A A1 A2 : Option Addr} (h : Drove W W1 g s A A1) (k : Drove W1 W2 g s A1 A2) : Drove W W2 g s A A2 := by
  obtain ⟨⟨a1, a2, a3, a4⟩, b, c⟩ := h
  obtain ⟨⟨a1', a2', a3', a4'⟩, b', c'⟩ := k
  refine ⟨⟨a1'.trans a1, a2'.trans a2, a3'.trans a3, Nat.le_trans a4 a4'⟩, fun i hi hg hs hA => ?_, fun i hi => ?_⟩
  · refine (b' i (Nat.lt_of_lt_of_le hi a4) hg hs fun e => ?_).trans (b i hi hg hs hA)
    rcases c i e with e | e
    · exact hA e
    · omega
  · rcases c' i hi with e | e
    · exact c i e
    · exact .inr (Nat.le_trans a4 e)
theorem Drove.of_below {W W' : World} {g s : Nat} {A : Option Addr} (h : Below W.heap.size W W') : Drove W W' g s A A := ⟨⟨h.os, h.tape, h.output, h.size⟩, fun k hk _ _ _ => h.block k hk, fun _ h => .inl h⟩
theorem Drove.below {W W' : World} {g s : Nat} {A A' : Option Addr} (h : Drove W W' g s A A') {B : Nat} (hB : B ≤ W.heap.size) (hg : B ≤ g) (hs : B ≤ s) (hA : ∀ k, blockOf A = some k → B ≤ k) : Below B W W' :=
  ⟨h.1.1, h.1.2.1, h.1.2.2.1, h.1.2.2.2, fun k hk => h.2.1 k (by omega) (by omega) (by omega) fun e => by have := hA k e; omega⟩
theorem Drove.setHead {W : World} {g s : Nat} {A : Option Addr} (j : Nat) (v : Value) : Drove W (W.setCell ⟨g, j, none⟩ v) g s A A :=
  ⟨⟨rfl, rfl, rfl, by simp [World.setCell]⟩, fun k _ hg _ _ => Below.heap_setCell _ _ _ _ hg, fun _ h => .inl h⟩
/-- A row that is none of a drive's. -/
def Far (X A : Option Addr) (g s : Nat) : Prop := ∀ k, blockOf X = some k → k ≠ g ∧ k ≠ s ∧ blockOf A ≠ some k
theorem Drove.cells {W W' : World} {g s : Nat} {A A' X : Option Addr} {xs : List Value} (h : Drove W W' g s A A') (hc : Cells W X xs) (hX : Far X A g s) : Cells W' X xs := by
  refine hc.of_cell fun b off u hu hb => ?_
  have hl := World.block_lt_of_cell? W _ hu
  have hX' := hX b hb
  rw [← hu]
  exact World.cell?_of_block (w := W) (h.2.1 b hl hX'.1 hX'.2.1 hX'.2.2)
theorem Drove.cells' {W W' : World} {g s : Nat} {A A' X : Option Addr} {xs : List Value} (h : Drove W W' g s A A') (hc : Cells W X xs) (hX : 0 < xs.length → Far X A g s) : Cells W' X xs := by
  cases xs with
  | nil => exact Cells.nil _ _
  | cons x xs => exact h.cells hc (hX (by simp))
theorem Drove.far {W W' : World} {g s : Nat} {A A' X : Option Addr} (h : Drove W W' g s A A') (hX : Far X A g s) (hl : ∀ k, blockOf X = some k → k < W.heap.size) : Far X A' g s := fun k hk =>
  ⟨(hX k hk).1, (hX k hk).2.1, fun e => by
    rcases h.2.2 k e with e | e
    · exact (hX k hk).2.2 e
    · have := hl k hk; omega⟩
theorem own_of_block {w w' : World} {base : Nat} {e : TypeId} {sz : Nat} {A : Option Addr} {n c : Nat} {xs : List Value} (h : Go.CP.Own w base e sz A n c xs) (hk : ∀ k, blockOf A = some k → w'.heap[k]? = w.heap[k]?) : Go.CP.Own w' base e sz A n c xs := by
  refine ⟨h.1, ?_⟩
  rcases h.2 with hn | ⟨g, cur, rfl, hb, hgg, rest⟩
  · exact .inl hn
  · exact .inr ⟨g, cur, rfl, hb, (hk g rfl).trans hgg, rest⟩
theorem DriveIs.of_blocks {W W' : World} {g s : Nat} {A : Option Addr} {c : Nat} {D : Drv} (h : DriveIs W g s A c D) (hg : W'.heap[g]? = W.heap[g]?) (hs : W'.heap[s]? = W.heap[s]?) (hA : ∀ k, blockOf A = some k → W'.heap[k]? = W.heap[k]?) : DriveIs W' g s A c D :=
  ⟨hg.trans h.1, hs.trans h.2.1, own_of_block h.2.2.1 hA, h.2.2.2⟩
theorem DriveIs.lt {W : World} {g s : Nat} {A : Option Addr} {c : Nat} {D : Drv} (h : DriveIs W g s A c D) : g < W.heap.size ∧ s < W.heap.size ∧ ∀ k, blockOf A = some k → k < W.heap.size :=
  ⟨(Array.getElem?_eq_some_iff.1 (show W.heap[g]? = _ from h.1)).1, (Array.getElem?_eq_some_iff.1 h.2.1).1, fun k hk => (h.2.2.1.block k hk).2⟩
theorem DriveIs.below {W W' : World} {g s : Nat} {A : Option Addr} {c : Nat} {D : Drv} (h : DriveIs W g s A c D) {B : Nat} (hb : Below B W W') (hB : W.heap.size ≤ B) : DriveIs W' g s A c D := by
  have hl := h.lt
  exact h.of_blocks (hb.block g (by omega)) (hb.block s (by omega)) fun k hk => hb.block k (by have := hl.2.2 k hk; omega)
theorem DriveIs.alloc {W : World} {g s : Nat} {A : Option Addr} {c : Nat} {D : Drv} (h : DriveIs W g s A c D) (o : Obj) : DriveIs (W.alloc o) g s A c D := h.below ((Below.refl _ _).alloc (Nat.le_refl _) o) (Nat.le_refl _)
theorem DriveIs.drew {W : World} {g s : Nat} {A : Option Addr} {c : Nat} {D : Drv} (h : DriveIs W g s A c D) : DriveIs W.drew g s A c D := h
/-- Another drive's call leaves a drive as it is. -/
theorem DriveIs.other {W W' : World} {g s g2 s2 : Nat} {A A2 A2' : Option Addr} {c : Nat} {D : Drv} (h : DriveIs W g s A c D) (hd : Drove W W' g2 s2 A2 A2') (hg : g ≠ g2 ∧ g ≠ s2 ∧ blockOf A2 ≠ some g) (hs : s ≠ g2 ∧ s ≠ s2 ∧ blockOf A2 ≠ some s) (hA : Far A A2 g2 s2) : DriveIs W' g s A c D := by
  have hl := h.lt
  exact h.of_blocks (hd.2.1 g hl.1 hg.1 hg.2.1 hg.2.2) (hd.2.1 s hl.2.1 hs.1 hs.2.1 hs.2.2) fun k hk => hd.2.1 k (hl.2.2 k hk) (hA k hk).1 (hA k hk).2.1 (hA k hk).2.2
theorem DriveIs.head {W : World} {g s : Nat} {A : Option Addr} {c : Nat} {D : Drv} (h : DriveIs W g s A c D) : Head4 W g (.slice (some ⟨s, 0, none⟩) D.sure.length D.sure.length) (.slice A D.list.length c) D.fuse D.dead := h.1
/-- The head alone turned: fuse and power. -/
theorem DriveIs.reHead {W W' : World} {g s : Nat} {A : Option Addr} {c : Nat} {D D' : Drv} (h : DriveIs W g s A c D) (hg : Head4 W' g (.slice (some ⟨s, 0, none⟩) D.sure.length D.sure.length) (.slice A D.list.length c) D'.fuse D'.dead) (hk : ∀ k, k ≠ g → W'.heap[k]? = W.heap[k]?) (e1 : D'.sure = D.sure) (e2 : D'.list = D.list) : DriveIs W' g s A c D' := by
  obtain ⟨h1, h2, h3, ⟨h4, h5⟩, h6, h7⟩ := h
  refine ⟨by rw [e1, e2]; exact hg, by rw [hk s h6.symm, e1]; exact h2, by rw [e2]; exact own_of_block h3 fun k hA => hk k (h7 k hA).1, ⟨by rw [e1]; exact h4, by rw [e1, e2]; exact h5⟩, h6, h7⟩
/-- burn on a drive. -/
def RetBurnD (W : World) (g s : Nat) (A : Option Addr) (c : Nat) (D : Drv) (e : Ending) (W' : World) : Prop :=
  (D.fuse = 0 ∧ e = .returned (.bool false) ∧ DriveIs W' g s A c D.dark ∧ Drove W W' g s A A ∧ W'.heap.size = W.heap.size) ∨ (D.fuse ≠ 0 ∧ e = .returned (.bool true) ∧ DriveIs W' g s A c D.less ∧ Drove W W' g s A A ∧ W'.heap.size = W.heap.size)
theorem burn_drive (W : World) (g s : Nat) (A : Option Addr) (c : Nat) (D : Drv) (h : DriveIs W g s A c D) (hd : D.dead = false) (hl : -1 ≤ D.fuse) (hu : D.fuse ≤ 9223372036854775807) :
    Calls Try.prog 166 #[.pointer (some ⟨g, 0, none⟩)] W (RetBurnD W g s A c D) := by
  have hh := h.head
  rw [hd] at hh
  refine (burn_any W g _ _ D.fuse hh hl hu).mono ?_
  rintro e W' (⟨h0, rfl, rfl, hk⟩ | ⟨h0, rfl, rfl, hk⟩)
  · exact .inl ⟨h0, rfl, h.reHead (by unfold Drv.dark; rw [h0]; exact hk) (fun k hk => Below.heap_setCell _ _ _ _ hk) rfl rfl, Drove.setHead _ _, by simp [World.setCell]⟩
  · exact .inr ⟨h0, rfl, h.reHead (by unfold Drv.less; dsimp only; rw [hd]; exact hk) (fun k hk => Below.heap_setCell _ _ _ _ hk) rfl rfl, Drove.setHead _ _, by simp [World.setCell]⟩
/-- Fuse on a drive. -/
theorem fuse_drive (W : World) (g s : Nat) (A : Option Addr) (c : Nat) (D : Drv) (n : Int) (h : DriveIs W g s A c D) :
    Calls Try.prog 104 #[.pointer (some ⟨g, 0, none⟩), .int .i64 n] W fun e W' => e = .returned (.tuple #[]) ∧ DriveIs W' g s A c (D.fuseTo n) ∧ Drove W W' g s A A := by
  have H := hid h
  obtain ⟨c0, c1, c2, c3, hf, hlt⟩ := h.head.facts
  have hs := h.head.set 2 (.int .i64 (max n (-1)))
  have HS := hid hs
  clear h hs
  by_cases hn : n = -1
  · subst hn
    go_enter Try.func104, Try.ntmps104
    go_wp2
    go_end0
    exact ⟨rfl, H.out.reHead HS.out (fun k hk => Below.heap_setCell _ _ _ _ hk) rfl rfl, Drove.setHead _ _⟩
  · by_cases h1 : -1 ≤ n
    · have hm : max n (-1) = n := by omega
      have HM := hid hm
      clear hm
      go_enter Try.func104, Try.ntmps104
      go_wp2
      all_goals
        go_end0
        have HS' := HS.out
        rw [HM.out] at HS'
        exact ⟨rfl, H.out.reHead (D' := (_ : Drv).fuseTo n) (by unfold Drv.fuseTo; dsimp only; rw [HM.out]; exact HS') (fun k hk => Below.heap_setCell _ _ _ _ hk) rfl rfl, Drove.setHead _ _⟩
    · have hm : max n (-1) = -1 := by omega
      have HM := hid hm
      clear hm
      go_enter Try.func104, Try.ntmps104
      go_wp2
      all_goals
        go_end0
        have HS' := HS.out
        rw [HM.out] at HS'
        exact ⟨rfl, H.out.reHead (D' := (_ : Drv).fuseTo n) (by unfold Drv.fuseTo; dsimp only; rw [HM.out]; exact HS') (fun k hk => Below.heap_setCell _ _ _ _ hk) rfl rfl, Drove.setHead _ _⟩
end Go.Proofs.Ytppbcdcmpcagdaa
