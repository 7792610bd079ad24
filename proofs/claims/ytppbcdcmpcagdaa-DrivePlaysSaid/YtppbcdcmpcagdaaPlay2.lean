/- Steps that came in; drives that do not touch one another. -/
import Derived.Test.YtppbcdcmpcagdaaPlay1
namespace Go.Proofs.Ytppbcdcmpcagdaa
open Go.RowKit Go.CP

/-- How many writes a step may lay into a drive. -/
def Stp.room (s : Stp) : Nat := if lenB (wl s.ws) then 0 else s.ws.length
def roomTo (ss : List Stp) (i : Nat) : Nat := ((ss.take i).map Stp.room).sum
theorem roomTo_succ {ss : List Stp} {i : Nat} {s : Stp} (h : ss[i]? = some s) : roomTo ss (i + 1) = roomTo ss i + s.room := by
  rw [roomTo, take_snoc h, List.map_append, List.sum_append]
  simp [roomTo]
theorem roomTo_out {ss : List Stp} {i : Nat} (h : ss.length ≤ i) : roomTo ss (i + 1) = roomTo ss i := by
  rw [roomTo, roomTo, List.take_of_length_le (by omega), List.take_of_length_le h]
theorem roomTo_le (ss : List Stp) (i : Nat) : roomTo ss i ≤ (ss.map Stp.room).sum := by
  have : (ss.map Stp.room).sum = ((ss.take i).map Stp.room).sum + ((ss.drop i).map Stp.room).sum := by
    rw [← List.sum_append, ← List.map_append, List.take_append_drop]
  rw [roomTo]
  omega
/-- Steps that came in. -/
structure StepsIn (W : World) (A : Option Addr) (ss : List Stp) : Prop where
  cells : Cells W A (ss.flatMap Stp.cells)
  rows : ∀ s ∈ ss, Wrs W s.la s.ws ∧ ∀ r ∈ s.ws, Bytes W r.a r.d ∧ r.d.length ≤ r.c
  keeps : ∀ s ∈ ss, Ints W s.ka s.keep ∧ s.keep.length ≤ 140737488351232 ∧ s.ws.length ≤ 140737488351232
  nums : ∀ s ∈ ss, (-9223372036854775808 ≤ s.what ∧ s.what < 9223372036854775808) ∧ (-9223372036854775808 ≤ s.n ∧ s.n < 9223372036854775808)
  room : (ss.map Stp.room).sum ≤ 1000000000000
theorem steps_at {W : World} {A : Option Addr} {ss : List Stp} (h : Cells W A (ss.flatMap Stp.cells)) {i : Nat} {x : Stp} (hx : ss[i]? = some x) :
    ∃ b off, A = some ⟨b, off, none⟩ ∧ W.cell? ⟨b, off + i * 4, none⟩ = some (.int .i64 x.what) ∧ W.cell? ⟨b, off + i * 4 + 1, none⟩ = some (.int .i64 x.n) ∧ W.cell? ⟨b, off + i * 4 + 2, none⟩ = some (.slice x.la x.ws.length x.cl) ∧ W.cell? ⟨b, off + i * 4 + 3, none⟩ = some (.slice x.ka x.keep.length x.ck) := by
  obtain ⟨b, off, rfl, c0⟩ := h _ _ (flatMap_at Stp.cells 4 ss (fun _ _ => rfl) hx (j := 0) (v := .int .i64 x.what) rfl)
  obtain ⟨b1, o1, e1, c1⟩ := h _ _ (flatMap_at Stp.cells 4 ss (fun _ _ => rfl) hx (j := 1) (v := .int .i64 x.n) rfl)
  obtain ⟨b2, o2, e2, c2⟩ := h _ _ (flatMap_at Stp.cells 4 ss (fun _ _ => rfl) hx (j := 2) (v := .slice x.la x.ws.length x.cl) rfl)
  obtain ⟨b3, o3, e3, c3⟩ := h _ _ (flatMap_at Stp.cells 4 ss (fun _ _ => rfl) hx (j := 3) (v := .slice x.ka x.keep.length x.ck) rfl)
  cases e1
  cases e2
  cases e3
  exact ⟨b, off, rfl, c0, c1, c2, c3⟩
theorem StepsIn.fed {w W : World} {LA A : Option Addr} {ss : List Stp} {g s : Nat} (h : StepsIn w LA ss) (hb : Below w.heap.size w W) (hg : w.heap.size ≤ g) (hs : w.heap.size ≤ s) (hA : ∀ k, blockOf A = some k → w.heap.size ≤ k) {st : Stp} (hst : st ∈ ss) : Fed W g s A st := by
  have far : ∀ (X : Option Addr) (xs : List Value), Cells w X xs → 0 < xs.length → Far X A g s := fun X xs hc h0 k hk => by
    have := Cells.lt hc h0 k hk
    exact ⟨by omega, by omega, fun e => by have := hA k e; omega⟩
  obtain ⟨r1, r2⟩ := h.rows st hst
  obtain ⟨k1, k2, k3⟩ := h.keeps st hst
  refine ⟨⟨Cells.below r1 hb (Nat.le_refl _), fun r hr => Cells.below (r2 r hr).1 hb (Nat.le_refl _), fun h0 => far _ _ r1 (by rw [flatMap_len wcells 2 st.ws fun _ _ => rfl]; omega), fun r hr h0 => far _ _ (r2 r hr).1 (by simpa using h0), fun r hr => (r2 r hr).2⟩, Cells.below k1 hb (Nat.le_refl _), fun h0 => far _ _ k1 (by simpa using h0), k2, k3, (h.nums st hst).2⟩
/-- A drive's numbers keep their bounds. -/
structure Gd (D : Drv) (N : Nat) : Prop where
  lo : -1 ≤ D.fuse
  up : D.fuse ≤ 9223372036854775807
  sure : D.sure.length = 64
  list : D.list.length ≤ N
theorem Gd.mono {D : Drv} {N M : Nat} (h : Gd D N) (hm : N ≤ M) : Gd D M := ⟨h.lo, h.up, h.sure, Nat.le_trans h.list hm⟩
theorem Gd.dark {D : Drv} {N : Nat} (h : Gd D N) : Gd D.dark N := ⟨h.lo, h.up, h.sure, h.list⟩
theorem less_fuse {D : Drv} (h1 : -1 ≤ D.fuse) (h2 : D.fuse ≤ 9223372036854775807) : -1 ≤ D.less.fuse ∧ D.less.fuse ≤ 9223372036854775807 := by
  show -1 ≤ max (D.fuse - 1) (-1) ∧ max (D.fuse - 1) (-1) ≤ 9223372036854775807
  omega
theorem putGo_gd : ∀ (ws : List Wt) (D : Drv) (N : Nat), Gd D N → Gd (putGo D ws).2 (N + ws.length)
  | [], D, N, h => h
  | x :: ws, D, N, h => by
    rw [putGo]
    split
    · exact h.dark.mono (by omega)
    · have := putGo_gd ws { D.less with list := D.list ++ [x] } (N + 1) ⟨(less_fuse h.lo h.up).1, (less_fuse h.lo h.up).2, h.sure, by have := h.list; simp; omega⟩
      exact this.mono (by simp; omega)
theorem Gd.play {D : Drv} {N : Nat} (h : Gd D N) (s : Stp) (hn : s.n < 9223372036854775808) : Gd (s.play D).2 (N + s.room) := by
  unfold Stp.play
  split
  · unfold Drv.put
    split
    · exact h.mono (by omega)
    · split
      · exact h.mono (by omega)
      · split
        · exact h.mono (by omega)
        · next hl =>
          have hr : s.room = (wl s.ws).length := by rw [Stp.room, if_neg hl]; simp [wl]
          rw [hr]
          exact putGo_gd _ _ _ h
  · split
    · unfold Drv.flush
      split
      · exact h.mono (by omega)
      · split
        · exact h.dark.mono (by omega)
        · exact ⟨(less_fuse h.lo h.up).1, (less_fuse h.lo h.up).2, (setAll_len _ _).trans h.sure, Nat.zero_le _⟩
    · split
      · refine ⟨?_, ?_, h.sure, Nat.le_trans h.list (by omega)⟩
        · show -1 ≤ max s.n (-1)
          omega
        · show max s.n (-1) ≤ 9223372036854775807
          omega
      · split
        · exact ⟨by show (-1 : Int) ≤ -1; decide, by show (-1 : Int) ≤ 9223372036854775807; decide, (setKept_len _ _ _ _).trans h.sure, Nat.zero_le _⟩
        · exact h.mono (by omega)
/-- A drive that was made behind a world. -/
def Dr (W : World) (base g s : Nat) (A : Option Addr) (c : Nat) (D : Drv) (N : Nat) : Prop :=
  DriveIs W g s A c D ∧ Gd D N ∧ base ≤ g ∧ base ≤ s ∧ ∀ k, blockOf A = some k → base ≤ k
theorem Dr.below {W W' : World} {base g s : Nat} {A : Option Addr} {c : Nat} {D : Drv} {N B : Nat} (h : Dr W base g s A c D N) (hb : Below B W W') (hB : W.heap.size ≤ B) : Dr W' base g s A c D N := ⟨h.1.below hb hB, h.2⟩
theorem Dr.mono {W : World} {base g s : Nat} {A : Option Addr} {c : Nat} {D : Drv} {N M : Nat} (h : Dr W base g s A c D N) (hm : N ≤ M) : Dr W base g s A c D M := ⟨h.1, h.2.1.mono hm, h.2.2⟩
theorem play_dr {w W : World} {LA A : Option Addr} {ss : List Stp} {g s c : Nat} {D : Drv} {N : Nat} (h : StepsIn w LA ss) (hb : Below w.heap.size w W) (hd : Dr W w.heap.size g s A c D N) {st : Stp} (hst : st ∈ ss) (hN : N + st.room ≤ 1000000000000) :
    Calls Try.prog 114 #[.pointer (some ⟨g, 0, none⟩), .agg #[.int .i64 st.what, .int .i64 st.n, .slice st.la st.ws.length st.cl, .slice st.ka st.keep.length st.ck]] W fun e W' =>
      e = .returned (.int .i64 (st.play D).1) ∧ ∃ A' c', Dr W' w.heap.size g s A' c' (st.play D).2 (N + st.room) ∧ Drove W W' g s A A' ∧ Below w.heap.size w W' := by
  obtain ⟨h1, h2, h3, h4, h5⟩ := hd
  refine (play_any W g s A c D h1 h2.lo h2.up (by have := h2.list; omega) st (h.fed hb h3 h4 h5 hst) (fun hl => ?_)).mono ?_
  · have h6 := h2.list
    have hr : st.room = st.ws.length := by rw [Stp.room, hl]; rfl
    omega
  · rintro e W' ⟨he, A', c', hd', hv⟩
    refine ⟨he, A', c', ⟨hd', h2.play st (h.nums st hst).2.2, h3, h4, fun k hk => ?_⟩, hv, hb.trans (hv.below hb.size h3 h4 h5)⟩
    rcases hv.2.2 k hk with e | e
    · exact h5 k e
    · exact Nat.le_trans hb.size e
/-- Two drives without a block in common. -/
def ApartD (g s : Nat) (A : Option Addr) (g' s' : Nat) (A' : Option Addr) : Prop :=
  (g ≠ g' ∧ g ≠ s' ∧ blockOf A' ≠ some g) ∧ (s ≠ g' ∧ s ≠ s' ∧ blockOf A' ≠ some s) ∧ Far A A' g' s'
theorem ApartD.symm {g s g' s' : Nat} {A A' : Option Addr} (h : ApartD g s A g' s' A') : ApartD g' s' A' g s A := by
  obtain ⟨⟨a, b, c⟩, ⟨d, e, f⟩, k⟩ := h
  exact ⟨⟨a.symm, d.symm, fun e => (k _ e).1 rfl⟩, ⟨b.symm, e.symm, fun e => (k _ e).2.1 rfl⟩, fun i hi => ⟨fun e => c (by rw [hi, e]), fun e => f (by rw [hi, e]), fun e => (k i e).2.2 hi⟩⟩
/-- What a drive does leaves the other as it is. -/
theorem Dr.away {W W' : World} {base g s g' s' c : Nat} {A A' A2 : Option Addr} {D : Drv} {N : Nat} (h : Dr W base g s A c D N) (ap : ApartD g s A g' s' A') (hv : Drove W W' g' s' A' A2) : Dr W' base g s A c D N ∧ ApartD g s A g' s' A2 := by
  have hl := h.1.lt
  obtain ⟨a, b, k⟩ := ap
  refine ⟨⟨h.1.other hv a b k, h.2⟩, ⟨a.1, a.2.1, fun e => ?_⟩, ⟨b.1, b.2.1, fun e => ?_⟩, fun i hi => ⟨(k i hi).1, (k i hi).2.1, fun e => ?_⟩⟩
  · rcases hv.2.2 _ e with e | e
    · exact a.2.2 e
    · omega
  · rcases hv.2.2 _ e with e | e
    · exact b.2.2 e
    · omega
  · rcases hv.2.2 _ e with e | e
    · exact (k i hi).2.2 e
    · have := hl.2.2 i hi
      omega
end Go.Proofs.Ytppbcdcmpcagdaa
