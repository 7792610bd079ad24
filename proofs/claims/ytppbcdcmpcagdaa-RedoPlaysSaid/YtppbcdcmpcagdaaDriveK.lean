/- A drive's calls as the laws make them: rows that are none of its own, a Put of one or two literals, a Get that answers. -/
import Derived.Test.YtppbcdcmpcagdaaDriveI
import Derived.Test.YtppbcdcmpcagdaaDrive6
import Derived.Test.YtppbcdcmpcagdaaDrive8
namespace Go.Proofs.Ytppbcdcmpcagdaa
open Go.RowKit Go.CP

/-- A row of bytes that is there, and none of a drive's. -/
def Safe (W : World) (A : Option Addr) (g s : Nat) (X : Option Addr) (l : List UInt8) : Prop := Bytes W X l ∧ Far X A g s ∧ ∀ k, blockOf X = some k → k < W.heap.size
theorem Safe.drove {W W' : World} {A A' X : Option Addr} {g s : Nat} {l : List UInt8} (h : Safe W A g s X l) (hd : Drove W W' g s A A') : Safe W' A' g s X l :=
  ⟨hd.cells h.1 h.2.1, hd.far h.2.1 h.2.2, fun k hk => Nat.lt_of_lt_of_le (h.2.2 k hk) hd.size⟩
theorem Safe.below {W W' : World} {A X : Option Addr} {g s : Nat} {l : List UInt8} (h : Safe W A g s X l) (hb : Below W.heap.size W W') : Safe W' A g s X l :=
  ⟨Cells.below h.1 hb (Nat.le_refl _), h.2.1, fun k hk => Nat.lt_of_lt_of_le (h.2.2 k hk) hb.size⟩
theorem Safe.mk' {W : World} {A X : Option Addr} {g s : Nat} {l : List UInt8} (h : Bytes W X l) (hl : 0 < l.length) (hf : Far X A g s) : Safe W A g s X l :=
  ⟨h, hf, fun k hk => Cells.lt h (by simpa using hl) k hk⟩
/-- A new block is none of a drive's that is there. -/
theorem far_new {W : World} {g s : Nat} {A : Option Addr} {c : Nat} {D : Drv} (h : DriveIs W g s A c D) {X : Option Addr} (hX : ∀ k, blockOf X = some k → W.heap.size ≤ k) : Far X A g s := fun k hk => by
  have := hX k hk
  have hl := h.lt
  exact ⟨by omega, by omega, fun e => by have := hl.2.2 k e; omega⟩
theorem wrs_lit {W : World} {t : TypeId} (ws : List Wri) : Wrs (W.alloc (.cells (ws.flatMap wcells).toArray t)) (some ⟨W.heap.size, 0, none⟩) ws := fun j u hu =>
  ⟨_, 0, rfl, by rw [cell_of_row _ _ _ _ _ (0, 0) (heap_alloc_new W _), Nat.zero_add]; simpa using hu⟩
theorem feed_lit {W : World} {g s : Nat} {A : Option Addr} {c : Nat} {D : Drv} (h : DriveIs W g s A c D) (t : TypeId) (ws : List Wri) (hs : ∀ x ∈ ws, Safe W A g s x.a x.d ∧ x.d.length ≤ x.c) :
    Feed (W.alloc (.cells (ws.flatMap wcells).toArray t)) g s A (some ⟨W.heap.size, 0, none⟩) ws :=
  ⟨wrs_lit ws, fun x hx => Cells.alloc (hs x hx).1.1 _, fun _ => far_new h fun k hk => by simp [blockOf] at hk; omega, fun x hx _ => (hs x hx).1.2.1, fun x hx => (hs x hx).2⟩
theorem RetDrv.from {W W1 W' : World} {g s : Nat} {A : Option Addr} {r : Int × Drv} {e : Ending} (hb : Below W.heap.size W W1) (h : RetDrv W1 g s A r e W') : RetDrv W g s A r e W' := by
  obtain ⟨h1, A', c', h2, h3⟩ := h
  exact ⟨h1, A', c', h2, (Drove.of_below hb).trans h3⟩
theorem put_lit (W : World) (g s : Nat) (A : Option Addr) (c : Nat) (D : Drv) (h : DriveIs W g s A c D) (hlo : -1 ≤ D.fuse) (hup : D.fuse ≤ 9223372036854775807) (t : TypeId) (ws : List Wri)
    (hs : ∀ x ∈ ws, Safe W A g s x.a x.d ∧ x.d.length ≤ x.c) (hn : D.list.length + ws.length ≤ 1000000000000) :
    Calls Try.prog 100 #[.pointer (some ⟨g, 0, none⟩), .slice (some ⟨W.heap.size, 0, none⟩) ws.length ws.length] (W.alloc (.cells (ws.flatMap wcells).toArray t)) (RetDrv W g s A (D.put (wl ws))) :=
  (drv_put _ g s A c D (h.alloc _) hlo hup _ ws _ (feed_lit h t ws hs) hn).mono fun _ _ k => RetDrv.from ((Below.refl _ _).alloc (Nat.le_refl _) _) k
theorem put1 (W : World) (g s : Nat) (A : Option Addr) (c : Nat) (D : Drv) (h : DriveIs W g s A c D) (hlo : -1 ≤ D.fuse) (hup : D.fuse ≤ 9223372036854775807) (hn : D.list.length ≤ 1000000) (n : Int) (X : Option Addr) (l : List UInt8) (cx : Nat) (hs : Safe W A g s X l) (hl : l.length ≤ cx) :
    Calls Try.prog 100 #[.pointer (some ⟨g, 0, none⟩), .slice (some ⟨W.heap.size, 0, none⟩) 1 1] (W.alloc (.cells #[.int .i64 n, .slice X l.length cx] 136)) (RetDrv W g s A (D.put [(n, l)])) :=
  put_lit W g s A c D h hlo hup 136 [⟨n, X, l, cx⟩] (fun x hx => by rw [List.mem_singleton.1 hx]; exact ⟨hs, hl⟩) (by simp; omega)
theorem put2 (W : World) (g s : Nat) (A : Option Addr) (c : Nat) (D : Drv) (h : DriveIs W g s A c D) (hlo : -1 ≤ D.fuse) (hup : D.fuse ≤ 9223372036854775807) (hn : D.list.length ≤ 1000000) (n m : Int) (X Y : Option Addr) (l k : List UInt8) (cx cy : Nat)
    (hs : Safe W A g s X l) (hl : l.length ≤ cx) (ht : Safe W A g s Y k) (hk : k.length ≤ cy) :
    Calls Try.prog 100 #[.pointer (some ⟨g, 0, none⟩), .slice (some ⟨W.heap.size, 0, none⟩) 2 2] (W.alloc (.cells #[.int .i64 n, .slice X l.length cx, .int .i64 m, .slice Y k.length cy] 136)) (RetDrv W g s A (D.put [(n, l), (m, k)])) :=
  put_lit W g s A c D h hlo hup 136 [⟨n, X, l, cx⟩, ⟨m, Y, k, cy⟩] (fun x hx => by
    rcases List.mem_cons.1 hx with rfl | hx
    · exact ⟨hs, hl⟩
    · rw [List.mem_singleton.1 hx]; exact ⟨ht, hk⟩) (by simp; omega)
/-- A Get that answers with a row. -/
def RetRow (W : World) (l : List UInt8) (e : Ending) (W' : World) : Prop :=
  ∃ b, e = .returned (.tuple #[.slice (some ⟨b, 0, none⟩) 128 128, .int .i64 0]) ∧ W.heap.size ≤ b ∧ W'.heap[b]? = some (.cells (l.map bv).toArray 214 (0, 0)) ∧ Below W.heap.size W W'
theorem get_is (W : World) (g s : Nat) (A : Option Addr) (c : Nat) (D : Drv) (h : DriveIs W g s A c D) (n : Int) (hsl : D.sure.length ≤ 1000000) (hll : D.list.length ≤ 1000000000000) (l : List UInt8) (hl : D.get n = (0, l)) :
    Calls Try.prog 103 #[.pointer (some ⟨g, 0, none⟩), .int .i64 n] W (RetRow W l) := by
  refine (drv_get W g s A c D h n hsl hll).mono ?_
  rw [hl]
  rintro e W' ⟨hb, ⟨-, -, b, h1, h2, h3⟩ | ⟨h, -⟩⟩
  · exact ⟨b, h1, h2, h3, hb⟩
  · exact absurd rfl h
theorem get_no (W : World) (g s : Nat) (A : Option Addr) (c : Nat) (D : Drv) (h : DriveIs W g s A c D) (n : Int) (hsl : D.sure.length ≤ 1000000) (hll : D.list.length ≤ 1000000000000) (x : Int) (l : List UInt8) (hl : D.get n = (x, l)) (hx : x ≠ 0) :
    Calls Try.prog 103 #[.pointer (some ⟨g, 0, none⟩), .int .i64 n] W fun e W' => e = .returned (.tuple #[.slice none 0 0, .int .i64 x]) ∧ Below W.heap.size W W' := by
  refine (drv_get W g s A c D h n hsl hll).mono ?_
  rw [hl]
  rintro e W' ⟨hb, ⟨h, -⟩ | ⟨-, -, h⟩⟩
  · exact absurd h hx
  · exact ⟨h, hb⟩
theorem block_bytes {W : World} {b : Nat} {l : List UInt8} {t : TypeId} (h : W.heap[b]? = some (.cells (l.map bv).toArray t (0, 0))) : Bytes W (some ⟨b, 0, none⟩) l := fun j u hu =>
  ⟨b, 0, rfl, by rw [cell_of_row _ _ _ _ _ (0, 0) h, Nat.zero_add]; simpa using hu⟩
theorem new_drive (n : Nat) (w : World) (h1 : 64 ≤ n) (h2 : n ≤ 1024) : Calls Try.prog 98 #[.int .i64 n] w fun e w' =>
    ∃ g s, e = .returned (.tuple #[.pointer (some ⟨g, 0, none⟩), .int .i64 0]) ∧ DriveIs w' g s none 0 (Drv.new n) ∧ Below w.heap.size w w' ∧ w.heap.size ≤ g ∧ w.heap.size ≤ s :=
  (new_ok n w h1 h2).mono fun _ _ ⟨a, b, c⟩ => ⟨_, _, a, b, c, by omega, by omega⟩
/-- All that was there ahead of a drive is as it was. -/
theorem Drove.back {w W W' : World} {g s : Nat} {A : Option Addr} (h : Drove W W' g s none A) (hb : Below w.heap.size w W) (hg : w.heap.size ≤ g) (hs : w.heap.size ≤ s) : Below w.heap.size w W' :=
  hb.trans (h.below hb.size hg hs fun k hk => by cases hk)
end Go.Proofs.Ytppbcdcmpcagdaa
