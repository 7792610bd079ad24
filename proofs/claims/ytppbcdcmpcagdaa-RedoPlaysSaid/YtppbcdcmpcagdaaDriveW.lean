/- The drive's simplest facts hold: awake of copyholdlaw05. -/
import Derived.Test.YtppbcdcmpcagdaaDriveK
namespace Go.Proofs.Ytppbcdcmpcagdaa
open Go.RowKit Go.CP

def bA : List UInt8 := (List.replicate 128 (0 : UInt8)).set 5 9
def zA : List UInt8 := List.replicate 128 0
def dA0 : Drv := Drv.new 64
def dA1 : Drv := (dA0.put [(3, bA)]).2
def dA2 : Drv := dA1.flush.2
def dA3 : Drv := (dA2.put [(4, bA), (5, bA)]).2
def dA4 : Drv := dA3.restart [0, 1]
theorem pair_of {p : Int × Drv} {x : Int} (h : p.1 = x) : p = (x, p.2) := by
  cases p
  simp_all
theorem aw1 : dA0.put [(3, bA)] = (0, dA1) := pair_of (by decide +kernel)
theorem aw2 : dA1.flush = (0, dA2) := pair_of (by decide +kernel)
theorem aw3 : dA2.put [(4, bA), (5, bA)] = (0, dA3) := pair_of (by decide +kernel)
theorem aw4 : dA4.get 3 = (0, bA) ∧ dA4.get 4 = (0, zA) ∧ dA4.get 5 = (0, bA) := by decide +kernel
theorem aw5 : (dA0.fuse = -1 ∧ dA1.fuse = -1 ∧ dA2.fuse = -1 ∧ dA3.fuse = -1) ∧ (dA1.list.length = 1 ∧ dA2.list.length = 0 ∧ dA3.list.length = 2 ∧ dA4.list.length = 0) ∧ dA4.sure.length = 64 := by decide +kernel
theorem aw6 : bA.length = 128 ∧ zA.length = 128 ∧ bA[5]? = some 9 ∧ zA[5]? = some 0 := by decide +kernel
theorem bA_cells : ((List.replicate 128 (0 : UInt8)).map bv).set 5 (.int .u8 9) = bA.map bv := by
  rw [bA, List.map_set]
  rfl
/-- A new row of 128 bytes 0, in plain code. -/
theorem mk_zeros {w : World} {ops : Array Oper} {rest : List Oper} {o : Oper} {a : Act} {Q : Exit → Act → World → Prop} (hgd : o.guard = none)
    (ho : o.op = .makeSlice 22 (.const (.int .i64 128)) (.const (.int .i64 128)))
    (h : ∀ w', Go.CP.Own w' w.heap.size 5 1 (some ⟨w.heap.size, 0, none⟩) 128 128 (zA.map bv) → Below w.heap.size w w' → w'.heap.size = w.heap.size + 1 →
      wpList Try.prog ops Q rest (a.put o.dst (.slice (some ⟨w.heap.size, 0, none⟩) 128 128)) w') : wpList Try.prog ops Q (o :: rest) a w :=
  mk_bytes hgd _ _ ho (k := .i64) (k' := .i64) (m := 128) rfl rfl (by decide) fun w' h1 h2 h3 => h w' h1 (Below.of_grown h2 (Nat.le_refl _) (fun _ hk => by cases hk)) h3
theorem wpl_make22 {P : Program} {ops : Array Oper} {rest : List Oper} {d : Option Tmp} {t : TypeId} {p : String} {af : Array Edge} {x y : Operand} {a : Act} {w : World} {Q : Exit → Act → World → Prop} (h : wpList P ops Q ({ dst := d, op := .makeSlice 22 x y, type := t, pos := p, after := af, guard := none } :: rest) a w) :
    wpList P ops Q ({ dst := d, op := .makeSlice 22 x y, type := t, pos := p, after := af, guard := none } :: rest) a w := h
theorem own_cell {w : World} {base : Nat} {e : TypeId} {sz n c g : Nat} {xs : List Value} (h : Go.CP.Own w base e sz (some ⟨g, 0, none⟩) n c xs) {j : Nat} {v : Value} (hv : xs[j]? = some v) : w.cell? ⟨g, j, none⟩ = some v := by
  obtain ⟨b, off, e1, e2⟩ := h.cells j v hv
  cases e1
  simpa using e2

theorem ints_lit {W : World} {t : TypeId} (l : List Int) : Ints (W.alloc (.cells (l.map iv).toArray t)) (some ⟨W.heap.size, 0, none⟩) l := fun j u hu =>
  ⟨_, 0, rfl, by rw [cell_of_row _ _ _ _ _ (0, 0) (heap_alloc_new W _), Nat.zero_add]; simpa using hu⟩
theorem restart_lit (W : World) (g s : Nat) (A : Option Addr) (c : Nat) (D : Drv) (h : DriveIs W g s A c D) (hn : D.list.length ≤ 1000000000000) (keep : List Int) (hk : keep.length ≤ 1000) :
    Calls Try.prog 102 #[.pointer (some ⟨g, 0, none⟩), .slice (some ⟨W.heap.size, 0, none⟩) keep.length keep.length] (W.alloc (.cells (keep.map iv).toArray 3)) fun e W' =>
      e = .returned (.tuple #[]) ∧ DriveIs W' g s none 0 (D.restart keep) ∧ Drove W W' g s A none :=
  (drv_restart _ g s A c D (h.alloc _) hn _ keep keep.length (ints_lit keep) (fun _ => far_new h fun k hk => by simp [blockOf] at hk; omega) (by omega)).mono fun _ _ ⟨a, b, d⟩ =>
    ⟨a, b, (Drove.of_below ((Below.refl _ _).alloc (Nat.le_refl _) _)).trans d⟩
/-- A Get's row, read. -/
theorem row_at {W : World} {b : Nat} {l : List UInt8} {t : TypeId} (h : W.heap[b]? = some (.cells (l.map bv).toArray t (0, 0))) {j : Nat} {x : UInt8} (hx : l[j]? = some x) : W.cell? ⟨b, j, none⟩ = some (bv x) := by
  rw [cell_of_row _ _ _ _ _ (0, 0) h]
  simp [hx]

set_option maxHeartbeats 2000000 in
set_option maxRecDepth 100000 in
theorem awake05_any (w : World) : Calls Try.prog 99 #[] w fun e w' => e = .returned (.bool true) ∧ Below w.heap.size w w' := by
  go_enter Try.func99, Try.ntmps99
  go_wp2_with fail
  refine (new_drive 64 w (by decide) (by decide)).mono ?_
  rintro e w1 ⟨g, s, rfl, hd1, hb1, hg, hs⟩
  have HD1 := hid hd1
  clear hd1
  go_wp2_with ((with_reducible refine wpl_make22 ?_); refine mk_zeros rfl rfl ?_; intro w2 ho2 hb2 hz2; have hc2 := own_cell ho2 (j := 5) (v := .int .u8 0) (by rfl); have hf2 := ho2.free rfl 5; have HO2 := hid ho2; have HB2 := hid hb2; have HZ2 := hid hz2; clear ho2 hb2 hz2)
  have ho3 := HO2.out.set rfl 5 (.int .u8 9)
  rw [show (zA.map bv).set 5 (.int .u8 9) = bA.map bv from bA_cells] at ho3
  have hb3 : Below w1.heap.size w1 (w2.setCell ⟨w1.heap.size, 5, none⟩ (.int .u8 9)) := HB2.out.setCell (p := ⟨w1.heap.size, 5, none⟩) (Nat.le_refl _) _
  have hz3 : (w2.setCell ⟨w1.heap.size, 5, none⟩ (.int .u8 9)).heap.size = w2.heap.size := World.size_setCell _ _ _
  obtain ⟨W3, hW3⟩ : ∃ W3, W3 = w2.setCell ⟨w1.heap.size, 5, none⟩ (.int .u8 9) := ⟨_, rfl⟩
  rw [← hW3] at ho3 hb3 hz3 ⊢
  clear hW3 hc2 hf2
  have hd3 := HD1.out.below hb3 (Nat.le_refl _)
  have hs3 : Safe W3 none g s (some ⟨w1.heap.size, 0, none⟩) bA := Safe.mk' ho3.cells (by rw [aw6.1]; decide) (far_new HD1.out fun k hk => by simp [blockOf] at hk; omega)
  have hv3 : Drove w1 W3 g s none none := Drove.of_below hb3
  have hp := put1 W3 g s none 0 dA0 hd3 (by rw [aw5.1.1]; decide) (by rw [aw5.1.1]; decide) (by decide) 3 _ bA 128 hs3 (by rw [aw6.1]; decide)
  rw [aw6.1, hz3, aw1] at hp
  refine hp.mono ?_
  clear hp hz3 hd3 hb3
  rintro e W4 ⟨rfl, A4, c4, hd4, hv4⟩
  have hs4 := hs3.drove hv4
  have hv34 := hv3.trans hv4
  have hp := drv_flush W4 g s A4 c4 dA1 hd4 (by rw [aw5.1.2.1]; decide) (by rw [aw5.1.2.1]; decide) (by rw [aw5.2.1.1]; decide)
  rw [aw2] at hp
  have HP := hid hp
  have HS4 := hid hs4
  have HV4 := hid hv34
  clear hp hs3 hs4 hv3 hv4 hv34 hd4 ho3
  go_wp2_with fail
  refine HP.out.mono ?_
  clear HP
  rintro e W5 ⟨rfl, A5, c5, hd5, hv5⟩
  have hs5 := HS4.out.drove hv5
  have HV5 := hid (HV4.out.trans hv5)
  have hp := put2 W5 g s A5 c5 dA2 hd5 (by rw [aw5.1.2.2.1]; decide) (by rw [aw5.1.2.2.1]; decide) (by rw [aw5.2.1.2.1]; decide) 4 5 _ _ bA bA 128 128 hs5 (by rw [aw6.1]; decide) hs5 (by rw [aw6.1]; decide)
  rw [aw6.1, aw3] at hp
  have HP := hid hp
  have HS5 := hid hs5
  clear hp hs5 hv5 hd5
  go_wp2_with fail
  refine HP.out.mono ?_
  clear HP
  rintro e W6 ⟨rfl, A6, c6, hd6, hv6⟩
  have HV6 := hid (HV5.out.trans hv6)
  have hp := restart_lit W6 g s A6 c6 dA3 hd6 (by rw [aw5.2.1.2.2.1]; decide) [0, 1] (by decide)
  have HP := hid hp
  clear hp hv6 hd6
  go_wp2_with fail
  refine HP.out.mono ?_
  clear HP
  rintro e W7 ⟨rfl, hd7, hv7⟩
  have hd7 : DriveIs W7 g s none 0 dA4 := hd7
  have HV7 := hid (HV6.out.trans hv7)
  have HP := hid (get_is W7 g s none 0 dA4 hd7 3 (by rw [aw5.2.2]; decide) (by rw [aw5.2.1.2.2.2]; decide) bA aw4.1)
  have HD7 := hid hd7
  clear hd7 hv7
  go_wp2_with fail
  refine HP.out.mono ?_
  clear HP
  rintro e W8 ⟨b8, rfl, hb8, hx8, hbb8⟩
  have hd8 := HD7.out.below hbb8 (Nat.le_refl _)
  have HP := hid (get_is W8 g s none 0 dA4 hd8 4 (by rw [aw5.2.2]; decide) (by rw [aw5.2.1.2.2.2]; decide) zA aw4.2.1)
  have HD8 := hid hd8
  have HX8 := hid hx8
  have HB8 := hid hbb8
  clear hd8 hx8 hbb8
  go_wp2_with fail
  refine HP.out.mono ?_
  clear HP
  rintro e W9 ⟨b9, rfl, hb9, hx9, hbb9⟩
  have hd9 := HD8.out.below hbb9 (Nat.le_refl _)
  have HP := hid (get_is W9 g s none 0 dA4 hd9 5 (by rw [aw5.2.2]; decide) (by rw [aw5.2.1.2.2.2]; decide) bA aw4.2.2)
  have HD9 := hid hd9
  have HX9 := hid hx9
  have HB9 := hid hbb9
  clear hd9 hx9 hbb9
  go_wp2_with fail
  refine HP.out.mono ?_
  clear HP
  rintro e W10 ⟨b10, rfl, hb10, hx10, hbb10⟩
  have hl8 : b8 < W8.heap.size := (Array.getElem?_eq_some_iff.1 HX8.out).1
  have hl9 : b9 < W9.heap.size := (Array.getElem?_eq_some_iff.1 HX9.out).1
  have hz9 := HB9.out.size
  have hx8 : W10.heap[b8]? = some (.cells (bA.map bv).toArray 214 (0, 0)) := (hbb10.block b8 (by omega)).trans ((HB9.out.block b8 hl8).trans HX8.out)
  have hx9 : W10.heap[b9]? = some (.cells (zA.map bv).toArray 214 (0, 0)) := (hbb10.block b9 hl9).trans HX9.out
  have q8 : W10.cell? ⟨b8, 5, none⟩ = some (.int .u8 9) := row_at hx8 aw6.2.2.1
  have q9 : W10.cell? ⟨b9, 5, none⟩ = some (.int .u8 0) := row_at hx9 aw6.2.2.2
  have q10 : W10.cell? ⟨b10, 5, none⟩ = some (.int .u8 9) := row_at hx10 aw6.2.2.1
  have hd10 := HD9.out.below hbb10 (Nat.le_refl _)
  have hp := sectors_any W10 g _ _ _ _ _ _ hd10.head
  rw [aw5.2.2] at hp
  have HP := hid hp
  have HB := hid ((HV7.out.back hb1 hg hs).trans (((HB8.out.trans (HB9.out.mono HB8.out.size)).trans (hbb10.mono (Nat.le_trans HB8.out.size HB9.out.size))).mono (Nat.le_trans hb1.size HV7.out.size)))
  clear hp hd10 hx8 hx9 hx10 hbb10 hl8 hl9 hz9 hb8 hb9 hb10
  go_wp2_with fail
  refine HP.out.mono ?_
  rintro e W11 ⟨rfl, hW⟩
  obtain rfl : W10 = W11 := hW.symm
  go_wp2
  go_ret
  exact ⟨rfl, HB.out⟩
end Go.Proofs.Ytppbcdcmpcagdaa
