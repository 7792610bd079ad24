/- Contract of the reference of package verb: Alike of a reply and itself. -/
import Derived.Test.YtppbcdcmpcagdaaVerbT
import Derived.Deep.QuietTactic
import Derived.BigQuiet
namespace Go.Proofs.Ytppbcdcmpcagdaa
open Go.RowKit Go.CP

theorem rdrewN_twice (w : World) (a b : Nat) : (w.drewN a).drewN b = w.drewN (a + b) := by
  simp [World.drewN, Nat.add_assoc]
theorem rbelowN {B : Nat} {w w' : World} (h : ∃ n, w' = w.drewN n) : Below B w w' := by
  obtain ⟨n, rfl⟩ := h
  exact below_drewN (Below.refl _ _) n
theorem rself (m : List UInt8) : (bstr m == bstr m) = true ∧ (bstr m != bstr m) = false := by
  have h : (bstr m == bstr m) = true := by rw [bstr_eq]; simp
  exact ⟨h, by rw [bne, h]; rfl⟩
set_option maxHeartbeats 4000000 in
set_option maxRecDepth 100000 in
theorem alike_in (life seq epoch err node gen kind links size change : Int) (data : List UInt8) (names : List (List UInt8)) (A : Option Addr) (c : Nat) (B : Option Addr) (cb : Nat) (A' : Option Addr) (c' : Nat) (B' : Option Addr) (cb' : Nat) (w : World)
    (h : Bytes w A data) (hn : Strs w B names) (h' : Bytes w A' data) (hn' : Strs w B' names) (hl : names.length ≤ 100000) :
    Calls Try.prog 90 #[rval ⟨life, seq, epoch, err, node, gen, kind, links, size, change, data, names⟩ A c B cb, rval ⟨life, seq, epoch, err, node, gen, kind, links, size, change, data, names⟩ A' c' B' cb'] w fun e w' => e = .returned (.bool true) ∧ Below w.heap.size w w' := by
  have hli : (names.length : Int) ≤ 100000 := by omega
  have hcv := cv_bytes c ((h.alloc (.cells (rcells ⟨life, seq, epoch, err, node, gen, kind, links, size, change, data, names⟩ A c B cb).toArray 112)).alloc (.cells (rcells ⟨life, seq, epoch, err, node, gen, kind, links, size, change, data, names⟩ A' c' B' cb').toArray 112))
  have hcv' := cv_bytes c' ((h'.alloc (.cells (rcells ⟨life, seq, epoch, err, node, gen, kind, links, size, change, data, names⟩ A c B cb).toArray 112)).alloc (.cells (rcells ⟨life, seq, epoch, err, node, gen, kind, links, size, change, data, names⟩ A' c' B' cb').toArray 112))
  obtain ⟨w1, hw1⟩ : ∃ w1, w1 = (w.alloc (.cells (rcells ⟨life, seq, epoch, err, node, gen, kind, links, size, change, data, names⟩ A c B cb).toArray 112)).alloc (.cells (rcells ⟨life, seq, epoch, err, node, gen, kind, links, size, change, data, names⟩ A' c' B' cb').toArray 112) := ⟨_, rfl⟩
  have HX : Hid (Blk w1 w.heap.size 112 (rcells ⟨life, seq, epoch, err, node, gen, kind, links, size, change, data, names⟩ A c B cb)) := hid (by rw [hw1]; exact (Blk.new w 112 _).alloc _)
  have HY : Hid (Blk w1 (w.heap.size + 1) 112 (rcells ⟨life, seq, epoch, err, node, gen, kind, links, size, change, data, names⟩ A' c' B' cb')) := hid (by
    rw [hw1]
    have := Blk.new (w.alloc (.cells (rcells ⟨life, seq, epoch, err, node, gen, kind, links, size, change, data, names⟩ A c B cb).toArray 112)) 112 (rcells ⟨life, seq, epoch, err, node, gen, kind, links, size, change, data, names⟩ A' c' B' cb')
    rwa [World.size_alloc] at this)
  have HN : Hid (Strs w1 B names ∧ Strs w1 B' names) := hid (by rw [hw1]; exact ⟨(Cells.alloc (Cells.alloc hn _) _), (Cells.alloc (Cells.alloc hn' _) _)⟩)
  have HB : Hid (Below w.heap.size w w1) := hid (by rw [hw1]; exact ((Below.refl _ _).alloc (Nat.le_refl _) _).alloc (by simp) _)
  have HW1 := hid hw1
  have hsf := rself data
  clear h hn h' hn' hw1
  simp only [rval, rcells] at hcv hcv' HW1 HX HY ⊢
  go_enter Try.func90, Try.ntmps90
  go_wp2_with fail
  rw [← HW1.out]
  clear HW1 hcv hcv' hsf
  go_loopw [5] (fun iv' wr => ∃ i : Nat, i ≤ names.length ∧ iv' = .int .i64 i ∧ Hid (∃ n, wr = w1.drewN n)) (fun iv' _ => names.length - (intOf iv').toNat)
  case atStart => exact ⟨0, by omega, rfl, hid ⟨0, rfl⟩⟩
  case round =>
    obtain ⟨i, hi, rfl, HW⟩ := hrel
    have HBW := hid (rbelowN (B := w1.heap.size) HW.out)
    have hx11 : wr.cell? ⟨w.heap.size, 11, none⟩ = some (.slice B names.length cb) := (HX.out.below HBW.out).cell (j := 11) rfl
    have hy11 : wr.cell? ⟨w.heap.size + 1, 11, none⟩ = some (.slice B' names.length cb') := (HY.out.below HBW.out).cell (j := 11) rfl
    by_cases hlt : i < names.length
    · obtain ⟨y, hy⟩ := get_of_lt names hlt
      obtain ⟨b1, o1, rfl, hd1⟩ := Strs.at (Cells.below HN.out.1 HBW.out (Nat.le_refl _)) hy
      obtain ⟨b2, o2, rfl, hd2⟩ := Strs.at (Cells.below HN.out.2 HBW.out (Nat.le_refl _)) hy
      have hii : (i : Int) < (names.length : Int) := by omega
      have hsf := rself y
      clear hy
      go_wp2_with fail
      go_quiet (fail)
      go_wp2_with fail
      go_roundw
      case rel =>
        obtain ⟨n1, hn1⟩ := HW.out
        exact ⟨i + 1, by omega, by go_num, hid ⟨_, by rw [hn1, rdrewN_twice]⟩⟩
      case measure => simp [intOf]; omega
    · have hik : ¬ (i : Int) < (names.length : Int) := by omega
      go_wp2_with fail
      go_ret
      exact ⟨rfl, below_t HB.out (rbelowN HW.out) HB.out.size⟩
theorem alike_same (r : Rp) (A : Option Addr) (c : Nat) (B : Option Addr) (cb : Nat) (A' : Option Addr) (c' : Nat) (B' : Option Addr) (cb' : Nat) (w : World)
    (h : Bytes w A r.data) (hn : Strs w B r.names) (h' : Bytes w A' r.data) (hn' : Strs w B' r.names) (hl : r.names.length ≤ 100000) :
    Calls Try.prog 90 #[rval r A c B cb, rval r A' c' B' cb'] w fun e w' => e = .returned (.bool true) ∧ Below w.heap.size w w' := by
  obtain ⟨life, seq, epoch, err, node, gen, kind, links, size, change, data, names⟩ := r
  exact alike_in life seq epoch err node gen kind links size change data names A c B cb A' c' B' cb' w h hn h' hn' hl
end Go.Proofs.Ytppbcdcmpcagdaa
