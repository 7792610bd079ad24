/- copyholdlaw03's awake returns true. -/
import Derived.Test.YtppbcdcmpcagdaaField7
import Derived.Lib.SlBytesConst
namespace Go.Proofs.Ytppbcdcmpcagdaa
open Go.RowKit Go.CP

def w4 : List UInt8 := [2, 1, 0, 0]
def w8 : List UInt8 := [2, 1, 0, 0, 2, 0, 97, 98]
def ab : ByteArray := ⟨#[97, 98]⟩
def nine : List UInt8 := [49, 50, 51, 52, 53, 54, 55, 56, 57]
theorem k1 : little 258 4 = w4 := by decide +kernel
theorem k2 : w4 ++ little ab.size 2 ++ ab.data.toList = w8 := by decide +kernel
theorem k3 : openE (frameL 81 w8) = 0 := by decide +kernel
theorem k4 : bodyL (frameL 81 w8) = w8 := by decide +kernel
theorem k5 : (frameL 81 w8)[0]? = some 81 := by decide +kernel
theorem k6 : bigL (tOut w8 false 4) = 258 := by decide +kernel
theorem k7 : tL w8 false 4 = [2, 0, 97, 98] := by decide +kernel
theorem k8 : tB w8 false 4 = false := by decide +kernel
theorem k9 : bstr (tOut (tL [2, 0, 97, 98] false 2) (tB [2, 0, 97, 98] false 2) (txN [2, 0, 97, 98] false)) = ab := by decide +kernel
theorem k10 : tL (tL [2, 0, 97, 98] false 2) (tB [2, 0, 97, 98] false 2) (txN [2, 0, 97, 98] false) = [] := by decide +kernel
theorem k11 : tB (tL [2, 0, 97, 98] false 2) (tB [2, 0, 97, 98] false 2) (txN [2, 0, 97, 98] false) = false := by decide +kernel
theorem k12 : (sumL nine).toNat = 3421780262 := by decide +kernel

theorem cells_new (w : World) (t : TypeId) (fr : Nat × Nat) : ∀ (l : List UInt8), Bytes (w.alloc (.cells (l.map bv).toArray t fr)) (some ⟨w.heap.size, 0, none⟩) l := fun l j u h =>
  ⟨_, _, rfl, by rw [World.cell?, World.alloc]; simpa using h⟩

set_option maxHeartbeats 1000000 in
set_option maxRecDepth 100000 in
theorem awake_any (w : World) : Calls Try.prog 44 #[] w fun e w' => e = .returned (.bool true) ∧ Below w.heap.size w w' := by
  have h1 := num_ok none [] 0 258 w (Cells.nil _ _) (by simp) (by omega)
  rw [k1] at h1
  have h2 := fun A c w1 (hb : Bytes w1 A w4) => text_ok A w4 c ab w1 hb (by decide) (by decide)
  rw [k2] at h2
  have h3 := fun A c w1 (hb : Bytes w1 A w8) => frame_ok 81 A w8 c w1 hb (by decide)
  have h4 := fun A c w1 (hb : Bytes w1 A (frameL 81 w8)) (hc : (frameL 81 w8).length ≤ c) => open_any A (frameL 81 w8) c w1 hb hc (by rw [frameL_len]; decide)
  have h5 := fun A c w1 (hb : Bytes w1 A w8) => read_any A w8 c w1 hb (by decide)
  have H2 := hid h2
  have H3 := hid h3
  have H4 := hid h4
  have H5 := hid h5
  clear h2 h3 h4 h5
  go_enter Try.func44, Try.ntmps44
  go_wp2_with fail
  refine h1.mono ?_
  clear h1
  rintro e w1 ⟨A1, c1, rfl, ho1, hb1⟩
  go_wp2_with fail
  refine (H2.out A1 c1 w1 ho1.cells).mono ?_
  rintro e w2 ⟨A2, c2, rfl, ho2, hb2⟩
  have hb02 := hb1.trans (hb2.mono hb1.size)
  go_wp2_with fail
  refine (H3.out A2 c2 w2 ho2.cells).mono ?_
  rintro e w3 ⟨A3, c3, rfl, ho3, hb3⟩
  have hb03 := hb02.trans (hb3.mono hb02.size)
  go_wp2_with fail
  have h4 := H4.out A3 c3 w3 ho3.cells ho3.le.1
  refine h4.mono ?_
  clear h4
  rintro e w4 (⟨-, A4, c4, t, rfl, ht, ho4, hb4⟩ | ⟨h, -, -⟩)
  case inr => exact absurd k3 h
  rw [k5] at ht
  cases ht
  rw [k4] at ho4
  rw [k4]
  have hb04 := hb03.trans (hb4.mono hb03.size)
  go_wp2_with fail
  refine (H5.out A4 c4 w4 ho4.cells).mono ?_
  rintro e w5 ⟨g, B, rfl, hf5, hg5, hB5, hb5⟩
  have hb05 := hb04.trans (hb5.mono hb04.size)
  have hn := fnum_any g B w8 false w5 hf5
  rw [k6, k7, k8] at hn
  have hbg : w.heap.size ≤ g := Nat.le_trans hb04.size hg5
  clear ho1 ho2 ho3 ho4 H2 H3 H4 H5
  go_wp2_with fail
  refine hn.mono ?_
  clear hn
  rintro e w6 ⟨rfl, hf6, ht6⟩
  have hb06 := hb05.trans (ht6.1.mono hbg)
  have hx := ftext_any g B [2, 0, 97, 98] false w6 hf6
  rw [k9, k10, k11] at hx
  go_wp2_with fail
  refine hx.mono ?_
  clear hx
  rintro e w7 ⟨rfl, hf7, ht7⟩
  have hb07 := hb06.trans (ht7.1.mono hbg)
  have he := fend_any g B [] false w7 hf7
  rw [show endE [] false = 0 from rfl] at he
  have hs := sum_any (some ⟨w7.heap.size, 0, none⟩) nine 9 (w7.alloc (.cells (nine.map bv).toArray 5 (9, 10))) (cells_new w7 5 (9, 10) nine) (by decide)
  rw [k12, show nine.length = 9 from rfl] at hs
  have HS := hid hs
  clear hs
  have kc := fun (w : World) (C : Array Value) (n c : Nat) => Lib.run_convert_bytes_const (P := Try.prog) w 22 5 C n c Try.underlying22 Try.underlying5
  rw [show ab = (⟨#[97, 98]⟩ : ByteArray) from rfl]
  go_wp2_with (first
    | (go_at_call 50; refine he.mono ?_; rintro e w8 ⟨rfl, rfl⟩)
    | (go_at_call 55; refine HS.out.mono ?_; rintro e w9 ⟨rfl, rfl⟩))
  go_ret
  exact ⟨rfl, hb07.alloc hb07.size _⟩
end Go.Proofs.Ytppbcdcmpcagdaa
