/- The simplest facts of tree hold (awake); what the law calls beside. -/
import Derived.Test.YtafofpnfpkbfpaaTree5
namespace Go.Proofs.Ytafofpnfpkbfpaa
open Go.RowKit Go.CP

def l8 : List Int := [43, 0, 0, 0, 0, 0, 0, 300]
theorem l8_bad : badB l8 = false := by decide +kernel
theorem l8_dec : decOk (encP l8) = true := by decide +kernel
theorem l8_back : decP (encP l8) 8 = l8 := by decide +kernel
theorem p2 : partsL 21 120 20 = [⟨0, 120, 128⟩, ⟨1, 0, 12⟩] := by simp [partsL]
theorem r30 : routeL 30 = [5, 2, 2] := by decide +kernel
theorem b129 : blocksN 129 = 2 := by decide +kernel

set_option maxRecDepth 100000 in
theorem awake11_any (w : World) : Calls Try.prog 14 #[] w fun e w' => e = .returned (.bool true) ∧ Below w.heap.size w w' := by
  have hr := route_ok 30 w (by omega)
  rw [r30] at hr
  go_enter Try.func14, Try.ntmps14
  go_wp2_with fail
  refine hr.mono ?_
  clear hr
  rintro e w1 ⟨A1, c1, rfl, ho1, hb1⟩
  go_wp2_with fail
  have hoL : Own (w1.alloc (.cells #[.int .i64 43, .int .i64 0, .int .i64 0, .int .i64 0, .int .i64 0, .int .i64 0, .int .i64 0, .int .i64 300] 3)) w1.heap.size 3 1 (some ⟨w1.heap.size, 0, none⟩) 8 8 (l8.map iv) :=
    Own.made w1 3 1 8 _ rfl (by decide)
  have hbL : Below w1.heap.size w1 (w1.alloc (.cells #[.int .i64 43, .int .i64 0, .int .i64 0, .int .i64 0, .int .i64 0, .int .i64 0, .int .i64 0, .int .i64 300] 3)) := (Below.refl _ _).alloc (Nat.le_refl _) _
  have he := encode_ok _ l8 8 _ hoL.cells rfl l8_bad
  refine he.mono ?_
  clear he
  rintro e w2 ⟨A2, c2, rfl, ho2, hb2⟩
  have hb12 := hbL.trans (hb2.mono hbL.size)
  have hb02 := hb1.trans (hb12.mono hb1.size)
  have ho1 := ho1.cells.below hb12 (Nat.le_refl _)
  clear hbL hoL hb12 hb1 hb2
  go_wp2_with fail
  have hd := decode_one A2 (encP l8) c2 w2 ho2.cells (encP_len _ rfl)
  rw [encP_len _ rfl] at hd
  refine hd.mono ?_
  clear hd
  rintro e w3 (⟨-, A3, c3, rfl, ho3, hb3⟩ | ⟨h, -, -⟩)
  case inr => rw [l8_dec] at h; cases h
  rw [l8_back] at ho3
  have hb03 := hb02.trans (hb3.mono hb02.size)
  have ho1 := ho1.below hb3 (Nat.le_refl _)
  clear hb3 hb02 ho2
  go_wp2_with fail
  have hp := parts_ok 120 20 w3 (by omega) (by omega)
  rw [p2] at hp
  refine hp.mono ?_
  clear hp
  rintro e w4 ⟨A4, c4, rfl, ho4, hb4⟩
  have hb04 := hb03.trans (hb4.mono hb03.size)
  have ho1 := ho1.below hb4 (Nat.le_refl _)
  have ho3 := ho3.cells.below hb4 (Nat.le_refl _)
  clear hb4 hb03
  obtain ⟨g1, o1, rfl, hc1⟩ := Cells.open ho1 (by decide)
  obtain ⟨g3, o3, rfl, hc3⟩ := Cells.open ho3 (by decide)
  obtain ⟨g4, o4, rfl, hc4⟩ := Cells.open ho4.cells (by decide)
  have d0 := hc1 0 (.int .i64 5) rfl
  have d1 := hc1 1 (.int .i64 2) rfl
  have d2 := hc1 2 (.int .i64 2) rfl
  have d3 := hc3 7 (.int .i64 300) rfl
  have d4 := hc4 5 (.int .i64 12) rfl
  simp only [Nat.add_zero] at d0
  have hbk := blocks_any 129 w4 (by omega)
  rw [b129] at hbk
  clear hc1 hc3 hc4 ho1 ho3 ho4
  go_wp2_with (go_at_call 19; refine hbk.mono ?_; rintro e w5 ⟨rfl, rfl⟩)
  go_ret
  exact ⟨rfl, hb04⟩
end Go.Proofs.Ytafofpnfpkbfpaa
