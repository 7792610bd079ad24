/- The law RedoHeads returns true at every input: a head for any numbers, and the numbers of any bytes that are one. No condition. -/
import Derived.Test.YtppbcdcmpcagdaaRedoS
namespace Go.Proofs.Ytppbcdcmpcagdaa
open Go.RowKit Go.CP

set_option maxHeartbeats 4000000 in
set_option maxRecDepth 100000 in
theorem redoHeads_walk (w : World) (A : Option Addr) (l : List Int) (c : Nat) (B : Option Addr) (b : List UInt8) (cb : Nat) (hA : Ints w A l) (_ : ∀ x ∈ l, -9223372036854775808 ≤ x ∧ x < 9223372036854775808) (hc : l.length ≤ c) (hl : l.length ≤ 140737488351232)
    (hB : Bytes w B b) (_ : b.length ≤ cb) (_ : b.length ≤ 140737488351232) :
    Calls Try.prog 35 #[.slice A l.length c, .slice B b.length cb] w fun e w' => e = .returned (.bool true) ∧ Below w.heap.size w w' := by
  have HA := hid hA
  have HB := hid hB
  clear hA hB
  cases hg : goodB l with
  | false =>
    have HP1 := hid (head_err A l c w HA.out hc hl hg)
    have HP2 := hid (rhead_err A l c w HA.out hl hg)
    have hcv2 : ∀ W : World, (convert 22 9 (.slice none 0 0)).run Try.prog W = .ok (.string (bstr [])) W := fun W => run_bytes_string (P := Try.prog) Try.underlying22 Try.underlying5 Try.underlying9 (A := none) (l := []) 0 (Cells.nil _ _)
    clear hg
    go_enter Try.func35, Try.ntmps35
    go_wp2_with fail
    refine HP1.out.mono ?_
    rintro e w1 ⟨rfl, hw⟩
    obtain rfl : w = w1 := hw.symm
    clear hw HP1
    go_wp2_with fail
    refine HP2.out.mono ?_
    clear HP2
    rintro e w2 ⟨rfl, hb2⟩
    have hp := heads_any B b cb w2 (Cells.below HB.out hb2 (Nat.le_refl _))
    have HP := hid hp
    have HB2 := hid hb2
    clear hp hb2
    go_wp2_with fail
    refine HP.out.mono ?_
    clear HP
    rintro e w3 ⟨hb3, ⟨k, E, ce, hr, rfl, ho3⟩ | ⟨hr, rfl⟩⟩
    · have HB3 := hid (below_t HB2.out hb3 HB2.out.size)
      obtain ⟨hgk, hhk⟩ : goodB k = true ∧ headL k = b := ⟨(headsL_some hr).1, (headsL_some hr).2.1⟩
      have HP := hid (rhead_ok E k ce w3 ho3.cells hgk)
      have HHK := hid hhk
      clear hr ho3 hgk hhk hb3
      go_wp2_with fail
      refine HP.out.mono ?_
      clear HP
      rintro e w4 ⟨rfl, hb4⟩
      have HB4 := hid (below_t HB3.out hb4 HB3.out.size)
      clear hb4
      go_wp2_with fail
      refine (awake06_any _).mono ?_
      rintro e w5 ⟨rfl, hb5⟩
      have HB5 := hid (below_t HB4.out hb5 HB4.out.size)
      have hcb := cv_bytes cb (Cells.below HB.out HB5.out (Nat.le_refl _))
      rw [HHK.out]
      clear hb5
      go_wp2_with fail
      go_ret
      exact ⟨ret_bool (by simp), HB5.out⟩
    · have HB3 := hid (below_t HB2.out hb3 HB2.out.size)
      clear hr hb3
      go_wp2_with fail
      refine (awake06_any _).mono ?_
      rintro e w5 ⟨rfl, hb5⟩
      have HB5 := hid (below_t HB3.out hb5 HB3.out.size)
      clear hb5
      go_wp2_with fail
      go_ret
      exact ⟨rfl, HB5.out⟩
  | true =>
    have h24 := goodB_len hg
    have HP1 := hid (head_ok A l c w HA.out hc hg)
    have HHL := hid (headL_len h24)
    have HG := hid hg
    clear hg
    go_enter Try.func35, Try.ntmps35
    go_wp2_with fail
    refine HP1.out.mono ?_
    rintro e w1 ⟨X, cx, rfl, ho1, hb1⟩
    have HP2 := hid (rhead_ok A l c w1 (Cells.below HA.out hb1 (Nat.le_refl _)) HG.out)
    have HO1 := hid ho1
    have HB1 := hid hb1
    clear HP1 ho1 hb1
    go_wp2_with fail
    refine HP2.out.mono ?_
    clear HP2
    rintro e w2 ⟨rfl, hb2⟩
    have HO2 := hid (HO1.out.below hb2 (Nat.le_refl _))
    have HB2 := hid (below_t HB1.out hb2 HB1.out.size)
    have hcx := cv_bytes cx HO2.out.cells
    rw [HHL.out] at hcx
    have hp := heads_any X (headL l) cx w2 HO2.out.cells
    rw [HHL.out, headsL_head HG.out] at hp
    have HP := hid hp
    clear hp hb2 HO1 HB1
    go_wp2_with fail
    refine HP.out.mono ?_
    clear HP hcx
    rintro e w3 ⟨hb3, ⟨k, E, ce, hr, rfl, ho3⟩ | ⟨hr, -⟩⟩
    · obtain rfl : l = k := Option.some.inj hr
      have HB3 := hid (below_t HB2.out hb3 HB2.out.size)
      have HP := hid (ints_any E A l ce c w3 ho3.cells (Cells.below HA.out HB3.out (Nat.le_refl _)) hl)
      clear hr ho3 hb3
      go_wp2_with fail
      refine HP.out.mono ?_
      clear HP
      rintro e w4 ⟨rfl, hb4⟩
      have HB4 := hid (below_t HB3.out hb4 HB3.out.size)
      have HP := hid (heads_any B b cb w4 (Cells.below HB.out HB4.out (Nat.le_refl _)))
      clear hb4
      go_wp2_with fail
      refine HP.out.mono ?_
      clear HP
      rintro e w5 ⟨hb5, ⟨k, E2, ce2, hr, rfl, ho5⟩ | ⟨hr, rfl⟩⟩
      · have HB5 := hid (below_t HB4.out hb5 HB4.out.size)
        obtain ⟨hgk, hhk⟩ : goodB k = true ∧ headL k = b := ⟨(headsL_some hr).1, (headsL_some hr).2.1⟩
        have HP := hid (rhead_ok E2 k ce2 w5 ho5.cells hgk)
        have HHK := hid hhk
        clear hr ho5 hgk hhk hb5
        go_wp2_with fail
        refine HP.out.mono ?_
        clear HP
        rintro e w6 ⟨rfl, hb6⟩
        have HB6 := hid (below_t HB5.out hb6 HB5.out.size)
        clear hb6
        go_wp2_with fail
        refine (awake06_any _).mono ?_
        rintro e w7 ⟨rfl, hb7⟩
        have HB7 := hid (below_t HB6.out hb7 HB6.out.size)
        have hcb := cv_bytes cb (Cells.below HB.out HB7.out (Nat.le_refl _))
        rw [HHK.out]
        clear hb7
        go_wp2_with fail
        go_ret
        exact ⟨ret_bool (by simp), HB7.out⟩
      · have HB5 := hid (below_t HB4.out hb5 HB4.out.size)
        clear hr hb5
        go_wp2_with fail
        refine (awake06_any _).mono ?_
        rintro e w7 ⟨rfl, hb7⟩
        have HB7 := hid (below_t HB5.out hb7 HB5.out.size)
        clear hb7
        go_wp2_with fail
        go_ret
        exact ⟨rfl, HB7.out⟩
    · cases hr
end Go.Proofs.Ytppbcdcmpcagdaa
