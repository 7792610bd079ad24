/- The law MarksSets returns true at every input: its walk over the contracts of marks and of the reference's Bits and Bytes. No condition. -/
import Derived.Test.YtafofpnfpkbfpaaMarks8
import Derived.Deep.RegionHeld3
namespace Go.Proofs.Ytafofpnfpkbfpaa
open Go.RowKit Go.CP

set_option maxRecDepth 100000 in
theorem marksSets_walk (w : World) (A : Option Addr) (l : List UInt8) (c : Nat) (n : Int) (y : Bool) (hb : Bytes w A l) (hc : l.length ≤ c) (hl : l.length ≤ 140737488351232) (hn : -9223372036854775808 ≤ n ∧ n < 9223372036854775808) :
    Calls Try.prog 8 #[.slice A l.length c, .int .i64 n, .bool y] w fun e w' => e = .returned (.bool true) ∧ Below w.heap.size w w' := by
  by_cases h1 : l.length = 128
  · by_cases h2 : 0 ≤ n ∧ n < 1024
    · obtain ⟨h2, h3⟩ := h2
      obtain ⟨n, rfl⟩ := Int.eq_ofNat_of_zero_le h2
      have hr : rightE l.length n = 0 := by unfold rightE; (repeat' split) <;> omega
      have hs := set_ok A l c n y w hb h1 (by omega)
      have hh := fun w1 (hbw : Bytes w1 A l) => has_any A l c n w1 hbw
      rw [hr] at hh
      have HR := hid hr
      have HH := hid hh
      have H1 := hid h1
      have hne : ((l.length : Int) != 128) = false := by rw [bne_eq_false_iff_eq]; omega
      have hl8 : n < 8 * l.length := by omega
      clear hr hh h1
      go_enter Try.func8, Try.ntmps8
      go_wp2_with fail
      refine hs.mono ?_
      rintro e w1 ⟨A1, c1, rfl, ho1, hb1⟩
      clear hs
      go_wp2_with fail
      refine (HH.out w1 (hb.below hb1 (Nat.le_refl _))).mono ?_
      rintro e w1 ⟨rfl, rfl⟩
      rw [Int.toNat_natCast, show ((0 : Int) == 0 && bitOf l n) = bitOf l n from by simp]
      go_wp2_with fail
      refine (bits_any _ _ _ _ (hb.below hb1 (Nat.le_refl _)) (by have := H1.out; omega)).mono ?_
      rintro e w2 ⟨A2, c2, rfl, ho2, hb2⟩
      obtain ⟨g, cur, rfl, hg, -⟩ := ho2.open (by have := H1.out; omega)
      obtain ⟨g', off', e1, hc2⟩ := Cells.open ho2.cells (by rw [bitsL_len]; have := H1.out; omega)
      cases e1
      have hc3 := hc2 n (.bool (bitOf l n)) (bitsL_get l hl8)
      simp only [Nat.zero_add] at hc3
      have hfr := ho2.free rfl n
      clear hc2
      go_wp2_with fail
      have hsl := setBit_len l n y
      have HSL := hid hsl
      have hC : Cells (w2.setCell ⟨g, n, none⟩ (.bool y)) (some ⟨g, 0, none⟩) ((List.range (8 * l.length)).map fun j => .bool (if j = n then y else bitOf l j)) := by
        rw [← bitsL_set]; exact (ho2.set rfl n _).cells
      have hb13 : Below w1.heap.size w1 (w2.setCell ⟨g, n, none⟩ (.bool y)) := hb2.setCell (p := ⟨g, n, none⟩) hg _
      have hX := ho1.cells.below hb13 (Nat.le_refl _)
      have hb3 : Below w.heap.size w (w2.setCell ⟨g, n, none⟩ (.bool y)) := hb1.trans (hb13.mono hb1.size)
      generalize w2.setCell ⟨g, n, none⟩ (.bool y) = W3 at *
      clear hc3 hfr ho2 hb2 hb13 ho1 hsl
      have hcv : ∀ W, Below W3.heap.size W3 W → (convert 31 9 (.slice A1 l.length c1)).run Try.prog W = .ok (.string (bstr (setBit l n y))) W := by
        intro W hW
        have := run_bytes_string (P := Try.prog) (src := 31) (dst := 9) Try.underlying31 Try.underlying5 Try.underlying9 c1 (hX.below hW (Nat.le_refl _))
        rw [HSL.out] at this
        exact this
      go_region_held3 (fun W => Below W3.heap.size W3 W) (first | exact Below.refl _ _ | exact Below.drew (Below.refl _ _) | assumption | (refine Below.drew ?_; assumption))
        (first
          | (go_at_call 22; refine (awake_any _).mono ?_; rintro e w4 ⟨rfl, hb4⟩; have hk := Below.trans (by assumption : Below W3.heap.size W3 _) (hb4.mono (Below.size (by assumption : Below W3.heap.size W3 _))))
          | (go_at_call 24; refine (bytes_any _ (fun j => if j = n then y else bitOf l j) l.length _ _ (hC.below (by assumption : Below W3.heap.size W3 _) (Nat.le_refl _)) (by have := H1.out; omega)).mono ?_; rintro e w5 ⟨rfl, hb5⟩; have hk2 := Below.trans (by assumption : Below W3.heap.size W3 _) (hb5.mono (Below.size (by assumption : Below W3.heap.size W3 _)))))
      all_goals
        have hfin : (setBit l n y == rowB (fun j => if j = n then y else bitOf l j) l.length (8 * l.length)) = true := by
          rw [beq_iff_eq, ← HSL.out]
          refine (rowB_bits (setBit l n y) _ fun j hj => ?_).symm
          rw [bitOf_setBit l n j y hl8]
        have HFIN := hid hfin
        clear hfin hcv hX hC
        go_wp2
        go_ret
        exact ⟨ret_bool HFIN.out, hb3.trans ((by assumption : Below W3.heap.size W3 _).mono hb3.size)⟩
    · have hr : rightE l.length n = 4 := by unfold rightE; (repeat' split) <;> omega
      have hs := set_err A l.length c n y w (by omega)
      have hh := has_any A l c n w hb
      rw [hr] at hs hh
      have HR := hid hr
      have hne : ((l.length : Int) != 128) = false := by rw [bne_eq_false_iff_eq]; omega
      clear hr h1
      have h5 : n < 0 ∨ 1023 < n := by omega
      rcases h5 with h5 | h5
      all_goals
        clear h2
        go_enter Try.func8, Try.ntmps8
        go_wp2_with fail
        refine hs.mono ?_
        rintro e w' ⟨rfl, rfl⟩
        clear hs
        go_wp2_with fail
        refine hh.mono ?_
        rintro e w' ⟨rfl, rfl⟩
        clear hh
        go_wp2_with fail
        refine (awake_any _).mono ?_
        rintro e w2 ⟨rfl, hb2⟩
        go_wp2
        go_ret
        exact ⟨rfl, hb2⟩
  · have hr : rightE l.length n = 1 := by unfold rightE; (repeat' split) <;> omega
    have hs := set_err A l.length c n y w (by omega)
    have hh := has_any A l c n w hb
    rw [hr] at hs hh
    have HR := hid hr
    have hne : ((l.length : Int) != 128) = true := by rw [bne_iff_ne]; omega
    clear hr hn h1
    go_enter Try.func8, Try.ntmps8
    go_wp2_with fail
    refine hs.mono ?_
    rintro e w' ⟨rfl, rfl⟩
    clear hs
    go_wp2_with fail
    refine hh.mono ?_
    rintro e w' ⟨rfl, rfl⟩
    clear hh
    go_wp2_with fail
    refine (awake_any _).mono ?_
    rintro e w2 ⟨rfl, hb2⟩
    go_wp2
    go_ret
    exact ⟨rfl, hb2⟩
end Go.Proofs.Ytafofpnfpkbfpaa
