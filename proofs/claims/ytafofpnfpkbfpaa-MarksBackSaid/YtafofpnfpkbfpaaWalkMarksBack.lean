/- The law MarksBack returns true at every input: its walk over the contracts of marks. No condition. -/
import Derived.Test.YtafofpnfpkbfpaaMarks8
namespace Go.Proofs.Ytafofpnfpkbfpaa
open Go.RowKit Go.CP

theorem eq_of_bits (l m : List UInt8) (h : l.length = m.length) (hb : ∀ j, j < 8 * l.length → bitOf l j = bitOf m j) : l = m := by
  rw [← rowB_bits l (bitOf l) (fun _ _ => rfl), ← rowB_bits m (bitOf l) (fun j hj => hb j (by omega)), h]

theorem has_at (A : Option Addr) (l : List UInt8) (c : Nat) (n : Nat) (w : World) (hb : Bytes w A l) (hl : l.length = 128) (hn : n < 1024) :
    Calls Try.prog 21 #[.slice A l.length c, .int .i64 n] w fun e w' => e = .returned (.tuple #[.bool (bitOf l n), .int .i64 0]) ∧ w' = w := by
  have h := has_any A l c n w hb
  have hr : rightE l.length n = 0 := by unfold rightE; (repeat' split) <;> omega
  rw [hr, Int.toNat_natCast, show ((0 : Int) == 0 && bitOf l n) = bitOf l n from by simp] at h
  exact h

set_option maxRecDepth 100000 in
theorem marksBack_walk (w : World) (A : Option Addr) (l : List UInt8) (c : Nat) (n m : Int) (hb : Bytes w A l) (_ : l.length ≤ c) (_ : l.length ≤ 140737488351232)
    (hn : 0 ≤ n ∧ n < 65536) (hm : 0 ≤ m ∧ m < 65536) :
    Calls Try.prog 11 #[.slice A l.length c, .int .u16 n, .int .u16 m] w fun e w' => e = .returned (.bool true) ∧ Below w.heap.size w w' := by
  obtain ⟨n, rfl⟩ := Int.eq_ofNat_of_zero_le hn.1
  obtain ⟨m, rfl⟩ := Int.eq_ofNat_of_zero_le hm.1
  by_cases h1 : l.length = 128
  · have hne : ((l.length : Int) != 128) = false := by rw [bne_eq_false_iff_eq]; omega
    have H1 := hid h1
    have hl6 : 1024 = 8 * l.length := by omega
    clear h1
    obtain ⟨i, hi, hi2⟩ : ∃ i : Nat, ((n : Int) % 1024) = i ∧ i < 1024 := ⟨n % 1024, by omega, by omega⟩
    obtain ⟨k, hk, hk2⟩ : ∃ k : Nat, ((m : Int) % 1024) = k ∧ k < 1024 := ⟨m % 1024, by omega, by omega⟩
    have HI := hid hi
    have HK := hid hk
    have HL := hid hl6
    clear hi hk hl6
    -- what the bits come to
    have s1 := setBit_len l i (!bitOf l i)
    have s2 := setBit_len (setBit l i (!bitOf l i)) i (bitOf l i)
    have b1 : ∀ j, bitOf (setBit l i (!bitOf l i)) j = if j = i then !bitOf l i else bitOf l j := fun j => bitOf_setBit l i j _ (by have := HL.out; omega)
    have b2 : setBit (setBit l i (!bitOf l i)) i (bitOf l i) = l := by
      refine eq_of_bits _ _ (by rw [s2, s1]) fun j _ => ?_
      rw [bitOf_setBit _ i j _ (by rw [s1]; have := HL.out; omega), b1]
      split <;> simp_all
    have b3 : bitOf (setBit l i (!bitOf l i)) i = !bitOf l i := by rw [b1, if_pos rfl]
    have b4 : bitOf (setBit l i (!bitOf l i)) k = if k = i then !bitOf l i else bitOf l k := b1 k
    have S1 := hid s1
    have B2 := hid b2
    have B3 := hid b3
    have B4 := hid b4
    clear s1 s2 b1 b2 b3 b4
    go_enter Try.func11, Try.ntmps11
    go_wp2_with (go_at_call 22; refine (awake_any _).mono ?_; rintro e w1 ⟨rfl, hb1⟩)
    rw [HI.out, HK.out]
    have hx1 := hb.below hb1 (Nat.le_refl _)
    refine (has_at _ _ _ _ _ hx1 H1.out hi2).mono ?_
    rintro e w1 ⟨rfl, rfl⟩
    go_wp2_with fail
    refine (has_at _ _ _ _ _ hx1 H1.out hk2).mono ?_
    rintro e w1 ⟨rfl, rfl⟩
    go_wp2_with fail
    refine (set_ok _ _ _ _ _ _ hx1 H1.out hi2).mono ?_
    rintro e w2 ⟨A2, c2, rfl, ho2, hb2⟩
    have hb02 := hb1.trans (hb2.mono hb1.size)
    have hl2 : (setBit l i (!bitOf l i)).length = 128 := by rw [S1.out, H1.out]
    have h4 := set_ok A2 (setBit l i (!bitOf l i)) c2 i (bitOf l i) w2 ho2.cells hl2 hi2
    have h5 := fun W hW => has_at A2 (setBit l i (!bitOf l i)) c2 i W hW hl2 hi2
    have h6 := fun W hW => has_at A2 (setBit l i (!bitOf l i)) c2 k W hW hl2 hk2
    rw [B3.out, S1.out] at h5
    rw [B4.out, S1.out] at h6
    rw [B2.out, S1.out] at h4
    have H4 := hid h4
    have H5 := hid h5
    have H6 := hid h6
    clear h4 h5 h6 hl2
    go_wp2_with fail
    refine H4.out.mono ?_
    rintro e w3 ⟨A3, c3, rfl, ho3, hb3⟩
    have hb03 := hb02.trans (hb3.mono hb02.size)
    have hc2 := ho2.cells.below hb3 (Nat.le_refl _)
    go_wp2_with fail
    refine (H5.out w3 hc2).mono ?_
    rintro e w3 ⟨rfl, rfl⟩
    go_wp2_with fail
    refine (H6.out w3 hc2).mono ?_
    rintro e w3 ⟨rfl, rfl⟩
    have hcv1 := run_bytes_string (P := Try.prog) (src := 31) (dst := 9) Try.underlying31 Try.underlying5 Try.underlying9 c3 ho3.cells
    have hcv2 := run_bytes_string (P := Try.prog) (src := 31) (dst := 9) Try.underlying31 Try.underlying5 Try.underlying9 c (hb.below hb03 (Nat.le_refl _))
    by_cases hik : k = i
    · have hq : ((i : Int) == (k : Int)) = true := by simp [hik]
      go_wp2
      go_ret
      exact ⟨rfl, hb03⟩
    · have hq : ((i : Int) == (k : Int)) = false := by simp; omega
      go_wp2
      go_ret
      exact ⟨rfl, hb03⟩
  · have hne : ((l.length : Int) != 128) = true := by rw [bne_iff_ne]; omega
    clear h1
    go_enter Try.func11, Try.ntmps11
    go_wp2_with (go_at_call 22; refine (awake_any _).mono ?_; rintro e w1 ⟨rfl, hb1⟩)
    go_ret
    exact ⟨rfl, hb1⟩
end Go.Proofs.Ytafofpnfpkbfpaa
