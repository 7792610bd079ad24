/- The law MarksFinds returns true at every input: its walk over the contracts of marks and of the reference's Bits. No condition. -/
import Derived.Test.YtafofpnfpkbfpaaMarks8
namespace Go.Proofs.Ytafofpnfpkbfpaa
open Go.RowKit Go.CP

theorem cn_head (l : List UInt8) (m : Nat) : ∀ k, cn l m (k + 1) = (if bitOf l m then 1 else 0) + cn l (m + 1) k
  | 0 => by simp [cn]
  | k + 1 => by
    rw [cn, cn_head l m k, cn, show m + (k + 1) = m + 1 + k from by omega]
    omega
/-- The first that is free from m up to b, or -1. -/
def fI (l : List UInt8) (m b : Nat) : Int := if ff l (b - m) m = b then -1 else ff l (b - m) m
theorem ff_le (l : List UInt8) : ∀ d n, n ≤ ff l d n ∧ ff l d n ≤ n + d
  | 0, n => by simp [ff]
  | d + 1, n => by have := ff_le l d (n + 1); unfold ff; split <;> omega

set_option maxRecDepth 100000 in
theorem marksFinds_walk (w : World) (A : Option Addr) (l : List UInt8) (c : Nat) (a b : Int) (hb : Bytes w A l) (_ : l.length ≤ c) (_ : l.length ≤ 140737488351232)
    (ha : -9223372036854775808 ≤ a ∧ a < 9223372036854775808) (hbn : -9223372036854775808 ≤ b ∧ b < 9223372036854775808) :
    Calls Try.prog 9 #[.slice A l.length c, .int .i64 a, .int .i64 b] w fun e w' => e = .returned (.bool true) ∧ Below w.heap.size w w' := by
  by_cases h1 : l.length = 128
  · by_cases h2 : 0 ≤ a ∧ b ≤ 1024 ∧ a ≤ b
    · obtain ⟨h2, h3, h4⟩ := h2
      obtain ⟨a, rfl⟩ := Int.eq_ofNat_of_zero_le h2
      obtain ⟨b, rfl⟩ := Int.eq_ofNat_of_zero_le (show 0 ≤ b by omega)
      have hf := first_ok A l c a b w hb h1 (by omega) (by omega)
      have hk := count_ok A l c a b w hb h1 (by omega) (by omega)
      have H1 := hid h1
      have hne : ((l.length : Int) != 128) = false := by rw [bne_eq_false_iff_eq]; omega
      have hl8 : b ≤ 8 * l.length := by omega
      have hl6 : l.length ≤ 1000000 := by omega
      clear h1
      go_enter Try.func9, Try.ntmps9
      go_wp2_with fail
      refine hf.mono ?_
      rintro e w' ⟨rfl, rfl⟩
      clear hf
      go_wp2_with fail
      refine hk.mono ?_
      rintro e w' ⟨rfl, rfl⟩
      clear hk
      go_wp2_with fail
      refine (bits_any _ _ _ _ hb hl6).mono ?_
      rintro e w2 ⟨A2, c2, rfl, ho2, hb2⟩
      go_wp2_with fail
      go_loop [12, 13, 14] (fun fv cv iv => ∃ m : Nat, a ≤ m ∧ m ≤ b ∧ fv = .int .i64 (fI l m b) ∧ cv = .int .i64 (cn l m (b - m)) ∧ iv = .int .i64 ((m : Int) - 1)) (fun _ _ iv => (intOf iv + 1).toNat)
      case atStart => exact ⟨b, by omega, by omega, by simp [fI, ff], by simp [cn], rfl⟩
      case round =>
        obtain ⟨m, hm1, hm2, rfl, rfl, rfl⟩ := hrel
        by_cases hlt : a < m
        · obtain ⟨i, rfl⟩ : ∃ i, m = i + 1 := ⟨m - 1, by omega⟩
          have hs1 : cn l i (b - i) = (if bitOf l i then 1 else 0) + cn l (i + 1) (b - (i + 1)) := by
            rw [show b - i = (b - (i + 1)) + 1 from by omega, cn_head]
          have hs2 : ff l (b - i) i = if bitOf l i then ff l (b - (i + 1)) (i + 1) else i := by
            rw [show b - i = (b - (i + 1)) + 1 from by omega, ff]
          have hle := cn_le l (i + 1) (b - (i + 1))
          obtain ⟨g', off', rfl, hc2⟩ := Cells.open ho2.cells (by rw [bitsL_len]; omega)
          have hc3 := hc2 i (.bool (bitOf l i)) (bitsL_get l (by omega))
          have hi1 : ((i + 1 : Nat) : Int) - 1 = (i : Int) := by omega
          rw [hi1]
          have HS1 := hid hs1
          have HS2 := hid hs2
          have hcb : cn l (i + 1) (b - (i + 1)) ≤ 1024 := by omega
          generalize cn l (i + 1) (b - (i + 1)) = q at *
          clear hc2 hs1 hs2 hi1
          by_cases hon : bitOf l i = true
          · rw [hon] at hc3
            go_wp2_with fail
            go_round
            case rel =>
              refine ⟨i, by omega, by omega, ?_, ?_, rfl⟩
              · rw [fI, fI, HS2.out, if_pos hon]
              · rw [HS1.out, if_pos hon, Nat.add_comm]; go_num
            case measure => first | (simp [intOf]; done) | (simp [intOf]; omega)
          · have hon' : bitOf l i = false := by simpa using hon
            rw [hon'] at hc3
            clear hon
            go_wp2_with fail
            go_round
            case rel =>
              refine ⟨i, by omega, by omega, ?_, ?_, rfl⟩
              · have hz : ff l (b - i) i = i := by rw [HS2.out, if_neg (by simp [hon'])]
                rw [fI, hz, if_neg (show ¬ i = b by omega)]
              · rw [HS1.out, if_neg (by simp [hon']), Nat.zero_add]
            case measure => first | (simp [intOf]; done) | (simp [intOf]; omega)
        · have hma : m = a := by omega
          subst hma
          by_cases hff : ff l (b - m) m = b
          · have e1 : fI l m b = -1 := if_pos hff
            have e2 : firstN l m b = 0 := if_pos hff
            have e3 : firstE l m b = 10 := if_pos hff
            rw [e1, e2, e3]
            clear e1 e2 e3
            have HFF := hid hff
            clear hff
            go_wp2_with fail
            refine (awake_any _).mono ?_
            rintro e w4 ⟨rfl, hb4⟩
            go_wp2
            go_ret
            exact ⟨ret_bool (by simp), hb2.trans (hb4.mono hb2.size)⟩
          · have hfl := ff_le l (b - m) m
            have e1 : fI l m b = ff l (b - m) m := if_neg hff
            have e2 : firstN l m b = ff l (b - m) m := if_neg hff
            have e3 : firstE l m b = 0 := if_neg hff
            rw [e1, e2, e3]
            clear e1 e2 e3
            generalize ff l (b - m) m = z at *
            clear hff
            go_wp2_with fail
            refine (awake_any _).mono ?_
            rintro e w4 ⟨rfl, hb4⟩
            go_wp2
            go_ret
            exact ⟨ret_bool (by simp), hb2.trans (hb4.mono hb2.size)⟩
    · have hr : stretchE l.length a b = 4 := by unfold stretchE; (repeat' split) <;> omega
      have hf := first_err A l.length c a b w (by omega)
      have hk := count_err A l.length c a b w (by omega)
      rw [hr] at hf hk
      have hne : ((l.length : Int) != 128) = false := by rw [bne_eq_false_iff_eq]; omega
      clear hr h1
      have h5 : a < 0 ∨ (0 ≤ a ∧ 1024 < b) ∨ (0 ≤ a ∧ b ≤ 1024 ∧ b < a) := by omega
      rcases h5 with h5 | ⟨h5, h6⟩ | ⟨h5, h6, h7⟩
      all_goals
        clear h2
        go_enter Try.func9, Try.ntmps9
        go_wp2_with fail
        refine hf.mono ?_
        rintro e w' ⟨rfl, rfl⟩
        clear hf
        go_wp2_with fail
        refine hk.mono ?_
        rintro e w' ⟨rfl, rfl⟩
        clear hk
        go_wp2_with fail
        refine (awake_any _).mono ?_
        rintro e w2 ⟨rfl, hb2⟩
        go_wp2
        go_ret
        exact ⟨rfl, hb2⟩
  · have hr : stretchE l.length a b = 1 := by unfold stretchE; (repeat' split) <;> omega
    have hf := first_err A l.length c a b w (by omega)
    have hk := count_err A l.length c a b w (by omega)
    rw [hr] at hf hk
    have hne : ((l.length : Int) != 128) = true := by rw [bne_iff_ne]; omega
    clear hr h1
    go_enter Try.func9, Try.ntmps9
    go_wp2_with fail
    refine hf.mono ?_
    rintro e w' ⟨rfl, rfl⟩
    clear hf
    go_wp2_with fail
    refine hk.mono ?_
    rintro e w' ⟨rfl, rfl⟩
    clear hk
    go_wp2_with fail
    refine (awake_any _).mono ?_
    rintro e w2 ⟨rfl, hb2⟩
    go_wp2
    go_ret
    exact ⟨rfl, hb2⟩
end Go.Proofs.Ytafofpnfpkbfpaa
