/- Contract of marks.Count. -/
import Derived.Test.YtafofpnfpkbfpaaMarks3
namespace Go.Proofs.Ytafofpnfpkbfpaa
open Go.RowKit Go.CP

/-- How many of the k numbers from a on are marked. -/
def cn (l : List UInt8) (a : Nat) : Nat → Nat
  | 0 => 0
  | k + 1 => cn l a k + if bitOf l (a + k) then 1 else 0
theorem cn_le (l : List UInt8) (a : Nat) : ∀ k, cn l a k ≤ k
  | 0 => Nat.le_refl _
  | k + 1 => by have := cn_le l a k; unfold cn; split <;> omega

theorem count_err (A : Option Addr) (len c : Nat) (a b : Int) (w : World) (h : stretchE len a b ≠ 0) :
    Calls Try.prog 26 #[.slice A len c, .int .i64 a, .int .i64 b] w fun e w' => e = .returned (.tuple #[.int .i64 0, .int .i64 (stretchE len a b)]) ∧ w' = w := by
  have hr : (stretchE len a b != 0) = true := by simpa using h
  clear h
  go_enter Try.func26, Try.ntmps26
  go_wp2_with fail
  refine (stretch_any _ _ _ _ _ _).mono ?_
  rintro e w' ⟨rfl, rfl⟩
  go_wp2_with fail
  go_ret2
  exact ⟨rfl, rfl⟩

theorem count_ok (A : Option Addr) (l : List UInt8) (c : Nat) (a b : Nat) (w : World) (hb : Bytes w A l) (hl : l.length = 128) (hab : a ≤ b) (hbm : b ≤ 1024) :
    Calls Try.prog 26 #[.slice A l.length c, .int .i64 a, .int .i64 b] w fun e w' => e = .returned (.tuple #[.int .i64 (cn l a (b - a)), .int .i64 0]) ∧ w' = w := by
  have h0 : stretchE l.length a b = 0 := by unfold stretchE; (repeat' split) <;> omega
  have H0 := hid h0
  clear h0
  have HL := hid hl
  have hl2 : l.length ≤ 1000000 := by omega
  have hb8 : b ≤ 8 * l.length := by omega
  clear hl
  go_enter Try.func26, Try.ntmps26
  go_wp2_with fail
  refine (stretch_any _ _ _ _ _ _).mono ?_
  rintro e w' ⟨rfl, rfl⟩
  rw [H0.out]
  go_wp2_with fail
  go_loop [9, 10] (fun cv nv => ∃ k : Nat, a + k ≤ b ∧ cv = .int .i64 (cn l a k) ∧ nv = .int .i64 ((a + k : Nat) : Int)) (fun _ nv => b - (intOf nv).toNat)
  case atStart => exact ⟨0, by omega, rfl, rfl⟩
  case round =>
    obtain ⟨k, hk, rfl, rfl⟩ := hrel
    have hcn := cn_le l a k
    have hkb : k ≤ 1024 := by omega
    by_cases hlt : a + k < b
    · have hlt8 : a + k < 8 * l.length := by omega
      generalize hn : a + k = n at *
      have HN := hid hn
      clear hn
      go_wp2_with fail
      refine (on_any _ _ _ _ _ hb hlt8 hl2).mono ?_
      rintro e w' ⟨rfl, rfl⟩
      by_cases hon : bitOf l n = true
      · go_wp2_with fail
        go_round
        case rel => exact ⟨k + 1, by have := HN.out; omega, by rw [cn, HN.out, if_pos hon]; go_num, by have := HN.out; subst this; rw [← Nat.add_assoc]; go_num⟩
        case measure => simp [intOf]; omega
      · have hon' : bitOf l n = false := by simpa using hon
        clear hon
        go_wp2_with fail
        go_round
        case rel => exact ⟨k + 1, by have := HN.out; omega, by rw [cn, HN.out, if_neg (by simp [hon'])]; go_num, by have := HN.out; subst this; rw [← Nat.add_assoc]; go_num⟩
        case measure => simp [intOf]; omega
    · have hk2 : k = b - a := by omega
      have HK := hid hk2
      clear hk2
      generalize hn : a + k = n at *
      have HN := hid hn
      clear hn
      go_wp2_with fail
      go_ret2
      exact ⟨ret_2 (vint (by rw [HK.out])) rfl, rfl⟩
end Go.Proofs.Ytafofpnfpkbfpaa
