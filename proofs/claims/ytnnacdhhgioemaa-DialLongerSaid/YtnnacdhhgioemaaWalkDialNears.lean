/- The law DialNears returns true at every input: its walk over the contracts of dial.Near and of the reference's Keeps. No condition. -/
import Derived.Test.YtnnacdhhgioemaaDial1
namespace Go.Proofs.Ytnnacdhhgioemaa
open Go.RowKit Go.CP

theorem near_facts (g w : Int) (h0 : 0 ≤ g) (h1 : g ≤ 1099511627776) : 0 ≤ nearV g w ∧ nearV g w ≤ 1374389534720 ∧ keepB g (nearV g w) = true ∧ (nearV g w < w → keepB g (nearV g w + 1) = false) ∧ (w < nearV g w → nearV g w = 0 ∨ keepB g (nearV g w - 1) = false) := by
  have hlm : (4 * g + 4) / 5 ≤ 5 * g / 4 := by
    by_cases h4 : 4 ≤ g
    · omega
    · have : g = 0 ∨ g = 1 ∨ g = 2 ∨ g = 3 := by omega
      rcases this with rfl | rfl | rfl | rfl <;> decide
  unfold nearV keepB
  refine ⟨by omega, by omega, decide_eq_true (by omega), fun h => decide_eq_false (by omega), fun h => .inr (decide_eq_false (by omega))⟩

set_option maxHeartbeats 1000000 in
theorem dialNears_walk (w : World) (g n : Int) (_ : -9223372036854775808 ≤ g ∧ g < 9223372036854775808) (_ : -9223372036854775808 ≤ n ∧ n < 9223372036854775808) :
    Calls Try.prog 3 #[.int .i64 g, .int .i64 n] w fun e w' => e = .returned (.bool true) ∧ Below w.heap.size w w' := by
  have HA := hid awake_any
  by_cases hg : 0 ≤ g ∧ g ≤ 1099511627776
  · obtain ⟨h0, h1⟩ := hg
    obtain ⟨f1, f2, f3, f4, f5⟩ := near_facts g n h0 h1
    have HN := hid (near_ok g n w h0 h1)
    have hk := keeps_any g (nearV g n) w (by omega) (by omega) (by omega) (by omega)
    rw [f3] at hk
    have HK := hid hk
    have hk2 := keeps_any g (nearV g n + 1) w (by omega) (by omega) (by omega) (by omega)
    have hk3 := keeps_any g (nearV g n - 1) w (by omega) (by omega) (by omega) (by omega)
    have HK2 := hid hk2
    have HK3 := hid hk3
    have F4 := hid f4
    have F5 := hid f5
    clear hk hk2 hk3 f3 f4 f5
    generalize nearV g n = v at *
    rcases Int.lt_trichotomy v n with hlt | rfl | hgt
    · have q1 : (v == n) = false := by simp; omega
      rw [F4.out hlt] at HK2
      go_enter Try.func3, Try.ntmps3
      go_wp2_with fail
      refine HN.out.mono ?_
      rintro e w1 ⟨rfl, rfl⟩
      go_wp2_with fail
      refine (HA.out _).mono ?_
      rintro e w2 ⟨rfl, rfl⟩
      go_wp2_with fail
      refine HK.out.mono ?_
      rintro e w3 ⟨rfl, rfl⟩
      go_wp2_with fail
      refine HK2.out.mono ?_
      rintro e w4 ⟨rfl, rfl⟩
      go_wp2
      go_ret
      exact ⟨rfl, Below.refl _ _⟩
    · go_enter Try.func3, Try.ntmps3
      go_wp2_with fail
      refine HN.out.mono ?_
      rintro e w1 ⟨rfl, rfl⟩
      go_wp2_with fail
      refine (HA.out _).mono ?_
      rintro e w2 ⟨rfl, rfl⟩
      go_wp2_with fail
      refine HK.out.mono ?_
      rintro e w3 ⟨rfl, rfl⟩
      go_wp2
      go_ret
      exact ⟨rfl, Below.refl _ _⟩
    · have q1 : (v == n) = false := by simp; omega
      have q2 : ¬ v < n := by omega
      rcases F5.out hgt with h | h
      · have q3 : (v == 0) = true := by simp [h]
        clear h
        go_enter Try.func3, Try.ntmps3
        go_wp2_with fail
        refine HN.out.mono ?_
        rintro e w1 ⟨rfl, rfl⟩
        go_wp2_with fail
        refine (HA.out _).mono ?_
        rintro e w2 ⟨rfl, rfl⟩
        go_wp2_with fail
        refine HK.out.mono ?_
        rintro e w3 ⟨rfl, rfl⟩
        go_wp2
        go_ret
        exact ⟨rfl, Below.refl _ _⟩
      · by_cases h0v : v = 0
        · have q3 : (v == 0) = true := by simp [h0v]
          clear h h0v
          go_enter Try.func3, Try.ntmps3
          go_wp2_with fail
          refine HN.out.mono ?_
          rintro e w1 ⟨rfl, rfl⟩
          go_wp2_with fail
          refine (HA.out _).mono ?_
          rintro e w2 ⟨rfl, rfl⟩
          go_wp2_with fail
          refine HK.out.mono ?_
          rintro e w3 ⟨rfl, rfl⟩
          go_wp2
          go_ret
          exact ⟨rfl, Below.refl _ _⟩
        · have q3 : (v == 0) = false := by simpa using h0v
          rw [h] at HK3
          clear h h0v
          go_enter Try.func3, Try.ntmps3
          go_wp2_with fail
          refine HN.out.mono ?_
          rintro e w1 ⟨rfl, rfl⟩
          go_wp2_with fail
          refine (HA.out _).mono ?_
          rintro e w2 ⟨rfl, rfl⟩
          go_wp2_with fail
          refine HK.out.mono ?_
          rintro e w3 ⟨rfl, rfl⟩
          go_wp2_with fail
          refine HK3.out.mono ?_
          rintro e w4 ⟨rfl, rfl⟩
          go_wp2
          go_ret
          exact ⟨rfl, Below.refl _ _⟩
  · have HN := hid (near_err g n w (by omega))
    have hor : g < 0 ∨ (0 ≤ g ∧ 1099511627776 < g) := by omega
    clear hg
    rcases hor with h | ⟨h1, h2⟩
    all_goals
      go_enter Try.func3, Try.ntmps3
      go_wp2_with fail
      refine HN.out.mono ?_
      rintro e w1 ⟨rfl, rfl⟩
      go_wp2_with fail
      refine (HA.out _).mono ?_
      rintro e w2 ⟨rfl, rfl⟩
      go_wp2
      go_ret
      exact ⟨rfl, Below.refl _ _⟩
end Go.Proofs.Ytnnacdhhgioemaa
