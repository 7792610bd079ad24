/- The law DialLonger returns true at every input: its walk over the contracts of dial.Longer, Near and of the reference's Keeps. No condition. -/
import Derived.Test.YtnnacdhhgioemaaWalkDialNears
namespace Go.Proofs.Ytnnacdhhgioemaa
open Go.RowKit Go.CP

theorem long_facts (t g a b : Int) (h0 : 1 ≤ t) (h1 : t ≤ 1099511627776) (hg : 0 ≤ g) (hg1 : g ≤ 1099511627776) (ha : keepB g a = true) (hb : keepB g b = true) : a < t → b < longV t := by
  unfold keepB at ha hb
  have ha := of_decide_eq_true ha
  have hb := of_decide_eq_true hb
  unfold longV
  intro h
  omega
theorem long_keep (t : Int) : keepB (5 * (t - 1) / 4) (t - 1) = decide (4 * (t - 1) ≤ 5 * (5 * (t - 1) / 4)) := by
  unfold keepB
  rw [Bool.eq_iff_iff]
  simp only [decide_eq_true_eq]
  omega

set_option maxHeartbeats 1000000 in
theorem dialLonger_in (w : World) (t g x y : Int) (h0 : 1 ≤ t) (h1 : t ≤ 1099511627776) (hg : 0 ≤ g) (hg1 : g ≤ 4294967295) :
    Calls Try.prog 4 #[.int .i64 t, .int .u32 g, .int .i64 x, .int .i64 y] w fun e w' => e = .returned (.bool true) ∧ Below w.heap.size w w' := by
  have HA := hid awake_any
  have HL := hid (long_ok t w h0 h1)
  have HX := hid (near_ok g x w hg (by omega))
  have HY := hid (near_ok g y w hg (by omega))
  obtain ⟨a1, a2, a3, -⟩ := near_facts g x hg (by omega)
  obtain ⟨b1, b2, b3, -⟩ := near_facts g y hg (by omega)
  have hf := long_facts t g _ _ h0 h1 hg (by omega) a3 b3
  have HF := hid hf
  have hm0 : 0 ≤ 5 * (t - 1) / 4 := by omega
  have hm1 : 5 * (t - 1) / 4 ≤ 1374389534720 := by omega
  have hk := keeps_any (5 * (t - 1) / 4) (t - 1) w (by omega) (by omega) (by omega) (by omega)
  rw [long_keep] at hk
  have HK := hid hk
  have HLV : Hid (longV t = 5 * (5 * (t - 1) / 4) / 4 + 1) := hid rfl
  have hlv0 : 1 ≤ longV t := by rw [HLV.out]; omega
  have hlv1 : longV t ≤ 2199023255552 := by rw [HLV.out]; omega
  clear hf a3 b3 hk
  generalize nearV g x = a at *
  generalize nearV g y = b at *
  by_cases hat : a < t
  · have hbt := HF.out hat
    go_enter Try.func4, Try.ntmps4
    go_wp2_with fail
    refine HL.out.mono ?_
    rintro e w1 ⟨rfl, rfl⟩
    go_wp2_with fail
    refine HX.out.mono ?_
    rintro e w2 ⟨rfl, rfl⟩
    go_wp2_with fail
    refine HY.out.mono ?_
    rintro e w3 ⟨rfl, rfl⟩
    go_wp2_with fail
    refine (HA.out _).mono ?_
    rintro e w4 ⟨rfl, rfl⟩
    go_wp2_with fail
    refine HK.out.mono ?_
    rintro e w5 ⟨rfl, rfl⟩
    have hlv : (longV t == 5 * (5 * (t - 1) / 4) / 4 + 1) = true := by rw [HLV.out]; simp
    go_wp2
    go_ret
    exact ⟨by first | rfl | simp, Below.refl _ _⟩
  · clear HF
    go_enter Try.func4, Try.ntmps4
    go_wp2_with fail
    refine HL.out.mono ?_
    rintro e w1 ⟨rfl, rfl⟩
    go_wp2_with fail
    refine HX.out.mono ?_
    rintro e w2 ⟨rfl, rfl⟩
    go_wp2_with fail
    refine HY.out.mono ?_
    rintro e w3 ⟨rfl, rfl⟩
    go_wp2_with fail
    refine (HA.out _).mono ?_
    rintro e w4 ⟨rfl, rfl⟩
    go_wp2_with fail
    refine HK.out.mono ?_
    rintro e w5 ⟨rfl, rfl⟩
    have hlv : (longV t == 5 * (5 * (t - 1) / 4) / 4 + 1) = true := by rw [HLV.out]; simp
    go_wp2
    go_ret
    exact ⟨by first | rfl | simp, Below.refl _ _⟩

theorem dialLonger_walk (w : World) (t g x y : Int) (_ : -9223372036854775808 ≤ t ∧ t < 9223372036854775808) (hg : 0 ≤ g ∧ g < 4294967296) (_ : -9223372036854775808 ≤ x ∧ x < 9223372036854775808) (_ : -9223372036854775808 ≤ y ∧ y < 9223372036854775808) :
    Calls Try.prog 4 #[.int .i64 t, .int .u32 g, .int .i64 x, .int .i64 y] w fun e w' => e = .returned (.bool true) ∧ Below w.heap.size w w' := by
  by_cases h : 1 ≤ t ∧ t ≤ 1099511627776
  · exact dialLonger_in w t g x y h.1 h.2 hg.1 (by omega)
  · have HA := hid awake_any
    have HN := hid (long_err t w (by omega))
    have hor : t < 1 ∨ (1 ≤ t ∧ 1099511627776 < t) := by omega
    clear h hg
    rcases hor with h | ⟨h1, h2⟩
    all_goals
      go_enter Try.func4, Try.ntmps4
      go_wp2_with fail
      refine HN.out.mono ?_
      rintro e w1 ⟨rfl, rfl⟩
      go_wp2_with fail
      refine (HA.out _).mono ?_
      rintro e w2 ⟨rfl, rfl⟩
      go_wp2
      go_ret
      exact ⟨rfl, Below.refl _ _⟩
end Go.Proofs.Ytnnacdhhgioemaa
