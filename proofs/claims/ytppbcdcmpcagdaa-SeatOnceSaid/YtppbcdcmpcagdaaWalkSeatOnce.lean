/- The law SeatOnce returns true at every input: its walk over the contract of seat.Fate. No condition. -/
import Derived.Test.YtppbcdcmpcagdaaSeat4
namespace Go.Proofs.Ytppbcdcmpcagdaa
open Go.RowKit Go.CP

theorem fate_range (a b : Int) (hello : Bool) (life seq : Int) : fateL a b hello life seq = 0 ∨ fateL a b hello life seq = 1 ∨ fateL a b hello life seq = 2 ∨ fateL a b hello life seq = 3 := by
  unfold fateL
  (repeat' split) <;> simp
theorem once_1 {a b : Int} {hello : Bool} {life seq : Int} (h : fateL a b hello life seq = 1 ∨ fateL a b hello life seq = 3) : fateL life seq hello life seq = 2 := by
  rw [fate_num] at h ⊢
  by_cases h0 : life < 1 ∨ 1073741824 < life ∨ seq < 0 ∨ 1073741824 < seq
  · rw [if_pos h0] at h; omega
  · rw [if_neg h0, if_neg (by omega), if_neg (by simp), if_pos rfl]
theorem once_2 (life seq late : Int) (h : late < seq) : fateL life seq false life late = 0 := by
  rw [fate_num]
  by_cases h0 : life < 1 ∨ 1073741824 < life ∨ late < 0 ∨ 1073741824 < late
  · rw [if_pos h0]
  · rw [if_neg h0, if_neg (by simp), if_neg (by simp), if_neg (by omega), if_neg (by omega)]
theorem once_3 {a b : Int} {hello : Bool} {life seq : Int} (h : fateL a b hello life seq = 1 ∨ fateL a b hello life seq = 3) (hne : a ≠ life) : fateL life seq hello a seq = 0 := by
  rw [fate_num] at h ⊢
  by_cases h0 : life < 1 ∨ 1073741824 < life ∨ seq < 0 ∨ 1073741824 < seq
  · rw [if_pos h0] at h; omega
  · rw [if_neg h0] at h
    by_cases h1 : hello = true ∧ a < life
    · by_cases h2 : a < 1 ∨ 1073741824 < a ∨ seq < 0 ∨ 1073741824 < seq
      · rw [if_pos h2]
      · rw [if_neg h2, if_neg (by omega), if_pos hne]
    · rw [if_neg h1, if_pos (by omega)] at h; omega

set_option maxHeartbeats 1000000 in
set_option maxRecDepth 100000 in
theorem seatOnce_in (w : World) (a b : Int) (A : Option Addr) (n c : Nat) (hello : Bool) (life seq late : Int) (F1 F2 F3 F4 : Int)
    (h1 : Hid (fateL a b hello life seq = F1)) (h2 : Hid (fateL life seq hello life seq = F2)) (h3 : Hid (fateL life seq false life late = F3)) (h4 : Hid (fateL life seq hello a seq = F4))
    (hc : (F1 = 0 ∨ F1 = 2) ∨ ((F1 = 1 ∨ F1 = 3) ∧ F2 = 2 ∧ (seq ≤ late ∨ F3 = 0) ∧ (a = life ∨ F4 = 0))) :
    Calls Try.prog 16 #[.agg #[.int .i64 a, .int .i64 b, .slice A n c], .bool hello, .int .i64 life, .int .i64 seq, .int .i64 late] w fun e w' => e = .returned (.bool true) ∧ Below w.heap.size w w' := by
  have C1 : Hid (∀ W, Calls Try.prog 70 #[.agg #[.int .i64 a, .int .i64 b, .slice A n c], .bool hello, .int .i64 life, .int .i64 seq] W fun e w' => e = .returned (.int .i64 F1) ∧ Below W.heap.size W w') := by
    rw [← h1.out]; exact hid (fate_any a b A n c hello life seq)
  have C2 : Hid (∀ W, Calls Try.prog 70 #[.agg #[.int .i64 life, .int .i64 seq, .slice none 0 0], .bool hello, .int .i64 life, .int .i64 seq] W fun e w' => e = .returned (.int .i64 F2) ∧ Below W.heap.size W w') := by
    rw [← h2.out]; exact hid (fate_any life seq none 0 0 hello life seq)
  have C3 : Hid (∀ W, Calls Try.prog 70 #[.agg #[.int .i64 life, .int .i64 seq, .slice none 0 0], .bool false, .int .i64 life, .int .i64 late] W fun e w' => e = .returned (.int .i64 F3) ∧ Below W.heap.size W w') := by
    rw [← h3.out]; exact hid (fate_any life seq none 0 0 false life late)
  have C4 : Hid (∀ W, Calls Try.prog 70 #[.agg #[.int .i64 life, .int .i64 seq, .slice none 0 0], .bool hello, .int .i64 a, .int .i64 seq] W fun e w' => e = .returned (.int .i64 F4) ∧ Below W.heap.size W w') := by
    rw [← h4.out]; exact hid (fate_any life seq none 0 0 hello a seq)
  have KX := hid (BoxT.new w (.int .i64 a) (.int .i64 b) (.slice A n c))
  have hb0 : Below w.heap.size w (w.alloc (.cells #[.int .i64 a, .int .i64 b, .slice A n c] 70)) := (Below.refl _ _).alloc (Nat.le_refl _) _
  clear h1 h2 h3 h4
  have HC := hid hc
  clear hc
  go_enter Try.func16, Try.ntmps16
  go_wp2_with fail
  refine (C1.out _).mono ?_
  rintro e w1 ⟨rfl, hb1⟩
  have k1 := KX.out.below hb1 (by simp)
  have hb01 := below_t hb0 hb1 hb0.size
  go_wp2_with fail
  refine (awake08_any _).mono ?_
  rintro e w2 ⟨rfl, hb2⟩
  have k2 := k1.below hb2 k1.facts.2.2.2.2
  have hb02 := below_t hb01 hb2 hb01.size
  clear k1 hb0 hb1 hb01 hb2
  rcases HC.out with (rfl | rfl) | ⟨hF, rfl, h3, h4⟩
  · clear HC
    go_wp2_with fail
    refine (awake08_any _).mono ?_
    rintro e w3 ⟨rfl, hb3⟩
    go_wp2
    go_ret
    exact ⟨rfl, below_t hb02 hb3 hb02.size⟩
  · clear HC
    go_wp2_with fail
    refine (awake08_any _).mono ?_
    rintro e w3 ⟨rfl, hb3⟩
    go_wp2
    go_ret
    exact ⟨rfl, below_t hb02 hb3 hb02.size⟩
  · have hq1 : decide (seq ≤ late) = true ∨ (decide (seq ≤ late) = false ∧ F3 = 0) := by
      by_cases h : seq ≤ late
      · exact .inl (decide_eq_true h)
      · exact .inr ⟨decide_eq_false h, by omega⟩
    have hq2 : (a == life) = true ∨ ((a == life) = false ∧ F4 = 0) := by
      by_cases h : a = life
      · exact .inl (by simp [h])
      · exact .inr ⟨by simp [h], by omega⟩
    have hF' : (F1 != 1) = false ∨ ((F1 != 1) = true ∧ (F1 != 3) = false) := by
      rcases hF with rfl | rfl
      · exact .inl rfl
      · exact .inr ⟨rfl, rfl⟩
    have HK2 := hid k2
    have xlt := k2.facts.2.2.2.2
    clear HC hF h3 h4 k2
    rcases hF' with hF1 | ⟨hF1, hF2⟩ <;> rcases hq1 with hq1 | ⟨hq1, rfl⟩ <;> rcases hq2 with hq2 | ⟨hq2, rfl⟩
    all_goals
      go_wp2_with fail
      refine (C2.out _).mono ?_
      rintro e w3 ⟨rfl, hb3⟩
      have k3 := (HK2.out.alloc (.cells #[.int .i64 life, .int .i64 seq, .slice none 0 0] 70)).below hb3 (by simp; omega)
      have y3 := (BoxT.new w2 (.int .i64 life) (.int .i64 seq) (.slice none 0 0)).below hb3 (by simp)
      have hb03 := below_t (hb02.alloc hb02.size (.cells #[.int .i64 life, .int .i64 seq, .slice none 0 0] 70)) hb3 (by have := hb02.size; simp; omega)
      obtain ⟨yc0, yc1, yc2, yfr, ylt⟩ := y3.facts
      go_wp2_with fail
      refine (C3.out _).mono ?_
      clear yc0 yc1 yc2 yfr
      rintro e w4 ⟨rfl, hb4⟩
      have k4 := k3.below hb4 (by omega)
      have y4 := y3.below hb4 (by omega)
      have hb04 := below_t hb03 hb4 hb03.size
      obtain ⟨yc0, yc1, yc2, yfr, ylt4⟩ := y4.facts
      obtain ⟨xc0, xc1, xc2, xfr, xlt4⟩ := k4.facts
      clear k3 y3 hb3 hb03 hb4
      go_wp2_with fail
      refine (C4.out _).mono ?_
      clear yc0 yc1 yc2 yfr xc0 xc1 xc2 xfr
      rintro e w5 ⟨rfl, hb5⟩
      have k5 := k4.below hb5 (by omega)
      have hb05 := below_t hb04 hb5 hb04.size
      obtain ⟨xc0, xc1, xc2, xfr, xlt5⟩ := k5.facts
      clear k4 y4 hb5 hb04 k5
      go_wp2
      go_ret
      exact ⟨by first | rfl | simp, hb05⟩

theorem seatOnce_walk (w : World) (a b : Int) (A : Option Addr) (r : List UInt8) (c : Nat) (hello : Bool) (life seq late : Int) (_ : Bytes w A r) (_ : r.length ≤ c) (_ : r.length ≤ 140737488351232)
    (_ : -9223372036854775808 ≤ life ∧ life < 9223372036854775808) (_ : -9223372036854775808 ≤ seq ∧ seq < 9223372036854775808) (_ : -9223372036854775808 ≤ late ∧ late < 9223372036854775808) :
    Calls Try.prog 16 #[.agg #[.int .i64 a, .int .i64 b, .slice A r.length c], .bool hello, .int .i64 life, .int .i64 seq, .int .i64 late] w fun e w' => e = .returned (.bool true) ∧ Below w.heap.size w w' := by
  refine seatOnce_in w a b A r.length c hello life seq late _ _ _ _ (hid rfl) (hid rfl) (hid rfl) (hid rfl) ?_
  rcases fate_range a b hello life seq with h | h | h | h
  · exact .inl (.inl h)
  · refine .inr ⟨.inl h, once_1 (.inl h), ?_, ?_⟩
    · by_cases hl : seq ≤ late
      · exact .inl hl
      · exact .inr (once_2 life seq late (by omega))
    · by_cases hl : a = life
      · exact .inl hl
      · exact .inr (once_3 (.inl h) hl)
  · exact .inl (.inr h)
  · refine .inr ⟨.inr h, once_1 (.inr h), ?_, ?_⟩
    · by_cases hl : seq ≤ late
      · exact .inl hl
      · exact .inr (once_2 life seq late (by omega))
    · by_cases hl : a = life
      · exact .inl hl
      · exact .inr (once_3 (.inr h) hl)
end Go.Proofs.Ytppbcdcmpcagdaa
