/- Contracts of node.Sound. -/
import Derived.Test.YtppbcdcmpcagdaaNodeA
namespace Go.Proofs.Ytppbcdcmpcagdaa
open Go.RowKit Go.CP

/-- The kind's own test. -/
def kindB (x : Nod) : Bool :=
  if x.k = 0 then x.l == 0 && x.s == 0 && (x.d0 == 0 && x.d1 == 0 && x.d2 == 0 && x.d3 == 0) && x.o == 0 && x.t == 0
  else if x.k = 1 then decide (1 ≤ x.l) && decide (x.l ≤ 255) && decide (0 ≤ x.s) && decide (x.s ≤ 9728)
  else if x.k = 2 then x.l == 1 && decide (0 ≤ x.s) && decide (x.s ≤ 9728) && x.s % 32 == 0
  else false
def genB (n : Int) : Bool := decide (n < 0) || decide (1073741824 < n)
def soundN (x : Nod) : Bool := !genB x.g && !genB x.c && !badB (ptrsL x) && kindB x
theorem soundN_gen {x : Nod} (h : (genB x.g || genB x.c) = true) : soundN x = false := by
  unfold soundN; rw [Bool.or_eq_true] at h; rcases h with h | h <;> simp [h]
theorem soundN_bad {x : Nod} (h : badB (ptrsL x) = true) : soundN x = false := by simp [soundN, h]
theorem soundN_rest {x : Nod} (h : (genB x.g || genB x.c) = false) (h2 : badB (ptrsL x) = false) : soundN x = kindB x := by
  rw [Bool.or_eq_false_iff] at h; simp [soundN, h.1, h.2, h2]

set_option maxHeartbeats 4000000 in
set_option maxRecDepth 100000 in
theorem soundN_any (x : Nod) (w : World) : Calls Try.prog 74 #[.agg #[.int .i64 x.k, .int .i64 x.l, .int .i64 x.g, .int .i64 x.s, .int .i64 x.c, .int .i64 x.d0, .int .i64 x.d1, .int .i64 x.d2, .int .i64 x.d3, .int .i64 x.o, .int .i64 x.t]] w fun e w' => e = .returned (.bool (soundN x)) ∧ Below w.heap.size w w' := by
  have k0 := BoxN.new w x
  have hb0 : Below w.heap.size w (w.alloc (.cells #[.int .i64 x.k, .int .i64 x.l, .int .i64 x.g, .int .i64 x.s, .int .i64 x.c, .int .i64 x.d0, .int .i64 x.d1, .int .i64 x.d2, .int .i64 x.d3, .int .i64 x.o, .int .i64 x.t] 84)) := (Below.refl _ _).alloc (Nat.le_refl _) _
  by_cases hgc : (genB x.g || genB x.c) = true
  · have HR := hid (soundN_gen hgc)
    have HB0 := hid hb0
    clear hb0 k0
    by_cases g0 : x.g < 0
    · go_enter Try.func74, Try.ntmps74
      go_wp2
      go_ret
      exact ⟨ret_bool HR.out.symm, HB0.out⟩
    · by_cases g1 : (decide (1073741824 < x.g)) = true
      · go_enter Try.func74, Try.ntmps74
        go_wp2
        go_ret
        exact ⟨ret_bool HR.out.symm, HB0.out⟩
      · by_cases c0 : x.c < 0
        · go_enter Try.func74, Try.ntmps74
          go_wp2
          go_ret
          exact ⟨ret_bool HR.out.symm, HB0.out⟩
        · have c1 : (decide (1073741824 < x.c)) = true := by
            simp [genB] at hgc g1
            have := hgc.resolve_left (by omega)
            simpa using this.resolve_left c0
          clear hgc
          go_enter Try.func74, Try.ntmps74
          go_wp2
          go_ret
          exact ⟨ret_bool HR.out.symm, HB0.out⟩
  · have hgc' : (genB x.g || genB x.c) = false := by simpa using hgc
    clear hgc
    have HGC := hid hgc'
    have g0 : ¬ x.g < 0 := fun h => by simp [genB, h] at hgc'
    have g1 : decide (1073741824 < x.g) = false := by
      have := hgc'; rw [Bool.or_eq_false_iff] at this; have := this.1; rw [genB, Bool.or_eq_false_iff] at this; exact this.2
    have c0 : ¬ x.c < 0 := fun h => by simp [genB, h] at hgc'
    have c1 : decide (1073741824 < x.c) = false := by
      have := hgc'; rw [Bool.or_eq_false_iff] at this; have := this.2; rw [genB, Bool.or_eq_false_iff] at this; exact this.2
    clear hgc'
    have K0 := hid k0
    have HB0 := hid hb0
    clear k0 hb0
    go_enter Try.func74, Try.ntmps74
    go_wp2_with fail
    refine (pointers_any x _).mono ?_
    rintro e w1 ⟨A1, c1', rfl, ho1, hb1⟩
    have HI : Hid (Ints w1 A1 (ptrsL x)) := hid (Go.CP.Own.cells ho1)
    have k1 := K0.out.below hb1 K0.out.lt
    have HB1 := hid (below_t HB0.out hb1 HB0.out.size)
    clear hb1 ho1
    go_wp2_with fail
    refine (containsFunc_any A1 (ptrsL x) c1' w1 HI.out (by simp [ptrsL])).mono ?_
    rintro e w2 ⟨rfl, rfl⟩
    by_cases hbad : badB (ptrsL x) = true
    · have HR := hid (soundN_bad hbad)
      go_wp2_with fail
      go_ret
      exact ⟨ret_bool HR.out.symm, HB1.out⟩
    · have hbad' : badB (ptrsL x) = false := by simpa using hbad
      clear hbad
      have HR := hid (soundN_rest HGC.out hbad')
      obtain ⟨f0, f1, f2, f3, f4, f5, f6, f7, f8, f9, f10, -, -⟩ := k1.facts
      clear k1 K0
      by_cases hk0 : x.k = 0
      · rw [kindB, if_pos hk0] at HR
        have hq := equal82 x.d0 x.d1 x.d2 x.d3
        go_wp2_with fail
        all_goals
          go_ret
          exact ⟨ret_bool (by rw [HR.out, Bool.eq_iff_iff]; simp; omega), HB1.out⟩
      · by_cases hk1 : x.k = 1
        · rw [kindB, if_neg hk0, if_pos hk1] at HR
          go_wp2_with fail
          all_goals
            go_ret
            exact ⟨ret_bool (by rw [HR.out, Bool.eq_iff_iff]; simp; omega), HB1.out⟩
        · by_cases hk2 : x.k = 2
          · rw [kindB, if_neg hk0, if_neg hk1, if_pos hk2] at HR
            go_wp2_with fail
            all_goals
              go_ret
              exact ⟨ret_bool (by rw [HR.out, Bool.eq_iff_iff]; simp; omega), HB1.out⟩
          · rw [kindB, if_neg hk0, if_neg hk1, if_neg hk2] at HR
            go_wp2_with fail
            go_ret
            exact ⟨ret_bool HR.out.symm, HB1.out⟩
end Go.Proofs.Ytppbcdcmpcagdaa
