/- Contracts of package seat: number, Sound, Fate; of the reference: Sound, Fate. -/
import Derived.Test.YtppbcdcmpcagdaaSuper4
namespace Go.Proofs.Ytppbcdcmpcagdaa
open Go.RowKit Go.CP

def numB (n : Int) : Bool := decide (0 ≤ n ∧ n ≤ 1073741824)
theorem number_any (n : Int) (w : World) : Calls Try.prog 137 #[.int .i64 n] w fun e w' => e = .returned (.bool (numB n)) ∧ w' = w := by
  go_enter Try.func137, Try.ntmps137
  go_wp2
  all_goals
    go_ret
    exact ⟨ret_bool (by rw [Bool.eq_iff_iff]; simp [numB]; omega), rfl⟩

def seatB (a b : Int) (n : Nat) : Bool := numB a && numB b && decide (n ≤ 96)

theorem seat_sound (a b : Int) (A : Option Addr) (n c : Nat) (w : World) : Calls Try.prog 65 #[.agg #[.int .i64 a, .int .i64 b, .slice A n c]] w fun e w' => e = .returned (.bool (seatB a b n)) ∧ Below w.heap.size w w' := by
  have HA := hid (number_any a)
  have HB := hid (number_any b)
  cases ha : numB a with
  | false =>
    rw [ha] at HA
    have hs : seatB a b n = false := by rw [seatB, ha]; rfl
    rw [hs]
    clear hs ha
    go_enter Try.func65, Try.ntmps65
    go_wp2_with fail
    refine (HA.out _).mono ?_
    rintro e w1 ⟨rfl, rfl⟩
    go_wp2
    go_ret
    exact ⟨rfl, (Below.refl _ _).alloc (Nat.le_refl _) _⟩
  | true =>
    rw [ha] at HA
    cases hb : numB b with
    | false =>
      rw [hb] at HB
      have hs : seatB a b n = false := by rw [seatB, ha, hb]; rfl
      rw [hs]
      clear hs ha hb
      go_enter Try.func65, Try.ntmps65
      go_wp2_with fail
      refine (HA.out _).mono ?_
      rintro e w1 ⟨rfl, rfl⟩
      go_wp2_with fail
      refine (HB.out _).mono ?_
      rintro e w1 ⟨rfl, rfl⟩
      go_wp2
      go_ret
      exact ⟨rfl, (Below.refl _ _).alloc (Nat.le_refl _) _⟩
    | true =>
      rw [hb] at HB
      have hs : seatB a b n = decide (n ≤ 96) := by rw [seatB, ha, hb]; rfl
      rw [hs]
      clear hs ha hb
      go_enter Try.func65, Try.ntmps65
      go_wp2_with fail
      refine (HA.out _).mono ?_
      rintro e w1 ⟨rfl, rfl⟩
      go_wp2_with fail
      refine (HB.out _).mono ?_
      rintro e w1 ⟨rfl, rfl⟩
      go_wp2
      go_ret
      exact ⟨ret_bool (by rw [Bool.eq_iff_iff]; simp <;> omega), (Below.refl _ _).alloc (Nat.le_refl _) _⟩
theorem rseat_sound (a b : Int) (A : Option Addr) (n c : Nat) (w : World) : Calls Try.prog 66 #[.agg #[.int .i64 a, .int .i64 b, .slice A n c]] w fun e w' => e = .returned (.bool (seatB a b n)) ∧ Below w.heap.size w w' := by
  go_enter Try.func66, Try.ntmps66
  go_wp2
  all_goals
    go_ret
    exact ⟨ret_bool (by rw [Bool.eq_iff_iff]; simp [seatB, numB]; omega), (Below.refl _ _).alloc (Nat.le_refl _) _⟩

/-- What becomes of a request. -/
def fateL (life0 seq0 : Int) (hello : Bool) (life seq : Int) : Int :=
  if numB life = false ∨ life = 0 ∨ numB seq = false then 0
  else if hello = true ∧ life0 < life then 3
  else if life ≠ life0 then 0
  else if seq = seq0 then 2
  else if hello = false ∧ seq0 < seq then 1
  else 0

theorem fate_bad (life0 seq0 : Int) (hello : Bool) (life seq : Int) (h : numB life = false ∨ life = 0 ∨ numB seq = false) : fateL life0 seq0 hello life seq = 0 := if_pos h
theorem fate_good (life0 seq0 : Int) (hello : Bool) (life seq : Int) (h1 : numB life = true) (h2 : life ≠ 0) (h3 : numB seq = true) : fateL life0 seq0 hello life seq =
    (if hello = true ∧ life0 < life then 3 else if life ≠ life0 then 0 else if seq = seq0 then 2 else if hello = false ∧ seq0 < seq then 1 else 0) := by
  rw [fateL, if_neg (by rw [h1, h3]; simp [h2])]

set_option maxHeartbeats 1000000 in
theorem fate_any (a b : Int) (A : Option Addr) (n c : Nat) (hello : Bool) (life seq : Int) (w : World) :
    Calls Try.prog 70 #[.agg #[.int .i64 a, .int .i64 b, .slice A n c], .bool hello, .int .i64 life, .int .i64 seq] w fun e w' => e = .returned (.int .i64 (fateL a b hello life seq)) ∧ Below w.heap.size w w' := by
  have HA := hid (number_any life)
  have HB := hid (number_any seq)
  cases ha : numB life with
  | false =>
    rw [ha] at HA
    rw [fate_bad _ _ _ _ _ (.inl ha)]
    clear ha
    go_enter Try.func70, Try.ntmps70
    go_wp2_with fail
    refine (HA.out _).mono ?_
    rintro e w1 ⟨rfl, rfl⟩
    go_wp2
    go_ret
    exact ⟨rfl, (Below.refl _ _).alloc (Nat.le_refl _) _⟩
  | true =>
    rw [ha] at HA
    by_cases h0 : life = 0
    · rw [fate_bad _ _ _ _ _ (.inr (.inl h0))]
      subst h0
      clear ha
      go_enter Try.func70, Try.ntmps70
      go_wp2_with fail
      refine (HA.out _).mono ?_
      rintro e w1 ⟨rfl, rfl⟩
      go_wp2
      go_ret
      exact ⟨rfl, (Below.refl _ _).alloc (Nat.le_refl _) _⟩
    have hl0 : (life == 0) = false := by simpa using h0
    cases hb : numB seq with
    | false =>
      rw [hb] at HB
      rw [fate_bad _ _ _ _ _ (.inr (.inr hb))]
      clear ha hb h0
      go_enter Try.func70, Try.ntmps70
      go_wp2_with fail
      refine (HA.out _).mono ?_
      rintro e w1 ⟨rfl, rfl⟩
      go_wp2_with fail
      refine (HB.out _).mono ?_
      rintro e w1 ⟨rfl, rfl⟩
      go_wp2
      go_ret
      exact ⟨rfl, (Below.refl _ _).alloc (Nat.le_refl _) _⟩
    | true =>
      rw [hb] at HB
      have HF := hid (fate_good a b hello life seq ha h0 hb)
      clear ha hb h0
      cases hello
      all_goals
        go_enter Try.func70, Try.ntmps70
        go_wp2_with fail
        refine (HA.out _).mono ?_
        rintro e w1 ⟨rfl, rfl⟩
        go_wp2_with fail
        refine (HB.out _).mono ?_
        rintro e w1 ⟨rfl, rfl⟩
        clear HA HB
        go_wp2
        all_goals
          go_ret
          refine ⟨ret_int ?_, (Below.refl _ _).alloc (Nat.le_refl _) _⟩
          rw [HF.out]
          clear HF
          (repeat' split) <;> simp_all <;> omega

theorem fate_num (life0 seq0 : Int) (hello : Bool) (life seq : Int) : fateL life0 seq0 hello life seq =
    (if life < 1 ∨ 1073741824 < life ∨ seq < 0 ∨ 1073741824 < seq then 0 else if hello = true ∧ life0 < life then 3 else if life ≠ life0 then 0 else if seq = seq0 then 2 else if hello = false ∧ seq0 < seq then 1 else 0) := by
  unfold fateL numB
  by_cases h : life < 1 ∨ 1073741824 < life ∨ seq < 0 ∨ 1073741824 < seq
  · rw [if_pos h, if_pos]
    simp; omega
  · rw [if_neg h, if_neg]
    simp; omega

set_option maxHeartbeats 1000000 in
theorem rfate_any (a b : Int) (A : Option Addr) (n c : Nat) (hello : Bool) (life seq : Int) (w : World) :
    Calls Try.prog 71 #[.agg #[.int .i64 a, .int .i64 b, .slice A n c], .bool hello, .int .i64 life, .int .i64 seq] w fun e w' => e = .returned (.int .i64 (fateL a b hello life seq)) ∧ Below w.heap.size w w' := by
  cases hello
  all_goals
    go_enter Try.func71, Try.ntmps71
    go_wp2
    all_goals
      go_ret
      refine ⟨ret_int ?_, (Below.refl _ _).alloc (Nat.le_refl _) _⟩
      rw [fate_num]
      (repeat' split) <;> simp_all <;> omega
end Go.Proofs.Ytppbcdcmpcagdaa
