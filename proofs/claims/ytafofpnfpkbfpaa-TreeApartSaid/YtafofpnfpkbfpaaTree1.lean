/- Contracts of package tree: Blocks, Route, the test of a pointer; the reference's Ints. -/
import Derived.Test.YtafofpnfpkbfpaaProg
import Derived.Test.YtafofpnfpkbfpaaLib
import Derived.Deep.QuietTactic
import Derived.BigQuiet
namespace Go.Proofs.Ytafofpnfpkbfpaa
open Go.RowKit Go.CP

def blocksN (n : Int) : Int := if n < 1 then 0 else (n - 1) / 128 + 1
theorem blocks_any (n : Int) (w : World) (hn : -9223372036854775808 ≤ n ∧ n < 9223372036854775808) :
    Calls Try.prog 19 #[.int .i64 n] w fun e w' => e = .returned (.int .i64 (blocksN n)) ∧ w' = w := by
  by_cases h : n < 1
  · go_enter Try.func19, Try.ntmps19
    go_wp2
    go_ret
    exact ⟨ret_int (by rw [blocksN, if_pos h]), rfl⟩
  · go_enter Try.func19, Try.ntmps19
    go_wp2
    go_ret
    exact ⟨ret_int (by rw [blocksN, if_neg (by omega)]), rfl⟩

def ptrB (n : Int) : Bool := n == 0 || (decide (43 ≤ n) && decide (n < 1024))
theorem pointer_any (n : Int) (w : World) : Calls Try.prog 29 #[.int .i64 n] w fun e w' => e = .returned (.bool (ptrB n)) ∧ w' = w := by
  by_cases h : n = 0
  · subst h
    go_enter Try.func29, Try.ntmps29
    go_wp2
    go_ret
    exact ⟨rfl, rfl⟩
  · have hq : (n == 0) = false := by simpa using h
    by_cases h2 : 43 ≤ n
    · by_cases h3 : n < 1024
      all_goals
        go_enter Try.func29, Try.ntmps29
        go_wp2
        go_ret
        exact ⟨ret_bool (by simp [ptrB, hq, h2, h3]), rfl⟩
    · go_enter Try.func29, Try.ntmps29
      go_wp2
      go_ret
      exact ⟨ret_bool (by have h4 : ¬ 43 ≤ n := by omega
                          simp [ptrB, hq, h4]), rfl⟩

theorem notptr_any (n : Int) (w : World) : Calls Try.prog 28 #[.int .i64 n] w fun e w' => e = .returned (.bool (!ptrB n)) ∧ w' = w := by
  go_enter Try.func28, Try.ntmps28
  go_wp2_with fail
  refine (pointer_any _ _).mono ?_
  rintro e w ⟨rfl, rfl⟩
  go_wp2
  go_ret
  exact ⟨rfl, rfl⟩

def routeL (n : Nat) : List Int := if n < 4 then [(n : Int)] else if n < 12 then [4, (n : Int) - 4] else [5, ((n : Int) - 12) / 8, ((n : Int) - 4) % 8]

theorem route_err (n : Int) (w : World) (hn : -9223372036854775808 ≤ n ∧ n < 9223372036854775808) (h : n < 0 ∨ 76 ≤ n) :
    Calls Try.prog 12 #[.int .i64 n] w fun e w' => e = .returned (.tuple #[.slice none 0 0, .int .i64 4]) ∧ w' = w := by
  rcases h with h | h
  all_goals
    go_enter Try.func12, Try.ntmps12
    go_wp2
    go_ret2
    exact ⟨rfl, rfl⟩

theorem route_ok (n : Nat) (w : World) (h : n < 76) :
    Calls Try.prog 12 #[.int .i64 n] w (RetOwn2 w 3 1 (routeL n).length ((routeL n).map iv) (.int .i64 0)) := by
  by_cases h1 : n < 4
  · have e1 : routeL n = [(n : Int)] := if_pos h1
    rw [e1]
    clear e1
    go_enter Try.func12, Try.ntmps12
    go_wp2
    go_ret2
    exact ⟨_, _, rfl, Own.made w 3 1 1 #[.int .i64 n] rfl (by decide), (Below.refl _ _).alloc (Nat.le_refl _) _⟩
  · by_cases h2 : n < 12
    · have e1 : routeL n = [4, (n : Int) - 4] := by rw [routeL, if_neg h1, if_pos h2]
      rw [e1]
      clear e1
      go_enter Try.func12, Try.ntmps12
      go_wp2
      go_ret2
      exact ⟨_, _, rfl, Own.made w 3 1 2 #[.int .i64 4, .int .i64 ((n : Int) - 4)] rfl (by decide), (Below.refl _ _).alloc (Nat.le_refl _) _⟩
    · have e1 : routeL n = [5, ((n : Int) - 12) / 8, ((n : Int) - 4) % 8] := by rw [routeL, if_neg h1, if_neg h2]
      rw [e1]
      clear e1
      go_enter Try.func12, Try.ntmps12
      go_wp2
      go_ret2
      have e : ((n : Int) - 4 - 8) = n - 12 := by omega
      simp only [e]
      exact ⟨_, _, rfl, Own.made w 3 1 3 #[.int .i64 5, .int .i64 (((n : Int) - 12) / 8), .int .i64 (((n : Int) - 4) % 8)] rfl (by decide), (Below.refl _ _).alloc (Nat.le_refl _) _⟩

theorem ints_len (A B : Option Addr) (n m c c' : Nat) (w : World) (h : n ≠ m) :
    Calls Try.prog 15 #[.slice A n c, .slice B m c'] w fun e w' => e = .returned (.bool false) ∧ Below w.heap.size w w' := by
  have hq : ((n : Int) == (m : Int)) = false := by simp; omega
  go_enter Try.func15, Try.ntmps15
  go_wp2
  go_ret
  exact ⟨rfl, Below.refl _ _⟩

theorem ints_same (A B : Option Addr) (l m : List Int) (c c' : Nat) (w : World) (ha : Ints w A l) (hb : Ints w B m) (h : l.length = m.length) (hl : l.length ≤ 140737488351232) :
    Calls Try.prog 15 #[.slice A l.length c, .slice B l.length c'] w fun e w' => e = .returned (.bool (decide (l = m))) ∧ Below w.heap.size w w' := by
  go_enter Try.func15, Try.ntmps15
  go_wp2_with fail
  go_loopw [5] (fun iv wr => ∃ i : Nat, i ≤ l.length ∧ iv = .int .i64 i ∧ Hid (l.take i = m.take i) ∧ Below w.heap.size w wr) (fun iv _ => l.length - (intOf iv).toNat)
  case atStart => exact ⟨0, by omega, rfl, by exact hid rfl, Below.refl _ _⟩
  case round =>
    obtain ⟨i, hi, rfl, HE, hbel⟩ := hrel
    by_cases hlt : i < l.length
    · obtain ⟨b1, o1, rfl, hc1⟩ := Ints.openq (ha.below hbel (Nat.le_refl _)) (by omega)
      obtain ⟨b2, o2, rfl, hc2⟩ := Ints.openq (hb.below hbel (Nat.le_refl _)) (by omega)
      obtain ⟨x, hx⟩ := get_of_lt l hlt
      obtain ⟨y, hy⟩ := get_of_lt m (i := i) (by omega)
      have hd1 := hc1 i x hx
      have hd2 := hc2 i y hy
      have H := hid h
      have HX := hid hx
      have HY := hid hy
      clear h hc1 hc2 hx hy
      by_cases he : x = y
      · have hq : (x == y) = true := by simpa using he
        have HEE := hid he
        clear he
        go_wp2_with fail
        go_quiet (fail)
        go_wp2_with fail
        go_roundw
        case rel => exact ⟨i + 1, by omega, by go_num, hid (by rw [take_snoc HX.out, take_snoc HY.out, HE.out, HEE.out]), below_drewN hbel _⟩
        case measure => simp [intOf]; omega
      · have hq : (x == y) = false := by simpa using he
        have HEE := hid he
        clear he
        go_wp2_with fail
        go_quiet (fail)
        go_wp2_with fail
        go_ret
        have hne : l ≠ m := fun e => by
          have h1 := HX.out
          rw [e, HY.out] at h1
          exact HEE.out (Option.some.inj h1).symm
        exact ⟨ret_bool (by simp [hne]), below_drewN hbel _⟩
    · have hk : i = l.length := by omega
      have HK := hid hk
      clear hk
      go_wp2_with fail
      go_ret
      exact ⟨ret_bool (by have := HK.out; subst this; have e := HE.out; rw [List.take_length, h, List.take_length] at e; simp [e]), hbel⟩
end Go.Proofs.Ytafofpnfpkbfpaa
