/- Contract of marks.First. -/
import Derived.Test.YtafofpnfpkbfpaaMarks2
namespace Go.Proofs.Ytafofpnfpkbfpaa
open Go.RowKit Go.CP

/-- The first number from n on, of d at most, that is not marked. -/
def ff (l : List UInt8) : Nat → Nat → Nat
  | 0, n => n
  | d + 1, n => if bitOf l n then ff l d (n + 1) else n

def firstN (l : List UInt8) (a b : Nat) : Int := if ff l (b - a) a = b then 0 else ff l (b - a) a
def firstE (l : List UInt8) (a b : Nat) : Int := if ff l (b - a) a = b then 10 else 0

theorem first_err (A : Option Addr) (len c : Nat) (a b : Int) (w : World) (h : stretchE len a b ≠ 0) :
    Calls Try.prog 25 #[.slice A len c, .int .i64 a, .int .i64 b] w fun e w' => e = .returned (.tuple #[.int .i64 0, .int .i64 (stretchE len a b)]) ∧ w' = w := by
  have hr : (stretchE len a b != 0) = true := by simpa using h
  clear h
  go_enter Try.func25, Try.ntmps25
  go_wp2
  go_step3
  go_wp2_with fail
  refine (stretch_any _ _ _ _ _ _).mono ?_
  rintro e w' ⟨rfl, rfl⟩
  go_wp2_with fail
  rw [Exit.noGoto_ret]
  go_ret2
  exact ⟨rfl, rfl⟩

theorem first_ok (A : Option Addr) (l : List UInt8) (c : Nat) (a b : Nat) (w : World) (hb : Bytes w A l) (hl : l.length = 128) (hab : a ≤ b) (hbm : b ≤ 1024) :
    Calls Try.prog 25 #[.slice A l.length c, .int .i64 a, .int .i64 b] w fun e w' => e = .returned (.tuple #[.int .i64 (firstN l a b), .int .i64 (firstE l a b)]) ∧ w' = w := by
  have h0 : stretchE l.length a b = 0 := by unfold stretchE; (repeat' split) <;> omega
  have H0 := hid h0
  clear h0
  have HL := hid hl
  have hl2 : l.length ≤ 1000000 := by omega
  have hb8 : b ≤ 8 * l.length := by omega
  clear hl
  go_enter Try.func25, Try.ntmps25
  go_wp2
  refine wp_scope_jumps 0 (fun a' w' => w' = w ∧ ∃ (n : Nat) (u1 u2 u3 u4 u5 u6 u7 u8 u9 u10 u11 u12 u13 u14 u15 u16 u17 u18 u19 u20 : Value), a' = { tmps := #[.slice A l.length c, .int .i64 a, .int .i64 b, u1, u2, u3, .int .i64 0, .int .i64 0, u4, .int .i64 n, u5, u6, u7, u8, u9, u10, u11, u12, u13, u14, u15, u16, u17, u18, u19, u20, undef], defers := [] } ∧ a ≤ n ∧ n ≤ b ∧ Hid (ff l (b - n) n = ff l (b - a) a))
    (fun a' _ => b - (intOf (a'.tmps.getD 9 undef)).toNat) rfl ?_ ?_
  · go_wp2_with fail
    refine (stretch_any _ _ _ _ _ _).mono ?_
    rintro e w' ⟨rfl, rfl⟩
    rw [H0.out]
    go_wp2_with fail
    go_step3
    by_cases hn : a = b
    · have hq : ((a : Int) == (b : Int)) = true := by simp [hn]
      have HN := hid hn
      clear hn
      go_wp2_with fail
      simp only [Exit.jump]
      go_ret2
      exact ⟨ret_2 (vint (by have := HN.out; subst this; simp [firstN, ff])) (vint (by have := HN.out; subst this; simp [firstE, ff])), rfl⟩
    · have hq : ((a : Int) == (b : Int)) = false := by simp; omega
      have HN := hid hn
      have hlt : a < 8 * l.length := by omega
      clear hn
      go_wp2_with fail
      refine (on_any _ _ _ _ _ hb hlt hl2).mono ?_
      rintro e w' ⟨rfl, rfl⟩
      have hd : b - a = (b - (a + 1)) + 1 := by have := HN.out; omega
      have HD := hid hd
      clear hd
      by_cases hon : bitOf l a = true
      · go_wp2_with fail
        go_step3
        exact ⟨rfl, rfl, a + 1, _, _, _, _, _, _, _, _, _, _, _, _, _, _, _, _, _, _, _, _, by rw [Int.natCast_add]; rfl, by omega, by have := HN.out; omega, by show ff l (b - (a + 1)) (a + 1) = ff l (b - a) a; rw [HD.out, ff, if_pos hon]⟩
      · have hon' : bitOf l a = false := by simpa using hon
        clear hon
        go_wp2_with fail
        simp only [Exit.jump]
        go_ret2
        have hf : ff l (b - a) a = a := by rw [HD.out, ff, if_neg (by simp [hon'])]
        exact ⟨ret_2 (vint (by simp [firstN, hf, HN.out])) (vint (by simp [firstE, hf, HN.out])), rfl⟩
  · rintro a' w' ⟨rfl, n, u1, u2, u3, u4, u5, u6, u7, u8, u9, u10, u11, u12, u13, u14, u15, u16, u17, u18, u19, u20, rfl, han, hnb, HF⟩
    by_cases hn : n = b
    · have hq : ((n : Int) == (b : Int)) = true := by simp [hn]
      have HN := hid hn
      clear hn
      go_wp2_with fail
      simp only [Exit.jump]
      go_ret2
      have hf : ff l (b - a) a = b := by rw [← HF.out, HN.out, Nat.sub_self, ff]
      exact ⟨ret_2 (vint (by simp [firstN, hf])) (vint (by simp [firstE, hf])), rfl⟩
    · have hq : ((n : Int) == (b : Int)) = false := by simp; omega
      have HN := hid hn
      have hlt : n < 8 * l.length := by omega
      clear hn
      go_wp2_with fail
      refine (on_any _ _ _ _ _ hb hlt hl2).mono ?_
      rintro e w' ⟨rfl, rfl⟩
      have hd : b - n = (b - (n + 1)) + 1 := by have := HN.out; omega
      have HD := hid hd
      clear hd
      by_cases hon : bitOf l n = true
      · go_wp2_with fail
        go_step3
        exact ⟨rfl, ⟨rfl, n + 1, _, _, _, _, _, _, _, _, _, _, _, _, _, _, _, _, _, _, _, _, by rw [Int.natCast_add]; rfl, by omega, by have := HN.out; omega, by show ff l (b - (n + 1)) (n + 1) = ff l (b - a) a; rw [← HF.out, HD.out, ff, if_pos hon]⟩, by have := HN.out; simp [intOf]; omega⟩
      · have hon' : bitOf l n = false := by simpa using hon
        clear hon
        go_wp2_with fail
        simp only [Exit.jump]
        go_ret2
        have hf : ff l (b - a) a = n := by rw [← HF.out, HD.out, ff, if_neg (by simp [hon'])]
        exact ⟨ret_2 (vint (by simp [firstN, hf, HN.out])) (vint (by simp [firstE, hf, HN.out])), rfl⟩
end Go.Proofs.Ytafofpnfpkbfpaa
