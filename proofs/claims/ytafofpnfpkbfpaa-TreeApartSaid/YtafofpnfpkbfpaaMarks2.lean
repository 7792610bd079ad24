/- Contract of marks.Set. -/
import Derived.Test.YtafofpnfpkbfpaaMarks
import Derived.ScopeJumps
namespace Go.Proofs.Ytafofpnfpkbfpaa
open Go.RowKit Go.CP

def setBit (l : List UInt8) (n : Nat) (y : Bool) : List UInt8 :=
  if bitOf l n = y then l else l.set (n / 8) (l.getD (n / 8) 0 ^^^ (1 <<< UInt8.ofNat (n % 8)))

theorem set_err (A : Option Addr) (len c : Nat) (n : Int) (y : Bool) (w : World) (h : rightE len n ≠ 0) :
    Calls Try.prog 20 #[.slice A len c, .int .i64 n, .bool y] w fun e w' => e = .returned (.tuple #[.slice none 0 0, .int .i64 (rightE len n)]) ∧ w' = w := by
  go_enter Try.func20, Try.ntmps20
  go_wp2_with fail
  refine (right_any _ _ _ _ _).mono ?_
  rintro e w' ⟨rfl, rfl⟩
  have hr : (rightE len n != 0) = true := by simpa using h
  clear h
  go_wp2_with fail
  go_ret2
  exact ⟨rfl, rfl⟩

theorem set_ok (A : Option Addr) (l : List UInt8) (c : Nat) (n : Nat) (y : Bool) (w : World) (hb : Bytes w A l) (hl : l.length = 128) (hn : n < 1024) :
    Calls Try.prog 20 #[.slice A l.length c, .int .i64 n, .bool y] w (RetOwn2 w 5 1 l.length ((setBit l n y).map bv) (.int .i64 0)) := by
  have h0 : rightE l.length n = 0 := by unfold rightE; (repeat' split) <;> omega
  have H0 := hid h0
  have HL := hid hl
  have hn8 : n < 8 * l.length := by omega
  have hl2 : l.length ≤ 1000000 := by omega
  have hl3 : n / 8 < l.length := by omega
  clear h0 hl
  by_cases hbit : bitOf l n = y
  · have hbit' : (bitOf l n == y) = true := by simpa using hbit
    have HB := hid hbit
    clear hbit
    go_enter Try.func20, Try.ntmps20
    go_wp2_with fail
    refine (right_any _ _ _ _ _).mono ?_
    rintro e w' ⟨rfl, rfl⟩
    rw [H0.out]
    go_wp2_with fail
    refine (clone_any _ _ _ _ hb (by omega)).mono ?_
    rintro e w1 ⟨A', c', rfl, ho, hbel⟩
    go_wp2_with fail
    refine (on_any _ _ _ _ _ (hb.below hbel (Nat.le_refl _)) hn8 hl2).mono ?_
    rintro e w2 ⟨rfl, rfl⟩
    go_wp2_with fail
    refine (clip_any _ _ _ _ ho.le.1).mono ?_
    rintro e w3 ⟨rfl, rfl⟩
    go_wp2_with fail
    go_ret2
    refine ⟨A', l.length, rfl, ?_, hbel⟩
    rw [show setBit l n y = l from if_pos HB.out]
    exact ho.clip
  · have hbit' : (bitOf l n == y) = false := by simpa using hbit
    have HB := hid hbit
    clear hbit
    go_enter Try.func20, Try.ntmps20
    go_wp2_with fail
    refine (right_any _ _ _ _ _).mono ?_
    rintro e w' ⟨rfl, rfl⟩
    rw [H0.out]
    go_wp2_with fail
    refine (clone_any _ _ _ _ hb (by omega)).mono ?_
    rintro e w1 ⟨A', c', rfl, ho, hbel⟩
    obtain ⟨g, cur, rfl, hg, _⟩ := ho.open (by omega)
    have hcell := (Bytes.open ho.cells (by omega))
    obtain ⟨g', off', e1, hcell⟩ := hcell
    cases e1
    have hc1 := hcell _ hl3
    simp only [Nat.zero_add] at hc1
    have hfr := ho.free rfl (n / 8)
    clear hcell
    go_wp2_with fail
    refine (on_any _ _ _ _ _ (hb.below hbel (Nat.le_refl _)) hn8 hl2).mono ?_
    rintro e w2 ⟨rfl, rfl⟩
    go_wp2_with fail
    refine (clip_any _ _ _ _ ho.le.1).mono ?_
    rintro e w3 ⟨rfl, rfl⟩
    go_wp2_with fail
    go_ret2
    refine ⟨_, _, rfl, ?_, hbel.setCell hg _⟩
    have hs : bits .xor .u8 (l[n / 8].toNat : Int) (2 ^ min (IntKind.u64.wrap (bits .and .i64 (n : Int) 7)).toNat 8 % 256) = ((l[n / 8] ^^^ (1 <<< UInt8.ofNat (n % 8))).toNat : Int) := by
      rw [bits_and_i64_7 n (by omega), wrap_u64_small _ (by omega), Int.toNat_natCast, Nat.min_eq_left (by omega), two_pow_u8 _ (by omega), bits_xor_u8]
    rw [hs, show setBit l n y = l.set (n / 8) (l[n / 8] ^^^ (1 <<< UInt8.ofNat (n % 8))) from by simp [setBit, HB.out, List.getD, hl3], List.map_set]
    exact (ho.set rfl _ _).clip
end Go.Proofs.Ytafofpnfpkbfpaa
