/- The law FieldWrites returns true at every input: its walk over the contracts of field.Num, field.Text and of the reference's Little, Text. No condition. -/
import Derived.Test.YtppbcdcmpcagdaaWalkFieldBehind
import Derived.Deep.RegionHeld3
namespace Go.Proofs.Ytppbcdcmpcagdaa
open Go.RowKit Go.CP

theorem below_t {B : Nat} {w a b : World} (h : Below B w a) (k : Below a.heap.size a b) (hB : B ≤ a.heap.size) : Below B w b := h.trans (k.mono hB)

theorem str_eq {a b : ByteArray} (h : a = b) : (a.toList == b.toList) = true := by rw [h]; simp

/-- The texts that are written, and the text that is wanted. -/
def Wants (l : List UInt8) (n : Nat) (s S1 S2 S3 S4 S5 : ByteArray) : Prop :=
  bstr (l ++ little n 4) = S1 ∧ bstr (little n 4) = S2 ∧ bstr (l ++ little s.size 2 ++ s.data.toList) = S3 ∧ bstr (little s.size 2 ++ s.data.toList) = S4 ∧ bstr l = S5
theorem wants (l : List UInt8) (n : Nat) (s : ByteArray) (hl : l.length ≤ 140737488351232) (hs : s.size ≤ 65535) :
    ∃ S1 S2 S3 S4 S5, Wants l n s S1 S2 S3 S4 S5 ∧ S5.size ≤ 140737488351232 ∧ S2.size ≤ 4 ∧ S4.size ≤ 70000 ∧ (S1.toList == (S5 ++ S2).toList) = true ∧ (S3.toList == (S5 ++ S4).toList) = true :=
  ⟨_, _, _, _, _, ⟨rfl, rfl, rfl, rfl, rfl⟩, by rw [bstr_size]; exact hl, by rw [bstr_size, little_len]; omega, by rw [bstr_size]; simp [little_len]; omega, str_eq (by rw [bstr_append]), str_eq (by rw [bstr_append, List.append_assoc])⟩

set_option maxHeartbeats 2000000 in
set_option maxRecDepth 100000 in
theorem fw_in_in (w : World) (A : Option Addr) (l : List UInt8) (c : Nat) (n : Nat) (s : ByteArray) (ha : Bytes w A l) (hl : l.length ≤ 140737488351232) (hn : n < 4294967296) (hs : s.size ≤ 65535) :
    Calls Try.prog 3 #[.slice A l.length c, .int .i64 n, .string s] w fun e w' => e = .returned (.bool true) ∧ Below w.heap.size w w' := by
  have h1 := num_ok A l c n w ha (by omega) hn
  have hll : (l.length : Int) ≤ 140737488351232 := by omega
  have hn1 : (n : Int) ≤ 4294967295 := by omega
  have hn0 : (0 : Int) ≤ n := by omega
  have hs1 : (s.size : Int) ≤ 65535 := by omega
  have hcv := fun W (hW : Below w.heap.size w W) => cv_bytes c (ha.below hW (Nat.le_refl _))
  have hli := fun W => little_any n 4 W (by omega) (by omega)
  have hte := fun W => rtext_any s W (by omega)
  rw [show ((4 : Nat) : Int) = 4 from rfl] at hli
  obtain ⟨S1, S2, S3, S4, S5, hW, z5, z2, z4, e1, e2⟩ := wants l n s hl hs
  rw [hW.2.1] at hli
  rw [hW.2.2.2.1] at hte
  simp only [hW.2.2.2.2] at hcv
  have hz1 : ¬ 9223372036854775807 < S5.size + S2.size := by omega
  have hz2 : ¬ 9223372036854775807 < S5.size + S4.size := by omega
  have HW := hid hW
  have HLI := hid hli
  have HTE := hid hte
  have HCV := hid hcv
  clear hli hte hW hcv
  go_enter Try.func3, Try.ntmps3
  go_wp2_with fail
  refine h1.mono ?_
  clear h1
  rintro e w1 ⟨A1, c1, rfl, ho1, hb1⟩
  have h2 := text_ok A l c s w1 (ha.below hb1 (Nat.le_refl _)) (by omega) hs
  go_wp2_with fail
  refine h2.mono ?_
  clear h2
  rintro e w2 ⟨A2, c2, rfl, ho2, hb2⟩
  have hb02 := below_t hb1 hb2 hb1.size
  have hcv := fun W (hW : Below w2.heap.size w2 W) => HCV.out W (below_t hb02 hW hb02.size)
  go_wp2_with fail
  go_region_held3 (fun W => Below w2.heap.size w2 W) (first | exact Below.refl _ _ | exact Below.drew (Below.refl _ _) | assumption | (refine Below.drew ?_; assumption))
    (first | (go_at_call 42; refine (HLI.out _).mono ?_; rintro e w3 ⟨rfl, hb3⟩; have hk := below_t (by assumption : Below w2.heap.size w2 _) hb3 (Below.size (by assumption : Below w2.heap.size w2 _))))
  all_goals
    have HK := hid hk
    go_wp2_with fail
    go_region_held3 (fun W => Below w2.heap.size w2 W) (first | exact HK.out | assumption | (refine Below.drew ?_; assumption) | exact HK.out.drew)
      (first | (go_at_call 43; refine (HTE.out _).mono ?_; rintro e w4 ⟨rfl, hb4⟩; have hk2 := below_t (by assumption : Below w2.heap.size w2 _) hb4 (Below.size (by assumption : Below w2.heap.size w2 _))))
    have HK2 := hid hk2
    clear hcv
    go_wp2_with fail
    refine (awake_any _).mono ?_
    rintro e w5 ⟨rfl, hb5⟩
    have hk5 := below_t HK2.out hb5 HK2.out.size
    have v1 := cv_bytes c1 ((ho1.cells.below hb2 (Nat.le_refl _)).below hk5 (Nat.le_refl _))
    have v2 := cv_bytes c2 (ho2.cells.below hk5 (Nat.le_refl _))
    rw [show (l ++ little n 4).length = l.length + 4 from by simp [little_len], HW.out.1] at v1
    rw [show (l ++ little s.size 2 ++ s.data.toList).length = l.length + 2 + s.size from by simp [little_len]; omega, HW.out.2.2.1] at v2
    clear ho1 ho2
    go_wp2
    go_ret
    exact ⟨rfl, below_t hb02 hk5 hb02.size⟩

theorem cv_none (w : World) : (convert 22 9 (.slice none 0 0)).run Try.prog w = .ok (.string (bstr [])) w := cv_bytes (A := none) (l := []) 0 (Cells.nil _ _)

set_option maxHeartbeats 2000000 in
set_option maxRecDepth 100000 in
theorem fw_in_out (w : World) (A : Option Addr) (l : List UInt8) (c : Nat) (n : Nat) (s : ByteArray) (ha : Bytes w A l) (hl : l.length ≤ 140737488351232) (hn : n < 4294967296) (hs : 65535 < s.size) (hsl : s.size ≤ 140737488351232) :
    Calls Try.prog 3 #[.slice A l.length c, .int .i64 n, .string s] w fun e w' => e = .returned (.bool true) ∧ Below w.heap.size w w' := by
  have h1 := num_ok A l c n w ha (by omega) hn
  have hll : (l.length : Int) ≤ 140737488351232 := by omega
  have hn1 : (n : Int) ≤ 4294967295 := by omega
  have hn0 : (0 : Int) ≤ n := by omega
  have hcv := fun W (hW : Below w.heap.size w W) => cv_bytes c (ha.below hW (Nat.le_refl _))
  have hli := fun W => little_any n 4 W (by omega) (by omega)
  rw [show ((4 : Nat) : Int) = 4 from rfl] at hli
  obtain ⟨S1, S2, S3, S4, S5, hW, z5, z2, z4, e1, e2⟩ := wants l n ByteArray.empty hl (by decide)
  rw [hW.2.1] at hli
  simp only [hW.2.2.2.2] at hcv
  have hz1 : ¬ 9223372036854775807 < S5.size + S2.size := by omega
  have hz2 : ¬ 9223372036854775807 < S5.size + S4.size := by omega
  have HW := hid hW
  have HLI := hid hli
  have HCV := hid hcv
  clear hli hW hcv
  go_enter Try.func3, Try.ntmps3
  go_wp2_with fail
  refine h1.mono ?_
  clear h1
  rintro e w1 ⟨A1, c1, rfl, ho1, hb1⟩
  have h2 := text_err A l.length c s w1 hs
  have hs2 : decide ((s.size : Int) ≤ 65535) = false := by simp; omega
  go_wp2_with fail
  refine h2.mono ?_
  clear h2
  rintro e w2 ⟨rfl, rfl⟩
  have hcv := fun W (hW : Below w2.heap.size w2 W) => HCV.out W (below_t hb1 hW hb1.size)
  go_wp2_with fail
  go_region_held3 (fun W => Below w2.heap.size w2 W) (first | exact Below.refl _ _ | exact Below.drew (Below.refl _ _) | assumption | (refine Below.drew ?_; assumption))
    (first | (go_at_call 42; refine (HLI.out _).mono ?_; rintro e w3 ⟨rfl, hb3⟩; have hk := below_t (by assumption : Below w2.heap.size w2 _) hb3 (Below.size (by assumption : Below w2.heap.size w2 _))))
  all_goals
    have HK := hid hk
    clear hcv
    go_wp2_with fail
    refine (awake_any _).mono ?_
    rintro e w5 ⟨rfl, hb5⟩
    have hk5 := below_t HK.out hb5 HK.out.size
    have v1 := cv_bytes c1 (ho1.cells.below hk5 (Nat.le_refl _))
    have v2 := cv_none w5
    rw [show (l ++ little n 4).length = l.length + 4 from by simp [little_len], HW.out.1] at v1
    clear ho1
    go_wp2
    go_ret
    exact ⟨rfl, below_t hb1 hk5 hb1.size⟩

set_option maxHeartbeats 2000000 in
set_option maxRecDepth 100000 in
theorem fw_out_in (w : World) (A : Option Addr) (l : List UInt8) (c : Nat) (n : Int) (s : ByteArray) (ha : Bytes w A l) (hl : l.length ≤ 140737488351232) (hn : n < 0 ∨ (0 ≤ n ∧ 4294967295 < n)) (hs : s.size ≤ 65535) :
    Calls Try.prog 3 #[.slice A l.length c, .int .i64 n, .string s] w fun e w' => e = .returned (.bool true) ∧ Below w.heap.size w w' := by
  have h1 := num_err A l.length c n w (by omega)
  have hll : (l.length : Int) ≤ 140737488351232 := by omega
  have hs1 : (s.size : Int) ≤ 65535 := by omega
  have hcv := fun W (hW : Below w.heap.size w W) => cv_bytes c (ha.below hW (Nat.le_refl _))
  have hte := fun W => rtext_any s W (by omega)
  obtain ⟨S1, S2, S3, S4, S5, hW, z5, z2, z4, e1, e2⟩ := wants l 0 s hl hs
  rw [hW.2.2.2.1] at hte
  simp only [hW.2.2.2.2] at hcv
  have hz1 : ¬ 9223372036854775807 < S5.size + S2.size := by omega
  have hz2 : ¬ 9223372036854775807 < S5.size + S4.size := by omega
  have HW := hid hW
  have HTE := hid hte
  have HCV := hid hcv
  clear hte hW hcv
  rcases hn with hn | ⟨hn0, hn⟩
  have hnd : decide ((0 : Int) ≤ n) = false := by simp; omega
  rotate_left
  have hnd : decide (n ≤ (4294967295 : Int)) = false := by simp; omega
  all_goals
    go_enter Try.func3, Try.ntmps3
    go_wp2_with fail
    refine h1.mono ?_
    clear h1
    rintro e w1 ⟨rfl, rfl⟩
    have h2 := text_ok A l c s w1 ha (by omega) hs
    go_wp2_with fail
    refine h2.mono ?_
    clear h2
    rintro e w2 ⟨A2, c2, rfl, ho2, hb2⟩
    have hcv := fun W (hW : Below w2.heap.size w2 W) => HCV.out W (below_t hb2 hW hb2.size)
    go_wp2_with fail
    go_region_held3 (fun W => Below w2.heap.size w2 W) (first | exact Below.refl _ _ | exact Below.drew (Below.refl _ _) | assumption | (refine Below.drew ?_; assumption))
      (first | (go_at_call 43; refine (HTE.out _).mono ?_; rintro e w4 ⟨rfl, hb4⟩; have hk2 := below_t (by assumption : Below w2.heap.size w2 _) hb4 (Below.size (by assumption : Below w2.heap.size w2 _))))
    all_goals
      have HK2 := hid hk2
      clear hcv
      go_wp2_with fail
      refine (awake_any _).mono ?_
      rintro e w5 ⟨rfl, hb5⟩
      have hk5 := below_t HK2.out hb5 HK2.out.size
      have v1 := cv_none w5
      have v2 := cv_bytes c2 (ho2.cells.below hk5 (Nat.le_refl _))
      rw [show (l ++ little s.size 2 ++ s.data.toList).length = l.length + 2 + s.size from by simp [little_len]; omega, HW.out.2.2.1] at v2
      clear ho2
      go_wp2
      go_ret
      exact ⟨rfl, below_t hb2 hk5 hb2.size⟩

set_option maxHeartbeats 2000000 in
set_option maxRecDepth 100000 in
theorem fw_out_out (w : World) (A : Option Addr) (len : Nat) (c : Nat) (n : Int) (s : ByteArray) (hn : n < 0 ∨ (0 ≤ n ∧ 4294967295 < n)) (hs : 65535 < s.size) (hsl : s.size ≤ 140737488351232) :
    Calls Try.prog 3 #[.slice A len c, .int .i64 n, .string s] w fun e w' => e = .returned (.bool true) ∧ Below w.heap.size w w' := by
  have h1 := num_err A len c n w (by omega)
  rcases hn with hn | ⟨hn0, hn⟩
  have hnd : decide ((0 : Int) ≤ n) = false := by simp; omega
  rotate_left
  have hnd : decide (n ≤ (4294967295 : Int)) = false := by simp; omega
  all_goals
    go_enter Try.func3, Try.ntmps3
    go_wp2_with fail
    refine h1.mono ?_
    clear h1
    rintro e w1 ⟨rfl, rfl⟩
    have h2 := text_err A len c s w1 hs
    have hs2 : decide ((s.size : Int) ≤ 65535) = false := by simp; omega
    go_wp2_with fail
    refine h2.mono ?_
    clear h2
    rintro e w2 ⟨rfl, rfl⟩
    go_wp2_with fail
    refine (awake_any _).mono ?_
    rintro e w5 ⟨rfl, hb5⟩
    have v1 := cv_none w5
    go_wp2
    go_ret
    exact ⟨rfl, hb5⟩

theorem fieldWrites_walk (w : World) (A : Option Addr) (l : List UInt8) (c : Nat) (n : Int) (s : ByteArray) (ha : Bytes w A l) (_ : l.length ≤ c) (hl : l.length ≤ 140737488351232) (_ : -9223372036854775808 ≤ n ∧ n < 9223372036854775808) (hsl : s.size ≤ 140737488351232) :
    Calls Try.prog 3 #[.slice A l.length c, .int .i64 n, .string s] w fun e w' => e = .returned (.bool true) ∧ Below w.heap.size w w' := by
  by_cases hs : s.size ≤ 65535
  · by_cases hn : 0 ≤ n ∧ n ≤ 4294967295
    · obtain ⟨k, rfl⟩ := Int.eq_ofNat_of_zero_le hn.1
      exact fw_in_in w A l c k s ha hl (by omega) hs
    · exact fw_out_in w A l c n s ha hl (by omega) hs
  · by_cases hn : 0 ≤ n ∧ n ≤ 4294967295
    · obtain ⟨k, rfl⟩ := Int.eq_ofNat_of_zero_le hn.1
      exact fw_in_out w A l c k s ha hl (by omega) (by omega) hsl
    · exact fw_out_out w A l.length c n s (by omega) (by omega) hsl
end Go.Proofs.Ytppbcdcmpcagdaa
