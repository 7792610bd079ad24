/- The law FieldBehind returns true at every input: its walk over the contracts of field.Num and field.Text. No condition. -/
import Derived.Test.YtppbcdcmpcagdaaField8
namespace Go.Proofs.Ytppbcdcmpcagdaa
open Go.RowKit Go.CP

/-- Text over whatever text. -/
def RetText (l : List UInt8) (s : ByteArray) (w : World) (e : Ending) (w' : World) : Prop :=
  (s.size ≤ 65535 ∧ RetOwn2 w 5 1 (l.length + 2 + s.size) ((l ++ little s.size 2 ++ s.data.toList).map bv) (.int .i64 0) e w') ∨ (65535 < s.size ∧ e = .returned (.tuple #[.slice none 0 0, .int .i64 4]) ∧ w' = w)
theorem text_any (A : Option Addr) (l : List UInt8) (c : Nat) (s : ByteArray) (w : World) (hb : Bytes w A l) (hl : l.length ≤ 150000000000000) : Calls Try.prog 41 #[.slice A l.length c, .string s] w (RetText l s w) := by
  by_cases h : s.size ≤ 65535
  · exact (text_ok A l c s w hb hl h).mono fun e w' h' => .inl ⟨h, h'⟩
  · exact (text_err A l.length c s w (by omega)).mono fun e w' h' => .inr ⟨by omega, h'⟩
theorem bstr_size (l : List UInt8) : (bstr l).size = l.length := List.size_toArray
theorem cells_nil0 (w : World) : Bytes w none [] := Cells.nil _ _
theorem conv_u32_i64 (n : Nat) (h : n < 4294967296) : IntKind.i64.wrap (n : Int) = n := by rw [IntKind.wrap_i64]; omega

set_option maxHeartbeats 1000000 in
set_option maxRecDepth 100000 in
theorem fieldBehind_nat (w : World) (A : Option Addr) (l : List UInt8) (c : Nat) (n : Nat) (s : ByteArray) (ha : Bytes w A l) (hl : l.length ≤ 140737488351232) (hn : n < 4294967296) :
    Calls Try.prog 10 #[.slice A l.length c, .int .u32 n, .string s] w fun e w' => e = .returned (.bool true) ∧ Below w.heap.size w w' := by
  have h1 := num_ok A l c n w ha (by omega) hn
  have hll : (l.length : Int) ≤ 140737488351232 := by omega
  go_enter Try.func10, Try.ntmps10
  go_wp2_with fail
  refine h1.mono ?_
  clear h1
  rintro e w1 ⟨A1, c1, rfl, ho1, hb1⟩
  have h2 := num_ok none [] 0 n w1 (cells_nil0 _) (by simp) hn
  go_wp2_with fail
  refine h2.mono ?_
  clear h2
  rintro e w2 ⟨A2, c2, rfl, ho2, hb2⟩
  have hb02 := hb1.trans (hb2.mono hb1.size)
  have h3 := text_any A l c s w2 (ha.below hb02 (Nat.le_refl _)) (by omega)
  go_wp2_with fail
  refine h3.mono ?_
  clear h3
  rintro e w3 (⟨hs, A3, c3, rfl, ho3, hb3⟩ | ⟨hs, rfl, rfl⟩)
  · have h4 := text_ok none [] 0 s w3 (cells_nil0 _) (by simp) hs
    have hb03 := hb02.trans (hb3.mono hb02.size)
    go_wp2_with fail
    refine h4.mono ?_
    clear h4
    rintro e w4 ⟨A4, c4, rfl, ho4, hb4⟩
    have hb04 := hb03.trans (hb4.mono hb03.size)
    go_wp2_with fail
    refine (awake_any _).mono ?_
    rintro e w5 ⟨rfl, hb5⟩
    have hb05 := hb04.trans (hb5.mono hb04.size)
    have k := Nat.le_refl
    have v1 := cv_bytes c1 ((((ho1.cells.below hb2 (k _)).below hb3 (k _)).below hb4 (k _)).below hb5 (k _))
    have v2 := cv_bytes c2 (((ho2.cells.below hb3 (k _)).below hb4 (k _)).below hb5 (k _))
    have v3 := cv_bytes c3 ((ho3.cells.below hb4 (k _)).below hb5 (k _))
    have v4 := cv_bytes c4 (ho4.cells.below hb5 (k _))
    have v5 := cv_bytes c (ha.below hb05 (k _))
    rw [show (l ++ little n 4).length = l.length + 4 from by simp [little_len]] at v1
    rw [show (([] : List UInt8) ++ little n 4).length = 4 from by simp [little_len]] at v2
    rw [show (l ++ little s.size 2 ++ s.data.toList).length = l.length + 2 + s.size from by simp [little_len]; omega] at v3
    rw [show (([] : List UInt8) ++ little s.size 2 ++ s.data.toList).length = 2 + s.size from by simp [little_len]] at v4
    have q1 : (bstr (l ++ little n 4)) = bstr l ++ bstr ([] ++ little n 4) := by rw [bstr_append]; rfl
    have q2 : (bstr (l ++ little s.size 2 ++ s.data.toList)) = bstr l ++ bstr ([] ++ little s.size 2 ++ s.data.toList) := by rw [bstr_append, List.nil_append, List.append_assoc]
    have z5 : (bstr l).size ≤ 140737488351232 := by rw [bstr_size]; exact hl
    have z2 : (bstr ([] ++ little n 4)).size ≤ 4 := by rw [bstr_size]; simp [little_len]
    have z4 : (bstr ([] ++ little s.size 2 ++ s.data.toList)).size ≤ 70000 := by rw [bstr_size]; simp [little_len]; omega
    generalize bstr (l ++ little n 4) = S1 at *
    generalize bstr ([] ++ little n 4) = S2 at *
    generalize bstr (l ++ little s.size 2 ++ s.data.toList) = S3 at *
    generalize bstr ([] ++ little s.size 2 ++ s.data.toList) = S4 at *
    generalize bstr l = S5 at *
    have e1 : (S1.toList == (S5 ++ S2).toList) = true := by rw [q1]; simp
    have e2 : (S3.toList == (S5 ++ S4).toList) = true := by rw [q2]; simp
    clear ho1 ho2 ho3 ho4 q1 q2
    go_wp2_with fail
    go_ret
    exact ⟨rfl, hb05⟩
  · have h4 := text_err none 0 0 s w3 hs
    go_wp2_with fail
    refine h4.mono ?_
    clear h4
    rintro e w4 ⟨rfl, rfl⟩
    go_wp2_with fail
    refine (awake_any _).mono ?_
    rintro e w5 ⟨rfl, hb5⟩
    have hb05 := hb02.trans (hb5.mono hb02.size)
    have k := Nat.le_refl
    have v1 := cv_bytes c1 (((ho1.cells.below hb2 (k _))).below hb5 (k _))
    have v2 := cv_bytes c2 ((ho2.cells).below hb5 (k _))
    have v5 := cv_bytes c (ha.below hb05 (k _))
    rw [show (l ++ little n 4).length = l.length + 4 from by simp [little_len]] at v1
    rw [show (([] : List UInt8) ++ little n 4).length = 4 from by simp [little_len]] at v2
    have q1 : (bstr (l ++ little n 4)) = bstr l ++ bstr ([] ++ little n 4) := by rw [bstr_append]; rfl
    have z5 : (bstr l).size ≤ 140737488351232 := by rw [bstr_size]; exact hl
    have z2 : (bstr ([] ++ little n 4)).size ≤ 4 := by rw [bstr_size]; simp [little_len]
    generalize bstr (l ++ little n 4) = S1 at *
    generalize bstr ([] ++ little n 4) = S2 at *
    generalize bstr l = S5 at *
    have e1 : (S1.toList == (S5 ++ S2).toList) = true := by rw [q1]; simp
    clear ho1 ho2 q1
    go_wp2_with fail
    go_ret
    exact ⟨rfl, hb05⟩

theorem fieldBehind_walk (w : World) (A : Option Addr) (l : List UInt8) (c : Nat) (n : Int) (s : ByteArray) (ha : Bytes w A l) (_ : l.length ≤ c) (hl : l.length ≤ 140737488351232) (hn : 0 ≤ n ∧ n < 4294967296) (_ : s.size ≤ 140737488351232) :
    Calls Try.prog 10 #[.slice A l.length c, .int .u32 n, .string s] w fun e w' => e = .returned (.bool true) ∧ Below w.heap.size w w' := by
  obtain ⟨k, rfl⟩ := Int.eq_ofNat_of_zero_le hn.1
  exact fieldBehind_nat w A l c k s ha hl (by omega)
end Go.Proofs.Ytppbcdcmpcagdaa
