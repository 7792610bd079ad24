/- The law FieldFrames returns true at every input: its walk over the contracts of field.Frame, field.Open and of the reference's. No condition. -/
import Derived.Test.YtppbcdcmpcagdaaField9
import Derived.Test.YtppbcdcmpcagdaaWalkFieldWrites
namespace Go.Proofs.Ytppbcdcmpcagdaa
open Go.RowKit Go.CP

/-- What field.Open and the reference's Open hand back is alike: one value, its bytes, its code. -/
theorem conv_len {w : World} {A : Option Addr} {l : List UInt8} {n : Nat} (c : Nat) (h : Bytes w A l) (hn : l.length = n) : (convert 22 9 (.slice A n c)).run Try.prog w = .ok (.string (bstr l)) w := by
  subst hn; exact cv_bytes c h

set_option maxHeartbeats 4000000 in
set_option maxRecDepth 100000 in
theorem fieldFrames_u8 (w : World) (x : UInt8) (A : Option Addr) (l : List UInt8) (c : Nat) (B : Option Addr) (m : List UInt8) (d : Nat) (ha : Bytes w A l) (hb : Bytes w B m) (hd : m.length ≤ d) (hm : m.length ≤ 140737488351232) (hl : l.length ≤ 140737488351232) :
    Calls Try.prog 5 #[bv x, .slice A l.length c, .slice B m.length d] w fun e w' => e = .returned (.bool true) ∧ Below w.heap.size w w' := by
  have h1 := frame_any x A l c w ha
  have HR := hid (rframe_any x (bstr l))
  have HO := hid (ropen_any (bstr m))
  have hzm : (bstr m).size ≤ 140737488351232 := by rw [bstr_size]; exact hm
  go_enter Try.func5, Try.ntmps5
  go_wp2_with fail
  refine h1.mono ?_
  clear h1
  rintro e w1 h1
  obtain ⟨A1, n1, c1, k1, F1, rfl, hb1, hc1, hn1, HF⟩ : ∃ A1 n1 c1, ∃ k1 : Int, ∃ F1, e = .returned (.tuple #[.slice A1 n1 c1, .int .i64 k1]) ∧ Below w.heap.size w w1 ∧ Bytes w1 A1 F1 ∧ F1.length = n1 ∧
      Hid ((l.length ≤ 65535 ∧ F1 = frameL x l ∧ k1 = 0) ∨ (65535 < l.length ∧ F1 = [] ∧ k1 = 17)) := by
    rcases h1 with ⟨hl, A1, c1, rfl, ho1, hb1⟩ | ⟨hl, rfl, rfl⟩
    · exact ⟨A1, _, c1, 0, frameL x l, rfl, hb1, ho1.cells, frameL_len x l, hid (.inl ⟨hl, rfl, rfl⟩)⟩
    · exact ⟨none, 0, 0, 17, [], rfl, Below.refl _ _, Cells.nil _ _, rfl, hid (.inr ⟨hl, rfl, rfl⟩)⟩
  have hcl := cv_bytes c (ha.below hb1 (Nat.le_refl _))
  go_wp2_with fail
  refine (HR.out w1).mono ?_
  rintro e w2 ⟨hb2, h2⟩
  obtain ⟨k2, F2, rfl, HF2⟩ : ∃ (k2 : Int) (F2 : List UInt8), e = .returned (.tuple #[.string (bstr F2), .int .i64 k2]) ∧ Hid (F2 = F1 ∧ k2 = k1) := by
    rcases h2 with ⟨hl, rfl⟩ | ⟨hl, rfl⟩
    · refine ⟨_, _, rfl, hid ?_⟩
      rcases HF.out with ⟨_, h, k⟩ | ⟨h, _⟩
      · exact ⟨h.symm, k.symm⟩
      · have : (bstr l).data.toList.length = l.length := rfl
        omega
    · refine ⟨_, _, rfl, hid ?_⟩
      rcases HF.out with ⟨h, _⟩ | ⟨_, h, k⟩
      · have : (bstr l).data.toList.length = l.length := rfl
        omega
      · exact ⟨h.symm, k.symm⟩
  have hb02 := below_t hb1 hb2 hb1.size
  have h3 := open_any B m d w2 (hb.below hb02 (Nat.le_refl _)) hd hm
  clear hcl
  go_wp2_with fail
  refine h3.mono ?_
  clear h3
  rintro e w3 h3
  obtain ⟨t, A3, n3, c3, k3, F3, rfl, hb3, hc3, hn3, HF3⟩ : ∃ (t : UInt8) (A3 : Option Addr) (n3 c3 : Nat) (k3 : Int) (F3 : List UInt8), e = .returned (.tuple #[bv t, .slice A3 n3 c3, .int .i64 k3]) ∧ Below w2.heap.size w2 w3 ∧ Bytes w3 A3 F3 ∧ F3.length = n3 ∧
      Hid ((openE m = 0 ∧ m[0]? = some t ∧ F3 = bodyL m ∧ k3 = 0) ∨ (openE m ≠ 0 ∧ t = 0 ∧ F3 = [] ∧ k3 = (openE m : Nat))) := by
    rcases h3 with ⟨h, A3, c3, t, rfl, ht, ho3, hb3⟩ | ⟨h, rfl, hb3⟩
    · exact ⟨t, A3, _, c3, 0, bodyL m, rfl, hb3, ho3.cells, rfl, hid (.inl ⟨h, ht, rfl, rfl⟩)⟩
    · exact ⟨0, none, 0, 0, _, [], rfl, hb3, Cells.nil _ _, rfl, hid (.inr ⟨h, rfl, rfl, rfl⟩)⟩
  have hb03 := below_t hb02 hb3 hb02.size
  have hcm := cv_bytes d (hb.below hb03 (Nat.le_refl _))
  have hro := HO.out w3 hzm
  go_wp2_with fail
  refine hro.mono ?_
  clear hro
  rintro e w4 ⟨hb4, h4⟩
  obtain ⟨t4, k4, F4, rfl, HF4⟩ : ∃ (t4 : UInt8) (k4 : Int) (F4 : List UInt8), e = .returned (.tuple #[bv t4, .string (bstr F4), .int .i64 k4]) ∧ Hid (t4 = t ∧ F4 = F3 ∧ k4 = k3) := by
    rcases h4 with ⟨h, t', ht', rfl⟩ | ⟨h, rfl⟩
    · refine ⟨t', 0, bodyL m, rfl, hid ?_⟩
      rcases HF3.out with ⟨_, h2, h3, h4⟩ | ⟨h2, _⟩
      · rw [h2] at ht'; exact ⟨(Option.some.inj ht').symm, h3.symm, h4.symm⟩
      · exact absurd h h2
    · refine ⟨0, _, [], rfl, hid ?_⟩
      rcases HF3.out with ⟨h2, _⟩ | ⟨_, h2, h3, h4⟩
      · exact absurd h2 h
      · exact ⟨h2.symm, h3.symm, h4.symm⟩
  have hb04 := below_t hb03 hb4 hb03.size
  obtain ⟨e1, e2⟩ := HF2.out
  obtain ⟨e3, e4, e5⟩ := HF4.out
  subst e1 e2 e3 e4 e5
  clear hcm HF HF2 HF3 HF4 HR HO
  go_wp2_with fail
  refine (awake_any _).mono ?_
  rintro e w5 ⟨rfl, hb5⟩
  have hb05 := below_t hb04 hb5 hb04.size
  have v1 := conv_len c1 (((hc1.below (below_t hb2 (hb3) hb2.size) (Nat.le_refl _)).below hb4 (Nat.le_refl _)).below hb5 (Nat.le_refl _)) hn1
  have v3 := conv_len c3 ((hc3.below hb4 (Nat.le_refl _)).below hb5 (Nat.le_refl _)) hn3
  clear hn1 hn3
  go_wp2
  go_ret
  exact ⟨rfl, hb05⟩

theorem fieldFrames_walk (w : World) (a : Int) (A : Option Addr) (l : List UInt8) (c : Nat) (B : Option Addr) (m : List UInt8) (d : Nat) (h1 : 0 ≤ a ∧ a < 256) (ha : Bytes w A l) (_ : l.length ≤ c) (hl : l.length ≤ 140737488351232)
    (hb : Bytes w B m) (hd : m.length ≤ d) (hm : m.length ≤ 140737488351232) :
    Calls Try.prog 5 #[.int .u8 a, .slice A l.length c, .slice B m.length d] w fun e w' => e = .returned (.bool true) ∧ Below w.heap.size w w' := by
  obtain ⟨x, hx⟩ := u8_spell a h1
  rw [hx]
  exact fieldFrames_u8 w x A l c B m d ha hb hd hm hl
end Go.Proofs.Ytppbcdcmpcagdaa
