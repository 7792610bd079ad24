/- The law FieldApart returns true at every input: its walk over the contract of field.Frame; frames are equal just where tag and body are. No condition. -/
import Derived.Test.YtppbcdcmpcagdaaField8
namespace Go.Proofs.Ytppbcdcmpcagdaa
open Go.RowKit Go.CP

theorem append_len_inj {a b c d : List UInt8} (h : a ++ b = c ++ d) (hl : b.length = d.length) : a = c := by
  have := List.append_inj' h hl
  exact this.1
theorem frameL_inj {s t : UInt8} {l m : List UInt8} : frameL s l = frameL t m ↔ s = t ∧ l = m := by
  constructor
  · intro h
    have h1 : (s :: (little l.length 2 ++ l)) = (t :: (little m.length 2 ++ m)) := by
      unfold frameL sealL at h
      exact append_len_inj h (by rw [little_len, little_len])
    obtain ⟨h2, h3⟩ := List.cons.inj h1
    exact ⟨h2, (List.append_inj h3 (by rw [little_len, little_len])).2⟩
  · rintro ⟨rfl, rfl⟩; rfl

/-- Frame over whatever body. -/
def RetFrame (tag : UInt8) (l : List UInt8) (w : World) (e : Ending) (w' : World) : Prop :=
  (l.length ≤ 65535 ∧ RetOwn2 w 5 1 (l.length + 7) ((frameL tag l).map bv) (.int .i64 0) e w') ∨ (65535 < l.length ∧ e = .returned (.tuple #[.slice none 0 0, .int .i64 17]) ∧ w' = w)
theorem frame_any (tag : UInt8) (A : Option Addr) (l : List UInt8) (c : Nat) (w : World) (hb : Bytes w A l) : Calls Try.prog 51 #[bv tag, .slice A l.length c] w (RetFrame tag l w) := by
  by_cases h : l.length ≤ 65535
  · exact (frame_ok tag A l c w hb h).mono fun e w' h' => .inl ⟨h, h'⟩
  · exact (frame_err _ A l.length c w (by omega)).mono fun e w' h' => .inr ⟨by omega, h'⟩
theorem u8_spell (a : Int) (h : 0 ≤ a ∧ a < 256) : ∃ x : UInt8, Value.int .u8 a = bv x := ⟨UInt8.ofNat a.toNat, by
  have : ((UInt8.ofNat a.toNat).toNat : Int) = a := by simp; omega
  exact congrArg (Value.int .u8) this.symm⟩
theorem u8_eq_spell (x y : UInt8) : ((x.toNat : Int) == (y.toNat : Int)) = decide (x = y) := by
  by_cases h : x = y
  · subst h; simp
  · have : x.toNat ≠ y.toNat := fun e => h (UInt8.toNat_inj.1 e)
    rw [decide_eq_false h, beq_eq_false_iff_ne]; omega

set_option maxHeartbeats 1000000 in
set_option maxRecDepth 100000 in
theorem fieldApart_u8 (w : World) (x y : UInt8) (A : Option Addr) (l : List UInt8) (c : Nat) (B : Option Addr) (m : List UInt8) (d : Nat) (ha : Bytes w A l) (hb : Bytes w B m) (P Q R : Bool)
    (hP : ((x.toNat : Int) == (y.toNat : Int)) = P) (hQ : (l == m) = Q) (hR : (frameL x l == frameL y m) = R) (H : Hid (R = (P && Q))) :
    Calls Try.prog 9 #[bv x, bv y, .slice A l.length c, .slice B m.length d] w fun e w' => e = .returned (.bool true) ∧ Below w.heap.size w w' := by
  have h1 := frame_any x A l c w ha
  go_enter Try.func9, Try.ntmps9
  go_wp2_with fail
  refine h1.mono ?_
  clear h1
  rintro e w1 (⟨hl, A1, c1, rfl, ho1, hb1⟩ | ⟨hl, rfl, rfl⟩)
  · have h2 := frame_any y B m d w1 (hb.below hb1 (Nat.le_refl _))
    go_wp2_with fail
    refine h2.mono ?_
    clear h2
    rintro e w2 (⟨hm, A2, c2, rfl, ho2, hb2⟩ | ⟨hm, rfl, rfl⟩)
    · have hb02 := hb1.trans (hb2.mono hb1.size)
      go_wp2_with fail
      refine (awake_any _).mono ?_
      rintro e w3 ⟨rfl, hb3⟩
      have hb03 := hb02.trans (hb3.mono hb02.size)
      have v1 := cv_bytes c1 ((ho1.cells.below hb2 (Nat.le_refl _)).below hb3 (Nat.le_refl _))
      have v2 := cv_bytes c2 (ho2.cells.below hb3 (Nat.le_refl _))
      rw [frameL_len] at v1 v2
      have v3 := cv_bytes c (ha.below hb03 (Nat.le_refl _))
      have v4 := cv_bytes d (hb.below hb03 (Nat.le_refl _))
      have hcl : (l.length : Int) ≤ 65535 := by omega
      have hcm : (m.length : Int) ≤ 65535 := by omega
      clear ho1 ho2
      cases P <;> cases Q <;> (first | (obtain rfl : R = false := H.out) | (obtain rfl : R = true := H.out))
      all_goals
        go_wp2
        go_ret
        exact ⟨rfl, hb03⟩
    · go_wp2_with fail
      refine (awake_any _).mono ?_
      rintro e w3 ⟨rfl, hb3⟩
      have hb03 := hb1.trans (hb3.mono hb1.size)
      go_wp2_with fail
      refine (awake_any _).mono ?_
      rintro e w4 ⟨rfl, hb4⟩
      have hb04 := hb03.trans (hb4.mono hb03.size)
      go_wp2
      go_ret
      exact ⟨rfl, hb04⟩
  · have h2 := frame_any y B m d w1 hb
    go_wp2_with fail
    refine h2.mono ?_
    clear h2
    rintro e w2 h2
    obtain ⟨v, w', rfl, hb1⟩ : ∃ v k, e = .returned (.tuple #[v, .int .i64 k]) ∧ Below w1.heap.size w1 w2 := by
      rcases h2 with (⟨hm, A2, c2, rfl, ho2, hb2⟩ | ⟨hm, rfl, rfl⟩)
      · exact ⟨_, _, rfl, hb2⟩
      · exact ⟨_, _, rfl, Below.refl _ _⟩
    go_wp2_with fail
    refine (awake_any _).mono ?_
    rintro e w3 ⟨rfl, hb3⟩
    have hb03 := hb1.trans (hb3.mono hb1.size)
    go_wp2_with fail
    refine (awake_any _).mono ?_
    rintro e w4 ⟨rfl, hb4⟩
    have hb04 := hb03.trans (hb4.mono hb03.size)
    go_wp2
    go_ret
    exact ⟨rfl, hb04⟩

theorem fieldApart_walk (w : World) (a b : Int) (A : Option Addr) (l : List UInt8) (c : Nat) (B : Option Addr) (m : List UInt8) (d : Nat) (h1 : 0 ≤ a ∧ a < 256) (h2 : 0 ≤ b ∧ b < 256) (ha : Bytes w A l) (_ : l.length ≤ c) (_ : l.length ≤ 140737488351232)
    (hb : Bytes w B m) (_ : m.length ≤ d) (_ : m.length ≤ 140737488351232) :
    Calls Try.prog 9 #[.int .u8 a, .int .u8 b, .slice A l.length c, .slice B m.length d] w fun e w' => e = .returned (.bool true) ∧ Below w.heap.size w w' := by
  obtain ⟨x, hx⟩ := u8_spell a h1
  obtain ⟨y, hy⟩ := u8_spell b h2
  rw [hx, hy]
  refine fieldApart_u8 w x y A l c B m d ha hb _ _ _ rfl rfl rfl (hid ?_)
  rw [u8_eq_spell, Bool.eq_iff_iff]
  simp [frameL_inj]
end Go.Proofs.Ytppbcdcmpcagdaa
