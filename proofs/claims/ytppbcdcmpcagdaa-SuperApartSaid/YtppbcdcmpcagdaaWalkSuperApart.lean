/- The law SuperApart returns true at every input: its walk over the contract of super.Encode; unlike beginnings have unlike sectors. No condition. -/
import Derived.Test.YtppbcdcmpcagdaaSuper4
import Derived.Deep.QuietTactic
import Derived.BigQuiet
namespace Go.Proofs.Ytppbcdcmpcagdaa
open Go.RowKit Go.CP

set_option maxHeartbeats 1000000 in
set_option maxRecDepth 100000 in
theorem superApart_in (w : World) (a b c a' b' c' : Int) (P Q R S : Bool) (hP : (a == a') = P) (hQ : (b == b') = Q) (hR : (c == c') = R)
    (hS : (sealL (supL a.toNat b.toNat c.toNat) == sealL (supL a'.toNat b'.toNat c'.toNat)) = S) (H : Hid (supB a b c = true → supB a' b' c' = true → S = (P && Q && R))) :
    Calls Try.prog 13 #[.agg #[.int .i64 a, .int .i64 b, .int .i64 c], .agg #[.int .i64 a', .int .i64 b', .int .i64 c']] w fun e w' => e = .returned (.bool true) ∧ Below w.heap.size w w' := by
  have hb0 : Below w.heap.size w ((w.alloc (.cells #[.int .i64 a, .int .i64 b, .int .i64 c] 60)).alloc (.cells #[.int .i64 a', .int .i64 b', .int .i64 c'] 60)) := ((Below.refl _ _).alloc (Nat.le_refl _) _).alloc (by simp) _
  have h1 := sup_any a b c ((w.alloc (.cells #[.int .i64 a, .int .i64 b, .int .i64 c] 60)).alloc (.cells #[.int .i64 a', .int .i64 b', .int .i64 c'] 60))
  have kx : Box3 ((w.alloc (.cells #[.int .i64 a, .int .i64 b, .int .i64 c] 60)).alloc (.cells #[.int .i64 a', .int .i64 b', .int .i64 c'] 60)) w.heap.size (.int .i64 a) (.int .i64 b) (.int .i64 c) := (Box3.new _ _ _ _).alloc _
  have ky : Box3 ((w.alloc (.cells #[.int .i64 a, .int .i64 b, .int .i64 c] 60)).alloc (.cells #[.int .i64 a', .int .i64 b', .int .i64 c'] 60)) (w.heap.size + 1) (.int .i64 a') (.int .i64 b') (.int .i64 c') := by
    have := Box3.new (w.alloc (.cells #[.int .i64 a, .int .i64 b, .int .i64 c] 60)) (.int .i64 a') (.int .i64 b') (.int .i64 c')
    rwa [World.size_alloc] at this
  have KX := hid kx
  have KY := hid ky
  clear kx ky
  go_enter Try.func13, Try.ntmps13
  go_wp2_with fail
  refine h1.mono ?_
  clear h1
  rintro e w1 h1
  obtain ⟨A1, n1, c1, e1, l1, rfl, hb1, hc1, hl1, HE1⟩ : ∃ (A1 : Option Addr) (n1 c1 : Nat) (e1 : Int) (l1 : List UInt8), e = .returned (.tuple #[.slice A1 n1 c1, .int .i64 e1]) ∧ Below (World.heap ((w.alloc (.cells #[.int .i64 a, .int .i64 b, .int .i64 c] 60)).alloc (.cells #[.int .i64 a', .int .i64 b', .int .i64 c'] 60))).size ((w.alloc (.cells #[.int .i64 a, .int .i64 b, .int .i64 c] 60)).alloc (.cells #[.int .i64 a', .int .i64 b', .int .i64 c'] 60)) w1 ∧ Bytes w1 A1 l1 ∧ l1.length = n1 ∧
      Hid ((supB a b c = true ∧ e1 = 0 ∧ l1 = sealL (supL a.toNat b.toNat c.toNat)) ∨ (supB a b c = false ∧ e1 = 2)) := by
    rcases h1 with ⟨hB, A1, c1, rfl, ho1, hb1⟩ | ⟨hB, rfl, hb1⟩
    · exact ⟨A1, 128, c1, 0, _, rfl, hb1, ho1.cells, by rw [sealL_len, supL_len], hid (.inl ⟨hB, rfl, rfl⟩)⟩
    · exact ⟨none, 0, 0, 2, [], rfl, hb1, Cells.nil _ _, rfl, hid (.inr ⟨hB, rfl⟩)⟩
  have kx1 := KX.out.below hb1 (by simp; omega)
  have ky1 := KY.out.below hb1 (by simp)
  have hb01 := below_t hb0 hb1 hb0.size
  clear KX KY hb0 hb1
  obtain ⟨yc0, yc1, yc2, yfr, ylt⟩ := ky1.facts
  have h2 := sup_any a' b' c' w1
  go_wp2_with fail
  refine h2.mono ?_
  clear h2
  rintro e w2 h2
  obtain ⟨A2, n2, c2, e2, l2, rfl, hb2, hc2, hl2, HE2⟩ : ∃ (A2 : Option Addr) (n2 c2 : Nat) (e2 : Int) (l2 : List UInt8), e = .returned (.tuple #[.slice A2 n2 c2, .int .i64 e2]) ∧ Below w1.heap.size w1 w2 ∧ Bytes w2 A2 l2 ∧ l2.length = n2 ∧
      Hid ((supB a' b' c' = true ∧ e2 = 0 ∧ l2 = sealL (supL a'.toNat b'.toNat c'.toNat)) ∨ (supB a' b' c' = false ∧ e2 = 2)) := by
    rcases h2 with ⟨hB, A1, c1, rfl, ho1, hb1⟩ | ⟨hB, rfl, hb1⟩
    · exact ⟨A1, 128, c1, 0, _, rfl, hb1, ho1.cells, by rw [sealL_len, supL_len], hid (.inl ⟨hB, rfl, rfl⟩)⟩
    · exact ⟨none, 0, 0, 2, [], rfl, hb1, Cells.nil _ _, rfl, hid (.inr ⟨hB, rfl⟩)⟩
  have kx2 := kx1.below hb2 kx1.facts.2.2.2.2
  have ky2 := ky1.below hb2 ylt
  have hb02 := below_t hb01 hb2 hb01.size
  have hc12 := hc1.below hb2 (Nat.le_refl _)
  clear yc0 yc1 yc2 yfr ylt kx1 ky1 hc1 hb01 hb2
  go_wp2_with fail
  refine (awake07_any _).mono ?_
  rintro e w3 ⟨rfl, hb3⟩
  have kx3 := kx2.below hb3 kx2.facts.2.2.2.2
  have ky3 := ky2.below hb3 ky2.facts.2.2.2.2
  have hb03 := below_t hb02 hb3 hb02.size
  have v1 := fun nq => cv_bytes c1 ((hc12.below hb3 (Nat.le_refl _)).below (below_drewN (Below.refl w3.heap.size w3) nq) (Nat.le_refl _))
  have v2 := fun nq => cv_bytes c2 ((hc2.below hb3 (Nat.le_refl _)).below (below_drewN (Below.refl w3.heap.size w3) nq) (Nat.le_refl _))
  rw [hl1] at v1
  rw [hl2] at v2
  clear hl1 hl2 kx2 ky2 hc12 hc2 hb02 hb3
  obtain ⟨xc0, xc1, xc2, xfr, xlt⟩ := kx3.facts
  obtain ⟨yc0, yc1, yc2, yfr, ylt⟩ := ky3.facts
  by_cases hE : e1 = 0 ∧ e2 = 0
  · obtain ⟨rfl, rfl⟩ := hE
    obtain ⟨hB1, -, rfl⟩ := HE1.out.resolve_right (by rintro ⟨_, h⟩; cases h)
    obtain ⟨hB2, -, rfl⟩ := HE2.out.resolve_right (by rintro ⟨_, h⟩; cases h)
    have HS := H.out hB1 hB2
    clear H HE1 HE2 hB1 hB2 kx3 ky3
    cases P <;> cases Q <;> cases R <;> (first | (obtain rfl : S = false := HS) | (obtain rfl : S = true := HS))
    all_goals
      go_wp2_with fail
      go_quiet (fail)
      go_wp2
      go_ret
      exact ⟨rfl, below_drewN hb03 _⟩
  · have hE2 : (e1 = 2 ∧ (e2 = 0 ∨ e2 = 2)) ∨ (e1 = 0 ∧ e2 = 2) := by
      rcases HE1.out with ⟨_, h, _⟩ | ⟨_, h⟩ <;> rcases HE2.out with ⟨_, k, _⟩ | ⟨_, k⟩ <;> omega
    clear HE1 HE2 hE H kx3 ky3
    rcases hE2 with ⟨rfl, rfl | rfl⟩ | ⟨rfl, rfl⟩
    all_goals
      go_wp2_with fail
      refine (awake07_any _).mono ?_
      rintro e w4 ⟨rfl, hb4⟩
      go_wp2
      go_ret
      exact ⟨rfl, below_t hb03 hb4 hb03.size⟩

theorem superApart_walk (w : World) (a b c a' b' c' : Int) :
    Calls Try.prog 13 #[.agg #[.int .i64 a, .int .i64 b, .int .i64 c], .agg #[.int .i64 a', .int .i64 b', .int .i64 c']] w fun e w' => e = .returned (.bool true) ∧ Below w.heap.size w w' := by
  refine superApart_in w a b c a' b' c' _ _ _ _ rfl rfl rfl rfl (hid fun h h' => ?_)
  have h1 := supB_iff.1 h
  have h2 := supB_iff.1 h'
  rw [Bool.eq_iff_iff]
  simp only [Bool.and_eq_true, beq_iff_eq]
  constructor
  · intro e
    have := supL_inj (by rw [Int.toNat_of_nonneg (by omega), Int.toNat_of_nonneg (by omega), Int.toNat_of_nonneg (by omega)]; exact h) (by rw [Int.toNat_of_nonneg (by omega), Int.toNat_of_nonneg (by omega), Int.toNat_of_nonneg (by omega)]; exact h') e
    omega
  · rintro ⟨⟨rfl, rfl⟩, rfl⟩; rfl
end Go.Proofs.Ytppbcdcmpcagdaa
