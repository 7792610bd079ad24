/- copyholdlaw07's awake returns true; plain laws of beginnings as sectors. -/
import Derived.Test.YtppbcdcmpcagdaaSuper3
namespace Go.Proofs.Ytppbcdcmpcagdaa
open Go.RowKit Go.CP

theorem p_head {a r : List UInt8} {k : Nat} (h : a.length = k) : (a ++ r).take k = a ∧ (a ++ r).drop k = r := by
  constructor
  · rw [List.take_append_of_le_length (by omega), List.take_of_length_le (by omega)]
  · rw [List.drop_append_of_le_length (by omega), List.drop_of_length_le (by omega), List.nil_append]
/-- What is read of a sector that was written. -/
theorem sN_of (a b c : Nat) (ha : a < 4294967296) (hb : b < 4294967296) (hc : c < 4294967296) : sN1 (sealL (supL a b c)) = a ∧ sN2 (sealL (supL a b c)) = b ∧ sN3 (sealL (supL a b c)) = c := by
  have e : sealL (supL a b c) = magicS ++ (little a 4 ++ (little b 4 ++ (little c 4 ++ (List.replicate 108 0 ++ little (sumL (supL a b c)).toNat 4)))) := by
    rw [sealL]; simp only [supL, List.append_assoc]
  have d1 := (p_head (a := magicS) (r := little a 4 ++ (little b 4 ++ (little c 4 ++ (List.replicate 108 0 ++ little (sumL (supL a b c)).toNat 4)))) (k := 4) rfl).2
  obtain ⟨u2, d2⟩ := p_head (a := little a 4) (r := little b 4 ++ (little c 4 ++ (List.replicate 108 0 ++ little (sumL (supL a b c)).toNat 4))) (k := 4) (little_len _ _)
  obtain ⟨u3, d3⟩ := p_head (a := little b 4) (r := little c 4 ++ (List.replicate 108 0 ++ little (sumL (supL a b c)).toNat 4)) (k := 4) (little_len _ _)
  obtain ⟨u4, -⟩ := p_head (a := little c 4) (r := List.replicate 108 0 ++ little (sumL (supL a b c)).toNat 4) (k := 4) (little_len _ _)
  refine ⟨?_, ?_, ?_⟩
  · rw [sN1, e, d1, u2, big_little 4 a ha]
  · rw [sN2, e, d1, d2, u3, big_little 4 b hb]
  · rw [sN3, e, d1, d2, d3, u4, big_little 4 c hc]
theorem supB_iff {a b c : Int} : supB a b c = true ↔ 64 ≤ a ∧ a ≤ 1024 ∧ 0 ≤ b ∧ b ≤ 1073741824 ∧ 0 ≤ c ∧ c ≤ 1073741824 := by simp [supB]
theorem supD_of {a b c : Nat} (h : supB a b c = true) : supD (sealL (supL a b c)) = true := by
  have hb := supB_iff.1 h
  obtain ⟨h1, h2, h3⟩ := sN_of a b c (by omega) (by omega) (by omega)
  rw [supD, h1, h2, h3, h]
  simp
theorem supD_eq {b : List UInt8} (h : supD b = true) : supB (sN1 b) (sN2 b) (sN3 b) = true ∧ sealL (supL (sN1 b) (sN2 b) (sN3 b)) = b := by
  simpa [supD] using h
/-- Unlike beginnings have unlike sectors. -/
theorem supL_inj {a b c a' b' c' : Nat} (h : supB a b c = true) (h' : supB a' b' c' = true) (e : sealL (supL a b c) = sealL (supL a' b' c')) : a = a' ∧ b = b' ∧ c = c' := by
  have hb := supB_iff.1 h
  have hb' := supB_iff.1 h'
  obtain ⟨h1, h2, h3⟩ := sN_of a b c (by omega) (by omega) (by omega)
  obtain ⟨h4, h5, h6⟩ := sN_of a' b' c' (by omega) (by omega) (by omega)
  rw [e] at h1 h2 h3
  exact ⟨h1.symm.trans h4, h2.symm.trans h5, h3.symm.trans h6⟩

theorem kS1 : supB ((64 : Nat) : Int) ((2 : Nat) : Int) ((0 : Nat) : Int) = true := by decide
theorem kS2 : (sealL (supL 64 2 0)).take 4 = magicS := by decide +kernel

set_option maxHeartbeats 1000000 in
set_option maxRecDepth 100000 in
theorem awake07_any (w : World) : Calls Try.prog 62 #[] w fun e w' => e = .returned (.bool true) ∧ Below w.heap.size w w' := by
  have h1 := fun W => sup_ok 64 2 0 W kS1
  rw [show ((64 : Nat) : Int) = 64 from rfl, show ((2 : Nat) : Int) = 2 from rfl, show ((0 : Nat) : Int) = 0 from rfl] at h1
  have hs := fun W => sup_sound 64 2 0 W
  rw [show supB 64 2 0 = true from by decide] at hs
  have H1 := hid h1
  have HS := hid hs
  have HL : Hid ((sealL (supL 64 2 0)).length = 128) := hid (by rw [sealL_len, supL_len])
  clear h1 hs
  go_enter Try.func62, Try.ntmps62
  go_wp2_with fail
  refine (H1.out _).mono ?_
  rintro e w1 ⟨A1, c1, rfl, ho1, hb1⟩
  have h2 := dec_any A1 (sealL (supL 64 2 0)) c1 w1 ho1.cells (by rw [HL.out]; exact ho1.le.1) (by rw [HL.out]; omega)
  rw [HL.out] at h2
  obtain ⟨g1, cur1, rfl, -⟩ := ho1.open (by omega)
  go_wp2_with fail
  refine h2.mono ?_
  clear h2
  rintro e w2 ⟨hb2, (⟨-, rfl⟩ | ⟨h, -⟩)⟩
  case inr => rw [supD_of kS1] at h; cases h
  obtain ⟨n1, n2, n3⟩ := sN_of 64 2 0 (by omega) (by omega) (by omega)
  rw [n1, n2, n3]
  have hb02 := below_t hb1 hb2 hb1.size
  have hcv := fun W (hW : Below w2.heap.size w2 W) => by
    have h4 := (((ho1.cells.below hb2 (Nat.le_refl _)).below hW (Nat.le_refl _))).take 4
    rw [← List.map_take, kS2] at h4
    exact cv_bytes (l := magicS) c1 h4
  rw [show magicS.length = 4 from rfl] at hcv
  have hc3 := hcv _ ((Below.refl w2.heap.size w2).alloc (Nat.le_refl _) (.cells #[.int .i64 64, .int .i64 2, .int .i64 0] 60))
  have h4 : (4 : Int) ≤ c1 := by have := ho1.le.1; omega
  have HHS := hid (HS.out)
  clear n1 n2 n3 hcv
  go_wp2_with fail
  refine (HHS.out _).mono ?_
  rintro e w3 ⟨rfl, hb3⟩
  go_wp2
  go_ret
  have hb2a := hb02.alloc hb02.size (.cells #[.int .i64 64, .int .i64 2, .int .i64 0] 60)
  exact ⟨rfl, below_t hb2a hb3 hb2a.size⟩

theorem spoilt_sup {a b c : Nat} {y : List UInt8} {k : Nat} (hl : y.length = 128) (hb : bigL y = bigL (sealL (supL a b c)) ^^^ 2 ^ k) (hk : k < 1024) : supD y = false := by
  cases h : supD y with
  | false => rfl
  | true =>
    exfalso
    have h2 := (supD_eq h).2
    have hs : (sealL (supL a b c)).length = 128 := by rw [sealL_len, supL_len]
    have hne : y ≠ sealL (y.take (y.length - 4)) := by
      by_cases hk2 : k + 32 ≤ 1024
      · exact seal_turned (p := supL a b c) (u := 1) (k := k) (by omega) (by rw [hb, Nat.one_mul]) (by omega) (by omega) (by omega)
      · obtain ⟨m, hm⟩ : ∃ m : Nat, m = 992 := ⟨_, rfl⟩
        have hp : 2 ^ (k - m) < 2 ^ 32 := Nat.pow_lt_pow_right (by omega) (by omega)
        rw [show (2 : Nat) ^ 32 = 4294967296 from rfl] at hp
        refine seal_turned (p := supL a b c) (u := 2 ^ (k - m)) (k := m) (by omega) ?_ (Nat.two_pow_pos _) hp (by omega)
        rw [hb, ← Nat.pow_add, show k - m + m = k from by omega]
    refine hne ?_
    have h3 : y.take (y.length - 4) = supL (sN1 y) (sN2 y) (sN3 y) := by
      rw [hl]
      conv => lhs; rw [← h2]
      rw [sealL, List.take_append_of_le_length (by rw [supL_len]; omega), List.take_of_length_le (by rw [supL_len]; omega)]
    rw [h3, h2]
end Go.Proofs.Ytppbcdcmpcagdaa
