/- Plain laws of seats as sectors; copyholdlaw08's awake returns true; contract of the reference's Same. -/
import Derived.Test.YtppbcdcmpcagdaaSeat3
namespace Go.Proofs.Ytppbcdcmpcagdaa
open Go.RowKit Go.CP

/-- What is read of a sector that was written. -/
theorem tN_of (a b : Nat) (r : List UInt8) (ha : a < 4294967296) (hb : b < 4294967296) (hr : r.length ≤ 96) :
    tN1 (sealL (seatL a b r)) = a ∧ tN2 (sealL (seatL a b r)) = b ∧ tK (sealL (seatL a b r)) = r.length ∧ tR (sealL (seatL a b r)) = r := by
  obtain ⟨X, hX⟩ : ∃ X, List.replicate (111 - r.length) 0 ++ little (sumL (seatL a b r)).toNat 4 = X := ⟨_, rfl⟩
  have e : sealL (seatL a b r) = magicT ++ (little a 4 ++ (little b 4 ++ ([UInt8.ofNat r.length] ++ (r ++ X)))) := by
    rw [sealL, ← hX]; simp only [seatL, List.append_assoc]
  obtain ⟨-, d1⟩ := p_head (a := magicT) (r := little a 4 ++ (little b 4 ++ ([UInt8.ofNat r.length] ++ (r ++ X)))) (k := 4) rfl
  obtain ⟨u2, d2⟩ := p_head (a := little a 4 ++ little b 4) (r := [UInt8.ofNat r.length] ++ (r ++ X)) (k := 8) (by simp [little_len])
  rw [List.append_assoc] at u2
  obtain ⟨u3, d3⟩ := p_head (a := little a 4) (r := little b 4) (k := 4) (little_len _ _)
  obtain ⟨-, d4⟩ := p_head (a := magicT ++ (little a 4 ++ little b 4) ++ [UInt8.ofNat r.length]) (r := r ++ X) (k := 13) (by simp [little_len, magicT])
  have e2 : sealL (seatL a b r) = (magicT ++ (little a 4 ++ little b 4) ++ [UInt8.ofNat r.length]) ++ (r ++ X) := by rw [e]; simp only [List.append_assoc]
  have h8 : tL8 (sealL (seatL a b r)) = little a 4 ++ little b 4 := by rw [tL8, e, d1, u2]
  have hk : tK (sealL (seatL a b r)) = r.length := by
    have e3 : (sealL (seatL a b r))[12]? = some (UInt8.ofNat r.length) := by
      rw [e2, List.getElem?_append_left (by simp [little_len, magicT]), List.getElem?_append_right (by simp [little_len, magicT])]
      simp [little_len, magicT]
    rw [tK, List.getD_eq_getElem?_getD, e3]
    simp only [Option.getD_some, UInt8.toNat_ofNat']
    omega
  refine ⟨?_, ?_, hk, ?_⟩
  · rw [tN1, h8, u3, big_little 4 a ha]
  · rw [tN2, h8, d3, List.take_of_length_le (by rw [little_len]; omega), big_little 4 b hb]
  · rw [tR, hk, e2, d4, (p_head (a := r) (r := X) (k := r.length) rfl).1]
theorem seatD_of {a b : Nat} {r : List UInt8} (h : seatB a b r.length = true) : seatD (sealL (seatL a b r)) = true := by
  have hb := seatB_iff.1 h
  obtain ⟨h1, h2, h3, h4⟩ := tN_of a b r (by omega) (by omega) hb.2.2.2.2
  rw [seatD, h1, h2, h3, h4, h, sealL_len, seatL_len _ _ _ hb.2.2.2.2]
  simp; omega
theorem seatD_eq {b : List UInt8} (h : seatD b = true) : b.length = 128 ∧ seatB (tN1 b) (tN2 b) (tR b).length = true ∧ sealL (seatL (tN1 b) (tN2 b) (tR b)) = b := by
  simp only [seatD, Bool.and_eq_true, decide_eq_true_eq] at h
  exact ⟨h.1.1.1, h.1.2, h.2⟩
theorem seatL_inj {a b a' b' : Nat} {r r' : List UInt8} (h : seatB a b r.length = true) (h' : seatB a' b' r'.length = true) (e : sealL (seatL a b r) = sealL (seatL a' b' r')) : a = a' ∧ b = b' ∧ r = r' := by
  have hb := seatB_iff.1 h
  have hb' := seatB_iff.1 h'
  obtain ⟨h1, h2, -, h3⟩ := tN_of a b r (by omega) (by omega) hb.2.2.2.2
  obtain ⟨h4, h5, -, h6⟩ := tN_of a' b' r' (by omega) (by omega) hb'.2.2.2.2
  rw [e] at h1 h2 h3
  exact ⟨h1.symm.trans h4, h2.symm.trans h5, h3.symm.trans h6⟩

theorem kT1 : seatB ((3 : Nat) : Int) ((4 : Nat) : Int) [(120 : UInt8)].length = true := by decide

set_option maxHeartbeats 1000000 in
set_option maxRecDepth 100000 in
theorem awake08_any (w : World) : Calls Try.prog 69 #[] w fun e w' => e = .returned (.bool true) ∧ Below w.heap.size w w' := by
  have kc := fun (w : World) (C : Array Value) (n c : Nat) => Lib.run_convert_bytes_const (P := Try.prog) w 22 5 C n c Try.underlying22 Try.underlying5
  have HL : Hid ((sealL (seatL 3 4 [120])).length = 128) := hid (by rw [sealL_len, seatL_len _ _ _ (by decide)])
  go_enter Try.func69, Try.ntmps69
  go_wp2_with fail
  have hb0 : Bytes (w.alloc (.cells #[.int .u8 120] 5 (1, 2))) (some ⟨w.heap.size, 0, none⟩) [120] := cells_new w 5 (1, 2) [120]
  have h1 := seat_ok 3 4 _ [120] 1 _ hb0 kT1
  rw [show ((3 : Nat) : Int) = 3 from rfl, show ((4 : Nat) : Int) = 4 from rfl, show [(120 : UInt8)].length = 1 from rfl] at h1
  refine h1.mono ?_
  clear h1
  rintro e w1 ⟨A1, c1, rfl, ho1, hb1⟩
  have hb01 : Below w.heap.size w w1 := ((Below.refl _ w).alloc (Nat.le_refl _) _).trans (hb1.mono (by simp))
  have h2 := decT_any A1 (sealL (seatL 3 4 [120])) c1 w1 ho1.cells (by rw [HL.out]; exact ho1.le.1) (by rw [HL.out]; omega)
  rw [HL.out] at h2
  clear hb0
  go_wp2_with fail
  refine h2.mono ?_
  clear h2
  rintro e w2 ⟨hb2, (⟨-, A2, c2, rfl, hbr⟩ | ⟨h, -⟩)⟩
  case inr => rw [seatD_of kT1] at h; cases h
  obtain ⟨n1, n2, -, n4⟩ := tN_of 3 4 [120] (by omega) (by omega) (by decide)
  rw [n4] at hbr
  rw [n1, n2, n4]
  have hb02 := below_t hb01 hb2 hb01.size
  have k2 := BoxT.new w2 (.int .i64 3) (.int .i64 4) (.slice A2 1 c2)
  have hcv := cv_bytes c2 (hbr.alloc (.cells #[.int .i64 3, .int .i64 4, .slice A2 1 c2] 70))
  rw [show [(120 : UInt8)].length = 1 from rfl] at hcv
  have hs := fun W => seat_sound 3 4 A2 1 c2 W
  rw [show seatB 3 4 1 = true from by decide] at hs
  have hf1 := fun W => fate_any 3 4 A2 1 c2 false 3 5 W
  rw [show fateL 3 4 false 3 5 = 1 from by decide] at hf1
  have hf2 := fun W => fate_any 3 4 A2 1 c2 true 4 0 W
  rw [show fateL 3 4 true 4 0 = 3 from by decide] at hf2
  have HS := hid hs
  have HF1 := hid hf1
  have HF2 := hid hf2
  have K2 := hid k2
  have hb03 := hb02.alloc hb02.size (.cells #[.int .i64 3, .int .i64 4, .slice A2 1 c2] 70)
  clear hs hf1 hf2 k2 n1 n2 n4 ho1 hbr
  go_wp2_with fail
  refine (HS.out _).mono ?_
  rintro e w3 ⟨rfl, hb3⟩
  have k3 := K2.out.below hb3 (by simp)
  have hb04 := below_t hb03 hb3 hb03.size
  obtain ⟨xc0, xc1, xc2, xfr, xlt⟩ := k3.facts
  have K3 := hid k3
  clear k3 hcv K2
  go_wp2_with fail
  refine (HF1.out _).mono ?_
  clear xc0 xc1 xc2 xfr
  rintro e w4 ⟨rfl, hb4⟩
  have k4 := K3.out.below hb4 xlt
  have hb05 := below_t hb04 hb4 hb04.size
  obtain ⟨xc0, xc1, xc2, xfr, xlt⟩ := k4.facts
  clear k4
  go_wp2_with fail
  refine (HF2.out _).mono ?_
  clear xc0 xc1 xc2 xfr
  rintro e w5 ⟨rfl, hb5⟩
  go_wp2
  go_ret
  exact ⟨rfl, below_t hb05 hb5 hb05.size⟩
end Go.Proofs.Ytppbcdcmpcagdaa
