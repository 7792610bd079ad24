/- The law SeatEncodes returns true at every input: its walk over the contracts of seat.Encode, Decode, Sound and of the reference's. No condition. -/
import Derived.Test.YtppbcdcmpcagdaaSeat5
import Derived.Deep.QuietTactic
import Derived.BigQuiet
import Derived.Deep.DrawnRows
namespace Go.Proofs.Ytppbcdcmpcagdaa
open Go.RowKit Go.CP
attribute [local go_sem ↓] Go.wp_at_zero Go.wp_at_succ

set_option maxHeartbeats 2000000 in
set_option maxRecDepth 100000 in
theorem seatEncodes_walk (w : World) (a b : Int) (A : Option Addr) (r : List UInt8) (c : Nat) (B : Option Addr) (m : List UInt8) (d : Nat) (hr : Bytes w A r) (_ : r.length ≤ c) (_ : r.length ≤ 140737488351232) (hm : Bytes w B m) (hd : m.length ≤ d) (hml : m.length ≤ 140737488351232) :
    Calls Try.prog 14 #[.agg #[.int .i64 a, .int .i64 b, .slice A r.length c], .slice B m.length d] w fun e w' => e = .returned (.bool true) ∧ Below w.heap.size w w' := by
  have hb0 : Below w.heap.size w (w.alloc (.cells #[.int .i64 a, .int .i64 b, .slice A r.length c] 70)) := (Below.refl _ _).alloc (Nat.le_refl _) _
  have h1 := seat_any a b A r c (w.alloc (.cells #[.int .i64 a, .int .i64 b, .slice A r.length c] 70)) (hr.alloc _)
  have KX := hid (BoxT.new w (.int .i64 a) (.int .i64 b) (.slice A r.length c))
  have HSD := hid (seat_sound a b A r.length c)
  have HRS := hid (rseat_sound a b A r.length c)
  go_enter Try.func14, Try.ntmps14
  go_wp2_with fail
  refine h1.mono ?_
  clear h1
  rintro e w1 h1
  obtain ⟨A1, n1, c1, e1, l1, rfl, hb1, hc1, hl1, hn1, HE1⟩ : ∃ (A1 : Option Addr) (n1 c1 : Nat) (e1 : Int) (l1 : List UInt8), e = .returned (.tuple #[.slice A1 n1 c1, .int .i64 e1]) ∧ Below (w.alloc (.cells #[.int .i64 a, .int .i64 b, .slice A r.length c] 70)).heap.size (w.alloc (.cells #[.int .i64 a, .int .i64 b, .slice A r.length c] 70)) w1 ∧ Bytes w1 A1 l1 ∧ l1.length = n1 ∧ n1 ≤ c1 ∧
      Hid ((seatB a b r.length = true ∧ e1 = 0 ∧ l1 = sealL (seatL a.toNat b.toNat r)) ∨ (seatB a b r.length = false ∧ e1 = 2 ∧ l1 = [])) := by
    rcases h1 with ⟨hB, A1, c1, rfl, ho1, hb1⟩ | ⟨hB, rfl, hb1⟩
    · exact ⟨A1, 128, c1, 0, _, rfl, hb1, ho1.cells, by rw [sealL_len, seatL_len _ _ _ (seatB_iff.1 hB).2.2.2.2], ho1.le.1, hid (.inl ⟨hB, rfl, rfl⟩)⟩
    · exact ⟨none, 0, 0, 2, [], rfl, hb1, Cells.nil _ _, rfl, Nat.le_refl _, hid (.inr ⟨hB, rfl, rfl⟩)⟩
  have kx1 := KX.out.below hb1 (by simp)
  have hb01 := below_t hb0 hb1 hb0.size
  clear hb0 hb1
  obtain ⟨xc0, xc1, xc2, xfr, xlt⟩ := kx1.facts
  have hre := rseat_any a b A r c w1 (hr.below hb01 (Nat.le_refl _))
  go_wp2_with fail
  refine hre.mono ?_
  clear hre
  rintro e w2 ⟨hb2, h2⟩
  obtain ⟨rfl⟩ : e = .returned (.tuple #[.string (bstr l1), .int .i64 e1]) := by
    rcases HE1.out with ⟨hB, rfl, rfl⟩ | ⟨hB, rfl, rfl⟩ <;> rcases h2 with ⟨hB2, rfl⟩ | ⟨hB2, rfl⟩
    · rfl
    · rw [hB] at hB2; cases hB2
    · rw [hB] at hB2; cases hB2
    · rfl
  have kx2 := kx1.below hb2 xlt
  have hb02 := below_t hb01 hb2 hb01.size
  have hc12 := hc1.below hb2 (Nat.le_refl _)
  clear xc0 xc1 xc2 xfr xlt kx1 hc1 hb01 hb2 h2
  obtain ⟨xc0, xc1, xc2, xfr, xlt⟩ := kx2.facts
  have hcv := fun W (hW : W.cell? ⟨w.heap.size, 0, none⟩ = some (.int .i64 a) ∧ W.cell? ⟨w.heap.size, 1, none⟩ = some (.int .i64 b) ∧ W.cell? ⟨w.heap.size, 2, none⟩ = some (.slice A r.length c) ∧ Below w2.heap.size w2 W) => cv_bytes c1 (hc12.below hW.2.2.2 (Nat.le_refl _))
  rw [hl1] at hcv
  have HL1 := hid hl1
  have HCV := hid hcv
  have HN1 := hid hn1
  clear hl1 hcv hn1 kx2
  rcases HE1.out with ⟨hB, rfl, rfl⟩ | ⟨hB, rfl, rfl⟩
  · have HB := hid hB
    clear hB HE1
    have hcv := HCV.out
    go_wp2_with fail
    go_region_held3 (fun W => W.cell? ⟨w.heap.size, 0, none⟩ = some (.int .i64 a) ∧ W.cell? ⟨w.heap.size, 1, none⟩ = some (.int .i64 b) ∧ W.cell? ⟨w.heap.size, 2, none⟩ = some (.slice A r.length c) ∧ Below w2.heap.size w2 W)
      (first | exact ⟨xc0, xc1, xc2, Below.refl _ _⟩ | exact box3_drew ⟨xc0, xc1, xc2, Below.refl _ _⟩ | assumption | exact box3_drew (by assumption))
      (first
        | (go_at_call 65; refine (HSD.out _).mono ?_; rintro e w3 ⟨rfl, hb3⟩; have hk3 := box3_keep (by assumption) hb3)
        | (go_at_call 66; refine (HRS.out _).mono ?_; rintro e w4 ⟨rfl, hb4⟩; have hk4 := box3_keep (by assumption) hb4))
    have hb04 := below_t hb02 hk4.2.2.2 hb02.size
    have hB2 := seatB_iff.1 HB.out
    have ea : ((a.toNat : Nat) : Int) = a := by omega
    have eb : ((b.toNat : Nat) : Int) = b := by omega
    have hdc := decT_any A1 (sealL (seatL a.toNat b.toNat r)) c1 w4 (hc12.below hk4.2.2.2 (Nat.le_refl _)) (by rw [HL1.out]; exact HN1.out) (by rw [sealL_len, seatL_len _ _ _ (by omega)]; omega)
    rw [HL1.out] at hdc
    have hsd : seatD (sealL (seatL a.toNat b.toNat r)) = true := seatD_of (by rw [ea, eb]; exact HB.out)
    obtain ⟨m1, m2, -, m4⟩ := tN_of a.toNat b.toNat r (by omega) (by omega) (by omega)
    have HDC : Hid (Calls Try.prog 67 #[.slice A1 n1 c1] w4 fun e w' => Below w4.heap.size w4 w' ∧ ∃ A5 c5, e = .returned (.tuple #[.agg #[.int .i64 a, .int .i64 b, .slice A5 r.length c5], .int .i64 0]) ∧ Bytes w' A5 r) := by
      refine hid (hdc.mono ?_)
      rintro e w' ⟨hb, (⟨-, A5, c5, rfl, hr5⟩ | ⟨h, -⟩)⟩
      · rw [m1, m2, m4, ea, eb]; rw [m4] at hr5; exact ⟨hb, A5, c5, rfl, hr5⟩
      · rw [hsd] at h; cases h
    have HK4 := hid hk4
    clear hdc hsd m1 m2 m4 ea eb hB2 xc0 xc1 xc2 xfr xlt hk4 hk3 hcv
    go_wp2_with fail
    refine HDC.out.mono ?_
    rintro e w5 ⟨hb5, A5, c5, rfl, hr5⟩
    have hb05 := below_t hb04 hb5 hb04.size
    have hk5 := box3_keep HK4.out hb5
    have hk6 := box3_keep hk5 ((Below.refl w5.heap.size w5).alloc (Nat.le_refl _) (.cells #[.int .i64 a, .int .i64 b, .slice A5 r.length c5] 70))
    have hbt0 := hb05.alloc hb05.size (.cells #[.int .i64 a, .int .i64 b, .slice A5 r.length c5] 70)
    obtain ⟨xc0, xc1, xc2, -⟩ := hk6
    obtain ⟨zc0, zc1, zc2, zfr, zlt⟩ := (BoxT.new w5 (.int .i64 a) (.int .i64 b) (.slice A5 r.length c5)).facts
    have hsm := same_any a b A5 r c5 a b A r c _ (hr5.alloc (.cells #[.int .i64 a, .int .i64 b, .slice A5 r.length c5] 70)) (hr.below hbt0 (Nat.le_refl _))
    rw [show sameB a b r a b r = true from by simp [sameB]] at hsm
    have HSM := hid hsm
    clear hk5 hsm hr5
    go_wp2_with fail
    refine HSM.out.mono ?_
    clear zc0 zc1 zc2 zfr zlt xc0 xc1 xc2
    rintro e w55 ⟨rfl, hb55⟩
    have hbt := below_t hbt0 hb55 hbt0.size
    have hdm := decT_any B m d _ (hm.below hbt (Nat.le_refl _)) hd hml
    go_wp2_with fail
    refine hdm.mono ?_
    clear hdm
    rintro e w6 ⟨hb6, h6⟩
    have hb06 := below_t hbt hb6 hbt.size
    rcases h6 with ⟨hD, A6, c6, rfl, hr6⟩ | ⟨hD, rfl⟩
    · have k6 := BoxT.new w6 (.int .i64 (tN1 m : Nat)) (.int .i64 (tN2 m : Nat)) (.slice A6 (tR m).length c6)
      obtain ⟨yc0, yc1, yc2, yfr, ylt⟩ := k6.facts
      have hdq := seatD_eq hD
      have hr := rseat_ok (tN1 m) (tN2 m) A6 (tR m) c6 _ (hr6.alloc (.cells #[.int .i64 (tN1 m : Nat), .int .i64 (tN2 m : Nat), .slice A6 (tR m).length c6] 70)) hdq.2.1
      rw [hdq.2.2] at hr
      have hb07 := hb06.alloc hb06.size (.cells #[.int .i64 (tN1 m : Nat), .int .i64 (tN2 m : Nat), .slice A6 (tR m).length c6] 70)
      have HR := hid hr
      clear k6 hr hdq
      go_wp2_with fail
      refine HR.out.mono ?_
      rintro e w7 ⟨rfl, hb7⟩
      have hb08 := below_t hb07 hb7 hb07.size
      go_wp2_with fail
      refine (awake08_any _).mono ?_
      rintro e w8 ⟨rfl, hb8⟩
      have hb09 := below_t hb08 hb8 hb08.size
      have hcm := cv_bytes d (hm.below hb09 (Nat.le_refl _))
      go_wp2
      go_ret
      exact ⟨rfl, hb09⟩
    · have k6 := BoxT.new w6 (.int .i64 0) (.int .i64 0) (.slice none 0 0)
      have hb07 := hb06.alloc hb06.size (.cells #[.int .i64 0, .int .i64 0, .slice none 0 0] 70)
      have K6 := hid k6
      clear k6
      go_wp2_with fail
      refine (awake08_any _).mono ?_
      rintro e w8 ⟨rfl, hb8⟩
      have hb09 := below_t hb07 hb8 hb07.size
      have k8 := K6.out.below hb8 (by simp)
      obtain ⟨yc0, yc1, yc2, yfr, ylt⟩ := k8.facts
      have hsm := same_any 0 0 none [] 0 0 0 none [] 0 w8 (Cells.nil _ _) (Cells.nil _ _)
      rw [show sameB 0 0 [] 0 0 [] = true from rfl, show ([] : List UInt8).length = 0 from rfl] at hsm
      have HSM := hid hsm
      clear k8 hsm
      go_wp2_with fail
      refine HSM.out.mono ?_
      rintro e w9 ⟨rfl, hb9⟩
      go_wp2
      go_ret
      exact ⟨rfl, below_t hb09 hb9 hb09.size⟩
  · have HB := hid hB
    clear hB HE1
    have hcv := HCV.out
    go_wp2_with fail
    go_region_held3 (fun W => W.cell? ⟨w.heap.size, 0, none⟩ = some (.int .i64 a) ∧ W.cell? ⟨w.heap.size, 1, none⟩ = some (.int .i64 b) ∧ W.cell? ⟨w.heap.size, 2, none⟩ = some (.slice A r.length c) ∧ Below w2.heap.size w2 W)
      (first | exact ⟨xc0, xc1, xc2, Below.refl _ _⟩ | exact box3_drew ⟨xc0, xc1, xc2, Below.refl _ _⟩ | assumption | exact box3_drew (by assumption))
      (first
        | (go_at_call 65; refine (HSD.out _).mono ?_; rintro e w3 ⟨rfl, hb3⟩; have hk3 := box3_keep (by assumption) hb3)
        | (go_at_call 66; refine (HRS.out _).mono ?_; rintro e w4 ⟨rfl, hb4⟩; have hk4 := box3_keep (by assumption) hb4))
    have hb04 := below_t hb02 hk4.2.2.2 hb02.size
    have hbt := hb04
    clear xc0 xc1 xc2 xfr xlt hk4 hk3 hcv
    have hdm := decT_any B m d _ (hm.below hbt (Nat.le_refl _)) hd hml
    go_wp2_with fail
    refine hdm.mono ?_
    clear hdm
    rintro e w6 ⟨hb6, h6⟩
    have hb06 := below_t hbt hb6 hbt.size
    rcases h6 with ⟨hD, A6, c6, rfl, hr6⟩ | ⟨hD, rfl⟩
    · have k6 := BoxT.new w6 (.int .i64 (tN1 m : Nat)) (.int .i64 (tN2 m : Nat)) (.slice A6 (tR m).length c6)
      obtain ⟨yc0, yc1, yc2, yfr, ylt⟩ := k6.facts
      have hdq := seatD_eq hD
      have hr := rseat_ok (tN1 m) (tN2 m) A6 (tR m) c6 _ (hr6.alloc (.cells #[.int .i64 (tN1 m : Nat), .int .i64 (tN2 m : Nat), .slice A6 (tR m).length c6] 70)) hdq.2.1
      rw [hdq.2.2] at hr
      have hb07 := hb06.alloc hb06.size (.cells #[.int .i64 (tN1 m : Nat), .int .i64 (tN2 m : Nat), .slice A6 (tR m).length c6] 70)
      have HR := hid hr
      clear k6 hr hdq
      go_wp2_with fail
      refine HR.out.mono ?_
      rintro e w7 ⟨rfl, hb7⟩
      have hb08 := below_t hb07 hb7 hb07.size
      go_wp2_with fail
      refine (awake08_any _).mono ?_
      rintro e w8 ⟨rfl, hb8⟩
      have hb09 := below_t hb08 hb8 hb08.size
      have hcm := cv_bytes d (hm.below hb09 (Nat.le_refl _))
      go_wp2
      go_ret
      exact ⟨rfl, hb09⟩
    · have k6 := BoxT.new w6 (.int .i64 0) (.int .i64 0) (.slice none 0 0)
      have hb07 := hb06.alloc hb06.size (.cells #[.int .i64 0, .int .i64 0, .slice none 0 0] 70)
      have K6 := hid k6
      clear k6
      go_wp2_with fail
      refine (awake08_any _).mono ?_
      rintro e w8 ⟨rfl, hb8⟩
      have hb09 := below_t hb07 hb8 hb07.size
      have k8 := K6.out.below hb8 (by simp)
      obtain ⟨yc0, yc1, yc2, yfr, ylt⟩ := k8.facts
      have hsm := same_any 0 0 none [] 0 0 0 none [] 0 w8 (Cells.nil _ _) (Cells.nil _ _)
      rw [show sameB 0 0 [] 0 0 [] = true from rfl, show ([] : List UInt8).length = 0 from rfl] at hsm
      have HSM := hid hsm
      clear k8 hsm
      go_wp2_with fail
      refine HSM.out.mono ?_
      rintro e w9 ⟨rfl, hb9⟩
      go_wp2
      go_ret
      exact ⟨rfl, below_t hb09 hb9 hb09.size⟩
end Go.Proofs.Ytppbcdcmpcagdaa
