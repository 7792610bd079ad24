/- The law SuperEncodes returns true at every input: its walk over the contracts of super.Encode, Decode, Sound and of the reference's. No condition. -/
import Derived.Test.YtppbcdcmpcagdaaSuper4
import Derived.Deep.QuietTactic
import Derived.BigQuiet
import Derived.Deep.DrawnRows
namespace Go.Proofs.Ytppbcdcmpcagdaa
open Go.RowKit Go.CP
attribute [local go_sem ↓] Go.wp_at_zero Go.wp_at_succ

/-- The last part: what any bytes say. -/
theorem neq_str {a b : ByteArray} (h : a = b) : (a.toList == b.toList) = true := str_eq h

set_option maxHeartbeats 2000000 in
set_option maxRecDepth 100000 in
theorem superEncodes_walk (w : World) (a b c : Int) (B : Option Addr) (m : List UInt8) (d : Nat) (hm : Bytes w B m) (hd : m.length ≤ d) (hml : m.length ≤ 140737488351232) :
    Calls Try.prog 11 #[.agg #[.int .i64 a, .int .i64 b, .int .i64 c], .slice B m.length d] w fun e w' => e = .returned (.bool true) ∧ Below w.heap.size w w' := by
  have hb0 : Below w.heap.size w (w.alloc (.cells #[.int .i64 a, .int .i64 b, .int .i64 c] 60)) := (Below.refl _ _).alloc (Nat.le_refl _) _
  have h1 := sup_any a b c (w.alloc (.cells #[.int .i64 a, .int .i64 b, .int .i64 c] 60))
  have KX := hid (Box3.new w (.int .i64 a) (.int .i64 b) (.int .i64 c))
  have HSD := hid (sup_sound a b c)
  have HRS := hid (rsup_sound a b c)
  have HRE := hid (rsup_any a b c)
  go_enter Try.func11, Try.ntmps11
  go_wp2_with fail
  refine h1.mono ?_
  clear h1
  rintro e w1 h1
  obtain ⟨A1, n1, c1, e1, l1, rfl, hb1, hc1, hl1, hn1, HE1⟩ : ∃ (A1 : Option Addr) (n1 c1 : Nat) (e1 : Int) (l1 : List UInt8), e = .returned (.tuple #[.slice A1 n1 c1, .int .i64 e1]) ∧ Below (w.alloc (.cells #[.int .i64 a, .int .i64 b, .int .i64 c] 60)).heap.size (w.alloc (.cells #[.int .i64 a, .int .i64 b, .int .i64 c] 60)) w1 ∧ Bytes w1 A1 l1 ∧ l1.length = n1 ∧ n1 ≤ c1 ∧
      Hid ((supB a b c = true ∧ e1 = 0 ∧ l1 = sealL (supL a.toNat b.toNat c.toNat)) ∨ (supB a b c = false ∧ e1 = 2 ∧ l1 = [])) := by
    rcases h1 with ⟨hB, A1, c1, rfl, ho1, hb1⟩ | ⟨hB, rfl, hb1⟩
    · exact ⟨A1, 128, c1, 0, _, rfl, hb1, ho1.cells, by rw [sealL_len, supL_len], ho1.le.1, hid (.inl ⟨hB, rfl, rfl⟩)⟩
    · exact ⟨none, 0, 0, 2, [], rfl, hb1, Cells.nil _ _, rfl, Nat.le_refl _, hid (.inr ⟨hB, rfl, rfl⟩)⟩
  have kx1 := KX.out.below hb1 (by simp)
  have hb01 := below_t hb0 hb1 hb0.size
  clear hb0 hb1
  obtain ⟨xc0, xc1, xc2, xfr, xlt⟩ := kx1.facts
  go_wp2_with fail
  refine (HRE.out w1).mono ?_
  rintro e w2 ⟨hb2, h2⟩
  obtain ⟨rfl⟩ : e = .returned (.tuple #[.string (bstr l1), .int .i64 e1]) := by
    rcases HE1.out with ⟨hB, rfl, rfl⟩ | ⟨hB, rfl, rfl⟩ <;> rcases h2 with ⟨hB2, rfl⟩ | ⟨hB2, rfl⟩
    · rfl
    · rw [hB] at hB2; cases hB2
    · rw [hB] at hB2; cases hB2
    · rfl
  have kx2 := kx1.below hb2 xlt
  have hb02 := below_t hb01 hb2 hb01.size
  have hc12 := hc1.below hb2 (Nat.le_refl _)
  clear xc0 xc1 xc2 xfr xlt kx1 hc1 hb01 hb2 h2
  obtain ⟨xc0, xc1, xc2, xfr, xlt⟩ := kx2.facts
  have hcv := fun W (hW : W.cell? ⟨w.heap.size, 0, none⟩ = some (.int .i64 a) ∧ W.cell? ⟨w.heap.size, 1, none⟩ = some (.int .i64 b) ∧ W.cell? ⟨w.heap.size, 2, none⟩ = some (.int .i64 c) ∧ Below w2.heap.size w2 W) => cv_bytes c1 (hc12.below hW.2.2.2 (Nat.le_refl _))
  rw [hl1] at hcv
  have HL1 := hid hl1
  have HCV := hid hcv
  have HN1 := hid hn1
  clear hl1 hcv hn1 kx2
  rcases HE1.out with ⟨hB, rfl, rfl⟩ | ⟨hB, rfl, rfl⟩
  · have HB := hid hB
    clear hB HE1
    have hcv := HCV.out
    go_wp2_with fail
    go_region_held3 (fun W => W.cell? ⟨w.heap.size, 0, none⟩ = some (.int .i64 a) ∧ W.cell? ⟨w.heap.size, 1, none⟩ = some (.int .i64 b) ∧ W.cell? ⟨w.heap.size, 2, none⟩ = some (.int .i64 c) ∧ Below w2.heap.size w2 W)
      (first | exact ⟨xc0, xc1, xc2, Below.refl _ _⟩ | exact box3_drew ⟨xc0, xc1, xc2, Below.refl _ _⟩ | assumption | exact box3_drew (by assumption))
      (first
        | (go_at_call 59; refine (HSD.out _).mono ?_; rintro e w3 ⟨rfl, hb3⟩; have hk3 := box3_keep (by assumption) hb3)
        | (go_at_call 60; refine (HRS.out _).mono ?_; rintro e w4 ⟨rfl, hb4⟩; have hk4 := box3_keep (by assumption) hb4))
    have hb04 := below_t hb02 hk4.2.2.2 hb02.size
    have hB2 := supB_iff.1 HB.out
    have ea : ((a.toNat : Nat) : Int) = a := by omega
    have eb : ((b.toNat : Nat) : Int) = b := by omega
    have ec : ((c.toNat : Nat) : Int) = c := by omega
    have hdc := dec_any A1 (sealL (supL a.toNat b.toNat c.toNat)) c1 w4 (hc12.below hk4.2.2.2 (Nat.le_refl _)) (by rw [HL1.out]; exact HN1.out) (by rw [sealL_len, supL_len]; omega)
    rw [HL1.out] at hdc
    have hsd : supD (sealL (supL a.toNat b.toNat c.toNat)) = true := supD_of (by rw [ea, eb, ec]; exact HB.out)
    obtain ⟨m1, m2, m3⟩ := sN_of a.toNat b.toNat c.toNat (by omega) (by omega) (by omega)
    have HDC : Hid (Calls Try.prog 61 #[.slice A1 n1 c1] w4 fun e w' => e = .returned (.tuple #[.agg #[.int .i64 a, .int .i64 b, .int .i64 c], .int .i64 0]) ∧ Below w4.heap.size w4 w') := by
      refine hid (hdc.mono ?_)
      rintro e w' ⟨hb, (⟨-, rfl⟩ | ⟨h, -⟩)⟩
      · rw [m1, m2, m3, ea, eb, ec]; exact ⟨rfl, hb⟩
      · rw [hsd] at h; cases h
    have HK4 := hid hk4
    clear hdc hsd m1 m2 m3 ea eb ec hB2 xc0 xc1 xc2 xfr xlt hk4 hk3 hcv
    go_wp2_with fail
    refine HDC.out.mono ?_
    rintro e w5 ⟨rfl, hb5⟩
    have hb05 := below_t hb04 hb5 hb04.size
    have hk5 := box3_keep HK4.out hb5
    have hk6 := box3_keep hk5 ((Below.refl w5.heap.size w5).alloc (Nat.le_refl _) (.cells #[.int .i64 a, .int .i64 b, .int .i64 c] 60))
    have hbt := hb05.alloc hb05.size (.cells #[.int .i64 a, .int .i64 b, .int .i64 c] 60)
    obtain ⟨xc0, xc1, xc2, -⟩ := hk6
    obtain ⟨zc0, zc1, zc2, zfr, zlt⟩ := (Box3.new w5 (.int .i64 a) (.int .i64 b) (.int .i64 c)).facts
    clear hk5
    have hdm := dec_any B m d _ (hm.below hbt (Nat.le_refl _)) hd hml
    go_wp2_with fail
    refine hdm.mono ?_
    clear hdm
    rintro e w6 ⟨hb6, h6⟩
    have hb06 := below_t hbt hb6 hbt.size
    rcases h6 with ⟨hD, rfl⟩ | ⟨hD, rfl⟩
    · have k6 := Box3.new w6 (.int .i64 (sN1 m : Nat)) (.int .i64 (sN2 m : Nat)) (.int .i64 (sN3 m : Nat))
      obtain ⟨yc0, yc1, yc2, yfr, ylt⟩ := k6.facts
      have hdq := supD_eq hD
      have hr := rsup_ok (sN1 m) (sN2 m) (sN3 m) (w6.alloc (.cells #[.int .i64 (sN1 m : Nat), .int .i64 (sN2 m : Nat), .int .i64 (sN3 m : Nat)] 60)) hdq.1
      rw [hdq.2] at hr
      have hb07 := hb06.alloc hb06.size (.cells #[.int .i64 (sN1 m : Nat), .int .i64 (sN2 m : Nat), .int .i64 (sN3 m : Nat)] 60)
      have HR := hid hr
      clear k6 hr hdq
      go_wp2_with fail
      refine HR.out.mono ?_
      rintro e w7 ⟨rfl, hb7⟩
      have hb08 := below_t hb07 hb7 hb07.size
      go_wp2_with fail
      refine (awake07_any _).mono ?_
      rintro e w8 ⟨rfl, hb8⟩
      have hb09 := below_t hb08 hb8 hb08.size
      have hcm := cv_bytes d (hm.below hb09 (Nat.le_refl _))
      go_wp2
      go_ret
      exact ⟨rfl, hb09⟩
    · have k6 := Box3.new w6 (.int .i64 0) (.int .i64 0) (.int .i64 0)
      have hb07 := hb06.alloc hb06.size (.cells #[.int .i64 0, .int .i64 0, .int .i64 0] 60)
      have K6 := hid k6
      clear k6
      go_wp2_with fail
      refine (awake07_any _).mono ?_
      rintro e w8 ⟨rfl, hb8⟩
      have hb09 := below_t hb07 hb8 hb07.size
      have k8 := K6.out.below hb8 (by simp)
      obtain ⟨yc0, yc1, yc2, yfr, ylt⟩ := k8.facts
      clear k8
      go_wp2
      go_ret
      exact ⟨rfl, hb09⟩
  · have HB := hid hB
    clear hB HE1
    have hcv := HCV.out
    go_wp2_with fail
    go_region_held3 (fun W => W.cell? ⟨w.heap.size, 0, none⟩ = some (.int .i64 a) ∧ W.cell? ⟨w.heap.size, 1, none⟩ = some (.int .i64 b) ∧ W.cell? ⟨w.heap.size, 2, none⟩ = some (.int .i64 c) ∧ Below w2.heap.size w2 W)
      (first | exact ⟨xc0, xc1, xc2, Below.refl _ _⟩ | exact box3_drew ⟨xc0, xc1, xc2, Below.refl _ _⟩ | assumption | exact box3_drew (by assumption))
      (first
        | (go_at_call 59; refine (HSD.out _).mono ?_; rintro e w3 ⟨rfl, hb3⟩; have hk3 := box3_keep (by assumption) hb3)
        | (go_at_call 60; refine (HRS.out _).mono ?_; rintro e w4 ⟨rfl, hb4⟩; have hk4 := box3_keep (by assumption) hb4))
    have hb04 := below_t hb02 hk4.2.2.2 hb02.size
    have hbt := hb04
    clear xc0 xc1 xc2 xfr xlt hk4 hk3 hcv
    have hdm := dec_any B m d _ (hm.below hbt (Nat.le_refl _)) hd hml
    go_wp2_with fail
    refine hdm.mono ?_
    clear hdm
    rintro e w6 ⟨hb6, h6⟩
    have hb06 := below_t hbt hb6 hbt.size
    rcases h6 with ⟨hD, rfl⟩ | ⟨hD, rfl⟩
    · have k6 := Box3.new w6 (.int .i64 (sN1 m : Nat)) (.int .i64 (sN2 m : Nat)) (.int .i64 (sN3 m : Nat))
      obtain ⟨yc0, yc1, yc2, yfr, ylt⟩ := k6.facts
      have hdq := supD_eq hD
      have hr := rsup_ok (sN1 m) (sN2 m) (sN3 m) (w6.alloc (.cells #[.int .i64 (sN1 m : Nat), .int .i64 (sN2 m : Nat), .int .i64 (sN3 m : Nat)] 60)) hdq.1
      rw [hdq.2] at hr
      have hb07 := hb06.alloc hb06.size (.cells #[.int .i64 (sN1 m : Nat), .int .i64 (sN2 m : Nat), .int .i64 (sN3 m : Nat)] 60)
      have HR := hid hr
      clear k6 hr hdq
      go_wp2_with fail
      refine HR.out.mono ?_
      rintro e w7 ⟨rfl, hb7⟩
      have hb08 := below_t hb07 hb7 hb07.size
      go_wp2_with fail
      refine (awake07_any _).mono ?_
      rintro e w8 ⟨rfl, hb8⟩
      have hb09 := below_t hb08 hb8 hb08.size
      have hcm := cv_bytes d (hm.below hb09 (Nat.le_refl _))
      go_wp2
      go_ret
      exact ⟨rfl, hb09⟩
    · have k6 := Box3.new w6 (.int .i64 0) (.int .i64 0) (.int .i64 0)
      have hb07 := hb06.alloc hb06.size (.cells #[.int .i64 0, .int .i64 0, .int .i64 0] 60)
      have K6 := hid k6
      clear k6
      go_wp2_with fail
      refine (awake07_any _).mono ?_
      rintro e w8 ⟨rfl, hb8⟩
      have hb09 := below_t hb07 hb8 hb07.size
      have k8 := K6.out.below hb8 (by simp)
      obtain ⟨yc0, yc1, yc2, yfr, ylt⟩ := k8.facts
      clear k8
      go_wp2
      go_ret
      exact ⟨rfl, hb09⟩
end Go.Proofs.Ytppbcdcmpcagdaa
