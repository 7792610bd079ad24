/- The law VerbCalls returns true at every input. No condition. -/
import Derived.Test.YtppbcdcmpcagdaaVerbK
import Derived.Test.YtppbcdcmpcagdaaVerbD
import Derived.Test.YtppbcdcmpcagdaaVerbCR
namespace Go.Proofs.Ytppbcdcmpcagdaa
open Go.RowKit Go.CP

theorem called_is {r : Rc} (B0 : Option Addr) (b : List UInt8) (c : Nat) (w : World) (hb : Bytes w B0 b) (hc : b.length ≤ c) (hl : b.length ≤ 140737488351232) (h : decC b = some r) :
    Calls Try.prog 93 #[.slice B0 b.length c] w fun e w' => e = .returned (.tuple #[.agg #[.int .i64 r.epoch, .int .i64 r.node, .int .i64 r.gen], .int .i64 0]) ∧ Hid (Below w.heap.size w w') := by
  refine (called_any B0 b c w hb hc hl).mono ?_
  rintro e w' (⟨r', h', he, hr⟩ | ⟨h', -⟩)
  · cases h.symm.trans h'
    exact ⟨he, hr⟩
  · rw [h] at h'; cases h'
theorem called_no (B0 : Option Addr) (b : List UInt8) (c : Nat) (w : World) (hb : Bytes w B0 b) (hc : b.length ≤ c) (hl : b.length ≤ 140737488351232) (h : decC b = none) :
    Calls Try.prog 93 #[.slice B0 b.length c] w fun e w' => e = .returned (.tuple #[.agg #[.int .i64 0, .int .i64 0, .int .i64 0], .int .i64 2]) ∧ Hid (Below w.heap.size w w') := by
  refine (called_any B0 b c w hb hc hl).mono ?_
  rintro e w' (⟨r', h', -⟩ | ⟨h', he, hr⟩)
  · rw [h] at h'; cases h'
  · exact ⟨he, hr⟩
theorem rcall_good {r : Rc} (w : World) (h : goodC r = true) : Calls Try.prog 92 #[.agg #[.int .i64 r.epoch, .int .i64 r.node, .int .i64 r.gen]] w fun e w' => ∃ m, e = .returned (.tuple #[.string (bstr m), .int .i64 0]) ∧ Hid (m = frameL 67 (callL r)) ∧ Hid (Below w.heap.size w w') := by
  refine (rcall_any r w).mono ?_
  rintro e w' ⟨x, m, he, hr⟩
  rcases hr.out.1 with ⟨-, rfl, hm⟩ | ⟨h', -, -⟩
  · exact ⟨m, he, hid hm, hid hr.out.2⟩
  · rw [h] at h'; cases h'
theorem rcall_bad {r : Rc} (w : World) (h : goodC r = false) : Calls Try.prog 92 #[.agg #[.int .i64 r.epoch, .int .i64 r.node, .int .i64 r.gen]] w fun e w' => ∃ m, e = .returned (.tuple #[.string (bstr m), .int .i64 2]) ∧ Hid (m = []) ∧ Hid (Below w.heap.size w w') := by
  refine (rcall_any r w).mono ?_
  rintro e w' ⟨x, m, he, hr⟩
  rcases hr.out.1 with ⟨h', -, -⟩ | ⟨-, rfl, hm⟩
  · rw [h] at h'; cases h'
  · exact ⟨m, he, hid hm, hid hr.out.2⟩
theorem call_good {r : Rc} (w : World) (h : goodC r = true) : Calls Try.prog 91 #[.agg #[.int .i64 r.epoch, .int .i64 r.node, .int .i64 r.gen]] w fun e w' => ∃ A c m, e = .returned (.tuple #[.slice A (List.length m) c, .int .i64 0]) ∧ Hid (m = frameL 67 (callL r) ∧ Bytes w' A m ∧ m.length ≤ c ∧ Below w.heap.size w w') := by
  refine (call_any r w).mono ?_
  rintro e w' (⟨-, A, c, m, he, hr⟩ | ⟨h', -⟩)
  · exact ⟨A, c, m, he, hid ⟨hr.out.1, hr.out.2.1.cells, hr.out.2.1.le.1, hr.out.2.2⟩⟩
  · rw [h] at h'; cases h'
theorem call_bad {r : Rc} (w : World) (h : goodC r = false) : Calls Try.prog 91 #[.agg #[.int .i64 r.epoch, .int .i64 r.node, .int .i64 r.gen]] w fun e w' => ∃ A c m, e = .returned (.tuple #[.slice A (List.length m) c, .int .i64 2]) ∧ Hid (m = ([] : List UInt8) ∧ Bytes w' A m ∧ m.length ≤ c ∧ Below w.heap.size w w') := by
  refine (call_any r w).mono ?_
  rintro e w' (⟨h', -⟩ | ⟨-, he, hr⟩)
  · rw [h] at h'; cases h'
  · exact ⟨none, 0, [], he, hid ⟨rfl, Cells.nil _ _, Nat.le_refl _, hr.out⟩⟩
theorem vself (m : List UInt8) : (bstr m == bstr m) = true ∧ (bstr m != bstr m) = false := by
  have h : (bstr m == bstr m) = true := by rw [bstr_eq]; simp
  exact ⟨h, by rw [bne, h]; rfl⟩
set_option maxHeartbeats 2000000 in
set_option maxRecDepth 100000 in
theorem verbCalls_walk (w : World) (r : Rc) (B : Option Addr) (b : List UInt8) (c : Nat) (hb : Bytes w B b) (hc : b.length ≤ c) (hl : b.length ≤ 140737488351232) :
    Calls Try.prog 26 #[cval r, .slice B b.length c] w fun e w' => e = .returned (.bool true) ∧ Below w.heap.size w w' := by
  have HBB := hid fun W (h : Below w.heap.size w W) => (Cells.below hb h (Nat.le_refl _) : Bytes W B b)
  have HYES := hid fun W (h : Below w.heap.size w W) x hx => called_is (r := x) B b c W (HBB.out W h) hc hl hx
  have HNO := hid fun W (h : Below w.heap.size w W) hx => called_no B b c W (HBB.out W h) hc hl hx
  have HW := hid fun W (h : Below w.heap.size w W) => (awake17_any W).mono fun e w' h' => (show e = .returned (.bool true) ∧ Below w.heap.size w w' from ⟨h'.1, below_t h h'.2 h.size⟩)
  have HB0 := hid ((Below.refl w.heap.size w).alloc (Nat.le_refl _) (.cells #[.int .i64 r.epoch, .int .i64 r.node, .int .i64 r.gen] 121))
  have HX0 := hid (Blk.new w 121 [.int .i64 r.epoch, .int .i64 r.node, .int .i64 r.gen])
  rw [show cval r = .agg #[.int .i64 r.epoch, .int .i64 r.node, .int .i64 r.gen] from rfl]
  clear hb
  cases hg : goodC r with
  | true =>
    have HC1 := hid fun W => call_good (r := r) W hg
    have HC2 := hid fun W => rcall_good (r := r) W hg
    have HFR := hid (decC_frame hg)
    clear hg
    go_enter Try.func26, Try.ntmps26
    go_wp2_with fail
    refine (HC1.out _).mono ?_
    rintro e w1 ⟨A1, c1, m1, rfl, HR1⟩
    have HX1 := hid (HX0.out.below HR1.out.2.2.2)
    have HB1 := hid (below_t HB0.out HR1.out.2.2.2 HB0.out.size)
    have x0 : w1.cell? ⟨w.heap.size, 0, none⟩ = some (.int .i64 r.epoch) := HX1.out.cell (j := 0) rfl
    have x1 : w1.cell? ⟨w.heap.size, 1, none⟩ = some (.int .i64 r.node) := HX1.out.cell (j := 1) rfl
    have x2 : w1.cell? ⟨w.heap.size, 2, none⟩ = some (.int .i64 r.gen) := HX1.out.cell (j := 2) rfl
    clear HX0 HB0
    go_wp2_with fail
    refine (HC2.out _).mono ?_
    rintro e w2 ⟨m2, rfl, HM2, HR2⟩
    obtain rfl : m2 = m1 := HM2.out.trans HR1.out.1.symm
    have HX2 := hid (HX1.out.below HR2.out)
    have HB2 := hid (below_t HB1.out HR2.out HB1.out.size)
    have hcv := cv_bytes c1 (Cells.below HR1.out.2.1 HR2.out (Nat.le_refl _))
    have hself := vself m2
    have HD := hid (called_is (r := r) A1 m2 c1 w2 (Cells.below HR1.out.2.1 HR2.out (Nat.le_refl _)) HR1.out.2.2.1 (by rw [HR1.out.1, frameL_len]; simp [callL, numsL_len]) (by rw [HR1.out.1]; exact HFR.out))
    clear x0 x1 x2 HR1 HR2 HX1 HB1 HM2
    go_wp2_with fail
    refine HD.out.mono ?_
    rintro e w3 ⟨rfl, HR3⟩
    have HX3 := hid ((HX2.out.below HR3.out).alloc (.cells #[.int .i64 r.epoch, .int .i64 r.node, .int .i64 r.gen] 121))
    have HB3 := hid (below_t HB2.out HR3.out HB2.out.size)
    have HB4 := hid (HB3.out.alloc HB3.out.size (.cells #[.int .i64 r.epoch, .int .i64 r.node, .int .i64 r.gen] 121))
    have x0 := HX3.out.cell (j := 0) rfl
    have x1 := HX3.out.cell (j := 1) rfl
    have x2 := HX3.out.cell (j := 2) rfl
    clear HX2 HB2 HB3 HR3 hcv
    go_wp2_with fail
    cases hdc : decC b with
    | none =>
      have HZ := hid (HNO.out _ HB4.out hdc)
      clear hdc
      refine HZ.out.mono ?_
      clear HZ
      rintro e w5 ⟨rfl, HR5⟩
      have HB5 := hid (below_t HB4.out HR5.out HB4.out.size)
      have HB6 := hid (HB5.out.alloc HB5.out.size (.cells #[.int .i64 0, .int .i64 0, .int .i64 0] 121))
      have HX6 := hid (Blk.new w5 121 [.int .i64 0, .int .i64 0, .int .i64 0])
      clear HR5
      go_wp2_with fail
      refine (awake17_any _).mono ?_
      rintro e w7 ⟨rfl, hb7⟩
      have HX7 := hid (HX6.out.below hb7)
      have HB7 := hid (below_t HB6.out hb7 HB6.out.size)
      have y0 : w7.cell? ⟨w5.heap.size, 0, none⟩ = some (.int .i64 0) := HX7.out.cell (j := 0) rfl
      have y1 : w7.cell? ⟨w5.heap.size, 1, none⟩ = some (.int .i64 0) := HX7.out.cell (j := 1) rfl
      have y2 : w7.cell? ⟨w5.heap.size, 2, none⟩ = some (.int .i64 0) := HX7.out.cell (j := 2) rfl
      clear hb7
      go_wp2_with fail
      go_ret
      exact ⟨rfl, HB7.out⟩
    | some x =>
      have HZ := hid (HYES.out _ HB4.out x hdc)
      have HS := hid (decC_some hdc)
      have HC := hid fun W => rcall_good (r := x) W HS.out.1
      clear hdc
      refine HZ.out.mono ?_
      clear HZ
      rintro e w5 ⟨rfl, HR5⟩
      have HB5 := hid (below_t HB4.out HR5.out HB4.out.size)
      have HB6 := hid (HB5.out.alloc HB5.out.size (.cells #[.int .i64 x.epoch, .int .i64 x.node, .int .i64 x.gen] 121))
      clear HR5
      go_wp2_with fail
      refine (HC.out _).mono ?_
      rintro e w7 ⟨m, rfl, HM, HR7⟩
      have hmb : m = b := HM.out.trans HS.out.2.symm
      rw [hmb]
      have HB7 := hid (below_t HB6.out HR7.out HB6.out.size)
      clear hmb HM HR7
      go_wp2_with fail
      refine (awake17_any _).mono ?_
      rintro e w8 ⟨rfl, hb8⟩
      have HB8 := hid (below_t HB7.out hb8 HB7.out.size)
      have hcv := cv_bytes c (HBB.out w8 HB8.out)
      have hself := vself b
      clear hb8
      go_wp2_with fail
      go_ret
      exact ⟨rfl, HB8.out⟩
  | false =>
    have HC1 := hid fun W => call_bad (r := r) W hg
    have HC2 := hid fun W => rcall_bad (r := r) W hg
    clear hg
    go_enter Try.func26, Try.ntmps26
    go_wp2_with fail
    refine (HC1.out _).mono ?_
    rintro e w1 ⟨A1, c1, m1, rfl, HR1⟩
    have HX1 := hid (HX0.out.below HR1.out.2.2.2)
    have HB1 := hid (below_t HB0.out HR1.out.2.2.2 HB0.out.size)
    have x0 : w1.cell? ⟨w.heap.size, 0, none⟩ = some (.int .i64 r.epoch) := HX1.out.cell (j := 0) rfl
    have x1 : w1.cell? ⟨w.heap.size, 1, none⟩ = some (.int .i64 r.node) := HX1.out.cell (j := 1) rfl
    have x2 : w1.cell? ⟨w.heap.size, 2, none⟩ = some (.int .i64 r.gen) := HX1.out.cell (j := 2) rfl
    clear HX0 HB0
    go_wp2_with fail
    refine (HC2.out _).mono ?_
    rintro e w2 ⟨m2, rfl, HM2, HR2⟩
    obtain rfl : m2 = m1 := HM2.out.trans HR1.out.1.symm
    have HB4 := hid (below_t HB1.out HR2.out HB1.out.size)
    have hcv := cv_bytes c1 (Cells.below HR1.out.2.1 HR2.out (Nat.le_refl _))
    have hself := vself m2
    clear x0 x1 x2 HR1 HR2 HX1 HB1 HM2
    go_wp2_with fail
    cases hdc : decC b with
    | none =>
      have HZ := hid (HNO.out _ HB4.out hdc)
      clear hdc
      refine HZ.out.mono ?_
      clear HZ
      rintro e w5 ⟨rfl, HR5⟩
      have HB5 := hid (below_t HB4.out HR5.out HB4.out.size)
      have HB6 := hid (HB5.out.alloc HB5.out.size (.cells #[.int .i64 0, .int .i64 0, .int .i64 0] 121))
      have HX6 := hid (Blk.new w5 121 [.int .i64 0, .int .i64 0, .int .i64 0])
      clear HR5
      go_wp2_with fail
      refine (awake17_any _).mono ?_
      rintro e w7 ⟨rfl, hb7⟩
      have HX7 := hid (HX6.out.below hb7)
      have HB7 := hid (below_t HB6.out hb7 HB6.out.size)
      have y0 : w7.cell? ⟨w5.heap.size, 0, none⟩ = some (.int .i64 0) := HX7.out.cell (j := 0) rfl
      have y1 : w7.cell? ⟨w5.heap.size, 1, none⟩ = some (.int .i64 0) := HX7.out.cell (j := 1) rfl
      have y2 : w7.cell? ⟨w5.heap.size, 2, none⟩ = some (.int .i64 0) := HX7.out.cell (j := 2) rfl
      clear hb7
      go_wp2_with fail
      go_ret
      exact ⟨rfl, HB7.out⟩
    | some x =>
      have HZ := hid (HYES.out _ HB4.out x hdc)
      have HS := hid (decC_some hdc)
      have HC := hid fun W => rcall_good (r := x) W HS.out.1
      clear hdc
      refine HZ.out.mono ?_
      clear HZ
      rintro e w5 ⟨rfl, HR5⟩
      have HB5 := hid (below_t HB4.out HR5.out HB4.out.size)
      have HB6 := hid (HB5.out.alloc HB5.out.size (.cells #[.int .i64 x.epoch, .int .i64 x.node, .int .i64 x.gen] 121))
      clear HR5
      go_wp2_with fail
      refine (HC.out _).mono ?_
      rintro e w7 ⟨m, rfl, HM, HR7⟩
      have hmb : m = b := HM.out.trans HS.out.2.symm
      rw [hmb]
      have HB7 := hid (below_t HB6.out HR7.out HB6.out.size)
      clear hmb HM HR7
      go_wp2_with fail
      refine (awake17_any _).mono ?_
      rintro e w8 ⟨rfl, hb8⟩
      have HB8 := hid (below_t HB7.out hb8 HB7.out.size)
      have hcv := cv_bytes c (HBB.out w8 HB8.out)
      have hself := vself b
      clear hb8
      go_wp2_with fail
      go_ret
      exact ⟨rfl, HB8.out⟩
end Go.Proofs.Ytppbcdcmpcagdaa
