/- The law VerbAnswers returns true at every input. No condition. -/
import Derived.Test.YtppbcdcmpcagdaaVerbK
import Derived.Test.YtppbcdcmpcagdaaVerbX
import Derived.Test.YtppbcdcmpcagdaaVerbW
namespace Go.Proofs.Ytppbcdcmpcagdaa
open Go.RowKit Go.CP

theorem ansd_no (B0 : Option Addr) (b : List UInt8) (c : Nat) (w : World) (hb : Bytes w B0 b) (hc : b.length ≤ c) (hl : b.length ≤ 140737488351232) (h : decR b = none) :
    Calls Try.prog 89 #[.slice B0 b.length c] w fun e w' => e = .returned (.tuple #[rval rpZero none 0 none 0, .int .i64 2]) ∧ Hid (Below w.heap.size w w') := by
  refine (ansd_full B0 b c w hb hc hl).mono ?_
  rintro e w' (⟨v', A, c, B, cb, h', -⟩ | ⟨h', he, hr⟩)
  · rw [h] at h'; cases h'
  · exact ⟨he, hr⟩
set_option maxHeartbeats 8000000 in
set_option maxRecDepth 100000 in
theorem verbAnswers_walk (w : World) (r : Rp) (A : Option Addr) (ca : Nat) (N : Option Addr) (cn : Nat) (B : Option Addr) (b : List UInt8) (c : Nat) (hd : Bytes w A r.data) (hn : Strs w N r.names) (hb : Bytes w B b) (hc : b.length ≤ c) (hl : b.length ≤ 140737488351232) :
    Calls Try.prog 24 #[rval r A ca N cn, .slice B b.length c] w fun e w' => e = .returned (.bool true) ∧ Below w.heap.size w w' := by
  have HBB := hid fun W (h : Below w.heap.size w W) => (Cells.below hb h (Nat.le_refl _) : Bytes W B b)
  have HDD := hid fun W (h : Below w.heap.size w W) => (Cells.below hd h (Nat.le_refl _) : Bytes W A r.data)
  have HNN := hid fun W (h : Below w.heap.size w W) => (Cells.below hn h (Nat.le_refl _) : Strs W N r.names)
  have HYES := hid fun W (h : Below w.heap.size w W) x hx => ansd_is (r := x) B b c W (HBB.out W h) hc hl hx
  have HNO := hid fun W (h : Below w.heap.size w W) hx => ansd_no B b c W (HBB.out W h) hc hl hx
  have HB0 := hid ((Below.refl w.heap.size w).alloc (Nat.le_refl _) (.cells (rcells r A ca N cn).toArray 112))
  have HX0 := hid (Blk.new w 112 (rcells r A ca N cn))
  clear hb hd hn
  cases hg : goodR r with
  | true =>
    have hnl : r.names.length ≤ 100000 := by have := (goodR_facts hg).2.2.1; omega
    have HSS := hid fun A' c' N' d' W h1 h2 h3 h4 => alike_same r A' c' N' d' A ca N cn W h1 h2 h3 h4 hnl
    have HC1 := hid (ans_ok r A ca N cn (w.alloc (.cells (rcells r A ca N cn).toArray 112)) (HDD.out _ HB0.out) (HNN.out _ HB0.out) hg)
    have HC2 := hid fun W (h : Below w.heap.size w W) => ranswer_ok r A ca N cn W (HDD.out _ h) (HNN.out _ h) hg
    have HFR : Hid (decR (frameL 65 (ansL r)) = some r ∧ (frameL 65 (ansL r)).length ≤ 140737488351232) := hid ⟨decR_frame hg, by rw [frameL_len]; have := ansL_len hg; omega⟩
    obtain ⟨fr, hfr⟩ : ∃ fr, frameL 65 (ansL r) = fr := ⟨_, rfl⟩
    rw [hfr] at HC1 HC2 HFR
    have HDI := hid fun B0 cc W (h1 : Bytes W B0 fr) h2 => ansd_is B0 fr cc W h1 h2 HFR.out.2 HFR.out.1
    clear hg hfr hnl
    obtain ⟨r0, r1, r2, r3, r4, r5, r6, r7, r8, r9, r10, r11⟩ := r
    rw [show rval ⟨r0, r1, r2, r3, r4, r5, r6, r7, r8, r9, r10, r11⟩ A ca N cn = .agg #[.int .i64 r0, .int .i64 r1, .int .i64 r2, .int .i64 r3, .int .i64 r4, .int .i64 r5, .int .i64 r6, .int .i64 r7, .int .i64 r8, .int .i64 r9, .slice A r10.length ca, .slice N r11.length cn] from rfl]
    go_enter Try.func24, Try.ntmps24
    go_wp2_with fail
    refine HC1.out.mono ?_
    clear HC1
    rintro e w1 ⟨A1, c1, m1, rfl, HR1⟩
    obtain rfl : m1 = fr := HR1.out.1
    have HX1 := hid (HX0.out.below HR1.out.2.2)
    have HB1 := hid (below_t HB0.out HR1.out.2.2 HB0.out.size)
    have HY1 := hid HR1.out.2.1
    clear HR1 HX0 HB0
    have x0 : w1.cell? ⟨w.heap.size, 0, none⟩ = some (.int .i64 r0) := HX1.out.cell (j := 0) rfl
    have x1 : w1.cell? ⟨w.heap.size, 1, none⟩ = some (.int .i64 r1) := HX1.out.cell (j := 1) rfl
    have x2 : w1.cell? ⟨w.heap.size, 2, none⟩ = some (.int .i64 r2) := HX1.out.cell (j := 2) rfl
    have x3 : w1.cell? ⟨w.heap.size, 3, none⟩ = some (.int .i64 r3) := HX1.out.cell (j := 3) rfl
    have x4 : w1.cell? ⟨w.heap.size, 4, none⟩ = some (.int .i64 r4) := HX1.out.cell (j := 4) rfl
    have x5 : w1.cell? ⟨w.heap.size, 5, none⟩ = some (.int .i64 r5) := HX1.out.cell (j := 5) rfl
    have x6 : w1.cell? ⟨w.heap.size, 6, none⟩ = some (.int .i64 r6) := HX1.out.cell (j := 6) rfl
    have x7 : w1.cell? ⟨w.heap.size, 7, none⟩ = some (.int .i64 r7) := HX1.out.cell (j := 7) rfl
    have x8 : w1.cell? ⟨w.heap.size, 8, none⟩ = some (.int .i64 r8) := HX1.out.cell (j := 8) rfl
    have x9 : w1.cell? ⟨w.heap.size, 9, none⟩ = some (.int .i64 r9) := HX1.out.cell (j := 9) rfl
    have x10 : w1.cell? ⟨w.heap.size, 10, none⟩ = some (.slice A r10.length ca) := HX1.out.cell (j := 10) rfl
    have x11 : w1.cell? ⟨w.heap.size, 11, none⟩ = some (.slice N r11.length cn) := HX1.out.cell (j := 11) rfl
    go_wp2_with fail
    refine (HC2.out _ HB1.out).mono ?_
    clear HC2
    rintro e w2 ⟨rfl, hb2⟩
    have HX2 := hid (HX1.out.below hb2)
    have HB2 := hid (below_t HB1.out hb2 HB1.out.size)
    have HY2 := hid (HY1.out.below hb2 (Nat.le_refl _))
    have hcv := cv_bytes c1 HY2.out.cells
    have hself := rself m1
    have HDC := hid (HDI.out A1 c1 w2 HY2.out.cells HY2.out.le.1)
    clear hb2 HX1 HB1 HY1 HDI HFR x0 x1 x2 x3 x4 x5 x6 x7 x8 x9 x10 x11
    go_wp2_with fail
    refine HDC.out.mono ?_
    clear HDC hcv
    rintro e w3 ⟨A3, c3, N3, d3, rfl, HR3⟩
    rw [show rval ⟨r0, r1, r2, r3, r4, r5, r6, r7, r8, r9, r10, r11⟩ A3 c3 N3 d3 = .agg #[.int .i64 r0, .int .i64 r1, .int .i64 r2, .int .i64 r3, .int .i64 r4, .int .i64 r5, .int .i64 r6, .int .i64 r7, .int .i64 r8, .int .i64 r9, .slice A3 r10.length c3, .slice N3 r11.length d3] from rfl]
    obtain ⟨w4, hw4⟩ : ∃ w4, w4 = w3.alloc (.cells #[.int .i64 r0, .int .i64 r1, .int .i64 r2, .int .i64 r3, .int .i64 r4, .int .i64 r5, .int .i64 r6, .int .i64 r7, .int .i64 r8, .int .i64 r9, .slice A3 r10.length c3, .slice N3 r11.length d3] 112) := ⟨_, rfl⟩
    have HX3 : Hid (Blk w4 w.heap.size 112 (rcells ⟨r0, r1, r2, r3, r4, r5, r6, r7, r8, r9, r10, r11⟩ A ca N cn)) := hid (by rw [hw4]; exact (HX2.out.below HR3.out.2.2.2).alloc _)
    have HY3 : Hid (Blk w4 w3.heap.size 112 (rcells ⟨r0, r1, r2, r3, r4, r5, r6, r7, r8, r9, r10, r11⟩ A3 c3 N3 d3)) := hid (by rw [hw4]; exact Blk.new w3 112 (rcells ⟨r0, r1, r2, r3, r4, r5, r6, r7, r8, r9, r10, r11⟩ A3 c3 N3 d3))
    have HB3 : Hid (Below w.heap.size w w4) := hid (by rw [hw4]; exact (below_t HB2.out HR3.out.2.2.2 HB2.out.size).alloc (below_t HB2.out HR3.out.2.2.2 HB2.out.size).size _)
    have HC := hid (HSS.out A3 c3 N3 d3 w4 (by rw [hw4]; exact HR3.out.1.alloc _) (by rw [hw4]; exact Cells.alloc HR3.out.2.2.1 _) (HDD.out _ HB3.out) (HNN.out _ HB3.out))
    have HW4 := hid hw4
    clear HX2 HB2 HR3 hw4 HSS HY2
    go_upto_region 7 with fail
    rw [← HW4.out]
    clear HW4
    generalize w3.heap.size = k3 at HY3 ⊢
    have x0 : w4.cell? ⟨w.heap.size, 0, none⟩ = some (.int .i64 r0) := HX3.out.cell (j := 0) rfl
    have x1 : w4.cell? ⟨w.heap.size, 1, none⟩ = some (.int .i64 r1) := HX3.out.cell (j := 1) rfl
    have x2 : w4.cell? ⟨w.heap.size, 2, none⟩ = some (.int .i64 r2) := HX3.out.cell (j := 2) rfl
    have x3 : w4.cell? ⟨w.heap.size, 3, none⟩ = some (.int .i64 r3) := HX3.out.cell (j := 3) rfl
    have x4 : w4.cell? ⟨w.heap.size, 4, none⟩ = some (.int .i64 r4) := HX3.out.cell (j := 4) rfl
    have x5 : w4.cell? ⟨w.heap.size, 5, none⟩ = some (.int .i64 r5) := HX3.out.cell (j := 5) rfl
    have x6 : w4.cell? ⟨w.heap.size, 6, none⟩ = some (.int .i64 r6) := HX3.out.cell (j := 6) rfl
    have x7 : w4.cell? ⟨w.heap.size, 7, none⟩ = some (.int .i64 r7) := HX3.out.cell (j := 7) rfl
    have x8 : w4.cell? ⟨w.heap.size, 8, none⟩ = some (.int .i64 r8) := HX3.out.cell (j := 8) rfl
    have x9 : w4.cell? ⟨w.heap.size, 9, none⟩ = some (.int .i64 r9) := HX3.out.cell (j := 9) rfl
    have x10 : w4.cell? ⟨w.heap.size, 10, none⟩ = some (.slice A r10.length ca) := HX3.out.cell (j := 10) rfl
    have x11 : w4.cell? ⟨w.heap.size, 11, none⟩ = some (.slice N r11.length cn) := HX3.out.cell (j := 11) rfl
    have y0 : w4.cell? ⟨k3, 0, none⟩ = some (.int .i64 r0) := HY3.out.cell (j := 0) rfl
    have y1 : w4.cell? ⟨k3, 1, none⟩ = some (.int .i64 r1) := HY3.out.cell (j := 1) rfl
    have y2 : w4.cell? ⟨k3, 2, none⟩ = some (.int .i64 r2) := HY3.out.cell (j := 2) rfl
    have y3 : w4.cell? ⟨k3, 3, none⟩ = some (.int .i64 r3) := HY3.out.cell (j := 3) rfl
    have y4 : w4.cell? ⟨k3, 4, none⟩ = some (.int .i64 r4) := HY3.out.cell (j := 4) rfl
    have y5 : w4.cell? ⟨k3, 5, none⟩ = some (.int .i64 r5) := HY3.out.cell (j := 5) rfl
    have y6 : w4.cell? ⟨k3, 6, none⟩ = some (.int .i64 r6) := HY3.out.cell (j := 6) rfl
    have y7 : w4.cell? ⟨k3, 7, none⟩ = some (.int .i64 r7) := HY3.out.cell (j := 7) rfl
    have y8 : w4.cell? ⟨k3, 8, none⟩ = some (.int .i64 r8) := HY3.out.cell (j := 8) rfl
    have y9 : w4.cell? ⟨k3, 9, none⟩ = some (.int .i64 r9) := HY3.out.cell (j := 9) rfl
    have y10 : w4.cell? ⟨k3, 10, none⟩ = some (.slice A3 r10.length c3) := HY3.out.cell (j := 10) rfl
    have y11 : w4.cell? ⟨k3, 11, none⟩ = some (.slice N3 r11.length d3) := HY3.out.cell (j := 11) rfl
    go_wp2_with fail
    refine HC.out.mono ?_
    rintro e w9 ⟨rfl, hb9⟩
    have HB4 := hid (below_t HB3.out hb9 HB3.out.size)
    clear hb9 HX3 HY3 HB3 HC x0 y0 x1 y1 x2 y2 x3 y3 x4 y4 x5 y5 x6 y6 x7 y7 x8 y8 x9 y9 x10 y10 x11 y11
    go_wp2_with fail
    cases hdc : decR b with
    | none =>
      have HZ := hid (HNO.out _ HB4.out hdc)
      clear hdc
      refine HZ.out.mono ?_
      clear HZ
      rintro e w5 ⟨rfl, HR5⟩
      rw [show rval rpZero none 0 none 0 = .agg #[.int .i64 0, .int .i64 0, .int .i64 0, .int .i64 0, .int .i64 0, .int .i64 0, .int .i64 0, .int .i64 0, .int .i64 0, .int .i64 0, .slice none 0 0, .slice none 0 0] from rfl]
      have HB5 := hid (below_t HB4.out HR5.out HB4.out.size)
      have HB6 := hid (HB5.out.alloc HB5.out.size (.cells #[.int .i64 0, .int .i64 0, .int .i64 0, .int .i64 0, .int .i64 0, .int .i64 0, .int .i64 0, .int .i64 0, .int .i64 0, .int .i64 0, .slice none 0 0, .slice none 0 0] 112))
      have HX6 := hid (Blk.new w5 112 (rcells rpZero none 0 none 0))
      have HVS := hid fun W => alike_same rpZero none 0 none 0 none 0 none 0 W (Cells.nil _ _) (Cells.nil _ _) (Cells.nil _ _) (Cells.nil _ _) (by decide)
      rw [show rval rpZero none 0 none 0 = .agg #[.int .i64 0, .int .i64 0, .int .i64 0, .int .i64 0, .int .i64 0, .int .i64 0, .int .i64 0, .int .i64 0, .int .i64 0, .int .i64 0, .slice none 0 0, .slice none 0 0] from rfl] at HVS
      clear HR5
      go_wp2_with fail
      refine (awake17_any _).mono ?_
      rintro e w7 ⟨rfl, hb7⟩
      have HX7 := hid (HX6.out.below hb7)
      have HB7 := hid (below_t HB6.out hb7 HB6.out.size)
      have y0 : w7.cell? ⟨w5.heap.size, 0, none⟩ = some (.int .i64 0) := HX7.out.cell (j := 0) rfl
      have y1 : w7.cell? ⟨w5.heap.size, 1, none⟩ = some (.int .i64 0) := HX7.out.cell (j := 1) rfl
      have y2 : w7.cell? ⟨w5.heap.size, 2, none⟩ = some (.int .i64 0) := HX7.out.cell (j := 2) rfl
      have y3 : w7.cell? ⟨w5.heap.size, 3, none⟩ = some (.int .i64 0) := HX7.out.cell (j := 3) rfl
      have y4 : w7.cell? ⟨w5.heap.size, 4, none⟩ = some (.int .i64 0) := HX7.out.cell (j := 4) rfl
      have y5 : w7.cell? ⟨w5.heap.size, 5, none⟩ = some (.int .i64 0) := HX7.out.cell (j := 5) rfl
      have y6 : w7.cell? ⟨w5.heap.size, 6, none⟩ = some (.int .i64 0) := HX7.out.cell (j := 6) rfl
      have y7 : w7.cell? ⟨w5.heap.size, 7, none⟩ = some (.int .i64 0) := HX7.out.cell (j := 7) rfl
      have y8 : w7.cell? ⟨w5.heap.size, 8, none⟩ = some (.int .i64 0) := HX7.out.cell (j := 8) rfl
      have y9 : w7.cell? ⟨w5.heap.size, 9, none⟩ = some (.int .i64 0) := HX7.out.cell (j := 9) rfl
      have y10 : w7.cell? ⟨w5.heap.size, 10, none⟩ = some (.slice none 0 0) := HX7.out.cell (j := 10) rfl
      have y11 : w7.cell? ⟨w5.heap.size, 11, none⟩ = some (.slice none 0 0) := HX7.out.cell (j := 11) rfl
      clear hb7
      go_wp2_with fail
      refine (HVS.out _).mono ?_
      rintro e w8 ⟨rfl, hb8⟩
      have HB8 := hid (below_t HB7.out hb8 HB7.out.size)
      clear hb8
      go_wp2_with fail
      go_ret
      exact ⟨rfl, HB8.out⟩
    | some x =>
      have HZ := hid (HYES.out _ HB4.out x hdc)
      have HS := hid (decR_some hdc)
      clear hdc
      refine HZ.out.mono ?_
      clear HZ
      rintro e w5 ⟨A5, c5, N5, d5, rfl, HR5⟩
      have HB5 := hid (below_t HB4.out HR5.out.2.2.2 HB4.out.size)
      have HB6 := hid (HB5.out.alloc HB5.out.size (.cells (rcells x A5 c5 N5 d5).toArray 112))
      have HC := hid (ranswer_ok x A5 c5 N5 d5 (w5.alloc (.cells (rcells x A5 c5 N5 d5).toArray 112)) (HR5.out.1.alloc _) (Cells.alloc HR5.out.2.2.1 _) HS.out.1)
      obtain ⟨m, hm⟩ : ∃ m, frameL 65 (ansL x) = m := ⟨_, rfl⟩
      rw [hm] at HC
      have hmb : m = b := hm.symm.trans HS.out.2.symm
      rw [hmb] at HC
      obtain ⟨x0, x1, x2, x3, x4, x5, x6, x7, x8, x9, x10, x11⟩ := x
      rw [show rval ⟨x0, x1, x2, x3, x4, x5, x6, x7, x8, x9, x10, x11⟩ A5 c5 N5 d5 = .agg #[.int .i64 x0, .int .i64 x1, .int .i64 x2, .int .i64 x3, .int .i64 x4, .int .i64 x5, .int .i64 x6, .int .i64 x7, .int .i64 x8, .int .i64 x9, .slice A5 x10.length c5, .slice N5 x11.length d5] from rfl]
      clear HR5 hm hmb HS
      go_wp2_with fail
      refine HC.out.mono ?_
      rintro e w7 ⟨rfl, hb7⟩
      have HB7 := hid (below_t HB6.out hb7 HB6.out.size)
      clear hb7
      go_wp2_with fail
      refine (awake17_any _).mono ?_
      rintro e w8 ⟨rfl, hb8⟩
      have HB8 := hid (below_t HB7.out hb8 HB7.out.size)
      have hcv := cv_bytes c (HBB.out w8 HB8.out)
      have hself := rself b
      clear hb8
      go_wp2_with fail
      go_ret
      exact ⟨rfl, HB8.out⟩
  | false =>
    have HC1 := hid (ans_err r A ca N cn (w.alloc (.cells (rcells r A ca N cn).toArray 112)) (HNN.out _ HB0.out) hg)
    have HC2 := hid fun W (h : Below w.heap.size w W) => ranswer_err r A ca N cn W (HNN.out _ h) hg
    clear hg
    obtain ⟨r0, r1, r2, r3, r4, r5, r6, r7, r8, r9, r10, r11⟩ := r
    rw [show rval ⟨r0, r1, r2, r3, r4, r5, r6, r7, r8, r9, r10, r11⟩ A ca N cn = .agg #[.int .i64 r0, .int .i64 r1, .int .i64 r2, .int .i64 r3, .int .i64 r4, .int .i64 r5, .int .i64 r6, .int .i64 r7, .int .i64 r8, .int .i64 r9, .slice A r10.length ca, .slice N r11.length cn] from rfl]
    go_enter Try.func24, Try.ntmps24
    go_wp2_with fail
    refine HC1.out.mono ?_
    clear HC1
    rintro e w1 ⟨rfl, hb1⟩
    have HX1 := hid (HX0.out.below hb1)
    have HB1 := hid (below_t HB0.out hb1 HB0.out.size)
    clear hb1 HX0 HB0
    have x0 : w1.cell? ⟨w.heap.size, 0, none⟩ = some (.int .i64 r0) := HX1.out.cell (j := 0) rfl
    have x1 : w1.cell? ⟨w.heap.size, 1, none⟩ = some (.int .i64 r1) := HX1.out.cell (j := 1) rfl
    have x2 : w1.cell? ⟨w.heap.size, 2, none⟩ = some (.int .i64 r2) := HX1.out.cell (j := 2) rfl
    have x3 : w1.cell? ⟨w.heap.size, 3, none⟩ = some (.int .i64 r3) := HX1.out.cell (j := 3) rfl
    have x4 : w1.cell? ⟨w.heap.size, 4, none⟩ = some (.int .i64 r4) := HX1.out.cell (j := 4) rfl
    have x5 : w1.cell? ⟨w.heap.size, 5, none⟩ = some (.int .i64 r5) := HX1.out.cell (j := 5) rfl
    have x6 : w1.cell? ⟨w.heap.size, 6, none⟩ = some (.int .i64 r6) := HX1.out.cell (j := 6) rfl
    have x7 : w1.cell? ⟨w.heap.size, 7, none⟩ = some (.int .i64 r7) := HX1.out.cell (j := 7) rfl
    have x8 : w1.cell? ⟨w.heap.size, 8, none⟩ = some (.int .i64 r8) := HX1.out.cell (j := 8) rfl
    have x9 : w1.cell? ⟨w.heap.size, 9, none⟩ = some (.int .i64 r9) := HX1.out.cell (j := 9) rfl
    have x10 : w1.cell? ⟨w.heap.size, 10, none⟩ = some (.slice A r10.length ca) := HX1.out.cell (j := 10) rfl
    have x11 : w1.cell? ⟨w.heap.size, 11, none⟩ = some (.slice N r11.length cn) := HX1.out.cell (j := 11) rfl
    go_wp2_with fail
    refine (HC2.out _ HB1.out).mono ?_
    clear HC2
    rintro e w2 ⟨rfl, hb2⟩
    have HB4 := hid (below_t HB1.out hb2 HB1.out.size)
    have hcv := cv_bytes (A := none) (l := []) 0 (Cells.nil w2 none)
    rw [show (([] : List UInt8)).length = 0 from rfl] at hcv
    have hself := rself []
    clear hb2 HX1 HB1 x0 x1 x2 x3 x4 x5 x6 x7 x8 x9 x10 x11
    go_wp2_with fail
    cases hdc : decR b with
    | none =>
      have HZ := hid (HNO.out _ HB4.out hdc)
      clear hdc
      refine HZ.out.mono ?_
      clear HZ
      rintro e w5 ⟨rfl, HR5⟩
      rw [show rval rpZero none 0 none 0 = .agg #[.int .i64 0, .int .i64 0, .int .i64 0, .int .i64 0, .int .i64 0, .int .i64 0, .int .i64 0, .int .i64 0, .int .i64 0, .int .i64 0, .slice none 0 0, .slice none 0 0] from rfl]
      have HB5 := hid (below_t HB4.out HR5.out HB4.out.size)
      have HB6 := hid (HB5.out.alloc HB5.out.size (.cells #[.int .i64 0, .int .i64 0, .int .i64 0, .int .i64 0, .int .i64 0, .int .i64 0, .int .i64 0, .int .i64 0, .int .i64 0, .int .i64 0, .slice none 0 0, .slice none 0 0] 112))
      have HX6 := hid (Blk.new w5 112 (rcells rpZero none 0 none 0))
      have HVS := hid fun W => alike_same rpZero none 0 none 0 none 0 none 0 W (Cells.nil _ _) (Cells.nil _ _) (Cells.nil _ _) (Cells.nil _ _) (by decide)
      rw [show rval rpZero none 0 none 0 = .agg #[.int .i64 0, .int .i64 0, .int .i64 0, .int .i64 0, .int .i64 0, .int .i64 0, .int .i64 0, .int .i64 0, .int .i64 0, .int .i64 0, .slice none 0 0, .slice none 0 0] from rfl] at HVS
      clear HR5
      go_wp2_with fail
      refine (awake17_any _).mono ?_
      rintro e w7 ⟨rfl, hb7⟩
      have HX7 := hid (HX6.out.below hb7)
      have HB7 := hid (below_t HB6.out hb7 HB6.out.size)
      have y0 : w7.cell? ⟨w5.heap.size, 0, none⟩ = some (.int .i64 0) := HX7.out.cell (j := 0) rfl
      have y1 : w7.cell? ⟨w5.heap.size, 1, none⟩ = some (.int .i64 0) := HX7.out.cell (j := 1) rfl
      have y2 : w7.cell? ⟨w5.heap.size, 2, none⟩ = some (.int .i64 0) := HX7.out.cell (j := 2) rfl
      have y3 : w7.cell? ⟨w5.heap.size, 3, none⟩ = some (.int .i64 0) := HX7.out.cell (j := 3) rfl
      have y4 : w7.cell? ⟨w5.heap.size, 4, none⟩ = some (.int .i64 0) := HX7.out.cell (j := 4) rfl
      have y5 : w7.cell? ⟨w5.heap.size, 5, none⟩ = some (.int .i64 0) := HX7.out.cell (j := 5) rfl
      have y6 : w7.cell? ⟨w5.heap.size, 6, none⟩ = some (.int .i64 0) := HX7.out.cell (j := 6) rfl
      have y7 : w7.cell? ⟨w5.heap.size, 7, none⟩ = some (.int .i64 0) := HX7.out.cell (j := 7) rfl
      have y8 : w7.cell? ⟨w5.heap.size, 8, none⟩ = some (.int .i64 0) := HX7.out.cell (j := 8) rfl
      have y9 : w7.cell? ⟨w5.heap.size, 9, none⟩ = some (.int .i64 0) := HX7.out.cell (j := 9) rfl
      have y10 : w7.cell? ⟨w5.heap.size, 10, none⟩ = some (.slice none 0 0) := HX7.out.cell (j := 10) rfl
      have y11 : w7.cell? ⟨w5.heap.size, 11, none⟩ = some (.slice none 0 0) := HX7.out.cell (j := 11) rfl
      clear hb7
      go_wp2_with fail
      refine (HVS.out _).mono ?_
      rintro e w8 ⟨rfl, hb8⟩
      have HB8 := hid (below_t HB7.out hb8 HB7.out.size)
      clear hb8
      go_wp2_with fail
      go_ret
      exact ⟨rfl, HB8.out⟩
    | some x =>
      have HZ := hid (HYES.out _ HB4.out x hdc)
      have HS := hid (decR_some hdc)
      clear hdc
      refine HZ.out.mono ?_
      clear HZ
      rintro e w5 ⟨A5, c5, N5, d5, rfl, HR5⟩
      have HB5 := hid (below_t HB4.out HR5.out.2.2.2 HB4.out.size)
      have HB6 := hid (HB5.out.alloc HB5.out.size (.cells (rcells x A5 c5 N5 d5).toArray 112))
      have HC := hid (ranswer_ok x A5 c5 N5 d5 (w5.alloc (.cells (rcells x A5 c5 N5 d5).toArray 112)) (HR5.out.1.alloc _) (Cells.alloc HR5.out.2.2.1 _) HS.out.1)
      obtain ⟨m, hm⟩ : ∃ m, frameL 65 (ansL x) = m := ⟨_, rfl⟩
      rw [hm] at HC
      have hmb : m = b := hm.symm.trans HS.out.2.symm
      rw [hmb] at HC
      obtain ⟨x0, x1, x2, x3, x4, x5, x6, x7, x8, x9, x10, x11⟩ := x
      rw [show rval ⟨x0, x1, x2, x3, x4, x5, x6, x7, x8, x9, x10, x11⟩ A5 c5 N5 d5 = .agg #[.int .i64 x0, .int .i64 x1, .int .i64 x2, .int .i64 x3, .int .i64 x4, .int .i64 x5, .int .i64 x6, .int .i64 x7, .int .i64 x8, .int .i64 x9, .slice A5 x10.length c5, .slice N5 x11.length d5] from rfl]
      clear HR5 hm hmb HS
      go_wp2_with fail
      refine HC.out.mono ?_
      rintro e w7 ⟨rfl, hb7⟩
      have HB7 := hid (below_t HB6.out hb7 HB6.out.size)
      clear hb7
      go_wp2_with fail
      refine (awake17_any _).mono ?_
      rintro e w8 ⟨rfl, hb8⟩
      have HB8 := hid (below_t HB7.out hb8 HB7.out.size)
      have hcv := cv_bytes c (HBB.out w8 HB8.out)
      have hself := rself b
      clear hb8
      go_wp2_with fail
      go_ret
      exact ⟨rfl, HB8.out⟩
end Go.Proofs.Ytppbcdcmpcagdaa
