/- The law VerbAsked returns true at every input. No condition. -/
import Derived.Test.YtppbcdcmpcagdaaVerbK
import Derived.Test.YtppbcdcmpcagdaaVerb9
import Derived.Test.YtppbcdcmpcagdaaVerbS
namespace Go.Proofs.Ytppbcdcmpcagdaa
open Go.RowKit Go.CP

theorem cv_str (s : List UInt8) (w : World) : ∃ cp w2, (convert 9 22 (.string (bstr s))).run Try.prog w = .ok (.slice (some ⟨w.heap.size, 0, none⟩) s.length cp) w2 ∧ Bytes w2 (some ⟨w.heap.size, 0, none⟩) s ∧ s.length ≤ cp ∧ Below w.heap.size w w2 := by
  have hcv := Lib.run_convert_string_bytes (P := Try.prog) w 9 22 5 (bstr s) Try.underlying9 Try.underlying22 Try.underlying5
  rw [bstr_size] at hcv
  refine ⟨_, _, hcv, fun j u hu => ?_, grownCap_ge _ _ _ _, below_bytes w (bstr s)⟩
  rw [List.getElem?_map] at hu
  cases hj : s[j]? with
  | none => rw [hj] at hu; cases hu
  | some x =>
    rw [hj] at hu
    cases hu
    have hlt := (List.getElem?_eq_some_iff.1 hj).1
    refine ⟨_, _, rfl, ?_⟩
    rw [Nat.zero_add, Lib.bytesWorld_cell w 5 (bstr s) j (by rw [bstr_size]; exact hlt)]
    simp [List.getD, hj]
theorem dec_no (B0 : Option Addr) (b : List UInt8) (c : Nat) (w : World) (hb : Bytes w B0 b) (hc : b.length ≤ c) (hl : b.length ≤ 140737488351232) (h : decV b = none) :
    Calls Try.prog 85 #[.slice B0 b.length c] w fun e w' => e = .returned (.tuple #[vval vbZero none 0, .int .i64 2]) ∧ Hid (Below w.heap.size w w') := by
  refine (dec_full B0 b c w hb hc hl).mono ?_
  rintro e w' (⟨v', A, c, h', -⟩ | ⟨h', he, hr⟩)
  · rw [h] at h'; cases h'
  · exact ⟨he, hr⟩
theorem sameV_self (v : Vb) : sameV v v = true := by simp [sameV]
theorem aself (m : List UInt8) : (bstr m == bstr m) = true ∧ (bstr m != bstr m) = false := by
  have h : (bstr m == bstr m) = true := by rw [bstr_eq]; simp
  exact ⟨h, by rw [bne, h]; rfl⟩
set_option maxHeartbeats 4000000 in
set_option maxRecDepth 100000 in
theorem verbAsked_walk (w : World) (v : Vb) (A : Option Addr) (ca : Nat) (B : Option Addr) (b : List UInt8) (c : Nat) (hd : Bytes w A v.data) (hb : Bytes w B b) (hc : b.length ≤ c) (hl : b.length ≤ 140737488351232) :
    Calls Try.prog 23 #[vval v A ca, .slice B b.length c] w fun e w' => e = .returned (.bool true) ∧ Below w.heap.size w w' := by
  have HBB := hid fun W (h : Below w.heap.size w W) => (Cells.below hb h (Nat.le_refl _) : Bytes W B b)
  have HDD := hid fun W (h : Below w.heap.size w W) => (Cells.below hd h (Nat.le_refl _) : Bytes W A v.data)
  have HYES := hid fun W (h : Below w.heap.size w W) x hx => dec_is (v := x) B b c W (HBB.out W h) hc hl hx
  have HNO := hid fun W (h : Below w.heap.size w W) hx => dec_no B b c W (HBB.out W h) hc hl hx
  have HB0 := hid ((Below.refl w.heap.size w).alloc (Nat.le_refl _) (.cells (vcells v A ca).toArray 100))
  have HX0 := hid (Blk.new w 100 (vcells v A ca))
  have HSS := hid fun A' c' W h h' => vsame_any v A' c' v A ca W h h'
  rw [sameV_self] at HSS
  clear hb hd
  cases hg : goodV v with
  | true =>
    have HE := hid (renc_ok v A ca (w.alloc (.cells (vcells v A ca).toArray 100)) (HDD.out _ HB0.out) hg)
    have HFR : Hid (decV (frameL 81 (reqL v)) = some v ∧ (frameL 81 (reqL v)).length ≤ 140737488351232) := hid ⟨decV_frame hg, by rw [frameL_len]; have := reqL_len hg; omega⟩
    obtain ⟨fr, hfr⟩ : ∃ fr, frameL 81 (reqL v) = fr := ⟨_, rfl⟩
    rw [hfr] at HE HFR
    obtain ⟨v', hv'⟩ : ∃ v', v' = v := ⟨_, rfl⟩
    have HDI := hid fun B0 cc W (h1 : Bytes W B0 fr) h2 => dec_is B0 fr cc W h1 h2 HFR.out.2 HFR.out.1
    clear hg hfr hv' v'
    obtain ⟨v0, v1, v2, v3, v4, v5, v6, v7, v8, v9, v10, v11, v12⟩ := v
    rw [show vval ⟨v0, v1, v2, v3, v4, v5, v6, v7, v8, v9, v10, v11, v12⟩ A ca = .agg #[.int .i64 v0, .int .i64 v1, .int .i64 v2, .int .i64 v3, .int .i64 v4, .string (bstr v5), .string (bstr v6), .int .i64 v7, .int .i64 v8, .int .i64 v9, .int .i64 v10, .int .i64 v11, .slice A v12.length ca] from rfl]
    go_enter Try.func23, Try.ntmps23
    go_wp2_with fail
    refine HE.out.mono ?_
    clear HE
    rintro e w1 ⟨rfl, hb1⟩
    have HX1 := hid (HX0.out.below hb1)
    have HB1 := hid (below_t HB0.out hb1 HB0.out.size)
    obtain ⟨cp, w2, hcv, hy2, hcp, hb2⟩ := cv_str fr w1
    have HX2 := hid (HX1.out.below hb2)
    have HB2 := hid (below_t HB1.out hb2 HB1.out.size)
    have HDC := hid (HDI.out _ cp w2 hy2 hcp)
    clear hb1 HX0 HB0 HX1 HB1 HDI HFR hy2 hcp hb2
    go_wp2_with fail
    refine HDC.out.mono ?_
    clear HDC hcv
    rintro e w3 ⟨A3, c3, rfl, HR3⟩
    rw [show vval ⟨v0, v1, v2, v3, v4, v5, v6, v7, v8, v9, v10, v11, v12⟩ A3 c3 = .agg #[.int .i64 v0, .int .i64 v1, .int .i64 v2, .int .i64 v3, .int .i64 v4, .string (bstr v5), .string (bstr v6), .int .i64 v7, .int .i64 v8, .int .i64 v9, .int .i64 v10, .int .i64 v11, .slice A3 v12.length c3] from rfl]
    obtain ⟨w4, hw4⟩ : ∃ w4, w4 = w3.alloc (.cells #[.int .i64 v0, .int .i64 v1, .int .i64 v2, .int .i64 v3, .int .i64 v4, .string (bstr v5), .string (bstr v6), .int .i64 v7, .int .i64 v8, .int .i64 v9, .int .i64 v10, .int .i64 v11, .slice A3 v12.length c3] 100) := ⟨_, rfl⟩
    have HX3 : Hid (Blk w4 w.heap.size 100 (vcells ⟨v0, v1, v2, v3, v4, v5, v6, v7, v8, v9, v10, v11, v12⟩ A ca)) := hid (by rw [hw4]; exact (HX2.out.below HR3.out.2.2).alloc _)
    have HY3 : Hid (Blk w4 w3.heap.size 100 (vcells ⟨v0, v1, v2, v3, v4, v5, v6, v7, v8, v9, v10, v11, v12⟩ A3 c3)) := hid (by rw [hw4]; exact Blk.new w3 100 (vcells ⟨v0, v1, v2, v3, v4, v5, v6, v7, v8, v9, v10, v11, v12⟩ A3 c3))
    have HB3 : Hid (Below w.heap.size w w4) := hid (by rw [hw4]; exact (below_t HB2.out HR3.out.2.2 HB2.out.size).alloc (below_t HB2.out HR3.out.2.2 HB2.out.size).size _)
    have HD3 : Hid (Bytes w4 A3 v12) := hid (by rw [hw4]; exact HR3.out.1.alloc _)
    have HC := hid (HSS.out A3 c3 w4 HD3.out (HDD.out _ HB3.out))
    have HW4 := hid hw4
    clear HX2 HB2 HR3 hw4
    go_upto_region 4 with fail
    rw [← HW4.out]
    clear HW4
    generalize w3.heap.size = k3 at HY3 ⊢
    have x0 : w4.cell? ⟨w.heap.size, 0, none⟩ = some (.int .i64 v0) := HX3.out.cell (j := 0) rfl
    have x1 : w4.cell? ⟨w.heap.size, 1, none⟩ = some (.int .i64 v1) := HX3.out.cell (j := 1) rfl
    have x2 : w4.cell? ⟨w.heap.size, 2, none⟩ = some (.int .i64 v2) := HX3.out.cell (j := 2) rfl
    have x3 : w4.cell? ⟨w.heap.size, 3, none⟩ = some (.int .i64 v3) := HX3.out.cell (j := 3) rfl
    have x4 : w4.cell? ⟨w.heap.size, 4, none⟩ = some (.int .i64 v4) := HX3.out.cell (j := 4) rfl
    have x5 : w4.cell? ⟨w.heap.size, 5, none⟩ = some (.string (bstr v5)) := HX3.out.cell (j := 5) rfl
    have x6 : w4.cell? ⟨w.heap.size, 6, none⟩ = some (.string (bstr v6)) := HX3.out.cell (j := 6) rfl
    have x7 : w4.cell? ⟨w.heap.size, 7, none⟩ = some (.int .i64 v7) := HX3.out.cell (j := 7) rfl
    have x8 : w4.cell? ⟨w.heap.size, 8, none⟩ = some (.int .i64 v8) := HX3.out.cell (j := 8) rfl
    have x9 : w4.cell? ⟨w.heap.size, 9, none⟩ = some (.int .i64 v9) := HX3.out.cell (j := 9) rfl
    have x10 : w4.cell? ⟨w.heap.size, 10, none⟩ = some (.int .i64 v10) := HX3.out.cell (j := 10) rfl
    have x11 : w4.cell? ⟨w.heap.size, 11, none⟩ = some (.int .i64 v11) := HX3.out.cell (j := 11) rfl
    have x12 : w4.cell? ⟨w.heap.size, 12, none⟩ = some (.slice A v12.length ca) := HX3.out.cell (j := 12) rfl
    have y0 : w4.cell? ⟨k3, 0, none⟩ = some (.int .i64 v0) := HY3.out.cell (j := 0) rfl
    have y1 : w4.cell? ⟨k3, 1, none⟩ = some (.int .i64 v1) := HY3.out.cell (j := 1) rfl
    have y2 : w4.cell? ⟨k3, 2, none⟩ = some (.int .i64 v2) := HY3.out.cell (j := 2) rfl
    have y3 : w4.cell? ⟨k3, 3, none⟩ = some (.int .i64 v3) := HY3.out.cell (j := 3) rfl
    have y4 : w4.cell? ⟨k3, 4, none⟩ = some (.int .i64 v4) := HY3.out.cell (j := 4) rfl
    have y5 : w4.cell? ⟨k3, 5, none⟩ = some (.string (bstr v5)) := HY3.out.cell (j := 5) rfl
    have y6 : w4.cell? ⟨k3, 6, none⟩ = some (.string (bstr v6)) := HY3.out.cell (j := 6) rfl
    have y7 : w4.cell? ⟨k3, 7, none⟩ = some (.int .i64 v7) := HY3.out.cell (j := 7) rfl
    have y8 : w4.cell? ⟨k3, 8, none⟩ = some (.int .i64 v8) := HY3.out.cell (j := 8) rfl
    have y9 : w4.cell? ⟨k3, 9, none⟩ = some (.int .i64 v9) := HY3.out.cell (j := 9) rfl
    have y10 : w4.cell? ⟨k3, 10, none⟩ = some (.int .i64 v10) := HY3.out.cell (j := 10) rfl
    have y11 : w4.cell? ⟨k3, 11, none⟩ = some (.int .i64 v11) := HY3.out.cell (j := 11) rfl
    have y12 : w4.cell? ⟨k3, 12, none⟩ = some (.slice A3 v12.length c3) := HY3.out.cell (j := 12) rfl
    go_wp2_with fail
    refine HC.out.mono ?_
    rintro e w9 ⟨rfl, hb9⟩
    have HB4 := hid (below_t HB3.out hb9 HB3.out.size)
    clear hb9 HX3 HY3 HB3 HD3 HC x0 x1 x2 x3 x4 x5 x6 x7 x8 x9 x10 x11 x12 y0 y1 y2 y3 y4 y5 y6 y7 y8 y9 y10 y11 y12
    go_wp2_with fail
    cases hdc : decV b with
    | none =>
      have HZ := hid (HNO.out _ HB4.out hdc)
      clear hdc
      refine HZ.out.mono ?_
      clear HZ
      rintro e w5 ⟨rfl, HR5⟩
      rw [show vval vbZero none 0 = .agg #[.int .i64 0, .int .i64 0, .int .i64 0, .int .i64 0, .int .i64 0, .string ⟨#[]⟩, .string ⟨#[]⟩, .int .i64 0, .int .i64 0, .int .i64 0, .int .i64 0, .int .i64 0, .slice none 0 0] from rfl]
      have HB5 := hid (below_t HB4.out HR5.out HB4.out.size)
      have HB6 := hid (HB5.out.alloc HB5.out.size (.cells #[.int .i64 0, .int .i64 0, .int .i64 0, .int .i64 0, .int .i64 0, .string ⟨#[]⟩, .string ⟨#[]⟩, .int .i64 0, .int .i64 0, .int .i64 0, .int .i64 0, .int .i64 0, .slice none 0 0] 100))
      have HX6 := hid (Blk.new w5 100 (vcells vbZero none 0))
      have HVS := hid fun W => vsame_any vbZero none 0 vbZero none 0 W (Cells.nil _ _) (Cells.nil _ _)
      rw [sameV_self] at HVS
      clear HR5
      go_wp2_with fail
      refine (awake17_any _).mono ?_
      rintro e w7 ⟨rfl, hb7⟩
      have HX7 := hid (HX6.out.below hb7)
      have HB7 := hid (below_t HB6.out hb7 HB6.out.size)
      have y0 : w7.cell? ⟨w5.heap.size, 0, none⟩ = some (.int .i64 0) := HX7.out.cell (j := 0) rfl
      have y1 : w7.cell? ⟨w5.heap.size, 1, none⟩ = some (.int .i64 0) := HX7.out.cell (j := 1) rfl
      have y2 : w7.cell? ⟨w5.heap.size, 2, none⟩ = some (.int .i64 0) := HX7.out.cell (j := 2) rfl
      have y3 : w7.cell? ⟨w5.heap.size, 3, none⟩ = some (.int .i64 0) := HX7.out.cell (j := 3) rfl
      have y4 : w7.cell? ⟨w5.heap.size, 4, none⟩ = some (.int .i64 0) := HX7.out.cell (j := 4) rfl
      have y5 : w7.cell? ⟨w5.heap.size, 5, none⟩ = some (.string ⟨#[]⟩) := HX7.out.cell (j := 5) rfl
      have y6 : w7.cell? ⟨w5.heap.size, 6, none⟩ = some (.string ⟨#[]⟩) := HX7.out.cell (j := 6) rfl
      have y7 : w7.cell? ⟨w5.heap.size, 7, none⟩ = some (.int .i64 0) := HX7.out.cell (j := 7) rfl
      have y8 : w7.cell? ⟨w5.heap.size, 8, none⟩ = some (.int .i64 0) := HX7.out.cell (j := 8) rfl
      have y9 : w7.cell? ⟨w5.heap.size, 9, none⟩ = some (.int .i64 0) := HX7.out.cell (j := 9) rfl
      have y10 : w7.cell? ⟨w5.heap.size, 10, none⟩ = some (.int .i64 0) := HX7.out.cell (j := 10) rfl
      have y11 : w7.cell? ⟨w5.heap.size, 11, none⟩ = some (.int .i64 0) := HX7.out.cell (j := 11) rfl
      have y12 : w7.cell? ⟨w5.heap.size, 12, none⟩ = some (.slice none 0 0) := HX7.out.cell (j := 12) rfl
      clear hb7
      go_wp2_with fail
      refine (HVS.out _).mono ?_
      rintro e w8 ⟨rfl, hb8⟩
      have HB8 := hid (below_t HB7.out hb8 HB7.out.size)
      clear hb8
      go_wp2_with fail
      go_ret
      exact ⟨rfl, HB8.out⟩
    | some x =>
      have HZ := hid (HYES.out _ HB4.out x hdc)
      have HS := hid (decV_some hdc)
      clear hdc
      refine HZ.out.mono ?_
      clear HZ
      rintro e w5 ⟨A5, c5, rfl, HR5⟩
      have HB5 := hid (below_t HB4.out HR5.out.2.2 HB4.out.size)
      have HB6 := hid (HB5.out.alloc HB5.out.size (.cells (vcells x A5 c5).toArray 100))
      have HC := hid (renc_ok x A5 c5 (w5.alloc (.cells (vcells x A5 c5).toArray 100)) (HR5.out.1.alloc _) HS.out.1)
      obtain ⟨m, hm⟩ : ∃ m, frameL 81 (reqL x) = m := ⟨_, rfl⟩
      rw [hm] at HC
      have hmb : m = b := hm.symm.trans HS.out.2.symm
      rw [hmb] at HC
      obtain ⟨x0, x1, x2, x3, x4, x5, x6, x7, x8, x9, x10, x11, x12⟩ := x
      rw [show vval ⟨x0, x1, x2, x3, x4, x5, x6, x7, x8, x9, x10, x11, x12⟩ A5 c5 = .agg #[.int .i64 x0, .int .i64 x1, .int .i64 x2, .int .i64 x3, .int .i64 x4, .string (bstr x5), .string (bstr x6), .int .i64 x7, .int .i64 x8, .int .i64 x9, .int .i64 x10, .int .i64 x11, .slice A5 x12.length c5] from rfl]
      clear HR5 hm hmb HS
      go_wp2_with fail
      refine HC.out.mono ?_
      rintro e w7 ⟨rfl, hb7⟩
      have HB7 := hid (below_t HB6.out hb7 HB6.out.size)
      clear hb7
      go_wp2_with fail
      refine (awake17_any _).mono ?_
      rintro e w8 ⟨rfl, hb8⟩
      have HB8 := hid (below_t HB7.out hb8 HB7.out.size)
      have hcv := cv_bytes c (HBB.out w8 HB8.out)
      have hself := aself b
      clear hb8
      go_wp2_with fail
      go_ret
      exact ⟨rfl, HB8.out⟩
  | false =>
    have HE := hid (renc_err v A ca (w.alloc (.cells (vcells v A ca).toArray 100)) hg)
    clear hg
    obtain ⟨v0, v1, v2, v3, v4, v5, v6, v7, v8, v9, v10, v11, v12⟩ := v
    rw [show vval ⟨v0, v1, v2, v3, v4, v5, v6, v7, v8, v9, v10, v11, v12⟩ A ca = .agg #[.int .i64 v0, .int .i64 v1, .int .i64 v2, .int .i64 v3, .int .i64 v4, .string (bstr v5), .string (bstr v6), .int .i64 v7, .int .i64 v8, .int .i64 v9, .int .i64 v10, .int .i64 v11, .slice A v12.length ca] from rfl]
    go_enter Try.func23, Try.ntmps23
    go_wp2_with fail
    refine HE.out.mono ?_
    clear HE
    rintro e w1 ⟨rfl, hb1⟩
    have HB4 := hid (below_t HB0.out hb1 HB0.out.size)
    clear hb1 HX0 HB0
    go_wp2_with fail
    cases hdc : decV b with
    | none =>
      have HZ := hid (HNO.out _ HB4.out hdc)
      clear hdc
      refine HZ.out.mono ?_
      clear HZ
      rintro e w5 ⟨rfl, HR5⟩
      rw [show vval vbZero none 0 = .agg #[.int .i64 0, .int .i64 0, .int .i64 0, .int .i64 0, .int .i64 0, .string ⟨#[]⟩, .string ⟨#[]⟩, .int .i64 0, .int .i64 0, .int .i64 0, .int .i64 0, .int .i64 0, .slice none 0 0] from rfl]
      have HB5 := hid (below_t HB4.out HR5.out HB4.out.size)
      have HB6 := hid (HB5.out.alloc HB5.out.size (.cells #[.int .i64 0, .int .i64 0, .int .i64 0, .int .i64 0, .int .i64 0, .string ⟨#[]⟩, .string ⟨#[]⟩, .int .i64 0, .int .i64 0, .int .i64 0, .int .i64 0, .int .i64 0, .slice none 0 0] 100))
      have HX6 := hid (Blk.new w5 100 (vcells vbZero none 0))
      have HVS := hid fun W => vsame_any vbZero none 0 vbZero none 0 W (Cells.nil _ _) (Cells.nil _ _)
      rw [sameV_self] at HVS
      clear HR5
      go_wp2_with fail
      refine (awake17_any _).mono ?_
      rintro e w7 ⟨rfl, hb7⟩
      have HX7 := hid (HX6.out.below hb7)
      have HB7 := hid (below_t HB6.out hb7 HB6.out.size)
      have y0 : w7.cell? ⟨w5.heap.size, 0, none⟩ = some (.int .i64 0) := HX7.out.cell (j := 0) rfl
      have y1 : w7.cell? ⟨w5.heap.size, 1, none⟩ = some (.int .i64 0) := HX7.out.cell (j := 1) rfl
      have y2 : w7.cell? ⟨w5.heap.size, 2, none⟩ = some (.int .i64 0) := HX7.out.cell (j := 2) rfl
      have y3 : w7.cell? ⟨w5.heap.size, 3, none⟩ = some (.int .i64 0) := HX7.out.cell (j := 3) rfl
      have y4 : w7.cell? ⟨w5.heap.size, 4, none⟩ = some (.int .i64 0) := HX7.out.cell (j := 4) rfl
      have y5 : w7.cell? ⟨w5.heap.size, 5, none⟩ = some (.string ⟨#[]⟩) := HX7.out.cell (j := 5) rfl
      have y6 : w7.cell? ⟨w5.heap.size, 6, none⟩ = some (.string ⟨#[]⟩) := HX7.out.cell (j := 6) rfl
      have y7 : w7.cell? ⟨w5.heap.size, 7, none⟩ = some (.int .i64 0) := HX7.out.cell (j := 7) rfl
      have y8 : w7.cell? ⟨w5.heap.size, 8, none⟩ = some (.int .i64 0) := HX7.out.cell (j := 8) rfl
      have y9 : w7.cell? ⟨w5.heap.size, 9, none⟩ = some (.int .i64 0) := HX7.out.cell (j := 9) rfl
      have y10 : w7.cell? ⟨w5.heap.size, 10, none⟩ = some (.int .i64 0) := HX7.out.cell (j := 10) rfl
      have y11 : w7.cell? ⟨w5.heap.size, 11, none⟩ = some (.int .i64 0) := HX7.out.cell (j := 11) rfl
      have y12 : w7.cell? ⟨w5.heap.size, 12, none⟩ = some (.slice none 0 0) := HX7.out.cell (j := 12) rfl
      clear hb7
      go_wp2_with fail
      refine (HVS.out _).mono ?_
      rintro e w8 ⟨rfl, hb8⟩
      have HB8 := hid (below_t HB7.out hb8 HB7.out.size)
      clear hb8
      go_wp2_with fail
      go_ret
      exact ⟨rfl, HB8.out⟩
    | some x =>
      have HZ := hid (HYES.out _ HB4.out x hdc)
      have HS := hid (decV_some hdc)
      clear hdc
      refine HZ.out.mono ?_
      clear HZ
      rintro e w5 ⟨A5, c5, rfl, HR5⟩
      have HB5 := hid (below_t HB4.out HR5.out.2.2 HB4.out.size)
      have HB6 := hid (HB5.out.alloc HB5.out.size (.cells (vcells x A5 c5).toArray 100))
      have HC := hid (renc_ok x A5 c5 (w5.alloc (.cells (vcells x A5 c5).toArray 100)) (HR5.out.1.alloc _) HS.out.1)
      obtain ⟨m, hm⟩ : ∃ m, frameL 81 (reqL x) = m := ⟨_, rfl⟩
      rw [hm] at HC
      have hmb : m = b := hm.symm.trans HS.out.2.symm
      rw [hmb] at HC
      obtain ⟨x0, x1, x2, x3, x4, x5, x6, x7, x8, x9, x10, x11, x12⟩ := x
      rw [show vval ⟨x0, x1, x2, x3, x4, x5, x6, x7, x8, x9, x10, x11, x12⟩ A5 c5 = .agg #[.int .i64 x0, .int .i64 x1, .int .i64 x2, .int .i64 x3, .int .i64 x4, .string (bstr x5), .string (bstr x6), .int .i64 x7, .int .i64 x8, .int .i64 x9, .int .i64 x10, .int .i64 x11, .slice A5 x12.length c5] from rfl]
      clear HR5 hm hmb HS
      go_wp2_with fail
      refine HC.out.mono ?_
      rintro e w7 ⟨rfl, hb7⟩
      have HB7 := hid (below_t HB6.out hb7 HB6.out.size)
      clear hb7
      go_wp2_with fail
      refine (awake17_any _).mono ?_
      rintro e w8 ⟨rfl, hb8⟩
      have HB8 := hid (below_t HB7.out hb8 HB7.out.size)
      have hcv := cv_bytes c (HBB.out w8 HB8.out)
      have hself := aself b
      clear hb8
      go_wp2_with fail
      go_ret
      exact ⟨rfl, HB8.out⟩
end Go.Proofs.Ytppbcdcmpcagdaa
