/- The law VerbAsks returns true at every input. No condition. -/
import Derived.Test.YtppbcdcmpcagdaaVerbK
import Derived.Test.YtppbcdcmpcagdaaVerb9
import Derived.Deep.RegionHeld3
namespace Go.Proofs.Ytppbcdcmpcagdaa
open Go.RowKit Go.CP

theorem kself (m : List UInt8) : (bstr m == bstr m) = true ∧ (bstr m != bstr m) = false := by
  have h : (bstr m == bstr m) = true := by rw [bstr_eq]; simp
  exact ⟨h, by rw [bne, h]; rfl⟩
theorem changes_not {n : Int} (h : ¬ (n = 3 ∨ n = 4 ∨ n = 5 ∨ n = 6 ∨ n = 7 ∨ n = 8 ∨ n = 11 ∨ n = 12)) : changesB n = false := by
  rw [changesB, Bool.eq_false_iff]
  intro hc
  exact h (by simpa [chL] using hc)
set_option maxHeartbeats 4000000 in
set_option maxRecDepth 100000 in
theorem verbAsks_walk (w : World) (v : Vb) (A : Option Addr) (ca : Nat) (n : Int) (hd : Bytes w A v.data) (_ : -9223372036854775808 ≤ n ∧ n < 9223372036854775808) :
    Calls Try.prog 22 #[vval v A ca, .int .i64 n] w fun e w' => e = .returned (.bool true) ∧ Below w.heap.size w w' := by
  have HDD := hid fun W (h : Below w.heap.size w W) => (Cells.below hd h (Nat.le_refl _) : Bytes W A v.data)
  have HB0 := hid ((Below.refl w.heap.size w).alloc (Nat.le_refl _) (.cells (vcells v A ca).toArray 100))
  have HX0 := hid (Blk.new w 100 (vcells v A ca))
  have hvg := fun W => vgood_any v A ca W
  have hrg := fun W => rvgood_any v A ca W
  have HCH := hid fun W => changes_any n W
  have hcn : ∃ p, changesB n = p ∧ ((n = 3 ∧ p = true) ∨ (n = 4 ∧ p = true) ∨ (n = 5 ∧ p = true) ∨ (n = 6 ∧ p = true) ∨ (n = 7 ∧ p = true) ∨ (n = 8 ∧ p = true) ∨ (n = 11 ∧ p = true) ∨ (n = 12 ∧ p = true) ∨ ((n == 3) = false ∧ (n == 4) = false ∧ (n == 5) = false ∧ (n == 6) = false ∧ (n == 7) = false ∧ (n == 8) = false ∧ (n == 11) = false ∧ (n == 12) = false ∧ p = false)) := by
    by_cases h : (n = 3 ∨ n = 4 ∨ n = 5 ∨ n = 6 ∨ n = 7 ∨ n = 8 ∨ n = 11 ∨ n = 12)
    · refine ⟨true, ?_, ?_⟩
      · rcases h with rfl | rfl | rfl | rfl | rfl | rfl | rfl | rfl <;> decide
      · rcases h with rfl | rfl | rfl | rfl | rfl | rfl | rfl | rfl <;> simp
    · refine ⟨false, changes_not h, ?_⟩
      simp only [not_or] at h
      simp [h]
  obtain ⟨p, hp, hcases⟩ := hcn
  rw [hp] at HCH
  have HCA := hid hcases
  clear hd hp hcases
  have key : ∃ (q : Bool) (m : List UInt8) (x : Int), goodV v = q ∧ (∀ W, Bytes W A v.data → Calls Try.prog 79 #[vval v A ca] W fun e w' => ∃ A1 c1, e = .returned (.tuple #[.slice A1 m.length c1, .int .i64 x]) ∧ Hid (Bytes w' A1 m ∧ Below W.heap.size W w')) ∧ (∀ W, Bytes W A v.data → Calls Try.prog 80 #[vval v A ca] W fun e w' => e = .returned (.tuple #[.string (bstr m), .int .i64 x]) ∧ Below W.heap.size W w') := by
    cases hg : goodV v with
    | true =>
      refine ⟨true, frameL 81 (reqL v), 0, rfl, fun W h => (enc_ok v A ca W h hg).mono ?_, fun W h => renc_ok v A ca W h hg⟩
      rintro e w' ⟨A1, c1, m1, rfl, hr⟩
      have hm := hr.out.1
      subst hm
      exact ⟨A1, c1, rfl, hid ⟨hr.out.2.1.cells, hr.out.2.2⟩⟩
    | false =>
      refine ⟨false, [], 2, rfl, fun W h => (enc_err v A ca W hg).mono ?_, fun W h => renc_err v A ca W hg⟩
      rintro e w' ⟨rfl, hr⟩
      exact ⟨none, 0, rfl, hid ⟨Cells.nil _ _, hr⟩⟩
  obtain ⟨q, m, x, hq, hk1, hk2⟩ := key
  rw [hq] at hvg hrg
  have HVG := hid hvg
  have HRG := hid hrg
  have HK1 := hid hk1
  have HK2 := hid hk2
  clear hvg hrg hk1 hk2 hq
  obtain ⟨v0, v1, v2, v3, v4, v5, v6, v7, v8, v9, v10, v11, v12⟩ := v
  rw [show vval ⟨v0, v1, v2, v3, v4, v5, v6, v7, v8, v9, v10, v11, v12⟩ A ca = .agg #[.int .i64 v0, .int .i64 v1, .int .i64 v2, .int .i64 v3, .int .i64 v4, .string (bstr v5), .string (bstr v6), .int .i64 v7, .int .i64 v8, .int .i64 v9, .int .i64 v10, .int .i64 v11, .slice A v12.length ca] from rfl]
  go_enter Try.func22, Try.ntmps22
  go_wp2_with fail
  refine (HK1.out _ (HDD.out _ HB0.out)).mono ?_
  clear HK1
  rintro e w1 ⟨A1, c1, rfl, HR1⟩
  have HX1 := hid (HX0.out.below HR1.out.2)
  have HB1 := hid (below_t HB0.out HR1.out.2 HB0.out.size)
  have x0 : w1.cell? ⟨w.heap.size, 0, none⟩ = some (.int .i64 v0) := HX1.out.cell (j := 0) rfl
  have x1 : w1.cell? ⟨w.heap.size, 1, none⟩ = some (.int .i64 v1) := HX1.out.cell (j := 1) rfl
  have x2 : w1.cell? ⟨w.heap.size, 2, none⟩ = some (.int .i64 v2) := HX1.out.cell (j := 2) rfl
  have x3 : w1.cell? ⟨w.heap.size, 3, none⟩ = some (.int .i64 v3) := HX1.out.cell (j := 3) rfl
  have x4 : w1.cell? ⟨w.heap.size, 4, none⟩ = some (.int .i64 v4) := HX1.out.cell (j := 4) rfl
  have x5 : w1.cell? ⟨w.heap.size, 5, none⟩ = some (.string (bstr v5)) := HX1.out.cell (j := 5) rfl
  have x6 : w1.cell? ⟨w.heap.size, 6, none⟩ = some (.string (bstr v6)) := HX1.out.cell (j := 6) rfl
  have x7 : w1.cell? ⟨w.heap.size, 7, none⟩ = some (.int .i64 v7) := HX1.out.cell (j := 7) rfl
  have x8 : w1.cell? ⟨w.heap.size, 8, none⟩ = some (.int .i64 v8) := HX1.out.cell (j := 8) rfl
  have x9 : w1.cell? ⟨w.heap.size, 9, none⟩ = some (.int .i64 v9) := HX1.out.cell (j := 9) rfl
  have x10 : w1.cell? ⟨w.heap.size, 10, none⟩ = some (.int .i64 v10) := HX1.out.cell (j := 10) rfl
  have x11 : w1.cell? ⟨w.heap.size, 11, none⟩ = some (.int .i64 v11) := HX1.out.cell (j := 11) rfl
  have x12 : w1.cell? ⟨w.heap.size, 12, none⟩ = some (.slice A v12.length ca) := HX1.out.cell (j := 12) rfl
  go_wp2_with fail
  refine (HK2.out _ (HDD.out _ HB1.out)).mono ?_
  clear HK2
  rintro e w2 ⟨rfl, hb2⟩
  have HX2 := hid (HX1.out.below hb2)
  have HB2 := hid (below_t HB1.out hb2 HB1.out.size)
  have HM2 := hid (Cells.below HR1.out.1 hb2 (Nat.le_refl _) : Bytes w2 A1 m)
  have hself := kself m
  clear hb2 HX1 HB1 HR1 HX0 HB0 x0 x1 x2 x3 x4 x5 x6 x7 x8 x9 x10 x11 x12
  have hcv := fun Wc (hW : Below w2.heap.size w2 Wc) => cv_bytes c1 (Cells.below HM2.out hW (Nat.le_refl _) : Bytes Wc A1 m)
  have HS2 : Hid (∀ Wc, Below w2.heap.size w2 Wc → (Wc.cell? ⟨w.heap.size, 0, none⟩ = some (.int .i64 v0) ∧ Wc.cell? ⟨w.heap.size, 1, none⟩ = some (.int .i64 v1) ∧ Wc.cell? ⟨w.heap.size, 2, none⟩ = some (.int .i64 v2) ∧ Wc.cell? ⟨w.heap.size, 3, none⟩ = some (.int .i64 v3) ∧ Wc.cell? ⟨w.heap.size, 4, none⟩ = some (.int .i64 v4) ∧ Wc.cell? ⟨w.heap.size, 5, none⟩ = some (.string (bstr v5)) ∧ Wc.cell? ⟨w.heap.size, 6, none⟩ = some (.string (bstr v6)) ∧ Wc.cell? ⟨w.heap.size, 7, none⟩ = some (.int .i64 v7) ∧ Wc.cell? ⟨w.heap.size, 8, none⟩ = some (.int .i64 v8) ∧ Wc.cell? ⟨w.heap.size, 9, none⟩ = some (.int .i64 v9) ∧ Wc.cell? ⟨w.heap.size, 10, none⟩ = some (.int .i64 v10) ∧ Wc.cell? ⟨w.heap.size, 11, none⟩ = some (.int .i64 v11) ∧ Wc.cell? ⟨w.heap.size, 12, none⟩ = some (.slice A v12.length ca)) ∧ Below w2.heap.size w2 Wc ∧ (convert 22 9 (.slice A1 m.length c1)).run Try.prog Wc = .ok (.string (bstr m)) Wc) := hid fun Wc h => ⟨by
    have hx := HX2.out.below h
    exact ⟨hx.cell (j := 0) rfl, hx.cell (j := 1) rfl, hx.cell (j := 2) rfl, hx.cell (j := 3) rfl, hx.cell (j := 4) rfl, hx.cell (j := 5) rfl, hx.cell (j := 6) rfl, hx.cell (j := 7) rfl, hx.cell (j := 8) rfl, hx.cell (j := 9) rfl, hx.cell (j := 10) rfl, hx.cell (j := 11) rfl, hx.cell (j := 12) rfl⟩, h, hcv Wc h⟩
  clear hcv
  rcases HCA.out with ⟨rfl, rfl⟩ | ⟨rfl, rfl⟩ | ⟨rfl, rfl⟩ | ⟨rfl, rfl⟩ | ⟨rfl, rfl⟩ | ⟨rfl, rfl⟩ | ⟨rfl, rfl⟩ | ⟨rfl, rfl⟩ | ⟨h1, h2, h3, h4, h5, h6, h7, h8, rfl⟩
  all_goals
    go_upto_region 4 with fail
    go_region_held3 (fun Wc => (Wc.cell? ⟨w.heap.size, 0, none⟩ = some (.int .i64 v0) ∧ Wc.cell? ⟨w.heap.size, 1, none⟩ = some (.int .i64 v1) ∧ Wc.cell? ⟨w.heap.size, 2, none⟩ = some (.int .i64 v2) ∧ Wc.cell? ⟨w.heap.size, 3, none⟩ = some (.int .i64 v3) ∧ Wc.cell? ⟨w.heap.size, 4, none⟩ = some (.int .i64 v4) ∧ Wc.cell? ⟨w.heap.size, 5, none⟩ = some (.string (bstr v5)) ∧ Wc.cell? ⟨w.heap.size, 6, none⟩ = some (.string (bstr v6)) ∧ Wc.cell? ⟨w.heap.size, 7, none⟩ = some (.int .i64 v7) ∧ Wc.cell? ⟨w.heap.size, 8, none⟩ = some (.int .i64 v8) ∧ Wc.cell? ⟨w.heap.size, 9, none⟩ = some (.int .i64 v9) ∧ Wc.cell? ⟨w.heap.size, 10, none⟩ = some (.int .i64 v10) ∧ Wc.cell? ⟨w.heap.size, 11, none⟩ = some (.int .i64 v11) ∧ Wc.cell? ⟨w.heap.size, 12, none⟩ = some (.slice A v12.length ca)) ∧ Below w2.heap.size w2 Wc ∧ (convert 22 9 (.slice A1 m.length c1)).run Try.prog Wc = .ok (.string (bstr m)) Wc)
      (first | exact HS2.out _ (Below.refl _ _) | exact HS2.out _ (Below.drew (Below.refl _ _)) | exact HS2.out _ hk6 | exact HS2.out _ hk5 | exact HS2.out _ hk4 | exact HS2.out _ hk3 | assumption)
      (first
        | (go_at_call 81; refine (awake17_any _).mono ?_; rintro e w3 ⟨rfl, hb3⟩; have hk3 : Below w2.heap.size w2 w3 := below_t (by first | exact Below.refl _ _ | exact Below.drew (Below.refl _ _)) hb3 (by simp))
        | (go_at_call 82; refine (HVG.out _).mono ?_; rintro e w4 ⟨rfl, hb4⟩; have hk4 := below_t hk3 hb4 hk3.size)
        | (go_at_call 83; refine (HRG.out _).mono ?_; rintro e w5 ⟨rfl, hb5⟩; have hk5 := below_t hk4 hb5 hk4.size)
        | (go_at_call 84; refine (HCH.out _).mono ?_; rintro e w6 ⟨rfl, hb6⟩; have hk6 := below_t hk5 hb6 hk5.size)
        | fail "arm")
    go_wp2
    go_ret
    exact ⟨by simp, below_t HB2.out hk6 HB2.out.size⟩
end Go.Proofs.Ytppbcdcmpcagdaa
