/- The law VerbShorts returns true at every input. No condition. -/
import Derived.Test.YtppbcdcmpcagdaaVerbK
import Derived.Test.YtppbcdcmpcagdaaVerbV
import Derived.Test.YtppbcdcmpcagdaaVerbW
namespace Go.Proofs.Ytppbcdcmpcagdaa
open Go.RowKit Go.CP

theorem long_is {r : Rp} (B0 : Option Addr) (b : List UInt8) (c : Nat) (w : World) (hb : Bytes w B0 b) (hl : b.length ≤ 140737488351232) (h : longR b = some r) :
    Calls Try.prog 97 #[.slice B0 b.length c] w fun e w' => r.data = [] ∧ r.names = [] ∧ e = .returned (.tuple #[rval r none 0 none 0, .int .i64 0]) ∧ Hid (Below w.heap.size w w') := by
  refine (long_full B0 b c w hb hl).mono ?_
  rintro e w' (⟨r', h', h1, h2, he, hr⟩ | ⟨h', -⟩)
  · cases h.symm.trans h'
    exact ⟨h1, h2, he, hr⟩
  · rw [h] at h'; cases h'
theorem long_no (B0 : Option Addr) (b : List UInt8) (c : Nat) (w : World) (hb : Bytes w B0 b) (hl : b.length ≤ 140737488351232) (h : longR b = none) :
    Calls Try.prog 97 #[.slice B0 b.length c] w fun e w' => e = .returned (.tuple #[.agg #[.int .i64 0, .int .i64 0, .int .i64 0, .int .i64 0, .int .i64 0, .int .i64 0, .int .i64 0, .int .i64 0, .int .i64 0, .int .i64 0, .slice none 0 0, .slice none 0 0], .int .i64 2]) ∧ Hid (Below w.heap.size w w') := by
  refine (long_full B0 b c w hb hl).mono ?_
  rintro e w' (⟨r', h', -⟩ | ⟨h', he, hr⟩)
  · rw [h] at h'; cases h'
  · exact ⟨he, hr⟩
set_option maxHeartbeats 8000000 in
set_option maxRecDepth 100000 in
theorem verbShorts_walk (w : World) (r : Rp) (A : Option Addr) (ca : Nat) (N : Option Addr) (cn : Nat) (B : Option Addr) (b : List UInt8) (c : Nat) (_ : Bytes w A r.data) (hn : Strs w N r.names) (hb : Bytes w B b) (_ : b.length ≤ c) (hl : b.length ≤ 140737488351232) :
    Calls Try.prog 28 #[rval r A ca N cn, .slice B b.length c] w fun e w' => e = .returned (.bool true) ∧ Below w.heap.size w w' := by
  have HBB := hid fun W (h : Below w.heap.size w W) => (Cells.below hb h (Nat.le_refl _) : Bytes W B b)
  have HNN := hid fun W (h : Below w.heap.size w W) => (Cells.below hn h (Nat.le_refl _) : Strs W N r.names)
  have HYES := hid fun W (h : Below w.heap.size w W) x hx => long_is (r := x) B b c W (HBB.out W h) hl hx
  have HNO := hid fun W (h : Below w.heap.size w W) hx => long_no B b c W (HBB.out W h) hl hx
  have HB0 := hid ((Below.refl w.heap.size w).alloc (Nat.le_refl _) (.cells (rcells r A ca N cn).toArray 112))
  have HX0 := hid (Blk.new w 112 (rcells r A ca N cn))
  have HC1 := hid (short_any r A ca N cn (w.alloc (.cells (rcells r A ca N cn).toArray 112)) (HNN.out _ HB0.out))
  have HC2 := hid fun W (h : Below w.heap.size w W) => rshort_any r A ca N cn W (HNN.out _ h)
  have hc3 := fun W (h : Below w.heap.size w W) => rright_any r A ca N cn W (HNN.out _ h)
  clear hb hn
  have HGS : Hid (goodR r = true → longR (shortL r) = some r.bare ∧ (shortL r).length ≤ 140737488351232) := hid fun h => ⟨longR_short h, by rw [shortL, if_pos h, numsL_len]; simp [Rp.stat]⟩
  obtain ⟨sh, hsh⟩ : ∃ sh, shortL r = sh := ⟨_, rfl⟩
  rw [hsh] at HC1 HC2 HGS
  obtain ⟨gr, hgr⟩ : ∃ gr, goodR r = gr := ⟨_, rfl⟩
  rw [hgr] at hc3 HGS
  have HC3 := hid hc3
  clear hsh hgr hc3
  obtain ⟨r0, r1, r2, r3, r4, r5, r6, r7, r8, r9, r10, r11⟩ := r
  rw [show rval ⟨r0, r1, r2, r3, r4, r5, r6, r7, r8, r9, r10, r11⟩ A ca N cn = .agg #[.int .i64 r0, .int .i64 r1, .int .i64 r2, .int .i64 r3, .int .i64 r4, .int .i64 r5, .int .i64 r6, .int .i64 r7, .int .i64 r8, .int .i64 r9, .slice A r10.length ca, .slice N r11.length cn] from rfl] at HC1 HC2 HC3 ⊢
  go_enter Try.func28, Try.ntmps28
  go_wp2_with fail
  refine HC1.out.mono ?_
  clear HC1
  rintro e w1 ⟨A1, c1, m1, rfl, HR1⟩
  obtain rfl : m1 = sh := HR1.out.1
  have HX1 := hid (HX0.out.below HR1.out.2.2)
  have HB1 := hid (below_t HB0.out HR1.out.2.2 HB0.out.size)
  have HY1 := hid HR1.out.2.1.cells
  clear HR1 HX0 HB0
  have HSR : Hid (∀ W, Below w1.heap.size w1 W → W.cell? ⟨w.heap.size, 0, none⟩ = some (.int .i64 r0) ∧ W.cell? ⟨w.heap.size, 1, none⟩ = some (.int .i64 r1) ∧ W.cell? ⟨w.heap.size, 2, none⟩ = some (.int .i64 r2) ∧ W.cell? ⟨w.heap.size, 3, none⟩ = some (.int .i64 r3) ∧ W.cell? ⟨w.heap.size, 4, none⟩ = some (.int .i64 r4) ∧ W.cell? ⟨w.heap.size, 5, none⟩ = some (.int .i64 r5) ∧ W.cell? ⟨w.heap.size, 6, none⟩ = some (.int .i64 r6) ∧ W.cell? ⟨w.heap.size, 7, none⟩ = some (.int .i64 r7) ∧ W.cell? ⟨w.heap.size, 8, none⟩ = some (.int .i64 r8) ∧ W.cell? ⟨w.heap.size, 9, none⟩ = some (.int .i64 r9) ∧ W.cell? ⟨w.heap.size, 10, none⟩ = some (.slice A r10.length ca) ∧ W.cell? ⟨w.heap.size, 11, none⟩ = some (.slice N r11.length cn) ∧ Below w1.heap.size w1 W) := hid fun W h => by
    have hx := HX1.out.below h
    exact ⟨hx.cell (j := 0) rfl, hx.cell (j := 1) rfl, hx.cell (j := 2) rfl, hx.cell (j := 3) rfl, hx.cell (j := 4) rfl, hx.cell (j := 5) rfl, hx.cell (j := 6) rfl, hx.cell (j := 7) rfl, hx.cell (j := 8) rfl, hx.cell (j := 9) rfl, hx.cell (j := 10) rfl, hx.cell (j := 11) rfl, h⟩
  have hcv := fun W (hW : W.cell? ⟨w.heap.size, 0, none⟩ = some (.int .i64 r0) ∧ W.cell? ⟨w.heap.size, 1, none⟩ = some (.int .i64 r1) ∧ W.cell? ⟨w.heap.size, 2, none⟩ = some (.int .i64 r2) ∧ W.cell? ⟨w.heap.size, 3, none⟩ = some (.int .i64 r3) ∧ W.cell? ⟨w.heap.size, 4, none⟩ = some (.int .i64 r4) ∧ W.cell? ⟨w.heap.size, 5, none⟩ = some (.int .i64 r5) ∧ W.cell? ⟨w.heap.size, 6, none⟩ = some (.int .i64 r6) ∧ W.cell? ⟨w.heap.size, 7, none⟩ = some (.int .i64 r7) ∧ W.cell? ⟨w.heap.size, 8, none⟩ = some (.int .i64 r8) ∧ W.cell? ⟨w.heap.size, 9, none⟩ = some (.int .i64 r9) ∧ W.cell? ⟨w.heap.size, 10, none⟩ = some (.slice A r10.length ca) ∧ W.cell? ⟨w.heap.size, 11, none⟩ = some (.slice N r11.length cn) ∧ Below w1.heap.size w1 W) => cv_bytes c1 (Cells.below HY1.out hW.2.2.2.2.2.2.2.2.2.2.2.2 (Nat.le_refl _) : Bytes W A1 m1)
  have hself := rself m1
  go_upto_region 2 with fail
  go_region_held3 (fun W => W.cell? ⟨w.heap.size, 0, none⟩ = some (.int .i64 r0) ∧ W.cell? ⟨w.heap.size, 1, none⟩ = some (.int .i64 r1) ∧ W.cell? ⟨w.heap.size, 2, none⟩ = some (.int .i64 r2) ∧ W.cell? ⟨w.heap.size, 3, none⟩ = some (.int .i64 r3) ∧ W.cell? ⟨w.heap.size, 4, none⟩ = some (.int .i64 r4) ∧ W.cell? ⟨w.heap.size, 5, none⟩ = some (.int .i64 r5) ∧ W.cell? ⟨w.heap.size, 6, none⟩ = some (.int .i64 r6) ∧ W.cell? ⟨w.heap.size, 7, none⟩ = some (.int .i64 r7) ∧ W.cell? ⟨w.heap.size, 8, none⟩ = some (.int .i64 r8) ∧ W.cell? ⟨w.heap.size, 9, none⟩ = some (.int .i64 r9) ∧ W.cell? ⟨w.heap.size, 10, none⟩ = some (.slice A r10.length ca) ∧ W.cell? ⟨w.heap.size, 11, none⟩ = some (.slice N r11.length cn) ∧ Below w1.heap.size w1 W)
    (first | exact HSR.out _ (Below.refl _ _) | exact HSR.out _ (Below.drew (Below.refl _ _)) | exact HSR.out _ hk2 | assumption)
    (first
      | (go_at_call 95; refine (HC2.out _ (below_t HB1.out (by first | exact Below.refl _ _ | exact Below.drew (Below.refl _ _)) HB1.out.size)).mono ?_; rintro e w2 ⟨rfl, hb2⟩; have hk2 : Below w1.heap.size w1 w2 := below_t (by first | exact Below.refl _ _ | exact Below.drew (Below.refl _ _)) hb2 (by simp))
      | fail "arm")
  have HX2 := hid (HX1.out.below hk2)
  have HB2 := hid (below_t HB1.out hk2 HB1.out.size)
  have HY2 := hid (Cells.below HY1.out hk2 (Nat.le_refl _))
  clear hb2 hk2 hcv HSR HC2 HX1 HB1 HY1
  have x0 : w2.cell? ⟨w.heap.size, 0, none⟩ = some (.int .i64 r0) := HX2.out.cell (j := 0) rfl
  have x1 : w2.cell? ⟨w.heap.size, 1, none⟩ = some (.int .i64 r1) := HX2.out.cell (j := 1) rfl
  have x2 : w2.cell? ⟨w.heap.size, 2, none⟩ = some (.int .i64 r2) := HX2.out.cell (j := 2) rfl
  have x3 : w2.cell? ⟨w.heap.size, 3, none⟩ = some (.int .i64 r3) := HX2.out.cell (j := 3) rfl
  have x4 : w2.cell? ⟨w.heap.size, 4, none⟩ = some (.int .i64 r4) := HX2.out.cell (j := 4) rfl
  have x5 : w2.cell? ⟨w.heap.size, 5, none⟩ = some (.int .i64 r5) := HX2.out.cell (j := 5) rfl
  have x6 : w2.cell? ⟨w.heap.size, 6, none⟩ = some (.int .i64 r6) := HX2.out.cell (j := 6) rfl
  have x7 : w2.cell? ⟨w.heap.size, 7, none⟩ = some (.int .i64 r7) := HX2.out.cell (j := 7) rfl
  have x8 : w2.cell? ⟨w.heap.size, 8, none⟩ = some (.int .i64 r8) := HX2.out.cell (j := 8) rfl
  have x9 : w2.cell? ⟨w.heap.size, 9, none⟩ = some (.int .i64 r9) := HX2.out.cell (j := 9) rfl
  have x10 : w2.cell? ⟨w.heap.size, 10, none⟩ = some (.slice A r10.length ca) := HX2.out.cell (j := 10) rfl
  have x11 : w2.cell? ⟨w.heap.size, 11, none⟩ = some (.slice N r11.length cn) := HX2.out.cell (j := 11) rfl
  go_wp2_with fail
  refine (HC3.out _ HB2.out).mono ?_
  clear HC3
  rintro e w3 ⟨rfl, hb3⟩
  have HX3 := hid (HX2.out.below hb3)
  have HB3 := hid (below_t HB2.out hb3 HB2.out.size)
  have HY3 := hid (Cells.below HY2.out hb3 (Nat.le_refl _))
  clear hb3 HX2 HB2 HY2 hself x0 x1 x2 x3 x4 x5 x6 x7 x8 x9 x10 x11
  cases gr with
  | true =>
    have HLI := hid (long_is A1 m1 c1 w3 HY3.out (HGS.out rfl).2 (HGS.out rfl).1)
    rw [show rval (Rp.bare ⟨r0, r1, r2, r3, r4, r5, r6, r7, r8, r9, r10, r11⟩) none 0 none 0 = .agg #[.int .i64 0, .int .i64 0, .int .i64 0, .int .i64 r3, .int .i64 r4, .int .i64 r5, .int .i64 r6, .int .i64 r7, .int .i64 r8, .int .i64 r9, .slice none 0 0, .slice none 0 0] from rfl] at HLI
    have HSS := hid fun W => alike_same (Rp.bare ⟨r0, r1, r2, r3, r4, r5, r6, r7, r8, r9, r10, r11⟩) none 0 none 0 none 0 none 0 W (Cells.nil _ _) (Cells.nil _ _) (Cells.nil _ _) (Cells.nil _ _) (by simp [Rp.bare])
    rw [show rval (Rp.bare ⟨r0, r1, r2, r3, r4, r5, r6, r7, r8, r9, r10, r11⟩) none 0 none 0 = .agg #[.int .i64 0, .int .i64 0, .int .i64 0, .int .i64 r3, .int .i64 r4, .int .i64 r5, .int .i64 r6, .int .i64 r7, .int .i64 r8, .int .i64 r9, .slice none 0 0, .slice none 0 0] from rfl] at HSS
    go_wp2_with fail
    refine HLI.out.mono ?_
    clear HLI
    rintro e w4 ⟨-, -, rfl, HR4⟩
    obtain ⟨w5, hw5⟩ : ∃ w5, w5 = w4.alloc (.cells #[.int .i64 0, .int .i64 0, .int .i64 0, .int .i64 r3, .int .i64 r4, .int .i64 r5, .int .i64 r6, .int .i64 r7, .int .i64 r8, .int .i64 r9, .slice none 0 0, .slice none 0 0] 112) := ⟨_, rfl⟩
    have HX5 : Hid (Blk w5 w.heap.size 112 [.int .i64 r0, .int .i64 r1, .int .i64 r2, .int .i64 r3, .int .i64 r4, .int .i64 r5, .int .i64 r6, .int .i64 r7, .int .i64 r8, .int .i64 r9, .slice A r10.length ca, .slice N r11.length cn]) := hid (by rw [hw5]; exact (HX3.out.below HR4.out).alloc _)
    have HY5 : Hid (Blk w5 w4.heap.size 112 [.int .i64 0, .int .i64 0, .int .i64 0, .int .i64 r3, .int .i64 r4, .int .i64 r5, .int .i64 r6, .int .i64 r7, .int .i64 r8, .int .i64 r9, .slice none 0 0, .slice none 0 0]) := hid (by rw [hw5]; exact Blk.new w4 112 _)
    have HB5 : Hid (Below w.heap.size w w5) := hid (by rw [hw5]; have := below_t HB3.out HR4.out HB3.out.size; exact this.alloc this.size _)
    have HW5 := hid hw5
    clear HX3 HB3 HR4 hw5 HGS HY3
    go_upto_region 6 with fail
    rw [← HW5.out]
    clear HW5
    generalize w4.heap.size = k4 at HY5 ⊢
    have x0 : w5.cell? ⟨w.heap.size, 0, none⟩ = some (.int .i64 r0) := HX5.out.cell (j := 0) rfl
    have x1 : w5.cell? ⟨w.heap.size, 1, none⟩ = some (.int .i64 r1) := HX5.out.cell (j := 1) rfl
    have x2 : w5.cell? ⟨w.heap.size, 2, none⟩ = some (.int .i64 r2) := HX5.out.cell (j := 2) rfl
    have x3 : w5.cell? ⟨w.heap.size, 3, none⟩ = some (.int .i64 r3) := HX5.out.cell (j := 3) rfl
    have x4 : w5.cell? ⟨w.heap.size, 4, none⟩ = some (.int .i64 r4) := HX5.out.cell (j := 4) rfl
    have x5 : w5.cell? ⟨w.heap.size, 5, none⟩ = some (.int .i64 r5) := HX5.out.cell (j := 5) rfl
    have x6 : w5.cell? ⟨w.heap.size, 6, none⟩ = some (.int .i64 r6) := HX5.out.cell (j := 6) rfl
    have x7 : w5.cell? ⟨w.heap.size, 7, none⟩ = some (.int .i64 r7) := HX5.out.cell (j := 7) rfl
    have x8 : w5.cell? ⟨w.heap.size, 8, none⟩ = some (.int .i64 r8) := HX5.out.cell (j := 8) rfl
    have x9 : w5.cell? ⟨w.heap.size, 9, none⟩ = some (.int .i64 r9) := HX5.out.cell (j := 9) rfl
    have x10 : w5.cell? ⟨w.heap.size, 10, none⟩ = some (.slice A r10.length ca) := HX5.out.cell (j := 10) rfl
    have x11 : w5.cell? ⟨w.heap.size, 11, none⟩ = some (.slice N r11.length cn) := HX5.out.cell (j := 11) rfl
    have y0 : w5.cell? ⟨k4, 0, none⟩ = some (.int .i64 0) := HY5.out.cell (j := 0) rfl
    have y1 : w5.cell? ⟨k4, 1, none⟩ = some (.int .i64 0) := HY5.out.cell (j := 1) rfl
    have y2 : w5.cell? ⟨k4, 2, none⟩ = some (.int .i64 0) := HY5.out.cell (j := 2) rfl
    have y3 : w5.cell? ⟨k4, 3, none⟩ = some (.int .i64 r3) := HY5.out.cell (j := 3) rfl
    have y4 : w5.cell? ⟨k4, 4, none⟩ = some (.int .i64 r4) := HY5.out.cell (j := 4) rfl
    have y5 : w5.cell? ⟨k4, 5, none⟩ = some (.int .i64 r5) := HY5.out.cell (j := 5) rfl
    have y6 : w5.cell? ⟨k4, 6, none⟩ = some (.int .i64 r6) := HY5.out.cell (j := 6) rfl
    have y7 : w5.cell? ⟨k4, 7, none⟩ = some (.int .i64 r7) := HY5.out.cell (j := 7) rfl
    have y8 : w5.cell? ⟨k4, 8, none⟩ = some (.int .i64 r8) := HY5.out.cell (j := 8) rfl
    have y9 : w5.cell? ⟨k4, 9, none⟩ = some (.int .i64 r9) := HY5.out.cell (j := 9) rfl
    have y10 : w5.cell? ⟨k4, 10, none⟩ = some (.slice none 0 0) := HY5.out.cell (j := 10) rfl
    have y11 : w5.cell? ⟨k4, 11, none⟩ = some (.slice none 0 0) := HY5.out.cell (j := 11) rfl
    go_wp2_with fail
    refine (HSS.out _).mono ?_
    rintro e w9 ⟨rfl, hb9⟩
    have HB4 := hid (below_t HB5.out hb9 HB5.out.size)
    clear hb9 HX5 HY5 HB5 HSS x0 y0 x1 y1 x2 y2 x3 y3 x4 y4 x5 y5 x6 y6 x7 y7 x8 y8 x9 y9 x10 y10 x11 y11
    go_wp2_with fail
    cases hdc : longR b with
    | none =>
      have HZ := hid (HNO.out _ HB4.out hdc)
      clear hdc
      refine HZ.out.mono ?_
      clear HZ
      rintro e w5 ⟨rfl, HR5⟩
      have HB5 := hid (below_t HB4.out HR5.out HB4.out.size)
      have HB6 := hid (HB5.out.alloc HB5.out.size (.cells #[.int .i64 0, .int .i64 0, .int .i64 0, .int .i64 0, .int .i64 0, .int .i64 0, .int .i64 0, .int .i64 0, .int .i64 0, .int .i64 0, .slice none 0 0, .slice none 0 0] 112))
      have HX6 := hid (Blk.new w5 112 (rcells rpZero none 0 none 0))
      have HVS := hid fun W => alike_same rpZero none 0 none 0 none 0 none 0 W (Cells.nil _ _) (Cells.nil _ _) (Cells.nil _ _) (Cells.nil _ _) (by decide)
      rw [show rval rpZero none 0 none 0 = .agg #[.int .i64 0, .int .i64 0, .int .i64 0, .int .i64 0, .int .i64 0, .int .i64 0, .int .i64 0, .int .i64 0, .int .i64 0, .int .i64 0, .slice none 0 0, .slice none 0 0] from rfl] at HVS
      clear HR5
      go_wp2_with fail
      refine (awake17_any _).mono ?_
      rintro e w7 ⟨rfl, hb7⟩
      have HX7 := hid (HX6.out.below hb7)
      have HB7 := hid (below_t HB6.out hb7 HB6.out.size)
      have y0 : w7.cell? ⟨w5.heap.size, 0, none⟩ = some (.int .i64 0) := HX7.out.cell (j := 0) rfl
      have y1 : w7.cell? ⟨w5.heap.size, 1, none⟩ = some (.int .i64 0) := HX7.out.cell (j := 1) rfl
      have y2 : w7.cell? ⟨w5.heap.size, 2, none⟩ = some (.int .i64 0) := HX7.out.cell (j := 2) rfl
      have y3 : w7.cell? ⟨w5.heap.size, 3, none⟩ = some (.int .i64 0) := HX7.out.cell (j := 3) rfl
      have y4 : w7.cell? ⟨w5.heap.size, 4, none⟩ = some (.int .i64 0) := HX7.out.cell (j := 4) rfl
      have y5 : w7.cell? ⟨w5.heap.size, 5, none⟩ = some (.int .i64 0) := HX7.out.cell (j := 5) rfl
      have y6 : w7.cell? ⟨w5.heap.size, 6, none⟩ = some (.int .i64 0) := HX7.out.cell (j := 6) rfl
      have y7 : w7.cell? ⟨w5.heap.size, 7, none⟩ = some (.int .i64 0) := HX7.out.cell (j := 7) rfl
      have y8 : w7.cell? ⟨w5.heap.size, 8, none⟩ = some (.int .i64 0) := HX7.out.cell (j := 8) rfl
      have y9 : w7.cell? ⟨w5.heap.size, 9, none⟩ = some (.int .i64 0) := HX7.out.cell (j := 9) rfl
      have y10 : w7.cell? ⟨w5.heap.size, 10, none⟩ = some (.slice none 0 0) := HX7.out.cell (j := 10) rfl
      have y11 : w7.cell? ⟨w5.heap.size, 11, none⟩ = some (.slice none 0 0) := HX7.out.cell (j := 11) rfl
      clear hb7
      go_wp2_with fail
      refine (HVS.out _).mono ?_
      rintro e w8 ⟨rfl, hb8⟩
      have HB8 := hid (below_t HB7.out hb8 HB7.out.size)
      clear hb8
      go_wp2_with fail
      go_ret
      exact ⟨rfl, HB8.out⟩
    | some x =>
      have HZ := hid (HYES.out _ HB4.out x hdc)
      have HS := hid (longR_some hdc)
      clear hdc
      refine HZ.out.mono ?_
      clear HZ
      rintro e w5 ⟨hx1, hx2, rfl, HR5⟩
      have HB5 := hid (below_t HB4.out HR5.out HB4.out.size)
      have HC := hid (fun W => rshort_any x none 0 none 0 W (by rw [hx2]; exact Cells.nil _ _))
      rw [HS.out.2] at HC
      have hl28 : ((b.length : Int) == 28) = true := by have := HS.out.1; simp; omega
      obtain ⟨y0, y1, y2, y3, y4, y5, y6, y7, y8, y9, y10, y11⟩ := x
      dsimp only at hx1 hx2
      subst hx1
      subst hx2
      rw [show rval ⟨y0, y1, y2, y3, y4, y5, y6, y7, y8, y9, [], []⟩ none 0 none 0 = .agg #[.int .i64 y0, .int .i64 y1, .int .i64 y2, .int .i64 y3, .int .i64 y4, .int .i64 y5, .int .i64 y6, .int .i64 y7, .int .i64 y8, .int .i64 y9, .slice none 0 0, .slice none 0 0] from rfl] at HC ⊢
      obtain ⟨w6, hw6⟩ : ∃ w6, w6 = w5.alloc (.cells #[.int .i64 y0, .int .i64 y1, .int .i64 y2, .int .i64 y3, .int .i64 y4, .int .i64 y5, .int .i64 y6, .int .i64 y7, .int .i64 y8, .int .i64 y9, .slice none 0 0, .slice none 0 0] 112) := ⟨_, rfl⟩
      have HB6 : Hid (Below w.heap.size w w6) := hid (by rw [hw6]; exact HB5.out.alloc HB5.out.size _)
      have HX6 : Hid (Blk w6 w5.heap.size 112 [.int .i64 y0, .int .i64 y1, .int .i64 y2, .int .i64 y3, .int .i64 y4, .int .i64 y5, .int .i64 y6, .int .i64 y7, .int .i64 y8, .int .i64 y9, .slice none 0 0, .slice none 0 0]) := hid (by rw [hw6]; exact Blk.new w5 112 _)
      have HW6 := hid hw6
      clear hw6 HR5 HS HB5
      go_upto_region 11 with fail
      rw [← HW6.out]
      clear HW6
      have HSY : Hid (∀ W, Below w6.heap.size w6 W → W.cell? ⟨w5.heap.size, 0, none⟩ = some (.int .i64 y0) ∧ W.cell? ⟨w5.heap.size, 1, none⟩ = some (.int .i64 y1) ∧ W.cell? ⟨w5.heap.size, 2, none⟩ = some (.int .i64 y2) ∧ W.cell? ⟨w5.heap.size, 3, none⟩ = some (.int .i64 y3) ∧ W.cell? ⟨w5.heap.size, 4, none⟩ = some (.int .i64 y4) ∧ W.cell? ⟨w5.heap.size, 5, none⟩ = some (.int .i64 y5) ∧ W.cell? ⟨w5.heap.size, 6, none⟩ = some (.int .i64 y6) ∧ W.cell? ⟨w5.heap.size, 7, none⟩ = some (.int .i64 y7) ∧ W.cell? ⟨w5.heap.size, 8, none⟩ = some (.int .i64 y8) ∧ W.cell? ⟨w5.heap.size, 9, none⟩ = some (.int .i64 y9) ∧ W.cell? ⟨w5.heap.size, 10, none⟩ = some (.slice none 0 0) ∧ W.cell? ⟨w5.heap.size, 11, none⟩ = some (.slice none 0 0) ∧ Below w6.heap.size w6 W) := hid fun W h => by
        have hx := HX6.out.below h
        exact ⟨hx.cell (j := 0) rfl, hx.cell (j := 1) rfl, hx.cell (j := 2) rfl, hx.cell (j := 3) rfl, hx.cell (j := 4) rfl, hx.cell (j := 5) rfl, hx.cell (j := 6) rfl, hx.cell (j := 7) rfl, hx.cell (j := 8) rfl, hx.cell (j := 9) rfl, hx.cell (j := 10) rfl, hx.cell (j := 11) rfl, h⟩
      have hcv := fun W (hW : W.cell? ⟨w5.heap.size, 0, none⟩ = some (.int .i64 y0) ∧ W.cell? ⟨w5.heap.size, 1, none⟩ = some (.int .i64 y1) ∧ W.cell? ⟨w5.heap.size, 2, none⟩ = some (.int .i64 y2) ∧ W.cell? ⟨w5.heap.size, 3, none⟩ = some (.int .i64 y3) ∧ W.cell? ⟨w5.heap.size, 4, none⟩ = some (.int .i64 y4) ∧ W.cell? ⟨w5.heap.size, 5, none⟩ = some (.int .i64 y5) ∧ W.cell? ⟨w5.heap.size, 6, none⟩ = some (.int .i64 y6) ∧ W.cell? ⟨w5.heap.size, 7, none⟩ = some (.int .i64 y7) ∧ W.cell? ⟨w5.heap.size, 8, none⟩ = some (.int .i64 y8) ∧ W.cell? ⟨w5.heap.size, 9, none⟩ = some (.int .i64 y9) ∧ W.cell? ⟨w5.heap.size, 10, none⟩ = some (.slice none 0 0) ∧ W.cell? ⟨w5.heap.size, 11, none⟩ = some (.slice none 0 0) ∧ Below w6.heap.size w6 W) => cv_bytes c (HBB.out W (below_t HB6.out hW.2.2.2.2.2.2.2.2.2.2.2.2 HB6.out.size))
      have hself := rself b
      go_region_held3 (fun W => W.cell? ⟨w5.heap.size, 0, none⟩ = some (.int .i64 y0) ∧ W.cell? ⟨w5.heap.size, 1, none⟩ = some (.int .i64 y1) ∧ W.cell? ⟨w5.heap.size, 2, none⟩ = some (.int .i64 y2) ∧ W.cell? ⟨w5.heap.size, 3, none⟩ = some (.int .i64 y3) ∧ W.cell? ⟨w5.heap.size, 4, none⟩ = some (.int .i64 y4) ∧ W.cell? ⟨w5.heap.size, 5, none⟩ = some (.int .i64 y5) ∧ W.cell? ⟨w5.heap.size, 6, none⟩ = some (.int .i64 y6) ∧ W.cell? ⟨w5.heap.size, 7, none⟩ = some (.int .i64 y7) ∧ W.cell? ⟨w5.heap.size, 8, none⟩ = some (.int .i64 y8) ∧ W.cell? ⟨w5.heap.size, 9, none⟩ = some (.int .i64 y9) ∧ W.cell? ⟨w5.heap.size, 10, none⟩ = some (.slice none 0 0) ∧ W.cell? ⟨w5.heap.size, 11, none⟩ = some (.slice none 0 0) ∧ Below w6.heap.size w6 W)
        (first | exact HSY.out _ (Below.refl _ _) | exact HSY.out _ (Below.drew (Below.refl _ _)) | exact HSY.out _ hk8 | exact HSY.out _ hk7 | assumption)
        (first
          | (go_at_call 81; refine (awake17_any _).mono ?_; rintro e w7 ⟨rfl, hb7⟩; have hk7 : Below w6.heap.size w6 w7 := below_t (by first | exact Below.refl _ _ | exact Below.drew (Below.refl _ _)) hb7 (by simp))
          | (go_at_call 95; refine (HC.out _).mono ?_; rintro e w8 ⟨rfl, hb8⟩; have hk8 := below_t hk7 hb8 hk7.size)
          | fail "arm")
      go_wp2
      go_ret
      exact ⟨by simp, below_t HB6.out hk8 HB6.out.size⟩
  | false =>
    have HB4 := hid HB3.out
    clear HGS HX3 HY3 HB3
    go_wp2_with fail
    cases hdc : longR b with
    | none =>
      have HZ := hid (HNO.out _ HB4.out hdc)
      clear hdc
      refine HZ.out.mono ?_
      clear HZ
      rintro e w5 ⟨rfl, HR5⟩
      have HB5 := hid (below_t HB4.out HR5.out HB4.out.size)
      have HB6 := hid (HB5.out.alloc HB5.out.size (.cells #[.int .i64 0, .int .i64 0, .int .i64 0, .int .i64 0, .int .i64 0, .int .i64 0, .int .i64 0, .int .i64 0, .int .i64 0, .int .i64 0, .slice none 0 0, .slice none 0 0] 112))
      have HX6 := hid (Blk.new w5 112 (rcells rpZero none 0 none 0))
      have HVS := hid fun W => alike_same rpZero none 0 none 0 none 0 none 0 W (Cells.nil _ _) (Cells.nil _ _) (Cells.nil _ _) (Cells.nil _ _) (by decide)
      rw [show rval rpZero none 0 none 0 = .agg #[.int .i64 0, .int .i64 0, .int .i64 0, .int .i64 0, .int .i64 0, .int .i64 0, .int .i64 0, .int .i64 0, .int .i64 0, .int .i64 0, .slice none 0 0, .slice none 0 0] from rfl] at HVS
      clear HR5
      go_wp2_with fail
      refine (awake17_any _).mono ?_
      rintro e w7 ⟨rfl, hb7⟩
      have HX7 := hid (HX6.out.below hb7)
      have HB7 := hid (below_t HB6.out hb7 HB6.out.size)
      have y0 : w7.cell? ⟨w5.heap.size, 0, none⟩ = some (.int .i64 0) := HX7.out.cell (j := 0) rfl
      have y1 : w7.cell? ⟨w5.heap.size, 1, none⟩ = some (.int .i64 0) := HX7.out.cell (j := 1) rfl
      have y2 : w7.cell? ⟨w5.heap.size, 2, none⟩ = some (.int .i64 0) := HX7.out.cell (j := 2) rfl
      have y3 : w7.cell? ⟨w5.heap.size, 3, none⟩ = some (.int .i64 0) := HX7.out.cell (j := 3) rfl
      have y4 : w7.cell? ⟨w5.heap.size, 4, none⟩ = some (.int .i64 0) := HX7.out.cell (j := 4) rfl
      have y5 : w7.cell? ⟨w5.heap.size, 5, none⟩ = some (.int .i64 0) := HX7.out.cell (j := 5) rfl
      have y6 : w7.cell? ⟨w5.heap.size, 6, none⟩ = some (.int .i64 0) := HX7.out.cell (j := 6) rfl
      have y7 : w7.cell? ⟨w5.heap.size, 7, none⟩ = some (.int .i64 0) := HX7.out.cell (j := 7) rfl
      have y8 : w7.cell? ⟨w5.heap.size, 8, none⟩ = some (.int .i64 0) := HX7.out.cell (j := 8) rfl
      have y9 : w7.cell? ⟨w5.heap.size, 9, none⟩ = some (.int .i64 0) := HX7.out.cell (j := 9) rfl
      have y10 : w7.cell? ⟨w5.heap.size, 10, none⟩ = some (.slice none 0 0) := HX7.out.cell (j := 10) rfl
      have y11 : w7.cell? ⟨w5.heap.size, 11, none⟩ = some (.slice none 0 0) := HX7.out.cell (j := 11) rfl
      clear hb7
      go_wp2_with fail
      refine (HVS.out _).mono ?_
      rintro e w8 ⟨rfl, hb8⟩
      have HB8 := hid (below_t HB7.out hb8 HB7.out.size)
      clear hb8
      go_wp2_with fail
      go_ret
      exact ⟨rfl, HB8.out⟩
    | some x =>
      have HZ := hid (HYES.out _ HB4.out x hdc)
      have HS := hid (longR_some hdc)
      clear hdc
      refine HZ.out.mono ?_
      clear HZ
      rintro e w5 ⟨hx1, hx2, rfl, HR5⟩
      have HB5 := hid (below_t HB4.out HR5.out HB4.out.size)
      have HC := hid (fun W => rshort_any x none 0 none 0 W (by rw [hx2]; exact Cells.nil _ _))
      rw [HS.out.2] at HC
      have hl28 : ((b.length : Int) == 28) = true := by have := HS.out.1; simp; omega
      obtain ⟨y0, y1, y2, y3, y4, y5, y6, y7, y8, y9, y10, y11⟩ := x
      dsimp only at hx1 hx2
      subst hx1
      subst hx2
      rw [show rval ⟨y0, y1, y2, y3, y4, y5, y6, y7, y8, y9, [], []⟩ none 0 none 0 = .agg #[.int .i64 y0, .int .i64 y1, .int .i64 y2, .int .i64 y3, .int .i64 y4, .int .i64 y5, .int .i64 y6, .int .i64 y7, .int .i64 y8, .int .i64 y9, .slice none 0 0, .slice none 0 0] from rfl] at HC ⊢
      obtain ⟨w6, hw6⟩ : ∃ w6, w6 = w5.alloc (.cells #[.int .i64 y0, .int .i64 y1, .int .i64 y2, .int .i64 y3, .int .i64 y4, .int .i64 y5, .int .i64 y6, .int .i64 y7, .int .i64 y8, .int .i64 y9, .slice none 0 0, .slice none 0 0] 112) := ⟨_, rfl⟩
      have HB6 : Hid (Below w.heap.size w w6) := hid (by rw [hw6]; exact HB5.out.alloc HB5.out.size _)
      have HX6 : Hid (Blk w6 w5.heap.size 112 [.int .i64 y0, .int .i64 y1, .int .i64 y2, .int .i64 y3, .int .i64 y4, .int .i64 y5, .int .i64 y6, .int .i64 y7, .int .i64 y8, .int .i64 y9, .slice none 0 0, .slice none 0 0]) := hid (by rw [hw6]; exact Blk.new w5 112 _)
      have HW6 := hid hw6
      clear hw6 HR5 HS HB5
      go_upto_region 11 with fail
      rw [← HW6.out]
      clear HW6
      have HSY : Hid (∀ W, Below w6.heap.size w6 W → W.cell? ⟨w5.heap.size, 0, none⟩ = some (.int .i64 y0) ∧ W.cell? ⟨w5.heap.size, 1, none⟩ = some (.int .i64 y1) ∧ W.cell? ⟨w5.heap.size, 2, none⟩ = some (.int .i64 y2) ∧ W.cell? ⟨w5.heap.size, 3, none⟩ = some (.int .i64 y3) ∧ W.cell? ⟨w5.heap.size, 4, none⟩ = some (.int .i64 y4) ∧ W.cell? ⟨w5.heap.size, 5, none⟩ = some (.int .i64 y5) ∧ W.cell? ⟨w5.heap.size, 6, none⟩ = some (.int .i64 y6) ∧ W.cell? ⟨w5.heap.size, 7, none⟩ = some (.int .i64 y7) ∧ W.cell? ⟨w5.heap.size, 8, none⟩ = some (.int .i64 y8) ∧ W.cell? ⟨w5.heap.size, 9, none⟩ = some (.int .i64 y9) ∧ W.cell? ⟨w5.heap.size, 10, none⟩ = some (.slice none 0 0) ∧ W.cell? ⟨w5.heap.size, 11, none⟩ = some (.slice none 0 0) ∧ Below w6.heap.size w6 W) := hid fun W h => by
        have hx := HX6.out.below h
        exact ⟨hx.cell (j := 0) rfl, hx.cell (j := 1) rfl, hx.cell (j := 2) rfl, hx.cell (j := 3) rfl, hx.cell (j := 4) rfl, hx.cell (j := 5) rfl, hx.cell (j := 6) rfl, hx.cell (j := 7) rfl, hx.cell (j := 8) rfl, hx.cell (j := 9) rfl, hx.cell (j := 10) rfl, hx.cell (j := 11) rfl, h⟩
      have hcv := fun W (hW : W.cell? ⟨w5.heap.size, 0, none⟩ = some (.int .i64 y0) ∧ W.cell? ⟨w5.heap.size, 1, none⟩ = some (.int .i64 y1) ∧ W.cell? ⟨w5.heap.size, 2, none⟩ = some (.int .i64 y2) ∧ W.cell? ⟨w5.heap.size, 3, none⟩ = some (.int .i64 y3) ∧ W.cell? ⟨w5.heap.size, 4, none⟩ = some (.int .i64 y4) ∧ W.cell? ⟨w5.heap.size, 5, none⟩ = some (.int .i64 y5) ∧ W.cell? ⟨w5.heap.size, 6, none⟩ = some (.int .i64 y6) ∧ W.cell? ⟨w5.heap.size, 7, none⟩ = some (.int .i64 y7) ∧ W.cell? ⟨w5.heap.size, 8, none⟩ = some (.int .i64 y8) ∧ W.cell? ⟨w5.heap.size, 9, none⟩ = some (.int .i64 y9) ∧ W.cell? ⟨w5.heap.size, 10, none⟩ = some (.slice none 0 0) ∧ W.cell? ⟨w5.heap.size, 11, none⟩ = some (.slice none 0 0) ∧ Below w6.heap.size w6 W) => cv_bytes c (HBB.out W (below_t HB6.out hW.2.2.2.2.2.2.2.2.2.2.2.2 HB6.out.size))
      have hself := rself b
      go_region_held3 (fun W => W.cell? ⟨w5.heap.size, 0, none⟩ = some (.int .i64 y0) ∧ W.cell? ⟨w5.heap.size, 1, none⟩ = some (.int .i64 y1) ∧ W.cell? ⟨w5.heap.size, 2, none⟩ = some (.int .i64 y2) ∧ W.cell? ⟨w5.heap.size, 3, none⟩ = some (.int .i64 y3) ∧ W.cell? ⟨w5.heap.size, 4, none⟩ = some (.int .i64 y4) ∧ W.cell? ⟨w5.heap.size, 5, none⟩ = some (.int .i64 y5) ∧ W.cell? ⟨w5.heap.size, 6, none⟩ = some (.int .i64 y6) ∧ W.cell? ⟨w5.heap.size, 7, none⟩ = some (.int .i64 y7) ∧ W.cell? ⟨w5.heap.size, 8, none⟩ = some (.int .i64 y8) ∧ W.cell? ⟨w5.heap.size, 9, none⟩ = some (.int .i64 y9) ∧ W.cell? ⟨w5.heap.size, 10, none⟩ = some (.slice none 0 0) ∧ W.cell? ⟨w5.heap.size, 11, none⟩ = some (.slice none 0 0) ∧ Below w6.heap.size w6 W)
        (first | exact HSY.out _ (Below.refl _ _) | exact HSY.out _ (Below.drew (Below.refl _ _)) | exact HSY.out _ hk8 | exact HSY.out _ hk7 | assumption)
        (first
          | (go_at_call 81; refine (awake17_any _).mono ?_; rintro e w7 ⟨rfl, hb7⟩; have hk7 : Below w6.heap.size w6 w7 := below_t (by first | exact Below.refl _ _ | exact Below.drew (Below.refl _ _)) hb7 (by simp))
          | (go_at_call 95; refine (HC.out _).mono ?_; rintro e w8 ⟨rfl, hb8⟩; have hk8 := below_t hk7 hb8 hk7.size)
          | fail "arm")
      go_wp2
      go_ret
      exact ⟨by simp, below_t HB6.out hk8 HB6.out.size⟩
end Go.Proofs.Ytppbcdcmpcagdaa
