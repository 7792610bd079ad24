/- The law NodeGets returns true at every input: its walk over the contracts of node.Get and of the reference's Sound and Encode. No condition. -/
import Derived.Test.YtppbcdcmpcagdaaNodeW
namespace Go.Proofs.Ytppbcdcmpcagdaa
open Go.RowKit Go.CP

theorem LastS2.new (w : World) (x : Nod) : LastS2 w (w.alloc (.cells #[.int .i64 x.k, .int .i64 x.l, .int .i64 x.g, .int .i64 x.s, .int .i64 x.c, .int .i64 x.d0, .int .i64 x.d1, .int .i64 x.d2, .int .i64 x.d3, .int .i64 x.o, .int .i64 x.t] 84)) x := ⟨BoxN.new w x, (Below.refl _ _).alloc (Nat.le_refl _) _⟩
theorem eq84_zero (W : World) : (Op.equalIn 10000 84 (.agg #[.int .i64 0, .int .i64 0, .int .i64 0, .int .i64 0, .int .i64 0, .int .i64 0, .int .i64 0, .int .i64 0, .int .i64 0, .int .i64 0, .int .i64 0]) (.agg #[.int .i64 0, .int .i64 0, .int .i64 0, .int .i64 0, .int .i64 0, .int .i64 0, .int .i64 0, .int .i64 0, .int .i64 0, .int .i64 0, .int .i64 0])).run Try.prog W = .ok true W := by
  have := eq84 9997 nod0 nod0 W
  rw [(eqN_iff nod0 nod0).2 rfl] at this
  exact this
theorem eq82_zero (W : World) : (Op.equalIn 9999 82 (.agg #[.int .i64 0, .int .i64 0, .int .i64 0, .int .i64 0]) (.agg #[.int .i64 0, .int .i64 0, .int .i64 0, .int .i64 0])).run Try.prog W = .ok true W := eq82 9997 0 0 0 0 0 0 0 0 W

set_option maxHeartbeats 4000000 in
set_option maxRecDepth 100000 in
theorem gets_err (w : World) (B : Option Addr) (b : List UInt8) (c : Nat) (i : Int) (hb : Bytes w B b) (hc : b.length ≤ c) (h : ¬ (b.length = 128 ∧ 0 ≤ i ∧ i < 4)) :
    Calls Try.prog 19 #[.slice B b.length c, .int .i64 i] w fun e w' => e = .returned (.bool true) ∧ Below w.heap.size w w' := by
  have hg := getN_any B b c i w hb hc
  have e : getN b i = (nod0, 1) := if_neg h
  rw [e] at hg
  have HG := hid hg
  have HZ := hid eq84_zero
  have HZ2 := hid eq82_zero
  clear hg e
  by_cases hl : b.length = 128
  · rw [hl] at HG ⊢
    by_cases h0 : i < 0
    · clear h hl hc
      go_enter Try.func19, Try.ntmps19
      go_wp2_with fail
      refine HG.out.mono ?_
      rintro e w1 ⟨rfl, hb1⟩
      simp only [nod0]
      have hq1 := LastS2.new w1 nod0
      simp only [nod0] at hq1
      have HQ1 := hid hq1
      clear hq1 HG
      go_wp2_with fail
      refine (awake10_any _).mono ?_
      rintro e w2 ⟨rfl, hb2⟩
      have hq2 := HQ1.out.keep hb2
      have HB2 := hid (below_t hb1 hq2.2 hb1.size)
      obtain ⟨f0, f1, f2, f3, f4, f5, f6, f7, f8, f9, f10, -, -⟩ := hq2.1.facts
      simp only [] at f0 f1 f2 f3 f4 f5 f6 f7 f8 f9 f10
      have hz := HZ.out
      have hz2 := HZ2.out
      clear hq2 HQ1 hb2 hb1
      go_wp2
      go_ret
      exact ⟨rfl, HB2.out⟩
    · have h4 : 3 < i := by omega
      clear h hl hc
      go_enter Try.func19, Try.ntmps19
      go_wp2_with fail
      refine HG.out.mono ?_
      rintro e w1 ⟨rfl, hb1⟩
      simp only [nod0]
      have hq1 := LastS2.new w1 nod0
      simp only [nod0] at hq1
      have HQ1 := hid hq1
      clear hq1 HG
      go_wp2_with fail
      refine (awake10_any _).mono ?_
      rintro e w2 ⟨rfl, hb2⟩
      have hq2 := HQ1.out.keep hb2
      have HB2 := hid (below_t hb1 hq2.2 hb1.size)
      obtain ⟨f0, f1, f2, f3, f4, f5, f6, f7, f8, f9, f10, -, -⟩ := hq2.1.facts
      simp only [] at f0 f1 f2 f3 f4 f5 f6 f7 f8 f9 f10
      have hz := HZ.out
      have hz2 := HZ2.out
      clear hq2 HQ1 hb2 hb1
      go_wp2
      go_ret
      exact ⟨rfl, HB2.out⟩
  · have hq : ((b.length : Int) != 128) = true := by rw [bne_iff_ne]; omega
    clear h hl hc
    go_enter Try.func19, Try.ntmps19
    go_wp2_with fail
    refine HG.out.mono ?_
    rintro e w1 ⟨rfl, hb1⟩
    simp only [nod0]
    have hq1 := LastS2.new w1 nod0
    simp only [nod0] at hq1
    have HQ1 := hid hq1
    clear hq1 HG
    go_wp2_with fail
    refine (awake10_any _).mono ?_
    rintro e w2 ⟨rfl, hb2⟩
    have hq2 := HQ1.out.keep hb2
    have HB2 := hid (below_t hb1 hq2.2 hb1.size)
    obtain ⟨f0, f1, f2, f3, f4, f5, f6, f7, f8, f9, f10, -, -⟩ := hq2.1.facts
    simp only [] at f0 f1 f2 f3 f4 f5 f6 f7 f8 f9 f10
    have hz := HZ.out
    have hz2 := HZ2.out
    clear hq2 HQ1 hb2 hb1
    go_wp2
    go_ret
    exact ⟨rfl, HB2.out⟩
set_option maxHeartbeats 4000000 in
set_option maxRecDepth 100000 in
theorem gets_ok (w : World) (g0 off : Nat) (b : List UInt8) (c i : Nat) (hb : Bytes w (some ⟨g0, off, none⟩) b) (hbl : b.length = 128) (hc : 128 ≤ c) (hi : i < 4) :
    Calls Try.prog 19 #[.slice (some ⟨g0, off, none⟩) 128 c, .int .i64 i] w fun e w' => e = .returned (.bool true) ∧ Below w.heap.size w w' := by
  have hg := getN_any (some ⟨g0, off, none⟩) b c i w hb (by omega)
  have e : getN b i = if okN (getS b i) then (decN (getS b i), 0) else (nod0, 2) := by rw [getN, if_pos ⟨hbl, by omega, by omega⟩, Int.toNat_natCast]
  rw [e, hbl] at hg
  have HB := hid hb
  have HBL := hid hbl
  have hc1 : (128 : Int) ≤ c := by omega
  have h4 : i = 0 ∨ i = 1 ∨ i = 2 ∨ i = 3 := by omega
  cases hok : okN (getS b i) with
  | false =>
    rw [hok] at hg
    have HG := hid hg
    have HZ := hid eq84_zero
    have HZ2 := hid eq82_zero
    clear hg e hb hbl hok hc hi
    rcases h4 with rfl | rfl | rfl | rfl
    · rw [show ((0 : Nat) : Int) = 0 from rfl] at HG ⊢
      go_enter Try.func19, Try.ntmps19
      go_wp2_with fail
      refine HG.out.mono ?_
      rintro e w1 ⟨rfl, hb1⟩
      simp only [nod0]
      have hq1 := LastS2.new w1 nod0
      simp only [nod0] at hq1
      have HQ1 := hid hq1
      clear hq1 HG
      go_wp2_with fail
      refine (awake10_any _).mono ?_
      rintro e w2 ⟨rfl, hb2⟩
      have hq2 := HQ1.out.keep hb2
      have HB2 := hid (below_t hb1 hq2.2 hb1.size)
      obtain ⟨f0, f1, f2, f3, f4, f5, f6, f7, f8, f9, f10, -, -⟩ := hq2.1.facts
      simp only [] at f0 f1 f2 f3 f4 f5 f6 f7 f8 f9 f10
      have hz := HZ.out
      have hz2 := HZ2.out
      clear hq2 HQ1 hb2 hb1
      go_wp2
      go_ret
      exact ⟨rfl, HB2.out⟩
    · rw [show ((1 : Nat) : Int) = 1 from rfl] at HG ⊢
      go_enter Try.func19, Try.ntmps19
      go_wp2_with fail
      refine HG.out.mono ?_
      rintro e w1 ⟨rfl, hb1⟩
      simp only [nod0]
      have hq1 := LastS2.new w1 nod0
      simp only [nod0] at hq1
      have HQ1 := hid hq1
      clear hq1 HG
      go_wp2_with fail
      refine (awake10_any _).mono ?_
      rintro e w2 ⟨rfl, hb2⟩
      have hq2 := HQ1.out.keep hb2
      have HB2 := hid (below_t hb1 hq2.2 hb1.size)
      obtain ⟨f0, f1, f2, f3, f4, f5, f6, f7, f8, f9, f10, -, -⟩ := hq2.1.facts
      simp only [] at f0 f1 f2 f3 f4 f5 f6 f7 f8 f9 f10
      have hz := HZ.out
      have hz2 := HZ2.out
      clear hq2 HQ1 hb2 hb1
      go_wp2
      go_ret
      exact ⟨rfl, HB2.out⟩
    · rw [show ((2 : Nat) : Int) = 2 from rfl] at HG ⊢
      go_enter Try.func19, Try.ntmps19
      go_wp2_with fail
      refine HG.out.mono ?_
      rintro e w1 ⟨rfl, hb1⟩
      simp only [nod0]
      have hq1 := LastS2.new w1 nod0
      simp only [nod0] at hq1
      have HQ1 := hid hq1
      clear hq1 HG
      go_wp2_with fail
      refine (awake10_any _).mono ?_
      rintro e w2 ⟨rfl, hb2⟩
      have hq2 := HQ1.out.keep hb2
      have HB2 := hid (below_t hb1 hq2.2 hb1.size)
      obtain ⟨f0, f1, f2, f3, f4, f5, f6, f7, f8, f9, f10, -, -⟩ := hq2.1.facts
      simp only [] at f0 f1 f2 f3 f4 f5 f6 f7 f8 f9 f10
      have hz := HZ.out
      have hz2 := HZ2.out
      clear hq2 HQ1 hb2 hb1
      go_wp2
      go_ret
      exact ⟨rfl, HB2.out⟩
    · rw [show ((3 : Nat) : Int) = 3 from rfl] at HG ⊢
      go_enter Try.func19, Try.ntmps19
      go_wp2_with fail
      refine HG.out.mono ?_
      rintro e w1 ⟨rfl, hb1⟩
      simp only [nod0]
      have hq1 := LastS2.new w1 nod0
      simp only [nod0] at hq1
      have HQ1 := hid hq1
      clear hq1 HG
      go_wp2_with fail
      refine (awake10_any _).mono ?_
      rintro e w2 ⟨rfl, hb2⟩
      have hq2 := HQ1.out.keep hb2
      have HB2 := hid (below_t hb1 hq2.2 hb1.size)
      obtain ⟨f0, f1, f2, f3, f4, f5, f6, f7, f8, f9, f10, -, -⟩ := hq2.1.facts
      simp only [] at f0 f1 f2 f3 f4 f5 f6 f7 f8 f9 f10
      have hz := HZ.out
      have hz2 := HZ2.out
      clear hq2 HQ1 hb2 hb1
      go_wp2
      go_ret
      exact ⟨rfl, HB2.out⟩
  | true =>
    rw [hok] at hg
    obtain ⟨x, hx⟩ : ∃ x, x = decN (getS b i) := ⟨_, rfl⟩
    rw [← hx] at hg
    have hsx : soundN x = true ∧ encL x = getS b i := by rw [hx]; exact ok_eq hok
    have HG := hid hg
    have HX := hid hsx
    have HRS := rsoundN_any x
    rw [hsx.1] at HRS
    have HR := hid HRS
    have HEN := hid (fun W => renc_any x W hsx.1)
    clear hg e hb hbl hok hx hsx HRS hc hi
    rcases h4 with rfl | rfl | rfl | rfl
    · rw [show ((0 : Nat) : Int) = 0 from rfl] at HG ⊢
      go_enter Try.func19, Try.ntmps19
      go_wp2_with fail
      refine HG.out.mono ?_
      rintro e w1 ⟨rfl, hb1⟩
      have HQ1 := hid (LastS2.new w1 x)
      have hcv : ∀ W, LastS2 w1 W x → (convert 22 9 (.slice (some ⟨g0, off, none⟩) 32 c)).run Try.prog W = .ok (.string (bstr (getS b 0))) W := fun W hW => by
        have hbW := HB.out.below (below_t hb1 hW.2 hb1.size) (Nat.le_refl _)
        have h1 := hbW.take 32
        rw [← List.map_take] at h1
        have := cv_bytes c (l := getS b 0) h1
        rwa [show (getS b 0).length = 32 from by have := HBL.out; simp [getS]; omega] at this
      have HB1 := hid hb1
      have hwn : ∀ n : Int, 0 ≤ n → n ≤ 200 → IntKind.i64.wrap n = n := fun n h1 h2 => by rw [IntKind.wrap_i64]; omega
      have hck : (32 : Int) ≤ c := by omega
      have hcn : ¬ c = 0 := by omega
      clear HG hb1 HB
      go_wp2_with fail
      go_region_held3 (fun W => (W.cell? ⟨w1.heap.size, 0, none⟩ = some (.int .i64 x.k) ∧ W.cell? ⟨w1.heap.size, 1, none⟩ = some (.int .i64 x.l) ∧ W.cell? ⟨w1.heap.size, 2, none⟩ = some (.int .i64 x.g) ∧ W.cell? ⟨w1.heap.size, 3, none⟩ = some (.int .i64 x.s) ∧ W.cell? ⟨w1.heap.size, 4, none⟩ = some (.int .i64 x.c) ∧ W.cell? ⟨w1.heap.size, 5, none⟩ = some (.int .i64 x.d0) ∧ W.cell? ⟨w1.heap.size, 6, none⟩ = some (.int .i64 x.d1) ∧ W.cell? ⟨w1.heap.size, 7, none⟩ = some (.int .i64 x.d2) ∧ W.cell? ⟨w1.heap.size, 8, none⟩ = some (.int .i64 x.d3) ∧ W.cell? ⟨w1.heap.size, 9, none⟩ = some (.int .i64 x.o) ∧ W.cell? ⟨w1.heap.size, 10, none⟩ = some (.int .i64 x.t)) ∧ LastS2 w1 W x)
        (first | exact HQ1.out.cells | exact (HQ1.out.keep (bl2 _)).cells | exact hq6.cells | exact hq5.cells | exact hq4.cells | fail "keep")
        (first
          | (go_at_call 76; refine (awake10_any _).mono ?_; rintro e w4 ⟨rfl, hb4⟩; have hq4 := LastS2.keep (And.right (by assumption)) hb4)
          | (go_at_call 75; refine (HR.out _).mono ?_; rintro e w5 ⟨rfl, hb5⟩; have hq5 := LastS2.keep (And.right (by assumption)) hb5)
          | (go_at_call 78; refine (HEN.out _).mono ?_; rintro e w6 ⟨rfl, hb6⟩; have hq6 := LastS2.keep (And.right (by assumption)) hb6)
          | fail "arm")
      go_wp2
      go_ret
      exact ⟨ret_bool (by rw [HX.out.2]; simp), below_t HB1.out hq6.2 HB1.out.size⟩
    · rw [show ((1 : Nat) : Int) = 1 from rfl] at HG ⊢
      go_enter Try.func19, Try.ntmps19
      go_wp2_with fail
      refine HG.out.mono ?_
      rintro e w1 ⟨rfl, hb1⟩
      have HQ1 := hid (LastS2.new w1 x)
      have hcv : ∀ W, LastS2 w1 W x → (convert 22 9 (.slice (some ⟨g0, off + 32, none⟩) 32 (c - 32))).run Try.prog W = .ok (.string (bstr (getS b 1))) W := fun W hW => by
        have hbW := HB.out.below (below_t hb1 hW.2 hb1.size) (Nat.le_refl _)
        have h1 := (Cells.drop hbW 32).take 32
        rw [← List.map_drop, ← List.map_take] at h1
        have := cv_bytes (c - 32) (l := getS b 1) h1
        rwa [show (getS b 1).length = 32 from by have := HBL.out; simp [getS]; omega] at this
      have HB1 := hid hb1
      have hwn : ∀ n : Int, 0 ≤ n → n ≤ 200 → IntKind.i64.wrap n = n := fun n h1 h2 => by rw [IntKind.wrap_i64]; omega
      have hck : (64 : Int) ≤ c := by omega
      have hcn : ¬ c = 32 := by omega
      clear HG hb1 HB
      go_wp2_with fail
      go_region_held3 (fun W => (W.cell? ⟨w1.heap.size, 0, none⟩ = some (.int .i64 x.k) ∧ W.cell? ⟨w1.heap.size, 1, none⟩ = some (.int .i64 x.l) ∧ W.cell? ⟨w1.heap.size, 2, none⟩ = some (.int .i64 x.g) ∧ W.cell? ⟨w1.heap.size, 3, none⟩ = some (.int .i64 x.s) ∧ W.cell? ⟨w1.heap.size, 4, none⟩ = some (.int .i64 x.c) ∧ W.cell? ⟨w1.heap.size, 5, none⟩ = some (.int .i64 x.d0) ∧ W.cell? ⟨w1.heap.size, 6, none⟩ = some (.int .i64 x.d1) ∧ W.cell? ⟨w1.heap.size, 7, none⟩ = some (.int .i64 x.d2) ∧ W.cell? ⟨w1.heap.size, 8, none⟩ = some (.int .i64 x.d3) ∧ W.cell? ⟨w1.heap.size, 9, none⟩ = some (.int .i64 x.o) ∧ W.cell? ⟨w1.heap.size, 10, none⟩ = some (.int .i64 x.t)) ∧ LastS2 w1 W x)
        (first | exact HQ1.out.cells | exact (HQ1.out.keep (bl2 _)).cells | exact hq6.cells | exact hq5.cells | exact hq4.cells | fail "keep")
        (first
          | (go_at_call 76; refine (awake10_any _).mono ?_; rintro e w4 ⟨rfl, hb4⟩; have hq4 := LastS2.keep (And.right (by assumption)) hb4)
          | (go_at_call 75; refine (HR.out _).mono ?_; rintro e w5 ⟨rfl, hb5⟩; have hq5 := LastS2.keep (And.right (by assumption)) hb5)
          | (go_at_call 78; refine (HEN.out _).mono ?_; rintro e w6 ⟨rfl, hb6⟩; have hq6 := LastS2.keep (And.right (by assumption)) hb6)
          | fail "arm")
      go_wp2
      go_ret
      exact ⟨ret_bool (by rw [HX.out.2]; simp), below_t HB1.out hq6.2 HB1.out.size⟩
    · rw [show ((2 : Nat) : Int) = 2 from rfl] at HG ⊢
      go_enter Try.func19, Try.ntmps19
      go_wp2_with fail
      refine HG.out.mono ?_
      rintro e w1 ⟨rfl, hb1⟩
      have HQ1 := hid (LastS2.new w1 x)
      have hcv : ∀ W, LastS2 w1 W x → (convert 22 9 (.slice (some ⟨g0, off + 64, none⟩) 32 (c - 64))).run Try.prog W = .ok (.string (bstr (getS b 2))) W := fun W hW => by
        have hbW := HB.out.below (below_t hb1 hW.2 hb1.size) (Nat.le_refl _)
        have h1 := (Cells.drop hbW 64).take 32
        rw [← List.map_drop, ← List.map_take] at h1
        have := cv_bytes (c - 64) (l := getS b 2) h1
        rwa [show (getS b 2).length = 32 from by have := HBL.out; simp [getS]; omega] at this
      have HB1 := hid hb1
      have hwn : ∀ n : Int, 0 ≤ n → n ≤ 200 → IntKind.i64.wrap n = n := fun n h1 h2 => by rw [IntKind.wrap_i64]; omega
      have hck : (96 : Int) ≤ c := by omega
      have hcn : ¬ c = 64 := by omega
      clear HG hb1 HB
      go_wp2_with fail
      go_region_held3 (fun W => (W.cell? ⟨w1.heap.size, 0, none⟩ = some (.int .i64 x.k) ∧ W.cell? ⟨w1.heap.size, 1, none⟩ = some (.int .i64 x.l) ∧ W.cell? ⟨w1.heap.size, 2, none⟩ = some (.int .i64 x.g) ∧ W.cell? ⟨w1.heap.size, 3, none⟩ = some (.int .i64 x.s) ∧ W.cell? ⟨w1.heap.size, 4, none⟩ = some (.int .i64 x.c) ∧ W.cell? ⟨w1.heap.size, 5, none⟩ = some (.int .i64 x.d0) ∧ W.cell? ⟨w1.heap.size, 6, none⟩ = some (.int .i64 x.d1) ∧ W.cell? ⟨w1.heap.size, 7, none⟩ = some (.int .i64 x.d2) ∧ W.cell? ⟨w1.heap.size, 8, none⟩ = some (.int .i64 x.d3) ∧ W.cell? ⟨w1.heap.size, 9, none⟩ = some (.int .i64 x.o) ∧ W.cell? ⟨w1.heap.size, 10, none⟩ = some (.int .i64 x.t)) ∧ LastS2 w1 W x)
        (first | exact HQ1.out.cells | exact (HQ1.out.keep (bl2 _)).cells | exact hq6.cells | exact hq5.cells | exact hq4.cells | fail "keep")
        (first
          | (go_at_call 76; refine (awake10_any _).mono ?_; rintro e w4 ⟨rfl, hb4⟩; have hq4 := LastS2.keep (And.right (by assumption)) hb4)
          | (go_at_call 75; refine (HR.out _).mono ?_; rintro e w5 ⟨rfl, hb5⟩; have hq5 := LastS2.keep (And.right (by assumption)) hb5)
          | (go_at_call 78; refine (HEN.out _).mono ?_; rintro e w6 ⟨rfl, hb6⟩; have hq6 := LastS2.keep (And.right (by assumption)) hb6)
          | fail "arm")
      go_wp2
      go_ret
      exact ⟨ret_bool (by rw [HX.out.2]; simp), below_t HB1.out hq6.2 HB1.out.size⟩
    · rw [show ((3 : Nat) : Int) = 3 from rfl] at HG ⊢
      go_enter Try.func19, Try.ntmps19
      go_wp2_with fail
      refine HG.out.mono ?_
      rintro e w1 ⟨rfl, hb1⟩
      have HQ1 := hid (LastS2.new w1 x)
      have hcv : ∀ W, LastS2 w1 W x → (convert 22 9 (.slice (some ⟨g0, off + 96, none⟩) 32 (c - 96))).run Try.prog W = .ok (.string (bstr (getS b 3))) W := fun W hW => by
        have hbW := HB.out.below (below_t hb1 hW.2 hb1.size) (Nat.le_refl _)
        have h1 := (Cells.drop hbW 96).take 32
        rw [← List.map_drop, ← List.map_take] at h1
        have := cv_bytes (c - 96) (l := getS b 3) h1
        rwa [show (getS b 3).length = 32 from by have := HBL.out; simp [getS]; omega] at this
      have HB1 := hid hb1
      have hwn : ∀ n : Int, 0 ≤ n → n ≤ 200 → IntKind.i64.wrap n = n := fun n h1 h2 => by rw [IntKind.wrap_i64]; omega
      have hck : (128 : Int) ≤ c := by omega
      have hcn : ¬ c = 96 := by omega
      clear HG hb1 HB
      go_wp2_with fail
      go_region_held3 (fun W => (W.cell? ⟨w1.heap.size, 0, none⟩ = some (.int .i64 x.k) ∧ W.cell? ⟨w1.heap.size, 1, none⟩ = some (.int .i64 x.l) ∧ W.cell? ⟨w1.heap.size, 2, none⟩ = some (.int .i64 x.g) ∧ W.cell? ⟨w1.heap.size, 3, none⟩ = some (.int .i64 x.s) ∧ W.cell? ⟨w1.heap.size, 4, none⟩ = some (.int .i64 x.c) ∧ W.cell? ⟨w1.heap.size, 5, none⟩ = some (.int .i64 x.d0) ∧ W.cell? ⟨w1.heap.size, 6, none⟩ = some (.int .i64 x.d1) ∧ W.cell? ⟨w1.heap.size, 7, none⟩ = some (.int .i64 x.d2) ∧ W.cell? ⟨w1.heap.size, 8, none⟩ = some (.int .i64 x.d3) ∧ W.cell? ⟨w1.heap.size, 9, none⟩ = some (.int .i64 x.o) ∧ W.cell? ⟨w1.heap.size, 10, none⟩ = some (.int .i64 x.t)) ∧ LastS2 w1 W x)
        (first | exact HQ1.out.cells | exact (HQ1.out.keep (bl2 _)).cells | exact hq6.cells | exact hq5.cells | exact hq4.cells | fail "keep")
        (first
          | (go_at_call 76; refine (awake10_any _).mono ?_; rintro e w4 ⟨rfl, hb4⟩; have hq4 := LastS2.keep (And.right (by assumption)) hb4)
          | (go_at_call 75; refine (HR.out _).mono ?_; rintro e w5 ⟨rfl, hb5⟩; have hq5 := LastS2.keep (And.right (by assumption)) hb5)
          | (go_at_call 78; refine (HEN.out _).mono ?_; rintro e w6 ⟨rfl, hb6⟩; have hq6 := LastS2.keep (And.right (by assumption)) hb6)
          | fail "arm")
      go_wp2
      go_ret
      exact ⟨ret_bool (by rw [HX.out.2]; simp), below_t HB1.out hq6.2 HB1.out.size⟩
theorem nodeGets_walk (w : World) (B : Option Addr) (b : List UInt8) (c : Nat) (i : Int) (hb : Bytes w B b) (hc : b.length ≤ c) (_ : b.length ≤ 140737488351232) (_ : -9223372036854775808 ≤ i ∧ i < 9223372036854775808) :
    Calls Try.prog 19 #[.slice B b.length c, .int .i64 i] w fun e w' => e = .returned (.bool true) ∧ Below w.heap.size w w' := by
  by_cases h : b.length = 128 ∧ 0 ≤ i ∧ i < 4
  · obtain ⟨g0, off, rfl, -⟩ := Bytes.openq hb (by omega)
    have e : ((i.toNat : Nat) : Int) = i := by omega
    have := gets_ok w g0 off b c i.toNat hb h.1 (by omega) (by omega)
    rw [e] at this
    rw [h.1]
    exact this
  · exact gets_err w B b c i hb hc h
end Go.Proofs.Ytppbcdcmpcagdaa
