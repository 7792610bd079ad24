/- The law NodePuts returns true at every input: its walk over the contracts of node.Put, Get, Stat, Sound and of the reference's Sound and Encode. No condition. -/
import Derived.Test.YtppbcdcmpcagdaaNodeX
namespace Go.Proofs.Ytppbcdcmpcagdaa
open Go.RowKit Go.CP

theorem twoB {w w1 W : World} {x : Nod} {q : Nat} (h : TwoS w W x q) (hb : Below w1.heap.size w1 W) : (W.cell? ⟨w.heap.size, 0, none⟩ = some (.int .i64 x.k) ∧ W.cell? ⟨w.heap.size, 1, none⟩ = some (.int .i64 x.l) ∧ W.cell? ⟨w.heap.size, 2, none⟩ = some (.int .i64 x.g) ∧ W.cell? ⟨w.heap.size, 3, none⟩ = some (.int .i64 x.s) ∧ W.cell? ⟨w.heap.size, 4, none⟩ = some (.int .i64 x.c) ∧ W.cell? ⟨w.heap.size, 5, none⟩ = some (.int .i64 x.d0) ∧ W.cell? ⟨w.heap.size, 6, none⟩ = some (.int .i64 x.d1) ∧ W.cell? ⟨w.heap.size, 7, none⟩ = some (.int .i64 x.d2) ∧ W.cell? ⟨w.heap.size, 8, none⟩ = some (.int .i64 x.d3) ∧ W.cell? ⟨w.heap.size, 9, none⟩ = some (.int .i64 x.o) ∧ W.cell? ⟨w.heap.size, 10, none⟩ = some (.int .i64 x.t)) ∧ (W.cell? ⟨q, 0, none⟩ = some (.int .i64 x.k) ∧ W.cell? ⟨q, 1, none⟩ = some (.int .i64 x.l) ∧ W.cell? ⟨q, 2, none⟩ = some (.int .i64 x.g) ∧ W.cell? ⟨q, 3, none⟩ = some (.int .i64 x.s) ∧ W.cell? ⟨q, 4, none⟩ = some (.int .i64 x.c) ∧ W.cell? ⟨q, 5, none⟩ = some (.int .i64 x.d0) ∧ W.cell? ⟨q, 6, none⟩ = some (.int .i64 x.d1) ∧ W.cell? ⟨q, 7, none⟩ = some (.int .i64 x.d2) ∧ W.cell? ⟨q, 8, none⟩ = some (.int .i64 x.d3) ∧ W.cell? ⟨q, 9, none⟩ = some (.int .i64 x.o) ∧ W.cell? ⟨q, 10, none⟩ = some (.int .i64 x.t)) ∧ TwoS w W x q ∧ Below w1.heap.size w1 W := ⟨h.cells.1, h.cells.2.1, h, hb⟩
theorem twoK {w w1 W W' : World} {x : Nod} {q : Nat} (h : TwoS w W x q ∧ Below w1.heap.size w1 W) (hb : Below W.heap.size W W') : TwoS w W' x q ∧ Below w1.heap.size w1 W' := ⟨h.1.keep hb, below_t h.2 hb h.2.size⟩
set_option maxHeartbeats 8000000 in
set_option maxRecDepth 100000 in
theorem puts_ok (w : World) (g0 off : Nat) (b : List UInt8) (c i : Nat) (x : Nod) (hb : Bytes w (some ⟨g0, off, none⟩) b) (hbl : b.length = 128) (hc : 128 ≤ c) (hi : i < 4) (hx : soundN x = true) :
    Calls Try.prog 18 #[.slice (some ⟨g0, off, none⟩) 128 c, .int .i64 i, .agg #[.int .i64 x.k, .int .i64 x.l, .int .i64 x.g, .int .i64 x.s, .int .i64 x.c, .int .i64 x.d0, .int .i64 x.d1, .int .i64 x.d2, .int .i64 x.d3, .int .i64 x.o, .int .i64 x.t]] w fun e w' => e = .returned (.bool true) ∧ Below w.heap.size w w' := by
  have HP := hid (fun W (hW : Bytes W (some ⟨g0, off, none⟩) b) => put_ok g0 off b c i x W hW hbl hc hi hx)
  have HX := hid hx
  have HEN := hid (fun W => renc_any x W hx)
  have HB := hid hb
  have HBL := hid hbl
  have hpl : (putS b i (encL x)).length = 128 := putS_len hbl (encL_len x) hi
  have hgp : getN (putS b i (encL x)) (i : Int) = (x, 0) := by
    have := getN_put (i := (i : Int)) hbl (by omega) (by omega) hx
    rwa [Int.toNat_natCast] at this
  have HPL := hid hpl
  have HGP := hid hgp
  have hc1 : (128 : Int) ≤ c := by omega
  have h4 : i = 0 ∨ i = 1 ∨ i = 2 ∨ i = 3 := by omega
  clear hx hi hb hbl hpl hgp
  rcases h4 with rfl | rfl | rfl | rfl
  · rw [show ((0 : Nat) : Int) = 0 from rfl] at HP ⊢
    have hL : Hid (LastS2 w (w.alloc (.cells #[.int .i64 x.k, .int .i64 x.l, .int .i64 x.g, .int .i64 x.s, .int .i64 x.c, .int .i64 x.d0, .int .i64 x.d1, .int .i64 x.d2, .int .i64 x.d3, .int .i64 x.o, .int .i64 x.t] 84)) x) := hid (LastS2.new w x)
    have HST := hid (fun W => stat_any 0 x W)
    have HSN := hid (soundN_any x)
    have HRS := hid (rsoundN_any x)
    obtain ⟨f0, f1, f2, f3, f4, f5, f6, f7, f8, f9, f10, -, -⟩ := hL.out.1.facts
    go_enter Try.func18, Try.ntmps18
    go_wp2_with fail
    refine (HP.out _ (HB.out.below hL.out.2 (Nat.le_refl _))).mono ?_
    clear f0 f1 f2 f3 f4 f5 f6 f7 f8 f9 f10
    rintro e w1 ⟨A1, c1, rfl, ho1, hb1⟩
    have hq1 := hL.out.keep hb1
    obtain ⟨f0, f1, f2, f3, f4, f5, f6, f7, f8, f9, f10, -, -⟩ := hq1.1.facts
    go_wp2_with fail
    refine (HST.out _).mono ?_
    clear f0 f1 f2 f3 f4 f5 f6 f7 f8 f9 f10
    rintro e w2 ⟨rfl, hb2⟩
    have hq2 := hq1.keep hb2
    have hp3 : Hid (PutsS w w1 ((w2.alloc (.cells #[.int .i64 0, .int .i64 x.g, .int .i64 x.k, .int .i64 x.l, .int .i64 x.s, .int .i64 x.c] 89)).alloc (.cells #[.int .i64 0, .int .i64 x.g, .int .i64 x.k, .int .i64 x.l, .int .i64 x.s, .int .i64 x.c] 89)) x 0 w2.heap.size (w2.heap.size + 1)) := by
      have h1 : BoxS (w2.alloc (.cells #[.int .i64 0, .int .i64 x.g, .int .i64 x.k, .int .i64 x.l, .int .i64 x.s, .int .i64 x.c] 89)) w2.heap.size 0 x := heap_alloc_new w2 _
      have h2 : BoxS ((w2.alloc (.cells #[.int .i64 0, .int .i64 x.g, .int .i64 x.k, .int .i64 x.l, .int .i64 x.s, .int .i64 x.c] 89)).alloc (.cells #[.int .i64 0, .int .i64 x.g, .int .i64 x.k, .int .i64 x.l, .int .i64 x.s, .int .i64 x.c] 89)) (w2.heap.size + 1) 0 x := by
        have := heap_alloc_new (w2.alloc (.cells #[.int .i64 0, .int .i64 x.g, .int .i64 x.k, .int .i64 x.l, .int .i64 x.s, .int .i64 x.c] 89)) (.cells #[.int .i64 0, .int .i64 x.g, .int .i64 x.k, .int .i64 x.l, .int .i64 x.s, .int .i64 x.c] 89)
        rw [World.size_alloc] at this
        exact this
      exact hid ⟨(hq2.keep ((Below.refl _ _).alloc (Nat.le_refl _) _)).keep ((Below.refl _ _).alloc (Nat.le_refl _) _), h1.below ((Below.refl _ _).alloc (Nat.le_refl _) _), h2, (hb2.alloc hb2.size _).alloc (by have := hb2.size; simp; omega) _⟩
    have hq2b := hq2.keep ((Below.refl _ _).alloc (Nat.le_refl _) (.cells #[.int .i64 0, .int .i64 x.g, .int .i64 x.k, .int .i64 x.l, .int .i64 x.s, .int .i64 x.c] 89))
    obtain ⟨f0, f1, f2, f3, f4, f5, f6, f7, f8, f9, f10, -, -⟩ := hq2b.1.facts
    clear hq1
    go_wp2_with fail
    clear f0 f1 f2 f3 f4 f5 f6 f7 f8 f9 f10
    go_region_held3 (fun W => (W.cell? ⟨w.heap.size, 0, none⟩ = some (.int .i64 x.k) ∧ W.cell? ⟨w.heap.size, 1, none⟩ = some (.int .i64 x.l) ∧ W.cell? ⟨w.heap.size, 2, none⟩ = some (.int .i64 x.g) ∧ W.cell? ⟨w.heap.size, 3, none⟩ = some (.int .i64 x.s) ∧ W.cell? ⟨w.heap.size, 4, none⟩ = some (.int .i64 x.c) ∧ W.cell? ⟨w.heap.size, 5, none⟩ = some (.int .i64 x.d0) ∧ W.cell? ⟨w.heap.size, 6, none⟩ = some (.int .i64 x.d1) ∧ W.cell? ⟨w.heap.size, 7, none⟩ = some (.int .i64 x.d2) ∧ W.cell? ⟨w.heap.size, 8, none⟩ = some (.int .i64 x.d3) ∧ W.cell? ⟨w.heap.size, 9, none⟩ = some (.int .i64 x.o) ∧ W.cell? ⟨w.heap.size, 10, none⟩ = some (.int .i64 x.t)) ∧ (W.cell? ⟨w2.heap.size, 0, none⟩ = some (.int .i64 0) ∧ W.cell? ⟨w2.heap.size, 1, none⟩ = some (.int .i64 x.g) ∧ W.cell? ⟨w2.heap.size, 2, none⟩ = some (.int .i64 x.k) ∧ W.cell? ⟨w2.heap.size, 3, none⟩ = some (.int .i64 x.l) ∧ W.cell? ⟨w2.heap.size, 4, none⟩ = some (.int .i64 x.s) ∧ W.cell? ⟨w2.heap.size, 5, none⟩ = some (.int .i64 x.c)) ∧ (W.cell? ⟨w2.heap.size + 1, 0, none⟩ = some (.int .i64 0) ∧ W.cell? ⟨w2.heap.size + 1, 1, none⟩ = some (.int .i64 x.g) ∧ W.cell? ⟨w2.heap.size + 1, 2, none⟩ = some (.int .i64 x.k) ∧ W.cell? ⟨w2.heap.size + 1, 3, none⟩ = some (.int .i64 x.l) ∧ W.cell? ⟨w2.heap.size + 1, 4, none⟩ = some (.int .i64 x.s) ∧ W.cell? ⟨w2.heap.size + 1, 5, none⟩ = some (.int .i64 x.c)) ∧ PutsS w w1 W x 0 w2.heap.size (w2.heap.size + 1))
      (first | exact hp3.out.cells | exact (hp3.out.keep (bl2 _)).cells | exact hp5.cells | exact hp4.cells | fail "keep")
      (first
        | (go_at_call 74; refine (HSN.out _).mono ?_; rintro e w4 ⟨rfl, hb4⟩; have hp4 := PutsS.keep (And.right (And.right (And.right (by assumption)))) hb4)
        | (go_at_call 75; refine (HRS.out _).mono ?_; rintro e w5 ⟨rfl, hb5⟩; have hp5 := PutsS.keep (And.right (And.right (And.right (by assumption)))) hb5)
        | fail "arm")
    have hq5b := hp5.2.2.2
    have HQ5 := hid hp5.1
    clear hp3 hq2 hq2b hp4 hp5
    obtain ⟨f0, f1, f2, f3, f4, f5, f6, f7, f8, f9, f10, -, -⟩ := HQ5.out.1.facts
    have hrs := HRS.out
    rw [HX.out] at hrs
    have HRF := hid hrs
    obtain ⟨g1, cur1, rfl, -⟩ := ho1.open (by omega)
    have HO1 := hid ho1.cells
    have hc2 : 128 ≤ c1 := ho1.le.1
    have HQQ := hid (hq5b)
    clear hrs ho1 hb1 hb2 hq5b
    go_wp2_with fail
    refine (HRF.out _).mono ?_
    clear f0 f1 f2 f3 f4 f5 f6 f7 f8 f9 f10
    rintro e w6 ⟨rfl, hb6⟩
    have hq6 := HQ5.out.keep hb6
    have hq66 := below_t HQQ.out hb6 HQQ.out.size
    have hg := getN_any (some ⟨g1, 0, none⟩) (putS b 0 (encL x)) c1 0 w6 (HO1.out.below hq66 (Nat.le_refl _)) (by rw [HPL.out]; exact hc2)
    have hgp := HGP.out
    rw [show ((0 : Nat) : Int) = 0 from rfl] at hgp
    rw [hgp, HPL.out] at hg
    have HG := hid hg
    clear hg hgp hb6
    go_wp2_with fail
    refine HG.out.mono ?_
    rintro e w7 ⟨rfl, hb7⟩
    have hq7 := hq6.keep hb7
    have hq77 := below_t hq66 hb7 hq66.size
    have HT : Hid (TwoS w (w7.alloc (.cells #[.int .i64 x.k, .int .i64 x.l, .int .i64 x.g, .int .i64 x.s, .int .i64 x.c, .int .i64 x.d0, .int .i64 x.d1, .int .i64 x.d2, .int .i64 x.d3, .int .i64 x.o, .int .i64 x.t] 84)) x w7.heap.size) := hid ⟨hq7.keep ((Below.refl _ _).alloc (Nat.le_refl _) _), BoxN.new w7 x⟩
    have hw0 := hq77.alloc hq77.size (.cells #[.int .i64 x.k, .int .i64 x.l, .int .i64 x.g, .int .i64 x.s, .int .i64 x.c, .int .i64 x.d0, .int .i64 x.d1, .int .i64 x.d2, .int .i64 x.d3, .int .i64 x.o, .int .i64 x.t] 84)
    obtain ⟨P, hP⟩ : ∃ P, P = b.take (32 * 0) := ⟨_, rfl⟩
    obtain ⟨D, hD⟩ : ∃ D, D = b.drop (32 * 0 + 32) := ⟨_, rfl⟩
    obtain ⟨E, hE⟩ : ∃ E, E = encL x := ⟨_, rfl⟩
    have hen := HEN.out
    rw [← hE] at hen
    have HENE := hid hen
    have hbl := HBL.out
    have hPl : P.length = 32 * 0 := by rw [hP, List.length_take]; omega
    have hDl : D.length = 96 - 32 * 0 := by rw [hD, List.length_drop]; omega
    have hEl : E.length = 32 := by rw [hE]; exact encL_len x
    have hz1 : ¬ 9223372036854775807 < P.length + E.length := by omega
    have hz2 : ¬ 9223372036854775807 < P.length + E.length + D.length := by omega
    have hPED : putS b 0 (encL x) = P ++ E ++ D := by rw [putS, hP, hD, hE]
    have hv1 : ∀ W, TwoS w W x w7.heap.size ∧ Below w1.heap.size w1 W → (convert 22 9 (.slice (some ⟨g1, 0, none⟩) 128 c1)).run Try.prog W = .ok (.string (bstr (P ++ E ++ D))) W := fun W hW => by
      have := cv_bytes c1 (HO1.out.below hW.2 (Nat.le_refl _))
      rwa [HPL.out, hPED] at this
    have hv2 : ∀ W, TwoS w W x w7.heap.size ∧ Below w1.heap.size w1 W → (convert 22 9 (.slice (some ⟨g0, off, none⟩) 0 c)).run Try.prog W = .ok (.string (bstr P)) W := fun W hW => by
      have h1 := (HB.out.below hW.1.1.2 (Nat.le_refl _)).take (32 * 0)
      rw [← List.map_take, ← hP] at h1
      have := cv_bytes c h1
      rwa [hPl] at this
    have hv3 : ∀ W, TwoS w W x w7.heap.size ∧ Below w1.heap.size w1 W → (convert 22 9 (.slice (some ⟨g0, off + 32, none⟩) 96 (c - 32))).run Try.prog W = .ok (.string (bstr D)) W := fun W hW => by
      have h1 : Bytes W (some ⟨g0, off + 32, none⟩) D := by 
        have h2 := Cells.drop (HB.out.below hW.1.1.2 (Nat.le_refl _)) (32 * 0 + 32)
        rw [← List.map_drop, ← hD] at h2
        exact h2
      have := cv_bytes ((c - 32)) h1
      rwa [hDl] at this
    have hsm := eq84_same x
    have hs82 := eq82_same x
    have hwn : ∀ n : Int, 0 ≤ n → n ≤ 200 → IntKind.i64.wrap n = n := fun n h1 h2 => by rw [IntKind.wrap_i64]; omega
    have hck : (32 : Int) ≤ c := by omega
    have hckq : (0 : Int) ≤ c := by omega
    have hcn : ¬ c = 32 := by omega
    have HPD := hid hPED
    have HW0 := hid hw0
    clear hP hD hE hen hbl hPED hq7 hq77 hq6 hq66 hb7 hPl hDl hEl hw0
    go_wp2_with fail
    go_region_held3 (fun W => (W.cell? ⟨w.heap.size, 0, none⟩ = some (.int .i64 x.k) ∧ W.cell? ⟨w.heap.size, 1, none⟩ = some (.int .i64 x.l) ∧ W.cell? ⟨w.heap.size, 2, none⟩ = some (.int .i64 x.g) ∧ W.cell? ⟨w.heap.size, 3, none⟩ = some (.int .i64 x.s) ∧ W.cell? ⟨w.heap.size, 4, none⟩ = some (.int .i64 x.c) ∧ W.cell? ⟨w.heap.size, 5, none⟩ = some (.int .i64 x.d0) ∧ W.cell? ⟨w.heap.size, 6, none⟩ = some (.int .i64 x.d1) ∧ W.cell? ⟨w.heap.size, 7, none⟩ = some (.int .i64 x.d2) ∧ W.cell? ⟨w.heap.size, 8, none⟩ = some (.int .i64 x.d3) ∧ W.cell? ⟨w.heap.size, 9, none⟩ = some (.int .i64 x.o) ∧ W.cell? ⟨w.heap.size, 10, none⟩ = some (.int .i64 x.t)) ∧ (W.cell? ⟨w7.heap.size, 0, none⟩ = some (.int .i64 x.k) ∧ W.cell? ⟨w7.heap.size, 1, none⟩ = some (.int .i64 x.l) ∧ W.cell? ⟨w7.heap.size, 2, none⟩ = some (.int .i64 x.g) ∧ W.cell? ⟨w7.heap.size, 3, none⟩ = some (.int .i64 x.s) ∧ W.cell? ⟨w7.heap.size, 4, none⟩ = some (.int .i64 x.c) ∧ W.cell? ⟨w7.heap.size, 5, none⟩ = some (.int .i64 x.d0) ∧ W.cell? ⟨w7.heap.size, 6, none⟩ = some (.int .i64 x.d1) ∧ W.cell? ⟨w7.heap.size, 7, none⟩ = some (.int .i64 x.d2) ∧ W.cell? ⟨w7.heap.size, 8, none⟩ = some (.int .i64 x.d3) ∧ W.cell? ⟨w7.heap.size, 9, none⟩ = some (.int .i64 x.o) ∧ W.cell? ⟨w7.heap.size, 10, none⟩ = some (.int .i64 x.t)) ∧ TwoS w W x w7.heap.size ∧ Below w1.heap.size w1 W)
      (first | exact twoB HT.out HW0.out | exact twoB (HT.out.keep (bl2 _)) (below_t HW0.out (bl2 _) HW0.out.size) | exact twoB hp9.1 hp9.2 | exact twoB hp8.1 hp8.2 | fail "keep")
      (first
        | (go_at_call 76; refine (awake10_any _).mono ?_; rintro e w8 ⟨rfl, hb8⟩; have hp8 := twoK (And.right (And.right (by assumption))) hb8)
        | (go_at_call 78; refine (HENE.out _).mono ?_; rintro e w9 ⟨rfl, hb9⟩; have hp9 := twoK (And.right (And.right (by assumption))) hb9)
        | fail "arm")
    go_wp2
    go_ret
    exact ⟨ret_bool (by rw [bstr_append, bstr_append]; simp), hp9.1.1.2⟩
  · rw [show ((1 : Nat) : Int) = 1 from rfl] at HP ⊢
    have hL : Hid (LastS2 w (w.alloc (.cells #[.int .i64 x.k, .int .i64 x.l, .int .i64 x.g, .int .i64 x.s, .int .i64 x.c, .int .i64 x.d0, .int .i64 x.d1, .int .i64 x.d2, .int .i64 x.d3, .int .i64 x.o, .int .i64 x.t] 84)) x) := hid (LastS2.new w x)
    have HST := hid (fun W => stat_any 1 x W)
    have HSN := hid (soundN_any x)
    have HRS := hid (rsoundN_any x)
    obtain ⟨f0, f1, f2, f3, f4, f5, f6, f7, f8, f9, f10, -, -⟩ := hL.out.1.facts
    go_enter Try.func18, Try.ntmps18
    go_wp2_with fail
    refine (HP.out _ (HB.out.below hL.out.2 (Nat.le_refl _))).mono ?_
    clear f0 f1 f2 f3 f4 f5 f6 f7 f8 f9 f10
    rintro e w1 ⟨A1, c1, rfl, ho1, hb1⟩
    have hq1 := hL.out.keep hb1
    obtain ⟨f0, f1, f2, f3, f4, f5, f6, f7, f8, f9, f10, -, -⟩ := hq1.1.facts
    go_wp2_with fail
    refine (HST.out _).mono ?_
    clear f0 f1 f2 f3 f4 f5 f6 f7 f8 f9 f10
    rintro e w2 ⟨rfl, hb2⟩
    have hq2 := hq1.keep hb2
    have hp3 : Hid (PutsS w w1 ((w2.alloc (.cells #[.int .i64 1, .int .i64 x.g, .int .i64 x.k, .int .i64 x.l, .int .i64 x.s, .int .i64 x.c] 89)).alloc (.cells #[.int .i64 1, .int .i64 x.g, .int .i64 x.k, .int .i64 x.l, .int .i64 x.s, .int .i64 x.c] 89)) x 1 w2.heap.size (w2.heap.size + 1)) := by
      have h1 : BoxS (w2.alloc (.cells #[.int .i64 1, .int .i64 x.g, .int .i64 x.k, .int .i64 x.l, .int .i64 x.s, .int .i64 x.c] 89)) w2.heap.size 1 x := heap_alloc_new w2 _
      have h2 : BoxS ((w2.alloc (.cells #[.int .i64 1, .int .i64 x.g, .int .i64 x.k, .int .i64 x.l, .int .i64 x.s, .int .i64 x.c] 89)).alloc (.cells #[.int .i64 1, .int .i64 x.g, .int .i64 x.k, .int .i64 x.l, .int .i64 x.s, .int .i64 x.c] 89)) (w2.heap.size + 1) 1 x := by
        have := heap_alloc_new (w2.alloc (.cells #[.int .i64 1, .int .i64 x.g, .int .i64 x.k, .int .i64 x.l, .int .i64 x.s, .int .i64 x.c] 89)) (.cells #[.int .i64 1, .int .i64 x.g, .int .i64 x.k, .int .i64 x.l, .int .i64 x.s, .int .i64 x.c] 89)
        rw [World.size_alloc] at this
        exact this
      exact hid ⟨(hq2.keep ((Below.refl _ _).alloc (Nat.le_refl _) _)).keep ((Below.refl _ _).alloc (Nat.le_refl _) _), h1.below ((Below.refl _ _).alloc (Nat.le_refl _) _), h2, (hb2.alloc hb2.size _).alloc (by have := hb2.size; simp; omega) _⟩
    have hq2b := hq2.keep ((Below.refl _ _).alloc (Nat.le_refl _) (.cells #[.int .i64 1, .int .i64 x.g, .int .i64 x.k, .int .i64 x.l, .int .i64 x.s, .int .i64 x.c] 89))
    obtain ⟨f0, f1, f2, f3, f4, f5, f6, f7, f8, f9, f10, -, -⟩ := hq2b.1.facts
    clear hq1
    go_wp2_with fail
    clear f0 f1 f2 f3 f4 f5 f6 f7 f8 f9 f10
    go_region_held3 (fun W => (W.cell? ⟨w.heap.size, 0, none⟩ = some (.int .i64 x.k) ∧ W.cell? ⟨w.heap.size, 1, none⟩ = some (.int .i64 x.l) ∧ W.cell? ⟨w.heap.size, 2, none⟩ = some (.int .i64 x.g) ∧ W.cell? ⟨w.heap.size, 3, none⟩ = some (.int .i64 x.s) ∧ W.cell? ⟨w.heap.size, 4, none⟩ = some (.int .i64 x.c) ∧ W.cell? ⟨w.heap.size, 5, none⟩ = some (.int .i64 x.d0) ∧ W.cell? ⟨w.heap.size, 6, none⟩ = some (.int .i64 x.d1) ∧ W.cell? ⟨w.heap.size, 7, none⟩ = some (.int .i64 x.d2) ∧ W.cell? ⟨w.heap.size, 8, none⟩ = some (.int .i64 x.d3) ∧ W.cell? ⟨w.heap.size, 9, none⟩ = some (.int .i64 x.o) ∧ W.cell? ⟨w.heap.size, 10, none⟩ = some (.int .i64 x.t)) ∧ (W.cell? ⟨w2.heap.size, 0, none⟩ = some (.int .i64 1) ∧ W.cell? ⟨w2.heap.size, 1, none⟩ = some (.int .i64 x.g) ∧ W.cell? ⟨w2.heap.size, 2, none⟩ = some (.int .i64 x.k) ∧ W.cell? ⟨w2.heap.size, 3, none⟩ = some (.int .i64 x.l) ∧ W.cell? ⟨w2.heap.size, 4, none⟩ = some (.int .i64 x.s) ∧ W.cell? ⟨w2.heap.size, 5, none⟩ = some (.int .i64 x.c)) ∧ (W.cell? ⟨w2.heap.size + 1, 0, none⟩ = some (.int .i64 1) ∧ W.cell? ⟨w2.heap.size + 1, 1, none⟩ = some (.int .i64 x.g) ∧ W.cell? ⟨w2.heap.size + 1, 2, none⟩ = some (.int .i64 x.k) ∧ W.cell? ⟨w2.heap.size + 1, 3, none⟩ = some (.int .i64 x.l) ∧ W.cell? ⟨w2.heap.size + 1, 4, none⟩ = some (.int .i64 x.s) ∧ W.cell? ⟨w2.heap.size + 1, 5, none⟩ = some (.int .i64 x.c)) ∧ PutsS w w1 W x 1 w2.heap.size (w2.heap.size + 1))
      (first | exact hp3.out.cells | exact (hp3.out.keep (bl2 _)).cells | exact hp5.cells | exact hp4.cells | fail "keep")
      (first
        | (go_at_call 74; refine (HSN.out _).mono ?_; rintro e w4 ⟨rfl, hb4⟩; have hp4 := PutsS.keep (And.right (And.right (And.right (by assumption)))) hb4)
        | (go_at_call 75; refine (HRS.out _).mono ?_; rintro e w5 ⟨rfl, hb5⟩; have hp5 := PutsS.keep (And.right (And.right (And.right (by assumption)))) hb5)
        | fail "arm")
    have hq5b := hp5.2.2.2
    have HQ5 := hid hp5.1
    clear hp3 hq2 hq2b hp4 hp5
    obtain ⟨f0, f1, f2, f3, f4, f5, f6, f7, f8, f9, f10, -, -⟩ := HQ5.out.1.facts
    have hrs := HRS.out
    rw [HX.out] at hrs
    have HRF := hid hrs
    obtain ⟨g1, cur1, rfl, -⟩ := ho1.open (by omega)
    have HO1 := hid ho1.cells
    have hc2 : 128 ≤ c1 := ho1.le.1
    have HQQ := hid (hq5b)
    clear hrs ho1 hb1 hb2 hq5b
    go_wp2_with fail
    refine (HRF.out _).mono ?_
    clear f0 f1 f2 f3 f4 f5 f6 f7 f8 f9 f10
    rintro e w6 ⟨rfl, hb6⟩
    have hq6 := HQ5.out.keep hb6
    have hq66 := below_t HQQ.out hb6 HQQ.out.size
    have hg := getN_any (some ⟨g1, 0, none⟩) (putS b 1 (encL x)) c1 1 w6 (HO1.out.below hq66 (Nat.le_refl _)) (by rw [HPL.out]; exact hc2)
    have hgp := HGP.out
    rw [show ((1 : Nat) : Int) = 1 from rfl] at hgp
    rw [hgp, HPL.out] at hg
    have HG := hid hg
    clear hg hgp hb6
    go_wp2_with fail
    refine HG.out.mono ?_
    rintro e w7 ⟨rfl, hb7⟩
    have hq7 := hq6.keep hb7
    have hq77 := below_t hq66 hb7 hq66.size
    have HT : Hid (TwoS w (w7.alloc (.cells #[.int .i64 x.k, .int .i64 x.l, .int .i64 x.g, .int .i64 x.s, .int .i64 x.c, .int .i64 x.d0, .int .i64 x.d1, .int .i64 x.d2, .int .i64 x.d3, .int .i64 x.o, .int .i64 x.t] 84)) x w7.heap.size) := hid ⟨hq7.keep ((Below.refl _ _).alloc (Nat.le_refl _) _), BoxN.new w7 x⟩
    have hw0 := hq77.alloc hq77.size (.cells #[.int .i64 x.k, .int .i64 x.l, .int .i64 x.g, .int .i64 x.s, .int .i64 x.c, .int .i64 x.d0, .int .i64 x.d1, .int .i64 x.d2, .int .i64 x.d3, .int .i64 x.o, .int .i64 x.t] 84)
    obtain ⟨P, hP⟩ : ∃ P, P = b.take (32 * 1) := ⟨_, rfl⟩
    obtain ⟨D, hD⟩ : ∃ D, D = b.drop (32 * 1 + 32) := ⟨_, rfl⟩
    obtain ⟨E, hE⟩ : ∃ E, E = encL x := ⟨_, rfl⟩
    have hen := HEN.out
    rw [← hE] at hen
    have HENE := hid hen
    have hbl := HBL.out
    have hPl : P.length = 32 * 1 := by rw [hP, List.length_take]; omega
    have hDl : D.length = 96 - 32 * 1 := by rw [hD, List.length_drop]; omega
    have hEl : E.length = 32 := by rw [hE]; exact encL_len x
    have hz1 : ¬ 9223372036854775807 < P.length + E.length := by omega
    have hz2 : ¬ 9223372036854775807 < P.length + E.length + D.length := by omega
    have hPED : putS b 1 (encL x) = P ++ E ++ D := by rw [putS, hP, hD, hE]
    have hv1 : ∀ W, TwoS w W x w7.heap.size ∧ Below w1.heap.size w1 W → (convert 22 9 (.slice (some ⟨g1, 0, none⟩) 128 c1)).run Try.prog W = .ok (.string (bstr (P ++ E ++ D))) W := fun W hW => by
      have := cv_bytes c1 (HO1.out.below hW.2 (Nat.le_refl _))
      rwa [HPL.out, hPED] at this
    have hv2 : ∀ W, TwoS w W x w7.heap.size ∧ Below w1.heap.size w1 W → (convert 22 9 (.slice (some ⟨g0, off, none⟩) 32 c)).run Try.prog W = .ok (.string (bstr P)) W := fun W hW => by
      have h1 := (HB.out.below hW.1.1.2 (Nat.le_refl _)).take (32 * 1)
      rw [← List.map_take, ← hP] at h1
      have := cv_bytes c h1
      rwa [hPl] at this
    have hv3 : ∀ W, TwoS w W x w7.heap.size ∧ Below w1.heap.size w1 W → (convert 22 9 (.slice (some ⟨g0, off + 64, none⟩) 64 (c - 64))).run Try.prog W = .ok (.string (bstr D)) W := fun W hW => by
      have h1 : Bytes W (some ⟨g0, off + 64, none⟩) D := by 
        have h2 := Cells.drop (HB.out.below hW.1.1.2 (Nat.le_refl _)) (32 * 1 + 32)
        rw [← List.map_drop, ← hD] at h2
        exact h2
      have := cv_bytes ((c - 64)) h1
      rwa [hDl] at this
    have hsm := eq84_same x
    have hs82 := eq82_same x
    have hwn : ∀ n : Int, 0 ≤ n → n ≤ 200 → IntKind.i64.wrap n = n := fun n h1 h2 => by rw [IntKind.wrap_i64]; omega
    have hck : (64 : Int) ≤ c := by omega
    have hckq : (32 : Int) ≤ c := by omega
    have hcn : ¬ c = 64 := by omega
    have HPD := hid hPED
    have HW0 := hid hw0
    clear hP hD hE hen hbl hPED hq7 hq77 hq6 hq66 hb7 hPl hDl hEl hw0
    go_wp2_with fail
    go_region_held3 (fun W => (W.cell? ⟨w.heap.size, 0, none⟩ = some (.int .i64 x.k) ∧ W.cell? ⟨w.heap.size, 1, none⟩ = some (.int .i64 x.l) ∧ W.cell? ⟨w.heap.size, 2, none⟩ = some (.int .i64 x.g) ∧ W.cell? ⟨w.heap.size, 3, none⟩ = some (.int .i64 x.s) ∧ W.cell? ⟨w.heap.size, 4, none⟩ = some (.int .i64 x.c) ∧ W.cell? ⟨w.heap.size, 5, none⟩ = some (.int .i64 x.d0) ∧ W.cell? ⟨w.heap.size, 6, none⟩ = some (.int .i64 x.d1) ∧ W.cell? ⟨w.heap.size, 7, none⟩ = some (.int .i64 x.d2) ∧ W.cell? ⟨w.heap.size, 8, none⟩ = some (.int .i64 x.d3) ∧ W.cell? ⟨w.heap.size, 9, none⟩ = some (.int .i64 x.o) ∧ W.cell? ⟨w.heap.size, 10, none⟩ = some (.int .i64 x.t)) ∧ (W.cell? ⟨w7.heap.size, 0, none⟩ = some (.int .i64 x.k) ∧ W.cell? ⟨w7.heap.size, 1, none⟩ = some (.int .i64 x.l) ∧ W.cell? ⟨w7.heap.size, 2, none⟩ = some (.int .i64 x.g) ∧ W.cell? ⟨w7.heap.size, 3, none⟩ = some (.int .i64 x.s) ∧ W.cell? ⟨w7.heap.size, 4, none⟩ = some (.int .i64 x.c) ∧ W.cell? ⟨w7.heap.size, 5, none⟩ = some (.int .i64 x.d0) ∧ W.cell? ⟨w7.heap.size, 6, none⟩ = some (.int .i64 x.d1) ∧ W.cell? ⟨w7.heap.size, 7, none⟩ = some (.int .i64 x.d2) ∧ W.cell? ⟨w7.heap.size, 8, none⟩ = some (.int .i64 x.d3) ∧ W.cell? ⟨w7.heap.size, 9, none⟩ = some (.int .i64 x.o) ∧ W.cell? ⟨w7.heap.size, 10, none⟩ = some (.int .i64 x.t)) ∧ TwoS w W x w7.heap.size ∧ Below w1.heap.size w1 W)
      (first | exact twoB HT.out HW0.out | exact twoB (HT.out.keep (bl2 _)) (below_t HW0.out (bl2 _) HW0.out.size) | exact twoB hp9.1 hp9.2 | exact twoB hp8.1 hp8.2 | fail "keep")
      (first
        | (go_at_call 76; refine (awake10_any _).mono ?_; rintro e w8 ⟨rfl, hb8⟩; have hp8 := twoK (And.right (And.right (by assumption))) hb8)
        | (go_at_call 78; refine (HENE.out _).mono ?_; rintro e w9 ⟨rfl, hb9⟩; have hp9 := twoK (And.right (And.right (by assumption))) hb9)
        | fail "arm")
    go_wp2
    go_ret
    exact ⟨ret_bool (by rw [bstr_append, bstr_append]; simp), hp9.1.1.2⟩
  · rw [show ((2 : Nat) : Int) = 2 from rfl] at HP ⊢
    have hL : Hid (LastS2 w (w.alloc (.cells #[.int .i64 x.k, .int .i64 x.l, .int .i64 x.g, .int .i64 x.s, .int .i64 x.c, .int .i64 x.d0, .int .i64 x.d1, .int .i64 x.d2, .int .i64 x.d3, .int .i64 x.o, .int .i64 x.t] 84)) x) := hid (LastS2.new w x)
    have HST := hid (fun W => stat_any 2 x W)
    have HSN := hid (soundN_any x)
    have HRS := hid (rsoundN_any x)
    obtain ⟨f0, f1, f2, f3, f4, f5, f6, f7, f8, f9, f10, -, -⟩ := hL.out.1.facts
    go_enter Try.func18, Try.ntmps18
    go_wp2_with fail
    refine (HP.out _ (HB.out.below hL.out.2 (Nat.le_refl _))).mono ?_
    clear f0 f1 f2 f3 f4 f5 f6 f7 f8 f9 f10
    rintro e w1 ⟨A1, c1, rfl, ho1, hb1⟩
    have hq1 := hL.out.keep hb1
    obtain ⟨f0, f1, f2, f3, f4, f5, f6, f7, f8, f9, f10, -, -⟩ := hq1.1.facts
    go_wp2_with fail
    refine (HST.out _).mono ?_
    clear f0 f1 f2 f3 f4 f5 f6 f7 f8 f9 f10
    rintro e w2 ⟨rfl, hb2⟩
    have hq2 := hq1.keep hb2
    have hp3 : Hid (PutsS w w1 ((w2.alloc (.cells #[.int .i64 2, .int .i64 x.g, .int .i64 x.k, .int .i64 x.l, .int .i64 x.s, .int .i64 x.c] 89)).alloc (.cells #[.int .i64 2, .int .i64 x.g, .int .i64 x.k, .int .i64 x.l, .int .i64 x.s, .int .i64 x.c] 89)) x 2 w2.heap.size (w2.heap.size + 1)) := by
      have h1 : BoxS (w2.alloc (.cells #[.int .i64 2, .int .i64 x.g, .int .i64 x.k, .int .i64 x.l, .int .i64 x.s, .int .i64 x.c] 89)) w2.heap.size 2 x := heap_alloc_new w2 _
      have h2 : BoxS ((w2.alloc (.cells #[.int .i64 2, .int .i64 x.g, .int .i64 x.k, .int .i64 x.l, .int .i64 x.s, .int .i64 x.c] 89)).alloc (.cells #[.int .i64 2, .int .i64 x.g, .int .i64 x.k, .int .i64 x.l, .int .i64 x.s, .int .i64 x.c] 89)) (w2.heap.size + 1) 2 x := by
        have := heap_alloc_new (w2.alloc (.cells #[.int .i64 2, .int .i64 x.g, .int .i64 x.k, .int .i64 x.l, .int .i64 x.s, .int .i64 x.c] 89)) (.cells #[.int .i64 2, .int .i64 x.g, .int .i64 x.k, .int .i64 x.l, .int .i64 x.s, .int .i64 x.c] 89)
        rw [World.size_alloc] at this
        exact this
      exact hid ⟨(hq2.keep ((Below.refl _ _).alloc (Nat.le_refl _) _)).keep ((Below.refl _ _).alloc (Nat.le_refl _) _), h1.below ((Below.refl _ _).alloc (Nat.le_refl _) _), h2, (hb2.alloc hb2.size _).alloc (by have := hb2.size; simp; omega) _⟩
    have hq2b := hq2.keep ((Below.refl _ _).alloc (Nat.le_refl _) (.cells #[.int .i64 2, .int .i64 x.g, .int .i64 x.k, .int .i64 x.l, .int .i64 x.s, .int .i64 x.c] 89))
    obtain ⟨f0, f1, f2, f3, f4, f5, f6, f7, f8, f9, f10, -, -⟩ := hq2b.1.facts
    clear hq1
    go_wp2_with fail
    clear f0 f1 f2 f3 f4 f5 f6 f7 f8 f9 f10
    go_region_held3 (fun W => (W.cell? ⟨w.heap.size, 0, none⟩ = some (.int .i64 x.k) ∧ W.cell? ⟨w.heap.size, 1, none⟩ = some (.int .i64 x.l) ∧ W.cell? ⟨w.heap.size, 2, none⟩ = some (.int .i64 x.g) ∧ W.cell? ⟨w.heap.size, 3, none⟩ = some (.int .i64 x.s) ∧ W.cell? ⟨w.heap.size, 4, none⟩ = some (.int .i64 x.c) ∧ W.cell? ⟨w.heap.size, 5, none⟩ = some (.int .i64 x.d0) ∧ W.cell? ⟨w.heap.size, 6, none⟩ = some (.int .i64 x.d1) ∧ W.cell? ⟨w.heap.size, 7, none⟩ = some (.int .i64 x.d2) ∧ W.cell? ⟨w.heap.size, 8, none⟩ = some (.int .i64 x.d3) ∧ W.cell? ⟨w.heap.size, 9, none⟩ = some (.int .i64 x.o) ∧ W.cell? ⟨w.heap.size, 10, none⟩ = some (.int .i64 x.t)) ∧ (W.cell? ⟨w2.heap.size, 0, none⟩ = some (.int .i64 2) ∧ W.cell? ⟨w2.heap.size, 1, none⟩ = some (.int .i64 x.g) ∧ W.cell? ⟨w2.heap.size, 2, none⟩ = some (.int .i64 x.k) ∧ W.cell? ⟨w2.heap.size, 3, none⟩ = some (.int .i64 x.l) ∧ W.cell? ⟨w2.heap.size, 4, none⟩ = some (.int .i64 x.s) ∧ W.cell? ⟨w2.heap.size, 5, none⟩ = some (.int .i64 x.c)) ∧ (W.cell? ⟨w2.heap.size + 1, 0, none⟩ = some (.int .i64 2) ∧ W.cell? ⟨w2.heap.size + 1, 1, none⟩ = some (.int .i64 x.g) ∧ W.cell? ⟨w2.heap.size + 1, 2, none⟩ = some (.int .i64 x.k) ∧ W.cell? ⟨w2.heap.size + 1, 3, none⟩ = some (.int .i64 x.l) ∧ W.cell? ⟨w2.heap.size + 1, 4, none⟩ = some (.int .i64 x.s) ∧ W.cell? ⟨w2.heap.size + 1, 5, none⟩ = some (.int .i64 x.c)) ∧ PutsS w w1 W x 2 w2.heap.size (w2.heap.size + 1))
      (first | exact hp3.out.cells | exact (hp3.out.keep (bl2 _)).cells | exact hp5.cells | exact hp4.cells | fail "keep")
      (first
        | (go_at_call 74; refine (HSN.out _).mono ?_; rintro e w4 ⟨rfl, hb4⟩; have hp4 := PutsS.keep (And.right (And.right (And.right (by assumption)))) hb4)
        | (go_at_call 75; refine (HRS.out _).mono ?_; rintro e w5 ⟨rfl, hb5⟩; have hp5 := PutsS.keep (And.right (And.right (And.right (by assumption)))) hb5)
        | fail "arm")
    have hq5b := hp5.2.2.2
    have HQ5 := hid hp5.1
    clear hp3 hq2 hq2b hp4 hp5
    obtain ⟨f0, f1, f2, f3, f4, f5, f6, f7, f8, f9, f10, -, -⟩ := HQ5.out.1.facts
    have hrs := HRS.out
    rw [HX.out] at hrs
    have HRF := hid hrs
    obtain ⟨g1, cur1, rfl, -⟩ := ho1.open (by omega)
    have HO1 := hid ho1.cells
    have hc2 : 128 ≤ c1 := ho1.le.1
    have HQQ := hid (hq5b)
    clear hrs ho1 hb1 hb2 hq5b
    go_wp2_with fail
    refine (HRF.out _).mono ?_
    clear f0 f1 f2 f3 f4 f5 f6 f7 f8 f9 f10
    rintro e w6 ⟨rfl, hb6⟩
    have hq6 := HQ5.out.keep hb6
    have hq66 := below_t HQQ.out hb6 HQQ.out.size
    have hg := getN_any (some ⟨g1, 0, none⟩) (putS b 2 (encL x)) c1 2 w6 (HO1.out.below hq66 (Nat.le_refl _)) (by rw [HPL.out]; exact hc2)
    have hgp := HGP.out
    rw [show ((2 : Nat) : Int) = 2 from rfl] at hgp
    rw [hgp, HPL.out] at hg
    have HG := hid hg
    clear hg hgp hb6
    go_wp2_with fail
    refine HG.out.mono ?_
    rintro e w7 ⟨rfl, hb7⟩
    have hq7 := hq6.keep hb7
    have hq77 := below_t hq66 hb7 hq66.size
    have HT : Hid (TwoS w (w7.alloc (.cells #[.int .i64 x.k, .int .i64 x.l, .int .i64 x.g, .int .i64 x.s, .int .i64 x.c, .int .i64 x.d0, .int .i64 x.d1, .int .i64 x.d2, .int .i64 x.d3, .int .i64 x.o, .int .i64 x.t] 84)) x w7.heap.size) := hid ⟨hq7.keep ((Below.refl _ _).alloc (Nat.le_refl _) _), BoxN.new w7 x⟩
    have hw0 := hq77.alloc hq77.size (.cells #[.int .i64 x.k, .int .i64 x.l, .int .i64 x.g, .int .i64 x.s, .int .i64 x.c, .int .i64 x.d0, .int .i64 x.d1, .int .i64 x.d2, .int .i64 x.d3, .int .i64 x.o, .int .i64 x.t] 84)
    obtain ⟨P, hP⟩ : ∃ P, P = b.take (32 * 2) := ⟨_, rfl⟩
    obtain ⟨D, hD⟩ : ∃ D, D = b.drop (32 * 2 + 32) := ⟨_, rfl⟩
    obtain ⟨E, hE⟩ : ∃ E, E = encL x := ⟨_, rfl⟩
    have hen := HEN.out
    rw [← hE] at hen
    have HENE := hid hen
    have hbl := HBL.out
    have hPl : P.length = 32 * 2 := by rw [hP, List.length_take]; omega
    have hDl : D.length = 96 - 32 * 2 := by rw [hD, List.length_drop]; omega
    have hEl : E.length = 32 := by rw [hE]; exact encL_len x
    have hz1 : ¬ 9223372036854775807 < P.length + E.length := by omega
    have hz2 : ¬ 9223372036854775807 < P.length + E.length + D.length := by omega
    have hPED : putS b 2 (encL x) = P ++ E ++ D := by rw [putS, hP, hD, hE]
    have hv1 : ∀ W, TwoS w W x w7.heap.size ∧ Below w1.heap.size w1 W → (convert 22 9 (.slice (some ⟨g1, 0, none⟩) 128 c1)).run Try.prog W = .ok (.string (bstr (P ++ E ++ D))) W := fun W hW => by
      have := cv_bytes c1 (HO1.out.below hW.2 (Nat.le_refl _))
      rwa [HPL.out, hPED] at this
    have hv2 : ∀ W, TwoS w W x w7.heap.size ∧ Below w1.heap.size w1 W → (convert 22 9 (.slice (some ⟨g0, off, none⟩) 64 c)).run Try.prog W = .ok (.string (bstr P)) W := fun W hW => by
      have h1 := (HB.out.below hW.1.1.2 (Nat.le_refl _)).take (32 * 2)
      rw [← List.map_take, ← hP] at h1
      have := cv_bytes c h1
      rwa [hPl] at this
    have hv3 : ∀ W, TwoS w W x w7.heap.size ∧ Below w1.heap.size w1 W → (convert 22 9 (.slice (some ⟨g0, off + 96, none⟩) 32 (c - 96))).run Try.prog W = .ok (.string (bstr D)) W := fun W hW => by
      have h1 : Bytes W (some ⟨g0, off + 96, none⟩) D := by 
        have h2 := Cells.drop (HB.out.below hW.1.1.2 (Nat.le_refl _)) (32 * 2 + 32)
        rw [← List.map_drop, ← hD] at h2
        exact h2
      have := cv_bytes ((c - 96)) h1
      rwa [hDl] at this
    have hsm := eq84_same x
    have hs82 := eq82_same x
    have hwn : ∀ n : Int, 0 ≤ n → n ≤ 200 → IntKind.i64.wrap n = n := fun n h1 h2 => by rw [IntKind.wrap_i64]; omega
    have hck : (96 : Int) ≤ c := by omega
    have hckq : (64 : Int) ≤ c := by omega
    have hcn : ¬ c = 96 := by omega
    have HPD := hid hPED
    have HW0 := hid hw0
    clear hP hD hE hen hbl hPED hq7 hq77 hq6 hq66 hb7 hPl hDl hEl hw0
    go_wp2_with fail
    go_region_held3 (fun W => (W.cell? ⟨w.heap.size, 0, none⟩ = some (.int .i64 x.k) ∧ W.cell? ⟨w.heap.size, 1, none⟩ = some (.int .i64 x.l) ∧ W.cell? ⟨w.heap.size, 2, none⟩ = some (.int .i64 x.g) ∧ W.cell? ⟨w.heap.size, 3, none⟩ = some (.int .i64 x.s) ∧ W.cell? ⟨w.heap.size, 4, none⟩ = some (.int .i64 x.c) ∧ W.cell? ⟨w.heap.size, 5, none⟩ = some (.int .i64 x.d0) ∧ W.cell? ⟨w.heap.size, 6, none⟩ = some (.int .i64 x.d1) ∧ W.cell? ⟨w.heap.size, 7, none⟩ = some (.int .i64 x.d2) ∧ W.cell? ⟨w.heap.size, 8, none⟩ = some (.int .i64 x.d3) ∧ W.cell? ⟨w.heap.size, 9, none⟩ = some (.int .i64 x.o) ∧ W.cell? ⟨w.heap.size, 10, none⟩ = some (.int .i64 x.t)) ∧ (W.cell? ⟨w7.heap.size, 0, none⟩ = some (.int .i64 x.k) ∧ W.cell? ⟨w7.heap.size, 1, none⟩ = some (.int .i64 x.l) ∧ W.cell? ⟨w7.heap.size, 2, none⟩ = some (.int .i64 x.g) ∧ W.cell? ⟨w7.heap.size, 3, none⟩ = some (.int .i64 x.s) ∧ W.cell? ⟨w7.heap.size, 4, none⟩ = some (.int .i64 x.c) ∧ W.cell? ⟨w7.heap.size, 5, none⟩ = some (.int .i64 x.d0) ∧ W.cell? ⟨w7.heap.size, 6, none⟩ = some (.int .i64 x.d1) ∧ W.cell? ⟨w7.heap.size, 7, none⟩ = some (.int .i64 x.d2) ∧ W.cell? ⟨w7.heap.size, 8, none⟩ = some (.int .i64 x.d3) ∧ W.cell? ⟨w7.heap.size, 9, none⟩ = some (.int .i64 x.o) ∧ W.cell? ⟨w7.heap.size, 10, none⟩ = some (.int .i64 x.t)) ∧ TwoS w W x w7.heap.size ∧ Below w1.heap.size w1 W)
      (first | exact twoB HT.out HW0.out | exact twoB (HT.out.keep (bl2 _)) (below_t HW0.out (bl2 _) HW0.out.size) | exact twoB hp9.1 hp9.2 | exact twoB hp8.1 hp8.2 | fail "keep")
      (first
        | (go_at_call 76; refine (awake10_any _).mono ?_; rintro e w8 ⟨rfl, hb8⟩; have hp8 := twoK (And.right (And.right (by assumption))) hb8)
        | (go_at_call 78; refine (HENE.out _).mono ?_; rintro e w9 ⟨rfl, hb9⟩; have hp9 := twoK (And.right (And.right (by assumption))) hb9)
        | fail "arm")
    go_wp2
    go_ret
    exact ⟨ret_bool (by rw [bstr_append, bstr_append]; simp), hp9.1.1.2⟩
  · rw [show ((3 : Nat) : Int) = 3 from rfl] at HP ⊢
    by_cases hcc : c = 128
    · subst hcc
      have hL : Hid (LastS2 w (w.alloc (.cells #[.int .i64 x.k, .int .i64 x.l, .int .i64 x.g, .int .i64 x.s, .int .i64 x.c, .int .i64 x.d0, .int .i64 x.d1, .int .i64 x.d2, .int .i64 x.d3, .int .i64 x.o, .int .i64 x.t] 84)) x) := hid (LastS2.new w x)
      have HST := hid (fun W => stat_any 3 x W)
      have HSN := hid (soundN_any x)
      have HRS := hid (rsoundN_any x)
      obtain ⟨f0, f1, f2, f3, f4, f5, f6, f7, f8, f9, f10, -, -⟩ := hL.out.1.facts
      go_enter Try.func18, Try.ntmps18
      go_wp2_with fail
      refine (HP.out _ (HB.out.below hL.out.2 (Nat.le_refl _))).mono ?_
      clear f0 f1 f2 f3 f4 f5 f6 f7 f8 f9 f10
      rintro e w1 ⟨A1, c1, rfl, ho1, hb1⟩
      have hq1 := hL.out.keep hb1
      obtain ⟨f0, f1, f2, f3, f4, f5, f6, f7, f8, f9, f10, -, -⟩ := hq1.1.facts
      go_wp2_with fail
      refine (HST.out _).mono ?_
      clear f0 f1 f2 f3 f4 f5 f6 f7 f8 f9 f10
      rintro e w2 ⟨rfl, hb2⟩
      have hq2 := hq1.keep hb2
      have hp3 : Hid (PutsS w w1 ((w2.alloc (.cells #[.int .i64 3, .int .i64 x.g, .int .i64 x.k, .int .i64 x.l, .int .i64 x.s, .int .i64 x.c] 89)).alloc (.cells #[.int .i64 3, .int .i64 x.g, .int .i64 x.k, .int .i64 x.l, .int .i64 x.s, .int .i64 x.c] 89)) x 3 w2.heap.size (w2.heap.size + 1)) := by
        have h1 : BoxS (w2.alloc (.cells #[.int .i64 3, .int .i64 x.g, .int .i64 x.k, .int .i64 x.l, .int .i64 x.s, .int .i64 x.c] 89)) w2.heap.size 3 x := heap_alloc_new w2 _
        have h2 : BoxS ((w2.alloc (.cells #[.int .i64 3, .int .i64 x.g, .int .i64 x.k, .int .i64 x.l, .int .i64 x.s, .int .i64 x.c] 89)).alloc (.cells #[.int .i64 3, .int .i64 x.g, .int .i64 x.k, .int .i64 x.l, .int .i64 x.s, .int .i64 x.c] 89)) (w2.heap.size + 1) 3 x := by
          have := heap_alloc_new (w2.alloc (.cells #[.int .i64 3, .int .i64 x.g, .int .i64 x.k, .int .i64 x.l, .int .i64 x.s, .int .i64 x.c] 89)) (.cells #[.int .i64 3, .int .i64 x.g, .int .i64 x.k, .int .i64 x.l, .int .i64 x.s, .int .i64 x.c] 89)
          rw [World.size_alloc] at this
          exact this
        exact hid ⟨(hq2.keep ((Below.refl _ _).alloc (Nat.le_refl _) _)).keep ((Below.refl _ _).alloc (Nat.le_refl _) _), h1.below ((Below.refl _ _).alloc (Nat.le_refl _) _), h2, (hb2.alloc hb2.size _).alloc (by have := hb2.size; simp; omega) _⟩
      have hq2b := hq2.keep ((Below.refl _ _).alloc (Nat.le_refl _) (.cells #[.int .i64 3, .int .i64 x.g, .int .i64 x.k, .int .i64 x.l, .int .i64 x.s, .int .i64 x.c] 89))
      obtain ⟨f0, f1, f2, f3, f4, f5, f6, f7, f8, f9, f10, -, -⟩ := hq2b.1.facts
      clear hq1
      go_wp2_with fail
      clear f0 f1 f2 f3 f4 f5 f6 f7 f8 f9 f10
      go_region_held3 (fun W => (W.cell? ⟨w.heap.size, 0, none⟩ = some (.int .i64 x.k) ∧ W.cell? ⟨w.heap.size, 1, none⟩ = some (.int .i64 x.l) ∧ W.cell? ⟨w.heap.size, 2, none⟩ = some (.int .i64 x.g) ∧ W.cell? ⟨w.heap.size, 3, none⟩ = some (.int .i64 x.s) ∧ W.cell? ⟨w.heap.size, 4, none⟩ = some (.int .i64 x.c) ∧ W.cell? ⟨w.heap.size, 5, none⟩ = some (.int .i64 x.d0) ∧ W.cell? ⟨w.heap.size, 6, none⟩ = some (.int .i64 x.d1) ∧ W.cell? ⟨w.heap.size, 7, none⟩ = some (.int .i64 x.d2) ∧ W.cell? ⟨w.heap.size, 8, none⟩ = some (.int .i64 x.d3) ∧ W.cell? ⟨w.heap.size, 9, none⟩ = some (.int .i64 x.o) ∧ W.cell? ⟨w.heap.size, 10, none⟩ = some (.int .i64 x.t)) ∧ (W.cell? ⟨w2.heap.size, 0, none⟩ = some (.int .i64 3) ∧ W.cell? ⟨w2.heap.size, 1, none⟩ = some (.int .i64 x.g) ∧ W.cell? ⟨w2.heap.size, 2, none⟩ = some (.int .i64 x.k) ∧ W.cell? ⟨w2.heap.size, 3, none⟩ = some (.int .i64 x.l) ∧ W.cell? ⟨w2.heap.size, 4, none⟩ = some (.int .i64 x.s) ∧ W.cell? ⟨w2.heap.size, 5, none⟩ = some (.int .i64 x.c)) ∧ (W.cell? ⟨w2.heap.size + 1, 0, none⟩ = some (.int .i64 3) ∧ W.cell? ⟨w2.heap.size + 1, 1, none⟩ = some (.int .i64 x.g) ∧ W.cell? ⟨w2.heap.size + 1, 2, none⟩ = some (.int .i64 x.k) ∧ W.cell? ⟨w2.heap.size + 1, 3, none⟩ = some (.int .i64 x.l) ∧ W.cell? ⟨w2.heap.size + 1, 4, none⟩ = some (.int .i64 x.s) ∧ W.cell? ⟨w2.heap.size + 1, 5, none⟩ = some (.int .i64 x.c)) ∧ PutsS w w1 W x 3 w2.heap.size (w2.heap.size + 1))
        (first | exact hp3.out.cells | exact (hp3.out.keep (bl2 _)).cells | exact hp5.cells | exact hp4.cells | fail "keep")
        (first
          | (go_at_call 74; refine (HSN.out _).mono ?_; rintro e w4 ⟨rfl, hb4⟩; have hp4 := PutsS.keep (And.right (And.right (And.right (by assumption)))) hb4)
          | (go_at_call 75; refine (HRS.out _).mono ?_; rintro e w5 ⟨rfl, hb5⟩; have hp5 := PutsS.keep (And.right (And.right (And.right (by assumption)))) hb5)
          | fail "arm")
      have hq5b := hp5.2.2.2
      have HQ5 := hid hp5.1
      clear hp3 hq2 hq2b hp4 hp5
      obtain ⟨f0, f1, f2, f3, f4, f5, f6, f7, f8, f9, f10, -, -⟩ := HQ5.out.1.facts
      have hrs := HRS.out
      rw [HX.out] at hrs
      have HRF := hid hrs
      obtain ⟨g1, cur1, rfl, -⟩ := ho1.open (by omega)
      have HO1 := hid ho1.cells
      have hc2 : 128 ≤ c1 := ho1.le.1
      have HQQ := hid (hq5b)
      clear hrs ho1 hb1 hb2 hq5b
      go_wp2_with fail
      refine (HRF.out _).mono ?_
      clear f0 f1 f2 f3 f4 f5 f6 f7 f8 f9 f10
      rintro e w6 ⟨rfl, hb6⟩
      have hq6 := HQ5.out.keep hb6
      have hq66 := below_t HQQ.out hb6 HQQ.out.size
      have hg := getN_any (some ⟨g1, 0, none⟩) (putS b 3 (encL x)) c1 3 w6 (HO1.out.below hq66 (Nat.le_refl _)) (by rw [HPL.out]; exact hc2)
      have hgp := HGP.out
      rw [show ((3 : Nat) : Int) = 3 from rfl] at hgp
      rw [hgp, HPL.out] at hg
      have HG := hid hg
      clear hg hgp hb6
      go_wp2_with fail
      refine HG.out.mono ?_
      rintro e w7 ⟨rfl, hb7⟩
      have hq7 := hq6.keep hb7
      have hq77 := below_t hq66 hb7 hq66.size
      have HT : Hid (TwoS w (w7.alloc (.cells #[.int .i64 x.k, .int .i64 x.l, .int .i64 x.g, .int .i64 x.s, .int .i64 x.c, .int .i64 x.d0, .int .i64 x.d1, .int .i64 x.d2, .int .i64 x.d3, .int .i64 x.o, .int .i64 x.t] 84)) x w7.heap.size) := hid ⟨hq7.keep ((Below.refl _ _).alloc (Nat.le_refl _) _), BoxN.new w7 x⟩
      have hw0 := hq77.alloc hq77.size (.cells #[.int .i64 x.k, .int .i64 x.l, .int .i64 x.g, .int .i64 x.s, .int .i64 x.c, .int .i64 x.d0, .int .i64 x.d1, .int .i64 x.d2, .int .i64 x.d3, .int .i64 x.o, .int .i64 x.t] 84)
      obtain ⟨P, hP⟩ : ∃ P, P = b.take (32 * 3) := ⟨_, rfl⟩
      obtain ⟨D, hD⟩ : ∃ D, D = b.drop (32 * 3 + 32) := ⟨_, rfl⟩
      obtain ⟨E, hE⟩ : ∃ E, E = encL x := ⟨_, rfl⟩
      have hen := HEN.out
      rw [← hE] at hen
      have HENE := hid hen
      have hbl := HBL.out
      have hPl : P.length = 32 * 3 := by rw [hP, List.length_take]; omega
      have hDl : D.length = 96 - 32 * 3 := by rw [hD, List.length_drop]; omega
      have hEl : E.length = 32 := by rw [hE]; exact encL_len x
      have hz1 : ¬ 9223372036854775807 < P.length + E.length := by omega
      have hz2 : ¬ 9223372036854775807 < P.length + E.length + D.length := by omega
      have hPED : putS b 3 (encL x) = P ++ E ++ D := by rw [putS, hP, hD, hE]
      have hv1 : ∀ W, TwoS w W x w7.heap.size ∧ Below w1.heap.size w1 W → (convert 22 9 (.slice (some ⟨g1, 0, none⟩) 128 c1)).run Try.prog W = .ok (.string (bstr (P ++ E ++ D))) W := fun W hW => by
        have := cv_bytes c1 (HO1.out.below hW.2 (Nat.le_refl _))
        rwa [HPL.out, hPED] at this
      have hv2 : ∀ W, TwoS w W x w7.heap.size ∧ Below w1.heap.size w1 W → (convert 22 9 (.slice (some ⟨g0, off, none⟩) 96 128)).run Try.prog W = .ok (.string (bstr P)) W := fun W hW => by
        have h1 := (HB.out.below hW.1.1.2 (Nat.le_refl _)).take (32 * 3)
        rw [← List.map_take, ← hP] at h1
        have := cv_bytes 128 h1
        rwa [hPl] at this
      have hv3 : ∀ W, TwoS w W x w7.heap.size ∧ Below w1.heap.size w1 W → (convert 22 9 (.slice (some ⟨g0, off, none⟩) 0 0)).run Try.prog W = .ok (.string (bstr D)) W := fun W hW => by
        have h1 : Bytes W (some ⟨g0, off, none⟩) D := by 
          rw [List.eq_nil_of_length_eq_zero (l := D) (by omega)]
          exact Cells.nil _ _
        have := cv_bytes (0) h1
        rwa [hDl] at this
      have hsm := eq84_same x
      have hs82 := eq82_same x
      have hwn : ∀ n : Int, 0 ≤ n → n ≤ 200 → IntKind.i64.wrap n = n := fun n h1 h2 => by rw [IntKind.wrap_i64]; omega
      have hck : (128 : Int) ≤ 128 := by decide
      have hckq : (96 : Int) ≤ 128 := by omega
      have HPD := hid hPED
      have HW0 := hid hw0
      clear hP hD hE hen hbl hPED hq7 hq77 hq6 hq66 hb7 hPl hDl hEl hw0
      go_wp2_with fail
      go_region_held3 (fun W => (W.cell? ⟨w.heap.size, 0, none⟩ = some (.int .i64 x.k) ∧ W.cell? ⟨w.heap.size, 1, none⟩ = some (.int .i64 x.l) ∧ W.cell? ⟨w.heap.size, 2, none⟩ = some (.int .i64 x.g) ∧ W.cell? ⟨w.heap.size, 3, none⟩ = some (.int .i64 x.s) ∧ W.cell? ⟨w.heap.size, 4, none⟩ = some (.int .i64 x.c) ∧ W.cell? ⟨w.heap.size, 5, none⟩ = some (.int .i64 x.d0) ∧ W.cell? ⟨w.heap.size, 6, none⟩ = some (.int .i64 x.d1) ∧ W.cell? ⟨w.heap.size, 7, none⟩ = some (.int .i64 x.d2) ∧ W.cell? ⟨w.heap.size, 8, none⟩ = some (.int .i64 x.d3) ∧ W.cell? ⟨w.heap.size, 9, none⟩ = some (.int .i64 x.o) ∧ W.cell? ⟨w.heap.size, 10, none⟩ = some (.int .i64 x.t)) ∧ (W.cell? ⟨w7.heap.size, 0, none⟩ = some (.int .i64 x.k) ∧ W.cell? ⟨w7.heap.size, 1, none⟩ = some (.int .i64 x.l) ∧ W.cell? ⟨w7.heap.size, 2, none⟩ = some (.int .i64 x.g) ∧ W.cell? ⟨w7.heap.size, 3, none⟩ = some (.int .i64 x.s) ∧ W.cell? ⟨w7.heap.size, 4, none⟩ = some (.int .i64 x.c) ∧ W.cell? ⟨w7.heap.size, 5, none⟩ = some (.int .i64 x.d0) ∧ W.cell? ⟨w7.heap.size, 6, none⟩ = some (.int .i64 x.d1) ∧ W.cell? ⟨w7.heap.size, 7, none⟩ = some (.int .i64 x.d2) ∧ W.cell? ⟨w7.heap.size, 8, none⟩ = some (.int .i64 x.d3) ∧ W.cell? ⟨w7.heap.size, 9, none⟩ = some (.int .i64 x.o) ∧ W.cell? ⟨w7.heap.size, 10, none⟩ = some (.int .i64 x.t)) ∧ TwoS w W x w7.heap.size ∧ Below w1.heap.size w1 W)
        (first | exact twoB HT.out HW0.out | exact twoB (HT.out.keep (bl2 _)) (below_t HW0.out (bl2 _) HW0.out.size) | exact twoB hp9.1 hp9.2 | exact twoB hp8.1 hp8.2 | fail "keep")
        (first
          | (go_at_call 76; refine (awake10_any _).mono ?_; rintro e w8 ⟨rfl, hb8⟩; have hp8 := twoK (And.right (And.right (by assumption))) hb8)
          | (go_at_call 78; refine (HENE.out _).mono ?_; rintro e w9 ⟨rfl, hb9⟩; have hp9 := twoK (And.right (And.right (by assumption))) hb9)
          | fail "arm")
      go_wp2
      go_ret
      exact ⟨ret_bool (by rw [bstr_append, bstr_append]; simp), hp9.1.1.2⟩
    · have HCC := hid hcc
      clear hcc
      have hL : Hid (LastS2 w (w.alloc (.cells #[.int .i64 x.k, .int .i64 x.l, .int .i64 x.g, .int .i64 x.s, .int .i64 x.c, .int .i64 x.d0, .int .i64 x.d1, .int .i64 x.d2, .int .i64 x.d3, .int .i64 x.o, .int .i64 x.t] 84)) x) := hid (LastS2.new w x)
      have HST := hid (fun W => stat_any 3 x W)
      have HSN := hid (soundN_any x)
      have HRS := hid (rsoundN_any x)
      obtain ⟨f0, f1, f2, f3, f4, f5, f6, f7, f8, f9, f10, -, -⟩ := hL.out.1.facts
      go_enter Try.func18, Try.ntmps18
      go_wp2_with fail
      refine (HP.out _ (HB.out.below hL.out.2 (Nat.le_refl _))).mono ?_
      clear f0 f1 f2 f3 f4 f5 f6 f7 f8 f9 f10
      rintro e w1 ⟨A1, c1, rfl, ho1, hb1⟩
      have hq1 := hL.out.keep hb1
      obtain ⟨f0, f1, f2, f3, f4, f5, f6, f7, f8, f9, f10, -, -⟩ := hq1.1.facts
      go_wp2_with fail
      refine (HST.out _).mono ?_
      clear f0 f1 f2 f3 f4 f5 f6 f7 f8 f9 f10
      rintro e w2 ⟨rfl, hb2⟩
      have hq2 := hq1.keep hb2
      have hp3 : Hid (PutsS w w1 ((w2.alloc (.cells #[.int .i64 3, .int .i64 x.g, .int .i64 x.k, .int .i64 x.l, .int .i64 x.s, .int .i64 x.c] 89)).alloc (.cells #[.int .i64 3, .int .i64 x.g, .int .i64 x.k, .int .i64 x.l, .int .i64 x.s, .int .i64 x.c] 89)) x 3 w2.heap.size (w2.heap.size + 1)) := by
        have h1 : BoxS (w2.alloc (.cells #[.int .i64 3, .int .i64 x.g, .int .i64 x.k, .int .i64 x.l, .int .i64 x.s, .int .i64 x.c] 89)) w2.heap.size 3 x := heap_alloc_new w2 _
        have h2 : BoxS ((w2.alloc (.cells #[.int .i64 3, .int .i64 x.g, .int .i64 x.k, .int .i64 x.l, .int .i64 x.s, .int .i64 x.c] 89)).alloc (.cells #[.int .i64 3, .int .i64 x.g, .int .i64 x.k, .int .i64 x.l, .int .i64 x.s, .int .i64 x.c] 89)) (w2.heap.size + 1) 3 x := by
          have := heap_alloc_new (w2.alloc (.cells #[.int .i64 3, .int .i64 x.g, .int .i64 x.k, .int .i64 x.l, .int .i64 x.s, .int .i64 x.c] 89)) (.cells #[.int .i64 3, .int .i64 x.g, .int .i64 x.k, .int .i64 x.l, .int .i64 x.s, .int .i64 x.c] 89)
          rw [World.size_alloc] at this
          exact this
        exact hid ⟨(hq2.keep ((Below.refl _ _).alloc (Nat.le_refl _) _)).keep ((Below.refl _ _).alloc (Nat.le_refl _) _), h1.below ((Below.refl _ _).alloc (Nat.le_refl _) _), h2, (hb2.alloc hb2.size _).alloc (by have := hb2.size; simp; omega) _⟩
      have hq2b := hq2.keep ((Below.refl _ _).alloc (Nat.le_refl _) (.cells #[.int .i64 3, .int .i64 x.g, .int .i64 x.k, .int .i64 x.l, .int .i64 x.s, .int .i64 x.c] 89))
      obtain ⟨f0, f1, f2, f3, f4, f5, f6, f7, f8, f9, f10, -, -⟩ := hq2b.1.facts
      clear hq1
      go_wp2_with fail
      clear f0 f1 f2 f3 f4 f5 f6 f7 f8 f9 f10
      go_region_held3 (fun W => (W.cell? ⟨w.heap.size, 0, none⟩ = some (.int .i64 x.k) ∧ W.cell? ⟨w.heap.size, 1, none⟩ = some (.int .i64 x.l) ∧ W.cell? ⟨w.heap.size, 2, none⟩ = some (.int .i64 x.g) ∧ W.cell? ⟨w.heap.size, 3, none⟩ = some (.int .i64 x.s) ∧ W.cell? ⟨w.heap.size, 4, none⟩ = some (.int .i64 x.c) ∧ W.cell? ⟨w.heap.size, 5, none⟩ = some (.int .i64 x.d0) ∧ W.cell? ⟨w.heap.size, 6, none⟩ = some (.int .i64 x.d1) ∧ W.cell? ⟨w.heap.size, 7, none⟩ = some (.int .i64 x.d2) ∧ W.cell? ⟨w.heap.size, 8, none⟩ = some (.int .i64 x.d3) ∧ W.cell? ⟨w.heap.size, 9, none⟩ = some (.int .i64 x.o) ∧ W.cell? ⟨w.heap.size, 10, none⟩ = some (.int .i64 x.t)) ∧ (W.cell? ⟨w2.heap.size, 0, none⟩ = some (.int .i64 3) ∧ W.cell? ⟨w2.heap.size, 1, none⟩ = some (.int .i64 x.g) ∧ W.cell? ⟨w2.heap.size, 2, none⟩ = some (.int .i64 x.k) ∧ W.cell? ⟨w2.heap.size, 3, none⟩ = some (.int .i64 x.l) ∧ W.cell? ⟨w2.heap.size, 4, none⟩ = some (.int .i64 x.s) ∧ W.cell? ⟨w2.heap.size, 5, none⟩ = some (.int .i64 x.c)) ∧ (W.cell? ⟨w2.heap.size + 1, 0, none⟩ = some (.int .i64 3) ∧ W.cell? ⟨w2.heap.size + 1, 1, none⟩ = some (.int .i64 x.g) ∧ W.cell? ⟨w2.heap.size + 1, 2, none⟩ = some (.int .i64 x.k) ∧ W.cell? ⟨w2.heap.size + 1, 3, none⟩ = some (.int .i64 x.l) ∧ W.cell? ⟨w2.heap.size + 1, 4, none⟩ = some (.int .i64 x.s) ∧ W.cell? ⟨w2.heap.size + 1, 5, none⟩ = some (.int .i64 x.c)) ∧ PutsS w w1 W x 3 w2.heap.size (w2.heap.size + 1))
        (first | exact hp3.out.cells | exact (hp3.out.keep (bl2 _)).cells | exact hp5.cells | exact hp4.cells | fail "keep")
        (first
          | (go_at_call 74; refine (HSN.out _).mono ?_; rintro e w4 ⟨rfl, hb4⟩; have hp4 := PutsS.keep (And.right (And.right (And.right (by assumption)))) hb4)
          | (go_at_call 75; refine (HRS.out _).mono ?_; rintro e w5 ⟨rfl, hb5⟩; have hp5 := PutsS.keep (And.right (And.right (And.right (by assumption)))) hb5)
          | fail "arm")
      have hq5b := hp5.2.2.2
      have HQ5 := hid hp5.1
      clear hp3 hq2 hq2b hp4 hp5
      obtain ⟨f0, f1, f2, f3, f4, f5, f6, f7, f8, f9, f10, -, -⟩ := HQ5.out.1.facts
      have hrs := HRS.out
      rw [HX.out] at hrs
      have HRF := hid hrs
      obtain ⟨g1, cur1, rfl, -⟩ := ho1.open (by omega)
      have HO1 := hid ho1.cells
      have hc2 : 128 ≤ c1 := ho1.le.1
      have HQQ := hid (hq5b)
      clear hrs ho1 hb1 hb2 hq5b
      go_wp2_with fail
      refine (HRF.out _).mono ?_
      clear f0 f1 f2 f3 f4 f5 f6 f7 f8 f9 f10
      rintro e w6 ⟨rfl, hb6⟩
      have hq6 := HQ5.out.keep hb6
      have hq66 := below_t HQQ.out hb6 HQQ.out.size
      have hg := getN_any (some ⟨g1, 0, none⟩) (putS b 3 (encL x)) c1 3 w6 (HO1.out.below hq66 (Nat.le_refl _)) (by rw [HPL.out]; exact hc2)
      have hgp := HGP.out
      rw [show ((3 : Nat) : Int) = 3 from rfl] at hgp
      rw [hgp, HPL.out] at hg
      have HG := hid hg
      clear hg hgp hb6
      go_wp2_with fail
      refine HG.out.mono ?_
      rintro e w7 ⟨rfl, hb7⟩
      have hq7 := hq6.keep hb7
      have hq77 := below_t hq66 hb7 hq66.size
      have HT : Hid (TwoS w (w7.alloc (.cells #[.int .i64 x.k, .int .i64 x.l, .int .i64 x.g, .int .i64 x.s, .int .i64 x.c, .int .i64 x.d0, .int .i64 x.d1, .int .i64 x.d2, .int .i64 x.d3, .int .i64 x.o, .int .i64 x.t] 84)) x w7.heap.size) := hid ⟨hq7.keep ((Below.refl _ _).alloc (Nat.le_refl _) _), BoxN.new w7 x⟩
      have hw0 := hq77.alloc hq77.size (.cells #[.int .i64 x.k, .int .i64 x.l, .int .i64 x.g, .int .i64 x.s, .int .i64 x.c, .int .i64 x.d0, .int .i64 x.d1, .int .i64 x.d2, .int .i64 x.d3, .int .i64 x.o, .int .i64 x.t] 84)
      obtain ⟨P, hP⟩ : ∃ P, P = b.take (32 * 3) := ⟨_, rfl⟩
      obtain ⟨D, hD⟩ : ∃ D, D = b.drop (32 * 3 + 32) := ⟨_, rfl⟩
      obtain ⟨E, hE⟩ : ∃ E, E = encL x := ⟨_, rfl⟩
      have hen := HEN.out
      rw [← hE] at hen
      have HENE := hid hen
      have hbl := HBL.out
      have hPl : P.length = 32 * 3 := by rw [hP, List.length_take]; omega
      have hDl : D.length = 96 - 32 * 3 := by rw [hD, List.length_drop]; omega
      have hEl : E.length = 32 := by rw [hE]; exact encL_len x
      have hz1 : ¬ 9223372036854775807 < P.length + E.length := by omega
      have hz2 : ¬ 9223372036854775807 < P.length + E.length + D.length := by omega
      have hPED : putS b 3 (encL x) = P ++ E ++ D := by rw [putS, hP, hD, hE]
      have hv1 : ∀ W, TwoS w W x w7.heap.size ∧ Below w1.heap.size w1 W → (convert 22 9 (.slice (some ⟨g1, 0, none⟩) 128 c1)).run Try.prog W = .ok (.string (bstr (P ++ E ++ D))) W := fun W hW => by
        have := cv_bytes c1 (HO1.out.below hW.2 (Nat.le_refl _))
        rwa [HPL.out, hPED] at this
      have hv2 : ∀ W, TwoS w W x w7.heap.size ∧ Below w1.heap.size w1 W → (convert 22 9 (.slice (some ⟨g0, off, none⟩) 96 c)).run Try.prog W = .ok (.string (bstr P)) W := fun W hW => by
        have h1 := (HB.out.below hW.1.1.2 (Nat.le_refl _)).take (32 * 3)
        rw [← List.map_take, ← hP] at h1
        have := cv_bytes c h1
        rwa [hPl] at this
      have hv3 : ∀ W, TwoS w W x w7.heap.size ∧ Below w1.heap.size w1 W → (convert 22 9 (.slice (some ⟨g0, off + 128, none⟩) 0 (c - 128))).run Try.prog W = .ok (.string (bstr D)) W := fun W hW => by
        have h1 : Bytes W (some ⟨g0, off + 128, none⟩) D := by 
          rw [List.eq_nil_of_length_eq_zero (l := D) (by omega)]
          exact Cells.nil _ _
        have := cv_bytes ((c - 128)) h1
        rwa [hDl] at this
      have hsm := eq84_same x
      have hs82 := eq82_same x
      have hwn : ∀ n : Int, 0 ≤ n → n ≤ 200 → IntKind.i64.wrap n = n := fun n h1 h2 => by rw [IntKind.wrap_i64]; omega
      have hck : (128 : Int) ≤ c := by omega
      have hckq : (96 : Int) ≤ c := by omega
      have hcn : ¬ c = 128 := HCC.out
      have HPD := hid hPED
      have HW0 := hid hw0
      clear hP hD hE hen hbl hPED hq7 hq77 hq6 hq66 hb7 hPl hDl hEl hw0
      go_wp2_with fail
      go_region_held3 (fun W => (W.cell? ⟨w.heap.size, 0, none⟩ = some (.int .i64 x.k) ∧ W.cell? ⟨w.heap.size, 1, none⟩ = some (.int .i64 x.l) ∧ W.cell? ⟨w.heap.size, 2, none⟩ = some (.int .i64 x.g) ∧ W.cell? ⟨w.heap.size, 3, none⟩ = some (.int .i64 x.s) ∧ W.cell? ⟨w.heap.size, 4, none⟩ = some (.int .i64 x.c) ∧ W.cell? ⟨w.heap.size, 5, none⟩ = some (.int .i64 x.d0) ∧ W.cell? ⟨w.heap.size, 6, none⟩ = some (.int .i64 x.d1) ∧ W.cell? ⟨w.heap.size, 7, none⟩ = some (.int .i64 x.d2) ∧ W.cell? ⟨w.heap.size, 8, none⟩ = some (.int .i64 x.d3) ∧ W.cell? ⟨w.heap.size, 9, none⟩ = some (.int .i64 x.o) ∧ W.cell? ⟨w.heap.size, 10, none⟩ = some (.int .i64 x.t)) ∧ (W.cell? ⟨w7.heap.size, 0, none⟩ = some (.int .i64 x.k) ∧ W.cell? ⟨w7.heap.size, 1, none⟩ = some (.int .i64 x.l) ∧ W.cell? ⟨w7.heap.size, 2, none⟩ = some (.int .i64 x.g) ∧ W.cell? ⟨w7.heap.size, 3, none⟩ = some (.int .i64 x.s) ∧ W.cell? ⟨w7.heap.size, 4, none⟩ = some (.int .i64 x.c) ∧ W.cell? ⟨w7.heap.size, 5, none⟩ = some (.int .i64 x.d0) ∧ W.cell? ⟨w7.heap.size, 6, none⟩ = some (.int .i64 x.d1) ∧ W.cell? ⟨w7.heap.size, 7, none⟩ = some (.int .i64 x.d2) ∧ W.cell? ⟨w7.heap.size, 8, none⟩ = some (.int .i64 x.d3) ∧ W.cell? ⟨w7.heap.size, 9, none⟩ = some (.int .i64 x.o) ∧ W.cell? ⟨w7.heap.size, 10, none⟩ = some (.int .i64 x.t)) ∧ TwoS w W x w7.heap.size ∧ Below w1.heap.size w1 W)
        (first | exact twoB HT.out HW0.out | exact twoB (HT.out.keep (bl2 _)) (below_t HW0.out (bl2 _) HW0.out.size) | exact twoB hp9.1 hp9.2 | exact twoB hp8.1 hp8.2 | fail "keep")
        (first
          | (go_at_call 76; refine (awake10_any _).mono ?_; rintro e w8 ⟨rfl, hb8⟩; have hp8 := twoK (And.right (And.right (by assumption))) hb8)
          | (go_at_call 78; refine (HENE.out _).mono ?_; rintro e w9 ⟨rfl, hb9⟩; have hp9 := twoK (And.right (And.right (by assumption))) hb9)
          | fail "arm")
      go_wp2
      go_ret
      exact ⟨ret_bool (by rw [bstr_append, bstr_append]; simp), hp9.1.1.2⟩
theorem nodePuts_walk (w : World) (B : Option Addr) (b : List UInt8) (c : Nat) (i : Int) (x : Nod) (hb : Bytes w B b) (hc : b.length ≤ c) (_ : b.length ≤ 140737488351232) (_ : -9223372036854775808 ≤ i ∧ i < 9223372036854775808) :
    Calls Try.prog 18 #[.slice B b.length c, .int .i64 i, .agg #[.int .i64 x.k, .int .i64 x.l, .int .i64 x.g, .int .i64 x.s, .int .i64 x.c, .int .i64 x.d0, .int .i64 x.d1, .int .i64 x.d2, .int .i64 x.d3, .int .i64 x.o, .int .i64 x.t]] w fun e w' => e = .returned (.bool true) ∧ Below w.heap.size w w' := by
  by_cases h : b.length = 128 ∧ 0 ≤ i ∧ i < 4
  · have e : ((i.toNat : Nat) : Int) = i := by omega
    cases hx : soundN x with
    | true =>
      obtain ⟨g0, off, rfl, -⟩ := Bytes.openq hb (by omega)
      have := puts_ok w g0 off b c i.toNat x hb h.1 (by omega) (by omega) hx
      rw [e] at this
      rw [h.1]
      exact this
    | false =>
      have := puts_form w B c i.toNat x (by omega) hx
      rw [e] at this
      rw [h.1]
      exact this
  · exact puts_err w B b c i x h
end Go.Proofs.Ytppbcdcmpcagdaa
