/- The law NodeApart returns true at every input: its walk over the contracts of node.Put and Get. No condition. -/
import Derived.Test.YtppbcdcmpcagdaaWalkNodeFour
namespace Go.Proofs.Ytppbcdcmpcagdaa
open Go.RowKit Go.CP

theorem getS_set {l : List UInt8} {k r : Nat} {u : UInt8} (hr : r < 32) : getS (l.set (32 * k + r) u) k = (getS l k).set r u := by
  unfold getS
  apply List.ext_getElem?
  intro j
  by_cases hj : j < 32
  · rw [List.getElem?_take_of_lt hj, List.getElem?_drop, List.getElem?_set, List.getElem?_set]
    by_cases e : r = j
    · subst e
      simp only [List.length_take, List.length_drop]
      by_cases h : 32 * k + r < l.length
      · have h2 : r < min 32 (l.length - 32 * k) := by omega
        simp [h, h2]
      · have h2 : ¬ r < min 32 (l.length - 32 * k) := by omega
        simp only [h, h2, if_true, if_false]
    · have e2 : ¬ 32 * k + r = 32 * k + j := by omega
      rw [if_neg e2, if_neg e, List.getElem?_take_of_lt hj, List.getElem?_drop]
  · rw [List.getElem?_take_eq_none (by omega), List.getElem?_eq_none]
    simp
    omega
/-- A byte behind a node's fields, turned. -/
theorem behind {a : Nod} {r : Nat} {v u : UInt8} (ha : soundN a = true) (hr : r < 6) (hv : (encL a)[26 + r]? = some v) (hne : v ≠ u) : okN ((encL a).set (26 + r) u) = false := by
  refine ok_behind ha ?_ ?_
  · rw [List.take_set, List.set_eq_of_length_le (by simp; omega)]
  · intro e
    have h : ((encL a).set (26 + r) u)[26 + r]? = (encL a)[26 + r]? := by rw [e]
    rw [hv, List.getElem?_set_self (by rw [encL_len]; omega)] at h
    exact hne (Option.some.inj h).symm
theorem own_xor {w : World} {base g n c : Nat} {P : List UInt8} (h : Go.CP.Own w base 5 1 (some ⟨g, 0, none⟩) n c (P.map bv)) (j : Nat) (v x : UInt8) :
    Go.CP.Own (w.setCell ⟨g, j, none⟩ (.int .u8 (bits .xor .u8 (v.toNat : Int) (x.toNat : Int)))).drew base 5 1 (some ⟨g, 0, none⟩) n c ((P.set j (v ^^^ x)).map bv) := by
  have h0 := (h.set rfl j (.int .u8 (bits .xor .u8 (v.toNat : Int) (x.toNat : Int)))).drew
  have he : (P.map bv).set j (.int .u8 (bits .xor .u8 (v.toNat : Int) (x.toNat : Int))) = (P.set j (v ^^^ x)).map bv := by
    rw [List.map_set, bits_xor_u8]
  rw [he] at h0
  exact h0
theorem xor_zero_of {v x : UInt8} (h : v = v ^^^ x) : x = 0 := by
  have : v ^^^ v = v ^^^ (v ^^^ x) := by rw [← h]
  rw [← UInt8.xor_assoc, UInt8.xor_self, UInt8.zero_xor] at this
  exact this.symm
theorem _root_.List.set_getElem?_self' {l : List UInt8} {i : Nat} {v : UInt8} (h : l[i]? = some v) : l.set i v = l := by
  obtain ⟨h1, rfl⟩ := List.getElem?_eq_some_iff.1 h
  exact List.set_getElem_self h1
theorem eq84_ne {a b : Nod} (h : a ≠ b) (W : World) : (Op.equalIn 10000 84 (.agg #[.int .i64 a.k, .int .i64 a.l, .int .i64 a.g, .int .i64 a.s, .int .i64 a.c, .int .i64 a.d0, .int .i64 a.d1, .int .i64 a.d2, .int .i64 a.d3, .int .i64 a.o, .int .i64 a.t]) (.agg #[.int .i64 b.k, .int .i64 b.l, .int .i64 b.g, .int .i64 b.s, .int .i64 b.c, .int .i64 b.d0, .int .i64 b.d1, .int .i64 b.d2, .int .i64 b.d3, .int .i64 b.o, .int .i64 b.t])).run Try.prog W = .ok false W := by
  have := eq84 9997 a b W
  have e : eqN a b = false := by
    cases q : eqN a b with
    | false => rfl
    | true => exact absurd ((eqN_iff a b).1 q) h
  rw [e] at this
  exact this

set_option maxHeartbeats 8000000 in
set_option maxRecDepth 100000 in
theorem apart_ff (w : World) (a b : Nod) (i t x : Int) (p : Nat) (hi : 0 ≤ i ∧ i < 256) (hp : i % 4 = p) (hp4 : p < 4) (hsa : soundN a = false) (hsb : soundN b = false) :
    Calls Try.prog 21 #[.agg #[.int .i64 a.k, .int .i64 a.l, .int .i64 a.g, .int .i64 a.s, .int .i64 a.c, .int .i64 a.d0, .int .i64 a.d1, .int .i64 a.d2, .int .i64 a.d3, .int .i64 a.o, .int .i64 a.t], .agg #[.int .i64 b.k, .int .i64 b.l, .int .i64 b.g, .int .i64 b.s, .int .i64 b.c, .int .i64 b.d0, .int .i64 b.d1, .int .i64 b.d2, .int .i64 b.d3, .int .i64 b.o, .int .i64 b.t], .int .u8 i, .int .u8 t, .int .u8 x] w fun e w' => e = .returned (.bool true) ∧ Below w.heap.size w w' := by
  have hL := hid (Two2.new w a b)
  have HSA := hid hsa
  have HSB := hid hsb
  have HP4 := hid hp4
  clear hsa hsb hp4
  go_enter Try.func21, Try.ntmps21
  go_wp2_with fail
  clear hp
  generalize (w.alloc (.cells #[.int .i64 a.k, .int .i64 a.l, .int .i64 a.g, .int .i64 a.s, .int .i64 a.c, .int .i64 a.d0, .int .i64 a.d1, .int .i64 a.d2, .int .i64 a.d3, .int .i64 a.o, .int .i64 a.t] 84)).alloc (.cells #[.int .i64 b.k, .int .i64 b.l, .int .i64 b.g, .int .i64 b.s, .int .i64 b.c, .int .i64 b.d0, .int .i64 b.d1, .int .i64 b.d2, .int .i64 b.d3, .int .i64 b.o, .int .i64 b.t] 84) = W0 at hL ⊢
  go_region_held3 (fun W => (W.cell? ⟨w.heap.size, 0, none⟩ = some (.int .i64 a.k) ∧ W.cell? ⟨w.heap.size, 1, none⟩ = some (.int .i64 a.l) ∧ W.cell? ⟨w.heap.size, 2, none⟩ = some (.int .i64 a.g) ∧ W.cell? ⟨w.heap.size, 3, none⟩ = some (.int .i64 a.s) ∧ W.cell? ⟨w.heap.size, 4, none⟩ = some (.int .i64 a.c) ∧ W.cell? ⟨w.heap.size, 5, none⟩ = some (.int .i64 a.d0) ∧ W.cell? ⟨w.heap.size, 6, none⟩ = some (.int .i64 a.d1) ∧ W.cell? ⟨w.heap.size, 7, none⟩ = some (.int .i64 a.d2) ∧ W.cell? ⟨w.heap.size, 8, none⟩ = some (.int .i64 a.d3) ∧ W.cell? ⟨w.heap.size, 9, none⟩ = some (.int .i64 a.o) ∧ W.cell? ⟨w.heap.size, 10, none⟩ = some (.int .i64 a.t)) ∧ (W.cell? ⟨w.heap.size + 1, 0, none⟩ = some (.int .i64 b.k) ∧ W.cell? ⟨w.heap.size + 1, 1, none⟩ = some (.int .i64 b.l) ∧ W.cell? ⟨w.heap.size + 1, 2, none⟩ = some (.int .i64 b.g) ∧ W.cell? ⟨w.heap.size + 1, 3, none⟩ = some (.int .i64 b.s) ∧ W.cell? ⟨w.heap.size + 1, 4, none⟩ = some (.int .i64 b.c) ∧ W.cell? ⟨w.heap.size + 1, 5, none⟩ = some (.int .i64 b.d0) ∧ W.cell? ⟨w.heap.size + 1, 6, none⟩ = some (.int .i64 b.d1) ∧ W.cell? ⟨w.heap.size + 1, 7, none⟩ = some (.int .i64 b.d2) ∧ W.cell? ⟨w.heap.size + 1, 8, none⟩ = some (.int .i64 b.d3) ∧ W.cell? ⟨w.heap.size + 1, 9, none⟩ = some (.int .i64 b.o) ∧ W.cell? ⟨w.heap.size + 1, 10, none⟩ = some (.int .i64 b.t)) ∧ Two2 w W a b (w.heap.size + 1))
    (first | exact hL.out.cells | exact (hL.out.keep (bl2 _)).cells | exact (Two2.keep (hL.out.keep (bl2 _)) ((Below.refl _ _).alloc (Nat.le_refl _) _)).cells | exact hq1.cells | fail "keep")
    (first
      | (refine upon_make 128 (by omega) ?_)
      | (go_at_call 72; refine (put_at_no _ (List.replicate 128 0) 128 p a _ (made_zeros W0.drew 128) (by simp) (by omega) HP4.out HSA.out).mono ?_; rintro e w1 ⟨rfl, hb1⟩; have hq1 := Two2.keep (Two2.keep (hL.out.keep (bl2 _)) ((Below.refl _ _).alloc (Nat.le_refl _) _)) hb1)
      | fail "arm")
  have HQ1 := hid hq1
  clear hq1
  go_wp2_with fail
  go_region_held3 (fun W => (W.cell? ⟨w.heap.size, 0, none⟩ = some (.int .i64 a.k) ∧ W.cell? ⟨w.heap.size, 1, none⟩ = some (.int .i64 a.l) ∧ W.cell? ⟨w.heap.size, 2, none⟩ = some (.int .i64 a.g) ∧ W.cell? ⟨w.heap.size, 3, none⟩ = some (.int .i64 a.s) ∧ W.cell? ⟨w.heap.size, 4, none⟩ = some (.int .i64 a.c) ∧ W.cell? ⟨w.heap.size, 5, none⟩ = some (.int .i64 a.d0) ∧ W.cell? ⟨w.heap.size, 6, none⟩ = some (.int .i64 a.d1) ∧ W.cell? ⟨w.heap.size, 7, none⟩ = some (.int .i64 a.d2) ∧ W.cell? ⟨w.heap.size, 8, none⟩ = some (.int .i64 a.d3) ∧ W.cell? ⟨w.heap.size, 9, none⟩ = some (.int .i64 a.o) ∧ W.cell? ⟨w.heap.size, 10, none⟩ = some (.int .i64 a.t)) ∧ (W.cell? ⟨w.heap.size + 1, 0, none⟩ = some (.int .i64 b.k) ∧ W.cell? ⟨w.heap.size + 1, 1, none⟩ = some (.int .i64 b.l) ∧ W.cell? ⟨w.heap.size + 1, 2, none⟩ = some (.int .i64 b.g) ∧ W.cell? ⟨w.heap.size + 1, 3, none⟩ = some (.int .i64 b.s) ∧ W.cell? ⟨w.heap.size + 1, 4, none⟩ = some (.int .i64 b.c) ∧ W.cell? ⟨w.heap.size + 1, 5, none⟩ = some (.int .i64 b.d0) ∧ W.cell? ⟨w.heap.size + 1, 6, none⟩ = some (.int .i64 b.d1) ∧ W.cell? ⟨w.heap.size + 1, 7, none⟩ = some (.int .i64 b.d2) ∧ W.cell? ⟨w.heap.size + 1, 8, none⟩ = some (.int .i64 b.d3) ∧ W.cell? ⟨w.heap.size + 1, 9, none⟩ = some (.int .i64 b.o) ∧ W.cell? ⟨w.heap.size + 1, 10, none⟩ = some (.int .i64 b.t)) ∧ Two2 w W a b (w.heap.size + 1))
    (first | exact HQ1.out.cells | exact (HQ1.out.keep (bl2 _)).cells | exact (Two2.keep (HQ1.out.keep (bl2 _)) ((Below.refl _ _).alloc (Nat.le_refl _) _)).cells | exact hq2.cells | fail "keep")
    (first
      | (refine upon_make 128 (by omega) ?_)
      | (go_at_call 72; refine (put_at_no _ (List.replicate 128 0) 128 p b _ (made_zeros w1.drew 128) (by simp) (by omega) HP4.out HSB.out).mono ?_; rintro e w2 ⟨rfl, hb2⟩; have hq2 := Two2.keep (Two2.keep (HQ1.out.keep (bl2 _)) ((Below.refl _ _).alloc (Nat.le_refl _) _)) hb2)
      | fail "arm")
  have HQ2 := hid hq2
  clear hq2
  go_wp2_with fail
  refine (awake10_any _).mono ?_
  rintro e w3 ⟨rfl, hb3⟩
  have hq3 := HQ2.out.keep hb3
  go_wp2_with fail
  refine (awake10_any _).mono ?_
  rintro e w4 ⟨rfl, hb4⟩
  have hq4 := hq3.keep hb4
  go_wp2
  go_ret
  exact ⟨rfl, hq4.1.2⟩

set_option maxHeartbeats 8000000 in
set_option maxRecDepth 100000 in
theorem apart_ft (w : World) (a b : Nod) (i t x : Int) (p : Nat) (hi : 0 ≤ i ∧ i < 256) (hp : i % 4 = p) (hp4 : p < 4) (hsa : soundN a = false) (hsb : soundN b = true) :
    Calls Try.prog 21 #[.agg #[.int .i64 a.k, .int .i64 a.l, .int .i64 a.g, .int .i64 a.s, .int .i64 a.c, .int .i64 a.d0, .int .i64 a.d1, .int .i64 a.d2, .int .i64 a.d3, .int .i64 a.o, .int .i64 a.t], .agg #[.int .i64 b.k, .int .i64 b.l, .int .i64 b.g, .int .i64 b.s, .int .i64 b.c, .int .i64 b.d0, .int .i64 b.d1, .int .i64 b.d2, .int .i64 b.d3, .int .i64 b.o, .int .i64 b.t], .int .u8 i, .int .u8 t, .int .u8 x] w fun e w' => e = .returned (.bool true) ∧ Below w.heap.size w w' := by
  have hL := hid (Two2.new w a b)
  have HSA := hid hsa
  have HSB := hid hsb
  have HP4 := hid hp4
  clear hsa hsb hp4
  go_enter Try.func21, Try.ntmps21
  go_wp2_with fail
  clear hp
  generalize (w.alloc (.cells #[.int .i64 a.k, .int .i64 a.l, .int .i64 a.g, .int .i64 a.s, .int .i64 a.c, .int .i64 a.d0, .int .i64 a.d1, .int .i64 a.d2, .int .i64 a.d3, .int .i64 a.o, .int .i64 a.t] 84)).alloc (.cells #[.int .i64 b.k, .int .i64 b.l, .int .i64 b.g, .int .i64 b.s, .int .i64 b.c, .int .i64 b.d0, .int .i64 b.d1, .int .i64 b.d2, .int .i64 b.d3, .int .i64 b.o, .int .i64 b.t] 84) = W0 at hL ⊢
  go_region_held3 (fun W => (W.cell? ⟨w.heap.size, 0, none⟩ = some (.int .i64 a.k) ∧ W.cell? ⟨w.heap.size, 1, none⟩ = some (.int .i64 a.l) ∧ W.cell? ⟨w.heap.size, 2, none⟩ = some (.int .i64 a.g) ∧ W.cell? ⟨w.heap.size, 3, none⟩ = some (.int .i64 a.s) ∧ W.cell? ⟨w.heap.size, 4, none⟩ = some (.int .i64 a.c) ∧ W.cell? ⟨w.heap.size, 5, none⟩ = some (.int .i64 a.d0) ∧ W.cell? ⟨w.heap.size, 6, none⟩ = some (.int .i64 a.d1) ∧ W.cell? ⟨w.heap.size, 7, none⟩ = some (.int .i64 a.d2) ∧ W.cell? ⟨w.heap.size, 8, none⟩ = some (.int .i64 a.d3) ∧ W.cell? ⟨w.heap.size, 9, none⟩ = some (.int .i64 a.o) ∧ W.cell? ⟨w.heap.size, 10, none⟩ = some (.int .i64 a.t)) ∧ (W.cell? ⟨w.heap.size + 1, 0, none⟩ = some (.int .i64 b.k) ∧ W.cell? ⟨w.heap.size + 1, 1, none⟩ = some (.int .i64 b.l) ∧ W.cell? ⟨w.heap.size + 1, 2, none⟩ = some (.int .i64 b.g) ∧ W.cell? ⟨w.heap.size + 1, 3, none⟩ = some (.int .i64 b.s) ∧ W.cell? ⟨w.heap.size + 1, 4, none⟩ = some (.int .i64 b.c) ∧ W.cell? ⟨w.heap.size + 1, 5, none⟩ = some (.int .i64 b.d0) ∧ W.cell? ⟨w.heap.size + 1, 6, none⟩ = some (.int .i64 b.d1) ∧ W.cell? ⟨w.heap.size + 1, 7, none⟩ = some (.int .i64 b.d2) ∧ W.cell? ⟨w.heap.size + 1, 8, none⟩ = some (.int .i64 b.d3) ∧ W.cell? ⟨w.heap.size + 1, 9, none⟩ = some (.int .i64 b.o) ∧ W.cell? ⟨w.heap.size + 1, 10, none⟩ = some (.int .i64 b.t)) ∧ Two2 w W a b (w.heap.size + 1))
    (first | exact hL.out.cells | exact (hL.out.keep (bl2 _)).cells | exact (Two2.keep (hL.out.keep (bl2 _)) ((Below.refl _ _).alloc (Nat.le_refl _) _)).cells | exact hq1.cells | fail "keep")
    (first
      | (refine upon_make 128 (by omega) ?_)
      | (go_at_call 72; refine (put_at_no _ (List.replicate 128 0) 128 p a _ (made_zeros W0.drew 128) (by simp) (by omega) HP4.out HSA.out).mono ?_; rintro e w1 ⟨rfl, hb1⟩; have hq1 := Two2.keep (Two2.keep (hL.out.keep (bl2 _)) ((Below.refl _ _).alloc (Nat.le_refl _) _)) hb1)
      | fail "arm")
  have HQ1 := hid hq1
  clear hq1
  go_wp2_with fail
  go_region_held3 (fun W => (W.cell? ⟨w.heap.size, 0, none⟩ = some (.int .i64 a.k) ∧ W.cell? ⟨w.heap.size, 1, none⟩ = some (.int .i64 a.l) ∧ W.cell? ⟨w.heap.size, 2, none⟩ = some (.int .i64 a.g) ∧ W.cell? ⟨w.heap.size, 3, none⟩ = some (.int .i64 a.s) ∧ W.cell? ⟨w.heap.size, 4, none⟩ = some (.int .i64 a.c) ∧ W.cell? ⟨w.heap.size, 5, none⟩ = some (.int .i64 a.d0) ∧ W.cell? ⟨w.heap.size, 6, none⟩ = some (.int .i64 a.d1) ∧ W.cell? ⟨w.heap.size, 7, none⟩ = some (.int .i64 a.d2) ∧ W.cell? ⟨w.heap.size, 8, none⟩ = some (.int .i64 a.d3) ∧ W.cell? ⟨w.heap.size, 9, none⟩ = some (.int .i64 a.o) ∧ W.cell? ⟨w.heap.size, 10, none⟩ = some (.int .i64 a.t)) ∧ (W.cell? ⟨w.heap.size + 1, 0, none⟩ = some (.int .i64 b.k) ∧ W.cell? ⟨w.heap.size + 1, 1, none⟩ = some (.int .i64 b.l) ∧ W.cell? ⟨w.heap.size + 1, 2, none⟩ = some (.int .i64 b.g) ∧ W.cell? ⟨w.heap.size + 1, 3, none⟩ = some (.int .i64 b.s) ∧ W.cell? ⟨w.heap.size + 1, 4, none⟩ = some (.int .i64 b.c) ∧ W.cell? ⟨w.heap.size + 1, 5, none⟩ = some (.int .i64 b.d0) ∧ W.cell? ⟨w.heap.size + 1, 6, none⟩ = some (.int .i64 b.d1) ∧ W.cell? ⟨w.heap.size + 1, 7, none⟩ = some (.int .i64 b.d2) ∧ W.cell? ⟨w.heap.size + 1, 8, none⟩ = some (.int .i64 b.d3) ∧ W.cell? ⟨w.heap.size + 1, 9, none⟩ = some (.int .i64 b.o) ∧ W.cell? ⟨w.heap.size + 1, 10, none⟩ = some (.int .i64 b.t)) ∧ Two2 w W a b (w.heap.size + 1))
    (first | exact HQ1.out.cells | exact (HQ1.out.keep (bl2 _)).cells | exact (Two2.keep (HQ1.out.keep (bl2 _)) ((Below.refl _ _).alloc (Nat.le_refl _) _)).cells | exact hq2.cells | fail "keep")
    (first
      | (refine upon_make 128 (by omega) ?_)
      | (go_at_call 72; refine (put_at _ (List.replicate 128 0) 128 p b _ (made_zeros w1.drew 128) (by simp) (by omega) HP4.out HSB.out).mono ?_; rintro e w2 ⟨A2, c2, rfl, ho2, hb2⟩; have hq2 := Two2.keep (Two2.keep (HQ1.out.keep (bl2 _)) ((Below.refl _ _).alloc (Nat.le_refl _) _)) hb2)
      | fail "arm")
  have HQ2 := hid hq2
  clear hq2
  go_wp2_with fail
  refine (awake10_any _).mono ?_
  rintro e w3 ⟨rfl, hb3⟩
  have hq3 := HQ2.out.keep hb3
  go_wp2_with fail
  refine (awake10_any _).mono ?_
  rintro e w4 ⟨rfl, hb4⟩
  have hq4 := hq3.keep hb4
  go_wp2
  go_ret
  exact ⟨rfl, hq4.1.2⟩

set_option maxHeartbeats 8000000 in
set_option maxRecDepth 100000 in
theorem apart_tf (w : World) (a b : Nod) (i t x : Int) (p : Nat) (hi : 0 ≤ i ∧ i < 256) (hp : i % 4 = p) (hp4 : p < 4) (hsa : soundN a = true) (hsb : soundN b = false) :
    Calls Try.prog 21 #[.agg #[.int .i64 a.k, .int .i64 a.l, .int .i64 a.g, .int .i64 a.s, .int .i64 a.c, .int .i64 a.d0, .int .i64 a.d1, .int .i64 a.d2, .int .i64 a.d3, .int .i64 a.o, .int .i64 a.t], .agg #[.int .i64 b.k, .int .i64 b.l, .int .i64 b.g, .int .i64 b.s, .int .i64 b.c, .int .i64 b.d0, .int .i64 b.d1, .int .i64 b.d2, .int .i64 b.d3, .int .i64 b.o, .int .i64 b.t], .int .u8 i, .int .u8 t, .int .u8 x] w fun e w' => e = .returned (.bool true) ∧ Below w.heap.size w w' := by
  have hL := hid (Two2.new w a b)
  have HSA := hid hsa
  have HSB := hid hsb
  have HP4 := hid hp4
  clear hsa hsb hp4
  go_enter Try.func21, Try.ntmps21
  go_wp2_with fail
  clear hp
  generalize (w.alloc (.cells #[.int .i64 a.k, .int .i64 a.l, .int .i64 a.g, .int .i64 a.s, .int .i64 a.c, .int .i64 a.d0, .int .i64 a.d1, .int .i64 a.d2, .int .i64 a.d3, .int .i64 a.o, .int .i64 a.t] 84)).alloc (.cells #[.int .i64 b.k, .int .i64 b.l, .int .i64 b.g, .int .i64 b.s, .int .i64 b.c, .int .i64 b.d0, .int .i64 b.d1, .int .i64 b.d2, .int .i64 b.d3, .int .i64 b.o, .int .i64 b.t] 84) = W0 at hL ⊢
  go_region_held3 (fun W => (W.cell? ⟨w.heap.size, 0, none⟩ = some (.int .i64 a.k) ∧ W.cell? ⟨w.heap.size, 1, none⟩ = some (.int .i64 a.l) ∧ W.cell? ⟨w.heap.size, 2, none⟩ = some (.int .i64 a.g) ∧ W.cell? ⟨w.heap.size, 3, none⟩ = some (.int .i64 a.s) ∧ W.cell? ⟨w.heap.size, 4, none⟩ = some (.int .i64 a.c) ∧ W.cell? ⟨w.heap.size, 5, none⟩ = some (.int .i64 a.d0) ∧ W.cell? ⟨w.heap.size, 6, none⟩ = some (.int .i64 a.d1) ∧ W.cell? ⟨w.heap.size, 7, none⟩ = some (.int .i64 a.d2) ∧ W.cell? ⟨w.heap.size, 8, none⟩ = some (.int .i64 a.d3) ∧ W.cell? ⟨w.heap.size, 9, none⟩ = some (.int .i64 a.o) ∧ W.cell? ⟨w.heap.size, 10, none⟩ = some (.int .i64 a.t)) ∧ (W.cell? ⟨w.heap.size + 1, 0, none⟩ = some (.int .i64 b.k) ∧ W.cell? ⟨w.heap.size + 1, 1, none⟩ = some (.int .i64 b.l) ∧ W.cell? ⟨w.heap.size + 1, 2, none⟩ = some (.int .i64 b.g) ∧ W.cell? ⟨w.heap.size + 1, 3, none⟩ = some (.int .i64 b.s) ∧ W.cell? ⟨w.heap.size + 1, 4, none⟩ = some (.int .i64 b.c) ∧ W.cell? ⟨w.heap.size + 1, 5, none⟩ = some (.int .i64 b.d0) ∧ W.cell? ⟨w.heap.size + 1, 6, none⟩ = some (.int .i64 b.d1) ∧ W.cell? ⟨w.heap.size + 1, 7, none⟩ = some (.int .i64 b.d2) ∧ W.cell? ⟨w.heap.size + 1, 8, none⟩ = some (.int .i64 b.d3) ∧ W.cell? ⟨w.heap.size + 1, 9, none⟩ = some (.int .i64 b.o) ∧ W.cell? ⟨w.heap.size + 1, 10, none⟩ = some (.int .i64 b.t)) ∧ Two2 w W a b (w.heap.size + 1))
    (first | exact hL.out.cells | exact (hL.out.keep (bl2 _)).cells | exact (Two2.keep (hL.out.keep (bl2 _)) ((Below.refl _ _).alloc (Nat.le_refl _) _)).cells | exact hq1.cells | fail "keep")
    (first
      | (refine upon_make 128 (by omega) ?_)
      | (go_at_call 72; refine (put_at _ (List.replicate 128 0) 128 p a _ (made_zeros W0.drew 128) (by simp) (by omega) HP4.out HSA.out).mono ?_; rintro e w1 ⟨A1, c1, rfl, ho1, hb1⟩; have hq1 := Two2.keep (Two2.keep (hL.out.keep (bl2 _)) ((Below.refl _ _).alloc (Nat.le_refl _) _)) hb1)
      | fail "arm")
  have HQ1 := hid hq1
  clear hq1
  go_wp2_with fail
  go_region_held3 (fun W => (W.cell? ⟨w.heap.size, 0, none⟩ = some (.int .i64 a.k) ∧ W.cell? ⟨w.heap.size, 1, none⟩ = some (.int .i64 a.l) ∧ W.cell? ⟨w.heap.size, 2, none⟩ = some (.int .i64 a.g) ∧ W.cell? ⟨w.heap.size, 3, none⟩ = some (.int .i64 a.s) ∧ W.cell? ⟨w.heap.size, 4, none⟩ = some (.int .i64 a.c) ∧ W.cell? ⟨w.heap.size, 5, none⟩ = some (.int .i64 a.d0) ∧ W.cell? ⟨w.heap.size, 6, none⟩ = some (.int .i64 a.d1) ∧ W.cell? ⟨w.heap.size, 7, none⟩ = some (.int .i64 a.d2) ∧ W.cell? ⟨w.heap.size, 8, none⟩ = some (.int .i64 a.d3) ∧ W.cell? ⟨w.heap.size, 9, none⟩ = some (.int .i64 a.o) ∧ W.cell? ⟨w.heap.size, 10, none⟩ = some (.int .i64 a.t)) ∧ (W.cell? ⟨w.heap.size + 1, 0, none⟩ = some (.int .i64 b.k) ∧ W.cell? ⟨w.heap.size + 1, 1, none⟩ = some (.int .i64 b.l) ∧ W.cell? ⟨w.heap.size + 1, 2, none⟩ = some (.int .i64 b.g) ∧ W.cell? ⟨w.heap.size + 1, 3, none⟩ = some (.int .i64 b.s) ∧ W.cell? ⟨w.heap.size + 1, 4, none⟩ = some (.int .i64 b.c) ∧ W.cell? ⟨w.heap.size + 1, 5, none⟩ = some (.int .i64 b.d0) ∧ W.cell? ⟨w.heap.size + 1, 6, none⟩ = some (.int .i64 b.d1) ∧ W.cell? ⟨w.heap.size + 1, 7, none⟩ = some (.int .i64 b.d2) ∧ W.cell? ⟨w.heap.size + 1, 8, none⟩ = some (.int .i64 b.d3) ∧ W.cell? ⟨w.heap.size + 1, 9, none⟩ = some (.int .i64 b.o) ∧ W.cell? ⟨w.heap.size + 1, 10, none⟩ = some (.int .i64 b.t)) ∧ Two2 w W a b (w.heap.size + 1))
    (first | exact HQ1.out.cells | exact (HQ1.out.keep (bl2 _)).cells | exact (Two2.keep (HQ1.out.keep (bl2 _)) ((Below.refl _ _).alloc (Nat.le_refl _) _)).cells | exact hq2.cells | fail "keep")
    (first
      | (refine upon_make 128 (by omega) ?_)
      | (go_at_call 72; refine (put_at_no _ (List.replicate 128 0) 128 p b _ (made_zeros w1.drew 128) (by simp) (by omega) HP4.out HSB.out).mono ?_; rintro e w2 ⟨rfl, hb2⟩; have hq2 := Two2.keep (Two2.keep (HQ1.out.keep (bl2 _)) ((Below.refl _ _).alloc (Nat.le_refl _) _)) hb2)
      | fail "arm")
  have HQ2 := hid hq2
  clear hq2
  go_wp2_with fail
  refine (awake10_any _).mono ?_
  rintro e w3 ⟨rfl, hb3⟩
  have hq3 := HQ2.out.keep hb3
  go_wp2_with fail
  refine (awake10_any _).mono ?_
  rintro e w4 ⟨rfl, hb4⟩
  have hq4 := hq3.keep hb4
  go_wp2
  go_ret
  exact ⟨rfl, hq4.1.2⟩

set_option maxHeartbeats 8000000 in
set_option maxRecDepth 100000 in
theorem apart_tt (w : World) (a b : Nod) (i t : Int) (x : UInt8) (p r : Nat) (hi : 0 ≤ i ∧ i < 256) (ht : 0 ≤ t ∧ t < 256) (hp : i % 4 = p) (hrt : t % 6 = r) (hr : r < 6) (hp4 : p < 4) (hsa : soundN a = true) (hsb : soundN b = true) :
    Calls Try.prog 21 #[.agg #[.int .i64 a.k, .int .i64 a.l, .int .i64 a.g, .int .i64 a.s, .int .i64 a.c, .int .i64 a.d0, .int .i64 a.d1, .int .i64 a.d2, .int .i64 a.d3, .int .i64 a.o, .int .i64 a.t], .agg #[.int .i64 b.k, .int .i64 b.l, .int .i64 b.g, .int .i64 b.s, .int .i64 b.c, .int .i64 b.d0, .int .i64 b.d1, .int .i64 b.d2, .int .i64 b.d3, .int .i64 b.o, .int .i64 b.t], .int .u8 i, .int .u8 t, .int .u8 (x.toNat : Nat)] w fun e w' => e = .returned (.bool true) ∧ Below w.heap.size w w' := by
  have hL := hid (Two2.new w a b)
  have HSA := hid hsa
  have HSB := hid hsb
  have HP4 := hid hp4
  clear hsa hsb hp4
  go_enter Try.func21, Try.ntmps21
  go_wp2_with fail
  clear hp
  generalize (w.alloc (.cells #[.int .i64 a.k, .int .i64 a.l, .int .i64 a.g, .int .i64 a.s, .int .i64 a.c, .int .i64 a.d0, .int .i64 a.d1, .int .i64 a.d2, .int .i64 a.d3, .int .i64 a.o, .int .i64 a.t] 84)).alloc (.cells #[.int .i64 b.k, .int .i64 b.l, .int .i64 b.g, .int .i64 b.s, .int .i64 b.c, .int .i64 b.d0, .int .i64 b.d1, .int .i64 b.d2, .int .i64 b.d3, .int .i64 b.o, .int .i64 b.t] 84) = W0 at hL ⊢
  go_region_held3 (fun W => (W.cell? ⟨w.heap.size, 0, none⟩ = some (.int .i64 a.k) ∧ W.cell? ⟨w.heap.size, 1, none⟩ = some (.int .i64 a.l) ∧ W.cell? ⟨w.heap.size, 2, none⟩ = some (.int .i64 a.g) ∧ W.cell? ⟨w.heap.size, 3, none⟩ = some (.int .i64 a.s) ∧ W.cell? ⟨w.heap.size, 4, none⟩ = some (.int .i64 a.c) ∧ W.cell? ⟨w.heap.size, 5, none⟩ = some (.int .i64 a.d0) ∧ W.cell? ⟨w.heap.size, 6, none⟩ = some (.int .i64 a.d1) ∧ W.cell? ⟨w.heap.size, 7, none⟩ = some (.int .i64 a.d2) ∧ W.cell? ⟨w.heap.size, 8, none⟩ = some (.int .i64 a.d3) ∧ W.cell? ⟨w.heap.size, 9, none⟩ = some (.int .i64 a.o) ∧ W.cell? ⟨w.heap.size, 10, none⟩ = some (.int .i64 a.t)) ∧ (W.cell? ⟨w.heap.size + 1, 0, none⟩ = some (.int .i64 b.k) ∧ W.cell? ⟨w.heap.size + 1, 1, none⟩ = some (.int .i64 b.l) ∧ W.cell? ⟨w.heap.size + 1, 2, none⟩ = some (.int .i64 b.g) ∧ W.cell? ⟨w.heap.size + 1, 3, none⟩ = some (.int .i64 b.s) ∧ W.cell? ⟨w.heap.size + 1, 4, none⟩ = some (.int .i64 b.c) ∧ W.cell? ⟨w.heap.size + 1, 5, none⟩ = some (.int .i64 b.d0) ∧ W.cell? ⟨w.heap.size + 1, 6, none⟩ = some (.int .i64 b.d1) ∧ W.cell? ⟨w.heap.size + 1, 7, none⟩ = some (.int .i64 b.d2) ∧ W.cell? ⟨w.heap.size + 1, 8, none⟩ = some (.int .i64 b.d3) ∧ W.cell? ⟨w.heap.size + 1, 9, none⟩ = some (.int .i64 b.o) ∧ W.cell? ⟨w.heap.size + 1, 10, none⟩ = some (.int .i64 b.t)) ∧ Two2 w W a b (w.heap.size + 1))
    (first | exact hL.out.cells | exact (hL.out.keep (bl2 _)).cells | exact (Two2.keep (hL.out.keep (bl2 _)) ((Below.refl _ _).alloc (Nat.le_refl _) _)).cells | exact hq1.cells | fail "keep")
    (first
      | (refine upon_make 128 (by omega) ?_)
      | (go_at_call 72; refine (put_at _ (List.replicate 128 0) 128 p a _ (made_zeros W0.drew 128) (by simp) (by omega) HP4.out HSA.out).mono ?_; rintro e w1 ⟨A1, c1, rfl, ho1, hb1⟩; have hq1 := Two2.keep (Two2.keep (hL.out.keep (bl2 _)) ((Below.refl _ _).alloc (Nat.le_refl _) _)) hb1)
      | fail "arm")
  have HQ1 := hid hq1
  clear hq1
  have HO1 := hid ho1
  clear ho1
  go_wp2_with fail
  go_region_held3 (fun W => (W.cell? ⟨w.heap.size, 0, none⟩ = some (.int .i64 a.k) ∧ W.cell? ⟨w.heap.size, 1, none⟩ = some (.int .i64 a.l) ∧ W.cell? ⟨w.heap.size, 2, none⟩ = some (.int .i64 a.g) ∧ W.cell? ⟨w.heap.size, 3, none⟩ = some (.int .i64 a.s) ∧ W.cell? ⟨w.heap.size, 4, none⟩ = some (.int .i64 a.c) ∧ W.cell? ⟨w.heap.size, 5, none⟩ = some (.int .i64 a.d0) ∧ W.cell? ⟨w.heap.size, 6, none⟩ = some (.int .i64 a.d1) ∧ W.cell? ⟨w.heap.size, 7, none⟩ = some (.int .i64 a.d2) ∧ W.cell? ⟨w.heap.size, 8, none⟩ = some (.int .i64 a.d3) ∧ W.cell? ⟨w.heap.size, 9, none⟩ = some (.int .i64 a.o) ∧ W.cell? ⟨w.heap.size, 10, none⟩ = some (.int .i64 a.t)) ∧ (W.cell? ⟨w.heap.size + 1, 0, none⟩ = some (.int .i64 b.k) ∧ W.cell? ⟨w.heap.size + 1, 1, none⟩ = some (.int .i64 b.l) ∧ W.cell? ⟨w.heap.size + 1, 2, none⟩ = some (.int .i64 b.g) ∧ W.cell? ⟨w.heap.size + 1, 3, none⟩ = some (.int .i64 b.s) ∧ W.cell? ⟨w.heap.size + 1, 4, none⟩ = some (.int .i64 b.c) ∧ W.cell? ⟨w.heap.size + 1, 5, none⟩ = some (.int .i64 b.d0) ∧ W.cell? ⟨w.heap.size + 1, 6, none⟩ = some (.int .i64 b.d1) ∧ W.cell? ⟨w.heap.size + 1, 7, none⟩ = some (.int .i64 b.d2) ∧ W.cell? ⟨w.heap.size + 1, 8, none⟩ = some (.int .i64 b.d3) ∧ W.cell? ⟨w.heap.size + 1, 9, none⟩ = some (.int .i64 b.o) ∧ W.cell? ⟨w.heap.size + 1, 10, none⟩ = some (.int .i64 b.t)) ∧ Two2 w W a b (w.heap.size + 1))
    (first | exact HQ1.out.cells | exact (HQ1.out.keep (bl2 _)).cells | exact (Two2.keep (HQ1.out.keep (bl2 _)) ((Below.refl _ _).alloc (Nat.le_refl _) _)).cells | exact hq2.cells | fail "keep")
    (first
      | (refine upon_make 128 (by omega) ?_)
      | (go_at_call 72; refine (put_at _ (List.replicate 128 0) 128 p b _ (made_zeros w1.drew 128) (by simp) (by omega) HP4.out HSB.out).mono ?_; rintro e w2 ⟨A2, c2, rfl, ho2, hb2⟩; have hq2 := Two2.keep (Two2.keep (HQ1.out.keep (bl2 _)) ((Below.refl _ _).alloc (Nat.le_refl _) _)) hb2)
      | fail "arm")
  have HQ2 := hid hq2
  clear hq2
  have hb12 := (((Below.refl w1.heap.size w1).drew).alloc (Nat.le_refl _) (.cells (madeCells #[.int .u8 0] 128) 5)).trans (hb2.mono (by simp))
  have HO12 := hid (HO1.out.below hb12 (Nat.le_refl _))
  have HO2 := hid ho2
  clear ho2 hb12
  go_wp2_with fail
  refine (awake10_any _).mono ?_
  rintro e w3 ⟨rfl, hb3⟩
  have hq3 := HQ2.out.keep hb3
  have HO13 := hid (HO12.out.below hb3 (Nat.le_refl _))
  have HO23 := hid (HO2.out.below hb3 (Nat.le_refl _))
  have HQ3 := hid hq3
  have HPL : Hid ((putS (List.replicate 128 0) p (encL a)).length = 128) := hid (putS_len List.length_replicate (encL_len a) HP4.out)
  have HQL : Hid ((putS (List.replicate 128 0) p (encL b)).length = 128) := hid (putS_len List.length_replicate (encL_len b) HP4.out)
  obtain ⟨P, hP⟩ : ∃ P, P = putS (List.replicate 128 0) p (encL a) := ⟨_, rfl⟩
  obtain ⟨Q, hQ⟩ : ∃ Q, Q = putS (List.replicate 128 0) p (encL b) := ⟨_, rfl⟩
  rw [← hP] at HO13 HPL
  rw [← hQ] at HO23 HQL
  have hv1 : ∀ W, Below w3.heap.size w3 W → (convert 22 9 (.slice A1 128 c1)).run Try.prog W = .ok (.string (bstr P)) W := fun W hW => by
    have := cv_bytes c1 (HO13.out.cells.below hW (Nat.le_refl _))
    rwa [HPL.out] at this
  have hv2 : ∀ W, Below w3.heap.size w3 W → (convert 22 9 (.slice A2 128 c2)).run Try.prog W = .ok (.string (bstr Q)) W := fun W hW => by
    have := cv_bytes c2 (HO23.out.cells.below hW (Nat.le_refl _))
    rwa [HQL.out] at this
  have hpqb : (P = Q) ↔ (a = b) := ⟨fun h => enc_inj HSA.out HSB.out (putS_inj List.length_replicate (encL_len a) (encL_len b) HP4.out (by rw [← hP, ← hQ, h])), fun h => by rw [hP, hQ, h]⟩
  have HPD := hid hP
  clear hq3 hP hQ
  obtain ⟨g1, cur1, rfl, -⟩ := HO13.out.open (by omega)
  have hcap1 := HO13.out.le.1
  obtain ⟨v, hv⟩ := get_of_lt P (i := 32 * p + 26 + r) (by have h1 := HPL.out; have h2 := HP4.out; omega)
  have hcl : w3.drew.cell? ⟨g1, 32 * p + 26 + r, none⟩ = some (bv v) := by
    obtain ⟨b1, o1, ee, hc⟩ := HO13.out.cells (32 * p + 26 + r) (bv v) (by rw [List.getElem?_map, hv]; rfl)
    cases ee
    rw [Nat.zero_add] at hc
    exact hc
  have hfr := HO13.out.drew.free rfl (32 * p + 26 + r)
  have hoy := own_xor HO13.out (32 * p + 26 + r) v x
  have hyl : (P.set (32 * p + 26 + r) (v ^^^ x)).length = 128 := by rw [List.length_set]; exact HPL.out
  have hgy := getN_any (some ⟨g1, 0, none⟩) (P.set (32 * p + 26 + r) (v ^^^ x)) c1 p _ hoy.cells (by rw [hyl]; exact hcap1)
  rw [hyl] at hgy
  have hgv : getN (P.set (32 * p + 26 + r) (v ^^^ x)) (p : Int) = if x = 0 then (a, 0) else (nod0, 2) := by
    have h4 := HP4.out
    have hs : getS P p = encL a := by rw [HPD.out]; exact get_put List.length_replicate (encL_len a) h4
    have hva : (encL a)[26 + r]? = some v := by
      rw [← hs, getS, List.getElem?_take_of_lt (by omega), List.getElem?_drop, ← hv]
      congr 1
      omega
    rw [getN, if_pos ⟨hyl, by omega, by omega⟩, Int.toNat_natCast, show 32 * p + 26 + r = 32 * p + (26 + r) by omega, getS_set (by omega), hs]
    by_cases hx0 : x = 0
    · subst hx0
      rw [if_pos rfl, show v ^^^ 0 = v from by simp, List.set_getElem?_self' hva, ok_enc HSA.out, dec_enc HSA.out]
      rfl
    · rw [if_neg hx0, behind HSA.out hr hva (fun e => hx0 (xor_zero_of e))]
      rfl
  rw [hgv] at hgy
  have hbx := HQ3.out
  have HGY := hid hgy
  have HBW := hid ((HQ3.out.1.2.setCell (p := ⟨g1, 32 * p + 26 + r, none⟩) (show w.heap.size ≤ g1 from by have h1 := (HO13.out.block g1 rfl).1; have h2 := hL.out.1.2.size; simp at h1; omega) (.int .u8 (bits .xor .u8 (v.toNat : Int) (x.toNat : Int)))).drew)
  clear hgy hgv hoy hyl hv hbx
  have hpi : (p : Int) ≤ 3 := by have := HP4.out; omega
  have hri : (r : Int) ≤ 5 := by omega
  have htn : (32 * (p : Int) + 26 + (r : Int)).toNat = 32 * p + 26 + r := by omega
  by_cases hab : a = b
  · have hpq := hpqb.2 hab
    subst hab
    subst hpq
    have hs1 := eq84_same a
    have hs2 := eq82_same a
    clear hpqb
    go_wp2_with fail
    go_region_held3 (fun W => (W.cell? ⟨w.heap.size, 0, none⟩ = some (.int .i64 a.k) ∧ W.cell? ⟨w.heap.size, 1, none⟩ = some (.int .i64 a.l) ∧ W.cell? ⟨w.heap.size, 2, none⟩ = some (.int .i64 a.g) ∧ W.cell? ⟨w.heap.size, 3, none⟩ = some (.int .i64 a.s) ∧ W.cell? ⟨w.heap.size, 4, none⟩ = some (.int .i64 a.c) ∧ W.cell? ⟨w.heap.size, 5, none⟩ = some (.int .i64 a.d0) ∧ W.cell? ⟨w.heap.size, 6, none⟩ = some (.int .i64 a.d1) ∧ W.cell? ⟨w.heap.size, 7, none⟩ = some (.int .i64 a.d2) ∧ W.cell? ⟨w.heap.size, 8, none⟩ = some (.int .i64 a.d3) ∧ W.cell? ⟨w.heap.size, 9, none⟩ = some (.int .i64 a.o) ∧ W.cell? ⟨w.heap.size, 10, none⟩ = some (.int .i64 a.t)) ∧ (W.cell? ⟨w.heap.size + 1, 0, none⟩ = some (.int .i64 a.k) ∧ W.cell? ⟨w.heap.size + 1, 1, none⟩ = some (.int .i64 a.l) ∧ W.cell? ⟨w.heap.size + 1, 2, none⟩ = some (.int .i64 a.g) ∧ W.cell? ⟨w.heap.size + 1, 3, none⟩ = some (.int .i64 a.s) ∧ W.cell? ⟨w.heap.size + 1, 4, none⟩ = some (.int .i64 a.c) ∧ W.cell? ⟨w.heap.size + 1, 5, none⟩ = some (.int .i64 a.d0) ∧ W.cell? ⟨w.heap.size + 1, 6, none⟩ = some (.int .i64 a.d1) ∧ W.cell? ⟨w.heap.size + 1, 7, none⟩ = some (.int .i64 a.d2) ∧ W.cell? ⟨w.heap.size + 1, 8, none⟩ = some (.int .i64 a.d3) ∧ W.cell? ⟨w.heap.size + 1, 9, none⟩ = some (.int .i64 a.o) ∧ W.cell? ⟨w.heap.size + 1, 10, none⟩ = some (.int .i64 a.t)) ∧ Two2 w W a a (w.heap.size + 1) ∧ Below w3.heap.size w3 W)
      (first | exact ⟨HQ3.out.cells.1, HQ3.out.cells.2.1, HQ3.out, Below.refl _ _⟩ | exact ⟨(HQ3.out.keep (bl2 _)).cells.1, (HQ3.out.keep (bl2 _)).cells.2.1, HQ3.out.keep (bl2 _), bl2 _⟩ | fail "keep")
      (fail)
    go_wp2_with fail
    refine HGY.out.mono ?_
    rintro e w5 ⟨rfl, hb5⟩
    by_cases hx0 : x = 0
    · subst hx0
      go_wp2
      go_ret
      exact ⟨rfl, (below_t HBW.out hb5 HBW.out.size).alloc (below_t HBW.out hb5 HBW.out.size).size _⟩
    · have hxn : ((x.toNat : Int) == 0) = false := by
        rw [beq_eq_false_iff_ne]
        intro h
        exact hx0 (UInt8.toNat_inj.1 (by simpa using h))
      rw [if_neg hx0]
      go_wp2
      go_ret
      exact ⟨rfl, (below_t HBW.out hb5 HBW.out.size).alloc (below_t HBW.out hb5 HBW.out.size).size _⟩
  · have hpq : ¬ P = Q := fun h => hab (hpqb.1 h)
    have hne : (P == Q) = false := by simpa using hpq
    have hs1 := eq84_ne hab
    clear hpqb hpq
    go_wp2_with fail
    go_region_held3 (fun W => (W.cell? ⟨w.heap.size, 0, none⟩ = some (.int .i64 a.k) ∧ W.cell? ⟨w.heap.size, 1, none⟩ = some (.int .i64 a.l) ∧ W.cell? ⟨w.heap.size, 2, none⟩ = some (.int .i64 a.g) ∧ W.cell? ⟨w.heap.size, 3, none⟩ = some (.int .i64 a.s) ∧ W.cell? ⟨w.heap.size, 4, none⟩ = some (.int .i64 a.c) ∧ W.cell? ⟨w.heap.size, 5, none⟩ = some (.int .i64 a.d0) ∧ W.cell? ⟨w.heap.size, 6, none⟩ = some (.int .i64 a.d1) ∧ W.cell? ⟨w.heap.size, 7, none⟩ = some (.int .i64 a.d2) ∧ W.cell? ⟨w.heap.size, 8, none⟩ = some (.int .i64 a.d3) ∧ W.cell? ⟨w.heap.size, 9, none⟩ = some (.int .i64 a.o) ∧ W.cell? ⟨w.heap.size, 10, none⟩ = some (.int .i64 a.t)) ∧ (W.cell? ⟨w.heap.size + 1, 0, none⟩ = some (.int .i64 b.k) ∧ W.cell? ⟨w.heap.size + 1, 1, none⟩ = some (.int .i64 b.l) ∧ W.cell? ⟨w.heap.size + 1, 2, none⟩ = some (.int .i64 b.g) ∧ W.cell? ⟨w.heap.size + 1, 3, none⟩ = some (.int .i64 b.s) ∧ W.cell? ⟨w.heap.size + 1, 4, none⟩ = some (.int .i64 b.c) ∧ W.cell? ⟨w.heap.size + 1, 5, none⟩ = some (.int .i64 b.d0) ∧ W.cell? ⟨w.heap.size + 1, 6, none⟩ = some (.int .i64 b.d1) ∧ W.cell? ⟨w.heap.size + 1, 7, none⟩ = some (.int .i64 b.d2) ∧ W.cell? ⟨w.heap.size + 1, 8, none⟩ = some (.int .i64 b.d3) ∧ W.cell? ⟨w.heap.size + 1, 9, none⟩ = some (.int .i64 b.o) ∧ W.cell? ⟨w.heap.size + 1, 10, none⟩ = some (.int .i64 b.t)) ∧ Two2 w W a b (w.heap.size + 1) ∧ Below w3.heap.size w3 W)
      (first | exact ⟨HQ3.out.cells.1, HQ3.out.cells.2.1, HQ3.out, Below.refl _ _⟩ | exact ⟨(HQ3.out.keep (bl2 _)).cells.1, (HQ3.out.keep (bl2 _)).cells.2.1, HQ3.out.keep (bl2 _), bl2 _⟩ | fail "keep")
      (fail)
    go_wp2_with fail
    refine HGY.out.mono ?_
    rintro e w5 ⟨rfl, hb5⟩
    by_cases hx0 : x = 0
    · subst hx0
      go_wp2
      go_ret
      exact ⟨rfl, (below_t HBW.out hb5 HBW.out.size).alloc (below_t HBW.out hb5 HBW.out.size).size _⟩
    · have hxn : ((x.toNat : Int) == 0) = false := by
        rw [beq_eq_false_iff_ne]
        intro h
        exact hx0 (UInt8.toNat_inj.1 (by simpa using h))
      rw [if_neg hx0]
      go_wp2
      go_ret
      exact ⟨rfl, (below_t HBW.out hb5 HBW.out.size).alloc (below_t HBW.out hb5 HBW.out.size).size _⟩
theorem nodeApart_walk (w : World) (a b : Nod) (i t x : Int) (hi : 0 ≤ i ∧ i < 256) (ht : 0 ≤ t ∧ t < 256) (hx : 0 ≤ x ∧ x < 256) :
    Calls Try.prog 21 #[.agg #[.int .i64 a.k, .int .i64 a.l, .int .i64 a.g, .int .i64 a.s, .int .i64 a.c, .int .i64 a.d0, .int .i64 a.d1, .int .i64 a.d2, .int .i64 a.d3, .int .i64 a.o, .int .i64 a.t], .agg #[.int .i64 b.k, .int .i64 b.l, .int .i64 b.g, .int .i64 b.s, .int .i64 b.c, .int .i64 b.d0, .int .i64 b.d1, .int .i64 b.d2, .int .i64 b.d3, .int .i64 b.o, .int .i64 b.t], .int .u8 i, .int .u8 t, .int .u8 x] w fun e w' => e = .returned (.bool true) ∧ Below w.heap.size w w' := by
  have hp : i % 4 = ((i % 4).toNat : Nat) := by omega
  have hr : t % 6 = ((t % 6).toNat : Nat) := by omega
  cases hsa : soundN a with
  | true =>
    cases hsb : soundN b with
    | true =>
      have hxe : x = ((UInt8.ofNat x.toNat).toNat : Nat) := by
        rw [UInt8.toNat_ofNat', Nat.mod_eq_of_lt (by omega)]
        omega
      rw [hxe]
      exact apart_tt w a b i t (UInt8.ofNat x.toNat) _ _ hi ht hp hr (by omega) (by omega) hsa hsb
    | false => exact apart_tf w a b i t x _ hi hp (by omega) hsa hsb
  | false =>
    cases hsb : soundN b with
    | true => exact apart_ft w a b i t x _ hi hp (by omega) hsa hsb
    | false => exact apart_ff w a b i t x _ hi hp (by omega) hsa hsb
end Go.Proofs.Ytppbcdcmpcagdaa
