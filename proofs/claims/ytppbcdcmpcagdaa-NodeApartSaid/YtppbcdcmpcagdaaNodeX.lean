/- The walk of NodePuts where nothing is put. -/
import Derived.Test.YtppbcdcmpcagdaaWalkNodeGets
namespace Go.Proofs.Ytppbcdcmpcagdaa
open Go.RowKit Go.CP

/-- What is known of a node, in a box. -/
def BoxS (W : World) (p : Nat) (i : Int) (x : Nod) : Prop := W.heap[p]? = some (.cells #[.int .i64 i, .int .i64 x.g, .int .i64 x.k, .int .i64 x.l, .int .i64 x.s, .int .i64 x.c] 89 (0, 0))
theorem BoxS.cells {W : World} {p : Nat} {i : Int} {x : Nod} (h : BoxS W p i x) : W.cell? ⟨p, 0, none⟩ = some (.int .i64 i) ∧ W.cell? ⟨p, 1, none⟩ = some (.int .i64 x.g) ∧ W.cell? ⟨p, 2, none⟩ = some (.int .i64 x.k) ∧ W.cell? ⟨p, 3, none⟩ = some (.int .i64 x.l) ∧ W.cell? ⟨p, 4, none⟩ = some (.int .i64 x.s) ∧ W.cell? ⟨p, 5, none⟩ = some (.int .i64 x.c) := by
  have h' : W.heap[p]? = _ := h
  refine ⟨?_, ?_, ?_, ?_, ?_, ?_⟩ <;> simp [World.cell?, h']
theorem BoxS.below {W W' : World} {p : Nat} {i : Int} {x : Nod} (h : BoxS W p i x) (hb : Below W.heap.size W W') : BoxS W' p i x := (hb.block p (Array.getElem?_eq_some_iff.1 (show W.heap[p]? = _ from h)).1).trans h
/-- What the test of Stat and Sound keeps. -/
def PutsS (w w1 W : World) (x : Nod) (i : Int) (p q : Nat) : Prop := LastS2 w W x ∧ BoxS W p i x ∧ BoxS W q i x ∧ Below w1.heap.size w1 W
theorem PutsS.cells {w w1 W : World} {x : Nod} {i : Int} {p q : Nat} (h : PutsS w w1 W x i p q) : (W.cell? ⟨w.heap.size, 0, none⟩ = some (.int .i64 x.k) ∧ W.cell? ⟨w.heap.size, 1, none⟩ = some (.int .i64 x.l) ∧ W.cell? ⟨w.heap.size, 2, none⟩ = some (.int .i64 x.g) ∧ W.cell? ⟨w.heap.size, 3, none⟩ = some (.int .i64 x.s) ∧ W.cell? ⟨w.heap.size, 4, none⟩ = some (.int .i64 x.c) ∧ W.cell? ⟨w.heap.size, 5, none⟩ = some (.int .i64 x.d0) ∧ W.cell? ⟨w.heap.size, 6, none⟩ = some (.int .i64 x.d1) ∧ W.cell? ⟨w.heap.size, 7, none⟩ = some (.int .i64 x.d2) ∧ W.cell? ⟨w.heap.size, 8, none⟩ = some (.int .i64 x.d3) ∧ W.cell? ⟨w.heap.size, 9, none⟩ = some (.int .i64 x.o) ∧ W.cell? ⟨w.heap.size, 10, none⟩ = some (.int .i64 x.t)) ∧ (W.cell? ⟨p, 0, none⟩ = some (.int .i64 i) ∧ W.cell? ⟨p, 1, none⟩ = some (.int .i64 x.g) ∧ W.cell? ⟨p, 2, none⟩ = some (.int .i64 x.k) ∧ W.cell? ⟨p, 3, none⟩ = some (.int .i64 x.l) ∧ W.cell? ⟨p, 4, none⟩ = some (.int .i64 x.s) ∧ W.cell? ⟨p, 5, none⟩ = some (.int .i64 x.c)) ∧ (W.cell? ⟨q, 0, none⟩ = some (.int .i64 i) ∧ W.cell? ⟨q, 1, none⟩ = some (.int .i64 x.g) ∧ W.cell? ⟨q, 2, none⟩ = some (.int .i64 x.k) ∧ W.cell? ⟨q, 3, none⟩ = some (.int .i64 x.l) ∧ W.cell? ⟨q, 4, none⟩ = some (.int .i64 x.s) ∧ W.cell? ⟨q, 5, none⟩ = some (.int .i64 x.c)) ∧ PutsS w w1 W x i p q := ⟨h.1.cells.1, h.2.1.cells, h.2.2.1.cells, h⟩
theorem PutsS.keep {w w1 W W' : World} {x : Nod} {i : Int} {p q : Nat} (h : PutsS w w1 W x i p q) (hb : Below W.heap.size W W') : PutsS w w1 W' x i p q := ⟨h.1.keep hb, h.2.1.below hb, h.2.2.1.below hb, below_t h.2.2.2 hb h.2.2.2.size⟩
/-- Two boxes of one node. -/
def TwoS (w W : World) (x : Nod) (q : Nat) : Prop := LastS2 w W x ∧ BoxN W q x
theorem TwoS.cells {w W : World} {x : Nod} {q : Nat} (h : TwoS w W x q) : (W.cell? ⟨w.heap.size, 0, none⟩ = some (.int .i64 x.k) ∧ W.cell? ⟨w.heap.size, 1, none⟩ = some (.int .i64 x.l) ∧ W.cell? ⟨w.heap.size, 2, none⟩ = some (.int .i64 x.g) ∧ W.cell? ⟨w.heap.size, 3, none⟩ = some (.int .i64 x.s) ∧ W.cell? ⟨w.heap.size, 4, none⟩ = some (.int .i64 x.c) ∧ W.cell? ⟨w.heap.size, 5, none⟩ = some (.int .i64 x.d0) ∧ W.cell? ⟨w.heap.size, 6, none⟩ = some (.int .i64 x.d1) ∧ W.cell? ⟨w.heap.size, 7, none⟩ = some (.int .i64 x.d2) ∧ W.cell? ⟨w.heap.size, 8, none⟩ = some (.int .i64 x.d3) ∧ W.cell? ⟨w.heap.size, 9, none⟩ = some (.int .i64 x.o) ∧ W.cell? ⟨w.heap.size, 10, none⟩ = some (.int .i64 x.t)) ∧ (W.cell? ⟨q, 0, none⟩ = some (.int .i64 x.k) ∧ W.cell? ⟨q, 1, none⟩ = some (.int .i64 x.l) ∧ W.cell? ⟨q, 2, none⟩ = some (.int .i64 x.g) ∧ W.cell? ⟨q, 3, none⟩ = some (.int .i64 x.s) ∧ W.cell? ⟨q, 4, none⟩ = some (.int .i64 x.c) ∧ W.cell? ⟨q, 5, none⟩ = some (.int .i64 x.d0) ∧ W.cell? ⟨q, 6, none⟩ = some (.int .i64 x.d1) ∧ W.cell? ⟨q, 7, none⟩ = some (.int .i64 x.d2) ∧ W.cell? ⟨q, 8, none⟩ = some (.int .i64 x.d3) ∧ W.cell? ⟨q, 9, none⟩ = some (.int .i64 x.o) ∧ W.cell? ⟨q, 10, none⟩ = some (.int .i64 x.t)) ∧ TwoS w W x q := by
  obtain ⟨f0, f1, f2, f3, f4, f5, f6, f7, f8, f9, f10, -⟩ := h.2.facts
  exact ⟨h.1.cells.1, ⟨f0, f1, f2, f3, f4, f5, f6, f7, f8, f9, f10⟩, h⟩
theorem TwoS.keep {w W W' : World} {x : Nod} {q : Nat} (h : TwoS w W x q) (hb : Below W.heap.size W W') : TwoS w W' x q := ⟨h.1.keep hb, h.2.below hb h.2.lt⟩
theorem eq84_same (x : Nod) (W : World) : (Op.equalIn 10000 84 (.agg #[.int .i64 x.k, .int .i64 x.l, .int .i64 x.g, .int .i64 x.s, .int .i64 x.c, .int .i64 x.d0, .int .i64 x.d1, .int .i64 x.d2, .int .i64 x.d3, .int .i64 x.o, .int .i64 x.t]) (.agg #[.int .i64 x.k, .int .i64 x.l, .int .i64 x.g, .int .i64 x.s, .int .i64 x.c, .int .i64 x.d0, .int .i64 x.d1, .int .i64 x.d2, .int .i64 x.d3, .int .i64 x.o, .int .i64 x.t])).run Try.prog W = .ok true W := by
  have := eq84 9997 x x W
  rw [(eqN_iff x x).2 rfl] at this
  exact this
theorem eq82_same (x : Nod) (W : World) : (Op.equalIn 9999 82 (.agg #[.int .i64 x.d0, .int .i64 x.d1, .int .i64 x.d2, .int .i64 x.d3]) (.agg #[.int .i64 x.d0, .int .i64 x.d1, .int .i64 x.d2, .int .i64 x.d3])).run Try.prog W = .ok true W := by
  have := eq82 9997 x.d0 x.d1 x.d2 x.d3 x.d0 x.d1 x.d2 x.d3 W
  simpa using this
set_option maxHeartbeats 4000000 in
set_option maxRecDepth 100000 in
theorem puts_err (w : World) (B : Option Addr) (b : List UInt8) (c : Nat) (i : Int) (x : Nod) (h : ¬ (b.length = 128 ∧ 0 ≤ i ∧ i < 4)) :
    Calls Try.prog 18 #[.slice B b.length c, .int .i64 i, .agg #[.int .i64 x.k, .int .i64 x.l, .int .i64 x.g, .int .i64 x.s, .int .i64 x.c, .int .i64 x.d0, .int .i64 x.d1, .int .i64 x.d2, .int .i64 x.d3, .int .i64 x.o, .int .i64 x.t]] w fun e w' => e = .returned (.bool true) ∧ Below w.heap.size w w' := by
  have hpe := fun W => put_err B b c i x W h
  have HP := hid hpe
  clear hpe
  by_cases hl : b.length = 128
  · rw [hl] at HP ⊢
    by_cases h0 : i < 0
    · clear h hl
      have hL : Hid (LastS2 w (w.alloc (.cells #[.int .i64 x.k, .int .i64 x.l, .int .i64 x.g, .int .i64 x.s, .int .i64 x.c, .int .i64 x.d0, .int .i64 x.d1, .int .i64 x.d2, .int .i64 x.d3, .int .i64 x.o, .int .i64 x.t] 84)) x) := hid (LastS2.new w x)
      have HST := hid (fun W => stat_any i x W)
      have HSN := hid (soundN_any x)
      have HRS := hid (rsoundN_any x)
      obtain ⟨f0, f1, f2, f3, f4, f5, f6, f7, f8, f9, f10, -, -⟩ := hL.out.1.facts
      go_enter Try.func18, Try.ntmps18
      go_wp2_with fail
      refine (HP.out _).mono ?_
      clear f0 f1 f2 f3 f4 f5 f6 f7 f8 f9 f10
      rintro e w1 ⟨rfl, hb1⟩
      have hq1 := hL.out.keep hb1
      obtain ⟨f0, f1, f2, f3, f4, f5, f6, f7, f8, f9, f10, -, -⟩ := hq1.1.facts
      go_wp2_with fail
      refine (HST.out _).mono ?_
      clear f0 f1 f2 f3 f4 f5 f6 f7 f8 f9 f10
      rintro e w2 ⟨rfl, hb2⟩
      have hq2 := hq1.keep hb2
      have hp3 : Hid (PutsS w w1 ((w2.alloc (.cells #[.int .i64 i, .int .i64 x.g, .int .i64 x.k, .int .i64 x.l, .int .i64 x.s, .int .i64 x.c] 89)).alloc (.cells #[.int .i64 i, .int .i64 x.g, .int .i64 x.k, .int .i64 x.l, .int .i64 x.s, .int .i64 x.c] 89)) x i w2.heap.size (w2.heap.size + 1)) := by
        have h1 : BoxS (w2.alloc (.cells #[.int .i64 i, .int .i64 x.g, .int .i64 x.k, .int .i64 x.l, .int .i64 x.s, .int .i64 x.c] 89)) w2.heap.size i x := heap_alloc_new w2 _
        have h2 : BoxS ((w2.alloc (.cells #[.int .i64 i, .int .i64 x.g, .int .i64 x.k, .int .i64 x.l, .int .i64 x.s, .int .i64 x.c] 89)).alloc (.cells #[.int .i64 i, .int .i64 x.g, .int .i64 x.k, .int .i64 x.l, .int .i64 x.s, .int .i64 x.c] 89)) (w2.heap.size + 1) i x := by
          have := heap_alloc_new (w2.alloc (.cells #[.int .i64 i, .int .i64 x.g, .int .i64 x.k, .int .i64 x.l, .int .i64 x.s, .int .i64 x.c] 89)) (.cells #[.int .i64 i, .int .i64 x.g, .int .i64 x.k, .int .i64 x.l, .int .i64 x.s, .int .i64 x.c] 89)
          rw [World.size_alloc] at this
          exact this
        exact hid ⟨(hq2.keep ((Below.refl _ _).alloc (Nat.le_refl _) _)).keep ((Below.refl _ _).alloc (Nat.le_refl _) _), h1.below ((Below.refl _ _).alloc (Nat.le_refl _) _), h2, (hb2.alloc hb2.size _).alloc (by have := hb2.size; simp; omega) _⟩
      have hq2b := hq2.keep ((Below.refl _ _).alloc (Nat.le_refl _) (.cells #[.int .i64 i, .int .i64 x.g, .int .i64 x.k, .int .i64 x.l, .int .i64 x.s, .int .i64 x.c] 89))
      obtain ⟨f0, f1, f2, f3, f4, f5, f6, f7, f8, f9, f10, -, -⟩ := hq2b.1.facts
      clear hq1
      go_wp2_with fail
      clear f0 f1 f2 f3 f4 f5 f6 f7 f8 f9 f10
      go_region_held3 (fun W => (W.cell? ⟨w.heap.size, 0, none⟩ = some (.int .i64 x.k) ∧ W.cell? ⟨w.heap.size, 1, none⟩ = some (.int .i64 x.l) ∧ W.cell? ⟨w.heap.size, 2, none⟩ = some (.int .i64 x.g) ∧ W.cell? ⟨w.heap.size, 3, none⟩ = some (.int .i64 x.s) ∧ W.cell? ⟨w.heap.size, 4, none⟩ = some (.int .i64 x.c) ∧ W.cell? ⟨w.heap.size, 5, none⟩ = some (.int .i64 x.d0) ∧ W.cell? ⟨w.heap.size, 6, none⟩ = some (.int .i64 x.d1) ∧ W.cell? ⟨w.heap.size, 7, none⟩ = some (.int .i64 x.d2) ∧ W.cell? ⟨w.heap.size, 8, none⟩ = some (.int .i64 x.d3) ∧ W.cell? ⟨w.heap.size, 9, none⟩ = some (.int .i64 x.o) ∧ W.cell? ⟨w.heap.size, 10, none⟩ = some (.int .i64 x.t)) ∧ (W.cell? ⟨w2.heap.size, 0, none⟩ = some (.int .i64 i) ∧ W.cell? ⟨w2.heap.size, 1, none⟩ = some (.int .i64 x.g) ∧ W.cell? ⟨w2.heap.size, 2, none⟩ = some (.int .i64 x.k) ∧ W.cell? ⟨w2.heap.size, 3, none⟩ = some (.int .i64 x.l) ∧ W.cell? ⟨w2.heap.size, 4, none⟩ = some (.int .i64 x.s) ∧ W.cell? ⟨w2.heap.size, 5, none⟩ = some (.int .i64 x.c)) ∧ (W.cell? ⟨w2.heap.size + 1, 0, none⟩ = some (.int .i64 i) ∧ W.cell? ⟨w2.heap.size + 1, 1, none⟩ = some (.int .i64 x.g) ∧ W.cell? ⟨w2.heap.size + 1, 2, none⟩ = some (.int .i64 x.k) ∧ W.cell? ⟨w2.heap.size + 1, 3, none⟩ = some (.int .i64 x.l) ∧ W.cell? ⟨w2.heap.size + 1, 4, none⟩ = some (.int .i64 x.s) ∧ W.cell? ⟨w2.heap.size + 1, 5, none⟩ = some (.int .i64 x.c)) ∧ PutsS w w1 W x i w2.heap.size (w2.heap.size + 1))
        (first | exact hp3.out.cells | exact (hp3.out.keep (bl2 _)).cells | exact hp5.cells | exact hp4.cells | fail "keep")
        (first
          | (go_at_call 74; refine (HSN.out _).mono ?_; rintro e w4 ⟨rfl, hb4⟩; have hp4 := PutsS.keep (And.right (And.right (And.right (by assumption)))) hb4)
          | (go_at_call 75; refine (HRS.out _).mono ?_; rintro e w5 ⟨rfl, hb5⟩; have hp5 := PutsS.keep (And.right (And.right (And.right (by assumption)))) hb5)
          | fail "arm")
      have HQ5 := hid hp5.1
      clear hp3 hq2 hq2b hp4 hp5
      go_wp2_with fail
      refine (awake10_any _).mono ?_
      rintro e w6 ⟨rfl, hb6⟩
      go_wp2
      go_ret
      exact ⟨rfl, (HQ5.out.keep hb6).2⟩
    · have h4 : 3 < i := by omega
      clear h hl
      have hL : Hid (LastS2 w (w.alloc (.cells #[.int .i64 x.k, .int .i64 x.l, .int .i64 x.g, .int .i64 x.s, .int .i64 x.c, .int .i64 x.d0, .int .i64 x.d1, .int .i64 x.d2, .int .i64 x.d3, .int .i64 x.o, .int .i64 x.t] 84)) x) := hid (LastS2.new w x)
      have HST := hid (fun W => stat_any i x W)
      have HSN := hid (soundN_any x)
      have HRS := hid (rsoundN_any x)
      obtain ⟨f0, f1, f2, f3, f4, f5, f6, f7, f8, f9, f10, -, -⟩ := hL.out.1.facts
      go_enter Try.func18, Try.ntmps18
      go_wp2_with fail
      refine (HP.out _).mono ?_
      clear f0 f1 f2 f3 f4 f5 f6 f7 f8 f9 f10
      rintro e w1 ⟨rfl, hb1⟩
      have hq1 := hL.out.keep hb1
      obtain ⟨f0, f1, f2, f3, f4, f5, f6, f7, f8, f9, f10, -, -⟩ := hq1.1.facts
      go_wp2_with fail
      refine (HST.out _).mono ?_
      clear f0 f1 f2 f3 f4 f5 f6 f7 f8 f9 f10
      rintro e w2 ⟨rfl, hb2⟩
      have hq2 := hq1.keep hb2
      have hp3 : Hid (PutsS w w1 ((w2.alloc (.cells #[.int .i64 i, .int .i64 x.g, .int .i64 x.k, .int .i64 x.l, .int .i64 x.s, .int .i64 x.c] 89)).alloc (.cells #[.int .i64 i, .int .i64 x.g, .int .i64 x.k, .int .i64 x.l, .int .i64 x.s, .int .i64 x.c] 89)) x i w2.heap.size (w2.heap.size + 1)) := by
        have h1 : BoxS (w2.alloc (.cells #[.int .i64 i, .int .i64 x.g, .int .i64 x.k, .int .i64 x.l, .int .i64 x.s, .int .i64 x.c] 89)) w2.heap.size i x := heap_alloc_new w2 _
        have h2 : BoxS ((w2.alloc (.cells #[.int .i64 i, .int .i64 x.g, .int .i64 x.k, .int .i64 x.l, .int .i64 x.s, .int .i64 x.c] 89)).alloc (.cells #[.int .i64 i, .int .i64 x.g, .int .i64 x.k, .int .i64 x.l, .int .i64 x.s, .int .i64 x.c] 89)) (w2.heap.size + 1) i x := by
          have := heap_alloc_new (w2.alloc (.cells #[.int .i64 i, .int .i64 x.g, .int .i64 x.k, .int .i64 x.l, .int .i64 x.s, .int .i64 x.c] 89)) (.cells #[.int .i64 i, .int .i64 x.g, .int .i64 x.k, .int .i64 x.l, .int .i64 x.s, .int .i64 x.c] 89)
          rw [World.size_alloc] at this
          exact this
        exact hid ⟨(hq2.keep ((Below.refl _ _).alloc (Nat.le_refl _) _)).keep ((Below.refl _ _).alloc (Nat.le_refl _) _), h1.below ((Below.refl _ _).alloc (Nat.le_refl _) _), h2, (hb2.alloc hb2.size _).alloc (by have := hb2.size; simp; omega) _⟩
      have hq2b := hq2.keep ((Below.refl _ _).alloc (Nat.le_refl _) (.cells #[.int .i64 i, .int .i64 x.g, .int .i64 x.k, .int .i64 x.l, .int .i64 x.s, .int .i64 x.c] 89))
      obtain ⟨f0, f1, f2, f3, f4, f5, f6, f7, f8, f9, f10, -, -⟩ := hq2b.1.facts
      clear hq1
      go_wp2_with fail
      clear f0 f1 f2 f3 f4 f5 f6 f7 f8 f9 f10
      go_region_held3 (fun W => (W.cell? ⟨w.heap.size, 0, none⟩ = some (.int .i64 x.k) ∧ W.cell? ⟨w.heap.size, 1, none⟩ = some (.int .i64 x.l) ∧ W.cell? ⟨w.heap.size, 2, none⟩ = some (.int .i64 x.g) ∧ W.cell? ⟨w.heap.size, 3, none⟩ = some (.int .i64 x.s) ∧ W.cell? ⟨w.heap.size, 4, none⟩ = some (.int .i64 x.c) ∧ W.cell? ⟨w.heap.size, 5, none⟩ = some (.int .i64 x.d0) ∧ W.cell? ⟨w.heap.size, 6, none⟩ = some (.int .i64 x.d1) ∧ W.cell? ⟨w.heap.size, 7, none⟩ = some (.int .i64 x.d2) ∧ W.cell? ⟨w.heap.size, 8, none⟩ = some (.int .i64 x.d3) ∧ W.cell? ⟨w.heap.size, 9, none⟩ = some (.int .i64 x.o) ∧ W.cell? ⟨w.heap.size, 10, none⟩ = some (.int .i64 x.t)) ∧ (W.cell? ⟨w2.heap.size, 0, none⟩ = some (.int .i64 i) ∧ W.cell? ⟨w2.heap.size, 1, none⟩ = some (.int .i64 x.g) ∧ W.cell? ⟨w2.heap.size, 2, none⟩ = some (.int .i64 x.k) ∧ W.cell? ⟨w2.heap.size, 3, none⟩ = some (.int .i64 x.l) ∧ W.cell? ⟨w2.heap.size, 4, none⟩ = some (.int .i64 x.s) ∧ W.cell? ⟨w2.heap.size, 5, none⟩ = some (.int .i64 x.c)) ∧ (W.cell? ⟨w2.heap.size + 1, 0, none⟩ = some (.int .i64 i) ∧ W.cell? ⟨w2.heap.size + 1, 1, none⟩ = some (.int .i64 x.g) ∧ W.cell? ⟨w2.heap.size + 1, 2, none⟩ = some (.int .i64 x.k) ∧ W.cell? ⟨w2.heap.size + 1, 3, none⟩ = some (.int .i64 x.l) ∧ W.cell? ⟨w2.heap.size + 1, 4, none⟩ = some (.int .i64 x.s) ∧ W.cell? ⟨w2.heap.size + 1, 5, none⟩ = some (.int .i64 x.c)) ∧ PutsS w w1 W x i w2.heap.size (w2.heap.size + 1))
        (first | exact hp3.out.cells | exact (hp3.out.keep (bl2 _)).cells | exact hp5.cells | exact hp4.cells | fail "keep")
        (first
          | (go_at_call 74; refine (HSN.out _).mono ?_; rintro e w4 ⟨rfl, hb4⟩; have hp4 := PutsS.keep (And.right (And.right (And.right (by assumption)))) hb4)
          | (go_at_call 75; refine (HRS.out _).mono ?_; rintro e w5 ⟨rfl, hb5⟩; have hp5 := PutsS.keep (And.right (And.right (And.right (by assumption)))) hb5)
          | fail "arm")
      have HQ5 := hid hp5.1
      clear hp3 hq2 hq2b hp4 hp5
      go_wp2_with fail
      refine (awake10_any _).mono ?_
      rintro e w6 ⟨rfl, hb6⟩
      go_wp2
      go_ret
      exact ⟨rfl, (HQ5.out.keep hb6).2⟩
  · have hq : ((b.length : Int) != 128) = true := by rw [bne_iff_ne]; omega
    clear h hl
    have hL : Hid (LastS2 w (w.alloc (.cells #[.int .i64 x.k, .int .i64 x.l, .int .i64 x.g, .int .i64 x.s, .int .i64 x.c, .int .i64 x.d0, .int .i64 x.d1, .int .i64 x.d2, .int .i64 x.d3, .int .i64 x.o, .int .i64 x.t] 84)) x) := hid (LastS2.new w x)
    have HST := hid (fun W => stat_any i x W)
    have HSN := hid (soundN_any x)
    have HRS := hid (rsoundN_any x)
    obtain ⟨f0, f1, f2, f3, f4, f5, f6, f7, f8, f9, f10, -, -⟩ := hL.out.1.facts
    go_enter Try.func18, Try.ntmps18
    go_wp2_with fail
    refine (HP.out _).mono ?_
    clear f0 f1 f2 f3 f4 f5 f6 f7 f8 f9 f10
    rintro e w1 ⟨rfl, hb1⟩
    have hq1 := hL.out.keep hb1
    obtain ⟨f0, f1, f2, f3, f4, f5, f6, f7, f8, f9, f10, -, -⟩ := hq1.1.facts
    go_wp2_with fail
    refine (HST.out _).mono ?_
    clear f0 f1 f2 f3 f4 f5 f6 f7 f8 f9 f10
    rintro e w2 ⟨rfl, hb2⟩
    have hq2 := hq1.keep hb2
    have hp3 : Hid (PutsS w w1 ((w2.alloc (.cells #[.int .i64 i, .int .i64 x.g, .int .i64 x.k, .int .i64 x.l, .int .i64 x.s, .int .i64 x.c] 89)).alloc (.cells #[.int .i64 i, .int .i64 x.g, .int .i64 x.k, .int .i64 x.l, .int .i64 x.s, .int .i64 x.c] 89)) x i w2.heap.size (w2.heap.size + 1)) := by
      have h1 : BoxS (w2.alloc (.cells #[.int .i64 i, .int .i64 x.g, .int .i64 x.k, .int .i64 x.l, .int .i64 x.s, .int .i64 x.c] 89)) w2.heap.size i x := heap_alloc_new w2 _
      have h2 : BoxS ((w2.alloc (.cells #[.int .i64 i, .int .i64 x.g, .int .i64 x.k, .int .i64 x.l, .int .i64 x.s, .int .i64 x.c] 89)).alloc (.cells #[.int .i64 i, .int .i64 x.g, .int .i64 x.k, .int .i64 x.l, .int .i64 x.s, .int .i64 x.c] 89)) (w2.heap.size + 1) i x := by
        have := heap_alloc_new (w2.alloc (.cells #[.int .i64 i, .int .i64 x.g, .int .i64 x.k, .int .i64 x.l, .int .i64 x.s, .int .i64 x.c] 89)) (.cells #[.int .i64 i, .int .i64 x.g, .int .i64 x.k, .int .i64 x.l, .int .i64 x.s, .int .i64 x.c] 89)
        rw [World.size_alloc] at this
        exact this
      exact hid ⟨(hq2.keep ((Below.refl _ _).alloc (Nat.le_refl _) _)).keep ((Below.refl _ _).alloc (Nat.le_refl _) _), h1.below ((Below.refl _ _).alloc (Nat.le_refl _) _), h2, (hb2.alloc hb2.size _).alloc (by have := hb2.size; simp; omega) _⟩
    have hq2b := hq2.keep ((Below.refl _ _).alloc (Nat.le_refl _) (.cells #[.int .i64 i, .int .i64 x.g, .int .i64 x.k, .int .i64 x.l, .int .i64 x.s, .int .i64 x.c] 89))
    obtain ⟨f0, f1, f2, f3, f4, f5, f6, f7, f8, f9, f10, -, -⟩ := hq2b.1.facts
    clear hq1
    go_wp2_with fail
    clear f0 f1 f2 f3 f4 f5 f6 f7 f8 f9 f10
    go_region_held3 (fun W => (W.cell? ⟨w.heap.size, 0, none⟩ = some (.int .i64 x.k) ∧ W.cell? ⟨w.heap.size, 1, none⟩ = some (.int .i64 x.l) ∧ W.cell? ⟨w.heap.size, 2, none⟩ = some (.int .i64 x.g) ∧ W.cell? ⟨w.heap.size, 3, none⟩ = some (.int .i64 x.s) ∧ W.cell? ⟨w.heap.size, 4, none⟩ = some (.int .i64 x.c) ∧ W.cell? ⟨w.heap.size, 5, none⟩ = some (.int .i64 x.d0) ∧ W.cell? ⟨w.heap.size, 6, none⟩ = some (.int .i64 x.d1) ∧ W.cell? ⟨w.heap.size, 7, none⟩ = some (.int .i64 x.d2) ∧ W.cell? ⟨w.heap.size, 8, none⟩ = some (.int .i64 x.d3) ∧ W.cell? ⟨w.heap.size, 9, none⟩ = some (.int .i64 x.o) ∧ W.cell? ⟨w.heap.size, 10, none⟩ = some (.int .i64 x.t)) ∧ (W.cell? ⟨w2.heap.size, 0, none⟩ = some (.int .i64 i) ∧ W.cell? ⟨w2.heap.size, 1, none⟩ = some (.int .i64 x.g) ∧ W.cell? ⟨w2.heap.size, 2, none⟩ = some (.int .i64 x.k) ∧ W.cell? ⟨w2.heap.size, 3, none⟩ = some (.int .i64 x.l) ∧ W.cell? ⟨w2.heap.size, 4, none⟩ = some (.int .i64 x.s) ∧ W.cell? ⟨w2.heap.size, 5, none⟩ = some (.int .i64 x.c)) ∧ (W.cell? ⟨w2.heap.size + 1, 0, none⟩ = some (.int .i64 i) ∧ W.cell? ⟨w2.heap.size + 1, 1, none⟩ = some (.int .i64 x.g) ∧ W.cell? ⟨w2.heap.size + 1, 2, none⟩ = some (.int .i64 x.k) ∧ W.cell? ⟨w2.heap.size + 1, 3, none⟩ = some (.int .i64 x.l) ∧ W.cell? ⟨w2.heap.size + 1, 4, none⟩ = some (.int .i64 x.s) ∧ W.cell? ⟨w2.heap.size + 1, 5, none⟩ = some (.int .i64 x.c)) ∧ PutsS w w1 W x i w2.heap.size (w2.heap.size + 1))
      (first | exact hp3.out.cells | exact (hp3.out.keep (bl2 _)).cells | exact hp5.cells | exact hp4.cells | fail "keep")
      (first
        | (go_at_call 74; refine (HSN.out _).mono ?_; rintro e w4 ⟨rfl, hb4⟩; have hp4 := PutsS.keep (And.right (And.right (And.right (by assumption)))) hb4)
        | (go_at_call 75; refine (HRS.out _).mono ?_; rintro e w5 ⟨rfl, hb5⟩; have hp5 := PutsS.keep (And.right (And.right (And.right (by assumption)))) hb5)
        | fail "arm")
    have HQ5 := hid hp5.1
    clear hp3 hq2 hq2b hp4 hp5
    go_wp2_with fail
    refine (awake10_any _).mono ?_
    rintro e w6 ⟨rfl, hb6⟩
    go_wp2
    go_ret
    exact ⟨rfl, (HQ5.out.keep hb6).2⟩
set_option maxHeartbeats 4000000 in
set_option maxRecDepth 100000 in
theorem puts_form (w : World) (B : Option Addr) (c i : Nat) (x : Nod) (hi : i < 4) (hx : soundN x = false) :
    Calls Try.prog 18 #[.slice B 128 c, .int .i64 i, .agg #[.int .i64 x.k, .int .i64 x.l, .int .i64 x.g, .int .i64 x.s, .int .i64 x.c, .int .i64 x.d0, .int .i64 x.d1, .int .i64 x.d2, .int .i64 x.d3, .int .i64 x.o, .int .i64 x.t]] w fun e w' => e = .returned (.bool true) ∧ Below w.heap.size w w' := by
  have HP := hid (fun W => put_form B c i x W hi hx)
  have HX := hid hx
  have h4 : i = 0 ∨ i = 1 ∨ i = 2 ∨ i = 3 := by omega
  clear hx hi
  rcases h4 with rfl | rfl | rfl | rfl
  · rw [show ((0 : Nat) : Int) = 0 from rfl] at HP ⊢
    have hL : Hid (LastS2 w (w.alloc (.cells #[.int .i64 x.k, .int .i64 x.l, .int .i64 x.g, .int .i64 x.s, .int .i64 x.c, .int .i64 x.d0, .int .i64 x.d1, .int .i64 x.d2, .int .i64 x.d3, .int .i64 x.o, .int .i64 x.t] 84)) x) := hid (LastS2.new w x)
    have HST := hid (fun W => stat_any 0 x W)
    have HSN := hid (soundN_any x)
    have HRS := hid (rsoundN_any x)
    obtain ⟨f0, f1, f2, f3, f4, f5, f6, f7, f8, f9, f10, -, -⟩ := hL.out.1.facts
    go_enter Try.func18, Try.ntmps18
    go_wp2_with fail
    refine (HP.out _).mono ?_
    clear f0 f1 f2 f3 f4 f5 f6 f7 f8 f9 f10
    rintro e w1 ⟨rfl, hb1⟩
    have hq1 := hL.out.keep hb1
    obtain ⟨f0, f1, f2, f3, f4, f5, f6, f7, f8, f9, f10, -, -⟩ := hq1.1.facts
    go_wp2_with fail
    refine (HST.out _).mono ?_
    clear f0 f1 f2 f3 f4 f5 f6 f7 f8 f9 f10
    rintro e w2 ⟨rfl, hb2⟩
    have hq2 := hq1.keep hb2
    have hp3 : Hid (PutsS w w1 ((w2.alloc (.cells #[.int .i64 0, .int .i64 x.g, .int .i64 x.k, .int .i64 x.l, .int .i64 x.s, .int .i64 x.c] 89)).alloc (.cells #[.int .i64 0, .int .i64 x.g, .int .i64 x.k, .int .i64 x.l, .int .i64 x.s, .int .i64 x.c] 89)) x 0 w2.heap.size (w2.heap.size + 1)) := by
      have h1 : BoxS (w2.alloc (.cells #[.int .i64 0, .int .i64 x.g, .int .i64 x.k, .int .i64 x.l, .int .i64 x.s, .int .i64 x.c] 89)) w2.heap.size 0 x := heap_alloc_new w2 _
      have h2 : BoxS ((w2.alloc (.cells #[.int .i64 0, .int .i64 x.g, .int .i64 x.k, .int .i64 x.l, .int .i64 x.s, .int .i64 x.c] 89)).alloc (.cells #[.int .i64 0, .int .i64 x.g, .int .i64 x.k, .int .i64 x.l, .int .i64 x.s, .int .i64 x.c] 89)) (w2.heap.size + 1) 0 x := by
        have := heap_alloc_new (w2.alloc (.cells #[.int .i64 0, .int .i64 x.g, .int .i64 x.k, .int .i64 x.l, .int .i64 x.s, .int .i64 x.c] 89)) (.cells #[.int .i64 0, .int .i64 x.g, .int .i64 x.k, .int .i64 x.l, .int .i64 x.s, .int .i64 x.c] 89)
        rw [World.size_alloc] at this
        exact this
      exact hid ⟨(hq2.keep ((Below.refl _ _).alloc (Nat.le_refl _) _)).keep ((Below.refl _ _).alloc (Nat.le_refl _) _), h1.below ((Below.refl _ _).alloc (Nat.le_refl _) _), h2, (hb2.alloc hb2.size _).alloc (by have := hb2.size; simp; omega) _⟩
    have hq2b := hq2.keep ((Below.refl _ _).alloc (Nat.le_refl _) (.cells #[.int .i64 0, .int .i64 x.g, .int .i64 x.k, .int .i64 x.l, .int .i64 x.s, .int .i64 x.c] 89))
    obtain ⟨f0, f1, f2, f3, f4, f5, f6, f7, f8, f9, f10, -, -⟩ := hq2b.1.facts
    clear hq1
    go_wp2_with fail
    clear f0 f1 f2 f3 f4 f5 f6 f7 f8 f9 f10
    go_region_held3 (fun W => (W.cell? ⟨w.heap.size, 0, none⟩ = some (.int .i64 x.k) ∧ W.cell? ⟨w.heap.size, 1, none⟩ = some (.int .i64 x.l) ∧ W.cell? ⟨w.heap.size, 2, none⟩ = some (.int .i64 x.g) ∧ W.cell? ⟨w.heap.size, 3, none⟩ = some (.int .i64 x.s) ∧ W.cell? ⟨w.heap.size, 4, none⟩ = some (.int .i64 x.c) ∧ W.cell? ⟨w.heap.size, 5, none⟩ = some (.int .i64 x.d0) ∧ W.cell? ⟨w.heap.size, 6, none⟩ = some (.int .i64 x.d1) ∧ W.cell? ⟨w.heap.size, 7, none⟩ = some (.int .i64 x.d2) ∧ W.cell? ⟨w.heap.size, 8, none⟩ = some (.int .i64 x.d3) ∧ W.cell? ⟨w.heap.size, 9, none⟩ = some (.int .i64 x.o) ∧ W.cell? ⟨w.heap.size, 10, none⟩ = some (.int .i64 x.t)) ∧ (W.cell? ⟨w2.heap.size, 0, none⟩ = some (.int .i64 0) ∧ W.cell? ⟨w2.heap.size, 1, none⟩ = some (.int .i64 x.g) ∧ W.cell? ⟨w2.heap.size, 2, none⟩ = some (.int .i64 x.k) ∧ W.cell? ⟨w2.heap.size, 3, none⟩ = some (.int .i64 x.l) ∧ W.cell? ⟨w2.heap.size, 4, none⟩ = some (.int .i64 x.s) ∧ W.cell? ⟨w2.heap.size, 5, none⟩ = some (.int .i64 x.c)) ∧ (W.cell? ⟨w2.heap.size + 1, 0, none⟩ = some (.int .i64 0) ∧ W.cell? ⟨w2.heap.size + 1, 1, none⟩ = some (.int .i64 x.g) ∧ W.cell? ⟨w2.heap.size + 1, 2, none⟩ = some (.int .i64 x.k) ∧ W.cell? ⟨w2.heap.size + 1, 3, none⟩ = some (.int .i64 x.l) ∧ W.cell? ⟨w2.heap.size + 1, 4, none⟩ = some (.int .i64 x.s) ∧ W.cell? ⟨w2.heap.size + 1, 5, none⟩ = some (.int .i64 x.c)) ∧ PutsS w w1 W x 0 w2.heap.size (w2.heap.size + 1))
      (first | exact hp3.out.cells | exact (hp3.out.keep (bl2 _)).cells | exact hp5.cells | exact hp4.cells | fail "keep")
      (first
        | (go_at_call 74; refine (HSN.out _).mono ?_; rintro e w4 ⟨rfl, hb4⟩; have hp4 := PutsS.keep (And.right (And.right (And.right (by assumption)))) hb4)
        | (go_at_call 75; refine (HRS.out _).mono ?_; rintro e w5 ⟨rfl, hb5⟩; have hp5 := PutsS.keep (And.right (And.right (And.right (by assumption)))) hb5)
        | fail "arm")
    have HQ5 := hid hp5.1
    clear hp3 hq2 hq2b hp4 hp5
    obtain ⟨f0, f1, f2, f3, f4, f5, f6, f7, f8, f9, f10, -, -⟩ := HQ5.out.1.facts
    have hrs := HRS.out
    rw [HX.out] at hrs
    have HRF := hid hrs
    clear hrs
    go_wp2_with fail
    refine (HRF.out _).mono ?_
    clear f0 f1 f2 f3 f4 f5 f6 f7 f8 f9 f10
    rintro e w6 ⟨rfl, hb6⟩
    have hq6 := HQ5.out.keep hb6
    go_wp2_with fail
    refine (awake10_any _).mono ?_
    rintro e w7 ⟨rfl, hb7⟩
    go_wp2
    go_ret
    exact ⟨rfl, (hq6.keep hb7).2⟩
  · rw [show ((1 : Nat) : Int) = 1 from rfl] at HP ⊢
    have hL : Hid (LastS2 w (w.alloc (.cells #[.int .i64 x.k, .int .i64 x.l, .int .i64 x.g, .int .i64 x.s, .int .i64 x.c, .int .i64 x.d0, .int .i64 x.d1, .int .i64 x.d2, .int .i64 x.d3, .int .i64 x.o, .int .i64 x.t] 84)) x) := hid (LastS2.new w x)
    have HST := hid (fun W => stat_any 1 x W)
    have HSN := hid (soundN_any x)
    have HRS := hid (rsoundN_any x)
    obtain ⟨f0, f1, f2, f3, f4, f5, f6, f7, f8, f9, f10, -, -⟩ := hL.out.1.facts
    go_enter Try.func18, Try.ntmps18
    go_wp2_with fail
    refine (HP.out _).mono ?_
    clear f0 f1 f2 f3 f4 f5 f6 f7 f8 f9 f10
    rintro e w1 ⟨rfl, hb1⟩
    have hq1 := hL.out.keep hb1
    obtain ⟨f0, f1, f2, f3, f4, f5, f6, f7, f8, f9, f10, -, -⟩ := hq1.1.facts
    go_wp2_with fail
    refine (HST.out _).mono ?_
    clear f0 f1 f2 f3 f4 f5 f6 f7 f8 f9 f10
    rintro e w2 ⟨rfl, hb2⟩
    have hq2 := hq1.keep hb2
    have hp3 : Hid (PutsS w w1 ((w2.alloc (.cells #[.int .i64 1, .int .i64 x.g, .int .i64 x.k, .int .i64 x.l, .int .i64 x.s, .int .i64 x.c] 89)).alloc (.cells #[.int .i64 1, .int .i64 x.g, .int .i64 x.k, .int .i64 x.l, .int .i64 x.s, .int .i64 x.c] 89)) x 1 w2.heap.size (w2.heap.size + 1)) := by
      have h1 : BoxS (w2.alloc (.cells #[.int .i64 1, .int .i64 x.g, .int .i64 x.k, .int .i64 x.l, .int .i64 x.s, .int .i64 x.c] 89)) w2.heap.size 1 x := heap_alloc_new w2 _
      have h2 : BoxS ((w2.alloc (.cells #[.int .i64 1, .int .i64 x.g, .int .i64 x.k, .int .i64 x.l, .int .i64 x.s, .int .i64 x.c] 89)).alloc (.cells #[.int .i64 1, .int .i64 x.g, .int .i64 x.k, .int .i64 x.l, .int .i64 x.s, .int .i64 x.c] 89)) (w2.heap.size + 1) 1 x := by
        have := heap_alloc_new (w2.alloc (.cells #[.int .i64 1, .int .i64 x.g, .int .i64 x.k, .int .i64 x.l, .int .i64 x.s, .int .i64 x.c] 89)) (.cells #[.int .i64 1, .int .i64 x.g, .int .i64 x.k, .int .i64 x.l, .int .i64 x.s, .int .i64 x.c] 89)
        rw [World.size_alloc] at this
        exact this
      exact hid ⟨(hq2.keep ((Below.refl _ _).alloc (Nat.le_refl _) _)).keep ((Below.refl _ _).alloc (Nat.le_refl _) _), h1.below ((Below.refl _ _).alloc (Nat.le_refl _) _), h2, (hb2.alloc hb2.size _).alloc (by have := hb2.size; simp; omega) _⟩
    have hq2b := hq2.keep ((Below.refl _ _).alloc (Nat.le_refl _) (.cells #[.int .i64 1, .int .i64 x.g, .int .i64 x.k, .int .i64 x.l, .int .i64 x.s, .int .i64 x.c] 89))
    obtain ⟨f0, f1, f2, f3, f4, f5, f6, f7, f8, f9, f10, -, -⟩ := hq2b.1.facts
    clear hq1
    go_wp2_with fail
    clear f0 f1 f2 f3 f4 f5 f6 f7 f8 f9 f10
    go_region_held3 (fun W => (W.cell? ⟨w.heap.size, 0, none⟩ = some (.int .i64 x.k) ∧ W.cell? ⟨w.heap.size, 1, none⟩ = some (.int .i64 x.l) ∧ W.cell? ⟨w.heap.size, 2, none⟩ = some (.int .i64 x.g) ∧ W.cell? ⟨w.heap.size, 3, none⟩ = some (.int .i64 x.s) ∧ W.cell? ⟨w.heap.size, 4, none⟩ = some (.int .i64 x.c) ∧ W.cell? ⟨w.heap.size, 5, none⟩ = some (.int .i64 x.d0) ∧ W.cell? ⟨w.heap.size, 6, none⟩ = some (.int .i64 x.d1) ∧ W.cell? ⟨w.heap.size, 7, none⟩ = some (.int .i64 x.d2) ∧ W.cell? ⟨w.heap.size, 8, none⟩ = some (.int .i64 x.d3) ∧ W.cell? ⟨w.heap.size, 9, none⟩ = some (.int .i64 x.o) ∧ W.cell? ⟨w.heap.size, 10, none⟩ = some (.int .i64 x.t)) ∧ (W.cell? ⟨w2.heap.size, 0, none⟩ = some (.int .i64 1) ∧ W.cell? ⟨w2.heap.size, 1, none⟩ = some (.int .i64 x.g) ∧ W.cell? ⟨w2.heap.size, 2, none⟩ = some (.int .i64 x.k) ∧ W.cell? ⟨w2.heap.size, 3, none⟩ = some (.int .i64 x.l) ∧ W.cell? ⟨w2.heap.size, 4, none⟩ = some (.int .i64 x.s) ∧ W.cell? ⟨w2.heap.size, 5, none⟩ = some (.int .i64 x.c)) ∧ (W.cell? ⟨w2.heap.size + 1, 0, none⟩ = some (.int .i64 1) ∧ W.cell? ⟨w2.heap.size + 1, 1, none⟩ = some (.int .i64 x.g) ∧ W.cell? ⟨w2.heap.size + 1, 2, none⟩ = some (.int .i64 x.k) ∧ W.cell? ⟨w2.heap.size + 1, 3, none⟩ = some (.int .i64 x.l) ∧ W.cell? ⟨w2.heap.size + 1, 4, none⟩ = some (.int .i64 x.s) ∧ W.cell? ⟨w2.heap.size + 1, 5, none⟩ = some (.int .i64 x.c)) ∧ PutsS w w1 W x 1 w2.heap.size (w2.heap.size + 1))
      (first | exact hp3.out.cells | exact (hp3.out.keep (bl2 _)).cells | exact hp5.cells | exact hp4.cells | fail "keep")
      (first
        | (go_at_call 74; refine (HSN.out _).mono ?_; rintro e w4 ⟨rfl, hb4⟩; have hp4 := PutsS.keep (And.right (And.right (And.right (by assumption)))) hb4)
        | (go_at_call 75; refine (HRS.out _).mono ?_; rintro e w5 ⟨rfl, hb5⟩; have hp5 := PutsS.keep (And.right (And.right (And.right (by assumption)))) hb5)
        | fail "arm")
    have HQ5 := hid hp5.1
    clear hp3 hq2 hq2b hp4 hp5
    obtain ⟨f0, f1, f2, f3, f4, f5, f6, f7, f8, f9, f10, -, -⟩ := HQ5.out.1.facts
    have hrs := HRS.out
    rw [HX.out] at hrs
    have HRF := hid hrs
    clear hrs
    go_wp2_with fail
    refine (HRF.out _).mono ?_
    clear f0 f1 f2 f3 f4 f5 f6 f7 f8 f9 f10
    rintro e w6 ⟨rfl, hb6⟩
    have hq6 := HQ5.out.keep hb6
    go_wp2_with fail
    refine (awake10_any _).mono ?_
    rintro e w7 ⟨rfl, hb7⟩
    go_wp2
    go_ret
    exact ⟨rfl, (hq6.keep hb7).2⟩
  · rw [show ((2 : Nat) : Int) = 2 from rfl] at HP ⊢
    have hL : Hid (LastS2 w (w.alloc (.cells #[.int .i64 x.k, .int .i64 x.l, .int .i64 x.g, .int .i64 x.s, .int .i64 x.c, .int .i64 x.d0, .int .i64 x.d1, .int .i64 x.d2, .int .i64 x.d3, .int .i64 x.o, .int .i64 x.t] 84)) x) := hid (LastS2.new w x)
    have HST := hid (fun W => stat_any 2 x W)
    have HSN := hid (soundN_any x)
    have HRS := hid (rsoundN_any x)
    obtain ⟨f0, f1, f2, f3, f4, f5, f6, f7, f8, f9, f10, -, -⟩ := hL.out.1.facts
    go_enter Try.func18, Try.ntmps18
    go_wp2_with fail
    refine (HP.out _).mono ?_
    clear f0 f1 f2 f3 f4 f5 f6 f7 f8 f9 f10
    rintro e w1 ⟨rfl, hb1⟩
    have hq1 := hL.out.keep hb1
    obtain ⟨f0, f1, f2, f3, f4, f5, f6, f7, f8, f9, f10, -, -⟩ := hq1.1.facts
    go_wp2_with fail
    refine (HST.out _).mono ?_
    clear f0 f1 f2 f3 f4 f5 f6 f7 f8 f9 f10
    rintro e w2 ⟨rfl, hb2⟩
    have hq2 := hq1.keep hb2
    have hp3 : Hid (PutsS w w1 ((w2.alloc (.cells #[.int .i64 2, .int .i64 x.g, .int .i64 x.k, .int .i64 x.l, .int .i64 x.s, .int .i64 x.c] 89)).alloc (.cells #[.int .i64 2, .int .i64 x.g, .int .i64 x.k, .int .i64 x.l, .int .i64 x.s, .int .i64 x.c] 89)) x 2 w2.heap.size (w2.heap.size + 1)) := by
      have h1 : BoxS (w2.alloc (.cells #[.int .i64 2, .int .i64 x.g, .int .i64 x.k, .int .i64 x.l, .int .i64 x.s, .int .i64 x.c] 89)) w2.heap.size 2 x := heap_alloc_new w2 _
      have h2 : BoxS ((w2.alloc (.cells #[.int .i64 2, .int .i64 x.g, .int .i64 x.k, .int .i64 x.l, .int .i64 x.s, .int .i64 x.c] 89)).alloc (.cells #[.int .i64 2, .int .i64 x.g, .int .i64 x.k, .int .i64 x.l, .int .i64 x.s, .int .i64 x.c] 89)) (w2.heap.size + 1) 2 x := by
        have := heap_alloc_new (w2.alloc (.cells #[.int .i64 2, .int .i64 x.g, .int .i64 x.k, .int .i64 x.l, .int .i64 x.s, .int .i64 x.c] 89)) (.cells #[.int .i64 2, .int .i64 x.g, .int .i64 x.k, .int .i64 x.l, .int .i64 x.s, .int .i64 x.c] 89)
        rw [World.size_alloc] at this
        exact this
      exact hid ⟨(hq2.keep ((Below.refl _ _).alloc (Nat.le_refl _) _)).keep ((Below.refl _ _).alloc (Nat.le_refl _) _), h1.below ((Below.refl _ _).alloc (Nat.le_refl _) _), h2, (hb2.alloc hb2.size _).alloc (by have := hb2.size; simp; omega) _⟩
    have hq2b := hq2.keep ((Below.refl _ _).alloc (Nat.le_refl _) (.cells #[.int .i64 2, .int .i64 x.g, .int .i64 x.k, .int .i64 x.l, .int .i64 x.s, .int .i64 x.c] 89))
    obtain ⟨f0, f1, f2, f3, f4, f5, f6, f7, f8, f9, f10, -, -⟩ := hq2b.1.facts
    clear hq1
    go_wp2_with fail
    clear f0 f1 f2 f3 f4 f5 f6 f7 f8 f9 f10
    go_region_held3 (fun W => (W.cell? ⟨w.heap.size, 0, none⟩ = some (.int .i64 x.k) ∧ W.cell? ⟨w.heap.size, 1, none⟩ = some (.int .i64 x.l) ∧ W.cell? ⟨w.heap.size, 2, none⟩ = some (.int .i64 x.g) ∧ W.cell? ⟨w.heap.size, 3, none⟩ = some (.int .i64 x.s) ∧ W.cell? ⟨w.heap.size, 4, none⟩ = some (.int .i64 x.c) ∧ W.cell? ⟨w.heap.size, 5, none⟩ = some (.int .i64 x.d0) ∧ W.cell? ⟨w.heap.size, 6, none⟩ = some (.int .i64 x.d1) ∧ W.cell? ⟨w.heap.size, 7, none⟩ = some (.int .i64 x.d2) ∧ W.cell? ⟨w.heap.size, 8, none⟩ = some (.int .i64 x.d3) ∧ W.cell? ⟨w.heap.size, 9, none⟩ = some (.int .i64 x.o) ∧ W.cell? ⟨w.heap.size, 10, none⟩ = some (.int .i64 x.t)) ∧ (W.cell? ⟨w2.heap.size, 0, none⟩ = some (.int .i64 2) ∧ W.cell? ⟨w2.heap.size, 1, none⟩ = some (.int .i64 x.g) ∧ W.cell? ⟨w2.heap.size, 2, none⟩ = some (.int .i64 x.k) ∧ W.cell? ⟨w2.heap.size, 3, none⟩ = some (.int .i64 x.l) ∧ W.cell? ⟨w2.heap.size, 4, none⟩ = some (.int .i64 x.s) ∧ W.cell? ⟨w2.heap.size, 5, none⟩ = some (.int .i64 x.c)) ∧ (W.cell? ⟨w2.heap.size + 1, 0, none⟩ = some (.int .i64 2) ∧ W.cell? ⟨w2.heap.size + 1, 1, none⟩ = some (.int .i64 x.g) ∧ W.cell? ⟨w2.heap.size + 1, 2, none⟩ = some (.int .i64 x.k) ∧ W.cell? ⟨w2.heap.size + 1, 3, none⟩ = some (.int .i64 x.l) ∧ W.cell? ⟨w2.heap.size + 1, 4, none⟩ = some (.int .i64 x.s) ∧ W.cell? ⟨w2.heap.size + 1, 5, none⟩ = some (.int .i64 x.c)) ∧ PutsS w w1 W x 2 w2.heap.size (w2.heap.size + 1))
      (first | exact hp3.out.cells | exact (hp3.out.keep (bl2 _)).cells | exact hp5.cells | exact hp4.cells | fail "keep")
      (first
        | (go_at_call 74; refine (HSN.out _).mono ?_; rintro e w4 ⟨rfl, hb4⟩; have hp4 := PutsS.keep (And.right (And.right (And.right (by assumption)))) hb4)
        | (go_at_call 75; refine (HRS.out _).mono ?_; rintro e w5 ⟨rfl, hb5⟩; have hp5 := PutsS.keep (And.right (And.right (And.right (by assumption)))) hb5)
        | fail "arm")
    have HQ5 := hid hp5.1
    clear hp3 hq2 hq2b hp4 hp5
    obtain ⟨f0, f1, f2, f3, f4, f5, f6, f7, f8, f9, f10, -, -⟩ := HQ5.out.1.facts
    have hrs := HRS.out
    rw [HX.out] at hrs
    have HRF := hid hrs
    clear hrs
    go_wp2_with fail
    refine (HRF.out _).mono ?_
    clear f0 f1 f2 f3 f4 f5 f6 f7 f8 f9 f10
    rintro e w6 ⟨rfl, hb6⟩
    have hq6 := HQ5.out.keep hb6
    go_wp2_with fail
    refine (awake10_any _).mono ?_
    rintro e w7 ⟨rfl, hb7⟩
    go_wp2
    go_ret
    exact ⟨rfl, (hq6.keep hb7).2⟩
  · rw [show ((3 : Nat) : Int) = 3 from rfl] at HP ⊢
    have hL : Hid (LastS2 w (w.alloc (.cells #[.int .i64 x.k, .int .i64 x.l, .int .i64 x.g, .int .i64 x.s, .int .i64 x.c, .int .i64 x.d0, .int .i64 x.d1, .int .i64 x.d2, .int .i64 x.d3, .int .i64 x.o, .int .i64 x.t] 84)) x) := hid (LastS2.new w x)
    have HST := hid (fun W => stat_any 3 x W)
    have HSN := hid (soundN_any x)
    have HRS := hid (rsoundN_any x)
    obtain ⟨f0, f1, f2, f3, f4, f5, f6, f7, f8, f9, f10, -, -⟩ := hL.out.1.facts
    go_enter Try.func18, Try.ntmps18
    go_wp2_with fail
    refine (HP.out _).mono ?_
    clear f0 f1 f2 f3 f4 f5 f6 f7 f8 f9 f10
    rintro e w1 ⟨rfl, hb1⟩
    have hq1 := hL.out.keep hb1
    obtain ⟨f0, f1, f2, f3, f4, f5, f6, f7, f8, f9, f10, -, -⟩ := hq1.1.facts
    go_wp2_with fail
    refine (HST.out _).mono ?_
    clear f0 f1 f2 f3 f4 f5 f6 f7 f8 f9 f10
    rintro e w2 ⟨rfl, hb2⟩
    have hq2 := hq1.keep hb2
    have hp3 : Hid (PutsS w w1 ((w2.alloc (.cells #[.int .i64 3, .int .i64 x.g, .int .i64 x.k, .int .i64 x.l, .int .i64 x.s, .int .i64 x.c] 89)).alloc (.cells #[.int .i64 3, .int .i64 x.g, .int .i64 x.k, .int .i64 x.l, .int .i64 x.s, .int .i64 x.c] 89)) x 3 w2.heap.size (w2.heap.size + 1)) := by
      have h1 : BoxS (w2.alloc (.cells #[.int .i64 3, .int .i64 x.g, .int .i64 x.k, .int .i64 x.l, .int .i64 x.s, .int .i64 x.c] 89)) w2.heap.size 3 x := heap_alloc_new w2 _
      have h2 : BoxS ((w2.alloc (.cells #[.int .i64 3, .int .i64 x.g, .int .i64 x.k, .int .i64 x.l, .int .i64 x.s, .int .i64 x.c] 89)).alloc (.cells #[.int .i64 3, .int .i64 x.g, .int .i64 x.k, .int .i64 x.l, .int .i64 x.s, .int .i64 x.c] 89)) (w2.heap.size + 1) 3 x := by
        have := heap_alloc_new (w2.alloc (.cells #[.int .i64 3, .int .i64 x.g, .int .i64 x.k, .int .i64 x.l, .int .i64 x.s, .int .i64 x.c] 89)) (.cells #[.int .i64 3, .int .i64 x.g, .int .i64 x.k, .int .i64 x.l, .int .i64 x.s, .int .i64 x.c] 89)
        rw [World.size_alloc] at this
        exact this
      exact hid ⟨(hq2.keep ((Below.refl _ _).alloc (Nat.le_refl _) _)).keep ((Below.refl _ _).alloc (Nat.le_refl _) _), h1.below ((Below.refl _ _).alloc (Nat.le_refl _) _), h2, (hb2.alloc hb2.size _).alloc (by have := hb2.size; simp; omega) _⟩
    have hq2b := hq2.keep ((Below.refl _ _).alloc (Nat.le_refl _) (.cells #[.int .i64 3, .int .i64 x.g, .int .i64 x.k, .int .i64 x.l, .int .i64 x.s, .int .i64 x.c] 89))
    obtain ⟨f0, f1, f2, f3, f4, f5, f6, f7, f8, f9, f10, -, -⟩ := hq2b.1.facts
    clear hq1
    go_wp2_with fail
    clear f0 f1 f2 f3 f4 f5 f6 f7 f8 f9 f10
    go_region_held3 (fun W => (W.cell? ⟨w.heap.size, 0, none⟩ = some (.int .i64 x.k) ∧ W.cell? ⟨w.heap.size, 1, none⟩ = some (.int .i64 x.l) ∧ W.cell? ⟨w.heap.size, 2, none⟩ = some (.int .i64 x.g) ∧ W.cell? ⟨w.heap.size, 3, none⟩ = some (.int .i64 x.s) ∧ W.cell? ⟨w.heap.size, 4, none⟩ = some (.int .i64 x.c) ∧ W.cell? ⟨w.heap.size, 5, none⟩ = some (.int .i64 x.d0) ∧ W.cell? ⟨w.heap.size, 6, none⟩ = some (.int .i64 x.d1) ∧ W.cell? ⟨w.heap.size, 7, none⟩ = some (.int .i64 x.d2) ∧ W.cell? ⟨w.heap.size, 8, none⟩ = some (.int .i64 x.d3) ∧ W.cell? ⟨w.heap.size, 9, none⟩ = some (.int .i64 x.o) ∧ W.cell? ⟨w.heap.size, 10, none⟩ = some (.int .i64 x.t)) ∧ (W.cell? ⟨w2.heap.size, 0, none⟩ = some (.int .i64 3) ∧ W.cell? ⟨w2.heap.size, 1, none⟩ = some (.int .i64 x.g) ∧ W.cell? ⟨w2.heap.size, 2, none⟩ = some (.int .i64 x.k) ∧ W.cell? ⟨w2.heap.size, 3, none⟩ = some (.int .i64 x.l) ∧ W.cell? ⟨w2.heap.size, 4, none⟩ = some (.int .i64 x.s) ∧ W.cell? ⟨w2.heap.size, 5, none⟩ = some (.int .i64 x.c)) ∧ (W.cell? ⟨w2.heap.size + 1, 0, none⟩ = some (.int .i64 3) ∧ W.cell? ⟨w2.heap.size + 1, 1, none⟩ = some (.int .i64 x.g) ∧ W.cell? ⟨w2.heap.size + 1, 2, none⟩ = some (.int .i64 x.k) ∧ W.cell? ⟨w2.heap.size + 1, 3, none⟩ = some (.int .i64 x.l) ∧ W.cell? ⟨w2.heap.size + 1, 4, none⟩ = some (.int .i64 x.s) ∧ W.cell? ⟨w2.heap.size + 1, 5, none⟩ = some (.int .i64 x.c)) ∧ PutsS w w1 W x 3 w2.heap.size (w2.heap.size + 1))
      (first | exact hp3.out.cells | exact (hp3.out.keep (bl2 _)).cells | exact hp5.cells | exact hp4.cells | fail "keep")
      (first
        | (go_at_call 74; refine (HSN.out _).mono ?_; rintro e w4 ⟨rfl, hb4⟩; have hp4 := PutsS.keep (And.right (And.right (And.right (by assumption)))) hb4)
        | (go_at_call 75; refine (HRS.out _).mono ?_; rintro e w5 ⟨rfl, hb5⟩; have hp5 := PutsS.keep (And.right (And.right (And.right (by assumption)))) hb5)
        | fail "arm")
    have HQ5 := hid hp5.1
    clear hp3 hq2 hq2b hp4 hp5
    obtain ⟨f0, f1, f2, f3, f4, f5, f6, f7, f8, f9, f10, -, -⟩ := HQ5.out.1.facts
    have hrs := HRS.out
    rw [HX.out] at hrs
    have HRF := hid hrs
    clear hrs
    go_wp2_with fail
    refine (HRF.out _).mono ?_
    clear f0 f1 f2 f3 f4 f5 f6 f7 f8 f9 f10
    rintro e w6 ⟨rfl, hb6⟩
    have hq6 := HQ5.out.keep hb6
    go_wp2_with fail
    refine (awake10_any _).mono ?_
    rintro e w7 ⟨rfl, hb7⟩
    go_wp2
    go_ret
    exact ⟨rfl, (hq6.keep hb7).2⟩
end Go.Proofs.Ytppbcdcmpcagdaa
