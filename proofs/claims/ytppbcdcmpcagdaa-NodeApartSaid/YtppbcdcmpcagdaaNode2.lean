/- Contracts of node.pointers, node.Sound and of the reference's Sound. -/
import Derived.Test.YtppbcdcmpcagdaaNode1
import Derived.Deep.DrawnRows
namespace Go.Proofs.Ytppbcdcmpcagdaa
open Go.RowKit Go.CP
attribute [local go_sem ↓] Go.wp_at_zero Go.wp_at_succ

theorem BoxN.new (W : World) (x : Nod) : BoxN (W.alloc (.cells #[.int .i64 x.k, .int .i64 x.l, .int .i64 x.g, .int .i64 x.s, .int .i64 x.c, .int .i64 x.d0, .int .i64 x.d1, .int .i64 x.d2, .int .i64 x.d3, .int .i64 x.o, .int .i64 x.t] 84)) W.heap.size x := heap_alloc_new W _
def ptrsL (x : Nod) : List Int := [x.d0, x.d1, x.d2, x.d3, x.o, x.t]

theorem boxN_S {w W : World} {x : Nod} (k : BoxN W w.heap.size x) (hB : Below w.heap.size w W) : (W.cell? ⟨w.heap.size, 9, none⟩ = some (.int .i64 x.o) ∧ W.cell? ⟨w.heap.size, 10, none⟩ = some (.int .i64 x.t)) ∧ BoxN W w.heap.size x ∧ Below w.heap.size w W :=
  ⟨⟨k.facts.2.2.2.2.2.2.2.2.2.1, k.facts.2.2.2.2.2.2.2.2.2.2.1⟩, k, hB⟩
theorem boxN_keep {w W W' : World} {x : Nod} (h : (W.cell? ⟨w.heap.size, 9, none⟩ = some (.int .i64 x.o) ∧ W.cell? ⟨w.heap.size, 10, none⟩ = some (.int .i64 x.t)) ∧ BoxN W w.heap.size x ∧ Below w.heap.size w W) (hb : Below W.heap.size W W') : (W'.cell? ⟨w.heap.size, 9, none⟩ = some (.int .i64 x.o) ∧ W'.cell? ⟨w.heap.size, 10, none⟩ = some (.int .i64 x.t)) ∧ BoxN W' w.heap.size x ∧ Below w.heap.size w W' :=
  boxN_S (h.2.1.below hb h.2.1.lt) (below_t h.2.2 hb h.2.2.size)

theorem src_two {W W' : World} {z : Value} (a b : Int) (hb : Below (W.alloc (.cells #[.int .i64 a, .int .i64 b] 3)).heap.size (W.alloc (.cells #[.int .i64 a, .int .i64 b] 3)) W') : Src Try.prog W' 1 z 130 (.slice (some ⟨W.heap.size, 0, none⟩) 2 2) 2 [.int .i64 a, .int .i64 b] :=
  Src.slice Try.underlying130 (Cells.below (Go.CP.Own.cells (Own.made W 3 1 2 #[.int .i64 a, .int .i64 b] rfl (by decide))) hb (Nat.le_refl _)) rfl (by simp [Value.oneCell'])

set_option maxHeartbeats 2000000 in
set_option maxRecDepth 100000 in
theorem pointers_any (x : Nod) (w : World) : Calls Try.prog 141 #[.agg #[.int .i64 x.k, .int .i64 x.l, .int .i64 x.g, .int .i64 x.s, .int .i64 x.c, .int .i64 x.d0, .int .i64 x.d1, .int .i64 x.d2, .int .i64 x.d3, .int .i64 x.o, .int .i64 x.t]] w (RetOwn w 3 1 6 ((ptrsL x).map iv)) := by
  have k0 := BoxN.new w x
  have hb0 : Below w.heap.size w (w.alloc (.cells #[.int .i64 x.k, .int .i64 x.l, .int .i64 x.g, .int .i64 x.s, .int .i64 x.c, .int .i64 x.d0, .int .i64 x.d1, .int .i64 x.d2, .int .i64 x.d3, .int .i64 x.o, .int .i64 x.t] 84)) := (Below.refl _ _).alloc (Nat.le_refl _) _
  have HCL := hid (fun W (h : BoxN W w.heap.size x) => clonei_any (some ⟨w.heap.size, 5, none⟩) [x.d0, x.d1, x.d2, x.d3] 4 W h.ints (by simp))
  have K0 := hid k0
  have HB0 := hid hb0
  clear k0 hb0
  go_enter Try.func141, Try.ntmps141
  go_wp2_with fail
  go_region_held3 (fun W => (W.cell? ⟨w.heap.size, 9, none⟩ = some (.int .i64 x.o) ∧ W.cell? ⟨w.heap.size, 10, none⟩ = some (.int .i64 x.t)) ∧ BoxN W w.heap.size x ∧ Below w.heap.size w W)
    (first | exact boxN_S K0.out HB0.out | exact boxN_S K0.out.drew HB0.out.drew | assumption | exact boxN_keep (boxN_S K0.out.drew HB0.out.drew) ((Below.refl _ _).alloc (Nat.le_refl _) _) | exact boxN_S (K0.out.alloc _).drew (HB0.out.alloc (by simp) _).drew | exact boxN_keep hk4 ((Below.refl _ _).alloc (Nat.le_refl _) _) | exact boxN_S kk5 hbb5)
    (first
      | ((go_at_call 179; refine (HCL.out _ (And.left (And.right (by assumption)))).mono ?_; rintro e w4 ⟨A4, c4, rfl, ho4, hb4⟩; have hk4 := boxN_keep (by assumption) hb4; rw [show [x.d0, x.d1, x.d2, x.d3].length = 4 from rfl] at ho4 ⊢; have ho4' := ho4.mono (base' := w.heap.size + 1) (by simp)))
      | ((refine st_ints (by rfl) (.tmp 5) (.tmp 10) 130 (by rfl) (w.heap.size + 1) ?_ (ho4'.alloc _) ?_ (Src.row (m := 2) (c := 2) (t := 3) #[.int .i64 x.o, .int .i64 x.t] Try.underlying130 (by rfl) (by simp [Value.oneCell'])) (by omega) ?_ ?_; (· rfl); (· rfl); (· (have := hk4.2.1.lt; simp; omega)); intro A5 c5 w5 ho5 hg5; have hbb5 := Below.grown (hk4.2.2.alloc hk4.2.2.size _) hg5 (by have := hk4.2.2.size; simp; omega) (fun k hk => Nat.le_of_succ_le (ho4'.block k hk).1); have kk5 := BoxN.kept (hk4.2.1.alloc _) hg5 (fun h => absurd (ho4'.block _ h.symm).1 (by omega))))
      | ((refine st_ints (by rfl) (.tmp 5) (.tmp 10) 130 (by rfl) (w.heap.size + 1) ?_ ho4' ?_ (src_two (z := .int .i64 0) (W := (w.alloc (.cells #[.int .i64 x.k, .int .i64 x.l, .int .i64 x.g, .int .i64 x.s, .int .i64 x.c, .int .i64 x.d0, .int .i64 x.d1, .int .i64 x.d2, .int .i64 x.d3, .int .i64 x.o, .int .i64 x.t] 84)).drew) (W' := w4) x.o x.t hb4) (by omega) ?_ ?_; (· rfl); (· (first | rfl | (simp [Act.eval]))); (· (have := hk4.2.1.lt; omega)); intro A5 c5 w5 ho5 hg5; have hbb5 := Below.grown hk4.2.2 hg5 hk4.2.2.size (fun k hk => Nat.le_of_succ_le (ho4'.block k hk).1); have kk5 := BoxN.kept hk4.2.1 hg5 (fun h => absurd (ho4'.block _ h.symm).1 (by omega)))))
  all_goals
    go_wp2
    go_ret
    exact ⟨A5, c5, rfl, ho5.mono (by omega), hbb5⟩
end Go.Proofs.Ytppbcdcmpcagdaa
