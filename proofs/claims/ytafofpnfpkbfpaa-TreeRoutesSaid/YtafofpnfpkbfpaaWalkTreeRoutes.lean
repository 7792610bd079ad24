/- The law TreeRoutes returns true at every input: its walk over the contracts of tree.Route and of the reference's Routes. No condition. -/
import Derived.Test.YtafofpnfpkbfpaaTree8
namespace Go.Proofs.Ytafofpnfpkbfpaa
open Go.RowKit Go.CP

set_option maxRecDepth 100000 in
theorem treeRoutes_walk (w : World) (n : Int) (hn : -9223372036854775808 ≤ n ∧ n < 9223372036854775808) :
    Calls Try.prog 3 #[.int .i64 n] w fun e w' => e = .returned (.bool true) ∧ Below w.heap.size w w' := by
  by_cases h : 0 ≤ n ∧ n < 76
  · obtain ⟨h0, h1⟩ := h
    obtain ⟨n, rfl⟩ := Int.eq_ofNat_of_zero_le h0
    have hr := route_ok n w (by omega)
    clear hn
    have hl3 : (routeL n).length ≤ 3 := by unfold routeL; (repeat' split) <;> simp
    go_enter Try.func3, Try.ntmps3
    go_wp2_with fail
    refine hr.mono ?_
    clear hr
    rintro e w1 ⟨A1, c1, rfl, ho1, hb1⟩
    go_wp2_with fail
    refine (routes_any _).mono ?_
    rintro e w2 ⟨A2, c2, rfl, ⟨xs, ho2, hall⟩, hb2⟩
    have hb02 := hb1.trans (hb2.mono hb1.size)
    obtain ⟨b, cj, hj1, hj2, -⟩ := hall n (by omega)
    have hx1 := ho1.cells.below hb2 (Nat.le_refl _)
    obtain ⟨g, cur, rfl, -, -⟩ := ho2.open (by omega)
    obtain ⟨g', o', e1, hc2⟩ := Cells.open ho2.cells (by have := ho2.1; omega)
    cases e1
    have hd := hc2 _ _ hj1
    simp only [Nat.zero_add] at hd
    have hd' : decide ((n : Int) < 76) = true := by simp; omega
    clear hc2 hall hj1 ho2 ho1
    go_wp2_with (first
      | (go_at_call 14; refine (awake11_any _).mono ?_; rintro e w3 ⟨rfl, hb3⟩; rw [← hb3.cell (p := ⟨g, n, none⟩) (World.block_lt_of_cell? _ _ hd)] at hd)
      | (go_at_call 15; refine (ints_same A1 (some ⟨b, 0, none⟩) (routeL n) (routeL n) c1 cj _ (hx1.below hb3 (Nat.le_refl _)) (hj2.below hb3 (Nat.le_refl _)) rfl (by omega)).mono ?_; rintro e w4 ⟨rfl, hb4⟩))
    go_ret
    have hb03 := hb02.trans (hb3.mono hb02.size)
    exact ⟨rfl, hb03.trans (hb4.mono hb03.size)⟩
  · have hr := route_err n w hn (by omega)
    have h' : n < 0 ∨ 76 ≤ n := by omega
    clear h
    rcases h' with h | h
    all_goals
      go_enter Try.func3, Try.ntmps3
      go_wp2_with fail
      refine hr.mono ?_
      clear hr
      rintro e w ⟨rfl, rfl⟩
      go_wp2_with fail
      refine (routes_any _).mono ?_
      rintro e w2 ⟨A2, c2, rfl, -, hb2⟩
      go_wp2_with (go_at_call 14; refine (awake11_any _).mono ?_; rintro e w3 ⟨rfl, hb3⟩)
      go_ret
      exact ⟨rfl, hb2.trans (hb3.mono hb2.size)⟩
end Go.Proofs.Ytafofpnfpkbfpaa
