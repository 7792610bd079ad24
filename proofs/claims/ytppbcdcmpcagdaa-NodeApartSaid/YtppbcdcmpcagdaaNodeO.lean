/- A node that came in, opened. -/
import Derived.Test.YtppbcdcmpcagdaaNode1
import Derived.Test.YtppbcdcmpcagdaaOpens
import Derived.OpenShut
namespace Go.Proofs.Ytppbcdcmpcagdaa
open Go.RowKit Go.CP Go.ChangeShapes Go.WideShapes

theorem one_int {H : Type} {enc : TypeId × Value → H} {W : World} {base : Nat} {spare : Nat → Bool} {held : Bool} {n : Nat} {t : TypeId} {c : Value} {y : Option (DataW H × List MemPlace)} (u : Try.prog.underlying t = some (.int .i64)) (hy : y.isSome = true)
    (h : DataW.trod enc Try.prog W base spare held n t [c] = y) : ∃ a : Int, c = .int .i64 a := by
  obtain ⟨z, rfl⟩ := Option.isSome_iff_exists.1 hy
  obtain ⟨a, ha, -, -⟩ := DataW.trod_int u h
  simp at ha
  exact ⟨a, ha⟩
set_option maxRecDepth 100000 in
theorem node_cells {H : Type} {enc : TypeId × Value → H} {W : World} {base : Nat} {spare : Nat → Bool} {held : Bool} {r : Reach} {b0 : Nat} {v : Value} {d : DataW H} {p : List MemPlace}
    (hv : Value.okWide Try.prog W r b0 84 v) (h : DataW.Trod enc Try.prog W base spare held 84 v d p) : ∃ x : Nod, v = .agg #[.int .i64 x.k, .int .i64 x.l, .int .i64 x.g, .int .i64 x.s, .int .i64 x.c, .int .i64 x.d0, .int .i64 x.d1, .int .i64 x.d2, .int .i64 x.d3, .int .i64 x.o, .int .i64 x.t] := by
  obtain ⟨⟨cs⟩, rfl, hsz⟩ := okWide_struct Try.underlying84 hv
  have hC : Try.prog.cellsOf 84 = 11 := by kernel_rfl
  have hC3 : Try.prog.cellsOf 3 = 1 := by kernel_rfl
  have hC82 : Try.prog.cellsOf 82 = 4 := by kernel_rfl
  have hu : Try.prog.underlying 82 = some (.array 4 3) := by kernel_rfl
  rw [hC] at hsz
  match cs, hsz with
  | [c0, c1, c2, c3, c4, c5, c6, c7, c8, c9, c10], _ =>
    obtain ⟨fuel, hf⟩ := h
    obtain ⟨xs, m, -, -, -, hl, hF⟩ := DataW.trod_struct Try.underlying84 hf
    have hsome : ∀ i, i < 8 → (xs[i]?).isSome = true := fun i hi => by
      rw [List.getElem?_eq_getElem (by rw [hl]; exact hi)]; rfl
    have F0 := hF 0 _ rfl
    have F1 := hF 1 _ rfl
    have F2 := hF 2 _ rfl
    have F3 := hF 3 _ rfl
    have F4 := hF 4 _ rfl
    have F5 := hF 5 _ rfl
    have F6 := hF 6 _ rfl
    have F7 := hF 7 _ rfl
    simp only [hC3, hC82, Value.cells] at F0 F1 F2 F3 F4 F5 F6 F7
    obtain ⟨k, rfl⟩ := one_int (c := c0) Try.underlying3 (hsome 0 (by omega)) F0
    obtain ⟨l, rfl⟩ := one_int (c := c1) Try.underlying3 (hsome 1 (by omega)) F1
    obtain ⟨g, rfl⟩ := one_int (c := c2) Try.underlying3 (hsome 2 (by omega)) F2
    obtain ⟨s, rfl⟩ := one_int (c := c3) Try.underlying3 (hsome 3 (by omega)) F3
    obtain ⟨c, rfl⟩ := one_int (c := c4) Try.underlying3 (hsome 4 (by omega)) F4
    obtain ⟨o, rfl⟩ := one_int (c := c9) Try.underlying3 (hsome 6 (by omega)) F6
    obtain ⟨t, rfl⟩ := one_int (c := c10) Try.underlying3 (hsome 7 (by omega)) F7
    obtain ⟨z, hz⟩ := Option.isSome_iff_exists.1 (hsome 5 (by omega))
    rw [hz] at F5
    obtain ⟨ys, m2, -, -, -, hyl, hG⟩ := DataW.trod_array hu F5
    have hsome2 : ∀ i, i < 4 → (ys[i]?).isSome = true := fun i hi => by
      rw [List.getElem?_eq_getElem (by rw [hyl]; exact hi)]; rfl
    have G0 := hG 0 (by omega)
    have G1 := hG 1 (by omega)
    have G2 := hG 2 (by omega)
    have G3 := hG 3 (by omega)
    simp only [hC3] at G0 G1 G2 G3
    obtain ⟨d0, rfl⟩ := one_int (c := c5) Try.underlying3 (hsome2 0 (by omega)) G0
    obtain ⟨d1, rfl⟩ := one_int (c := c6) Try.underlying3 (hsome2 1 (by omega)) G1
    obtain ⟨d2, rfl⟩ := one_int (c := c7) Try.underlying3 (hsome2 2 (by omega)) G2
    obtain ⟨d3, rfl⟩ := one_int (c := c8) Try.underlying3 (hsome2 3 (by omega)) G3
    exact ⟨⟨k, l, g, s, c, d0, d1, d2, d3, o, t⟩, rfl⟩
end Go.Proofs.Ytppbcdcmpcagdaa
