/- A recall that came in, opened. -/
import Derived.Test.YtppbcdcmpcagdaaVerbC
import Derived.Test.YtppbcdcmpcagdaaOpens
import Derived.OpenShut
namespace Go.Proofs.Ytppbcdcmpcagdaa
open Go.RowKit Go.CP Go.ChangeShapes Go.WideShapes

theorem oneInt {H : Type} {enc : TypeId × Value → H} {W : World} {base : Nat} {spare : Nat → Bool} {held : Bool} {n : Nat} {t : TypeId} {c : Value} {y : Option (DataW H × List MemPlace)} (u : Try.prog.underlying t = some (.int .i64)) (hy : y.isSome = true)
    (h : DataW.trod enc Try.prog W base spare held n t [c] = y) : ∃ a : Int, c = .int .i64 a := by
  obtain ⟨z, rfl⟩ := Option.isSome_iff_exists.1 hy
  obtain ⟨a, ha, -, -⟩ := DataW.trod_int u h
  simp at ha
  exact ⟨a, ha⟩
set_option maxRecDepth 100000 in
/-- The two cells of a handle. -/
theorem handle_cells {H : Type} {enc : TypeId × Value → H} {W : World} {base : Nat} {spare : Nat → Bool} {held : Bool} {n : Nat} {c d : Value} {y : Option (DataW H × List MemPlace)} (hy : y.isSome = true)
    (h : DataW.trod enc Try.prog W base spare held n 87 [c, d] = y) : ∃ a b : Int, c = .int .i64 a ∧ d = .int .i64 b := by
  have hC3 : Try.prog.cellsOf 3 = 1 := by kernel_rfl
  obtain ⟨z, hz⟩ := Option.isSome_iff_exists.1 hy
  rw [hz] at h
  obtain ⟨xs, m, -, -, -, hl, hF⟩ := DataW.trod_struct Try.underlying87 h
  have hsome : ∀ i, i < 2 → (xs[i]?).isSome = true := fun i hi => by
    rw [List.getElem?_eq_getElem (by rw [hl]; exact hi)]; rfl
  have F0 := hF 0 _ rfl
  have F1 := hF 1 _ rfl
  obtain ⟨a, rfl⟩ := oneInt (c := c) Try.underlying3 (hsome 0 (by omega)) F0
  obtain ⟨b, rfl⟩ := oneInt (c := d) Try.underlying3 (hsome 1 (by omega)) F1
  exact ⟨a, b, rfl, rfl⟩
set_option maxRecDepth 100000 in
theorem recall_cells {H : Type} {enc : TypeId × Value → H} {W : World} {base : Nat} {spare : Nat → Bool} {held : Bool} {r : Reach} {b0 : Nat} {v : Value} {d : DataW H} {p : List MemPlace}
    (hv : Value.okWide Try.prog W r b0 121 v) (h : DataW.Trod enc Try.prog W base spare held 121 v d p) : ∃ x : Rc, v = cval x := by
  obtain ⟨⟨cs⟩, rfl, hsz⟩ := okWide_struct Try.underlying121 hv
  have hC : Try.prog.cellsOf 121 = 3 := by kernel_rfl
  rw [hC] at hsz
  match cs, hsz with
  | [c0, c1, c2], _ =>
    obtain ⟨fuel, hf⟩ := h
    obtain ⟨xs, m, -, -, -, hl, hF⟩ := DataW.trod_struct Try.underlying121 hf
    have hsome : ∀ i, i < 2 → (xs[i]?).isSome = true := fun i hi => by
      rw [List.getElem?_eq_getElem (by rw [hl]; exact hi)]; rfl
    have F0 := hF 0 _ rfl
    have F1 := hF 1 _ rfl
    simp only [Value.cells] at F0 F1
    obtain ⟨a, rfl⟩ := oneInt (c := c0) Try.underlying3 (hsome 0 (by omega)) F0
    obtain ⟨b, c, rfl, rfl⟩ := handle_cells (c := c1) (d := c2) (hsome 1 (by omega)) F1
    exact ⟨⟨a, b, c⟩, rfl⟩
end Go.Proofs.Ytppbcdcmpcagdaa
