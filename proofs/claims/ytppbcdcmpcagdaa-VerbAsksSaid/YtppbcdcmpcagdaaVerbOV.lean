/- A request that came in, opened. -/
import Derived.Test.YtppbcdcmpcagdaaVerbO
import Derived.Test.YtppbcdcmpcagdaaVerb3
namespace Go.Proofs.Ytppbcdcmpcagdaa
open Go.RowKit Go.CP Go.ChangeShapes Go.WideShapes

theorem oneStr {H : Type} {enc : TypeId × Value → H} {W : World} {base : Nat} {spare : Nat → Bool} {held : Bool} {n : Nat} {t : TypeId} {c : Value} {y : Option (DataW H × List MemPlace)} (u : Try.prog.underlying t = some .string) (hy : y.isSome = true)
    (h : DataW.trod enc Try.prog W base spare held n t [c] = y) : ∃ l : List UInt8, c = .string (bstr l) := by
  obtain ⟨z, rfl⟩ := Option.isSome_iff_exists.1 hy
  obtain ⟨s, hs, -, -⟩ := DataW.trod_string u h
  simp at hs
  exact ⟨s.data.toList, by rw [hs]⟩
set_option maxRecDepth 100000 in
theorem oneBytes {H : Type} {enc : TypeId × Value → H} {W : World} {base : Nat} {held : Bool} {n : Nat} {c : Value} {y : Option (DataW H × List MemPlace)} (hy : y.isSome = true)
    (h : DataW.trod enc Try.prog W base (fun _ => true) held n 22 [c] = y) : ∃ (A : Option Addr) (l : List UInt8) (k : Nat), c = .slice A l.length k ∧ Bytes W A l := by
  obtain ⟨z, rfl⟩ := Option.isSome_iff_exists.1 hy
  rcases open_ints Try.underlying22 Try.underlying5 (by kernel_rfl) h with ⟨hn, -⟩ | ⟨a, len, cap, zs, hcs, _, hl, hm, hz, hx, hcell, hwz⟩
  · obtain rfl : c = .slice none 0 0 := by simpa using hn
    exact ⟨none, [], 0, rfl, Cells.nil _ _⟩
  · obtain rfl : c = .slice (some a) len cap := by simpa using hcs
    have hzc : zs.length = cap := by simpa using hz
    have hr : IsRow .u8 W (some a) len cap zs := .inr ⟨_, rfl, hl, hm, hzc, hcell, hwz⟩
    obtain ⟨l, e, -, -, s⟩ := hr.bytes
    subst e
    exact ⟨some a, l, cap, rfl, s⟩
set_option maxRecDepth 100000 in
theorem verb_cells {H : Type} {enc : TypeId × Value → H} {W : World} {base : Nat} {held : Bool} {r : Reach} {b0 : Nat} {v : Value} {d : DataW H} {p : List MemPlace}
    (hv : Value.okWide Try.prog W r b0 100 v) (h : DataW.Trod enc Try.prog W base (fun _ => true) held 100 v d p) : ∃ (x : Vb) (A : Option Addr) (k : Nat), v = vval x A k ∧ Bytes W A x.data := by
  obtain ⟨⟨cs⟩, rfl, hsz⟩ := okWide_struct Try.underlying100 hv
  have hC : Try.prog.cellsOf 100 = 13 := by kernel_rfl
  rw [hC] at hsz
  match cs, hsz with
  | [c0, c1, c2, c3, c4, c5, c6, c7, c8, c9, c10, c11, c12], _ =>
    obtain ⟨fuel, hf⟩ := h
    obtain ⟨xs, m, -, -, -, hl, hF⟩ := DataW.trod_struct Try.underlying100 hf
    have hsome : ∀ i, i < 12 → (xs[i]?).isSome = true := fun i hi => by
      rw [List.getElem?_eq_getElem (by rw [hl]; exact hi)]; rfl
    have F0 := hF 0 _ rfl
    have F1 := hF 1 _ rfl
    have F2 := hF 2 _ rfl
    have F3 := hF 3 _ rfl
    have F4 := hF 4 _ rfl
    have F5 := hF 5 _ rfl
    have F6 := hF 6 _ rfl
    have F7 := hF 7 _ rfl
    have F8 := hF 8 _ rfl
    have F9 := hF 9 _ rfl
    have F10 := hF 10 _ rfl
    have F11 := hF 11 _ rfl
    simp only [Value.cells] at F0 F1 F2 F3 F4 F5 F6 F7 F8 F9 F10 F11
    obtain ⟨v0, rfl⟩ := oneInt (c := c0) Try.underlying3 (hsome 0 (by omega)) F0
    obtain ⟨v1, rfl⟩ := oneInt (c := c1) Try.underlying3 (hsome 1 (by omega)) F1
    obtain ⟨v2, rfl⟩ := oneInt (c := c2) Try.underlying3 (hsome 2 (by omega)) F2
    obtain ⟨v3, rfl⟩ := oneInt (c := c3) Try.underlying3 (hsome 3 (by omega)) F3
    obtain ⟨v4, rfl⟩ := oneInt (c := c4) Try.underlying3 (hsome 4 (by omega)) F4
    obtain ⟨v5, rfl⟩ := oneStr (c := c5) Try.underlying9 (hsome 5 (by omega)) F5
    obtain ⟨v6, rfl⟩ := oneStr (c := c6) Try.underlying9 (hsome 6 (by omega)) F6
    obtain ⟨v7, v8, rfl, rfl⟩ := handle_cells (c := c7) (d := c8) (hsome 7 (by omega)) F7
    obtain ⟨v9, rfl⟩ := oneInt (c := c9) Try.underlying3 (hsome 8 (by omega)) F8
    obtain ⟨v10, rfl⟩ := oneInt (c := c10) Try.underlying3 (hsome 9 (by omega)) F9
    obtain ⟨v11, rfl⟩ := oneInt (c := c11) Try.underlying3 (hsome 10 (by omega)) F10
    obtain ⟨A, l, k, rfl, hb⟩ := oneBytes (c := c12) (hsome 11 (by omega)) F11
    exact ⟨⟨v0, v1, v2, v3, v4, v5, v6, v7, v8, v9, v10, v11, l⟩, A, k, rfl, hb⟩
end Go.Proofs.Ytppbcdcmpcagdaa
