/- A reply that came in, opened. -/
import Derived.Test.YtppbcdcmpcagdaaVerbOV
import Derived.Test.YtppbcdcmpcagdaaVerbT
import Derived.Deep.Strs
namespace Go.Proofs.Ytppbcdcmpcagdaa
open Go.RowKit Go.CP Go.ChangeShapes Go.WideShapes Go.Deep

theorem oneStrs {H : Type} {enc : TypeId × Value → H} {W : World} {base : Nat} {held : Bool} {n : Nat} {c : Value} {y : Option (DataW H × List MemPlace)} (hy : y.isSome = true)
    (h : DataW.trod enc Try.prog W base (fun _ => true) held n 110 [c] = y) : ∃ (A : Option Addr) (l : List (List UInt8)) (k : Nat), c = .slice A l.length k ∧ Strs W A l := by
  obtain ⟨z, rfl⟩ := Option.isSome_iff_exists.1 hy
  rcases open_strs Try.underlying110 Try.underlying9 (by kernel_rfl) h with ⟨hn, -⟩ | ⟨a, len, cap, m, Sx, hcs, -, hl, -, hmm, -, hi⟩
  · obtain rfl : c = .slice none 0 0 := by simpa using hn
    exact ⟨none, [], 0, rfl, Cells.nil _ _⟩
  · obtain rfl : c = .slice (some a) len cap := by simpa using hcs
    rw [if_pos rfl] at hmm
    subst hmm
    refine ⟨some a, (List.range len).map fun i => (Sx i).data.toList, m, by simp, fun j u hu => ?_⟩
    have hj : j < len := by
      have := (List.getElem?_eq_some_iff.1 hu).1
      simpa using this
    have hu' : u = .string (Sx j) := by
      simp [hj, sv] at hu
      exact hu.symm
    subst hu'
    have h1 := (hi j (by omega)).1
    have h0 := spot_none (hi 0 (by omega)).1
    obtain ⟨b, off, spot⟩ := a
    simp at h0
    subst h0
    exact ⟨b, off, rfl, by rw [Addr.add_lit] at h1; exact h1⟩
set_option maxRecDepth 100000 in
/-- The six cells of a stat. -/
theorem stat_cells {H : Type} {enc : TypeId × Value → H} {W : World} {base : Nat} {spare : Nat → Bool} {held : Bool} {n : Nat} {c0 c1 c2 c3 c4 c5 : Value} {y : Option (DataW H × List MemPlace)} (hy : y.isSome = true)
    (h : DataW.trod enc Try.prog W base spare held n 89 [c0, c1, c2, c3, c4, c5] = y) : ∃ a0 a1 a2 a3 a4 a5 : Int, c0 = .int .i64 a0 ∧ c1 = .int .i64 a1 ∧ c2 = .int .i64 a2 ∧ c3 = .int .i64 a3 ∧ c4 = .int .i64 a4 ∧ c5 = .int .i64 a5 := by
  have hC3 : Try.prog.cellsOf 3 = 1 := by kernel_rfl
  have hC87 : Try.prog.cellsOf 87 = 2 := by kernel_rfl
  obtain ⟨z, hz⟩ := Option.isSome_iff_exists.1 hy
  rw [hz] at h
  obtain ⟨xs, m, -, -, -, hl, hF⟩ := DataW.trod_struct Try.underlying89 h
  have hsome : ∀ i, i < 5 → (xs[i]?).isSome = true := fun i hi => by
    rw [List.getElem?_eq_getElem (by rw [hl]; exact hi)]; rfl
  have F0 := hF 0 _ rfl
  have F1 := hF 1 _ rfl
  have F2 := hF 2 _ rfl
  have F3 := hF 3 _ rfl
  have F4 := hF 4 _ rfl
  obtain ⟨a0, a1, rfl, rfl⟩ := handle_cells (c := c0) (d := c1) (hsome 0 (by omega)) F0
  obtain ⟨a2, rfl⟩ := oneInt (c := c2) Try.underlying3 (hsome 1 (by omega)) F1
  obtain ⟨a3, rfl⟩ := oneInt (c := c3) Try.underlying3 (hsome 2 (by omega)) F2
  obtain ⟨a4, rfl⟩ := oneInt (c := c4) Try.underlying3 (hsome 3 (by omega)) F3
  obtain ⟨a5, rfl⟩ := oneInt (c := c5) Try.underlying3 (hsome 4 (by omega)) F4
  exact ⟨a0, a1, a2, a3, a4, a5, rfl, rfl, rfl, rfl, rfl, rfl⟩
set_option maxRecDepth 100000 in
theorem reply_cells {H : Type} {enc : TypeId × Value → H} {W : World} {base : Nat} {held : Bool} {r : Reach} {b0 : Nat} {v : Value} {d : DataW H} {p : List MemPlace}
    (hv : Value.okWide Try.prog W r b0 112 v) (h : DataW.Trod enc Try.prog W base (fun _ => true) held 112 v d p) : ∃ (x : Rp) (A : Option Addr) (k : Nat) (B : Option Addr) (kb : Nat), v = rval x A k B kb ∧ Bytes W A x.data ∧ Strs W B x.names := by
  obtain ⟨⟨cs⟩, rfl, hsz⟩ := okWide_struct Try.underlying112 hv
  have hC : Try.prog.cellsOf 112 = 12 := by kernel_rfl
  rw [hC] at hsz
  match cs, hsz with
  | [c0, c1, c2, c3, c4, c5, c6, c7, c8, c9, c10, c11], _ =>
    obtain ⟨fuel, hf⟩ := h
    obtain ⟨xs, m, -, -, -, hl, hF⟩ := DataW.trod_struct Try.underlying112 hf
    have hsome : ∀ i, i < 7 → (xs[i]?).isSome = true := fun i hi => by
      rw [List.getElem?_eq_getElem (by rw [hl]; exact hi)]; rfl
    have F0 := hF 0 _ rfl
    have F1 := hF 1 _ rfl
    have F2 := hF 2 _ rfl
    have F3 := hF 3 _ rfl
    have F4 := hF 4 _ rfl
    have F5 := hF 5 _ rfl
    have F6 := hF 6 _ rfl
    simp only [Value.cells] at F0 F1 F2 F3 F4 F5 F6
    obtain ⟨v0, rfl⟩ := oneInt (c := c0) Try.underlying3 (hsome 0 (by omega)) F0
    obtain ⟨v1, rfl⟩ := oneInt (c := c1) Try.underlying3 (hsome 1 (by omega)) F1
    obtain ⟨v2, rfl⟩ := oneInt (c := c2) Try.underlying3 (hsome 2 (by omega)) F2
    obtain ⟨v3, rfl⟩ := oneInt (c := c3) Try.underlying23 (hsome 3 (by omega)) F3
    obtain ⟨v4, v5, v6, v7, v8, v9, rfl, rfl, rfl, rfl, rfl, rfl⟩ := stat_cells (c0 := c4) (c1 := c5) (c2 := c6) (c3 := c7) (c4 := c8) (c5 := c9) (hsome 4 (by omega)) F4
    obtain ⟨A, l, k, rfl, hb⟩ := oneBytes (c := c10) (hsome 5 (by omega)) F5
    obtain ⟨B, ls, kb, rfl, hs⟩ := oneStrs (c := c11) (hsome 6 (by omega)) F6
    exact ⟨⟨v0, v1, v2, v3, v4, v5, v6, v7, v8, v9, l, ls⟩, A, k, B, kb, rfl, hb, hs⟩
end Go.Proofs.Ytppbcdcmpcagdaa
