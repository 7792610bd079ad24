/- Arguments that came in, opened to lists: slices of bools. -/
import Derived.Test.YtppbcdcmpcagdaaSized
import Derived.Test.YtppbcdcmpcagdaaLib
import Derived.Deep.Grids
import Derived.Lib.SmallJoins
namespace Go.CP
open Go.ChangeShapes Go.WideShapes Go.RowKit Go.Deep

theorem spot_none {w : World} {x : Addr} {v : Value} (h : w.cell? (x.add 0) = some v) : x.spot = none := by
  obtain ⟨b, off, spot⟩ := x
  cases spot with
  | none => rfl
  | some s =>
    rw [Addr.add_zero'] at h
    simp [World.cell?] at h
    split at h <;> cases h

theorem open_boolsL {H : Type} {enc : TypeId × Value → H} {P : Program} {W : World} {base : Nat} {held : Bool} {t e : TypeId}
    {a : Option Addr} {len cap : Nat} {d : DataW H} {ps : List MemPlace} {ts : List TypeId} {ds : List (DataW H)} {j : Nat}
    (hsz : (DataW.weightsEach P ts ds).all (· ≤ reachBytes) = true) (ht : ts[j]? = some t) (hd : ds[j]? = some d)
    (hu : P.underlying t = some (.slice e)) (he : P.underlying e = some .bool) (hc : P.cellsOf e = 1) (hB : P.bytesOf e = 1)
    (h : DataW.Trod enc P W base (fun _ => true) held t (.slice a len cap) d ps) :
    ∃ ks : List Bool, ks.length = len ∧ len ≤ cap ∧ Cells W a (ks.map Value.bool) ∧ len ≤ 140737488351232 := by
  obtain ⟨m, hm⟩ := h
  rcases open_bools hu he hc hm with ⟨hn, -⟩ | ⟨x, n, c, B, hcs, -, hle, -, hx, hcell⟩
  · simp [Value.cells] at hn
    obtain ⟨rfl, rfl, rfl⟩ := hn
    exact ⟨[], rfl, Nat.le_refl _, Cells.nil _ _, Nat.zero_le _⟩
  · simp [Value.cells] at hcs
    obtain ⟨rfl, rfl, rfl⟩ := hcs
    refine ⟨(List.range len).map B, by simp, hle, ?_, ?_⟩
    · intro j u hu
      simp only [List.map_map, List.getElem?_map] at hu
      by_cases hj : j < len
      · rw [List.getElem?_range hj] at hu
        simp at hu
        subst hu
        have h0 := spot_none (hcell 0 (by omega))
        have hcj := hcell j (by omega)
        obtain ⟨b, off, spot⟩ := x
        simp at h0
        subst h0
        exact ⟨b, off, rfl, by rw [Addr.add_lit] at hcj; exact hcj⟩
      · rw [List.getElem?_eq_none (by simp; omega)] at hu
        cases hu
    · have e1 := (Prod.mk.inj hx).1
      rw [e1] at hd
      have hs := sized_slice hsz ht hd hu
      rw [hB] at hs
      simp only [List.length_map, List.length_range] at hs
      have : reachBytes ≤ 140737488351232 := by decide
      omega

/-- A struct of three ints, by value. -/
theorem open_int3 {H : Type} {enc : TypeId × Value → H} {P : Program} {w : World} {base : Nat} {spare : Nat → Bool} {held : Bool} {r : Reach} {b0 : Nat} {t : TypeId} {f0 f1 f2 : Field} {v : Value} {d : DataW H} {p : List MemPlace}
    (hs : P.underlying t = some (.struct #[f0, f1, f2])) (hone : oneCellFields P #[f0, f1, f2] = true) (hC : P.cellsOf t = 3)
    (u0 : P.underlying f0.type = some (.int .i64)) (u1 : P.underlying f1.type = some (.int .i64)) (u2 : P.underlying f2.type = some (.int .i64))
    (hv : Value.okWide P w r b0 t v) (h : DataW.Trod enc P w base spare held t v d p) : ∃ a b c : Int, v = .agg #[.int .i64 a, .int .i64 b, .int .i64 c] := by
  obtain ⟨v0, v1, v2, y0, y1, y2, n, rfl, -, -, h0, h1, h2⟩ := Go.Joins.open_agg3 hs hone hC hv h
  obtain ⟨a, ha, -, -⟩ := DataW.trod_int u0 h0
  obtain ⟨b, hb, -, -⟩ := DataW.trod_int u1 h1
  obtain ⟨c, hc, -, -⟩ := DataW.trod_int u2 h2
  simp at ha hb hc
  exact ⟨a, b, c, by rw [ha, hb, hc]⟩

theorem sized_agg {H : Type} {P : Program} {ts : List TypeId} {ds : List (DataW H)} {j : Nat} {t : TypeId} {fs : Array Field} {parts : List (DataW H)} (h : (DataW.weightsEach P ts ds).all (· ≤ reachBytes) = true)
    (ht : ts[j]? = some t) (hd : ds[j]? = some (.agg parts)) (hu : P.underlying t = some (.struct fs)) : (DataW.weightsEach P (fs.toList.map (·.type)) parts).all (· ≤ reachBytes) = true := by
  rw [List.all_eq_true]
  intro n hn
  exact List.all_eq_true.1 h _ (DataW.weights_mem_each ht hd n (by simp only [DataW.weights, hu]; exact hn))

/-- A slice of bytes that came in. -/
theorem open_bytesL {H : Type} {enc : TypeId × Value → H} {P : Program} {W : World} {base : Nat} {held : Bool} {t e : TypeId} {v : Value} {d : DataW H} {ps : List MemPlace} {ts : List TypeId} {ds : List (DataW H)} {j n : Nat}
    (hsz : (DataW.weightsEach P ts ds).all (· ≤ reachBytes) = true) (ht : ts[j]? = some t) (hd : ds[j]? = some d)
    (hu : P.underlying t = some (.slice e)) (he : P.underlying e = some (.int .u8)) (hc : P.cellsOf e = 1) (hB : P.bytesOf e = 1)
    (h : DataW.trod enc P W base (fun _ => true) held n t [v] = some (d, ps)) :
    ∃ (A : Option Addr) (l : List UInt8) (c : Nat), v = .slice A l.length c ∧ Bytes W A l ∧ l.length ≤ c ∧ l.length ≤ 140737488351232 := by
  have key := open_ints hu he hc h
  obtain ⟨a, len, cap, rfl⟩ : ∃ a len cap, v = .slice a len cap := by
    rcases key with ⟨hn, -⟩ | ⟨x, n, c, zs, hcs, -⟩
    · simp at hn; exact ⟨_, _, _, hn⟩
    · simp at hcs; exact ⟨_, _, _, hcs⟩
  have hsl := sized_ints hsz ht hd hu he hc hB ⟨n, h⟩
  obtain ⟨zs, hr⟩ : ∃ zs, IsRow .u8 W a len cap zs := by
    rcases key with ⟨hn, -⟩ | ⟨x, l, c, zs, hcs, _, hl, hm, hz, _, hcell, hwz⟩
    · simp at hn
      obtain ⟨rfl, rfl, rfl⟩ := hn
      exact ⟨[], .inl ⟨rfl, rfl, rfl, rfl⟩⟩
    · simp at hcs
      obtain ⟨rfl, rfl, rfl⟩ := hcs
      exact ⟨zs, .inr ⟨_, rfl, hl, hm, by simpa using hz, hcell, hwz⟩⟩
  obtain ⟨l, e1, c1, m1, s1⟩ := hr.bytes
  subst e1
  exact ⟨a, l, cap, rfl, s1, c1, by omega⟩

/-- A struct of two ints and a slice of bytes, by value. -/
theorem open_seat {H : Type} {enc : TypeId × Value → H} {P : Program} {W : World} {base : Nat} {held : Bool} {r : Reach} {b0 : Nat} {t e : TypeId} {f0 f1 f2 : Field} {v : Value} {d : DataW H} {p : List MemPlace} {ts : List TypeId} {ds : List (DataW H)} {j : Nat}
    (hsz : (DataW.weightsEach P ts ds).all (· ≤ reachBytes) = true) (ht : ts[j]? = some t) (hd : ds[j]? = some d)
    (hs : P.underlying t = some (.struct #[f0, f1, f2])) (hone : oneCellFields P #[f0, f1, f2] = true) (hC : P.cellsOf t = 3)
    (u0 : P.underlying f0.type = some (.int .i64)) (u1 : P.underlying f1.type = some (.int .i64)) (u2 : P.underlying f2.type = some (.slice e)) (ue : P.underlying e = some (.int .u8)) (hce : P.cellsOf e = 1) (hB : P.bytesOf e = 1)
    (hv : Value.okWide P W r b0 t v) (h : DataW.Trod enc P W base (fun _ => true) held t v d p) :
    ∃ (a b : Int) (A : Option Addr) (l : List UInt8) (c : Nat), v = .agg #[.int .i64 a, .int .i64 b, .slice A l.length c] ∧ Bytes W A l ∧ l.length ≤ c ∧ l.length ≤ 140737488351232 := by
  obtain ⟨v0, v1, v2, y0, y1, y2, n, rfl, hdd, -, h0, h1, h2⟩ := Go.Joins.open_agg3 hs hone hC hv h
  obtain ⟨a, ha, -, -⟩ := DataW.trod_int u0 h0
  obtain ⟨b, hb, -, -⟩ := DataW.trod_int u1 h1
  simp at ha hb
  rw [hdd] at hd
  have hsz2 := sized_agg hsz ht hd hs
  obtain ⟨A, l, c, rfl, q1, q2, q3⟩ := open_bytesL (j := 2) hsz2 rfl rfl u2 ue hce hB (show DataW.trod enc P W base (fun _ => true) held n f2.type [v2] = some (y2.1, y2.2) from h2)
  exact ⟨a, b, A, l, c, by rw [ha, hb], q1, q2, q3⟩
end Go.CP
