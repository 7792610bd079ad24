/- How long a slice of integers that came in may be: the row's own reach. -/
import Derived.SizedLaws
import Derived.ChangeSlices
namespace Go.CP
open Go.ChangeShapes Go.WideShapes

theorem sized_ints {H : Type} {enc : TypeId × Value → H} {P : Program} {W : World} {base : Nat} {spare : Nat → Bool} {held : Bool} {t e : TypeId} {k : IntKind} {B : Nat}
    {a : Option Addr} {len cap : Nat} {d : DataW H} {ps : List MemPlace} {ts : List TypeId} {ds : List (DataW H)} {j : Nat}
    (hsz : (DataW.weightsEach P ts ds).all (· ≤ reachBytes) = true) (ht : ts[j]? = some t) (hd : ds[j]? = some d)
    (hu : P.underlying t = some (.slice e)) (he : P.underlying e = some (.int k)) (hc : P.cellsOf e = 1) (hB : P.bytesOf e = B)
    (h : DataW.Trod enc P W base spare held t (.slice a len cap) d ps) : len * B ≤ 140737488351232 := by
  obtain ⟨m, hm⟩ := h
  have key := open_ints hu he hc hm
  rcases key with ⟨hn, -⟩ | ⟨x, n, c, zs, hcs, -, hle, -, hlen, hx, -, -⟩
  · have : len = 0 := by simp [Value.cells] at hn; exact hn.2.1
    rw [this, Nat.zero_mul]
    omega
  · have e1 : len = n ∧ cap = c := by simp [Value.cells] at hcs; exact ⟨hcs.2.1, hcs.2.2⟩
    obtain ⟨rfl, rfl⟩ := e1
    have e2 := (Prod.mk.inj hx).1
    rw [e2] at hd
    have hs := sized_slice hsz ht hd hu
    have hall : (lits (H := H) k (zs.take len)).length + (lits (H := H) k (zs.drop len)).length = zs.length := by
      simp only [lits, List.length_map, List.length_take, List.length_drop]
      omega
    have hlz : len ≤ zs.length := by
      rw [hlen]
      split <;> omega
    rw [hall, hB] at hs
    exact Nat.le_trans (Nat.mul_le_mul_right B hlz) hs
end Go.CP
