/- Contract of the reference's Routes: the rows of all ways. -/
import Derived.Test.YtafofpnfpkbfpaaTree6
namespace Go.Proofs.Ytafofpnfpkbfpaa
open Go.RowKit Go.CP

def RowsR (w : World) (base : Nat) (A : Option Addr) (c n : Nat) : Prop :=
  ∃ xs, Own w base 22 1 A n c xs ∧ ∀ j, j < n → ∃ b cj, xs[j]? = some (.slice (some ⟨b, 0, none⟩) (routeL j).length cj) ∧ Ints w (some ⟨b, 0, none⟩) (routeL j) ∧ blockOf A ≠ some b

theorem RowsR.nil (w : World) : RowsR (w.alloc (.cells #[] 22)) w.heap.size (some ⟨w.heap.size, 0, none⟩) 0 0 := ⟨[], Own.empty w 22 1, fun j h => by omega⟩

theorem info22 : Try.prog.info? 22 = some Try.t22 := by kernel_rfl
/-- One row more: its numbers in a block of their own. -/
theorem ap_route {w : World} {ops : Array Oper} {rest : List Oper} {o : Oper} {a : Act} {Q : Exit → Act → World → Prop} (hgd : o.guard = none) (s x : Operand)
    (ho : o.op = .call { callee := .builtin .append, args := #[s, x], argTypes := #[26, 26] }) (base n : Nat)
    {A : Option Addr} {c : Nat} (hs : a.eval s = .slice A n c) (h0 : RowsR w base A c n) (row : List Int) (hrow : row = routeL n) (hn : n < 76) (cs : Array Value) (hcs : cs.toList = row.map iv) (len : Nat) (hlen : len = row.length)
    (hvx : a.eval x = .slice (some ⟨w.heap.size + 1, 0, none⟩) 1 1) (hbase : base ≤ w.heap.size)
    (h : ∀ A' c' w', RowsR w' base A' c' (n + 1) → Below base w w' → wpList Try.prog ops Q rest (a.put o.dst (.slice A' (n + 1) c')) w') :
    wpList Try.prog ops Q (o :: rest) a ((w.alloc (.cells cs 3)).alloc (.cells #[.slice (some ⟨w.heap.size, 0, none⟩) len len] 22)) := by
  subst hrow hlen
  obtain ⟨xs, hown, hall⟩ := h0
  have hz : (w.alloc (.cells cs 3)).heap.size = w.heap.size + 1 := by simp
  have hx : Src Try.prog ((w.alloc (.cells cs 3)).alloc (.cells #[.slice (some ⟨w.heap.size, 0, none⟩) (routeL n).length (routeL n).length] 22)) 1 (.slice none 0 0) 26 (.slice (some ⟨w.heap.size + 1, 0, none⟩) 1 1) 1 [.slice (some ⟨w.heap.size, 0, none⟩) (routeL n).length (routeL n).length] := by
    have := Src.row (P := Try.prog) (w := w.alloc (.cells cs 3)) (z := .slice none 0 0) (tx := 26) (sz := 1) (m := 1) (c := 1) (e := 22) #[.slice (some ⟨w.heap.size, 0, none⟩) (routeL n).length (routeL n).length] Try.underlying26 rfl (by intro u hu; simp at hu; subst hu; rfl)
    rw [hz] at this
    exact this
  refine wpList_append_Own' _ hgd s x 26 26 ho base 22 Try.t22 (.slice none 0 0) 1 24 Try.underlying26 info22 (by kernel_rfl) (by kernel_rfl) (by kernel_rfl) rfl (by decide) (by decide) A n c xs hs ((hown.alloc _).alloc _) _ 1 _ hvx hx (by omega) (by simp; omega) ?_
  intro A' c' w' ho' hg' hblk
  have hbel : Below w.heap.size w ((w.alloc (.cells cs 3)).alloc (.cells #[.slice (some ⟨w.heap.size, 0, none⟩) (routeL n).length (routeL n).length] 22)) :=
    ((Below.refl _ _).alloc (Nat.le_refl _) _).alloc (by simp) _
  have hnew : Ints ((w.alloc (.cells cs 3)).alloc (.cells #[.slice (some ⟨w.heap.size, 0, none⟩) (routeL n).length (routeL n).length] 22)) (some ⟨w.heap.size, 0, none⟩) (routeL n) := by
    refine Cells.alloc ?_ _
    intro j u hu
    refine ⟨_, _, rfl, ?_⟩
    rw [cell_of_row _ _ _ _ _ (0, 0) (heap_alloc_new w _), Nat.zero_add, ← Array.getElem?_toList, hcs]
    exact hu
  refine h A' c' w' ⟨_, ho', ?_⟩ ?_
  · intro j hj
    have hAb := hown.block
    by_cases hjn : j < n
    · obtain ⟨b, cj, h1, h2, h3⟩ := hall j hjn
      have hbl : b < w.heap.size := by
        have hlt := Cells.lt h2 (by rw [List.length_map]; unfold routeL; (repeat' split) <;> simp) b rfl
        exact hlt
      refine ⟨b, cj, ?_, ?_, ?_⟩
      · rw [List.getElem?_append_left (by have := hown.1; omega)]; exact h1
      · exact ((h2.alloc _).alloc _).grown hg' (.inl (by simpa [blockOf] using Ne.symm h3))
      · rcases hblk with e | e
        · rw [e]; exact h3
        · intro h; have := e b h; simp at this; omega
    · have hjn : j = n := by omega
      subst hjn
      refine ⟨w.heap.size, (routeL j).length, ?_, ?_, ?_⟩
      · have hl := hown.1
        rw [List.getElem?_append_right (by omega)]
        simp [hl]
      · exact hnew.grown hg' (.inl (by
          intro h
          have := hAb w.heap.size (by rw [← h]; rfl)
          omega))
      · rcases hblk with e | e
        · rw [e]; intro h; have := hAb _ h; omega
        · intro h; have := e _ h; simp at this; omega
  · exact (hbel.mono hbase).trans (Below.of_grown hg' (by simp; omega) (fun k hk => (hown.block k hk).1))
end Go.Proofs.Ytafofpnfpkbfpaa
