/- Contract of package verb: Answered (its names). -/
import Derived.Test.YtppbcdcmpcagdaaVerbH
namespace Go.Proofs.Ytppbcdcmpcagdaa
open Go.RowKit Go.CP

theorem info9 : Try.prog.info? 9 = some Try.t9 := by kernel_rfl
theorem st_strs {w : World} {ops : Array Oper} {o : Oper} {a : Act} {K : Act → World → Prop} {Q : Exit → Act → World → Prop} {E : Prop} (hgd : o.guard = none) (s x : Operand) (tx : TypeId)
    (ho : o.op = .call { callee := .builtin .append, args := #[s, x], argTypes := #[110, tx] }) (base : Nat)
    {A : Option Addr} {n c : Nat} {xs : List Value} (hs : a.eval s = .slice A n c) (hown : Go.CP.Own w base 9 1 A n c xs)
    {vx : Value} {m : Nat} {news : List Value} (hvx : a.eval x = vx) (hx : Src Try.prog w 1 (.string ByteArray.empty) tx vx m news)
    (hbytes : (n + m) * 16 ≤ 225000000000000) (hbase : base ≤ w.heap.size)
    (h : ∀ A' c' w', Go.CP.Own w' base 9 1 A' (n + m) c' (xs ++ news) → w.grownBy w' (blockOf A) → K (a.put o.dst (.slice A' (n + m) c')) w') :
    if Region.wanted o (yielded ops a.tmps) = true then Oper.wp Try.prog o a w K Q else E := by
  have hw : Region.wanted o (yielded ops a.tmps) = true := by simp [Region.wanted, hgd]
  rw [if_pos hw]
  exact wp_append_Own' w s x 110 tx ho base 9 Try.t9 (.string ByteArray.empty) 1 16 Try.underlying110 info9 (by kernel_rfl) (by kernel_rfl) (by kernel_rfl) rfl (by decide) (by decide) (by decide) A n c xs hs hown vx m news hvx hx hbytes hbase fun A' c' w' h1 h2 _ => h A' c' w' h1 h2
theorem own_set_far {W : World} {base k j : Nat} {e : TypeId} {sz : Nat} {A : Option Addr} {n c : Nat} {xs : List Value} {u : Value} (h : Go.CP.Own W base e sz A n c xs) (hne : ∀ b, blockOf A = some b → b ≠ k) : Go.CP.Own (W.setCell ⟨k, j, none⟩ u) base e sz A n c xs := by
  refine ⟨h.1, ?_⟩
  rcases h.2 with hn | ⟨g, cur, rfl, hb, hgg, rest⟩
  · exact .inl hn
  · exact .inr ⟨g, cur, rfl, hb, (Below.heap_setCell _ _ _ _ (hne g rfl)).trans hgg, rest⟩
/-- A reply's names in the midst of being read: j are in. -/
structure ReadsN (w : World) (g : Nat) (B : Option Nat) (k6 N0 : Nat) (nums : List Nat) (D : Value) (A7 : Option Addr) (m7 : List UInt8) (r : Rd) (j : Nat) (X : Option Addr) (cx : Nat) (W : World) : Prop where
  form : FormS W g B (rdTs j r).2.1 (rdTs j r).2.2
  box : Blk W k6 112 (boxR nums D (.slice X j cx))
  res : Blk W w.heap.size 112 (boxR [] (.slice none 0 0) (.slice none 0 0))
  own : Go.CP.Own W N0 9 1 X j cx ((rdTs j r).1.map sv)
  data : Bytes W A7 m7
  base : Below w.heap.size w W
  size : N0 ≤ W.heap.size
/-- Where all this lies. -/
structure LiesN (w : World) (g : Nat) (B : Option Nat) (k6 N0 : Nat) (A7 : Option Addr) (m7 : List UInt8) : Prop where
  hg : w.heap.size + 1 ≤ g
  hk : g < k6
  hn : k6 < N0
  hb : ∀ k, B = some k → k < k6
  ha : m7 = [] ∨ ∀ k, A7.map (·.block) = some k → k6 < k ∧ k < N0
theorem ReadsN.push {w W w2 w3 : World} {g k6 N0 j cx cy : Nat} {B : Option Nat} {nums : List Nat} {D : Value} {A7 X Y : Option Addr} {m7 : List UInt8} {r : Rd} {o : Obj} (h : ReadsN w g B k6 N0 nums D A7 m7 r j X cx W) (hL : LiesN w g B k6 N0 A7 m7)
    (hf : FormS w2 g B (rdT (rdTs j r).2).2.1 (rdT (rdTs j r).2).2.2) (ht : Turn g W w2) (hg : (w2.alloc o).grownBy w3 (blockOf X)) (ho : Go.CP.Own w3 N0 9 1 Y (j + 1) cy ((rdTs j r).1.map sv ++ [sv (rdT (rdTs j r).2).1])) :
    (w3.cell? ⟨k6, 11, none⟩ = some (.slice X j cx) ∧ w3.frozen? ⟨k6, 11, none⟩ = false) ∧ ReadsN w g B k6 N0 nums D A7 m7 r (j + 1) Y cy (w3.setCell ⟨k6, 11, none⟩ (.slice Y (j + 1) cy)) := by
  obtain ⟨h1, h2, h3, h4, h5, h6, h7⟩ := h
  obtain ⟨l1, l2, l3, l4, l5⟩ := hL
  have hX : ∀ k, blockOf X = some k → N0 ≤ k := fun k hk => (h4.block k hk).1
  have ne : ∀ k, k < N0 → some k ≠ blockOf X := fun k hk e => by have := hX k e.symm; omega
  have hz2 := ht.2.1
  have hz3 := hg.size
  simp only [World.size_alloc] at hz3
  have b3 : Blk w3 k6 112 (boxR nums D (.slice X j cx)) := ((h2.turn ht (by omega)).alloc o).kept hg (ne _ l3)
  have r3 : Blk w3 w.heap.size 112 (boxR [] (.slice none 0 0) (.slice none 0 0)) := ((h3.turn ht (by omega)).alloc o).kept hg (ne _ (by omega))
  have hB : ∀ k, blockOf X = some k → w.heap.size ≤ k := fun k hk => by have := hX k hk; omega
  have bl : Below w.heap.size w w3 := Below.grown ((h6.trans (ht.1.mono (by omega))).alloc (by have := h6.size; omega) o) hg (by simp; omega) hB
  refine ⟨⟨b3.cell (j := 11) rfl, b3.free 11⟩, ?_, ?_, r3.other (by omega), ?_, ?_, bl.setCell (p := ⟨k6, 11, none⟩) (by show w.heap.size ≤ k6; omega) _, by simp; omega⟩
  · rw [rdTs_succ]
    obtain ⟨A1, c1, ⟨f1, f2, f3, f4⟩, f5, f6⟩ := hf.alloc o
    have hAk : ∀ k, A1.map (·.block) = some k → k < k6 := fun k hk => l4 k (by rw [← f5, hk])
    have f3' : FormS w3 g B (rdT (rdTs j r).2).2.1 (rdT (rdTs j r).2).2.2 := ⟨A1, c1, ⟨(hg.block g (by simp; omega) (ne g (by omega))).trans f1, f2.of_cell fun b off u hu hb => hg.cell hu (ne b (by have := hAk b hb; omega)), f3, f4⟩, f5, f6⟩
    exact f3'.turn (Turn.setCell k6 11 w3 _) (by omega) (fun k hk => by have := l4 k hk; omega)
  · exact b3.set 11 (.slice Y (j + 1) cy)
  · rw [rdTs_succ, List.map_append]
    exact own_set_far ho fun k hk => by have := (ho.block k hk).1; omega
  · rcases l5 with rfl | l5
    · exact Cells.nil _ _
    · have d3 : Bytes w3 A7 m7 := ((ht.cells h5 (fun k hk => by have := l5 k hk; omega)).alloc o).of_cell fun b off u hu hb => hg.cell hu (ne b (l5 b hb).2)
      exact (Turn.setCell k6 11 w3 _).cells d3 (fun k hk => by have := l5 k hk; omega)
theorem own_turn {W W2 : World} {g base : Nat} {e : TypeId} {sz : Nat} {A : Option Addr} {n c : Nat} {xs : List Value} (h : Go.CP.Own W base e sz A n c xs) (ht : Turn g W W2) (hg : g < base) : Go.CP.Own W2 base e sz A n c xs := by
  refine ⟨h.1, ?_⟩
  rcases h.2 with hn | ⟨k, cur, rfl, hb, hgg, rest⟩
  · exact .inl hn
  · exact .inr ⟨k, cur, rfl, hb, (ht.2.2 k (Array.getElem?_eq_some_iff.1 (show W.heap[k]? = _ from hgg)).1 (by omega)).trans hgg, rest⟩
theorem ReadsN.drew {w W : World} {g k6 N0 j cx : Nat} {B : Option Nat} {nums : List Nat} {D : Value} {A7 X : Option Addr} {m7 : List UInt8} {r : Rd} (h : ReadsN w g B k6 N0 nums D A7 m7 r j X cx W) : ReadsN w g B k6 N0 nums D A7 m7 r j X cx W.drew :=
  ⟨h.form.below (Below.refl _ _).drew, h.box.below (Below.refl _ _).drew, h.res.below (Below.refl _ _).drew, h.own.drew, h.data.drew, h.base.drew, h.size⟩
end Go.Proofs.Ytppbcdcmpcagdaa
