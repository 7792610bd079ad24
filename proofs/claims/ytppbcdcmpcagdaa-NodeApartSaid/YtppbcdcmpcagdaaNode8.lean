/- Contract of node's decode. -/
import Derived.Test.YtppbcdcmpcagdaaNode7
import Derived.Laws.CopyOwn
namespace Go.Proofs.Ytppbcdcmpcagdaa
open Go.RowKit Go.CP

theorem turnS_keep {w1 W W' : World} {g g0 off : Nat} {v0 v1 : Value} (hne : g0 ≠ g) (h : W.cell? ⟨g0, off, none⟩ = some v0 ∧ W.cell? ⟨g0, off + 1, none⟩ = some v1 ∧ Turn g w1 W) (ht : Turn g W W') :
    W'.cell? ⟨g0, off, none⟩ = some v0 ∧ W'.cell? ⟨g0, off + 1, none⟩ = some v1 ∧ Turn g w1 W' := by
  have hlt := World.block_lt_of_cell? W _ h.1
  have hh := ht.2.2 g0 hlt hne
  refine ⟨?_, ?_, h.2.2.trans ht⟩
  · rw [← h.1]; simp only [World.cell?, hh]
  · rw [← h.2.1]; simp only [World.cell?, hh]
theorem turn_alloc {g : Nat} {W : World} (o : Obj) (hg : g ≤ W.heap.size) : Turn g W (W.alloc o) := Turn.of_below ((Below.refl _ _).alloc (Nat.le_refl _) o) hg

theorem BoxN.turn {W W' : World} {k g : Nat} {x : Nod} (h : BoxN W k x) (ht : Turn g W W') (hne : k ≠ g) : BoxN W' k x := (ht.2.2 k h.lt hne).trans h
theorem turnS_far {w1 W W' : World} {g g0 off p : Nat} {v0 v1 : Value} (h : W.cell? ⟨g0, off, none⟩ = some v0 ∧ W.cell? ⟨g0, off + 1, none⟩ = some v1 ∧ Turn g w1 W) (ht : Turn p W W') (hp : w1.heap.size ≤ p) (hg : g < w1.heap.size) (h0 : g0 < w1.heap.size) :
    W'.cell? ⟨g0, off, none⟩ = some v0 ∧ W'.cell? ⟨g0, off + 1, none⟩ = some v1 ∧ Turn g w1 W' := by
  have hlt := World.block_lt_of_cell? W _ h.1
  have hh := ht.2.2 g0 hlt (by omega)
  refine ⟨?_, ?_, h.2.2.1.trans (ht.1.mono (by omega)), Nat.le_trans h.2.2.2.1 ht.2.1, fun k hk hne => (ht.2.2 k (Nat.lt_of_lt_of_le hk h.2.2.2.1) (by omega)).trans (h.2.2.2.2 k hk hne)⟩
  · rw [← h.1]; simp only [World.cell?, hh]
  · rw [← h.2.1]; simp only [World.cell?, hh]
def nod0 : Nod := ⟨0, 0, 0, 0, 0, 0, 0, 0, 0, 0, 0⟩
theorem BoxN.mk (W : World) (k : Nat) (x : Nod) (h : W.heap[k]? = some (.cells #[.int .i64 x.k, .int .i64 x.l, .int .i64 x.g, .int .i64 x.s, .int .i64 x.c, .int .i64 x.d0, .int .i64 x.d1, .int .i64 x.d2, .int .i64 x.d3, .int .i64 x.o, .int .i64 x.t] 84 (0, 0))) : BoxN W k x := h

theorem info84 : (Try.prog.info? 84).map (·.size) = some 11 := by kernel_rfl
theorem turn_setRow {W : World} {b : Nat} {cs : Array Value} : Turn b W (W.setRow b cs) :=
  ⟨below_setRow (Below.refl _ _) (Nat.le_refl _) _, by simp [World.setRow], fun k _ hne => setRow_other W b k cs hne⟩
theorem run_nodAt (w : World) (b : Nat) (old new : Nod) (hk : BoxN w b old) : (Instr.storeAt 84 (.pointer (some ⟨b, 0, none⟩)) (.agg #[.int .i64 new.k, .int .i64 new.l, .int .i64 new.g, .int .i64 new.s, .int .i64 new.c, .int .i64 new.d0, .int .i64 new.d1, .int .i64 new.d2, .int .i64 new.d3, .int .i64 new.o, .int .i64 new.t])).run Try.prog w =
    .ok () (w.setRow b #[.int .i64 new.k, .int .i64 new.l, .int .i64 new.g, .int .i64 new.s, .int .i64 new.c, .int .i64 new.d0, .int .i64 new.d1, .int .i64 new.d2, .int .i64 new.d3, .int .i64 new.o, .int .i64 new.t]) := by
  simp only [Instr.storeAt, Instr.sureAddr, Sem.run_bind, Sem.run_pure, Result.andThen_ok]
  rw [run_storeVar_row w b 84 84 _ #[.int .i64 new.k, .int .i64 new.l, .int .i64 new.g, .int .i64 new.s, .int .i64 new.c, .int .i64 new.d0, .int .i64 new.d1, .int .i64 new.d2, .int .i64 new.d3, .int .i64 new.o, .int .i64 new.t] hk info84 rfl (by simp [Value.oneCell'])]
theorem BoxN.setS {W : World} {b : Nat} {x : Nod} (h : BoxN W b x) (v : Int) : BoxN (W.setCell ⟨b, 3, none⟩ (.int .i64 v)) b { x with s := v } := by
  have := heap_setCell_at W b 3 _ 84 (.int .i64 v) h
  simpa [BoxN] using this
theorem BoxN.setC {W : World} {b : Nat} {x : Nod} (h : BoxN W b x) (v : Int) : BoxN (W.setCell ⟨b, 4, none⟩ (.int .i64 v)) b { x with c := v } := by
  have := heap_setCell_at W b 4 _ 84 (.int .i64 v) h
  simpa [BoxN] using this
theorem BoxN.setO {W : World} {b : Nat} {x : Nod} (h : BoxN W b x) (v : Int) : BoxN (W.setCell ⟨b, 9, none⟩ (.int .i64 v)) b { x with o := v } := by
  have := heap_setCell_at W b 9 _ 84 (.int .i64 v) h
  simpa [BoxN] using this
theorem BoxN.setT {W : World} {b : Nat} {x : Nod} (h : BoxN W b x) (v : Int) : BoxN (W.setCell ⟨b, 10, none⟩ (.int .i64 v)) b { x with t := v } := by
  have := heap_setCell_at W b 10 _ 84 (.int .i64 v) h
  simpa [BoxN] using this
/-- The pointers' array, when the first i are read. -/
def ptN (b : List UInt8) (j : Nat) : Nat := bigL ((b.drop (14 + 2 * j)).take 2)
def arrN (b : List UInt8) (i : Nat) : List Value := (List.range 6).map fun j => if j < i then .int .i64 (ptN b j : Nat) else .int .i64 0
theorem ptN_of {b : List UInt8} {j : Nat} {x y : UInt8} (hx : b[14 + 2 * j]? = some x) (hy : b[15 + 2 * j]? = some y) : ptN b j = x.toNat + 256 * y.toNat := by
  have h1 : 14 + 2 * j < b.length := (List.getElem?_eq_some_iff.1 hx).1
  have h2 : 15 + 2 * j < b.length := (List.getElem?_eq_some_iff.1 hy).1
  have e1 : b.drop (14 + 2 * j) = x :: b.drop (15 + 2 * j) := by
    rw [List.drop_eq_getElem_cons h1, (List.getElem?_eq_some_iff.1 hx).2, show 14 + 2 * j + 1 = 15 + 2 * j by omega]
  have e2 : b.drop (15 + 2 * j) = y :: b.drop (15 + 2 * j + 1) := by
    rw [List.drop_eq_getElem_cons h2, (List.getElem?_eq_some_iff.1 hy).2]
  rw [ptN, e1, e2]
  simp [bigL]
  omega
theorem set_keep2 {W : World} {p k g0 o1 o2 : Nat} {u v1 v2 : Value} (hne : p ≠ g0) (h1 : W.cell? ⟨g0, o1, none⟩ = some v1) (h2 : W.cell? ⟨g0, o2, none⟩ = some v2) : (W.setCell ⟨p, k, none⟩ u).cell? ⟨g0, o1, none⟩ = some v1 ∧ (W.setCell ⟨p, k, none⟩ u).cell? ⟨g0, o2, none⟩ = some v2 :=
  ⟨(World.cell?_setCell_other _ _ _ _ (fun e => hne (congrArg Addr.block e))).trans h1, (World.cell?_setCell_other _ _ _ _ (fun e => hne (congrArg Addr.block e))).trans h2⟩
theorem or8 (x y : UInt8) : bits .or .i64 (x.toNat : Int) ((y.toNat : Int) * 256) = ((x.toNat + 256 * y.toNat : Nat) : Int) := by
  have hx := x.toNat_lt
  have hy := y.toNat_lt
  have e : ((y.toNat : Int) * 256) = ((256 * y.toNat : Nat) : Int) := by omega
  rw [e, (bits_nat .i64 48 (by decide) (fun n h0 h1 => by rw [IntKind.wrap_i64]; omega) x.toNat (256 * y.toNat) (by omega) (by omega)).2]
  have := Nat.two_pow_add_eq_or_of_lt (i := 8) (b := x.toNat) hx y.toNat
  rw [show (2 : Nat) ^ 8 = 256 from rfl] at this
  rw [Nat.or_comm, ← this, Nat.add_comm]
theorem arrN_set (b : List UInt8) {i : Nat} (hi : i < 6) : (arrN b i).toArray.setIfInBounds i (.int .i64 (ptN b i : Nat)) = (arrN b (i + 1)).toArray := by
  have h : i = 0 ∨ i = 1 ∨ i = 2 ∨ i = 3 ∨ i = 4 ∨ i = 5 := by omega
  rcases h with rfl | rfl | rfl | rfl | rfl | rfl <;> rfl
theorem upon_nod {o : Oper} {a : Act} {w : World} {K : Act → World → Prop} {Q : Exit → Act → World → Prop} {R : Result Next} {p : Nat} (old new : Nod) (hk : BoxN w p old)
    (hR : R = ((Instr.storeAt 84 (.pointer (some ⟨p, 0, none⟩)) (.agg #[.int .i64 new.k, .int .i64 new.l, .int .i64 new.g, .int .i64 new.s, .int .i64 new.c, .int .i64 new.d0, .int .i64 new.d1, .int .i64 new.d2, .int .i64 new.d3, .int .i64 new.o, .int .i64 new.t])).run Try.prog w).andThen fun _ w' => .ok .skip w')
    (h : K (a.put o.dst undef) (w.setRow p #[.int .i64 new.k, .int .i64 new.l, .int .i64 new.g, .int .i64 new.s, .int .i64 new.c, .int .i64 new.d0, .int .i64 new.d1, .int .i64 new.d2, .int .i64 new.d3, .int .i64 new.o, .int .i64 new.t])) : Oper.upon Try.prog o a K Q R := by
  rw [hR, run_nodAt w p old new hk]
  exact h
theorem info3s : (Try.prog.info? 3).map (·.size) = some 1 := by kernel_rfl
/-- The four direct pointers are copied out of the array, at a step of a drawn region. -/
theorem st_copyN {w : World} {ops : Array Oper} {o : Oper} {a : Act} {K : Act → World → Prop} {Q : Exit → Act → World → Prop} {E : Prop} (hgd : o.guard = none) (d s : Operand)
    (ho : o.op = .call { callee := .builtin .copy, args := #[d, s], argTypes := #[130, 130] }) (p5 p6 : Nat) (b : List UInt8) (X : Nod)
    (hd : a.eval d = .slice (some ⟨p5, 5, none⟩) 4 4) (hs : a.eval s = .slice (some ⟨p6, 0, none⟩) 6 6) (hX : BoxN w p5 X) (hA : w.heap[p6]? = some (.cells (arrN b 6).toArray 238 (0, 0)))
    (h : ∀ w', Hid (BoxN w' p5 ⟨X.k, X.l, X.g, X.s, X.c, (ptN b 0 : Nat), (ptN b 1 : Nat), (ptN b 2 : Nat), (ptN b 3 : Nat), X.o, X.t⟩) → Hid (Turn p5 w w') → K (a.put o.dst (goInt 4)) w') :
    if Region.wanted o (yielded ops a.tmps) = true then Oper.wp Try.prog o a w K Q else E := by
  have hw : Region.wanted o (yielded ops a.tmps) = true := by simp [Region.wanted, hgd]
  rw [if_pos hw]
  have hrun := run_copy_row (P := Try.prog) w 130 130 o.type 3 p5 5 4 4 ⟨p6, 0, none⟩ 6 6 _ 84 [.int .i64 (ptN b 0 : Nat), .int .i64 (ptN b 1 : Nat), .int .i64 (ptN b 2 : Nat), .int .i64 (ptN b 3 : Nat)] Try.underlying130 info3s hX rfl (fun j v hv => by
    have hj : j < 4 := (List.getElem?_eq_some_iff.1 hv).1
    have h4 : j = 0 ∨ j = 1 ∨ j = 2 ∨ j = 3 := by omega
    rcases h4 with rfl | rfl | rfl | rfl <;> (simp at hv; subst hv; simp [World.cell?, Addr.add, hA, arrN])) (by simp) (by simp [Value.oneCell'])
  unfold Oper.wp
  simp [execOp, ho, resolve, invoke, builtin, hd, hs, hrun, Result.andThen]
  refine h _ (hid ?_) (hid turn_setRow)
  have := setRow_heap w p5 _ #[.int .i64 X.k, .int .i64 X.l, .int .i64 X.g, .int .i64 X.s, .int .i64 X.c, .int .i64 (ptN b 0 : Nat), .int .i64 (ptN b 1 : Nat), .int .i64 (ptN b 2 : Nat), .int .i64 (ptN b 3 : Nat), .int .i64 X.o, .int .i64 X.t] 84 (0, 0) hX
  exact this
/-- What the last region keeps. -/
def LastS (w W : World) (p : Nat) (x : Nod) : Prop := BoxN W p x ∧ (∃ z, BoxN W w.heap.size z) ∧ Below w.heap.size w W
theorem LastS.cells {w W : World} {p : Nat} {x : Nod} (h : LastS w W p x) : (W.cell? ⟨p, 0, none⟩ = some (.int .i64 x.k) ∧ W.cell? ⟨p, 1, none⟩ = some (.int .i64 x.l) ∧ W.cell? ⟨p, 2, none⟩ = some (.int .i64 x.g) ∧ W.cell? ⟨p, 3, none⟩ = some (.int .i64 x.s) ∧ W.cell? ⟨p, 4, none⟩ = some (.int .i64 x.c) ∧ W.cell? ⟨p, 5, none⟩ = some (.int .i64 x.d0) ∧ W.cell? ⟨p, 6, none⟩ = some (.int .i64 x.d1) ∧ W.cell? ⟨p, 7, none⟩ = some (.int .i64 x.d2) ∧ W.cell? ⟨p, 8, none⟩ = some (.int .i64 x.d3) ∧ W.cell? ⟨p, 9, none⟩ = some (.int .i64 x.o) ∧ W.cell? ⟨p, 10, none⟩ = some (.int .i64 x.t)) ∧ LastS w W p x := by
  obtain ⟨f0, f1, f2, f3, f4, f5, f6, f7, f8, f9, f10, -⟩ := h.1.facts
  exact ⟨⟨f0, f1, f2, f3, f4, f5, f6, f7, f8, f9, f10⟩, h⟩
theorem LastS.keep {w W W' : World} {p : Nat} {x : Nod} (h : LastS w W p x) (hb : Below W.heap.size W W') : LastS w W' p x := by
  obtain ⟨h1, ⟨z, h2⟩, h3⟩ := h
  exact ⟨h1.below hb h1.lt, ⟨z, h2.below hb h2.lt⟩, below_t h3 hb h3.size⟩
theorem LastS.setRow {w W : World} {p : Nat} {x : Nod} (h : LastS w W p x) (hp : w.heap.size < p) (y : Nod) : LastS w (W.setRow w.heap.size #[.int .i64 y.k, .int .i64 y.l, .int .i64 y.g, .int .i64 y.s, .int .i64 y.c, .int .i64 y.d0, .int .i64 y.d1, .int .i64 y.d2, .int .i64 y.d3, .int .i64 y.o, .int .i64 y.t]) p x ∧ BoxN (W.setRow w.heap.size #[.int .i64 y.k, .int .i64 y.l, .int .i64 y.g, .int .i64 y.s, .int .i64 y.c, .int .i64 y.d0, .int .i64 y.d1, .int .i64 y.d2, .int .i64 y.d3, .int .i64 y.o, .int .i64 y.t]) w.heap.size y := by
  obtain ⟨h1, ⟨z, h2⟩, h3⟩ := h
  have hk : BoxN (W.setRow w.heap.size #[.int .i64 y.k, .int .i64 y.l, .int .i64 y.g, .int .i64 y.s, .int .i64 y.c, .int .i64 y.d0, .int .i64 y.d1, .int .i64 y.d2, .int .i64 y.d3, .int .i64 y.o, .int .i64 y.t]) w.heap.size y := setRow_heap W w.heap.size _ _ 84 _ h2
  exact ⟨⟨h1.turn turn_setRow (by omega), ⟨_, hk⟩, h3.trans turn_setRow.1⟩, hk⟩
theorem res145 {W : World} {k : Nat} {x : Nod} (h : BoxN W k x) (tmps : Array Value) (ht : tmps.getD 2 undef = .pointer (some ⟨k, 0, none⟩)) :
    (results Try.f145 tmps).run Try.prog W = .ok (.tuple #[.agg #[.int .i64 x.k, .int .i64 x.l, .int .i64 x.g, .int .i64 x.s, .int .i64 x.c, .int .i64 x.d0, .int .i64 x.d1, .int .i64 x.d2, .int .i64 x.d3, .int .i64 x.o, .int .i64 x.t], tmps.getD 3 undef]) W := by
  obtain ⟨f0, f1, f2, f3, f4, f5, f6, f7, f8, f9, f10, -, -⟩ := h.facts
  have ht' : tmps[2]?.getD undef = .pointer (some ⟨k, 0, none⟩) := by simpa using ht
  simp [results, Try.results145, go_sem, ht', f0, f1, f2, f3, f4, f5, f6, f7, f8, f9, f10]
/-- What decode hands back. -/
def RetDecN (b : List UInt8) (w : World) (e : Ending) (w' : World) : Prop :=
  e = .returned (.tuple #[.agg #[.int .i64 (decN b).k, .int .i64 (decN b).l, .int .i64 (decN b).g, .int .i64 (decN b).s, .int .i64 (decN b).c, .int .i64 (decN b).d0, .int .i64 (decN b).d1, .int .i64 (decN b).d2, .int .i64 (decN b).d3, .int .i64 (decN b).o, .int .i64 (decN b).t], .bool (okN b)]) ∧ Below w.heap.size w w'
theorem big1 {b : List UInt8} {i : Nat} {x : UInt8} (h : b[i]? = some x) : bigL ((b.drop i).take 1) = x.toNat := by
  have h1 := (List.getElem?_eq_some_iff.1 h).1
  rw [List.drop_eq_getElem_cons h1, (List.getElem?_eq_some_iff.1 h).2]
  simp [bigL]
theorem decN_is {b : List UInt8} {x0 x1 : UInt8} {n2 n3 n4 : Nat} (h0 : b[0]? = some x0) (h1 : b[1]? = some x1) (h2 : n2 = bigL ((b.drop 2).take 4)) (h3 : n3 = bigL ((((b.drop 2).take 12).drop 4).take 4)) (h4 : n4 = bigL (((((b.drop 2).take 12).drop 4).drop 4).take 4)) :
    decN b = ⟨x0.toNat, x1.toNat, n2, n3, n4, (ptN b 0 : Nat), (ptN b 1 : Nat), (ptN b 2 : Nat), (ptN b 3 : Nat), (ptN b 4 : Nat), (ptN b 5 : Nat)⟩ := by
  have e0 := big1 h0
  rw [List.drop_zero] at e0
  rw [List.drop_take, List.take_take, List.drop_drop] at h3
  rw [List.drop_take, List.drop_take, List.take_take, List.drop_drop, List.drop_drop] at h4
  unfold decN nodN ptN
  rw [e0, big1 h1, h2, h3, h4]
  rfl
/-- A node is written over a node, at a step of a drawn region. -/
theorem st_nod {w : World} {ops : Array Oper} {o : Oper} {a : Act} {K : Act → World → Prop} {Q : Exit → Act → World → Prop} {E : Prop} (hgd : o.guard = none) (x y : Operand) (ho : o.op = .store 84 x y)
    (b : Nat) (hx : a.eval x = .pointer (some ⟨b, 0, none⟩)) (old new : Nod) (hy : a.eval y = .agg #[.int .i64 new.k, .int .i64 new.l, .int .i64 new.g, .int .i64 new.s, .int .i64 new.c, .int .i64 new.d0, .int .i64 new.d1, .int .i64 new.d2, .int .i64 new.d3, .int .i64 new.o, .int .i64 new.t])
    (hk : BoxN w b old) (h : ∀ w', BoxN w' b new → Turn b w w' → K (a.put o.dst undef) w') :
    if Region.wanted o (yielded ops a.tmps) = true then Oper.wp Try.prog o a w K Q else E := by
  have hw : Region.wanted o (yielded ops a.tmps) = true := by simp [Region.wanted, hgd]
  rw [if_pos hw]
  unfold Oper.wp execOp
  simp only [ho, hx, hy, Instr.storeAt, Instr.sureAddr, Sem.run_bind, Sem.run_pure, Result.andThen_ok]
  rw [run_storeVar_row w b 84 84 _ #[.int .i64 new.k, .int .i64 new.l, .int .i64 new.g, .int .i64 new.s, .int .i64 new.c, .int .i64 new.d0, .int .i64 new.d1, .int .i64 new.d2, .int .i64 new.d3, .int .i64 new.o, .int .i64 new.t] hk info84 rfl (by simp [Value.oneCell'])]
  exact h _ (setRow_heap w b _ _ 84 _ hk) turn_setRow

/-- The last store of a drawn region: a node over a node. -/
theorem last_store {md : Region.Mode} {ops : Array Oper} {Q : Exit → Act → World → Prop} {S : World → Prop} {fuel : Nat} {listed : Array Bool} {a : Act} {w : World} {i : Nat} {o : Oper} (x y : Operand) (b : Nat) (old new : Nod)
    (hr : Region.ready md ops listed = [i]) (ho : ops[i]? = some o) (hgd : o.guard = none) (hop : o.op = .store 84 x y) (hx : a.eval x = .pointer (some ⟨b, 0, none⟩)) (hy : a.eval y = .agg #[.int .i64 new.k, .int .i64 new.l, .int .i64 new.g, .int .i64 new.s, .int .i64 new.c, .int .i64 new.d0, .int .i64 new.d1, .int .i64 new.d2, .int .i64 new.d3, .int .i64 new.o, .int .i64 new.t])
    (hk : BoxN w b old) (h : ∀ w', BoxN w' b new → Turn b w w' → S w' ∧ wpAnyH Try.prog md ops Q S fuel (listed.setIfInBounds i true) (a.put o.dst undef) w') : wpAnyH Try.prog md ops Q S (fuel + 1) listed a w :=
  wpAnyH_ready hr (by simp) (AllReadyH.cons ho (fun K hK => st_nod hgd x y hop b hx old new hy hk fun w' h1 h2 => hK.out _ _ (h w' h1 h2).1 fun _ => (h w' h1 h2).2) AllReadyH.nil)
set_option maxHeartbeats 8000000 in
set_option maxRecDepth 100000 in
theorem decode_any (g0 off : Nat) (b : List UInt8) (c : Nat) (w : World) (hb : Bytes w (some ⟨g0, off, none⟩) b) (hbl : b.length = 32) (hc : 32 ≤ c) :
    Calls Try.prog 145 #[.slice (some ⟨g0, off, none⟩) 32 c] w (RetDecN b w) := by
  have HBL := hid hbl
  have HB := hid hb
  obtain ⟨x0, hx0⟩ := get_of_lt b (i := 0) (by omega)
  obtain ⟨x1, hx1⟩ := get_of_lt b (i := 1) (by omega)
  obtain ⟨g0', off', e0, hcell⟩ := Bytes.openq hb (by omega)
  cases e0
  have c0 := hcell 0 x0 hx0
  have c1 := hcell 1 x1 hx1
  rw [Nat.add_zero] at c0
  have hlt0 := World.block_lt_of_cell? w _ c0
  have HX0 := hid hx0
  have HX1 := hid hx1
  have hbx := hb.alloc (.cells #[.int .i64 0, .int .i64 0, .int .i64 0, .int .i64 0, .int .i64 0, .int .i64 0, .int .i64 0, .int .i64 0, .int .i64 0, .int .i64 0, .int .i64 0] 84)
  have hb2 : Bytes (w.alloc (.cells #[.int .i64 0, .int .i64 0, .int .i64 0, .int .i64 0, .int .i64 0, .int .i64 0, .int .i64 0, .int .i64 0, .int .i64 0, .int .i64 0, .int .i64 0] 84)) (some ⟨g0, off + 2, none⟩) ((b.drop 2).take 12) := by
    have := (Cells.drop hbx 2).take 12
    rwa [← List.map_drop, ← List.map_take] at this
  have hr := read_any (some ⟨g0, off + 2, none⟩) ((b.drop 2).take 12) (c - 2) _ hb2 (by simp; omega)
  rw [show ((b.drop 2).take 12).length = 12 from by simp; omega] at hr
  have HR := hid hr
  have HC0 := hid c0
  have HC1 := hid c1
  clear hbl hb hx0 hx1 hbx hb2 hr c0 c1 hcell
  have h1 : (14 : Int) ≤ c := by omega
  go_enter Try.func145, Try.ntmps145
  go_wp2_with fail
  refine HR.out.mono ?_
  rintro e w1 ⟨g, B, rfl, hf1, hg1, hB1, hb1⟩
  have hz1 := hb1.size
  simp only [World.size_alloc] at hg1 hz1
  have hS1 : w1.cell? ⟨g0, off, none⟩ = some (bv x0) ∧ w1.cell? ⟨g0, off + 1, none⟩ = some (bv x1) ∧ Turn g w1 w1 := ⟨(hb1.cell (p := ⟨g0, off, none⟩) (by simp; exact Nat.lt_succ_of_lt hlt0)).trans ((World.cell?_alloc_lt _ _ _ hlt0).trans HC0.out), (hb1.cell (p := ⟨g0, off + 1, none⟩) (by simp; exact Nat.lt_succ_of_lt hlt0)).trans ((World.cell?_alloc_lt _ _ _ hlt0).trans HC1.out), Turn.refl _ _⟩
  have hne : g0 ≠ g := by have : g0 < w.heap.size := hlt0; omega
  have hglt := hf1.lt
  have HF := hid (fun W (h : FormS W g B ((b.drop 2).take 12) false) => fnum_any g B ((b.drop 2).take 12) false W h)
  have HF1 := hid hf1
  have HB1 := hid hb1
  have HS1 := hid hS1
  have hw0 : IntKind.i64.wrap (x0.toNat : Int) = x0.toNat := by rw [IntKind.wrap_i64]; have := x0.toNat_lt; omega
  have hw1 : IntKind.i64.wrap (x1.toNat : Int) = x1.toNat := by rw [IntKind.wrap_i64]; have := x1.toNat_lt; omega
  have HNE := hid hne
  clear hf1 hb1 HR hS1 hne
  go_wp2_with fail
  go_region_held3 (fun W => W.cell? ⟨g0, off, none⟩ = some (bv x0) ∧ W.cell? ⟨g0, off + 1, none⟩ = some (bv x1) ∧ Turn g w1 W)
    (first | exact turnS_far hk2 turn_setRow (Nat.le_refl _) hglt (Nat.lt_of_lt_of_le hlt0 (Nat.le_of_succ_le hz1)) | exact HS1.out | assumption | exact turnS_keep HNE.out HS1.out (Turn.drew _ _) | exact turnS_keep HNE.out HS1.out ((turn_alloc _ (Nat.le_of_lt hglt)).trans (Turn.drew _ _)) | exact turnS_keep HNE.out HS1.out ((Turn.drew _ _).trans (turn_alloc _ (Nat.le_of_lt hglt))) | exact turnS_keep HNE.out hk2 (turn_alloc _ (Nat.le_of_lt (Nat.lt_of_lt_of_le hglt ht2.2.1))))
    (first
      | (go_at_call 46; refine (HF.out _ (by first | exact HF1.out | exact HF1.out.below (bl2 _) | exact (HF1.out.below (bl2 _)).below ((Below.refl _ _).alloc (Nat.le_refl _) _) | exact (HF1.out.below ((Below.refl _ _).alloc (Nat.le_refl _) _)).below (bl2 _))).mono ?_; rintro e w2 ⟨rfl, hf2, ht2⟩; have hk2 := turnS_keep HNE.out (by assumption) ht2; (first | (have kz := hid (BoxN.turn (BoxN.drew (BoxN.new w1 nod0)) ht2 (by omega))) | (have kz := hid True.intro)))
      | (refine upon_nod nod0 ⟨x0.toNat, x1.toNat, (bigL (tOut (List.take 12 (List.drop 2 b)) false 4) : Nat), 0, 0, 0, 0, 0, 0, 0, 0⟩ kz.out ?_ ?_; (· go_simp)))
  all_goals
    have hb02 : Below w.heap.size w w2 := (((Below.refl _ w).alloc (Nat.le_refl _) _).trans (HB1.out.mono (by simp))).trans (hk2.2.2.1.mono (by omega))
    have kr2 : BoxN w2 w.heap.size nod0 := ((BoxN.new w nod0).below HB1.out (by simp)).turn hk2.2.2 (by omega)
    have hg2 : w1.heap.size ≤ w2.heap.size := hk2.2.2.2.1
    obtain ⟨t1, t2, t3⟩ := t_at (l := (b.drop 2).take 12) (k := 4) (by have := HBL.out; simp; omega)
    rw [t2, t3] at hf2
    have hn1 : bigL (tOut ((b.drop 2).take 12) false 4) = bigL ((b.drop 2).take 4) := by rw [t1, List.take_take]; rfl
    rw [hn1]
    clear t1 t2 t3 hn1
    obtain ⟨n2, hn2⟩ : ∃ n, n = bigL ((b.drop 2).take 4) := ⟨_, rfl⟩
    rw [← hn2]
    have HN2 := hid hn2
    clear hn2
  focus
    have hX := BoxN.new w2 ⟨x0.toNat, x1.toNat, n2, 0, 0, 0, 0, 0, 0, 0, 0⟩
    have hT := turn_alloc (g := w2.heap.size) (W := w2) (.cells #[.int .i64 x0.toNat, .int .i64 x1.toNat, .int .i64 n2, .int .i64 0, .int .i64 0, .int .i64 0, .int .i64 0, .int .i64 0, .int .i64 0, .int .i64 0, .int .i64 0] 84) (Nat.le_refl _)
    have hp : g < w2.heap.size ∧ w.heap.size < w2.heap.size := by omega
    generalize w2.alloc (.cells #[.int .i64 x0.toNat, .int .i64 x1.toNat, .int .i64 n2, .int .i64 0, .int .i64 0, .int .i64 0, .int .i64 0, .int .i64 0, .int .i64 0, .int .i64 0, .int .i64 0] 84) = W5 at hX hT ⊢
    generalize w2.heap.size = p5 at hX hT hp ⊢
  rotate_left
  focus
    have hX : BoxN (w2.setRow w1.heap.size #[.int .i64 x0.toNat, .int .i64 x1.toNat, .int .i64 n2, .int .i64 0, .int .i64 0, .int .i64 0, .int .i64 0, .int .i64 0, .int .i64 0, .int .i64 0, .int .i64 0]) w1.heap.size ⟨x0.toNat, x1.toNat, n2, 0, 0, 0, 0, 0, 0, 0, 0⟩ := setRow_heap w2 w1.heap.size _ _ 84 _ kz.out
    have hT : Turn w1.heap.size w2 (w2.setRow w1.heap.size #[.int .i64 x0.toNat, .int .i64 x1.toNat, .int .i64 n2, .int .i64 0, .int .i64 0, .int .i64 0, .int .i64 0, .int .i64 0, .int .i64 0, .int .i64 0, .int .i64 0]) := turn_setRow
    have hp : g < w1.heap.size ∧ w.heap.size < w1.heap.size := by omega
    generalize w2.setRow w1.heap.size #[.int .i64 x0.toNat, .int .i64 x1.toNat, .int .i64 n2, .int .i64 0, .int .i64 0, .int .i64 0, .int .i64 0, .int .i64 0, .int .i64 0, .int .i64 0, .int .i64 0] = W5 at hX hT ⊢
    generalize w1.heap.size = p5 at hX hT hp ⊢
  all_goals
    have hf5 := hf2.turn hT (by omega) (fun b hb => by have := hB1 b hb; omega)
    have hb05 : Below w.heap.size w W5 := hb02.trans (hT.1.mono (by omega))
    have kr5 := kr2.turn hT (by omega)
    have hlt5 := hX.lt
    clear hk2 ht2 hf2 hb02 kr2 hT
  all_goals
    have h3 := fnum_any g B _ false W5 hf5
    obtain ⟨t1, t2, t3⟩ := t_at (l := ((b.drop 2).take 12).drop 4) (k := 4) (by have := HBL.out; simp; omega)
    rw [t1, t2, t3] at h3
    clear t1 t2 t3
    obtain ⟨n3, hn3⟩ : ∃ n, n = bigL ((((b.drop 2).take 12).drop 4).take 4) := ⟨_, rfl⟩
    rw [← hn3] at h3
    have HN3 := hid hn3
    have H3 := hid h3
    have HX5 := hid hX
    clear h3 hn3 hf5 hX
    go_wp2_with fail
    refine H3.out.mono ?_
    rintro e W6 ⟨rfl, hf6, ht6⟩
    have hX6 := HX5.out.turn ht6 (by omega)
    have hb06 : Below w.heap.size w W6 := hb05.trans (ht6.1.mono (by omega))
    have kr6 := kr5.turn ht6 (by omega)
    obtain ⟨z0, z1, z2, z3, z4, z5, z6, z7, z8, z9, z10, zf, zlt⟩ := hX6.facts
    have hX7 := hid (hX6.setS n3)
    have hT7 := Turn.setCell p5 3 W6 (.int .i64 n3)
    have hb07 := hb06.trans (hT7.1.mono (by omega))
    have kr7 := kr6.turn hT7 (by omega)
    have hf7 := hf6.turn hT7 (by omega) (fun b hb => by have := hB1 b hb; omega)
    have h4 := fnum_any g B _ false _ hf7
    obtain ⟨t1, t2, t3⟩ := t_at (l := (((b.drop 2).take 12).drop 4).drop 4) (k := 4) (by have := HBL.out; simp; omega)
    rw [t1, t2, t3] at h4
    clear t1 t2 t3
    obtain ⟨n4, hn4⟩ : ∃ n, n = bigL (((((b.drop 2).take 12).drop 4).drop 4).take 4) := ⟨_, rfl⟩
    rw [← hn4] at h4
    have HN4 := hid hn4
    have H4 := hid h4
    clear h4 hn4 hf6 hf7 hX6 z0 z1 z2 z4 z5 z6 z7 z8 z9 z10 kr6 hb06 kr5 hb05 hT7 HX5
    go_wp2_with fail
    refine H4.out.mono ?_
    clear z3 zf
    rintro e W8 ⟨rfl, hf8, ht8⟩
    have hX8 := hX7.out.turn ht8 (by omega)
    have hb08 : Below w.heap.size w W8 := hb07.trans (ht8.1.mono (by omega))
    have kr8 := kr7.turn ht8 (by omega)
    obtain ⟨z0, z1, z2, z3, z4, z5, z6, z7, z8, z9, z10, zf, zlt⟩ := hX8.facts
    have hX9 := hid (hX8.setC n4)
    have hT9 := Turn.setCell p5 4 W8 (.int .i64 n4)
    have hb09 := hb08.trans (hT9.1.mono (by omega))
    have kr9 := kr8.turn hT9 (by omega)
    have hlt9 : p5 < (W8.setCell ⟨p5, 4, none⟩ (.int .i64 n4)).heap.size := hX9.out.lt
    clear hf8 hX8 z0 z1 z2 z3 z5 z6 z7 z8 z9 z10 kr8 hb08 hT9 hX7 kr7 hb07
    go_wp2_with fail
  all_goals
    have hs9 : (W8.setCell ⟨p5, 4, none⟩ (.int .i64 n4)).heap.size = W8.heap.size := World.size_setCell _ _ _
    generalize W8.setCell ⟨p5, 4, none⟩ (.int .i64 n4) = W9 at hX9 hb09 kr9 hlt9 hs9 ⊢
    clear ht8 zlt zf
    generalize W8.heap.size = p6 at hs9 ⊢
    have hX10 := hid (hX9.out.alloc (.cells #[.int .i64 0, .int .i64 0, .int .i64 0, .int .i64 0, .int .i64 0, .int .i64 0] 238))
    have hb10 := hid (hb09.alloc hb09.size (.cells #[.int .i64 0, .int .i64 0, .int .i64 0, .int .i64 0, .int .i64 0, .int .i64 0] 238))
    have kr10 := hid (kr9.alloc (.cells #[.int .i64 0, .int .i64 0, .int .i64 0, .int .i64 0, .int .i64 0, .int .i64 0] 238))
    have hA10 : Hid ((W9.alloc (.cells #[.int .i64 0, .int .i64 0, .int .i64 0, .int .i64 0, .int .i64 0, .int .i64 0] 238)).heap[p6]? = some (.cells (arrN b 0).toArray 238 (0, 0))) := by
      rw [← hs9]
      exact hid (heap_alloc_new W9 _)
    have hw9 := hb09.size
    have hp6 : p5 < p6 := by omega
    have hr6 : w.heap.size ≤ p6 := by omega
    have hr6' : w.heap.size < p6 := by omega
    clear kr9 hb09 hX9 hlt9 hs9 hw9
    go_loopw [28] (fun jv W => ∃ i : Nat, i ≤ 6 ∧ jv = .int .i64 i ∧ Hid (W.heap[p6]? = some (.cells (arrN b i).toArray 238 (0, 0))) ∧ Hid (BoxN W p5 ⟨x0.toNat, x1.toNat, n2, n3, n4, 0, 0, 0, 0, 0, 0⟩) ∧ Hid (Below w.heap.size w W) ∧ Hid (BoxN W w.heap.size nod0)) (fun jv _ => 6 - (intOf jv).toNat)
    case atStart => exact ⟨0, by omega, rfl, hA10, hX10, hb10, kr10⟩
    case round =>
      clear hA10 hX10 hb10 kr10
      obtain ⟨i, hi, rfl, HA, HX, HBW, HKW⟩ := hrel
      by_cases hlt : i < 6
      · have hb' := HB.out.below HBW.out (Nat.le_refl _)
        obtain ⟨g', o', ee, hcell⟩ := Bytes.openq hb' (by have := HBL.out; omega)
        cases ee
        obtain ⟨x, hx⟩ := get_of_lt b (i := 14 + 2 * i) (by have := HBL.out; omega)
        obtain ⟨y, hy⟩ := get_of_lt b (i := 15 + 2 * i) (by have := HBL.out; omega)
        have cx := hcell _ x hx
        have cy := hcell _ y hy
        have ca : wr.cell? ⟨p6, i, none⟩ = some (.int .i64 0) := by
          simp [World.cell?, HA.out, arrN, hlt]
        have cf : wr.frozen? ⟨p6, i, none⟩ = false := by
          simp [World.frozen?, HA.out]
        have HPT := hid (ptN_of hx hy)
        have hwx : IntKind.i64.wrap (x.toNat : Int) = x.toNat := by rw [IntKind.wrap_i64]; have := x.toNat_lt; omega
        have hwy : IntKind.i64.wrap (y.toNat : Int) = y.toNat := by rw [IntKind.wrap_i64]; have := y.toNat_lt; omega
        have hwz : IntKind.i64.wrap ((y.toNat : Int) * 256) = (y.toNat : Int) * 256 := by rw [IntKind.wrap_i64]; have := y.toNat_lt; omega
        have hwn : ∀ n : Int, 0 ≤ n → n ≤ 100 → IntKind.i64.wrap n = n := fun n h1 h2 => by rw [IntKind.wrap_i64]; omega
        clear hx hy hcell hb'
        have hi6 : i = 0 ∨ i = 1 ∨ i = 2 ∨ i = 3 ∨ i = 4 ∨ i = 5 := by omega
        have hpg : p6 ≠ g0 := by omega
        have HPG := hid hpg
        clear hpg
        rcases hi6 with rfl | rfl | rfl | rfl | rfl | rfl
        · simp only [Nat.mul_zero, Nat.add_zero] at cx cy
          rw [show ((0 : Nat) : Int) = 0 from rfl]
          go_wp2_with fail
          go_region_held3 (fun W => W.cell? ⟨g0, off + 14, none⟩ = some (bv x) ∧ W.cell? ⟨g0, off + 15, none⟩ = some (bv y))
            (first | exact ⟨cx, cy⟩ | exact set_keep2 HPG.out cx cy) (fail)
          rw [or8, ← HPT.out]
          have hT := (Turn.setCell p6 0 wr (.int .i64 (ptN b 0 : Nat))).trans (Turn.drew p6 _)
          go_wp2_with fail
          go_roundw
          case rel => exact ⟨1, by omega, rfl, hid ((heap_setCell_at wr p6 0 _ 238 _ HA.out).trans (by rw [arrN_set b (by omega)])), hid (HX.out.turn hT (Nat.ne_of_lt hp6)), hid (HBW.out.trans (hT.1.mono hr6)), hid (HKW.out.turn hT (Nat.ne_of_lt hr6'))⟩
          case measure => simp [intOf]
        · simp only [Nat.reduceMul, Nat.reduceAdd] at cx cy
          rw [show ((1 : Nat) : Int) = 1 from rfl]
          go_wp2_with fail
          go_region_held3 (fun W => W.cell? ⟨g0, off + 16, none⟩ = some (bv x) ∧ W.cell? ⟨g0, off + 17, none⟩ = some (bv y))
            (first | exact ⟨cx, cy⟩ | exact set_keep2 HPG.out cx cy) (fail)
          rw [or8, ← HPT.out]
          have hT := (Turn.setCell p6 1 wr (.int .i64 (ptN b 1 : Nat))).trans (Turn.drew p6 _)
          go_wp2_with fail
          go_roundw
          case rel => exact ⟨2, by omega, rfl, hid ((heap_setCell_at wr p6 1 _ 238 _ HA.out).trans (by rw [arrN_set b (by omega)])), hid (HX.out.turn hT (Nat.ne_of_lt hp6)), hid (HBW.out.trans (hT.1.mono hr6)), hid (HKW.out.turn hT (Nat.ne_of_lt hr6'))⟩
          case measure => simp [intOf]
        · simp only [Nat.reduceMul, Nat.reduceAdd] at cx cy
          rw [show ((2 : Nat) : Int) = 2 from rfl]
          go_wp2_with fail
          go_region_held3 (fun W => W.cell? ⟨g0, off + 18, none⟩ = some (bv x) ∧ W.cell? ⟨g0, off + 19, none⟩ = some (bv y))
            (first | exact ⟨cx, cy⟩ | exact set_keep2 HPG.out cx cy) (fail)
          rw [or8, ← HPT.out]
          have hT := (Turn.setCell p6 2 wr (.int .i64 (ptN b 2 : Nat))).trans (Turn.drew p6 _)
          go_wp2_with fail
          go_roundw
          case rel => exact ⟨3, by omega, rfl, hid ((heap_setCell_at wr p6 2 _ 238 _ HA.out).trans (by rw [arrN_set b (by omega)])), hid (HX.out.turn hT (Nat.ne_of_lt hp6)), hid (HBW.out.trans (hT.1.mono hr6)), hid (HKW.out.turn hT (Nat.ne_of_lt hr6'))⟩
          case measure => simp [intOf]
        · simp only [Nat.reduceMul, Nat.reduceAdd] at cx cy
          rw [show ((3 : Nat) : Int) = 3 from rfl]
          go_wp2_with fail
          go_region_held3 (fun W => W.cell? ⟨g0, off + 20, none⟩ = some (bv x) ∧ W.cell? ⟨g0, off + 21, none⟩ = some (bv y))
            (first | exact ⟨cx, cy⟩ | exact set_keep2 HPG.out cx cy) (fail)
          rw [or8, ← HPT.out]
          have hT := (Turn.setCell p6 3 wr (.int .i64 (ptN b 3 : Nat))).trans (Turn.drew p6 _)
          go_wp2_with fail
          go_roundw
          case rel => exact ⟨4, by omega, rfl, hid ((heap_setCell_at wr p6 3 _ 238 _ HA.out).trans (by rw [arrN_set b (by omega)])), hid (HX.out.turn hT (Nat.ne_of_lt hp6)), hid (HBW.out.trans (hT.1.mono hr6)), hid (HKW.out.turn hT (Nat.ne_of_lt hr6'))⟩
          case measure => simp [intOf]
        · simp only [Nat.reduceMul, Nat.reduceAdd] at cx cy
          rw [show ((4 : Nat) : Int) = 4 from rfl]
          go_wp2_with fail
          go_region_held3 (fun W => W.cell? ⟨g0, off + 22, none⟩ = some (bv x) ∧ W.cell? ⟨g0, off + 23, none⟩ = some (bv y))
            (first | exact ⟨cx, cy⟩ | exact set_keep2 HPG.out cx cy) (fail)
          rw [or8, ← HPT.out]
          have hT := (Turn.setCell p6 4 wr (.int .i64 (ptN b 4 : Nat))).trans (Turn.drew p6 _)
          go_wp2_with fail
          go_roundw
          case rel => exact ⟨5, by omega, rfl, hid ((heap_setCell_at wr p6 4 _ 238 _ HA.out).trans (by rw [arrN_set b (by omega)])), hid (HX.out.turn hT (Nat.ne_of_lt hp6)), hid (HBW.out.trans (hT.1.mono hr6)), hid (HKW.out.turn hT (Nat.ne_of_lt hr6'))⟩
          case measure => simp [intOf]
        · simp only [Nat.reduceMul, Nat.reduceAdd] at cx cy
          rw [show ((5 : Nat) : Int) = 5 from rfl]
          go_wp2_with fail
          go_region_held3 (fun W => W.cell? ⟨g0, off + 24, none⟩ = some (bv x) ∧ W.cell? ⟨g0, off + 25, none⟩ = some (bv y))
            (first | exact ⟨cx, cy⟩ | exact set_keep2 HPG.out cx cy) (fail)
          rw [or8, ← HPT.out]
          have hT := (Turn.setCell p6 5 wr (.int .i64 (ptN b 5 : Nat))).trans (Turn.drew p6 _)
          go_wp2_with fail
          go_roundw
          case rel => exact ⟨6, by omega, rfl, hid ((heap_setCell_at wr p6 5 _ 238 _ HA.out).trans (by rw [arrN_set b (by omega)])), hid (HX.out.turn hT (Nat.ne_of_lt hp6)), hid (HBW.out.trans (hT.1.mono hr6)), hid (HKW.out.turn hT (Nat.ne_of_lt hr6'))⟩
          case measure => simp [intOf]
      · have hi6 : i = 6 := by omega
        subst hi6
        rw [show ((6 : Nat) : Int) = 6 from rfl]
        clear hlt hi
        go_wp2_with fail
        go_region_held3 (fun W => True) (exact True.intro)
          ((refine st_copyN (by rfl) (.tmp 51) (.tmp 52) (by rfl) p5 p6 b ⟨x0.toNat, x1.toNat, n2, n3, n4, 0, 0, 0, 0, 0, 0⟩ (by rfl) (by rfl) HX.out HA.out ?_; intro w11 HX11 HT11))
        have ha11 : w11.heap[p6]? = some (.cells (arrN b 6).toArray 238 (0, 0)) := (HT11.out.2.2 p6 (Array.getElem?_eq_some_iff.1 HA.out).1 (Nat.ne_of_gt hp6)).trans HA.out
        have a4 : w11.cell? ⟨p6, 4, none⟩ = some (.int .i64 (ptN b 4 : Nat)) := by simp [World.cell?, ha11, arrN]
        have a5 : w11.cell? ⟨p6, 5, none⟩ = some (.int .i64 (ptN b 5 : Nat)) := by simp [World.cell?, ha11, arrN]
        obtain ⟨z0, z1, z2, z3, z4, z5, z6, z7, z8, z9, z10, zf, zlt⟩ := HX11.out.facts
        have hT12 := ((Turn.drew p5 wr).trans HT11.out).trans ((Turn.setCell p5 9 w11 (.int .i64 (ptN b 4 : Nat))).trans (Turn.setCell p5 10 _ (.int .i64 (ptN b 5 : Nat))))
        have HL : Hid (LastS w ((w11.setCell ⟨p5, 9, none⟩ (.int .i64 (ptN b 4 : Nat))).setCell ⟨p5, 10, none⟩ (.int .i64 (ptN b 5 : Nat))) p5 ⟨x0.toNat, x1.toNat, n2, n3, n4, (ptN b 0 : Nat), (ptN b 1 : Nat), (ptN b 2 : Nat), (ptN b 3 : Nat), (ptN b 4 : Nat), (ptN b 5 : Nat)⟩) :=
          hid ⟨(HX11.out.setO (ptN b 4 : Nat)).setT (ptN b 5 : Nat), ⟨_, HKW.out.turn hT12 (Nat.ne_of_lt hp.2)⟩, HBW.out.trans (hT12.1.mono (Nat.le_of_lt hp.2))⟩
        have HD : Hid (decN b = ⟨x0.toNat, x1.toNat, n2, n3, n4, (ptN b 0 : Nat), (ptN b 1 : Nat), (ptN b 2 : Nat), (ptN b 3 : Nat), (ptN b 4 : Nat), (ptN b 5 : Nat)⟩) := hid (decN_is HX0.out HX1.out HN2.out HN3.out HN4.out)
        clear z0 z1 z2 z3 z4 z5 z6 z7 z8 ha11 HX hT12
        have HBB := hid (fun W (h : Below w.heap.size w W) => HB.out.below h (Nat.le_refl _))
        have HSN := hid (fun W => soundN_any ⟨x0.toNat, x1.toNat, n2, n3, n4, (ptN b 0 : Nat), (ptN b 1 : Nat), (ptN b 2 : Nat), (ptN b 3 : Nat), (ptN b 4 : Nat), (ptN b 5 : Nat)⟩ W)
        simp only at HSN
        cases hsn : soundN (decN b) with
        | false =>
          have HOK : Hid (okN b = false) := hid (by rw [okN, hsn]; rfl)
          rw [HD.out] at hsn
          rw [hsn] at HSN
          have HS0 := hid hsn
          clear hsn
          go_wp2_with fail
          generalize (w11.setCell ⟨p5, 9, none⟩ (.int .i64 (ptN b 4 : Nat))).setCell ⟨p5, 10, none⟩ (.int .i64 (ptN b 5 : Nat)) = w13 at HL ⊢
          refine wp_region_noPanic ?_
          refine wp_region_held_drew (S := fun W => (W.cell? ⟨p5, 0, none⟩ = some (.int .i64 x0.toNat) ∧ W.cell? ⟨p5, 1, none⟩ = some (.int .i64 x1.toNat) ∧ W.cell? ⟨p5, 2, none⟩ = some (.int .i64 n2) ∧ W.cell? ⟨p5, 3, none⟩ = some (.int .i64 n3) ∧ W.cell? ⟨p5, 4, none⟩ = some (.int .i64 n4) ∧ W.cell? ⟨p5, 5, none⟩ = some (.int .i64 (ptN b 0 : Nat)) ∧ W.cell? ⟨p5, 6, none⟩ = some (.int .i64 (ptN b 1 : Nat)) ∧ W.cell? ⟨p5, 7, none⟩ = some (.int .i64 (ptN b 2 : Nat)) ∧ W.cell? ⟨p5, 8, none⟩ = some (.int .i64 (ptN b 3 : Nat)) ∧ W.cell? ⟨p5, 9, none⟩ = some (.int .i64 (ptN b 4 : Nat)) ∧ W.cell? ⟨p5, 10, none⟩ = some (.int .i64 (ptN b 5 : Nat))) ∧ LastS w W p5 ⟨x0.toNat, x1.toNat, n2, n3, n4, (ptN b 0 : Nat), (ptN b 1 : Nat), (ptN b 2 : Nat), (ptN b 3 : Nat), (ptN b 4 : Nat), (ptN b 5 : Nat)⟩) (by kernel_rfl) (HL.out.keep (bl2 _)).cells (fun hHeld => ?_)
          refine wpAnyH_take (i := 0) (oi := { dst := some 60, op := Op.load 84 (Operand.tmp 5), type := 84, pos := "node.go:69", after := #[], guard := none }) (v := .agg #[.int .i64 x0.toNat, .int .i64 x1.toNat, .int .i64 n2, .int .i64 n3, .int .i64 n4, .int .i64 (ptN b 0 : Nat), .int .i64 (ptN b 1 : Nat), .int .i64 (ptN b 2 : Nat), .int .i64 (ptN b 3 : Nat), .int .i64 (ptN b 4 : Nat), .int .i64 (ptN b 5 : Nat)]) rfl (by kernel_rfl) (by kernel_rfl) (by kernel_rfl) (fun _ _ _ h => h) (Or.inl ⟨by rfl, fun W hSw => ?_⟩) hHeld ?_
          · dsimp only at hSw
            go_simp
          try simp only [Act.put, List.setIfInBounds_toArray, List.set_cons_zero, List.set_cons_succ]
          refine wpAnyH_take (i := 1) (oi := { dst := some 61, op := Op.load 84 (Operand.tmp 5), type := 84, pos := "node.go:69", after := #[], guard := none }) (v := .agg #[.int .i64 x0.toNat, .int .i64 x1.toNat, .int .i64 n2, .int .i64 n3, .int .i64 n4, .int .i64 (ptN b 0 : Nat), .int .i64 (ptN b 1 : Nat), .int .i64 (ptN b 2 : Nat), .int .i64 (ptN b 3 : Nat), .int .i64 (ptN b 4 : Nat), .int .i64 (ptN b 5 : Nat)]) rfl (by kernel_rfl) (by kernel_rfl) (by kernel_rfl) (fun _ _ _ h => h) (Or.inl ⟨by rfl, fun W hSw => ?_⟩) hHeld ?_
          · dsimp only at hSw
            go_simp
          try simp only [Act.put, List.setIfInBounds_toArray, List.set_cons_zero, List.set_cons_succ]
          refine wpAnyH_ready (rs := [2]) (by kernel_rfl) (by simp) (AllReadyH.cons (o := { dst := some 62, op := Op.call { callee := Callee.value (Operand.func 74), args := #[Operand.tmp 61], argTypes := #[84] }, type := 4, pos := "node.go:69", after := #[{ on := 1, ground := Ground.data }], guard := none }) rfl (fun K hK => ?_) AllReadyH.nil)
          go_simp
          refine (HSN.out _).mono ?_
          rintro e w14 ⟨rfl, hb14⟩
          have hl2 := LastS.keep hHeld.2 hb14
          obtain ⟨zq, kq⟩ := hl2.2.1
          refine hK.out _ _ hl2.cells (fun hHeld => ?_)
          clear hK K
          try simp only [Act.put, List.setIfInBounds_toArray, List.set_cons_zero, List.set_cons_succ]
          refine wpAnyH_take (i := 3) (oi := { dst := some 63, op := Op.move (Operand.tmp 62), type := 4, pos := "node.go:69", after := #[{ on := 2, ground := Ground.data }, { on := 2, ground := Ground.chain }], guard := none }) (v := .bool false) rfl (by kernel_rfl) (by kernel_rfl) (by kernel_rfl) (fun _ _ _ h => h) (Or.inl ⟨by rfl, fun W hSw => ?_⟩) hHeld ?_
          · dsimp only at hSw
            go_simp
          try simp only [Act.put, List.setIfInBounds_toArray, List.set_cons_zero, List.set_cons_succ]
          refine wpAnyH_take (i := 4) (oi := { dst := some 64, op := Op.load 84 (Operand.tmp 5), type := 84, pos := "node.go:69", after := #[{ on := 3, ground := Ground.guard }], guard := some (3, true) }) (v := undef) rfl (by kernel_rfl) (by kernel_rfl) (by kernel_rfl) (fun _ _ _ h => h) (Or.inr ⟨by rfl, rfl⟩) hHeld ?_
          try simp only [Act.put, List.setIfInBounds_toArray, List.set_cons_zero, List.set_cons_succ]
          refine wpAnyH_take (i := 5) (oi := { dst := some 65, op := Op.call { callee := Callee.value (Operand.func 139), args := #[Operand.tmp 64], argTypes := #[84] }, type := 22, pos := "node.go:69", after := #[{ on := 4, ground := Ground.data }, { on := 3, ground := Ground.chain }, { on := 3, ground := Ground.guard }], guard := some (3, true) }) (v := undef) rfl (by kernel_rfl) (by kernel_rfl) (by kernel_rfl) (fun _ _ _ h => h) (Or.inr ⟨by rfl, rfl⟩) hHeld ?_
          try simp only [Act.put, List.setIfInBounds_toArray, List.set_cons_zero, List.set_cons_succ]
          refine wpAnyH_take (i := 6) (oi := { dst := some 66, op := Op.move (Operand.tmp 0), type := 22, pos := "node.go:69", after := #[{ on := 3, ground := Ground.guard }], guard := some (3, true) }) (v := undef) rfl (by kernel_rfl) (by kernel_rfl) (by kernel_rfl) (fun _ _ _ h => h) (Or.inr ⟨by rfl, rfl⟩) hHeld ?_
          try simp only [Act.put, List.setIfInBounds_toArray, List.set_cons_zero, List.set_cons_succ]
          refine wpAnyH_take (i := 7) (oi := { dst := some 67, op := Op.call { callee := Callee.value (Operand.func 136), args := #[Operand.tmp 65, Operand.tmp 66], argTypes := #[22, 22] }, type := 4, pos := "node.go:69", after := #[{ on := 5, ground := Ground.data }, { on := 6, ground := Ground.data }, { on := 5, ground := Ground.chain }, { on := 3, ground := Ground.guard }], guard := some (3, true) }) (v := undef) rfl (by kernel_rfl) (by kernel_rfl) (by kernel_rfl) (fun _ _ _ h => h) (Or.inr ⟨by rfl, rfl⟩) hHeld ?_
          try simp only [Act.put, List.setIfInBounds_toArray, List.set_cons_zero, List.set_cons_succ]
          refine wpAnyH_take (i := 8) (oi := { dst := some 68, op := Op.pick (Operand.tmp 63) (Operand.tmp 67) (Operand.const (Value.bool false)), type := 4, pos := "node.go:69", after := #[{ on := 3, ground := Ground.data }, { on := 7, ground := Ground.data }, { on := 9, ground := Ground.gcOnly Departure.lateStores }], guard := none }) (v := .bool false) rfl (by kernel_rfl) (by kernel_rfl) (by kernel_rfl) (fun _ _ _ h => h) (Or.inl ⟨by rfl, fun W hSw => ?_⟩) hHeld ?_
          · dsimp only at hSw
            go_simp
          try simp only [Act.put, List.setIfInBounds_toArray, List.set_cons_zero, List.set_cons_succ]
          refine last_store (i := 9) (o := { dst := none, op := Op.store 84 (Operand.tmp 2) (Operand.tmp 60), type := 0, pos := "node.go:69", after := #[{ on := 0, ground := Ground.data }, { on := 7, ground := Ground.chain }, { on := 0, ground := Ground.phase }, { on := 1, ground := Ground.textOnly Departure.lateStores }, { on := 2, ground := Ground.textOnly Departure.lateStoresUnsure }, { on := 3, ground := Ground.textOnly Departure.lateStores }, { on := 4, ground := Ground.textOnly Departure.lateStores }, { on := 5, ground := Ground.textOnly Departure.lateStoresUnsure }, { on := 6, ground := Ground.textOnly Departure.lateStores }, { on := 7, ground := Ground.textOnly Departure.lateStoresUnsure }, { on := 8, ground := Ground.textOnly Departure.lateStores }], guard := none }) (.tmp 2) (.tmp 60) w.heap.size zq ⟨x0.toNat, x1.toNat, n2, n3, n4, (ptN b 0 : Nat), (ptN b 1 : Nat), (ptN b 2 : Nat), (ptN b 3 : Nat), (ptN b 4 : Nat), (ptN b 5 : Nat)⟩ (by kernel_rfl) rfl rfl rfl rfl rfl kq ?_
          intro w15 hk15 ht15
          have hl3 : LastS w w15 p5 ⟨x0.toNat, x1.toNat, n2, n3, n4, (ptN b 0 : Nat), (ptN b 1 : Nat), (ptN b 2 : Nat), (ptN b 3 : Nat), (ptN b 4 : Nat), (ptN b 5 : Nat)⟩ := ⟨hl2.1.turn ht15 (Nat.ne_of_gt hp.2), ⟨_, hk15⟩, hl2.2.2.trans ht15.1⟩
          refine ⟨hl3.cells, ?_⟩
          replace hHeld := hl3.cells
          try simp only [Act.put, List.setIfInBounds_toArray, List.set_cons_zero, List.set_cons_succ]
          refine wpAnyH_take (i := 10) (oi := { dst := some 3, op := Op.assign (Operand.tmp 68), type := 4, pos := "node.go:69", after := #[{ on := 8, ground := Ground.data }, { on := 9, ground := Ground.chain }, { on := 0, ground := Ground.phase }, { on := 1, ground := Ground.phase }, { on := 2, ground := Ground.phase }, { on := 3, ground := Ground.phase }, { on := 4, ground := Ground.phase }, { on := 5, ground := Ground.phase }, { on := 6, ground := Ground.phase }, { on := 7, ground := Ground.phase }, { on := 8, ground := Ground.phase }, { on := 9, ground := Ground.phase }], guard := none }) (v := .bool false) rfl (by kernel_rfl) (by kernel_rfl) (by kernel_rfl) (fun _ _ _ h => h) (Or.inl ⟨by rfl, fun W hSw => ?_⟩) hHeld ?_
          · dsimp only at hSw
            go_simp
          try simp only [Act.put, List.setIfInBounds_toArray, List.set_cons_zero, List.set_cons_succ]
          refine wpAnyH_done (by kernel_rfl) ?_ _
          refine NoPanic.normal ?_
          go_wp2_with fail
          exact bodyPost_ret (res145 hk15 _ rfl) rfl ⟨by rw [HD.out, HOK.out]; rfl, hl3.2.2⟩
        | true =>
          have HSM := hid (sound_small hsn)
          obtain ⟨q, hq⟩ : ∃ q, decide (nodL x0.toNat x1.toNat n2 n3 n4 [ptN b 0, ptN b 1, ptN b 2, ptN b 3, ptN b 4, ptN b 5] = b) = q := ⟨_, rfl⟩
          have HOK : Hid (okN b = q) := hid (by rw [okN, hsn, Bool.true_and, HD.out]; exact hq)
          have HEN := hid (fun W => encodeN_any x0.toNat x1.toNat n2 n3 n4 (ptN b 0) (ptN b 1) (ptN b 2) (ptN b 3) (ptN b 4) (ptN b 5) W
            (by have h := HSM.out; rw [HD.out] at h; exact h.1) (by have h := HSM.out; rw [HD.out] at h; exact h.2.1) (by have h := HSM.out; rw [HD.out] at h; exact h.2.2.1) (by have h := HSM.out; rw [HD.out] at h; exact h.2.2.2.1) (by have h := HSM.out; rw [HD.out] at h; exact h.2.2.2.2.1) (by have h := HSM.out; rw [HD.out] at h; exact h.2.2.2.2.2))
          have HQ := hid hq
          clear hq
          rw [HD.out] at hsn
          rw [hsn] at HSN
          have HS0 := hid hsn
          clear hsn
          go_wp2_with fail
          generalize (w11.setCell ⟨p5, 9, none⟩ (.int .i64 (ptN b 4 : Nat))).setCell ⟨p5, 10, none⟩ (.int .i64 (ptN b 5 : Nat)) = w13 at HL ⊢
          refine wp_region_noPanic ?_
          refine wp_region_held_drew (S := fun W => (W.cell? ⟨p5, 0, none⟩ = some (.int .i64 x0.toNat) ∧ W.cell? ⟨p5, 1, none⟩ = some (.int .i64 x1.toNat) ∧ W.cell? ⟨p5, 2, none⟩ = some (.int .i64 n2) ∧ W.cell? ⟨p5, 3, none⟩ = some (.int .i64 n3) ∧ W.cell? ⟨p5, 4, none⟩ = some (.int .i64 n4) ∧ W.cell? ⟨p5, 5, none⟩ = some (.int .i64 (ptN b 0 : Nat)) ∧ W.cell? ⟨p5, 6, none⟩ = some (.int .i64 (ptN b 1 : Nat)) ∧ W.cell? ⟨p5, 7, none⟩ = some (.int .i64 (ptN b 2 : Nat)) ∧ W.cell? ⟨p5, 8, none⟩ = some (.int .i64 (ptN b 3 : Nat)) ∧ W.cell? ⟨p5, 9, none⟩ = some (.int .i64 (ptN b 4 : Nat)) ∧ W.cell? ⟨p5, 10, none⟩ = some (.int .i64 (ptN b 5 : Nat))) ∧ LastS w W p5 ⟨x0.toNat, x1.toNat, n2, n3, n4, (ptN b 0 : Nat), (ptN b 1 : Nat), (ptN b 2 : Nat), (ptN b 3 : Nat), (ptN b 4 : Nat), (ptN b 5 : Nat)⟩) (by kernel_rfl) (HL.out.keep (bl2 _)).cells (fun hHeld => ?_)
          refine wpAnyH_take (i := 0) (oi := { dst := some 60, op := Op.load 84 (Operand.tmp 5), type := 84, pos := "node.go:69", after := #[], guard := none }) (v := .agg #[.int .i64 x0.toNat, .int .i64 x1.toNat, .int .i64 n2, .int .i64 n3, .int .i64 n4, .int .i64 (ptN b 0 : Nat), .int .i64 (ptN b 1 : Nat), .int .i64 (ptN b 2 : Nat), .int .i64 (ptN b 3 : Nat), .int .i64 (ptN b 4 : Nat), .int .i64 (ptN b 5 : Nat)]) rfl (by kernel_rfl) (by kernel_rfl) (by kernel_rfl) (fun _ _ _ h => h) (Or.inl ⟨by rfl, fun W hSw => ?_⟩) hHeld ?_
          · dsimp only at hSw
            go_simp
          try simp only [Act.put, List.setIfInBounds_toArray, List.set_cons_zero, List.set_cons_succ]
          refine wpAnyH_take (i := 1) (oi := { dst := some 61, op := Op.load 84 (Operand.tmp 5), type := 84, pos := "node.go:69", after := #[], guard := none }) (v := .agg #[.int .i64 x0.toNat, .int .i64 x1.toNat, .int .i64 n2, .int .i64 n3, .int .i64 n4, .int .i64 (ptN b 0 : Nat), .int .i64 (ptN b 1 : Nat), .int .i64 (ptN b 2 : Nat), .int .i64 (ptN b 3 : Nat), .int .i64 (ptN b 4 : Nat), .int .i64 (ptN b 5 : Nat)]) rfl (by kernel_rfl) (by kernel_rfl) (by kernel_rfl) (fun _ _ _ h => h) (Or.inl ⟨by rfl, fun W hSw => ?_⟩) hHeld ?_
          · dsimp only at hSw
            go_simp
          try simp only [Act.put, List.setIfInBounds_toArray, List.set_cons_zero, List.set_cons_succ]
          refine wpAnyH_ready (rs := [2]) (by kernel_rfl) (by simp) (AllReadyH.cons (o := { dst := some 62, op := Op.call { callee := Callee.value (Operand.func 74), args := #[Operand.tmp 61], argTypes := #[84] }, type := 4, pos := "node.go:69", after := #[{ on := 1, ground := Ground.data }], guard := none }) rfl (fun K hK => ?_) AllReadyH.nil)
          go_simp
          refine (HSN.out _).mono ?_
          rintro e w14 ⟨rfl, hb14⟩
          have hl2 := LastS.keep hHeld.2 hb14
          refine hK.out _ _ hl2.cells (fun hHeld => ?_)
          clear hK K
          try simp only [Act.put, List.setIfInBounds_toArray, List.set_cons_zero, List.set_cons_succ]
          refine wpAnyH_take (i := 3) (oi := { dst := some 63, op := Op.move (Operand.tmp 62), type := 4, pos := "node.go:69", after := #[{ on := 2, ground := Ground.data }, { on := 2, ground := Ground.chain }], guard := none }) (v := .bool true) rfl (by kernel_rfl) (by kernel_rfl) (by kernel_rfl) (fun _ _ _ h => h) (Or.inl ⟨by rfl, fun W hSw => ?_⟩) hHeld ?_
          · dsimp only at hSw
            go_simp
          try simp only [Act.put, List.setIfInBounds_toArray, List.set_cons_zero, List.set_cons_succ]
          refine wpAnyH_take (i := 4) (oi := { dst := some 64, op := Op.load 84 (Operand.tmp 5), type := 84, pos := "node.go:69", after := #[{ on := 3, ground := Ground.guard }], guard := some (3, true) }) (v := .agg #[.int .i64 x0.toNat, .int .i64 x1.toNat, .int .i64 n2, .int .i64 n3, .int .i64 n4, .int .i64 (ptN b 0 : Nat), .int .i64 (ptN b 1 : Nat), .int .i64 (ptN b 2 : Nat), .int .i64 (ptN b 3 : Nat), .int .i64 (ptN b 4 : Nat), .int .i64 (ptN b 5 : Nat)]) rfl (by kernel_rfl) (by kernel_rfl) (by kernel_rfl) (fun _ _ _ h => h) (Or.inl ⟨by rfl, fun W hSw => ?_⟩) hHeld ?_
          · dsimp only at hSw
            go_simp
          try simp only [Act.put, List.setIfInBounds_toArray, List.set_cons_zero, List.set_cons_succ]
          refine wpAnyH_take (i := 6) (oi := { dst := some 66, op := Op.move (Operand.tmp 0), type := 22, pos := "node.go:69", after := #[{ on := 3, ground := Ground.guard }], guard := some (3, true) }) (v := .slice (some ⟨g0, off, none⟩) 32 c) rfl (by kernel_rfl) (by kernel_rfl) (by kernel_rfl) (fun _ _ _ h => h) (Or.inl ⟨by rfl, fun W hSw => ?_⟩) hHeld ?_
          · dsimp only at hSw
            go_simp
          try simp only [Act.put, List.setIfInBounds_toArray, List.set_cons_zero, List.set_cons_succ]
          refine wpAnyH_ready (rs := [5]) (by kernel_rfl) (by simp) (AllReadyH.cons (o := { dst := some 65, op := Op.call { callee := Callee.value (Operand.func 139), args := #[Operand.tmp 64], argTypes := #[84] }, type := 22, pos := "node.go:69", after := #[{ on := 4, ground := Ground.data }, { on := 3, ground := Ground.chain }, { on := 3, ground := Ground.guard }], guard := some (3, true) }) rfl (fun K hK => ?_) AllReadyH.nil)
          go_simp
          refine (HEN.out _).mono ?_
          rintro e w16 ⟨A16, c16, rfl, ho16, hb16⟩
          have hl4 := LastS.keep hl2 hb16
          obtain ⟨zq, kq⟩ := hl4.2.1
          refine hK.out _ _ hl4.cells (fun hHeld => ?_)
          clear hK K
          try simp only [Act.put, List.setIfInBounds_toArray, List.set_cons_zero, List.set_cons_succ]
          refine wpAnyH_ready (rs := [7]) (by kernel_rfl) (by simp) (AllReadyH.cons (o := { dst := some 67, op := Op.call { callee := Callee.value (Operand.func 136), args := #[Operand.tmp 65, Operand.tmp 66], argTypes := #[22, 22] }, type := 4, pos := "node.go:69", after := #[{ on := 5, ground := Ground.data }, { on := 6, ground := Ground.data }, { on := 5, ground := Ground.chain }, { on := 3, ground := Ground.guard }], guard := some (3, true) }) rfl (fun K hK => ?_) AllReadyH.nil)
          go_simp
          have heq := equal_any A16 (some ⟨g0, off, none⟩) _ b c16 c w16 ho16.cells (HBB.out _ hl4.2.2)
          rw [nodL_len _ _ _ _ _ _ rfl, HBL.out, HQ.out] at heq
          refine heq.mono ?_
          rintro e w17 ⟨rfl, rfl⟩
          clear hl2
          have hl2 := hl4
          refine hK.out _ _ hl4.cells (fun hHeld => ?_)
          clear hK K
          try simp only [Act.put, List.setIfInBounds_toArray, List.set_cons_zero, List.set_cons_succ]
          refine wpAnyH_take (i := 8) (oi := { dst := some 68, op := Op.pick (Operand.tmp 63) (Operand.tmp 67) (Operand.const (Value.bool false)), type := 4, pos := "node.go:69", after := #[{ on := 3, ground := Ground.data }, { on := 7, ground := Ground.data }, { on := 9, ground := Ground.gcOnly Departure.lateStores }], guard := none }) (v := .bool q) rfl (by kernel_rfl) (by kernel_rfl) (by kernel_rfl) (fun _ _ _ h => h) (Or.inl ⟨by rfl, fun W hSw => ?_⟩) hHeld ?_
          · dsimp only at hSw
            go_simp
          try simp only [Act.put, List.setIfInBounds_toArray, List.set_cons_zero, List.set_cons_succ]
          refine last_store (i := 9) (o := { dst := none, op := Op.store 84 (Operand.tmp 2) (Operand.tmp 60), type := 0, pos := "node.go:69", after := #[{ on := 0, ground := Ground.data }, { on := 7, ground := Ground.chain }, { on := 0, ground := Ground.phase }, { on := 1, ground := Ground.textOnly Departure.lateStores }, { on := 2, ground := Ground.textOnly Departure.lateStoresUnsure }, { on := 3, ground := Ground.textOnly Departure.lateStores }, { on := 4, ground := Ground.textOnly Departure.lateStores }, { on := 5, ground := Ground.textOnly Departure.lateStoresUnsure }, { on := 6, ground := Ground.textOnly Departure.lateStores }, { on := 7, ground := Ground.textOnly Departure.lateStoresUnsure }, { on := 8, ground := Ground.textOnly Departure.lateStores }], guard := none }) (.tmp 2) (.tmp 60) w.heap.size zq ⟨x0.toNat, x1.toNat, n2, n3, n4, (ptN b 0 : Nat), (ptN b 1 : Nat), (ptN b 2 : Nat), (ptN b 3 : Nat), (ptN b 4 : Nat), (ptN b 5 : Nat)⟩ (by kernel_rfl) rfl rfl rfl rfl rfl kq ?_
          intro w15 hk15 ht15
          have hl3 : LastS w w15 p5 ⟨x0.toNat, x1.toNat, n2, n3, n4, (ptN b 0 : Nat), (ptN b 1 : Nat), (ptN b 2 : Nat), (ptN b 3 : Nat), (ptN b 4 : Nat), (ptN b 5 : Nat)⟩ := ⟨hl2.1.turn ht15 (Nat.ne_of_gt hp.2), ⟨_, hk15⟩, hl2.2.2.trans ht15.1⟩
          refine ⟨hl3.cells, ?_⟩
          replace hHeld := hl3.cells
          try simp only [Act.put, List.setIfInBounds_toArray, List.set_cons_zero, List.set_cons_succ]
          refine wpAnyH_take (i := 10) (oi := { dst := some 3, op := Op.assign (Operand.tmp 68), type := 4, pos := "node.go:69", after := #[{ on := 8, ground := Ground.data }, { on := 9, ground := Ground.chain }, { on := 0, ground := Ground.phase }, { on := 1, ground := Ground.phase }, { on := 2, ground := Ground.phase }, { on := 3, ground := Ground.phase }, { on := 4, ground := Ground.phase }, { on := 5, ground := Ground.phase }, { on := 6, ground := Ground.phase }, { on := 7, ground := Ground.phase }, { on := 8, ground := Ground.phase }, { on := 9, ground := Ground.phase }], guard := none }) (v := .bool q) rfl (by kernel_rfl) (by kernel_rfl) (by kernel_rfl) (fun _ _ _ h => h) (Or.inl ⟨by rfl, fun W hSw => ?_⟩) hHeld ?_
          · dsimp only at hSw
            go_simp
          try simp only [Act.put, List.setIfInBounds_toArray, List.set_cons_zero, List.set_cons_succ]
          refine wpAnyH_done (by kernel_rfl) ?_ _
          refine NoPanic.normal ?_
          go_wp2_with fail
          exact bodyPost_ret (res145 hk15 _ rfl) rfl ⟨by rw [HD.out, HOK.out]; rfl, hl3.2.2⟩
end Go.Proofs.Ytppbcdcmpcagdaa
