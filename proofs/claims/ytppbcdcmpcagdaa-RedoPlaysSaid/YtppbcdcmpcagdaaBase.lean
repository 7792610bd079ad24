/- Laws of appends and makes at this translation's types; contracts of slices.Clip, slices.Clone and bytes.Equal of bytes. -/
import Derived.Test.YtppbcdcmpcagdaaProg
import Derived.Test.YtppbcdcmpcagdaaLib
import Derived.KernelRfl
namespace Go.Proofs.Ytppbcdcmpcagdaa
open Go.RowKit Go.CP

theorem info5 : Try.prog.info? 5 = some Try.t5 := by kernel_rfl
theorem info3 : Try.prog.info? 3 = some Try.t3 := by kernel_rfl

theorem ap_bytes {w : World} {ops : Array Oper} {rest : List Oper} {o : Oper} {a : Act} {Q : Exit → Act → World → Prop} (hgd : o.guard = none) (s x : Operand) (tx : TypeId)
    (ho : o.op = .call { callee := .builtin .append, args := #[s, x], argTypes := #[22, tx] }) (base : Nat)
    {A : Option Addr} {n c : Nat} {xs : List Value} (hs : a.eval s = .slice A n c) (hown : Own w base 5 1 A n c xs)
    {vx : Value} {m : Nat} {news : List Value} (hvx : a.eval x = vx) (hx : Src Try.prog w 1 (.int .u8 0) tx vx m news)
    (hbytes : n + m ≤ 225000000000000) (hbase : base ≤ w.heap.size)
    (h : ∀ A' c' w', Own w' base 5 1 A' (n + m) c' (xs ++ news) → w.grownBy w' (blockOf A) → wpList Try.prog ops Q rest (a.put o.dst (.slice A' (n + m) c')) w') : wpList Try.prog ops Q (o :: rest) a w :=
  wpList_append_Own w hgd s x 22 tx ho base 5 Try.t5 (.int .u8 0) 1 1 Try.underlying22 info5 (by kernel_rfl) (by kernel_rfl) (by kernel_rfl) rfl (by decide) (by decide) (by decide) A n c xs hs hown vx m news hvx hx (by omega) hbase h

theorem mk_bytes {w : World} {ops : Array Oper} {rest : List Oper} {o : Oper} {a : Act} {Q : Exit → Act → World → Prop} (hgd : o.guard = none) (ln cp : Operand)
    (ho : o.op = .makeSlice 22 ln cp) {k k' : IntKind} {m : Nat} (hl : a.eval ln = .int k m) (hc : a.eval cp = .int k' m) (hbytes : m ≤ 140737488355328)
    (h : ∀ w', Own w' w.heap.size 5 1 (some ⟨w.heap.size, 0, none⟩) m m ((List.replicate m (0 : UInt8)).map bv) → w.grownBy w' none → w'.heap.size = w.heap.size + 1 →
      wpList Try.prog ops Q rest (a.put o.dst (.slice (some ⟨w.heap.size, 0, none⟩) m m)) w') : wpList Try.prog ops Q (o :: rest) a w :=
  wpList_make_Own w hgd ln cp 22 ho 5 Try.t5 (.int .u8 0) 1 Try.underlying22 info5 (by kernel_rfl) (by kernel_rfl) k k' m hl hc (by rw [show Try.t5.bytes = 1 from by kernel_rfl]; omega) (by unfold maxLen; omega)
    fun w' hw ho hg => h w' (by rw [Nat.mul_one, show (Value.int IntKind.u8 0).cells = #[Value.int .u8 0] from rfl, madeCells_one] at ho; rw [List.map_replicate]; exact ho) hg (by rw [hw]; simp)

theorem cv_bytes {w : World} {A : Option Addr} {l : List UInt8} (c : Nat) (h : Bytes w A l) : (convert 22 9 (.slice A l.length c)).run Try.prog w = .ok (.string (bstr l)) w :=
  run_bytes_string (P := Try.prog) Try.underlying22 Try.underlying5 Try.underlying9 c h

theorem clip_any (a : Option Addr) (n c : Nat) (w : World) (hc : n ≤ c) :
    Calls Try.prog 128 #[.slice a n c] w fun e w' => e = .returned (.slice a n n) ∧ w' = w := by
  go_enter Try.func128, Try.ntmps128
  go_wp2
  go_ret
  exact ⟨rfl, rfl⟩

theorem Cells.none_nil {w : World} {xs : List Value} (h : Cells w none xs) : xs = [] := by
  cases xs with
  | nil => rfl
  | cons x l => obtain ⟨b, off, h1, _⟩ := h 0 _ rfl; cases h1
theorem Bytes.none_nil {w : World} {l : List UInt8} (h : Bytes w none l) : l = [] := by
  have := Cells.none_nil h
  simpa using this

theorem clone_any (A : Option Addr) (l : List UInt8) (c : Nat) (w : World) (hb : Bytes w A l) (hl : l.length ≤ 220000000000000) :
    Calls Try.prog 129 #[.slice A l.length c] w (RetOwn w 5 1 l.length (l.map bv)) := by
  have hq : ∀ w : World, (binOp .eql 22 (.slice A l.length c) (.slice none 0 0)).run Try.prog w = .ok (.bool A.isNone) w := fun w => Lib.run_eql_slice_nil w 22 5 A _ _ _ _ Try.underlying22
  cases A with
  | none =>
    obtain rfl := Bytes.none_nil hb
    have hq' : ∀ w : World, (binOp .eql 22 (.slice none 0 c) (.slice none 0 0)).run Try.prog w = .ok (.bool true) w := hq
    clear hq
    go_enter Try.func129, Try.ntmps129
    go_wp2
    go_ret
    exact ⟨none, 0, rfl, Own.none _ _ _ _, Below.refl _ _⟩
  | some ad =>
    have hq' : ∀ w : World, (binOp .eql 22 (.slice (some ad) l.length c) (.slice none 0 0)).run Try.prog w = .ok (.bool false) w := hq
    clear hq
    go_enter Try.func129, Try.ntmps129
    go_wp2_with (at_builtin; refine ap_bytes rfl _ _ 22 rfl w.heap.size rfl (Own.empty w 5 1) rfl (Src.bytes Try.underlying22 (hb.alloc _)) (by omega) (by simp) ?_; intro A' c' w' ho hg; simp only [Nat.zero_add, List.nil_append] at ho ⊢)
    go_ret
    exact ⟨A', c', rfl, ho, Below.of_grown ((World.grownBy_alloc _ _ _).trans hg) (by simp) (by simp [blockOf])⟩

theorem equal_any (A B : Option Addr) (l m : List UInt8) (c c' : Nat) (w : World) (ha : Bytes w A l) (hb : Bytes w B m) :
    Calls Try.prog 136 #[.slice A l.length c, .slice B m.length c'] w fun e w' => e = .returned (.bool (decide (l = m))) ∧ w' = w := by
  have h1 := cv_bytes c ha
  have h2 := cv_bytes c' hb
  go_enter Try.func136, Try.ntmps136
  go_wp2
  go_ret
  exact ⟨ret_bool (by by_cases h : l = m <;> simp [h]), rfl⟩
end Go.Proofs.Ytppbcdcmpcagdaa
