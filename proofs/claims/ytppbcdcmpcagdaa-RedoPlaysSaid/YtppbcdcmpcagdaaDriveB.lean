/- Laws at this translation's types: a waiting sector is built, laid as a slice of one, appended; a row of bytes as an array. -/
import Derived.Test.YtppbcdcmpcagdaaDriveA
import Derived.Great.BuildSlice
import Derived.Deep.RegionHeld3
import Derived.Deep.AppendLies
namespace Go.Proofs.Ytppbcdcmpcagdaa
open Go.RowKit Go.CP

theorem info216 : Try.prog.info? 216 = some Try.t216 := by kernel_rfl
theorem info214s : (Try.prog.info? 214).map (·.size) = some 128 := by kernel_rfl
def z216 : Value := .agg (#[.int .i64 0] ++ Array.replicate 128 (.int .u8 0))
theorem zero216 : Try.t216.zero = some z216 := by kernel_rfl
theorem size216 : Try.t216.size = 129 := by kernel_rfl
theorem bytes216 : Try.t216.bytes = 136 := by kernel_rfl
theorem cells216 : z216.cells.size = 129 := by
  rw [z216, Value.cells, Array.size_append, Array.size_replicate]
  rfl
theorem built216 (parts : List (Nat × Value)) : Try.prog.built 216 parts = Instr.fill ((#[(0, 1), (1, 128)] : Array (Nat × Nat))[·]?) (#[.int .i64 0] ++ Array.replicate 128 (.int .u8 0)) parts := by kernel_rfl
theorem foldl_zip (off : Nat) (l : List Value) (cs : Array Value) : l.toArray.zipIdx.foldl (fun cs (x : Value × Nat) => cs.setIfInBounds (off + x.2) x.1) cs = (l.zipIdx 0).foldl (fun cs (x : Value × Nat) => cs.setIfInBounds (off + x.2) x.1) cs := by
  rw [← Array.foldl_toList]
  simp
set_option maxRecDepth 100000 in
theorem run_build216 (w : World) (n : Int) (d : List UInt8) (hd : d.length = 128) : (Instr.build 216 #[(0, .int .i64 n), (1, .agg (d.map bv).toArray)]).run Try.prog w = .ok (.agg (rowL (n, d)).toArray) w := by
  refine run_build w 216 _ _ ?_
  rw [built216]
  obtain ⟨h1, h2⟩ := Go.Great.foldl_set 1 (d.map bv) 0 ((#[.int .i64 0] ++ Array.replicate 128 (.int .u8 0) : Array Value).setIfInBounds 0 (.int .i64 n))
  have e : Instr.fill ((#[(0, 1), (1, 128)] : Array (Nat × Nat))[·]?) (#[.int .i64 0] ++ Array.replicate 128 (.int .u8 0)) [(0, .int .i64 n), (1, .agg (d.map bv).toArray)] =
      some ((d.map bv).toArray.zipIdx.foldl (fun cs (x : Value × Nat) => cs.setIfInBounds (1 + x.2) x.1) ((#[.int .i64 0] ++ Array.replicate 128 (.int .u8 0) : Array Value).setIfInBounds 0 (.int .i64 n))) := by
    simp [Instr.fill, Value.cells, hd]
  refine Eq.trans e ?_
  rw [foldl_zip]
  congr 1
  apply Array.ext_getElem?
  intro k
  rw [h2 k]
  simp only [rowL, List.length_map, hd]
  cases k with
  | zero => simp
  | succ k =>
    by_cases hk : k < 128
    · rw [if_pos (by simp; omega)]
      simp
    · rw [if_neg (by omega)]
      simp
      rw [List.getElem?_eq_none (by omega), Array.getElem?_eq_none (by simp; omega)]
      rfl
theorem fill209 (x : Int × List UInt8) (h : x.2.length = 128) (cs : Array Value) (hc : cs.size = 129) : Instr.fill (fun i => some (i * 129, 129)) cs [(0, .agg (rowL x).toArray)] = some (rowL x).toArray := by
  have := Go.Great.fill_whole (s := 129) (by omega) [.agg (rowL x).toArray] cs (by simp [Value.cells, rowL_len h]) (by simp [hc])
  simpa [Value.cells] using this
theorem run_slice209 (w : World) (x : Int × List UInt8) (h : x.2.length = 128) : (Instr.buildSlice 209 1 #[(0, .agg (rowL x).toArray)]).run Try.prog w = .ok (.slice (some ⟨w.heap.size, 0, none⟩) 1 1) (w.alloc (.cells (rowL x).toArray 216)) := by
  refine run_buildSlice w 209 216 1 _ (rowL x).toArray Try.t216 _ Try.underlying209 info216 zero216 (by rw [size216]; omega) (by rw [size216]; omega) ?_
  rw [size216]
  exact fill209 x h _ (by simp)
theorem run_array214 (w : World) (A : Option Addr) (c : Nat) : (Instr.arrayAt 214 (.slice A 128 c)).run Try.prog w = .ok (.pointer A) w := by
  simp [Instr.arrayAt, Sem.run_bind, run_underlying Try.underlying214 w]
theorem row_one (x : Int × List UInt8) : ∀ u ∈ rowL x, u.oneCell' = true := by
  intro u hu
  rcases List.mem_cons.1 hu with rfl | hu
  · rfl
  · obtain ⟨y, _, rfl⟩ := List.mem_map.1 hu
    rfl
set_option maxRecDepth 100000 in
/-- What waits gets one more, at a step of a region that draws its order. -/
theorem st_wait {w : World} {ops : Array Oper} {o : Oper} {a : Act} {K : Act → World → Prop} {Q : Exit → Act → World → Prop} {E : Prop} (hgd : o.guard = none) (s x : Operand)
    (ho : o.op = .call { callee := .builtin .append, args := #[s, x], argTypes := #[209, 209] }) (base : Nat)
    {A : Option Addr} {n c : Nat} {xs : List Value} (hs : a.eval s = .slice A n c) (hown : Go.CP.Own w base 216 129 A n c xs)
    {vx : Value} {m : Nat} {news : List Value} (hvx : a.eval x = vx) (hx : Src Try.prog w 129 z216 209 vx m news)
    (hbytes : (n + m) * 136 ≤ 225000000000000) (hbase : base ≤ w.heap.size)
    (h : ∀ A' c' w', Go.CP.Own w' base 216 129 A' (n + m) c' (xs ++ news) → w.grownBy w' (blockOf A) → (blockOf A' = blockOf A ∨ ∀ k, blockOf A' = some k → w.heap.size ≤ k) → K (a.put o.dst (.slice A' (n + m) c')) w') :
    if Region.wanted o (yielded ops a.tmps) = true then Oper.wp Try.prog o a w K Q else E := by
  have hw : Region.wanted o (yielded ops a.tmps) = true := by simp [Region.wanted, hgd]
  rw [if_pos hw]
  exact wp_append_Own' w s x 209 209 ho base 216 Try.t216 z216 129 136 Try.underlying209 info216 zero216 size216 bytes216 cells216 (by decide) (by decide) (by decide) A n c xs hs hown vx m news hvx hx hbytes hbase h
theorem yieldsIf_build216 {ops : Array Oper} {S : World → Prop} {op : Oper} {a : Act} (hw : Region.wanted op (yielded ops a.tmps) = true) (x y : Operand) (ho : op.op = .build 216 #[(0, x), (1, y)]) (n : Int) (d : List UInt8)
    (hx : a.eval x = .int .i64 n) (hy : a.eval y = .agg (d.map bv).toArray) (hd : d.length = 128) : YieldsIf Try.prog ops S op (.agg (rowL (n, d)).toArray) a :=
  .inl ⟨hw, fun w _ => by
    unfold execOp
    simp only [ho, List.map_toArray, List.map_cons, List.map_nil, hx, hy, Sem.run_bind, run_build216 w n d hd, Result.andThen_ok, Sem.run_pure]⟩
/-- A slice of one waiting sector is laid, at a step of a region that draws its order. -/
theorem st_slice209 {w : World} {ops : Array Oper} {o : Oper} {a : Act} {K : Act → World → Prop} {Q : Exit → Act → World → Prop} {E : Prop} (hgd : o.guard = none) (y : Operand) (ho : o.op = .buildSlice 209 1 #[(0, y)])
    (x : Int × List UInt8) (hy : a.eval y = .agg (rowL x).toArray) (hx : x.2.length = 128) (h : K (a.put o.dst (.slice (some ⟨w.heap.size, 0, none⟩) 1 1)) (w.alloc (.cells (rowL x).toArray 216))) :
    if Region.wanted o (yielded ops a.tmps) = true then Oper.wp Try.prog o a w K Q else E := by
  have hw : Region.wanted o (yielded ops a.tmps) = true := by simp [Region.wanted, hgd]
  rw [if_pos hw]
  unfold Oper.wp execOp
  simp only [ho, List.map_toArray, List.map_cons, List.map_nil, hy, Sem.run_bind, run_slice209 w x hx, Result.andThen_ok, Sem.run_pure]
  exact h
end Go.Proofs.Ytppbcdcmpcagdaa
