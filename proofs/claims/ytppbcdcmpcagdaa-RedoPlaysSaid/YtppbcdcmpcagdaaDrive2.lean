/- Contract of drive.New; a drive in memory. -/
import Derived.Test.YtppbcdcmpcagdaaDrive1
import Derived.Test.YtppbcdcmpcagdaaDriveP
namespace Go.Proofs.Ytppbcdcmpcagdaa
open Go.RowKit Go.CP

theorem info214 : Try.prog.info? 214 = some Try.t214 := by kernel_rfl
/-- Sectors as cells. -/
def flatS (l : List (List UInt8)) : List Value := (l.flatMap id).map bv
theorem flat_zeros (n m : Nat) : List.flatMap id (List.replicate n (List.replicate m (0 : UInt8))) = List.replicate (n * m) 0 := by
  induction n with
  | zero => simp
  | succ n ih =>
    rw [List.replicate_succ, List.flatMap_cons, ih, id, List.replicate_append_replicate, Nat.succ_mul, Nat.add_comm]
theorem madeCells_rep (m k : Nat) (v : Value) (hk : 0 < k) : (madeCells (Array.replicate k v) m).toList = List.replicate m v := by
  apply List.ext_getElem
  · simp [madeCells]
  · intro j h1 h2
    have hj : j % k < (Array.replicate k v).size := by rw [Array.size_replicate]; exact Nat.mod_lt _ hk
    simp only [madeCells, List.getElem_replicate]
    simp [Nat.mod_lt _ hk]
theorem madeCells_zeros (n : Nat) : (madeCells (Value.agg (Array.replicate 128 (.int .u8 0))).cells (n * 128)) = (flatS (List.replicate n (List.replicate 128 0))).toArray := by
  apply Array.toList_inj.1
  rw [flatS, flat_zeros, List.map_replicate]
  exact madeCells_rep (n * 128) 128 (.int .u8 0) (by omega)
theorem zero214 : Try.t214.zero = some (.agg (Array.replicate 128 (.int .u8 0))) := by kernel_rfl

/-- A drive: its head at g, its sectors at s, what waits in A. -/
def DriveIs (W : World) (g s : Nat) (A : Option Addr) (c : Nat) (D : Drv) : Prop :=
  Head4 W g (.slice (some ⟨s, 0, none⟩) D.sure.length D.sure.length) (.slice A D.list.length c) D.fuse D.dead ∧ W.heap[s]? = some (.cells (flatS D.sure).toArray 214 (0, 0)) ∧
  Go.CP.Own W 0 216 129 A D.list.length c (D.list.flatMap fun x => .int .i64 x.1 :: x.2.map bv) ∧ D.Ok ∧ g ≠ s ∧ (∀ k, blockOf A = some k → k ≠ g ∧ k ≠ s)
set_option maxRecDepth 100000 in
theorem new_ok (n : Nat) (w : World) (h1 : 64 ≤ n) (h2 : n ≤ 1024) : Calls Try.prog 98 #[.int .i64 n] w fun e w' =>
    e = .returned (.tuple #[.pointer (some ⟨w.heap.size + 1, 0, none⟩), .int .i64 0]) ∧ DriveIs w' (w.heap.size + 1) w.heap.size none 0 (Drv.new n) ∧ Below w.heap.size w w' := by
  have h3 : (64 : Int) ≤ n := by omega
  have h4 : (n : Int) ≤ 1024 := by omega
  have hs : Try.t214.size = 128 := by rfl
  have hb : Try.t214.bytes = 128 := by rfl
  go_enter Try.func98, Try.ntmps98
  go_wp2_with (refine wpList_make_Own _ rfl _ _ 208 rfl 214 Try.t214 _ 128 (by kernel_rfl) info214 zero214 hs .i64 .i64 n rfl rfl (by rw [hb]; omega) (by unfold maxLen; omega) ?_; intro w1 hw1 ho1 hg1)
  subst hw1
  have hm := madeCells_zeros n
  go_ret2
  refine ⟨rfl, ⟨?_, ?_, Own.none _ _ _ _, ⟨?_, ?_⟩, by omega, fun k hk => by cases hk⟩, ((Below.refl _ _).alloc (Nat.le_refl _) _).alloc (by simp) _⟩
  · have h := heap_alloc_new (w.alloc (.cells (madeCells (Value.agg (Array.replicate 128 (.int .u8 0))).cells (n * 128)) 214)) (.cells #[.slice (some ⟨w.heap.size, 0, none⟩) n n, .slice none 0 0, .int .i64 (-1), .bool false] 211)
    rw [World.size_alloc] at h
    unfold Head4 Drv.new
    simp only [List.length_replicate, List.length_nil]
    exact h
  · unfold Drv.new
    rw [← hm]
    have h := heap_alloc_new w (.cells (madeCells (Value.agg (Array.replicate 128 (.int .u8 0))).cells (n * 128)) 214)
    have h2 := ((Below.refl (w.heap.size + 1) (w.alloc (.cells (madeCells (Value.agg (Array.replicate 128 (.int .u8 0))).cells (n * 128)) 214))).alloc (by simp) (.cells #[.slice (some ⟨w.heap.size, 0, none⟩) n n, .slice none 0 0, .int .i64 (-1), .bool false] 211)).block w.heap.size (by omega)
    exact h2.trans h
  · intro s hs
    rw [List.eq_of_mem_replicate hs, List.length_replicate]
  · intro x hx; cases hx
end Go.Proofs.Ytppbcdcmpcagdaa
