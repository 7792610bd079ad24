/- The document's drive in memory: contracts of its New, spark, Fuse. -/
import Derived.Test.YtppbcdcmpcagdaaPlay2
import Derived.Test.YtppbcdcmpcagdaaDriveR
namespace Go.Proofs.Ytppbcdcmpcagdaa
open Go.RowKit Go.CP

def dcells (x : Don) : List Value := [.int .i64 x.1, .string (bstr x.2.1), .bool x.2.2]
/-- The head of the document's drive. -/
def HeadR (W : World) (r : Nat) (n : Int) (lv : Value) (fuse : Int) (dead : Bool) : Prop := W.heap[r]? = some (.cells #[.int .i64 n, lv, .int .i64 fuse, .bool dead] 222 (0, 0))
theorem HeadR.facts {W : World} {r : Nat} {n : Int} {lv : Value} {fuse : Int} {dead : Bool} (h : HeadR W r n lv fuse dead) : W.cell? ⟨r, 0, none⟩ = some (.int .i64 n) ∧ W.cell? ⟨r, 1, none⟩ = some lv ∧ W.cell? ⟨r, 2, none⟩ = some (.int .i64 fuse) ∧ W.cell? ⟨r, 3, none⟩ = some (.bool dead) ∧ (∀ j, W.frozen? ⟨r, j, none⟩ = false) ∧ r < W.heap.size := by
  have h' : W.heap[r]? = _ := h
  refine ⟨?_, ?_, ?_, ?_, fun j => ?_, (Array.getElem?_eq_some_iff.1 h').1⟩ <;> simp [World.cell?, World.frozen?, h']
/-- The document's drive, made behind a world of so many blocks. -/
def RIs (W : World) (base r : Nat) (A : Option Addr) (c : Nat) (R : RDrv) : Prop :=
  HeadR W r R.n (.slice A R.list.length c) R.fuse R.dead ∧ Go.CP.Own W base 224 3 A R.list.length c (R.list.flatMap dcells) ∧ base ≤ r ∧ blockOf A ≠ some r
def RetRef (W : World) (base r : Nat) (A : Option Addr) (x : Int × RDrv) (e : Ending) (W' : World) : Prop :=
  e = .returned (.int .i64 x.1) ∧ ∃ A' c', RIs W' base r A' c' x.2 ∧ Drove W W' r r A A'
set_option maxHeartbeats 1000000 in
theorem ref_new (n : Nat) (W : World) (h1 : 64 ≤ n) (h2 : n ≤ 1024) :
    Calls Try.prog 106 #[.int .i64 n] W fun e W' => e = .returned (.tuple #[.pointer (some ⟨W.heap.size, 0, none⟩), .int .i64 0]) ∧ RIs W' W.heap.size W.heap.size none 0 (RDrv.new n) ∧ Below W.heap.size W W' := by
  have h1i : (64 : Int) ≤ (n : Int) := by omega
  have h2i : (n : Int) ≤ 1024 := by omega
  go_enter Try.func106, Try.ntmps106
  go_wp2
  go_ret2
  refine ⟨rfl, ⟨?_, Go.CP.Own.none _ _ _ _, Nat.le_refl _, fun e => by cases e⟩, (Below.refl _ _).alloc (Nat.le_refl _) _⟩
  exact heap_alloc_new W _
theorem ref_not (n : Int) (W : World) (h : n < 64 ∨ 1024 < n) :
    Calls Try.prog 106 #[.int .i64 n] W fun e W' => e = .returned (.tuple #[.pointer none, .int .i64 1]) ∧ W' = W := by
  rcases h with h | h
  · go_enter Try.func106, Try.ntmps106
    go_wp2
    go_ret2
    exact ⟨rfl, rfl⟩
  · have h3 : ¬ n < 64 := by omega
    go_enter Try.func106, Try.ntmps106
    go_wp2
    go_ret2
    exact ⟨rfl, rfl⟩
end Go.Proofs.Ytppbcdcmpcagdaa
