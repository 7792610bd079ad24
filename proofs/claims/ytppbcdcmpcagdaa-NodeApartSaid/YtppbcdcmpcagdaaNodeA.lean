/- The equality of an array of four ints with the array of noughts. -/
import Derived.Test.YtppbcdcmpcagdaaNode2
import Derived.Laws.StructEq
namespace Go.Proofs.Ytppbcdcmpcagdaa
open Go.RowKit Go.CP
theorem equal82 (a b c d : Int) (w : World) : (Op.equalIn 10000 82 (.agg #[.int .i64 a, .int .i64 b, .int .i64 c, .int .i64 d]) (.agg #[.int .i64 0, .int .i64 0, .int .i64 0, .int .i64 0])).run Try.prog w = .ok (a == 0 && b == 0 && c == 0 && d == 0) w := by
  have hu : Try.prog.underlying 82 = some (.array 4 3) := by kernel_rfl
  have h3 : Try.prog.underlying 3 = some (.int .i64) := by kernel_rfl
  have hsz : ∀ w, (sizeOf 3).run Try.prog w = .ok 1 w := fun w => by simp [sizeOf, info3]; rfl
  have hp : ∀ (xs : Array Value) (i : Nat) (k : IntKind) (n : Int) (w : World), xs[i]? = some (.int k n) → (part 3 xs i).run Try.prog w = .ok (.int k n) w := fun xs i k n w h => by
    simp [part, isAgg, run_underlying h3, h]
  rw [show 10000 = 9999 + 1 from rfl, Op.equalIn]
  simp only [Sem.run_bind, run_underlying hu, Result.andThen_ok, hsz, Std.Legacy.Range.forIn_eq_forIn_range', Std.Legacy.Range.size, Nat.sub_zero, Nat.add_sub_cancel, Nat.div_one]
  have e := fun (x y : Int) (w : World) => run_equalIn_int (P := Try.prog) w 9998 3 .i64 .i64 x y h3
  have pz : ∀ (i : Nat) (w : World), i < 4 → (part 3 #[.int .i64 0, .int .i64 0, .int .i64 0, .int .i64 0] i).run Try.prog w = .ok (.int .i64 0) w := fun i w hi => hp _ i _ _ w (by
    match i, hi with
    | 0, _ => rfl
    | 1, _ => rfl
    | 2, _ => rfl
    | 3, _ => rfl)
  have p0 : ∀ w : World, (part 3 #[.int .i64 a, .int .i64 b, .int .i64 c, .int .i64 d] 0).run Try.prog w = .ok (.int .i64 a) w := fun w => hp _ 0 _ _ w rfl
  have p1 : ∀ w : World, (part 3 #[.int .i64 a, .int .i64 b, .int .i64 c, .int .i64 d] 1).run Try.prog w = .ok (.int .i64 b) w := fun w => hp _ 1 _ _ w rfl
  have p2 : ∀ w : World, (part 3 #[.int .i64 a, .int .i64 b, .int .i64 c, .int .i64 d] 2).run Try.prog w = .ok (.int .i64 c) w := fun w => hp _ 2 _ _ w rfl
  have p3 : ∀ w : World, (part 3 #[.int .i64 a, .int .i64 b, .int .i64 c, .int .i64 d] 3).run Try.prog w = .ok (.int .i64 d) w := fun w => hp _ 3 _ _ w rfl
  rw [show List.range' 0 4 1 = [0, 1, 2, 3] from rfl]
  cases h0 : (a == 0)
  · simp only [List.forIn_cons, Sem.run_bind, Nat.mul_one, p0, pz 0 w (by decide), Result.andThen_ok, e, h0]; simp
  cases h1 : (b == 0)
  · simp only [List.forIn_cons, Sem.run_bind, Nat.mul_one, p0, p1, pz 0 w (by decide), pz 1 w (by decide), Result.andThen_ok, e, h0, h1]; simp [p1, pz 1 w (by decide), e, h1]
  cases h2 : (c == 0)
  · simp only [List.forIn_cons, Sem.run_bind, Nat.mul_one, p0, p1, pz 0 w (by decide), pz 1 w (by decide), Result.andThen_ok, e, h0, h1]; simp [p1, pz 1 w (by decide), e, h1, p2, pz 2 w (by decide), h2]
  cases h3' : (d == 0)
  · simp only [List.forIn_cons, Sem.run_bind, Nat.mul_one, p0, p1, pz 0 w (by decide), pz 1 w (by decide), Result.andThen_ok, e, h0, h1]; simp [p1, pz 1 w (by decide), e, h1, p2, pz 2 w (by decide), h2, p3, pz 3 w (by decide), h3']
  · simp only [List.forIn_cons, Sem.run_bind, Nat.mul_one, p0, p1, pz 0 w (by decide), pz 1 w (by decide), Result.andThen_ok, e, h0, h1]; simp [p1, pz 1 w (by decide), e, h1, p2, pz 2 w (by decide), h2, p3, pz 3 w (by decide), h3']
end Go.Proofs.Ytppbcdcmpcagdaa
