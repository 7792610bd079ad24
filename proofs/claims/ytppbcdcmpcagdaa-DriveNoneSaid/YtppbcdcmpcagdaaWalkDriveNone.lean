/- The law DriveNone returns true at every input: no drive answers as the chapter says. No condition. -/
import Derived.Test.YtppbcdcmpcagdaaDriveW
namespace Go.Proofs.Ytppbcdcmpcagdaa
open Go.RowKit Go.CP

set_option maxHeartbeats 1000000 in
set_option maxRecDepth 100000 in
theorem driveNone_walk (w : World) (n : Int) (A : Option Addr) (l : List UInt8) (c : Nat) (K : Option Addr) (keep : List Int) (ck : Nat) (_ : -9223372036854775808 ≤ n ∧ n < 9223372036854775808)
    (_ : Bytes w A l) (_ : l.length ≤ c) (_ : l.length ≤ 140737488351232) (_ : Ints w K keep) (_ : ∀ x ∈ keep, -9223372036854775808 ≤ x ∧ x < 9223372036854775808) (_ : keep.length ≤ ck) (_ : keep.length ≤ 140737488351232) :
    Calls Try.prog 33 #[.int .i64 n, .slice A l.length c, .slice K keep.length ck] w fun e w' => e = .returned (.bool true) ∧ Below w.heap.size w w' := by
  go_enter Try.func33, Try.ntmps33
  go_wp2_with fail
  refine (fuse_nil _ _).mono ?_
  rintro e w1 ⟨rfl, rfl⟩
  go_wp2_with fail
  refine (restart_nil _ _).mono ?_
  rintro e w2 ⟨rfl, rfl⟩
  go_wp2_with fail
  refine (get_nil _ _).mono ?_
  rintro e w3 ⟨rfl, hb3⟩
  go_wp2_with fail
  refine (awake05_any _).mono ?_
  rintro e w4 ⟨rfl, hb4⟩
  have hb04 := below_t hb3 hb4 hb3.size
  go_wp2_with fail
  refine (put_nil _ _).mono ?_
  rintro e w5 ⟨rfl, hb5⟩
  have hb05 := below_t (hb04.alloc hb04.size _) hb5 (by simp; have := hb04.size; omega)
  go_wp2_with fail
  refine (flush_nil _).mono ?_
  rintro e w6 ⟨rfl, rfl⟩
  go_wp2_with fail
  refine (sectors_nil _).mono ?_
  rintro e w7 ⟨rfl, rfl⟩
  go_wp2_with fail
  refine (image_nil _).mono ?_
  rintro e w8 ⟨rfl, rfl⟩
  go_wp2
  go_ret
  exact ⟨rfl, hb05⟩
end Go.Proofs.Ytppbcdcmpcagdaa
