/- The law FieldSums returns true at every input: its walk over the contracts of field.Sum and of the reference's Sum. No condition. -/
import Derived.Test.YtppbcdcmpcagdaaField8
namespace Go.Proofs.Ytppbcdcmpcagdaa
open Go.RowKit Go.CP

set_option maxHeartbeats 1000000 in
set_option maxRecDepth 100000 in
theorem fieldSums_walk (w : World) (A : Option Addr) (l : List UInt8) (c : Nat) (hb : Bytes w A l) (_ : l.length ≤ c) (hl : l.length ≤ 140737488351232) :
    Calls Try.prog 6 #[.slice A l.length c] w fun e w' => e = .returned (.bool true) ∧ Below w.heap.size w w' := by
  have hs := fun W (hW : Below w.heap.size w W) => sum_any A l c W (hb.below hW (Nat.le_refl _)) (by omega)
  have hr := fun W => rsum_any (bstr l) W (by show l.length ≤ _; omega)
  rw [show (bstr l).data.toList = l from rfl] at hr
  have hcv := fun W (hW : Below w.heap.size w W) => cv_bytes c (hb.below hW (Nat.le_refl _))
  have HS := hid hs
  have HR := hid hr
  clear hs hr
  go_enter Try.func6, Try.ntmps6
  go_wp2_with fail
  go_region_held3 (fun W => Below w.heap.size w W) (first | exact Below.refl _ _ | exact Below.drew (Below.refl _ _) | assumption | (refine Below.drew ?_; assumption))
    (first
      | (go_at_call 44; refine (awake_any _).mono ?_; rintro e w1 ⟨rfl, hb1⟩; have hk := Below.trans (by assumption : Below w.heap.size w _) (hb1.mono (Below.size (by assumption : Below w.heap.size w _))))
      | (go_at_call 55; refine (HS.out _ (by assumption)).mono ?_; rintro e w2 ⟨rfl, rfl⟩)
      | (go_at_call 56; refine (HR.out _).mono ?_; rintro e w3 ⟨rfl, rfl⟩))
  all_goals
    go_wp2
    go_ret
    exact ⟨ret_bool (by simp; rw [IntKind.wrap_i64]; have := (sumL l).toNat_lt; omega), by assumption⟩
end Go.Proofs.Ytppbcdcmpcagdaa
