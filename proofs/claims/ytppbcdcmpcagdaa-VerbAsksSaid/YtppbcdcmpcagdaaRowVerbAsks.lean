/- The row of the law VerbAsks, out of its walk: the frame is the guide's own; written by a program (wip/tools/frame.py). -/
import Derived.Test.YtppbcdcmpcagdaaRows
import Derived.Test.YtppbcdcmpcagdaaInit
import Derived.Test.YtppbcdcmpcagdaaWalkVerbAsks
import Derived.WalkKit
import Derived.ProofKit
import Derived.OpenShut
import Derived.ShutString
import Derived.ChangeOld
import Derived.Below
import Derived.SizedLaws
import Derived.Test.YtppbcdcmpcagdaaSized
import Derived.Test.YtppbcdcmpcagdaaOpens
import Derived.Test.YtppbcdcmpcagdaaVerbOV
namespace Go.Proofs.Ytppbcdcmpcagdaa.verbAsks
open Go.ChangeShapes Go.WideShapes Go.ChangeAt Go.RowKit Go.CP
open Go.ChangeMaps (open_string shut_string)
set_option linter.unusedVariables false
theorem own : ownKnob Try.prog.godebug = none := by kernel_rfl
theorem laidOut : laidOutB Try.prog = true := by kernel_rfl
set_option maxRecDepth 100000 in
theorem lifted (os : Os) (started : os.Started) (H : Type) (enc : TypeId × Value → H) :
    ReturnsInHanded {} Try.checked os 22 .any (Rows.verbAsksSpec.pre6 enc Try.prog Try.f22 Rows.verbAsksRow.domain false) (Rows.verbAsksSpec.post enc Try.prog Try.f22 false true false false) := by
  refine returnsInHanded_of_change_sized (C := Try.checked) own started (by kernel_rfl) Try.func22
    (ChangeSpec.witness6 (enc := enc) (C := Try.checked) false ⟨#[], #[.agg #[.int .i64 0, .int .i64 0, .int .i64 0, .int .i64 0, .int .i64 0, .string ByteArray.empty, .string ByteArray.empty, .int .i64 0, .int .i64 0, .int .i64 0, .int .i64 0, .int .i64 0, .slice none 0 0], .int .i64 0], []⟩ 8 (by kernel_rfl) (by kernel_rfl) (by kernel_rfl) (by kernel_rfl)) ?_
  intro W base args ds gs before hval0 hW hcnd hsz0 _
  have hsz : (DataW.weightsEach Try.prog (Try.f22.params.toList ++ Rows.verbAsksSpec.plain.varTypes Try.prog) (ds ++ gs)).all (· ≤ reachBytes) = true := hsz0
  have hval : ∀ (j : Nat) t v, Try.f22.params[j]? = some t → args[j]? = some v → Value.okWide Try.prog W .any base t v := hval0
  have hW' := hW
  obtain ⟨p, q, hA0, hV, rfl, hfz, hnd⟩ := hW
  have hA : DataW.TrodAll enc Try.prog W 0 (fun _ => true) true Try.f22.params.toList args.toList ds p := hA0
  rw [Try.params22] at hA hval hsz
  obtain ⟨v0, vs0, d0, ds0, p0, q0, hargs, rfl, rfl, h0, r0⟩ := trodAll_cons hA
  obtain ⟨v1, vs1, d1, ds1, p1, q1, rfl, rfl, rfl, h1, r1⟩ := trodAll_cons r0
  obtain ⟨rfl, rfl, rfl⟩ := trodAll_nil r1
  obtain rfl : args = #[v0, v1] := by cases args; simp_all
  obtain ⟨rfl, rfl⟩ := trodVars_none hV
  have k0 := h0
  have lt0 : ∀ x ∈ p0, x.block < W.heap.size := by obtain ⟨m, hm⟩ := k0; exact DataW.trod_lt m _ _ _ hm
  obtain ⟨x0, A0, c0, rfl, s0⟩ := verb_cells (hval 0 100 v0 rfl rfl) h0
  obtain ⟨a1, rfl, rfl, rfl, w1⟩ := open_int Try.underlying3 (hval 1 3 v1 rfl rfl) h1
  clear hA0 hval0 hsz0 hsz
  refine (verbAsks_walk W x0 A0 c0 a1 s0 (wf_i64_iff w1)).mono fun e W' ⟨he, bel⟩ => ?_
  subst he
  exact ⟨_, rfl, _, _, _, [], _, [], hW', trodAll_mk1 (shut_bool Try.underlying4 _), (trodAll_cons_mk (Below.trod laidOut (by kernel_rfl) (of_decide_eq_true (by kernel_rfl)) k0 bel lt0) (trodAll_cons_mk (shut_int Try.underlying3 w1) trodAll_mk0)), rfl, bel.frame _, fun h => by cases h⟩
set_option maxRecDepth 100000 in
theorem closed : joinedFacts Try.prog 22 Try.f22 Rows.verbAsksSpec Rows.verbAsksRow = true := by
  unfold joinedFacts
  refine and_true ?_ (by kernel_rfl)
  refine and_true ?_ (by kernel_rfl)
  refine and_true ?_ (by kernel_rfl)
  refine and_true ?_ (by kernel_rfl)
  refine and_true ?_ (make_limb make_eq rfl)
  refine and_true ?_ (lift_limb lifts_eq rfl)
  refine and_true ?_ mayEnter_eq
  refine and_true ?_ (by kernel_rfl)
  refine and_true ?_ (by kernel_rfl)
  refine and_true ?_ (by kernel_rfl)
  refine and_true ?_ (by kernel_rfl)
  refine and_true ?_ (by kernel_rfl)
  refine and_true ?_ (by kernel_rfl)
  refine and_true ?_ (by kernel_rfl)
  refine and_true ?_ (by kernel_rfl)
  refine and_true ?_ (by kernel_rfl)
  refine and_true ?_ (by kernel_rfl)
  refine and_true ?_ (by kernel_rfl)
  refine and_true ?_ (by kernel_rfl)
  refine and_true ?_ (by kernel_rfl)
  refine and_true ?_ (by kernel_rfl)
  refine and_true ?_ (by kernel_rfl)
  refine and_true ?_ (by kernel_rfl)
  refine and_true ?_ (by kernel_rfl)
  refine and_true ?_ (by kernel_rfl)
  refine and_true ?_ (by kernel_rfl)
  refine and_true ?_ (by kernel_rfl)
  refine and_true ?_ (by kernel_rfl)
  refine and_true ?_ (by kernel_rfl)
  refine and_true ?_ (by kernel_rfl)
  refine and_true ?_ (by kernel_rfl)
  kernel_rfl
theorem over : Rows.verbAsksRow.holds Try.pinned (OpenSpec.ofChange Rows.verbAsksSpec) :=
  OpenClaim.holds_of_wide 22 Try.f22 rfl rfl rfl rfl rfl rfl rfl ⟨rfl, rfl, rfl, rfl, rfl⟩ rfl rfl rfl rfl rfl (by kernel_rfl) Try.func22 closed
    (of_decide_eq_true (by kernel_rfl)) (by unfold Func.isWrapper; first | (rw [if_pos (by decide +kernel)]; kernel_rfl) | (rw [if_neg (by decide +kernel)]; exact ⟨rfl, rfl⟩))
    (fun os started H enc _ => lifted os started H enc)
end Go.Proofs.Ytppbcdcmpcagdaa.verbAsks
namespace Go.Proofs.Ytppbcdcmpcagdaa
theorem verbAsks_holds : Rows.VerbAsksSaid := verbAsks.over
#print axioms verbAsks_holds
end Go.Proofs.Ytppbcdcmpcagdaa
