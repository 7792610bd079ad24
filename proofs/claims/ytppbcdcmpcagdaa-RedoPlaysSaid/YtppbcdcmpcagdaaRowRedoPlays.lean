/- The row of the law RedoPlays, out of its walk: the frame is the guide's own; written by a program (wip/tools/frame.py). -/
import Derived.Test.YtppbcdcmpcagdaaRows
import Derived.Test.YtppbcdcmpcagdaaInit
import Derived.Test.YtppbcdcmpcagdaaWalkRedoPlays
import Derived.WalkKit
import Derived.ProofKit
import Derived.OpenShut
import Derived.ShutString
import Derived.ChangeOld
import Derived.Below
import Derived.SizedLaws
import Derived.Test.YtppbcdcmpcagdaaSized
import Derived.Test.YtppbcdcmpcagdaaOpens
namespace Go.Proofs.Ytppbcdcmpcagdaa.redoPlays
open Go.ChangeShapes Go.WideShapes Go.ChangeAt Go.RowKit Go.CP
open Go.ChangeMaps (open_string shut_string)
set_option linter.unusedVariables false
theorem own : ownKnob Try.prog.godebug = none := by kernel_rfl
theorem laidOut : laidOutB Try.prog = true := by kernel_rfl
set_option maxRecDepth 100000 in
theorem lifted (os : Os) (started : os.Started) (H : Type) (enc : TypeId × Value → H) :
    ReturnsInHanded {} Try.checked os 38 .any (Rows.redoPlaysSpec.pre6 enc Try.prog Try.f38 Rows.redoPlaysRow.domain false) (Rows.redoPlaysSpec.post enc Try.prog Try.f38 false true false false) := by
  refine returnsInHanded_of_change_sized (C := Try.checked) own started (by kernel_rfl) Try.func38
    (ChangeSpec.witness6 (enc := enc) (C := Try.checked) false ⟨#[], #[.int .u16 0, .slice none 0 0], []⟩ 8 (by kernel_rfl) (by kernel_rfl) (by kernel_rfl) (by kernel_rfl)) ?_
  intro W base args ds gs before hval0 hW hcnd hsz0 _
  have hsz : (DataW.weightsEach Try.prog (Try.f38.params.toList ++ Rows.redoPlaysSpec.plain.varTypes Try.prog) (ds ++ gs)).all (· ≤ reachBytes) = true := hsz0
  have hval : ∀ (j : Nat) t v, Try.f38.params[j]? = some t → args[j]? = some v → Value.okWide Try.prog W .any base t v := hval0
  have hW' := hW
  obtain ⟨p, q, hA0, hV, rfl, hfz, hnd⟩ := hW
  have hA : DataW.TrodAll enc Try.prog W 0 (fun _ => true) true Try.f38.params.toList args.toList ds p := hA0
  rw [Try.params38] at hA hval hsz
  obtain ⟨v0, vs0, d0, ds0, p0, q0, hargs, rfl, rfl, h0, r0⟩ := trodAll_cons hA
  obtain ⟨v1, vs1, d1, ds1, p1, q1, rfl, rfl, rfl, h1, r1⟩ := trodAll_cons r0
  obtain ⟨rfl, rfl, rfl⟩ := trodAll_nil r1
  obtain rfl : args = #[v0, v1] := by cases args; simp_all
  obtain ⟨rfl, rfl⟩ := trodVars_none hV
  obtain ⟨a0, rfl, rfl, rfl, w0⟩ := open_int Try.underlying53 (hval 0 53 v0 rfl rfl) h0
  obtain ⟨a1, len1, cap1, rfl⟩ := okWide_slice Try.underlying172 (hval 1 172 v1 rfl rfl)
  have k1 := h1
  have lt1 : ∀ x ∈ p1, x.block < W.heap.size := by obtain ⟨m, hm⟩ := k1; exact DataW.trod_lt m _ _ _ hm
  obtain ⟨m1, hm1⟩ := h1
  obtain ⟨A1, s1, c1, e1, y1, t1, z1⟩ := open_stepsF (x := (d1, p1)) Try.underlying172 Try.underlying176 (by kernel_rfl) (by kernel_rfl) (by simp) (of_decide_eq_true (by kernel_rfl)) hm1 (fits_arg hsz (j := 1) (t := 172) rfl rfl)
  obtain ⟨rfl, rfl, rfl⟩ : a1 = A1 ∧ len1 = s1.length ∧ cap1 = c1 := by injection e1 with x1 x2 x3; exact ⟨x1, x2, x3⟩
  clear hA0 hval0 hsz0 hsz
  refine (redoPlays_walk W a0 a1 s1 cap1 (wf_u16_iff w0) t1 y1 z1).mono fun e W' ⟨he, bel⟩ => ?_
  subst he
  exact ⟨_, rfl, _, _, _, [], _, [], hW', trodAll_mk1 (shut_bool Try.underlying4 _), (trodAll_cons_mk (shut_int Try.underlying53 w0) (trodAll_cons_mk (Below.trod laidOut (by kernel_rfl) (of_decide_eq_true (by kernel_rfl)) k1 bel lt1) trodAll_mk0)), rfl, bel.frame _, fun h => by cases h⟩
set_option maxRecDepth 100000 in
theorem closed : joinedFacts Try.prog 38 Try.f38 Rows.redoPlaysSpec Rows.redoPlaysRow = true := by
  unfold joinedFacts
  refine and_true ?_ (by kernel_rfl)
  refine and_true ?_ (by kernel_rfl)
  refine and_true ?_ (by kernel_rfl)
  refine and_true ?_ (by kernel_rfl)
  refine and_true ?_ (make_limb make_eq rfl)
  refine and_true ?_ (lift_limb lifts_eq rfl)
  refine and_true ?_ mayEnter_eq
  refine and_true ?_ (by kernel_rfl)
  refine and_true ?_ (by kernel_rfl)
  refine and_true ?_ (by kernel_rfl)
  refine and_true ?_ (by kernel_rfl)
  refine and_true ?_ (by kernel_rfl)
  refine and_true ?_ (by kernel_rfl)
  refine and_true ?_ (by kernel_rfl)
  refine and_true ?_ (by kernel_rfl)
  refine and_true ?_ (by kernel_rfl)
  refine and_true ?_ (by kernel_rfl)
  refine and_true ?_ (by kernel_rfl)
  refine and_true ?_ (by kernel_rfl)
  refine and_true ?_ (by kernel_rfl)
  refine and_true ?_ (by kernel_rfl)
  refine and_true ?_ (by kernel_rfl)
  refine and_true ?_ (by kernel_rfl)
  refine and_true ?_ (by kernel_rfl)
  refine and_true ?_ (by kernel_rfl)
  refine and_true ?_ (by kernel_rfl)
  refine and_true ?_ (by kernel_rfl)
  refine and_true ?_ (by kernel_rfl)
  refine and_true ?_ (by kernel_rfl)
  refine and_true ?_ (by kernel_rfl)
  refine and_true ?_ (by kernel_rfl)
  kernel_rfl
theorem over : Rows.redoPlaysRow.holds Try.pinned (OpenSpec.ofChange Rows.redoPlaysSpec) :=
  OpenClaim.holds_of_wide 38 Try.f38 rfl rfl rfl rfl rfl rfl rfl ⟨rfl, rfl, rfl, rfl, rfl⟩ rfl rfl rfl rfl rfl (by kernel_rfl) Try.func38 closed
    (of_decide_eq_true (by kernel_rfl)) (by unfold Func.isWrapper; first | (rw [if_pos (by decide +kernel)]; kernel_rfl) | (rw [if_neg (by decide +kernel)]; exact ⟨rfl, rfl⟩))
    (fun os started H enc _ => lifted os started H enc)
end Go.Proofs.Ytppbcdcmpcagdaa.redoPlays
namespace Go.Proofs.Ytppbcdcmpcagdaa
theorem redoPlays_holds : Rows.RedoPlaysSaid := redoPlays.over
#print axioms redoPlays_holds
end Go.Proofs.Ytppbcdcmpcagdaa
