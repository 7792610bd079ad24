/- The row of the law NodeApart, out of its walk: the frame is the guide's own; written by a program (wip/tools/frame.py). -/
import Derived.Test.YtppbcdcmpcagdaaRows
import Derived.Test.YtppbcdcmpcagdaaInit
import Derived.Test.YtppbcdcmpcagdaaWalkNodeApart
import Derived.WalkKit
import Derived.ProofKit
import Derived.OpenShut
import Derived.ShutString
import Derived.ChangeOld
import Derived.Below
import Derived.SizedLaws
import Derived.Test.YtppbcdcmpcagdaaSized
import Derived.Test.YtppbcdcmpcagdaaOpens
import Derived.Test.YtppbcdcmpcagdaaNodeO
namespace Go.Proofs.Ytppbcdcmpcagdaa.nodeApart
open Go.ChangeShapes Go.WideShapes Go.ChangeAt Go.RowKit Go.CP
open Go.ChangeMaps (open_string shut_string)
set_option linter.unusedVariables false
theorem own : ownKnob Try.prog.godebug = none := by kernel_rfl
theorem laidOut : laidOutB Try.prog = true := by kernel_rfl
set_option maxRecDepth 100000 in
theorem lifted (os : Os) (started : os.Started) (H : Type) (enc : TypeId × Value → H) :
    ReturnsInHanded {} Try.checked os 21 .any (Rows.nodeApartSpec.pre6 enc Try.prog Try.f21 Rows.nodeApartRow.domain false) (Rows.nodeApartSpec.post enc Try.prog Try.f21 false true false false) := by
  refine returnsInHanded_of_change_sized (C := Try.checked) own started (by kernel_rfl) Try.func21
    (ChangeSpec.witness6 (enc := enc) (C := Try.checked) false ⟨#[], #[.agg #[.int .i64 0, .int .i64 0, .int .i64 0, .int .i64 0, .int .i64 0, .int .i64 0, .int .i64 0, .int .i64 0, .int .i64 0, .int .i64 0, .int .i64 0], .agg #[.int .i64 0, .int .i64 0, .int .i64 0, .int .i64 0, .int .i64 0, .int .i64 0, .int .i64 0, .int .i64 0, .int .i64 0, .int .i64 0, .int .i64 0], .int .u8 0, .int .u8 0, .int .u8 0], []⟩ 8 (by kernel_rfl) (by kernel_rfl) (by kernel_rfl) (by kernel_rfl)) ?_
  intro W base args ds gs before hval0 hW hcnd hsz0 _
  have hsz : (DataW.weightsEach Try.prog (Try.f21.params.toList ++ Rows.nodeApartSpec.plain.varTypes Try.prog) (ds ++ gs)).all (· ≤ reachBytes) = true := hsz0
  have hval : ∀ (j : Nat) t v, Try.f21.params[j]? = some t → args[j]? = some v → Value.okWide Try.prog W .any base t v := hval0
  have hW' := hW
  obtain ⟨p, q, hA0, hV, rfl, hfz, hnd⟩ := hW
  have hA : DataW.TrodAll enc Try.prog W 0 (fun _ => true) true Try.f21.params.toList args.toList ds p := hA0
  rw [Try.params21] at hA hval hsz
  obtain ⟨v0, vs0, d0, ds0, p0, q0, hargs, rfl, rfl, h0, r0⟩ := trodAll_cons hA
  obtain ⟨v1, vs1, d1, ds1, p1, q1, rfl, rfl, rfl, h1, r1⟩ := trodAll_cons r0
  obtain ⟨v2, vs2, d2, ds2, p2, q2, rfl, rfl, rfl, h2, r2⟩ := trodAll_cons r1
  obtain ⟨v3, vs3, d3, ds3, p3, q3, rfl, rfl, rfl, h3, r3⟩ := trodAll_cons r2
  obtain ⟨v4, vs4, d4, ds4, p4, q4, rfl, rfl, rfl, h4, r4⟩ := trodAll_cons r3
  obtain ⟨rfl, rfl, rfl⟩ := trodAll_nil r4
  obtain rfl : args = #[v0, v1, v2, v3, v4] := by cases args; simp_all
  obtain ⟨rfl, rfl⟩ := trodVars_none hV
  have k0 := h0
  have lt0 : ∀ x ∈ p0, x.block < W.heap.size := by obtain ⟨m, hm⟩ := k0; exact DataW.trod_lt m _ _ _ hm
  obtain ⟨x0, rfl⟩ := node_cells (hval 0 84 v0 rfl rfl) h0
  have k1 := h1
  have lt1 : ∀ x ∈ p1, x.block < W.heap.size := by obtain ⟨m, hm⟩ := k1; exact DataW.trod_lt m _ _ _ hm
  obtain ⟨x1, rfl⟩ := node_cells (hval 1 84 v1 rfl rfl) h1
  obtain ⟨a2, rfl, rfl, rfl, w2⟩ := open_int Try.underlying5 (hval 2 5 v2 rfl rfl) h2
  obtain ⟨a3, rfl, rfl, rfl, w3⟩ := open_int Try.underlying5 (hval 3 5 v3 rfl rfl) h3
  obtain ⟨a4, rfl, rfl, rfl, w4⟩ := open_int Try.underlying5 (hval 4 5 v4 rfl rfl) h4
  clear hA0 hval0 hsz0 hsz
  refine (nodeApart_walk W x0 x1 a2 a3 a4 (wf_u8_iff w2) (wf_u8_iff w3) (wf_u8_iff w4)).mono fun e W' ⟨he, bel⟩ => ?_
  subst he
  exact ⟨_, rfl, _, _, _, [], _, [], hW', trodAll_mk1 (shut_bool Try.underlying4 _), (trodAll_cons_mk (Below.trod laidOut (by kernel_rfl) (of_decide_eq_true (by kernel_rfl)) k0 bel lt0) (trodAll_cons_mk (Below.trod laidOut (by kernel_rfl) (of_decide_eq_true (by kernel_rfl)) k1 bel lt1) (trodAll_cons_mk (shut_int Try.underlying5 w2) (trodAll_cons_mk (shut_int Try.underlying5 w3) (trodAll_cons_mk (shut_int Try.underlying5 w4) trodAll_mk0))))), rfl, bel.frame _, fun h => by cases h⟩
set_option maxRecDepth 100000 in
theorem closed : joinedFacts Try.prog 21 Try.f21 Rows.nodeApartSpec Rows.nodeApartRow = true := by
  unfold joinedFacts
  refine and_true ?_ (by kernel_rfl)
  refine and_true ?_ (by kernel_rfl)
  refine and_true ?_ (by kernel_rfl)
  refine and_true ?_ (by kernel_rfl)
  refine and_true ?_ (make_limb make_eq rfl)
  refine and_true ?_ (lift_limb lifts_eq rfl)
  refine and_true ?_ mayEnter_eq
  refine and_true ?_ (by kernel_rfl)
  refine and_true ?_ (by kernel_rfl)
  refine and_true ?_ (by kernel_rfl)
  refine and_true ?_ (by kernel_rfl)
  refine and_true ?_ (by kernel_rfl)
  refine and_true ?_ (by kernel_rfl)
  refine and_true ?_ (by kernel_rfl)
  refine and_true ?_ (by kernel_rfl)
  refine and_true ?_ (by kernel_rfl)
  refine and_true ?_ (by kernel_rfl)
  refine and_true ?_ (by kernel_rfl)
  refine and_true ?_ (by kernel_rfl)
  refine and_true ?_ (by kernel_rfl)
  refine and_true ?_ (by kernel_rfl)
  refine and_true ?_ (by kernel_rfl)
  refine and_true ?_ (by kernel_rfl)
  refine and_true ?_ (by kernel_rfl)
  refine and_true ?_ (by kernel_rfl)
  refine and_true ?_ (by kernel_rfl)
  refine and_true ?_ (by kernel_rfl)
  refine and_true ?_ (by kernel_rfl)
  refine and_true ?_ (by kernel_rfl)
  refine and_true ?_ (by kernel_rfl)
  refine and_true ?_ (by kernel_rfl)
  kernel_rfl
theorem over : Rows.nodeApartRow.holds Try.pinned (OpenSpec.ofChange Rows.nodeApartSpec) :=
  OpenClaim.holds_of_wide 21 Try.f21 rfl rfl rfl rfl rfl rfl rfl ⟨rfl, rfl, rfl, rfl, rfl⟩ rfl rfl rfl rfl rfl (by kernel_rfl) Try.func21 closed
    (of_decide_eq_true (by kernel_rfl)) (by unfold Func.isWrapper; first | (rw [if_pos (by decide +kernel)]; kernel_rfl) | (rw [if_neg (by decide +kernel)]; exact ⟨rfl, rfl⟩))
    (fun os started H enc _ => lifted os started H enc)
end Go.Proofs.Ytppbcdcmpcagdaa.nodeApart
namespace Go.Proofs.Ytppbcdcmpcagdaa
theorem nodeApart_holds : Rows.NodeApartSaid := nodeApart.over
#print axioms nodeApart_holds
end Go.Proofs.Ytppbcdcmpcagdaa
