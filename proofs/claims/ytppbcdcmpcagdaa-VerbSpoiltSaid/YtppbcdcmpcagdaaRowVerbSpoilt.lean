/- The row of the law VerbSpoilt, out of its walk: the frame is the guide's own; written by a program (wip/tools/frame.py). -/
import Derived.Test.YtppbcdcmpcagdaaRows
import Derived.Test.YtppbcdcmpcagdaaInit
import Derived.Test.YtppbcdcmpcagdaaWalkVerbSpoilt
import Derived.WalkKit
import Derived.ProofKit
import Derived.OpenShut
import Derived.ShutString
import Derived.ChangeOld
import Derived.Below
import Derived.SizedLaws
import Derived.Test.YtppbcdcmpcagdaaSized
import Derived.Test.YtppbcdcmpcagdaaOpens
import Derived.Test.YtppbcdcmpcagdaaVerbOV
namespace Go.Proofs.Ytppbcdcmpcagdaa.verbSpoilt
open Go.ChangeShapes Go.WideShapes Go.ChangeAt Go.RowKit Go.CP
open Go.ChangeMaps (open_string shut_string)
set_option linter.unusedVariables false
theorem own : ownKnob Try.prog.godebug = none := by kernel_rfl
theorem laidOut : laidOutB Try.prog = true := by kernel_rfl
set_option maxRecDepth 100000 in
theorem lifted (os : Os) (started : os.Started) (H : Type) (enc : TypeId × Value → H) :
    ReturnsInHanded {} Try.checked os 25 .any (Rows.verbSpoiltSpec.pre6 enc Try.prog Try.f25 Rows.verbSpoiltRow.domain false) (Rows.verbSpoiltSpec.post enc Try.prog Try.f25 false true false false) := by
  refine returnsInHanded_of_change_sized (C := Try.checked) own started (by kernel_rfl) Try.func25
    (ChangeSpec.witness6 (enc := enc) (C := Try.checked) false ⟨#[], #[.agg #[.int .i64 0, .int .i64 0, .int .i64 0, .int .i64 0, .int .i64 0, .string ByteArray.empty, .string ByteArray.empty, .int .i64 0, .int .i64 0, .int .i64 0, .int .i64 0, .int .i64 0, .slice none 0 0], .int .u16 0, .int .u16 0, .slice none 0 0], []⟩ 8 (by kernel_rfl) (by kernel_rfl) (by kernel_rfl) (by kernel_rfl)) ?_
  intro W base args ds gs before hval0 hW hcnd hsz0 _
  have hsz : (DataW.weightsEach Try.prog (Try.f25.params.toList ++ Rows.verbSpoiltSpec.plain.varTypes Try.prog) (ds ++ gs)).all (· ≤ reachBytes) = true := hsz0
  have hval : ∀ (j : Nat) t v, Try.f25.params[j]? = some t → args[j]? = some v → Value.okWide Try.prog W .any base t v := hval0
  have hW' := hW
  obtain ⟨p, q, hA0, hV, rfl, hfz, hnd⟩ := hW
  have hA : DataW.TrodAll enc Try.prog W 0 (fun _ => true) true Try.f25.params.toList args.toList ds p := hA0
  rw [Try.params25] at hA hval hsz
  obtain ⟨v0, vs0, d0, ds0, p0, q0, hargs, rfl, rfl, h0, r0⟩ := trodAll_cons hA
  obtain ⟨v1, vs1, d1, ds1, p1, q1, rfl, rfl, rfl, h1, r1⟩ := trodAll_cons r0
  obtain ⟨v2, vs2, d2, ds2, p2, q2, rfl, rfl, rfl, h2, r2⟩ := trodAll_cons r1
  obtain ⟨v3, vs3, d3, ds3, p3, q3, rfl, rfl, rfl, h3, r3⟩ := trodAll_cons r2
  obtain ⟨rfl, rfl, rfl⟩ := trodAll_nil r3
  obtain rfl : args = #[v0, v1, v2, v3] := by cases args; simp_all
  obtain ⟨rfl, rfl⟩ := trodVars_none hV
  have k0 := h0
  have lt0 : ∀ x ∈ p0, x.block < W.heap.size := by obtain ⟨m, hm⟩ := k0; exact DataW.trod_lt m _ _ _ hm
  obtain ⟨x0, A0, c0, rfl, s0⟩ := verb_cells (hval 0 100 v0 rfl rfl) h0
  obtain ⟨a1, rfl, rfl, rfl, w1⟩ := open_int Try.underlying53 (hval 1 53 v1 rfl rfl) h1
  obtain ⟨a2, rfl, rfl, rfl, w2⟩ := open_int Try.underlying53 (hval 2 53 v2 rfl rfl) h2
  obtain ⟨a3, len3, cap3, rfl⟩ := okWide_slice Try.underlying22 (hval 3 22 v3 rfl rfl)
  have k3 := h3
  have lt3 : ∀ x ∈ p3, x.block < W.heap.size := by obtain ⟨m, hm⟩ := k3; exact DataW.trod_lt m _ _ _ hm
  obtain ⟨z3, w3⟩ : ∃ zs, IsRow .u8 W a3 len3 cap3 zs := by
    obtain ⟨fuel, hf⟩ := h3
    rcases open_ints Try.underlying22 Try.underlying5 (by kernel_rfl) hf with ⟨hcs, _⟩ | ⟨x, l, c, zs, hcs, _, hl, hm, hz, _, hcell, hwz⟩
    · simp [Value.cells] at hcs
      obtain ⟨rfl, rfl, rfl⟩ := hcs
      exact ⟨[], .inl ⟨rfl, rfl, rfl, rfl⟩⟩
    · simp [Value.cells] at hcs
      obtain ⟨rfl, rfl, rfl⟩ := hcs
      exact ⟨zs, .inr ⟨_, rfl, hl, hm, by simpa using hz, hcell, hwz⟩⟩
  have y3 : len3 * 1 ≤ 140737488351232 := sized_ints hsz (j := 3) (t := 22) rfl rfl Try.underlying22 Try.underlying5 (by kernel_rfl) (by kernel_rfl) h3
  obtain ⟨l3, e3, c3, m3, s3⟩ := w3.bytes
  subst e3
  clear hA0 hval0 hsz0 hsz
  refine (verbSpoilt_walk W x0 A0 c0 a1 a2 a3 l3 cap3 s0 (wf_u16_iff w1) (wf_u16_iff w2) s3 c3 (by omega)).mono fun e W' ⟨he, bel⟩ => ?_
  subst he
  exact ⟨_, rfl, _, _, _, [], _, [], hW', trodAll_mk1 (shut_bool Try.underlying4 _), (trodAll_cons_mk (Below.trod laidOut (by kernel_rfl) (of_decide_eq_true (by kernel_rfl)) k0 bel lt0) (trodAll_cons_mk (shut_int Try.underlying53 w1) (trodAll_cons_mk (shut_int Try.underlying53 w2) (trodAll_cons_mk (Below.trod laidOut (by kernel_rfl) (of_decide_eq_true (by kernel_rfl)) k3 bel lt3) trodAll_mk0)))), rfl, bel.frame _, fun h => by cases h⟩
set_option maxRecDepth 100000 in
theorem closed : joinedFacts Try.prog 25 Try.f25 Rows.verbSpoiltSpec Rows.verbSpoiltRow = true := by
  unfold joinedFacts
  refine and_true ?_ (by kernel_rfl)
  refine and_true ?_ (by kernel_rfl)
  refine and_true ?_ (by kernel_rfl)
  refine and_true ?_ (by kernel_rfl)
  refine and_true ?_ (make_limb make_eq rfl)
  refine and_true ?_ (lift_limb lifts_eq rfl)
  refine and_true ?_ mayEnter_eq
  refine and_true ?_ (by kernel_rfl)
  refine and_true ?_ (by kernel_rfl)
  refine and_true ?_ (by kernel_rfl)
  refine and_true ?_ (by kernel_rfl)
  refine and_true ?_ (by kernel_rfl)
  refine and_true ?_ (by kernel_rfl)
  refine and_true ?_ (by kernel_rfl)
  refine and_true ?_ (by kernel_rfl)
  refine and_true ?_ (by kernel_rfl)
  refine and_true ?_ (by kernel_rfl)
  refine and_true ?_ (by kernel_rfl)
  refine and_true ?_ (by kernel_rfl)
  refine and_true ?_ (by kernel_rfl)
  refine and_true ?_ (by kernel_rfl)
  refine and_true ?_ (by kernel_rfl)
  refine and_true ?_ (by kernel_rfl)
  refine and_true ?_ (by kernel_rfl)
  refine and_true ?_ (by kernel_rfl)
  refine and_true ?_ (by kernel_rfl)
  refine and_true ?_ (by kernel_rfl)
  refine and_true ?_ (by kernel_rfl)
  refine and_true ?_ (by kernel_rfl)
  refine and_true ?_ (by kernel_rfl)
  refine and_true ?_ (by kernel_rfl)
  kernel_rfl
theorem over : Rows.verbSpoiltRow.holds Try.pinned (OpenSpec.ofChange Rows.verbSpoiltSpec) :=
  OpenClaim.holds_of_wide 25 Try.f25 rfl rfl rfl rfl rfl rfl rfl ⟨rfl, rfl, rfl, rfl, rfl⟩ rfl rfl rfl rfl rfl (by kernel_rfl) Try.func25 closed
    (of_decide_eq_true (by kernel_rfl)) (by unfold Func.isWrapper; first | (rw [if_pos (by decide +kernel)]; kernel_rfl) | (rw [if_neg (by decide +kernel)]; exact ⟨rfl, rfl⟩))
    (fun os started H enc _ => lifted os started H enc)
end Go.Proofs.Ytppbcdcmpcagdaa.verbSpoilt
namespace Go.Proofs.Ytppbcdcmpcagdaa
theorem verbSpoilt_holds : Rows.VerbSpoiltSaid := verbSpoilt.over
#print axioms verbSpoilt_holds
end Go.Proofs.Ytppbcdcmpcagdaa
