/- The row of the law VerbAnswers, out of its walk: the frame is the guide's own; written by a program (wip/tools/frame.py). -/
import Derived.Test.YtppbcdcmpcagdaaRows
import Derived.Test.YtppbcdcmpcagdaaInit
import Derived.Test.YtppbcdcmpcagdaaWalkVerbAnswers
import Derived.WalkKit
import Derived.ProofKit
import Derived.OpenShut
import Derived.ShutString
import Derived.ChangeOld
import Derived.Below
import Derived.SizedLaws
import Derived.Test.YtppbcdcmpcagdaaSized
import Derived.Test.YtppbcdcmpcagdaaOpens
import Derived.Test.YtppbcdcmpcagdaaVerbOR
namespace Go.Proofs.Ytppbcdcmpcagdaa.verbAnswers
open Go.ChangeShapes Go.WideShapes Go.ChangeAt Go.RowKit Go.CP
open Go.ChangeMaps (open_string shut_string)
set_option linter.unusedVariables false
theorem own : ownKnob Try.prog.godebug = none := by kernel_rfl
theorem laidOut : laidOutB Try.prog = true := by kernel_rfl
set_option maxRecDepth 100000 in
theorem lifted (os : Os) (started : os.Started) (H : Type) (enc : TypeId × Value → H) :
    ReturnsInHanded {} Try.checked os 24 .any (Rows.verbAnswersSpec.pre6 enc Try.prog Try.f24 Rows.verbAnswersRow.domain false) (Rows.verbAnswersSpec.post enc Try.prog Try.f24 false true false false) := by
  refine returnsInHanded_of_change_sized (C := Try.checked) own started (by kernel_rfl) Try.func24
    (ChangeSpec.witness6 (enc := enc) (C := Try.checked) false ⟨#[], #[.agg #[.int .i64 0, .int .i64 0, .int .i64 0, .int .i64 0, .int .i64 0, .int .i64 0, .int .i64 0, .int .i64 0, .int .i64 0, .int .i64 0, .slice none 0 0, .slice none 0 0], .slice none 0 0], []⟩ 8 (by kernel_rfl) (by kernel_rfl) (by kernel_rfl) (by kernel_rfl)) ?_
  intro W base args ds gs before hval0 hW hcnd hsz0 _
  have hsz : (DataW.weightsEach Try.prog (Try.f24.params.toList ++ Rows.verbAnswersSpec.plain.varTypes Try.prog) (ds ++ gs)).all (· ≤ reachBytes) = true := hsz0
  have hval : ∀ (j : Nat) t v, Try.f24.params[j]? = some t → args[j]? = some v → Value.okWide Try.prog W .any base t v := hval0
  have hW' := hW
  obtain ⟨p, q, hA0, hV, rfl, hfz, hnd⟩ := hW
  have hA : DataW.TrodAll enc Try.prog W 0 (fun _ => true) true Try.f24.params.toList args.toList ds p := hA0
  rw [Try.params24] at hA hval hsz
  obtain ⟨v0, vs0, d0, ds0, p0, q0, hargs, rfl, rfl, h0, r0⟩ := trodAll_cons hA
  obtain ⟨v1, vs1, d1, ds1, p1, q1, rfl, rfl, rfl, h1, r1⟩ := trodAll_cons r0
  obtain ⟨rfl, rfl, rfl⟩ := trodAll_nil r1
  obtain rfl : args = #[v0, v1] := by cases args; simp_all
  obtain ⟨rfl, rfl⟩ := trodVars_none hV
  have k0 := h0
  have lt0 : ∀ x ∈ p0, x.block < W.heap.size := by obtain ⟨m, hm⟩ := k0; exact DataW.trod_lt m _ _ _ hm
  obtain ⟨x0, A0, c0, B0, d0, rfl, s0, t0⟩ := reply_cells (hval 0 112 v0 rfl rfl) h0
  obtain ⟨a1, len1, cap1, rfl⟩ := okWide_slice Try.underlying22 (hval 1 22 v1 rfl rfl)
  have k1 := h1
  have lt1 : ∀ x ∈ p1, x.block < W.heap.size := by obtain ⟨m, hm⟩ := k1; exact DataW.trod_lt m _ _ _ hm
  obtain ⟨z1, w1⟩ : ∃ zs, IsRow .u8 W a1 len1 cap1 zs := by
    obtain ⟨fuel, hf⟩ := h1
    rcases open_ints Try.underlying22 Try.underlying5 (by kernel_rfl) hf with ⟨hcs, _⟩ | ⟨x, l, c, zs, hcs, _, hl, hm, hz, _, hcell, hwz⟩
    · simp [Value.cells] at hcs
      obtain ⟨rfl, rfl, rfl⟩ := hcs
      exact ⟨[], .inl ⟨rfl, rfl, rfl, rfl⟩⟩
    · simp [Value.cells] at hcs
      obtain ⟨rfl, rfl, rfl⟩ := hcs
      exact ⟨zs, .inr ⟨_, rfl, hl, hm, by simpa using hz, hcell, hwz⟩⟩
  have y1 : len1 * 1 ≤ 140737488351232 := sized_ints hsz (j := 1) (t := 22) rfl rfl Try.underlying22 Try.underlying5 (by kernel_rfl) (by kernel_rfl) h1
  obtain ⟨l1, e1, c1, m1, s1⟩ := w1.bytes
  subst e1
  clear hA0 hval0 hsz0 hsz
  refine (verbAnswers_walk W x0 A0 c0 B0 d0 a1 l1 cap1 s0 t0 s1 c1 (by omega)).mono fun e W' ⟨he, bel⟩ => ?_
  subst he
  exact ⟨_, rfl, _, _, _, [], _, [], hW', trodAll_mk1 (shut_bool Try.underlying4 _), (trodAll_cons_mk (Below.trod laidOut (by kernel_rfl) (of_decide_eq_true (by kernel_rfl)) k0 bel lt0) (trodAll_cons_mk (Below.trod laidOut (by kernel_rfl) (of_decide_eq_true (by kernel_rfl)) k1 bel lt1) trodAll_mk0)), rfl, bel.frame _, fun h => by cases h⟩
set_option maxRecDepth 100000 in
theorem closed : joinedFacts Try.prog 24 Try.f24 Rows.verbAnswersSpec Rows.verbAnswersRow = true := by
  unfold joinedFacts
  refine and_true ?_ (by kernel_rfl)
  refine and_true ?_ (by kernel_rfl)
  refine and_true ?_ (by kernel_rfl)
  refine and_true ?_ (by kernel_rfl)
  refine and_true ?_ (make_limb make_eq rfl)
  refine and_true ?_ (lift_limb lifts_eq rfl)
  refine and_true ?_ mayEnter_eq
  refine and_true ?_ (by kernel_rfl)
  refine and_true ?_ (by kernel_rfl)
  refine and_true ?_ (by kernel_rfl)
  refine and_true ?_ (by kernel_rfl)
  refine and_true ?_ (by kernel_rfl)
  refine and_true ?_ (by kernel_rfl)
  refine and_true ?_ (by kernel_rfl)
  refine and_true ?_ (by kernel_rfl)
  refine and_true ?_ (by kernel_rfl)
  refine and_true ?_ (by kernel_rfl)
  refine and_true ?_ (by kernel_rfl)
  refine and_true ?_ (by kernel_rfl)
  refine and_true ?_ (by kernel_rfl)
  refine and_true ?_ (by kernel_rfl)
  refine and_true ?_ (by kernel_rfl)
  refine and_true ?_ (by kernel_rfl)
  refine and_true ?_ (by kernel_rfl)
  refine and_true ?_ (by kernel_rfl)
  refine and_true ?_ (by kernel_rfl)
  refine and_true ?_ (by kernel_rfl)
  refine and_true ?_ (by kernel_rfl)
  refine and_true ?_ (by kernel_rfl)
  refine and_true ?_ (by kernel_rfl)
  refine and_true ?_ (by kernel_rfl)
  kernel_rfl
theorem over : Rows.verbAnswersRow.holds Try.pinned (OpenSpec.ofChange Rows.verbAnswersSpec) :=
  OpenClaim.holds_of_wide 24 Try.f24 rfl rfl rfl rfl rfl rfl rfl ⟨rfl, rfl, rfl, rfl, rfl⟩ rfl rfl rfl rfl rfl (by kernel_rfl) Try.func24 closed
    (of_decide_eq_true (by kernel_rfl)) (by unfold Func.isWrapper; first | (rw [if_pos (by decide +kernel)]; kernel_rfl) | (rw [if_neg (by decide +kernel)]; exact ⟨rfl, rfl⟩))
    (fun os started H enc _ => lifted os started H enc)
end Go.Proofs.Ytppbcdcmpcagdaa.verbAnswers
namespace Go.Proofs.Ytppbcdcmpcagdaa
theorem verbAnswers_holds : Rows.VerbAnswersSaid := verbAnswers.over
#print axioms verbAnswers_holds
end Go.Proofs.Ytppbcdcmpcagdaa
