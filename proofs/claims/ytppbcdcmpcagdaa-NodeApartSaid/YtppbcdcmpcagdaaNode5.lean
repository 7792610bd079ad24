/- Plain laws: the bounds of a sound node's numbers; a node's bytes. -/
import Derived.Test.YtppbcdcmpcagdaaNode4
namespace Go.Proofs.Ytppbcdcmpcagdaa
open Go.RowKit Go.CP

/-- A node of naturals. -/
def nodN (k l g s c d0 d1 d2 d3 o t : Nat) : Nod := ⟨k, l, g, s, c, d0, d1, d2, d3, o, t⟩
theorem ptrB_bound {n : Int} (h : ptrB n = true) : 0 ≤ n ∧ n ≤ 1023 := by
  simp [ptrB] at h
  omega
theorem badB_all {l : List Int} (h : badB l = false) : ∀ n ∈ l, ptrB n = true := by
  intro n hn
  unfold badB at h
  rw [List.any_eq_false] at h
  simpa using h n hn
theorem sound_bounds {x : Nod} (h : soundN x = true) : (0 ≤ x.k ∧ x.k ≤ 2) ∧ (0 ≤ x.l ∧ x.l ≤ 255) ∧ (0 ≤ x.g ∧ x.g ≤ 1073741824) ∧ (0 ≤ x.s ∧ x.s ≤ 9728) ∧ (0 ≤ x.c ∧ x.c ≤ 1073741824) ∧
    (∀ n ∈ ptrsL x, 0 ≤ n ∧ n ≤ 1023) := by
  simp only [soundN, Bool.and_eq_true, Bool.not_eq_true'] at h
  obtain ⟨⟨⟨h1, h2⟩, h3⟩, h4⟩ := h
  simp only [genB, Bool.or_eq_false_iff, decide_eq_false_iff_not] at h1 h2
  unfold kindB at h4
  refine ⟨?_, ?_, by omega, ?_, by omega, fun n hn => ptrB_bound (badB_all h3 n hn)⟩ <;>
  · split at h4
    · simp at h4; omega
    · split at h4
      · simp at h4; omega
      · split at h4
        · simp at h4; omega
        · cases h4
/-- A node as bytes. -/
def headL (k l g s c : Nat) : List UInt8 := little k 1 ++ little l 1 ++ little g 4 ++ little s 4 ++ little c 4
def nodL (k l g s c : Nat) (p : List Nat) : List UInt8 := headL k l g s c ++ p.flatMap (little · 2) ++ List.replicate 6 0
theorem headL_len (k l g s c : Nat) : (headL k l g s c).length = 14 := by simp [headL, little_len]
theorem flat_len (p : List Nat) : (p.flatMap (little · 2)).length = 2 * p.length := by
  induction p with
  | nil => rfl
  | cons n p ih => rw [List.flatMap_cons, List.length_append, little_len, ih, List.length_cons]; omega
theorem nodL_len (k l g s c : Nat) (p : List Nat) (h : p.length = 6) : (nodL k l g s c p).length = 32 := by
  rw [nodL, List.length_append, List.length_append, headL_len, flat_len, h, List.length_replicate]
end Go.Proofs.Ytppbcdcmpcagdaa
