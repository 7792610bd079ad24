/- Contract of the reference's Good of a request. -/
import Derived.Test.YtppbcdcmpcagdaaVerb7a
import Derived.Test.YtppbcdcmpcagdaaVerb7b
import Derived.Test.YtppbcdcmpcagdaaVerb7c
namespace Go.Proofs.Ytppbcdcmpcagdaa
open Go.RowKit Go.CP

theorem rvgood_any (v : Vb) (A : Option Addr) (c : Nat) (w : World) : Calls Try.prog 83 #[vval v A c] w fun e w' => e = .returned (.bool (goodV v)) ∧ Below w.heap.size w w' := by
  cases hp : preR v with
  | false =>
    rw [goodV_pre, hp, Bool.false_and]
    exact rgood_no v A c w hp
  | true =>
    have hk : 1 ≤ v.kind ∧ v.kind ≤ 15 := by
      rw [preR] at hp
      simp only [Bool.and_eq_true, decide_eq_true_eq] at hp
      exact hp.2
    obtain ⟨kind, seat, life, seq, epoch, path, other, node, gen, pos, size, mode, data⟩ := v
    dsimp only at hk
    have h : kind = 1 ∨ kind = 2 ∨ kind = 3 ∨ kind = 4 ∨ kind = 5 ∨ kind = 6 ∨ kind = 7 ∨ kind = 8 ∨ kind = 9 ∨ kind = 10 ∨ kind = 11 ∨ kind = 12 ∨ kind = 13 ∨ kind = 14 ∨ kind = 15 := by omega
    rcases h with rfl | rfl | rfl | rfl | rfl | rfl | rfl | rfl | rfl | rfl | rfl | rfl | rfl | rfl | rfl
    · exact rgood_1 seat life seq epoch path other node gen pos size mode data A c w hp
    · exact rgood_2 seat life seq epoch path other node gen pos size mode data A c w hp
    · exact rgood_3 seat life seq epoch path other node gen pos size mode data A c w hp
    · exact rgood_4 seat life seq epoch path other node gen pos size mode data A c w hp
    · exact rgood_5 seat life seq epoch path other node gen pos size mode data A c w hp
    · exact rgood_6 seat life seq epoch path other node gen pos size mode data A c w hp
    · exact rgood_7 seat life seq epoch path other node gen pos size mode data A c w hp
    · exact rgood_8 seat life seq epoch path other node gen pos size mode data A c w hp
    · exact rgood_9 seat life seq epoch path other node gen pos size mode data A c w hp
    · exact rgood_10 seat life seq epoch path other node gen pos size mode data A c w hp
    · exact rgood_11 seat life seq epoch path other node gen pos size mode data A c w hp
    · exact rgood_12 seat life seq epoch path other node gen pos size mode data A c w hp
    · exact rgood_13 seat life seq epoch path other node gen pos size mode data A c w hp
    · exact rgood_14 seat life seq epoch path other node gen pos size mode data A c w hp
    · exact rgood_15 seat life seq epoch path other node gen pos size mode data A c w hp
end Go.Proofs.Ytppbcdcmpcagdaa
