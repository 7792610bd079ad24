/- Plain laws of frames of which bytes are missing, that have some behind, or in which a bit was turned. -/
import Derived.Test.YtppbcdcmpcagdaaVerb1
namespace Go.Proofs.Ytppbcdcmpcagdaa
open Go.RowKit Go.CP

theorem decV_none {b : List UInt8} (h : openE b ≠ 0) : decV b = none := by
  have hb : (bodyT 81 b).2 = false := by unfold bodyT; rw [if_neg h]
  unfold decV
  rw [if_neg]
  rw [hb]
  intro hc
  exact absurd hc.1 (by decide)
theorem open_more (t : UInt8) (l : List UInt8) (h : l.length ≤ 65535) {m : List UInt8} (hm : m ≠ []) : openE (frameL t l ++ m) ≠ 0 := by
  intro he
  obtain ⟨-, h2, -⟩ := openE_zero he
  have hl := frameL_len t l
  have e : ((frameL t l ++ m).drop 1).take 2 = ((frameL t l).drop 1).take 2 := by
    rw [List.drop_append_of_le_length (by omega), List.take_append_of_le_length (by rw [List.length_drop]; omega)]
  rw [e, frame_num t l h, List.length_append, hl] at h2
  have := List.length_pos_iff.2 hm
  omega
theorem open_bit (t : UInt8) (l : List UInt8) {j m : Nat} {x : UInt8} (hx : (frameL t l)[j]? = some x) (hm : m < 8) : openE ((frameL t l).set j (x ^^^ (1 <<< UInt8.ofNat m))) ≠ 0 := by
  have hb := bigL_set hx hm
  have hj : j < (frameL t l).length := (List.getElem?_eq_some_iff.1 hx).1
  have hl := frameL_len t l
  by_cases hk : 8 * j + m + 32 ≤ 8 * (frameL t l).length
  · exact open_turned (u := 1) (k := 8 * j + m) (by rw [List.length_set]) (by rw [hb, Nat.one_mul]) (by decide) (by decide) hk
  · have hi : 8 * j + m - (8 * (frameL t l).length - 32) < 32 := by omega
    refine open_turned (u := 2 ^ (8 * j + m - (8 * (frameL t l).length - 32))) (k := 8 * (frameL t l).length - 32) (by rw [List.length_set]) ?_ (Nat.two_pow_pos _) ?_ (by omega)
    · rw [hb, ← Nat.pow_add, show 8 * j + m - (8 * (frameL t l).length - 32) + (8 * (frameL t l).length - 32) = 8 * j + m by omega]
    · exact Nat.lt_of_lt_of_eq (Nat.pow_lt_pow_right (by decide) hi) (by decide)
/-- The three spoilt frames of a request are none. -/
theorem spoilt_cut {v : Vb} (h : goodV v = true) {k : Nat} (hk : k < (frameL 81 (reqL v)).length) : decV ((frameL 81 (reqL v)).take k) = none :=
  decV_none (by rw [open_cut 81 (reqL v) (by have := reqL_len h; omega) hk]; decide)
theorem spoilt_more {v : Vb} (h : goodV v = true) {m : List UInt8} (hm : m ≠ []) : decV (frameL 81 (reqL v) ++ m) = none :=
  decV_none (open_more 81 (reqL v) (by have := reqL_len h; omega) hm)
theorem spoilt_bit {v : Vb} {j m : Nat} {x : UInt8} (hx : (frameL 81 (reqL v))[j]? = some x) (hm : m < 8) : decV ((frameL 81 (reqL v)).set j (x ^^^ (1 <<< UInt8.ofNat m))) = none :=
  decV_none (open_bit 81 (reqL v) hx hm)
end Go.Proofs.Ytppbcdcmpcagdaa
