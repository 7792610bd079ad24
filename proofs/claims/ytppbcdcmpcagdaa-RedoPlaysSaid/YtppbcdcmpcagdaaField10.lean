/- Plain laws: what Open makes of a frame and of a frame that was cut; fields read one behind the other. -/
import Derived.Test.YtppbcdcmpcagdaaField9
import Derived.Test.YtppbcdcmpcagdaaWalkFieldWrites
namespace Go.Proofs.Ytppbcdcmpcagdaa
open Go.RowKit Go.CP

theorem frame_head (t : UInt8) (l : List UInt8) : (frameL t l)[0]? = some t := by simp [frameL, sealL]
theorem frame_num (t : UInt8) (l : List UInt8) (h : l.length ≤ 65535) : bigL (((frameL t l).drop 1).take 2) = l.length := by
  have e : ((frameL t l).drop 1).take 2 = little l.length 2 := by
    simp only [frameL, sealL, List.cons_append, List.drop_succ_cons, List.drop_zero, List.append_assoc]
    rw [List.take_append_of_le_length (by rw [little_len]; omega), List.take_of_length_le (by rw [little_len]; omega)]
  rw [e, big_little 2 _ (by omega)]
theorem frame_body (t : UInt8) (l : List UInt8) (h : l.length ≤ 65535) : bodyL (frameL t l) = l := by
  rw [bodyL, frame_num t l h]
  have e : (frameL t l).drop 3 = l ++ little (sumL (t :: (little l.length 2 ++ l))).toNat 4 := by
    simp only [frameL, sealL, List.cons_append, List.append_assoc]
    rw [show (3 : Nat) = 2 + 1 from rfl, List.drop_succ_cons, List.drop_append_of_le_length (by rw [little_len]; omega), List.drop_of_length_le (by rw [little_len]; omega), List.nil_append]
  rw [e, List.take_append_of_le_length (Nat.le_refl _), List.take_length]
theorem open_frame (t : UInt8) (l : List UInt8) (h : l.length ≤ 65535) : openE (frameL t l) = 0 := by
  rw [openE_again (frame_head t l) (by rw [frameL_len]; omega) (by rw [frameL_len, frame_num t l h]; omega), frame_body t l h, if_pos rfl]
theorem open_cut (t : UInt8) (l : List UInt8) (h : l.length ≤ 65535) {p : Nat} (hp : p < (frameL t l).length) : openE ((frameL t l).take p) = 3 := by
  have hl : ((frameL t l).take p).length = p := by rw [List.length_take]; omega
  rw [frameL_len] at hp
  by_cases h7 : p < 7
  · rw [openE, if_pos (by omega)]
  · have e : (((frameL t l).take p).drop 1).take 2 = ((frameL t l).drop 1).take 2 := by
      rw [List.drop_take, List.take_take, Nat.min_eq_left (by omega)]
    rw [openE, if_neg (by omega), e, frame_num t l h, if_pos (by omega)]
theorem little_take (n : Nat) (r : List UInt8) (k : Nat) : (little n k ++ r).take k = little n k ∧ (little n k ++ r).drop k = r := by
  constructor
  · rw [List.take_append_of_le_length (by rw [little_len]; omega), List.take_of_length_le (by rw [little_len]; omega)]
  · rw [List.drop_append_of_le_length (by rw [little_len]; omega), List.drop_of_length_le (by rw [little_len]; omega), List.nil_append]
theorem t_app {a r : List UInt8} {k : Nat} (h : a.length = k) : tOut (a ++ r) false k = a ∧ tL (a ++ r) false k = r ∧ tB (a ++ r) false k = false := by
  have hl : ¬ (false = true ∨ (a ++ r).length < k) := by simp; omega
  refine ⟨?_, ?_, ?_⟩
  · rw [tOut, if_neg hl, List.take_append_of_le_length (by omega), List.take_of_length_le (by omega)]
  · rw [tL, if_neg hl, List.drop_append_of_le_length (by omega), List.drop_of_length_le (by omega), List.nil_append]
  · simp [tB]; omega
theorem t_num (n : Nat) (r : List UInt8) (hn : n < 4294967296) : bigL (tOut (little n 4 ++ r) false 4) = n ∧ tL (little n 4 ++ r) false 4 = r ∧ tB (little n 4 ++ r) false 4 = false := by
  obtain ⟨h1, h2, h3⟩ := t_app (a := little n 4) (r := r) (k := 4) (little_len _ _)
  exact ⟨by rw [h1, big_little 4 n hn], h2, h3⟩
theorem t_text (s r : List UInt8) (h : s.length ≤ 65535) : txN (little s.length 2 ++ s ++ r) false = s.length ∧
    tOut (tL (little s.length 2 ++ s ++ r) false 2) (tB (little s.length 2 ++ s ++ r) false 2) s.length = s ∧ tL (tL (little s.length 2 ++ s ++ r) false 2) (tB (little s.length 2 ++ s ++ r) false 2) s.length = r ∧
    tB (tL (little s.length 2 ++ s ++ r) false 2) (tB (little s.length 2 ++ s ++ r) false 2) s.length = false := by
  rw [List.append_assoc]
  obtain ⟨h1, h2, h3⟩ := t_app (a := little s.length 2) (r := s ++ r) (k := 2) (little_len _ _)
  obtain ⟨h4, h5, h6⟩ := t_app (a := s) (r := r) (k := s.length) rfl
  rw [h2, h3]
  exact ⟨by rw [txN, h1, big_little 2 _ (by omega)], h4, h5, h6⟩
/-- The next number; the next text: what a Form's methods do with fields that were written. -/
theorem fnum_ok (g : Nat) (B : Option Nat) (n : Nat) (r : List UInt8) (W : World) (h : FormS W g B (little n 4 ++ r) false) (hn : n < 4294967296) :
    Calls Try.prog 46 #[.pointer (some ⟨g, 0, none⟩)] W (RetForm g B (.int .i64 (n : Nat)) r false W) := by
  have := fnum_any g B (little n 4 ++ r) false W h
  obtain ⟨h1, h2, h3⟩ := t_num n r hn
  rwa [h1, h2, h3] at this
theorem ftext_ok (g : Nat) (B : Option Nat) (s r : List UInt8) (W : World) (h : FormS W g B (little s.length 2 ++ s ++ r) false) (hs : s.length ≤ 65535) :
    Calls Try.prog 48 #[.pointer (some ⟨g, 0, none⟩)] W (RetForm g B (.string (bstr s)) r false W) := by
  have := ftext_any g B (little s.length 2 ++ s ++ r) false W h
  obtain ⟨h1, h2, h3, h4⟩ := t_text s r hs
  rwa [h1, h2, h3, h4] at this
end Go.Proofs.Ytppbcdcmpcagdaa
