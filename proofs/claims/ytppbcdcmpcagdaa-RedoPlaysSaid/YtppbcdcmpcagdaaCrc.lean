/- The plain law of the check sum: two sealed texts of one length do not differ by a burst of 32 bits. -/
import Derived.Test.YtppbcdcmpcagdaaField5
namespace Go.Proofs.Ytppbcdcmpcagdaa
open Go.RowKit Go.CP

/-- One step of the check over numbers of any size: the bits still to come lie above. -/
def gS (n : Nat) : Nat := (n / 2) ^^^ (if n % 2 = 1 then 3988292384 else 0)
def gN : Nat → Nat → Nat
  | 0, n => n
  | k + 1, n => gN k (gS n)
theorem xor_mod2' (a b : Nat) : (a ^^^ b) % 2 = (a + b) % 2 := by
  have h := Nat.testBit_xor a b 0
  simp only [Nat.testBit_zero] at h
  rcases Nat.mod_two_eq_zero_or_one a with h1 | h1 <;> rcases Nat.mod_two_eq_zero_or_one b with h2 | h2 <;> rcases Nat.mod_two_eq_zero_or_one (a ^^^ b) with h3 | h3 <;> simp [h1, h2, h3] at h <;> omega
theorem xor_half (a b : Nat) : (a ^^^ b) / 2 = (a / 2) ^^^ (b / 2) := by
  have h := Nat.shiftRight_xor_distrib (a := a) (b := b) (i := 1)
  simpa [Nat.shiftRight_eq_div_pow] using h
theorem gS_xor (a b : Nat) : gS (a ^^^ b) = gS a ^^^ gS b := by
  unfold gS
  rw [xor_half, xor_mod2']
  rcases Nat.mod_two_eq_zero_or_one a with h1 | h1 <;> rcases Nat.mod_two_eq_zero_or_one b with h2 | h2
  · rw [if_neg (by omega), if_neg (by omega), if_neg (by omega)]; simp
  · rw [if_pos (by omega), if_neg (by omega), if_pos (by omega)]; simp [Nat.xor_assoc]
  · rw [if_pos (by omega), if_pos (by omega), if_neg (by omega), Nat.xor_zero, Nat.xor_assoc, Nat.xor_assoc, Nat.xor_comm 3988292384]
  · rw [if_neg (by omega), if_pos (by omega), if_pos (by omega), Nat.xor_zero, Nat.xor_assoc, Nat.xor_comm 3988292384, Nat.xor_assoc, Nat.xor_self, Nat.xor_zero]
theorem gN_xor (k a b : Nat) : gN k (a ^^^ b) = gN k a ^^^ gN k b := by
  induction k generalizing a b with
  | zero => rfl
  | succ k ih => rw [gN, gS_xor, ih]; rfl
theorem gN_add (j k a : Nat) : gN (j + k) a = gN k (gN j a) := by
  induction j generalizing a with
  | zero => rw [Nat.zero_add]; rfl
  | succ j ih => rw [show j + 1 + k = (j + k) + 1 from by omega, gN, ih]; rfl
theorem gS_even (a : Nat) : gS (2 * a) = a := by
  unfold gS
  rw [if_neg (by omega), Nat.xor_zero]; omega
theorem gN_pow (k a : Nat) : gN k (a * 2 ^ k) = a := by
  induction k generalizing a with
  | zero => simp [gN]
  | succ k ih => rw [gN, Nat.pow_succ, ← Nat.mul_assoc, Nat.mul_comm (a * 2 ^ k) 2, gS_even, ih]
theorem gS_lt {n : Nat} (h0 : 0 < n) (h : n < 4294967296) : 0 < gS n ∧ gS n < 4294967296 := by
  unfold gS
  constructor
  · by_cases ho : n % 2 = 1
    · rw [if_pos ho]
      refine Nat.pos_of_ne_zero fun he => ?_
      have h2 : n / 2 = 3988292384 := by
        have h3 : ((n / 2) ^^^ 3988292384) ^^^ 3988292384 = 0 ^^^ 3988292384 := by rw [he]
        rwa [Nat.xor_assoc, Nat.xor_self, Nat.xor_zero, Nat.zero_xor] at h3
      omega
    · rw [if_neg ho, Nat.xor_zero]; omega
  · exact Nat.xor_lt_two_pow (n := 32) (by omega) (by split <;> omega)
theorem gN_pos {k n : Nat} (h0 : 0 < n) (h : n < 4294967296) : 0 < gN k n := by
  induction k generalizing n with
  | zero => exact h0
  | succ k ih => exact ih (gS_lt h0 h).1 (gS_lt h0 h).2
theorem gS_stepC (r : UInt32) : gS r.toNat = (stepC r).toNat := by
  unfold gS stepC
  rw [UInt32.toNat_xor, UInt32.toNat_shiftRight, show (1 : UInt32).toNat % 32 = 1 from rfl, Nat.shiftRight_eq_div_pow]
  congr 1
  by_cases h : r.toNat % 2 = 1
  · rw [if_pos h, if_pos ((odd_toNat r).2 h)]; rfl
  · rw [if_neg h, if_neg (fun h' => h ((odd_toNat r).1 h'))]; rfl
theorem gN_stepN (k : Nat) (r : UInt32) : gN k r.toNat = (stepN k r).toNat := by
  induction k generalizing r with
  | zero => rfl
  | succ k ih => rw [gN, gS_stepC, ih]; rfl
theorem add_xor {i a b : Nat} (h : b < 2 ^ i) : a * 2 ^ i + b = (a * 2 ^ i) ^^^ b := by
  have h1 : a * 2 ^ i ^^^ b = a * 2 ^ i ||| b := by
    apply Nat.eq_of_testBit_eq
    intro j
    rw [Nat.testBit_xor, Nat.testBit_or, Nat.testBit_mul_two_pow]
    by_cases hj : i ≤ j
    · have : b.testBit j = false := Nat.testBit_lt_two_pow (Nat.lt_of_lt_of_le h (Nat.pow_le_pow_right (by omega) hj))
      simp [this]
    · simp [hj]
  rw [h1, Nat.mul_comm a, Nat.two_pow_add_eq_or_of_lt h]
theorem gN_byte (r : UInt32) (x : UInt8) (m : Nat) : gN 8 (r.toNat ^^^ (m * 256 + x.toNat)) = (crcB r x).toNat ^^^ m := by
  have hx := x.toNat_lt
  have h1 := add_xor (i := 8) (a := m) (b := x.toNat) hx
  rw [show (2 : Nat) ^ 8 = 256 from rfl] at h1
  have h2 := gN_pow 8 m
  rw [show (2 : Nat) ^ 8 = 256 from rfl] at h2
  rw [h1, Nat.xor_comm (m * 256), ← Nat.xor_assoc, gN_xor, h2]
  congr 1
  rw [crcB, ← gN_stepN, UInt32.toNat_xor, UInt8.toNat_toUInt32]
theorem gN_fold (r : UInt32) (l : List UInt8) : gN (8 * l.length) (r.toNat ^^^ bigL l) = (l.foldl crcB r).toNat := by
  induction l generalizing r with
  | nil => simp [gN, bigL]
  | cons x l ih =>
    rw [List.length_cons, show 8 * (l.length + 1) = 8 + 8 * l.length from by omega, gN_add]
    show gN (8 * l.length) (gN 8 (r.toNat ^^^ (bigL l * 256 + x.toNat))) = _
    rw [gN_byte, ih]; rfl
/-- A sealed text: the check over the whole of it comes to one number. -/
theorem gN_seal (p : List UInt8) : gN (8 * (sealL p).length) ((0xFFFFFFFF : UInt32).toNat ^^^ bigL (sealL p)) = gN 32 (0xFFFFFFFF : UInt32).toNat := by
  rw [gN_fold, sealL, List.foldl_append]
  show (List.foldl crcB (crcL p) _).toNat = _
  rw [← gN_fold, little_len, big_little 4 _ (sumL p).toNat_lt, sumL, ← UInt32.toNat_xor]
  congr 2
  rw [← UInt32.xor_assoc, UInt32.xor_comm (crcL p), UInt32.xor_assoc, UInt32.xor_self, UInt32.xor_zero]
theorem xor_mid (m a b : Nat) : (m ^^^ a) ^^^ (m ^^^ b) = a ^^^ b := by
  rw [Nat.xor_assoc, ← Nat.xor_assoc a m, Nat.xor_comm a m, Nat.xor_assoc m a b, ← Nat.xor_assoc m m, Nat.xor_self, Nat.zero_xor]
/-- Two sealed texts of one length do not differ by a burst of 32 bits. -/
theorem burst_ne {p q : List UInt8} {u k : Nat} (hl : p.length = q.length) (h0 : 0 < u) (hu : u < 4294967296) (hk : k + 32 ≤ 8 * (sealL p).length) : bigL (sealL p) ^^^ bigL (sealL q) ≠ u * 2 ^ k := by
  intro he
  have hl2 : (sealL q).length = (sealL p).length := by simp [sealL, little_len, hl]
  have h1 := gN_seal p
  have h2 := gN_seal q
  rw [hl2] at h2
  have h3 : gN (8 * (sealL p).length) (bigL (sealL p) ^^^ bigL (sealL q)) = 0 := by
    rw [← xor_mid (0xFFFFFFFF : UInt32).toNat, gN_xor, h1, h2, Nat.xor_self]
  rw [he, show 8 * (sealL p).length = k + (8 * (sealL p).length - k) from by omega, gN_add, gN_pow] at h3
  have := gN_pos (k := 8 * (sealL p).length - k) h0 hu
  omega
theorem xor_mul_pow (a b i : Nat) : (a ^^^ b) * 2 ^ i = a * 2 ^ i ^^^ b * 2 ^ i := by
  rw [← Nat.shiftLeft_eq, ← Nat.shiftLeft_eq, ← Nat.shiftLeft_eq, Nat.shiftLeft_xor_distrib]
/-- One bit turned, in the number that bytes are. -/
theorem bigL_set {l : List UInt8} {j m : Nat} {x : UInt8} (h : l[j]? = some x) (hm : m < 8) : bigL (l.set j (x ^^^ (1 <<< UInt8.ofNat m))) = bigL l ^^^ 2 ^ (8 * j + m) := by
  have hb : ((1 : UInt8) <<< UInt8.ofNat m).toNat = 2 ^ m := by
    have : m = 0 ∨ m = 1 ∨ m = 2 ∨ m = 3 ∨ m = 4 ∨ m = 5 ∨ m = 6 ∨ m = 7 := by omega
    rcases this with rfl | rfl | rfl | rfl | rfl | rfl | rfl | rfl <;> rfl
  have hb2 : 2 ^ m < 256 := by rw [← hb]; exact ((1 : UInt8) <<< UInt8.ofNat m).toNat_lt
  induction l generalizing j with
  | nil => simp at h
  | cons y l ih =>
    cases j with
    | zero =>
      simp at h; subst h
      rw [Nat.mul_zero, Nat.zero_add]
      show bigL l * 256 + (y ^^^ _).toNat = (bigL l * 256 + y.toNat) ^^^ 2 ^ m
      rw [UInt8.toNat_xor, hb, show (256 : Nat) = 2 ^ 8 from rfl, add_xor (i := 8) y.toNat_lt, add_xor (i := 8) (Nat.xor_lt_two_pow (n := 8) y.toNat_lt hb2), Nat.xor_assoc]
    | succ j =>
      have h' : l[j]? = some x := by simpa using h
      have e := ih h'
      show bigL (l.set j _) * 256 + y.toNat = (bigL l * 256 + y.toNat) ^^^ 2 ^ (8 * (j + 1) + m)
      rw [e, show (256 : Nat) = 2 ^ 8 from rfl, add_xor (i := 8) y.toNat_lt, add_xor (i := 8) y.toNat_lt, xor_mul_pow, ← Nat.pow_add, Nat.xor_assoc, Nat.xor_assoc, Nat.xor_comm (2 ^ (8 * j + m + 8)), show 8 * (j + 1) + m = 8 * j + m + 8 from by omega]

theorem openE_zero {b : List UInt8} (h : openE b = 0) : 7 ≤ b.length ∧ b.length = bigL ((b.drop 1).take 2) + 7 ∧ b = sealL (b.take (b.length - 4)) := by
  unfold openE at h
  by_cases h7 : b.length < 7
  · rw [if_pos h7] at h; omega
  rw [if_neg h7] at h
  by_cases h3 : b.length < bigL ((b.drop 1).take 2) + 7
  · rw [if_pos h3] at h; omega
  rw [if_neg h3] at h
  generalize bigL ((b.drop 1).take 2) = n at h h3 ⊢
  by_cases h4 : b.length = n + 7 ∧ (sumL (b.take (3 + n))).toNat = bigL (b.drop (3 + n))
  · refine ⟨by omega, h4.1, ?_⟩
    have h5 := h4.2
    rw [show 3 + n = b.length - 4 from by omega] at h5
    have h6 := little_big (b.drop (b.length - 4))
    rw [show (b.drop (b.length - 4)).length = 4 from by rw [List.length_drop]; omega, ← h5] at h6
    rw [sealL, h6, List.take_append_drop]
  · rw [if_neg h4] at h; omega
/-- Of a sealed text in which a burst was turned, none is left. -/
theorem seal_turned {p y : List UInt8} {u k : Nat} (hl : y.length = (sealL p).length) (hb : bigL y = bigL (sealL p) ^^^ u * 2 ^ k) (h0 : 0 < u) (hu : u < 4294967296) (hk : k + 32 ≤ 8 * (sealL p).length) : y ≠ sealL (y.take (y.length - 4)) := by
  intro he
  have hs := sealL_len p
  refine burst_ne (p := p) (q := y.take (y.length - 4)) (u := u) (k := k) (by rw [List.length_take]; omega) h0 hu hk ?_
  rw [← he, hb, ← Nat.xor_assoc, Nat.xor_self, Nat.zero_xor]
theorem open_turned {tag : UInt8} {l y : List UInt8} {u k : Nat} (hl : y.length = (frameL tag l).length) (hb : bigL y = bigL (frameL tag l) ^^^ u * 2 ^ k) (h0 : 0 < u) (hu : u < 4294967296) (hk : k + 32 ≤ 8 * (frameL tag l).length) : openE y ≠ 0 := fun he =>
  seal_turned hl hb h0 hu hk (openE_zero he).2.2
/-- The frame made again of what is in one: the frame's own head, and the sum of it. -/
theorem frame_again {b : List UInt8} {t : UInt8} (ht : b[0]? = some t) (h : bigL ((b.drop 1).take 2) + 7 ≤ b.length) :
    frameL t (bodyL b) = sealL (b.take (3 + bigL ((b.drop 1).take 2))) := by
  have hl2 : ((b.drop 1).take 2).length = 2 := by simp; omega
  have hlb := little_big ((b.drop 1).take 2)
  rw [hl2] at hlb
  have hbl : (bodyL b).length = bigL ((b.drop 1).take 2) := by rw [bodyL, List.length_take, List.length_drop]; omega
  rw [frameL, hbl, hlb, bodyL]
  generalize bigL ((b.drop 1).take 2) = n at *
  congr 1
  match b, ht with
  | x :: b, ht =>
    simp at ht; subst ht
    rw [show 3 + n = (2 + n) + 1 from by omega, List.take_succ_cons, List.drop_succ_cons, List.drop_zero, List.take_add, List.drop_succ_cons]
theorem openE_again {b : List UInt8} {t : UInt8} (ht : b[0]? = some t) (h7 : ¬ b.length < 7) (h : ¬ b.length < bigL ((b.drop 1).take 2) + 7) :
    openE b = if frameL t (bodyL b) = b then 0 else 2 := by
  rw [frame_again ht (by omega), openE, if_neg h7, if_neg h]
  generalize bigL ((b.drop 1).take 2) = n at *
  by_cases h4 : b.length = n + 7 ∧ (sumL (b.take (3 + n))).toNat = bigL (b.drop (3 + n))
  · rw [if_pos h4, if_pos]
    have h6 := little_big (b.drop (3 + n))
    rw [show (b.drop (3 + n)).length = 4 from by rw [List.length_drop]; omega, ← h4.2] at h6
    rw [sealL, h6, List.take_append_drop]
  · rw [if_neg h4, if_neg]
    intro he
    refine h4 ?_
    have hl : b.length = n + 7 := by
      have := congrArg List.length he
      rw [sealL_len, List.length_take] at this
      omega
    refine ⟨hl, ?_⟩
    have h5 : b.take (3 + n) ++ b.drop (3 + n) = sealL (b.take (3 + n)) := by rw [List.take_append_drop, he]
    have h6 := List.append_cancel_left h5
    rw [h6, big_little 4 _ (sumL _).toNat_lt]
end Go.Proofs.Ytppbcdcmpcagdaa
