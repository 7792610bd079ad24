/- Contracts of field.Sum and of the reference's Sum: the same check sum. -/
import Derived.Test.YtppbcdcmpcagdaaField1
namespace Go.Proofs.Ytppbcdcmpcagdaa
open Go.RowKit Go.CP

def stepC (r : UInt32) : UInt32 := (r >>> 1) ^^^ (if r % 2 = 1 then 0xEDB88320 else 0)
def stepN : Nat → UInt32 → UInt32
  | 0, r => r
  | k + 1, r => stepN k (stepC r)
def crcB (r : UInt32) (x : UInt8) : UInt32 := stepN 8 (r ^^^ x.toUInt32)
def crcL (l : List UInt8) : UInt32 := l.foldl crcB 0xFFFFFFFF
def sumL (l : List UInt8) : UInt32 := 0xFFFFFFFF ^^^ crcL l

theorem odd_toNat (y : UInt32) : (y % 2 = 1) ↔ y.toNat % 2 = 1 := by
  rw [← UInt32.toNat_inj, UInt32.toNat_mod]
  rfl
theorem shr_xor (y u : UInt32) : (y ^^^ u) >>> 1 = (y >>> 1) ^^^ (u >>> 1) := by
  apply UInt32.toNat_inj.1
  simp only [UInt32.toNat_shiftRight, UInt32.toNat_xor, show (1 : UInt32).toNat % 32 = 1 from rfl]
  exact Nat.shiftRight_xor_distrib
theorem xor_mod2 (a b : Nat) : (a ^^^ b) % 2 = (a + b) % 2 := by
  have h := Nat.testBit_xor a b 0
  simp only [Nat.testBit_zero] at h
  rcases Nat.mod_two_eq_zero_or_one a with h1 | h1 <;> rcases Nat.mod_two_eq_zero_or_one b with h2 | h2 <;> rcases Nat.mod_two_eq_zero_or_one (a ^^^ b) with h3 | h3 <;> simp [h1, h2, h3] at h <;> omega
theorem step_xor (y u : UInt32) : stepC (y ^^^ u) = (y >>> 1) ^^^ (u >>> 1) ^^^ (if y.toNat % 2 = u.toNat % 2 then 0 else 0xEDB88320) := by
  have hp : (y ^^^ u).toNat % 2 = (y.toNat + u.toNat) % 2 := by rw [UInt32.toNat_xor, xor_mod2]
  rw [stepC, shr_xor]
  congr 1
  by_cases h : y.toNat % 2 = u.toNat % 2
  · rw [if_pos h, if_neg (by rw [odd_toNat, hp]; omega)]
  · rw [if_neg h, if_pos (by rw [odd_toNat, hp]; omega)]
theorem step_lin (y u : UInt32) : stepC (y ^^^ u) = stepC y ^^^ stepC u := by
  rw [step_xor]
  unfold stepC
  simp only [odd_toNat]
  rcases Nat.mod_two_eq_zero_or_one y.toNat with h1 | h1 <;> rcases Nat.mod_two_eq_zero_or_one u.toNat with h2 | h2 <;> simp [h1, h2]
  · rw [UInt32.xor_assoc]
  · rw [UInt32.xor_assoc, UInt32.xor_assoc, UInt32.xor_comm 3988292384 (u >>> 1)]
  · rw [UInt32.xor_assoc, UInt32.xor_comm 3988292384, UInt32.xor_assoc (u >>> 1), UInt32.xor_self, UInt32.xor_zero]
theorem step_spell (y : UInt32) : bits .xor .u32 ((y.toNat : Int) / 2) (bits .and .u32 3988292384 (-bits .and .u32 (y.toNat : Int) 1 % 4294967296)) = ((stepC y).toNat : Int) := by
  have h1 : bits .and .u32 (y.toNat : Int) 1 = ((y.toNat % 2 : Nat) : Int) := by
    have := bits_and_u32 y 1
    rw [show ((1 : UInt32).toNat : Int) = 1 from rfl] at this
    rw [this, UInt32.toNat_and, show (1 : UInt32).toNat = 1 from rfl, Nat.and_one_is_mod]
  have h2 : ((y.toNat : Int) / (2 : Int)) = ((y >>> 1).toNat : Int) := by
    rw [UInt32.toNat_shiftRight, show (1 : UInt32).toNat % 32 = 1 from rfl, Nat.shiftRight_eq_div_pow]
    simp
  rw [h1, h2, stepC]
  rcases Nat.mod_two_eq_zero_or_one y.toNat with h | h
  · rw [h, if_neg (by rw [odd_toNat]; omega)]
    have := bits_and_u32 0xEDB88320 0
    rw [show (-((0 : Nat) : Int) % 4294967296) = ((0 : UInt32).toNat : Int) from rfl, show (3988292384 : Int) = ((0xEDB88320 : UInt32).toNat : Int) from rfl, this, bits_xor_u32]
    rfl
  · rw [h, if_pos (by rw [odd_toNat]; omega)]
    have := bits_and_u32 0xEDB88320 0xFFFFFFFF
    rw [show (-((1 : Nat) : Int) % 4294967296) = ((0xFFFFFFFF : UInt32).toNat : Int) from rfl, show (3988292384 : Int) = ((0xEDB88320 : UInt32).toNat : Int) from rfl, this, bits_xor_u32]
    rfl
theorem max_spell (y : UInt32) : bits .xor .u32 IntKind.u32.max (y.toNat : Int) = ((0xFFFFFFFF ^^^ y).toNat : Int) := by
  rw [← bits_xor_u32]; rfl
theorem crcL_snoc {l : List UInt8} {i : Nat} {x : UInt8} (h : l[i]? = some x) : crcL (l.take (i + 1)) = crcB (crcL (l.take i)) x := by
  rw [crcL, take_snoc h, List.foldl_append]; rfl

set_option maxRecDepth 100000 in
theorem sum_any (A : Option Addr) (l : List UInt8) (c : Nat) (w : World) (hb : Bytes w A l) (hl : l.length ≤ 200000000000000) :
    Calls Try.prog 55 #[.slice A l.length c] w fun e w' => e = .returned (.int .u32 ((sumL l).toNat : Int)) ∧ w' = w := by
  go_enter Try.func55, Try.ntmps55
  go_wp2_with fail
  go_loop [3, 8] (fun rv iv => ∃ (i : Nat) (r : UInt32), i ≤ l.length ∧ iv = .int .i64 i ∧ rv = .int .u32 (r.toNat : Int) ∧ Hid (r = crcL (l.take i))) (fun _ iv => l.length - (intOf iv).toNat)
  case atStart => exact ⟨0, 0xFFFFFFFF, by omega, rfl, rfl, by exact hid rfl⟩
  case round =>
    obtain ⟨i, r, hi, rfl, rfl, HR⟩ := hrel
    by_cases hlt : i < l.length
    · obtain ⟨b, o, rfl, hc⟩ := Bytes.openq hb (by omega)
      obtain ⟨x, hx⟩ := get_of_lt l hlt
      have hc1 := hc i x hx
      have HX := hid hx
      have hxl := x.toNat_lt
      have hrl := r.toNat_lt
      clear hc hx
      go_wp2_with fail
      go_loop [3, 16] (fun rv jv => ∃ (j : Nat) (y : UInt32), j ≤ 8 ∧ jv = .int .i64 j ∧ rv = .int .u32 (y.toNat : Int) ∧ Hid (stepN (8 - j) y = crcB r x)) (fun _ jv => 8 - (intOf jv).toNat)
      case atStart => exact ⟨0, r ^^^ x.toUInt32, by omega, rfl, vint (by rw [show (x.toNat : Int) = (x.toUInt32.toNat : Int) from rfl, bits_xor_u32]), by exact hid rfl⟩
      case round =>
        obtain ⟨j, y, hj, rfl, rfl, HY⟩ := hrel
        have hyl := y.toNat_lt
        by_cases hjt : j < 8
        · go_wp2_with fail
          go_round
          case rel =>
            refine ⟨j + 1, stepC y, by omega, by go_num, vint (step_spell y), ?_⟩
            have h := HY.out
            rw [show 8 - j = 8 - (j + 1) + 1 from by omega, stepN] at h
            exact hid h
          case measure => simp [intOf]; omega
        · have hj8 : j = 8 := by omega
          have HJ := hid hj8
          clear hj8
          go_wp2_with fail
          go_round
          case rel =>
            refine ⟨i + 1, y, by omega, by go_num, rfl, ?_⟩
            have h := HY.out
            rw [HJ.out, Nat.sub_self, stepN, HR.out] at h
            exact hid (by rw [h, crcL_snoc HX.out])
          case measure => simp [intOf]; omega
    · have hik : i = l.length := by omega
      have HK := hid hik
      clear hik
      go_wp2_with fail
      go_ret
      exact ⟨ret_int (by rw [max_spell, HR.out, HK.out, List.take_length]; rfl), rfl⟩

theorem ofNat_shr (x j : Nat) (hx : x < 256) : UInt32.ofNat (x / 2 ^ j) >>> 1 = UInt32.ofNat (x / 2 ^ (j + 1)) := by
  have h1 : x / 2 ^ j ≤ x := Nat.div_le_self _ _
  apply UInt32.toNat_inj.1
  rw [UInt32.toNat_shiftRight, show (1 : UInt32).toNat % 32 = 1 from rfl, Nat.shiftRight_eq_div_pow, UInt32.toNat_ofNat', UInt32.toNat_ofNat']
  have h2 : x / 2 ^ (j + 1) = x / 2 ^ j / 2 := by rw [Nat.pow_succ, ← Nat.div_div_eq_div_mul]
  rw [Nat.mod_eq_of_lt (by omega), Nat.mod_eq_of_lt (by omega), h2]
theorem bit_step (y : UInt32) (x j : Nat) (hx : x < 256) :
    (y >>> 1) ^^^ (if y.toNat % 2 = x / 2 ^ j % 2 then 0 else 0xEDB88320) ^^^ UInt32.ofNat (x / 2 ^ (j + 1)) = stepC (y ^^^ UInt32.ofNat (x / 2 ^ j)) := by
  have h1 : x / 2 ^ j ≤ x := Nat.div_le_self _ _
  have h2 : (UInt32.ofNat (x / 2 ^ j)).toNat = x / 2 ^ j := by rw [UInt32.toNat_ofNat', Nat.mod_eq_of_lt (by omega)]
  rw [step_xor, h2, ofNat_shr x j hx, UInt32.xor_assoc, UInt32.xor_assoc]
  congr 1
  exact UInt32.xor_comm _ _
theorem half_spell (y : UInt32) : ((y.toNat : Int) / (2 : Int)) = ((y >>> 1).toNat : Int) := by
  rw [UInt32.toNat_shiftRight, show (1 : UInt32).toNat % 32 = 1 from rfl, Nat.shiftRight_eq_div_pow]
  simp
theorem tm_spell (x j y : Nat) : (((x : Int) / 2 ^ j).tmod 2 != (y : Int) % 2) = !decide (y % 2 = x / 2 ^ j % 2) := by
  have e : ((x : Int) / 2 ^ j).tmod 2 = ((x / 2 ^ j % 2 : Nat) : Int) := by
    rw [Int.tmod_eq_emod_of_nonneg (Int.ediv_nonneg (by omega) (by exact Int.pow_nonneg (by omega)))]
    simp
  rw [e]
  by_cases h : y % 2 = x / 2 ^ j % 2
  · have h' : ((x / 2 ^ j % 2 : Nat) : Int) = (y : Int) % 2 := by omega
    rw [h', decide_eq_true h]; simp
  · have h' : ¬ ((x / 2 ^ j % 2 : Nat) : Int) = (y : Int) % 2 := by omega
    rw [decide_eq_false h]
    simpa using h'
theorem max_spell2 (y : UInt32) : wrap64 (bits .xor .u32 (y.toNat : Int) 4294967295) = ((0xFFFFFFFF ^^^ y).toNat : Int) := by
  have h := bits_xor_u32 y 0xFFFFFFFF
  rw [show ((0xFFFFFFFF : UInt32).toNat : Int) = 4294967295 from rfl] at h
  rw [h, UInt32.xor_comm]
  have := (0xFFFFFFFF ^^^ y).toNat_lt
  unfold wrap64
  omega
theorem poly_spell (y : UInt32) : bits .xor .u32 ((y.toNat : Int) / (2 : Int)) 3988292384 = ((y >>> 1 ^^^ 0xEDB88320).toNat : Int) := by
  rw [half_spell, ← bits_xor_u32]; rfl

set_option maxRecDepth 100000 in
theorem rsum_any (s : ByteArray) (w : World) (hl : s.size ≤ 200000000000000) :
    Calls Try.prog 56 #[.string s] w fun e w' => e = .returned (.int .i64 ((sumL s.data.toList).toNat : Int)) ∧ w' = w := by
  go_enter Try.func56, Try.ntmps56
  go_wp2_with fail
  go_loop [3, 4] (fun rv iv => ∃ (i : Nat) (r : UInt32), i ≤ s.size ∧ iv = .int .i64 i ∧ rv = .int .u32 (r.toNat : Int) ∧ Hid (r = crcL (s.data.toList.take i))) (fun _ iv => s.size - (intOf iv).toNat)
  case atStart => exact ⟨0, 0xFFFFFFFF, by omega, rfl, rfl, by exact hid rfl⟩
  case round =>
    obtain ⟨i, r, hi, rfl, rfl, HR⟩ := hrel
    by_cases hlt : i < s.size
    · have hrl := r.toNat_lt
      go_wp2_with fail
      go_loop [3, 5] (fun rv jv => ∃ (j : Nat) (y : UInt32), j ≤ 8 ∧ jv = .int .i64 j ∧ rv = .int .u32 (y.toNat : Int) ∧ Hid (stepN (8 - j) (y ^^^ UInt32.ofNat (s[i].toNat / 2 ^ j)) = crcB r s[i])) (fun _ jv => 8 - (intOf jv).toNat)
      case atStart => exact ⟨0, r, by omega, rfl, rfl, by exact hid (by simp [crcB])⟩
      case round =>
        obtain ⟨j, y, hj, rfl, rfl, HY⟩ := hrel
        have hyl := y.toNat_lt
        have hxl := s[i].toNat_lt
        by_cases hjt : j < 8
        · have htm := tm_spell s[i].toNat j y.toNat
          have hbs := bit_step y s[i].toNat j hxl
          have HBS := hid hbs
          clear hbs
          have hst : stepN (8 - j) (y ^^^ UInt32.ofNat (s[i].toNat / 2 ^ j)) = stepN (8 - (j + 1)) (stepC (y ^^^ UInt32.ofNat (s[i].toNat / 2 ^ j))) := by
            rw [show 8 - j = 8 - (j + 1) + 1 from by omega, stepN]
          have HST := hid hst
          clear hst
          by_cases hp : y.toNat % 2 = s[i].toNat / 2 ^ j % 2
          · rw [decide_eq_true hp] at htm
            have hq : (((s[i].toNat : Int) / 2 ^ j).tmod 2 != (y.toNat : Int) % 2) = false := htm
            have HP := hid hp
            clear hp htm
            go_wp2_with fail
            go_round
            case rel =>
              refine ⟨j + 1, y >>> 1, by omega, by go_num, vint (half_spell y), ?_⟩
              have h := HBS.out
              rw [if_pos HP.out, UInt32.xor_zero] at h
              exact hid (by rw [h, ← HST.out]; exact HY.out)
            case measure => simp [intOf]; omega
          · rw [decide_eq_false hp] at htm
            have hq : (((s[i].toNat : Int) / 2 ^ j).tmod 2 != (y.toNat : Int) % 2) = true := htm
            have HP := hid hp
            clear hp htm
            go_wp2_with fail
            go_round
            case rel =>
              refine ⟨j + 1, y >>> 1 ^^^ 0xEDB88320, by omega, by go_num, vint (poly_spell y), ?_⟩
              have h := HBS.out
              rw [if_neg HP.out] at h
              exact hid (by rw [h, ← HST.out]; exact HY.out)
            case measure => simp [intOf]; omega
        · have hj8 : j = 8 := by omega
          have HJ := hid hj8
          clear hj8
          go_wp2_with fail
          go_round
          case rel =>
            refine ⟨i + 1, y, by omega, by go_num, rfl, ?_⟩
            have h := HY.out
            have h8 : s[i].toNat / 2 ^ 8 = 0 := by omega
            rw [HJ.out, Nat.sub_self, stepN, h8, show UInt32.ofNat 0 = 0 from rfl, UInt32.xor_zero, HR.out] at h
            have hg : s.data.toList[i]? = some s[i] := by
              rw [Array.getElem?_toList]
              exact Array.getElem?_eq_getElem hlt
            exact hid (by rw [h, crcL_snoc hg])
          case measure => simp [intOf]; omega
    · have hik : i = s.size := by omega
      have HK := hid hik
      clear hik
      go_wp2_with fail
      go_ret
      have hz : s.data.toList.length = s.size := rfl
      exact ⟨ret_int (by rw [max_spell2, HR.out, HK.out, ← hz, List.take_length]; rfl), rfl⟩
end Go.Proofs.Ytppbcdcmpcagdaa
