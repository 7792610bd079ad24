/- The law FieldTurned returns true at every input: its walk over the contracts of field.Frame and field.Open; the plain law that no burst of 32 bits leaves a frame. No condition. -/
import Derived.Test.YtppbcdcmpcagdaaWalkFieldApart
import Derived.Test.YtppbcdcmpcagdaaCrc
namespace Go.Proofs.Ytppbcdcmpcagdaa
open Go.RowKit Go.CP

/-- A frame in which the lowest i bits of a burst were turned from bit k on. -/
def Turned (x : UInt8) (l : List UInt8) (u k i : Nat) (y : List UInt8) : Prop := y.length = l.length + 7 ∧ bigL y = bigL (frameL x l) ^^^ ((u % 2 ^ i) * 2 ^ k)

theorem tmod_bit (x j : Nat) : ((x : Int) / 2 ^ j).tmod 2 = ((x / 2 ^ j % 2 : Nat) : Int) := by
  rw [Int.tmod_eq_emod_of_nonneg (Int.ediv_nonneg (by omega) (by exact Int.pow_nonneg (by omega)))]
  simp
theorem turned_zero (x : UInt8) (l : List UInt8) (u k : Nat) : Turned x l u k 0 (frameL x l) := ⟨frameL_len x l, by simp [Nat.mod_one]⟩
theorem turned_no {x : UInt8} {l : List UInt8} {u k i : Nat} {y : List UInt8} (h : Turned x l u k i y) (hb : u / 2 ^ i % 2 = 0) : Turned x l u k (i + 1) y := by
  refine ⟨h.1, ?_⟩
  rw [h.2, Nat.pow_succ, Nat.mod_mul, hb, Nat.mul_zero, Nat.add_zero]
theorem turned_yes {x : UInt8} {l : List UInt8} {u k i : Nat} {y : List UInt8} {v : UInt8} (h : Turned x l u k i y) (hb : u / 2 ^ i % 2 = 1) (hv : y[(k + i) / 8]? = some v) :
    Turned x l u k (i + 1) (y.set ((k + i) / 8) (v ^^^ (1 <<< UInt8.ofNat ((k + i) % 8)))) := by
  refine ⟨by rw [List.length_set]; exact h.1, ?_⟩
  rw [bigL_set hv (Nat.mod_lt _ (by omega)), h.2, Nat.pow_succ, Nat.mod_mul, hb, Nat.mul_one, Nat.div_add_mod, Nat.add_comm (u % 2 ^ i) (2 ^ i)]
  have h1 := add_xor (i := i) (a := 1) (b := u % 2 ^ i) (Nat.mod_lt _ (Nat.two_pow_pos i))
  rw [Nat.one_mul] at h1
  rw [h1, xor_mul_pow, ← Nat.pow_add, Nat.xor_assoc, Nat.xor_comm (u % 2 ^ i * 2 ^ k), Nat.add_comm i k]

set_option maxHeartbeats 1000000 in
set_option maxRecDepth 100000 in
theorem fieldTurned_no (w : World) (x : UInt8) (A : Option Addr) (l : List UInt8) (c a u : Nat) (ha : Bytes w A l) (h : 65535 < l.length ∨ u = 0) :
    Calls Try.prog 8 #[bv x, .slice A l.length c, .int .u16 a, .int .u32 u] w fun e w' => e = .returned (.bool true) ∧ Below w.heap.size w w' := by
  have h1 := frame_any x A l c w ha
  go_enter Try.func8, Try.ntmps8
  go_wp2_with fail
  refine h1.mono ?_
  clear h1
  rintro e w1 (⟨hl, A1, c1, rfl, ho1, hb1⟩ | ⟨hl, rfl, rfl⟩)
  · obtain rfl : u = 0 := by omega
    go_wp2_with fail
    refine (awake_any _).mono ?_
    rintro e w3 ⟨rfl, hb3⟩
    have hb03 := hb1.trans (hb3.mono hb1.size)
    go_wp2_with fail
    refine (awake_any _).mono ?_
    rintro e w4 ⟨rfl, hb4⟩
    have hb04 := hb03.trans (hb4.mono hb03.size)
    go_wp2
    go_ret
    exact ⟨rfl, hb04⟩
  · go_wp2_with fail
    refine (awake_any _).mono ?_
    rintro e w3 ⟨rfl, hb3⟩
    go_wp2_with fail
    refine (awake_any _).mono ?_
    rintro e w4 ⟨rfl, hb4⟩
    have hb04 := hb3.trans (hb4.mono hb3.size)
    go_wp2
    go_ret
    exact ⟨rfl, hb04⟩

set_option maxHeartbeats 1000000 in
set_option maxRecDepth 100000 in
theorem fieldTurned_yes (w : World) (x : UInt8) (A : Option Addr) (l : List UInt8) (c a u k : Nat) (ha : Bytes w A l) (hl : l.length ≤ 65535) (h0 : 0 < u) (hu : u < 4294967296) (hk : k < (l.length + 7) * 8 - 31)
    (hka : (a : Int) % (((l.length : Int) + 7) * 8 - 31) = k) (HA : a < 65536) :
    Calls Try.prog 8 #[bv x, .slice A l.length c, .int .u16 a, .int .u32 u] w fun e w' => e = .returned (.bool true) ∧ Below w.heap.size w w' := by
  have h1 := frame_ok x A l c w ha hl
  have hu0 : ((u : Int) == 0) = false := by rw [beq_eq_false_iff_ne]; omega
  have hll : (l.length : Int) ≤ 65535 := by omega
  have hal : (a : Int) ≤ 65535 := by omega
  have hd0 : 0 < ((l.length : Int) + 7) * 8 - 31 := by omega
  have HKA := hid hka
  go_enter Try.func8, Try.ntmps8
  go_wp2_with fail
  refine h1.mono ?_
  clear h1
  rintro e w1 ⟨A1, c1, rfl, ho1, hb1⟩
  go_wp2_with fail
  refine (awake_any _).mono ?_
  rintro e w3 ⟨rfl, hb3⟩
  have hb03 := hb1.trans (hb3.mono hb1.size)
  have ho3 := ho1.below hb3 (Nat.le_refl _)
  obtain ⟨g, cur, rfl, hg, -⟩ := ho3.open (by omega)
  clear ho1
  go_wp2_with fail
  rw [HKA.out]
  clear hka
  go_loopw [12] (fun iv wr => ∃ (i : Nat) (y : List UInt8), i ≤ 32 ∧ iv = .int .i64 i ∧ Go.CP.Own wr w.heap.size 5 1 (some ⟨g, 0, none⟩) (l.length + 7) c1 (y.map bv) ∧ Hid (Turned x l u k i y) ∧ Below w.heap.size w wr) (fun iv _ => 32 - (intOf iv).toNat)
  case atStart => exact ⟨0, frameL x l, by omega, rfl, ho3, hid (turned_zero x l u k), hb03⟩
  case round =>
    clear ho3 hg
    obtain ⟨i, y, hi, rfl, ho, HT, hbel⟩ := hrel
    by_cases hlt : i < 32
    · have hkl : k + i < (l.length + 7) * 8 := by omega
      have hk1 : (k : Int) + i < ((l.length : Int) + 7) * 8 := by omega
      obtain ⟨v, hv⟩ := get_of_lt y (i := (k + i) / 8) (by rw [HT.out.1]; omega)
      have HV := hid hv
      have hfr := ho.free rfl ((k + i) / 8)
      obtain ⟨g', off', e1, hcx⟩ := Bytes.openq ho.cells (by rw [HT.out.1]; omega)
      cases e1
      have hd := hcx _ _ hv
      simp only [Nat.zero_add] at hd
      clear hcx hv
      have htm := tmod_bit u i
      by_cases hb : u / 2 ^ i % 2 = 1
      · have hq : (((u : Int) / 2 ^ i).tmod 2 == 1) = true := by rw [htm, hb]; rfl
        have HB := hid hb
        clear hb htm
        go_wp2_with fail
        go_roundw
        case rel =>
          refine ⟨i + 1, y.set ((k + i) / 8) (v ^^^ (1 <<< UInt8.ofNat ((k + i) % 8))), by omega, by go_num, ?_, hid (turned_yes HT.out HB.out HV.out), hbel.setCell (by have := ho.block g rfl; exact this.1) _⟩
          have e : ((y.map bv).set ((k + i) / 8) (.int .u8 (bits .xor .u8 (v.toNat : Int) (2 ^ ((k + i) % 8) % 256)))) = (y.set ((k + i) / 8) (v ^^^ (1 <<< UInt8.ofNat ((k + i) % 8)))).map bv := by
            rw [two_pow_u8 _ (Nat.mod_lt _ (by omega)), bits_xor_u8, List.map_set]
          rw [← e]
          exact ho.set rfl _ _
        case measure => simp [intOf]; omega
      · have hb0 : u / 2 ^ i % 2 = 0 := by omega
        have hq : (((u : Int) / 2 ^ i).tmod 2 == 1) = false := by rw [htm, hb0]; rfl
        have HB := hid hb0
        clear hb hb0 htm
        go_wp2_with fail
        go_roundw
        case rel => exact ⟨i + 1, y, by omega, by go_num, ho, hid (turned_no HT.out HB.out), hbel⟩
        case measure => simp [intOf]; omega
    · obtain rfl : i = 32 := by omega
      have hop := open_any (some ⟨g, 0, none⟩) y c1 wr ho.cells (by rw [HT.out.1]; exact ho.le.1) (by rw [HT.out.1]; omega)
      rw [HT.out.1] at hop
      have hne : openE y ≠ 0 := open_turned (u := u) (k := k) (tag := x) (l := l) (by rw [HT.out.1, frameL_len]) (by rw [HT.out.2, Nat.mod_eq_of_lt hu]) h0 hu (by rw [frameL_len]; omega)
      have HN := hid hne
      clear hne
      go_wp2_with fail
      refine hop.mono ?_
      clear hop
      rintro e w4 (⟨h, -⟩ | ⟨-, rfl, hb4⟩)
      · exact absurd h HN.out
      have hq : ((openE y : Int) != 0) = true := by rw [bne_iff_ne]; have := HN.out; omega
      go_wp2
      go_ret
      exact ⟨rfl, hbel.trans (hb4.mono hbel.size)⟩

theorem fieldTurned_walk (w : World) (a : Int) (A : Option Addr) (l : List UInt8) (c : Nat) (b u : Int) (h1 : 0 ≤ a ∧ a < 256) (ha : Bytes w A l) (_ : l.length ≤ c) (_ : l.length ≤ 140737488351232) (h2 : 0 ≤ b ∧ b < 65536) (h3 : 0 ≤ u ∧ u < 4294967296) :
    Calls Try.prog 8 #[.int .u8 a, .slice A l.length c, .int .u16 b, .int .u32 u] w fun e w' => e = .returned (.bool true) ∧ Below w.heap.size w w' := by
  obtain ⟨x, hx⟩ := u8_spell a h1
  obtain ⟨m, rfl⟩ := Int.eq_ofNat_of_zero_le h2.1
  obtain ⟨v, rfl⟩ := Int.eq_ofNat_of_zero_le h3.1
  rw [hx]
  by_cases h : 65535 < l.length ∨ v = 0
  · exact fieldTurned_no w x A l c m v ha h
  · have hp : 0 < ((l.length : Int) + 7) * 8 - 31 := by omega
    have h4 := Int.emod_lt_of_pos (m : Int) hp
    have h5 := Int.emod_nonneg (m : Int) (Int.ne_of_gt hp)
    exact fieldTurned_yes w x A l c m v ((m : Int) % (((l.length : Int) + 7) * 8 - 31)).toNat ha (by omega) (by omega) (by omega) (by omega) (by omega) (by omega)
end Go.Proofs.Ytppbcdcmpcagdaa
