/- Contracts of the reference's Same and Encode of seats; plain law of a bit turned. -/
import Derived.Test.YtppbcdcmpcagdaaSeat4
import Derived.Deep.DrawnRows
namespace Go.Proofs.Ytppbcdcmpcagdaa
open Go.RowKit Go.CP
attribute [local go_sem ↓] Go.wp_at_zero Go.wp_at_succ

theorem boxT_S5 (w : World) (x y z : Value) : (w.alloc (.cells #[x, y, z] 70)).cell? ⟨w.heap.size, 0, none⟩ = some x ∧ (w.alloc (.cells #[x, y, z] 70)).cell? ⟨w.heap.size, 1, none⟩ = some y ∧ (w.alloc (.cells #[x, y, z] 70)).cell? ⟨w.heap.size, 2, none⟩ = some z ∧ Below w.heap.size w (w.alloc (.cells #[x, y, z] 70)) := by
  obtain ⟨h0, h1, h2, -, -⟩ := (BoxT.new w x y z).facts
  exact ⟨h0, h1, h2, (Below.refl _ _).alloc (Nat.le_refl _) _⟩

def sameB (a b : Int) (r : List UInt8) (a' b' : Int) (r' : List UInt8) : Bool := (a == a') && (b == b') && (r == r')

set_option maxHeartbeats 1000000 in
set_option maxRecDepth 100000 in
theorem same_in (a b : Int) (A : Option Addr) (r : List UInt8) (c : Nat) (a' b' : Int) (A' : Option Addr) (r' : List UInt8) (c' : Nat) (w : World) (hr : Bytes w A r) (hr' : Bytes w A' r') (P Q R : Bool) (hP : (a == a') = P) (hQ : (b == b') = Q) (hR : (r == r') = R) :
    Calls Try.prog 68 #[.agg #[.int .i64 a, .int .i64 b, .slice A r.length c], .agg #[.int .i64 a', .int .i64 b', .slice A' r'.length c']] w fun e w' => e = .returned (.bool (P && Q && R)) ∧ Below w.heap.size w w' := by
  have hb0 : Below w.heap.size w ((w.alloc (.cells #[.int .i64 a, .int .i64 b, .slice A r.length c] 70)).alloc (.cells #[.int .i64 a', .int .i64 b', .slice A' r'.length c'] 70)) := ((Below.refl _ _).alloc (Nat.le_refl _) _).alloc (by simp) _
  have v1 := cv_bytes c (hr.below hb0 (Nat.le_refl _))
  have v2 := cv_bytes c' (hr'.below hb0 (Nat.le_refl _))
  cases P <;> cases Q <;> cases R
  all_goals
    go_enter Try.func68, Try.ntmps68
    go_wp2
    go_ret
    exact ⟨rfl, hb0⟩
theorem same_any (a b : Int) (A : Option Addr) (r : List UInt8) (c : Nat) (a' b' : Int) (A' : Option Addr) (r' : List UInt8) (c' : Nat) (w : World) (hr : Bytes w A r) (hr' : Bytes w A' r') :
    Calls Try.prog 68 #[.agg #[.int .i64 a, .int .i64 b, .slice A r.length c], .agg #[.int .i64 a', .int .i64 b', .slice A' r'.length c']] w fun e w' => e = .returned (.bool (sameB a b r a' b' r')) ∧ Below w.heap.size w w' :=
  same_in a b A r c a' b' A' r' c' w hr hr' _ _ _ rfl rfl rfl

theorem spoilt_seat {a b : Nat} {r y : List UInt8} {k : Nat} (hr : r.length ≤ 96) (hl : y.length = 128) (hb : bigL y = bigL (sealL (seatL a b r)) ^^^ 2 ^ k) (hk : k < 1024) : seatD y = false := by
  cases h : seatD y with
  | false => rfl
  | true =>
    exfalso
    obtain ⟨-, hB, h2⟩ := seatD_eq h
    have hs : (sealL (seatL a b r)).length = 128 := by rw [sealL_len, seatL_len _ _ _ hr]
    have hne : y ≠ sealL (y.take (y.length - 4)) := by
      by_cases hk2 : k + 32 ≤ 1024
      · exact seal_turned (p := seatL a b r) (u := 1) (k := k) (by omega) (by rw [hb, Nat.one_mul]) (by omega) (by omega) (by omega)
      · obtain ⟨m, hm⟩ : ∃ m : Nat, m = 992 := ⟨_, rfl⟩
        have hp : 2 ^ (k - m) < 2 ^ 32 := Nat.pow_lt_pow_right (by omega) (by omega)
        rw [show (2 : Nat) ^ 32 = 4294967296 from rfl] at hp
        refine seal_turned (p := seatL a b r) (u := 2 ^ (k - m)) (k := m) (by omega) ?_ (Nat.two_pow_pos _) hp (by omega)
        rw [hb, ← Nat.pow_add, show k - m + m = k from by omega]
    refine hne ?_
    have hl2 : (seatL (tN1 y) (tN2 y) (tR y)).length = 124 := seatL_len _ _ _ (seatB_iff.1 hB).2.2.2.2
    have h3 : y.take (y.length - 4) = seatL (tN1 y) (tN2 y) (tR y) := by
      rw [hl]
      conv => lhs; rw [← h2]
      rw [sealL, List.take_append_of_le_length (by rw [hl2]; omega), List.take_of_length_le (by rw [hl2]; omega)]
    rw [h3, h2]

theorem rseat_err (a b : Int) (A : Option Addr) (n c : Nat) (w : World) (h : seatB a b n = false) : Calls Try.prog 64 #[.agg #[.int .i64 a, .int .i64 b, .slice A n c]] w fun e w' => e = .returned (.tuple #[.string (bstr []), .int .i64 2]) ∧ Below w.heap.size w w' := by
  have hs := fun W => rseat_sound a b A n c W
  rw [h] at hs
  have HS := hid hs
  clear hs h
  go_enter Try.func64, Try.ntmps64
  go_wp2_with fail
  refine (HS.out _).mono ?_
  rintro e w1 ⟨rfl, hb1⟩
  go_wp2
  go_ret2
  exact ⟨rfl, ((Below.refl _ _).alloc (Nat.le_refl _) _).trans (hb1.mono (by simp))⟩

theorem little_one (n : Nat) (h : n < 256) : little n 1 = [UInt8.ofNat n] := by
  show [UInt8.ofNat (n % 256)] = _
  rw [Nat.mod_eq_of_lt h]
/-- What is built ahead of the bytes 0. -/
def seatP (a b : Nat) (r : List UInt8) : List UInt8 := magicT ++ little a 4 ++ little b 4 ++ little r.length 1 ++ r
theorem seatP_len (a b : Nat) (r : List UInt8) : (seatP a b r).length = 13 + r.length := by simp [seatP, little_len, magicT]; omega
theorem seat_str1 (a b : Nat) (r : List UInt8) : (⟨#[83, 69, 65, 84]⟩ ++ bstr (little a 4) ++ bstr (little b 4) ++ bstr (little r.length 1) ++ bstr r : ByteArray) = bstr (seatP a b r) := by
  rw [show (⟨#[83, 69, 65, 84]⟩ : ByteArray) = bstr magicT from rfl, bstr_append, bstr_append, bstr_append, bstr_append]
  rfl
theorem seat_str2 (a b : Nat) (r : List UInt8) (h : r.length ≤ 96) : bstr (seatP a b r) ++ bstr (List.replicate (111 - r.length) 0) = bstr (seatL a b r) := by
  rw [bstr_append, seatP, little_one _ (by omega), seatL]

set_option maxHeartbeats 2000000 in
set_option maxRecDepth 100000 in
theorem rseat_ok (a b : Nat) (A : Option Addr) (r : List UInt8) (c : Nat) (w : World) (hr : Bytes w A r) (h : seatB a b r.length = true) :
    Calls Try.prog 64 #[.agg #[.int .i64 a, .int .i64 b, .slice A r.length c]] w fun e w' => e = .returned (.tuple #[.string (bstr (sealL (seatL a b r))), .int .i64 0]) ∧ Below w.heap.size w w' := by
  have hs := fun W => rseat_sound a b A r.length c W
  rw [h] at hs
  have HS := hid hs
  have hb := seatB_iff.1 h
  have h1 := fun n W => little_any n 4 W
  rw [show ((4 : Nat) : Int) = 4 from rfl] at h1
  have h2 := fun W => little_any r.length 1 W (by omega) (by omega)
  rw [show ((1 : Nat) : Int) = 1 from rfl] at h2
  obtain ⟨m, hm⟩ : ∃ m : Nat, m = 111 - r.length := ⟨_, rfl⟩
  have hmi : (124 : Int) - (13 + r.length) = m := by omega
  have hn := fun W => noughts_any m W (by omega)
  have hse := fun W => rsealed_any (bstr (seatL a b r)) W (by rw [bstr_size, seatL_len _ _ _ (by omega)]; omega)
  rw [show (bstr (seatL a b r)).data.toList = seatL a b r from rfl, ← seat_str2 a b r (by omega), ← hm] at hse
  have hst := seat_str1 a b r
  have hpl := seatP_len a b r
  obtain ⟨P, hP⟩ : ∃ P, bstr (seatP a b r) = P := ⟨_, rfl⟩
  rw [hP] at hse hst
  have hps : P.size = 13 + r.length := by rw [← hP, bstr_size, hpl]
  have HPS := hid hps
  have HST := hid hst
  have HA := hid (fun W => h1 a W (by omega) (by omega))
  have HB := hid (fun W => h1 b W (by omega) (by omega))
  have HC := hid h2
  have HN := hid hn
  have HSE := hid hse
  have hl := little_len
  have hrl : r.length ≤ 96 := by omega
  have hrli : (r.length : Int) ≤ 96 := by omega
  have hml : m ≤ 111 := by omega
  have hq1 : ¬ 9223372036854775807 < 13 + r.length := by omega
  have hq2 : ¬ 9223372036854775807 < 13 + r.length + m := by omega
  clear hs h h1 h2 hn hse hb hm hst hpl hP hps
  go_enter Try.func64, Try.ntmps64
  go_wp2_with fail
  refine (HS.out _).mono ?_
  rintro e w1 ⟨rfl, hb1⟩
  have hbx := box3_keep (boxT_S5 w (.int .i64 a) (.int .i64 b) (.slice A r.length c)) hb1
  have HBX := hid hbx
  have hcv := fun W (hW : W.cell? ⟨w.heap.size, 0, none⟩ = some (.int .i64 a) ∧ W.cell? ⟨w.heap.size, 1, none⟩ = some (.int .i64 b) ∧ W.cell? ⟨w.heap.size, 2, none⟩ = some (.slice A r.length c) ∧ Below w.heap.size w W) => cv_bytes c (hr.below hW.2.2.2 (Nat.le_refl _))
  clear hb1 hbx
  go_wp2_with fail
  go_region_held3 (fun W => W.cell? ⟨w.heap.size, 0, none⟩ = some (.int .i64 a) ∧ W.cell? ⟨w.heap.size, 1, none⟩ = some (.int .i64 b) ∧ W.cell? ⟨w.heap.size, 2, none⟩ = some (.slice A r.length c) ∧ Below w.heap.size w W)
    (first | exact HBX.out | exact box3_drew HBX.out | assumption | exact box3_drew (by assumption))
    (first
      | (go_at_call_of 42 (Value.int .i64 (a : Int)); refine (HA.out _).mono ?_; rintro e w3 ⟨rfl, hb3⟩; have hk3 := box3_keep (by assumption) hb3)
      | (go_at_call_of 42 (Value.int .i64 (b : Int)); refine (HB.out _).mono ?_; rintro e w4 ⟨rfl, hb4⟩; have hk4 := box3_keep (by assumption) hb4)
      | (go_at_call_of 42 (Value.int .i64 (r.length : Int)); refine (HC.out _).mono ?_; rintro e w5 ⟨rfl, hb5⟩; have hk5 := box3_keep (by assumption) hb5))
  all_goals
    rw [HST.out]
    have hps := HPS.out
    have HK := hid hk5
    clear hcv hk3 hk4 hk5
    go_wp2_with fail
    refine (HN.out _).mono ?_
    rintro e w6 ⟨rfl, hb6⟩
    go_wp2_with fail
    refine (HSE.out _).mono ?_
    rintro e w7 ⟨rfl, hb7⟩
    go_wp2
    go_ret2
    have hb16 := below_t HK.out.2.2.2 hb6 HK.out.2.2.2.size
    exact ⟨rfl, below_t hb16 hb7 hb16.size⟩

def RetRSeat (a b : Int) (r : List UInt8) (w : World) (e : Ending) (w' : World) : Prop :=
  Below w.heap.size w w' ∧ ((seatB a b r.length = true ∧ e = .returned (.tuple #[.string (bstr (sealL (seatL a.toNat b.toNat r))), .int .i64 0])) ∨ (seatB a b r.length = false ∧ e = .returned (.tuple #[.string (bstr []), .int .i64 2])))
theorem rseat_any (a b : Int) (A : Option Addr) (r : List UInt8) (c : Nat) (w : World) (hr : Bytes w A r) : Calls Try.prog 64 #[.agg #[.int .i64 a, .int .i64 b, .slice A r.length c]] w (RetRSeat a b r w) := by
  cases h : seatB a b r.length with
  | true =>
    have h2 := seatB_iff.1 h
    have e1 : ((a.toNat : Nat) : Int) = a := by omega
    have e2 : ((b.toNat : Nat) : Int) = b := by omega
    have := rseat_ok a.toNat b.toNat A r c w hr (by rw [e1, e2]; exact h)
    rw [e1, e2] at this
    exact this.mono fun e w' k => ⟨k.2, .inl ⟨h, k.1⟩⟩
  | false => exact (rseat_err a b A r.length c w h).mono fun e w' k => ⟨k.2, .inr ⟨h, k.1⟩⟩
end Go.Proofs.Ytppbcdcmpcagdaa
