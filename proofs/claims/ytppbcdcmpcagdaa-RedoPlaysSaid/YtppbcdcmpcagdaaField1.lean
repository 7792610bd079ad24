/- Contracts of package field: put, Num, Text; of the reference: Little, Text. -/
import Derived.Test.YtppbcdcmpcagdaaBase
namespace Go.Proofs.Ytppbcdcmpcagdaa
open Go.RowKit Go.CP

/-- The lowest k bytes of a number, the lowest first. -/
def little (n : Nat) : Nat → List UInt8
  | 0 => []
  | k + 1 => UInt8.ofNat (n % 256) :: little (n / 256) k
theorem little_len (n k : Nat) : (little n k).length = k := by
  induction k generalizing n with
  | zero => rfl
  | succ k ih => simp [little, ih]

theorem u8_mod (n : Nat) : ((UInt8.ofNat (n % 256)).toNat : Int) = (n : Int) % 256 := by
  simp only [UInt8.toNat_ofNat']
  omega
theorem bv_mod (n : Nat) : bv (UInt8.ofNat (n % 256)) = .int .u8 ((n : Int) % 256) := by rw [← u8_mod]

set_option maxRecDepth 100000 in
theorem put_any (A : Option Addr) (l : List UInt8) (c n k : Nat) (w : World) (hb : Bytes w A l) (hl : l.length ≤ 200000000000000) (hn : n < 4294967296) (hk : k ≤ 1000) :
    Calls Try.prog 127 #[.slice A l.length c, .int .u32 n, .int .i64 k] w (RetOwn w 5 1 (l.length + k) ((l ++ little n k).map bv)) := by
  go_enter Try.func127, Try.ntmps127
  go_wp2_with (go_at_call 129; refine (clone_any _ _ _ _ hb (by omega)).mono ?_; rintro e w1 ⟨A1, c1, rfl, ho1, hb1⟩)
  go_loopw [1, 7, 11] (fun nv ov iv wr => ∃ (i m : Nat) (acc : List UInt8) (A : Option Addr) (c : Nat), i ≤ k ∧ m < 4294967296 ∧ nv = .int .u32 m ∧ iv = .int .i64 i ∧ ov = .slice A (l.length + i) c ∧ Own wr w.heap.size 5 1 A (l.length + i) c (acc.map bv) ∧
      Hid (acc ++ little m (k - i) = l ++ little n k) ∧ Below w.heap.size w wr) (fun _ _ iv _ => k - (intOf iv).toNat)
  case atStart => exact ⟨0, n, l, A1, c1, by omega, hn, rfl, rfl, rfl, ho1, by exact hid rfl, hb1⟩
  case round =>
    clear ho1 hb1
    obtain ⟨i, m, acc, A2, c2, hi, hm, rfl, rfl, rfl, ho, HE, hbel⟩ := hrel
    have hz := hbel.size
    by_cases hlt : i < k
    · go_wp2_with (at_builtin; refine ap_bytes rfl _ _ 22 rfl w.heap.size rfl (ho.alloc _) rfl (Src.one Try.underlying22 rfl) (by omega) (by simp; omega) ?_; intro A3 c3 w3 ho3 hg3)
      go_roundw
      case rel =>
        refine ⟨i + 1, m / 256, acc ++ [UInt8.ofNat (m % 256)], A3, c3, by omega, by omega, by go_num, by go_num, rfl, ?_, ?_, ?_⟩
        · rw [List.map_append, List.map_singleton, bv_mod]
          exact ho3
        · have h := HE.out
          rw [show k - i = k - (i + 1) + 1 from by omega, little] at h
          exact hid (by rw [List.append_assoc]; exact h)
        · exact Below.grown (hbel.alloc hz _) hg3 (by simp; omega) fun k hk => (ho.block k hk).1
      case measure => simp [intOf]; omega
    · have hik : i = k := by omega
      have HK := hid hik
      clear hik
      go_wp2_with (go_at_call 128; refine (clip_any _ _ _ _ ho.le.1).mono ?_; rintro e w3 ⟨rfl, rfl⟩)
      go_ret
      have hacc : acc = l ++ little n k := by have h := HE.out; rw [HK.out, Nat.sub_self, little, List.append_nil] at h; exact h
      exact ⟨A2, l.length + i, by rw [HK.out]; rfl, by have := HK.out; subst this; rw [← hacc]; exact ho.clip, hbel⟩

def numE (n : Int) : Int := if n < 0 ∨ 4294967295 < n then 4 else 0

theorem num_err (A : Option Addr) (len c : Nat) (n : Int) (w : World) (h : n < 0 ∨ 4294967295 < n) :
    Calls Try.prog 40 #[.slice A len c, .int .i64 n] w fun e w' => e = .returned (.tuple #[.slice none 0 0, .int .i64 4]) ∧ w' = w := by
  have h' : n < 0 ∨ (0 ≤ n ∧ 4294967295 < n) := by omega
  clear h
  rcases h' with h | ⟨h1, h2⟩
  all_goals
    go_enter Try.func40, Try.ntmps40
    go_wp2
    go_ret2
    exact ⟨rfl, rfl⟩

theorem num_ok (A : Option Addr) (l : List UInt8) (c n : Nat) (w : World) (hb : Bytes w A l) (hl : l.length ≤ 200000000000000) (hn : n < 4294967296) :
    Calls Try.prog 40 #[.slice A l.length c, .int .i64 n] w (RetOwn2 w 5 1 (l.length + 4) ((l ++ little n 4).map bv) (.int .i64 0)) := by
  have h1 : (n : Int) ≤ 4294967295 := by omega
  have hp := put_any A l c n 4 w hb hl hn (by omega)
  rw [show ((4 : Nat) : Int) = 4 from rfl] at hp
  go_enter Try.func40, Try.ntmps40
  go_wp2_with fail
  refine hp.mono ?_
  clear hp
  rintro e w1 ⟨A1, c1, rfl, ho, hb1⟩
  go_wp2_with fail
  go_ret2
  exact ⟨A1, c1, rfl, ho, hb1⟩

theorem text_err (A : Option Addr) (len c : Nat) (s : ByteArray) (w : World) (h : 65535 < s.size) :
    Calls Try.prog 41 #[.slice A len c, .string s] w fun e w' => e = .returned (.tuple #[.slice none 0 0, .int .i64 4]) ∧ w' = w := by
  go_enter Try.func41, Try.ntmps41
  go_wp2
  go_ret2
  exact ⟨rfl, rfl⟩

theorem text_ok (A : Option Addr) (l : List UInt8) (c : Nat) (s : ByteArray) (w : World) (hb : Bytes w A l) (hl : l.length ≤ 150000000000000) (h : s.size ≤ 65535) :
    Calls Try.prog 41 #[.slice A l.length c, .string s] w (RetOwn2 w 5 1 (l.length + 2 + s.size) ((l ++ little s.size 2 ++ s.data.toList).map bv) (.int .i64 0)) := by
  have hp := put_any A l c s.size 2 w hb (by omega) (by omega) (by omega)
  rw [show ((2 : Nat) : Int) = 2 from rfl] at hp
  go_enter Try.func41, Try.ntmps41
  go_wp2_with fail
  refine hp.mono ?_
  clear hp
  rintro e w1 ⟨A1, c1, rfl, ho, hb1⟩
  have hz := hb1.size
  go_wp2_with (first
    | (at_builtin; refine ap_bytes rfl _ _ 9 rfl w.heap.size rfl ho rfl (Src.string Try.underlying9) (by omega) hz ?_; intro A2 c2 w2 ho2 hg2)
    | (go_at_call 128; refine (clip_any _ _ _ _ ho2.le.1).mono ?_; rintro e w3 ⟨rfl, rfl⟩))
  go_ret2
  rw [← List.map_append] at ho2
  exact ⟨A2, _, rfl, ho2.clip, Below.grown hb1 hg2 hz fun k hk => (ho.block k hk).1⟩

theorem bstr_append (a b : List UInt8) : bstr a ++ bstr b = bstr (a ++ b) := ByteArray.mk_append_mk a b

set_option maxRecDepth 100000 in
theorem little_any (n k : Nat) (w : World) (hn : n ≤ 1000000000000000) (hk : k ≤ 1000) :
    Calls Try.prog 42 #[.int .i64 n, .int .i64 k] w fun e w' => e = .returned (.string (bstr (little n k))) ∧ Below w.heap.size w w' := by
  go_enter Try.func42, Try.ntmps42
  go_wp2_with fail
  go_loopw [0, 5, 6] (fun nv sv iv wr => ∃ (i m : Nat) (acc : List UInt8), i ≤ k ∧ m ≤ 1000000000000000 ∧ nv = .int .i64 m ∧ iv = .int .i64 i ∧ sv = .string (bstr acc) ∧ acc.length = i ∧ Hid (acc ++ little m (k - i) = little n k) ∧ Below w.heap.size w wr) (fun _ _ iv _ => k - (intOf iv).toNat)
  case atStart => exact ⟨0, n, [], by omega, hn, rfl, rfl, rfl, rfl, by exact hid rfl, Below.refl _ _⟩
  case round =>
    obtain ⟨i, m, acc, hi, hm, rfl, rfl, rfl, hl, HE, hbel⟩ := hrel
    have hz := hbel.size
    by_cases hlt : i < k
    · have hcv : (convert 22 9 (.slice (some ⟨wr.heap.size, 0, none⟩) 1 1)).run Try.prog (wr.alloc (.cells #[.int .u8 ((m : Int) % 256)] 5)) = .ok (.string (bstr [UInt8.ofNat (m % 256)])) (wr.alloc (.cells #[.int .u8 ((m : Int) % 256)] 5)) :=
        cv_bytes (l := [UInt8.ofNat (m % 256)]) 1 (by
          have := (Own.made wr 5 1 1 #[.int .u8 ((m : Int) % 256)] rfl (by decide)).cells
          show Cells _ _ [bv (UInt8.ofNat (m % 256))]
          rw [bv_mod]; exact this)
      have HL := hid hl
      have hl2 : acc.length ≤ 1000 := by omega
      clear hl
      go_wp2_with fail
      go_roundw
      case rel =>
        refine ⟨i + 1, m / 256, acc ++ [UInt8.ofNat (m % 256)], by omega, by omega, by go_num, by go_num, by rw [bstr_append], by simp [HL.out], ?_, hbel.alloc hz _⟩
        have h := HE.out
        rw [show k - i = k - (i + 1) + 1 from by omega, little] at h
        exact hid (by rw [List.append_assoc]; exact h)
      case measure => simp [intOf]; omega
    · have hik : i = k := by omega
      have HK := hid hik
      clear hik
      go_wp2_with fail
      go_ret
      have hacc : acc = little n k := by have h := HE.out; rw [HK.out, Nat.sub_self, little, List.append_nil] at h; exact h
      exact ⟨by rw [hacc]; rfl, hbel⟩

theorem bstr_app_s (a : List UInt8) (s : ByteArray) : bstr a ++ s = bstr (a ++ s.data.toList) := by
  apply ByteArray.ext
  simp [ByteArray.data_append]
theorem s_app_bstr (s : ByteArray) (a : List UInt8) : s ++ bstr a = bstr (s.data.toList ++ a) := by
  apply ByteArray.ext
  simp [ByteArray.data_append]
theorem bstr_self (s : ByteArray) : bstr s.data.toList = s := rfl

theorem rtext_any (s : ByteArray) (w : World) (h : s.size ≤ 200000000000000) :
    Calls Try.prog 43 #[.string s] w fun e w' => e = .returned (.string (bstr (little s.size 2 ++ s.data.toList))) ∧ Below w.heap.size w w' := by
  have hp := little_any s.size 2 w (by omega) (by omega)
  rw [show ((2 : Nat) : Int) = 2 from rfl] at hp
  have hl := little_len s.size 2
  go_enter Try.func43, Try.ntmps43
  go_wp2_with fail
  refine hp.mono ?_
  clear hp
  rintro e w1 ⟨rfl, hb1⟩
  go_wp2
  go_ret
  exact ⟨by rw [← bstr_app_s]; rfl, hb1⟩
end Go.Proofs.Ytppbcdcmpcagdaa
