/- The law FieldBack returns true at every input: its walk over the contracts of field.Num, Text, Frame, Open, Read and of a Form's methods. No condition. -/
import Derived.Test.YtppbcdcmpcagdaaField10
namespace Go.Proofs.Ytppbcdcmpcagdaa
open Go.RowKit Go.CP

theorem cut_spell (a n : Nat) (h : 0 < n) : ∃ k : Nat, (a : Int) % (n : Int) = k ∧ k < n := ⟨a % n, by simp, Nat.mod_lt _ h⟩

set_option maxHeartbeats 1000000 in
set_option maxRecDepth 100000 in
theorem fieldBack_long (w : World) (x : UInt8) (n a : Nat) (s : ByteArray) (hn : n < 4294967296) (hsl : s.size ≤ 140737488351232) (h : 65529 < s.size) :
    Calls Try.prog 7 #[bv x, .int .u32 n, .string s, .int .u16 a] w fun e w' => e = .returned (.bool true) ∧ Below w.heap.size w w' := by
  have h1 := num_ok none [] 0 n w (Cells.nil _ _) (by simp) hn
  have hq : decide (65000 < (s.size : Int)) = true := by simp; omega
  go_enter Try.func7, Try.ntmps7
  go_wp2_with fail
  refine h1.mono ?_
  clear h1
  rintro e w1 ⟨A1, c1, rfl, ho1, hb1⟩
  have h2 := text_any A1 _ c1 s w1 ho1.cells (by simp [little_len])
  rw [show ([] ++ little n 4 : List UInt8).length = 4 from by simp [little_len]] at h2
  go_wp2_with fail
  refine h2.mono ?_
  clear h2
  rintro e w2 (⟨hs, A2, c2, rfl, ho2, hb2⟩ | ⟨hs, rfl, rfl⟩)
  · have hb02 := below_t hb1 hb2 hb1.size
    have h3 := frame_err (x.toNat : Int) A2 (([] ++ little n 4 : List UInt8).length + 2 + s.size) c2 w2 (by simp [little_len]; omega)
    rw [show ([] ++ little n 4 : List UInt8).length = 4 from by simp [little_len]] at h3
    rw [show ([] ++ little n 4 : List UInt8).length = 4 from by simp [little_len]]
    go_wp2_with fail
    refine h3.mono ?_
    clear h3
    rintro e w3 ⟨rfl, rfl⟩
    go_wp2_with fail
    refine (awake_any _).mono ?_
    rintro e w5 ⟨rfl, hb5⟩
    go_wp2
    go_ret
    exact ⟨rfl, below_t hb02 hb5 hb02.size⟩
  · have h3 := frame_ok x none [] 0 w2 (Cells.nil _ _) (by simp)
    go_wp2_with fail
    refine h3.mono ?_
    clear h3
    rintro e w3 ⟨A3, c3, rfl, ho3, hb3⟩
    have hb03 := below_t hb1 hb3 hb1.size
    go_wp2_with fail
    refine (awake_any _).mono ?_
    rintro e w5 ⟨rfl, hb5⟩
    go_wp2
    go_ret
    exact ⟨rfl, below_t hb03 hb5 hb03.size⟩

set_option maxHeartbeats 1000000 in
set_option maxRecDepth 100000 in
theorem fieldBack_ok (w : World) (x : UInt8) (n a : Nat) (s : ByteArray) (hn : n < 4294967296) (h : s.size ≤ 65529) (hal : (a : Int) ≤ 65535) :
    Calls Try.prog 7 #[bv x, .int .u32 n, .string s, .int .u16 a] w fun e w' => e = .returned (.bool true) ∧ Below w.heap.size w w' := by
  have h1 := num_ok none [] 0 n w (Cells.nil _ _) (by simp) hn
  have hsz : s.data.toList.length = s.size := rfl
  obtain ⟨body, hbody⟩ : ∃ body, little n 4 ++ (little s.size 2 ++ s.data.toList ++ []) = body := ⟨_, rfl⟩
  have hbl : body.length = 6 + s.size := by rw [← hbody]; simp [little_len]; omega
  have hbody2 : [] ++ little n 4 ++ little s.size 2 ++ s.data.toList = body := by rw [← hbody]; simp
  have HBL := hid hbl
  have HBODY := hid hbody
  go_enter Try.func7, Try.ntmps7
  go_wp2_with fail
  refine h1.mono ?_
  clear h1
  rintro e w1 ⟨A1, c1, rfl, ho1, hb1⟩
  have h2 := text_ok A1 _ c1 s w1 ho1.cells (by simp [little_len]) (by omega)
  rw [hbody2, show ([] ++ little n 4 : List UInt8).length = 4 from by simp [little_len]] at h2
  clear hbl hbody hbody2
  go_wp2_with fail
  refine h2.mono ?_
  clear h2
  rintro e w2 ⟨A2, c2, rfl, ho2, hb2⟩
  have hb02 := below_t hb1 hb2 hb1.size
  have h3 := frame_ok x A2 body c2 w2 ho2.cells (by rw [HBL.out]; omega)
  rw [HBL.out, show 6 + s.size = 4 + 2 + s.size from by omega] at h3
  go_wp2_with fail
  refine h3.mono ?_
  clear h3
  rintro e w3 ⟨A3, c3, rfl, ho3, hb3⟩
  have hb03 := below_t hb02 hb3 hb02.size
  go_wp2_with fail
  refine (awake_any _).mono ?_
  rintro e w4 ⟨rfl, hb4⟩
  have hb04 := below_t hb03 hb4 hb03.size
  have ho4 := ho3.below hb4 (Nat.le_refl _)
  obtain ⟨g3, cur3, rfl, -⟩ := ho4.open (by omega)
  have HFL : Hid ((frameL x body).length = 6 + s.size + 7) := hid (by have := HBL.out; rw [frameL_len]; omega)
  have h5 := open_any (some ⟨g3, 0, none⟩) (frameL x body) c3 w4 ho4.cells (by rw [HFL.out]; exact ho3.le.1) (by rw [HFL.out]; omega)
  rw [HFL.out] at h5
  clear ho1 ho2 ho3
  go_wp2_with fail
  refine h5.mono ?_
  clear h5
  rintro e w5 (⟨-, A5, c5, t, rfl, ht, ho5, hb5⟩ | ⟨h5, -⟩)
  case inr => exact absurd (open_frame x body (by rw [HBL.out]; omega)) h5
  rw [frame_head] at ht
  cases ht
  rw [frame_body x body (by rw [HBL.out]; omega)] at ho5
  rw [frame_body x body (by rw [HBL.out]; omega)]
  have hb05 := below_t hb04 hb5 hb04.size
  have h6 := read_any A5 body c5 w5 ho5.cells (by rw [HBL.out]; omega)
  go_wp2_with fail
  refine h6.mono ?_
  clear h6
  rintro e w6 ⟨g, B, rfl, hf6, hg6, hB6, hb6⟩
  have hb06 := below_t hb05 hb6 hb05.size
  obtain ⟨k, hk, hkl⟩ := cut_spell a (6 + s.size + 7) (by omega)
  have ho6 := (ho4.below hb5 (Nat.le_refl _)).below hb6 (Nat.le_refl _)
  rw [show ((6 + s.size + 7 : Nat) : Int) = 6 + (s.size : Int) + 7 from by omega] at hk
  have HFS := hid hf6
  clear hf6 ho4
  have hkc : (k : Int) ≤ c3 := by have := ho6.le.1; omega
  have hkl2 : (k : Int) < 6 + s.size + 7 := by omega
  have hbk : Bytes (w6.alloc (.cells #[] 5)) (some ⟨g3, 0, none⟩) ((frameL x body).take k) := by
    have := (ho6.cells.alloc (.cells #[] 5)).take k
    rwa [← List.map_take] at this
  have hkn : ((frameL x body).take k).length = k := by rw [List.length_take, HFL.out]; omega
  have hsrc := fun c => Src.bytes (w := w6.alloc (.cells #[] 5)) (P := Try.prog) (z := .int .u8 0) (c := c) Try.underlying22 hbk
  rw [hkn] at hsrc
  have HSRC := hid hsrc
  have HKN := hid hkn
  clear hsrc hkn hbk
  go_wp2_with (at_builtin; refine ap_bytes rfl _ _ 22 rfl w6.heap.size rfl (Own.empty w6 5 1) rfl (HSRC.out _) (by omega) (by simp) ?_; intro A7 c7 w7 ho7 hg7)
  simp only [Nat.zero_add, List.nil_append] at ho7
  have hb7 : Below w6.heap.size w6 w7 := Below.of_grown ((World.grownBy_alloc _ _ _).trans hg7) (by simp) (by simp [blockOf])
  have h8 := open_any A7 ((frameL x body).take k) c7 w7 ho7.cells (by rw [HKN.out]; exact ho7.le.1) (by rw [HKN.out]; omega)
  rw [HKN.out] at h8
  refine h8.mono ?_
  clear h8
  have HOC := hid (open_cut x body (by rw [HBL.out]; omega) (p := k) (by rw [HFL.out]; omega))
  rintro e w8 (⟨h8, -⟩ | ⟨-, rfl, hb8⟩)
  · rw [HOC.out] at h8; omega
  rw [HOC.out]
  have hb68 := below_t hb7 hb8 hb7.size
  have hb08 := below_t hb06 hb68 hb06.size
  have hf8 := HFS.out.below hb68
  rw [← HBODY.out] at hf8
  have h9 := fnum_ok g B n _ w8 hf8 hn
  have hbg : w.heap.size ≤ g := Nat.le_trans hb05.size hg6
  clear ho5 ho6 ho7 hf8
  go_wp2_with fail
  refine h9.mono ?_
  clear h9
  rintro e w9 ⟨rfl, hf9, ht9⟩
  have hb09 := hb08.trans (ht9.1.mono hbg)
  have hf9' : FormS w9 g B (little s.data.toList.length 2 ++ s.data.toList ++ []) false := hf9
  have h10 := ftext_ok g B s.data.toList [] w9 hf9' (by show s.size ≤ 65535; omega)
  rw [bstr_self] at h10
  clear hf9 hf9'
  go_wp2_with fail
  refine h10.mono ?_
  clear h10
  rintro e w10 ⟨rfl, hf10, ht10⟩
  have hb10 := hb09.trans (ht10.1.mono hbg)
  have h11 := fend_any g B [] false w10 hf10
  rw [show endE [] false = 0 from rfl] at h11
  go_wp2_with fail
  refine h11.mono ?_
  rintro e w11 ⟨rfl, rfl⟩
  go_wp2
  go_ret
  exact ⟨rfl, hb10⟩

theorem fieldBack_walk (w : World) (a n : Int) (s : ByteArray) (c : Int) (h1 : 0 ≤ a ∧ a < 256) (h2 : 0 ≤ n ∧ n < 4294967296) (hs : s.size ≤ 140737488351232) (h3 : 0 ≤ c ∧ c < 65536) :
    Calls Try.prog 7 #[.int .u8 a, .int .u32 n, .string s, .int .u16 c] w fun e w' => e = .returned (.bool true) ∧ Below w.heap.size w w' := by
  obtain ⟨x, hx⟩ := u8_spell a h1
  obtain ⟨m, rfl⟩ := Int.eq_ofNat_of_zero_le h2.1
  obtain ⟨k, rfl⟩ := Int.eq_ofNat_of_zero_le h3.1
  rw [hx]
  by_cases h : s.size ≤ 65529
  · exact fieldBack_ok w x m k s (by omega) h (by omega)
  · exact fieldBack_long w x m k s (by omega) hs (by omega)
end Go.Proofs.Ytppbcdcmpcagdaa
