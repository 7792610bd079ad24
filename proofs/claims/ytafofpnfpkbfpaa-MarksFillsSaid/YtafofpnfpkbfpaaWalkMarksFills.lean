/- The law MarksFills returns true at every input: its walk over the contracts of marks. No condition. -/
import Derived.Test.YtafofpnfpkbfpaaMarks8
namespace Go.Proofs.Ytafofpnfpkbfpaa
open Go.RowKit Go.CP

theorem ff_range (l : List UInt8) : ∀ d n, n ≤ ff l d n ∧ ff l d n ≤ n + d ∧ (∀ j, n ≤ j → j < ff l d n → bitOf l j = true) ∧ (ff l d n < n + d → bitOf l (ff l d n) = false)
  | 0, n => by simp [ff]; intro j h1 h2; omega
  | d + 1, n => by
    have h := ff_range l d (n + 1)
    unfold ff
    split
    · rename_i hb
      refine ⟨by omega, by omega, fun j h1 h2 => ?_, fun h1 => h.2.2.2 (by omega)⟩
      by_cases e : j = n
      · rw [e]; exact hb
      · exact h.2.2.1 j (by omega) h2
    · rename_i hb
      exact ⟨by omega, by omega, fun j h1 h2 => by omega, fun _ => by simpa using hb⟩
theorem cn_all (l : List UInt8) (a : Nat) : ∀ k, (∀ j, a ≤ j → j < a + k → bitOf l j = true) → cn l a k = k
  | 0, _ => rfl
  | k + 1, h => by rw [cn, cn_all l a k (fun j h1 h2 => h j h1 (by omega)), if_pos (h _ (by omega) (by omega))]

set_option maxRecDepth 100000 in
theorem marksFills_walk (w : World) (A : Option Addr) (l : List UInt8) (c : Nat) (n m : Int) (hb : Bytes w A l) (_ : l.length ≤ c) (_ : l.length ≤ 140737488351232)
    (hn : 0 ≤ n ∧ n < 65536) (hm : 0 ≤ m ∧ m < 256) :
    Calls Try.prog 10 #[.slice A l.length c, .int .u16 n, .int .u8 m] w fun e w' => e = .returned (.bool true) ∧ Below w.heap.size w w' := by
  obtain ⟨n, rfl⟩ := Int.eq_ofNat_of_zero_le hn.1
  obtain ⟨m, rfl⟩ := Int.eq_ofNat_of_zero_le hm.1
  by_cases h1 : l.length = 128
  · have hne : ((l.length : Int) != 128) = false := by rw [bne_eq_false_iff_eq]; omega
    have H1 := hid h1
    clear h1
    obtain ⟨a, hi, hi2⟩ : ∃ a : Nat, ((n : Int) % 900) = a ∧ a < 900 := ⟨n % 900, by omega, by omega⟩
    obtain ⟨d, hk, hk2⟩ : ∃ d : Nat, ((m : Int) % 100) = d ∧ d < 100 := ⟨m % 100, by omega, by omega⟩
    have HI := hid hi
    have HK := hid hk
    clear hi hk
    go_enter Try.func10, Try.ntmps10
    go_wp2_with (go_at_call 22; refine (awake_any _).mono ?_; rintro e w1 ⟨rfl, hb1⟩)
    rw [HI.out, HK.out]
    go_loopw [0, 9, 10] (fun av lv iv wr => ∃ (i p : Nat) (A' : Option Addr) (L : List UInt8) (c' : Nat), av = .slice A' 128 c' ∧ lv = .int .i64 ((p : Int) - 1) ∧ iv = .int .i64 (i : Nat) ∧ Bytes wr A' L ∧ Hid (L.length = 128) ∧ a ≤ p ∧ p ≤ a + d ∧ a + i ≤ p ∧ Hid (∀ j, a ≤ j → j < p → bitOf L j = true) ∧ Below w.heap.size w wr) (fun _ _ iv _ => 101 - (intOf iv).toNat)
    case atStart => exact ⟨0, a, A, l, c, by rw [H1.out], rfl, rfl, hb.below hb1 (Nat.le_refl _), H1, by omega, by omega, by omega, hid (fun j h1 h2 => by omega), hb1⟩
    case round =>
      obtain ⟨i, p, A', L, c', rfl, rfl, rfl, hbL, HL, hp1, hp2, hp3, HM, hbel⟩ := hrel
      clear hb hb1
      have hff := ff_range L d a
      have hf := first_ok A' L c' a (a + d) wr hbL HL.out (by omega) (by omega)
      have hk := count_ok A' L c' a (a + d) wr hbL HL.out (by omega) (by omega)
      rw [HL.out, firstN, firstE, show a + d - a = d from by omega] at hf
      rw [HL.out, show a + d - a = d from by omega] at hk
      have hmp := HM.out
      have hi : i < 101 := by omega
      have hpq : p ≤ ff L d a := by
        rcases Nat.lt_or_ge (ff L d a) p with h | h
        · have h1 := hmp _ hff.1 h
          rw [hff.2.2.2 (by omega)] at h1
          cases h1
        · exact h
      obtain ⟨q, hq⟩ : ∃ q, ff L d a = q := ⟨_, rfl⟩
      rw [hq] at hff hf hpq
      obtain ⟨hf1, hf2, hf3, hf4⟩ := hff
      by_cases hqz : q = a + d
      · rw [if_pos hqz, if_pos hqz, Int.natCast_add] at hf
        have hcn : cn L a d = d := cn_all L a d fun j h1 h2 => hf3 j h1 (by omega)
        rw [hcn, Int.natCast_add] at hk
        have HF := hid hf
        have HKK := hid hk
        clear hf hk hcn hq hqz hf3 hf4 hmp
        go_wp2_with fail
        refine HF.out.mono ?_
        rintro e wr ⟨rfl, rfl⟩
        go_wp2_with fail
        refine HKK.out.mono ?_
        rintro e wr ⟨rfl, rfl⟩
        go_wp2_with fail
        go_ret
        exact ⟨ret_bool (by rw [beq_iff_eq]; omega), hbel⟩
      · rw [if_neg hqz, if_neg hqz, Int.natCast_add] at hf
        have hs := set_ok A' L c' q true wr hbL HL.out (by omega)
        have hsl := setBit_len L q true
        have hsb := fun j => bitOf_setBit L q j true (by have := HL.out; omega)
        rw [HL.out] at hs
        have hM' : ∀ j, a ≤ j → j < q + 1 → bitOf (setBit L q true) j = true := by
          intro j h1 h2
          rw [hsb j]
          split
          · rfl
          · exact hf3 j h1 (by omega)
        have HM' := hid hM'
        have HSL := hid hsl
        have HF := hid hf
        have HS := hid hs
        have hqlt : q < a + d := by omega
        clear hf hs hq hqz hf3 hf4 hmp hM' hsl hsb hk
        go_wp2_with fail
        refine HF.out.mono ?_
        rintro e wr ⟨rfl, rfl⟩
        go_wp2_with fail
        refine HS.out.mono ?_
        rintro e w2 ⟨A2, c2, rfl, ho2, hb2⟩
        go_wp2_with fail
        go_roundw
        case rel => exact ⟨i + 1, q + 1, A2, setBit L q true, c2, rfl, by go_num, by go_num, ho2.cells, hid (by rw [HSL.out, HL.out]), by omega, by omega, by omega, HM', hbel.trans (hb2.mono hbel.size)⟩
        case measure => simp [intOf]; omega
  · have hne : ((l.length : Int) != 128) = true := by rw [bne_iff_ne]; omega
    clear h1
    go_enter Try.func10, Try.ntmps10
    go_wp2_with (go_at_call 22; refine (awake_any _).mono ?_; rintro e w1 ⟨rfl, hb1⟩)
    go_ret
    exact ⟨rfl, hb1⟩
end Go.Proofs.Ytafofpnfpkbfpaa
