/- The law VerbOne returns true at every input: no bytes are read as two things. No condition. -/
import Derived.Test.YtppbcdcmpcagdaaVerbK
import Derived.Test.YtppbcdcmpcagdaaVerbD
namespace Go.Proofs.Ytppbcdcmpcagdaa
open Go.RowKit Go.CP

theorem decV_tag {b : List UInt8} {v : Vb} (h : decV b = some v) : b[0]? = some 81 := by
  unfold decV at h
  split at h
  · next hc => exact (bodyT_ok hc.1).2.1
  · cases h
theorem decR_tag {b : List UInt8} {v : Rp} (h : decR b = some v) : b[0]? = some 65 := by
  unfold decR at h
  split at h
  · next hc => exact (bodyT_ok hc.1).2.1
  · cases h
theorem decC_tag {b : List UInt8} {v : Rc} (h : decC b = some v) : b[0]? = some 67 := by
  unfold decC at h
  split at h
  · next hc => exact (bodyT_ok hc.1).2.1
  · cases h
theorem dec_tag (B0 : Option Addr) (b : List UInt8) (c : Nat) (w : World) (hb : Bytes w B0 b) (hc : b.length ≤ c) (hl : b.length ≤ 140737488351232) :
    Calls Try.prog 85 #[.slice B0 b.length c] w fun e w' => ∃ v A d k, e = .returned (.tuple #[vval v A d, .int .i64 k]) ∧ Hid (k = 0 ∧ b[0]? = some 81 ∨ k = 2) ∧ Hid (Below w.heap.size w w') := by
  refine (dec_full B0 b c w hb hc hl).mono ?_
  rintro e w' (⟨v, A, d, h, rfl, hr⟩ | ⟨h, rfl, hr⟩)
  · exact ⟨v, A, d, 0, rfl, hid (.inl ⟨rfl, decV_tag h⟩), hid hr.out.2.2⟩
  · exact ⟨vbZero, none, 0, 2, rfl, hid (.inr rfl), hr⟩
theorem ansd_tag (B0 : Option Addr) (b : List UInt8) (c : Nat) (w : World) (hb : Bytes w B0 b) (hc : b.length ≤ c) (hl : b.length ≤ 140737488351232) :
    Calls Try.prog 89 #[.slice B0 b.length c] w fun e w' => ∃ v A d B f k, e = .returned (.tuple #[rval v A d B f, .int .i64 k]) ∧ Hid (k = 0 ∧ b[0]? = some 65 ∨ k = 2) ∧ Hid (Below w.heap.size w w') := by
  refine (ansd_full B0 b c w hb hc hl).mono ?_
  rintro e w' (⟨v, A, d, B, f, h, rfl, hr⟩ | ⟨h, rfl, hr⟩)
  · exact ⟨v, A, d, B, f, 0, rfl, hid (.inl ⟨rfl, decR_tag h⟩), hid hr.out.2.2.2⟩
  · exact ⟨rpZero, none, 0, none, 0, 2, rfl, hid (.inr rfl), hr⟩
theorem called_tag (B0 : Option Addr) (b : List UInt8) (c : Nat) (w : World) (hb : Bytes w B0 b) (hc : b.length ≤ c) (hl : b.length ≤ 140737488351232) :
    Calls Try.prog 93 #[.slice B0 b.length c] w fun e w' => ∃ v k, e = .returned (.tuple #[cval v, .int .i64 k]) ∧ Hid (k = 0 ∧ b[0]? = some 67 ∨ k = 2) ∧ Hid (Below w.heap.size w w') := by
  refine (called_any B0 b c w hb hc hl).mono ?_
  rintro e w' (⟨v, h, rfl, hr⟩ | ⟨h, rfl, hr⟩)
  · exact ⟨v, 0, rfl, hid (.inl ⟨rfl, decC_tag h⟩), hr⟩
  · exact ⟨⟨0, 0, 0⟩, 2, rfl, hid (.inr rfl), hr⟩
set_option maxHeartbeats 2000000 in
set_option maxRecDepth 100000 in
theorem verbOne_walk (w : World) (A : Option Addr) (l : List UInt8) (c : Nat) (ha : Bytes w A l) (hc : l.length ≤ c) (hl : l.length ≤ 140737488351232) :
    Calls Try.prog 27 #[.slice A l.length c] w fun e w' => e = .returned (.bool true) ∧ Below w.heap.size w w' := by
  have HD := hid (dec_tag A l c w ha hc hl)
  have HA : Hid (∀ W, Below w.heap.size w W → Calls Try.prog 89 #[.slice A l.length c] W fun e w' => ∃ v A d B f k, e = .returned (.tuple #[rval v A d B f, .int .i64 k]) ∧ Hid (k = 0 ∧ l[0]? = some 65 ∨ k = 2) ∧ Hid (Below W.heap.size W w')) := hid fun W h => ansd_tag A l c W (Cells.below ha h (Nat.le_refl _)) hc hl
  have HC : Hid (∀ W, Below w.heap.size w W → Calls Try.prog 93 #[.slice A l.length c] W fun e w' => ∃ v k, e = .returned (.tuple #[cval v, .int .i64 k]) ∧ Hid (k = 0 ∧ l[0]? = some 67 ∨ k = 2) ∧ Hid (Below W.heap.size W w')) := hid fun W h => called_tag A l c W (Cells.below ha h (Nat.le_refl _)) hc hl
  clear ha
  go_enter Try.func27, Try.ntmps27
  go_wp2_with fail
  refine HD.out.mono ?_
  clear HD
  rintro e w1 ⟨v, A1, d1, k1, rfl, HK1, HB1⟩
  obtain ⟨v0, v1, v2, v3, v4, v5, v6, v7, v8, v9, v10, v11, v12⟩ := v
  rw [show vval ⟨v0, v1, v2, v3, v4, v5, v6, v7, v8, v9, v10, v11, v12⟩ A1 d1 = .agg #[.int .i64 v0, .int .i64 v1, .int .i64 v2, .int .i64 v3, .int .i64 v4, .string (bstr v5), .string (bstr v6), .int .i64 v7, .int .i64 v8, .int .i64 v9, .int .i64 v10, .int .i64 v11, .slice A1 v12.length d1] from rfl]
  have HB2 := hid (HB1.out.alloc HB1.out.size (.cells #[.int .i64 v0, .int .i64 v1, .int .i64 v2, .int .i64 v3, .int .i64 v4, .string (bstr v5), .string (bstr v6), .int .i64 v7, .int .i64 v8, .int .i64 v9, .int .i64 v10, .int .i64 v11, .slice A1 v12.length d1] 100))
  go_wp2_with fail
  refine (HA.out _ HB2.out).mono ?_
  clear HA
  rintro e w3 ⟨r, A3, d3, B3, f3, k3, rfl, HK3, HB3⟩
  obtain ⟨r0, r1, r2, r3, r4, r5, r6, r7, r8, r9, r10, r11⟩ := r
  rw [show rval ⟨r0, r1, r2, r3, r4, r5, r6, r7, r8, r9, r10, r11⟩ A3 d3 B3 f3 = .agg #[.int .i64 r0, .int .i64 r1, .int .i64 r2, .int .i64 r3, .int .i64 r4, .int .i64 r5, .int .i64 r6, .int .i64 r7, .int .i64 r8, .int .i64 r9, .slice A3 r10.length d3, .slice B3 r11.length f3] from rfl]
  have HB4 := hid (below_t HB2.out HB3.out HB2.out.size)
  have HB5 := hid (HB4.out.alloc HB4.out.size (.cells #[.int .i64 r0, .int .i64 r1, .int .i64 r2, .int .i64 r3, .int .i64 r4, .int .i64 r5, .int .i64 r6, .int .i64 r7, .int .i64 r8, .int .i64 r9, .slice A3 r10.length d3, .slice B3 r11.length f3] 112))
  clear HB1 HB2 HB3 HB4
  go_wp2_with fail
  refine (HC.out _ HB5.out).mono ?_
  clear HC
  rintro e w6 ⟨⟨c0, c1, c2⟩, k6, rfl, HK6, HB6⟩
  rw [show cval ⟨c0, c1, c2⟩ = .agg #[.int .i64 c0, .int .i64 c1, .int .i64 c2] from rfl]
  have HB7 := hid (below_t HB5.out HB6.out HB5.out.size)
  have HB8 := hid (HB7.out.alloc HB7.out.size (.cells #[.int .i64 c0, .int .i64 c1, .int .i64 c2] 121))
  have HW := hid (fun W (h : Below w.heap.size w W) => (awake17_any W).mono fun e w' h' => (show e = .returned (.bool true) ∧ Below w.heap.size w w' from ⟨h'.1, below_t h h'.2 h.size⟩))
  clear HB5 HB6 HB7
  have h3 : (k1 = 0 ∧ k3 = 2 ∧ k6 = 2) ∨ (k1 = 2 ∧ k3 = 0 ∧ k6 = 2) ∨ (k1 = 2 ∧ k3 = 2 ∧ k6 = 0) ∨ (k1 = 2 ∧ k3 = 2 ∧ k6 = 2) := by
    rcases HK1.out with ⟨h1, t1⟩ | h1 <;> rcases HK3.out with ⟨h3, t3⟩ | h3 <;> rcases HK6.out with ⟨h6, t6⟩ | h6 <;> simp_all
  clear HK1 HK3 HK6
  rcases h3 with ⟨rfl, rfl, rfl⟩ | ⟨rfl, rfl, rfl⟩ | ⟨rfl, rfl, rfl⟩ | ⟨rfl, rfl, rfl⟩
  all_goals
    go_wp2_with fail
    refine (HW.out _ HB8.out).mono ?_
    rintro e w9 ⟨rfl, hb9⟩
    have HB9 := hid hb9
    clear hb9
    go_wp2_with fail
    go_ret
    exact ⟨rfl, HB9.out⟩
end Go.Proofs.Ytppbcdcmpcagdaa
