/- The law VerbSpoilt returns true at every input. No condition. -/
import Derived.Test.YtppbcdcmpcagdaaVerbK
import Derived.Test.YtppbcdcmpcagdaaVerbP
namespace Go.Proofs.Ytppbcdcmpcagdaa
open Go.RowKit Go.CP

theorem dec_no2 (B0 : Option Addr) (b : List UInt8) (c : Nat) (w : World) (hb : Bytes w B0 b) (hc : b.length ≤ c) (hl : b.length ≤ 150000000000000) (h : decV b = none) :
    Calls Try.prog 85 #[.slice B0 b.length c] w fun e w' => e = .returned (.tuple #[.agg #[.int .i64 0, .int .i64 0, .int .i64 0, .int .i64 0, .int .i64 0, .string ⟨#[]⟩, .string ⟨#[]⟩, .int .i64 0, .int .i64 0, .int .i64 0, .int .i64 0, .int .i64 0, .slice none 0 0], .int .i64 2]) ∧ Hid (Below w.heap.size w w') := by
  refine (dec_full2 B0 b c w hb hc hl).mono ?_
  rintro e w' (⟨v', A, c, h', -⟩ | ⟨h', he, hr⟩)
  · rw [h] at h'; cases h'
  · exact ⟨he, hr⟩
set_option maxHeartbeats 4000000 in
set_option maxRecDepth 100000 in
theorem verbSpoilt_bad (w : World) (v : Vb) (A : Option Addr) (ca : Nat) (x y z : Value) (hg : goodV v = false) :
    Calls Try.prog 25 #[vval v A ca, x, y, z] w fun e w' => e = .returned (.bool true) ∧ Below w.heap.size w w' := by
  have HE := hid fun W => enc_err v A ca W hg
  have HB0 := hid ((Below.refl w.heap.size w).alloc (Nat.le_refl _) (.cells (vcells v A ca).toArray 100))
  clear hg
  obtain ⟨v0, v1, v2, v3, v4, v5, v6, v7, v8, v9, v10, v11, v12⟩ := v
  rw [show vval ⟨v0, v1, v2, v3, v4, v5, v6, v7, v8, v9, v10, v11, v12⟩ A ca = .agg #[.int .i64 v0, .int .i64 v1, .int .i64 v2, .int .i64 v3, .int .i64 v4, .string (bstr v5), .string (bstr v6), .int .i64 v7, .int .i64 v8, .int .i64 v9, .int .i64 v10, .int .i64 v11, .slice A v12.length ca] from rfl] at HE ⊢
  go_enter Try.func25, Try.ntmps25
  go_wp2_with fail
  refine (HE.out _).mono ?_
  rintro e w1 ⟨rfl, hb1⟩
  have HB1 := hid (below_t HB0.out hb1 HB0.out.size)
  clear hb1
  go_wp2_with fail
  refine (awake17_any _).mono ?_
  rintro e w2 ⟨rfl, hb2⟩
  have HB2 := hid (below_t HB1.out hb2 HB1.out.size)
  clear hb2
  go_wp2_with fail
  refine (awake17_any _).mono ?_
  rintro e w3 ⟨rfl, hb3⟩
  have HB3 := hid (below_t HB2.out hb3 HB2.out.size)
  clear hb3
  go_wp2_with fail
  go_ret
  exact ⟨rfl, HB3.out⟩
/-- What is known of a request's frame. -/
structure Frm (v : Vb) (fr : List UInt8) : Prop where
  lo : 7 ≤ fr.length
  hi : fr.length ≤ 1007
  full : decV fr = some v
  cut : ∀ k, k < fr.length → decV (fr.take k) = none
  more : ∀ m, m ≠ [] → decV (fr ++ m) = none
  bit : ∀ (j m : Nat) (x : UInt8), fr[j]? = some x → m < 8 → decV (fr.set j (x ^^^ (1 <<< UInt8.ofNat m))) = none
theorem frm_of {v : Vb} (h : goodV v = true) : Frm v (frameL 81 (reqL v)) := by
  have hl := reqL_len h
  have hf := frameL_len 81 (reqL v)
  exact ⟨by omega, by omega, decV_frame h, fun k hk => spoilt_cut h hk, fun m hm => spoilt_more h hm, fun j m x hx hm => spoilt_bit hx hm⟩
theorem mod_spell (a n : Nat) (h : 0 < n) : ∃ k : Nat, (a : Int) % (n : Int) = k ∧ k < n := ⟨a % n, by simp, Nat.mod_lt _ h⟩
set_option maxHeartbeats 8000000 in
set_option maxRecDepth 100000 in
theorem verbSpoilt_good (w : World) (v : Vb) (A : Option Addr) (ca : Nat) (cut bit : Nat) (B : Option Addr) (more : List UInt8) (c : Nat) (hd : Bytes w A v.data) (hcut : (cut : Int) ≤ 65535) (hbit : (bit : Int) ≤ 65535) (hb : Bytes w B more) (hl : more.length ≤ 140737488351232) (hg : goodV v = true) :
    Calls Try.prog 25 #[vval v A ca, .int .u16 cut, .int .u16 bit, .slice B more.length c] w fun e w' => e = .returned (.bool true) ∧ Below w.heap.size w w' := by
  have HB0 := hid ((Below.refl w.heap.size w).alloc (Nat.le_refl _) (.cells (vcells v A ca).toArray 100))
  have HE := hid (enc_ok v A ca (w.alloc (.cells (vcells v A ca).toArray 100)) (hd.alloc _) hg)
  have HFR := hid (frm_of hg)
  have HBB := hid fun W (h : Below w.heap.size w W) => (Cells.below hb h (Nat.le_refl _) : Bytes W B more)
  obtain ⟨fr, hfr⟩ : ∃ fr, frameL 81 (reqL v) = fr := ⟨_, rfl⟩
  rw [hfr] at HE HFR
  have HYES := hid fun (B0 : Option Addr) cc W (h1 : Bytes W B0 fr) h2 => dec_is B0 fr cc W h1 h2 (by have := HFR.out.hi; omega) HFR.out.full
  clear hd hg hb hfr
  obtain ⟨v0, v1, v2, v3, v4, v5, v6, v7, v8, v9, v10, v11, v12⟩ := v
  rw [show vval ⟨v0, v1, v2, v3, v4, v5, v6, v7, v8, v9, v10, v11, v12⟩ A ca = .agg #[.int .i64 v0, .int .i64 v1, .int .i64 v2, .int .i64 v3, .int .i64 v4, .string (bstr v5), .string (bstr v6), .int .i64 v7, .int .i64 v8, .int .i64 v9, .int .i64 v10, .int .i64 v11, .slice A v12.length ca] from rfl]
  go_enter Try.func25, Try.ntmps25
  go_wp2_with fail
  refine HE.out.mono ?_
  clear HE
  rintro e w1 ⟨A1, c1, m1, rfl, HR1⟩
  obtain rfl : m1 = fr := HR1.out.1
  have HO1 := hid (HR1.out.2.1.mono (base' := w.heap.size) HB0.out.size)
  have HB1 := hid (below_t HB0.out HR1.out.2.2 HB0.out.size)
  clear HR1 HB0
  go_wp2_with fail
  refine (awake17_any _).mono ?_
  rintro e w2 ⟨rfl, hb2⟩
  have HO2 := hid (HO1.out.below hb2 (Nat.le_refl _))
  have HB2 := hid (below_t HB1.out hb2 HB1.out.size)
  clear hb2 HO1 HB1
  obtain ⟨fl, hfl⟩ : ∃ fl, m1.length = fl := ⟨_, rfl⟩
  have HFL := hid hfl
  have hf7 : 7 ≤ fl := by rw [← hfl]; exact HFR.out.lo
  have hf1 : fl ≤ 1007 := by rw [← hfl]; exact HFR.out.hi
  have hf1i : (fl : Int) ≤ 1007 := by omega
  have hf7i : (7 : Int) ≤ fl := by omega
  rw [hfl] at HO2
  rw [hfl]
  clear hfl
  obtain ⟨g1, cur1, rfl, -⟩ := HO2.out.open (by omega)
  obtain ⟨k, hk, hkl⟩ := mod_spell cut fl (by omega)
  have hcl := HO2.out.le.1
  have hkc : (k : Int) ≤ c1 := by omega
  have hk0 : (0 : Int) ≤ k := by omega
  have hbk : Bytes (w2.alloc (.cells #[] 5)) (some ⟨g1, 0, none⟩) (m1.take k) := by
    have := (HO2.out.cells.alloc (.cells #[] 5)).take k
    rwa [← List.map_take] at this
  have hkn : (m1.take k).length = k := by rw [List.length_take, HFL.out]; omega
  have hsrc := fun c => Src.bytes (w := w2.alloc (.cells #[] 5)) (P := Try.prog) (z := .int .u8 0) (c := c) Try.underlying22 hbk
  rw [hkn] at hsrc
  have HSRC := hid hsrc
  have HKN := hid hkn
  have HKL := hid hkl
  have hkli : (k : Int) < fl := by omega
  clear hsrc hkn hbk hcl hkl
  go_wp2_with (at_builtin; refine ap_bytes rfl _ _ 22 rfl w2.heap.size rfl (Own.empty w2 5 1) rfl (HSRC.out _) (by omega) (by simp) ?_; intro A3 c3 w3 ho3 hg3)
  simp only [Nat.zero_add, List.nil_append] at ho3
  have hb3 : Below w2.heap.size w2 w3 := Below.of_grown ((World.grownBy_alloc _ _ _).trans hg3) (by simp) (by simp [blockOf])
  have h4 := dec_no2 A3 (m1.take k) c3 w3 ho3.cells (by rw [HKN.out]; exact ho3.le.1) (by rw [HKN.out]; omega) (HFR.out.cut k (by rw [HFL.out]; exact HKL.out))
  rw [HKN.out] at h4
  have H4 := hid h4
  have HB3 := hid (below_t HB2.out hb3 HB2.out.size)
  have HO3 := hid (HO2.out.below hb3 (Nat.le_refl _))
  clear h4 ho3 hg3 hb3 HSRC HKN HKL hk hkc hk0 hkli HO2 HB2
  refine H4.out.mono ?_
  clear H4
  rintro e w4 ⟨rfl, HR4⟩
  obtain ⟨w5, hw5⟩ : ∃ w5, w5 = w4.alloc (.cells #[.int .i64 0, .int .i64 0, .int .i64 0, .int .i64 0, .int .i64 0, .string ⟨#[]⟩, .string ⟨#[]⟩, .int .i64 0, .int .i64 0, .int .i64 0, .int .i64 0, .int .i64 0, .slice none 0 0] 100) := ⟨_, rfl⟩
  have HB5 : Hid (Below w.heap.size w w5) := hid (by rw [hw5]; have := below_t HB3.out HR4.out HB3.out.size; exact this.alloc this.size _)
  have HO5 : Hid (Go.CP.Own w5 w.heap.size 5 1 (some ⟨g1, 0, none⟩) fl c1 (m1.map bv)) := hid (by rw [hw5]; exact (HO3.out.below HR4.out (Nat.le_refl _)).alloc _)
  have HW5 := hid hw5
  clear hw5 HB3 HO3 HR4
  go_upto_region 5 with fail
  rw [← HW5.out]
  clear HW5
  have hs1 := fun c => Src.bytes (w := w5.alloc (.cells #[] 5)) (P := Try.prog) (z := .int .u8 0) (c := c) Try.underlying22 (HO5.out.cells.alloc (.cells #[] 5))
  rw [HFL.out] at hs1
  have HS1 := hid hs1
  clear hs1
  have hb5z := HB5.out.size
  go_wp2_with (first
    | (at_builtin; refine ap_bytes rfl _ _ 22 rfl w5.heap.size rfl (Own.empty w5 5 1) rfl (HS1.out _) (by omega) (by simp) ?_; intro A6 c6 w6 ho6 hg6; simp only [Nat.zero_add, List.nil_append] at ho6 ⊢; have hb6 : Below w5.heap.size w5 w6 := Below.of_grown ((World.grownBy_alloc _ _ _).trans hg6) (by simp) (by simp [blockOf]))
    | (at_builtin; refine ap_bytes rfl _ _ 22 rfl w5.heap.size rfl ho6 rfl (Src.bytes Try.underlying22 (HBB.out w6 (below_t HB5.out hb6 HB5.out.size))) (by omega) hb6.size ?_; intro A7 c7 w7 ho7 hg7; have hb7 : Below w5.heap.size w5 w7 := Below.grown hb6 hg7 hb6.size (fun q hq => (ho6.block q hq).1)))
  have HB7 := hid (below_t HB5.out hb7 HB5.out.size)
  have HO7 := hid (HO5.out.below hb7 (Nat.le_refl _))
  have hln : (m1 ++ more).length = fl + more.length := by rw [List.length_append, HFL.out]
  have HC7 : Hid (Bytes w7 A7 (m1 ++ more) ∧ (m1 ++ more).length ≤ c7 ∧ (m1 ++ more).length ≤ 150000000000000) := hid ⟨by have := ho7.cells; rwa [← List.map_append] at this, by rw [hln]; exact ho7.le.1, by rw [hln]; omega⟩
  have HLN := hid hln
  clear ho6 hg6 hb6 ho7 hg7 hb7 HS1 hln HO5 HB5
  obtain ⟨q, hq⟩ : ∃ q, more.isEmpty = q := ⟨_, rfl⟩
  have HQ := hid hq
  clear hq
  have HD7 : Hid (Calls Try.prog 85 #[.slice A7 (fl + more.length) c7] w7 fun e w' => ∃ (B8 : Option Addr) (n8 c8 : Nat) (u0 u1 u2 u3 u4 u7 u8 u9 u10 u11 : Int) (u5 u6 : ByteArray), e = .returned (.tuple #[.agg #[.int .i64 u0, .int .i64 u1, .int .i64 u2, .int .i64 u3, .int .i64 u4, .string u5, .string u6, .int .i64 u7, .int .i64 u8, .int .i64 u9, .int .i64 u10, .int .i64 u11, .slice B8 n8 c8], .int .i64 (if q then 0 else 2)]) ∧ Hid (Below w7.heap.size w7 w')) := hid (by
    rw [← HLN.out]
    cases q with
    | true =>
      have hm0 : more = [] := List.isEmpty_iff.1 HQ.out
      subst hm0
      have h1 := HC7.out
      rw [List.append_nil] at h1 ⊢
      refine (HYES.out A7 c7 w7 h1.1 h1.2.1).mono ?_
      rintro e w' ⟨A8, c8, rfl, hr⟩
      exact ⟨A8, v12.length, c8, v0, v1, v2, v3, v4, v7, v8, v9, v10, v11, bstr v5, bstr v6, rfl, hid hr.out.2.2⟩
    | false =>
      have hm0 : more ≠ [] := fun e => by have := HQ.out; rw [e] at this; cases this
      refine (dec_no2 A7 (m1 ++ more) c7 w7 HC7.out.1 HC7.out.2.1 HC7.out.2.2 (HFR.out.more more hm0)).mono ?_
      rintro e w' ⟨rfl, hr⟩
      exact ⟨none, 0, 0, 0, 0, 0, 0, 0, 0, 0, 0, 0, 0, ⟨#[]⟩, ⟨#[]⟩, rfl, hr⟩)
  obtain ⟨z, hz⟩ : ∃ z : Int, (if q then 0 else 2) = z := ⟨_, rfl⟩
  rw [hz] at HD7
  have HZ : Hid ((z == 0) = q ∧ ((more.length : Int) == 0) = q) := hid (by
    rw [← hz, ← HQ.out]
    cases more with
    | nil => exact ⟨by simp, by simp⟩
    | cons a l => exact ⟨by simp, by simp; omega⟩)
  refine HD7.out.mono ?_
  clear HD7 HYES HC7 HLN hz HQ
  rintro e w8 ⟨B8, n8, c8, u0, u1, u2, u3, u4, u7, u8, u9, u10, u11, u5, u6, rfl, HR8⟩
  obtain ⟨w9, hw9⟩ : ∃ w9, w9 = w8.alloc (.cells #[.int .i64 u0, .int .i64 u1, .int .i64 u2, .int .i64 u3, .int .i64 u4, .string u5, .string u6, .int .i64 u7, .int .i64 u8, .int .i64 u9, .int .i64 u10, .int .i64 u11, .slice B8 n8 c8] 100) := ⟨_, rfl⟩
  have HB9 : Hid (Below w.heap.size w w9) := hid (by rw [hw9]; have := below_t HB7.out HR8.out HB7.out.size; exact this.alloc this.size _)
  have HO9 : Hid (Go.CP.Own w9 w.heap.size 5 1 (some ⟨g1, 0, none⟩) fl c1 (m1.map bv)) := hid (by rw [hw9]; exact (HO7.out.below HR8.out (Nat.le_refl _)).alloc _)
  have HW9 := hid hw9
  clear hw9 HB7 HO7 HR8
  go_upto_region 6 with fail
  rw [← HW9.out]
  clear HW9
  have hs1 := fun c => Src.bytes (w := w9.alloc (.cells #[] 5)) (P := Try.prog) (z := .int .u8 0) (c := c) Try.underlying22 (HO9.out.cells.alloc (.cells #[] 5))
  rw [HFL.out] at hs1
  have HS1 := hid hs1
  clear hs1
  obtain ⟨j, hj, hjl⟩ := mod_spell (bit / 8) fl (by omega)
  rw [show ((bit / 8 : Nat) : Int) = (bit : Int) / 8 from by omega] at hj
  obtain ⟨x, hx⟩ := get_of_lt m1 (i := j) (by rw [HFL.out]; exact hjl)
  have HX := hid hx
  have hjl2 : (j : Int) < fl := by omega
  have hj0 : (0 : Int) ≤ j := by omega
  clear hx
  go_wp2_with (first
    | (at_builtin; refine ap_bytes rfl _ _ 22 rfl w9.heap.size rfl (Own.empty w9 5 1) rfl (HS1.out _) (by omega) (by simp) ?_; intro A10 c10 w10 ho10 hg10; simp only [Nat.zero_add, List.nil_append] at ho10 ⊢; have hb10 : Below w9.heap.size w9 w10 := Below.of_grown ((World.grownBy_alloc _ _ _).trans hg10) (by simp) (by simp [blockOf]); refine Hid.out ?_))
  refine hid ?_
  obtain ⟨gy, cury, rfl, -⟩ := ho10.open (by omega)
  have HB10 := hid (below_t HB9.out hb10 HB9.out.size)
  have HO10 := hid ho10
  have hgy := (ho10.block gy rfl).1
  have hfr := ho10.free rfl j
  have hd1 : w10.cell? ⟨gy, j, none⟩ = some (.int .u8 (x.toNat : Int)) := by
    obtain ⟨g', off', e1, hcx⟩ := Bytes.openq ho10.cells (by rw [HFL.out]; omega)
    cases e1
    have := hcx j x HX.out
    rwa [Nat.zero_add] at this
  have HB9z := HB9.out.size
  clear ho10 hg10 hb10 HS1 HB9 HO9
  go_wp2_with fail
  obtain ⟨y, hy⟩ : ∃ y, m1.set j (x ^^^ (1 <<< UInt8.ofNat (bit % 8))) = y := ⟨_, rfl⟩
  have hyl : y.length = fl := by rw [← hy, List.length_set, HFL.out]
  have e : ((m1.map bv).set j (.int .u8 (bits .xor .u8 (x.toNat : Int) (2 ^ (bit % 8) % 256)))) = y.map bv := by
    rw [two_pow_u8 _ (Nat.mod_lt _ (by omega)), bits_xor_u8, ← hy, List.map_set]
  have hoy := HO10.out.set rfl j (.int .u8 (bits .xor .u8 (x.toNat : Int) (2 ^ (bit % 8) % 256)))
  rw [e] at hoy
  have hbs : Below w.heap.size w (w10.setCell ⟨gy, j, none⟩ (.int .u8 (bits .xor .u8 (x.toNat : Int) (2 ^ (bit % 8) % 256)))) := HB10.out.setCell (by have := HB9z; show w.heap.size ≤ gy; omega) _
  have hdc := dec_no2 (some ⟨gy, 0, none⟩) y c10 _ hoy.cells (by rw [hyl]; exact hoy.le.1) (by rw [hyl]; omega) (by rw [← hy]; exact HFR.out.bit j (bit % 8) x HX.out (Nat.mod_lt _ (by omega)))
  rw [hyl] at hdc
  have HDC := hid hdc
  have HBS := hid hbs
  clear hy hyl e hoy hdc hbs hd1 hfr hgy HB10 HO10 HX hj hj0 hjl2
  refine HDC.out.mono ?_
  clear HDC
  rintro e w11 ⟨rfl, HR11⟩
  have HB11 := hid (below_t HBS.out HR11.out HBS.out.size)
  have hz1 := HZ.out.1
  have hz2 := HZ.out.2
  go_wp2_with fail
  go_ret
  exact ⟨by simp, HB11.out.alloc HB11.out.size _⟩
theorem verbSpoilt_walk (w : World) (v : Vb) (A : Option Addr) (ca : Nat) (cut bit : Int) (B : Option Addr) (b : List UInt8) (c : Nat) (hd : Bytes w A v.data) (h1 : 0 ≤ cut ∧ cut < 65536) (h2 : 0 ≤ bit ∧ bit < 65536) (hb : Bytes w B b) (_ : b.length ≤ c) (hl : b.length ≤ 140737488351232) :
    Calls Try.prog 25 #[vval v A ca, .int .u16 cut, .int .u16 bit, .slice B b.length c] w fun e w' => e = .returned (.bool true) ∧ Below w.heap.size w w' := by
  obtain ⟨n, rfl⟩ := Int.eq_ofNat_of_zero_le h1.1
  obtain ⟨m, rfl⟩ := Int.eq_ofNat_of_zero_le h2.1
  cases hg : goodV v with
  | false => exact verbSpoilt_bad w v A ca _ _ _ hg
  | true => exact verbSpoilt_good w v A ca n m B b c hd (by omega) (by omega) hb hl hg
end Go.Proofs.Ytppbcdcmpcagdaa
