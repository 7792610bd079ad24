/- The law SuperSpoilt returns true at every input: its walk over the contracts of super.Encode and Decode; the plain law that no bit turned leaves a sector sealed. No condition. -/
import Derived.Test.YtppbcdcmpcagdaaSuper4
namespace Go.Proofs.Ytppbcdcmpcagdaa
open Go.RowKit Go.CP

set_option maxHeartbeats 1000000 in
set_option maxRecDepth 100000 in
theorem superSpoilt_nat (w : World) (a b c : Int) (n : Nat) (hn : (n : Int) ≤ 65535) :
    Calls Try.prog 12 #[.agg #[.int .i64 a, .int .i64 b, .int .i64 c], .int .u16 n] w fun e w' => e = .returned (.bool true) ∧ Below w.heap.size w w' := by
  have h1 := sup_any a b c (w.alloc (.cells #[.int .i64 a, .int .i64 b, .int .i64 c] 60))
  go_enter Try.func12, Try.ntmps12
  go_wp2_with fail
  refine h1.mono ?_
  clear h1
  have hb0 : Below w.heap.size w (w.alloc (.cells #[.int .i64 a, .int .i64 b, .int .i64 c] 60)) := (Below.refl _ _).alloc (Nat.le_refl _) _
  rintro e w1 (⟨hB, A1, c1, rfl, ho1, hb1⟩ | ⟨hB, rfl, hb1⟩)
  · have hb01 := below_t hb0 hb1 hb0.size
    go_wp2_with fail
    refine (awake07_any _).mono ?_
    rintro e w2 ⟨rfl, hb2⟩
    have hb02 := below_t hb01 hb2 hb01.size
    have ho2 := (ho1.below hb2 (Nat.le_refl _)).mono (base' := w.heap.size) (by simp)
    obtain ⟨g1, cur1, rfl, -⟩ := ho2.open (by omega)
    have hsl : (sealL (supL a.toNat b.toNat c.toNat)).length = 128 := by rw [sealL_len, supL_len]
    obtain ⟨v, hv⟩ := get_of_lt (sealL (supL a.toNat b.toNat c.toNat)) (i := n % 1024 / 8) (by omega)
    have HV := hid hv
    have HSL := hid hsl
    have hfr := ho2.free rfl (n % 1024 / 8)
    obtain ⟨g', off', e1, hcx⟩ := Bytes.openq ho2.cells (by omega)
    cases e1
    have hd := hcx _ _ hv
    simp only [Nat.zero_add] at hd
    clear hcx hv hsl ho1 hB
    go_wp2_with fail
    obtain ⟨y, hy⟩ : ∃ y, (sealL (supL a.toNat b.toNat c.toNat)).set (n % 1024 / 8) (v ^^^ (1 <<< UInt8.ofNat (n % 8))) = y := ⟨_, rfl⟩
    have hyl : y.length = 128 := by rw [← hy, List.length_set, HSL.out]
    have e : (((sealL (supL a.toNat b.toNat c.toNat)).map bv).set (n % 1024 / 8) (.int .u8 (bits .xor .u8 (v.toNat : Int) (2 ^ (n % 8) % 256)))) = y.map bv := by
      rw [two_pow_u8 _ (Nat.mod_lt _ (by omega)), bits_xor_u8, ← hy, List.map_set]
    have hoy := ho2.set rfl (n % 1024 / 8) (.int .u8 (bits .xor .u8 (v.toNat : Int) (2 ^ (n % 8) % 256)))
    rw [e] at hoy
    have hyb : bigL y = bigL (sealL (supL a.toNat b.toNat c.toNat)) ^^^ 2 ^ (n % 1024) := by
      rw [← hy, bigL_set HV.out (Nat.mod_lt _ (by omega)), show 8 * (n % 1024 / 8) + n % 8 = n % 1024 from by omega]
    have hsd := spoilt_sup hyl hyb (Nat.mod_lt _ (by omega))
    have hbs : Below w.heap.size w (w2.setCell ⟨g1, n % 1024 / 8, none⟩ (.int .u8 (bits .xor .u8 (v.toNat : Int) (2 ^ (n % 8) % 256)))) := hb02.setCell (ho2.block g1 rfl).1 _
    have hdc := dec_any _ y c1 _ hoy.cells (by rw [hyl]; exact hoy.le.1) (by omega)
    rw [hyl] at hdc
    have HSD := hid hsd
    clear hy hyl e hyb hsd
    refine hdc.mono ?_
    clear hdc
    rintro e w3 ⟨hb3, (⟨h, -⟩ | ⟨-, rfl⟩)⟩
    · rw [HSD.out] at h; cases h
    have hb03 := below_t hbs hb3 hbs.size
    go_wp2
    go_ret
    exact ⟨rfl, hb03.alloc hb03.size _⟩
  · have hb01 := below_t hb0 hb1 hb0.size
    go_wp2_with fail
    refine (awake07_any _).mono ?_
    rintro e w2 ⟨rfl, hb2⟩
    have hb02 := below_t hb01 hb2 hb01.size
    go_wp2_with fail
    refine (awake07_any _).mono ?_
    rintro e w3 ⟨rfl, hb3⟩
    go_wp2
    go_ret
    exact ⟨rfl, below_t hb02 hb3 hb02.size⟩

theorem superSpoilt_walk (w : World) (a b c n : Int) (hn : 0 ≤ n ∧ n < 65536) :
    Calls Try.prog 12 #[.agg #[.int .i64 a, .int .i64 b, .int .i64 c], .int .u16 n] w fun e w' => e = .returned (.bool true) ∧ Below w.heap.size w w' := by
  obtain ⟨k, rfl⟩ := Int.eq_ofNat_of_zero_le hn.1
  exact superSpoilt_nat w a b c k (by omega)
end Go.Proofs.Ytppbcdcmpcagdaa
