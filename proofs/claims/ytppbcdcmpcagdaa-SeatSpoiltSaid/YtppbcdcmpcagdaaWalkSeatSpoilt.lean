/- The law SeatSpoilt returns true at every input: its walk over the contracts of seat.Encode, Decode and of the reference's Same; the plain law that no bit turned leaves a sector sealed. No condition. -/
import Derived.Test.YtppbcdcmpcagdaaSeat5
import Derived.Deep.QuietTactic
import Derived.BigQuiet
import Derived.Deep.DrawnRows
namespace Go.Proofs.Ytppbcdcmpcagdaa
open Go.RowKit Go.CP
attribute [local go_sem ↓] Go.wp_at_zero Go.wp_at_succ

theorem box6_keep {w W W' : World} {x0 x1 x2 y0 y1 y2 : Value} {g h : Nat} (k : W.cell? ⟨g, 0, none⟩ = some x0 ∧ W.cell? ⟨g, 1, none⟩ = some x1 ∧ W.cell? ⟨g, 2, none⟩ = some x2 ∧ W.cell? ⟨h, 0, none⟩ = some y0 ∧ W.cell? ⟨h, 1, none⟩ = some y1 ∧ W.cell? ⟨h, 2, none⟩ = some y2 ∧ Below w.heap.size w W) (hb : Below W.heap.size W W') :
    W'.cell? ⟨g, 0, none⟩ = some x0 ∧ W'.cell? ⟨g, 1, none⟩ = some x1 ∧ W'.cell? ⟨g, 2, none⟩ = some x2 ∧ W'.cell? ⟨h, 0, none⟩ = some y0 ∧ W'.cell? ⟨h, 1, none⟩ = some y1 ∧ W'.cell? ⟨h, 2, none⟩ = some y2 ∧ Below w.heap.size w W' := by
  obtain ⟨a0, a1, a2, b0, b1, b2, hB⟩ := k
  have hl := World.block_lt_of_cell? W _ a0
  have hm := World.block_lt_of_cell? W _ b0
  exact ⟨(hb.cell (p := ⟨g, 0, none⟩) hl).trans a0, (hb.cell (p := ⟨g, 1, none⟩) hl).trans a1, (hb.cell (p := ⟨g, 2, none⟩) hl).trans a2, (hb.cell (p := ⟨h, 0, none⟩) hm).trans b0, (hb.cell (p := ⟨h, 1, none⟩) hm).trans b1, (hb.cell (p := ⟨h, 2, none⟩) hm).trans b2, below_t hB hb hB.size⟩

/-- What Encode hands back, as one form. -/
theorem seat_form {a b : Int} {r : List UInt8} {w w' : World} {e : Ending} (h : RetSeat a b r w e w') : ∃ (A1 : Option Addr) (n1 c1 : Nat) (e1 : Int) (l1 : List UInt8), e = .returned (.tuple #[.slice A1 n1 c1, .int .i64 e1]) ∧ Below w.heap.size w w' ∧ Go.CP.Own w' w.heap.size 5 1 A1 n1 c1 (l1.map bv) ∧ l1.length = n1 ∧
    Hid ((seatB a b r.length = true ∧ e1 = 0 ∧ l1 = sealL (seatL a.toNat b.toNat r)) ∨ (seatB a b r.length = false ∧ e1 = 2)) := by
  rcases h with ⟨hB, A1, c1, rfl, ho1, hb1⟩ | ⟨hB, rfl, hb1⟩
  · exact ⟨A1, 128, c1, 0, _, rfl, hb1, ho1, by rw [sealL_len, seatL_len _ _ _ (seatB_iff.1 hB).2.2.2.2], hid (.inl ⟨hB, rfl, rfl⟩)⟩
  · exact ⟨none, 0, 0, 2, [], rfl, hb1, Own.none _ _ _ _, rfl, hid (.inr ⟨hB, rfl⟩)⟩

set_option maxHeartbeats 2000000 in
set_option maxRecDepth 100000 in
theorem seatSpoilt_in (w : World) (a b : Int) (A : Option Addr) (r : List UInt8) (c : Nat) (a' b' : Int) (A' : Option Addr) (r' : List UInt8) (c' : Nat) (n : Nat) (hn : (n : Int) ≤ 65535) (hr : Bytes w A r) (hr' : Bytes w A' r') (P S : Bool) (hP : sameB a b r a' b' r' = P)
    (hS : (sealL (seatL a.toNat b.toNat r) == sealL (seatL a'.toNat b'.toNat r')) = S) (H : Hid (seatB a b r.length = true → seatB a' b' r'.length = true → S = P)) :
    Calls Try.prog 17 #[.agg #[.int .i64 a, .int .i64 b, .slice A r.length c], .agg #[.int .i64 a', .int .i64 b', .slice A' r'.length c'], .int .u16 n] w fun e w' => e = .returned (.bool true) ∧ Below w.heap.size w w' := by
  have hb0 : Below w.heap.size w ((w.alloc (.cells #[.int .i64 a, .int .i64 b, .slice A r.length c] 70)).alloc (.cells #[.int .i64 a', .int .i64 b', .slice A' r'.length c'] 70)) := ((Below.refl _ _).alloc (Nat.le_refl _) _).alloc (by simp) _
  have h1 := seat_any a b A r c ((w.alloc (.cells #[.int .i64 a, .int .i64 b, .slice A r.length c] 70)).alloc (.cells #[.int .i64 a', .int .i64 b', .slice A' r'.length c'] 70)) (hr.below hb0 (Nat.le_refl _))
  have kx : BoxT ((w.alloc (.cells #[.int .i64 a, .int .i64 b, .slice A r.length c] 70)).alloc (.cells #[.int .i64 a', .int .i64 b', .slice A' r'.length c'] 70)) w.heap.size (.int .i64 a) (.int .i64 b) (.slice A r.length c) := (BoxT.new _ _ _ _).alloc _
  have ky : BoxT ((w.alloc (.cells #[.int .i64 a, .int .i64 b, .slice A r.length c] 70)).alloc (.cells #[.int .i64 a', .int .i64 b', .slice A' r'.length c'] 70)) (w.heap.size + 1) (.int .i64 a') (.int .i64 b') (.slice A' r'.length c') := by
    have := BoxT.new (w.alloc (.cells #[.int .i64 a, .int .i64 b, .slice A r.length c] 70)) (.int .i64 a') (.int .i64 b') (.slice A' r'.length c')
    rwa [World.size_alloc] at this
  have hsm := fun W (hW : Below w.heap.size w W) => same_any a b A r c a' b' A' r' c' W (hr.below hW (Nat.le_refl _)) (hr'.below hW (Nat.le_refl _))
  rw [hP] at hsm
  have HSM := hid hsm
  have KX := hid kx
  have KY := hid ky
  clear kx ky hsm hP
  go_enter Try.func17, Try.ntmps17
  go_wp2_with fail
  refine h1.mono ?_
  clear h1
  rintro e w1 h1
  obtain ⟨A1, n1, c1, e1, l1, rfl, hb1, ho1, hl1, HE1⟩ := seat_form h1
  have kx1 := KX.out.below hb1 (by simp; omega)
  have ky1 := KY.out.below hb1 (by simp)
  have hb01 := below_t hb0 hb1 hb0.size
  have ho1' := ho1.mono (base' := w.heap.size) hb0.size
  have HL1 := hid hl1
  clear KX KY hb0 hb1 h1 ho1 hl1
  obtain ⟨yc0, yc1, yc2, yfr, ylt⟩ := ky1.facts
  have h2 := seat_any a' b' A' r' c' w1 (hr'.below hb01 (Nat.le_refl _))
  go_wp2_with fail
  refine h2.mono ?_
  clear h2
  rintro e w2 h2
  obtain ⟨A2, n2, c2, e2, l2, rfl, hb2, ho2, hl2, HE2⟩ := seat_form h2
  have kx2 := kx1.below hb2 kx1.facts.2.2.2.2
  have ky2 := ky1.below hb2 ylt
  have hb02 := below_t hb01 hb2 hb01.size
  have ho12 := ho1'.below hb2 (Nat.le_refl _)
  have HL2 := hid hl2
  clear yc0 yc1 yc2 yfr ylt kx1 ky1 ho1' hb01 hb2 h2 hl2
  go_wp2_with fail
  refine (awake08_any _).mono ?_
  rintro e w3 ⟨rfl, hb3⟩
  have kx3 := kx2.below hb3 kx2.facts.2.2.2.2
  have ky3 := ky2.below hb3 ky2.facts.2.2.2.2
  have hb03 := below_t hb02 hb3 hb02.size
  have ho13 := ho12.below hb3 (Nat.le_refl _)
  have ho23 := ho2.below hb3 (Nat.le_refl _)
  clear kx2 ky2 ho12 ho2 hb02 hb3
  obtain ⟨xc0, xc1, xc2, xfr, xlt⟩ := kx3.facts
  obtain ⟨yc0, yc1, yc2, yfr, ylt⟩ := ky3.facts
  by_cases hE : e1 = 0 ∧ e2 = 0
  · obtain ⟨rfl, rfl⟩ := hE
    obtain ⟨hB1, -, rfl⟩ := HE1.out.resolve_right (by rintro ⟨_, h⟩; cases h)
    obtain ⟨hB2, -, rfl⟩ := HE2.out.resolve_right (by rintro ⟨_, h⟩; cases h)
    obtain rfl : S = P := H.out hB1 hB2
    have hr96 : r.length ≤ 96 := (seatB_iff.1 hB1).2.2.2.2
    have hn1 : n1 = 128 := by rw [← HL1.out, sealL_len, seatL_len _ _ _ hr96]
    subst hn1
    have v1 := fun W (hW : W.cell? ⟨w.heap.size, 0, none⟩ = some (.int .i64 a) ∧ W.cell? ⟨w.heap.size, 1, none⟩ = some (.int .i64 b) ∧ W.cell? ⟨w.heap.size, 2, none⟩ = some (.slice A r.length c) ∧ W.cell? ⟨w.heap.size + 1, 0, none⟩ = some (.int .i64 a') ∧ W.cell? ⟨w.heap.size + 1, 1, none⟩ = some (.int .i64 b') ∧ W.cell? ⟨w.heap.size + 1, 2, none⟩ = some (.slice A' r'.length c') ∧ Below w3.heap.size w3 W) => cv_bytes c1 (ho13.cells.below hW.2.2.2.2.2.2 (Nat.le_refl _))
    have v2 := fun W (hW : W.cell? ⟨w.heap.size, 0, none⟩ = some (.int .i64 a) ∧ W.cell? ⟨w.heap.size, 1, none⟩ = some (.int .i64 b) ∧ W.cell? ⟨w.heap.size, 2, none⟩ = some (.slice A r.length c) ∧ W.cell? ⟨w.heap.size + 1, 0, none⟩ = some (.int .i64 a') ∧ W.cell? ⟨w.heap.size + 1, 1, none⟩ = some (.int .i64 b') ∧ W.cell? ⟨w.heap.size + 1, 2, none⟩ = some (.slice A' r'.length c') ∧ Below w3.heap.size w3 W) => cv_bytes c2 (ho23.cells.below hW.2.2.2.2.2.2 (Nat.le_refl _))
    rw [HL1.out] at v1
    rw [HL2.out] at v2
    have H6 := hid (⟨xc0, xc1, xc2, yc0, yc1, yc2, Below.refl w3.heap.size w3⟩ : w3.cell? ⟨w.heap.size, 0, none⟩ = some (.int .i64 a) ∧ w3.cell? ⟨w.heap.size, 1, none⟩ = some (.int .i64 b) ∧ w3.cell? ⟨w.heap.size, 2, none⟩ = some (.slice A r.length c) ∧ w3.cell? ⟨w.heap.size + 1, 0, none⟩ = some (.int .i64 a') ∧ w3.cell? ⟨w.heap.size + 1, 1, none⟩ = some (.int .i64 b') ∧ w3.cell? ⟨w.heap.size + 1, 2, none⟩ = some (.slice A' r'.length c') ∧ Below w3.heap.size w3 w3)
    obtain ⟨g1, cur1, rfl, -⟩ := ho13.open (by omega)
    obtain ⟨v, hv⟩ := get_of_lt (sealL (seatL a.toNat b.toNat r)) (i := n % 1024 / 8) (by rw [HL1.out]; omega)
    have HO := hid ho13
    have HV := hid hv
    have HB03 := hid hb03
    clear H HE1 HE2 hB1 hB2 kx3 ky3 ho13 ho23 hv hb03
    go_wp2_with fail
    go_region_held3 (fun W => W.cell? ⟨w.heap.size, 0, none⟩ = some (.int .i64 a) ∧ W.cell? ⟨w.heap.size, 1, none⟩ = some (.int .i64 b) ∧ W.cell? ⟨w.heap.size, 2, none⟩ = some (.slice A r.length c) ∧ W.cell? ⟨w.heap.size + 1, 0, none⟩ = some (.int .i64 a') ∧ W.cell? ⟨w.heap.size + 1, 1, none⟩ = some (.int .i64 b') ∧ W.cell? ⟨w.heap.size + 1, 2, none⟩ = some (.slice A' r'.length c') ∧ Below w3.heap.size w3 W)
      (first | exact H6.out | exact box6_keep H6.out (bl2 _) | assumption | exact box6_keep (by assumption) (bl2 _))
      (first
        | (go_at_call 68; refine (HSM.out _ (below_t HB03.out (And.right (And.right (And.right (And.right (And.right (And.right (by assumption : World.cell? _ ⟨w.heap.size, 0, none⟩ = some (.int .i64 a) ∧ World.cell? _ ⟨w.heap.size, 1, none⟩ = some (.int .i64 b) ∧ World.cell? _ ⟨w.heap.size, 2, none⟩ = some (.slice A r.length c) ∧ World.cell? _ ⟨w.heap.size + 1, 0, none⟩ = some (.int .i64 a') ∧ World.cell? _ ⟨w.heap.size + 1, 1, none⟩ = some (.int .i64 b') ∧ World.cell? _ ⟨w.heap.size + 1, 2, none⟩ = some (.slice A' r'.length c') ∧ Below w3.heap.size w3 _))))))) HB03.out.size)).mono ?_; rintro e w4 ⟨rfl, hb4⟩; have hk4 := box6_keep (by assumption) hb4))
    have hb34 := hk4.2.2.2.2.2.2
    have hb04 := below_t HB03.out hb34 HB03.out.size
    have ho4 := HO.out.below hb34 (Nat.le_refl _)
    have hfr := ho4.free rfl (n % 1024 / 8)
    obtain ⟨g', off', e1, hcx⟩ := Bytes.openq ho4.cells (by rw [HL1.out]; omega)
    cases e1
    have hd := hcx _ _ HV.out
    simp only [Nat.zero_add] at hd
    clear hcx v1 v2 hk4 xc0 xc1 xc2 xfr xlt yc0 yc1 yc2 yfr ylt hb34
    go_wp2_with fail
    obtain ⟨y, hy⟩ : ∃ y, (sealL (seatL a.toNat b.toNat r)).set (n % 1024 / 8) (v ^^^ (1 <<< UInt8.ofNat (n % 8))) = y := ⟨_, rfl⟩
    have hyl : y.length = 128 := by rw [← hy, List.length_set, HL1.out]
    have e : (((sealL (seatL a.toNat b.toNat r)).map bv).set (n % 1024 / 8) (.int .u8 (bits .xor .u8 (v.toNat : Int) (2 ^ (n % 8) % 256)))) = y.map bv := by
      rw [two_pow_u8 _ (Nat.mod_lt _ (by omega)), bits_xor_u8, ← hy, List.map_set]
    have hoy := ho4.set rfl (n % 1024 / 8) (.int .u8 (bits .xor .u8 (v.toNat : Int) (2 ^ (n % 8) % 256)))
    rw [e] at hoy
    have hyb : bigL y = bigL (sealL (seatL a.toNat b.toNat r)) ^^^ 2 ^ (n % 1024) := by
      rw [← hy, bigL_set HV.out (Nat.mod_lt _ (by omega)), show 8 * (n % 1024 / 8) + n % 8 = n % 1024 from by omega]
    have hsd := spoilt_seat hr96 hyl hyb (Nat.mod_lt _ (by omega))
    have hbs : Below w.heap.size w (w4.setCell ⟨g1, n % 1024 / 8, none⟩ (.int .u8 (bits .xor .u8 (v.toNat : Int) (2 ^ (n % 8) % 256)))) := hb04.setCell (ho4.block g1 rfl).1 _
    have hdc := decT_any _ y c1 _ hoy.cells (by rw [hyl]; exact hoy.le.1) (by omega)
    rw [hyl] at hdc
    have HSD := hid hsd
    clear hy hyl e hyb hsd
    refine hdc.mono ?_
    clear hdc
    rintro e w5 ⟨hb5, (⟨h, -⟩ | ⟨-, rfl⟩)⟩
    · rw [HSD.out] at h; cases h
    have hb05 := below_t hbs hb5 hbs.size
    go_wp2
    go_ret
    exact ⟨rfl, hb05.alloc hb05.size _⟩
  · have hE2 : (e1 = 2 ∧ (e2 = 0 ∨ e2 = 2)) ∨ (e1 = 0 ∧ e2 = 2) := by
      rcases HE1.out with ⟨_, h, _⟩ | ⟨_, h⟩ <;> rcases HE2.out with ⟨_, k, _⟩ | ⟨_, k⟩ <;> omega
    clear HE1 HE2 hE H kx3 ky3 HL1 HL2 ho13 ho23
    rcases hE2 with ⟨rfl, rfl | rfl⟩ | ⟨rfl, rfl⟩
    all_goals
      go_wp2_with fail
      refine (awake08_any _).mono ?_
      rintro e w4 ⟨rfl, hb4⟩
      go_wp2
      go_ret
      exact ⟨rfl, below_t hb03 hb4 hb03.size⟩

theorem seatSpoilt_walk (w : World) (a b : Int) (A : Option Addr) (r : List UInt8) (c : Nat) (a' b' : Int) (A' : Option Addr) (r' : List UInt8) (c' : Nat) (n : Int) (hr : Bytes w A r) (_ : r.length ≤ c) (_ : r.length ≤ 140737488351232)
    (hr' : Bytes w A' r') (_ : r'.length ≤ c') (_ : r'.length ≤ 140737488351232) (hn : 0 ≤ n ∧ n < 65536) :
    Calls Try.prog 17 #[.agg #[.int .i64 a, .int .i64 b, .slice A r.length c], .agg #[.int .i64 a', .int .i64 b', .slice A' r'.length c'], .int .u16 n] w fun e w' => e = .returned (.bool true) ∧ Below w.heap.size w w' := by
  obtain ⟨k, rfl⟩ := Int.eq_ofNat_of_zero_le hn.1
  refine seatSpoilt_in w a b A r c a' b' A' r' c' k (by omega) hr hr' _ _ rfl rfl (hid fun h h' => ?_)
  have h1 := seatB_iff.1 h
  have h2 := seatB_iff.1 h'
  rw [Bool.eq_iff_iff]
  simp only [sameB, Bool.and_eq_true, beq_iff_eq]
  constructor
  · intro e
    have := seatL_inj (by rw [Int.toNat_of_nonneg (by omega), Int.toNat_of_nonneg (by omega)]; exact h) (by rw [Int.toNat_of_nonneg (by omega), Int.toNat_of_nonneg (by omega)]; exact h') e
    exact ⟨⟨by omega, by omega⟩, this.2.2⟩
  · rintro ⟨⟨rfl, rfl⟩, rfl⟩; rfl
end Go.Proofs.Ytppbcdcmpcagdaa
