/- Contracts of bytes.Clone, seat.Decode. -/
import Derived.Test.YtppbcdcmpcagdaaSeat2
namespace Go.Proofs.Ytppbcdcmpcagdaa
open Go.RowKit Go.CP

theorem bclone_any (A : Option Addr) (l : List UInt8) (c : Nat) (w : World) (hb : Bytes w A l) (hl : l.length ≤ 220000000000000) :
    Calls Try.prog 138 #[.slice A l.length c] w (RetOwn w 5 1 l.length (l.map bv)) := by
  have hq : ∀ w : World, (binOp .eql 22 (.slice A l.length c) (.slice none 0 0)).run Try.prog w = .ok (.bool A.isNone) w := fun w => Lib.run_eql_slice_nil w 22 5 A _ _ _ _ Try.underlying22
  cases A with
  | none =>
    obtain rfl := Bytes.none_nil hb
    have hq' : ∀ w : World, (binOp .eql 22 (.slice none 0 c) (.slice none 0 0)).run Try.prog w = .ok (.bool true) w := hq
    clear hq
    go_enter Try.func138, Try.ntmps138
    go_wp2
    go_ret
    exact ⟨none, 0, rfl, Own.none _ _ _ _, Below.refl _ _⟩
  | some ad =>
    have hq' : ∀ w : World, (binOp .eql 22 (.slice (some ad) l.length c) (.slice none 0 0)).run Try.prog w = .ok (.bool false) w := hq
    clear hq
    go_enter Try.func138, Try.ntmps138
    go_wp2_with (at_builtin; refine ap_bytes rfl _ _ 22 rfl w.heap.size rfl (Own.empty w 5 1) rfl (Src.bytes Try.underlying22 (hb.alloc _)) (by omega) (by simp) ?_; intro A' c' w' ho hg; simp only [Nat.zero_add, List.nil_append] at ho ⊢)
    go_ret
    exact ⟨A', c', rfl, ho, Below.of_grown ((World.grownBy_alloc _ _ _).trans hg) (by simp) (by simp [blockOf])⟩

def tL8 (b : List UInt8) : List UInt8 := (b.drop 4).take 8
def tN1 (b : List UInt8) : Nat := bigL ((tL8 b).take 4)
def tN2 (b : List UInt8) : Nat := bigL (((tL8 b).drop 4).take 4)
def tK (b : List UInt8) : Nat := (b.getD 12 0).toNat
def tR (b : List UInt8) : List UInt8 := (b.drop 13).take (tK b)
/-- Is a sector a seat? -/
def seatD (b : List UInt8) : Bool := decide (b.length = 128) && decide (tK b ≤ 96) && seatB (tN1 b) (tN2 b) (tR b).length && decide (sealL (seatL (tN1 b) (tN2 b) (tR b)) = b)
/-- What Decode hands back. -/
def RetDecT (b : List UInt8) (w : World) (e : Ending) (w' : World) : Prop :=
  Below w.heap.size w w' ∧ ((seatD b = true ∧ ∃ A c, e = .returned (.tuple #[.agg #[.int .i64 (tN1 b : Nat), .int .i64 (tN2 b : Nat), .slice A (tR b).length c], .int .i64 0]) ∧ Bytes w' A (tR b)) ∨
    (seatD b = false ∧ e = .returned (.tuple #[.agg #[.int .i64 0, .int .i64 0, .slice none 0 0], .int .i64 2])))

theorem BoxT.set3 {W : World} {k : Nat} {x y z : Value} (h : BoxT W k x y z) (x' y' z' : Value) : BoxT (((W.setCell ⟨k, 0, none⟩ x').setCell ⟨k, 1, none⟩ y').setCell ⟨k, 2, none⟩ z') k x' y' z' := by
  have h1 : BoxT (W.setCell ⟨k, 0, none⟩ x') k x' y z := h.set 0 x'
  have h2 : BoxT ((W.setCell ⟨k, 0, none⟩ x').setCell ⟨k, 1, none⟩ y') k x' y' z := h1.set 1 y'
  exact h2.set 2 z'
theorem res67 {W : World} {k : Nat} {x y : Int} {A : Option Addr} {n c : Nat} (h : BoxT W k (.int .i64 x) (.int .i64 y) (.slice A n c)) (tmps : Array Value) (ht : tmps.getD 2 undef = .pointer (some ⟨k, 0, none⟩)) :
    (results Try.f67 tmps).run Try.prog W = .ok (.tuple #[.agg #[.int .i64 x, .int .i64 y, .slice A n c], tmps.getD 3 undef]) W := by
  obtain ⟨c0, c1, c2, -, -⟩ := h.facts
  have ht' : tmps[2]?.getD undef = .pointer (some ⟨k, 0, none⟩) := by simpa using ht
  simp [results, Try.results67, go_sem, ht', c0, c1, c2]

theorem set3_below {B k : Nat} {w W : World} (h : Below B w W) (hk : B ≤ k) (x y z : Value) : Below B w (((W.setCell ⟨k, 0, none⟩ x).setCell ⟨k, 1, none⟩ y).setCell ⟨k, 2, none⟩ z) :=
  ((h.setCell (p := ⟨k, 0, none⟩) hk _).setCell (p := ⟨k, 1, none⟩) hk _).setCell (p := ⟨k, 2, none⟩) hk _

theorem set3_cells {k : Nat} {W : World} {A : Option Addr} {xs : List Value} (h : Cells W A xs) (hne : ∀ b, A.map (·.block) = some b → b ≠ k) (x y z : Value) : Cells (((W.setCell ⟨k, 0, none⟩ x).setCell ⟨k, 1, none⟩ y).setCell ⟨k, 2, none⟩ z) A xs :=
  (Turn.setCell k 2 _ _).cells ((Turn.setCell k 1 _ _).cells ((Turn.setCell k 0 _ _).cells h hne) hne) hne

set_option maxRecDepth 100000 in
theorem decT_len (B : Option Addr) (b : List UInt8) (c : Nat) (w : World) (h : b.length ≠ 128) (_ : b.length ≤ 140737488351232) : Calls Try.prog 67 #[.slice B b.length c] w (RetDecT b w) := by
  have hq : ((b.length : Int) != 128) = true := by rw [bne_iff_ne]; omega
  have hd : seatD b = false := by rw [seatD, decide_eq_false h]; rfl
  have HD := hid hd
  have k0 := BoxT.new w (.int .i64 0) (.int .i64 0) (.slice none 0 0)
  have K0 := hid k0
  clear hd h k0
  go_enter Try.func67, Try.ntmps67
  go_wp2
  exact bodyPost_ret (res67 K0.out _ rfl) rfl ⟨(Below.refl _ _).alloc (Nat.le_refl _) _, .inr ⟨HD.out, rfl⟩⟩

set_option maxHeartbeats 2000000 in
set_option maxRecDepth 100000 in
theorem decT_big (g0 off : Nat) (b : List UInt8) (c : Nat) (w : World) (x : UInt8) (hx : b[12]? = some x) (hc : w.cell? ⟨g0, off + 12, none⟩ = some (.int .u8 (x.toNat : Int))) (h : 96 < x.toNat) : Calls Try.prog 67 #[.slice (some ⟨g0, off, none⟩) 128 c] w (RetDecT b w) := by
  have hd : seatD b = false := by
    have : tK b = x.toNat := by rw [tK, List.getD_eq_getElem?_getD, hx]; rfl
    rw [seatD, decide_eq_false (show ¬ tK b ≤ 96 by omega)]
    cases decide (b.length = 128) <;> rfl
  have HD := hid hd
  have k0 := BoxT.new w (.int .i64 0) (.int .i64 0) (.slice none 0 0)
  have K0 := hid k0
  have hc' : (w.alloc (.cells #[.int .i64 0, .int .i64 0, .slice none 0 0] 70)).cell? ⟨g0, off + 12, none⟩ = some (.int .u8 (x.toNat : Int)) := by
    rw [((Below.refl w.heap.size w).alloc (Nat.le_refl _) _).cell (p := ⟨g0, off + 12, none⟩) (World.block_lt_of_cell? w _ hc)]; exact hc
  have hgt : (96 : Int) < x.toNat := by omega
  clear hd k0
  go_enter Try.func67, Try.ntmps67
  go_wp2
  exact bodyPost_ret (res67 K0.out _ rfl) rfl ⟨(Below.refl _ _).alloc (Nat.le_refl _) _, .inr ⟨HD.out, rfl⟩⟩

set_option maxHeartbeats 2000000 in
set_option maxRecDepth 100000 in
theorem decT_128 (g0 off : Nat) (b : List UInt8) (c : Nat) (w : World) (x : UInt8) (hb : Bytes w (some ⟨g0, off, none⟩) b) (hbl : b.length = 128) (hc : b.length ≤ c) (hx : b[12]? = some x) (hcx : w.cell? ⟨g0, off + 12, none⟩ = some (.int .u8 (x.toNat : Int))) (h96 : x.toNat ≤ 96) :
    Calls Try.prog 67 #[.slice (some ⟨g0, off, none⟩) 128 c] w (RetDecT b w) := by
  have hc1 : (128 : Int) ≤ c := by omega
  have hc2 : ¬ c = 4 := by omega
  have hc3 : ¬ c = 13 := by omega
  have hx1 : (x.toNat : Int) ≤ 96 := by omega
  have htk : tK b = x.toNat := by rw [tK, List.getD_eq_getElem?_getD, hx]; rfl
  have HTK := hid htk
  have HBL := hid hbl
  have hlt0 := World.block_lt_of_cell? w _ hcx
  have HCX := hid (fun W (hW : Below w.heap.size w W) => ((hW.cell (p := ⟨g0, off + 12, none⟩) hlt0).trans hcx))
  have hb4 : Bytes (w.alloc (.cells #[.int .i64 0, .int .i64 0, .slice none 0 0] 70)) (some ⟨g0, off + 4, none⟩) (tL8 b) := slice_bytes (hb.alloc _) 4 8
  have h8 : (tL8 b).length = 8 := by rw [tL8, List.length_take, List.length_drop]; omega
  have H8 := hid h8
  have hr := read_any (some ⟨g0, off + 4, none⟩) (tL8 b) (c - 4) _ hb4 (by omega)
  rw [h8] at hr
  have HR := hid hr
  have hc0 := HCX.out _ ((Below.refl w.heap.size w).alloc (Nat.le_refl _) (.cells #[.int .i64 0, .int .i64 0, .slice none 0 0] 70))
  clear hbl hr hb4 hc htk hx h8 hcx
  go_enter Try.func67, Try.ntmps67
  go_wp2_with fail
  refine HR.out.mono ?_
  rintro e w1 ⟨g, B, rfl, hf1, hg1, hB1, hb1⟩
  have h2 := fnum_any g B (tL8 b) false w1 hf1
  obtain ⟨t1, t2, t3⟩ := t_at (l := tL8 b) (k := 4) (by have := H8.out; omega)
  rw [t1, t2, t3] at h2
  clear t1 t2 t3
  go_wp2_with fail
  refine h2.mono ?_
  clear h2 hc0
  rintro e w2 ⟨rfl, hf2, ht2⟩
  have hz0 := hb1.size
  simp only [World.size_alloc] at hz0 hg1
  have k0 := ((BoxT.new w (.int .i64 0) (.int .i64 0) (.slice none 0 0)).below hb1 (by simp)).turn ht2 (by omega)
  have hz2 := ht2.2.1
  have hlt2 := hf2.lt
  have hf2' := hf2.below ((Below.refl w2.heap.size w2).alloc (Nat.le_refl _) (.cells #[.int .i64 (tN1 b : Nat), .int .i64 0, .slice none 0 0] 70))
  have h3 := fnum_any g B ((tL8 b).drop 4) false _ hf2'
  obtain ⟨t1, t2, t3⟩ := t_at (l := (tL8 b).drop 4) (k := 4) (by have := H8.out; simp; omega)
  rw [t1, t2, t3] at h3
  have h3' : Calls Try.prog 46 #[.pointer (some ⟨g, 0, none⟩)] _ (RetForm g B (.int .i64 (tN2 b : Nat)) (((tL8 b).drop 4).drop 4) false _) := h3
  have H3 := hid h3'
  clear t1 t2 t3 h3 h3' hf2'
  have s2 := BoxT.new w2 (.int .i64 (tN1 b : Nat)) (.int .i64 0) (.slice none 0 0)
  rw [show ((bigL ((tL8 b).take 4) : Nat) : Int) = (tN1 b : Nat) from rfl]
  go_wp2_with fail
  refine H3.out.mono ?_
  rintro e w3 ⟨rfl, hf3, ht3⟩
  have s3 := s2.turn ht3 (by omega)
  have k3 := (k0.alloc (.cells #[.int .i64 (tN1 b : Nat), .int .i64 0, .slice none 0 0] 70)).turn ht3 (by omega)
  have hz3 := ht3.2.1
  simp only [World.size_alloc] at hz3
  have hw3 : Below w.heap.size w w3 := (((((Below.refl _ w).alloc (Nat.le_refl _) _).trans (hb1.mono (by simp))).trans (ht2.1.mono (by omega))).alloc (by omega) _).trans (ht3.1.mono (by omega))
  obtain ⟨sc0, sc1, sc2, sfr, -⟩ := s3.facts
  have HS4 : Hid (BoxT (w3.setCell ⟨w2.heap.size, 1, none⟩ (.int .i64 (tN2 b : Nat))) w2.heap.size (.int .i64 (tN1 b : Nat)) (.int .i64 (tN2 b : Nat)) (.slice none 0 0)) := hid (s3.set 1 _)
  have HK4 := hid (k3.other (k' := w2.heap.size) (j := 1) (v := .int .i64 (tN2 b : Nat)) (by omega))
  have hw4 : Below w.heap.size w (w3.setCell ⟨w2.heap.size, 1, none⟩ (.int .i64 (tN2 b : Nat))) := hw3.setCell (p := ⟨w2.heap.size, 1, none⟩) (by show w.heap.size ≤ w2.heap.size; omega) _
  have HW4 := hid hw4
  have hd12 := HCX.out _ hw4
  have hbR : Bytes (w3.setCell ⟨w2.heap.size, 1, none⟩ (.int .i64 (tN2 b : Nat))) (some ⟨g0, off + 13, none⟩) (tR b) := by
    have := slice_bytes (hb.below hw4 (Nat.le_refl _)) 13 (tK b)
    exact this
  have hRl : (tR b).length = x.toNat := by rw [tR, List.length_take, List.length_drop, HTK.out]; have := HBL.out; omega
  have hcl := bclone_any (some ⟨g0, off + 13, none⟩) (tR b) (c - 13) _ hbR (by omega)
  rw [hRl] at hcl
  have HCL := hid hcl
  have HRL := hid hRl
  clear s3 k3 hf3 s2 k0 hf2 hw4 hbR hRl hcl hw3 ht2 ht3 hb1
  go_wp2_with fail
  refine HCL.out.mono ?_
  clear HCL hd12 sc0 sc1 sc2 sfr
  rintro e w5 ⟨A5, c5, rfl, ho5, hb5⟩
  have hz4 : (w3.setCell ⟨w2.heap.size, 1, none⟩ (.int .i64 (tN2 b : Nat))).heap.size = w3.heap.size := World.size_setCell _ _ _
  have s5 := HS4.out.below hb5 (by omega)
  have k5 := HK4.out.below hb5 (by omega)
  have hz5 := hb5.size
  have hw5 := below_t HW4.out hb5 (by omega)
  have hne : ∀ k, A5.map (·.block) = some k → k ≠ w2.heap.size := fun k hk => by have := (ho5.block k hk).1; omega
  have HNE0 : Hid (∀ k, A5.map (·.block) = some k → k ≠ w.heap.size) := hid (fun k hk => by have := (ho5.block k hk).1; omega)
  have hb5' : Bytes (w5.setCell ⟨w2.heap.size, 2, none⟩ (.slice A5 x.toNat c5)) A5 (tR b) := (Turn.setCell w2.heap.size 2 w5 _).cells ho5.cells hne
  have s6 : BoxT (w5.setCell ⟨w2.heap.size, 2, none⟩ (.slice A5 x.toNat c5)) w2.heap.size (.int .i64 (tN1 b : Nat)) (.int .i64 (tN2 b : Nat)) (.slice A5 x.toNat c5) := s5.set 2 _
  have k6 := k5.other (k' := w2.heap.size) (j := 2) (v := .slice A5 x.toNat c5) (by omega)
  have hw6 : Below w.heap.size w (w5.setCell ⟨w2.heap.size, 2, none⟩ (.slice A5 x.toNat c5)) := hw5.setCell (p := ⟨w2.heap.size, 2, none⟩) (by show w.heap.size ≤ w2.heap.size; omega) _
  have hse := seat_any (tN1 b : Nat) (tN2 b : Nat) A5 (tR b) c5 _ hb5'
  rw [HRL.out] at hse
  have hz6 : (w5.setCell ⟨w2.heap.size, 2, none⟩ (.slice A5 x.toNat c5)).heap.size = w5.heap.size := World.size_setCell _ _ _
  obtain ⟨sc0, sc1, sc2, sfr, -⟩ := s5.facts
  have hge : w2.heap.size + 1 ≤ (w5.setCell ⟨w2.heap.size, 2, none⟩ (.slice A5 x.toNat c5)).heap.size := by omega
  have HGE := hid hge
  have HSE := hid hse
  have HB5 := hid hb5'
  have HS6 := hid s6
  have HK6 := hid k6
  have HW6 := hid hw6
  clear hse hb5' s6 k6 hw6 HS4 HK4 HW4 hw5 s5 k5 ho5 hb5 hne hz6 hge
  go_wp2_with fail
  refine HSE.out.mono ?_
  clear HSE sc0 sc1 sc2 sfr hz4
  have hge := HGE.out
  rintro e w7 h7
  have hb7 : Below (w5.setCell ⟨w2.heap.size, 2, none⟩ (.slice A5 x.toNat c5)).heap.size (w5.setCell ⟨w2.heap.size, 2, none⟩ (.slice A5 x.toNat c5)) w7 := by
    rcases h7 with ⟨_, A6, c6, rfl, ho6, hb6⟩ | ⟨_, rfl, hb6⟩ <;> exact hb6
  have hw7 := below_t HW6.out hb7 (by omega)
  have k7 := HK6.out.below hb7 (by omega)
  have s7 := HS6.out.below hb7 (by omega)
  have hr7 := HB5.out.below hb7 (Nat.le_refl _)
  obtain ⟨sc0, sc1, sc2, sfr, -⟩ := s7.facts
  obtain ⟨kc0, kc1, kc2, kfr, -⟩ := k7.facts
  have HW7 := hid hw7
  have HK7 := hid k7
  have HR7 := hid hr7
  rcases h7 with ⟨hB, A6, c6, rfl, ho6, -⟩ | ⟨hB, rfl, -⟩
  · have heq := equal_any A6 (some ⟨g0, off, none⟩) _ b c6 c w7 ho6.cells (hb.below hw7 (Nat.le_refl _))
    simp only [Int.toNat_natCast] at heq
    rw [sealL_len, seatL_len _ _ _ (by have := HRL.out; omega), HBL.out] at heq
    obtain ⟨q, hq⟩ : ∃ q, decide (sealL (seatL (tN1 b) (tN2 b) (tR b)) = b) = q := ⟨_, rfl⟩
    have hd : seatD b = q := by rw [seatD, hB, hq, decide_eq_true HBL.out, decide_eq_true (show tK b ≤ 96 by rw [HTK.out]; exact h96)]; rfl
    rw [hq] at heq
    have HD := hid hd
    have HE := hid heq
    clear hd hq ho6 heq hw7 k7 s7 hr7 hB HB5 HS6 HK6 HW6 hb7 hb
    cases q with
    | true =>
      go_wp2_with fail
      refine HE.out.mono ?_
      rintro e w8 ⟨rfl, rfl⟩
      go_wp2_with fail
      exact bodyPost_ret (res67 (BoxT.set3 HK7.out _ _ _) _ rfl) rfl ⟨set3_below HW7.out (Nat.le_refl _) _ _ _, .inl ⟨HD.out, A5, c5, by rw [HRL.out]; rfl, set3_cells HR7.out HNE0.out _ _ _⟩⟩
    | false =>
      go_wp2_with fail
      refine HE.out.mono ?_
      rintro e w8 ⟨rfl, rfl⟩
      go_wp2_with fail
      exact bodyPost_ret (res67 (BoxT.set3 HK7.out _ _ _) _ rfl) rfl ⟨set3_below HW7.out (Nat.le_refl _) _ _ _, .inr ⟨HD.out, rfl⟩⟩
  · have hd : seatD b = false := by
      rw [seatD, hB]
      cases decide (b.length = 128) <;> cases decide (tK b ≤ 96) <;> rfl
    have HD := hid hd
    clear hd hw7 k7 s7 hr7 hB HB5 HS6 HK6 HW6 hb7 hb
    go_wp2_with fail
    exact bodyPost_ret (res67 (BoxT.set3 HK7.out _ _ _) _ rfl) rfl ⟨set3_below HW7.out (Nat.le_refl _) _ _ _, .inr ⟨HD.out, rfl⟩⟩

theorem decT_any (B : Option Addr) (b : List UInt8) (c : Nat) (w : World) (hb : Bytes w B b) (hc : b.length ≤ c) (hl : b.length ≤ 140737488351232) : Calls Try.prog 67 #[.slice B b.length c] w (RetDecT b w) := by
  by_cases h : b.length = 128
  · obtain ⟨g0, off, rfl, hcx⟩ := Bytes.openq hb (by omega)
    obtain ⟨x, hx⟩ := get_of_lt b (i := 12) (by omega)
    by_cases h96 : x.toNat ≤ 96
    · have := decT_128 g0 off b c w x hb h hc hx (hcx 12 x hx) h96
      rwa [← h] at this
    · have := decT_big g0 off b c w x hx (hcx 12 x hx) (by omega)
      rwa [← h] at this
  · exact decT_len B b c w h hl
end Go.Proofs.Ytppbcdcmpcagdaa
