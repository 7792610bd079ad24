/- Contract of package verb: Long. -/
import Derived.Test.YtppbcdcmpcagdaaVerbG
namespace Go.Proofs.Ytppbcdcmpcagdaa
open Go.RowKit Go.CP

def rpZero : Rp := ⟨0, 0, 0, 0, 0, 0, 0, 0, 0, 0, [], []⟩
def RetLong (b : List UInt8) (w : World) (e : Ending) (w' : World) : Prop :=
  (∃ r, longR b = some r ∧ r.data = [] ∧ r.names = [] ∧ e = .returned (.tuple #[rval r none 0 none 0, .int .i64 0]) ∧ Hid (Below w.heap.size w w')) ∨
  (longR b = none ∧ e = .returned (.tuple #[rval rpZero none 0 none 0, .int .i64 2]) ∧ Hid (Below w.heap.size w w'))
theorem list7 {l : List Nat} (h : l.length = 7) : ∃ a b c d e f g, l = [a, b, c, d, e, f, g] := by
  match l, h with
  | [a, b, c, d, e, f, g], _ => exact ⟨a, b, c, d, e, f, g, rfl⟩
set_option maxHeartbeats 4000000 in
set_option maxRecDepth 100000 in
theorem long_full (B0 : Option Addr) (b : List UInt8) (c : Nat) (w : World) (hb : Bytes w B0 b) (hl : b.length ≤ 140737488351232) :
    Calls Try.prog 97 #[.slice B0 b.length c] w (RetLong b w) := by
  have HB0 := hid (read_any B0 b c (w.alloc (.cells (boxR [] (.slice none 0 0) (.slice none 0 0)).toArray 112)) (hb.alloc _) hl)
  have HBY := hid hb
  have HDV : Hid (longR b = if endE (rdNs 7 (b, false)).2.1 (rdNs 7 (b, false)).2.2 = 0 ∧ shortL (rpShort (rdNs 7 (b, false)).1) = b then some (rpShort (rdNs 7 (b, false)).1) else none) := hid rfl
  clear hb
  go_enter Try.func97, Try.ntmps97
  go_wp2_with fail
  refine HB0.out.mono ?_
  clear HB0
  rintro e w1 ⟨g, B, rfl, hf1, hg1, hB1, hb1⟩
  simp only [World.size_alloc] at hg1 hB1
  have HB01 := hid (((Below.refl w.heap.size w).alloc (Nat.le_refl _) (.cells (boxR [] (.slice none 0 0) (.slice none 0 0)).toArray 112)).trans (hb1.mono (by simp)))
  have HZ1 := hid ((Blk.new w 112 (boxR [] (.slice none 0 0) (.slice none 0 0))).below hb1)
  have HT1 : Hid (Calls Try.prog 46 #[.pointer (some ⟨g, 0, none⟩)] w1 (RetForm g B (.int .i64 ((rdN (b, false)).1 : Nat)) (rdN (b, false)).2.1 (rdN (b, false)).2.2 w1)) := hid (fnum_any g B b false w1 hf1)
  have HGW : Hid (w.heap.size + 1 ≤ g ∧ (∀ k, B = some k → k < g) ∧ w.heap.size < w1.heap.size) := hid ⟨hg1, fun k hk => (hB1 k hk).2, by have := hb1.size; simp at this; omega⟩
  clear hf1 hg1 hB1 hb1
  go_wp2_with fail
  refine HT1.out.mono ?_
  clear HT1
  rintro e w2 ⟨rfl, hf2, ht2⟩
  have hglt := hf2.lt
  have HLI : Hid (Lies w g B w2.heap.size) := hid ⟨HGW.out.1, hglt, fun k hk => by have := HGW.out.2.1 k hk; omega⟩
  have HR3 : Hid (ReadsR w g B w2.heap.size [0, 0, 0] (b, false) 1 (w2.alloc (.cells (boxR [0, 0, 0, (rdN (b, false)).1] (.slice none 0 0) (.slice none 0 0)).toArray 112))) := hid (by
    refine ⟨hf2.alloc _, Blk.new w2 112 _, (HZ1.out.turn ht2 (by have := HGW.out; omega)).alloc _, (HB01.out.trans (ht2.1.mono (by have := HGW.out; omega))).alloc (by have := HB01.out.size; have := ht2.2.1; omega) _⟩)
  obtain ⟨w3, hw3⟩ : ∃ w3, w3 = w2.alloc (.cells (boxR [0, 0, 0, (rdN (b, false)).1] (.slice none 0 0) (.slice none 0 0)).toArray 112) := ⟨_, rfl⟩
  have HK6 : Hid (w2.heap.size < w3.heap.size) := hid (by rw [hw3]; simp)
  have HFL := hid (fields_any w2.heap.size 4 w3)
  rw [← hw3] at HR3
  obtain ⟨e0, he0⟩ : ∃ e0, (rdN (b, false)).1 = e0 := ⟨_, rfl⟩
  rw [he0] at hw3 ⊢
  have hw3' : w3 = w2.alloc (.cells #[.int .i64 0, .int .i64 0, .int .i64 0, .int .i64 (e0 : Nat), .int .i64 0, .int .i64 0, .int .i64 0, .int .i64 0, .int .i64 0, .int .i64 0, .slice none 0 0, .slice none 0 0] 112) := hw3
  obtain ⟨k6, hk6⟩ : ∃ k6, w2.heap.size = k6 := ⟨_, rfl⟩
  have HW3 := hid (And.intro hw3' hk6)
  rw [hk6] at HLI HR3 HK6 HFL
  clear hf2 ht2 HZ1 HB01 hglt he0 hw3 hw3' hk6
  go_wp2_with fail
  rw [← HW3.out.1, HW3.out.2]
  clear HW3
  refine HFL.out.mono ?_
  clear HFL
  rintro e w4 ⟨g7, rfl, hr4, hg4, hb4⟩
  have HR4 := hid (HR3.out.below hb4)
  have HRW := hid hr4
  have HG7 : Hid (k6 < g7) := hid (by have := HK6.out; omega)
  clear hr4 hg4 hb4 HR3 HK6
  go_wp2_with fail
  go_loopw [16] (fun iv' wr => ∃ j : Nat, j ≤ 6 ∧ iv' = .int .i64 j ∧ Hid (ReadsR w g B k6 [0, 0, 0] (b, false) (1 + j) wr ∧ Blk wr g7 202 (rowS k6 4))) (fun iv' _ => 6 - (intOf iv').toNat)
  case atStart => exact ⟨0, by omega, rfl, hid ⟨HR4.out, HRW.out⟩⟩
  case round =>
    clear HR4 HRW
    obtain ⟨j, hj, rfl, HR⟩ := hrel
    by_cases hlt : j < 6
    · have hcp := HR.out.2.cell (rowS_at k6 4 hlt)
      have HF := hid (num_next HR.out.1)
      obtain ⟨n, hn⟩ : ∃ n, (rdN (rdNs (1 + j) (b, false)).2).1 = n := ⟨_, rfl⟩
      rw [hn] at HF
      have HN := hid hn
      have hii : (j : Int) < 6 := by omega
      clear hn
      go_wp2_with fail
      refine HF.out.mono ?_
      rintro e w5 ⟨rfl, hf5, ht5⟩
      obtain ⟨⟨u, hu⟩, hz, hs⟩ := HR.out.1.step HLI.out (by simp; omega) hf5 ht5
      rw [show ([0, 0, 0] : List Nat).length + (1 + j) = 4 + j from by simp; omega] at hu hz hs
      rw [HN.out] at hs
      have HNEW : Hid (ReadsR w g B k6 [0, 0, 0] (b, false) (1 + (j + 1)) (w5.setCell ⟨k6, 4 + j, none⟩ (.int .i64 (n : Nat))) ∧ Blk (w5.setCell ⟨k6, 4 + j, none⟩ (.int .i64 (n : Nat))) g7 202 (rowS k6 4)) := hid ⟨hs, (HR.out.2.turn ht5 (by have := HG7.out; have := HLI.out.2.1; omega)).other (by have := HG7.out; omega)⟩
      clear hs hf5 ht5 HF HR
      go_wp2_with fail
      go_roundw
      case rel => exact ⟨j + 1, by omega, by go_num, HNEW⟩
      case measure => simp [intOf]; omega
    · have hk : j = 6 := by omega
      subst hk
      obtain ⟨⟨hf, hbx, hres, hbw⟩, -⟩ := HR.out
      obtain ⟨n0, n1, n2, n3, n4, n5, n6, hn⟩ := list7 (rdNs_len 7 (b, false))
      rw [show 1 + 6 = 7 from rfl] at hf hbx
      obtain ⟨r4, hr4⟩ : ∃ r4, (rdNs 7 (b, false)).2 = r4 := ⟨_, rfl⟩
      rw [hn, hr4] at HDV
      rw [hr4] at hf
      rw [hn] at hbx
      have HX := hid hbx
      have HZ := hid hres
      have HBW := hid hbw
      have HEC := hid (fend_any g B _ _ wr hf)
      clear hn hr4 hf hbx hres hbw HR hlt hj
      by_cases hen : endE r4.1 r4.2 = 0
      · rw [hen] at HEC
        have HEN := hid hen
        have HSC := hid (fun W => short_any (rpShort [n0, n1, n2, n3, n4, n5, n6]) none 0 none 0 W (Cells.nil _ _))
        clear hen
        have x0 : wr.cell? ⟨k6, 0, none⟩ = some (.int .i64 0) := HX.out.cell (j := 0) rfl
        have x1 : wr.cell? ⟨k6, 1, none⟩ = some (.int .i64 0) := HX.out.cell (j := 1) rfl
        have x2 : wr.cell? ⟨k6, 2, none⟩ = some (.int .i64 0) := HX.out.cell (j := 2) rfl
        have x3 : wr.cell? ⟨k6, 3, none⟩ = some (.int .i64 (n0 : Int)) := HX.out.cell (j := 3) rfl
        have x4 : wr.cell? ⟨k6, 4, none⟩ = some (.int .i64 (n1 : Int)) := HX.out.cell (j := 4) rfl
        have x5 : wr.cell? ⟨k6, 5, none⟩ = some (.int .i64 (n2 : Int)) := HX.out.cell (j := 5) rfl
        have x6 : wr.cell? ⟨k6, 6, none⟩ = some (.int .i64 (n3 : Int)) := HX.out.cell (j := 6) rfl
        have x7 : wr.cell? ⟨k6, 7, none⟩ = some (.int .i64 (n4 : Int)) := HX.out.cell (j := 7) rfl
        have x8 : wr.cell? ⟨k6, 8, none⟩ = some (.int .i64 (n5 : Int)) := HX.out.cell (j := 8) rfl
        have x9 : wr.cell? ⟨k6, 9, none⟩ = some (.int .i64 (n6 : Int)) := HX.out.cell (j := 9) rfl
        have x10 : wr.cell? ⟨k6, 10, none⟩ = some (.slice none 0 0) := HX.out.cell (j := 10) rfl
        have x11 : wr.cell? ⟨k6, 11, none⟩ = some (.slice none 0 0) := HX.out.cell (j := 11) rfl
        go_wp2_with fail
        refine HEC.out.mono ?_
        rintro e w5 ⟨rfl, hw5⟩
        rw [hw5]
        clear hw5 w5
        go_wp2_with fail
        refine (HSC.out _).mono ?_
        rintro e w6 ⟨A6, c6, m6, rfl, HR6⟩
        have HX6 := hid (HX.out.below HR6.out.2.2)
        have HZ6 := hid (HZ.out.below HR6.out.2.2)
        have HB6 := hid (below_t HBW.out HR6.out.2.2 HBW.out.size)
        have hq := equal_any A6 B0 m6 b c6 c w6 HR6.out.2.1.cells (HBY.out.below HB6.out (Nat.le_refl _))
        obtain ⟨q, hqe⟩ : ∃ q, decide (m6 = b) = q := ⟨_, rfl⟩
        rw [hqe] at hq
        have HQ := hid hq
        have HQE : Hid (decide (shortL (rpShort [n0, n1, n2, n3, n4, n5, n6]) = b) = q) := hid (by rw [← HR6.out.1]; exact hqe)
        clear hq hqe HSC HEC HX HZ HBW HR6 x0 x1 x2 x3 x4 x5 x6 x7 x8 x9 x10 x11
        have x0 : w6.cell? ⟨k6, 0, none⟩ = some (.int .i64 0) := HX6.out.cell (j := 0) rfl
        have x1 : w6.cell? ⟨k6, 1, none⟩ = some (.int .i64 0) := HX6.out.cell (j := 1) rfl
        have x2 : w6.cell? ⟨k6, 2, none⟩ = some (.int .i64 0) := HX6.out.cell (j := 2) rfl
        have x3 : w6.cell? ⟨k6, 3, none⟩ = some (.int .i64 (n0 : Int)) := HX6.out.cell (j := 3) rfl
        have x4 : w6.cell? ⟨k6, 4, none⟩ = some (.int .i64 (n1 : Int)) := HX6.out.cell (j := 4) rfl
        have x5 : w6.cell? ⟨k6, 5, none⟩ = some (.int .i64 (n2 : Int)) := HX6.out.cell (j := 5) rfl
        have x6 : w6.cell? ⟨k6, 6, none⟩ = some (.int .i64 (n3 : Int)) := HX6.out.cell (j := 6) rfl
        have x7 : w6.cell? ⟨k6, 7, none⟩ = some (.int .i64 (n4 : Int)) := HX6.out.cell (j := 7) rfl
        have x8 : w6.cell? ⟨k6, 8, none⟩ = some (.int .i64 (n5 : Int)) := HX6.out.cell (j := 8) rfl
        have x9 : w6.cell? ⟨k6, 9, none⟩ = some (.int .i64 (n6 : Int)) := HX6.out.cell (j := 9) rfl
        have x10 : w6.cell? ⟨k6, 10, none⟩ = some (.slice none 0 0) := HX6.out.cell (j := 10) rfl
        have x11 : w6.cell? ⟨k6, 11, none⟩ = some (.slice none 0 0) := HX6.out.cell (j := 11) rfl
        have z0 : w6.cell? ⟨w.heap.size, 0, none⟩ = some (.int .i64 0) := HZ6.out.cell (j := 0) rfl
        have z1 : w6.cell? ⟨w.heap.size, 1, none⟩ = some (.int .i64 0) := HZ6.out.cell (j := 1) rfl
        have z2 : w6.cell? ⟨w.heap.size, 2, none⟩ = some (.int .i64 0) := HZ6.out.cell (j := 2) rfl
        have z3 : w6.cell? ⟨w.heap.size, 3, none⟩ = some (.int .i64 0) := HZ6.out.cell (j := 3) rfl
        have z4 : w6.cell? ⟨w.heap.size, 4, none⟩ = some (.int .i64 0) := HZ6.out.cell (j := 4) rfl
        have z5 : w6.cell? ⟨w.heap.size, 5, none⟩ = some (.int .i64 0) := HZ6.out.cell (j := 5) rfl
        have z6 : w6.cell? ⟨w.heap.size, 6, none⟩ = some (.int .i64 0) := HZ6.out.cell (j := 6) rfl
        have z7 : w6.cell? ⟨w.heap.size, 7, none⟩ = some (.int .i64 0) := HZ6.out.cell (j := 7) rfl
        have z8 : w6.cell? ⟨w.heap.size, 8, none⟩ = some (.int .i64 0) := HZ6.out.cell (j := 8) rfl
        have z9 : w6.cell? ⟨w.heap.size, 9, none⟩ = some (.int .i64 0) := HZ6.out.cell (j := 9) rfl
        have z10 : w6.cell? ⟨w.heap.size, 10, none⟩ = some (.slice none 0 0) := HZ6.out.cell (j := 10) rfl
        have z11 : w6.cell? ⟨w.heap.size, 11, none⟩ = some (.slice none 0 0) := HZ6.out.cell (j := 11) rfl
        have zf := HZ6.out.free
        cases q with
        | true =>
          have HYES : Hid (longR b = some (rpShort [n0, n1, n2, n3, n4, n5, n6])) := hid (by rw [HDV.out, if_pos ⟨HEN.out, of_decide_eq_true HQE.out⟩])
          go_wp2_with fail
          refine HQ.out.mono ?_
          rintro e w7 ⟨rfl, hw7⟩
          rw [hw7]
          clear hw7 w7
          go_wp2_with fail
          refine bodyPost_ret (res97 (k := w.heap.size) (cs := rcells (rpShort [n0, n1, n2, n3, n4, n5, n6]) none 0 none 0) rfl (HZ6.out.set12 _ _ _ _ _ _ _ _ _ _ _ _) _ rfl) rfl (.inl ⟨_, HYES.out, rfl, rfl, rfl, hid (below12 HB6.out (Nat.le_refl _) _ _ _ _ _ _ _ _ _ _ _ _)⟩)
        | false =>
          have HNO : Hid (longR b = none) := hid (by rw [HDV.out, if_neg (fun h => absurd h.2 (of_decide_eq_false HQE.out))])
          go_wp2_with fail
          refine HQ.out.mono ?_
          rintro e w7 ⟨rfl, hw7⟩
          rw [hw7]
          clear hw7 w7
          go_wp2_with fail
          refine bodyPost_ret (res97 (k := w.heap.size) (cs := rcells rpZero none 0 none 0) rfl (HZ6.out.set12 _ _ _ _ _ _ _ _ _ _ _ _) _ rfl) rfl (.inr ⟨HNO.out, rfl, hid (below12 HB6.out (Nat.le_refl _) _ _ _ _ _ _ _ _ _ _ _ _)⟩)
      · have hne : (((endE r4.1 r4.2 : Nat) : Int) != 0) = true := by rw [bne_iff_ne]; omega
        have HNO : Hid (longR b = none) := hid (by rw [HDV.out, if_neg (fun h => hen h.1)])
        clear hen
        have z0 : wr.cell? ⟨w.heap.size, 0, none⟩ = some (.int .i64 0) := HZ.out.cell (j := 0) rfl
        have z1 : wr.cell? ⟨w.heap.size, 1, none⟩ = some (.int .i64 0) := HZ.out.cell (j := 1) rfl
        have z2 : wr.cell? ⟨w.heap.size, 2, none⟩ = some (.int .i64 0) := HZ.out.cell (j := 2) rfl
        have z3 : wr.cell? ⟨w.heap.size, 3, none⟩ = some (.int .i64 0) := HZ.out.cell (j := 3) rfl
        have z4 : wr.cell? ⟨w.heap.size, 4, none⟩ = some (.int .i64 0) := HZ.out.cell (j := 4) rfl
        have z5 : wr.cell? ⟨w.heap.size, 5, none⟩ = some (.int .i64 0) := HZ.out.cell (j := 5) rfl
        have z6 : wr.cell? ⟨w.heap.size, 6, none⟩ = some (.int .i64 0) := HZ.out.cell (j := 6) rfl
        have z7 : wr.cell? ⟨w.heap.size, 7, none⟩ = some (.int .i64 0) := HZ.out.cell (j := 7) rfl
        have z8 : wr.cell? ⟨w.heap.size, 8, none⟩ = some (.int .i64 0) := HZ.out.cell (j := 8) rfl
        have z9 : wr.cell? ⟨w.heap.size, 9, none⟩ = some (.int .i64 0) := HZ.out.cell (j := 9) rfl
        have z10 : wr.cell? ⟨w.heap.size, 10, none⟩ = some (.slice none 0 0) := HZ.out.cell (j := 10) rfl
        have z11 : wr.cell? ⟨w.heap.size, 11, none⟩ = some (.slice none 0 0) := HZ.out.cell (j := 11) rfl
        have zf := HZ.out.free
        go_wp2_with fail
        refine HEC.out.mono ?_
        rintro e w5 ⟨rfl, hw5⟩
        rw [hw5]
        clear hw5 w5
        go_wp2_with fail
        refine bodyPost_ret (res97 (k := w.heap.size) (cs := rcells rpZero none 0 none 0) rfl (HZ.out.set12 _ _ _ _ _ _ _ _ _ _ _ _) _ rfl) rfl (.inr ⟨HNO.out, rfl, hid (below12 HBW.out (Nat.le_refl _) _ _ _ _ _ _ _ _ _ _ _ _)⟩)
end Go.Proofs.Ytppbcdcmpcagdaa
