/- The law DriveOwn returns true at every input: what was written, and what is told, may be written over. No condition. -/
import Derived.Test.YtppbcdcmpcagdaaDriveW
namespace Go.Proofs.Ytppbcdcmpcagdaa
open Go.RowKit Go.CP

theorem u8_is {a : Int} (h : 0 ≤ a ∧ a < 256) : ∃ u : UInt8, a = (u.toNat : Int) := ⟨UInt8.ofNat a.toNat, by rw [UInt8.toNat_ofNat', Nat.mod_eq_of_lt (by omega)]; omega⟩
theorem zA_len' : zA.length = 128 := by simp [zA]
/-- A drive of 64 sectors of zeros for whom one write waits. -/
def oneD (n : Nat) (d : List UInt8) : Drv := ⟨(Drv.new 64).sure, [((n : Int), d)], -1, false⟩
theorem new_put {n : Nat} (hn : n < 64) {d : List UInt8} (hd : d.length = 128) : (Drv.new 64).put [((n : Int), d)] = (0, oneD n d) := by
  have ho : outB (Drv.new 64).sure.length [((n : Int), d)] = false := by simp [outB, Drv.new]; omega
  have hl : lenB [((n : Int), d)] = false := by simp [lenB, hd]
  have h1 : (Drv.new 64).dead = false := rfl
  have h2 : (Drv.new 64).fuse ≠ 0 := by show (-1 : Int) ≠ 0; decide
  rw [Drv.put, h1, ho, hl]
  simp only [Bool.false_eq_true, if_false, putGo, if_neg h2]
  rfl
theorem oneD_get {n : Nat} (hn : n < 64) (d : List UInt8) : (oneD n d).get n = (0, d) := by
  have h1 : (oneD n d).dead = false := rfl
  have h2 : (oneD n d).sure.length = 64 := List.length_replicate
  rw [Drv.get, h1, h2]
  simp only [Bool.false_eq_true, if_false]
  rw [if_neg (by omega)]
  simp [Drv.at, oneD, lastL]
theorem DriveIs.setFar {W : World} {g s : Nat} {A : Option Addr} {c : Nat} {D : Drv} (h : DriveIs W g s A c D) {b off : Nat} (hf : Far (some ⟨b, off, none⟩) A g s) (j : Nat) (v : Value) : DriveIs (W.setCell ⟨b, j, none⟩ v) g s A c D := by
  obtain ⟨h1, h2, h3⟩ := hf b rfl
  exact h.of_blocks (Below.heap_setCell _ _ _ _ (Ne.symm h1)) (Below.heap_setCell _ _ _ _ (Ne.symm h2)) fun k hk => Below.heap_setCell _ _ _ _ fun e => h3 (by rw [← show k = b from e]; exact hk)
theorem Drove.setNew {W W' : World} {g s : Nat} {A A' : Option Addr} (h : Drove W W' g s A A') {b : Nat} (hb : W.heap.size ≤ b) (j : Nat) (v : Value) : Drove W (W'.setCell ⟨b, j, none⟩ v) g s A A' :=
  ⟨⟨h.1.1, h.1.2.1, h.1.2.2.1, by simp [World.setCell]; exact h.1.2.2.2⟩, fun k hk h1 h2 h3 => (Below.heap_setCell _ _ _ _ (by simp; omega)).trans (h.2.1 k hk h1 h2 h3), h.2.2⟩

set_option maxHeartbeats 4000000 in
set_option maxRecDepth 100000 in
theorem driveOwn_walk (w : World) (n a x : Int) (hn : 0 ≤ n ∧ n < 256) (ha : 0 ≤ a ∧ a < 256) (hx : 0 ≤ x ∧ x < 256) : Calls Try.prog 31 #[.int .u8 n, .int .u8 a, .int .u8 x] w fun e w' => e = .returned (.bool true) ∧ Below w.heap.size w w' := by
  obtain ⟨m, rfl⟩ : ∃ m : Nat, n = m := ⟨n.toNat, by omega⟩
  obtain ⟨u, rfl⟩ := u8_is ha
  obtain ⟨v, rfl⟩ := u8_is hx
  obtain ⟨k, hk⟩ : ∃ k : Nat, k = m % 64 := ⟨_, rfl⟩
  have hkm : ((m : Int) % 64) = (k : Int) := by omega
  have hk64 : k < 64 := by omega
  have hk64i : (k : Int) < 64 := by omega
  have hk0 : (0 : Int) ≤ (k : Int) := by omega
  have hmi : (m : Int) < 256 := hn.2
  have hm0 : (0 : Int) ≤ m := hn.1
  have HK := hid hk
  have hbl : (zA.set 7 u).length = 128 := by rw [List.length_set, zA_len']
  have HNP := hid (new_put hk64 hbl)
  have HGET := hid (oneD_get hk64 (zA.set 7 u))
  have hb7 : (zA.set 7 u)[7]? = some u := by rw [List.getElem?_set_self (by rw [zA_len']; decide)]
  have HB7 := hid hb7
  have HBL := hid hbl
  clear hk hn ha hx hbl hb7
  go_enter Try.func31, Try.ntmps31
  go_wp2_with fail
  refine (new_drive 64 w (by decide) (by decide)).mono ?_
  rintro e w1 ⟨g, s, rfl, hd1, hb1, hg, hs⟩
  have HD1 := hid hd1
  clear hd1
  go_wp2_with ((with_reducible refine wpl_make22 ?_); refine mk_zeros rfl rfl ?_; intro w2 ho2 hb2 hz2; have hc2 := own_cell ho2 (j := 7) (v := .int .u8 0) (by rfl); have hf2 := ho2.free rfl 7; have HO2 := hid ho2; have HB2 := hid hb2; have HZ2 := hid hz2; clear ho2 hb2 hz2)
  have ho3 := HO2.out.set rfl 7 (bv u)
  rw [← List.map_set] at ho3
  have hb3 : Below w1.heap.size w1 (w2.setCell ⟨w1.heap.size, 7, none⟩ (bv u)) := HB2.out.setCell (p := ⟨w1.heap.size, 7, none⟩) (Nat.le_refl _) _
  obtain ⟨W3, hW3⟩ : ∃ W3, W3 = w2.setCell ⟨w1.heap.size, 7, none⟩ (.int .u8 (u.toNat : Int)) := ⟨_, rfl⟩
  rw [← hW3] at ho3 hb3 ⊢
  clear hW3 hc2 hf2
  refine (awake05_any W3).mono ?_
  rintro e W4 ⟨rfl, hb4⟩
  have hb34 : Below w1.heap.size w1 W4 := below_t hb3 hb4 hb3.size
  have hd4 := HD1.out.below hb34 (Nat.le_refl _)
  have ho4 := ho3.below hb4 (Nat.le_refl _)
  have hs4 : Safe W4 none g s (some ⟨w1.heap.size, 0, none⟩) (zA.set 7 u) := Safe.mk' ho4.cells (by rw [HBL.out]; decide) (far_new HD1.out fun k hk => by simp [blockOf] at hk; omega)
  have hp := put1 W4 g s none 0 (Drv.new 64) hd4 (by decide) (by decide) (by decide) k _ (zA.set 7 u) 128 hs4 (by rw [HBL.out]; decide)
  rw [HBL.out, HNP.out] at hp
  have HP := hid hp
  have HS4 := hid hs4
  have HO4 := hid ho4
  have HV4 : Hid (Drove w1 W4 g s none none) := hid (Drove.of_below hb34)
  clear hp hs4 ho4 hb34 hb4 hb3 ho3 hd4
  go_wp2_with fail
  with_reducible refine HP.out.mono ?_
  clear HP
  rintro e W5 ⟨rfl, A5, c5, hd5, hv5⟩
  have hs5 := HS4.out.drove hv5
  have ho5 : Go.CP.Own W5 w1.heap.size 5 1 (some ⟨w1.heap.size, 0, none⟩) 128 128 ((zA.set 7 u).map bv) := own_of_block HO4.out fun j hj => hv5.2.1 j ((HO4.out.block j hj).2) (HS4.out.2.1 j hj).1 (HS4.out.2.1 j hj).2.1 (HS4.out.2.1 j hj).2.2
  have hc5 : W5.cell? ⟨w1.heap.size, 7, none⟩ = some (.int .u8 (u.toNat : Int)) := own_cell ho5 (by rw [List.getElem?_map, HB7.out]; rfl)
  have hf5 := ho5.free rfl 7
  have HV5 := hid (HV4.out.trans hv5)
  have HD5 := hid hd5
  have HS5 := hid hs5
  clear hd5 hs5 hv5 ho5
  go_wp2_with fail
  have hd6 := HD5.out.setFar HS5.out.2.1 7 (.int .u8 (bits BinOp.xor IntKind.u8 (u.toNat : Int) (v.toNat : Int)))
  have hv6 := HV5.out.setNew (b := w1.heap.size) (Nat.le_refl _) 7 (.int .u8 (bits BinOp.xor IntKind.u8 (u.toNat : Int) (v.toNat : Int)))
  obtain ⟨W6, hW6⟩ : ∃ W6, W6 = W5.setCell ⟨w1.heap.size, 7, none⟩ (.int .u8 (bits BinOp.xor IntKind.u8 (u.toNat : Int) (v.toNat : Int))) := ⟨_, rfl⟩
  rw [← hW6] at hd6 hv6 ⊢
  clear hW6 hc5 hf5
  have HSL : Hid ((oneD k (zA.set 7 u)).sure.length = 64) := hid List.length_replicate
  have hll : (oneD k (zA.set 7 u)).list.length = 1 := rfl
  have HP := hid (get_is W6 g s A5 c5 _ hd6 k (by rw [HSL.out]; decide) (by rw [hll]; decide) _ HGET.out)
  have HD6 := hid hd6
  have HV6 := hid hv6
  clear hd6 hv6 hll
  with_reducible refine HP.out.mono ?_
  clear HP
  rintro e W7 ⟨b7, rfl, hb7, hx7, hbb7⟩
  have hd7 := HD6.out.below hbb7 (Nat.le_refl _)
  have hf7 : Far (some ⟨b7, 0, none⟩) A5 g s := far_new HD6.out fun j hj => by simp [blockOf] at hj; omega
  have hv7 : Drove w1 W7 g s none A5 := HV6.out.trans (Drove.of_below hbb7)
  have hc7 : W7.cell? ⟨b7, 7, none⟩ = some (.int .u8 (u.toNat : Int)) := row_at hx7 HB7.out
  have hz7 : W7.frozen? ⟨b7, 7, none⟩ = false := by simp [World.frozen?, hx7]
  have hw17 : w1.heap.size ≤ b7 := Nat.le_trans HV6.out.size hb7
  have HD7 := hid hd7
  have HF7 := hid hf7
  have HV7 := hid hv7
  clear hd7 hf7 hv7 hx7 hbb7
  go_wp2_with fail
  have hd8 := HD7.out.setFar HF7.out 7 (.int .u8 (bits BinOp.xor IntKind.u8 (u.toNat : Int) (v.toNat : Int)))
  have hv8 := HV7.out.setNew (b := b7) hw17 7 (.int .u8 (bits BinOp.xor IntKind.u8 (u.toNat : Int) (v.toNat : Int)))
  obtain ⟨W8, hW8⟩ : ∃ W8, W8 = W7.setCell ⟨b7, 7, none⟩ (.int .u8 (bits BinOp.xor IntKind.u8 (u.toNat : Int) (v.toNat : Int))) := ⟨_, rfl⟩
  rw [← hW8] at hd8 hv8 ⊢
  clear hW8 hc7 hz7
  have HP := hid (drv_image W8 g s A5 c5 _ hd8 (by rw [HSL.out]; decide))
  have HD8 := hid hd8
  have HV8 := hid hv8
  clear hd8 hv8
  with_reducible refine HP.out.mono ?_
  clear HP
  rintro e W9 ⟨AI, cI, xs, rfl, hoI, hrI, hbI⟩
  rw [HSL.out] at hoI ⊢
  have hsk : (oneD k (zA.set 7 u)).sure[k]? = some zA := by
    show (List.replicate 64 (List.replicate 128 (0 : UInt8)))[k]? = _
    rw [List.getElem?_replicate, if_pos hk64]
    rfl
  obtain ⟨Ak, ck, hxk, hok⟩ := hrI.2 k zA hsk
  rw [zA_len'] at hxk hok
  obtain ⟨gI, curI, rfl, hgI, -, -, -⟩ := hoI.open (by decide)
  obtain ⟨gk, curk, rfl, hgk, -, -, -⟩ := hok.open (by decide)
  have hcI := own_cell hoI hxk
  have hck := own_cell hok (j := 7) (v := .int .u8 0) (by rfl)
  have hfk := hok.free rfl 7
  have hd9 := HD8.out.below hbI (Nat.le_refl _)
  have hfr : Far (some ⟨gk, 0, none⟩) A5 g s := far_new HD8.out fun j hj => by simp [blockOf] at hj; omega
  have hw19 : w1.heap.size ≤ gk := Nat.le_trans HV8.out.size hgk
  have HD9 := hid hd9
  have HFR := hid hfr
  have HV9 : Hid (Drove w1 W9 g s none A5) := hid (HV8.out.trans (Drove.of_below hbI))
  clear hoI hrI hbI hsk hxk hok hd9 hfr
  go_wp2_with fail
  have hd10 := HD9.out.setFar HFR.out 7 (.int .u8 (bits BinOp.xor IntKind.u8 0 (v.toNat : Int)))
  have hv10 := HV9.out.setNew (b := gk) hw19 7 (.int .u8 (bits BinOp.xor IntKind.u8 0 (v.toNat : Int)))
  obtain ⟨W10, hW10⟩ : ∃ W10, W10 = W9.setCell ⟨gk, 7, none⟩ (.int .u8 (bits BinOp.xor IntKind.u8 0 (v.toNat : Int))) := ⟨_, rfl⟩
  rw [← hW10] at hd10 hv10 ⊢
  clear hW10 hcI hck hfk
  have hll : (oneD k (zA.set 7 u)).list.length = 1 := rfl
  have HP := hid (get_is W10 g s A5 c5 _ hd10 k (by rw [HSL.out]; decide) (by rw [hll]; decide) _ HGET.out)
  have HV10 := hid hv10
  clear hd10 hv10 hll
  with_reducible refine HP.out.mono ?_
  clear HP
  rintro e W11 ⟨b11, rfl, hb11, hx11, hbb11⟩
  have hc11 : W11.cell? ⟨b11, 7, none⟩ = some (.int .u8 (u.toNat : Int)) := row_at hx11 HB7.out
  have HB := hid ((HV10.out.trans (Drove.of_below hbb11)).back hb1 hg hs)
  clear hx11 hbb11
  go_wp2_with fail
  go_ret
  exact ⟨rfl, HB.out⟩
end Go.Proofs.Ytppbcdcmpcagdaa
