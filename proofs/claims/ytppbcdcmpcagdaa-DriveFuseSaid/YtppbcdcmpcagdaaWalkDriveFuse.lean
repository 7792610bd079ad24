/- The law DriveFuse returns true at every input: behind as many writes as were said nothing is done any more, till a restart. No condition. -/
import Derived.Test.YtppbcdcmpcagdaaDriveW
namespace Go.Proofs.Ytppbcdcmpcagdaa
open Go.RowKit Go.CP

/-- A drive of 64 sectors with a fuse of k, behind i writes of zeros. -/
def fz (k i : Nat) : Drv := ⟨(Drv.new 64).sure, (List.range (min i k)).map fun (j : Nat) => ((j : Int), zA), ((k - min i k : Nat) : Int), decide (k < i)⟩
theorem zA_len : zA.length = 128 := by simp [zA]
theorem fz_eq {k i : Nat} {D : Drv} (h1 : D.sure = (Drv.new 64).sure) (h2 : D.list = (List.range (min i k)).map fun (j : Nat) => ((j : Int), zA)) (h3 : D.fuse = ((k - min i k : Nat) : Int)) (h4 : D.dead = decide (k < i)) : D = fz k i := by
  cases D
  simp only at h1 h2 h3 h4
  rw [h1, h2, h3, h4]
  rfl
theorem fz_put {k i : Nat} (hk : k < 20) (hi : i < k + 2) : (fz k i).put [((i : Int), zA)] = (if i < k then 0 else 11, fz k (i + 1)) := by
  have hs : (fz k i).sure.length = 64 := List.length_replicate
  have hdd : (fz k i).dead = decide (k < i) := rfl
  have hff : (fz k i).fuse = ((k - min i k : Nat) : Int) := rfl
  have hll : (fz k i).list = (List.range (min i k)).map fun (j : Nat) => ((j : Int), zA) := rfl
  have hss : (fz k i).sure = (Drv.new 64).sure := rfl
  generalize fz k i = D at *
  have ho : outB D.sure.length [((i : Int), zA)] = false := by rw [hs]; simp [outB]; omega
  have hl : lenB [((i : Int), zA)] = false := by simp [lenB, zA_len]
  by_cases h : k < i
  · have hd : D.dead = true := by rw [hdd]; simp [h]
    rw [Drv.put, if_pos hd, if_neg (by omega)]
    exact congrArg (Prod.mk (11 : Int)) (fz_eq hss (by rw [hll, show min i k = min (i + 1) k by omega]) (by rw [hff]; omega) (by rw [hdd]; simp; omega))
  · have hd : D.dead = false := by rw [hdd]; simp; omega
    rw [Drv.put, hd, ho, hl]
    simp only [Bool.false_eq_true, if_false]
    by_cases h2 : i < k
    · have hf : D.fuse ≠ 0 := by rw [hff]; omega
      rw [putGo, if_neg hf, putGo, if_pos h2]
      refine congrArg (Prod.mk (0 : Int)) (fz_eq hss ?_ ?_ ?_)
      · show D.list ++ [((i : Int), zA)] = _
        rw [hll, show min (i + 1) k = min i k + 1 by omega, List.range_succ, List.map_append, show min i k = i by omega]
        rfl
      · show max (D.fuse - 1) (-1) = _
        rw [hff]; omega
      · show D.dead = _
        rw [hd]; simp; omega
    · have hf : D.fuse = 0 := by rw [hff]; omega
      rw [putGo, if_pos hf, if_neg h2]
      exact congrArg (Prod.mk (11 : Int)) (fz_eq hss (by show D.list = _; rw [hll, show min i k = min (i + 1) k by omega]) (by show D.fuse = _; rw [hff]; omega) (by show true = _; simp; omega))
theorem fz_fuse (k i : Nat) : -1 ≤ (fz k i).fuse ∧ (fz k i).fuse ≤ k ∧ (fz k i).list.length ≤ k := by
  simp only [fz, List.length_map, List.length_range]
  omega
theorem fz_get {k i : Nat} (h : k < i) : (fz k i).get 0 = (11, []) := by
  rw [Drv.get, if_pos (by simp [fz, h])]
theorem fz_flush {k i : Nat} (h : k < i) : (fz k i).flush = (11, fz k i) := by
  rw [Drv.flush, if_pos (by simp [fz, h])]
theorem fz_restart (k i : Nat) : ((fz k i).restart []).fuse = -1 ∧ ((fz k i).restart []).list = [] ∧ ((fz k i).restart []).sure.length = 64 ∧ ((fz k i).restart []).get 0 = (0, ((fz k i).restart []).at 0) ∧ ((fz k i).restart []).flush.1 = 0 := by
  have hl : ((fz k i).restart []).sure.length = 64 := by
    rw [Drv.restart, setKept_len]
    simp [fz, Drv.new]
  refine ⟨rfl, rfl, hl, ?_, ?_⟩
  · rw [Drv.get, if_neg (by simp [Drv.restart]), if_neg (by rw [hl]; omega)]
    rfl
  · rw [Drv.flush, if_neg (by simp [Drv.restart]), if_neg (by simp [Drv.restart])]
theorem fz_zero (k : Nat) : (Drv.new 64).fuseTo k = fz k 0 := by
  simp [Drv.fuseTo, fz, Drv.new]
  omega

set_option maxHeartbeats 4000000 in
set_option maxRecDepth 100000 in
theorem driveFuse_walk (w : World) (n : Int) (hn : 0 ≤ n ∧ n < 256) : Calls Try.prog 30 #[.int .u8 n] w fun e w' => e = .returned (.bool true) ∧ Below w.heap.size w w' := by
  obtain ⟨m, rfl⟩ : ∃ m : Nat, n = m := ⟨n.toNat, by omega⟩
  obtain ⟨k, hk⟩ : ∃ k : Nat, k = m % 20 := ⟨_, rfl⟩
  have hkm : ((m : Int) % 20) = (k : Int) := by omega
  have hk20 : k < 20 := by omega
  have hk20i : (k : Int) < 20 := by omega
  have hmi : (m : Int) < 256 := hn.2
  have hm0 : (0 : Int) ≤ m := hn.1
  have HK := hid hk
  clear hk hn
  go_enter Try.func30, Try.ntmps30
  go_wp2_with fail
  refine (new_drive 64 w (by decide) (by decide)).mono ?_
  rintro e w1 ⟨g, s, rfl, hd1, hb1, hg, hs⟩
  have HD1 := hid hd1
  clear hd1
  go_wp2_with fail
  refine (awake05_any _).mono ?_
  rintro e w2 ⟨rfl, hb2⟩
  have hd2 := HD1.out.below hb2 (Nat.le_refl _)
  have HV2 : Hid (Drove w1 w2 g s none none) := hid (Drove.of_below hb2)
  have hp := fuse_drive w2 g s none 0 (Drv.new 64) k hd2
  rw [fz_zero] at hp
  have HP := hid hp
  clear hp hd2 hb2
  go_wp2_with fail
  refine HP.out.mono ?_
  clear HP
  rintro e w3 ⟨rfl, hd3, hv3⟩
  have HD3 := hid hd3
  have HV3 := hid (HV2.out.trans hv3)
  clear hd3 hv3
  go_wp2_with fail
  go_loopw [6] (fun iv wr => ∃ i : Nat, i ≤ k + 2 ∧ iv = .int .i64 i ∧ Hid (∃ A c, DriveIs wr g s A c (fz k i) ∧ Drove w1 wr g s none A)) (fun iv _ => k + 2 - (intOf iv).toNat)
  case atStart => exact ⟨0, by omega, rfl, hid ⟨none, 0, HD3.out, HV3.out⟩⟩
  case round =>
    obtain ⟨i, hi, rfl, HI⟩ := hrel
    obtain ⟨A, c, hd4, hv4⟩ := HI.out
    have HD4 := hid hd4
    have HV4 := hid hv4
    have hff := fz_fuse k i
    clear hd4 hv4 HI
    by_cases hlt : i < k + 2
    · have hpt := fz_put hk20 hlt
      by_cases hik : i < k
      · rw [if_pos hik] at hpt
        have HPT := hid hpt
        have hiki : (i : Int) < (k : Int) := by omega
        clear hpt
        go_wp2_with ((with_reducible refine wpl_make22 ?_); refine mk_zeros rfl rfl ?_; intro w5 ho5 hb5 _hz5; clear _hz5)
        have hp := put1 w5 g s A c (fz k i) (HD4.out.below hb5 (Nat.le_refl _)) hff.1 (by omega) (by omega) i _ zA 128 (Safe.mk' ho5.cells (by rw [zA_len]; decide) (far_new HD4.out fun j hj => by simp [blockOf] at hj; omega)) (by rw [zA_len]; decide)
        rw [zA_len, HPT.out] at hp
        with_reducible refine hp.mono ?_
        clear hp
        rintro e w6 ⟨rfl, A6, c6, hd6, hv6⟩
        have HE := hid (show DriveIs w6 g s A6 c6 (fz k (i + 1)) ∧ Drove w1 w6 g s none A6 from ⟨hd6, HV4.out.trans ((Drove.of_below hb5).trans hv6)⟩)
        clear hd6 hv6 ho5 hb5
        go_wp2_with fail
        go_roundw
        case rel => exact ⟨i + 1, by omega, by go_num, hid ⟨A6, c6, HE.out⟩⟩
        case measure => simp [intOf]; omega
      · rw [if_neg hik] at hpt
        have HPT := hid hpt
        have hiki : ¬ (i : Int) < (k : Int) := by omega
        clear hpt
        go_wp2_with ((with_reducible refine wpl_make22 ?_); refine mk_zeros rfl rfl ?_; intro w5 ho5 hb5 _hz5; clear _hz5)
        have hp := put1 w5 g s A c (fz k i) (HD4.out.below hb5 (Nat.le_refl _)) hff.1 (by omega) (by omega) i _ zA 128 (Safe.mk' ho5.cells (by rw [zA_len]; decide) (far_new HD4.out fun j hj => by simp [blockOf] at hj; omega)) (by rw [zA_len]; decide)
        rw [zA_len, HPT.out] at hp
        with_reducible refine hp.mono ?_
        clear hp
        rintro e w6 ⟨rfl, A6, c6, hd6, hv6⟩
        have HE := hid (show DriveIs w6 g s A6 c6 (fz k (i + 1)) ∧ Drove w1 w6 g s none A6 from ⟨hd6, HV4.out.trans ((Drove.of_below hb5).trans hv6)⟩)
        clear hd6 hv6 ho5 hb5
        go_wp2_with fail
        go_roundw
        case rel => exact ⟨i + 1, by omega, by go_num, hid ⟨A6, c6, HE.out⟩⟩
        case measure => simp [intOf]; omega
    · have hik : k < i := by omega
      have hss : (fz k i).sure.length = 64 := List.length_replicate
      have hfr := fz_restart k i
      have HG := hid (get_no wr g s A c (fz k i) HD4.out 0 (by rw [hss]; decide) (by omega) 11 [] (fz_get hik) (by decide))
      have HFR := hid hfr
      have HSS := hid hss
      clear hfr hss
      go_wp2_with fail
      refine HG.out.mono ?_
      clear HG
      rintro e w7 ⟨rfl, hb7⟩
      have hd7 := HD4.out.below hb7 (Nat.le_refl _)
      have hv7 : Drove w1 w7 g s none A := HV4.out.trans (Drove.of_below hb7)
      have hp := drv_flush w7 g s A c (fz k i) hd7 hff.1 (by omega) (by omega)
      rw [fz_flush hik] at hp
      have HP := hid hp
      have HV7 := hid hv7
      clear hp hd7 hv7 hb7
      go_wp2_with fail
      refine HP.out.mono ?_
      clear HP
      rintro e w8 ⟨rfl, A8, c8, hd8, hv8⟩
      have HV8 := hid (HV7.out.trans hv8)
      have HP := hid (drv_restart w8 g s A8 c8 (fz k i) hd8 (by omega) none [] 0 (Cells.nil _ _) (fun _ j hj => by cases hj) (by decide))
      clear hd8 hv8
      go_wp2_with fail
      refine HP.out.mono ?_
      clear HP
      rintro e w9 ⟨rfl, hd9, hv9⟩
      have HV9 := hid (HV8.out.trans hv9)
      have HP := hid (get_is w9 g s none 0 _ hd9 0 (by rw [HFR.out.2.2.1]; decide) (by rw [HFR.out.2.1]; decide) _ HFR.out.2.2.2.1)
      have HD9 := hid hd9
      clear hd9 hv9
      go_wp2_with fail
      refine HP.out.mono ?_
      clear HP
      rintro e w10 ⟨b10, rfl, hb10, hx10, hbb10⟩
      have hd10 := HD9.out.below hbb10 (Nat.le_refl _)
      have hv10 : Drove w1 w10 g s none none := HV9.out.trans (Drove.of_below hbb10)
      have hp := drv_flush w10 g s none 0 _ hd10 (by rw [HFR.out.1]; decide) (by rw [HFR.out.1]; decide) (by rw [HFR.out.2.1]; decide)
      have HP := hid hp
      have HV10 := hid hv10
      clear hp hd10 hv10 hb10 hx10 hbb10
      go_wp2_with fail
      refine HP.out.mono ?_
      clear HP
      rintro e w11 ⟨rfl, A11, c11, hd11, hv11⟩
      rw [HFR.out.2.2.2.2]
      have HB := hid ((HV10.out.trans hv11).back hb1 hg hs)
      clear hd11 hv11
      go_wp2_with fail
      go_ret
      exact ⟨rfl, HB.out⟩
end Go.Proofs.Ytppbcdcmpcagdaa
