/- The law DriveTwo returns true at every input: two drives do not know of one another. -/
import Derived.Test.YtppbcdcmpcagdaaPlay2
namespace Go.Proofs.Ytppbcdcmpcagdaa
open Go.RowKit Go.CP

theorem gd_new : Gd (Drv.new 64) 0 := ⟨by decide, by decide, by simp [Drv.new], Nat.le_refl _⟩
theorem apart_new {w1 w2 : World} {g s g' s' : Nat} {A : Option Addr} {c : Nat} {D : Drv} (h : DriveIs w1 g s A c D) (hw : w1.heap.size ≤ w2.heap.size) (hg : w2.heap.size ≤ g') (hs : w2.heap.size ≤ s') : ApartD g s A g' s' none := by
  have hl := h.lt
  refine ⟨⟨by omega, by omega, fun e => by cases e⟩, ⟨by omega, by omega, fun e => by cases e⟩, fun k hk => ⟨?_, ?_, fun e => by cases e⟩⟩
  · have := hl.2.2 k hk
    omega
  · have := hl.2.2 k hk
    omega
theorem imageN (W : World) (g s : Nat) (A : Option Addr) (c : Nat) (D : Drv) (h : DriveIs W g s A c D) (hl : D.sure.length = 64) :
    Calls Try.prog 105 #[.pointer (some ⟨g, 0, none⟩)] W fun e W' => ∃ q c xs, e = .returned (.slice (some ⟨q, 0, none⟩) 64 c) ∧ Go.CP.Own W' W.heap.size 22 1 (some ⟨q, 0, none⟩) 64 c xs ∧ Rows5 W' W.heap.size xs D.sure ∧ Below W.heap.size W W' := by
  refine (drv_image W g s A c D h (by omega)).mono ?_
  rintro e W' ⟨B, cb, xs, he, ho, hr, hb⟩
  rw [hl] at he ho
  obtain ⟨q, C, rfl, -⟩ := ho.open (by decide)
  exact ⟨q, cb, xs, he, ho, hr, hb⟩
theorem steps_all {w : World} {b off : Nat} {ss : List Stp} (h : Cells w (some ⟨b, off, none⟩) (ss.flatMap Stp.cells)) {i : Nat} {x : Stp} (hx : ss[i]? = some x) (W : World) (hb : Below w.heap.size w W) :
    W.cell? ⟨b, off + i * 4, none⟩ = some (.int .i64 x.what) ∧ W.cell? ⟨b, off + i * 4 + 1, none⟩ = some (.int .i64 x.n) ∧ W.cell? ⟨b, off + i * 4 + 2, none⟩ = some (.slice x.la x.ws.length x.cl) ∧ W.cell? ⟨b, off + i * 4 + 3, none⟩ = some (.slice x.ka x.keep.length x.ck) := by
  obtain ⟨b', off', e, k⟩ := steps_at (Cells.below h hb (Nat.le_refl _)) hx
  cases e
  exact k
/-- The three drives of DriveTwo. -/
def Three (w wr : World) (g1 s1 g2 s2 g3 s3 N M : Nat) : Prop :=
  ∃ A1 c1 A2 c2 D, Dr wr w.heap.size g1 s1 A1 c1 D N ∧ Dr wr w.heap.size g2 s2 A2 c2 D N ∧ ApartD g1 s1 A1 g2 s2 A2 ∧ Below w.heap.size w wr ∧
    ∃ A3 c3 E, Dr wr w.heap.size g3 s3 A3 c3 E M ∧ ApartD g1 s1 A1 g3 s3 A3 ∧ ApartD g2 s2 A2 g3 s3 A3
set_option maxHeartbeats 4000000 in
set_option maxRecDepth 100000 in
theorem driveTwo_walk (w : World) (A : Option Addr) (ss : List Stp) (ca : Nat) (B : Option Addr) (ts : List Stp) (cb : Nat) (hA : StepsIn w A ss) (_ : ss.length ≤ ca) (hal : ss.length ≤ 140737488351232) (hB : StepsIn w B ts) (_ : ts.length ≤ cb) (_ : ts.length ≤ 140737488351232) :
    Calls Try.prog 34 #[.slice A ss.length ca, .slice B ts.length cb] w fun e w' => e = .returned (.bool true) ∧ Below w.heap.size w w' := by
  have HA := hid hA
  have HB := hid hB
  clear hA hB
  go_enter Try.func34, Try.ntmps34
  go_wp2_with fail
  refine (new_drive 64 w (by decide) (by decide)).mono ?_
  rintro e w1 ⟨g1, s1, rfl, hd1, hb1, hg1, hs1⟩
  have HD1 := hid hd1
  clear hd1
  go_wp2_with fail
  refine (new_drive 64 w1 (by decide) (by decide)).mono ?_
  rintro e w2 ⟨g2, s2, rfl, hd2, hb2, hg2, hs2⟩
  have HD2 := hid hd2
  clear hd2
  go_wp2_with fail
  refine (new_drive 64 w2 (by decide) (by decide)).mono ?_
  rintro e w3 ⟨g3, s3, rfl, hd3, hb3, hg3, hs3⟩
  have HD3 := hid hd3
  clear hd3
  go_wp2_with fail
  refine (awake05_any w3).mono ?_
  rintro e w4 ⟨rfl, hb4⟩
  have H0 : Hid (Three w w4 g1 s1 g2 s2 g3 s3 0 0) := hid (by
    have z1 := hb1.size
    have z2 := hb2.size
    have z3 := hb3.size
    have l1 := HD1.out.lt
    have l2 := HD2.out.lt
    have k1 := ((HD1.out.below hb2 (Nat.le_refl _)).below hb3 (Nat.le_refl _)).below hb4 (Nat.le_refl _)
    have k2 := (HD2.out.below hb3 (Nat.le_refl _)).below hb4 (Nat.le_refl _)
    have k3 := HD3.out.below hb4 (Nat.le_refl _)
    refine ⟨none, 0, none, 0, Drv.new 64, ⟨k1, gd_new, hg1, hs1, fun k e => by cases e⟩, ⟨k2, gd_new, by omega, by omega, fun k e => by cases e⟩, apart_new HD1.out (Nat.le_refl _) hg2 hs2, ?_, none, 0, Drv.new 64, ⟨k3, gd_new, by omega, by omega, fun k e => by cases e⟩, apart_new HD1.out z2 hg3 hs3, apart_new HD2.out (Nat.le_refl _) hg3 hs3⟩
    exact below_t (below_t (below_t hb1 hb2 z1) hb3 (Nat.le_trans z1 z2)) hb4 (Nat.le_trans z1 (Nat.le_trans z2 z3)))
  clear hb1 hb2 hb3 hb4 hg1 hg2 hg3 hs1 hs2 hs3 HD1 HD2 HD3
  go_wp2_with fail
  go_loopw [11] (fun iv' wr => ∃ i : Nat, i ≤ ss.length ∧ i ≤ 20 ∧ iv' = .int .i64 i ∧ Hid (Three w wr g1 s1 g2 s2 g3 s3 (roomTo ss i) (roomTo ts i))) (fun iv' _ => ss.length - (intOf iv').toNat)
  case atStart => exact ⟨0, by omega, by omega, rfl, H0⟩
  case round =>
    clear H0
    obtain ⟨i, hi, hi20, rfl, HT⟩ := hrel
    by_cases hlt : i < ss.length ∧ i < 20
    · obtain ⟨hl1, hl2⟩ := hlt
      obtain ⟨st, hst⟩ := get_of_lt ss hl1
      have hii : (i : Int) < (ss.length : Int) := by omega
      have hi20i : (i : Int) < 20 := by omega
      obtain ⟨ab, ao, rfl, -⟩ := steps_at HA.out.cells hst
      have HC4 := hid (fun W hb => steps_all (i := i) HA.out.cells hst W hb)
      have HST := hid hst
      clear hst
      obtain ⟨A1, c1, A2, c2, D, hx, hy, p12, hbw, A3, c3, E, hz, p13, p23⟩ := HT.out
      have HX := hid hx
      have HY := hid hy
      have P12 := hid p12
      have HBW := hid hbw
      have HZ := hid (And.intro hz (And.intro p13 p23))
      clear hx hy p12 hbw hz p13 p23 HT
      rcases Nat.lt_or_ge i ts.length with hlb | hlb
      case' inl =>
        obtain ⟨sb, hsb⟩ := get_of_lt ts hlb
        obtain ⟨bb, bo, rfl, -⟩ := steps_at HB.out.cells hsb
        obtain ⟨b0, b1, b2, b3⟩ := steps_all HB.out.cells hsb wr HBW.out
        have hlbi : (i : Int) < (ts.length : Int) := by omega
        have HSB := hid (roomTo_succ hsb)
        have HP := hid (play_dr HB.out HBW.out HZ.out.1 (List.mem_of_getElem? hsb) (by
          have h1 := roomTo_le ts (i + 1)
          have h2 := HB.out.room
          rw [HSB.out] at h1
          omega))
        clear hsb
        go_wp2_with fail
        with_reducible refine HP.out.mono ?_
        clear HP b0 b1 b2 b3
        rintro e wz ⟨rfl, A3', c3', hz', hvz, hbz⟩
        obtain ⟨hx', p13'⟩ := HX.out.away HZ.out.2.1 hvz
        obtain ⟨hy', p23'⟩ := HY.out.away HZ.out.2.2 hvz
        rw [← HSB.out] at hz'
        have HZN : Hid (∃ A3 c3 E, Dr wz w.heap.size g3 s3 A3 c3 E (roomTo ts (i + 1)) ∧ ApartD g1 s1 A1 g3 s3 A3 ∧ ApartD g2 s2 A2 g3 s3 A3) := hid ⟨A3', c3', _, hz', p13', p23'⟩
        have HXN := hid hx'
        have HYN := hid hy'
        have HBN := hid hbz
        clear hz' p13' p23' hx' hy' hbz hvz HX HY HBW HZ HSB
        go_wp2_with fail
      case' inr =>
        have hlbi : ¬ (i : Int) < (ts.length : Int) := by omega
        obtain ⟨wz, hwz⟩ : ∃ z, z = wr := ⟨_, rfl⟩
        have HZN : Hid (∃ A3 c3 E, Dr wz w.heap.size g3 s3 A3 c3 E (roomTo ts (i + 1)) ∧ ApartD g1 s1 A1 g3 s3 A3 ∧ ApartD g2 s2 A2 g3 s3 A3) := hid ⟨A3, c3, E, by rw [roomTo_out hlb, hwz]; exact HZ.out.1, HZ.out.2.1, HZ.out.2.2⟩
        have HXN := hid HX.out
        have HYN := hid HY.out
        have HBN := hid HBW.out
        rw [← hwz] at HXN HYN HBN ⊢
        clear hwz HX HY HBW HZ
        go_wp2_with fail
      all_goals
        clear hlb hlbi
        obtain ⟨x1, hx1⟩ : ∃ x, (st.play D).1 = x := ⟨_, rfl⟩
        have HRM : Hid (roomTo ss i + st.room ≤ 1000000000000) := hid (by
          have h1 := roomTo_le ss (i + 1)
          have h2 := HA.out.room
          rw [roomTo_succ HST.out] at h1
          omega)
        have HCX : Hid (∀ W', Below wz.heap.size wz W' → Calls Try.prog 114 #[.pointer (some ⟨g1, 0, none⟩), .agg #[.int .i64 st.what, .int .i64 st.n, .slice st.la st.ws.length st.cl, .slice st.ka st.keep.length st.ck]] W' fun e W2 =>
            e = .returned (.int .i64 x1) ∧ ∃ A' c', Dr W2 w.heap.size g1 s1 A' c' (st.play D).2 (roomTo ss i + st.room) ∧ Drove wz W2 g1 s1 A1 A' ∧ Below w.heap.size w W2) := hid (fun W' hb => by
          refine (play_dr HA.out (below_t HBN.out hb HBN.out.size) (HXN.out.below hb (Nat.le_refl _)) (List.mem_of_getElem? HST.out) HRM.out).mono ?_
          rintro e W2 ⟨he, A', c', h1, h2, h3⟩
          exact ⟨by rw [he, hx1], A', c', h1, (Drove.of_below hb).trans h2, h3⟩)
        have HCY : Hid (∀ W' A1', Drove wz W' g1 s1 A1 A1' → Below w.heap.size w W' → Calls Try.prog 114 #[.pointer (some ⟨g2, 0, none⟩), .agg #[.int .i64 st.what, .int .i64 st.n, .slice st.la st.ws.length st.cl, .slice st.ka st.keep.length st.ck]] W' fun e W2 =>
            e = .returned (.int .i64 x1) ∧ ∃ A' c', Dr W2 w.heap.size g2 s2 A' c' (st.play D).2 (roomTo ss i + st.room) ∧ Drove W' W2 g2 s2 A2 A' ∧ Below w.heap.size w W2) := hid (fun W' A1' hv hb => by
          refine (play_dr HA.out hb (HYN.out.away P12.out.symm hv).1 (List.mem_of_getElem? HST.out) HRM.out).mono ?_
          rintro e W2 ⟨he, A', c', h1, h2, h3⟩
          exact ⟨by rw [he, hx1], A', c', h1, h2, h3⟩)
        clear hx1
        go_region_held3 (fun W => W.cell? ⟨ab, ao + i * 4, none⟩ = some (.int .i64 st.what) ∧ W.cell? ⟨ab, ao + i * 4 + 1, none⟩ = some (.int .i64 st.n) ∧ W.cell? ⟨ab, ao + i * 4 + 2, none⟩ = some (.slice st.la st.ws.length st.cl) ∧ W.cell? ⟨ab, ao + i * 4 + 3, none⟩ = some (.slice st.ka st.keep.length st.ck))
          (first | exact HC4.out _ hby | exact HC4.out _ hbx | exact HC4.out _ HBN.out | exact HC4.out _ (Below.drew HBN.out) | assumption)
          (first
            | (go_at_call_of 114 (Value.pointer (some ⟨g1, 0, none⟩)); refine (HCX.out _ (by first | exact Below.refl _ _ | exact Below.drew (Below.refl _ _))).mono ?_; rintro e w5 ⟨rfl, A1', c1', hx5, hvx, hbx⟩)
            | (go_at_call_of 114 (Value.pointer (some ⟨g2, 0, none⟩)); refine (HCY.out _ _ hvx hbx).mono ?_; rintro e w6 ⟨rfl, A2', c2', hy6, hvy, hby⟩))
        have HN : Hid (Three w w6 g1 s1 g2 s2 g3 s3 (roomTo ss (i + 1)) (roomTo ts (i + 1))) := hid (by
          obtain ⟨A3, c3, E, hz, p13, p23⟩ := HZN.out
          have q12 := (HYN.out.away P12.out.symm hvx).2
          obtain ⟨hx6, q12'⟩ := hx5.away q12.symm hvy
          obtain ⟨hz5, q31⟩ := hz.away p13.symm hvx
          obtain ⟨hz6, q32⟩ := hz5.away p23.symm hvy
          refine ⟨A1', c1', A2', c2', (st.play D).2, ?_, ?_, q12', hby, A3, c3, E, hz6, q31.symm, q32.symm⟩
          · rw [roomTo_succ HST.out]
            exact hx6
          · rw [roomTo_succ HST.out]
            exact hy6)
        clear hx5 hy6 hvx hvy hbx hby HCX HCY HZN HXN HYN HBN P12 HC4
        go_wp2_with fail
        go_roundw
        case rel => exact ⟨i + 1, by omega, by omega, by go_num, HN⟩
        case measure => simp [intOf]; omega
    · have hex : (¬ (i : Int) < (ss.length : Int)) ∨ ((i : Int) < (ss.length : Int) ∧ ¬ (i : Int) < 20) := by omega
      clear hlt
      obtain ⟨A1, c1, A2, c2, D, hx, hy, p12, hbw, -⟩ := HT.out
      have HSL := hid hx.2.1.sure
      have HP := hid (imageN wr g1 s1 A1 c1 D hx.1 hx.2.1.sure)
      have HY := hid hy
      have HBW := hid hbw
      clear hx hy p12 hbw HT
      rcases hex with hex | ⟨hex, hex2⟩
      all_goals
        go_wp2_with fail
        with_reducible refine HP.out.mono ?_
        clear HP
        rintro e w9 ⟨q1, i1, xs1, rfl, ho9, hr9, hb9⟩
        have HO9 := hid ho9
        have HR9 := hid hr9
        have HP := hid (imageN w9 g2 s2 A2 c2 D (HY.out.1.below hb9 (Nat.le_refl _)) HSL.out)
        have HB9 := hid (below_t HBW.out hb9 HBW.out.size)
        clear ho9 hr9 hb9
        go_wp2_with fail
        with_reducible refine HP.out.mono ?_
        clear HP
        rintro e w11 ⟨q2, i2, xs2, rfl, ho11, hr11, hb11⟩
        have HOA := hid (HO9.out.below hb11 (Nat.le_refl _))
        have HRA := hid (HR9.out.below hb11 (Nat.le_refl _))
        have HOB := hid ho11
        have HRB := hid hr11
        have HBF := hid (below_t HB9.out hb11 HB9.out.size)
        clear ho11 hr11 hb11 HO9 HR9 HB9 hex
        go_wp2_with fail
        go_loopw [14] (fun iv' wq => ∃ i : Nat, i ≤ 64 ∧ iv' = .int .i64 i ∧ Hid (∃ n, wq = w11.drewN n)) (fun iv' _ => 64 - (intOf iv').toNat)
        case atStart => exact ⟨0, by omega, rfl, hid ⟨0, rfl⟩⟩
        case round =>
          obtain ⟨j, hj, rfl, HW⟩ := hrel
          obtain ⟨nd, hnd⟩ := HW.out
          by_cases hjl : j < 64
          · obtain ⟨l, hl⟩ := get_of_lt D.sure (i := j) (by rw [HSL.out]; exact hjl)
            obtain ⟨P1, p1, hca, hva⟩ := Rows5.row HOA.out HRA.out hl
            obtain ⟨P2, p2, hcb2, hvb⟩ := Rows5.row HOB.out HRB.out hl
            have hwa : wr.cell? ⟨q1, j, none⟩ = some (.slice P1 l.length p1) := by rw [hnd]; exact hca
            have hwb : wr.cell? ⟨q2, j, none⟩ = some (.slice P2 l.length p2) := by rw [hnd]; exact hcb2
            have hta : ∀ k, (convert 22 9 (.slice P1 l.length p1)).run Try.prog (wr.drewN k) = .ok (.string (bstr l)) (wr.drewN k) := fun k => by rw [hnd, drewN_two]; exact hva _
            have htb : ∀ k, (convert 22 9 (.slice P2 l.length p2)).run Try.prog (wr.drewN k) = .ok (.string (bstr l)) (wr.drewN k) := fun k => by rw [hnd, drewN_two]; exact hvb _
            have HND := hid hnd
            have hjj : (j : Int) < 64 := by omega
            clear hnd HW hca hcb2 hva hvb hl
            go_wp2_with fail
            go_quiet (fail)
            go_wp2_with fail
            go_roundw
            case rel => exact ⟨j + 1, by omega, by go_num, hid ⟨_, by rw [HND.out, drewN_two]⟩⟩
            case measure => simp [intOf]; omega
          · have hj64 : j = 64 := by omega
            subst hj64
            have HND := hid hnd
            clear hnd HW hjl
            go_wp2_with fail
            go_ret
            exact ⟨rfl, HBF.out.trans (below_some ⟨_, HND.out⟩)⟩
end Go.Proofs.Ytppbcdcmpcagdaa
