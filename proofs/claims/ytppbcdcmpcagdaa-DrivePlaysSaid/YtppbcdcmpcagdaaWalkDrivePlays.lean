/- The law DrivePlays returns true at every input: a drive answers as the document's drive does. -/
import Derived.Test.YtppbcdcmpcagdaaPlay5
import Derived.Deep.CutBlock
namespace Go.Proofs.Ytppbcdcmpcagdaa
open Go.RowKit Go.CP

theorem new_no (n : Int) (w : World) (h : n < 64 ∨ 1024 < n) : Calls Try.prog 98 #[.int .i64 n] w fun e w' => e = .returned (.tuple #[.pointer none, .int .i64 1]) ∧ w' = w := by
  rcases h with h | h
  · go_enter Try.func98, Try.ntmps98
    go_wp2
    go_ret2
    exact ⟨rfl, rfl⟩
  · have h3 : ¬ n < 64 := by omega
    go_enter Try.func98, Try.ntmps98
    go_wp2
    go_ret2
    exact ⟨rfl, rfl⟩
theorem Rows5.rowB {w : World} {b base q n c : Nat} {xs : List Value} {ls : List (List UInt8)} (ho : Go.CP.Own w b 22 1 (some ⟨q, 0, none⟩) n c xs) (h : Rows5 w base xs ls) {i : Nat} {l : List UInt8} (hl : ls[i]? = some l) :
    ∃ (P : Option Addr) (cp : Nat), ∀ Wc, Below w.heap.size w Wc → Wc.cell? ⟨q, i, none⟩ = some (.slice P l.length cp) ∧ (convert 22 9 (.slice P l.length cp)).run Try.prog Wc = .ok (.string (bstr l)) Wc := by
  obtain ⟨P, cp, h1, h2⟩ := h.2 i l hl
  have hc := own_cell ho h1
  exact ⟨P, cp, fun Wc hb => ⟨(hb.cell (p := ⟨q, i, none⟩) (World.block_lt_of_cell? w _ hc)).trans hc, cv_bytes cp (h2.cells.below hb (Nat.le_refl _))⟩⟩
theorem Pairs.base {w W : World} {n N g s r : Nat} (h : Pairs w n N g s r W) : Below w.heap.size w W := by
  obtain ⟨_, _, _, _, _, _, -, -, -, -, -, -, h7⟩ := h
  exact h7
/-- What Get and the document's Get hand back: the same. -/
theorem get_both {w W : World} {n N g s r : Nat} (h : Pairs w n N g s r W) (hn : n ≤ 1024) (hN : N ≤ 100000) (i : Int) :
    ∃ (x : Int) (l : List UInt8), (Calls Try.prog 103 #[.pointer (some ⟨g, 0, none⟩), .int .i64 i] W fun e W' => (∃ P cp, e = .returned (.tuple #[.slice P l.length cp, .int .i64 x]) ∧ Bytes W' P l) ∧ Below W.heap.size W W') ∧
      ∀ W', Below W.heap.size W W' → Calls Try.prog 111 #[.pointer (some ⟨r, 0, none⟩), .int .i64 i] W' fun e W'' => e = .returned (.tuple #[.string (bstr l), .int .i64 x]) ∧ Below W'.heap.size W' W'' := by
  obtain ⟨A, c, D, B, cb, R, h1, h2, h3, h4, h5, h6, h7⟩ := h
  have hl := h4.lens
  have hl2 := h5.list
  have hs : D.sure.length = n := h4.n.trans h5.n
  refine ⟨(D.get i).1, (D.get i).2, ?_, fun W' hb => ?_⟩
  · refine (drv_get W g s A c D h1 i (by omega) (by omega)).mono ?_
    rintro e W' ⟨hb, ⟨e1, e2, b, rfl, -, e4⟩ | ⟨e1, e2, rfl⟩⟩
    · exact ⟨⟨some ⟨b, 0, none⟩, 128, by rw [e1, e2], block_bytes e4⟩, hb⟩
    · exact ⟨⟨none, 0, by rw [e2]; rfl, by rw [e2]; exact Cells.nil _ _⟩, hb⟩
  · rw [h4.get i]
    exact ref_get W' w.heap.size r B cb R i (h2.other (Drove.of_below (g := g) (s := s) (A := A) hb) h3).1 (by omega)
theorem imageM {w W : World} {n N g s r : Nat} (h : Pairs w n N g s r W) (h1 : 64 ≤ n) (h2 : n ≤ 1024) :
    ∃ ls : List (List UInt8), ls.length = n ∧ (Calls Try.prog 105 #[.pointer (some ⟨g, 0, none⟩)] W fun e W' => ∃ q c xs, e = .returned (.slice (some ⟨q, 0, none⟩) n c) ∧ Go.CP.Own W' W.heap.size 22 1 (some ⟨q, 0, none⟩) n c xs ∧ Rows5 W' W.heap.size xs ls ∧ Below W.heap.size W W') ∧
      ∀ W' (i : Nat) l, Below W.heap.size W W' → ls[i]? = some l → N ≤ 100000 → Calls Try.prog 113 #[.pointer (some ⟨r, 0, none⟩), .int .i64 i] W' fun e W'' => e = .returned (.string (bstr l)) ∧ Below W'.heap.size W' W'' := by
  obtain ⟨A, c, D, B, cb, R, k1, k2, k3, k4, k5, k6, k7⟩ := h
  have hs : D.sure.length = n := k4.n.trans k5.n
  refine ⟨D.sure, hs, ?_, fun W' i l hb hl hN => ?_⟩
  · refine (drv_image W g s A c D k1 (by omega)).mono ?_
    rintro e W' ⟨Q, cq, xs, he, ho, hr, hb⟩
    rw [hs] at he ho
    obtain ⟨q, C, rfl, -⟩ := ho.open (by omega)
    exact ⟨q, cq, xs, he, ho, hr, hb⟩
  · have hi := (List.getElem?_eq_some_iff.1 hl).1
    have e : R.find i true = l := by
      have := k4.sureAt i (by rw [k5.n]; omega)
      rw [← this, List.getD_eq_getElem?_getD, hl]
      rfl
    have hl2 := k5.list
    have := ref_sure W' w.heap.size r B cb R i (k2.other (Drove.of_below (g := g) (s := s) (A := A) hb) k3).1 (by omega)
    rw [e] at this
    exact this
theorem sectors_both {w W : World} {n N g s r : Nat} (h : Pairs w n N g s r W) : Calls Try.prog 112 #[.pointer (some ⟨g, 0, none⟩)] W fun e W' => e = .returned (.int .i64 n) ∧ W' = W := by
  obtain ⟨A, c, D, B, cb, R, k1, k2, k3, k4, k5, k6, k7⟩ := h
  have := sectors_any W g (some ⟨s, 0, none⟩) D.sure.length D.sure.length _ _ _ k1.head
  rw [k4.n.trans k5.n] at this
  exact this
set_option maxRecDepth 100000 in
/-- No drive of such a size. -/
theorem drivePlays_not (w : World) (n : Int) (x y : Value) (h : n < 64 ∨ 1024 < n) : Calls Try.prog 32 #[.int .i64 n, x, y] w fun e w' => e = .returned (.bool true) ∧ Below w.heap.size w w' := by
  have HN := hid (new_no n w h)
  have HM := hid (ref_not n w h)
  clear h
  go_enter Try.func32, Try.ntmps32
  go_wp2_with fail
  refine HN.out.mono ?_
  rintro e w1 ⟨rfl, rfl⟩
  go_wp2_with fail
  refine HM.out.mono ?_
  rintro e w2 ⟨rfl, hw⟩
  rw [hw]
  clear HN HM hw
  go_wp2_with fail
  refine (awake05_any _).mono ?_
  rintro e w3 ⟨rfl, hb⟩
  have HB := hid hb
  clear hb
  go_wp2_with fail
  go_ret
  exact ⟨rfl, HB.out⟩
set_option maxHeartbeats 8000000 in
set_option maxRecDepth 100000 in
theorem drivePlays_big (w : World) (n : Nat) (A : Option Addr) (ss : List Stp) (ca : Nat) (B : Option Addr) (look : List Int) (cb : Nat) (hA : StepsF w A ss) (hal : ss.length ≤ 2199023255488) (hB : Ints w B look) (hbl : look.length ≤ 17592186043904) (h1 : 64 ≤ n) (h2 : n ≤ 1024) :
    Calls Try.prog 32 #[.int .i64 n, .slice A ss.length ca, .slice B look.length cb] w fun e w' => e = .returned (.bool true) ∧ Below w.heap.size w w' := by
  have HA := hid hA
  have HB := hid hB
  have HN := hid (And.intro h1 h2)
  clear hA hB
  go_enter Try.func32, Try.ntmps32
  go_wp2_with fail
  refine (new_drive n w HN.out.1 HN.out.2).mono ?_
  rintro e w1 ⟨g, s, rfl, hd1, hb1, hg1, hs1⟩
  go_wp2_with fail
  refine (ref_new n w1 HN.out.1 HN.out.2).mono ?_
  rintro e w2 ⟨rfl, hr2, hb2⟩
  have HP : Hid (Pairs w n 0 g s w1.heap.size w2) := hid (by
    have hl := hd1.lt
    have hz := hb1.size
    refine ⟨none, 0, Drv.new n, none, 0, RDrv.new n, hd1.below hb2 (Nat.le_refl _), ⟨hr2.1, hr2.2.1.mono hz, by omega, hr2.2.2.2⟩, ⟨⟨by omega, by omega, fun e => by cases e⟩, ⟨by omega, by omega, fun e => by cases e⟩, fun k e => by cases e⟩, Agree.new n, ⟨rfl, by show (-1 : Int) ≤ -1; decide, by show (-1 : Int) ≤ 9223372036854775807; decide, Nat.le_refl _⟩, ⟨hg1, hs1, fun k e => by cases e⟩, below_t hb1 hb2 hz⟩)
  obtain ⟨r, hr⟩ : ∃ r, r = w1.heap.size := ⟨_, rfl⟩
  rw [← hr] at HP ⊢
  clear hd1 hb1 hg1 hs1 hr2 hb2 hr w1
  go_wp2_with fail
  go_loopw [11] (fun iv wr => ∃ i : Nat, i ≤ ss.length ∧ i ≤ 40 ∧ iv = .int .i64 i ∧ Hid (Pairs w n (40 * i) g s r wr)) (fun iv _ => ss.length - (intOf iv).toNat)
  case atStart => exact ⟨0, by omega, by omega, rfl, HP⟩
  case round =>
    clear HP
    obtain ⟨i, hi, hi40, rfl, HP⟩ := hrel
    by_cases hlt : i < ss.length ∧ i < 40
    · obtain ⟨hl1, hl2⟩ := hlt
      obtain ⟨st, hst⟩ := get_of_lt ss hl1
      have hii : (i : Int) < (ss.length : Int) := by omega
      have hi40i : (i : Int) < 40 := by omega
      have HM := hid (List.mem_of_getElem? hst)
      have hbw : Below w.heap.size w wr := by
        obtain ⟨_, _, _, _, _, _, -, -, -, -, -, -, h7⟩ := HP.out
        exact h7
      obtain ⟨ab, ao, rfl, k0, k1, k2, k3⟩ := steps_at (Cells.below HA.out.cells hbw (Nat.le_refl _)) hst
      have hN : 40 * i ≤ 100000 := by omega
      have HNN := hid hN
      have hnum := HA.out.nums st HM.out
      have hfresh : ∀ o, Below wr.heap.size wr (wr.alloc o) := fun o => (Below.refl _ _).alloc (Nat.le_refl _) o
      have HFR := hid hfresh
      clear hst hbw hN hfresh
      go_upto_block 2 with fail
      go_cut [] from 46 to 142 (fun wc => Hid (Pairs w n (40 * (i + 1)) g s r wc))
      case first =>
        by_cases w0 : st.what = 0
        · have q0 : (st.what == 0) = true := by simpa using w0
          have cb2 : (wr.alloc (.cells #[.int .i64 st.what, .int .i64 st.n, .slice st.la st.ws.length st.cl, .slice st.ka st.keep.length st.ck] 151)).cell? ⟨wr.heap.size, 2, none⟩ = some (.slice st.la st.ws.length st.cl) := by simp
          by_cases hl : st.ws.length ≤ 40
          · have hli : (st.ws.length : Int) ≤ 40 := by omega
            obtain ⟨x, hp1, hp2⟩ := put_both HA.out HM.out HP.out (Below.drew (HFR.out (.cells #[.int .i64 st.what, .int .i64 st.n, .slice st.la st.ws.length st.cl, .slice st.ka st.keep.length st.ck] 151))) hl HNN.out
            have HP1 := hid hp1
            have HP2 := hid hp2
            clear hp1 hp2 w0
            go_wp2_with fail
            go_region_held3 (fun Wc => Wc.cell? ⟨wr.heap.size, 2, none⟩ = some (.slice st.la st.ws.length st.cl))
              (first | exact cb2 | exact hc6 | exact hc5 | assumption)
              (first
                | (go_at_call 100; refine HP1.out.mono ?_; rintro e w5 ⟨rfl, hm5, hk5⟩; have hc5 := hk5.cell (a := ⟨wr.heap.size, 2, none⟩) (Nat.le_refl _) cb2)
                | (go_at_call 107; refine (HP2.out _ hm5).mono ?_; rintro e w6 ⟨rfl, hp6, hk6⟩; have hc6 := hk6.cell (a := ⟨wr.heap.size, 2, none⟩) (Nat.le_refl _) hc5))
            have HP6 := hid hp6
            clear hm5 hk5 hc5 hp6 hk6 hc6
            go_wp2_with fail
            go_meet
            case rel => exact hid (HP6.out.mono (by omega))
          · have hli : decide ((st.ws.length : Int) ≤ 40) = false := by simp; omega
            clear w0 hl
            go_wp2_with fail
            go_quiet (fail)
            go_wp2_with fail
            go_meet
            case rel => exact hid ((HP.out.below (below_drewN (HFR.out _) _)).mono (by omega))
        · have q0 : (st.what == 0) = false := by simpa using w0
          clear w0
          by_cases w1 : st.what = 1
          · have q1 : (st.what == 1) = true := by simpa using w1
            obtain ⟨x, hp1, hp2⟩ := flush_both HP.out (HFR.out (.cells #[.int .i64 st.what, .int .i64 st.n, .slice st.la st.ws.length st.cl, .slice st.ka st.keep.length st.ck] 151)) HNN.out
            have HP1 := hid hp1
            have HP2 := hid hp2
            clear hp1 hp2 w1
            go_wp2_with fail
            refine HP1.out.mono ?_
            rintro e w5 ⟨rfl, hm5, -⟩
            have HM5 := hid hm5
            clear hm5
            go_wp2_with fail
            refine (HP2.out _ HM5.out).mono ?_
            rintro e w6 ⟨rfl, hp6, -⟩
            have HP6 := hid hp6
            clear hp6 HM5 HP1 HP2
            go_wp2_with fail
            go_meet
            case rel => exact hid (HP6.out.mono (by omega))
          · have q1 : (st.what == 1) = false := by simpa using w1
            clear w1
            by_cases w2 : st.what = 2
            · have q2 : (st.what == 2) = true := by simpa using w2
              obtain ⟨x, hp1, hp2⟩ := fuse_both HP.out (HFR.out (.cells #[.int .i64 st.what, .int .i64 st.n, .slice st.la st.ws.length st.cl, .slice st.ka st.keep.length st.ck] 151)) st.n hnum.2.2
              have HP1 := hid hp1
              have HP2 := hid hp2
              have cb1 : (wr.alloc (.cells #[.int .i64 st.what, .int .i64 st.n, .slice st.la st.ws.length st.cl, .slice st.ka st.keep.length st.ck] 151)).cell? ⟨wr.heap.size, 1, none⟩ = some (.int .i64 st.n) := by simp
              clear hp1 hp2 w2
              go_wp2_with fail
              refine HP1.out.mono ?_
              rintro e w5 ⟨rfl, hm5, hk5⟩
              have HM5 := hid hm5
              have hc5 := hk5.cell (a := ⟨wr.heap.size, 1, none⟩) (Nat.le_refl _) cb1
              clear hm5 hk5
              go_wp2_with fail
              refine (HP2.out _ HM5.out).mono ?_
              rintro e w6 ⟨rfl, hp6, -⟩
              have HP6 := hid hp6
              clear hp6 HM5 HP1 HP2
              go_wp2_with fail
              go_meet
              case rel => exact hid (HP6.out.mono (by omega))
            · have q2 : (st.what == 2) = false := by simpa using w2
              clear w2
              by_cases w3 : st.what = 3
              · have q3 : (st.what == 3) = true := by simpa using w3
                obtain ⟨x, hp1, hp2⟩ := restart_both HA.out HM.out HP.out (HFR.out (.cells #[.int .i64 st.what, .int .i64 st.n, .slice st.la st.ws.length st.cl, .slice st.ka st.keep.length st.ck] 151)) HNN.out
                have HP1 := hid hp1
                have HP2 := hid hp2
                have cb3 : (wr.alloc (.cells #[.int .i64 st.what, .int .i64 st.n, .slice st.la st.ws.length st.cl, .slice st.ka st.keep.length st.ck] 151)).cell? ⟨wr.heap.size, 3, none⟩ = some (.slice st.ka st.keep.length st.ck) := by simp
                clear hp1 hp2 w3
                go_wp2_with fail
                refine HP1.out.mono ?_
                rintro e w5 ⟨rfl, hm5, hk5⟩
                have HM5 := hid hm5
                have hc5 := hk5.cell (a := ⟨wr.heap.size, 3, none⟩) (Nat.le_refl _) cb3
                clear hm5 hk5
                go_wp2_with fail
                refine (HP2.out _ HM5.out).mono ?_
                rintro e w6 ⟨rfl, hp6, -⟩
                have HP6 := hid hp6
                clear hp6 HM5 HP1 HP2
                go_wp2_with fail
                go_meet
                case rel => exact hid (HP6.out.mono (by omega))
              · have q3 : (st.what == 3) = false := by simpa using w3
                clear w3
                go_wp2_with fail
                go_meet
                case rel => exact hid ((HP.out.below (HFR.out _)).mono (by omega))
      case rest =>
        clear HP k0 k1 k2 k3 HM hnum HFR HNN
        have HQ := hcut
        clear hcut
        go_wp2_with fail
        go_loopw [13] (fun kv wq => ∃ k : Nat, k ≤ look.length ∧ k ≤ 8 ∧ kv = .int .i64 k ∧ Hid (Pairs w n (40 * (i + 1)) g s r wq)) (fun kv _ => look.length - (intOf kv).toNat)
        case atStart => exact ⟨0, by omega, by omega, rfl, HQ⟩
        case round =>
          clear HQ
          obtain ⟨k, hk, hk8, rfl, HQ⟩ := hrel
          by_cases hltk : k < look.length ∧ k < 8
          · obtain ⟨hk1, hk2⟩ := hltk
            have hkk : (k : Int) < (look.length : Int) := by omega
            have hk8i : (k : Int) < 8 := by omega
            obtain ⟨z, hz⟩ := get_of_lt look hk1
            have hbw := HQ.out.base
            obtain ⟨lb, lo, rfl, hlc⟩ := Ints.open (Cells.below HB.out hbw (Nat.le_refl _)) (by omega)
            have hlz := hlc k hk1
            have hze : look[k] = z := (List.getElem?_eq_some_iff.1 hz).2
            rw [hze] at hlz
            obtain ⟨x, l, hp1, hp2⟩ := get_both HQ.out HN.out.2 (by omega) z
            have HP1 := hid hp1
            have HP2 := hid hp2
            have HZ := hid hz
            clear hp1 hp2 hlc hbw hze hz
            go_wp2_with fail
            refine HP1.out.mono ?_
            rintro e w5 ⟨⟨P, cp, rfl, hy⟩, hb5⟩
            have hlz5 := (hb5.cell (p := ⟨lb, lo + k, none⟩) (World.block_lt_of_cell? _ _ hlz)).trans hlz
            have HB5 := hid hb5
            have HY := hid hy
            clear hb5 hy
            go_wp2_with fail
            refine (HP2.out _ HB5.out).mono ?_
            rintro e w6 ⟨rfl, hb6⟩
            have hcv := cv_bytes cp (HY.out.below hb6 (Nat.le_refl _))
            have HQ6 := hid (HQ.out.below (below_t HB5.out hb6 HB5.out.size))
            clear hb6 HB5 HY HP1 HP2 HQ hlz hlz5
            go_wp2_with fail
            go_roundw
            case rel => exact ⟨k + 1, by omega, by omega, by go_num, HQ6⟩
            case measure => simp [intOf]; omega
          · have hex : (¬ (k : Int) < (look.length : Int)) ∨ ((k : Int) < (look.length : Int) ∧ ¬ (k : Int) < 8) := by omega
            clear hltk
            rcases hex with hex | ⟨hex, hex2⟩
            all_goals
              go_wp2_with fail
              go_roundw
              case rel => exact ⟨i + 1, by omega, by omega, by go_num, HQ⟩
              case measure => simp [intOf]; omega
    · have hex : (¬ (i : Int) < (ss.length : Int)) ∨ ((i : Int) < (ss.length : Int) ∧ ¬ (i : Int) < 40) := by omega
      clear hlt
      obtain ⟨ls, hls, hp1, hp2⟩ := imageM HP.out HN.out.1 HN.out.2
      have HP1 := hid hp1
      have HP2 := hid hp2
      have HLS := hid hls
      have HBW := hid HP.out.base
      have HSE := hid (fun W (hb : Below wr.heap.size wr W) => sectors_both (HP.out.below hb))
      clear hp1 hp2 hls HP
      rcases hex with hex | ⟨hex, hex2⟩
      all_goals
        go_wp2_with fail
        refine HP1.out.mono ?_
        clear HP1
        rintro e w3 ⟨q, cq, xs, rfl, ho, hr, hb3⟩
        have HO := hid ho
        have HR := hid hr
        have HB3 := hid hb3
        clear ho hr hb3
        go_wp2_with fail
        refine (awake05_any _).mono ?_
        rintro e w4 ⟨rfl, hb4⟩
        have HB4 := hid (below_t HB3.out hb4 HB3.out.size)
        have HO4 := hid (HO.out.below hb4 (Nat.le_refl _))
        have HR4 := hid (HR.out.below hb4 (Nat.le_refl _))
        clear hb4 HB3 HO HR
        go_wp2_with fail
        refine (HSE.out _ HB4.out).mono ?_
        rintro e w5 ⟨rfl, hw5⟩
        rw [hw5]
        clear hw5 HSE w5
        go_wp2_with fail
        go_loopw [19] (fun jv wq => ∃ j : Nat, j ≤ n ∧ jv = .int .i64 j ∧ Hid (Below w4.heap.size w4 wq)) (fun jv _ => n - (intOf jv).toNat)
        case atStart => exact ⟨0, by omega, rfl, hid (Below.refl _ _)⟩
        case round =>
          obtain ⟨j, hj, rfl, HJ⟩ := hrel
          by_cases hjl : j < n
          · obtain ⟨l, hl⟩ := get_of_lt ls (i := j) (by rw [HLS.out]; exact hjl)
            obtain ⟨P, cp, hrow⟩ := Rows5.rowB HO4.out HR4.out hl
            have HC := hid (fun W' (hb : Below w4.heap.size w4 W') => HP2.out W' j l (below_t HB4.out hb HB4.out.size) hl (by omega))
            have hcv := fun Wc (hW : Wc.cell? ⟨q, j, none⟩ = some (.slice P l.length cp) ∧ Below w4.heap.size w4 Wc) => (hrow Wc hW.2).2
            have HRW := hid (fun Wc (hb : Below w4.heap.size w4 Wc) => (show Wc.cell? ⟨q, j, none⟩ = some (.slice P l.length cp) ∧ Below w4.heap.size w4 Wc from ⟨(hrow Wc hb).1, hb⟩))
            have hjj : (j : Int) < (n : Int) := by omega
            clear hrow hl
            go_wp2_with fail
            go_region_held3 (fun Wc => Wc.cell? ⟨q, j, none⟩ = some (.slice P l.length cp) ∧ Below w4.heap.size w4 Wc)
              (first | exact HRW.out _ HJ.out | exact HRW.out _ (Below.drew HJ.out) | exact HRW.out _ hb9 | assumption)
              (first
                | (go_at_call 113; refine (HC.out _ (by first | exact HJ.out | exact Below.drew HJ.out)).mono ?_; rintro e w8 ⟨rfl, hb8⟩; have hb9 := below_t (show Below w4.heap.size w4 _ from (by first | exact HJ.out | exact Below.drew HJ.out)) hb8 HJ.out.size))
            have HB9 := hid hb9
            clear hcv hb8 hb9
            go_wp2_with fail
            go_roundw
            case rel => exact ⟨j + 1, by omega, by go_num, HB9⟩
            case measure => simp [intOf]; omega
          · have hk : j = n := by omega
            subst hk
            have HBE := hid (below_t HBW.out HB4.out HBW.out.size)
            have HBF := hid (below_t HBE.out HJ.out HBE.out.size)
            go_wp2_with fail
            go_ret
            exact ⟨rfl, HBF.out⟩
theorem drivePlays_walk (w : World) (n : Int) (A : Option Addr) (ss : List Stp) (ca : Nat) (B : Option Addr) (look : List Int) (cb : Nat) (_ : -9223372036854775808 ≤ n ∧ n < 9223372036854775808) (hA : StepsF w A ss) (_ : ss.length ≤ ca) (hal : ss.length ≤ 2199023255488) (hB : Ints w B look) (_ : ∀ n ∈ look, -9223372036854775808 ≤ n ∧ n < 9223372036854775808) (_ : look.length ≤ cb) (hbl : look.length ≤ 17592186043904) :
    Calls Try.prog 32 #[.int .i64 n, .slice A ss.length ca, .slice B look.length cb] w fun e w' => e = .returned (.bool true) ∧ Below w.heap.size w w' := by
  by_cases h : n < 64 ∨ 1024 < n
  · exact drivePlays_not w n _ _ h
  · obtain ⟨m, rfl⟩ := Int.eq_ofNat_of_zero_le (a := n) (by omega)
    exact drivePlays_big w m A ss ca B look cb hA hal hB hbl (by omega) (by omega)
end Go.Proofs.Ytppbcdcmpcagdaa
