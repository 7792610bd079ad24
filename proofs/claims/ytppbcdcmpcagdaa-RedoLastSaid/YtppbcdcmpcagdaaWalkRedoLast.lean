/- The law RedoLast returns true at every input: each sector holds what the last commit wrote there. No condition. -/
import Derived.Test.YtppbcdcmpcagdaaRedoL
namespace Go.Proofs.Ytppbcdcmpcagdaa
open Go.RowKit Go.CP

theorem goodB_of {l : List Int} (h24 : l.length ≤ 24) (hok : ∀ n ∈ l, okN n = true) (hnd : l.Nodup) : goodB l = true := by
  unfold goodB
  rw [Bool.and_eq_true]
  refine ⟨by simpa using h24, ?_⟩
  unfold goodTo
  rw [List.all_eq_true]
  intro j hj
  have hjl : j < l.length := List.mem_range.1 hj
  have hg : l.getD j 0 = l[j] := by rw [List.getD_eq_getElem?_getD, List.getElem?_eq_getElem hjl]; rfl
  rw [hg, hok _ (List.getElem_mem hjl)]
  have hnc : (l.take j).contains l[j] = false := by
    cases hc : (l.take j).contains l[j] with
    | false => rfl
    | true =>
      have hm := List.contains_iff_mem.1 hc
      obtain ⟨i, hi, e⟩ := List.mem_take_iff_getElem.1 hm
      have hij : i < j := by omega
      exact absurd e ((List.pairwise_iff_getElem.1 hnd) i j (by omega) hjl hij)
  rw [hnc]
  rfl
theorem Listed.targ {w : World} {base : Nat} {x : UInt8} {ws : List Wri} (h : Listed w base x ws) : targB 90 (wl ws) = true := by
  unfold targB
  rw [Bool.and_eq_true]
  refine ⟨fitB_iff.2 fun y hy => ?_, ?_⟩
  · obtain ⟨r, hr, rfl⟩ := List.mem_map.1 hy
    refine ⟨(h.num r hr).2, ?_⟩
    show r.d.length = 128
    rw [(h.dat r hr).1, List.length_set, zA_len']
  · rw [wl_nums]
    refine goodB_of (by simpa using h.le) (fun n hn => ?_) h.nod
    obtain ⟨r, hr, rfl⟩ := List.mem_map.1 hn
    have := h.num r hr
    exact okN_iff.2 ⟨by omega, by omega, by omega⟩
theorem lastL_wl {x : List UInt8} : ∀ {ws : List Wri}, (∀ r ∈ ws, r.d = x) → ∀ i : Int, lastL i (wl ws) = if (ws.map (·.n)).contains i then some x else none
  | [], _, i => rfl
  | r :: ws, h, i => by
    have ih := lastL_wl (ws := ws) (fun y hy => h y (List.mem_cons_of_mem _ hy)) i
    show (match lastL i (wl ws) with | some d => some d | none => if r.n = i then some r.d else none) = _
    rw [ih, h r List.mem_cons_self]
    by_cases hc : (ws.map (·.n)).contains i = true
    · have hm : ((r :: ws).map (·.n)).contains i = true := List.contains_iff_mem.2 (List.mem_cons_of_mem _ (List.contains_iff_mem.1 hc))
      rw [if_pos hc, if_pos hm]
    · rw [if_neg hc]
      by_cases hr : r.n = i
      · have hm : ((r :: ws).map (·.n)).contains i = true := List.contains_iff_mem.2 (by rw [← hr]; exact List.mem_cons_self)
        rw [if_pos hm]
        exact if_pos hr
      · have hm : ¬ ((r :: ws).map (·.n)).contains i = true := fun e => by
          rcases List.mem_cons.1 (List.contains_iff_mem.1 e) with e | e
          · exact hr e.symm
          · exact hc (List.contains_iff_mem.2 e)
        rw [if_neg hm]
        exact if_neg hr
/-- A commit of a list, on a drive with a log at rest. -/
theorem Listed.commit {w : World} {base : Nat} {x : UInt8} {ws : List Wri} (h : Listed w base x ws) {D : Drv} (hD : Calm D) (hl : D.sure.length = 90) :
    ∃ D', D.commit (wl ws) = (0, D') ∧ Calm D' ∧ D'.sure.length = 90 ∧ ∀ i : Nat, 26 ≤ i → i < 90 → D'.sure.getD i [] = if (ws.map (·.n)).contains (i : Int) then zA.set 3 x else D.sure.getD i [] := by
  by_cases hne : ws = []
  · subst hne
    exact ⟨D, commit_nil_calm D, hD, hl, fun i _ _ => (if_neg (by simp)).symm⟩
  · have ht : targB D.sure.length (wl ws) = true := by rw [hl]; exact h.targ
    refine ⟨_, commit_calm hD (wl_ne hne) ht, hD.done _, (doneS_len _ _).trans hl, fun i h1 h2 => ?_⟩
    refine (doneS_at (by omega) ht (by omega) (by omega)).trans ?_
    rw [lastL_wl (fun r hr => (h.dat r hr).1)]
    split <;> rfl
theorem log90_at {i : Nat} (h1 : 26 ≤ i) (h2 : i < 90) : (logD 90).sure.getD i [] = zA := by
  show ((Drv.new 90).sure.set 1 (headL [])).getD i [] = zA
  rw [getD_set _ _ _ _ (by simp [Drv.new]; omega), if_neg (by omega)]
  rw [List.getD_eq_getElem?_getD, Drv.new, List.getElem?_replicate, if_pos h2]
  rfl
theorem calm_get {D : Drv} (h : Calm D) {i : Nat} (hi : i < D.sure.length) : D.get i = (0, D.sure.getD i []) := by
  rw [Drv.get, h.dead, if_neg (by simp), if_neg (by omega), Drv.at, h.list]
  rfl
theorem feed_listed {W0 W : World} {g s : Nat} {A LA : Option Addr} {c cl : Nat} {D : Drv} {x : UInt8} {ws : List Wri} (hd : DriveIs W0 g s A c D) (ho : Go.CP.Own W W0.heap.size 136 2 LA ws.length cl (ws.flatMap wcells)) (hL : Listed W W0.heap.size x ws) : Feed W g s A LA ws :=
  ⟨ho.cells, fun r hr => by rw [(hL.dat r hr).1]; exact (hL.own r hr).cells, fun _ => far_new hd fun k hk => (ho.block k hk).1, fun r hr _ => far_new hd fun k hk => ((hL.own r hr).block k hk).1,
    fun r hr => by rw [(hL.dat r hr).1, (hL.dat r hr).2, List.length_set, zA_len']; decide⟩
def cSel (q : Bool) (x y : Int) : Int := bif q then x else y
theorem zA3 (x : UInt8) : (zA.set 3 x)[3]? = some x := by
  rw [List.getElem?_set_self (by rw [zA_len']; decide)]
theorem zA3' : zA[3]? = some 0 := by decide
theorem row_len {x : UInt8} : (zA.set 3 x).length = 128 := by rw [List.length_set, zA_len']

set_option maxHeartbeats 4000000 in
set_option maxRecDepth 100000 in
theorem redoLast_walk (w : World) (A : Option Addr) (a : List UInt8) (ca : Nat) (B : Option Addr) (b : List UInt8) (cb : Nat) (x y : Int) (hA : Bytes w A a) (_ : a.length ≤ ca) (hal : a.length ≤ 140737488351232) (hB : Bytes w B b) (_ : b.length ≤ cb) (hbl : b.length ≤ 140737488351232) (hx : 0 ≤ x ∧ x < 256) (hy : 0 ≤ y ∧ y < 256) :
    Calls Try.prog 36 #[.slice A a.length ca, .slice B b.length cb, .int .u8 x, .int .u8 y] w fun e w' => e = .returned (.bool true) ∧ Below w.heap.size w w' := by
  obtain ⟨u, rfl⟩ := u8_is hx
  obtain ⟨v, rfl⟩ := u8_is hy
  have HA := hid hA
  have HB := hid hB
  have HAL := hid hal
  have HBL := hid hbl
  clear hx hy hA hB hal hbl
  go_enter Try.func36, Try.ntmps36
  go_wp2_with fail
  refine (begin_any 90 w (by decide) (by decide)).mono ?_
  rintro e w0 ⟨g, s, A0, c0, rfl, hd0, hb0, hg, hs, hA0⟩
  have HD0 := hid hd0
  clear hd0
  go_wp2_with fail
  refine (awake06_any _).mono ?_
  rintro e w1 ⟨rfl, hb1⟩
  have HD1 := hid (HD0.out.below hb1 (Nat.le_refl _))
  have HV1 : Hid (Drove w0 w1 g s A0 A0) := hid (Drove.of_below hb1)
  have hbw1 := hb0.trans (hb1.mono hb0.size)
  have hp := list_any A a ca u w1 (HA.out.below hbw1 (Nat.le_refl _)) HAL.out
  have HP := hid hp
  have HBW1 := hid hbw1
  clear hp hb1 hbw1
  go_wp2_with fail
  refine HP.out.mono ?_
  clear HP
  rintro e w2 ⟨PA, pc, ps, rfl, ho2, hL2, hb2⟩
  have hd2 := HD1.out.below hb2 (Nat.le_refl _)
  have HD2 := hid hd2
  have HV2 : Hid (Drove w0 w2 g s A0 A0) := hid (HV1.out.trans (Drove.of_below hb2))
  have HF2 := hid (feed_listed HD1.out ho2 hL2)
  have HL2 := hid hL2
  have hbw2 := below_t HBW1.out hb2 HBW1.out.size
  have HP := hid (list_any B b cb v w2 (HB.out.below hbw2 (Nat.le_refl _)) HBL.out)
  clear hd2 ho2 hL2 hb2 hbw2
  go_wp2_with fail
  refine HP.out.mono ?_
  clear HP
  rintro e w3 ⟨QA, qc, qs, rfl, ho3, hL3, hb3⟩
  have hd3 := HD2.out.below hb3 (Nat.le_refl _)
  have HV3 : Hid (Drove w0 w3 g s A0 A0) := hid (HV2.out.trans (Drove.of_below hb3))
  have HFP := hid (HF2.out.below hb3)
  have HFQ := hid (feed_listed HD2.out ho3 hL3)
  have HL3 := hid hL3
  have hpl : (ps.length : Int) ≤ 24 := by have := HL2.out.le; omega
  have hql : (qs.length : Int) ≤ 24 := by have := hL3.le; omega
  obtain ⟨D1, hc1, hk1, hl1, hat1⟩ := HL2.out.commit (logD_calm (n := 90) (by decide) (by decide)) (logD_len 90)
  have hp := commit_any w3 g s A0 c0 (logD 90) hd3 ((logD_calm (by decide) (by decide)).fit 5000) PA ps pc HFP.out (by omega)
  rw [hc1] at hp
  have HP := hid hp
  have HK1 := hid hk1
  have HN1 := hid hl1
  have HT1 := hid hat1
  clear hp hd3 ho3 hL3 hb3 hc1 hk1 hl1 hat1 HF2
  go_wp2_with fail
  refine HP.out.mono ?_
  clear HP
  rintro e w4 ⟨rfl, A4, c4, hd4, hv4⟩
  have HFP4 := hid (HFP.out.drove hv4)
  have HFQ4 := hid (HFQ.out.drove hv4)
  have HV4 := hid (HV3.out.trans hv4)
  obtain ⟨D2, hc2, hk2, hl2, hat2⟩ := HL3.out.commit HK1.out HN1.out
  have hp := commit_any w4 g s A4 c4 D1 hd4 (HK1.out.fit 5000) QA qs qc HFQ4.out (by omega)
  rw [hc2] at hp
  have HP := hid hp
  have HK2 := hid hk2
  have HN2 := hid hl2
  have HT2 := hid hat2
  clear hp hd4 hv4 hc2 hk2 hl2 hat2 HFP HFQ
  go_wp2_with fail
  refine HP.out.mono ?_
  clear HP
  rintro e w5 ⟨rfl, A5, c5, hd5, hv5⟩
  have HP5 := hid (HFP4.out.drove hv5).list
  have HQ5 := hid (HFQ4.out.drove hv5).list
  have HV5 := hid (HV4.out.trans hv5)
  have HD5 := hid hd5
  have HBW5 : Hid (Below w.heap.size w w5) := hid (hb0.trans (HV5.out.below (B := w.heap.size) hb0.size hg hs hA0))
  clear hd5 hv5 HFP4 HFQ4
  go_wp2_with fail
  go_loopw [12] (fun iv' wr => ∃ i : Nat, 26 ≤ i ∧ i ≤ 90 ∧ iv' = .int .i64 i ∧ Hid (Below w5.heap.size w5 wr)) (fun iv' _ => 90 - (intOf iv').toNat)
  case atStart => exact ⟨26, by omega, by omega, rfl, hid (Below.refl _ _)⟩
  case round =>
    obtain ⟨i, h26, hi, rfl, HW⟩ := hrel
    by_cases hlt : i < 90
    · have hii : (i : Int) < 90 := by omega
      have HII := hid (And.intro h26 hlt)
      clear hi hlt
      go_wp2_with fail
      go_loopw [13, 14] (fun cv kv wq => ∃ k : Nat, k ≤ ps.length ∧ kv = .int .i64 k ∧ cv = .int .u8 (cSel (((ps.take k).map (·.n)).contains (i : Int)) (u.toNat : Int) 0) ∧ Hid (Below w5.heap.size w5 wq)) (fun _ kv _ => ps.length - (intOf kv).toNat)
      case atStart => exact ⟨0, by omega, rfl, rfl, HW⟩
      case round =>
        clear HW
        obtain ⟨k, hk, rfl, rfl, HW⟩ := hrel
        by_cases hkl : k < ps.length
        · obtain ⟨r, hr⟩ := get_of_lt ps hkl
          obtain ⟨qb, qo, rfl, p0, -⟩ := Wrs.at (Cells.below HP5.out HW.out (Nat.le_refl _)) hr
          have HS := hid (has_succ hr (i : Int))
          obtain ⟨z, hz⟩ : ∃ z, r.n = z := ⟨_, rfl⟩
          rw [hz] at p0 HS
          have hkli : (k : Int) < (ps.length : Int) := by omega
          clear hr hz
          by_cases hzn : z = (i : Int)
          · have hzq : (z == (i : Int)) = true := by simpa using hzn
            have HS2 : Hid (((ps.take (k + 1)).map (·.n)).contains (i : Int) = true) := hid (by rw [HS.out, hzq]; simp)
            clear hzn
            go_wp2_with fail
            go_roundw
            case rel => exact ⟨k + 1, by omega, by go_num, by rw [HS2.out]; rfl, HW⟩
            case measure => simp [intOf]; omega
          · have hzq : (z == (i : Int)) = false := by simpa using hzn
            have HS2 : Hid (((ps.take (k + 1)).map (·.n)).contains (i : Int) = ((ps.take k).map (·.n)).contains (i : Int)) := hid (by rw [HS.out, hzq]; simp)
            obtain ⟨cz, hcz⟩ : ∃ cz, cSel (((ps.take k).map (·.n)).contains (i : Int)) (u.toNat : Int) 0 = cz := ⟨_, rfl⟩
            rw [hcz]
            have HCZ := hid hcz
            clear hcz
            go_wp2_with fail
            go_roundw
            case rel => exact ⟨k + 1, by omega, by go_num, by rw [HS2.out, HCZ.out], HW⟩
            case measure => simp [intOf]; omega
        · have hkk : k = ps.length := by omega
          subst hkk
          rw [List.take_length]
          obtain ⟨cp, hcp⟩ : ∃ cp, cSel ((ps.map (·.n)).contains (i : Int)) (u.toNat : Int) 0 = cp := ⟨_, rfl⟩
          rw [hcp]
          have HCP := hid hcp
          clear hcp hkl hk
          go_wp2_with fail
          go_loopw [13, 15] (fun cv kv wq => ∃ k : Nat, k ≤ qs.length ∧ kv = .int .i64 k ∧ cv = .int .u8 (cSel (((qs.take k).map (·.n)).contains (i : Int)) (v.toNat : Int) cp) ∧ Hid (Below w5.heap.size w5 wq)) (fun _ kv _ => qs.length - (intOf kv).toNat)
          case atStart => exact ⟨0, by omega, rfl, rfl, HW⟩
          case round =>
            clear HW
            obtain ⟨k, hk, rfl, rfl, HW⟩ := hrel
            by_cases hkl : k < qs.length
            · obtain ⟨r, hr⟩ := get_of_lt qs hkl
              obtain ⟨qb, qo, rfl, p0, -⟩ := Wrs.at (Cells.below HQ5.out HW.out (Nat.le_refl _)) hr
              have HS := hid (has_succ hr (i : Int))
              obtain ⟨z, hz⟩ : ∃ z, r.n = z := ⟨_, rfl⟩
              rw [hz] at p0 HS
              have hkli : (k : Int) < (qs.length : Int) := by omega
              clear hr hz
              by_cases hzn : z = (i : Int)
              · have hzq : (z == (i : Int)) = true := by simpa using hzn
                have HS2 : Hid (((qs.take (k + 1)).map (·.n)).contains (i : Int) = true) := hid (by rw [HS.out, hzq]; simp)
                clear hzn
                go_wp2_with fail
                go_roundw
                case rel => exact ⟨k + 1, by omega, by go_num, by rw [HS2.out]; rfl, HW⟩
                case measure => simp [intOf]; omega
              · have hzq : (z == (i : Int)) = false := by simpa using hzn
                have HS2 : Hid (((qs.take (k + 1)).map (·.n)).contains (i : Int) = ((qs.take k).map (·.n)).contains (i : Int)) := hid (by rw [HS.out, hzq]; simp)
                obtain ⟨cz, hcz⟩ : ∃ cz, cSel (((qs.take k).map (·.n)).contains (i : Int)) (v.toNat : Int) cp = cz := ⟨_, rfl⟩
                rw [hcz]
                have HCZ := hid hcz
                clear hcz
                go_wp2_with fail
                go_roundw
                case rel => exact ⟨k + 1, by omega, by go_num, by rw [HS2.out, HCZ.out], HW⟩
                case measure => simp [intOf]; omega
            · have hkk : k = qs.length := by omega
              subst hkk
              rw [List.take_length]
              have hrow : ∃ (d : List UInt8) (z : UInt8), D2.get i = (0, d) ∧ d[3]? = some z ∧ cSel ((qs.map (·.n)).contains (i : Int)) (v.toNat : Int) cp = (z.toNat : Int) := by
                obtain ⟨h1, h2⟩ := HII.out
                have hg2 := calm_get HK2.out (i := i) (by rw [HN2.out]; exact h2)
                rw [HT2.out i h1 h2, HT1.out i h1 h2, log90_at h1 h2] at hg2
                rw [← HCP.out]
                cases h3 : (qs.map (·.n)).contains (i : Int) with
                | true =>
                  rw [h3, if_pos rfl] at hg2
                  exact ⟨_, v, hg2, zA3 v, rfl⟩
                | false =>
                  rw [h3, if_neg (by simp)] at hg2
                  cases h4 : (ps.map (·.n)).contains (i : Int) with
                  | true =>
                    rw [h4, if_pos rfl] at hg2
                    exact ⟨_, u, hg2, zA3 u, rfl⟩
                  | false =>
                    rw [h4, if_neg (by simp)] at hg2
                    exact ⟨_, 0, hg2, zA3', rfl⟩
              obtain ⟨d, z, hgd, hdz, hcz⟩ := hrow
              rw [hcz]
              have hzb : (z.toNat : Int) < 256 := by have := z.toNat_lt; omega
              have HP := hid (get_is wr g s A5 c5 D2 (HD5.out.below HW.out (Nat.le_refl _)) i (by rw [HN2.out]; decide) (by rw [HK2.out.list]; decide) d hgd)
              have HDZ := hid hdz
              clear hgd hdz hcz hkl hk
              go_wp2_with fail
              with_reducible refine HP.out.mono ?_
              clear HP
              rintro e w6 ⟨b6, rfl, -, hx6, hb6⟩
              have hc6 := row_at hx6 HDZ.out
              have HW6 := hid (below_t HW.out hb6 HW.out.size)
              clear hx6 hb6
              go_wp2_with fail
              go_roundw
              case rel => exact ⟨i + 1, by omega, by omega, by go_num, HW6⟩
              case measure => simp [intOf]; omega
    · have h90 : i = 90 := by omega
      subst h90
      go_wp2_with fail
      go_ret
      exact ⟨rfl, below_t HBW5.out HW.out HBW5.out.size⟩
end Go.Proofs.Ytppbcdcmpcagdaa
