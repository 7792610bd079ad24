/- Contracts of the document's Good, Head, Ints; of the law's check. -/
import Derived.Test.YtppbcdcmpcagdaaRedoW
namespace Go.Proofs.Ytppbcdcmpcagdaa
open Go.RowKit Go.CP

theorem drewN_twice (w : World) (a b : Nat) : (w.drewN a).drewN b = w.drewN (a + b) := by
  simp [World.drewN, Nat.add_assoc]
set_option maxHeartbeats 2000000 in
set_option maxRecDepth 100000 in
theorem rgood_any (A : Option Addr) (l : List Int) (c : Nat) (w : World) (ha : Ints w A l) (hl : l.length ≤ 140737488351232) :
    Calls Try.prog 171 #[.slice A l.length c] w fun e w' => e = .returned (.bool (goodB l)) ∧ ∃ n, w' = w.drewN n := by
  by_cases h24 : l.length ≤ 24
  · have HG : Hid (goodB l = goodTo l l.length) := hid (by simp [goodB, h24])
    have h24i : ¬ (24 : Int) < (l.length : Int) := by omega
    have HA := hid ha
    clear ha
    go_enter Try.func171, Try.ntmps171
    go_wp2_with fail
    go_loopw [3] (fun iv' wr => ∃ i : Nat, i ≤ l.length ∧ iv' = .int .i64 i ∧ Hid (goodTo l i = true) ∧ Hid (∃ n, wr = w.drewN n)) (fun iv' _ => l.length - (intOf iv').toNat)
    case atStart => exact ⟨0, by omega, rfl, hid rfl, hid ⟨0, rfl⟩⟩
    case round =>
      obtain ⟨i, hi, rfl, HE, HW⟩ := hrel
      obtain ⟨n1, hn1⟩ := HW.out
      have hwr : Ints wr A l := by rw [hn1]; exact HA.out
      have HWR := hid hn1
      clear hn1 HW
      by_cases hlt : i < l.length
      · obtain ⟨y, hy⟩ := get_of_lt l hlt
        have hgd : l.getD i 0 = y := by rw [List.getD_eq_getElem?_getD, hy]; rfl
        obtain ⟨b1, o1, rfl, hc1⟩ := Ints.openq hwr (by omega)
        have hd1 := hc1 i y hy
        have HGD := hid hgd
        have HY := hid hy
        have HF : okN y = false → Hid (goodB l = false) := fun h => hid (by rw [HG.out]; exact goodTo_false (i := i) (by rw [HGD.out, h]; rfl) hlt)
        clear hc1 hy hgd hwr
        by_cases h0 : y < 0
        · have HF' := HF (by simp [okN]; omega)
          clear HF
          go_wp2_with fail
          go_ret
          exact ⟨ret_bool HF'.out.symm, _, HWR.out⟩
        · by_cases h2 : 1023 < y
          · have HF' := HF (by simp [okN]; omega)
            clear HF
            go_wp2_with fail
            go_ret
            exact ⟨ret_bool HF'.out.symm, _, HWR.out⟩
          · by_cases hin : 1 ≤ y ∧ y ≤ 25
            · obtain ⟨h1, h3⟩ := hin
              have HF' := HF (by simp [okN]; omega)
              clear HF
              go_wp2_with fail
              go_ret
              exact ⟨ret_bool HF'.out.symm, _, HWR.out⟩
            · have HOK : Hid (okN y = true) := hid (okN_iff.2 ⟨by omega, by omega, by omega⟩)
              clear HF
              have hpre : (1 ≤ y ∧ ¬ y ≤ 25) ∨ ¬ 1 ≤ y := by omega
              clear hin
              rcases hpre with ⟨h1, h3⟩ | h1
              all_goals
                go_wp2_with fail
                go_loopw [4] (fun jv wq => ∃ j : Nat, j ≤ i ∧ jv = .int .i64 j ∧ Hid ((l.take j).contains y = false) ∧ Hid (∃ n, wq = w.drewN n)) (fun jv _ => i - (intOf jv).toNat)
                case atStart => exact ⟨0, by omega, rfl, hid rfl, hid ⟨_, HWR.out⟩⟩
                case round =>
                  obtain ⟨j, hj, rfl, HJ, HWQ⟩ := hrel
                  obtain ⟨n2, hn2⟩ := HWQ.out
                  have hwq : Ints wr (some ⟨b1, o1, none⟩) l := by rw [hn2]; exact HA.out
                  have HWQ2 := hid hn2
                  clear hn2 HWQ
                  by_cases hjl : j < i
                  · obtain ⟨z, hz⟩ := get_of_lt l (i := j) (by omega)
                    obtain ⟨b2, o2, e2, hc2⟩ := Ints.openq hwq (by omega)
                    cases e2
                    have hd2 := hc2 j z hz
                    have hd3 := hc2 i y HY.out
                    have HZ := hid hz
                    have hjl2 : (j : Int) < (l.length : Int) := by omega
                    clear hc2 hz hwq
                    by_cases hzy : z = y
                    · have hq : (z == y) = true := by simpa using hzy
                      have HF' : Hid (goodB l = false) := hid (by
                        rw [HG.out]
                        refine goodTo_false (i := i) ?_ hlt
                        have hm : y ∈ l.take i := by
                          rw [← hzy]
                          refine List.mem_of_getElem? (i := j) ?_
                          rw [List.getElem?_take, if_pos hjl]
                          exact HZ.out
                        rw [HGD.out, List.contains_iff_mem.2 hm]
                        simp)
                      clear hzy
                      go_wp2_with fail
                      go_quiet (fail)
                      go_wp2_with fail
                      go_ret
                      exact ⟨ret_bool HF'.out.symm, _, by rw [HWQ2.out, drewN_twice]⟩
                    · have hq : (z == y) = false := by simpa using hzy
                      have HZY := hid hzy
                      clear hzy
                      go_wp2_with fail
                      go_quiet (fail)
                      go_wp2_with fail
                      go_roundw
                      case rel => exact ⟨j + 1, by omega, by go_num, hid (by rw [contains_snoc HZ.out (Ne.symm HZY.out)]; exact HJ.out), hid ⟨_, by rw [HWQ2.out, drewN_twice]⟩⟩
                      case measure => simp [intOf]; omega
                  · have hk : j = i := by omega
                    subst hk
                    go_wp2_with fail
                    go_roundw
                    case rel => exact ⟨j + 1, by omega, by go_num, hid (by rw [goodTo_succ, HE.out, HGD.out, HOK.out, HJ.out]; rfl), hid ⟨_, HWQ2.out⟩⟩
                    case measure => simp [intOf]; omega
      · have hk : i = l.length := by omega
        have HK := hid hk
        clear hk
        go_wp2_with fail
        go_ret
        exact ⟨ret_bool (by rw [HG.out, ← HK.out, HE.out]), _, HWR.out⟩
  · have HG : Hid (goodB l = false) := hid (by simp [goodB]; omega)
    have h24i : (24 : Int) < (l.length : Int) := by omega
    go_enter Try.func171, Try.ntmps171
    go_wp2_with fail
    go_ret
    exact ⟨ret_bool HG.out.symm, 0, rfl⟩
end Go.Proofs.Ytppbcdcmpcagdaa
