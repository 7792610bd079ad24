/- Contracts of the document's Head, Ints; of the law's check. -/
import Derived.Test.YtppbcdcmpcagdaaRedoR
namespace Go.Proofs.Ytppbcdcmpcagdaa
open Go.RowKit Go.CP

theorem belowN {B : Nat} {w w' : World} (h : ∃ n, w' = w.drewN n) : Below B w w' := by
  obtain ⟨n, rfl⟩ := h
  exact below_drewN (Below.refl _ _) n
theorem rhead_err (A : Option Addr) (l : List Int) (c : Nat) (w : World) (ha : Ints w A l) (hl : l.length ≤ 140737488351232) (hg : goodB l = false) :
    Calls Try.prog 116 #[.slice A l.length c] w fun e w' => e = .returned (.tuple #[.string (bstr []), .int .i64 1]) ∧ Below w.heap.size w w' := by
  have h := rgood_any A l c w ha hl
  rw [hg] at h
  have HG := hid h
  clear h hg
  go_enter Try.func116, Try.ntmps116
  go_wp2_with fail
  refine HG.out.mono ?_
  rintro e w1 ⟨rfl, hw⟩
  have HW := hid hw
  clear hw
  go_wp2
  go_ret2
  exact ⟨rfl, belowN HW.out⟩
/-- A head's text when i numbers are in. -/
def accR (l : List Int) (i : Nat) : List UInt8 := magicR ++ little l.length 4 ++ numsR (l.take i)
theorem accR_len (l : List Int) {i : Nat} (h : i ≤ l.length) : (accR l i).length = 8 + 2 * i := by
  simp only [accR, List.length_append, little_len, numsR_len, magicR, List.length_take, List.length_cons, List.length_nil]
  omega
theorem accR_succ {l : List Int} {i : Nat} {m : Nat} (h : l[i]? = some (m : Int)) : accR l (i + 1) = accR l i ++ little m 2 := by
  rw [accR, accR, numsR_snoc h, Int.toNat_natCast]
  simp only [List.append_assoc]
set_option maxHeartbeats 1000000 in
set_option maxRecDepth 100000 in
theorem rhead_ok (A : Option Addr) (l : List Int) (c : Nat) (w : World) (ha : Ints w A l) (hg : goodB l = true) :
    Calls Try.prog 116 #[.slice A l.length c] w fun e w' => e = .returned (.tuple #[.string (bstr (headL l)), .int .i64 0]) ∧ Below w.heap.size w w' := by
  have h24 := goodB_len hg
  have h := rgood_any A l c w ha (by omega)
  rw [hg] at h
  have HG := hid h
  have HGB := hid hg
  have HA := hid ha
  clear h hg ha
  go_enter Try.func116, Try.ntmps116
  go_wp2_with fail
  refine HG.out.mono ?_
  clear HG
  rintro e w1 ⟨rfl, hw⟩
  have hp := little_any l.length 4 w1 (by omega) (by decide)
  have HB1 : Hid (Below w.heap.size w w1) := hid (belowN hw)
  have HP := hid hp
  have hl4 : (bstr (little l.length 4)).size = 4 := little_len l.length 4
  clear hp hw
  go_wp2_with fail
  refine HP.out.mono ?_
  clear HP
  rintro e w2 ⟨rfl, hb2⟩
  have HB2 := hid (below_t HB1.out hb2 HB1.out.size)
  clear hb2 HB1
  go_wp2_with fail
  clear hl4
  go_loopw [4, 5] (fun sv iv' wr => ∃ (i : Nat) (acc : List UInt8), i ≤ l.length ∧ iv' = .int .i64 i ∧ sv = .string (bstr acc) ∧ acc.length ≤ 200 ∧ Hid (acc = accR l i) ∧ Hid (Below w.heap.size w wr)) (fun _ iv' _ => l.length - (intOf iv').toNat)
  case atStart =>
    refine ⟨0, magicR ++ little l.length 4, by omega, rfl, ?_, by simp [magicR, little_len], hid (by simp [accR, numsR]), HB2⟩
    rw [← bstr_append]
    rfl
  case round =>
    obtain ⟨i, acc, hi, rfl, rfl, ha2, HE, HB⟩ := hrel
    by_cases hlt : i < l.length
    · obtain ⟨y, hy⟩ := get_of_lt l hlt
      obtain ⟨b1, o1, rfl, hc1⟩ := Ints.openq (Cells.below HA.out HB.out (Nat.le_refl _)) (by omega)
      have hd1 := hc1 i y hy
      have hok := okN_iff.1 (goodB_ok HGB.out hy)
      obtain ⟨m, rfl⟩ : ∃ m : Nat, y = m := ⟨y.toNat, by omega⟩
      have hp := little_any m 2 wr (by omega) (by decide)
      have HP := hid hp
      have hz2 : (bstr (little m 2)).size = 2 := little_len m 2
      have hza : (bstr acc).size ≤ 200 := by show acc.toArray.size ≤ 200; simpa using ha2
      have HY := hid hy
      clear hc1 hy hok hp
      go_wp2_with fail
      refine HP.out.mono ?_
      clear HP
      rintro e w3 ⟨rfl, hb3⟩
      have HB3 := hid (below_t HB.out hb3 HB.out.size)
      have HL : Hid ((acc ++ little m 2).length ≤ 200) := hid (by rw [HE.out, List.length_append, accR_len l hi, little_len]; omega)
      clear hb3
      go_wp2_with fail
      go_roundw
      case rel => exact ⟨i + 1, acc ++ little m 2, by omega, by go_num, by rw [bstr_append], HL.out, hid (by rw [accR_succ HY.out, HE.out]), HB3⟩
      case measure => simp [intOf]; omega
    · have hk : i = l.length := by omega
      subst hk
      obtain ⟨M, hM⟩ : ∃ M : Nat, M = 116 - 2 * l.length := ⟨_, rfl⟩
      have hsz : (bstr acc).size = 8 + 2 * l.length := by show acc.toArray.size = _; rw [List.size_toArray, HE.out, accR_len l (Nat.le_refl _)]
      have hmi : (124 : Int) - (((bstr acc).size : Nat) : Int) = M := by omega
      have hmi2 : (124 : Int) - (8 + 2 * (l.length : Int)) = M := by omega
      have hp := noughts_any M wr (by omega)
      have hzm : (bstr (List.replicate M (0 : UInt8))).size = M := by show (List.replicate M (0 : UInt8)).toArray.size = M; simp
      have HM := hid hM
      have hM2 : (M : Int) ≤ 116 := by omega
      have HP := hid hp
      clear hM hp hlt hi
      go_wp2_with fail
      refine HP.out.mono ?_
      clear HP
      rintro e w3 ⟨rfl, hb3⟩
      have hhead : acc ++ List.replicate M (0 : UInt8) = headR l := by rw [HE.out, HM.out, accR, List.take_length]; rfl
      have hse := rsealed_any (bstr (headR l)) w3 (by show (headR l).toArray.size ≤ _; rw [List.size_toArray, headR_len h24]; decide)
      rw [← hhead, ← bstr_append] at hse
      have HSE := hid hse
      have HB3 := hid (below_t HB.out hb3 HB.out.size)
      have HHD := hid hhead
      clear hse hb3 hhead
      go_wp2_with fail
      refine HSE.out.mono ?_
      clear HSE
      rintro e w4 ⟨rfl, hb4⟩
      have HB4 := hid (below_t HB3.out hb4 HB3.out.size)
      clear hb4
      go_wp2
      go_ret2
      refine ⟨?_, HB4.out⟩
      rw [bstr_append, HHD.out]
      rfl
theorem take_eq_snoc {a b : List Int} {i : Nat} {x y : Int} (h : a.take i = b.take i) (ha : a[i]? = some x) (hb : b[i]? = some y) (hxy : x = y) : a.take (i + 1) = b.take (i + 1) := by
  rw [take_snoc ha, take_snoc hb, h, hxy]
set_option maxHeartbeats 1000000 in
/-- The same numbers. -/
theorem ints_any (A B : Option Addr) (l : List Int) (c c' : Nat) (w : World) (ha : Ints w A l) (hb : Ints w B l) (hl : l.length ≤ 140737488351232) :
    Calls Try.prog 118 #[.slice A l.length c, .slice B l.length c'] w fun e w' => e = .returned (.bool true) ∧ Below w.heap.size w w' := by
  have HA := hid ha
  have HB := hid hb
  clear ha hb
  go_enter Try.func118, Try.ntmps118
  go_wp2_with fail
  go_loopw [5] (fun iv' wr => ∃ i : Nat, i ≤ l.length ∧ iv' = .int .i64 i ∧ Hid (∃ n, wr = w.drewN n)) (fun iv' _ => l.length - (intOf iv').toNat)
  case atStart => exact ⟨0, by omega, rfl, hid ⟨0, rfl⟩⟩
  case round =>
    obtain ⟨i, hi, rfl, HW⟩ := hrel
    obtain ⟨n1, hn1⟩ := HW.out
    have hwa : Ints wr A l := by rw [hn1]; exact HA.out
    have hwb : Ints wr B l := by rw [hn1]; exact HB.out
    have HN := hid hn1
    clear hn1 HW
    by_cases hlt : i < l.length
    · obtain ⟨y, hy⟩ := get_of_lt l hlt
      obtain ⟨b1, o1, rfl, hc1⟩ := Ints.openq hwa (by omega)
      obtain ⟨b2, o2, rfl, hc2⟩ := Ints.openq hwb (by omega)
      have hd1 := hc1 i y hy
      have hd2 := hc2 i y hy
      clear hc1 hc2 hy hwa hwb
      go_wp2_with fail
      go_quiet (fail)
      go_wp2_with fail
      go_roundw
      case rel => exact ⟨i + 1, by omega, by go_num, hid ⟨_, by rw [HN.out, drewN_twice]⟩⟩
      case measure => simp [intOf]; omega
    · go_wp2_with fail
      go_ret
      exact ⟨rfl, belowN ⟨_, HN.out⟩⟩
end Go.Proofs.Ytppbcdcmpcagdaa
