/- Contract of the reference's vnums (verb). -/
import Derived.Test.YtppbcdcmpcagdaaVerb5
import Derived.Deep.DrawnRows
import Derived.Deep.RegionHeld3
namespace Go.Proofs.Ytppbcdcmpcagdaa
open Go.RowKit Go.CP

set_option maxRecDepth 100000 in
theorem rvnums_any (A : Option Addr) (l : List Int) (c : Nat) (w : World) (ha : Ints w A l) (hr : ∀ n ∈ l, 0 ≤ n ∧ n < 4294967296) (hl : l.length ≤ 100000) :
    Calls Try.prog 148 #[.slice A l.length c] w fun e w' => e = .returned (.string (bstr (numsL l))) ∧ Below w.heap.size w w' := by
  have HA := hid ha
  have HR := hid hr
  have hli : (l.length : Int) ≤ 100000 := by omega
  have h4 := little_len
  clear ha hr
  go_enter Try.func148, Try.ntmps148
  go_wp2_with fail
  go_loopw [3, 4] (fun sv' iv wr => ∃ (i : Nat) (acc : List UInt8), i ≤ l.length ∧ iv = .int .i64 i ∧ sv' = .string (bstr acc) ∧ acc.length = 4 * i ∧ Hid (acc = numsL (l.take i) ∧ Below w.heap.size w wr)) (fun _ iv _ => l.length - (intOf iv).toNat)
  case atStart => exact ⟨0, [], by omega, rfl, rfl, rfl, hid ⟨rfl, Below.refl _ _⟩⟩
  case round =>
    obtain ⟨i, acc, hi, rfl, rfl, hal, HI⟩ := hrel
    have HAL := hid hal
    have hal2 : acc.length ≤ 400000 := by omega
    clear hal
    by_cases hlt : i < l.length
    · obtain ⟨x, hx⟩ := get_of_lt l hlt
      have hxr := HR.out x (List.mem_of_getElem? hx)
      obtain ⟨k, rfl⟩ := Int.eq_ofNat_of_zero_le hxr.1
      obtain ⟨b, off, rfl, hc⟩ := Ints.atq (Cells.below HA.out HI.out.2 (Nat.le_refl _)) hx
      have hp := little_any k 4 wr (by omega) (by omega)
      rw [show ((4 : Nat) : Int) = 4 from rfl] at hp
      have HP := hid hp
      have HX := hid (numsL_snoc hx)
      have hii : (i : Int) < (l.length : Int) := by omega
      clear hp hx hxr
      go_wp2_with fail
      refine HP.out.mono ?_
      rintro e w2 ⟨rfl, hb2⟩
      have HB2 := hid (below_t HI.out.2 hb2 HI.out.2.size)
      clear hb2
      go_wp2_with fail
      go_roundw
      case rel => exact ⟨i + 1, acc ++ little k 4, by omega, by go_num, by rw [bstr_append], by rw [List.length_append, little_len, HAL.out]; omega, hid ⟨by rw [HX.out, HI.out.1], HB2.out⟩⟩
      case measure => simp [intOf]; omega
    · have hk : i = l.length := by omega
      have HK := hid hk
      have hik : ¬ (i : Int) < (l.length : Int) := by omega
      clear hk
      go_wp2_with fail
      go_ret
      exact ⟨ret_string (by rw [HI.out.1, HK.out, List.take_length]), HI.out.2⟩

end Go.Proofs.Ytppbcdcmpcagdaa
