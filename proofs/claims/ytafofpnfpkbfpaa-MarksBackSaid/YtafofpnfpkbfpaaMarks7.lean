/- The simplest facts of marks hold: its awake returns true. -/
import Derived.Test.YtafofpnfpkbfpaaMarks6
import Derived.KernelRfl
namespace Go.Proofs.Ytafofpnfpkbfpaa
open Go.RowKit Go.CP

def awB : List UInt8 := setBit (List.replicate 128 0) 9 true
theorem awB_len : awB.length = 128 := by decide +kernel
theorem aw1 : firstN awB 9 20 = 10 := by decide +kernel
theorem aw2 : firstE awB 9 20 = 0 := by decide +kernel
theorem aw3 : cn awB 0 1024 = 1 := by decide +kernel
theorem aw4 : bitOf awB 9 = true := by decide +kernel
theorem aw5 : rightE 128 9 = 0 := by decide +kernel
theorem aw6 : awB[1]? = some 2 := by decide +kernel

theorem awake_any (w : World) : Calls Try.prog 22 #[] w fun e w' => e = .returned (.bool true) ∧ Below w.heap.size w w' := by
  go_enter Try.func22, Try.ntmps22
  go_wp2_with (at_make; refine mk_bytes (m := 128) rfl _ _ rfl rfl rfl (by omega) ?_; intro w1 ho1 hg1 hz1)
  have hbel1 : Below w.heap.size w w1 := Below.of_grown hg1 (Nat.le_refl _) (by simp)
  have hcall := set_ok (some ⟨w.heap.size, 0, none⟩) (List.replicate 128 (0 : UInt8)) 128 9 true w1 ho1.cells (by simp) (by omega)
  rw [List.length_replicate] at hcall
  refine hcall.mono ?_
  clear hcall ho1 hg1
  rintro e w2 ⟨A, c, rfl, ho, hb2⟩
  rw [show setBit (List.replicate 128 0) 9 true = awB from rfl] at ho
  have hbel2 : Below w.heap.size w w2 := hbel1.trans (hb2.mono (by omega))
  clear hbel1 hb2
  go_wp2_with fail
  have h2 := first_ok A awB c 9 20 w2 ho.cells awB_len (by omega) (by omega)
  rw [awB_len, aw1, aw2] at h2
  refine h2.mono ?_
  clear h2
  rintro e w' ⟨rfl, rfl⟩
  go_wp2_with fail
  have h3 := count_ok A awB c 0 1024 w' ho.cells awB_len (by omega) (by omega)
  rw [awB_len, aw3] at h3
  refine h3.mono ?_
  clear h3
  rintro e w' ⟨rfl, rfl⟩
  go_wp2_with fail
  have h4 := has_any A awB c 9 w' ho.cells
  rw [awB_len, aw5, show (9 : Int).toNat = 9 from rfl, aw4] at h4
  refine h4.mono ?_
  clear h4
  rintro e w' ⟨rfl, rfl⟩
  obtain ⟨b, off, rfl, hc⟩ := Bytes.open ho.cells (by rw [awB_len]; omega)
  have hc1 := hc 1 (by rw [awB_len]; omega)
  have e1 : awB[1]'(by rw [awB_len]; omega) = 2 := by
    have := aw6
    rw [List.getElem?_eq_getElem (by rw [awB_len]; omega)] at this
    exact Option.some.inj this
  rw [e1] at hc1
  clear hc e1
  go_wp2
  go_ret
  exact ⟨rfl, hbel2⟩
end Go.Proofs.Ytafofpnfpkbfpaa
