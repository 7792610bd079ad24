/- Contracts: slices.IndexFunc and ContainsFunc at tree's test, tree.Encode, bytes.Equal. -/
import Derived.Test.YtafofpnfpkbfpaaTree1
import Derived.KernelRfl
namespace Go.Proofs.Ytafofpnfpkbfpaa
open Go.RowKit Go.CP

def RetIdx (b : Bool) (w : World) (e : Ending) (w' : World) : Prop := ∃ r : Int, e = .returned (.int .i64 r) ∧ decide (0 ≤ r) = b ∧ w' = w
def badB (l : List Int) : Bool := l.any fun n => !ptrB n

theorem badB_hit {l : List Int} {i : Nat} {x : Int} (h : l[i]? = some x) (hp : ptrB x = false) : badB l = true := by
  unfold badB
  rw [List.any_eq_true]
  exact ⟨x, List.mem_of_getElem? h, by simp [hp]⟩
theorem badB_snoc {l : List Int} {i : Nat} {x : Int} (h : l[i]? = some x) (hp : ptrB x = true) : badB (l.take (i + 1)) = badB (l.take i) := by
  unfold badB
  rw [take_snoc h, List.any_append]
  simp [hp]

theorem indexFunc_any (A : Option Addr) (l : List Int) (c : Nat) (w : World) (ha : Ints w A l) (hl : l.length ≤ 140737488351232) :
    Calls Try.prog 37 #[.slice A l.length c, .func (.func 28) #[] #[]] w (RetIdx (badB l) w) := by
  go_enter Try.func37, Try.ntmps37
  go_wp2_with fail
  go_loop [8] (fun iv => ∃ i : Nat, i ≤ l.length ∧ iv = .int .i64 i ∧ Hid (badB (l.take i) = false)) (fun iv => l.length - (intOf iv).toNat)
  case atStart => exact ⟨0, by omega, rfl, by exact hid rfl⟩
  case round =>
    obtain ⟨i, hi, rfl, HE⟩ := hrel
    by_cases hlt : i < l.length
    · obtain ⟨b1, o1, rfl, hc1⟩ := Ints.openq ha (by omega)
      obtain ⟨x, hx⟩ := get_of_lt l hlt
      have hd1 := hc1 i x hx
      have HX := hid hx
      clear hc1 hx
      by_cases hp : ptrB x = true
      · go_wp2_with (go_at_call 28; refine (notptr_any _ _).mono ?_; rintro e w ⟨rfl, rfl⟩)
        go_round
        case rel => exact ⟨i + 1, by omega, by go_num, hid (by rw [badB_snoc HX.out hp]; exact HE.out)⟩
        case measure => simp [intOf]; omega
      · have hp' : ptrB x = false := by simpa using hp
        clear hp
        go_wp2_with (go_at_call 28; refine (notptr_any _ _).mono ?_; rintro e w ⟨rfl, rfl⟩)
        go_ret
        exact ⟨i, rfl, by rw [badB_hit HX.out hp']; simp, rfl⟩
    · have hk : i = l.length := by omega
      have HK := hid hk
      clear hk
      go_wp2_with fail
      go_ret
      exact ⟨-1, rfl, by have := HK.out; subst this; have e := HE.out; rw [List.take_length] at e; rw [e]; rfl, rfl⟩

theorem containsFunc_any (A : Option Addr) (l : List Int) (c : Nat) (w : World) (ha : Ints w A l) (hl : l.length ≤ 140737488351232) :
    Calls Try.prog 27 #[.slice A l.length c, .func (.func 28) #[] #[]] w fun e w' => e = .returned (.bool (badB l)) ∧ w' = w := by
  go_enter Try.func27, Try.ntmps27
  go_wp2_with fail
  refine (indexFunc_any A l c w ha hl).mono ?_
  rintro e w ⟨r, rfl, hr, rfl⟩
  have HR := hid hr
  clear hr
  go_wp2_with fail
  go_ret
  exact ⟨ret_bool HR.out, rfl⟩
end Go.Proofs.Ytafofpnfpkbfpaa
