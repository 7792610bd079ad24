/- The walk of the reference's Routes. -/
import Derived.Test.YtafofpnfpkbfpaaTree7
namespace Go.Proofs.Ytafofpnfpkbfpaa
open Go.RowKit Go.CP

def RetRoutes (w : World) (e : Ending) (w' : World) : Prop := ∃ A c, e = .returned (.slice A 76 c) ∧ RowsR w' w.heap.size A c 76 ∧ Below w.heap.size w w'

theorem rt1 {i : Nat} (h : i < 4) : [(i : Int)] = routeL i := by rw [routeL, if_pos h]
theorem rt2 {i : Nat} (h : i < 8) : [4, (i : Int)] = routeL (4 + i) := by
  rw [routeL, if_neg (by omega), if_pos (by omega)]
  congr 2
  omega
theorem rt3 {i k : Nat} (hi : i < 8) (hk : k < 8) : [5, (i : Int), (k : Int)] = routeL (12 + 8 * i + k) := by
  rw [routeL, if_neg (by omega), if_neg (by omega)]
  congr 2
  · omega
  · congr 1; omega

set_option maxRecDepth 100000 in
theorem routes_any (w : World) : Calls Try.prog 13 #[] w (RetRoutes w) := by
  go_enter Try.func13, Try.ntmps13
  go_wp2_with fail
  go_loopw [1, 2] (fun ov iv wr => ∃ (i : Nat) (A : Option Addr) (c : Nat), i ≤ 4 ∧ iv = .int .i64 i ∧ ov = .slice A i c ∧ RowsR wr w.heap.size A c i ∧ Below w.heap.size w wr) (fun _ iv _ => 4 - (intOf iv).toNat)
  case atStart => exact ⟨0, _, _, by omega, rfl, rfl, RowsR.nil w, (Below.refl _ _).alloc (Nat.le_refl _) _⟩
  case round =>
    obtain ⟨i, A, c, hi, rfl, rfl, hr, hbel⟩ := hrel
    have hz := hbel.size
    by_cases hlt : i < 4
    · have hrt := rt1 hlt
      have HRT := hid hrt
      clear hrt
      go_wp2_with (at_builtin; refine ap_route rfl _ _ rfl w.heap.size i rfl hr [(i : Int)] HRT.out (by omega) _ rfl 1 rfl rfl hz ?_; intro A2 c2 w2 hr2 hb2)
      go_roundw
      case rel => exact ⟨i + 1, A2, c2, by omega, by go_num, rfl, hr2, hbel.trans hb2⟩
      case measure => simp [intOf]; omega
    · have hk : i = 4 := by omega
      subst hk
      rw [show ((4 : Nat) : Int) = 4 from rfl]
      go_wp2_with fail
      go_loopw [1, 3] (fun ov iv wr => ∃ (i : Nat) (A : Option Addr) (c : Nat), i ≤ 8 ∧ iv = .int .i64 i ∧ ov = .slice A (4 + i) c ∧ RowsR wr w.heap.size A c (4 + i) ∧ Below w.heap.size w wr) (fun _ iv _ => 8 - (intOf iv).toNat)
      case atStart => exact ⟨0, A, c, by omega, rfl, rfl, hr, hbel⟩
      case round =>
        clear hr hbel hz
        obtain ⟨i, A, c, hi, rfl, rfl, hr, hbel⟩ := hrel
        have hz := hbel.size
        by_cases hlt : i < 8
        · have hrt := rt2 hlt
          have HRT := hid hrt
          clear hrt
          go_wp2_with (at_builtin; refine ap_route rfl _ _ rfl w.heap.size (4 + i) rfl hr [4, (i : Int)] HRT.out (by omega) _ rfl 2 rfl rfl hz ?_; intro A2 c2 w2 hr2 hb2)
          go_roundw
          case rel => exact ⟨i + 1, A2, c2, by omega, by go_num, rfl, hr2, hbel.trans hb2⟩
          case measure => simp [intOf]; omega
        · have hk : i = 8 := by omega
          subst hk
          rw [show ((8 : Nat) : Int) = 8 from rfl]
          go_wp2_with fail
          go_loopw [1, 4] (fun ov iv wr => ∃ (i : Nat) (A : Option Addr) (c : Nat), i ≤ 8 ∧ iv = .int .i64 i ∧ ov = .slice A (12 + 8 * i) c ∧ RowsR wr w.heap.size A c (12 + 8 * i) ∧ Below w.heap.size w wr) (fun _ iv _ => 8 - (intOf iv).toNat)
          case atStart => exact ⟨0, A, c, by omega, rfl, rfl, hr, hbel⟩
          case round =>
            clear hr hbel hz
            obtain ⟨i, A, c, hi, rfl, rfl, hr, hbel⟩ := hrel
            have hz := hbel.size
            by_cases hlt : i < 8
            · obtain ⟨wo, rfl⟩ : ∃ wo : World, wo = wr := ⟨_, rfl⟩
              have hdi : decide ((i : Int) < 8) = true := by simp; omega
              go_wp2_with fail
              go_loopw [1, 5] (fun ov kv wr => ∃ (k : Nat) (A : Option Addr) (c : Nat), k ≤ 8 ∧ kv = .int .i64 k ∧ ov = .slice A (12 + 8 * i + k) c ∧ RowsR wr w.heap.size A c (12 + 8 * i + k) ∧ Below w.heap.size w wr) (fun _ iv _ => 8 - (intOf iv).toNat)
              case atStart => exact ⟨0, A, c, by omega, rfl, rfl, hr, hbel⟩
              case round =>
                clear hr hbel hz
                obtain ⟨k, A, c, hk, rfl, rfl, hr, hbel⟩ := hrel
                have hz := hbel.size
                by_cases hltk : k < 8
                · have hrt := rt3 hlt hltk
                  have HRT := hid hrt
                  clear hrt
                  go_wp2_with (at_builtin; refine ap_route rfl _ _ rfl w.heap.size (12 + 8 * i + k) rfl hr [5, (i : Int), (k : Int)] HRT.out (by omega) _ rfl 3 rfl rfl hz ?_; intro A2 c2 w2 hr2 hb2)
                  go_roundw
                  case rel => exact ⟨k + 1, A2, c2, by omega, by go_num, rfl, hr2, hbel.trans hb2⟩
                  case measure => simp [intOf]; omega
                · have hk8 : k = 8 := by omega
                  subst hk8
                  go_wp2_with fail
                  go_roundw
                  case rel => exact ⟨i + 1, A, c, by omega, by go_num, rfl, hr, hbel⟩
                  case measure => simp [intOf]; omega
            · have hk : i = 8 := by omega
              subst hk
              go_wp2_with fail
              go_ret
              exact ⟨A, c, rfl, hr, hbel⟩
end Go.Proofs.Ytafofpnfpkbfpaa
