/- Contract of the law's check: which error a commit has that is not cut off. -/
import Derived.Test.YtppbcdcmpcagdaaRedoS
namespace Go.Proofs.Ytppbcdcmpcagdaa
open Go.RowKit Go.CP

/-- The error of a commit that is not cut off. -/
def checkE (n : Nat) (ws : List Wt) : Int := if ws ≠ [] ∧ targB n ws = false then 1 else 0
def RetCheck (W : World) (x : Int) (e : Ending) (W' : World) : Prop := e = .returned (.int .i64 x) ∧ Below W.heap.size W W'
set_option maxHeartbeats 2000000 in
set_option maxRecDepth 100000 in
theorem check_any (W : World) (n : Nat) (LA : Option Addr) (ws : List Wri) (cw : Nat) (hw : Wrs W LA ws) (hn : ws.length ≤ 10000000000000) :
    Calls Try.prog 123 #[.slice LA ws.length cw, .int .i64 n] W (RetCheck W (checkE n (wl ws))) := by
  have HW := hid hw
  clear hw
  go_enter Try.func123, Try.ntmps123
  go_wp2_with fail
  go_loopw [5, 6, 7] (fun ov kv iv' wr => ∃ (i : Nat) (B : Option Addr) (cb : Nat), i ≤ ws.length ∧ iv' = .int .i64 i ∧ ov = .slice B i cb ∧ kv = .bool (fitB n (wl (ws.take i))) ∧ Hid (Go.CP.Own wr W.heap.size 3 1 B i cb (((ws.take i).map (·.n)).map iv) ∧ Below W.heap.size W wr)) (fun _ _ iv' _ => ws.length - (intOf iv').toNat)
  case atStart => exact ⟨0, some ⟨W.heap.size, 0, none⟩, 0, by omega, rfl, rfl, rfl, hid ⟨Go.CP.Own.empty W 3 1, (Below.refl _ _).alloc (Nat.le_refl _) _⟩⟩
  case round =>
    obtain ⟨i, B, cb, hi, rfl, rfl, rfl, HI⟩ := hrel
    by_cases hlt : i < ws.length
    · obtain ⟨x, hx⟩ := get_of_lt ws hlt
      obtain ⟨lb, lo, rfl, lc0, lc1⟩ := Wrs.at (Cells.below HW.out HI.out.2 (Nat.le_refl _)) hx
      obtain ⟨lb', lo', e, k0, k1⟩ := Wrs.at HW.out hx
      cases e
      have hlb : lb < W.heap.size := World.block_lt_of_cell? W _ k0
      clear k0 k1
      have hne : some lb ≠ blockOf B := fun e => by have := (HI.out.1.block lb e.symm).1; omega
      have HNE := hid hne
      have LC0 := hid ((World.cell?_alloc_lt wr (.cells #[.int .i64 x.n] 3) _ (World.block_lt_of_cell? wr _ lc0)).trans lc0)
      have LC1 := hid ((World.cell?_alloc_lt wr (.cells #[.int .i64 x.n] 3) _ (World.block_lt_of_cell? wr _ lc1)).trans lc1)
      clear hne
      have hwt := wl_take hx
      have HT := hid hwt
      have HX := hid hx
      have hzz := HI.out.2.size
      clear hx hwt
      obtain ⟨q, hq⟩ : ∃ q, fitB n (wl (ws.take i)) = q := ⟨_, rfl⟩
      rw [hq]
      have HQ := hid hq
      clear hq
      have HOW := hid (HI.out.1.alloc (.cells #[.int .i64 x.n] 3))
      have hfin : ∀ (B' : Option Addr) (cb' : Nat) (w' : World), Go.CP.Own w' W.heap.size 3 1 B' (i + 1) cb' (((ws.take i).map (·.n)).map iv ++ [iv x.n]) → (wr.alloc (.cells #[.int .i64 x.n] 3)).grownBy w' (blockOf B) →
          (Go.CP.Own w' W.heap.size 3 1 B' (i + 1) cb' (((ws.take (i + 1)).map (·.n)).map iv) ∧ Below W.heap.size W w') := fun B' cb' w' h1 h2 => by
        refine ⟨?_, Below.grown (HI.out.2.alloc hzz _) h2 (by simp; omega) (fun k hk => (HI.out.1.block k hk).1)⟩
        rw [take_snoc HX.out, List.map_append, List.map_append]
        exact h1
      have HFIN := hid hfin
      clear hfin
      cases q with
      | false =>
        have HF : Hid (fitB n (wl (ws.take (i + 1))) = false) := hid (by rw [HT.out, fitB_snoc, HQ.out]; rfl)
        go_wp2_with (at_builtin; refine ap_ints rfl _ _ 130 rfl W.heap.size rfl HOW.out rfl (Src.one (w := wr) Try.underlying130 rfl) (by omega) (by simp; omega) ?_; intro A' c' w' ho' hg')
        go_roundw
        case rel => exact ⟨i + 1, A', c', by omega, by go_num, rfl, by rw [HF.out], hid (HFIN.out _ _ _ ho' hg')⟩
        case measure => simp [intOf]; omega
      | true =>
        by_cases h1 : x.n < (n : Int)
        · by_cases h2 : x.d.length = 128
          · have hq2 : ((x.d.length : Int) == 128) = true := by simp; omega
            have HF : Hid (fitB n (wl (ws.take (i + 1))) = true) := hid (by rw [HT.out, fitB_snoc, HQ.out]; simp [h1, h2])
            clear h2
            go_wp2_with (at_builtin; refine ap_ints rfl _ _ 130 rfl W.heap.size rfl HOW.out rfl (Src.one (w := wr) Try.underlying130 rfl) (by omega) (by simp; omega) ?_; intro A' c' w' ho' hg'; have hcx := hg'.cell LC0.out HNE.out; have hcy := hg'.cell LC1.out HNE.out; have HOF := hid (HFIN.out _ _ _ ho' hg'); clear ho' hg')
            go_roundw
            case rel => exact ⟨i + 1, A', c', by omega, by go_num, rfl, by rw [HF.out], HOF⟩
            case measure => simp [intOf]; omega
          · have hq2 : ((x.d.length : Int) == 128) = false := by simp; omega
            have HF : Hid (fitB n (wl (ws.take (i + 1))) = false) := hid (by rw [HT.out, fitB_snoc, HQ.out]; simp [h2])
            clear h2
            go_wp2_with (at_builtin; refine ap_ints rfl _ _ 130 rfl W.heap.size rfl HOW.out rfl (Src.one (w := wr) Try.underlying130 rfl) (by omega) (by simp; omega) ?_; intro A' c' w' ho' hg'; have hcx := hg'.cell LC0.out HNE.out; have hcy := hg'.cell LC1.out HNE.out; have HOF := hid (HFIN.out _ _ _ ho' hg'); clear ho' hg')
            go_roundw
            case rel => exact ⟨i + 1, A', c', by omega, by go_num, rfl, by rw [HF.out], HOF⟩
            case measure => simp [intOf]; omega
        · have HF : Hid (fitB n (wl (ws.take (i + 1))) = false) := hid (by rw [HT.out, fitB_snoc, HQ.out]; simp [h1])
          go_wp2_with (at_builtin; refine ap_ints rfl _ _ 130 rfl W.heap.size rfl HOW.out rfl (Src.one (w := wr) Try.underlying130 rfl) (by omega) (by simp; omega) ?_; intro A' c' w' ho' hg'; have hcx := hg'.cell LC0.out HNE.out; have hcy := hg'.cell LC1.out HNE.out; have HOF := hid (HFIN.out _ _ _ ho' hg'); clear ho' hg')
          go_roundw
          case rel => exact ⟨i + 1, A', c', by omega, by go_num, rfl, by rw [HF.out], HOF⟩
          case measure => simp [intOf]; omega
    · have hk : i = ws.length := by omega
      subst hk
      obtain ⟨ho, hb⟩ := HI.out
      rw [List.take_length] at ho ⊢
      have hln : (ws.map (·.n)).length = ws.length := List.length_map _
      have hp := rgood_any B (ws.map (·.n)) cb wr ho.cells (by rw [hln]; omega)
      rw [hln] at hp
      have HP := hid hp
      have HB := hid hb
      obtain ⟨q, hq⟩ : ∃ q, fitB n (wl ws) = q := ⟨_, rfl⟩
      obtain ⟨r, hr⟩ : ∃ r, goodB (ws.map (·.n)) = r := ⟨_, rfl⟩
      have htb : targB n (wl ws) = (q && r) := by rw [targB, hq, wl_nums, hr]
      rw [hq]
      have HR := hid hr
      have HC : ∀ x : Int, (ws ≠ [] ∧ (q && r) = false → x = 1) → (¬ (ws ≠ [] ∧ (q && r) = false) → x = 0) → Hid (checkE n (wl ws) = x) := fun x h1 h2 => hid (by
        unfold checkE
        rw [htb]
        by_cases hc : ws ≠ [] ∧ (q && r) = false
        · rw [if_pos ⟨wl_ne hc.1, hc.2⟩, h1 hc]
        · rw [if_neg (fun h => hc ⟨fun e => h.1 (by rw [e]; rfl), h.2⟩), h2 hc])
      clear ho hb hp hq hr htb hln hi hlt HI
      by_cases h0 : ws.length = 0
      · have he : ws = [] := List.length_eq_zero_iff.1 h0
        have HC1 := HC 0 (fun h => absurd he h.1) (fun _ => rfl)
        have hq0 : ¬ (0 : Int) < (ws.length : Int) := by omega
        clear h0 he HC
        go_wp2_with fail
        go_ret
        rw [HC1.out]
        exact ⟨rfl, HB.out⟩
      · have hne : ws ≠ [] := fun e => h0 (by rw [e]; rfl)
        have hq0 : (0 : Int) < (ws.length : Int) := by omega
        have HNE := hid hne
        clear h0 hne
        cases q with
        | false =>
          have HC1 := HC 1 (fun _ => rfl) (fun h => absurd ⟨HNE.out, rfl⟩ h)
          clear HC
          go_wp2_with fail
          go_ret
          rw [HC1.out]
          exact ⟨rfl, HB.out⟩
        | true =>
          rw [HR.out] at HP
          cases r with
          | false =>
            have HC1 := HC 1 (fun _ => rfl) (fun h => absurd ⟨HNE.out, rfl⟩ h)
            clear HC
            go_wp2_with fail
            refine HP.out.mono ?_
            rintro e w2 ⟨rfl, hw⟩
            have HW2 := hid hw
            clear hw
            go_wp2_with fail
            go_ret
            rw [HC1.out]
            exact ⟨rfl, HB.out.trans (belowN HW2.out)⟩
          | true =>
            have HC1 := HC 0 (fun h => by cases h.2) (fun _ => rfl)
            clear HC
            go_wp2_with fail
            refine HP.out.mono ?_
            rintro e w2 ⟨rfl, hw⟩
            have HW2 := hid hw
            clear hw
            go_wp2_with fail
            go_ret
            rw [HC1.out]
            exact ⟨rfl, HB.out.trans (belowN HW2.out)⟩
end Go.Proofs.Ytppbcdcmpcagdaa
