/- Contracts of redo's targets, of Commit. -/
import Derived.Test.YtppbcdcmpcagdaaRedoC
namespace Go.Proofs.Ytppbcdcmpcagdaa
open Go.RowKit Go.CP

theorem fitB_snoc (n : Nat) (l : List Wt) (x : Wt) : fitB n (l ++ [x]) = (fitB n l && (decide (x.1 < n) && (x.2.length == 128))) := by simp [fitB]
theorem fitB_bad {n : Nat} {l : List Wt} {x : Wt} (hx : x ∈ l) (h : (decide (x.1 < n) && (x.2.length == 128)) = false) : fitB n l = false := by
  unfold fitB
  rw [List.all_eq_false]
  exact ⟨x, hx, by rw [h]; simp⟩
theorem wl_take {ws : List Wri} {i : Nat} {x : Wri} (h : ws[i]? = some x) : wl (ws.take (i + 1)) = wl (ws.take i) ++ [(x.n, x.d)] := by
  rw [take_snoc h]; simp [wl]
/-- What targets hands back. -/
def RetTarg (W : World) (n : Nat) (ws : List Wri) (e : Ending) (W' : World) : Prop :=
  Below W.heap.size W W' ∧ ((fitB n (wl ws) = true ∧ ∃ B c, e = .returned (.tuple #[.slice B ws.length c, .bool (goodB (ws.map (·.n)))]) ∧ Go.CP.Own W' W.heap.size 3 1 B ws.length c ((ws.map (·.n)).map iv)) ∨
    (fitB n (wl ws) = false ∧ e = .returned (.tuple #[.slice none 0 0, .bool false])))
set_option maxHeartbeats 2000000 in
theorem targets_any (W : World) (g s : Nat) (A : Option Addr) (c : Nat) (D : Drv) (h : DriveIs W g s A c D) (LA : Option Addr) (ws : List Wri) (cw : Nat) (hw : Wrs W LA ws) (hn : ws.length ≤ 10000000000000) :
    Calls Try.prog 172 #[.pointer (some ⟨g, 0, none⟩), .slice LA ws.length cw] W (RetTarg W D.sure.length ws) := by
  have HH := hid h
  have HW := hid hw
  clear h hw
  go_enter Try.func172, Try.ntmps172
  go_wp2_with fail
  go_loopw [6, 11] (fun ov iv' wr => ∃ (i : Nat) (B : Option Addr) (cb : Nat), i ≤ ws.length ∧ iv' = .int .i64 i ∧ ov = .slice B i cb ∧ Hid (Go.CP.Own wr W.heap.size 3 1 B i cb (((ws.take i).map (·.n)).map iv) ∧ Below W.heap.size W wr ∧ fitB D.sure.length (wl (ws.take i)) = true)) (fun _ iv' _ => ws.length - (intOf iv').toNat)
  case atStart => exact ⟨0, none, 0, by omega, rfl, rfl, hid ⟨Go.CP.Own.none _ _ _ _, Below.refl _ _, rfl⟩⟩
  case round =>
    obtain ⟨i, B, cb, hi, rfl, rfl, HI⟩ := hrel
    by_cases hlt : i < ws.length
    · obtain ⟨x, hx⟩ := get_of_lt ws hlt
      obtain ⟨lb, lo, rfl, lc0, lc1⟩ := Wrs.at (Cells.below HW.out HI.out.2.1 (Nat.le_refl _)) hx
      have hd1 := (HH.out.below HI.out.2.1 (Nat.le_refl _)).alloc (.cells #[.int .i64 x.n, .slice x.a x.d.length x.c] 136)
      have HSEC := hid (fun nq => sectors_any ((wr.alloc (.cells #[.int .i64 x.n, .slice x.a x.d.length x.c] 136)).drewN nq) g _ _ _ _ _ _ (show Head4 ((wr.alloc (.cells #[.int .i64 x.n, .slice x.a x.d.length x.c] 136)).drewN nq) _ _ _ _ _ from hd1.head))
      have hm : x ∈ ws := List.mem_of_getElem? hx
      have hmw : (x.n, x.d) ∈ wl ws := List.mem_map.2 ⟨x, hm, rfl⟩
      have hbn : Below W.heap.size W (wr.alloc (.cells #[.int .i64 x.n, .slice x.a x.d.length x.c] 136)) := HI.out.2.1.alloc HI.out.2.1.size _
      have HX := hid hx
      have HBN := hid hbn
      clear hd1 hx hbn hm
      by_cases h1 : x.n < (D.sure.length : Int)
      · by_cases h2 : x.d.length = 128
        · have hq : ((x.d.length : Int) != 128) = false := by simp; omega
          have HXA := hid hmw
          have HXB := hid (And.intro h1 h2)
          have hq1 : decide ((D.sure.length : Int) ≤ x.n) = false := by simp; omega
          clear h2 hmw
          go_wp2_with fail
          go_quiet ((go_at_call 112; exact Calls.quiet_of_same (HSEC.out _)))
          obtain ⟨W1, hW1⟩ : ∃ W1, W1 = (wr.alloc (.cells #[.int .i64 x.n, .slice x.a x.d.length x.c] 136)).drewN nq := ⟨_, rfl⟩
          have hc1 : W1.cell? ⟨wr.heap.size, 0, none⟩ = some (.int .i64 x.n) := by rw [hW1]; simp
          have ho1 : Go.CP.Own W1 W.heap.size 3 1 B i cb (((ws.take i).map (·.n)).map iv) := by rw [hW1]; exact HI.out.1.alloc _
          have hb1 : Below W.heap.size W W1 := by rw [hW1]; exact below_drewN HBN.out _
          rw [← hW1]
          clear hW1
          have HO1 := hid ho1
          have HB1 := hid hb1
          have hz1 := hb1.size
          clear ho1 hb1
          go_wp2_with (at_builtin; refine ap_ints rfl _ _ 130 rfl W.heap.size rfl (HO1.out.alloc (.cells #[.int .i64 x.n] 3)) rfl (Src.one (w := W1) Try.underlying130 rfl) (by omega) (by simp; omega) ?_; intro A' c' w' ho' hg')
          go_roundw
          case rel =>
            refine ⟨i + 1, A', c', by omega, by go_num, rfl, hid ⟨?_, ?_, ?_⟩⟩
            · rw [take_snoc HX.out, List.map_append, List.map_append]
              exact ho'
            · exact Below.grown (HB1.out.alloc hz1 _) hg' (by simp; omega) (fun k hk => (HO1.out.block k hk).1)
            · rw [wl_take HX.out, fitB_snoc, HI.out.2.2]
              simp [HXB.out.1, HXB.out.2]
          case measure => simp [intOf]; omega
        · have hq : ((x.d.length : Int) != 128) = true := by simp; omega
          have HF : Hid (fitB D.sure.length (wl ws) = false) := hid (fitB_bad hmw (by simp [h2]))
          have hq1 : decide ((D.sure.length : Int) ≤ x.n) = false := by simp; omega
          clear h2 hmw
          go_wp2_with fail
          go_quiet ((go_at_call 112; exact Calls.quiet_of_same (HSEC.out _)))
          go_wp2_with fail
          go_ret2
          exact ⟨below_drewN HBN.out _, .inr ⟨HF.out, rfl⟩⟩
      · have hq1 : decide ((D.sure.length : Int) ≤ x.n) = true := by simp; omega
        have HF : Hid (fitB D.sure.length (wl ws) = false) := hid (fitB_bad hmw (by simp; omega))
        have h3 : (D.sure.length : Int) ≤ x.n := by omega
        clear h1 hmw
        go_wp2_with fail
        go_quiet ((go_at_call 112; exact Calls.quiet_of_same (HSEC.out _)))
        go_wp2_with fail
        go_ret2
        exact ⟨below_drewN HBN.out _, .inr ⟨HF.out, rfl⟩⟩
    · have hk : i = ws.length := by omega
      subst hk
      obtain ⟨ho, hb, hf⟩ := HI.out
      rw [List.take_length] at ho hf
      have hg := good_any B (ws.map (·.n)) cb wr ho.cells (by simpa using ho.le.1) (by simp; omega)
      rw [List.length_map] at hg
      have HG := hid hg
      have HO := hid ho
      have HB := hid hb
      have HF := hid hf
      clear ho hb hf hg hlt hi
      go_wp2_with fail
      refine HG.out.mono ?_
      rintro e w2 ⟨rfl, hw⟩
      obtain rfl : wr = w2 := hw.symm
      go_wp2_with fail
      go_ret2
      exact ⟨HB.out, .inl ⟨HF.out, B, cb, rfl, HO.out⟩⟩
end Go.Proofs.Ytppbcdcmpcagdaa
