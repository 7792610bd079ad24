/- Contract of redo's Recover. -/
import Derived.Test.YtppbcdcmpcagdaaRedoE
namespace Go.Proofs.Ytppbcdcmpcagdaa
open Go.RowKit Go.CP

/-- What is gathered behind what is there. -/
def comb (pre : List Wt) (p : Int × List Wt) : Int × List Wt := if p.1 ≠ 0 then (p.1, []) else (0, pre ++ p.2)
theorem comb_comb (a b : List Wt) (p : Int × List Wt) : comb a (comb b p) = comb (a ++ b) p := by
  unfold comb
  by_cases h : p.1 = 0 <;> simp [h]
theorem gather_stop {D : Drv} {i : Nat} {n : Int} (r : List Int) (h : (D.sure.length : Int) ≤ n) : gather D i (n :: r) = (2, []) := by rw [gather, if_pos h]
theorem gather_err {D : Drv} {i : Nat} {n e : Int} {b : List UInt8} (r : List Int) (h : ¬ (D.sure.length : Int) ≤ n) (hg : D.get (2 + i : Nat) = (e, b)) (he : e ≠ 0) : gather D i (n :: r) = (e, []) := by
  rw [gather, if_neg h, hg]
  exact if_pos he
theorem gather_go {D : Drv} {i : Nat} {n : Int} {b : List UInt8} (r : List Int) (h : ¬ (D.sure.length : Int) ≤ n) (hg : D.get (2 + i : Nat) = (0, b)) : gather D i (n :: r) = comb [(n, b)] (gather D (i + 1) r) := by
  rw [gather, if_neg h, hg]
  unfold comb
  dsimp only
  by_cases hq : (gather D (i + 1) r).1 = 0 <;> simp [hq]
theorem gather_empty : ∀ (l : List Int) {D : Drv} {i : Nat}, (gather D i l).1 ≠ 0 → (gather D i l).2 = []
  | [], _, _, h => absurd rfl h
  | n :: r, D, i, h => by
    by_cases h1 : (D.sure.length : Int) ≤ n
    · rw [gather_stop r h1]
    · obtain ⟨e, b, hg⟩ : ∃ e b, D.get (2 + i : Nat) = (e, b) := ⟨_, _, rfl⟩
      by_cases he : e = 0
      · subst he
        rw [gather_go r h1 hg] at h ⊢
        unfold comb at h ⊢
        by_cases hq : (gather D (i + 1) r).1 = 0
        · simp [hq] at h
        · simp [hq]
      · rw [gather_err r h1 hg he]
theorem comb_nil (l : List Int) (D : Drv) (i : Nat) : comb [] (gather D i l) = gather D i l := by
  unfold comb
  by_cases h : (gather D i l).1 = 0
  · rw [if_neg (by simp [h])]
    exact Prod.ext h.symm rfl
  · rw [if_pos h]
    exact Prod.ext rfl (gather_empty l h).symm
theorem recover_of {D : Drv} {x : Int} {l : List Int} {e : Int} {ws : List Wt} (hx : D.waits = (x, l)) (hg : gather D 0 l = (e, ws)) : D.recover = if x ≠ 0 ∨ l = [] then (x, D) else if e ≠ 0 then (e, D) else D.home ws := by
  rw [Drv.recover, hx]
  dsimp only
  rw [hg]
theorem waits_len {D : Drv} {x : Int} {l : List Int} (h : D.waits = (x, l)) : l.length ≤ 24 := by
  obtain ⟨e, b, hg⟩ : ∃ e b, D.get 1 = (e, b) := ⟨_, _, rfl⟩
  rw [waits_of hg] at h
  by_cases he : e = 0
  · rw [if_neg (by simp [he])] at h
    cases hh : headsL b with
    | none => rw [hh] at h; cases h; simp
    | some k => rw [hh] at h; cases h; exact goodB_len (headsL_some hh).1
  · rw [if_pos he] at h
    cases h
    simp
/-- No drive. -/
theorem recover_nil (W : World) : Calls Try.prog 124 #[.pointer none] W fun e W' => e = .returned (.int .i64 1) ∧ W' = W := by
  go_enter Try.func124, Try.ntmps124
  go_wp2
  go_ret
  exact ⟨rfl, rfl⟩
/-- What a recovery has gathered, in memory. -/
def Got (wr : World) (base : Nat) (D : Drv) (l : List Int) (i : Nat) (E : Option Addr) (ce : Nat) : Prop :=
  ∃ pre : List Wri, pre.length = i ∧ Go.CP.Own wr base 136 2 E i ce (pre.flatMap wcells) ∧ (∀ x ∈ pre, ∃ k, x.a = some ⟨k, 0, none⟩ ∧ base ≤ k ∧ wr.heap[k]? = some (.cells (x.d.map bv).toArray 214 (0, 0)) ∧ x.d.length ≤ x.c) ∧ gather D 0 l = comb (wl pre) (gather D i (l.drop i))
set_option maxHeartbeats 4000000 in
set_option maxRecDepth 100000 in
theorem recover_any (W : World) (g s : Nat) (A : Option Addr) (c : Nat) (D : Drv) (h : DriveIs W g s A c D) (hf : Fit D 5000) :
    Calls Try.prog 124 #[.pointer (some ⟨g, 0, none⟩)] W (RetDrv W g s A D.recover) := by
  obtain ⟨x, l, hx⟩ : ∃ x l, D.waits = (x, l) := ⟨_, _, rfl⟩
  obtain ⟨e0, ws, hga⟩ : ∃ e ws, gather D 0 l = (e, ws) := ⟨_, _, rfl⟩
  have HC := hid (recover_of hx hga)
  have hl24 := waits_len hx
  have hp := waits_any W g s A c D h hf.sure (Nat.le_trans hf.list (by decide))
  rw [hx] at hp
  have HP := hid hp
  have HH := hid h
  have HGA := hid hga
  clear hp h hx hga
  go_enter Try.func124, Try.ntmps124
  go_wp2_with fail
  refine HP.out.mono ?_
  clear HP
  rintro e w1 ⟨hb1, ⟨hx0, B, cb, rfl, ho1⟩ | ⟨hx0, hx1, rfl⟩⟩
  · dsimp only at hx0 ho1
    subst hx0
    by_cases hl0 : l = []
    · have HC1 := hid (HC.out.trans (if_pos (.inr hl0)))
      subst hl0
      have HE := hid (show DriveIs w1 g s A c D ∧ Drove W w1 g s A A from ⟨HH.out.below hb1 (Nat.le_refl _), Drove.of_below hb1⟩)
      clear hb1 ho1
      go_wp2_with fail
      go_ret
      rw [HC1.out]
      exact ⟨rfl, A, c, HE.out⟩
    · have HC1 := hid (HC.out.trans (if_neg (by simp [hl0])))
      have hlp : 0 < l.length := by cases l with | nil => exact absurd rfl hl0 | cons a b => simp
      have hq0 : ((l.length : Int) == 0) = false := by simp; omega
      have HB1 := hid hb1
      have HO1 := hid ho1
      clear hb1 ho1 hl0 HC
      dsimp only
      go_wp2_with fail
      go_loopw [5, 27] (fun ov iv' wr => ∃ (i : Nat) (E : Option Addr) (ce : Nat), i ≤ l.length ∧ iv' = .int .i64 i ∧ ov = .slice E i ce ∧ Hid (Got wr w1.heap.size D l i E ce ∧ Below w1.heap.size w1 wr)) (fun _ iv' _ => l.length - (intOf iv').toNat)
      case atStart => exact ⟨0, none, 0, by omega, rfl, rfl, hid ⟨⟨[], rfl, Go.CP.Own.none _ _ _ _, (fun x hx => by cases hx), by rw [List.drop_zero]; exact (comb_nil _ _ _).symm⟩, Below.refl _ _⟩⟩
      case round =>
        obtain ⟨i, E, ce, hi, rfl, rfl, HI⟩ := hrel
        obtain ⟨⟨pre, hpl, hpo, hpr, hpg⟩, hbi⟩ := HI.out
        have hb0i := below_t HB1.out hbi HB1.out.size
        have hdi := HH.out.below hb0i (Nat.le_refl _)
        by_cases hlt : i < l.length
        · obtain ⟨y, hy⟩ := get_of_lt l hlt
          obtain ⟨b1, o1, rfl, hc1⟩ := Ints.openq (Cells.below HO1.out.cells hbi (Nat.le_refl _)) (by omega)
          have hd1 := hc1 i y hy
          have hdrop : l.drop i = y :: l.drop (i + 1) := by rw [List.drop_eq_getElem_cons hlt, (List.getElem?_eq_some_iff.1 hy).2]
          rw [hdrop] at hpg
          have HSEC := hid (sectors_any wr g _ _ _ _ _ _ hdi.head)
          have HPG := hid hpg
          have HDI := hid hdi
          have HBI := hid hb0i
          have HPL := hid hpl
          have HPO := hid hpo
          have HPR := hid hpr
          have HBX := hid hbi
          clear hc1 hy hdrop hpg hdi hb0i hpl hpo hpr hbi HI
          by_cases hsy : (D.sure.length : Int) ≤ y
          · have HG2 : Hid (e0 = 2) := hid (by
              have := HGA.out.symm.trans HPG.out
              rw [gather_stop _ hsy, comb, if_pos (by decide)] at this
              exact congrArg Prod.fst this)
            have HC2 := hid (HC1.out.trans (if_pos (by rw [HG2.out]; decide)))
            go_wp2_with fail
            refine HSEC.out.mono ?_
            rintro e w2 ⟨rfl, hw⟩
            obtain rfl : wr = w2 := hw.symm
            go_wp2_with fail
            go_ret
            rw [HC2.out, HG2.out]
            exact ⟨rfl, A, c, HDI.out, Drove.of_below HBI.out⟩
          · obtain ⟨e1, b, hge⟩ : ∃ e1 b, D.get (2 + i : Nat) = (e1, b) := ⟨_, _, rfl⟩
            have hp := drv_get wr g s A c D HDI.out (2 + i : Nat) hf.sure (Nat.le_trans hf.list (by decide))
            rw [hge, show ((2 + i : Nat) : Int) = 2 + (i : Int) by omega] at hp
            have HP := hid hp
            have HGE := hid hge
            have HSY := hid hsy
            have hi24 : (i : Int) ≤ 24 := by omega
            have hsy2 : ¬ (D.sure.length : Int) ≤ y := hsy
            clear hp hge hsy
            go_wp2_with fail
            refine HSEC.out.mono ?_
            rintro e w2 ⟨rfl, hw⟩
            obtain rfl : wr = w2 := hw.symm
            clear hw
            go_wp2_with fail
            refine HP.out.mono ?_
            clear HP HSEC
            rintro e w3 ⟨hb3, ⟨he0, hbl, k, rfl, hk, hxk⟩ | ⟨he0, hb0, rfl⟩⟩
            · dsimp only at he0 hbl hxk
              subst he0
              have HPG2 := hid (HPG.out.trans ((congrArg (comb (wl pre)) (gather_go _ (by have := HSY.out; omega) HGE.out)).trans (comb_comb _ _ _)))
              have hz3 := hb3.size
              have hz1 := HBX.out.size
              have HOW := hid ((HPO.out.below hb3 (Nat.le_refl _)).alloc (.cells #[.int .i64 y, .slice (some ⟨k, 0, none⟩) 128 128] 136))
              have HSR := hid (Src.row (P := Try.prog) (w := w3) (z := .agg #[.int .i64 0, .slice none 0 0]) (sz := 2) (m := 1) (c := 1) (e := 136) #[.int .i64 y, .slice (some ⟨k, 0, none⟩) 128 128] Try.underlying149 rfl (by simp [Value.oneCell']))
              have HB3 := hid hb3
              have HXK := hid hxk
              have HBL := hid hbl
              have hkb : wr.heap.size ≤ k := hk
              clear hb3 hxk hbl hk HPG HGE
              go_wp2_with (at_builtin; refine ap_wrs rfl _ _ 149 rfl w1.heap.size rfl HOW.out rfl HSR.out (by omega) (by simp; omega) ?_; intro E' ce' w' ho' hg')
              go_roundw
              case rel =>
                refine ⟨i + 1, E', ce', by omega, by go_num, rfl, hid ⟨⟨pre ++ [⟨y, some ⟨k, 0, none⟩, b, 128⟩], by simp [HPL.out], ?_, ?_, ?_⟩, ?_⟩⟩
                · rw [List.flatMap_append, List.flatMap_singleton]
                  have e : wcells ⟨y, some ⟨k, 0, none⟩, b, 128⟩ = [.int .i64 y, .slice (some ⟨k, 0, none⟩) 128 128] := by rw [wcells, HBL.out]
                  rw [e]
                  exact ho'
                · have hrow : ∀ q, blockOf E = some q → ∃ C, wr.heap[q]? = some (.cells C 136 (0, 0)) := fun q hq => by
                    rcases HPO.out.2 with ⟨rfl, _⟩ | ⟨q', C, rfl, _, hC, _⟩
                    · cases hq
                    · cases hq; exact ⟨C, hC⟩
                  intro z hz
                  rcases List.mem_append.1 hz with hz | hz
                  · obtain ⟨q, z1, z2, z3, z4⟩ := HPR.out z hz
                    have hql := (Array.getElem?_eq_some_iff.1 z3).1
                    refine ⟨q, z1, z2, ?_, z4⟩
                    rw [hg'.block q (by simp; omega) (fun e => by obtain ⟨C, hC⟩ := hrow q e.symm; rw [z3] at hC; cases hC)]
                    exact (Below.heap_alloc _ _ _ (by omega)).trans ((HB3.out.block q hql).trans z3)
                  · rw [List.mem_singleton.1 hz]
                    have hkl := (Array.getElem?_eq_some_iff.1 HXK.out).1
                    refine ⟨k, rfl, by omega, ?_, by dsimp only; rw [HBL.out]; exact Nat.le_refl _⟩
                    rw [hg'.block k (by simp; omega) (fun e => by have := (HPO.out.block k e.symm).2; omega)]
                    exact (Below.heap_alloc _ _ _ hkl).trans HXK.out
                · rw [HPG2.out]
                  simp [wl]
                · exact Below.grown (((HBX.out.trans (HB3.out.mono hz1))).alloc (by omega) _) hg' (by simp; omega) (fun q hq => (HPO.out.block q hq).1)
              case measure => simp [intOf]; omega
            · dsimp only at he0 hb0
              have hq : (e1 != 0) = true := by simpa using he0
              have HG2 : Hid (e0 = e1) := hid (by
                have := HGA.out.symm.trans HPG.out
                rw [gather_err _ (by have := HSY.out; omega) HGE.out he0, comb, if_pos he0] at this
                exact congrArg Prod.fst this)
              have HC2 := hid (HC1.out.trans (if_pos (by rw [HG2.out]; exact he0)))
              have HE := hid (show DriveIs w3 g s A c D ∧ Drove W w3 g s A A from ⟨HDI.out.below hb3 (Nat.le_refl _), Drove.of_below (below_t HBI.out hb3 HBI.out.size)⟩)
              clear he0 hb3
              go_wp2_with fail
              go_ret
              rw [HC2.out, HG2.out]
              exact ⟨rfl, A, c, HE.out⟩
        · have hk : i = l.length := by omega
          subst hk
          have HG2 : Hid (e0 = 0 ∧ ws = wl pre) := hid (by
            have := HGA.out.symm.trans hpg
            rw [List.drop_length, gather, comb, if_neg (by decide), List.append_nil] at this
            exact ⟨congrArg Prod.fst this, congrArg Prod.snd this⟩)
          have HC2 := hid (HC1.out.trans (if_neg (by rw [HG2.out.1]; decide)))
          have hd1 := HH.out.below HB1.out (Nat.le_refl _)
          have hfd : Feed wr g s A E pre := ⟨hpo.cells, fun y hy => by
              obtain ⟨q, e, -, hq, -⟩ := hpr y hy
              rw [e]; exact block_bytes hq, fun _ => far_new hd1 fun q hq => (hpo.block q hq).1, fun y hy _ => by
              obtain ⟨q, e, hbq, -, -⟩ := hpr y hy
              rw [e]; exact far_new hd1 fun j hj => by simp [blockOf] at hj; omega, fun y hy => by
              obtain ⟨q, -, -, -, hc⟩ := hpr y hy
              exact hc⟩
          have hp := home_any wr g s A c D hdi (hf.mono (by decide)) E pre ce hfd (by omega)
          rw [hpl, ← HG2.out.2] at hp
          have HP := hid hp
          have HBI := hid hb0i
          clear hp hfd hdi hb0i hpg hpo hpr hbi HI hlt hi hpl
          go_wp2_with fail
          refine HP.out.mono ?_
          rintro e w3 ⟨rfl, A3, c3, hd3, hv3⟩
          have HE := hid (show DriveIs w3 g s A3 c3 (D.home ws).2 ∧ Drove W w3 g s A A3 from ⟨hd3, (Drove.of_below HBI.out).trans hv3⟩)
          clear hd3 hv3
          go_wp2_with fail
          go_ret
          rw [HC2.out]
          exact ⟨rfl, A3, c3, HE.out⟩
  · dsimp only at hx0 hx1
    have hq : (x != 0) = true := by simpa using hx0
    have HC1 := hid (HC.out.trans (if_pos (.inl hx0)))
    have HE := hid (show DriveIs w1 g s A c D ∧ Drove W w1 g s A A from ⟨HH.out.below hb1 (Nat.le_refl _), Drove.of_below hb1⟩)
    clear hx0 hb1
    go_wp2_with fail
    go_ret
    rw [HC1.out]
    exact ⟨rfl, A, c, HE.out⟩
end Go.Proofs.Ytppbcdcmpcagdaa
