/- Contracts of redo's waits, mark, home. -/
import Derived.Test.YtppbcdcmpcagdaaRedoG
import Derived.Test.YtppbcdcmpcagdaaDriveW
namespace Go.Proofs.Ytppbcdcmpcagdaa
open Go.RowKit Go.CP

/-- A drive whose numbers are in bounds. -/
structure Fit (D : Drv) (N : Nat) : Prop where
  lo : -1 ≤ D.fuse
  up : D.fuse ≤ 9223372036854775807
  list : D.list.length ≤ N
  sure : D.sure.length ≤ 1000000
theorem Fit.mono {D : Drv} {N M : Nat} (h : Fit D N) (hn : N ≤ M) : Fit D M := ⟨h.lo, h.up, Nat.le_trans h.list hn, h.sure⟩
theorem putGo_fit (ws : List Wt) : ∀ {D : Drv} {N : Nat}, Fit D N → Fit (putGo D ws).2 (N + ws.length) ∧ (putGo D ws).2.sure.length = D.sure.length := by
  induction ws with
  | nil => intro D N h; exact ⟨h, rfl⟩
  | cons x ws ih =>
    intro D N h
    rw [putGo]
    split
    · exact ⟨⟨h.lo, h.up, Nat.le_trans h.list (by omega), h.sure⟩, rfl⟩
    · have h2 : Fit { D.less with list := D.list ++ [x] } (N + 1) := by
        refine ⟨?_, ?_, ?_, h.sure⟩
        · show -1 ≤ max (D.fuse - 1) (-1); omega
        · show max (D.fuse - 1) (-1) ≤ 9223372036854775807; have := h.up; omega
        · show (D.list ++ [x]).length ≤ _; rw [List.length_append]; have := h.list; simp; omega
      obtain ⟨h3, h4⟩ := ih h2
      exact ⟨h3.mono (by rw [List.length_cons]; omega), h4⟩
theorem Fit.put {D : Drv} {N : Nat} (h : Fit D N) (ws : List Wt) : Fit (D.put ws).2 (N + ws.length) ∧ (D.put ws).2.sure.length = D.sure.length := by
  unfold Drv.put
  split
  · exact ⟨h.mono (by omega), rfl⟩
  · split
    · exact ⟨h.mono (by omega), rfl⟩
    · split
      · exact ⟨h.mono (by omega), rfl⟩
      · exact putGo_fit ws h
theorem Fit.flush {D : Drv} {N : Nat} (h : Fit D N) : Fit D.flush.2 N ∧ D.flush.2.sure.length = D.sure.length := by
  unfold Drv.flush
  split
  · exact ⟨h, rfl⟩
  · split
    · exact ⟨⟨h.lo, h.up, h.list, h.sure⟩, rfl⟩
    · refine ⟨⟨?_, ?_, by simp, ?_⟩, setAll_len _ _⟩
      · show -1 ≤ max (D.fuse - 1) (-1); omega
      · show max (D.fuse - 1) (-1) ≤ 9223372036854775807; have := h.up; omega
      · show (setAll D.sure D.list).length ≤ _; rw [setAll_len]; exact h.sure
theorem Fit.mark {D : Drv} {N : Nat} (h : Fit D N) (l : List Int) : Fit (D.mark l).2 (N + 1) ∧ (D.mark l).2.sure.length = D.sure.length := by
  unfold Drv.mark
  split
  · obtain ⟨h1, h2⟩ := h.put [(1, headL l)]
    generalize D.put [(1, headL l)] = p at *
    obtain ⟨e, D1⟩ := p
    dsimp only at *
    split
    · exact ⟨h1.flush.1, h1.flush.2.trans h2⟩
    · exact ⟨h1, h2⟩
  · exact ⟨h.mono (by omega), rfl⟩
theorem Fit.home {D : Drv} {N : Nat} (h : Fit D N) (ws : List Wt) : Fit (D.home ws).2 (N + ws.length + 1) ∧ (D.home ws).2.sure.length = D.sure.length := by
  obtain ⟨h1, h2⟩ := h.put ws
  unfold Drv.home
  dsimp only
  split
  · exact ⟨h1.mono (by omega), h2⟩
  · obtain ⟨h3, h4⟩ := h1.flush
    split
    · exact ⟨h3.mono (by omega), h4.trans h2⟩
    · obtain ⟨h5, h6⟩ := h3.mark []
      exact ⟨h5, h6.trans (h4.trans h2)⟩

/-- What waits hands back. -/
def RetNums (W : World) (r : Int × List Int) (e : Ending) (W' : World) : Prop :=
  Below W.heap.size W W' ∧ ((r.1 = 0 ∧ ∃ B c, e = .returned (.tuple #[.slice B r.2.length c, .int .i64 0]) ∧ Go.CP.Own W' W.heap.size 3 1 B r.2.length c (r.2.map iv)) ∨ (r.1 ≠ 0 ∧ r.2 = [] ∧ e = .returned (.tuple #[.slice none 0 0, .int .i64 r.1])))
theorem waits_of {D : Drv} {e : Int} {b : List UInt8} (h : D.get 1 = (e, b)) : D.waits = if e ≠ 0 then (e, []) else match headsL b with | some l => (0, l) | none => (2, []) := by
  rw [Drv.waits, h]
  rfl
set_option maxHeartbeats 1000000 in
theorem waits_any (W : World) (g s : Nat) (A : Option Addr) (c : Nat) (D : Drv) (h : DriveIs W g s A c D) (hsl : D.sure.length ≤ 1000000) (hll : D.list.length ≤ 1000000000000) :
    Calls Try.prog 173 #[.pointer (some ⟨g, 0, none⟩)] W (RetNums W D.waits) := by
  obtain ⟨x, b, hg⟩ : ∃ x b, D.get 1 = (x, b) := ⟨_, _, rfl⟩
  have hp := drv_get W g s A c D h 1 hsl hll
  rw [hg] at hp
  have HW := hid (waits_of hg)
  have HP := hid hp
  clear hp h hg
  go_enter Try.func173, Try.ntmps173
  go_wp2_with fail
  refine HP.out.mono ?_
  clear HP
  rintro e w1 ⟨hb1, ⟨h0, hl, k, rfl, hk, hx⟩ | ⟨h0, h1, rfl⟩⟩
  · dsimp only at h0 hl hx
    subst h0
    have hh := heads_any (some ⟨k, 0, none⟩) b 128 w1 (block_bytes hx)
    rw [hl] at hh
    have HH := hid hh
    have HB1 := hid hb1
    clear hh hx hb1 hl
    go_wp2_with fail
    refine HH.out.mono ?_
    clear HH
    rintro e w2 ⟨hb2, ⟨l, B, c2, hr, rfl, ho⟩ | ⟨hr, rfl⟩⟩
    · have HR := hid hr
      have HO := hid ho
      clear hr ho
      go_wp2
      go_ret2
      rw [HW.out, if_neg (by decide), HR.out]
      exact ⟨below_t HB1.out hb2 HB1.out.size, .inl ⟨rfl, B, c2, rfl, HO.out.mono HB1.out.size⟩⟩
    · have HR := hid hr
      clear hr
      go_wp2
      go_ret2
      rw [HW.out, if_neg (by decide), HR.out]
      exact ⟨below_t HB1.out hb2 HB1.out.size, .inr ⟨by decide, rfl, rfl⟩⟩
  · dsimp only at h0 h1
    have hq : (x != 0) = true := by simpa using h0
    have H0 := hid h0
    clear h0
    go_wp2
    go_ret2
    rw [HW.out, if_pos H0.out]
    exact ⟨hb1, .inr ⟨H0.out, rfl, rfl⟩⟩

theorem mark_of {D D1 : Drv} {l : List Int} {e : Int} (hg : goodB l = true) (h : D.put [(1, headL l)] = (e, D1)) : D.mark l = if e = 0 then D1.flush else (e, D1) := by
  rw [Drv.mark, if_pos hg, h]
set_option maxHeartbeats 1000000 in
set_option maxRecDepth 100000 in
theorem mark_any (W : World) (g s : Nat) (A : Option Addr) (c : Nat) (D : Drv) (h : DriveIs W g s A c D) (hf : Fit D 1000000) (LA : Option Addr) (l : List Int) (cl : Nat) (hi : Ints W LA l) (hlc : l.length ≤ cl) (hll : l.length ≤ 140737488351232) :
    Calls Try.prog 174 #[.pointer (some ⟨g, 0, none⟩), .slice LA l.length cl] W (RetDrv W g s A (D.mark l)) := by
  cases hg : goodB l with
  | false =>
    have HP := hid (head_err LA l cl W hi hlc hll hg)
    have HM : Hid (D.mark l = (1, D)) := hid (by rw [Drv.mark, hg]; rfl)
    have HH := hid h
    clear hg h hi
    go_enter Try.func174, Try.ntmps174
    go_wp2_with fail
    refine HP.out.mono ?_
    rintro e w1 ⟨rfl, hw⟩
    obtain rfl : W = w1 := hw.symm
    go_wp2
    go_ret
    rw [HM.out]
    exact ⟨rfl, A, c, HH.out, Drove.refl _ _ _ _⟩
  | true =>
    have HP := hid (head_ok LA l cl W hi hlc hg)
    have HGB := hid hg
    have HH := hid h
    clear hg h hi
    go_enter Try.func174, Try.ntmps174
    go_wp2_with fail
    refine HP.out.mono ?_
    clear HP
    rintro e w1 ⟨B, cb, rfl, ho, hb1⟩
    obtain ⟨e1, D1, hpe⟩ : ∃ e1 D1, D.put [(1, headL l)] = (e1, D1) := ⟨_, _, rfl⟩
    have hlen := headL_len (goodB_len HGB.out)
    have hd1 := HH.out.below hb1 (Nat.le_refl _)
    have hsf : Safe w1 A g s B (headL l) := Safe.mk' ho.cells (by rw [hlen]; decide) (far_new HH.out fun k hk => (ho.block k hk).1)
    have hp := put1 w1 g s A c D hd1 hf.lo hf.up hf.list 1 B (headL l) cb hsf (by rw [hlen]; exact ho.le.1)
    rw [hlen, hpe] at hp
    have hf1 : Fit D1 (1000000 + 1) := by have := (hf.put [(1, headL l)]).1; rw [hpe] at this; exact this
    have HP := hid hp
    have HM := hid (mark_of HGB.out hpe)
    have HB1 := hid hb1
    clear hp hsf hd1 hlen ho hb1 hpe
    by_cases h0 : e1 = 0
    · subst h0
      have HM0 := hid (HM.out.trans (if_pos rfl))
      go_wp2_with fail
      refine HP.out.mono ?_
      clear HP
      rintro e w2 ⟨rfl, A2, c2, hd2, hv2⟩
      have HP := hid (drv_flush w2 g s A2 c2 D1 hd2 hf1.lo hf1.up (Nat.le_trans hf1.list (by decide)))
      have HV := hid ((Drove.of_below HB1.out).trans hv2)
      clear hd2 hv2
      go_wp2_with fail
      refine HP.out.mono ?_
      clear HP
      rintro e w3 ⟨rfl, A3, c3, hd3, hv3⟩
      have HE := hid (show DriveIs w3 g s A3 c3 D1.flush.2 ∧ Drove W w3 g s A A3 from ⟨hd3, HV.out.trans hv3⟩)
      clear hd3 hv3
      go_wp2
      go_ret
      rw [HM0.out]
      exact ⟨rfl, A3, c3, HE.out⟩
    · have hq : (e1 == 0) = false := by simpa using h0
      have H0 := hid h0
      clear h0
      go_wp2_with fail
      refine HP.out.mono ?_
      clear HP
      rintro e w2 ⟨rfl, A2, c2, hd2, hv2⟩
      have HE := hid (show DriveIs w2 g s A2 c2 D1 ∧ Drove W w2 g s A A2 from ⟨hd2, (Drove.of_below HB1.out).trans hv2⟩)
      clear hd2 hv2
      go_wp2
      go_ret
      rw [HM.out, if_neg H0.out]
      exact ⟨rfl, A2, c2, HE.out⟩

theorem home_of {D D1 D2 : Drv} {ws : List Wt} {e1 e2 : Int} (h1 : D.put ws = (e1, D1)) (h2 : D1.flush = (e2, D2)) : D.home ws = if e1 ≠ 0 then (e1, D1) else if e2 ≠ 0 then (e2, D2) else D2.mark [] := by
  rw [Drv.home, h1]
  dsimp only
  split
  · rfl
  · rw [h2]
set_option maxHeartbeats 1000000 in
set_option maxRecDepth 100000 in
theorem home_any (W : World) (g s : Nat) (A : Option Addr) (c : Nat) (D : Drv) (h : DriveIs W g s A c D) (hf : Fit D 10000) (LA : Option Addr) (ws : List Wri) (cw : Nat) (hw : Feed W g s A LA ws) (hn : ws.length ≤ 10000) :
    Calls Try.prog 175 #[.pointer (some ⟨g, 0, none⟩), .slice LA ws.length cw] W (RetDrv W g s A (D.home (wl ws))) := by
  obtain ⟨e1, D1, hpe⟩ : ∃ e1 D1, D.put (wl ws) = (e1, D1) := ⟨_, _, rfl⟩
  obtain ⟨e2, D2, hfe⟩ : ∃ e2 D2, D1.flush = (e2, D2) := ⟨_, _, rfl⟩
  have hp := drv_put W g s A c D h hf.lo hf.up LA ws cw hw (by have := hf.list; omega)
  rw [hpe] at hp
  have hwl : (wl ws).length = ws.length := by simp [wl]
  have hf1 : Fit D1 20000 := by have := (hf.put (wl ws)).1; rw [hpe] at this; exact this.mono (by rw [hwl]; omega)
  have hf2 : Fit D2 20000 := by have := hf1.flush.1; rw [hfe] at this; exact this
  have HP := hid hp
  have HM := hid (home_of hpe hfe)
  have HFE := hid hfe
  clear hp hpe hfe h hw hwl
  go_enter Try.func175, Try.ntmps175
  go_wp2_with fail
  refine HP.out.mono ?_
  clear HP
  rintro e w1 ⟨rfl, A1, c1, hd1, hv1⟩
  by_cases h0 : e1 = 0
  · subst h0
    have hp := drv_flush w1 g s A1 c1 D1 hd1 hf1.lo hf1.up (Nat.le_trans hf1.list (by decide))
    rw [HFE.out] at hp
    have HP := hid hp
    have HV := hid hv1
    clear hp hd1 hv1
    go_wp2_with fail
    refine HP.out.mono ?_
    clear HP
    rintro e w2 ⟨rfl, A2, c2, hd2, hv2⟩
    by_cases h1 : e2 = 0
    · subst h1
      have HP := hid (mark_any w2 g s A2 c2 D2 hd2 (hf2.mono (by decide)) none [] 0 (Cells.nil _ _) (Nat.le_refl _) (by decide))
      have HV2 := hid (HV.out.trans hv2)
      clear hd2 hv2
      go_wp2_with fail
      refine HP.out.mono ?_
      clear HP
      rintro e w3 ⟨rfl, A3, c3, hd3, hv3⟩
      have HE := hid (show DriveIs w3 g s A3 c3 (D2.mark []).2 ∧ Drove W w3 g s A A3 from ⟨hd3, HV2.out.trans hv3⟩)
      clear hd3 hv3
      go_wp2
      go_ret
      rw [HM.out, if_neg (by decide), if_neg (by decide)]
      exact ⟨rfl, A3, c3, HE.out⟩
    · have hq : (e2 != 0) = true := by simpa using h1
      have H1 := hid h1
      have HE := hid (show DriveIs w2 g s A2 c2 D2 ∧ Drove W w2 g s A A2 from ⟨hd2, HV.out.trans hv2⟩)
      clear h1 hd2 hv2
      go_wp2
      go_ret
      rw [HM.out, if_neg (by decide), if_pos H1.out]
      exact ⟨rfl, A2, c2, HE.out⟩
  · have hq : (e1 != 0) = true := by simpa using h0
    have H0 := hid h0
    have HE := hid (show DriveIs w1 g s A1 c1 D1 ∧ Drove W w1 g s A A1 from ⟨hd1, hv1⟩)
    clear h0 hd1 hv1
    go_wp2
    go_ret
    rw [HM.out, if_pos H0.out]
    exact ⟨rfl, A1, c1, HE.out⟩
end Go.Proofs.Ytppbcdcmpcagdaa
