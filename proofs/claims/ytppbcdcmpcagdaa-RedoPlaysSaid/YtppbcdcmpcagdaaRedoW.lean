/- A drive with a log at rest: what a commit and a recovery do to it; contracts of begin and of awake (copyholdlaw06). -/
import Derived.Test.YtppbcdcmpcagdaaRedoF
namespace Go.Proofs.Ytppbcdcmpcagdaa
open Go.RowKit Go.CP

/-- A drive with an empty log, with power and without a fuse, for which nothing waits. -/
structure Calm (D : Drv) : Prop where
  dead : D.dead = false
  fuse : D.fuse = -1
  list : D.list = []
  len : 64 ≤ D.sure.length ∧ D.sure.length ≤ 1024
  head : D.sure.getD 1 [] = headL []
theorem Calm.fit {D : Drv} (h : Calm D) (N : Nat) : Fit D N := ⟨by rw [h.fuse]; decide, by rw [h.fuse]; decide, by rw [h.list]; simp, by have := h.len; omega⟩
theorem putGo_calm (ws : List Wt) : ∀ D : Drv, D.fuse = -1 → putGo D ws = (0, { D with list := D.list ++ ws }) := by
  induction ws with
  | nil => intro D _; simp [putGo]
  | cons x ws ih =>
    intro D hf
    have e : ({ D.less with list := D.list ++ [x] } : Drv) = { D with list := D.list ++ [x] } := by
      obtain ⟨a, b, c, d⟩ := D
      simp only at hf
      subst hf
      rfl
    rw [putGo, if_neg (by rw [hf]; decide), e]
    have := ih { D with list := D.list ++ [x] } hf
    simpa using this
theorem put_calm {D : Drv} (hd : D.dead = false) (hf : D.fuse = -1) (ws : List Wt) (ho : outB D.sure.length ws = false) (hl : lenB ws = false) : D.put ws = (0, { D with list := D.list ++ ws }) := by
  rw [Drv.put, if_neg (by simp [hd]), if_neg (by simp [ho]), if_neg (by simp [hl])]
  exact putGo_calm ws D hf
theorem flush_calm {D : Drv} (hd : D.dead = false) (hf : D.fuse = -1) : D.flush = (0, { D with sure := setAll D.sure D.list, list := [] }) := by
  rw [Drv.flush, if_neg (by simp [hd]), if_neg (by rw [hf]; decide)]
  obtain ⟨a, b, c, d⟩ := D
  simp only at hf
  subst hf
  rfl
/-- Writes and a flush. -/
theorem write_calm {D : Drv} (hd : D.dead = false) (hf : D.fuse = -1) (hl : D.list = []) (ws : List Wt) (ho : outB D.sure.length ws = false) (hlb : lenB ws = false) :
    D.put ws = (0, { D with list := ws }) ∧ (Drv.flush { D with list := ws }) = (0, { D with sure := setAll D.sure ws, list := [] }) := by
  constructor
  · rw [put_calm hd hf ws ho hlb, hl]
    rfl
  · exact flush_calm (D := { D with list := ws }) hd hf
theorem mark_calm {D : Drv} (hd : D.dead = false) (hf : D.fuse = -1) (hl : D.list = []) (h2 : 2 ≤ D.sure.length) {l : List Int} (hg : goodB l = true) : D.mark l = (0, { D with sure := D.sure.set 1 (headL l), list := [] }) := by
  obtain ⟨h1, h3⟩ := write_calm hd hf hl [(1, headL l)] (by simp [outB]; omega) (by simp [lenB, headL_len (goodB_len hg)])
  rw [mark_of hg h1, if_pos rfl, h3]
  rfl
theorem fitB_iff {n : Nat} {ws : List Wt} : fitB n ws = true ↔ ∀ x ∈ ws, x.1 < n ∧ x.2.length = 128 := by simp [fitB]
theorem targ_ok {n : Nat} {ws : List Wt} (h : targB n ws = true) : (∀ x ∈ ws, x.1 < n ∧ x.2.length = 128) ∧ goodB (ws.map (·.1)) = true ∧ ∀ x ∈ ws, okN x.1 = true := by
  unfold targB at h
  simp only [Bool.and_eq_true] at h
  refine ⟨fitB_iff.1 h.1, h.2, fun x hx => ?_⟩
  obtain ⟨i, hi⟩ := List.mem_iff_getElem?.1 hx
  exact goodB_ok h.2 (i := i) (by rw [List.getElem?_map, hi]; rfl)
theorem outB_of {n : Nat} {ws : List Wt} (h : ∀ x ∈ ws, 0 ≤ x.1 ∧ x.1 < n) : outB n ws = false := by
  unfold outB
  rw [List.any_eq_false]
  intro x hx
  have := h x hx
  simp
  omega
theorem lenB_of {ws : List Wt} (h : ∀ x ∈ ws, x.2.length = 128) : lenB ws = false := by
  unfold lenB
  rw [List.any_eq_false]
  intro x hx
  simp [h x hx]
theorem bodyW_mem {ws : List Wt} {y : Wt} (h : y ∈ bodyW ws) : ∃ j, j < ws.length ∧ y.1 = ((2 + j : Nat) : Int) ∧ ∃ x ∈ ws, y.2 = x.2 := by
  unfold bodyW at h
  obtain ⟨j, hj, rfl⟩ := List.mem_map.1 h
  have hl := List.mem_range.1 hj
  exact ⟨j, hl, rfl, ws[j], List.getElem_mem hl, by simp [List.getD_eq_getElem?_getD, List.getElem?_eq_getElem hl]⟩
/-- The sectors behind a commit. -/
def doneS (s : List (List UInt8)) (ws : List Wt) : List (List UInt8) := (setAll ((setAll s (bodyW ws)).set 1 (headL (ws.map (·.1)))) ws).set 1 (headL [])
theorem waits_calm {D : Drv} (h : Calm D) : D.waits = (0, []) := by
  have hl := h.len
  have hg : D.get 1 = (0, headL []) := by
    rw [Drv.get, h.dead, if_neg (by simp), if_neg (by omega), Drv.at, h.list]
    exact congrArg (Prod.mk (0 : Int)) h.head
  rw [waits_of hg, if_neg (by simp), headsL_head goodB_nil]
theorem commit_calm {D : Drv} (h : Calm D) {ws : List Wt} (hne : ws ≠ []) (ht : targB D.sure.length ws = true) : D.commit ws = (0, { D with sure := doneS D.sure ws }) := by
  obtain ⟨h1, h2, h3⟩ := targ_ok ht
  have hl := h.len
  have h24 : ws.length ≤ 24 := by simpa using goodB_len h2
  have hb := write_calm h.dead h.fuse h.list (bodyW ws) (outB_of fun y hy => by obtain ⟨j, hj, e, -⟩ := bodyW_mem hy; omega) (lenB_of fun y hy => by obtain ⟨j, hj, -, x, hx, e⟩ := bodyW_mem hy; rw [e]; exact (h1 x hx).2)
  have hm := mark_calm (D := { D with sure := setAll D.sure (bodyW ws), list := [] }) h.dead h.fuse rfl (by show 2 ≤ (setAll D.sure (bodyW ws)).length; rw [setAll_len]; omega) h2
  rw [commit_of hne ht (waits_calm h) hb.1 hb.2 hm, if_neg (by decide), if_neg (by decide), if_neg (by decide), if_neg (by decide)]
  have hw := write_calm (D := { D with sure := (setAll D.sure (bodyW ws)).set 1 (headL (ws.map (·.1))), list := [] }) h.dead h.fuse rfl ws
    (by show outB ((setAll D.sure (bodyW ws)).set 1 (headL (ws.map (·.1)))).length ws = false; rw [List.length_set, setAll_len]; exact outB_of fun x hx => ⟨(okN_iff.1 (h3 x hx)).1, (h1 x hx).1⟩) (lenB_of fun x hx => (h1 x hx).2)
  rw [home_of hw.1 hw.2, if_neg (by decide), if_neg (by decide)]
  rw [mark_calm (D := { D with sure := setAll ((setAll D.sure (bodyW ws)).set 1 (headL (ws.map (·.1)))) ws, list := [] }) h.dead h.fuse rfl (by show 2 ≤ (setAll ((setAll D.sure (bodyW ws)).set 1 _) ws).length; rw [setAll_len, List.length_set, setAll_len]; omega) goodB_nil]
  refine congrArg (Prod.mk (0 : Int)) ?_
  have := h.list
  obtain ⟨a, b, c, d⟩ := D
  simp only at this
  subst this
  rfl
theorem doneS_len (s : List (List UInt8)) (ws : List Wt) : (doneS s ws).length = s.length := by rw [doneS, List.length_set, setAll_len, List.length_set, setAll_len]
theorem lastL_body {ws : List Wt} (h : ws.length ≤ 24) {i : Nat} (hi : i < 2 ∨ 26 ≤ i) : lastL i (bodyW ws) = none := lastL_none fun y hy => by
  obtain ⟨j, hj, e, -⟩ := bodyW_mem hy
  omega
/-- What a sector holds behind a commit: the last that was written, or what it held. -/
theorem doneS_at {s : List (List UInt8)} {ws : List Wt} (_hn : 26 ≤ s.length) (ht : targB s.length ws = true) {i : Nat} (hi : i < s.length) (hlog : i = 0 ∨ 26 ≤ i) : (doneS s ws).getD i [] = (lastL i ws).getD (s.getD i []) := by
  obtain ⟨h1, h2, h3⟩ := targ_ok ht
  have h24 : ws.length ≤ 24 := by simpa using goodB_len h2
  have hne : (1 : Nat) ≠ i := by omega
  rw [doneS, getD_set _ _ _ _ (by rw [setAll_len, List.length_set, setAll_len]; exact hi), if_neg hne]
  rw [setAll_getD ws i _ (fun x hx => (okN_iff.1 (h3 x hx)).1) (by rw [List.length_set, setAll_len]; exact hi)]
  rw [getD_set _ _ _ _ (by rw [setAll_len]; exact hi), if_neg hne]
  rw [setAll_getD (bodyW ws) i _ (fun y hy => by obtain ⟨j, -, e, -⟩ := bodyW_mem hy; omega) hi, lastL_body h24 (by omega)]
  rfl
theorem Calm.done {D : Drv} (h : Calm D) (ws : List Wt) : Calm { D with sure := doneS D.sure ws } := by
  have hl := h.len
  have hd : (doneS D.sure ws).getD 1 [] = headL [] := by
    rw [doneS, getD_set _ _ _ _ (by rw [setAll_len, List.length_set, setAll_len]; omega), if_pos rfl]
  exact ⟨h.dead, h.fuse, h.list, by show 64 ≤ (doneS D.sure ws).length ∧ _; rw [doneS_len]; exact hl, hd⟩
theorem recover_calm {D : Drv} (h : Calm D) : D.recover = (0, D) := by
  rw [recover_of (waits_calm h) (e := 0) (ws := []) rfl, if_pos (.inr rfl)]
theorem commit_nil_calm (D : Drv) : D.commit [] = (0, D) := by rw [Drv.commit, if_pos rfl]
/-- A drive with a log. -/
def logD (n : Nat) : Drv := ⟨(Drv.new n).sure.set 1 (headL []), [], -1, false⟩
theorem logD_calm {n : Nat} (h1 : 64 ≤ n) (h2 : n ≤ 1024) : Calm (logD n) := by
  refine ⟨rfl, rfl, rfl, by simp [logD, Drv.new]; omega, ?_⟩
  show ((Drv.new n).sure.set 1 (headL [])).getD 1 [] = _
  rw [getD_set _ _ _ _ (by simp [Drv.new]; omega), if_pos rfl]
theorem logD_len (n : Nat) : (logD n).sure.length = n := by simp [logD, Drv.new]
theorem log_made {n : Nat} (h1 : 64 ≤ n) : (Drv.new n).put [(1, headL [])] = (0, { Drv.new n with list := [(1, headL [])] }) ∧ (Drv.flush { Drv.new n with list := [(1, headL [])] }) = (0, logD n) := by
  have := write_calm (D := Drv.new n) rfl rfl rfl [(1, headL [])] (by simp [outB, Drv.new]; omega) (by simp [lenB, headL_len])
  refine ⟨this.1, this.2.trans ?_⟩
  rfl

set_option maxHeartbeats 1000000 in
set_option maxRecDepth 100000 in
theorem begin_any (n : Nat) (w : World) (h1 : 64 ≤ n) (h2 : n ≤ 1024) : Calls Try.prog 120 #[.int .i64 n] w fun e w' =>
    ∃ g s A c, e = .returned (.pointer (some ⟨g, 0, none⟩)) ∧ DriveIs w' g s A c (logD n) ∧ Below w.heap.size w w' ∧ w.heap.size ≤ g ∧ w.heap.size ≤ s ∧ ∀ k, blockOf A = some k → w.heap.size ≤ k := by
  have HN := hid (new_drive n w h1 h2)
  have HM := hid (log_made h1)
  have h2i : (n : Int) ≤ 1024 := by omega
  go_enter Try.func120, Try.ntmps120
  go_wp2_with fail
  refine HN.out.mono ?_
  rintro e w1 ⟨g, s, rfl, hd1, hb1, hg, hs⟩
  have HD1 := hid hd1
  have HP := hid (head_ok none [] 0 w1 (Cells.nil _ _) (Nat.le_refl _) goodB_nil)
  clear hd1
  go_wp2_with fail
  refine HP.out.mono ?_
  clear HP
  rintro e w2 ⟨B, cb, rfl, ho2, hb2⟩
  have hlen : (headL []).length = 128 := headL_len (by decide)
  have hd2 := HD1.out.below hb2 (Nat.le_refl _)
  have hs2 : Safe w2 none g s B (headL []) := Safe.mk' ho2.cells (by rw [hlen]; decide) (far_new HD1.out fun k hk => (ho2.block k hk).1)
  have hp := put1 w2 g s none 0 (Drv.new n) hd2 (by show (-1 : Int) ≤ -1; decide) (by show (-1 : Int) ≤ 9223372036854775807; decide) (by show (0 : Nat) ≤ _; decide) 1 B (headL []) cb hs2 (by rw [hlen]; exact ho2.le.1)
  rw [hlen, HM.out.1] at hp
  have HP := hid hp
  have HB2 := hid hb2
  clear hp hs2 hd2 ho2 hb2 hlen
  go_wp2_with fail
  refine HP.out.mono ?_
  clear HP
  rintro e w3 ⟨rfl, A3, c3, hd3, hv3⟩
  have hp := drv_flush w3 g s A3 c3 _ hd3 (by show (-1 : Int) ≤ -1; decide) (by show (-1 : Int) ≤ 9223372036854775807; decide) (by show (1 : Nat) ≤ _; decide)
  rw [HM.out.2] at hp
  have HP := hid hp
  have HV3 : Hid (Drove w1 w3 g s none A3) := hid ((Drove.of_below HB2.out).trans hv3)
  clear hp hd3 hv3
  go_wp2_with fail
  refine HP.out.mono ?_
  clear HP
  rintro e w4 ⟨rfl, A4, c4, hd4, hv4⟩
  have HV4 := hid (HV3.out.trans hv4)
  have HD4 := hid hd4
  clear hd4 hv4
  go_wp2_with fail
  go_ret
  refine ⟨g, s, A4, c4, rfl, HD4.out, HV4.out.back hb1 hg hs, hg, hs, fun k hk => ?_⟩
  rcases HV4.out.2.2 k hk with e | e
  · cases e
  · exact Nat.le_trans hb1.size e
theorem commit_lit (W : World) (g s : Nat) (A : Option Addr) (c : Nat) (D : Drv) (h : DriveIs W g s A c D) (hf : Fit D 5000) (ws : List Wri)
    (hs : ∀ x ∈ ws, Safe W A g s x.a x.d ∧ x.d.length ≤ x.c) (hn : ws.length ≤ 10000000000000) :
    Calls Try.prog 122 #[.pointer (some ⟨g, 0, none⟩), .slice (some ⟨W.heap.size, 0, none⟩) ws.length ws.length] (W.alloc (.cells (ws.flatMap wcells).toArray 136)) (RetDrv W g s A (D.commit (wl ws))) :=
  (commit_any _ g s A c D (h.alloc _) hf _ ws _ (feed_lit h 136 ws hs) hn).mono fun _ _ k => RetDrv.from ((Below.refl _ _).alloc (Nat.le_refl _) _) k
theorem commit1 (W : World) (g s : Nat) (A : Option Addr) (c : Nat) (D : Drv) (h : DriveIs W g s A c D) (hf : Fit D 5000) (n : Int) (X : Option Addr) (l : List UInt8) (cx : Nat) (hs : Safe W A g s X l) (hl : l.length ≤ cx) :
    Calls Try.prog 122 #[.pointer (some ⟨g, 0, none⟩), .slice (some ⟨W.heap.size, 0, none⟩) 1 1] (W.alloc (.cells #[.int .i64 n, .slice X l.length cx] 136)) (RetDrv W g s A (D.commit [(n, l)])) :=
  commit_lit W g s A c D h hf [⟨n, X, l, cx⟩] (fun x hx => by rw [List.mem_singleton.1 hx]; exact ⟨hs, hl⟩) (by simp)
theorem aw6g : goodB [30, 0] = true := by decide
theorem aw6t : targB 64 [(40, headL [30, 0])] = true := by
  have : (headL [30, 0]).length = 128 := headL_len (by decide)
  simp [targB, fitB, this]
  decide
set_option maxHeartbeats 2000000 in
set_option maxRecDepth 100000 in
theorem awake06_any (w : World) : Calls Try.prog 119 #[] w fun e w' => e = .returned (.bool true) ∧ Below w.heap.size w w' := by
  have HP := hid (head_ok (some ⟨w.heap.size, 0, none⟩) [30, 0] 2 (w.alloc (.cells #[.int .i64 30, .int .i64 0] 3)) (ints_lit [30, 0]) (by decide) aw6g)
  have hlen : (headL [30, 0]).length = 128 := headL_len (by decide)
  have HLEN := hid hlen
  clear hlen
  go_enter Try.func119, Try.ntmps119
  go_wp2_with fail
  refine HP.out.mono ?_
  clear HP
  rintro e w1 ⟨B1, c1, rfl, ho1, hb1⟩
  have hp := heads_any B1 (headL [30, 0]) c1 w1 ho1.cells
  rw [HLEN.out, headsL_head aw6g] at hp
  have HP := hid hp
  have HO1 := hid ho1
  have HB1 : Hid (Below w.heap.size w w1) := hid (((Below.refl _ _).alloc (Nat.le_refl _) _).trans (hb1.mono (by simp)))
  clear hp ho1 hb1
  go_wp2_with fail
  refine HP.out.mono ?_
  clear HP
  rintro e w2 ⟨hb2, ⟨l, B2, c2, hr, rfl, ho2⟩ | ⟨hr, -⟩⟩
  · obtain rfl : l = [30, 0] := (Option.some.inj hr).symm
    have HP := hid (begin_any 64 w2 (by decide) (by decide))
    have HO2 := hid ho2
    have HO12 := hid (HO1.out.below hb2 (Nat.le_refl _))
    have HB2 := hid (below_t HB1.out hb2 HB1.out.size)
    clear hr ho2 hb2 HO1 HB1
    go_wp2_with fail
    refine HP.out.mono ?_
    clear HP
    rintro e w3 ⟨g, s, A3, c3, rfl, hd3, hb3, hg, hs, hA⟩
    have ho13 := HO12.out.below hb3 (Nat.le_refl _)
    have ho23 := HO2.out.below hb3 (Nat.le_refl _)
    obtain ⟨q, C, rfl, hq, -, -, -⟩ := ho23.open (by decide)
    have hc0 := own_cell ho23 (j := 0) (v := .int .i64 30) (by rfl)
    have hsf : Safe w3 A3 g s B1 (headL [30, 0]) := Safe.mk' ho13.cells (by rw [HLEN.out]; decide) (fun k hk => by
      have := (HO12.out.block k hk).2
      exact ⟨by omega, by omega, fun e => by have := hA k e; omega⟩)
    have hp := commit1 w3 g s A3 c3 (logD 64) hd3 ((logD_calm (by decide) (by decide)).fit 5000) 40 B1 (headL [30, 0]) c1 hsf (by rw [HLEN.out]; exact HO12.out.le.1)
    rw [HLEN.out, commit_calm (logD_calm (by decide) (by decide)) (by simp) (by rw [logD_len]; exact aw6t)] at hp
    have HP := hid hp
    have HB3 := hid hb3
    clear hp hsf ho13 ho23 hd3 hb3
    go_wp2_with fail
    refine HP.out.mono ?_
    clear HP
    rintro e w4 ⟨rfl, A4, c4, hd4, hv4⟩
    have hcal := (logD_calm (n := 64) (by decide) (by decide)).done [(40, headL [30, 0])]
    have hp := recover_any w4 g s A4 c4 _ hd4 (hcal.fit 5000)
    rw [recover_calm hcal] at hp
    have HP := hid hp
    have HV4 := hid hv4
    clear hp hcal hd4 hv4
    go_wp2_with fail
    refine HP.out.mono ?_
    clear HP
    rintro e w5 ⟨rfl, A5, c5, hd5, hv5⟩
    have HB : Hid (Below w.heap.size w w5) := hid (by
      have h1 := (HV4.out.trans hv5).below (B := w2.heap.size) HB3.out.size hg hs hA
      exact below_t HB2.out (HB3.out.trans h1) HB2.out.size)
    clear hd5 hv5
    go_wp2_with fail
    go_ret
    exact ⟨rfl, HB.out⟩
  · cases hr
end Go.Proofs.Ytppbcdcmpcagdaa
