/- Contract of redo's Commit. -/
import Derived.Test.YtppbcdcmpcagdaaRedoD
namespace Go.Proofs.Ytppbcdcmpcagdaa
open Go.RowKit Go.CP

/-- A row that is there, and none of a drive's. -/
def SafeC (W : World) (A : Option Addr) (g s : Nat) (X : Option Addr) (xs : List Value) : Prop := Cells W X xs ∧ (0 < xs.length → Far X A g s)
theorem SafeC.drove {W W' : World} {A A' X : Option Addr} {g s : Nat} {xs : List Value} (h : SafeC W A g s X xs) (hd : Drove W W' g s A A') : SafeC W' A' g s X xs :=
  ⟨hd.cells' h.1 h.2, fun h0 => hd.far (h.2 h0) (Cells.lt h.1 h0)⟩
theorem Feed.drove {W W' : World} {A A' LA : Option Addr} {g s : Nat} {ws : List Wri} (h : Feed W g s A LA ws) (hd : Drove W W' g s A A') : Feed W' g s A' LA ws := by
  have hl : 0 < ws.length → 0 < (ws.flatMap wcells).length := fun h0 => by rw [flatMap_len wcells 2 ws fun _ _ => rfl]; omega
  have hl' : 0 < (ws.flatMap wcells).length → 0 < ws.length := fun h0 => by rw [flatMap_len wcells 2 ws fun _ _ => rfl] at h0; omega
  exact ⟨hd.cells' h.list fun h0 => h.far (hl' h0), fun x hx => hd.cells' (h.rows x hx) fun h0 => h.fars x hx (by simpa using h0), fun h0 => hd.far (h.far h0) (Cells.lt h.list (hl h0)),
    fun x hx h0 => hd.far (h.fars x hx h0) (Cells.lt (h.rows x hx) (by simpa using h0)), h.caps⟩
theorem Feed.below {W W' : World} {A LA : Option Addr} {g s : Nat} {ws : List Wri} (h : Feed W g s A LA ws) (hb : Below W.heap.size W W') : Feed W' g s A LA ws := h.drove (Drove.of_below hb)

theorem info136 : Try.prog.info? 136 = some Try.t136 := by kernel_rfl
theorem ap_wrs {w : World} {ops : Array Oper} {rest : List Oper} {o : Oper} {a : Act} {Q : Exit → Act → World → Prop} (hgd : o.guard = none) (s x : Operand) (tx : TypeId)
    (ho : o.op = .call { callee := .builtin .append, args := #[s, x], argTypes := #[149, tx] }) (base : Nat)
    {A : Option Addr} {n c : Nat} {xs : List Value} (hs : a.eval s = .slice A n c) (hown : Go.CP.Own w base 136 2 A n c xs)
    {vx : Value} {m : Nat} {news : List Value} (hvx : a.eval x = vx) (hx : Src Try.prog w 2 (.agg #[.int .i64 0, .slice none 0 0]) tx vx m news)
    (hbytes : (n + m) * 32 ≤ 225000000000000) (hbase : base ≤ w.heap.size)
    (h : ∀ A' c' w', Go.CP.Own w' base 136 2 A' (n + m) c' (xs ++ news) → w.grownBy w' (blockOf A) → wpList Try.prog ops Q rest (a.put o.dst (.slice A' (n + m) c')) w') : wpList Try.prog ops Q (o :: rest) a w :=
  wpList_append_Own w hgd s x 149 tx ho base 136 Try.t136 (.agg #[.int .i64 0, .slice none 0 0]) 2 32 Try.underlying149 info136 (by kernel_rfl) (by kernel_rfl) (by kernel_rfl) rfl (by decide) (by decide) (by decide) A n c xs hs hown vx m news hvx hx hbytes hbase h
/-- The writes into the log's body. -/
def bodyAt (ws : List Wri) (j : Nat) : Wri := { ws.getD j ⟨0, none, [], 0⟩ with n := ((2 + j : Nat) : Int) }
def bodyTo (ws : List Wri) (i : Nat) : List Wri := (List.range i).map (bodyAt ws)
theorem bodyTo_len (ws : List Wri) (i : Nat) : (bodyTo ws i).length = i := by simp [bodyTo]
theorem bodyTo_succ {ws : List Wri} {i : Nat} {x : Wri} (h : ws[i]? = some x) : bodyTo ws (i + 1) = bodyTo ws i ++ [⟨((2 + i : Nat) : Int), x.a, x.d, x.c⟩] := by
  rw [bodyTo, List.range_succ, List.map_append]
  simp only [List.map_cons, List.map_nil, bodyAt]
  rw [List.getD_eq_getElem?_getD, h]
  rfl
theorem bodyTo_wl (ws : List Wri) : wl (bodyTo ws ws.length) = bodyW (wl ws) := by
  rw [wl, bodyTo, bodyW, List.map_map, show (wl ws).length = ws.length by simp [wl]]
  refine List.map_congr_left fun i hi => ?_
  have hl := List.mem_range.1 hi
  simp only [Function.comp, bodyAt, wl, List.getD_eq_getElem?_getD, List.getElem?_map, List.getElem?_eq_getElem hl]
  rfl
theorem bodyTo_mem {ws : List Wri} {i : Nat} (hi : i ≤ ws.length) {y : Wri} (h : y ∈ bodyTo ws i) : ∃ x ∈ ws, y.a = x.a ∧ y.d = x.d ∧ y.c = x.c := by
  obtain ⟨j, hj, rfl⟩ := List.mem_map.1 h
  have hl : j < ws.length := by have := List.mem_range.1 hj; omega
  refine ⟨ws[j], List.getElem_mem hl, ?_⟩
  simp only [bodyAt, List.getD_eq_getElem?_getD, List.getElem?_eq_getElem hl]
  exact ⟨rfl, rfl, rfl⟩
theorem commit_of {D D1 D2 D3 : Drv} {ws : List Wt} {x : Int} {l : List Int} {e1 e2 e3 : Int} (hw : ws ≠ []) (h0 : targB D.sure.length ws = true) (hx : D.waits = (x, l)) (h1 : D.put (bodyW ws) = (e1, D1)) (h2 : D1.flush = (e2, D2)) (h3 : D2.mark (ws.map (·.1)) = (e3, D3)) :
    D.commit ws = if x ≠ 0 then (x, D) else if e1 ≠ 0 then (e1, D1) else if e2 ≠ 0 then (e2, D2) else if e3 ≠ 0 then (e3, D3) else D3.home ws := by
  rw [Drv.commit, if_neg hw, if_pos h0, hx, h1]
  dsimp only
  rw [h2]
  dsimp only
  rw [h3]
theorem wl_ne {ws : List Wri} (h : ws ≠ []) : wl ws ≠ [] := by
  cases ws with
  | nil => exact absurd rfl h
  | cons x l => simp [wl]
theorem wl_nums (ws : List Wri) : (wl ws).map (·.1) = ws.map (·.n) := by simp [wl]
/-- No drive. -/
theorem commit_nil (v : Value) (W : World) : Calls Try.prog 122 #[.pointer none, v] W fun e W' => e = .returned (.int .i64 1) ∧ W' = W := by
  go_enter Try.func122, Try.ntmps122
  go_wp2
  go_ret
  exact ⟨rfl, rfl⟩
/-- Nothing to commit. -/
theorem commit_none (W : World) (g : Nat) (LA : Option Addr) (cw : Nat) : Calls Try.prog 122 #[.pointer (some ⟨g, 0, none⟩), .slice LA 0 cw] W fun e W' => e = .returned (.int .i64 0) ∧ W' = W := by
  go_enter Try.func122, Try.ntmps122
  go_wp2
  go_ret
  exact ⟨rfl, rfl⟩
set_option maxHeartbeats 4000000 in
set_option maxRecDepth 100000 in
theorem commit_full (W : World) (g s : Nat) (A : Option Addr) (c : Nat) (D : Drv) (h : DriveIs W g s A c D) (hf : Fit D 5000) (LA : Option Addr) (ws : List Wri) (cw : Nat) (hw : Feed W g s A LA ws) (hn : ws.length ≤ 10000000000000) (hne : ws ≠ []) :
    Calls Try.prog 122 #[.pointer (some ⟨g, 0, none⟩), .slice LA ws.length cw] W (RetDrv W g s A (D.commit (wl ws))) := by
  have h0l : 0 < ws.length := by cases ws with | nil => exact absurd rfl hne | cons x l => simp
  have HT := hid (targets_any W g s A c D h LA ws cw hw.list hn)
  have HH := hid h
  have HW := hid hw
  have HNE := hid (wl_ne hne)
  have hq0 : ((ws.length : Int) == 0) = false := by simp; omega
  clear h hw hne
  go_enter Try.func122, Try.ntmps122
  go_wp2_with fail
  refine HT.out.mono ?_
  clear HT
  rintro e w1 ⟨hb1, ⟨hfb, B, cb, rfl, ho1⟩ | ⟨hfb, rfl⟩⟩
  · cases hgb : goodB (ws.map (·.n)) with
    | false =>
      have HC : Hid (D.commit (wl ws) = (1, D)) := hid (by
        rw [Drv.commit, if_neg HNE.out, if_neg]
        simp [targB, wl_nums, hgb])
      have HE := hid (show DriveIs w1 g s A c D ∧ Drove W w1 g s A A from ⟨HH.out.below hb1 (Nat.le_refl _), Drove.of_below hb1⟩)
      clear hgb hfb ho1 hb1
      go_wp2_with fail
      go_ret
      rw [HC.out]
      exact ⟨rfl, A, c, HE.out⟩
    | true =>
      have h24 : ws.length ≤ 24 := by simpa using goodB_len hgb
      have hd1 := HH.out.below hb1 (Nat.le_refl _)
      obtain ⟨x, l, hx⟩ : ∃ x l, D.waits = (x, l) := ⟨_, _, rfl⟩
      obtain ⟨e1, D1, h1⟩ : ∃ e1 D1, D.put (bodyW (wl ws)) = (e1, D1) := ⟨_, _, rfl⟩
      obtain ⟨e2, D2, h2⟩ : ∃ e2 D2, D1.flush = (e2, D2) := ⟨_, _, rfl⟩
      obtain ⟨e3, D3, h3⟩ : ∃ e3 D3, D2.mark ((wl ws).map (·.1)) = (e3, D3) := ⟨_, _, rfl⟩
      have HC := hid (commit_of HNE.out (by rw [targB, hfb, wl_nums, hgb]; rfl) hx h1 h2 h3)
      have hp := waits_any w1 g s A c D hd1 hf.sure (Nat.le_trans hf.list (by decide))
      rw [hx] at hp
      have HP := hid hp
      have hbl : (bodyW (wl ws)).length = ws.length := by simp [bodyW, wl]
      have hf1 : Fit D1 5100 := by have := (hf.put (bodyW (wl ws))).1; rw [h1] at this; exact this.mono (by rw [hbl]; omega)
      have hf2 : Fit D2 5100 := by have := hf1.flush.1; rw [h2] at this; exact this
      have hf3 : Fit D3 5101 := by have := (hf2.mark ((wl ws).map (·.1))).1; rw [h3] at this; exact this
      have H1 := hid h1
      have H2 := hid h2
      have H3 := hid h3
      have HW1 := hid (HW.out.below hb1)
      have HNU : Hid (SafeC w1 A g s B ((ws.map (·.n)).map iv)) := hid ⟨ho1.cells, fun _ => far_new HH.out fun k hk => (ho1.block k hk).1⟩
      have HD1 := hid hd1
      have HB1 := hid hb1
      have HOL := hid ho1.le.1
      clear hgb hfb ho1 hd1 hx h1 h2 h3 hp hb1 HW
      go_wp2_with fail
      refine HP.out.mono ?_
      clear HP
      rintro e w2 ⟨hb2, ⟨hx0, B2, c2, rfl, -⟩ | ⟨hx0, -, rfl⟩⟩
      · dsimp only at hx0
        subst hx0
        have HC1 := hid (HC.out.trans (if_neg (by decide)))
        have HD2 := hid (HD1.out.below hb2 (Nat.le_refl _))
        have HW2 := hid (HW1.out.below hb2)
        have HNU2 := hid (HNU.out.drove (Drove.of_below hb2))
        have HB2 := hid (below_t HB1.out hb2 HB1.out.size)
        clear HC hb2 HD1 HW1 HNU HB1
        go_wp2_with fail
        go_loopw [9, 38] (fun ov iv' wr => ∃ (i : Nat) (E : Option Addr) (ce : Nat), i ≤ ws.length ∧ iv' = .int .i64 i ∧ ov = .slice E i ce ∧ Hid (Go.CP.Own wr w2.heap.size 136 2 E i ce ((bodyTo ws i).flatMap wcells) ∧ Below w2.heap.size w2 wr)) (fun _ iv' _ => ws.length - (intOf iv').toNat)
        case atStart => exact ⟨0, none, 0, by omega, rfl, rfl, hid ⟨Go.CP.Own.none _ _ _ _, Below.refl _ _⟩⟩
        case round =>
          obtain ⟨i, E, ce, hi, rfl, rfl, HI⟩ := hrel
          by_cases hlt : i < ws.length
          · obtain ⟨x, hx⟩ := get_of_lt ws hlt
            obtain ⟨lb, lo, rfl, lc0, lc1⟩ := Wrs.at (Cells.below HW2.out.list HI.out.2 (Nat.le_refl _)) hx
            have HX := hid hx
            have hzz := HI.out.2.size
            have hson := HI.out.1.alloc (.cells #[.int .i64 x.n, .slice x.a x.d.length x.c] 136)
            have HON := hid (hson.alloc (.cells #[.int .i64 (2 + (i : Int)), .slice x.a x.d.length x.c] 136))
            have hsr := (Src.row (P := Try.prog) (w := wr.alloc (.cells #[.int .i64 x.n, .slice x.a x.d.length x.c] 136)) (z := .agg #[.int .i64 0, .slice none 0 0]) (sz := 2) (m := 1) (c := 1) (e := 136) #[.int .i64 (2 + (i : Int)), .slice x.a x.d.length x.c] Try.underlying149 rfl (by simp [Value.oneCell']))
            rw [World.size_alloc] at hsr
            have HSR := hid hsr
            clear hsr
            have hi24 : (i : Int) ≤ 24 := by omega
            clear hx hson
            go_wp2_with (at_builtin; refine ap_wrs rfl _ _ 149 rfl w2.heap.size rfl HON.out rfl HSR.out (by omega) (by simp; omega) ?_; intro E' ce' w' ho' hg')
            go_roundw
            case rel =>
              refine ⟨i + 1, E', ce', by omega, by go_num, rfl, hid ⟨?_, ?_⟩⟩
              · rw [bodyTo_succ HX.out, List.flatMap_append, List.flatMap_singleton]
                exact ho'
              · exact Below.grown ((HI.out.2.alloc hzz _).alloc (by simp; omega) _) hg' (by simp; omega) (fun k hk => (HI.out.1.block k hk).1)
            case measure => simp [intOf]; omega
          · have hk : i = ws.length := by omega
            subst hk
            have hzz := HI.out.2.size
            have hdr := HD2.out.below HI.out.2 (Nat.le_refl _)
            have hwr := HW2.out.below HI.out.2
            have hfd : Feed wr g s A E (bodyTo ws ws.length) := ⟨HI.out.1.cells, fun y hy => by
                obtain ⟨x, hx, ea, ed, ec⟩ := bodyTo_mem (Nat.le_refl _) hy
                rw [ea, ed]; exact hwr.rows x hx, fun _ => far_new HD2.out fun k hk => (HI.out.1.block k hk).1, fun y hy h0 => by
                obtain ⟨x, hx, ea, ed, ec⟩ := bodyTo_mem (Nat.le_refl _) hy
                rw [ea]; exact hwr.fars x hx (by rw [← ed]; exact h0), fun y hy => by
                obtain ⟨x, hx, ea, ed, ec⟩ := bodyTo_mem (Nat.le_refl _) hy
                rw [ed, ec]; exact hwr.caps x hx⟩
            have hp := drv_put wr g s A c D hdr hf.lo hf.up E (bodyTo ws ws.length) ce hfd (by rw [bodyTo_len]; have := hf.list; omega)
            rw [bodyTo_len, bodyTo_wl, H1.out] at hp
            have HP := hid hp
            have HWR := hid hwr
            have HNUR := hid (HNU2.out.drove (Drove.of_below HI.out.2))
            have HBR := hid (below_t HB2.out HI.out.2 HB2.out.size)
            clear hp hfd hdr hwr hlt hi hzz
            go_wp2_with fail
            refine HP.out.mono ?_
            clear HP
            rintro e w3 ⟨rfl, A3, c3, hd3, hv3⟩
            by_cases h1 : e1 = 0
            · subst h1
              have HC2 := hid (HC1.out.trans (if_neg (by decide)))
              have HW3 := hid (HWR.out.drove hv3)
              have HNU3 := hid (HNUR.out.drove hv3)
              have hv03 : Drove W w3 g s A A3 := (Drove.of_below HBR.out).trans hv3
              have hp := drv_flush w3 g s A3 c3 D1 hd3 hf1.lo hf1.up (Nat.le_trans hf1.list (by decide))
              rw [H2.out] at hp
              have HP := hid hp
              have HV3 := hid hv03
              clear hp hd3 hv3 hv03
              go_wp2_with fail
              refine HP.out.mono ?_
              clear HP
              rintro e w4 ⟨rfl, A4, c4, hd4, hv4⟩
              by_cases h2 : e2 = 0
              · subst h2
                have HC3 := hid (HC2.out.trans (if_neg (by decide)))
                have HW4 := hid (HW3.out.drove hv4)
                have HNU4 := hid (HNU3.out.drove hv4)
                have hp := mark_any w4 g s A4 c4 D2 hd4 (hf2.mono (by decide)) B (ws.map (·.n)) cb HNU4.out.1 (by rw [List.length_map]; exact HOL.out) (by rw [List.length_map]; omega)
                rw [List.length_map, ← wl_nums, H3.out] at hp
                have HP := hid hp
                have HV4 := hid (HV3.out.trans hv4)
                clear hp hd4 hv4
                go_wp2_with fail
                refine HP.out.mono ?_
                clear HP
                rintro e w5 ⟨rfl, A5, c5, hd5, hv5⟩
                by_cases h3 : e3 = 0
                · subst h3
                  have HC4 := hid (HC3.out.trans (if_neg (by decide)))
                  have hp := home_any w5 g s A5 c5 D3 hd5 (hf3.mono (by decide)) LA ws cw (HW4.out.drove hv5) (by omega)
                  have HP := hid hp
                  have HV5 := hid (HV4.out.trans hv5)
                  clear hp hd5 hv5
                  go_wp2_with fail
                  refine HP.out.mono ?_
                  clear HP
                  rintro e w6 ⟨rfl, A6, c6, hd6, hv6⟩
                  have HE := hid (show DriveIs w6 g s A6 c6 (D3.home (wl ws)).2 ∧ Drove W w6 g s A A6 from ⟨hd6, HV5.out.trans hv6⟩)
                  clear hd6 hv6
                  go_wp2
                  go_ret
                  rw [HC4.out]
                  exact ⟨rfl, A6, c6, HE.out⟩
                · have hq : (e3 != 0) = true := by simpa using h3
                  have HC4 := hid (HC3.out.trans (if_pos h3))
                  have HE := hid (show DriveIs w5 g s A5 c5 D3 ∧ Drove W w5 g s A A5 from ⟨hd5, HV4.out.trans hv5⟩)
                  clear h3 hd5 hv5
                  go_wp2
                  go_ret
                  rw [HC4.out]
                  exact ⟨rfl, A5, c5, HE.out⟩
              · have hq : (e2 != 0) = true := by simpa using h2
                have HC3 := hid (HC2.out.trans (if_pos h2))
                have HE := hid (show DriveIs w4 g s A4 c4 D2 ∧ Drove W w4 g s A A4 from ⟨hd4, HV3.out.trans hv4⟩)
                clear h2 hd4 hv4
                go_wp2
                go_ret
                rw [HC3.out]
                exact ⟨rfl, A4, c4, HE.out⟩
            · have hq : (e1 != 0) = true := by simpa using h1
              have HC2 := hid (HC1.out.trans (if_pos h1))
              have HE := hid (show DriveIs w3 g s A3 c3 D1 ∧ Drove W w3 g s A A3 from ⟨hd3, (Drove.of_below HBR.out).trans hv3⟩)
              clear h1 hd3 hv3
              go_wp2
              go_ret
              rw [HC2.out]
              exact ⟨rfl, A3, c3, HE.out⟩
      · dsimp only at hx0
        have hq : (x != 0) = true := by simpa using hx0
        have HC1 := hid (HC.out.trans (if_pos hx0))
        have HE := hid (show DriveIs w2 g s A c D ∧ Drove W w2 g s A A from ⟨HD1.out.below hb2 (Nat.le_refl _), Drove.of_below (below_t HB1.out hb2 HB1.out.size)⟩)
        clear hx0 hb2
        go_wp2
        go_ret
        rw [HC1.out]
        exact ⟨rfl, A, c, HE.out⟩
  · have HC : Hid (D.commit (wl ws) = (1, D)) := hid (by
      rw [Drv.commit, if_neg HNE.out, if_neg]
      simp [targB, hfb])
    have HE := hid (show DriveIs w1 g s A c D ∧ Drove W w1 g s A A from ⟨HH.out.below hb1 (Nat.le_refl _), Drove.of_below hb1⟩)
    clear hfb hb1
    go_wp2_with fail
    go_ret
    rw [HC.out]
    exact ⟨rfl, A, c, HE.out⟩
theorem commit_any (W : World) (g s : Nat) (A : Option Addr) (c : Nat) (D : Drv) (h : DriveIs W g s A c D) (hf : Fit D 5000) (LA : Option Addr) (ws : List Wri) (cw : Nat) (hw : Feed W g s A LA ws) (hn : ws.length ≤ 10000000000000) :
    Calls Try.prog 122 #[.pointer (some ⟨g, 0, none⟩), .slice LA ws.length cw] W (RetDrv W g s A (D.commit (wl ws))) := by
  by_cases hne : ws = []
  · subst hne
    exact (commit_none W g LA cw).mono fun e W' ⟨h1, h2⟩ => by
      subst h2
      exact ⟨h1, A, c, h, Drove.refl _ _ _ _⟩
  · exact commit_full W g s A c D h hf LA ws cw hw hn hne
theorem Fit.commit {D : Drv} {N : Nat} (h : Fit D N) (ws : List Wt) : Fit (D.commit ws).2 (N + 2 * ws.length + 2) ∧ (D.commit ws).2.sure.length = D.sure.length := by
  unfold Drv.commit
  split
  · exact ⟨h.mono (by omega), rfl⟩
  · split
    · split
      · exact ⟨h.mono (by omega), rfl⟩
      · obtain ⟨h1, h2⟩ := h.put (bodyW ws)
        have hbl : (bodyW ws).length = ws.length := by simp [bodyW]
        rw [hbl] at h1
        generalize D.put (bodyW ws) = p at *
        obtain ⟨e, D1⟩ := p
        dsimp only at *
        split
        · exact ⟨h1.mono (by omega), h2⟩
        · obtain ⟨h3, h4⟩ := h1.flush
          generalize D1.flush = p at *
          obtain ⟨e2, D2⟩ := p
          dsimp only at *
          split
          · exact ⟨h3.mono (by omega), h4.trans h2⟩
          · obtain ⟨h5, h6⟩ := h3.mark (ws.map (·.1))
            generalize D2.mark (ws.map (·.1)) = p at *
            obtain ⟨e3, D3⟩ := p
            dsimp only at *
            split
            · exact ⟨h5.mono (by omega), h6.trans (h4.trans h2)⟩
            · obtain ⟨h7, h8⟩ := h5.home ws
              exact ⟨h7.mono (by omega), h8.trans (h6.trans (h4.trans h2))⟩
    · exact ⟨h.mono (by omega), rfl⟩
end Go.Proofs.Ytppbcdcmpcagdaa
