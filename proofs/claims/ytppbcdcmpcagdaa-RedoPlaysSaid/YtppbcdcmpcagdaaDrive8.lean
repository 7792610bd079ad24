/- Contract of Restart; of Flush, whole. -/
import Derived.Test.YtppbcdcmpcagdaaDrive7
namespace Go.Proofs.Ytppbcdcmpcagdaa
open Go.RowKit Go.CP

theorem drv_flush (W : World) (g s : Nat) (A : Option Addr) (c : Nat) (D : Drv) (h : DriveIs W g s A c D) (hlo : -1 ≤ D.fuse) (hup : D.fuse ≤ 9223372036854775807) (hn : D.list.length ≤ 1000000000000) :
    Calls Try.prog 101 #[.pointer (some ⟨g, 0, none⟩)] W (RetDrv W g s A D.flush) := by
  unfold Drv.flush
  split
  · next hd => exact flush_dead W g s A c D h hd
  · next hd =>
    have hd' : D.dead = false := by simpa using hd
    split
    · next h0 => exact flush_dark W g s A c D h hd' h0
    · next h0 => exact flush_loop W g s A c D h hd' h0 hlo hup hn

theorem kept_at {keep : List Int} {i : Nat} {k : Int} (h : keep[i]? = some k) : kept keep i = (k != 0) := by simp [kept, h]
theorem kept_out {keep : List Int} {i : Nat} (h : keep.length ≤ i) : kept keep i = false := by
  have : keep[i]? = none := by simpa using h
  simp [kept, this]
theorem setKept_take {keep : List Int} {l : List (Int × List UInt8)} {i : Nat} {x : Int × List UInt8} (hx : l[i]? = some x) (s : List (List UInt8)) :
    setKept keep 0 s (l.take (i + 1)) = if kept keep i then (setKept keep 0 s (l.take i)).set x.1.toNat x.2 else setKept keep 0 s (l.take i) := by
  have hi := (List.getElem?_eq_some_iff.1 hx).1
  rw [take_snoc hx, setKept_snoc, Nat.zero_add, List.length_take, Nat.min_eq_left (by omega)]
/-- A drive at rest again: nothing waits, no fuse, power. -/
theorem DriveIs.rest {W : World} {g s : Nat} {A : Option Addr} {c : Nat} {D : Drv} (h : DriveIs W g s A c D) :
    DriveIs (((W.setCell ⟨g, 1, none⟩ (.slice none 0 0)).setCell ⟨g, 2, none⟩ (.int .i64 (-1))).setCell ⟨g, 3, none⟩ (.bool false)) g s none 0 ⟨D.sure, [], -1, false⟩ ∧
      Drove W (((W.setCell ⟨g, 1, none⟩ (.slice none 0 0)).setCell ⟨g, 2, none⟩ (.int .i64 (-1))).setCell ⟨g, 3, none⟩ (.bool false)) g s A none := by
  obtain ⟨h1, h2⟩ := h.clear
  have k2 : Head4 _ g _ _ (-1) D.dead := h1.head.set 2 (.int .i64 (-1))
  have k3 : Head4 _ g _ _ (-1) false := k2.set 3 (.bool false)
  refine ⟨h1.reHead (D' := ⟨D.sure, [], -1, false⟩) k3 (fun k hk => ?_) rfl rfl, h2.trans ((Drove.setHead 2 _).trans (Drove.setHead 3 _))⟩
  exact (Below.heap_setCell _ _ _ _ hk).trans (Below.heap_setCell _ _ _ _ hk)
set_option maxHeartbeats 4000000 in
set_option maxRecDepth 100000 in
theorem drv_restart (W : World) (g s : Nat) (A : Option Addr) (c : Nat) (D : Drv) (h : DriveIs W g s A c D) (hn : D.list.length ≤ 1000000000000)
    (K : Option Addr) (keep : List Int) (ck : Nat) (hk : Ints W K keep) (hkf : 0 < keep.length → Far K A g s) (hkl : keep.length ≤ 140737488351232) :
    Calls Try.prog 102 #[.pointer (some ⟨g, 0, none⟩), .slice K keep.length ck] W fun e W' => e = .returned (.tuple #[]) ∧ DriveIs W' g s none 0 (D.restart keep) ∧ Drove W W' g s A none := by
  have HOK := hid h.2.2.2.1
  have hne : g ≠ s := h.2.2.2.2.1
  have HH := hid h
  have HK := hid hk
  have HKF := hid hkf
  obtain ⟨-, c01, -, -, -, -⟩ := h.head.facts
  clear h hk hkf
  go_enter Try.func102, Try.ntmps102
  go_wp2_with fail
  go_loopw [13] (fun iv wr => ∃ i : Nat, i ≤ D.list.length ∧ iv = .int .i64 i ∧ Hid (DriveIs wr g s A c { D with sure := setKept keep 0 D.sure (D.list.take i) } ∧ Drove W wr g s A A)) (fun iv _ => D.list.length - (intOf iv).toNat)
  case atStart => exact ⟨0, by omega, rfl, hid ⟨HH.out, Drove.refl _ _ _ _⟩⟩
  case round =>
    clear c01
    obtain ⟨i, hi, rfl, HS⟩ := hrel
    obtain ⟨D1, hD1⟩ : ∃ D1 : Drv, D1 = { D with sure := setKept keep 0 D.sure (D.list.take i) } := ⟨_, rfl⟩
    have hd1 : DriveIs wr g s A c D1 := by rw [hD1]; exact HS.out.1
    have hl1 : D1.list = D.list := by rw [hD1]
    have hs1 : D1.sure = setKept keep 0 D.sure (D.list.take i) := by rw [hD1]
    have hsl : D1.sure.length = D.sure.length := by rw [hs1, setKept_len]
    have HD1 := hid hd1
    have HV1 := hid HS.out.2
    have HDD := hid hD1
    by_cases hlti : i < D.list.length
    · obtain ⟨x, hx⟩ := get_of_lt D.list hlti
      obtain ⟨hxl, hx0, hx1⟩ := HOK.out.list x (List.mem_of_getElem? hx)
      obtain ⟨m, d, rfl⟩ : ∃ (m : Nat) (d : List UInt8), x = ((m : Int), d) := ⟨x.1.toNat, x.2, by rw [Int.toNat_of_nonneg hx0]⟩
      dsimp only at hxl hx0 hx1
      have hm : m < D1.sure.length := by omega
      have hmi : (m : Int) < (D1.sure.length : Int) := by omega
      have hm0 : (0 : Int) ≤ (m : Int) := by omega
      obtain ⟨ga, ea, hrow⟩ := wait_range (l := D1.list) (x := ((m : Int), d)) (i := i) HD1.out.2.2.1 (fun y hy => (HD1.out.2.2.2.1.list y hy).1) (by rw [hl1]; exact hx)
      subst ea
      have hlt1 := HD1.out.lt
      obtain ⟨c10, c11, -, -, -, hlg⟩ := HD1.out.head.facts
      have hb : wr.heap.size ≠ s := by omega
      have hgb : g < wr.heap.size := hlt1.1
      have hd5 := HD1.out.alloc (.cells (rowL ((m : Int), d)).toArray 216)
      have hS5 : FlushR g s wr.heap.size D1.sure.length m d (wr.alloc (.cells (rowL ((m : Int), d)).toArray 216)).drew := by
        refine ⟨(World.cell?_alloc_lt _ _ _ hlg).trans c10, ?_, fun j v hv => ?_⟩
        · show (wr.alloc _).cell? _ = _
          rw [cell_of_row _ _ _ _ _ (0, 0) (heap_alloc_new wr _)]
          rfl
        · show (wr.alloc _).cell? _ = _
          rw [cell_of_row _ _ _ _ _ (0, 0) (heap_alloc_new wr _), Nat.add_comm]
          simpa [rowL] using hv
      have HI : Hid ((Try.prog.info? 214).map (·.size) = some (d.map bv).length) := hid (by rw [info214s, List.length_map, hxl])
      have HTH := hid (sector_there (W := (wr.alloc (.cells (rowL ((m : Int), d)).toArray 216)).drew) hd5.2.1 HD1.out.2.2.2.1.sure hm)
      have hst := hd5.drew.store hm hxl
      have HST := hid hst
      have HDL := hid hxl
      have HX := hid hx
      have HROW := hid hrow
      have HS5 := hid hS5
      have HD5 := hid hd5
      have hne : g ≠ s ∧ wr.heap.size ≠ s := ⟨hne, hb⟩
      have hkr := HV1.out.cells' HK.out (fun h => HKF.out (by simpa using h))
      clear hst hx hrow hxl hd5 hd1 hl1 hs1 hD1 c11 c10 hx0 HS hS5
      have hstay : kept keep i = false → Hid (DriveIs (wr.alloc (.cells (rowL ((m : Int), d)).toArray 216)) g s (some ⟨ga, 0, none⟩) c { D with sure := setKept keep 0 D.sure (D.list.take (i + 1)) } ∧ Drove W (wr.alloc (.cells (rowL ((m : Int), d)).toArray 216)) g s (some ⟨ga, 0, none⟩) (some ⟨ga, 0, none⟩)) := fun hk => hid ⟨by
        have h := HD5.out
        rw [HDD.out] at h
        rw [setKept_take HX.out, hk]
        exact h, HV1.out.trans (Drove.of_below ((Below.refl _ _).alloc (Nat.le_refl _) _))⟩
      by_cases hki : i < keep.length
      · obtain ⟨k, hkk⟩ := get_of_lt keep hki
        obtain ⟨kb, ko, rfl, hkc⟩ := Ints.openq hkr (by omega)
        have hkc := hkc i k hkk
        have hkl2 := World.block_lt_of_cell? wr _ hkc
        have hkc' : ∀ o, (wr.alloc o).cell? ⟨kb, ko + i, none⟩ = some (.int .i64 k) := fun o => (World.cell?_alloc_lt _ _ _ hkl2).trans hkc
        have hka := kept_at hkk
        clear hkk hkr hkc hkl2
        by_cases hk0 : k = 0
        · subst hk0
          have HK1 := hstay (by rw [hka]; rfl)
          clear hstay hka
          go_wp2_with (first | ((with_reducible refine wpl_load216 ?_); refine wl_load216 rfl (.tmp 16) rfl ((m : Int), d) HDL.out ga (i * 129) rfl HROW.out ?_) | ((with_reducible refine wpl_alloc216 ?_); refine wl_alloc216 rfl rfl ?_) | ((with_reducible refine wpl_store216 ?_); refine wl_box216 rfl (.tmp 5) (.tmp 17) rfl ((m : Int), d) HDL.out rfl rfl ?_))
          go_roundw
          case rel => exact ⟨i + 1, by omega, by go_num, HK1⟩
          case measure => simp [intOf]; omega
        · have hkq : (k != 0) = true := by simpa using hk0
          have HKA : Hid (kept keep i = true) := hid (by rw [hka, hkq])
          clear hstay hka hk0
          go_wp2_with (first | ((with_reducible refine wpl_load216 ?_); refine wl_load216 rfl (.tmp 16) rfl ((m : Int), d) HDL.out ga (i * 129) rfl HROW.out ?_) | ((with_reducible refine wpl_alloc216 ?_); refine wl_alloc216 rfl rfl ?_) | ((with_reducible refine wpl_store216 ?_); refine wl_box216 rfl (.tmp 5) (.tmp 17) rfl ((m : Int), d) HDL.out rfl rfl ?_))
          refine wp_region_held_drew (S := fun Wc => Wc.cell? ⟨g, 0, none⟩ = some (.slice (some ⟨s, 0, none⟩) D1.sure.length D1.sure.length) ∧ Wc.cell? ⟨wr.heap.size, 0, none⟩ = some (.int .i64 m) ∧ Wc.rangeAt wr.heap.size 1 (d.map bv)) (by kernel_rfl) HS5.out (fun hHeld => ?_)
          refine wpAnyH_take (i := 0) (oi := { dst := some 29, op := Op.move (Operand.tmp 0), type := 131, pos := "drive.go:131", after := #[], guard := none }) (v := .pointer (some ⟨g, 0, none⟩)) rfl (by kernel_rfl) (by kernel_rfl) (by kernel_rfl) (fun _ _ _ h => h) (Or.inl ⟨by rfl, fun W hSw => ?_⟩) hHeld ?_
          · dsimp only at hSw
            go_simp
          try simp only [Act.put, List.setIfInBounds_toArray, List.set_cons_zero, List.set_cons_succ]
          refine wpAnyH_take (i := 1) (oi := { dst := some 30, op := Op.nilCheck (Operand.tmp 29), type := 0, pos := "drive.go:131", after := #[{ on := 0, ground := Ground.data }], guard := none }) (v := .pointer (some ⟨g, 0, none⟩)) rfl (by kernel_rfl) (by kernel_rfl) (by kernel_rfl) (fun _ _ _ h => h) (Or.inl ⟨by rfl, fun W hSw => ?_⟩) hHeld ?_
          · dsimp only at hSw
            go_simp
          try simp only [Act.put, List.setIfInBounds_toArray, List.set_cons_zero, List.set_cons_succ]
          refine wpAnyH_take (i := 2) (oi := { dst := some 31, op := Op.fieldAddr 211 (Operand.tmp 30) 0, type := 0, pos := "drive.go:131", after := #[{ on := 1, ground := Ground.data }], guard := none }) (v := .pointer (some ⟨g, 0, none⟩)) rfl (by kernel_rfl) (by kernel_rfl) (by kernel_rfl) (fun _ _ _ h => h) (Or.inl ⟨by rfl, fun W hSw => ?_⟩) hHeld ?_
          · dsimp only at hSw
            go_simp
          try simp only [Act.put, List.setIfInBounds_toArray, List.set_cons_zero, List.set_cons_succ]
          refine wpAnyH_take (i := 3) (oi := { dst := some 32, op := Op.load 208 (Operand.tmp 31), type := 208, pos := "drive.go:131", after := #[{ on := 2, ground := Ground.data }], guard := none }) (v := .slice (some ⟨s, 0, none⟩) D1.sure.length D1.sure.length) rfl (by kernel_rfl) (by kernel_rfl) (by kernel_rfl) (fun _ _ _ h => h) (Or.inl ⟨by rfl, fun W hSw => ?_⟩) hHeld ?_
          · dsimp only at hSw
            go_simp
          try simp only [Act.put, List.setIfInBounds_toArray, List.set_cons_zero, List.set_cons_succ]
          refine wpAnyH_take (i := 4) (oi := { dst := some 33, op := Op.fieldAddr 216 (Operand.tmp 5) 0, type := 0, pos := "drive.go:131", after := #[], guard := none }) (v := .pointer (some ⟨wr.heap.size, 0, none⟩)) rfl (by kernel_rfl) (by kernel_rfl) (by kernel_rfl) (fun _ _ _ h => h) (Or.inl ⟨by rfl, fun W hSw => ?_⟩) hHeld ?_
          · dsimp only at hSw
            go_simp
          try simp only [Act.put, List.setIfInBounds_toArray, List.set_cons_zero, List.set_cons_succ]
          refine wpAnyH_take (i := 5) (oi := { dst := some 34, op := Op.load 3 (Operand.tmp 33), type := 3, pos := "drive.go:131", after := #[{ on := 4, ground := Ground.data }], guard := none }) (v := .int .i64 m) rfl (by kernel_rfl) (by kernel_rfl) (by kernel_rfl) (fun _ _ _ h => h) (Or.inl ⟨by rfl, fun W hSw => ?_⟩) hHeld ?_
          · dsimp only at hSw
            go_simp
          try simp only [Act.put, List.setIfInBounds_toArray, List.set_cons_zero, List.set_cons_succ]
          refine wpAnyH_take (i := 6) (oi := { dst := some 35, op := Op.fieldAddr 216 (Operand.tmp 5) 1, type := 0, pos := "drive.go:131", after := #[], guard := none }) (v := .pointer (some ⟨wr.heap.size, 1, none⟩)) rfl (by kernel_rfl) (by kernel_rfl) (by kernel_rfl) (fun _ _ _ h => h) (Or.inl ⟨by rfl, fun W hSw => ?_⟩) hHeld ?_
          · dsimp only at hSw
            go_simp
          try simp only [Act.put, List.setIfInBounds_toArray, List.set_cons_zero, List.set_cons_succ]
          refine wpAnyH_take (i := 7) (oi := { dst := some 36, op := Op.load 214 (Operand.tmp 35), type := 214, pos := "drive.go:131", after := #[{ on := 6, ground := Ground.data }], guard := none }) (v := .agg (d.map bv).toArray) rfl (by kernel_rfl) (by kernel_rfl) (by kernel_rfl) (fun _ _ _ h => h) (yieldsIf_load_mid (by rfl) 214 (.tmp 35) rfl wr.heap.size 1 (by rfl) (d.map bv) _ (fun w h => h.2.2) Try.underlying214 rfl HI.out) hHeld ?_
          try simp only [Act.put, List.setIfInBounds_toArray, List.set_cons_zero, List.set_cons_succ]
          refine wpAnyH_take (i := 8) (oi := { dst := some 37, op := Op.indexAddr 208 (Operand.tmp 32) (Operand.tmp 34), type := 0, pos := "drive.go:131", after := #[{ on := 3, ground := Ground.data }, { on := 5, ground := Ground.data }, { on := 0, ground := Ground.phase }, { on := 1, ground := Ground.phase }, { on := 2, ground := Ground.phase }, { on := 3, ground := Ground.phase }, { on := 4, ground := Ground.phase }, { on := 5, ground := Ground.phase }, { on := 6, ground := Ground.phase }, { on := 7, ground := Ground.phase }], guard := none }) (v := .pointer (some ⟨s, m * 128, none⟩)) rfl (by kernel_rfl) (by kernel_rfl) (by kernel_rfl) (fun _ _ _ h => h) (Or.inl ⟨by rfl, fun W hSw => ?_⟩) hHeld ?_
          · dsimp only at hSw
            go_simp
          try simp only [Act.put, List.setIfInBounds_toArray, List.set_cons_zero, List.set_cons_succ]
          refine wpAnyH_ready (rs := [9]) (by kernel_rfl) (by simp) (AllReadyH.cons (o := { dst := none, op := Op.store 214 (Operand.tmp 37) (Operand.tmp 36), type := 0, pos := "drive.go:131", after := #[{ on := 8, ground := Ground.data }, { on := 7, ground := Ground.data }, { on := 0, ground := Ground.phase }, { on := 1, ground := Ground.phase }, { on := 2, ground := Ground.phase }, { on := 3, ground := Ground.phase }, { on := 4, ground := Ground.phase }, { on := 5, ground := Ground.phase }, { on := 6, ground := Ground.phase }, { on := 7, ground := Ground.phase }], guard := none }) rfl (fun K hK => ?_) AllReadyH.nil)
          refine st_sector (by rfl) (.tmp 37) (.tmp 36) (by rfl) s m d (by rfl) (by rfl) HDL.out HTH.out ?_
          refine hK.out _ _ ?_ (fun hHeld => ?_)
          · exact FlushR.sets hHeld hne.1 hne.2
          clear hK K
          try simp only [Act.put]
          refine wpAnyH_done (by kernel_rfl) ?_ _
          go_wp2_with fail
          go_roundw
          case rel =>
            refine ⟨i + 1, by omega, by go_num, hid ⟨?_, ?_⟩⟩
            · have h := HST.out.1
              rw [HDD.out] at h
              rw [setKept_take HX.out, HKA.out]
              exact h
            · exact HV1.out.trans ((Drove.of_below (((Below.refl _ _).alloc (Nat.le_refl _) _).drew)).trans HST.out.2)
          case measure => simp [intOf]; omega
      · have HK1 := hstay (kept_out (by omega))
        clear hstay hkr
        go_wp2_with (first | ((with_reducible refine wpl_load216 ?_); refine wl_load216 rfl (.tmp 16) rfl ((m : Int), d) HDL.out ga (i * 129) rfl HROW.out ?_) | ((with_reducible refine wpl_alloc216 ?_); refine wl_alloc216 rfl rfl ?_) | ((with_reducible refine wpl_store216 ?_); refine wl_box216 rfl (.tmp 5) (.tmp 17) rfl ((m : Int), d) HDL.out rfl rfl ?_))
        go_roundw
        case rel => exact ⟨i + 1, by omega, by go_num, HK1⟩
        case measure => simp [intOf]; omega
    · have hk : i = D.list.length := by omega
      subst hk
      have HI := hid hD1
      obtain ⟨-, c11, c12, c13, hf1, hlg⟩ := HD1.out.head.facts
      clear hD1 hd1 hl1 hs1 hsl HS
      go_wp2_with fail
      go_end0
      refine ⟨rfl, ?_, HV1.out.trans HD1.out.rest.2⟩
      have h := HD1.out.rest.1
      rw [HDD.out, List.take_length] at h
      exact h
end Go.Proofs.Ytppbcdcmpcagdaa
