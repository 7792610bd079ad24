/- Contract of Flush. -/
import Derived.Test.YtppbcdcmpcagdaaDriveC
import Derived.Test.YtppbcdcmpcagdaaDrive5
namespace Go.Proofs.Ytppbcdcmpcagdaa
open Go.RowKit Go.CP

theorem flush_dead (W : World) (g s : Nat) (A : Option Addr) (c : Nat) (D : Drv) (h : DriveIs W g s A c D) (hd : D.dead = true) :
    Calls Try.prog 101 #[.pointer (some ⟨g, 0, none⟩)] W (RetDrv W g s A (11, D)) := by
  have H := hid h
  have hr := ready_any W g _ _ _ _ h.head
  rw [hd] at hr
  have HR := hid hr
  clear h hr hd
  go_enter Try.func101, Try.ntmps101
  go_wp2_with fail
  refine HR.out.mono ?_
  rintro e w1 ⟨rfl, rfl⟩
  go_wp2
  go_ret
  exact ⟨rfl, A, c, H.out, Drove.refl _ _ _ _⟩
theorem flush_dark (W : World) (g s : Nat) (A : Option Addr) (c : Nat) (D : Drv) (h : DriveIs W g s A c D) (hd : D.dead = false) (h0 : D.fuse = 0) :
    Calls Try.prog 101 #[.pointer (some ⟨g, 0, none⟩)] W (RetDrv W g s A (11, D.dark)) := by
  have hr := ready_any W g _ _ _ _ h.head
  rw [hd] at hr
  have HR := hid hr
  have HB := hid (burn_drive W g s A c D h hd (by omega) (by omega))
  have H0 := hid h0
  clear h hr hd h0
  go_enter Try.func101, Try.ntmps101
  go_wp2_with fail
  refine HR.out.mono ?_
  rintro e w1 ⟨rfl, rfl⟩
  go_wp2_with fail
  refine HB.out.mono ?_
  rintro e w5 (⟨h0, rfl, hd5, hv5, hs5⟩ | ⟨h0, rfl, hd5, hv5, hs5⟩)
  · have HD5 := hid hd5
    clear h0 hs5 hd5
    go_wp2
    go_ret
    exact ⟨rfl, A, c, HD5.out, hv5⟩
  · exact absurd H0.out h0
/-- What the region of a Flush's round reads. -/
def FlushR (g s b : Nat) (n : Nat) (m : Int) (d : List UInt8) (W : World) : Prop :=
  W.cell? ⟨g, 0, none⟩ = some (.slice (some ⟨s, 0, none⟩) n n) ∧ W.cell? ⟨b, 0, none⟩ = some (.int .i64 m) ∧ W.rangeAt b 1 (d.map bv)
theorem FlushR.sets {g s b n : Nat} {m : Int} {d : List UInt8} {W : World} (h : FlushR g s b n m d W) (hg : g ≠ s) (hb : b ≠ s) {o : Nat} {vs : List Value} : FlushR g s b n m d (W.setCells s o vs) := by
  have hc : ∀ {p : Addr} {v : Value}, p.block ≠ s → W.cell? p = some v → (W.setCells s o vs).cell? p = some v := fun {p v} hne hp =>
    (World.cell?_of_block (w := W) (heap_setCells_ne vs W s o p.block hne)).trans hp
  exact ⟨hc hg h.1, hc hb h.2.1, fun j v hv => hc hb (h.2.2 j v hv)⟩
set_option maxHeartbeats 4000000 in
set_option maxRecDepth 100000 in
theorem flush_loop (W : World) (g s : Nat) (A : Option Addr) (c : Nat) (D : Drv) (h : DriveIs W g s A c D) (hd : D.dead = false) (h0 : D.fuse ≠ 0) (hlo : -1 ≤ D.fuse) (hup : D.fuse ≤ 9223372036854775807) (hn : D.list.length ≤ 1000000000000) :
    Calls Try.prog 101 #[.pointer (some ⟨g, 0, none⟩)] W (RetDrv W g s A (0, { D.less with sure := setAll D.sure D.list, list := [] })) := by
  have hr := ready_any W g _ _ _ _ h.head
  rw [hd] at hr
  have HR := hid hr
  have HB := hid (burn_drive W g s A c D h hd hlo hup)
  have H0 := hid h0
  have HOK := hid h.2.2.2.1
  have hne : g ≠ s := h.2.2.2.2.1
  clear h hr hd h0 hlo hup
  go_enter Try.func101, Try.ntmps101
  go_wp2_with fail
  refine HR.out.mono ?_
  rintro e w1 ⟨rfl, hw⟩
  obtain rfl : W = w1 := hw.symm
  clear hw
  go_wp2_with fail
  refine HB.out.mono ?_
  rintro e w2 (⟨h0, rfl, hd2, hv2, hs2⟩ | ⟨h0, rfl, hd2, hv2, hs2⟩)
  · exact absurd h0 H0.out
  obtain ⟨c20, c21, -, -, -, -⟩ := hd2.head.facts
  have c21' : w2.cell? ⟨g, 1, none⟩ = some (.slice A D.list.length c) := c21
  have HD2 := hid hd2
  have HV2 := hid hv2
  clear h0 hd2 hv2 hs2 c20 c21 HB HR
  go_wp2_with fail
  go_loopw [19] (fun iv wr => ∃ i : Nat, i ≤ D.list.length ∧ iv = .int .i64 i ∧ Hid (DriveIs wr g s A c { D.less with sure := setAll D.sure (D.list.take i) } ∧ Drove W wr g s A A)) (fun iv _ => D.list.length - (intOf iv).toNat)
  case atStart => exact ⟨0, by omega, rfl, hid ⟨HD2.out, HV2.out⟩⟩
  case round =>
    clear c21'
    obtain ⟨i, hi, rfl, HS⟩ := hrel
    obtain ⟨D1, hD1⟩ : ∃ D1 : Drv, D1 = { D.less with sure := setAll D.sure (D.list.take i) } := ⟨_, rfl⟩
    have hd1 : DriveIs wr g s A c D1 := by rw [hD1]; exact HS.out.1
    have hl1 : D1.list = D.list := by rw [hD1]; rfl
    have hs1 : D1.sure = setAll D.sure (D.list.take i) := by rw [hD1]
    have hsl : D1.sure.length = D.sure.length := by rw [hs1, setAll_len]
    have HD1 := hid hd1
    have HV1 := hid HS.out.2
    have HDD := hid hD1
    by_cases hlti : i < D.list.length
    · obtain ⟨x, hx⟩ := get_of_lt D.list hlti
      obtain ⟨hxl, hx0, hx1⟩ := HOK.out.list x (List.mem_of_getElem? hx)
      obtain ⟨m, d, rfl⟩ : ∃ (m : Nat) (d : List UInt8), x = ((m : Int), d) := ⟨x.1.toNat, x.2, by rw [Int.toNat_of_nonneg hx0]⟩
      dsimp only at hxl hx0 hx1
      have hm : m < D1.sure.length := by omega
      have hmi : (m : Int) < (D1.sure.length : Int) := by omega
      have hm0 : (0 : Int) ≤ (m : Int) := by omega
      obtain ⟨ga, ea, hrow⟩ := wait_range (l := D1.list) (x := ((m : Int), d)) (i := i) HD1.out.2.2.1 (fun y hy => (HD1.out.2.2.2.1.list y hy).1) (by rw [hl1]; exact hx)
      subst ea
      have hlt1 := HD1.out.lt
      obtain ⟨c10, c11, -, -, -, hlg⟩ := HD1.out.head.facts
      have hb : wr.heap.size ≠ s := by omega
      have hgb : g < wr.heap.size := hlt1.1
      have hd5 := HD1.out.alloc (.cells (rowL ((m : Int), d)).toArray 216)
      have hS5 : FlushR g s wr.heap.size D1.sure.length m d (wr.alloc (.cells (rowL ((m : Int), d)).toArray 216)).drew := by
        refine ⟨(World.cell?_alloc_lt _ _ _ hlg).trans c10, ?_, fun j v hv => ?_⟩
        · show (wr.alloc _).cell? _ = _
          rw [cell_of_row _ _ _ _ _ (0, 0) (heap_alloc_new wr _)]
          rfl
        · show (wr.alloc _).cell? _ = _
          rw [cell_of_row _ _ _ _ _ (0, 0) (heap_alloc_new wr _), Nat.add_comm]
          simpa [rowL] using hv
      have HI : Hid ((Try.prog.info? 214).map (·.size) = some (d.map bv).length) := hid (by rw [info214s, List.length_map, hxl])
      have HTH := hid (sector_there (W := (wr.alloc (.cells (rowL ((m : Int), d)).toArray 216)).drew) hd5.2.1 HD1.out.2.2.2.1.sure hm)
      have hst := hd5.drew.store hm hxl
      have HST := hid hst
      have HDL := hid hxl
      have HX := hid hx
      have HROW := hid hrow
      have hne : g ≠ s ∧ wr.heap.size ≠ s := ⟨hne, hb⟩
      clear hst hx hrow hxl hd5 hd1 hl1 hs1 hD1 c11 hx0 HS
      have HS5 := hid hS5
      clear hS5
      go_wp2_with (first | ((with_reducible refine wpl_load216 ?_); refine wl_load216 rfl (.tmp 21) rfl ((m : Int), d) HDL.out ga (i * 129) rfl HROW.out ?_) | ((with_reducible refine wpl_alloc216 ?_); refine wl_alloc216 rfl rfl ?_) | ((with_reducible refine wpl_store216 ?_); refine wl_box216 rfl (.tmp 5) (.tmp 22) rfl ((m : Int), d) HDL.out rfl rfl ?_))
      refine wp_region_held_drew (S := fun Wc => Wc.cell? ⟨g, 0, none⟩ = some (.slice (some ⟨s, 0, none⟩) D1.sure.length D1.sure.length) ∧ Wc.cell? ⟨wr.heap.size, 0, none⟩ = some (.int .i64 m) ∧ Wc.rangeAt wr.heap.size 1 (d.map bv)) (by kernel_rfl) HS5.out (fun hHeld => ?_)
      refine wpAnyH_take (i := 0) (oi := { dst := some 23, op := Op.move (Operand.tmp 0), type := 131, pos := "drive.go:111", after := #[], guard := none }) (v := .pointer (some ⟨g, 0, none⟩)) rfl (by kernel_rfl) (by kernel_rfl) (by kernel_rfl) (fun _ _ _ h => h) (Or.inl ⟨by rfl, fun W hSw => ?_⟩) hHeld ?_
      · dsimp only at hSw
        go_simp
      try simp only [Act.put, List.setIfInBounds_toArray, List.set_cons_zero, List.set_cons_succ]
      refine wpAnyH_take (i := 1) (oi := { dst := some 24, op := Op.nilCheck (Operand.tmp 23), type := 0, pos := "drive.go:111", after := #[{ on := 0, ground := Ground.data }], guard := none }) (v := .pointer (some ⟨g, 0, none⟩)) rfl (by kernel_rfl) (by kernel_rfl) (by kernel_rfl) (fun _ _ _ h => h) (Or.inl ⟨by rfl, fun W hSw => ?_⟩) hHeld ?_
      · dsimp only at hSw
        go_simp
      try simp only [Act.put, List.setIfInBounds_toArray, List.set_cons_zero, List.set_cons_succ]
      refine wpAnyH_take (i := 2) (oi := { dst := some 25, op := Op.fieldAddr 211 (Operand.tmp 24) 0, type := 0, pos := "drive.go:111", after := #[{ on := 1, ground := Ground.data }], guard := none }) (v := .pointer (some ⟨g, 0, none⟩)) rfl (by kernel_rfl) (by kernel_rfl) (by kernel_rfl) (fun _ _ _ h => h) (Or.inl ⟨by rfl, fun W hSw => ?_⟩) hHeld ?_
      · dsimp only at hSw
        go_simp
      try simp only [Act.put, List.setIfInBounds_toArray, List.set_cons_zero, List.set_cons_succ]
      refine wpAnyH_take (i := 3) (oi := { dst := some 26, op := Op.load 208 (Operand.tmp 25), type := 208, pos := "drive.go:111", after := #[{ on := 2, ground := Ground.data }], guard := none }) (v := .slice (some ⟨s, 0, none⟩) D1.sure.length D1.sure.length) rfl (by kernel_rfl) (by kernel_rfl) (by kernel_rfl) (fun _ _ _ h => h) (Or.inl ⟨by rfl, fun W hSw => ?_⟩) hHeld ?_
      · dsimp only at hSw
        go_simp
      try simp only [Act.put, List.setIfInBounds_toArray, List.set_cons_zero, List.set_cons_succ]
      refine wpAnyH_take (i := 4) (oi := { dst := some 27, op := Op.fieldAddr 216 (Operand.tmp 5) 0, type := 0, pos := "drive.go:111", after := #[], guard := none }) (v := .pointer (some ⟨wr.heap.size, 0, none⟩)) rfl (by kernel_rfl) (by kernel_rfl) (by kernel_rfl) (fun _ _ _ h => h) (Or.inl ⟨by rfl, fun W hSw => ?_⟩) hHeld ?_
      · dsimp only at hSw
        go_simp
      try simp only [Act.put, List.setIfInBounds_toArray, List.set_cons_zero, List.set_cons_succ]
      refine wpAnyH_take (i := 5) (oi := { dst := some 28, op := Op.load 3 (Operand.tmp 27), type := 3, pos := "drive.go:111", after := #[{ on := 4, ground := Ground.data }], guard := none }) (v := .int .i64 m) rfl (by kernel_rfl) (by kernel_rfl) (by kernel_rfl) (fun _ _ _ h => h) (Or.inl ⟨by rfl, fun W hSw => ?_⟩) hHeld ?_
      · dsimp only at hSw
        go_simp
      try simp only [Act.put, List.setIfInBounds_toArray, List.set_cons_zero, List.set_cons_succ]
      refine wpAnyH_take (i := 6) (oi := { dst := some 29, op := Op.fieldAddr 216 (Operand.tmp 5) 1, type := 0, pos := "drive.go:111", after := #[], guard := none }) (v := .pointer (some ⟨wr.heap.size, 1, none⟩)) rfl (by kernel_rfl) (by kernel_rfl) (by kernel_rfl) (fun _ _ _ h => h) (Or.inl ⟨by rfl, fun W hSw => ?_⟩) hHeld ?_
      · dsimp only at hSw
        go_simp
      try simp only [Act.put, List.setIfInBounds_toArray, List.set_cons_zero, List.set_cons_succ]
      refine wpAnyH_take (i := 7) (oi := { dst := some 30, op := Op.load 214 (Operand.tmp 29), type := 214, pos := "drive.go:111", after := #[{ on := 6, ground := Ground.data }], guard := none }) (v := .agg (d.map bv).toArray) rfl (by kernel_rfl) (by kernel_rfl) (by kernel_rfl) (fun _ _ _ h => h) (yieldsIf_load_mid (by rfl) 214 (.tmp 29) rfl wr.heap.size 1 (by rfl) (d.map bv) _ (fun w h => h.2.2) Try.underlying214 rfl HI.out) hHeld ?_
      try simp only [Act.put, List.setIfInBounds_toArray, List.set_cons_zero, List.set_cons_succ]
      refine wpAnyH_take (i := 8) (oi := { dst := some 31, op := Op.indexAddr 208 (Operand.tmp 26) (Operand.tmp 28), type := 0, pos := "drive.go:111", after := #[{ on := 3, ground := Ground.data }, { on := 5, ground := Ground.data }, { on := 0, ground := Ground.phase }, { on := 1, ground := Ground.phase }, { on := 2, ground := Ground.phase }, { on := 3, ground := Ground.phase }, { on := 4, ground := Ground.phase }, { on := 5, ground := Ground.phase }, { on := 6, ground := Ground.phase }, { on := 7, ground := Ground.phase }], guard := none }) (v := .pointer (some ⟨s, m * 128, none⟩)) rfl (by kernel_rfl) (by kernel_rfl) (by kernel_rfl) (fun _ _ _ h => h) (Or.inl ⟨by rfl, fun W hSw => ?_⟩) hHeld ?_
      · dsimp only at hSw
        go_simp
      try simp only [Act.put, List.setIfInBounds_toArray, List.set_cons_zero, List.set_cons_succ]
      refine wpAnyH_ready (rs := [9]) (by kernel_rfl) (by simp) (AllReadyH.cons (o := { dst := none, op := Op.store 214 (Operand.tmp 31) (Operand.tmp 30), type := 0, pos := "drive.go:111", after := #[{ on := 8, ground := Ground.data }, { on := 7, ground := Ground.data }, { on := 0, ground := Ground.phase }, { on := 1, ground := Ground.phase }, { on := 2, ground := Ground.phase }, { on := 3, ground := Ground.phase }, { on := 4, ground := Ground.phase }, { on := 5, ground := Ground.phase }, { on := 6, ground := Ground.phase }, { on := 7, ground := Ground.phase }], guard := none }) rfl (fun K hK => ?_) AllReadyH.nil)
      refine st_sector (by rfl) (.tmp 31) (.tmp 30) (by rfl) s m d (by rfl) (by rfl) HDL.out HTH.out ?_
      refine hK.out _ _ ?_ (fun hHeld => ?_)
      · exact FlushR.sets hHeld hne.1 hne.2
      clear hK K
      try simp only [Act.put]
      refine wpAnyH_done (by kernel_rfl) ?_ _
      go_wp2_with fail
      go_roundw
      case rel =>
        refine ⟨i + 1, by omega, by go_num, hid ⟨?_, ?_⟩⟩
        · have h := HST.out.1
          rw [HDD.out] at h
          rw [take_snoc HX.out, setAll_snoc]
          exact h
        · exact HV1.out.trans ((Drove.of_below (((Below.refl _ _).alloc (Nat.le_refl _) _).drew)).trans HST.out.2)
      case measure => simp [intOf]; omega
    · have hk : i = D.list.length := by omega
      subst hk
      have HI := hid hD1
      obtain ⟨-, c11, -, -, hf1, hlg⟩ := HD1.out.head.facts
      clear hD1 hd1 hl1 hs1 hsl HS
      go_wp2_with fail
      go_ret
      refine ⟨rfl, none, 0, ?_, HV1.out.trans HD1.out.clear.2⟩
      have h := HD1.out.clear.1
      rw [HDD.out, List.take_length] at h
      exact h
end Go.Proofs.Ytppbcdcmpcagdaa
