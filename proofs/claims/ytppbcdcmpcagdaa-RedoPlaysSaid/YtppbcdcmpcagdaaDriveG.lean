/- Contract of Get. -/
import Derived.Test.YtppbcdcmpcagdaaDriveE
import Derived.Test.YtppbcdcmpcagdaaDrive7
import Derived.Deep.QuietTactic
import Derived.BigQuiet
namespace Go.Proofs.Ytppbcdcmpcagdaa
open Go.RowKit Go.CP Go.Shelf
attribute [local go_sem] Oper.semAt_some

def z214 : Value := .agg (Array.replicate 128 (.int .u8 0))
theorem cells214 : z214.cells.size = 128 := by
  rw [z214, Value.cells, Array.size_replicate]
theorem run_alloc214 (w : World) : (Instr.alloc 214 true (.tuple #[])).run Try.prog w = .ok (.pointer (some ⟨w.heap.size, 0, none⟩)) (w.alloc (.cells z214.cells 214)) := by
  have h : Try.t214.zero = some z214 := zero214
  simp [Instr.alloc, newVar, zeroValue, typeInfo, info214, h, newRow]
/-- A sector's array is made, at a step of a region that draws its order. -/
theorem st_alloc214 {w : World} {ops : Array Oper} {o : Oper} {a : Act} {K : Act → World → Prop} {Q : Exit → Act → World → Prop} {E : Prop} (hgd : o.guard = none) (ho : o.op = .alloc 214)
    (h : K (a.put o.dst (.pointer (some ⟨w.heap.size, 0, none⟩))) (w.alloc (.cells z214.cells 214))) : if Region.wanted o (yielded ops a.tmps) = true then Oper.wp Try.prog o a w K Q else E := by
  have hw : Region.wanted o (yielded ops a.tmps) = true := by simp [Region.wanted, hgd]
  rw [if_pos hw]
  unfold Oper.wp execOp
  simp only [ho, Sem.run_bind, run_alloc214, Result.andThen_ok, Sem.run_pure]
  exact h
/-- Likewise, its bytes are laid into it. -/
theorem st_box214 {w : World} {ops : Array Oper} {o : Oper} {a : Act} {K : Act → World → Prop} {Q : Exit → Act → World → Prop} {E : Prop} (hgd : o.guard = none) (x y : Operand) (ho : o.op = .store 214 x y) (d : List UInt8) (hd : d.length = 128)
    (hx : a.eval x = .pointer (some ⟨w.heap.size, 0, none⟩)) (hy : a.eval y = .agg (d.map bv).toArray) (h : K (a.put o.dst undef) (w.alloc (.cells (d.map bv).toArray 214))) :
    if Region.wanted o (yielded ops a.tmps) = true then Oper.wp Try.prog o a (w.alloc (.cells z214.cells 214)) K Q else E := by
  have hw : Region.wanted o (yielded ops a.tmps) = true := by simp [Region.wanted, hgd]
  rw [if_pos hw]
  refine wp_store_row 214 x y ho w.heap.size (d.map bv).toArray hx hy 214 z214.cells (heap_alloc_new w _) (by rw [info214s]; simp [hd]) (by rw [cells214]; simp [hd]) (all_oneCell_toArray (row_byte d)) ?_
  rw [setRow_alloc]
  exact h

/-- What Get hands back: a new row with the sector's bytes, or none. -/
def RetGet (W : World) (r : Int × List UInt8) (e : Ending) (W' : World) : Prop :=
  Below W.heap.size W W' ∧ ((r.1 = 0 ∧ r.2.length = 128 ∧ ∃ b, e = .returned (.tuple #[.slice (some ⟨b, 0, none⟩) 128 128, .int .i64 0]) ∧ W.heap.size ≤ b ∧ W'.heap[b]? = some (.cells (r.2.map bv).toArray 214 (0, 0))) ∨
    (r.1 ≠ 0 ∧ r.2 = [] ∧ e = .returned (.tuple #[.slice none 0 0, .int .i64 r.1])))

theorem get_dead (W : World) (g s : Nat) (A : Option Addr) (c : Nat) (D : Drv) (h : DriveIs W g s A c D) (hd : D.dead = true) (n : Int) :
    Calls Try.prog 103 #[.pointer (some ⟨g, 0, none⟩), .int .i64 n] W (RetGet W (11, [])) := by
  have hr := ready_any (W.alloc (.cells #[.int .i64 n] 3)) g _ _ _ _ (h.alloc (.cells #[.int .i64 n] 3)).head
  rw [hd] at hr
  have HR := hid hr
  clear h hr hd
  go_enter Try.func103, Try.ntmps103
  go_wp2_with fail
  refine HR.out.mono ?_
  rintro e w1 ⟨rfl, rfl⟩
  go_wp2
  go_ret2
  exact ⟨(Below.refl _ _).alloc (Nat.le_refl _) _, .inr ⟨by decide, rfl, rfl⟩⟩
set_option maxHeartbeats 1000000 in
theorem get_out (W : World) (g s : Nat) (A : Option Addr) (c : Nat) (D : Drv) (h : DriveIs W g s A c D) (hd : D.dead = false) (n : Int) (hn : n < 0 ∨ (D.sure.length : Int) ≤ n) (_hsl : D.sure.length ≤ 1000000) :
    Calls Try.prog 103 #[.pointer (some ⟨g, 0, none⟩), .int .i64 n] W (RetGet W (4, [])) := by
  have hr := ready_any (W.alloc (.cells #[.int .i64 n] 3)) g _ _ _ _ (h.alloc (.cells #[.int .i64 n] 3)).head
  rw [hd] at hr
  have HR := hid hr
  obtain ⟨c0, -, -, -, -, hlt⟩ := h.head.facts
  clear h hr hd
  by_cases h0 : n < 0
  · clear hn
    go_enter Try.func103, Try.ntmps103
    go_wp2_with fail
    refine HR.out.mono ?_
    rintro e w1 ⟨rfl, rfl⟩
    go_wp2_with fail
    go_quiet (fail)
    go_wp2
    go_ret2
    exact ⟨below_drewN ((Below.refl _ _).alloc (Nat.le_refl _) _) _, .inr ⟨by decide, rfl, rfl⟩⟩
  · have h1 : (D.sure.length : Int) ≤ n := by omega
    clear hn
    go_enter Try.func103, Try.ntmps103
    go_wp2_with fail
    refine HR.out.mono ?_
    rintro e w1 ⟨rfl, rfl⟩
    go_wp2_with fail
    go_quiet (fail)
    go_wp2
    go_ret2
    exact ⟨below_drewN ((Below.refl _ _).alloc (Nat.le_refl _) _) _, .inr ⟨by decide, rfl, rfl⟩⟩

theorem WaitAt.of_drive {W : World} {g s : Nat} {A : Option Addr} {c : Nat} {D : Drv} (h : DriveIs W g s A c D) : WaitAt W A D.list := fun _ x hx =>
  ⟨(h.2.2.2.1.list x (List.mem_of_getElem? hx)).1, wait_range (l := D.list) h.2.2.1 (fun y hy => (h.2.2.2.1.list y hy).1) hx⟩
/-- What the region that loads a sector reads. -/
def GetR (g s k : Nat) (n m : Nat) (d : List UInt8) (W : World) : Prop :=
  W.cell? ⟨g, 0, none⟩ = some (.slice (some ⟨s, 0, none⟩) n n) ∧ W.cell? ⟨k, 0, none⟩ = some (.int .i64 m) ∧ W.rangeAt s (m * 128) (d.map bv)
theorem GetR.alloc {g s k n m : Nat} {d : List UInt8} {W : World} (h : GetR g s k n m d W) (o : Obj) : GetR g s k n m d (W.alloc o) := by
  have hc : ∀ {p : Addr} {v : Value}, W.cell? p = some v → (W.alloc o).cell? p = some v := fun {p v} hp => (World.cell?_alloc_lt _ _ _ (World.block_lt_of_cell? W _ hp)).trans hp
  exact ⟨hc h.1, hc h.2.1, World.rangeAt_alloc h.2.2 o⟩

/-- What holds in a Get's loop: the answer's array at b. -/
def GetI (W : World) (b : Nat) (m : Nat) (d : List UInt8) (wr : World) : Prop :=
  Below W.heap.size W wr ∧ wr.cell? ⟨W.heap.size, 0, none⟩ = some (.int .i64 m) ∧ wr.heap[b]? = some (.cells (d.map bv).toArray 214 (0, 0)) ∧ W.heap.size < b
theorem GetI.grown {W A B : World} {b m : Nat} {d : List UInt8} {row : Option Nat} (h : GetI W b m d A) (hg : A.grownBy B row) (hr : ∀ r, row = some r → b < r) : GetI W b m d B :=
  ⟨h.1.grown hg h.1.size (fun k hk => by have := hr k hk; have := h.2.2.2; omega), hg.cell h.2.1 (fun e => by have h1 : b < W.heap.size := hr _ e.symm; have := h.2.2.2; omega),
    (hg.block b (Array.getElem?_eq_some_iff.1 h.2.2.1).1 (fun e => by have := hr _ e.symm; omega)).trans h.2.2.1, h.2.2.2⟩
set_option maxHeartbeats 4000000 in
set_option maxRecDepth 100000 in
theorem get_ok (W : World) (g s : Nat) (A : Option Addr) (c : Nat) (D : Drv) (h : DriveIs W g s A c D) (hd : D.dead = false) (m : Nat) (hm : m < D.sure.length) (_hsl : D.sure.length ≤ 1000000) (hll : D.list.length ≤ 1000000000000) :
    Calls Try.prog 103 #[.pointer (some ⟨g, 0, none⟩), .int .i64 m] W (RetGet W (0, D.at m)) := by
  have hr := ready_any (W.alloc (.cells #[.int .i64 m] 3)) g _ _ _ _ (h.alloc (.cells #[.int .i64 m] 3)).head
  rw [hd] at hr
  have HR := hid hr
  obtain ⟨c0, c1, -, -, -, hlt⟩ := h.head.facts
  obtain ⟨d, hdm⟩ := get_of_lt D.sure hm
  have hdl := h.2.2.2.1.sure d (List.mem_of_getElem? hdm)
  have hmi : (m : Int) < (D.sure.length : Int) := by omega
  have hm0 : (0 : Int) ≤ (m : Int) := by omega
  have H1 := hid (h.alloc (.cells #[.int .i64 m] 3))
  have HH := hid h
  have HDM := hid hdm
  have HDL := hid hdl
  have HI : Hid ((Try.prog.info? 214).map (·.size) = some (d.map bv).length) := hid (by rw [info214s, List.length_map, hdl])
  clear h hr hd hdm hdl
  refine (callsIn_wide (n := 3)).1 (callsIn_of_wp_marks Try.func103 rfl trivial ((wpIn_wide (n := 3)).2 ?_) rfl)
  simp only [Try.ntmps103, List.size_toArray, List.length_cons, List.length_nil, Nat.reduceAdd, Nat.reduceSub, Array.replicate_succ, Array.replicate_zero, List.push_toArray, List.append_toArray, List.nil_append, List.cons_append]
  go_wp2_with fail
  refine HR.out.mono ?_
  rintro e w1 ⟨rfl, rfl⟩
  go_wp2_with fail
  go_quiet (fail)
  go_wp2_with fail
  have hw2 : ∃ W2, W2 = (W.alloc (.cells #[.int .i64 m] 3)).drewN nq := ⟨_, rfl⟩
  obtain ⟨W2, hw2⟩ := hw2
  rw [← hw2]
  have hb2 : Below W.heap.size W W2 := by rw [hw2]; exact below_drewN ((Below.refl _ _).alloc (Nat.le_refl _) _) _
  have hd2 : DriveIs W2 g s A c D := by rw [hw2]; exact H1.out
  have hk2 : W2.cell? ⟨W.heap.size, 0, none⟩ = some (.int .i64 m) := by rw [hw2]; simp
  have hs2 : W.heap.size < W2.heap.size := by rw [hw2]; simp
  have HS2 : Hid (GetR g s W.heap.size D.sure.length m d W2.drew) := hid ⟨hd2.head.facts.1, hk2, sector_range (W := W2.drew) hd2.2.1 hd2.2.2.2.1.sure HDM.out⟩
  have HD2 := hid hd2
  have HB2 := hid hb2
  clear hw2 hb2 hd2 hk2 c0 c1 H1 HR
  refine wp_region_noPanic ?_
  refine wp_region_held_drew (S := fun Wc => Wc.cell? ⟨g, 0, none⟩ = some (.slice (some ⟨s, 0, none⟩) D.sure.length D.sure.length) ∧ Wc.cell? ⟨W.heap.size, 0, none⟩ = some (.int .i64 m) ∧ Wc.rangeAt s (m * 128) (d.map bv)) (by kernel_rfl) HS2.out (fun hHeld => ?_)
  refine wpAnyH_take (i := 0) (oi := { dst := some 26, op := Op.move (Operand.tmp 0), type := 131, pos := "drive.go:72", after := #[], guard := none }) (v := .pointer (some ⟨g, 0, none⟩)) rfl (by kernel_rfl) (by kernel_rfl) (by kernel_rfl) (fun _ _ _ h => h) (Or.inl ⟨by rfl, fun W hSw => ?_⟩) hHeld ?_
  · dsimp only at hSw
    go_simp
  try simp only [Act.put, List.setIfInBounds_toArray, List.set_cons_zero, List.set_cons_succ]
  refine wpAnyH_take (i := 1) (oi := { dst := some 27, op := Op.nilCheck (Operand.tmp 26), type := 0, pos := "drive.go:72", after := #[{ on := 0, ground := Ground.data }], guard := none }) (v := .pointer (some ⟨g, 0, none⟩)) rfl (by kernel_rfl) (by kernel_rfl) (by kernel_rfl) (fun _ _ _ h => h) (Or.inl ⟨by rfl, fun W hSw => ?_⟩) hHeld ?_
  · dsimp only at hSw
    go_simp
  try simp only [Act.put, List.setIfInBounds_toArray, List.set_cons_zero, List.set_cons_succ]
  refine wpAnyH_take (i := 2) (oi := { dst := some 28, op := Op.fieldAddr 211 (Operand.tmp 27) 0, type := 0, pos := "drive.go:72", after := #[{ on := 1, ground := Ground.data }], guard := none }) (v := .pointer (some ⟨g, 0, none⟩)) rfl (by kernel_rfl) (by kernel_rfl) (by kernel_rfl) (fun _ _ _ h => h) (Or.inl ⟨by rfl, fun W hSw => ?_⟩) hHeld ?_
  · dsimp only at hSw
    go_simp
  try simp only [Act.put, List.setIfInBounds_toArray, List.set_cons_zero, List.set_cons_succ]
  refine wpAnyH_take (i := 3) (oi := { dst := some 29, op := Op.load 208 (Operand.tmp 28), type := 208, pos := "drive.go:72", after := #[{ on := 2, ground := Ground.data }], guard := none }) (v := .slice (some ⟨s, 0, none⟩) D.sure.length D.sure.length) rfl (by kernel_rfl) (by kernel_rfl) (by kernel_rfl) (fun _ _ _ h => h) (Or.inl ⟨by rfl, fun W hSw => ?_⟩) hHeld ?_
  · dsimp only at hSw
    go_simp
  try simp only [Act.put, List.setIfInBounds_toArray, List.set_cons_zero, List.set_cons_succ]
  refine wpAnyH_take (i := 4) (oi := { dst := some 30, op := Op.load 3 (Operand.tmp 3), type := 3, pos := "drive.go:72", after := #[], guard := none }) (v := .int .i64 m) rfl (by kernel_rfl) (by kernel_rfl) (by kernel_rfl) (fun _ _ _ h => h) (Or.inl ⟨by rfl, fun W hSw => ?_⟩) hHeld ?_
  · dsimp only at hSw
    go_simp
  try simp only [Act.put, List.setIfInBounds_toArray, List.set_cons_zero, List.set_cons_succ]
  refine wpAnyH_take (i := 5) (oi := { dst := some 31, op := Op.indexAddr 208 (Operand.tmp 29) (Operand.tmp 30), type := 0, pos := "drive.go:72", after := #[{ on := 3, ground := Ground.data }, { on := 4, ground := Ground.data }], guard := none }) (v := .pointer (some ⟨s, m * 128, none⟩)) rfl (by kernel_rfl) (by kernel_rfl) (by kernel_rfl) (fun _ _ _ h => h) (Or.inl ⟨by rfl, fun W hSw => ?_⟩) hHeld ?_
  · dsimp only at hSw
    go_simp
  try simp only [Act.put, List.setIfInBounds_toArray, List.set_cons_zero, List.set_cons_succ]
  refine wpAnyH_take (i := 6) (oi := { dst := some 32, op := Op.load 214 (Operand.tmp 31), type := 214, pos := "drive.go:72", after := #[{ on := 5, ground := Ground.data }], guard := none }) (v := .agg (d.map bv).toArray) rfl (by kernel_rfl) (by kernel_rfl) (by kernel_rfl) (fun _ _ _ h => h) (yieldsIf_load_mid (by rfl) 214 (.tmp 31) rfl s (m * 128) (by rfl) (d.map bv) _ (fun w h => h.2.2) Try.underlying214 rfl HI.out) hHeld ?_
  try simp only [Act.put, List.setIfInBounds_toArray, List.set_cons_zero, List.set_cons_succ]
  refine wpAnyH_ready (rs := [7]) (by kernel_rfl) (by simp) (AllReadyH.cons (o := { dst := some 7, op := Op.alloc 214, type := 0, pos := "drive.go:72", after := #[], guard := none }) rfl (fun K hK => ?_) AllReadyH.nil)
  refine st_alloc214 (by rfl) (by rfl) ?_
  refine hK.out _ _ (GetR.alloc hHeld _) (fun hHeld => ?_)
  clear hK K
  try simp only [Act.put, List.setIfInBounds_toArray, List.set_cons_zero, List.set_cons_succ]
  refine wpAnyH_ready (rs := [8]) (by kernel_rfl) (by simp) (AllReadyH.cons (o := { dst := none, op := Op.store 214 (Operand.tmp 7) (Operand.tmp 32), type := 0, pos := "drive.go:72", after := #[{ on := 7, ground := Ground.data }, { on := 6, ground := Ground.data }, { on := 0, ground := Ground.phase }, { on := 1, ground := Ground.phase }, { on := 2, ground := Ground.phase }, { on := 3, ground := Ground.phase }, { on := 4, ground := Ground.phase }, { on := 5, ground := Ground.phase }, { on := 6, ground := Ground.phase }, { on := 7, ground := Ground.phase }], guard := none }) rfl (fun K hK => ?_) AllReadyH.nil)
  refine st_box214 (by rfl) (.tmp 7) (.tmp 32) (by rfl) d HDL.out (by rfl) (by rfl) ?_
  refine hK.out _ _ (GetR.alloc HS2.out _) (fun hHeld => ?_)
  clear hK K
  try simp only [Act.put]
  refine wpAnyH_done (by kernel_rfl) ?_ _
  refine NoPanic.normal ?_
  have hd3 : DriveIs (W2.drew.alloc (.cells (d.map bv).toArray 214)) g s A c D := HD2.out.drew.alloc _
  have hk3 : (W2.drew.alloc (.cells (d.map bv).toArray 214)).cell? ⟨W.heap.size, 0, none⟩ = some (.int .i64 m) := hHeld.2.1
  have hb3 : Below W.heap.size W (W2.drew.alloc (.cells (d.map bv).toArray 214)) := HB2.out.drew.alloc HB2.out.size _
  have hx3 : (W2.drew.alloc (.cells (d.map bv).toArray 214)).heap[W2.heap.size]? = some (.cells (d.map bv).toArray 214 (0, 0)) := heap_alloc_new W2.drew _
  have hz3 : (W2.drew.alloc (.cells (d.map bv).toArray 214)).heap.size = W2.heap.size + 1 := World.size_alloc _ _
  obtain ⟨W3, hW3⟩ : ∃ W3, W3 = W2.drew.alloc (.cells (d.map bv).toArray 214) := ⟨_, rfl⟩
  rw [← hW3] at hd3 hk3 hb3 hx3 hz3 ⊢
  obtain ⟨-, c31, -, -, -, hlt3⟩ := hd3.head.facts
  have HD3 := hid hd3
  have HB3 := hid hb3
  have HX3 := hid hx3
  have HK3 := hid hk3
  have HZ3 := hid hz3
  clear hW3 hd3 hb3 hx3 hk3 hz3 hHeld HS2 hlt
  have hBW := hid (backward167_any A D.list.length c W3)
  go_wp2_with fail
  refine hBW.out.mono ?_
  rintro e W4 ⟨rfl, rfl⟩
  go_wp2_with fail

  have hb4 : Below W.heap.size W (W3.alloc (.cells #[.slice A D.list.length c] 209)) := HB3.out.alloc HB3.out.size _
  have hw4 : (W3.alloc (.cells #[.slice A D.list.length c] 209)).heap.size = W3.heap.size + 1 := World.size_alloc _ _
  have hz3 := HZ3.out
  have hx4 : (W3.alloc (.cells #[.slice A D.list.length c] 209)).heap[W2.heap.size]? = some (.cells (d.map bv).toArray 214 (0, 0)) := (Below.heap_alloc _ _ _ (by omega)).trans HX3.out
  have hk4 : (W3.alloc (.cells #[.slice A D.list.length c] 209)).cell? ⟨W.heap.size, 0, none⟩ = some (.int .i64 m) := (World.cell?_alloc_lt _ _ _ (World.block_lt_of_cell? W3 _ HK3.out)).trans HK3.out
  have hc4 : (W3.alloc (.cells #[.slice A D.list.length c] 209)).cell? ⟨W3.heap.size, 0, none⟩ = some (.slice A D.list.length c) := by simp
  have hwt : ∀ W', Below W.heap.size (W3.alloc (.cells #[.slice A D.list.length c] 209)) W' → WaitAt W' A D.list := fun W' hb i x hx => by
    obtain ⟨h1, ga, ea, h2⟩ := WaitAt.of_drive HH.out i x hx
    refine ⟨h1, ga, ea, fun j v hv => ?_⟩
    have h3 := h2 j v hv
    exact ((hb4.trans hb).cell (p := ⟨ga, i * 129 + j, none⟩) (World.block_lt_of_cell? W _ h3)).trans h3
  refine (wpIn_wide (n := 3)).1 ?_
  refine wpIn_rangeFunc_ownH (F := Fence.wide) rfl (by decide) (gf := 187) (lb := #[.pointer (some ⟨W3.heap.size, 0, none⟩)]) rfl trivial (enters_of Try.func187 (by kernel_rfl) rfl)
    (backW_stops Fence.wide 2 trivial rfl (by decide) W3.heap.size W.heap.size A D.list c (by omega) _ (by rw [hw4]; omega) (by rw [hw4]; omega) hc4 hwt) kpB_t (kpB_b (by rw [hw4]; omega) (by rw [hw4]; omega)) (Below.refl _ _) (fun _ => rfl)
    (fun pre wr => (∀ y ∈ pre, y.2.1 ≠ (m : Int)) ∧ GetI W W2.heap.size m d wr ∧ W3.heap.size < wr.heap.size)
    (fun cd pre wr => cd = .exit 0 ∧ ∃ pre' x, pre = pre' ++ [x] ∧ x.2.1 = (m : Int) ∧ (∀ y ∈ pre', y.2.1 ≠ (m : Int)) ∧ GetI W W2.heap.size m (fitW x.2).2 wr)
    (fun pre A B row hs hg hr => ⟨hs.1, hs.2.1.grown hg (fun r hr' => by have := hr r hr'; rw [hw4] at this; omega), Nat.lt_of_lt_of_le hs.2.2 hg.size⟩)
    (fun cd pre A B row hs hg hr => by
      obtain ⟨h1, p', x, h2, h3, h4, h6⟩ := hs
      exact ⟨h1, p', x, h2, h3, h4, h6.grown hg (fun r hr' => by have := hr r hr'; rw [hw4] at this; omega)⟩)
    ⟨(fun y hy => by cases hy), ⟨hb4, hk4, hx4, by omega⟩, by rw [hw4]; omega⟩
    (fun x a' wr => ∃ p, W2.heap.size < p ∧ wr.heap[p]? = some (.cells (rowL (fitW x.2)).toArray 216 (0, 0)) ∧ a' = { tmps := #[Value.pointer (some ⟨g, 0, none⟩), Value.int IntKind.i64 m, undef, Value.pointer (some ⟨W.heap.size, 0, none⟩), Value.slice none 0 0, Value.int IntKind.i64 0, Value.int IntKind.i64 0, Value.pointer (some ⟨W2.heap.size, 0, none⟩), undef, Value.pointer (some ⟨p, 0, none⟩),
          Value.pointer (some ⟨g, 0, none⟩), Value.int IntKind.i64 0, Value.int IntKind.i64 0, Value.bool false, undef, Value.int IntKind.i64 m, Value.bool (decide ((m : Int) < 0)), Value.bool (decide ((m : Int) < 0)),
          Value.int IntKind.i64 m, Value.pointer (some ⟨g, 0, none⟩), Value.pointer (some ⟨g, 0, none⟩), Value.pointer (some ⟨g, 0, none⟩), Value.slice (some ⟨s, 0, none⟩) D.sure.length D.sure.length, Value.int IntKind.i64 D.sure.length,
          Value.bool false, Value.bool (decide ((m : Int) < 0)), Value.pointer (some ⟨g, 0, none⟩), Value.pointer (some ⟨g, 0, none⟩), Value.pointer (some ⟨g, 0, none⟩), Value.slice (some ⟨s, 0, none⟩) D.sure.length D.sure.length, Value.int IntKind.i64 m,
          Value.pointer (some ⟨s, m * 128, none⟩), Value.agg (List.map bv d).toArray, Value.pointer (some ⟨g, 0, none⟩), Value.pointer (some ⟨g, 0, none⟩), Value.pointer (some ⟨g, 1, none⟩), Value.slice A D.list.length c,
          Value.func (Fn.func 187) #[] #[Value.pointer (some ⟨W3.heap.size, 0, none⟩)], Value.int IntKind.i64 (x.1 : Int), Value.agg (rowL (fitW x.2)).toArray, undef, undef, undef, undef, undef, undef, undef], defers := [] })
    (fun x a' _ A B row hs hg hr => by
      obtain ⟨p, h2, h3, h4⟩ := hs
      refine ⟨p, h2, ?_, h4⟩
      rw [hg.block p (Array.getElem?_eq_some_iff.1 h3).1 (fun e => ?_)]
      · exact h3
      · obtain ⟨-, o, ho, hc⟩ := hr p e.symm
        rw [h3] at ho
        cases ho
        cases hc) ?assign ?body ?done ?stop
  case assign =>
    intro l pre x W5 K hI hK
    simp only [List.zip_toArray, List.foldl_toArray, List.zip_cons_cons, List.zip_nil_right, List.foldl_cons, List.foldl_nil, List.setIfInBounds_toArray, List.set_cons_succ, List.set_cons_zero]
    refine wpIn_region_lit ?_
    refine wlIn_alloc216 rfl rfl ?_
    refine wlIn_box216 rfl (.tmp 9) (.tmp 39) rfl (fitW x.2) (fitW_len x.2) rfl rfl ?_
    have hlt5 : W2.heap.size < W5.heap.size := (Array.getElem?_eq_some_iff.1 hI.2.1.2.2.1).1
    have hbb : Below W5.heap.size W5 (W5.alloc (.cells (rowL (fitW x.2)).toArray 216)) := (Below.refl _ _).alloc (Nat.le_refl _) _
    refine hK _ _ ((KeepsOthers.alloc W5 _).from _) ⟨hbb.mono hI.2.1.1.size, Below.heap_alloc _ _ _ hI.2.2⟩ ⟨hI.1, ⟨hI.2.1.1.trans (hbb.mono hI.2.1.1.size), (World.cell?_alloc_lt _ _ _ (World.block_lt_of_cell? W5 _ hI.2.1.2.1)).trans hI.2.1.2.1, (Below.heap_alloc _ _ _ hlt5).trans hI.2.1.2.2.1, hI.2.1.2.2.2⟩, by simp; omega⟩ ⟨W5.heap.size, hlt5, heap_alloc_new W5 _, rfl⟩
  case body =>
    clear hz3 hw4
    rintro l pre x a' W5 hl - ⟨hno, hI, hI3⟩ ⟨p, hp, hxp, rfl⟩ -
    obtain ⟨hIb, hIk, hIx, hIl⟩ := hI
    have hp0 : W5.cell? ⟨p, 0, none⟩ = some (.int .i64 x.2.1) := by
      rw [cell_of_row _ _ _ _ _ (0, 0) hxp]
      rfl
    have hpr : W5.rangeAt p 1 ((fitW x.2).2.map bv) := fun j v hv => by
      rw [cell_of_row _ _ _ _ _ (0, 0) hxp, Nat.add_comm]
      simpa [rowL] using hv
    by_cases hxm : x.2.1 = (m : Int)
    · have hq : (x.2.1 == (m : Int)) = true := by simpa using hxm
      have HXM := hid hxm
      have HIX := hid hIx
      have HP := hid hpr
      clear hxm hIx hpr hxp
      gi_wp2_with (first | ((with_reducible refine wplIn_load214 ?_); refine wlIn_load214 rfl (.tmp 44) rfl (fitW x.2).2 (fitW_len x.2) p 1 rfl HP.out ?_) | ((with_reducible refine wplIn_store214 ?_); refine wlIn_store214 rfl (.tmp 7) (.tmp 45) rfl (fitW x.2).2 (fitW_len x.2) W2.heap.size (d.map bv).toArray HIX.out (by simp [HDL.out]) rfl rfl ?_))
      refine And.intro ⟨Nat.le_of_eq (by simp [World.setRow]), fun k o hB hk _ => (setRow_other _ _ _ _ (by rw [World.size_alloc] at hB; have := HZ3.out; omega)).trans hk⟩ ⟨rfl, pre, x, rfl, HXM.out, hno, ?_⟩
      exact ⟨hIb.trans ⟨rfl, rfl, rfl, by simp [World.setRow], fun k hk => setRow_other _ _ _ _ (by omega)⟩, (cell_setRow_other _ _ _ _ (by simp; omega)).trans hIk, setRow_heap _ _ _ _ _ _ HIX.out, hIl⟩
    · have hq : (x.2.1 == (m : Int)) = false := by simpa using hxm
      have HXM := hid hxm
      clear hxm
      gi_wp2
      refine And.intro (KeepsFrom.refl _ _) (And.intro (KpB.refl _ _ _) ⟨fun y hy => ?_, ⟨hIb, hIk, hIx, hIl⟩, hI3⟩)
      rcases List.mem_append.1 hy with hy | hy
      · exact hno y hy
      · rw [List.mem_singleton.1 hy]; exact HXM.out
  case done =>
    clear hz3 hw4
    rintro DD ys W5 hDD rfl ⟨hno, hI, hI3⟩ hK
    gi_wp2
    go_wp2
    refine ⟨by simp, .inl ⟨_, _, rfl, run_takeDeferred hK, ?_⟩⟩
    refine ⟨_, results_tmp2 rfl _ _ _, ?_⟩
    have hat : D.at m = d := by
      have h0 : lastL (m : Int) D.list = none := lastL_none fun x hx => by
        obtain ⟨i, hi⟩ := List.mem_iff_getElem?.1 hx
        exact hno (i, x) (backW_of hi (by omega) (Nat.le_refl _))
      rw [Drv.at, h0]
      simp [HDM.out]
    rw [hat]
    rw [World.size_alloc] at hDD
    have hz := HZ3.out
    exact ⟨hI.1.trans (belowK_b (w := W) (Nat.le_refl _) W5 DD _ _ (by omega) hK rfl rfl), .inl ⟨rfl, HDL.out, W2.heap.size, rfl, Nat.le_of_lt hI.2.2.2, (World.putObj_heap_other (by omega)).trans hI.2.2.1⟩⟩
  case stop =>
    clear hz3 hw4
    rintro DD cd pre W5 hDD ⟨k, hk, rfl⟩ ⟨rfl, pre', x, hpre, hxm, hno, hI⟩ hK
    gi_wp2
    go_wp2
    refine ⟨by simp, .inl ⟨_, _, rfl, run_takeDeferred hK, ?_⟩⟩
    refine ⟨_, results_tmp2 rfl _ _ _, ?_⟩
    obtain ⟨hx1, hx2⟩ := backW_mem (y := x) hk (by rw [hpre]; simp)
    have hl : lastL (m : Int) D.list = some x.2.2 := lastL_at hx1 hxm fun j y hj hy => by
      have hm : (j, y) ∈ backW D.list k := backW_of hy (by omega) hk
      rw [hpre] at hm
      rcases List.mem_append.1 hm with hm | hm
      · exact hno (j, y) hm
      · have := congrArg Prod.fst (List.mem_singleton.1 hm)
        dsimp only at this
        omega
    have hxl := (HH.out.2.2.2.1.list x.2 (List.mem_of_getElem? hx1)).1
    have hat : D.at m = x.2.2 := by
      rw [Drv.at, hl]
      rfl
    rw [hat]
    rw [fitW_of hxl] at hI
    rw [World.size_alloc] at hDD
    have hz := HZ3.out
    exact ⟨hI.1.trans (belowK_b (w := W) (Nat.le_refl _) W5 DD _ _ (by omega) hK rfl rfl), .inl ⟨rfl, hxl, W2.heap.size, rfl, Nat.le_of_lt hI.2.2.2, (World.putObj_heap_other (by omega)).trans hI.2.2.1⟩⟩
end Go.Proofs.Ytppbcdcmpcagdaa
