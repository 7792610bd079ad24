/- Contract of Put. -/
import Derived.Test.YtppbcdcmpcagdaaDrive4
import Derived.Test.YtppbcdcmpcagdaaDriveR
import Derived.Test.YtppbcdcmpcagdaaDriveB
namespace Go.Proofs.Ytppbcdcmpcagdaa
open Go.RowKit Go.CP

def wl (ws : List Wri) : List (Int × List UInt8) := ws.map fun x => (x.n, x.d)
/-- What Put hands back. -/
def RetDrv (W : World) (g s : Nat) (A : Option Addr) (r : Int × Drv) (e : Ending) (W' : World) : Prop :=
  e = .returned (.int .i64 r.1) ∧ ∃ A' c', DriveIs W' g s A' c' r.2 ∧ Drove W W' g s A A'

theorem put_dead (W : World) (g s : Nat) (A : Option Addr) (c : Nat) (D : Drv) (h : DriveIs W g s A c D) (hd : D.dead = true) (v : Value) :
    Calls Try.prog 100 #[.pointer (some ⟨g, 0, none⟩), v] W (RetDrv W g s A (11, D)) := by
  have H := hid h
  have hr := ready_any (W.alloc (.cells #[.pointer (some ⟨g, 0, none⟩)] 131)) g _ _ _ _ (h.alloc (.cells #[.pointer (some ⟨g, 0, none⟩)] 131)).head
  rw [hd] at hr
  have HR := hid hr
  clear h hr hd
  go_enter Try.func100, Try.ntmps100
  go_wp2_with fail
  refine HR.out.mono ?_
  rintro e w1 ⟨rfl, rfl⟩
  go_wp2
  go_ret
  exact ⟨rfl, A, c, H.out.alloc _, Drove.of_below ((Below.refl _ _).alloc (Nat.le_refl _) _)⟩

/-- One more waits: what an append and the store of its slice leave. -/
theorem DriveIs.push {W W1 W2 : World} {g s : Nat} {A A2 : Option Addr} {c c2 : Nat} {D : Drv} (h : DriveIs W g s A c D) (hb : Below W.heap.size W W1) (hg : W1.grownBy W2 (blockOf A)) (x : Int × List UInt8)
    (ho : Go.CP.Own W2 0 216 129 A2 (D.list.length + 1) c2 (D.list.flatMap rowL ++ rowL x)) (hA : blockOf A2 = blockOf A ∨ ∀ k, blockOf A2 = some k → W1.heap.size ≤ k) (hx : x.2.length = 128 ∧ 0 ≤ x.1 ∧ x.1 < D.sure.length) :
    DriveIs (W2.setCell ⟨g, 1, none⟩ (.slice A2 (D.list.length + 1) c2)) g s A2 c2 { D with list := D.list ++ [x] } ∧ Drove W (W2.setCell ⟨g, 1, none⟩ (.slice A2 (D.list.length + 1) c2)) g s A A2 := by
  have hl := h.lt
  obtain ⟨h1, h2, h3, ⟨h4, h5⟩, h6, h7⟩ := h
  have hbs := hb.size
  have hgs := hg.size
  have hgA : blockOf A ≠ some g := fun e => (h7 g e).1 rfl
  have hsA : blockOf A ≠ some s := fun e => (h7 s e).2 rfl
  have k1 : W2.heap[g]? = W.heap[g]? := (hg.block g (by omega) (fun e => hgA e.symm)).trans (hb.block g hl.1)
  have k2 : W2.heap[s]? = W.heap[s]? := (hg.block s (by omega) (fun e => hsA e.symm)).trans (hb.block s hl.2.1)
  have hA2 : ∀ k, blockOf A2 = some k → k ≠ g ∧ k ≠ s := fun k hk => by
    rcases hA with e | e
    · exact h7 k (by rw [← e]; exact hk)
    · have := e k hk
      omega
  have kh : Head4 W2 g (.slice (some ⟨s, 0, none⟩) D.sure.length D.sure.length) (.slice A D.list.length c) D.fuse D.dead := k1.trans h1
  refine ⟨⟨?_, ?_, ?_, ⟨h4, ?_⟩, h6, hA2⟩, ⟨hg.os.trans hb.os, hg.tape.trans hb.tape, hg.output.trans hb.output, by simp [World.setCell]; omega⟩, fun k hk hkg hks hkA => ?_, fun k hk => ?_⟩
  · have := kh.set 1 (.slice A2 (D.list.length + 1) c2)
    rw [List.length_append]
    exact this
  · exact (Below.heap_setCell _ _ _ _ h6.symm).trans (k2.trans h2)
  · refine own_of_block (w := W2) ?_ fun k hk => Below.heap_setCell _ _ _ _ (hA2 k hk).1
    rw [List.flatMap_append, List.length_append]
    rw [show (D.list.flatMap fun x => Value.int .i64 x.1 :: x.2.map bv) ++ ([x].flatMap fun x => Value.int .i64 x.1 :: x.2.map bv) = D.list.flatMap rowL ++ rowL x from by simp [rowL]; rfl]
    exact ho
  · intro y hy
    rcases List.mem_append.1 hy with hy | hy
    · exact h5 y hy
    · rw [List.mem_singleton.1 hy]; exact hx
  · exact (Below.heap_setCell _ _ _ _ hkg).trans ((hg.block k (by omega) (fun e => hkA e.symm)).trans (hb.block k hk))
  · rcases hA with e | e
    · exact .inl (by rw [← e]; exact hk)
    · exact .inr (Nat.le_trans hbs (e k hk))
/-- What the region of a Put's round reads. -/
def PutR (k g b xb xo : Nat) (n : Int) (cx : Nat) (d : List UInt8) (W : World) : Prop :=
  W.cell? ⟨k, 0, none⟩ = some (.pointer (some ⟨g, 0, none⟩)) ∧ W.cell? ⟨b, 0, none⟩ = some (.int .i64 n) ∧ W.cell? ⟨b, 1, none⟩ = some (.slice (some ⟨xb, xo, none⟩) 128 cx) ∧ W.rangeAt xb xo (d.map bv)
theorem PutR.alloc {k g b xb xo : Nat} {n : Int} {cx : Nat} {d : List UInt8} {W : World} (h : PutR k g b xb xo n cx d W) (o : Obj) : PutR k g b xb xo n cx d (W.alloc o) := by
  have hc : ∀ {p : Addr} {v : Value}, W.cell? p = some v → (W.alloc o).cell? p = some v := fun {p v} hp => (World.cell?_alloc_lt _ _ _ (World.block_lt_of_cell? W _ hp)).trans hp
  exact ⟨hc h.1, hc h.2.1, hc h.2.2.1, World.rangeAt_alloc h.2.2.2 o⟩
theorem PutR.grown {k g b xb xo : Nat} {n : Int} {cx : Nat} {d : List UInt8} {W W' : World} {row : Option Nat} (h : PutR k g b xb xo n cx d W) (hg : W.grownBy W' row) (hr : ∀ j, row = some j → j ≠ k ∧ j ≠ b ∧ j ≠ xb) : PutR k g b xb xo n cx d W' :=
  ⟨hg.cell h.1 (fun e => (hr _ e.symm).1 rfl), hg.cell h.2.1 (fun e => (hr _ e.symm).2.1 rfl), hg.cell h.2.2.1 (fun e => (hr _ e.symm).2.1 rfl), fun j v hv => hg.cell (h.2.2.2 j v hv) (fun e => (hr _ e.symm).2.2 rfl)⟩
theorem PutR.set {k g b xb xo : Nat} {n : Int} {cx : Nat} {d : List UInt8} {W : World} (h : PutR k g b xb xo n cx d W) (hr : k ≠ g ∧ b ≠ g ∧ xb ≠ g) (j : Nat) (u : Value) : PutR k g b xb xo n cx d (W.setCell ⟨g, j, none⟩ u) := by
  have hc : ∀ {p : Addr} {v : Value}, p.block ≠ g → W.cell? p = some v → (W.setCell ⟨g, j, none⟩ u).cell? p = some v := fun {p v} hne hp => (World.cell?_setCell_other _ _ _ _ (fun e => hne (congrArg Addr.block e).symm)).trans hp
  exact ⟨hc hr.1 h.1, hc hr.2.1 h.2.1, hc hr.2.1 h.2.2.1, fun i v hv => hc hr.2.2 (h.2.2.2 i v hv)⟩
/-- A drive in the midst of a Put: i writes are in. -/
def PutS (W : World) (g s : Nat) (A : Option Addr) (D : Drv) (ws : List Wri) (i : Nat) (wr : World) : Prop :=
  ∃ A' c' D', DriveIs wr g s A' c' D' ∧ Drove (W.alloc (.cells #[.pointer (some ⟨g, 0, none⟩)] 131)) wr g s A A' ∧ wr.cell? ⟨W.heap.size, 0, none⟩ = some (.pointer (some ⟨g, 0, none⟩)) ∧ D'.dead = false ∧ -1 ≤ D'.fuse ∧ D'.fuse ≤ 9223372036854775807 ∧
    D'.sure.length = D.sure.length ∧ D'.list.length = D.list.length + i ∧ putGo D (wl ws) = putGo D' (wl (ws.drop i)) ∧ W.heap.size < wr.heap.size

set_option maxHeartbeats 4000000 in
set_option maxRecDepth 100000 in
theorem put_loop (W : World) (g s : Nat) (A : Option Addr) (c : Nat) (D : Drv) (h : DriveIs W g s A c D) (hd : D.dead = false) (hlo : -1 ≤ D.fuse) (hup : D.fuse ≤ 9223372036854775807)
    (LA : Option Addr) (ws : List Wri) (cw : Nat) (hw : Wrs W LA ws) (hD : ∀ x ∈ ws, Bytes W x.a x.d) (hL : 0 < ws.length → Far LA A g s) (hX : ∀ x ∈ ws, 0 < x.d.length → Far x.a A g s) (hc : ∀ x ∈ ws, x.d.length ≤ x.c)
    (hn : D.list.length + ws.length ≤ 1000000000000) (ho : outB D.sure.length (wl ws) = false) (hl : lenB (wl ws) = false) :
    Calls Try.prog 100 #[.pointer (some ⟨g, 0, none⟩), .slice LA ws.length cw] W (RetDrv W g s A (putGo D (wl ws))) := by
  have hr := ready_any (W.alloc (.cells #[.pointer (some ⟨g, 0, none⟩)] 131)) g _ _ _ _ (h.alloc (.cells #[.pointer (some ⟨g, 0, none⟩)] 131)).head
  rw [hd] at hr
  have HR := hid hr
  have hk0 : (W.alloc (.cells #[.pointer (some ⟨g, 0, none⟩)] 131)).cell? ⟨W.heap.size, 0, none⟩ = some (.pointer (some ⟨g, 0, none⟩)) := by simp
  have H1 := hid (h.alloc (.cells #[.pointer (some ⟨g, 0, none⟩)] 131))
  have hw0 := hw
  have HW0 := hid hw
  have HW := hid (Cells.alloc hw (.cells #[.pointer (some ⟨g, 0, none⟩)] 131))
  have hlt := h.lt
  have e1 : ws.any (fun x => decide (x.n < 0) || decide ((D.sure.length : Int) ≤ x.n)) = false := by
    rw [← ho, outB, wl, List.any_map]; rfl
  have e2 : ws.any (fun x => x.d.length != 128) = false := by
    rw [← hl, lenB, wl, List.any_map]; rfl
  have HC1 := containsW_any LA ws cw (W.alloc (.cells #[.pointer (some ⟨g, 0, none⟩)] 131)) HW.out (by omega) 164 #[.pointer (some ⟨W.heap.size, 0, none⟩)] _ (enters_of Try.func164 (by kernel_rfl) rfl)
    (fun W' x hb => out_any x W.heap.size g s D.sure.length _ _ _ W' ((hb.cell (p := ⟨W.heap.size, 0, none⟩) (by simp)).trans hk0) (H1.out.below hb (Nat.le_refl _)).head)
  rw [e1] at HC1
  have HC1 := hid HC1
  have HC2 := hid (fun W' (hb : Below (W.alloc (.cells #[.pointer (some ⟨g, 0, none⟩)] 131)).heap.size (W.alloc (.cells #[.pointer (some ⟨g, 0, none⟩)] 131)) W') => containsW_any LA ws cw W' (HW.out.below hb (Nat.le_refl _)) (by omega) 165 #[] _ (enters_of Try.func165 (by kernel_rfl) rfl) (fun W' x _ => len_any x W'))
  rw [e2] at HC2
  have HK0 := hid hk0
  have HH := hid h
  have HF := hid (And.intro hd (And.intro hlo hup))
  have HD := hid hD
  have HL := hid hL
  have HX := hid hX
  have HCC := hid hc
  have HO := hid (outB_false ho)
  have HLN := hid (lenB_false hl)
  clear hr h hd hlo hup hw hD hL hX hc ho hl e1 e2 hk0
  go_enter Try.func100, Try.ntmps100
  go_wp2_with fail
  refine HR.out.mono ?_
  rintro e w1 ⟨rfl, rfl⟩
  go_wp2_with fail
  refine HC1.out.mono ?_
  rintro e w2 ⟨rfl, hb2⟩
  have HC3 := hid (HC2.out w2 hb2)
  clear HC1 HC2 HR
  go_wp2_with fail
  refine HC3.out.mono ?_
  rintro e w3 ⟨rfl, hb3⟩
  go_wp2_with fail
  have hb03 : Below W.heap.size W w3 := (((Below.refl _ W).alloc (Nat.le_refl _) _).trans (hb2.mono (by simp))).trans (hb3.mono (by have := hb2.size; simp at this; omega))
  have hb13 : Below (W.heap.size + 1) (W.alloc (.cells #[.pointer (some ⟨g, 0, none⟩)] 131)) w3 := (hb2.mono (by simp)).trans (hb3.mono (by have := hb2.size; simp at this; omega))
  have HB03 := hid hb03
  have HW3 := hid (Cells.below hw0 hb03 (Nat.le_refl _))
  have hlt3 := (HH.out.below hb03 (Nat.le_refl _)).lt
  have hS0 : PutS W g s A D ws 0 w3 := ⟨A, c, D, HH.out.below hb03 (Nat.le_refl _), Drove.of_below (hb13.mono (by simp)), (hb13.cell (p := ⟨W.heap.size, 0, none⟩) (by simp)).trans HK0.out, HF.out.1, HF.out.2.1, HF.out.2.2, rfl, rfl, by rw [List.drop_zero], by have := hb13.size; simp at this; omega⟩
  clear HC3 HW3 hb03 hb13 hb2 hb3 hw0 hlt3
  go_loopw [20] (fun iv wr => ∃ i : Nat, i ≤ ws.length ∧ iv = .int .i64 i ∧ Hid (PutS W g s A D ws i wr)) (fun iv _ => ws.length - (intOf iv).toNat)
  case atStart => exact ⟨0, by omega, rfl, hid hS0⟩
  case round =>
    clear hS0
    obtain ⟨i, hi, rfl, HS⟩ := hrel
    obtain ⟨A1, c1, D1, hd1, hv01, hk1, hz1, hlo1, hup1, hsl1, hll1, hgo1, hsz1⟩ := HS.out
    have hv1 : Drove W wr g s A A1 := (Drove.of_below ((Below.refl _ _).alloc (Nat.le_refl _) _)).trans hv01
    by_cases hlti : i < ws.length
    · obtain ⟨x, hx⟩ := get_of_lt ws hlti
      have hxm := List.mem_of_getElem? hx
      obtain ⟨lb, lo, rfl, lc0, lc1⟩ := Wrs.at (hv1.cells HW0.out (HL.out (by omega))) hx
      have hxl : x.d.length = 128 := HLN.out (x.n, x.d) (List.mem_map.2 ⟨x, hxm, rfl⟩)
      have hxo : 0 ≤ x.n ∧ x.n < D.sure.length := HO.out (x.n, x.d) (List.mem_map.2 ⟨x, hxm, rfl⟩)
      have hxb := hv1.cells (HD.out x hxm) (HX.out x hxm (by omega))
      obtain ⟨xb, xo, ea, hxc⟩ := Cells.open hxb (by rw [List.length_map]; omega)
      rw [ea, hxl] at lc1
      have hrow : wr.rangeAt xb xo (x.d.map bv) := fun j v hv => hxc j v hv
      have hfx : Far x.a A1 g s := hv1.far (HX.out x hxm (by omega)) fun k hk => by
        obtain ⟨xb', xo', ea', hxc'⟩ := Cells.open (HD.out x hxm) (by rw [List.length_map]; omega)
        rw [ea'] at hk
        simp [blockOf] at hk
        subst hk
        obtain ⟨y, hy⟩ := get_of_lt x.d (i := 0) (by omega)
        exact World.block_lt_of_cell? W _ (hxc' 0 (bv y) (by simp [hy]))
      have hd4 := hd1.alloc (.cells #[.int .i64 x.n, .slice (some ⟨xb, xo, none⟩) 128 x.c] 136)
      have hB := hid (burn_drive _ g s A1 c1 D1 hd4 hz1 hlo1 hup1)
      have hdrop : wl (ws.drop i) = (x.n, x.d) :: wl (ws.drop (i + 1)) := by
        rw [List.drop_eq_getElem_cons hlti, (List.getElem?_eq_some_iff.1 hx).2]
        rfl
      rw [hdrop, putGo] at hgo1
      have hlt1 := hd1.lt
      have hk4 : (wr.alloc (.cells #[.int .i64 x.n, .slice (some ⟨xb, xo, none⟩) 128 x.c] 136)).cell? ⟨W.heap.size, 0, none⟩ = some (.pointer (some ⟨g, 0, none⟩)) := (World.cell?_alloc_lt _ _ _ hsz1).trans hk1
      have HD1 := hid hd1
      have HV1 := hid hv1
      have HGO := hid hgo1
      have HXL := hid hxl
      have HROW := hid hrow
      have HFX := hid hfx
      have HLL := hid hll1
      have HSL := hid hsl1
      have HZ := hid hz1
      have HEA := hid ea
      clear hx hxc hxb hxm hrow hfx hdrop hgo1 hd1 hv1 hz1 hll1 hsl1 hxl hd4 HS ea
      go_wp2_with fail
      refine hB.out.mono ?_
      rintro e w5 (⟨h0, rfl, hd5, hv5, hs5⟩ | ⟨h0, rfl, hd5, hv5, hs5⟩)
      · have H0 := hid h0
        have HD5 := hid hd5
        have HV5 := hid hv5
        clear h0 hd5 hv5 hs5
        go_wp2_with fail
        go_ret
        have hg := HGO.out
        rw [if_pos H0.out] at hg
        exact ⟨by rw [hg]; rfl, A1, c1, by rw [hg]; exact HD5.out, HV1.out.trans ((Drove.of_below ((Below.refl _ _).alloc (Nat.le_refl _) _)).trans HV5.out)⟩
      · have hv04 : Drove (W.alloc (.cells #[.pointer (some ⟨g, 0, none⟩)] 131)) w5 g s A A1 := hv01.trans ((Drove.of_below ((Below.refl _ _).alloc (Nat.le_refl _) _)).trans hv5)
        have hlt5 := hd5.lt
        have hbA : ∀ k, blockOf A1 = some k → k ≠ W.heap.size ∧ k ≠ wr.heap.size ∧ k ≠ xb := fun k hk => by
          have h1 := hlt1.2.2 k hk
          refine ⟨fun e => ?_, fun e => by omega, fun e => (HFX.out k (by rw [HEA.out, e]; rfl)).2.2 hk⟩
          rcases hv01.2.2 k hk with e' | e'
          · have := hlt.2.2 k e'; omega
          · simp at e'; omega
        have hxg : xb ≠ g ∧ xb ≠ s := ⟨(HFX.out xb (by rw [HEA.out]; rfl)).1, (HFX.out xb (by rw [HEA.out]; rfl)).2.1⟩
        have hg1 : g < W.heap.size := hlt.1
        have hs1 : s < W.heap.size := hlt.2.1
        have k5 : w5.heap[W.heap.size]? = (wr.alloc (.cells #[.int .i64 x.n, .slice (some ⟨xb, xo, none⟩) 128 x.c] 136)).heap[W.heap.size]? := hv5.2.1 _ (by simp; omega) (by omega) (by omega) (fun e => (hbA _ e).1 rfl)
        have b5 : w5.heap[wr.heap.size]? = (wr.alloc (.cells #[.int .i64 x.n, .slice (some ⟨xb, xo, none⟩) 128 x.c] 136)).heap[wr.heap.size]? := hv5.2.1 _ (by simp) (by omega) (by omega) (fun e => (hbA _ e).2.1 rfl)
        have hxlt : xb < wr.heap.size := by
          obtain ⟨y, hy⟩ := get_of_lt x.d (i := 0) (by have := HXL.out; omega)
          exact World.block_lt_of_cell? wr _ (HROW.out 0 (bv y) (by simp [hy]))
        have x5 : w5.heap[xb]? = (wr.alloc (.cells #[.int .i64 x.n, .slice (some ⟨xb, xo, none⟩) 128 x.c] 136)).heap[xb]? := hv5.2.1 _ (by simp; omega) hxg.1 hxg.2 (fun e => (hbA _ e).2.2 rfl)
        have hS5 : w5.drew.cell? ⟨W.heap.size, 0, none⟩ = some (.pointer (some ⟨g, 0, none⟩)) ∧ w5.drew.cell? ⟨wr.heap.size, 0, none⟩ = some (.int .i64 x.n) ∧ w5.drew.cell? ⟨wr.heap.size, 1, none⟩ = some (.slice (some ⟨xb, xo, none⟩) 128 x.c) ∧ w5.drew.rangeAt xb xo (x.d.map bv) := by
          refine ⟨(World.cell?_of_block (a := ⟨W.heap.size, 0, none⟩) k5).trans hk4, (World.cell?_of_block (a := ⟨wr.heap.size, 0, none⟩) b5).trans (by simp), (World.cell?_of_block (a := ⟨wr.heap.size, 1, none⟩) b5).trans (by simp), fun j v hv => ?_⟩
          exact (World.cell?_of_block (a := ⟨xb, xo + j, none⟩) x5).trans (World.rangeAt_alloc HROW.out _ j v hv)
        have HI : Hid ((Try.prog.info? 214).map (·.size) = some (x.d.map bv).length) := hid (by rw [info214s, List.length_map, HXL.out])
        obtain ⟨c50, c51, c52, c53, hf5, hlg5⟩ := hd5.head.facts
        clear c50 c52 c53
        have H0 := hid h0
        have HD5 := hid hd5
        have HV4 := hid hv04
        have HBA := hid hbA
        clear h0 hd5 hv5 hs5 k5 b5 x5 hk4 hv01 hv04 hk1 lc0 lc1 hbA hf5
        have hal : ∀ o, (w5.drew.alloc o).cell? ⟨g, 1, none⟩ = some (.slice A1 D1.list.length c1) := fun o => (World.cell?_alloc_lt _ _ _ hlg5).trans c51
        have har : ∀ Wc, (Instr.arrayAt 214 (.slice (some ⟨xb, xo, none⟩) 128 x.c)).run Try.prog Wc = .ok (.pointer (some ⟨xb, xo, none⟩)) Wc := fun Wc => run_array214 Wc _ _
        have hkg : W.heap.size ≠ g ∧ wr.heap.size ≠ g ∧ xb ≠ g := ⟨by omega, by omega, hxg.1⟩
        have HOWN : Hid (Go.CP.Own (w5.drew.alloc (.cells (rowL (x.n, x.d)).toArray 216)) 0 216 129 A1 D1.list.length c1 (D1.list.flatMap rowL)) := hid (HD5.out.drew.alloc (.cells (rowL (x.n, x.d)).toArray 216)).2.2.1
        have HSRC : Hid (Src Try.prog (w5.drew.alloc (.cells (rowL (x.n, x.d)).toArray 216)) 129 z216 209 (.slice (some ⟨w5.drew.heap.size, 0, none⟩) 1 1) 1 (rowL (x.n, x.d))) := hid (by
          have h := Src.row (P := Try.prog) (w := w5.drew) (z := z216) (sz := 129) (m := 1) (c := 1) (e := 216) (rowL (x.n, x.d)).toArray Try.underlying209 (by rw [List.size_toArray, rowL_len (x := (x.n, x.d)) HXL.out]) (fun u hu => row_one (x.n, x.d) u (by simpa using hu))
          simpa using h)
        go_wp2_with fail
        refine wp_region_held_drew (S := fun Wc => Wc.cell? ⟨W.heap.size, 0, none⟩ = some (.pointer (some ⟨g, 0, none⟩)) ∧ Wc.cell? ⟨wr.heap.size, 0, none⟩ = some (.int .i64 x.n) ∧ Wc.cell? ⟨wr.heap.size, 1, none⟩ = some (.slice (some ⟨xb, xo, none⟩) 128 x.c) ∧ Wc.rangeAt xb xo (x.d.map bv)) (by kernel_rfl) hS5 (fun hHeld => ?_)
        refine wpAnyH_take (i := 0) (oi := { dst := some 27, op := Op.load 131 (Operand.tmp 2), type := 131, pos := "drive.go:97", after := #[], guard := none }) (v := .pointer (some ⟨g, 0, none⟩)) rfl (by kernel_rfl) (by kernel_rfl) (by kernel_rfl) (fun _ _ _ h => h) (Or.inl ⟨by rfl, fun W hSw => ?_⟩) hHeld ?_
        · dsimp only at hSw
          go_simp
        try simp only [Act.put, List.setIfInBounds_toArray, List.set_cons_zero, List.set_cons_succ]
        refine wpAnyH_take (i := 1) (oi := { dst := some 28, op := Op.load 131 (Operand.tmp 2), type := 131, pos := "drive.go:97", after := #[], guard := none }) (v := .pointer (some ⟨g, 0, none⟩)) rfl (by kernel_rfl) (by kernel_rfl) (by kernel_rfl) (fun _ _ _ h => h) (Or.inl ⟨by rfl, fun W hSw => ?_⟩) hHeld ?_
        · dsimp only at hSw
          go_simp
        try simp only [Act.put, List.setIfInBounds_toArray, List.set_cons_zero, List.set_cons_succ]
        refine wpAnyH_take (i := 2) (oi := { dst := some 29, op := Op.nilCheck (Operand.tmp 28), type := 0, pos := "drive.go:97", after := #[{ on := 1, ground := Ground.data }], guard := none }) (v := .pointer (some ⟨g, 0, none⟩)) rfl (by kernel_rfl) (by kernel_rfl) (by kernel_rfl) (fun _ _ _ h => h) (Or.inl ⟨by rfl, fun W hSw => ?_⟩) hHeld ?_
        · dsimp only at hSw
          go_simp
        try simp only [Act.put, List.setIfInBounds_toArray, List.set_cons_zero, List.set_cons_succ]
        refine wpAnyH_take (i := 3) (oi := { dst := some 30, op := Op.fieldAddr 211 (Operand.tmp 29) 1, type := 0, pos := "drive.go:97", after := #[{ on := 2, ground := Ground.data }], guard := none }) (v := .pointer (some ⟨g, 1, none⟩)) rfl (by kernel_rfl) (by kernel_rfl) (by kernel_rfl) (fun _ _ _ h => h) (Or.inl ⟨by rfl, fun W hSw => ?_⟩) hHeld ?_
        · dsimp only at hSw
          go_simp
        try simp only [Act.put, List.setIfInBounds_toArray, List.set_cons_zero, List.set_cons_succ]
        refine wpAnyH_take (i := 5) (oi := { dst := some 32, op := Op.fieldAddr 136 (Operand.tmp 7) 0, type := 0, pos := "drive.go:97", after := #[], guard := none }) (v := .pointer (some ⟨wr.heap.size, 0, none⟩)) rfl (by kernel_rfl) (by kernel_rfl) (by kernel_rfl) (fun _ _ _ h => h) (Or.inl ⟨by rfl, fun W hSw => ?_⟩) hHeld ?_
        · dsimp only at hSw
          go_simp
        try simp only [Act.put, List.setIfInBounds_toArray, List.set_cons_zero, List.set_cons_succ]
        refine wpAnyH_take (i := 6) (oi := { dst := some 33, op := Op.load 3 (Operand.tmp 32), type := 3, pos := "drive.go:97", after := #[{ on := 5, ground := Ground.data }], guard := none }) (v := .int .i64 x.n) rfl (by kernel_rfl) (by kernel_rfl) (by kernel_rfl) (fun _ _ _ h => h) (Or.inl ⟨by rfl, fun W hSw => ?_⟩) hHeld ?_
        · dsimp only at hSw
          go_simp
        try simp only [Act.put, List.setIfInBounds_toArray, List.set_cons_zero, List.set_cons_succ]
        refine wpAnyH_take (i := 7) (oi := { dst := some 34, op := Op.fieldAddr 136 (Operand.tmp 7) 1, type := 0, pos := "drive.go:97", after := #[], guard := none }) (v := .pointer (some ⟨wr.heap.size, 1, none⟩)) rfl (by kernel_rfl) (by kernel_rfl) (by kernel_rfl) (fun _ _ _ h => h) (Or.inl ⟨by rfl, fun W hSw => ?_⟩) hHeld ?_
        · dsimp only at hSw
          go_simp
        try simp only [Act.put, List.setIfInBounds_toArray, List.set_cons_zero, List.set_cons_succ]
        refine wpAnyH_take (i := 8) (oi := { dst := some 35, op := Op.load 22 (Operand.tmp 34), type := 22, pos := "drive.go:97", after := #[{ on := 7, ground := Ground.data }], guard := none }) (v := .slice (some ⟨xb, xo, none⟩) 128 x.c) rfl (by kernel_rfl) (by kernel_rfl) (by kernel_rfl) (fun _ _ _ h => h) (Or.inl ⟨by rfl, fun W hSw => ?_⟩) hHeld ?_
        · dsimp only at hSw
          go_simp
        try simp only [Act.put, List.setIfInBounds_toArray, List.set_cons_zero, List.set_cons_succ]
        refine wpAnyH_take (i := 9) (oi := { dst := some 36, op := Op.sliceToArrayPointer 214 (Operand.tmp 35), type := 0, pos := "drive.go:97", after := #[{ on := 8, ground := Ground.data }], guard := none }) (v := .pointer (some ⟨xb, xo, none⟩)) rfl (by kernel_rfl) (by kernel_rfl) (by kernel_rfl) (fun _ _ _ h => h) (Or.inl ⟨by rfl, fun W hSw => ?_⟩) hHeld ?_
        · dsimp only at hSw
          go_simp
        try simp only [Act.put, List.setIfInBounds_toArray, List.set_cons_zero, List.set_cons_succ]
        refine wpAnyH_take (i := 10) (oi := { dst := some 37, op := Op.load 214 (Operand.tmp 36), type := 214, pos := "drive.go:97", after := #[{ on := 9, ground := Ground.data }], guard := none }) (v := .agg (x.d.map bv).toArray) rfl (by kernel_rfl) (by kernel_rfl) (by kernel_rfl) (fun _ _ _ h => h) (yieldsIf_load_mid (by rfl) 214 (.tmp 36) rfl xb xo (by rfl) (x.d.map bv) _ (fun w h => h.2.2.2) Try.underlying214 rfl HI.out) hHeld ?_
        try simp only [Act.put, List.setIfInBounds_toArray, List.set_cons_zero, List.set_cons_succ]
        refine wpAnyH_take (i := 11) (oi := { dst := some 38, op := Op.build 216 #[(0, Operand.tmp 33), (1, Operand.tmp 37)], type := 216, pos := "drive.go:97", after := #[{ on := 6, ground := Ground.data }, { on := 10, ground := Ground.data }], guard := none }) (v := .agg (rowL (x.n, x.d)).toArray) rfl (by kernel_rfl) (by kernel_rfl) (by kernel_rfl) (fun _ _ _ h => h) (yieldsIf_build216 (by rfl) (.tmp 33) (.tmp 37) rfl x.n x.d (by rfl) (by rfl) HXL.out) hHeld ?_
        try simp only [Act.put, List.setIfInBounds_toArray, List.set_cons_zero, List.set_cons_succ]
        refine wpAnyH_ready (rs := [4, 12]) (by kernel_rfl) (by simp) (AllReadyH.cons (o := { dst := some 31, op := Op.load 209 (Operand.tmp 30), type := 209, pos := "drive.go:97", after := #[{ on := 3, ground := Ground.data }], guard := none }) rfl (fun K hK => ?_) (AllReadyH.cons (o := { dst := some 39, op := Op.buildSlice 209 1 #[(0, Operand.tmp 38)], type := 209, pos := "drive.go:97", after := #[{ on := 11, ground := Ground.data }], guard := none }) rfl (fun K hK => ?_) AllReadyH.nil))
        · go_simp
          refine hK.out _ _ hHeld (fun hHeld => ?_)
          clear hK K
          try simp only [Act.put, List.setIfInBounds_toArray, List.set_cons_zero, List.set_cons_succ]
          refine wpAnyH_ready (rs := [12]) (by kernel_rfl) (by simp) (AllReadyH.cons (o := { dst := some 39, op := Op.buildSlice 209 1 #[(0, Operand.tmp 38)], type := 209, pos := "drive.go:97", after := #[{ on := 11, ground := Ground.data }], guard := none }) rfl (fun K hK => ?_) AllReadyH.nil)
          refine st_slice209 (by rfl) (.tmp 38) (by rfl) (x.n, x.d) (by rfl) HXL.out ?_
          refine hK.out _ _ (PutR.alloc hHeld _) (fun hHeld => ?_)
          clear hK K
          try simp only [Act.put, List.setIfInBounds_toArray, List.set_cons_zero, List.set_cons_succ]
          refine wpAnyH_ready (rs := [13]) (by kernel_rfl) (by simp) (AllReadyH.cons (o := { dst := some 40, op := Op.call { callee := Callee.builtin Builtin.append, args := #[Operand.tmp 31, Operand.tmp 39], argTypes := #[209, 209] }, type := 209, pos := "drive.go:97", after := #[{ on := 4, ground := Ground.data }, { on := 12, ground := Ground.data }], guard := none }) rfl (fun K hK => ?_) AllReadyH.nil)
          refine st_wait (m := 1) (by rfl) (.tmp 31) (.tmp 39) (by rfl) 0 (by rfl) HOWN.out (by rfl) HSRC.out (by have := HLL.out; omega) (Nat.zero_le _) ?_
          intro A2 c2 w6 ho6 hg6 hA2
          refine hK.out _ _ (PutR.grown hHeld hg6 HBA.out) (fun hHeld => ?_)
          clear hK K
          try simp only [Act.put, List.setIfInBounds_toArray, List.set_cons_zero, List.set_cons_succ]
          obtain ⟨hd7, hv7⟩ := HD5.out.push (((Below.refl _ _).drew).alloc (Nat.le_refl _) _) hg6 (x.n, x.d) ho6 hA2 ⟨HXL.out, hxo.1, by have := HSL.out; show x.n < (D1.sure.length : Int); omega⟩
          have kh6 := (show w6.heap[g]? = _ from (hg6.block g (by simp; omega) (fun e => (HD5.out.2.2.2.2.2 g e.symm).1 rfl)).trans (HD5.out.drew.alloc (.cells (rowL (x.n, x.d)).toArray 216)).head)
          obtain ⟨-, c61, -, -, hf6, -⟩ := Head4.facts kh6
          have HD7 := hid hd7
          have HV7 := hid hv7
          clear hd7 hv7 kh6 ho6 hg6 hA2
          refine wpAnyH_take (i := 14) (oi := { dst := some 41, op := Op.nilCheck (Operand.tmp 27), type := 0, pos := "drive.go:97", after := #[{ on := 0, ground := Ground.data }, { on := 0, ground := Ground.phase }, { on := 1, ground := Ground.phase }, { on := 2, ground := Ground.phase }, { on := 3, ground := Ground.phase }, { on := 4, ground := Ground.phase }, { on := 5, ground := Ground.phase }, { on := 6, ground := Ground.phase }, { on := 7, ground := Ground.phase }, { on := 8, ground := Ground.phase }, { on := 9, ground := Ground.phase }, { on := 10, ground := Ground.phase }, { on := 11, ground := Ground.phase }, { on := 12, ground := Ground.phase }, { on := 13, ground := Ground.phase }], guard := none }) (v := .pointer (some ⟨g, 0, none⟩)) rfl (by kernel_rfl) (by kernel_rfl) (by kernel_rfl) (fun _ _ _ h => h) (Or.inl ⟨by rfl, fun W hSw => ?_⟩) hHeld ?_
          · dsimp only at hSw
            go_simp
          try simp only [Act.put, List.setIfInBounds_toArray, List.set_cons_zero, List.set_cons_succ]
          refine wpAnyH_take (i := 15) (oi := { dst := some 42, op := Op.fieldAddr 211 (Operand.tmp 41) 1, type := 0, pos := "drive.go:97", after := #[{ on := 14, ground := Ground.data }, { on := 0, ground := Ground.phase }, { on := 1, ground := Ground.phase }, { on := 2, ground := Ground.phase }, { on := 3, ground := Ground.phase }, { on := 4, ground := Ground.phase }, { on := 5, ground := Ground.phase }, { on := 6, ground := Ground.phase }, { on := 7, ground := Ground.phase }, { on := 8, ground := Ground.phase }, { on := 9, ground := Ground.phase }, { on := 10, ground := Ground.phase }, { on := 11, ground := Ground.phase }, { on := 12, ground := Ground.phase }, { on := 13, ground := Ground.phase }], guard := none }) (v := .pointer (some ⟨g, 1, none⟩)) rfl (by kernel_rfl) (by kernel_rfl) (by kernel_rfl) (fun _ _ _ h => h) (Or.inl ⟨by rfl, fun W hSw => ?_⟩) hHeld ?_
          · dsimp only at hSw
            go_simp
          try simp only [Act.put, List.setIfInBounds_toArray, List.set_cons_zero, List.set_cons_succ]
          refine wpAnyH_ready (rs := [16]) (by kernel_rfl) (by simp) (AllReadyH.cons (o := { dst := none, op := Op.store 209 (Operand.tmp 42) (Operand.tmp 40), type := 0, pos := "drive.go:97", after := #[{ on := 15, ground := Ground.data }, { on := 13, ground := Ground.data }, { on := 13, ground := Ground.chain }, { on := 0, ground := Ground.phase }, { on := 1, ground := Ground.phase }, { on := 2, ground := Ground.phase }, { on := 3, ground := Ground.phase }, { on := 4, ground := Ground.phase }, { on := 5, ground := Ground.phase }, { on := 6, ground := Ground.phase }, { on := 7, ground := Ground.phase }, { on := 8, ground := Ground.phase }, { on := 9, ground := Ground.phase }, { on := 10, ground := Ground.phase }, { on := 11, ground := Ground.phase }, { on := 12, ground := Ground.phase }, { on := 13, ground := Ground.phase }], guard := none }) rfl (fun K hK => ?_) AllReadyH.nil)
          go_simp
          refine hK.out _ _ (PutR.set hHeld hkg 1 _) (fun hHeld => ?_)
          clear hK K
          try simp only [Act.put, List.setIfInBounds_toArray, List.set_cons_zero, List.set_cons_succ]
          refine wpAnyH_done (by kernel_rfl) ?_ _
          go_wp2_with fail
          go_roundw
          case rel =>
            have hv8 := HV4.out.trans HV7.out
            exact ⟨i + 1, by omega, by go_num, hid ⟨A2, c2, _, HD7.out, hv8, hHeld.1, HZ.out, by show -1 ≤ max (D1.fuse - 1) (-1); omega, by show max (D1.fuse - 1) (-1) ≤ 9223372036854775807; omega, HSL.out, by show (D1.list ++ [(x.n, x.d)]).length = _; rw [List.length_append, HLL.out]; simp; omega, by rw [HGO.out, if_neg H0.out]; rfl, by have := hv8.size; simp at this ⊢; omega⟩⟩
          case measure => simp [intOf]; omega
        · refine st_slice209 (by rfl) (.tmp 38) (by rfl) (x.n, x.d) (by rfl) HXL.out ?_
          refine hK.out _ _ (PutR.alloc hHeld _) (fun hHeld => ?_)
          clear hK K
          try simp only [Act.put, List.setIfInBounds_toArray, List.set_cons_zero, List.set_cons_succ]
          refine wpAnyH_ready (rs := [4]) (by kernel_rfl) (by simp) (AllReadyH.cons (o := { dst := some 31, op := Op.load 209 (Operand.tmp 30), type := 209, pos := "drive.go:97", after := #[{ on := 3, ground := Ground.data }], guard := none }) rfl (fun K hK => ?_) AllReadyH.nil)
          go_simp
          refine hK.out _ _ hHeld (fun hHeld => ?_)
          clear hK K
          try simp only [Act.put, List.setIfInBounds_toArray, List.set_cons_zero, List.set_cons_succ]
          refine wpAnyH_ready (rs := [13]) (by kernel_rfl) (by simp) (AllReadyH.cons (o := { dst := some 40, op := Op.call { callee := Callee.builtin Builtin.append, args := #[Operand.tmp 31, Operand.tmp 39], argTypes := #[209, 209] }, type := 209, pos := "drive.go:97", after := #[{ on := 4, ground := Ground.data }, { on := 12, ground := Ground.data }], guard := none }) rfl (fun K hK => ?_) AllReadyH.nil)
          refine st_wait (m := 1) (by rfl) (.tmp 31) (.tmp 39) (by rfl) 0 (by rfl) HOWN.out (by rfl) HSRC.out (by have := HLL.out; omega) (Nat.zero_le _) ?_
          intro A2 c2 w6 ho6 hg6 hA2
          refine hK.out _ _ (PutR.grown hHeld hg6 HBA.out) (fun hHeld => ?_)
          clear hK K
          try simp only [Act.put, List.setIfInBounds_toArray, List.set_cons_zero, List.set_cons_succ]
          obtain ⟨hd7, hv7⟩ := HD5.out.push (((Below.refl _ _).drew).alloc (Nat.le_refl _) _) hg6 (x.n, x.d) ho6 hA2 ⟨HXL.out, hxo.1, by have := HSL.out; show x.n < (D1.sure.length : Int); omega⟩
          have kh6 := (show w6.heap[g]? = _ from (hg6.block g (by simp; omega) (fun e => (HD5.out.2.2.2.2.2 g e.symm).1 rfl)).trans (HD5.out.drew.alloc (.cells (rowL (x.n, x.d)).toArray 216)).head)
          obtain ⟨-, c61, -, -, hf6, -⟩ := Head4.facts kh6
          have HD7 := hid hd7
          have HV7 := hid hv7
          clear hd7 hv7 kh6 ho6 hg6 hA2
          refine wpAnyH_take (i := 14) (oi := { dst := some 41, op := Op.nilCheck (Operand.tmp 27), type := 0, pos := "drive.go:97", after := #[{ on := 0, ground := Ground.data }, { on := 0, ground := Ground.phase }, { on := 1, ground := Ground.phase }, { on := 2, ground := Ground.phase }, { on := 3, ground := Ground.phase }, { on := 4, ground := Ground.phase }, { on := 5, ground := Ground.phase }, { on := 6, ground := Ground.phase }, { on := 7, ground := Ground.phase }, { on := 8, ground := Ground.phase }, { on := 9, ground := Ground.phase }, { on := 10, ground := Ground.phase }, { on := 11, ground := Ground.phase }, { on := 12, ground := Ground.phase }, { on := 13, ground := Ground.phase }], guard := none }) (v := .pointer (some ⟨g, 0, none⟩)) rfl (by kernel_rfl) (by kernel_rfl) (by kernel_rfl) (fun _ _ _ h => h) (Or.inl ⟨by rfl, fun W hSw => ?_⟩) hHeld ?_
          · dsimp only at hSw
            go_simp
          try simp only [Act.put, List.setIfInBounds_toArray, List.set_cons_zero, List.set_cons_succ]
          refine wpAnyH_take (i := 15) (oi := { dst := some 42, op := Op.fieldAddr 211 (Operand.tmp 41) 1, type := 0, pos := "drive.go:97", after := #[{ on := 14, ground := Ground.data }, { on := 0, ground := Ground.phase }, { on := 1, ground := Ground.phase }, { on := 2, ground := Ground.phase }, { on := 3, ground := Ground.phase }, { on := 4, ground := Ground.phase }, { on := 5, ground := Ground.phase }, { on := 6, ground := Ground.phase }, { on := 7, ground := Ground.phase }, { on := 8, ground := Ground.phase }, { on := 9, ground := Ground.phase }, { on := 10, ground := Ground.phase }, { on := 11, ground := Ground.phase }, { on := 12, ground := Ground.phase }, { on := 13, ground := Ground.phase }], guard := none }) (v := .pointer (some ⟨g, 1, none⟩)) rfl (by kernel_rfl) (by kernel_rfl) (by kernel_rfl) (fun _ _ _ h => h) (Or.inl ⟨by rfl, fun W hSw => ?_⟩) hHeld ?_
          · dsimp only at hSw
            go_simp
          try simp only [Act.put, List.setIfInBounds_toArray, List.set_cons_zero, List.set_cons_succ]
          refine wpAnyH_ready (rs := [16]) (by kernel_rfl) (by simp) (AllReadyH.cons (o := { dst := none, op := Op.store 209 (Operand.tmp 42) (Operand.tmp 40), type := 0, pos := "drive.go:97", after := #[{ on := 15, ground := Ground.data }, { on := 13, ground := Ground.data }, { on := 13, ground := Ground.chain }, { on := 0, ground := Ground.phase }, { on := 1, ground := Ground.phase }, { on := 2, ground := Ground.phase }, { on := 3, ground := Ground.phase }, { on := 4, ground := Ground.phase }, { on := 5, ground := Ground.phase }, { on := 6, ground := Ground.phase }, { on := 7, ground := Ground.phase }, { on := 8, ground := Ground.phase }, { on := 9, ground := Ground.phase }, { on := 10, ground := Ground.phase }, { on := 11, ground := Ground.phase }, { on := 12, ground := Ground.phase }, { on := 13, ground := Ground.phase }], guard := none }) rfl (fun K hK => ?_) AllReadyH.nil)
          go_simp
          refine hK.out _ _ (PutR.set hHeld hkg 1 _) (fun hHeld => ?_)
          clear hK K
          try simp only [Act.put, List.setIfInBounds_toArray, List.set_cons_zero, List.set_cons_succ]
          refine wpAnyH_done (by kernel_rfl) ?_ _
          go_wp2_with fail
          go_roundw
          case rel =>
            have hv8 := HV4.out.trans HV7.out
            exact ⟨i + 1, by omega, by go_num, hid ⟨A2, c2, _, HD7.out, hv8, hHeld.1, HZ.out, by show -1 ≤ max (D1.fuse - 1) (-1); omega, by show max (D1.fuse - 1) (-1) ≤ 9223372036854775807; omega, HSL.out, by show (D1.list ++ [(x.n, x.d)]).length = _; rw [List.length_append, HLL.out]; simp; omega, by rw [HGO.out, if_neg H0.out]; rfl, by have := hv8.size; simp at this ⊢; omega⟩⟩
          case measure => simp [intOf]; omega
    · have hk : i = ws.length := by omega
      subst hk
      rw [List.drop_length] at hgo1
      have HGO := hid hgo1
      have HD1 := hid hd1
      have HV1 := hid hv1
      clear hlti hi hd1 hv1 hk1 hz1 hlo1 hup1 hsl1 hll1 hgo1 hsz1 HS
      go_wp2_with fail
      go_ret
      exact ⟨by rw [HGO.out]; rfl, A1, c1, by rw [HGO.out]; exact HD1.out, HV1.out⟩
end Go.Proofs.Ytppbcdcmpcagdaa
