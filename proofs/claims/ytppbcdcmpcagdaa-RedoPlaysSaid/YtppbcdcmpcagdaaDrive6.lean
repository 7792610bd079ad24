/- Contract of Put, whole. -/
import Derived.Test.YtppbcdcmpcagdaaDrive5
namespace Go.Proofs.Ytppbcdcmpcagdaa
open Go.RowKit Go.CP

theorem any_out (ws : List Wri) (n : Nat) : ws.any (fun x => decide (x.n < 0) || decide ((n : Int) ≤ x.n)) = outB n (wl ws) := by
  rw [outB, wl, List.any_map]; rfl
theorem any_len (ws : List Wri) : ws.any (fun x => x.d.length != 128) = lenB (wl ws) := by
  rw [lenB, wl, List.any_map]; rfl

set_option maxHeartbeats 1000000 in
theorem put_out (W : World) (g s : Nat) (A : Option Addr) (c : Nat) (D : Drv) (h : DriveIs W g s A c D) (hd : D.dead = false) (LA : Option Addr) (ws : List Wri) (cw : Nat) (hw : Wrs W LA ws)
    (hn : ws.length ≤ 140737488351232) (b : Bool) (ho : outB D.sure.length (wl ws) = !b) (hl : b = true → lenB (wl ws) = true) :
    Calls Try.prog 100 #[.pointer (some ⟨g, 0, none⟩), .slice LA ws.length cw] W (RetDrv W g s A (if b then 1 else 4, D)) := by
  have hr := ready_any (W.alloc (.cells #[.pointer (some ⟨g, 0, none⟩)] 131)) g _ _ _ _ (h.alloc (.cells #[.pointer (some ⟨g, 0, none⟩)] 131)).head
  rw [hd] at hr
  have HR := hid hr
  have hk0 : (W.alloc (.cells #[.pointer (some ⟨g, 0, none⟩)] 131)).cell? ⟨W.heap.size, 0, none⟩ = some (.pointer (some ⟨g, 0, none⟩)) := by simp
  have H1 := hid (h.alloc (.cells #[.pointer (some ⟨g, 0, none⟩)] 131))
  have HW := hid (Cells.alloc hw (.cells #[.pointer (some ⟨g, 0, none⟩)] 131))
  have HC1 := containsW_any LA ws cw (W.alloc (.cells #[.pointer (some ⟨g, 0, none⟩)] 131)) HW.out (by omega) 164 #[.pointer (some ⟨W.heap.size, 0, none⟩)] _ (enters_of Try.func164 (by kernel_rfl) rfl)
    (fun W' x hb => out_any x W.heap.size g s D.sure.length _ _ _ W' ((hb.cell (p := ⟨W.heap.size, 0, none⟩) (by simp)).trans hk0) (H1.out.below hb (Nat.le_refl _)).head)
  rw [any_out, ho] at HC1
  have HC1 := hid HC1
  have HC2 := hid (fun W' (hb : Below (W.alloc (.cells #[.pointer (some ⟨g, 0, none⟩)] 131)).heap.size (W.alloc (.cells #[.pointer (some ⟨g, 0, none⟩)] 131)) W') => containsW_any LA ws cw W' (HW.out.below hb (Nat.le_refl _)) (by omega) 165 #[] _ (enters_of Try.func165 (by kernel_rfl) rfl) (fun W' x _ => len_any x W'))
  rw [any_len] at HC2
  have HH := hid h
  have HHL := hid hl
  clear hr h hd hw ho hk0 hl
  cases b with
  | false =>
    go_enter Try.func100, Try.ntmps100
    go_wp2_with fail
    refine HR.out.mono ?_
    rintro e w1 ⟨rfl, rfl⟩
    go_wp2_with fail
    refine HC1.out.mono ?_
    rintro e w2 ⟨rfl, hb2⟩
    have hb02 : Below W.heap.size W w2 := ((Below.refl _ W).alloc (Nat.le_refl _) _).trans (hb2.mono (by simp))
    go_wp2
    go_ret
    exact ⟨rfl, A, c, HH.out.below hb02 (Nat.le_refl _), Drove.of_below hb02⟩
  | true =>
    rw [HHL.out rfl] at HC2
    go_enter Try.func100, Try.ntmps100
    go_wp2_with fail
    refine HR.out.mono ?_
    rintro e w1 ⟨rfl, rfl⟩
    go_wp2_with fail
    refine HC1.out.mono ?_
    rintro e w2 ⟨rfl, hb2⟩
    have HC3 := hid (HC2.out w2 hb2)
    clear HC1 HC2 HR
    go_wp2_with fail
    refine HC3.out.mono ?_
    rintro e w3 ⟨rfl, hb3⟩
    have hb03 : Below W.heap.size W w3 := (((Below.refl _ W).alloc (Nat.le_refl _) _).trans (hb2.mono (by simp))).trans (hb3.mono (by have := hb2.size; simp at this; omega))
    go_wp2
    go_ret
    exact ⟨rfl, A, c, HH.out.below hb03 (Nat.le_refl _), Drove.of_below hb03⟩

/-- Writes that may be handed to a drive: their rows are none of its own. -/
structure Feed (W : World) (g s : Nat) (A LA : Option Addr) (ws : List Wri) : Prop where
  list : Wrs W LA ws
  rows : ∀ x ∈ ws, Bytes W x.a x.d
  far : 0 < ws.length → Far LA A g s
  fars : ∀ x ∈ ws, 0 < x.d.length → Far x.a A g s
  caps : ∀ x ∈ ws, x.d.length ≤ x.c
theorem drv_put (W : World) (g s : Nat) (A : Option Addr) (c : Nat) (D : Drv) (h : DriveIs W g s A c D) (hlo : -1 ≤ D.fuse) (hup : D.fuse ≤ 9223372036854775807)
    (LA : Option Addr) (ws : List Wri) (cw : Nat) (hf : Feed W g s A LA ws) (hn : D.list.length + ws.length ≤ 1000000000000) :
    Calls Try.prog 100 #[.pointer (some ⟨g, 0, none⟩), .slice LA ws.length cw] W (RetDrv W g s A (D.put (wl ws))) := by
  unfold Drv.put
  split
  · next hd => exact put_dead W g s A c D h hd _
  · next hd =>
    have hd' : D.dead = false := by simpa using hd
    split
    · next ho => exact put_out W g s A c D h hd' LA ws cw hf.list (by omega) false ho (fun h => by cases h)
    · next ho =>
      have ho' : outB D.sure.length (wl ws) = false := by simpa using ho
      split
      · next hl => exact put_out W g s A c D h hd' LA ws cw hf.list (by omega) true ho' (fun _ => hl)
      · next hl => exact put_loop W g s A c D h hd' hlo hup LA ws cw hf.list hf.rows hf.far hf.fars hf.caps hn ho' (by simpa using hl)
end Go.Proofs.Ytppbcdcmpcagdaa
