/- Contracts of package verb: Answer, Short. -/
import Derived.Test.YtppbcdcmpcagdaaVerbT
namespace Go.Proofs.Ytppbcdcmpcagdaa
open Go.RowKit Go.CP

set_option maxRecDepth 100000 in
theorem short_err (r : Rp) (A : Option Addr) (c : Nat) (B : Option Addr) (cb : Nat) (w : World) (hn : Strs w B r.names) (h : goodR r = false) : Calls Try.prog 94 #[rval r A c B cb] w fun e w' => e = .returned (.slice none 0 0) ∧ Below w.heap.size w w' := by
  have hg := fun W (hb : Below w.heap.size w W) => right_any r A c B cb W (fun _ => Cells.below hn hb (Nat.le_refl _))
  rw [h] at hg
  have HG := hid (hg (w.alloc (.cells (rcells r A c B cb).toArray 112)) ((Below.refl _ _).alloc (Nat.le_refl _) _))
  have HBW : Hid (Below w.heap.size w (w.alloc (.cells (rcells r A c B cb).toArray 112))) := hid ((Below.refl _ _).alloc (Nat.le_refl _) _)
  clear hg h hn
  obtain ⟨life, seq, epoch, err, node, gen, kind, links, size, change, data, names⟩ := r
  simp only [rval, rcells] at HG HBW ⊢
  go_enter Try.func94, Try.ntmps94
  go_wp2_with fail
  refine HG.out.mono ?_
  rintro e w1 ⟨rfl, hb1⟩
  have HB := hid (below_t HBW.out hb1 (by simp))
  clear hb1 HG HBW
  go_wp2_with fail
  go_ret
  exact ⟨rfl, HB.out⟩
set_option maxRecDepth 100000 in
theorem ans_err (r : Rp) (A : Option Addr) (c : Nat) (B : Option Addr) (cb : Nat) (w : World) (hn : Strs w B r.names) (h : goodR r = false) : Calls Try.prog 87 #[rval r A c B cb] w fun e w' => e = .returned (.tuple #[.slice none 0 0, .int .i64 2]) ∧ Below w.heap.size w w' := by
  have hg := fun W (hb : Below w.heap.size w W) => right_any r A c B cb W (fun _ => Cells.below hn hb (Nat.le_refl _))
  rw [h] at hg
  have HG := hid (hg (w.alloc (.cells (rcells r A c B cb).toArray 112)) ((Below.refl _ _).alloc (Nat.le_refl _) _))
  have HBW : Hid (Below w.heap.size w (w.alloc (.cells (rcells r A c B cb).toArray 112))) := hid ((Below.refl _ _).alloc (Nat.le_refl _) _)
  clear hg h hn
  obtain ⟨life, seq, epoch, err, node, gen, kind, links, size, change, data, names⟩ := r
  simp only [rval, rcells] at HG HBW ⊢
  go_enter Try.func87, Try.ntmps87
  go_wp2_with fail
  refine HG.out.mono ?_
  rintro e w1 ⟨rfl, hb1⟩
  have HB := hid (below_t HBW.out hb1 (by simp))
  clear hb1 HG HBW
  go_wp2_with fail
  go_ret2
  exact ⟨rfl, HB.out⟩
set_option maxHeartbeats 4000000 in
set_option maxRecDepth 100000 in
theorem short_ok (r : Rp) (A : Option Addr) (c : Nat) (B : Option Addr) (cb : Nat) (w : World) (hn : Strs w B r.names) (h : goodR r = true) : Calls Try.prog 94 #[rval r A c B cb] w (RetB w w.heap.size (shortL r)) := by
  have hg := fun W (hb : Below w.heap.size w W) => right_any r A c B cb W (fun _ => Cells.below hn hb (Nat.le_refl _))
  rw [h] at hg
  have HBW : Hid (Below w.heap.size w (w.alloc (.cells (rcells r A c B cb).toArray 112))) := hid ((Below.refl _ _).alloc (Nat.le_refl _) _)
  have HG := hid (fun (_ : Unit) => hg (w.alloc (.cells (rcells r A c B cb).toArray 112)) HBW.out)
  have HF := hid (goodR_facts h)
  have HS : Hid (shortL r = [] ++ numsL [r.err] ++ numsL r.stat) := hid (by rw [shortL, if_pos h]; rfl)
  obtain ⟨sh, hsh⟩ : ∃ sh, shortL r = sh := ⟨_, rfl⟩
  rw [hsh] at HS ⊢
  clear hg h hn hsh
  obtain ⟨life, seq, epoch, err, node, gen, kind, links, size, change, data, names⟩ := r
  have HX : Hid (Blk (w.alloc (.cells (rcells ⟨life, seq, epoch, err, node, gen, kind, links, size, change, data, names⟩ A c B cb).toArray 112)) w.heap.size 112 (rcells ⟨life, seq, epoch, err, node, gen, kind, links, size, change, data, names⟩ A c B cb)) := hid (Blk.new w 112 _)
  simp only [rval, rcells] at HBW HX HG ⊢
  have HST := hid (fun W => vstat_any node gen kind links size change W)
  have HN1 := hid (fun W => nums_any W.heap.size none [] 0 (some ⟨W.heap.size, 0, none⟩) [err] 1 (W.alloc (.cells (List.map iv [err]).toArray 3)) (Go.CP.Own.none _ _ _ _) (by simp) (ints_lit W [err] 3) (fun n hn => by have := HF.out.1 n (by simp [Rp.heads, Rp.stat] at hn ⊢; omega); omega) (by simp) (by simp))
  simp only [List.map_cons, List.map_nil, iv] at HN1
  go_enter Try.func94, Try.ntmps94
  go_wp2_with fail
  refine (HG.out ()).mono ?_
  rintro e w1 ⟨rfl, hb1⟩
  have HX1 := hid (HX.out.below hb1)
  have HB1 := hid (below_t HBW.out hb1 (by simp))
  have hkeep : ∀ W, Below w1.heap.size w1 W → W.cell? ⟨w.heap.size, 3, none⟩ = some (.int .i64 err) ∧ W.cell? ⟨w.heap.size, 4, none⟩ = some (.int .i64 node) ∧ W.cell? ⟨w.heap.size, 5, none⟩ = some (.int .i64 gen) ∧ W.cell? ⟨w.heap.size, 6, none⟩ = some (.int .i64 kind) ∧ W.cell? ⟨w.heap.size, 7, none⟩ = some (.int .i64 links) ∧ W.cell? ⟨w.heap.size, 8, none⟩ = some (.int .i64 size) ∧ W.cell? ⟨w.heap.size, 9, none⟩ = some (.int .i64 change) := fun W hb => by
    have hx := HX1.out.below hb
    exact ⟨hx.cell (j := 3) rfl, hx.cell (j := 4) rfl, hx.cell (j := 5) rfl, hx.cell (j := 6) rfl, hx.cell (j := 7) rfl, hx.cell (j := 8) rfl, hx.cell (j := 9) rfl⟩
  have HK := hid hkeep
  clear hb1 hkeep HX HBW HG
  go_wp2_with fail
  go_region_held3 (fun W => W.cell? ⟨w.heap.size, 3, none⟩ = some (.int .i64 err) ∧ W.cell? ⟨w.heap.size, 4, none⟩ = some (.int .i64 node) ∧ W.cell? ⟨w.heap.size, 5, none⟩ = some (.int .i64 gen) ∧ W.cell? ⟨w.heap.size, 6, none⟩ = some (.int .i64 kind) ∧ W.cell? ⟨w.heap.size, 7, none⟩ = some (.int .i64 links) ∧ W.cell? ⟨w.heap.size, 8, none⟩ = some (.int .i64 size) ∧ W.cell? ⟨w.heap.size, 9, none⟩ = some (.int .i64 change))
    (first | exact HK.out _ (Below.drew (Below.refl _ _)) | exact HK.out _ (Below.alloc (Below.drew (Below.refl _ _)) (Nat.le_refl _) _) | exact HK.out _ hk2 | exact HK.out _ hk3 | exact HK.out _ hk4 | assumption)
    (first
      | (go_at_call_of 146 (Value.slice none 0 0); refine (HN1.out w1.drew).mono ?_; rintro e w2 ⟨A2, c2, m2, rfl, HR2⟩; have hk2 : Below w1.heap.size w1 w2 := below_t (Below.alloc (Below.drew (Below.refl _ _)) (Nat.le_refl _) _) HR2.out.2.2 (by simp))
      | (go_at_call 159; refine (HST.out w2).mono ?_; rintro e w3 ⟨A3, c3, m3, rfl, HR3⟩; have hk3 : Below w1.heap.size w1 w3 := below_t hk2 HR3.out.2.2 hk2.size; obtain rfl : m3 = [node, gen, kind, links, size, change] := HR3.out.1)
      | (go_at_call 146; refine (nums_any w1.heap.size A2 m2 c2 A3 [node, gen, kind, links, size, change] c3 w3 ((HR2.out.2.1.below HR3.out.2.2 (Nat.le_refl _)).mono (by simp)) hk3.size HR3.out.2.1.cells (fun n hn => by have := HF.out.1 n (by simp [Rp.heads, Rp.stat] at hn ⊢; omega); omega) (by rw [HR2.out.1]; simp [numsL_len]) (by simp)).mono ?_; rintro e w4 ⟨A4, c4, m4, rfl, HR4⟩; have hk4 : Below w1.heap.size w1 w4 := below_t hk3 HR4.out.2.2 hk3.size))
  go_wp2_with fail
  go_ret
  exact ⟨A4, c4, m4, rfl, hid ⟨by rw [HR4.out.1, HR2.out.1, HS.out]; rfl, HR4.out.2.1.mono HB1.out.size, below_t HB1.out hk4 HB1.out.size⟩⟩
end Go.Proofs.Ytppbcdcmpcagdaa
