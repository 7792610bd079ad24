/- Contracts of the reference of package verb: Short, Answer. -/
import Derived.Test.YtppbcdcmpcagdaaVerbU
import Derived.Test.YtppbcdcmpcagdaaVerb9
namespace Go.Proofs.Ytppbcdcmpcagdaa
open Go.RowKit Go.CP

set_option maxRecDepth 100000 in
theorem rshort_err (r : Rp) (A : Option Addr) (c : Nat) (B : Option Addr) (cb : Nat) (w : World) (hn : Strs w B r.names) (h : goodR r = false) : Calls Try.prog 95 #[rval r A c B cb] w fun e w' => e = .returned (.string (bstr [])) ∧ Below w.heap.size w w' := by
  have hg := fun W (hb : Below w.heap.size w W) => rright_any r A c B cb W (Cells.below hn hb (Nat.le_refl _))
  rw [h] at hg
  have HG := hid (hg (w.alloc (.cells (rcells r A c B cb).toArray 112)) ((Below.refl _ _).alloc (Nat.le_refl _) _))
  have HBW : Hid (Below w.heap.size w (w.alloc (.cells (rcells r A c B cb).toArray 112))) := hid ((Below.refl _ _).alloc (Nat.le_refl _) _)
  clear hg h hn
  obtain ⟨life, seq, epoch, err, node, gen, kind, links, size, change, data, names⟩ := r
  simp only [rval, rcells] at HG HBW ⊢
  go_enter Try.func95, Try.ntmps95
  go_wp2_with fail
  refine HG.out.mono ?_
  rintro e w1 ⟨rfl, hb1⟩
  have HB := hid (below_t HBW.out hb1 (by simp))
  clear hb1 HG HBW
  go_wp2_with fail
  go_ret
  exact ⟨rfl, HB.out⟩
set_option maxRecDepth 100000 in
theorem ranswer_err (r : Rp) (A : Option Addr) (c : Nat) (B : Option Addr) (cb : Nat) (w : World) (hn : Strs w B r.names) (h : goodR r = false) : Calls Try.prog 88 #[rval r A c B cb] w fun e w' => e = .returned (.tuple #[.string (bstr []), .int .i64 2]) ∧ Below w.heap.size w w' := by
  have hg := fun W (hb : Below w.heap.size w W) => rright_any r A c B cb W (Cells.below hn hb (Nat.le_refl _))
  rw [h] at hg
  have HG := hid (hg (w.alloc (.cells (rcells r A c B cb).toArray 112)) ((Below.refl _ _).alloc (Nat.le_refl _) _))
  have HBW : Hid (Below w.heap.size w (w.alloc (.cells (rcells r A c B cb).toArray 112))) := hid ((Below.refl _ _).alloc (Nat.le_refl _) _)
  clear hg h hn
  obtain ⟨life, seq, epoch, err, node, gen, kind, links, size, change, data, names⟩ := r
  simp only [rval, rcells] at HG HBW ⊢
  go_enter Try.func88, Try.ntmps88
  go_wp2_with fail
  refine HG.out.mono ?_
  rintro e w1 ⟨rfl, hb1⟩
  have HB := hid (below_t HBW.out hb1 (by simp))
  clear hb1 HG HBW
  go_wp2_with fail
  go_ret2
  exact ⟨rfl, HB.out⟩
set_option maxHeartbeats 4000000 in
set_option maxRecDepth 100000 in
theorem rshort_ok (r : Rp) (A : Option Addr) (c : Nat) (B : Option Addr) (cb : Nat) (w : World) (hn : Strs w B r.names) (h : goodR r = true) : Calls Try.prog 95 #[rval r A c B cb] w fun e w' => e = .returned (.string (bstr (shortL r))) ∧ Below w.heap.size w w' := by
  have hg := fun W (hb : Below w.heap.size w W) => rright_any r A c B cb W (Cells.below hn hb (Nat.le_refl _))
  rw [h] at hg
  have HBW : Hid (Below w.heap.size w (w.alloc (.cells (rcells r A c B cb).toArray 112))) := hid ((Below.refl _ _).alloc (Nat.le_refl _) _)
  have HG := hid (fun (_ : Unit) => hg (w.alloc (.cells (rcells r A c B cb).toArray 112)) HBW.out)
  have HF := hid (goodR_facts h)
  have HS : Hid (numsL [r.err] ++ numsL r.stat = shortL r) := hid (by rw [shortL, if_pos h]; rfl)
  obtain ⟨sh, hsh⟩ : ∃ sh, shortL r = sh := ⟨_, rfl⟩
  rw [hsh] at HS ⊢
  clear hg h hn hsh
  obtain ⟨life, seq, epoch, err, node, gen, kind, links, size, change, data, names⟩ := r
  have HX : Hid (Blk (w.alloc (.cells (rcells ⟨life, seq, epoch, err, node, gen, kind, links, size, change, data, names⟩ A c B cb).toArray 112)) w.heap.size 112 (rcells ⟨life, seq, epoch, err, node, gen, kind, links, size, change, data, names⟩ A c B cb)) := hid (Blk.new w 112 _)
  simp only [rval, rcells, Rp.stat] at HBW HX HG HS ⊢
  have hn1 : (numsL [err]).length = 4 := by rw [numsL_len]; rfl
  have hn2 : (numsL [node, gen, kind, links, size, change]).length = 24 := by rw [numsL_len]; rfl
  have HST := hid (fun W => rstat_any node gen kind links size change W)
  have HNS1 := hid (fun W => rvnums_any (some ⟨W.heap.size, 0, none⟩) [err] 1 (W.alloc (.cells (List.map iv [err]).toArray 3)) (ints_lit W [err] 3) (fun n hn => by have := HF.out.1 n (by simp [Rp.heads, Rp.stat] at hn ⊢; omega); omega) (by simp))
  have HNS2 := hid (fun g W (hi : Ints W (some ⟨g, 0, none⟩) [node, gen, kind, links, size, change]) => rvnums_any (some ⟨g, 0, none⟩) [node, gen, kind, links, size, change] 6 W hi (fun n hn => by have := HF.out.1 n (by simp [Rp.heads, Rp.stat] at hn ⊢; omega); omega) (by simp))
  obtain ⟨N1, hN1⟩ : ∃ N, numsL [err] = N := ⟨_, rfl⟩
  obtain ⟨N2, hN2⟩ : ∃ N, numsL [node, gen, kind, links, size, change] = N := ⟨_, rfl⟩
  rw [hN1] at hn1 HNS1 HS
  rw [hN2] at hn2 HNS2 HS
  simp only [List.map_cons, List.map_nil, iv] at HNS1
  have a1 : ¬ 9223372036854775807 < N1.length + N2.length := by omega
  clear hN1 hN2 hn1 hn2
  go_enter Try.func95, Try.ntmps95
  go_wp2_with fail
  refine (HG.out ()).mono ?_
  rintro e w1 ⟨rfl, hb1⟩
  have HX1 := hid (HX.out.below hb1)
  have HB1 := hid (below_t HBW.out hb1 (by simp))
  have hkeep : ∀ W, Below w1.heap.size w1 W → W.cell? ⟨w.heap.size, 3, none⟩ = some (.int .i64 err) ∧ W.cell? ⟨w.heap.size, 4, none⟩ = some (.int .i64 node) ∧ W.cell? ⟨w.heap.size, 5, none⟩ = some (.int .i64 gen) ∧ W.cell? ⟨w.heap.size, 6, none⟩ = some (.int .i64 kind) ∧ W.cell? ⟨w.heap.size, 7, none⟩ = some (.int .i64 links) ∧ W.cell? ⟨w.heap.size, 8, none⟩ = some (.int .i64 size) ∧ W.cell? ⟨w.heap.size, 9, none⟩ = some (.int .i64 change) := fun W hb => by
    have hx := HX1.out.below hb
    exact ⟨hx.cell (j := 3) rfl, hx.cell (j := 4) rfl, hx.cell (j := 5) rfl, hx.cell (j := 6) rfl, hx.cell (j := 7) rfl, hx.cell (j := 8) rfl, hx.cell (j := 9) rfl⟩
  have HK := hid hkeep
  clear hb1 hkeep HX HBW HG
  go_wp2_with fail
  go_region_held3 (fun W => W.cell? ⟨w.heap.size, 3, none⟩ = some (.int .i64 err) ∧ W.cell? ⟨w.heap.size, 4, none⟩ = some (.int .i64 node) ∧ W.cell? ⟨w.heap.size, 5, none⟩ = some (.int .i64 gen) ∧ W.cell? ⟨w.heap.size, 6, none⟩ = some (.int .i64 kind) ∧ W.cell? ⟨w.heap.size, 7, none⟩ = some (.int .i64 links) ∧ W.cell? ⟨w.heap.size, 8, none⟩ = some (.int .i64 size) ∧ W.cell? ⟨w.heap.size, 9, none⟩ = some (.int .i64 change))
    (first | exact HK.out _ (Below.drew (Below.refl _ _)) | exact HK.out _ (Below.alloc (Below.drew (Below.refl _ _)) (Nat.le_refl _) _) | exact HK.out _ hk2 | exact HK.out _ hk3 | exact HK.out _ hk4 | assumption)
    (first
      | (go_at_call_of 148 (Value.slice (some ⟨w1.drew.heap.size, 0, none⟩) 1 1); refine (HNS1.out w1.drew).mono ?_; rintro e w2 ⟨rfl, hb2⟩; have hk2 : Below w1.heap.size w1 w2 := below_t (Below.alloc (Below.drew (Below.refl _ _)) (Nat.le_refl _) _) hb2 (by simp))
      | (go_at_call 160; refine (HST.out w2).mono ?_; rintro e w3 ⟨g3, rfl, HR3⟩; have hk3 : Below w1.heap.size w1 w3 := below_t hk2 HR3.out.2 hk2.size)
      | (go_at_call 148; refine (HNS2.out g3 w3 HR3.out.1).mono ?_; rintro e w4 ⟨rfl, hb4⟩; have hk4 : Below w1.heap.size w1 w4 := below_t hk3 hb4 hk3.size)
      | (go_at_call 148; refine (HNS1.out w1.drew).mono ?_; rintro e w2 ⟨rfl, hb2⟩; have hk2 : Below w1.heap.size w1 w2 := below_t (Below.alloc (Below.drew (Below.refl _ _)) (Nat.le_refl _) _) hb2 (by simp))
      | fail "arm")
  go_wp2_with fail
  go_ret
  exact ⟨ret_string (by rw [bstr_append, HS.out]), below_t HB1.out hk4 HB1.out.size⟩
theorem rshort_any (r : Rp) (A : Option Addr) (c : Nat) (B : Option Addr) (cb : Nat) (w : World) (hn : Strs w B r.names) : Calls Try.prog 95 #[rval r A c B cb] w fun e w' => e = .returned (.string (bstr (shortL r))) ∧ Below w.heap.size w w' := by
  cases h : goodR r with
  | true => exact rshort_ok r A c B cb w hn h
  | false =>
    rw [show shortL r = [] by rw [shortL, h]; rfl]
    exact rshort_err r A c B cb w hn h
end Go.Proofs.Ytppbcdcmpcagdaa
