/- Contract of package verb: Call. -/
import Derived.Test.YtppbcdcmpcagdaaVerb6
namespace Go.Proofs.Ytppbcdcmpcagdaa
open Go.RowKit Go.CP

def ccells (r : Rc) : List Value := [.int .i64 r.epoch, .int .i64 r.node, .int .i64 r.gen]
def cval (r : Rc) : Value := .agg (ccells r).toArray
/-- What Call hands back. -/
def RetCall (r : Rc) (w : World) (e : Ending) (w' : World) : Prop :=
  (goodC r = true ∧ ∃ A c m, e = .returned (.tuple #[.slice A (List.length m) c, .int .i64 0]) ∧ Hid (m = frameL 67 (callL r) ∧ Go.CP.Own w' w.heap.size 5 1 A m.length c (m.map bv) ∧ Below w.heap.size w w')) ∨
  (goodC r = false ∧ e = .returned (.tuple #[.slice none 0 0, .int .i64 2]) ∧ Hid (Below w.heap.size w w'))
set_option maxHeartbeats 1000000 in
set_option maxRecDepth 100000 in
theorem call_any (r : Rc) (w : World) : Calls Try.prog 91 #[cval r] w (RetCall r w) := by
  have hcl : (callL r).length = 12 := by simp [callL, numsL_len]
  cases hg : goodC r with
  | false =>
    obtain ⟨epoch, node, gen⟩ := r
    have HG := hid hg
    have hn : ¬ (numB epoch = true ∧ numB node = true ∧ (!numB gen) = false) := fun ⟨a, b, c⟩ => by
      have c' : numB gen = true := by simpa using c
      rw [goodC, a, b, c'] at hg
      cases hg
    have HN := hid hn
    clear hg hn
    simp only [cval, ccells]
    go_enter Try.func91, Try.ntmps91
    go_wp2_with (go_at_call 149; refine (vnumber_any _ _).mono ?_; rintro e w' ⟨rfl, rfl⟩)
    all_goals first
      | (go_ret2; exact .inr ⟨HG.out, rfl, hid ((Below.refl _ _).alloc (Nat.le_refl _) _)⟩)
      | exact absurd ⟨by assumption, by assumption, by assumption⟩ HN.out
  | true =>
    have HG := hid hg
    have HF := hid (goodC_facts hg)
    obtain ⟨cl, hcl2⟩ : ∃ cl, callL r = cl := ⟨_, rfl⟩
    have HN1 := hid (fun W => nums_any W.heap.size none [] 0 (some ⟨W.heap.size, 0, none⟩) [r.epoch, r.node, r.gen] 3 (W.alloc (.cells ([r.epoch, r.node, r.gen].map iv).toArray 3)) (Go.CP.Own.none _ _ _ _) (by simp) (ints_lit W [r.epoch, r.node, r.gen] 3) (fun n hn => by have := HF.out n hn; omega) (by simp) (by simp))
    have HCL : Hid (cl = [] ++ numsL [r.epoch, r.node, r.gen] ∧ cl.length = 12) := hid ⟨by rw [← hcl2]; rfl, by rw [← hcl2]; exact hcl⟩
    unfold RetCall
    rw [hcl2]
    clear hcl2 hcl
    obtain ⟨epoch, node, gen⟩ := r
    have hgc := hg
    rw [goodC] at hgc
    simp only [Bool.and_eq_true] at hgc
    obtain ⟨⟨n1, n2⟩, n3⟩ := hgc
    simp only [cval, ccells, List.map_cons, List.map_nil, iv] at HN1 HCL ⊢
    clear hg
    go_enter Try.func91, Try.ntmps91
    go_wp2_with (go_at_call 149; refine (vnumber_any _ _).mono ?_; rintro e w' ⟨rfl, rfl⟩)
    have hn1 := HN1.out (w.alloc (.cells #[.int .i64 epoch, .int .i64 node, .int .i64 gen] 121))
    rw [World.size_alloc] at hn1
    refine hn1.mono ?_
    clear HN1 hn1
    rintro e w2 ⟨A2, c2, m2, rfl, HR2⟩
    have HM2 : Hid (m2 = cl) := hid (by rw [HR2.out.1, HCL.out.1])
    have HFR := hid (frame_ok 67 A2 m2 c2 w2 HR2.out.2.1.cells (by rw [HM2.out, HCL.out.2]; decide))
    have HB2 := hid (below_t ((Below.refl w.heap.size w).alloc (Nat.le_refl _) (.cells #[.int .i64 epoch, .int .i64 node, .int .i64 gen] 121)) (below_t ((Below.refl (w.alloc (.cells #[.int .i64 epoch, .int .i64 node, .int .i64 gen] 121)).heap.size (w.alloc (.cells #[.int .i64 epoch, .int .i64 node, .int .i64 gen] 121))).alloc (Nat.le_refl _) (.cells #[.int .i64 epoch, .int .i64 node, .int .i64 gen] 3)) HR2.out.2.2 (by simp)) (by simp))
    go_wp2_with fail
    refine HFR.out.mono ?_
    clear HFR
    rintro e w4 ⟨A4, c4, rfl, ho4, hb4⟩
    have HR4 : Hid (frameL 67 m2 = frameL 67 cl ∧ Go.CP.Own w4 w.heap.size 5 1 A4 (frameL 67 m2).length c4 ((frameL 67 m2).map bv) ∧ Below w.heap.size w w4) := hid ⟨by rw [HM2.out], by rw [frameL_len]; exact ho4.mono HB2.out.size, below_t HB2.out hb4 HB2.out.size⟩
    clear ho4 hb4
    go_wp2_with fail
    go_ret2
    exact .inl ⟨HG.out, A4, c4, frameL 67 m2, by rw [frameL_len]; rfl, HR4⟩
end Go.Proofs.Ytppbcdcmpcagdaa
