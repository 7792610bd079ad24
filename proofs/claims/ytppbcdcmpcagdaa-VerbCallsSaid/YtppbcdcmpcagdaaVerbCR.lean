/- Contract of the reference: Call. -/
import Derived.Test.YtppbcdcmpcagdaaVerbC
import Derived.Test.YtppbcdcmpcagdaaVerb9n
import Derived.Test.YtppbcdcmpcagdaaVerb7
namespace Go.Proofs.Ytppbcdcmpcagdaa
open Go.RowKit Go.CP

/-- What the reference's Call hands back. -/
def RetRCall (r : Rc) (w : World) (e : Ending) (w' : World) : Prop :=
  ∃ (x : Int) (m : List UInt8), e = .returned (.tuple #[.string (bstr m), .int .i64 x]) ∧ Hid (((goodC r = true ∧ x = 0 ∧ m = frameL 67 (callL r)) ∨ (goodC r = false ∧ x = 2 ∧ m = [])) ∧ Below w.heap.size w w')
set_option maxHeartbeats 1000000 in
set_option maxRecDepth 100000 in
theorem rcall_any (r : Rc) (w : World) : Calls Try.prog 92 #[cval r] w (RetRCall r w) := by
  have hcl : (callL r).length = 12 := by simp [callL, numsL_len]
  cases hg : goodC r with
  | false =>
    obtain ⟨epoch, node, gen⟩ := r
    have HG := hid hg
    have hn : ¬ (numB epoch = true ∧ numB node = true ∧ (!numB gen) = false) := fun ⟨a, b, c⟩ => by
      have c' : numB gen = true := by simpa using c
      rw [goodC, a, b, c'] at hg
      cases hg
    have HN := hid hn
    clear hg hn
    simp only [cval, ccells]
    go_enter Try.func92, Try.ntmps92
    go_wp2_with (go_at_call 153; refine (rvnumber_any _ _).mono ?_; rintro e w' ⟨rfl, rfl⟩)
    all_goals first
      | (go_ret2; exact ⟨2, [], rfl, hid ⟨.inr ⟨HG.out, rfl, rfl⟩, (Below.refl _ _).alloc (Nat.le_refl _) _⟩⟩)
      | exact absurd ⟨by assumption, by assumption, by assumption⟩ HN.out
  | true =>
    have HG := hid hg
    have HF := hid (goodC_facts hg)
    have HN1 := hid (fun W => rvnums_any (some ⟨W.heap.size, 0, none⟩) [r.epoch, r.node, r.gen] 3 (W.alloc (.cells ([r.epoch, r.node, r.gen].map iv).toArray 3)) (ints_lit W [r.epoch, r.node, r.gen] 3) (fun n hn => by have := HF.out n hn; omega) (by simp))
    have hfr := fun W => rframe_ok 67 (bstr (callL r)) W (by rw [bstr_size, hcl]; decide)
    rw [show (bstr (callL r)).data.toList = callL r from rfl] at hfr
    have HFR := hid hfr
    have HEQ : Hid (numsL [r.epoch, r.node, r.gen] = callL r) := hid rfl
    unfold RetRCall
    obtain ⟨cl, hcl2⟩ : ∃ cl, callL r = cl := ⟨_, rfl⟩
    rw [hcl2] at HFR HEQ ⊢
    clear hcl2 hcl hfr
    obtain ⟨epoch, node, gen⟩ := r
    have hgc := hg
    rw [goodC] at hgc
    simp only [Bool.and_eq_true] at hgc
    obtain ⟨⟨n1, n2⟩, n3⟩ := hgc
    simp only [cval, ccells, List.map_cons, List.map_nil, iv] at HN1 HEQ ⊢
    rw [HEQ.out] at HN1
    clear hg
    go_enter Try.func92, Try.ntmps92
    go_wp2_with (go_at_call 153; refine (rvnumber_any _ _).mono ?_; rintro e w' ⟨rfl, rfl⟩)
    have hn1 := HN1.out (w.alloc (.cells #[.int .i64 epoch, .int .i64 node, .int .i64 gen] 121))
    rw [World.size_alloc] at hn1
    refine hn1.mono ?_
    clear HN1 hn1
    rintro e w2 ⟨rfl, hb2⟩
    have HB2 := hid (below_t ((Below.refl w.heap.size w).alloc (Nat.le_refl _) (.cells #[.int .i64 epoch, .int .i64 node, .int .i64 gen] 121)) (below_t ((Below.refl (w.alloc (.cells #[.int .i64 epoch, .int .i64 node, .int .i64 gen] 121)).heap.size (w.alloc (.cells #[.int .i64 epoch, .int .i64 node, .int .i64 gen] 121))).alloc (Nat.le_refl _) (.cells #[.int .i64 epoch, .int .i64 node, .int .i64 gen] 3)) hb2 (by simp)) (by simp))
    go_wp2_with fail
    refine (HFR.out _).mono ?_
    rintro e w4 ⟨rfl, hb4⟩
    have HB4 := hid (below_t HB2.out hb4 HB2.out.size)
    clear hb4 hb2
    go_wp2_with fail
    go_ret2
    exact ⟨0, frameL 67 cl, rfl, hid ⟨.inl ⟨HG.out, rfl, rfl⟩, HB4.out⟩⟩
end Go.Proofs.Ytppbcdcmpcagdaa
