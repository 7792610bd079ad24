/- Contracts of the reference of package verb: nums, Encode. -/
import Derived.Test.YtppbcdcmpcagdaaVerb8
import Derived.Test.YtppbcdcmpcagdaaVerb9n
namespace Go.Proofs.Ytppbcdcmpcagdaa
open Go.RowKit Go.CP

theorem rtextV (l : List UInt8) (w : World) (h : l.length ≤ 100000000) : Calls Try.prog 43 #[.string (bstr l)] w fun e w' => e = .returned (.string (bstr (textL l))) ∧ Below w.heap.size w w' := by
  have := rtext_any (bstr l) w (by rw [bstr_size]; omega)
  rw [bstr_size] at this
  exact this
theorem req_str (N P O D : List UInt8) : (bstr N ++ bstr P ++ bstr O ++ bstr D : ByteArray) = bstr (N ++ (P ++ (O ++ D))) := by
  rw [bstr_append, bstr_append, bstr_append]; simp
/-- What the reference's Encode hands back. -/
def RetREnc (v : Vb) (w : World) (e : Ending) (w' : World) : Prop :=
  ∃ (x : Int) (m : List UInt8), e = .returned (.tuple #[.string (bstr m), .int .i64 x]) ∧ Hid (((goodV v = true ∧ x = 0 ∧ m = frameL 81 (reqL v)) ∨ (goodV v = false ∧ x = 2 ∧ m = [])) ∧ Below w.heap.size w w')
theorem renc_err (v : Vb) (A : Option Addr) (c : Nat) (w : World) (h : goodV v = false) : Calls Try.prog 80 #[vval v A c] w fun e w' => e = .returned (.tuple #[.string (bstr []), .int .i64 2]) ∧ Below w.heap.size w w' := by
  have hg := fun W => rvgood_any v A c W
  rw [h] at hg
  have HG := hid hg
  clear hg h
  obtain ⟨kind, seat, life, seq, epoch, path, other, node, gen, pos, size, mode, data⟩ := v
  simp only [vval, vcells] at HG ⊢
  go_enter Try.func80, Try.ntmps80
  go_wp2_with fail
  refine (HG.out _).mono ?_
  rintro e w1 ⟨rfl, hb1⟩
  have HB := hid (below_t ((Below.refl w.heap.size w).alloc (Nat.le_refl _) (.cells (vcells ⟨kind, seat, life, seq, epoch, path, other, node, gen, pos, size, mode, data⟩ A c).toArray 100)) hb1 (by simp))
  clear hb1 HG
  go_wp2_with fail
  go_ret2
  exact ⟨rfl, HB.out⟩
set_option maxHeartbeats 4000000 in
set_option maxRecDepth 100000 in
theorem renc_ok (v : Vb) (A : Option Addr) (c : Nat) (w : World) (hd : Bytes w A v.data) (h : goodV v = true) : Calls Try.prog 80 #[vval v A c] w fun e w' => e = .returned (.tuple #[.string (bstr (frameL 81 (reqL v))), .int .i64 0]) ∧ Below w.heap.size w w' := by
  have hg := fun W => rvgood_any v A c W
  rw [h] at hg
  have HG := hid hg
  have HF := hid (goodV_facts h)
  have hrl := reqL_len h
  have HD := hid hd
  have HBW : Hid (Below w.heap.size w (w.alloc (.cells (vcells v A c).toArray 100))) := hid ((Below.refl _ _).alloc (Nat.le_refl _) _)
  have HN1 := hid (fun W => rvnums_any (some ⟨W.heap.size, 0, none⟩) v.nums 10 (W.alloc (.cells (v.nums.map iv).toArray 3)) (ints_lit W v.nums 3) (fun n hn => by have := HF.out.1 n hn; omega) (by simp [Vb.nums]))
  have HP := hid (fun W => rtextV v.path W (by have := HF.out.2; omega))
  have HO := hid (fun W => rtextV v.other W (by have := HF.out.2; omega))
  have HT := hid (fun W => rtextV v.data W (by have := HF.out.2; omega))
  have hfr := fun W => rframe_ok 81 (bstr (reqL v)) W (by rw [bstr_size]; omega)
  have hrq : reqL v = numsL v.nums ++ (textL v.path ++ (textL v.other ++ textL v.data)) := by simp [reqL, textsL]
  have hnl : (numsL v.nums).length = 40 := by simp [numsL_len, Vb.nums]
  have hpl : (textL v.path).length ≤ 300 := by rw [textL_len]; have := HF.out.2; omega
  have hol : (textL v.other).length ≤ 300 := by rw [textL_len]; have := HF.out.2; omega
  have htl : (textL v.data).length ≤ 300 := by rw [textL_len]; have := HF.out.2; omega
  obtain ⟨fr, hfe⟩ : ∃ fr, frameL 81 (reqL v) = fr := ⟨_, rfl⟩
  have hfr2 : ∀ W, Calls Try.prog 52 #[bv 81, .string (bstr (numsL v.nums) ++ bstr (textL v.path) ++ bstr (textL v.other) ++ bstr (textL v.data))] W fun e w' => e = .returned (.tuple #[.string (bstr fr), .int .i64 0]) ∧ Below W.heap.size W w' := fun W => by
    rw [req_str, ← hrq, ← hfe]
    exact hfr W
  rw [hfe]
  obtain ⟨N, hN⟩ : ∃ N, numsL v.nums = N := ⟨_, rfl⟩
  obtain ⟨P, hP⟩ : ∃ P, textL v.path = P := ⟨_, rfl⟩
  obtain ⟨O, hO⟩ : ∃ O, textL v.other = O := ⟨_, rfl⟩
  obtain ⟨D, hD⟩ : ∃ D, textL v.data = D := ⟨_, rfl⟩
  rw [hN] at hfr2 HN1 hnl
  rw [hP] at hfr2 HP hpl
  rw [hO] at hfr2 HO hol
  rw [hD] at hfr2 HT htl
  have HFR := hid hfr2
  have a1 : ¬ 9223372036854775807 < N.length + P.length := by omega
  have a2 : ¬ 9223372036854775807 < N.length + P.length + O.length := by omega
  have a3 : ¬ 9223372036854775807 < N.length + P.length + O.length + D.length := by omega
  have HLN := hid (And.intro hnl (And.intro hpl (And.intro hol htl)))
  clear hg h hd hfr hfr2 hrq hfe hN hP hO hD hnl hpl hol htl hrl
  obtain ⟨kind, seat, life, seq, epoch, path, other, node, gen, pos, size, mode, data⟩ := v
  simp only [vval, vcells, Vb.nums, List.map_cons, List.map_nil, iv] at HG HN1 HD HBW HP HO HT ⊢
  go_enter Try.func80, Try.ntmps80
  go_wp2_with fail
  refine (HG.out _).mono ?_
  rintro e w1 ⟨rfl, hb1⟩
  have hc := bcellV hb1
  have HB1 := hid (below_t HBW.out hb1 (by simp))
  have hz : w.heap.size < w1.heap.size := by have := hb1.size; simp at this; omega
  clear hb1 HBW HG
  go_wp2_with fail
  refine (HN1.out _).mono ?_
  clear HN1
  rintro e w2 ⟨rfl, hb2⟩
  have hb12 : Below w1.heap.size w1 w2 := below_t ((Below.refl w1.heap.size w1).alloc (Nat.le_refl _) _) hb2 (by simp)
  have HB2 := hid (below_t HB1.out hb12 HB1.out.size)
  have hk : ∀ j u, w1.cell? ⟨w.heap.size, j, none⟩ = some u → ∀ Wc, Below w2.heap.size w2 Wc → Wc.cell? ⟨w.heap.size, j, none⟩ = some u := fun j u hu Wc hb => by
    have := hb12.size
    exact (hb.cell (p := ⟨w.heap.size, j, none⟩) (by show w.heap.size < w2.heap.size; omega)).trans ((hb12.cell (p := ⟨w.heap.size, j, none⟩) hz).trans hu)
  have k5 := hk 5 (.string (bstr path)) (by rw [hc _ _ (by simp)]; simp)
  have k6 := hk 6 (.string (bstr other)) (by rw [hc _ _ (by simp)]; simp)
  have k12 := hk 12 (.slice A data.length c) (by rw [hc _ _ (by simp)]; simp)
  have hkeep : ∀ Wc, Below w2.heap.size w2 Wc → Wc.cell? ⟨w.heap.size, 5, none⟩ = some (.string (bstr path)) ∧ Wc.cell? ⟨w.heap.size, 6, none⟩ = some (.string (bstr other)) ∧ Wc.cell? ⟨w.heap.size, 12, none⟩ = some (.slice A data.length c) ∧ Below w2.heap.size w2 Wc := fun Wc hb => ⟨k5 Wc hb, k6 Wc hb, k12 Wc hb, hb⟩
  have HK := hid hkeep
  have hcv := fun Wc (hW : Wc.cell? ⟨w.heap.size, 5, none⟩ = some (.string (bstr path)) ∧ Wc.cell? ⟨w.heap.size, 6, none⟩ = some (.string (bstr other)) ∧ Wc.cell? ⟨w.heap.size, 12, none⟩ = some (.slice A data.length c) ∧ Below w2.heap.size w2 Wc) => cv_bytes c (HD.out.below (below_t HB2.out hW.2.2.2 HB2.out.size) (Nat.le_refl _))
  clear hb2 hb12 hk k5 k6 k12 hkeep hc hz
  go_wp2_with fail
  go_region_held3 (fun Wc => Wc.cell? ⟨w.heap.size, 5, none⟩ = some (.string (bstr path)) ∧ Wc.cell? ⟨w.heap.size, 6, none⟩ = some (.string (bstr other)) ∧ Wc.cell? ⟨w.heap.size, 12, none⟩ = some (.slice A data.length c) ∧ Below w2.heap.size w2 Wc)
    (first | exact HK.out _ (Below.refl _ _) | exact HK.out _ (Below.drew (Below.refl _ _)) | exact HK.out _ hk7 | exact HK.out _ hk5 | exact HK.out _ hk4 | exact HK.out _ hk3 | assumption)
    (first
      | (go_at_call_of 43 (Value.string (bstr path)); refine (HP.out _).mono ?_; rintro e w3 ⟨rfl, hb3⟩; have hk3 : Below w2.heap.size w2 w3 := below_t (by first | exact Below.refl _ _ | exact Below.drew (Below.refl _ _)) hb3 (by simp))
      | (go_at_call_of 43 (Value.string (bstr other)); refine (HO.out _).mono ?_; rintro e w4 ⟨rfl, hb4⟩; have hk4 := below_t hk3 hb4 hk3.size)
      | (go_at_call_of 43 (Value.string (bstr data)); refine (HT.out _).mono ?_; rintro e w5 ⟨rfl, hb5⟩; have hk5 := below_t hk4 hb5 hk4.size)
      | (go_at_call 52; refine (HFR.out _).mono ?_; rintro e w7 ⟨rfl, hb7⟩; have hk7 := below_t hk5 hb7 hk5.size))
  go_wp2
  go_ret2
  exact ⟨rfl, below_t HB2.out hk7 HB2.out.size⟩
end Go.Proofs.Ytppbcdcmpcagdaa
