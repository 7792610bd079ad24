/- Contracts of package verb: Encode. -/
import Derived.Test.YtppbcdcmpcagdaaVerb4
namespace Go.Proofs.Ytppbcdcmpcagdaa
open Go.RowKit Go.CP

theorem bcellV {W w1 : World} (hb : Below W.heap.size W w1) : (∀ b o, b < W.heap.size → w1.cell? ⟨b, o, none⟩ = W.cell? ⟨b, o, none⟩) := fun b o h => hb.cell (p := ⟨b, o, none⟩) h
theorem strs_lit (w : World) (l : List (List UInt8)) (fr : TypeId) : Strs (w.alloc (.cells (l.map sv).toArray fr)) (some ⟨w.heap.size, 0, none⟩) l := by
  intro j u hu
  exact ⟨_, _, rfl, by rw [cell_of_row _ _ _ _ _ (0, 0) (heap_alloc_new w _), Nat.zero_add]; simpa using hu⟩
/-- What Encode hands back. -/
def RetEnc (v : Vb) (w : World) (e : Ending) (w' : World) : Prop :=
  (goodV v = true ∧ ∃ A c m, e = .returned (.tuple #[.slice A (List.length m) c, .int .i64 0]) ∧ Hid (m = frameL 81 (reqL v) ∧ Go.CP.Own w' w.heap.size 5 1 A m.length c (m.map bv) ∧ Below w.heap.size w w')) ∨
  (goodV v = false ∧ e = .returned (.tuple #[.slice none 0 0, .int .i64 2]) ∧ Hid (Below w.heap.size w w'))
theorem enc_err (v : Vb) (A : Option Addr) (c : Nat) (w : World) (h : goodV v = false) : Calls Try.prog 79 #[vval v A c] w fun e w' => e = .returned (.tuple #[.slice none 0 0, .int .i64 2]) ∧ Below w.heap.size w w' := by
  have hg := fun W => vgood_any v A c W
  rw [h] at hg
  have HG := hid hg
  clear hg h
  obtain ⟨kind, seat, life, seq, epoch, path, other, node, gen, pos, size, mode, data⟩ := v
  simp only [vval, vcells] at HG ⊢
  go_enter Try.func79, Try.ntmps79
  go_wp2_with fail
  refine (HG.out _).mono ?_
  rintro e w1 ⟨rfl, hb1⟩
  have HB := hid (below_t ((Below.refl w.heap.size w).alloc (Nat.le_refl _) (.cells (vcells ⟨kind, seat, life, seq, epoch, path, other, node, gen, pos, size, mode, data⟩ A c).toArray 100)) hb1 (by simp))
  clear hb1 HG
  go_wp2_with fail
  go_ret2
  exact ⟨rfl, HB.out⟩
set_option maxHeartbeats 2000000 in
set_option maxRecDepth 100000 in
theorem enc_ok (v : Vb) (A : Option Addr) (c : Nat) (w : World) (hd : Bytes w A v.data) (h : goodV v = true) : Calls Try.prog 79 #[vval v A c] w fun e w' =>
    ∃ A c m, e = .returned (.tuple #[.slice A (List.length m) c, .int .i64 0]) ∧ Hid (m = frameL 81 (reqL v) ∧ Go.CP.Own w' w.heap.size 5 1 A m.length c (m.map bv) ∧ Below w.heap.size w w') := by
  have hg := fun W => vgood_any v A c W
  rw [h] at hg
  have HG := hid hg
  have HF := hid (goodV_facts h)
  have HRL := hid (reqL_len h)
  have HD := hid hd
  have HBW : Hid (Below w.heap.size w (w.alloc (.cells (vcells v A c).toArray 100))) := hid ((Below.refl _ _).alloc (Nat.le_refl _) _)
  have HN1 := hid (fun W => nums_any W.heap.size none [] 0 (some ⟨W.heap.size, 0, none⟩) v.nums 10 (W.alloc (.cells (v.nums.map iv).toArray 3)) (Go.CP.Own.none _ _ _ _) (by simp) (ints_lit W v.nums 3) (fun n hn => by have := HF.out.1 n hn; omega) (by simp) (by simp [Vb.nums]))
  have HT1 := hid (fun W (X : Option Addr) (cx : Nat) (m : List UInt8) (base : Nat) (ho : Go.CP.Own W base 5 1 X m.length cx (m.map bv)) (hbs : base ≤ W.heap.size) (hm : m.length ≤ 1000) => texts_any base X m cx (some ⟨W.heap.size, 0, none⟩) [v.path, v.other, v.data] 3 (W.alloc (.cells ([v.path, v.other, v.data].map sv).toArray 9)) (ho.alloc _) (by simp; omega) (strs_lit W _ 9) (fun s hs => by
    have := HF.out.2
    simp only [List.mem_cons, List.not_mem_nil, or_false] at hs
    rcases hs with rfl | rfl | rfl <;> omega) (by omega) (by simp))
  have HRQ : Hid (reqL v = [] ++ numsL v.nums ++ textsL [v.path, v.other, v.data]) := hid rfl
  have HNL : Hid ((([] : List UInt8) ++ numsL v.nums).length = 40) := hid (by simp [numsL_len, Vb.nums])
  obtain ⟨rq, hrq⟩ : ∃ rq, reqL v = rq := ⟨_, rfl⟩
  rw [hrq] at HRL HRQ
  rw [hrq]
  clear hg h hd hrq
  obtain ⟨kind, seat, life, seq, epoch, path, other, node, gen, pos, size, mode, data⟩ := v
  simp only [vval, vcells, Vb.nums, List.map_cons, List.map_nil, iv, sv] at HG HN1 HT1 HD HBW HNL HRQ ⊢
  go_enter Try.func79, Try.ntmps79
  go_wp2_with fail
  refine (HG.out _).mono ?_
  rintro e w1 ⟨rfl, hb1⟩
  have hc := bcellV hb1
  have HB1 := hid (below_t HBW.out hb1 (by simp))
  have hz : w.heap.size < w1.heap.size := by have := hb1.size; simp at this; omega
  clear hb1 HBW HG
  go_wp2_with fail
  refine (HN1.out _).mono ?_
  clear HN1
  rintro e w2 ⟨A2, c2, m2, rfl, HR2⟩
  have HB2 := hid (below_t HB1.out (below_t ((Below.refl w1.heap.size w1).alloc (Nat.le_refl _) (.cells #[.int .i64 kind, .int .i64 seat, .int .i64 life, .int .i64 seq, .int .i64 epoch, .int .i64 node, .int .i64 gen, .int .i64 pos, .int .i64 size, .int .i64 mode] 3)) HR2.out.2.2 (by simp)) HB1.out.size)
  have hc2 : ∀ b o, b < w1.heap.size → w2.cell? ⟨b, o, none⟩ = w1.cell? ⟨b, o, none⟩ := fun b o h => by
    have := bcellV HR2.out.2.2 b o (by simp; omega)
    rw [this]
    exact ((Below.refl w1.heap.size w1).alloc (Nat.le_refl _) _).cell (p := ⟨b, o, none⟩) h
  have hcv := cv_bytes c (HD.out.below HB2.out (Nat.le_refl _))
  have hm2 : m2.length ≤ 1000 := by rw [HR2.out.1, HNL.out]; decide
  have HT := hid (HT1.out w2 A2 c2 m2 w1.heap.size HR2.out.2.1 (by have := HR2.out.2.2.size; simp at this; omega) hm2)
  clear HT1 hm2
  go_wp2_with fail
  refine HT.out.mono ?_
  clear HT
  rintro e w3 ⟨A3, c3, m3, rfl, HR3⟩
  have HM3 : Hid (m3 = rq) := hid (by rw [HR3.out.1, HR2.out.1, HRQ.out])
  have HFR := hid (frame_ok 81 A3 m3 c3 w3 HR3.out.2.1.cells (by rw [HM3.out]; have := HRL.out; omega))
  have HB3 := hid (below_t HB2.out (below_t ((Below.refl w2.heap.size w2).alloc (Nat.le_refl _) (.cells #[.string (bstr path), .string (bstr other), .string (bstr data)] 9)) HR3.out.2.2 (by simp)) HB2.out.size)
  clear HR2 HR3 hcv hc2 hc
  go_wp2_with fail
  refine HFR.out.mono ?_
  clear HFR
  rintro e w4 ⟨A4, c4, rfl, ho4, hb4⟩
  have HR4 : Hid (frameL 81 m3 = frameL 81 rq ∧ Go.CP.Own w4 w.heap.size 5 1 A4 (frameL 81 m3).length c4 ((frameL 81 m3).map bv) ∧ Below w.heap.size w w4) := hid ⟨by rw [HM3.out], by rw [frameL_len]; exact ho4.mono HB3.out.size, below_t HB3.out hb4 HB3.out.size⟩
  clear ho4 hb4
  go_wp2_with fail
  go_ret2
  exact ⟨A4, c4, frameL 81 m3, by rw [frameL_len]; rfl, HR4⟩
theorem enc_any (v : Vb) (A : Option Addr) (c : Nat) (w : World) (hd : Bytes w A v.data) : Calls Try.prog 79 #[vval v A c] w (RetEnc v w) := by
  cases h : goodV v with
  | true => exact (enc_ok v A c w hd h).mono fun e w' k => .inl ⟨h, k⟩
  | false => exact (enc_err v A c w h).mono fun e w' k => .inr ⟨h, k.1, hid k.2⟩
end Go.Proofs.Ytppbcdcmpcagdaa
