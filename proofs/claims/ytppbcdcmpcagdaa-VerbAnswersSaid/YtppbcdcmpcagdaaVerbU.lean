/- Contracts of the reference of package verb: stat, Right. -/
import Derived.Test.YtppbcdcmpcagdaaVerbT
import Derived.Test.YtppbcdcmpcagdaaVerb7
namespace Go.Proofs.Ytppbcdcmpcagdaa
open Go.RowKit Go.CP

set_option maxRecDepth 100000 in
theorem rstat_any (a b c d e f : Int) (w : World) : Calls Try.prog 160 #[.agg #[.int .i64 a, .int .i64 b, .int .i64 c, .int .i64 d, .int .i64 e, .int .i64 f]] w fun x w' =>
    ∃ g, x = .returned (.slice (some ⟨g, 0, none⟩) 6 6) ∧ Hid (Ints w' (some ⟨g, 0, none⟩) [a, b, c, d, e, f] ∧ Below w.heap.size w w') := by
  have hl := ints_lit (w.alloc (.cells #[.int .i64 a, .int .i64 b, .int .i64 c, .int .i64 d, .int .i64 e, .int .i64 f] 89)) [a, b, c, d, e, f] 3
  rw [World.size_alloc] at hl
  have HL := hid hl
  have HB := hid ((((Below.refl w.heap.size w).alloc (Nat.le_refl _) (.cells #[.int .i64 a, .int .i64 b, .int .i64 c, .int .i64 d, .int .i64 e, .int .i64 f] 89)).alloc (by simp) (.cells #[.int .i64 a, .int .i64 b, .int .i64 c, .int .i64 d, .int .i64 e, .int .i64 f] 3)))
  clear hl
  go_enter Try.func160, Try.ntmps160
  go_wp2_with fail
  go_ret
  exact ⟨w.heap.size + 1, by simp, hid ⟨HL.out, HB.out⟩⟩
set_option maxHeartbeats 4000000 in
set_option maxRecDepth 100000 in
theorem rright_no (r : Rp) (A : Option Addr) (c : Nat) (B : Option Addr) (cb : Nat) (w : World) (h : midR r = false) : Calls Try.prog 96 #[rval r A c B cb] w fun e w' => e = .returned (.bool false) ∧ Below w.heap.size w w' := by
  obtain ⟨life, seq, epoch, err, node, gen, kind, links, size, change, data, names⟩ := r
  have hnm : ¬ (0 ≤ err ∧ err ≤ 23 ∧ (data.length : Int) ≤ 256 ∧ (names.length : Int) ≤ 512) := fun hk => by
    simp [midR] at h
    omega
  have HNM := hid hnm
  clear h hnm
  simp only [rval, rcells]
  have HB := hid ((Below.refl w.heap.size w).alloc (Nat.le_refl _) (.cells #[.int .i64 life, .int .i64 seq, .int .i64 epoch, .int .i64 err, .int .i64 node, .int .i64 gen, .int .i64 kind, .int .i64 links, .int .i64 size, .int .i64 change, .slice A data.length c, .slice B names.length cb] 112))
  go_enter Try.func96, Try.ntmps96
  go_wp2_with (go_at_call 153; refine (rvnumber_any _ _).mono ?_; rintro e w' ⟨rfl, rfl⟩)
  all_goals first
    | (exact absurd (by omega) HNM.out; done)
    | (go_ret; exact ⟨rfl, HB.out⟩)
set_option maxHeartbeats 4000000 in
set_option maxRecDepth 100000 in
theorem rright_bad (r : Rp) (A : Option Addr) (c : Nat) (B : Option Addr) (cb : Nat) (w : World) (h : midR r = true) (hb : (numB r.life && numB r.seq && numB r.epoch) = false) : Calls Try.prog 96 #[rval r A c B cb] w fun e w' => e = .returned (.bool false) ∧ Below w.heap.size w w' := by
  obtain ⟨life, seq, epoch, err, node, gen, kind, links, size, change, data, names⟩ := r
  have hm : 0 ≤ err ∧ err ≤ 23 ∧ (data.length : Int) ≤ 256 ∧ (names.length : Int) ≤ 512 := by
    simp [midR] at h
    omega
  have q1 : decide (err < 0) = false := by simp; omega
  have q2 : decide (23 < err) = false := by simp; omega
  have q3 : decide (256 < (data.length : Int)) = false := by simp; omega
  have q4 : decide (512 < (names.length : Int)) = false := by simp; omega
  have hn : ¬ (numB life = true ∧ numB seq = true ∧ (!numB epoch) = false) := fun ⟨a, b, c⟩ => by
    have c' : numB epoch = true := by simpa using c
    dsimp only at hb
    rw [a, b, c'] at hb
    cases hb
  have HN := hid hn
  clear h hb hm hn
  simp only [rval, rcells]
  have HB := hid ((Below.refl w.heap.size w).alloc (Nat.le_refl _) (.cells #[.int .i64 life, .int .i64 seq, .int .i64 epoch, .int .i64 err, .int .i64 node, .int .i64 gen, .int .i64 kind, .int .i64 links, .int .i64 size, .int .i64 change, .slice A data.length c, .slice B names.length cb] 112))
  go_enter Try.func96, Try.ntmps96
  go_wp2_with (go_at_call 153; refine (rvnumber_any _ _).mono ?_; rintro e w' ⟨rfl, rfl⟩)
  all_goals first
    | (go_ret; exact ⟨rfl, HB.out⟩)
    | exact absurd ⟨by assumption, by assumption, by assumption⟩ HN.out
set_option maxHeartbeats 4000000 in
set_option maxRecDepth 100000 in
theorem rright_good (r : Rp) (A : Option Addr) (c : Nat) (B : Option Addr) (cb : Nat) (w : World) (hn : Strs w B r.names) (h : midR r = true) (hb : (numB r.life && numB r.seq && numB r.epoch) = true) : Calls Try.prog 96 #[rval r A c B cb] w fun e w' => e = .returned (.bool (goodR r)) ∧ Below w.heap.size w w' := by
  have HG : Hid (goodR r = (!anyLong r.names && (numB r.node && numB r.gen && numB r.kind && numB r.links && numB r.size && numB r.change))) := hid (by
    rw [goodR_eq, h, nineL]
    simp only [Bool.and_eq_true] at hb
    simp only [Rp.stat, List.cons_append, List.nil_append, List.all_cons, List.all_nil, hb.1.1, hb.1.2, hb.2, Bool.and_true]
    rw [Bool.and_comm]
    simp only [Bool.and_assoc])
  obtain ⟨gr, hgr⟩ : ∃ gr, goodR r = gr := ⟨_, rfl⟩
  rw [hgr] at HG ⊢
  clear hgr
  obtain ⟨life, seq, epoch, err, node, gen, kind, links, size, change, data, names⟩ := r
  have hm : 0 ≤ err ∧ err ≤ 23 ∧ (data.length : Int) ≤ 256 ∧ (names.length : Int) ≤ 512 := by
    simp [midR] at h
    omega
  have q1 : decide (err < 0) = false := by simp; omega
  have q2 : decide (23 < err) = false := by simp; omega
  have q3 : decide (256 < (data.length : Int)) = false := by simp; omega
  have q4 : decide (512 < (names.length : Int)) = false := by simp; omega
  simp only [Bool.and_eq_true] at hb
  obtain ⟨⟨n1, n2⟩, n3⟩ := hb
  have hnl : (names.length : Int) ≤ 512 := hm.2.2.2
  have HN := hid hn
  clear h hm hn
  simp only [rval, rcells]
  have HB := hid ((Below.refl w.heap.size w).alloc (Nat.le_refl _) (.cells #[.int .i64 life, .int .i64 seq, .int .i64 epoch, .int .i64 err, .int .i64 node, .int .i64 gen, .int .i64 kind, .int .i64 links, .int .i64 size, .int .i64 change, .slice A data.length c, .slice B names.length cb] 112))
  have HX := hid (Blk.new w 112 [.int .i64 life, .int .i64 seq, .int .i64 epoch, .int .i64 err, .int .i64 node, .int .i64 gen, .int .i64 kind, .int .i64 links, .int .i64 size, .int .i64 change, .slice A data.length c, .slice B names.length cb])
  have HNW := hid (Cells.below HN.out HB.out (Nat.le_refl _))
  go_enter Try.func96, Try.ntmps96
  go_wp2_with (go_at_call 153; refine (rvnumber_any _ _).mono ?_; rintro e w' ⟨rfl, rfl⟩)
  obtain ⟨w1, hw1⟩ : ∃ w1, w1 = w.alloc (.cells #[.int .i64 life, .int .i64 seq, .int .i64 epoch, .int .i64 err, .int .i64 node, .int .i64 gen, .int .i64 kind, .int .i64 links, .int .i64 size, .int .i64 change, .slice A data.length c, .slice B names.length cb] 112) := ⟨_, rfl⟩
  have HX1 : Hid (Blk w1 w.heap.size 112 [.int .i64 life, .int .i64 seq, .int .i64 epoch, .int .i64 err, .int .i64 node, .int .i64 gen, .int .i64 kind, .int .i64 links, .int .i64 size, .int .i64 change, .slice A data.length c, .slice B names.length cb]) := hid (by rw [hw1]; exact HX.out)
  have HB1 : Hid (Below w.heap.size w w1) := hid (by rw [hw1]; exact HB.out)
  have HN1 : Hid (Strs w1 B names) := hid (by rw [hw1]; exact HNW.out)
  rw [← hw1]
  clear hw1 HX HB HNW
  have c11 := HX1.out.cell (j := 11) (u := .slice B names.length cb) rfl
  go_loop [3] (fun iv => ∃ i : Nat, i ≤ names.length ∧ iv = .int .i64 i ∧ Hid (anyLong (names.take i) = false)) (fun iv => names.length - (intOf iv).toNat)
  case atStart => exact ⟨0, by omega, rfl, hid rfl⟩
  case round =>
    obtain ⟨i, hi, rfl, HE⟩ := hrel
    by_cases hlt : i < names.length
    · obtain ⟨s, hs⟩ := get_of_lt names hlt
      obtain ⟨b, off, rfl, hc⟩ := Strs.at HN1.out hs
      have HS := hid hs
      have hii : (i : Int) < (names.length : Int) := by omega
      clear hs
      by_cases hs24 : 24 < s.length
      · have HL : Hid (anyLong names = true) := hid (List.any_eq_true.2 ⟨s, List.mem_of_getElem? HS.out, by simpa using hs24⟩)
        have hs2 : 24 < (s.length : Int) := by omega
        go_wp2_with fail
        go_ret
        exact ⟨ret_bool (by rw [HG.out, HL.out]; rfl), HB1.out⟩
      · have HL : Hid (decide (24 < s.length) = false) := hid (by simpa using hs24)
        have hs2 : ¬ 24 < (s.length : Int) := by omega
        go_wp2_with fail
        go_round
        case rel => exact ⟨i + 1, by omega, by go_num, hid (by rw [anyLong_snoc HS.out, HE.out, HL.out]; rfl)⟩
        case measure => simp [intOf]; omega
    · have hk : i = names.length := by omega
      have hik : ¬ (i : Int) < (names.length : Int) := by omega
      have HL : Hid (anyLong names = false) := hid (by have h := HE.out; rw [hk, List.take_length] at h; exact h)
      have HG2 : Hid (gr = (numB node && numB gen && numB kind && numB links && numB size && numB change)) := hid (by rw [HG.out, HL.out]; rfl)
      clear hk HE HL HG hi hlt n1 n2 n3 q1 q2 q3 q4
      have c4 := HX1.out.cell (j := 4) (u := .int .i64 node) rfl
      have c5 := HX1.out.cell (j := 5) (u := .int .i64 gen) rfl
      have c6 := HX1.out.cell (j := 6) (u := .int .i64 kind) rfl
      have c7 := HX1.out.cell (j := 7) (u := .int .i64 links) rfl
      have c8 := HX1.out.cell (j := 8) (u := .int .i64 size) rfl
      have c9 := HX1.out.cell (j := 9) (u := .int .i64 change) rfl
      have HB2 := hid (HB1.out.alloc HB1.out.size (.cells #[.int .i64 node, .int .i64 gen, .int .i64 kind, .int .i64 links, .int .i64 size, .int .i64 change] 89))
      go_wp2_with (go_at_call 153; refine (rvnumber_any _ _).mono ?_; rintro e w' ⟨rfl, rfl⟩)
      all_goals
        go_ret
        exact ⟨ret_bool (by rw [HG2.out]; simp [*]), HB2.out⟩
theorem rright_any (r : Rp) (A : Option Addr) (c : Nat) (B : Option Addr) (cb : Nat) (w : World) (hn : Strs w B r.names) : Calls Try.prog 96 #[rval r A c B cb] w fun e w' => e = .returned (.bool (goodR r)) ∧ Below w.heap.size w w' := by
  cases h : midR r with
  | false =>
    rw [show goodR r = false by rw [goodR_eq, h]; simp]
    exact rright_no r A c B cb w h
  | true =>
    cases hb : (numB r.life && numB r.seq && numB r.epoch) with
    | false =>
      have hg : goodR r = false := by
        rw [goodR_eq, nineL]
        simp only [Rp.stat, List.cons_append, List.nil_append, List.all_cons, List.all_nil, Bool.and_true]
        have : (numB r.life && (numB r.seq && numB r.epoch)) = false := by rw [← Bool.and_assoc]; exact hb
        rw [this]
        simp
      rw [hg]
      exact rright_bad r A c B cb w h hb
    | true => exact rright_good r A c B cb w hn h hb
end Go.Proofs.Ytppbcdcmpcagdaa
