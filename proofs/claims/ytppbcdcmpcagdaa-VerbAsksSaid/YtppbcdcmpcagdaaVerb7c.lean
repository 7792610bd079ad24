/- Contract of the reference's Good of a request: at kinds 11 to 15. -/
import Derived.Test.YtppbcdcmpcagdaaVerb7
namespace Go.Proofs.Ytppbcdcmpcagdaa
open Go.RowKit Go.CP

set_option maxHeartbeats 2000000 in
set_option maxRecDepth 100000 in
theorem rgood_11 (seat life seq epoch : Int) (path other : List UInt8) (node gen pos size mode : Int) (data : List UInt8) (A : Option Addr) (c : Nat) (w : World) (h : preR ⟨11, seat, life, seq, epoch, path, other, node, gen, pos, size, mode, data⟩ = true) : Calls Try.prog 83 #[vval ⟨11, seat, life, seq, epoch, path, other, node, gen, pos, size, mode, data⟩ A c] w fun e w' => e = .returned (.bool (goodV ⟨11, seat, life, seq, epoch, path, other, node, gen, pos, size, mode, data⟩)) ∧ Below w.heap.size w w' := by
  have HG := hid (goodV_pre ⟨11, seat, life, seq, epoch, path, other, node, gen, pos, size, mode, data⟩)
  rw [h, Bool.true_and] at HG
  obtain ⟨gv, hgv⟩ : ∃ gv, goodV ⟨11, seat, life, seq, epoch, path, other, node, gen, pos, size, mode, data⟩ = gv := ⟨_, rfl⟩
  rw [hgv] at HG ⊢
  clear hgv
  have HH : Hid (∀ W, Calls Try.prog 152 #[.int .i64 11] W fun e w' => e = .returned (.string ⟨#[104, 97, 100]⟩) ∧ w' = W) := hid (has_any 11)
  have f112 : inB ⟨#[104, 97, 100]⟩ 112 = false := by decide +kernel
  have f111 : inB ⟨#[104, 97, 100]⟩ 111 = false := by decide +kernel
  have f104 : inB ⟨#[104, 97, 100]⟩ 104 = true := by decide +kernel
  have f97 : inB ⟨#[104, 97, 100]⟩ 97 = true := by decide +kernel
  have f115 : inB ⟨#[104, 97, 100]⟩ 115 = false := by decide +kernel
  have f109 : inB ⟨#[104, 97, 100]⟩ 109 = false := by decide +kernel
  have f100 : inB ⟨#[104, 97, 100]⟩ 100 = true := by decide +kernel
  rw [preR, numsB, midB] at h
  simp only [Bool.and_eq_true, decide_eq_true_eq, bne_iff_ne, ne_eq] at h
  obtain ⟨⟨⟨⟨⟨⟨⟨⟨n1, n2⟩, n3⟩, n4⟩, n5⟩, n6⟩, n7⟩, ⟨⟨⟨h1, h2⟩, h3⟩, h4⟩, h5⟩, -⟩ := h
  have n1b := n1
  simp only [numB, Bool.and_eq_true, decide_eq_true_eq] at n1b
  have q1 : decide (seat < 0) = false := by simp; omega
  have q2 : decide (7 < seat) = false := by simp; omega
  have q3 : decide (life < 1) = false := by simp; omega
  have q4 : decide (255 < (path.length : Int)) = false := by simp; omega
  have q5 : decide (255 < (other.length : Int)) = false := by simp; omega
  clear h1 h2 h3 h4 h5 n1b
  simp only [vval, vcells]
  go_enter Try.func83, Try.ntmps83
  go_wp2_with (first
    | (go_at_call 152; refine (HH.out _).mono ?_; rintro e w' ⟨rfl, rfl⟩)
    | (go_at_call 153; refine (rvnumber_any _ _).mono ?_; rintro e w' ⟨rfl, rfl⟩)
    | (go_at_call 154; refine (vin_any _ _ _ (by decide)).mono ?_; rintro e w' ⟨rfl, rfl⟩))
  all_goals
    go_ret
    exact ⟨ret_bool (by rw [HG.out, Bool.eq_iff_iff]; simp_all [ownB, bareB, hasP, hasO, hasH, hasA, hasS, hasM, hasD]; try omega), (Below.refl _ _).alloc (Nat.le_refl _) _⟩
set_option maxHeartbeats 2000000 in
set_option maxRecDepth 100000 in
theorem rgood_12 (seat life seq epoch : Int) (path other : List UInt8) (node gen pos size mode : Int) (data : List UInt8) (A : Option Addr) (c : Nat) (w : World) (h : preR ⟨12, seat, life, seq, epoch, path, other, node, gen, pos, size, mode, data⟩ = true) : Calls Try.prog 83 #[vval ⟨12, seat, life, seq, epoch, path, other, node, gen, pos, size, mode, data⟩ A c] w fun e w' => e = .returned (.bool (goodV ⟨12, seat, life, seq, epoch, path, other, node, gen, pos, size, mode, data⟩)) ∧ Below w.heap.size w w' := by
  have HG := hid (goodV_pre ⟨12, seat, life, seq, epoch, path, other, node, gen, pos, size, mode, data⟩)
  rw [h, Bool.true_and] at HG
  obtain ⟨gv, hgv⟩ : ∃ gv, goodV ⟨12, seat, life, seq, epoch, path, other, node, gen, pos, size, mode, data⟩ = gv := ⟨_, rfl⟩
  rw [hgv] at HG ⊢
  clear hgv
  have HH : Hid (∀ W, Calls Try.prog 152 #[.int .i64 12] W fun e w' => e = .returned (.string ⟨#[104, 115]⟩) ∧ w' = W) := hid (has_any 12)
  have f112 : inB ⟨#[104, 115]⟩ 112 = false := by decide +kernel
  have f111 : inB ⟨#[104, 115]⟩ 111 = false := by decide +kernel
  have f104 : inB ⟨#[104, 115]⟩ 104 = true := by decide +kernel
  have f97 : inB ⟨#[104, 115]⟩ 97 = false := by decide +kernel
  have f115 : inB ⟨#[104, 115]⟩ 115 = true := by decide +kernel
  have f109 : inB ⟨#[104, 115]⟩ 109 = false := by decide +kernel
  have f100 : inB ⟨#[104, 115]⟩ 100 = false := by decide +kernel
  rw [preR, numsB, midB] at h
  simp only [Bool.and_eq_true, decide_eq_true_eq, bne_iff_ne, ne_eq] at h
  obtain ⟨⟨⟨⟨⟨⟨⟨⟨n1, n2⟩, n3⟩, n4⟩, n5⟩, n6⟩, n7⟩, ⟨⟨⟨h1, h2⟩, h3⟩, h4⟩, h5⟩, -⟩ := h
  have n1b := n1
  simp only [numB, Bool.and_eq_true, decide_eq_true_eq] at n1b
  have q1 : decide (seat < 0) = false := by simp; omega
  have q2 : decide (7 < seat) = false := by simp; omega
  have q3 : decide (life < 1) = false := by simp; omega
  have q4 : decide (255 < (path.length : Int)) = false := by simp; omega
  have q5 : decide (255 < (other.length : Int)) = false := by simp; omega
  clear h1 h2 h3 h4 h5 n1b
  simp only [vval, vcells]
  go_enter Try.func83, Try.ntmps83
  go_wp2_with (first
    | (go_at_call 152; refine (HH.out _).mono ?_; rintro e w' ⟨rfl, rfl⟩)
    | (go_at_call 153; refine (rvnumber_any _ _).mono ?_; rintro e w' ⟨rfl, rfl⟩)
    | (go_at_call 154; refine (vin_any _ _ _ (by decide)).mono ?_; rintro e w' ⟨rfl, rfl⟩))
  all_goals
    go_ret
    exact ⟨ret_bool (by rw [HG.out, Bool.eq_iff_iff]; simp_all [ownB, bareB, hasP, hasO, hasH, hasA, hasS, hasM, hasD]; try omega), (Below.refl _ _).alloc (Nat.le_refl _) _⟩
set_option maxHeartbeats 2000000 in
set_option maxRecDepth 100000 in
theorem rgood_13 (seat life seq epoch : Int) (path other : List UInt8) (node gen pos size mode : Int) (data : List UInt8) (A : Option Addr) (c : Nat) (w : World) (h : preR ⟨13, seat, life, seq, epoch, path, other, node, gen, pos, size, mode, data⟩ = true) : Calls Try.prog 83 #[vval ⟨13, seat, life, seq, epoch, path, other, node, gen, pos, size, mode, data⟩ A c] w fun e w' => e = .returned (.bool (goodV ⟨13, seat, life, seq, epoch, path, other, node, gen, pos, size, mode, data⟩)) ∧ Below w.heap.size w w' := by
  have HG := hid (goodV_pre ⟨13, seat, life, seq, epoch, path, other, node, gen, pos, size, mode, data⟩)
  rw [h, Bool.true_and] at HG
  obtain ⟨gv, hgv⟩ : ∃ gv, goodV ⟨13, seat, life, seq, epoch, path, other, node, gen, pos, size, mode, data⟩ = gv := ⟨_, rfl⟩
  rw [hgv] at HG ⊢
  clear hgv
  have HH : Hid (∀ W, Calls Try.prog 152 #[.int .i64 13] W fun e w' => e = .returned (.string ⟨#[104, 109]⟩) ∧ w' = W) := hid (has_any 13)
  have f112 : inB ⟨#[104, 109]⟩ 112 = false := by decide +kernel
  have f111 : inB ⟨#[104, 109]⟩ 111 = false := by decide +kernel
  have f104 : inB ⟨#[104, 109]⟩ 104 = true := by decide +kernel
  have f97 : inB ⟨#[104, 109]⟩ 97 = false := by decide +kernel
  have f115 : inB ⟨#[104, 109]⟩ 115 = false := by decide +kernel
  have f109 : inB ⟨#[104, 109]⟩ 109 = true := by decide +kernel
  have f100 : inB ⟨#[104, 109]⟩ 100 = false := by decide +kernel
  rw [preR, numsB, midB] at h
  simp only [Bool.and_eq_true, decide_eq_true_eq, bne_iff_ne, ne_eq] at h
  obtain ⟨⟨⟨⟨⟨⟨⟨⟨n1, n2⟩, n3⟩, n4⟩, n5⟩, n6⟩, n7⟩, ⟨⟨⟨h1, h2⟩, h3⟩, h4⟩, h5⟩, -⟩ := h
  have n1b := n1
  simp only [numB, Bool.and_eq_true, decide_eq_true_eq] at n1b
  have q1 : decide (seat < 0) = false := by simp; omega
  have q2 : decide (7 < seat) = false := by simp; omega
  have q3 : decide (life < 1) = false := by simp; omega
  have q4 : decide (255 < (path.length : Int)) = false := by simp; omega
  have q5 : decide (255 < (other.length : Int)) = false := by simp; omega
  clear h1 h2 h3 h4 h5 n1b
  simp only [vval, vcells]
  go_enter Try.func83, Try.ntmps83
  go_wp2_with (first
    | (go_at_call 152; refine (HH.out _).mono ?_; rintro e w' ⟨rfl, rfl⟩)
    | (go_at_call 153; refine (rvnumber_any _ _).mono ?_; rintro e w' ⟨rfl, rfl⟩)
    | (go_at_call 154; refine (vin_any _ _ _ (by decide)).mono ?_; rintro e w' ⟨rfl, rfl⟩))
  all_goals
    go_ret
    exact ⟨ret_bool (by rw [HG.out, Bool.eq_iff_iff]; simp_all [ownB, bareB, hasP, hasO, hasH, hasA, hasS, hasM, hasD]; try omega), (Below.refl _ _).alloc (Nat.le_refl _) _⟩
set_option maxHeartbeats 2000000 in
set_option maxRecDepth 100000 in
theorem rgood_14 (seat life seq epoch : Int) (path other : List UInt8) (node gen pos size mode : Int) (data : List UInt8) (A : Option Addr) (c : Nat) (w : World) (h : preR ⟨14, seat, life, seq, epoch, path, other, node, gen, pos, size, mode, data⟩ = true) : Calls Try.prog 83 #[vval ⟨14, seat, life, seq, epoch, path, other, node, gen, pos, size, mode, data⟩ A c] w fun e w' => e = .returned (.bool (goodV ⟨14, seat, life, seq, epoch, path, other, node, gen, pos, size, mode, data⟩)) ∧ Below w.heap.size w w' := by
  have HG := hid (goodV_pre ⟨14, seat, life, seq, epoch, path, other, node, gen, pos, size, mode, data⟩)
  rw [h, Bool.true_and] at HG
  obtain ⟨gv, hgv⟩ : ∃ gv, goodV ⟨14, seat, life, seq, epoch, path, other, node, gen, pos, size, mode, data⟩ = gv := ⟨_, rfl⟩
  rw [hgv] at HG ⊢
  clear hgv
  have HH : Hid (∀ W, Calls Try.prog 152 #[.int .i64 14] W fun e w' => e = .returned (.string ⟨#[104]⟩) ∧ w' = W) := hid (has_any 14)
  have f112 : inB ⟨#[104]⟩ 112 = false := by decide +kernel
  have f111 : inB ⟨#[104]⟩ 111 = false := by decide +kernel
  have f104 : inB ⟨#[104]⟩ 104 = true := by decide +kernel
  have f97 : inB ⟨#[104]⟩ 97 = false := by decide +kernel
  have f115 : inB ⟨#[104]⟩ 115 = false := by decide +kernel
  have f109 : inB ⟨#[104]⟩ 109 = false := by decide +kernel
  have f100 : inB ⟨#[104]⟩ 100 = false := by decide +kernel
  rw [preR, numsB, midB] at h
  simp only [Bool.and_eq_true, decide_eq_true_eq, bne_iff_ne, ne_eq] at h
  obtain ⟨⟨⟨⟨⟨⟨⟨⟨n1, n2⟩, n3⟩, n4⟩, n5⟩, n6⟩, n7⟩, ⟨⟨⟨h1, h2⟩, h3⟩, h4⟩, h5⟩, -⟩ := h
  have n1b := n1
  simp only [numB, Bool.and_eq_true, decide_eq_true_eq] at n1b
  have q1 : decide (seat < 0) = false := by simp; omega
  have q2 : decide (7 < seat) = false := by simp; omega
  have q3 : decide (life < 1) = false := by simp; omega
  have q4 : decide (255 < (path.length : Int)) = false := by simp; omega
  have q5 : decide (255 < (other.length : Int)) = false := by simp; omega
  clear h1 h2 h3 h4 h5 n1b
  simp only [vval, vcells]
  go_enter Try.func83, Try.ntmps83
  go_wp2_with (first
    | (go_at_call 152; refine (HH.out _).mono ?_; rintro e w' ⟨rfl, rfl⟩)
    | (go_at_call 153; refine (rvnumber_any _ _).mono ?_; rintro e w' ⟨rfl, rfl⟩)
    | (go_at_call 154; refine (vin_any _ _ _ (by decide)).mono ?_; rintro e w' ⟨rfl, rfl⟩))
  all_goals
    go_ret
    exact ⟨ret_bool (by rw [HG.out, Bool.eq_iff_iff]; simp_all [ownB, bareB, hasP, hasO, hasH, hasA, hasS, hasM, hasD]; try omega), (Below.refl _ _).alloc (Nat.le_refl _) _⟩
set_option maxHeartbeats 2000000 in
set_option maxRecDepth 100000 in
theorem rgood_15 (seat life seq epoch : Int) (path other : List UInt8) (node gen pos size mode : Int) (data : List UInt8) (A : Option Addr) (c : Nat) (w : World) (h : preR ⟨15, seat, life, seq, epoch, path, other, node, gen, pos, size, mode, data⟩ = true) : Calls Try.prog 83 #[vval ⟨15, seat, life, seq, epoch, path, other, node, gen, pos, size, mode, data⟩ A c] w fun e w' => e = .returned (.bool (goodV ⟨15, seat, life, seq, epoch, path, other, node, gen, pos, size, mode, data⟩)) ∧ Below w.heap.size w w' := by
  have HG := hid (goodV_pre ⟨15, seat, life, seq, epoch, path, other, node, gen, pos, size, mode, data⟩)
  rw [h, Bool.true_and] at HG
  obtain ⟨gv, hgv⟩ : ∃ gv, goodV ⟨15, seat, life, seq, epoch, path, other, node, gen, pos, size, mode, data⟩ = gv := ⟨_, rfl⟩
  rw [hgv] at HG ⊢
  clear hgv
  have HH : Hid (∀ W, Calls Try.prog 152 #[.int .i64 15] W fun e w' => e = .returned (.string ⟨#[104, 109]⟩) ∧ w' = W) := hid (has_any 15)
  have f112 : inB ⟨#[104, 109]⟩ 112 = false := by decide +kernel
  have f111 : inB ⟨#[104, 109]⟩ 111 = false := by decide +kernel
  have f104 : inB ⟨#[104, 109]⟩ 104 = true := by decide +kernel
  have f97 : inB ⟨#[104, 109]⟩ 97 = false := by decide +kernel
  have f115 : inB ⟨#[104, 109]⟩ 115 = false := by decide +kernel
  have f109 : inB ⟨#[104, 109]⟩ 109 = true := by decide +kernel
  have f100 : inB ⟨#[104, 109]⟩ 100 = false := by decide +kernel
  rw [preR, numsB, midB] at h
  simp only [Bool.and_eq_true, decide_eq_true_eq, bne_iff_ne, ne_eq] at h
  obtain ⟨⟨⟨⟨⟨⟨⟨⟨n1, n2⟩, n3⟩, n4⟩, n5⟩, n6⟩, n7⟩, ⟨⟨⟨h1, h2⟩, h3⟩, h4⟩, h5⟩, -⟩ := h
  have n1b := n1
  simp only [numB, Bool.and_eq_true, decide_eq_true_eq] at n1b
  have q1 : decide (seat < 0) = false := by simp; omega
  have q2 : decide (7 < seat) = false := by simp; omega
  have q3 : decide (life < 1) = false := by simp; omega
  have q4 : decide (255 < (path.length : Int)) = false := by simp; omega
  have q5 : decide (255 < (other.length : Int)) = false := by simp; omega
  clear h1 h2 h3 h4 h5 n1b
  simp only [vval, vcells]
  go_enter Try.func83, Try.ntmps83
  go_wp2_with (first
    | (go_at_call 152; refine (HH.out _).mono ?_; rintro e w' ⟨rfl, rfl⟩)
    | (go_at_call 153; refine (rvnumber_any _ _).mono ?_; rintro e w' ⟨rfl, rfl⟩)
    | (go_at_call 154; refine (vin_any _ _ _ (by decide)).mono ?_; rintro e w' ⟨rfl, rfl⟩))
  all_goals
    go_ret
    exact ⟨ret_bool (by rw [HG.out, Bool.eq_iff_iff]; simp_all [ownB, bareB, hasP, hasO, hasH, hasA, hasS, hasM, hasD]; try omega), (Below.refl _ _).alloc (Nat.le_refl _) _⟩
end Go.Proofs.Ytppbcdcmpcagdaa
