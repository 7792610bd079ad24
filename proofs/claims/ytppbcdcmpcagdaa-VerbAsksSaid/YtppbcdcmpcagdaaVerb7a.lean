/- Contract of the reference's Good of a request: at kinds 1 to 5. -/
import Derived.Test.YtppbcdcmpcagdaaVerb7
namespace Go.Proofs.Ytppbcdcmpcagdaa
open Go.RowKit Go.CP

set_option maxHeartbeats 2000000 in
set_option maxRecDepth 100000 in
theorem rgood_1 (seat life seq epoch : Int) (path other : List UInt8) (node gen pos size mode : Int) (data : List UInt8) (A : Option Addr) (c : Nat) (w : World) (h : preR ⟨1, seat, life, seq, epoch, path, other, node, gen, pos, size, mode, data⟩ = true) : Calls Try.prog 83 #[vval ⟨1, seat, life, seq, epoch, path, other, node, gen, pos, size, mode, data⟩ A c] w fun e w' => e = .returned (.bool (goodV ⟨1, seat, life, seq, epoch, path, other, node, gen, pos, size, mode, data⟩)) ∧ Below w.heap.size w w' := by
  have HG := hid (goodV_pre ⟨1, seat, life, seq, epoch, path, other, node, gen, pos, size, mode, data⟩)
  rw [h, Bool.true_and] at HG
  obtain ⟨gv, hgv⟩ : ∃ gv, goodV ⟨1, seat, life, seq, epoch, path, other, node, gen, pos, size, mode, data⟩ = gv := ⟨_, rfl⟩
  rw [hgv] at HG ⊢
  clear hgv
  have HH : Hid (∀ W, Calls Try.prog 152 #[.int .i64 1] W fun e w' => e = .returned (.string ⟨#[46]⟩) ∧ w' = W) := hid (has_any 1)
  have f112 : inB ⟨#[46]⟩ 112 = false := by decide +kernel
  have f111 : inB ⟨#[46]⟩ 111 = false := by decide +kernel
  have f104 : inB ⟨#[46]⟩ 104 = false := by decide +kernel
  have f97 : inB ⟨#[46]⟩ 97 = false := by decide +kernel
  have f115 : inB ⟨#[46]⟩ 115 = false := by decide +kernel
  have f109 : inB ⟨#[46]⟩ 109 = false := by decide +kernel
  have f100 : inB ⟨#[46]⟩ 100 = false := by decide +kernel
  rw [preR, numsB, midB] at h
  simp only [Bool.and_eq_true, decide_eq_true_eq, bne_iff_ne, ne_eq] at h
  obtain ⟨⟨⟨⟨⟨⟨⟨⟨n1, n2⟩, n3⟩, n4⟩, n5⟩, n6⟩, n7⟩, ⟨⟨⟨h1, h2⟩, h3⟩, h4⟩, h5⟩, -⟩ := h
  have n1b := n1
  simp only [numB, Bool.and_eq_true, decide_eq_true_eq] at n1b
  have q1 : decide (seat < 0) = false := by simp; omega
  have q2 : decide (7 < seat) = false := by simp; omega
  have q3 : decide (life < 1) = false := by simp; omega
  have q4 : decide (255 < (path.length : Int)) = false := by simp; omega
  have q5 : decide (255 < (other.length : Int)) = false := by simp; omega
  clear h1 h2 h3 h4 h5 n1b
  simp only [vval, vcells]
  go_enter Try.func83, Try.ntmps83
  go_wp2_with (first
    | (go_at_call 152; refine (HH.out _).mono ?_; rintro e w' ⟨rfl, rfl⟩)
    | (go_at_call 153; refine (rvnumber_any _ _).mono ?_; rintro e w' ⟨rfl, rfl⟩)
    | (go_at_call 154; refine (vin_any _ _ _ (by decide)).mono ?_; rintro e w' ⟨rfl, rfl⟩))
  all_goals
    go_ret
    exact ⟨ret_bool (by rw [HG.out, Bool.eq_iff_iff]; simp_all [ownB, bareB, hasP, hasO, hasH, hasA, hasS, hasM, hasD]; try omega), (Below.refl _ _).alloc (Nat.le_refl _) _⟩
set_option maxHeartbeats 2000000 in
set_option maxRecDepth 100000 in
theorem rgood_2 (seat life seq epoch : Int) (path other : List UInt8) (node gen pos size mode : Int) (data : List UInt8) (A : Option Addr) (c : Nat) (w : World) (h : preR ⟨2, seat, life, seq, epoch, path, other, node, gen, pos, size, mode, data⟩ = true) : Calls Try.prog 83 #[vval ⟨2, seat, life, seq, epoch, path, other, node, gen, pos, size, mode, data⟩ A c] w fun e w' => e = .returned (.bool (goodV ⟨2, seat, life, seq, epoch, path, other, node, gen, pos, size, mode, data⟩)) ∧ Below w.heap.size w w' := by
  have HG := hid (goodV_pre ⟨2, seat, life, seq, epoch, path, other, node, gen, pos, size, mode, data⟩)
  rw [h, Bool.true_and] at HG
  obtain ⟨gv, hgv⟩ : ∃ gv, goodV ⟨2, seat, life, seq, epoch, path, other, node, gen, pos, size, mode, data⟩ = gv := ⟨_, rfl⟩
  rw [hgv] at HG ⊢
  clear hgv
  have HH : Hid (∀ W, Calls Try.prog 152 #[.int .i64 2] W fun e w' => e = .returned (.string ⟨#[112]⟩) ∧ w' = W) := hid (has_any 2)
  have f112 : inB ⟨#[112]⟩ 112 = true := by decide +kernel
  have f111 : inB ⟨#[112]⟩ 111 = false := by decide +kernel
  have f104 : inB ⟨#[112]⟩ 104 = false := by decide +kernel
  have f97 : inB ⟨#[112]⟩ 97 = false := by decide +kernel
  have f115 : inB ⟨#[112]⟩ 115 = false := by decide +kernel
  have f109 : inB ⟨#[112]⟩ 109 = false := by decide +kernel
  have f100 : inB ⟨#[112]⟩ 100 = false := by decide +kernel
  rw [preR, numsB, midB] at h
  simp only [Bool.and_eq_true, decide_eq_true_eq, bne_iff_ne, ne_eq] at h
  obtain ⟨⟨⟨⟨⟨⟨⟨⟨n1, n2⟩, n3⟩, n4⟩, n5⟩, n6⟩, n7⟩, ⟨⟨⟨h1, h2⟩, h3⟩, h4⟩, h5⟩, -⟩ := h
  have n1b := n1
  simp only [numB, Bool.and_eq_true, decide_eq_true_eq] at n1b
  have q1 : decide (seat < 0) = false := by simp; omega
  have q2 : decide (7 < seat) = false := by simp; omega
  have q3 : decide (life < 1) = false := by simp; omega
  have q4 : decide (255 < (path.length : Int)) = false := by simp; omega
  have q5 : decide (255 < (other.length : Int)) = false := by simp; omega
  clear h1 h2 h3 h4 h5 n1b
  simp only [vval, vcells]
  go_enter Try.func83, Try.ntmps83
  go_wp2_with (first
    | (go_at_call 152; refine (HH.out _).mono ?_; rintro e w' ⟨rfl, rfl⟩)
    | (go_at_call 153; refine (rvnumber_any _ _).mono ?_; rintro e w' ⟨rfl, rfl⟩)
    | (go_at_call 154; refine (vin_any _ _ _ (by decide)).mono ?_; rintro e w' ⟨rfl, rfl⟩))
  all_goals
    go_ret
    exact ⟨ret_bool (by rw [HG.out, Bool.eq_iff_iff]; simp_all [ownB, bareB, hasP, hasO, hasH, hasA, hasS, hasM, hasD]; try omega), (Below.refl _ _).alloc (Nat.le_refl _) _⟩
set_option maxHeartbeats 2000000 in
set_option maxRecDepth 100000 in
theorem rgood_3 (seat life seq epoch : Int) (path other : List UInt8) (node gen pos size mode : Int) (data : List UInt8) (A : Option Addr) (c : Nat) (w : World) (h : preR ⟨3, seat, life, seq, epoch, path, other, node, gen, pos, size, mode, data⟩ = true) : Calls Try.prog 83 #[vval ⟨3, seat, life, seq, epoch, path, other, node, gen, pos, size, mode, data⟩ A c] w fun e w' => e = .returned (.bool (goodV ⟨3, seat, life, seq, epoch, path, other, node, gen, pos, size, mode, data⟩)) ∧ Below w.heap.size w w' := by
  have HG := hid (goodV_pre ⟨3, seat, life, seq, epoch, path, other, node, gen, pos, size, mode, data⟩)
  rw [h, Bool.true_and] at HG
  obtain ⟨gv, hgv⟩ : ∃ gv, goodV ⟨3, seat, life, seq, epoch, path, other, node, gen, pos, size, mode, data⟩ = gv := ⟨_, rfl⟩
  rw [hgv] at HG ⊢
  clear hgv
  have HH : Hid (∀ W, Calls Try.prog 152 #[.int .i64 3] W fun e w' => e = .returned (.string ⟨#[112]⟩) ∧ w' = W) := hid (has_any 3)
  have f112 : inB ⟨#[112]⟩ 112 = true := by decide +kernel
  have f111 : inB ⟨#[112]⟩ 111 = false := by decide +kernel
  have f104 : inB ⟨#[112]⟩ 104 = false := by decide +kernel
  have f97 : inB ⟨#[112]⟩ 97 = false := by decide +kernel
  have f115 : inB ⟨#[112]⟩ 115 = false := by decide +kernel
  have f109 : inB ⟨#[112]⟩ 109 = false := by decide +kernel
  have f100 : inB ⟨#[112]⟩ 100 = false := by decide +kernel
  rw [preR, numsB, midB] at h
  simp only [Bool.and_eq_true, decide_eq_true_eq, bne_iff_ne, ne_eq] at h
  obtain ⟨⟨⟨⟨⟨⟨⟨⟨n1, n2⟩, n3⟩, n4⟩, n5⟩, n6⟩, n7⟩, ⟨⟨⟨h1, h2⟩, h3⟩, h4⟩, h5⟩, -⟩ := h
  have n1b := n1
  simp only [numB, Bool.and_eq_true, decide_eq_true_eq] at n1b
  have q1 : decide (seat < 0) = false := by simp; omega
  have q2 : decide (7 < seat) = false := by simp; omega
  have q3 : decide (life < 1) = false := by simp; omega
  have q4 : decide (255 < (path.length : Int)) = false := by simp; omega
  have q5 : decide (255 < (other.length : Int)) = false := by simp; omega
  clear h1 h2 h3 h4 h5 n1b
  simp only [vval, vcells]
  go_enter Try.func83, Try.ntmps83
  go_wp2_with (first
    | (go_at_call 152; refine (HH.out _).mono ?_; rintro e w' ⟨rfl, rfl⟩)
    | (go_at_call 153; refine (rvnumber_any _ _).mono ?_; rintro e w' ⟨rfl, rfl⟩)
    | (go_at_call 154; refine (vin_any _ _ _ (by decide)).mono ?_; rintro e w' ⟨rfl, rfl⟩))
  all_goals
    go_ret
    exact ⟨ret_bool (by rw [HG.out, Bool.eq_iff_iff]; simp_all [ownB, bareB, hasP, hasO, hasH, hasA, hasS, hasM, hasD]; try omega), (Below.refl _ _).alloc (Nat.le_refl _) _⟩
set_option maxHeartbeats 2000000 in
set_option maxRecDepth 100000 in
theorem rgood_4 (seat life seq epoch : Int) (path other : List UInt8) (node gen pos size mode : Int) (data : List UInt8) (A : Option Addr) (c : Nat) (w : World) (h : preR ⟨4, seat, life, seq, epoch, path, other, node, gen, pos, size, mode, data⟩ = true) : Calls Try.prog 83 #[vval ⟨4, seat, life, seq, epoch, path, other, node, gen, pos, size, mode, data⟩ A c] w fun e w' => e = .returned (.bool (goodV ⟨4, seat, life, seq, epoch, path, other, node, gen, pos, size, mode, data⟩)) ∧ Below w.heap.size w w' := by
  have HG := hid (goodV_pre ⟨4, seat, life, seq, epoch, path, other, node, gen, pos, size, mode, data⟩)
  rw [h, Bool.true_and] at HG
  obtain ⟨gv, hgv⟩ : ∃ gv, goodV ⟨4, seat, life, seq, epoch, path, other, node, gen, pos, size, mode, data⟩ = gv := ⟨_, rfl⟩
  rw [hgv] at HG ⊢
  clear hgv
  have HH : Hid (∀ W, Calls Try.prog 152 #[.int .i64 4] W fun e w' => e = .returned (.string ⟨#[112]⟩) ∧ w' = W) := hid (has_any 4)
  have f112 : inB ⟨#[112]⟩ 112 = true := by decide +kernel
  have f111 : inB ⟨#[112]⟩ 111 = false := by decide +kernel
  have f104 : inB ⟨#[112]⟩ 104 = false := by decide +kernel
  have f97 : inB ⟨#[112]⟩ 97 = false := by decide +kernel
  have f115 : inB ⟨#[112]⟩ 115 = false := by decide +kernel
  have f109 : inB ⟨#[112]⟩ 109 = false := by decide +kernel
  have f100 : inB ⟨#[112]⟩ 100 = false := by decide +kernel
  rw [preR, numsB, midB] at h
  simp only [Bool.and_eq_true, decide_eq_true_eq, bne_iff_ne, ne_eq] at h
  obtain ⟨⟨⟨⟨⟨⟨⟨⟨n1, n2⟩, n3⟩, n4⟩, n5⟩, n6⟩, n7⟩, ⟨⟨⟨h1, h2⟩, h3⟩, h4⟩, h5⟩, -⟩ := h
  have n1b := n1
  simp only [numB, Bool.and_eq_true, decide_eq_true_eq] at n1b
  have q1 : decide (seat < 0) = false := by simp; omega
  have q2 : decide (7 < seat) = false := by simp; omega
  have q3 : decide (life < 1) = false := by simp; omega
  have q4 : decide (255 < (path.length : Int)) = false := by simp; omega
  have q5 : decide (255 < (other.length : Int)) = false := by simp; omega
  clear h1 h2 h3 h4 h5 n1b
  simp only [vval, vcells]
  go_enter Try.func83, Try.ntmps83
  go_wp2_with (first
    | (go_at_call 152; refine (HH.out _).mono ?_; rintro e w' ⟨rfl, rfl⟩)
    | (go_at_call 153; refine (rvnumber_any _ _).mono ?_; rintro e w' ⟨rfl, rfl⟩)
    | (go_at_call 154; refine (vin_any _ _ _ (by decide)).mono ?_; rintro e w' ⟨rfl, rfl⟩))
  all_goals
    go_ret
    exact ⟨ret_bool (by rw [HG.out, Bool.eq_iff_iff]; simp_all [ownB, bareB, hasP, hasO, hasH, hasA, hasS, hasM, hasD]; try omega), (Below.refl _ _).alloc (Nat.le_refl _) _⟩
set_option maxHeartbeats 2000000 in
set_option maxRecDepth 100000 in
theorem rgood_5 (seat life seq epoch : Int) (path other : List UInt8) (node gen pos size mode : Int) (data : List UInt8) (A : Option Addr) (c : Nat) (w : World) (h : preR ⟨5, seat, life, seq, epoch, path, other, node, gen, pos, size, mode, data⟩ = true) : Calls Try.prog 83 #[vval ⟨5, seat, life, seq, epoch, path, other, node, gen, pos, size, mode, data⟩ A c] w fun e w' => e = .returned (.bool (goodV ⟨5, seat, life, seq, epoch, path, other, node, gen, pos, size, mode, data⟩)) ∧ Below w.heap.size w w' := by
  have HG := hid (goodV_pre ⟨5, seat, life, seq, epoch, path, other, node, gen, pos, size, mode, data⟩)
  rw [h, Bool.true_and] at HG
  obtain ⟨gv, hgv⟩ : ∃ gv, goodV ⟨5, seat, life, seq, epoch, path, other, node, gen, pos, size, mode, data⟩ = gv := ⟨_, rfl⟩
  rw [hgv] at HG ⊢
  clear hgv
  have HH : Hid (∀ W, Calls Try.prog 152 #[.int .i64 5] W fun e w' => e = .returned (.string ⟨#[112, 111]⟩) ∧ w' = W) := hid (has_any 5)
  have f112 : inB ⟨#[112, 111]⟩ 112 = true := by decide +kernel
  have f111 : inB ⟨#[112, 111]⟩ 111 = true := by decide +kernel
  have f104 : inB ⟨#[112, 111]⟩ 104 = false := by decide +kernel
  have f97 : inB ⟨#[112, 111]⟩ 97 = false := by decide +kernel
  have f115 : inB ⟨#[112, 111]⟩ 115 = false := by decide +kernel
  have f109 : inB ⟨#[112, 111]⟩ 109 = false := by decide +kernel
  have f100 : inB ⟨#[112, 111]⟩ 100 = false := by decide +kernel
  rw [preR, numsB, midB] at h
  simp only [Bool.and_eq_true, decide_eq_true_eq, bne_iff_ne, ne_eq] at h
  obtain ⟨⟨⟨⟨⟨⟨⟨⟨n1, n2⟩, n3⟩, n4⟩, n5⟩, n6⟩, n7⟩, ⟨⟨⟨h1, h2⟩, h3⟩, h4⟩, h5⟩, -⟩ := h
  have n1b := n1
  simp only [numB, Bool.and_eq_true, decide_eq_true_eq] at n1b
  have q1 : decide (seat < 0) = false := by simp; omega
  have q2 : decide (7 < seat) = false := by simp; omega
  have q3 : decide (life < 1) = false := by simp; omega
  have q4 : decide (255 < (path.length : Int)) = false := by simp; omega
  have q5 : decide (255 < (other.length : Int)) = false := by simp; omega
  clear h1 h2 h3 h4 h5 n1b
  simp only [vval, vcells]
  go_enter Try.func83, Try.ntmps83
  go_wp2_with (first
    | (go_at_call 152; refine (HH.out _).mono ?_; rintro e w' ⟨rfl, rfl⟩)
    | (go_at_call 153; refine (rvnumber_any _ _).mono ?_; rintro e w' ⟨rfl, rfl⟩)
    | (go_at_call 154; refine (vin_any _ _ _ (by decide)).mono ?_; rintro e w' ⟨rfl, rfl⟩))
  all_goals
    go_ret
    exact ⟨ret_bool (by rw [HG.out, Bool.eq_iff_iff]; simp_all [ownB, bareB, hasP, hasO, hasH, hasA, hasS, hasM, hasD]; try omega), (Below.refl _ _).alloc (Nat.le_refl _) _⟩
end Go.Proofs.Ytppbcdcmpcagdaa
