/- Contract of the reference's Good of a request: at kinds 6 to 10. -/
import Derived.Test.YtppbcdcmpcagdaaVerb7
namespace Go.Proofs.Ytppbcdcmpcagdaa
open Go.RowKit Go.CP

set_option maxHeartbeats 2000000 in
set_option maxRecDepth 100000 in
theorem rgood_6 (seat life seq epoch : Int) (path other : List UInt8) (node gen pos size mode : Int) (data : List UInt8) (A : Option Addr) (c : Nat) (w : World) (h : preR ⟨6, seat, life, seq, epoch, path, other, node, gen, pos, size, mode, data⟩ = true) : Calls Try.prog 83 #[vval ⟨6, seat, life, seq, epoch, path, other, node, gen, pos, size, mode, data⟩ A c] w fun e w' => e = .returned (.bool (goodV ⟨6, seat, life, seq, epoch, path, other, node, gen, pos, size, mode, data⟩)) ∧ Below w.heap.size w w' := by
  have HG := hid (goodV_pre ⟨6, seat, life, seq, epoch, path, other, node, gen, pos, size, mode, data⟩)
  rw [h, Bool.true_and] at HG
  obtain ⟨gv, hgv⟩ : ∃ gv, goodV ⟨6, seat, life, seq, epoch, path, other, node, gen, pos, size, mode, data⟩ = gv := ⟨_, rfl⟩
  rw [hgv] at HG ⊢
  clear hgv
  have HH : Hid (∀ W, Calls Try.prog 152 #[.int .i64 6] W fun e w' => e = .returned (.string ⟨#[112]⟩) ∧ w' = W) := hid (has_any 6)
  have f112 : inB ⟨#[112]⟩ 112 = true := by decide +kernel
  have f111 : inB ⟨#[112]⟩ 111 = false := by decide +kernel
  have f104 : inB ⟨#[112]⟩ 104 = false := by decide +kernel
  have f97 : inB ⟨#[112]⟩ 97 = false := by decide +kernel
  have f115 : inB ⟨#[112]⟩ 115 = false := by decide +kernel
  have f109 : inB ⟨#[112]⟩ 109 = false := by decide +kernel
  have f100 : inB ⟨#[112]⟩ 100 = false := by decide +kernel
  rw [preR, numsB, midB] at h
  simp only [Bool.and_eq_true, decide_eq_true_eq, bne_iff_ne, ne_eq] at h
  obtain ⟨⟨⟨⟨⟨⟨⟨⟨n1, n2⟩, n3⟩, n4⟩, n5⟩, n6⟩, n7⟩, ⟨⟨⟨h1, h2⟩, h3⟩, h4⟩, h5⟩, -⟩ := h
  have n1b := n1
  simp only [numB, Bool.and_eq_true, decide_eq_true_eq] at n1b
  have q1 : decide (seat < 0) = false := by simp; omega
  have q2 : decide (7 < seat) = false := by simp; omega
  have q3 : decide (life < 1) = false := by simp; omega
  have q4 : decide (255 < (path.length : Int)) = false := by simp; omega
  have q5 : decide (255 < (other.length : Int)) = false := by simp; omega
  clear h1 h2 h3 h4 h5 n1b
  simp only [vval, vcells]
  go_enter Try.func83, Try.ntmps83
  go_wp2_with (first
    | (go_at_call 152; refine (HH.out _).mono ?_; rintro e w' ⟨rfl, rfl⟩)
    | (go_at_call 153; refine (rvnumber_any _ _).mono ?_; rintro e w' ⟨rfl, rfl⟩)
    | (go_at_call 154; refine (vin_any _ _ _ (by decide)).mono ?_; rintro e w' ⟨rfl, rfl⟩))
  all_goals
    go_ret
    exact ⟨ret_bool (by rw [HG.out, Bool.eq_iff_iff]; simp_all [ownB, bareB, hasP, hasO, hasH, hasA, hasS, hasM, hasD]; try omega), (Below.refl _ _).alloc (Nat.le_refl _) _⟩
set_option maxHeartbeats 2000000 in
set_option maxRecDepth 100000 in
theorem rgood_7 (seat life seq epoch : Int) (path other : List UInt8) (node gen pos size mode : Int) (data : List UInt8) (A : Option Addr) (c : Nat) (w : World) (h : preR ⟨7, seat, life, seq, epoch, path, other, node, gen, pos, size, mode, data⟩ = true) : Calls Try.prog 83 #[vval ⟨7, seat, life, seq, epoch, path, other, node, gen, pos, size, mode, data⟩ A c] w fun e w' => e = .returned (.bool (goodV ⟨7, seat, life, seq, epoch, path, other, node, gen, pos, size, mode, data⟩)) ∧ Below w.heap.size w w' := by
  have HG := hid (goodV_pre ⟨7, seat, life, seq, epoch, path, other, node, gen, pos, size, mode, data⟩)
  rw [h, Bool.true_and] at HG
  obtain ⟨gv, hgv⟩ : ∃ gv, goodV ⟨7, seat, life, seq, epoch, path, other, node, gen, pos, size, mode, data⟩ = gv := ⟨_, rfl⟩
  rw [hgv] at HG ⊢
  clear hgv
  have HH : Hid (∀ W, Calls Try.prog 152 #[.int .i64 7] W fun e w' => e = .returned (.string ⟨#[112]⟩) ∧ w' = W) := hid (has_any 7)
  have f112 : inB ⟨#[112]⟩ 112 = true := by decide +kernel
  have f111 : inB ⟨#[112]⟩ 111 = false := by decide +kernel
  have f104 : inB ⟨#[112]⟩ 104 = false := by decide +kernel
  have f97 : inB ⟨#[112]⟩ 97 = false := by decide +kernel
  have f115 : inB ⟨#[112]⟩ 115 = false := by decide +kernel
  have f109 : inB ⟨#[112]⟩ 109 = false := by decide +kernel
  have f100 : inB ⟨#[112]⟩ 100 = false := by decide +kernel
  rw [preR, numsB, midB] at h
  simp only [Bool.and_eq_true, decide_eq_true_eq, bne_iff_ne, ne_eq] at h
  obtain ⟨⟨⟨⟨⟨⟨⟨⟨n1, n2⟩, n3⟩, n4⟩, n5⟩, n6⟩, n7⟩, ⟨⟨⟨h1, h2⟩, h3⟩, h4⟩, h5⟩, -⟩ := h
  have n1b := n1
  simp only [numB, Bool.and_eq_true, decide_eq_true_eq] at n1b
  have q1 : decide (seat < 0) = false := by simp; omega
  have q2 : decide (7 < seat) = false := by simp; omega
  have q3 : decide (life < 1) = false := by simp; omega
  have q4 : decide (255 < (path.length : Int)) = false := by simp; omega
  have q5 : decide (255 < (other.length : Int)) = false := by simp; omega
  clear h1 h2 h3 h4 h5 n1b
  simp only [vval, vcells]
  go_enter Try.func83, Try.ntmps83
  go_wp2_with (first
    | (go_at_call 152; refine (HH.out _).mono ?_; rintro e w' ⟨rfl, rfl⟩)
    | (go_at_call 153; refine (rvnumber_any _ _).mono ?_; rintro e w' ⟨rfl, rfl⟩)
    | (go_at_call 154; refine (vin_any _ _ _ (by decide)).mono ?_; rintro e w' ⟨rfl, rfl⟩))
  all_goals
    go_ret
    exact ⟨ret_bool (by rw [HG.out, Bool.eq_iff_iff]; simp_all [ownB, bareB, hasP, hasO, hasH, hasA, hasS, hasM, hasD]; try omega), (Below.refl _ _).alloc (Nat.le_refl _) _⟩
set_option maxHeartbeats 2000000 in
set_option maxRecDepth 100000 in
theorem rgood_8 (seat life seq epoch : Int) (path other : List UInt8) (node gen pos size mode : Int) (data : List UInt8) (A : Option Addr) (c : Nat) (w : World) (h : preR ⟨8, seat, life, seq, epoch, path, other, node, gen, pos, size, mode, data⟩ = true) : Calls Try.prog 83 #[vval ⟨8, seat, life, seq, epoch, path, other, node, gen, pos, size, mode, data⟩ A c] w fun e w' => e = .returned (.bool (goodV ⟨8, seat, life, seq, epoch, path, other, node, gen, pos, size, mode, data⟩)) ∧ Below w.heap.size w w' := by
  have HG := hid (goodV_pre ⟨8, seat, life, seq, epoch, path, other, node, gen, pos, size, mode, data⟩)
  rw [h, Bool.true_and] at HG
  obtain ⟨gv, hgv⟩ : ∃ gv, goodV ⟨8, seat, life, seq, epoch, path, other, node, gen, pos, size, mode, data⟩ = gv := ⟨_, rfl⟩
  rw [hgv] at HG ⊢
  clear hgv
  have HH : Hid (∀ W, Calls Try.prog 152 #[.int .i64 8] W fun e w' => e = .returned (.string ⟨#[112, 111]⟩) ∧ w' = W) := hid (has_any 8)
  have f112 : inB ⟨#[112, 111]⟩ 112 = true := by decide +kernel
  have f111 : inB ⟨#[112, 111]⟩ 111 = true := by decide +kernel
  have f104 : inB ⟨#[112, 111]⟩ 104 = false := by decide +kernel
  have f97 : inB ⟨#[112, 111]⟩ 97 = false := by decide +kernel
  have f115 : inB ⟨#[112, 111]⟩ 115 = false := by decide +kernel
  have f109 : inB ⟨#[112, 111]⟩ 109 = false := by decide +kernel
  have f100 : inB ⟨#[112, 111]⟩ 100 = false := by decide +kernel
  rw [preR, numsB, midB] at h
  simp only [Bool.and_eq_true, decide_eq_true_eq, bne_iff_ne, ne_eq] at h
  obtain ⟨⟨⟨⟨⟨⟨⟨⟨n1, n2⟩, n3⟩, n4⟩, n5⟩, n6⟩, n7⟩, ⟨⟨⟨h1, h2⟩, h3⟩, h4⟩, h5⟩, -⟩ := h
  have n1b := n1
  simp only [numB, Bool.and_eq_true, decide_eq_true_eq] at n1b
  have q1 : decide (seat < 0) = false := by simp; omega
  have q2 : decide (7 < seat) = false := by simp; omega
  have q3 : decide (life < 1) = false := by simp; omega
  have q4 : decide (255 < (path.length : Int)) = false := by simp; omega
  have q5 : decide (255 < (other.length : Int)) = false := by simp; omega
  clear h1 h2 h3 h4 h5 n1b
  simp only [vval, vcells]
  go_enter Try.func83, Try.ntmps83
  go_wp2_with (first
    | (go_at_call 152; refine (HH.out _).mono ?_; rintro e w' ⟨rfl, rfl⟩)
    | (go_at_call 153; refine (rvnumber_any _ _).mono ?_; rintro e w' ⟨rfl, rfl⟩)
    | (go_at_call 154; refine (vin_any _ _ _ (by decide)).mono ?_; rintro e w' ⟨rfl, rfl⟩))
  all_goals
    go_ret
    exact ⟨ret_bool (by rw [HG.out, Bool.eq_iff_iff]; simp_all [ownB, bareB, hasP, hasO, hasH, hasA, hasS, hasM, hasD]; try omega), (Below.refl _ _).alloc (Nat.le_refl _) _⟩
set_option maxHeartbeats 2000000 in
set_option maxRecDepth 100000 in
theorem rgood_9 (seat life seq epoch : Int) (path other : List UInt8) (node gen pos size mode : Int) (data : List UInt8) (A : Option Addr) (c : Nat) (w : World) (h : preR ⟨9, seat, life, seq, epoch, path, other, node, gen, pos, size, mode, data⟩ = true) : Calls Try.prog 83 #[vval ⟨9, seat, life, seq, epoch, path, other, node, gen, pos, size, mode, data⟩ A c] w fun e w' => e = .returned (.bool (goodV ⟨9, seat, life, seq, epoch, path, other, node, gen, pos, size, mode, data⟩)) ∧ Below w.heap.size w w' := by
  have HG := hid (goodV_pre ⟨9, seat, life, seq, epoch, path, other, node, gen, pos, size, mode, data⟩)
  rw [h, Bool.true_and] at HG
  obtain ⟨gv, hgv⟩ : ∃ gv, goodV ⟨9, seat, life, seq, epoch, path, other, node, gen, pos, size, mode, data⟩ = gv := ⟨_, rfl⟩
  rw [hgv] at HG ⊢
  clear hgv
  have HH : Hid (∀ W, Calls Try.prog 152 #[.int .i64 9] W fun e w' => e = .returned (.string ⟨#[112]⟩) ∧ w' = W) := hid (has_any 9)
  have f112 : inB ⟨#[112]⟩ 112 = true := by decide +kernel
  have f111 : inB ⟨#[112]⟩ 111 = false := by decide +kernel
  have f104 : inB ⟨#[112]⟩ 104 = false := by decide +kernel
  have f97 : inB ⟨#[112]⟩ 97 = false := by decide +kernel
  have f115 : inB ⟨#[112]⟩ 115 = false := by decide +kernel
  have f109 : inB ⟨#[112]⟩ 109 = false := by decide +kernel
  have f100 : inB ⟨#[112]⟩ 100 = false := by decide +kernel
  rw [preR, numsB, midB] at h
  simp only [Bool.and_eq_true, decide_eq_true_eq, bne_iff_ne, ne_eq] at h
  obtain ⟨⟨⟨⟨⟨⟨⟨⟨n1, n2⟩, n3⟩, n4⟩, n5⟩, n6⟩, n7⟩, ⟨⟨⟨h1, h2⟩, h3⟩, h4⟩, h5⟩, -⟩ := h
  have n1b := n1
  simp only [numB, Bool.and_eq_true, decide_eq_true_eq] at n1b
  have q1 : decide (seat < 0) = false := by simp; omega
  have q2 : decide (7 < seat) = false := by simp; omega
  have q3 : decide (life < 1) = false := by simp; omega
  have q4 : decide (255 < (path.length : Int)) = false := by simp; omega
  have q5 : decide (255 < (other.length : Int)) = false := by simp; omega
  clear h1 h2 h3 h4 h5 n1b
  simp only [vval, vcells]
  go_enter Try.func83, Try.ntmps83
  go_wp2_with (first
    | (go_at_call 152; refine (HH.out _).mono ?_; rintro e w' ⟨rfl, rfl⟩)
    | (go_at_call 153; refine (rvnumber_any _ _).mono ?_; rintro e w' ⟨rfl, rfl⟩)
    | (go_at_call 154; refine (vin_any _ _ _ (by decide)).mono ?_; rintro e w' ⟨rfl, rfl⟩))
  all_goals
    go_ret
    exact ⟨ret_bool (by rw [HG.out, Bool.eq_iff_iff]; simp_all [ownB, bareB, hasP, hasO, hasH, hasA, hasS, hasM, hasD]; try omega), (Below.refl _ _).alloc (Nat.le_refl _) _⟩
set_option maxHeartbeats 2000000 in
set_option maxRecDepth 100000 in
theorem rgood_10 (seat life seq epoch : Int) (path other : List UInt8) (node gen pos size mode : Int) (data : List UInt8) (A : Option Addr) (c : Nat) (w : World) (h : preR ⟨10, seat, life, seq, epoch, path, other, node, gen, pos, size, mode, data⟩ = true) : Calls Try.prog 83 #[vval ⟨10, seat, life, seq, epoch, path, other, node, gen, pos, size, mode, data⟩ A c] w fun e w' => e = .returned (.bool (goodV ⟨10, seat, life, seq, epoch, path, other, node, gen, pos, size, mode, data⟩)) ∧ Below w.heap.size w w' := by
  have HG := hid (goodV_pre ⟨10, seat, life, seq, epoch, path, other, node, gen, pos, size, mode, data⟩)
  rw [h, Bool.true_and] at HG
  obtain ⟨gv, hgv⟩ : ∃ gv, goodV ⟨10, seat, life, seq, epoch, path, other, node, gen, pos, size, mode, data⟩ = gv := ⟨_, rfl⟩
  rw [hgv] at HG ⊢
  clear hgv
  have HH : Hid (∀ W, Calls Try.prog 152 #[.int .i64 10] W fun e w' => e = .returned (.string ⟨#[104, 97, 115]⟩) ∧ w' = W) := hid (has_any 10)
  have f112 : inB ⟨#[104, 97, 115]⟩ 112 = false := by decide +kernel
  have f111 : inB ⟨#[104, 97, 115]⟩ 111 = false := by decide +kernel
  have f104 : inB ⟨#[104, 97, 115]⟩ 104 = true := by decide +kernel
  have f97 : inB ⟨#[104, 97, 115]⟩ 97 = true := by decide +kernel
  have f115 : inB ⟨#[104, 97, 115]⟩ 115 = true := by decide +kernel
  have f109 : inB ⟨#[104, 97, 115]⟩ 109 = false := by decide +kernel
  have f100 : inB ⟨#[104, 97, 115]⟩ 100 = false := by decide +kernel
  rw [preR, numsB, midB] at h
  simp only [Bool.and_eq_true, decide_eq_true_eq, bne_iff_ne, ne_eq] at h
  obtain ⟨⟨⟨⟨⟨⟨⟨⟨n1, n2⟩, n3⟩, n4⟩, n5⟩, n6⟩, n7⟩, ⟨⟨⟨h1, h2⟩, h3⟩, h4⟩, h5⟩, -⟩ := h
  have n1b := n1
  simp only [numB, Bool.and_eq_true, decide_eq_true_eq] at n1b
  have q1 : decide (seat < 0) = false := by simp; omega
  have q2 : decide (7 < seat) = false := by simp; omega
  have q3 : decide (life < 1) = false := by simp; omega
  have q4 : decide (255 < (path.length : Int)) = false := by simp; omega
  have q5 : decide (255 < (other.length : Int)) = false := by simp; omega
  clear h1 h2 h3 h4 h5 n1b
  simp only [vval, vcells]
  go_enter Try.func83, Try.ntmps83
  go_wp2_with (first
    | (go_at_call 152; refine (HH.out _).mono ?_; rintro e w' ⟨rfl, rfl⟩)
    | (go_at_call 153; refine (rvnumber_any _ _).mono ?_; rintro e w' ⟨rfl, rfl⟩)
    | (go_at_call 154; refine (vin_any _ _ _ (by decide)).mono ?_; rintro e w' ⟨rfl, rfl⟩))
  all_goals
    go_ret
    exact ⟨ret_bool (by rw [HG.out, Bool.eq_iff_iff]; simp_all [ownB, bareB, hasP, hasO, hasH, hasA, hasS, hasM, hasD]; try omega), (Below.refl _ _).alloc (Nat.le_refl _) _⟩
end Go.Proofs.Ytppbcdcmpcagdaa
