/- Contracts of the reference of package verb: number, in, has, Good. -/
import Derived.Test.YtppbcdcmpcagdaaVerb4
namespace Go.Proofs.Ytppbcdcmpcagdaa
open Go.RowKit Go.CP

theorem rvnumber_any (n : Int) (w : World) : Calls Try.prog 153 #[.int .i64 n] w fun e w' => e = .returned (.bool (numB n)) ∧ w' = w := by
  go_enter Try.func153, Try.ntmps153
  go_wp2
  all_goals
    go_ret
    exact ⟨ret_bool (by rw [Bool.eq_iff_iff]; simp [numB]; omega), rfl⟩
/-- Is a letter in a text? -/
def inB (s : ByteArray) (n : Int) : Bool := s.data.toList.any fun x => (x.toNat : Int) == n
set_option maxRecDepth 100000 in
theorem vin_any (s : ByteArray) (n : Int) (w : World) (hs : s.size ≤ 1000) : Calls Try.prog 154 #[.string s, .int .u8 n] w fun e w' => e = .returned (.bool (inB s n)) ∧ w' = w := by
  have hsi : (s.size : Int) ≤ 1000 := by omega
  go_enter Try.func154, Try.ntmps154
  go_wp2_with fail
  go_loop [5] (fun iv => ∃ i : Nat, i ≤ s.size ∧ iv = .int .i64 i ∧ Hid ((s.data.toList.take i).any (fun x => (x.toNat : Int) == n) = false)) (fun iv => s.size - (intOf iv).toNat)
  case atStart => exact ⟨0, by omega, rfl, by exact hid rfl⟩
  case round =>
    obtain ⟨i, hi, rfl, HI⟩ := hrel
    by_cases hlt : i < s.size
    · have hg : s.data.toList[i]? = some s[i] := by
        rw [Array.getElem?_toList]
        exact Array.getElem?_eq_getElem hlt
      have HG := hid hg
      have hii : (i : Int) < (s.size : Int) := by omega
      clear hg
      cases hb : (((s[i].toNat : Int)) == n) with
      | true =>
        have HB := hid hb
        go_wp2_with fail
        go_ret
        refine ⟨ret_bool ?_, rfl⟩
        rw [inB]
        exact (List.any_eq_true.2 ⟨s[i], List.mem_of_getElem? HG.out, HB.out⟩).symm
      | false =>
        have HB := hid hb
        go_wp2_with fail
        go_round
        case rel => exact ⟨i + 1, by omega, by go_num, hid (by rw [take_snoc HG.out, List.any_append, HI.out]; simp [HB.out])⟩
        case measure => simp [intOf]; omega
    · have hk : i = s.size := by omega
      have HK := hid hk
      have hik : ¬ (i : Int) < (s.size : Int) := by omega
      clear hk
      go_wp2_with fail
      go_ret
      refine ⟨ret_bool ?_, rfl⟩
      have h := HI.out
      have hz : s.data.toList.length = s.size := rfl
      rw [HK.out, ← hz, List.take_length] at h
      exact h.symm
def hL (k : Int) : List UInt8 :=
  if k = 1 then [46] else if k = 2 ∨ k = 3 ∨ k = 4 ∨ k = 6 ∨ k = 7 ∨ k = 9 then [112] else if k = 5 ∨ k = 8 then [112, 111] else if k = 10 then [104, 97, 115] else if k = 11 then [104, 97, 100] else if k = 12 then [104, 115] else if k = 13 ∨ k = 15 then [104, 109] else if k = 14 then [104] else []
theorem has_any (kind : Int) (w : World) : Calls Try.prog 152 #[.int .i64 kind] w fun e w' => e = .returned (.string (bstr (hL kind))) ∧ w' = w := by
  by_cases hk : 1 ≤ kind ∧ kind ≤ 15
  · have h : kind = 1 ∨ kind = 2 ∨ kind = 3 ∨ kind = 4 ∨ kind = 5 ∨ kind = 6 ∨ kind = 7 ∨ kind = 8 ∨ kind = 9 ∨ kind = 10 ∨ kind = 11 ∨ kind = 12 ∨ kind = 13 ∨ kind = 14 ∨ kind = 15 := by omega
    rcases h with rfl | rfl | rfl | rfl | rfl | rfl | rfl | rfl | rfl | rfl | rfl | rfl | rfl | rfl | rfl
    all_goals
      go_enter Try.func152, Try.ntmps152
      go_wp2
      go_ret
      exact ⟨rfl, rfl⟩
  · have h2 : hL kind = [] := by
      unfold hL
      rw [if_neg (by omega), if_neg (by omega), if_neg (by omega), if_neg (by omega), if_neg (by omega), if_neg (by omega), if_neg (by omega), if_neg (by omega)]
    have H2 := hid h2
    have q1 : (kind == 1) = false := by simp; omega
    have q2 : (kind == 2) = false := by simp; omega
    have q3 : (kind == 3) = false := by simp; omega
    have q4 : (kind == 4) = false := by simp; omega
    have q5 : (kind == 5) = false := by simp; omega
    have q6 : (kind == 6) = false := by simp; omega
    have q7 : (kind == 7) = false := by simp; omega
    have q8 : (kind == 8) = false := by simp; omega
    have q9 : (kind == 9) = false := by simp; omega
    have q10 : (kind == 10) = false := by simp; omega
    have q11 : (kind == 11) = false := by simp; omega
    have q12 : (kind == 12) = false := by simp; omega
    have q13 : (kind == 13) = false := by simp; omega
    have q14 : (kind == 14) = false := by simp; omega
    have q15 : (kind == 15) = false := by simp; omega
    clear hk h2
    go_enter Try.func152, Try.ntmps152
    go_wp2
    go_ret
    rw [H2.out]
    exact ⟨rfl, rfl⟩
theorem hL_empty (k : Int) : (hL k).isEmpty = !(decide (1 ≤ k) && decide (k ≤ 15)) := by
  by_cases hk : 1 ≤ k ∧ k ≤ 15
  · have h : k = 1 ∨ k = 2 ∨ k = 3 ∨ k = 4 ∨ k = 5 ∨ k = 6 ∨ k = 7 ∨ k = 8 ∨ k = 9 ∨ k = 10 ∨ k = 11 ∨ k = 12 ∨ k = 13 ∨ k = 14 ∨ k = 15 := by omega
    rcases h with rfl | rfl | rfl | rfl | rfl | rfl | rfl | rfl | rfl | rfl | rfl | rfl | rfl | rfl | rfl <;> rfl
  · have h2 : hL k = [] := by
      unfold hL
      rw [if_neg (by omega), if_neg (by omega), if_neg (by omega), if_neg (by omega), if_neg (by omega), if_neg (by omega), if_neg (by omega), if_neg (by omega)]
    rw [h2]
    simp
    omega
/-- The tests of the reference's Good ahead of its fields. -/
def preR (v : Vb) : Bool := numsB v && midB v && (decide (1 ≤ v.kind) && decide (v.kind ≤ 15))
theorem goodV_pre (v : Vb) : goodV v = (preR v && (ownB v && bareB v)) := by
  rw [goodV, preR, midB]
  generalize numsB v = a
  generalize ownB v = b
  generalize bareB v = c
  rw [Bool.eq_iff_iff]
  simp only [Bool.and_eq_true]
  constructor
  · rintro ⟨⟨⟨⟨⟨⟨⟨⟨h1, h2⟩, h3⟩, h4⟩, h5⟩, h6⟩, h7⟩, h8⟩, h9⟩
    exact ⟨⟨⟨h1, ⟨⟨⟨⟨h2, h3⟩, h4⟩, h5⟩, h6⟩⟩, h7⟩, h8, h9⟩
  · rintro ⟨⟨⟨h1, ⟨⟨⟨⟨h2, h3⟩, h4⟩, h5⟩, h6⟩⟩, h7⟩, h8, h9⟩
    exact ⟨⟨⟨⟨⟨⟨⟨⟨h1, h2⟩, h3⟩, h4⟩, h5⟩, h6⟩, h7⟩, h8⟩, h9⟩
set_option maxHeartbeats 4000000 in
set_option maxRecDepth 100000 in
theorem rgood_no (v : Vb) (A : Option Addr) (c : Nat) (w : World) (h : preR v = false) : Calls Try.prog 83 #[vval v A c] w fun e w' => e = .returned (.bool false) ∧ Below w.heap.size w w' := by
  obtain ⟨kind, seat, life, seq, epoch, path, other, node, gen, pos, size, mode, data⟩ := v
  have HH := hid (has_any kind)
  have HE := hid (hL_empty kind)
  have HP := hid h
  obtain ⟨l, hl⟩ : ∃ l, hL kind = l := ⟨_, rfl⟩
  rw [hl] at HH HE
  have hnm : ¬ (¬ l = [] ∧ 0 ≤ seat ∧ seat ≤ 7 ∧ 1 ≤ life ∧ numB life = true ∧ numB seq = true ∧ numB epoch = true ∧ (path.length : Int) ≤ 255 ∧ (other.length : Int) ≤ 255 ∧ numB node = true ∧ numB gen = true ∧ numB pos = true ∧ (!numB size) = false) := by
    rintro ⟨h0, h1, h2, h3, h4, h5, h6, h7, h8, h9, h10, h11, h12⟩
    have hk : (decide (1 ≤ kind) && decide (kind ≤ 15)) = true := by
      have he := HE.out
      cases l with
      | nil => exact absurd rfl h0
      | cons x r => simpa using he
    have h13 : numB size = true := by simpa using h12
    have hp : preR ⟨kind, seat, life, seq, epoch, path, other, node, gen, pos, size, mode, data⟩ = true := by
      rw [preR]
      dsimp only
      rw [hk, numsB]
      dsimp only
      rw [h4, h5, h6, h9, h10, h11, h13, midB]
      simp
      omega
    rw [h] at hp
    cases hp
  have HNM := hid hnm
  clear h hl hnm
  simp only [vval, vcells]
  go_enter Try.func83, Try.ntmps83
  go_wp2_with (first
    | (go_at_call 152; refine (HH.out _).mono ?_; rintro e w' ⟨rfl, rfl⟩)
    | (go_at_call 153; refine (rvnumber_any _ _).mono ?_; rintro e w' ⟨rfl, rfl⟩))
  all_goals first
    | (go_ret; exact ⟨rfl, (Below.refl _ _).alloc (Nat.le_refl _) _⟩)
    | exact absurd ⟨by assumption, by assumption, by assumption, by assumption, by assumption, by assumption, by assumption, by assumption, by omega, by assumption, by assumption, by assumption, by assumption⟩ HNM.out
end Go.Proofs.Ytppbcdcmpcagdaa
