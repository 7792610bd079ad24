/- The law TreeParts returns true at every input: its walk over the contracts of tree.Parts and Blocks, and the plain law of a part list. No condition. -/
import Derived.Test.YtafofpnfpkbfpaaWalkTreeBack
import Derived.Test.YtafofpnfpkbfpaaTree8
import Derived.Deep.DeepCutAuto
import Derived.Deep.CutBlock
namespace Go.Proofs.Ytafofpnfpkbfpaa
open Go.RowKit Go.CP

def psum (l : List Pt) : Nat := (l.map fun x => x.hi - x.lo).sum
theorem parts_sum : ∀ k q r, r < k → psum (partsL k q r) = r
  | 0, _, _, h => by omega
  | k + 1, q, r, h => by
    by_cases h0 : r = 0
    · simp [partsL, h0, psum]
    · have := parts_sum k (q + min r (128 - q % 128)) (r - min r (128 - q % 128)) (by omega)
      rw [partsL, if_neg h0, psum, List.map_cons, List.sum_cons, ← psum, this]
      simp only
      omega
theorem psum_take (l : List Pt) (i : Nat) : psum (l.take i) ≤ psum l := by
  have : psum l = psum (l.take i) + psum (l.drop i) := by
    rw [psum, psum, psum, ← List.sum_append, ← List.map_append, List.take_append_drop]
  omega
theorem parts_len : ∀ k q r, r < k → (partsL k q r).length ≤ r
  | 0, _, _, h => by omega
  | k + 1, q, r, h => by
    by_cases h0 : r = 0
    · simp [partsL, h0]
    · have := parts_len k (q + min r (128 - q % 128)) (r - min r (128 - q % 128)) (by omega)
      rw [partsL, if_neg h0, List.length_cons]
      omega
theorem parts_at : ∀ k q r i x, r < k → (partsL k q r)[i]? = some x →
    x.block * 128 + x.lo = q + psum ((partsL k q r).take i) ∧ x.lo < x.hi ∧ x.hi ≤ 128 ∧ (i + 1 < (partsL k q r).length → x.hi = 128)
  | 0, _, _, _, _, h, _ => by omega
  | k + 1, q, r, i, x, h, hx => by
    by_cases h0 : r = 0
    · rw [partsL, if_pos h0] at hx; cases hx
    · rw [partsL, if_neg h0] at hx ⊢
      cases i with
      | zero =>
        simp at hx
        subst hx
        simp only [List.take_zero, psum, List.map_nil, List.sum_nil, List.length_cons]
        refine ⟨by omega, by omega, by omega, fun hl => ?_⟩
        by_cases hm : r ≤ 128 - q % 128
        · have : partsL k (q + min r (128 - q % 128)) (r - min r (128 - q % 128)) = [] := by
            cases k with
            | zero => rfl
            | succ k => rw [partsL, if_pos (by omega)]
          rw [this] at hl
          simp at hl
        · omega
      | succ i =>
        have := parts_at k (q + min r (128 - q % 128)) (r - min r (128 - q % 128)) i x (by omega) (by simpa using hx)
        obtain ⟨h1, h2, h3, h4⟩ := this
        refine ⟨?_, h2, h3, fun hl => h4 (by simpa using hl)⟩
        rw [List.take_succ_cons, psum, List.map_cons, List.sum_cons, ← psum]
        simp only
        omega
theorem part_facts (p s : Nat) (L : List Pt) (i : Nat) (x : Pt) (h0 : 0 < s) (hs : (s : Int) ≤ 9728) (hp : (p : Int) ≤ 9728) (hL : psum L = s) (hx : L[i]? = some x)
    (hq : x.block * 128 + x.lo = p + psum (L.take i) ∧ x.lo < x.hi ∧ x.hi ≤ 128 ∧ (i + 1 < L.length → x.hi = 128)) :
    Hid (((psum (L.take i) : Nat) : Int) + ((x.hi : Int) - x.lo) = ((psum (L.take (i + 1)) : Nat) : Int)) ∧ decide ((x.hi : Int) ≤ x.lo) = false ∧ decide (128 < (x.hi : Int)) = false ∧
    ((x.block : Int) * 128 + x.lo != p + ((psum (L.take i) : Nat) : Int)) = false ∧ (x.block : Int) ≤ 152 ∧ (x.lo : Int) ≤ 128 ∧ (x.hi : Int) ≤ 128 ∧ ((psum (L.take i) : Nat) : Int) ≤ 9728 ∧
    ((decide ((i : Int) < L.length - 1) = true ∧ (x.hi : Int) = 128) ∨ decide ((i : Int) < L.length - 1) = false) := by
  have hS : psum (L.take (i + 1)) = psum (L.take i) + (x.hi - x.lo) := by
    rw [take_snoc hx, psum, List.map_append, List.sum_append]; simp [psum]
  have hle : psum (L.take (i + 1)) ≤ s := by rw [← hL]; exact psum_take L (i + 1)
  obtain ⟨q1, q2, q3, q4⟩ := hq
  refine ⟨hid (by omega), by simp; omega, by simp; omega, by rw [bne_eq_false_iff_eq]; omega, by omega, by omega, by omega, by omega, ?_⟩
  by_cases h : i + 1 < L.length
  · exact .inl ⟨by simp; omega, by have := q4 h; omega⟩
  · exact .inr (by simp; omega)
theorem alloc_cell (w : World) (cs : Array Value) (t : TypeId) (i : Nat) : (w.alloc (.cells cs t)).cell? ⟨w.heap.size, i, none⟩ = cs[i]? := by
  rw [World.cell?, World.alloc]
  simp
theorem ptCells_get {l : List Pt} {i : Nat} {x : Pt} (h : l[i]? = some x) : (ptCells l)[i * 3]? = some (.int .i64 x.block) ∧ (ptCells l)[i * 3 + 1]? = some (.int .i64 x.lo) ∧ (ptCells l)[i * 3 + 2]? = some (.int .i64 x.hi) := by
  induction l generalizing i with
  | nil => simp at h
  | cons y l ih =>
    cases i with
    | zero => simp at h; subst h; simp [ptCells]
    | succ i =>
      have := ih (i := i) (by simpa using h)
      rw [show (i + 1) * 3 = i * 3 + 3 from by omega, show i * 3 + 3 + 1 = i * 3 + 1 + 3 from by omega, show i * 3 + 3 + 2 = i * 3 + 2 + 3 from by omega]
      simpa [ptCells] using this

set_option maxHeartbeats 1000000 in
set_option maxRecDepth 100000 in
theorem treeParts_pos (w : World) (p s : Nat) (h0 : 0 < s) (h1 : p + s ≤ 9728) :
    Calls Try.prog 6 #[.int .i64 p, .int .i64 s] w fun e w' => e = .returned (.bool true) ∧ Below w.heap.size w w' := by
  have hpp := parts_ok p s w (.inr h1) (by omega)
  have HB := hid (fun w1 => blocks_any (s : Int) w1 (by omega))
  have HL := hid (parts_sum (s + 1) p s (by omega))
  have HA := hid (fun i x hx => parts_at (s + 1) p s i x (by omega) hx)
  have hlen := parts_len (s + 1) p s (by omega)
  generalize partsL (s + 1) p s = L at hpp HL HA hlen
  have hbq : blocksN s = ((s : Int) - 1) / 128 + 1 := by rw [blocksN, if_neg (by omega)]
  rw [hbq] at HB
  have HPP := hid hpp
  have a1 : decide (0 < (s : Int)) = true := by simp; omega
  have a2 : decide ((s : Int) < 0) = false := by simp
  have a3 : decide ((p : Int) < 0) = false := by simp
  have a4 : decide (9728 < (p : Int)) = false := by simp; omega
  have a5 : decide (9728 - (p : Int) < (s : Int)) = false := by simp; omega
  have hs2 : (s : Int) ≤ 9728 := by omega
  have hp2 : (p : Int) ≤ 9728 := by omega
  clear hpp hbq h1
  go_enter Try.func6, Try.ntmps6
  go_upto_block 0 with (first
      | (go_at_call 18; refine HPP.out.mono ?_; clear HPP; rintro e w1 ⟨A1, c1, rfl, ho1, hb1⟩)
      | (go_at_call 19; refine (HB.out _).mono ?_; rintro e w1 ⟨rfl, rfl⟩))
  go_wp2_with fail
  go_loopw [8, 9] (fun uv iv wr => ∃ i : Nat, i ≤ L.length ∧ uv = .int .i64 ((psum (L.take i) : Nat) : Int) ∧ iv = .int .i64 i ∧ Below w1.heap.size w1 wr) (fun _ iv _ => L.length - (intOf iv).toNat)
  case atStart => exact ⟨0, by omega, by simp [psum], rfl, Below.refl _ _⟩
  case round =>
    obtain ⟨i, hi, rfl, rfl, hbel⟩ := hrel
    by_cases hlt : i < L.length
    · obtain ⟨g, cur, rfl, hg, -⟩ := ho1.open (by omega)
      obtain ⟨x, hx⟩ := get_of_lt L hlt
      obtain ⟨g', off', e1, hcx⟩ := Cells.open (ho1.cells.below hbel (Nat.le_refl _)) (by rw [ptCells_len]; omega)
      cases e1
      obtain ⟨d1, d2, d3⟩ := ptCells_get hx
      have hd1 := hcx _ _ d1
      have hd2 := hcx _ _ d2
      have hd3 := hcx _ _ d3
      simp only [Nat.zero_add] at hd1 hd2 hd3
      obtain ⟨q1, q2, q3, q4⟩ := HA.out i x hx
      have HX := hid hx
      have HQ := hid (And.intro q1 (And.intro q2 (And.intro q3 q4)))
      clear hx d1 d2 d3 hcx q1 q2 q3 q4
      go_upto_region 14 with fail
      obtain ⟨HS, e1, e3, e4, b1, b2, b3, b4, HLAST⟩ := part_facts p s L i x h0 hs2 hp2 HL.out HX.out HQ.out
      have hbel2 : Below w1.heap.size w1 (wr.alloc (.cells #[.int .i64 x.block, .int .i64 x.lo, .int .i64 x.hi] 43)) := hbel.alloc hbel.size _
      have t1 := alloc_cell wr #[.int .i64 x.block, .int .i64 x.lo, .int .i64 x.hi] 43 0
      have t2 := alloc_cell wr #[.int .i64 x.block, .int .i64 x.lo, .int .i64 x.hi] 43 1
      have t3 := alloc_cell wr #[.int .i64 x.block, .int .i64 x.lo, .int .i64 x.hi] 43 2
      replace t1 := t1.trans (show _ = some (.int .i64 x.block) from rfl)
      replace t2 := t2.trans (show _ = some (.int .i64 x.lo) from rfl)
      replace t3 := t3.trans (show _ = some (.int .i64 x.hi) from rfl)
      generalize wr.alloc (.cells #[.int .i64 x.block, .int .i64 x.lo, .int .i64 x.hi] 43) = W2 at hbel2 t1 t2 t3 ⊢
      clear hd1 hd2 hd3
      rcases HLAST with ⟨e6, e7⟩ | e6
      · rw [e7] at e1 e3 b3 t3
        go_wp2_with fail
        go_roundw
        case rel => exact ⟨i + 1, by omega, congrArg (Value.int .i64) (by rw [← HS.out, e7]), by go_num, hbel2⟩
        case measure => simp [intOf]; omega
      · have e9 := HQ.out.2.1
        go_wp2_with fail
        go_roundw
        case rel => exact ⟨i + 1, by omega, congrArg (Value.int .i64) HS.out, by go_num, hbel2⟩
        case measure => simp [intOf]; omega
    · obtain rfl : i = L.length := by omega
      rw [List.take_length, HL.out]
      go_wp2_with (go_at_call 14; refine (awake11_any _).mono ?_; rintro e w4 ⟨rfl, hb4⟩)
      go_ret
      exact ⟨rfl, (hb1.trans (hbel.mono hb1.size)).trans (hb4.mono ((hb1.trans (hbel.mono hb1.size)).size))⟩

set_option maxRecDepth 100000 in
theorem treeParts_zero (w : World) (p : Nat) (hp : (p : Int) < 9223372036854775808) :
    Calls Try.prog 6 #[.int .i64 p, .int .i64 0] w fun e w' => e = .returned (.bool true) ∧ Below w.heap.size w w' := by
  have hpp := parts_ok p 0 w (.inl rfl) hp
  rw [show partsL (0 + 1) p 0 = [] from rfl] at hpp
  have hb := fun w1 => blocks_any 0 w1 (by omega)
  rw [show blocksN 0 = 0 from rfl] at hb
  have HB := hid hb
  have HPP := hid hpp
  clear hb hpp hp
  go_enter Try.func6, Try.ntmps6
  go_wp2_with (first
    | (go_at_call 18; refine HPP.out.mono ?_; clear HPP; rintro e w1 ⟨A1, c1, rfl, ho1, hb1⟩; rw [show ([] : List Pt).length = 0 from rfl])
    | (go_at_call 19; refine (HB.out _).mono ?_; rintro e w1 ⟨rfl, rfl⟩))
  refine wp_loop_once ?_
  go_wp2_with (go_at_call 14; refine (awake11_any _).mono ?_; rintro e w4 ⟨rfl, hb4⟩)
  go_ret
  exact ⟨rfl, hb1.trans (hb4.mono hb1.size)⟩

set_option maxRecDepth 100000 in
theorem treeParts_err (w : World) (p s : Int) (hp : -9223372036854775808 ≤ p ∧ p < 9223372036854775808) (hs : -9223372036854775808 ≤ s ∧ s < 9223372036854775808)
    (h : p < 0 ∨ s < 0 ∨ (0 < s ∧ (9728 < p ∨ 9728 - p < s))) :
    Calls Try.prog 6 #[.int .i64 p, .int .i64 s] w fun e w' => e = .returned (.bool true) ∧ Below w.heap.size w w' := by
  have hpp := parts_err p s w hp hs h
  have HPP := hid hpp
  have hb := fun w1 => blocks_any s w1 hs
  have h' : (s ≤ 0 ∧ (p < 0 ∨ (0 ≤ p ∧ s < 0))) ∨ (0 < s ∧ (p < 0 ∨ (0 ≤ p ∧ 9728 < p) ∨ (0 ≤ p ∧ p ≤ 9728 ∧ 9728 - p < s))) := by omega
  clear h hpp
  rcases h' with ⟨h0, h⟩ | ⟨h0, h⟩
  · rw [show blocksN s = 0 from by rw [blocksN, if_pos (by omega)]] at hb
    have HB := hid hb
    clear hb
    rcases h with h | ⟨h1, h⟩
    all_goals
      go_enter Try.func6, Try.ntmps6
      go_wp2_with (first
        | (go_at_call 18; refine HPP.out.mono ?_; clear HPP; rintro e w ⟨rfl, rfl⟩)
        | (go_at_call 19; refine (HB.out _).mono ?_; rintro e w ⟨rfl, rfl⟩)
        | (go_at_call 14; refine (awake11_any _).mono ?_; rintro e w4 ⟨rfl, hb4⟩))
      go_ret
      exact ⟨rfl, hb4⟩
  · rw [show blocksN s = (s - 1) / 128 + 1 from by rw [blocksN, if_neg (by omega)]] at hb
    have HB := hid hb
    clear hb
    rcases h with h | ⟨h1, h⟩ | ⟨h1, h2, h⟩
    all_goals
      go_enter Try.func6, Try.ntmps6
      go_wp2_with (first
        | (go_at_call 18; refine HPP.out.mono ?_; clear HPP; rintro e w ⟨rfl, rfl⟩)
        | (go_at_call 19; refine (HB.out _).mono ?_; rintro e w ⟨rfl, rfl⟩)
        | (go_at_call 14; refine (awake11_any _).mono ?_; rintro e w4 ⟨rfl, hb4⟩))
      go_ret
      exact ⟨rfl, hb4⟩

theorem treeParts_walk (w : World) (p s : Int) (hp : -9223372036854775808 ≤ p ∧ p < 9223372036854775808) (hs : -9223372036854775808 ≤ s ∧ s < 9223372036854775808) :
    Calls Try.prog 6 #[.int .i64 p, .int .i64 s] w fun e w' => e = .returned (.bool true) ∧ Below w.heap.size w w' := by
  by_cases h : p < 0 ∨ s < 0 ∨ (0 < s ∧ (9728 < p ∨ 9728 - p < s))
  · exact treeParts_err w p s hp hs h
  · obtain ⟨p, rfl⟩ := Int.eq_ofNat_of_zero_le (show 0 ≤ p by omega)
    obtain ⟨s, rfl⟩ := Int.eq_ofNat_of_zero_le (show 0 ≤ s by omega)
    by_cases h0 : s = 0
    · subst h0; exact treeParts_zero w p hp.2
    · exact treeParts_pos w p s (by omega) (by omega)
end Go.Proofs.Ytafofpnfpkbfpaa
