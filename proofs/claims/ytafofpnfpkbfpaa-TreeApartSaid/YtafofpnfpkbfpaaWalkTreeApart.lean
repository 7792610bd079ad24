/- The law TreeApart returns true at every input: its walk over the contracts of tree.Route, Same and Parts. No condition. -/
import Derived.Test.YtafofpnfpkbfpaaWalkTreeParts
import Derived.Deep.QuietTactic
import Derived.BigQuiet
namespace Go.Proofs.Ytafofpnfpkbfpaa
open Go.RowKit Go.CP

theorem parts_count : ∀ k q r, r < k → (partsL k q r).length = if r = 0 then 0 else (q + r - 1) / 128 - q / 128 + 1
  | 0, _, _, h => by omega
  | k + 1, q, r, h => by
    by_cases h0 : r = 0
    · simp [partsL, h0]
    · have := parts_count k (q + min r (128 - q % 128)) (r - min r (128 - q % 128)) (by omega)
      rw [partsL, if_neg h0, List.length_cons, this, if_neg h0]
      split <;> omega
theorem route_inj : ∀ m n : Fin 76, (routeL m == routeL n) = (m.val == n.val) := by decide +kernel
theorem route_same {m n : Nat} (hm : m < 76) (hn : n < 76) : decide (routeL m = routeL n) = decide (m = n) := by
  have := route_inj ⟨m, hm⟩ ⟨n, hn⟩
  simp only at this
  by_cases h : m = n
  · subst h; simp
  · rw [decide_eq_false h]
    rw [beq_eq_false_iff_ne.2 h] at this
    exact decide_eq_false (by simpa using this)
theorem same_any (A B : Option Addr) (l m : List Int) (c c' : Nat) (w : World) (ha : Ints w A l) (hb : Ints w B m) (hl : l.length ≤ 140737488351232) :
    Calls Try.prog 15 #[.slice A l.length c, .slice B m.length c'] w fun e w' => e = .returned (.bool (decide (l = m))) ∧ Below w.heap.size w w' := by
  by_cases h : l.length = m.length
  · rw [← h]; exact ints_same A B l m c c' w ha hb h hl
  · rw [decide_eq_false (fun e => h (by rw [e]))]
    exact ints_len A B l.length m.length c c' w h

theorem apart_lens {P S C : Nat} {L1 L2 L3 : List Pt} (hC : C ≤ S) (hP : P < 5000) (hS : S < 4000)
    (h1 : L1.length = (if S = 0 then 0 else (P + S - 1) / 128 - P / 128 + 1) ∧ L1.length ≤ S) (h2 : L2.length = (if C = 0 then 0 else (P + C - 1) / 128 - P / 128 + 1) ∧ L2.length ≤ C)
    (h3 : L3.length = (if S - C = 0 then 0 else (P + C + (S - C) - 1) / 128 - (P + C) / 128 + 1) ∧ L3.length ≤ S - C) :
    L1.length ≤ L2.length + L3.length ∧ L2.length + L3.length ≤ L1.length + 1 ∧ (L1.length : Int) ≤ 9728 ∧ (L2.length : Int) ≤ 9728 ∧ (L3.length : Int) ≤ 9728 := by
  obtain ⟨h1, h1'⟩ := h1
  obtain ⟨h2, h2'⟩ := h2
  obtain ⟨h3, h3'⟩ := h3
  refine ⟨?_, ?_, by omega, by omega, by omega⟩
  all_goals
    by_cases a1 : S = 0
    · rw [if_pos a1] at h1
      rw [if_pos (by omega)] at h2 h3
      omega
    · rw [if_neg a1] at h1
      by_cases a2 : C = 0
      · rw [if_pos a2] at h2
        rw [if_neg (by omega)] at h3
        subst a2
        simp at h3
        omega
      · rw [if_neg a2] at h2
        by_cases a3 : S - C = 0
        · rw [if_pos a3] at h3
          have : C = S := by omega
          subst this
          omega
        · rw [if_neg a3, show P + C + (S - C) - 1 = P + S - 1 from by omega] at h3
          omega
theorem apart_facts (L : List Pt) (i : Nat) (x : Pt) (hx : L[i]? = some x) {P S : Nat} (hL : psum L = S) (hq : x.block * 128 + x.lo = P + psum (L.take i) ∧ x.lo < x.hi ∧ x.hi ≤ 128 ∧ (i + 1 < L.length → x.hi = 128)) :
    Hid (((psum (L.take (i + 1)) : Nat) : Int) = ((psum (L.take i) : Nat) : Int) + ((x.hi : Int) - x.lo)) ∧ (x.lo : Int) ≤ 128 ∧ (x.hi : Int) ≤ 128 ∧ (x.lo : Int) ≤ x.hi ∧ ((psum (L.take i) : Nat) : Int) ≤ S := by
  have hS : psum (L.take (i + 1)) = psum (L.take i) + (x.hi - x.lo) := by
    rw [take_snoc hx, psum, List.map_append, List.sum_append]; simp [psum]
  have hle : psum (L.take i) ≤ S := by rw [← hL]; exact psum_take L i
  obtain ⟨q1, q2, q3, -⟩ := hq
  exact ⟨hid (by omega), by omega, by omega, by omega, by omega⟩

set_option maxHeartbeats 1000000 in
set_option maxRecDepth 100000 in
theorem treeApart_in (w : World) (a b p s c : Int) (m n P S C : Nat) (hm : a % 76 = m) (hn : b % 76 = n) (hP : p % 5000 = P) (hS : s % 4000 = S) (hC : c % (S + 1) = C)
    (ha : 0 ≤ a ∧ a < 256) (hb : 0 ≤ b ∧ b < 256) (hp : 0 ≤ p ∧ p < 65536) (hs : 0 ≤ s ∧ s < 65536) (hc : 0 ≤ c ∧ c < 65536) :
    Calls Try.prog 7 #[.int .u8 a, .int .u8 b, .int .u16 p, .int .u16 s, .int .u16 c] w fun e w' => e = .returned (.bool true) ∧ Below w.heap.size w w' := by
  have hm2 : m < 76 := by omega
  have hn2 : n < 76 := by omega
  have hP2 : P < 5000 := by omega
  have hS2 : S < 4000 := by omega
  have hC2 : C ≤ S := by have := Int.emod_lt_of_pos c (show (0 : Int) < S + 1 by omega); omega
  obtain ⟨x, hx⟩ : ∃ x, decide (m = n) = x := ⟨_, rfl⟩
  have hx2 : ((m : Int) == (n : Int)) = x := by
    rw [← hx]
    by_cases h : m = n
    · simp [h]
    · rw [decide_eq_false h]; simp; omega
  have SM := hid ((route_same hm2 hn2).trans hx)
  have R1 := hid (route_ok m w hm2)
  have R2 := hid (fun w1 => route_ok n w1 hn2)
  have hlm : (routeL m).length ≤ 3 := by unfold routeL; (repeat' split) <;> simp
  have HLM := hid hlm
  obtain ⟨L1, hL1⟩ : ∃ L, partsL (S + 1) P S = L := ⟨_, rfl⟩
  obtain ⟨L2, hL2⟩ : ∃ L, partsL (C + 1) P C = L := ⟨_, rfl⟩
  obtain ⟨L3, hL3⟩ : ∃ L, partsL (S - C + 1) (P + C) (S - C) = L := ⟨_, rfl⟩
  have hp1 := fun w1 => parts_ok P S w1 (.inr (by omega)) (by omega)
  have hp2 := fun w1 => parts_ok P C w1 (.inr (by omega)) (by omega)
  have hp3 := fun w1 => parts_ok (P + C) (S - C) w1 (.inr (by omega)) (by omega)
  have F1 := And.intro (parts_sum (S + 1) P S (by omega)) (And.intro (parts_count (S + 1) P S (by omega)) (parts_len (S + 1) P S (by omega)))
  have F2 := And.intro (parts_sum (C + 1) P C (by omega)) (And.intro (parts_count (C + 1) P C (by omega)) (parts_len (C + 1) P C (by omega)))
  have F3 := And.intro (parts_sum (S - C + 1) (P + C) (S - C) (by omega)) (And.intro (parts_count (S - C + 1) (P + C) (S - C) (by omega)) (parts_len (S - C + 1) (P + C) (S - C) (by omega)))
  have A1' := fun i x hx => parts_at (S + 1) P S i x (by omega) hx
  have A2' := fun i x hx => parts_at (C + 1) P C i x (by omega) hx
  have A3' := fun i x hx => parts_at (S - C + 1) (P + C) (S - C) i x (by omega) hx
  rw [hL1] at hp1 F1 A1'
  rw [hL2] at hp2 F2 A2'
  rw [hL3] at hp3 F3 A3'
  rw [show ((P + C : Nat) : Int) = (P : Int) + C from by omega, show ((S - C : Nat) : Int) = (S : Int) - C from by omega] at hp3
  have P1 := hid hp1
  have P2 := hid hp2
  have P3 := hid hp3
  have HF1 := hid F1
  have HF2 := hid F2
  have HF3 := hid F3
  have HA1 := hid A1'
  have HA2 := hid A2'
  have HA3 := hid A3'
  clear hL1 hL2 hL3 hp1 hp2 hp3 F1 F2 F3 A1' A2' A3'
  clear hlm hx
  go_enter Try.func7, Try.ntmps7
  go_wp2_with fail
  refine R1.out.mono ?_
  rintro e w1 ⟨A1, c1, rfl, ho1, hb1⟩
  go_wp2_with fail
  refine (R2.out _).mono ?_
  rintro e w2 ⟨A2, c2, rfl, ho2, hb2⟩
  have hb02 := hb1.trans (hb2.mono hb1.size)
  go_wp2_with fail
  refine (awake11_any _).mono ?_
  rintro e w3 ⟨rfl, hb3⟩
  have hb03 := hb02.trans (hb3.mono hb02.size)
  have hsm := same_any A1 A2 (routeL m) (routeL n) c1 c2 w3 ((ho1.cells.below hb2 (Nat.le_refl _)).below hb3 (Nat.le_refl _)) (ho2.cells.below hb3 (Nat.le_refl _)) (by have := HLM.out; omega)
  rw [SM.out] at hsm
  go_wp2_with fail
  refine hsm.mono ?_
  rintro e w4 ⟨rfl, hb4⟩
  have hb04 := hb03.trans (hb4.mono hb03.size)
  clear hsm ho1 ho2 SM HLM R1 R2
  go_wp2_with fail
  refine (P1.out _).mono ?_
  rintro e w5 ⟨B1, k1, rfl, hp1, hb5⟩
  have hb05 := hb04.trans (hb5.mono hb04.size)
  go_wp2_with fail
  refine (P2.out _).mono ?_
  rintro e w6 ⟨B2, k2, rfl, hp2, hb6⟩
  have hb06 := hb05.trans (hb6.mono hb05.size)
  go_wp2_with fail
  refine (P3.out _).mono ?_
  rintro e w7 ⟨B3, k3, rfl, hp3, hb7⟩
  have hb07 := hb06.trans (hb7.mono hb06.size)
  have hc1 := (hp1.cells.below hb6 (Nat.le_refl _)).below hb7 (Nat.le_refl _)
  have hc2 := hp2.cells.below hb7 (Nat.le_refl _)
  have hc3 := hp3.cells
  clear P1 P2 P3 hb1 hb2 hb3 hb4 hb5 hb6 hb7 hb02 hb03 hb04 hb05 hb06
  go_wp2_with fail
  go_loopw [26, 27] (fun uv iv wr => ∃ i : Nat, i ≤ L1.length ∧ uv = .int .i64 (((psum (L1.take i) : Nat) : Int)) ∧ iv = .int .i64 i ∧ Below w7.heap.size w7 wr) (fun _ iv _ => L1.length - (intOf iv).toNat)
  case atStart => exact ⟨0, by omega, congrArg (Value.int .i64) (by simp [psum]), rfl, Below.refl _ _⟩
  case round =>
    obtain ⟨i, hi, rfl, rfl, hbel⟩ := hrel
    by_cases hlt : i < L1.length
    · obtain ⟨g, cur, rfl, hg, -⟩ := hp1.open (by omega)
      obtain ⟨x, hx⟩ := get_of_lt L1 hlt
      obtain ⟨g', off', e1, hcx⟩ := Cells.open (hc1.below hbel (Nat.le_refl _)) (by rw [ptCells_len]; omega)
      cases e1
      obtain ⟨d1, d2, d3⟩ := ptCells_get hx
      have hd2 := hcx _ _ d2
      have hd3 := hcx _ _ d3
      simp only [Nat.zero_add] at hd2 hd3
      obtain ⟨HS, f1, f2, f3, f4⟩ := apart_facts L1 i x hx HF1.out.1 (HA1.out i x hx)
      have hll : (L1.length : Int) ≤ 9728 := by have := HF1.out.2.2; omega
      clear d1 d2 d3 hcx hx
      go_wp2_with fail
      go_quiet (fail)
      go_wp2_with fail
      go_roundw
      case rel => exact ⟨i + 1, by omega, congrArg (Value.int .i64) (by have := HS.out; omega), by go_num, below_drewN hbel _⟩
      case measure => simp [intOf]; omega
    · obtain rfl : i = L1.length := by omega
      rw [List.take_length, HF1.out.1]
      clear hi hlt
      go_wp2_with fail
      go_loopw [26, 28] (fun uv iv wr => ∃ i : Nat, i ≤ L2.length ∧ uv = .int .i64 (((S : Nat) : Int) - ((psum (L2.take i) : Nat) : Int)) ∧ iv = .int .i64 i ∧ Below w7.heap.size w7 wr) (fun _ iv _ => L2.length - (intOf iv).toNat)
      case atStart => exact ⟨0, by omega, congrArg (Value.int .i64) (by simp [psum]), rfl, hbel⟩
      case round =>
        obtain ⟨i, hi, rfl, rfl, hbel⟩ := hrel
        by_cases hlt : i < L2.length
        · obtain ⟨g, cur, rfl, hg, -⟩ := hp2.open (by omega)
          obtain ⟨x, hx⟩ := get_of_lt L2 hlt
          obtain ⟨g', off', e1, hcx⟩ := Cells.open (hc2.below hbel (Nat.le_refl _)) (by rw [ptCells_len]; omega)
          cases e1
          obtain ⟨d1, d2, d3⟩ := ptCells_get hx
          have hd2 := hcx _ _ d2
          have hd3 := hcx _ _ d3
          simp only [Nat.zero_add] at hd2 hd3
          obtain ⟨HS, f1, f2, f3, f4⟩ := apart_facts L2 i x hx HF2.out.1 (HA2.out i x hx)
          have hll : (L2.length : Int) ≤ 9728 := by have := HF2.out.2.2; omega
          clear d1 d2 d3 hcx hx
          go_wp2_with fail
          go_quiet (fail)
          go_wp2_with fail
          go_roundw
          case rel => exact ⟨i + 1, by omega, congrArg (Value.int .i64) (by have := HS.out; omega), by go_num, below_drewN hbel _⟩
          case measure => simp [intOf]; omega
        · obtain rfl : i = L2.length := by omega
          rw [List.take_length, HF2.out.1]
          clear hi hlt
          go_wp2_with fail
          go_loopw [26, 29] (fun uv iv wr => ∃ i : Nat, i ≤ L3.length ∧ uv = .int .i64 (((S : Nat) : Int) - ((C : Nat) : Int) - ((psum (L3.take i) : Nat) : Int)) ∧ iv = .int .i64 i ∧ Below w7.heap.size w7 wr) (fun _ iv _ => L3.length - (intOf iv).toNat)
          case atStart => exact ⟨0, by omega, congrArg (Value.int .i64) (by simp [psum]), rfl, hbel⟩
          case round =>
            obtain ⟨i, hi, rfl, rfl, hbel⟩ := hrel
            by_cases hlt : i < L3.length
            · obtain ⟨g, cur, rfl, hg, -⟩ := hp3.open (by omega)
              obtain ⟨x, hx⟩ := get_of_lt L3 hlt
              obtain ⟨g', off', e1, hcx⟩ := Cells.open (hc3.below hbel (Nat.le_refl _)) (by rw [ptCells_len]; omega)
              cases e1
              obtain ⟨d1, d2, d3⟩ := ptCells_get hx
              have hd2 := hcx _ _ d2
              have hd3 := hcx _ _ d3
              simp only [Nat.zero_add] at hd2 hd3
              obtain ⟨HS, f1, f2, f3, f4⟩ := apart_facts L3 i x hx HF3.out.1 (HA3.out i x hx)
              have hll : (L3.length : Int) ≤ 9728 := by have := HF3.out.2.2; omega
              clear d1 d2 d3 hcx hx
              go_wp2_with fail
              go_quiet (fail)
              go_wp2_with fail
              go_roundw
              case rel => exact ⟨i + 1, by omega, congrArg (Value.int .i64) (by have := HS.out; omega), by go_num, below_drewN hbel _⟩
              case measure => simp [intOf]; omega
            · obtain rfl : i = L3.length := by omega
              rw [List.take_length, HF3.out.1]
              obtain ⟨g1, g2, g3, g4, g5⟩ := apart_lens hC2 hP2 hS2 HF1.out.2 HF2.out.2 HF3.out.2
              have g6 : decide ((L1.length : Int) ≤ (L2.length : Int) + L3.length) = true := by simp; omega
              have g7 : decide ((L2.length : Int) + L3.length ≤ (L1.length : Int) + 1) = true := by simp; omega
              clear hi hlt hm hn hP hS hC
              go_wp2
              go_ret
              exact ⟨ret_bool (by simp), hb07.trans (hbel.mono hb07.size)⟩

theorem treeApart_walk (w : World) (a b p s c : Int) (ha : 0 ≤ a ∧ a < 256) (hb : 0 ≤ b ∧ b < 256) (hp : 0 ≤ p ∧ p < 65536) (hs : 0 ≤ s ∧ s < 65536) (hc : 0 ≤ c ∧ c < 65536) :
    Calls Try.prog 7 #[.int .u8 a, .int .u8 b, .int .u16 p, .int .u16 s, .int .u16 c] w fun e w' => e = .returned (.bool true) ∧ Below w.heap.size w w' := by
  refine treeApart_in w a b p s c (a % 76).toNat (b % 76).toNat (p % 5000).toNat (s % 4000).toNat (c % (s % 4000 + 1)).toNat (by omega) (by omega) (by omega) (by omega) ?_ ha hb hp hs hc
  have e : (((s % 4000).toNat : Nat) : Int) = s % 4000 := by omega
  rw [e]
  have := Int.emod_nonneg c (show s % 4000 + 1 ≠ 0 by omega)
  omega
end Go.Proofs.Ytafofpnfpkbfpaa
