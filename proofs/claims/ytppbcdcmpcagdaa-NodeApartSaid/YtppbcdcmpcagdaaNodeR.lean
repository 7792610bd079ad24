/- Contract of the reference's Encode of a node; node.Put at any node. -/
import Derived.Test.YtppbcdcmpcagdaaNodeP
import Derived.Deep.DrawnRows
namespace Go.Proofs.Ytppbcdcmpcagdaa
open Go.RowKit Go.CP
attribute [local go_sem ↓] Go.wp_at_zero Go.wp_at_succ

theorem headL_str (k l g s c : Nat) : (bstr (little k 1) ++ bstr (little l 1) ++ bstr (little g 4) ++ bstr (little s 4) ++ bstr (little c 4) : ByteArray) = bstr (headL k l g s c) := by
  rw [bstr_append, bstr_append, bstr_append, bstr_append]
  rfl
def accL (h : List UInt8) (p : List Nat) (i : Nat) : List UInt8 := h ++ (p.take i).flatMap (little · 2)
theorem accL_len (h : List UInt8) (p : List Nat) (i : Nat) (hi : i ≤ p.length) : (accL h p i).length = h.length + 2 * i := by
  rw [accL, List.length_append, flat_len, List.length_take, Nat.min_eq_left hi]
theorem accL_snoc (h : List UInt8) {p : List Nat} {i n : Nat} (hi : p[i]? = some n) : bstr (accL h p i) ++ bstr (little n 2) = bstr (accL h p (i + 1)) := by
  rw [bstr_append, accL, accL, take_snoc hi, List.flatMap_append, ← List.append_assoc]
  simp
set_option maxHeartbeats 4000000 in
set_option maxRecDepth 100000 in
theorem rencN_any (k l g s c d0 d1 d2 d3 o t : Nat) (w : World) (hk : k < 256) (hl : l < 256) (hg : g < 4294967296) (hs : s < 4294967296) (hc : c < 4294967296) (hp : ∀ n ∈ [d0, d1, d2, d3, o, t], n ≤ 1023) :
    Calls Try.prog 78 #[.agg #[.int .i64 (k : Nat), .int .i64 (l : Nat), .int .i64 (g : Nat), .int .i64 (s : Nat), .int .i64 (c : Nat), .int .i64 (d0 : Nat), .int .i64 (d1 : Nat), .int .i64 (d2 : Nat), .int .i64 (d3 : Nat), .int .i64 (o : Nat), .int .i64 (t : Nat)]] w fun e w' => e = .returned (.string (bstr (nodL k l g s c [d0, d1, d2, d3, o, t]))) ∧ Below w.heap.size w w' := by
  have hL : Hid (LastS2 w (w.alloc (.cells #[.int .i64 (k : Nat), .int .i64 (l : Nat), .int .i64 (g : Nat), .int .i64 (s : Nat), .int .i64 (c : Nat), .int .i64 (d0 : Nat), .int .i64 (d1 : Nat), .int .i64 (d2 : Nat), .int .i64 (d3 : Nat), .int .i64 (o : Nat), .int .i64 (t : Nat)] 84)) (nodN k l g s c d0 d1 d2 d3 o t)) := hid ⟨BoxN.new w (nodN k l g s c d0 d1 d2 d3 o t), (Below.refl _ _).alloc (Nat.le_refl _) _⟩
  have h1 := fun n W => little_any n 1 W
  have h2 := fun n W => little_any n 2 W
  have h4 := fun n W => little_any n 4 W
  rw [show ((1 : Nat) : Int) = 1 from rfl] at h1
  rw [show ((2 : Nat) : Int) = 2 from rfl] at h2
  rw [show ((4 : Nat) : Int) = 4 from rfl] at h4
  have hn := fun W => noughts_any 6 W (by omega)
  rw [show ((6 : Nat) : Int) = 6 from rfl] at hn
  simp only [List.mem_cons, List.not_mem_nil, or_false, forall_eq_or_imp, forall_eq] at hp
  have HK := hid (fun W => h1 k W (by omega) (by omega))
  have HLL := hid (fun W => h1 l W (by omega) (by omega))
  have HG := hid (fun W => h4 g W (by omega) (by omega))
  have HS := hid (fun W => h4 s W (by omega) (by omega))
  have HC := hid (fun W => h4 c W (by omega) (by omega))
  have HD0 := hid (fun W => h2 d0 W (by omega) (by omega))
  have HD1 := hid (fun W => h2 d1 W (by omega) (by omega))
  have HD2 := hid (fun W => h2 d2 W (by omega) (by omega))
  have HD3 := hid (fun W => h2 d3 W (by omega) (by omega))
  have HO := hid (fun W => h2 o W (by omega) (by omega))
  have HT := hid (fun W => h2 t W (by omega) (by omega))
  have HN := hid hn
  have hl2 := little_len
  clear h1 h2 h4 hn hk hl hg hs hc hp
  go_enter Try.func78, Try.ntmps78
  go_wp2_with fail
  go_region_held3 (fun W => (W.cell? ⟨w.heap.size, 0, none⟩ = some (.int .i64 k) ∧ W.cell? ⟨w.heap.size, 1, none⟩ = some (.int .i64 l) ∧ W.cell? ⟨w.heap.size, 2, none⟩ = some (.int .i64 g) ∧ W.cell? ⟨w.heap.size, 3, none⟩ = some (.int .i64 s) ∧ W.cell? ⟨w.heap.size, 4, none⟩ = some (.int .i64 c) ∧ W.cell? ⟨w.heap.size, 5, none⟩ = some (.int .i64 d0) ∧ W.cell? ⟨w.heap.size, 6, none⟩ = some (.int .i64 d1) ∧ W.cell? ⟨w.heap.size, 7, none⟩ = some (.int .i64 d2) ∧ W.cell? ⟨w.heap.size, 8, none⟩ = some (.int .i64 d3) ∧ W.cell? ⟨w.heap.size, 9, none⟩ = some (.int .i64 o) ∧ W.cell? ⟨w.heap.size, 10, none⟩ = some (.int .i64 t)) ∧ LastS2 w W (nodN k l g s c d0 d1 d2 d3 o t))
    (first | exact hL.out.cells | exact (hL.out.keep (bl2 _)).cells | exact hq5.cells | exact hq4.cells | exact hq3.cells | exact hq2.cells | exact hq1.cells | fail "keep")
    (first
      | (go_at_call_of 42 (Value.int .i64 (k : Int)); refine (HK.out _).mono ?_; rintro e w1 ⟨rfl, hb1⟩; have hq1 := LastS2.keep (And.right (by assumption)) hb1)
      | (go_at_call_of 42 (Value.int .i64 (l : Int)); refine (HLL.out _).mono ?_; rintro e w2 ⟨rfl, hb2⟩; have hq2 := LastS2.keep (And.right (by assumption)) hb2)
      | (go_at_call_of 42 (Value.int .i64 (g : Int)); refine (HG.out _).mono ?_; rintro e w3 ⟨rfl, hb3⟩; have hq3 := LastS2.keep (And.right (by assumption)) hb3)
      | (go_at_call_of 42 (Value.int .i64 (s : Int)); refine (HS.out _).mono ?_; rintro e w4 ⟨rfl, hb4⟩; have hq4 := LastS2.keep (And.right (by assumption)) hb4)
      | (go_at_call_of 42 (Value.int .i64 (c : Int)); refine (HC.out _).mono ?_; rintro e w5 ⟨rfl, hb5⟩; have hq5 := LastS2.keep (And.right (by assumption)) hb5)
      | fail "arm")
  rw [headL_str]
  have HQ := hid hq5
  clear hq5 hq4 hq3 hq2 hq1
  go_wp2_with fail
  have hS0 : (bstr (headL k l g s c)).size ≤ 22 := by rw [bstr_size, headL_len]; omega
  go_loopw [3, 4] (fun sv jv W => ∃ (i : Nat) (S : ByteArray), i ≤ 4 ∧ jv = .int .i64 i ∧ sv = .string S ∧ Hid (S = bstr (accL (headL k l g s c) [d0, d1, d2, d3] i)) ∧ S.size ≤ 22 ∧ Hid (LastS2 w W (nodN k l g s c d0 d1 d2 d3 o t))) (fun _ jv _ => 4 - (intOf jv).toNat)
  case atStart => exact ⟨0, _, by omega, rfl, rfl, hid (by simp [accL]), hS0, HQ⟩
  case round =>
    clear HQ hS0
    obtain ⟨i, S, hi, rfl, rfl, HSS, hsz, HLS⟩ := hrel
    have hz1 : ¬ 9223372036854775807 < S.size + 2 := by omega
    have hz2 : ¬ 9223372036854775807 < S.size + 2 + 2 := by omega
    have hz3 : ¬ 9223372036854775807 < S.size + 2 + 2 + 6 := by omega
    obtain ⟨f0, f1, f2, f3, f4, f5, f6, f7, f8, f9, f10, -, -⟩ := HLS.out.1.facts
    simp only [nodN] at f5 f6 f7 f8 f9 f10
    have hi4 : i = 0 ∨ i = 1 ∨ i = 2 ∨ i = 3 ∨ i = 4 := by omega
    rcases hi4 with rfl | rfl | rfl | rfl | rfl
    · rw [show ((0 : Nat) : Int) = 0 from rfl]
      go_wp2_with fail
      refine (HD0.out _).mono ?_
      rintro e w6 ⟨rfl, hb6⟩
      have hq6 := hid (LastS2.keep HLS.out hb6)
      clear f0 f1 f2 f3 f4 f5 f6 f7 f8 f9 f10
      go_wp2_with fail
      have hac : S ++ bstr (little d0 2) = bstr (accL (headL k l g s c) [d0, d1, d2, d3] 1) := by
        rw [HSS.out]
        exact accL_snoc _ rfl
      rw [hac]
      go_roundw
      case rel => exact ⟨1, _, by omega, rfl, rfl, hid rfl, by rw [bstr_size, accL_len _ _ _ (by simp), headL_len]; omega, hq6⟩
      case measure => simp [intOf]
    · rw [show ((1 : Nat) : Int) = 1 from rfl]
      go_wp2_with fail
      refine (HD1.out _).mono ?_
      rintro e w6 ⟨rfl, hb6⟩
      have hq6 := hid (LastS2.keep HLS.out hb6)
      clear f0 f1 f2 f3 f4 f5 f6 f7 f8 f9 f10
      go_wp2_with fail
      have hac : S ++ bstr (little d1 2) = bstr (accL (headL k l g s c) [d0, d1, d2, d3] 2) := by
        rw [HSS.out]
        exact accL_snoc _ rfl
      rw [hac]
      go_roundw
      case rel => exact ⟨2, _, by omega, rfl, rfl, hid rfl, by rw [bstr_size, accL_len _ _ _ (by simp), headL_len]; omega, hq6⟩
      case measure => simp [intOf]
    · rw [show ((2 : Nat) : Int) = 2 from rfl]
      go_wp2_with fail
      refine (HD2.out _).mono ?_
      rintro e w6 ⟨rfl, hb6⟩
      have hq6 := hid (LastS2.keep HLS.out hb6)
      clear f0 f1 f2 f3 f4 f5 f6 f7 f8 f9 f10
      go_wp2_with fail
      have hac : S ++ bstr (little d2 2) = bstr (accL (headL k l g s c) [d0, d1, d2, d3] 3) := by
        rw [HSS.out]
        exact accL_snoc _ rfl
      rw [hac]
      go_roundw
      case rel => exact ⟨3, _, by omega, rfl, rfl, hid rfl, by rw [bstr_size, accL_len _ _ _ (by simp), headL_len]; omega, hq6⟩
      case measure => simp [intOf]
    · rw [show ((3 : Nat) : Int) = 3 from rfl]
      go_wp2_with fail
      refine (HD3.out _).mono ?_
      rintro e w6 ⟨rfl, hb6⟩
      have hq6 := hid (LastS2.keep HLS.out hb6)
      clear f0 f1 f2 f3 f4 f5 f6 f7 f8 f9 f10
      go_wp2_with fail
      have hac : S ++ bstr (little d3 2) = bstr (accL (headL k l g s c) [d0, d1, d2, d3] 4) := by
        rw [HSS.out]
        exact accL_snoc _ rfl
      rw [hac]
      go_roundw
      case rel => exact ⟨4, _, by omega, rfl, rfl, hid rfl, by rw [bstr_size, accL_len _ _ _ (by simp), headL_len]; omega, hq6⟩
      case measure => simp [intOf]
    · rw [show ((4 : Nat) : Int) = 4 from rfl]
      clear f0 f1 f2 f3 f4 f5 f6 f7 f8 f9 f10
      go_wp2_with fail
      go_region_held3 (fun W => (W.cell? ⟨w.heap.size, 0, none⟩ = some (.int .i64 k) ∧ W.cell? ⟨w.heap.size, 1, none⟩ = some (.int .i64 l) ∧ W.cell? ⟨w.heap.size, 2, none⟩ = some (.int .i64 g) ∧ W.cell? ⟨w.heap.size, 3, none⟩ = some (.int .i64 s) ∧ W.cell? ⟨w.heap.size, 4, none⟩ = some (.int .i64 c) ∧ W.cell? ⟨w.heap.size, 5, none⟩ = some (.int .i64 d0) ∧ W.cell? ⟨w.heap.size, 6, none⟩ = some (.int .i64 d1) ∧ W.cell? ⟨w.heap.size, 7, none⟩ = some (.int .i64 d2) ∧ W.cell? ⟨w.heap.size, 8, none⟩ = some (.int .i64 d3) ∧ W.cell? ⟨w.heap.size, 9, none⟩ = some (.int .i64 o) ∧ W.cell? ⟨w.heap.size, 10, none⟩ = some (.int .i64 t)) ∧ LastS2 w W (nodN k l g s c d0 d1 d2 d3 o t))
        (first | exact HLS.out.cells | exact (HLS.out.keep (bl2 _)).cells | exact hq9.cells | exact hq8.cells | exact hq7.cells | fail "keep")
        (first
          | (go_at_call_of 42 (Value.int .i64 (o : Int)); refine (HO.out _).mono ?_; rintro e w7 ⟨rfl, hb7⟩; have hq7 := LastS2.keep (And.right (by assumption)) hb7)
          | (go_at_call_of 42 (Value.int .i64 (t : Int)); refine (HT.out _).mono ?_; rintro e w8 ⟨rfl, hb8⟩; have hq8 := LastS2.keep (And.right (by assumption)) hb8)
          | (go_at_call 135; refine (HN.out _).mono ?_; rintro e w9 ⟨rfl, hb9⟩; have hq9 := LastS2.keep (And.right (by assumption)) hb9)
          | fail "arm")
      go_wp2
      go_ret
      refine ⟨?_, hq9.2⟩
      rw [HSS.out, bstr_append, bstr_append, bstr_append]
      rfl
end Go.Proofs.Ytppbcdcmpcagdaa
