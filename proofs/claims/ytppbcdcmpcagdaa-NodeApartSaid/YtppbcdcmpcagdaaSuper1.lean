/- Contracts of package super: Sound, Encode; of the reference: Sound, Encode. -/
import Derived.Test.YtppbcdcmpcagdaaField10
import Derived.Lib.SlBytesConst
namespace Go.Proofs.Ytppbcdcmpcagdaa
open Go.RowKit Go.CP

theorem bcell {W w1 : World} (hb : Below W.heap.size W w1) : (∀ b o, b < W.heap.size → w1.cell? ⟨b, o, none⟩ = W.cell? ⟨b, o, none⟩) ∧ (∀ b o, b < W.heap.size → w1.frozen? ⟨b, o, none⟩ = W.frozen? ⟨b, o, none⟩) :=
  ⟨fun b o h => hb.cell (p := ⟨b, o, none⟩) h, fun b o h => hb.frozen (p := ⟨b, o, none⟩) h⟩
def supB (a b c : Int) : Bool := decide (64 ≤ a ∧ a ≤ 1024 ∧ 0 ≤ b ∧ b ≤ 1073741824 ∧ 0 ≤ c ∧ c ≤ 1073741824)
def magicS : List UInt8 := [67, 79, 80, 89]
/-- A beginning as bytes, without the sum. -/
def supL (a b c : Nat) : List UInt8 := magicS ++ little a 4 ++ little b 4 ++ little c 4 ++ List.replicate 108 0
theorem supL_len (a b c : Nat) : (supL a b c).length = 124 := by simp [supL, little_len, magicS]

theorem sup_sound (a b c : Int) (w : World) : Calls Try.prog 59 #[.agg #[.int .i64 a, .int .i64 b, .int .i64 c]] w fun e w' => e = .returned (.bool (supB a b c)) ∧ Below w.heap.size w w' := by
  go_enter Try.func59, Try.ntmps59
  go_wp2
  all_goals
    go_ret
    exact ⟨ret_bool (by rw [Bool.eq_iff_iff]; simp [supB]; omega), (Below.refl _ _).alloc (Nat.le_refl _) _⟩
theorem rsup_sound (a b c : Int) (w : World) : Calls Try.prog 60 #[.agg #[.int .i64 a, .int .i64 b, .int .i64 c]] w fun e w' => e = .returned (.bool (supB a b c)) ∧ Below w.heap.size w w' := by
  go_enter Try.func60, Try.ntmps60
  go_wp2
  all_goals
    go_ret
    exact ⟨ret_bool (by rw [Bool.eq_iff_iff]; simp [supB]; omega), (Below.refl _ _).alloc (Nat.le_refl _) _⟩

theorem sup_err (a b c : Int) (w : World) (h : supB a b c = false) : Calls Try.prog 57 #[.agg #[.int .i64 a, .int .i64 b, .int .i64 c]] w fun e w' => e = .returned (.tuple #[.slice none 0 0, .int .i64 2]) ∧ Below w.heap.size w w' := by
  have hs := fun W => sup_sound a b c W
  rw [h] at hs
  have HS := hid hs
  clear hs h
  go_enter Try.func57, Try.ntmps57
  go_wp2_with fail
  refine (HS.out _).mono ?_
  rintro e w1 ⟨rfl, hb1⟩
  go_wp2
  go_ret2
  exact ⟨rfl, ((Below.refl _ _).alloc (Nat.le_refl _) _).trans (hb1.mono (by simp))⟩

def preS (a b c i : Nat) : List UInt8 := (magicS ++ little a 4 ++ little b 4 ++ little c 4).take (4 + 4 * i)
theorem preS_len (a b c i : Nat) (h : i ≤ 3) : (preS a b c i).length = 4 + 4 * i := by simp [preS, little_len, magicS]; omega
theorem preS_0 (a b c : Nat) : preS a b c 0 = magicS := by simp [preS, magicS]
theorem preS_1 (a b c : Nat) : preS a b c 1 = preS a b c 0 ++ little a 4 := by
  rw [preS_0, preS, List.append_assoc, List.append_assoc, show 4 + 4 * 1 = (magicS ++ little a 4).length from by simp [little_len, magicS], ← List.append_assoc magicS, List.take_append_of_le_length (by simp), List.take_of_length_le (by simp)]
theorem preS_2 (a b c : Nat) : preS a b c 2 = preS a b c 1 ++ little b 4 := by
  rw [preS_1, preS_0, preS, List.append_assoc, show 4 + 4 * 2 = (magicS ++ little a 4 ++ little b 4).length from by simp [little_len, magicS], ← List.append_assoc, List.take_append_of_le_length (by simp), List.take_of_length_le (by simp)]
theorem preS_3 (a b c : Nat) : preS a b c 3 = preS a b c 2 ++ little c 4 := by
  rw [preS_2, preS_1, preS_0, preS, List.take_of_length_le (by simp [little_len, magicS])]

set_option maxHeartbeats 1000000 in
set_option maxRecDepth 100000 in
theorem sup_ok (a b c : Nat) (w : World) (h : supB a b c = true) : Calls Try.prog 57 #[.agg #[.int .i64 a, .int .i64 b, .int .i64 c]] w (RetOwn2 w 5 1 128 ((sealL (supL a b c)).map bv) (.int .i64 0)) := by
  have hs := fun W => sup_sound a b c W
  rw [h] at hs
  have HS := hid hs
  have hb : a < 4294967296 ∧ b < 4294967296 ∧ c < 4294967296 := by simp [supB] at h; omega
  clear hs h
  go_enter Try.func57, Try.ntmps57
  go_wp2_with fail
  refine (HS.out _).mono ?_
  rintro e w1 ⟨rfl, hb1⟩
  obtain ⟨hc, hf⟩ := bcell hb1
  have hz : w.heap.size < w1.heap.size := by have := hb1.size; simp at this; omega
  have kc := fun (w : World) (C : Array Value) (n c : Nat) => Lib.run_convert_bytes_const (P := Try.prog) w 22 5 C n c Try.underlying22 Try.underlying5
  go_wp2_with fail
  have hb01 : Below w.heap.size w w1 := ((Below.refl _ _).alloc (Nat.le_refl _) _).trans (hb1.mono (by simp))
  have hb02 : Below w.heap.size w (w1.alloc (.cells #[.int .u8 67, .int .u8 79, .int .u8 80, .int .u8 89] 5 (4, 5))) := hb01.alloc hb01.size _
  have hm0 : Bytes (w1.alloc (.cells #[.int .u8 67, .int .u8 79, .int .u8 80, .int .u8 89] 5 (4, 5))) (some ⟨w1.heap.size, 0, none⟩) (preS a b c 0) := by
    rw [preS_0]
    exact cells_new w1 5 (4, 5) magicS
  have i0 : ∀ W, (Instr.index 186 (.agg #[.int .i64 (a : Int), .int .i64 (b : Int), .int .i64 (c : Int)]) (.int .i64 0)).run Try.prog W = .ok (.int .i64 (a : Int)) W := fun _ => rfl
  have i1 : ∀ W, (Instr.index 186 (.agg #[.int .i64 (a : Int), .int .i64 (b : Int), .int .i64 (c : Int)]) (.int .i64 1)).run Try.prog W = .ok (.int .i64 (b : Int)) W := fun _ => rfl
  have i2 : ∀ W, (Instr.index 186 (.agg #[.int .i64 (a : Int), .int .i64 (b : Int), .int .i64 (c : Int)]) (.int .i64 2)).run Try.prog W = .ok (.int .i64 (c : Int)) W := fun _ => rfl
  have HB := hid hb
  clear hc hf hb hb1
  go_loopw [4, 19] (fun ov iv wr => ∃ (i : Nat) (A : Option Addr) (d : Nat), i ≤ 3 ∧ iv = .int .i64 i ∧ ov = .slice A (4 + 4 * i) d ∧ Bytes wr A (preS a b c i) ∧ Hid (1 ≤ i → Go.CP.Own wr w.heap.size 5 1 A (4 + 4 * i) d ((preS a b c i).map bv)) ∧ Below w.heap.size w wr) (fun _ iv _ => 3 - (intOf iv).toNat)
  case atStart => exact ⟨0, _, _, by omega, rfl, rfl, hm0, hid (fun h => by omega), hb02⟩
  case round =>
    clear hm0 hb02 hb01
    obtain ⟨i, A, d, hi, rfl, rfl, hcl, HO, hbel⟩ := hrel
    have hi4 : i = 0 ∨ i = 1 ∨ i = 2 ∨ i = 3 := by omega
    rcases hi4 with rfl | rfl | rfl | rfl
    · have hn := num_ok A (preS a b c 0) d a wr hcl (by rw [preS_len _ _ _ _ (by omega)]; omega) HB.out.1
      rw [preS_len _ _ _ _ (by omega), show 4 + 4 * 0 = 4 from rfl] at hn
      rw [show 4 + 4 * 0 = 4 from rfl, show ((0 : Nat) : Int) = 0 from rfl]
      go_wp2_with fail
      refine hn.mono ?_
      clear hn
      rintro e w3 ⟨A3, c3, rfl, ho3, hb3⟩
      rw [← preS_1] at ho3
      go_wp2_with fail
      go_roundw
      case rel => exact ⟨1, A3, c3, by omega, rfl, rfl, ho3.cells, hid (fun _ => ho3.mono hbel.size), below_t hbel hb3 hbel.size⟩
      case measure => simp [intOf]
    · have hn := num_ok A (preS a b c 1) d b wr hcl (by rw [preS_len _ _ _ _ (by omega)]; omega) HB.out.2.1
      rw [preS_len _ _ _ _ (by omega), show 4 + 4 * 1 = 8 from rfl] at hn
      rw [show 4 + 4 * 1 = 8 from rfl, show ((1 : Nat) : Int) = 1 from rfl]
      go_wp2_with fail
      refine hn.mono ?_
      clear hn
      rintro e w3 ⟨A3, c3, rfl, ho3, hb3⟩
      rw [← preS_2] at ho3
      go_wp2_with fail
      go_roundw
      case rel => exact ⟨2, A3, c3, by omega, rfl, rfl, ho3.cells, hid (fun _ => ho3.mono hbel.size), below_t hbel hb3 hbel.size⟩
      case measure => simp [intOf]
    · have hn := num_ok A (preS a b c 2) d c wr hcl (by rw [preS_len _ _ _ _ (by omega)]; omega) HB.out.2.2
      rw [preS_len _ _ _ _ (by omega), show 4 + 4 * 2 = 12 from rfl] at hn
      rw [show 4 + 4 * 2 = 12 from rfl, show ((2 : Nat) : Int) = 2 from rfl]
      go_wp2_with fail
      refine hn.mono ?_
      clear hn
      rintro e w3 ⟨A3, c3, rfl, ho3, hb3⟩
      rw [← preS_3] at ho3
      go_wp2_with fail
      go_roundw
      case rel => exact ⟨3, A3, c3, by omega, rfl, rfl, ho3.cells, hid (fun _ => ho3.mono hbel.size), below_t hbel hb3 hbel.size⟩
      case measure => simp [intOf]
    · have ho := HO.out (by omega)
      rw [show 4 + 4 * 3 = 16 from rfl, show ((3 : Nat) : Int) = 3 from rfl]
      rw [show 4 + 4 * 3 = 16 from rfl] at ho
      go_wp2_with (at_builtin; refine ap_bytes rfl _ _ 3 rfl w.heap.size rfl ho rfl (Src.zeros (m := 108) Try.underlying3) (by omega) hbel.size ?_; intro A7 c7 w7 ho7 hg7)
      have hb07 := Below.grown hbel hg7 hbel.size fun k hk => (ho.block k hk).1
      have e7 : preS a b c 3 ++ List.replicate 108 0 = supL a b c := by rw [preS_3, preS_2, preS_1, preS_0]; rfl
      rw [← List.map_append, e7] at ho7
      have hs := sealed_any A7 (supL a b c) c7 w7 ho7.cells (by rw [supL_len]; omega)
      rw [supL_len] at hs
      clear ho
      refine hs.mono ?_
      clear hs
      rintro e w8 ⟨A8, c8, rfl, ho8, hb8⟩
      go_wp2
      go_ret2
      exact ⟨A8, c8, rfl, ho8.mono hb07.size, below_t hb07 hb8 hb07.size⟩

/-- What super.Encode hands back. -/
def supE (a b c : Int) : List UInt8 := if supB a b c then sealL (supL a.toNat b.toNat c.toNat) else []
def RetSup (a b c : Int) (w : World) (e : Ending) (w' : World) : Prop :=
  (supB a b c = true ∧ RetOwn2 w 5 1 128 ((sealL (supL a.toNat b.toNat c.toNat)).map bv) (.int .i64 0) e w') ∨ (supB a b c = false ∧ e = .returned (.tuple #[.slice none 0 0, .int .i64 2]) ∧ Below w.heap.size w w')
theorem sup_any (a b c : Int) (w : World) : Calls Try.prog 57 #[.agg #[.int .i64 a, .int .i64 b, .int .i64 c]] w (RetSup a b c w) := by
  cases h : supB a b c with
  | true =>
    have h2 : 64 ≤ a ∧ a ≤ 1024 ∧ 0 ≤ b ∧ b ≤ 1073741824 ∧ 0 ≤ c ∧ c ≤ 1073741824 := by simpa [supB] using h
    have e1 : ((a.toNat : Nat) : Int) = a := by omega
    have e2 : ((b.toNat : Nat) : Int) = b := by omega
    have e3 : ((c.toNat : Nat) : Int) = c := by omega
    have := sup_ok a.toNat b.toNat c.toNat w (by rw [e1, e2, e3]; exact h)
    rw [e1, e2, e3] at this
    exact this.mono fun e w' k => .inl ⟨h, k⟩
  | false => exact (sup_err a b c w h).mono fun e w' k => .inr ⟨h, k⟩
end Go.Proofs.Ytppbcdcmpcagdaa
