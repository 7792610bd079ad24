/- Contract of the reference's Bytes. -/
import Derived.Test.YtafofpnfpkbfpaaMarks5
namespace Go.Proofs.Ytafofpnfpkbfpaa
open Go.RowKit Go.CP

/-- The first j bits of byte q. -/
def part (f : Nat → Bool) (q : Nat) : Nat → Nat
  | 0 => 0
  | j + 1 => part f q j + if f (8 * q + j) then 2 ^ j else 0
theorem part_lt (f : Nat → Bool) (q : Nat) : ∀ j, part f q j < 2 ^ j
  | 0 => by simp [part]
  | j + 1 => by have := part_lt f q j; unfold part; rw [Nat.pow_succ]; split <;> omega
/-- The bytes behind i bits. -/
def rowB (f : Nat → Bool) (m i : Nat) : List UInt8 := (List.range m).map fun q => UInt8.ofNat (part f q (min 8 (i - 8 * q)))

theorem rowB_len (f : Nat → Bool) (m i : Nat) : (rowB f m i).length = m := by simp [rowB]
theorem rowB_zero (f : Nat → Bool) (m : Nat) : rowB f m 0 = List.replicate m 0 := by
  apply List.ext_getElem
  · simp [rowB]
  · intro j h1 h2; simp [rowB, part]
theorem rowB_skip (f : Nat → Bool) (m i : Nat) (h : f i = false) : rowB f m (i + 1) = rowB f m i := by
  apply List.ext_getElem
  · simp [rowB]
  · intro q h1 h2
    simp only [rowB, List.getElem_map, List.getElem_range]
    congr 1
    by_cases e : i / 8 = q
    · rw [show min 8 (i + 1 - 8 * q) = (i - 8 * q) + 1 from by omega, show min 8 (i - 8 * q) = i - 8 * q from by omega, part, show 8 * q + (i - 8 * q) = i from by omega, h]
      simp
    · rw [show min 8 (i + 1 - 8 * q) = min 8 (i - 8 * q) from by omega]
theorem rowB_set (f : Nat → Bool) (m i : Nat) (h : f i = true) : rowB f m (i + 1) = (rowB f m i).set (i / 8) (UInt8.ofNat (part f (i / 8) (i % 8) + 2 ^ (i % 8))) := by
  apply List.ext_getElem
  · simp [rowB]
  · intro q h1 h2
    rw [List.getElem_set]
    by_cases e : i / 8 = q
    · rw [if_pos e]
      simp only [rowB, List.getElem_map, List.getElem_range]
      congr 1
      rw [show min 8 (i + 1 - 8 * q) = (i % 8) + 1 from by omega, part, ← e, show 8 * (i / 8) + i % 8 = i from by omega, h]
      simp
    · rw [if_neg e]
      simp only [rowB, List.getElem_map, List.getElem_range]
      rw [show min 8 (i + 1 - 8 * q) = min 8 (i - 8 * q) from by omega]
theorem rowB_at (f : Nat → Bool) (m i : Nat) (hi : i < 8 * m) : (rowB f m i)[i / 8]'(by rw [rowB_len]; omega) = UInt8.ofNat (part f (i / 8) (i % 8)) := by
  simp only [rowB, List.getElem_map, List.getElem_range]
  rw [show min 8 (i - 8 * (i / 8)) = i % 8 from by omega]

theorem byte_spell (x i : Nat) : ((x : Int) + 2 ^ (i % 8)) % 256 = ((UInt8.ofNat (x + 2 ^ (i % 8))).toNat : Int) := by
  have e2 : (2 : Int) ^ (i % 8) = ((2 ^ (i % 8) : Nat) : Int) := by simp
  rw [e2]
  generalize 2 ^ (i % 8) = z at *
  simp only [UInt8.toNat_ofNat']
  omega

theorem mk_bytes {w : World} {ops : Array Oper} {rest : List Oper} {o : Oper} {a : Act} {Q : Exit → Act → World → Prop} (hgd : o.guard = none) (ln cp : Operand)
    (ho : o.op = .makeSlice 31 ln cp) {k k' : IntKind} {m : Nat} (hl : a.eval ln = .int k m) (hc : a.eval cp = .int k' m) (hbytes : m ≤ 140737488355328)
    (h : ∀ w', Own w' w.heap.size 5 1 (some ⟨w.heap.size, 0, none⟩) m m ((List.replicate m (0 : UInt8)).map bv) → w.grownBy w' none → w'.heap.size = w.heap.size + 1 →
      wpList Try.prog ops Q rest (a.put o.dst (.slice (some ⟨w.heap.size, 0, none⟩) m m)) w') : wpList Try.prog ops Q (o :: rest) a w :=
  wpList_make_Own w hgd ln cp 31 ho 5 Try.t5 (.int .u8 0) 1 Try.underlying31 info5 (by kernel_rfl) (by kernel_rfl) k k' m hl hc (by rw [show Try.t5.bytes = 1 from by kernel_rfl]; omega) (by unfold maxLen; omega)
    fun w' hw ho hg => h w' (by rw [Nat.mul_one, show (Value.int IntKind.u8 0).cells = #[Value.int .u8 0] from rfl, madeCells_one] at ho; rw [List.map_replicate]; exact ho) hg (by rw [hw]; simp)

theorem bytes_any (A : Option Addr) (f : Nat → Bool) (m : Nat) (c : Nat) (w : World) (hb : Cells w A ((List.range (8 * m)).map fun j => .bool (f j))) (hl : m ≤ 1000) :
    Calls Try.prog 24 #[.slice A (8 * m : Nat) c] w fun e w' => e = .returned (.string ⟨(rowB f m (8 * m)).toArray⟩) ∧ Below w.heap.size w w' := by
  go_enter Try.func24, Try.ntmps24
  go_wp2_with (at_make; refine mk_bytes rfl _ _ rfl rfl rfl (by omega) ?_; intro w1 ho1 hg1 hz1)
  go_loopw [4] (fun nv wr => ∃ i, i ≤ 8 * m ∧ nv = .int .i64 (i : Nat) ∧ Own wr w.heap.size 5 1 (some ⟨w.heap.size, 0, none⟩) m m ((rowB f m i).map bv) ∧ Below w.heap.size w wr) (fun nv _ => 8 * m - (intOf nv).toNat)
  case atStart => exact ⟨0, by omega, rfl, by rw [rowB_zero]; exact ho1, Below.of_grown hg1 (Nat.le_refl _) (by simp)⟩
  case round =>
    clear ho1 hg1 hz1
    obtain ⟨i, hi, rfl, ho, hbel⟩ := hrel
    by_cases hlt : i < 8 * m
    · have hbw := hb.below hbel (Nat.le_refl _)
      obtain ⟨b, off, rfl, hc⟩ := Cells.open hbw (by simp; omega)
      have hc1 := hc i (.bool (f i)) (by simp [hlt])
      clear hc hbw
      by_cases hf : f i = true
      · rw [hf] at hc1
        obtain ⟨g', off', e1, hc2⟩ := Bytes.open ho.cells (by rw [rowB_len]; omega)
        cases e1
        have hc3 := hc2 (i / 8) (by rw [rowB_len]; omega)
        rw [rowB_at f m i hlt] at hc3
        simp only [Nat.zero_add] at hc3
        have hfr := ho.free rfl (i / 8)
        have hm8 : i / 8 < m := by omega
        clear hc2
        have hs := byte_spell (part f (i / 8) (i % 8)) i
        have HS := hid hs
        have HF := hid hf
        clear hs hf
        go_wp2_with fail
        go_roundw
        case rel =>
          refine ⟨i + 1, by omega, by go_num, ?_, hbel.setCell (Nat.le_refl _) _⟩
          rw [HS.out, rowB_set f m i HF.out, List.map_set]
          exact ho.set rfl _ _
        case measure => simp [intOf]; omega
      · have hf' : f i = false := by simpa using hf
        rw [hf'] at hc1
        have HF := hid hf'
        clear hf hf'
        go_wp2_with fail
        go_roundw
        case rel => exact ⟨i + 1, by omega, by go_num, by rw [rowB_skip f m i HF.out]; exact ho, hbel⟩
        case measure => simp [intOf]; omega
    · have hk : i = 8 * m := by omega
      have HK := hid hk
      clear hk
      have hcv := run_bytes_string (P := Try.prog) (src := 31) (dst := 9) Try.underlying31 Try.underlying5 Try.underlying9 m (ho.cells)
      rw [rowB_len] at hcv
      go_wp2_with fail
      go_ret
      exact ⟨by have := HK.out; subst this; rfl, hbel⟩
end Go.Proofs.Ytafofpnfpkbfpaa
