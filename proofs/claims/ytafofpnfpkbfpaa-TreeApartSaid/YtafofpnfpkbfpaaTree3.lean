/- Contracts: tree.Encode, bytes.Equal. -/
import Derived.Test.YtafofpnfpkbfpaaTree2
import Derived.Test.YtafofpnfpkbfpaaMarks6
namespace Go.Proofs.Ytafofpnfpkbfpaa
open Go.RowKit Go.CP

def u8i (n : Int) : UInt8 := UInt8.ofNat (n % 256).toNat
theorem u8i_toNat (n : Int) : ((u8i n).toNat : Int) = n % 256 := by
  simp only [u8i, UInt8.toNat_ofNat']
  omega
def enc2 (l : List Int) : List UInt8 := l.flatMap fun n => [u8i n, u8i (n / 256)]
theorem enc2_len (l : List Int) : (enc2 l).length = 2 * l.length := by
  induction l with
  | nil => rfl
  | cons x l ih => simp only [enc2, List.flatMap_cons, List.length_append, List.length_cons, List.length_nil] at *; omega
theorem enc2_snoc {l : List Int} {i : Nat} {x : Int} (h : l[i]? = some x) : enc2 (l.take (i + 1)) = enc2 (l.take i) ++ [u8i x, u8i (x / 256)] := by
  rw [take_snoc h]; simp [enc2]
def encP (l : List Int) : List UInt8 := enc2 l ++ List.replicate (128 - 2 * l.length) 0

theorem set_two (P : List UInt8) (k : Nat) (a b : UInt8) : ((P ++ List.replicate (k + 2) 0).set P.length a).set (P.length + 1) b = P ++ [a, b] ++ List.replicate k 0 := by
  rw [List.replicate_succ, List.replicate_succ]
  rw [List.set_append_right _ _ (Nat.le_refl _), Nat.sub_self, List.set_cons_zero, List.set_append_right _ _ (by omega), Nat.add_sub_cancel_left, List.set_cons_succ, List.set_cons_zero]
  simp

theorem encode_err (A : Option Addr) (l : List Int) (c : Nat) (w : World) (ha : Ints w A l) (hl : l.length ≤ 140737488351232) (h : l.length ≠ 8 ∨ badB l = true) :
    Calls Try.prog 16 #[.slice A l.length c] w fun e w' => e = .returned (.tuple #[.slice none 0 0, .int .i64 1]) ∧ w' = w := by
  by_cases h8 : l.length = 8
  · have hbad : badB l = true := h.resolve_left (by simpa using h8)
    have hq : ((l.length : Int) != 8) = false := by rw [bne_eq_false_iff_eq]; omega
    clear h h8
    go_enter Try.func16, Try.ntmps16
    go_wp2_with (go_at_call 27; refine (containsFunc_any A l c w ha hl).mono ?_; rintro e w ⟨rfl, rfl⟩)
    go_ret2
    exact ⟨rfl, rfl⟩
  · have hq : ((l.length : Int) != 8) = true := by rw [bne_iff_ne]; omega
    clear h h8
    go_enter Try.func16, Try.ntmps16
    go_wp2_with (go_at_call 27; refine (containsFunc_any A l c w ha hl).mono ?_; rintro e w ⟨rfl, rfl⟩)
    go_ret2
    exact ⟨rfl, rfl⟩

theorem encode_ok (A : Option Addr) (l : List Int) (c : Nat) (w : World) (ha : Ints w A l) (h8 : l.length = 8) (h : badB l = false) :
    Calls Try.prog 16 #[.slice A l.length c] w (RetOwn2 w 5 1 128 ((encP l).map bv) (.int .i64 0)) := by
  have hq : ((l.length : Int) != 8) = false := by rw [bne_eq_false_iff_eq]; omega
  have hl : l.length ≤ 140737488351232 := by omega
  have H8 := hid h8
  clear h8
  go_enter Try.func16, Try.ntmps16
  go_wp2_with (first
    | (go_at_call 27; refine (containsFunc_any A l c w ha hl).mono ?_; rintro e w ⟨rfl, rfl⟩)
    | (at_make; refine mk_bytes (m := 128) rfl _ _ rfl rfl rfl (by omega) ?_; intro w1 ho1 hg1 hz1))
  go_loopw [17] (fun iv wr => ∃ i : Nat, i ≤ 8 ∧ iv = .int .i64 i ∧ Own wr w.heap.size 5 1 (some ⟨w.heap.size, 0, none⟩) 128 128 ((enc2 (l.take i) ++ List.replicate (128 - 2 * i) 0).map bv) ∧ Below w.heap.size w wr) (fun iv _ => 8 - (intOf iv).toNat)
  case atStart => exact ⟨0, by omega, rfl, by simpa [enc2] using ho1, Below.of_grown hg1 (Nat.le_refl _) (by simp)⟩
  case round =>
    clear ho1 hg1 hz1
    obtain ⟨i, hi, rfl, ho, hbel⟩ := hrel
    by_cases hlt : i < 8
    · have hll : i < l.length := by rw [H8.out]; exact hlt
      obtain ⟨b1, o1, rfl, hc1⟩ := Ints.openq (ha.below hbel (Nat.le_refl _)) (by omega)
      obtain ⟨x, hx⟩ := get_of_lt l hll
      have hd1 := hc1 i x hx
      have HX := hid hx
      have hfr1 := ho.free rfl (2 * i)
      have hfr2 := ho.free rfl (2 * i + 1)
      have hcs := (Own.cells ho)
      obtain ⟨g', off', e1, hc2⟩ := Bytes.openq hcs (by simp; omega)
      cases e1
      obtain ⟨y1, hy1⟩ := get_of_lt (enc2 (l.take i) ++ List.replicate (128 - 2 * i) 0) (i := 2 * i) (by simp [enc2_len]; omega)
      obtain ⟨y2, hy2⟩ := get_of_lt (enc2 (l.take i) ++ List.replicate (128 - 2 * i) 0) (i := 2 * i + 1) (by simp [enc2_len]; omega)
      have hd2 := hc2 _ _ hy1
      have hd3 := hc2 _ _ hy2
      simp only [Nat.zero_add] at hd2 hd3
      clear hc1 hc2 hx hy1 hy2 hcs
      go_wp2_with fail
      go_roundw
      case rel =>
        refine ⟨i + 1, by omega, by go_num, ?_, (hbel.setCell (Nat.le_refl _) _).setCell (Nat.le_refl _) _⟩
        have ho2 := (ho.set rfl (2 * i) (.int .u8 (x % 256))).set rfl (2 * i + 1) (.int .u8 (x / 256 % 256))
        have e : ((((enc2 (l.take i) ++ List.replicate (128 - 2 * i) 0).map bv).set (2 * i) (.int .u8 (x % 256))).set (2 * i + 1) (.int .u8 (x / 256 % 256))) =
            ((enc2 (l.take (i + 1)) ++ List.replicate (128 - 2 * (i + 1)) 0).map bv) := by
          have hlen : (enc2 (l.take i)).length = 2 * i := by rw [enc2_len, List.length_take]; omega
          rw [enc2_snoc HX.out, ← u8i_toNat, ← u8i_toNat, ← List.map_set (f := bv), ← List.map_set (f := bv)]
          congr 1
          have := set_two (enc2 (l.take i)) (128 - 2 * (i + 1)) (u8i x) (u8i (x / 256))
          rw [hlen] at this
          rw [show 128 - 2 * i = 128 - 2 * (i + 1) + 2 from by omega]
          exact this
        rw [e] at ho2
        exact ho2
      case measure => simp [intOf]; omega
    · have hk : i = 8 := by omega
      have hle : l.length ≤ i := by rw [H8.out]; omega
      have HK := hid hk
      clear hk
      go_wp2_with fail
      go_ret2
      exact ⟨_, _, rfl, by have := HK.out; subst this; have e8 := H8.out; simp only [encP, e8]; rw [List.take_of_length_le (by omega)] at ho; exact ho, hbel⟩

theorem equal_any (A B : Option Addr) (l m : List UInt8) (c c' : Nat) (w : World) (ha : Bytes w A l) (hb : Bytes w B m) :
    Calls Try.prog 30 #[.slice A l.length c, .slice B m.length c'] w fun e w' => e = .returned (.bool (decide (l = m))) ∧ w' = w := by
  have h1 := run_bytes_string (P := Try.prog) (src := 31) (dst := 9) Try.underlying31 Try.underlying5 Try.underlying9 c ha
  have h2 := run_bytes_string (P := Try.prog) (src := 31) (dst := 9) Try.underlying31 Try.underlying5 Try.underlying9 c' hb
  go_enter Try.func30, Try.ntmps30
  go_wp2
  go_ret
  exact ⟨ret_bool (by by_cases h : l = m <;> simp [h]), rfl⟩
end Go.Proofs.Ytafofpnfpkbfpaa
