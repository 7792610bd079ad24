/- Contracts of field.Sealed, field.Frame and of the reference's Sealed, Noughts, Big. -/
import Derived.Test.YtppbcdcmpcagdaaField3
import Derived.Deep.RegionWith
namespace Go.Proofs.Ytppbcdcmpcagdaa
open Go.RowKit Go.CP

def sealL (l : List UInt8) : List UInt8 := l ++ little (sumL l).toNat 4
def frameL (tag : UInt8) (l : List UInt8) : List UInt8 := sealL (tag :: (little l.length 2 ++ l))
theorem sealL_len (l : List UInt8) : (sealL l).length = l.length + 4 := by simp [sealL, little_len]
theorem frameL_len (tag : UInt8) (l : List UInt8) : (frameL tag l).length = l.length + 7 := by simp [frameL, sealL_len, little_len]; omega

theorem sealed_any (A : Option Addr) (l : List UInt8) (c : Nat) (w : World) (hb : Bytes w A l) (hl : l.length ≤ 150000000000000) :
    Calls Try.prog 133 #[.slice A l.length c] w (RetOwn w 5 1 (l.length + 4) ((sealL l).map bv)) := by
  have hs := sum_any A l c w hb (by omega)
  have hp := put_any A l c (sumL l).toNat 4 w hb (by omega) (sumL l).toNat_lt (by omega)
  rw [show ((4 : Nat) : Int) = 4 from rfl] at hp
  go_enter Try.func133, Try.ntmps133
  go_wp2_with (first
    | (go_at_call 55; refine hs.mono ?_; rintro e w1 ⟨rfl, rfl⟩)
    | (go_at_call 127; refine hp.mono ?_; rintro e w1 ⟨A1, c1, rfl, ho, hb1⟩))
  go_ret
  exact ⟨A1, c1, rfl, ho, hb1⟩

theorem rsealed_any (s : ByteArray) (w : World) (hl : s.size ≤ 150000000000000) :
    Calls Try.prog 134 #[.string s] w fun e w' => e = .returned (.string (bstr (sealL s.data.toList))) ∧ Below w.heap.size w w' := by
  have hs := rsum_any s w (by omega)
  have hp := little_any (sumL s.data.toList).toNat 4 w (by have := (sumL s.data.toList).toNat_lt; omega) (by omega)
  rw [show ((4 : Nat) : Int) = 4 from rfl] at hp
  have hz2 : (bstr (little (sumL s.data.toList).toNat 4)).size = 4 := little_len (sumL s.data.toList).toNat 4
  go_enter Try.func134, Try.ntmps134
  go_wp2_with (first
    | (go_at_call 56; refine hs.mono ?_; rintro e w1 ⟨rfl, rfl⟩)
    | (go_at_call 42; refine hp.mono ?_; rintro e w1 ⟨rfl, hb1⟩))
  go_ret
  exact ⟨by rw [sealL, ← s_app_bstr]; rfl, hb1⟩

theorem noughts_any (n : Nat) (w : World) (hn : n ≤ 1000000) :
    Calls Try.prog 135 #[.int .i64 n] w fun e w' => e = .returned (.string (bstr (List.replicate n 0))) ∧ Below w.heap.size w w' := by
  go_enter Try.func135, Try.ntmps135
  go_wp2_with fail
  go_loopw [3] (fun sv wr => ∃ i : Nat, i ≤ n ∧ sv = .string (bstr (List.replicate i 0)) ∧ wr = w) (fun sv _ => n - (match sv with | .string s => s.size | _ => 0))
  case atStart => exact ⟨0, by omega, rfl, rfl⟩
  case round =>
    obtain ⟨i, hi, rfl, rfl⟩ := hrel
    have hz : (bstr (List.replicate i 0)).size = i := by show (List.replicate i (0 : UInt8)).toArray.size = i; simp
    by_cases hlt : i < n
    · go_wp2_with fail
      go_roundw
      case rel => exact ⟨i + 1, by omega, congrArg Value.string (by rw [List.replicate_succ', ← bstr_append]), trivial⟩
      case measure =>
        have h2 : (bstr (List.replicate i 0) ++ { data := #[0] } : ByteArray).size = i + 1 := by rw [ByteArray.size_append, hz]; rfl
        show n - (bstr (List.replicate i 0) ++ { data := #[0] } : ByteArray).size < n - (bstr (List.replicate i 0)).size
        rw [h2, hz]; omega
    · obtain rfl : i = n := by omega
      go_wp2_with fail
      go_ret
      exact ⟨rfl, Below.refl _ _⟩

theorem cells_one (w : World) (v : Value) : Cells (w.alloc (.cells #[v] 5)) (some ⟨w.heap.size, 0, none⟩) [v] := by
  intro j u h
  cases j with
  | zero => simp at h; subst h; exact ⟨_, _, rfl, by rw [World.cell?, World.alloc]; simp⟩
  | succ j => simp at h
set_option maxRecDepth 100000 in
theorem frame_err (tag : Int) (A : Option Addr) (len c : Nat) (w : World) (h : 65535 < len) :
    Calls Try.prog 51 #[.int .u8 tag, .slice A len c] w fun e w' => e = .returned (.tuple #[.slice none 0 0, .int .i64 17]) ∧ w' = w := by
  have h' : decide (65535 < (len : Int)) = true := by simp; omega
  go_enter Try.func51, Try.ntmps51
  go_wp2
  go_ret2
  exact ⟨rfl, rfl⟩

set_option maxRecDepth 100000 in
theorem frame_ok (tag : UInt8) (A : Option Addr) (l : List UInt8) (c : Nat) (w : World) (hb : Bytes w A l) (h : l.length ≤ 65535) :
    Calls Try.prog 51 #[bv tag, .slice A l.length c] w (RetOwn2 w 5 1 (l.length + 7) ((frameL tag l).map bv) (.int .i64 0)) := by
  have H := hid h
  have h' : decide (65535 < (l.length : Int)) = false := by simp; omega
  go_enter Try.func51, Try.ntmps51
  go_wp2_with fail
  have ht := cells_one w (bv tag)
  have hba : Below w.heap.size w (w.alloc (.cells #[bv tag] 5)) := (Below.refl _ _).alloc (Nat.le_refl _) _
  have hp := put_any (some ⟨w.heap.size, 0, none⟩) [tag] 1 l.length 2 _ ht (by simp) (by have := H.out; omega) (by omega)
  rw [show ((2 : Nat) : Int) = 2 from rfl] at hp
  refine hp.mono ?_
  clear hp
  rintro e w1 ⟨A1, c1, rfl, ho, hb1⟩
  have hb01 := hba.trans (hb1.mono (by simp))
  have ho1 := ho.mono (base' := w.heap.size) (by simp)
  rw [show ([tag] : List UInt8).length + 2 = 3 from rfl] at ho1 ⊢
  clear hba
  have hbl : Bytes w1 A l := hb.below hb01 (Nat.le_refl _)
  go_wp2_with (at_builtin; refine ap_bytes rfl _ _ 22 rfl w.heap.size rfl ho1 rfl (Src.bytes Try.underlying22 hbl) (by have := H.out; omega) hb01.size ?_; intro A' c' w' ho2 hg)
  have hb02 := Below.grown hb01 hg hb01.size fun k hk => (ho1.block k hk).1
  have hcl := ho2.cells
  rw [← List.map_append] at hcl
  have hs := sealed_any A' ([tag] ++ little l.length 2 ++ l) c' w' hcl (by have := H.out; simp [little_len]; omega)
  rw [show ([tag] ++ little l.length 2 ++ l).length = 3 + l.length from by simp [little_len]; omega] at hs
  refine hs.mono ?_
  clear hs
  rintro e w3 ⟨A3, c3, rfl, ho3, hb3⟩
  go_wp2
  go_ret2
  exact ⟨A3, c3, by rw [show 3 + l.length + 4 = l.length + 7 from by omega]; rfl, by rw [show 3 + l.length + 4 = l.length + 7 from by omega] at ho3; exact ho3.mono hb02.size, hb02.trans (hb3.mono hb02.size)⟩

theorem conv_one (w : World) (v : UInt8) : (convert 22 9 (.slice (some ⟨w.heap.size, 0, none⟩) 1 1)).run Try.prog (w.alloc (.cells #[bv v] 5)) = .ok (.string (bstr [v])) (w.alloc (.cells #[bv v] 5)) :=
  cv_bytes (l := [v]) 1 (cells_one w (bv v))
theorem conv_after {w w' : World} {v : UInt8} (h : Below (w.alloc (.cells #[bv v] 5)).heap.size (w.alloc (.cells #[bv v] 5)) w') :
    (convert 22 9 (.slice (some ⟨w.heap.size, 0, none⟩) 1 1)).run Try.prog w' = .ok (.string (bstr [v])) w' :=
  cv_bytes (l := [v]) 1 (Cells.below (cells_one w (bv v)) h (Nat.le_refl _))

theorem conv_drew (w : World) (v : UInt8) : (convert 22 9 (.slice (some ⟨w.heap.size, 0, none⟩) 1 1)).run Try.prog (w.alloc (.cells #[bv v] 5)).drew = .ok (.string (bstr [v])) (w.alloc (.cells #[bv v] 5)).drew :=
  conv_after (Below.drew (Below.refl _ _))
theorem conv_after2 {w w' : World} {v : UInt8} (h : Below (w.alloc (.cells #[bv v] 5)).drew.heap.size (w.alloc (.cells #[bv v] 5)).drew w') :
    (convert 22 9 (.slice (some ⟨w.heap.size, 0, none⟩) 1 1)).run Try.prog w' = .ok (.string (bstr [v])) w' :=
  conv_after (Below.trans (Below.drew (Below.refl _ _)) h)
theorem bl1 (w : World) (o : Obj) : Below w.heap.size w (w.alloc o).drew := Below.drew ((Below.refl _ _).alloc (Nat.le_refl _) _)
theorem bl2 (w : World) : Below w.heap.size w w.drew := Below.drew (Below.refl _ _)
theorem rframe_err (tag : Int) (s : ByteArray) (w : World) (h : 65535 < s.size) :
    Calls Try.prog 52 #[.int .u8 tag, .string s] w fun e w' => e = .returned (.tuple #[.string (bstr []), .int .i64 17]) ∧ w' = w := by
  have h' : decide (65535 < (s.size : Int)) = true := by simp; omega
  go_enter Try.func52, Try.ntmps52
  go_wp2
  go_ret2
  exact ⟨rfl, rfl⟩

set_option maxHeartbeats 4000000 in
set_option maxRecDepth 100000 in
theorem rframe_ok (tag : UInt8) (s : ByteArray) (w : World) (h : s.size ≤ 65535) :
    Calls Try.prog 52 #[bv tag, .string s] w fun e w' => e = .returned (.tuple #[.string (bstr (frameL tag s.data.toList)), .int .i64 0]) ∧ Below w.heap.size w w' := by
  have h' : decide (65535 < (s.size : Int)) = false := by simp; omega
  have hq := fun W => little_any s.size 2 W (by omega) (by omega)
  rw [show ((2 : Nat) : Int) = 2 from rfl] at hq
  have hz : (bstr [tag] ++ bstr (little s.size 2) ++ s).size = s.size + 3 := by
    rw [ByteArray.size_append, ByteArray.size_append, show (bstr (little s.size 2)).size = 2 from little_len _ _, show (bstr [tag]).size = 1 from rfl]; omega
  have hs := fun W => rsealed_any (bstr [tag] ++ bstr (little s.size 2) ++ s) W (by omega)
  rw [show sealL (bstr [tag] ++ bstr (little s.size 2) ++ s).data.toList = frameL tag s.data.toList from by rw [bstr_append, bstr_app_s]; rfl] at hs
  have HQ := hid hq
  have HS := hid hs
  have hc1 := fun W => conv_one W tag
  have hc2 := fun W => conv_drew W tag
  have hz2 : (bstr (little s.size 2)).size = 2 := little_len _ _
  have hz0 : (bstr [tag]).size = 1 := rfl
  clear hz hq hs
  go_enter Try.func52, Try.ntmps52
  go_wp2_with fail
  go_region_with (first
      | (go_at_call 42; refine (HQ.out _).mono ?_; rintro e w4 ⟨rfl, hb4⟩; first | (have hcv := conv_after hb4) | (have hcv := conv_after2 hb4) | skip)
      | (go_at_call 134; refine (HS.out _).mono ?_; rintro e w5 ⟨rfl, hb5⟩))
  all_goals
    go_wp2
    go_ret2
    have k4 : Below w.heap.size w w4 := by
      first
        | exact Below.trans (bl1 _ _) (hb4.mono (Below.size (bl1 _ _)))
        | exact Below.trans (bl2 _) (hb4.mono (Below.size (bl2 _)))
    exact ⟨rfl, by first | exact k4.trans (hb5.mono k4.size) | exact (k4.alloc k4.size _).trans (hb5.mono (k4.alloc k4.size _).size)⟩

def bigL (l : List UInt8) : Nat := l.foldr (fun x a => a * 256 + x.toNat) 0
theorem bigL_drop {l : List UInt8} {m : Nat} {x : UInt8} (h : l[m]? = some x) : bigL (l.drop m) = bigL (l.drop (m + 1)) * 256 + x.toNat := by
  obtain ⟨h1, h2⟩ := List.getElem?_eq_some_iff.1 h
  rw [List.drop_eq_getElem_cons h1, h2]
  rfl
theorem bigL_lt (l : List UInt8) : bigL l < 256 ^ l.length := by
  induction l with
  | nil => simp [bigL]
  | cons x l ih =>
    have := x.toNat_lt
    simp only [bigL, List.foldr_cons, List.length_cons] at *
    rw [Nat.pow_succ]
    omega

theorem big_any (s : ByteArray) (w : World) (h : s.size ≤ 4) :
    Calls Try.prog 132 #[.string s] w fun e w' => e = .returned (.int .i64 ((bigL s.data.toList : Nat) : Int)) ∧ w' = w := by
  go_enter Try.func132, Try.ntmps132
  go_wp2_with fail
  go_loopw [3, 4] (fun nv iv wr => ∃ m a : Nat, m ≤ s.size ∧ nv = .int .i64 a ∧ iv = .int .i64 ((m : Int) - 1) ∧ Hid (a = bigL (s.data.toList.drop m)) ∧ Hid (a < 256 ^ (s.size - m)) ∧ wr = w) (fun _ iv _ => (intOf iv + 1).toNat)
  case atStart => exact ⟨s.size, 0, Nat.le_refl _, rfl, rfl, hid (by rw [List.drop_of_length_le (show s.data.toList.length ≤ s.size from Nat.le_refl _)]; rfl), hid (by rw [Nat.sub_self]; omega), rfl⟩
  case round =>
    obtain ⟨m, a, hm, rfl, rfl, HA, HB, rfl⟩ := hrel
    cases m with
    | zero =>
      rw [show (((0 : Nat) : Int) - 1) = -1 from rfl]
      go_wp2_with fail
      go_ret
      exact ⟨ret_int (by rw [HA.out, List.drop_zero]), rfl⟩
    | succ m =>
      rw [show (((m + 1 : Nat) : Int) - 1) = m from by omega]
      have hm2 : m < s.size := by omega
      have ha : a < 16777216 := by
        have := HB.out
        have h2 : 256 ^ (s.size - (m + 1)) ≤ 256 ^ 3 := Nat.pow_le_pow_right (by omega) (by omega)
        omega
      have hx := s[m].toNat_lt
      go_wp2_with fail
      go_roundw
      case rel =>
        have hg : s.data.toList[m]? = some s[m] := by
          rw [Array.getElem?_toList]
          exact Array.getElem?_eq_getElem hm2
        refine ⟨m, a * 256 + s[m].toNat, by omega, by go_num, rfl, hid (by rw [bigL_drop hg, ← HA.out]), hid ?_, trivial⟩
        have := HB.out
        rw [show s.size - m = s.size - (m + 1) + 1 from by omega, Nat.pow_succ]
        omega
      case measure => simp [intOf]
end Go.Proofs.Ytppbcdcmpcagdaa
