/- Contracts of package verb: number, each, nums, texts, data, body, Changes. -/
import Derived.Test.YtppbcdcmpcagdaaVerb1
import Derived.Lib.ConvBytes
namespace Go.Proofs.Ytppbcdcmpcagdaa
open Go.RowKit Go.CP

theorem vnumber_any (n : Int) (w : World) : Calls Try.prog 149 #[.int .i64 n] w fun e w' => e = .returned (.bool (numB n)) ∧ w' = w := by
  go_enter Try.func149, Try.ntmps149
  go_wp2
  all_goals
    go_ret
    exact ⟨ret_bool (by rw [Bool.eq_iff_iff]; simp [numB]; omega), rfl⟩
abbrev sv (s : List UInt8) : Value := .string (bstr s)
abbrev Strs (w : World) (A : Option Addr) (l : List (List UInt8)) : Prop := Cells w A (l.map sv)
theorem Strs.at {w : World} {A : Option Addr} {l : List (List UInt8)} (h : Strs w A l) {i : Nat} {s : List UInt8} (hi : l[i]? = some s) : ∃ b off, A = some ⟨b, off, none⟩ ∧ w.cell? ⟨b, off + i, none⟩ = some (.string (bstr s)) := by
  obtain ⟨b, off, h1, h2⟩ := h i (sv s) (by rw [List.getElem?_map, hi]; rfl)
  exact ⟨b, off, h1, h2⟩
theorem Ints.atq {w : World} {A : Option Addr} {l : List Int} (h : Ints w A l) {i : Nat} {n : Int} (hi : l[i]? = some n) : ∃ b off, A = some ⟨b, off, none⟩ ∧ w.cell? ⟨b, off + i, none⟩ = some (.int .i64 n) := by
  obtain ⟨b, off, h1, h2⟩ := h i (iv n) (by rw [List.getElem?_map, hi]; rfl)
  exact ⟨b, off, h1, h2⟩
/-- Bytes of the call's own, and nothing old turned. -/
def RetB (w : World) (base : Nat) (l : List UInt8) (e : Ending) (w' : World) : Prop :=
  ∃ A c m, e = .returned (.slice A (List.length m) c) ∧ Hid (m = l ∧ Go.CP.Own w' base 5 1 A m.length c (m.map bv) ∧ Below w.heap.size w w')
theorem numsL_snoc {l : List Int} {i m : Nat} (h : l[i]? = some (m : Int)) : numsL (l.take (i + 1)) = numsL (l.take i) ++ little m 4 := by
  rw [take_snoc h, numsL_app]; simp [numsL]
theorem textsL_snoc {l : List (List UInt8)} {i : Nat} {s : List UInt8} (h : l[i]? = some s) : textsL (l.take (i + 1)) = textsL (l.take i) ++ textL s := by
  rw [take_snoc h]; simp [textsL]

set_option maxRecDepth 100000 in
theorem each_ints (base : Nat) (A : Option Addr) (l : List UInt8) (c : Nat) (B : Option Addr) (ns : List Int) (cb : Nat) (w : World) (ho : Go.CP.Own w base 5 1 A l.length c (l.map bv)) (hbase : base ≤ w.heap.size) (hB : Ints w B ns) (hr : ∀ n ∈ ns, 0 ≤ n ∧ n < 4294967296)
    (hl : l.length ≤ 100000000) (hn : ns.length ≤ 100000000) :
    Calls Try.prog 180 #[.slice A l.length c, .slice B ns.length cb, .func (.func 40) #[] #[]] w (RetB w base (l ++ numsL ns)) := by
  have HO := hid ho
  have HB := hid hB
  have HR := hid hr
  have HL := hid hl
  have hni : (ns.length : Int) ≤ 100000000 := by omega
  clear ho hB hr hl
  go_enter Try.func180, Try.ntmps180
  go_wp2_with fail
  go_loopw [0, 11] (fun ov iv wr => ∃ (i : Nat) (X : Option Addr) (cx : Nat) (m : List UInt8), i ≤ ns.length ∧ iv = .int .i64 i ∧ ov = .slice X m.length cx ∧ Hid (m = l ++ numsL (ns.take i) ∧ Go.CP.Own wr base 5 1 X m.length cx (m.map bv) ∧ Below w.heap.size w wr)) (fun _ iv _ => ns.length - (intOf iv).toNat)
  case atStart => exact ⟨0, A, c, l, by omega, rfl, rfl, hid ⟨by simp [numsL], HO.out, Below.refl _ _⟩⟩
  case round =>
    obtain ⟨i, X, cx, m, hi, rfl, rfl, HI⟩ := hrel
    by_cases hlt : i < ns.length
    · obtain ⟨x, hx⟩ := get_of_lt ns hlt
      have hxr := HR.out x (List.mem_of_getElem? hx)
      obtain ⟨k, rfl⟩ := Int.eq_ofNat_of_zero_le hxr.1
      obtain ⟨b, off, rfl, hc⟩ := Ints.atq (Cells.below HB.out HI.out.2.2 (Nat.le_refl _)) hx
      have hlen : m.length ≤ 600000000 := by
        rw [HI.out.1, List.length_append, numsL_len, List.length_take]; have := HL.out; omega
      have HP := hid (num_ok X m cx k wr HI.out.2.1.cells (by omega) (by omega))
      have HE : Hid (m ++ little k 4 = l ++ numsL (ns.take (i + 1))) := hid (by rw [HI.out.1, List.append_assoc, ← numsL_snoc hx])
      have hii : (i : Int) < (ns.length : Int) := by omega
      clear hx hxr hlen
      go_wp2_with fail
      refine HP.out.mono ?_
      clear HP
      rintro e w2 ⟨Y, cy, rfl, hoy, hby⟩
      have HN : Hid (m ++ little k 4 = l ++ numsL (ns.take (i + 1)) ∧ Go.CP.Own w2 base 5 1 Y (m ++ little k 4).length cy ((m ++ little k 4).map bv) ∧ Below w.heap.size w w2) := hid ⟨HE.out, by rw [List.length_append, little_len]; exact hoy.mono (Nat.le_trans hbase HI.out.2.2.size), below_t HI.out.2.2 hby HI.out.2.2.size⟩
      clear hoy hby HI HE
      go_wp2_with fail
      go_roundw
      case rel => exact ⟨i + 1, Y, cy, m ++ little k 4, by omega, by go_num, by rw [List.length_append, little_len], HN⟩
      case measure => simp [intOf]; omega
    · have hk : i = ns.length := by omega
      have HK : Hid (numsL (ns.take i) = numsL ns) := hid (by rw [hk, List.take_length])
      have hik : ¬ (i : Int) < (ns.length : Int) := by omega
      clear hk
      go_wp2_with fail
      go_ret
      exact ⟨X, cx, m, rfl, hid ⟨by rw [HI.out.1, HK.out], HI.out.2⟩⟩
set_option maxRecDepth 100000 in
theorem each_strs (base : Nat) (A : Option Addr) (l : List UInt8) (c : Nat) (B : Option Addr) (ss : List (List UInt8)) (cb : Nat) (w : World) (ho : Go.CP.Own w base 5 1 A l.length c (l.map bv)) (hbase : base ≤ w.heap.size) (hB : Strs w B ss) (hr : ∀ s ∈ ss, s.length ≤ 65535)
    (hl : l.length ≤ 100000000) (hn : ss.length ≤ 100000) :
    Calls Try.prog 181 #[.slice A l.length c, .slice B ss.length cb, .func (.func 41) #[] #[]] w (RetB w base (l ++ textsL ss)) := by
  have HO := hid ho
  have HB := hid hB
  have HR := hid hr
  have HL := hid hl
  have hni : (ss.length : Int) ≤ 100000 := by omega
  clear ho hB hr hl
  go_enter Try.func181, Try.ntmps181
  go_wp2_with fail
  go_loopw [0, 11] (fun ov iv wr => ∃ (i : Nat) (X : Option Addr) (cx : Nat) (m : List UInt8), i ≤ ss.length ∧ iv = .int .i64 i ∧ ov = .slice X m.length cx ∧ Hid (m = l ++ textsL (ss.take i) ∧ Go.CP.Own wr base 5 1 X m.length cx (m.map bv) ∧ Below w.heap.size w wr)) (fun _ iv _ => ss.length - (intOf iv).toNat)
  case atStart => exact ⟨0, A, c, l, by omega, rfl, rfl, hid ⟨by simp [textsL], HO.out, Below.refl _ _⟩⟩
  case round =>
    obtain ⟨i, X, cx, m, hi, rfl, rfl, HI⟩ := hrel
    by_cases hlt : i < ss.length
    · obtain ⟨x, hx⟩ := get_of_lt ss hlt
      have hxr := HR.out x (List.mem_of_getElem? hx)
      obtain ⟨b, off, rfl, hc⟩ := Strs.at (Cells.below HB.out HI.out.2.2 (Nat.le_refl _)) hx
      have hlen : m.length ≤ 7000000000 := by
        have h1 := textsL_le (l := ss.take i) (k := 65535) (fun s hs => HR.out s (List.mem_of_mem_take hs))
        have h2 : (2 + 65535) * (ss.take i).length ≤ 65537 * 100000 := Nat.mul_le_mul_left _ (by rw [List.length_take]; omega)
        rw [HI.out.1, List.length_append]; have := HL.out; omega
      have HP := hid (text_ok X m cx (bstr x) wr HI.out.2.1.cells (by omega) (by rw [bstr_size]; exact hxr))
      have HZ : Hid (m ++ little (bstr x).size 2 ++ (bstr x).data.toList = m ++ textL x ∧ m.length + 2 + (bstr x).size = m.length + (2 + x.length)) := hid ⟨by rw [textL, List.append_assoc, bstr_size], by rw [bstr_size]; omega⟩
      have HE : Hid (m ++ textL x = l ++ textsL (ss.take (i + 1))) := hid (by rw [HI.out.1, List.append_assoc, ← textsL_snoc hx])
      have hii : (i : Int) < (ss.length : Int) := by omega
      clear hx hxr hlen
      go_wp2_with fail
      refine HP.out.mono ?_
      clear HP
      rintro e w2 ⟨Y, cy, rfl, hoy, hby⟩
      rw [HZ.out.1, HZ.out.2] at hoy
      rw [HZ.out.2]
      have HN : Hid (m ++ textL x = l ++ textsL (ss.take (i + 1)) ∧ Go.CP.Own w2 base 5 1 Y (m ++ textL x).length cy ((m ++ textL x).map bv) ∧ Below w.heap.size w w2) := hid ⟨HE.out, by rw [List.length_append, textL_len]; exact hoy.mono (Nat.le_trans hbase HI.out.2.2.size), below_t HI.out.2.2 hby HI.out.2.2.size⟩
      clear hoy hby HI HE
      go_wp2_with fail
      go_roundw
      case rel => exact ⟨i + 1, Y, cy, m ++ textL x, by omega, by go_num, by rw [List.length_append, textL_len], HN⟩
      case measure => simp [intOf]; omega
    · have hk : i = ss.length := by omega
      have HK : Hid (textsL (ss.take i) = textsL ss) := hid (by rw [hk, List.take_length])
      have hik : ¬ (i : Int) < (ss.length : Int) := by omega
      clear hk
      go_wp2_with fail
      go_ret
      exact ⟨X, cx, m, rfl, hid ⟨by rw [HI.out.1, HK.out], HI.out.2⟩⟩
theorem nums_any (base : Nat) (A : Option Addr) (l : List UInt8) (c : Nat) (B : Option Addr) (ns : List Int) (cb : Nat) (w : World) (ho : Go.CP.Own w base 5 1 A l.length c (l.map bv)) (hbase : base ≤ w.heap.size) (hB : Ints w B ns) (hr : ∀ n ∈ ns, 0 ≤ n ∧ n < 4294967296)
    (hl : l.length ≤ 100000000) (hn : ns.length ≤ 100000000) :
    Calls Try.prog 146 #[.slice A l.length c, .slice B ns.length cb] w (RetB w base (l ++ numsL ns)) := by
  have HP := hid (each_ints base A l c B ns cb w ho hbase hB hr hl hn)
  clear ho hB hr
  go_enter Try.func146, Try.ntmps146
  go_wp2_with fail
  refine HP.out.mono ?_
  rintro e w2 ⟨Y, cy, m, rfl, HN⟩
  clear HP
  go_wp2_with fail
  go_ret
  exact ⟨Y, cy, m, rfl, HN⟩
theorem texts_any (base : Nat) (A : Option Addr) (l : List UInt8) (c : Nat) (B : Option Addr) (ss : List (List UInt8)) (cb : Nat) (w : World) (ho : Go.CP.Own w base 5 1 A l.length c (l.map bv)) (hbase : base ≤ w.heap.size) (hB : Strs w B ss) (hr : ∀ s ∈ ss, s.length ≤ 65535)
    (hl : l.length ≤ 100000000) (hn : ss.length ≤ 100000) :
    Calls Try.prog 147 #[.slice A l.length c, .slice B ss.length cb] w (RetB w base (l ++ textsL ss)) := by
  have HP := hid (each_strs base A l c B ss cb w ho hbase hB hr hl hn)
  clear ho hB hr
  go_enter Try.func147, Try.ntmps147
  go_wp2_with fail
  refine HP.out.mono ?_
  rintro e w2 ⟨Y, cy, m, rfl, HN⟩
  clear HP
  go_wp2_with fail
  go_ret
  exact ⟨Y, cy, m, rfl, HN⟩
/-- Bytes that are there, and nothing old turned. -/
def RetBy (w : World) (l : List UInt8) (e : Ending) (w' : World) : Prop :=
  ∃ A c m, e = .returned (.slice A (List.length m) c) ∧ Hid (m = l ∧ Bytes w' A m ∧ m.length ≤ c ∧ Below w.heap.size w w' ∧ ∀ b, A.map (·.block) = some b → w.heap.size ≤ b)
theorem bstr_eq (a b : List UInt8) : (bstr a == bstr b) = decide (a = b) := by
  show ((bstr a).data == (bstr b).data) = decide (a = b)
  by_cases h : a = b
  · simp [h]
  · simp [h]
theorem below_bytes (w : World) (s : ByteArray) : Below w.heap.size w (Lib.bytesWorld w 5 s) := by
  exact ⟨rfl, rfl, rfl, by rw [Lib.bytesWorld_size]; omega, fun j hj => Lib.bytesWorld_at_old w 5 s j hj⟩
set_option maxRecDepth 100000 in
/-- Bytes of a text: nil of none. -/
theorem data_any (s : List UInt8) (w : World) : Calls Try.prog 157 #[.string (bstr s)] w (RetBy w s) := by
  by_cases hs : s = []
  · subst hs
    go_enter Try.func157, Try.ntmps157
    go_wp2
    go_ret
    exact ⟨none, 0, [], rfl, hid ⟨rfl, Cells.nil _ _, Nat.le_refl _, Below.refl _ _, fun b h => by simp at h⟩⟩
  · have HS := hid hs
    have hcv := Lib.run_convert_string_bytes (P := Try.prog) w 9 22 5 (bstr s) Try.underlying9 Try.underlying22 Try.underlying5
    have HN : Hid (Bytes (Lib.bytesWorld w 5 (bstr s)) (some ⟨w.heap.size, 0, none⟩) s ∧ s.length ≤ grownCap w s.length 0 5 ∧ Below w.heap.size w (Lib.bytesWorld w 5 (bstr s))) := hid (by
      refine ⟨fun j u hu => ?_, grownCap_ge _ _ _ _, below_bytes w (bstr s)⟩
      rw [List.getElem?_map] at hu
      cases hj : s[j]? with
      | none => rw [hj] at hu; cases hu
      | some x =>
        rw [hj] at hu
        cases hu
        have hlt := (List.getElem?_eq_some_iff.1 hj).1
        refine ⟨_, _, rfl, ?_⟩
        rw [Nat.zero_add, Lib.bytesWorld_cell w 5 (bstr s) j (by rw [bstr_size]; exact hlt)]
        simp [List.getD, hj])
    rw [bstr_size] at hcv
    generalize Lib.bytesWorld w 5 (bstr s) = w2 at hcv HN
    generalize grownCap w s.length 0 5 = cp at hcv HN
    clear hs
    go_enter Try.func157, Try.ntmps157
    go_wp2_with fail
    · exact absurd (List.isEmpty_iff.1 (by assumption)) HS.out
    · go_ret
      exact ⟨_, _, s, rfl, hid ⟨rfl, HN.out.1, HN.out.2.1, HN.out.2.2, fun b h => by simp at h; omega⟩⟩
theorem u8_beq (a b : UInt8) : ((a.toNat : Int) == (b.toNat : Int)) = (a == b) := by
  rw [Bool.eq_iff_iff, beq_iff_eq, beq_iff_eq, ← UInt8.toNat_inj]
  omega
/-- What body hands back. -/
def RetBody (tag : UInt8) (b : List UInt8) (w : World) (e : Ending) (w' : World) : Prop :=
  ∃ g B, e = .returned (.tuple #[.pointer (some ⟨g, 0, none⟩), .bool (bodyT tag b).2]) ∧ FormS w' g B (bodyT tag b).1 false ∧ w.heap.size ≤ g ∧ (∀ k, B = some k → w.heap.size ≤ k ∧ k < g) ∧ Below w.heap.size w w'
theorem body_any2 (tag : UInt8) (B : Option Addr) (b : List UInt8) (c : Nat) (w : World) (hb : Bytes w B b) (hc : b.length ≤ c) (hl : b.length ≤ 150000000000000) :
    Calls Try.prog 156 #[.slice B b.length c, bv tag] w (RetBody tag b w) := by
  have HP := hid (open_any2 B b c w hb hc hl)
  clear hb hc
  go_enter Try.func156, Try.ntmps156
  go_wp2_with fail
  refine HP.out.mono ?_
  clear HP
  rintro e w1 (⟨h0, A1, c1, t, rfl, ht, ho1, hb1⟩ | ⟨h0, rfl, hb1⟩)
  · have HR := hid (read_any A1 (bodyL b) c1 w1 ho1.cells (by have := body_len b h0; omega))
    have hbt : bodyT tag b = (bodyL b, t == tag) := by rw [bodyT, if_pos h0, ht]; rfl
    have HT := hid hbt
    have HB1 := hid hb1
    clear ho1 hb1 hbt ht h0
    go_wp2_with fail
    refine HR.out.mono ?_
    clear HR
    rintro e w2 ⟨g, B2, rfl, hf2, hg2, hB2, hb2⟩
    have HK := hid (And.intro hf2 (And.intro hg2 (And.intro hB2 hb2)))
    clear hf2 hg2 hB2 hb2
    go_wp2_with fail
    go_ret2
    obtain ⟨hf2, hg2, hB2, hb2⟩ := HK.out
    have hz := HB1.out.size
    rw [RetBody, HT.out]
    refine ⟨g, B2, ?_, hf2, by omega, fun k hk => ⟨by have := hB2 k hk; omega, (hB2 k hk).2⟩, below_t HB1.out hb2 hz⟩
    rw [← u8_beq]
    rfl
  · have HR := hid (read_any none [] 0 w1 (Cells.nil _ _) (by simp))
    have hbt : bodyT tag b = ([], false) := by rw [bodyT, if_neg h0]
    have HT := hid hbt
    have HB1 := hid hb1
    have h0q : ((openE b : Int) == 0) = false := by simpa using h0
    rw [show (([] : List UInt8)).length = 0 from rfl] at HR
    clear hb1 hbt
    go_wp2_with fail
    refine HR.out.mono ?_
    clear HR
    rintro e w2 ⟨g, B2, rfl, hf2, hg2, hB2, hb2⟩
    have HK := hid (And.intro hf2 (And.intro hg2 (And.intro hB2 hb2)))
    clear hf2 hg2 hB2 hb2
    go_wp2_with fail
    go_ret2
    obtain ⟨hf2, hg2, hB2, hb2⟩ := HK.out
    have hz := HB1.out.size
    rw [RetBody, HT.out]
    refine ⟨g, B2, ?_, hf2, by omega, fun k hk => ⟨by have := hB2 k hk; omega, (hB2 k hk).2⟩, below_t HB1.out hb2 hz⟩
    rfl
theorem body_any (tag : UInt8) (B : Option Addr) (b : List UInt8) (c : Nat) (w : World) (hb : Bytes w B b) (hc : b.length ≤ c) (hl : b.length ≤ 140737488351232) :
    Calls Try.prog 156 #[.slice B b.length c, bv tag] w (RetBody tag b w) := body_any2 tag B b c w hb hc (by omega)
end Go.Proofs.Ytppbcdcmpcagdaa
