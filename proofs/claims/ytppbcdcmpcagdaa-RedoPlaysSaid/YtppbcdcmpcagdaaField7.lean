/- Contracts of field.Form's Num, Text, End and of field.Read. -/
import Derived.Test.YtppbcdcmpcagdaaField6
namespace Go.Proofs.Ytppbcdcmpcagdaa
open Go.RowKit Go.CP

/-- A Form at block g over the bytes l, which lie in block B. -/
def FormS (W : World) (g : Nat) (B : Option Nat) (l : List UInt8) (bad : Bool) : Prop :=
  ∃ A c, FormIs W g A l c bad ∧ A.map (·.block) = B ∧ (A = none ∨ ∃ b off, A = some ⟨b, off, none⟩)
def tOut (l : List UInt8) (bad : Bool) (n : Nat) : List UInt8 := if bad = true ∨ l.length < n then [] else l.take n
def tL (l : List UInt8) (bad : Bool) (n : Nat) : List UInt8 := if bad = true ∨ l.length < n then l else l.drop n
def tB (l : List UInt8) (bad : Bool) (n : Nat) : Bool := bad || decide (l.length < n)

def RetTake (g : Nat) (B : Option Nat) (l : List UInt8) (bad : Bool) (n : Nat) (W : World) (e : Ending) (W' : World) : Prop :=
  ∃ A c, e = .returned (.slice A (tOut l bad n).length c) ∧ Bytes W' A (tOut l bad n) ∧ (∀ b, A.map (·.block) = some b → B = some b) ∧ FormS W' g B (tL l bad n) (tB l bad n) ∧ Turn g W W'

theorem take_any (g : Nat) (B : Option Nat) (l : List UInt8) (bad : Bool) (n : Nat) (W : World) (h : FormS W g B l bad) (h0 : 0 < n ∨ B.isSome ∨ bad = true) :
    Calls Try.prog 131 #[.pointer (some ⟨g, 0, none⟩), .int .i64 n] W (RetTake g B l bad n W) := by
  obtain ⟨A, c, hF, hB, hA⟩ := h
  by_cases hb : bad = true
  · subst hb
    refine (take_bad g A l c n W hF).mono fun e W' ⟨h1, h2, h3⟩ => ?_
    have e1 : tOut l true n = [] := if_pos (.inl rfl)
    have e2 : tL l true n = l := if_pos (.inl rfl)
    have e3 : tB l true n = true := rfl
    unfold RetTake
    rw [e1, e2, e3]
    exact ⟨none, 0, h1, Cells.nil _ _, fun b hb => by simp at hb, ⟨A, c, h2, hB, hA⟩, h3⟩
  · have hb' : bad = false := by simpa using hb
    subst hb'
    by_cases hl : l.length < n
    · refine (take_long g A l c n W hF hl).mono fun e W' ⟨h1, h2, h3⟩ => ?_
      have e1 : tOut l false n = [] := if_pos (.inr hl)
      have e2 : tL l false n = l := if_pos (.inr hl)
      have e3 : tB l false n = true := by simp [tB, hl]
      unfold RetTake
      rw [e1, e2, e3]
      exact ⟨none, 0, h1, Cells.nil _ _, fun b hb => by simp at hb, ⟨A, c, h2, hB, hA⟩, h3⟩
    · have hA' : 0 < n ∨ ∃ b off, A = some ⟨b, off, none⟩ := by
        rcases h0 with h | h | h
        · exact .inl h
        · rcases hA with rfl | hA
          · rw [← hB] at h; cases h
          · exact .inr hA
        · cases h
      refine (take_fit g A l c n W hF (by omega) hA').mono fun e W' ⟨h1, h2, ⟨b, off, h3, h4⟩, h5⟩ => ?_
      have hc : ¬ (false = true ∨ l.length < n) := by simp; omega
      have e1 : tOut l false n = l.take n := if_neg hc
      have e2 : tL l false n = l.drop n := if_neg hc
      have e3 : tB l false n = false := by simp [tB]; omega
      unfold RetTake
      rw [e1, e2, e3]
      exact ⟨A, c, by rw [h1, List.length_take, Nat.min_eq_left (by omega)], h2, fun b' hb' => by rw [← hB, hb'], ⟨_, _, h3, by rw [← hB, h4]; rfl, .inr ⟨_, _, rfl⟩⟩, h5⟩

theorem FormS.turn {W W' : World} {g g2 : Nat} {B : Option Nat} {l : List UInt8} {bad : Bool} (h : FormS W g B l bad) (ht : Turn g2 W W') (hg : g ≠ g2) (hne : ∀ b, B = some b → b ≠ g2) : FormS W' g B l bad := by
  obtain ⟨A, c, hF, hB, hA⟩ := h
  exact ⟨A, c, hF.turn ht hg (fun b hb => hne b (by rw [← hB, hb])), hB, hA⟩
theorem Turn.of_below {g : Nat} {W W' : World} (h : Below W.heap.size W W') (hg : g ≤ W.heap.size) : Turn g W W' := ⟨h.mono hg, h.size, fun k hk _ => h.block k hk⟩
theorem FormS.below {W W' : World} {g : Nat} {B : Option Nat} {l : List UInt8} {bad : Bool} (h : FormS W g B l bad) (hb : Below W.heap.size W W') : FormS W' g B l bad := by
  obtain ⟨A, c, hF, hB, hA⟩ := h
  exact ⟨A, c, ⟨(hb.block g hF.lt).trans hF.1, hF.2.1.below hb (Nat.le_refl _), hF.2.2⟩, hB, hA⟩
theorem FormS.lt {W : World} {g : Nat} {B : Option Nat} {l : List UInt8} {bad : Bool} (h : FormS W g B l bad) : g < W.heap.size := by
  obtain ⟨A, c, hF, -⟩ := h
  exact hF.lt
theorem FormS.len {W : World} {g : Nat} {B : Option Nat} {l : List UInt8} {bad : Bool} (h : FormS W g B l bad) : l.length ≤ 140737488351232 := by
  obtain ⟨A, c, hF, -⟩ := h
  exact hF.2.2.2.2

def RetForm (g : Nat) (B : Option Nat) (v : Value) (l : List UInt8) (bad : Bool) (W : World) (e : Ending) (W' : World) : Prop := e = .returned v ∧ FormS W' g B l bad ∧ Turn g W W'

theorem tOut_len (l : List UInt8) (bad : Bool) (n : Nat) : (tOut l bad n).length ≤ n := by
  unfold tOut; split
  · simp
  · simp; omega

theorem fnum_any (g : Nat) (B : Option Nat) (l : List UInt8) (bad : Bool) (W : World) (h : FormS W g B l bad) :
    Calls Try.prog 46 #[.pointer (some ⟨g, 0, none⟩)] W (RetForm g B (.int .i64 (bigL (tOut l bad 4) : Nat)) (tL l bad 4) (tB l bad 4) W) := by
  have ht := take_any g B l bad 4 W h (.inl (by omega))
  rw [show ((4 : Nat) : Int) = 4 from rfl] at ht
  have hlen := tOut_len l bad 4
  have hlt : bigL (tOut l bad 4) < 4294967296 := by
    have := bigL_lt (tOut l bad 4)
    have h2 : 256 ^ (tOut l bad 4).length ≤ 256 ^ 4 := Nat.pow_le_pow_right (by omega) hlen
    omega
  go_enter Try.func46, Try.ntmps46
  go_wp2_with fail
  refine ht.mono ?_
  rintro e W1 ⟨A, c, rfl, hb, -, hf, htn⟩
  have hg := get_any A (tOut l bad 4) c (by omega) W1 hb
  rw [getL_big _ hlen] at hg
  have HF := hid hf
  have HT := hid htn
  clear ht hb hf htn
  go_wp2_with (go_at_call 130; refine hg.mono ?_; rintro e W2 ⟨rfl, hb2⟩)
  go_ret
  exact ⟨rfl, HF.out.below hb2, HT.out.trans (Turn.of_below hb2 (Nat.le_of_lt HF.out.lt))⟩

def txN (l : List UInt8) (bad : Bool) : Nat := bigL (tOut l bad 2)
theorem txN_lt (l : List UInt8) (bad : Bool) : txN l bad < 65536 := by
  have := bigL_lt (tOut l bad 2)
  have h2 : 256 ^ (tOut l bad 2).length ≤ 256 ^ 2 := Nat.pow_le_pow_right (by omega) (tOut_len l bad 2)
  unfold txN; omega

theorem ftext_any (g : Nat) (B : Option Nat) (l : List UInt8) (bad : Bool) (W : World) (h : FormS W g B l bad) :
    Calls Try.prog 48 #[.pointer (some ⟨g, 0, none⟩)] W (RetForm g B (.string (bstr (tOut (tL l bad 2) (tB l bad 2) (txN l bad)))) (tL (tL l bad 2) (tB l bad 2) (txN l bad)) (tB (tL l bad 2) (tB l bad 2) (txN l bad)) W) := by
  have ht := take_any g B l bad 2 W h (.inl (by omega))
  rw [show ((2 : Nat) : Int) = 2 from rfl] at ht
  have hlen := tOut_len l bad 2
  have hlt := txN_lt l bad
  go_enter Try.func48, Try.ntmps48
  go_wp2_with fail
  refine ht.mono ?_
  rintro e W1 ⟨A, c, rfl, hb, hAB, hf, htn⟩
  have hg := get_any A (tOut l bad 2) c (by omega) W1 hb
  rw [getL_big _ (by omega), ← txN] at hg
  have h0 : 0 < txN l bad ∨ B.isSome ∨ tB l bad 2 = true := by
    by_cases hbd : bad = true ∨ l.length < 2
    · right; right
      rcases hbd with h | h
      · simp [tB, h]
      · simp [tB, h]
    · right; left
      have e1 : tOut l bad 2 = l.take 2 := if_neg hbd
      rw [e1] at hb
      obtain ⟨b, off, h1, _⟩ := Bytes.openq hb (by simp; omega)
      rw [hAB b (by rw [h1]; rfl)]
      rfl
  have HF := hid hf
  have HT := hid htn
  have H0 := hid h0
  clear ht hb hf htn h0 hAB
  go_wp2_with fail
  refine hg.mono ?_
  rintro e W2 ⟨rfl, hb2⟩
  have hf2 := HF.out.below hb2
  have ht2 := take_any g B _ _ (txN l bad) W2 hf2 H0.out
  have hlen2 := tOut_len (tL l bad 2) (tB l bad 2) (txN l bad)
  go_wp2_with fail
  refine ht2.mono ?_
  rintro e W3 ⟨A3, c3, rfl, hb3, -, hf3, htn3⟩
  have hcv := cv_bytes c3 hb3
  have HF3 := hid hf3
  have HT3 := hid htn3
  clear ht2 hf3 htn3 hg
  go_wp2
  go_ret
  exact ⟨rfl, HF3.out, (HT.out.trans (Turn.of_below hb2 (Nat.le_of_lt HF.out.lt))).trans HT3.out⟩

def endE (l : List UInt8) (bad : Bool) : Nat := if bad = true then 3 else if 0 < l.length then 2 else 0
theorem fend_any (g : Nat) (B : Option Nat) (l : List UInt8) (bad : Bool) (W : World) (h : FormS W g B l bad) :
    Calls Try.prog 50 #[.pointer (some ⟨g, 0, none⟩)] W fun e W' => e = .returned (.int .i64 (endE l bad : Nat)) ∧ W' = W := by
  obtain ⟨A, c, hF, -, -⟩ := h
  have c1 := hF.bad
  have c0 := hF.slice
  have HF := hid hF
  clear hF
  cases bad with
  | true =>
    go_enter Try.func50, Try.ntmps50
    go_wp2
    go_ret
    exact ⟨rfl, rfl⟩
  | false =>
    by_cases hl : 0 < l.length
    · go_enter Try.func50, Try.ntmps50
      go_wp2
      go_ret
      exact ⟨ret_int (by simp [endE, hl]), rfl⟩
    · go_enter Try.func50, Try.ntmps50
      go_wp2
      go_ret
      exact ⟨ret_int (by simp [endE, hl]), rfl⟩

theorem read_any (A : Option Addr) (l : List UInt8) (c : Nat) (w : World) (hb : Bytes w A l) (hl : l.length ≤ 140737488351232) :
    Calls Try.prog 45 #[.slice A l.length c] w fun e W' => ∃ g B, e = .returned (.pointer (some ⟨g, 0, none⟩)) ∧ FormS W' g B l false ∧ w.heap.size ≤ g ∧ (∀ b, B = some b → w.heap.size ≤ b ∧ b < g) ∧ Below w.heap.size w W' := by
  have hc := clone_any A l c w hb (by omega)
  go_enter Try.func45, Try.ntmps45
  go_wp2_with (go_at_call 129; refine hc.mono ?_; rintro e w1 ⟨A1, c1, rfl, ho, hb1⟩)
  go_ret
  obtain ⟨hle, h2⟩ := id ho
  have hAA : (A1 = none ∨ ∃ b off, A1 = some ⟨b, off, none⟩) ∧ ∀ b, A1.map (·.block) = some b → w.heap.size ≤ b ∧ b < w1.heap.size := by
    rcases h2 with ⟨rfl, _⟩ | ⟨g', cur, rfl, hge, hg, _⟩
    · exact ⟨.inl rfl, fun b h => by simp at h⟩
    · exact ⟨.inr ⟨_, _, rfl⟩, fun b h => by simp at h; subst h; exact ⟨hge, (Array.getElem?_eq_some_iff.1 hg).1⟩⟩
  have hcl := ho.cells.alloc (.cells #[.slice A1 l.length c1, .bool false] 184)
  refine ⟨w1.heap.size, A1.map (·.block), rfl, ⟨A1, c1, ⟨World.alloc_heap_new _ _, hcl, fun b h => Nat.ne_of_lt (hAA.2 b h).2, ho.le.1, hl⟩, rfl, hAA.1⟩, hb1.size, fun b h => hAA.2 b h, hb1.alloc hb1.size _⟩
end Go.Proofs.Ytppbcdcmpcagdaa
