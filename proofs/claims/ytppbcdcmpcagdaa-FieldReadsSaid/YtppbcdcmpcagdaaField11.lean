/- Contracts of the reference's Form (Num, Text) and of a Form that is none. -/
import Derived.Test.YtppbcdcmpcagdaaField10
namespace Go.Proofs.Ytppbcdcmpcagdaa
open Go.RowKit Go.CP

/-- A Form of the reference at block h over the text l. -/
def RForm (W : World) (h : Nat) (l : List UInt8) (bad : Bool) : Prop := W.heap[h]? = some (.cells #[.string (bstr l), .bool bad] 36 (0, 0))
theorem RForm.c0 {W : World} {h : Nat} {l : List UInt8} {bad : Bool} (k : RForm W h l bad) : W.cell? ⟨h, 0, none⟩ = some (.string (bstr l)) := by
  simp [World.cell?, show W.heap[h]? = _ from k]
theorem RForm.c1 {W : World} {h : Nat} {l : List UInt8} {bad : Bool} (k : RForm W h l bad) : W.cell? ⟨h, 1, none⟩ = some (.bool bad) := by
  simp [World.cell?, show W.heap[h]? = _ from k]
theorem RForm.fr {W : World} {h : Nat} {l : List UInt8} {bad : Bool} (k : RForm W h l bad) (j : Nat) : W.frozen? ⟨h, j, none⟩ = false := by
  simp [World.frozen?, show W.heap[h]? = _ from k]
theorem RForm.lt {W : World} {h : Nat} {l : List UInt8} {bad : Bool} (k : RForm W h l bad) : h < W.heap.size := (Array.getElem?_eq_some_iff.1 k).1
theorem RForm.setBad {W : World} {h : Nat} {l : List UInt8} {bad : Bool} (k : RForm W h l bad) : RForm (W.setCell ⟨h, 1, none⟩ (.bool true)) h l true := by
  rw [RForm, heap_setCell_at _ _ _ _ _ _ k]; rfl
theorem RForm.setText {W : World} {h : Nat} {l : List UInt8} {bad : Bool} (k : RForm W h l bad) (l' : List UInt8) : RForm (W.setCell ⟨h, 0, none⟩ (.string (bstr l'))) h l' bad := by
  rw [RForm, heap_setCell_at _ _ _ _ _ _ k]; rfl
theorem RForm.turn {W W' : World} {h g : Nat} {l : List UInt8} {bad : Bool} (k : RForm W h l bad) (ht : Turn g W W') (hne : h ≠ g) : RForm W' h l bad := (ht.2.2 h k.lt hne).trans k
theorem RForm.below {B : Nat} {W W' : World} {h : Nat} {l : List UInt8} {bad : Bool} (k : RForm W h l bad) (hb : Below B W W') (hB : h < B) : RForm W' h l bad := (hb.block h hB).trans k

def RetRForm (h : Nat) (v : Value) (l : List UInt8) (bad : Bool) (W : World) (e : Ending) (W' : World) : Prop := e = .returned v ∧ RForm W' h l bad ∧ Turn h W W'

theorem ext_take (l : List UInt8) (k : Nat) : (bstr l).extract 0 k = bstr (l.take k) := by
  rw [ext_bstr]; simp
theorem ext_drop (l : List UInt8) (k : Nat) : (bstr l).extract k (bstr l).size = bstr (l.drop k) := by
  rw [ext_bstr, bstr_size]
  congr 2
  rw [List.take_of_length_le (by simp)]

set_option maxHeartbeats 1000000 in
set_option maxRecDepth 100000 in
theorem rnum_any (h : Nat) (l : List UInt8) (bad : Bool) (W : World) (k : RForm W h l bad) (hl : l.length ≤ 140737488351232) :
    Calls Try.prog 47 #[.pointer (some ⟨h, 0, none⟩)] W (RetRForm h (.int .i64 (bigL (tOut l bad 4) : Nat)) (tL l bad 4) (tB l bad 4) W) := by
  have c0 := k.c0
  have c1 := k.c1
  have hf0 := k.fr 0
  have hf1 := k.fr 1
  have hs := bstr_size l
  have K := hid k
  clear k
  cases bad with
  | true =>
    clear hs
    go_enter Try.func47, Try.ntmps47
    go_wp2
    go_ret
    exact ⟨rfl, K.out.setBad, Turn.setCell _ _ _ _⟩
  | false =>
    by_cases h4 : l.length < 4
    · have hq : decide ((l.length : Int) < 4) = true := by simp; omega
      have e1 : tOut l false 4 = [] := if_pos (.inr h4)
      have e2 : tL l false 4 = l := if_pos (.inr h4)
      have e3 : tB l false 4 = true := by simp [tB, h4]
      rw [e1, e2, e3]
      clear hs e1 e2 e3
      go_enter Try.func47, Try.ntmps47
      go_wp2
      go_ret
      exact ⟨rfl, K.out.setBad, Turn.setCell _ _ _ _⟩
    · have hq : decide ((l.length : Int) < 4) = false := by simp; omega
      have e1 : tOut l false 4 = l.take 4 := if_neg (by simp; omega)
      have e2 : tL l false 4 = l.drop 4 := if_neg (by simp; omega)
      have e3 : tB l false 4 = false := by simp [tB]; omega
      have hbg := big_any (bstr (l.take 4)) W (by rw [bstr_size, List.length_take]; omega)
      rw [← ext_take] at hbg
      have HB := hid hbg
      have hl4 : 4 ≤ l.length := by omega
      rw [e1, e2, e3]
      clear hs e1 e2 e3 hbg
      go_enter Try.func47, Try.ntmps47
      go_wp2_with fail
      refine HB.out.mono ?_
      rintro e w1 ⟨rfl, rfl⟩
      go_wp2_with fail
      go_ret
      have h2 := K.out.setText (l.drop 4)
      rw [← ext_drop] at h2
      exact ⟨rfl, h2, Turn.setCell _ _ _ _⟩

set_option maxHeartbeats 1000000 in
set_option maxRecDepth 100000 in
theorem rftext_any (h : Nat) (l : List UInt8) (bad : Bool) (W : World) (k : RForm W h l bad) (hl : l.length ≤ 140737488351232) :
    Calls Try.prog 49 #[.pointer (some ⟨h, 0, none⟩)] W (RetRForm h (.string (bstr (tOut (tL l bad 2) (tB l bad 2) (txN l bad)))) (tL (tL l bad 2) (tB l bad 2) (txN l bad)) (tB (tL l bad 2) (tB l bad 2) (txN l bad)) W) := by
  have c0 := k.c0
  have c1 := k.c1
  have hf0 := k.fr 0
  have hf1 := k.fr 1
  have K := hid k
  clear k
  have hbad : ∀ (l : List UInt8) (n : Nat), tOut l true n = [] ∧ tL l true n = l ∧ tB l true n = true := fun l n => ⟨if_pos (.inl rfl), if_pos (.inl rfl), rfl⟩
  by_cases hb2 : bad = true ∨ l.length < 2
  · have e2 : tL l bad 2 = l := if_pos hb2
    have e3 : tB l bad 2 = true := by rcases hb2 with h | h <;> simp [tB, h]
    rw [e2, e3, (hbad _ _).1, (hbad _ _).2.1, (hbad _ _).2.2]
    cases bad with
    | true =>
      clear hbad e2 e3 hb2
      go_enter Try.func49, Try.ntmps49
      go_wp2
      go_ret
      exact ⟨rfl, K.out.setBad, Turn.setCell _ _ _ _⟩
    | false =>
      have h2 : l.length < 2 := by simpa using hb2
      have hq : decide ((l.length : Int) < 2) = true := by simp; omega
      clear hbad e2 e3 hb2
      go_enter Try.func49, Try.ntmps49
      go_wp2
      go_ret
      exact ⟨rfl, K.out.setBad, Turn.setCell _ _ _ _⟩
  · obtain rfl : bad = false := by cases bad; rfl; simp at hb2
    have h2 : 2 ≤ l.length := by simp at hb2; omega
    have hq : decide ((l.length : Int) < 2) = false := by simp; omega
    have e1 : tOut l false 2 = l.take 2 := if_neg hb2
    have e2 : tL l false 2 = l.drop 2 := if_neg hb2
    have e3 : tB l false 2 = false := by simp [tB]; omega
    have hn : txN l false = bigL (l.take 2) := by rw [txN, e1]
    have hbg := big_any (bstr (l.take 2)) W (by rw [bstr_size, List.length_take]; omega)
    rw [show (bstr (l.take 2)).data.toList = l.take 2 from rfl, ← hn, ← ext_take] at hbg
    rw [e2, e3]
    have HB := hid hbg
    have hnl := txN_lt l false
    obtain ⟨D, hD⟩ : ∃ D, bstr (l.drop 2) = D := ⟨_, rfl⟩
    have hd : (bstr l).extract 2 l.length = D := (ext_drop l 2).trans hD
    have hds : D.size = l.length - 2 := by rw [← hD, bstr_size, List.length_drop]
    have hdl : (l.drop 2).length = l.length - 2 := List.length_drop
    have HD := hid hD
    have HDS := hid hds
    generalize txN l false = n at *
    have hnl2 : (n : Int) ≤ 65535 := by omega
    have hf2 : ∀ v, (W.setCell ⟨h, 0, none⟩ v).frozen? ⟨h, 0, none⟩ = false := fun v => by rw [World.frozen?_setCell]; exact hf0
    by_cases h3 : l.length - 2 < n
    · have hq2 : D.size < n := by omega
      have e1 : tOut (l.drop 2) false n = [] := if_pos (.inr (by omega))
      have e2 : tL (l.drop 2) false n = l.drop 2 := if_pos (.inr (by omega))
      have e3 : tB (l.drop 2) false n = true := by simp [tB]; omega
      rw [e1, e2, e3]
      clear hbad e1 e2 e3 hb2 hn hbg hD hds hdl h3
      go_enter Try.func49, Try.ntmps49
      go_wp2_with fail
      refine HB.out.mono ?_
      rintro e w1 ⟨rfl, rfl⟩
      go_wp2_with fail
      go_ret
      have k3 : RForm (w1.setCell ⟨h, 0, none⟩ (.string D)) h (l.drop 2) false := by
        have := K.out.setText (l.drop 2); rwa [HD.out] at this
      exact ⟨rfl, k3.setBad, (Turn.setCell _ _ _ _).trans (Turn.setCell _ _ _ _)⟩
    · have hq2 : ¬ D.size < n := by omega
      have e1 : tOut (l.drop 2) false n = (l.drop 2).take n := if_neg (by simp; omega)
      have e2 : tL (l.drop 2) false n = (l.drop 2).drop n := if_neg (by simp; omega)
      have e3 : tB (l.drop 2) false n = false := by simp [tB]; omega
      have hnd : n ≤ D.size := by omega
      rw [e1, e2, e3]
      clear hbad e1 e2 e3 hb2 hn hbg hD hds hdl h3
      go_enter Try.func49, Try.ntmps49
      go_wp2_with fail
      refine HB.out.mono ?_
      rintro e w1 ⟨rfl, rfl⟩
      go_wp2_with fail
      go_ret
      have k3 : RForm (w1.setCell ⟨h, 0, none⟩ (.string D)) h (l.drop 2) false := by
        have := K.out.setText (l.drop 2); rwa [HD.out] at this
      have k4 := k3.setText ((l.drop 2).drop n)
      have x1 := ext_drop (l.drop 2) n
      have x2 := ext_take (l.drop 2) n
      rw [HD.out] at x1 x2
      rw [← x1] at k4
      refine ⟨?_, k4, (Turn.setCell _ _ _ _).trans (Turn.setCell _ _ _ _)⟩
      rw [← x2]; rfl

/-- A Form that is none: no bytes, no number, no text. -/
def TakeNil (W : World) (e : Ending) (W' : World) : Prop := e = .returned (.slice none 0 0) ∧ W' = W
set_option maxRecDepth 100000 in
theorem take_nil (n : Int) (W : World) : Calls Try.prog 131 #[.pointer none, .int .i64 n] W (TakeNil W) := by
  go_enter Try.func131, Try.ntmps131
  go_wp2_with (refine wp_scope_jumps 0 (fun a' w' => w' = W ∧ ∃ u3 u4 u5 u6 u7 u8 u9 u10 u11 u12 u13 u14 u15 u16 u17 u18 u19 u20 u21 u22 u23 u24 u25 u26 u27 u28 u29 u30 u31 u32 u33 u34 u35 u36 u37 u38 u39 : Value, a' = { tmps := #[.pointer none, .int .i64 n, undef, u3, u4, u5, u6, u7, u8, u9, u10, u11, u12, u13, u14, u15, u16, u17, u18, u19, u20, u21, u22, u23, u24, u25, u26, u27, u28, u29, u30, u31, u32, u33, u34, u35, u36, u37, u38, u39], defers := [] }) (fun _ _ => 0) rfl ?_ ?_)
  case refine_2 =>
    intro a' u3 u4 u5 u6 u7 u8 u9 u10 u11 u12 u13 u14 u15 u16 u17 u18 u19 u20 u21 u22 u23 u24 u25 u26 u27 u28 u29 u30 u31 u32 u33 u34 u35 u36 u37 u38 u39 ha
    subst ha
    go_wp2
    simp only [Exit.jump]
    go_ret
    exact ⟨rfl, rfl⟩
  go_step3
  exact ⟨rfl, rfl, _, _, _, _, _, _, _, _, _, _, _, _, _, _, _, _, _, _, _, _, _, _, _, _, _, _, _, _, _, _, _, _, _, _, _, _, _, rfl⟩

theorem num_nil (W : World) : Calls Try.prog 46 #[.pointer none] W fun e w' => e = .returned (.int .i64 0) ∧ Below W.heap.size W w' := by
  have hg := get_any none [] 0 (by simp) W (Cells.nil _ _)
  rw [show ((getL []).toNat : Int) = 0 from rfl, show ([] : List UInt8).length = 0 from rfl] at hg
  go_enter Try.func46, Try.ntmps46
  go_wp2_with fail
  refine (take_nil _ _).mono ?_
  rintro e w1 ⟨rfl, rfl⟩
  go_wp2_with fail
  refine hg.mono ?_
  rintro e w2 ⟨rfl, hb⟩
  go_wp2
  go_ret
  exact ⟨rfl, hb⟩
theorem text_nil (W : World) : Calls Try.prog 48 #[.pointer none] W fun e w' => e = .returned (.string (bstr [])) ∧ Below W.heap.size W w' := by
  have hg := get_any none [] 0 (by simp) W (Cells.nil _ _)
  rw [show ((getL []).toNat : Int) = 0 from rfl, show ([] : List UInt8).length = 0 from rfl] at hg
  go_enter Try.func48, Try.ntmps48
  go_wp2_with fail
  refine (take_nil _ _).mono ?_
  rintro e w1 ⟨rfl, rfl⟩
  go_wp2_with fail
  refine hg.mono ?_
  rintro e w2 ⟨rfl, hb⟩
  have hc := cv_none w2
  go_wp2_with fail
  refine (take_nil _ _).mono ?_
  rintro e w1 ⟨rfl, rfl⟩
  go_wp2
  go_ret
  exact ⟨rfl, hb⟩
theorem end_nil (W : World) : Calls Try.prog 50 #[.pointer none] W fun e w' => e = .returned (.int .i64 1) ∧ w' = W := by
  go_enter Try.func50, Try.ntmps50
  go_wp2
  go_ret
  exact ⟨rfl, rfl⟩
end Go.Proofs.Ytppbcdcmpcagdaa
