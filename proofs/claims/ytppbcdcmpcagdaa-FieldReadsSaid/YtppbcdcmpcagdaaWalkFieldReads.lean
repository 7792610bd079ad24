/- The law FieldReads returns true at every input: its walk over the contracts of field.Read, of a Form's methods and of the reference's Form. No condition. -/
import Derived.Test.YtppbcdcmpcagdaaField11
import Derived.Deep.RegionHeld3
namespace Go.Proofs.Ytppbcdcmpcagdaa
open Go.RowKit Go.CP

theorem tL_le (l : List UInt8) (bad : Bool) (n : Nat) : (tL l bad n).length ≤ l.length := by
  unfold tL; split
  · exact Nat.le_refl _
  · simp

theorem Cells.openb {w : World} {A : Option Addr} {l : List Bool} (h : Cells w A (l.map Value.bool)) (hj : 0 < l.length) :
    ∃ b off, A = some ⟨b, off, none⟩ ∧ ∀ (j : Nat) (x : Bool), l[j]? = some x → w.cell? ⟨b, off + j, none⟩ = some (.bool x) := by
  obtain ⟨b, off, rfl, hc⟩ := Go.CP.Cells.open h (by simpa using hj)
  exact ⟨b, off, rfl, fun j x hx => hc j _ (by simp [hx])⟩

set_option maxHeartbeats 1000000 in
set_option maxRecDepth 100000 in
theorem fieldReads_walk (w : World) (A : Option Addr) (l : List UInt8) (c : Nat) (K : Option Addr) (ks : List Bool) (d : Nat) (ha : Bytes w A l) (_ : l.length ≤ c) (hl : l.length ≤ 140737488351232)
    (hk : Cells w K (ks.map Value.bool)) (_ : ks.length ≤ d) (hm : ks.length ≤ 140737488351232) :
    Calls Try.prog 4 #[.slice A l.length c, .slice K ks.length d] w fun e w' => e = .returned (.bool true) ∧ Below w.heap.size w w' := by
  have hll : (l.length : Int) ≤ 140737488351232 := by omega
  go_enter Try.func4, Try.ntmps4
  go_wp2_with (at_builtin; refine ap_bytes rfl _ _ 22 rfl w.heap.size rfl (Own.empty w 5 1) rfl (Src.bytes Try.underlying22 (ha.alloc _)) (by omega) (by simp) ?_; intro A1 c1 w1 ho1 hg1)
  simp only [Nat.zero_add, List.nil_append] at ho1
  have hb1 : Below w.heap.size w w1 := Below.of_grown ((World.grownBy_alloc _ _ _).trans hg1) (by simp) (by simp [blockOf])
  have h2 := read_any A1 l c1 w1 ho1.cells hl
  refine h2.mono ?_
  clear h2
  rintro e w2 ⟨g, B, rfl, hf2, hg2, hB2, hb2⟩
  have hb02 := below_t hb1 hb2 hb1.size
  have hcv := cv_bytes c (ha.below hb02 (Nat.le_refl _))
  have HF2 := hid hf2
  clear hf2 ho1
  have hz2 := hb02.size
  have hb03 : Below w.heap.size w (w2.alloc (.cells #[.string (bstr l), .bool false] 36)) := hb02.alloc hz2 _
  have HR3 : Hid (RForm (w2.alloc (.cells #[.string (bstr l), .bool false] 36)) w2.heap.size l false) := hid (heap_alloc_new w2 _)
  have HF3 : Hid (FormS (w2.alloc (.cells #[.string (bstr l), .bool false] 36)) g B l false) := hid (HF2.out.below ((Below.refl _ _).alloc (Nat.le_refl _) _))
  have hgl := HF2.out.lt
  go_wp2_with fail
  go_loopw [7] (fun iv wr => ∃ (i : Nat) (m : List UInt8) (bad : Bool), i ≤ ks.length ∧ i ≤ 60 ∧ m.length ≤ l.length ∧ iv = .int .i64 i ∧ Hid (FormS wr g B m bad) ∧ Hid (RForm wr w2.heap.size m bad) ∧ Below w.heap.size w wr) (fun iv _ => 60 - (intOf iv).toNat)
  case atStart => exact ⟨0, l, false, by omega, by omega, Nat.le_refl _, rfl, HF3, HR3, hb03⟩
  case round =>
    clear HF2 HF3 HR3 hb03 hcv
    obtain ⟨i, m, bad, hi, hi60, hml, rfl, HF, HR, hbel⟩ := hrel
    have hml2 : m.length ≤ 140737488351232 := by omega
    by_cases hlt : i < ks.length
    · by_cases h60 : i < 60
      · obtain ⟨b, off, rfl, hcx⟩ := Cells.openb (Cells.below hk hbel (Nat.le_refl _)) (by omega)
        obtain ⟨x, hx⟩ := get_of_lt ks hlt
        have hd := hcx i x hx
        have HD0 : Hid (w.cell? ⟨b, off + i, none⟩ = some (.bool x)) := by
          obtain ⟨b', off', e1, hc0⟩ := Cells.openb hk (by omega)
          cases e1
          exact hid (hc0 i x hx)
        have HKB : Hid (∀ j, j < ks.length → b < w.heap.size) := hid fun j _ => World.block_lt_of_cell? w _ HD0.out
        clear hcx hx
        cases x with
        | true =>
          go_wp2_with fail
          refine (fnum_any g B m bad wr HF.out).mono ?_
          rintro e w4 ⟨rfl, hf4, ht4⟩
          have hr4 := HR.out.turn ht4 (by omega)
          have hbel4 := hbel.trans (ht4.1.mono (by have := hb1.size; omega))
          go_wp2_with fail
          refine (rnum_any w2.heap.size m bad w4 hr4 hml2).mono ?_
          rintro e w5 ⟨rfl, hr5, ht5⟩
          have HF5 := hid (hf4.turn ht5 (by omega) (fun b hb => by have := hB2 b hb; omega))
          have HR5 := hid hr5
          have hbel5 := hbel4.trans (ht5.1.mono (by have := hb02.size; omega))
          have htl := tL_le m bad 4
          have hd5 : w5.cell? ⟨b, off + i, none⟩ = some (.bool true) := (hbel5.cell (p := ⟨b, off + i, none⟩) (HKB.out i hlt)).trans HD0.out
          clear hf4 ht4 hr4 ht5 hr5
          go_wp2_with fail
          go_roundw
          case rel => exact ⟨i + 1, _, _, by omega, by omega, by omega, by go_num, HF5, HR5, hbel5⟩
          case measure => simp [intOf]; omega
        | false =>
          go_wp2_with fail
          refine (ftext_any g B m bad wr HF.out).mono ?_
          rintro e w4 ⟨rfl, hf4, ht4⟩
          have hr4 := HR.out.turn ht4 (by omega)
          have hbel4 := hbel.trans (ht4.1.mono (by have := hb1.size; omega))
          go_wp2_with fail
          refine (rftext_any w2.heap.size m bad w4 hr4 hml2).mono ?_
          rintro e w5 ⟨rfl, hr5, ht5⟩
          have HF5 := hid (hf4.turn ht5 (by omega) (fun b hb => by have := hB2 b hb; omega))
          have HR5 := hid hr5
          have hbel5 := hbel4.trans (ht5.1.mono (by have := hb02.size; omega))
          have htl := Nat.le_trans (tL_le (tL m bad 2) (tB m bad 2) (txN m bad)) (tL_le m bad 2)
          clear hf4 ht4 hr4 ht5 hr5
          go_wp2_with fail
          go_roundw
          case rel => exact ⟨i + 1, _, _, by omega, by omega, by omega, by go_num, HF5, HR5, hbel5⟩
          case measure => simp [intOf]; omega
      · obtain rfl : i = 60 := by omega
        have hm0 : m = [] ∨ ∃ x m', m = x :: m' := by cases m; exact .inl rfl; exact .inr ⟨_, _, rfl⟩
        have c0 := HR.out.c0
        have c1 := HR.out.c1
        have hgw := HF.out.lt
        cases bad with
        | true =>
          go_wp2_with fail
          refine (awake_any _).mono ?_
          rintro e w6 ⟨rfl, hb6⟩
          have hb06 := below_t hbel hb6 hbel.size
          have he := fend_any g B m true w6 (HF.out.below hb6)
          rw [show endE m true = 3 from rfl] at he
          go_wp2_with fail
          refine he.mono ?_
          rintro e w7 ⟨rfl, rfl⟩
          go_wp2_with fail
          refine (num_nil _).mono ?_
          rintro e w8 ⟨rfl, hb8⟩
          have hb08 := below_t hb06 hb8 hb06.size
          go_wp2_with fail
          refine (text_nil _).mono ?_
          rintro e w9 ⟨rfl, hb9⟩
          have hb09 := below_t hb08 hb9 hb08.size
          go_wp2_with fail
          refine (end_nil _).mono ?_
          rintro e w10 ⟨rfl, rfl⟩
          go_wp2
          go_ret
          exact ⟨rfl, hb09⟩
        | false =>
          rcases hm0 with rfl | ⟨x, m', rfl⟩
          · have he := fun w6 (hb6 : Below wr.heap.size wr w6) => fend_any g B [] false w6 (HF.out.below hb6)
            rw [show endE [] false = 0 from rfl] at he
            have HE := hid he
            clear he
            go_wp2_with fail
            refine (awake_any _).mono ?_
            rintro e w6 ⟨rfl, hb6⟩
            have hb06 := below_t hbel hb6 hbel.size
            go_wp2_with fail
            refine (HE.out w6 hb6).mono ?_
            rintro e w7 ⟨rfl, rfl⟩
            go_wp2_with fail
            refine (num_nil _).mono ?_
            rintro e w8 ⟨rfl, hb8⟩
            have hb08 := below_t hb06 hb8 hb06.size
            go_wp2_with fail
            refine (text_nil _).mono ?_
            rintro e w9 ⟨rfl, hb9⟩
            have hb09 := below_t hb08 hb9 hb08.size
            go_wp2_with fail
            refine (end_nil _).mono ?_
            rintro e w10 ⟨rfl, rfl⟩
            go_wp2
            go_ret
            exact ⟨rfl, hb09⟩
          · have he := fun w6 (hb6 : Below wr.heap.size wr w6) => fend_any g B (x :: m') false w6 (HF.out.below hb6)
            rw [show endE (x :: m') false = 2 from rfl] at he
            have HE := hid he
            clear he
            go_wp2_with fail
            refine (awake_any _).mono ?_
            rintro e w6 ⟨rfl, hb6⟩
            have hb06 := below_t hbel hb6 hbel.size
            go_wp2_with fail
            refine (HE.out w6 hb6).mono ?_
            rintro e w7 ⟨rfl, rfl⟩
            go_wp2_with fail
            refine (num_nil _).mono ?_
            rintro e w8 ⟨rfl, hb8⟩
            have hb08 := below_t hb06 hb8 hb06.size
            go_wp2_with fail
            refine (text_nil _).mono ?_
            rintro e w9 ⟨rfl, hb9⟩
            have hb09 := below_t hb08 hb9 hb08.size
            go_wp2_with fail
            refine (end_nil _).mono ?_
            rintro e w10 ⟨rfl, rfl⟩
            go_wp2
            go_ret
            exact ⟨rfl, hb09⟩
    · obtain rfl : i = ks.length := by omega
      have hm0 : m = [] ∨ ∃ x m', m = x :: m' := by cases m; exact .inl rfl; exact .inr ⟨_, _, rfl⟩
      have c0 := HR.out.c0
      have c1 := HR.out.c1
      have hgw := HF.out.lt
      cases bad with
      | true =>
        go_wp2_with fail
        refine (awake_any _).mono ?_
        rintro e w6 ⟨rfl, hb6⟩
        have hb06 := below_t hbel hb6 hbel.size
        have he := fend_any g B m true w6 (HF.out.below hb6)
        rw [show endE m true = 3 from rfl] at he
        go_wp2_with fail
        refine he.mono ?_
        rintro e w7 ⟨rfl, rfl⟩
        go_wp2_with fail
        refine (num_nil _).mono ?_
        rintro e w8 ⟨rfl, hb8⟩
        have hb08 := below_t hb06 hb8 hb06.size
        go_wp2_with fail
        refine (text_nil _).mono ?_
        rintro e w9 ⟨rfl, hb9⟩
        have hb09 := below_t hb08 hb9 hb08.size
        go_wp2_with fail
        refine (end_nil _).mono ?_
        rintro e w10 ⟨rfl, rfl⟩
        go_wp2
        go_ret
        exact ⟨rfl, hb09⟩
      | false =>
        rcases hm0 with rfl | ⟨x, m', rfl⟩
        · have he := fun w6 (hb6 : Below wr.heap.size wr w6) => fend_any g B [] false w6 (HF.out.below hb6)
          rw [show endE [] false = 0 from rfl] at he
          have HE := hid he
          clear he
          go_wp2_with fail
          refine (awake_any _).mono ?_
          rintro e w6 ⟨rfl, hb6⟩
          have hb06 := below_t hbel hb6 hbel.size
          go_wp2_with fail
          refine (HE.out w6 hb6).mono ?_
          rintro e w7 ⟨rfl, rfl⟩
          go_wp2_with fail
          refine (num_nil _).mono ?_
          rintro e w8 ⟨rfl, hb8⟩
          have hb08 := below_t hb06 hb8 hb06.size
          go_wp2_with fail
          refine (text_nil _).mono ?_
          rintro e w9 ⟨rfl, hb9⟩
          have hb09 := below_t hb08 hb9 hb08.size
          go_wp2_with fail
          refine (end_nil _).mono ?_
          rintro e w10 ⟨rfl, rfl⟩
          go_wp2
          go_ret
          exact ⟨rfl, hb09⟩
        · have he := fun w6 (hb6 : Below wr.heap.size wr w6) => fend_any g B (x :: m') false w6 (HF.out.below hb6)
          rw [show endE (x :: m') false = 2 from rfl] at he
          have HE := hid he
          clear he
          go_wp2_with fail
          refine (awake_any _).mono ?_
          rintro e w6 ⟨rfl, hb6⟩
          have hb06 := below_t hbel hb6 hbel.size
          go_wp2_with fail
          refine (HE.out w6 hb6).mono ?_
          rintro e w7 ⟨rfl, rfl⟩
          go_wp2_with fail
          refine (num_nil _).mono ?_
          rintro e w8 ⟨rfl, hb8⟩
          have hb08 := below_t hb06 hb8 hb06.size
          go_wp2_with fail
          refine (text_nil _).mono ?_
          rintro e w9 ⟨rfl, hb9⟩
          have hb09 := below_t hb08 hb9 hb08.size
          go_wp2_with fail
          refine (end_nil _).mono ?_
          rintro e w10 ⟨rfl, rfl⟩
          go_wp2
          go_ret
          exact ⟨rfl, hb09⟩
end Go.Proofs.Ytppbcdcmpcagdaa
