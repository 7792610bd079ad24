/- The law TreePointers returns true at every input: its walk over the contracts of tree.Encode and Decode. No condition. -/
import Derived.Test.YtafofpnfpkbfpaaWalkTreeBack
import Derived.Deep.DeepCutAuto
import Derived.Deep.CutBlock
namespace Go.Proofs.Ytafofpnfpkbfpaa
open Go.RowKit Go.CP

def goodL (l : List Int) : Bool := decide (l.length = 8) && !badB l

/-- What Encode comes to. -/
def Enc1 (l : List Int) (w : World) : Ending → World → Prop :=
  fun e w' => (goodL l = true ∧ RetOwn2 w 5 1 128 ((encP l).map bv) (.int .i64 0) e w') ∨ (goodL l = false ∧ e = .returned (.tuple #[.slice none 0 0, .int .i64 1]) ∧ w' = w)
theorem encode_one (A : Option Addr) (l : List Int) (c : Nat) (w : World) (ha : Ints w A l) (hl : l.length ≤ 140737488351232) :
    Calls Try.prog 16 #[.slice A l.length c] w (Enc1 l w) := by
  cases hg : goodL l with
  | true =>
    have h : l.length = 8 ∧ badB l = false := by simpa [goodL] using hg
    exact (encode_ok A l c w ha h.1 h.2).mono fun e w' h => .inl ⟨hg, h⟩
  | false =>
    have h : l.length ≠ 8 ∨ badB l = true := by
      by_cases h8 : l.length = 8
      · right; simpa [goodL, h8] using hg
      · exact .inl h8
    exact (encode_err A l c w ha hl h).mono fun e w' h => .inr ⟨hg, h⟩

def want (l : List Int) (i : Nat) : List UInt8 := enc2 (l.take i) ++ List.replicate (128 - 2 * i) 0
theorem want_len (l : List Int) (i : Nat) (h : l.length = 8) (hi : i ≤ 8) : (want l i).length = 128 := by simp [want, enc2_len, List.length_take]; omega
theorem want_zero (l : List Int) : want l 0 = List.replicate 128 0 := by simp [want, enc2]
theorem want_set (l : List Int) (i : Nat) (x : Int) (hx : l[i]? = some x) (h8 : l.length = 8) :
    (((want l i).map bv).set (2 * i) (.int .u8 (x % 256))).set (2 * i + 1) (.int .u8 (x / 256 % 256)) = (want l (i + 1)).map bv := by
  have hi := (List.getElem?_eq_some_iff.1 hx).1
  have hlen : (enc2 (l.take i)).length = 2 * i := by rw [enc2_len, List.length_take]; omega
  rw [want, want, enc2_snoc hx, ← u8i_toNat, ← u8i_toNat, ← List.map_set (f := bv), ← List.map_set (f := bv)]
  congr 1
  have := set_two (enc2 (l.take i)) (128 - 2 * (i + 1)) (u8i x) (u8i (x / 256))
  rw [hlen] at this
  rw [show 128 - 2 * i = 128 - 2 * (i + 1) + 2 from by omega]
  exact this
def okB (l : List Int) (i : Nat) : Bool := decide (l.length = 8) && !badB (l.take i)
theorem okB_zero (l : List Int) : okB l 0 = decide (l.length = 8) := by simp [okB, badB]
theorem badB_more {l : List Int} {i : Nat} {x : Int} (h : l[i]? = some x) : badB (l.take (i + 1)) = (badB (l.take i) || !ptrB x) := by
  rw [take_snoc h, badB, badB, List.any_append]
  simp
theorem ptr_le (x : Int) : ptrB x = (x == 0 || (decide (43 ≤ x) && decide (x ≤ 1023))) := by
  unfold ptrB
  congr 2
  simp
  omega

set_option maxRecDepth 100000 in
theorem tp_good (w : World) (A : Option Addr) (l : List Int) (c : Nat) (B : Option Addr) (b : List UInt8) (cb : Nat) (ha : Ints w A l) (hl : l.length ≤ 140737488351232) (hb : Bytes w B b) (hg : goodL l = true) :
    Calls Try.prog 4 #[.slice A l.length c, .slice B b.length cb] w fun e w' => e = .returned (.bool true) ∧ Below w.heap.size w w' := by
  have hgg : l.length = 8 ∧ badB l = false := by simpa [goodL] using hg
  have HG := hid hgg
  have hq8 : ((l.length : Int) == 8) = true := by simp; omega
  have he := encode_ok A l c w ha hgg.1 hgg.2
  clear hg hgg
  go_enter Try.func4, Try.ntmps4
  go_upto_block 0 with (first
    | (go_at_call 16; refine he.mono ?_; clear he; rintro e w1 ⟨A1, c1, rfl, ho1, hb1⟩)
    | (at_make; refine mk_bytes (m := 128) rfl _ _ rfl rfl rfl (by omega) ?_; intro w2 ho2 hg2 hz2))
  have hb12 : Below w1.heap.size w1 w2 := Below.of_grown hg2 (Nat.le_refl _) (by simp)
  go_cut [7] (fun s7 wx => s7 = .bool true ∧ Own wx w1.heap.size 5 1 (some ⟨w1.heap.size, 0, none⟩) 128 128 ((want l 8).map bv) ∧ Below w1.heap.size w1 wx)
  case first =>
    go_wp2_with fail
    go_loopw [7, 9] (fun kv iv wr => ∃ i : Nat, i ≤ 8 ∧ kv = .bool true ∧ iv = .int .i64 i ∧ Own wr w1.heap.size 5 1 (some ⟨w1.heap.size, 0, none⟩) 128 128 ((want l i).map bv) ∧ Below w1.heap.size w1 wr) (fun _ iv _ => 8 - (intOf iv).toNat)
    case atStart => exact ⟨0, by omega, rfl, rfl, by rw [want_zero]; exact ho2, hb12⟩
    case round =>
      clear ho2 hg2 hz2 hb12
      obtain ⟨i, hi, rfl, rfl, ho, hbel⟩ := hrel
      by_cases hlt : i < 8
      · have hll : i < l.length := by rw [HG.out.1]; exact hlt
        obtain ⟨b1, o1, rfl, hc1⟩ := Ints.openq ((ha.below hb1 (Nat.le_refl _)).below hbel (Nat.le_refl _)) (by omega)
        obtain ⟨x, hx⟩ := get_of_lt l hll
        have hd1 := hc1 i x hx
        have hpx : ptrB x = true := by
          have := HG.out.2
          unfold badB at this
          rw [List.any_eq_false] at this
          simpa using this x (List.mem_of_getElem? hx)
        have hxr := ptr_range hpx
        have HX := hid hx
        have hfr1 := ho.free rfl (2 * i)
        have hfr2 := ho.free rfl (2 * i + 1)
        have hcs := Own.cells ho
        obtain ⟨g', off', e1, hc2⟩ := Bytes.openq hcs (by rw [want_len l i HG.out.1 hi]; omega)
        cases e1
        obtain ⟨y1, hy1⟩ := get_of_lt (want l i) (i := 2 * i) (by rw [want_len l i HG.out.1 hi]; omega)
        obtain ⟨y2, hy2⟩ := get_of_lt (want l i) (i := 2 * i + 1) (by rw [want_len l i HG.out.1 hi]; omega)
        have hd2 := hc2 _ _ hy1
        have hd3 := hc2 _ _ hy2
        simp only [Nat.zero_add] at hd2 hd3
        have hne : b1 ≠ w1.heap.size := by
          have h1 := Ints.openq ha (by omega)
          obtain ⟨b', o', h1, h2⟩ := h1
          cases h1
          have hlt2 := World.block_lt_of_cell? w _ (h2 i x hx)
          have := hb1.size
          simp at hlt2
          omega
        have hd4 : ∀ v, (wr.setCell ⟨w1.heap.size, 2 * i, none⟩ v).cell? ⟨b1, o1 + i, none⟩ = some (.int .i64 x) := fun v => by
          rw [← hd1]
          simp only [World.cell?]
          rw [Below.heap_setCell _ _ _ _ hne]
        rw [ptr_le] at hpx
        clear hc1 hc2 hx hy1 hy2 hcs
        by_cases h0 : x = 0
        · subst h0
          go_wp2_with fail
          go_roundw
          case rel =>
            refine ⟨i + 1, by omega, by simp, by go_num, ?_, (hbel.setCell (Nat.le_refl _) _).setCell (Nat.le_refl _) _⟩
            have e := want_set l i 0 HX.out HG.out.1
            rw [show (0 : Int) % 256 = 0 from rfl, show (0 : Int) / 256 % 256 = 0 from rfl] at e
            rw [← e]
            exact (ho.set rfl _ _).set rfl _ _
          case measure => simp [intOf]; omega
        · have h0' : (x == 0) = false := by simpa using h0
          have h43 : 43 ≤ x := by simp [h0] at hpx; omega
          have h1023 : x ≤ 1023 := by simp [h0] at hpx; omega
          clear hpx h0
          go_wp2_with fail
          go_roundw
          case rel =>
            refine ⟨i + 1, by omega, by simp, by go_num, ?_, (hbel.setCell (Nat.le_refl _) _).setCell (Nat.le_refl _) _⟩
            have e := want_set l i x HX.out HG.out.1
            rw [show x / 256 % 256 = x / 256 from by omega] at e
            rw [← e]
            exact (ho.set rfl _ _).set rfl _ _
          case measure => simp [intOf]; omega
      · obtain rfl : i = 8 := by omega
        have h8 : ¬ ((8 : Nat) : Int) < l.length := by have := HG.out.1; omega
        rw [show ((8 : Nat) : Int) = 8 from rfl] at h8
        go_wp2_with fail
        go_meet
        case rel => exact ⟨rfl, ho, hbel⟩
  case rest =>
    obtain ⟨rfl, ho, hbel⟩ := hcut
    have hw8 : want l 8 = encP l := by
      have := HG.out.1
      rw [want, encP, List.take_of_length_le (by omega), this]
    have hel := encP_len l HG.out.1
    rw [hw8] at ho
    have hcv1 := run_bytes_string (P := Try.prog) (src := 31) (dst := 9) Try.underlying31 Try.underlying5 Try.underlying9 128 ho.cells
    have hcv2 := run_bytes_string (P := Try.prog) (src := 31) (dst := 9) Try.underlying31 Try.underlying5 Try.underlying9 c1 (ho1.cells.below hbel (Nat.le_refl _))
    rw [hel] at hcv1 hcv2
    have hb0x := hb1.trans (hbel.mono hb1.size)
    clear hw8 hel
    go_wp2_with fail
    have hbx : Bytes wc B b := hb.below hb0x (Nat.le_refl _)
    by_cases h128 : b.length = 128
    · have hd := decode_one B b cb wc hbx h128
      refine hd.mono ?_
      clear hd
      rintro e w3 (⟨hok, A3, c3, rfl, ho3, hb3⟩ | ⟨-, rfl, hb3⟩)
      · have hok' : badB (decP b 8) = false ∧ encP (decP b 8) = b := by simpa [decOk] using hok
        have hb03 := hb0x.trans (hb3.mono hb0x.size)
        have he := encode_ok A3 (decP b 8) c3 w3 ho3.cells (decP_len b 8) hok'.1
        rw [hok'.2, decP_len] at he
        have HE := hid he
        have H128 := hid h128
        clear he hok hok' h128
        go_wp2_with fail
        refine HE.out.mono ?_
        rintro e w4 ⟨A4, c4, rfl, ho4, hb4⟩
        have hb04 := hb03.trans (hb4.mono hb03.size)
        clear HE ho3 hbx
        go_wp2_with fail
        refine (awake11_any _).mono ?_
        rintro e w5 ⟨rfl, hb5⟩
        have hb05 := hb04.trans (hb5.mono hb04.size)
        have hcva := run_bytes_string (P := Try.prog) (src := 31) (dst := 9) Try.underlying31 Try.underlying5 Try.underlying9 c4 (ho4.cells.below hb5 (Nat.le_refl _))
        rw [H128.out] at hcva
        have hcvb := run_bytes_string (P := Try.prog) (src := 31) (dst := 9) Try.underlying31 Try.underlying5 Try.underlying9 cb (hb.below hb05 (Nat.le_refl _))
        go_wp2
        go_ret
        exact ⟨rfl, hb05⟩
      · have hb03 := hb0x.trans (hb3.mono hb0x.size)
        clear h128 hbx hb3
        go_wp2_with (go_at_call 14; refine (awake11_any _).mono ?_; rintro e w4 ⟨rfl, hb4⟩)
        go_ret
        exact ⟨rfl, hb03.trans (hb4.mono hb03.size)⟩
    · have hd := decode_len B b.length cb wc h128
      refine hd.mono ?_
      clear hd
      rintro e w3 ⟨rfl, hb3⟩
      have hb03 := hb0x.trans (hb3.mono hb0x.size)
      clear h128 hbx hb3
      go_wp2_with (go_at_call 14; refine (awake11_any _).mono ?_; rintro e w4 ⟨rfl, hb4⟩)
      go_ret
      exact ⟨rfl, hb03.trans (hb4.mono hb03.size)⟩

set_option maxRecDepth 100000 in
theorem tp_bad (w : World) (A : Option Addr) (l : List Int) (c : Nat) (B : Option Addr) (b : List UInt8) (cb : Nat) (ha : Ints w A l) (hl : l.length ≤ 140737488351232) (hb : Bytes w B b) (hg : goodL l = false) :
    Calls Try.prog 4 #[.slice A l.length c, .slice B b.length cb] w fun e w' => e = .returned (.bool true) ∧ Below w.heap.size w w' := by
  have hor : l.length ≠ 8 ∨ badB l = true := by
    by_cases h8 : l.length = 8
    · right; simpa [goodL, h8] using hg
    · exact .inl h8
  have he := encode_err A l c w ha hl hor
  have HOR := hid hor
  have hq8 : ((l.length : Int) == 8) = decide (l.length = 8) := by
    by_cases h : l.length = 8
    · simp [h]
    · rw [decide_eq_false h, beq_eq_false_iff_ne]; omega
  clear hor hg
  go_enter Try.func4, Try.ntmps4
  go_upto_block 0 with (first
    | (go_at_call 16; refine he.mono ?_; clear he; rintro e w1 ⟨rfl, rfl⟩)
    | (at_make; refine mk_bytes (m := 128) rfl _ _ rfl rfl rfl (by omega) ?_; intro w2 ho2 hg2 hz2))
  have hb12 : Below w1.heap.size w1 w2 := Below.of_grown hg2 (Nat.le_refl _) (by simp)
  go_cut [7] (fun s7 wx => s7 = .bool false ∧ Below w1.heap.size w1 wx)
  case first =>
    go_wp2_with fail
    go_loopw [7, 9] (fun kv iv wr => ∃ i : Nat, i ≤ l.length ∧ kv = .bool (okB l i) ∧ iv = .int .i64 i ∧ Own wr w1.heap.size 5 1 (some ⟨w1.heap.size, 0, none⟩) 128 128 ((want l i).map bv) ∧ Below w1.heap.size w1 wr) (fun _ iv _ => l.length - (intOf iv).toNat)
    case atStart => exact ⟨0, by omega, by rw [okB_zero], rfl, by rw [want_zero]; exact ho2, hb12⟩
    case round =>
      clear ho2 hg2 hz2 hb12
      obtain ⟨i, hi, rfl, rfl, ho, hbel⟩ := hrel
      cases hk : okB l i with
      | false =>
        have hsplit : i < l.length ∨ i = l.length := by omega
        rcases hsplit with hlt | rfl
        all_goals
          go_wp2_with fail
          go_meet
          case rel => exact ⟨rfl, hbel⟩
      | true =>
        have hkk := hk
        rw [okB, Bool.and_eq_true] at hkk
        obtain ⟨h8, hk'⟩ := hkk
        have h8 := of_decide_eq_true h8
        have hi8 : i ≤ 8 := by omega
        simp only [Bool.not_eq_true'] at hk'
        have hlt : i < 8 := by
          rcases HOR.out with h | h
          · exact absurd h8 h
          · have : i ≠ 8 := fun e => by rw [List.take_of_length_le (by omega)] at hk'; rw [h] at hk'; cases hk'
            omega
        have H8 := hid h8
        have HK := hid hk'
        clear h8 hk'
        have hll : i < l.length := by rw [H8.out]; exact hlt
        obtain ⟨b1, o1, rfl, hc1⟩ := Ints.openq (ha.below hbel (Nat.le_refl _)) (by omega)
        obtain ⟨x, hx⟩ := get_of_lt l hll
        have hd1 := hc1 i x hx
        have HX := hid hx
        have hfr1 := ho.free rfl (2 * i)
        have hfr2 := ho.free rfl (2 * i + 1)
        have hcs := Own.cells ho
        obtain ⟨g', off', e1, hc2⟩ := Bytes.openq hcs (by rw [want_len l i H8.out hi8]; omega)
        cases e1
        obtain ⟨y1, hy1⟩ := get_of_lt (want l i) (i := 2 * i) (by rw [want_len l i H8.out hi8]; omega)
        obtain ⟨y2, hy2⟩ := get_of_lt (want l i) (i := 2 * i + 1) (by rw [want_len l i H8.out hi8]; omega)
        have hd2 := hc2 _ _ hy1
        have hd3 := hc2 _ _ hy2
        simp only [Nat.zero_add] at hd2 hd3
        have hne : b1 ≠ w1.heap.size := by
          have h1 := Ints.openq ha (by omega)
          obtain ⟨b', o', h1, h2⟩ := h1
          cases h1
          have hlt2 := World.block_lt_of_cell? w1 _ (h2 i x hx)
          skip
          simp at hlt2
          omega
        have hd4 : ∀ v, (wr.setCell ⟨w1.heap.size, 2 * i, none⟩ v).cell? ⟨b1, o1 + i, none⟩ = some (.int .i64 x) := fun v => by
          rw [← hd1]
          simp only [World.cell?]
          rw [Below.heap_setCell _ _ _ _ hne]
        clear hc1 hc2 hx hy1 hy2 hcs
        by_cases h0 : x = 0
        · subst h0
          go_wp2_with fail
          go_roundw
          case rel =>
            refine ⟨i + 1, by omega, ?_, by go_num, ?_, (hbel.setCell (Nat.le_refl _) _).setCell (Nat.le_refl _) _⟩
            · exact congrArg Value.bool (by rw [okB, badB_more HX.out, HK.out, H8.out, ptr_le]; simp)
            · have e := want_set l i 0 HX.out H8.out
              rw [show (0 : Int) % 256 = 0 from rfl, show (0 : Int) / 256 % 256 = 0 from rfl] at e
              rw [← e]
              exact (ho.set rfl _ _).set rfl _ _
          case measure => simp [intOf]; omega
        have h0' : (x == 0) = false := by simpa using h0
        by_cases h43 : 43 ≤ x
        · by_cases h1023 : x ≤ 1023
          · clear h0
            go_wp2_with fail
            go_roundw
            case rel =>
              refine ⟨i + 1, by omega, ?_, by go_num, ?_, (hbel.setCell (Nat.le_refl _) _).setCell (Nat.le_refl _) _⟩
              · exact congrArg Value.bool (by rw [okB, badB_more HX.out, HK.out, H8.out, ptr_le]; simp <;> omega)
              · have e := want_set l i x HX.out H8.out
                rw [show x / 256 % 256 = x / 256 from by omega] at e
                rw [← e]
                exact (ho.set rfl _ _).set rfl _ _
            case measure => simp [intOf]; omega
          · clear h0
            go_wp2_with fail
            go_roundw
            case rel =>
              refine ⟨i + 1, by omega, ?_, by go_num, ?_, (hbel.setCell (Nat.le_refl _) _).setCell (Nat.le_refl _) _⟩
              · exact congrArg Value.bool (by rw [okB, badB_more HX.out, HK.out, H8.out, ptr_le]; simp <;> omega)
              · have e := want_set l i x HX.out H8.out
                skip
                rw [← e]
                exact (ho.set rfl _ _).set rfl _ _
            case measure => simp [intOf]; omega
        · clear h0
          go_wp2_with fail
          go_roundw
          case rel =>
            refine ⟨i + 1, by omega, ?_, by go_num, ?_, (hbel.setCell (Nat.le_refl _) _).setCell (Nat.le_refl _) _⟩
            · exact congrArg Value.bool (by rw [okB, badB_more HX.out, HK.out, H8.out, ptr_le, h0']; simp <;> omega)
            · have e := want_set l i x HX.out H8.out
              skip
              rw [← e]
              exact (ho.set rfl _ _).set rfl _ _
          case measure => simp [intOf]; omega
  case rest =>
    obtain ⟨rfl, hb0x⟩ := hcut
    go_wp2_with fail
    have hbx : Bytes wc B b := hb.below hb0x (Nat.le_refl _)
    by_cases h128 : b.length = 128
    · have hd := decode_one B b cb wc hbx h128
      refine hd.mono ?_
      clear hd
      rintro e w3 (⟨hok, A3, c3, rfl, ho3, hb3⟩ | ⟨-, rfl, hb3⟩)
      · have hok' : badB (decP b 8) = false ∧ encP (decP b 8) = b := by simpa [decOk] using hok
        have hb03 := hb0x.trans (hb3.mono hb0x.size)
        have he := encode_ok A3 (decP b 8) c3 w3 ho3.cells (decP_len b 8) hok'.1
        rw [hok'.2, decP_len] at he
        have HE := hid he
        have H128 := hid h128
        clear he hok hok' h128
        go_wp2_with fail
        refine HE.out.mono ?_
        rintro e w4 ⟨A4, c4, rfl, ho4, hb4⟩
        have hb04 := hb03.trans (hb4.mono hb03.size)
        clear HE ho3 hbx
        go_wp2_with fail
        refine (awake11_any _).mono ?_
        rintro e w5 ⟨rfl, hb5⟩
        have hb05 := hb04.trans (hb5.mono hb04.size)
        have hcva := run_bytes_string (P := Try.prog) (src := 31) (dst := 9) Try.underlying31 Try.underlying5 Try.underlying9 c4 (ho4.cells.below hb5 (Nat.le_refl _))
        rw [H128.out] at hcva
        have hcvb := run_bytes_string (P := Try.prog) (src := 31) (dst := 9) Try.underlying31 Try.underlying5 Try.underlying9 cb (hb.below hb05 (Nat.le_refl _))
        go_wp2
        go_ret
        exact ⟨rfl, hb05⟩
      · have hb03 := hb0x.trans (hb3.mono hb0x.size)
        clear h128 hbx hb3
        go_wp2_with (go_at_call 14; refine (awake11_any _).mono ?_; rintro e w4 ⟨rfl, hb4⟩)
        go_ret
        exact ⟨rfl, hb03.trans (hb4.mono hb03.size)⟩
    · have hd := decode_len B b.length cb wc h128
      refine hd.mono ?_
      clear hd
      rintro e w3 ⟨rfl, hb3⟩
      have hb03 := hb0x.trans (hb3.mono hb0x.size)
      clear h128 hbx hb3
      go_wp2_with (go_at_call 14; refine (awake11_any _).mono ?_; rintro e w4 ⟨rfl, hb4⟩)
      go_ret
      exact ⟨rfl, hb03.trans (hb4.mono hb03.size)⟩

theorem treePointers_walk (w : World) (A : Option Addr) (l : List Int) (c : Nat) (B : Option Addr) (b : List UInt8) (cb : Nat) (ha : Ints w A l) (_ : ∀ n ∈ l, -9223372036854775808 ≤ n ∧ n < 9223372036854775808) (_ : l.length ≤ c) (hl : l.length ≤ 140737488351232)
    (hb : Bytes w B b) (_ : b.length ≤ cb) (_ : b.length ≤ 140737488351232) :
    Calls Try.prog 4 #[.slice A l.length c, .slice B b.length cb] w fun e w' => e = .returned (.bool true) ∧ Below w.heap.size w w' := by
  cases hg : goodL l with
  | true => exact tp_good w A l c B b cb ha hl hb hg
  | false => exact tp_bad w A l c B b cb ha hl hb hg
end Go.Proofs.Ytafofpnfpkbfpaa
