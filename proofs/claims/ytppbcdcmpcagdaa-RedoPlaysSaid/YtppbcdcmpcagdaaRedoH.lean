/- Contracts of slices.Contains of ints, of redo's good and Head. -/
import Derived.Test.YtppbcdcmpcagdaaRedoP
namespace Go.Proofs.Ytppbcdcmpcagdaa
open Go.RowKit Go.CP

def RetIdxI (b : Bool) (w : World) (e : Ending) (w' : World) : Prop := ∃ r : Int, e = .returned (.int .i64 r) ∧ decide (0 ≤ r) = b ∧ w' = w
theorem contains_snoc {l : List Int} {i : Nat} {x y : Int} (h : l[i]? = some y) (hne : x ≠ y) : (l.take (i + 1)).contains x = (l.take i).contains x := by
  rw [take_snoc h, Bool.eq_iff_iff, List.contains_iff_mem, List.contains_iff_mem, List.mem_append, List.mem_singleton]
  simp [hne]
theorem index_any (A : Option Addr) (l : List Int) (c : Nat) (x : Int) (w : World) (ha : Ints w A l) (hl : l.length ≤ 140737488351232) :
    Calls Try.prog 183 #[.slice A l.length c, .int .i64 x] w (RetIdxI (l.contains x) w) := by
  go_enter Try.func183, Try.ntmps183
  go_wp2_with fail
  go_loop [8] (fun iv => ∃ i : Nat, i ≤ l.length ∧ iv = .int .i64 i ∧ Hid ((l.take i).contains x = false)) (fun iv => l.length - (intOf iv).toNat)
  case atStart => exact ⟨0, by omega, rfl, by exact hid rfl⟩
  case round =>
    obtain ⟨i, hi, rfl, HE⟩ := hrel
    by_cases hlt : i < l.length
    · obtain ⟨b1, o1, rfl, hc1⟩ := Ints.openq ha (by omega)
      obtain ⟨y, hy⟩ := get_of_lt l hlt
      have hd1 := hc1 i y hy
      have HY := hid hy
      clear hc1 hy
      by_cases hp : x = y
      · have hq : (x == y) = true := by simpa using hp
        have HP := hid hp
        clear hp
        go_wp2_with fail
        go_ret
        refine ⟨i, rfl, ?_, rfl⟩
        have : x ∈ l := by rw [HP.out]; exact List.mem_of_getElem? HY.out
        simp [this]
      · have hq : (x == y) = false := by simpa using hp
        have HP := hid hp
        clear hp
        go_wp2_with fail
        go_round
        case rel => exact ⟨i + 1, by omega, by go_num, hid (by rw [contains_snoc HY.out HP.out]; exact HE.out)⟩
        case measure => simp [intOf]; omega
    · have hk : i = l.length := by omega
      have HK := hid hk
      clear hk
      go_wp2_with fail
      go_ret
      refine ⟨-1, rfl, ?_, rfl⟩
      have := HK.out
      subst this
      have e := HE.out
      rw [List.take_length] at e
      have e2 : x ∉ l := by simpa using e
      simp [e2]
theorem contains_any (A : Option Addr) (l : List Int) (c : Nat) (x : Int) (w : World) (ha : Ints w A l) (hl : l.length ≤ 140737488351232) :
    Calls Try.prog 155 #[.slice A l.length c, .int .i64 x] w fun e w' => e = .returned (.bool (l.contains x)) ∧ w' = w := by
  have HC := hid (index_any A l c x w ha hl)
  go_enter Try.func155, Try.ntmps155
  go_wp2_with fail
  refine HC.out.mono ?_
  rintro e w1 ⟨r, rfl, hr, rfl⟩
  have HR := hid hr
  clear hr
  go_wp2
  go_ret
  exact ⟨ret_bool HR.out, rfl⟩

set_option maxHeartbeats 1000000 in
theorem good_any (A : Option Addr) (l : List Int) (c : Nat) (w : World) (ha : Ints w A l) (hc : l.length ≤ c) (hl : l.length ≤ 140737488351232) :
    Calls Try.prog 170 #[.slice A l.length c] w fun e w' => e = .returned (.bool (goodB l)) ∧ w' = w := by
  by_cases h24 : l.length ≤ 24
  · have HG : Hid (goodB l = goodTo l l.length) := hid (by simp [goodB, h24])
    have h24i : ¬ (24 : Int) < (l.length : Int) := by omega
    go_enter Try.func170, Try.ntmps170
    go_wp2_with fail
    go_loop [11] (fun iv => ∃ i : Nat, i ≤ l.length ∧ iv = .int .i64 i ∧ Hid (goodTo l i = true)) (fun iv => l.length - (intOf iv).toNat)
    case atStart => exact ⟨0, by omega, rfl, by exact hid rfl⟩
    case round =>
      obtain ⟨i, hi, rfl, HE⟩ := hrel
      by_cases hlt : i < l.length
      · obtain ⟨y, hy⟩ := get_of_lt l hlt
        have hgd : l.getD i 0 = y := by rw [List.getD_eq_getElem?_getD, hy]; rfl
        have hcon := contains_any A (l.take i) c y w (Cells.take (xs := l.map iv) ha i |> fun h => by rw [← List.map_take] at h; exact h) (by simp; omega)
        rw [show (l.take i).length = i from by simp; omega] at hcon
        have HCON := hid hcon
        have HGD := hid hgd
        obtain ⟨b1, o1, rfl, hc1⟩ := Ints.openq ha (by omega)
        have hd1 := hc1 i y hy
        have HF : okN y = false → Hid (goodB l = false) := fun h => hid (by rw [HG.out]; exact goodTo_false (i := i) (by rw [HGD.out, h]; rfl) hlt)
        have hil : (i : Int) ≤ (c : Int) := by omega
        have hi0 : (0 : Int) ≤ (i : Int) := by omega
        clear hc1 hy hgd hcon
        by_cases h0 : y < 0
        · have HF' := HF (by simp [okN]; omega)
          by_cases h1 : 1 ≤ y
          · omega
          · clear HF
            go_wp2_with fail
            go_ret
            exact ⟨ret_bool HF'.out.symm, rfl⟩
        · by_cases h2 : 1024 ≤ y
          · have HF' := HF (by simp [okN]; omega)
            have h1 : 1 ≤ y := by omega
            have h3 : ¬ y < 26 := by omega
            clear HF
            go_wp2_with fail
            go_ret
            exact ⟨ret_bool HF'.out.symm, rfl⟩
          · by_cases h1 : 1 ≤ y
            · by_cases h3 : y < 26
              · have HF' := HF (by simp [okN]; omega)
                clear HF
                go_wp2_with fail
                go_ret
                exact ⟨ret_bool HF'.out.symm, rfl⟩
              · have HOK : Hid (okN y = true) := hid (okN_iff.2 ⟨by omega, by omega, by omega⟩)
                clear HF
                cases hct : (l.take i).contains y with
                | true =>
                  rw [hct] at HCON
                  have HCT := hid hct
                  clear hct
                  go_wp2_with fail
                  refine HCON.out.mono ?_
                  rintro e w1 ⟨rfl, rfl⟩
                  go_wp2_with fail
                  go_ret
                  exact ⟨ret_bool (by rw [HG.out, goodTo_false (i := i) (by rw [HGD.out, HCT.out]; simp) hlt]), rfl⟩
                | false =>
                  rw [hct] at HCON
                  have HCT := hid hct
                  clear hct
                  go_wp2_with fail
                  refine HCON.out.mono ?_
                  rintro e w1 ⟨rfl, rfl⟩
                  go_wp2_with fail
                  go_round
                  case rel => exact ⟨i + 1, by omega, by go_num, hid (by rw [goodTo_succ, HE.out, HGD.out, HOK.out, HCT.out]; rfl)⟩
                  case measure => simp [intOf]; omega
            · have HOK : Hid (okN y = true) := hid (okN_iff.2 ⟨by omega, by omega, by omega⟩)
              clear HF
              cases hct : (l.take i).contains y with
              | true =>
                rw [hct] at HCON
                have HCT := hid hct
                clear hct
                go_wp2_with fail
                refine HCON.out.mono ?_
                rintro e w1 ⟨rfl, rfl⟩
                go_wp2_with fail
                go_ret
                exact ⟨ret_bool (by rw [HG.out, goodTo_false (i := i) (by rw [HGD.out, HCT.out]; simp) hlt]), rfl⟩
              | false =>
                rw [hct] at HCON
                have HCT := hid hct
                clear hct
                go_wp2_with fail
                refine HCON.out.mono ?_
                rintro e w1 ⟨rfl, rfl⟩
                go_wp2_with fail
                go_round
                case rel => exact ⟨i + 1, by omega, by go_num, hid (by rw [goodTo_succ, HE.out, HGD.out, HOK.out, HCT.out]; rfl)⟩
                case measure => simp [intOf]; omega
      · have hk : i = l.length := by omega
        have HK := hid hk
        clear hk
        go_wp2_with fail
        go_ret
        exact ⟨ret_bool (by rw [HG.out, ← HK.out, HE.out]), rfl⟩
  · have HG : Hid (goodB l = false) := hid (by simp [goodB]; omega)
    have h24i : (24 : Int) < (l.length : Int) := by omega
    go_enter Try.func170, Try.ntmps170
    go_wp2_with fail
    go_ret
    exact ⟨ret_bool HG.out.symm, rfl⟩

theorem head_err (A : Option Addr) (l : List Int) (c : Nat) (w : World) (ha : Ints w A l) (hc : l.length ≤ c) (hl : l.length ≤ 140737488351232) (hg : goodB l = false) :
    Calls Try.prog 115 #[.slice A l.length c] w fun e w' => e = .returned (.tuple #[.slice none 0 0, .int .i64 1]) ∧ w' = w := by
  have h := good_any A l c w ha hc hl
  rw [hg] at h
  have HG := hid h
  clear h hg
  go_enter Try.func115, Try.ntmps115
  go_wp2_with fail
  refine HG.out.mono ?_
  rintro e w1 ⟨rfl, rfl⟩
  go_wp2
  go_ret2
  exact ⟨rfl, rfl⟩
theorem numsR_snoc {l : List Int} {i : Nat} {n : Int} (h : l[i]? = some n) : numsR (l.take (i + 1)) = numsR (l.take i) ++ little n.toNat 2 := by
  rw [take_snoc h, numsR, List.flatMap_append, List.flatMap_singleton]
  rfl
set_option maxHeartbeats 1000000 in
set_option maxRecDepth 100000 in
theorem head_ok (A : Option Addr) (l : List Int) (c : Nat) (w : World) (ha : Ints w A l) (hc : l.length ≤ c) (hg : goodB l = true) :
    Calls Try.prog 115 #[.slice A l.length c] w (RetOwn2 w 5 1 128 ((headL l).map bv) (.int .i64 0)) := by
  have h24 := goodB_len hg
  have h := good_any A l c w ha hc (by omega)
  rw [hg] at h
  have HG := hid h
  have HGB := hid hg
  have HA := hid ha
  clear h hg ha
  have kc := fun (w : World) (C : Array Value) (n c : Nat) => Lib.run_convert_bytes_const (P := Try.prog) w 22 5 C n c Try.underlying22 Try.underlying5
  go_enter Try.func115, Try.ntmps115
  go_wp2_with fail
  refine HG.out.mono ?_
  rintro e w1 ⟨rfl, rfl⟩
  go_wp2_with fail
  have hm0 : Bytes (w1.alloc (.cells #[.int .u8 82, .int .u8 69, .int .u8 68, .int .u8 79] 5 (4, 5))) (some ⟨w1.heap.size, 0, none⟩) magicR := cells_new w1 5 (4, 5) magicR
  have hn := num_ok _ magicR 4 l.length _ hm0 (by decide) (by omega)
  rw [show magicR.length = 4 from rfl] at hn
  with_reducible refine hn.mono ?_
  clear hn hm0 HG kc
  rintro e w2 ⟨B2, c2, rfl, ho2, hb2⟩
  have hb02 : Below w1.heap.size w1 w2 := ((Below.refl _ _).alloc (Nat.le_refl _) _).trans (hb2.mono (by simp))
  have HO2 := hid (ho2.mono (base' := w1.heap.size) (by simp))
  have HB2 := hid hb02
  clear ho2 hb2 hb02
  go_wp2_with fail
  go_loopw [4, 21] (fun bv' iv wr => ∃ (i : Nat) (B : Option Addr) (cb : Nat), i ≤ l.length ∧ iv = .int .i64 i ∧ bv' = .slice B (8 + 2 * i) cb ∧ Hid (Go.CP.Own wr w1.heap.size 5 1 B (8 + 2 * i) cb ((magicR ++ little l.length 4 ++ numsR (l.take i)).map bv) ∧ Below w1.heap.size w1 wr)) (fun _ iv _ => l.length - (intOf iv).toNat)
  case atStart => exact ⟨0, B2, c2, by omega, rfl, rfl, hid ⟨by simpa [numsR] using HO2.out, HB2.out⟩⟩
  case round =>
    obtain ⟨i, B, cb, hi, rfl, rfl, HI⟩ := hrel
    by_cases hlt : i < l.length
    · obtain ⟨y, hy⟩ := get_of_lt l hlt
      obtain ⟨b1, o1, rfl, hc1⟩ := Ints.openq (Cells.below HA.out HI.out.2 (Nat.le_refl _)) (by omega)
      have hd1 := hc1 i y hy
      have hok := okN_iff.1 (goodB_ok HGB.out hy)
      obtain ⟨m, rfl⟩ : ∃ m : Nat, y = m := ⟨y.toNat, by omega⟩
      have hm : (m : Int) < 1024 := hok.2.1
      have hm0 : (0 : Int) ≤ (m : Int) := by omega
      have HY := hid hy
      clear hc1 hy hok
      have HON := hid (HI.out.1.alloc (.cells #[.int .u8 ((m : Int) % 256), .int .u8 ((m : Int) / 256)] 5))
      have HSR := hid (Src.row (P := Try.prog) (w := wr) (z := .int .u8 0) (sz := 1) (m := 2) (c := 2) (e := 5) #[.int .u8 ((m : Int) % 256), .int .u8 ((m : Int) / 256)] Try.underlying22 rfl (by simp [Value.oneCell']))
      have hzz := HI.out.2.size
      go_wp2_with (at_builtin; refine ap_bytes rfl _ _ 22 rfl w1.heap.size rfl HON.out rfl HSR.out (by omega) (by simp; omega) ?_; intro A' c' w' ho' hg')
      go_roundw
      case rel =>
        refine ⟨i + 1, A', c', by omega, by go_num, rfl, hid ⟨?_, ?_⟩⟩
        · rw [numsR_snoc HY.out, Int.toNat_natCast, ← List.append_assoc, List.map_append]
          have e : ((little m 2).map bv) = [.int .u8 ((m : Int) % 256), .int .u8 ((m : Int) / 256)] := by
            simp only [little, List.map_cons, List.map_nil, bv_mod]
            rw [show (((m / 256 : Nat) : Int) % 256) = (m : Int) / 256 by omega]
          rw [e]
          exact ho'
        · exact Below.grown (HI.out.2.alloc HI.out.2.size _) hg' (by simp; omega) (fun k hk => (HI.out.1.block k hk).1)
      case measure => simp [intOf]; omega
    · have hk : i = l.length := by omega
      subst hk
      obtain ⟨M, hM⟩ : ∃ M : Nat, M = 116 - 2 * l.length := ⟨_, rfl⟩
      have hmi : (124 : Int) - (8 + 2 * (l.length : Int)) = M := by omega
      have hM2 : (M : Int) ≤ 116 := by omega
      have HM := hid hM
      have hzz := HI.out.2.size
      clear hM hlt hi
      go_wp2_with (at_builtin; refine ap_bytes rfl _ _ 3 rfl w1.heap.size rfl HI.out.1 rfl (Src.zeros (m := M) Try.underlying3) (by omega) (by omega) ?_; intro A' c' w' ho' hg')
      have hl : (magicR ++ little l.length 4 ++ numsR (l.take l.length)).map bv ++ (List.replicate M (0 : UInt8)).map bv = (headR l).map bv := by
        rw [List.take_length, ← List.map_append, HM.out]
        rfl
      rw [hl, show 8 + 2 * l.length + M = 124 by have := HM.out; omega] at ho'
      have hlen := headR_len h24
      have hse := sealed_any A' (headR l) c' w' ho'.cells (by omega)
      rw [hlen] at hse
      have e124 : 8 + 2 * l.length + M = 124 := by have := HM.out; omega
      rw [e124]
      have hb' := Below.grown HI.out.2 hg' hzz (fun k hk => (HI.out.1.block k hk).1)
      clear ho' hl hg' hlen
      with_reducible refine hse.mono ?_
      clear hse
      rintro e w8 ⟨A8, c8, rfl, ho9, hb8⟩
      go_wp2
      go_ret2
      exact ⟨A8, c8, rfl, ho9.mono hb'.size, below_t hb' hb8 hb'.size⟩
end Go.Proofs.Ytppbcdcmpcagdaa
