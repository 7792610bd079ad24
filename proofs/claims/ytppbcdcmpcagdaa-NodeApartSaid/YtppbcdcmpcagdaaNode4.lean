/- Contract of the reference's Sound. -/
import Derived.Test.YtppbcdcmpcagdaaNode3
namespace Go.Proofs.Ytppbcdcmpcagdaa
open Go.RowKit Go.CP

def dirL (x : Nod) : List Int := [x.d0, x.d1, x.d2, x.d3]
/-- None of the first i direct pointers, nor the last two, points anywhere. -/
def noneB (x : Nod) (i : Nat) : Bool := (x.o == 0 && x.t == 0) && ((dirL x).take i).all (· == 0)
theorem noneB_snoc (x : Nod) {i : Nat} {d : Int} (h : (dirL x)[i]? = some d) : noneB x (i + 1) = (noneB x i && d == 0) := by
  unfold noneB
  rw [take_snoc h, List.all_append]
  simp [Bool.and_assoc]
theorem bad_mem {x : Nod} {d : Int} (h : d ∈ ptrsL x) (hp : ptrB d = false) : badB (ptrsL x) = true := by
  unfold badB
  rw [List.any_eq_true]
  exact ⟨d, h, by simp [hp]⟩
theorem bad_o {x : Nod} (hp : ptrB x.o = false) : badB (ptrsL x) = true := bad_mem (by simp [ptrsL]) hp
theorem bad_t {x : Nod} (hp : ptrB x.t = false) : badB (ptrsL x) = true := bad_mem (by simp [ptrsL]) hp
theorem bad_d {x : Nod} {i : Nat} {d : Int} (h : (dirL x)[i]? = some d) (hp : ptrB d = false) : badB (ptrsL x) = true :=
  bad_mem (by have := List.mem_of_getElem? h; simp only [dirL, List.mem_cons, List.not_mem_nil, or_false] at this; simp only [ptrsL, List.mem_cons, List.not_mem_nil, or_false]; rcases this with h | h | h | h <;> simp [h]) hp
theorem bad_none {x : Nod} (h : badB (dirL x) = false) (ho : ptrB x.o = true) (ht : ptrB x.t = true) : badB (ptrsL x) = false := by
  rw [show ptrsL x = dirL x ++ [x.o, x.t] from rfl]
  unfold badB at h ⊢
  rw [List.any_append, h]
  simp [ho, ht]
theorem none_all (x : Nod) : noneB x 4 = (x.d0 == 0 && x.d1 == 0 && x.d2 == 0 && x.d3 == 0 && x.o == 0 && x.t == 0) := by
  rw [Bool.eq_iff_iff]
  simp [noneB, dirL]
  omega

theorem dir_at {w : World} {b : Nat} {x : Nod} (h : BoxN w b x) (i : Nat) (hi : i < 4) : ∃ d, (dirL x)[i]? = some d ∧ w.cell? ⟨b, 5 + i, none⟩ = some (.int .i64 d) := by
  obtain ⟨-, -, -, -, -, f5, f6, f7, f8, -⟩ := h.facts
  match i, hi with
  | 0, _ => exact ⟨_, rfl, f5⟩
  | 1, _ => exact ⟨_, rfl, f6⟩
  | 2, _ => exact ⟨_, rfl, f7⟩
  | 3, _ => exact ⟨_, rfl, f8⟩

set_option maxHeartbeats 4000000 in
set_option maxRecDepth 100000 in
theorem rsoundN_any (x : Nod) (w : World) : Calls Try.prog 75 #[.agg #[.int .i64 x.k, .int .i64 x.l, .int .i64 x.g, .int .i64 x.s, .int .i64 x.c, .int .i64 x.d0, .int .i64 x.d1, .int .i64 x.d2, .int .i64 x.d3, .int .i64 x.o, .int .i64 x.t]] w fun e w' => e = .returned (.bool (soundN x)) ∧ Below w.heap.size w w' := by
  have k0 := BoxN.new w x
  have hb0 : Below w.heap.size w (w.alloc (.cells #[.int .i64 x.k, .int .i64 x.l, .int .i64 x.g, .int .i64 x.s, .int .i64 x.c, .int .i64 x.d0, .int .i64 x.d1, .int .i64 x.d2, .int .i64 x.d3, .int .i64 x.o, .int .i64 x.t] 84)) := (Below.refl _ _).alloc (Nat.le_refl _) _
  by_cases hgc : (genB x.g || genB x.c) = true
  · have HR := hid (soundN_gen hgc)
    have HB0 := hid hb0
    clear hb0 k0
    by_cases g0 : x.g < 0
    · go_enter Try.func75, Try.ntmps75
      go_wp2
      go_ret
      exact ⟨ret_bool HR.out.symm, HB0.out⟩
    · by_cases g1 : (decide (1073741824 < x.g)) = true
      · go_enter Try.func75, Try.ntmps75
        go_wp2
        go_ret
        exact ⟨ret_bool HR.out.symm, HB0.out⟩
      · by_cases c0 : x.c < 0
        · go_enter Try.func75, Try.ntmps75
          go_wp2
          go_ret
          exact ⟨ret_bool HR.out.symm, HB0.out⟩
        · have c1 : (decide (1073741824 < x.c)) = true := by
            simp [genB] at hgc g1
            have := hgc.resolve_left (by omega)
            simpa using this.resolve_left c0
          clear hgc
          go_enter Try.func75, Try.ntmps75
          go_wp2
          go_ret
          exact ⟨ret_bool HR.out.symm, HB0.out⟩
  · have hgc' : (genB x.g || genB x.c) = false := by simpa using hgc
    clear hgc
    have HGC := hid hgc'
    have g0 : ¬ x.g < 0 := fun h => by simp [genB, h] at hgc'
    have g1 : decide (1073741824 < x.g) = false := by
      have := hgc'; rw [Bool.or_eq_false_iff] at this; have := this.1; rw [genB, Bool.or_eq_false_iff] at this; exact this.2
    have c0 : ¬ x.c < 0 := fun h => by simp [genB, h] at hgc'
    have c1 : decide (1073741824 < x.c) = false := by
      have := hgc'; rw [Bool.or_eq_false_iff] at this; have := this.2; rw [genB, Bool.or_eq_false_iff] at this; exact this.2
    clear hgc'
    have K0 := hid k0
    have HB0 := hid hb0
    clear k0 hb0
    by_cases po : ptrB x.o = true
    · by_cases pt : ptrB x.t = true
      · obtain ⟨bo, hbo⟩ : ∃ bo, (x.o == 0) = bo := ⟨_, rfl⟩
        obtain ⟨bt, hbt⟩ : ∃ bt, (x.t == 0) = bt := ⟨_, rfl⟩
        have HO := hid hbo
        have HT := hid hbt
        go_enter Try.func75, Try.ntmps75
        go_wp2_with (go_at_call 144; refine (rpointer_any _ _).mono ?_; rintro e w ⟨rfl, rfl⟩)
        clear hbo hbt
        all_goals
          replace K0 := K0.out
          replace HB0 := HB0.out
          generalize w.alloc (.cells #[.int .i64 x.k, .int .i64 x.l, .int .i64 x.g, .int .i64 x.s, .int .i64 x.c, .int .i64 x.d0, .int .i64 x.d1, .int .i64 x.d2, .int .i64 x.d3, .int .i64 x.o, .int .i64 x.t] 84) = W at K0 HB0 ⊢
          replace HB0 := hid HB0
          replace K0 := hid K0
          go_loop [3, 4] (fun nv iv => ∃ (i : Nat) (b : Bool), i ≤ 4 ∧ iv = .int .i64 i ∧ nv = .bool b ∧ Hid (b = noneB x i) ∧ Hid (badB ((dirL x).take i) = false)) (fun _ iv => 4 - (intOf iv).toNat)
          case atStart => exact ⟨0, _, by omega, rfl, rfl, hid (by unfold noneB; rw [HO.out, HT.out]; clear HO HT; cases bo <;> cases bt <;> first | rfl | contradiction | (exfalso; clear_value *; simp at *)), hid rfl⟩
          case round =>
            obtain ⟨i, b, hi, rfl, rfl, HN, HE⟩ := hrel
            by_cases hlt : i < 4
            · obtain ⟨d, hd, hcell⟩ := dir_at K0.out i hlt
              have HD := hid hd
              clear hd
              by_cases pd : ptrB d = true
              · go_wp2_with (go_at_call 144; refine (rpointer_any _ _).mono ?_; rintro e w ⟨rfl, rfl⟩)
                all_goals
                  go_round
                  case rel => exact ⟨i + 1, _, by omega, by go_num, rfl, hid (by rw [noneB_snoc x HD.out, ← HN.out, Bool.eq_iff_iff]; simp_all), hid (by rw [badB_snoc HD.out pd]; exact HE.out)⟩
                  case measure => simp [intOf]; omega
              · have HR := hid (soundN_bad (bad_d HD.out (by simpa using pd)))
                have pd' : ptrB d = false := by simpa using pd
                clear pd
                go_wp2_with (go_at_call 144; refine (rpointer_any _ _).mono ?_; rintro e w ⟨rfl, rfl⟩)
                go_ret
                exact ⟨ret_bool HR.out.symm, HB0.out⟩
            · have hi4 : i = 4 := by omega
              subst hi4
              have HX := hid (soundN_rest HGC.out (bad_none (show badB (dirL x) = false from HE.out) po pt))
              have HN4 := hid (HN.out.trans (none_all x))
              obtain ⟨f0, f1, f2, f3, f4, f5, f6, f7, f8, f9, f10, -, -⟩ := K0.out.facts
              clear hlt
              by_cases hk0 : x.k = 0
              · rw [kindB, if_pos hk0] at HX
                go_wp2_with fail
                all_goals
                  go_ret
                  exact ⟨ret_bool (by have hx := HX.out; have hn := HN4.out; rw [hx]; rw [Bool.eq_iff_iff] at hn ⊢; simp at hn ⊢; first | done | (simp_all; done) | omega), HB0.out⟩
              · by_cases hk1 : x.k = 1
                · rw [kindB, if_neg hk0, if_pos hk1] at HX
                  go_wp2_with fail
                  all_goals
                    go_ret
                    exact ⟨ret_bool (by rw [HX.out, Bool.eq_iff_iff]; simp; omega), HB0.out⟩
                · by_cases hk2 : x.k = 2
                  · rw [kindB, if_neg hk0, if_neg hk1, if_pos hk2] at HX
                    go_wp2_with fail
                    all_goals
                      go_ret
                      exact ⟨ret_bool (by rw [HX.out, Bool.eq_iff_iff]; simp; omega), HB0.out⟩
                  · rw [kindB, if_neg hk0, if_neg hk1, if_neg hk2] at HX
                    go_wp2_with fail
                    all_goals
                      go_ret
                      exact ⟨ret_bool HX.out.symm, HB0.out⟩
      · have HR := hid (soundN_bad (bad_t (by simpa using pt)))
        have pt' : ptrB x.t = false := by simpa using pt
        clear pt
        go_enter Try.func75, Try.ntmps75
        go_wp2_with (go_at_call 144; refine (rpointer_any _ _).mono ?_; rintro e w ⟨rfl, rfl⟩)
        go_ret
        exact ⟨ret_bool HR.out.symm, HB0.out⟩
    · have HR := hid (soundN_bad (bad_o (by simpa using po)))
      have po' : ptrB x.o = false := by simpa using po
      clear po
      go_enter Try.func75, Try.ntmps75
      go_wp2_with (go_at_call 144; refine (rpointer_any _ _).mono ?_; rintro e w ⟨rfl, rfl⟩)
      go_ret
      exact ⟨ret_bool HR.out.symm, HB0.out⟩
end Go.Proofs.Ytppbcdcmpcagdaa
