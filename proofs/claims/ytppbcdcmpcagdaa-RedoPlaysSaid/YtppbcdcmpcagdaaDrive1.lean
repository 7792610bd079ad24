/- Contracts of a drive's methods that touch its head alone: ready, burn, Sectors, Fuse; of New; at no drive. -/
import Derived.Test.YtppbcdcmpcagdaaField10
namespace Go.Proofs.Ytppbcdcmpcagdaa
open Go.RowKit Go.CP

/-- A drive's head at block g. -/
def Head4 (W : World) (g : Nat) (sv lv : Value) (fuse : Int) (dead : Bool) : Prop := W.heap[g]? = some (.cells #[sv, lv, .int .i64 fuse, .bool dead] 211 (0, 0))
theorem Head4.facts {W : World} {g : Nat} {sv lv : Value} {fuse : Int} {dead : Bool} (h : Head4 W g sv lv fuse dead) : W.cell? ⟨g, 0, none⟩ = some sv ∧ W.cell? ⟨g, 1, none⟩ = some lv ∧ W.cell? ⟨g, 2, none⟩ = some (.int .i64 fuse) ∧ W.cell? ⟨g, 3, none⟩ = some (.bool dead) ∧ (∀ j, W.frozen? ⟨g, j, none⟩ = false) ∧ g < W.heap.size := by
  have h' : W.heap[g]? = _ := h
  refine ⟨?_, ?_, ?_, ?_, fun j => ?_, (Array.getElem?_eq_some_iff.1 h').1⟩ <;> simp [World.cell?, World.frozen?, h']
theorem Head4.below {B : Nat} {W W' : World} {g : Nat} {sv lv : Value} {fuse : Int} {dead : Bool} (h : Head4 W g sv lv fuse dead) (hb : Below B W W') (hk : g < B) : Head4 W' g sv lv fuse dead := (hb.block g hk).trans h
theorem Head4.set {W : World} {g : Nat} {sv lv : Value} {fuse : Int} {dead : Bool} (h : Head4 W g sv lv fuse dead) (j : Nat) (v : Value) : (W.setCell ⟨g, j, none⟩ v).heap[g]? = some (.cells (#[sv, lv, .int .i64 fuse, .bool dead].setIfInBounds j v) 211 (0, 0)) := heap_setCell_at _ _ _ _ _ _ h

theorem ready_any (W : World) (g : Nat) (sv lv : Value) (fuse : Int) (dead : Bool) (h : Head4 W g sv lv fuse dead) :
    Calls Try.prog 162 #[.pointer (some ⟨g, 0, none⟩)] W fun e W' => e = .returned (.int .i64 (if dead then 11 else 0)) ∧ W' = W := by
  obtain ⟨c0, c1, c2, c3, hf, hlt⟩ := h.facts
  cases dead
  all_goals
    go_enter Try.func162, Try.ntmps162
    go_wp2
    go_ret
    exact ⟨rfl, rfl⟩
theorem ready_nil (W : World) : Calls Try.prog 162 #[.pointer none] W fun e W' => e = .returned (.int .i64 1) ∧ W' = W := by
  go_enter Try.func162, Try.ntmps162
  go_wp2
  go_ret
  exact ⟨rfl, rfl⟩

/-- Something is done, if there is still power for it. -/
def RetBurn (W : World) (g : Nat) (sv lv : Value) (fuse : Int) (e : Ending) (W' : World) : Prop :=
  (fuse = 0 ∧ e = .returned (.bool false) ∧ W' = W.setCell ⟨g, 3, none⟩ (.bool true) ∧ Head4 W' g sv lv 0 true) ∨ (fuse ≠ 0 ∧ e = .returned (.bool true) ∧ W' = W.setCell ⟨g, 2, none⟩ (.int .i64 (max (fuse - 1) (-1))) ∧ Head4 W' g sv lv (max (fuse - 1) (-1)) false)
theorem burn_any (W : World) (g : Nat) (sv lv : Value) (fuse : Int) (h : Head4 W g sv lv fuse false) (hl : -1 ≤ fuse) (hu : fuse ≤ 9223372036854775807) :
    Calls Try.prog 166 #[.pointer (some ⟨g, 0, none⟩)] W (RetBurn W g sv lv fuse) := by
  obtain ⟨c0, c1, c2, c3, hf, hlt⟩ := h.facts
  have H := hid h
  have HU := hid hu
  have hw : IntKind.i64.wrap (fuse - 1) = fuse - 1 := by rw [IntKind.wrap_i64]; omega
  clear h hu
  by_cases h0 : fuse = 0
  · subst h0
    clear hw
    go_enter Try.func166, Try.ntmps166
    go_wp2
    go_ret
    exact .inl ⟨rfl, rfl, rfl, H.out.set 3 _⟩
  · have hq : (fuse == 0) = false := by simpa using h0
    have H0 := hid h0
    by_cases h1 : fuse = -1
    · subst h1
      clear h0 hw hq
      go_enter Try.func166, Try.ntmps166
      go_wp2
      go_ret
      exact .inr ⟨H0.out, rfl, rfl, H.out.set 2 _⟩
    · have h2 : 1 ≤ fuse := by omega
      have hm : max (fuse - 1) (-1) = fuse - 1 := by omega
      have HM := hid hm
      clear h0 h1 hm
      go_enter Try.func166, Try.ntmps166
      go_wp2
      all_goals
        go_ret
        refine .inr ⟨H0.out, rfl, ?_, ?_⟩
        · first
            | rw [HM.out]
            | (exfalso; omega)
        · first
            | (rw [HM.out]; exact H.out.set 2 _)
            | (exfalso; omega)
theorem sectors_any (W : World) (g : Nat) (A : Option Addr) (n c : Nat) (lv : Value) (fuse : Int) (dead : Bool) (h : Head4 W g (.slice A n c) lv fuse dead) :
    Calls Try.prog 112 #[.pointer (some ⟨g, 0, none⟩)] W fun e W' => e = .returned (.int .i64 n) ∧ W' = W := by
  obtain ⟨c0, c1, c2, c3, hf, hlt⟩ := h.facts
  go_enter Try.func112, Try.ntmps112
  go_wp2
  go_ret
  exact ⟨rfl, rfl⟩
theorem sectors_nil (W : World) : Calls Try.prog 112 #[.pointer none] W fun e W' => e = .returned (.int .i64 0) ∧ W' = W := by
  go_enter Try.func112, Try.ntmps112
  go_wp2
  go_ret
  exact ⟨rfl, rfl⟩
theorem fuse_nil (n : Int) (W : World) : Calls Try.prog 104 #[.pointer none, .int .i64 n] W fun e W' => e = .returned (.tuple #[]) ∧ W' = W := by
  go_enter Try.func104, Try.ntmps104
  go_wp2
  go_end0
  exact ⟨rfl, rfl⟩
theorem get_nil (n : Int) (W : World) : Calls Try.prog 103 #[.pointer none, .int .i64 n] W fun e W' => e = .returned (.tuple #[.slice none 0 0, .int .i64 1]) ∧ Below W.heap.size W W' := by
  go_enter Try.func103, Try.ntmps103
  go_wp2_with fail
  refine (ready_nil _).mono ?_
  rintro e w1 ⟨rfl, rfl⟩
  go_wp2
  go_ret2
  exact ⟨rfl, (Below.refl _ _).alloc (Nat.le_refl _) _⟩
theorem put_nil (v : Value) (W : World) : Calls Try.prog 100 #[.pointer none, v] W fun e W' => e = .returned (.int .i64 1) ∧ Below W.heap.size W W' := by
  go_enter Try.func100, Try.ntmps100
  go_wp2_with fail
  refine (ready_nil _).mono ?_
  rintro e w1 ⟨rfl, rfl⟩
  go_wp2
  go_ret
  exact ⟨rfl, (Below.refl _ _).alloc (Nat.le_refl _) _⟩
theorem flush_nil (W : World) : Calls Try.prog 101 #[.pointer none] W fun e W' => e = .returned (.int .i64 1) ∧ W' = W := by
  go_enter Try.func101, Try.ntmps101
  go_wp2_with fail
  refine (ready_nil _).mono ?_
  rintro e w1 ⟨rfl, rfl⟩
  go_wp2
  go_ret
  exact ⟨rfl, rfl⟩
theorem image_nil (W : World) : Calls Try.prog 105 #[.pointer none] W fun e W' => e = .returned (.slice none 0 0) ∧ W' = W := by
  go_enter Try.func105, Try.ntmps105
  go_wp2_with fail
  refine (sectors_nil _).mono ?_
  rintro e w1 ⟨rfl, rfl⟩
  go_wp2_with fail
  go_loop [3, 7] (fun ov iv => ov = .slice none 0 0 ∧ iv = .int .i64 0) (fun _ _ => 0)
  case atStart => exact ⟨rfl, rfl⟩
  case round =>
    obtain ⟨rfl, rfl⟩ := hrel
    go_wp2
    go_ret
    exact ⟨rfl, rfl⟩
theorem restart_nil (v : Value) (W : World) : Calls Try.prog 102 #[.pointer none, v] W fun e W' => e = .returned (.tuple #[]) ∧ W' = W := by
  go_enter Try.func102, Try.ntmps102
  go_wp2
  refine bodyPost_ret (results_none rfl _ _ _) rfl ?_
  exact ⟨rfl, rfl⟩
end Go.Proofs.Ytppbcdcmpcagdaa
