/- Contract of the reference's Encode of a beginning. -/
import Derived.Test.YtppbcdcmpcagdaaSuper1
import Derived.Deep.DrawnRows
namespace Go.Proofs.Ytppbcdcmpcagdaa
open Go.RowKit Go.CP
attribute [local go_sem ↓] Go.wp_at_zero Go.wp_at_succ

theorem rsup_err (a b c : Int) (w : World) (h : supB a b c = false) : Calls Try.prog 58 #[.agg #[.int .i64 a, .int .i64 b, .int .i64 c]] w fun e w' => e = .returned (.tuple #[.string (bstr []), .int .i64 2]) ∧ Below w.heap.size w w' := by
  have hs := fun W => rsup_sound a b c W
  rw [h] at hs
  have HS := hid hs
  clear hs h
  go_enter Try.func58, Try.ntmps58
  go_wp2_with fail
  refine (HS.out _).mono ?_
  rintro e w1 ⟨rfl, hb1⟩
  go_wp2
  go_ret2
  exact ⟨rfl, ((Below.refl _ _).alloc (Nat.le_refl _) _).trans (hb1.mono (by simp))⟩

/-- Three numbers in a box, and all below is as it was. -/
theorem box3_keep {w W W' : World} {a b c : Value} {g : Nat} (h : W.cell? ⟨g, 0, none⟩ = some a ∧ W.cell? ⟨g, 1, none⟩ = some b ∧ W.cell? ⟨g, 2, none⟩ = some c ∧ Below w.heap.size w W) (hb : Below W.heap.size W W') :
    W'.cell? ⟨g, 0, none⟩ = some a ∧ W'.cell? ⟨g, 1, none⟩ = some b ∧ W'.cell? ⟨g, 2, none⟩ = some c ∧ Below w.heap.size w W' := by
  have hl := World.block_lt_of_cell? W _ h.1
  exact ⟨(hb.cell (p := ⟨g, 0, none⟩) hl).trans h.1, (hb.cell (p := ⟨g, 1, none⟩) hl).trans h.2.1, (hb.cell (p := ⟨g, 2, none⟩) hl).trans h.2.2.1, below_t h.2.2.2 hb h.2.2.2.size⟩
theorem box3_drew {w W : World} {a b c : Value} {g : Nat} (h : W.cell? ⟨g, 0, none⟩ = some a ∧ W.cell? ⟨g, 1, none⟩ = some b ∧ W.cell? ⟨g, 2, none⟩ = some c ∧ Below w.heap.size w W) :
    W.drew.cell? ⟨g, 0, none⟩ = some a ∧ W.drew.cell? ⟨g, 1, none⟩ = some b ∧ W.drew.cell? ⟨g, 2, none⟩ = some c ∧ Below w.heap.size w W.drew :=
  box3_keep h (bl2 W)
theorem cut_box3 (w : World) (a b c : Value) : (w.alloc (.cells #[a, b, c] 60)).cell? ⟨w.heap.size, 0, none⟩ = some a ∧ (w.alloc (.cells #[a, b, c] 60)).cell? ⟨w.heap.size, 1, none⟩ = some b ∧ (w.alloc (.cells #[a, b, c] 60)).cell? ⟨w.heap.size, 2, none⟩ = some c ∧ Below w.heap.size w (w.alloc (.cells #[a, b, c] 60)) := by
  refine ⟨?_, ?_, ?_, (Below.refl _ _).alloc (Nat.le_refl _) _⟩ <;> (rw [cell_of_row _ _ _ _ _ (0, 0) (heap_alloc_new w _)]; rfl)

theorem sup_str (a b c : Nat) : (⟨#[67, 79, 80, 89]⟩ ++ bstr (little a 4) ++ bstr (little b 4) ++ bstr (little c 4) ++ bstr (List.replicate 108 0) : ByteArray) = bstr (supL a b c) := by
  rw [show (⟨#[67, 79, 80, 89]⟩ : ByteArray) = bstr magicS from rfl, bstr_append, bstr_append, bstr_append, bstr_append]
  rfl

set_option maxHeartbeats 2000000 in
set_option maxRecDepth 100000 in
theorem rsup_ok (a b c : Nat) (w : World) (h : supB a b c = true) : Calls Try.prog 58 #[.agg #[.int .i64 a, .int .i64 b, .int .i64 c]] w fun e w' => e = .returned (.tuple #[.string (bstr (sealL (supL a b c))), .int .i64 0]) ∧ Below w.heap.size w w' := by
  have hs := fun W => rsup_sound a b c W
  rw [h] at hs
  have HS := hid hs
  have hb : a < 4294967296 ∧ b < 4294967296 ∧ c < 4294967296 := by simp [supB] at h; omega
  have h1 := fun n W => little_any n 4 W
  rw [show ((4 : Nat) : Int) = 4 from rfl] at h1
  have hn := fun W => noughts_any 108 W (by omega)
  rw [show ((108 : Nat) : Int) = 108 from rfl] at hn
  have hse := fun W => rsealed_any (bstr (supL a b c)) W (by rw [bstr_size, supL_len]; omega)
  rw [show (bstr (supL a b c)).data.toList = supL a b c from rfl, ← sup_str] at hse
  have HA := hid (fun W => h1 a W (by omega) (by omega))
  have HB := hid (fun W => h1 b W (by omega) (by omega))
  have HC := hid (fun W => h1 c W (by omega) (by omega))
  have HN := hid hn
  have HSE := hid hse
  have hl := little_len
  clear hs h h1 hn hse hb
  go_enter Try.func58, Try.ntmps58
  go_wp2_with fail
  refine (HS.out _).mono ?_
  rintro e w1 ⟨rfl, hb1⟩
  have hbx := box3_keep (cut_box3 w (.int .i64 a) (.int .i64 b) (.int .i64 c)) hb1
  have HBX := hid hbx
  clear hb1 hbx
  go_wp2_with fail
  go_region_held3 (fun W => W.cell? ⟨w.heap.size, 0, none⟩ = some (.int .i64 a) ∧ W.cell? ⟨w.heap.size, 1, none⟩ = some (.int .i64 b) ∧ W.cell? ⟨w.heap.size, 2, none⟩ = some (.int .i64 c) ∧ Below w.heap.size w W)
    (first | exact HBX.out | exact box3_drew HBX.out | assumption | exact box3_drew (by assumption))
    (first
      | (go_at_call_of 42 (Value.int .i64 (a : Int)); refine (HA.out _).mono ?_; rintro e w3 ⟨rfl, hb3⟩; have hk3 := box3_keep (by assumption) hb3)
      | (go_at_call_of 42 (Value.int .i64 (b : Int)); refine (HB.out _).mono ?_; rintro e w4 ⟨rfl, hb4⟩; have hk4 := box3_keep (by assumption) hb4)
      | (go_at_call_of 42 (Value.int .i64 (c : Int)); refine (HC.out _).mono ?_; rintro e w5 ⟨rfl, hb5⟩; have hk5 := box3_keep (by assumption) hb5)
      | (go_at_call 134; refine (HSE.out _).mono ?_; rintro e w7 ⟨rfl, hb7⟩; have hk7 := box3_keep (by assumption) hb7)
      | (go_at_call 135; refine (HN.out _).mono ?_; rintro e w6 ⟨rfl, hb6⟩; have hk6 := box3_keep (by assumption) hb6))
  go_wp2
  go_ret2
  exact ⟨rfl, hk7.2.2.2⟩

def RetRSup (a b c : Int) (w : World) (e : Ending) (w' : World) : Prop :=
  Below w.heap.size w w' ∧ ((supB a b c = true ∧ e = .returned (.tuple #[.string (bstr (sealL (supL a.toNat b.toNat c.toNat))), .int .i64 0])) ∨ (supB a b c = false ∧ e = .returned (.tuple #[.string (bstr []), .int .i64 2])))
theorem rsup_any (a b c : Int) (w : World) : Calls Try.prog 58 #[.agg #[.int .i64 a, .int .i64 b, .int .i64 c]] w (RetRSup a b c w) := by
  cases h : supB a b c with
  | true =>
    have h2 : 64 ≤ a ∧ a ≤ 1024 ∧ 0 ≤ b ∧ b ≤ 1073741824 ∧ 0 ≤ c ∧ c ≤ 1073741824 := by simpa [supB] using h
    have e1 : ((a.toNat : Nat) : Int) = a := by omega
    have e2 : ((b.toNat : Nat) : Int) = b := by omega
    have e3 : ((c.toNat : Nat) : Int) = c := by omega
    have := rsup_ok a.toNat b.toNat c.toNat w (by rw [e1, e2, e3]; exact h)
    rw [e1, e2, e3] at this
    exact this.mono fun e w' k => ⟨k.2, .inl ⟨h, k.1⟩⟩
  | false => exact (rsup_err a b c w h).mono fun e w' k => ⟨k.2, .inr ⟨h, k.1⟩⟩
end Go.Proofs.Ytppbcdcmpcagdaa
