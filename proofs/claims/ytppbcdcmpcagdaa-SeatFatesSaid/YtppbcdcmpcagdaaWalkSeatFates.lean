/- The law SeatFates returns true at every input: its walk over the contracts of seat.Fate and of the reference's Fate. No condition. -/
import Derived.Test.YtppbcdcmpcagdaaSeat4
import Derived.Deep.DrawnRows
namespace Go.Proofs.Ytppbcdcmpcagdaa
open Go.RowKit Go.CP
attribute [local go_sem ↓] Go.wp_at_zero Go.wp_at_succ

theorem boxT_S (w : World) (x y z : Value) : (w.alloc (.cells #[x, y, z] 70)).cell? ⟨w.heap.size, 0, none⟩ = some x ∧ (w.alloc (.cells #[x, y, z] 70)).cell? ⟨w.heap.size, 1, none⟩ = some y ∧ (w.alloc (.cells #[x, y, z] 70)).cell? ⟨w.heap.size, 2, none⟩ = some z ∧ Below w.heap.size w (w.alloc (.cells #[x, y, z] 70)) := by
  obtain ⟨h0, h1, h2, -, -⟩ := (BoxT.new w x y z).facts
  exact ⟨h0, h1, h2, (Below.refl _ _).alloc (Nat.le_refl _) _⟩

set_option maxHeartbeats 1000000 in
set_option maxRecDepth 100000 in
theorem seatFates_walk (w : World) (a b : Int) (A : Option Addr) (r : List UInt8) (c : Nat) (hello : Bool) (life seq : Int) (_ : Bytes w A r) (_ : r.length ≤ c) (_ : r.length ≤ 140737488351232)
    (_ : -9223372036854775808 ≤ life ∧ life < 9223372036854775808) (_ : -9223372036854775808 ≤ seq ∧ seq < 9223372036854775808) :
    Calls Try.prog 15 #[.agg #[.int .i64 a, .int .i64 b, .slice A r.length c], .bool hello, .int .i64 life, .int .i64 seq] w fun e w' => e = .returned (.bool true) ∧ Below w.heap.size w w' := by
  have HF := hid (fate_any a b A r.length c hello life seq)
  have HR := hid (rfate_any a b A r.length c hello life seq)
  generalize fateL a b hello life seq = F at HF HR
  have H0 := hid (boxT_S w (.int .i64 a) (.int .i64 b) (.slice A r.length c))
  generalize r.length = n at *
  go_enter Try.func15, Try.ntmps15
  go_wp2_with fail
  go_region_held3 (fun W => W.cell? ⟨w.heap.size, 0, none⟩ = some (.int .i64 a) ∧ W.cell? ⟨w.heap.size, 1, none⟩ = some (.int .i64 b) ∧ W.cell? ⟨w.heap.size, 2, none⟩ = some (.slice A n c) ∧ Below w.heap.size w W)
    (first | exact H0.out | exact box3_drew H0.out | assumption | exact box3_drew (by assumption))
    (first
      | (go_at_call 69; refine (awake08_any _).mono ?_; rintro e w3 ⟨rfl, hb3⟩; have hk3 := box3_keep (by assumption) hb3)
      | (go_at_call 70; refine (HF.out _).mono ?_; rintro e w4 ⟨rfl, hb4⟩; have hk4 := box3_keep (by assumption) hb4)
      | (go_at_call 71; refine (HR.out _).mono ?_; rintro e w5 ⟨rfl, hb5⟩; have hk5 := box3_keep (by assumption) hb5))
  all_goals
    go_wp2
    go_ret
    exact ⟨by simp, hk5.2.2.2⟩
end Go.Proofs.Ytppbcdcmpcagdaa
