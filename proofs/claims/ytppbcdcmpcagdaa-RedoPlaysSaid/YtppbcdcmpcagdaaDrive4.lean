/- Contracts of the two tests of Put over a list of writes: slices.IndexFunc and ContainsFunc at any test, and the tests. -/
import Derived.Test.YtppbcdcmpcagdaaDriveA
import Derived.Deep.QuietTactic
import Derived.BigQuiet
namespace Go.Proofs.Ytppbcdcmpcagdaa
open Go.RowKit Go.CP

/-- A write: its sector's number, and the row that it will have. -/
structure Wri where
  n : Int
  a : Option Addr
  d : List UInt8
  c : Nat
def wcells (x : Wri) : List Value := [.int .i64 x.n, .slice x.a x.d.length x.c]
def Wrs (W : World) (A : Option Addr) (ws : List Wri) : Prop := Cells W A (ws.flatMap wcells)
theorem Wrs.at {W : World} {A : Option Addr} {ws : List Wri} (h : Wrs W A ws) {i : Nat} {x : Wri} (hx : ws[i]? = some x) :
    ∃ b off, A = some ⟨b, off, none⟩ ∧ W.cell? ⟨b, off + i * 2, none⟩ = some (.int .i64 x.n) ∧ W.cell? ⟨b, off + i * 2 + 1, none⟩ = some (.slice x.a x.d.length x.c) := by
  have h0 := flatMap_at wcells 2 ws (fun _ _ => rfl) hx (j := 0) (v := .int .i64 x.n) rfl
  have h1 := flatMap_at wcells 2 ws (fun _ _ => rfl) hx (j := 1) (v := .slice x.a x.d.length x.c) rfl
  obtain ⟨b, off, rfl, c0⟩ := h _ _ h0
  obtain ⟨b', off', e, c1⟩ := h _ _ h1
  cases e
  exact ⟨b, off, rfl, c0, by rw [← Nat.add_assoc] at c1; exact c1⟩

def RetIdxW (b : Bool) (w : World) (e : Ending) (w' : World) : Prop := ∃ r : Int, e = .returned (.int .i64 r) ∧ decide (0 ≤ r) = b ∧ Below w.heap.size w w'
def RetTest (b : Bool) (w : World) (e : Ending) (w' : World) : Prop := e = .returned (.bool b) ∧ Below w.heap.size w w'
theorem any_hit {α : Type} {p : α → Bool} {l : List α} {i : Nat} {x : α} (h : l[i]? = some x) (hp : p x = true) : l.any p = true := by
  rw [List.any_eq_true]
  exact ⟨x, List.mem_of_getElem? h, hp⟩
theorem any_snoc {α : Type} {p : α → Bool} {l : List α} {i : Nat} {x : α} (h : l[i]? = some x) (hp : p x = false) : (l.take (i + 1)).any p = (l.take i).any p := by
  rw [take_snoc h, List.any_append]
  simp [hp]

set_option maxHeartbeats 1000000 in
theorem indexW_any (A : Option Addr) (ws : List Wri) (c : Nat) (w : World) (ha : Wrs w A ws) (hl : ws.length ≤ 140737488351232) (g : Nat) (lb : Array Value) (p : Wri → Bool)
    (eg : ∀ args w, (callFunc g args).run Try.prog w = .ok (.enter g args) w)
    (hp : ∀ W x, Below w.heap.size w W → Calls Try.prog g (#[.agg #[.int .i64 x.n, .slice x.a x.d.length x.c]] ++ lb) W (RetTest (p x) W)) :
    Calls Try.prog 186 #[.slice A ws.length c, .func (.func g) #[] lb] w (RetIdxW (ws.any p) w) := by
  have HA := hid ha
  have HP := hid hp
  clear ha hp
  go_enter Try.func186, Try.ntmps186
  go_wp2_with fail
  go_loopw [8] (fun iv wr => ∃ i : Nat, i ≤ ws.length ∧ iv = .int .i64 i ∧ Hid ((ws.take i).any p = false) ∧ Hid (Below w.heap.size w wr)) (fun iv _ => ws.length - (intOf iv).toNat)
  case atStart => exact ⟨0, by omega, rfl, by exact hid rfl, hid (Below.refl _ _)⟩
  case round =>
    obtain ⟨i, hi, rfl, HE, HB⟩ := hrel
    by_cases hlt : i < ws.length
    · obtain ⟨x, hx⟩ := get_of_lt ws hlt
      obtain ⟨b, off, rfl, c0, c1⟩ := Wrs.at (Cells.below HA.out HB.out (Nat.le_refl _)) hx
      have HX := hid hx
      have hcall := HP.out wr x HB.out
      clear hx
      by_cases hpx : p x = true
      · rw [hpx] at hcall
        have HPX := hid hpx
        have HC := hid hcall
        clear hpx hcall
        go_wp2_with fail
        refine HC.out.mono ?_
        rintro e w2 ⟨rfl, hb2⟩
        go_wp2
        go_ret
        exact ⟨i, rfl, by rw [any_hit HX.out HPX.out]; simp, below_t HB.out hb2 HB.out.size⟩
      · have hpx' : p x = false := by simpa using hpx
        rw [hpx'] at hcall
        have HPX := hid hpx'
        have HC := hid hcall
        clear hpx hpx' hcall
        go_wp2_with fail
        refine HC.out.mono ?_
        rintro e w2 ⟨rfl, hb2⟩
        go_wp2
        go_roundw
        case rel => exact ⟨i + 1, by omega, by go_num, hid (by rw [any_snoc HX.out HPX.out]; exact HE.out), hid (below_t HB.out hb2 HB.out.size)⟩
        case measure => simp [intOf]; omega
    · have hk : i = ws.length := by omega
      have HK := hid hk
      clear hk
      go_wp2_with fail
      go_ret
      exact ⟨-1, rfl, by have := HK.out; subst this; have e := HE.out; rw [List.take_length] at e; rw [e]; rfl, HB.out⟩

theorem containsW_any (A : Option Addr) (ws : List Wri) (c : Nat) (w : World) (ha : Wrs w A ws) (hl : ws.length ≤ 140737488351232) (g : Nat) (lb : Array Value) (p : Wri → Bool)
    (eg : ∀ args w, (callFunc g args).run Try.prog w = .ok (.enter g args) w)
    (hp : ∀ W x, Below w.heap.size w W → Calls Try.prog g (#[.agg #[.int .i64 x.n, .slice x.a x.d.length x.c]] ++ lb) W (RetTest (p x) W)) :
    Calls Try.prog 163 #[.slice A ws.length c, .func (.func g) #[] lb] w (RetTest (ws.any p) w) := by
  have HC := hid (indexW_any A ws c w ha hl g lb p eg hp)
  clear hp eg
  go_enter Try.func163, Try.ntmps163
  go_wp2_with fail
  refine HC.out.mono ?_
  rintro e w1 ⟨r, rfl, hr, hb⟩
  have HR := hid hr
  clear hr
  go_wp2
  go_ret
  exact ⟨ret_bool HR.out, hb⟩

/-- The first test: is a number not a sector's? -/
theorem out_any (x : Wri) (k g s n : Nat) (lv : Value) (fuse : Int) (dead : Bool) (W : World) (hk : W.cell? ⟨k, 0, none⟩ = some (.pointer (some ⟨g, 0, none⟩))) (h : Head4 W g (.slice (some ⟨s, 0, none⟩) n n) lv fuse dead) :
    Calls Try.prog 164 #[.agg #[.int .i64 x.n, .slice x.a x.d.length x.c], .pointer (some ⟨k, 0, none⟩)] W (RetTest (decide (x.n < 0) || decide ((n : Int) ≤ x.n)) W) := by
  obtain ⟨c0, c1, c2, c3, hf, hlt⟩ := h.facts
  have hlk := World.block_lt_of_cell? W _ hk
  have hlk' : k < W.heap.size := hlk
  clear c1 c2 c3 hf h hlk
  by_cases h0 : x.n < 0
  · go_enter Try.func164, Try.ntmps164
    go_wp2
    go_quiet (fail)
    go_wp2
    go_ret
    exact ⟨ret_bool (by simp [h0]), below_drewN ((Below.refl _ _).alloc (Nat.le_refl _) _) _⟩
  · go_enter Try.func164, Try.ntmps164
    go_wp2
    go_quiet (fail)
    go_wp2
    go_ret
    exact ⟨ret_bool (by simp), below_drewN ((Below.refl _ _).alloc (Nat.le_refl _) _) _⟩
/-- The second test: has a row not a sector's length? -/
theorem len_any (x : Wri) (W : World) :
    Calls Try.prog 165 #[.agg #[.int .i64 x.n, .slice x.a x.d.length x.c]] W (RetTest (x.d.length != 128) W) := by
  go_enter Try.func165, Try.ntmps165
  go_wp2
  go_ret
  exact ⟨ret_bool (by rw [Bool.eq_iff_iff]; simp; omega), (Below.refl _ _).alloc (Nat.le_refl _) _⟩
end Go.Proofs.Ytppbcdcmpcagdaa
