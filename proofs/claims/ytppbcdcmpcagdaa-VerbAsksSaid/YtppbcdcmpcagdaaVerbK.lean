/- Contracts of package verb: Changes; of the laws' awake. -/
import Derived.Test.YtppbcdcmpcagdaaVerbJ
import Derived.Test.YtppbcdcmpcagdaaVerb5
namespace Go.Proofs.Ytppbcdcmpcagdaa
open Go.RowKit Go.CP

def RetIdxV (b : Bool) (w : World) (e : Ending) (w' : World) : Prop := ∃ r : Int, e = .returned (.int .i64 r) ∧ decide (0 ≤ r) = b ∧ w' = w
theorem vcontains_snoc {l : List Int} {i : Nat} {x y : Int} (h : l[i]? = some y) (hne : x ≠ y) : (l.take (i + 1)).contains x = (l.take i).contains x := by
  rw [take_snoc h, Bool.eq_iff_iff, List.contains_iff_mem, List.contains_iff_mem, List.mem_append, List.mem_singleton]
  simp [hne]
theorem vindex_any (A : Option Addr) (l : List Int) (c : Nat) (x : Int) (w : World) (ha : Ints w A l) (hl : l.length ≤ 140737488351232) :
    Calls Try.prog 183 #[.slice A l.length c, .int .i64 x] w (RetIdxV (l.contains x) w) := by
  go_enter Try.func183, Try.ntmps183
  go_wp2_with fail
  go_loop [8] (fun iv => ∃ i : Nat, i ≤ l.length ∧ iv = .int .i64 i ∧ Hid ((l.take i).contains x = false)) (fun iv => l.length - (intOf iv).toNat)
  case atStart => exact ⟨0, by omega, rfl, by exact hid rfl⟩
  case round =>
    obtain ⟨i, hi, rfl, HE⟩ := hrel
    by_cases hlt : i < l.length
    · obtain ⟨b1, o1, rfl, hc1⟩ := Ints.openq ha (by omega)
      obtain ⟨y, hy⟩ := get_of_lt l hlt
      have hd1 := hc1 i y hy
      have HY := hid hy
      clear hc1 hy
      by_cases hp : x = y
      · have hq : (x == y) = true := by simpa using hp
        have HP := hid hp
        clear hp
        go_wp2_with fail
        go_ret
        refine ⟨i, rfl, ?_, rfl⟩
        have : x ∈ l := by rw [HP.out]; exact List.mem_of_getElem? HY.out
        simp [this]
      · have hq : (x == y) = false := by simpa using hp
        have HP := hid hp
        clear hp
        go_wp2_with fail
        go_round
        case rel => exact ⟨i + 1, by omega, by go_num, hid (by rw [vcontains_snoc HY.out HP.out]; exact HE.out)⟩
        case measure => simp [intOf]; omega
    · have hk : i = l.length := by omega
      have HK := hid hk
      clear hk
      go_wp2_with fail
      go_ret
      refine ⟨-1, rfl, ?_, rfl⟩
      have := HK.out
      subst this
      have e := HE.out
      rw [List.take_length] at e
      have e2 : x ∉ l := by simpa using e
      simp [e2]
theorem vcontains_any (A : Option Addr) (l : List Int) (c : Nat) (x : Int) (w : World) (ha : Ints w A l) (hl : l.length ≤ 140737488351232) :
    Calls Try.prog 155 #[.slice A l.length c, .int .i64 x] w fun e w' => e = .returned (.bool (l.contains x)) ∧ w' = w := by
  have HC := hid (vindex_any A l c x w ha hl)
  go_enter Try.func155, Try.ntmps155
  go_wp2_with fail
  refine HC.out.mono ?_
  rintro e w1 ⟨r, rfl, hr, rfl⟩
  have HR := hid hr
  clear hr
  go_wp2
  go_ret
  exact ⟨ret_bool HR.out, rfl⟩


def chL : List Int := [3, 4, 5, 6, 7, 8, 11, 12]
def changesB (k : Int) : Bool := chL.contains k
theorem changes_any (k : Int) (w : World) : Calls Try.prog 84 #[.int .i64 k] w fun e w' => e = .returned (.bool (changesB k)) ∧ Below w.heap.size w w' := by
  have hl : Ints (w.alloc (.cells (chL.map iv).toArray 3)) (some ⟨w.heap.size, 0, none⟩) chL := ints_lit w chL 3
  have HC := hid (vcontains_any (some ⟨w.heap.size, 0, none⟩) chL 8 k _ hl (by decide))
  obtain ⟨q, hq⟩ : ∃ q, changesB k = q := ⟨_, rfl⟩
  have hq' : chL.contains k = q := hq
  rw [hq'] at HC
  rw [hq]
  have HB : Hid (Below w.heap.size w (w.alloc (.cells (chL.map iv).toArray 3))) := hid ((Below.refl _ _).alloc (Nat.le_refl _) _)
  clear hl hq hq'
  go_enter Try.func84, Try.ntmps84
  go_wp2_with fail
  refine HC.out.mono ?_
  rintro e w1 ⟨rfl, hw1⟩
  rw [hw1]
  clear hw1 HC
  go_wp2
  go_ret
  exact ⟨rfl, HB.out⟩
def vb0 : Vb := ⟨2, 0, 1, 2, 0, [47, 97], [], 0, 0, 0, 0, 0, []⟩
def rp0 : Rp := ⟨1, 0, 0, 7, 0, 0, 0, 0, 0, 0, [], []⟩
theorem vb0_good : goodV vb0 = true := by decide
theorem rp0_good : goodR rp0 = true := by decide
theorem ch3 : changesB 3 = true := by decide
theorem dec_is {v : Vb} (B0 : Option Addr) (b : List UInt8) (c : Nat) (w : World) (hb : Bytes w B0 b) (hc : b.length ≤ c) (hl : b.length ≤ 140737488351232) (h : decV b = some v) :
    Calls Try.prog 85 #[.slice B0 b.length c] w fun e w' => ∃ A c, e = .returned (.tuple #[vval v A c, .int .i64 0]) ∧ Hid (Bytes w' A v.data ∧ v.data.length ≤ c ∧ Below w.heap.size w w') := by
  refine (dec_full B0 b c w hb hc hl).mono ?_
  rintro e w' (⟨v', A, c, h', he, hr⟩ | ⟨h', -⟩)
  · cases h.symm.trans h'
    exact ⟨A, c, he, hr⟩
  · rw [h] at h'; cases h'
theorem ansd_is {r : Rp} (B0 : Option Addr) (b : List UInt8) (c : Nat) (w : World) (hb : Bytes w B0 b) (hc : b.length ≤ c) (hl : b.length ≤ 140737488351232) (h : decR b = some r) :
    Calls Try.prog 89 #[.slice B0 b.length c] w fun e w' => ∃ A c B cb, e = .returned (.tuple #[rval r A c B cb, .int .i64 0]) ∧ Hid (Bytes w' A r.data ∧ r.data.length ≤ c ∧ Strs w' B r.names ∧ Below w.heap.size w w') := by
  refine (ansd_full B0 b c w hb hc hl).mono ?_
  rintro e w' (⟨r', A, c, B, cb, h', he, hr⟩ | ⟨h', -⟩)
  · cases h.symm.trans h'
    exact ⟨A, c, B, cb, he, hr⟩
  · rw [h] at h'; cases h'
set_option maxHeartbeats 2000000 in
set_option maxRecDepth 100000 in
theorem awake17_any (w : World) : Calls Try.prog 81 #[] w fun e w' => e = .returned (.bool true) ∧ Below w.heap.size w w' := by
  have HE := hid (enc_ok vb0 none 0 w (Cells.nil _ _) vb0_good)
  go_enter Try.func81, Try.ntmps81
  go_wp2_with fail
  refine HE.out.mono ?_
  clear HE
  rintro e w1 ⟨A1, c1, m1, rfl, HR1⟩
  have HD := hid (dec_is A1 m1 c1 w1 HR1.out.2.1.cells HR1.out.2.1.le.1 (by rw [HR1.out.1]; decide) (by rw [HR1.out.1]; exact decV_frame vb0_good))
  have HB1 := hid HR1.out.2.2
  clear HR1
  go_wp2_with fail
  refine HD.out.mono ?_
  clear HD
  rintro e w2 ⟨A2, c2, rfl, HR2⟩
  rw [show vval vb0 A2 c2 = .agg #[.int .i64 2, .int .i64 0, .int .i64 1, .int .i64 2, .int .i64 0, .string ⟨#[47, 97]⟩, .string ⟨#[]⟩, .int .i64 0, .int .i64 0, .int .i64 0, .int .i64 0, .int .i64 0, .slice A2 0 c2] from rfl]
  have HB2 := hid (below_t HB1.out HR2.out.2.2 HB1.out.size)
  have HE := hid (fun W => ans_ok rp0 none 0 none 0 W (Cells.nil _ _) (Cells.nil _ _) rp0_good)
  have HGC := hid (fun W => vgood_any vb0 A2 c2 W)
  rw [vb0_good] at HGC
  obtain ⟨w3, hw3⟩ : ∃ w3, w3 = w2.alloc (.cells #[.int .i64 2, .int .i64 0, .int .i64 1, .int .i64 2, .int .i64 0, .string ⟨#[47, 97]⟩, .string ⟨#[]⟩, .int .i64 0, .int .i64 0, .int .i64 0, .int .i64 0, .int .i64 0, .slice A2 0 c2] 100) := ⟨_, rfl⟩
  have HX : Hid (Blk w3 w2.heap.size 100 (vcells vb0 A2 c2)) := hid (by rw [hw3]; exact Blk.new w2 100 (vcells vb0 A2 c2))
  have HB3 : Hid (Below w.heap.size w w3) := hid (by rw [hw3]; exact HB2.out.alloc HB2.out.size _)
  have HK3 : Hid (w3.heap.size = w2.heap.size + 1) := hid (by rw [hw3]; simp)
  obtain ⟨k3, hk3⟩ : ∃ k3, w2.heap.size = k3 := ⟨_, rfl⟩
  have HW3 := hid (And.intro hw3 hk3)
  rw [hk3] at HX HK3
  clear HR2 HB1 hw3 hk3
  go_wp2_with fail
  rw [← HW3.out.1, HW3.out.2]
  clear HW3
  refine (HE.out w3).mono ?_
  clear HE
  rintro e w4 ⟨A3, c3, m3, rfl, HR4⟩
  have HD := hid (ansd_is A3 m3 c3 w4 HR4.out.2.1.cells HR4.out.2.1.le.1 (by rw [HR4.out.1]; decide) (by rw [HR4.out.1]; exact decR_frame rp0_good))
  have HX4 := hid (HX.out.below HR4.out.2.2)
  have HB4 := hid (below_t HB3.out HR4.out.2.2 HB3.out.size)
  have HK4 : Hid (k3 < w4.heap.size) := hid HX4.out.lt
  clear HR4 HX HB3 HB2 HK3
  go_wp2_with fail
  refine HD.out.mono ?_
  clear HD
  rintro e w5 ⟨A4, c4, B4, d4, rfl, HR5⟩
  rw [show rval rp0 A4 c4 B4 d4 = .agg #[.int .i64 1, .int .i64 0, .int .i64 0, .int .i64 7, .int .i64 0, .int .i64 0, .int .i64 0, .int .i64 0, .int .i64 0, .int .i64 0, .slice A4 0 c4, .slice B4 0 d4] from rfl]
  have HX5 := hid ((HX4.out.below HR5.out.2.2.2).alloc (.cells #[.int .i64 1, .int .i64 0, .int .i64 0, .int .i64 7, .int .i64 0, .int .i64 0, .int .i64 0, .int .i64 0, .int .i64 0, .int .i64 0, .slice A4 0 c4, .slice B4 0 d4] 112))
  have HB5 := hid (below_t HB4.out HR5.out.2.2.2 HB4.out.size)
  have HB6 := hid (HB5.out.alloc HB5.out.size (.cells #[.int .i64 1, .int .i64 0, .int .i64 0, .int .i64 7, .int .i64 0, .int .i64 0, .int .i64 0, .int .i64 0, .int .i64 0, .int .i64 0, .slice A4 0 c4, .slice B4 0 d4] 112))
  have HY6 := hid (Blk.new w5 112 (rcells rp0 A4 c4 B4 d4))
  have HK5 : Hid (k3 < w5.heap.size) := hid (by have := HK4.out; have := HR5.out.2.2.2.size; omega)
  obtain ⟨w6, hw6⟩ : ∃ w6, w6 = w5.alloc (.cells #[.int .i64 1, .int .i64 0, .int .i64 0, .int .i64 7, .int .i64 0, .int .i64 0, .int .i64 0, .int .i64 0, .int .i64 0, .int .i64 0, .slice A4 0 c4, .slice B4 0 d4] 112) := ⟨_, rfl⟩
  have HW6 := hid hw6
  rw [← hw6] at HX5 HB6
  have HY7 : Hid (Blk w6 w5.heap.size 112 (rcells rp0 A4 c4 B4 d4)) := hid (by rw [hw6]; exact HY6.out)
  clear HX4 HB4 HR5 HK4 HY6 HB5 hw6
  go_upto_region 5 with fail
  rw [← HW6.out]
  clear HW6
  generalize w5.heap.size = k7 at HY7 HK5 ⊢
  have x0 : w6.cell? ⟨k3, 0, none⟩ = some (.int .i64 2) := HX5.out.cell (j := 0) rfl
  have x1 : w6.cell? ⟨k3, 1, none⟩ = some (.int .i64 0) := HX5.out.cell (j := 1) rfl
  have x2 : w6.cell? ⟨k3, 2, none⟩ = some (.int .i64 1) := HX5.out.cell (j := 2) rfl
  have x3 : w6.cell? ⟨k3, 3, none⟩ = some (.int .i64 2) := HX5.out.cell (j := 3) rfl
  have x4 : w6.cell? ⟨k3, 4, none⟩ = some (.int .i64 0) := HX5.out.cell (j := 4) rfl
  have x5 : w6.cell? ⟨k3, 5, none⟩ = some (.string ⟨#[47, 97]⟩) := HX5.out.cell (j := 5) rfl
  have x6 : w6.cell? ⟨k3, 6, none⟩ = some (.string ⟨#[]⟩) := HX5.out.cell (j := 6) rfl
  have x7 : w6.cell? ⟨k3, 7, none⟩ = some (.int .i64 0) := HX5.out.cell (j := 7) rfl
  have x8 : w6.cell? ⟨k3, 8, none⟩ = some (.int .i64 0) := HX5.out.cell (j := 8) rfl
  have x9 : w6.cell? ⟨k3, 9, none⟩ = some (.int .i64 0) := HX5.out.cell (j := 9) rfl
  have x10 : w6.cell? ⟨k3, 10, none⟩ = some (.int .i64 0) := HX5.out.cell (j := 10) rfl
  have x11 : w6.cell? ⟨k3, 11, none⟩ = some (.int .i64 0) := HX5.out.cell (j := 11) rfl
  have x12 : w6.cell? ⟨k3, 12, none⟩ = some (.slice A2 0 c2) := HX5.out.cell (j := 12) rfl
  have y3 : w6.cell? ⟨k7, 3, none⟩ = some (.int .i64 7) := HY7.out.cell (j := 3) rfl
  go_wp2_with fail
  refine (HGC.out w6).mono ?_
  rintro e w7 ⟨rfl, hb7⟩
  have HC := hid (changes_any 3 w7)
  rw [ch3] at HC
  have HB7 := hid (below_t HB6.out hb7 HB6.out.size)
  clear hb7
  go_wp2_with fail
  refine HC.out.mono ?_
  rintro e w8 ⟨rfl, hb8⟩
  have HB8 := hid (below_t HB7.out hb8 HB7.out.size)
  clear hb8
  go_wp2_with fail
  go_ret
  exact ⟨rfl, HB8.out⟩
end Go.Proofs.Ytppbcdcmpcagdaa
