/- The law DriveLasts returns true at every input: what was flushed lasts through any restart. No condition. -/
import Derived.Test.YtppbcdcmpcagdaaWalkDriveOwn
namespace Go.Proofs.Ytppbcdcmpcagdaa
open Go.RowKit Go.CP

/-- A drive of 64 sectors of zeros but for one, for whom nothing waits. -/
def sureD (n : Nat) (x : List UInt8) : Drv := ⟨(Drv.new 64).sure.set n x, [], -1, false⟩
def waitD (n : Nat) (x y : List UInt8) : Drv := ⟨(Drv.new 64).sure.set n x, [((n : Int), y)], -1, false⟩
theorem oneD_flush (n : Nat) (x : List UInt8) : (oneD n x).flush = (0, sureD n x) := by
  have h1 : (oneD n x).dead = false := rfl
  have h2 : (oneD n x).fuse ≠ 0 := by show (-1 : Int) ≠ 0; decide
  rw [Drv.flush, h1, if_neg (by simp), if_neg h2]
  simp [Drv.less, oneD, sureD, setAll]
  decide
theorem sureD_put {n : Nat} (hn : n < 64) (x : List UInt8) {y : List UInt8} (hy : y.length = 128) : (sureD n x).put [((n : Int), y)] = (0, waitD n x y) := by
  have hs : (sureD n x).sure.length = 64 := by simp [sureD, Drv.new]
  have ho : outB (sureD n x).sure.length [((n : Int), y)] = false := by rw [hs]; simp [outB]; omega
  have hl : lenB [((n : Int), y)] = false := by simp [lenB, hy]
  have h1 : (sureD n x).dead = false := rfl
  have h2 : (sureD n x).fuse ≠ 0 := by show (-1 : Int) ≠ 0; decide
  rw [Drv.put, h1, ho, hl]
  simp only [Bool.false_eq_true, if_false, putGo, if_neg h2]
  rfl
theorem waitD_get {n : Nat} (hn : n < 64) (x y : List UInt8) (keep : List Int) : ((waitD n x y).restart keep).get n = (0, if kept keep 0 then y else x) := by
  have hs : ((waitD n x y).restart keep).sure.length = 64 := by rw [Drv.restart, setKept_len]; simp [waitD, Drv.new]
  have hd : ((waitD n x y).restart keep).dead = false := rfl
  have hn64 : n < (Drv.new 64).sure.length := by simp [Drv.new]; exact hn
  rw [Drv.get, hd, hs]
  simp only [Bool.false_eq_true, if_false]
  rw [if_neg (by omega)]
  refine congrArg (Prod.mk (0 : Int)) ?_
  show (setKept keep 0 ((Drv.new 64).sure.set n x) [((n : Int), y)]).getD (n : Int).toNat [] = _
  rw [setKept, setKept, Int.toNat_natCast]
  split
  · simp [hn64]
  · simp [hn64]
/-- A new row, at a step of a region that draws its order. -/
theorem st_zeros {w : World} {ops : Array Oper} {o : Oper} {a : Act} {K : Act → World → Prop} {Q : Exit → Act → World → Prop} {E : Prop} (hgd : o.guard = none)
    (ho : o.op = .makeSlice 22 (.const (.int .i64 128)) (.const (.int .i64 128)))
    (h : ∀ w', Go.CP.Own w' w.heap.size 5 1 (some ⟨w.heap.size, 0, none⟩) 128 128 (zA.map bv) → Below w.heap.size w w' → w'.heap.size = w.heap.size + 1 → K (a.put o.dst (.slice (some ⟨w.heap.size, 0, none⟩) 128 128)) w') :
    if Region.wanted o (yielded ops a.tmps) = true then Oper.wp Try.prog o a w K Q else E := by
  have hw : Region.wanted o (yielded ops a.tmps) = true := by simp [Region.wanted, hgd]
  rw [if_pos hw]
  have hr := run_make (P := Try.prog) w 22 5 Try.t5 (.int .u8 0) Try.underlying22 info5 (by kernel_rfl) .i64 .i64 128 128 (by omega) (Int.le_refl _) (by rw [show Try.t5.bytes = 1 from by kernel_rfl]; omega) (by omega)
  have hs : Try.t5.size = 1 := by kernel_rfl
  unfold Oper.wp execOp
  simp only [ho, Act.eval, Sem.run_bind]
  rw [hr]
  simp only [Result.andThen_ok, Sem.run_pure]
  have hc : madeCells (Value.int .u8 0).cells ((128 : Int).toNat * Try.t5.size) = (zA.map bv).toArray := by
    rw [hs]
    apply Array.toList_inj.1
    rw [show (Value.int IntKind.u8 0).cells = #[Value.int .u8 0] from rfl, madeCells_one, zA, List.map_replicate]
    rfl
  rw [hc]
  refine h _ ?_ ((Below.refl _ _).alloc (Nat.le_refl _) _) (World.size_alloc _ _)
  have := Go.CP.Own.made w 5 1 128 (zA.map bv).toArray (by simp [zA_len']) (by decide)
  simpa using this

set_option maxHeartbeats 8000000 in
set_option maxRecDepth 100000 in
theorem driveLasts_walk (w : World) (n a b : Int) (KA : Option Addr) (keep : List Int) (ck : Nat) (hn : 0 ≤ n ∧ n < 256) (ha : 0 ≤ a ∧ a < 256) (hb : 0 ≤ b ∧ b < 256)
    (hk : Ints w KA keep) (_ : ∀ x ∈ keep, -9223372036854775808 ≤ x ∧ x < 9223372036854775808) (_ : keep.length ≤ ck) (hkl : keep.length ≤ 140737488351232) :
    Calls Try.prog 29 #[.int .u8 n, .int .u8 a, .int .u8 b, .slice KA keep.length ck] w fun e w' => e = .returned (.bool true) ∧ Below w.heap.size w w' := by
  obtain ⟨m, rfl⟩ : ∃ m : Nat, n = m := ⟨n.toNat, by omega⟩
  obtain ⟨u, rfl⟩ := u8_is ha
  obtain ⟨v, rfl⟩ := u8_is hb
  obtain ⟨k, hkk⟩ : ∃ k : Nat, k = m % 64 := ⟨_, rfl⟩
  have hkm : ((m : Int) % 64) = (k : Int) := by omega
  have hk64 : k < 64 := by omega
  have hk64i : (k : Int) < 64 := by omega
  have hk0 : (0 : Int) ≤ (k : Int) := by omega
  have hmi : (m : Int) < 256 := hn.2
  have hm0 : (0 : Int) ≤ m := hn.1
  have hxl : (zA.set 0 u).length = 128 := by rw [List.length_set, zA_len']
  have hyl : (zA.set 0 v).length = 128 := by rw [List.length_set, zA_len']
  have HP1 := hid (new_put hk64 hxl)
  have HP2 := hid (oneD_flush k (zA.set 0 u))
  have HP3 := hid (sureD_put hk64 (zA.set 0 u) hyl)
  have HP4 := hid (waitD_get hk64 (zA.set 0 u) (zA.set 0 v) keep)
  have HXL := hid hxl
  have HYL := hid hyl
  have HK := hid hk
  clear hkk hn ha hb hxl hyl hk
  go_enter Try.func29, Try.ntmps29
  go_wp2_with fail
  refine (new_drive 64 w (by decide) (by decide)).mono ?_
  rintro e w1 ⟨g, s, rfl, hd1, hb1, hg, hs⟩
  have HD1 := hid hd1
  clear hd1
  go_wp2_with fail
  refine wp_region_held_drew (S := fun _ => True) (by kernel_rfl) True.intro (fun hHeld => ?_)
  refine wpAnyH_ready (rs := [0, 1]) (by kernel_rfl) (by simp) (AllReadyH.cons (o := { dst := some 23, op := Op.makeSlice 22 (Operand.const (Value.int IntKind.i64 128)) (Operand.const (Value.int IntKind.i64 128)), type := 22, pos := "law.go:81", after := #[], guard := none }) rfl (fun K hK => ?_) (AllReadyH.cons (o := { dst := some 24, op := Op.makeSlice 22 (Operand.const (Value.int IntKind.i64 128)) (Operand.const (Value.int IntKind.i64 128)), type := 22, pos := "law.go:81", after := #[], guard := none }) rfl (fun K hK => ?_) AllReadyH.nil))
  · refine st_zeros (by rfl) (by rfl) ?_
    intro w2 ho2 hb2 hz2
    refine hK.out _ _ True.intro (fun hHeld => ?_)
    clear hK
    try simp only [Act.put, List.setIfInBounds_toArray, List.set_cons_zero, List.set_cons_succ]
    refine wpAnyH_take (i := 2) (oi := { dst := some 12, op := Op.assign (Operand.tmp 23), type := 22, pos := "law.go:81", after := #[{ on := 0, ground := Ground.data }, { on := 0, ground := Ground.phase }, { on := 1, ground := Ground.textOnly Departure.lateStoresUnsure }], guard := none }) (v := .slice (some ⟨w1.heap.size, 0, none⟩) 128 128) rfl (by kernel_rfl) (by kernel_rfl) (by kernel_rfl) (fun _ _ _ h => h) (Or.inl ⟨by rfl, fun W hSw => ?_⟩) hHeld ?_
    · dsimp only at hSw
      go_simp
    try simp only [Act.put, List.setIfInBounds_toArray, List.set_cons_zero, List.set_cons_succ]
    refine wpAnyH_ready (rs := [1]) (by kernel_rfl) (by simp) (AllReadyH.cons (o := { dst := some 24, op := Op.makeSlice 22 (Operand.const (Value.int IntKind.i64 128)) (Operand.const (Value.int IntKind.i64 128)), type := 22, pos := "law.go:81", after := #[], guard := none }) rfl (fun K hK => ?_) AllReadyH.nil)
    refine st_zeros (by rfl) (by rfl) ?_
    intro w3 ho3 hb3 hz3
    refine hK.out _ _ True.intro (fun hHeld => ?_)
    clear hK
    try simp only [Act.put, List.setIfInBounds_toArray, List.set_cons_zero, List.set_cons_succ]
    refine wpAnyH_take (i := 3) (oi := { dst := some 13, op := Op.assign (Operand.tmp 24), type := 22, pos := "law.go:81", after := #[{ on := 1, ground := Ground.data }, { on := 2, ground := Ground.chain }, { on := 0, ground := Ground.phase }, { on := 1, ground := Ground.phase }, { on := 2, ground := Ground.phase }], guard := none }) (v := .slice (some ⟨w2.heap.size, 0, none⟩) 128 128) rfl (by kernel_rfl) (by kernel_rfl) (by kernel_rfl) (fun _ _ _ h => h) (Or.inl ⟨by rfl, fun W hSw => ?_⟩) hHeld ?_
    · dsimp only at hSw
      go_simp
    try simp only [Act.put, List.setIfInBounds_toArray, List.set_cons_zero, List.set_cons_succ]
    refine wpAnyH_done (by kernel_rfl) ?_ _
    have hbb : Below w1.heap.size w1 w3 := Below.trans (Below.drew (Below.refl _ _)) (below_t hb2 hb3 hb2.size)
    have hox : Go.CP.Own w3 w1.heap.size 5 1 (some ⟨w1.heap.size, 0, none⟩) 128 128 (zA.map bv) := ho2.below hb3 (Nat.le_refl _)
    have hoy : Go.CP.Own w3 w1.heap.size 5 1 (some ⟨w2.heap.size, 0, none⟩) 128 128 (zA.map bv) := ho3.mono hb2.size
    have hxy : w1.heap.size ≠ w2.heap.size := by have h : w2.heap.size = w1.heap.size + 1 := hz2; omega
    have hxg : w1.heap.size ≤ w1.heap.size := Nat.le_refl _
    have hyg : w1.heap.size ≤ w2.heap.size := hb2.size
    have HOX := hid hox
    have HOY := hid hoy
    have HXY := hid hxy
    have HBB := hid hbb
    clear hox hoy hxy hbb ho2 ho3 hb2 hb3 hz2 hz3
    have hcx := own_cell HOX.out (j := 0) (v := .int .u8 0) (by rfl)
    have hcy := own_cell HOY.out (j := 0) (v := .int .u8 0) (by rfl)
    have hfx := HOX.out.free rfl 0
    have hfy := HOY.out.free rfl 0
    have hxyn : w1.heap.size ≠ w2.heap.size := HXY.out
    go_wp2_with fail
    have ho4x : Go.CP.Own (w3.setCell ⟨w1.heap.size, 0, none⟩ (bv u)) w1.heap.size 5 1 (some ⟨w1.heap.size, 0, none⟩) 128 128 ((zA.set 0 u).map bv) := by
      rw [List.map_set]
      exact HOX.out.set rfl 0 (bv u)
    have ho5x : Go.CP.Own ((w3.setCell ⟨w1.heap.size, 0, none⟩ (bv u)).setCell ⟨w2.heap.size, 0, none⟩ (bv v)) w1.heap.size 5 1 (some ⟨w1.heap.size, 0, none⟩) 128 128 ((zA.set 0 u).map bv) := own_of_block ho4x fun j hj => Below.heap_setCell _ _ _ _ (by simp [blockOf] at hj; simp; omega)
    have ho5y : Go.CP.Own ((w3.setCell ⟨w1.heap.size, 0, none⟩ (bv u)).setCell ⟨w2.heap.size, 0, none⟩ (bv v)) w1.heap.size 5 1 (some ⟨w2.heap.size, 0, none⟩) 128 128 ((zA.set 0 v).map bv) := by
      rw [List.map_set]
      exact (own_of_block HOY.out fun j hj => Below.heap_setCell _ _ _ _ (by simp [blockOf] at hj; simp; omega)).set rfl 0 (bv v)
    have hb5 : Below w1.heap.size w1 ((w3.setCell ⟨w1.heap.size, 0, none⟩ (bv u)).setCell ⟨w2.heap.size, 0, none⟩ (bv v)) := (HBB.out.setCell (p := ⟨w1.heap.size, 0, none⟩) hxg _).setCell (p := ⟨w2.heap.size, 0, none⟩) hyg _
    obtain ⟨W5, hW5⟩ : ∃ W5, W5 = (w3.setCell ⟨w1.heap.size, 0, none⟩ (.int .u8 (u.toNat : Int))).setCell ⟨w2.heap.size, 0, none⟩ (.int .u8 (v.toNat : Int)) := ⟨_, rfl⟩
    rw [← hW5] at ho5x ho5y hb5 ⊢
    clear hW5 hcx hcy hfx hfy ho4x
    with_reducible refine (awake05_any W5).mono ?_
    rintro e W6 ⟨rfl, hb6⟩
    have hb56 : Below w1.heap.size w1 W6 := below_t hb5 hb6 hb5.size
    have hd6 := HD1.out.below hb56 (Nat.le_refl _)
    have hsx : Safe W6 none g s (some ⟨w1.heap.size, 0, none⟩) (zA.set 0 u) := Safe.mk' (ho5x.below hb6 (Nat.le_refl _)).cells (by rw [HXL.out]; decide) (far_new HD1.out fun j hj => by simp [blockOf] at hj; omega)
    have hsy : Safe W6 none g s (some ⟨w2.heap.size, 0, none⟩) (zA.set 0 v) := Safe.mk' (ho5y.below hb6 (Nat.le_refl _)).cells (by rw [HYL.out]; decide) (far_new HD1.out fun j hj => by simp [blockOf] at hj; omega)
    have hp := put1 W6 g s none 0 (Drv.new 64) hd6 (by decide) (by decide) (by decide) k _ (zA.set 0 u) 128 hsx (by rw [HXL.out]; decide)
    rw [HXL.out, HP1.out] at hp
    have HP := hid hp
    have HSX := hid hsx
    have HSY := hid hsy
    have HV6 : Hid (Drove w1 W6 g s none none) := hid (Drove.of_below hb56)
    clear hp hsx hsy hb56 hb6 hb5 ho5x ho5y hd6
    go_wp2_with fail
    with_reducible refine HP.out.mono ?_
    clear HP
    rintro e W7 ⟨rfl, A7, c7, hd7, hv7⟩
    have HSX7 := hid (HSX.out.drove hv7)
    have HSY7 := hid (HSY.out.drove hv7)
    have HV7 := hid (HV6.out.trans hv7)
    have hp := drv_flush W7 g s A7 c7 _ hd7 (by show (-1 : Int) ≤ -1; decide) (by show (-1 : Int) ≤ 9223372036854775807; decide) (by show (1 : Nat) ≤ _; decide)
    rw [HP2.out] at hp
    have HP := hid hp
    clear hp hd7 hv7
    go_wp2_with fail
    with_reducible refine HP.out.mono ?_
    clear HP
    rintro e W8 ⟨rfl, A8, c8, hd8, hv8⟩
    have HSX8 := hid (HSX7.out.drove hv8)
    have HSY8 := hid (HSY7.out.drove hv8)
    have HV8 := hid (HV7.out.trans hv8)
    have hp := put1 W8 g s A8 c8 _ hd8 (by show (-1 : Int) ≤ -1; decide) (by show (-1 : Int) ≤ 9223372036854775807; decide) (by show (0 : Nat) ≤ _; decide) k _ (zA.set 0 v) 128 HSY8.out (by rw [HYL.out]; decide)
    rw [HYL.out, HP3.out] at hp
    have HP := hid hp
    clear hp hd8 hv8
    go_wp2_with fail
    with_reducible refine HP.out.mono ?_
    clear HP
    rintro e W9 ⟨rfl, A9, c9, hd9, hv9⟩
    have HSX9 := hid (HSX8.out.drove hv9)
    have HSY9 := hid (HSY8.out.drove hv9)
    have hv19 := HV8.out.trans hv9
    have HV9 := hid hv19
    have hbk : Below w.heap.size w W9 := hv19.back hb1 hg hs
    have hk9 : Ints W9 KA keep := HK.out.below hbk (Nat.le_refl _)
    have hfk : 0 < keep.length → Far KA A9 g s := fun h0 => hv19.far (fun j hj => by have := Cells.lt HK.out (by simpa using h0) j hj; exact ⟨by omega, by omega, fun e => by cases e⟩) (fun j hj => Nat.lt_of_lt_of_le (Cells.lt HK.out (by simpa using h0) j hj) hb1.size)
    have HP := hid (drv_restart W9 g s A9 c9 _ hd9 (by show (1 : Nat) ≤ _; decide) KA keep ck hk9 hfk hkl)
    clear hd9 hv9 hv19 hbk hk9 hfk
    go_wp2_with fail
    with_reducible refine HP.out.mono ?_
    clear HP
    rintro e W10 ⟨rfl, hd10, hv10⟩
    have HSX10 := hid (HSX9.out.drove hv10)
    have HSY10 := hid (HSY9.out.drove hv10)
    have HV10 := hid (HV9.out.trans hv10)
    have hs64 : ((waitD k (zA.set 0 u) (zA.set 0 v)).restart keep).sure.length = 64 := by rw [Drv.restart, setKept_len]; simp [waitD, Drv.new]
    have HP := hid (get_is W10 g s none 0 _ hd10 k (by rw [hs64]; decide) (by show (0 : Nat) ≤ _; decide) _ HP4.out)
    clear hd10 hv10 hs64
    go_wp2_with fail
    with_reducible refine HP.out.mono ?_
    clear HP
    rintro e W11 ⟨b11, rfl, hb11, hx11, hbb11⟩
    have hbw : Below w.heap.size w W11 := (HV10.out.trans (Drove.of_below hbb11)).back hb1 hg hs
    have hsx11 := HSX10.out.below hbb11
    have hsy11 := HSY10.out.below hbb11
    have hk11 : Ints W11 KA keep := HK.out.below hbw (Nat.le_refl _)
    have hcx := cv_bytes 128 hsx11.1
    have hcy := cv_bytes 128 hsy11.1
    rw [HXL.out] at hcx
    rw [HYL.out] at hcy
    have HBW := hid hbw
    by_cases hke : 0 < keep.length
    · obtain ⟨z, hz⟩ := get_of_lt keep hke
      obtain ⟨kb, ko, rfl, hkc⟩ := Ints.openq hk11 hke
      have hkz := hkc 0 z hz
      rw [Nat.add_zero] at hkz
      have hkp := kept_at hz
      rw [hkp] at hx11
      by_cases hz0 : z = 0
      · subst hz0
        have hcz := cv_bytes 128 (block_bytes hx11)
        rw [show ((0 : Int) != 0) = false from rfl] at hcz
        simp only [Bool.false_eq_true, if_false] at hcz
        rw [HXL.out] at hcz
        clear hx11 hkc hz hkp hk11 hsx11 hsy11 hbw hbb11
        go_wp2_with fail
        go_ret
        exact ⟨ret_bool (by simp), HBW.out⟩
      · have hzq : (z != 0) = true := by simpa using hz0
        have hcz := cv_bytes 128 (block_bytes hx11)
        rw [hzq, if_pos rfl, HYL.out] at hcz
        clear hx11 hkc hz hkp hk11 hsx11 hsy11 hbw hbb11 hz0
        go_wp2_with fail
        go_ret
        exact ⟨ret_bool (by simp), HBW.out⟩
    · have hkp : kept keep 0 = false := kept_out (by omega)
      rw [hkp] at hx11
      have hcz := cv_bytes 128 (block_bytes hx11)
      simp only [Bool.false_eq_true, if_false] at hcz
      rw [HXL.out] at hcz
      clear hx11 hkp hk11 hsx11 hsy11 hbw hbb11
      go_wp2_with fail
      go_ret
      exact ⟨ret_bool (by simp), HBW.out⟩
  · refine st_zeros (by rfl) (by rfl) ?_
    intro w2 ho2 hb2 hz2
    refine hK.out _ _ True.intro (fun hHeld => ?_)
    clear hK
    try simp only [Act.put, List.setIfInBounds_toArray, List.set_cons_zero, List.set_cons_succ]
    refine wpAnyH_ready (rs := [0]) (by kernel_rfl) (by simp) (AllReadyH.cons (o := { dst := some 23, op := Op.makeSlice 22 (Operand.const (Value.int IntKind.i64 128)) (Operand.const (Value.int IntKind.i64 128)), type := 22, pos := "law.go:81", after := #[], guard := none }) rfl (fun K hK => ?_) AllReadyH.nil)
    refine st_zeros (by rfl) (by rfl) ?_
    intro w3 ho3 hb3 hz3
    refine hK.out _ _ True.intro (fun hHeld => ?_)
    clear hK
    try simp only [Act.put, List.setIfInBounds_toArray, List.set_cons_zero, List.set_cons_succ]
    refine wpAnyH_take (i := 2) (oi := { dst := some 12, op := Op.assign (Operand.tmp 23), type := 22, pos := "law.go:81", after := #[{ on := 0, ground := Ground.data }, { on := 0, ground := Ground.phase }, { on := 1, ground := Ground.textOnly Departure.lateStoresUnsure }], guard := none }) (v := .slice (some ⟨w2.heap.size, 0, none⟩) 128 128) rfl (by kernel_rfl) (by kernel_rfl) (by kernel_rfl) (fun _ _ _ h => h) (Or.inl ⟨by rfl, fun W hSw => ?_⟩) hHeld ?_
    · dsimp only at hSw
      go_simp
    try simp only [Act.put, List.setIfInBounds_toArray, List.set_cons_zero, List.set_cons_succ]
    refine wpAnyH_take (i := 3) (oi := { dst := some 13, op := Op.assign (Operand.tmp 24), type := 22, pos := "law.go:81", after := #[{ on := 1, ground := Ground.data }, { on := 2, ground := Ground.chain }, { on := 0, ground := Ground.phase }, { on := 1, ground := Ground.phase }, { on := 2, ground := Ground.phase }], guard := none }) (v := .slice (some ⟨w1.heap.size, 0, none⟩) 128 128) rfl (by kernel_rfl) (by kernel_rfl) (by kernel_rfl) (fun _ _ _ h => h) (Or.inl ⟨by rfl, fun W hSw => ?_⟩) hHeld ?_
    · dsimp only at hSw
      go_simp
    try simp only [Act.put, List.setIfInBounds_toArray, List.set_cons_zero, List.set_cons_succ]
    refine wpAnyH_done (by kernel_rfl) ?_ _
    have hbb : Below w1.heap.size w1 w3 := Below.trans (Below.drew (Below.refl _ _)) (below_t hb2 hb3 hb2.size)
    have hox : Go.CP.Own w3 w1.heap.size 5 1 (some ⟨w2.heap.size, 0, none⟩) 128 128 (zA.map bv) := ho3.mono hb2.size
    have hoy : Go.CP.Own w3 w1.heap.size 5 1 (some ⟨w1.heap.size, 0, none⟩) 128 128 (zA.map bv) := ho2.below hb3 (Nat.le_refl _)
    have hxy : w2.heap.size ≠ w1.heap.size := by have h : w2.heap.size = w1.heap.size + 1 := hz2; omega
    have hxg : w1.heap.size ≤ w2.heap.size := hb2.size
    have hyg : w1.heap.size ≤ w1.heap.size := Nat.le_refl _
    have HOX := hid hox
    have HOY := hid hoy
    have HXY := hid hxy
    have HBB := hid hbb
    clear hox hoy hxy hbb ho2 ho3 hb2 hb3 hz2 hz3
    have hcx := own_cell HOX.out (j := 0) (v := .int .u8 0) (by rfl)
    have hcy := own_cell HOY.out (j := 0) (v := .int .u8 0) (by rfl)
    have hfx := HOX.out.free rfl 0
    have hfy := HOY.out.free rfl 0
    have hxyn : w2.heap.size ≠ w1.heap.size := HXY.out
    go_wp2_with fail
    have ho4x : Go.CP.Own (w3.setCell ⟨w2.heap.size, 0, none⟩ (bv u)) w1.heap.size 5 1 (some ⟨w2.heap.size, 0, none⟩) 128 128 ((zA.set 0 u).map bv) := by
      rw [List.map_set]
      exact HOX.out.set rfl 0 (bv u)
    have ho5x : Go.CP.Own ((w3.setCell ⟨w2.heap.size, 0, none⟩ (bv u)).setCell ⟨w1.heap.size, 0, none⟩ (bv v)) w1.heap.size 5 1 (some ⟨w2.heap.size, 0, none⟩) 128 128 ((zA.set 0 u).map bv) := own_of_block ho4x fun j hj => Below.heap_setCell _ _ _ _ (by simp [blockOf] at hj; simp; omega)
    have ho5y : Go.CP.Own ((w3.setCell ⟨w2.heap.size, 0, none⟩ (bv u)).setCell ⟨w1.heap.size, 0, none⟩ (bv v)) w1.heap.size 5 1 (some ⟨w1.heap.size, 0, none⟩) 128 128 ((zA.set 0 v).map bv) := by
      rw [List.map_set]
      exact (own_of_block HOY.out fun j hj => Below.heap_setCell _ _ _ _ (by simp [blockOf] at hj; simp; omega)).set rfl 0 (bv v)
    have hb5 : Below w1.heap.size w1 ((w3.setCell ⟨w2.heap.size, 0, none⟩ (bv u)).setCell ⟨w1.heap.size, 0, none⟩ (bv v)) := (HBB.out.setCell (p := ⟨w2.heap.size, 0, none⟩) hxg _).setCell (p := ⟨w1.heap.size, 0, none⟩) hyg _
    obtain ⟨W5, hW5⟩ : ∃ W5, W5 = (w3.setCell ⟨w2.heap.size, 0, none⟩ (.int .u8 (u.toNat : Int))).setCell ⟨w1.heap.size, 0, none⟩ (.int .u8 (v.toNat : Int)) := ⟨_, rfl⟩
    rw [← hW5] at ho5x ho5y hb5 ⊢
    clear hW5 hcx hcy hfx hfy ho4x
    with_reducible refine (awake05_any W5).mono ?_
    rintro e W6 ⟨rfl, hb6⟩
    have hb56 : Below w1.heap.size w1 W6 := below_t hb5 hb6 hb5.size
    have hd6 := HD1.out.below hb56 (Nat.le_refl _)
    have hsx : Safe W6 none g s (some ⟨w2.heap.size, 0, none⟩) (zA.set 0 u) := Safe.mk' (ho5x.below hb6 (Nat.le_refl _)).cells (by rw [HXL.out]; decide) (far_new HD1.out fun j hj => by simp [blockOf] at hj; omega)
    have hsy : Safe W6 none g s (some ⟨w1.heap.size, 0, none⟩) (zA.set 0 v) := Safe.mk' (ho5y.below hb6 (Nat.le_refl _)).cells (by rw [HYL.out]; decide) (far_new HD1.out fun j hj => by simp [blockOf] at hj; omega)
    have hp := put1 W6 g s none 0 (Drv.new 64) hd6 (by decide) (by decide) (by decide) k _ (zA.set 0 u) 128 hsx (by rw [HXL.out]; decide)
    rw [HXL.out, HP1.out] at hp
    have HP := hid hp
    have HSX := hid hsx
    have HSY := hid hsy
    have HV6 : Hid (Drove w1 W6 g s none none) := hid (Drove.of_below hb56)
    clear hp hsx hsy hb56 hb6 hb5 ho5x ho5y hd6
    go_wp2_with fail
    with_reducible refine HP.out.mono ?_
    clear HP
    rintro e W7 ⟨rfl, A7, c7, hd7, hv7⟩
    have HSX7 := hid (HSX.out.drove hv7)
    have HSY7 := hid (HSY.out.drove hv7)
    have HV7 := hid (HV6.out.trans hv7)
    have hp := drv_flush W7 g s A7 c7 _ hd7 (by show (-1 : Int) ≤ -1; decide) (by show (-1 : Int) ≤ 9223372036854775807; decide) (by show (1 : Nat) ≤ _; decide)
    rw [HP2.out] at hp
    have HP := hid hp
    clear hp hd7 hv7
    go_wp2_with fail
    with_reducible refine HP.out.mono ?_
    clear HP
    rintro e W8 ⟨rfl, A8, c8, hd8, hv8⟩
    have HSX8 := hid (HSX7.out.drove hv8)
    have HSY8 := hid (HSY7.out.drove hv8)
    have HV8 := hid (HV7.out.trans hv8)
    have hp := put1 W8 g s A8 c8 _ hd8 (by show (-1 : Int) ≤ -1; decide) (by show (-1 : Int) ≤ 9223372036854775807; decide) (by show (0 : Nat) ≤ _; decide) k _ (zA.set 0 v) 128 HSY8.out (by rw [HYL.out]; decide)
    rw [HYL.out, HP3.out] at hp
    have HP := hid hp
    clear hp hd8 hv8
    go_wp2_with fail
    with_reducible refine HP.out.mono ?_
    clear HP
    rintro e W9 ⟨rfl, A9, c9, hd9, hv9⟩
    have HSX9 := hid (HSX8.out.drove hv9)
    have HSY9 := hid (HSY8.out.drove hv9)
    have hv19 := HV8.out.trans hv9
    have HV9 := hid hv19
    have hbk : Below w.heap.size w W9 := hv19.back hb1 hg hs
    have hk9 : Ints W9 KA keep := HK.out.below hbk (Nat.le_refl _)
    have hfk : 0 < keep.length → Far KA A9 g s := fun h0 => hv19.far (fun j hj => by have := Cells.lt HK.out (by simpa using h0) j hj; exact ⟨by omega, by omega, fun e => by cases e⟩) (fun j hj => Nat.lt_of_lt_of_le (Cells.lt HK.out (by simpa using h0) j hj) hb1.size)
    have HP := hid (drv_restart W9 g s A9 c9 _ hd9 (by show (1 : Nat) ≤ _; decide) KA keep ck hk9 hfk hkl)
    clear hd9 hv9 hv19 hbk hk9 hfk
    go_wp2_with fail
    with_reducible refine HP.out.mono ?_
    clear HP
    rintro e W10 ⟨rfl, hd10, hv10⟩
    have HSX10 := hid (HSX9.out.drove hv10)
    have HSY10 := hid (HSY9.out.drove hv10)
    have HV10 := hid (HV9.out.trans hv10)
    have hs64 : ((waitD k (zA.set 0 u) (zA.set 0 v)).restart keep).sure.length = 64 := by rw [Drv.restart, setKept_len]; simp [waitD, Drv.new]
    have HP := hid (get_is W10 g s none 0 _ hd10 k (by rw [hs64]; decide) (by show (0 : Nat) ≤ _; decide) _ HP4.out)
    clear hd10 hv10 hs64
    go_wp2_with fail
    with_reducible refine HP.out.mono ?_
    clear HP
    rintro e W11 ⟨b11, rfl, hb11, hx11, hbb11⟩
    have hbw : Below w.heap.size w W11 := (HV10.out.trans (Drove.of_below hbb11)).back hb1 hg hs
    have hsx11 := HSX10.out.below hbb11
    have hsy11 := HSY10.out.below hbb11
    have hk11 : Ints W11 KA keep := HK.out.below hbw (Nat.le_refl _)
    have hcx := cv_bytes 128 hsx11.1
    have hcy := cv_bytes 128 hsy11.1
    rw [HXL.out] at hcx
    rw [HYL.out] at hcy
    have HBW := hid hbw
    by_cases hke : 0 < keep.length
    · obtain ⟨z, hz⟩ := get_of_lt keep hke
      obtain ⟨kb, ko, rfl, hkc⟩ := Ints.openq hk11 hke
      have hkz := hkc 0 z hz
      rw [Nat.add_zero] at hkz
      have hkp := kept_at hz
      rw [hkp] at hx11
      by_cases hz0 : z = 0
      · subst hz0
        have hcz := cv_bytes 128 (block_bytes hx11)
        rw [show ((0 : Int) != 0) = false from rfl] at hcz
        simp only [Bool.false_eq_true, if_false] at hcz
        rw [HXL.out] at hcz
        clear hx11 hkc hz hkp hk11 hsx11 hsy11 hbw hbb11
        go_wp2_with fail
        go_ret
        exact ⟨ret_bool (by simp), HBW.out⟩
      · have hzq : (z != 0) = true := by simpa using hz0
        have hcz := cv_bytes 128 (block_bytes hx11)
        rw [hzq, if_pos rfl, HYL.out] at hcz
        clear hx11 hkc hz hkp hk11 hsx11 hsy11 hbw hbb11 hz0
        go_wp2_with fail
        go_ret
        exact ⟨ret_bool (by simp), HBW.out⟩
    · have hkp : kept keep 0 = false := kept_out (by omega)
      rw [hkp] at hx11
      have hcz := cv_bytes 128 (block_bytes hx11)
      simp only [Bool.false_eq_true, if_false] at hcz
      rw [HXL.out] at hcz
      clear hx11 hkp hk11 hsx11 hsy11 hbw hbb11
      go_wp2_with fail
      go_ret
      exact ⟨ret_bool (by simp), HBW.out⟩
end Go.Proofs.Ytppbcdcmpcagdaa
