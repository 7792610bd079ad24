/- The law RedoTwice returns true at every input: a restart and a recovery change nothing behind a commit. No condition. -/
import Derived.Test.YtppbcdcmpcagdaaWalkRedoNone
import Derived.Test.YtppbcdcmpcagdaaWalkDriveLasts
namespace Go.Proofs.Ytppbcdcmpcagdaa
open Go.RowKit Go.CP

theorem twice_targ {n m : Nat} (hn : 26 ≤ n ∧ n < 80) (hm : 26 ≤ m ∧ m < 80) (hne : n ≠ m) {x y : List UInt8} (hx : x.length = 128) (hy : y.length = 128) : targB 80 [((n : Int), x), ((m : Int), y)] = true := by
  have h1 : okN (n : Int) = true := okN_iff.2 ⟨by omega, by omega, by omega⟩
  have h2 : okN (m : Int) = true := okN_iff.2 ⟨by omega, by omega, by omega⟩
  have h3 : fitB 80 [((n : Int), x), ((m : Int), y)] = true := fitB_iff.2 fun z hz => by
    rcases List.mem_cons.1 hz with rfl | hz
    · exact ⟨by show (n : Int) < _; omega, hx⟩
    · rw [List.mem_singleton.1 hz]
      exact ⟨by show (m : Int) < _; omega, hy⟩
  have h4 : goodB [(n : Int), (m : Int)] = true := by
    have hmn : ((m : Int) == (n : Int)) = false := by simp; omega
    have e1 : goodTo [(n : Int), (m : Int)] 1 = true := by
      rw [goodTo_succ]
      show ((goodTo _ 0) && (okN (n : Int) && !(([] : List Int).contains (n : Int)))) = true
      rw [h1]
      rfl
    have e2 : goodTo [(n : Int), (m : Int)] 2 = true := by
      rw [goodTo_succ, e1]
      show (true && (okN (m : Int) && !([(n : Int)].contains (m : Int)))) = true
      rw [h2]
      simp [List.contains, List.elem, hmn]
    show (decide (2 ≤ 24) && goodTo [(n : Int), (m : Int)] 2) = true
    rw [e2]
    rfl
  show (fitB 80 _ && goodB [(n : Int), (m : Int)]) = true
  rw [h3, h4]
  rfl
/-- A drive of 80 sectors with a log, behind a commit of two sectors. -/
def twD (n m : Int) (x y : List UInt8) : Drv := { logD 80 with sure := doneS (logD 80).sure [(n, x), (m, y)] }
theorem tw_calm (n m : Int) (x y : List UInt8) : Calm (twD n m x y) := (logD_calm (n := 80) (by decide) (by decide)).done _
theorem tw_len (n m : Int) (x y : List UInt8) : (twD n m x y).sure.length = 80 := by
  show (doneS (logD 80).sure _).length = 80
  rw [doneS_len, logD_len]
theorem tw_commit {n m : Nat} (hn : 26 ≤ n ∧ n < 80) (hm : 26 ≤ m ∧ m < 80) (hne : n ≠ m) {x y : List UInt8} (hx : x.length = 128) (hy : y.length = 128) : (logD 80).commit [((n : Int), x), ((m : Int), y)] = (0, twD n m x y) :=
  commit_calm (logD_calm (by decide) (by decide)) (by simp) (by rw [logD_len]; exact twice_targ hn hm hne hx hy)
theorem tw_restart (n m : Int) (x y : List UInt8) : (twD n m x y).restart [] = twD n m x y := rfl
theorem tw_at {n m : Nat} (hn : 26 ≤ n ∧ n < 80) (hm : 26 ≤ m ∧ m < 80) (hne : n ≠ m) {x y : List UInt8} (hx : x.length = 128) (hy : y.length = 128) : (twD n m x y).sure[n]? = some x ∧ (twD n m x y).sure[m]? = some y := by
  have ht : targB (logD 80).sure.length [((n : Int), x), ((m : Int), y)] = true := by rw [logD_len]; exact twice_targ hn hm hne hx hy
  have hl := tw_len n m x y
  have key : ∀ i : Nat, i < 80 → ∀ z : List UInt8, (twD n m x y).sure.getD i [] = z → (twD n m x y).sure[i]? = some z := fun i hi z hz => by
    rw [List.getElem?_eq_getElem (by omega)]
    rw [List.getD_eq_getElem?_getD, List.getElem?_eq_getElem (by omega)] at hz
    exact congrArg some hz
  constructor
  · refine key n hn.2 x ?_
    show (doneS (logD 80).sure [((n : Int), x), ((m : Int), y)]).getD n [] = x
    rw [doneS_at (by rw [logD_len]; decide) ht (by rw [logD_len]; omega) (by omega)]
    have hmn : ¬ (m : Int) = (n : Int) := by omega
    simp [lastL, hmn]
  · refine key m hm.2 y ?_
    show (doneS (logD 80).sure [((n : Int), x), ((m : Int), y)]).getD m [] = y
    rw [doneS_at (by rw [logD_len]; decide) ht (by rw [logD_len]; omega) (by omega)]
    simp [lastL]
theorem commit2 (W : World) (g s : Nat) (A : Option Addr) (c : Nat) (D : Drv) (h : DriveIs W g s A c D) (hf : Fit D 5000) (n m : Int) (X Y : Option Addr) (l k : List UInt8) (cx cy : Nat)
    (hs : Safe W A g s X l) (hl : l.length ≤ cx) (ht : Safe W A g s Y k) (hk : k.length ≤ cy) :
    Calls Try.prog 122 #[.pointer (some ⟨g, 0, none⟩), .slice (some ⟨W.heap.size, 0, none⟩) 2 2] (W.alloc (.cells #[.int .i64 n, .slice X l.length cx, .int .i64 m, .slice Y k.length cy] 136)) (RetDrv W g s A (D.commit [(n, l), (m, k)])) :=
  commit_lit W g s A c D h hf [⟨n, X, l, cx⟩, ⟨m, Y, k, cy⟩] (fun x hx => by
    rcases List.mem_cons.1 hx with rfl | hx
    · exact ⟨hs, hl⟩
    · rw [List.mem_singleton.1 hx]; exact ⟨ht, hk⟩) (by simp)
theorem image80 (W : World) (g s : Nat) (A : Option Addr) (c : Nat) (D : Drv) (h : DriveIs W g s A c D) (hl : D.sure.length = 80) :
    Calls Try.prog 105 #[.pointer (some ⟨g, 0, none⟩)] W fun e W' => ∃ q c xs, e = .returned (.slice (some ⟨q, 0, none⟩) 80 c) ∧ Go.CP.Own W' W.heap.size 22 1 (some ⟨q, 0, none⟩) 80 c xs ∧ Rows5 W' W.heap.size xs D.sure ∧ Below W.heap.size W W' := by
  refine (drv_image W g s A c D h (by omega)).mono ?_
  rintro e W' ⟨B, cb, xs, he, ho, hr, hb⟩
  rw [hl] at he ho
  obtain ⟨q, C, rfl, -⟩ := ho.open (by decide)
  exact ⟨q, cb, xs, he, ho, hr, hb⟩
/-- What lies behind a drive's blocks stays. -/
theorem own_droved {W0 W W' : World} {g s : Nat} {A A' : Option Addr} {c' : Nat} {D : Drv} {e : TypeId} {sz : Nat} {X : Option Addr} {n c : Nat} {xs : List Value} (hd : DriveIs W0 g s A c' D) (hv : Drove W W' g s A A') (h : Go.CP.Own W W0.heap.size e sz X n c xs) : Go.CP.Own W' W0.heap.size e sz X n c xs := by
  have hl := hd.lt
  refine own_of_block h fun k hk => ?_
  have hk2 := h.block k hk
  exact hv.2.1 k hk2.2 (by omega) (by omega) (fun e => by have := hl.2.2 k e; omega)
theorem rows_droved {W0 W W' : World} {g s : Nat} {A A' : Option Addr} {c' : Nat} {D : Drv} {xs : List Value} {ls : List (List UInt8)} (hd : DriveIs W0 g s A c' D) (hv : Drove W W' g s A A') (h : Rows5 W W0.heap.size xs ls) : Rows5 W' W0.heap.size xs ls :=
  ⟨h.1, fun i l hl => by
    obtain ⟨B, k, h1, h2⟩ := h.2 i l hl
    exact ⟨B, k, h1, own_droved hd hv h2⟩⟩
theorem bytes_drewN {w : World} {A : Option Addr} {l : List UInt8} (h : Bytes w A l) (n : Nat) : Bytes (w.drewN n) A l := h
theorem cv_drewN {w : World} {A : Option Addr} {l : List UInt8} (c : Nat) (h : Bytes w A l) (n : Nat) : (convert 22 9 (.slice A l.length c)).run Try.prog (w.drewN n) = .ok (.string (bstr l)) (w.drewN n) := cv_bytes c (bytes_drewN h n)
/-- A row of an image: its cell and its text. -/
theorem Rows5.get {w : World} {b base q n c : Nat} {xs : List Value} {ls : List (List UInt8)} (ho : Go.CP.Own w b 22 1 (some ⟨q, 0, none⟩) n c xs) (h : Rows5 w base xs ls) {i : Nat} {l : List UInt8} (hl : ls[i]? = some l) :
    ∃ (P : Option Addr) (cp : Nat), w.cell? ⟨q, i, none⟩ = some (.slice P l.length cp) ∧ ∀ k, (convert 22 9 (.slice P l.length cp)).run Try.prog (w.drewN k) = .ok (.string (bstr l)) (w.drewN k) := by
  obtain ⟨P, cp, h1, h2⟩ := h.2 i l hl
  exact ⟨P, cp, own_cell ho h1, cv_drewN cp h2.cells⟩

set_option maxHeartbeats 8000000 in
set_option maxRecDepth 100000 in
theorem redoTwice_walk (w : World) (a b at_ other : Int) (ha : 0 ≤ a ∧ a < 256) (hb : 0 ≤ b ∧ b < 256) (hc : 0 ≤ at_ ∧ at_ < 256) (hd : 0 ≤ other ∧ other < 256) :
    Calls Try.prog 39 #[.int .u8 a, .int .u8 b, .int .u8 at_, .int .u8 other] w fun e w' => e = .returned (.bool true) ∧ Below w.heap.size w w' := by
  obtain ⟨u, rfl⟩ := u8_is ha
  obtain ⟨v, rfl⟩ := u8_is hb
  obtain ⟨c1, rfl⟩ : ∃ m : Nat, at_ = m := ⟨at_.toNat, by omega⟩
  obtain ⟨d1, rfl⟩ : ∃ m : Nat, other = m := ⟨other.toNat, by omega⟩
  obtain ⟨k, hkk⟩ : ∃ k : Nat, k = c1 % 54 := ⟨_, rfl⟩
  obtain ⟨j, hjj⟩ : ∃ k : Nat, k = d1 % 54 := ⟨_, rfl⟩
  have hkm : ((c1 : Int) % 54) = (k : Int) := by omega
  have hjm : ((d1 : Int) % 54) = (j : Int) := by omega
  have hk54 : (k : Int) < 54 := by omega
  have hj54 : (j : Int) < 54 := by omega
  obtain ⟨n, hn⟩ : ∃ n : Nat, n = 26 + k := ⟨_, rfl⟩
  obtain ⟨m, hm⟩ : ∃ n : Nat, n = 26 + j := ⟨_, rfl⟩
  have hn1 : 26 + (k : Int) = (n : Int) := by omega
  have hm1 : 26 + (j : Int) = (m : Int) := by omega
  have HN : Hid (26 ≤ n ∧ n < 80) := hid (by omega)
  have HM : Hid (26 ≤ m ∧ m < 80) := hid (by omega)
  have hn80 : (n : Int) < 80 := by omega
  have hm80 : (m : Int) < 80 := by omega
  have hn0 : (0 : Int) ≤ (n : Int) := by omega
  have hm0 : (0 : Int) ≤ (m : Int) := by omega
  have hk0 : (0 : Int) ≤ (k : Int) := by omega
  have hj0 : (0 : Int) ≤ (j : Int) := by omega
  have hcb : (c1 : Int) < 256 := by omega
  have hdb : (d1 : Int) < 256 := by omega
  have hc0 : (0 : Int) ≤ (c1 : Int) := by omega
  have hd0' : (0 : Int) ≤ (d1 : Int) := by omega
  have hxl : (zA.set 1 u).length = 128 := by rw [List.length_set, zA_len']
  have hyl : (zA.set 1 v).length = 128 := by rw [List.length_set, zA_len']
  have HXL := hid hxl
  have HYL := hid hyl
  clear hkk hjj hn hm ha hb hc hd hxl hyl
  go_enter Try.func39, Try.ntmps39
  go_wp2_with fail
  refine (begin_any 80 w (by decide) (by decide)).mono ?_
  rintro e w0 ⟨g, s, A0, c0, rfl, hd0, hb0, hg, hs, hA⟩
  have HD0 := hid hd0
  clear hd0
  go_wp2_with fail
  refine (awake06_any _).mono ?_
  rintro e w1 ⟨rfl, hb1⟩
  have HD1 := hid (HD0.out.below hb1 (Nat.le_refl _))
  have HV1 : Hid (Drove w0 w1 g s A0 A0) := hid (Drove.of_below hb1)
  clear hb1
  by_cases hnm : n = m
  · subst hnm
    have HB := hid (hb0.trans (HV1.out.below (B := w.heap.size) hb0.size hg hs hA))
    go_wp2_with fail
    go_ret
    exact ⟨rfl, HB.out⟩
  have hnq : ((n : Int) == (m : Int)) = false := by simp; omega
  have hnq2 : ¬ (n : Int) = (m : Int) := by omega
  have HNM := hid hnm
  clear hnm
  go_wp2_with fail
  refine wp_region_held_drew (S := fun _ => True) (by kernel_rfl) True.intro (fun hHeld => ?_)
  refine wpAnyH_ready (rs := [0, 1]) (by kernel_rfl) (by simp) (AllReadyH.cons (o := { dst := some 37, op := Op.makeSlice 22 (Operand.const (Value.int IntKind.i64 128)) (Operand.const (Value.int IntKind.i64 128)), type := 22, pos := "law.go:199", after := #[], guard := none }) rfl (fun K hK => ?_) (AllReadyH.cons (o := { dst := some 38, op := Op.makeSlice 22 (Operand.const (Value.int IntKind.i64 128)) (Operand.const (Value.int IntKind.i64 128)), type := 22, pos := "law.go:199", after := #[], guard := none }) rfl (fun K hK => ?_) AllReadyH.nil))
  · refine st_zeros (by rfl) (by rfl) ?_
    intro w2 ho2 hb2 hz2
    refine hK.out _ _ True.intro (fun hHeld => ?_)
    clear hK
    try simp only [Act.put, List.setIfInBounds_toArray, List.set_cons_zero, List.set_cons_succ]
    refine wpAnyH_take (i := 2) (oi := { dst := some 12, op := Op.assign (Operand.tmp 37), type := 22, pos := "law.go:199", after := #[{ on := 0, ground := Ground.data }, { on := 0, ground := Ground.phase }, { on := 1, ground := Ground.textOnly Departure.lateStoresUnsure }], guard := none }) (v := .slice (some ⟨w1.heap.size, 0, none⟩) 128 128) rfl (by kernel_rfl) (by kernel_rfl) (by kernel_rfl) (fun _ _ _ h => h) (Or.inl ⟨by rfl, fun W hSw => ?_⟩) hHeld ?_
    · dsimp only at hSw
      go_simp
    try simp only [Act.put, List.setIfInBounds_toArray, List.set_cons_zero, List.set_cons_succ]
    refine wpAnyH_ready (rs := [1]) (by kernel_rfl) (by simp) (AllReadyH.cons (o := { dst := some 38, op := Op.makeSlice 22 (Operand.const (Value.int IntKind.i64 128)) (Operand.const (Value.int IntKind.i64 128)), type := 22, pos := "law.go:199", after := #[], guard := none }) rfl (fun K hK => ?_) AllReadyH.nil)
    refine st_zeros (by rfl) (by rfl) ?_
    intro w3 ho3 hb3 hz3
    refine hK.out _ _ True.intro (fun hHeld => ?_)
    clear hK
    try simp only [Act.put, List.setIfInBounds_toArray, List.set_cons_zero, List.set_cons_succ]
    refine wpAnyH_take (i := 3) (oi := { dst := some 13, op := Op.assign (Operand.tmp 38), type := 22, pos := "law.go:199", after := #[{ on := 1, ground := Ground.data }, { on := 2, ground := Ground.chain }, { on := 0, ground := Ground.phase }, { on := 1, ground := Ground.phase }, { on := 2, ground := Ground.phase }], guard := none }) (v := .slice (some ⟨w2.heap.size, 0, none⟩) 128 128) rfl (by kernel_rfl) (by kernel_rfl) (by kernel_rfl) (fun _ _ _ h => h) (Or.inl ⟨by rfl, fun W hSw => ?_⟩) hHeld ?_
    · dsimp only at hSw
      go_simp
    try simp only [Act.put, List.setIfInBounds_toArray, List.set_cons_zero, List.set_cons_succ]
    refine wpAnyH_done (by kernel_rfl) ?_ _
    have hbb : Below w1.heap.size w1 w3 := Below.trans (Below.drew (Below.refl _ _)) (below_t hb2 hb3 hb2.size)
    have hox : Go.CP.Own w3 w1.heap.size 5 1 (some ⟨w1.heap.size, 0, none⟩) 128 128 (zA.map bv) := ho2.below hb3 (Nat.le_refl _)
    have hoy : Go.CP.Own w3 w1.heap.size 5 1 (some ⟨w2.heap.size, 0, none⟩) 128 128 (zA.map bv) := ho3.mono hb2.size
    have hxy : w1.heap.size ≠ w2.heap.size := by have h : w2.heap.size = w1.heap.size + 1 := hz2; omega
    have hxg : w1.heap.size ≤ w1.heap.size := Nat.le_refl _
    have hyg : w1.heap.size ≤ w2.heap.size := hb2.size
    have HOX := hid hox
    have HOY := hid hoy
    have HXY := hid hxy
    have HBB := hid hbb
    clear hox hoy hxy hbb ho2 ho3 hb2 hb3 hz2 hz3
    have hcx := own_cell HOX.out (j := 1) (v := .int .u8 0) (by rfl)
    have hcy := own_cell HOY.out (j := 1) (v := .int .u8 0) (by rfl)
    have hfx := HOX.out.free rfl 1
    have hfy := HOY.out.free rfl 1
    have hxyn : w1.heap.size ≠ w2.heap.size := HXY.out
    go_wp2_with fail
    have ho4x : Go.CP.Own (w3.setCell ⟨w1.heap.size, 1, none⟩ (bv u)) w1.heap.size 5 1 (some ⟨w1.heap.size, 0, none⟩) 128 128 ((zA.set 1 u).map bv) := by
      rw [List.map_set]
      exact HOX.out.set rfl 1 (bv u)
    have ho5x : Go.CP.Own ((w3.setCell ⟨w1.heap.size, 1, none⟩ (bv u)).setCell ⟨w2.heap.size, 1, none⟩ (bv v)) w1.heap.size 5 1 (some ⟨w1.heap.size, 0, none⟩) 128 128 ((zA.set 1 u).map bv) := own_of_block ho4x fun j hj => Below.heap_setCell _ _ _ _ (by simp [blockOf] at hj; simp; omega)
    have ho5y : Go.CP.Own ((w3.setCell ⟨w1.heap.size, 1, none⟩ (bv u)).setCell ⟨w2.heap.size, 1, none⟩ (bv v)) w1.heap.size 5 1 (some ⟨w2.heap.size, 0, none⟩) 128 128 ((zA.set 1 v).map bv) := by
      rw [List.map_set]
      exact (own_of_block HOY.out fun j hj => Below.heap_setCell _ _ _ _ (by simp [blockOf] at hj; simp; omega)).set rfl 1 (bv v)
    have hb5 : Below w1.heap.size w1 ((w3.setCell ⟨w1.heap.size, 1, none⟩ (bv u)).setCell ⟨w2.heap.size, 1, none⟩ (bv v)) := (HBB.out.setCell (p := ⟨w1.heap.size, 1, none⟩) hxg _).setCell (p := ⟨w2.heap.size, 1, none⟩) hyg _
    have hz5 : ((w3.setCell ⟨w1.heap.size, 1, none⟩ (bv u)).setCell ⟨w2.heap.size, 1, none⟩ (bv v)).heap.size = w3.heap.size := by simp [World.setCell]
    obtain ⟨W5, hW5⟩ : ∃ W5, W5 = (w3.setCell ⟨w1.heap.size, 1, none⟩ (.int .u8 (u.toNat : Int))).setCell ⟨w2.heap.size, 1, none⟩ (.int .u8 (v.toNat : Int)) := ⟨_, rfl⟩
    rw [← hW5] at ho5x ho5y hb5 hz5 ⊢
    clear hW5 hcx hcy hfx hfy ho4x
    try rw [← hz5]
    clear hz5
    have hd5 := HD1.out.below hb5 (Nat.le_refl _)
    have hsx : Safe W5 A0 g s (some ⟨w1.heap.size, 0, none⟩) (zA.set 1 u) := Safe.mk' ho5x.cells (by rw [HXL.out]; decide) (far_new HD1.out fun j hj => by simp [blockOf] at hj; omega)
    have hsy : Safe W5 A0 g s (some ⟨w2.heap.size, 0, none⟩) (zA.set 1 v) := Safe.mk' ho5y.cells (by rw [HYL.out]; decide) (far_new HD1.out fun j hj => by simp [blockOf] at hj; omega)
    have hp := commit2 W5 g s A0 c0 (logD 80) hd5 ((logD_calm (by decide) (by decide)).fit 5000) n m _ _ (zA.set 1 u) (zA.set 1 v) 128 128 hsx (by rw [HXL.out]; decide) hsy (by rw [HYL.out]; decide)
    rw [HXL.out, HYL.out, tw_commit HN.out HM.out HNM.out HXL.out HYL.out] at hp
    have HP := hid hp
    have HSX := hid hsx
    have HSY := hid hsy
    have HV5 : Hid (Drove w0 W5 g s A0 A0) := hid (HV1.out.trans (Drove.of_below hb5))
    clear hp hsx hsy hb5 ho5x ho5y hd5
    go_wp2_with fail
    with_reducible refine HP.out.mono ?_
    clear HP
    rintro e W6 ⟨rfl, A6, c6, hd6, hv6⟩
    have HSX6 := hid (HSX.out.drove hv6)
    have HSY6 := hid (HSY.out.drove hv6)
    have HV6 := hid (HV5.out.trans hv6)
    have hp := drv_restart W6 g s A6 c6 _ hd6 (by show (0 : Nat) ≤ _; decide) none [] 0 (Cells.nil _ _) (fun h => absurd h (by decide)) (by decide)
    rw [tw_restart, show (([] : List Int).length) = 0 from rfl] at hp
    have HP := hid hp
    clear hp hd6 hv6
    go_wp2_with fail
    with_reducible refine HP.out.mono ?_
    clear HP
    rintro e W7 ⟨rfl, hd7, hv7⟩
    have HSX7 := hid (HSX6.out.drove hv7)
    have HSY7 := hid (HSY6.out.drove hv7)
    have HV7 := hid (HV6.out.trans hv7)
    have hp := recover_any W7 g s none 0 _ hd7 ((tw_calm _ _ _ _).fit 5000)
    rw [recover_calm (tw_calm _ _ _ _)] at hp
    have HP := hid hp
    clear hp hd7 hv7
    go_wp2_with fail
    with_reducible refine HP.out.mono ?_
    clear HP
    rintro e W8 ⟨rfl, A8, c8, hd8, hv8⟩
    have HSX8 := hid (HSX7.out.drove hv8)
    have HSY8 := hid (HSY7.out.drove hv8)
    have HV8 := hid (HV7.out.trans hv8)
    have HP := hid (image80 W8 g s A8 c8 _ hd8 (tw_len _ _ _ _))
    have HD8 := hid hd8
    clear hd8 hv8
    go_wp2_with fail
    with_reducible refine HP.out.mono ?_
    clear HP
    rintro e W9 ⟨q1, i1, xs1, rfl, ho9, hr9, hb9⟩
    have hd9 := HD8.out.below hb9 (Nat.le_refl _)
    have HO9 := hid ho9
    have HR9 := hid hr9
    have hv9 : Drove W8 W9 g s A8 A8 := Drove.of_below hb9
    have HSX9 := hid (HSX8.out.drove hv9)
    have HSY9 := hid (HSY8.out.drove hv9)
    have HV9 := hid (HV8.out.trans hv9)
    have hp := recover_any W9 g s A8 c8 _ hd9 ((tw_calm _ _ _ _).fit 5000)
    rw [recover_calm (tw_calm _ _ _ _)] at hp
    have HP := hid hp
    clear hp hd9 hv9 ho9 hr9 hb9
    go_wp2_with fail
    with_reducible refine HP.out.mono ?_
    clear HP
    rintro e W10 ⟨rfl, A10, c10, hd10, hv10⟩
    have HSX10 := hid (HSX9.out.drove hv10)
    have HSY10 := hid (HSY9.out.drove hv10)
    have HV10 := hid (HV9.out.trans hv10)
    have HO10 := hid (own_droved HD8.out hv10 HO9.out)
    have HR10 := hid (rows_droved HD8.out hv10 HR9.out)
    have HP := hid (image80 W10 g s A10 c10 _ hd10 (tw_len _ _ _ _))
    clear hd10 hv10 HO9 HR9
    go_wp2_with fail
    with_reducible refine HP.out.mono ?_
    clear HP
    rintro e W11 ⟨q2, i2, xs2, rfl, ho11, hr11, hb11⟩
    have HOA := hid (HO10.out.below hb11 (Nat.le_refl _))
    have HRA := hid (HR10.out.below hb11 (Nat.le_refl _))
    have HOB := hid ho11
    have HRB := hid hr11
    have HSX11 := hid (HSX10.out.below hb11)
    have HSY11 := hid (HSY10.out.below hb11)
    have HBW : Hid (Below w.heap.size w W11) := hid (hb0.trans ((HV10.out.trans (Drove.of_below hb11)).below (B := w.heap.size) hb0.size hg hs hA))
    clear ho11 hr11 hb11 HO10 HR10
    go_wp2_with fail
    go_loopw [18] (fun iv' wr => ∃ i : Nat, i ≤ 80 ∧ iv' = .int .i64 i ∧ Hid (∃ n, wr = W11.drewN n)) (fun iv' _ => 80 - (intOf iv').toNat)
    case atStart => exact ⟨0, by omega, rfl, hid ⟨0, rfl⟩⟩
    case round =>
      obtain ⟨i, hi, rfl, HW⟩ := hrel
      obtain ⟨nd, hnd⟩ := HW.out
      by_cases hlt : i < 80
      · obtain ⟨l, hl⟩ := get_of_lt (twD n m (zA.set 1 u) (zA.set 1 v)).sure (i := i) (by rw [tw_len]; exact hlt)
        obtain ⟨P1, p1, hca, hva⟩ := Rows5.get HOA.out HRA.out hl
        obtain ⟨P2, p2, hcb2, hvb⟩ := Rows5.get HOB.out HRB.out hl
        have hwa : wr.cell? ⟨q1, i, none⟩ = some (.slice P1 l.length p1) := by rw [hnd]; exact hca
        have hwb : wr.cell? ⟨q2, i, none⟩ = some (.slice P2 l.length p2) := by rw [hnd]; exact hcb2
        have hta : ∀ k, (convert 22 9 (.slice P1 l.length p1)).run Try.prog (wr.drewN k) = .ok (.string (bstr l)) (wr.drewN k) := fun k => by rw [hnd, drewN_twice]; exact hva _
        have htb : ∀ k, (convert 22 9 (.slice P2 l.length p2)).run Try.prog (wr.drewN k) = .ok (.string (bstr l)) (wr.drewN k) := fun k => by rw [hnd, drewN_twice]; exact hvb _
        have HND := hid hnd
        have hii : (i : Int) < 80 := by omega
        clear hnd HW hca hcb2 hva hvb hl
        go_wp2_with fail
        go_quiet (fail)
        go_wp2_with fail
        go_roundw
        case rel => exact ⟨i + 1, by omega, by go_num, hid ⟨_, by rw [HND.out, drewN_twice]⟩⟩
        case measure => simp [intOf]; omega
      · have hi80 : i = 80 := by omega
        subst hi80
        obtain ⟨hln, hlm⟩ := tw_at HN.out HM.out HNM.out HXL.out HYL.out
        obtain ⟨P1, p1, hca, hva⟩ := Rows5.get HOB.out HRB.out hln
        obtain ⟨P2, p2, hcb2, hvb⟩ := Rows5.get HOB.out HRB.out hlm
        rw [HXL.out] at hca hva
        rw [HYL.out] at hcb2 hvb
        have hsx := cv_drewN 128 HSX11.out.1
        have hsy := cv_drewN 128 HSY11.out.1
        rw [HXL.out] at hsx
        rw [HYL.out] at hsy
        have hwa : wr.cell? ⟨q2, n, none⟩ = some (.slice P1 128 p1) := by rw [hnd]; exact hca
        have hwb : wr.cell? ⟨q2, m, none⟩ = some (.slice P2 128 p2) := by rw [hnd]; exact hcb2
        have hta : ∀ k, (convert 22 9 (.slice P1 128 p1)).run Try.prog (wr.drewN k) = .ok (.string (bstr (zA.set 1 u))) (wr.drewN k) := fun k => by rw [hnd, drewN_twice]; exact hva _
        have htb : ∀ k, (convert 22 9 (.slice P2 128 p2)).run Try.prog (wr.drewN k) = .ok (.string (bstr (zA.set 1 v))) (wr.drewN k) := fun k => by rw [hnd, drewN_twice]; exact hvb _
        have htx : ∀ k, (convert 22 9 (.slice (some ⟨w1.heap.size, 0, none⟩) 128 128)).run Try.prog (wr.drewN k) = .ok (.string (bstr (zA.set 1 u))) (wr.drewN k) := fun k => by rw [hnd, drewN_twice]; exact hsx _
        have hty : ∀ k, (convert 22 9 (.slice (some ⟨w2.heap.size, 0, none⟩) 128 128)).run Try.prog (wr.drewN k) = .ok (.string (bstr (zA.set 1 v))) (wr.drewN k) := fun k => by rw [hnd, drewN_twice]; exact hsy _
        have HND := hid hnd
        clear hnd HW hca hcb2 hva hvb hln hlm hsx hsy hlt
        go_wp2_with fail
        go_quiet (fail)
        go_wp2_with fail
        go_ret
        refine ⟨ret_bool (by simp), ?_⟩
        exact HBW.out.trans (belowN ⟨_, by rw [HND.out, drewN_twice]⟩)
  · refine st_zeros (by rfl) (by rfl) ?_
    intro w2 ho2 hb2 hz2
    refine hK.out _ _ True.intro (fun hHeld => ?_)
    clear hK
    try simp only [Act.put, List.setIfInBounds_toArray, List.set_cons_zero, List.set_cons_succ]
    refine wpAnyH_ready (rs := [0]) (by kernel_rfl) (by simp) (AllReadyH.cons (o := { dst := some 37, op := Op.makeSlice 22 (Operand.const (Value.int IntKind.i64 128)) (Operand.const (Value.int IntKind.i64 128)), type := 22, pos := "law.go:199", after := #[], guard := none }) rfl (fun K hK => ?_) AllReadyH.nil)
    refine st_zeros (by rfl) (by rfl) ?_
    intro w3 ho3 hb3 hz3
    refine hK.out _ _ True.intro (fun hHeld => ?_)
    clear hK
    try simp only [Act.put, List.setIfInBounds_toArray, List.set_cons_zero, List.set_cons_succ]
    refine wpAnyH_take (i := 2) (oi := { dst := some 12, op := Op.assign (Operand.tmp 37), type := 22, pos := "law.go:199", after := #[{ on := 0, ground := Ground.data }, { on := 0, ground := Ground.phase }, { on := 1, ground := Ground.textOnly Departure.lateStoresUnsure }], guard := none }) (v := .slice (some ⟨w2.heap.size, 0, none⟩) 128 128) rfl (by kernel_rfl) (by kernel_rfl) (by kernel_rfl) (fun _ _ _ h => h) (Or.inl ⟨by rfl, fun W hSw => ?_⟩) hHeld ?_
    · dsimp only at hSw
      go_simp
    try simp only [Act.put, List.setIfInBounds_toArray, List.set_cons_zero, List.set_cons_succ]
    refine wpAnyH_take (i := 3) (oi := { dst := some 13, op := Op.assign (Operand.tmp 38), type := 22, pos := "law.go:199", after := #[{ on := 1, ground := Ground.data }, { on := 2, ground := Ground.chain }, { on := 0, ground := Ground.phase }, { on := 1, ground := Ground.phase }, { on := 2, ground := Ground.phase }], guard := none }) (v := .slice (some ⟨w1.heap.size, 0, none⟩) 128 128) rfl (by kernel_rfl) (by kernel_rfl) (by kernel_rfl) (fun _ _ _ h => h) (Or.inl ⟨by rfl, fun W hSw => ?_⟩) hHeld ?_
    · dsimp only at hSw
      go_simp
    try simp only [Act.put, List.setIfInBounds_toArray, List.set_cons_zero, List.set_cons_succ]
    refine wpAnyH_done (by kernel_rfl) ?_ _
    have hbb : Below w1.heap.size w1 w3 := Below.trans (Below.drew (Below.refl _ _)) (below_t hb2 hb3 hb2.size)
    have hox : Go.CP.Own w3 w1.heap.size 5 1 (some ⟨w2.heap.size, 0, none⟩) 128 128 (zA.map bv) := ho3.mono hb2.size
    have hoy : Go.CP.Own w3 w1.heap.size 5 1 (some ⟨w1.heap.size, 0, none⟩) 128 128 (zA.map bv) := ho2.below hb3 (Nat.le_refl _)
    have hxy : w2.heap.size ≠ w1.heap.size := by have h : w2.heap.size = w1.heap.size + 1 := hz2; omega
    have hxg : w1.heap.size ≤ w2.heap.size := hb2.size
    have hyg : w1.heap.size ≤ w1.heap.size := Nat.le_refl _
    have HOX := hid hox
    have HOY := hid hoy
    have HXY := hid hxy
    have HBB := hid hbb
    clear hox hoy hxy hbb ho2 ho3 hb2 hb3 hz2 hz3
    have hcx := own_cell HOX.out (j := 1) (v := .int .u8 0) (by rfl)
    have hcy := own_cell HOY.out (j := 1) (v := .int .u8 0) (by rfl)
    have hfx := HOX.out.free rfl 1
    have hfy := HOY.out.free rfl 1
    have hxyn : w2.heap.size ≠ w1.heap.size := HXY.out
    go_wp2_with fail
    have ho4x : Go.CP.Own (w3.setCell ⟨w2.heap.size, 1, none⟩ (bv u)) w1.heap.size 5 1 (some ⟨w2.heap.size, 0, none⟩) 128 128 ((zA.set 1 u).map bv) := by
      rw [List.map_set]
      exact HOX.out.set rfl 1 (bv u)
    have ho5x : Go.CP.Own ((w3.setCell ⟨w2.heap.size, 1, none⟩ (bv u)).setCell ⟨w1.heap.size, 1, none⟩ (bv v)) w1.heap.size 5 1 (some ⟨w2.heap.size, 0, none⟩) 128 128 ((zA.set 1 u).map bv) := own_of_block ho4x fun j hj => Below.heap_setCell _ _ _ _ (by simp [blockOf] at hj; simp; omega)
    have ho5y : Go.CP.Own ((w3.setCell ⟨w2.heap.size, 1, none⟩ (bv u)).setCell ⟨w1.heap.size, 1, none⟩ (bv v)) w1.heap.size 5 1 (some ⟨w1.heap.size, 0, none⟩) 128 128 ((zA.set 1 v).map bv) := by
      rw [List.map_set]
      exact (own_of_block HOY.out fun j hj => Below.heap_setCell _ _ _ _ (by simp [blockOf] at hj; simp; omega)).set rfl 1 (bv v)
    have hb5 : Below w1.heap.size w1 ((w3.setCell ⟨w2.heap.size, 1, none⟩ (bv u)).setCell ⟨w1.heap.size, 1, none⟩ (bv v)) := (HBB.out.setCell (p := ⟨w2.heap.size, 1, none⟩) hxg _).setCell (p := ⟨w1.heap.size, 1, none⟩) hyg _
    have hz5 : ((w3.setCell ⟨w2.heap.size, 1, none⟩ (bv u)).setCell ⟨w1.heap.size, 1, none⟩ (bv v)).heap.size = w3.heap.size := by simp [World.setCell]
    obtain ⟨W5, hW5⟩ : ∃ W5, W5 = (w3.setCell ⟨w2.heap.size, 1, none⟩ (.int .u8 (u.toNat : Int))).setCell ⟨w1.heap.size, 1, none⟩ (.int .u8 (v.toNat : Int)) := ⟨_, rfl⟩
    rw [← hW5] at ho5x ho5y hb5 hz5 ⊢
    clear hW5 hcx hcy hfx hfy ho4x
    try rw [← hz5]
    clear hz5
    have hd5 := HD1.out.below hb5 (Nat.le_refl _)
    have hsx : Safe W5 A0 g s (some ⟨w2.heap.size, 0, none⟩) (zA.set 1 u) := Safe.mk' ho5x.cells (by rw [HXL.out]; decide) (far_new HD1.out fun j hj => by simp [blockOf] at hj; omega)
    have hsy : Safe W5 A0 g s (some ⟨w1.heap.size, 0, none⟩) (zA.set 1 v) := Safe.mk' ho5y.cells (by rw [HYL.out]; decide) (far_new HD1.out fun j hj => by simp [blockOf] at hj; omega)
    have hp := commit2 W5 g s A0 c0 (logD 80) hd5 ((logD_calm (by decide) (by decide)).fit 5000) n m _ _ (zA.set 1 u) (zA.set 1 v) 128 128 hsx (by rw [HXL.out]; decide) hsy (by rw [HYL.out]; decide)
    rw [HXL.out, HYL.out, tw_commit HN.out HM.out HNM.out HXL.out HYL.out] at hp
    have HP := hid hp
    have HSX := hid hsx
    have HSY := hid hsy
    have HV5 : Hid (Drove w0 W5 g s A0 A0) := hid (HV1.out.trans (Drove.of_below hb5))
    clear hp hsx hsy hb5 ho5x ho5y hd5
    go_wp2_with fail
    with_reducible refine HP.out.mono ?_
    clear HP
    rintro e W6 ⟨rfl, A6, c6, hd6, hv6⟩
    have HSX6 := hid (HSX.out.drove hv6)
    have HSY6 := hid (HSY.out.drove hv6)
    have HV6 := hid (HV5.out.trans hv6)
    have hp := drv_restart W6 g s A6 c6 _ hd6 (by show (0 : Nat) ≤ _; decide) none [] 0 (Cells.nil _ _) (fun h => absurd h (by decide)) (by decide)
    rw [tw_restart, show (([] : List Int).length) = 0 from rfl] at hp
    have HP := hid hp
    clear hp hd6 hv6
    go_wp2_with fail
    with_reducible refine HP.out.mono ?_
    clear HP
    rintro e W7 ⟨rfl, hd7, hv7⟩
    have HSX7 := hid (HSX6.out.drove hv7)
    have HSY7 := hid (HSY6.out.drove hv7)
    have HV7 := hid (HV6.out.trans hv7)
    have hp := recover_any W7 g s none 0 _ hd7 ((tw_calm _ _ _ _).fit 5000)
    rw [recover_calm (tw_calm _ _ _ _)] at hp
    have HP := hid hp
    clear hp hd7 hv7
    go_wp2_with fail
    with_reducible refine HP.out.mono ?_
    clear HP
    rintro e W8 ⟨rfl, A8, c8, hd8, hv8⟩
    have HSX8 := hid (HSX7.out.drove hv8)
    have HSY8 := hid (HSY7.out.drove hv8)
    have HV8 := hid (HV7.out.trans hv8)
    have HP := hid (image80 W8 g s A8 c8 _ hd8 (tw_len _ _ _ _))
    have HD8 := hid hd8
    clear hd8 hv8
    go_wp2_with fail
    with_reducible refine HP.out.mono ?_
    clear HP
    rintro e W9 ⟨q1, i1, xs1, rfl, ho9, hr9, hb9⟩
    have hd9 := HD8.out.below hb9 (Nat.le_refl _)
    have HO9 := hid ho9
    have HR9 := hid hr9
    have hv9 : Drove W8 W9 g s A8 A8 := Drove.of_below hb9
    have HSX9 := hid (HSX8.out.drove hv9)
    have HSY9 := hid (HSY8.out.drove hv9)
    have HV9 := hid (HV8.out.trans hv9)
    have hp := recover_any W9 g s A8 c8 _ hd9 ((tw_calm _ _ _ _).fit 5000)
    rw [recover_calm (tw_calm _ _ _ _)] at hp
    have HP := hid hp
    clear hp hd9 hv9 ho9 hr9 hb9
    go_wp2_with fail
    with_reducible refine HP.out.mono ?_
    clear HP
    rintro e W10 ⟨rfl, A10, c10, hd10, hv10⟩
    have HSX10 := hid (HSX9.out.drove hv10)
    have HSY10 := hid (HSY9.out.drove hv10)
    have HV10 := hid (HV9.out.trans hv10)
    have HO10 := hid (own_droved HD8.out hv10 HO9.out)
    have HR10 := hid (rows_droved HD8.out hv10 HR9.out)
    have HP := hid (image80 W10 g s A10 c10 _ hd10 (tw_len _ _ _ _))
    clear hd10 hv10 HO9 HR9
    go_wp2_with fail
    with_reducible refine HP.out.mono ?_
    clear HP
    rintro e W11 ⟨q2, i2, xs2, rfl, ho11, hr11, hb11⟩
    have HOA := hid (HO10.out.below hb11 (Nat.le_refl _))
    have HRA := hid (HR10.out.below hb11 (Nat.le_refl _))
    have HOB := hid ho11
    have HRB := hid hr11
    have HSX11 := hid (HSX10.out.below hb11)
    have HSY11 := hid (HSY10.out.below hb11)
    have HBW : Hid (Below w.heap.size w W11) := hid (hb0.trans ((HV10.out.trans (Drove.of_below hb11)).below (B := w.heap.size) hb0.size hg hs hA))
    clear ho11 hr11 hb11 HO10 HR10
    go_wp2_with fail
    go_loopw [18] (fun iv' wr => ∃ i : Nat, i ≤ 80 ∧ iv' = .int .i64 i ∧ Hid (∃ n, wr = W11.drewN n)) (fun iv' _ => 80 - (intOf iv').toNat)
    case atStart => exact ⟨0, by omega, rfl, hid ⟨0, rfl⟩⟩
    case round =>
      obtain ⟨i, hi, rfl, HW⟩ := hrel
      obtain ⟨nd, hnd⟩ := HW.out
      by_cases hlt : i < 80
      · obtain ⟨l, hl⟩ := get_of_lt (twD n m (zA.set 1 u) (zA.set 1 v)).sure (i := i) (by rw [tw_len]; exact hlt)
        obtain ⟨P1, p1, hca, hva⟩ := Rows5.get HOA.out HRA.out hl
        obtain ⟨P2, p2, hcb2, hvb⟩ := Rows5.get HOB.out HRB.out hl
        have hwa : wr.cell? ⟨q1, i, none⟩ = some (.slice P1 l.length p1) := by rw [hnd]; exact hca
        have hwb : wr.cell? ⟨q2, i, none⟩ = some (.slice P2 l.length p2) := by rw [hnd]; exact hcb2
        have hta : ∀ k, (convert 22 9 (.slice P1 l.length p1)).run Try.prog (wr.drewN k) = .ok (.string (bstr l)) (wr.drewN k) := fun k => by rw [hnd, drewN_twice]; exact hva _
        have htb : ∀ k, (convert 22 9 (.slice P2 l.length p2)).run Try.prog (wr.drewN k) = .ok (.string (bstr l)) (wr.drewN k) := fun k => by rw [hnd, drewN_twice]; exact hvb _
        have HND := hid hnd
        have hii : (i : Int) < 80 := by omega
        clear hnd HW hca hcb2 hva hvb hl
        go_wp2_with fail
        go_quiet (fail)
        go_wp2_with fail
        go_roundw
        case rel => exact ⟨i + 1, by omega, by go_num, hid ⟨_, by rw [HND.out, drewN_twice]⟩⟩
        case measure => simp [intOf]; omega
      · have hi80 : i = 80 := by omega
        subst hi80
        obtain ⟨hln, hlm⟩ := tw_at HN.out HM.out HNM.out HXL.out HYL.out
        obtain ⟨P1, p1, hca, hva⟩ := Rows5.get HOB.out HRB.out hln
        obtain ⟨P2, p2, hcb2, hvb⟩ := Rows5.get HOB.out HRB.out hlm
        rw [HXL.out] at hca hva
        rw [HYL.out] at hcb2 hvb
        have hsx := cv_drewN 128 HSX11.out.1
        have hsy := cv_drewN 128 HSY11.out.1
        rw [HXL.out] at hsx
        rw [HYL.out] at hsy
        have hwa : wr.cell? ⟨q2, n, none⟩ = some (.slice P1 128 p1) := by rw [hnd]; exact hca
        have hwb : wr.cell? ⟨q2, m, none⟩ = some (.slice P2 128 p2) := by rw [hnd]; exact hcb2
        have hta : ∀ k, (convert 22 9 (.slice P1 128 p1)).run Try.prog (wr.drewN k) = .ok (.string (bstr (zA.set 1 u))) (wr.drewN k) := fun k => by rw [hnd, drewN_twice]; exact hva _
        have htb : ∀ k, (convert 22 9 (.slice P2 128 p2)).run Try.prog (wr.drewN k) = .ok (.string (bstr (zA.set 1 v))) (wr.drewN k) := fun k => by rw [hnd, drewN_twice]; exact hvb _
        have htx : ∀ k, (convert 22 9 (.slice (some ⟨w2.heap.size, 0, none⟩) 128 128)).run Try.prog (wr.drewN k) = .ok (.string (bstr (zA.set 1 u))) (wr.drewN k) := fun k => by rw [hnd, drewN_twice]; exact hsx _
        have hty : ∀ k, (convert 22 9 (.slice (some ⟨w1.heap.size, 0, none⟩) 128 128)).run Try.prog (wr.drewN k) = .ok (.string (bstr (zA.set 1 v))) (wr.drewN k) := fun k => by rw [hnd, drewN_twice]; exact hsy _
        have HND := hid hnd
        clear hnd HW hca hcb2 hva hvb hln hlm hsx hsy hlt
        go_wp2_with fail
        go_quiet (fail)
        go_wp2_with fail
        go_ret
        refine ⟨ret_bool (by simp), ?_⟩
        exact HBW.out.trans (belowN ⟨_, by rw [HND.out, drewN_twice]⟩)
end Go.Proofs.Ytppbcdcmpcagdaa
