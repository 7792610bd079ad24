/- Contract of redo's Heads. -/
import Derived.Test.YtppbcdcmpcagdaaRedoH
import Derived.Deep.RegionHeld3
import Derived.Deep.AppendLies
namespace Go.Proofs.Ytppbcdcmpcagdaa
open Go.RowKit Go.CP

theorem ap_ints {w : World} {ops : Array Oper} {rest : List Oper} {o : Oper} {a : Act} {Q : Exit → Act → World → Prop} (hgd : o.guard = none) (s x : Operand) (tx : TypeId)
    (ho : o.op = .call { callee := .builtin .append, args := #[s, x], argTypes := #[130, tx] }) (base : Nat)
    {A : Option Addr} {n c : Nat} {xs : List Value} (hs : a.eval s = .slice A n c) (hown : Go.CP.Own w base 3 1 A n c xs)
    {vx : Value} {m : Nat} {news : List Value} (hvx : a.eval x = vx) (hx : Src Try.prog w 1 (.int .i64 0) tx vx m news)
    (hbytes : (n + m) * 8 ≤ 225000000000000) (hbase : base ≤ w.heap.size)
    (h : ∀ A' c' w', Go.CP.Own w' base 3 1 A' (n + m) c' (xs ++ news) → w.grownBy w' (blockOf A) → wpList Try.prog ops Q rest (a.put o.dst (.slice A' (n + m) c')) w') : wpList Try.prog ops Q (o :: rest) a w :=
  wpList_append_Own w hgd s x 130 tx ho base 3 Try.t3 (.int .i64 0) 1 8 Try.underlying130 info3 (by kernel_rfl) (by kernel_rfl) (by kernel_rfl) rfl (by decide) (by decide) (by decide) A n c xs hs hown vx m news hvx hx hbytes hbase h
/-- An append of ints, at a step of a region that draws its order. -/
theorem st_ints {w : World} {ops : Array Oper} {o : Oper} {a : Act} {K : Act → World → Prop} {Q : Exit → Act → World → Prop} {E : Prop} (hgd : o.guard = none) (s x : Operand) (tx : TypeId)
    (ho : o.op = .call { callee := .builtin .append, args := #[s, x], argTypes := #[130, tx] }) (base : Nat)
    {A : Option Addr} {n c : Nat} {xs : List Value} (hs : a.eval s = .slice A n c) (hown : Go.CP.Own w base 3 1 A n c xs)
    {vx : Value} {m : Nat} {news : List Value} (hvx : a.eval x = vx) (hx : Src Try.prog w 1 (.int .i64 0) tx vx m news)
    (hbytes : (n + m) * 8 ≤ 225000000000000) (hbase : base ≤ w.heap.size)
    (h : ∀ A' c' w', Go.CP.Own w' base 3 1 A' (n + m) c' (xs ++ news) → w.grownBy w' (blockOf A) → K (a.put o.dst (.slice A' (n + m) c')) w') :
    if Region.wanted o (yielded ops a.tmps) = true then Oper.wp Try.prog o a w K Q else E := by
  have hw : Region.wanted o (yielded ops a.tmps) = true := by simp [Region.wanted, hgd]
  rw [if_pos hw]
  exact wp_append_Own' w s x 130 tx ho base 3 Try.t3 (.int .i64 0) 1 8 Try.underlying130 info3 (by kernel_rfl) (by kernel_rfl) (by kernel_rfl) rfl (by decide) (by decide) (by decide) A n c xs hs hown vx m news hvx hx hbytes hbase fun A' c' w' h1 h2 _ => h A' c' w' h1 h2
theorem or8R (x y : UInt8) : bits .or .i64 (x.toNat : Int) ((y.toNat : Int) * 256) = ((x.toNat + 256 * y.toNat : Nat) : Int) := by
  have hx := x.toNat_lt
  have hy := y.toNat_lt
  have e : ((y.toNat : Int) * 256) = ((256 * y.toNat : Nat) : Int) := by omega
  rw [e, (bits_nat .i64 48 (by decide) (fun n h0 h1 => by rw [IntKind.wrap_i64]; omega) x.toNat (256 * y.toNat) (by omega) (by omega)).2]
  have := Nat.two_pow_add_eq_or_of_lt (i := 8) (b := x.toNat) hx y.toNat
  rw [show (2 : Nat) ^ 8 = 256 from rfl] at this
  rw [Nat.or_comm, ← this, Nat.add_comm]
/-- What Heads hands back. -/
def RetHeads (r : Option (List Int)) (w : World) (e : Ending) (w' : World) : Prop :=
  Below w.heap.size w w' ∧ ((∃ l B c, r = some l ∧ e = .returned (.tuple #[.slice B l.length c, .int .i64 0]) ∧ Go.CP.Own w' w.heap.size 3 1 B l.length c (l.map iv)) ∨ (r = none ∧ e = .returned (.tuple #[.slice none 0 0, .int .i64 2])))
theorem heads_short (A : Option Addr) (n c : Nat) (w : World) (h : n ≠ 128) : Calls Try.prog 117 #[.slice A n c] w fun e w' => e = .returned (.tuple #[.slice none 0 0, .int .i64 2]) ∧ w' = w := by
  have hq : ((n : Int) == 128) = false := by simp; omega
  have hq2 : ((n : Int) != 128) = true := by simp; omega
  clear h
  go_enter Try.func117, Try.ntmps117
  go_wp2
  go_ret2
  exact ⟨rfl, rfl⟩
/-- The first i numbers that bytes spell. -/
def outTo (b : List UInt8) (i : Nat) : List Int := (List.range i).map fun i => (((b.getD (8 + 2 * i) 0).toNat + 256 * (b.getD (9 + 2 * i) 0).toNat : Nat) : Int)
theorem outTo_len (b : List UInt8) (i : Nat) : (outTo b i).length = i := by simp [outTo]
theorem outTo_succ (b : List UInt8) (i : Nat) : outTo b (i + 1) = outTo b i ++ [(((b.getD (8 + 2 * i) 0).toNat + 256 * (b.getD (9 + 2 * i) 0).toNat : Nat) : Int)] := by simp [outTo, List.range_succ]
set_option maxHeartbeats 4000000 in
set_option maxRecDepth 100000 in
theorem heads_full (g off : Nat) (b : List UInt8) (c : Nat) (w : World) (hb : Bytes w (some ⟨g, off, none⟩) b) (hbl : b.length = 128) :
    Calls Try.prog 117 #[.slice (some ⟨g, off, none⟩) 128 c] w (RetHeads (headsL b) w) := by
  obtain ⟨x4, hx4⟩ := get_of_lt b (i := 4) (by omega)
  have hg4 : b.getD 4 0 = x4 := by rw [List.getD_eq_getElem?_getD, hx4]; rfl
  obtain ⟨g', off', e0, hcell⟩ := Bytes.openq hb (by omega)
  cases e0
  have c4 := hcell 4 x4 hx4
  have HC0 := hid c4
  have h4lt := x4.toNat_lt
  have h4i : (x4.toNat : Int) < 256 := by omega
  have hwx : IntKind.i64.wrap (x4.toNat : Int) = x4.toNat := by rw [IntKind.wrap_i64]; omega
  have HB := hid hb
  have HBL := hid hbl
  have HG4 := hid hg4
  clear hb hbl hx4 hg4 hcell
  by_cases h24 : x4.toNat ≤ 24
  · have h24i : ¬ (24 : Int) < (x4.toNat : Int) := by omega
    obtain ⟨k, hk⟩ : ∃ k : Nat, k = x4.toNat := ⟨_, rfl⟩
    have HK := hid hk
    have HOR : Hid (outR b = outTo b k) := hid (by rw [outR, HG4.out, ← hk]; rfl)
    rw [← hk] at c4 h24i hwx h4i
    clear hk
    go_enter Try.func117, Try.ntmps117
    go_wp2_with fail
    go_loopw [4, 19] (fun ov iv' wr => ∃ (i : Nat) (B : Option Addr) (cb : Nat), i ≤ k ∧ iv' = .int .i64 i ∧ ov = .slice B i cb ∧ Hid (Go.CP.Own wr w.heap.size 3 1 B i cb ((outTo b i).map iv) ∧ Below w.heap.size w wr)) (fun _ iv' _ => k - (intOf iv').toNat)
    case atStart => exact ⟨0, none, 0, by omega, rfl, rfl, hid ⟨Go.CP.Own.none _ _ _ _, Below.refl _ _⟩⟩
    case round =>
      clear c4
      obtain ⟨i, B, cb, hi, rfl, rfl, HI⟩ := hrel
      by_cases hlt : i < k
      · have hki : k ≤ 24 := by omega
        obtain ⟨x, hx⟩ := get_of_lt b (i := 8 + 2 * i) (by have := HBL.out; omega)
        obtain ⟨y, hy⟩ := get_of_lt b (i := 9 + 2 * i) (by have := HBL.out; omega)
        have hgx : b.getD (8 + 2 * i) 0 = x := by rw [List.getD_eq_getElem?_getD, hx]; rfl
        have hgy : b.getD (9 + 2 * i) 0 = y := by rw [List.getD_eq_getElem?_getD, hy]; rfl
        obtain ⟨g', off', e0, hcell⟩ := Bytes.openq (Cells.below HB.out HI.out.2 (Nat.le_refl _)) (by have := HBL.out; simp; omega)
        cases e0
        have cx := hcell _ x hx
        have cy := hcell _ y hy
        have hlg := World.block_lt_of_cell? wr _ cx
        have hx256 := x.toNat_lt
        have hy256 := y.toNat_lt
        have hS : wr.drew.cell? ⟨g, off + (8 + 2 * i), none⟩ = some (bv x) ∧ wr.drew.cell? ⟨g, off + (9 + 2 * i), none⟩ = some (bv y) := ⟨cx, cy⟩
        have HOUT : Hid (outTo b (i + 1) = outTo b i ++ [((x.toNat + 256 * y.toNat : Nat) : Int)]) := hid (by rw [outTo_succ, hgx, hgy])
        have hw1 : IntKind.i64.wrap (2 * (i : Int)) = 2 * (i : Int) := by rw [IntKind.wrap_i64]; omega
        have hw2 : IntKind.i64.wrap (8 + 2 * (i : Int)) = 8 + 2 * (i : Int) := by rw [IntKind.wrap_i64]; omega
        have hw3 : IntKind.i64.wrap (9 + 2 * (i : Int)) = 9 + 2 * (i : Int) := by rw [IntKind.wrap_i64]; omega
        have hw4 : IntKind.i64.wrap (x.toNat : Int) = x.toNat := by rw [IntKind.wrap_i64]; omega
        have hw5 : IntKind.i64.wrap (y.toNat : Int) = y.toNat := by rw [IntKind.wrap_i64]; omega
        have hw6 : IntKind.i64.wrap ((y.toNat : Int) * 256) = (y.toNat : Int) * 256 := by rw [IntKind.wrap_i64]; omega
        have hn1 : (8 + 2 * (i : Int)).toNat = 8 + 2 * i := by omega
        have hn2 : (9 + 2 * (i : Int)).toNat = 9 + 2 * i := by omega
        have hb1 : (0 : Int) ≤ 8 + 2 * (i : Int) ∧ 8 + 2 * (i : Int) < 128 ∧ (0 : Int) ≤ 9 + 2 * (i : Int) ∧ 9 + 2 * (i : Int) < 128 := by omega
        obtain ⟨hb1, hb2, hb3, hb4⟩ := hb1
        have hor := or8R x y
        have hlg' : g < wr.heap.size := hlg
        clear hx hy hgx hgy hcell cx cy
        go_wp2_with fail
        refine wp_region_held_drew (S := fun Wc => Wc.cell? ⟨g, off + (8 + 2 * i), none⟩ = some (bv x) ∧ Wc.cell? ⟨g, off + (9 + 2 * i), none⟩ = some (bv y)) (by kernel_rfl) hS (fun hHeld => ?_)
        refine wpAnyH_take (i := 0) (oi := { dst := some 22, op := Op.move (Operand.tmp 4), type := 130, pos := "redo.go:53", after := #[], guard := none }) (v := .slice B i cb) rfl (by kernel_rfl) (by kernel_rfl) (by kernel_rfl) (fun _ _ _ h => h) (Or.inl ⟨by rfl, fun W hSw => ?_⟩) hHeld ?_
        · dsimp only at hSw
          go_simp
        try simp only [Act.put, List.setIfInBounds_toArray, List.set_cons_zero, List.set_cons_succ]
        refine wpAnyH_take (i := 1) (oi := { dst := some 23, op := Op.move (Operand.tmp 0), type := 22, pos := "redo.go:53", after := #[], guard := none }) (v := .slice (some ⟨g, off, none⟩) 128 c) rfl (by kernel_rfl) (by kernel_rfl) (by kernel_rfl) (fun _ _ _ h => h) (Or.inl ⟨by rfl, fun W hSw => ?_⟩) hHeld ?_
        · dsimp only at hSw
          go_simp
        try simp only [Act.put, List.setIfInBounds_toArray, List.set_cons_zero, List.set_cons_succ]
        refine wpAnyH_take (i := 2) (oi := { dst := some 24, op := Op.move (Operand.tmp 6), type := 3, pos := "redo.go:53", after := #[], guard := none }) (v := .int .i64 i) rfl (by kernel_rfl) (by kernel_rfl) (by kernel_rfl) (fun _ _ _ h => h) (Or.inl ⟨by rfl, fun W hSw => ?_⟩) hHeld ?_
        · dsimp only at hSw
          go_simp
        try simp only [Act.put, List.setIfInBounds_toArray, List.set_cons_zero, List.set_cons_succ]
        refine wpAnyH_take (i := 3) (oi := { dst := some 25, op := Op.binOp BinOp.mul 3 (Operand.const (Value.int IntKind.i64 2)) (Operand.tmp 24) 3, type := 3, pos := "redo.go:53", after := #[{ on := 2, ground := Ground.data }], guard := none }) (v := .int .i64 (2 * (i : Int))) rfl (by kernel_rfl) (by kernel_rfl) (by kernel_rfl) (fun _ _ _ h => h) (Or.inl ⟨by rfl, fun W hSw => ?_⟩) hHeld ?_
        · dsimp only at hSw
          go_simp
        try simp only [Act.put, List.setIfInBounds_toArray, List.set_cons_zero, List.set_cons_succ]
        refine wpAnyH_take (i := 4) (oi := { dst := some 26, op := Op.binOp BinOp.add 3 (Operand.const (Value.int IntKind.i64 8)) (Operand.tmp 25) 3, type := 3, pos := "redo.go:53", after := #[{ on := 3, ground := Ground.data }], guard := none }) (v := .int .i64 (8 + 2 * (i : Int))) rfl (by kernel_rfl) (by kernel_rfl) (by kernel_rfl) (fun _ _ _ h => h) (Or.inl ⟨by rfl, fun W hSw => ?_⟩) hHeld ?_
        · dsimp only at hSw
          go_simp
        try simp only [Act.put, List.setIfInBounds_toArray, List.set_cons_zero, List.set_cons_succ]
        refine wpAnyH_take (i := 5) (oi := { dst := some 27, op := Op.indexAddr 22 (Operand.tmp 23) (Operand.tmp 26), type := 0, pos := "redo.go:53", after := #[{ on := 1, ground := Ground.data }, { on := 4, ground := Ground.data }], guard := none }) (v := .pointer (some ⟨g, off + (8 + 2 * i), none⟩)) rfl (by kernel_rfl) (by kernel_rfl) (by kernel_rfl) (fun _ _ _ h => h) (Or.inl ⟨by rfl, fun W hSw => ?_⟩) hHeld ?_
        · dsimp only at hSw
          go_simp
        try simp only [Act.put, List.setIfInBounds_toArray, List.set_cons_zero, List.set_cons_succ]
        refine wpAnyH_take (i := 6) (oi := { dst := some 28, op := Op.load 5 (Operand.tmp 27), type := 5, pos := "redo.go:53", after := #[{ on := 5, ground := Ground.data }], guard := none }) (v := bv x) rfl (by kernel_rfl) (by kernel_rfl) (by kernel_rfl) (fun _ _ _ h => h) (Or.inl ⟨by rfl, fun W hSw => ?_⟩) hHeld ?_
        · dsimp only at hSw
          go_simp
        try simp only [Act.put, List.setIfInBounds_toArray, List.set_cons_zero, List.set_cons_succ]
        refine wpAnyH_take (i := 7) (oi := { dst := some 29, op := Op.convert 5 3 (Operand.tmp 28), type := 3, pos := "redo.go:53", after := #[{ on := 6, ground := Ground.data }], guard := none }) (v := .int .i64 x.toNat) rfl (by kernel_rfl) (by kernel_rfl) (by kernel_rfl) (fun _ _ _ h => h) (Or.inl ⟨by rfl, fun W hSw => ?_⟩) hHeld ?_
        · dsimp only at hSw
          go_simp
        try simp only [Act.put, List.setIfInBounds_toArray, List.set_cons_zero, List.set_cons_succ]
        refine wpAnyH_take (i := 8) (oi := { dst := some 30, op := Op.move (Operand.tmp 0), type := 22, pos := "redo.go:53", after := #[], guard := none }) (v := .slice (some ⟨g, off, none⟩) 128 c) rfl (by kernel_rfl) (by kernel_rfl) (by kernel_rfl) (fun _ _ _ h => h) (Or.inl ⟨by rfl, fun W hSw => ?_⟩) hHeld ?_
        · dsimp only at hSw
          go_simp
        try simp only [Act.put, List.setIfInBounds_toArray, List.set_cons_zero, List.set_cons_succ]
        refine wpAnyH_take (i := 9) (oi := { dst := some 31, op := Op.move (Operand.tmp 6), type := 3, pos := "redo.go:53", after := #[], guard := none }) (v := .int .i64 i) rfl (by kernel_rfl) (by kernel_rfl) (by kernel_rfl) (fun _ _ _ h => h) (Or.inl ⟨by rfl, fun W hSw => ?_⟩) hHeld ?_
        · dsimp only at hSw
          go_simp
        try simp only [Act.put, List.setIfInBounds_toArray, List.set_cons_zero, List.set_cons_succ]
        refine wpAnyH_take (i := 10) (oi := { dst := some 32, op := Op.binOp BinOp.mul 3 (Operand.const (Value.int IntKind.i64 2)) (Operand.tmp 31) 3, type := 3, pos := "redo.go:53", after := #[{ on := 9, ground := Ground.data }], guard := none }) (v := .int .i64 (2 * (i : Int))) rfl (by kernel_rfl) (by kernel_rfl) (by kernel_rfl) (fun _ _ _ h => h) (Or.inl ⟨by rfl, fun W hSw => ?_⟩) hHeld ?_
        · dsimp only at hSw
          go_simp
        try simp only [Act.put, List.setIfInBounds_toArray, List.set_cons_zero, List.set_cons_succ]
        refine wpAnyH_take (i := 11) (oi := { dst := some 33, op := Op.binOp BinOp.add 3 (Operand.const (Value.int IntKind.i64 9)) (Operand.tmp 32) 3, type := 3, pos := "redo.go:53", after := #[{ on := 10, ground := Ground.data }], guard := none }) (v := .int .i64 (9 + 2 * (i : Int))) rfl (by kernel_rfl) (by kernel_rfl) (by kernel_rfl) (fun _ _ _ h => h) (Or.inl ⟨by rfl, fun W hSw => ?_⟩) hHeld ?_
        · dsimp only at hSw
          go_simp
        try simp only [Act.put, List.setIfInBounds_toArray, List.set_cons_zero, List.set_cons_succ]
        refine wpAnyH_take (i := 12) (oi := { dst := some 34, op := Op.indexAddr 22 (Operand.tmp 30) (Operand.tmp 33), type := 0, pos := "redo.go:53", after := #[{ on := 8, ground := Ground.data }, { on := 11, ground := Ground.data }], guard := none }) (v := .pointer (some ⟨g, off + (9 + 2 * i), none⟩)) rfl (by kernel_rfl) (by kernel_rfl) (by kernel_rfl) (fun _ _ _ h => h) (Or.inl ⟨by rfl, fun W hSw => ?_⟩) hHeld ?_
        · dsimp only at hSw
          go_simp
        try simp only [Act.put, List.setIfInBounds_toArray, List.set_cons_zero, List.set_cons_succ]
        refine wpAnyH_take (i := 13) (oi := { dst := some 35, op := Op.load 5 (Operand.tmp 34), type := 5, pos := "redo.go:53", after := #[{ on := 12, ground := Ground.data }], guard := none }) (v := bv y) rfl (by kernel_rfl) (by kernel_rfl) (by kernel_rfl) (fun _ _ _ h => h) (Or.inl ⟨by rfl, fun W hSw => ?_⟩) hHeld ?_
        · dsimp only at hSw
          go_simp
        try simp only [Act.put, List.setIfInBounds_toArray, List.set_cons_zero, List.set_cons_succ]
        refine wpAnyH_take (i := 14) (oi := { dst := some 36, op := Op.convert 5 3 (Operand.tmp 35), type := 3, pos := "redo.go:53", after := #[{ on := 13, ground := Ground.data }], guard := none }) (v := .int .i64 y.toNat) rfl (by kernel_rfl) (by kernel_rfl) (by kernel_rfl) (fun _ _ _ h => h) (Or.inl ⟨by rfl, fun W hSw => ?_⟩) hHeld ?_
        · dsimp only at hSw
          go_simp
        try simp only [Act.put, List.setIfInBounds_toArray, List.set_cons_zero, List.set_cons_succ]
        refine wpAnyH_take (i := 15) (oi := { dst := some 37, op := Op.binOp BinOp.shl 3 (Operand.tmp 36) (Operand.const (Value.int IntKind.u64 8)) 55, type := 3, pos := "redo.go:53", after := #[{ on := 14, ground := Ground.data }], guard := none }) (v := .int .i64 ((y.toNat : Int) * 256)) rfl (by kernel_rfl) (by kernel_rfl) (by kernel_rfl) (fun _ _ _ h => h) (Or.inl ⟨by rfl, fun W hSw => ?_⟩) hHeld ?_
        · dsimp only at hSw
          go_simp
        try simp only [Act.put, List.setIfInBounds_toArray, List.set_cons_zero, List.set_cons_succ]
        refine wpAnyH_take (i := 16) (oi := { dst := some 38, op := Op.binOp BinOp.or 3 (Operand.tmp 29) (Operand.tmp 37) 3, type := 3, pos := "redo.go:53", after := #[{ on := 7, ground := Ground.data }, { on := 15, ground := Ground.data }], guard := none }) (v := .int .i64 ((x.toNat + 256 * y.toNat : Nat) : Int)) rfl (by kernel_rfl) (by kernel_rfl) (by kernel_rfl) (fun _ _ _ h => h) (Or.inl ⟨by rfl, fun W hSw => ?_⟩) hHeld ?_
        · dsimp only at hSw
          go_simp
        try simp only [Act.put, List.setIfInBounds_toArray, List.set_cons_zero, List.set_cons_succ]
        refine wpAnyH_ready (rs := [17]) (by kernel_rfl) (by simp) (AllReadyH.cons (o := { dst := some 39, op := Op.buildSlice 130 1 #[(0, Operand.tmp 38)], type := 130, pos := "redo.go:53", after := #[{ on := 16, ground := Ground.data }], guard := none }) rfl (fun K hK => ?_) AllReadyH.nil)
        go_simp
        refine hK.out _ _ ⟨(World.cell?_alloc_lt _ _ _ hlg).trans hHeld.1, (World.cell?_alloc_lt _ _ _ hlg).trans hHeld.2⟩ (fun hHeld => ?_)
        clear hK K
        try simp only [Act.put, List.setIfInBounds_toArray, List.set_cons_zero, List.set_cons_succ]
        refine wpAnyH_ready (rs := [18]) (by kernel_rfl) (by simp) (AllReadyH.cons (o := { dst := some 40, op := Op.call { callee := Callee.builtin Builtin.append, args := #[Operand.tmp 22, Operand.tmp 39], argTypes := #[130, 130] }, type := 130, pos := "redo.go:53", after := #[{ on := 0, ground := Ground.data }, { on := 17, ground := Ground.data }], guard := none }) rfl (fun K hK => ?_) AllReadyH.nil)
        refine st_ints (by rfl) (.tmp 22) (.tmp 39) 130 (by rfl) w.heap.size (by rfl) (HI.out.1.drew.alloc (.cells #[.int .i64 ((x.toNat + 256 * y.toNat : Nat) : Int)] 3)) (by rfl) (Src.one (w := wr.drew) Try.underlying130 rfl) (by omega) (by simp; exact Nat.le_succ_of_le HI.out.2.size) ?_
        intro A5 c5 w5 ho5 hg5
        have hwb : w.heap.size ≤ wr.heap.size := HI.out.2.size
        have hg0 : g < w.heap.size := World.block_lt_of_cell? w _ HC0.out
        have hgA : ∀ k, blockOf B = some k → k ≠ g := fun k hk => by have := (HI.out.1.block k hk).1; omega
        refine hK.out _ _ ⟨hg5.cell hHeld.1 (fun e => hgA g e.symm rfl), hg5.cell hHeld.2 (fun e => hgA g e.symm rfl)⟩ (fun hHeld => ?_)
        clear hK K
        try simp only [Act.put, List.setIfInBounds_toArray, List.set_cons_zero, List.set_cons_succ]
        refine wpAnyH_take (i := 19) (oi := { dst := some 4, op := Op.assign (Operand.tmp 40), type := 130, pos := "redo.go:53", after := #[{ on := 18, ground := Ground.data }, { on := 18, ground := Ground.chain }, { on := 0, ground := Ground.phase }, { on := 1, ground := Ground.phase }, { on := 2, ground := Ground.phase }, { on := 3, ground := Ground.phase }, { on := 4, ground := Ground.phase }, { on := 5, ground := Ground.phase }, { on := 6, ground := Ground.phase }, { on := 7, ground := Ground.phase }, { on := 8, ground := Ground.phase }, { on := 9, ground := Ground.phase }, { on := 10, ground := Ground.phase }, { on := 11, ground := Ground.phase }, { on := 12, ground := Ground.phase }, { on := 13, ground := Ground.phase }, { on := 14, ground := Ground.phase }, { on := 15, ground := Ground.phase }, { on := 16, ground := Ground.phase }, { on := 17, ground := Ground.phase }, { on := 18, ground := Ground.phase }], guard := none }) (v := .slice A5 (i + 1) c5) rfl (by kernel_rfl) (by kernel_rfl) (by kernel_rfl) (fun _ _ _ h => h) (Or.inl ⟨by rfl, fun W hSw => ?_⟩) hHeld ?_
        · dsimp only at hSw
          go_simp
        try simp only [Act.put, List.setIfInBounds_toArray, List.set_cons_zero, List.set_cons_succ]
        refine wpAnyH_done (by kernel_rfl) ?_ _
        have HE : Hid (Go.CP.Own w5 w.heap.size 3 1 A5 (i + 1) c5 ((outTo b (i + 1)).map iv) ∧ Below w.heap.size w w5) := hid ⟨by rw [HOUT.out, List.map_append]; exact ho5, Below.grown ((HI.out.2.drew).alloc HI.out.2.drew.size _) hg5 (by simp; omega) (fun k hk => (HI.out.1.block k hk).1)⟩
        clear ho5 hg5 hHeld hS
        go_wp2_with fail
        go_roundw
        case rel => exact ⟨i + 1, A5, c5, by omega, by go_num, rfl, HE⟩
        case measure => simp [intOf]; omega
      · have hk : i = k := by omega
        subst hk
        obtain ⟨hoI, hbI⟩ := HI.out
        have hlen := outTo_len b i
        have HOI := hid hoI
        have HBI := hid hbI
        clear hoI hbI hlt hi
        cases hgb : goodB (outTo b i) with
        | false =>
          have hp := head_err B (outTo b i) cb wr HOI.out.cells (by rw [hlen]; exact HOI.out.le.1) (by omega) hgb
          rw [hlen] at hp
          have HP := hid hp
          have HN : Hid (headsL b = none) := hid (by unfold headsL; rw [if_neg (fun h => by rw [HOR.out, hgb] at h; exact absurd h.2.2.1 (by decide))])
          clear hp hgb hlen
          go_wp2_with fail
          refine HP.out.mono ?_
          rintro e w2 ⟨rfl, hw⟩
          obtain rfl : wr = w2 := hw.symm
          go_wp2_with fail
          go_ret2
          exact ⟨HBI.out, .inr ⟨HN.out, rfl⟩⟩
        | true =>
          have hp := head_ok B (outTo b i) cb wr HOI.out.cells (by rw [hlen]; exact HOI.out.le.1) hgb
          rw [hlen] at hp
          have HP := hid hp
          have HGB := hid hgb
          have HLEN := hid hlen
          clear hp hgb hlen
          go_wp2_with fail
          refine HP.out.mono ?_
          clear HP
          rintro e w2 ⟨B2, c2, rfl, ho2, hb2⟩
          have hl2 := headL_len (goodB_len HGB.out)
          have hq := equal_any B2 (some ⟨g, off, none⟩) (headL (outTo b i)) b c2 c w2 ho2.cells (Cells.below HB.out (below_t HBI.out hb2 HBI.out.size) (Nat.le_refl _))
          rw [hl2, HBL.out] at hq
          have HB2 := hid (below_t HBI.out hb2 HBI.out.size)
          have HOI2 := hid (HOI.out.below hb2 (Nat.le_refl _))
          by_cases heq : headL (outTo b i) = b
          · rw [decide_eq_true heq] at hq
            have HQ := hid hq
            have HS : Hid (headsL b = some (outTo b i)) := hid (by unfold headsL; rw [if_pos ⟨HBL.out, by rw [HG4.out]; exact h24, by rw [HOR.out]; exact HGB.out, by rw [HOR.out]; exact heq⟩, HOR.out])
            clear hq ho2 hb2 hl2 heq
            go_wp2_with fail
            refine HQ.out.mono ?_
            rintro e w3 ⟨rfl, hw⟩
            obtain rfl : w2 = w3 := hw.symm
            go_wp2_with fail
            go_ret2
            exact ⟨HB2.out, .inl ⟨outTo b i, B, cb, HS.out, by rw [HLEN.out]; rfl, by rw [HLEN.out]; exact HOI2.out⟩⟩
          · rw [decide_eq_false heq] at hq
            have HQ := hid hq
            have HN : Hid (headsL b = none) := hid (by unfold headsL; rw [if_neg (fun h => heq (by rw [HOR.out] at h; exact h.2.2.2))])
            clear hq ho2 hb2 hl2 heq
            go_wp2_with fail
            refine HQ.out.mono ?_
            rintro e w3 ⟨rfl, hw⟩
            obtain rfl : w2 = w3 := hw.symm
            go_wp2_with fail
            go_ret2
            exact ⟨HB2.out, .inr ⟨HN.out, rfl⟩⟩
  · have h24i : (24 : Int) < (x4.toNat : Int) := by omega
    have HN : Hid (headsL b = none) := hid (by unfold headsL; rw [if_neg]; rw [HG4.out]; omega)
    go_enter Try.func117, Try.ntmps117
    go_wp2
    go_ret2
    exact ⟨Below.refl _ _, .inr ⟨HN.out, rfl⟩⟩
theorem heads_any (A : Option Addr) (b : List UInt8) (c : Nat) (w : World) (hb : Bytes w A b) : Calls Try.prog 117 #[.slice A b.length c] w (RetHeads (headsL b) w) := by
  by_cases h : b.length = 128
  · obtain ⟨g, off, rfl, -⟩ := Cells.open hb (by rw [List.length_map]; omega)
    have := heads_full g off b c w hb h
    rw [h]
    exact this
  · exact (heads_short A b.length c w h).mono fun e w' ⟨h1, h2⟩ => by
      subst h2
      exact ⟨Below.refl _ _, .inr ⟨by unfold headsL; rw [if_neg (fun k => h k.1)], h1⟩⟩
end Go.Proofs.Ytppbcdcmpcagdaa
