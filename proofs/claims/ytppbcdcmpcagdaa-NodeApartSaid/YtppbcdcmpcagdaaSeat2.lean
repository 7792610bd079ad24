/- Contracts of seat.Encode and of the reference's Encode, Same. -/
import Derived.Test.YtppbcdcmpcagdaaSeat1
import Derived.Deep.QuietTactic
import Derived.BigQuiet
import Derived.Deep.RegionHeld3
import Derived.Deep.AppendLies
namespace Go.Proofs.Ytppbcdcmpcagdaa
open Go.RowKit Go.CP

/-- An append of bytes, at a step of a region that draws its order. -/
theorem st_bytes {w : World} {ops : Array Oper} {o : Oper} {a : Act} {K : Act → World → Prop} {Q : Exit → Act → World → Prop} {E : Prop} (hgd : o.guard = none) (s x : Operand) (tx : TypeId)
    (ho : o.op = .call { callee := .builtin .append, args := #[s, x], argTypes := #[22, tx] }) (base : Nat)
    {A : Option Addr} {n c : Nat} {xs : List Value} (hs : a.eval s = .slice A n c) (hown : Go.CP.Own w base 5 1 A n c xs)
    {vx : Value} {m : Nat} {news : List Value} (hvx : a.eval x = vx) (hx : Src Try.prog w 1 (.int .u8 0) tx vx m news)
    (hbytes : n + m ≤ 225000000000000) (hbase : base ≤ w.heap.size)
    (h : ∀ A' c' w', Go.CP.Own w' base 5 1 A' (n + m) c' (xs ++ news) → w.grownBy w' (blockOf A) → K (a.put o.dst (.slice A' (n + m) c')) w') :
    if Region.wanted o (yielded ops a.tmps) = true then Oper.wp Try.prog o a w K Q else E := by
  have hw : Region.wanted o (yielded ops a.tmps) = true := by simp [Region.wanted, hgd]
  rw [if_pos hw]
  exact wp_append_Own' w s x 22 tx ho base 5 Try.t5 (.int .u8 0) 1 1 Try.underlying22 info5 (by kernel_rfl) (by kernel_rfl) (by kernel_rfl) rfl (by decide) (by decide) (by decide) A n c xs hs hown vx m news hvx hx (by omega) hbase fun A' c' w' h1 h2 _ => h A' c' w' h1 h2

def magicT : List UInt8 := [83, 69, 65, 84]
/-- A seat as bytes, without the sum. -/
def seatL (a b : Nat) (r : List UInt8) : List UInt8 := magicT ++ little a 4 ++ little b 4 ++ [UInt8.ofNat r.length] ++ r ++ List.replicate (111 - r.length) 0
theorem seatL_len (a b : Nat) (r : List UInt8) (h : r.length ≤ 96) : (seatL a b r).length = 124 := by simp [seatL, little_len, magicT]; omega

/-- A box of a seat. -/
def BoxT (W : World) (k : Nat) (x y z : Value) : Prop := W.heap[k]? = some (.cells #[x, y, z] 70 (0, 0))
theorem BoxT.facts {W : World} {k : Nat} {x y z : Value} (h : BoxT W k x y z) : W.cell? ⟨k, 0, none⟩ = some x ∧ W.cell? ⟨k, 1, none⟩ = some y ∧ W.cell? ⟨k, 2, none⟩ = some z ∧ (∀ j, W.frozen? ⟨k, j, none⟩ = false) ∧ k < W.heap.size := by
  have h' : W.heap[k]? = _ := h
  refine ⟨?_, ?_, ?_, fun j => ?_, (Array.getElem?_eq_some_iff.1 h').1⟩ <;> simp [World.cell?, World.frozen?, h']
theorem BoxT.turn {W W' : World} {k g : Nat} {x y z : Value} (h : BoxT W k x y z) (ht : Turn g W W') (hne : k ≠ g) : BoxT W' k x y z := (ht.2.2 k h.facts.2.2.2.2 hne).trans h
theorem BoxT.below {B : Nat} {W W' : World} {k : Nat} {x y z : Value} (h : BoxT W k x y z) (hb : Below B W W') (hk : k < B) : BoxT W' k x y z := (hb.block k hk).trans h
theorem BoxT.alloc {W : World} {k : Nat} {x y z : Value} (h : BoxT W k x y z) (o : Obj) : BoxT (W.alloc o) k x y z := h.below ((Below.refl W.heap.size W).alloc (Nat.le_refl _) o) h.facts.2.2.2.2
theorem BoxT.drew {W : World} {k : Nat} {x y z : Value} (h : BoxT W k x y z) : BoxT W.drew k x y z := h
theorem BoxT.set {W : World} {k : Nat} {x y z : Value} (h : BoxT W k x y z) (j : Nat) (v : Value) : (W.setCell ⟨k, j, none⟩ v).heap[k]? = some (.cells (#[x, y, z].setIfInBounds j v) 70 (0, 0)) := heap_setCell_at _ _ _ _ _ _ h
theorem BoxT.other {W : World} {k k' j : Nat} {x y z v : Value} (h : BoxT W k x y z) (hne : k ≠ k') : BoxT (W.setCell ⟨k', j, none⟩ v) k x y z := (Below.heap_setCell _ _ _ _ hne).trans h
theorem BoxT.new (W : World) (x y z : Value) : BoxT (W.alloc (.cells #[x, y, z] 70)) W.heap.size x y z := heap_alloc_new W _
theorem BoxT.kept {W W' : World} {row : Option Nat} {k : Nat} {x y z : Value} (h : BoxT W k x y z) (hg : W.grownBy W' row) (hne : some k ≠ row) : BoxT W' k x y z := (hg.block k h.facts.2.2.2.2 hne).trans h

theorem seat_err (a b : Int) (A : Option Addr) (n c : Nat) (w : World) (h : seatB a b n = false) : Calls Try.prog 63 #[.agg #[.int .i64 a, .int .i64 b, .slice A n c]] w fun e w' => e = .returned (.tuple #[.slice none 0 0, .int .i64 2]) ∧ Below w.heap.size w w' := by
  have hs := fun W => seat_sound a b A n c W
  rw [h] at hs
  have HS := hid hs
  clear hs h
  go_enter Try.func63, Try.ntmps63
  go_wp2_with fail
  refine (HS.out _).mono ?_
  rintro e w1 ⟨rfl, hb1⟩
  go_wp2
  go_ret2
  exact ⟨rfl, ((Below.refl _ _).alloc (Nat.le_refl _) _).trans (hb1.mono (by simp))⟩

set_option maxHeartbeats 1000000 in
set_option maxRecDepth 100000 in
theorem seat_ok (a b : Nat) (A : Option Addr) (r : List UInt8) (c : Nat) (w : World) (hr : Bytes w A r) (h : seatB a b r.length = true) :
    Calls Try.prog 63 #[.agg #[.int .i64 a, .int .i64 b, .slice A r.length c]] w (RetOwn2 w 5 1 128 ((sealL (seatL a b r)).map bv) (.int .i64 0)) := by
  have hs := fun W => seat_sound a b A r.length c W
  rw [h] at hs
  have HS := hid hs
  have hb : a < 4294967296 ∧ b < 4294967296 ∧ r.length ≤ 96 := by simp [seatB, numB] at h; omega
  have hrl : (r.length : Int) ≤ 96 := by omega
  clear hs h
  have kc := fun (w : World) (C : Array Value) (n c : Nat) => Lib.run_convert_bytes_const (P := Try.prog) w 22 5 C n c Try.underlying22 Try.underlying5
  go_enter Try.func63, Try.ntmps63
  go_wp2_with fail
  refine (HS.out _).mono ?_
  rintro e w1 ⟨rfl, hb1⟩
  have k1 := (BoxT.new w (.int .i64 a) (.int .i64 b) (.slice A r.length c)).below hb1 (by simp)
  have hb01 : Below w.heap.size w w1 := ((Below.refl _ _).alloc (Nat.le_refl _) _).trans (hb1.mono (by simp))
  have k2 := k1.alloc (.cells #[.int .u8 83, .int .u8 69, .int .u8 65, .int .u8 84] 5 (4, 5))
  have hb02 := hb01.alloc hb01.size (.cells #[.int .u8 83, .int .u8 69, .int .u8 65, .int .u8 84] 5 (4, 5))
  obtain ⟨xc0, xc1, xc2, xfr, xlt⟩ := k1.facts
  have HB := hid hb
  have hm0 : Bytes (w1.alloc (.cells #[.int .u8 83, .int .u8 69, .int .u8 65, .int .u8 84] 5 (4, 5))) (some ⟨w1.heap.size, 0, none⟩) magicT := cells_new w1 5 (4, 5) magicT
  have hn1 := num_ok _ magicT 4 a _ hm0 (by decide) hb.1
  rw [show magicT.length = 4 from rfl] at hn1
  have HN1 := hid hn1
  clear hn1 hm0 hb
  go_wp2_with fail
  refine HN1.out.mono ?_
  clear HN1 xc0 xc1 xc2 xfr xlt
  rintro e w2 ⟨A2, c2, rfl, ho2, hb2⟩
  have k3 := k2.below hb2 k2.facts.2.2.2.2
  have hb03 := below_t hb02 hb2 hb02.size
  obtain ⟨xc0, xc1, xc2, xfr, xlt⟩ := k3.facts
  have hn2 := num_ok A2 (magicT ++ little a 4) c2 b w2 ho2.cells (by simp [little_len, magicT]) HB.out.2.1
  rw [show (magicT ++ little a 4).length = 8 from by simp [little_len, magicT]] at hn2
  have HN2 := hid hn2
  clear hn2 ho2 k1 k2 hb1 hb2 hb01 hb02
  go_wp2_with fail
  refine HN2.out.mono ?_
  clear HN2 xc0 xc1 xc2 xfr
  rintro e w3 ⟨A3, c3, rfl, ho3, hb3⟩
  have k4 := k3.below hb3 xlt
  have hb04 := below_t hb03 hb3 hb03.size
  have hne : some w.heap.size ≠ blockOf A3 := fun h => by have := ho3.block _ h.symm; omega
  have hz3 := hb3.size
  have hr4 := hr.below hb04 (Nat.le_refl _)
  obtain ⟨xc0, xc1, xc2, xfr, xlt4⟩ := k4.facts
  have HK4 := hid k4
  have HO4 := hid ho3
  have HNE := hid hne
  have HR4 := hid hr4
  have HB4 := hid hb04
  have hz4 := hb04.size
  clear k3 k4 ho3 hne hr4 hb3 hb03 hb04 xc0 xc1
  go_wp2_with fail
  go_region_held3 (fun W => W.cell? ⟨w.heap.size, 2, none⟩ = some (.slice A r.length c))
    (first | assumption | exact (BoxT.facts HK4.out).2.2.1 | exact (BoxT.facts HK4.out.drew).2.2.1 | exact (BoxT.facts (HK4.out.drew.alloc _)).2.2.1 | exact (BoxT.facts k5).2.2.1 | exact (BoxT.facts (BoxT.kept k5 hg6 (fun h => absurd (ho5.block _ h.symm).1 (by omega)))).2.2.1)
    (first
      | ((refine st_bytes (by rfl) _ _ 22 (by rfl) w2.heap.size (by rfl) (HO4.out.drew.alloc _) (by rfl) (Src.one Try.underlying22 (by rfl)) (by omega) (by simp; omega) ?_; intro A5 c5 w5 ho5 hg5; have k5 := BoxT.kept (HK4.out.drew.alloc _) hg5 HNE.out; have hb5 := Below.grown (HB4.out.drew.alloc (by simp; omega) _) hg5 (by simp; omega) (fun k hk => Nat.le_trans (Nat.le_of_lt xlt) (HO4.out.block k hk).1)))
      | ((refine st_bytes (by rfl) _ _ 22 (by rfl) w2.heap.size (by rfl) ho5 (by rfl) (Src.bytes Try.underlying22 (hr.below hb5 (Nat.le_refl _))) (by omega) (by have := hg5.size; simp at this; omega) ?_; intro A6 c6 w6 ho6 hg6; have hb6 := Below.grown hb5 hg6 hb5.size (fun k hk => Nat.le_trans (Nat.le_of_lt xlt) (ho5.block k hk).1)))
      )
  obtain ⟨m, hm⟩ : ∃ m : Nat, m = 111 - r.length := ⟨_, rfl⟩
  have hmi : (124 : Int) - (13 + r.length) = m := by omega
  have hm2 : (m : Int) ≤ 111 := by omega
  have HM := hid hm
  have HB6 := hid hb6
  have hz6 := hb6.size
  clear hm
  go_wp2_with (at_builtin; refine ap_bytes rfl _ _ 3 rfl w2.heap.size rfl ho6 rfl (Src.zeros (m := m) Try.underlying3) (by omega) (by have := hg6.size; have := hg5.size; simp at *; omega) ?_; intro A7 c7 w7 ho7 hg7)
  have hv : Value.int .u8 (r.length : Int) = bv (UInt8.ofNat r.length) := by
    rw [bv, UInt8.toNat_ofNat', Nat.mod_eq_of_lt (by omega)]
  have hl : ((((magicT ++ little a 4 ++ little b 4).map bv ++ [Value.int .u8 (r.length : Int)]) ++ r.map bv) ++ (List.replicate m (0 : UInt8)).map bv) = (seatL a b r).map bv := by
    rw [hv, ← List.map_singleton (f := bv), ← List.map_append, ← List.map_append, ← List.map_append, HM.out, seatL]
  have e1 : 13 + r.length + m = 124 := by omega
  rw [show IntKind.u8.wrap (r.length : Int) = r.length from by rw [IntKind.wrap_u8]; omega] at ho7
  have ho8 : Go.CP.Own w7 w2.heap.size 5 1 A7 (13 + r.length + m) c7 ((seatL a b r).map bv) := by rw [← hl]; exact ho7
  rw [e1] at ho8 ⊢
  have hb7 := Below.grown HB6.out hg7 hz6 (fun k hk => Nat.le_trans (Nat.le_of_lt xlt) (ho6.block k hk).1)
  have hse := sealed_any A7 (seatL a b r) c7 w7 ho8.cells (by rw [seatL_len a b r (by omega)]; omega)
  rw [seatL_len a b r (by omega)] at hse
  clear ho7 ho6 hl hv
  refine hse.mono ?_
  clear hse
  rintro e w8 ⟨A8, c8, rfl, ho9, hb8⟩
  go_wp2
  go_ret2
  exact ⟨A8, c8, rfl, ho9.mono hb7.size, below_t hb7 hb8 hb7.size⟩

/-- What seat.Encode hands back. -/
def RetSeat (a b : Int) (r : List UInt8) (w : World) (e : Ending) (w' : World) : Prop :=
  (seatB a b r.length = true ∧ RetOwn2 w 5 1 128 ((sealL (seatL a.toNat b.toNat r)).map bv) (.int .i64 0) e w') ∨ (seatB a b r.length = false ∧ e = .returned (.tuple #[.slice none 0 0, .int .i64 2]) ∧ Below w.heap.size w w')
theorem seatB_iff {a b : Int} {n : Nat} : seatB a b n = true ↔ 0 ≤ a ∧ a ≤ 1073741824 ∧ 0 ≤ b ∧ b ≤ 1073741824 ∧ n ≤ 96 := by simp [seatB, numB]; omega
theorem seat_any (a b : Int) (A : Option Addr) (r : List UInt8) (c : Nat) (w : World) (hr : Bytes w A r) : Calls Try.prog 63 #[.agg #[.int .i64 a, .int .i64 b, .slice A r.length c]] w (RetSeat a b r w) := by
  cases h : seatB a b r.length with
  | true =>
    have h2 := seatB_iff.1 h
    have e1 : ((a.toNat : Nat) : Int) = a := by omega
    have e2 : ((b.toNat : Nat) : Int) = b := by omega
    have := seat_ok a.toNat b.toNat A r c w hr (by rw [e1, e2]; exact h)
    rw [e1, e2] at this
    exact this.mono fun e w' k => .inl ⟨h, k⟩
  | false => exact (seat_err a b A r.length c w h).mono fun e w' k => .inr ⟨h, k⟩
end Go.Proofs.Ytppbcdcmpcagdaa
