/- Contract of the reference's Bits. -/
import Derived.Test.YtafofpnfpkbfpaaMarks4
namespace Go.Proofs.Ytafofpnfpkbfpaa
open Go.RowKit Go.CP

theorem info4 : Try.prog.info? 4 = some Try.t4 := by kernel_rfl
theorem ap_bools {w : World} {ops : Array Oper} {rest : List Oper} {o : Oper} {a : Act} {Q : Exit → Act → World → Prop} (hgd : o.guard = none) (s x : Operand) (tx : TypeId)
    (ho : o.op = .call { callee := .builtin .append, args := #[s, x], argTypes := #[50, tx] }) (base : Nat)
    {A : Option Addr} {n c : Nat} {xs : List Value} (hs : a.eval s = .slice A n c) (hown : Own w base 4 1 A n c xs)
    {vx : Value} {m : Nat} {news : List Value} (hvx : a.eval x = vx) (hx : Src Try.prog w 1 (.bool false) tx vx m news)
    (hbytes : n + m ≤ 140737488355328) (hbase : base ≤ w.heap.size)
    (h : ∀ A' c' w', Own w' base 4 1 A' (n + m) c' (xs ++ news) → w.grownBy w' (blockOf A) → wpList Try.prog ops Q rest (a.put o.dst (.slice A' (n + m) c')) w') : wpList Try.prog ops Q (o :: rest) a w :=
  wpList_append_Own w hgd s x 50 tx ho base 4 Try.t4 (.bool false) 1 1 Try.underlying50 info4 (by kernel_rfl) (by kernel_rfl) (by kernel_rfl) rfl (by decide) (by decide) A n c xs hs hown vx m news hvx hx (by omega) hbase h

def bitsL (l : List UInt8) (m : Nat) : List Value := (List.range m).map fun j => .bool (bitOf l j)

theorem bit_rem (x : Nat) : ((x : Int) % 2 == 1) = x.testBit 0 := by
  rw [Nat.testBit_zero]
  have := Nat.mod_two_eq_zero_or_one x
  rw [show ((x : Int) % 2) = ((x % 2 : Nat) : Int) from by simp]
  rcases this with h | h <;> simp [h]

theorem bitOf_at (l : List UInt8) (i j : Nat) (hi : i < l.length) (hj : j < 8) : bitOf l (8 * i + j) = (l[i].toNat / 2 ^ j).testBit 0 := by
  rw [bitOf, show (8 * i + j) / 8 = i from by omega, show (8 * i + j) % 8 = j from by omega, Nat.testBit_div_two_pow]
  simp [List.getD, hi]

theorem bits_any (A : Option Addr) (l : List UInt8) (c : Nat) (w : World) (hb : Bytes w A l) (hl : l.length ≤ 1000000) :
    Calls Try.prog 23 #[.slice A l.length c] w (RetOwn w 4 1 (8 * l.length) (bitsL l (8 * l.length))) := by
  go_enter Try.func23, Try.ntmps23
  go_wp2_with fail
  go_loopw [3, 4] (fun ov nv wr => ∃ k A' c', k ≤ l.length ∧ nv = .int .i64 (k : Nat) ∧ ov = .slice A' (8 * k) c' ∧ Own wr w.heap.size 4 1 A' (8 * k) c' (bitsL l (8 * k)) ∧ Below w.heap.size w wr) (fun _ nv _ => l.length - (intOf nv).toNat)
  case atStart => exact ⟨0, _, _, by omega, rfl, rfl, Own.empty w 4 1, (Below.refl _ _).alloc (Nat.le_refl _) _⟩
  case round =>
    obtain ⟨k, A', c', hk, rfl, rfl, ho, hbel⟩ := hrel
    by_cases hlt : k < l.length
    · obtain ⟨b, off, rfl, hc⟩ := Bytes.open hb (by omega)
      have hc1 := hc k hlt
      rw [← hbel.cell (p := ⟨b, off + k, none⟩) (World.block_lt_of_cell? w _ hc1)] at hc1
      have hx := (l[k]).toNat_lt
      obtain ⟨wo, rfl⟩ : ∃ wo : World, wo = wr := ⟨_, rfl⟩
      go_wp2_with fail
      go_loopw [3, 5, 6] (fun ov xv jv wr => ∃ j A' c', j ≤ 8 ∧ jv = .int .i64 (j : Nat) ∧ xv = .int .i64 ((l[k].toNat / 2 ^ j : Nat) : Int) ∧ ov = .slice A' (8 * k + j) c' ∧ Own wr w.heap.size 4 1 A' (8 * k + j) c' (bitsL l (8 * k + j)) ∧ Below w.heap.size w wr) (fun _ _ jv _ => 8 - (intOf jv).toNat)
      case atStart => exact ⟨0, A', c', by omega, rfl, by simp, rfl, ho, hbel⟩
      case round =>
        clear hc1 hbel ho hc
        obtain ⟨j, A', c', hj, rfl, rfl, rfl, ho, hbel⟩ := hrel
        have hdv : l[k].toNat / 2 ^ j ≤ 255 := Nat.le_trans (Nat.div_le_self _ _) (by omega)
        by_cases hlt2 : j < 8
        · have hbit := bitOf_at l k j hlt hlt2
          have hxs : l[k].toNat / 2 ^ (j + 1) = l[k].toNat / 2 ^ j / 2 := by rw [Nat.pow_succ, Nat.div_div_eq_div_mul]
          have HX := hid hxs
          have hsz := hbel.size
          generalize l[k].toNat / 2 ^ j = y at *
          have HB := hid hbit
          clear hbit hxs
          go_wp2_with (at_builtin; refine ap_bools rfl _ _ 50 rfl w.heap.size rfl (ho.alloc _) rfl (Src.one Try.underlying50 rfl) (by omega) (by simp; omega) ?_; intro A2 c2 w2 ho2 hg2)
          go_roundw
          case rel =>
            refine ⟨j + 1, A2, c2, by omega, by go_num, ?_, rfl, ?_, ?_⟩
            · rw [HX.out]; simp
            · rw [bitsL, ← Nat.add_assoc, List.range_succ, List.map_append, List.map_singleton, HB.out, ← bit_rem]
              exact ho2
            · refine Below.grown (hbel.alloc (by omega) _) hg2 (by simp; omega) fun k hk => (ho.block k hk).1
          case measure => simp [intOf]; omega
        · have hj8 : j = 8 := by omega
          have HJ := hid hj8
          clear hj8
          go_wp2_with fail
          go_roundw
          case rel => exact ⟨k + 1, A', c', by omega, by go_num, by have := HJ.out; subst this; rfl, by have := HJ.out; subst this; exact ho, hbel⟩
          case measure => simp [intOf]; omega
    · have hkl : k = l.length := by omega
      have HK := hid hkl
      clear hkl
      go_wp2_with fail
      go_ret
      exact ⟨A', c', ret_slice (by rw [HK.out]), by have := HK.out; subst this; exact ho, hbel⟩
end Go.Proofs.Ytafofpnfpkbfpaa
