/- Contracts of package marks: the tests of a map and of a number, Has, Clip and Clone of bytes. Conditions: those that each theorem states. -/
import Derived.Test.YtafofpnfpkbfpaaProg
import Derived.Test.YtafofpnfpkbfpaaLib
namespace Go.Proofs.Ytafofpnfpkbfpaa
open Go.RowKit Go.CP

theorem bit_spell (x : UInt8) (n : Nat) (h : n ≤ 140737488355328) :
    (bits .and .u8 ((x.toNat : Int) / 2 ^ min (IntKind.u64.wrap (bits .and .i64 (n : Int) 7)).toNat 8) 1 == 1) = x.toNat.testBit (n % 8) := by
  rw [bits_and_i64_7 n h, wrap_u64_small _ (by omega), Int.toNat_natCast, Nat.min_eq_left (by omega)]
  have hx := x.toNat_lt
  have e : (x.toNat : Int) / 2 ^ (n % 8) = ((x.toNat / 2 ^ (n % 8) : Nat) : Int) := by simp
  have hlt : x.toNat / 2 ^ (n % 8) < 2 ^ 8 := Nat.lt_of_le_of_lt (Nat.div_le_self _ _) hx
  have := (bits_nat .u8 8 (by decide) wraps_u8 (x.toNat / 2 ^ (n % 8)) 1 hlt (by decide)).1
  rw [show ((1 : Nat) : Int) = 1 from rfl] at this
  rw [e, this, Nat.testBit, Nat.shiftRight_eq_div_pow]
  rw [Nat.and_one_is_mod, Nat.and_comm, Nat.and_one_is_mod]
  have h2 := Nat.mod_two_eq_zero_or_one (x.toNat / 2 ^ (n % 8))
  rcases h2 with h2 | h2 <;> simp [h2]

def bitOf (l : List UInt8) (n : Nat) : Bool := (l.getD (n / 8) 0).toNat.testBit (n % 8)

theorem on_any (A : Option Addr) (l : List UInt8) (c : Nat) (n : Nat) (w : World) (hb : Bytes w A l) (hn : n < 8 * l.length) (hm : l.length ≤ 1000000) :
    Calls Try.prog 34 #[.slice A l.length c, .int .i64 n] w fun e w' => e = .returned (.bool (bitOf l n)) ∧ w' = w := by
  obtain ⟨b, off, rfl, hc⟩ := Bytes.open hb (by omega)
  have hlt : n / 8 < l.length := by omega
  have hc1 := hc _ hlt
  have hs := bit_spell (l[n / 8]) n (by omega)
  have hfin : bitOf l n = l[n / 8].toNat.testBit (n % 8) := by simp [bitOf, List.getD, hlt]
  have H1 := hid hs
  clear hs
  go_enter Try.func34, Try.ntmps34
  go_wp2
  go_ret
  exact ⟨ret_bool (H1.out.trans hfin.symm), rfl⟩

def rightE (len : Nat) (n : Int) : Int := if len ≠ 128 then 1 else if n < 0 ∨ 1024 ≤ n then 4 else 0
def stretchE (len : Nat) (a b : Int) : Int := if len ≠ 128 then 1 else if a < 0 ∨ 1024 < b ∨ b < a then 4 else 0

theorem right_any (A : Option Addr) (len c : Nat) (n : Int) (w : World) :
    Calls Try.prog 32 #[.slice A len c, .int .i64 n] w fun e w' => e = .returned (.int .i64 (rightE len n)) ∧ w' = w := by
  go_enter Try.func32, Try.ntmps32
  go_wp2
  all_goals go_ret
  all_goals refine ⟨ret_int ?_, rfl⟩
  all_goals (simp only [bne_iff_ne, ne_eq, bne_eq_false_iff_eq] at *; unfold rightE; (repeat' split) <;> omega)

theorem stretch_any (A : Option Addr) (len c : Nat) (a b : Int) (w : World) :
    Calls Try.prog 36 #[.slice A len c, .int .i64 a, .int .i64 b] w fun e w' => e = .returned (.int .i64 (stretchE len a b)) ∧ w' = w := by
  go_enter Try.func36, Try.ntmps36
  go_wp2
  all_goals go_ret
  all_goals refine ⟨ret_int ?_, rfl⟩
  all_goals (simp only [bne_iff_ne, ne_eq, bne_eq_false_iff_eq] at *; unfold stretchE; (repeat' split) <;> omega)

theorem has_any (A : Option Addr) (l : List UInt8) (c : Nat) (n : Int) (w : World) (hb : Bytes w A l) :
    Calls Try.prog 21 #[.slice A l.length c, .int .i64 n] w fun e w' => e = .returned (.tuple #[.bool (rightE l.length n == 0 && bitOf l n.toNat), .int .i64 (rightE l.length n)]) ∧ w' = w := by
  by_cases h : rightE l.length n = 0
  · have hl : l.length = 128 ∧ 0 ≤ n ∧ n < 1024 := by unfold rightE at h; (repeat' split at h) <;> omega
    obtain ⟨k, rfl⟩ := Int.eq_ofNat_of_zero_le hl.2.1
    have H := hid h
    have Hl := hid hl
    have hn : k < 8 * l.length := by omega
    clear h hl
    go_enter Try.func21, Try.ntmps21
    go_wp2_with fail
    refine (right_any _ _ _ _ _).mono ?_
    rintro e w' ⟨rfl, rfl⟩
    rw [H.out]
    go_wp2_with fail
    refine (on_any _ _ _ _ _ hb hn (by have := Hl.out; omega)).mono ?_
    rintro e w' ⟨rfl, rfl⟩
    go_wp2_with fail
    go_ret2
    exact ⟨ret_2 (vbool (by simp [H.out])) (vint H.out.symm), rfl⟩
  · go_enter Try.func21, Try.ntmps21
    go_wp2_with fail
    refine (right_any _ _ _ _ _).mono ?_
    rintro e w' ⟨rfl, rfl⟩
    have hr : (rightE l.length n != 0) = true := by simpa using h
    have hr' : (rightE l.length n == 0) = false := by simpa using h
    clear h
    go_wp2_with fail
    go_ret2
    exact ⟨ret_2 (vbool (by rw [hr']; rfl)) rfl, rfl⟩

theorem clip_any (a : Option Addr) (n c : Nat) (w : World) (hc : n ≤ c) :
    Calls Try.prog 35 #[.slice a n c] w fun e w' => e = .returned (.slice a n n) ∧ w' = w := by
  go_enter Try.func35, Try.ntmps35
  go_wp2
  go_ret
  exact ⟨rfl, rfl⟩

theorem info5 : Try.prog.info? 5 = some Try.t5 := by kernel_rfl
theorem ap_bytes {w : World} {ops : Array Oper} {rest : List Oper} {o : Oper} {a : Act} {Q : Exit → Act → World → Prop} (hgd : o.guard = none) (s x : Operand) (tx : TypeId)
    (ho : o.op = .call { callee := .builtin .append, args := #[s, x], argTypes := #[31, tx] }) (base : Nat)
    {A : Option Addr} {n c : Nat} {xs : List Value} (hs : a.eval s = .slice A n c) (hown : Own w base 5 1 A n c xs)
    {vx : Value} {m : Nat} {news : List Value} (hvx : a.eval x = vx) (hx : Src Try.prog w 1 (.int .u8 0) tx vx m news)
    (hbytes : n + m ≤ 140737488355328) (hbase : base ≤ w.heap.size)
    (h : ∀ A' c' w', Own w' base 5 1 A' (n + m) c' (xs ++ news) → w.grownBy w' (blockOf A) → wpList Try.prog ops Q rest (a.put o.dst (.slice A' (n + m) c')) w') : wpList Try.prog ops Q (o :: rest) a w :=
  wpList_append_Own w hgd s x 31 tx ho base 5 Try.t5 (.int .u8 0) 1 1 Try.underlying31 info5 (by kernel_rfl) (by kernel_rfl) (by kernel_rfl) rfl (by decide) (by decide) A n c xs hs hown vx m news hvx hx (by omega) hbase h

theorem clone_any (A : Option Addr) (l : List UInt8) (c : Nat) (w : World) (hb : Bytes w A l) (hl : l.length ≤ 140737488351232) :
    Calls Try.prog 33 #[.slice A l.length c] w (RetOwn w 5 1 l.length (l.map bv)) := by
  have hq : ∀ w : World, (binOp .eql 31 (.slice A l.length c) (.slice none 0 0)).run Try.prog w = .ok (.bool A.isNone) w := fun w => Lib.run_eql_slice_nil w 31 5 A _ _ _ _ Try.underlying31
  cases A with
  | none =>
    have : l = [] := by
      cases l with
      | nil => rfl
      | cons x l => obtain ⟨b, off, h1, _⟩ := hb 0 _ rfl; cases h1
    subst this
    have hq' : ∀ w : World, (binOp .eql 31 (.slice none 0 c) (.slice none 0 0)).run Try.prog w = .ok (.bool true) w := hq
    clear hq
    go_enter Try.func33, Try.ntmps33
    go_wp2
    go_ret
    exact ⟨none, 0, rfl, Own.none _ _ _ _, Below.refl _ _⟩
  | some ad =>
    have hq' : ∀ w : World, (binOp .eql 31 (.slice (some ad) l.length c) (.slice none 0 0)).run Try.prog w = .ok (.bool false) w := hq
    clear hq
    go_enter Try.func33, Try.ntmps33
    go_wp2_with (at_builtin; refine ap_bytes rfl _ _ 31 rfl w.heap.size rfl (Own.empty w 5 1) rfl (Src.bytes Try.underlying31 (hb.alloc _)) (by omega) (by simp) ?_; intro A' c' w' ho hg; simp only [Nat.zero_add, List.nil_append] at ho ⊢)
    go_ret
    exact ⟨A', c', rfl, ho, Below.of_grown ((World.grownBy_alloc _ _ _).trans hg) (by simp) (by simp [blockOf])⟩
end Go.Proofs.Ytafofpnfpkbfpaa
