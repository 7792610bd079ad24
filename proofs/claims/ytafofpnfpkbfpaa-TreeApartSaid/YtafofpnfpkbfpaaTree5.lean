/- Contract of tree.Parts. -/
import Derived.Test.YtafofpnfpkbfpaaTree4
namespace Go.Proofs.Ytafofpnfpkbfpaa
open Go.RowKit Go.CP

structure Pt where
  block : Nat
  lo : Nat
  hi : Nat

def partsL : Nat → Nat → Nat → List Pt
  | 0, _, _ => []
  | k + 1, at_, size => if size = 0 then [] else ⟨at_ / 128, at_ % 128, at_ % 128 + min size (128 - at_ % 128)⟩ :: partsL k (at_ + min size (128 - at_ % 128)) (size - min size (128 - at_ % 128))
def ptCells (l : List Pt) : List Value := l.flatMap fun p => [.int .i64 p.block, .int .i64 p.lo, .int .i64 p.hi]
theorem ptCells_len (l : List Pt) : (ptCells l).length = l.length * 3 := by
  induction l with
  | nil => rfl
  | cons x l ih => simp only [ptCells, List.flatMap_cons, List.length_append, List.length_cons, List.length_nil] at *; omega

theorem info43 : Try.prog.info? 43 = some Try.t43 := by kernel_rfl
theorem ap_parts {w : World} {ops : Array Oper} {rest : List Oper} {o : Oper} {a : Act} {Q : Exit → Act → World → Prop} (hgd : o.guard = none) (s x : Operand) (tx : TypeId)
    (ho : o.op = .call { callee := .builtin .append, args := #[s, x], argTypes := #[38, tx] }) (base : Nat)
    {A : Option Addr} {n c : Nat} {xs : List Value} (hs : a.eval s = .slice A n c) (hown : Own w base 43 3 A n c xs)
    {vx : Value} {m : Nat} {news : List Value} (hvx : a.eval x = vx) (hx : Src Try.prog w 3 (.agg #[.int .i64 0, .int .i64 0, .int .i64 0]) tx vx m news)
    (hbytes : (n + m) * 24 ≤ 140737488355328) (hbase : base ≤ w.heap.size)
    (h : ∀ A' c' w', Own w' base 43 3 A' (n + m) c' (xs ++ news) → w.grownBy w' (blockOf A) → wpList Try.prog ops Q rest (a.put o.dst (.slice A' (n + m) c')) w') : wpList Try.prog ops Q (o :: rest) a w :=
  wpList_append_Own w hgd s x 38 tx ho base 43 Try.t43 (.agg #[.int .i64 0, .int .i64 0, .int .i64 0]) 3 24 Try.underlying38 info43 (by kernel_rfl) (by kernel_rfl) (by kernel_rfl) rfl (by decide) (by decide) A n c xs hs hown vx m news hvx hx hbytes hbase h

theorem ptCells_snoc (acc : List Pt) (q n : Nat) : ptCells acc ++ [.int .i64 ((q : Int) / 128), .int .i64 ((q : Int) % 128), .int .i64 ((q : Int) % 128 + n)] = ptCells (acc ++ [⟨q / 128, q % 128, q % 128 + n⟩]) := by
  simp [ptCells]

theorem clipP_any (a : Option Addr) (n c : Nat) (w : World) (hc : n ≤ c) :
    Calls Try.prog 31 #[.slice a n c] w fun e w' => e = .returned (.slice a n n) ∧ w' = w := by
  go_enter Try.func31, Try.ntmps31
  go_wp2
  go_ret
  exact ⟨rfl, rfl⟩

theorem parts_err (p s : Int) (w : World) (hp : -9223372036854775808 ≤ p ∧ p < 9223372036854775808) (hs : -9223372036854775808 ≤ s ∧ s < 9223372036854775808)
    (h : p < 0 ∨ s < 0 ∨ (0 < s ∧ (9728 < p ∨ 9728 - p < s))) :
    Calls Try.prog 18 #[.int .i64 p, .int .i64 s] w fun e w' => e = .returned (.tuple #[.slice none 0 0, .int .i64 4]) ∧ w' = w := by
  have h' : p < 0 ∨ (0 ≤ p ∧ s < 0) ∨ (0 ≤ p ∧ 0 < s ∧ 9728 < p) ∨ (0 ≤ p ∧ 0 < s ∧ p ≤ 9728 ∧ 9728 - p < s) := by omega
  clear h
  rcases h' with h | ⟨h1, h⟩ | ⟨h1, h2, h⟩ | ⟨h1, h2, h3, h⟩
  all_goals
    go_enter Try.func18, Try.ntmps18
    go_wp2
    go_ret2
    exact ⟨rfl, rfl⟩

set_option maxRecDepth 100000 in
theorem parts_ok (p s : Nat) (w : World) (h : s = 0 ∨ p + s ≤ 9728) (hp : (p : Int) < 9223372036854775808) :
    Calls Try.prog 18 #[.int .i64 p, .int .i64 s] w (RetOwn2 w 43 3 (partsL (s + 1) p s).length (ptCells (partsL (s + 1) p s)) (.int .i64 0)) := by
  by_cases hs0 : s = 0
  · subst hs0
    clear h hp
    go_enter Try.func18, Try.ntmps18
    go_wp2_with fail
    refine wp_loop_once ?_
    go_wp2_with (go_at_call 31; refine (clipP_any _ _ _ _ (Nat.le_refl _)).mono ?_; rintro e w ⟨rfl, rfl⟩)
    go_ret2
    exact ⟨none, 0, rfl, Own.none _ _ _ _, Below.refl _ _⟩
  · have h1 : 0 < (s : Int) := by omega
    have h2 : (p : Int) ≤ 9728 := by omega
    have h3 : (s : Int) ≤ 9728 - p := by omega
    clear h hs0 hp
    go_enter Try.func18, Try.ntmps18
    go_wp2_with fail
    go_loopw [0, 1, 6] (fun av sv ov wr => ∃ (q r k : Nat) (acc : List Pt) (A : Option Addr) (c : Nat), av = .int .i64 q ∧ sv = .int .i64 r ∧ ov = .slice A acc.length c ∧ Own wr w.heap.size 43 3 A acc.length c (ptCells acc) ∧
        Hid (acc ++ partsL k q r = partsL (s + 1) p s) ∧ r < k ∧ (r : Int) + q ≤ 9728 ∧ acc.length + r ≤ s ∧ Below w.heap.size w wr) (fun _ sv _ _ => (intOf sv).toNat)
    case atStart => exact ⟨p, s, s + 1, [], none, 0, rfl, rfl, rfl, Own.none _ _ _ _, by exact hid rfl, by omega, by omega, by simp, Below.refl _ _⟩
    case round =>
      obtain ⟨q, r, k, acc, A, c, rfl, rfl, rfl, ho, HE, hk, hqr, hacc, hbel⟩ := hrel
      by_cases hr : 0 < r
      · obtain ⟨k, rfl⟩ : ∃ k', k = k' + 1 := ⟨k - 1, by omega⟩
        have hz0 := hbel.size
        have hE : partsL (k + 1) q r = ⟨q / 128, q % 128, q % 128 + min r (128 - q % 128)⟩ :: partsL k (q + min r (128 - q % 128)) (r - min r (128 - q % 128)) := by
          rw [partsL, if_neg (by omega)]
        have HEE := hid hE
        clear hE
        by_cases hm : (r : Int) ≤ 128 - (q : Int) % 128
        · go_wp2_with (at_builtin; refine ap_parts rfl _ _ 38 rfl w.heap.size rfl (ho.alloc _) rfl (Src.row (m := 1) _ Try.underlying38 rfl (by intro u hu; simp at hu; rcases hu with rfl | rfl | rfl <;> rfl)) (by omega) (by simp; omega) ?_; intro A2 c2 w2 ho2 hg2)
          go_roundw
          case rel =>
            have e1 : min r (128 - q % 128) = r := by omega
            refine ⟨q + r, 0, k, acc ++ [⟨q / 128, q % 128, q % 128 + r⟩], A2, c2, by rw [Int.natCast_add], rfl, by rw [List.length_append]; rfl, ?_, ?_, by omega, by omega, by rw [List.length_append]; simp; omega, ?_⟩
            · rw [← ptCells_snoc, List.length_append]; exact ho2
            · have h := HE.out
              rw [HEE.out, e1, Nat.sub_self] at h
              exact hid (by rw [List.append_assoc]; exact h)
            · exact Below.grown (hbel.alloc hz0 _) hg2 (by simp; omega) fun k hk => (ho.block k hk).1
          case measure => simp [intOf]; omega
        · have hm2 : 128 - (q : Int) % 128 < r := by omega
          clear hm
          go_wp2_with (at_builtin; refine ap_parts rfl _ _ 38 rfl w.heap.size rfl (ho.alloc _) rfl (Src.row (m := 1) _ Try.underlying38 rfl (by intro u hu; simp at hu; rcases hu with rfl | rfl | rfl <;> rfl)) (by omega) (by simp; omega) ?_; intro A2 c2 w2 ho2 hg2)
          go_roundw
          case rel =>
            have e1 : min r (128 - q % 128) = 128 - q % 128 := by omega
            refine ⟨q + (128 - q % 128), r - (128 - q % 128), k, acc ++ [⟨q / 128, q % 128, q % 128 + (128 - q % 128)⟩], A2, c2, by congr 1; omega, by congr 1; omega, by rw [List.length_append]; rfl, ?_, ?_, by omega, by omega, by rw [List.length_append]; simp; omega, ?_⟩
            · rw [← ptCells_snoc, List.length_append, show ((128 - q % 128 : Nat) : Int) = 128 - (q : Int) % 128 from by omega]; exact ho2
            · have h := HE.out
              rw [HEE.out, e1] at h
              exact hid (by rw [List.append_assoc]; exact h)
            · exact Below.grown (hbel.alloc hz0 _) hg2 (by simp; omega) fun k hk => (ho.block k hk).1
          case measure => simp [intOf]; omega
      · have hr0 : r = 0 := by omega
        have HR := hid hr0
        obtain ⟨k, rfl⟩ : ∃ k', k = k' + 1 := ⟨k - 1, by omega⟩
        clear hr0
        go_wp2_with (go_at_call 31; refine (clipP_any _ _ _ _ ho.le.1).mono ?_; rintro e w3 ⟨rfl, rfl⟩)
        go_ret2
        have hacc2 : partsL (s + 1) p s = acc := by rw [← HE.out, HR.out, partsL, if_pos rfl, List.append_nil]
        exact ⟨A, acc.length, by rw [hacc2]; rfl, by rw [hacc2]; exact ho.clip, hbel⟩
end Go.Proofs.Ytafofpnfpkbfpaa
