/- Contracts of package verb: fields, stat. -/
import Derived.Test.YtppbcdcmpcagdaaVerb6
import Derived.Deep.RegionHeld3
namespace Go.Proofs.Ytppbcdcmpcagdaa
open Go.RowKit Go.CP

theorem vap_ints {w : World} {ops : Array Oper} {rest : List Oper} {o : Oper} {a : Act} {Q : Exit → Act → World → Prop} (hgd : o.guard = none) (s x : Operand) (tx : TypeId)
    (ho : o.op = .call { callee := .builtin .append, args := #[s, x], argTypes := #[130, tx] }) (base : Nat)
    {A : Option Addr} {n c : Nat} {xs : List Value} (hs : a.eval s = .slice A n c) (hown : Go.CP.Own w base 3 1 A n c xs)
    {vx : Value} {m : Nat} {news : List Value} (hvx : a.eval x = vx) (hx : Src Try.prog w 1 (.int .i64 0) tx vx m news)
    (hbytes : n + m ≤ 10000000000000) (hbase : base ≤ w.heap.size)
    (h : ∀ A' c' w', Go.CP.Own w' base 3 1 A' (n + m) c' (xs ++ news) → w.grownBy w' (blockOf A) → wpList Try.prog ops Q rest (a.put o.dst (.slice A' (n + m) c')) w') : wpList Try.prog ops Q (o :: rest) a w :=
  wpList_append_Own w hgd s x 130 tx ho base 3 Try.t3 (.int .i64 0) 1 8 Try.underlying130 info3 (by kernel_rfl) (by kernel_rfl) (by kernel_rfl) rfl (by decide) (by decide) (by decide) A n c xs hs hown vx m news hvx hx (by omega) hbase h
theorem vst_ints {w : World} {ops : Array Oper} {o : Oper} {a : Act} {K : Act → World → Prop} {Q : Exit → Act → World → Prop} {E : Prop} (hgd : o.guard = none) (s x : Operand) (tx : TypeId)
    (ho : o.op = .call { callee := .builtin .append, args := #[s, x], argTypes := #[130, tx] }) (base : Nat)
    {A : Option Addr} {n c : Nat} {xs : List Value} (hs : a.eval s = .slice A n c) (hown : Go.CP.Own w base 3 1 A n c xs)
    {vx : Value} {m : Nat} {news : List Value} (hvx : a.eval x = vx) (hx : Src Try.prog w 1 (.int .i64 0) tx vx m news)
    (hbytes : n + m ≤ 10000000000000) (hbase : base ≤ w.heap.size)
    (h : ∀ A' c' w', Go.CP.Own w' base 3 1 A' (n + m) c' (xs ++ news) → w.grownBy w' (blockOf A) → K (a.put o.dst (.slice A' (n + m) c')) w') :
    if Region.wanted o (yielded ops a.tmps) = true then Oper.wp Try.prog o a w K Q else E := by
  have hw : Region.wanted o (yielded ops a.tmps) = true := by simp [Region.wanted, hgd]
  rw [if_pos hw]
  exact wp_append_Own' w s x 130 tx ho base 3 Try.t3 (.int .i64 0) 1 8 Try.underlying130 info3 (by kernel_rfl) (by kernel_rfl) (by kernel_rfl) rfl (by decide) (by decide) (by decide) A n c xs hs hown vx m news hvx hx (by omega) hbase fun A' c' w' h1 h2 _ => h A' c' w' h1 h2
/-- Pointers to the fields of a stat. -/
def rowS (k o : Nat) : List Value := (List.range 6).map fun j => .pointer (some ⟨k, o + j, none⟩)
set_option maxHeartbeats 1000000 in
set_option maxRecDepth 100000 in
theorem fields_any (k o : Nat) (w : World) : Calls Try.prog 161 #[.pointer (some ⟨k, o, none⟩)] w fun e w' => ∃ g, e = .returned (.slice (some ⟨g, 0, none⟩) 6 6) ∧ Blk w' g 202 (rowS k o) ∧ w.heap.size ≤ g ∧ Below w.heap.size w w' := by
  go_enter Try.func161, Try.ntmps161
  go_wp2_with fail
  go_region_held3 (fun _ => True) (trivial) (fail)
  go_wp2_with fail
  go_ret
  exact ⟨w.heap.size, rfl, Blk.new w.drew 202 (rowS k o), Nat.le_refl _, Below.alloc (Below.drew (Below.refl _ _)) (Nat.le_refl _) _⟩
theorem rowS_at (k o : Nat) {i : Nat} (hi : i < 6) : (rowS k o)[i]? = some (.pointer (some ⟨k, o + i, none⟩)) := by
  simp [rowS, hi]
/-- Numbers of the call's own, and nothing old turned. -/
def RetI (w : World) (l : List Int) (e : Ending) (w' : World) : Prop :=
  ∃ A c m, e = .returned (.slice A (List.length m) c) ∧ Hid (m = l ∧ Go.CP.Own w' w.heap.size 3 1 A m.length c (m.map iv) ∧ Below w.heap.size w w')
theorem Blk.kept {W W' : World} {k : Nat} {t : TypeId} {cs : List Value} {row : Option Nat} (h : Blk W k t cs) (hg : W.grownBy W' row) (hne : some k ≠ row) : Blk W' k t cs := (hg.block k h.lt hne).trans h
set_option maxHeartbeats 1000000 in
set_option maxRecDepth 100000 in
theorem vstat_any (a b c d e f : Int) (w : World) : Calls Try.prog 159 #[.agg #[.int .i64 a, .int .i64 b, .int .i64 c, .int .i64 d, .int .i64 e, .int .i64 f]] w (RetI w [a, b, c, d, e, f]) := by
  obtain ⟨l, hl⟩ : ∃ l, l = [a, b, c, d, e, f] := ⟨_, rfl⟩
  have hbx : Blk (w.alloc (.cells #[.int .i64 a, .int .i64 b, .int .i64 c, .int .i64 d, .int .i64 e, .int .i64 f] 89)) w.heap.size 89 (l.map iv) := by rw [hl]; exact Blk.new w 89 _
  have hb0 : Below w.heap.size w (w.alloc (.cells #[.int .i64 a, .int .i64 b, .int .i64 c, .int .i64 d, .int .i64 e, .int .i64 f] 89)) := (Below.refl _ _).alloc (Nat.le_refl _) _
  have HBX := hid hbx
  have HB0 := hid hb0
  rw [← hl]
  have HLL : Hid (l.length = 6) := hid (by rw [hl]; rfl)
  clear hl hbx hb0
  go_enter Try.func159, Try.ntmps159
  go_wp2_with fail
  refine (fields_any w.heap.size 0 _).mono ?_
  rintro e' w1 ⟨g, rfl, hr1, hg1, hb1⟩
  have HX1 := hid (HBX.out.below hb1)
  have HR1 := hid hr1
  have HB1 := hid (below_t HB0.out hb1 (by simp))
  have hz1 : w.heap.size < w1.heap.size := by have := hb1.size; simp at this; omega
  have hgl := hr1.lt
  simp only [World.size_alloc] at hg1
  clear hr1 hb1 HBX HB0
  go_wp2_with fail
  go_loopw [3, 8] (fun ov iv' wr => ∃ (i : Nat) (X : Option Addr) (cx : Nat) (m : List Int), i ≤ 6 ∧ iv' = .int .i64 i ∧ ov = .slice X m.length cx ∧ Hid (m = l.take i ∧ Go.CP.Own wr w1.heap.size 3 1 X m.length cx (m.map iv) ∧ Blk wr w.heap.size 89 (l.map iv) ∧ Blk wr g 202 (rowS w.heap.size 0) ∧ Below w1.heap.size w1 wr)) (fun _ iv' _ => 6 - (intOf iv').toNat)
  case atStart => exact ⟨0, none, 0, [], by omega, rfl, rfl, hid ⟨rfl, Go.CP.Own.none _ _ _ _, HX1.out, HR1.out, Below.refl _ _⟩⟩
  case round =>
    obtain ⟨i, X, cx, m, hi, rfl, rfl, HI⟩ := hrel
    by_cases hlt : i < 6
    · obtain ⟨x, hx⟩ := get_of_lt l (i := i) (by rw [HLL.out]; exact hlt)
      have hcp := HI.out.2.2.2.1.cell (rowS_at w.heap.size 0 hlt)
      have hcx := HI.out.2.2.1.cell (j := i) (u := .int .i64 x) (by rw [List.getElem?_map, hx]; rfl)
      rw [Nat.zero_add] at hcp
      have HX := hid hx
      have hm6 : m.length ≤ 6 := by rw [HI.out.1, List.length_take]; omega
      have hii : (i : Int) < 6 := by omega
      have hzz := HI.out.2.2.2.2.size
      clear hx
      go_wp2_with (at_builtin; refine vap_ints rfl _ _ 130 rfl w1.heap.size rfl (HI.out.2.1.alloc (.cells #[.int .i64 x] 3)) rfl (Src.one (w := wr) Try.underlying130 rfl) (by omega) (by simp; omega) ?_; intro Y cy w2 ho2 hg2)
      go_roundw
      case rel =>
        refine ⟨i + 1, Y, cy, m ++ [x], by omega, by go_num, by simp, hid ⟨by rw [HI.out.1, take_snoc HX.out], by rw [List.length_append, List.map_append]; exact ho2, (HI.out.2.2.1.alloc _).kept hg2 (fun e => by have := (HI.out.2.1.block _ e.symm).1; omega), (HI.out.2.2.2.1.alloc _).kept hg2 (fun e => by have := (HI.out.2.1.block _ e.symm).1; omega), Below.grown (HI.out.2.2.2.2.alloc hzz _) hg2 (by simp; omega) (fun k hk => (HI.out.2.1.block k hk).1)⟩⟩
      case measure => simp [intOf]; omega
    · have hk : i = 6 := by omega
      have HK : Hid (m = l) := hid (by rw [HI.out.1, hk, List.take_of_length_le (by rw [HLL.out]; exact Nat.le_refl _)])
      have hik : ¬ (i : Int) < 6 := by omega
      clear hk
      go_wp2_with fail
      go_ret
      exact ⟨X, cx, m, rfl, hid ⟨HK.out, HI.out.2.1.mono (Nat.le_of_lt hz1), below_t HB1.out HI.out.2.2.2.2 HB1.out.size⟩⟩
end Go.Proofs.Ytppbcdcmpcagdaa
