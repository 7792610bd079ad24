/- Contracts of node's pointers: pointer, ContainsFunc over them, pointers; of the reference's Pointer. -/
import Derived.Test.YtppbcdcmpcagdaaSeat2
namespace Go.Proofs.Ytppbcdcmpcagdaa
open Go.RowKit Go.CP

def ptrB (n : Int) : Bool := n == 0 || (decide (43 ≤ n) && decide (n < 1024))
theorem pointer_any (n : Int) (w : World) : Calls Try.prog 143 #[.int .i64 n] w fun e w' => e = .returned (.bool (ptrB n)) ∧ w' = w := by
  by_cases h : n = 0
  · subst h
    go_enter Try.func143, Try.ntmps143
    go_wp2
    go_ret
    exact ⟨rfl, rfl⟩
  · have hq : (n == 0) = false := by simpa using h
    by_cases h2 : 43 ≤ n
    · by_cases h3 : n < 1024
      all_goals
        go_enter Try.func143, Try.ntmps143
        go_wp2
        go_ret
        exact ⟨ret_bool (by simp [ptrB, hq, h2, h3]), rfl⟩
    · go_enter Try.func143, Try.ntmps143
      go_wp2
      go_ret
      exact ⟨ret_bool (by have h4 : ¬ 43 ≤ n := by omega
                          simp [ptrB, hq, h4]), rfl⟩

theorem notptr_any (n : Int) (w : World) : Calls Try.prog 142 #[.int .i64 n] w fun e w' => e = .returned (.bool (!ptrB n)) ∧ w' = w := by
  go_enter Try.func142, Try.ntmps142
  go_wp2_with fail
  refine (pointer_any _ _).mono ?_
  rintro e w ⟨rfl, rfl⟩
  go_wp2
  go_ret
  exact ⟨rfl, rfl⟩

def RetIdx (b : Bool) (w : World) (e : Ending) (w' : World) : Prop := ∃ r : Int, e = .returned (.int .i64 r) ∧ decide (0 ≤ r) = b ∧ w' = w
def badB (l : List Int) : Bool := l.any fun n => !ptrB n

theorem badB_hit {l : List Int} {i : Nat} {x : Int} (h : l[i]? = some x) (hp : ptrB x = false) : badB l = true := by
  unfold badB
  rw [List.any_eq_true]
  exact ⟨x, List.mem_of_getElem? h, by simp [hp]⟩
theorem badB_snoc {l : List Int} {i : Nat} {x : Int} (h : l[i]? = some x) (hp : ptrB x = true) : badB (l.take (i + 1)) = badB (l.take i) := by
  unfold badB
  rw [take_snoc h, List.any_append]
  simp [hp]

theorem indexFunc_any (A : Option Addr) (l : List Int) (c : Nat) (w : World) (ha : Ints w A l) (hl : l.length ≤ 140737488351232) :
    Calls Try.prog 178 #[.slice A l.length c, .func (.func 142) #[] #[]] w (RetIdx (badB l) w) := by
  go_enter Try.func178, Try.ntmps178
  go_wp2_with fail
  go_loop [8] (fun iv => ∃ i : Nat, i ≤ l.length ∧ iv = .int .i64 i ∧ Hid (badB (l.take i) = false)) (fun iv => l.length - (intOf iv).toNat)
  case atStart => exact ⟨0, by omega, rfl, by exact hid rfl⟩
  case round =>
    obtain ⟨i, hi, rfl, HE⟩ := hrel
    by_cases hlt : i < l.length
    · obtain ⟨b1, o1, rfl, hc1⟩ := Ints.openq ha (by omega)
      obtain ⟨x, hx⟩ := get_of_lt l hlt
      have hd1 := hc1 i x hx
      have HX := hid hx
      clear hc1 hx
      by_cases hp : ptrB x = true
      · go_wp2_with (go_at_call 142; refine (notptr_any _ _).mono ?_; rintro e w ⟨rfl, rfl⟩)
        go_round
        case rel => exact ⟨i + 1, by omega, by go_num, hid (by rw [badB_snoc HX.out hp]; exact HE.out)⟩
        case measure => simp [intOf]; omega
      · have hp' : ptrB x = false := by simpa using hp
        clear hp
        go_wp2_with (go_at_call 142; refine (notptr_any _ _).mono ?_; rintro e w ⟨rfl, rfl⟩)
        go_ret
        exact ⟨i, rfl, by rw [badB_hit HX.out hp']; simp, rfl⟩
    · have hk : i = l.length := by omega
      have HK := hid hk
      clear hk
      go_wp2_with fail
      go_ret
      exact ⟨-1, rfl, by have := HK.out; subst this; have e := HE.out; rw [List.take_length] at e; rw [e]; rfl, rfl⟩

theorem containsFunc_any (A : Option Addr) (l : List Int) (c : Nat) (w : World) (ha : Ints w A l) (hl : l.length ≤ 140737488351232) :
    Calls Try.prog 140 #[.slice A l.length c, .func (.func 142) #[] #[]] w fun e w' => e = .returned (.bool (badB l)) ∧ w' = w := by
  go_enter Try.func140, Try.ntmps140
  go_wp2_with fail
  refine (indexFunc_any A l c w ha hl).mono ?_
  rintro e w ⟨r, rfl, hr, rfl⟩
  have HR := hid hr
  clear hr
  go_wp2_with fail
  go_ret
  exact ⟨ret_bool HR.out, rfl⟩

theorem rpointer_any (n : Int) (w : World) : Calls Try.prog 144 #[.int .i64 n] w fun e w' => e = .returned (.bool (ptrB n)) ∧ w' = w := by
  by_cases h0 : n = 0
  · subst h0
    go_enter Try.func144, Try.ntmps144
    go_wp2
    go_ret
    exact ⟨rfl, rfl⟩
  · have hq : (n == 0) = false := by simpa using h0
    clear h0
    go_enter Try.func144, Try.ntmps144
    go_wp2
    all_goals
      go_ret
      exact ⟨ret_bool (by rw [ptrB, hq, Bool.eq_iff_iff]; simp; omega), rfl⟩

theorem ap_ints {w : World} {ops : Array Oper} {rest : List Oper} {o : Oper} {a : Act} {Q : Exit → Act → World → Prop} (hgd : o.guard = none) (s x : Operand) (tx : TypeId)
    (ho : o.op = .call { callee := .builtin .append, args := #[s, x], argTypes := #[130, tx] }) (base : Nat)
    {A : Option Addr} {n c : Nat} {xs : List Value} (hs : a.eval s = .slice A n c) (hown : Go.CP.Own w base 3 1 A n c xs)
    {vx : Value} {m : Nat} {news : List Value} (hvx : a.eval x = vx) (hx : Src Try.prog w 1 (.int .i64 0) tx vx m news)
    (hbytes : n + m ≤ 25000000000000) (hbase : base ≤ w.heap.size)
    (h : ∀ A' c' w', Go.CP.Own w' base 3 1 A' (n + m) c' (xs ++ news) → w.grownBy w' (blockOf A) → wpList Try.prog ops Q rest (a.put o.dst (.slice A' (n + m) c')) w') : wpList Try.prog ops Q (o :: rest) a w :=
  wpList_append_Own w hgd s x 130 tx ho base 3 Try.t3 (.int .i64 0) 1 8 Try.underlying130 info3 (by kernel_rfl) (by kernel_rfl) (by kernel_rfl) rfl (by decide) (by decide) (by decide) A n c xs hs hown vx m news hvx hx (by omega) hbase h
theorem st_ints {w : World} {ops : Array Oper} {o : Oper} {a : Act} {K : Act → World → Prop} {Q : Exit → Act → World → Prop} {E : Prop} (hgd : o.guard = none) (s x : Operand) (tx : TypeId)
    (ho : o.op = .call { callee := .builtin .append, args := #[s, x], argTypes := #[130, tx] }) (base : Nat)
    {A : Option Addr} {n c : Nat} {xs : List Value} (hs : a.eval s = .slice A n c) (hown : Go.CP.Own w base 3 1 A n c xs)
    {vx : Value} {m : Nat} {news : List Value} (hvx : a.eval x = vx) (hx : Src Try.prog w 1 (.int .i64 0) tx vx m news)
    (hbytes : n + m ≤ 25000000000000) (hbase : base ≤ w.heap.size)
    (h : ∀ A' c' w', Go.CP.Own w' base 3 1 A' (n + m) c' (xs ++ news) → w.grownBy w' (blockOf A) → K (a.put o.dst (.slice A' (n + m) c')) w') :
    if Region.wanted o (yielded ops a.tmps) = true then Oper.wp Try.prog o a w K Q else E := by
  have hw : Region.wanted o (yielded ops a.tmps) = true := by simp [Region.wanted, hgd]
  rw [if_pos hw]
  exact wp_append_Own' w s x 130 tx ho base 3 Try.t3 (.int .i64 0) 1 8 Try.underlying130 info3 (by kernel_rfl) (by kernel_rfl) (by kernel_rfl) rfl (by decide) (by decide) (by decide) A n c xs hs hown vx m news hvx hx (by omega) hbase fun A' c' w' h1 h2 _ => h A' c' w' h1 h2

theorem Ints.none_nil {w : World} {l : List Int} (h : Ints w none l) : l = [] := by
  have := Cells.none_nil h
  simpa using this
theorem clonei_any (A : Option Addr) (l : List Int) (c : Nat) (w : World) (hb : Ints w A l) (hl : l.length ≤ 20000000000000) :
    Calls Try.prog 179 #[.slice A l.length c] w (RetOwn w 3 1 l.length (l.map iv)) := by
  have hq : ∀ w : World, (binOp .eql 130 (.slice A l.length c) (.slice none 0 0)).run Try.prog w = .ok (.bool A.isNone) w := fun w => Lib.run_eql_slice_nil w 130 3 A _ _ _ _ Try.underlying130
  cases A with
  | none =>
    obtain rfl := Ints.none_nil hb
    have hq' : ∀ w : World, (binOp .eql 130 (.slice none 0 c) (.slice none 0 0)).run Try.prog w = .ok (.bool true) w := hq
    clear hq
    go_enter Try.func179, Try.ntmps179
    go_wp2
    go_ret
    exact ⟨none, 0, rfl, Own.none _ _ _ _, Below.refl _ _⟩
  | some ad =>
    have hq' : ∀ w : World, (binOp .eql 130 (.slice (some ad) l.length c) (.slice none 0 0)).run Try.prog w = .ok (.bool false) w := hq
    clear hq
    go_enter Try.func179, Try.ntmps179
    go_wp2_with (at_builtin; refine ap_ints rfl _ _ 130 rfl w.heap.size rfl (Own.empty w 3 1) rfl (Src.ints Try.underlying130 (hb.alloc _)) (by omega) (by simp) ?_; intro A' c' w' ho hg; simp only [Nat.zero_add, List.nil_append] at ho ⊢)
    go_ret
    exact ⟨A', c', rfl, ho, Below.of_grown ((World.grownBy_alloc _ _ _).trans hg) (by simp) (by simp [blockOf])⟩

/-- A node: its eleven numbers. -/
structure Nod where
  k : Int
  l : Int
  g : Int
  s : Int
  c : Int
  d0 : Int
  d1 : Int
  d2 : Int
  d3 : Int
  o : Int
  t : Int
def BoxN (W : World) (b : Nat) (x : Nod) : Prop := W.heap[b]? = some (.cells #[.int .i64 x.k, .int .i64 x.l, .int .i64 x.g, .int .i64 x.s, .int .i64 x.c, .int .i64 x.d0, .int .i64 x.d1, .int .i64 x.d2, .int .i64 x.d3, .int .i64 x.o, .int .i64 x.t] 84 (0, 0))
theorem BoxN.facts {W : World} {b : Nat} {x : Nod} (h : BoxN W b x) : W.cell? ⟨b, 0, none⟩ = some (.int .i64 x.k) ∧ W.cell? ⟨b, 1, none⟩ = some (.int .i64 x.l) ∧ W.cell? ⟨b, 2, none⟩ = some (.int .i64 x.g) ∧ W.cell? ⟨b, 3, none⟩ = some (.int .i64 x.s) ∧ W.cell? ⟨b, 4, none⟩ = some (.int .i64 x.c) ∧
    W.cell? ⟨b, 5, none⟩ = some (.int .i64 x.d0) ∧ W.cell? ⟨b, 6, none⟩ = some (.int .i64 x.d1) ∧ W.cell? ⟨b, 7, none⟩ = some (.int .i64 x.d2) ∧ W.cell? ⟨b, 8, none⟩ = some (.int .i64 x.d3) ∧ W.cell? ⟨b, 9, none⟩ = some (.int .i64 x.o) ∧ W.cell? ⟨b, 10, none⟩ = some (.int .i64 x.t) ∧
    (∀ j, W.frozen? ⟨b, j, none⟩ = false) ∧ b < W.heap.size := by
  have h' : W.heap[b]? = _ := h
  refine ⟨?_, ?_, ?_, ?_, ?_, ?_, ?_, ?_, ?_, ?_, ?_, fun j => ?_, (Array.getElem?_eq_some_iff.1 h').1⟩ <;> simp [World.cell?, World.frozen?, h']
theorem BoxN.lt {W : World} {b : Nat} {x : Nod} (h : BoxN W b x) : b < W.heap.size := (Array.getElem?_eq_some_iff.1 (show W.heap[b]? = _ from h)).1
theorem BoxN.below {B : Nat} {W W' : World} {b : Nat} {x : Nod} (h : BoxN W b x) (hb : Below B W W') (hk : b < B) : BoxN W' b x := (hb.block b hk).trans h
theorem BoxN.alloc {W : World} {b : Nat} {x : Nod} (h : BoxN W b x) (ob : Obj) : BoxN (W.alloc ob) b x := h.below ((Below.refl W.heap.size W).alloc (Nat.le_refl _) ob) h.lt
theorem BoxN.drew {W : World} {b : Nat} {x : Nod} (h : BoxN W b x) : BoxN W.drew b x := h
theorem BoxN.kept {W W' : World} {row : Option Nat} {b : Nat} {x : Nod} (h : BoxN W b x) (hg : W.grownBy W' row) (hne : some b ≠ row) : BoxN W' b x := (hg.block b h.lt hne).trans h
theorem BoxN.ints {W : World} {b : Nat} {x : Nod} (h : BoxN W b x) : Ints W (some ⟨b, 5, none⟩) [x.d0, x.d1, x.d2, x.d3] := by
  obtain ⟨-, -, -, -, -, h0, h1, h2, h3, -⟩ := h.facts
  intro j u hu
  refine ⟨b, 5, rfl, ?_⟩
  match j, hu with
  | 0, hu => simp at hu; subst hu; exact h0
  | 1, hu => simp at hu; subst hu; exact h1
  | 2, hu => simp at hu; subst hu; exact h2
  | 3, hu => simp at hu; subst hu; exact h3
  | j + 4, hu => simp at hu
end Go.Proofs.Ytppbcdcmpcagdaa
