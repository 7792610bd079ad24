/- The same laws inside a fence; slices.Backward over what waits. -/
import Derived.Test.YtppbcdcmpcagdaaDriveC
import Derived.Test.YtppbcdcmpcagdaaField3
namespace Go.Proofs.Ytppbcdcmpcagdaa
open Go.RowKit Go.CP Go.Shelf
attribute [local go_sem] Oper.semAt_some

section
variable {F : Fence} {n : Nat}
theorem wlIn_value {ops : Array Oper} {rest : List Oper} {o : Oper} {a : Act} {w w' : World} {Q : Exit → Act → World → Prop} (hgd : o.guard = none) (hd : ∀ c, o.op ≠ .defer c) (hab : o.about Try.prog w a.eval = none) (v : Value)
    (hrun : (execOp a.eval o).run Try.prog w = .ok (.value v) w') (h : wpListIn F n Try.prog ops Q rest (a.put o.dst v) w') : wpListIn F n Try.prog ops Q (o :: rest) a w := by
  refine wpListIn_plain hgd fun K hK' => ?_
  unfold Oper.wpIn
  refine ⟨fun f hf => (by rw [hab] at hf; cases hf), ?_⟩
  rw [Oper.semAt_plain F _ _ hd, hrun]
  exact hK' _ _ h
theorem wlIn_skip {ops : Array Oper} {rest : List Oper} {o : Oper} {a : Act} {w w' : World} {Q : Exit → Act → World → Prop} (hgd : o.guard = none) (hd : ∀ c, o.op ≠ .defer c) (hab : o.about Try.prog w a.eval = none)
    (hrun : (execOp a.eval o).run Try.prog w = .ok .skip w') (h : wpListIn F n Try.prog ops Q rest (a.put o.dst undef) w') : wpListIn F n Try.prog ops Q (o :: rest) a w := by
  refine wpListIn_plain hgd fun K hK' => ?_
  unfold Oper.wpIn
  refine ⟨fun f hf => (by rw [hab] at hf; cases hf), ?_⟩
  rw [Oper.semAt_plain F _ _ hd, hrun]
  exact hK' _ _ h
theorem wlIn_alloc216 {ops : Array Oper} {rest : List Oper} {o : Oper} {a : Act} {w : World} {Q : Exit → Act → World → Prop} (hgd : o.guard = none) (ho : o.op = .alloc 216)
    (h : wpListIn F n Try.prog ops Q rest (a.put o.dst (.pointer (some ⟨w.heap.size, 0, none⟩))) (w.alloc (.cells z216.cells 216))) : wpListIn F n Try.prog ops Q (o :: rest) a w :=
  wlIn_value hgd (by rw [ho]; intro c hc; cases hc) (by simp [Oper.about, ho]) _ (by unfold execOp; simp only [ho, Sem.run_bind, run_alloc216, Result.andThen_ok, Sem.run_pure]) h
theorem wlIn_load216 {ops : Array Oper} {rest : List Oper} {o : Oper} {a : Act} {w : World} {Q : Exit → Act → World → Prop} (hgd : o.guard = none) (x : Operand) (ho : o.op = .load 216 x) (v : Int × List UInt8) (hv : v.2.length = 128)
    (b off : Nat) (hx : a.eval x = .pointer (some ⟨b, off, none⟩)) (hr : w.rangeAt b off (rowL v)) (h : wpListIn F n Try.prog ops Q rest (a.put o.dst (.agg (rowL v).toArray)) w) : wpListIn F n Try.prog ops Q (o :: rest) a w :=
  wlIn_value hgd (by rw [ho]; intro c hc; cases hc) (by simp [Oper.about, ho]) _ (by
    unfold execOp
    simp only [ho, hx, Sem.run_bind, run_loadAt_mid w b off 216 (rowL v) _ hr Try.underlying216 rfl (by rw [info216s v hv, List.size_toArray]), Result.andThen_ok, Sem.run_pure]) h
theorem wlIn_load214 {ops : Array Oper} {rest : List Oper} {o : Oper} {a : Act} {w : World} {Q : Exit → Act → World → Prop} (hgd : o.guard = none) (x : Operand) (ho : o.op = .load 214 x) (d : List UInt8) (hd : d.length = 128)
    (b off : Nat) (hx : a.eval x = .pointer (some ⟨b, off, none⟩)) (hr : w.rangeAt b off (d.map bv)) (h : wpListIn F n Try.prog ops Q rest (a.put o.dst (.agg (d.map bv).toArray)) w) : wpListIn F n Try.prog ops Q (o :: rest) a w :=
  wlIn_value hgd (by rw [ho]; intro c hc; cases hc) (by simp [Oper.about, ho]) _ (by
    unfold execOp
    simp only [ho, hx, Sem.run_bind, run_loadAt_mid w b off 214 (d.map bv) _ hr Try.underlying214 rfl (by rw [info214s, List.length_map, hd]), Result.andThen_ok, Sem.run_pure]) h
theorem run_storeAt_row (w : World) (g : Nat) (t ty : TypeId) (old cells : Array Value) (hg : w.heap[g]? = some (.cells old t (0, 0))) (hi : (Try.prog.info? ty).map (·.size) = some cells.size)
    (ho : old.size = cells.size) (h1 : cells.all (·.oneCell') = true) : (Instr.storeAt ty (.pointer (some ⟨g, 0, none⟩)) (.agg cells)).run Try.prog w = .ok () (w.setRow g cells) := by
  simp only [Instr.storeAt, Instr.sureAddr, Sem.run_bind, Sem.run_pure, Result.andThen_ok, run_storeVar_row w g t ty old cells hg hi ho h1]
theorem wlIn_store214 {ops : Array Oper} {rest : List Oper} {o : Oper} {a : Act} {w : World} {Q : Exit → Act → World → Prop} (hgd : o.guard = none) (x y : Operand) (ho : o.op = .store 214 x y) (d : List UInt8) (hd : d.length = 128)
    (g : Nat) (old : Array Value) (hg : w.heap[g]? = some (.cells old 214 (0, 0))) (hos : old.size = 128) (hx : a.eval x = .pointer (some ⟨g, 0, none⟩)) (hy : a.eval y = .agg (d.map bv).toArray)
    (h : wpListIn F n Try.prog ops Q rest (a.put o.dst undef) (w.setRow g (d.map bv).toArray)) : wpListIn F n Try.prog ops Q (o :: rest) a w :=
  wlIn_skip hgd (by rw [ho]; intro c hc; cases hc) (by simp [Oper.about, ho]) (by
    unfold execOp
    simp only [ho, hx, hy, Sem.run_bind, run_storeAt_row w g 214 214 old _ hg (by rw [info214s]; simp [hd]) (by simp [hos, hd]) (all_oneCell_toArray (row_byte d)), Result.andThen_ok, Sem.run_pure]) h
theorem wlIn_box216 {ops : Array Oper} {rest : List Oper} {o : Oper} {a : Act} {w : World} {Q : Exit → Act → World → Prop} (hgd : o.guard = none) (x y : Operand) (ho : o.op = .store 216 x y) (v : Int × List UInt8) (hv : v.2.length = 128)
    (hx : a.eval x = .pointer (some ⟨w.heap.size, 0, none⟩)) (hy : a.eval y = .agg (rowL v).toArray)
    (h : wpListIn F n Try.prog ops Q rest (a.put o.dst undef) (w.alloc (.cells (rowL v).toArray 216))) : wpListIn F n Try.prog ops Q (o :: rest) a (w.alloc (.cells z216.cells 216)) :=
  wlIn_skip hgd (by rw [ho]; intro c hc; cases hc) (by simp [Oper.about, ho]) (by
    unfold execOp
    simp only [ho, hx, hy, Sem.run_bind, run_storeAt_row _ w.heap.size 216 216 z216.cells _ (heap_alloc_new w _) (info216s v hv) (by rw [cells216, List.size_toArray, rowL_len hv]) (all_oneCell_toArray (row_one v)), Result.andThen_ok, Sem.run_pure, setRow_alloc]) h
end
/-! Guards for arms inside a fence. -/
section
variable {F : Fence} {n : Nat} {P : Program} {ops : Array Oper} {rest : List Oper} {d : Option Tmp} {t : TypeId} {p : String} {af : Array Edge} {x y : Operand} {a : Act} {w : World} {Q : Exit → Act → World → Prop}
theorem wplIn_load216 (h : wpListIn F n P ops Q ({ dst := d, op := .load 216 x, type := t, pos := p, after := af, guard := none } :: rest) a w) : wpListIn F n P ops Q ({ dst := d, op := .load 216 x, type := t, pos := p, after := af, guard := none } :: rest) a w := h
theorem wplIn_load214 (h : wpListIn F n P ops Q ({ dst := d, op := .load 214 x, type := t, pos := p, after := af, guard := none } :: rest) a w) : wpListIn F n P ops Q ({ dst := d, op := .load 214 x, type := t, pos := p, after := af, guard := none } :: rest) a w := h
theorem wplIn_store214 (h : wpListIn F n P ops Q ({ dst := d, op := .store 214 x y, type := t, pos := p, after := af, guard := none } :: rest) a w) : wpListIn F n P ops Q ({ dst := d, op := .store 214 x y, type := t, pos := p, after := af, guard := none } :: rest) a w := h
theorem wplIn_alloc216 (h : wpListIn F n P ops Q ({ dst := d, op := .alloc 216, type := t, pos := p, after := af, guard := none } :: rest) a w) : wpListIn F n P ops Q ({ dst := d, op := .alloc 216, type := t, pos := p, after := af, guard := none } :: rest) a w := h
theorem wplIn_store216 (h : wpListIn F n P ops Q ({ dst := d, op := .store 216 x y, type := t, pos := p, after := af, guard := none } :: rest) a w) : wpListIn F n P ops Q ({ dst := d, op := .store 216 x y, type := t, pos := p, after := af, guard := none } :: rest) a w := h
end

/-! ### slices.Backward over what waits -/
abbrev Wt := Int × List UInt8
/-- A waiting sector of a sector's length, whatever is given. -/
def fitW (x : Wt) : Wt := (x.1, (x.2 ++ List.replicate 128 0).take 128)
theorem fitW_len (x : Wt) : (fitW x).2.length = 128 := by simp [fitW]
theorem fitW_of {x : Wt} (h : x.2.length = 128) : fitW x = x := by
  unfold fitW
  rw [← h, List.take_left]
/-- What has come when the last k have come, last first. -/
def backW (b : List Wt) (k : Nat) : List (Nat × Wt) := (List.range k).map fun j => (b.length - 1 - j, b.getD (b.length - 1 - j) (0, []))
theorem backW_succ (b : List Wt) (k : Nat) : backW b (k + 1) = backW b k ++ [(b.length - 1 - k, b.getD (b.length - 1 - k) (0, []))] := by simp [backW, List.range_succ]
theorem backW_len (b : List Wt) (k : Nat) : (backW b k).length = k := by simp [backW]
/-- The rows of what waits lie in a world. -/
def WaitAt (W : World) (B : Option Addr) (b : List Wt) : Prop := ∀ i x, b[i]? = some x → x.2.length = 128 ∧ ∃ ga, B = some ⟨ga, 0, none⟩ ∧ W.rangeAt ga (i * 129) (rowL x)

set_option maxRecDepth 100000 in
set_option maxHeartbeats 2000000 in
theorem bwdW_in (F : Fence) (n : Nat) (hF : F.fn 187) (hro : F.round = none) (hn : 1 ≤ n) (l Bs n₀ : Nat) (B : Option Addr) (b : List Wt) (cb : Nat) (hlen : b.length ≤ 140737488351232) (J Jx : List (Nat × Wt) → World → Prop)
    (hY : ∀ pre x W, J pre W → pre.length < b.length → YieldAt F (n - 1) Try.prog l #[.int .i64 (x.1 : Int), .agg (rowL (fitW x.2)).toArray] W fun e W' =>
      (e = .returned (.bool true) ∧ J (pre ++ [x]) W' ∧ KpB n₀ Bs W W') ∨ (e = .returned (.bool false) ∧ Jx (pre ++ [x]) W'))
    (W : World) (hBs : W.cell? ⟨Bs, 0, none⟩ = some (.slice B b.length cb)) (hb : ∀ W', Below n₀ W W' → WaitAt W' B b) (h0 : J [] W) :
    CallsIn F n Try.prog 187 #[.func (.yield l) #[] #[], .pointer (some ⟨Bs, 0, none⟩)] W fun e W' => (∃ v, e = .returned v) ∧
      ((∃ ys, ys = backW b b.length ∧ J ys W') ∨ (∃ pre, (∃ k, k ≤ b.length ∧ pre = backW b k) ∧ Jx pre W')) := by
  refine callsIn_of_wp Try.func187 rfl hF ?_ hro
  simp only [Try.ntmps187, List.size_toArray, List.length_cons, List.length_nil, Nat.reduceAdd, Nat.reduceSub, Array.replicate_succ, Array.replicate_zero, List.push_toArray, List.append_toArray, List.nil_append, List.cons_append]
  gi_wp2
  gi_loopw [3] (fun i wr => ∃ m : Nat, m ≤ b.length ∧ i = .int .i64 ((m : Int) - 1) ∧ J (backW b (b.length - m)) wr ∧ KpB n₀ Bs W wr)
    (fun i _ => (intOf i + 1).toNat)
  case atStart => exact ⟨b.length, Nat.le_refl _, rfl, by rw [Nat.sub_self]; exact h0, KpB.refl _ _ _⟩
  case round =>
    obtain ⟨m, hm, rfl, hJs, hnx⟩ := hrel
    have hbs := hnx.cell hBs
    cases m with
    | zero =>
      rw [show (((0 : Nat) : Int) - 1) = -1 from rfl]
      gi_wp2
      go_end0
      exact ⟨⟨_, rfl⟩, .inl ⟨_, rfl, by simpa using hJs⟩⟩
    | succ m =>
      obtain ⟨x, hx⟩ := get_of_lt b (i := m) (by omega)
      obtain ⟨hxl, ga, rfl, hd⟩ := hb wr hnx.1 m x hx
      have hxd : b.getD m (0, []) = x := by rw [List.getD_eq_getElem?_getD, hx]; rfl
      obtain ⟨fn, tmps, assign, body, hy, hR⟩ := hY _ (m, x) wr hJs (by rw [backW_len]; omega)
      have hbk : backW b (b.length - (m + 1)) ++ [(m, x)] = backW b (b.length - m) := by
        rw [show b.length - m = b.length - (m + 1) + 1 from by omega, backW_succ, show b.length - 1 - (b.length - (m + 1)) = m from by omega, hxd]
      rw [hbk] at hR
      have HB := hid hbk
      have hfx := fitW_of hxl
      have HXL := hid hxl
      have HD := hid hd
      clear hbk hx hxd hxl hd
      rw [show (((m + 1 : Nat) : Int) - 1) = m from by omega]
      dsimp only at hy
      rw [hfx] at hy
      have HFX := hid hfx
      clear hfx
      gi_wp2_with ((with_reducible refine wplIn_load216 ?_); refine wlIn_load216 rfl (.tmp 15) rfl x HXL.out ga (m * 129) rfl HD.out ?_)
      refine hR.mono ?_
      rintro e W3 (⟨rfl, hJ3, hk3⟩ | ⟨rfl, hJx3⟩)
      · gi_wp2
        go_roundw
        case rel => exact ⟨m, by omega, rfl, hJ3, hnx.trans hk3⟩
        case measure => simp [intOf]
      · gi_wp2
        refine bodyPost_ret (results_none rfl _ _ _) rfl ?_
        exact ⟨⟨_, rfl⟩, .inr ⟨_, ⟨b.length - m, by omega, rfl⟩, hJx3⟩⟩

theorem backward167_any (a : Option Addr) (len cap : Nat) (w : World) :
    Calls Try.prog 167 #[.slice a len cap] w fun e w' => e = .returned (.func (.func 187) #[] #[.pointer (some ⟨w.heap.size, 0, none⟩)]) ∧ w' = w.alloc (.cells #[.slice a len cap] 209) := by
  go_enter Try.func167, Try.ntmps167
  go_wp2
  go_ret
  exact ⟨rfl, rfl⟩

theorem backW_stops (F : Fence) (n : Nat) (hF : F.fn 187) (hro : F.round = none) (hn : 1 ≤ n) (Bs n₀ : Nat) (B : Option Addr) (b : List Wt) (cb : Nat) (hlen : b.length ≤ 140737488351232) (w : World) (hBs : Bs < w.heap.size) (hn₀ : n₀ ≤ w.heap.size)
    (hc : w.cell? ⟨Bs, 0, none⟩ = some (.slice B b.length cb)) (hb : ∀ W', Below n₀ w W' → WaitAt W' B b) :
    SeqStopsK F n Try.prog 187 #[.pointer (some ⟨Bs, 0, none⟩)] (fun x : Nat × Wt => #[Value.int .i64 (x.1 : Int), .agg (rowL (fitW x.2)).toArray]) (KpB n₀ Bs) (fun ys => ys = backW b b.length)
      (fun pre => ∃ k, k ≤ b.length ∧ pre = backW b k) b.length w := fun l J Jx W hW _ _ hY h0 =>
  bwdW_in F n hF hro hn l Bs n₀ B b cb hlen J Jx hY W ((hW.cell (p := ⟨Bs, 0, none⟩) hBs).trans hc) (fun W' h => hb W' ((hW.mono hn₀).trans h)) h0

/-! ### the last for a place -/
theorem lastL_none {n : Int} {l : List Wt} (h : ∀ x ∈ l, x.1 ≠ n) : lastL n l = none := by
  induction l with
  | nil => rfl
  | cons x l ih => rw [lastL, ih fun y hy => h y (List.mem_cons_of_mem _ hy), if_neg (h x List.mem_cons_self)]
theorem lastL_at {n : Int} : ∀ {l : List Wt} {i : Nat} {x : Wt}, l[i]? = some x → x.1 = n → (∀ j y, i < j → l[j]? = some y → y.1 ≠ n) → lastL n l = some x.2
  | [], i, x, h, _, _ => by simp at h
  | y :: l, 0, x, h, hn, hno => by
    simp at h
    subst h
    rw [lastL, lastL_none fun z hz => ?_, if_pos hn]
    obtain ⟨j, hj⟩ := List.mem_iff_getElem?.1 hz
    exact hno (j + 1) z (by omega) (by simpa using hj)
  | y :: l, i + 1, x, h, hn, hno => by
    rw [lastL, lastL_at (l := l) (i := i) (x := x) (by simpa using h) hn fun j z hj hz => hno (j + 1) z (by omega) (by simpa using hz)]
theorem backW_mem {b : List Wt} {k : Nat} (hk : k ≤ b.length) {y : Nat × Wt} (h : y ∈ backW b k) : b[y.1]? = some y.2 ∧ b.length - k ≤ y.1 := by
  unfold backW at h
  obtain ⟨j, hj, rfl⟩ := List.mem_map.1 h
  have hj' := List.mem_range.1 hj
  dsimp only
  constructor
  · rw [List.getD_eq_getElem?_getD, List.getElem?_eq_getElem (by omega)]; rfl
  · omega
theorem backW_of {b : List Wt} {k i : Nat} {x : Wt} (hx : b[i]? = some x) (hi : b.length - k ≤ i) (hk : k ≤ b.length) : (i, x) ∈ backW b k := by
  have h1 := (List.getElem?_eq_some_iff.1 hx).1
  unfold backW
  refine List.mem_map.2 ⟨b.length - 1 - i, List.mem_range.2 (by omega), ?_⟩
  rw [show b.length - 1 - (b.length - 1 - i) = i by omega, List.getD_eq_getElem?_getD, hx]
  rfl
end Go.Proofs.Ytppbcdcmpcagdaa
