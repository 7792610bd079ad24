/- Contracts of node.Get, node.Stat. -/
import Derived.Test.YtppbcdcmpcagdaaNode8
namespace Go.Proofs.Ytppbcdcmpcagdaa
open Go.RowKit Go.CP

/-- A node is written over a node, in a plain region. -/
theorem wl_nod {w : World} {ops : Array Oper} {rest : List Oper} {o : Oper} {a : Act} {Q : Exit → Act → World → Prop} (hgd : o.guard = none) (x y : Operand) (ho : o.op = .store 84 x y)
    (b : Nat) (hx : a.eval x = .pointer (some ⟨b, 0, none⟩)) (old new : Nod) (hy : a.eval y = .agg #[.int .i64 new.k, .int .i64 new.l, .int .i64 new.g, .int .i64 new.s, .int .i64 new.c, .int .i64 new.d0, .int .i64 new.d1, .int .i64 new.d2, .int .i64 new.d3, .int .i64 new.o, .int .i64 new.t])
    (hk : BoxN w b old) (h : ∀ w', BoxN w' b new → Turn b w w' → wpList Try.prog ops Q rest (a.put o.dst undef) w') : wpList Try.prog ops Q (o :: rest) a w := by
  refine wpList_plain hgd fun K hK => ?_
  unfold Oper.wp execOp
  simp only [ho, hx, hy, Instr.storeAt, Instr.sureAddr, Sem.run_bind, Sem.run_pure, Result.andThen_ok]
  rw [run_storeVar_row w b 84 84 _ #[.int .i64 new.k, .int .i64 new.l, .int .i64 new.g, .int .i64 new.s, .int .i64 new.c, .int .i64 new.d0, .int .i64 new.d1, .int .i64 new.d2, .int .i64 new.d3, .int .i64 new.o, .int .i64 new.t] hk info84 rfl (by simp [Value.oneCell'])]
  exact hK _ _ (h _ (setRow_heap w b _ _ 84 _ hk) turn_setRow)

/-- What node.Get says: the node, the error's number. -/
def getN (b : List UInt8) (i : Int) : Nod × Int :=
  if b.length = 128 ∧ 0 ≤ i ∧ i < 4 then (if okN (getS b i.toNat) then (decN (getS b i.toNat), 0) else (nod0, 2)) else (nod0, 1)
def RetGet (x : Nod) (n : Int) (w : World) (e : Ending) (w' : World) : Prop :=
  e = .returned (.tuple #[.agg #[.int .i64 x.k, .int .i64 x.l, .int .i64 x.g, .int .i64 x.s, .int .i64 x.c, .int .i64 x.d0, .int .i64 x.d1, .int .i64 x.d2, .int .i64 x.d3, .int .i64 x.o, .int .i64 x.t], .int .i64 n]) ∧ Below w.heap.size w w'
theorem res77 {W : World} {k : Nat} {x : Nod} (h : BoxN W k x) (tmps : Array Value) (ht : tmps.getD 4 undef = .pointer (some ⟨k, 0, none⟩)) :
    (results Try.f77 tmps).run Try.prog W = .ok (.tuple #[.agg #[.int .i64 x.k, .int .i64 x.l, .int .i64 x.g, .int .i64 x.s, .int .i64 x.c, .int .i64 x.d0, .int .i64 x.d1, .int .i64 x.d2, .int .i64 x.d3, .int .i64 x.o, .int .i64 x.t], tmps.getD 5 undef]) W := by
  obtain ⟨f0, f1, f2, f3, f4, f5, f6, f7, f8, f9, f10, -, -⟩ := h.facts
  have ht' : tmps[4]?.getD undef = .pointer (some ⟨k, 0, none⟩) := by simpa using ht
  simp [results, Try.results77, go_sem, ht', f0, f1, f2, f3, f4, f5, f6, f7, f8, f9, f10]

set_option maxHeartbeats 2000000 in
set_option maxRecDepth 100000 in
theorem get_err (B : Option Addr) (b : List UInt8) (c : Nat) (i : Int) (w : World) (h : ¬ (b.length = 128 ∧ 0 ≤ i ∧ i < 4)) : Calls Try.prog 77 #[.slice B b.length c, .int .i64 i] w (RetGet nod0 1 w) := by
  have K0 := hid (BoxN.new w nod0)
  simp only [nod0] at K0
  have HB0 : Hid (Below w.heap.size w (w.alloc (.cells #[.int .i64 0, .int .i64 0, .int .i64 0, .int .i64 0, .int .i64 0, .int .i64 0, .int .i64 0, .int .i64 0, .int .i64 0, .int .i64 0, .int .i64 0] 84))) := hid ((Below.refl _ _).alloc (Nat.le_refl _) _)
  by_cases hl : b.length = 128
  · rw [hl]
    by_cases h0 : i < 0
    · clear h hl
      go_enter Try.func77, Try.ntmps77
      go_wp2_with (refine wl_nod rfl (.tmp 4) (.tmp 19) rfl w.heap.size rfl nod0 nod0 rfl K0.out ?_; intro w1 hk1 ht1)
      exact bodyPost_ret (res77 hk1 _ rfl) rfl ⟨rfl, HB0.out.trans ht1.1⟩
    · have h4 : 4 ≤ i := by omega
      clear h hl
      go_enter Try.func77, Try.ntmps77
      go_wp2_with (refine wl_nod rfl (.tmp 4) (.tmp 19) rfl w.heap.size rfl nod0 nod0 rfl K0.out ?_; intro w1 hk1 ht1)
      exact bodyPost_ret (res77 hk1 _ rfl) rfl ⟨rfl, HB0.out.trans ht1.1⟩
  · have hq : ((b.length : Int) != 128) = true := by rw [bne_iff_ne]; omega
    clear h hl
    go_enter Try.func77, Try.ntmps77
    go_wp2_with (refine wl_nod rfl (.tmp 4) (.tmp 19) rfl w.heap.size rfl nod0 nod0 rfl K0.out ?_; intro w1 hk1 ht1)
    exact bodyPost_ret (res77 hk1 _ rfl) rfl ⟨rfl, HB0.out.trans ht1.1⟩

set_option maxHeartbeats 4000000 in
set_option maxRecDepth 100000 in
theorem get_ok (g0 off : Nat) (b : List UInt8) (c i : Nat) (w : World) (hb : Bytes w (some ⟨g0, off, none⟩) b) (hbl : b.length = 128) (hc : 128 ≤ c) (hi : i < 4) :
    Calls Try.prog 77 #[.slice (some ⟨g0, off, none⟩) 128 c, .int .i64 i] w (RetGet (getN b i).1 (getN b i).2 w) := by
  have K0 := hid (BoxN.new w nod0)
  simp only [nod0] at K0
  have HB0 : Hid (Below w.heap.size w (w.alloc (.cells #[.int .i64 0, .int .i64 0, .int .i64 0, .int .i64 0, .int .i64 0, .int .i64 0, .int .i64 0, .int .i64 0, .int .i64 0, .int .i64 0, .int .i64 0] 84))) := hid ((Below.refl _ _).alloc (Nat.le_refl _) _)
  have HG : Hid (getN b i = if okN (getS b i) then (decN (getS b i), 0) else (nod0, 2)) := hid (by rw [getN, if_pos ⟨hbl, by omega, by omega⟩, Int.toNat_natCast])
  have hb2 : Bytes (w.alloc (.cells #[.int .i64 0, .int .i64 0, .int .i64 0, .int .i64 0, .int .i64 0, .int .i64 0, .int .i64 0, .int .i64 0, .int .i64 0, .int .i64 0, .int .i64 0] 84)) (some ⟨g0, off + 32 * i, none⟩) (getS b i) := by
    have := (Cells.drop (hb.alloc (.cells #[.int .i64 0, .int .i64 0, .int .i64 0, .int .i64 0, .int .i64 0, .int .i64 0, .int .i64 0, .int .i64 0, .int .i64 0, .int .i64 0, .int .i64 0] 84)) (32 * i)).take 32
    rwa [← List.map_drop, ← List.map_take] at this
  have hd := decode_any g0 (off + 32 * i) (getS b i) (c - 32 * i) _ hb2 (by simp [getS]; omega) (by omega)
  have hc1 : (128 : Int) ≤ c := by omega
  clear hb2 hb hbl hc
  have h4 : i = 0 ∨ i = 1 ∨ i = 2 ∨ i = 3 := by omega
  rcases h4 with rfl | rfl | rfl | rfl
  · simp only [Nat.reduceMul, Nat.mul_zero, Nat.add_zero, Nat.sub_zero] at hd
    rw [show ((0 : Nat) : Int) = 0 from rfl] at HG ⊢
    have HD := hid hd
    clear hd
    go_enter Try.func77, Try.ntmps77
    go_wp2_with fail
    refine HD.out.mono ?_
    clear HD
    rintro e w1 ⟨rfl, hb1⟩
    generalize decN (getS b 0) = x at HG ⊢
    have k1 := (BoxN.below (show BoxN (w.alloc _) w.heap.size nod0 from K0.out) hb1 (by simp)).alloc (.cells #[.int .i64 x.k, .int .i64 x.l, .int .i64 x.g, .int .i64 x.s, .int .i64 x.c, .int .i64 x.d0, .int .i64 x.d1, .int .i64 x.d2, .int .i64 x.d3, .int .i64 x.o, .int .i64 x.t] 84)
    have hb2 : Below w.heap.size w (w1.alloc (.cells #[.int .i64 x.k, .int .i64 x.l, .int .i64 x.g, .int .i64 x.s, .int .i64 x.c, .int .i64 x.d0, .int .i64 x.d1, .int .i64 x.d2, .int .i64 x.d3, .int .i64 x.o, .int .i64 x.t] 84)) := (below_t HB0.out hb1 HB0.out.size).alloc (by have := hb1.size; simp at this; omega) _
    have k2 := BoxN.new w1 x
    have K1 := hid k1
    obtain ⟨z0, z1, z2, z3, z4, z5, z6, z7, z8, z9, z10, zf, zlt⟩ := k2.facts
    clear k1 k2
    cases hok : okN (getS b 0) with
    | false =>
      rw [hok] at HG
      clear hok
      go_wp2_with (refine wl_nod rfl (.tmp 4) (.tmp 33) rfl w.heap.size rfl nod0 nod0 rfl K1.out ?_; intro w3 hk3 ht3)
      exact bodyPost_ret (res77 hk3 _ rfl) rfl ⟨by rw [HG.out]; rfl, hb2.trans ht3.1⟩
    | true =>
      rw [hok] at HG
      clear hok
      go_wp2_with (refine wl_nod rfl (.tmp 4) (.tmp 34) rfl w.heap.size rfl nod0 x rfl K1.out ?_; intro w3 hk3 ht3)
      exact bodyPost_ret (res77 hk3 _ rfl) rfl ⟨by rw [HG.out]; rfl, hb2.trans ht3.1⟩
  · simp only [Nat.reduceMul, Nat.mul_zero, Nat.add_zero, Nat.sub_zero] at hd
    rw [show ((1 : Nat) : Int) = 1 from rfl] at HG ⊢
    have HD := hid hd
    clear hd
    go_enter Try.func77, Try.ntmps77
    go_wp2_with fail
    refine HD.out.mono ?_
    clear HD
    rintro e w1 ⟨rfl, hb1⟩
    generalize decN (getS b 1) = x at HG ⊢
    have k1 := (BoxN.below (show BoxN (w.alloc _) w.heap.size nod0 from K0.out) hb1 (by simp)).alloc (.cells #[.int .i64 x.k, .int .i64 x.l, .int .i64 x.g, .int .i64 x.s, .int .i64 x.c, .int .i64 x.d0, .int .i64 x.d1, .int .i64 x.d2, .int .i64 x.d3, .int .i64 x.o, .int .i64 x.t] 84)
    have hb2 : Below w.heap.size w (w1.alloc (.cells #[.int .i64 x.k, .int .i64 x.l, .int .i64 x.g, .int .i64 x.s, .int .i64 x.c, .int .i64 x.d0, .int .i64 x.d1, .int .i64 x.d2, .int .i64 x.d3, .int .i64 x.o, .int .i64 x.t] 84)) := (below_t HB0.out hb1 HB0.out.size).alloc (by have := hb1.size; simp at this; omega) _
    have k2 := BoxN.new w1 x
    have K1 := hid k1
    obtain ⟨z0, z1, z2, z3, z4, z5, z6, z7, z8, z9, z10, zf, zlt⟩ := k2.facts
    clear k1 k2
    cases hok : okN (getS b 1) with
    | false =>
      rw [hok] at HG
      clear hok
      go_wp2_with (refine wl_nod rfl (.tmp 4) (.tmp 33) rfl w.heap.size rfl nod0 nod0 rfl K1.out ?_; intro w3 hk3 ht3)
      exact bodyPost_ret (res77 hk3 _ rfl) rfl ⟨by rw [HG.out]; rfl, hb2.trans ht3.1⟩
    | true =>
      rw [hok] at HG
      clear hok
      go_wp2_with (refine wl_nod rfl (.tmp 4) (.tmp 34) rfl w.heap.size rfl nod0 x rfl K1.out ?_; intro w3 hk3 ht3)
      exact bodyPost_ret (res77 hk3 _ rfl) rfl ⟨by rw [HG.out]; rfl, hb2.trans ht3.1⟩
  · simp only [Nat.reduceMul, Nat.mul_zero, Nat.add_zero, Nat.sub_zero] at hd
    rw [show ((2 : Nat) : Int) = 2 from rfl] at HG ⊢
    have HD := hid hd
    clear hd
    go_enter Try.func77, Try.ntmps77
    go_wp2_with fail
    refine HD.out.mono ?_
    clear HD
    rintro e w1 ⟨rfl, hb1⟩
    generalize decN (getS b 2) = x at HG ⊢
    have k1 := (BoxN.below (show BoxN (w.alloc _) w.heap.size nod0 from K0.out) hb1 (by simp)).alloc (.cells #[.int .i64 x.k, .int .i64 x.l, .int .i64 x.g, .int .i64 x.s, .int .i64 x.c, .int .i64 x.d0, .int .i64 x.d1, .int .i64 x.d2, .int .i64 x.d3, .int .i64 x.o, .int .i64 x.t] 84)
    have hb2 : Below w.heap.size w (w1.alloc (.cells #[.int .i64 x.k, .int .i64 x.l, .int .i64 x.g, .int .i64 x.s, .int .i64 x.c, .int .i64 x.d0, .int .i64 x.d1, .int .i64 x.d2, .int .i64 x.d3, .int .i64 x.o, .int .i64 x.t] 84)) := (below_t HB0.out hb1 HB0.out.size).alloc (by have := hb1.size; simp at this; omega) _
    have k2 := BoxN.new w1 x
    have K1 := hid k1
    obtain ⟨z0, z1, z2, z3, z4, z5, z6, z7, z8, z9, z10, zf, zlt⟩ := k2.facts
    clear k1 k2
    cases hok : okN (getS b 2) with
    | false =>
      rw [hok] at HG
      clear hok
      go_wp2_with (refine wl_nod rfl (.tmp 4) (.tmp 33) rfl w.heap.size rfl nod0 nod0 rfl K1.out ?_; intro w3 hk3 ht3)
      exact bodyPost_ret (res77 hk3 _ rfl) rfl ⟨by rw [HG.out]; rfl, hb2.trans ht3.1⟩
    | true =>
      rw [hok] at HG
      clear hok
      go_wp2_with (refine wl_nod rfl (.tmp 4) (.tmp 34) rfl w.heap.size rfl nod0 x rfl K1.out ?_; intro w3 hk3 ht3)
      exact bodyPost_ret (res77 hk3 _ rfl) rfl ⟨by rw [HG.out]; rfl, hb2.trans ht3.1⟩
  · simp only [Nat.reduceMul, Nat.mul_zero, Nat.add_zero, Nat.sub_zero] at hd
    rw [show ((3 : Nat) : Int) = 3 from rfl] at HG ⊢
    have HD := hid hd
    clear hd
    go_enter Try.func77, Try.ntmps77
    go_wp2_with fail
    refine HD.out.mono ?_
    clear HD
    rintro e w1 ⟨rfl, hb1⟩
    generalize decN (getS b 3) = x at HG ⊢
    have k1 := (BoxN.below (show BoxN (w.alloc _) w.heap.size nod0 from K0.out) hb1 (by simp)).alloc (.cells #[.int .i64 x.k, .int .i64 x.l, .int .i64 x.g, .int .i64 x.s, .int .i64 x.c, .int .i64 x.d0, .int .i64 x.d1, .int .i64 x.d2, .int .i64 x.d3, .int .i64 x.o, .int .i64 x.t] 84)
    have hb2 : Below w.heap.size w (w1.alloc (.cells #[.int .i64 x.k, .int .i64 x.l, .int .i64 x.g, .int .i64 x.s, .int .i64 x.c, .int .i64 x.d0, .int .i64 x.d1, .int .i64 x.d2, .int .i64 x.d3, .int .i64 x.o, .int .i64 x.t] 84)) := (below_t HB0.out hb1 HB0.out.size).alloc (by have := hb1.size; simp at this; omega) _
    have k2 := BoxN.new w1 x
    have K1 := hid k1
    obtain ⟨z0, z1, z2, z3, z4, z5, z6, z7, z8, z9, z10, zf, zlt⟩ := k2.facts
    clear k1 k2
    cases hok : okN (getS b 3) with
    | false =>
      rw [hok] at HG
      clear hok
      go_wp2_with (refine wl_nod rfl (.tmp 4) (.tmp 33) rfl w.heap.size rfl nod0 nod0 rfl K1.out ?_; intro w3 hk3 ht3)
      exact bodyPost_ret (res77 hk3 _ rfl) rfl ⟨by rw [HG.out]; rfl, hb2.trans ht3.1⟩
    | true =>
      rw [hok] at HG
      clear hok
      go_wp2_with (refine wl_nod rfl (.tmp 4) (.tmp 34) rfl w.heap.size rfl nod0 x rfl K1.out ?_; intro w3 hk3 ht3)
      exact bodyPost_ret (res77 hk3 _ rfl) rfl ⟨by rw [HG.out]; rfl, hb2.trans ht3.1⟩
theorem getN_any (B : Option Addr) (b : List UInt8) (c : Nat) (i : Int) (w : World) (hb : Bytes w B b) (hc : b.length ≤ c) : Calls Try.prog 77 #[.slice B b.length c, .int .i64 i] w (RetGet (getN b i).1 (getN b i).2 w) := by
  by_cases h : b.length = 128 ∧ 0 ≤ i ∧ i < 4
  · obtain ⟨g0, off, rfl, -⟩ := Bytes.openq hb (by omega)
    have e : ((i.toNat : Nat) : Int) = i := by omega
    have := get_ok g0 off b c i.toNat w hb h.1 (by omega) (by omega)
    rw [e] at this
    rw [h.1]
    exact this
  · have e : getN b i = (nod0, 1) := if_neg h
    rw [e]
    exact get_err B b c i w h

/-- What is known of a node. -/
theorem stat_any (n : Int) (x : Nod) (w : World) : Calls Try.prog 73 #[.int .i64 n, .agg #[.int .i64 x.k, .int .i64 x.l, .int .i64 x.g, .int .i64 x.s, .int .i64 x.c, .int .i64 x.d0, .int .i64 x.d1, .int .i64 x.d2, .int .i64 x.d3, .int .i64 x.o, .int .i64 x.t]] w fun e w' => e = .returned (.agg #[.int .i64 n, .int .i64 x.g, .int .i64 x.k, .int .i64 x.l, .int .i64 x.s, .int .i64 x.c]) ∧ Below w.heap.size w w' := by
  have hb0 : Below w.heap.size w ((w.alloc (.cells #[.int .i64 x.k, .int .i64 x.l, .int .i64 x.g, .int .i64 x.s, .int .i64 x.c, .int .i64 x.d0, .int .i64 x.d1, .int .i64 x.d2, .int .i64 x.d3, .int .i64 x.o, .int .i64 x.t] 84)).alloc (.cells #[.int .i64 n, .int .i64 x.g, .int .i64 x.k, .int .i64 x.l, .int .i64 x.s, .int .i64 x.c] 89)) := ((Below.refl _ _).alloc (Nat.le_refl _) _).alloc (by simp) _
  have HB0 := hid hb0
  clear hb0
  go_enter Try.func73, Try.ntmps73
  go_wp2
  exact bodyPost_ret (by simp [results, Try.results73, go_sem]) rfl ⟨rfl, HB0.out⟩
end Go.Proofs.Ytppbcdcmpcagdaa
