/- The law NodeFour returns true at every input: its walk over the contracts of node.Put, Get and Sound. No condition. -/
import Derived.Test.YtppbcdcmpcagdaaNodeX
namespace Go.Proofs.Ytppbcdcmpcagdaa
open Go.RowKit Go.CP

/-- Two nodes, each in a box. -/
def Two2 (w W : World) (a c : Nod) (q : Nat) : Prop := LastS2 w W a ∧ BoxN W q c
theorem Two2.cells {w W : World} {a c : Nod} {q : Nat} (h : Two2 w W a c q) : (W.cell? ⟨w.heap.size, 0, none⟩ = some (.int .i64 a.k) ∧ W.cell? ⟨w.heap.size, 1, none⟩ = some (.int .i64 a.l) ∧ W.cell? ⟨w.heap.size, 2, none⟩ = some (.int .i64 a.g) ∧ W.cell? ⟨w.heap.size, 3, none⟩ = some (.int .i64 a.s) ∧ W.cell? ⟨w.heap.size, 4, none⟩ = some (.int .i64 a.c) ∧ W.cell? ⟨w.heap.size, 5, none⟩ = some (.int .i64 a.d0) ∧ W.cell? ⟨w.heap.size, 6, none⟩ = some (.int .i64 a.d1) ∧ W.cell? ⟨w.heap.size, 7, none⟩ = some (.int .i64 a.d2) ∧ W.cell? ⟨w.heap.size, 8, none⟩ = some (.int .i64 a.d3) ∧ W.cell? ⟨w.heap.size, 9, none⟩ = some (.int .i64 a.o) ∧ W.cell? ⟨w.heap.size, 10, none⟩ = some (.int .i64 a.t)) ∧ (W.cell? ⟨q, 0, none⟩ = some (.int .i64 c.k) ∧ W.cell? ⟨q, 1, none⟩ = some (.int .i64 c.l) ∧ W.cell? ⟨q, 2, none⟩ = some (.int .i64 c.g) ∧ W.cell? ⟨q, 3, none⟩ = some (.int .i64 c.s) ∧ W.cell? ⟨q, 4, none⟩ = some (.int .i64 c.c) ∧ W.cell? ⟨q, 5, none⟩ = some (.int .i64 c.d0) ∧ W.cell? ⟨q, 6, none⟩ = some (.int .i64 c.d1) ∧ W.cell? ⟨q, 7, none⟩ = some (.int .i64 c.d2) ∧ W.cell? ⟨q, 8, none⟩ = some (.int .i64 c.d3) ∧ W.cell? ⟨q, 9, none⟩ = some (.int .i64 c.o) ∧ W.cell? ⟨q, 10, none⟩ = some (.int .i64 c.t)) ∧ Two2 w W a c q := by
  obtain ⟨f0, f1, f2, f3, f4, f5, f6, f7, f8, f9, f10, -⟩ := h.2.facts
  exact ⟨h.1.cells.1, ⟨f0, f1, f2, f3, f4, f5, f6, f7, f8, f9, f10⟩, h⟩
theorem Two2.keep {w W W' : World} {a c : Nod} {q : Nat} (h : Two2 w W a c q) (hb : Below W.heap.size W W') : Two2 w W' a c q := ⟨h.1.keep hb, h.2.below hb h.2.lt⟩
theorem Two2.new (w : World) (a c : Nod) : Two2 w ((w.alloc (.cells #[.int .i64 a.k, .int .i64 a.l, .int .i64 a.g, .int .i64 a.s, .int .i64 a.c, .int .i64 a.d0, .int .i64 a.d1, .int .i64 a.d2, .int .i64 a.d3, .int .i64 a.o, .int .i64 a.t] 84)).alloc (.cells #[.int .i64 c.k, .int .i64 c.l, .int .i64 c.g, .int .i64 c.s, .int .i64 c.c, .int .i64 c.d0, .int .i64 c.d1, .int .i64 c.d2, .int .i64 c.d3, .int .i64 c.o, .int .i64 c.t] 84)) a c (w.heap.size + 1) := by
  refine ⟨(LastS2.new w a).keep ((Below.refl _ _).alloc (Nat.le_refl _) _), ?_⟩
  have := BoxN.new (w.alloc (.cells #[.int .i64 a.k, .int .i64 a.l, .int .i64 a.g, .int .i64 a.s, .int .i64 a.c, .int .i64 a.d0, .int .i64 a.d1, .int .i64 a.d2, .int .i64 a.d3, .int .i64 a.o, .int .i64 a.t] 84)) c
  rw [World.size_alloc] at this
  exact this
theorem putN_0 {b : List UInt8} {p : Nat} {x : Nod} (hb : b.length = 128) (hp : p < 4) (hx : soundN x = true) : putN b p x = 0 := by
  rw [putN, if_pos ⟨hb, by omega, by omega⟩, hx]
  rfl
theorem putN_2 {b : List UInt8} {p : Nat} {x : Nod} (hb : b.length = 128) (hp : p < 4) (hx : soundN x = false) : putN b p x = 2 := by
  rw [putN, if_pos ⟨hb, by omega, by omega⟩, hx]
  rfl
/-- Put and Get at a place that is a natural. -/
theorem put_at (B : Option Addr) (b : List UInt8) (c p : Nat) (x : Nod) (w : World) (hb : Bytes w B b) (hbl : b.length = 128) (hc : 128 ≤ c) (hp : p < 4) (hx : soundN x = true) :
    Calls Try.prog 72 #[.slice B 128 c, .int .i64 p, .agg #[.int .i64 x.k, .int .i64 x.l, .int .i64 x.g, .int .i64 x.s, .int .i64 x.c, .int .i64 x.d0, .int .i64 x.d1, .int .i64 x.d2, .int .i64 x.d3, .int .i64 x.o, .int .i64 x.t]] w (RetOwn2 w 5 1 128 ((putS b p (encL x)).map bv) (.int .i64 0)) := by
  have := put_yes B b c p x w hb (by omega) (putN_0 hbl hp hx)
  rw [hbl, Int.toNat_natCast] at this
  exact this
theorem put_at_no (B : Option Addr) (b : List UInt8) (c p : Nat) (x : Nod) (w : World) (hb : Bytes w B b) (hbl : b.length = 128) (hc : 128 ≤ c) (hp : p < 4) (hx : soundN x = false) :
    Calls Try.prog 72 #[.slice B 128 c, .int .i64 p, .agg #[.int .i64 x.k, .int .i64 x.l, .int .i64 x.g, .int .i64 x.s, .int .i64 x.c, .int .i64 x.d0, .int .i64 x.d1, .int .i64 x.d2, .int .i64 x.d3, .int .i64 x.o, .int .i64 x.t]] w fun e w' => e = .returned (.tuple #[.slice none 0 0, .int .i64 2]) ∧ Below w.heap.size w w' := by
  have h2 := putN_2 (b := b) hbl hp hx
  have := put_no B b c p x w hb (by omega) (by rw [h2]; decide)
  rw [hbl, h2] at this
  exact this
theorem get_at (B : Option Addr) (b : List UInt8) (c p : Nat) (x : Nod) (w : World) (hb : Bytes w B b) (hbl : b.length = 128) (hc : 128 ≤ c) (hp : p < 4) (hg : getS b p = encL x) (hx : soundN x = true) :
    Calls Try.prog 77 #[.slice B 128 c, .int .i64 p] w (RetGet x 0 w) := by
  have := getN_any B b c p w hb (by omega)
  have e : getN b p = (x, 0) := by
    rw [getN, if_pos ⟨hbl, by omega, by omega⟩, Int.toNat_natCast, hg, ok_enc hx, dec_enc hx]
    rfl
  rw [hbl, e] at this
  exact this

set_option maxHeartbeats 4000000 in
set_option maxRecDepth 100000 in
theorem four_no (w : World) (a c : Nod) (i k : Int) (p q : Nat) (hi : 0 ≤ i ∧ i < 256) (hk : 0 ≤ k ∧ k < 256) (hp : i % 4 = p) (hq : k % 4 = q) (hp4 : p < 4) (hsa : soundN a = false) :
    Calls Try.prog 20 #[.agg #[.int .i64 a.k, .int .i64 a.l, .int .i64 a.g, .int .i64 a.s, .int .i64 a.c, .int .i64 a.d0, .int .i64 a.d1, .int .i64 a.d2, .int .i64 a.d3, .int .i64 a.o, .int .i64 a.t], .agg #[.int .i64 c.k, .int .i64 c.l, .int .i64 c.g, .int .i64 c.s, .int .i64 c.c, .int .i64 c.d0, .int .i64 c.d1, .int .i64 c.d2, .int .i64 c.d3, .int .i64 c.o, .int .i64 c.t], .int .u8 i, .int .u8 k] w fun e w' => e = .returned (.bool true) ∧ Below w.heap.size w w' := by
  have hL := hid (Two2.new w a c)
  have HSA := hid hsa
  have HP4 := hid hp4
  clear hsa hp4
  go_enter Try.func20, Try.ntmps20
  go_wp2_with fail
  clear hp hq
  generalize (w.alloc (.cells #[.int .i64 a.k, .int .i64 a.l, .int .i64 a.g, .int .i64 a.s, .int .i64 a.c, .int .i64 a.d0, .int .i64 a.d1, .int .i64 a.d2, .int .i64 a.d3, .int .i64 a.o, .int .i64 a.t] 84)).alloc (.cells #[.int .i64 c.k, .int .i64 c.l, .int .i64 c.g, .int .i64 c.s, .int .i64 c.c, .int .i64 c.d0, .int .i64 c.d1, .int .i64 c.d2, .int .i64 c.d3, .int .i64 c.o, .int .i64 c.t] 84) = W0 at hL ⊢
  go_region_held3 (fun W => (W.cell? ⟨w.heap.size, 0, none⟩ = some (.int .i64 a.k) ∧ W.cell? ⟨w.heap.size, 1, none⟩ = some (.int .i64 a.l) ∧ W.cell? ⟨w.heap.size, 2, none⟩ = some (.int .i64 a.g) ∧ W.cell? ⟨w.heap.size, 3, none⟩ = some (.int .i64 a.s) ∧ W.cell? ⟨w.heap.size, 4, none⟩ = some (.int .i64 a.c) ∧ W.cell? ⟨w.heap.size, 5, none⟩ = some (.int .i64 a.d0) ∧ W.cell? ⟨w.heap.size, 6, none⟩ = some (.int .i64 a.d1) ∧ W.cell? ⟨w.heap.size, 7, none⟩ = some (.int .i64 a.d2) ∧ W.cell? ⟨w.heap.size, 8, none⟩ = some (.int .i64 a.d3) ∧ W.cell? ⟨w.heap.size, 9, none⟩ = some (.int .i64 a.o) ∧ W.cell? ⟨w.heap.size, 10, none⟩ = some (.int .i64 a.t)) ∧ (W.cell? ⟨w.heap.size + 1, 0, none⟩ = some (.int .i64 c.k) ∧ W.cell? ⟨w.heap.size + 1, 1, none⟩ = some (.int .i64 c.l) ∧ W.cell? ⟨w.heap.size + 1, 2, none⟩ = some (.int .i64 c.g) ∧ W.cell? ⟨w.heap.size + 1, 3, none⟩ = some (.int .i64 c.s) ∧ W.cell? ⟨w.heap.size + 1, 4, none⟩ = some (.int .i64 c.c) ∧ W.cell? ⟨w.heap.size + 1, 5, none⟩ = some (.int .i64 c.d0) ∧ W.cell? ⟨w.heap.size + 1, 6, none⟩ = some (.int .i64 c.d1) ∧ W.cell? ⟨w.heap.size + 1, 7, none⟩ = some (.int .i64 c.d2) ∧ W.cell? ⟨w.heap.size + 1, 8, none⟩ = some (.int .i64 c.d3) ∧ W.cell? ⟨w.heap.size + 1, 9, none⟩ = some (.int .i64 c.o) ∧ W.cell? ⟨w.heap.size + 1, 10, none⟩ = some (.int .i64 c.t)) ∧ Two2 w W a c (w.heap.size + 1))
    (first | exact hL.out.cells | exact (hL.out.keep (bl2 _)).cells | exact (Two2.keep (hL.out.keep (bl2 _)) ((Below.refl _ _).alloc (Nat.le_refl _) _)).cells | exact hq1.cells | fail "keep")
    (first
      | (refine upon_make 128 (by omega) ?_)
      | (go_at_call 72; refine (put_at_no _ (List.replicate 128 0) 128 p a _ (made_zeros W0.drew 128) (by simp) (by omega) HP4.out HSA.out).mono ?_; rintro e w1 ⟨rfl, hb1⟩; have hq1 := Two2.keep (Two2.keep (hL.out.keep (bl2 _)) ((Below.refl _ _).alloc (Nat.le_refl _) _)) hb1)
      | fail "arm")
  have HQ1 := hid hq1
  clear hq1
  go_wp2_with fail
  refine (awake10_any _).mono ?_
  rintro e w2 ⟨rfl, hb2⟩
  have hq2 := HQ1.out.keep hb2
  go_wp2_with fail
  refine (awake10_any _).mono ?_
  rintro e w3 ⟨rfl, hb3⟩
  have hq3 := hq2.keep hb3
  go_wp2
  go_ret
  exact ⟨rfl, hq3.1.2⟩

set_option maxHeartbeats 8000000 in
set_option maxRecDepth 100000 in
theorem four_yes (w : World) (a c : Nod) (i k : Int) (p q : Nat) (hi : 0 ≤ i ∧ i < 256) (hk : 0 ≤ k ∧ k < 256) (hp : i % 4 = p) (hq : k % 4 = q) (hp4 : p < 4) (hq4 : q < 4) (hsa : soundN a = true) :
    Calls Try.prog 20 #[.agg #[.int .i64 a.k, .int .i64 a.l, .int .i64 a.g, .int .i64 a.s, .int .i64 a.c, .int .i64 a.d0, .int .i64 a.d1, .int .i64 a.d2, .int .i64 a.d3, .int .i64 a.o, .int .i64 a.t], .agg #[.int .i64 c.k, .int .i64 c.l, .int .i64 c.g, .int .i64 c.s, .int .i64 c.c, .int .i64 c.d0, .int .i64 c.d1, .int .i64 c.d2, .int .i64 c.d3, .int .i64 c.o, .int .i64 c.t], .int .u8 i, .int .u8 k] w fun e w' => e = .returned (.bool true) ∧ Below w.heap.size w w' := by
  have hL := hid (Two2.new w a c)
  have HSA := hid hsa
  have HP4 := hid hp4
  have HQ4 := hid hq4
  have HBL : Hid ((putS (List.replicate 128 0) p (encL a)).length = 128) := hid (putS_len List.length_replicate (encL_len a) hp4)
  clear hsa hp4 hq4
  go_enter Try.func20, Try.ntmps20
  go_wp2_with fail
  clear hp hq
  generalize (w.alloc (.cells #[.int .i64 a.k, .int .i64 a.l, .int .i64 a.g, .int .i64 a.s, .int .i64 a.c, .int .i64 a.d0, .int .i64 a.d1, .int .i64 a.d2, .int .i64 a.d3, .int .i64 a.o, .int .i64 a.t] 84)).alloc (.cells #[.int .i64 c.k, .int .i64 c.l, .int .i64 c.g, .int .i64 c.s, .int .i64 c.c, .int .i64 c.d0, .int .i64 c.d1, .int .i64 c.d2, .int .i64 c.d3, .int .i64 c.o, .int .i64 c.t] 84) = W0 at hL ⊢
  go_region_held3 (fun W => (W.cell? ⟨w.heap.size, 0, none⟩ = some (.int .i64 a.k) ∧ W.cell? ⟨w.heap.size, 1, none⟩ = some (.int .i64 a.l) ∧ W.cell? ⟨w.heap.size, 2, none⟩ = some (.int .i64 a.g) ∧ W.cell? ⟨w.heap.size, 3, none⟩ = some (.int .i64 a.s) ∧ W.cell? ⟨w.heap.size, 4, none⟩ = some (.int .i64 a.c) ∧ W.cell? ⟨w.heap.size, 5, none⟩ = some (.int .i64 a.d0) ∧ W.cell? ⟨w.heap.size, 6, none⟩ = some (.int .i64 a.d1) ∧ W.cell? ⟨w.heap.size, 7, none⟩ = some (.int .i64 a.d2) ∧ W.cell? ⟨w.heap.size, 8, none⟩ = some (.int .i64 a.d3) ∧ W.cell? ⟨w.heap.size, 9, none⟩ = some (.int .i64 a.o) ∧ W.cell? ⟨w.heap.size, 10, none⟩ = some (.int .i64 a.t)) ∧ (W.cell? ⟨w.heap.size + 1, 0, none⟩ = some (.int .i64 c.k) ∧ W.cell? ⟨w.heap.size + 1, 1, none⟩ = some (.int .i64 c.l) ∧ W.cell? ⟨w.heap.size + 1, 2, none⟩ = some (.int .i64 c.g) ∧ W.cell? ⟨w.heap.size + 1, 3, none⟩ = some (.int .i64 c.s) ∧ W.cell? ⟨w.heap.size + 1, 4, none⟩ = some (.int .i64 c.c) ∧ W.cell? ⟨w.heap.size + 1, 5, none⟩ = some (.int .i64 c.d0) ∧ W.cell? ⟨w.heap.size + 1, 6, none⟩ = some (.int .i64 c.d1) ∧ W.cell? ⟨w.heap.size + 1, 7, none⟩ = some (.int .i64 c.d2) ∧ W.cell? ⟨w.heap.size + 1, 8, none⟩ = some (.int .i64 c.d3) ∧ W.cell? ⟨w.heap.size + 1, 9, none⟩ = some (.int .i64 c.o) ∧ W.cell? ⟨w.heap.size + 1, 10, none⟩ = some (.int .i64 c.t)) ∧ Two2 w W a c (w.heap.size + 1))
    (first | exact hL.out.cells | exact (hL.out.keep (bl2 _)).cells | exact (Two2.keep (hL.out.keep (bl2 _)) ((Below.refl _ _).alloc (Nat.le_refl _) _)).cells | exact hq1.cells | fail "keep")
    (first
      | (refine upon_make 128 (by omega) ?_)
      | (go_at_call 72; refine (put_at _ (List.replicate 128 0) 128 p a _ (made_zeros W0.drew 128) (by simp) (by omega) HP4.out HSA.out).mono ?_; rintro e w1 ⟨A1, c1, rfl, ho1, hb1⟩; have hq1 := Two2.keep (Two2.keep (hL.out.keep (bl2 _)) ((Below.refl _ _).alloc (Nat.le_refl _) _)) hb1)
      | fail "arm")
  have HQ1 := hid hq1
  have HO1 := hid ho1
  clear hq1 ho1 hb1
  go_wp2_with fail
  refine (awake10_any _).mono ?_
  rintro e w2 ⟨rfl, hb2⟩
  have hq2 := HQ1.out.keep hb2
  have hc1 := HO1.out.cells.below hb2 (Nat.le_refl _)
  have hcap := HO1.out.le.1
  have HB2 := hid hc1
  obtain ⟨f0, f1, f2, f3, f4, f5, f6, f7, f8, f9, f10, -, -⟩ := hq2.2.facts
  have HQ2 := hid hq2
  clear hq2 hc1 hb2
  cases hsc : soundN c with
  | false =>
    have hpc := put_at_no A1 _ c1 q c w2 HB2.out HBL.out hcap HQ4.out hsc
    have hsn := soundN_any c
    rw [hsc] at hsn
    have HSN := hid hsn
    have HPC := hid hpc
    clear hpc hsn hsc
    go_wp2_with fail
    refine HPC.out.mono ?_
    rintro e w3 ⟨rfl, hb3⟩
    have hq3 := HQ2.out.keep hb3
    clear f0 f1 f2 f3 f4 f5 f6 f7 f8 f9 f10
    obtain ⟨f0, f1, f2, f3, f4, f5, f6, f7, f8, f9, f10, -, -⟩ := hq3.2.facts
    go_wp2_with fail
    refine (HSN.out _).mono ?_
    rintro e w4 ⟨rfl, hb4⟩
    have hq4 := hq3.keep hb4
    go_wp2
    go_ret
    exact ⟨rfl, hq4.1.2⟩
  | true =>
    have hpc := put_at A1 _ c1 q c w2 HB2.out HBL.out hcap HQ4.out hsc
    have HSC := hid hsc
    have HPC := hid hpc
    clear hpc hsc
    go_wp2_with fail
    refine HPC.out.mono ?_
    clear f0 f1 f2 f3 f4 f5 f6 f7 f8 f9 f10
    rintro e w3 ⟨A3, c3, rfl, ho3, hb3⟩
    have hq3 := HQ2.out.keep hb3
    have hdl : (putS (putS (List.replicate 128 0) p (encL a)) q (encL c)).length = 128 := putS_len HBL.out (encL_len c) HQ4.out
    have hc3 := ho3.cells
    have hcap3 := ho3.le.1
    have hgq : getS (putS (putS (List.replicate 128 0) p (encL a)) q (encL c)) q = encL c := get_put HBL.out (encL_len c) HQ4.out
    have HDL := hid hdl
    have HC3 := hid hc3
    have HGQ := hid hgq
    have HQ3 := hid hq3
    have HSAME := hid eq84_same
    have HSAM2 := hid eq82_same
    clear hdl hc3 hgq hq3 ho3
    by_cases hpq : p = q
    · have hg1 := get_at A3 _ c3 p c w3 HC3.out HDL.out hcap3 HP4.out (by have h := HGQ.out; simp only [hpq] at h ⊢; exact h) HSC.out
      have hpe : ((p : Int) == q) = true := by rw [hpq]; exact beq_self_eq_true _
      have HG1 := hid hg1
      clear hg1 hpq
      go_wp2_with fail
      refine HG1.out.mono ?_
      rintro e w4 ⟨rfl, hb4⟩
      have hq4 := (HQ3.out.keep hb4).keep ((Below.refl w4.heap.size w4).alloc (Nat.le_refl _) (.cells #[.int .i64 c.k, .int .i64 c.l, .int .i64 c.g, .int .i64 c.s, .int .i64 c.c, .int .i64 c.d0, .int .i64 c.d1, .int .i64 c.d2, .int .i64 c.d3, .int .i64 c.o, .int .i64 c.t] 84))
      have hb34 := hb4.alloc hb4.size (.cells #[.int .i64 c.k, .int .i64 c.l, .int .i64 c.g, .int .i64 c.s, .int .i64 c.c, .int .i64 c.d0, .int .i64 c.d1, .int .i64 c.d2, .int .i64 c.d3, .int .i64 c.o, .int .i64 c.t] 84)
      have hg2 := get_at A3 _ c3 q c _ (HC3.out.below hb34 (Nat.le_refl _)) HDL.out hcap3 HQ4.out HGQ.out HSC.out
      have HG2 := hid hg2
      clear hg2 hb34 hb4
      go_wp2_with fail
      refine HG2.out.mono ?_
      rintro e w5 ⟨rfl, hb5⟩
      have hq5 := (hq4.keep hb5).keep ((Below.refl w5.heap.size w5).alloc (Nat.le_refl _) (.cells #[.int .i64 c.k, .int .i64 c.l, .int .i64 c.g, .int .i64 c.s, .int .i64 c.c, .int .i64 c.d0, .int .i64 c.d1, .int .i64 c.d2, .int .i64 c.d3, .int .i64 c.o, .int .i64 c.t] 84))
      obtain ⟨f0, f1, f2, f3, f4, f5, f6, f7, f8, f9, f10, -, -⟩ := hq5.2.facts
      obtain ⟨g0, g1, g2, g3, g4, g5, g6, g7, g8, g9, g10, -, -⟩ := (BoxN.new w5 c).facts
      have hs := HSAME.out c
      have hs2 := HSAM2.out c
      have HQ5 := hid hq5
      clear hq5 hq4 hb5
      go_wp2
      go_ret
      exact ⟨rfl, HQ5.out.1.2⟩
    · have hg1 := get_at A3 _ c3 p a w3 HC3.out HDL.out hcap3 HP4.out (by rw [get_other HBL.out (encL_len c) HQ4.out HP4.out hpq]; exact get_put List.length_replicate (encL_len a) HP4.out) HSA.out
      have hpe : ((p : Int) == q) = false := by rw [beq_eq_false_iff_ne]; omega
      have HG1 := hid hg1
      clear hg1 hpq
      go_wp2_with fail
      refine HG1.out.mono ?_
      rintro e w4 ⟨rfl, hb4⟩
      have hq4 := (HQ3.out.keep hb4).keep ((Below.refl w4.heap.size w4).alloc (Nat.le_refl _) (.cells #[.int .i64 a.k, .int .i64 a.l, .int .i64 a.g, .int .i64 a.s, .int .i64 a.c, .int .i64 a.d0, .int .i64 a.d1, .int .i64 a.d2, .int .i64 a.d3, .int .i64 a.o, .int .i64 a.t] 84))
      have hx4 := BoxN.new w4 a
      have hb34 := hb4.alloc hb4.size (.cells #[.int .i64 a.k, .int .i64 a.l, .int .i64 a.g, .int .i64 a.s, .int .i64 a.c, .int .i64 a.d0, .int .i64 a.d1, .int .i64 a.d2, .int .i64 a.d3, .int .i64 a.o, .int .i64 a.t] 84)
      have hg2 := get_at A3 _ c3 q c _ (HC3.out.below hb34 (Nat.le_refl _)) HDL.out hcap3 HQ4.out HGQ.out HSC.out
      have HG2 := hid hg2
      have HX4 := hid hx4
      clear hg2 hb34 hb4 hx4
      go_wp2_with fail
      refine HG2.out.mono ?_
      rintro e w5 ⟨rfl, hb5⟩
      have hq5 := (hq4.keep hb5).keep ((Below.refl w5.heap.size w5).alloc (Nat.le_refl _) (.cells #[.int .i64 c.k, .int .i64 c.l, .int .i64 c.g, .int .i64 c.s, .int .i64 c.c, .int .i64 c.d0, .int .i64 c.d1, .int .i64 c.d2, .int .i64 c.d3, .int .i64 c.o, .int .i64 c.t] 84))
      have hx5 := (HX4.out.below hb5 HX4.out.lt).alloc (.cells #[.int .i64 c.k, .int .i64 c.l, .int .i64 c.g, .int .i64 c.s, .int .i64 c.c, .int .i64 c.d0, .int .i64 c.d1, .int .i64 c.d2, .int .i64 c.d3, .int .i64 c.o, .int .i64 c.t] 84)
      obtain ⟨f0, f1, f2, f3, f4, f5, f6, f7, f8, f9, f10, -, -⟩ := hq5.2.facts
      obtain ⟨g0, g1, g2, g3, g4, g5, g6, g7, g8, g9, g10, -, -⟩ := (BoxN.new w5 c).facts
      obtain ⟨h0, h1, h2, h3, h4, h5, h6, h7, h8, h9, h10, -, -⟩ := hq5.1.1.facts
      obtain ⟨j0, j1, j2, j3, j4, j5, j6, j7, j8, j9, j10, -, -⟩ := hx5.facts
      have hs := HSAME.out c
      have hs2 := HSAM2.out c
      have hs3 := HSAME.out a
      have hs4 := HSAM2.out a
      have HQ5 := hid hq5
      clear hq5 hq4 hb5 hx5
      go_wp2
      go_ret
      exact ⟨rfl, HQ5.out.1.2⟩

theorem nodeFour_walk (w : World) (a c : Nod) (i k : Int) (hi : 0 ≤ i ∧ i < 256) (hk : 0 ≤ k ∧ k < 256) :
    Calls Try.prog 20 #[.agg #[.int .i64 a.k, .int .i64 a.l, .int .i64 a.g, .int .i64 a.s, .int .i64 a.c, .int .i64 a.d0, .int .i64 a.d1, .int .i64 a.d2, .int .i64 a.d3, .int .i64 a.o, .int .i64 a.t], .agg #[.int .i64 c.k, .int .i64 c.l, .int .i64 c.g, .int .i64 c.s, .int .i64 c.c, .int .i64 c.d0, .int .i64 c.d1, .int .i64 c.d2, .int .i64 c.d3, .int .i64 c.o, .int .i64 c.t], .int .u8 i, .int .u8 k] w fun e w' => e = .returned (.bool true) ∧ Below w.heap.size w w' := by
  have hp : i % 4 = ((i % 4).toNat : Nat) := by omega
  have hq : k % 4 = ((k % 4).toNat : Nat) := by omega
  cases hsa : soundN a with
  | true => exact four_yes w a c i k _ _ hi hk hp hq (by omega) (by omega) hsa
  | false => exact four_no w a c i k _ _ hi hk hp hq (by omega) hsa
end Go.Proofs.Ytppbcdcmpcagdaa
