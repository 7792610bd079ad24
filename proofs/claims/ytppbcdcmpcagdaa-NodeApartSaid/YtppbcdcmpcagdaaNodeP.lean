/- Contract of node.Put. -/
import Derived.Test.YtppbcdcmpcagdaaNode9
import Derived.Deep.MidRow
namespace Go.Proofs.Ytppbcdcmpcagdaa
open Go.RowKit Go.CP

/-- Bytes are copied into a row of the call's own, at a step of a drawn region. -/
theorem st_copyB {w : World} {ops : Array Oper} {o : Oper} {a : Act} {K : Act → World → Prop} {Q : Exit → Act → World → Prop} {E : Prop} (hgd : o.guard = none) (d s : Operand)
    (ho : o.op = .call { callee := .builtin .copy, args := #[d, s], argTypes := #[22, 22] }) (base g off m n c : Nat) (xs news : List Value) (S : Option Addr) (sLen sCap dCap : Nat)
    (hd : a.eval d = .slice (some ⟨g, off, none⟩) m dCap) (hs : a.eval s = .slice S sLen sCap) (hown : Go.CP.Own w base 5 1 (some ⟨g, 0, none⟩) n c xs)
    (hsrc : Cells w S news) (hl : news.length = sLen) (h0 : 0 < sLen) (hm : sLen ≤ m) (hfit : off + m ≤ n) (h1 : ∀ v ∈ news, v.oneCell' = true)
    (h : ∀ w', Hid (Go.CP.Own w' base 5 1 (some ⟨g, 0, none⟩) n c (xs.take off ++ news ++ xs.drop (off + sLen))) → Hid (Turn g w w') → K (a.put o.dst (goInt sLen)) w') :
    if Region.wanted o (yielded ops a.tmps) = true then Oper.wp Try.prog o a w K Q else E := by
  have hw : Region.wanted o (yielded ops a.tmps) = true := by simp [Region.wanted, hgd]
  rw [if_pos hw]
  obtain ⟨hlen, hr⟩ := hown
  rcases hr with ⟨hc, -⟩ | ⟨g', cur, hA, hb, hg, h2, h3, h4, h5⟩
  · cases hc
  cases hA
  obtain ⟨b0, o0, rfl, -⟩ := hsrc.at (j := 0) (by omega)
  have hrun := run_copy_row (P := Try.prog) w 22 22 o.type 5 g off m dCap ⟨b0, o0, none⟩ sLen sCap cur 5 news Try.underlying22 (by kernel_rfl) hg (by rw [hl]; exact (Nat.min_eq_left hm).symm) (fun j v hv => by
    obtain ⟨b', o', e, hcell⟩ := hsrc j v hv
    cases e
    rw [Addr.add_mid]
    exact hcell) (by omega) h1
  unfold Oper.wp
  simp [execOp, ho, resolve, invoke, builtin, hd, hs, hrun, Result.andThen, hl]
  refine h _ (hid ⟨by simp; omega, .inr ⟨g, _, rfl, hb, setRow_heap w g _ _ 5 _ hg, h2, h3, by simp; omega, ?_⟩⟩) (hid turn_setRow)
  rw [Nat.mul_one] at h5 ⊢
  subst h5
  have hA : (cur.toList.take off).length = off := by simp; omega
  simp only [List.append_assoc]
  rw [List.take_append, List.take_append, hA, hl, List.take_of_length_le (l := cur.toList.take off) (by omega), List.take_of_length_le (l := news) (by omega), List.take_take, Nat.min_eq_left (by omega), List.drop_take, Nat.sub_sub]

/-- What Put's region keeps. -/
def LastS2 (w W : World) (x : Nod) : Prop := BoxN W w.heap.size x ∧ Below w.heap.size w W
theorem LastS2.cells {w W : World} {x : Nod} (h : LastS2 w W x) : (W.cell? ⟨w.heap.size, 0, none⟩ = some (.int .i64 x.k) ∧ W.cell? ⟨w.heap.size, 1, none⟩ = some (.int .i64 x.l) ∧ W.cell? ⟨w.heap.size, 2, none⟩ = some (.int .i64 x.g) ∧ W.cell? ⟨w.heap.size, 3, none⟩ = some (.int .i64 x.s) ∧ W.cell? ⟨w.heap.size, 4, none⟩ = some (.int .i64 x.c) ∧ W.cell? ⟨w.heap.size, 5, none⟩ = some (.int .i64 x.d0) ∧ W.cell? ⟨w.heap.size, 6, none⟩ = some (.int .i64 x.d1) ∧ W.cell? ⟨w.heap.size, 7, none⟩ = some (.int .i64 x.d2) ∧ W.cell? ⟨w.heap.size, 8, none⟩ = some (.int .i64 x.d3) ∧ W.cell? ⟨w.heap.size, 9, none⟩ = some (.int .i64 x.o) ∧ W.cell? ⟨w.heap.size, 10, none⟩ = some (.int .i64 x.t)) ∧ LastS2 w W x := by
  obtain ⟨f0, f1, f2, f3, f4, f5, f6, f7, f8, f9, f10, -⟩ := h.1.facts
  exact ⟨⟨f0, f1, f2, f3, f4, f5, f6, f7, f8, f9, f10⟩, h⟩
theorem LastS2.keep {w W W' : World} {x : Nod} (h : LastS2 w W x) (hb : Below W.heap.size W W') : LastS2 w W' x := ⟨h.1.below hb h.1.lt, below_t h.2 hb h.2.size⟩
theorem LastS2.turn {w W W' : World} {x : Nod} {g : Nat} (h : LastS2 w W x) (ht : Turn g W W') (hg : w.heap.size < g) : LastS2 w W' x := ⟨h.1.turn ht (Nat.ne_of_lt hg), h.2.trans (ht.1.mono (Nat.le_of_lt hg))⟩
theorem info5s : (Try.prog.info? 5).map (·.size) = some 1 := by kernel_rfl
/-- What node.Put hands back. -/
def putN (b : List UInt8) (i : Int) (x : Nod) : Int := if b.length = 128 ∧ 0 ≤ i ∧ i < 4 then (if soundN x then 0 else 2) else 1
def RetPut (b : List UInt8) (i : Int) (x : Nod) (w : World) (e : Ending) (w' : World) : Prop :=
  (putN b i x = 0 ∧ RetOwn2 w 5 1 128 ((putS b i.toNat (encL x)).map bv) (.int .i64 0) e w') ∨ (putN b i x ≠ 0 ∧ e = .returned (.tuple #[.slice none 0 0, .int .i64 (putN b i x)]) ∧ Below w.heap.size w w')

theorem sound_casts {x : Nod} (h : soundN x = true) : (Value.agg #[.int .i64 (x.k.toNat : Nat), .int .i64 (x.l.toNat : Nat), .int .i64 (x.g.toNat : Nat), .int .i64 (x.s.toNat : Nat), .int .i64 (x.c.toNat : Nat), .int .i64 (x.d0.toNat : Nat), .int .i64 (x.d1.toNat : Nat), .int .i64 (x.d2.toNat : Nat), .int .i64 (x.d3.toNat : Nat), .int .i64 (x.o.toNat : Nat), .int .i64 (x.t.toNat : Nat)]) = .agg #[.int .i64 x.k, .int .i64 x.l, .int .i64 x.g, .int .i64 x.s, .int .i64 x.c, .int .i64 x.d0, .int .i64 x.d1, .int .i64 x.d2, .int .i64 x.d3, .int .i64 x.o, .int .i64 x.t] := by
  have e := sound_nat h
  conv => rhs; rw [← e]
  rfl
set_option maxHeartbeats 2000000 in
set_option maxRecDepth 100000 in
theorem put_err (B : Option Addr) (b : List UInt8) (c : Nat) (i : Int) (x : Nod) (w : World) (h : ¬ (b.length = 128 ∧ 0 ≤ i ∧ i < 4)) : Calls Try.prog 72 #[.slice B b.length c, .int .i64 i, .agg #[.int .i64 x.k, .int .i64 x.l, .int .i64 x.g, .int .i64 x.s, .int .i64 x.c, .int .i64 x.d0, .int .i64 x.d1, .int .i64 x.d2, .int .i64 x.d3, .int .i64 x.o, .int .i64 x.t]] w fun e w' => e = .returned (.tuple #[.slice none 0 0, .int .i64 1]) ∧ Below w.heap.size w w' := by
  have HB0 : Hid (Below w.heap.size w (w.alloc (.cells #[.int .i64 x.k, .int .i64 x.l, .int .i64 x.g, .int .i64 x.s, .int .i64 x.c, .int .i64 x.d0, .int .i64 x.d1, .int .i64 x.d2, .int .i64 x.d3, .int .i64 x.o, .int .i64 x.t] 84))) := hid ((Below.refl _ _).alloc (Nat.le_refl _) _)
  by_cases hl : b.length = 128
  · rw [hl]
    by_cases h0 : i < 0
    · clear h hl
      go_enter Try.func72, Try.ntmps72
      go_wp2
      go_ret2
      exact ⟨rfl, HB0.out⟩
    · have h4 : 4 ≤ i := by omega
      clear h hl
      go_enter Try.func72, Try.ntmps72
      go_wp2
      go_ret2
      exact ⟨rfl, HB0.out⟩
  · have hq : ((b.length : Int) != 128) = true := by rw [bne_iff_ne]; omega
    clear h hl
    go_enter Try.func72, Try.ntmps72
    go_wp2
    go_ret2
    exact ⟨rfl, HB0.out⟩

set_option maxHeartbeats 4000000 in
set_option maxRecDepth 100000 in
theorem put_form (B : Option Addr) (c i : Nat) (x : Nod) (w : World) (hi : i < 4) (hx : soundN x = false) :
    Calls Try.prog 72 #[.slice B 128 c, .int .i64 i, .agg #[.int .i64 x.k, .int .i64 x.l, .int .i64 x.g, .int .i64 x.s, .int .i64 x.c, .int .i64 x.d0, .int .i64 x.d1, .int .i64 x.d2, .int .i64 x.d3, .int .i64 x.o, .int .i64 x.t]] w fun e w' => e = .returned (.tuple #[.slice none 0 0, .int .i64 2]) ∧ Below w.heap.size w w' := by
  have k0 := BoxN.new w x
  have HB0 : Hid (Below w.heap.size w (w.alloc (.cells #[.int .i64 x.k, .int .i64 x.l, .int .i64 x.g, .int .i64 x.s, .int .i64 x.c, .int .i64 x.d0, .int .i64 x.d1, .int .i64 x.d2, .int .i64 x.d3, .int .i64 x.o, .int .i64 x.t] 84))) := hid ((Below.refl _ _).alloc (Nat.le_refl _) _)
  obtain ⟨z0, z1, z2, z3, z4, z5, z6, z7, z8, z9, z10, zf, zlt⟩ := k0.facts
  have HS := soundN_any x
  rw [hx] at HS
  have HSN := hid HS
  have h4 : i = 0 ∨ i = 1 ∨ i = 2 ∨ i = 3 := by omega
  clear HS hx k0 hi
  rcases h4 with rfl | rfl | rfl | rfl
  · rw [show ((0 : Nat) : Int) = 0 from rfl]
    go_enter Try.func72, Try.ntmps72
    go_wp2_with fail
    refine (HSN.out _).mono ?_
    rintro e w1 ⟨rfl, hb1⟩
    go_wp2
    go_ret2
    exact ⟨rfl, below_t HB0.out hb1 HB0.out.size⟩
  · rw [show ((1 : Nat) : Int) = 1 from rfl]
    go_enter Try.func72, Try.ntmps72
    go_wp2_with fail
    refine (HSN.out _).mono ?_
    rintro e w1 ⟨rfl, hb1⟩
    go_wp2
    go_ret2
    exact ⟨rfl, below_t HB0.out hb1 HB0.out.size⟩
  · rw [show ((2 : Nat) : Int) = 2 from rfl]
    go_enter Try.func72, Try.ntmps72
    go_wp2_with fail
    refine (HSN.out _).mono ?_
    rintro e w1 ⟨rfl, hb1⟩
    go_wp2
    go_ret2
    exact ⟨rfl, below_t HB0.out hb1 HB0.out.size⟩
  · rw [show ((3 : Nat) : Int) = 3 from rfl]
    go_enter Try.func72, Try.ntmps72
    go_wp2_with fail
    refine (HSN.out _).mono ?_
    rintro e w1 ⟨rfl, hb1⟩
    go_wp2
    go_ret2
    exact ⟨rfl, below_t HB0.out hb1 HB0.out.size⟩
set_option maxHeartbeats 4000000 in
set_option maxRecDepth 100000 in
theorem put_ok (g0 off : Nat) (b : List UInt8) (c i : Nat) (x : Nod) (w : World) (hb : Bytes w (some ⟨g0, off, none⟩) b) (hbl : b.length = 128) (hc : 128 ≤ c) (hi : i < 4) (hx : soundN x = true) :
    Calls Try.prog 72 #[.slice (some ⟨g0, off, none⟩) 128 c, .int .i64 i, .agg #[.int .i64 x.k, .int .i64 x.l, .int .i64 x.g, .int .i64 x.s, .int .i64 x.c, .int .i64 x.d0, .int .i64 x.d1, .int .i64 x.d2, .int .i64 x.d3, .int .i64 x.o, .int .i64 x.t]] w (RetOwn2 w 5 1 128 ((putS b i (encL x)).map bv) (.int .i64 0)) := by
  have k0 := BoxN.new w x
  have HB0 : Hid (Below w.heap.size w (w.alloc (.cells #[.int .i64 x.k, .int .i64 x.l, .int .i64 x.g, .int .i64 x.s, .int .i64 x.c, .int .i64 x.d0, .int .i64 x.d1, .int .i64 x.d2, .int .i64 x.d3, .int .i64 x.o, .int .i64 x.t] 84))) := hid ((Below.refl _ _).alloc (Nat.le_refl _) _)
  obtain ⟨z0, z1, z2, z3, z4, z5, z6, z7, z8, z9, z10, zf, zlt⟩ := k0.facts
  have HS := soundN_any x
  rw [hx] at HS
  have HSN := hid HS
  have HX := hid hx
  have HEN := hid (fun W => by
    obtain ⟨q1, q2, q3, q4, q5, q6⟩ := sound_small hx
    have := encodeN_any x.k.toNat x.l.toNat x.g.toNat x.s.toNat x.c.toNat x.d0.toNat x.d1.toNat x.d2.toNat x.d3.toNat x.o.toNat x.t.toNat W q1 q2 q3 q4 q5 q6
    rw [sound_casts hx] at this
    exact this)
  have K0 := hid k0
  have HB := hid hb
  have HBL := hid hbl
  have hc1 : (128 : Int) ≤ c := by omega
  have h4 : i = 0 ∨ i = 1 ∨ i = 2 ∨ i = 3 := by omega
  clear HS hx k0 hi hb hbl hc
  rcases h4 with rfl | rfl | rfl | rfl
  · rw [show ((0 : Nat) : Int) = 0 from rfl]
    go_enter Try.func72, Try.ntmps72
    go_wp2_with fail
    refine (HSN.out _).mono ?_
    clear z0 z1 z2 z3 z4 z5 z6 z7 z8 z9 z10 zf zlt
    rintro e w1 ⟨rfl, hb1⟩
    have hb01 := below_t HB0.out hb1 HB0.out.size
    have k1 := K0.out.below hb1 K0.out.lt
    have hcl := clone_any (some ⟨g0, off, none⟩) b c w1 (HB.out.below hb01 (Nat.le_refl _)) (by rw [HBL.out]; omega)
    rw [HBL.out] at hcl
    go_wp2_with fail
    refine hcl.mono ?_
    clear hcl
    rintro e w2 ⟨A2, c2, rfl, ho2, hb2⟩
    have hb02 := below_t hb01 hb2 hb01.size
    have k2 := k1.below hb2 k1.lt
    obtain ⟨g2, cur2, rfl, hg2, -⟩ := ho2.open (by omega)
    have HL : Hid (LastS2 w w2 x) := hid ⟨k2, hb02⟩
    have HO := hid ho2
    have hc2 : (128 : Int) ≤ c2 := by have := ho2.le.1; omega
    have hs0 : w.heap.size < w1.heap.size := k1.lt
    have hwn : ∀ n : Int, 0 ≤ n → n ≤ 200 → IntKind.i64.wrap n = n := fun n h1 h2 => by rw [IntKind.wrap_i64]; omega
    clear hb01 k1 hb02 k2 ho2 hb1 hb2
    go_wp2_with fail
    go_region_held3 (fun W => (W.cell? ⟨w.heap.size, 0, none⟩ = some (.int .i64 x.k) ∧ W.cell? ⟨w.heap.size, 1, none⟩ = some (.int .i64 x.l) ∧ W.cell? ⟨w.heap.size, 2, none⟩ = some (.int .i64 x.g) ∧ W.cell? ⟨w.heap.size, 3, none⟩ = some (.int .i64 x.s) ∧ W.cell? ⟨w.heap.size, 4, none⟩ = some (.int .i64 x.c) ∧ W.cell? ⟨w.heap.size, 5, none⟩ = some (.int .i64 x.d0) ∧ W.cell? ⟨w.heap.size, 6, none⟩ = some (.int .i64 x.d1) ∧ W.cell? ⟨w.heap.size, 7, none⟩ = some (.int .i64 x.d2) ∧ W.cell? ⟨w.heap.size, 8, none⟩ = some (.int .i64 x.d3) ∧ W.cell? ⟨w.heap.size, 9, none⟩ = some (.int .i64 x.o) ∧ W.cell? ⟨w.heap.size, 10, none⟩ = some (.int .i64 x.t)) ∧ LastS2 w W x)
      (first | exact HL.out.cells | exact (HL.out.keep (bl2 _)).cells | exact hl3.cells | exact (hl3.turn ht4.out (Nat.lt_of_lt_of_le hs0 hg2)).cells | fail "keep")
      (first
        | (go_at_call 139; refine (HEN.out _).mono ?_; rintro e w3 ⟨A3, c3, rfl, ho3, hb3⟩; have hl3 := LastS2.keep (And.right (by assumption)) hb3)
        | (refine st_copyB (by rfl) (.tmp 28) (.tmp 30) (by rfl) w1.heap.size g2 0 128 128 c2 (b.map bv) ((encL x).map bv) A3 32 c3 (c2 - 0) (by rfl) (by rfl) (HO.out.drew.below hb3 (Nat.le_refl _)) ho3.cells (by rw [List.length_map, encL_len]) (by omega) (by omega) (by omega) (by simp [Value.oneCell']) ?_; intro w4 ho4 ht4)
        | fail "arm")
    have hl4 := hl3.turn ht4.out (Nat.lt_of_lt_of_le hs0 hg2)
    have ho5 : Go.CP.Own w4 w1.heap.size 5 1 (some ⟨g2, 0, none⟩) 128 c2 ((putS b 0 (encL x)).map bv) := by
      have := ho4.out
      rw [putS, List.map_append, List.map_append, List.map_take, List.map_drop]
      exact this
    have HO5 := hid ho5
    clear ho5 ho4
    go_wp2_with fail
    refine (clip_any _ _ _ _ (by omega)).mono ?_
    rintro e w6 ⟨rfl, rfl⟩
    go_wp2
    go_ret2
    exact ⟨_, _, rfl, (HO5.out.clip).mono (Nat.le_of_lt hs0), hl4.2⟩
  · rw [show ((1 : Nat) : Int) = 1 from rfl]
    go_enter Try.func72, Try.ntmps72
    go_wp2_with fail
    refine (HSN.out _).mono ?_
    clear z0 z1 z2 z3 z4 z5 z6 z7 z8 z9 z10 zf zlt
    rintro e w1 ⟨rfl, hb1⟩
    have hb01 := below_t HB0.out hb1 HB0.out.size
    have k1 := K0.out.below hb1 K0.out.lt
    have hcl := clone_any (some ⟨g0, off, none⟩) b c w1 (HB.out.below hb01 (Nat.le_refl _)) (by rw [HBL.out]; omega)
    rw [HBL.out] at hcl
    go_wp2_with fail
    refine hcl.mono ?_
    clear hcl
    rintro e w2 ⟨A2, c2, rfl, ho2, hb2⟩
    have hb02 := below_t hb01 hb2 hb01.size
    have k2 := k1.below hb2 k1.lt
    obtain ⟨g2, cur2, rfl, hg2, -⟩ := ho2.open (by omega)
    have HL : Hid (LastS2 w w2 x) := hid ⟨k2, hb02⟩
    have HO := hid ho2
    have hc2 : (128 : Int) ≤ c2 := by have := ho2.le.1; omega
    have hs0 : w.heap.size < w1.heap.size := k1.lt
    have hwn : ∀ n : Int, 0 ≤ n → n ≤ 200 → IntKind.i64.wrap n = n := fun n h1 h2 => by rw [IntKind.wrap_i64]; omega
    clear hb01 k1 hb02 k2 ho2 hb1 hb2
    go_wp2_with fail
    go_region_held3 (fun W => (W.cell? ⟨w.heap.size, 0, none⟩ = some (.int .i64 x.k) ∧ W.cell? ⟨w.heap.size, 1, none⟩ = some (.int .i64 x.l) ∧ W.cell? ⟨w.heap.size, 2, none⟩ = some (.int .i64 x.g) ∧ W.cell? ⟨w.heap.size, 3, none⟩ = some (.int .i64 x.s) ∧ W.cell? ⟨w.heap.size, 4, none⟩ = some (.int .i64 x.c) ∧ W.cell? ⟨w.heap.size, 5, none⟩ = some (.int .i64 x.d0) ∧ W.cell? ⟨w.heap.size, 6, none⟩ = some (.int .i64 x.d1) ∧ W.cell? ⟨w.heap.size, 7, none⟩ = some (.int .i64 x.d2) ∧ W.cell? ⟨w.heap.size, 8, none⟩ = some (.int .i64 x.d3) ∧ W.cell? ⟨w.heap.size, 9, none⟩ = some (.int .i64 x.o) ∧ W.cell? ⟨w.heap.size, 10, none⟩ = some (.int .i64 x.t)) ∧ LastS2 w W x)
      (first | exact HL.out.cells | exact (HL.out.keep (bl2 _)).cells | exact hl3.cells | exact (hl3.turn ht4.out (Nat.lt_of_lt_of_le hs0 hg2)).cells | fail "keep")
      (first
        | (go_at_call 139; refine (HEN.out _).mono ?_; rintro e w3 ⟨A3, c3, rfl, ho3, hb3⟩; have hl3 := LastS2.keep (And.right (by assumption)) hb3)
        | (refine st_copyB (by rfl) (.tmp 28) (.tmp 30) (by rfl) w1.heap.size g2 32 96 128 c2 (b.map bv) ((encL x).map bv) A3 32 c3 (c2 - 32) (by rfl) (by rfl) (HO.out.drew.below hb3 (Nat.le_refl _)) ho3.cells (by rw [List.length_map, encL_len]) (by omega) (by omega) (by omega) (by simp [Value.oneCell']) ?_; intro w4 ho4 ht4)
        | fail "arm")
    have hl4 := hl3.turn ht4.out (Nat.lt_of_lt_of_le hs0 hg2)
    have ho5 : Go.CP.Own w4 w1.heap.size 5 1 (some ⟨g2, 0, none⟩) 128 c2 ((putS b 1 (encL x)).map bv) := by
      have := ho4.out
      rw [putS, List.map_append, List.map_append, List.map_take, List.map_drop]
      exact this
    have HO5 := hid ho5
    clear ho5 ho4
    go_wp2_with fail
    refine (clip_any _ _ _ _ (by omega)).mono ?_
    rintro e w6 ⟨rfl, rfl⟩
    go_wp2
    go_ret2
    exact ⟨_, _, rfl, (HO5.out.clip).mono (Nat.le_of_lt hs0), hl4.2⟩
  · rw [show ((2 : Nat) : Int) = 2 from rfl]
    go_enter Try.func72, Try.ntmps72
    go_wp2_with fail
    refine (HSN.out _).mono ?_
    clear z0 z1 z2 z3 z4 z5 z6 z7 z8 z9 z10 zf zlt
    rintro e w1 ⟨rfl, hb1⟩
    have hb01 := below_t HB0.out hb1 HB0.out.size
    have k1 := K0.out.below hb1 K0.out.lt
    have hcl := clone_any (some ⟨g0, off, none⟩) b c w1 (HB.out.below hb01 (Nat.le_refl _)) (by rw [HBL.out]; omega)
    rw [HBL.out] at hcl
    go_wp2_with fail
    refine hcl.mono ?_
    clear hcl
    rintro e w2 ⟨A2, c2, rfl, ho2, hb2⟩
    have hb02 := below_t hb01 hb2 hb01.size
    have k2 := k1.below hb2 k1.lt
    obtain ⟨g2, cur2, rfl, hg2, -⟩ := ho2.open (by omega)
    have HL : Hid (LastS2 w w2 x) := hid ⟨k2, hb02⟩
    have HO := hid ho2
    have hc2 : (128 : Int) ≤ c2 := by have := ho2.le.1; omega
    have hs0 : w.heap.size < w1.heap.size := k1.lt
    have hwn : ∀ n : Int, 0 ≤ n → n ≤ 200 → IntKind.i64.wrap n = n := fun n h1 h2 => by rw [IntKind.wrap_i64]; omega
    clear hb01 k1 hb02 k2 ho2 hb1 hb2
    go_wp2_with fail
    go_region_held3 (fun W => (W.cell? ⟨w.heap.size, 0, none⟩ = some (.int .i64 x.k) ∧ W.cell? ⟨w.heap.size, 1, none⟩ = some (.int .i64 x.l) ∧ W.cell? ⟨w.heap.size, 2, none⟩ = some (.int .i64 x.g) ∧ W.cell? ⟨w.heap.size, 3, none⟩ = some (.int .i64 x.s) ∧ W.cell? ⟨w.heap.size, 4, none⟩ = some (.int .i64 x.c) ∧ W.cell? ⟨w.heap.size, 5, none⟩ = some (.int .i64 x.d0) ∧ W.cell? ⟨w.heap.size, 6, none⟩ = some (.int .i64 x.d1) ∧ W.cell? ⟨w.heap.size, 7, none⟩ = some (.int .i64 x.d2) ∧ W.cell? ⟨w.heap.size, 8, none⟩ = some (.int .i64 x.d3) ∧ W.cell? ⟨w.heap.size, 9, none⟩ = some (.int .i64 x.o) ∧ W.cell? ⟨w.heap.size, 10, none⟩ = some (.int .i64 x.t)) ∧ LastS2 w W x)
      (first | exact HL.out.cells | exact (HL.out.keep (bl2 _)).cells | exact hl3.cells | exact (hl3.turn ht4.out (Nat.lt_of_lt_of_le hs0 hg2)).cells | fail "keep")
      (first
        | (go_at_call 139; refine (HEN.out _).mono ?_; rintro e w3 ⟨A3, c3, rfl, ho3, hb3⟩; have hl3 := LastS2.keep (And.right (by assumption)) hb3)
        | (refine st_copyB (by rfl) (.tmp 28) (.tmp 30) (by rfl) w1.heap.size g2 64 64 128 c2 (b.map bv) ((encL x).map bv) A3 32 c3 (c2 - 64) (by rfl) (by rfl) (HO.out.drew.below hb3 (Nat.le_refl _)) ho3.cells (by rw [List.length_map, encL_len]) (by omega) (by omega) (by omega) (by simp [Value.oneCell']) ?_; intro w4 ho4 ht4)
        | fail "arm")
    have hl4 := hl3.turn ht4.out (Nat.lt_of_lt_of_le hs0 hg2)
    have ho5 : Go.CP.Own w4 w1.heap.size 5 1 (some ⟨g2, 0, none⟩) 128 c2 ((putS b 2 (encL x)).map bv) := by
      have := ho4.out
      rw [putS, List.map_append, List.map_append, List.map_take, List.map_drop]
      exact this
    have HO5 := hid ho5
    clear ho5 ho4
    go_wp2_with fail
    refine (clip_any _ _ _ _ (by omega)).mono ?_
    rintro e w6 ⟨rfl, rfl⟩
    go_wp2
    go_ret2
    exact ⟨_, _, rfl, (HO5.out.clip).mono (Nat.le_of_lt hs0), hl4.2⟩
  · rw [show ((3 : Nat) : Int) = 3 from rfl]
    go_enter Try.func72, Try.ntmps72
    go_wp2_with fail
    refine (HSN.out _).mono ?_
    clear z0 z1 z2 z3 z4 z5 z6 z7 z8 z9 z10 zf zlt
    rintro e w1 ⟨rfl, hb1⟩
    have hb01 := below_t HB0.out hb1 HB0.out.size
    have k1 := K0.out.below hb1 K0.out.lt
    have hcl := clone_any (some ⟨g0, off, none⟩) b c w1 (HB.out.below hb01 (Nat.le_refl _)) (by rw [HBL.out]; omega)
    rw [HBL.out] at hcl
    go_wp2_with fail
    refine hcl.mono ?_
    clear hcl
    rintro e w2 ⟨A2, c2, rfl, ho2, hb2⟩
    have hb02 := below_t hb01 hb2 hb01.size
    have k2 := k1.below hb2 k1.lt
    obtain ⟨g2, cur2, rfl, hg2, -⟩ := ho2.open (by omega)
    have HL : Hid (LastS2 w w2 x) := hid ⟨k2, hb02⟩
    have HO := hid ho2
    have hc2 : (128 : Int) ≤ c2 := by have := ho2.le.1; omega
    have hs0 : w.heap.size < w1.heap.size := k1.lt
    have hwn : ∀ n : Int, 0 ≤ n → n ≤ 200 → IntKind.i64.wrap n = n := fun n h1 h2 => by rw [IntKind.wrap_i64]; omega
    clear hb01 k1 hb02 k2 ho2 hb1 hb2
    go_wp2_with fail
    go_region_held3 (fun W => (W.cell? ⟨w.heap.size, 0, none⟩ = some (.int .i64 x.k) ∧ W.cell? ⟨w.heap.size, 1, none⟩ = some (.int .i64 x.l) ∧ W.cell? ⟨w.heap.size, 2, none⟩ = some (.int .i64 x.g) ∧ W.cell? ⟨w.heap.size, 3, none⟩ = some (.int .i64 x.s) ∧ W.cell? ⟨w.heap.size, 4, none⟩ = some (.int .i64 x.c) ∧ W.cell? ⟨w.heap.size, 5, none⟩ = some (.int .i64 x.d0) ∧ W.cell? ⟨w.heap.size, 6, none⟩ = some (.int .i64 x.d1) ∧ W.cell? ⟨w.heap.size, 7, none⟩ = some (.int .i64 x.d2) ∧ W.cell? ⟨w.heap.size, 8, none⟩ = some (.int .i64 x.d3) ∧ W.cell? ⟨w.heap.size, 9, none⟩ = some (.int .i64 x.o) ∧ W.cell? ⟨w.heap.size, 10, none⟩ = some (.int .i64 x.t)) ∧ LastS2 w W x)
      (first | exact HL.out.cells | exact (HL.out.keep (bl2 _)).cells | exact hl3.cells | exact (hl3.turn ht4.out (Nat.lt_of_lt_of_le hs0 hg2)).cells | fail "keep")
      (first
        | (go_at_call 139; refine (HEN.out _).mono ?_; rintro e w3 ⟨A3, c3, rfl, ho3, hb3⟩; have hl3 := LastS2.keep (And.right (by assumption)) hb3)
        | (refine st_copyB (by rfl) (.tmp 28) (.tmp 30) (by rfl) w1.heap.size g2 96 32 128 c2 (b.map bv) ((encL x).map bv) A3 32 c3 (c2 - 96) (by rfl) (by rfl) (HO.out.drew.below hb3 (Nat.le_refl _)) ho3.cells (by rw [List.length_map, encL_len]) (by omega) (by omega) (by omega) (by simp [Value.oneCell']) ?_; intro w4 ho4 ht4)
        | fail "arm")
    have hl4 := hl3.turn ht4.out (Nat.lt_of_lt_of_le hs0 hg2)
    have ho5 : Go.CP.Own w4 w1.heap.size 5 1 (some ⟨g2, 0, none⟩) 128 c2 ((putS b 3 (encL x)).map bv) := by
      have := ho4.out
      rw [putS, List.map_append, List.map_append, List.map_take, List.map_drop]
      exact this
    have HO5 := hid ho5
    clear ho5 ho4
    go_wp2_with fail
    refine (clip_any _ _ _ _ (by omega)).mono ?_
    rintro e w6 ⟨rfl, rfl⟩
    go_wp2
    go_ret2
    exact ⟨_, _, rfl, (HO5.out.clip).mono (Nat.le_of_lt hs0), hl4.2⟩
end Go.Proofs.Ytppbcdcmpcagdaa
