/- Contract of super.Decode. -/
import Derived.Test.YtppbcdcmpcagdaaSuper2
import Derived.Deep.QuietTactic
namespace Go.Proofs.Ytppbcdcmpcagdaa
open Go.RowKit Go.CP

theorem t_at {l : List UInt8} {k : Nat} (h : k ≤ l.length) : tOut l false k = l.take k ∧ tL l false k = l.drop k ∧ tB l false k = false := by
  have hl : ¬ (false = true ∨ l.length < k) := by simp; omega
  exact ⟨if_neg hl, if_neg hl, by simp [tB]; omega⟩
def sN1 (b : List UInt8) : Nat := bigL ((b.drop 4).take 4)
def sN2 (b : List UInt8) : Nat := bigL (((b.drop 4).drop 4).take 4)
def sN3 (b : List UInt8) : Nat := bigL ((((b.drop 4).drop 4).drop 4).take 4)
/-- Is a sector a beginning? -/
def supD (b : List UInt8) : Bool := supB (sN1 b) (sN2 b) (sN3 b) && decide (sealL (supL (sN1 b) (sN2 b) (sN3 b)) = b)
/-- What Decode hands back. -/
def RetDec (b : List UInt8) (w : World) (e : Ending) (w' : World) : Prop :=
  Below w.heap.size w w' ∧ ((supD b = true ∧ e = .returned (.tuple #[.agg #[.int .i64 (sN1 b : Nat), .int .i64 (sN2 b : Nat), .int .i64 (sN3 b : Nat)], .int .i64 0])) ∨
    (supD b = false ∧ e = .returned (.tuple #[.agg #[.int .i64 0, .int .i64 0, .int .i64 0], .int .i64 2])))

/-- A box of three cells. -/
def Box3 (W : World) (k : Nat) (x y z : Value) : Prop := W.heap[k]? = some (.cells #[x, y, z] 60 (0, 0))
theorem Box3.facts {W : World} {k : Nat} {x y z : Value} (h : Box3 W k x y z) : W.cell? ⟨k, 0, none⟩ = some x ∧ W.cell? ⟨k, 1, none⟩ = some y ∧ W.cell? ⟨k, 2, none⟩ = some z ∧ (∀ j, W.frozen? ⟨k, j, none⟩ = false) ∧ k < W.heap.size := by
  have h' : W.heap[k]? = _ := h
  refine ⟨?_, ?_, ?_, fun j => ?_, (Array.getElem?_eq_some_iff.1 h').1⟩ <;> simp [World.cell?, World.frozen?, h']
theorem Box3.turn {W W' : World} {k g : Nat} {x y z : Value} (h : Box3 W k x y z) (ht : Turn g W W') (hne : k ≠ g) : Box3 W' k x y z := (ht.2.2 k h.facts.2.2.2.2 hne).trans h
theorem Box3.below {B : Nat} {W W' : World} {k : Nat} {x y z : Value} (h : Box3 W k x y z) (hb : Below B W W') (hk : k < B) : Box3 W' k x y z := (hb.block k hk).trans h
theorem Box3.alloc {W : World} {k : Nat} {x y z : Value} (h : Box3 W k x y z) (o : Obj) : Box3 (W.alloc o) k x y z := h.below ((Below.refl W.heap.size W).alloc (Nat.le_refl _) o) h.facts.2.2.2.2
theorem Box3.drew {W : World} {k : Nat} {x y z : Value} (h : Box3 W k x y z) : Box3 W.drew k x y z := h
theorem Box3.set {W : World} {k : Nat} {x y z : Value} (h : Box3 W k x y z) (j : Nat) (v : Value) : (W.setCell ⟨k, j, none⟩ v).heap[k]? = some (.cells (#[x, y, z].setIfInBounds j v) 60 (0, 0)) := heap_setCell_at _ _ _ _ _ _ h
theorem Box3.other {W : World} {k k' j : Nat} {x y z v : Value} (h : Box3 W k x y z) (hne : k ≠ k') : Box3 (W.setCell ⟨k', j, none⟩ v) k x y z := (Below.heap_setCell _ _ _ _ hne).trans h
theorem Box3.new (W : World) (x y z : Value) : Box3 (W.alloc (.cells #[x, y, z] 60)) W.heap.size x y z := heap_alloc_new W _

theorem Box3.set3 {W : World} {k : Nat} {x y z : Value} (h : Box3 W k x y z) (x' y' z' : Value) : Box3 (((W.setCell ⟨k, 0, none⟩ x').setCell ⟨k, 1, none⟩ y').setCell ⟨k, 2, none⟩ z') k x' y' z' := by
  have h1 : Box3 (W.setCell ⟨k, 0, none⟩ x') k x' y z := h.set 0 x'
  have h2 : Box3 ((W.setCell ⟨k, 0, none⟩ x').setCell ⟨k, 1, none⟩ y') k x' y' z := h1.set 1 y'
  exact h2.set 2 z'
theorem res61 {W : World} {k : Nat} {x y z : Int} (h : Box3 W k (.int .i64 x) (.int .i64 y) (.int .i64 z)) (tmps : Array Value) (ht : tmps.getD 2 undef = .pointer (some ⟨k, 0, none⟩)) :
    (results Try.f61 tmps).run Try.prog W = .ok (.tuple #[.agg #[.int .i64 x, .int .i64 y, .int .i64 z], tmps.getD 3 undef]) W := by
  obtain ⟨c0, c1, c2, -, -⟩ := h.facts
  have ht' : tmps[2]?.getD undef = .pointer (some ⟨k, 0, none⟩) := by simpa using ht
  simp [results, Try.results61, go_sem, ht', c0, c1, c2]
theorem dec_len (B : Option Addr) (b : List UInt8) (c : Nat) (w : World) (h : b.length ≠ 128) (_ : b.length ≤ 140737488351232) : Calls Try.prog 61 #[.slice B b.length c] w (RetDec b w) := by
  have hq : ((b.length : Int) != 128) = true := by rw [bne_iff_ne]; omega
  have hd : supD b = false := by
    unfold supD
    rw [Bool.and_eq_false_iff]
    right
    exact decide_eq_false fun e => h (by rw [← e, sealL_len, supL_len])
  have HD := hid hd
  clear hd h
  go_enter Try.func61, Try.ntmps61
  go_wp2
  refine bodyPost_ret (v := .tuple #[.agg #[.int .i64 0, .int .i64 0, .int .i64 0], .int .i64 2]) (by simp [results, Try.results61, go_sem]) rfl ⟨?_, .inr ⟨HD.out, rfl⟩⟩
  exact (Below.refl _ _).alloc (Nat.le_refl _) _

set_option maxHeartbeats 2000000 in
set_option maxRecDepth 100000 in
theorem dec_128 (g0 off : Nat) (b : List UInt8) (c : Nat) (w : World) (hb : Bytes w (some ⟨g0, off, none⟩) b) (hbl : b.length = 128) (hc : b.length ≤ c) : Calls Try.prog 61 #[.slice (some ⟨g0, off, none⟩) 128 c] w (RetDec b w) := by
  have hc1 : (128 : Int) ≤ c := by omega
  have hc2 : ¬ c = 4 := by omega
  have HBL := hid hbl
  have hb4 : Bytes (w.alloc (.cells #[.int .i64 0, .int .i64 0, .int .i64 0] 60)) (some ⟨g0, off + 4, none⟩) (b.drop 4) := by
    have := (Cells.drop (hb.alloc (.cells #[.int .i64 0, .int .i64 0, .int .i64 0] 60)) 4)
    rwa [← List.map_drop] at this
  have hr := read_any (some ⟨g0, off + 4, none⟩) (b.drop 4) (c - 4) _ hb4 (by simp; omega)
  rw [show (b.drop 4).length = 124 from by simp; omega] at hr
  have HR := hid hr
  clear hbl hr hb4 hc
  go_enter Try.func61, Try.ntmps61
  go_wp2_with fail
  refine HR.out.mono ?_
  rintro e w1 ⟨g, B, rfl, hf1, hg1, hB1, hb1⟩
  have h2 := fnum_any g B (b.drop 4) false w1 hf1
  obtain ⟨t1, t2, t3⟩ := t_at (l := b.drop 4) (k := 4) (by have := HBL.out; simp; omega)
  rw [t1, t2, t3] at h2
  clear t1 t2 t3
  go_wp2_with fail
  refine h2.mono ?_
  clear h2
  rintro e w2 ⟨rfl, hf2, ht2⟩
  have hz0 := hb1.size
  simp only [World.size_alloc] at hz0 hg1
  have k0 := ((Box3.new w (.int .i64 0) (.int .i64 0) (.int .i64 0)).below hb1 (by simp)).turn ht2 (by omega)
  have hz2 := ht2.2.1
  have hlt2 := hf2.lt
  have hf2' := hf2.below ((Below.refl w2.heap.size w2).alloc (Nat.le_refl _) (.cells #[.int .i64 (sN1 b : Nat), .int .i64 0, .int .i64 0] 60))
  have h3 := fnum_any g B ((b.drop 4).drop 4) false _ hf2'
  obtain ⟨t1, t2, t3⟩ := t_at (l := (b.drop 4).drop 4) (k := 4) (by have := HBL.out; simp; omega)
  rw [t1, t2, t3] at h3
  have h3' : Calls Try.prog 46 #[.pointer (some ⟨g, 0, none⟩)] _ (RetForm g B (.int .i64 (sN2 b : Nat)) (((b.drop 4).drop 4).drop 4) false _) := h3
  have H3 := hid h3'
  clear t1 t2 t3 h3 h3' hf2'
  have s2 := Box3.new w2 (.int .i64 (sN1 b : Nat)) (.int .i64 0) (.int .i64 0)
  rw [show ((bigL ((b.drop 4).take 4) : Nat) : Int) = (sN1 b : Nat) from rfl]
  go_wp2_with fail
  refine H3.out.mono ?_
  rintro e w3 ⟨rfl, hf3, ht3⟩
  have s3 := s2.turn ht3 (by omega)
  have k3 := (k0.alloc (.cells #[.int .i64 (sN1 b : Nat), .int .i64 0, .int .i64 0] 60)).turn ht3 (by omega)
  have hz3 := ht3.2.1
  simp only [World.size_alloc] at hz3
  obtain ⟨sc0, sc1, sc2, sfr, -⟩ := s3.facts
  have HS3 := hid s3
  have HK3 := hid k3
  have HF3 := hid hf3
  clear s3 k3 hf3 s2 k0 hf2
  have hz2 := ht2.2.1
  have hw3 : Below w.heap.size w w3 := (((((Below.refl _ w).alloc (Nat.le_refl _) _).trans (hb1.mono (by simp))).trans (ht2.1.mono (by omega))).alloc (by omega) _).trans (ht3.1.mono (by omega))
  have hf3' := HF3.out.turn (Turn.setCell w2.heap.size 1 w3 (.int .i64 (sN2 b : Nat))) (by omega) (fun b hb => by have := hB1 b hb; omega)
  have h4 := fnum_any g B (((b.drop 4).drop 4).drop 4) false _ hf3'
  obtain ⟨t1, t2, t3⟩ := t_at (l := ((b.drop 4).drop 4).drop 4) (k := 4) (by have := HBL.out; simp; omega)
  rw [t1, t2, t3] at h4
  have h4' : Calls Try.prog 46 #[.pointer (some ⟨g, 0, none⟩)] _ (RetForm g B (.int .i64 (sN3 b : Nat)) ((((b.drop 4).drop 4).drop 4).drop 4) false _) := h4
  have H4 := hid h4'
  clear t1 t2 t3 h4 h4' hf3'
  go_wp2_with fail
  refine H4.out.mono ?_
  clear sc0 sc1 sc2 sfr
  rintro e w4 ⟨rfl, hf4, ht4⟩
  have s4 : Box3 w4 w2.heap.size (.int .i64 (sN1 b : Nat)) (.int .i64 (sN2 b : Nat)) (.int .i64 0) := Box3.turn (W := w3.setCell ⟨w2.heap.size, 1, none⟩ (.int .i64 (sN2 b : Nat))) (HS3.out.set 1 _) ht4 (by omega)
  have k4 := (HK3.out.other (k' := w2.heap.size) (j := 1) (v := .int .i64 (sN2 b : Nat)) (by omega)).turn ht4 (by omega)
  have hz4 := ht4.2.1
  simp only [World.size_setCell] at hz4
  have hw4 : Below w.heap.size w w4 := (hw3.setCell (p := ⟨w2.heap.size, 1, none⟩) (by show w.heap.size ≤ w2.heap.size; omega) _).trans (ht4.1.mono (by omega))
  obtain ⟨sc0, sc1, sc2, sfr, -⟩ := s4.facts
  have HS4 := hid s4
  have HK4 := hid k4
  clear s4 k4 HS3 HK3 HF3 H3 H4 hf4 ht4 hw3 ht2 ht3 hb1
  have hse := sup_any (sN1 b : Nat) (sN2 b : Nat) (sN3 b : Nat) (w4.setCell ⟨w2.heap.size, 2, none⟩ (.int .i64 (sN3 b : Nat)))
  have HSE := hid hse
  clear hse
  go_wp2_with fail
  refine HSE.out.mono ?_
  clear HSE
  have k5 := HK4.out.other (k' := w2.heap.size) (j := 2) (v := .int .i64 (sN3 b : Nat)) (by omega)
  have s5 : Box3 (w4.setCell ⟨w2.heap.size, 2, none⟩ (.int .i64 (sN3 b : Nat))) w2.heap.size (.int .i64 (sN1 b : Nat)) (.int .i64 (sN2 b : Nat)) (.int .i64 (sN3 b : Nat)) := HS4.out.set 2 _
  have hw5 : Below w.heap.size w (w4.setCell ⟨w2.heap.size, 2, none⟩ (.int .i64 (sN3 b : Nat))) := hw4.setCell (p := ⟨w2.heap.size, 2, none⟩) (by show w.heap.size ≤ w2.heap.size; omega) _
  clear HS4 HK4 hw4 sc0 sc1 sc2 sfr
  have hz5 : (w4.setCell ⟨w2.heap.size, 2, none⟩ (.int .i64 (sN3 b : Nat))).heap.size = w4.heap.size := World.size_setCell _ _ _
  generalize w4.setCell ⟨w2.heap.size, 2, none⟩ (.int .i64 (sN3 b : Nat)) = w5 at k5 s5 hw5 hz5 ⊢
  rintro e w6 (⟨hB, A6, c6, rfl, ho6, hb6⟩ | ⟨hB, rfl, hb6⟩)
  · have hw6 := below_t hw5 hb6 hw5.size
    have k6 := k5.below hb6 k5.facts.2.2.2.2
    have s6 := s5.below hb6 s5.facts.2.2.2.2
    have heq := equal_any A6 (some ⟨g0, off, none⟩) _ b c6 c w6 ho6.cells (hb.below hw6 (Nat.le_refl _))
    rw [sealL_len, supL_len, HBL.out] at heq
    simp only [Int.toNat_natCast] at heq
    obtain ⟨q, hq⟩ : ∃ q, decide (sealL (supL (sN1 b) (sN2 b) (sN3 b)) = b) = q := ⟨_, rfl⟩
    have hd : supD b = q := by rw [supD, hB, hq, Bool.true_and]
    rw [hq] at heq
    have HD := hid hd
    obtain ⟨sc0, sc1, sc2, sfr, -⟩ := s6.facts
    obtain ⟨kc0, kc1, kc2, kfr, -⟩ := k6.facts
    clear hd hq ho6
    cases q with
    | true =>
      go_wp2_with fail
      refine heq.mono ?_
      rintro e w7 ⟨rfl, rfl⟩
      go_wp2_with fail
      exact bodyPost_ret (res61 (k6.set3 _ _ _) _ rfl) rfl ⟨((hw6.setCell (p := ⟨w.heap.size, 0, none⟩) (Nat.le_refl _) _).setCell (p := ⟨w.heap.size, 1, none⟩) (Nat.le_refl _) _).setCell (p := ⟨w.heap.size, 2, none⟩) (Nat.le_refl _) _, .inl ⟨HD.out, rfl⟩⟩
    | false =>
      go_wp2_with fail
      refine heq.mono ?_
      rintro e w7 ⟨rfl, rfl⟩
      go_wp2_with fail
      exact bodyPost_ret (res61 (k6.set3 _ _ _) _ rfl) rfl ⟨((hw6.setCell (p := ⟨w.heap.size, 0, none⟩) (Nat.le_refl _) _).setCell (p := ⟨w.heap.size, 1, none⟩) (Nat.le_refl _) _).setCell (p := ⟨w.heap.size, 2, none⟩) (Nat.le_refl _) _, .inr ⟨HD.out, rfl⟩⟩
  · have hw6 := below_t hw5 hb6 hw5.size
    have k6 := k5.below hb6 k5.facts.2.2.2.2
    have hd : supD b = false := by rw [supD, hB, Bool.false_and]
    have HD := hid hd
    obtain ⟨kc0, kc1, kc2, kfr, -⟩ := k6.facts
    clear hd
    go_wp2_with fail
    exact bodyPost_ret (res61 (k6.set3 _ _ _) _ rfl) rfl ⟨((hw6.setCell (p := ⟨w.heap.size, 0, none⟩) (Nat.le_refl _) _).setCell (p := ⟨w.heap.size, 1, none⟩) (Nat.le_refl _) _).setCell (p := ⟨w.heap.size, 2, none⟩) (Nat.le_refl _) _, .inr ⟨HD.out, rfl⟩⟩

theorem dec_any (B : Option Addr) (b : List UInt8) (c : Nat) (w : World) (hb : Bytes w B b) (hc : b.length ≤ c) (hl : b.length ≤ 140737488351232) : Calls Try.prog 61 #[.slice B b.length c] w (RetDec b w) := by
  by_cases h : b.length = 128
  · obtain ⟨g0, off, rfl, -⟩ := Bytes.openq hb (by omega)
    rw [h]
    exact dec_128 g0 off b c w hb h hc
  · exact dec_len B b c w h hl
end Go.Proofs.Ytppbcdcmpcagdaa
