/- copyholdlaw10's awake. -/
import Derived.Test.YtppbcdcmpcagdaaNodeQ
namespace Go.Proofs.Ytppbcdcmpcagdaa
open Go.RowKit Go.CP

def nodA : Nod := ⟨1, 1, 7, 5, 0, 43, 0, 0, 0, 0, 0⟩
theorem nodA_sound : soundN nodA = true := by decide
theorem BoxN.setD {W : World} {b : Nat} {x : Nod} (h : BoxN W b x) (v : Int) : BoxN (W.setCell ⟨b, 5, none⟩ (.int .i64 v)) b { x with d0 := v } := by
  have := heap_setCell_at W b 5 _ 84 (.int .i64 v) h
  simpa [BoxN] using this
theorem made_zeros (W : World) (n : Nat) : Bytes (W.alloc (.cells (madeCells #[.int .u8 0] n) 5)) (some ⟨W.heap.size, 0, none⟩) (List.replicate n 0) := by
  have h : (madeCells #[.int .u8 0] n) = ((List.replicate n (0 : UInt8)).map bv).toArray := by
    apply Array.toList_inj.1
    rw [madeCells_one]
    simp
  rw [h]
  exact cells_new W 5 (0, 0) _

theorem upon_make {o : Oper} {a : Act} {W : World} {K : Act → World → Prop} {Q : Exit → Act → World → Prop} (m : Nat) (hm : m ≤ 100000)
    (h : K (a.put o.dst (.slice (some ⟨W.heap.size, 0, none⟩) m m)) (W.alloc (.cells (madeCells #[.int .u8 0] m) 5))) :
    Oper.upon Try.prog o a K Q (((Instr.makeSlice 22 (.int .i64 m) (.int .i64 m)).run Try.prog W).andThen fun v w' => .ok (.value v) w') := by
  have hb : Try.t5.bytes = 1 := by rfl
  have hs : Try.t5.size = 1 := by rfl
  have hr := run_make (P := Try.prog) W 22 5 Try.t5 (.int .u8 0) Try.underlying22 info5 (by kernel_rfl) .i64 .i64 m m (by omega) (Int.le_refl _) (by rw [hb]; omega) (by omega)
  rw [hr, hs, Int.toNat_natCast, Nat.mul_one]
  exact h
theorem putA : putN (List.replicate 128 0) 2 nodA = 0 := by
  rw [putN, if_pos ⟨List.length_replicate, by decide, by decide⟩, nodA_sound]
  rfl
theorem put_yes (B : Option Addr) (b : List UInt8) (c : Nat) (i : Int) (x : Nod) (w : World) (hb : Bytes w B b) (hc : b.length ≤ c) (h : putN b i x = 0) : Calls Try.prog 72 #[.slice B b.length c, .int .i64 i, .agg #[.int .i64 x.k, .int .i64 x.l, .int .i64 x.g, .int .i64 x.s, .int .i64 x.c, .int .i64 x.d0, .int .i64 x.d1, .int .i64 x.d2, .int .i64 x.d3, .int .i64 x.o, .int .i64 x.t]] w (RetOwn2 w 5 1 128 ((putS b i.toNat (encL x)).map bv) (.int .i64 0)) :=
  (put_any2 B b c i x w hb hc).mono fun e w' k => by
    rcases k with ⟨-, k⟩ | ⟨hne, -⟩
    · exact k
    · exact absurd h hne
theorem put_no (B : Option Addr) (b : List UInt8) (c : Nat) (i : Int) (x : Nod) (w : World) (hb : Bytes w B b) (hc : b.length ≤ c) (h : putN b i x ≠ 0) : Calls Try.prog 72 #[.slice B b.length c, .int .i64 i, .agg #[.int .i64 x.k, .int .i64 x.l, .int .i64 x.g, .int .i64 x.s, .int .i64 x.c, .int .i64 x.d0, .int .i64 x.d1, .int .i64 x.d2, .int .i64 x.d3, .int .i64 x.o, .int .i64 x.t]] w fun e w' => e = .returned (.tuple #[.slice none 0 0, .int .i64 (putN b i x)]) ∧ Below w.heap.size w w' :=
  (put_any2 B b c i x w hb hc).mono fun e w' k => by
    rcases k with ⟨h0, -⟩ | ⟨-, k⟩
    · exact absurd h0 h
    · exact k
theorem getN_put {b : List UInt8} {i : Int} {x : Nod} (hb : b.length = 128) (h0 : 0 ≤ i) (h4 : i < 4) (hx : soundN x = true) : getN (putS b i.toNat (encL x)) i = (x, 0) := by
  rw [getN, if_pos ⟨putS_len hb (encL_len x) (by omega), h0, h4⟩, get_put hb (encL_len x) (by omega), ok_enc hx, dec_enc hx]
  rfl
theorem aw64 : (putS (List.replicate 128 0) 2 (encL nodA))[64]? = some 1 := by decide +kernel
theorem aw66 : (putS (List.replicate 128 0) 2 (encL nodA))[66]? = some 7 := by decide +kernel
set_option maxHeartbeats 4000000 in
set_option maxRecDepth 100000 in
theorem awake10_any (w : World) : Calls Try.prog 76 #[] w fun e w' => e = .returned (.bool true) ∧ Below w.heap.size w w' := by
  have hL : Hid (LastS2 w (w.alloc (.cells #[.int .i64 1, .int .i64 1, .int .i64 7, .int .i64 5, .int .i64 0, .int .i64 43, .int .i64 0, .int .i64 0, .int .i64 0, .int .i64 0, .int .i64 0] 84)) nodA) :=
    hid ⟨BoxN.new w nodA, (Below.refl _ _).alloc (Nat.le_refl _) _⟩
  go_enter Try.func76, Try.ntmps76
  go_wp2_with fail
  generalize w.alloc (.cells #[.int .i64 1, .int .i64 1, .int .i64 7, .int .i64 5, .int .i64 0, .int .i64 43, .int .i64 0, .int .i64 0, .int .i64 0, .int .i64 0, .int .i64 0] 84) = W0 at hL ⊢
  go_region_held3 (fun W => (W.cell? ⟨w.heap.size, 0, none⟩ = some (.int .i64 1) ∧ W.cell? ⟨w.heap.size, 1, none⟩ = some (.int .i64 1) ∧ W.cell? ⟨w.heap.size, 2, none⟩ = some (.int .i64 7) ∧ W.cell? ⟨w.heap.size, 3, none⟩ = some (.int .i64 5) ∧ W.cell? ⟨w.heap.size, 4, none⟩ = some (.int .i64 0) ∧ W.cell? ⟨w.heap.size, 5, none⟩ = some (.int .i64 43) ∧ W.cell? ⟨w.heap.size, 6, none⟩ = some (.int .i64 0) ∧ W.cell? ⟨w.heap.size, 7, none⟩ = some (.int .i64 0) ∧ W.cell? ⟨w.heap.size, 8, none⟩ = some (.int .i64 0) ∧ W.cell? ⟨w.heap.size, 9, none⟩ = some (.int .i64 0) ∧ W.cell? ⟨w.heap.size, 10, none⟩ = some (.int .i64 0)) ∧ LastS2 w W nodA)
    (first | exact hL.out.cells | exact (hL.out.keep (bl2 _)).cells | exact (LastS2.keep (hL.out.keep (bl2 _)) ((Below.refl _ _).alloc (Nat.le_refl _) _)).cells | exact hq1.cells | fail "keep")
    (first
      | (refine upon_make 128 (by omega) ?_)
      | (go_at_call 72; (have hp := put_yes _ (List.replicate 128 0) 128 2 nodA _ (made_zeros W0.drew 128) (by simp) putA); rw [List.length_replicate] at hp; refine hp.mono ?_; rintro e w1 ⟨A1, c1, rfl, ho1, hb1⟩; have hq1 := LastS2.keep (LastS2.keep (hL.out.keep (bl2 _)) ((Below.refl _ _).alloc (Nat.le_refl _) _)) hb1)
      | fail "arm")
  have hE : ∀ W, (Op.equalIn 10000 84 (.agg #[.int .i64 1, .int .i64 1, .int .i64 7, .int .i64 5, .int .i64 0, .int .i64 43, .int .i64 0, .int .i64 0, .int .i64 0, .int .i64 0, .int .i64 0]) (.agg #[.int .i64 1, .int .i64 1, .int .i64 7, .int .i64 5, .int .i64 0, .int .i64 43, .int .i64 0, .int .i64 0, .int .i64 0, .int .i64 0, .int .i64 0])).run Try.prog W = .ok true W := fun W => by
    have := eq84 9997 nodA nodA W
    rw [(eqN_iff nodA nodA).2 rfl] at this
    exact this
  have h82 : ∀ W, (Op.equalIn 9999 82 (.agg #[.int .i64 43, .int .i64 0, .int .i64 0, .int .i64 0]) (.agg #[.int .i64 43, .int .i64 0, .int .i64 0, .int .i64 0])).run Try.prog W = .ok true W := fun W => eq82 9997 43 0 0 0 43 0 0 0 W
  have hz : (putS (List.replicate 128 0) 2 (encL nodA)).length = 128 := putS_len List.length_replicate (encL_len _) (by omega)
  have hg := getN_any A1 (putS (List.replicate 128 0) 2 (encL nodA)) c1 2 w1 ho1.cells (by rw [hz]; exact ho1.le.1)
  rw [hz, show putS (List.replicate 128 0) 2 (encL nodA) = putS (List.replicate 128 0) (2 : Int).toNat (encL nodA) from rfl, getN_put List.length_replicate (by decide) (by decide) nodA_sound] at hg
  obtain ⟨g1, cur1, rfl, -⟩ := ho1.open (by omega)
  have HG := hid hg
  have HC := hid (ho1.cells)
  have HE := hid hE
  have H82 := hid h82
  have HQ1 := hid hq1
  clear hg hz hE h82 ho1 hb1 hq1
  go_wp2_with fail
  refine HG.out.mono ?_
  clear HG
  rintro e w2 ⟨rfl, hb2⟩
  have hq2 := HQ1.out.keep hb2
  have hq3 := hq2.keep ((Below.refl w2.heap.size w2).alloc (Nat.le_refl _) (.cells #[.int .i64 1, .int .i64 1, .int .i64 7, .int .i64 5, .int .i64 0, .int .i64 43, .int .i64 0, .int .i64 0, .int .i64 0, .int .i64 0, .int .i64 0] 84))
  have hc2 := (HC.out.below hb2 (Nat.le_refl _)).alloc (.cells #[.int .i64 1, .int .i64 1, .int .i64 7, .int .i64 5, .int .i64 0, .int .i64 43, .int .i64 0, .int .i64 0, .int .i64 0, .int .i64 0, .int .i64 0] 84)
  obtain ⟨g1', o1', ee, hcell⟩ := Bytes.openq hc2 (by rw [putS_len List.length_replicate (encL_len _) (by omega)]; omega)
  cases ee
  have x64 := hcell 64 1 aw64
  have x66 := hcell 66 7 aw66
  rw [Nat.zero_add] at x64 x66
  obtain ⟨f0, f1, f2, f3, f4, f5, f6, f7, f8, f9, f10, -, -⟩ := hq3.1.facts
  obtain ⟨y0, y1, y2, y3, y4, y5, y6, y7, y8, y9, y10, -, -⟩ := (BoxN.new w2 nodA).facts
  simp only [nodA] at f0 f1 f2 f3 f4 f5 f6 f7 f8 f9 f10 y0 y1 y2 y3 y4 y5 y6 y7 y8 y9 y10
  have hE := HE.out
  have h82 := H82.out
  have hs := soundN_any nodA
  rw [nodA_sound] at hs
  have HS := hid hs
  have HST := hid (fun W => stat_any 4 nodA W)
  have HQ3 := hid hq3
  clear hs hcell hq3 hq2 hb2 hc2
  simp only [nodA]
  go_wp2_with fail
  refine (HS.out _).mono ?_
  clear f0 f1 f2 f3 f4 f5 f6 f7 f8 f9 f10 y0 y1 y2 y3 y4 y5 y6 y7 y8 y9 y10 hE h82 x64 x66
  rintro e w3 ⟨rfl, hb3⟩
  have hq4 := HQ3.out.keep hb3
  obtain ⟨f0, f1, f2, f3, f4, f5, f6, f7, f8, f9, f10, -, -⟩ := hq4.1.facts
  simp only [nodA] at f0 f1 f2 f3 f4 f5 f6 f7 f8 f9 f10
  go_wp2_with fail
  refine (HST.out _).mono ?_
  clear f0 f1 f2 f3 f4 f5 f6 f7 f8 f9 f10
  rintro e w4 ⟨rfl, hb4⟩
  have hq5 := hq4.keep hb4
  simp only [nodA]
  have hfd : ∀ W, (Instr.field 89 (.agg #[.int .i64 4, .int .i64 7, .int .i64 1, .int .i64 1, .int .i64 5, .int .i64 0]) 0).run Try.prog W = .ok (.agg #[.int .i64 4, .int .i64 7]) W := fun _ => rfl
  go_wp2
  go_ret
  exact ⟨rfl, hq5.2⟩
end Go.Proofs.Ytppbcdcmpcagdaa
