/- Contract of package verb: Answer, whole. -/
import Derived.Test.YtppbcdcmpcagdaaVerbE
namespace Go.Proofs.Ytppbcdcmpcagdaa
open Go.RowKit Go.CP

set_option maxHeartbeats 8000000 in
set_option maxRecDepth 100000 in
theorem ans_ok (r : Rp) (A : Option Addr) (c : Nat) (B : Option Addr) (cb : Nat) (w : World) (hd : Bytes w A r.data) (hn : Strs w B r.names) (h : goodR r = true) : Calls Try.prog 87 #[rval r A c B cb] w fun e w' =>
    ∃ A c m, e = .returned (.tuple #[.slice A (List.length m) c, .int .i64 0]) ∧ Hid (m = frameL 65 (ansL r) ∧ Go.CP.Own w' w.heap.size 5 1 A m.length c (m.map bv) ∧ Below w.heap.size w w') := by
  have hg := fun W (hb : Below w.heap.size w W) => right_any r A c B cb W (fun _ => Cells.below hn hb (Nat.le_refl _))
  rw [h] at hg
  have HBW : Hid (Below w.heap.size w (w.alloc (.cells (rcells r A c B cb).toArray 112))) := hid ((Below.refl _ _).alloc (Nat.le_refl _) _)
  have HG := hid (fun (_ : Unit) => hg (w.alloc (.cells (rcells r A c B cb).toArray 112)) HBW.out)
  have HF := hid (goodR_facts h)
  have HAL := hid (ansL_len h)
  have HD := hid hd
  have HN := hid hn
  have HS : Hid (ansL r = (([] ++ numsL r.heads ++ numsL r.stat) ++ textsL [r.data] ++ numsL [(r.names.length : Int)]) ++ textsL r.names) := hid (by simp [ansL, numsL_app, textsL])
  obtain ⟨an, han⟩ : ∃ an, ansL r = an := ⟨_, rfl⟩
  rw [han] at HS HAL ⊢
  clear hg h hn hd han
  obtain ⟨life, seq, epoch, err, node, gen, kind, links, size, change, data, names⟩ := r
  have HX : Hid (Blk (w.alloc (.cells (rcells ⟨life, seq, epoch, err, node, gen, kind, links, size, change, data, names⟩ A c B cb).toArray 112)) w.heap.size 112 (rcells ⟨life, seq, epoch, err, node, gen, kind, links, size, change, data, names⟩ A c B cb)) := hid (Blk.new w 112 _)
  simp only [rval, rcells] at HBW HX HG ⊢
  have HST := hid (fun W => vstat_any node gen kind links size change W)
  have HN1 := hid (fun W => nums_any W.heap.size none [] 0 (some ⟨W.heap.size, 0, none⟩) [life, seq, epoch, err] 4 (W.alloc (.cells (List.map iv [life, seq, epoch, err]).toArray 3)) (Go.CP.Own.none _ _ _ _) (by simp) (ints_lit W [life, seq, epoch, err] 3) (fun n hn => by have := HF.out.1 n (by simp [Rp.heads, Rp.stat] at hn ⊢; omega); omega) (by simp) (by simp))
  simp only [List.map_cons, List.map_nil, iv] at HN1
  go_enter Try.func87, Try.ntmps87
  go_wp2_with fail
  refine (HG.out ()).mono ?_
  rintro e w1 ⟨rfl, hb1⟩
  have HX1 := hid (HX.out.below hb1)
  have HB1 := hid (below_t HBW.out hb1 (by simp))
  have hkeep : ∀ W, Below w1.heap.size w1 W → W.cell? ⟨w.heap.size, 0, none⟩ = some (.int .i64 life) ∧ W.cell? ⟨w.heap.size, 1, none⟩ = some (.int .i64 seq) ∧ W.cell? ⟨w.heap.size, 2, none⟩ = some (.int .i64 epoch) ∧ W.cell? ⟨w.heap.size, 3, none⟩ = some (.int .i64 err) ∧ W.cell? ⟨w.heap.size, 4, none⟩ = some (.int .i64 node) ∧ W.cell? ⟨w.heap.size, 5, none⟩ = some (.int .i64 gen) ∧ W.cell? ⟨w.heap.size, 6, none⟩ = some (.int .i64 kind) ∧ W.cell? ⟨w.heap.size, 7, none⟩ = some (.int .i64 links) ∧ W.cell? ⟨w.heap.size, 8, none⟩ = some (.int .i64 size) ∧ W.cell? ⟨w.heap.size, 9, none⟩ = some (.int .i64 change) := fun W hb => by
    have hx := HX1.out.below hb
    exact ⟨hx.cell (j := 0) rfl, hx.cell (j := 1) rfl, hx.cell (j := 2) rfl, hx.cell (j := 3) rfl, hx.cell (j := 4) rfl, hx.cell (j := 5) rfl, hx.cell (j := 6) rfl, hx.cell (j := 7) rfl, hx.cell (j := 8) rfl, hx.cell (j := 9) rfl⟩
  have HK := hid hkeep
  clear hb1 hkeep HX HBW HG
  go_wp2_with fail
  go_region_held3 (fun W => W.cell? ⟨w.heap.size, 0, none⟩ = some (.int .i64 life) ∧ W.cell? ⟨w.heap.size, 1, none⟩ = some (.int .i64 seq) ∧ W.cell? ⟨w.heap.size, 2, none⟩ = some (.int .i64 epoch) ∧ W.cell? ⟨w.heap.size, 3, none⟩ = some (.int .i64 err) ∧ W.cell? ⟨w.heap.size, 4, none⟩ = some (.int .i64 node) ∧ W.cell? ⟨w.heap.size, 5, none⟩ = some (.int .i64 gen) ∧ W.cell? ⟨w.heap.size, 6, none⟩ = some (.int .i64 kind) ∧ W.cell? ⟨w.heap.size, 7, none⟩ = some (.int .i64 links) ∧ W.cell? ⟨w.heap.size, 8, none⟩ = some (.int .i64 size) ∧ W.cell? ⟨w.heap.size, 9, none⟩ = some (.int .i64 change))
    (first | exact HK.out _ (Below.drew (Below.refl _ _)) | exact HK.out _ (Below.alloc (Below.drew (Below.refl _ _)) (Nat.le_refl _) _) | exact HK.out _ hk2 | exact HK.out _ hk3 | exact HK.out _ hk4 | assumption)
    (first
      | (go_at_call_of 146 (Value.slice none 0 0); refine (HN1.out w1.drew).mono ?_; rintro e w2 ⟨A2, c2, m2, rfl, HR2⟩; have hk2 : Below w1.heap.size w1 w2 := below_t (Below.alloc (Below.drew (Below.refl _ _)) (Nat.le_refl _) _) HR2.out.2.2 (by simp))
      | (go_at_call 159; refine (HST.out w2).mono ?_; rintro e w3 ⟨A3, c3, m3, rfl, HR3⟩; have hk3 : Below w1.heap.size w1 w3 := below_t hk2 HR3.out.2.2 hk2.size; obtain rfl : m3 = [node, gen, kind, links, size, change] := HR3.out.1)
      | (go_at_call 146; refine (nums_any w1.heap.size A2 m2 c2 A3 [node, gen, kind, links, size, change] c3 w3 ((HR2.out.2.1.below HR3.out.2.2 (Nat.le_refl _)).mono (by simp)) hk3.size HR3.out.2.1.cells (fun n hn => by have := HF.out.1 n (by simp [Rp.heads, Rp.stat] at hn ⊢; omega); omega) (by rw [HR2.out.1]; simp [numsL_len]) (by simp)).mono ?_; rintro e w4 ⟨A4, c4, m4, rfl, HR4⟩; have hk4 : Below w1.heap.size w1 w4 := below_t hk3 HR4.out.2.2 hk3.size))
  have HB4 := hid (below_t HB1.out hk4 HB1.out.size)
  have HX4 := hid (HX1.out.below hk4)
  have HO4 := hid (HR4.out.2.1.mono (base' := w.heap.size) HB1.out.size)
  have HM4 : Hid (m4 = [] ++ numsL [life, seq, epoch, err] ++ numsL [node, gen, kind, links, size, change] ∧ m4.length = 40) := hid (by
    have : m4 = [] ++ numsL [life, seq, epoch, err] ++ numsL [node, gen, kind, links, size, change] := by rw [HR4.out.1, HR2.out.1]
    exact ⟨this, by rw [this]; simp [numsL_len]⟩)
  have HLE : Hid (data.length ≤ 256 ∧ names.length ≤ 512 ∧ ∀ s ∈ names, s.length ≤ 24) := hid HF.out.2
  clear hk2 hk3 hk4 HR2 HR3 HR4 HK HN1 HST HX1 HB1
  have hk : ∀ Wc, Below w4.heap.size w4 Wc → Wc.cell? ⟨w.heap.size, 10, none⟩ = some (.slice A data.length c) ∧ Wc.cell? ⟨w.heap.size, 11, none⟩ = some (.slice B names.length cb) ∧ Below w4.heap.size w4 Wc := fun Wc hb => by
    have hx := HX4.out.below hb
    exact ⟨hx.cell (j := 10) rfl, hx.cell (j := 11) rfl, hb⟩
  have HK := hid hk
  have hcv := fun Wc (hW : Wc.cell? ⟨w.heap.size, 10, none⟩ = some (.slice A data.length c) ∧ Wc.cell? ⟨w.heap.size, 11, none⟩ = some (.slice B names.length cb) ∧ Below w4.heap.size w4 Wc) => cv_bytes c (HD.out.below (below_t HB4.out hW.2.2 HB4.out.size) (Nat.le_refl _))
  have HT : Hid (∀ W (P : Option Addr), Below w4.heap.size w4 W → Strs W P [data] → Calls Try.prog 147 #[.slice A4 m4.length c4, .slice P 1 1] W (RetB W w.heap.size (m4 ++ textsL [data]))) := hid (fun W P hb hs => texts_any w.heap.size A4 m4 c4 P [data] 1 W (HO4.out.below hb (Nat.le_refl _)) (Nat.le_trans HB4.out.size hb.size) hs (fun s hs => by simp at hs; subst hs; have := HLE.out.1; omega) (by rw [HM4.out.2]; decide) (by simp))
  have HU : Hid (∀ W (Q : Option Addr) (q : Nat) (m : List UInt8) (P : Option Addr), Go.CP.Own W w.heap.size 5 1 Q m.length q (m.map bv) → w.heap.size ≤ W.heap.size → m.length ≤ 1000 → Ints W P [(names.length : Int)] → Calls Try.prog 146 #[.slice Q m.length q, .slice P 1 1] W (RetB W w.heap.size (m ++ numsL [(names.length : Int)]))) := hid (fun W Q q m P ho hb hm hs => nums_any w.heap.size Q m q P [(names.length : Int)] 1 W ho hb hs (fun n hn => by simp at hn; subst hn; have := HLE.out.2.1; omega) (by omega) (by simp))
  clear hk
  go_wp2_with fail
  go_region_held3 (fun Wc => Wc.cell? ⟨w.heap.size, 10, none⟩ = some (.slice A data.length c) ∧ Wc.cell? ⟨w.heap.size, 11, none⟩ = some (.slice B names.length cb) ∧ Below w4.heap.size w4 Wc)
    (first
      | exact HK.out _ (Below.drew (Below.refl _ _))
      | exact HK.out _ (Below.alloc (Below.drew (Below.refl _ _)) (Nat.le_refl _) _)
      | exact HK.out _ (Below.alloc (Below.alloc (Below.drew (Below.refl _ _)) (Nat.le_refl _) _) (by simp) _)
      | exact HK.out _ hk6
      | exact HK.out _ (Below.alloc hk5 hk5.size _)
      | exact HK.out _ hk5
      | assumption)
    (first
      | (go_at_call 147; refine (HT.out _ _ (by first | exact Below.alloc (Below.drew (Below.refl _ _)) (Nat.le_refl _) _ | exact Below.alloc (Below.alloc (Below.drew (Below.refl _ _)) (Nat.le_refl _) _) (by simp) _) (by first | exact strs_lit w4.drew [data] 9 | (have hs := strs_lit (w4.drew.alloc (.cells #[.int .i64 (names.length : Int)] 3)) [data] 9; rw [World.size_alloc] at hs; exact hs) | exact Cells.alloc (strs_lit w4.drew [data] 9) _)).mono ?_; rintro e w5 ⟨A5, c5, m5, rfl, HR5⟩; have hk5 : Below w4.heap.size w4 w5 := below_t (by first | exact Below.alloc (Below.drew (Below.refl _ _)) (Nat.le_refl _) _ | exact Below.alloc (Below.alloc (Below.drew (Below.refl _ _)) (Nat.le_refl _) _) (by simp) _) HR5.out.2.2 (by simp; try omega))
      | (go_at_call 146; refine (HU.out _ A5 c5 m5 _ (by first | exact HR5.out.2.1 | exact HR5.out.2.1.alloc _) (by first | exact Nat.le_trans HB4.out.size hk5.size | (simp; exact Nat.le_succ_of_le (Nat.le_trans HB4.out.size hk5.size))) (by rw [HR5.out.1]; simp [textsL, textL_len, HM4.out.2]; have := HLE.out.1; omega) (by first | exact ints_lit w5 [(names.length : Int)] 3 | exact Cells.below (Cells.alloc (ints_lit w4.drew [(names.length : Int)] 3) _) HR5.out.2.2 (Nat.le_refl _) | (have hs := Cells.below (ints_lit (w4.drew.alloc (.cells #[.string (bstr data)] 9)) [(names.length : Int)] 3) HR5.out.2.2 (Nat.le_refl _); rw [World.size_alloc] at hs; exact hs))).mono ?_; rintro e w6 ⟨A6, c6, m6, rfl, HR6⟩; have hk6 : Below w4.heap.size w4 w6 := below_t (by first | exact hk5 | exact Below.alloc hk5 hk5.size _) HR6.out.2.2 (by first | exact hk5.size | (simp; exact Nat.le_succ_of_le hk5.size))))
  all_goals
    have HX6 := hid (HX4.out.below hk6)
    have HB6 := hid (below_t HB4.out hk6 HB4.out.size)
    have HM6 : Hid (m6 = ([] ++ numsL [life, seq, epoch, err] ++ numsL [node, gen, kind, links, size, change]) ++ textsL [data] ++ numsL [(names.length : Int)]) := hid (by rw [HR6.out.1, HR5.out.1, HM4.out.1])
    have hm6 : m6.length ≤ 1000 := by rw [HM6.out]; simp [numsL_len, textsL, textL_len]; have := HLE.out.1; omega
    have HTX := hid (texts_any w.heap.size A6 m6 c6 B names cb w6 HR6.out.2.1 HB6.out.size (HN.out.below HB6.out (Nat.le_refl _)) (fun s hs => by have := HLE.out.2.2 s hs; omega) (by omega) (by have := HLE.out.2.1; omega))
    have x11 := HX6.out.cell (j := 11) (u := .slice B names.length cb) rfl
    clear hcv hk5 hk6 HR5 HR6 HT HU HK hm6
    go_wp2_with fail
    refine HTX.out.mono ?_
    clear HTX
    rintro e w7 ⟨A7, c7, m7, rfl, HR7⟩
    have HM7 : Hid (m7 = an) := hid (by rw [HR7.out.1, HM6.out, HS.out]; rfl)
    have HFR := hid (frame_ok 65 A7 m7 c7 w7 HR7.out.2.1.cells (by rw [HM7.out]; have := HAL.out; omega))
    have HB7 := hid (below_t HB6.out HR7.out.2.2 HB6.out.size)
    clear HR7 x11
    go_wp2_with fail
    refine HFR.out.mono ?_
    clear HFR
    rintro e w8 ⟨A8, c8, rfl, ho8, hb8⟩
    have HR8 : Hid (frameL 65 m7 = frameL 65 an ∧ Go.CP.Own w8 w.heap.size 5 1 A8 (frameL 65 m7).length c8 ((frameL 65 m7).map bv) ∧ Below w.heap.size w w8) := hid ⟨by rw [HM7.out], by rw [frameL_len]; exact ho8.mono HB7.out.size, below_t HB7.out hb8 HB7.out.size⟩
    clear ho8 hb8
    go_wp2_with fail
    go_ret2
    exact ⟨A8, c8, frameL 65 m7, by rw [frameL_len]; rfl, HR8⟩
/-- What Answer hands back. -/
def RetAns (r : Rp) (w : World) (e : Ending) (w' : World) : Prop :=
  (goodR r = true ∧ ∃ A c m, e = .returned (.tuple #[.slice A (List.length m) c, .int .i64 0]) ∧ Hid (m = frameL 65 (ansL r) ∧ Go.CP.Own w' w.heap.size 5 1 A m.length c (m.map bv) ∧ Below w.heap.size w w')) ∨
  (goodR r = false ∧ e = .returned (.tuple #[.slice none 0 0, .int .i64 2]) ∧ Hid (Below w.heap.size w w'))
theorem ans_any (r : Rp) (A : Option Addr) (c : Nat) (B : Option Addr) (cb : Nat) (w : World) (hd : Bytes w A r.data) (hn : Strs w B r.names) : Calls Try.prog 87 #[rval r A c B cb] w (RetAns r w) := by
  cases h : goodR r with
  | true => exact (ans_ok r A c B cb w hd hn h).mono fun e w' k => .inl ⟨h, k⟩
  | false => exact (ans_err r A c B cb w hn h).mono fun e w' k => .inr ⟨h, k.1, hid k.2⟩
theorem short_any (r : Rp) (A : Option Addr) (c : Nat) (B : Option Addr) (cb : Nat) (w : World) (hn : Strs w B r.names) : Calls Try.prog 94 #[rval r A c B cb] w (RetB w w.heap.size (shortL r)) := by
  cases h : goodR r with
  | true => exact short_ok r A c B cb w hn h
  | false => exact (short_err r A c B cb w hn h).mono fun e w' k => ⟨none, 0, [], k.1, hid ⟨by rw [shortL, h]; rfl, Go.CP.Own.none _ _ _ _, k.2⟩⟩
end Go.Proofs.Ytppbcdcmpcagdaa
