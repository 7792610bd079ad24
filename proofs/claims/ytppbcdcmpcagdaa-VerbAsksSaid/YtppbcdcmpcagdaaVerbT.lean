/- Contracts of package verb: right. -/
import Derived.Test.YtppbcdcmpcagdaaVerbR
namespace Go.Proofs.Ytppbcdcmpcagdaa
open Go.RowKit Go.CP

theorem long_any (s : List UInt8) (w : World) : Calls Try.prog 185 #[.string (bstr s)] w fun e w' => e = .returned (.bool (decide (24 < s.length))) ∧ w' = w := by
  go_enter Try.func185, Try.ntmps185
  go_wp2
  go_ret
  exact ⟨ret_bool (by simp; omega), rfl⟩
def anyLong (l : List (List UInt8)) : Bool := l.any fun s => decide (24 < s.length)
theorem anyLong_snoc {l : List (List UInt8)} {i : Nat} {s : List UInt8} (h : l[i]? = some s) : anyLong (l.take (i + 1)) = (anyLong (l.take i) || decide (24 < s.length)) := by
  rw [take_snoc h]; simp [anyLong]
set_option maxRecDepth 100000 in
theorem indexS_any (A : Option Addr) (l : List (List UInt8)) (c : Nat) (w : World) (ha : Strs w A l) (hl : l.length ≤ 100000) :
    Calls Try.prog 189 #[.slice A l.length c, .func (.func 185) #[] #[]] w fun e w' => ∃ r : Int, e = .returned (.int .i64 r) ∧ Hid (decide (0 ≤ r) = anyLong l) ∧ w' = w := by
  have hli : (l.length : Int) ≤ 100000 := by omega
  have HA := hid ha
  clear ha
  go_enter Try.func189, Try.ntmps189
  go_wp2_with fail
  go_loop [8] (fun iv => ∃ i : Nat, i ≤ l.length ∧ iv = .int .i64 i ∧ Hid (anyLong (l.take i) = false)) (fun iv => l.length - (intOf iv).toNat)
  case atStart => exact ⟨0, by omega, rfl, by exact hid rfl⟩
  case round =>
    obtain ⟨i, hi, rfl, HE⟩ := hrel
    by_cases hlt : i < l.length
    · obtain ⟨s, hs⟩ := get_of_lt l hlt
      obtain ⟨b, off, rfl, hc⟩ := Strs.at HA.out hs
      have HS := hid hs
      have hii : (i : Int) < (l.length : Int) := by omega
      obtain ⟨q, hq⟩ : ∃ q, decide (24 < s.length) = q := ⟨_, rfl⟩
      have hcall := long_any s
      rw [hq] at hcall
      have HC := hid hcall
      have HQ := hid hq
      clear hs hcall hq
      cases q with
      | true =>
        go_wp2_with fail
        refine (HC.out _).mono ?_
        rintro e w2 ⟨rfl, rfl⟩
        go_wp2_with fail
        go_ret
        refine ⟨_, rfl, hid ?_, rfl⟩
        have : anyLong l = true := List.any_eq_true.2 ⟨s, List.mem_of_getElem? HS.out, HQ.out⟩
        rw [this]
        simp
      | false =>
        go_wp2_with fail
        refine (HC.out _).mono ?_
        rintro e w2 ⟨rfl, rfl⟩
        go_wp2_with fail
        go_round
        case rel => exact ⟨i + 1, by omega, by go_num, hid (by rw [anyLong_snoc HS.out, HE.out, HQ.out]; rfl)⟩
        case measure => simp [intOf]; omega
    · have hk : i = l.length := by omega
      have HK := hid hk
      have hik : ¬ (i : Int) < (l.length : Int) := by omega
      clear hk
      go_wp2_with fail
      go_ret
      refine ⟨_, rfl, hid ?_, rfl⟩
      have h := HE.out
      rw [HK.out, List.take_length] at h
      rw [h]
      rfl
theorem containsS_any (A : Option Addr) (l : List (List UInt8)) (c : Nat) (w : World) (ha : Strs w A l) (hl : l.length ≤ 100000) :
    Calls Try.prog 184 #[.slice A l.length c, .func (.func 185) #[] #[]] w fun e w' => e = .returned (.bool (anyLong l)) ∧ w' = w := by
  have HC := hid (indexS_any A l c w ha hl)
  go_enter Try.func184, Try.ntmps184
  go_wp2_with fail
  refine HC.out.mono ?_
  rintro e w1 ⟨r, rfl, hr, rfl⟩
  go_wp2
  go_ret
  exact ⟨ret_bool hr.out, rfl⟩
/-- A reply's cells. -/
def rcells (r : Rp) (A : Option Addr) (c : Nat) (B : Option Addr) (cb : Nat) : List Value :=
  [.int .i64 r.life, .int .i64 r.seq, .int .i64 r.epoch, .int .i64 r.err, .int .i64 r.node, .int .i64 r.gen, .int .i64 r.kind, .int .i64 r.links, .int .i64 r.size, .int .i64 r.change, .slice A r.data.length c, .slice B r.names.length cb]
def rval (r : Rp) (A : Option Addr) (c : Nat) (B : Option Addr) (cb : Nat) : Value := .agg (rcells r A c B cb).toArray
def nineL (r : Rp) : List Int := r.stat ++ [r.life, r.seq, r.epoch]
def midR (r : Rp) : Bool := decide (0 ≤ r.err) && decide (r.err ≤ 23) && decide (r.data.length ≤ 256) && decide (r.names.length ≤ 512)
theorem goodR_eq (r : Rp) : goodR r = ((nineL r).all numB && midR r && !anyLong r.names) := by
  have h : (r.names.all fun s => decide (s.length ≤ 24)) = !anyLong r.names := by
    rw [anyLong, Bool.eq_iff_iff]
    simp
  rw [goodR, h, midR, nineL]
  simp only [Bool.and_assoc]
set_option maxHeartbeats 4000000 in
set_option maxRecDepth 100000 in
theorem right_any (r : Rp) (A : Option Addr) (c : Nat) (B : Option Addr) (cb : Nat) (w : World) (hn : r.names.length ≤ 512 → Strs w B r.names) : Calls Try.prog 158 #[rval r A c B cb] w fun e w' => e = .returned (.bool (goodR r)) ∧ Below w.heap.size w w' := by
  have HN := hid hn
  have HG := hid (goodR_eq r)
  have HBW : Hid (Below w.heap.size w (w.alloc (.cells (rcells r A c B cb).toArray 112))) := hid ((Below.refl _ _).alloc (Nat.le_refl _) _)
  obtain ⟨gr, hgr⟩ : ∃ gr, goodR r = gr := ⟨_, rfl⟩
  rw [hgr] at HG ⊢
  obtain ⟨l, hl⟩ : ∃ l, nineL r = l := ⟨_, rfl⟩
  have HLL : Hid (l.length = 9) := hid (by rw [← hl]; rfl)
  obtain ⟨md, hmd⟩ : ∃ md, midR r = md := ⟨_, rfl⟩
  have HMD := hid hmd
  rw [hl, hmd] at HG
  have HL := hid hl
  clear hn hgr hl hmd
  obtain ⟨life, seq, epoch, err, node, gen, kind, links, size, change, data, names⟩ := r
  have HX : Hid (Blk (w.alloc (.cells (rcells ⟨life, seq, epoch, err, node, gen, kind, links, size, change, data, names⟩ A c B cb).toArray 112)) w.heap.size 112 (rcells ⟨life, seq, epoch, err, node, gen, kind, links, size, change, data, names⟩ A c B cb)) := hid (Blk.new w 112 _)
  simp only [rval, rcells] at HBW HX ⊢
  have HST := hid (fun W => vstat_any node gen kind links size change W)
  go_enter Try.func158, Try.ntmps158
  go_wp2_with fail
  generalize hW0 : w.alloc (.cells #[.int .i64 life, .int .i64 seq, .int .i64 epoch, .int .i64 err, .int .i64 node, .int .i64 gen, .int .i64 kind, .int .i64 links, .int .i64 size, .int .i64 change, .slice A data.length c, .slice B names.length cb] 112) = W0 at HBW HX ⊢
  have hz0 : W0.heap.size = w.heap.size + 1 := by rw [← hW0]; simp
  have HZ0 := hid hz0
  have hkeep : ∀ W, Below W0.heap.size W0 W → W.cell? ⟨w.heap.size, 0, none⟩ = some (.int .i64 life) ∧ W.cell? ⟨w.heap.size, 1, none⟩ = some (.int .i64 seq) ∧ W.cell? ⟨w.heap.size, 2, none⟩ = some (.int .i64 epoch) ∧ W.cell? ⟨w.heap.size, 4, none⟩ = some (.int .i64 node) ∧ W.cell? ⟨w.heap.size, 5, none⟩ = some (.int .i64 gen) ∧ W.cell? ⟨w.heap.size, 6, none⟩ = some (.int .i64 kind) ∧ W.cell? ⟨w.heap.size, 7, none⟩ = some (.int .i64 links) ∧ W.cell? ⟨w.heap.size, 8, none⟩ = some (.int .i64 size) ∧ W.cell? ⟨w.heap.size, 9, none⟩ = some (.int .i64 change) := fun W hb => by
    have hx := HX.out.below hb
    exact ⟨hx.cell (j := 0) rfl, hx.cell (j := 1) rfl, hx.cell (j := 2) rfl, hx.cell (j := 4) rfl, hx.cell (j := 5) rfl, hx.cell (j := 6) rfl, hx.cell (j := 7) rfl, hx.cell (j := 8) rfl, hx.cell (j := 9) rfl⟩
  have HK := hid hkeep
  clear hW0 hz0 hkeep
  go_region_held3 (fun W => W.cell? ⟨w.heap.size, 0, none⟩ = some (.int .i64 life) ∧ W.cell? ⟨w.heap.size, 1, none⟩ = some (.int .i64 seq) ∧ W.cell? ⟨w.heap.size, 2, none⟩ = some (.int .i64 epoch) ∧ W.cell? ⟨w.heap.size, 4, none⟩ = some (.int .i64 node) ∧ W.cell? ⟨w.heap.size, 5, none⟩ = some (.int .i64 gen) ∧ W.cell? ⟨w.heap.size, 6, none⟩ = some (.int .i64 kind) ∧ W.cell? ⟨w.heap.size, 7, none⟩ = some (.int .i64 links) ∧ W.cell? ⟨w.heap.size, 8, none⟩ = some (.int .i64 size) ∧ W.cell? ⟨w.heap.size, 9, none⟩ = some (.int .i64 change))
    (first | exact HK.out _ (Below.drew (Below.refl _ _)) | exact HK.out _ hk5 | exact HK.out _ (Below.alloc hk3 hk3.size _) | exact HK.out _ hk3 | exact HK.out _ (Below.alloc (Below.drew (Below.refl _ _)) (Nat.le_refl _) _) | assumption)
    (first
      | (go_at_call 159; refine (HST.out _).mono ?_; rintro e w3 ⟨A3, c3, m3, rfl, HR3⟩; have hk3 : Below W0.heap.size W0 w3 := below_t (by first | exact Below.drew (Below.refl _ _) | exact Below.alloc (Below.drew (Below.refl _ _)) (Nat.le_refl _) _) HR3.out.2.2 (by simp); obtain rfl : m3 = [node, gen, kind, links, size, change] := HR3.out.1)
      | ((refine vst_ints (by rfl) _ _ 130 (by rfl) _ (by rfl) (HR3.out.2.1.alloc _) (by rfl) (Src.ints (l := [life, seq, epoch]) Try.underlying130 (ints_lit w3 [life, seq, epoch] 3)) (by simp) (by have := HR3.out.2.2.size; simp at this ⊢; omega) ?_; intro Y cy w5 ho5 hg5; have hk5 : Below W0.heap.size W0 w5 := Below.grown (Below.alloc hk3 hk3.size _) hg5 (by have := hk3.size; simp; omega) (fun j hj => by have := (HR3.out.2.1.block j hj).1; simp at this; omega)))
      | ((refine vst_ints (by rfl) _ _ 130 (by rfl) _ (by rfl) HR3.out.2.1 (by rfl) (Src.ints (l := [life, seq, epoch]) Try.underlying130 (Cells.below (ints_lit W0.drew [life, seq, epoch] 3) HR3.out.2.2 (Nat.le_refl _))) (by simp) (by exact HR3.out.2.2.size) ?_; intro Y cy w5 ho5 hg5; have hk5 : Below W0.heap.size W0 w5 := Below.grown hk3 hg5 hk3.size (fun j hj => by have := (HR3.out.2.1.block j hj).1; simp at this; omega))))
  all_goals
    have hI : Ints w5 Y l := by
      have h := ho5.cells
      rw [← HL.out]
      exact h
    obtain ⟨g5, C5, rfl, -⟩ := ho5.open (by simp)
    have HI : Hid (∀ i n, l[i]? = some n → w5.cell? ⟨g5, i, none⟩ = some (.int .i64 n)) := hid (fun i n h => by
      obtain ⟨b, off, e, k⟩ := Ints.atq hI h
      cases e
      rw [Nat.zero_add] at k
      exact k)
    have HX5 := hid (HX.out.below hk5)
    have HB5 := hid (below_t HBW.out hk5 HBW.out.size)
    clear hI ho5 hg5 hk5 hk3 HR3 HK HST HX HBW HZ0
    go_wp2_with fail
    go_loop [17] (fun jv => ∃ i : Nat, i ≤ 9 ∧ jv = .int .i64 i ∧ Hid ((l.take i).all numB = true)) (fun jv => 9 - (intOf jv).toNat)
    case atStart => exact ⟨0, by omega, rfl, hid rfl⟩
    case round =>
      obtain ⟨i, hi, rfl, HA⟩ := hrel
      by_cases hlt : i < 9
      · obtain ⟨n, hn⟩ := get_of_lt l (i := i) (by rw [HLL.out]; exact hlt)
        have hc := HI.out i n hn
        have HNN := hid hn
        have hii : (i : Int) < 9 := by omega
        clear hn
        cases hnb : numB n with
        | false =>
          have HNB := hid hnb
          have hcall := vnumber_any n
          rw [hnb] at hcall
          have HC := hid hcall
          clear hnb hcall
          go_wp2_with fail
          refine (HC.out _).mono ?_
          rintro e w2 ⟨rfl, rfl⟩
          go_wp2_with fail
          go_ret
          refine ⟨ret_bool ?_, HB5.out⟩
          rw [HG.out, List.all_eq_false.2 ⟨n, List.mem_of_getElem? HNN.out, by rw [HNB.out]; decide⟩]
          rfl
        | true =>
          have HNB := hid hnb
          have hcall := vnumber_any n
          rw [hnb] at hcall
          have HC := hid hcall
          clear hnb hcall
          go_wp2_with fail
          refine (HC.out _).mono ?_
          rintro e w2 ⟨rfl, rfl⟩
          go_wp2_with fail
          go_round
          case rel =>
            refine ⟨True.intro, ?_⟩
            (repeat apply Exists.intro)
            exact ⟨⟨i + 1, by omega, by go_num, hid (by rw [take_snoc HNN.out, List.all_append, HA.out]; simp [HNB.out])⟩, rfl⟩
          case measure => simp [intOf]; omega
      · have hk : i = 9 := by omega
        have hik : ¬ (i : Int) < 9 := by omega
        have HALL : Hid (l.all numB = true) := hid (by have h := HA.out; rw [hk, List.take_of_length_le (by rw [HLL.out]; exact Nat.le_refl _)] at h; exact h)
        clear hk HI HA
        have c3 := HX5.out.cell (j := 3) (u := .int .i64 err) rfl
        have c10 := HX5.out.cell (j := 10) (u := .slice A data.length c) rfl
        have c11 := HX5.out.cell (j := 11) (u := .slice B names.length cb) rfl
        cases md with
        | false =>
          have HGF : Hid (gr = false) := hid (by rw [HG.out]; simp)
          have hnm : ¬ (0 ≤ err ∧ err ≤ 23 ∧ (data.length : Int) ≤ 256 ∧ (names.length : Int) ≤ 512) := fun h => by
            have := HMD.out
            simp [midR] at this
            omega
          have HNM := hid hnm
          clear hnm
          go_wp2_with fail
          all_goals first
            | (exact absurd (by omega) HNM.out; done)
            | (go_ret; exact ⟨ret_bool (by rw [HGF.out]), HB5.out⟩)
        | true =>
          have hm : 0 ≤ err ∧ err ≤ 23 ∧ (data.length : Int) ≤ 256 ∧ (names.length : Int) ≤ 512 := by
            have := HMD.out
            simp [midR] at this
            omega
          have q1 : decide (err < 0) = false := by simp; omega
          have q2 : decide (23 < err) = false := by simp; omega
          have q3 : decide (256 < (data.length : Int)) = false := by simp; omega
          have q4 : decide (512 < (names.length : Int)) = false := by simp; omega
          have HC := hid (containsS_any B names cb w5 (Cells.below (HN.out (by omega)) HB5.out (Nat.le_refl _)) (by omega))
          have HGT : Hid (gr = !anyLong names) := hid (by rw [HG.out, HALL.out]; simp)
          clear hm
          go_wp2_with fail
          refine HC.out.mono ?_
          rintro e w6 ⟨rfl, hw6⟩
          rw [hw6]
          clear hw6 HC
          go_wp2_with fail
          go_ret
          exact ⟨ret_bool (by rw [HGT.out]), HB5.out⟩
end Go.Proofs.Ytppbcdcmpcagdaa
