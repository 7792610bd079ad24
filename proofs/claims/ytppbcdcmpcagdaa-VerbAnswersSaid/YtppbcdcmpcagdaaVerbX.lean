/- Contract of the reference of package verb: Answer. -/
import Derived.Test.YtppbcdcmpcagdaaVerbV
namespace Go.Proofs.Ytppbcdcmpcagdaa
open Go.RowKit Go.CP

set_option maxHeartbeats 8000000 in
set_option maxRecDepth 100000 in
theorem ranswer_ok (r : Rp) (A : Option Addr) (c : Nat) (B : Option Addr) (cb : Nat) (w : World) (hd : Bytes w A r.data) (hn : Strs w B r.names) (h : goodR r = true) : Calls Try.prog 88 #[rval r A c B cb] w fun e w' => e = .returned (.tuple #[.string (bstr (frameL 65 (ansL r))), .int .i64 0]) ∧ Below w.heap.size w w' := by
  have hg := fun W (hb : Below w.heap.size w W) => rright_any r A c B cb W (Cells.below hn hb (Nat.le_refl _))
  rw [h] at hg
  have HBW : Hid (Below w.heap.size w (w.alloc (.cells (rcells r A c B cb).toArray 112))) := hid ((Below.refl _ _).alloc (Nat.le_refl _) _)
  have HG := hid (fun (_ : Unit) => hg (w.alloc (.cells (rcells r A c B cb).toArray 112)) HBW.out)
  have HF := hid (goodR_facts h)
  have HD := hid hd
  have HN := hid hn
  have hal := ansL_len h
  have hfr := fun W => rframe_ok 65 (bstr (ansL r)) W (by rw [bstr_size]; omega)
  rw [show (bstr (ansL r)).data.toList = ansL r from rfl] at hfr
  have HFR := hid hfr
  have HAN : Hid ((numsL r.heads ++ (numsL r.stat ++ (textL r.data ++ little r.names.length 4))) ++ textsL r.names = ansL r) := hid (by simp [ansL, numsL])
  obtain ⟨an, han⟩ : ∃ an, ansL r = an := ⟨_, rfl⟩
  rw [han] at HAN HFR hal ⊢
  have HAL := hid hal
  clear hg h hn hd han hfr hal
  obtain ⟨life, seq, epoch, err, node, gen, kind, links, size, change, data, names⟩ := r
  have HX : Hid (Blk (w.alloc (.cells (rcells ⟨life, seq, epoch, err, node, gen, kind, links, size, change, data, names⟩ A c B cb).toArray 112)) w.heap.size 112 (rcells ⟨life, seq, epoch, err, node, gen, kind, links, size, change, data, names⟩ A c B cb)) := hid (Blk.new w 112 _)
  simp only [rval, rcells, Rp.stat, Rp.heads] at HBW HX HG HAN ⊢
  have hnl : names.length ≤ 512 := HF.out.2.2.1
  have hn1 : (numsL [life, seq, epoch, err]).length = 16 := by rw [numsL_len]; rfl
  have hn2 : (numsL [node, gen, kind, links, size, change]).length = 24 := by rw [numsL_len]; rfl
  have hn3 : (textL data).length ≤ 300 := by rw [textL_len]; have := HF.out.2.1; dsimp only at this; omega
  have hn4 : (little names.length 4).length = 4 := little_len _ _
  have HST := hid (fun W => rstat_any node gen kind links size change W)
  have HNS1 := hid (fun W => rvnums_any (some ⟨W.heap.size, 0, none⟩) [life, seq, epoch, err] 4 (W.alloc (.cells (List.map iv [life, seq, epoch, err]).toArray 3)) (ints_lit W [life, seq, epoch, err] 3) (fun n hn => by have := HF.out.1 n (by simp [Rp.heads, Rp.stat] at hn ⊢; omega); omega) (by simp))
  have HNS2 := hid (fun g W (hi : Ints W (some ⟨g, 0, none⟩) [node, gen, kind, links, size, change]) => rvnums_any (some ⟨g, 0, none⟩) [node, gen, kind, links, size, change] 6 W hi (fun n hn => by have := HF.out.1 n (by simp [Rp.heads, Rp.stat] at hn ⊢; omega); omega) (by simp))
  have HTX := hid (fun W => rtextV data W (by have := HF.out.2.1; dsimp only at this; omega))
  have hli := fun W => little_any names.length 4 W (by omega) (by omega)
  rw [show ((4 : Nat) : Int) = 4 from rfl] at hli
  have HLI := hid hli
  obtain ⟨N1, hN1⟩ : ∃ N, numsL [life, seq, epoch, err] = N := ⟨_, rfl⟩
  obtain ⟨N2, hN2⟩ : ∃ N, numsL [node, gen, kind, links, size, change] = N := ⟨_, rfl⟩
  obtain ⟨T, hT⟩ : ∃ T, textL data = T := ⟨_, rfl⟩
  obtain ⟨L, hL⟩ : ∃ L, little names.length 4 = L := ⟨_, rfl⟩
  rw [hN1] at hn1 HNS1 HAN
  rw [hN2] at hn2 HNS2 HAN
  rw [hT] at hn3 HTX HAN
  rw [hL] at hn4 HLI HAN
  simp only [List.map_cons, List.map_nil, iv] at HNS1
  have a1 : ¬ 9223372036854775807 < N1.length + N2.length := by omega
  have a2 : ¬ 9223372036854775807 < N1.length + N2.length + T.length := by omega
  have a3 : ¬ 9223372036854775807 < N1.length + N2.length + T.length + L.length := by omega
  have HLN := hid (And.intro hn1 (And.intro hn2 (And.intro hn3 hn4)))
  clear hN1 hN2 hT hL hn1 hn2 hn3 hn4 hli
  go_enter Try.func88, Try.ntmps88
  go_wp2_with fail
  refine (HG.out ()).mono ?_
  rintro e w1 ⟨rfl, hb1⟩
  have HX1 := hid (HX.out.below hb1)
  have HB1 := hid (below_t HBW.out hb1 (by simp))
  have hkeep : ∀ W, Below w1.heap.size w1 W → W.cell? ⟨w.heap.size, 0, none⟩ = some (.int .i64 life) ∧ W.cell? ⟨w.heap.size, 1, none⟩ = some (.int .i64 seq) ∧ W.cell? ⟨w.heap.size, 2, none⟩ = some (.int .i64 epoch) ∧ W.cell? ⟨w.heap.size, 3, none⟩ = some (.int .i64 err) ∧ W.cell? ⟨w.heap.size, 4, none⟩ = some (.int .i64 node) ∧ W.cell? ⟨w.heap.size, 5, none⟩ = some (.int .i64 gen) ∧ W.cell? ⟨w.heap.size, 6, none⟩ = some (.int .i64 kind) ∧ W.cell? ⟨w.heap.size, 7, none⟩ = some (.int .i64 links) ∧ W.cell? ⟨w.heap.size, 8, none⟩ = some (.int .i64 size) ∧ W.cell? ⟨w.heap.size, 9, none⟩ = some (.int .i64 change) ∧ W.cell? ⟨w.heap.size, 10, none⟩ = some (.slice A data.length c) ∧ W.cell? ⟨w.heap.size, 11, none⟩ = some (.slice B names.length cb) ∧ Below w1.heap.size w1 W := fun W hb => by
    have hx := HX1.out.below hb
    exact ⟨hx.cell (j := 0) rfl, hx.cell (j := 1) rfl, hx.cell (j := 2) rfl, hx.cell (j := 3) rfl, hx.cell (j := 4) rfl, hx.cell (j := 5) rfl, hx.cell (j := 6) rfl, hx.cell (j := 7) rfl, hx.cell (j := 8) rfl, hx.cell (j := 9) rfl, hx.cell (j := 10) rfl, hx.cell (j := 11) rfl, hb⟩
  have HK := hid hkeep
  have hcv := fun W (hW : W.cell? ⟨w.heap.size, 0, none⟩ = some (.int .i64 life) ∧ W.cell? ⟨w.heap.size, 1, none⟩ = some (.int .i64 seq) ∧ W.cell? ⟨w.heap.size, 2, none⟩ = some (.int .i64 epoch) ∧ W.cell? ⟨w.heap.size, 3, none⟩ = some (.int .i64 err) ∧ W.cell? ⟨w.heap.size, 4, none⟩ = some (.int .i64 node) ∧ W.cell? ⟨w.heap.size, 5, none⟩ = some (.int .i64 gen) ∧ W.cell? ⟨w.heap.size, 6, none⟩ = some (.int .i64 kind) ∧ W.cell? ⟨w.heap.size, 7, none⟩ = some (.int .i64 links) ∧ W.cell? ⟨w.heap.size, 8, none⟩ = some (.int .i64 size) ∧ W.cell? ⟨w.heap.size, 9, none⟩ = some (.int .i64 change) ∧ W.cell? ⟨w.heap.size, 10, none⟩ = some (.slice A data.length c) ∧ W.cell? ⟨w.heap.size, 11, none⟩ = some (.slice B names.length cb) ∧ Below w1.heap.size w1 W) => cv_bytes c (HD.out.below (below_t HB1.out hW.2.2.2.2.2.2.2.2.2.2.2.2 HB1.out.size) (Nat.le_refl _))
  clear hb1 hkeep HX HBW HG
  go_wp2_with fail
  go_region_held3 (fun W => W.cell? ⟨w.heap.size, 0, none⟩ = some (.int .i64 life) ∧ W.cell? ⟨w.heap.size, 1, none⟩ = some (.int .i64 seq) ∧ W.cell? ⟨w.heap.size, 2, none⟩ = some (.int .i64 epoch) ∧ W.cell? ⟨w.heap.size, 3, none⟩ = some (.int .i64 err) ∧ W.cell? ⟨w.heap.size, 4, none⟩ = some (.int .i64 node) ∧ W.cell? ⟨w.heap.size, 5, none⟩ = some (.int .i64 gen) ∧ W.cell? ⟨w.heap.size, 6, none⟩ = some (.int .i64 kind) ∧ W.cell? ⟨w.heap.size, 7, none⟩ = some (.int .i64 links) ∧ W.cell? ⟨w.heap.size, 8, none⟩ = some (.int .i64 size) ∧ W.cell? ⟨w.heap.size, 9, none⟩ = some (.int .i64 change) ∧ W.cell? ⟨w.heap.size, 10, none⟩ = some (.slice A data.length c) ∧ W.cell? ⟨w.heap.size, 11, none⟩ = some (.slice B names.length cb) ∧ Below w1.heap.size w1 W)
    (first | exact HK.out _ (Below.drew (Below.refl _ _)) | exact HK.out _ (Below.alloc (Below.drew (Below.refl _ _)) (Nat.le_refl _) _) | exact HK.out _ hk2 | exact HK.out _ hk3 | exact HK.out _ hk4 | exact HK.out _ hk5 | exact HK.out _ hk6 | assumption)
    (first
      | (go_at_call_of 148 (Value.slice (some ⟨w1.drew.heap.size, 0, none⟩) 4 4); refine (HNS1.out w1.drew).mono ?_; rintro e w2 ⟨rfl, hb2⟩; have hk2 : Below w1.heap.size w1 w2 := below_t (Below.alloc (Below.drew (Below.refl _ _)) (Nat.le_refl _) _) hb2 (by simp))
      | (go_at_call 160; refine (HST.out w2).mono ?_; rintro e w3 ⟨g3, rfl, HR3⟩; have hk3 : Below w1.heap.size w1 w3 := below_t hk2 HR3.out.2 hk2.size)
      | (go_at_call 148; refine (HNS2.out g3 w3 HR3.out.1).mono ?_; rintro e w4 ⟨rfl, hb4⟩; have hk4 : Below w1.heap.size w1 w4 := below_t hk3 hb4 hk3.size)
      | (go_at_call 148; refine (HNS1.out w1.drew).mono ?_; rintro e w2 ⟨rfl, hb2⟩; have hk2 : Below w1.heap.size w1 w2 := below_t (Below.alloc (Below.drew (Below.refl _ _)) (Nat.le_refl _) _) hb2 (by simp))
      | (go_at_call 43; refine (HTX.out w4).mono ?_; rintro e w5 ⟨rfl, hb5⟩; have hk5 : Below w1.heap.size w1 w5 := below_t hk4 hb5 hk4.size)
      | (go_at_call 42; refine (HLI.out w5).mono ?_; rintro e w6 ⟨rfl, hb6⟩; have hk6 : Below w1.heap.size w1 w6 := below_t hk5 hb6 hk5.size)
      | fail "arm")
  have HX6 := hid (HX1.out.below hk6)
  have HB6 := hid (below_t HB1.out hk6 HB1.out.size)
  have HACC : Hid (bstr N1 ++ bstr N2 ++ bstr T ++ bstr L = bstr (N1 ++ (N2 ++ (T ++ L)))) := hid (req_str _ _ _ _)
  obtain ⟨a0, ha0⟩ : ∃ a0, N1 ++ (N2 ++ (T ++ L)) = a0 := ⟨_, rfl⟩
  have HA0 : Hid (a0.length ≤ 400) := hid (by rw [← ha0]; have := HLN.out; simp only [List.length_append]; omega)
  rw [ha0] at HACC HAN
  rw [HACC.out]
  clear hcv HK HX1 HB1 hb2 hb4 hb5 hb6 hk2 hk3 hk4 hk5 hk6 HR3 a1 a2 a3 HACC HLN ha0 HST HNS1 HNS2 HTX HLI
  have hni : (names.length : Int) ≤ 512 := by omega
  go_wp2_with fail
  go_loopw [4, 5] (fun sv' iv wr => ∃ (i : Nat) (acc : List UInt8), i ≤ names.length ∧ iv = .int .i64 i ∧ sv' = .string (bstr acc) ∧ acc.length ≤ 400 + 26 * i ∧ Hid (acc = a0 ++ textsL (names.take i) ∧ Below w6.heap.size w6 wr)) (fun _ iv _ => names.length - (intOf iv).toNat)
  case atStart => exact ⟨0, a0, by omega, rfl, rfl, HA0.out, hid ⟨by simp [textsL], Below.refl _ _⟩⟩
  case round =>
    obtain ⟨i, acc, hi, rfl, rfl, hal, HI⟩ := hrel
    have x11 : wr.cell? ⟨w.heap.size, 11, none⟩ = some (.slice B names.length cb) := (HX6.out.below HI.out.2).cell (j := 11) rfl
    by_cases hlt : i < names.length
    · obtain ⟨s, hs⟩ := get_of_lt names hlt
      obtain ⟨b, off, rfl, hc⟩ := Strs.at (Cells.below HN.out (below_t HB6.out HI.out.2 HB6.out.size) (Nat.le_refl _)) hs
      have hs24 : s.length ≤ 24 := HF.out.2.2.2 s (List.mem_of_getElem? hs)
      have HSN : Hid (textsL (names.take (i + 1)) = textsL (names.take i) ++ textL s) := hid (by rw [take_snoc hs]; simp [textsL])
      have HT := hid (rtextV s wr (by omega))
      have htl : (textL s).length = 2 + s.length := textL_len s
      obtain ⟨tx, htx⟩ : ∃ tx, textL s = tx := ⟨_, rfl⟩
      rw [htx] at HT htl HSN
      have hii : (i : Int) < (names.length : Int) := by omega
      have a1 : ¬ 9223372036854775807 < acc.length + tx.length := by omega
      have HL2 : Hid ((acc ++ tx).length ≤ 400 + 26 * (i + 1)) := hid (by rw [List.length_append]; omega)
      clear hs htx htl hal
      go_wp2_with fail
      refine HT.out.mono ?_
      rintro e w7 ⟨rfl, hb7⟩
      have HB7 := hid (below_t HI.out.2 hb7 HI.out.2.size)
      clear hb7 x11
      go_wp2_with fail
      go_roundw
      case rel => exact ⟨i + 1, acc ++ tx, by omega, by go_num, by rw [bstr_append], HL2.out, hid ⟨by rw [HSN.out, HI.out.1, List.append_assoc], HB7.out⟩⟩
      case measure => simp [intOf]; omega
    · have hk : i = names.length := by omega
      have hik : ¬ (i : Int) < (names.length : Int) := by omega
      have HE : Hid (acc = an) := hid (by rw [HI.out.1, hk, List.take_length]; exact HAN.out)
      rw [HE.out]
      have HBW2 := hid (below_t HB6.out HI.out.2 HB6.out.size)
      clear hk hal
      go_wp2_with fail
      refine (HFR.out _).mono ?_
      rintro e w8 ⟨rfl, hb8⟩
      have HB8 := hid (below_t HBW2.out hb8 HBW2.out.size)
      clear hb8
      go_wp2_with fail
      go_ret2
      exact ⟨rfl, HB8.out⟩
end Go.Proofs.Ytppbcdcmpcagdaa
