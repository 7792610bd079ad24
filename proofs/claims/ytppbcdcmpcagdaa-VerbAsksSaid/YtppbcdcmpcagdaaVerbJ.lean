/- Contract of package verb: Answered. -/
import Derived.Test.YtppbcdcmpcagdaaVerbI
namespace Go.Proofs.Ytppbcdcmpcagdaa
open Go.RowKit Go.CP

/-- What Answered hands back. -/
def RetAnsd (b : List UInt8) (w : World) (e : Ending) (w' : World) : Prop :=
  (∃ r A c B cb, decR b = some r ∧ e = .returned (.tuple #[rval r A c B cb, .int .i64 0]) ∧ Hid (Bytes w' A r.data ∧ r.data.length ≤ c ∧ Strs w' B r.names ∧ Below w.heap.size w w')) ∨
  (decR b = none ∧ e = .returned (.tuple #[rval rpZero none 0 none 0, .int .i64 2]) ∧ Hid (Below w.heap.size w w'))
/-- The names are in. -/
theorem ReadsN.start {w W : World} {g k6 N0 : Nat} {B : Option Nat} {nums : List Nat} {D : Value} {A7 : Option Addr} {m7 : List UInt8} {r : Rd} (hf : FormS W g B r.1 r.2) (hx : Blk W k6 112 (boxR nums D (.slice none 0 0))) (hz : Blk W w.heap.size 112 (boxR [] (.slice none 0 0) (.slice none 0 0))) (hd : Bytes W A7 m7) (hb : Below w.heap.size w W) (hN : N0 ≤ W.heap.size) :
    ReadsN w g B k6 N0 nums D A7 m7 r 0 none 0 W := ⟨hf, hx, hz, Go.CP.Own.none _ _ _ _, hd, hb, hN⟩
set_option maxHeartbeats 4000000 in
set_option maxRecDepth 100000 in
theorem ansd_full (B0 : Option Addr) (b : List UInt8) (c : Nat) (w : World) (hb : Bytes w B0 b) (hc : b.length ≤ c) (hl : b.length ≤ 140737488351232) :
    Calls Try.prog 89 #[.slice B0 b.length c] w (RetAnsd b w) := by
  have HB0 := hid (body_any 65 B0 b c (w.alloc (.cells (boxR [] (.slice none 0 0) (.slice none 0 0)).toArray 112)) (hb.alloc _) hc hl)
  obtain ⟨ok, hok⟩ : ∃ ok, (bodyT 65 b).2 = ok := ⟨_, rfl⟩
  obtain ⟨bd, hbd⟩ : ∃ bd, (bodyT 65 b).1 = bd := ⟨_, rfl⟩
  have HDV : Hid (decR b = if ok = true ∧ endE (readR (bd, false)).2.1 (readR (bd, false)).2.2 = 0 ∧ goodR (readR (bd, false)).1 = true then some (readR (bd, false)).1 else none) := hid (by rw [decR, hok, hbd])
  unfold RetBody at HB0
  rw [hok, hbd] at HB0
  clear hb hok hbd
  go_enter Try.func89, Try.ntmps89
  go_wp2_with fail
  refine HB0.out.mono ?_
  clear HB0
  rintro e w1 ⟨g, B, rfl, hf1, hg1, hB1, hb1⟩
  simp only [World.size_alloc] at hg1 hB1
  have HB01 := hid (((Below.refl w.heap.size w).alloc (Nat.le_refl _) (.cells (boxR [] (.slice none 0 0) (.slice none 0 0)).toArray 112)).trans (hb1.mono (by simp)))
  have HZ1 := hid ((Blk.new w 112 (boxR [] (.slice none 0 0) (.slice none 0 0))).below hb1)
  have HT1 : Hid (Calls Try.prog 46 #[.pointer (some ⟨g, 0, none⟩)] w1 (RetForm g B (.int .i64 ((rdN (bd, false)).1 : Nat)) (rdN (bd, false)).2.1 (rdN (bd, false)).2.2 w1)) := hid (fnum_any g B bd false w1 hf1)
  have HGW : Hid (w.heap.size + 1 ≤ g ∧ (∀ k, B = some k → k < g) ∧ w.heap.size < w1.heap.size) := hid ⟨hg1, fun k hk => (hB1 k hk).2, by have := hb1.size; simp at this; omega⟩
  clear hf1 hg1 hB1 hb1
  go_wp2_with fail
  refine HT1.out.mono ?_
  clear HT1
  rintro e w2 ⟨rfl, hf2, ht2⟩
  have hglt := hf2.lt
  have HLI : Hid (Lies w g B w2.heap.size) := hid ⟨HGW.out.1, hglt, fun k hk => by have := HGW.out.2.1 k hk; omega⟩
  have HR3 : Hid (ReadsR w g B w2.heap.size [] (bd, false) 1 (w2.alloc (.cells (boxR [(rdN (bd, false)).1] (.slice none 0 0) (.slice none 0 0)).toArray 112))) := hid (by
    refine ⟨hf2.alloc _, Blk.new w2 112 _, (HZ1.out.turn ht2 (by have := HGW.out; omega)).alloc _, (HB01.out.trans (ht2.1.mono (by have := HGW.out; omega))).alloc (by have := HB01.out.size; have := ht2.2.1; omega) _⟩)
  obtain ⟨w3, hw3⟩ : ∃ w3, w3 = w2.alloc (.cells (boxR [(rdN (bd, false)).1] (.slice none 0 0) (.slice none 0 0)).toArray 112) := ⟨_, rfl⟩
  have HK6 : Hid (w2.heap.size < w3.heap.size) := hid (by rw [hw3]; simp)
  rw [← hw3] at HR3
  obtain ⟨e0, he0⟩ : ∃ e0, (rdN (bd, false)).1 = e0 := ⟨_, rfl⟩
  rw [he0] at hw3 ⊢
  have hw3' : w3 = w2.alloc (.cells #[.int .i64 (e0 : Nat), .int .i64 0, .int .i64 0, .int .i64 0, .int .i64 0, .int .i64 0, .int .i64 0, .int .i64 0, .int .i64 0, .int .i64 0, .slice none 0 0, .slice none 0 0] 112) := hw3
  obtain ⟨k6, hk6⟩ : ∃ k6, w2.heap.size = k6 := ⟨_, rfl⟩
  have HW3 := hid (And.intro hw3' hk6)
  rw [hk6] at HLI HR3 HK6
  clear hf2 ht2 HZ1 HB01 hglt he0 hw3 hw3' hk6
  go_wp2_with fail
  rw [← HW3.out.1, HW3.out.2]
  clear HW3
  have HF := hid (num_next HR3.out)
  obtain ⟨n, hn⟩ : ∃ n, (rdN (rdNs 1 (bd, false)).2).1 = n := ⟨_, rfl⟩
  rw [hn] at HF
  have HN := hid hn
  clear hn
  refine HF.out.mono ?_
  clear HF
  rintro e w10 ⟨rfl, hf5, ht5⟩
  obtain ⟨⟨u, hu⟩, hz, hs⟩ := HR3.out.step HLI.out (by simp) hf5 ht5
  rw [show ([] : List Nat).length + 1 = 1 from rfl] at hu hz hs
  rw [HN.out] at hs
  have HR4 := hid hs
  have HKK : Hid (k6 < (w10.setCell ⟨k6, 1, none⟩ (.int .i64 (n : Nat))).heap.size) := hid (by have := HK6.out; have := ht5.2.1; simp; omega)
  clear hs hf5 ht5 HR3 HN HK6
  go_wp2_with fail
  clear hu hz
  generalize w10.setCell ⟨k6, 1, none⟩ (.int .i64 (n : Nat)) = w4 at HR4 HKK ⊢
  have HK6 := hid HKK.out
  clear HKK
  have HF := hid (num_next HR4.out)
  obtain ⟨n, hn⟩ : ∃ n, (rdN (rdNs 2 (bd, false)).2).1 = n := ⟨_, rfl⟩
  rw [hn] at HF
  have HN := hid hn
  clear hn
  refine HF.out.mono ?_
  clear HF
  rintro e w20 ⟨rfl, hf5, ht5⟩
  obtain ⟨⟨u, hu⟩, hz, hs⟩ := HR4.out.step HLI.out (by simp) hf5 ht5
  rw [show ([] : List Nat).length + 2 = 2 from rfl] at hu hz hs
  rw [HN.out] at hs
  have HR5 := hid hs
  have HKK : Hid (k6 < (w20.setCell ⟨k6, 2, none⟩ (.int .i64 (n : Nat))).heap.size) := hid (by have := HK6.out; have := ht5.2.1; simp; omega)
  clear hs hf5 ht5 HR4 HN HK6
  go_wp2_with fail
  clear hu hz
  generalize w20.setCell ⟨k6, 2, none⟩ (.int .i64 (n : Nat)) = w5 at HR5 HKK ⊢
  have HK6 := hid HKK.out
  clear HKK
  have HF := hid (num_next HR5.out)
  obtain ⟨n, hn⟩ : ∃ n, (rdN (rdNs 3 (bd, false)).2).1 = n := ⟨_, rfl⟩
  rw [hn] at HF
  have HN := hid hn
  clear hn
  refine HF.out.mono ?_
  clear HF
  rintro e w30 ⟨rfl, hf5, ht5⟩
  obtain ⟨⟨u, hu⟩, hz, hs⟩ := HR5.out.step HLI.out (by simp) hf5 ht5
  rw [show ([] : List Nat).length + 3 = 3 from rfl] at hu hz hs
  rw [HN.out] at hs
  have HR6 := hid hs
  have HKK : Hid (k6 < (w30.setCell ⟨k6, 3, none⟩ (.int .i64 (n : Nat))).heap.size) := hid (by have := HK6.out; have := ht5.2.1; simp; omega)
  clear hs hf5 ht5 HR5 HN HK6
  go_wp2_with fail
  clear hu hz
  generalize w30.setCell ⟨k6, 3, none⟩ (.int .i64 (n : Nat)) = w6 at HR6 HKK ⊢
  have HK6 := hid HKK.out
  clear HKK
  refine (fields_any k6 4 w6).mono ?_
  rintro e w7 ⟨g7, rfl, hr4, hg4, hb4⟩
  have HR7 := hid (HR6.out.below hb4)
  have HRW := hid hr4
  have HG7 : Hid (k6 < g7) := hid (by have := HK6.out; omega)
  clear hr4 hg4 hb4 HR6 HK6
  go_wp2_with fail
  go_loopw [29] (fun iv' wr => ∃ j : Nat, j ≤ 6 ∧ iv' = .int .i64 j ∧ Hid (ReadsR w g B k6 [] (bd, false) (4 + j) wr ∧ Blk wr g7 202 (rowS k6 4))) (fun iv' _ => 6 - (intOf iv').toNat)
  case atStart => exact ⟨0, by omega, rfl, hid ⟨HR7.out, HRW.out⟩⟩
  case round =>
    clear HR7 HRW
    obtain ⟨j, hj, rfl, HR⟩ := hrel
    by_cases hlt : j < 6
    · have hcp := HR.out.2.cell (rowS_at k6 4 hlt)
      have HF := hid (num_next HR.out.1)
      obtain ⟨n, hn⟩ : ∃ n, (rdN (rdNs (4 + j) (bd, false)).2).1 = n := ⟨_, rfl⟩
      rw [hn] at HF
      have HN := hid hn
      have hii : (j : Int) < 6 := by omega
      clear hn
      go_wp2_with fail
      refine HF.out.mono ?_
      rintro e w5 ⟨rfl, hf5, ht5⟩
      obtain ⟨⟨u, hu⟩, hz, hs⟩ := HR.out.1.step HLI.out (by simp; omega) hf5 ht5
      rw [show ([] : List Nat).length + (4 + j) = 4 + j from by simp] at hu hz hs
      rw [HN.out] at hs
      have HNEW : Hid (ReadsR w g B k6 [] (bd, false) (4 + (j + 1)) (w5.setCell ⟨k6, 4 + j, none⟩ (.int .i64 (n : Nat))) ∧ Blk (w5.setCell ⟨k6, 4 + j, none⟩ (.int .i64 (n : Nat))) g7 202 (rowS k6 4)) := hid ⟨hs, (HR.out.2.turn ht5 (by have := HG7.out; have := HLI.out.2.1; omega)).other (by have := HG7.out; omega)⟩
      clear hs hf5 ht5 HF HR
      go_wp2_with fail
      go_roundw
      case rel => exact ⟨j + 1, by omega, by go_num, HNEW⟩
      case measure => simp [intOf]; omega
    · have hk : j = 6 := by omega
      subst hk
      obtain ⟨⟨hf, hbx, hres, hbw⟩, -⟩ := HR.out
      rw [show 4 + 6 = 10 from rfl] at hf hbx
      have HRV : Hid (readR (bd, false) = (rpOf (rdNs 10 (bd, false)).1 (rdT (rdNs 10 (bd, false)).2).1 (rdTs (min (rdN (rdT (rdNs 10 (bd, false)).2).2).1 513) (rdN (rdT (rdNs 10 (bd, false)).2).2).2).1, (rdTs (min (rdN (rdT (rdNs 10 (bd, false)).2).2).1 513) (rdN (rdT (rdNs 10 (bd, false)).2).2).2).2)) := hid rfl
      have hln := rdNs_len 10 (bd, false)
      obtain ⟨nums, hnu⟩ : ∃ nums, (rdNs 10 (bd, false)).1 = nums := ⟨_, rfl⟩
      obtain ⟨r1, hr1⟩ : ∃ r1, (rdNs 10 (bd, false)).2 = r1 := ⟨_, rfl⟩
      rw [hnu, hr1] at HRV
      rw [hr1] at hf
      rw [List.nil_append, hnu] at hbx
      rw [hnu] at hln
      have HLN := hid hln
      have HX := hid hbx
      have HZ := hid hres
      have HBW := hid hbw
      have HT1 : Hid (Calls Try.prog 48 #[.pointer (some ⟨g, 0, none⟩)] wr (RetForm g B (.string (bstr (rdT r1).1)) (rdT r1).2.1 (rdT r1).2.2 wr)) := hid (ftext_any g B _ _ wr hf)
      obtain ⟨s3, hs3⟩ : ∃ s3, (rdT r1).1 = s3 := ⟨_, rfl⟩
      obtain ⟨r2, hr2⟩ : ∃ r2, (rdT r1).2 = r2 := ⟨_, rfl⟩
      rw [hs3, hr2] at HT1 HRV
      clear hnu hr1 hf hbx hres hbw HR hlt hj hln hs3 hr2
      go_wp2_with fail
      refine HT1.out.mono ?_
      clear HT1
      rintro e w8 ⟨rfl, hf8, ht8⟩
      have HX8 := hid (HX.out.turn ht8 (by have := HLI.out.2.1; omega))
      have HZ8 := hid (HZ.out.turn ht8 (by have := HLI.out.1; omega))
      have HB8 := hid (HBW.out.trans (ht8.1.mono (by have := HLI.out.1; omega)))
      have HF8 := hid hf8
      clear hf8 ht8 HX HZ HBW
      go_wp2_with fail
      refine (data_any s3 w8).mono ?_
      rintro e w9 ⟨A7, c7, m7, rfl, HR9⟩
      have hx9 := HX8.out.below HR9.out.2.2.2.1
      have hc9 := hx9.cell (j := 10) rfl
      have hz9 := hx9.free 10
      obtain rfl : m7 = s3 := HR9.out.1
      have hkk : k6 < w8.heap.size := HX8.out.lt
      have hkl : w8.heap.size ≤ w9.heap.size := HR9.out.2.2.2.1.size
      have hA : ∀ k, A7.map (·.block) = some k → k6 < k := fun k hk => by have := HR9.out.2.2.2.2 k hk; omega
      have hA' : m7 = [] ∨ ∀ k, A7.map (·.block) = some k → k6 < k ∧ k < w9.heap.size := by
        by_cases hm : m7 = []
        · exact .inl hm
        · exact .inr fun k hk => ⟨hA k hk, Cells.lt HR9.out.2.1 (by simp; exact List.length_pos_iff.2 hm) k hk⟩
      have HA := hid (And.intro hA' (show k6 < w9.heap.size from by omega))
      have HX9 := hid (hx9.set 10 (.slice A7 m7.length c7))
      have HZ9 := hid ((HZ8.out.below HR9.out.2.2.2.1).other (k' := k6) (j := 10) (u := .slice A7 m7.length c7) (by have := HLI.out; unfold Lies at this; omega))
      have HB9 := hid ((below_t HB8.out HR9.out.2.2.2.1 HB8.out.size).setCell (p := ⟨k6, 10, none⟩) (by have := HLI.out; unfold Lies at this; show w.heap.size ≤ k6; omega) (.slice A7 m7.length c7))
      have HF9 := hid ((HF8.out.below HR9.out.2.2.2.1).turn (Turn.setCell k6 10 w9 (.slice A7 m7.length c7)) (by have := HLI.out.2.1; omega) (fun k hk => by have := HLI.out.2.2 k hk; omega))
      have HD9 : Hid (Bytes (w9.setCell ⟨k6, 10, none⟩ (.slice A7 m7.length c7)) A7 m7 ∧ m7.length ≤ c7) := hid ⟨(Turn.setCell k6 10 w9 _).cells HR9.out.2.1 (fun k hk => by have := hA k hk; omega), HR9.out.2.2.1⟩
      clear HR9 hx9 HX8 HZ8 HB8 HF8 hkk hkl hA hA'
      go_wp2_with fail
      clear hc9 hz9
      have HSZ : Hid ((w9.setCell ⟨k6, 10, none⟩ (.slice A7 m7.length c7)).heap.size = w9.heap.size) := hid (by simp)
      generalize w9.setCell ⟨k6, 10, none⟩ (.slice A7 m7.length c7) = w10 at HX9 HZ9 HB9 HF9 HD9 HSZ ⊢
      have HNM : Hid (Calls Try.prog 46 #[.pointer (some ⟨g, 0, none⟩)] w10 (RetForm g B (.int .i64 ((rdN r2).1 : Nat)) (rdN r2).2.1 (rdN r2).2.2 w10)) := hid (fnum_any g B _ _ w10 HF9.out)
      obtain ⟨nn, hnn⟩ : ∃ nn, (rdN r2).1 = nn := ⟨_, rfl⟩
      obtain ⟨r3, hr3⟩ : ∃ r3, (rdN r2).2 = r3 := ⟨_, rfl⟩
      rw [hnn, hr3] at HNM HRV
      clear hnn hr3 HF9
      refine HNM.out.mono ?_
      clear HNM
      rintro e w11 ⟨rfl, hf11, ht11⟩
      have hX11 := HX9.out.turn ht11 (by have := HLI.out.2.1; omega)
      have HLS : Hid (LiesN w g B k6 w11.heap.size A7 m7) := hid (by
        have hz11 := ht11.2.1
        have := HSZ.out
        have := HA.out.2
        refine ⟨HLI.out.1, HLI.out.2.1, by omega, HLI.out.2.2, ?_⟩
        rcases HA.out.1 with h | h
        · exact .inl h
        · exact .inr fun k hk => ⟨(h k hk).1, by have := (h k hk).2; omega⟩)
      have HR11 : Hid (ReadsN w g B k6 w11.heap.size nums (.slice A7 m7.length c7) A7 m7 r3 0 none 0 w11) := hid (by
        refine ReadsN.start hf11 hX11 (HZ9.out.turn ht11 (by have := HLI.out.1; omega)) ?_ (HB9.out.trans (ht11.1.mono (by have := HLI.out.1; omega))) (Nat.le_refl _)
        rcases HA.out.1 with h | h
        · subst h; exact Cells.nil _ _
        · exact ht11.cells HD9.out.1 (fun k hk => by have := (h k hk).1; have := HLI.out.2.1; omega))
      have HD7 := hid HD9.out.2
      obtain ⟨N, hN⟩ : ∃ N, min nn 513 = N := ⟨_, rfl⟩
      rw [hN] at HRV
      have hN5 : N ≤ 513 := by omega
      clear hf11 ht11 hX11 HX9 HZ9 HB9 HA HSZ HD9
      go_wp2_with fail
      case' inl => rw [show (513 : Int) = ((N : Nat) : Int) from by omega]
      case' inr => rw [show ((nn : Nat) : Int) = ((N : Nat) : Int) from by omega]
      all_goals
        clear h hN
        go_loopw [45] (fun iv' wr => ∃ (j : Nat) (X : Option Addr) (cx : Nat), j ≤ N ∧ iv' = .int .i64 j ∧ Hid (ReadsN w g B k6 w11.heap.size nums (.slice A7 m7.length c7) A7 m7 r3 j X cx wr)) (fun iv' _ => N - (intOf iv').toNat)
        case atStart => exact ⟨0, none, 0, by omega, rfl, HR11⟩
        case round =>
          clear HR11
          obtain ⟨j, X, cx, hj, rfl, HR⟩ := hrel
          by_cases hlt : j < N
          · have hii : (j : Int) < (N : Int) := by omega
            go_wp2_with fail
            have HRD := hid HR.out.drew
            refine wp_region_held_drew (S := fun _ => True) (by kernel_rfl) True.intro (fun hHeld => ?_)
            generalize wr.drew = v at HRD ⊢
            clear HR
            have HT := hid (text_next HRD.out.form)
            obtain ⟨s5, hs5⟩ : ∃ s5, (rdT (rdTs j r3).2).1 = s5 := ⟨_, rfl⟩
            rw [hs5] at HT
            have HS5 := hid hs5
            clear hs5
            have hv11 : v.cell? ⟨k6, 11, none⟩ = some (.slice X j cx) := HRD.out.box.cell (j := 11) rfl
            refine wpAnyH_take (i := 0) (oi := { dst := some 47, op := Op.fieldAddr 112 (Operand.tmp 6) 6, type := 0, pos := "verb.go:184", after := #[], guard := none }) (v := .pointer (some ⟨k6, 11, none⟩)) rfl (by kernel_rfl) (by kernel_rfl) (by kernel_rfl) (fun _ _ _ h => h) (Or.inl ⟨by rfl, fun W hSw => ?_⟩) hHeld ?_
            · dsimp only at hSw
              go_simp
            try simp only [Act.put, List.setIfInBounds_toArray, List.set_cons_zero, List.set_cons_succ]
            refine wpAnyH_take (i := 2) (oi := { dst := some 49, op := Op.move (Operand.tmp 4), type := 32, pos := "verb.go:184", after := #[], guard := none }) (v := .pointer (some ⟨g, 0, none⟩)) rfl (by kernel_rfl) (by kernel_rfl) (by kernel_rfl) (fun _ _ _ h => h) (Or.inl ⟨by rfl, fun W hSw => ?_⟩) hHeld ?_
            · dsimp only at hSw
              go_simp
            try simp only [Act.put, List.setIfInBounds_toArray, List.set_cons_zero, List.set_cons_succ]
            refine wpAnyH_ready (rs := [1, 3]) (by kernel_rfl) (by simp) (AllReadyH.cons (o := { dst := some 48, op := Op.load 110 (Operand.tmp 47), type := 110, pos := "verb.go:184", after := #[{ on := 0, ground := Ground.data }], guard := none }) rfl (fun K hK => ?_) (AllReadyH.cons (o := { dst := some 50, op := Op.call { callee := Callee.value (Operand.func 48), args := #[Operand.tmp 49], argTypes := #[32] }, type := 9, pos := "verb.go:184", after := #[{ on := 2, ground := Ground.data }], guard := none }) rfl (fun K hK => ?_) AllReadyH.nil))
            · go_simp
              refine hK.out _ _ True.intro (fun hHeld => ?_)
              clear hK K
              try simp only [Act.put, List.setIfInBounds_toArray, List.set_cons_zero, List.set_cons_succ]
              refine wpAnyH_ready (rs := [3]) (by kernel_rfl) (by simp) (AllReadyH.cons (o := { dst := some 50, op := Op.call { callee := Callee.value (Operand.func 48), args := #[Operand.tmp 49], argTypes := #[32] }, type := 9, pos := "verb.go:184", after := #[{ on := 2, ground := Ground.data }], guard := none }) rfl (fun K hK => ?_) AllReadyH.nil)
              go_simp
              refine HT.out.mono ?_
              rintro e w2 ⟨rfl, hf2, ht2⟩
              have HF2 := hid hf2
              have HT2 := hid ht2
              have hw2 : w2.cell? ⟨k6, 11, none⟩ = some (.slice X j cx) := (HRD.out.box.turn ht2 (by have := HLI.out.2.1; omega)).cell (j := 11) rfl
              clear hf2 ht2
              go_simp
              refine hK.out _ _ True.intro (fun hHeld => ?_)
              clear hK K
              try simp only [Act.put, List.setIfInBounds_toArray, List.set_cons_zero, List.set_cons_succ]
              refine wpAnyH_ready (rs := [4]) (by kernel_rfl) (by simp) (AllReadyH.cons (o := { dst := some 51, op := Op.buildSlice 110 1 #[(0, Operand.tmp 50)], type := 110, pos := "verb.go:184", after := #[{ on := 3, ground := Ground.data }], guard := none }) rfl (fun K hK => ?_) AllReadyH.nil)
              go_simp
              refine hK.out _ _ True.intro (fun hHeld => ?_)
              clear hK K
              try simp only [Act.put, List.setIfInBounds_toArray, List.set_cons_zero, List.set_cons_succ]
              refine wpAnyH_ready (rs := [5]) (by kernel_rfl) (by simp) (AllReadyH.cons (o := { dst := some 52, op := Op.call { callee := Callee.builtin Builtin.append, args := #[Operand.tmp 48, Operand.tmp 51], argTypes := #[110, 110] }, type := 110, pos := "verb.go:184", after := #[{ on := 1, ground := Ground.data }, { on := 4, ground := Ground.data }, { on := 3, ground := Ground.chain }], guard := none }) rfl (fun K hK => ?_) AllReadyH.nil)
              refine st_strs (m := 1) (news := [.string (bstr s5)]) (by rfl) (.tmp 48) (.tmp 51) 110 (by rfl) w11.heap.size (by rfl) ((own_turn HRD.out.own HT2.out (by have := HLS.out.hg; have := HLS.out.hk; have := HLS.out.hn; omega)).alloc (.cells #[.string (bstr s5)] 9)) (by rfl) (Src.one (w := w2) Try.underlying110 rfl) (by omega) (by have := HRD.out.size; have := HT2.out.2.1; simp; omega) ?_
              intro Y cy w3 ho3 hg3
              have HP := hid (HRD.out.push HLS.out HF2.out HT2.out hg3 (by rw [HS5.out]; exact ho3))
              have hc3 := HP.out.1.1
              have hz3 := HP.out.1.2
              have HN := hid HP.out.2
              clear ho3 hg3 HP
              refine hK.out _ _ True.intro (fun hHeld => ?_)
              clear hK K
              try simp only [Act.put, List.setIfInBounds_toArray, List.set_cons_zero, List.set_cons_succ]
              refine wpAnyH_take (i := 6) (oi := { dst := some 53, op := Op.fieldAddr 112 (Operand.tmp 6) 6, type := 0, pos := "verb.go:184", after := #[{ on := 0, ground := Ground.phase }, { on := 1, ground := Ground.phase }, { on := 2, ground := Ground.phase }, { on := 3, ground := Ground.phase }, { on := 4, ground := Ground.phase }, { on := 5, ground := Ground.phase }], guard := none }) (v := .pointer (some ⟨k6, 11, none⟩)) rfl (by kernel_rfl) (by kernel_rfl) (by kernel_rfl) (fun _ _ _ h => h) (Or.inl ⟨by rfl, fun W hSw => ?_⟩) hHeld ?_
              · dsimp only at hSw
                go_simp
              try simp only [Act.put, List.setIfInBounds_toArray, List.set_cons_zero, List.set_cons_succ]
              refine wpAnyH_ready (rs := [7]) (by kernel_rfl) (by simp) (AllReadyH.cons (o := { dst := none, op := Op.store 110 (Operand.tmp 53) (Operand.tmp 52), type := 0, pos := "verb.go:184", after := #[{ on := 6, ground := Ground.data }, { on := 5, ground := Ground.data }, { on := 5, ground := Ground.chain }, { on := 0, ground := Ground.phase }, { on := 1, ground := Ground.phase }, { on := 2, ground := Ground.phase }, { on := 3, ground := Ground.phase }, { on := 4, ground := Ground.phase }, { on := 5, ground := Ground.phase }], guard := none }) rfl (fun K hK => ?_) AllReadyH.nil)
              go_simp
              refine hK.out _ _ True.intro (fun hHeld => ?_)
              clear hK K
              try simp only [Act.put, List.setIfInBounds_toArray, List.set_cons_zero, List.set_cons_succ]
              refine wpAnyH_done (by kernel_rfl) ?_ _
              go_wp2_with fail
              go_roundw
              case rel => exact ⟨j + 1, Y, cy, by omega, by go_num, HN⟩
              case measure => simp [intOf]; omega
            · go_simp
              refine HT.out.mono ?_
              rintro e w2 ⟨rfl, hf2, ht2⟩
              have HF2 := hid hf2
              have HT2 := hid ht2
              have hw2 : w2.cell? ⟨k6, 11, none⟩ = some (.slice X j cx) := (HRD.out.box.turn ht2 (by have := HLI.out.2.1; omega)).cell (j := 11) rfl
              clear hf2 ht2
              go_simp
              refine hK.out _ _ True.intro (fun hHeld => ?_)
              clear hK K
              try simp only [Act.put, List.setIfInBounds_toArray, List.set_cons_zero, List.set_cons_succ]
              refine wpAnyH_ready (rs := [1, 4]) (by kernel_rfl) (by simp) (AllReadyH.cons (o := { dst := some 48, op := Op.load 110 (Operand.tmp 47), type := 110, pos := "verb.go:184", after := #[{ on := 0, ground := Ground.data }], guard := none }) rfl (fun K hK => ?_) (AllReadyH.cons (o := { dst := some 51, op := Op.buildSlice 110 1 #[(0, Operand.tmp 50)], type := 110, pos := "verb.go:184", after := #[{ on := 3, ground := Ground.data }], guard := none }) rfl (fun K hK => ?_) AllReadyH.nil))
              · go_simp
                refine hK.out _ _ True.intro (fun hHeld => ?_)
                clear hK K
                try simp only [Act.put, List.setIfInBounds_toArray, List.set_cons_zero, List.set_cons_succ]
                refine wpAnyH_ready (rs := [4]) (by kernel_rfl) (by simp) (AllReadyH.cons (o := { dst := some 51, op := Op.buildSlice 110 1 #[(0, Operand.tmp 50)], type := 110, pos := "verb.go:184", after := #[{ on := 3, ground := Ground.data }], guard := none }) rfl (fun K hK => ?_) AllReadyH.nil)
                go_simp
                refine hK.out _ _ True.intro (fun hHeld => ?_)
                clear hK K
                try simp only [Act.put, List.setIfInBounds_toArray, List.set_cons_zero, List.set_cons_succ]
                refine wpAnyH_ready (rs := [5]) (by kernel_rfl) (by simp) (AllReadyH.cons (o := { dst := some 52, op := Op.call { callee := Callee.builtin Builtin.append, args := #[Operand.tmp 48, Operand.tmp 51], argTypes := #[110, 110] }, type := 110, pos := "verb.go:184", after := #[{ on := 1, ground := Ground.data }, { on := 4, ground := Ground.data }, { on := 3, ground := Ground.chain }], guard := none }) rfl (fun K hK => ?_) AllReadyH.nil)
                refine st_strs (m := 1) (news := [.string (bstr s5)]) (by rfl) (.tmp 48) (.tmp 51) 110 (by rfl) w11.heap.size (by rfl) ((own_turn HRD.out.own HT2.out (by have := HLS.out.hg; have := HLS.out.hk; have := HLS.out.hn; omega)).alloc (.cells #[.string (bstr s5)] 9)) (by rfl) (Src.one (w := w2) Try.underlying110 rfl) (by omega) (by have := HRD.out.size; have := HT2.out.2.1; simp; omega) ?_
                intro Y cy w3 ho3 hg3
                have HP := hid (HRD.out.push HLS.out HF2.out HT2.out hg3 (by rw [HS5.out]; exact ho3))
                have hc3 := HP.out.1.1
                have hz3 := HP.out.1.2
                have HN := hid HP.out.2
                clear ho3 hg3 HP
                refine hK.out _ _ True.intro (fun hHeld => ?_)
                clear hK K
                try simp only [Act.put, List.setIfInBounds_toArray, List.set_cons_zero, List.set_cons_succ]
                refine wpAnyH_take (i := 6) (oi := { dst := some 53, op := Op.fieldAddr 112 (Operand.tmp 6) 6, type := 0, pos := "verb.go:184", after := #[{ on := 0, ground := Ground.phase }, { on := 1, ground := Ground.phase }, { on := 2, ground := Ground.phase }, { on := 3, ground := Ground.phase }, { on := 4, ground := Ground.phase }, { on := 5, ground := Ground.phase }], guard := none }) (v := .pointer (some ⟨k6, 11, none⟩)) rfl (by kernel_rfl) (by kernel_rfl) (by kernel_rfl) (fun _ _ _ h => h) (Or.inl ⟨by rfl, fun W hSw => ?_⟩) hHeld ?_
                · dsimp only at hSw
                  go_simp
                try simp only [Act.put, List.setIfInBounds_toArray, List.set_cons_zero, List.set_cons_succ]
                refine wpAnyH_ready (rs := [7]) (by kernel_rfl) (by simp) (AllReadyH.cons (o := { dst := none, op := Op.store 110 (Operand.tmp 53) (Operand.tmp 52), type := 0, pos := "verb.go:184", after := #[{ on := 6, ground := Ground.data }, { on := 5, ground := Ground.data }, { on := 5, ground := Ground.chain }, { on := 0, ground := Ground.phase }, { on := 1, ground := Ground.phase }, { on := 2, ground := Ground.phase }, { on := 3, ground := Ground.phase }, { on := 4, ground := Ground.phase }, { on := 5, ground := Ground.phase }], guard := none }) rfl (fun K hK => ?_) AllReadyH.nil)
                go_simp
                refine hK.out _ _ True.intro (fun hHeld => ?_)
                clear hK K
                try simp only [Act.put, List.setIfInBounds_toArray, List.set_cons_zero, List.set_cons_succ]
                refine wpAnyH_done (by kernel_rfl) ?_ _
                go_wp2_with fail
                go_roundw
                case rel => exact ⟨j + 1, Y, cy, by omega, by go_num, HN⟩
                case measure => simp [intOf]; omega
              · go_simp
                refine hK.out _ _ True.intro (fun hHeld => ?_)
                clear hK K
                try simp only [Act.put, List.setIfInBounds_toArray, List.set_cons_zero, List.set_cons_succ]
                refine wpAnyH_ready (rs := [1]) (by kernel_rfl) (by simp) (AllReadyH.cons (o := { dst := some 48, op := Op.load 110 (Operand.tmp 47), type := 110, pos := "verb.go:184", after := #[{ on := 0, ground := Ground.data }], guard := none }) rfl (fun K hK => ?_) AllReadyH.nil)
                have ha2 : (w2.alloc (.cells #[.string (bstr s5)] 9)).cell? ⟨k6, 11, none⟩ = some (.slice X j cx) := ((HRD.out.box.turn HT2.out (by have := HLI.out.2.1; omega)).alloc _).cell (j := 11) rfl
                go_simp
                refine hK.out _ _ True.intro (fun hHeld => ?_)
                clear hK K
                try simp only [Act.put, List.setIfInBounds_toArray, List.set_cons_zero, List.set_cons_succ]
                refine wpAnyH_ready (rs := [5]) (by kernel_rfl) (by simp) (AllReadyH.cons (o := { dst := some 52, op := Op.call { callee := Callee.builtin Builtin.append, args := #[Operand.tmp 48, Operand.tmp 51], argTypes := #[110, 110] }, type := 110, pos := "verb.go:184", after := #[{ on := 1, ground := Ground.data }, { on := 4, ground := Ground.data }, { on := 3, ground := Ground.chain }], guard := none }) rfl (fun K hK => ?_) AllReadyH.nil)
                refine st_strs (m := 1) (news := [.string (bstr s5)]) (by rfl) (.tmp 48) (.tmp 51) 110 (by rfl) w11.heap.size (by rfl) ((own_turn HRD.out.own HT2.out (by have := HLS.out.hg; have := HLS.out.hk; have := HLS.out.hn; omega)).alloc (.cells #[.string (bstr s5)] 9)) (by rfl) (Src.one (w := w2) Try.underlying110 rfl) (by omega) (by have := HRD.out.size; have := HT2.out.2.1; simp; omega) ?_
                intro Y cy w3 ho3 hg3
                have HP := hid (HRD.out.push HLS.out HF2.out HT2.out hg3 (by rw [HS5.out]; exact ho3))
                have hc3 := HP.out.1.1
                have hz3 := HP.out.1.2
                have HN := hid HP.out.2
                clear ho3 hg3 HP
                refine hK.out _ _ True.intro (fun hHeld => ?_)
                clear hK K
                try simp only [Act.put, List.setIfInBounds_toArray, List.set_cons_zero, List.set_cons_succ]
                refine wpAnyH_take (i := 6) (oi := { dst := some 53, op := Op.fieldAddr 112 (Operand.tmp 6) 6, type := 0, pos := "verb.go:184", after := #[{ on := 0, ground := Ground.phase }, { on := 1, ground := Ground.phase }, { on := 2, ground := Ground.phase }, { on := 3, ground := Ground.phase }, { on := 4, ground := Ground.phase }, { on := 5, ground := Ground.phase }], guard := none }) (v := .pointer (some ⟨k6, 11, none⟩)) rfl (by kernel_rfl) (by kernel_rfl) (by kernel_rfl) (fun _ _ _ h => h) (Or.inl ⟨by rfl, fun W hSw => ?_⟩) hHeld ?_
                · dsimp only at hSw
                  go_simp
                try simp only [Act.put, List.setIfInBounds_toArray, List.set_cons_zero, List.set_cons_succ]
                refine wpAnyH_ready (rs := [7]) (by kernel_rfl) (by simp) (AllReadyH.cons (o := { dst := none, op := Op.store 110 (Operand.tmp 53) (Operand.tmp 52), type := 0, pos := "verb.go:184", after := #[{ on := 6, ground := Ground.data }, { on := 5, ground := Ground.data }, { on := 5, ground := Ground.chain }, { on := 0, ground := Ground.phase }, { on := 1, ground := Ground.phase }, { on := 2, ground := Ground.phase }, { on := 3, ground := Ground.phase }, { on := 4, ground := Ground.phase }, { on := 5, ground := Ground.phase }], guard := none }) rfl (fun K hK => ?_) AllReadyH.nil)
                go_simp
                refine hK.out _ _ True.intro (fun hHeld => ?_)
                clear hK K
                try simp only [Act.put, List.setIfInBounds_toArray, List.set_cons_zero, List.set_cons_succ]
                refine wpAnyH_done (by kernel_rfl) ?_ _
                go_wp2_with fail
                go_roundw
                case rel => exact ⟨j + 1, Y, cy, by omega, by go_num, HN⟩
                case measure => simp [intOf]; omega
          · have hk : N = j := by omega
            have hik : ¬ (j : Int) < (N : Int) := by omega
            rw [hk] at HRV
            have hnl := rdTs_len j r3
            obtain ⟨hfm, hbx, hres, hown, hdt, hbs, -⟩ := HR.out
            obtain ⟨nm, hnm⟩ : ∃ nm, (rdTs j r3).1 = nm := ⟨_, rfl⟩
            obtain ⟨r4, hr4⟩ : ∃ r4, (rdTs j r3).2 = r4 := ⟨_, rfl⟩
            rw [hnm, hr4] at HRV
            rw [hr4] at hfm
            rw [hnm] at hown hnl
            obtain ⟨n0, n1, n2, n3, n4, n5, n6, n7, n8, n9, hn⟩ := list10 HLN.out
            rw [hn] at HRV hbx
            have HXX0 := hid hbx
            have HZZ0 := hid hres
            have HBB := hid hbs
            have HFF := hid hfm
            have HOO : Hid (Strs wr X nm) := hid hown.cells
            have HDD : Hid (Bytes wr A7 m7) := hid hdt
            have HJ := hid hnl
            have HOB : Hid (∀ k, X.map (·.block) = some k → w11.heap.size ≤ k) := hid fun k hk => (hown.block k hk).1
            clear hk hfm hbx hres hown hdt hbs hnm hr4 hn hnl HR hj hlt hN5
            cases ok with
            | false =>
              have HNO : Hid (decR b = none) := hid (by rw [HDV.out, if_neg (by simp)])
              have HZZ := HZZ0
              have zf := HZZ.out.free
              have z0 : wr.cell? ⟨w.heap.size, 0, none⟩ = some (.int .i64 0) := HZZ.out.cell (j := 0) rfl
              have z1 : wr.cell? ⟨w.heap.size, 1, none⟩ = some (.int .i64 0) := HZZ.out.cell (j := 1) rfl
              have z2 : wr.cell? ⟨w.heap.size, 2, none⟩ = some (.int .i64 0) := HZZ.out.cell (j := 2) rfl
              have z3 : wr.cell? ⟨w.heap.size, 3, none⟩ = some (.int .i64 0) := HZZ.out.cell (j := 3) rfl
              have z4 : wr.cell? ⟨w.heap.size, 4, none⟩ = some (.int .i64 0) := HZZ.out.cell (j := 4) rfl
              have z5 : wr.cell? ⟨w.heap.size, 5, none⟩ = some (.int .i64 0) := HZZ.out.cell (j := 5) rfl
              have z6 : wr.cell? ⟨w.heap.size, 6, none⟩ = some (.int .i64 0) := HZZ.out.cell (j := 6) rfl
              have z7 : wr.cell? ⟨w.heap.size, 7, none⟩ = some (.int .i64 0) := HZZ.out.cell (j := 7) rfl
              have z8 : wr.cell? ⟨w.heap.size, 8, none⟩ = some (.int .i64 0) := HZZ.out.cell (j := 8) rfl
              have z9 : wr.cell? ⟨w.heap.size, 9, none⟩ = some (.int .i64 0) := HZZ.out.cell (j := 9) rfl
              have z10 : wr.cell? ⟨w.heap.size, 10, none⟩ = some (.slice none 0 0) := HZZ.out.cell (j := 10) rfl
              have z11 : wr.cell? ⟨w.heap.size, 11, none⟩ = some (.slice none 0 0) := HZZ.out.cell (j := 11) rfl
              go_wp2_with fail
              refine bodyPost_ret (res89 (k := w.heap.size) (cs := rcells rpZero none 0 none 0) rfl (HZZ.out.set12 _ _ _ _ _ _ _ _ _ _ _ _) _ rfl) rfl (.inr ⟨HNO.out, rfl, hid (below12 HBB.out (Nat.le_refl _) _ _ _ _ _ _ _ _ _ _ _ _)⟩)
            | true =>
              have HEC := hid (fend_any g B _ _ wr HFF.out)
              by_cases hen : endE r4.1 r4.2 = 0
              · rw [hen] at HEC
                have HEN := hid hen
                clear hen
                have HJJ := HJ.out
                generalize hjj : j = jj at *
                clear hjj
                subst HJJ
                have hgc := right_any (rpOf [n0, n1, n2, n3, n4, n5, n6, n7, n8, n9] m7 nm) A7 c7 X cx wr (fun _ => HOO.out)
                obtain ⟨gv, hgv⟩ : ∃ gv, goodR (rpOf [n0, n1, n2, n3, n4, n5, n6, n7, n8, n9] m7 nm) = gv := ⟨_, rfl⟩
                rw [hgv] at hgc
                have HGC := hid hgc
                have HGV := hid hgv
                clear hgc hgv
                have HXX := HXX0
                have x0 : wr.cell? ⟨k6, 0, none⟩ = some (.int .i64 (n0 : Int)) := HXX.out.cell (j := 0) rfl
                have x1 : wr.cell? ⟨k6, 1, none⟩ = some (.int .i64 (n1 : Int)) := HXX.out.cell (j := 1) rfl
                have x2 : wr.cell? ⟨k6, 2, none⟩ = some (.int .i64 (n2 : Int)) := HXX.out.cell (j := 2) rfl
                have x3 : wr.cell? ⟨k6, 3, none⟩ = some (.int .i64 (n3 : Int)) := HXX.out.cell (j := 3) rfl
                have x4 : wr.cell? ⟨k6, 4, none⟩ = some (.int .i64 (n4 : Int)) := HXX.out.cell (j := 4) rfl
                have x5 : wr.cell? ⟨k6, 5, none⟩ = some (.int .i64 (n5 : Int)) := HXX.out.cell (j := 5) rfl
                have x6 : wr.cell? ⟨k6, 6, none⟩ = some (.int .i64 (n6 : Int)) := HXX.out.cell (j := 6) rfl
                have x7 : wr.cell? ⟨k6, 7, none⟩ = some (.int .i64 (n7 : Int)) := HXX.out.cell (j := 7) rfl
                have x8 : wr.cell? ⟨k6, 8, none⟩ = some (.int .i64 (n8 : Int)) := HXX.out.cell (j := 8) rfl
                have x9 : wr.cell? ⟨k6, 9, none⟩ = some (.int .i64 (n9 : Int)) := HXX.out.cell (j := 9) rfl
                have x10 : wr.cell? ⟨k6, 10, none⟩ = some (.slice A7 m7.length c7) := HXX.out.cell (j := 10) rfl
                have x11 : wr.cell? ⟨k6, 11, none⟩ = some (.slice X nm.length cx) := HXX.out.cell (j := 11) rfl
                clear HXX
                go_wp2_with fail
                refine HEC.out.mono ?_
                rintro e w5 ⟨rfl, hw5⟩
                rw [hw5]
                clear hw5 w5
                go_wp2_with fail
                refine HGC.out.mono ?_
                rintro e w9 ⟨rfl, hw9⟩
                clear x0 x1 x2 x3 x4 x5 x6 x7 x8 x9 x10 x11
                have HXX := hid (HXX0.out.below hw9)
                have HZZ := hid (HZZ0.out.below hw9)
                have HB9 := hid (below_t HBB.out hw9 HBB.out.size)
                have HO9 : Hid (Strs w9 X nm) := hid (Cells.below HOO.out hw9 (Nat.le_refl _))
                have HD9 : Hid (Bytes w9 A7 m7) := hid (Cells.below HDD.out hw9 (Nat.le_refl _))
                have zf := HZZ.out.free
                have z0 : w9.cell? ⟨w.heap.size, 0, none⟩ = some (.int .i64 0) := HZZ.out.cell (j := 0) rfl
                have z1 : w9.cell? ⟨w.heap.size, 1, none⟩ = some (.int .i64 0) := HZZ.out.cell (j := 1) rfl
                have z2 : w9.cell? ⟨w.heap.size, 2, none⟩ = some (.int .i64 0) := HZZ.out.cell (j := 2) rfl
                have z3 : w9.cell? ⟨w.heap.size, 3, none⟩ = some (.int .i64 0) := HZZ.out.cell (j := 3) rfl
                have z4 : w9.cell? ⟨w.heap.size, 4, none⟩ = some (.int .i64 0) := HZZ.out.cell (j := 4) rfl
                have z5 : w9.cell? ⟨w.heap.size, 5, none⟩ = some (.int .i64 0) := HZZ.out.cell (j := 5) rfl
                have z6 : w9.cell? ⟨w.heap.size, 6, none⟩ = some (.int .i64 0) := HZZ.out.cell (j := 6) rfl
                have z7 : w9.cell? ⟨w.heap.size, 7, none⟩ = some (.int .i64 0) := HZZ.out.cell (j := 7) rfl
                have z8 : w9.cell? ⟨w.heap.size, 8, none⟩ = some (.int .i64 0) := HZZ.out.cell (j := 8) rfl
                have z9 : w9.cell? ⟨w.heap.size, 9, none⟩ = some (.int .i64 0) := HZZ.out.cell (j := 9) rfl
                have z10 : w9.cell? ⟨w.heap.size, 10, none⟩ = some (.slice none 0 0) := HZZ.out.cell (j := 10) rfl
                have z11 : w9.cell? ⟨w.heap.size, 11, none⟩ = some (.slice none 0 0) := HZZ.out.cell (j := 11) rfl
                clear hw9 HXX0 HZZ0 HEC HGC
                cases gv with
                | false =>
                  have HNO : Hid (decR b = none) := hid (by rw [HDV.out, HRV.out, if_neg (by rintro ⟨_, _, h⟩; rw [HGV.out] at h; cases h)])
                  go_wp2_with fail
                  refine bodyPost_ret (res89 (k := w.heap.size) (cs := rcells rpZero none 0 none 0) rfl (HZZ.out.set12 _ _ _ _ _ _ _ _ _ _ _ _) _ rfl) rfl (.inr ⟨HNO.out, rfl, hid (below12 HB9.out (Nat.le_refl _) _ _ _ _ _ _ _ _ _ _ _ _)⟩)
                | true =>
                  have HYES : Hid (decR b = some (rpOf [n0, n1, n2, n3, n4, n5, n6, n7, n8, n9] m7 nm)) := hid (by rw [HDV.out, HRV.out, if_pos ⟨by first | exact True.intro | rfl, HEN.out, HGV.out⟩])
                  have x0 : w9.cell? ⟨k6, 0, none⟩ = some (.int .i64 (n0 : Int)) := HXX.out.cell (j := 0) rfl
                  have x1 : w9.cell? ⟨k6, 1, none⟩ = some (.int .i64 (n1 : Int)) := HXX.out.cell (j := 1) rfl
                  have x2 : w9.cell? ⟨k6, 2, none⟩ = some (.int .i64 (n2 : Int)) := HXX.out.cell (j := 2) rfl
                  have x3 : w9.cell? ⟨k6, 3, none⟩ = some (.int .i64 (n3 : Int)) := HXX.out.cell (j := 3) rfl
                  have x4 : w9.cell? ⟨k6, 4, none⟩ = some (.int .i64 (n4 : Int)) := HXX.out.cell (j := 4) rfl
                  have x5 : w9.cell? ⟨k6, 5, none⟩ = some (.int .i64 (n5 : Int)) := HXX.out.cell (j := 5) rfl
                  have x6 : w9.cell? ⟨k6, 6, none⟩ = some (.int .i64 (n6 : Int)) := HXX.out.cell (j := 6) rfl
                  have x7 : w9.cell? ⟨k6, 7, none⟩ = some (.int .i64 (n7 : Int)) := HXX.out.cell (j := 7) rfl
                  have x8 : w9.cell? ⟨k6, 8, none⟩ = some (.int .i64 (n8 : Int)) := HXX.out.cell (j := 8) rfl
                  have x9 : w9.cell? ⟨k6, 9, none⟩ = some (.int .i64 (n9 : Int)) := HXX.out.cell (j := 9) rfl
                  have x10 : w9.cell? ⟨k6, 10, none⟩ = some (.slice A7 m7.length c7) := HXX.out.cell (j := 10) rfl
                  have x11 : w9.cell? ⟨k6, 11, none⟩ = some (.slice X nm.length cx) := HXX.out.cell (j := 11) rfl
                  go_wp2_with fail
                  have hcd : ∀ a0 a1 a2 a3 a4 a5 a6 a7 a8 a9 a10 a11, Bytes ((((((((((((w9.setCell ⟨w.heap.size, 0, none⟩ a0).setCell ⟨w.heap.size, 1, none⟩ a1).setCell ⟨w.heap.size, 2, none⟩ a2).setCell ⟨w.heap.size, 3, none⟩ a3).setCell ⟨w.heap.size, 4, none⟩ a4).setCell ⟨w.heap.size, 5, none⟩ a5).setCell ⟨w.heap.size, 6, none⟩ a6).setCell ⟨w.heap.size, 7, none⟩ a7).setCell ⟨w.heap.size, 8, none⟩ a8).setCell ⟨w.heap.size, 9, none⟩ a9).setCell ⟨w.heap.size, 10, none⟩ a10).setCell ⟨w.heap.size, 11, none⟩ a11) A7 m7 := fun a0 a1 a2 a3 a4 a5 a6 a7 a8 a9 a10 a11 => by
                    rcases HLS.out.ha with h | h
                    · rw [h]; exact Cells.nil _ _
                    · exact cells12 HD9.out (fun k hk => by have := (h k hk).1; have := HLS.out.hg; have := HLS.out.hk; omega) _ _ _ _ _ _ _ _ _ _ _ _
                  refine bodyPost_ret (res89 (k := w.heap.size) (cs := rcells (rpOf [n0, n1, n2, n3, n4, n5, n6, n7, n8, n9] m7 nm) A7 c7 X cx) rfl (HZZ.out.set12 _ _ _ _ _ _ _ _ _ _ _ _) _ rfl) rfl (.inl ⟨_, A7, c7, X, cx, HYES.out, rfl, hid ⟨hcd _ _ _ _ _ _ _ _ _ _ _ _, HD7.out, cells12 HO9.out (fun k hk => by have := HOB.out k hk; have := HLS.out.hg; have := HLS.out.hk; have := HLS.out.hn; omega) _ _ _ _ _ _ _ _ _ _ _ _, below12 HB9.out (Nat.le_refl _) _ _ _ _ _ _ _ _ _ _ _ _⟩⟩)
              · have hne : (((endE r4.1 r4.2 : Nat) : Int) != 0) = true := by rw [bne_iff_ne]; omega
                have HNO : Hid (decR b = none) := hid (by rw [HDV.out, HRV.out, if_neg (by intro h; exact hen h.2.1)])
                clear hen
                have HZZ := HZZ0
                have zf := HZZ.out.free
                have z0 : wr.cell? ⟨w.heap.size, 0, none⟩ = some (.int .i64 0) := HZZ.out.cell (j := 0) rfl
                have z1 : wr.cell? ⟨w.heap.size, 1, none⟩ = some (.int .i64 0) := HZZ.out.cell (j := 1) rfl
                have z2 : wr.cell? ⟨w.heap.size, 2, none⟩ = some (.int .i64 0) := HZZ.out.cell (j := 2) rfl
                have z3 : wr.cell? ⟨w.heap.size, 3, none⟩ = some (.int .i64 0) := HZZ.out.cell (j := 3) rfl
                have z4 : wr.cell? ⟨w.heap.size, 4, none⟩ = some (.int .i64 0) := HZZ.out.cell (j := 4) rfl
                have z5 : wr.cell? ⟨w.heap.size, 5, none⟩ = some (.int .i64 0) := HZZ.out.cell (j := 5) rfl
                have z6 : wr.cell? ⟨w.heap.size, 6, none⟩ = some (.int .i64 0) := HZZ.out.cell (j := 6) rfl
                have z7 : wr.cell? ⟨w.heap.size, 7, none⟩ = some (.int .i64 0) := HZZ.out.cell (j := 7) rfl
                have z8 : wr.cell? ⟨w.heap.size, 8, none⟩ = some (.int .i64 0) := HZZ.out.cell (j := 8) rfl
                have z9 : wr.cell? ⟨w.heap.size, 9, none⟩ = some (.int .i64 0) := HZZ.out.cell (j := 9) rfl
                have z10 : wr.cell? ⟨w.heap.size, 10, none⟩ = some (.slice none 0 0) := HZZ.out.cell (j := 10) rfl
                have z11 : wr.cell? ⟨w.heap.size, 11, none⟩ = some (.slice none 0 0) := HZZ.out.cell (j := 11) rfl
                go_wp2_with fail
                refine HEC.out.mono ?_
                rintro e w5 ⟨rfl, hw5⟩
                rw [hw5]
                clear hw5 w5
                go_wp2_with fail
                refine bodyPost_ret (res89 (k := w.heap.size) (cs := rcells rpZero none 0 none 0) rfl (HZZ.out.set12 _ _ _ _ _ _ _ _ _ _ _ _) _ rfl) rfl (.inr ⟨HNO.out, rfl, hid (below12 HBB.out (Nat.le_refl _) _ _ _ _ _ _ _ _ _ _ _ _)⟩)
end Go.Proofs.Ytppbcdcmpcagdaa
