/- The law RedoPlays returns true at every input: commits and recoveries that the power cuts off, whatever a restart keeps. No condition. -/
import Derived.Test.YtppbcdcmpcagdaaRedoN
import Derived.Deep.CutBlock
namespace Go.Proofs.Ytppbcdcmpcagdaa
open Go.RowKit Go.CP

set_option maxHeartbeats 16000000 in
set_option maxRecDepth 100000 in
theorem redoPlays_in (w : World) (m n : Nat) (LA : Option Addr) (ss : List Stp) (ca : Nat) (hmn : 64 + (m : Int) % 100 = (n : Int)) (hm : (m : Int) ≤ 65535) (h1 : 64 ≤ n) (h2 : n ≤ 163) (hA : StepsF w LA ss) (hal : ss.length ≤ 2199023255488) :
    Calls Try.prog 38 #[.int .u16 m, .slice LA ss.length ca] w fun e w' => e = .returned (.bool true) ∧ Below w.heap.size w w' := by
  have HA := hid hA
  have HBEG := hid (begin_any n w h1 (by omega))
  have hni : (n : Int) ≤ 163 := by omega
  clear hA
  go_enter Try.func38, Try.ntmps38
  go_wp2_with fail
  refine HBEG.out.mono ?_
  clear HBEG
  rintro e w1 ⟨g, s, A, c, rfl, hd1, hb1, hg1, hs1, hA1⟩
  obtain ⟨w2, hw2⟩ : ∃ w2, w2 = w1.alloc (.cells #[.pointer (some ⟨g, 0, none⟩), .slice none 0 0, .slice none 0 0, .bool false] 175) := ⟨_, rfl⟩
  have HW2 := hid hw2
  have HBK : Hid (BlkR w2 w1.heap.size 175 [.pointer (some ⟨g, 0, none⟩), .slice none 0 0, .slice none 0 0, .bool false]) := hid (by rw [hw2]; exact BlkR.new w1 175 _)
  have HD2 : Hid (DriveIs w2 g s A c (logD n)) := hid (by rw [hw2]; exact hd1.alloc _)
  have HB2 : Hid (Below w.heap.size w w2) := hid (by rw [hw2]; exact hb1.alloc hb1.size _)
  have HL1 := hid hd1.lt
  have HG1 := hid (And.intro hg1 (And.intro hs1 hA1))
  have hz1 := hb1.size
  have hz2 : w2.heap.size = w1.heap.size + 1 := by rw [hw2]; simp
  have HZ := hid (And.intro hz1 hz2)
  clear hw2 hd1 hb1 hg1 hs1 hA1 hz1 hz2
  go_upto_region 3 with fail
  rw [← HW2.out]
  clear HW2
  generalize w1.heap.size = gb at HBK HL1 HZ ⊢
  have gc0 : w2.cell? ⟨gb, 0, none⟩ = some (.pointer (some ⟨g, 0, none⟩)) := HBK.out.cell (j := 0) rfl
  go_wp2_with fail
  refine (awake06_any w2).mono ?_
  rintro e w3 ⟨rfl, hb3⟩
  have HF3 : Hid (Fill w w3.heap.size gb g s A c (logD n) 0 none 0 w3) := hid (by
    have hz3 := hb3.size
    obtain ⟨l1, l2, l3⟩ := HL1.out
    obtain ⟨k1, k2, k3⟩ := HG1.out
    obtain ⟨z1, z2⟩ := HZ.out
    exact ⟨Go.CP.Own.none _ _ _ _, HD2.out.below hb3 (Nat.le_refl _), HBK.out.below hb3, below_t HB2.out hb3 HB2.out.size, ⟨by omega, by omega, by omega, fun k e => by have := l3 k e; omega, Nat.le_refl _⟩, ⟨z1, k1, k2, k3⟩, ⟨by omega, by omega, fun e => by have := l3 gb e; omega⟩⟩)
  have gc3 : w3.cell? ⟨gb, 0, none⟩ = some (.pointer (some ⟨g, 0, none⟩)) := HF3.out.blk.cell (j := 0) rfl
  clear gc0 hb3 HBK HD2 HB2 HL1 HG1 HZ
  go_wp2_with fail
  go_loopw [7] (fun iv' wr => ∃ (i : Nat) (NA : Option Addr) (nc : Nat), i ≤ n ∧ iv' = .int .i64 i ∧ Hid (Fill w w3.heap.size gb g s A c (logD n) i NA nc wr)) (fun iv' _ => n - (intOf iv').toNat)
  case atStart => exact ⟨0, none, 0, by omega, rfl, HF3⟩
  case round =>
    clear HF3 gc3
    obtain ⟨i, NA, nc, hi, rfl, HFL⟩ := hrel
    by_cases hlt : i < n
    · as_aux_lemma =>
        have hii : (i : Int) < (n : Int) := by omega
        have c1 : wr.cell? ⟨gb, 1, none⟩ = some (.slice NA i nc) := HFL.out.blk.cell (j := 1) rfl
        go_upto_region 8 with fail
        refine wp_region_held_drew (S := fun _ => True) (by kernel_rfl) trivial (fun hHeld => ?_)
        refine wpAnyH_take (i := 0) (oi := { dst := some 37, op := Op.move (Operand.tmp 6), type := 173, pos := "law.go:127", after := #[], guard := none }) (v := .pointer (some ⟨gb, 0, none⟩)) rfl (by kernel_rfl) (by kernel_rfl) (by kernel_rfl) (fun _ _ _ h => h) (Or.inl ⟨by rfl, fun W hSw => ?_⟩) hHeld ?_
        · dsimp only at hSw
          go_simp
        try simp only [Act.put, List.setIfInBounds_toArray, List.set_cons_zero, List.set_cons_succ]
        refine wpAnyH_take (i := 1) (oi := { dst := some 38, op := Op.move (Operand.tmp 6), type := 173, pos := "law.go:127", after := #[], guard := none }) (v := .pointer (some ⟨gb, 0, none⟩)) rfl (by kernel_rfl) (by kernel_rfl) (by kernel_rfl) (fun _ _ _ h => h) (Or.inl ⟨by rfl, fun W hSw => ?_⟩) hHeld ?_
        · dsimp only at hSw
          go_simp
        try simp only [Act.put, List.setIfInBounds_toArray, List.set_cons_zero, List.set_cons_succ]
        refine wpAnyH_take (i := 2) (oi := { dst := some 39, op := Op.nilCheck (Operand.tmp 38), type := 0, pos := "law.go:127", after := #[{ on := 1, ground := Ground.data }], guard := none }) (v := .pointer (some ⟨gb, 0, none⟩)) rfl (by kernel_rfl) (by kernel_rfl) (by kernel_rfl) (fun _ _ _ h => h) (Or.inl ⟨by rfl, fun W hSw => ?_⟩) hHeld ?_
        · dsimp only at hSw
          go_simp
        try simp only [Act.put, List.setIfInBounds_toArray, List.set_cons_zero, List.set_cons_succ]
        refine wpAnyH_take (i := 3) (oi := { dst := some 40, op := Op.fieldAddr 175 (Operand.tmp 39) 1, type := 0, pos := "law.go:127", after := #[{ on := 2, ground := Ground.data }], guard := none }) (v := .pointer (some ⟨gb, 1, none⟩)) rfl (by kernel_rfl) (by kernel_rfl) (by kernel_rfl) (fun _ _ _ h => h) (Or.inl ⟨by rfl, fun W hSw => ?_⟩) hHeld ?_
        · dsimp only at hSw
          go_simp
        try simp only [Act.put, List.setIfInBounds_toArray, List.set_cons_zero, List.set_cons_succ]
        refine wpAnyH_ready (rs := [4, 5]) (by kernel_rfl) (by simp) (AllReadyH.cons (o := { dst := some 41, op := Op.load 110 (Operand.tmp 40), type := 110, pos := "law.go:127", after := #[{ on := 3, ground := Ground.data }], guard := none }) rfl (fun K hK => ?_) (AllReadyH.cons (o := { dst := some 42, op := Op.makeSlice 22 (Operand.const (Value.int IntKind.i64 128)) (Operand.const (Value.int IntKind.i64 128)), type := 22, pos := "law.go:127", after := #[], guard := none }) rfl (fun K hK => ?_) AllReadyH.nil))
        · go_simp
          refine hK.out _ _ trivial (fun hHeld => ?_)
          clear hK K
          try simp only [Act.put, List.setIfInBounds_toArray, List.set_cons_zero, List.set_cons_succ]
          refine wpAnyH_ready (rs := [5]) (by kernel_rfl) (by simp) (AllReadyH.cons (o := { dst := some 42, op := Op.makeSlice 22 (Operand.const (Value.int IntKind.i64 128)) (Operand.const (Value.int IntKind.i64 128)), type := 22, pos := "law.go:127", after := #[], guard := none }) rfl (fun K hK => ?_) AllReadyH.nil)
          refine gst_zeros (by rfl) (by rfl) ?_
          intro w6 ho6 hb6 hs6
          refine hK.out _ _ trivial (fun hHeld => ?_)
          clear hK K
          try simp only [Act.put, List.setIfInBounds_toArray, List.set_cons_zero, List.set_cons_succ]
          have HB6 := hid (below_t (Below.drew (Below.refl wr.heap.size wr)) hb6 (Nat.le_refl _))
          have c16 : w6.cell? ⟨gb, 1, none⟩ = some (.slice NA i nc) := (HFL.out.blk.below HB6.out).cell (j := 1) rfl
          have hgb6 : gb < w6.heap.size := World.block_lt_of_cell? w6 _ c16
          have hcv6 : (convert 22 9 (.slice (some ⟨wr.heap.size, 0, none⟩) 128 128)).run Try.prog w6 = .ok (.string (bstr zG)) w6 := by have := cv_bytes (l := zG) 128 ho6; rwa [zG_len] at this
          clear ho6 hb6 hs6
          refine wpAnyH_ready (rs := [6]) (by kernel_rfl) (by simp) (AllReadyH.cons (o := { dst := some 43, op := Op.convert 22 9 (Operand.tmp 42), type := 9, pos := "law.go:127", after := #[{ on := 5, ground := Ground.data }], guard := none }) rfl (fun K hK => ?_) AllReadyH.nil)
          go_simp
          refine hK.out _ _ trivial (fun hHeld => ?_)
          clear hK K
          try simp only [Act.put, List.setIfInBounds_toArray, List.set_cons_zero, List.set_cons_succ]
          refine wpAnyH_ready (rs := [7]) (by kernel_rfl) (by simp) (AllReadyH.cons (o := { dst := some 44, op := Op.buildSlice 110 1 #[(0, Operand.tmp 43)], type := 110, pos := "law.go:127", after := #[{ on := 6, ground := Ground.data }], guard := none }) rfl (fun K hK => ?_) AllReadyH.nil)
          go_simp
          refine hK.out _ _ trivial (fun hHeld => ?_)
          clear hK K
          try simp only [Act.put, List.setIfInBounds_toArray, List.set_cons_zero, List.set_cons_succ]
          refine wpAnyH_ready (rs := [8]) (by kernel_rfl) (by simp) (AllReadyH.cons (o := { dst := some 45, op := Op.call { callee := Callee.builtin Builtin.append, args := #[Operand.tmp 41, Operand.tmp 44], argTypes := #[110, 110] }, type := 110, pos := "law.go:127", after := #[{ on := 4, ground := Ground.data }, { on := 7, ground := Ground.data }], guard := none }) rfl (fun K hK => ?_) AllReadyH.nil)
          refine gst_strs (m := 1) (by rfl) (.tmp 41) (.tmp 44) 110 (by rfl) w3.heap.size (by rfl) ((HFL.out.own.below HB6.out (Nat.le_refl _)).alloc (.cells #[svR zG] 9)) (by rfl) (Src.one (w := w6) Try.underlying110 rfl) (by omega) (by have := HFL.out.lts.2.2.2.2; have := HB6.out.size; simp; omega) ?_
          intro A8 c8 w8 ho8 hg8 hA8
          refine hK.out _ _ trivial (fun hHeld => ?_)
          clear hK K
          try simp only [Act.put, List.setIfInBounds_toArray, List.set_cons_zero, List.set_cons_succ]
          obtain ⟨⟨c18, f18⟩, hF8⟩ := HFL.out.step (HB6.out.alloc HB6.out.size (.cells #[svR zG] 9)) hg8 ho8
          have HF8 := hid hF8
          clear ho8 hg8 hA8 hF8 c16 hcv6 hgb6
          refine wpAnyH_take (i := 9) (oi := { dst := some 46, op := Op.nilCheck (Operand.tmp 37), type := 0, pos := "law.go:127", after := #[{ on := 0, ground := Ground.data }, { on := 0, ground := Ground.phase }, { on := 1, ground := Ground.phase }, { on := 2, ground := Ground.phase }, { on := 3, ground := Ground.phase }, { on := 4, ground := Ground.phase }, { on := 5, ground := Ground.phase }, { on := 6, ground := Ground.phase }, { on := 7, ground := Ground.phase }, { on := 8, ground := Ground.phase }], guard := none }) (v := .pointer (some ⟨gb, 0, none⟩)) rfl (by kernel_rfl) (by kernel_rfl) (by kernel_rfl) (fun _ _ _ h => h) (Or.inl ⟨by rfl, fun W hSw => ?_⟩) hHeld ?_
          · dsimp only at hSw
            go_simp
          try simp only [Act.put, List.setIfInBounds_toArray, List.set_cons_zero, List.set_cons_succ]
          refine wpAnyH_take (i := 10) (oi := { dst := some 47, op := Op.fieldAddr 175 (Operand.tmp 46) 1, type := 0, pos := "law.go:127", after := #[{ on := 9, ground := Ground.data }, { on := 0, ground := Ground.phase }, { on := 1, ground := Ground.phase }, { on := 2, ground := Ground.phase }, { on := 3, ground := Ground.phase }, { on := 4, ground := Ground.phase }, { on := 5, ground := Ground.phase }, { on := 6, ground := Ground.phase }, { on := 7, ground := Ground.phase }, { on := 8, ground := Ground.phase }], guard := none }) (v := .pointer (some ⟨gb, 1, none⟩)) rfl (by kernel_rfl) (by kernel_rfl) (by kernel_rfl) (fun _ _ _ h => h) (Or.inl ⟨by rfl, fun W hSw => ?_⟩) hHeld ?_
          · dsimp only at hSw
            go_simp
          try simp only [Act.put, List.setIfInBounds_toArray, List.set_cons_zero, List.set_cons_succ]
          refine wpAnyH_ready (rs := [11]) (by kernel_rfl) (by simp) (AllReadyH.cons (o := { dst := none, op := Op.store 110 (Operand.tmp 47) (Operand.tmp 45), type := 0, pos := "law.go:127", after := #[{ on := 10, ground := Ground.data }, { on := 8, ground := Ground.data }, { on := 8, ground := Ground.chain }, { on := 0, ground := Ground.phase }, { on := 1, ground := Ground.phase }, { on := 2, ground := Ground.phase }, { on := 3, ground := Ground.phase }, { on := 4, ground := Ground.phase }, { on := 5, ground := Ground.phase }, { on := 6, ground := Ground.phase }, { on := 7, ground := Ground.phase }, { on := 8, ground := Ground.phase }], guard := none }) rfl (fun K hK => ?_) AllReadyH.nil)
          go_simp
          refine hK.out _ _ trivial (fun hHeld => ?_)
          clear hK K
          try simp only [Act.put, List.setIfInBounds_toArray, List.set_cons_zero, List.set_cons_succ]
          refine wpAnyH_done (by kernel_rfl) ?_ _
          go_wp2_with fail
          go_roundw
          case rel => exact ⟨i + 1, A8, c8, by omega, by go_num, hid HF8.out⟩
          case measure => simp [intOf]; omega
        · refine gst_zeros (by rfl) (by rfl) ?_
          intro w6 ho6 hb6 hs6
          refine hK.out _ _ trivial (fun hHeld => ?_)
          clear hK K
          try simp only [Act.put, List.setIfInBounds_toArray, List.set_cons_zero, List.set_cons_succ]
          have HB6 := hid (below_t (Below.drew (Below.refl wr.heap.size wr)) hb6 (Nat.le_refl _))
          have c16 : w6.cell? ⟨gb, 1, none⟩ = some (.slice NA i nc) := (HFL.out.blk.below HB6.out).cell (j := 1) rfl
          have hgb6 : gb < w6.heap.size := World.block_lt_of_cell? w6 _ c16
          have hcv6 : (convert 22 9 (.slice (some ⟨wr.heap.size, 0, none⟩) 128 128)).run Try.prog w6 = .ok (.string (bstr zG)) w6 := by have := cv_bytes (l := zG) 128 ho6; rwa [zG_len] at this
          clear ho6 hb6 hs6
          refine wpAnyH_ready (rs := [4, 6]) (by kernel_rfl) (by simp) (AllReadyH.cons (o := { dst := some 41, op := Op.load 110 (Operand.tmp 40), type := 110, pos := "law.go:127", after := #[{ on := 3, ground := Ground.data }], guard := none }) rfl (fun K hK => ?_) (AllReadyH.cons (o := { dst := some 43, op := Op.convert 22 9 (Operand.tmp 42), type := 9, pos := "law.go:127", after := #[{ on := 5, ground := Ground.data }], guard := none }) rfl (fun K hK => ?_) AllReadyH.nil))
          · go_simp
            refine hK.out _ _ trivial (fun hHeld => ?_)
            clear hK K
            try simp only [Act.put, List.setIfInBounds_toArray, List.set_cons_zero, List.set_cons_succ]
            refine wpAnyH_ready (rs := [6]) (by kernel_rfl) (by simp) (AllReadyH.cons (o := { dst := some 43, op := Op.convert 22 9 (Operand.tmp 42), type := 9, pos := "law.go:127", after := #[{ on := 5, ground := Ground.data }], guard := none }) rfl (fun K hK => ?_) AllReadyH.nil)
            go_simp
            refine hK.out _ _ trivial (fun hHeld => ?_)
            clear hK K
            try simp only [Act.put, List.setIfInBounds_toArray, List.set_cons_zero, List.set_cons_succ]
            refine wpAnyH_ready (rs := [7]) (by kernel_rfl) (by simp) (AllReadyH.cons (o := { dst := some 44, op := Op.buildSlice 110 1 #[(0, Operand.tmp 43)], type := 110, pos := "law.go:127", after := #[{ on := 6, ground := Ground.data }], guard := none }) rfl (fun K hK => ?_) AllReadyH.nil)
            go_simp
            refine hK.out _ _ trivial (fun hHeld => ?_)
            clear hK K
            try simp only [Act.put, List.setIfInBounds_toArray, List.set_cons_zero, List.set_cons_succ]
            refine wpAnyH_ready (rs := [8]) (by kernel_rfl) (by simp) (AllReadyH.cons (o := { dst := some 45, op := Op.call { callee := Callee.builtin Builtin.append, args := #[Operand.tmp 41, Operand.tmp 44], argTypes := #[110, 110] }, type := 110, pos := "law.go:127", after := #[{ on := 4, ground := Ground.data }, { on := 7, ground := Ground.data }], guard := none }) rfl (fun K hK => ?_) AllReadyH.nil)
            refine gst_strs (m := 1) (by rfl) (.tmp 41) (.tmp 44) 110 (by rfl) w3.heap.size (by rfl) ((HFL.out.own.below HB6.out (Nat.le_refl _)).alloc (.cells #[svR zG] 9)) (by rfl) (Src.one (w := w6) Try.underlying110 rfl) (by omega) (by have := HFL.out.lts.2.2.2.2; have := HB6.out.size; simp; omega) ?_
            intro A8 c8 w8 ho8 hg8 hA8
            refine hK.out _ _ trivial (fun hHeld => ?_)
            clear hK K
            try simp only [Act.put, List.setIfInBounds_toArray, List.set_cons_zero, List.set_cons_succ]
            obtain ⟨⟨c18, f18⟩, hF8⟩ := HFL.out.step (HB6.out.alloc HB6.out.size (.cells #[svR zG] 9)) hg8 ho8
            have HF8 := hid hF8
            clear ho8 hg8 hA8 hF8 c16 hcv6 hgb6
            refine wpAnyH_take (i := 9) (oi := { dst := some 46, op := Op.nilCheck (Operand.tmp 37), type := 0, pos := "law.go:127", after := #[{ on := 0, ground := Ground.data }, { on := 0, ground := Ground.phase }, { on := 1, ground := Ground.phase }, { on := 2, ground := Ground.phase }, { on := 3, ground := Ground.phase }, { on := 4, ground := Ground.phase }, { on := 5, ground := Ground.phase }, { on := 6, ground := Ground.phase }, { on := 7, ground := Ground.phase }, { on := 8, ground := Ground.phase }], guard := none }) (v := .pointer (some ⟨gb, 0, none⟩)) rfl (by kernel_rfl) (by kernel_rfl) (by kernel_rfl) (fun _ _ _ h => h) (Or.inl ⟨by rfl, fun W hSw => ?_⟩) hHeld ?_
            · dsimp only at hSw
              go_simp
            try simp only [Act.put, List.setIfInBounds_toArray, List.set_cons_zero, List.set_cons_succ]
            refine wpAnyH_take (i := 10) (oi := { dst := some 47, op := Op.fieldAddr 175 (Operand.tmp 46) 1, type := 0, pos := "law.go:127", after := #[{ on := 9, ground := Ground.data }, { on := 0, ground := Ground.phase }, { on := 1, ground := Ground.phase }, { on := 2, ground := Ground.phase }, { on := 3, ground := Ground.phase }, { on := 4, ground := Ground.phase }, { on := 5, ground := Ground.phase }, { on := 6, ground := Ground.phase }, { on := 7, ground := Ground.phase }, { on := 8, ground := Ground.phase }], guard := none }) (v := .pointer (some ⟨gb, 1, none⟩)) rfl (by kernel_rfl) (by kernel_rfl) (by kernel_rfl) (fun _ _ _ h => h) (Or.inl ⟨by rfl, fun W hSw => ?_⟩) hHeld ?_
            · dsimp only at hSw
              go_simp
            try simp only [Act.put, List.setIfInBounds_toArray, List.set_cons_zero, List.set_cons_succ]
            refine wpAnyH_ready (rs := [11]) (by kernel_rfl) (by simp) (AllReadyH.cons (o := { dst := none, op := Op.store 110 (Operand.tmp 47) (Operand.tmp 45), type := 0, pos := "law.go:127", after := #[{ on := 10, ground := Ground.data }, { on := 8, ground := Ground.data }, { on := 8, ground := Ground.chain }, { on := 0, ground := Ground.phase }, { on := 1, ground := Ground.phase }, { on := 2, ground := Ground.phase }, { on := 3, ground := Ground.phase }, { on := 4, ground := Ground.phase }, { on := 5, ground := Ground.phase }, { on := 6, ground := Ground.phase }, { on := 7, ground := Ground.phase }, { on := 8, ground := Ground.phase }], guard := none }) rfl (fun K hK => ?_) AllReadyH.nil)
            go_simp
            refine hK.out _ _ trivial (fun hHeld => ?_)
            clear hK K
            try simp only [Act.put, List.setIfInBounds_toArray, List.set_cons_zero, List.set_cons_succ]
            refine wpAnyH_done (by kernel_rfl) ?_ _
            go_wp2_with fail
            go_roundw
            case rel => exact ⟨i + 1, A8, c8, by omega, by go_num, hid HF8.out⟩
            case measure => simp [intOf]; omega
          · go_simp
            refine hK.out _ _ trivial (fun hHeld => ?_)
            clear hK K
            try simp only [Act.put, List.setIfInBounds_toArray, List.set_cons_zero, List.set_cons_succ]
            refine wpAnyH_ready (rs := [4, 7]) (by kernel_rfl) (by simp) (AllReadyH.cons (o := { dst := some 41, op := Op.load 110 (Operand.tmp 40), type := 110, pos := "law.go:127", after := #[{ on := 3, ground := Ground.data }], guard := none }) rfl (fun K hK => ?_) (AllReadyH.cons (o := { dst := some 44, op := Op.buildSlice 110 1 #[(0, Operand.tmp 43)], type := 110, pos := "law.go:127", after := #[{ on := 6, ground := Ground.data }], guard := none }) rfl (fun K hK => ?_) AllReadyH.nil))
            · go_simp
              refine hK.out _ _ trivial (fun hHeld => ?_)
              clear hK K
              try simp only [Act.put, List.setIfInBounds_toArray, List.set_cons_zero, List.set_cons_succ]
              refine wpAnyH_ready (rs := [7]) (by kernel_rfl) (by simp) (AllReadyH.cons (o := { dst := some 44, op := Op.buildSlice 110 1 #[(0, Operand.tmp 43)], type := 110, pos := "law.go:127", after := #[{ on := 6, ground := Ground.data }], guard := none }) rfl (fun K hK => ?_) AllReadyH.nil)
              go_simp
              refine hK.out _ _ trivial (fun hHeld => ?_)
              clear hK K
              try simp only [Act.put, List.setIfInBounds_toArray, List.set_cons_zero, List.set_cons_succ]
              refine wpAnyH_ready (rs := [8]) (by kernel_rfl) (by simp) (AllReadyH.cons (o := { dst := some 45, op := Op.call { callee := Callee.builtin Builtin.append, args := #[Operand.tmp 41, Operand.tmp 44], argTypes := #[110, 110] }, type := 110, pos := "law.go:127", after := #[{ on := 4, ground := Ground.data }, { on := 7, ground := Ground.data }], guard := none }) rfl (fun K hK => ?_) AllReadyH.nil)
              refine gst_strs (m := 1) (by rfl) (.tmp 41) (.tmp 44) 110 (by rfl) w3.heap.size (by rfl) ((HFL.out.own.below HB6.out (Nat.le_refl _)).alloc (.cells #[svR zG] 9)) (by rfl) (Src.one (w := w6) Try.underlying110 rfl) (by omega) (by have := HFL.out.lts.2.2.2.2; have := HB6.out.size; simp; omega) ?_
              intro A8 c8 w8 ho8 hg8 hA8
              refine hK.out _ _ trivial (fun hHeld => ?_)
              clear hK K
              try simp only [Act.put, List.setIfInBounds_toArray, List.set_cons_zero, List.set_cons_succ]
              obtain ⟨⟨c18, f18⟩, hF8⟩ := HFL.out.step (HB6.out.alloc HB6.out.size (.cells #[svR zG] 9)) hg8 ho8
              have HF8 := hid hF8
              clear ho8 hg8 hA8 hF8 c16 hcv6 hgb6
              refine wpAnyH_take (i := 9) (oi := { dst := some 46, op := Op.nilCheck (Operand.tmp 37), type := 0, pos := "law.go:127", after := #[{ on := 0, ground := Ground.data }, { on := 0, ground := Ground.phase }, { on := 1, ground := Ground.phase }, { on := 2, ground := Ground.phase }, { on := 3, ground := Ground.phase }, { on := 4, ground := Ground.phase }, { on := 5, ground := Ground.phase }, { on := 6, ground := Ground.phase }, { on := 7, ground := Ground.phase }, { on := 8, ground := Ground.phase }], guard := none }) (v := .pointer (some ⟨gb, 0, none⟩)) rfl (by kernel_rfl) (by kernel_rfl) (by kernel_rfl) (fun _ _ _ h => h) (Or.inl ⟨by rfl, fun W hSw => ?_⟩) hHeld ?_
              · dsimp only at hSw
                go_simp
              try simp only [Act.put, List.setIfInBounds_toArray, List.set_cons_zero, List.set_cons_succ]
              refine wpAnyH_take (i := 10) (oi := { dst := some 47, op := Op.fieldAddr 175 (Operand.tmp 46) 1, type := 0, pos := "law.go:127", after := #[{ on := 9, ground := Ground.data }, { on := 0, ground := Ground.phase }, { on := 1, ground := Ground.phase }, { on := 2, ground := Ground.phase }, { on := 3, ground := Ground.phase }, { on := 4, ground := Ground.phase }, { on := 5, ground := Ground.phase }, { on := 6, ground := Ground.phase }, { on := 7, ground := Ground.phase }, { on := 8, ground := Ground.phase }], guard := none }) (v := .pointer (some ⟨gb, 1, none⟩)) rfl (by kernel_rfl) (by kernel_rfl) (by kernel_rfl) (fun _ _ _ h => h) (Or.inl ⟨by rfl, fun W hSw => ?_⟩) hHeld ?_
              · dsimp only at hSw
                go_simp
              try simp only [Act.put, List.setIfInBounds_toArray, List.set_cons_zero, List.set_cons_succ]
              refine wpAnyH_ready (rs := [11]) (by kernel_rfl) (by simp) (AllReadyH.cons (o := { dst := none, op := Op.store 110 (Operand.tmp 47) (Operand.tmp 45), type := 0, pos := "law.go:127", after := #[{ on := 10, ground := Ground.data }, { on := 8, ground := Ground.data }, { on := 8, ground := Ground.chain }, { on := 0, ground := Ground.phase }, { on := 1, ground := Ground.phase }, { on := 2, ground := Ground.phase }, { on := 3, ground := Ground.phase }, { on := 4, ground := Ground.phase }, { on := 5, ground := Ground.phase }, { on := 6, ground := Ground.phase }, { on := 7, ground := Ground.phase }, { on := 8, ground := Ground.phase }], guard := none }) rfl (fun K hK => ?_) AllReadyH.nil)
              go_simp
              refine hK.out _ _ trivial (fun hHeld => ?_)
              clear hK K
              try simp only [Act.put, List.setIfInBounds_toArray, List.set_cons_zero, List.set_cons_succ]
              refine wpAnyH_done (by kernel_rfl) ?_ _
              go_wp2_with fail
              go_roundw
              case rel => exact ⟨i + 1, A8, c8, by omega, by go_num, hid HF8.out⟩
              case measure => simp [intOf]; omega
            · go_simp
              refine hK.out _ _ trivial (fun hHeld => ?_)
              clear hK K
              try simp only [Act.put, List.setIfInBounds_toArray, List.set_cons_zero, List.set_cons_succ]
              refine wpAnyH_ready (rs := [4]) (by kernel_rfl) (by simp) (AllReadyH.cons (o := { dst := some 41, op := Op.load 110 (Operand.tmp 40), type := 110, pos := "law.go:127", after := #[{ on := 3, ground := Ground.data }], guard := none }) rfl (fun K hK => ?_) AllReadyH.nil)
              go_simp
              refine hK.out _ _ trivial (fun hHeld => ?_)
              clear hK K
              try simp only [Act.put, List.setIfInBounds_toArray, List.set_cons_zero, List.set_cons_succ]
              refine wpAnyH_ready (rs := [8]) (by kernel_rfl) (by simp) (AllReadyH.cons (o := { dst := some 45, op := Op.call { callee := Callee.builtin Builtin.append, args := #[Operand.tmp 41, Operand.tmp 44], argTypes := #[110, 110] }, type := 110, pos := "law.go:127", after := #[{ on := 4, ground := Ground.data }, { on := 7, ground := Ground.data }], guard := none }) rfl (fun K hK => ?_) AllReadyH.nil)
              refine gst_strs (m := 1) (by rfl) (.tmp 41) (.tmp 44) 110 (by rfl) w3.heap.size (by rfl) ((HFL.out.own.below HB6.out (Nat.le_refl _)).alloc (.cells #[svR zG] 9)) (by rfl) (Src.one (w := w6) Try.underlying110 rfl) (by omega) (by have := HFL.out.lts.2.2.2.2; have := HB6.out.size; simp; omega) ?_
              intro A8 c8 w8 ho8 hg8 hA8
              refine hK.out _ _ trivial (fun hHeld => ?_)
              clear hK K
              try simp only [Act.put, List.setIfInBounds_toArray, List.set_cons_zero, List.set_cons_succ]
              obtain ⟨⟨c18, f18⟩, hF8⟩ := HFL.out.step (HB6.out.alloc HB6.out.size (.cells #[svR zG] 9)) hg8 ho8
              have HF8 := hid hF8
              clear ho8 hg8 hA8 hF8 c16 hcv6 hgb6
              refine wpAnyH_take (i := 9) (oi := { dst := some 46, op := Op.nilCheck (Operand.tmp 37), type := 0, pos := "law.go:127", after := #[{ on := 0, ground := Ground.data }, { on := 0, ground := Ground.phase }, { on := 1, ground := Ground.phase }, { on := 2, ground := Ground.phase }, { on := 3, ground := Ground.phase }, { on := 4, ground := Ground.phase }, { on := 5, ground := Ground.phase }, { on := 6, ground := Ground.phase }, { on := 7, ground := Ground.phase }, { on := 8, ground := Ground.phase }], guard := none }) (v := .pointer (some ⟨gb, 0, none⟩)) rfl (by kernel_rfl) (by kernel_rfl) (by kernel_rfl) (fun _ _ _ h => h) (Or.inl ⟨by rfl, fun W hSw => ?_⟩) hHeld ?_
              · dsimp only at hSw
                go_simp
              try simp only [Act.put, List.setIfInBounds_toArray, List.set_cons_zero, List.set_cons_succ]
              refine wpAnyH_take (i := 10) (oi := { dst := some 47, op := Op.fieldAddr 175 (Operand.tmp 46) 1, type := 0, pos := "law.go:127", after := #[{ on := 9, ground := Ground.data }, { on := 0, ground := Ground.phase }, { on := 1, ground := Ground.phase }, { on := 2, ground := Ground.phase }, { on := 3, ground := Ground.phase }, { on := 4, ground := Ground.phase }, { on := 5, ground := Ground.phase }, { on := 6, ground := Ground.phase }, { on := 7, ground := Ground.phase }, { on := 8, ground := Ground.phase }], guard := none }) (v := .pointer (some ⟨gb, 1, none⟩)) rfl (by kernel_rfl) (by kernel_rfl) (by kernel_rfl) (fun _ _ _ h => h) (Or.inl ⟨by rfl, fun W hSw => ?_⟩) hHeld ?_
              · dsimp only at hSw
                go_simp
              try simp only [Act.put, List.setIfInBounds_toArray, List.set_cons_zero, List.set_cons_succ]
              refine wpAnyH_ready (rs := [11]) (by kernel_rfl) (by simp) (AllReadyH.cons (o := { dst := none, op := Op.store 110 (Operand.tmp 47) (Operand.tmp 45), type := 0, pos := "law.go:127", after := #[{ on := 10, ground := Ground.data }, { on := 8, ground := Ground.data }, { on := 8, ground := Ground.chain }, { on := 0, ground := Ground.phase }, { on := 1, ground := Ground.phase }, { on := 2, ground := Ground.phase }, { on := 3, ground := Ground.phase }, { on := 4, ground := Ground.phase }, { on := 5, ground := Ground.phase }, { on := 6, ground := Ground.phase }, { on := 7, ground := Ground.phase }, { on := 8, ground := Ground.phase }], guard := none }) rfl (fun K hK => ?_) AllReadyH.nil)
              go_simp
              refine hK.out _ _ trivial (fun hHeld => ?_)
              clear hK K
              try simp only [Act.put, List.setIfInBounds_toArray, List.set_cons_zero, List.set_cons_succ]
              refine wpAnyH_done (by kernel_rfl) ?_ _
              go_wp2_with fail
              go_roundw
              case rel => exact ⟨i + 1, A8, c8, by omega, by go_num, hid HF8.out⟩
              case measure => simp [intOf]; omega
    · have hk : n = i := by omega
      have hik : ¬ (i : Int) < (n : Int) := by omega
      have HN2 := hid (And.intro h1 h2)
      subst hk
      obtain ⟨q, cur, rfl, -⟩ := HFL.out.own.open (by omega)
      have gc0 : wr.cell? ⟨gb, 0, none⟩ = some (.pointer (some ⟨g, 0, none⟩)) := HFL.out.blk.cell (j := 0) rfl
      have HGET := hid (get_new wr g s A c (logD n) HFL.out.drv (1 : Int) ((logD_calm h1 (by omega)).fit 1000000) 0 (headL []) (logD_get h1 (by omega)))
      have hlen := headL_len (l := []) (by decide)
      obtain ⟨hd, hhd⟩ : ∃ hd, headL [] = hd := ⟨_, rfl⟩
      rw [hhd] at HGET
      have HHD := hid hhd
      clear hi hlt hhd hlen
      go_wp2_with fail
      refine HGET.out.mono ?_
      clear HGET gc0
      rintro e w4 ⟨P, cp, rfl, HR4⟩
      have HF4 := hid (HFL.out.under HR4.out.2.1)
      have HQ4 : Hid (q < wr.heap.size) := hid (by have := (HFL.out.own.block q rfl).2; exact this)
      have HP4 := hid HR4.out.1
      have HPN := hid HR4.out.2.2
      have gc1 : w4.cell? ⟨gb, 1, none⟩ = some (.slice (some ⟨q, 0, none⟩) n nc) := HF4.out.blk.cell (j := 1) rfl
      have hqg : gb ≠ q := by have := (HF4.out.own.block q rfl).1; have := HF4.out.lts.1; omega
      have HS4 : Hid (∀ Wc, (∀ k, k ≠ q → Wc.heap[k]? = w4.heap[k]?) → Wc.cell? ⟨gb, 1, none⟩ = some (.slice (some ⟨q, 0, none⟩) n nc) ∧ Bytes Wc P hd) := hid fun Wc hk => by
        refine ⟨(World.cell?_of_block (w := w4) (hk gb hqg)).trans gc1, ?_⟩
        refine Cells.of_cell HP4.out fun b off u hu hb => ?_
        rw [← hu]
        exact World.cell?_of_block (w := w4) (hk b fun e => by have := HPN.out b hb; have := HQ4.out; omega)
      have hcv := fun Wc (hW : Wc.cell? ⟨gb, 1, none⟩ = some (.slice (some ⟨q, 0, none⟩) n nc) ∧ Bytes Wc P hd) => cv_bytes cp hW.2
      have hfr := HF4.out.own.free rfl 1
      have hd1 := own_cell HF4.out.own (j := 1) (v := svR zG) (by rw [List.getElem?_map, List.getElem?_replicate, if_pos (by omega)]; rfl)
      have hi64 : (1 : Int) < n := by omega
      have hi65 : 1 < n := by omega
      clear gc1 HFL HR4
      go_wp2_with fail
      go_region_held3 (fun Wc => Wc.cell? ⟨gb, 1, none⟩ = some (.slice (some ⟨q, 0, none⟩) n nc) ∧ Bytes Wc P hd)
        (first | exact HS4.out _ (fun _ _ => rfl) | exact HS4.out _ (fun _ hk => Below.heap_setCell _ _ _ _ hk) | assumption)
        (fail)
      have HG5 : Hid (GM (w4.setCell ⟨q, 1, none⟩ (.string (bstr hd))).drew w.heap.size gb g s A c (some ⟨q, 0, none⟩) nc none 0 ⟨logD n, (List.replicate n zG).set 1 hd, [], false⟩ ∧ Game.Ok ⟨logD n, (List.replicate n zG).set 1 hd, [], false⟩ n ∧ Below w.heap.size w (w4.setCell ⟨q, 1, none⟩ (.string (bstr hd))).drew) := hid (by
        refine ⟨(HF4.out.game hd).below (Below.drew (Below.refl _ _)), ?_, (HF4.out.below.setCell (p := ⟨q, 1, none⟩) ?_ _).drew⟩
        · rw [← HHD.out]; exact game_ok HN2.out.1 (by have := HN2.out.2; omega)
        · have := (HF4.out.own.block q rfl).1; have := HF4.out.lts.1; have := HF4.out.ges.1; show w.heap.size ≤ q; omega)
      generalize (w4.setCell ⟨q, 1, none⟩ (.string (bstr hd))).drew = w5 at HG5 ⊢
      clear HS4 hcv hfr hd1 HP4 HPN HF4 HQ4 HHD hqg
      go_wp2_with fail
      go_loopw [10] (fun iv' wr => ∃ k : Nat, k ≤ ss.length ∧ k ≤ 30 ∧ iv' = .int .i64 k ∧ ∃ (A' : Option Addr) (c' : Nat) (NA' : Option Addr) (nc' : Nat) (MA' : Option Addr) (mc' : Nat) (G' : Game), Hid (GM wr w.heap.size gb g s A' c' NA' nc' MA' mc' G' ∧ G'.Ok n ∧ Below w.heap.size w wr)) (fun iv' _ => ss.length - (intOf iv').toNat)
      case atStart => exact ⟨0, by omega, by omega, rfl, _, _, _, _, _, _, _, HG5⟩
      case round =>
        clear HG5
        obtain ⟨k, hk1, hk2, rfl, A', c', NA', nc', MA', mc', G', HG⟩ := hrel
        by_cases hlt : k < ss.length ∧ k < 30
        · obtain ⟨hl1, hl2⟩ := hlt
          obtain ⟨st, hst⟩ := get_of_lt ss hl1
          have hki : (k : Int) < (ss.length : Int) := by omega
          have hk30i : (k : Int) < 30 := by omega
          have HM := hid (List.mem_of_getElem? hst)
          obtain ⟨ab, ao, rfl, k0, k1, k2, k3⟩ := gsteps_at (Cells.below HA.out.cells HG.out.2.2 (Nat.le_refl _)) hst
          have hnum := HA.out.nums st HM.out
          have HNUM := hid hnum
          have HKP := hid (HA.out.keeps st HM.out)
          have HN22 := HN2
          clear hst
          go_upto_block 3 with fail
          go_cut [] from 63 to 214 (fun wc => ∃ (A' : Option Addr) (c' : Nat) (NA' : Option Addr) (nc' : Nat) (MA' : Option Addr) (mc' : Nat) (G' : Game), Hid (GM wc w.heap.size gb g s A' c' NA' nc' MA' mc' G' ∧ G'.Ok n ∧ Below w.heap.size w wc))
          case first =>
            obtain ⟨wb, hwb⟩ : ∃ wb, wb = wr.alloc (.cells #[.int .i64 st.what, .int .i64 st.n, .slice st.la st.ws.length st.cl, .slice st.ka st.keep.length st.ck] 176) := ⟨_, rfl⟩
            have HBX : Hid (BlkR wb wr.heap.size 176 [.int .i64 st.what, .int .i64 st.n, .slice st.la st.ws.length st.cl, .slice st.ka st.keep.length st.ck]) := hid (by rw [hwb]; exact BlkR.new wr 176 _)
            have HGB : Hid (GM wb w.heap.size gb g s A' c' NA' nc' MA' mc' G') := hid (by rw [hwb]; exact HG.out.1.below ((Below.refl _ _).alloc (Nat.le_refl _) _))
            have HBB : Hid (Below w.heap.size w wb) := hid (by rw [hwb]; exact HG.out.2.2.alloc HG.out.2.2.size _)
            have HOK := hid HG.out.2.1
            have HNB : Hid (gb ≠ wr.heap.size) := hid (by have := HG.out.1.blk.lt; omega)
            have HNA : Hid (wr.heap.size ≠ g ∧ wr.heap.size ≠ s ∧ blockOf A' ≠ some wr.heap.size) := hid (by
              have hl := HG.out.1.drv.lt
              exact ⟨by omega, by omega, fun e => by have := hl.2.2 _ e; omega⟩)
            have HWB := hid hwb
            go_upto_block 4 with fail
            clear hwb k0 k1 k2 k3 HG
            by_cases w0 : st.what = 0
            · have q0 : (st.what == 0) = true := by simpa using w0
              clear w0
              rw [← HWB.out]
              clear HWB
              obtain ⟨x, D', hr⟩ : ∃ x D', G'.d.commit (wl st.ws) = (x, D') := ⟨_, _, rfl⟩
              have HWY := hid (HOK.out.way (wl st.ws) hr)
              have HCM := hid fun Wc (hb : Below wb.heap.size wb Wc) => (HGB.out.below hb).commit (HOK.out.fit.mono (by decide)) st.la st.ws st.cl (HA.out.gfeed (below_t HBB.out hb HBB.out.size) HGB.out.base.1 HGB.out.base.2.1 HGB.out.base.2.2.2 HM.out) (by have := HKP.out.2.2; omega) hr
              have g0 := HGB.out.cells.1
              have b2 : wb.cell? ⟨wr.heap.size, 2, none⟩ = some (.slice st.la st.ws.length st.cl) := HBX.out.cell (j := 2) rfl
              clear hr
              go_wp2_with fail
              go_region_held3 (fun Wc => Wc.cell? ⟨gb, 0, none⟩ = some (.pointer (some ⟨g, 0, none⟩)) ∧ Wc.cell? ⟨wr.heap.size, 2, none⟩ = some (.slice st.la st.ws.length st.cl))
                (first | exact ⟨g0, b2⟩ | exact hc6 | assumption)
                (first
                  | (go_at_call 122; refine (HCM.out _ (by first | exact Below.refl _ _ | exact Below.drew (Below.refl _ _))).mono ?_; rintro e w6 ⟨rfl, A6, c6, HR6⟩; have hc6 : w6.cell? ⟨gb, 0, none⟩ = some (.pointer (some ⟨g, 0, none⟩)) ∧ w6.cell? ⟨wr.heap.size, 2, none⟩ = some (.slice st.la st.ws.length st.cl) := ⟨HR6.out.1.cells.1, HR6.out.2.cellAt HNA.out.1 HNA.out.2.1 HNA.out.2.2 b2⟩)
                  | fail "arm")
              have HG6 := hid HR6.out.1
              have HB6 := hid (HBB.out.trans (HGB.out.frame ((Drove.of_below (by first | exact Below.refl _ _ | exact Below.drew (Below.refl _ _))).trans HR6.out.2)))
              have b26 := hc6.2
              clear HR6 hc6 g0 b2 HCM HGB HBB HBX HNA
              have HCK := hid (check_any w6 n st.la st.ws st.cl (Cells.below (HA.out.rows st HM.out).1 HB6.out (Nat.le_refl _)) (by have := HKP.out.2.2; omega))
              obtain ⟨y, hy⟩ : ∃ y, checkE n (wl st.ws) = y := ⟨_, rfl⟩
              rw [hy] at HCK
              have HY := hid hy
              clear hy
              go_wp2_with fail
              refine HCK.out.mono ?_
              clear HCK
              rintro e w7 ⟨rfl, hb7⟩
              have HG7 := hid (HG6.out.below hb7)
              have HB7 := hid (below_t HB6.out hb7 HB6.out.size)
              have hb2 : w7.cell? ⟨wr.heap.size, 2, none⟩ = some (.slice st.la st.ws.length st.cl) := (hb7.cell (p := ⟨wr.heap.size, 2, none⟩) (World.block_lt_of_cell? w6 _ b26)).trans b26
              have g3 := HG7.out.cells.2.2.2
              dsimp only at g3
              have HWR : Hid (Wrs w7.drew st.la st.ws ∧ ∀ x ∈ st.ws, Bytes w7.drew x.a x.d) := hid ⟨Cells.below (HA.out.rows st HM.out).1 HB7.out.drew (Nat.le_refl _), fun r hr => Cells.below ((HA.out.rows st HM.out).2 r hr).1 HB7.out.drew (Nat.le_refl _)⟩
              have HNW : Hid (1 ≤ G'.now.length ∧ G'.now.length ≤ 1024) := hid (by have := HOK.out.big; have := HOK.out.now; omega)
              clear hb7 b26 HG6 HB6
              have hway := HWY.out
              clear HWY
              cases hway with
              | bad hw ht =>
                as_aux_lemma =>
                  obtain rfl : y = 1 := by rw [← HY.out]; exact checkE_of.1 ⟨hw, ht⟩
                  clear hw ht
                  go_wp2_with fail
                  go_meet
                  case rel => exact ⟨_, _, _, _, _, _, _, hid ⟨HG7.out, HOK.out, HB7.out⟩⟩
              | idle hw =>
                as_aux_lemma =>
                  obtain rfl : y = 0 := by rw [← HY.out]; exact checkE_of.2 fun h => h.1 hw
                  have h0 : st.ws = [] := by simpa [wl] using hw
                  have hl0 : (st.ws.length : Int) = 0 := by rw [h0]; rfl
                  have HIN : Hid (∀ x ∈ st.ws, 0 ≤ x.n ∧ x.n < (G'.now.length : Int)) := hid fun x hx => by rw [h0] at hx; cases hx
                  have HLE : Hid (st.ws.length ≤ 1000) := hid (by rw [h0]; simp)
                  have HOKN : Hid (Game.Ok { G' with d := G'.d, now := setAll G'.now (wl st.ws) } n) := hid (by rw [hw]; exact HOK.out)
                  clear h0 hw
                  cases ho : G'.off with
                  | true =>
                    as_aux_lemma =>
                      rw [ho] at g3
                      have hl1 : ¬ (0 : Int) < (st.ws.length : Int) := by omega
                      clear ho
                      go_wp2_with fail
                      go_meet
                      case rel => exact ⟨_, _, _, _, _, _, _, hid ⟨HG7.out, HOK.out, HB7.out⟩⟩
                  | false =>
                    as_aux_lemma =>
                      rw [ho] at g3
                      clear ho hl0
                      have HPUT := hid (gput_any w7.drew NA' G'.now nc' HG7.out.now HNW.out st.la st.ws st.cl HWR.out.1 HWR.out.2 HIN.out HLE.out)
                      have g1 : w7.cell? ⟨gb, 1, none⟩ = some (.slice NA' G'.now.length nc') := HG7.out.cells.2.1
                      go_wp2_with fail
                      refine wp_region_held_drew (S := fun Wc => Wc.cell? ⟨wr.heap.size, 2, none⟩ = some (.slice st.la st.ws.length st.cl)) (by kernel_rfl) hb2 (fun hHeld => ?_)
                      refine wpAnyH_take (i := 0) (oi := { dst := some 114, op := Op.move (Operand.tmp 6), type := 173, pos := "law.go:147", after := #[], guard := none }) (v := .pointer (some ⟨gb, 0, none⟩)) rfl (by kernel_rfl) (by kernel_rfl) (by kernel_rfl) (fun _ _ _ h => h) (Or.inl ⟨by rfl, fun W hSw => ?_⟩) hHeld ?_
                      · dsimp only at hSw
                        go_simp
                      try simp only [Act.put, List.setIfInBounds_toArray, List.set_cons_zero, List.set_cons_succ]
                      refine wpAnyH_take (i := 1) (oi := { dst := some 115, op := Op.move (Operand.tmp 6), type := 173, pos := "law.go:147", after := #[], guard := none }) (v := .pointer (some ⟨gb, 0, none⟩)) rfl (by kernel_rfl) (by kernel_rfl) (by kernel_rfl) (fun _ _ _ h => h) (Or.inl ⟨by rfl, fun W hSw => ?_⟩) hHeld ?_
                      · dsimp only at hSw
                        go_simp
                      try simp only [Act.put, List.setIfInBounds_toArray, List.set_cons_zero, List.set_cons_succ]
                      refine wpAnyH_take (i := 2) (oi := { dst := some 116, op := Op.nilCheck (Operand.tmp 115), type := 0, pos := "law.go:147", after := #[{ on := 1, ground := Ground.data }], guard := none }) (v := .pointer (some ⟨gb, 0, none⟩)) rfl (by kernel_rfl) (by kernel_rfl) (by kernel_rfl) (fun _ _ _ h => h) (Or.inl ⟨by rfl, fun W hSw => ?_⟩) hHeld ?_
                      · dsimp only at hSw
                        go_simp
                      try simp only [Act.put, List.setIfInBounds_toArray, List.set_cons_zero, List.set_cons_succ]
                      refine wpAnyH_take (i := 3) (oi := { dst := some 117, op := Op.fieldAddr 175 (Operand.tmp 116) 1, type := 0, pos := "law.go:147", after := #[{ on := 2, ground := Ground.data }], guard := none }) (v := .pointer (some ⟨gb, 1, none⟩)) rfl (by kernel_rfl) (by kernel_rfl) (by kernel_rfl) (fun _ _ _ h => h) (Or.inl ⟨by rfl, fun W hSw => ?_⟩) hHeld ?_
                      · dsimp only at hSw
                        go_simp
                      try simp only [Act.put, List.setIfInBounds_toArray, List.set_cons_zero, List.set_cons_succ]
                      refine wpAnyH_take (i := 5) (oi := { dst := some 119, op := Op.fieldAddr 176 (Operand.tmp 11) 2, type := 0, pos := "law.go:147", after := #[], guard := none }) (v := .pointer (some ⟨wr.heap.size, 2, none⟩)) rfl (by kernel_rfl) (by kernel_rfl) (by kernel_rfl) (fun _ _ _ h => h) (Or.inl ⟨by rfl, fun W hSw => ?_⟩) hHeld ?_
                      · dsimp only at hSw
                        go_simp
                      try simp only [Act.put, List.setIfInBounds_toArray, List.set_cons_zero, List.set_cons_succ]
                      refine wpAnyH_take (i := 6) (oi := { dst := some 120, op := Op.load 149 (Operand.tmp 119), type := 149, pos := "law.go:147", after := #[{ on := 5, ground := Ground.data }], guard := none }) (v := .slice st.la st.ws.length st.cl) rfl (by kernel_rfl) (by kernel_rfl) (by kernel_rfl) (fun _ _ _ h => h) (Or.inl ⟨by rfl, fun W hSw => ?_⟩) hHeld ?_
                      · dsimp only at hSw
                        go_simp
                      try simp only [Act.put, List.setIfInBounds_toArray, List.set_cons_zero, List.set_cons_succ]
                      refine wpAnyH_ready (rs := [4]) (by kernel_rfl) (by simp) (AllReadyH.cons (o := { dst := some 118, op := Op.load 110 (Operand.tmp 117), type := 110, pos := "law.go:147", after := #[{ on := 3, ground := Ground.data }], guard := none }) rfl (fun K hK => ?_) AllReadyH.nil)
                      go_simp
                      refine hK.out _ _ (hHeld) (fun hHeld => ?_)
                      clear hK K
                      try simp only [Act.put, List.setIfInBounds_toArray, List.set_cons_zero, List.set_cons_succ]
                      refine wpAnyH_ready (rs := [7]) (by kernel_rfl) (by simp) (AllReadyH.cons (o := { dst := some 121, op := Op.call { callee := Callee.value (Operand.func 125), args := #[Operand.tmp 118, Operand.tmp 120], argTypes := #[110, 149] }, type := 110, pos := "law.go:147", after := #[{ on := 4, ground := Ground.data }, { on := 6, ground := Ground.data }], guard := none }) rfl (fun K hK => ?_) AllReadyH.nil)
                      go_simp
                      refine HPUT.out.mono ?_
                      clear HPUT
                      rintro e w8 ⟨X, cx, rfl, HR8⟩
                      have hb28 := (HR8.out.2.cell (p := ⟨wr.heap.size, 2, none⟩) (World.block_lt_of_cell? w7 _ hb2)).trans hb2
                      go_simp
                      refine hK.out _ _ (hb28) (fun hHeld => ?_)
                      clear hK K
                      try simp only [Act.put, List.setIfInBounds_toArray, List.set_cons_zero, List.set_cons_succ]
                      have HG8 := hid ((HG7.out.below (Below.drew (Below.refl _ _))).putNow HR8.out.2 HR8.out.1)
                      have HB8 := hid ((HB7.out.drew.trans (HR8.out.2.mono (HG7.out.below (Below.drew (Below.refl w7.heap.size w7))).size)).setCell (p := ⟨gb, 1, none⟩) HG7.out.base.2.2.1 (.slice X (setAll G'.now (wl st.ws)).length cx))
                      have g18 := ((HG7.out.below (Below.drew (Below.refl _ _))).below HR8.out.2).cells.2.1
                      have f18 := ((HG7.out.below (Below.drew (Below.refl _ _))).below HR8.out.2).blk.free 1
                      clear HR8 g1
                      refine wpAnyH_take (i := 8) (oi := { dst := some 122, op := Op.nilCheck (Operand.tmp 114), type := 0, pos := "law.go:147", after := #[{ on := 0, ground := Ground.data }, { on := 0, ground := Ground.phase }, { on := 1, ground := Ground.phase }, { on := 2, ground := Ground.phase }, { on := 3, ground := Ground.phase }, { on := 4, ground := Ground.phase }, { on := 5, ground := Ground.phase }, { on := 6, ground := Ground.phase }, { on := 7, ground := Ground.phase }], guard := none }) (v := .pointer (some ⟨gb, 0, none⟩)) rfl (by kernel_rfl) (by kernel_rfl) (by kernel_rfl) (fun _ _ _ h => h) (Or.inl ⟨by rfl, fun W hSw => ?_⟩) hHeld ?_
                      · dsimp only at hSw
                        go_simp
                      try simp only [Act.put, List.setIfInBounds_toArray, List.set_cons_zero, List.set_cons_succ]
                      refine wpAnyH_take (i := 9) (oi := { dst := some 123, op := Op.fieldAddr 175 (Operand.tmp 122) 1, type := 0, pos := "law.go:147", after := #[{ on := 8, ground := Ground.data }, { on := 0, ground := Ground.phase }, { on := 1, ground := Ground.phase }, { on := 2, ground := Ground.phase }, { on := 3, ground := Ground.phase }, { on := 4, ground := Ground.phase }, { on := 5, ground := Ground.phase }, { on := 6, ground := Ground.phase }, { on := 7, ground := Ground.phase }], guard := none }) (v := .pointer (some ⟨gb, 1, none⟩)) rfl (by kernel_rfl) (by kernel_rfl) (by kernel_rfl) (fun _ _ _ h => h) (Or.inl ⟨by rfl, fun W hSw => ?_⟩) hHeld ?_
                      · dsimp only at hSw
                        go_simp
                      try simp only [Act.put, List.setIfInBounds_toArray, List.set_cons_zero, List.set_cons_succ]
                      refine wpAnyH_ready (rs := [10]) (by kernel_rfl) (by simp) (AllReadyH.cons (o := { dst := none, op := Op.store 110 (Operand.tmp 123) (Operand.tmp 121), type := 0, pos := "law.go:147", after := #[{ on := 9, ground := Ground.data }, { on := 7, ground := Ground.data }, { on := 7, ground := Ground.chain }, { on := 0, ground := Ground.phase }, { on := 1, ground := Ground.phase }, { on := 2, ground := Ground.phase }, { on := 3, ground := Ground.phase }, { on := 4, ground := Ground.phase }, { on := 5, ground := Ground.phase }, { on := 6, ground := Ground.phase }, { on := 7, ground := Ground.phase }], guard := none }) rfl (fun K hK => ?_) AllReadyH.nil)
                      go_simp
                      refine hK.out _ _ (cell_other HNB.out hb28 1) (fun hHeld => ?_)
                      clear hK K
                      try simp only [Act.put, List.setIfInBounds_toArray, List.set_cons_zero, List.set_cons_succ]
                      refine wpAnyH_done (by kernel_rfl) ?_ _
                      go_wp2_with fail
                      go_meet
                      case rel => exact ⟨_, _, _, _, _, _, _, hid ⟨HG8.out, HOKN.out, HB8.out⟩⟩
              | dead hw ht ho =>
                as_aux_lemma =>
                  obtain rfl : y = 0 := by rw [← HY.out]; exact checkE_of.2 fun h => by rw [ht] at h; exact absurd h.2 (by decide)
                  rw [ho] at g3
                  clear hw ht ho
                  go_wp2_with fail
                  go_meet
                  case rel => exact ⟨_, _, _, _, _, _, _, hid ⟨HG7.out, HOK.out, HB7.out⟩⟩
              | done _ hw ht ho hok =>
                as_aux_lemma =>
                  obtain rfl : y = 0 := by rw [← HY.out]; exact checkE_of.2 fun h => by rw [ht] at h; exact absurd h.2 (by decide)
                  have HIN : Hid (∀ x ∈ st.ws, 0 ≤ x.n ∧ x.n < (G'.now.length : Int)) := hid fun x hx => by have := targ_nums ht (x.n, x.d) (List.mem_map.2 ⟨x, hx, rfl⟩); rw [HOK.out.now]; exact ⟨this.1, this.2.1⟩
                  have HLE : Hid (st.ws.length ≤ 1000) := hid (by have := targ_24 ht; rw [wl_len] at this; omega)
                  have HOKN := hid hok
                  rw [ho] at g3
                  clear hw ht ho hok
                  have HPUT := hid (gput_any w7.drew NA' G'.now nc' HG7.out.now HNW.out st.la st.ws st.cl HWR.out.1 HWR.out.2 HIN.out HLE.out)
                  have g1 : w7.cell? ⟨gb, 1, none⟩ = some (.slice NA' G'.now.length nc') := HG7.out.cells.2.1
                  go_wp2_with fail
                  refine wp_region_held_drew (S := fun Wc => Wc.cell? ⟨wr.heap.size, 2, none⟩ = some (.slice st.la st.ws.length st.cl)) (by kernel_rfl) hb2 (fun hHeld => ?_)
                  refine wpAnyH_take (i := 0) (oi := { dst := some 114, op := Op.move (Operand.tmp 6), type := 173, pos := "law.go:147", after := #[], guard := none }) (v := .pointer (some ⟨gb, 0, none⟩)) rfl (by kernel_rfl) (by kernel_rfl) (by kernel_rfl) (fun _ _ _ h => h) (Or.inl ⟨by rfl, fun W hSw => ?_⟩) hHeld ?_
                  · dsimp only at hSw
                    go_simp
                  try simp only [Act.put, List.setIfInBounds_toArray, List.set_cons_zero, List.set_cons_succ]
                  refine wpAnyH_take (i := 1) (oi := { dst := some 115, op := Op.move (Operand.tmp 6), type := 173, pos := "law.go:147", after := #[], guard := none }) (v := .pointer (some ⟨gb, 0, none⟩)) rfl (by kernel_rfl) (by kernel_rfl) (by kernel_rfl) (fun _ _ _ h => h) (Or.inl ⟨by rfl, fun W hSw => ?_⟩) hHeld ?_
                  · dsimp only at hSw
                    go_simp
                  try simp only [Act.put, List.setIfInBounds_toArray, List.set_cons_zero, List.set_cons_succ]
                  refine wpAnyH_take (i := 2) (oi := { dst := some 116, op := Op.nilCheck (Operand.tmp 115), type := 0, pos := "law.go:147", after := #[{ on := 1, ground := Ground.data }], guard := none }) (v := .pointer (some ⟨gb, 0, none⟩)) rfl (by kernel_rfl) (by kernel_rfl) (by kernel_rfl) (fun _ _ _ h => h) (Or.inl ⟨by rfl, fun W hSw => ?_⟩) hHeld ?_
                  · dsimp only at hSw
                    go_simp
                  try simp only [Act.put, List.setIfInBounds_toArray, List.set_cons_zero, List.set_cons_succ]
                  refine wpAnyH_take (i := 3) (oi := { dst := some 117, op := Op.fieldAddr 175 (Operand.tmp 116) 1, type := 0, pos := "law.go:147", after := #[{ on := 2, ground := Ground.data }], guard := none }) (v := .pointer (some ⟨gb, 1, none⟩)) rfl (by kernel_rfl) (by kernel_rfl) (by kernel_rfl) (fun _ _ _ h => h) (Or.inl ⟨by rfl, fun W hSw => ?_⟩) hHeld ?_
                  · dsimp only at hSw
                    go_simp
                  try simp only [Act.put, List.setIfInBounds_toArray, List.set_cons_zero, List.set_cons_succ]
                  refine wpAnyH_take (i := 5) (oi := { dst := some 119, op := Op.fieldAddr 176 (Operand.tmp 11) 2, type := 0, pos := "law.go:147", after := #[], guard := none }) (v := .pointer (some ⟨wr.heap.size, 2, none⟩)) rfl (by kernel_rfl) (by kernel_rfl) (by kernel_rfl) (fun _ _ _ h => h) (Or.inl ⟨by rfl, fun W hSw => ?_⟩) hHeld ?_
                  · dsimp only at hSw
                    go_simp
                  try simp only [Act.put, List.setIfInBounds_toArray, List.set_cons_zero, List.set_cons_succ]
                  refine wpAnyH_take (i := 6) (oi := { dst := some 120, op := Op.load 149 (Operand.tmp 119), type := 149, pos := "law.go:147", after := #[{ on := 5, ground := Ground.data }], guard := none }) (v := .slice st.la st.ws.length st.cl) rfl (by kernel_rfl) (by kernel_rfl) (by kernel_rfl) (fun _ _ _ h => h) (Or.inl ⟨by rfl, fun W hSw => ?_⟩) hHeld ?_
                  · dsimp only at hSw
                    go_simp
                  try simp only [Act.put, List.setIfInBounds_toArray, List.set_cons_zero, List.set_cons_succ]
                  refine wpAnyH_ready (rs := [4]) (by kernel_rfl) (by simp) (AllReadyH.cons (o := { dst := some 118, op := Op.load 110 (Operand.tmp 117), type := 110, pos := "law.go:147", after := #[{ on := 3, ground := Ground.data }], guard := none }) rfl (fun K hK => ?_) AllReadyH.nil)
                  go_simp
                  refine hK.out _ _ (hHeld) (fun hHeld => ?_)
                  clear hK K
                  try simp only [Act.put, List.setIfInBounds_toArray, List.set_cons_zero, List.set_cons_succ]
                  refine wpAnyH_ready (rs := [7]) (by kernel_rfl) (by simp) (AllReadyH.cons (o := { dst := some 121, op := Op.call { callee := Callee.value (Operand.func 125), args := #[Operand.tmp 118, Operand.tmp 120], argTypes := #[110, 149] }, type := 110, pos := "law.go:147", after := #[{ on := 4, ground := Ground.data }, { on := 6, ground := Ground.data }], guard := none }) rfl (fun K hK => ?_) AllReadyH.nil)
                  go_simp
                  refine HPUT.out.mono ?_
                  clear HPUT
                  rintro e w8 ⟨X, cx, rfl, HR8⟩
                  have hb28 := (HR8.out.2.cell (p := ⟨wr.heap.size, 2, none⟩) (World.block_lt_of_cell? w7 _ hb2)).trans hb2
                  go_simp
                  refine hK.out _ _ (hb28) (fun hHeld => ?_)
                  clear hK K
                  try simp only [Act.put, List.setIfInBounds_toArray, List.set_cons_zero, List.set_cons_succ]
                  have HG8 := hid ((HG7.out.below (Below.drew (Below.refl _ _))).putNow HR8.out.2 HR8.out.1)
                  have HB8 := hid ((HB7.out.drew.trans (HR8.out.2.mono (HG7.out.below (Below.drew (Below.refl w7.heap.size w7))).size)).setCell (p := ⟨gb, 1, none⟩) HG7.out.base.2.2.1 (.slice X (setAll G'.now (wl st.ws)).length cx))
                  have g18 := ((HG7.out.below (Below.drew (Below.refl _ _))).below HR8.out.2).cells.2.1
                  have f18 := ((HG7.out.below (Below.drew (Below.refl _ _))).below HR8.out.2).blk.free 1
                  clear HR8 g1
                  refine wpAnyH_take (i := 8) (oi := { dst := some 122, op := Op.nilCheck (Operand.tmp 114), type := 0, pos := "law.go:147", after := #[{ on := 0, ground := Ground.data }, { on := 0, ground := Ground.phase }, { on := 1, ground := Ground.phase }, { on := 2, ground := Ground.phase }, { on := 3, ground := Ground.phase }, { on := 4, ground := Ground.phase }, { on := 5, ground := Ground.phase }, { on := 6, ground := Ground.phase }, { on := 7, ground := Ground.phase }], guard := none }) (v := .pointer (some ⟨gb, 0, none⟩)) rfl (by kernel_rfl) (by kernel_rfl) (by kernel_rfl) (fun _ _ _ h => h) (Or.inl ⟨by rfl, fun W hSw => ?_⟩) hHeld ?_
                  · dsimp only at hSw
                    go_simp
                  try simp only [Act.put, List.setIfInBounds_toArray, List.set_cons_zero, List.set_cons_succ]
                  refine wpAnyH_take (i := 9) (oi := { dst := some 123, op := Op.fieldAddr 175 (Operand.tmp 122) 1, type := 0, pos := "law.go:147", after := #[{ on := 8, ground := Ground.data }, { on := 0, ground := Ground.phase }, { on := 1, ground := Ground.phase }, { on := 2, ground := Ground.phase }, { on := 3, ground := Ground.phase }, { on := 4, ground := Ground.phase }, { on := 5, ground := Ground.phase }, { on := 6, ground := Ground.phase }, { on := 7, ground := Ground.phase }], guard := none }) (v := .pointer (some ⟨gb, 1, none⟩)) rfl (by kernel_rfl) (by kernel_rfl) (by kernel_rfl) (fun _ _ _ h => h) (Or.inl ⟨by rfl, fun W hSw => ?_⟩) hHeld ?_
                  · dsimp only at hSw
                    go_simp
                  try simp only [Act.put, List.setIfInBounds_toArray, List.set_cons_zero, List.set_cons_succ]
                  refine wpAnyH_ready (rs := [10]) (by kernel_rfl) (by simp) (AllReadyH.cons (o := { dst := none, op := Op.store 110 (Operand.tmp 123) (Operand.tmp 121), type := 0, pos := "law.go:147", after := #[{ on := 9, ground := Ground.data }, { on := 7, ground := Ground.data }, { on := 7, ground := Ground.chain }, { on := 0, ground := Ground.phase }, { on := 1, ground := Ground.phase }, { on := 2, ground := Ground.phase }, { on := 3, ground := Ground.phase }, { on := 4, ground := Ground.phase }, { on := 5, ground := Ground.phase }, { on := 6, ground := Ground.phase }, { on := 7, ground := Ground.phase }], guard := none }) rfl (fun K hK => ?_) AllReadyH.nil)
                  go_simp
                  refine hK.out _ _ (cell_other HNB.out hb28 1) (fun hHeld => ?_)
                  clear hK K
                  try simp only [Act.put, List.setIfInBounds_toArray, List.set_cons_zero, List.set_cons_succ]
                  refine wpAnyH_done (by kernel_rfl) ?_ _
                  go_wp2_with fail
                  go_meet
                  case rel => exact ⟨_, _, _, _, _, _, _, hid ⟨HG8.out, HOKN.out, HB8.out⟩⟩
              | cut _ hw ht ho hok =>
                as_aux_lemma =>
                  obtain rfl : y = 0 := by rw [← HY.out]; exact checkE_of.2 fun h => by rw [ht] at h; exact absurd h.2 (by decide)
                  have HIN : Hid (∀ x ∈ st.ws, 0 ≤ x.n ∧ x.n < (G'.now.length : Int)) := hid fun x hx => by have := targ_nums ht (x.n, x.d) (List.mem_map.2 ⟨x, hx, rfl⟩); rw [HOK.out.now]; exact ⟨this.1, this.2.1⟩
                  have HLE : Hid (st.ws.length ≤ 1000) := hid (by have := targ_24 ht; rw [wl_len] at this; omega)
                  have hlp : (0 : Int) < (st.ws.length : Int) := by
                    have : 0 < (wl st.ws).length := List.length_pos_iff.2 hw
                    rw [wl_len] at this
                    omega
                  have HOKN := hid hok
                  rw [ho] at g3
                  have f3 := HG7.out.blk.free 3
                  have HG71 := hid (HG7.out.setOff true)
                  have HB71 := hid (HB7.out.setCell (p := ⟨gb, 3, none⟩) HG7.out.base.2.2.1 (.bool true))
                  obtain ⟨wc1, hwc1⟩ : ∃ wc1, wc1 = w7.setCell ⟨gb, 3, none⟩ (.bool true) := ⟨_, rfl⟩
                  rw [← hwc1] at HG71 HB71
                  have hb21 : wc1.cell? ⟨wr.heap.size, 2, none⟩ = some (.slice st.la st.ws.length st.cl) := by rw [hwc1]; exact cell_other HNB.out hb2 3
                  have HWC := hid hwc1
                  have HWR1 : Hid (∀ Wc, Below w.heap.size w Wc → Wrs Wc st.la st.ws ∧ ∀ x ∈ st.ws, Bytes Wc x.a x.d) := hid fun Wc hb => ⟨Cells.below (HA.out.rows st HM.out).1 hb (Nat.le_refl _), fun r hr => Cells.below ((HA.out.rows st HM.out).2 r hr).1 hb (Nat.le_refl _)⟩
                  have HPUT := hid fun Wc (hb : Below wc1.heap.size wc1 Wc) => gput_any Wc NA' G'.now nc' (HG71.out.below hb).now HNW.out st.la st.ws st.cl (HWR1.out Wc (below_t HB71.out hb HB71.out.size)).1 (HWR1.out Wc (below_t HB71.out hb HB71.out.size)).2 HIN.out HLE.out
                  have g11 := HG71.out.cells.2.1
                  have g12 := HG71.out.cells.2.2.1
                  have f12 := HG71.out.blk.free 2
                  dsimp only at g11 g12
                  clear hw ht ho hok hwc1 HWR
                  go_upto_region 30 with fail
                  rw [← HWC.out]
                  clear HWC g3 f3 hb2 HG7 HB7
                  go_region_held3 (fun Wc => Wc.cell? ⟨gb, 1, none⟩ = some (.slice NA' G'.now.length nc') ∧ Wc.cell? ⟨wr.heap.size, 2, none⟩ = some (.slice st.la st.ws.length st.cl))
                    (first | exact ⟨g11, hb21⟩ | exact hc8 | exact ⟨by rw [World.cell?_setCell_other _ _ _ _ (by simp)]; exact hc8.1, cell_other HNB.out hc8.2 2⟩ | assumption)
                    (first
                      | (go_at_call 125; refine (HPUT.out _ (by first | exact Below.refl _ _ | exact Below.drew (Below.refl _ _))).mono ?_; rintro e w8 ⟨X, cx, rfl, HR8⟩; have hc8 : w8.cell? ⟨gb, 1, none⟩ = some (.slice NA' G'.now.length nc') ∧ w8.cell? ⟨wr.heap.size, 2, none⟩ = some (.slice st.la st.ws.length st.cl) := ⟨(HR8.out.2.cell (p := ⟨gb, 1, none⟩) (World.block_lt_of_cell? wc1 _ g11)).trans g11, (HR8.out.2.cell (p := ⟨wr.heap.size, 2, none⟩) (World.block_lt_of_cell? wc1 _ hb21)).trans hb21⟩; have g28 := ((HG71.out.below (Below.drew (Below.refl _ _))).below HR8.out.2).cells.2.2.1; have f28 := ((HG71.out.below (Below.drew (Below.refl _ _))).below HR8.out.2).blk.free 2; dsimp only at g28)
                      | fail "arm")
                  have HG8 := hid ((HG71.out.below (Below.drew (Below.refl _ _))).putMay HR8.out.2 HR8.out.1)
                  have HB8 := hid (((HB71.out.drew.trans (HR8.out.2.mono (HG71.out.below (Below.drew (Below.refl wc1.heap.size wc1))).size)).setCell (p := ⟨gb, 2, none⟩) HG71.out.base.2.2.1 (.slice X (setAll G'.now (wl st.ws)).length cx)))
                  clear HR8 hc8
                  go_wp2_with fail
                  go_meet
                  case rel => exact ⟨_, _, _, _, _, _, _, hid ⟨HG8.out, HOKN.out, HB8.out⟩⟩
            · have q0 : (st.what == 0) = false := by simpa using w0
              clear w0
              by_cases w1 : st.what = 1
              · as_aux_lemma =>
                  have q1 : (st.what == 1) = true := by simpa using w1
                  clear w1
                  rw [← HWB.out]
                  clear HWB
                  have HRC := hid (HGB.out.recover (HOK.out.fit.mono (by decide)) HOK.out.recover)
                  have g0 := HGB.out.cells.1
                  cases ho : G'.off with
                  | true =>
                    as_aux_lemma =>
                      rw [show (if G'.off = true then (11 : Int) else 0) = 11 by rw [ho]; rfl] at HRC
                      go_wp2_with fail
                      refine HRC.out.mono ?_
                      rintro e w6 ⟨rfl, A6, c6, HR6⟩
                      have HG6 := hid HR6.out.1
                      have HB6 := hid (HBB.out.trans (HGB.out.frame HR6.out.2))
                      have g3 := HG6.out.cells.2.2.2
                      dsimp only at g3
                      rw [ho] at g3
                      clear HR6 g0 HRC HGB HBB ho
                      go_wp2_with fail
                      go_meet
                      case rel => exact ⟨_, _, _, _, _, _, _, hid ⟨HG6.out, HOK.out, HB6.out⟩⟩
                  | false =>
                    as_aux_lemma =>
                      rw [show (if G'.off = true then (11 : Int) else 0) = 0 by rw [ho]; rfl] at HRC
                      go_wp2_with fail
                      refine HRC.out.mono ?_
                      rintro e w6 ⟨rfl, A6, c6, HR6⟩
                      have HG6 := hid HR6.out.1
                      have HB6 := hid (HBB.out.trans (HGB.out.frame HR6.out.2))
                      have g3 := HG6.out.cells.2.2.2
                      dsimp only at g3
                      rw [ho] at g3
                      clear HR6 g0 HRC HGB HBB ho
                      go_wp2_with fail
                      go_meet
                      case rel => exact ⟨_, _, _, _, _, _, _, hid ⟨HG6.out, HOK.out, HB6.out⟩⟩
              · have q1 : (st.what == 1) = false := by simpa using w1
                clear w1
                by_cases w2 : st.what = 2
                · as_aux_lemma =>
                    have q2 : (st.what == 2) = true := by simpa using w2
                    clear w2
                    rw [← HWB.out]
                    clear HWB
                    have g0 := HGB.out.cells.1
                    have g3 := HGB.out.cells.2.2.2
                    have b1 : wb.cell? ⟨wr.heap.size, 1, none⟩ = some (.int .i64 st.n) := HBX.out.cell (j := 1) rfl
                    cases ho : G'.off with
                    | true =>
                      as_aux_lemma =>
                        rw [ho] at g3
                        clear ho
                        go_wp2_with fail
                        go_meet
                        case rel => exact ⟨_, _, _, _, _, _, _, hid ⟨HGB.out, HOK.out, HBB.out⟩⟩
                    | false =>
                      as_aux_lemma =>
                        rw [ho] at g3
                        have HOKF := hid (HOK.out.fuse ho HNUM.out.2.2)
                        clear ho
                        go_wp2_with fail
                        go_region_held3 (fun Wc => Wc.cell? ⟨gb, 0, none⟩ = some (.pointer (some ⟨g, 0, none⟩)) ∧ Wc.cell? ⟨wr.heap.size, 1, none⟩ = some (.int .i64 st.n))
                          (first | exact ⟨g0, b1⟩ | exact hc6 | assumption)
                          (first
                            | (go_at_call 104; refine ((HGB.out.below (by first | exact Below.refl _ _ | exact Below.drew (Below.refl _ _))).fuse _).mono ?_; rintro e w6 ⟨rfl, HR6⟩; have hc6 : w6.cell? ⟨gb, 0, none⟩ = some (.pointer (some ⟨g, 0, none⟩)) ∧ w6.cell? ⟨wr.heap.size, 1, none⟩ = some (.int .i64 st.n) := ⟨HR6.out.1.cells.1, HR6.out.2.cellAt HNA.out.1 HNA.out.2.1 HNA.out.2.2 b1⟩)
                            | fail "arm")
                        have HG6 := hid HR6.out.1
                        have HB6 := hid (HBB.out.trans (HGB.out.frame ((Drove.of_below (by first | exact Below.refl _ _ | exact Below.drew (Below.refl _ _))).trans HR6.out.2)))
                        clear HR6 hc6 g0 b1 g3
                        go_wp2_with fail
                        go_meet
                        case rel => exact ⟨_, _, _, _, _, _, _, hid ⟨HG6.out, HOKF.out, HB6.out⟩⟩
                · have q2 : (st.what == 2) = false := by simpa using w2
                  clear w2
                  by_cases w3 : st.what = 3
                  · as_aux_lemma =>
                      have q3 : (st.what == 3) = true := by simpa using w3
                      clear w3
                      rw [← HWB.out]
                      clear HWB
                      have HAG := hid (again_any wb w.heap.size gb g s A' c' NA' nc' MA' mc' G' n HGB.out HOK.out st.what st.n st.la st.ws.length st.cl st.ka st.keep st.ck (Cells.below HKP.out.1 HBB.out (Nat.le_refl _)) (HA.out.keepBlk HM.out) (by have := HKP.out.2.1; omega) HNUM.out.2)
                      have b0 := HBX.out.cell (j := 0) rfl
                      have b1 := HBX.out.cell (j := 1) rfl
                      have b2 := HBX.out.cell (j := 2) rfl
                      have b3 := HBX.out.cell (j := 3) rfl
                      go_wp2_with fail
                      refine HAG.out.mono ?_
                      clear HAG
                      rintro e w6 ⟨rfl, A6, c6, NA6, nc6, MA6, mc6, G6, hg6, hok6, -, hb6⟩
                      have HG6 := hid hg6
                      have HOK6 := hid hok6
                      have HB6 := hid (HBB.out.trans hb6)
                      clear hg6 hok6 hb6 b0 b1 b2 b3
                      go_wp2_with fail
                      go_meet
                      case rel => exact ⟨_, _, _, _, _, _, _, hid ⟨HG6.out, HOK6.out, HB6.out⟩⟩
                  · as_aux_lemma =>
                      have q3 : (st.what == 3) = false := by simpa using w3
                      clear w3
                      rw [← HWB.out]
                      clear HWB
                      go_wp2_with fail
                      go_meet
                      case rel => exact ⟨_, _, _, _, _, _, _, hid ⟨HGB.out, HOK.out, HBB.out⟩⟩
          case rest =>
            obtain ⟨A1, c1, NA1, nc1, MA1, mc1, G1, HG1⟩ := hcut
            clear HG HM hnum HNUM HKP k0 k1 k2 k3
            go_wp2_with fail
            go_roundw
            case rel => exact ⟨k + 1, by omega, by omega, by go_num, _, _, _, _, _, _, _, HG1⟩
            case measure => simp [intOf]; omega
        · as_aux_lemma =>
            have HAG := hid (again_any wr w.heap.size gb g s A' c' NA' nc' MA' mc' G' n HG.out.1 HG.out.2.1 0 0 none 0 0 none [] 0 (Cells.nil _ _) (fun h => by simp at h) (by simp) (by omega))
            by_cases hl : k < ss.length
            case' pos =>
              have hki : (k : Int) < (ss.length : Int) := by omega
              have hk30i : ¬ (k : Int) < 30 := by omega
              go_wp2_with fail
            case' neg =>
              have hki : ¬ (k : Int) < (ss.length : Int) := by omega
              go_wp2_with fail
            all_goals
              refine HAG.out.mono ?_
              clear HAG
              rintro e w6 ⟨rfl, A6, c6, NA6, nc6, MA6, mc6, G6, -, -, -, hb6⟩
              have HB6 := hid (HG.out.2.2.trans hb6)
              clear hb6
              go_wp2_with fail
              go_ret
              exact ⟨rfl, HB6.out⟩
theorem redoPlays_walk (w : World) (m : Int) (LA : Option Addr) (ss : List Stp) (ca : Nat) (hm : 0 ≤ m ∧ m < 65536) (hA : StepsF w LA ss) (_ : ss.length ≤ ca) (hal : ss.length ≤ 2199023255488) :
    Calls Try.prog 38 #[.int .u16 m, .slice LA ss.length ca] w fun e w' => e = .returned (.bool true) ∧ Below w.heap.size w w' := by
  obtain ⟨k, rfl⟩ := Int.eq_ofNat_of_zero_le hm.1
  exact redoPlays_in w k (64 + k % 100) LA ss ca (by omega) (by omega) (by omega) (by omega) hA hal
end Go.Proofs.Ytppbcdcmpcagdaa
