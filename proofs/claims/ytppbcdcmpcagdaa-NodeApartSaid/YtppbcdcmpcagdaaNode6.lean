/- Contract of node's encode. -/
import Derived.Test.YtppbcdcmpcagdaaNode5
namespace Go.Proofs.Ytppbcdcmpcagdaa
open Go.RowKit Go.CP

theorem headL_0 (k l : Nat) (hk : k < 256) (hl : l < 256) : (little k 1 ++ little l 1).map bv = [.int .u8 (k : Int), .int .u8 (l : Int)] := by
  have h1 : little k 1 = [UInt8.ofNat (k % 256)] := rfl
  have h2 : little l 1 = [UInt8.ofNat (l % 256)] := rfl
  rw [h1, h2, List.map_append]
  simp only [List.map_cons, List.map_nil, bv_mod, List.cons_append, List.nil_append]
  rw [show (k : Int) % 256 = k by omega, show (l : Int) % 256 = l by omega]

def preH (k l g s c i : Nat) : List UInt8 := (headL k l g s c).take (2 + 4 * i)
theorem preH_len (k l g s c i : Nat) (h : i ≤ 3) : (preH k l g s c i).length = 2 + 4 * i := by rw [preH, List.length_take, headL_len]; omega
theorem preH_0 (k l g s c : Nat) : preH k l g s c 0 = little k 1 ++ little l 1 := by
  rw [preH, headL, show 2 + 4 * 0 = (little k 1 ++ little l 1).length from by simp [little_len], List.append_assoc, List.append_assoc, List.take_append_of_le_length (by simp), List.take_of_length_le (by simp)]
theorem preH_1 (k l g s c : Nat) : preH k l g s c 1 = preH k l g s c 0 ++ little g 4 := by
  rw [preH_0, preH, headL, show 2 + 4 * 1 = (little k 1 ++ little l 1 ++ little g 4).length from by simp [little_len], List.append_assoc _ (little s 4), List.take_append_of_le_length (by simp), List.take_of_length_le (by simp)]
theorem preH_2 (k l g s c : Nat) : preH k l g s c 2 = preH k l g s c 1 ++ little s 4 := by
  rw [preH_1, preH_0, preH, headL, show 2 + 4 * 2 = (little k 1 ++ little l 1 ++ little g 4 ++ little s 4).length from by simp [little_len], List.take_append_of_le_length (by simp), List.take_of_length_le (by simp)]
theorem preH_3 (k l g s c : Nat) : preH k l g s c 3 = preH k l g s c 2 ++ little c 4 := by
  rw [preH_2, preH_1, preH_0, preH, List.take_of_length_le (by rw [headL_len]; omega), headL]

theorem ap_bytes' {w : World} {ops : Array Oper} {rest : List Oper} {o : Oper} {a : Act} {Q : Exit → Act → World → Prop} (hgd : o.guard = none) (s x : Operand) (tx : TypeId)
    (ho : o.op = .call { callee := .builtin .append, args := #[s, x], argTypes := #[22, tx] }) (base : Nat)
    {A : Option Addr} {n c : Nat} {xs : List Value} (hs : a.eval s = .slice A n c) (hown : Go.CP.Own w base 5 1 A n c xs)
    {vx : Value} {m : Nat} {news : List Value} (hvx : a.eval x = vx) (hx : Src Try.prog w 1 (.int .u8 0) tx vx m news)
    (hbytes : n + m ≤ 225000000000000) (hbase : base ≤ w.heap.size)
    (h : ∀ A' c' w', Go.CP.Own w' base 5 1 A' (n + m) c' (xs ++ news) → w.grownBy w' (blockOf A) → (blockOf A' = blockOf A ∨ ∀ k, blockOf A' = some k → w.heap.size ≤ k) → wpList Try.prog ops Q rest (a.put o.dst (.slice A' (n + m) c')) w') : wpList Try.prog ops Q (o :: rest) a w :=
  wpList_append_Own' w hgd s x 22 tx ho base 5 Try.t5 (.int .u8 0) 1 1 Try.underlying22 info5 (by kernel_rfl) (by kernel_rfl) (by kernel_rfl) rfl (by decide) (by decide) (by decide) A n c xs hs hown vx m news hvx hx (by omega) hbase h

set_option maxHeartbeats 2000000 in
set_option maxRecDepth 100000 in
theorem encodeN_any (k l g s c d0 d1 d2 d3 o t : Nat) (w : World) (hk : k < 256) (hl : l < 256) (hg : g < 4294967296) (hs : s < 4294967296) (hc : c < 4294967296) (hp : ∀ n ∈ [d0, d1, d2, d3, o, t], n ≤ 1023) :
    Calls Try.prog 139 #[.agg #[.int .i64 k, .int .i64 l, .int .i64 g, .int .i64 s, .int .i64 c, .int .i64 d0, .int .i64 d1, .int .i64 d2, .int .i64 d3, .int .i64 o, .int .i64 t]] w (RetOwn w 5 1 32 ((nodL k l g s c [d0, d1, d2, d3, o, t]).map bv)) := by
  have k0 := BoxN.new w (nodN k l g s c d0 d1 d2 d3 o t)
  have hk' : (k : Int) < 256 := by omega
  have hl' : (l : Int) < 256 := by omega
  have HG := hid hg
  have HS := hid hs
  have HC := hid hc
  have HP := hid hp
  have HL := hid (headL_0 k l hk hl)
  have K0 := hid k0
  clear hg hs hc hp k0
  have i0 : ∀ W, (Instr.index 186 (.agg #[.int .i64 (g : Int), .int .i64 (s : Int), .int .i64 (c : Int)]) (.int .i64 0)).run Try.prog W = .ok (.int .i64 (g : Int)) W := fun _ => rfl
  have i1 : ∀ W, (Instr.index 186 (.agg #[.int .i64 (g : Int), .int .i64 (s : Int), .int .i64 (c : Int)]) (.int .i64 1)).run Try.prog W = .ok (.int .i64 (s : Int)) W := fun _ => rfl
  have i2 : ∀ W, (Instr.index 186 (.agg #[.int .i64 (g : Int), .int .i64 (s : Int), .int .i64 (c : Int)]) (.int .i64 2)).run Try.prog W = .ok (.int .i64 (c : Int)) W := fun _ => rfl
  go_enter Try.func139, Try.ntmps139
  go_wp2_with fail
  have hbx : Below w.heap.size w (w.alloc (.cells #[.int .i64 k, .int .i64 l, .int .i64 g, .int .i64 s, .int .i64 c, .int .i64 d0, .int .i64 d1, .int .i64 d2, .int .i64 d3, .int .i64 o, .int .i64 t] 84)) := (Below.refl _ _).alloc (Nat.le_refl _) _
  have hm0 : Bytes ((w.alloc (.cells #[.int .i64 k, .int .i64 l, .int .i64 g, .int .i64 s, .int .i64 c, .int .i64 d0, .int .i64 d1, .int .i64 d2, .int .i64 d3, .int .i64 o, .int .i64 t] 84)).alloc (.cells #[.int .u8 k, .int .u8 l] 5)) (some ⟨w.heap.size + 1, 0, none⟩) (preH k l g s c 0) := by
    rw [preH_0]
    have := cells_new (w.alloc (.cells #[.int .i64 k, .int .i64 l, .int .i64 g, .int .i64 s, .int .i64 c, .int .i64 d0, .int .i64 d1, .int .i64 d2, .int .i64 d3, .int .i64 o, .int .i64 t] 84)) 5 (0, 0) (little k 1 ++ little l 1)
    rw [HL.out] at this
    simpa using this
  have hb0 := hbx.alloc hbx.size (.cells #[.int .u8 k, .int .u8 l] 5)
  have HK0 : Hid (BoxN ((w.alloc (.cells #[.int .i64 k, .int .i64 l, .int .i64 g, .int .i64 s, .int .i64 c, .int .i64 d0, .int .i64 d1, .int .i64 d2, .int .i64 d3, .int .i64 o, .int .i64 t] 84)).alloc (.cells #[.int .u8 k, .int .u8 l] 5)) w.heap.size (nodN k l g s c d0 d1 d2 d3 o t)) := hid (K0.out.alloc _)
  go_loopw [3, 22] (fun ov iv wr => ∃ (i : Nat) (A : Option Addr) (d : Nat), i ≤ 3 ∧ iv = .int .i64 i ∧ ov = .slice A (2 + 4 * i) d ∧ Bytes wr A (preH k l g s c i) ∧ Hid (1 ≤ i → Go.CP.Own wr (w.heap.size + 1) 5 1 A (2 + 4 * i) d ((preH k l g s c i).map bv)) ∧ Hid (BoxN wr w.heap.size (nodN k l g s c d0 d1 d2 d3 o t)) ∧ Below w.heap.size w wr) (fun _ iv _ => 3 - (intOf iv).toNat)
  case atStart => exact ⟨0, _, _, by omega, rfl, rfl, hm0, hid (fun h => by omega), HK0, hb0⟩
  case round =>
    clear hm0 hb0 hbx HK0
    obtain ⟨i, A, d, hi, rfl, rfl, hcl, HO, HK, hbel⟩ := hrel
    have hi4 : i = 0 ∨ i = 1 ∨ i = 2 ∨ i = 3 := by omega
    rcases hi4 with rfl | rfl | rfl | rfl
    · have hn := num_ok A (preH k l g s c 0) d g wr hcl (by rw [preH_len _ _ _ _ _ _ (by omega)]; omega) HG.out
      rw [preH_len _ _ _ _ _ _ (by omega), show 2 + 4 * 0 = 2 from rfl] at hn
      rw [show 2 + 4 * 0 = 2 from rfl, show ((0 : Nat) : Int) = 0 from rfl]
      go_wp2_with fail
      refine hn.mono ?_
      clear hn
      rintro e w3 ⟨A3, c3, rfl, ho3, hb3⟩
      rw [← preH_1] at ho3
      go_wp2_with fail
      go_roundw
      case rel => exact ⟨1, A3, c3, by omega, rfl, rfl, ho3.cells, hid (fun _ => ho3.mono HK.out.lt), hid (HK.out.below hb3 HK.out.lt), below_t hbel hb3 hbel.size⟩
      case measure => simp [intOf]
    · have hn := num_ok A (preH k l g s c 1) d s wr hcl (by rw [preH_len _ _ _ _ _ _ (by omega)]; omega) HS.out
      rw [preH_len _ _ _ _ _ _ (by omega), show 2 + 4 * 1 = 6 from rfl] at hn
      rw [show 2 + 4 * 1 = 6 from rfl, show ((1 : Nat) : Int) = 1 from rfl]
      go_wp2_with fail
      refine hn.mono ?_
      clear hn
      rintro e w3 ⟨A3, c3, rfl, ho3, hb3⟩
      rw [← preH_2] at ho3
      go_wp2_with fail
      go_roundw
      case rel => exact ⟨2, A3, c3, by omega, rfl, rfl, ho3.cells, hid (fun _ => ho3.mono HK.out.lt), hid (HK.out.below hb3 HK.out.lt), below_t hbel hb3 hbel.size⟩
      case measure => simp [intOf]
    · have hn := num_ok A (preH k l g s c 2) d c wr hcl (by rw [preH_len _ _ _ _ _ _ (by omega)]; omega) HC.out
      rw [preH_len _ _ _ _ _ _ (by omega), show 2 + 4 * 2 = 10 from rfl] at hn
      rw [show 2 + 4 * 2 = 10 from rfl, show ((2 : Nat) : Int) = 2 from rfl]
      go_wp2_with fail
      refine hn.mono ?_
      clear hn
      rintro e w3 ⟨A3, c3, rfl, ho3, hb3⟩
      rw [← preH_3] at ho3
      go_wp2_with fail
      go_roundw
      case rel => exact ⟨3, A3, c3, by omega, rfl, rfl, ho3.cells, hid (fun _ => ho3.mono HK.out.lt), hid (HK.out.below hb3 HK.out.lt), below_t hbel hb3 hbel.size⟩
      case measure => simp [intOf]
    · have ho := HO.out (by omega)
      rw [show 2 + 4 * 3 = 14 from rfl, show ((3 : Nat) : Int) = 3 from rfl]
      rw [show 2 + 4 * 3 = 14 from rfl] at ho
      obtain ⟨f0, f1, f2, f3, f4, f5, f6, f7, f8, f9, f10, -, -⟩ := HK.out.facts
      simp only [nodN] at f0 f1 f2 f3 f4 f5 f6 f7 f8 f9 f10
      go_wp2_with fail
      refine (pointers_any (nodN k l g s c d0 d1 d2 d3 o t) _).mono ?_
      rintro e w4 ⟨A4, c4, rfl, ho4, hb4⟩
      clear f0 f1 f2 f3 f4 f5 f6 f7 f8 f9 f10
      have ho' := hid (ho.below hb4 (Nat.le_refl _))
      have HO4 := hid ho4
      have HB4 := hid (below_t hbel hb4 hbel.size)
      have HS4 := hid hb4.size
      have HNE : Hid (∀ j, blockOf A = some j → some j ≠ blockOf A4) := hid (fun j hj e => by have h1 := (ho.block j hj).2; have h2 := (ho4.block j e.symm).1; omega)
      clear ho ho4 hb4 hcl
      go_wp2_with fail
      have HSZ : Hid (w.heap.size + 1 ≤ wr.heap.size) := hid HK.out.lt
      go_loopw [3, 35] (fun ov jv W => ∃ (i : Nat) (A' : Option Addr) (d' : Nat), i ≤ 6 ∧ jv = .int .i64 i ∧ ov = .slice A' (14 + 2 * i) d' ∧ Hid (Go.CP.Own W (w.heap.size + 1) 5 1 A' (14 + 2 * i) d' ((headL k l g s c ++ ([d0, d1, d2, d3, o, t].take i).flatMap (little · 2)).map bv)) ∧ Hid (Go.CP.Own W wr.heap.size 3 1 A4 6 c4 ((ptrsL (nodN k l g s c d0 d1 d2 d3 o t)).map iv)) ∧ Hid (∀ j, blockOf A' = some j → some j ≠ blockOf A4) ∧ Hid (Below w.heap.size w W) ∧ Hid (wr.heap.size ≤ W.heap.size)) (fun _ iv _ => 6 - (intOf iv).toNat)
      case atStart => exact ⟨0, _, _, by omega, rfl, rfl, hid (by have h3 := ho'.out; rw [show preH k l g s c 3 = headL k l g s c from List.take_of_length_le (by rw [headL_len]; omega)] at h3; simpa using h3), HO4, HNE, HB4, HS4⟩
      case round =>
        obtain ⟨i, A', d', hi, rfl, rfl, HOW, HPW, HNW, HBW, HSW⟩ := hrel
        by_cases hlt : i < 6
        · obtain ⟨n, hn⟩ := get_of_lt [d0, d1, d2, d3, o, t] (i := i) hlt
          have hnb : n ≤ 1023 := HP.out n (List.mem_of_getElem? hn)
          have hni : (ptrsL (nodN k l g s c d0 d1 d2 d3 o t))[i]? = some (n : Int) := by
            rw [show ptrsL (nodN k l g s c d0 d1 d2 d3 o t) = [d0, d1, d2, d3, o, t].map (fun n : Nat => (n : Int)) from rfl, List.getElem?_map, hn]; rfl
          have hI : Ints wr A4 (ptrsL (nodN k l g s c d0 d1 d2 d3 o t)) := Go.CP.Own.cells HPW.out
          obtain ⟨b1, o1, rfl, hc1⟩ := Ints.openq hI (by simp [ptrsL])
          have hd1 := hc1 i n hni
          clear hc1 hI
          have hn0 : (n : Int) ≤ 1023 := by omega
          have HNB := hid hnb
          have HHN := hid hn
          have HNI := hid hni
          clear hnb hn hni
          have hsz : w.heap.size + 1 ≤ wr.heap.size := Nat.le_trans HSZ.out HSW.out
          go_wp2_with (at_builtin; refine ap_bytes' rfl _ _ 22 rfl (w.heap.size + 1) rfl (HOW.out.alloc _) rfl (Src.row (m := 2) (c := 2) (t := 5) _ Try.underlying22 rfl (by simp [Value.oneCell'])) (by omega) (by simp; omega) ?_; intro A5 c5 w5 ho5 hg5 hn5)
          go_roundw
          case rel =>
            refine ⟨i + 1, A5, c5, by omega, by go_num, rfl, ?_, ?_, ?_, ?_, ?_⟩
            · rw [take_snoc HHN.out, List.flatMap_append, ← List.append_assoc, List.map_append]
              have e2 : ([n].flatMap (little · 2)).map bv = [.int .u8 ((n : Int) % 256), .int .u8 ((n : Int) / 256)] := by
                have hb := HNB.out
                show [bv (UInt8.ofNat (n % 256)), bv (UInt8.ofNat (n / 256 % 256))] = _
                rw [bv_mod, bv_mod, show ((n / 256 : Nat) : Int) % 256 = (n : Int) / 256 by omega]
              rw [e2]
              exact hid ho5
            · exact hid ((HPW.out.alloc _).kept hg5 (.inr fun e => absurd rfl (HNW.out b1 e.symm)))
            · exact hid fun j hj => by
                rcases hn5 with h | h
                · exact HNW.out j (h.symm.trans hj)
                · intro e
                  have h1 := h j hj
                  have h2 := (HPW.out.block b1 rfl).2
                  have h3 : j = b1 := Option.some.inj e
                  simp at h1
                  omega
            · exact hid (Below.grown (HBW.out.alloc HBW.out.size _) hg5 (by have := HBW.out.size; simp; omega) (fun k hk => Nat.le_of_succ_le (HOW.out.block k hk).1))
            · exact hid (by have h1 := hg5.size; have h2 := HSW.out; simp at h1; omega)
          case measure => simp [intOf]; omega
        · have hi6 : i = 6 := by omega
          subst hi6
          clear hlt
          have ho9 := HOW.out
          rw [show ([d0, d1, d2, d3, o, t].take 6) = [d0, d1, d2, d3, o, t] from rfl, show 14 + 2 * 6 = 26 from rfl] at ho9
          rw [show 14 + 2 * 6 = 26 from rfl, show ((6 : Nat) : Int) = 6 from rfl]
          have hsz : w.heap.size + 1 ≤ wr.heap.size := Nat.le_trans HSZ.out HSW.out
          have HO9 := hid ho9
          clear ho9
          go_wp2_with (at_builtin; refine ap_bytes rfl _ _ 3 rfl (w.heap.size + 1) rfl HO9.out rfl (Src.zeros (m := 6) Try.underlying3) (by omega) (by omega) ?_; intro A7 c7 w7 ho7 hg7)
          go_ret
          refine ⟨A7, c7, rfl, ?_, Below.grown HBW.out hg7 (by omega) (fun k hk => Nat.le_of_succ_le (HO9.out.block k hk).1)⟩
          rw [← List.map_append] at ho7
          exact ho7.mono (by omega)
end Go.Proofs.Ytppbcdcmpcagdaa
