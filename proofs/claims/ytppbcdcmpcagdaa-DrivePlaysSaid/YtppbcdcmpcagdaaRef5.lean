/- The document's drive in memory: contract of its Restart (begun). -/
import Derived.Test.YtppbcdcmpcagdaaRef4
namespace Go.Proofs.Ytppbcdcmpcagdaa
open Go.RowKit Go.CP

theorem info224 : Try.prog.info? 224 = some Try.t224 := by kernel_rfl
theorem ap_dons {w : World} {ops : Array Oper} {rest : List Oper} {o : Oper} {a : Act} {Q : Exit → Act → World → Prop} (hgd : o.guard = none) (s x : Operand) (tx : TypeId)
    (ho : o.op = .call { callee := .builtin .append, args := #[s, x], argTypes := #[220, tx] }) (base : Nat)
    {A : Option Addr} {n c : Nat} {xs : List Value} (hs : a.eval s = .slice A n c) (hown : Go.CP.Own w base 224 3 A n c xs)
    {vx : Value} {m : Nat} {news : List Value} (hvx : a.eval x = vx) (hx : Src Try.prog w 3 (.agg #[.int .i64 0, .string ByteArray.empty, .bool false]) tx vx m news)
    (hbytes : (n + m) * 32 ≤ 225000000000000) (hbase : base ≤ w.heap.size)
    (h : ∀ A' c' w', Go.CP.Own w' base 224 3 A' (n + m) c' (xs ++ news) → w.grownBy w' (blockOf A) → wpList Try.prog ops Q rest (a.put o.dst (.slice A' (n + m) c')) w') : wpList Try.prog ops Q (o :: rest) a w :=
  wpList_append_Own w hgd s x 220 tx ho base 224 Try.t224 (.agg #[.int .i64 0, .string ByteArray.empty, .bool false]) 3 32 Try.underlying220 info224 (by kernel_rfl) (by kernel_rfl) (by kernel_rfl) rfl (by decide) (by decide) (by decide) A n c xs hs hown vx m news hvx hx hbytes hbase h
theorem keepR_step {keep : List Int} {list : List Don} {i k : Nat} {x : Don} (hx : list[i]? = some x) : keepR keep k (list.drop i) = (if x.2.2 then x :: keepR keep k (list.drop (i + 1)) else if kept keep k then (x.1, x.2.1, true) :: keepR keep (k + 1) (list.drop (i + 1)) else keepR keep (k + 1) (list.drop (i + 1))) := by
  have hi := (List.getElem?_eq_some_iff.1 hx).1
  have hd : list.drop i = x :: list.drop (i + 1) := by
    rw [List.drop_eq_getElem_cons hi]
    rw [(List.getElem?_eq_some_iff.1 hx).2]
  rw [hd, keepR]
set_option maxHeartbeats 1000000 in
set_option maxRecDepth 100000 in
theorem ref_restart (W : World) (base r : Nat) (A : Option Addr) (c : Nat) (R : RDrv) (h : RIs W base r A c R) (hn : R.list.length ≤ 1000000000000) (KA : Option Addr) (keep : List Int) (ck : Nat) (hk : Ints W KA keep) (hkl : keep.length ≤ 140737488351232) :
    Calls Try.prog 110 #[.pointer (some ⟨r, 0, none⟩), .slice KA keep.length ck] W fun e W' => e = .returned (.tuple #[]) ∧ ∃ A' c', RIs W' base r A' c' (R.restart keep) ∧ Drove W W' r r A A' := by
  obtain ⟨m, list, fuse, dead⟩ := R
  have H := hid h
  have HKE := hid hk
  obtain ⟨-, c1, -, -, -, hlt⟩ := h.1.facts
  dsimp only at c1 hn
  have hni : (list.length : Int) ≤ 1000000000000 := by omega
  clear h hk c1
  go_enter Try.func110, Try.ntmps110
  go_wp2_with fail
  go_loopw [4, 5, 6] (fun ov kv iv' wr => ∃ (i k : Nat) (B : Option Addr) (cb : Nat) (out : List Don), i ≤ list.length ∧ k ≤ i ∧ iv' = .int .i64 i ∧ kv = .int .i64 k ∧ ov = .slice B out.length cb ∧ Hid (Go.CP.Own wr W.heap.size 224 3 B out.length cb (out.flatMap dcells) ∧ out ++ keepR keep k (list.drop i) = keepR keep 0 list ∧ out.length ≤ i ∧ Below W.heap.size W wr)) (fun _ _ iv' _ => list.length - (intOf iv').toNat)
  case atStart => exact ⟨0, 0, some ⟨W.heap.size, 0, none⟩, 0, [], by omega, by omega, rfl, rfl, rfl, hid ⟨Go.CP.Own.empty W 224 3, rfl, Nat.le_refl _, (Below.refl _ _).alloc (Nat.le_refl _) _⟩⟩
  case round =>
    obtain ⟨i, k, B, cb, out, hi, hki, rfl, rfl, rfl, HI⟩ := hrel
    have hr1 : HeadR wr r m (.slice A list.length c) fuse dead := (HI.out.2.2.2.block r hlt).trans H.out.1
    obtain ⟨-, k1, -, -, -, hlt2⟩ := hr1.facts
    by_cases hil : i < list.length
    · obtain ⟨x, hx⟩ := get_of_lt list hil
      have hcl : Cells wr A (list.flatMap dcells) := Cells.below H.out.2.1.cells HI.out.2.2.2 (Nat.le_refl _)
      obtain ⟨b, off, rfl, d0, d1, d2⟩ := dons_at hcl hx
      obtain ⟨x0, xd, xs⟩ := x
      dsimp only at d0 d1 d2
      have hii : (i : Int) < (list.length : Int) := by omega
      have HX := hid hx
      clear hcl hx hr1
      have hzz := HI.out.2.2.2.size
      have hol : (out.length : Int) ≤ (i : Int) := by have := HI.out.2.2.1; omega
      have hol2 : (out.length + 1) * 32 ≤ 225000000000000 := by have := HI.out.2.2.1; omega
      have hkk : (k : Int) ≤ (i : Int) := by omega
      have hfin : ∀ (y0 : Int) (yd : List UInt8) (ys : Bool) (k' : Nat) (bx : Obj) (E' : Option Addr) (ce' : Nat) (w' : World), keepR keep k (list.drop i) = (y0, yd, ys) :: keepR keep k' (list.drop (i + 1)) →
          Go.CP.Own w' W.heap.size 224 3 E' (out.length + 1) ce' (out.flatMap dcells ++ [.int .i64 y0, .string (bstr yd), .bool ys]) → ((wr.alloc bx).alloc (.cells #[.int .i64 y0, .string (bstr yd), .bool ys] 224)).grownBy w' (blockOf B) →
          Go.CP.Own w' W.heap.size 224 3 E' (out ++ [(y0, yd, ys)]).length ce' ((out ++ [(y0, yd, ys)]).flatMap dcells) ∧ (out ++ [(y0, yd, ys)]) ++ keepR keep k' (list.drop (i + 1)) = keepR keep 0 list ∧ (out ++ [(y0, yd, ys)]).length ≤ i + 1 ∧ Below W.heap.size W w' := fun y0 yd ys k' bx E' ce' w' hk1 ho hg => by
        refine ⟨?_, ?_, ?_, ?_⟩
        · rw [List.length_append, List.flatMap_append, List.flatMap_singleton]
          exact ho
        · rw [← HI.out.2.1, hk1, List.append_assoc]
          rfl
        · have := HI.out.2.2.1
          simp
          omega
        · exact Below.grown ((HI.out.2.2.2.alloc hzz _).alloc (by simp; omega) _) hg (by simp; omega) (fun j hj => (HI.out.1.block j hj).1)
      have HFIN := hid hfin
      clear hfin
      have hstep := keepR_step (keep := keep) (k := k) HX.out
      have HST := hid hstep
      clear hstep
      cases xs with
      | true =>
        have HON := hid ((HI.out.1.alloc (.cells #[.int .i64 x0, .string (bstr xd), .bool true] 224)).alloc (.cells #[.int .i64 x0, .string (bstr xd), .bool true] 224))
        have hsr := (Src.row (P := Try.prog) (w := wr.alloc (.cells #[.int .i64 x0, .string (bstr xd), .bool true] 224)) (z := .agg #[.int .i64 0, .string ByteArray.empty, .bool false]) (sz := 3) (m := 1) (c := 1) (e := 224) #[.int .i64 x0, .string (bstr xd), .bool true] Try.underlying220 rfl (by simp [Value.oneCell']))
        rw [World.size_alloc] at hsr
        have HSR := hid hsr
        clear hsr
        go_wp2_with (at_builtin; refine ap_dons rfl _ _ 220 rfl W.heap.size rfl HON.out rfl HSR.out hol2 (by simp; omega) ?_; intro E' ce' w' ho' hg')
        go_roundw
        case rel => exact ⟨i + 1, k, E', ce', out ++ [(x0, xd, true)], by omega, by omega, by go_num, rfl, by simp, hid (HFIN.out _ _ _ _ _ _ _ _ (HST.out.trans (if_pos rfl)) ho' hg')⟩
        case measure => simp [intOf]; omega
      | false =>
        have hdone : kept keep k = false → Go.CP.Own (wr.alloc (.cells #[.int .i64 x0, .string (bstr xd), .bool false] 224)) W.heap.size 224 3 B out.length cb (out.flatMap dcells) ∧ out ++ keepR keep (k + 1) (list.drop (i + 1)) = keepR keep 0 list ∧ out.length ≤ i + 1 ∧ Below W.heap.size W (wr.alloc (.cells #[.int .i64 x0, .string (bstr xd), .bool false] 224)) := fun hkp => by
          refine ⟨HI.out.1.alloc _, ?_, by have := HI.out.2.2.1; omega, HI.out.2.2.2.alloc hzz _⟩
          rw [← HI.out.2.1, HST.out, if_neg (by simp), if_neg (by rw [hkp]; simp)]
        have HDO := hid hdone
        clear hdone
        by_cases hkl2 : k < keep.length
        · obtain ⟨z, hz⟩ := get_of_lt keep hkl2
          have hkc : Ints wr KA keep := Cells.below HKE.out HI.out.2.2.2 (Nat.le_refl _)
          obtain ⟨kb, ko, rfl, hkd⟩ := Ints.openq hkc (by omega)
          have hz1 := hkd k z hz
          have hz2 := (World.cell?_alloc_lt wr (.cells #[.int .i64 x0, .string (bstr xd), .bool false] 224) _ (World.block_lt_of_cell? wr _ hz1)).trans hz1
          have hkp := kept_at hz
          have hkl2i : (k : Int) < (keep.length : Int) := by omega
          clear hkc hkd hz
          by_cases hz0 : z = 0
          · subst hz0
            have HDO2 := hid (HDO.out (by rw [hkp]; rfl))
            clear hkp
            go_wp2_with fail
            go_roundw
            case rel => exact ⟨i + 1, k + 1, B, cb, out, by omega, by omega, by go_num, by go_num, rfl, HDO2⟩
            case measure => simp [intOf]; omega
          · have hzq : (z != 0) = true := by simpa using hz0
            have hzq2 : (z == 0) = false := by simpa using hz0
            have hkr := HST.out.trans ((if_neg (by simp)).trans (if_pos (by rw [hkp]; exact hzq)))
            have HKR := hid hkr
            have HON := hid ((HI.out.1.alloc (.cells #[.int .i64 x0, .string (bstr xd), .bool true] 224)).alloc (.cells #[.int .i64 x0, .string (bstr xd), .bool true] 224))
            have hsr := (Src.row (P := Try.prog) (w := wr.alloc (.cells #[.int .i64 x0, .string (bstr xd), .bool true] 224)) (z := .agg #[.int .i64 0, .string ByteArray.empty, .bool false]) (sz := 3) (m := 1) (c := 1) (e := 224) #[.int .i64 x0, .string (bstr xd), .bool true] Try.underlying220 rfl (by simp [Value.oneCell']))
            rw [World.size_alloc] at hsr
            have HSR := hid hsr
            clear hsr hkp hkr hz0
            go_wp2_with (at_builtin; refine ap_dons rfl _ _ 220 rfl W.heap.size rfl HON.out rfl HSR.out hol2 (by simp; omega) ?_; intro E' ce' w' ho' hg')
            go_roundw
            case rel => exact ⟨i + 1, k + 1, E', ce', out ++ [(x0, xd, true)], by omega, by omega, by go_num, by go_num, by simp, hid (HFIN.out _ _ _ _ _ _ _ _ HKR.out ho' hg')⟩
            case measure => simp [intOf]; omega
        · have HDO2 := hid (HDO.out (kept_out (by omega)))
          have hkl2i : ¬ (k : Int) < (keep.length : Int) := by omega
          go_wp2_with fail
          go_roundw
          case rel => exact ⟨i + 1, k + 1, B, cb, out, by omega, by omega, by go_num, by go_num, rfl, HDO2⟩
          case measure => simp [intOf]; omega
    · have hk2 : i = list.length := by omega
      subst hk2
      obtain ⟨ho, he, -, hb⟩ := HI.out
      have he2 : out = keepR keep 0 list := by
        rw [← he, List.drop_length]
        simp [keepR]
      obtain ⟨-, -, j2, j3, hf, -⟩ := hr1.facts
      have HR1 := hid hr1
      have HO := hid ho
      have HB := hid hb
      have HE := hid he2
      clear ho he hb he2 hr1
      go_wp2_with fail
      go_end0
      have q1 : HeadR (wr.setCell ⟨r, 1, none⟩ (.slice B out.length cb)) r m (.slice B out.length cb) fuse dead := HR1.out.set 1 _
      have q2 : HeadR ((wr.setCell ⟨r, 1, none⟩ (.slice B out.length cb)).setCell ⟨r, 2, none⟩ (.int .i64 (-1))) r m (.slice B out.length cb) (-1) dead := q1.set 2 _
      have q3 : HeadR (((wr.setCell ⟨r, 1, none⟩ (.slice B out.length cb)).setCell ⟨r, 2, none⟩ (.int .i64 (-1))).setCell ⟨r, 3, none⟩ (.bool false)) r m (.slice B out.length cb) (-1) false := q2.set 3 _
      have hoth : ∀ j, j ≠ r → (((wr.setCell ⟨r, 1, none⟩ (.slice B out.length cb)).setCell ⟨r, 2, none⟩ (.int .i64 (-1))).setCell ⟨r, 3, none⟩ (.bool false)).heap[j]? = wr.heap[j]? := fun j hj => (Below.heap_setCell _ _ _ _ hj).trans ((Below.heap_setCell _ _ _ _ hj).trans (Below.heap_setCell _ _ _ _ hj))
      have hbb : base ≤ W.heap.size := by have := H.out.2.2.1; omega
      have hBr : ∀ j, blockOf B = some j → j ≠ r := fun j hj => by have := (HO.out.block j hj).1; omega
      refine ⟨rfl, B, cb, ⟨?_, ?_, H.out.2.2.1, fun e => hBr r e rfl⟩, ⟨HB.out.os, HB.out.tape, HB.out.output, by simpa [World.setCell] using HB.out.size⟩, fun j hj hjr _ _ => (hoth j hjr).trans (HB.out.block j hj), fun j hj => .inr (HO.out.block j hj).1⟩
      · show HeadR _ r m (.slice B (keepR keep 0 list).length cb) (-1) false
        rw [← HE.out]
        exact q3
      · show Go.CP.Own _ base 224 3 B (keepR keep 0 list).length cb ((keepR keep 0 list).flatMap dcells)
        rw [← HE.out]
        exact own_of_block (HO.out.mono hbb) fun j hj => hoth j (hBr j hj)
end Go.Proofs.Ytppbcdcmpcagdaa
