/- Contract of Get, whole; of Image. -/
import Derived.Test.YtppbcdcmpcagdaaDriveG
namespace Go.Proofs.Ytppbcdcmpcagdaa
open Go.RowKit Go.CP

theorem drv_get (W : World) (g s : Nat) (A : Option Addr) (c : Nat) (D : Drv) (h : DriveIs W g s A c D) (n : Int) (hsl : D.sure.length ≤ 1000000) (hll : D.list.length ≤ 1000000000000) :
    Calls Try.prog 103 #[.pointer (some ⟨g, 0, none⟩), .int .i64 n] W (RetGet W (D.get n)) := by
  unfold Drv.get
  split
  · next hd => exact get_dead W g s A c D h hd n
  · next hd =>
    have hd' : D.dead = false := by simpa using hd
    split
    · next ho => exact get_out W g s A c D h hd' n ho hsl
    · next ho =>
      have := get_ok W g s A c D h hd' n.toNat (by omega) hsl hll
      rw [Int.toNat_of_nonneg (by omega)] at this
      exact this

theorem info22 : Try.prog.info? 22 = some Try.t22 := by kernel_rfl
theorem ap_rows {w : World} {ops : Array Oper} {rest : List Oper} {o : Oper} {a : Act} {Q : Exit → Act → World → Prop} (hgd : o.guard = none) (s x : Operand) (tx : TypeId)
    (ho : o.op = .call { callee := .builtin .append, args := #[s, x], argTypes := #[142, tx] }) (base : Nat)
    {A : Option Addr} {n c : Nat} {xs : List Value} (hs : a.eval s = .slice A n c) (hown : Go.CP.Own w base 22 1 A n c xs)
    {vx : Value} {m : Nat} {news : List Value} (hvx : a.eval x = vx) (hx : Src Try.prog w 1 (.slice none 0 0) tx vx m news)
    (hbytes : (n + m) * 24 ≤ 225000000000000) (hbase : base ≤ w.heap.size)
    (h : ∀ A' c' w', Go.CP.Own w' base 22 1 A' (n + m) c' (xs ++ news) → w.grownBy w' (blockOf A) → wpList Try.prog ops Q rest (a.put o.dst (.slice A' (n + m) c')) w') : wpList Try.prog ops Q (o :: rest) a w :=
  wpList_append_Own w hgd s x 142 tx ho base 22 Try.t22 (.slice none 0 0) 1 24 Try.underlying142 info22 (by kernel_rfl) (by kernel_rfl) (by kernel_rfl) rfl (by decide) (by decide) (by decide) A n c xs hs hown vx m news hvx hx hbytes hbase h

/-- Rows of bytes, each one owned. -/
def Rows5 (w : World) (base : Nat) (xs : List Value) (ls : List (List UInt8)) : Prop :=
  xs.length = ls.length ∧ ∀ (i : Nat) (l : List UInt8), ls[i]? = some l → ∃ (A : Option Addr) (c : Nat), xs[i]? = some (Value.slice A l.length c) ∧ Go.CP.Own w base 5 1 A l.length c (l.map bv)
/-- What Image hands back. -/
def RetImage (W : World) (ls : List (List UInt8)) (e : Ending) (W' : World) : Prop :=
  ∃ A c xs, e = .returned (.slice A ls.length c) ∧ Go.CP.Own W' W.heap.size 22 1 A ls.length c xs ∧ Rows5 W' W.heap.size xs ls ∧ Below W.heap.size W W'
theorem own_apart {w : World} {b1 b2 : Nat} {e1 e2 : TypeId} {s1 s2 : Nat} {A1 A2 : Option Addr} {n1 n2 c1 c2 : Nat} {x1 x2 : List Value} (h1 : Go.CP.Own w b1 e1 s1 A1 n1 c1 x1) (h2 : Go.CP.Own w b2 e2 s2 A2 n2 c2 x2) (hne : e1 ≠ e2) : blockOf A1 = none ∨ blockOf A1 ≠ blockOf A2 := by
  rcases h1.2 with ⟨rfl, _⟩ | ⟨g, cur, rfl, _, hg, _⟩
  · exact .inl rfl
  · right
    intro e
    rcases h2.2 with ⟨rfl, _⟩ | ⟨g', cur', rfl, _, hg', _⟩
    · cases e
    · simp [blockOf] at e
      subst e
      rw [hg] at hg'
      cases hg'
      exact hne rfl
theorem Rows5.kept {w w' : World} {base : Nat} {xs : List Value} {ls : List (List UInt8)} {A : Option Addr} {n c : Nat} {ys : List Value} {b : Nat} (h : Rows5 w base xs ls) (ho : Go.CP.Own w b 22 1 A n c ys) (hg : w.grownBy w' (blockOf A)) : Rows5 w' base xs ls :=
  ⟨h.1, fun i l hl => by
    obtain ⟨B, k, h1, h2⟩ := h.2 i l hl
    exact ⟨B, k, h1, h2.kept hg (own_apart h2 ho (by decide))⟩⟩
theorem Rows5.below {w w' : World} {base B : Nat} {xs : List Value} {ls : List (List UInt8)} (h : Rows5 w base xs ls) (hb : Below B w w') (hB : w.heap.size ≤ B) : Rows5 w' base xs ls :=
  ⟨h.1, fun i l hl => by
    obtain ⟨A, k, h1, h2⟩ := h.2 i l hl
    exact ⟨A, k, h1, h2.below hb hB⟩⟩
theorem Rows5.snoc {w : World} {base : Nat} {xs : List Value} {ls : List (List UInt8)} (h : Rows5 w base xs ls) {A : Option Addr} {c : Nat} {l : List UInt8} (ho : Go.CP.Own w base 5 1 A l.length c (l.map bv)) : Rows5 w base (xs ++ [.slice A l.length c]) (ls ++ [l]) := by
  refine ⟨by simp [h.1], fun i m hm => ?_⟩
  by_cases hi : i < ls.length
  · rw [List.getElem?_append_left hi] at hm
    obtain ⟨B, k, h1, h2⟩ := h.2 i m hm
    exact ⟨B, k, by rw [List.getElem?_append_left (by rw [h.1]; exact hi)]; exact h1, h2⟩
  · have hi2 : i = ls.length := by
      have := (List.getElem?_eq_some_iff.1 hm).1
      simp at this
      omega
    subst hi2
    simp at hm
    subst hm
    exact ⟨A, c, by rw [← h.1]; simp, ho⟩
theorem Src.oneR {P : Program} {w : World} {z : Value} {tx t : TypeId} {v : Value} {e : TypeId} (hu : P.underlying tx = some (.slice t)) (h1 : v.oneCell' = true) : Src P (w.alloc (.cells #[v] e)) 1 z tx (.slice (some ⟨w.heap.size, 0, none⟩) 1 1) 1 [v] := Src.one hu h1
set_option maxHeartbeats 2000000 in
set_option maxRecDepth 100000 in
theorem drv_image (W : World) (g s : Nat) (A : Option Addr) (c : Nat) (D : Drv) (h : DriveIs W g s A c D) (hsl : D.sure.length ≤ 1000000) :
    Calls Try.prog 105 #[.pointer (some ⟨g, 0, none⟩)] W (RetImage W D.sure) := by
  have HS := hid (sectors_any W g (some ⟨s, 0, none⟩) D.sure.length D.sure.length _ _ _ h.head)
  have HH := hid h
  clear h
  go_enter Try.func105, Try.ntmps105
  go_wp2_with fail
  refine HS.out.mono ?_
  rintro e w1 ⟨rfl, hw⟩
  obtain rfl : W = w1 := hw.symm
  clear hw HS
  go_wp2_with fail
  go_loopw [3, 7] (fun ov iv wr => ∃ (i : Nat) (B : Option Addr) (cb : Nat) (xs : List Value), i ≤ D.sure.length ∧ iv = .int .i64 i ∧ ov = .slice B i cb ∧ Hid (Go.CP.Own wr W.heap.size 22 1 B i cb xs ∧ Rows5 wr W.heap.size xs (D.sure.take i) ∧ Below W.heap.size W wr)) (fun _ iv _ => D.sure.length - (intOf iv).toNat)
  case atStart => exact ⟨0, none, 0, [], by omega, rfl, rfl, hid ⟨Go.CP.Own.none _ _ _ _, ⟨rfl, fun i l hl => by simp at hl⟩, Below.refl _ _⟩⟩
  case round =>
    obtain ⟨i, B, cb, xs, hi, rfl, rfl, HI⟩ := hrel
    by_cases hlt : i < D.sure.length
    · obtain ⟨d, hd⟩ := get_of_lt D.sure hlt
      have hd1 := HH.out.below HI.out.2.2 (Nat.le_refl _)
      have hdl := hd1.2.2.2.1.sure d (List.mem_of_getElem? hd)
      obtain ⟨c0, -, -, -, -, hlg⟩ := hd1.head.facts
      have hrow := sector_range hd1.2.1 hd1.2.2.2.1.sure hd
      have hby : Bytes wr (some ⟨s, i * 128, none⟩) d := fun j v hv => ⟨s, i * 128, rfl, hrow j v hv⟩
      have hcl := clone_any (some ⟨s, i * 128, none⟩) d 128 wr hby (by omega)
      rw [hdl] at hcl
      have HC := hid hcl
      have HD := hid hd
      have HDL := hid hdl
      have hii : (i : Int) < (D.sure.length : Int) := by omega
      have hi0 : (0 : Int) ≤ (i : Int) := by omega
      clear hd hd1 hdl hrow hby hcl
      go_wp2_with fail
      refine HC.out.mono ?_
      rintro e w2 ⟨A2, c2, rfl, ho2, hb2⟩
      have hz2 := hb2.size
      have hob := HI.out.1.below hb2 (Nat.le_refl _)
      have hrb := HI.out.2.1.below hb2 (Nat.le_refl _)
      have hbW := HI.out.2.2.trans (hb2.mono HI.out.2.2.size)
      have hzz := HI.out.2.2.size
      go_wp2_with (at_builtin; refine ap_rows rfl _ _ 142 rfl W.heap.size rfl (hob.alloc (.cells #[.slice A2 128 c2] 22)) rfl (Src.oneR Try.underlying142 rfl) (by omega) (by simp; omega) ?_; intro A3 c3 w3 ho3 hg3)
      go_roundw
      case rel =>
        refine ⟨i + 1, A3, c3, _, by omega, by go_num, rfl, hid ⟨ho3, ?_, ?_⟩⟩
        · rw [take_snoc HD.out]
          have h1 := (hrb.below ((Below.refl w2.heap.size w2).alloc (Nat.le_refl _) (.cells #[.slice A2 128 c2] 22)) (Nat.le_refl _)).kept (hob.alloc _) hg3
          have h2 := (ho2.mono hzz).alloc (.cells #[.slice A2 128 c2] 22)
          have h3 := h2.kept hg3 (own_apart h2 (hob.alloc _) (by decide))
          rw [← HDL.out] at h3
          have h4 := h1.snoc h3
          rw [HDL.out] at h4
          exact h4
        · exact Below.grown (hbW.alloc hbW.size _) hg3 (by simp; omega) (fun k hk => (hob.block k hk).1)
      case measure => simp [intOf]; omega
    · have hk : i = D.sure.length := by omega
      subst hk
      clear hlt hi
      go_wp2_with fail
      go_ret
      obtain ⟨h1, h2, h3⟩ := HI.out
      rw [List.take_length] at h2
      exact ⟨B, cb, xs, rfl, h1, h2, h3⟩
end Go.Proofs.Ytppbcdcmpcagdaa
