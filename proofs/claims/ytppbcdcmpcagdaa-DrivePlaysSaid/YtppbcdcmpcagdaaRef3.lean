/- The document's drive in memory: contracts of its find, Get and Sure. -/
import Derived.Test.YtppbcdcmpcagdaaRef2
namespace Go.Proofs.Ytppbcdcmpcagdaa
open Go.RowKit Go.CP

theorem dons_at {W : World} {A : Option Addr} {l : List Don} (h : Cells W A (l.flatMap dcells)) {i : Nat} {x : Don} (hx : l[i]? = some x) :
    ∃ b off, A = some ⟨b, off, none⟩ ∧ W.cell? ⟨b, off + i * 3, none⟩ = some (.int .i64 x.1) ∧ W.cell? ⟨b, off + i * 3 + 1, none⟩ = some (.string (bstr x.2.1)) ∧ W.cell? ⟨b, off + i * 3 + 2, none⟩ = some (.bool x.2.2) := by
  obtain ⟨b, off, rfl, c0⟩ := h _ _ (flatMap_at dcells 3 l (fun _ _ => rfl) hx (j := 0) (v := .int .i64 x.1) rfl)
  obtain ⟨b1, o1, e1, c1⟩ := h _ _ (flatMap_at dcells 3 l (fun _ _ => rfl) hx (j := 1) (v := .string (bstr x.2.1)) rfl)
  obtain ⟨b2, o2, e2, c2⟩ := h _ _ (flatMap_at dcells 3 l (fun _ _ => rfl) hx (j := 2) (v := .bool x.2.2) rfl)
  cases e1
  cases e2
  exact ⟨b, off, rfl, c0, c1, c2⟩
theorem findR_hit {n : Int} {q : Bool} {l : List Don} {k : Nat} {x : Don} (hx : l[k]? = some x) (hn : findR n q (l.drop (k + 1)) = none) (hc : x.1 = n ∧ (x.2.2 = true ∨ q = false)) : (findR n q l).getD nought = x.2.1 := by
  have hk := (List.getElem?_eq_some_iff.1 hx).1
  have hd : l.drop k = x :: l.drop (k + 1) := by
    rw [List.drop_eq_getElem_cons hk]
    rw [(List.getElem?_eq_some_iff.1 hx).2]
  have h1 : findR n q (l.drop k) = some x.2.1 := by rw [hd, findR, hn]; dsimp only; rw [if_pos hc]
  have h2 := findR_app n q (l.take k) (l.drop k)
  rw [List.take_append_drop, h1] at h2
  rw [h2]
  rfl
theorem findR_miss {n : Int} {q : Bool} {l : List Don} {k : Nat} {x : Don} (hx : l[k]? = some x) (hn : findR n q (l.drop (k + 1)) = none) (hc : ¬ (x.1 = n ∧ (x.2.2 = true ∨ q = false))) : findR n q (l.drop k) = none := by
  have hk := (List.getElem?_eq_some_iff.1 hx).1
  have hd : l.drop k = x :: l.drop (k + 1) := by
    rw [List.drop_eq_getElem_cons hk]
    rw [(List.getElem?_eq_some_iff.1 hx).2]
  rw [hd, findR, hn]
  dsimp only
  rw [if_neg hc]
theorem zA_len2 : zA.length = 128 := by simp [zA]
set_option maxHeartbeats 1000000 in
set_option maxRecDepth 100000 in
theorem ref_find (W : World) (base r : Nat) (A : Option Addr) (c : Nat) (R : RDrv) (n : Int) (q : Bool) (h : RIs W base r A c R) (hn : R.list.length ≤ 1000000000000) :
    Calls Try.prog 169 #[.pointer (some ⟨r, 0, none⟩), .int .i64 n, .bool q] W fun e W' => e = .returned (.string (bstr (R.find n q))) ∧ Below W.heap.size W W' := by
  obtain ⟨m, list, fuse, dead⟩ := R
  have H := hid h
  obtain ⟨c0, c1, c2, c3, hf, hlt⟩ := h.1.facts
  dsimp only at c1 hn
  have hni : (list.length : Int) ≤ 1000000000000 := by omega
  have HC1 := hid c1
  clear h c0 c2 c3 hf
  go_enter Try.func169, Try.ntmps169
  go_wp2_with fail
  go_loopw [7] (fun iv' wr => ∃ i : Nat, i ≤ list.length ∧ iv' = .int .i64 ((i : Int) - 1) ∧ Hid (findR n q (list.drop i) = none) ∧ Hid (wr = W)) (fun iv' _ => (intOf iv' + 1).toNat)
  case atStart => exact ⟨list.length, by omega, by go_num, hid (by rw [List.drop_length]; rfl), hid rfl⟩
  case round =>
    obtain ⟨i, hi, rfl, HF, HW⟩ := hrel
    obtain rfl := HW.out.symm
    rcases Nat.eq_zero_or_pos i with rfl | hpos
    · rw [List.drop_zero] at HF
      have HR : Hid ((RDrv.find ⟨m, list, fuse, dead⟩ n q) = zA) := hid (by rw [RDrv.find, HF.out]; rfl)
      rw [show (((0 : Nat) : Int) - 1) = -1 from rfl]
      go_wp2_with ((with_reducible refine wpl_make22 ?_); refine mk_zeros rfl rfl ?_; intro w2 ho2 hb2 hz2; have hcv := cv_bytes 128 ho2.cells; rw [zA_len2] at hcv; have HB2 := hid hb2; clear ho2 hb2 hz2)
      go_ret
      rw [HR.out]
      exact ⟨rfl, HB2.out⟩
    · obtain ⟨k, rfl⟩ : ∃ k, i = k + 1 := ⟨i - 1, by omega⟩
      have hk1 : (((k + 1 : Nat) : Int) - 1) = (k : Int) := by omega
      obtain ⟨x, hx⟩ := get_of_lt list (i := k) (by omega)
      obtain ⟨b, off, rfl, d0, d1, d2⟩ := dons_at H.out.2.1.cells hx
      obtain ⟨x0, xd, xs⟩ := x
      dsimp only at d0 d1 d2
      have hki : (k : Int) < (list.length : Int) := by omega
      have HX := hid hx
      rw [hk1]
      clear hk1 hx hi
      by_cases hxn : x0 = n
      · have HXN := hid hxn
        have hxq : (x0 == n) = true := by simpa using hxn
        clear hxn
        cases xs with
        | true =>
          have HR : Hid ((RDrv.find ⟨m, list, fuse, dead⟩ n q) = xd) := hid (findR_hit HX.out HF.out ⟨HXN.out, .inl rfl⟩)
          go_wp2_with fail
          go_ret
          rw [HR.out]
          exact ⟨rfl, Below.refl _ _⟩
        | false =>
          cases q with
          | false =>
            have HR : Hid ((RDrv.find ⟨m, list, fuse, dead⟩ n false) = xd) := hid (findR_hit HX.out HF.out ⟨HXN.out, .inr rfl⟩)
            go_wp2_with fail
            go_ret
            rw [HR.out]
            exact ⟨rfl, Below.refl _ _⟩
          | true =>
            have HM := hid (findR_miss HX.out HF.out (fun h => by rcases h.2 with e | e <;> cases e))
            go_wp2_with fail
            go_roundw
            case rel => exact ⟨k, by omega, by go_num, HM, hid True.intro⟩
            case measure => simp [intOf]
      · have HM := hid (findR_miss HX.out HF.out (fun h => hxn h.1))
        have hxq : (x0 == n) = false := by simpa using hxn
        go_wp2_with fail
        go_roundw
        case rel => exact ⟨k, by omega, by go_num, HM, hid True.intro⟩
        case measure => simp [intOf]
theorem ref_sure (W : World) (base r : Nat) (A : Option Addr) (c : Nat) (R : RDrv) (n : Int) (h : RIs W base r A c R) (hn : R.list.length ≤ 1000000000000) :
    Calls Try.prog 113 #[.pointer (some ⟨r, 0, none⟩), .int .i64 n] W fun e W' => e = .returned (.string (bstr (R.find n true))) ∧ Below W.heap.size W W' := by
  have HP := hid (ref_find W base r A c R n true h hn)
  clear h
  go_enter Try.func113, Try.ntmps113
  go_wp2_with fail
  refine HP.out.mono ?_
  rintro e w' ⟨rfl, hb⟩
  have HB := hid hb
  clear HP hb
  go_wp2_with fail
  go_ret
  exact ⟨rfl, HB.out⟩
theorem ref_get (W : World) (base r : Nat) (A : Option Addr) (c : Nat) (R : RDrv) (n : Int) (h : RIs W base r A c R) (hn : R.list.length ≤ 1000000000000) :
    Calls Try.prog 111 #[.pointer (some ⟨r, 0, none⟩), .int .i64 n] W fun e W' => e = .returned (.tuple #[.string (bstr (R.get n).2), .int .i64 (R.get n).1]) ∧ Below W.heap.size W W' := by
  have HP := hid (ref_find W base r A c R n false h hn)
  obtain ⟨m, list, fuse, dead⟩ := R
  obtain ⟨c0, c1, c2, c3, hf, hlt⟩ := h.1.facts
  dsimp only at c0 c3
  clear h c1 c2 hf
  cases dead with
  | true =>
    have HR : Hid ((RDrv.get ⟨m, list, fuse, true⟩ n) = (11, [])) := hid (if_pos rfl)
    go_enter Try.func111, Try.ntmps111
    go_wp2_with fail
    go_ret2
    rw [HR.out]
    exact ⟨rfl, Below.refl _ _⟩
  | false =>
    by_cases h0 : n < 0
    · have HR : Hid ((RDrv.get ⟨m, list, fuse, false⟩ n) = (4, [])) := hid (by rw [RDrv.get, if_neg (by simp), if_pos (.inl h0)])
      go_enter Try.func111, Try.ntmps111
      go_wp2_with fail
      go_ret2
      rw [HR.out]
      exact ⟨rfl, Below.refl _ _⟩
    · by_cases h1 : (m : Int) ≤ n
      · have HR : Hid ((RDrv.get ⟨m, list, fuse, false⟩ n) = (4, [])) := hid (by rw [RDrv.get, if_neg (by simp), if_pos (.inr h1)])
        go_enter Try.func111, Try.ntmps111
        go_wp2_with fail
        go_ret2
        rw [HR.out]
        exact ⟨rfl, Below.refl _ _⟩
      · have HR : Hid ((RDrv.get ⟨m, list, fuse, false⟩ n) = (0, RDrv.find ⟨m, list, fuse, false⟩ n false)) := hid (by rw [RDrv.get, if_neg (by simp), if_neg (by dsimp only; omega)])
        go_enter Try.func111, Try.ntmps111
        go_wp2_with fail
        refine HP.out.mono ?_
        rintro e w' ⟨rfl, hb⟩
        have HB := hid hb
        clear HP hb
        go_wp2_with fail
        go_ret2
        rw [HR.out]
        exact ⟨rfl, HB.out⟩
end Go.Proofs.Ytppbcdcmpcagdaa
