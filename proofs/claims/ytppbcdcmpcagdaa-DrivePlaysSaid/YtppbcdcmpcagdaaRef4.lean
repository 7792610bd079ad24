/- The document's drive in memory: contract of its Flush. -/
import Derived.Test.YtppbcdcmpcagdaaRef3
namespace Go.Proofs.Ytppbcdcmpcagdaa
open Go.RowKit Go.CP

theorem dons_set : ∀ (l : List Don) (i : Nat) (x : Don), l[i]? = some x → (l.flatMap dcells).set (i * 3 + 2) (.bool true) = (l.set i (x.1, x.2.1, true)).flatMap dcells
  | [], _, _, h => by simp at h
  | y :: l, 0, x, h => by
    simp at h
    subst h
    simp [dcells]
  | y :: l, i + 1, x, h => by
    have ih := dons_set l i x (by simpa using h)
    rw [List.set_cons_succ, List.flatMap_cons, List.flatMap_cons, ← ih, show (i + 1) * 3 + 2 = i * 3 + 2 + 1 + 1 + 1 by omega]
    simp [dcells]
/-- A list of which the first i are made to last. -/
def sureTo (l : List Don) (i : Nat) : List Don := sureAll (l.take i) ++ l.drop i
theorem sureTo_len (l : List Don) (i : Nat) : (sureTo l i).length = l.length := by
  simp [sureTo, sureAll]
  omega
theorem sureTo_at {l : List Don} {i : Nat} {x : Don} (h : l[i]? = some x) : (sureTo l i)[i]? = some x ∧ (sureTo l i).set i (x.1, x.2.1, true) = sureTo l (i + 1) := by
  have hi := (List.getElem?_eq_some_iff.1 h).1
  have hl : (sureAll (l.take i)).length = i := by simp [sureAll]; omega
  have hd : l.drop i = x :: l.drop (i + 1) := by
    rw [List.drop_eq_getElem_cons hi]
    rw [(List.getElem?_eq_some_iff.1 h).2]
  constructor
  · rw [sureTo, List.getElem?_append_right (by omega), hl, hd]
    simp
  · rw [sureTo, hd, List.set_append_right _ _ (by omega), hl, sureTo, take_snoc h]
    simp [sureAll]
theorem Drove.setRow {W : World} {r b : Nat} (j : Nat) (v : Value) : Drove W (W.setCell ⟨b, j, none⟩ v) r r (some ⟨b, 0, none⟩) (some ⟨b, 0, none⟩) :=
  ⟨⟨rfl, rfl, rfl, by simp [World.setCell]⟩, fun k _ _ _ hA => Below.heap_setCell _ _ _ _ (fun e => hA (by rw [e]; rfl)), fun _ h => .inl h⟩
theorem RIs.mark {W : World} {base r b c m : Nat} {l : List Don} {fuse : Int} {dead : Bool} {i : Nat} {x : Don} (h : RIs W base r (some ⟨b, 0, none⟩) c ⟨m, sureTo l i, fuse, dead⟩) (hx : l[i]? = some x) :
    RIs (W.setCell ⟨b, i * 3 + 2, none⟩ (.bool true)) base r (some ⟨b, 0, none⟩) c ⟨m, sureTo l (i + 1), fuse, dead⟩ := by
  obtain ⟨h1, h2, h3, h4⟩ := h
  have hbr : r ≠ b := fun e => h4 (by rw [e]; rfl)
  obtain ⟨e1, e2⟩ := sureTo_at hx
  have hs := h2.set rfl (i * 3 + 2) (.bool true)
  dsimp only at h1 h2 hs
  rw [dons_set _ i x e1, e2, sureTo_len] at hs
  rw [sureTo_len] at h1
  refine ⟨?_, ?_, h3, h4⟩
  · dsimp only
    rw [sureTo_len]
    exact (Below.heap_setCell _ _ _ _ hbr).trans h1
  · dsimp only
    rw [sureTo_len]
    exact hs
set_option maxHeartbeats 1000000 in
set_option maxRecDepth 100000 in
theorem ref_flush (W : World) (base r : Nat) (A : Option Addr) (c : Nat) (R : RDrv) (h : RIs W base r A c R) (hl : -1 ≤ R.fuse) (hu : R.fuse ≤ 9223372036854775807) (hn : R.list.length ≤ 1000000000000) :
    Calls Try.prog 108 #[.pointer (some ⟨r, 0, none⟩)] W (RetRef W base r A R.flush) := by
  have HS := hid (ref_spark W base r A c R h hl hu)
  obtain ⟨m, list, fuse, dead⟩ := R
  have H := hid h
  obtain ⟨-, -, -, c3, -, hlt⟩ := h.1.facts
  dsimp only at c3 hn
  have hni : (list.length : Int) ≤ 1000000000000 := by omega
  clear h hl hu
  cases dead with
  | true =>
    have HR : Hid ((RDrv.flush ⟨m, list, fuse, true⟩) = (11, ⟨m, list, fuse, true⟩)) := hid (if_pos rfl)
    go_enter Try.func108, Try.ntmps108
    go_wp2_with fail
    go_ret
    rw [HR.out]
    exact ⟨rfl, A, c, H.out, Drove.refl _ _ _ _⟩
  | false =>
    go_enter Try.func108, Try.ntmps108
    go_wp2_with fail
    refine HS.out.mono ?_
    rintro e w1 ⟨hv1, ⟨h0, rfl, hr1⟩ | ⟨h0, rfl, hr1⟩⟩
    · have HR : Hid ((RDrv.flush ⟨m, list, fuse, false⟩) = (11, RDrv.dark ⟨m, list, fuse, false⟩)) := hid (by
        rw [RDrv.flush, if_neg (by simp)]
        exact if_pos h0)
      have HK := hid (And.intro hr1 hv1)
      clear hr1 hv1 h0 HS
      go_wp2_with fail
      go_ret
      rw [HR.out]
      exact ⟨rfl, A, c, HK.out.1, HK.out.2⟩
    · obtain ⟨f2, hf2⟩ : ∃ f2, (RDrv.less ⟨m, list, fuse, false⟩).fuse = f2 := ⟨_, rfl⟩
      have HR : Hid ((RDrv.flush ⟨m, list, fuse, false⟩) = (0, ⟨m, sureAll list, f2, false⟩)) := hid (by
        rw [RDrv.flush, if_neg (by simp)]
        refine (if_neg h0).trans ?_
        subst hf2
        rfl)
      have hr2 : RIs w1 base r A c ⟨m, sureTo list 0, f2, false⟩ := by
        rw [← hf2]
        exact hr1
      have HK := hid hr2
      have HV := hid hv1
      clear hr1 hv1 h0 HS hr2 hf2
      go_wp2_with fail
      go_loopw [3] (fun iv' wr => ∃ i : Nat, i ≤ list.length ∧ iv' = .int .i64 i ∧ Hid (RIs wr base r A c ⟨m, sureTo list i, f2, false⟩ ∧ Drove W wr r r A A)) (fun iv' _ => list.length - (intOf iv').toNat)
      case atStart => exact ⟨0, by omega, rfl, hid ⟨HK.out, HV.out⟩⟩
      case round =>
        obtain ⟨i, hi, rfl, HI⟩ := hrel
        obtain ⟨-, k1, -, -, -, -⟩ := HI.out.1.1.facts
        dsimp only at k1
        rw [sureTo_len] at k1
        by_cases hil : i < list.length
        · obtain ⟨x, hx⟩ := get_of_lt list hil
          have ho := HI.out.1.2.1
          dsimp only at ho
          rw [sureTo_len] at ho
          obtain ⟨b, C, rfl, -⟩ := ho.open (by omega)
          have hc := own_cell ho (flatMap_at dcells 3 (sureTo list i) (fun _ _ => rfl) (sureTo_at hx).1 (j := 2) (v := .bool x.2.2) rfl)
          have hfz := ho.free rfl (i * 3 + 2)
          have HM := hid (HI.out.1.mark hx)
          have HD := hid (HI.out.2.trans (Drove.setRow (i * 3 + 2) (.bool true)))
          have hii : (i : Int) < (list.length : Int) := by omega
          clear ho hx
          go_wp2_with fail
          go_roundw
          case rel => exact ⟨i + 1, by omega, by go_num, hid ⟨HM.out, HD.out⟩⟩
          case measure => simp [intOf]; omega
        · have hk : i = list.length := by omega
          subst hk
          have HE : Hid (sureTo list list.length = sureAll list) := hid (by simp [sureTo])
          go_wp2_with fail
          go_ret
          rw [HR.out]
          have hi1 := HI.out.1
          rw [HE.out] at hi1
          exact ⟨rfl, A, c, hi1, HI.out.2⟩
end Go.Proofs.Ytppbcdcmpcagdaa
