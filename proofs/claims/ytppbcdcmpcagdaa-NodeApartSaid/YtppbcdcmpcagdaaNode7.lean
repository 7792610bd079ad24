/- Plain laws: a node's bytes read back; a sector with nodes. -/
import Derived.Test.YtppbcdcmpcagdaaNode6
import Derived.Test.YtppbcdcmpcagdaaSuper4
namespace Go.Proofs.Ytppbcdcmpcagdaa
open Go.RowKit Go.CP

/-- Numbers cut off bytes, of widths. -/
def cutL : List Nat → List UInt8 → List Nat
  | [], _ => []
  | k :: ks, l => bigL (l.take k) :: cutL ks (l.drop k)
/-- Numbers of widths, as bytes. -/
def flatW : List (Nat × Nat) → List UInt8
  | [] => []
  | p :: r => little p.1 p.2 ++ flatW r
theorem cut_flat : ∀ (ps : List (Nat × Nat)) (r : List UInt8), (∀ p ∈ ps, p.1 < 256 ^ p.2) → cutL (ps.map (·.2)) (flatW ps ++ r) = ps.map (·.1)
  | [], _, _ => rfl
  | p :: ps, r, h => by
    have h1 := p_head (a := little p.1 p.2) (r := flatW ps ++ r) (k := p.2) (little_len _ _)
    simp only [List.map_cons, cutL, flatW, List.append_assoc]
    rw [h1.1, h1.2, cut_flat ps r (fun q hq => h q (List.mem_cons_of_mem _ hq)), big_little p.2 p.1 (h p List.mem_cons_self)]

/-- What 32 bytes say. -/
def decN (s : List UInt8) : Nod :=
  nodN (bigL (s.take 1)) (bigL ((s.drop 1).take 1)) (bigL ((s.drop 2).take 4)) (bigL ((s.drop 6).take 4)) (bigL ((s.drop 10).take 4))
    (bigL ((s.drop 14).take 2)) (bigL ((s.drop 16).take 2)) (bigL ((s.drop 18).take 2)) (bigL ((s.drop 20).take 2)) (bigL ((s.drop 22).take 2)) (bigL ((s.drop 24).take 2))
theorem nodL_flat (k l g s c d0 d1 d2 d3 o t : Nat) : nodL k l g s c [d0, d1, d2, d3, o, t] = flatW [(k, 1), (l, 1), (g, 4), (s, 4), (c, 4), (d0, 2), (d1, 2), (d2, 2), (d3, 2), (o, 2), (t, 2)] ++ List.replicate 6 0 := by
  simp [nodL, headL, flatW, List.append_assoc]
theorem decN_nod (k l g s c d0 d1 d2 d3 o t : Nat) (hk : k < 256) (hl : l < 256) (hg : g < 4294967296) (hs : s < 4294967296) (hc : c < 4294967296) (hp : ∀ n ∈ [d0, d1, d2, d3, o, t], n ≤ 1023) :
    decN (nodL k l g s c [d0, d1, d2, d3, o, t]) = nodN k l g s c d0 d1 d2 d3 o t := by
  have h := cut_flat [(k, 1), (l, 1), (g, 4), (s, 4), (c, 4), (d0, 2), (d1, 2), (d2, 2), (d3, 2), (o, 2), (t, 2)] (List.replicate 6 0) (by
    simp at hp ⊢
    omega)
  rw [← nodL_flat] at h
  generalize nodL k l g s c [d0, d1, d2, d3, o, t] = b at h
  simp only [List.map_cons, List.map_nil, cutL, List.drop_drop, List.cons.injEq, and_true] at h
  obtain ⟨h0, h1, h2, h3, h4, h5, h6, h7, h8, h9, h10⟩ := h
  unfold decN
  rw [h0, h1, h2, h3, h4, h5, h6, h7, h8, h9, h10]

/-- A sound node as bytes. -/
def encL (x : Nod) : List UInt8 := nodL x.k.toNat x.l.toNat x.g.toNat x.s.toNat x.c.toNat [x.d0.toNat, x.d1.toNat, x.d2.toNat, x.d3.toNat, x.o.toNat, x.t.toNat]
theorem encL_len (x : Nod) : (encL x).length = 32 := nodL_len _ _ _ _ _ _ rfl
/-- Are bytes a node's? -/
def okN (s : List UInt8) : Bool := soundN (decN s) && decide (encL (decN s) = s)
theorem Nod.nat {x : Nod} (h : 0 ≤ x.k ∧ 0 ≤ x.l ∧ 0 ≤ x.g ∧ 0 ≤ x.s ∧ 0 ≤ x.c ∧ (∀ n ∈ ptrsL x, 0 ≤ n)) :
    nodN x.k.toNat x.l.toNat x.g.toNat x.s.toNat x.c.toNat x.d0.toNat x.d1.toNat x.d2.toNat x.d3.toNat x.o.toNat x.t.toNat = x := by
  obtain ⟨h1, h2, h3, h4, h5, h6⟩ := h
  simp only [ptrsL, List.mem_cons, List.not_mem_nil, or_false, forall_eq_or_imp, forall_eq] at h6
  cases x
  simp only [nodN, Nod.mk.injEq] at *
  omega
theorem sound_nat {x : Nod} (h : soundN x = true) : nodN x.k.toNat x.l.toNat x.g.toNat x.s.toNat x.c.toNat x.d0.toNat x.d1.toNat x.d2.toNat x.d3.toNat x.o.toNat x.t.toNat = x := by
  obtain ⟨h1, h2, h3, h4, h5, h6⟩ := sound_bounds h
  exact Nod.nat ⟨h1.1, h2.1, h3.1, h4.1, h5.1, fun n hn => (h6 n hn).1⟩
theorem sound_small {x : Nod} (h : soundN x = true) : x.k.toNat < 256 ∧ x.l.toNat < 256 ∧ x.g.toNat < 4294967296 ∧ x.s.toNat < 4294967296 ∧ x.c.toNat < 4294967296 ∧ (∀ n ∈ [x.d0.toNat, x.d1.toNat, x.d2.toNat, x.d3.toNat, x.o.toNat, x.t.toNat], n ≤ 1023) := by
  obtain ⟨h1, h2, h3, h4, h5, h6⟩ := sound_bounds h
  refine ⟨by omega, by omega, by omega, by omega, by omega, ?_⟩
  simp only [ptrsL, List.mem_cons, List.not_mem_nil, or_false, forall_eq_or_imp, forall_eq] at h6 ⊢
  omega
theorem dec_enc {x : Nod} (h : soundN x = true) : decN (encL x) = x := by
  obtain ⟨h1, h2, h3, h4, h5, h6⟩ := sound_small h
  have := decN_nod x.k.toNat x.l.toNat x.g.toNat x.s.toNat x.c.toNat x.d0.toNat x.d1.toNat x.d2.toNat x.d3.toNat x.o.toNat x.t.toNat h1 h2 h3 h4 h5 h6
  rw [sound_nat h] at this
  exact this
theorem ok_enc {x : Nod} (h : soundN x = true) : okN (encL x) = true := by
  rw [okN, dec_enc h, h]
  simp
theorem ok_eq {s : List UInt8} (h : okN s = true) : soundN (decN s) = true ∧ encL (decN s) = s := by simpa [okN] using h
/-- Unlike nodes have unlike bytes. -/
theorem enc_inj {x y : Nod} (hx : soundN x = true) (hy : soundN y = true) (e : encL x = encL y) : x = y := by
  rw [← dec_enc hx, e, dec_enc hy]

/-- The node's bytes in a sector. -/
def getS (b : List UInt8) (i : Nat) : List UInt8 := (b.drop (32 * i)).take 32
def putS (b : List UInt8) (i : Nat) (s : List UInt8) : List UInt8 := b.take (32 * i) ++ s ++ b.drop (32 * i + 32)
theorem putS_len {b s : List UInt8} {i : Nat} (hb : b.length = 128) (hs : s.length = 32) (hi : i < 4) : (putS b i s).length = 128 := by
  simp [putS]; omega
theorem get_put {b s : List UInt8} {i : Nat} (hb : b.length = 128) (hs : s.length = 32) (hi : i < 4) : getS (putS b i s) i = s := by
  unfold getS putS
  rw [List.append_assoc, (p_head (a := b.take (32 * i)) (k := 32 * i) (by simp; omega)).2, (p_head (a := s) (k := 32) hs).1]
theorem get_other {b s : List UInt8} {i k : Nat} (hb : b.length = 128) (hs : s.length = 32) (hi : i < 4) (hk : k < 4) (hne : k ≠ i) : getS (putS b i s) k = getS b k := by
  unfold getS putS
  apply List.ext_getElem?
  intro j
  by_cases hj : j < 32
  · rw [List.getElem?_take_of_lt hj, List.getElem?_take_of_lt hj, List.getElem?_drop, List.getElem?_drop]
    by_cases hlt : k < i
    · rw [List.append_assoc, List.getElem?_append_left (by simp; omega), List.getElem?_take_of_lt (by omega)]
    · rw [List.getElem?_append_right (by simp; omega), List.getElem?_drop]
      congr 1
      simp
      omega
  · rw [List.getElem?_take_eq_none (by omega), List.getElem?_take_eq_none (by omega)]
theorem putS_inj {b s s' : List UInt8} {i : Nat} (hb : b.length = 128) (hs : s.length = 32) (hs' : s'.length = 32) (hi : i < 4) (e : putS b i s = putS b i s') : s = s' := by
  rw [← get_put hb hs hi, e, get_put hb hs' hi]
/-- What is behind the fields says nothing of them. -/
theorem decN_take {s s' : List UInt8} (h : s.take 26 = s'.take 26) : decN s = decN s' := by
  have e : ∀ a n, a + n ≤ 26 → (s.drop a).take n = (s'.drop a).take n := fun a n ha => by
    have h1 : ((s.take 26).drop a).take n = ((s'.take 26).drop a).take n := by rw [h]
    rw [List.drop_take, List.drop_take, List.take_take, List.take_take, Nat.min_eq_left (by omega)] at h1
    exact h1
  have e0 : s.take 1 = s'.take 1 := e 0 1 (by omega)
  unfold decN
  rw [e0, e 1 1 (by omega), e 2 4 (by omega), e 6 4 (by omega), e 10 4 (by omega), e 14 2 (by omega), e 16 2 (by omega), e 18 2 (by omega), e 20 2 (by omega), e 22 2 (by omega), e 24 2 (by omega)]
/-- A byte behind a node's fields that is turned: no node's bytes. -/
theorem ok_behind {x : Nod} {s : List UInt8} (h : soundN x = true) (ht : s.take 26 = (encL x).take 26) (hne : s ≠ encL x) : okN s = false := by
  cases hq : okN s with
  | false => rfl
  | true =>
    exfalso
    have h2 := (ok_eq hq).2
    rw [decN_take ht, dec_enc h] at h2
    exact hne h2.symm
end Go.Proofs.Ytppbcdcmpcagdaa
