/- Steps that came in, opened by the weights of what came in: slices of structs that hold slices. -/
import Derived.Test.YtppbcdcmpcagdaaPlay4
import Derived.Test.YtppbcdcmpcagdaaSized
namespace Go.Proofs.Ytppbcdcmpcagdaa
open Go.RowKit Go.CP Go.ChangeShapes Go.WideShapes Go.Deep

/-- Each slice of a datum is within the memory's reach. -/
def Fits {H : Type} (P : Program) (t : TypeId) (d : DataW H) : Prop := (d.weights P t).all (· ≤ reachBytes) = true
theorem fits_arg {H : Type} {P : Program} {ts : List TypeId} {ds : List (DataW H)} {j : Nat} {t : TypeId} {d : DataW H} (h : (DataW.weightsEach P ts ds).all (· ≤ reachBytes) = true) (ht : ts[j]? = some t) (hd : ds[j]? = some d) : Fits P t d := by
  unfold Fits
  rw [List.all_eq_true]
  exact fun n hn => List.all_eq_true.1 h n (DataW.weights_mem_each ht hd n hn)
theorem weights_mem_all {H : Type} {P : Program} {e : TypeId} : ∀ {l : List (DataW H)} {d : DataW H}, d ∈ l → ∀ n ∈ d.weights P e, n ∈ DataW.weightsAll P e l
  | x :: l, d, hd, n, hn => by
    simp only [DataW.weightsAll, List.mem_append]
    rcases List.mem_cons.1 hd with e | hd
    · subst e; exact .inl hn
    · exact .inr (weights_mem_all hd n hn)
theorem fits_slice {H : Type} {P : Program} {t e : TypeId} {a b : List (DataW H)} (hu : P.underlying t = some (.slice e)) (h : Fits P t (.slice a b)) : a.length * P.bytesOf e ≤ reachBytes ∧ ∀ d ∈ a, Fits P e d := by
  unfold Fits at h
  rw [List.all_eq_true] at h
  constructor
  · have := h ((a.length + b.length) * P.bytesOf e) (by simp [DataW.weights, hu])
    have h2 : (a.length + b.length) * P.bytesOf e ≤ reachBytes := by simpa using this
    exact Nat.le_trans (Nat.mul_le_mul_right _ (Nat.le_add_right _ _)) h2
  · intro d hd
    unfold Fits
    rw [List.all_eq_true]
    intro n hn
    refine h n ?_
    simp only [DataW.weights, hu, List.mem_cons, List.mem_append]
    exact .inr (.inl (weights_mem_all hd n hn))
theorem fits_agg {H : Type} {P : Program} {t : TypeId} {fs : Array Field} {parts : List (DataW H)} (hu : P.underlying t = some (.struct fs)) (h : Fits P t (.agg parts)) {j : Nat} {fd : Field} {d : DataW H} (hf : fs[j]? = some fd) (hd : parts[j]? = some d) : Fits P fd.type d := by
  unfold Fits at h ⊢
  rw [List.all_eq_true] at h ⊢
  intro n hn
  refine h n ?_
  simp only [DataW.weights, hu]
  exact DataW.weights_mem_each (j := j) (by rw [List.getElem?_map, Array.getElem?_toList, hf]; rfl) hd n hn
/-- A slice of structs of one-cell fields that came in, as a list. -/
theorem open_rowsF {H : Type} {enc : TypeId × Value → H} {P : Program} {w : World} {base : Nat} {held : Bool} {t e : TypeId} {fs : Array Field} {fuel : Nat} {v : Value} {x : DataW H × List MemPlace}
    (ht : P.underlying t = some (.slice e)) (he : P.underlying e = some (.struct fs)) (hone : oneCellFields P fs = true) (hC : P.cellsOf e = fs.size)
    (h : DataW.trod enc P w base (fun _ => true) held fuel t [v] = some x) (hB : Fits P t x.1) {α : Type} (f : α → List Value) (hf : ∀ y, (f y).length = fs.size) (R : α → Prop)
    (each : ∀ (cs : List Value) (n : Nat), cs.length = fs.size → (∀ (j : Nat) (fd : Field), fs[j]? = some fd → ∃ u y, cs[j]? = some u ∧ Fits P fd.type y.1 ∧ DataW.trod enc P w base (fun _ => true) held n fd.type [u] = some y) → ∃ a : α, f a = cs ∧ R a) :
    ∃ (A : Option Addr) (l : List α) (c : Nat), v = .slice A l.length c ∧ l.length ≤ c ∧ Cells w A (l.flatMap f) ∧ (∀ a ∈ l, R a) ∧ l.length * P.bytesOf e ≤ reachBytes := by
  rcases open_slice ht h with ⟨hcs, -⟩ | ⟨a, len, cap, m, n, D, Pl, hcs, -, hl, -, hmm, hx, hi⟩
  · obtain rfl : v = .slice none 0 0 := by simpa using hcs
    exact ⟨none, [], 0, rfl, Nat.le_refl _, Cells.nil _ _, fun a ha => by simp at ha, by simp⟩
  · obtain rfl : v = .slice (some a) len cap := by simpa using hcs
    rw [if_pos rfl] at hmm
    subst hmm
    have hx1 : x.1 = .slice ((List.range len).map D) ((List.range (m - len)).map fun j => D (len + j)) := congrArg (·.1) hx
    rw [hx1] at hB
    obtain ⟨hbs, hbe⟩ := fits_slice ht hB
    have key : ∀ i, i < len → ∃ y : α, R y ∧ ∀ j u, (f y)[j]? = some u → w.cell? (a.add (i * fs.size + j)) = some u := by
      intro i him
      obtain ⟨cs', hc, ht'⟩ := hi i (by omega)
      rw [hC] at hc
      obtain ⟨ys, n', -, hy, hlen, hyl, hfd⟩ := DataW.trod_struct he ht'
      obtain ⟨_, hcl, hat⟩ := World.cells?_some hc
      rw [hC] at hlen
      have hd : D i = .agg (ys.map (·.1)) := congrArg (·.1) hy
      have hfi : Fits P e (.agg (ys.map (·.1))) := by rw [← hd]; exact hbe (D i) (List.mem_map.2 ⟨i, List.mem_range.2 him, rfl⟩)
      obtain ⟨y, h1, h2⟩ := each cs' n' hlen (fun j fd hj => by
        obtain ⟨ho, hk⟩ := hone_of hone j fd hj
        have hjl : j < fs.size := (Array.getElem?_eq_some_iff.1 hj).1
        have hv : cs'[j]? = some (cs'[j]'(by omega)) := List.getElem?_eq_getElem (by omega)
        have h1 := hfd j fd hj
        rw [ho, hk] at h1
        have hone' : (cs'.drop j).take 1 = [cs'[j]'(by omega)] := by
          rw [List.drop_eq_getElem_cons (by omega)]
          rfl
        rw [hone'] at h1
        have hys : ys[j]? = some (ys[j]'(by omega)) := List.getElem?_eq_getElem (by omega)
        exact ⟨_, _, hv, fits_agg he hfi hj (by rw [List.getElem?_map, hys]; rfl), h1.trans hys⟩)
      refine ⟨y, h2, fun j u hu => ?_⟩
      have hjl : j < fs.size := by
        have := (List.getElem?_eq_some_iff.1 hu).1
        rwa [hf] at this
      rw [h1] at hu
      rw [← Go.Deep.add_add, hat j hjl]
      exact hu
    obtain ⟨l, hl1, hl2⟩ := list_of _ len key
    subst hl1
    rw [List.length_map, List.length_range] at hbs
    refine ⟨some a, l, m, rfl, hl, fun j u hu => ?_, fun y hy => ?_, hbs⟩
    · obtain ⟨i, y, k, h1, rfl, h3⟩ := flatMap_get f fs.size l hf hu
      have hcell := (hl2 i y h1).2 k u h3
      have hkl : k < fs.size := by
        have := (List.getElem?_eq_some_iff.1 h3).1
        rwa [hf] at this
      have hil := (List.getElem?_eq_some_iff.1 h1).1
      obtain ⟨y0, hy0⟩ := get_of_lt l (i := 0) (by omega)
      have hu0 : (f y0)[0]? = some ((f y0)[0]'(by rw [hf]; omega)) := List.getElem?_eq_getElem _
      have hcell0 := (hl2 0 y0 hy0).2 0 _ hu0
      rw [Nat.zero_mul] at hcell0
      have h0 := spot_none hcell0
      obtain ⟨b, off, spot⟩ := a
      simp at h0
      subst h0
      exact ⟨b, off, rfl, by rw [Addr.add_lit] at hcell; exact hcell⟩
    · obtain ⟨i, hi⟩ := List.mem_iff_getElem?.1 hy
      exact (hl2 i y hi).1
theorem open_intsF {H : Type} {enc : TypeId × Value → H} {P : Program} {W : World} {base : Nat} {held : Bool} {t e : TypeId} {v : Value} {x : DataW H × List MemPlace} {n : Nat}
    (hu : P.underlying t = some (.slice e)) (he : P.underlying e = some (.int .i64)) (hc : P.cellsOf e = 1) (hB : P.bytesOf e = 8) (h : DataW.trod enc P W base (fun _ => true) held n t [v] = some x) (hf : Fits P t x.1) :
    ∃ (A : Option Addr) (l : List Int) (c : Nat), v = .slice A l.length c ∧ l.length ≤ c ∧ Ints W A l ∧ l.length ≤ 17592186043904 ∧ ∀ n ∈ l, -9223372036854775808 ≤ n ∧ n < 9223372036854775808 := by
  rcases open_ints hu he hc h with ⟨hn, -⟩ | ⟨a, len, cap, zs, hcs, _, hl, hm, hz, hx, hcell, hwz⟩
  · obtain rfl : v = .slice none 0 0 := by simpa using hn
    exact ⟨none, [], 0, rfl, Nat.le_refl _, Cells.nil _ _, by simp, fun n hn => by simp at hn⟩
  · obtain rfl : v = .slice (some a) len cap := by simpa using hcs
    have hzc : zs.length = cap := by simpa using hz
    have hr : IsRow .i64 W (some a) len cap zs := .inr ⟨_, rfl, hl, hm, hzc, hcell, hwz⟩
    obtain ⟨l, e1, c1, -, s1, s2⟩ := hr.ints
    subst e1
    have hx1 : x.1 = .slice (lits .i64 (zs.take l.length)) (lits .i64 (zs.drop l.length)) := congrArg (·.1) hx
    rw [hx1] at hf
    have h1 := (fits_slice hu hf).1
    rw [hB] at h1
    have hb : reachBytes = 140737488351232 := by decide
    refine ⟨some a, l, cap, rfl, c1, s1, ?_, s2⟩
    simp only [lits, List.length_map, List.length_take] at h1
    omega
theorem open_bytesF {H : Type} {enc : TypeId × Value → H} {P : Program} {W : World} {base : Nat} {held : Bool} {t e : TypeId} {v : Value} {x : DataW H × List MemPlace} {n : Nat}
    (hu : P.underlying t = some (.slice e)) (he : P.underlying e = some (.int .u8)) (hc : P.cellsOf e = 1) (hB : P.bytesOf e = 1) (h : DataW.trod enc P W base (fun _ => true) held n t [v] = some x) (hf : Fits P t x.1) :
    ∃ (A : Option Addr) (l : List UInt8) (c : Nat), v = .slice A l.length c ∧ l.length ≤ c ∧ Bytes W A l ∧ l.length ≤ 140737488351232 := by
  rcases open_ints hu he hc h with ⟨hn, -⟩ | ⟨a, len, cap, zs, hcs, _, hl, hm, hz, hx, hcell, hwz⟩
  · obtain rfl : v = .slice none 0 0 := by simpa using hn
    exact ⟨none, [], 0, rfl, Nat.le_refl _, Cells.nil _ _, by simp⟩
  · obtain rfl : v = .slice (some a) len cap := by simpa using hcs
    have hzc : zs.length = cap := by simpa using hz
    have hr : IsRow .u8 W (some a) len cap zs := .inr ⟨_, rfl, hl, hm, hzc, hcell, hwz⟩
    obtain ⟨l, e1, c1, -, s1⟩ := hr.bytes
    subst e1
    have hx1 : x.1 = .slice (lits .u8 (zs.take l.length)) (lits .u8 (zs.drop l.length)) := congrArg (·.1) hx
    rw [hx1] at hf
    have h1 := (fits_slice hu hf).1
    rw [hB] at h1
    have hb : reachBytes = 140737488351232 := by decide
    refine ⟨some a, l, cap, rfl, c1, s1, ?_⟩
    simp only [lits, List.length_map, List.length_take] at h1
    omega
theorem open_writesF {H : Type} {enc : TypeId × Value → H} {w : World} {base : Nat} {held : Bool} {n : Nat} {v : Value} {x : DataW H × List MemPlace} (h : DataW.trod enc Try.prog w base (fun _ => true) held n 149 [v] = some x) (hB : Fits Try.prog 149 x.1) :
    ∃ (A : Option Addr) (ws : List Wri) (c : Nat), v = .slice A ws.length c ∧ Wrs w A ws ∧ (∀ r ∈ ws, Bytes w r.a r.d ∧ r.d.length ≤ r.c) ∧ ws.length ≤ 4398046510976 := by
  obtain ⟨A, ws, c, h1, -, h3, h4, h6⟩ := open_rowsF (α := Wri) Try.underlying149 Try.underlying136 (by kernel_rfl) (by kernel_rfl) h hB wcells (fun _ => rfl) (fun r => Bytes w r.a r.d ∧ r.d.length ≤ r.c) (fun cs n hcl hfd => by
    obtain ⟨u0, y0, c0, -, t0⟩ := hfd 0 _ rfl
    obtain ⟨u1, y1, c1, -, t1⟩ := hfd 1 _ rfl
    obtain ⟨z, e0, -, -⟩ := DataW.trod_int Try.underlying3 t0
    obtain ⟨A, l, c, rfl, b1, b2⟩ := open_bytesB Try.underlying22 Try.underlying5 (by kernel_rfl) t1
    obtain rfl : u0 = .int .i64 z := by simpa using e0
    exact ⟨⟨z, A, l, c⟩, list2 hcl c0 c1, ⟨b1, b2⟩⟩)
  rw [show Try.prog.bytesOf 136 = 32 from by kernel_rfl, show reachBytes = 140737488351232 from by decide] at h6
  exact ⟨A, ws, c, h1, h3, h4, by omega⟩
/-- Steps that came in, however many. -/
structure StepsF (W : World) (A : Option Addr) (ss : List Stp) : Prop where
  cells : Cells W A (ss.flatMap Stp.cells)
  rows : ∀ s ∈ ss, Wrs W s.la s.ws ∧ ∀ r ∈ s.ws, Bytes W r.a r.d ∧ r.d.length ≤ r.c
  keeps : ∀ s ∈ ss, Ints W s.ka s.keep ∧ s.keep.length ≤ 17592186043904 ∧ s.ws.length ≤ 4398046510976
  nums : ∀ s ∈ ss, (-9223372036854775808 ≤ s.what ∧ s.what < 9223372036854775808) ∧ (-9223372036854775808 ≤ s.n ∧ s.n < 9223372036854775808)
theorem open_stepF {H : Type} {enc : TypeId × Value → H} {w : World} {base : Nat} {held : Bool} {fs : Array Field} (cs : List Value) (n : Nat) (hs : fs.map (·.type) = #[3, 3, 149, 130]) (hcl : cs.length = fs.size)
    (hfd : ∀ (j : Nat) (fd : Field), fs[j]? = some fd → ∃ (u : Value) (y : DataW H × List MemPlace), cs[j]? = some u ∧ Fits Try.prog fd.type y.1 ∧ DataW.trod enc Try.prog w base (fun _ => true) held n fd.type [u] = some y) :
    ∃ s : Stp, s.cells = cs ∧ (Wrs w s.la s.ws ∧ ∀ r ∈ s.ws, Bytes w r.a r.d ∧ r.d.length ≤ r.c) ∧ (Ints w s.ka s.keep ∧ s.keep.length ≤ 17592186043904 ∧ s.ws.length ≤ 4398046510976) ∧ (-9223372036854775808 ≤ s.what ∧ s.what < 9223372036854775808) ∧ (-9223372036854775808 ≤ s.n ∧ s.n < 9223372036854775808) := by
  have hz : fs.size = 4 := by have := congrArg Array.size hs; simpa using this
  have hf : ∀ j (hj : j < 4), ∃ u y, cs[j]? = some u ∧ Fits Try.prog (#[3, 3, 149, 130] : Array TypeId)[j] y.1 ∧ DataW.trod enc Try.prog w base (fun _ => true) held n (#[3, 3, 149, 130] : Array TypeId)[j] [u] = some y := fun j hj => by
    obtain ⟨u, y, a, b, c⟩ := hfd j fs[j] (Array.getElem?_eq_getElem (by omega))
    have e : fs[j].type = (#[3, 3, 149, 130] : Array TypeId)[j] := by
      have := Array.getElem_map (f := fun x : Field => x.type) (xs := fs) (i := j) (by rw [Array.size_map]; omega)
      rw [← this]
      simp only [hs]
    rw [e] at b c
    exact ⟨u, y, a, b, c⟩
  obtain ⟨u0, y0, c0, -, t0⟩ := hf 0 (by omega)
  obtain ⟨u1, y1, c1, -, t1⟩ := hf 1 (by omega)
  obtain ⟨u2, y2, c2, f2, t2⟩ := hf 2 (by omega)
  obtain ⟨u3, y3, c3, f3, t3⟩ := hf 3 (by omega)
  obtain ⟨z0, e0, -, w0⟩ := DataW.trod_int Try.underlying3 t0
  obtain ⟨z1, e1, -, w1⟩ := DataW.trod_int Try.underlying3 t1
  obtain rfl : u0 = .int .i64 z0 := by simpa using e0
  obtain rfl : u1 = .int .i64 z1 := by simpa using e1
  obtain ⟨la, ws, cl, rfl, q1, q2, q3⟩ := open_writesF t2 f2
  obtain ⟨ka, keep, ck, rfl, -, k1, k2, -⟩ := open_intsF Try.underlying130 Try.underlying3 (by kernel_rfl) (by kernel_rfl) t3 f3
  exact ⟨⟨z0, z1, la, ws, cl, ka, keep, ck⟩, list4 (by omega) c0 c1 c2 c3, ⟨q1, q2⟩, ⟨k1, k2, q3⟩, wf_i64_iff w0, wf_i64_iff w1⟩
theorem open_stepsF {H : Type} {enc : TypeId × Value → H} {w : World} {base : Nat} {held : Bool} {n : Nat} {v : Value} {x : DataW H × List MemPlace} {t e : TypeId} {fs : Array Field} (ht : Try.prog.underlying t = some (.slice e)) (he : Try.prog.underlying e = some (.struct fs)) (hone : oneCellFields Try.prog fs = true) (hC : Try.prog.cellsOf e = fs.size) (hs : fs.map (·.type) = #[3, 3, 149, 130]) (hby : 64 ≤ Try.prog.bytesOf e)
    (h : DataW.trod enc Try.prog w base (fun _ => true) held n t [v] = some x) (hB : Fits Try.prog t x.1) :
    ∃ (A : Option Addr) (ss : List Stp) (c : Nat), v = .slice A ss.length c ∧ ss.length ≤ c ∧ StepsF w A ss ∧ ss.length ≤ 2199023255488 := by
  have hz : fs.size = 4 := by have := congrArg Array.size hs; simpa using this
  obtain ⟨A, ss, c, h1, h2, h3, h4, h6⟩ := open_rowsF (α := Stp) ht he hone hC h hB Stp.cells (fun _ => hz.symm ▸ rfl) (fun s => (Wrs w s.la s.ws ∧ ∀ r ∈ s.ws, Bytes w r.a r.d ∧ r.d.length ≤ r.c) ∧ (Ints w s.ka s.keep ∧ s.keep.length ≤ 17592186043904 ∧ s.ws.length ≤ 4398046510976) ∧ (-9223372036854775808 ≤ s.what ∧ s.what < 9223372036854775808) ∧ (-9223372036854775808 ≤ s.n ∧ s.n < 9223372036854775808))
    (fun cs n hcl hfd => open_stepF cs n hs hcl hfd)
  rw [show reachBytes = 140737488351232 from by decide] at h6
  have h7 := Nat.le_trans (Nat.mul_le_mul_left ss.length hby) h6
  exact ⟨A, ss, c, h1, h2, ⟨h3, fun s hs => (h4 s hs).1, fun s hs => (h4 s hs).2.1, fun s hs => (h4 s hs).2.2⟩, by omega⟩
end Go.Proofs.Ytppbcdcmpcagdaa
