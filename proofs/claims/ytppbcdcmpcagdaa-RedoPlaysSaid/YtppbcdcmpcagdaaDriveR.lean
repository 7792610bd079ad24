/- The document's drive as plain data; it answers as the drive does. -/
import Derived.Test.YtppbcdcmpcagdaaDriveP
namespace Go.Proofs.Ytppbcdcmpcagdaa
open Go.RowKit Go.CP

abbrev Don := Int × List UInt8 × Bool
/-- The document's drive: all that was written, and what of it lasts. -/
structure RDrv where
  n : Nat
  list : List Don
  fuse : Int
  dead : Bool
def findR (n : Int) (sure : Bool) : List Don → Option (List UInt8)
  | [] => none
  | x :: r => match findR n sure r with | some d => some d | none => if x.1 = n ∧ (x.2.2 = true ∨ sure = false) then some x.2.1 else none
def nought : List UInt8 := List.replicate 128 0
def RDrv.find (R : RDrv) (n : Int) (sure : Bool) : List UInt8 := (findR n sure R.list).getD nought
def RDrv.get (R : RDrv) (n : Int) : Int × List UInt8 := if R.dead then (11, []) else if n < 0 ∨ (R.n : Int) ≤ n then (4, []) else (0, R.find n false)
def RDrv.dark (R : RDrv) : RDrv := { R with dead := true }
def RDrv.less (R : RDrv) : RDrv := { R with fuse := if 0 < R.fuse then R.fuse - 1 else R.fuse }
def rputGo : RDrv → List (Int × List UInt8) → Int × RDrv
  | R, [] => (0, R)
  | R, x :: r => if R.fuse = 0 then (11, R.dark) else rputGo { R.less with list := R.list ++ [(x.1, x.2, false)] } r
def RDrv.put (R : RDrv) (ws : List (Int × List UInt8)) : Int × RDrv :=
  if R.dead then (11, R) else if outB R.n ws then (4, R) else if lenB ws then (1, R) else rputGo R ws
def sureAll (l : List Don) : List Don := l.map fun x => (x.1, x.2.1, true)
def RDrv.flush (R : RDrv) : Int × RDrv :=
  if R.dead then (11, R) else if R.fuse = 0 then (11, R.dark) else (0, { R.less with list := sureAll R.list })
def RDrv.fuseTo (R : RDrv) (n : Int) : RDrv := { R with fuse := if n < 0 then -1 else n }
def keepR (keep : List Int) : Nat → List Don → List Don
  | _, [] => []
  | k, x :: r => if x.2.2 then x :: keepR keep k r else if kept keep k then (x.1, x.2.1, true) :: keepR keep (k + 1) r else keepR keep (k + 1) r
def RDrv.restart (R : RDrv) (keep : List Int) : RDrv := ⟨R.n, keepR keep 0 R.list, -1, false⟩
def RDrv.new (n : Nat) : RDrv := ⟨n, [], -1, false⟩

def unsure (l : List (Int × List UInt8)) : List Don := l.map fun x => (x.1, x.2, false)
theorem findR_app (n : Int) (s : Bool) (a b : List Don) : findR n s (a ++ b) = match findR n s b with | some d => some d | none => findR n s a := by
  induction a with
  | nil => simp [findR]; cases findR n s b <;> rfl
  | cons x a ih =>
    rw [List.cons_append, findR, ih]
    cases h : findR n s b <;> simp [findR]
theorem findR_unsure (n : Int) (l : List (Int × List UInt8)) : findR n false (unsure l) = lastL n l := by
  induction l with
  | nil => rfl
  | cons x l ih =>
    have : unsure (x :: l) = (x.1, x.2, false) :: unsure l := rfl
    rw [this, findR, lastL, ih]
    cases lastL n l <;> simp
theorem findR_unsure_t (n : Int) (l : List (Int × List UInt8)) : findR n true (unsure l) = none := by
  induction l with
  | nil => rfl
  | cons x l ih =>
    have : unsure (x :: l) = (x.1, x.2, false) :: unsure l := rfl
    rw [this, findR, ih]
    simp
theorem findR_sureAll (n : Int) (l : List (Int × List UInt8)) : findR n true (sureAll (unsure l)) = lastL n l := by
  induction l with
  | nil => rfl
  | cons x l ih =>
    have : sureAll (unsure (x :: l)) = (x.1, x.2, true) :: sureAll (unsure l) := rfl
    rw [this, findR, lastL, ih]
    cases lastL n l <;> simp
theorem findR_sure (n : Int) (b : Bool) (S : List Don) (h : ∀ x ∈ S, x.2.2 = true) : findR n b S = findR n true S := by
  induction S with
  | nil => rfl
  | cons x S ih =>
    rw [findR, findR, ih fun y hy => h y (List.mem_cons_of_mem _ hy), h x List.mem_cons_self]
    simp
theorem sureAll_sure (S : List Don) (h : ∀ x ∈ S, x.2.2 = true) : sureAll S = S := by
  unfold sureAll
  conv => rhs; rw [← List.map_id S]
  exact List.map_congr_left fun x hx => by have := h x hx; obtain ⟨a, b, c⟩ := x; simp_all
theorem keepR_app (keep : List Int) (S U : List Don) (h : ∀ x ∈ S, x.2.2 = true) (k : Nat) : keepR keep k (S ++ U) = S ++ keepR keep k U := by
  induction S with
  | nil => rfl
  | cons x S ih =>
    rw [List.cons_append, keepR, if_pos (h x List.mem_cons_self), ih fun y hy => h y (List.mem_cons_of_mem _ hy)]
    rfl
theorem keepR_sure (keep : List Int) (U : List Don) : ∀ k, ∀ x ∈ keepR keep k U, x.2.2 = true := by
  induction U with
  | nil => intro k x hx; cases hx
  | cons y U ih =>
    intro k x hx
    rw [keepR] at hx
    split at hx
    · rcases List.mem_cons.1 hx with rfl | hx
      · assumption
      · exact ih _ _ hx
    · split at hx
      · rcases List.mem_cons.1 hx with rfl | hx
        · rfl
        · exact ih _ _ hx
      · exact ih _ _ hx
theorem getD_set (s : List (List UInt8)) (i n : Nat) (d : List UInt8) (hn : n < s.length) : (s.set i d).getD n [] = if i = n then d else s.getD n [] := by
  simp only [List.getD_eq_getElem?_getD, List.getElem?_set]
  split
  · next h => subst h; simp [hn]
  · rfl
theorem setAll_getD (l : List (Int × List UInt8)) (n : Nat) : ∀ s : List (List UInt8), (∀ x ∈ l, 0 ≤ x.1) → n < s.length → (setAll s l).getD n [] = (lastL n l).getD (s.getD n []) := by
  induction l with
  | nil => intro s _ _; rfl
  | cons x l ih =>
    intro s h hn
    rw [show setAll s (x :: l) = setAll (s.set x.1.toNat x.2) l from rfl, ih _ (fun y hy => h y (List.mem_cons_of_mem _ hy)) (by simpa using hn), getD_set _ _ _ _ hn, lastL]
    have h0 := h x List.mem_cons_self
    cases lastL n l with
    | some d => rfl
    | none =>
      by_cases e : x.1 = n
      · rw [if_pos (by omega), if_pos e]; rfl
      · rw [if_neg (by omega), if_neg e]
theorem setKept_getD (keep : List Int) (l : List (Int × List UInt8)) (n : Nat) : ∀ (i : Nat) (s : List (List UInt8)), (∀ x ∈ l, 0 ≤ x.1) → n < s.length → (setKept keep i s l).getD n [] = (findR n true (keepR keep i (unsure l))).getD (s.getD n []) := by
  induction l with
  | nil => intro i s _ _; rfl
  | cons x l ih =>
    intro i s h hn
    have h0 := h x List.mem_cons_self
    have h' : ∀ y ∈ l, 0 ≤ y.1 := fun y hy => h y (List.mem_cons_of_mem _ hy)
    have e1 : keepR keep i (unsure (x :: l)) = if kept keep i then (x.1, x.2, true) :: keepR keep (i + 1) (unsure l) else keepR keep (i + 1) (unsure l) := by
      rw [show unsure (x :: l) = (x.1, x.2, false) :: unsure l from rfl, keepR]
      simp
    rw [setKept, e1]
    cases hk : kept keep i with
    | false => exact ih _ _ h' hn
    | true =>
      rw [if_pos rfl, if_pos rfl, ih _ _ h' (by simpa using hn), getD_set _ _ _ _ hn, findR]
      cases findR n true (keepR keep (i + 1) (unsure l)) with
      | some d => rfl
      | none =>
        by_cases e : x.1 = n
        · rw [if_pos (by omega), if_pos ⟨e, .inl rfl⟩]; rfl
        · rw [if_neg (by omega), if_neg (fun h => e h.1)]

/-- The drive and the document's drive agree. -/
structure Agree (D : Drv) (R : RDrv) : Prop where
  n : D.sure.length = R.n
  fuse : D.fuse = R.fuse
  dead : D.dead = R.dead
  low : -1 ≤ D.fuse
  list : ∀ x ∈ D.list, 0 ≤ x.1
  old : ∃ S, R.list = S ++ unsure D.list ∧ (∀ x ∈ S, x.2.2 = true) ∧ ∀ n, n < R.n → D.sure.getD n [] = (findR n true S).getD nought
theorem Agree.get {D : Drv} {R : RDrv} (h : Agree D R) (n : Int) : D.get n = R.get n := by
  obtain ⟨S, h1, h2, h3⟩ := h.old
  unfold Drv.get RDrv.get
  rw [h.dead, h.n]
  split
  · rfl
  · split
    · rfl
    · next hn =>
      have e : ((n.toNat : Nat) : Int) = n := by omega
      rw [Drv.at, RDrv.find, h1, findR_app, findR_unsure, findR_sure n false S h2, e, h3 n.toNat (by omega), e]
      cases lastL n D.list <;> rfl
theorem Agree.sureAt {D : Drv} {R : RDrv} (h : Agree D R) (n : Nat) (hn : n < R.n) : D.sure.getD n [] = R.find n true := by
  obtain ⟨S, h1, h2, h3⟩ := h.old
  rw [h3 n hn, RDrv.find, h1, findR_app, findR_unsure_t]
theorem Agree.mk_less {D : Drv} {R : RDrv} (h : Agree D R) (h0 : D.fuse ≠ 0) : D.less.fuse = R.less.fuse ∧ -1 ≤ D.less.fuse := by
  have h1 := h.low
  have h2 := h.fuse
  simp only [Drv.less, RDrv.less]
  split <;> omega
theorem Agree.dark {D : Drv} {R : RDrv} (h : Agree D R) : Agree D.dark R.dark := ⟨h.n, h.fuse, rfl, h.low, h.list, h.old⟩
theorem Agree.snoc {D : Drv} {R : RDrv} (h : Agree D R) (h0 : D.fuse ≠ 0) (x : Int × List UInt8) (hx : 0 ≤ x.1) : Agree { D.less with list := D.list ++ [x] } { R.less with list := R.list ++ [(x.1, x.2, false)] } := by
  obtain ⟨S, h1, h2, h3⟩ := h.old
  refine ⟨h.n, (h.mk_less h0).1, h.dead, (h.mk_less h0).2, fun y hy => ?_, S, ?_, h2, h3⟩
  · rcases List.mem_append.1 hy with hy | hy
    · exact h.list y hy
    · rw [List.mem_singleton.1 hy]; exact hx
  · show R.list ++ _ = _
    rw [h1, unsure, unsure, List.map_append, List.append_assoc]
    rfl
theorem Agree.putGo (ws : List (Int × List UInt8)) : ∀ {D : Drv} {R : RDrv}, Agree D R → (∀ x ∈ ws, 0 ≤ x.1) → (putGo D ws).1 = (rputGo R ws).1 ∧ Agree (putGo D ws).2 (rputGo R ws).2 := by
  induction ws with
  | nil => intro D R h _; exact ⟨rfl, h⟩
  | cons x ws ih =>
    intro D R h hx
    simp only [Go.Proofs.Ytppbcdcmpcagdaa.putGo, rputGo]
    rw [← h.fuse]
    split
    · exact ⟨rfl, h.dark⟩
    · next h0 => exact ih (h.snoc h0 x (hx x List.mem_cons_self)) fun y hy => hx y (List.mem_cons_of_mem _ hy)
theorem outB_false {n : Nat} {ws : List (Int × List UInt8)} (h : outB n ws = false) : ∀ x ∈ ws, 0 ≤ x.1 ∧ x.1 < n := by
  intro x hx
  unfold outB at h
  have := (List.any_eq_false.1 h) x hx
  simp at this
  omega
theorem lenB_false {ws : List (Int × List UInt8)} (h : lenB ws = false) : ∀ x ∈ ws, x.2.length = 128 := by
  intro x hx
  unfold lenB at h
  have := (List.any_eq_false.1 h) x hx
  simpa using this
theorem Agree.put {D : Drv} {R : RDrv} (h : Agree D R) (ws : List (Int × List UInt8)) : (D.put ws).1 = (R.put ws).1 ∧ Agree (D.put ws).2 (R.put ws).2 := by
  unfold Drv.put RDrv.put
  rw [h.dead, h.n]
  split
  · exact ⟨rfl, h⟩
  · split
    · exact ⟨rfl, h⟩
    · split
      · exact ⟨rfl, h⟩
      · next h1 h2 => exact Agree.putGo ws h fun x hx => (outB_false (by simpa using h1) x hx).1
theorem Agree.flush {D : Drv} {R : RDrv} (h : Agree D R) : D.flush.1 = R.flush.1 ∧ Agree D.flush.2 R.flush.2 := by
  unfold Drv.flush RDrv.flush
  rw [h.dead, ← h.fuse]
  split
  · exact ⟨rfl, h⟩
  · split
    · exact ⟨rfl, h.dark⟩
    · next h0 =>
      obtain ⟨S, h1, h2, h3⟩ := h.old
      refine ⟨rfl, ?_, (h.mk_less h0).1, h.dead, (h.mk_less h0).2, (fun x hx => by cases hx), S ++ sureAll (unsure D.list), ?_, fun x hx => ?_, fun n hn => ?_⟩
      · show (setAll D.sure D.list).length = _
        rw [setAll_len]; exact h.n
      · show sureAll R.list = _
        rw [h1, sureAll, List.map_append, ← sureAll, ← sureAll, sureAll_sure S h2]
        simp [unsure]
      · rcases List.mem_append.1 hx with hx | hx
        · exact h2 x hx
        · unfold sureAll at hx
          obtain ⟨y, _, rfl⟩ := List.mem_map.1 hx
          rfl
      · show (setAll D.sure D.list).getD n [] = _
        have hn' : n < R.n := hn
        rw [setAll_getD _ _ _ h.list (by rw [h.n]; exact hn'), findR_app, findR_sureAll, h3 n hn']
        cases lastL n D.list <;> rfl
theorem Agree.fuseTo {D : Drv} {R : RDrv} (h : Agree D R) (n : Int) : Agree (D.fuseTo n) (R.fuseTo n) := by
  refine ⟨h.n, ?_, h.dead, ?_, h.list, h.old⟩
  · simp only [Drv.fuseTo, RDrv.fuseTo]; split <;> omega
  · simp only [Drv.fuseTo]; omega
theorem Agree.restart {D : Drv} {R : RDrv} (h : Agree D R) (keep : List Int) : Agree (D.restart keep) (R.restart keep) := by
  obtain ⟨S, h1, h2, h3⟩ := h.old
  refine ⟨?_, rfl, rfl, by simp [Drv.restart], (fun x hx => by cases hx), S ++ keepR keep 0 (unsure D.list), ?_, fun x hx => ?_, fun n hn => ?_⟩
  · show (setKept keep 0 D.sure D.list).length = _
    rw [setKept_len]; exact h.n
  · show keepR keep 0 R.list = _
    rw [h1, keepR_app keep _ _ h2]
    simp [unsure, Drv.restart]
  · rcases List.mem_append.1 hx with hx | hx
    · exact h2 x hx
    · exact keepR_sure _ _ _ x hx
  · have hn' : n < R.n := hn
    show (setKept keep 0 D.sure D.list).getD n [] = _
    rw [setKept_getD _ _ _ _ _ h.list (by rw [h.n]; exact hn'), findR_app, h3 n hn']
    cases findR n true (keepR keep 0 (unsure D.list)) <;> rfl
theorem Agree.new (n : Nat) : Agree (Drv.new n) (RDrv.new n) := by
  refine ⟨by simp [Drv.new, RDrv.new], rfl, rfl, by simp [Drv.new], (fun x hx => by cases hx), [], by simp [RDrv.new, Drv.new, unsure], (fun x hx => by cases hx), fun k hk => ?_⟩
  have hk' : k < n := hk
  simp [Drv.new, hk', findR, nought]
end Go.Proofs.Ytppbcdcmpcagdaa
