/- A drive as plain data: what its calls answer and how they turn it. -/
import Derived.Test.YtppbcdcmpcagdaaLib
namespace Go.Proofs.Ytppbcdcmpcagdaa
open Go.RowKit Go.CP

/-- A drive: what lasts; what waits; writes and flushes until the power goes; whether it has gone. -/
structure Drv where
  sure : List (List UInt8)
  list : List (Int × List UInt8)
  fuse : Int
  dead : Bool
def Drv.dark (D : Drv) : Drv := { D with dead := true }
def Drv.less (D : Drv) : Drv := { D with fuse := max (D.fuse - 1) (-1) }
def putGo : Drv → List (Int × List UInt8) → Int × Drv
  | D, [] => (0, D)
  | D, x :: r => if D.fuse = 0 then (11, D.dark) else putGo { D.less with list := D.list ++ [x] } r
def outB (n : Nat) (l : List (Int × List UInt8)) : Bool := l.any fun x => decide (x.1 < 0) || decide ((n : Int) ≤ x.1)
def lenB (l : List (Int × List UInt8)) : Bool := l.any fun x => x.2.length != 128
def Drv.put (D : Drv) (ws : List (Int × List UInt8)) : Int × Drv :=
  if D.dead then (11, D) else if outB D.sure.length ws then (4, D) else if lenB ws then (1, D) else putGo D ws
def setAll (s : List (List UInt8)) (l : List (Int × List UInt8)) : List (List UInt8) := l.foldl (fun s x => s.set x.1.toNat x.2) s
theorem setAll_snoc (s : List (List UInt8)) (l : List (Int × List UInt8)) (x : Int × List UInt8) : setAll s (l ++ [x]) = (setAll s l).set x.1.toNat x.2 := by simp [setAll]
def Drv.flush (D : Drv) : Int × Drv :=
  if D.dead then (11, D) else if D.fuse = 0 then (11, D.dark) else (0, { D.less with sure := setAll D.sure D.list, list := [] })
def Drv.fuseTo (D : Drv) (n : Int) : Drv := { D with fuse := max n (-1) }
/-- Of what waits, what a restart keeps. -/
def kept (keep : List Int) (i : Nat) : Bool := match keep[i]? with | some k => k != 0 | none => false
def setKept (keep : List Int) : Nat → List (List UInt8) → List (Int × List UInt8) → List (List UInt8)
  | _, s, [] => s
  | i, s, x :: r => setKept keep (i + 1) (if kept keep i then s.set x.1.toNat x.2 else s) r
theorem setKept_snoc (keep : List Int) : ∀ (l : List (Int × List UInt8)) (i : Nat) (s : List (List UInt8)) (x : Int × List UInt8),
    setKept keep i s (l ++ [x]) = if kept keep (i + l.length) then (setKept keep i s l).set x.1.toNat x.2 else setKept keep i s l
  | [], _, _, _ => rfl
  | y :: l, i, s, x => by
    rw [List.cons_append, setKept, setKept_snoc keep l, List.length_cons, show i + 1 + l.length = i + (l.length + 1) by omega]
    rfl
def Drv.restart (D : Drv) (keep : List Int) : Drv := ⟨setKept keep 0 D.sure D.list, [], -1, false⟩
/-- The last of what waits for a place. -/
def lastL (n : Int) : List (Int × List UInt8) → Option (List UInt8)
  | [] => none
  | x :: r => match lastL n r with | some d => some d | none => if x.1 = n then some x.2 else none
def Drv.at (D : Drv) (n : Nat) : List UInt8 := (lastL n D.list).getD (D.sure.getD n [])
def Drv.get (D : Drv) (n : Int) : Int × List UInt8 := if D.dead then (11, []) else if n < 0 ∨ (D.sure.length : Int) ≤ n then (4, []) else (0, D.at n.toNat)
def Drv.new (n : Nat) : Drv := ⟨List.replicate n (List.replicate 128 0), [], -1, false⟩
/-- All of a drive has its length; what waits has its place. -/
structure Drv.Ok (D : Drv) : Prop where
  sure : ∀ s ∈ D.sure, s.length = 128
  list : ∀ x ∈ D.list, x.2.length = 128 ∧ 0 ≤ x.1 ∧ x.1 < D.sure.length
theorem setAll_len (l : List (Int × List UInt8)) : ∀ s, (setAll s l).length = s.length := by
  induction l with
  | nil => intro s; rfl
  | cons x l ih => intro s; rw [show setAll s (x :: l) = setAll (s.set x.1.toNat x.2) l from rfl, ih]; simp
theorem setKept_len (keep : List Int) : ∀ (l : List (Int × List UInt8)) (i : Nat) (s : List (List UInt8)), (setKept keep i s l).length = s.length
  | [], _, _ => rfl
  | x :: l, i, s => by
    rw [setKept, setKept_len keep l]
    split <;> simp
end Go.Proofs.Ytppbcdcmpcagdaa
