/- A waiting sector is loaded and boxed; a sector is written over; what waits is let go. -/
import Derived.Test.YtppbcdcmpcagdaaDriveB
namespace Go.Proofs.Ytppbcdcmpcagdaa
open Go.RowKit Go.CP

/-! Guards for arms that are tried at each step: the next operation is such a one. -/
theorem wpl_load216 {P : Program} {ops : Array Oper} {rest : List Oper} {d : Option Tmp} {t : TypeId} {p : String} {af : Array Edge} {x : Operand} {a : Act} {w : World} {Q : Exit → Act → World → Prop} (h : wpList P ops Q ({ dst := d, op := .load 216 x, type := t, pos := p, after := af, guard := none } :: rest) a w) :
    wpList P ops Q ({ dst := d, op := .load 216 x, type := t, pos := p, after := af, guard := none } :: rest) a w := h
theorem wpl_alloc216 {P : Program} {ops : Array Oper} {rest : List Oper} {d : Option Tmp} {t : TypeId} {p : String} {af : Array Edge} {a : Act} {w : World} {Q : Exit → Act → World → Prop} (h : wpList P ops Q ({ dst := d, op := .alloc 216, type := t, pos := p, after := af, guard := none } :: rest) a w) :
    wpList P ops Q ({ dst := d, op := .alloc 216, type := t, pos := p, after := af, guard := none } :: rest) a w := h
theorem wpl_store216 {P : Program} {ops : Array Oper} {rest : List Oper} {d : Option Tmp} {t : TypeId} {p : String} {af : Array Edge} {x y : Operand} {a : Act} {w : World} {Q : Exit → Act → World → Prop} (h : wpList P ops Q ({ dst := d, op := .store 216 x y, type := t, pos := p, after := af, guard := none } :: rest) a w) :
    wpList P ops Q ({ dst := d, op := .store 216 x y, type := t, pos := p, after := af, guard := none } :: rest) a w := h
theorem run_alloc216 (w : World) : (Instr.alloc 216 true (.tuple #[])).run Try.prog w = .ok (.pointer (some ⟨w.heap.size, 0, none⟩)) (w.alloc (.cells z216.cells 216)) := by
  simp [Instr.alloc, newVar, zeroValue, typeInfo, info216, zero216, newRow]
theorem setRow_alloc (w : World) (old cs : Array Value) (t : TypeId) : (w.alloc (.cells old t)).setRow w.heap.size cs = w.alloc (.cells cs t) := by
  have e : ((w.alloc (.cells old t)).setRow w.heap.size cs).heap = w.heap.push (.cells cs t) := by
    apply Array.ext_getElem?
    intro i
    by_cases h : i = w.heap.size
    · subst h
      rw [setRow_heap _ _ old cs t (0, 0) (heap_alloc_new w _), Array.getElem?_push, if_pos rfl]
    · rw [setRow_other _ _ _ _ h, Array.getElem?_push, if_neg h]
      show (w.heap.push _)[i]? = _
      rw [Array.getElem?_push, if_neg h]
  calc (w.alloc (.cells old t)).setRow w.heap.size cs = { w.alloc (.cells old t) with heap := ((w.alloc (.cells old t)).setRow w.heap.size cs).heap } := rfl
    _ = { w.alloc (.cells old t) with heap := w.heap.push (.cells cs t) } := by rw [e]
    _ = _ := rfl
theorem wl_alloc216 {ops : Array Oper} {rest : List Oper} {o : Oper} {a : Act} {w : World} {Q : Exit → Act → World → Prop} (hgd : o.guard = none) (ho : o.op = .alloc 216)
    (h : wpList Try.prog ops Q rest (a.put o.dst (.pointer (some ⟨w.heap.size, 0, none⟩))) (w.alloc (.cells z216.cells 216))) : wpList Try.prog ops Q (o :: rest) a w := by
  refine wpList_plain hgd fun K hK => ?_
  unfold Oper.wp execOp
  simp only [ho, Sem.run_bind, run_alloc216, Result.andThen_ok, Sem.run_pure]
  exact hK _ _ h
theorem info216s (x : Int × List UInt8) (h : x.2.length = 128) : (Try.prog.info? 216).map (·.size) = some (rowL x).toArray.size := by
  rw [info216, List.size_toArray, rowL_len h]
  exact congrArg some size216
theorem wl_box216 {ops : Array Oper} {rest : List Oper} {o : Oper} {a : Act} {w : World} {Q : Exit → Act → World → Prop} (hgd : o.guard = none) (x y : Operand) (ho : o.op = .store 216 x y) (v : Int × List UInt8) (hv : v.2.length = 128)
    (hx : a.eval x = .pointer (some ⟨w.heap.size, 0, none⟩)) (hy : a.eval y = .agg (rowL v).toArray)
    (h : wpList Try.prog ops Q rest (a.put o.dst undef) (w.alloc (.cells (rowL v).toArray 216))) : wpList Try.prog ops Q (o :: rest) a (w.alloc (.cells z216.cells 216)) := by
  refine wpList_store_row hgd 216 x y ho w.heap.size (rowL v).toArray hx hy 216 z216.cells (heap_alloc_new w _) (info216s v hv) (by rw [cells216, List.size_toArray, rowL_len hv]) (all_oneCell_toArray (row_one v)) ?_
  rw [setRow_alloc]
  exact h
theorem wl_load216 {ops : Array Oper} {rest : List Oper} {o : Oper} {a : Act} {w : World} {Q : Exit → Act → World → Prop} (hgd : o.guard = none) (x : Operand) (ho : o.op = .load 216 x) (v : Int × List UInt8) (hv : v.2.length = 128)
    (b off : Nat) (hx : a.eval x = .pointer (some ⟨b, off, none⟩)) (hr : w.rangeAt b off (rowL v)) (h : wpList Try.prog ops Q rest (a.put o.dst (.agg (rowL v).toArray)) w) : wpList Try.prog ops Q (o :: rest) a w :=
  wpList_load_mid hgd 216 x ho b off hx (rowL v) _ hr Try.underlying216 rfl (by rw [info216s v hv, List.size_toArray]) h
theorem row_byte (d : List UInt8) : ∀ v ∈ d.map bv, v.oneCell' = true := by
  intro v hv
  obtain ⟨y, _, rfl⟩ := List.mem_map.1 hv
  rfl
/-- A sector is written over, at a step of a region that draws its order. -/
theorem st_sector {w : World} {ops : Array Oper} {o : Oper} {a : Act} {K : Act → World → Prop} {Q : Exit → Act → World → Prop} {E : Prop} (hgd : o.guard = none) (x y : Operand) (ho : o.op = .store 214 x y) (s i : Nat) (d : List UInt8)
    (hx : a.eval x = .pointer (some ⟨s, i * 128, none⟩)) (hy : a.eval y = .agg (d.map bv).toArray) (hd : d.length = 128) (ht : w.there s (i * 128) 128) (h : K (a.put o.dst undef) (w.setCells s (i * 128) (d.map bv))) :
    if Region.wanted o (yielded ops a.tmps) = true then Oper.wp Try.prog o a w K Q else E := by
  have hw : Region.wanted o (yielded ops a.tmps) = true := by simp [Region.wanted, hgd]
  rw [if_pos hw]
  exact wp_store_mid 214 x y ho s (i * 128) _ hx hy (by simpa [hd] using ht) (by rw [info214s]; simp [hd]) (all_oneCell_toArray (row_byte d)) (by simpa using h)

/-- A sector of a drive is written over. -/
theorem DriveIs.store {W : World} {g s : Nat} {A : Option Addr} {c : Nat} {D : Drv} (h : DriveIs W g s A c D) {i : Nat} (hi : i < D.sure.length) {d : List UInt8} (hd : d.length = 128) :
    DriveIs (W.setCells s (i * 128) (d.map bv)) g s A c { D with sure := D.sure.set i d } ∧ Drove W (W.setCells s (i * 128) (d.map bv)) g s A A := by
  obtain ⟨h1, h2, h3, ⟨h4, h5⟩, h6, h7⟩ := h
  have ht := turn_setCells s (i * 128) (d.map bv) W
  refine ⟨⟨?_, sector_set h2 h4 hi hd, own_of_block h3 fun k hk => heap_setCells_ne _ _ _ _ _ (h7 k hk).2, ⟨?_, ?_⟩, h6, h7⟩, ⟨ht.1.os, ht.1.tape, ht.1.output, ht.1.size⟩, fun k _ _ hs _ => heap_setCells_ne _ _ _ _ _ hs, fun _ h => .inl h⟩
  · show Head4 _ g (.slice (some ⟨s, 0, none⟩) (D.sure.set i d).length (D.sure.set i d).length) _ _ _
    rw [List.length_set]
    exact (heap_setCells_ne _ _ _ _ _ h6).trans h1
  · intro z hz
    rcases List.mem_or_eq_of_mem_set hz with hz | rfl
    · exact h4 z hz
    · exact hd
  · intro x hx
    have := h5 x hx
    show x.2.length = 128 ∧ 0 ≤ x.1 ∧ x.1 < ((D.sure.set i d).length : Nat)
    rw [List.length_set]
    exact this
/-- Nothing waits any more. -/
theorem DriveIs.clear {W : World} {g s : Nat} {A : Option Addr} {c : Nat} {D : Drv} (h : DriveIs W g s A c D) :
    DriveIs (W.setCell ⟨g, 1, none⟩ (.slice none 0 0)) g s none 0 { D with list := [] } ∧ Drove W (W.setCell ⟨g, 1, none⟩ (.slice none 0 0)) g s A none := by
  obtain ⟨h1, h2, h3, ⟨h4, h5⟩, h6, h7⟩ := h
  refine ⟨⟨h1.set 1 (.slice none 0 0), (Below.heap_setCell _ _ _ _ h6.symm).trans h2, Go.CP.Own.none _ _ _ _, ⟨h4, fun x hx => by cases hx⟩, h6, fun k hk => by cases hk⟩, ⟨rfl, rfl, rfl, by simp [World.setCell]⟩, fun k _ hg _ _ => Below.heap_setCell _ _ _ _ hg, fun k hk => by cases hk⟩
end Go.Proofs.Ytppbcdcmpcagdaa
