/- slices.Backward over bytes (its iterator's contract) and field.get: the number that little-endian bytes spell. -/
import Derived.Test.YtppbcdcmpcagdaaField2
import Derived.RangeFuncBox
import Derived.RangeFuncLeaves
import Derived.RangeFuncNested
import Derived.Shelf.Abstract
import Derived.WalkKit
import Derived.OwnWalkIn
import Derived.TacticsInMore
import Derived.LoopNIn
import Derived.LoopIn
namespace Go.Proofs.Ytppbcdcmpcagdaa
open Go.RowKit Go.CP Go.Shelf
attribute [local go_sem] Oper.semAt_some

/-- What a round keeps: all below n₀; and the slice's own box. -/
def KpB (n₀ Bs : Nat) (W W' : World) : Prop := Below n₀ W W' ∧ W'.heap[Bs]? = W.heap[Bs]?
theorem KpB.refl (n₀ Bs : Nat) (W : World) : KpB n₀ Bs W W := ⟨Below.refl _ _, rfl⟩
theorem KpB.trans {n₀ Bs : Nat} {A B C : World} (h : KpB n₀ Bs A B) (k : KpB n₀ Bs B C) : KpB n₀ Bs A C := ⟨h.1.trans k.1, k.2.trans h.2⟩
theorem KpB.cell {n₀ Bs : Nat} {A B : World} (h : KpB n₀ Bs A B) {v : Value} (hv : A.cell? ⟨Bs, 0, none⟩ = some v) : B.cell? ⟨Bs, 0, none⟩ = some v := by
  rw [← hv, World.cell?, World.cell?]
  simp only [h.2]

/-- What has come when the last k bytes have come, last first. -/
def back (b : List UInt8) (k : Nat) : List (Nat × UInt8) := (List.range k).map fun j => (b.length - 1 - j, b.getD (b.length - 1 - j) 0)
theorem back_succ (b : List UInt8) (k : Nat) : back b (k + 1) = back b k ++ [(b.length - 1 - k, b.getD (b.length - 1 - k) 0)] := by simp [back, List.range_succ]
theorem back_len (b : List UInt8) (k : Nat) : (back b k).length = k := by simp [back]

set_option maxRecDepth 100000 in
set_option maxHeartbeats 2000000 in
theorem bwd_in (F : Fence) (n : Nat) (hF : F.fn 188) (hro : F.round = none) (hn : 1 ≤ n) (l Bs n₀ : Nat) (B : Option Addr) (b : List UInt8) (cb : Nat) (hlen : b.length ≤ 140737488351232) (J Jx : List (Nat × UInt8) → World → Prop)
    (hY : ∀ pre x W, J pre W → pre.length < b.length → YieldAt F (n - 1) Try.prog l #[.int .i64 (x.1 : Int), bv x.2] W fun e W' =>
      (e = .returned (.bool true) ∧ J (pre ++ [x]) W' ∧ KpB n₀ Bs W W') ∨ (e = .returned (.bool false) ∧ Jx (pre ++ [x]) W'))
    (W : World) (hBs : W.cell? ⟨Bs, 0, none⟩ = some (.slice B b.length cb)) (hb : ∀ W', Below n₀ W W' → Bytes W' B b) (h0 : J [] W) :
    CallsIn F n Try.prog 188 #[.func (.yield l) #[] #[], .pointer (some ⟨Bs, 0, none⟩)] W fun e W' => (∃ v, e = .returned v) ∧
      ((∃ ys, ys = back b b.length ∧ J ys W') ∨ (∃ pre, (∃ k, k ≤ b.length ∧ pre = back b k) ∧ Jx pre W')) := by
  refine callsIn_of_wp Try.func188 rfl hF ?_ hro
  simp only [Try.ntmps188, List.size_toArray, List.length_cons, List.length_nil, Nat.reduceAdd, Nat.reduceSub, Array.replicate_succ, Array.replicate_zero, List.push_toArray, List.append_toArray, List.nil_append, List.cons_append]
  gi_wp2
  gi_loopw [3] (fun i wr => ∃ m : Nat, m ≤ b.length ∧ i = .int .i64 ((m : Int) - 1) ∧ J (back b (b.length - m)) wr ∧ KpB n₀ Bs W wr)
    (fun i _ => (intOf i + 1).toNat)
  case atStart => exact ⟨b.length, Nat.le_refl _, rfl, by rw [Nat.sub_self]; exact h0, KpB.refl _ _ _⟩
  case round =>
    obtain ⟨m, hm, rfl, hJs, hnx⟩ := hrel
    have hbs := hnx.cell hBs
    cases m with
    | zero =>
      rw [show (((0 : Nat) : Int) - 1) = -1 from rfl]
      gi_wp2
      go_end0
      exact ⟨⟨_, rfl⟩, .inl ⟨_, rfl, by simpa using hJs⟩⟩
    | succ m =>
      obtain ⟨g, off, rfl, hc⟩ := Bytes.openq (hb wr hnx.1) (by omega)
      obtain ⟨x, hx⟩ := get_of_lt b (i := m) (by omega)
      have hd := hc m x hx
      have hxd : b.getD m 0 = x := by rw [List.getD_eq_getElem?_getD, hx]; rfl
      obtain ⟨fn, tmps, assign, body, hy, hR⟩ := hY _ (m, x) wr hJs (by rw [back_len]; omega)
      have hbk : back b (b.length - (m + 1)) ++ [(m, x)] = back b (b.length - m) := by
        rw [show b.length - m = b.length - (m + 1) + 1 from by omega, back_succ, show b.length - 1 - (b.length - (m + 1)) = m from by omega, hxd]
      rw [hbk] at hR
      have HB := hid hbk
      clear hbk hc hx hxd
      rw [show (((m + 1 : Nat) : Int) - 1) = m from by omega]
      dsimp only at hy
      gi_wp2
      refine hR.mono ?_
      rintro e W3 (⟨rfl, hJ3, hk3⟩ | ⟨rfl, hJx3⟩)
      · gi_wp2
        go_roundw
        case rel => exact ⟨m, by omega, rfl, hJ3, hnx.trans hk3⟩
        case measure => simp [intOf]
      · gi_wp2
        refine bodyPost_ret (results_none rfl _ _ _) rfl ?_
        exact ⟨⟨_, rfl⟩, .inr ⟨_, ⟨b.length - m, by omega, rfl⟩, hJx3⟩⟩

set_option maxHeartbeats 1000000 in
theorem backward_in (F : Fence) (n : Nat) (hF : F.fn 177) (hro : F.round = none) (a : Option Addr) (len cap : Nat) (w : World) :
    CallsIn F n Try.prog 177 #[.slice a len cap] w fun e w' => e = .returned (.func (.func 188) #[] #[.pointer (some ⟨w.heap.size, 0, none⟩)]) ∧ w' = w.alloc (.cells #[.slice a len cap] 22) := by
  refine callsIn_of_wp Try.func177 rfl hF ?_ hro
  simp only [Try.ntmps177, List.size_toArray, List.length_cons, List.length_nil, Nat.reduceAdd, Nat.reduceSub, Array.replicate_succ, Array.replicate_zero, List.push_toArray, List.append_toArray, List.nil_append, List.cons_append]
  gi_wp2
  go_ret
  exact ⟨rfl, rfl⟩

theorem kpB_t {n₀ Bs : Nat} {A B C : World} (h : KpB n₀ Bs A B) (k : KpB n₀ Bs B C) : KpB n₀ Bs A C := h.trans k
theorem kpB_b {n₀ Bs : Nat} {w : World} (hn : n₀ ≤ w.heap.size) (hB : Bs < w.heap.size) : ∀ (W : World) (l : Nat) (o o' : Obj), w.heap.size ≤ l → W.heap[l]? = some o → o.isCells = false → o.isWalk = false → KpB n₀ Bs W (W.putObj l o') :=
  fun W l o o' hl ho hc hw => ⟨belowK_b hn W l o o' hl ho hc hw, (grownBy_putObj' W l o').block Bs (by have := (Array.getElem?_eq_some_iff.1 ho).1; omega) (by simp; omega)⟩

theorem back_stops (F : Fence) (n : Nat) (hF : F.fn 188) (hro : F.round = none) (hn : 1 ≤ n) (Bs n₀ : Nat) (B : Option Addr) (b : List UInt8) (cb : Nat) (hlen : b.length ≤ 140737488351232) (w : World) (hBs : Bs < w.heap.size) (hn₀ : n₀ ≤ w.heap.size)
    (hc : w.cell? ⟨Bs, 0, none⟩ = some (.slice B b.length cb)) (hb : ∀ W', Below n₀ w W' → Bytes W' B b) :
    SeqStopsK F n Try.prog 188 #[.pointer (some ⟨Bs, 0, none⟩)] (fun x : Nat × UInt8 => #[Value.int .i64 (x.1 : Int), bv x.2]) (KpB n₀ Bs) (fun ys => ys = back b b.length)
      (fun pre => ∃ k, k ≤ b.length ∧ pre = back b k) b.length w := fun l J Jx W hW _ _ hY h0 =>
  bwd_in F n hF hro hn l Bs n₀ B b cb hlen J Jx hY W ((hW.cell (p := ⟨Bs, 0, none⟩) hBs).trans hc) (fun W' h => hb W' ((hW.mono hn₀).trans h)) h0

def getF (pre : List (Nat × UInt8)) : UInt32 := pre.foldl (fun a x => (a <<< 8) ||| x.2.toUInt32) 0
theorem getF_snoc (pre : List (Nat × UInt8)) (x : Nat × UInt8) : getF (pre ++ [x]) = (getF pre <<< 8) ||| x.2.toUInt32 := by simp [getF]
/-- What field.get hands back. -/
def getL (b : List UInt8) : UInt32 := b.foldr (fun x a => (a <<< 8) ||| x.toUInt32) 0
theorem getF_back (b : List UInt8) : getF (back b b.length) = getL b := by
  have : (back b b.length).map (·.2) = b.reverse := by
    apply List.ext_getElem
    · simp [back]
    · intro i h1 h2
      simp [back] at h1
      simp only [back, List.map_map, List.getElem_map, List.getElem_range, Function.comp, List.getElem_reverse]
      rw [List.getD_eq_getElem?_getD, List.getElem?_eq_getElem (by omega)]
      rfl
  have e : getF (back b b.length) = ((back b b.length).map (·.2)).foldl (fun (a : UInt32) x => (a <<< 8) ||| x.toUInt32) 0 := by rw [getF, List.foldl_map]
  rw [e, this, List.foldl_reverse]
  rfl
theorem shl8 (a : UInt32) : (a.toNat : Int) * (256 : Int) % (4294967296 : Int) = ((a <<< 8).toNat : Int) := by
  rw [UInt32.toNat_shiftLeft]
  simp [Nat.shiftLeft_eq]

theorem get_step (a : UInt32) (x : UInt8) : bits .or .u32 ((a.toNat : Int) * (256 : Int) % (4294967296 : Int)) ((x.toNat : Int) % (4294967296 : Int)) = (((a <<< 8) ||| x.toUInt32).toNat : Int) := by
  rw [shl8, ← bits_or_u32]
  congr 1
  rw [UInt8.toNat_toUInt32]
  have := x.toNat_lt
  omega
set_option maxRecDepth 100000 in
set_option maxHeartbeats 2000000 in
theorem get_in (F : Fence) (n : Nat) (hA : F.fn 130) (hB : F.fn 177) (hC : F.fn 188) (hro : F.round = none) (hn : 3 ≤ n) (B : Option Addr) (b : List UInt8) (cb : Nat) (hlen : b.length ≤ 140737488351232) (w : World) (hb : Bytes w B b) :
    CallsIn F n Try.prog 130 #[.slice B b.length cb] w fun e W' => e = .returned (.int .u32 ((getL b).toNat : Int)) ∧ Below w.heap.size w W' := by
  have h1 : 1 ≤ n := by omega
  have HBB := hid hb
  refine callsIn_of_wp_marks Try.func130 rfl hA ?_ hro
  simp only [Try.ntmps130, List.size_toArray, List.length_cons, List.length_nil, Nat.reduceAdd, Nat.reduceSub, Array.replicate_succ, Array.replicate_zero, List.push_toArray, List.append_toArray, List.nil_append, List.cons_append]
  gi_wp2_with (gi_at_call 177; refine (backward_in F (n - 1) hB hro _ _ _ _).mono ?_; rintro e w' ⟨rfl, rfl⟩)
  have bS := Boxed.new w 49 (.int .u32 0)
  have bN := Boxed.new (w.alloc (.cells #[.int .u32 0] 49)) 22 (.slice B b.length cb)
  rw [World.size_alloc] at bN
  have hB0 : Below w.heap.size w ((w.alloc (.cells #[.int .u32 0] 49)).alloc (.cells #[.slice B b.length cb] 22)) := ((Below.refl _ w).alloc (Nat.le_refl _) _).alloc (by simp) _
  refine wpIn_rangeFunc_ownG hro h1 (gf := 188) (lb := #[.pointer (some ⟨w.heap.size + 1, 0, none⟩)]) rfl hC (enters_of Try.func188 (by kernel_rfl) rfl)
    (back_stops F (n - 1) hC hro (by omega) (w.heap.size + 1) w.heap.size B b cb hlen _ (by simp) (by simp; omega) bN.cell (fun W' h => HBB.out.below (hB0.trans h) (Nat.le_refl _))) kpB_t (kpB_b (by simp; omega) (by simp)) (Below.refl _ _) (fun _ => rfl)
    (fun pre W => (W.cell? ⟨w.heap.size, 0, none⟩ = some (.int .u32 ((getF pre).toNat : Int)) ∧ W.frozen? ⟨w.heap.size, 0, none⟩ = false) ∧ Below w.heap.size w W)
    (fun _ _ _ => False)
    (OwnFrom.and (Own.from (fun s A B row hs hg hr => ⟨cell_kept hs.1 hg hr, (frozen_kept hs.1 hg hr).trans hs.2⟩) _) (ownFrom_below (Nat.le_refl _) (by simp; omega)))
    (fun _ _ _ _ _ hs _ _ => hs)
    ⟨⟨(bS.alloc _).cell, (bS.alloc _).frozen⟩, hB0⟩
    (fun x => { tmps := #[.slice B b.length cb, undef, .int .u32 0, .pointer (some ⟨w.heap.size, 0, none⟩), undef, bv x.2, .slice B b.length cb, .func (.func 188) #[] #[.pointer (some ⟨w.heap.size + 1, 0, none⟩)], .int .i64 (x.1 : Int), bv x.2, undef, undef, undef, undef, undef, undef], defers := [] }) ?assign ?body ?done ?stop
  case assign =>
    intro l x W K hK
    gi_wp2
    exact hK
  case body =>
    rintro l pre x W ⟨⟨hc, hf⟩, hB⟩ _
    gi_wp2
    have e := get_step (getF pre) x.2
    rw [← getF_snoc] at e
    rw [e]
    exact ⟨(KeepsOthers.setCell _ _ _).from _, ⟨(Below.refl w.heap.size W).setCell (p := ⟨w.heap.size, 0, none⟩) (Nat.le_refl _) _, Below.heap_setCell _ _ _ _ (by simp)⟩, ⟨World.cell?_setCell_same' _ _ _ (by rw [hc]; rfl), by rw [World.frozen?_setCell]; exact hf⟩, hB.setCell (p := ⟨w.heap.size, 0, none⟩) (Nat.le_refl _) _⟩
  case done =>
    rintro D ys W hD rfl ⟨⟨hc, _⟩, hB⟩ hK
    gi_wp2
    refine ⟨by simp, .inl ⟨_, _, rfl, run_takeDeferred hK, ?_⟩⟩
    exact ⟨_, results_tmp rfl _ _ _, by rw [getF_back]; rfl, hB.trans (belowK_b (w := w) (Nat.le_refl _) W D _ _ (by simp at hD; omega) hK rfl rfl)⟩
  case stop =>
    rintro D c pre W _ _ h _
    exact h.elim
theorem get_any (B : Option Addr) (b : List UInt8) (cb : Nat) (hlen : b.length ≤ 140737488351232) (w : World) (hb : Bytes w B b) :
    Calls Try.prog 130 #[.slice B b.length cb] w fun e W' => e = .returned (.int .u32 ((getL b).toNat : Int)) ∧ Below w.heap.size w W' :=
  (callsIn_wide (n := 3)).1 (get_in Fence.wide 3 trivial trivial trivial rfl (Nat.le_refl _) B b cb hlen w hb)
end Go.Proofs.Ytppbcdcmpcagdaa
