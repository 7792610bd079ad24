/- Contract of the reference of package verb: Same. -/
import Derived.Test.YtppbcdcmpcagdaaVerb4
namespace Go.Proofs.Ytppbcdcmpcagdaa
open Go.RowKit Go.CP

def sameV (a b : Vb) : Bool := a.kind == b.kind && a.seat == b.seat && a.life == b.life && a.seq == b.seq && a.epoch == b.epoch && a.path == b.path && a.other == b.other && (a.node == b.node && a.gen == b.gen) && a.pos == b.pos && a.size == b.size && a.mode == b.mode && a.data == b.data
set_option maxHeartbeats 4000000 in
set_option maxRecDepth 100000 in
theorem vsame_in (kind seat life seq epoch : Int) (path other : List UInt8) (node gen pos size mode : Int) (data : List UInt8) (A : Option Addr) (c : Nat) (kind' seat' life' seq' epoch' : Int) (path' other' : List UInt8) (node' gen' pos' size' mode' : Int) (data' : List UInt8) (A' : Option Addr) (c' : Nat) (w : World)
    (h : Bytes w A data) (h' : Bytes w A' data') (p1 p2 p3 p4 p5 p6 p7 p8 p9 p10 p11 p12 p13 : Bool) (e1 : (kind == kind') = p1) (e2 : (seat == seat') = p2) (e3 : (life == life') = p3) (e4 : (seq == seq') = p4) (e5 : (epoch == epoch') = p5) (e6 : (path == path') = p6) (e7 : (other == other') = p7) (e8 : (node == node') = p8) (e9 : (gen == gen') = p9) (e10 : (pos == pos') = p10) (e11 : (size == size') = p11) (e12 : (mode == mode') = p12) (e13 : (data == data') = p13) :
    Calls Try.prog 86 #[vval ⟨kind, seat, life, seq, epoch, path, other, node, gen, pos, size, mode, data⟩ A c, vval ⟨kind', seat', life', seq', epoch', path', other', node', gen', pos', size', mode', data'⟩ A' c'] w fun e w' => e = .returned (.bool (p1 && p2 && p3 && p4 && p5 && p6 && p7 && (p8 && p9) && p10 && p11 && p12 && p13)) ∧ Below w.heap.size w w' := by
  have hcv := cv_bytes c ((h.alloc (.cells (vcells ⟨kind, seat, life, seq, epoch, path, other, node, gen, pos, size, mode, data⟩ A c).toArray 100)).alloc (.cells (vcells ⟨kind', seat', life', seq', epoch', path', other', node', gen', pos', size', mode', data'⟩ A' c').toArray 100))
  have hcv' := cv_bytes c' ((h'.alloc (.cells (vcells ⟨kind, seat, life, seq, epoch, path, other, node, gen, pos, size, mode, data⟩ A c).toArray 100)).alloc (.cells (vcells ⟨kind', seat', life', seq', epoch', path', other', node', gen', pos', size', mode', data'⟩ A' c').toArray 100))
  simp only [vval, vcells] at hcv hcv' ⊢
  go_enter Try.func86, Try.ntmps86
  go_wp2
  all_goals
    go_ret
    refine ⟨ret_bool ?_, ((Below.refl _ _).alloc (Nat.le_refl _) _).alloc (by simp) _⟩
    clear hcv hcv' h h' e1 e2 e3 e4 e5 e6 e7 e8 e9 e10 e11 e12 e13
    simp_all
theorem vsame_any (v : Vb) (A : Option Addr) (c : Nat) (v' : Vb) (A' : Option Addr) (c' : Nat) (w : World) (h : Bytes w A v.data) (h' : Bytes w A' v'.data) :
    Calls Try.prog 86 #[vval v A c, vval v' A' c'] w fun e w' => e = .returned (.bool (sameV v v')) ∧ Below w.heap.size w w' := by
  obtain ⟨kind, seat, life, seq, epoch, path, other, node, gen, pos, size, mode, data⟩ := v
  obtain ⟨kind', seat', life', seq', epoch', path', other', node', gen', pos', size', mode', data'⟩ := v'
  exact vsame_in kind seat life seq epoch path other node gen pos size mode data A c kind' seat' life' seq' epoch' path' other' node' gen' pos' size' mode' data' A' c' w h h' _ _ _ _ _ _ _ _ _ _ _ _ _ rfl rfl rfl rfl rfl rfl rfl rfl rfl rfl rfl rfl rfl
end Go.Proofs.Ytppbcdcmpcagdaa
