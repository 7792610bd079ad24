/- The document's drive in memory: contracts of its spark and Fuse. -/
import Derived.Test.YtppbcdcmpcagdaaRef1
namespace Go.Proofs.Ytppbcdcmpcagdaa
open Go.RowKit Go.CP

theorem HeadR.set {W : World} {r : Nat} {n : Int} {lv : Value} {fuse : Int} {dead : Bool} (h : HeadR W r n lv fuse dead) (j : Nat) (v : Value) : (W.setCell ⟨r, j, none⟩ v).heap[r]? = some (.cells (#[.int .i64 n, lv, .int .i64 fuse, .bool dead].setIfInBounds j v) 222 (0, 0)) := heap_setCell_at _ _ _ _ _ _ h
/-- The head alone turned. -/
theorem RIs.reHead {W W' : World} {base r : Nat} {A : Option Addr} {c : Nat} {R R' : RDrv} (h : RIs W base r A c R) (hg : HeadR W' r R'.n (.slice A R.list.length c) R'.fuse R'.dead) (hk : ∀ k, k ≠ r → W'.heap[k]? = W.heap[k]?) (e : R'.list = R.list) : RIs W' base r A c R' := by
  obtain ⟨h1, h2, h3, h4⟩ := h
  exact ⟨by rw [e]; exact hg, by rw [e]; exact own_of_block h2 fun k hA => hk k fun e => h4 (by rw [hA, e]), h3, h4⟩
/-- What spark does. -/
def RetSpark (W : World) (base r : Nat) (A : Option Addr) (c : Nat) (R : RDrv) (e : Ending) (W' : World) : Prop :=
  Drove W W' r r A A ∧ ((R.fuse = 0 ∧ e = .returned (.bool false) ∧ RIs W' base r A c R.dark) ∨ (R.fuse ≠ 0 ∧ e = .returned (.bool true) ∧ RIs W' base r A c R.less))
theorem ref_spark (W : World) (base r : Nat) (A : Option Addr) (c : Nat) (R : RDrv) (h : RIs W base r A c R) (hl : -1 ≤ R.fuse) (hu : R.fuse ≤ 9223372036854775807) :
    Calls Try.prog 168 #[.pointer (some ⟨r, 0, none⟩)] W (RetSpark W base r A c R) := by
  obtain ⟨n, list, fuse, dead⟩ := R
  have H := hid h
  obtain ⟨c0, c1, c2, c3, hf, hlt⟩ := h.1.facts
  dsimp only at hl hu c2 c3
  have HU := hid hu
  have hw : IntKind.i64.wrap (fuse - 1) = fuse - 1 := by rw [IntKind.wrap_i64]; omega
  clear h hu
  by_cases h0 : fuse = 0
  · subst h0
    clear hw
    go_enter Try.func168, Try.ntmps168
    go_wp2
    go_ret
    exact ⟨Drove.setHead _ _, .inl ⟨rfl, rfl, H.out.reHead (R' := RDrv.dark _) (H.out.1.set 3 (.bool true)) (fun k hk => Below.heap_setCell _ _ _ _ hk) rfl⟩⟩
  · have hq : (fuse == 0) = false := by simpa using h0
    have H0 := hid h0
    by_cases h1 : 0 < fuse
    · have HL : Hid ((RDrv.less ⟨n, list, fuse, dead⟩).fuse = fuse - 1) := hid (if_pos h1)
      clear h0
      go_enter Try.func168, Try.ntmps168
      go_wp2
      go_ret
      refine ⟨Drove.setHead _ _, .inr ⟨H0.out, rfl, H.out.reHead (R' := RDrv.less _) ?_ (fun k hk => Below.heap_setCell _ _ _ _ hk) rfl⟩⟩
      rw [HL.out]
      exact H.out.1.set 2 (.int .i64 (fuse - 1))
    · have HL : Hid (RDrv.less ⟨n, list, fuse, dead⟩ = ⟨n, list, fuse, dead⟩) := hid (by rw [RDrv.less]; dsimp only; rw [if_neg h1])
      clear h0 hw
      go_enter Try.func168, Try.ntmps168
      go_wp2
      go_ret
      refine ⟨Drove.refl _ _ _ _, .inr ⟨H0.out, rfl, ?_⟩⟩
      rw [HL.out]
      exact H.out
theorem ref_fuse (W : World) (base r : Nat) (A : Option Addr) (c : Nat) (R : RDrv) (z : Int) (h : RIs W base r A c R) :
    Calls Try.prog 109 #[.pointer (some ⟨r, 0, none⟩), .int .i64 z] W fun e W' => e = .returned (.tuple #[]) ∧ RIs W' base r A c (R.fuseTo z) ∧ Drove W W' r r A A := by
  obtain ⟨n, list, fuse, dead⟩ := R
  have H := hid h
  obtain ⟨c0, c1, c2, c3, hf, hlt⟩ := h.1.facts
  have hs := h.1.set 2 (.int .i64 z)
  dsimp only at c2 c3 hs
  have HS := hid hs
  clear h hs
  by_cases hz : z < 0
  · have HF : Hid ((RDrv.fuseTo ⟨n, list, fuse, dead⟩ z) = ⟨n, list, -1, dead⟩) := hid (by rw [RDrv.fuseTo, if_pos hz])
    have h2 : HeadR (W.setCell ⟨r, 2, none⟩ (.int .i64 z)) r n (.slice A list.length c) z dead := HS.out
    have HS2 := hid (h2.set 2 (.int .i64 (-1)))
    have HK : Hid (∀ k, k ≠ r → ((W.setCell ⟨r, 2, none⟩ (.int .i64 z)).setCell ⟨r, 2, none⟩ (.int .i64 (-1))).heap[k]? = W.heap[k]?) := hid (fun k hk => (Below.heap_setCell _ _ _ _ hk).trans (Below.heap_setCell _ _ _ _ hk))
    have HD : Hid (Drove W ((W.setCell ⟨r, 2, none⟩ (.int .i64 z)).setCell ⟨r, 2, none⟩ (.int .i64 (-1))) r r A A) := hid ((Drove.setHead 2 (.int .i64 z)).trans (Drove.setHead 2 (.int .i64 (-1))))
    clear h2
    go_enter Try.func109, Try.ntmps109
    go_wp2
    go_end0
    rw [HF.out]
    exact ⟨rfl, H.out.reHead (R' := ⟨n, list, -1, dead⟩) HS2.out HK.out rfl, HD.out⟩
  · have HF : Hid ((RDrv.fuseTo ⟨n, list, fuse, dead⟩ z) = ⟨n, list, z, dead⟩) := hid (by rw [RDrv.fuseTo, if_neg hz])
    go_enter Try.func109, Try.ntmps109
    go_wp2
    go_end0
    rw [HF.out]
    exact ⟨rfl, H.out.reHead (R' := ⟨n, list, z, dead⟩) HS.out (fun k hk => Below.heap_setCell _ _ _ _ hk) rfl, Drove.setHead _ _⟩
end Go.Proofs.Ytppbcdcmpcagdaa
