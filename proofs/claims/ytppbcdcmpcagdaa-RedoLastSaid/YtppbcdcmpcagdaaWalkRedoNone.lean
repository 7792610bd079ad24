/- The law RedoNone returns true at every input: no drive, one without power, and one without a log answer so. No condition. -/
import Derived.Test.YtppbcdcmpcagdaaRedoK
namespace Go.Proofs.Ytppbcdcmpcagdaa
open Go.RowKit Go.CP

theorem zeros_none : headsL (List.replicate 128 (0 : UInt8)) = none := by
  have h4 : (List.replicate 128 (0 : UInt8)).getD 4 0 = 0 := by decide
  have ho : outR (List.replicate 128 (0 : UInt8)) = [] := by rw [outR, h4]; rfl
  unfold headsL
  rw [if_neg]
  intro h
  have h2 := congrArg (fun l => l.getD 0 0) h.2.2.2
  rw [ho] at h2
  revert h2
  simp [headL, sealL, headR, magicR]
theorem new_get1 : (Drv.new 64).get 1 = (0, List.replicate 128 0) := by decide +kernel
theorem new_waits : (Drv.new 64).waits = (2, []) := by rw [waits_of new_get1, if_neg (by decide), zeros_none]
theorem new_commit (n : Int) (b : List UInt8) : (Drv.new 64).commit [(n, b)] = (if targB 64 [(n, b)] then 2 else 1, Drv.new 64) := by
  have hs : (Drv.new 64).sure.length = 64 := by simp [Drv.new]
  rw [Drv.commit, if_neg (by simp), hs]
  cases targB 64 [(n, b)] with
  | true => rw [if_pos rfl, if_pos rfl, new_waits, if_pos (by decide)]
  | false => rfl
theorem new_recover : (Drv.new 64).recover = (2, Drv.new 64) := by
  rw [recover_of new_waits (e := 0) (ws := []) rfl, if_pos (.inl (by decide))]
def coldD : Drv := ⟨(Drv.new 64).sure, [], 0, true⟩
theorem cold_flush : ((Drv.new 64).fuseTo 0).flush = (11, coldD) := by
  have h0 : ((Drv.new 64).fuseTo 0).fuse = 0 := by show max (0 : Int) (-1) = 0; decide
  rw [Drv.flush, if_neg (by simp [Drv.fuseTo, Drv.new]), if_pos h0]
  rfl
theorem cold_recover : coldD.recover = (11, coldD) := by
  have hg : coldD.get 1 = (11, []) := by rw [Drv.get, if_pos (show coldD.dead = true from rfl)]
  have hw : coldD.waits = (11, []) := by rw [waits_of hg, if_pos (by decide)]
  rw [recover_of hw (e := 0) (ws := []) rfl, if_pos (.inl (by decide))]
theorem feed_litC {W : World} {g s : Nat} {A : Option Addr} {c : Nat} {D : Drv} (h : DriveIs W g s A c D) (t : TypeId) (ws : List Wri) (hs : ∀ x ∈ ws, SafeC W A g s x.a (x.d.map bv) ∧ x.d.length ≤ x.c) :
    Feed (W.alloc (.cells (ws.flatMap wcells).toArray t)) g s A (some ⟨W.heap.size, 0, none⟩) ws :=
  ⟨wrs_lit ws, fun x hx => Cells.alloc (hs x hx).1.1 _, fun _ => far_new h fun k hk => by simp [blockOf] at hk; omega, fun x hx h0 => (hs x hx).1.2 (by simpa using h0), fun x hx => (hs x hx).2⟩
theorem commit1C (W : World) (g s : Nat) (A : Option Addr) (c : Nat) (D : Drv) (h : DriveIs W g s A c D) (hf : Fit D 5000) (n : Int) (X : Option Addr) (l : List UInt8) (cx : Nat) (hs : SafeC W A g s X (l.map bv)) (hl : l.length ≤ cx) :
    Calls Try.prog 122 #[.pointer (some ⟨g, 0, none⟩), .slice (some ⟨W.heap.size, 0, none⟩) 1 1] (W.alloc (.cells #[.int .i64 n, .slice X l.length cx] 136)) (RetDrv W g s A (D.commit [(n, l)])) :=
  (commit_any _ g s A c D (h.alloc (.cells #[.int .i64 n, .slice X l.length cx] 136)) hf (some ⟨W.heap.size, 0, none⟩) [⟨n, X, l, cx⟩] 1 (feed_litC h 136 [⟨n, X, l, cx⟩] (fun x hx => by rw [List.mem_singleton.1 hx]; exact ⟨hs, hl⟩)) (by simp)).mono fun _ _ k => RetDrv.from ((Below.refl _ _).alloc (Nat.le_refl _) _) k
/-- A box that a drive's rows are not. -/
theorem DriveIs.box {W W' : World} {g s k : Nat} {A A' : Option Addr} {c : Nat} {D : Drv} {C : Array Value} (h : DriveIs W g s A c D) (hd : Drove W W' g s A A') (hk : W.heap[k]? = some (.cells C 136 (0, 0))) (hg : k ≠ g ∧ k ≠ s) : W'.heap[k]? = some (.cells C 136 (0, 0)) := by
  refine (hd.2.1 k (Array.getElem?_eq_some_iff.1 hk).1 hg.1 hg.2 fun e => ?_).trans hk
  rcases h.2.2.1.2 with ⟨rfl, _⟩ | ⟨q, cur, rfl, _, hq, _⟩
  · cases e
  · simp [blockOf] at e
    subst e
    rw [hk] at hq
    cases hq
theorem box_cells {W : World} {k : Nat} {x y : Value} {t : TypeId} (h : W.heap[k]? = some (.cells #[x, y] t (0, 0))) : W.cell? ⟨k, 0, none⟩ = some x ∧ W.cell? ⟨k, 1, none⟩ = some y := by
  constructor <;> simp [World.cell?, h]
set_option maxHeartbeats 4000000 in
set_option maxRecDepth 100000 in
theorem redoNone_in (w : World) (A : Option Addr) (b : List UInt8) (cb : Nat) (n : Int) (hA : Bytes w A b) (hc : b.length ≤ cb) (x y : Int) (hx : checkE 64 [(n, b)] = x) (hy : (Drv.new 64).commit [(n, b)] = (y, Drv.new 64)) (hxy : (x = 0 ∧ y = 2) ∨ (x = 1 ∧ y = 1)) :
    Calls Try.prog 37 #[.slice A b.length cb, .int .i64 n] w fun e w' => e = .returned (.bool true) ∧ Below w.heap.size w w' := by
  have HA := hid hA
  have HCE := hid hx
  have HCM := hid hy
  clear hA hx hy
  rcases hxy with ⟨rfl, rfl⟩ | ⟨rfl, rfl⟩
  all_goals
    go_enter Try.func37, Try.ntmps37
    go_wp2_with fail
    refine (new_drive 64 w (by decide) (by decide)).mono ?_
    rintro e w1 ⟨g, s, rfl, hd1, hb1, hg, hs⟩
    have hck := check_any ((w1.alloc (.cells #[.int .i64 n, .slice A b.length cb] 136)).alloc (.cells #[.int .i64 n, .slice A b.length cb] 136)) 64 (some ⟨(w1.alloc (.cells #[.int .i64 n, .slice A b.length cb] 136)).heap.size, 0, none⟩) [⟨n, A, b, cb⟩] 1 (wrs_lit (W := w1.alloc (.cells #[.int .i64 n, .slice A b.length cb] 136)) (t := 136) [⟨n, A, b, cb⟩]) (by simp)
    rw [World.size_alloc, show wl [⟨n, A, b, cb⟩] = [(n, b)] from rfl, HCE.out] at hck
    have HCK := hid hck
    have HD1 := hid hd1
    have hlt1 := hd1.lt
    have hgx : w1.heap.size ≠ g ∧ w1.heap.size ≠ s := by omega
    clear hck hd1
    go_wp2_with fail
    refine HCK.out.mono ?_
    clear HCK
    rintro e w2 ⟨rfl, hb2⟩
    have hb12 : Below w1.heap.size w1 w2 := (((Below.refl _ _).alloc (Nat.le_refl _) _).alloc (by simp) _).trans (hb2.mono (by simp; omega))
    have hk2 : w2.heap[w1.heap.size]? = some (.cells #[.int .i64 n, .slice A b.length cb] 136 (0, 0)) := (hb2.block _ (by simp; omega)).trans ((Below.heap_alloc _ _ _ (by simp)).trans (heap_alloc_new w1 _))
    have hd2 := HD1.out.below hb12 (Nat.le_refl _)
    have hsa : SafeC w2 none g s A (b.map bv) := ⟨Cells.below HA.out (below_t hb1 hb12 hb1.size) (Nat.le_refl _), fun h0 k hk => by
      have := Cells.lt HA.out h0 k hk
      exact ⟨by omega, by omega, fun e => by cases e⟩⟩
    obtain ⟨x20, x21⟩ := box_cells hk2
    have hp := commit1C w2 g s none 0 (Drv.new 64) hd2 ⟨by decide, by decide, by decide, by decide⟩ n A b cb hsa hc
    rw [HCM.out] at hp
    have HP := hid hp
    have HK2 := hid hk2
    have HD2 := hid hd2
    have HV2 : Hid (Drove w1 w2 g s none none) := hid (Drove.of_below hb12)
    clear hp hsa hk2 hd2 hb12 hb2
    go_wp2_with fail
    refine HP.out.mono ?_
    clear HP x20 x21
    rintro e w3 ⟨rfl, A3, c3, hd3, hv3⟩
    have HK3 := hid (HD2.out.box hv3 HK2.out hgx)
    have HV3 := hid (HV2.out.trans hv3)
    have hp := recover_any w3 g s A3 c3 (Drv.new 64) hd3 ⟨by decide, by decide, by decide, by decide⟩
    rw [new_recover] at hp
    have HP := hid hp
    have HD3 := hid hd3
    clear hp hd3 hv3 HK2 HD2 HV2
    go_wp2_with fail
    refine HP.out.mono ?_
    clear HP
    rintro e w4 ⟨rfl, A4, c4, hd4, hv4⟩
    have HK4 := hid (HD3.out.box hv4 HK3.out hgx)
    have HV4 := hid (HV3.out.trans hv4)
    have HP := hid (fuse_drive w4 g s A4 c4 (Drv.new 64) 0 hd4)
    have HD4 := hid hd4
    clear hd4 hv4 HK3 HV3
    go_wp2_with fail
    refine HP.out.mono ?_
    clear HP
    rintro e w5 ⟨rfl, hd5, hv5⟩
    have HK5 := hid (HD4.out.box hv5 HK4.out hgx)
    have HV5 := hid (HV4.out.trans hv5)
    have hp := drv_flush w5 g s A4 c4 ((Drv.new 64).fuseTo 0) hd5 (by decide) (by decide) (by decide)
    rw [cold_flush] at hp
    have HP := hid hp
    have HD5 := hid hd5
    clear hp hd5 hv5 HK4 HV4
    go_wp2_with fail
    refine HP.out.mono ?_
    clear HP
    rintro e w6 ⟨rfl, A6, c6, hd6, hv6⟩
    have HK6 := hid (HD5.out.box hv6 HK5.out hgx)
    have HV6 := hid (HV5.out.trans hv6)
    have hp := recover_any w6 g s A6 c6 coldD hd6 ⟨by decide, by decide, by decide, by decide⟩
    rw [cold_recover] at hp
    have HP := hid hp
    have HD6 := hid hd6
    clear hp hd6 hv6 HK5 HV5
    go_wp2_with fail
    refine HP.out.mono ?_
    clear HP
    rintro e w7 ⟨rfl, A7, c7, hd7, hv7⟩
    have HK7 := hid (HD6.out.box hv7 HK6.out hgx)
    have HV7 := hid (HV6.out.trans hv7)
    clear hd7 hv7 HK6 HV6
    go_wp2_with fail
    refine (awake06_any _).mono ?_
    rintro e w8 ⟨rfl, hb8⟩
    have hk8 : w8.heap[w1.heap.size]? = some (.cells #[.int .i64 n, .slice A b.length cb] 136 (0, 0)) := (hb8.block _ (Array.getElem?_eq_some_iff.1 HK7.out).1).trans HK7.out
    obtain ⟨x80, x81⟩ := box_cells hk8
    have HB8 := hid ((HV7.out.trans (Drove.of_below hb8)).back hb1 hg hs)
    clear hk8 hb8
    go_wp2_with fail
    refine (commit_nil _ _).mono ?_
    rintro e w9 ⟨rfl, hw9⟩
    have HW9 := hid hw9
    clear hw9
    go_wp2_with fail
    refine (commit_nil _ _).mono ?_
    rintro e w10 ⟨rfl, hw10⟩
    have HW10 := hid hw10
    clear hw10
    go_wp2_with fail
    refine (recover_nil _).mono ?_
    rintro e w11 ⟨rfl, hw11⟩
    have HW11 := hid hw11
    clear hw11
    go_wp2_with fail
    refine (commit_none _ _ _ _).mono ?_
    rintro e w12 ⟨rfl, hw12⟩
    have HW12 := hid hw12
    clear hw12
    go_wp2_with fail
    go_ret
    refine ⟨rfl, ?_⟩
    rw [HW12.out, HW11.out, HW10.out, HW9.out]
    exact HB8.out.alloc HB8.out.size _
theorem redoNone_walk (w : World) (A : Option Addr) (b : List UInt8) (cb : Nat) (n : Int) (hA : Bytes w A b) (hc : b.length ≤ cb) (_ : b.length ≤ 140737488351232) (_ : -9223372036854775808 ≤ n ∧ n < 9223372036854775808) :
    Calls Try.prog 37 #[.slice A b.length cb, .int .i64 n] w fun e w' => e = .returned (.bool true) ∧ Below w.heap.size w w' := by
  cases hq : targB 64 [(n, b)] with
  | true => exact redoNone_in w A b cb n hA hc 0 2 (by unfold checkE; rw [hq]; simp) (by rw [new_commit, hq]; rfl) (.inl ⟨rfl, rfl⟩)
  | false => exact redoNone_in w A b cb n hA hc 1 1 (by unfold checkE; rw [hq]; simp) (by rw [new_commit, hq]; rfl) (.inr ⟨rfl, rfl⟩)
end Go.Proofs.Ytppbcdcmpcagdaa
