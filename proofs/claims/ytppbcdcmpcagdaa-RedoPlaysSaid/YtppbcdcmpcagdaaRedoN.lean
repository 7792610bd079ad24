/- Steps that came in, opened; the game's moves over them (six texts as one). -/
import Derived.Test.YtppbcdcmpcagdaaDriveW
import Derived.Test.YtppbcdcmpcagdaaOpens
import Derived.Test.YtppbcdcmpcagdaaRows
import Derived.Deep.Slices
import Derived.Deep.Fields
import Derived.ChangeSame
import Derived.Test.YtppbcdcmpcagdaaSized
import Derived.Test.YtppbcdcmpcagdaaRedoM
/- A step that is played on a drive: contract of the law's play (copyholdlaw05). -/
namespace Go.Proofs.Ytppbcdcmpcagdaa
open Go.RowKit Go.CP

theorem drewN_two (w : World) (a b : Nat) : (w.drewN a).drewN b = w.drewN (a + b) := by
  simp [World.drewN, Nat.add_assoc]
theorem below_some {B : Nat} {w w' : World} (h : ∃ n, w' = w.drewN n) : Below B w w' := by
  obtain ⟨n, rfl⟩ := h
  exact below_drewN (Below.refl _ _) n
theorem cv_drew {w : World} {A : Option Addr} {l : List UInt8} (c : Nat) (h : Bytes w A l) (n : Nat) : (convert 22 9 (.slice A l.length c)).run Try.prog (w.drewN n) = .ok (.string (bstr l)) (w.drewN n) := cv_bytes c (show Bytes (w.drewN n) A l from h)
/-- A row of an image: its cell and its text. -/
theorem Rows5.row {w : World} {b base q n c : Nat} {xs : List Value} {ls : List (List UInt8)} (ho : Go.CP.Own w b 22 1 (some ⟨q, 0, none⟩) n c xs) (h : Rows5 w base xs ls) {i : Nat} {l : List UInt8} (hl : ls[i]? = some l) :
    ∃ (P : Option Addr) (cp : Nat), w.cell? ⟨q, i, none⟩ = some (.slice P l.length cp) ∧ ∀ k, (convert 22 9 (.slice P l.length cp)).run Try.prog (w.drewN k) = .ok (.string (bstr l)) (w.drewN k) := by
  obtain ⟨P, cp, h1, h2⟩ := h.2 i l hl
  exact ⟨P, cp, own_cell ho h1, cv_drew cp h2.cells⟩
theorem Feed.moved {W W' : World} {A A' LA : Option Addr} {g s : Nat} {ws : List Wri} (h : Feed W g s A LA ws) (hd : Drove W W' g s A A') : Feed W' g s A' LA ws := by
  have hl : 0 < ws.length → 0 < (ws.flatMap wcells).length := fun h0 => by rw [flatMap_len wcells 2 ws fun _ _ => rfl]; omega
  have hl' : 0 < (ws.flatMap wcells).length → 0 < ws.length := fun h0 => by rw [flatMap_len wcells 2 ws fun _ _ => rfl] at h0; omega
  exact ⟨hd.cells' h.list fun h0 => h.far (hl' h0), fun x hx => hd.cells' (h.rows x hx) fun h0 => h.fars x hx (by simpa using h0), fun h0 => hd.far (h.far h0) (Cells.lt h.list (hl h0)),
    fun x hx h0 => hd.far (h.fars x hx h0) (Cells.lt (h.rows x hx) (by simpa using h0)), h.caps⟩
/-- A step, as memory has it. -/
structure Stp where
  what : Int
  n : Int
  la : Option Addr
  ws : List Wri
  cl : Nat
  ka : Option Addr
  keep : List Int
  ck : Nat
def Stp.cells (s : Stp) : List Value := [.int .i64 s.what, .int .i64 s.n, .slice s.la s.ws.length s.cl, .slice s.ka s.keep.length s.ck]
/-- What a step makes of a drive. -/
def Stp.play (s : Stp) (D : Drv) : Int × Drv :=
  if s.what = 0 then D.put (wl s.ws) else if s.what = 1 then D.flush else if s.what = 2 then (0, D.fuseTo s.n) else if s.what = 3 then (0, D.restart s.keep) else (0, D)
/-- A step that may be played: its rows are none of the drive's. -/
structure Fed (W : World) (g s : Nat) (A : Option Addr) (st : Stp) : Prop where
  list : Feed W g s A st.la st.ws
  keep : Ints W st.ka st.keep
  far : 0 < st.keep.length → Far st.ka A g s
  keepLen : st.keep.length ≤ 140737488351232
  listLen : st.ws.length ≤ 140737488351232
  num : -9223372036854775808 ≤ st.n ∧ st.n < 9223372036854775808
theorem Fed.drove {W W' : World} {A A' : Option Addr} {g s : Nat} {st : Stp} (h : Fed W g s A st) (hd : Drove W W' g s A A') : Fed W' g s A' st :=
  ⟨h.list.moved hd, hd.cells' h.keep fun h0 => h.far (by simpa using h0), fun h0 => hd.far (h.far h0) (Cells.lt h.keep (by simpa using h0)), h.keepLen, h.listLen, h.num⟩
/-- Put, with a bound for what is put alone. -/
theorem drv_put' (W : World) (g s : Nat) (A : Option Addr) (c : Nat) (D : Drv) (h : DriveIs W g s A c D) (hlo : -1 ≤ D.fuse) (hup : D.fuse ≤ 9223372036854775807)
    (LA : Option Addr) (ws : List Wri) (cw : Nat) (hf : Feed W g s A LA ws) (hl : ws.length ≤ 140737488351232) (hn : lenB (wl ws) = false → D.list.length + ws.length ≤ 1000000000000) :
    Calls Try.prog 100 #[.pointer (some ⟨g, 0, none⟩), .slice LA ws.length cw] W (RetDrv W g s A (D.put (wl ws))) := by
  unfold Drv.put
  split
  · next hd => exact put_dead W g s A c D h hd _
  · next hd =>
    have hd' : D.dead = false := by simpa using hd
    split
    · next ho => exact put_out W g s A c D h hd' LA ws cw hf.list hl false ho (fun h => by cases h)
    · next ho =>
      have ho' : outB D.sure.length (wl ws) = false := by simpa using ho
      split
      · next hlb => exact put_out W g s A c D h hd' LA ws cw hf.list hl true ho' (fun _ => hlb)
      · next hlb =>
        have hlb' : lenB (wl ws) = false := by simpa using hlb
        exact put_loop W g s A c D h hd' hlo hup LA ws cw hf.list hf.rows hf.far hf.fars hf.caps (hn hlb') ho' hlb'
set_option maxHeartbeats 2000000 in
set_option maxRecDepth 100000 in
theorem play_any (W : World) (g s : Nat) (A : Option Addr) (c : Nat) (D : Drv) (h : DriveIs W g s A c D) (hlo : -1 ≤ D.fuse) (hup : D.fuse ≤ 9223372036854775807) (hll : D.list.length ≤ 1000000000000)
    (st : Stp) (hf : Fed W g s A st) (hn : lenB (wl st.ws) = false → D.list.length + st.ws.length ≤ 1000000000000) :
    Calls Try.prog 114 #[.pointer (some ⟨g, 0, none⟩), .agg #[.int .i64 st.what, .int .i64 st.n, .slice st.la st.ws.length st.cl, .slice st.ka st.keep.length st.ck]] W (RetDrv W g s A (st.play D)) := by
  obtain ⟨what, n, la, ws, cl, ka, keep, ck⟩ := st
  have hb : Below W.heap.size W (W.alloc (.cells #[.int .i64 what, .int .i64 n, .slice la ws.length cl, .slice ka keep.length ck] 151)) := (Below.refl _ _).alloc (Nat.le_refl _) _
  have h1 := h.below hb (Nat.le_refl _)
  have hf1 := hf.drove (Drove.of_below hb)
  dsimp only at hf1 hn
  obtain ⟨nl, nu⟩ := hf.num
  dsimp only at nl nu
  have HB := hid hb
  by_cases w0 : what = 0
  · subst w0
    have HP := hid (drv_put' _ g s A c D h1 hlo hup la ws cl hf1.list hf1.listLen hn)
    clear h h1 hf hf1 hb hn hlo hup hll
    go_enter Try.func114, Try.ntmps114
    go_wp2_with fail
    refine HP.out.mono ?_
    rintro e w' k
    have k' := RetDrv.from HB.out k
    obtain ⟨rfl, k2⟩ := k'
    clear HP k
    go_wp2_with fail
    go_ret
    exact ⟨rfl, k2⟩
  · by_cases w1 : what = 1
    · subst w1
      have HP := hid (drv_flush _ g s A c D h1 hlo hup hll)
      clear h h1 hf hf1 hb hn hlo hup hll
      go_enter Try.func114, Try.ntmps114
      go_wp2_with fail
      refine HP.out.mono ?_
      rintro e w' k
      have k' := RetDrv.from HB.out k
      obtain ⟨rfl, k2⟩ := k'
      clear HP k
      go_wp2_with fail
      go_ret
      exact ⟨rfl, k2⟩
    · by_cases w2 : what = 2
      · subst w2
        have HP := hid (fuse_drive _ g s A c D n h1)
        clear h h1 hf hf1 hb hn hlo hup hll
        go_enter Try.func114, Try.ntmps114
        go_wp2_with fail
        refine HP.out.mono ?_
        rintro e w' ⟨rfl, hd', hv'⟩
        have HK := hid (And.intro hd' ((Drove.of_below HB.out).trans hv'))
        clear HP hd' hv'
        go_wp2_with fail
        go_ret
        exact ⟨rfl, A, c, HK.out.1, HK.out.2⟩
      · by_cases w3 : what = 3
        · subst w3
          have HP := hid (drv_restart _ g s A c D h1 hll ka keep ck hf1.keep hf1.far hf1.keepLen)
          clear h h1 hf hf1 hb hn hlo hup hll
          go_enter Try.func114, Try.ntmps114
          go_wp2_with fail
          refine HP.out.mono ?_
          rintro e w' ⟨rfl, hd', hv'⟩
          have HK := hid (And.intro hd' ((Drove.of_below HB.out).trans hv'))
          clear HP hd' hv'
          go_wp2_with fail
          go_ret
          exact ⟨rfl, none, 0, HK.out.1, HK.out.2⟩
        · have HK := hid h1
          have q0 : (what == 0) = false := by simpa using w0
          have q1 : (what == 1) = false := by simpa using w1
          have q2 : (what == 2) = false := by simpa using w2
          have q3 : (what == 3) = false := by simpa using w3
          have hpl : Hid (Stp.play ⟨what, n, la, ws, cl, ka, keep, ck⟩ D = (0, D)) := hid (by simp [Stp.play, w0, w1, w2, w3])
          clear h h1 hf hf1 hb hn hlo hup hll
          go_enter Try.func114, Try.ntmps114
          go_wp2_with fail
          go_ret
          rw [hpl.out]
          exact ⟨rfl, A, c, HK.out, Drove.of_below HB.out⟩
end Go.Proofs.Ytppbcdcmpcagdaa
/- Steps that came in; drives that do not touch one another. -/
namespace Go.Proofs.Ytppbcdcmpcagdaa
open Go.RowKit Go.CP

/-- How many writes a step may lay into a drive. -/
def Stp.room (s : Stp) : Nat := if lenB (wl s.ws) then 0 else s.ws.length
def roomTo (ss : List Stp) (i : Nat) : Nat := ((ss.take i).map Stp.room).sum
theorem roomTo_succ {ss : List Stp} {i : Nat} {s : Stp} (h : ss[i]? = some s) : roomTo ss (i + 1) = roomTo ss i + s.room := by
  rw [roomTo, take_snoc h, List.map_append, List.sum_append]
  simp [roomTo]
theorem roomTo_out {ss : List Stp} {i : Nat} (h : ss.length ≤ i) : roomTo ss (i + 1) = roomTo ss i := by
  rw [roomTo, roomTo, List.take_of_length_le (by omega), List.take_of_length_le h]
theorem roomTo_le (ss : List Stp) (i : Nat) : roomTo ss i ≤ (ss.map Stp.room).sum := by
  have : (ss.map Stp.room).sum = ((ss.take i).map Stp.room).sum + ((ss.drop i).map Stp.room).sum := by
    rw [← List.sum_append, ← List.map_append, List.take_append_drop]
  rw [roomTo]
  omega
/-- Steps that came in. -/
structure StepsIn (W : World) (A : Option Addr) (ss : List Stp) : Prop where
  cells : Cells W A (ss.flatMap Stp.cells)
  rows : ∀ s ∈ ss, Wrs W s.la s.ws ∧ ∀ r ∈ s.ws, Bytes W r.a r.d ∧ r.d.length ≤ r.c
  keeps : ∀ s ∈ ss, Ints W s.ka s.keep ∧ s.keep.length ≤ 140737488351232 ∧ s.ws.length ≤ 140737488351232
  nums : ∀ s ∈ ss, (-9223372036854775808 ≤ s.what ∧ s.what < 9223372036854775808) ∧ (-9223372036854775808 ≤ s.n ∧ s.n < 9223372036854775808)
  room : (ss.map Stp.room).sum ≤ 1000000000000
theorem steps_at {W : World} {A : Option Addr} {ss : List Stp} (h : Cells W A (ss.flatMap Stp.cells)) {i : Nat} {x : Stp} (hx : ss[i]? = some x) :
    ∃ b off, A = some ⟨b, off, none⟩ ∧ W.cell? ⟨b, off + i * 4, none⟩ = some (.int .i64 x.what) ∧ W.cell? ⟨b, off + i * 4 + 1, none⟩ = some (.int .i64 x.n) ∧ W.cell? ⟨b, off + i * 4 + 2, none⟩ = some (.slice x.la x.ws.length x.cl) ∧ W.cell? ⟨b, off + i * 4 + 3, none⟩ = some (.slice x.ka x.keep.length x.ck) := by
  obtain ⟨b, off, rfl, c0⟩ := h _ _ (flatMap_at Stp.cells 4 ss (fun _ _ => rfl) hx (j := 0) (v := .int .i64 x.what) rfl)
  obtain ⟨b1, o1, e1, c1⟩ := h _ _ (flatMap_at Stp.cells 4 ss (fun _ _ => rfl) hx (j := 1) (v := .int .i64 x.n) rfl)
  obtain ⟨b2, o2, e2, c2⟩ := h _ _ (flatMap_at Stp.cells 4 ss (fun _ _ => rfl) hx (j := 2) (v := .slice x.la x.ws.length x.cl) rfl)
  obtain ⟨b3, o3, e3, c3⟩ := h _ _ (flatMap_at Stp.cells 4 ss (fun _ _ => rfl) hx (j := 3) (v := .slice x.ka x.keep.length x.ck) rfl)
  cases e1
  cases e2
  cases e3
  exact ⟨b, off, rfl, c0, c1, c2, c3⟩
theorem StepsIn.fed {w W : World} {LA A : Option Addr} {ss : List Stp} {g s : Nat} (h : StepsIn w LA ss) (hb : Below w.heap.size w W) (hg : w.heap.size ≤ g) (hs : w.heap.size ≤ s) (hA : ∀ k, blockOf A = some k → w.heap.size ≤ k) {st : Stp} (hst : st ∈ ss) : Fed W g s A st := by
  have far : ∀ (X : Option Addr) (xs : List Value), Cells w X xs → 0 < xs.length → Far X A g s := fun X xs hc h0 k hk => by
    have := Cells.lt hc h0 k hk
    exact ⟨by omega, by omega, fun e => by have := hA k e; omega⟩
  obtain ⟨r1, r2⟩ := h.rows st hst
  obtain ⟨k1, k2, k3⟩ := h.keeps st hst
  refine ⟨⟨Cells.below r1 hb (Nat.le_refl _), fun r hr => Cells.below (r2 r hr).1 hb (Nat.le_refl _), fun h0 => far _ _ r1 (by rw [flatMap_len wcells 2 st.ws fun _ _ => rfl]; omega), fun r hr h0 => far _ _ (r2 r hr).1 (by simpa using h0), fun r hr => (r2 r hr).2⟩, Cells.below k1 hb (Nat.le_refl _), fun h0 => far _ _ k1 (by simpa using h0), k2, k3, (h.nums st hst).2⟩
/-- A drive's numbers keep their bounds. -/
structure Gd (D : Drv) (N : Nat) : Prop where
  lo : -1 ≤ D.fuse
  up : D.fuse ≤ 9223372036854775807
  sure : D.sure.length = 64
  list : D.list.length ≤ N
theorem Gd.mono {D : Drv} {N M : Nat} (h : Gd D N) (hm : N ≤ M) : Gd D M := ⟨h.lo, h.up, h.sure, Nat.le_trans h.list hm⟩
theorem Gd.dark {D : Drv} {N : Nat} (h : Gd D N) : Gd D.dark N := ⟨h.lo, h.up, h.sure, h.list⟩
theorem less_fuse {D : Drv} (h1 : -1 ≤ D.fuse) (h2 : D.fuse ≤ 9223372036854775807) : -1 ≤ D.less.fuse ∧ D.less.fuse ≤ 9223372036854775807 := by
  show -1 ≤ max (D.fuse - 1) (-1) ∧ max (D.fuse - 1) (-1) ≤ 9223372036854775807
  omega
theorem putGo_gd : ∀ (ws : List Wt) (D : Drv) (N : Nat), Gd D N → Gd (putGo D ws).2 (N + ws.length)
  | [], D, N, h => h
  | x :: ws, D, N, h => by
    rw [putGo]
    split
    · exact h.dark.mono (by omega)
    · have := putGo_gd ws { D.less with list := D.list ++ [x] } (N + 1) ⟨(less_fuse h.lo h.up).1, (less_fuse h.lo h.up).2, h.sure, by have := h.list; simp; omega⟩
      exact this.mono (by simp; omega)
theorem Gd.play {D : Drv} {N : Nat} (h : Gd D N) (s : Stp) (hn : s.n < 9223372036854775808) : Gd (s.play D).2 (N + s.room) := by
  unfold Stp.play
  split
  · unfold Drv.put
    split
    · exact h.mono (by omega)
    · split
      · exact h.mono (by omega)
      · split
        · exact h.mono (by omega)
        · next hl =>
          have hr : s.room = (wl s.ws).length := by rw [Stp.room, if_neg hl]; simp [wl]
          rw [hr]
          exact putGo_gd _ _ _ h
  · split
    · unfold Drv.flush
      split
      · exact h.mono (by omega)
      · split
        · exact h.dark.mono (by omega)
        · exact ⟨(less_fuse h.lo h.up).1, (less_fuse h.lo h.up).2, (setAll_len _ _).trans h.sure, Nat.zero_le _⟩
    · split
      · refine ⟨?_, ?_, h.sure, Nat.le_trans h.list (by omega)⟩
        · show -1 ≤ max s.n (-1)
          omega
        · show max s.n (-1) ≤ 9223372036854775807
          omega
      · split
        · exact ⟨by show (-1 : Int) ≤ -1; decide, by show (-1 : Int) ≤ 9223372036854775807; decide, (setKept_len _ _ _ _).trans h.sure, Nat.zero_le _⟩
        · exact h.mono (by omega)
/-- A drive that was made behind a world. -/
def Dr (W : World) (base g s : Nat) (A : Option Addr) (c : Nat) (D : Drv) (N : Nat) : Prop :=
  DriveIs W g s A c D ∧ Gd D N ∧ base ≤ g ∧ base ≤ s ∧ ∀ k, blockOf A = some k → base ≤ k
theorem Dr.below {W W' : World} {base g s : Nat} {A : Option Addr} {c : Nat} {D : Drv} {N B : Nat} (h : Dr W base g s A c D N) (hb : Below B W W') (hB : W.heap.size ≤ B) : Dr W' base g s A c D N := ⟨h.1.below hb hB, h.2⟩
theorem Dr.mono {W : World} {base g s : Nat} {A : Option Addr} {c : Nat} {D : Drv} {N M : Nat} (h : Dr W base g s A c D N) (hm : N ≤ M) : Dr W base g s A c D M := ⟨h.1, h.2.1.mono hm, h.2.2⟩
theorem play_dr {w W : World} {LA A : Option Addr} {ss : List Stp} {g s c : Nat} {D : Drv} {N : Nat} (h : StepsIn w LA ss) (hb : Below w.heap.size w W) (hd : Dr W w.heap.size g s A c D N) {st : Stp} (hst : st ∈ ss) (hN : N + st.room ≤ 1000000000000) :
    Calls Try.prog 114 #[.pointer (some ⟨g, 0, none⟩), .agg #[.int .i64 st.what, .int .i64 st.n, .slice st.la st.ws.length st.cl, .slice st.ka st.keep.length st.ck]] W fun e W' =>
      e = .returned (.int .i64 (st.play D).1) ∧ ∃ A' c', Dr W' w.heap.size g s A' c' (st.play D).2 (N + st.room) ∧ Drove W W' g s A A' ∧ Below w.heap.size w W' := by
  obtain ⟨h1, h2, h3, h4, h5⟩ := hd
  refine (play_any W g s A c D h1 h2.lo h2.up (by have := h2.list; omega) st (h.fed hb h3 h4 h5 hst) (fun hl => ?_)).mono ?_
  · have h6 := h2.list
    have hr : st.room = st.ws.length := by rw [Stp.room, hl]; rfl
    omega
  · rintro e W' ⟨he, A', c', hd', hv⟩
    refine ⟨he, A', c', ⟨hd', h2.play st (h.nums st hst).2.2, h3, h4, fun k hk => ?_⟩, hv, hb.trans (hv.below hb.size h3 h4 h5)⟩
    rcases hv.2.2 k hk with e | e
    · exact h5 k e
    · exact Nat.le_trans hb.size e
/-- Two drives without a block in common. -/
def ApartD (g s : Nat) (A : Option Addr) (g' s' : Nat) (A' : Option Addr) : Prop :=
  (g ≠ g' ∧ g ≠ s' ∧ blockOf A' ≠ some g) ∧ (s ≠ g' ∧ s ≠ s' ∧ blockOf A' ≠ some s) ∧ Far A A' g' s'
theorem ApartD.symm {g s g' s' : Nat} {A A' : Option Addr} (h : ApartD g s A g' s' A') : ApartD g' s' A' g s A := by
  obtain ⟨⟨a, b, c⟩, ⟨d, e, f⟩, k⟩ := h
  exact ⟨⟨a.symm, d.symm, fun e => (k _ e).1 rfl⟩, ⟨b.symm, e.symm, fun e => (k _ e).2.1 rfl⟩, fun i hi => ⟨fun e => c (by rw [hi, e]), fun e => f (by rw [hi, e]), fun e => (k i e).2.2 hi⟩⟩
/-- What a drive does leaves the other as it is. -/
theorem Dr.away {W W' : World} {base g s g' s' c : Nat} {A A' A2 : Option Addr} {D : Drv} {N : Nat} (h : Dr W base g s A c D N) (ap : ApartD g s A g' s' A') (hv : Drove W W' g' s' A' A2) : Dr W' base g s A c D N ∧ ApartD g s A g' s' A2 := by
  have hl := h.1.lt
  obtain ⟨a, b, k⟩ := ap
  refine ⟨⟨h.1.other hv a b k, h.2⟩, ⟨a.1, a.2.1, fun e => ?_⟩, ⟨b.1, b.2.1, fun e => ?_⟩, fun i hi => ⟨(k i hi).1, (k i hi).2.1, fun e => ?_⟩⟩
  · rcases hv.2.2 _ e with e | e
    · exact a.2.2 e
    · omega
  · rcases hv.2.2 _ e with e | e
    · exact b.2.2 e
    · omega
  · rcases hv.2.2 _ e with e | e
    · exact (k i hi).2.2 e
    · have := hl.2.2 i hi
      omega
end Go.Proofs.Ytppbcdcmpcagdaa
/- Steps that came in, opened: slices of structs that hold slices, of a bulk that is bounded. -/
namespace Go.Proofs.Ytppbcdcmpcagdaa
open Go.RowKit Go.CP Go.ChangeShapes Go.WideShapes Go.Deep

theorem bulk_one {H : Type} (d : DataW H) : 1 ≤ Rows.uptoBulk d := by
  cases d with
  | lit l => cases l <;> simp [Rows.uptoBulk]
  | _ => simp [Rows.uptoBulk]
theorem bulk_part {H : Type} {d : DataW H} {l : List (DataW H)} (h : d ∈ l) : Rows.uptoBulk d ≤ Rows.uptoBulkAll l := by
  induction l with
  | nil => cases h
  | cons x r ih =>
    simp only [Rows.uptoBulkAll]
    rcases List.mem_cons.1 h with e | e
    · subst e
      omega
    · have := ih e
      omega
theorem bulk_append {H : Type} (l r : List (DataW H)) : Rows.uptoBulkAll (l ++ r) = Rows.uptoBulkAll l + Rows.uptoBulkAll r := by
  induction l with
  | nil => simp [Rows.uptoBulkAll]
  | cons x l ih =>
    simp only [List.cons_append, Rows.uptoBulkAll, ih]
    omega
theorem bulk_len {H : Type} (l : List (DataW H)) : l.length ≤ Rows.uptoBulkAll l := by
  induction l with
  | nil => simp [Rows.uptoBulkAll]
  | cons x r ih =>
    have := bulk_one x
    simp only [Rows.uptoBulkAll, List.length_cons]
    omega
theorem bulk_slice {H : Type} (a b : List (DataW H)) : Rows.uptoBulkAll a + 1 ≤ Rows.uptoBulk (.slice a b) := by
  simp only [Rows.uptoBulk]
  omega
theorem list_of {α : Type} (R : Nat → α → Prop) : ∀ n : Nat, (∀ i, i < n → ∃ x, R i x) → ∃ l : List α, l.length = n ∧ ∀ i x, l[i]? = some x → R i x
  | 0, _ => ⟨[], rfl, fun i x h => by simp at h⟩
  | n + 1, h => by
    obtain ⟨l, h1, h2⟩ := list_of R n fun i hi => h i (by omega)
    obtain ⟨y, hy⟩ := h n (by omega)
    refine ⟨l ++ [y], by simp [h1], fun i x hx => ?_⟩
    by_cases hi : i < n
    · rw [List.getElem?_append_left (by omega)] at hx
      exact h2 i x hx
    · have hl := (List.getElem?_eq_some_iff.1 hx).1
      simp at hl
      obtain rfl : i = n := by omega
      rw [List.getElem?_append_right (by omega)] at hx
      simp [h1] at hx
      subst hx
      exact hy
theorem flatMap_get {α β : Type} (f : α → List β) (k : Nat) : ∀ (l : List α), (∀ x, (f x).length = k) → ∀ {j : Nat} {u : β}, (l.flatMap f)[j]? = some u → ∃ i x m, l[i]? = some x ∧ j = i * k + m ∧ (f x)[m]? = some u
  | [], _, j, u, h => by simp at h
  | y :: l, hf, j, u, h => by
    rw [List.flatMap_cons] at h
    by_cases hj : j < k
    · rw [List.getElem?_append_left (by rw [hf]; exact hj)] at h
      exact ⟨0, y, j, rfl, by omega, h⟩
    · rw [List.getElem?_append_right (by rw [hf]; omega), hf] at h
      obtain ⟨i, x, m, h1, h2, h3⟩ := flatMap_get f k l hf h
      refine ⟨i + 1, x, m, by simpa using h1, ?_, h3⟩
      rw [Nat.add_mul]
      omega
theorem sum_bulk {H : Type} {α : Type} (g : α → Nat) (D : Nat → DataW H) (l : List α) (h : ∀ i x, l[i]? = some x → g x ≤ Rows.uptoBulk (D i)) : ∀ n, n ≤ l.length → ((l.take n).map g).sum ≤ Rows.uptoBulkAll ((List.range n).map D)
  | 0, _ => by simp
  | n + 1, hn => by
    obtain ⟨x, hx⟩ := get_of_lt l (i := n) (by omega)
    have ih := sum_bulk g D l h n (by omega)
    have hg := h n x hx
    rw [take_snoc hx, List.range_succ, List.map_append, List.map_append, bulk_append, List.sum_append]
    simp only [List.map_cons, List.map_nil, List.sum_cons, List.sum_nil, Rows.uptoBulkAll]
    omega
/-- A slice of structs of one-cell fields that came in, as a list. -/
theorem open_rows {H : Type} {enc : TypeId × Value → H} {P : Program} {w : World} {base : Nat} {held : Bool} {t e : TypeId} {fs : Array Field} {fuel : Nat} {v : Value} {x : DataW H × List MemPlace} {B : Nat}
    (ht : P.underlying t = some (.slice e)) (he : P.underlying e = some (.struct fs)) (hone : oneCellFields P fs = true) (hC : P.cellsOf e = fs.size)
    (h : DataW.trod enc P w base (fun _ => true) held fuel t [v] = some x) (hB : Rows.uptoBulk x.1 ≤ B) {α : Type} (f : α → List Value) (hf : ∀ y, (f y).length = fs.size) (g : α → Nat) (R : α → Prop)
    (each : ∀ (cs : List Value) (ys : List (DataW H × List MemPlace)) (n : Nat), cs.length = fs.size → (∀ (j : Nat) (fd : Field), fs[j]? = some fd → ∃ u y, cs[j]? = some u ∧ y ∈ ys ∧ DataW.trod enc P w base (fun _ => true) held n fd.type [u] = some y) →
      Rows.uptoBulkAll (ys.map (·.1)) ≤ B → ∃ a : α, f a = cs ∧ R a ∧ g a ≤ Rows.uptoBulkAll (ys.map (·.1)) + 1) :
    ∃ (A : Option Addr) (l : List α) (c : Nat), v = .slice A l.length c ∧ l.length ≤ c ∧ Cells w A (l.flatMap f) ∧ (∀ a ∈ l, R a) ∧ (l.map g).sum ≤ Rows.uptoBulk x.1 ∧ l.length ≤ Rows.uptoBulk x.1 := by
  rcases open_slice ht h with ⟨hcs, -⟩ | ⟨a, len, cap, m, n, D, Pl, hcs, -, hl, -, hmm, hx, hi⟩
  · obtain rfl : v = .slice none 0 0 := by simpa using hcs
    exact ⟨none, [], 0, rfl, Nat.le_refl _, Cells.nil _ _, fun a ha => by simp at ha, by simp, by simp⟩
  · obtain rfl : v = .slice (some a) len cap := by simpa using hcs
    rw [if_pos rfl] at hmm
    subst hmm
    have hx1 : x.1 = .slice ((List.range len).map D) ((List.range (m - len)).map fun j => D (len + j)) := congrArg (·.1) hx
    have hbs : Rows.uptoBulkAll ((List.range len).map D) + 1 ≤ Rows.uptoBulk x.1 := by rw [hx1]; exact bulk_slice _ _
    have key : ∀ i, i < len → ∃ y : α, g y ≤ Rows.uptoBulk (D i) ∧ R y ∧ ∀ j u, (f y)[j]? = some u → w.cell? (a.add (i * fs.size + j)) = some u := by
      intro i him
      obtain ⟨cs', hc, ht'⟩ := hi i (by omega)
      rw [hC] at hc
      obtain ⟨ys, n', -, hy, hlen, hyl, hfd⟩ := DataW.trod_struct he ht'
      obtain ⟨_, hcl, hat⟩ := World.cells?_some hc
      rw [hC] at hlen
      have hd : D i = .agg (ys.map (·.1)) := congrArg (·.1) hy
      have hbi : Rows.uptoBulk (D i) = Rows.uptoBulkAll (ys.map (·.1)) + 1 := by rw [hd]; simp only [Rows.uptoBulk]
      have hpart : Rows.uptoBulk (D i) ≤ Rows.uptoBulkAll ((List.range len).map D) := bulk_part (List.mem_map.2 ⟨i, List.mem_range.2 him, rfl⟩)
      obtain ⟨y, h1, h2, h3⟩ := each cs' ys n' hlen (fun j fd hj => by
        obtain ⟨ho, hk⟩ := hone_of hone j fd hj
        have hjl : j < fs.size := (Array.getElem?_eq_some_iff.1 hj).1
        have hv : cs'[j]? = some (cs'[j]'(by omega)) := List.getElem?_eq_getElem (by omega)
        have h1 := hfd j fd hj
        rw [ho, hk] at h1
        have hone' : (cs'.drop j).take 1 = [cs'[j]'(by omega)] := by
          rw [List.drop_eq_getElem_cons (by omega)]
          rfl
        rw [hone'] at h1
        have hys : ys[j]? = some (ys[j]'(by omega)) := List.getElem?_eq_getElem (by omega)
        exact ⟨_, _, hv, List.getElem_mem (by omega), h1.trans hys⟩) (by omega)
      refine ⟨y, by omega, h2, fun j u hu => ?_⟩
      have hjl : j < fs.size := by
        have := (List.getElem?_eq_some_iff.1 hu).1
        rwa [hf] at this
      rw [h1] at hu
      rw [← Go.Deep.add_add, hat j hjl]
      exact hu
    obtain ⟨l, hl1, hl2⟩ := list_of _ len key
    subst hl1
    have hsum := sum_bulk g D l (fun i x hx => (hl2 i x hx).1) l.length (Nat.le_refl _)
    rw [List.take_length] at hsum
    have hlb := bulk_len ((List.range l.length).map D)
    simp only [List.length_map, List.length_range] at hlb
    refine ⟨some a, l, m, rfl, hl, fun j u hu => ?_, fun y hy => ?_, by omega, by omega⟩
    · obtain ⟨i, y, k, h1, rfl, h3⟩ := flatMap_get f fs.size l hf hu
      have hcell := (hl2 i y h1).2.2 k u h3
      have hkl : k < fs.size := by
        have := (List.getElem?_eq_some_iff.1 h3).1
        rwa [hf] at this
      have hil := (List.getElem?_eq_some_iff.1 h1).1
      obtain ⟨y0, hy0⟩ := get_of_lt l (i := 0) (by omega)
      have hu0 : (f y0)[0]? = some ((f y0)[0]'(by rw [hf]; omega)) := List.getElem?_eq_getElem _
      have hcell0 := (hl2 0 y0 hy0).2.2 0 _ hu0
      rw [Nat.zero_mul] at hcell0
      have h0 := spot_none hcell0
      obtain ⟨b, off, spot⟩ := a
      simp at h0
      subst h0
      exact ⟨b, off, rfl, by rw [Addr.add_lit] at hcell; exact hcell⟩
    · obtain ⟨i, hi⟩ := List.mem_iff_getElem?.1 hy
      exact (hl2 i y hi).2.1
theorem open_bytesB {H : Type} {enc : TypeId × Value → H} {P : Program} {W : World} {base : Nat} {held : Bool} {t e : TypeId} {v : Value} {x : DataW H × List MemPlace} {n : Nat}
    (hu : P.underlying t = some (.slice e)) (he : P.underlying e = some (.int .u8)) (hc : P.cellsOf e = 1) (h : DataW.trod enc P W base (fun _ => true) held n t [v] = some x) :
    ∃ (A : Option Addr) (l : List UInt8) (c : Nat), v = .slice A l.length c ∧ Bytes W A l ∧ l.length ≤ c := by
  rcases open_ints hu he hc h with ⟨hn, -⟩ | ⟨a, len, cap, zs, hcs, _, hl, hm, hz, _, hcell, hwz⟩
  · obtain rfl : v = .slice none 0 0 := by simpa using hn
    exact ⟨none, [], 0, rfl, Cells.nil _ _, Nat.le_refl _⟩
  · obtain rfl : v = .slice (some a) len cap := by simpa using hcs
    have hr : IsRow .u8 W (some a) len cap zs := .inr ⟨_, rfl, hl, hm, by simpa using hz, hcell, hwz⟩
    obtain ⟨l, e1, c1, -, s1⟩ := hr.bytes
    subst e1
    exact ⟨some a, l, cap, rfl, s1, c1⟩
theorem open_intsB {H : Type} {enc : TypeId × Value → H} {P : Program} {W : World} {base : Nat} {held : Bool} {t e : TypeId} {v : Value} {x : DataW H × List MemPlace} {n : Nat}
    (hu : P.underlying t = some (.slice e)) (he : P.underlying e = some (.int .i64)) (hc : P.cellsOf e = 1) (h : DataW.trod enc P W base (fun _ => true) held n t [v] = some x) :
    ∃ (A : Option Addr) (l : List Int) (c : Nat), v = .slice A l.length c ∧ Ints W A l ∧ l.length ≤ Rows.uptoBulk x.1 := by
  rcases open_ints hu he hc h with ⟨hn, -⟩ | ⟨a, len, cap, zs, hcs, _, hl, hm, hz, hx, hcell, hwz⟩
  · obtain rfl : v = .slice none 0 0 := by simpa using hn
    exact ⟨none, [], 0, rfl, Cells.nil _ _, by simp⟩
  · obtain rfl : v = .slice (some a) len cap := by simpa using hcs
    have hzc : zs.length = cap := by simpa using hz
    have hr : IsRow .i64 W (some a) len cap zs := .inr ⟨_, rfl, hl, hm, hzc, hcell, hwz⟩
    obtain ⟨l, e1, c1, -, s1, -⟩ := hr.ints
    subst e1
    refine ⟨some a, l, cap, rfl, s1, ?_⟩
    have hx1 : x.1 = .slice (lits .i64 (zs.take l.length)) (lits .i64 (zs.drop l.length)) := congrArg (·.1) hx
    have h1 := bulk_slice (lits (H := H) .i64 (zs.take l.length)) (lits .i64 (zs.drop l.length))
    have h2 := bulk_len (lits (H := H) .i64 (zs.take l.length))
    rw [hx1]
    simp only [lits, List.length_map, List.length_take] at h1 h2 ⊢
    omega
end Go.Proofs.Ytppbcdcmpcagdaa
/- The steps of the laws on drives, as they came in: of a bulk that is bounded. -/
namespace Go.Proofs.Ytppbcdcmpcagdaa
open Go.RowKit Go.CP Go.ChangeShapes Go.WideShapes Go.Deep

theorem list2 {cs : List Value} {a b : Value} (h : cs.length = 2) (h0 : cs[0]? = some a) (h1 : cs[1]? = some b) : [a, b] = cs := by
  match cs, h with
  | [p, q], _ =>
    simp at h0 h1
    rw [h0, h1]
theorem list4 {cs : List Value} {a b c d : Value} (h : cs.length = 4) (h0 : cs[0]? = some a) (h1 : cs[1]? = some b) (h2 : cs[2]? = some c) (h3 : cs[3]? = some d) : [a, b, c, d] = cs := by
  match cs, h with
  | [p, q, r, s], _ =>
    simp at h0 h1 h2 h3
    rw [h0, h1, h2, h3]
theorem open_writes {H : Type} {enc : TypeId × Value → H} {w : World} {base : Nat} {held : Bool} {n : Nat} {v : Value} {x : DataW H × List MemPlace} (h : DataW.trod enc Try.prog w base (fun _ => true) held n 149 [v] = some x) (hB : Rows.uptoBulk x.1 ≤ 1048576) :
    ∃ (A : Option Addr) (ws : List Wri) (c : Nat), v = .slice A ws.length c ∧ Wrs w A ws ∧ (∀ r ∈ ws, Bytes w r.a r.d ∧ r.d.length ≤ r.c) ∧ ws.length ≤ Rows.uptoBulk x.1 := by
  obtain ⟨A, ws, c, h1, -, h3, h4, -, h6⟩ := open_rows (α := Wri) (B := 1048576) Try.underlying149 Try.underlying136 (by kernel_rfl) (by kernel_rfl) h hB wcells (fun _ => rfl) (fun _ => 1) (fun r => Bytes w r.a r.d ∧ r.d.length ≤ r.c) (fun cs ys n hcl hfd _ => by
    obtain ⟨u0, y0, c0, -, t0⟩ := hfd 0 _ rfl
    obtain ⟨u1, y1, c1, -, t1⟩ := hfd 1 _ rfl
    obtain ⟨z, e0, -, -⟩ := DataW.trod_int Try.underlying3 t0
    obtain ⟨A, l, c, rfl, b1, b2⟩ := open_bytesB Try.underlying22 Try.underlying5 (by kernel_rfl) t1
    obtain rfl : u0 = .int .i64 z := by simpa using e0
    exact ⟨⟨z, A, l, c⟩, list2 hcl c0 c1, ⟨b1, b2⟩, by omega⟩)
  exact ⟨A, ws, c, h1, h3, h4, h6⟩
theorem sum_mono {α : Type} (f g : α → Nat) : ∀ l : List α, (∀ x ∈ l, f x ≤ g x) → (l.map f).sum ≤ (l.map g).sum
  | [], _ => Nat.le_refl _
  | x :: l, h => by
    have h1 := h x List.mem_cons_self
    have h2 := sum_mono f g l fun y hy => h y (List.mem_cons_of_mem _ hy)
    simp only [List.map_cons, List.sum_cons]
    omega
theorem room_le (s : Stp) : s.room ≤ s.ws.length := by
  unfold Stp.room
  split
  · omega
  · exact Nat.le_refl _
theorem open_steps {H : Type} {enc : TypeId × Value → H} {w : World} {base : Nat} {held : Bool} {n : Nat} {v : Value} {x : DataW H × List MemPlace} (h : DataW.trod enc Try.prog w base (fun _ => true) held n 145 [v] = some x) (hB : Rows.uptoBulk x.1 ≤ 1048576) :
    ∃ (A : Option Addr) (ss : List Stp) (c : Nat), v = .slice A ss.length c ∧ ss.length ≤ c ∧ StepsIn w A ss ∧ ss.length ≤ 140737488351232 := by
  obtain ⟨A, ss, c, h1, h2, h3, h4, h5, h6⟩ := open_rows (α := Stp) (B := 1048576) Try.underlying145 Try.underlying151 (by kernel_rfl) (by kernel_rfl) h hB Stp.cells (fun _ => rfl) (fun s => s.ws.length)
    (fun s => (Wrs w s.la s.ws ∧ ∀ r ∈ s.ws, Bytes w r.a r.d ∧ r.d.length ≤ r.c) ∧ (Ints w s.ka s.keep ∧ s.keep.length ≤ 140737488351232 ∧ s.ws.length ≤ 140737488351232) ∧ (-9223372036854775808 ≤ s.what ∧ s.what < 9223372036854775808) ∧ (-9223372036854775808 ≤ s.n ∧ s.n < 9223372036854775808)) (fun cs ys n hcl hfd hb => by
    obtain ⟨u0, y0, c0, -, t0⟩ := hfd 0 _ rfl
    obtain ⟨u1, y1, c1, -, t1⟩ := hfd 1 _ rfl
    obtain ⟨u2, y2, c2, m2, t2⟩ := hfd 2 _ rfl
    obtain ⟨u3, y3, c3, m3, t3⟩ := hfd 3 _ rfl
    have p2 : Rows.uptoBulk y2.1 ≤ Rows.uptoBulkAll (ys.map (·.1)) := bulk_part (List.mem_map.2 ⟨y2, m2, rfl⟩)
    have p3 : Rows.uptoBulk y3.1 ≤ Rows.uptoBulkAll (ys.map (·.1)) := bulk_part (List.mem_map.2 ⟨y3, m3, rfl⟩)
    obtain ⟨z0, e0, -, w0⟩ := DataW.trod_int Try.underlying3 t0
    obtain ⟨z1, e1, -, w1⟩ := DataW.trod_int Try.underlying3 t1
    obtain rfl : u0 = .int .i64 z0 := by simpa using e0
    obtain rfl : u1 = .int .i64 z1 := by simpa using e1
    obtain ⟨la, ws, cl, rfl, q1, q2, q3⟩ := open_writes t2 (by omega)
    obtain ⟨ka, keep, ck, rfl, k1, k2⟩ := open_intsB Try.underlying130 Try.underlying3 (by kernel_rfl) t3
    have l1 : keep.length ≤ 140737488351232 := by omega
    have l2 : ws.length ≤ 140737488351232 := by omega
    have l3 : ws.length ≤ Rows.uptoBulkAll (ys.map (·.1)) + 1 := by omega
    exact ⟨⟨z0, z1, la, ws, cl, ka, keep, ck⟩, list4 hcl c0 c1 c2 c3, ⟨⟨q1, q2⟩, ⟨k1, l1, l2⟩, wf_i64_iff w0, wf_i64_iff w1⟩, l3⟩)
  have hr := sum_mono Stp.room (fun s => s.ws.length) ss fun s _ => room_le s
  exact ⟨A, ss, c, h1, h2, ⟨h3, fun s hs => (h4 s hs).1, fun s hs => (h4 s hs).2.1, fun s hs => (h4 s hs).2.2, by omega⟩, by omega⟩
end Go.Proofs.Ytppbcdcmpcagdaa
/- Steps that came in, opened by the weights of what came in: slices of structs that hold slices. -/
namespace Go.Proofs.Ytppbcdcmpcagdaa
open Go.RowKit Go.CP Go.ChangeShapes Go.WideShapes Go.Deep

/-- Each slice of a datum is within the memory's reach. -/
def Fits {H : Type} (P : Program) (t : TypeId) (d : DataW H) : Prop := (d.weights P t).all (· ≤ reachBytes) = true
theorem fits_arg {H : Type} {P : Program} {ts : List TypeId} {ds : List (DataW H)} {j : Nat} {t : TypeId} {d : DataW H} (h : (DataW.weightsEach P ts ds).all (· ≤ reachBytes) = true) (ht : ts[j]? = some t) (hd : ds[j]? = some d) : Fits P t d := by
  unfold Fits
  rw [List.all_eq_true]
  exact fun n hn => List.all_eq_true.1 h n (DataW.weights_mem_each ht hd n hn)
theorem weights_mem_all {H : Type} {P : Program} {e : TypeId} : ∀ {l : List (DataW H)} {d : DataW H}, d ∈ l → ∀ n ∈ d.weights P e, n ∈ DataW.weightsAll P e l
  | x :: l, d, hd, n, hn => by
    simp only [DataW.weightsAll, List.mem_append]
    rcases List.mem_cons.1 hd with e | hd
    · subst e; exact .inl hn
    · exact .inr (weights_mem_all hd n hn)
theorem fits_slice {H : Type} {P : Program} {t e : TypeId} {a b : List (DataW H)} (hu : P.underlying t = some (.slice e)) (h : Fits P t (.slice a b)) : a.length * P.bytesOf e ≤ reachBytes ∧ ∀ d ∈ a, Fits P e d := by
  unfold Fits at h
  rw [List.all_eq_true] at h
  constructor
  · have := h ((a.length + b.length) * P.bytesOf e) (by simp [DataW.weights, hu])
    have h2 : (a.length + b.length) * P.bytesOf e ≤ reachBytes := by simpa using this
    exact Nat.le_trans (Nat.mul_le_mul_right _ (Nat.le_add_right _ _)) h2
  · intro d hd
    unfold Fits
    rw [List.all_eq_true]
    intro n hn
    refine h n ?_
    simp only [DataW.weights, hu, List.mem_cons, List.mem_append]
    exact .inr (.inl (weights_mem_all hd n hn))
theorem fits_agg {H : Type} {P : Program} {t : TypeId} {fs : Array Field} {parts : List (DataW H)} (hu : P.underlying t = some (.struct fs)) (h : Fits P t (.agg parts)) {j : Nat} {fd : Field} {d : DataW H} (hf : fs[j]? = some fd) (hd : parts[j]? = some d) : Fits P fd.type d := by
  unfold Fits at h ⊢
  rw [List.all_eq_true] at h ⊢
  intro n hn
  refine h n ?_
  simp only [DataW.weights, hu]
  exact DataW.weights_mem_each (j := j) (by rw [List.getElem?_map, Array.getElem?_toList, hf]; rfl) hd n hn
/-- A slice of structs of one-cell fields that came in, as a list. -/
theorem open_rowsF {H : Type} {enc : TypeId × Value → H} {P : Program} {w : World} {base : Nat} {held : Bool} {t e : TypeId} {fs : Array Field} {fuel : Nat} {v : Value} {x : DataW H × List MemPlace}
    (ht : P.underlying t = some (.slice e)) (he : P.underlying e = some (.struct fs)) (hone : oneCellFields P fs = true) (hC : P.cellsOf e = fs.size)
    (h : DataW.trod enc P w base (fun _ => true) held fuel t [v] = some x) (hB : Fits P t x.1) {α : Type} (f : α → List Value) (hf : ∀ y, (f y).length = fs.size) (R : α → Prop)
    (each : ∀ (cs : List Value) (n : Nat), cs.length = fs.size → (∀ (j : Nat) (fd : Field), fs[j]? = some fd → ∃ u y, cs[j]? = some u ∧ Fits P fd.type y.1 ∧ DataW.trod enc P w base (fun _ => true) held n fd.type [u] = some y) → ∃ a : α, f a = cs ∧ R a) :
    ∃ (A : Option Addr) (l : List α) (c : Nat), v = .slice A l.length c ∧ l.length ≤ c ∧ Cells w A (l.flatMap f) ∧ (∀ a ∈ l, R a) ∧ l.length * P.bytesOf e ≤ reachBytes := by
  rcases open_slice ht h with ⟨hcs, -⟩ | ⟨a, len, cap, m, n, D, Pl, hcs, -, hl, -, hmm, hx, hi⟩
  · obtain rfl : v = .slice none 0 0 := by simpa using hcs
    exact ⟨none, [], 0, rfl, Nat.le_refl _, Cells.nil _ _, fun a ha => by simp at ha, by simp⟩
  · obtain rfl : v = .slice (some a) len cap := by simpa using hcs
    rw [if_pos rfl] at hmm
    subst hmm
    have hx1 : x.1 = .slice ((List.range len).map D) ((List.range (m - len)).map fun j => D (len + j)) := congrArg (·.1) hx
    rw [hx1] at hB
    obtain ⟨hbs, hbe⟩ := fits_slice ht hB
    have key : ∀ i, i < len → ∃ y : α, R y ∧ ∀ j u, (f y)[j]? = some u → w.cell? (a.add (i * fs.size + j)) = some u := by
      intro i him
      obtain ⟨cs', hc, ht'⟩ := hi i (by omega)
      rw [hC] at hc
      obtain ⟨ys, n', -, hy, hlen, hyl, hfd⟩ := DataW.trod_struct he ht'
      obtain ⟨_, hcl, hat⟩ := World.cells?_some hc
      rw [hC] at hlen
      have hd : D i = .agg (ys.map (·.1)) := congrArg (·.1) hy
      have hfi : Fits P e (.agg (ys.map (·.1))) := by rw [← hd]; exact hbe (D i) (List.mem_map.2 ⟨i, List.mem_range.2 him, rfl⟩)
      obtain ⟨y, h1, h2⟩ := each cs' n' hlen (fun j fd hj => by
        obtain ⟨ho, hk⟩ := hone_of hone j fd hj
        have hjl : j < fs.size := (Array.getElem?_eq_some_iff.1 hj).1
        have hv : cs'[j]? = some (cs'[j]'(by omega)) := List.getElem?_eq_getElem (by omega)
        have h1 := hfd j fd hj
        rw [ho, hk] at h1
        have hone' : (cs'.drop j).take 1 = [cs'[j]'(by omega)] := by
          rw [List.drop_eq_getElem_cons (by omega)]
          rfl
        rw [hone'] at h1
        have hys : ys[j]? = some (ys[j]'(by omega)) := List.getElem?_eq_getElem (by omega)
        exact ⟨_, _, hv, fits_agg he hfi hj (by rw [List.getElem?_map, hys]; rfl), h1.trans hys⟩)
      refine ⟨y, h2, fun j u hu => ?_⟩
      have hjl : j < fs.size := by
        have := (List.getElem?_eq_some_iff.1 hu).1
        rwa [hf] at this
      rw [h1] at hu
      rw [← Go.Deep.add_add, hat j hjl]
      exact hu
    obtain ⟨l, hl1, hl2⟩ := list_of _ len key
    subst hl1
    rw [List.length_map, List.length_range] at hbs
    refine ⟨some a, l, m, rfl, hl, fun j u hu => ?_, fun y hy => ?_, hbs⟩
    · obtain ⟨i, y, k, h1, rfl, h3⟩ := flatMap_get f fs.size l hf hu
      have hcell := (hl2 i y h1).2 k u h3
      have hkl : k < fs.size := by
        have := (List.getElem?_eq_some_iff.1 h3).1
        rwa [hf] at this
      have hil := (List.getElem?_eq_some_iff.1 h1).1
      obtain ⟨y0, hy0⟩ := get_of_lt l (i := 0) (by omega)
      have hu0 : (f y0)[0]? = some ((f y0)[0]'(by rw [hf]; omega)) := List.getElem?_eq_getElem _
      have hcell0 := (hl2 0 y0 hy0).2 0 _ hu0
      rw [Nat.zero_mul] at hcell0
      have h0 := spot_none hcell0
      obtain ⟨b, off, spot⟩ := a
      simp at h0
      subst h0
      exact ⟨b, off, rfl, by rw [Addr.add_lit] at hcell; exact hcell⟩
    · obtain ⟨i, hi⟩ := List.mem_iff_getElem?.1 hy
      exact (hl2 i y hi).1
theorem open_intsF {H : Type} {enc : TypeId × Value → H} {P : Program} {W : World} {base : Nat} {held : Bool} {t e : TypeId} {v : Value} {x : DataW H × List MemPlace} {n : Nat}
    (hu : P.underlying t = some (.slice e)) (he : P.underlying e = some (.int .i64)) (hc : P.cellsOf e = 1) (hB : P.bytesOf e = 8) (h : DataW.trod enc P W base (fun _ => true) held n t [v] = some x) (hf : Fits P t x.1) :
    ∃ (A : Option Addr) (l : List Int) (c : Nat), v = .slice A l.length c ∧ l.length ≤ c ∧ Ints W A l ∧ l.length ≤ 17592186043904 ∧ ∀ n ∈ l, -9223372036854775808 ≤ n ∧ n < 9223372036854775808 := by
  rcases open_ints hu he hc h with ⟨hn, -⟩ | ⟨a, len, cap, zs, hcs, _, hl, hm, hz, hx, hcell, hwz⟩
  · obtain rfl : v = .slice none 0 0 := by simpa using hn
    exact ⟨none, [], 0, rfl, Nat.le_refl _, Cells.nil _ _, by simp, fun n hn => by simp at hn⟩
  · obtain rfl : v = .slice (some a) len cap := by simpa using hcs
    have hzc : zs.length = cap := by simpa using hz
    have hr : IsRow .i64 W (some a) len cap zs := .inr ⟨_, rfl, hl, hm, hzc, hcell, hwz⟩
    obtain ⟨l, e1, c1, -, s1, s2⟩ := hr.ints
    subst e1
    have hx1 : x.1 = .slice (lits .i64 (zs.take l.length)) (lits .i64 (zs.drop l.length)) := congrArg (·.1) hx
    rw [hx1] at hf
    have h1 := (fits_slice hu hf).1
    rw [hB] at h1
    have hb : reachBytes = 140737488351232 := by decide
    refine ⟨some a, l, cap, rfl, c1, s1, ?_, s2⟩
    simp only [lits, List.length_map, List.length_take] at h1
    omega
theorem open_bytesF {H : Type} {enc : TypeId × Value → H} {P : Program} {W : World} {base : Nat} {held : Bool} {t e : TypeId} {v : Value} {x : DataW H × List MemPlace} {n : Nat}
    (hu : P.underlying t = some (.slice e)) (he : P.underlying e = some (.int .u8)) (hc : P.cellsOf e = 1) (hB : P.bytesOf e = 1) (h : DataW.trod enc P W base (fun _ => true) held n t [v] = some x) (hf : Fits P t x.1) :
    ∃ (A : Option Addr) (l : List UInt8) (c : Nat), v = .slice A l.length c ∧ l.length ≤ c ∧ Bytes W A l ∧ l.length ≤ 140737488351232 := by
  rcases open_ints hu he hc h with ⟨hn, -⟩ | ⟨a, len, cap, zs, hcs, _, hl, hm, hz, hx, hcell, hwz⟩
  · obtain rfl : v = .slice none 0 0 := by simpa using hn
    exact ⟨none, [], 0, rfl, Nat.le_refl _, Cells.nil _ _, by simp⟩
  · obtain rfl : v = .slice (some a) len cap := by simpa using hcs
    have hzc : zs.length = cap := by simpa using hz
    have hr : IsRow .u8 W (some a) len cap zs := .inr ⟨_, rfl, hl, hm, hzc, hcell, hwz⟩
    obtain ⟨l, e1, c1, -, s1⟩ := hr.bytes
    subst e1
    have hx1 : x.1 = .slice (lits .u8 (zs.take l.length)) (lits .u8 (zs.drop l.length)) := congrArg (·.1) hx
    rw [hx1] at hf
    have h1 := (fits_slice hu hf).1
    rw [hB] at h1
    have hb : reachBytes = 140737488351232 := by decide
    refine ⟨some a, l, cap, rfl, c1, s1, ?_⟩
    simp only [lits, List.length_map, List.length_take] at h1
    omega
theorem open_writesF {H : Type} {enc : TypeId × Value → H} {w : World} {base : Nat} {held : Bool} {n : Nat} {v : Value} {x : DataW H × List MemPlace} (h : DataW.trod enc Try.prog w base (fun _ => true) held n 149 [v] = some x) (hB : Fits Try.prog 149 x.1) :
    ∃ (A : Option Addr) (ws : List Wri) (c : Nat), v = .slice A ws.length c ∧ Wrs w A ws ∧ (∀ r ∈ ws, Bytes w r.a r.d ∧ r.d.length ≤ r.c) ∧ ws.length ≤ 4398046510976 := by
  obtain ⟨A, ws, c, h1, -, h3, h4, h6⟩ := open_rowsF (α := Wri) Try.underlying149 Try.underlying136 (by kernel_rfl) (by kernel_rfl) h hB wcells (fun _ => rfl) (fun r => Bytes w r.a r.d ∧ r.d.length ≤ r.c) (fun cs n hcl hfd => by
    obtain ⟨u0, y0, c0, -, t0⟩ := hfd 0 _ rfl
    obtain ⟨u1, y1, c1, -, t1⟩ := hfd 1 _ rfl
    obtain ⟨z, e0, -, -⟩ := DataW.trod_int Try.underlying3 t0
    obtain ⟨A, l, c, rfl, b1, b2⟩ := open_bytesB Try.underlying22 Try.underlying5 (by kernel_rfl) t1
    obtain rfl : u0 = .int .i64 z := by simpa using e0
    exact ⟨⟨z, A, l, c⟩, list2 hcl c0 c1, ⟨b1, b2⟩⟩)
  rw [show Try.prog.bytesOf 136 = 32 from by kernel_rfl, show reachBytes = 140737488351232 from by decide] at h6
  exact ⟨A, ws, c, h1, h3, h4, by omega⟩
/-- Steps that came in, however many. -/
structure StepsF (W : World) (A : Option Addr) (ss : List Stp) : Prop where
  cells : Cells W A (ss.flatMap Stp.cells)
  rows : ∀ s ∈ ss, Wrs W s.la s.ws ∧ ∀ r ∈ s.ws, Bytes W r.a r.d ∧ r.d.length ≤ r.c
  keeps : ∀ s ∈ ss, Ints W s.ka s.keep ∧ s.keep.length ≤ 17592186043904 ∧ s.ws.length ≤ 4398046510976
  nums : ∀ s ∈ ss, (-9223372036854775808 ≤ s.what ∧ s.what < 9223372036854775808) ∧ (-9223372036854775808 ≤ s.n ∧ s.n < 9223372036854775808)
theorem open_stepF {H : Type} {enc : TypeId × Value → H} {w : World} {base : Nat} {held : Bool} {fs : Array Field} (cs : List Value) (n : Nat) (hs : fs.map (·.type) = #[3, 3, 149, 130]) (hcl : cs.length = fs.size)
    (hfd : ∀ (j : Nat) (fd : Field), fs[j]? = some fd → ∃ (u : Value) (y : DataW H × List MemPlace), cs[j]? = some u ∧ Fits Try.prog fd.type y.1 ∧ DataW.trod enc Try.prog w base (fun _ => true) held n fd.type [u] = some y) :
    ∃ s : Stp, s.cells = cs ∧ (Wrs w s.la s.ws ∧ ∀ r ∈ s.ws, Bytes w r.a r.d ∧ r.d.length ≤ r.c) ∧ (Ints w s.ka s.keep ∧ s.keep.length ≤ 17592186043904 ∧ s.ws.length ≤ 4398046510976) ∧ (-9223372036854775808 ≤ s.what ∧ s.what < 9223372036854775808) ∧ (-9223372036854775808 ≤ s.n ∧ s.n < 9223372036854775808) := by
  have hz : fs.size = 4 := by have := congrArg Array.size hs; simpa using this
  have hf : ∀ j (hj : j < 4), ∃ u y, cs[j]? = some u ∧ Fits Try.prog (#[3, 3, 149, 130] : Array TypeId)[j] y.1 ∧ DataW.trod enc Try.prog w base (fun _ => true) held n (#[3, 3, 149, 130] : Array TypeId)[j] [u] = some y := fun j hj => by
    obtain ⟨u, y, a, b, c⟩ := hfd j fs[j] (Array.getElem?_eq_getElem (by omega))
    have e : fs[j].type = (#[3, 3, 149, 130] : Array TypeId)[j] := by
      have := Array.getElem_map (f := fun x : Field => x.type) (xs := fs) (i := j) (by rw [Array.size_map]; omega)
      rw [← this]
      simp only [hs]
    rw [e] at b c
    exact ⟨u, y, a, b, c⟩
  obtain ⟨u0, y0, c0, -, t0⟩ := hf 0 (by omega)
  obtain ⟨u1, y1, c1, -, t1⟩ := hf 1 (by omega)
  obtain ⟨u2, y2, c2, f2, t2⟩ := hf 2 (by omega)
  obtain ⟨u3, y3, c3, f3, t3⟩ := hf 3 (by omega)
  obtain ⟨z0, e0, -, w0⟩ := DataW.trod_int Try.underlying3 t0
  obtain ⟨z1, e1, -, w1⟩ := DataW.trod_int Try.underlying3 t1
  obtain rfl : u0 = .int .i64 z0 := by simpa using e0
  obtain rfl : u1 = .int .i64 z1 := by simpa using e1
  obtain ⟨la, ws, cl, rfl, q1, q2, q3⟩ := open_writesF t2 f2
  obtain ⟨ka, keep, ck, rfl, -, k1, k2, -⟩ := open_intsF Try.underlying130 Try.underlying3 (by kernel_rfl) (by kernel_rfl) t3 f3
  exact ⟨⟨z0, z1, la, ws, cl, ka, keep, ck⟩, list4 (by omega) c0 c1 c2 c3, ⟨q1, q2⟩, ⟨k1, k2, q3⟩, wf_i64_iff w0, wf_i64_iff w1⟩
theorem open_stepsF {H : Type} {enc : TypeId × Value → H} {w : World} {base : Nat} {held : Bool} {n : Nat} {v : Value} {x : DataW H × List MemPlace} {t e : TypeId} {fs : Array Field} (ht : Try.prog.underlying t = some (.slice e)) (he : Try.prog.underlying e = some (.struct fs)) (hone : oneCellFields Try.prog fs = true) (hC : Try.prog.cellsOf e = fs.size) (hs : fs.map (·.type) = #[3, 3, 149, 130]) (hby : 64 ≤ Try.prog.bytesOf e)
    (h : DataW.trod enc Try.prog w base (fun _ => true) held n t [v] = some x) (hB : Fits Try.prog t x.1) :
    ∃ (A : Option Addr) (ss : List Stp) (c : Nat), v = .slice A ss.length c ∧ ss.length ≤ c ∧ StepsF w A ss ∧ ss.length ≤ 2199023255488 := by
  have hz : fs.size = 4 := by have := congrArg Array.size hs; simpa using this
  obtain ⟨A, ss, c, h1, h2, h3, h4, h6⟩ := open_rowsF (α := Stp) ht he hone hC h hB Stp.cells (fun _ => hz.symm ▸ rfl) (fun s => (Wrs w s.la s.ws ∧ ∀ r ∈ s.ws, Bytes w r.a r.d ∧ r.d.length ≤ r.c) ∧ (Ints w s.ka s.keep ∧ s.keep.length ≤ 17592186043904 ∧ s.ws.length ≤ 4398046510976) ∧ (-9223372036854775808 ≤ s.what ∧ s.what < 9223372036854775808) ∧ (-9223372036854775808 ≤ s.n ∧ s.n < 9223372036854775808))
    (fun cs n hcl hfd => open_stepF cs n hs hcl hfd)
  rw [show reachBytes = 140737488351232 from by decide] at h6
  have h7 := Nat.le_trans (Nat.mul_le_mul_left ss.length hby) h6
  exact ⟨A, ss, c, h1, h2, ⟨h3, fun s hs => (h4 s hs).1, fun s hs => (h4 s hs).2.1, fun s hs => (h4 s hs).2.2⟩, by omega⟩
end Go.Proofs.Ytppbcdcmpcagdaa
/- The law's game of commits and restarts: its moves. -/
namespace Go.Proofs.Ytppbcdcmpcagdaa
open Go.RowKit Go.CP

theorem Fill.under {w W W' : World} {K gb g s : Nat} {A : Option Addr} {c : Nat} {D : Drv} {i : Nat} {NA : Option Addr} {nc : Nat} (h : Fill w K gb g s A c D i NA nc W) (hb : Below W.heap.size W W') : Fill w K gb g s A c D i NA nc W' :=
  ⟨h.own.below hb (Nat.le_refl _), h.drv.below hb (Nat.le_refl _), h.blk.below hb, below_t h.below hb h.below.size, ⟨h.lts.1, h.lts.2.1, h.lts.2.2.1, h.lts.2.2.2.1, Nat.le_trans h.lts.2.2.2.2 hb.size⟩, h.ges, h.ne⟩
theorem get_new (W : World) (g s : Nat) (A : Option Addr) (c : Nat) (D : Drv) (h : DriveIs W g s A c D) (i : Int) (hf : Fit D 1000000) (x : Int) (l : List UInt8) (hx : D.get i = (x, l)) :
    Calls Try.prog 103 #[.pointer (some ⟨g, 0, none⟩), .int .i64 i] W fun e W' => ∃ P cp, e = .returned (.tuple #[.slice P l.length cp, .int .i64 x]) ∧ Hid (Bytes W' P l ∧ Below W.heap.size W W' ∧ ∀ k, blockOf P = some k → W.heap.size ≤ k) := by
  refine (drv_get W g s A c D h i hf.sure (Nat.le_trans hf.list (by decide))).mono ?_
  rw [hx]
  rintro e W' ⟨hb, ⟨e1, e2, b, rfl, hbk, e4⟩ | ⟨e1, e2, rfl⟩⟩
  · dsimp only at e1 e2 e4
    subst e1
    exact ⟨some ⟨b, 0, none⟩, 128, by rw [e2], hid ⟨block_bytes e4, hb, fun k hk => by simp [blockOf] at hk; omega⟩⟩
  · dsimp only at e1 e2
    subst e2
    exact ⟨none, 0, rfl, hid ⟨Cells.nil _ _, hb, fun k hk => by cases hk⟩⟩
/-- What came in is none of what was made since. -/
theorem gfar_base {w : World} {g s : Nat} {A : Option Addr} (hg : w.heap.size ≤ g) (hs : w.heap.size ≤ s) (hA : ∀ k, blockOf A = some k → w.heap.size ≤ k) {X : Option Addr} {xs : List Value} (hc : Cells w X xs) (h0 : 0 < xs.length) : Far X A g s := fun k hk => by
  have := Cells.lt hc h0 k hk
  exact ⟨by omega, by omega, fun e => by have := hA k e; omega⟩
theorem StepsF.gfeed {w W : World} {LA A : Option Addr} {ss : List Stp} {g s : Nat} (h : StepsF w LA ss) (hb : Below w.heap.size w W) (hg : w.heap.size ≤ g) (hs : w.heap.size ≤ s) (hA : ∀ k, blockOf A = some k → w.heap.size ≤ k) {st : Stp} (hst : st ∈ ss) :
    Feed W g s A st.la st.ws := by
  obtain ⟨r1, r2⟩ := h.rows st hst
  exact ⟨Cells.below r1 hb (Nat.le_refl _), fun r hr => Cells.below (r2 r hr).1 hb (Nat.le_refl _), fun h0 => gfar_base hg hs hA r1 (by rw [flatMap_len wcells 2 st.ws fun _ _ => rfl]; omega), fun r hr h0 => gfar_base hg hs hA (r2 r hr).1 (by simpa using h0), fun r hr => (r2 r hr).2⟩
theorem StepsF.keepBlk {w : World} {LA : Option Addr} {ss : List Stp} (h : StepsF w LA ss) {st : Stp} (hst : st ∈ ss) : 0 < st.keep.length → ∀ k, blockOf st.ka = some k → k < w.heap.size := fun h0 k hk => Cells.lt (h.keeps st hst).1 (by simpa using h0) k hk
theorem gsteps_at {W : World} {A : Option Addr} {ss : List Stp} (h : Cells W A (ss.flatMap Stp.cells)) {i : Nat} {x : Stp} (hx : ss[i]? = some x) :
    ∃ b off, A = some ⟨b, off, none⟩ ∧ W.cell? ⟨b, off + i * 4, none⟩ = some (.int .i64 x.what) ∧ W.cell? ⟨b, off + i * 4 + 1, none⟩ = some (.int .i64 x.n) ∧ W.cell? ⟨b, off + i * 4 + 2, none⟩ = some (.slice x.la x.ws.length x.cl) ∧ W.cell? ⟨b, off + i * 4 + 3, none⟩ = some (.slice x.ka x.keep.length x.ck) := by
  obtain ⟨b, off, rfl, c0⟩ := h _ _ (flatMap_at Stp.cells 4 ss (fun _ _ => rfl) hx (j := 0) (v := .int .i64 x.what) rfl)
  obtain ⟨b1, o1, e1, c1⟩ := h _ _ (flatMap_at Stp.cells 4 ss (fun _ _ => rfl) hx (j := 1) (v := .int .i64 x.n) rfl)
  obtain ⟨b2, o2, e2, c2⟩ := h _ _ (flatMap_at Stp.cells 4 ss (fun _ _ => rfl) hx (j := 2) (v := .slice x.la x.ws.length x.cl) rfl)
  obtain ⟨b3, o3, e3, c3⟩ := h _ _ (flatMap_at Stp.cells 4 ss (fun _ _ => rfl) hx (j := 3) (v := .slice x.ka x.keep.length x.ck) rfl)
  cases e1
  cases e2
  cases e3
  exact ⟨b, off, rfl, by simpa using c0, by simpa [Nat.add_assoc] using c1, by simpa [Nat.add_assoc] using c2, by simpa [Nat.add_assoc] using c3⟩
section
variable {W W' : World} {base gb g s : Nat} {A : Option Addr} {c : Nat} {NA : Option Addr} {nc : Nat} {MA : Option Addr} {mc : Nat} {G : Game}
theorem GM.commit (h : GM W base gb g s A c NA nc MA mc G) (hf : Fit G.d 5000) (LA : Option Addr) (ws : List Wri) (cw : Nat) (hw : Feed W g s A LA ws) (hn : ws.length ≤ 10000000000000) {x : Int} {D' : Drv} (hr : G.d.commit (wl ws) = (x, D')) :
    Calls Try.prog 122 #[.pointer (some ⟨g, 0, none⟩), .slice LA ws.length cw] W fun e W' => e = .returned (.int .i64 x) ∧ ∃ A' c', Hid (GM W' base gb g s A' c' NA nc MA mc { G with d := D' } ∧ Drove W W' g s A A') := by
  refine (commit_any W g s A c G.d h.drv hf LA ws cw hw hn).mono ?_
  rw [hr]
  rintro e W' ⟨h1, A', c', h2, h3⟩
  exact ⟨h1, A', c', hid ⟨h.drove h2 h3, h3⟩⟩
end
section
variable {W W' : World} {base gb g s : Nat} {A : Option Addr} {c : Nat} {NA : Option Addr} {nc : Nat} {MA : Option Addr} {mc : Nat} {G : Game}
theorem GM.newHeld (h : GM W base gb g s A c NA nc MA mc G) {X : Option Addr} {n cx : Nat} {xs : List Value} (ho : Go.CP.Own W' W.heap.size 9 1 X n cx xs) : HeldG W' X gb g s A := fun k hk => by
  obtain ⟨h1, h2⟩ := ho.block k hk
  have h3 := h.drv.lt
  have h4 := h.blk.lt
  exact ⟨h2, by omega, by omega, by omega, fun e => by have := h3.2.2 k e; omega⟩
theorem GM.putNow (h : GM W base gb g s A c NA nc MA mc G) (hb : Below W.heap.size W W') {X : Option Addr} {l : List (List UInt8)} {cx : Nat} (ho : Go.CP.Own W' W.heap.size 9 1 X l.length cx (l.map svR)) :
    GM (W'.setCell ⟨gb, 1, none⟩ (.slice X l.length cx)) base gb g s A c X cx MA mc { G with now := l } := (h.below hb).setNow cx ho.cells (h.newHeld ho)
theorem GM.putMay (h : GM W base gb g s A c NA nc MA mc G) (hb : Below W.heap.size W W') {X : Option Addr} {l : List (List UInt8)} {cx : Nat} (ho : Go.CP.Own W' W.heap.size 9 1 X l.length cx (l.map svR)) :
    GM (W'.setCell ⟨gb, 2, none⟩ (.slice X l.length cx)) base gb g s A c NA nc X cx { G with maybe := l } := (h.below hb).setMay cx ho.cells (h.newHeld ho)
theorem cell_other {k j : Nat} {v u : Value} (hne : gb ≠ k) (h : W.cell? ⟨k, j, none⟩ = some v) (i : Nat) : (W.setCell ⟨gb, i, none⟩ u).cell? ⟨k, j, none⟩ = some v :=
  (World.cell?_of_block (w := W) (Below.heap_setCell _ _ _ _ fun e => hne (show gb = k from (show k = gb from e).symm))).trans h
end
theorem wl_len (ws : List Wri) : (wl ws).length = ws.length := by simp [wl]
/-- The ways of a commit. -/
inductive Way (G : Game) (n : Nat) (ws : List Wt) : Int → Drv → Prop
  | bad (hw : ws ≠ []) (ht : targB n ws = false) : Way G n ws 1 G.d
  | idle (hw : ws = []) : Way G n ws 0 G.d
  | dead (hw : ws ≠ []) (ht : targB n ws = true) (ho : G.off = true) : Way G n ws 11 G.d
  | done (D' : Drv) (hw : ws ≠ []) (ht : targB n ws = true) (ho : G.off = false) (hk : Game.Ok { G with d := D', now := setAll G.now ws } n) : Way G n ws 0 D'
  | cut (D' : Drv) (hw : ws ≠ []) (ht : targB n ws = true) (ho : G.off = false) (hk : Game.Ok ⟨D', G.now, setAll G.now ws, true⟩ n) : Way G n ws 11 D'
theorem Game.Ok.way {G : Game} {n : Nat} (h : G.Ok n) (ws : List Wt) {x : Int} {D' : Drv} (hr : G.d.commit ws = (x, D')) : Way G n ws x D' := by
  by_cases hw : ws = []
  · rw [hw, Drv.commit, if_pos rfl] at hr
    cases hr
    exact .idle hw
  · cases ht : targB n ws with
    | false =>
      rw [commit_bad hw (by rw [h.sure]; exact ht)] at hr
      cases hr
      exact .bad hw ht
    | true =>
      cases ho : G.off with
      | true =>
        rw [commit_dead (h.cut ho).1 h.sure hw ht] at hr
        cases hr
        exact .dead hw ht ho
      | false =>
        rcases h.commit ho hw ht hr with ⟨rfl, hk⟩ | ⟨rfl, hk⟩
        · exact .done D' hw ht ho hk
        · exact .cut D' hw ht ho hk
theorem Game.Ok.fuse {G : Game} {n : Nat} (h : G.Ok n) (ho : G.off = false) {k : Int} (hk : k < 9223372036854775808) : Game.Ok { G with d := G.d.fuseTo k } n := by
  have hR := h.on ho
  exact ⟨h.big, h.now, ⟨by show (-1 : Int) ≤ max k (-1); omega, by show max k (-1) ≤ 9223372036854775807; omega, h.fit.list, h.fit.sure⟩, h.sure, fun _ => ⟨hR.dead, hR.list, hR.idle⟩, fun e => absurd (ho.symm.trans e) (by decide)⟩
theorem Game.Ok.same_put {G : Game} {n : Nat} (h : G.Ok n) : Game.Ok { G with now := setAll G.now [] } n := h
/-- A recovery of a game goes for nothing. -/
theorem Game.Ok.recover {G : Game} {n : Nat} (h : G.Ok n) : G.d.recover = (if G.off then 11 else 0, G.d) := by
  cases ho : G.off with
  | true => rw [recover_dead (h.cut ho).1]; rfl
  | false =>
    have := h.big
    rw [recover_rest (h.on ho) (by rw [h.now]; omega)]; rfl
theorem checkE_of {n : Nat} {ws : List Wri} : (wl ws ≠ [] ∧ targB n (wl ws) = false → checkE n (wl ws) = 1) ∧ (¬ (wl ws ≠ [] ∧ targB n (wl ws) = false) → checkE n (wl ws) = 0) :=
  ⟨fun h => if_pos h, fun h => if_neg h⟩
end Go.Proofs.Ytppbcdcmpcagdaa
