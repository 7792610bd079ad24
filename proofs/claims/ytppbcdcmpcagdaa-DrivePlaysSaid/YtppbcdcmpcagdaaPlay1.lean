/- A step that is played on a drive: contract of the law's play (copyholdlaw05). -/
import Derived.Test.YtppbcdcmpcagdaaDriveW
namespace Go.Proofs.Ytppbcdcmpcagdaa
open Go.RowKit Go.CP

theorem drewN_two (w : World) (a b : Nat) : (w.drewN a).drewN b = w.drewN (a + b) := by
  simp [World.drewN, Nat.add_assoc]
theorem below_some {B : Nat} {w w' : World} (h : ∃ n, w' = w.drewN n) : Below B w w' := by
  obtain ⟨n, rfl⟩ := h
  exact below_drewN (Below.refl _ _) n
theorem cv_drew {w : World} {A : Option Addr} {l : List UInt8} (c : Nat) (h : Bytes w A l) (n : Nat) : (convert 22 9 (.slice A l.length c)).run Try.prog (w.drewN n) = .ok (.string (bstr l)) (w.drewN n) := cv_bytes c (show Bytes (w.drewN n) A l from h)
/-- A row of an image: its cell and its text. -/
theorem Rows5.row {w : World} {b base q n c : Nat} {xs : List Value} {ls : List (List UInt8)} (ho : Go.CP.Own w b 22 1 (some ⟨q, 0, none⟩) n c xs) (h : Rows5 w base xs ls) {i : Nat} {l : List UInt8} (hl : ls[i]? = some l) :
    ∃ (P : Option Addr) (cp : Nat), w.cell? ⟨q, i, none⟩ = some (.slice P l.length cp) ∧ ∀ k, (convert 22 9 (.slice P l.length cp)).run Try.prog (w.drewN k) = .ok (.string (bstr l)) (w.drewN k) := by
  obtain ⟨P, cp, h1, h2⟩ := h.2 i l hl
  exact ⟨P, cp, own_cell ho h1, cv_drew cp h2.cells⟩
theorem Feed.moved {W W' : World} {A A' LA : Option Addr} {g s : Nat} {ws : List Wri} (h : Feed W g s A LA ws) (hd : Drove W W' g s A A') : Feed W' g s A' LA ws := by
  have hl : 0 < ws.length → 0 < (ws.flatMap wcells).length := fun h0 => by rw [flatMap_len wcells 2 ws fun _ _ => rfl]; omega
  have hl' : 0 < (ws.flatMap wcells).length → 0 < ws.length := fun h0 => by rw [flatMap_len wcells 2 ws fun _ _ => rfl] at h0; omega
  exact ⟨hd.cells' h.list fun h0 => h.far (hl' h0), fun x hx => hd.cells' (h.rows x hx) fun h0 => h.fars x hx (by simpa using h0), fun h0 => hd.far (h.far h0) (Cells.lt h.list (hl h0)),
    fun x hx h0 => hd.far (h.fars x hx h0) (Cells.lt (h.rows x hx) (by simpa using h0)), h.caps⟩
/-- A step, as memory has it. -/
structure Stp where
  what : Int
  n : Int
  la : Option Addr
  ws : List Wri
  cl : Nat
  ka : Option Addr
  keep : List Int
  ck : Nat
def Stp.cells (s : Stp) : List Value := [.int .i64 s.what, .int .i64 s.n, .slice s.la s.ws.length s.cl, .slice s.ka s.keep.length s.ck]
/-- What a step makes of a drive. -/
def Stp.play (s : Stp) (D : Drv) : Int × Drv :=
  if s.what = 0 then D.put (wl s.ws) else if s.what = 1 then D.flush else if s.what = 2 then (0, D.fuseTo s.n) else if s.what = 3 then (0, D.restart s.keep) else (0, D)
/-- A step that may be played: its rows are none of the drive's. -/
structure Fed (W : World) (g s : Nat) (A : Option Addr) (st : Stp) : Prop where
  list : Feed W g s A st.la st.ws
  keep : Ints W st.ka st.keep
  far : 0 < st.keep.length → Far st.ka A g s
  keepLen : st.keep.length ≤ 140737488351232
  listLen : st.ws.length ≤ 140737488351232
  num : -9223372036854775808 ≤ st.n ∧ st.n < 9223372036854775808
theorem Fed.drove {W W' : World} {A A' : Option Addr} {g s : Nat} {st : Stp} (h : Fed W g s A st) (hd : Drove W W' g s A A') : Fed W' g s A' st :=
  ⟨h.list.moved hd, hd.cells' h.keep fun h0 => h.far (by simpa using h0), fun h0 => hd.far (h.far h0) (Cells.lt h.keep (by simpa using h0)), h.keepLen, h.listLen, h.num⟩
/-- Put, with a bound for what is put alone. -/
theorem drv_put' (W : World) (g s : Nat) (A : Option Addr) (c : Nat) (D : Drv) (h : DriveIs W g s A c D) (hlo : -1 ≤ D.fuse) (hup : D.fuse ≤ 9223372036854775807)
    (LA : Option Addr) (ws : List Wri) (cw : Nat) (hf : Feed W g s A LA ws) (hl : ws.length ≤ 140737488351232) (hn : lenB (wl ws) = false → D.list.length + ws.length ≤ 1000000000000) :
    Calls Try.prog 100 #[.pointer (some ⟨g, 0, none⟩), .slice LA ws.length cw] W (RetDrv W g s A (D.put (wl ws))) := by
  unfold Drv.put
  split
  · next hd => exact put_dead W g s A c D h hd _
  · next hd =>
    have hd' : D.dead = false := by simpa using hd
    split
    · next ho => exact put_out W g s A c D h hd' LA ws cw hf.list hl false ho (fun h => by cases h)
    · next ho =>
      have ho' : outB D.sure.length (wl ws) = false := by simpa using ho
      split
      · next hlb => exact put_out W g s A c D h hd' LA ws cw hf.list hl true ho' (fun _ => hlb)
      · next hlb =>
        have hlb' : lenB (wl ws) = false := by simpa using hlb
        exact put_loop W g s A c D h hd' hlo hup LA ws cw hf.list hf.rows hf.far hf.fars hf.caps (hn hlb') ho' hlb'
set_option maxHeartbeats 2000000 in
set_option maxRecDepth 100000 in
theorem play_any (W : World) (g s : Nat) (A : Option Addr) (c : Nat) (D : Drv) (h : DriveIs W g s A c D) (hlo : -1 ≤ D.fuse) (hup : D.fuse ≤ 9223372036854775807) (hll : D.list.length ≤ 1000000000000)
    (st : Stp) (hf : Fed W g s A st) (hn : lenB (wl st.ws) = false → D.list.length + st.ws.length ≤ 1000000000000) :
    Calls Try.prog 114 #[.pointer (some ⟨g, 0, none⟩), .agg #[.int .i64 st.what, .int .i64 st.n, .slice st.la st.ws.length st.cl, .slice st.ka st.keep.length st.ck]] W (RetDrv W g s A (st.play D)) := by
  obtain ⟨what, n, la, ws, cl, ka, keep, ck⟩ := st
  have hb : Below W.heap.size W (W.alloc (.cells #[.int .i64 what, .int .i64 n, .slice la ws.length cl, .slice ka keep.length ck] 151)) := (Below.refl _ _).alloc (Nat.le_refl _) _
  have h1 := h.below hb (Nat.le_refl _)
  have hf1 := hf.drove (Drove.of_below hb)
  dsimp only at hf1 hn
  obtain ⟨nl, nu⟩ := hf.num
  dsimp only at nl nu
  have HB := hid hb
  by_cases w0 : what = 0
  · subst w0
    have HP := hid (drv_put' _ g s A c D h1 hlo hup la ws cl hf1.list hf1.listLen hn)
    clear h h1 hf hf1 hb hn hlo hup hll
    go_enter Try.func114, Try.ntmps114
    go_wp2_with fail
    refine HP.out.mono ?_
    rintro e w' k
    have k' := RetDrv.from HB.out k
    obtain ⟨rfl, k2⟩ := k'
    clear HP k
    go_wp2_with fail
    go_ret
    exact ⟨rfl, k2⟩
  · by_cases w1 : what = 1
    · subst w1
      have HP := hid (drv_flush _ g s A c D h1 hlo hup hll)
      clear h h1 hf hf1 hb hn hlo hup hll
      go_enter Try.func114, Try.ntmps114
      go_wp2_with fail
      refine HP.out.mono ?_
      rintro e w' k
      have k' := RetDrv.from HB.out k
      obtain ⟨rfl, k2⟩ := k'
      clear HP k
      go_wp2_with fail
      go_ret
      exact ⟨rfl, k2⟩
    · by_cases w2 : what = 2
      · subst w2
        have HP := hid (fuse_drive _ g s A c D n h1)
        clear h h1 hf hf1 hb hn hlo hup hll
        go_enter Try.func114, Try.ntmps114
        go_wp2_with fail
        refine HP.out.mono ?_
        rintro e w' ⟨rfl, hd', hv'⟩
        have HK := hid (And.intro hd' ((Drove.of_below HB.out).trans hv'))
        clear HP hd' hv'
        go_wp2_with fail
        go_ret
        exact ⟨rfl, A, c, HK.out.1, HK.out.2⟩
      · by_cases w3 : what = 3
        · subst w3
          have HP := hid (drv_restart _ g s A c D h1 hll ka keep ck hf1.keep hf1.far hf1.keepLen)
          clear h h1 hf hf1 hb hn hlo hup hll
          go_enter Try.func114, Try.ntmps114
          go_wp2_with fail
          refine HP.out.mono ?_
          rintro e w' ⟨rfl, hd', hv'⟩
          have HK := hid (And.intro hd' ((Drove.of_below HB.out).trans hv'))
          clear HP hd' hv'
          go_wp2_with fail
          go_ret
          exact ⟨rfl, none, 0, HK.out.1, HK.out.2⟩
        · have HK := hid h1
          have q0 : (what == 0) = false := by simpa using w0
          have q1 : (what == 1) = false := by simpa using w1
          have q2 : (what == 2) = false := by simpa using w2
          have q3 : (what == 3) = false := by simpa using w3
          have hpl : Hid (Stp.play ⟨what, n, la, ws, cl, ka, keep, ck⟩ D = (0, D)) := hid (by simp [Stp.play, w0, w1, w2, w3])
          clear h h1 hf hf1 hb hn hlo hup hll
          go_enter Try.func114, Try.ntmps114
          go_wp2_with fail
          go_ret
          rw [hpl.out]
          exact ⟨rfl, A, c, HK.out, Drove.of_below HB.out⟩
end Go.Proofs.Ytppbcdcmpcagdaa
