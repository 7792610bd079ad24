/- A drive and the document's drive, side by side: a step on both, one behind the other. -/
import Derived.Test.YtppbcdcmpcagdaaRef7
import Derived.Test.YtppbcdcmpcagdaaOpenF
namespace Go.Proofs.Ytppbcdcmpcagdaa
open Go.RowKit Go.CP

theorem RIs.other {W W' : World} {base g s r c : Nat} {A A2 B : Option Addr} {R : RDrv} (h : RIs W base r B c R) (hv : Drove W W' g s A A2) (ap : ApartD g s A r r B) : RIs W' base r B c R ∧ ApartD g s A2 r r B := by
  have hlt := h.1.facts.2.2.2.2.2
  obtain ⟨h1, h2, h3, h4⟩ := h
  obtain ⟨⟨a1, -, a3⟩, ⟨b1, -, b3⟩, k⟩ := ap
  have hbB : ∀ i, blockOf B = some i → i < W.heap.size := fun i hi => (h2.block i hi).2
  refine ⟨⟨(hv.2.1 r hlt a1.symm b1.symm (fun e => (k r e).1 rfl)).trans h1, own_of_block h2 fun i hi => hv.2.1 i (hbB i hi) (fun e => a3 (by rw [hi, e])) (fun e => b3 (by rw [hi, e])) (fun e => (k i e).2.2 hi), h3, h4⟩, ⟨a1, a1, a3⟩, ⟨b1, b1, b3⟩, fun i hi => ?_⟩
  rcases hv.2.2 i hi with e | e
  · exact k i e
  · exact ⟨by omega, by omega, fun e2 => by have := hbB i e2; omega⟩
theorem DriveIs.aside {W W' : World} {g s r c : Nat} {A B B2 : Option Addr} {D : Drv} (h : DriveIs W g s A c D) (hv : Drove W W' r r B B2) (ap : ApartD g s A r r B) : DriveIs W' g s A c D ∧ ApartD g s A r r B2 := by
  have hl := h.lt
  obtain ⟨a, b, k⟩ := ap
  refine ⟨h.other hv a b k, ⟨a.1, a.1, fun e => ?_⟩, ⟨b.1, b.1, fun e => ?_⟩, fun i hi => ⟨(k i hi).1, (k i hi).1, fun e => ?_⟩⟩
  · rcases hv.2.2 _ e with e | e
    · exact a.2.2 e
    · omega
  · rcases hv.2.2 _ e with e | e
    · exact b.2.2 e
    · omega
  · rcases hv.2.2 _ e with e | e
    · exact (k i hi).2.2 e
    · have := hl.2.2 i hi
      omega
/-- The document's numbers keep their bounds. -/
structure RGd (R : RDrv) (n N : Nat) : Prop where
  n : R.n = n
  lo : -1 ≤ R.fuse
  up : R.fuse ≤ 9223372036854775807
  list : R.list.length ≤ N
theorem rputGo_gd : ∀ (ws : List (Int × List UInt8)) (R : RDrv) (n N : Nat), RGd R n N → RGd (rputGo R ws).2 n (N + ws.length)
  | [], R, n, N, h => h
  | x :: ws, R, n, N, h => by
    rw [rputGo]
    split
    · exact ⟨h.n, h.lo, h.up, by have := h.list; show R.list.length ≤ _; simp; omega⟩
    · have hf := rless_fuse h.lo h.up
      have := rputGo_gd ws { R.less with list := R.list ++ [(x.1, x.2, false)] } n (N + 1) ⟨h.n, hf.1, hf.2, by have := h.list; simp; omega⟩
      exact ⟨this.n, this.lo, this.up, by have := this.list; simp at this ⊢; omega⟩
theorem RGd.put {R : RDrv} {n N : Nat} (h : RGd R n N) (ws : List (Int × List UInt8)) : RGd (R.put ws).2 n (N + ws.length) := by
  have h' : RGd R n (N + ws.length) := ⟨h.n, h.lo, h.up, Nat.le_trans h.list (Nat.le_add_right _ _)⟩
  unfold RDrv.put
  split
  · exact h'
  · split
    · exact h'
    · split
      · exact h'
      · exact rputGo_gd ws R n N h
theorem RGd.flush {R : RDrv} {n N : Nat} (h : RGd R n N) : RGd R.flush.2 n N := by
  unfold RDrv.flush
  split
  · exact h
  · split
    · exact ⟨h.n, h.lo, h.up, h.list⟩
    · have hf := rless_fuse h.lo h.up
      exact ⟨h.n, hf.1, hf.2, by have := h.list; simpa [sureAll] using this⟩
theorem RGd.fuseTo {R : RDrv} {n N : Nat} (h : RGd R n N) {z : Int} (hz : z < 9223372036854775808) : RGd (R.fuseTo z) n N := by
  refine ⟨h.n, ?_, ?_, h.list⟩
  · simp only [RDrv.fuseTo]; split <;> omega
  · simp only [RDrv.fuseTo]; split <;> omega
theorem keepR_len (keep : List Int) : ∀ (l : List Don) (k : Nat), (keepR keep k l).length ≤ l.length
  | [], _ => Nat.le_refl _
  | x :: l, k => by
    have h1 := keepR_len keep l k
    have h2 := keepR_len keep l (k + 1)
    rw [keepR]
    split
    · simp; omega
    · split
      · simp; omega
      · simp; omega
theorem RGd.restart {R : RDrv} {n N : Nat} (h : RGd R n N) (keep : List Int) : RGd (R.restart keep) n N := by
  refine ⟨h.n, by show (-1 : Int) ≤ -1; decide, by show (-1 : Int) ≤ 9223372036854775807; decide, ?_⟩
  have := keepR_len keep R.list 0
  have := h.list
  show (keepR keep 0 R.list).length ≤ N
  omega
theorem Agree.lens {D : Drv} {R : RDrv} (h : Agree D R) : D.list.length ≤ R.list.length := by
  obtain ⟨S, h1, -, -⟩ := h.old
  rw [h1, List.length_append, unsure, List.length_map]
  omega

/-- The two drives, side by side, made behind a world. -/
def Pairs (w : World) (n N g s r : Nat) (W : World) : Prop :=
  ∃ A c D B cb R, DriveIs W g s A c D ∧ RIs W w.heap.size r B cb R ∧ ApartD g s A r r B ∧ Agree D R ∧ RGd R n N ∧ (w.heap.size ≤ g ∧ w.heap.size ≤ s ∧ ∀ k, blockOf A = some k → w.heap.size ≤ k) ∧ Below w.heap.size w W
/-- The drive has done a step; the document's is to do it. -/
def Mids (w : World) (n N g s r K : Nat) (f : RDrv → Int × RDrv) (x : Int) (W : World) : Prop :=
  ∃ A c D B cb R, DriveIs W g s A c D ∧ RIs W w.heap.size r B cb R ∧ ApartD g s A r r B ∧ (x = (f R).1 ∧ Agree D (f R).2) ∧ RGd R n N ∧ (w.heap.size ≤ g ∧ w.heap.size ≤ s ∧ ∀ k, blockOf A = some k → w.heap.size ≤ k) ∧ Below w.heap.size w W ∧ r < K ∧ ∀ k, blockOf B = some k → k < K
theorem Pairs.below {w W W' : World} {n N g s r : Nat} (h : Pairs w n N g s r W) (hb : Below W.heap.size W W') : Pairs w n N g s r W' := by
  obtain ⟨A, c, D, B, cb, R, h1, h2, h3, h4, h5, h6, h7⟩ := h
  have hr := h2.other (Drove.of_below (g := g) (s := s) (A := A) hb) h3
  exact ⟨A, c, D, B, cb, R, h1.below hb (Nat.le_refl _), hr.1, h3, h4, h5, h6, below_t h7 hb h7.size⟩
theorem Pairs.lt {w W : World} {n N g s r : Nat} (h : Pairs w n N g s r W) : g < W.heap.size ∧ s < W.heap.size ∧ r < W.heap.size := by
  obtain ⟨A, c, D, B, cb, R, h1, h2, -⟩ := h
  exact ⟨h1.lt.1, h1.lt.2.1, h2.1.facts.2.2.2.2.2⟩
theorem Pairs.mono {w W : World} {n N M g s r : Nat} (h : Pairs w n N g s r W) (hm : N ≤ M) : Pairs w n M g s r W := by
  obtain ⟨A, c, D, B, cb, R, h1, h2, h3, h4, h5, h6⟩ := h
  exact ⟨A, c, D, B, cb, R, h1, h2, h3, h4, ⟨h5.n, h5.lo, h5.up, Nat.le_trans h5.list hm⟩, h6⟩
/-- What stays of the blocks from K on. -/
def Keeps (K : Nat) (W W' : World) : Prop := ∀ k, K ≤ k → k < W.heap.size → W'.heap[k]? = W.heap[k]?
theorem Keeps.cell {K : Nat} {W W' : World} (h : Keeps K W W') {a : Addr} {v : Value} (hK : K ≤ a.block) (hc : W.cell? a = some v) : W'.cell? a = some v :=
  (World.cell?_of_block (h a.block hK (World.block_lt_of_cell? W a hc))).trans hc
/-- A step of the drive. -/
theorem drive_step {w W0 W : World} {n N g s r : Nat} (h : Pairs w n N g s r W0) (hb : Below W0.heap.size W0 W) (F : FuncId) (arg : Array Value) (fd : Drv → Int × Drv) (f : RDrv → Int × RDrv) (out : Int → Value)
    (hag : ∀ {D : Drv} {R : RDrv}, Agree D R → (fd D).1 = (f R).1 ∧ Agree (fd D).2 (f R).2)
    (hc : ∀ (A : Option Addr) (c : Nat) (D : Drv), DriveIs W g s A c D → (-1 ≤ D.fuse ∧ D.fuse ≤ 9223372036854775807) → D.list.length ≤ N → D.sure.length = n → (∀ k, blockOf A = some k → w.heap.size ≤ k) → Below w.heap.size w W →
      Calls Try.prog F arg W fun e W' => e = .returned (out (fd D).1) ∧ ∃ A' c', DriveIs W' g s A' c' (fd D).2 ∧ Drove W W' g s A A') :
    ∃ x : Int, Calls Try.prog F arg W fun e W' => e = .returned (out x) ∧ Mids w n N g s r W0.heap.size f x W' ∧ Keeps W0.heap.size W W' := by
  obtain ⟨A, c, D, B, cb, R, h1, h2, h3, h4, h5, h6, h7⟩ := h
  have hl := h1.lt
  have hd := h1.below hb (Nat.le_refl _)
  have hr := (h2.other (Drove.of_below (g := g) (s := s) (A := A) hb) h3).1
  have hbw := below_t h7 hb h7.size
  refine ⟨(fd D).1, (hc A c D hd ⟨h4.low, by rw [h4.fuse]; exact h5.up⟩ (Nat.le_trans h4.lens h5.list) (h4.n.trans h5.n) h6.2.2 hbw).mono ?_⟩
  rintro e W' ⟨he, A', c', hd', hv⟩
  obtain ⟨q1, q2⟩ := hr.other hv h3
  obtain ⟨e1, e2⟩ := hag h4
  refine ⟨he, ⟨A', c', (fd D).2, B, cb, R, hd', q1, q2, ⟨e1, e2⟩, h5, ⟨h6.1, h6.2.1, fun k hk => ?_⟩, hbw.trans (hv.below hbw.size h6.1 h6.2.1 h6.2.2), h2.1.facts.2.2.2.2.2, fun k hk => (h2.2.1.block k hk).2⟩, fun k hk hkl => hv.2.1 k hkl (by omega) (by omega) fun e => by have := hl.2.2 k e; omega⟩
  rcases hv.2.2 k hk with e | e
  · exact h6.2.2 k e
  · exact Nat.le_trans hbw.size e
/-- A step of the document's drive. -/
theorem ref_step {w W : World} {n N M g s r : Nat} {x : Int} {f : RDrv → Int × RDrv} {K : Nat} (h : Mids w n N g s r K f x W) (F : FuncId) (arg : Array Value) (out : Int → Value) (hg : ∀ {R : RDrv}, RGd R n N → RGd (f R).2 n M)
    (hc : ∀ (B : Option Addr) (cb : Nat) (R : RDrv), RIs W w.heap.size r B cb R → RGd R n N → Below w.heap.size w W →
      Calls Try.prog F arg W fun e W' => e = .returned (out (f R).1) ∧ ∃ B' cb', RIs W' w.heap.size r B' cb' (f R).2 ∧ Drove W W' r r B B') :
    Calls Try.prog F arg W fun e W' => e = .returned (out x) ∧ Pairs w n M g s r W' ∧ Keeps K W W' := by
  obtain ⟨A, c, D, B, cb, R, h1, h2, h3, ⟨h4, h5⟩, h6, h7, h8, h9, h10⟩ := h
  refine (hc B cb R h2 h6 h8).mono ?_
  rintro e W' ⟨he, B', cb', hr', hv⟩
  obtain ⟨q1, q2⟩ := h1.aside hv h3
  have hbB : ∀ k, blockOf B = some k → w.heap.size ≤ k := fun k hk => (h2.2.1.block k hk).1
  exact ⟨by rw [he, h4], ⟨A, c, D, B', cb', (f R).2, q1, hr', q2, h5, hg h6, h7, h8.trans (hv.below h8.size h2.2.2.1 h2.2.2.1 hbB)⟩, fun k hk hkl => hv.2.1 k hkl (by omega) (by omega) fun e => by have := h10 k e; omega⟩
/-- Steps that came in are none of what was made since. -/
theorem far_base {w : World} {g s : Nat} {A : Option Addr} (hg : w.heap.size ≤ g) (hs : w.heap.size ≤ s) (hA : ∀ k, blockOf A = some k → w.heap.size ≤ k) {X : Option Addr} {xs : List Value} (hc : Cells w X xs) (h0 : 0 < xs.length) : Far X A g s := fun k hk => by
  have := Cells.lt hc h0 k hk
  exact ⟨by omega, by omega, fun e => by have := hA k e; omega⟩
theorem StepsF.feed {w W : World} {LA A : Option Addr} {ss : List Stp} {g s : Nat} (h : StepsF w LA ss) (hb : Below w.heap.size w W) (hg : w.heap.size ≤ g) (hs : w.heap.size ≤ s) (hA : ∀ k, blockOf A = some k → w.heap.size ≤ k) {st : Stp} (hst : st ∈ ss) :
    Feed W g s A st.la st.ws ∧ Ints W st.ka st.keep ∧ (0 < st.keep.length → Far st.ka A g s) := by
  obtain ⟨r1, r2⟩ := h.rows st hst
  obtain ⟨k1, k2, k3⟩ := h.keeps st hst
  exact ⟨⟨Cells.below r1 hb (Nat.le_refl _), fun r hr => Cells.below (r2 r hr).1 hb (Nat.le_refl _), fun h0 => far_base hg hs hA r1 (by rw [flatMap_len wcells 2 st.ws fun _ _ => rfl]; omega), fun r hr h0 => far_base hg hs hA (r2 r hr).1 (by simpa using h0), fun r hr => (r2 r hr).2⟩, Cells.below k1 hb (Nat.le_refl _), fun h0 => far_base hg hs hA k1 (by simpa using h0)⟩
theorem ref_put (W : World) (base r : Nat) (A : Option Addr) (c : Nat) (R : RDrv) (h : RIs W base r A c R) (hlo : -1 ≤ R.fuse) (hup : R.fuse ≤ 9223372036854775807)
    (LA : Option Addr) (ws : List Wri) (cw : Nat) (hf : Feed W r r A LA ws) (hn : R.list.length + ws.length ≤ 1000000000) :
    Calls Try.prog 107 #[.pointer (some ⟨r, 0, none⟩), .slice LA ws.length cw] W (RetRef W base r A (R.put (wl ws))) := by
  cases hd : R.dead with
  | false => exact rput_loop W base r A c R h hd hlo hup LA ws cw hf hn
  | true =>
    have HR : Hid (R.put (wl ws) = (11, R)) := hid (by rw [RDrv.put, if_pos hd])
    have H := hid h
    obtain ⟨-, -, -, c3, -, -⟩ := h.1.facts
    rw [hd] at c3
    clear h hd
    go_enter Try.func107, Try.ntmps107
    go_wp2_with fail
    go_ret
    rw [HR.out]
    exact ⟨rfl, A, c, H.out, Drove.refl _ _ _ _⟩
section
variable {w W0 W : World} {n N g s r : Nat} {LA : Option Addr} {ss : List Stp} {st : Stp}
theorem put_both (hS : StepsF w LA ss) (hst : st ∈ ss) (h : Pairs w n N g s r W0) (hb : Below W0.heap.size W0 W) (hl : st.ws.length ≤ 40) (hN : N ≤ 100000) :
    ∃ x : Int, (Calls Try.prog 100 #[.pointer (some ⟨g, 0, none⟩), .slice st.la st.ws.length st.cl] W fun e W' => e = .returned (.int .i64 x) ∧ Mids w n N g s r W0.heap.size (fun R => R.put (wl st.ws)) x W' ∧ Keeps W0.heap.size W W') ∧
      ∀ W', Mids w n N g s r W0.heap.size (fun R => R.put (wl st.ws)) x W' → Calls Try.prog 107 #[.pointer (some ⟨r, 0, none⟩), .slice st.la st.ws.length st.cl] W' fun e W'' => e = .returned (.int .i64 x) ∧ Pairs w n (N + 40) g s r W'' ∧ Keeps W0.heap.size W' W'' := by
  obtain ⟨hg, hs⟩ : w.heap.size ≤ g ∧ w.heap.size ≤ s := by
    obtain ⟨A, c, D, B, cb, R, -, -, -, -, -, h6, -⟩ := h
    exact ⟨h6.1, h6.2.1⟩
  obtain ⟨x, hx⟩ := drive_step h hb 100 #[.pointer (some ⟨g, 0, none⟩), .slice st.la st.ws.length st.cl] (fun D => D.put (wl st.ws)) (fun R => R.put (wl st.ws)) (.int .i64) (fun ha => ha.put _) (fun A c D hd hf hll _ hA hbw =>
    drv_put W g s A c D hd hf.1 hf.2 st.la st.ws st.cl (hS.feed hbw hg hs hA hst).1 (by omega))
  refine ⟨x, hx, fun W' hm => ref_step hm 107 _ (.int .i64) (fun hg => by have := hg.put (wl st.ws); rw [show (wl st.ws).length = st.ws.length by simp [wl]] at this; exact ⟨this.n, this.lo, this.up, by have := this.list; omega⟩) (fun B cb R hr hgd hbw => ?_)⟩
  have hbB : ∀ k, blockOf B = some k → w.heap.size ≤ k := fun k hk => (hr.2.1.block k hk).1
  exact ref_put W' w.heap.size r B cb R hr hgd.lo hgd.up st.la st.ws st.cl (hS.feed hbw hr.2.2.1 hr.2.2.1 hbB hst).1 (by have := hgd.list; omega)
theorem flush_both (h : Pairs w n N g s r W0) (hb : Below W0.heap.size W0 W) (hN : N ≤ 100000) :
    ∃ x : Int, (Calls Try.prog 101 #[.pointer (some ⟨g, 0, none⟩)] W fun e W' => e = .returned (.int .i64 x) ∧ Mids w n N g s r W0.heap.size (fun R => R.flush) x W' ∧ Keeps W0.heap.size W W') ∧
      ∀ W', Mids w n N g s r W0.heap.size (fun R => R.flush) x W' → Calls Try.prog 108 #[.pointer (some ⟨r, 0, none⟩)] W' fun e W'' => e = .returned (.int .i64 x) ∧ Pairs w n N g s r W'' ∧ Keeps W0.heap.size W' W'' := by
  obtain ⟨x, hx⟩ := drive_step h hb 101 #[.pointer (some ⟨g, 0, none⟩)] (fun D => D.flush) (fun R => R.flush) (.int .i64) (fun ha => ha.flush) (fun A c D hd hf hll _ hA hbw => drv_flush W g s A c D hd hf.1 hf.2 (by omega))
  exact ⟨x, hx, fun W' hm => ref_step hm 108 _ (.int .i64) (fun hg => hg.flush) (fun B cb R hr hgd hbw => ref_flush W' w.heap.size r B cb R hr hgd.lo hgd.up (by have := hgd.list; omega))⟩
theorem fuse_both (h : Pairs w n N g s r W0) (hb : Below W0.heap.size W0 W) (z : Int) (hz : z < 9223372036854775808) :
    ∃ x : Int, (Calls Try.prog 104 #[.pointer (some ⟨g, 0, none⟩), .int .i64 z] W fun e W' => e = .returned (.tuple #[]) ∧ Mids w n N g s r W0.heap.size (fun R => (0, R.fuseTo z)) x W' ∧ Keeps W0.heap.size W W') ∧
      ∀ W', Mids w n N g s r W0.heap.size (fun R => (0, R.fuseTo z)) x W' → Calls Try.prog 109 #[.pointer (some ⟨r, 0, none⟩), .int .i64 z] W' fun e W'' => e = .returned (.tuple #[]) ∧ Pairs w n N g s r W'' ∧ Keeps W0.heap.size W' W'' := by
  obtain ⟨x, hx⟩ := drive_step h hb 104 #[.pointer (some ⟨g, 0, none⟩), .int .i64 z] (fun D => (0, D.fuseTo z)) (fun R => (0, R.fuseTo z)) (fun _ => .tuple #[]) (fun ha => ⟨rfl, ha.fuseTo z⟩) (fun A c D hd hf hll _ hA hbw => (fuse_drive W g s A c D z hd).mono fun e W' ⟨h1, h2, h3⟩ => ⟨h1, A, c, h2, h3⟩)
  exact ⟨x, hx, fun W' hm => ref_step hm 109 _ (fun _ => .tuple #[]) (fun hg => hg.fuseTo hz) (fun B cb R hr hgd hbw => (ref_fuse W' w.heap.size r B cb R z hr).mono fun e W'' ⟨h1, h2, h3⟩ => ⟨h1, B, cb, h2, h3⟩)⟩
theorem restart_both (hS : StepsF w LA ss) (hst : st ∈ ss) (h : Pairs w n N g s r W0) (hb : Below W0.heap.size W0 W) (hN : N ≤ 100000) :
    ∃ x : Int, (Calls Try.prog 102 #[.pointer (some ⟨g, 0, none⟩), .slice st.ka st.keep.length st.ck] W fun e W' => e = .returned (.tuple #[]) ∧ Mids w n N g s r W0.heap.size (fun R => (0, R.restart st.keep)) x W' ∧ Keeps W0.heap.size W W') ∧
      ∀ W', Mids w n N g s r W0.heap.size (fun R => (0, R.restart st.keep)) x W' → Calls Try.prog 110 #[.pointer (some ⟨r, 0, none⟩), .slice st.ka st.keep.length st.ck] W' fun e W'' => e = .returned (.tuple #[]) ∧ Pairs w n N g s r W'' ∧ Keeps W0.heap.size W' W'' := by
  obtain ⟨hg, hs⟩ : w.heap.size ≤ g ∧ w.heap.size ≤ s := by
    obtain ⟨A, c, D, B, cb, R, -, -, -, -, -, h6, -⟩ := h
    exact ⟨h6.1, h6.2.1⟩
  have hk := (hS.keeps st hst).2.1
  obtain ⟨x, hx⟩ := drive_step h hb 102 #[.pointer (some ⟨g, 0, none⟩), .slice st.ka st.keep.length st.ck] (fun D => (0, D.restart st.keep)) (fun R => (0, R.restart st.keep)) (fun _ => .tuple #[]) (fun ha => ⟨rfl, ha.restart _⟩) (fun A c D hd hf hll _ hA hbw => by
    obtain ⟨-, q1, q2⟩ := hS.feed hbw hg hs hA hst
    exact (drv_restart W g s A c D hd (by omega) st.ka st.keep st.ck q1 q2 (by omega)).mono fun e W' ⟨h1, h2, h3⟩ => ⟨h1, none, 0, h2, h3⟩)
  refine ⟨x, hx, fun W' hm => ref_step hm 110 _ (fun _ => .tuple #[]) (fun hg => hg.restart _) (fun B cb R hr hgd hbw => ?_)⟩
  exact ref_restart W' w.heap.size r B cb R hr (by have := hgd.list; omega) st.ka st.keep st.ck (Cells.below (hS.keeps st hst).1 hbw (Nat.le_refl _)) (by omega)
end
end Go.Proofs.Ytppbcdcmpcagdaa
