/- The document's drive in memory: contract of its Put. -/
import Derived.Test.YtppbcdcmpcagdaaRef6
namespace Go.Proofs.Ytppbcdcmpcagdaa
open Go.RowKit Go.CP

theorem st_dons' {w : World} {ops : Array Oper} {o : Oper} {a : Act} {K : Act → World → Prop} {Q : Exit → Act → World → Prop} {E : Prop} (hgd : o.guard = none) (s x : Operand) (tx : TypeId)
    (ho : o.op = .call { callee := .builtin .append, args := #[s, x], argTypes := #[220, tx] }) (base : Nat)
    {A : Option Addr} {n c : Nat} {xs : List Value} (hs : a.eval s = .slice A n c) (hown : Go.CP.Own w base 224 3 A n c xs)
    {vx : Value} {m : Nat} {news : List Value} (hvx : a.eval x = vx) (hx : Src Try.prog w 3 (.agg #[.int .i64 0, .string ByteArray.empty, .bool false]) tx vx m news)
    (hbytes : (n + m) * 32 ≤ 225000000000000) (hbase : base ≤ w.heap.size)
    (h : ∀ A' c' w', Go.CP.Own w' base 224 3 A' (n + m) c' (xs ++ news) → w.grownBy w' (blockOf A) → (blockOf A' = blockOf A ∨ ∀ k, blockOf A' = some k → w.heap.size ≤ k) → K (a.put o.dst (.slice A' (n + m) c')) w') :
    if Region.wanted o (yielded ops a.tmps) = true then Oper.wp Try.prog o a w K Q else E := by
  have hw : Region.wanted o (yielded ops a.tmps) = true := by simp [Region.wanted, hgd]
  rw [if_pos hw]
  exact wp_append_Own' w s x 220 tx ho base 224 Try.t224 (.agg #[.int .i64 0, .string ByteArray.empty, .bool false]) 3 32 Try.underlying220 info224 (by kernel_rfl) (by kernel_rfl) (by kernel_rfl) rfl (by decide) (by decide) (by decide) A n c xs hs hown vx m news hvx hx hbytes hbase h
/-- One write more: what an append and the store of its slice leave. -/
theorem RIs.push {W W1 W2 : World} {base r : Nat} {A A2 : Option Addr} {c c2 : Nat} {R : RDrv} (h : RIs W base r A c R) (hb : Below W.heap.size W W1) (hg : W1.grownBy W2 (blockOf A)) (x : Int × List UInt8)
    (ho : Go.CP.Own W2 base 224 3 A2 (R.list.length + 1) c2 (R.list.flatMap dcells ++ [.int .i64 x.1, .string (bstr x.2), .bool false])) (hA : blockOf A2 = blockOf A ∨ ∀ k, blockOf A2 = some k → W1.heap.size ≤ k) :
    RIs (W2.setCell ⟨r, 1, none⟩ (.slice A2 (R.list.length + 1) c2)) base r A2 c2 { R with list := R.list ++ [(x.1, x.2, false)] } ∧ Drove W (W2.setCell ⟨r, 1, none⟩ (.slice A2 (R.list.length + 1) c2)) r r A A2 := by
  have hlt := h.1.facts.2.2.2.2.2
  obtain ⟨h1, h2, h3, h4⟩ := h
  have hbs := hb.size
  have hgs := hg.size
  have k1 : W2.heap[r]? = W.heap[r]? := (hg.block r (by omega) (fun e => h4 e.symm)).trans (hb.block r hlt)
  have hA2 : ∀ k, blockOf A2 = some k → k ≠ r := fun k hk => by
    rcases hA with e | e
    · exact fun e2 => h4 (by rw [← e, hk, e2])
    · have := e k hk
      omega
  have kh : HeadR W2 r R.n (.slice A R.list.length c) R.fuse R.dead := k1.trans h1
  refine ⟨⟨?_, ?_, h3, fun e => hA2 r e rfl⟩, ⟨hg.os.trans hb.os, hg.tape.trans hb.tape, hg.output.trans hb.output, by simp [World.setCell]; omega⟩, fun k hk hkr _ hkA => ?_, fun k hk => ?_⟩
  · have := kh.set 1 (.slice A2 (R.list.length + 1) c2)
    dsimp only
    rw [List.length_append]
    exact this
  · refine own_of_block (w := W2) ?_ fun k hk => Below.heap_setCell _ _ _ _ (hA2 k hk)
    dsimp only
    rw [List.flatMap_append, List.length_append, List.flatMap_singleton]
    exact ho
  · exact (Below.heap_setCell _ _ _ _ hkr).trans ((hg.block k (by omega) (fun e => hkA e.symm)).trans (hb.block k hk))
  · rcases hA with e | e
    · exact .inl (by rw [← e]; exact hk)
    · exact .inr (Nat.le_trans hbs (e k hk))
/-- What the region of a Put's round reads. -/
def RPutR (lb lo : Nat) (n : Int) (xa : Option Addr) (cx : Nat) (d : List UInt8) (W : World) : Prop :=
  W.cell? ⟨lb, lo, none⟩ = some (.int .i64 n) ∧ W.cell? ⟨lb, lo + 1, none⟩ = some (.slice xa 128 cx) ∧ Bytes W xa d
theorem RPutR.alloc {lb lo : Nat} {n : Int} {xa : Option Addr} {cx : Nat} {d : List UInt8} {W : World} (h : RPutR lb lo n xa cx d W) (o : Obj) : RPutR lb lo n xa cx d (W.alloc o) := by
  have hc : ∀ {p : Addr} {v : Value}, W.cell? p = some v → (W.alloc o).cell? p = some v := fun {p v} hp => (World.cell?_alloc_lt _ _ _ (World.block_lt_of_cell? W _ hp)).trans hp
  exact ⟨hc h.1, hc h.2.1, h.2.2.alloc o⟩
theorem RPutR.grown {lb lo : Nat} {n : Int} {xa : Option Addr} {cx : Nat} {d : List UInt8} {W W' : World} {row : Option Nat} (h : RPutR lb lo n xa cx d W) (hg : W.grownBy W' row) (hr : ∀ j, row = some j → j ≠ lb ∧ blockOf xa ≠ some j) : RPutR lb lo n xa cx d W' :=
  ⟨hg.cell h.1 (fun e => (hr _ e.symm).1 rfl), hg.cell h.2.1 (fun e => (hr _ e.symm).1 rfl), h.2.2.of_cell fun b off u hu hb => hg.cell hu (fun e => (hr _ e.symm).2 hb)⟩
theorem RPutR.set {lb lo r : Nat} {n : Int} {xa : Option Addr} {cx : Nat} {d : List UInt8} {W : World} (h : RPutR lb lo n xa cx d W) (hr : lb ≠ r ∧ blockOf xa ≠ some r) (j : Nat) (u : Value) : RPutR lb lo n xa cx d (W.setCell ⟨r, j, none⟩ u) := by
  have hc : ∀ {p : Addr} {v : Value}, p.block ≠ r → W.cell? p = some v → (W.setCell ⟨r, j, none⟩ u).cell? p = some v := fun {p v} hne hp => (World.cell?_setCell_other _ _ _ _ (fun e => hne (congrArg Addr.block e).symm)).trans hp
  exact ⟨hc hr.1 h.1, hc hr.1 h.2.1, h.2.2.of_cell fun b off u hu hb => hc (fun e => hr.2 (by rw [← e]; exact hb)) hu⟩
/-- The document's drive in the midst of a Put: i writes are in. -/
def RPutS (W : World) (base r : Nat) (A : Option Addr) (R : RDrv) (ws : List Wri) (i : Nat) (wr : World) : Prop :=
  ∃ A' c' R', RIs wr base r A' c' R' ∧ Drove W wr r r A A' ∧ -1 ≤ R'.fuse ∧ R'.fuse ≤ 9223372036854775807 ∧ R'.list.length = R.list.length + i ∧ rputGo R (wl ws) = rputGo R' (wl (ws.drop i))
theorem rless_fuse {R : RDrv} (h1 : -1 ≤ R.fuse) (h2 : R.fuse ≤ 9223372036854775807) : -1 ≤ R.less.fuse ∧ R.less.fuse ≤ 9223372036854775807 := by
  simp only [RDrv.less]
  split <;> omega
theorem outB_snoc {n : Nat} {ws : List Wri} {i : Nat} {x : Wri} (h : ws[i]? = some x) : outB n (wl (ws.take (i + 1))) = (outB n (wl (ws.take i)) || (decide (x.n < 0) || decide ((n : Int) ≤ x.n))) := by
  rw [take_snoc h]; simp [outB, wl]
theorem lenB_snoc {ws : List Wri} {i : Nat} {x : Wri} (h : ws[i]? = some x) : lenB (wl (ws.take (i + 1))) = (lenB (wl (ws.take i)) || (x.d.length != 128)) := by
  rw [take_snoc h]; simp [lenB, wl]
theorem outB_hit {n : Nat} {ws : List Wri} {x : Wri} (h : x ∈ ws) (hx : x.n < 0 ∨ (n : Int) ≤ x.n) : outB n (wl ws) = true := by
  unfold outB
  rw [List.any_eq_true]
  exact ⟨(x.n, x.d), List.mem_map.2 ⟨x, h, rfl⟩, by simpa using hx⟩
theorem lenB_hit {ws : List Wri} {x : Wri} (h : x ∈ ws) (hx : x.d.length ≠ 128) : lenB (wl ws) = true := by
  unfold lenB
  rw [List.any_eq_true]
  exact ⟨(x.n, x.d), List.mem_map.2 ⟨x, h, rfl⟩, by simpa using hx⟩
theorem ris_drewN {W : World} {base r : Nat} {A : Option Addr} {c : Nat} {R : RDrv} (h : RIs W base r A c R) (n : Nat) : RIs (W.drewN n) base r A c R := h
theorem feed_drewN {W : World} {g s : Nat} {A LA : Option Addr} {ws : List Wri} (h : Feed W g s A LA ws) (n : Nat) : Feed (W.drewN n) g s A LA ws := ⟨h.list, h.rows, h.far, h.fars, h.caps⟩

set_option maxHeartbeats 4000000 in
set_option maxRecDepth 100000 in
theorem rput_loop (W : World) (base r : Nat) (A : Option Addr) (c : Nat) (R : RDrv) (h : RIs W base r A c R) (hd : R.dead = false) (hlo : -1 ≤ R.fuse) (hup : R.fuse ≤ 9223372036854775807)
    (LA : Option Addr) (ws : List Wri) (cw : Nat) (hf : Feed W r r A LA ws) (hn : R.list.length + ws.length ≤ 1000000000) :
    Calls Try.prog 107 #[.pointer (some ⟨r, 0, none⟩), .slice LA ws.length cw] W (RetRef W base r A (R.put (wl ws))) := by
  have HH := hid h
  have HF := hid hf
  have HD := hid (And.intro hd (And.intro hlo hup))
  have HFW := hid hf
  have HBN := hid hn
  obtain ⟨c0, -, -, c3, -, hlt⟩ := h.1.facts
  rw [hd] at c3
  have hni : (ws.length : Int) ≤ 1000000000 := by omega
  clear h hf hd hlo hup
  go_enter Try.func107, Try.ntmps107
  go_wp2_with fail
  go_loopw [5] (fun iv wr => ∃ i : Nat, i ≤ ws.length ∧ iv = .int .i64 i ∧ Hid (outB R.n (wl (ws.take i)) = false ∧ ∃ n, wr = W.drewN n)) (fun iv _ => ws.length - (intOf iv).toNat)
  case atStart => exact ⟨0, by omega, rfl, hid ⟨rfl, 0, rfl⟩⟩
  case round =>
    obtain ⟨i, hi, rfl, HI⟩ := hrel
    obtain ⟨nd, hnd⟩ := HI.out.2
    by_cases hlti : i < ws.length
    · obtain ⟨x, hx⟩ := get_of_lt ws hlti
      obtain ⟨lb, lo, rfl, lc0, -⟩ := Wrs.at HF.out.list hx
      have hii : (i : Int) < (ws.length : Int) := by omega
      have l0 : wr.cell? ⟨lb, lo + i * 2, none⟩ = some (.int .i64 x.n) := by rw [hnd]; exact lc0
      have r0 : wr.cell? ⟨r, 0, none⟩ = some (.int .i64 R.n) := by rw [hnd]; exact c0
      have HX := hid hx
      have HND := hid hnd
      clear hnd hx lc0
      by_cases hx0 : x.n < 0
      · have hq0 : decide (x.n < 0) = true := by simpa using hx0
        have HO : Hid (R.put (wl ws) = (4, R)) := hid (by
          rw [RDrv.put, if_neg (by simp [HD.out.1]), if_pos (outB_hit (List.mem_of_getElem? HX.out) (.inl hx0))])
        go_wp2_with fail
        go_quiet (fail)
        go_wp2_with fail
        go_ret
        rw [HO.out]
        exact ⟨rfl, A, c, by rw [HND.out]; exact HH.out, by rw [HND.out]; exact Drove.of_below (below_some ⟨_, drewN_two _ _ _⟩)⟩
      · have hq0 : decide (x.n < 0) = false := by simpa using hx0
        have hx0i : 0 ≤ x.n := by omega
        by_cases hx1 : (R.n : Int) ≤ x.n
        · have HO : Hid (R.put (wl ws) = (4, R)) := hid (by
            rw [RDrv.put, if_neg (by simp [HD.out.1]), if_pos (outB_hit (List.mem_of_getElem? HX.out) (.inr hx1))])
          have hq1 : decide ((R.n : Int) ≤ x.n) = true := by simpa using hx1
          clear hx0
          go_wp2_with fail
          go_quiet (fail)
          go_wp2_with fail
          go_ret
          rw [HO.out]
          exact ⟨rfl, A, c, by rw [HND.out]; exact HH.out, by rw [HND.out]; exact Drove.of_below (below_some ⟨_, drewN_two _ _ _⟩)⟩
        · have hq1 : decide ((R.n : Int) ≤ x.n) = false := by simpa using hx1
          have HO : Hid (outB R.n (wl (ws.take (i + 1))) = false) := hid (by rw [outB_snoc HX.out, HI.out.1, hq0, hq1]; rfl)
          clear hx0 hx1
          go_wp2_with fail
          go_quiet (fail)
          go_wp2_with fail
          go_roundw
          case rel => exact ⟨i + 1, by omega, by go_num, hid ⟨HO.out, _, by rw [HND.out]; exact drewN_two _ _ _⟩⟩
          case measure => simp [intOf]; omega
    · have hk : i = ws.length := by omega
      have hik : ¬ (i : Int) < (ws.length : Int) := by omega
      have HO : Hid (outB R.n (wl ws) = false) := hid (by have := HI.out.1; rw [hk, List.take_length] at this; exact this)
      have HND := hid hnd
      have HH2 := hid (ris_drewN HH.out nd)
      have HF2 := hid (feed_drewN HF.out nd)
      rw [← hnd] at HH2 HF2
      have HDR : Hid (Drove W wr r r A A) := hid (by rw [hnd]; exact Drove.of_below (below_some ⟨_, rfl⟩))
      clear hk hnd HI HH HF HND c0 c3
      go_wp2_with fail
      go_loopw [6] (fun jv wq => ∃ j : Nat, j ≤ ws.length ∧ jv = .int .i64 j ∧ Hid (lenB (wl (ws.take j)) = false) ∧ wq = wr) (fun jv _ => ws.length - (intOf jv).toNat)
      case atStart => exact ⟨0, by omega, rfl, hid rfl, rfl⟩
      case round =>
        rename World => wq
        obtain ⟨j, hj, rfl, HJ, hwq⟩ := hrel
        subst hwq
        by_cases hltj : j < ws.length
        · obtain ⟨x, hx⟩ := get_of_lt ws hltj
          obtain ⟨lb, lo, rfl, -, lc1⟩ := Wrs.at HF2.out.list hx
          have hjj : (j : Int) < (ws.length : Int) := by omega
          have HX := hid hx
          clear hx
          by_cases hx0 : x.d.length = 128
          · have hq : ((x.d.length : Int) != 128) = false := by rw [hx0]; rfl
            have HO2 : Hid (lenB (wl (ws.take (j + 1))) = false) := hid (by rw [lenB_snoc HX.out, HJ.out, hx0]; rfl)
            clear hx0
            go_wp2_with fail
            go_roundw
            case rel => exact ⟨j + 1, by omega, by go_num, HO2, True.intro⟩
            case measure => simp [intOf]; omega
          · have hq : ((x.d.length : Int) != 128) = true := by rw [bne_iff_ne]; omega
            have HO2 : Hid (R.put (wl ws) = (1, R)) := hid (by
              rw [RDrv.put, if_neg (by simp [HD.out.1]), if_neg (by simp [HO.out]), if_pos (lenB_hit (List.mem_of_getElem? HX.out) hx0)])
            clear hx0
            go_wp2_with fail
            go_ret
            rw [HO2.out]
            exact ⟨rfl, A, c, HH2.out, HDR.out⟩
        · have hk2 : j = ws.length := by omega
          have hjk : ¬ (j : Int) < (ws.length : Int) := by omega
          have HL : Hid (lenB (wl ws) = false) := hid (by have := HJ.out; rw [hk2, List.take_length] at this; exact this)
          have HPUT : Hid (R.put (wl ws) = rputGo R (wl ws)) := hid (by rw [RDrv.put, if_neg (by simp [HD.out.1]), if_neg (by simp [HO.out]), if_neg (by simp [HL.out])])
          have hS0 : Hid (RPutS W base r A R ws 0 wq) := hid ⟨A, c, R, HH2.out, HDR.out, HD.out.2.1, HD.out.2.2, rfl, by rw [List.drop_zero]⟩
          have HLL := hid (lenB_false HL.out)
          have HFD := hid HFW.out
          clear hk2 HJ
          go_wp2_with fail
          go_loopw [7] (fun iv wr => ∃ i : Nat, i ≤ ws.length ∧ iv = .int .i64 i ∧ Hid (RPutS W base r A R ws i wr)) (fun iv _ => ws.length - (intOf iv).toNat)
          case atStart => exact ⟨0, by omega, rfl, hS0⟩
          case round =>
            clear hS0 HO HL HDR HH2 HF2 hlti hltj hj hi
            obtain ⟨i, hi, rfl, HS⟩ := hrel
            obtain ⟨A1, c1, R1, hr1, hv1, hlo1, hup1, hll1, hgo1⟩ := HS.out
            by_cases hlti : i < ws.length
            · obtain ⟨x, hx⟩ := get_of_lt ws hlti
              have hxm := List.mem_of_getElem? hx
              have hfd := HFD.out.moved hv1
              obtain ⟨lb, lo, rfl, lc0, lc1⟩ := Wrs.at hfd.list hx
              have hxl : x.d.length = 128 := HLL.out (x.n, x.d) (List.mem_map.2 ⟨x, hxm, rfl⟩)
              have hxb := hfd.rows x hxm
              have hfl := hfd.far (by omega)
              have hfx := hfd.fars x hxm (by omega)
              rw [hxl] at lc1
              have HB := hid (ref_spark _ base r A1 c1 R1 hr1 hlo1 hup1)
              have hdrop : wl (ws.drop i) = (x.n, x.d) :: wl (ws.drop (i + 1)) := by
                rw [List.drop_eq_getElem_cons hlti, (List.getElem?_eq_some_iff.1 hx).2]
                rfl
              rw [hdrop, rputGo] at hgo1
              have HRO : Hid (RPutR lb (lo + i * 2) x.n x.a x.c x.d wr) := hid ⟨lc0, lc1, hxb⟩
              have HR1 := hid hr1
              have HV1 := hid hv1
              have HGO := hid hgo1
              have HFX := hid (And.intro hfl hfx)
              have HLE := hid hll1
              have HUP := hid (And.intro hlo1 hup1)
              have HXL := hid hxl
              have hii : (i : Int) < (ws.length : Int) := by omega
              clear hx hxb hxm hfl hfx hdrop hgo1 hr1 hv1 hll1 HS hfd lc0 lc1 hlo1 hup1 hxl
              go_wp2_with fail
              refine HB.out.mono ?_
              clear HB
              rintro e w5 ⟨hv5, ⟨h0, rfl, hr5⟩ | ⟨h0, rfl, hr5⟩⟩
              · have H0 := hid h0
                have HR5 := hid hr5
                have HV5 := hid hv5
                clear h0 hr5 hv5
                go_wp2_with fail
                go_ret
                have hg := HGO.out
                rw [if_pos H0.out] at hg
                exact ⟨by rw [HPUT.out, hg]; rfl, A1, c1, by rw [HPUT.out, hg]; exact HR5.out, HV1.out.trans HV5.out⟩
              · have HV15 := hid (HV1.out.trans hv5)
                have hlt5 := hr5.1.facts.2.2.2.2.2
                have hrr : lb ≠ r ∧ blockOf x.a ≠ some r := ⟨(HFX.out.1 lb rfl).1, fun e => (HFX.out.2 r e).1 rfl⟩
                have hS5 : RPutR lb (lo + i * 2) x.n x.a x.c x.d w5 := by
                  obtain ⟨q0, q1, q2⟩ := HRO.out
                  have hlb := World.block_lt_of_cell? wr _ q0
                  have kb : w5.heap[lb]? = wr.heap[lb]? := hv5.2.1 lb hlb hrr.1 hrr.1 (HFX.out.1 lb rfl).2.2
                  exact ⟨(World.cell?_of_block (a := ⟨lb, lo + i * 2, none⟩) kb).trans q0, (World.cell?_of_block (a := ⟨lb, lo + i * 2 + 1, none⟩) kb).trans q1, hv5.cells q2 HFX.out.2⟩
                have HBA : Hid (∀ j, blockOf A1 = some j → j ≠ lb ∧ blockOf x.a ≠ some j) := hid (fun j hj => ⟨fun e => (HFX.out.1 lb rfl).2.2 (by rw [hj, e]), fun e => (HFX.out.2 j e).2.2 hj⟩)
                obtain ⟨-, c51, -, -, hf5, -⟩ := hr5.1.facts
                have hal : ∀ o, (w5.drew.alloc o).cell? ⟨r, 1, none⟩ = some (.slice A1 R1.list.length c1) := fun o => (World.cell?_alloc_lt _ _ _ hlt5).trans c51
                have HOWN : Hid (Go.CP.Own (w5.drew.alloc (.cells #[.int .i64 x.n, .string (bstr x.d), .bool false] 224)) base 224 3 A1 R1.list.length c1 (R1.list.flatMap dcells)) := hid (hr5.2.1.drew.alloc _)
                have HSRC : Hid (Src Try.prog (w5.drew.alloc (.cells #[.int .i64 x.n, .string (bstr x.d), .bool false] 224)) 3 (.agg #[.int .i64 0, .string ByteArray.empty, .bool false]) 220 (.slice (some ⟨w5.heap.size, 0, none⟩) 1 1) 1 [.int .i64 x.n, .string (bstr x.d), .bool false]) := hid (by
                  have h := Src.row (P := Try.prog) (w := w5.drew) (z := .agg #[.int .i64 0, .string ByteArray.empty, .bool false]) (sz := 3) (m := 1) (c := 1) (e := 224) #[.int .i64 x.n, .string (bstr x.d), .bool false] Try.underlying220 rfl (by simp [Value.oneCell'])
                  simpa using h)
                have H0 := hid h0
                have HR5 := hid hr5
                have hbs : base ≤ w5.heap.size := by have := hr5.2.2.1; omega
                clear h0 hr5 hv5 HRO
                go_wp2_with fail
                refine wp_region_held_drew (S := RPutR lb (lo + i * 2) x.n x.a x.c x.d) (by kernel_rfl) (show RPutR lb (lo + i * 2) x.n x.a x.c x.d w5.drew from hS5) (fun hHeld => ?_)
                refine wpAnyH_take (i := 0) (oi := { dst := some 58, op := Op.move (Operand.tmp 0), type := 146, pos := "ref.go:84", after := #[], guard := none }) (v := .pointer (some ⟨r, 0, none⟩)) rfl (by kernel_rfl) (by kernel_rfl) (by kernel_rfl) (fun _ _ _ h => h) (Or.inl ⟨by rfl, fun W hSw => ?_⟩) hHeld ?_
                · obtain ⟨hs0, hs1, hs2⟩ := hSw
                  go_simp
                try simp only [Act.put, List.setIfInBounds_toArray, List.set_cons_zero, List.set_cons_succ]
                refine wpAnyH_take (i := 1) (oi := { dst := some 59, op := Op.move (Operand.tmp 0), type := 146, pos := "ref.go:84", after := #[], guard := none }) (v := .pointer (some ⟨r, 0, none⟩)) rfl (by kernel_rfl) (by kernel_rfl) (by kernel_rfl) (fun _ _ _ h => h) (Or.inl ⟨by rfl, fun W hSw => ?_⟩) hHeld ?_
                · obtain ⟨hs0, hs1, hs2⟩ := hSw
                  go_simp
                try simp only [Act.put, List.setIfInBounds_toArray, List.set_cons_zero, List.set_cons_succ]
                refine wpAnyH_take (i := 2) (oi := { dst := some 60, op := Op.nilCheck (Operand.tmp 59), type := 0, pos := "ref.go:84", after := #[{ on := 1, ground := Ground.data }], guard := none }) (v := .pointer (some ⟨r, 0, none⟩)) rfl (by kernel_rfl) (by kernel_rfl) (by kernel_rfl) (fun _ _ _ h => h) (Or.inl ⟨by rfl, fun W hSw => ?_⟩) hHeld ?_
                · obtain ⟨hs0, hs1, hs2⟩ := hSw
                  go_simp
                try simp only [Act.put, List.setIfInBounds_toArray, List.set_cons_zero, List.set_cons_succ]
                refine wpAnyH_take (i := 3) (oi := { dst := some 61, op := Op.fieldAddr 222 (Operand.tmp 60) 1, type := 0, pos := "ref.go:84", after := #[{ on := 2, ground := Ground.data }], guard := none }) (v := .pointer (some ⟨r, 1, none⟩)) rfl (by kernel_rfl) (by kernel_rfl) (by kernel_rfl) (fun _ _ _ h => h) (Or.inl ⟨by rfl, fun W hSw => ?_⟩) hHeld ?_
                · obtain ⟨hs0, hs1, hs2⟩ := hSw
                  go_simp
                try simp only [Act.put, List.setIfInBounds_toArray, List.set_cons_zero, List.set_cons_succ]
                refine wpAnyH_take (i := 5) (oi := { dst := some 63, op := Op.move (Operand.tmp 1), type := 149, pos := "ref.go:84", after := #[], guard := none }) (v := .slice (some ⟨lb, lo, none⟩) ws.length cw) rfl (by kernel_rfl) (by kernel_rfl) (by kernel_rfl) (fun _ _ _ h => h) (Or.inl ⟨by rfl, fun W hSw => ?_⟩) hHeld ?_
                · obtain ⟨hs0, hs1, hs2⟩ := hSw
                  go_simp
                try simp only [Act.put, List.setIfInBounds_toArray, List.set_cons_zero, List.set_cons_succ]
                refine wpAnyH_take (i := 6) (oi := { dst := some 64, op := Op.move (Operand.tmp 7), type := 3, pos := "ref.go:84", after := #[], guard := none }) (v := .int .i64 (i : Int)) rfl (by kernel_rfl) (by kernel_rfl) (by kernel_rfl) (fun _ _ _ h => h) (Or.inl ⟨by rfl, fun W hSw => ?_⟩) hHeld ?_
                · obtain ⟨hs0, hs1, hs2⟩ := hSw
                  go_simp
                try simp only [Act.put, List.setIfInBounds_toArray, List.set_cons_zero, List.set_cons_succ]
                refine wpAnyH_take (i := 7) (oi := { dst := some 65, op := Op.indexAddr 149 (Operand.tmp 63) (Operand.tmp 64), type := 0, pos := "ref.go:84", after := #[{ on := 5, ground := Ground.data }, { on := 6, ground := Ground.data }], guard := none }) (v := .pointer (some ⟨lb, lo + i * 2, none⟩)) rfl (by kernel_rfl) (by kernel_rfl) (by kernel_rfl) (fun _ _ _ h => h) (Or.inl ⟨by rfl, fun W hSw => ?_⟩) hHeld ?_
                · obtain ⟨hs0, hs1, hs2⟩ := hSw
                  go_simp
                try simp only [Act.put, List.setIfInBounds_toArray, List.set_cons_zero, List.set_cons_succ]
                refine wpAnyH_take (i := 8) (oi := { dst := some 66, op := Op.fieldAddr 136 (Operand.tmp 65) 0, type := 0, pos := "ref.go:84", after := #[{ on := 7, ground := Ground.data }], guard := none }) (v := .pointer (some ⟨lb, lo + i * 2, none⟩)) rfl (by kernel_rfl) (by kernel_rfl) (by kernel_rfl) (fun _ _ _ h => h) (Or.inl ⟨by rfl, fun W hSw => ?_⟩) hHeld ?_
                · obtain ⟨hs0, hs1, hs2⟩ := hSw
                  go_simp
                try simp only [Act.put, List.setIfInBounds_toArray, List.set_cons_zero, List.set_cons_succ]
                refine wpAnyH_take (i := 9) (oi := { dst := some 67, op := Op.load 3 (Operand.tmp 66), type := 3, pos := "ref.go:84", after := #[{ on := 8, ground := Ground.data }], guard := none }) (v := .int .i64 x.n) rfl (by kernel_rfl) (by kernel_rfl) (by kernel_rfl) (fun _ _ _ h => h) (Or.inl ⟨by rfl, fun W hSw => ?_⟩) hHeld ?_
                · obtain ⟨hs0, hs1, hs2⟩ := hSw
                  go_simp
                try simp only [Act.put, List.setIfInBounds_toArray, List.set_cons_zero, List.set_cons_succ]
                refine wpAnyH_take (i := 10) (oi := { dst := some 68, op := Op.move (Operand.tmp 1), type := 149, pos := "ref.go:84", after := #[], guard := none }) (v := .slice (some ⟨lb, lo, none⟩) ws.length cw) rfl (by kernel_rfl) (by kernel_rfl) (by kernel_rfl) (fun _ _ _ h => h) (Or.inl ⟨by rfl, fun W hSw => ?_⟩) hHeld ?_
                · obtain ⟨hs0, hs1, hs2⟩ := hSw
                  go_simp
                try simp only [Act.put, List.setIfInBounds_toArray, List.set_cons_zero, List.set_cons_succ]
                refine wpAnyH_take (i := 11) (oi := { dst := some 69, op := Op.move (Operand.tmp 7), type := 3, pos := "ref.go:84", after := #[], guard := none }) (v := .int .i64 (i : Int)) rfl (by kernel_rfl) (by kernel_rfl) (by kernel_rfl) (fun _ _ _ h => h) (Or.inl ⟨by rfl, fun W hSw => ?_⟩) hHeld ?_
                · obtain ⟨hs0, hs1, hs2⟩ := hSw
                  go_simp
                try simp only [Act.put, List.setIfInBounds_toArray, List.set_cons_zero, List.set_cons_succ]
                refine wpAnyH_take (i := 12) (oi := { dst := some 70, op := Op.indexAddr 149 (Operand.tmp 68) (Operand.tmp 69), type := 0, pos := "ref.go:84", after := #[{ on := 10, ground := Ground.data }, { on := 11, ground := Ground.data }], guard := none }) (v := .pointer (some ⟨lb, lo + i * 2, none⟩)) rfl (by kernel_rfl) (by kernel_rfl) (by kernel_rfl) (fun _ _ _ h => h) (Or.inl ⟨by rfl, fun W hSw => ?_⟩) hHeld ?_
                · obtain ⟨hs0, hs1, hs2⟩ := hSw
                  go_simp
                try simp only [Act.put, List.setIfInBounds_toArray, List.set_cons_zero, List.set_cons_succ]
                refine wpAnyH_take (i := 13) (oi := { dst := some 71, op := Op.fieldAddr 136 (Operand.tmp 70) 1, type := 0, pos := "ref.go:84", after := #[{ on := 12, ground := Ground.data }], guard := none }) (v := .pointer (some ⟨lb, lo + i * 2 + 1, none⟩)) rfl (by kernel_rfl) (by kernel_rfl) (by kernel_rfl) (fun _ _ _ h => h) (Or.inl ⟨by rfl, fun W hSw => ?_⟩) hHeld ?_
                · obtain ⟨hs0, hs1, hs2⟩ := hSw
                  go_simp
                try simp only [Act.put, List.setIfInBounds_toArray, List.set_cons_zero, List.set_cons_succ]
                refine wpAnyH_take (i := 14) (oi := { dst := some 72, op := Op.load 22 (Operand.tmp 71), type := 22, pos := "ref.go:84", after := #[{ on := 13, ground := Ground.data }], guard := none }) (v := .slice x.a 128 x.c) rfl (by kernel_rfl) (by kernel_rfl) (by kernel_rfl) (fun _ _ _ h => h) (Or.inl ⟨by rfl, fun W hSw => ?_⟩) hHeld ?_
                · obtain ⟨hs0, hs1, hs2⟩ := hSw
                  go_simp
                try simp only [Act.put, List.setIfInBounds_toArray, List.set_cons_zero, List.set_cons_succ]
                refine wpAnyH_take (i := 15) (oi := { dst := some 73, op := Op.convert 22 9 (Operand.tmp 72), type := 9, pos := "ref.go:84", after := #[{ on := 14, ground := Ground.data }], guard := none }) (v := .string (bstr x.d)) rfl (by kernel_rfl) (by kernel_rfl) (by kernel_rfl) (fun _ _ _ h => h) (Or.inl ⟨by rfl, fun W hSw => ?_⟩) hHeld ?_
                · obtain ⟨hs0, hs1, hs2⟩ := hSw
                  have hcv := cv_bytes x.c hs2; rw [HXL.out] at hcv; clear hs0 hs1 hs2
                  go_simp
                try simp only [Act.put, List.setIfInBounds_toArray, List.set_cons_zero, List.set_cons_succ]
                refine wpAnyH_take (i := 16) (oi := { dst := some 74, op := Op.build 224 #[(0, Operand.tmp 67), (1, Operand.tmp 73), (2, Operand.const (Value.bool false))], type := 224, pos := "ref.go:84", after := #[{ on := 9, ground := Ground.data }, { on := 15, ground := Ground.data }], guard := none }) (v := .agg #[.int .i64 x.n, .string (bstr x.d), .bool false]) rfl (by kernel_rfl) (by kernel_rfl) (by kernel_rfl) (fun _ _ _ h => h) (Or.inl ⟨by rfl, fun W hSw => ?_⟩) hHeld ?_
                · obtain ⟨hs0, hs1, hs2⟩ := hSw
                  go_simp
                try simp only [Act.put, List.setIfInBounds_toArray, List.set_cons_zero, List.set_cons_succ]
                refine wpAnyH_ready (rs := [4, 17]) (by kernel_rfl) (by simp) (AllReadyH.cons (o := { dst := some 62, op := Op.load 220 (Operand.tmp 61), type := 220, pos := "ref.go:84", after := #[{ on := 3, ground := Ground.data }], guard := none }) rfl (fun K hK => ?_) (AllReadyH.cons (o := { dst := some 75, op := Op.buildSlice 220 1 #[(0, Operand.tmp 74)], type := 220, pos := "ref.go:84", after := #[{ on := 16, ground := Ground.data }], guard := none }) rfl (fun K hK => ?_) AllReadyH.nil))
                · go_simp
                  refine hK.out _ _ hHeld (fun hHeld => ?_)
                  clear hK K
                  try simp only [Act.put, List.setIfInBounds_toArray, List.set_cons_zero, List.set_cons_succ]
                  refine wpAnyH_ready (rs := [17]) (by kernel_rfl) (by simp) (AllReadyH.cons (o := { dst := some 75, op := Op.buildSlice 220 1 #[(0, Operand.tmp 74)], type := 220, pos := "ref.go:84", after := #[{ on := 16, ground := Ground.data }], guard := none }) rfl (fun K hK => ?_) AllReadyH.nil)
                  go_simp
                  refine hK.out _ _ (RPutR.alloc hHeld _) (fun hHeld => ?_)
                  clear hK K
                  try simp only [Act.put, List.setIfInBounds_toArray, List.set_cons_zero, List.set_cons_succ]
                  refine wpAnyH_ready (rs := [18]) (by kernel_rfl) (by simp) (AllReadyH.cons (o := { dst := some 76, op := Op.call { callee := Callee.builtin Builtin.append, args := #[Operand.tmp 62, Operand.tmp 75], argTypes := #[220, 220] }, type := 220, pos := "ref.go:84", after := #[{ on := 4, ground := Ground.data }, { on := 17, ground := Ground.data }], guard := none }) rfl (fun K hK => ?_) AllReadyH.nil)
                  refine st_dons' (m := 1) (by rfl) (.tmp 62) (.tmp 75) 220 (by rfl) base (by rfl) HOWN.out (by rfl) HSRC.out (by have := HLE.out; have := HBN.out; omega) (by simp; omega) ?_
                  intro A2 c2 w6 ho6 hg6 hA2
                  refine hK.out _ _ (RPutR.grown hHeld hg6 HBA.out) (fun hHeld => ?_)
                  clear hK K
                  try simp only [Act.put, List.setIfInBounds_toArray, List.set_cons_zero, List.set_cons_succ]
                  obtain ⟨hr7, hv7⟩ := HR5.out.push (((Below.refl _ w5).drew).alloc (Nat.le_refl _) _) hg6 (x.n, x.d) ho6 hA2
                  have kh6 := (show w6.heap[r]? = _ from (hg6.block r (by simp; omega) (fun e => HR5.out.2.2.2 e.symm)).trans ((heap_alloc_old w5.drew _ hlt5).trans HR5.out.1))
                  obtain ⟨-, c61, -, -, hf6, -⟩ := HeadR.facts kh6
                  have HR7 := hid hr7
                  have HV7 := hid hv7
                  clear hr7 hv7 kh6 ho6 hg6 hA2
                  refine wpAnyH_take (i := 19) (oi := { dst := some 77, op := Op.nilCheck (Operand.tmp 58), type := 0, pos := "ref.go:84", after := #[{ on := 0, ground := Ground.data }, { on := 0, ground := Ground.phase }, { on := 1, ground := Ground.phase }, { on := 2, ground := Ground.phase }, { on := 3, ground := Ground.phase }, { on := 4, ground := Ground.phase }, { on := 5, ground := Ground.phase }, { on := 6, ground := Ground.phase }, { on := 7, ground := Ground.phase }, { on := 8, ground := Ground.phase }, { on := 9, ground := Ground.phase }, { on := 10, ground := Ground.phase }, { on := 11, ground := Ground.phase }, { on := 12, ground := Ground.phase }, { on := 13, ground := Ground.phase }, { on := 14, ground := Ground.phase }, { on := 15, ground := Ground.phase }, { on := 16, ground := Ground.phase }, { on := 17, ground := Ground.phase }, { on := 18, ground := Ground.phase }], guard := none }) (v := .pointer (some ⟨r, 0, none⟩)) rfl (by kernel_rfl) (by kernel_rfl) (by kernel_rfl) (fun _ _ _ h => h) (Or.inl ⟨by rfl, fun W hSw => ?_⟩) hHeld ?_
                  · obtain ⟨hs0, hs1, hs2⟩ := hSw
                    go_simp
                  try simp only [Act.put, List.setIfInBounds_toArray, List.set_cons_zero, List.set_cons_succ]
                  refine wpAnyH_take (i := 20) (oi := { dst := some 78, op := Op.fieldAddr 222 (Operand.tmp 77) 1, type := 0, pos := "ref.go:84", after := #[{ on := 19, ground := Ground.data }, { on := 0, ground := Ground.phase }, { on := 1, ground := Ground.phase }, { on := 2, ground := Ground.phase }, { on := 3, ground := Ground.phase }, { on := 4, ground := Ground.phase }, { on := 5, ground := Ground.phase }, { on := 6, ground := Ground.phase }, { on := 7, ground := Ground.phase }, { on := 8, ground := Ground.phase }, { on := 9, ground := Ground.phase }, { on := 10, ground := Ground.phase }, { on := 11, ground := Ground.phase }, { on := 12, ground := Ground.phase }, { on := 13, ground := Ground.phase }, { on := 14, ground := Ground.phase }, { on := 15, ground := Ground.phase }, { on := 16, ground := Ground.phase }, { on := 17, ground := Ground.phase }, { on := 18, ground := Ground.phase }], guard := none }) (v := .pointer (some ⟨r, 1, none⟩)) rfl (by kernel_rfl) (by kernel_rfl) (by kernel_rfl) (fun _ _ _ h => h) (Or.inl ⟨by rfl, fun W hSw => ?_⟩) hHeld ?_
                  · obtain ⟨hs0, hs1, hs2⟩ := hSw
                    go_simp
                  try simp only [Act.put, List.setIfInBounds_toArray, List.set_cons_zero, List.set_cons_succ]
                  refine wpAnyH_ready (rs := [21]) (by kernel_rfl) (by simp) (AllReadyH.cons (o := { dst := none, op := Op.store 220 (Operand.tmp 78) (Operand.tmp 76), type := 0, pos := "ref.go:84", after := #[{ on := 20, ground := Ground.data }, { on := 18, ground := Ground.data }, { on := 18, ground := Ground.chain }, { on := 0, ground := Ground.phase }, { on := 1, ground := Ground.phase }, { on := 2, ground := Ground.phase }, { on := 3, ground := Ground.phase }, { on := 4, ground := Ground.phase }, { on := 5, ground := Ground.phase }, { on := 6, ground := Ground.phase }, { on := 7, ground := Ground.phase }, { on := 8, ground := Ground.phase }, { on := 9, ground := Ground.phase }, { on := 10, ground := Ground.phase }, { on := 11, ground := Ground.phase }, { on := 12, ground := Ground.phase }, { on := 13, ground := Ground.phase }, { on := 14, ground := Ground.phase }, { on := 15, ground := Ground.phase }, { on := 16, ground := Ground.phase }, { on := 17, ground := Ground.phase }, { on := 18, ground := Ground.phase }], guard := none }) rfl (fun K hK => ?_) AllReadyH.nil)
                  go_simp
                  refine hK.out _ _ (RPutR.set hHeld hrr 1 _) (fun hHeld => ?_)
                  clear hK K
                  try simp only [Act.put, List.setIfInBounds_toArray, List.set_cons_zero, List.set_cons_succ]
                  refine wpAnyH_done (by kernel_rfl) ?_ _
                  go_wp2_with fail
                  go_roundw
                  case rel =>
                    have hle := rless_fuse HUP.out.1 HUP.out.2
                    exact ⟨i + 1, by omega, by go_num, hid ⟨A2, c2, _, HR7.out, HV15.out.trans HV7.out, hle.1, hle.2, by show (R1.list ++ [(x.n, x.d, false)]).length = _; rw [List.length_append, HLE.out]; simp; omega, by rw [HGO.out, if_neg H0.out]; rfl⟩⟩
                  case measure => simp [intOf]; omega
                · go_simp
                  refine hK.out _ _ (RPutR.alloc hHeld _) (fun hHeld => ?_)
                  clear hK K
                  try simp only [Act.put, List.setIfInBounds_toArray, List.set_cons_zero, List.set_cons_succ]
                  refine wpAnyH_ready (rs := [4]) (by kernel_rfl) (by simp) (AllReadyH.cons (o := { dst := some 62, op := Op.load 220 (Operand.tmp 61), type := 220, pos := "ref.go:84", after := #[{ on := 3, ground := Ground.data }], guard := none }) rfl (fun K hK => ?_) AllReadyH.nil)
                  go_simp
                  refine hK.out _ _ hHeld (fun hHeld => ?_)
                  clear hK K
                  try simp only [Act.put, List.setIfInBounds_toArray, List.set_cons_zero, List.set_cons_succ]
                  refine wpAnyH_ready (rs := [18]) (by kernel_rfl) (by simp) (AllReadyH.cons (o := { dst := some 76, op := Op.call { callee := Callee.builtin Builtin.append, args := #[Operand.tmp 62, Operand.tmp 75], argTypes := #[220, 220] }, type := 220, pos := "ref.go:84", after := #[{ on := 4, ground := Ground.data }, { on := 17, ground := Ground.data }], guard := none }) rfl (fun K hK => ?_) AllReadyH.nil)
                  refine st_dons' (m := 1) (by rfl) (.tmp 62) (.tmp 75) 220 (by rfl) base (by rfl) HOWN.out (by rfl) HSRC.out (by have := HLE.out; have := HBN.out; omega) (by simp; omega) ?_
                  intro A2 c2 w6 ho6 hg6 hA2
                  refine hK.out _ _ (RPutR.grown hHeld hg6 HBA.out) (fun hHeld => ?_)
                  clear hK K
                  try simp only [Act.put, List.setIfInBounds_toArray, List.set_cons_zero, List.set_cons_succ]
                  obtain ⟨hr7, hv7⟩ := HR5.out.push (((Below.refl _ w5).drew).alloc (Nat.le_refl _) _) hg6 (x.n, x.d) ho6 hA2
                  have kh6 := (show w6.heap[r]? = _ from (hg6.block r (by simp; omega) (fun e => HR5.out.2.2.2 e.symm)).trans ((heap_alloc_old w5.drew _ hlt5).trans HR5.out.1))
                  obtain ⟨-, c61, -, -, hf6, -⟩ := HeadR.facts kh6
                  have HR7 := hid hr7
                  have HV7 := hid hv7
                  clear hr7 hv7 kh6 ho6 hg6 hA2
                  refine wpAnyH_take (i := 19) (oi := { dst := some 77, op := Op.nilCheck (Operand.tmp 58), type := 0, pos := "ref.go:84", after := #[{ on := 0, ground := Ground.data }, { on := 0, ground := Ground.phase }, { on := 1, ground := Ground.phase }, { on := 2, ground := Ground.phase }, { on := 3, ground := Ground.phase }, { on := 4, ground := Ground.phase }, { on := 5, ground := Ground.phase }, { on := 6, ground := Ground.phase }, { on := 7, ground := Ground.phase }, { on := 8, ground := Ground.phase }, { on := 9, ground := Ground.phase }, { on := 10, ground := Ground.phase }, { on := 11, ground := Ground.phase }, { on := 12, ground := Ground.phase }, { on := 13, ground := Ground.phase }, { on := 14, ground := Ground.phase }, { on := 15, ground := Ground.phase }, { on := 16, ground := Ground.phase }, { on := 17, ground := Ground.phase }, { on := 18, ground := Ground.phase }], guard := none }) (v := .pointer (some ⟨r, 0, none⟩)) rfl (by kernel_rfl) (by kernel_rfl) (by kernel_rfl) (fun _ _ _ h => h) (Or.inl ⟨by rfl, fun W hSw => ?_⟩) hHeld ?_
                  · obtain ⟨hs0, hs1, hs2⟩ := hSw
                    go_simp
                  try simp only [Act.put, List.setIfInBounds_toArray, List.set_cons_zero, List.set_cons_succ]
                  refine wpAnyH_take (i := 20) (oi := { dst := some 78, op := Op.fieldAddr 222 (Operand.tmp 77) 1, type := 0, pos := "ref.go:84", after := #[{ on := 19, ground := Ground.data }, { on := 0, ground := Ground.phase }, { on := 1, ground := Ground.phase }, { on := 2, ground := Ground.phase }, { on := 3, ground := Ground.phase }, { on := 4, ground := Ground.phase }, { on := 5, ground := Ground.phase }, { on := 6, ground := Ground.phase }, { on := 7, ground := Ground.phase }, { on := 8, ground := Ground.phase }, { on := 9, ground := Ground.phase }, { on := 10, ground := Ground.phase }, { on := 11, ground := Ground.phase }, { on := 12, ground := Ground.phase }, { on := 13, ground := Ground.phase }, { on := 14, ground := Ground.phase }, { on := 15, ground := Ground.phase }, { on := 16, ground := Ground.phase }, { on := 17, ground := Ground.phase }, { on := 18, ground := Ground.phase }], guard := none }) (v := .pointer (some ⟨r, 1, none⟩)) rfl (by kernel_rfl) (by kernel_rfl) (by kernel_rfl) (fun _ _ _ h => h) (Or.inl ⟨by rfl, fun W hSw => ?_⟩) hHeld ?_
                  · obtain ⟨hs0, hs1, hs2⟩ := hSw
                    go_simp
                  try simp only [Act.put, List.setIfInBounds_toArray, List.set_cons_zero, List.set_cons_succ]
                  refine wpAnyH_ready (rs := [21]) (by kernel_rfl) (by simp) (AllReadyH.cons (o := { dst := none, op := Op.store 220 (Operand.tmp 78) (Operand.tmp 76), type := 0, pos := "ref.go:84", after := #[{ on := 20, ground := Ground.data }, { on := 18, ground := Ground.data }, { on := 18, ground := Ground.chain }, { on := 0, ground := Ground.phase }, { on := 1, ground := Ground.phase }, { on := 2, ground := Ground.phase }, { on := 3, ground := Ground.phase }, { on := 4, ground := Ground.phase }, { on := 5, ground := Ground.phase }, { on := 6, ground := Ground.phase }, { on := 7, ground := Ground.phase }, { on := 8, ground := Ground.phase }, { on := 9, ground := Ground.phase }, { on := 10, ground := Ground.phase }, { on := 11, ground := Ground.phase }, { on := 12, ground := Ground.phase }, { on := 13, ground := Ground.phase }, { on := 14, ground := Ground.phase }, { on := 15, ground := Ground.phase }, { on := 16, ground := Ground.phase }, { on := 17, ground := Ground.phase }, { on := 18, ground := Ground.phase }], guard := none }) rfl (fun K hK => ?_) AllReadyH.nil)
                  go_simp
                  refine hK.out _ _ (RPutR.set hHeld hrr 1 _) (fun hHeld => ?_)
                  clear hK K
                  try simp only [Act.put, List.setIfInBounds_toArray, List.set_cons_zero, List.set_cons_succ]
                  refine wpAnyH_done (by kernel_rfl) ?_ _
                  go_wp2_with fail
                  go_roundw
                  case rel =>
                    have hle := rless_fuse HUP.out.1 HUP.out.2
                    exact ⟨i + 1, by omega, by go_num, hid ⟨A2, c2, _, HR7.out, HV15.out.trans HV7.out, hle.1, hle.2, by show (R1.list ++ [(x.n, x.d, false)]).length = _; rw [List.length_append, HLE.out]; simp; omega, by rw [HGO.out, if_neg H0.out]; rfl⟩⟩
                  case measure => simp [intOf]; omega
            · have hk3 : i = ws.length := by omega
              have hik3 : ¬ (i : Int) < (ws.length : Int) := by omega
              rw [hk3, List.drop_length] at hgo1
              have HGO := hid hgo1
              have HR1 := hid hr1
              have HV1 := hid hv1
              clear hk3 hgo1 hr1 hv1 hlo1 hup1 hll1 HS
              go_wp2_with fail
              go_ret
              exact ⟨by rw [HPUT.out, HGO.out]; rfl, A1, c1, by rw [HPUT.out, HGO.out]; exact HR1.out, HV1.out⟩
end Go.Proofs.Ytppbcdcmpcagdaa
