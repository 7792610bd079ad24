/- Contract of package verb: Called. -/
import Derived.Test.YtppbcdcmpcagdaaVerbC
import Derived.Deep.Cut
namespace Go.Proofs.Ytppbcdcmpcagdaa
open Go.RowKit Go.CP

theorem Blk.set3 {W : World} {k : Nat} {t : TypeId} {x0 x1 x2 : Value} (h : Blk W k t [x0, x1, x2]) (a0 a1 a2 : Value) : Blk (((W.setCell ⟨k, 0, none⟩ a0).setCell ⟨k, 1, none⟩ a1).setCell ⟨k, 2, none⟩ a2) k t [a0, a1, a2] :=
  ((h.set 0 a0).set 1 a1).set 2 a2
theorem below3 {B k : Nat} {w W : World} (h : Below B w W) (hk : B ≤ k) (a0 a1 a2 : Value) : Below B w (((W.setCell ⟨k, 0, none⟩ a0).setCell ⟨k, 1, none⟩ a1).setCell ⟨k, 2, none⟩ a2) :=
  ((h.setCell (p := ⟨k, 0, none⟩) hk a0).setCell (p := ⟨k, 1, none⟩) hk a1).setCell (p := ⟨k, 2, none⟩) hk a2
theorem res93 {W : World} {k : Nat} {a0 a1 a2 : Value} (h : Blk W k 121 [a0, a1, a2]) (tmps : Array Value) (ht : tmps.getD 2 undef = .pointer (some ⟨k, 0, none⟩)) :
    (results Try.f93 tmps).run Try.prog W = .ok (.tuple #[.agg #[a0, a1, a2], tmps.getD 3 undef]) W := by
  have ht' : tmps[2]?.getD undef = .pointer (some ⟨k, 0, none⟩) := by simpa using ht
  have c0 := h.cell (j := 0) rfl
  have c1 := h.cell (j := 1) rfl
  have c2 := h.cell (j := 2) rfl
  simp [results, Try.results93, go_sem, ht', c0, c1, c2]
/-- What Called hands back. -/
def RetDecC (b : List UInt8) (w : World) (e : Ending) (w' : World) : Prop :=
  (∃ r, decC b = some r ∧ e = .returned (.tuple #[cval r, .int .i64 0]) ∧ Hid (Below w.heap.size w w')) ∨
  (decC b = none ∧ e = .returned (.tuple #[cval ⟨0, 0, 0⟩, .int .i64 2]) ∧ Hid (Below w.heap.size w w'))
theorem call_form {r : Rc} {w w' : World} {e : Ending} (h : RetCall r w e w') : ∃ A n c, e = .returned (.tuple #[.slice A n c, .int .i64 (if goodC r then 0 else 2)]) ∧ Below w.heap.size w w' := by
  rcases h with ⟨h, A, c, m, he, hr⟩ | ⟨h, he, hr⟩
  · exact ⟨A, m.length, c, by rw [h]; exact he, hr.out.2.2⟩
  · exact ⟨none, 0, 0, by rw [h]; exact he, hr.out⟩
set_option maxHeartbeats 4000000 in
set_option maxRecDepth 100000 in
theorem called_any (B0 : Option Addr) (b : List UInt8) (c : Nat) (w : World) (hb : Bytes w B0 b) (hc : b.length ≤ c) (hl : b.length ≤ 140737488351232) :
    Calls Try.prog 93 #[.slice B0 b.length c] w (RetDecC b w) := by
  have HB0 := hid (body_any 67 B0 b c (w.alloc (.cells #[.int .i64 0, .int .i64 0, .int .i64 0] 121)) (hb.alloc _) hc hl)
  obtain ⟨ok, hok⟩ : ∃ ok, (bodyT 67 b).2 = ok := ⟨_, rfl⟩
  obtain ⟨bd, hbd⟩ : ∃ bd, (bodyT 67 b).1 = bd := ⟨_, rfl⟩
  have HDV : Hid (decC b = if ok = true ∧ endE (rdNs 3 (bd, false)).2.1 (rdNs 3 (bd, false)).2.2 = 0 ∧ goodC (rcOf (rdNs 3 (bd, false)).1) = true then some (rcOf (rdNs 3 (bd, false)).1) else none) := hid (by rw [decC, hok, hbd])
  have HRD : Hid (rdNs 3 (bd, false) = ([(rdN (bd, false)).1, (rdN (rdN (bd, false)).2).1, (rdN (rdN (rdN (bd, false)).2).2).1], (rdN (rdN (rdN (bd, false)).2).2).2)) := hid rfl
  rw [HRD.out] at HDV
  unfold RetBody at HB0
  rw [hok, hbd] at HB0
  clear hb hok hbd HRD
  go_enter Try.func93, Try.ntmps93
  go_wp2_with fail
  refine HB0.out.mono ?_
  clear HB0
  rintro e w1 ⟨g, B, rfl, hf1, hg1, hB1, hb1⟩
  simp only [World.size_alloc] at hg1 hB1
  have HB01 := hid (((Below.refl w.heap.size w).alloc (Nat.le_refl _) (.cells #[.int .i64 0, .int .i64 0, .int .i64 0] 121)).trans (hb1.mono (by simp)))
  have HZ1 := hid ((Blk.new w 121 [.int .i64 0, .int .i64 0, .int .i64 0]).below hb1)
  have HT1 : Hid (Calls Try.prog 46 #[.pointer (some ⟨g, 0, none⟩)] w1 (RetForm g B (.int .i64 ((rdN (bd, false)).1 : Nat)) (rdN (bd, false)).2.1 (rdN (bd, false)).2.2 w1)) := hid (fnum_any g B bd false w1 hf1)
  have HB1 := hid hB1
  have HGW : Hid (w.heap.size + 1 ≤ g ∧ w.heap.size < w1.heap.size) := hid ⟨hg1, by have := hb1.size; simp at this; omega⟩
  obtain ⟨n0, hn0⟩ : ∃ n, (rdN (bd, false)).1 = n := ⟨_, rfl⟩
  obtain ⟨r1, hr1⟩ : ∃ r, (rdN (bd, false)).2 = r := ⟨_, rfl⟩
  rw [hn0, hr1] at HT1 HDV
  clear hn0 hr1 hf1 hg1 hB1 hb1
  go_wp2_with fail
  refine HT1.out.mono ?_
  clear HT1
  rintro e w2 ⟨rfl, hf2, ht2⟩
  have HG2 := hid hf2.lt
  have HZ2 := hid (HZ1.out.turn ht2 (by have := HGW.out; omega))
  have HB2 := hid (HB01.out.trans (ht2.1.mono (by have := HGW.out; omega)))
  have HX3 := hid (Blk.new w2 121 [.int .i64 (n0 : Nat), .int .i64 0, .int .i64 0])
  have HZ3 := hid (HZ2.out.alloc (.cells #[.int .i64 (n0 : Nat), .int .i64 0, .int .i64 0] 121))
  have HB3 := hid (HB2.out.alloc HB2.out.size (.cells #[.int .i64 (n0 : Nat), .int .i64 0, .int .i64 0] 121))
  have HT3 : Hid (Calls Try.prog 46 #[.pointer (some ⟨g, 0, none⟩)] (w2.alloc (.cells #[.int .i64 (n0 : Nat), .int .i64 0, .int .i64 0] 121)) (RetForm g B (.int .i64 ((rdN r1).1 : Nat)) (rdN r1).2.1 (rdN r1).2.2 (w2.alloc (.cells #[.int .i64 (n0 : Nat), .int .i64 0, .int .i64 0] 121)))) := hid (fnum_any g B r1.1 r1.2 _ (hf2.alloc _))
  have HKB : Hid (∀ k, B = some k → k < w2.heap.size) := hid (fun k hk => by have := HB1.out k hk; have := HG2.out; omega)
  obtain ⟨n1, hn1⟩ : ∃ n, (rdN r1).1 = n := ⟨_, rfl⟩
  obtain ⟨r2, hr2⟩ : ∃ r, (rdN r1).2 = r := ⟨_, rfl⟩
  rw [hn1, hr2] at HT3 HDV
  clear hn1 hr2 hf2 ht2 HZ1 HZ2 HB2 HB01
  go_wp2_with fail
  refine HT3.out.mono ?_
  clear HT3
  rintro e w4 ⟨rfl, hf4, ht4⟩
  have hx4 := HX3.out.turn ht4 (by have := HG2.out; omega)
  have c1 := hx4.cell (j := 1) rfl
  have cf := hx4.free
  have HX5 := hid (hx4.set 1 (.int .i64 (n1 : Nat)))
  have HZ5 := hid ((HZ3.out.turn ht4 (by have := HGW.out; omega)).other (k' := w2.heap.size) (j := 1) (u := .int .i64 (n1 : Nat)) (by have := HGW.out; have := HG2.out; omega))
  have HB5 := hid ((HB3.out.trans (ht4.1.mono (by have := HGW.out; omega))).setCell (p := ⟨w2.heap.size, 1, none⟩) (by have := HGW.out; have := HG2.out; show w.heap.size ≤ w2.heap.size; omega) (.int .i64 (n1 : Nat)))
  have HF5 := hid (hf4.turn (Turn.setCell w2.heap.size 1 w4 (.int .i64 (n1 : Nat))) (by have := HG2.out; omega) (fun k hk => by have := HKB.out k hk; omega))
  clear hf4 ht4 HX3 HZ3 HB3 hx4
  go_wp2_with fail
  clear c1 cf
  generalize w4.setCell ⟨w2.heap.size, 1, none⟩ (.int .i64 (n1 : Nat)) = w5 at HX5 HZ5 HB5 HF5 ⊢
  have HT5 : Hid (Calls Try.prog 46 #[.pointer (some ⟨g, 0, none⟩)] w5 (RetForm g B (.int .i64 ((rdN r2).1 : Nat)) (rdN r2).2.1 (rdN r2).2.2 w5)) := hid (fnum_any g B r2.1 r2.2 _ HF5.out)
  obtain ⟨n2, hn2⟩ : ∃ n, (rdN r2).1 = n := ⟨_, rfl⟩
  obtain ⟨r3, hr3⟩ : ∃ r, (rdN r2).2 = r := ⟨_, rfl⟩
  rw [hn2, hr3] at HT5 HDV
  clear hn2 hr3 HF5
  refine HT5.out.mono ?_
  clear HT5
  rintro e w6 ⟨rfl, hf6, ht6⟩
  have hx6 := HX5.out.turn ht6 (by have := HG2.out; omega)
  have c2 := hx6.cell (j := 2) rfl
  have cf := hx6.free
  have e0 : (w6.setCell ⟨w2.heap.size, 2, none⟩ (.int .i64 (n2 : Nat))).cell? ⟨w2.heap.size, 0, none⟩ = some (.int .i64 (n0 : Nat)) := (hx6.set 2 (.int .i64 (n2 : Nat))).cell (j := 0) rfl
  have e1 : (w6.setCell ⟨w2.heap.size, 2, none⟩ (.int .i64 (n2 : Nat))).cell? ⟨w2.heap.size, 1, none⟩ = some (.int .i64 (n1 : Nat)) := (hx6.set 2 (.int .i64 (n2 : Nat))).cell (j := 1) rfl
  have e2 : (w6.setCell ⟨w2.heap.size, 2, none⟩ (.int .i64 (n2 : Nat))).cell? ⟨w2.heap.size, 2, none⟩ = some (.int .i64 (n2 : Nat)) := (hx6.set 2 (.int .i64 (n2 : Nat))).cell (j := 2) rfl
  have q0 := hx6.cell (j := 0) rfl
  have q1 := hx6.cell (j := 1) rfl
  have HX7 := hid (hx6.set 2 (.int .i64 (n2 : Nat)))
  have HZ7 := hid ((HZ5.out.turn ht6 (by have := HGW.out; omega)).other (k' := w2.heap.size) (j := 2) (u := .int .i64 (n2 : Nat)) (by have := HGW.out; have := HG2.out; omega))
  have HB7 := hid ((HB5.out.trans (ht6.1.mono (by have := HGW.out; omega))).setCell (p := ⟨w2.heap.size, 2, none⟩) (by have := HGW.out; have := HG2.out; show w.heap.size ≤ w2.heap.size; omega) (.int .i64 (n2 : Nat)))
  have HF7 := hid (hf6.turn (Turn.setCell w2.heap.size 2 w6 (.int .i64 (n2 : Nat))) (by have := HG2.out; omega) (fun k hk => by have := HKB.out k hk; omega))
  clear hf6 ht6 HX5 HZ5 HB5 hx6
  go_wp2_with fail
  clear c2 cf e0 e1 e2 q0 q1
  generalize w6.setCell ⟨w2.heap.size, 2, none⟩ (.int .i64 (n2 : Nat)) = w7 at HX7 HZ7 HB7 HF7 ⊢
  refine (call_any ⟨(n0 : Nat), (n1 : Nat), (n2 : Nat)⟩ w7).mono ?_
  rintro e w8 hcall
  obtain ⟨A8, n8, c8, rfl, hb8⟩ := call_form hcall
  have HX8 := hid (HX7.out.below hb8)
  have HZ8 := hid (HZ7.out.below hb8)
  have HB8 := hid (below_t HB7.out hb8 HB7.out.size)
  have HF8 := hid (HF7.out.below hb8)
  obtain ⟨gd, hgd⟩ : ∃ gd, goodC ⟨(n0 : Nat), (n1 : Nat), (n2 : Nat)⟩ = gd := ⟨_, rfl⟩
  have HGD : Hid (goodC (rcOf [n0, n1, n2]) = gd) := hid hgd
  rw [hgd]
  clear hcall hb8 HX7 HZ7 HB7 HF7 hgd
  have z0 := HZ8.out.cell (j := 0) rfl
  have z1 := HZ8.out.cell (j := 1) rfl
  have z2 := HZ8.out.cell (j := 2) rfl
  have zf := HZ8.out.free
  have x0 := HX8.out.cell (j := 0) rfl
  have x1 := HX8.out.cell (j := 1) rfl
  have x2 := HX8.out.cell (j := 2) rfl
  cases ok with
  | false =>
    have HNO : Hid (decC b = none) := hid (by rw [HDV.out, if_neg (by simp)])
    cases gd <;>
      (go_wp2_with fail
       refine bodyPost_ret (res93 (k := w.heap.size) (HZ8.out.set3 _ _ _) _ rfl) rfl (.inr ⟨HNO.out, rfl, hid (below3 HB8.out (Nat.le_refl _) _ _ _)⟩))
  | true =>
    have HEC := hid (fend_any g B _ _ w8 HF8.out)
    by_cases hen : endE r3.1 r3.2 = 0
    · rw [hen] at HEC
      have HEN := hid hen
      clear hen
      cases gd with
      | true =>
        have HYES : Hid (decC b = some (rcOf [n0, n1, n2])) := hid (by rw [HDV.out, if_pos ⟨by first | exact True.intro | rfl, HEN.out, HGD.out⟩])
        go_wp2_with fail
        refine HEC.out.mono ?_
        rintro e w9 ⟨rfl, hw9⟩
        rw [hw9]
        clear hw9 w9
        go_wp2_with fail
        refine bodyPost_ret (res93 (k := w.heap.size) (HZ8.out.set3 _ _ _) _ rfl) rfl (.inl ⟨_, HYES.out, rfl, hid (below3 HB8.out (Nat.le_refl _) _ _ _)⟩)
      | false =>
        have HNO : Hid (decC b = none) := hid (by rw [HDV.out, if_neg (by rw [HGD.out]; simp)])
        go_wp2_with fail
        refine HEC.out.mono ?_
        rintro e w9 ⟨rfl, hw9⟩
        rw [hw9]
        clear hw9 w9
        go_wp2_with fail
        refine bodyPost_ret (res93 (k := w.heap.size) (HZ8.out.set3 _ _ _) _ rfl) rfl (.inr ⟨HNO.out, rfl, hid (below3 HB8.out (Nat.le_refl _) _ _ _)⟩)
    · have hne : (((endE r3.1 r3.2 : Nat) : Int) != 0) = true := by rw [bne_iff_ne]; omega
      have HNO : Hid (decC b = none) := hid (by rw [HDV.out, if_neg (by intro h; exact hen h.2.1)])
      clear hen
      cases gd <;>
        (go_wp2_with fail
         refine HEC.out.mono ?_
         rintro e w9 ⟨rfl, hw9⟩
         rw [hw9]
         clear hw9 w9
         go_wp2_with fail
         refine bodyPost_ret (res93 (k := w.heap.size) (HZ8.out.set3 _ _ _) _ rfl) rfl (.inr ⟨HNO.out, rfl, hid (below3 HB8.out (Nat.le_refl _) _ _ _)⟩))
end Go.Proofs.Ytppbcdcmpcagdaa
