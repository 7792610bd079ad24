/- Contract of tree.Decode. -/
import Derived.Test.YtafofpnfpkbfpaaTree3
import Derived.RegionTactic
namespace Go.Proofs.Ytafofpnfpkbfpaa
open Go.RowKit Go.CP

theorem info3 : Try.prog.info? 3 = some Try.t3 := by kernel_rfl
theorem mk_ints {w : World} {ops : Array Oper} {rest : List Oper} {o : Oper} {a : Act} {Q : Exit → Act → World → Prop} (hgd : o.guard = none) (ln cp : Operand)
    (ho : o.op = .makeSlice 22 ln cp) {k k' : IntKind} {m : Nat} (hl : a.eval ln = .int k m) (hc : a.eval cp = .int k' m) (hbytes : m ≤ 17592186044416)
    (h : ∀ w', Own w' w.heap.size 3 1 (some ⟨w.heap.size, 0, none⟩) m m ((List.replicate m (0 : Int)).map iv) → w.grownBy w' none → w'.heap.size = w.heap.size + 1 →
      wpList Try.prog ops Q rest (a.put o.dst (.slice (some ⟨w.heap.size, 0, none⟩) m m)) w') : wpList Try.prog ops Q (o :: rest) a w :=
  wpList_make_Own w hgd ln cp 22 ho 3 Try.t3 (.int .i64 0) 1 Try.underlying22 info3 (by kernel_rfl) (by kernel_rfl) k k' m hl hc (by rw [show Try.t3.bytes = 8 from by kernel_rfl]; omega) (by unfold maxLen; omega)
    fun w' hw ho hg => h w' (by rw [Nat.mul_one, show (Value.int IntKind.i64 0).cells = #[Value.int .i64 0] from rfl, madeCells_one] at ho; rw [List.map_replicate]; exact ho) hg (by rw [hw]; simp)

def dec2 (b : List UInt8) (i : Nat) : Int := ((b.getD (2 * i) 0).toNat : Int) + 256 * ((b.getD (2 * i + 1) 0).toNat : Int)
def decP (b : List UInt8) (k : Nat) : List Int := (List.range k).map (dec2 b)
theorem decP_len (b : List UInt8) (k : Nat) : (decP b k).length = k := by simp [decP]
theorem decP_succ (b : List UInt8) (k : Nat) : decP b (k + 1) = decP b k ++ [dec2 b k] := by simp [decP, List.range_succ]

theorem or_spell (x y : UInt8) : bits .or .i64 (x.toNat : Int) ((y.toNat : Int) * 256) = (x.toNat : Int) + 256 * (y.toNat : Int) := by
  have hx := x.toNat_lt
  have hy := y.toNat_lt
  have h := (bits_nat .i64 48 (by decide) (fun n h0 h1 => by rw [IntKind.wrap_i64]; omega) x.toNat (y.toNat * 256) (by omega) (by omega)).2
  have e : x.toNat ||| y.toNat * 256 = x.toNat + 256 * y.toNat := by
    rw [Nat.or_comm, Nat.mul_comm, show (256 : Nat) = 2 ^ 8 from rfl, ← Nat.two_pow_add_eq_or_of_lt hx]
    omega
  rw [e] at h
  rw [show ((y.toNat : Int) * 256) = ((y.toNat * 256 : Nat) : Int) from by simp, h]
  simp

theorem decode_len (B : Option Addr) (n c : Nat) (w : World) (h : n ≠ 128) :
    Calls Try.prog 17 #[.slice B n c] w fun e w' => e = .returned (.tuple #[.slice none 0 0, .int .i64 2]) ∧ Below w.heap.size w w' := by
  have hq : ((n : Int) != 128) = true := by rw [bne_iff_ne]; omega
  go_enter Try.func17, Try.ntmps17
  go_wp2
  go_ret2
  exact ⟨rfl, Below.refl _ _⟩

theorem dec_set (b : List UInt8) (i : Nat) (hi : i < 8) : ((decP b i ++ List.replicate (8 - i) (0 : Int)).map iv).set i (.int .i64 (dec2 b i)) = (decP b (i + 1) ++ List.replicate (8 - (i + 1)) (0 : Int)).map iv := by
  rw [show 8 - i = 8 - (i + 1) + 1 from by omega, List.replicate_succ, decP_succ]
  have hl := decP_len b i
  rw [← List.map_set (f := iv)]
  congr 1
  have : i = (decP b i).length := hl.symm
  rw [List.set_append_right _ _ (by omega), hl, Nat.sub_self, List.set_cons_zero]
  simp
theorem encP_len (l : List Int) (h : l.length = 8) : (encP l).length = 128 := by simp [encP, enc2_len, h]

def decOk (b : List UInt8) : Bool := !badB (decP b 8) && decide (encP (decP b 8) = b)

def Dec1 (b : List UInt8) (w : World) : Ending → World → Prop :=
  fun e w' => (decOk b = true ∧ RetOwn2 w 3 1 8 ((decP b 8).map iv) (.int .i64 0) e w') ∨ (decOk b = false ∧ e = .returned (.tuple #[.slice none 0 0, .int .i64 2]) ∧ Below w.heap.size w w')

theorem decode_one (B : Option Addr) (b : List UInt8) (c : Nat) (w : World) (hb : Bytes w B b) (h : b.length = 128) :
    Calls Try.prog 17 #[.slice B b.length c] w (Dec1 b w) := by
  have hq : ((b.length : Int) != 128) = false := by rw [bne_eq_false_iff_eq]; omega
  have H := hid h
  clear h
  go_enter Try.func17, Try.ntmps17
  go_wp2_with (at_make; refine mk_ints (m := 8) rfl _ _ rfl rfl rfl (by omega) ?_; intro w1 ho1 hg1 hz1)
  go_loopw [14] (fun jv wr => ∃ i : Nat, i ≤ 8 ∧ jv = .int .i64 i ∧ Own wr w.heap.size 3 1 (some ⟨w.heap.size, 0, none⟩) 8 8 ((decP b i ++ List.replicate (8 - i) 0).map iv) ∧ Below w.heap.size w wr) (fun iv _ => 8 - (intOf iv).toNat)
  case atStart => exact ⟨0, by omega, rfl, by simpa [decP] using ho1, Below.of_grown hg1 (Nat.le_refl _) (by simp)⟩
  case round =>
    clear ho1 hg1 hz1
    obtain ⟨i, hi, rfl, ho, hbel⟩ := hrel
    by_cases hlt : i < 8
    · obtain ⟨b1, o1, rfl, hc1⟩ := Bytes.openq (hb.below hbel (Nat.le_refl _)) (by have := H.out; omega)
      obtain ⟨x, hx⟩ := get_of_lt b (i := 2 * i) (by have := H.out; omega)
      obtain ⟨y, hy⟩ := get_of_lt b (i := 2 * i + 1) (by have := H.out; omega)
      have hd1 := hc1 _ _ hx
      have hd2 := hc1 _ _ hy
      have hlen : 2 * i + 1 < b.length := by have := H.out; omega
      have HX := hid hx
      have HY := hid hy
      have hfr := ho.free rfl i
      have hcs := Own.cells ho
      obtain ⟨g', off', e1, hc2⟩ := Ints.openq hcs (by simp; omega)
      cases e1
      obtain ⟨z, hz⟩ := get_of_lt (decP b i ++ List.replicate (8 - i) 0) (i := i) (by simp [decP_len]; omega)
      have hd3 := hc2 _ _ hz
      simp only [Nat.zero_add] at hd3
      have hxl := x.toNat_lt
      have hyl := y.toNat_lt
      clear hc1 hc2 hx hy hz hcs
      go_wp2_with fail
      go_region
      go_wp2_with fail
      go_roundw
      case rel =>
        refine ⟨i + 1, by omega, by go_num, ?_, (hbel.setCell (Nat.le_refl _) _).drew⟩
        have hd : dec2 b i = (x.toNat : Int) + 256 * (y.toNat : Int) := by simp [dec2, List.getD, HX.out, HY.out]
        rw [or_spell, ← hd, ← dec_set b i hlt]
        exact (ho.set rfl i _).drew
      case measure => simp [intOf]; omega
    · have hk : i = 8 := by omega
      have HK := hid hk
      have ho8 : Own wr w.heap.size 3 1 (some ⟨w.heap.size, 0, none⟩) 8 8 ((decP b 8).map iv) := by subst hk; simpa using ho
      clear hk ho
      by_cases hbad : badB (decP b 8) = true
      · have he := encode_err (some ⟨w.heap.size, 0, none⟩) (decP b 8) 8 wr ho8.cells (by rw [decP_len]; omega) (.inr hbad)
        rw [decP_len] at he
        have hdk : decOk b = false := by simp [decOk, hbad]
        have HD := hid hdk
        clear hdk hbad
        go_wp2_with fail
        refine he.mono ?_
        rintro e wr ⟨rfl, rfl⟩
        clear he
        go_wp2
        go_ret2
        exact .inr ⟨HD.out, rfl, hbel⟩
      · have hbad' : badB (decP b 8) = false := by simpa using hbad
        have he := encode_ok (some ⟨w.heap.size, 0, none⟩) (decP b 8) 8 wr ho8.cells (decP_len _ _) hbad'
        rw [decP_len] at he
        have HB := hid hbad'
        clear hbad hbad'
        go_wp2_with fail
        refine he.mono ?_
        rintro e w2 ⟨A2, c2, rfl, ho2, hb2⟩
        clear he
        have hq2 := equal_any A2 B (encP (decP b 8)) b c2 c w2 ho2.cells (hb.below (hbel.trans (hb2.mono hbel.size)) (Nat.le_refl _))
        rw [encP_len _ (decP_len _ _)] at hq2
        by_cases heq : encP (decP b 8) = b
        · have hd : decide (encP (decP b 8) = b) = true := by simpa using heq
          rw [hd] at hq2
          have HQ := hid hq2
          have hdk : decOk b = true := by simp [decOk, HB.out, heq]
          have HD := hid hdk
          clear hdk heq hd hq2
          go_wp2_with (go_at_call 30; refine HQ.out.mono ?_; rintro e w2 ⟨rfl, rfl⟩)
          go_ret2
          exact .inl ⟨HD.out, _, _, rfl, ho8.below hb2 (Nat.le_refl _), hbel.trans (hb2.mono hbel.size)⟩
        · have hd : decide (encP (decP b 8) = b) = false := by simpa using heq
          rw [hd] at hq2
          have HQ := hid hq2
          have hdk : decOk b = false := by simp [decOk, HB.out, heq]
          have HD := hid hdk
          clear hdk heq hd hq2
          go_wp2_with (go_at_call 30; refine HQ.out.mono ?_; rintro e w2 ⟨rfl, rfl⟩)
          go_ret2
          exact .inr ⟨HD.out, rfl, hbel.trans (hb2.mono hbel.size)⟩
end Go.Proofs.Ytafofpnfpkbfpaa
