/- The equality of nodes; node.Put and the reference's Encode at any node; copyholdlaw10's awake. -/
import Derived.Test.YtppbcdcmpcagdaaNodeR
namespace Go.Proofs.Ytppbcdcmpcagdaa
open Go.RowKit Go.CP

theorem part82 (cs : Array Value) (i : Nat) (n : Int) (w : World) (h : cs[i]? = some (.int .i64 n)) : (part 3 cs i).run Try.prog w = .ok (.int .i64 n) w := by
  have h3 : Try.prog.underlying 3 = some (.int .i64) := by kernel_rfl
  simp [part, isAgg, run_underlying h3, h]
theorem eq82 (D : Nat) (a b c d a' b' c' d' : Int) (w : World) : (Op.equalIn (D + 2) 82 (.agg #[.int .i64 a, .int .i64 b, .int .i64 c, .int .i64 d]) (.agg #[.int .i64 a', .int .i64 b', .int .i64 c', .int .i64 d'])).run Try.prog w = .ok (a == a' && b == b' && c == c' && d == d') w := by
  have hu : Try.prog.underlying 82 = some (.array 4 3) := by kernel_rfl
  have h3 : Try.prog.underlying 3 = some (.int .i64) := by kernel_rfl
  have hsz : ∀ w, (sizeOf 3).run Try.prog w = .ok 1 w := fun w => by simp [sizeOf, info3]; rfl
  rw [Op.equalIn]
  simp only [Sem.run_bind, run_underlying hu, Result.andThen_ok, hsz, Std.Legacy.Range.forIn_eq_forIn_range', Std.Legacy.Range.size, Nat.sub_zero, Nat.add_sub_cancel, Nat.div_one]
  have e := fun (x y : Int) (w : World) => run_equalIn_int (P := Try.prog) w D 3 .i64 .i64 x y h3
  have p0 : ∀ w : World, (part 3 #[.int .i64 a, .int .i64 b, .int .i64 c, .int .i64 d] 0).run Try.prog w = .ok (.int .i64 a) w := fun w => part82 _ 0 _ w rfl
  have p1 : ∀ w : World, (part 3 #[.int .i64 a, .int .i64 b, .int .i64 c, .int .i64 d] 1).run Try.prog w = .ok (.int .i64 b) w := fun w => part82 _ 1 _ w rfl
  have p2 : ∀ w : World, (part 3 #[.int .i64 a, .int .i64 b, .int .i64 c, .int .i64 d] 2).run Try.prog w = .ok (.int .i64 c) w := fun w => part82 _ 2 _ w rfl
  have p3 : ∀ w : World, (part 3 #[.int .i64 a, .int .i64 b, .int .i64 c, .int .i64 d] 3).run Try.prog w = .ok (.int .i64 d) w := fun w => part82 _ 3 _ w rfl
  have q0 : ∀ w : World, (part 3 #[.int .i64 a', .int .i64 b', .int .i64 c', .int .i64 d'] 0).run Try.prog w = .ok (.int .i64 a') w := fun w => part82 _ 0 _ w rfl
  have q1 : ∀ w : World, (part 3 #[.int .i64 a', .int .i64 b', .int .i64 c', .int .i64 d'] 1).run Try.prog w = .ok (.int .i64 b') w := fun w => part82 _ 1 _ w rfl
  have q2 : ∀ w : World, (part 3 #[.int .i64 a', .int .i64 b', .int .i64 c', .int .i64 d'] 2).run Try.prog w = .ok (.int .i64 c') w := fun w => part82 _ 2 _ w rfl
  have q3 : ∀ w : World, (part 3 #[.int .i64 a', .int .i64 b', .int .i64 c', .int .i64 d'] 3).run Try.prog w = .ok (.int .i64 d') w := fun w => part82 _ 3 _ w rfl
  rw [show List.range' 0 4 1 = [0, 1, 2, 3] from rfl]
  cases h0 : (a == a')
  · simp only [List.forIn_cons, Sem.run_bind, Nat.mul_one, p0, q0, Result.andThen_ok, e, h0]; simp
  cases h1 : (b == b')
  · simp only [List.forIn_cons, Sem.run_bind, Nat.mul_one, p0, q0, Result.andThen_ok, e, h0]; simp [p1, q1, e, h1]
  cases h2 : (c == c')
  · simp only [List.forIn_cons, Sem.run_bind, Nat.mul_one, p0, q0, Result.andThen_ok, e, h0]; simp [p1, q1, e, h1, p2, q2, h2]
  cases h3' : (d == d')
  · simp only [List.forIn_cons, Sem.run_bind, Nat.mul_one, p0, q0, Result.andThen_ok, e, h0]; simp [p1, q1, e, h1, p2, q2, h2, p3, q3, h3']
  · simp only [List.forIn_cons, Sem.run_bind, Nat.mul_one, p0, q0, Result.andThen_ok, e, h0]; simp [p1, q1, e, h1, p2, q2, h2, p3, q3, h3']

theorem put_any2 (B : Option Addr) (b : List UInt8) (c : Nat) (i : Int) (x : Nod) (w : World) (hb : Bytes w B b) (hc : b.length ≤ c) : Calls Try.prog 72 #[.slice B b.length c, .int .i64 i, .agg #[.int .i64 x.k, .int .i64 x.l, .int .i64 x.g, .int .i64 x.s, .int .i64 x.c, .int .i64 x.d0, .int .i64 x.d1, .int .i64 x.d2, .int .i64 x.d3, .int .i64 x.o, .int .i64 x.t]] w (RetPut b i x w) := by
  by_cases h : b.length = 128 ∧ 0 ≤ i ∧ i < 4
  · have ei : ((i.toNat : Nat) : Int) = i := by omega
    cases hx : soundN x with
    | true =>
      have e : putN b i x = 0 := by rw [putN, if_pos h, hx]; rfl
      obtain ⟨g0, off, rfl, -⟩ := Bytes.openq hb (by omega)
      have := put_ok g0 off b c i.toNat x w hb h.1 (by omega) (by omega) hx
      rw [ei] at this
      rw [h.1]
      exact this.mono fun en w' k => .inl ⟨e, k⟩
    | false =>
      have e : putN b i x = 2 := by rw [putN, if_pos h, hx]; rfl
      have := put_form B c i.toNat x w (by omega) hx
      rw [ei] at this
      rw [h.1]
      exact this.mono fun en w' k => .inr ⟨by rw [e]; decide, by rw [e]; exact k.1, k.2⟩
  · have e : putN b i x = 1 := by rw [putN, if_neg h]
    exact (put_err B b c i x w h).mono fun en w' k => .inr ⟨by rw [e]; decide, by rw [e]; exact k.1, k.2⟩
theorem renc_any (x : Nod) (w : World) (hx : soundN x = true) : Calls Try.prog 78 #[.agg #[.int .i64 x.k, .int .i64 x.l, .int .i64 x.g, .int .i64 x.s, .int .i64 x.c, .int .i64 x.d0, .int .i64 x.d1, .int .i64 x.d2, .int .i64 x.d3, .int .i64 x.o, .int .i64 x.t]] w fun e w' => e = .returned (.string (bstr (encL x))) ∧ Below w.heap.size w w' := by
  obtain ⟨q1, q2, q3, q4, q5, q6⟩ := sound_small hx
  have := rencN_any x.k.toNat x.l.toNat x.g.toNat x.s.toNat x.c.toNat x.d0.toNat x.d1.toNat x.d2.toNat x.d3.toNat x.o.toNat x.t.toNat w q1 q2 q3 q4 q5 q6
  rw [sound_casts hx] at this
  exact this
def eqN (x y : Nod) : Bool := x.k == y.k && (x.l == y.l && (x.g == y.g && (x.s == y.s && (x.c == y.c && ((x.d0 == y.d0 && x.d1 == y.d1 && x.d2 == y.d2 && x.d3 == y.d3) && (x.o == y.o && x.t == y.t))))))
theorem eqN_iff (x y : Nod) : eqN x y = true ↔ x = y := by
  cases x; cases y
  simp [eqN, and_assoc]
theorem info82 : Try.prog.info? 82 = some Try.t82 := by kernel_rfl
theorem partD (X : Nod) (w : World) : (part 82 #[.int .i64 X.k, .int .i64 X.l, .int .i64 X.g, .int .i64 X.s, .int .i64 X.c, .int .i64 X.d0, .int .i64 X.d1, .int .i64 X.d2, .int .i64 X.d3, .int .i64 X.o, .int .i64 X.t] 5).run Try.prog w = .ok (.agg #[.int .i64 X.d0, .int .i64 X.d1, .int .i64 X.d2, .int .i64 X.d3]) w := by
  have hu : Try.prog.underlying 82 = some (.array 4 3) := by kernel_rfl
  have hs : Try.t82.size = 4 := by rfl
  simp [part, isAgg, run_underlying hu, sizeOf, typeInfo, info82, hs]
set_option maxRecDepth 100000 in
theorem eq84 (D : Nat) (x y : Nod) (w : World) : (Op.equalIn (D + 3) 84 (.agg #[.int .i64 x.k, .int .i64 x.l, .int .i64 x.g, .int .i64 x.s, .int .i64 x.c, .int .i64 x.d0, .int .i64 x.d1, .int .i64 x.d2, .int .i64 x.d3, .int .i64 x.o, .int .i64 x.t]) (.agg #[.int .i64 y.k, .int .i64 y.l, .int .i64 y.g, .int .i64 y.s, .int .i64 y.c, .int .i64 y.d0, .int .i64 y.d1, .int .i64 y.d2, .int .i64 y.d3, .int .i64 y.o, .int .i64 y.t])).run Try.prog w = .ok (eqN x y) w := by
  have h3 : Try.prog.underlying 3 = some (.int .i64) := by kernel_rfl
  have e := fun (a b : Int) (w : World) => run_equalIn_int (P := Try.prog) w (D + 1) 3 .i64 .i64 a b h3
  have h82 := fun W => eq82 D x.d0 x.d1 x.d2 x.d3 y.d0 y.d1 y.d2 y.d3 W
  have hf : Try.prog.fieldsOf 84 = #[{ name := "Kind", type := 3, offset := 0, embedded := false, tag := "", pkgPath := "", byteOffset := 0 },
        { name := "Links", type := 3, offset := 1, embedded := false, tag := "", pkgPath := "", byteOffset := 8 },
        { name := "Gen", type := 3, offset := 2, embedded := false, tag := "", pkgPath := "", byteOffset := 16 },
        { name := "Size", type := 3, offset := 3, embedded := false, tag := "", pkgPath := "", byteOffset := 24 },
        { name := "Change", type := 3, offset := 4, embedded := false, tag := "", pkgPath := "", byteOffset := 32 },
        { name := "Direct", type := 82, offset := 5, embedded := false, tag := "", pkgPath := "", byteOffset := 40 },
        { name := "One", type := 3, offset := 9, embedded := false, tag := "", pkgPath := "", byteOffset := 72 },
        { name := "Two", type := 3, offset := 10, embedded := false, tag := "", pkgPath := "", byteOffset := 80 }] := by rw [Program.fieldsOf, Try.underlying84]
  rw [run_equalIn_struct _ _ _ _ _ (by rw [hf]; exact Try.underlying84) (by kernel_rfl), hf]
  have dx := partD x
  have dy := partD y
  have pxk : ∀ w : World, (part 3 #[.int .i64 x.k, .int .i64 x.l, .int .i64 x.g, .int .i64 x.s, .int .i64 x.c, .int .i64 x.d0, .int .i64 x.d1, .int .i64 x.d2, .int .i64 x.d3, .int .i64 x.o, .int .i64 x.t] 0).run Try.prog w = .ok (.int .i64 x.k) w := fun w => part82 _ 0 _ w rfl
  have pyk : ∀ w : World, (part 3 #[.int .i64 y.k, .int .i64 y.l, .int .i64 y.g, .int .i64 y.s, .int .i64 y.c, .int .i64 y.d0, .int .i64 y.d1, .int .i64 y.d2, .int .i64 y.d3, .int .i64 y.o, .int .i64 y.t] 0).run Try.prog w = .ok (.int .i64 y.k) w := fun w => part82 _ 0 _ w rfl
  have pxl : ∀ w : World, (part 3 #[.int .i64 x.k, .int .i64 x.l, .int .i64 x.g, .int .i64 x.s, .int .i64 x.c, .int .i64 x.d0, .int .i64 x.d1, .int .i64 x.d2, .int .i64 x.d3, .int .i64 x.o, .int .i64 x.t] 1).run Try.prog w = .ok (.int .i64 x.l) w := fun w => part82 _ 1 _ w rfl
  have pyl : ∀ w : World, (part 3 #[.int .i64 y.k, .int .i64 y.l, .int .i64 y.g, .int .i64 y.s, .int .i64 y.c, .int .i64 y.d0, .int .i64 y.d1, .int .i64 y.d2, .int .i64 y.d3, .int .i64 y.o, .int .i64 y.t] 1).run Try.prog w = .ok (.int .i64 y.l) w := fun w => part82 _ 1 _ w rfl
  have pxg : ∀ w : World, (part 3 #[.int .i64 x.k, .int .i64 x.l, .int .i64 x.g, .int .i64 x.s, .int .i64 x.c, .int .i64 x.d0, .int .i64 x.d1, .int .i64 x.d2, .int .i64 x.d3, .int .i64 x.o, .int .i64 x.t] 2).run Try.prog w = .ok (.int .i64 x.g) w := fun w => part82 _ 2 _ w rfl
  have pyg : ∀ w : World, (part 3 #[.int .i64 y.k, .int .i64 y.l, .int .i64 y.g, .int .i64 y.s, .int .i64 y.c, .int .i64 y.d0, .int .i64 y.d1, .int .i64 y.d2, .int .i64 y.d3, .int .i64 y.o, .int .i64 y.t] 2).run Try.prog w = .ok (.int .i64 y.g) w := fun w => part82 _ 2 _ w rfl
  have pxs : ∀ w : World, (part 3 #[.int .i64 x.k, .int .i64 x.l, .int .i64 x.g, .int .i64 x.s, .int .i64 x.c, .int .i64 x.d0, .int .i64 x.d1, .int .i64 x.d2, .int .i64 x.d3, .int .i64 x.o, .int .i64 x.t] 3).run Try.prog w = .ok (.int .i64 x.s) w := fun w => part82 _ 3 _ w rfl
  have pys : ∀ w : World, (part 3 #[.int .i64 y.k, .int .i64 y.l, .int .i64 y.g, .int .i64 y.s, .int .i64 y.c, .int .i64 y.d0, .int .i64 y.d1, .int .i64 y.d2, .int .i64 y.d3, .int .i64 y.o, .int .i64 y.t] 3).run Try.prog w = .ok (.int .i64 y.s) w := fun w => part82 _ 3 _ w rfl
  have pxc : ∀ w : World, (part 3 #[.int .i64 x.k, .int .i64 x.l, .int .i64 x.g, .int .i64 x.s, .int .i64 x.c, .int .i64 x.d0, .int .i64 x.d1, .int .i64 x.d2, .int .i64 x.d3, .int .i64 x.o, .int .i64 x.t] 4).run Try.prog w = .ok (.int .i64 x.c) w := fun w => part82 _ 4 _ w rfl
  have pyc : ∀ w : World, (part 3 #[.int .i64 y.k, .int .i64 y.l, .int .i64 y.g, .int .i64 y.s, .int .i64 y.c, .int .i64 y.d0, .int .i64 y.d1, .int .i64 y.d2, .int .i64 y.d3, .int .i64 y.o, .int .i64 y.t] 4).run Try.prog w = .ok (.int .i64 y.c) w := fun w => part82 _ 4 _ w rfl
  have pxo : ∀ w : World, (part 3 #[.int .i64 x.k, .int .i64 x.l, .int .i64 x.g, .int .i64 x.s, .int .i64 x.c, .int .i64 x.d0, .int .i64 x.d1, .int .i64 x.d2, .int .i64 x.d3, .int .i64 x.o, .int .i64 x.t] 9).run Try.prog w = .ok (.int .i64 x.o) w := fun w => part82 _ 9 _ w rfl
  have pyo : ∀ w : World, (part 3 #[.int .i64 y.k, .int .i64 y.l, .int .i64 y.g, .int .i64 y.s, .int .i64 y.c, .int .i64 y.d0, .int .i64 y.d1, .int .i64 y.d2, .int .i64 y.d3, .int .i64 y.o, .int .i64 y.t] 9).run Try.prog w = .ok (.int .i64 y.o) w := fun w => part82 _ 9 _ w rfl
  have pxt : ∀ w : World, (part 3 #[.int .i64 x.k, .int .i64 x.l, .int .i64 x.g, .int .i64 x.s, .int .i64 x.c, .int .i64 x.d0, .int .i64 x.d1, .int .i64 x.d2, .int .i64 x.d3, .int .i64 x.o, .int .i64 x.t] 10).run Try.prog w = .ok (.int .i64 x.t) w := fun w => part82 _ 10 _ w rfl
  have pyt : ∀ w : World, (part 3 #[.int .i64 y.k, .int .i64 y.l, .int .i64 y.g, .int .i64 y.s, .int .i64 y.c, .int .i64 y.d0, .int .i64 y.d1, .int .i64 y.d2, .int .i64 y.d3, .int .i64 y.o, .int .i64 y.t] 10).run Try.prog w = .ok (.int .i64 y.t) w := fun w => part82 _ 10 _ w rfl
  unfold eqN
  cases h0 : (x.k == y.k)
  · simp [Op.eqFields, pxk, pyk, pxl, pyl, pxg, pyg, pxs, pys, pxc, pyc, pxo, pyo, pxt, pyt, e, dx, dy, h82, h0]
  cases h1 : (x.l == y.l)
  · simp [Op.eqFields, pxk, pyk, pxl, pyl, pxg, pyg, pxs, pys, pxc, pyc, pxo, pyo, pxt, pyt, e, dx, dy, h82, h0, h1]
  cases h2 : (x.g == y.g)
  · simp [Op.eqFields, pxk, pyk, pxl, pyl, pxg, pyg, pxs, pys, pxc, pyc, pxo, pyo, pxt, pyt, e, dx, dy, h82, h0, h1, h2]
  cases h3 : (x.s == y.s)
  · simp [Op.eqFields, pxk, pyk, pxl, pyl, pxg, pyg, pxs, pys, pxc, pyc, pxo, pyo, pxt, pyt, e, dx, dy, h82, h0, h1, h2, h3]
  cases h4 : (x.c == y.c)
  · simp [Op.eqFields, pxk, pyk, pxl, pyl, pxg, pyg, pxs, pys, pxc, pyc, pxo, pyo, pxt, pyt, e, dx, dy, h82, h0, h1, h2, h3, h4]
  cases h5 : (x.d0 == y.d0 && x.d1 == y.d1 && x.d2 == y.d2 && x.d3 == y.d3)
  · simp [Op.eqFields, pxk, pyk, pxl, pyl, pxg, pyg, pxs, pys, pxc, pyc, pxo, pyo, pxt, pyt, e, dx, dy, h82, h0, h1, h2, h3, h4, h5]
  cases h6 : (x.o == y.o)
  · simp [Op.eqFields, pxk, pyk, pxl, pyl, pxg, pyg, pxs, pys, pxc, pyc, pxo, pyo, pxt, pyt, e, dx, dy, h82, h0, h1, h2, h3, h4, h5, h6]
  cases h7 : (x.t == y.t)
  · simp [Op.eqFields, pxk, pyk, pxl, pyl, pxg, pyg, pxs, pys, pxc, pyc, pxo, pyo, pxt, pyt, e, dx, dy, h82, h0, h1, h2, h3, h4, h5, h6, h7]
  simp [Op.eqFields, pxk, pyk, pxl, pyl, pxg, pyg, pxs, pys, pxc, pyc, pxo, pyo, pxt, pyt, e, dx, dy, h82, h0, h1, h2, h3, h4, h5, h6, h7]
end Go.Proofs.Ytppbcdcmpcagdaa
