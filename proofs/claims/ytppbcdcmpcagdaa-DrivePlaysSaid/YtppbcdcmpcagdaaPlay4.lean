/- The steps of the laws on drives, as they came in: of a bulk that is bounded. -/
import Derived.Test.YtppbcdcmpcagdaaPlay3
namespace Go.Proofs.Ytppbcdcmpcagdaa
open Go.RowKit Go.CP Go.ChangeShapes Go.WideShapes Go.Deep

theorem list2 {cs : List Value} {a b : Value} (h : cs.length = 2) (h0 : cs[0]? = some a) (h1 : cs[1]? = some b) : [a, b] = cs := by
  match cs, h with
  | [p, q], _ =>
    simp at h0 h1
    rw [h0, h1]
theorem list4 {cs : List Value} {a b c d : Value} (h : cs.length = 4) (h0 : cs[0]? = some a) (h1 : cs[1]? = some b) (h2 : cs[2]? = some c) (h3 : cs[3]? = some d) : [a, b, c, d] = cs := by
  match cs, h with
  | [p, q, r, s], _ =>
    simp at h0 h1 h2 h3
    rw [h0, h1, h2, h3]
theorem open_writes {H : Type} {enc : TypeId × Value → H} {w : World} {base : Nat} {held : Bool} {n : Nat} {v : Value} {x : DataW H × List MemPlace} (h : DataW.trod enc Try.prog w base (fun _ => true) held n 149 [v] = some x) (hB : Rows.uptoBulk x.1 ≤ 1048576) :
    ∃ (A : Option Addr) (ws : List Wri) (c : Nat), v = .slice A ws.length c ∧ Wrs w A ws ∧ (∀ r ∈ ws, Bytes w r.a r.d ∧ r.d.length ≤ r.c) ∧ ws.length ≤ Rows.uptoBulk x.1 := by
  obtain ⟨A, ws, c, h1, -, h3, h4, -, h6⟩ := open_rows (α := Wri) (B := 1048576) Try.underlying149 Try.underlying136 (by kernel_rfl) (by kernel_rfl) h hB wcells (fun _ => rfl) (fun _ => 1) (fun r => Bytes w r.a r.d ∧ r.d.length ≤ r.c) (fun cs ys n hcl hfd _ => by
    obtain ⟨u0, y0, c0, -, t0⟩ := hfd 0 _ rfl
    obtain ⟨u1, y1, c1, -, t1⟩ := hfd 1 _ rfl
    obtain ⟨z, e0, -, -⟩ := DataW.trod_int Try.underlying3 t0
    obtain ⟨A, l, c, rfl, b1, b2⟩ := open_bytesB Try.underlying22 Try.underlying5 (by kernel_rfl) t1
    obtain rfl : u0 = .int .i64 z := by simpa using e0
    exact ⟨⟨z, A, l, c⟩, list2 hcl c0 c1, ⟨b1, b2⟩, by omega⟩)
  exact ⟨A, ws, c, h1, h3, h4, h6⟩
theorem sum_mono {α : Type} (f g : α → Nat) : ∀ l : List α, (∀ x ∈ l, f x ≤ g x) → (l.map f).sum ≤ (l.map g).sum
  | [], _ => Nat.le_refl _
  | x :: l, h => by
    have h1 := h x List.mem_cons_self
    have h2 := sum_mono f g l fun y hy => h y (List.mem_cons_of_mem _ hy)
    simp only [List.map_cons, List.sum_cons]
    omega
theorem room_le (s : Stp) : s.room ≤ s.ws.length := by
  unfold Stp.room
  split
  · omega
  · exact Nat.le_refl _
theorem open_steps {H : Type} {enc : TypeId × Value → H} {w : World} {base : Nat} {held : Bool} {n : Nat} {v : Value} {x : DataW H × List MemPlace} (h : DataW.trod enc Try.prog w base (fun _ => true) held n 145 [v] = some x) (hB : Rows.uptoBulk x.1 ≤ 1048576) :
    ∃ (A : Option Addr) (ss : List Stp) (c : Nat), v = .slice A ss.length c ∧ ss.length ≤ c ∧ StepsIn w A ss ∧ ss.length ≤ 140737488351232 := by
  obtain ⟨A, ss, c, h1, h2, h3, h4, h5, h6⟩ := open_rows (α := Stp) (B := 1048576) Try.underlying145 Try.underlying151 (by kernel_rfl) (by kernel_rfl) h hB Stp.cells (fun _ => rfl) (fun s => s.ws.length)
    (fun s => (Wrs w s.la s.ws ∧ ∀ r ∈ s.ws, Bytes w r.a r.d ∧ r.d.length ≤ r.c) ∧ (Ints w s.ka s.keep ∧ s.keep.length ≤ 140737488351232 ∧ s.ws.length ≤ 140737488351232) ∧ (-9223372036854775808 ≤ s.what ∧ s.what < 9223372036854775808) ∧ (-9223372036854775808 ≤ s.n ∧ s.n < 9223372036854775808)) (fun cs ys n hcl hfd hb => by
    obtain ⟨u0, y0, c0, -, t0⟩ := hfd 0 _ rfl
    obtain ⟨u1, y1, c1, -, t1⟩ := hfd 1 _ rfl
    obtain ⟨u2, y2, c2, m2, t2⟩ := hfd 2 _ rfl
    obtain ⟨u3, y3, c3, m3, t3⟩ := hfd 3 _ rfl
    have p2 : Rows.uptoBulk y2.1 ≤ Rows.uptoBulkAll (ys.map (·.1)) := bulk_part (List.mem_map.2 ⟨y2, m2, rfl⟩)
    have p3 : Rows.uptoBulk y3.1 ≤ Rows.uptoBulkAll (ys.map (·.1)) := bulk_part (List.mem_map.2 ⟨y3, m3, rfl⟩)
    obtain ⟨z0, e0, -, w0⟩ := DataW.trod_int Try.underlying3 t0
    obtain ⟨z1, e1, -, w1⟩ := DataW.trod_int Try.underlying3 t1
    obtain rfl : u0 = .int .i64 z0 := by simpa using e0
    obtain rfl : u1 = .int .i64 z1 := by simpa using e1
    obtain ⟨la, ws, cl, rfl, q1, q2, q3⟩ := open_writes t2 (by omega)
    obtain ⟨ka, keep, ck, rfl, k1, k2⟩ := open_intsB Try.underlying130 Try.underlying3 (by kernel_rfl) t3
    have l1 : keep.length ≤ 140737488351232 := by omega
    have l2 : ws.length ≤ 140737488351232 := by omega
    have l3 : ws.length ≤ Rows.uptoBulkAll (ys.map (·.1)) + 1 := by omega
    exact ⟨⟨z0, z1, la, ws, cl, ka, keep, ck⟩, list4 hcl c0 c1 c2 c3, ⟨⟨q1, q2⟩, ⟨k1, l1, l2⟩, wf_i64_iff w0, wf_i64_iff w1⟩, l3⟩)
  have hr := sum_mono Stp.room (fun s => s.ws.length) ss fun s _ => room_le s
  exact ⟨A, ss, c, h1, h2, ⟨h3, fun s hs => (h4 s hs).1, fun s hs => (h4 s hs).2.1, fun s hs => (h4 s hs).2.2, by omega⟩, by omega⟩
end Go.Proofs.Ytppbcdcmpcagdaa
