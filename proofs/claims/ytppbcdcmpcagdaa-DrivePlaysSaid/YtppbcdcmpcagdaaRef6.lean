/- The document's drive in memory: an append of a record, at a step of a region that draws its order (for Put). -/
import Derived.Test.YtppbcdcmpcagdaaRef5
namespace Go.Proofs.Ytppbcdcmpcagdaa
open Go.RowKit Go.CP

theorem st_dons {w : World} {ops : Array Oper} {o : Oper} {a : Act} {K : Act → World → Prop} {Q : Exit → Act → World → Prop} {E : Prop} (hgd : o.guard = none) (s x : Operand) (tx : TypeId)
    (ho : o.op = .call { callee := .builtin .append, args := #[s, x], argTypes := #[220, tx] }) (base : Nat)
    {A : Option Addr} {n c : Nat} {xs : List Value} (hs : a.eval s = .slice A n c) (hown : Go.CP.Own w base 224 3 A n c xs)
    {vx : Value} {m : Nat} {news : List Value} (hvx : a.eval x = vx) (hx : Src Try.prog w 3 (.agg #[.int .i64 0, .string ByteArray.empty, .bool false]) tx vx m news)
    (hbytes : (n + m) * 32 ≤ 225000000000000) (hbase : base ≤ w.heap.size)
    (h : ∀ A' c' w', Go.CP.Own w' base 224 3 A' (n + m) c' (xs ++ news) → w.grownBy w' (blockOf A) → K (a.put o.dst (.slice A' (n + m) c')) w') :
    if Region.wanted o (yielded ops a.tmps) = true then Oper.wp Try.prog o a w K Q else E := by
  have hw : Region.wanted o (yielded ops a.tmps) = true := by simp [Region.wanted, hgd]
  rw [if_pos hw]
  exact wp_append_Own' w s x 220 tx ho base 224 Try.t224 (.agg #[.int .i64 0, .string ByteArray.empty, .bool false]) 3 32 Try.underlying220 info224 (by kernel_rfl) (by kernel_rfl) (by kernel_rfl) rfl (by decide) (by decide) (by decide) A n c xs hs hown vx m news hvx hx hbytes hbase fun A' c' w' h1 h2 _ => h A' c' w' h1 h2
end Go.Proofs.Ytppbcdcmpcagdaa
