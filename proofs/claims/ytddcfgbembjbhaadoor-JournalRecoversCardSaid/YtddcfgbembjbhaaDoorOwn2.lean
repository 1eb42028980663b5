/- An append of bytes at a step of a statement whose order is open. -/
import Derived.Test.YtddcfgbembjbhaaDoorOwn
namespace Go.Proofs.YtddcfgbembjbhaaDoor
open Go.RowKit
theorem step_append_bytes {ops : Array Oper} {o : Oper} {a : Act} {w : World} {K : Act → World → Prop} {Q : Exit → Act → World → Prop} {E : Prop} (hgd : Region.wanted o (yielded ops a.tmps) = true) (s x : Operand)
    (ho : o.op = .call { callee := .builtin .append, args := #[s, x], argTypes := #[23, 23] })
    {base n c : Nat} {A : Option Addr} {l : List UInt8} (hs : a.eval s = .slice A n c) (hown : OwnB w base A n c l) {B m c2 : Nat} {A2 : Option Addr} {l2 : List UInt8} (hx : a.eval x = .slice A2 m c2) (hr : BytesAt w B A2 m l2)
    (hb : n + m ≤ 140737488355328) (hbase : base ≤ w.heap.size)
    (h : ∀ A' c' w', OwnB w' base A' (n + m) c' (l ++ l2) → w.grownBy w' (A.map (·.block)) → (A'.map (·.block) = A.map (·.block) ∨ A'.map (·.block) = some w.heap.size) → K (a.put o.dst (.slice A' (n + m) c')) w') :
    if Region.wanted o (yielded ops a.tmps) = true then Oper.wp Tryd.prog o a w K Q else E := by
  rw [if_pos hgd]
  exact wp_append_bytes s x ho hs hown hx hr hb hbase h
end Go.Proofs.YtddcfgbembjbhaaDoor
