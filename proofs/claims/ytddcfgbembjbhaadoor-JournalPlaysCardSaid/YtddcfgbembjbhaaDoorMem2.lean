/- More on slices that are read, and frames. -/
import Derived.Test.YtddcfgbembjbhaaDoorMem
import Derived.Deep.Draws
namespace Go.Proofs.YtddcfgbembjbhaaDoor
open Go.RowKit
theorem below_draws {B : Nat} {a w : World} (h : Below B a w) (n : Nat) : Below B a (w.drewN n) := ⟨h.os, h.tape, h.output, h.size, h.block⟩
theorem BytesAt.draws {w : World} {B n : Nat} {A : Option Addr} {l : List UInt8} (h : BytesAt w B A n l) (k : Nat) : BytesAt (w.drewN k) B A n l := h
end Go.Proofs.YtddcfgbembjbhaaDoor
