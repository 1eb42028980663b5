/- Two journals side by side: the program's and the document's: no walk. -/
import Derived.Test.YtddcfgbembjbhaaDoorJour13
import Derived.Test.YtddcfgbembjbhaaDoorGreat
namespace Go.Proofs.YtddcfgbembjbhaaDoor
open Go.RowKit
set_option linter.unusedVariables false
theorem OwnB.apart {w w' : World} {base n c : Nat} {C : Nat → Prop} {A : Option Addr} {l : List UInt8} (h : OwnB w base A n c l) (hK : Kept C w w') (hd : ∀ k, A.map (·.block) = some k → ¬ C k) : OwnB w' base A n c l := by
  rcases h.2 with h0 | ⟨g, cap, cur, hv, hb, hg, rest⟩
  · exact ⟨h.1, .inl h0⟩
  · refine ⟨h.1, .inr ⟨g, cap, cur, hv, hb, ?_, rest⟩⟩
    have hlt := (Array.getElem?_eq_some_iff.1 hg).1
    injection hv with h1 h2 h3
    exact (hK.block g hlt (hd g (by rw [h1]; rfl))).trans hg
theorem JIn.apart {w w' : World} {t : TypeId} {g : Nat} {C D : Nat → Prop} {J : JV} (h : JIn w t g D J) (hK : Kept C w w') (hd : ∀ k, D k → ¬ C k) : JIn w' t g D J := by
  obtain ⟨A1, n1, c1, A2, n2, c2, h⟩ := h
  exact ⟨A1, n1, c1, A2, n2, c2, (hK.block g h.lt (hd g h.in0)).trans h.blk, h.kept.apart hK (fun k hk => hd k (h.in1 k hk)), h.rest.apart hK (fun k hk => hd k (h.in2 k hk)), h.in0, h.in1, h.in2, h.ap,
    fun k hk => Nat.lt_of_lt_of_le (h.bd k hk) hK.size⟩
theorem JIn.bd {w : World} {t : TypeId} {g : Nat} {C : Nat → Prop} {J : JV} (h : JIn w t g C J) : ∀ k, C k → k < w.heap.size := by
  obtain ⟨_, _, _, _, _, _, h⟩ := h
  exact h.bd
theorem JIn.from_ {w w3 w' : World} {t : TypeId} {g : Nat} {C : Nat → Prop} {J : JV} (h : JIn w' t g (since w3 C w') J) (hs : w.heap.size ≤ w3.heap.size) : JIn w' t g (since w C w') J := by
  obtain ⟨A1, n1, c1, A2, n2, c2, h⟩ := h
  exact ⟨A1, n1, c1, A2, n2, c2, h.from_ hs⟩
/-- The program's journal at g, the document's at g', their blocks apart, all laid since w0. -/
structure Two (w0 : World) (g g' : Nat) (C D : Nat → Prop) (J K : JV) (wr : World) : Prop where
  a : JIn wr 99 g C J
  b : JIn wr 85 g' D K
  ap : ∀ q, C q → ¬ D q
  lc : ∀ q, C q → w0.heap.size ≤ q
  ld : ∀ q, D q → w0.heap.size ≤ q
  bl : Below w0.heap.size w0 wr
section
variable {w0 wr w' : World} {g g' : Nat} {C D : Nat → Prop} {J K J' K' : JV}
theorem Two.first (h : Two w0 g g' C D J K wr) (hJ : JIn w' 99 g (since wr C w') J') (hK : Kept C wr w') : Two w0 g g' (since wr C w') D J' K w' :=
  ⟨hJ, h.b.apart hK (fun k hd hc => h.ap k hc hd), fun q hq hd => hq.elim (fun hc => h.ap q hc hd) (fun hl => by have := h.b.bd q hd; omega), since_ge (w := wr) (w' := w') h.lc h.bl.size, h.ld,
    h.bl.trans (hK.below h.bl.size (fun q _ hq => h.lc q hq))⟩
theorem Two.second (h : Two w0 g g' C D J K wr) (hJ : JIn w' 85 g' (since wr D w') K') (hK : Kept D wr w') : Two w0 g g' C (since wr D w') J K' w' :=
  ⟨h.a.apart hK (fun k hc hd => h.ap k hc hd), hJ, fun q hc hq => hq.elim (fun hd => h.ap q hc hd) (fun hl => by have := h.a.bd q hc; omega), h.lc, since_ge (w := wr) (w' := w') h.ld h.bl.size,
    h.bl.trans (hK.below h.bl.size (fun q _ hq => h.ld q hq))⟩
theorem Two.later (h : Two w0 g g' C D J K wr) (hb : Below wr.heap.size wr w') : Two w0 g g' C D J K w' := ⟨h.a.later hb, h.b.later hb, h.ap, h.lc, h.ld, h.bl.trans (hb.mono h.bl.size)⟩
theorem Two.wrote {E : Nat → Prop} (h : Two w0 g g' C D J K wr) (hK : Kept E wr w') (hE : ∀ q, E q → ¬ C q ∧ ¬ D q ∧ w0.heap.size ≤ q) : Two w0 g g' C D J K w' :=
  ⟨h.a.apart hK (fun q hq he => (hE q he).1 hq), h.b.apart hK (fun q hq he => (hE q he).2.1 hq), h.ap, h.lc, h.ld, h.bl.trans (hK.below h.bl.size (fun q _ hq => (hE q hq).2.2))⟩
theorem Two.size (h : Two w0 g g' C D J K wr) : w0.heap.size ≤ wr.heap.size := h.bl.size
end
theorem refEffectIn (w : World) (g : Nat) (C : Nat → Prop) (J : JV) (h : JIn w 85 g C J) (hf : -9223372036854775808 ≤ J.fuse ∧ J.fuse ≤ 9223372036854775807) :
    Calls Tryd.prog 69 #[.pointer (some ⟨g, 0, none⟩)] w fun e w' => e = .returned (.int .i64 J.eff.1) ∧ JIn w' 85 g (since w C w') J.eff.2 ∧ Kept C w w' := by
  obtain ⟨A1, n1, c1, A2, n2, c2, h⟩ := h
  refine (refEffect w g C J A1 n1 c1 A2 n2 c2 h hf).mono ?_
  rintro e w' ⟨h1, h2, h3⟩
  exact ⟨h1, ⟨_, _, _, _, _, _, h2.to_ w⟩, h3.mono (fun k _ e => e ▸ h.in0)⟩
/-- What holds ahead of each round. -/
def PlayAt (w : World) (g g' s : Nat) (wr : World) : Prop := ∃ C D J, Two w g g' C D J J wr ∧ J.fits ∧ J.size ≤ s
/-- The statement's own copy of a call, in block q. -/
def Copy4 (w : World) (q : Nat) (op : OpV) (A : Option Addr) (k d : Nat) : Prop := w.heap[q]? = some (.cells #[.int .i64 op.what, .int .u8 (op.kind.toNat : Int), .slice A k d, .int .i64 op.num] 80 (0, 0))
section
variable {w w' : World} {q : Nat} {op : OpV} {A : Option Addr} {k d : Nat}
theorem Copy4.lt (h : Copy4 w q op A k d) : q < w.heap.size := (Array.getElem?_eq_some_iff.1 h).1
theorem Copy4.kept {E : Nat → Prop} (h : Copy4 w q op A k d) (hK : Kept E w w') (hq : ¬ E q) : Copy4 w' q op A k d := (hK.block q h.lt hq).trans h
theorem Copy4.later (h : Copy4 w q op A k d) (hb : Below w.heap.size w w') : Copy4 w' q op A k d := (hb.block q h.lt).trans h
theorem Copy4.cells (h : Copy4 w q op A k d) : w.cell? ⟨q, 0, none⟩ = some (.int .i64 op.what) ∧ w.cell? ⟨q, 1, none⟩ = some (.int .u8 (op.kind.toNat : Int)) ∧ w.cell? ⟨q, 2, none⟩ = some (.slice A k d) ∧ w.cell? ⟨q, 3, none⟩ = some (.int .i64 op.num) := by
  refine ⟨?_, ?_, ?_, ?_⟩ <;> (rw [cell_of_row _ _ _ _ _ _ h]; rfl)
end
theorem open_count (J : JV) : J.open.1.1.length ≤ J.kept.length := by
  have h2 := flen_count (frames J.kept)
  have h3 := (frames_are J.kept).2.2.1
  unfold JV.open
  split
  · split
    · simp only; omega
    · simp
  · simp only; omega
/-! ### A row of bytes of the call's own, of whatever values -/
def RowU (w : World) (base : Nat) (A : Option Addr) (n c : Nat) : Prop := ∃ xs, w.ownsRow base 5 1 (.slice A n c) n xs ∧ ∀ v ∈ xs, ∃ z, v = .int .u8 z
theorem OwnB.rowU {w : World} {base n c : Nat} {A : Option Addr} {l : List UInt8} (h : OwnB w base A n c l) : RowU w base A n c := by
  refine ⟨_, h, fun v hv => ?_⟩
  obtain ⟨b, _, rfl⟩ := List.mem_map.1 hv
  exact ⟨_, rfl⟩
theorem RowU.at_ {w : World} {base n c : Nat} {A : Option Addr} (h : RowU w base A n c) {j : Nat} (hj : j < n) :
    ∃ g z, A = some ⟨g, 0, none⟩ ∧ base ≤ g ∧ n ≤ c ∧ w.cell? ⟨g, j, none⟩ = some (.int .u8 z) ∧ w.frozen? ⟨g, j, none⟩ = false ∧ ∀ z', RowU (w.setCell ⟨g, j, none⟩ (.int .u8 z')) base A n c := by
  obtain ⟨xs, ho, hall⟩ := h
  have hl : xs.length = n := by have := ho.1; simpa using this
  have ho' := ho
  rcases ho'.2 with ⟨hv, hn⟩ | ⟨g, cap, cur, hv, hb, hg, hnc, _⟩
  · omega
  · injection hv with h1 h2 h3
    subst h1 h3
    obtain ⟨z, hz⟩ := hall xs[j] (List.getElem_mem (by omega))
    refine ⟨g, z, rfl, hb, hnc, ?_, ho.frozenAt j, fun z' => ⟨_, (ho.stored j (.int .u8 z')).1, fun v hv => ?_⟩⟩
    · rw [ho.cellAt j (by omega), List.getElem?_eq_getElem (by omega), hz]
    · rcases List.mem_or_eq_of_mem_set hv with h4 | rfl
      · exact hall v h4
      · exact ⟨_, rfl⟩
end Go.Proofs.YtddcfgbembjbhaaDoor
