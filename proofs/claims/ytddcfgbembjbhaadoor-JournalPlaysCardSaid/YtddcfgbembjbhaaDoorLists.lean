/- An append of a whole list of slices: no walk. -/
import Derived.Test.YtddcfgbembjbhaaDoorWFrameGets
namespace Go.Proofs.YtddcfgbembjbhaaDoor
open Go.RowKit
set_option linter.unusedVariables false
/-- The slice of slices 'A, n' holds these values, below block B. -/
def VAt (w : World) (B : Nat) (A : Option Addr) (n : Nat) (vs : List Value) : Prop :=
  vs.length = n ∧ (∀ v ∈ vs, ∃ A2 n2 c2, v = .slice A2 n2 c2) ∧ (0 < n → ∃ b o, A = some ⟨b, o, none⟩ ∧ b < B ∧ ∀ j v, vs[j]? = some v → w.cell? ⟨b, o + j, none⟩ = some v)
theorem VAt.below {w w' : World} {B n : Nat} {A : Option Addr} {vs : List Value} (h : VAt w B A n vs) (hb : Below B w w') : VAt w' B A n vs :=
  ⟨h.1, h.2.1, fun hn => by
    obtain ⟨b, o, e, hB, hc⟩ := h.2.2 hn
    exact ⟨b, o, e, hB, fun j v hj => (hb.cell (p := ⟨b, o + j, none⟩) hB).trans (hc j v hj)⟩⟩
theorem OwnV.empty (w : World) (base g : Nat) (hg : g = w.heap.size) (hb : base ≤ g) : OwnV (w.alloc (.cells #[] 23)) base (some ⟨g, 0, none⟩) 0 0 [] := by
  subst hg
  exact World.ownsRow_made w #[] 0 hb (by simp) (by simp)
/-- What was collected, as values and as lists. -/
theorem Coll.open_lists {w : World} {base nK cK nB cB : Nat} {AK AB : Option Addr} {ks : List UInt8} {bs : List (List UInt8)} (h : Coll w base AK nK cK ks AB nB cB bs) :
    ∃ vs, VAt w w.heap.size AB nB vs ∧ vs.length = bs.length ∧ ∀ (i : Nat) (b : List UInt8), bs[i]? = some b → ∃ A n c, vs[i]? = some (.slice A n c) ∧ BytesAt w w.heap.size A n b := by
  obtain ⟨vs, hk, hv, he⟩ := open_coll h
  refine ⟨vs, ⟨hv.len, fun v hv' => ?_, fun hn => ?_⟩, he.1, fun i b hi => ?_⟩
  · obtain ⟨i, hi⟩ := List.getElem?_of_mem hv'
    have hlt : i < bs.length := by rw [← he.1]; exact (List.getElem?_eq_some_iff.1 hi).1
    obtain ⟨A, n, c, hvi, _, _⟩ := he.2 i _ (List.getElem?_eq_getElem hlt)
    rw [hi] at hvi
    cases hvi
    exact ⟨_, _, _, rfl⟩
  · rcases hv.form with ⟨_, rfl, _⟩ | ⟨g, rfl, _, hg, _⟩
    · omega
    · exact ⟨g, 0, rfl, hg, fun j v hj => by rw [Nat.zero_add]; exact hv.cell j v hj⟩
  · obtain ⟨A, n, c, hvi, ho, _⟩ := he.2 i b hi
    exact ⟨A, n, c, hvi, ho.bytes⟩
theorem OwnV.lists {w : World} {base n c : Nat} {A : Option Addr} {vs : List Value} {bs : List (List UInt8)} (h : OwnV w base A n c vs) (hl : vs.length = bs.length) (hb : ∀ (i : Nat) (b : List UInt8), bs[i]? = some b → ∃ A n c, vs[i]? = some (.slice A n c) ∧ BytesAt w w.heap.size A n b) :
    Lists w w.heap.size A n bs := by
  refine ⟨by rw [← hl, h.len], fun i l hi => ?_⟩
  obtain ⟨A2, n2, c2, hvi, hr⟩ := hb i l hi
  rcases h.form with ⟨_, _, _, e⟩ | ⟨g, rfl, _, hg, _⟩
  · rw [e] at hvi; simp at hvi
  · exact ⟨g, 0, A2, n2, c2, rfl, hg, by rw [Nat.zero_add]; exact h.cell i _ hvi, hr⟩
set_option maxRecDepth 100000 in
theorem run_append_lists {w : World} {base n c : Nat} {A : Option Addr} {vs : List Value} (hown : OwnV w base A n c vs) {B m c2 : Nat} {A2 : Option Addr} {us : List Value} (hr : VAt w B A2 m us)
    (hb : (n + m) * 24 ≤ 140737488355328) (hbase : base ≤ w.heap.size) (ty : TypeId) :
    ∃ A' c' w', (Builtin.append_ #[61, 61] ty #[.slice A n c, .slice A2 m c2]).run Tryd.prog w = .ok (.slice A' (n + m) c') w' ∧ OwnV w' base A' (n + m) c' (vs ++ us) ∧ w.grownBy w' (A.map (·.block)) ∧
      (A'.map (·.block) = A.map (·.block) ∨ A'.map (·.block) = some w.heap.size) := by
  obtain ⟨i0, hi, hz0, hz1, hz2⟩ := info_parts info23
  have hob : Value.ownBlock (.slice A n c) = A.map (·.block) := by cases A <;> rfl
  rcases Nat.eq_zero_or_pos m with rfl | hm
  · have hl2 : us = [] := List.eq_nil_of_length_eq_zero hr.1
    subst hl2
    refine ⟨A, c, w, ?_, by simpa using hown, World.grownBy.refl w _, .inl rfl⟩
    rcases hown.2 with ⟨hv, hn⟩ | ⟨g, cap, cur, hv, _, hgg, hnc, hcm, _⟩
    · injection hv with h1 h2 h3
      subst h1 h2 h3
      cases A2 <;> simp [Builtin.append_, run_underlying Tryd.underlying61, sizeOf, typeInfo, hi, Builtin.lenOf, Builtin.firstCells, loadCells, loadCellsFrom]
    · injection hv with h1 h2 h3
      subst h1 h3
      cases A2 <;> simp [Builtin.append_, run_underlying Tryd.underlying61, sizeOf, typeInfo, hi, Builtin.lenOf, Builtin.firstCells, loadCells, loadCellsFrom, hnc, storeCells]
  · obtain ⟨b, o, rfl, _, hc⟩ := hr.2.2 hm
    obtain ⟨v', w', hrun, h2, h3, _, h5⟩ := run_append_own_at (P := Tryd.prog) w base 61 ty 23 i0 _ 1 24 Tryd.underlying61 hi hz0 hz1 hz2 rfl (by omega) _ n _ hown ⟨b, o, none⟩ m c2 us (by simp [hr.1])
      (by
        intro j u hu
        have hadd : (⟨b, o, none⟩ : Addr).add j = ⟨b, o + j, none⟩ := by unfold Addr.add; split <;> simp_all
        rw [hadd]
        exact hc j u hu)
      (by intro u hu; obtain ⟨_, _, _, rfl⟩ := hr.2.1 u hu; rfl) (by unfold maxLen; omega) (by omega) hbase
    rw [hob] at h3 h5
    rcases h2.2 with ⟨rfl, hn0⟩ | ⟨g, cap, cur, rfl, _⟩
    · omega
    · exact ⟨some ⟨g, 0, none⟩, cap, w', hrun, h2, h3, by simpa [Value.ownBlock] using h5⟩
theorem step_append_lists {ops : Array Oper} {o : Oper} {a : Act} {w : World} {K : Act → World → Prop} {Q : Exit → Act → World → Prop} {E : Prop} (hgd : Region.wanted o (yielded ops a.tmps) = true) (s x : Operand)
    (ho : o.op = .call { callee := .builtin .append, args := #[s, x], argTypes := #[61, 61] })
    {base n c : Nat} {A : Option Addr} {vs : List Value} (hs : a.eval s = .slice A n c) (hown : OwnV w base A n c vs) {B m c2 : Nat} {A2 : Option Addr} {us : List Value} (hx : a.eval x = .slice A2 m c2) (hr : VAt w B A2 m us)
    (hb : (n + m) * 24 ≤ 140737488355328) (hbase : base ≤ w.heap.size)
    (h : ∀ A' c' w', OwnV w' base A' (n + m) c' (vs ++ us) → w.grownBy w' (A.map (·.block)) → (A'.map (·.block) = A.map (·.block) ∨ A'.map (·.block) = some w.heap.size) → K (a.put o.dst (.slice A' (n + m) c')) w') :
    if Region.wanted o (yielded ops a.tmps) = true then Oper.wp Tryd.prog o a w K Q else E := by
  rw [if_pos hgd]
  obtain ⟨A', c', w', hrun, h2, h3, h4⟩ := run_append_lists hown (c2 := c2) hr hb hbase o.type
  unfold Oper.wp execOp
  simp only [ho, resolve, invoke, builtin, Sem.run_bind, Sem.run_pure, Result.andThen_ok, List.map_toArray, List.map_cons, List.map_nil, hs, hx, hrun]
  exact h A' c' w' h2 h3 h4
end Go.Proofs.YtddcfgbembjbhaaDoor
