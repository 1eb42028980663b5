/- Slices of bytes that the call itself has made: what an append and a store make of them. -/
import Derived.Test.YtddcfgbembjbhaaDoorProg
import Derived.Test.YtddcfgbembjbhaaDoorMem
import Derived.Maps.AppendAt
import Derived.Deep.AppendLies
namespace Go.Proofs.YtddcfgbembjbhaaDoor
open Go.RowKit
set_option linter.unusedVariables false

theorem info5 : (Tryd.prog.info? 5).map (fun i => (i.zero, i.size, i.bytes)) = some (some (.int .u8 0), 1, 1) := by kernel_rfl

/-- The slice 'A, n, c' is the call's own (its block not below base) and reads as 'l'. -/
def OwnB (w : World) (base : Nat) (A : Option Addr) (n c : Nat) (l : List UInt8) : Prop := w.ownsRow base 5 1 (.slice A n c) n (l.map u8)

section
variable {w w' : World} {base n c : Nat} {A : Option Addr} {l : List UInt8}
theorem OwnB.len (h : OwnB w base A n c l) : l.length = n := by have := h.1; simpa using this
theorem OwnB.form (h : OwnB w base A n c l) : (A = none ∧ n = 0 ∧ c = 0 ∧ l = []) ∨ ∃ g, A = some ⟨g, 0, none⟩ ∧ base ≤ g ∧ g < w.heap.size ∧ n ≤ c := by
  have hl := h.len
  rcases h.2 with ⟨hv, hn⟩ | ⟨g, cap, cur, hv, hb, hg, hnc, _⟩
  · injection hv with h1 h2 h3
    subst h1 h2 h3
    exact .inl ⟨rfl, rfl, rfl, List.eq_nil_of_length_eq_zero hl⟩
  · injection hv with h1 h2 h3
    subst h1 h3
    exact .inr ⟨g, rfl, hb, (Array.getElem?_eq_some_iff.1 hg).1, hnc⟩
theorem OwnB.form_pos (h : OwnB w base A n c l) (hn : 0 < n) : ∃ g, A = some ⟨g, 0, none⟩ ∧ base ≤ g ∧ g < w.heap.size ∧ n ≤ c := by
  rcases h.form with ⟨_, rfl, _⟩ | h
  · omega
  · exact h
theorem OwnB.cell {g : Nat} (h : OwnB w base (some ⟨g, 0, none⟩) n c l) (i : Nat) (hi : i < l.length) : w.cell? ⟨g, i, none⟩ = some (u8 l[i]) := by
  have := World.ownsRow.cells h (g := g) rfl i (u8 l[i]) (by rw [List.getElem?_map, List.getElem?_eq_getElem hi]; rfl)
  have hadd : (⟨g, 0, none⟩ : Addr).add i = ⟨g, i, none⟩ := by unfold Addr.add; split <;> simp_all
  rwa [hadd] at this
theorem OwnB.bytes (h : OwnB w base A n c l) : BytesAt w w.heap.size A n l := by
  refine ⟨h.len, fun hn => ?_⟩
  rcases h.form with ⟨_, rfl, _⟩ | ⟨g, rfl, _, hg, _⟩
  · omega
  · refine ⟨g, 0, rfl, hg, fun j hj => ?_⟩
    rw [Nat.zero_add]
    exact h.cell j hj
theorem OwnB.later (h : OwnB w base A n c l) (hb : Below w.heap.size w w') : OwnB w' base A n c l := by
  refine World.ownsRow.kept (row := none) h ⟨hb.os, hb.tape, hb.output, hb.size, fun k hk _ => hb.block k hk⟩ ?_
  cases Value.ownBlock (.slice A n c) <;> simp
theorem OwnB.alloc (h : OwnB w base A n c l) (o : Obj) : OwnB (w.alloc o) base A n c l := World.ownsRow.alloc h o
theorem OwnB.drew (h : OwnB w base A n c l) : OwnB w.drew base A n c l := h
theorem OwnB.grown {row : Option Nat} (h : OwnB w base A n c l) (hg : w.grownBy w' row) (hne : A.map (·.block) = none ∨ A.map (·.block) ≠ row) : OwnB w' base A n c l := by
  refine World.ownsRow.kept h hg ?_
  cases A
  · exact .inl rfl
  · exact hne.elim (fun h => by cases h) .inr
theorem OwnB.nil (w : World) (base : Nat) : OwnB w base none 0 0 [] := World.ownsRow_nil _ _ _ _
theorem OwnB.empty (w : World) (base g : Nat) (hg : g = w.heap.size) (hb : base ≤ g) : OwnB (w.alloc (.cells #[] 5)) base (some ⟨g, 0, none⟩) 0 0 [] := by
  subst hg
  exact World.ownsRow_made w #[] 0 hb (by simp) (by simp)
theorem OwnB.frozen {g : Nat} (h : OwnB w base (some ⟨g, 0, none⟩) n c l) (i : Nat) : w.frozen? ⟨g, i, none⟩ = false := by
  rcases h.2 with ⟨hv, _⟩ | ⟨g', cap, cur, hv, _, hg, _⟩
  · injection hv with h1; cases h1
  · injection hv with h1 h2 h3
    injection h1 with h1
    injection h1 with h1
    subst h1
    simp [World.frozen?, hg]
theorem OwnB.set {g : Nat} (h : OwnB w base (some ⟨g, 0, none⟩) n c l) (i : Nat) (hi : i < n) (v : UInt8) : OwnB (w.setCell ⟨g, i, none⟩ (u8 v)) base (some ⟨g, 0, none⟩) n c (l.set i v) := by
  have hl := h.len
  rcases h.2 with ⟨hv, _⟩ | ⟨g', cap, cur, hv, hb, hg, hnc, hcm, hcs, htake⟩
  · injection hv with h1; cases h1
  · injection hv with h1 h2 h3
    injection h1 with h1
    injection h1 with h1
    subst h1 h3
    refine ⟨by simp [hl], .inr ⟨g, c, cur.setIfInBounds i (u8 v), rfl, hb, ?_, hnc, hcm, by simpa using hcs, ?_⟩⟩
    · simp [World.setCell, Array.getElem?_modify, hg]
    · rw [Nat.mul_one] at htake ⊢
      rw [Array.toList_setIfInBounds, List.take_set, htake, List.map_set]
/-- Made whole: a block that holds just these bytes. -/
theorem OwnB.lit (w : World) (base g n : Nat) (C : Array Value) (l : List UInt8) (hg : g = w.heap.size) (hb : base ≤ g) (hC : C.toList = l.map u8) (hn : l.length = n) (hm : n ≤ maxLen) : OwnB (w.alloc (.cells C 5)) base (some ⟨g, 0, none⟩) n n l := by
  subst hg
  have hs : C.size = n := by rw [← Array.length_toList, hC, List.length_map, hn]
  refine ⟨by simp [hn], .inr ⟨w.heap.size, n, C, rfl, hb, heap_alloc_new w _, Nat.le_refl _, hm, by omega, ?_⟩⟩
  rw [List.take_of_length_le (by rw [hC]; simp [hn]), hC]
end

set_option maxRecDepth 100000 in
theorem run_append_bytes {w : World} {base n c : Nat} {A : Option Addr} {l : List UInt8} (hown : OwnB w base A n c l) {B m c2 : Nat} {A2 : Option Addr} {l2 : List UInt8} (hr : BytesAt w B A2 m l2)
    (hb : n + m ≤ 140737488355328) (hbase : base ≤ w.heap.size) (ty : TypeId) :
    ∃ A' c' w', (Builtin.append_ #[23, 23] ty #[.slice A n c, .slice A2 m c2]).run Tryd.prog w = .ok (.slice A' (n + m) c') w' ∧ OwnB w' base A' (n + m) c' (l ++ l2) ∧ w.grownBy w' (A.map (·.block)) ∧
      (A'.map (·.block) = A.map (·.block) ∨ A'.map (·.block) = some w.heap.size) := by
  obtain ⟨i0, hi, hz0, hz1, hz2⟩ := info_parts info5
  have hob : Value.ownBlock (.slice A n c) = A.map (·.block) := by cases A <;> rfl
  have fin : ∀ v' w', (Builtin.append_ #[23, 23] ty #[.slice A n c, .slice A2 m c2]).run Tryd.prog w = .ok v' w' → w'.ownsRow base 5 1 v' (n + m) ((l ++ l2).map u8) → w.grownBy w' (Value.ownBlock (.slice A n c)) →
      (v'.ownBlock = Value.ownBlock (.slice A n c) ∨ v'.ownBlock = some w.heap.size) → ∃ A' c' w', (Builtin.append_ #[23, 23] ty #[.slice A n c, .slice A2 m c2]).run Tryd.prog w = .ok (.slice A' (n + m) c') w' ∧ OwnB w' base A' (n + m) c' (l ++ l2) ∧ w.grownBy w' (A.map (·.block)) ∧
      (A'.map (·.block) = A.map (·.block) ∨ A'.map (·.block) = some w.heap.size) := by
    intro v' w' hrun how hg hbl
    rw [hob] at hg hbl
    rcases how.2 with ⟨rfl, hn0⟩ | ⟨g, cap, cur, rfl, _⟩
    · rw [hn0] at how ⊢
      exact ⟨none, 0, w', hrun, how, hg, by simpa [Value.ownBlock] using hbl⟩
    · exact ⟨some ⟨g, 0, none⟩, cap, w', hrun, how, hg, by simpa [Value.ownBlock] using hbl⟩
  rcases Nat.eq_zero_or_pos m with rfl | hm
  · have hl2 : l2 = [] := List.eq_nil_of_length_eq_zero hr.1
    subst hl2
    refine fin (.slice A n c) w ?_ (by simpa [OwnB] using hown) (World.grownBy.refl w _) (.inl rfl)
    rcases hown.2 with ⟨hv, hn⟩ | ⟨g, cap, cur, hv, _, hgg, hnc, hcm, _⟩
    · rw [hv]
      cases A2 <;> simp [Builtin.append_, run_underlying Tryd.underlying23, sizeOf, typeInfo, hi, Builtin.lenOf, Builtin.firstCells, loadCells, loadCellsFrom]
    · rw [hv]
      cases A2 <;> simp [Builtin.append_, run_underlying Tryd.underlying23, sizeOf, typeInfo, hi, Builtin.lenOf, Builtin.firstCells, loadCells, loadCellsFrom, hnc, storeCells]
  · obtain ⟨b, o, rfl, _, hc⟩ := hr.2 hm
    have hl2 := hr.1
    obtain ⟨v', w', hrun, h2, h3, _, h5⟩ := run_append_own_at (P := Tryd.prog) w base 23 ty 5 i0 _ 1 1 Tryd.underlying23 hi hz0 hz1 hz2 rfl (by omega) _ n _ hown ⟨b, o, none⟩ m c2 (l2.map u8) (by simp [hl2])
      (by
        intro j u hu
        rw [List.getElem?_map] at hu
        have hj : j < l2.length := by
          rcases Nat.lt_or_ge j l2.length with h | h
          · exact h
          · rw [List.getElem?_eq_none h] at hu; cases hu
        rw [List.getElem?_eq_getElem hj] at hu
        injection hu with hu
        subst hu
        have hadd : (⟨b, o, none⟩ : Addr).add j = ⟨b, o + j, none⟩ := by unfold Addr.add; split <;> simp_all
        rw [hadd]
        exact hc j hj)
      (by intro u hu; obtain ⟨x, _, rfl⟩ := List.mem_map.1 hu; rfl) (by unfold maxLen; omega) (by omega) hbase
    refine fin v' w' hrun (by simpa using h2) h3 h5

theorem wp_append_bytes {o : Oper} {a : Act} {w : World} {K : Act → World → Prop} {Q : Exit → Act → World → Prop} (s x : Operand)
    (ho : o.op = .call { callee := .builtin .append, args := #[s, x], argTypes := #[23, 23] })
    {base n c : Nat} {A : Option Addr} {l : List UInt8} (hs : a.eval s = .slice A n c) (hown : OwnB w base A n c l) {B m c2 : Nat} {A2 : Option Addr} {l2 : List UInt8} (hx : a.eval x = .slice A2 m c2) (hr : BytesAt w B A2 m l2)
    (hb : n + m ≤ 140737488355328) (hbase : base ≤ w.heap.size)
    (h : ∀ A' c' w', OwnB w' base A' (n + m) c' (l ++ l2) → w.grownBy w' (A.map (·.block)) → (A'.map (·.block) = A.map (·.block) ∨ A'.map (·.block) = some w.heap.size) → K (a.put o.dst (.slice A' (n + m) c')) w') : o.wp Tryd.prog a w K Q := by
  obtain ⟨A', c', w', hrun, h2, h3, h4⟩ := run_append_bytes hown (c2 := c2) hr hb hbase o.type
  unfold Oper.wp execOp
  simp only [ho, resolve, invoke, builtin, Sem.run_bind, Sem.run_pure, Result.andThen_ok, List.map_toArray, List.map_cons, List.map_nil, hs, hx, hrun]
  exact h A' c' w' h2 h3 h4

theorem wpList_append_bytes {ops : Array Oper} {rest : List Oper} {o : Oper} {a : Act} {w : World} {Q : Exit → Act → World → Prop} (hgd : o.guard = none) (s x : Operand)
    (ho : o.op = .call { callee := .builtin .append, args := #[s, x], argTypes := #[23, 23] })
    {base n c : Nat} {A : Option Addr} {l : List UInt8} (hs : a.eval s = .slice A n c) (hown : OwnB w base A n c l) {B m c2 : Nat} {A2 : Option Addr} {l2 : List UInt8} (hx : a.eval x = .slice A2 m c2) (hr : BytesAt w B A2 m l2)
    (hb : n + m ≤ 140737488355328) (hbase : base ≤ w.heap.size)
    (h : ∀ A' c' w', OwnB w' base A' (n + m) c' (l ++ l2) → w.grownBy w' (A.map (·.block)) → (A'.map (·.block) = A.map (·.block) ∨ A'.map (·.block) = some w.heap.size) → wpList Tryd.prog ops Q rest (a.put o.dst (.slice A' (n + m) c')) w') : wpList Tryd.prog ops Q (o :: rest) a w :=
  wpList_plain hgd fun _ hK => wp_append_bytes s x ho hs hown hx hr hb hbase fun A' c' w' h2 h3 h4 => hK _ _ (h A' c' w' h2 h3 h4)
end Go.Proofs.YtddcfgbembjbhaaDoor
