/- Slices of ints that the call itself has made: no walk. -/
import Derived.Test.YtddcfgbembjbhaaDoorLists
namespace Go.Proofs.YtddcfgbembjbhaaDoor
open Go.RowKit
set_option linter.unusedVariables false
theorem info3 : (Tryd.prog.info? 3).map (fun i => (i.zero, i.size, i.bytes)) = some (some (.int .i64 0), 1, 8) := by kernel_rfl
/-- The slice of ints 'A, n, c' is the call's own and reads as 'xs'. -/
def OwnI (w : World) (base : Nat) (A : Option Addr) (n c : Nat) (xs : List Int) : Prop := w.ownsRow base 3 1 (.slice A n c) n (xs.map (.int .i64))
section
variable {w w' : World} {base n c : Nat} {A : Option Addr} {xs : List Int}
theorem OwnI.len (h : OwnI w base A n c xs) : xs.length = n := by have := h.1; simpa using this
theorem OwnI.form (h : OwnI w base A n c xs) : (A = none ∧ n = 0 ∧ c = 0 ∧ xs = []) ∨ ∃ g, A = some ⟨g, 0, none⟩ ∧ base ≤ g ∧ g < w.heap.size ∧ n ≤ c ∧ ∃ C, w.heap[g]? = some (.cells C 3 (0, 0)) := by
  have hl := h.len
  rcases h.2 with ⟨hv, hn⟩ | ⟨g, cap, cur, hv, hb, hg, hnc, _⟩
  · injection hv with h1 h2 h3
    subst h1 h2 h3
    exact .inl ⟨rfl, rfl, rfl, List.eq_nil_of_length_eq_zero hl⟩
  · injection hv with h1 h2 h3
    subst h1 h3
    exact .inr ⟨g, rfl, hb, (Array.getElem?_eq_some_iff.1 hg).1, hnc, _, hg⟩
theorem OwnI.form_pos (h : OwnI w base A n c xs) (hn : 0 < n) : ∃ g, A = some ⟨g, 0, none⟩ ∧ base ≤ g ∧ g < w.heap.size ∧ n ≤ c := by
  rcases h.form with ⟨_, rfl, _⟩ | ⟨g, h1, h2, h3, h4, _⟩
  · omega
  · exact ⟨g, h1, h2, h3, h4⟩
theorem OwnI.cellD {g : Nat} (h : OwnI w base (some ⟨g, 0, none⟩) n c xs) (i : Nat) (hi : i < n) : w.cell? ⟨g, i, none⟩ = some (.int .i64 (xs.getD i 0)) := by
  have hl := h.len
  have := World.ownsRow.cells h (g := g) rfl i (.int .i64 (xs.getD i 0)) (by rw [List.getElem?_map, List.getElem?_eq_getElem (by omega), List.getD_eq_getElem?_getD, List.getElem?_eq_getElem (by omega)]; rfl)
  have hadd : (⟨g, 0, none⟩ : Addr).add i = ⟨g, i, none⟩ := by unfold Addr.add; split <;> simp_all
  rwa [hadd] at this
theorem OwnI.alloc (h : OwnI w base A n c xs) (o : Obj) : OwnI (w.alloc o) base A n c xs := World.ownsRow.alloc h o
theorem OwnI.nil (w : World) (base : Nat) : OwnI w base none 0 0 [] := World.ownsRow_nil _ _ _ _
theorem OwnI.grown {row : Option Nat} (h : OwnI w base A n c xs) (hg : w.grownBy w' row) (hne : A.map (·.block) = none ∨ A.map (·.block) ≠ row) : OwnI w' base A n c xs := by
  refine World.ownsRow.kept h hg ?_
  cases A
  · exact .inl rfl
  · exact hne.elim (fun h => by cases h) .inr
theorem OwnI.later (h : OwnI w base A n c xs) (hb : Below w.heap.size w w') : OwnI w' base A n c xs := by
  refine World.ownsRow.kept (row := none) h ⟨hb.os, hb.tape, hb.output, hb.size, fun k hk _ => hb.block k hk⟩ ?_
  cases Value.ownBlock (.slice A n c) <;> simp
end
theorem below_grownI {w0 w w' : World} {base n c : Nat} {A : Option Addr} {xs : List Int} (hb : Below base w0 w) (hs : base ≤ w.heap.size) (ho : OwnI w base A n c xs) (hg : w.grownBy w' (A.map (·.block))) : Below base w0 w' :=
  hb.grown hg hs fun k hk => by
    rcases ho.form with ⟨rfl, _⟩ | ⟨g, rfl, hgb, _⟩
    · cases hk
    · cases hk; exact hgb
/-- The bytes lie on where the ints turn; the ints where the bytes do. -/
theorem OwnB.beside {w w' : World} {base base2 n c n2 c2 : Nat} {A A2 : Option Addr} {l : List UInt8} {xs : List Int} (h : OwnB w base A n c l) (ho : OwnI w base2 A2 n2 c2 xs) (hg : w.grownBy w' (A2.map (·.block))) : OwnB w' base A n c l := h.grown hg (by
  rcases h.map_form with e | ⟨g, _, e, _, _, C, hC⟩
  · exact .inl e
  · rcases ho.form with ⟨rfl, _⟩ | ⟨g2, rfl, _, _, _, C2, hC2⟩
    · exact .inr fun e' => by rw [e] at e'; cases e'
    · refine .inr fun e' => ?_
      rw [e] at e'
      simp at e'
      subst e'
      rw [hC] at hC2
      cases hC2)
theorem OwnI.beside {w w' : World} {base base2 n c n2 c2 : Nat} {A A2 : Option Addr} {l : List UInt8} {xs : List Int} (h : OwnI w base A n c xs) (ho : OwnB w base2 A2 n2 c2 l) (hg : w.grownBy w' (A2.map (·.block))) : OwnI w' base A n c xs := h.grown hg (by
  rcases h.form with ⟨rfl, _⟩ | ⟨g, rfl, _, _, _, C, hC⟩
  · exact .inl rfl
  · rcases ho.map_form with e | ⟨g2, _, e, _, _, C2, hC2⟩
    · exact .inr fun e' => by rw [e] at e'; cases e'
    · refine .inr fun e' => ?_
      rw [e] at e'
      simp at e'
      subst e'
      rw [hC] at hC2
      cases hC2)
set_option maxRecDepth 100000 in
theorem run_append_int {w : World} {base n c : Nat} {A : Option Addr} {xs : List Int} (hown : OwnI w base A n c xs) {b o : Nat} {x : Int} (hc : w.cell? ⟨b, o, none⟩ = some (.int .i64 x))
    (hb : (n + 1) * 8 ≤ 140737488355328) (hbase : base ≤ w.heap.size) (ty : TypeId) :
    ∃ A' c' w', (Builtin.append_ #[36, 36] ty #[.slice A n c, .slice (some ⟨b, o, none⟩) 1 1]).run Tryd.prog w = .ok (.slice A' (n + 1) c') w' ∧ OwnI w' base A' (n + 1) c' (xs ++ [x]) ∧ w.grownBy w' (A.map (·.block)) := by
  obtain ⟨i0, hi, hz0, hz1, hz2⟩ := info_parts info3
  have hob : Value.ownBlock (.slice A n c) = A.map (·.block) := by cases A <;> rfl
  obtain ⟨v', w', hrun, h2, h3, _, h5⟩ := run_append_own_at (P := Tryd.prog) w base 36 ty 3 i0 _ 1 8 Tryd.underlying36 hi hz0 hz1 hz2 rfl (by omega) _ n _ hown ⟨b, o, none⟩ 1 1 [.int .i64 x] rfl
    (by
      intro j u hu
      rcases j with _ | j
      · simp at hu
        subst hu
        have hadd : (⟨b, o, none⟩ : Addr).add 0 = ⟨b, o, none⟩ := by unfold Addr.add; split <;> simp_all
        rw [hadd]
        exact hc
      · simp at hu)
    (by intro u hu; simp at hu; subst hu; rfl) (by unfold maxLen; omega) (by omega) hbase
  rw [hob] at h3
  rcases h2.2 with ⟨rfl, hn0⟩ | ⟨g, cap, cur, rfl, _⟩
  · omega
  · exact ⟨some ⟨g, 0, none⟩, cap, w', hrun, by unfold OwnI; rw [List.map_append]; exact h2, h3⟩
theorem wpList_append_int {ops : Array Oper} {rest : List Oper} {o : Oper} {a : Act} {w : World} {Q : Exit → Act → World → Prop} (hgd : o.guard = none) (s x : Operand)
    (ho : o.op = .call { callee := .builtin .append, args := #[s, x], argTypes := #[36, 36] })
    {base n c : Nat} {A : Option Addr} {xs : List Int} (hs : a.eval s = .slice A n c) (hown : OwnI w base A n c xs) {b off : Nat} {y : Int} (hx : a.eval x = .slice (some ⟨b, off, none⟩) 1 1) (hc : w.cell? ⟨b, off, none⟩ = some (.int .i64 y))
    (hb : (n + 1) * 8 ≤ 140737488355328) (hbase : base ≤ w.heap.size)
    (h : ∀ A' c' w', OwnI w' base A' (n + 1) c' (xs ++ [y]) → w.grownBy w' (A.map (·.block)) → wpList Tryd.prog ops Q rest (a.put o.dst (.slice A' (n + 1) c')) w') : wpList Tryd.prog ops Q (o :: rest) a w :=
  wpList_plain hgd fun _ hK => by
    obtain ⟨A', c', w', hrun, h2, h3⟩ := run_append_int hown hc hb hbase o.type
    unfold Oper.wp execOp
    simp only [ho, resolve, invoke, builtin, Sem.run_bind, Sem.run_pure, Result.andThen_ok, List.map_toArray, List.map_cons, List.map_nil, hs, hx, hrun]
    exact hK _ _ (h A' c' w' h2 h3)
end Go.Proofs.YtddcfgbembjbhaaDoor
