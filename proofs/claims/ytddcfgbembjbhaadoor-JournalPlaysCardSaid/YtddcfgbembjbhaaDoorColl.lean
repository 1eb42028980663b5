/- Lists of bytes that the call itself has made; kinds and bodies that are collected: no walk. -/
import Derived.Test.YtddcfgbembjbhaaDoorFrame6
import Derived.RangeFuncBox
namespace Go.Proofs.YtddcfgbembjbhaaDoor
open Go.RowKit
set_option linter.unusedVariables false

theorem info23 : (Tryd.prog.info? 23).map (fun i => (i.zero, i.size, i.bytes)) = some (some (.slice none 0 0), 1, 24) := by kernel_rfl

/-- The slice of slices 'A, n, c' is the call's own and holds the values 'vs'. -/
def OwnV (w : World) (base : Nat) (A : Option Addr) (n c : Nat) (vs : List Value) : Prop := w.ownsRow base 23 1 (.slice A n c) n vs
section
variable {w w' : World} {base n c : Nat} {A : Option Addr} {vs : List Value}
theorem OwnV.len (h : OwnV w base A n c vs) : vs.length = n := by have := h.1; simpa using this
theorem OwnV.form (h : OwnV w base A n c vs) : (A = none ∧ n = 0 ∧ c = 0 ∧ vs = []) ∨ ∃ g, A = some ⟨g, 0, none⟩ ∧ base ≤ g ∧ g < w.heap.size ∧ n ≤ c ∧ ∃ C, w.heap[g]? = some (.cells C 23 (0, 0)) := by
  have hl := h.len
  rcases h.2 with ⟨hv, hn⟩ | ⟨g, cap, cur, hv, hb, hg, hnc, _⟩
  · injection hv with h1 h2 h3
    subst h1 h2 h3
    exact .inl ⟨rfl, rfl, rfl, List.eq_nil_of_length_eq_zero hl⟩
  · injection hv with h1 h2 h3
    subst h1 h3
    exact .inr ⟨g, rfl, hb, (Array.getElem?_eq_some_iff.1 hg).1, hnc, _, hg⟩
theorem OwnV.cap (h : OwnV w base A n c vs) : n ≤ c := by
  rcases h.form with ⟨_, rfl, rfl, _⟩ | ⟨_, _, _, _, h, _⟩
  · exact Nat.le_refl _
  · exact h
theorem OwnV.cell {g : Nat} (h : OwnV w base (some ⟨g, 0, none⟩) n c vs) (i : Nat) (v : Value) (hi : vs[i]? = some v) : w.cell? ⟨g, i, none⟩ = some v := by
  have := World.ownsRow.cells h (g := g) rfl i v hi
  have hadd : (⟨g, 0, none⟩ : Addr).add i = ⟨g, i, none⟩ := by unfold Addr.add; split <;> simp_all
  rwa [hadd] at this
theorem OwnV.alloc (h : OwnV w base A n c vs) (o : Obj) : OwnV (w.alloc o) base A n c vs := World.ownsRow.alloc h o
theorem OwnV.grown {row : Option Nat} (h : OwnV w base A n c vs) (hg : w.grownBy w' row) (hne : A.map (·.block) = none ∨ A.map (·.block) ≠ row) : OwnV w' base A n c vs := by
  refine World.ownsRow.kept h hg ?_
  cases A
  · exact .inl rfl
  · exact hne.elim (fun h => by cases h) .inr
theorem OwnV.later (h : OwnV w base A n c vs) (hb : Below w.heap.size w w') : OwnV w' base A n c vs := by
  refine World.ownsRow.kept (row := none) h ⟨hb.os, hb.tape, hb.output, hb.size, fun k hk _ => hb.block k hk⟩ ?_
  cases Value.ownBlock (.slice A n c) <;> simp
theorem OwnV.nil (w : World) (base : Nat) : OwnV w base none 0 0 [] := World.ownsRow_nil _ _ _ _
end

set_option maxRecDepth 100000 in
/-- One slice of bytes more. -/
theorem run_append_list {w : World} {base n c : Nat} {A : Option Addr} {vs : List Value} (hown : OwnV w base A n c vs) {b o : Nat} {A2 : Option Addr} {n2 c2 : Nat} (hc : w.cell? ⟨b, o, none⟩ = some (.slice A2 n2 c2))
    (hb : (n + 1) * 24 ≤ 140737488355328) (hbase : base ≤ w.heap.size) (ty : TypeId) :
    ∃ A' c' w', (Builtin.append_ #[61, 61] ty #[.slice A n c, .slice (some ⟨b, o, none⟩) 1 1]).run Tryd.prog w = .ok (.slice A' (n + 1) c') w' ∧ OwnV w' base A' (n + 1) c' (vs ++ [.slice A2 n2 c2]) ∧ w.grownBy w' (A.map (·.block)) ∧
      (A'.map (·.block) = A.map (·.block) ∨ A'.map (·.block) = some w.heap.size) := by
  obtain ⟨i0, hi, hz0, hz1, hz2⟩ := info_parts info23
  have hob : Value.ownBlock (.slice A n c) = A.map (·.block) := by cases A <;> rfl
  obtain ⟨v', w', hrun, h2, h3, _, h5⟩ := run_append_own_at (P := Tryd.prog) w base 61 ty 23 i0 _ 1 24 Tryd.underlying61 hi hz0 hz1 hz2 rfl (by omega) _ n _ hown ⟨b, o, none⟩ 1 1 [.slice A2 n2 c2] rfl
    (by
      intro j u hu
      rcases j with _ | j
      · simp at hu
        subst hu
        have hadd : (⟨b, o, none⟩ : Addr).add 0 = ⟨b, o, none⟩ := by unfold Addr.add; split <;> simp_all
        rw [hadd]
        exact hc
      · simp at hu)
    (by intro u hu; simp at hu; subst hu; rfl) (by unfold maxLen; omega) (by omega) hbase
  rw [hob] at h3 h5
  rcases h2.2 with ⟨rfl, hn0⟩ | ⟨g, cap, cur, rfl, _⟩
  · omega
  · exact ⟨some ⟨g, 0, none⟩, cap, w', hrun, h2, h3, by simpa [Value.ownBlock] using h5⟩
theorem wp_append_list {o : Oper} {a : Act} {w : World} {K : Act → World → Prop} {Q : Exit → Act → World → Prop} (s x : Operand)
    (ho : o.op = .call { callee := .builtin .append, args := #[s, x], argTypes := #[61, 61] })
    {base n c : Nat} {A : Option Addr} {vs : List Value} (hs : a.eval s = .slice A n c) (hown : OwnV w base A n c vs) {b off : Nat} {A2 : Option Addr} {n2 c2 : Nat} (hx : a.eval x = .slice (some ⟨b, off, none⟩) 1 1) (hc : w.cell? ⟨b, off, none⟩ = some (.slice A2 n2 c2))
    (hb : (n + 1) * 24 ≤ 140737488355328) (hbase : base ≤ w.heap.size)
    (h : ∀ A' c' w', OwnV w' base A' (n + 1) c' (vs ++ [.slice A2 n2 c2]) → w.grownBy w' (A.map (·.block)) → (A'.map (·.block) = A.map (·.block) ∨ A'.map (·.block) = some w.heap.size) → K (a.put o.dst (.slice A' (n + 1) c')) w') : o.wp Tryd.prog a w K Q := by
  obtain ⟨A', c', w', hrun, h2, h3, h4⟩ := run_append_list hown hc hb hbase o.type
  unfold Oper.wp execOp
  simp only [ho, resolve, invoke, builtin, Sem.run_bind, Sem.run_pure, Result.andThen_ok, List.map_toArray, List.map_cons, List.map_nil, hs, hx, hrun]
  exact h A' c' w' h2 h3 h4
theorem wpList_append_list {ops : Array Oper} {rest : List Oper} {o : Oper} {a : Act} {w : World} {Q : Exit → Act → World → Prop} (hgd : o.guard = none) (s x : Operand)
    (ho : o.op = .call { callee := .builtin .append, args := #[s, x], argTypes := #[61, 61] })
    {base n c : Nat} {A : Option Addr} {vs : List Value} (hs : a.eval s = .slice A n c) (hown : OwnV w base A n c vs) {b off : Nat} {A2 : Option Addr} {n2 c2 : Nat} (hx : a.eval x = .slice (some ⟨b, off, none⟩) 1 1) (hc : w.cell? ⟨b, off, none⟩ = some (.slice A2 n2 c2))
    (hb : (n + 1) * 24 ≤ 140737488355328) (hbase : base ≤ w.heap.size)
    (h : ∀ A' c' w', OwnV w' base A' (n + 1) c' (vs ++ [.slice A2 n2 c2]) → w.grownBy w' (A.map (·.block)) → (A'.map (·.block) = A.map (·.block) ∨ A'.map (·.block) = some w.heap.size) → wpList Tryd.prog ops Q rest (a.put o.dst (.slice A' (n + 1) c')) w') : wpList Tryd.prog ops Q (o :: rest) a w :=
  wpList_plain hgd fun _ hK => wp_append_list s x ho hs hown hx hc hb hbase fun A' c' w' h2 h3 h4 => hK _ _ (h A' c' w' h2 h3 h4)
theorem step_append_list {ops : Array Oper} {o : Oper} {a : Act} {w : World} {K : Act → World → Prop} {Q : Exit → Act → World → Prop} {E : Prop} (hgd : Region.wanted o (yielded ops a.tmps) = true) (s x : Operand)
    (ho : o.op = .call { callee := .builtin .append, args := #[s, x], argTypes := #[61, 61] })
    {base n c : Nat} {A : Option Addr} {vs : List Value} (hs : a.eval s = .slice A n c) (hown : OwnV w base A n c vs) {b off : Nat} {A2 : Option Addr} {n2 c2 : Nat} (hx : a.eval x = .slice (some ⟨b, off, none⟩) 1 1) (hc : w.cell? ⟨b, off, none⟩ = some (.slice A2 n2 c2))
    (hb : (n + 1) * 24 ≤ 140737488355328) (hbase : base ≤ w.heap.size)
    (h : ∀ A' c' w', OwnV w' base A' (n + 1) c' (vs ++ [.slice A2 n2 c2]) → w.grownBy w' (A.map (·.block)) → (A'.map (·.block) = A.map (·.block) ∨ A'.map (·.block) = some w.heap.size) → K (a.put o.dst (.slice A' (n + 1) c')) w') :
    if Region.wanted o (yielded ops a.tmps) = true then Oper.wp Tryd.prog o a w K Q else E := by
  rw [if_pos hgd]
  exact wp_append_list s x ho hs hown hx hc hb hbase h

/-! ### What is collected -/
/-- These values are slices that read as these bodies, each of the call's own, none in block K. -/
def Each (w : World) (base : Nat) (K : Option Nat) (vs : List Value) (bs : List (List UInt8)) : Prop :=
  vs.length = bs.length ∧ ∀ (i : Nat) (b : List UInt8), bs[i]? = some b → ∃ A n c, vs[i]? = some (.slice A n c) ∧ OwnB w base A n c b ∧ (A.map (·.block) = none ∨ A.map (·.block) ≠ K)
theorem OwnB.typed {w : World} {base n c g : Nat} {l : List UInt8} (h : OwnB w base (some ⟨g, 0, none⟩) n c l) : ∃ C, w.heap[g]? = some (.cells C 5 (0, 0)) := by
  rcases h.2 with ⟨hv, _⟩ | ⟨g', cap, cur, hv, _, hg, _⟩
  · injection hv with h1; cases h1
  · injection hv with h1
    injection h1 with h1
    injection h1 with h1
    subst h1
    exact ⟨_, hg⟩
theorem OwnB.map_form {w : World} {base n c : Nat} {A : Option Addr} {l : List UInt8} (h : OwnB w base A n c l) : A.map (·.block) = none ∨ ∃ g, A = some ⟨g, 0, none⟩ ∧ A.map (·.block) = some g ∧ base ≤ g ∧ g < w.heap.size ∧ ∃ C, w.heap[g]? = some (.cells C 5 (0, 0)) := by
  rcases h.form with ⟨rfl, _⟩ | ⟨g, rfl, hb, hs, _⟩
  · exact .inl rfl
  · exact .inr ⟨g, rfl, rfl, hb, hs, h.typed⟩
section
variable {w w' : World} {base : Nat} {K : Option Nat} {vs : List Value} {bs : List (List UInt8)}
theorem Each.nil (w : World) (base : Nat) (K : Option Nat) : Each w base K [] [] := ⟨rfl, fun i b h => by simp at h⟩
theorem Each.later (h : Each w base K vs bs) (hb : Below w.heap.size w w') : Each w' base K vs bs :=
  ⟨h.1, fun i b hi => by
    obtain ⟨A, n, c, hv, ho, hk⟩ := h.2 i b hi
    exact ⟨A, n, c, hv, ho.later hb, hk⟩⟩
theorem Each.snoc (h : Each w base K vs bs) {A : Option Addr} {n c : Nat} {b : List UInt8} (ho : OwnB w base A n c b) (hk : A.map (·.block) = none ∨ A.map (·.block) ≠ K) : Each w base K (vs ++ [.slice A n c]) (bs ++ [b]) := by
  refine ⟨by simp [h.1], fun i b' hi => ?_⟩
  rcases Nat.lt_trichotomy i bs.length with hlt | heq | hgt
  · rw [List.getElem?_append_left hlt] at hi
    obtain ⟨A', n', c', hv, ho', hk'⟩ := h.2 i b' hi
    exact ⟨A', n', c', by rw [List.getElem?_append_left (by rw [h.1]; exact hlt)]; exact hv, ho', hk'⟩
  · subst heq
    rw [List.getElem?_append_right (Nat.le_refl _), Nat.sub_self] at hi
    simp at hi
    subst hi
    exact ⟨A, n, c, by rw [List.getElem?_append_right (by rw [h.1]; exact Nat.le_refl _), h.1, Nat.sub_self]; rfl, ho, hk⟩
  · rw [List.getElem?_eq_none (by simp; omega)] at hi
    cases hi
/-- Block K (the kinds' own) turns. -/
theorem Each.turn (h : Each w base K vs bs) (hg : w.grownBy w' K) : Each w' base K vs bs :=
  ⟨h.1, fun i b hi => by
    obtain ⟨A, n, c, hv, ho, hk⟩ := h.2 i b hi
    exact ⟨A, n, c, hv, ho.grown hg hk, hk⟩⟩
/-- Another block turns, that holds no bytes. -/
theorem Each.other {r : Option Nat} (h : Each w base K vs bs) (hg : w.grownBy w' r) (hr : ∀ k, r = some k → ∀ C, w.heap[k]? ≠ some (.cells C 5 (0, 0))) : Each w' base K vs bs :=
  ⟨h.1, fun i b hi => by
    obtain ⟨A, n, c, hv, ho, hk⟩ := h.2 i b hi
    refine ⟨A, n, c, hv, ho.grown hg ?_, hk⟩
    rcases ho.map_form with e | ⟨g, _, e, _, _, C, hC⟩
    · exact .inl e
    · exact .inr fun e' => hr g (by rw [← e', e]) C hC⟩
/-- The kinds lie in a new block. -/
theorem Each.moved (h : Each w base K vs bs) {g : Nat} (hg : w.heap.size ≤ g) : Each w base (some g) vs bs :=
  ⟨h.1, fun i b hi => by
    obtain ⟨A, n, c, hv, ho, hk⟩ := h.2 i b hi
    refine ⟨A, n, c, hv, ho, ?_⟩
    rcases ho.map_form with e | ⟨g', _, e, _, hs, _⟩
    · exact .inl e
    · exact .inr fun e' => by rw [e] at e'; cases e'; omega⟩
end
/-- Kinds and bodies that were collected. -/
structure Coll (w : World) (base : Nat) (AK : Option Addr) (nK cK : Nat) (ks : List UInt8) (AB : Option Addr) (nB cB : Nat) (bs : List (List UInt8)) : Prop where
  kinds : OwnB w base AK nK cK ks
  bodies : ∃ vs, OwnV w base AB nB cB vs ∧ Each w base (AK.map (·.block)) vs bs
section
variable {w w' : World} {base nK cK nB cB : Nat} {AK AB : Option Addr} {ks : List UInt8} {bs : List (List UInt8)}
theorem Coll.nil (w : World) (base : Nat) : Coll w base none 0 0 [] none 0 0 [] := ⟨OwnB.nil _ _, [], OwnV.nil _ _, Each.nil _ _ _⟩
theorem Coll.later (h : Coll w base AK nK cK ks AB nB cB bs) (hb : Below w.heap.size w w') : Coll w' base AK nK cK ks AB nB cB bs := by
  obtain ⟨hk, vs, hv, he⟩ := h
  exact ⟨hk.later hb, vs, hv.later hb, he.later hb⟩
theorem Coll.alloc (h : Coll w base AK nK cK ks AB nB cB bs) (o : Obj) : Coll (w.alloc o) base AK nK cK ks AB nB cB bs := h.later ((Below.refl _ w).alloc (Nat.le_refl _) o)
/-- A kind more: what the append's law leaves. -/
theorem Coll.kind (h : Coll w base AK nK cK ks AB nB cB bs) {A' : Option Addr} {c' : Nat} {k : UInt8} (ho : OwnB w' base A' (nK + 1) c' (ks ++ [k])) (hg : w.grownBy w' (AK.map (·.block)))
    (hat : A'.map (·.block) = AK.map (·.block) ∨ A'.map (·.block) = some w.heap.size) : Coll w' base A' (nK + 1) c' (ks ++ [k]) AB nB cB bs := by
  obtain ⟨hk, vs, hv, he⟩ := h
  refine ⟨ho, vs, ?_, ?_⟩
  · refine hv.grown hg ?_
    rcases hv.form with ⟨rfl, _⟩ | ⟨g, rfl, _, _, _, C, hC⟩
    · exact .inl rfl
    · refine .inr fun e => ?_
      rcases hk.map_form with e' | ⟨g', _, e', _, _, C', hC'⟩
      · rw [e'] at e; cases e
      · rw [e'] at e
        cases e
        rw [hC] at hC'
        cases hC'
  · rcases hat with e | e
    · rw [e]
      exact he.turn hg
    · have h1 := he.turn hg
      rw [e]
      have h2 : Each w base (some w.heap.size) vs bs := he.moved (Nat.le_refl _)
      refine ⟨h1.1, fun i b hi => ?_⟩
      obtain ⟨A, n, c, hv1, ho1, _⟩ := h1.2 i b hi
      obtain ⟨A2, n2, c2, hv2, _, hk2⟩ := h2.2 i b hi
      rw [hv1] at hv2
      injection hv2 with hv2
      injection hv2 with e1 e2 e3
      subst e1
      exact ⟨A, n, c, hv1, ho1, hk2⟩
/-- A body more: what the append's law leaves. -/
theorem coll_body {vs : List Value} (hk : OwnB w base AK nK cK ks) (hv : OwnV w base AB nB cB vs) (he : Each w base (AK.map (·.block)) vs bs) {A2 : Option Addr} {n2 c2 : Nat} {b : List UInt8} (hb : OwnB w base A2 n2 c2 b)
    (hne : A2.map (·.block) = none ∨ A2.map (·.block) ≠ AK.map (·.block)) {A' : Option Addr} {c' : Nat} (ho : OwnV w' base A' (nB + 1) c' (vs ++ [.slice A2 n2 c2])) (hg : w.grownBy w' (AB.map (·.block))) : Coll w' base AK nK cK ks A' (nB + 1) c' (bs ++ [b]) := by
  have hr : ∀ k, AB.map (·.block) = some k → ∀ C, w.heap[k]? ≠ some (.cells C 5 (0, 0)) := by
    intro k hk C hC
    rcases hv.form with ⟨rfl, _⟩ | ⟨g, rfl, _, _, _, C', hC'⟩
    · cases hk
    · cases hk
      rw [hC] at hC'
      cases hC'
  have hB : ∀ {A : Option Addr} {n c : Nat} {l : List UInt8}, OwnB w base A n c l → OwnB w' base A n c l := fun {A n c l} ho => ho.grown hg (by
    rcases ho.map_form with e | ⟨g, _, e, _, _, C, hC⟩
    · exact .inl e
    · exact .inr fun e' => hr g (by rw [← e', e]) C hC)
  exact ⟨hB hk, _, ho, (he.other hg hr).snoc (hB hb) hne⟩
/-- Where the kinds have gone, the body does not lie. -/
theorem apart_after {base2 n2 c2 : Nat} {A2 A4 : Option Addr} {b : List UInt8} (ho : OwnB w base2 A2 n2 c2 b) (hne : A2.map (·.block) = none ∨ A2.map (·.block) ≠ AK.map (·.block))
    (hat : A4.map (·.block) = AK.map (·.block) ∨ A4.map (·.block) = some w.heap.size) : A2.map (·.block) = none ∨ A2.map (·.block) ≠ A4.map (·.block) := by
  rcases hat with e | e
  · rw [e]; exact hne
  · rcases ho.map_form with h | ⟨g, _, h, _, hs, _⟩
    · exact .inl h
    · exact .inr fun e' => by rw [h, e] at e'; cases e'; omega
/-- What is new lies apart from what was. -/
theorem apart_new {base1 base2 n1 c1 n2 c2 : Nat} {A1 A2 : Option Addr} {a b : List UInt8} (h1 : OwnB w base1 A1 n1 c1 a) (h2 : OwnB w' base2 A2 n2 c2 b) (hb : w.heap.size ≤ base2) : A2.map (·.block) = none ∨ A2.map (·.block) ≠ A1.map (·.block) := by
  rcases h2.map_form with h | ⟨g, _, h, hg, _⟩
  · exact .inl h
  · rcases h1.map_form with h' | ⟨g', _, h', _, hs, _⟩
    · exact .inr fun e => by rw [h, h'] at e; cases e
    · exact .inr fun e => by rw [h, h'] at e; cases e; omega
end
end Go.Proofs.YtddcfgbembjbhaaDoor
